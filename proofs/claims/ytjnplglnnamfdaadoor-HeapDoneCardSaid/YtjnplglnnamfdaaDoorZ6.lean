/- HeapDoneRow9: part 6 of the proof. -/
import Derived.Test.YtjnplglnnamfdaaDoorZ5
import Derived.Lib.Bytealg
import Derived.Test.YtjnplglnnamfdaaDoorRows
import Derived.ProofKit
import Derived.OpenShut
import Derived.Below
import Derived.ChangeSame
import Derived.WideKeyArgs
import Derived.SliceStrings
import Derived.ChangeMaps5
import Derived.Lib.SmallJoins
import Derived.SizedLaws
import Derived.LaidMore
import Derived.Stop.Joined
import Derived.Test.YtjnplglnnamfdaaDoorCards
import Derived.Test.YtjnplglnnamfdaaDoorTie
import Derived.SevenTiedAt
import Derived.WalkKit
set_option linter.unusedVariables false
set_option linter.unusedSimpArgs false
namespace Go.Proofs.YtjnplglnnamfdaaDoor
section
open Go.RowKit
set_option linter.unusedVariables false
set_option linter.unusedSimpArgs false
def kindsL : List Value := [.func (.func 141) #[] #[], .func (.func 142) #[] #[], .func (.func 144) #[] #[]]
/-- what the listed variable value.kinds holds -/
def KindsAt (w : World) : Prop := ∀ k v, kindsL[k]? = some v → w.cell? ⟨0, k, none⟩ = some v
theorem KindsAt.ext {w W : World} (h : KindsAt w) (hx : Ext w W) : KindsAt W := fun k v hv => (hx.cell (World.block_lt_of_cell? w _ (h k v hv))).trans (h k v hv)
theorem KindsAt.at_ {w W : World} (h : KindsAt w) (hx : Ext w W) (k : Nat) {v : Value} (hv : kindsL[k]? = some v) : W.cell? ⟨0, k, none⟩ = some v := h.ext hx k v hv
theorem compareBytes_self : ∀ l : List UInt8, Lib.compareBytes l l = 0
  | [] => rfl
  | a :: l => by rw [Lib.compareBytes, if_neg (UInt8.lt_irrefl a), if_neg (UInt8.lt_irrefl a)]; exact compareBytes_self l
set_option maxRecDepth 100000 in
set_option maxHeartbeats 1000000 in
theorem bcmp_any (a b : ByteArray) (w : World) : Calls Tryd.prog 147 #[.string a, .string b] w (Ret (.int .i64 (Lib.compareBytes a.data.toList b.data.toList)) w) := by
  go_enter Tryd.func147, Tryd.ntmps147
  go_wp2
  rw [run_callFunc_extern Tryd.func148 (by kernel_rfl) (by kernel_rfl) (by kernel_rfl) (e := Extern.BytealgCompare.compare) (by kernel_rfl), Lib.run_compareString]
  simp only [Result.andThen]
  rw [Oper.upon_value]
  go_wp2
  go_ret
  exact Ret.of rfl (Ext.refl _)
theorem right_known {rs : List Val} (h : rrightF rs = true) : ∀ v ∈ rs, v.1 = 0 ∨ v.1 = 1 ∨ v.1 = 2 := fun v hv => by
  rw [rrightF, Bool.and_eq_true, List.all_eq_true] at h
  have h1 := h.1 v hv
  simp only [vrightF, knownF, Bool.and_eq_true, decide_eq_true_eq] at h1
  omega
set_option maxRecDepth 100000 in
set_option maxHeartbeats 2000000 in
theorem cnani_any (x : Int) (w : World) :
    Calls Tryd.prog 74 #[.int .i64 x] w (Ret (.bool false) w) := by
  go_enter Tryd.func74, Tryd.ntmps74
  have hst0 := St.start w
  refine wp_seq (wp_region_P [0] [.k 2 (.bool false)] [(2, 0, 1, 3)] hst0 fun W1 hst1 => ?_)
  refine then_normal (wp_seq (wp_region_P [0, 0, 3, 7] [.k 3 (vi x), .k 4 (vi x), .k 5 (.bool (x != x)), .k 2 (.bool (x != x))] [(2, 3, 1, 3), (0, 0, 3, 3)] hst1 fun W2 hst2 => ?_))
  refine then_normal (wp_ret ?_)
  refine bodyPost_ret (v := .bool (x != x)) (results_tmp Tryd.results74 rfl) rfl ?_
  exact Ret.bool (by simp) hst2.ext
set_option maxRecDepth 100000 in
set_option maxHeartbeats 2000000 in
theorem ccmpi_same (x : Int) (w : World) :
    Calls Tryd.prog 37 #[.int .i64 x, .int .i64 x] w (Ret (.int .i64 0) w) := by
  go_enter Tryd.func37, Tryd.ntmps37
  have hst0 := St.start w
  refine wp_seq (wp_region_P [0] [.k 4 (vi 0)] [(4, 0, 1, 5)] hst0 fun W1 hst1 => ?_)
  refine then_normal (wp_seq (wp_region_Z [0, 1, 3] [] [.k 7 (vi x), .c 8 (.bool false), .k 5 (.bool false)] [] [1] [(5, 2, 1, 6), (1, 0, 2, 3)] hst1 ?_ fun W2 hst2 => ?_))
  · refine ⟨?_, trivial⟩
    · exact xsc rfl id rfl rfl fun cx => ⟨_, cnani_any x _, (map1 (cx.an 0))⟩
  refine then_normal (wp_seq (wp_region_Z [0, 1, 3] [] [.k 9 (vi x), .c 10 (.bool false), .k 6 (.bool false)] [] [1] [(6, 2, 1, 7), (2, 0, 2, 4)] hst2 ?_ fun W3 hst3 => ?_))
  · refine ⟨?_, trivial⟩
    · exact xsc rfl id rfl rfl fun cx => ⟨_, cnani_any x _, (map1 (cx.an 0))⟩
  refine then_normal (wp_seq (wp_seq (wp_region_P [0] [.k 11 (.bool false)] [(11, 0, 1, 12)] hst3 fun W4 hst4 => ?_)))
  refine then_normal (wp_cond_false (show Act.eval _ _ = .bool false from rfl) (wp_skip (then_normal (wp_seq (wp_seq (wp_region_P [0] [.k 13 (.bool false)] [(13, 0, 1, 14)] hst4 fun W5 hst5 => ?_))))))
  refine then_normal (wp_cond_false (show Act.eval _ _ = .bool false from rfl) (wp_skip (then_normal (wp_seq (wp_seq ?_)))))
  have hd7 : (decide (x < x)) = false := (decide_eq_false (by omega))
  refine wp_region_P [0, 0, 3] [.k 14 (vi x), .k 15 (vi x), .e 16 (.bool (decide (x < x))) (.bool false) (congrArg Value.bool hd7)] [(14, 0, 3, 17)] hst5 fun W6 hst6 => ?_
  refine then_normal (wp_cond_false (show Act.eval _ _ = .bool false from rfl) (wp_skip (then_normal (wp_seq (wp_seq (wp_region_P [0, 0, 3] [.k 17 (vi x), .k 18 (vi x), .e 19 (.bool (decide (x < x))) (.bool false) (congrArg Value.bool hd7)] [(17, 0, 3, 20)] hst6 fun W8 hst8 => ?_))))))
  refine then_normal (wp_cond_false (show Act.eval _ _ = .bool false from rfl) (wp_skip (then_normal (wp_seq (wp_region_P [0] [.k 4 (vi 0)] [(4, 0, 1, 5)] hst8 fun W9 hst9 => ?_)))))
  refine then_normal (wp_ret ?_)
  refine bodyPost_ret (v := vi 0) (results_tmp Tryd.results37 rfl) rfl ?_
  exact Ret.of rfl hst9.ext
set_option maxRecDepth 100000 in
set_option maxHeartbeats 2000000 in
theorem cnanl_any (x : Int) (w : World) :
    Calls Tryd.prog 146 #[.int .i64 x] w (Ret (.bool false) w) := by
  go_enter Tryd.func146, Tryd.ntmps146
  have hst0 := St.start w
  refine wp_seq (wp_region_P [0] [.k 2 (.bool false)] [(2, 0, 1, 3)] hst0 fun W1 hst1 => ?_)
  refine then_normal (wp_seq (wp_region_P [0, 0, 3, 7] [.k 3 (vi x), .k 4 (vi x), .k 5 (.bool (x != x)), .k 2 (.bool (x != x))] [(2, 3, 1, 3), (0, 0, 3, 3)] hst1 fun W2 hst2 => ?_))
  refine then_normal (wp_ret ?_)
  refine bodyPost_ret (v := .bool (x != x)) (results_tmp Tryd.results146 rfl) rfl ?_
  exact Ret.bool (by simp) hst2.ext
set_option maxRecDepth 100000 in
set_option maxHeartbeats 2000000 in
theorem ccmpl_same (x : Int) (w : World) :
    Calls Tryd.prog 143 #[.int .i64 x, .int .i64 x] w (Ret (.int .i64 0) w) := by
  go_enter Tryd.func143, Tryd.ntmps143
  have hst0 := St.start w
  refine wp_seq (wp_region_P [0] [.k 4 (vi 0)] [(4, 0, 1, 5)] hst0 fun W1 hst1 => ?_)
  refine then_normal (wp_seq (wp_region_Z [0, 1, 3] [] [.k 7 (vi x), .c 8 (.bool false), .k 5 (.bool false)] [] [1] [(5, 2, 1, 6), (1, 0, 2, 3)] hst1 ?_ fun W2 hst2 => ?_))
  · refine ⟨?_, trivial⟩
    · exact xsc rfl id rfl rfl fun cx => ⟨_, cnanl_any x _, (map1 (cx.an 0))⟩
  refine then_normal (wp_seq (wp_region_Z [0, 1, 3] [] [.k 9 (vi x), .c 10 (.bool false), .k 6 (.bool false)] [] [1] [(6, 2, 1, 7), (2, 0, 2, 4)] hst2 ?_ fun W3 hst3 => ?_))
  · refine ⟨?_, trivial⟩
    · exact xsc rfl id rfl rfl fun cx => ⟨_, cnanl_any x _, (map1 (cx.an 0))⟩
  refine then_normal (wp_seq (wp_seq (wp_region_P [0] [.k 11 (.bool false)] [(11, 0, 1, 12)] hst3 fun W4 hst4 => ?_)))
  refine then_normal (wp_cond_false (show Act.eval _ _ = .bool false from rfl) (wp_skip (then_normal (wp_seq (wp_seq (wp_region_P [0] [.k 13 (.bool false)] [(13, 0, 1, 14)] hst4 fun W5 hst5 => ?_))))))
  refine then_normal (wp_cond_false (show Act.eval _ _ = .bool false from rfl) (wp_skip (then_normal (wp_seq (wp_seq ?_)))))
  have hd7 : (decide (x < x)) = false := (decide_eq_false (by omega))
  refine wp_region_P [0, 0, 3] [.k 14 (vi x), .k 15 (vi x), .e 16 (.bool (decide (x < x))) (.bool false) (congrArg Value.bool hd7)] [(14, 0, 3, 17)] hst5 fun W6 hst6 => ?_
  refine then_normal (wp_cond_false (show Act.eval _ _ = .bool false from rfl) (wp_skip (then_normal (wp_seq (wp_seq (wp_region_P [0, 0, 3] [.k 17 (vi x), .k 18 (vi x), .e 19 (.bool (decide (x < x))) (.bool false) (congrArg Value.bool hd7)] [(17, 0, 3, 20)] hst6 fun W8 hst8 => ?_))))))
  refine then_normal (wp_cond_false (show Act.eval _ _ = .bool false from rfl) (wp_skip (then_normal (wp_seq (wp_region_P [0] [.k 4 (vi 0)] [(4, 0, 1, 5)] hst8 fun W9 hst9 => ?_)))))
  refine then_normal (wp_ret ?_)
  refine bodyPost_ret (v := vi 0) (results_tmp Tryd.results143 rfl) rfl ?_
  exact Ret.of rfl hst9.ext
set_option maxRecDepth 100000 in
set_option maxHeartbeats 2000000 in
theorem scmp_same (s : ByteArray) (w : World) :
    Calls Tryd.prog 145 #[.string s, .string s] w (Ret (.int .i64 0) w) := by
  go_enter Tryd.func145, Tryd.ntmps145
  have hst0 := St.start w
  refine wp_seq (wp_region_P [0] [.k 4 (vi 0)] [(4, 0, 1, 5)] hst0 fun W1 hst1 => ?_)
  refine then_normal (wp_seq (wp_region_Z [0, 0, 3, 7] [] [.k 5 (.string s), .k 6 (.string s), .c 7 (vi ((Lib.compareBytes s.data.toList s.data.toList))), .k 4 (vi ((Lib.compareBytes s.data.toList s.data.toList)))] [] [2] [(4, 3, 1, 5), (0, 0, 3, 3)] hst1 ?_ fun W2 hst2 => ?_))
  · refine ⟨?_, trivial⟩
    · exact xsc rfl id rfl rfl fun cx => ⟨_, bcmp_any _ _ _, (map2 (cx.an 0) (cx.an 1))⟩
  refine then_normal (wp_ret ?_)
  refine bodyPost_ret (v := vi ((Lib.compareBytes s.data.toList s.data.toList))) (results_tmp Tryd.results145 rfl) rfl ?_
  exact Ret.of (by rw [compareBytes_self]) hst2.ext
set_option maxRecDepth 100000 in
set_option maxHeartbeats 2000000 in
theorem kind1_same (k n : Int) (s : ByteArray) (w : World) :
    Calls Tryd.prog 141 #[.agg #[.int .i64 k, .int .i64 n, .string s], .agg #[.int .i64 k, .int .i64 n, .string s]] w (Ret (.int .i64 0) w) := by
  go_enter Tryd.func141, Tryd.ntmps141
  have hst0 := St.start w
  refine wp_seq (wp_region_Y [0, 0, 0] [] [[0], [1]] [] [.a 2, .a 3, .k 4 (vi 0)] (fun ix σ β X => match ix with | 0 => σ 2 = vp (pb (β 2)) ∧ X 0 = eB (pb (β 2)) 82 #[vi k, vi n, .string s] | 1 => σ 3 = vp (pb (β 3)) ∧ X 1 = eB (pb (β 3)) 82 #[vi k, vi n, .string s] | _ => True) [0, 1] [0, 1] [(2, 0, 3, 5)] hst0 ?_ ?_ ?_)
  · exact fun ix _ _ _ _ _ _ hs hb hx h => match ix, h with
    | 0, h => by dsimp only at h ⊢; rw [← hs 2 rfl, ← hb 2 rfl, ← hx 0 rfl]; exact h
    | 1, h => by dsimp only at h ⊢; rw [← hs 3 rfl, ← hb 3 rfl, ← hx 1 rfl]; exact h
    | _ + 2, _ => trivial
  · refine ⟨?_, ?_, trivial⟩
    · refine sv_any rfl rfl fun ρ β W X cx => ?_
      exact dv_box (cs := #[vi k, vi n, .string s]) rfl (cx.ou 0) rfl rfl rfl (fun σ β' X' hs hb hv hx => ⟨hv, hx⟩)
    · refine sv_any rfl rfl fun ρ β W X cx => ?_
      exact dv_box (cs := #[vi k, vi n, .string s]) rfl (cx.ou 1) rfl rfl rfl (fun σ β' X' hs hb hv hx => ⟨hv, hx⟩)
  intro σ β X W1 hD hst1 fr hfr
  obtain ⟨B2_1, hu_B2_1⟩ : ∃ z, pb (β 2) = z := ⟨_, rfl⟩
  obtain ⟨B3_1, hu_B3_1⟩ : ∃ z, pb (β 3) = z := ⟨_, rfl⟩
  simp only [exq 0 ((dTn (hD 0 lq)).2), exq 1 ((dTn (hD 1 lq)).2), hu_B2_1, hu_B3_1] at hst1
  simp only [ed 2 ((dTn (hD 0 lq)).1), ed 3 ((dTn (hD 1 lq)).1), hu_B2_1, hu_B3_1] at hfr
  clear hD hu_B2_1 hu_B3_1; subst hfr; clear σ β X
  refine then_normal (wp_seq (wp_region_P [0] [.k 4 (vi 0)] [(4, 0, 1, 5)] hst1 fun W2 hst2 => ?_))
  refine then_normal (wp_ret ?_)
  refine bodyPost_ret (v := vi 0) (results_tmp Tryd.results141 rfl) rfl ?_
  exact Ret.of rfl hst2.ext
set_option maxRecDepth 100000 in
set_option maxHeartbeats 2000000 in
theorem kind2_same (k n : Int) (s : ByteArray) (w : World) :
    Calls Tryd.prog 142 #[.agg #[.int .i64 k, .int .i64 n, .string s], .agg #[.int .i64 k, .int .i64 n, .string s]] w (Ret (.int .i64 0) w) := by
  go_enter Tryd.func142, Tryd.ntmps142
  have hst0 := St.start w
  refine wp_seq (wp_region_Y [0, 0, 0] [] [[0], [1]] [] [.a 2, .a 3, .k 4 (vi 0)] (fun ix σ β X => match ix with | 0 => σ 2 = vp (pb (β 2)) ∧ X 0 = eB (pb (β 2)) 82 #[vi k, vi n, .string s] | 1 => σ 3 = vp (pb (β 3)) ∧ X 1 = eB (pb (β 3)) 82 #[vi k, vi n, .string s] | _ => True) [0, 1] [0, 1] [(2, 0, 3, 5)] hst0 ?_ ?_ ?_)
  · exact fun ix _ _ _ _ _ _ hs hb hx h => match ix, h with
    | 0, h => by dsimp only at h ⊢; rw [← hs 2 rfl, ← hb 2 rfl, ← hx 0 rfl]; exact h
    | 1, h => by dsimp only at h ⊢; rw [← hs 3 rfl, ← hb 3 rfl, ← hx 1 rfl]; exact h
    | _ + 2, _ => trivial
  · refine ⟨?_, ?_, trivial⟩
    · refine sv_any rfl rfl fun ρ β W X cx => ?_
      exact dv_box (cs := #[vi k, vi n, .string s]) rfl (cx.ou 0) rfl rfl rfl (fun σ β' X' hs hb hv hx => ⟨hv, hx⟩)
    · refine sv_any rfl rfl fun ρ β W X cx => ?_
      exact dv_box (cs := #[vi k, vi n, .string s]) rfl (cx.ou 1) rfl rfl rfl (fun σ β' X' hs hb hv hx => ⟨hv, hx⟩)
  intro σ β X W1 hD hst1 fr hfr
  obtain ⟨B2_1, hu_B2_1⟩ : ∃ z, pb (β 2) = z := ⟨_, rfl⟩
  obtain ⟨B3_1, hu_B3_1⟩ : ∃ z, pb (β 3) = z := ⟨_, rfl⟩
  simp only [exq 0 ((dTn (hD 0 lq)).2), exq 1 ((dTn (hD 1 lq)).2), hu_B2_1, hu_B3_1] at hst1
  simp only [ed 2 ((dTn (hD 0 lq)).1), ed 3 ((dTn (hD 1 lq)).1), hu_B2_1, hu_B3_1] at hfr
  clear hD hu_B2_1 hu_B3_1; subst hfr; clear σ β X
  refine then_normal (wp_seq (wp_region_Z [0, 1, 0, 4, 15, 31] [[], [0], [], [1]] [.k 5 (.pointer (some ⟨B2_1, 1, none⟩)), .c 6 (vi n), .k 7 (.pointer (some ⟨B3_1, 1, none⟩)), .c 8 (vi n), .c 9 (vi 0), .k 4 (vi 0)] [0, 1] [1, 3, 4] [(4, 5, 1, 5), (0, 0, 5, 5)] hst1 ?_ fun W2 hst2 => ?_))
  · refine ⟨?_, ?_, ?_, trivial⟩
    · exact xs4 rfl id fun cx => run_load1 rfl (by kernel_rfl) (cx.an 0) ((cx.bi 0 rfl).cell 1)
    · exact xs4 rfl id fun cx => run_load1 rfl (by kernel_rfl) (cx.an 2) ((cx.bi 1 rfl).cell 1)
    · exact xsc rfl id rfl rfl fun cx => ⟨_, ccmpl_same n _, (map2 (cx.an 1) (cx.an 3))⟩
  refine then_normal (wp_ret ?_)
  refine bodyPost_ret (v := vi 0) (results_tmp Tryd.results142 rfl) rfl ?_
  exact Ret.of rfl hst2.ext
set_option maxRecDepth 100000 in
set_option maxHeartbeats 2000000 in
theorem kind3_same (k n : Int) (s : ByteArray) (w : World) :
    Calls Tryd.prog 144 #[.agg #[.int .i64 k, .int .i64 n, .string s], .agg #[.int .i64 k, .int .i64 n, .string s]] w (Ret (.int .i64 0) w) := by
  go_enter Tryd.func144, Tryd.ntmps144
  have hst0 := St.start w
  refine wp_seq (wp_region_Y [0, 0, 0] [] [[0], [1]] [] [.a 2, .a 3, .k 4 (vi 0)] (fun ix σ β X => match ix with | 0 => σ 2 = vp (pb (β 2)) ∧ X 0 = eB (pb (β 2)) 82 #[vi k, vi n, .string s] | 1 => σ 3 = vp (pb (β 3)) ∧ X 1 = eB (pb (β 3)) 82 #[vi k, vi n, .string s] | _ => True) [0, 1] [0, 1] [(2, 0, 3, 5)] hst0 ?_ ?_ ?_)
  · exact fun ix _ _ _ _ _ _ hs hb hx h => match ix, h with
    | 0, h => by dsimp only at h ⊢; rw [← hs 2 rfl, ← hb 2 rfl, ← hx 0 rfl]; exact h
    | 1, h => by dsimp only at h ⊢; rw [← hs 3 rfl, ← hb 3 rfl, ← hx 1 rfl]; exact h
    | _ + 2, _ => trivial
  · refine ⟨?_, ?_, trivial⟩
    · refine sv_any rfl rfl fun ρ β W X cx => ?_
      exact dv_box (cs := #[vi k, vi n, .string s]) rfl (cx.ou 0) rfl rfl rfl (fun σ β' X' hs hb hv hx => ⟨hv, hx⟩)
    · refine sv_any rfl rfl fun ρ β W X cx => ?_
      exact dv_box (cs := #[vi k, vi n, .string s]) rfl (cx.ou 1) rfl rfl rfl (fun σ β' X' hs hb hv hx => ⟨hv, hx⟩)
  intro σ β X W1 hD hst1 fr hfr
  obtain ⟨B2_1, hu_B2_1⟩ : ∃ z, pb (β 2) = z := ⟨_, rfl⟩
  obtain ⟨B3_1, hu_B3_1⟩ : ∃ z, pb (β 3) = z := ⟨_, rfl⟩
  simp only [exq 0 ((dTn (hD 0 lq)).2), exq 1 ((dTn (hD 1 lq)).2), hu_B2_1, hu_B3_1] at hst1
  simp only [ed 2 ((dTn (hD 0 lq)).1), ed 3 ((dTn (hD 1 lq)).1), hu_B2_1, hu_B3_1] at hfr
  clear hD hu_B2_1 hu_B3_1; subst hfr; clear σ β X
  refine then_normal (wp_seq (wp_region_Z [0, 1, 0, 4, 15, 31] [[], [0], [], [1]] [.k 5 (.pointer (some ⟨B2_1, 2, none⟩)), .c 6 (.string s), .k 7 (.pointer (some ⟨B3_1, 2, none⟩)), .c 8 (.string s), .c 9 (vi 0), .k 4 (vi 0)] [0, 1] [1, 3, 4] [(4, 5, 1, 5), (0, 0, 5, 5)] hst1 ?_ fun W2 hst2 => ?_))
  · refine ⟨?_, ?_, ?_, trivial⟩
    · exact xs4 rfl id fun cx => run_load1 rfl (by kernel_rfl) (cx.an 0) ((cx.bi 0 rfl).cell 2)
    · exact xs4 rfl id fun cx => run_load1 rfl (by kernel_rfl) (cx.an 2) ((cx.bi 1 rfl).cell 2)
    · exact xsc rfl id rfl rfl fun cx => ⟨_, scmp_same _ _, (map2 (cx.an 1) (cx.an 3))⟩
  refine then_normal (wp_ret ?_)
  refine bodyPost_ret (v := vi 0) (results_tmp Tryd.results144 rfl) rfl ?_
  exact Ret.of rfl hst2.ext
set_option maxRecDepth 100000 in
set_option maxHeartbeats 2000000 in
theorem vrank_0  (w : World) :
    Calls Tryd.prog 72 #[.int .i64 0] w (Ret (.int .i64 0) w) := by
  go_enter Tryd.func72, Tryd.ntmps72
  have hst0 := St.start w
  refine wp_seq (wp_region_P [0] [.k 2 (vi 0)] [(2, 0, 1, 3)] hst0 fun W1 hst1 => ?_)
  refine then_normal (wp_seq (wp_seq (wp_region_Z [0, 1] [] [.k 3 (vi 0), .c 4 (.bool true)] [] [1] [(3, 0, 2, 5)] hst1 ?_ fun W2 hst2 => ?_)))
  · refine ⟨?_, trivial⟩
    · exact xsc rfl id rfl rfl fun cx => ⟨_, vknown_any 0 _, (map1 (cx.an 0))⟩
  refine then_normal (wp_cond_true (show Act.eval _ _ = .bool true from rfl) (wp_seq (wp_region_P [0, 1] [.k 5 (vi 0), .k 2 (vi 0)] [(2, 1, 1, 3), (2, 0, 1, 3)] hst2 fun W3 hst3 => ?_)))
  refine then_normal (wp_ret (then_ret ?_))
  refine bodyPost_ret (v := vi 0) (results_tmp Tryd.results72 rfl) rfl ?_
  exact Ret.of rfl hst3.ext
set_option maxRecDepth 100000 in
set_option maxHeartbeats 2000000 in
theorem vcmp_0 (n : Int) (s : ByteArray) (w : World) (hK : KindsAt w) :
    Calls Tryd.prog 36 #[.agg #[.int .i64 0, .int .i64 n, .string s], .agg #[.int .i64 0, .int .i64 n, .string s]] w (Ret (.int .i64 0) w) := by
  go_enter Tryd.func36, Tryd.ntmps36
  have hst0 := St.start w
  refine wp_seq (wp_region_Y [0, 0, 0] [] [[0], [1]] [] [.a 2, .a 3, .k 4 (vi 0)] (fun ix σ β X => match ix with | 0 => σ 2 = vp (pb (β 2)) ∧ X 0 = eB (pb (β 2)) 82 #[vi 0, vi n, .string s] | 1 => σ 3 = vp (pb (β 3)) ∧ X 1 = eB (pb (β 3)) 82 #[vi 0, vi n, .string s] | _ => True) [0, 1] [0, 1] [(2, 0, 3, 5)] hst0 ?_ ?_ ?_)
  · exact fun ix _ _ _ _ _ _ hs hb hx h => match ix, h with
    | 0, h => by dsimp only at h ⊢; rw [← hs 2 rfl, ← hb 2 rfl, ← hx 0 rfl]; exact h
    | 1, h => by dsimp only at h ⊢; rw [← hs 3 rfl, ← hb 3 rfl, ← hx 1 rfl]; exact h
    | _ + 2, _ => trivial
  · refine ⟨?_, ?_, trivial⟩
    · refine sv_any rfl rfl fun ρ β W X cx => ?_
      exact dv_box (cs := #[vi 0, vi n, .string s]) rfl (cx.ou 0) rfl rfl rfl (fun σ β' X' hs hb hv hx => ⟨hv, hx⟩)
    · refine sv_any rfl rfl fun ρ β W X cx => ?_
      exact dv_box (cs := #[vi 0, vi n, .string s]) rfl (cx.ou 1) rfl rfl rfl (fun σ β' X' hs hb hv hx => ⟨hv, hx⟩)
  intro σ β X W1 hD hst1 fr hfr
  obtain ⟨B2_1, hu_B2_1⟩ : ∃ z, pb (β 2) = z := ⟨_, rfl⟩
  obtain ⟨B3_1, hu_B3_1⟩ : ∃ z, pb (β 3) = z := ⟨_, rfl⟩
  simp only [exq 0 ((dTn (hD 0 lq)).2), exq 1 ((dTn (hD 1 lq)).2), hu_B2_1, hu_B3_1] at hst1
  simp only [ed 2 ((dTn (hD 0 lq)).1), ed 3 ((dTn (hD 1 lq)).1), hu_B2_1, hu_B3_1] at hfr
  clear hD hu_B2_1 hu_B3_1; subst hfr; clear σ β X
  refine then_normal (wp_seq (wp_seq (wp_region_Z [0, 1, 3, 0, 8, 31, 63, 127] [[], [0], [], [], [1]] [.k 6 (vp B2_1), .c 7 (vi 0), .c 8 (vi 0), .k 9 (vp B3_1), .c 10 (vi 0), .c 11 (vi 0), .c 12 (vi 0), .k 5 (vi 0)] [0, 1] [1, 2, 4, 5, 6] [(5, 7, 1, 6), (0, 0, 7, 7)] hst1 ?_ fun W2 hst2 => ?_)))
  · refine ⟨?_, ?_, ?_, ?_, ?_, trivial⟩
    · exact xs4 rfl id fun cx => run_load1 rfl (by kernel_rfl) (cx.an 0) ((cx.bi 0 rfl).cell 0)
    · exact xsc rfl id rfl rfl fun cx => ⟨_, vrank_0 _, (map1 (cx.an 1))⟩
    · exact xs4 rfl id fun cx => run_load1 rfl (by kernel_rfl) (cx.an 3) ((cx.bi 1 rfl).cell 0)
    · exact xsc rfl id rfl rfl fun cx => ⟨_, vrank_0 _, (map1 (cx.an 4))⟩
    · exact xsc rfl id rfl rfl fun cx => ⟨_, ccmpi_same 0 _, (map2 (cx.an 2) (cx.an 5))⟩
  refine then_normal (wp_seq (wp_region_Z [0, 1, 3, 7, 15, 31, 63, 127] [[], [], [], [], [0]] [.k 13 (vi 0), .k 14 (.bool false), .k 15 (.bool false), .k 16 (vp B2_1), .c 17 (vi 0), .c 18 (.bool true), .k 19 (.bool false), .k 20 (.bool false)] [0, 1] [4, 5] [(13, 0, 8, 21)] hst2 ?_ fun W3 hst3 => ?_))
  · refine ⟨?_, ?_, trivial⟩
    · exact xs5 rfl id (fun cx => (cx.an 2)) fun cx => run_load1 rfl (by kernel_rfl) (cx.an 3) ((cx.bi 0 rfl).cell 0)
    · exact sv_call_on rfl rfl rfl rfl rfl rfl (fun _ _ _ h => h) (fun _ _ _ _ cx => (cx.an 2)) fun ρ β W X cx => ⟨_, _, run_callF (args := #[vi 0]) rfl cx.sees rfl (by kernel_rfl) (map1 (cx.an 4)), vknown_any 0 _⟩
  refine then_normal (wp_cond_false (show Act.eval _ _ = .bool false from rfl) (wp_skip (then_normal (wp_seq (wp_region_Z [0, 1, 3, 7, 0, 0, 63, 127] [[], [0], [], [], [0], [1]] [.k 22 (vp B2_1), .c 23 (vi 0), .c 24 (vp 0), .c 25 (.func (.func 141) #[] #[]), .c 26 (.agg #[vi 0, vi n, .string s]), .c 27 (.agg #[vi 0, vi n, .string s]), .c 28 (vi 0), .k 4 (vi 0)] [0, 1] [1, 2, 3, 4, 5, 6] [(4, 7, 1, 5), (17, 0, 7, 24)] hst3 ?_ fun W4 hst4 => ?_)))))
  · refine ⟨?_, ?_, ?_, ?_, ?_, ?_, trivial⟩
    · exact xs4 rfl id fun cx => run_load1 rfl (by kernel_rfl) (cx.an 0) ((cx.bi 0 rfl).cell 0)
    · exact xs4 rfl id fun cx => run_indexArrB (n := 3) (sz := 1) (m := 0) (q := 0) rfl (by kernel_rfl) (cx.sees.glob _) (cx.an 1) (by omega) (by omega) (by omega)
    · exact xs4 rfl id fun cx => run_load1 rfl (by kernel_rfl) (cx.an 2) (hK.at_ cx.upd.to_ext 0 rfl)
    · exact xs4 rfl id fun cx => run_loadB (n := 3) rfl (by kernel_rfl) (by kernel_rfl) (cx.ou 2) (cx.bi 0 rfl) (nle rfl) rfl
    · exact xs4 rfl id fun cx => run_loadB (n := 3) rfl (by kernel_rfl) (by kernel_rfl) (cx.ou 3) (cx.bi 1 rfl) (nle rfl) rfl
    · exact sv_call rfl rfl rfl rfl rfl (fun _ _ _ h => h) fun ρ β W X cx => ⟨_, _, run_callV (f := 141) (args := #[.agg #[vi 0, vi n, .string s], .agg #[vi 0, vi n, .string s]]) (args' := #[.agg #[vi 0, vi n, .string s], .agg #[vi 0, vi n, .string s]]) rfl rfl (cx.an 3) (by kernel_rfl) (map2 (cx.an 4) (cx.an 5)) rfl, kind1_same _ _ _ _⟩
  refine then_normal (wp_ret ?_)
  refine bodyPost_ret (v := vi 0) (results_tmp Tryd.results36 rfl) rfl ?_
  exact Ret.of rfl hst4.ext
set_option maxRecDepth 100000 in
set_option maxHeartbeats 2000000 in
theorem vrank_1  (w : World) :
    Calls Tryd.prog 72 #[.int .i64 1] w (Ret (.int .i64 1) w) := by
  go_enter Tryd.func72, Tryd.ntmps72
  have hst0 := St.start w
  refine wp_seq (wp_region_P [0] [.k 2 (vi 0)] [(2, 0, 1, 3)] hst0 fun W1 hst1 => ?_)
  refine then_normal (wp_seq (wp_seq (wp_region_Z [0, 1] [] [.k 3 (vi 1), .c 4 (.bool true)] [] [1] [(3, 0, 2, 5)] hst1 ?_ fun W2 hst2 => ?_)))
  · refine ⟨?_, trivial⟩
    · exact xsc rfl id rfl rfl fun cx => ⟨_, vknown_any 1 _, (map1 (cx.an 0))⟩
  refine then_normal (wp_cond_true (show Act.eval _ _ = .bool true from rfl) (wp_seq (wp_region_P [0, 1] [.k 5 (vi 1), .k 2 (vi 1)] [(2, 1, 1, 3), (2, 0, 1, 3)] hst2 fun W3 hst3 => ?_)))
  refine then_normal (wp_ret (then_ret ?_))
  refine bodyPost_ret (v := vi 1) (results_tmp Tryd.results72 rfl) rfl ?_
  exact Ret.of rfl hst3.ext
set_option maxRecDepth 100000 in
set_option maxHeartbeats 2000000 in
theorem vcmp_1 (n : Int) (s : ByteArray) (w : World) (hK : KindsAt w) :
    Calls Tryd.prog 36 #[.agg #[.int .i64 1, .int .i64 n, .string s], .agg #[.int .i64 1, .int .i64 n, .string s]] w (Ret (.int .i64 0) w) := by
  go_enter Tryd.func36, Tryd.ntmps36
  have hst0 := St.start w
  refine wp_seq (wp_region_Y [0, 0, 0] [] [[0], [1]] [] [.a 2, .a 3, .k 4 (vi 0)] (fun ix σ β X => match ix with | 0 => σ 2 = vp (pb (β 2)) ∧ X 0 = eB (pb (β 2)) 82 #[vi 1, vi n, .string s] | 1 => σ 3 = vp (pb (β 3)) ∧ X 1 = eB (pb (β 3)) 82 #[vi 1, vi n, .string s] | _ => True) [0, 1] [0, 1] [(2, 0, 3, 5)] hst0 ?_ ?_ ?_)
  · exact fun ix _ _ _ _ _ _ hs hb hx h => match ix, h with
    | 0, h => by dsimp only at h ⊢; rw [← hs 2 rfl, ← hb 2 rfl, ← hx 0 rfl]; exact h
    | 1, h => by dsimp only at h ⊢; rw [← hs 3 rfl, ← hb 3 rfl, ← hx 1 rfl]; exact h
    | _ + 2, _ => trivial
  · refine ⟨?_, ?_, trivial⟩
    · refine sv_any rfl rfl fun ρ β W X cx => ?_
      exact dv_box (cs := #[vi 1, vi n, .string s]) rfl (cx.ou 0) rfl rfl rfl (fun σ β' X' hs hb hv hx => ⟨hv, hx⟩)
    · refine sv_any rfl rfl fun ρ β W X cx => ?_
      exact dv_box (cs := #[vi 1, vi n, .string s]) rfl (cx.ou 1) rfl rfl rfl (fun σ β' X' hs hb hv hx => ⟨hv, hx⟩)
  intro σ β X W1 hD hst1 fr hfr
  obtain ⟨B2_1, hu_B2_1⟩ : ∃ z, pb (β 2) = z := ⟨_, rfl⟩
  obtain ⟨B3_1, hu_B3_1⟩ : ∃ z, pb (β 3) = z := ⟨_, rfl⟩
  simp only [exq 0 ((dTn (hD 0 lq)).2), exq 1 ((dTn (hD 1 lq)).2), hu_B2_1, hu_B3_1] at hst1
  simp only [ed 2 ((dTn (hD 0 lq)).1), ed 3 ((dTn (hD 1 lq)).1), hu_B2_1, hu_B3_1] at hfr
  clear hD hu_B2_1 hu_B3_1; subst hfr; clear σ β X
  refine then_normal (wp_seq (wp_seq (wp_region_Z [0, 1, 3, 0, 8, 31, 63, 127] [[], [0], [], [], [1]] [.k 6 (vp B2_1), .c 7 (vi 1), .c 8 (vi 1), .k 9 (vp B3_1), .c 10 (vi 1), .c 11 (vi 1), .c 12 (vi 0), .k 5 (vi 0)] [0, 1] [1, 2, 4, 5, 6] [(5, 7, 1, 6), (0, 0, 7, 7)] hst1 ?_ fun W2 hst2 => ?_)))
  · refine ⟨?_, ?_, ?_, ?_, ?_, trivial⟩
    · exact xs4 rfl id fun cx => run_load1 rfl (by kernel_rfl) (cx.an 0) ((cx.bi 0 rfl).cell 0)
    · exact xsc rfl id rfl rfl fun cx => ⟨_, vrank_1 _, (map1 (cx.an 1))⟩
    · exact xs4 rfl id fun cx => run_load1 rfl (by kernel_rfl) (cx.an 3) ((cx.bi 1 rfl).cell 0)
    · exact xsc rfl id rfl rfl fun cx => ⟨_, vrank_1 _, (map1 (cx.an 4))⟩
    · exact xsc rfl id rfl rfl fun cx => ⟨_, ccmpi_same 1 _, (map2 (cx.an 2) (cx.an 5))⟩
  refine then_normal (wp_seq (wp_region_Z [0, 1, 3, 7, 15, 31, 63, 127] [[], [], [], [], [0]] [.k 13 (vi 0), .k 14 (.bool false), .k 15 (.bool false), .k 16 (vp B2_1), .c 17 (vi 1), .c 18 (.bool true), .k 19 (.bool false), .k 20 (.bool false)] [0, 1] [4, 5] [(13, 0, 8, 21)] hst2 ?_ fun W3 hst3 => ?_))
  · refine ⟨?_, ?_, trivial⟩
    · exact xs5 rfl id (fun cx => (cx.an 2)) fun cx => run_load1 rfl (by kernel_rfl) (cx.an 3) ((cx.bi 0 rfl).cell 0)
    · exact sv_call_on rfl rfl rfl rfl rfl rfl (fun _ _ _ h => h) (fun _ _ _ _ cx => (cx.an 2)) fun ρ β W X cx => ⟨_, _, run_callF (args := #[vi 1]) rfl cx.sees rfl (by kernel_rfl) (map1 (cx.an 4)), vknown_any 1 _⟩
  refine then_normal (wp_cond_false (show Act.eval _ _ = .bool false from rfl) (wp_skip (then_normal (wp_seq (wp_region_Z [0, 1, 3, 7, 0, 0, 63, 127] [[], [0], [], [], [0], [1]] [.k 22 (vp B2_1), .c 23 (vi 1), .c 24 (.pointer (some ⟨0, 1, none⟩)), .c 25 (.func (.func 142) #[] #[]), .c 26 (.agg #[vi 1, vi n, .string s]), .c 27 (.agg #[vi 1, vi n, .string s]), .c 28 (vi 0), .k 4 (vi 0)] [0, 1] [1, 2, 3, 4, 5, 6] [(4, 7, 1, 5), (17, 0, 7, 24)] hst3 ?_ fun W4 hst4 => ?_)))))
  · refine ⟨?_, ?_, ?_, ?_, ?_, ?_, trivial⟩
    · exact xs4 rfl id fun cx => run_load1 rfl (by kernel_rfl) (cx.an 0) ((cx.bi 0 rfl).cell 0)
    · exact xs4 rfl id fun cx => run_indexArrB (n := 3) (sz := 1) (m := 1) (q := 1) rfl (by kernel_rfl) (cx.sees.glob _) (cx.an 1) (by omega) (by omega) (by omega)
    · exact xs4 rfl id fun cx => run_load1 rfl (by kernel_rfl) (cx.an 2) (hK.at_ cx.upd.to_ext 1 rfl)
    · exact xs4 rfl id fun cx => run_loadB (n := 3) rfl (by kernel_rfl) (by kernel_rfl) (cx.ou 2) (cx.bi 0 rfl) (nle rfl) rfl
    · exact xs4 rfl id fun cx => run_loadB (n := 3) rfl (by kernel_rfl) (by kernel_rfl) (cx.ou 3) (cx.bi 1 rfl) (nle rfl) rfl
    · exact sv_call rfl rfl rfl rfl rfl (fun _ _ _ h => h) fun ρ β W X cx => ⟨_, _, run_callV (f := 142) (args := #[.agg #[vi 1, vi n, .string s], .agg #[vi 1, vi n, .string s]]) (args' := #[.agg #[vi 1, vi n, .string s], .agg #[vi 1, vi n, .string s]]) rfl rfl (cx.an 3) (by kernel_rfl) (map2 (cx.an 4) (cx.an 5)) rfl, kind2_same _ _ _ _⟩
  refine then_normal (wp_ret ?_)
  refine bodyPost_ret (v := vi 0) (results_tmp Tryd.results36 rfl) rfl ?_
  exact Ret.of rfl hst4.ext
set_option maxRecDepth 100000 in
set_option maxHeartbeats 2000000 in
theorem vrank_2  (w : World) :
    Calls Tryd.prog 72 #[.int .i64 2] w (Ret (.int .i64 2) w) := by
  go_enter Tryd.func72, Tryd.ntmps72
  have hst0 := St.start w
  refine wp_seq (wp_region_P [0] [.k 2 (vi 0)] [(2, 0, 1, 3)] hst0 fun W1 hst1 => ?_)
  refine then_normal (wp_seq (wp_seq (wp_region_Z [0, 1] [] [.k 3 (vi 2), .c 4 (.bool true)] [] [1] [(3, 0, 2, 5)] hst1 ?_ fun W2 hst2 => ?_)))
  · refine ⟨?_, trivial⟩
    · exact xsc rfl id rfl rfl fun cx => ⟨_, vknown_any 2 _, (map1 (cx.an 0))⟩
  refine then_normal (wp_cond_true (show Act.eval _ _ = .bool true from rfl) (wp_seq (wp_region_P [0, 1] [.k 5 (vi 2), .k 2 (vi 2)] [(2, 1, 1, 3), (2, 0, 1, 3)] hst2 fun W3 hst3 => ?_)))
  refine then_normal (wp_ret (then_ret ?_))
  refine bodyPost_ret (v := vi 2) (results_tmp Tryd.results72 rfl) rfl ?_
  exact Ret.of rfl hst3.ext
set_option maxRecDepth 100000 in
set_option maxHeartbeats 2000000 in
theorem vcmp_2 (n : Int) (s : ByteArray) (w : World) (hK : KindsAt w) :
    Calls Tryd.prog 36 #[.agg #[.int .i64 2, .int .i64 n, .string s], .agg #[.int .i64 2, .int .i64 n, .string s]] w (Ret (.int .i64 0) w) := by
  go_enter Tryd.func36, Tryd.ntmps36
  have hst0 := St.start w
  refine wp_seq (wp_region_Y [0, 0, 0] [] [[0], [1]] [] [.a 2, .a 3, .k 4 (vi 0)] (fun ix σ β X => match ix with | 0 => σ 2 = vp (pb (β 2)) ∧ X 0 = eB (pb (β 2)) 82 #[vi 2, vi n, .string s] | 1 => σ 3 = vp (pb (β 3)) ∧ X 1 = eB (pb (β 3)) 82 #[vi 2, vi n, .string s] | _ => True) [0, 1] [0, 1] [(2, 0, 3, 5)] hst0 ?_ ?_ ?_)
  · exact fun ix _ _ _ _ _ _ hs hb hx h => match ix, h with
    | 0, h => by dsimp only at h ⊢; rw [← hs 2 rfl, ← hb 2 rfl, ← hx 0 rfl]; exact h
    | 1, h => by dsimp only at h ⊢; rw [← hs 3 rfl, ← hb 3 rfl, ← hx 1 rfl]; exact h
    | _ + 2, _ => trivial
  · refine ⟨?_, ?_, trivial⟩
    · refine sv_any rfl rfl fun ρ β W X cx => ?_
      exact dv_box (cs := #[vi 2, vi n, .string s]) rfl (cx.ou 0) rfl rfl rfl (fun σ β' X' hs hb hv hx => ⟨hv, hx⟩)
    · refine sv_any rfl rfl fun ρ β W X cx => ?_
      exact dv_box (cs := #[vi 2, vi n, .string s]) rfl (cx.ou 1) rfl rfl rfl (fun σ β' X' hs hb hv hx => ⟨hv, hx⟩)
  intro σ β X W1 hD hst1 fr hfr
  obtain ⟨B2_1, hu_B2_1⟩ : ∃ z, pb (β 2) = z := ⟨_, rfl⟩
  obtain ⟨B3_1, hu_B3_1⟩ : ∃ z, pb (β 3) = z := ⟨_, rfl⟩
  simp only [exq 0 ((dTn (hD 0 lq)).2), exq 1 ((dTn (hD 1 lq)).2), hu_B2_1, hu_B3_1] at hst1
  simp only [ed 2 ((dTn (hD 0 lq)).1), ed 3 ((dTn (hD 1 lq)).1), hu_B2_1, hu_B3_1] at hfr
  clear hD hu_B2_1 hu_B3_1; subst hfr; clear σ β X
  refine then_normal (wp_seq (wp_seq (wp_region_Z [0, 1, 3, 0, 8, 31, 63, 127] [[], [0], [], [], [1]] [.k 6 (vp B2_1), .c 7 (vi 2), .c 8 (vi 2), .k 9 (vp B3_1), .c 10 (vi 2), .c 11 (vi 2), .c 12 (vi 0), .k 5 (vi 0)] [0, 1] [1, 2, 4, 5, 6] [(5, 7, 1, 6), (0, 0, 7, 7)] hst1 ?_ fun W2 hst2 => ?_)))
  · refine ⟨?_, ?_, ?_, ?_, ?_, trivial⟩
    · exact xs4 rfl id fun cx => run_load1 rfl (by kernel_rfl) (cx.an 0) ((cx.bi 0 rfl).cell 0)
    · exact xsc rfl id rfl rfl fun cx => ⟨_, vrank_2 _, (map1 (cx.an 1))⟩
    · exact xs4 rfl id fun cx => run_load1 rfl (by kernel_rfl) (cx.an 3) ((cx.bi 1 rfl).cell 0)
    · exact xsc rfl id rfl rfl fun cx => ⟨_, vrank_2 _, (map1 (cx.an 4))⟩
    · exact xsc rfl id rfl rfl fun cx => ⟨_, ccmpi_same 2 _, (map2 (cx.an 2) (cx.an 5))⟩
  refine then_normal (wp_seq (wp_region_Z [0, 1, 3, 7, 15, 31, 63, 127] [[], [], [], [], [0]] [.k 13 (vi 0), .k 14 (.bool false), .k 15 (.bool false), .k 16 (vp B2_1), .c 17 (vi 2), .c 18 (.bool true), .k 19 (.bool false), .k 20 (.bool false)] [0, 1] [4, 5] [(13, 0, 8, 21)] hst2 ?_ fun W3 hst3 => ?_))
  · refine ⟨?_, ?_, trivial⟩
    · exact xs5 rfl id (fun cx => (cx.an 2)) fun cx => run_load1 rfl (by kernel_rfl) (cx.an 3) ((cx.bi 0 rfl).cell 0)
    · exact sv_call_on rfl rfl rfl rfl rfl rfl (fun _ _ _ h => h) (fun _ _ _ _ cx => (cx.an 2)) fun ρ β W X cx => ⟨_, _, run_callF (args := #[vi 2]) rfl cx.sees rfl (by kernel_rfl) (map1 (cx.an 4)), vknown_any 2 _⟩
  refine then_normal (wp_cond_false (show Act.eval _ _ = .bool false from rfl) (wp_skip (then_normal (wp_seq (wp_region_Z [0, 1, 3, 7, 0, 0, 63, 127] [[], [0], [], [], [0], [1]] [.k 22 (vp B2_1), .c 23 (vi 2), .c 24 (.pointer (some ⟨0, 2, none⟩)), .c 25 (.func (.func 144) #[] #[]), .c 26 (.agg #[vi 2, vi n, .string s]), .c 27 (.agg #[vi 2, vi n, .string s]), .c 28 (vi 0), .k 4 (vi 0)] [0, 1] [1, 2, 3, 4, 5, 6] [(4, 7, 1, 5), (17, 0, 7, 24)] hst3 ?_ fun W4 hst4 => ?_)))))
  · refine ⟨?_, ?_, ?_, ?_, ?_, ?_, trivial⟩
    · exact xs4 rfl id fun cx => run_load1 rfl (by kernel_rfl) (cx.an 0) ((cx.bi 0 rfl).cell 0)
    · exact xs4 rfl id fun cx => run_indexArrB (n := 3) (sz := 1) (m := 2) (q := 2) rfl (by kernel_rfl) (cx.sees.glob _) (cx.an 1) (by omega) (by omega) (by omega)
    · exact xs4 rfl id fun cx => run_load1 rfl (by kernel_rfl) (cx.an 2) (hK.at_ cx.upd.to_ext 2 rfl)
    · exact xs4 rfl id fun cx => run_loadB (n := 3) rfl (by kernel_rfl) (by kernel_rfl) (cx.ou 2) (cx.bi 0 rfl) (nle rfl) rfl
    · exact xs4 rfl id fun cx => run_loadB (n := 3) rfl (by kernel_rfl) (by kernel_rfl) (cx.ou 3) (cx.bi 1 rfl) (nle rfl) rfl
    · exact sv_call rfl rfl rfl rfl rfl (fun _ _ _ h => h) fun ρ β W X cx => ⟨_, _, run_callV (f := 144) (args := #[.agg #[vi 2, vi n, .string s], .agg #[vi 2, vi n, .string s]]) (args' := #[.agg #[vi 2, vi n, .string s], .agg #[vi 2, vi n, .string s]]) rfl rfl (cx.an 3) (by kernel_rfl) (map2 (cx.an 4) (cx.an 5)) rfl, kind3_same _ _ _ _⟩
  refine then_normal (wp_ret ?_)
  refine bodyPost_ret (v := vi 0) (results_tmp Tryd.results36 rfl) rfl ?_
  exact Ret.of rfl hst4.ext
theorem vcmp_same (v : Val) (w : World) (h : v.1 = 0 ∨ v.1 = 1 ∨ v.1 = 2) (hK : KindsAt w) : Calls Tryd.prog 36 #[.agg #[.int .i64 v.1, .int .i64 v.2.1, .string v.2.2], .agg #[.int .i64 v.1, .int .i64 v.2.1, .string v.2.2]] w (Ret (.int .i64 0) w) := by
  rcases h with h | h | h <;> rw [h]
  · exact vcmp_0 _ _ _ hK
  · exact vcmp_1 _ _ _ hK
  · exact vcmp_2 _ _ _ hK
theorem getD_in {rs : List Val} {k : Nat} (h : k < rs.length) : rs.getD k v0 ∈ rs := by
  rw [List.getD_eq_getElem?_getD, List.getElem?_eq_getElem h]
  exact List.getElem_mem _
set_option maxRecDepth 100000 in
set_option maxHeartbeats 2000000 in
theorem vrows_same (RA RB : Option Addr) (rc rd : Nat) (rs : List Val) (w : World) (hA : At w RA (flatR rs)) (hB : At w RB (flatR rs)) (hl : rs.length ≤ 100) (hkn : ∀ v ∈ rs, v.1 = 0 ∨ v.1 = 1 ∨ v.1 = 2) (hK : KindsAt w) :
    Calls Tryd.prog 12 #[.slice RA rs.length rc, .slice RB rs.length rd] w (Ret (.int .i64 0) w) := by
  go_enter Tryd.func12, Tryd.ntmps12
  have hst0 := St.start w
  refine wp_seq (wp_region_P [0] [.k 4 (vi 0)] [(4, 0, 1, 5)] hst0 fun W1 hst1 => ?_)
  refine then_normal (wp_seq (wp_seq (wp_region_Z [0, 1, 0, 4, 15, 0] [] [.k 7 (.slice RA rs.length rc), .k 8 (vi ((rs.length : Int))), .k 9 (.slice RB rs.length rd), .k 10 (vi ((rs.length : Int))), .c 11 (vi ((rs.length : Int))), .k 12 (vi 0)] [] [4] [(7, 0, 6, 13)] hst1 ?_ fun W2 hst2 => ?_)))
  · refine ⟨?_, trivial⟩
    · exact xs4 rfl id fun cx => run_min2 rfl (cx.an 1) (cx.an 3) (Int.min_self _)
  refine then_normal (wp_block ?_)
  refine wp_loopN (fun mz az W => ∃ k : Nat, ∃ u3_ : List Value, k ≤ rs.length ∧ mz = rs.length - k ∧ az = ⟨#[.slice RA rs.length rc, .slice RB rs.length rd, undef, undef, (gu u3_ 0), (gu u3_ 1), (gu u3_ 2), .slice RA rs.length rc, vi ((rs.length : Int)), .slice RB rs.length rd, vi ((rs.length : Int)), vi ((rs.length : Int)), vi ((k : Int)), (gu u3_ 3), (gu u3_ 4), (gu u3_ 5), (gu u3_ 6), (gu u3_ 7), (gu u3_ 8), (gu u3_ 9), (gu u3_ 10), (gu u3_ 11), (gu u3_ 12), (gu u3_ 13), (gu u3_ 14), (gu u3_ 15), (gu u3_ 16), (gu u3_ 17), undef, undef, undef, undef, undef], []⟩ ∧ St w [] [] W) (rs.length - 0) ?_ ?_
  · -- the loop begins
    have hp4 := hst2.pick [] (by decide) rfl
    exact ⟨0, [vi 0, undef, undef, undef, undef, undef, undef, undef, undef, undef, undef, undef, undef, undef, undef, undef, undef, undef], Nat.zero_le _, rfl, rfl, hp4⟩
  rintro n3 a3 W3 ⟨k, u3_, hk, rfl, rfl, hst3⟩
  refine wp_seq (wp_region_P [0] [.k 13 (.bool (decide ((k : Int) < (rs.length : Int))))] [(13, 0, 1, 14)] hst3 fun W5 hst5 => ?_)
  refine then_normal (wp_seq ?_)
  rcases Bool.eq_false_or_eq_true (decide ((k : Int) < (rs.length : Int))) with hs6 | hs6
  · skip
    have hs6p : (k : Int) < (rs.length : Int) := by simpa using hs6
    refine wp_cond_true (show Act.eval _ _ = .bool true from (congrArg Value.bool hs6)) (wp_skip (then_normal (wp_seq (wp_block (wp_seq (wp_region_P [0, 1] [.k 14 (vi ((k : Int))), .k 5 (vi ((k : Int)))] [(5, 1, 1, 6), (8, 0, 1, 9)] hst5 fun W7 hst7 => ?_))))))
    refine then_normal (wp_seq (wp_region_Z [0, 0, 3, 7, 0, 0, 48, 112, 255, 511] [] [.k 15 (.slice RA rs.length rc), .k 16 (vi ((k : Int))), .c 17 (.pointer (some ((ad RA).add (k * 3)))), .c 18 (.agg #[vi ((rs.getD k v0).1), vi ((rs.getD k v0).2.1), .string ((rs.getD k v0).2.2)]), .k 19 (.slice RB rs.length rd), .k 20 (vi ((k : Int))), .c 21 (.pointer (some ((ad RB).add (k * 3)))), .c 22 (.agg #[vi ((rs.getD k v0).1), vi ((rs.getD k v0).2.1), .string ((rs.getD k v0).2.2)]), .c 23 (vi 0), .k 6 (vi 0)] [] [2, 3, 6, 7, 8] [(6, 9, 1, 7), (8, 0, 9, 17)] hst7 ?_ fun W8 hst8 => ?_))
    · refine ⟨?_, ?_, ?_, ?_, ?_, trivial⟩
      · exact xs4 rfl id fun cx => run_indexSlM (e := 82) (m := k) (sz := 3) rfl (by kernel_rfl) (by kernel_rfl) (cx.an 0) (cx.an 1) (by omega) (by omega) (hA.ext cx.upd.to_ext) (by have h_ := flatLen (f := cellsV) (sz := 3) cellsV_len rs; show 0 < (List.flatMap cellsV rs).length; omega)
      · exact xs4 rfl id fun cx => run_loadElt (f := cellsV) (m := k) (sz := 3) (off := 0) (n := 3) rfl (by kernel_rfl) (by kernel_rfl) (cx.an 2) rfl cellsV_len (hA.ext cx.upd.to_ext) (getD_some (ts := rs) (m := k) v0 (by omega)) (fun k hk => match k, hk with | 0, _ => rfl | 1, _ => rfl | 2, _ => rfl | k + 3, hk => absurd hk (by omega))
      · exact xs4 rfl id fun cx => run_indexSlM (e := 82) (m := k) (sz := 3) rfl (by kernel_rfl) (by kernel_rfl) (cx.an 4) (cx.an 5) (by omega) (by omega) (hB.ext cx.upd.to_ext) (by have h_ := flatLen (f := cellsV) (sz := 3) cellsV_len rs; show 0 < (List.flatMap cellsV rs).length; omega)
      · exact xs4 rfl id fun cx => run_loadElt (f := cellsV) (m := k) (sz := 3) (off := 0) (n := 3) rfl (by kernel_rfl) (by kernel_rfl) (cx.an 6) rfl cellsV_len (hB.ext cx.upd.to_ext) (getD_some (ts := rs) (m := k) v0 (by omega)) (fun k hk => match k, hk with | 0, _ => rfl | 1, _ => rfl | 2, _ => rfl | k + 3, hk => absurd hk (by omega))
      · exact xsc rfl id rfl rfl fun cx => ⟨_, vcmp_same (rs.getD k v0) _ (hkn _ (getD_in (by omega))) (hK.ext cx.upd.to_ext), (map2 (cx.an 3) (cx.an 7))⟩
    refine then_normal (wp_seq (wp_region_P [0, 1] [.k 24 (vi 0), .k 25 (.bool false)] [(24, 0, 2, 26)] hst8 fun W9 hst9 => ?_))
    refine then_normal (wp_cond_false (show Act.eval _ _ = .bool false from rfl) (wp_skip (blk_normal (then_normal (wp_region_P [0, 1] [tI 27 ((k : Int) + 1) (by omega), .k 12 (vi ((k : Int) + 1))] [(12, 1, 1, 13), (14, 0, 1, 15)] hst9 fun W10 hst10 => ?_)))))
    refine then_normal ?_
    refine ⟨rs.length - ((k + 1)), by omega, ?_⟩
    have hp11 := hst10.pick [] (by decide) rfl
    exact ⟨(k + 1), [(gu u3_ 0), vi ((k : Int)), vi 0, .bool (decide ((k : Int) < (rs.length : Int))), vi ((k : Int)), .slice RA rs.length rc, vi ((k : Int)), .pointer (some ((ad RA).add (k * 3))), .agg #[vi ((rs.getD k v0).1), vi ((rs.getD k v0).2.1), .string ((rs.getD k v0).2.2)], .slice RB rs.length rd, vi ((k : Int)), .pointer (some ((ad RB).add (k * 3))), .agg #[vi ((rs.getD k v0).1), vi ((rs.getD k v0).2.1), .string ((rs.getD k v0).2.2)], vi 0, vi 0, .bool false, (gu u3_ 16), vi ((k : Int) + 1)], by omega, rfl, rfl, hp11⟩
  have hs6p : ¬ ((k : Int) < (rs.length : Int)) := by simpa using hs6
  refine wp_cond_false (show Act.eval _ _ = .bool false from (congrArg Value.bool hs6)) (wp_exit (then_exit (then_exit (blk_eq (then_normal (wp_seq (wp_region_Z [0, 1, 0, 4, 15, 31] [] [.k 28 (.slice RA rs.length rc), .k 29 (vi ((rs.length : Int))), .k 30 (.slice RB rs.length rd), .k 31 (vi ((rs.length : Int))), .c 32 (vi 0), .k 4 (vi 0)] [] [4] [(4, 5, 1, 5), (23, 0, 5, 28)] hst5 ?_ fun W12 hst12 => ?_)))))))
  · refine ⟨?_, trivial⟩
    · exact xsc rfl id rfl rfl fun cx => ⟨_, ccmpi_same (rs.length : Int) _, (map2 (cx.an 1) (cx.an 3))⟩
  refine then_normal (wp_ret ?_)
  refine bodyPost_ret (v := vi 0) (results_tmp Tryd.results12 rfl) rfl ?_
  exact Ret.of rfl hst12.ext
end
end Go.Proofs.YtjnplglnnamfdaaDoor
namespace Go.Proofs.YtjnplglnnamfdaaDoor
section
open Go.RowKit
set_option linter.unusedVariables false
set_option linter.unusedSimpArgs false
theorem tmb (a : Int) {b : Int} (h : 0 < b) : -b < a.tmod b ∧ a.tmod b < b := ⟨Int.lt_tmod_of_pos a h, Int.tmod_lt_of_pos a h⟩
theorem tmb0 {a : Int} {b : Int} (ha : 0 ≤ a) (h : 0 < b) : 0 ≤ a.tmod b ∧ a.tmod b < b := ⟨Int.tmod_nonneg _ ha, Int.tmod_lt_of_pos a h⟩
theorem get_eq {f : Nat} {args : Array Value} {w : World} {o o' : Option VerD} (h : o = o') (hc : Calls Tryd.prog f args w (VerAt o w)) : Calls Tryd.prog f args w (VerAt o' w) := h ▸ hc
theorem del_eq {f : Nat} {args : Array Value} {w : World} {R R' : List EdD × Int} (h : R = R') (hc : Calls Tryd.prog f args w (DelPost R w)) : Calls Tryd.prog f args w (DelPost R' w) := h ▸ hc
theorem updA_len (pv : Int → PV) (fresh tb : Int) (ns : List Int) (n j xid : Int) (hot : Bool) (rs : List Val) : (updA pv fresh tb ns n j xid hot rs).2.2.1.length ≤ 4 := by
  rw [updA]
  split
  · exact Nat.zero_le _
  · split
    · exact Nat.zero_le _
    · rw [updR]
      split
      · show 2 ≤ 4; decide
      · split
        · exact Nat.zero_le _
        · have := insA_len pv fresh tb ns (newB xid false rs)
          dsimp only
          rw [List.length_append]
          show _ + 1 ≤ 4
          omega
theorem delA_len (pv : Int → PV) (n j xid : Int) : (delA pv n j xid).1.length ≤ 1 := by
  rw [delA]
  split
  · exact Nat.zero_le _
  · split
    · exact Nat.zero_le _
    · exact Nat.le_refl _
set_option maxRecDepth 100000 in
set_option maxHeartbeats 16000000 in
theorem heapdone_any (SA : Option Addr) (sc : Nat) (s : List Int) (QA : Option Addr) (qn qc : Nat) (fr0 tb0 at0 at1 xid : Int) (LA : Option Addr) (lc : Nat) (rl : List Int) (hot : Bool) (w : World) (hS : At w SA (s.map (Value.int .i64))) (hsc : s.length ≤ sc) (hL : At w LA (rl.map (Value.int .i64))) (hrl : rl.length ≤ 1000000000000000) (hN : NoneAt w) (hK : KindsAt w) :
    Calls Tryd.prog 3 #[.slice SA s.length sc, .agg #[.slice QA qn qc, .int .i64 fr0, .int .i64 tb0, .int .i64 at0, .int .i64 at1, .int .i64 xid, .slice LA rl.length lc, .bool hot]] w (Ret (.bool true) w) := by
  go_enter Tryd.func3, Tryd.ntmps3
  have hst0 := St.start w
  refine wp_seq (wp_region_Y [0, 0] [] [[0]] [] [.a 3, .k 4 (.bool false)] (fun ix σ β X => match ix with | 0 => σ 3 = vp (pb (β 3)) ∧ X 0 = eB (pb (β 3)) 26 #[.slice QA qn qc, vi fr0, vi tb0, vi at0, vi at1, vi xid, .slice LA rl.length lc, .bool hot] | _ => True) [0] [0] [(3, 0, 2, 5)] hst0 ?_ ?_ ?_)
  · exact fun ix _ _ _ _ _ _ hs hb hx h => match ix, h with
    | 0, h => by dsimp only at h ⊢; rw [← hs 3 rfl, ← hb 3 rfl, ← hx 0 rfl]; exact h
    | _ + 1, _ => trivial
  · refine ⟨?_, trivial⟩
    · refine sv_any rfl rfl fun ρ β W X cx => ?_
      exact dv_box (cs := #[.slice QA qn qc, vi fr0, vi tb0, vi at0, vi at1, vi xid, .slice LA rl.length lc, .bool hot]) rfl (cx.ou 1) rfl rfl rfl (fun σ β' X' hs hb hv hx => ⟨hv, hx⟩)
  intro σ β X W1 hD hst1 fr hfr
  obtain ⟨B3_1, hu_B3_1⟩ : ∃ z, pb (β 3) = z := ⟨_, rfl⟩
  simp only [exq 0 ((dTn (hD 0 lq)).2), hu_B3_1] at hst1
  simp only [ed 3 ((dTn (hD 0 lq)).1), hu_B3_1] at hfr
  clear hD hu_B3_1; subst hfr; clear σ β X
  refine then_normal (wp_seq (wp_region_Z [0, 1] [] [.c 34 (.bool true), .k 5 (.bool true)] [0] [0] [(5, 1, 1, 6), (28, 0, 1, 29)] hst1 ?_ fun W2 hst2 => ?_))
  · refine ⟨?_, trivial⟩
    · exact xsc rfl id rfl rfl fun cx => ⟨_, sanity09_any _ (hN.ext cx.upd.to_ext), map0⟩
  refine then_normal (wp_seq (wp_region_Y [0, 1, 0, 7] [[], [], [], [2]] [[], [1], [2], [3]] [[], [], [], [2]] [.k 35 (.slice SA s.length sc), .a 36, .a 6, .n] (fun ix σ β X => match ix with | 0 => True | 1 => σ 36 = .agg #[.slice (sA (tg (β 36) 0)) 5 (sC (tg (β 36) 0))] ∧ X 1 = eMd (s.take 200) (sA (tg (β 36) 0)) ((X 1).fp) | 2 => σ 6 = vp (pb (β 6)) ∧ X 2 = eB (pb (β 6)) 30 #[.slice none 0 0] | 3 => X 3 = eB (pb (β 6)) 30 #[.slice (sA (tg (β 36) 0)) 5 (sC (tg (β 36) 0))] | _ => True) [0, 1, 3] [1, 2, 3] [(6, 2, 1, 7), (28, 0, 2, 30)] hst2 ?_ ?_ ?_))
  · exact fun ix _ _ _ _ _ _ hs hb hx h => match ix, h with
    | 1, h => by dsimp only at h ⊢; rw [← hs 36 rfl, ← hb 36 rfl, ← hx 1 rfl]; exact h
    | 2, h => by dsimp only at h ⊢; rw [← hs 6 rfl, ← hb 6 rfl, ← hx 2 rfl]; exact h
    | 3, h => by dsimp only at h ⊢; rw [← hb 6 rfl, ← hb 36 rfl, ← hx 3 rfl]; exact h
    | 0, _ | _ + 4, _ => trivial
  · refine ⟨?_, ?_, ?_, trivial⟩
    · refine sv_any rfl rfl fun ρ β W X cx => ?_
      refine DoesU.call (run_callF (args := #[.slice SA s.length sc]) rfl cx.sees rfl (by kernel_rfl) (map1 (cx.an 0))) ?_
      refine (made09_any _ _ s _ (hS.ext cx.upd.to_ext) hsc).mono ?_
      rintro e W1 ⟨A4, c4, fp4, rfl, hc⟩
      refine ⟨_, rfl, post_st [eMd (s.take 200) A4 fp4] rfl rfl hc (fun σ β' X' hs hb hv hN => ?_)⟩
      have hv1 := (hv 36 rfl).1; have hv2 := (hv 36 rfl).2
      exact ⟨hv1.trans (by rw [hv2]; rfl), (by rw [hv2]; exact eMd_self ((List.cons.inj hN).1))⟩
    · refine sv_any rfl rfl fun ρ β W X cx => ?_
      exact dv_alloc (cs := #[.slice none 0 0]) rfl (by kernel_rfl) rfl rfl (fun σ β' X' hs hb hv hx => ⟨hv, hx⟩)
    · refine sv_any rfl rfl fun ρ β W X cx => ?_
      exact dv_store (n := 1) rfl (dTn (cx.an 2)).1 (dTn (cx.an 1)).1 (by kernel_rfl) (by kernel_rfl) (by kernel_rfl) cx (dTn (cx.an 2)).2 rfl (nle rfl) (by kernel_rfl) rfl rfl rfl (fun σ β' X' hs hb hx => by rw [hb 6, hb 36]; exact hx)
  intro σ β X W3 hD hst3 fr hfr
  obtain ⟨A36_3, hu_A36_3⟩ : ∃ z, sA (tg (β 36) 0) = z := ⟨_, rfl⟩
  obtain ⟨c36_3, hu_c36_3⟩ : ∃ z, sC (tg (β 36) 0) = z := ⟨_, rfl⟩
  obtain ⟨B6_3, hu_B6_3⟩ : ∃ z, pb (β 6) = z := ⟨_, rfl⟩
  have xX1 : X 1 = _ := (dTn (hD 1 lq)).2
  obtain ⟨r1_3, hu_r1_3⟩ : ∃ z, (X 1).fp = z := ⟨_, rfl⟩
  rw [hu_r1_3] at xX1
  clear hu_r1_3
  simp only [xX1, exq 3 ((dTn (hD 3 lq))), hu_A36_3, hu_c36_3, hu_B6_3] at hst3
  simp only [ed 36 ((dTn (hD 1 lq)).1), ed 6 ((dTn (hD 2 lq)).1), hu_A36_3, hu_c36_3, hu_B6_3] at hfr
  clear hD xX1 hu_A36_3 hu_c36_3 hu_B6_3; subst hfr; clear σ β X
  refine then_normal (wp_seq ?_)
  have hx4_ := hst3.ext
  have hb4_0 := hst3.blk 0 rfl
  have hb4_2 := hst3.blk 2 rfl
  have hA4_0 := hS.ext hx4_
  have hA4_1 := hL.ext hx4_
  have hN_4 := hN.ext hx4_
  have hK_4 := hK.ext hx4_
  obtain ⟨Ps, hPl, hMd, hP⟩ := eMd_at ((hst3.get 1 rfl).holds)
  have hok0 := md_okH hPl hMd
  obtain ⟨H0, hH0⟩ : ∃ H, Ps.map absP = H := ⟨_, rfl⟩
  rw [hH0] at hok0
  have hHl : H0.length = 5 := by rw [← hH0, List.length_map]; exact hPl
  have hS4_ := St.start W3
  clear hst3
  refine wp_region_Y [0, 1, 3, 7, 0, 16, 63, 127] [] [[], [], [], [], [], [], [0]] [] [.k 37 (.pointer (some ⟨B3_1, 6, none⟩)), .c 38 (.slice LA rl.length lc), .k 39 (vi ((rl.length : Int))), tRe 40 .i64 (rl.length : Int) 7 ((rl.length : Int) % 7) (Int.tmod_eq_emod_of_nonneg (by omega)), .k 41 (.pointer (some ⟨B3_1, 6, none⟩)), .c 42 (.slice LA rl.length lc), .a 43, .a 7] (fun ix σ β X => match ix with | 0 => True | 1 => True | 2 => True | 3 => True | 4 => True | 5 => True | 6 => σ 43 = .slice (sA (β 43)) ((madeR ((rl.length : Int) % 7).toNat rl).length) (sC (β 43)) ∧ X 0 = eO 82 3 (.slice (sA (β 43)) ((madeR ((rl.length : Int) % 7).toNat rl).length) (sC (β 43))) ((madeR ((rl.length : Int) % 7).toNat rl).length) (flatR (madeR ((rl.length : Int) % 7).toNat rl)) | 7 => σ 7 = .slice (sA (β 43)) ((madeR ((rl.length : Int) % 7).toNat rl).length) (sC (β 43)) | _ => True) [0] [1, 5, 6, 7] [(7, 7, 1, 8), (29, 0, 7, 36)] hS4_ ?_ ?_ ?_
  · exact fun ix _ _ _ _ _ _ hs hb hx h => match ix, h with
    | 6, h => by dsimp only at h ⊢; rw [← hs 43 rfl, ← hb 43 rfl, ← hx 0 rfl]; exact h
    | 7, h => by dsimp only at h ⊢; rw [← hs 7 rfl, ← hb 43 rfl]; exact h
    | 0, _ | 1, _ | 2, _ | 3, _ | 4, _ | 5, _ | _ + 8, _ => trivial
  · refine ⟨?_, ?_, ?_, ?_, trivial⟩
    · exact xs4 rfl id fun cx => run_load1 rfl (by kernel_rfl) (cx.an 0) ((Blk.ext hb4_0 cx.upd.to_ext).cell 6)
    · exact xs4 rfl id fun cx => run_load1 rfl (by kernel_rfl) (cx.an 4) ((Blk.ext hb4_0 cx.upd.to_ext).cell 6)
    · refine sv_any rfl rfl fun ρ β W X cx => ?_
      refine DoesU.call (run_callF (args := #[vi ((rl.length : Int) % 7), .slice LA rl.length lc]) rfl cx.sees rfl (by kernel_rfl) (map2 (cx.an 3) (cx.an 5))) ?_
      refine (made02_any _ _ _ rl _ (hA4_1.ext cx.upd.to_ext) (by omega) (by omega)).mono ?_
      rintro e W1 ⟨A4, c4, rfl, ho, hx⟩
      refine ⟨_, rfl, post_call [eO 82 3 (.slice A4 (madeR ((rl.length : Int) % 7).toNat rl).length c4) (madeR ((rl.length : Int) % 7).toNat rl).length (flatR (madeR ((rl.length : Int) % 7).toNat rl))] rfl rfl hx (one_new (eO_new ho)) (List.pairwise_singleton _ _) (fun σ β' X' hs hb hv hN => ?_)⟩
      have hv1 := (hv 43 rfl).1; have hv2 := (hv 43 rfl).2
      exact ⟨hv1.trans (by rw [hv2]; rfl), (by rw [hv2]; exact (List.cons.inj hN).1)⟩
    · exact sv rfl rfl rfl rfl rfl _ (fun _ _ _ h => h) (fun β β' h => by rw [h 43 (by decide)]) fun ρ β W X cx => run_assign' rfl (dTn (cx.an 6)).1
  intro σ β X W5 hD hst5 fr hfr
  obtain ⟨A43_5, hu_A43_5⟩ : ∃ z, sA (β 43) = z := ⟨_, rfl⟩
  obtain ⟨c43_5, hu_c43_5⟩ : ∃ z, sC (β 43) = z := ⟨_, rfl⟩
  simp only [exq 0 ((dTn (hD 6 lq)).2), hu_A43_5, hu_c43_5] at hst5
  simp only [ed 43 ((dTn (hD 6 lq)).1), ed 7 ((dTn (hD 7 lq))), hu_A43_5, hu_c43_5] at hfr
  clear hD hu_A43_5 hu_c43_5; subst hfr; clear σ β X
  refine then_normal (wp_seq ?_)
  have hrl6 : (madeR ((rl.length : Int) % 7).toNat rl).length ≤ 6 := by rw [madeR_len]; omega
  have hrr := madeR_rright (k := (((rl.length : Int) % 7).toNat)) (by omega) rl
  have hrn := madeR_ns ((rl.length : Int) % 7).toNat rl
  have hrp := madeR_plain ((rl.length : Int) % 7).toNat rl
  obtain ⟨rs, hN_rs⟩ : ∃ z, (madeR ((rl.length : Int) % 7).toNat rl) = z := ⟨_, rfl⟩
  rw [hN_rs] at hst5 ⊢
  rw [hN_rs] at hrl6 hrr hrn hrp
  have hm1 := tmb xid (b := 125) (by decide)
  have hm2 := tmb0 (a := xid.tmod 125 + 125) (b := 125) (by omega) (by decide)
  refine wp_region_Z [0, 1, 3, 7, 15, 31, 63] [] [.k 44 (.pointer (some ⟨B3_1, 5, none⟩)), .c 45 (vi xid), tRe 46 .i64 xid 125 (xid.tmod 125) (rfl), tI 47 ((xid.tmod 125) + 125) (by omega), tRe 48 .i64 (xid.tmod 125 + 125) 125 ((xid.tmod 125 + 125).tmod 125) (rfl), tI 49 (3 + ((xid.tmod 125 + 125).tmod 125)) (by omega), .k 8 (vi (3 + ((xid.tmod 125 + 125).tmod 125)))] [0] [1] [(8, 6, 1, 9), (35, 0, 6, 41)] hst5 ?_ fun W6 hst6 => ?_
  · refine ⟨?_, trivial⟩
    · exact xs4 rfl id fun cx => run_load1 rfl (by kernel_rfl) (cx.an 0) ((Blk.ext hb4_0 cx.upd.to_ext).cell 5)
  refine then_normal (wp_seq ?_)
  obtain ⟨x, hN_x⟩ : ∃ z, 3 + ((xid.tmod 125 + 125).tmod 125) = z := ⟨_, rfl⟩
  rw [hN_x]
  have hx : 3 ≤ x ∧ x < 128 := by omega
  refine wp_region_P [0] [.k 9 (vi (-1))] [(9, 0, 1, 10)] hst6 fun W7 hst7 => ?_
  refine then_normal (wp_seq (wp_seq (wp_region_P [0] [.k 10 (vi 0)] [(10, 0, 1, 11)] hst7 fun W8 hst8 => ?_)))
  refine then_normal (wp_block ?_)
  refine wp_loopN (fun mz az W => ∃ k : Nat, ∃ fr : Int, ∃ u9_ : List Value, k ≤ 5 ∧ (-1 ≤ fr ∧ fr < 5) ∧ mz = 5 - k ∧ az = ⟨#[.slice SA s.length sc, .agg #[.slice QA qn qc, vi fr0, vi tb0, vi at0, vi at1, vi xid, .slice LA rl.length lc, .bool hot], undef, vp B3_1, .bool false, .bool true, vp B6_3, .slice A43_5 (rs.length) c43_5, vi (x), vi fr, vi ((k : Int)), undef, undef, undef, undef, undef, undef, undef, undef, undef, undef, undef, undef, undef, undef, undef, undef, undef, undef, undef, undef, undef, undef, undef, .bool true, .slice SA s.length sc, .agg #[.slice A36_3 5 c36_3], .pointer (some ⟨B3_1, 6, none⟩), .slice LA rl.length lc, vi ((rl.length : Int)), vi ((rl.length : Int) % 7), .pointer (some ⟨B3_1, 6, none⟩), .slice LA rl.length lc, .slice A43_5 (rs.length) c43_5, .pointer (some ⟨B3_1, 5, none⟩), vi xid, vi (xid.tmod 125), vi (xid.tmod 125 + 125), vi ((xid.tmod 125 + 125).tmod 125), vi (x), (gu u9_ 0), (gu u9_ 1), (gu u9_ 2), (gu u9_ 3), (gu u9_ 4), (gu u9_ 5), (gu u9_ 6), (gu u9_ 7), (gu u9_ 8), (gu u9_ 9), (gu u9_ 10), (gu u9_ 11), undef, undef, undef, undef, undef, undef, undef, undef, undef, undef, undef, undef, undef, undef, undef, undef, undef, undef, undef, undef, undef, undef, undef, undef, undef, undef, undef, undef, undef, undef, undef, undef, undef, undef, undef, undef, undef, undef, undef, undef, undef, undef, undef, undef, undef, undef, undef, undef, undef, undef, undef, undef, undef, undef, undef, undef, undef, undef, undef, undef, undef, undef, undef, undef, undef, undef, undef, undef, undef, undef, undef, undef, undef, undef, undef, undef, undef, undef, undef, undef, undef, undef, undef, undef, undef, undef, undef, undef, undef, undef, undef, undef, undef, undef, undef, undef, undef, undef, undef, undef, undef, undef, undef, undef, undef, undef, undef, undef, undef, undef, undef, undef, undef, undef, undef, undef, undef, undef, undef, undef, undef, undef, undef, undef, undef, undef, undef, undef, undef, undef, undef, undef, undef, undef, undef, undef, undef, undef, undef, undef, undef, undef, undef, undef, undef, undef, undef, undef, undef, undef, undef, undef, undef, undef, undef, undef, undef, undef, undef, undef, undef, undef, undef, undef, undef, undef, undef, undef, undef, undef, undef, undef, undef, undef, undef, undef, undef, undef, undef, undef, undef, undef, undef, undef, undef, undef, undef, undef, undef, undef, undef, undef, undef], []⟩ ∧ St W3 [] [eO 82 3 (.slice A43_5 (rs.length) c43_5) rs.length (flatR rs)] W) (5 - 0) ?_ ?_
  · -- the loop begins
    have hp10 := hst8.pick [0] (by decide) rfl
    exact ⟨0, (-1), [undef, undef, undef, undef, undef, undef, undef, undef, undef, undef, undef, undef], Nat.zero_le _, (by decide), rfl, rfl, hp10⟩
  rintro n9 a9 W9 ⟨k, fr, u9_, hk, hfr, rfl, rfl, hst9⟩
  refine wp_seq (wp_seq (wp_region_Z [0, 0, 2, 6, 15] [] [.k 50 (vi ((k : Int))), .k 51 (vp B6_3), .c 52 (.slice A36_3 5 c36_3), .k 53 (vi 5), .k 54 (.bool (decide ((k : Int) < 5)))] [0] [2] [(50, 0, 5, 55)] hst9 ?_ fun W11 hst11 => ?_))
  · refine ⟨?_, trivial⟩
    · exact xs4 rfl id fun cx => run_load1 rfl (by kernel_rfl) (cx.an 1) ((Blk.ext hb4_2 cx.upd.to_ext).cell 0)
  refine then_normal ?_
  rcases Bool.eq_false_or_eq_true (decide ((k : Int) < 5)) with hs12 | hs12
  · skip
    have hs12p : (k : Int) < 5 := by simpa using hs12
    refine wp_cond_true (show Act.eval _ _ = .bool true from (congrArg Value.bool hs12)) (wp_skip (then_normal (wp_seq (wp_block (wp_seq (wp_region_Z [0, 0, 3, 7] [] [.c 57 (.agg #[.slice A36_3 5 c36_3]), .k 58 (vi ((k : Int))), .c 59 (vi ((tbF (pvL H0 (k : Int))))), .k 60 (.bool (decide ((tbF (pvL H0 (k : Int))) < 0)))] [0] [0, 2] [(57, 0, 4, 61)] hst11 ?_ fun W13 hst13 => ?_))))))
    · refine ⟨?_, ?_, trivial⟩
      · exact xs4 rfl id fun cx => run_loadB (n := 1) rfl (by kernel_rfl) (by kernel_rfl) (cx.ou 6) (Blk.ext hb4_2 cx.upd.to_ext) (nle rfl) rfl
      · exact xsc rfl id rfl rfl fun cx => ⟨_, rtable_n (hP.ext cx.upd.to_ext) hPl hH0 (k : Int), (map2 (cx.an 0) (cx.an 1))⟩
    refine then_normal ?_
    rcases Bool.eq_false_or_eq_true (decide ((tbF (pvL H0 (k : Int))) < 0)) with hs14 | hs14
    · skip
      have hs14p : (tbF (pvL H0 (k : Int))) < 0 := by simpa using hs14
      refine wp_cond_true (show Act.eval _ _ = .bool true from (congrArg Value.bool hs14)) (wp_region_P [0, 1] [.k 61 (vi ((k : Int))), .k 9 (vi ((k : Int)))] [(9, 1, 1, 10), (51, 0, 1, 52)] hst13 fun W15 hst15 => ?_)
      refine blk_normal (then_normal (wp_region_P [0, 1, 3] [.k 55 (vi ((k : Int))), tI 56 ((k : Int) + 1) (by omega), .k 10 (vi ((k : Int) + 1))] [(10, 2, 1, 11), (44, 0, 2, 46)] hst15 fun W16 hst16 => ?_))
      refine then_normal ?_
      refine ⟨5 - ((k + 1)), by omega, ?_⟩
      have hp17 := hst16.pick [0] (by decide) rfl
      exact ⟨(k + 1), (k : Int), [vi ((k : Int)), vp B6_3, .slice A36_3 5 c36_3, vi 5, .bool (decide ((k : Int) < 5)), vi ((k : Int)), vi ((k : Int) + 1), .agg #[.slice A36_3 5 c36_3], vi ((k : Int)), vi ((tbF (pvL H0 (k : Int)))), .bool (decide ((tbF (pvL H0 (k : Int))) < 0)), vi ((k : Int))], by omega, by omega, rfl, rfl, hp17⟩
    have hs14p : ¬ ((tbF (pvL H0 (k : Int))) < 0) := by simpa using hs14
    refine wp_cond_false (show Act.eval _ _ = .bool false from (congrArg Value.bool hs14)) (wp_skip (blk_normal (then_normal (wp_region_P [0, 1, 3] [.k 55 (vi ((k : Int))), tI 56 ((k : Int) + 1) (by omega), .k 10 (vi ((k : Int) + 1))] [(10, 2, 1, 11), (44, 0, 2, 46)] hst13 fun W18 hst18 => ?_))))
    refine then_normal ?_
    refine ⟨5 - ((k + 1)), by omega, ?_⟩
    have hp19 := hst18.pick [0] (by decide) rfl
    exact ⟨(k + 1), fr, [vi ((k : Int)), vp B6_3, .slice A36_3 5 c36_3, vi 5, .bool (decide ((k : Int) < 5)), vi ((k : Int)), vi ((k : Int) + 1), .agg #[.slice A36_3 5 c36_3], vi ((k : Int)), vi ((tbF (pvL H0 (k : Int)))), .bool (decide ((tbF (pvL H0 (k : Int))) < 0)), (gu u9_ 11)], by omega, by omega, rfl, rfl, hp19⟩
  have hs12p : ¬ ((k : Int) < 5) := by simpa using hs12
  refine wp_cond_false (show Act.eval _ _ = .bool false from (congrArg Value.bool hs12)) (wp_exit (then_exit (then_exit (blk_eq (then_normal (wp_seq ?_))))))
  have hvok : okD (x, 0, -1, 0, false, rs) := okD_new false hx hrr hrn hrp
  obtain ⟨RI, hRI⟩ : ∃ z, insA (pvL H0) fr 1 [0, 1, 2, 3, 4] (txD (x, 0, -1, 0, false, rs)) = z := ⟨_, rfl⟩
  have hins := ins_law (lsn := 9) (tb := 1) (ns := [0, 1, 2, 3, 4]) (fresh := fr) hok0 ⟨by decide, by decide⟩ hvok ⟨by decide, by decide⟩ ⟨by omega, by omega⟩
  have hL1 := insA_len (pvL H0) fr 1 [0, 1, 2, 3, 4] (txD (x, 0, -1, 0, false, rs))
  rw [hRI] at hins hL1
  obtain ⟨⟨r1, r2⟩, L1, re⟩ := RI
  dsimp only at hins hL1
  rcases hins with ⟨hre, hLe, hf0⟩ | ⟨hre, es1, H1, hem1, hed1, hdo1, hok1, hl1, hat1, hq1, hq2, hoth1, hold1⟩
  · skip
    subst hre
    subst hLe
    refine wp_region_Y [0, 1, 0, 0, 0, 0, 0, 112, 255, 511, 1023, 1023, 1023, 0, 10239, 28671, 65535] [[], [], [], [], [], [], [], [], [1, 0], [], [], [], [], [], [3]] [[], [], [1], [], [], [], [], [], [2], [], [], [], [], [3], [4]] [[], [], [], [], [], [], [], [], [], [], [], [], [], [], [3]] [.c 63 (.agg #[.slice A36_3 5 c36_3]), .c 64 (.iface 30 (.agg #[.slice A36_3 5 c36_3])), .a 65, .k 66 (vi fr), .k 67 (vi (x)), .k 68 (.agg #[vi (-1), vi 0]), .k 69 (.slice A43_5 (rs.length) c43_5), .k 70 (.agg #[vi (x), vi 0, vi (-1), vi 0, .bool false, .slice A43_5 (rs.length) c43_5]), .a 71, .a 62, .c 72 (.agg #[vi r1, vi r2]), .a 73, .c 74 (vi 23), .a 11, .n, .a 12, .k 13 (vi 23)] (fun ix σ β X => match ix with | 0 => True | 1 => True | 2 => σ 65 = .slice (sA (β 65)) 5 5 ∧ X 1 = eO 3 1 (.slice (sA (β 65)) 5 5) 5 ([vi 0, vi 1, vi 2, vi 3, vi 4]) | 3 => True | 4 => True | 5 => True | 6 => True | 7 => True | 8 => σ 71 = .tuple #[.agg #[vi r1, vi r2], .slice (sA (tg (β 71) 1)) (([] : List EdD).length) (sC (tg (β 71) 1)), vi 23] ∧ X 2 = eO 99 3 (.slice (sA (tg (β 71) 1)) (([] : List EdD).length) (sC (tg (β 71) 1))) (([] : List EdD).length) (([] : List EdD).flatMap cellsE) | 9 => σ 62 = .tuple #[.agg #[vi r1, vi r2], .slice (sA (tg (β 71) 1)) (([] : List EdD).length) (sC (tg (β 71) 1)), vi 23] | 10 => True | 11 => σ 73 = .slice (sA (tg (β 71) 1)) (([] : List EdD).length) (sC (tg (β 71) 1)) | 12 => True | 13 => σ 11 = vp (pb (β 11)) ∧ X 3 = eB (pb (β 11)) 24 #[vi 0, vi 0] | 14 => X 4 = eB (pb (β 11)) 24 #[vi r1, vi r2] | 15 => σ 12 = .slice (sA (tg (β 71) 1)) (([] : List EdD).length) (sC (tg (β 71) 1)) | _ => True) [0, 1, 2, 4] [0, 1, 2, 8, 9, 10, 11, 12, 13, 14, 15] [(11, 13, 4, 14), (48, 9, 1, 49), (0, 0, 9, 9), (0, 10, 3, 3)] hst11 ?_ ?_ ?_
    · exact fun ix _ _ _ _ _ _ hs hb hx h => match ix, h with
      | 2, h => by dsimp only at h ⊢; rw [← hs 65 rfl, ← hb 65 rfl, ← hx 1 rfl]; exact h
      | 8, h => by dsimp only at h ⊢; rw [← hs 71 rfl, ← hb 71 rfl, ← hx 2 rfl]; exact h
      | 9, h => by dsimp only at h ⊢; rw [← hs 62 rfl, ← hb 71 rfl]; exact h
      | 11, h => by dsimp only at h ⊢; rw [← hs 73 rfl, ← hb 71 rfl]; exact h
      | 13, h => by dsimp only at h ⊢; rw [← hs 11 rfl, ← hb 11 rfl, ← hx 3 rfl]; exact h
      | 14, h => by dsimp only at h ⊢; rw [← hb 11 rfl, ← hx 4 rfl]; exact h
      | 15, h => by dsimp only at h ⊢; rw [← hs 12 rfl, ← hb 71 rfl]; exact h
      | 0, _ | 1, _ | 3, _ | 4, _ | 5, _ | 6, _ | 7, _ | 10, _ | 12, _ | _ + 16, _ => trivial
    · refine ⟨?_, ?_, ?_, ?_, ?_, ?_, ?_, ?_, ?_, ?_, ?_, trivial⟩
      · exact xs4 rfl id fun cx => run_loadB (n := 1) rfl (by kernel_rfl) (by kernel_rfl) (cx.ou 6) (Blk.ext hb4_2 cx.upd.to_ext) (nle rfl) rfl
      · exact sv0 rfl rfl rfl rfl rfl (fun _ _ _ h => h) fun ρ β W X cx => by
          have fF63 : ρ (.tmp 63) = .agg #[.slice A36_3 5 c36_3] := (cx.an 0)
          simp [go_sem, fF63]
      · refine sv_any rfl rfl fun ρ β W X cx => ?_
        exact dv_lit (e := 3) (xs := [vi 0, vi 1, vi 2, vi 3, vi 4]) rfl (by simp [go_sem, cx.sees.const]) rfl (by decide) rfl rfl (fun σ β' X' hs hb hv hx => ⟨hv, hx⟩)
      · refine sv_any rfl rfl fun ρ β W X cx => ?_
        refine DoesU.call (run_callF (args := #[.iface 30 (.agg #[.slice A36_3 5 c36_3]), .slice (sA (β 65)) 5 5, vi fr, vi 1, .agg #[vi (x), vi 0, vi (-1), vi 0, .bool false, .slice A43_5 (rs.length) c43_5]]) rfl cx.sees rfl (by kernel_rfl) (map5 (cx.an 1) (dTn (cx.an 2)).1 (cx.an 3) (cx.co _) (cx.an 7))) ?_
        refine (ins_eq hRI (hinsert_any _ _ (pvL H0) _ _ [0, 1, 2, 3, 4] fr 1 x 0 (-1) 0 false _ _ rs _ (pgs_ok (hP.ext cx.upd.to_ext) hPl hH0) (At.of_own (cx.row (dTn (cx.an 2)).2 rfl)) (by decide) (At.of_ownN (cx.ri 0 rfl)) (Nat.le_trans hrl6 (by decide)) (hN_4.ext cx.upd.to_ext))).mono ?_
        rintro e W1 ⟨A4, c4, rfl, ho_, hx⟩
        refine ⟨_, rfl, post_call [eO 99 3 (.slice A4 ([] : List EdD).length c4) ([] : List EdD).length (([] : List EdD).flatMap cellsE)] rfl rfl hx (one_new (eO_new (n := ([] : List EdD).length) (xs := ([] : List EdD).flatMap cellsE) ho_)) (List.pairwise_singleton _ _) (fun σ β' X' hs hb hv hN => ?_)⟩
        have hv1 := (hv 71 rfl).1; have hv2 := (hv 71 rfl).2
        exact ⟨hv1.trans (by rw [hv2]; rfl), (by rw [hv2]; exact (List.cons.inj hN).1)⟩
      · exact sv rfl rfl rfl rfl rfl _ (fun _ _ _ h => h) (fun β β' h => by rw [h 71 (by decide)]) fun ρ β W X cx => run_move' rfl (dTn (cx.an 8)).1
      · exact xs4 rfl id fun cx => run_extract' rfl (dTn (cx.an 9)) rfl
      · exact sv rfl rfl rfl rfl rfl _ (fun _ _ _ h => h) (fun β β' h => by rw [h 71 (by decide)]) fun ρ β W X cx => run_extract' rfl (dTn (cx.an 9)) rfl
      · exact xs4 rfl id fun cx => run_extract' rfl (dTn (cx.an 9)) rfl
      · refine sv_any rfl rfl fun ρ β W X cx => ?_
        exact dv_alloc (cs := #[vi 0, vi 0]) rfl (by kernel_rfl) rfl rfl (fun σ β' X' hs hb hv hx => ⟨hv, hx⟩)
      · refine sv_any rfl rfl fun ρ β W X cx => ?_
        exact dv_store (n := 2) rfl (dTn (cx.an 13)).1 (cx.an 10) (by kernel_rfl) (by kernel_rfl) (by kernel_rfl) cx (dTn (cx.an 13)).2 rfl (nle rfl) (by kernel_rfl) rfl rfl rfl (fun σ β' X' hs hb hx => by rw [hb 11]; exact hx)
      · exact sv rfl rfl rfl rfl rfl _ (fun _ _ _ h => h) (fun β β' h => by rw [h 71 (by decide)]) fun ρ β W X cx => run_assign' rfl (dTn (cx.an 11))
    intro σ β X W20 hD hst20 fr hfr
    obtain ⟨A65_20, hu_A65_20⟩ : ∃ z, sA (β 65) = z := ⟨_, rfl⟩
    obtain ⟨A71_20, hu_A71_20⟩ : ∃ z, sA (tg (β 71) 1) = z := ⟨_, rfl⟩
    obtain ⟨c71_20, hu_c71_20⟩ : ∃ z, sC (tg (β 71) 1) = z := ⟨_, rfl⟩
    obtain ⟨B11_20, hu_B11_20⟩ : ∃ z, pb (β 11) = z := ⟨_, rfl⟩
    simp only [exq 1 ((dTn (hD 2 lq)).2), exq 2 ((dTn (hD 8 lq)).2), exq 4 ((dTn (hD 14 lq))), hu_A65_20, hu_A71_20, hu_c71_20, hu_B11_20] at hst20
    simp only [ed 65 ((dTn (hD 2 lq)).1), ed 71 ((dTn (hD 8 lq)).1), ed 62 ((dTn (hD 9 lq))), ed 73 ((dTn (hD 11 lq))), ed 11 ((dTn (hD 13 lq)).1), ed 12 ((dTn (hD 15 lq))), hu_A65_20, hu_A71_20, hu_c71_20, hu_B11_20] at hfr
    clear hD hu_A65_20 hu_A71_20 hu_c71_20 hu_B11_20; subst hfr; clear σ β X
    refine then_normal (wp_seq (wp_region_Y [0, 0, 3, 7, 15, 15, 0, 95, 255] [[], [], [2], [], [], [], [], [5]] [[], [], [4], [], [], [], [5], [6]] [[], [], [], [], [], [], [], [5]] [.c 76 (.agg #[.slice A36_3 5 c36_3]), .k 77 (.slice A71_20 (([] : List EdD).length) c71_20), .a 78, .a 75, .a 79, .c 80 (.bool true), .a 14, .n, .k 15 (.bool true)] (fun ix σ β X => match ix with | 0 => True | 1 => True | 2 => σ 78 = .tuple #[.agg #[.slice (sA (tg (tg (β 78) 0) 0)) 5 (sC (tg (tg (β 78) 0) 0))], .bool true] ∧ X 4 = eDo Ps H0 5 (sA (tg (tg (β 78) 0) 0)) ((X 4).fp) | 3 => σ 75 = .tuple #[.agg #[.slice (sA (tg (tg (β 78) 0) 0)) 5 (sC (tg (tg (β 78) 0) 0))], .bool true] | 4 => σ 79 = .agg #[.slice (sA (tg (tg (β 78) 0) 0)) 5 (sC (tg (tg (β 78) 0) 0))] | 5 => True | 6 => σ 14 = vp (pb (β 14)) ∧ X 5 = eB (pb (β 14)) 30 #[.slice none 0 0] | 7 => X 6 = eB (pb (β 14)) 30 #[.slice (sA (tg (tg (β 78) 0) 0)) 5 (sC (tg (tg (β 78) 0) 0))] | _ => True) [0, 1, 2, 3, 4, 6] [0, 2, 3, 4, 5, 6, 7] [(14, 6, 3, 16), (59, 3, 1, 60), (0, 0, 3, 3), (0, 4, 2, 2)] hst20 ?_ ?_ ?_))
    · exact fun ix _ _ _ _ _ _ hs hb hx h => match ix, h with
      | 2, h => by dsimp only at h ⊢; rw [← hs 78 rfl, ← hb 78 rfl, ← hx 4 rfl]; exact h
      | 3, h => by dsimp only at h ⊢; rw [← hs 75 rfl, ← hb 78 rfl]; exact h
      | 4, h => by dsimp only at h ⊢; rw [← hs 79 rfl, ← hb 78 rfl]; exact h
      | 6, h => by dsimp only at h ⊢; rw [← hs 14 rfl, ← hb 14 rfl, ← hx 5 rfl]; exact h
      | 7, h => by dsimp only at h ⊢; rw [← hb 14 rfl, ← hb 78 rfl, ← hx 6 rfl]; exact h
      | 0, _ | 1, _ | 5, _ | _ + 8, _ => trivial
    · refine ⟨?_, ?_, ?_, ?_, ?_, ?_, ?_, trivial⟩
      · exact xs4 rfl id fun cx => run_loadB (n := 1) rfl (by kernel_rfl) (by kernel_rfl) (cx.ou 6) (Blk.ext hb4_2 cx.upd.to_ext) (nle rfl) rfl
      · refine sv_any rfl rfl fun ρ β W X cx => ?_
        refine DoesU.call (run_callF (args := #[.agg #[.slice A36_3 5 c36_3], .slice A71_20 (([] : List EdD).length) c71_20, vi 9]) rfl cx.sees rfl (by kernel_rfl) (map3 (cx.an 0) (cx.an 1) (cx.co _))) ?_
        refine (rdo9_n (es := ([] : List EdI)) hPl (by have := congrArg List.length (rfl : List.map edD ([] : List EdI) = ([] : List EdD)); rw [List.length_map] at this; exact this) (by decide) (hP.ext cx.upd.to_ext) (by rw [← edD_cells, (rfl : List.map edD ([] : List EdI) = ([] : List EdD))]; exact (At.of_ownN (cx.ri 2 rfl))) (by first | omega | decide) (fun e he => by cases he) ⟨by decide, by decide⟩ (by rw [(hH0 : List.map absP Ps = H0)]; exact hok0) (by rw [(hH0 : List.map absP Ps = H0)]; exact rfl)).mono ?_
        rintro e W1 ⟨A4, c4, fp4, rfl, hc⟩
        refine ⟨_, rfl, post_st [eDo Ps H0 5 A4 fp4] rfl rfl hc (fun σ β' X' hs hb hv hN => ?_)⟩
        have hv1 := (hv 78 rfl).1; have hv2 := (hv 78 rfl).2
        exact ⟨hv1.trans (by rw [hv2]; rfl), (by rw [hv2]; exact eDo_self ((List.cons.inj hN).1))⟩
      · exact sv rfl rfl rfl rfl rfl _ (fun _ _ _ h => h) (fun β β' h => by rw [h 78 (by decide)]) fun ρ β W X cx => run_move' rfl (dTn (cx.an 2)).1
      · exact sv rfl rfl rfl rfl rfl _ (fun _ _ _ h => h) (fun β β' h => by rw [h 78 (by decide)]) fun ρ β W X cx => run_extract' rfl (dTn (cx.an 3)) rfl
      · exact xs4 rfl id fun cx => run_extract' rfl (dTn (cx.an 3)) rfl
      · refine sv_any rfl rfl fun ρ β W X cx => ?_
        exact dv_alloc (cs := #[.slice none 0 0]) rfl (by kernel_rfl) rfl rfl (fun σ β' X' hs hb hv hx => ⟨hv, hx⟩)
      · refine sv_any rfl rfl fun ρ β W X cx => ?_
        exact dv_store (n := 1) rfl (dTn (cx.an 6)).1 (dTn (cx.an 4)) (by kernel_rfl) (by kernel_rfl) (by kernel_rfl) cx (dTn (cx.an 6)).2 rfl (nle rfl) (by kernel_rfl) rfl rfl rfl (fun σ β' X' hs hb hx => by rw [hb 14, hb 78]; exact hx)
    intro σ β X W21 hD hst21 fr hfr
    obtain ⟨A78_21, hu_A78_21⟩ : ∃ z, sA (tg (tg (β 78) 0) 0) = z := ⟨_, rfl⟩
    obtain ⟨c78_21, hu_c78_21⟩ : ∃ z, sC (tg (tg (β 78) 0) 0) = z := ⟨_, rfl⟩
    obtain ⟨B14_21, hu_B14_21⟩ : ∃ z, pb (β 14) = z := ⟨_, rfl⟩
    have xX4 : X 4 = _ := (dTn (hD 2 lq)).2
    obtain ⟨r4_21, hu_r4_21⟩ : ∃ z, (X 4).fp = z := ⟨_, rfl⟩
    rw [hu_r4_21] at xX4
    clear hu_r4_21
    simp only [xX4, exq 6 ((dTn (hD 7 lq))), hu_A78_21, hu_c78_21, hu_B14_21] at hst21
    simp only [ed 78 ((dTn (hD 2 lq)).1), ed 75 ((dTn (hD 3 lq))), ed 79 ((dTn (hD 4 lq))), ed 14 ((dTn (hD 6 lq)).1), hu_A78_21, hu_c78_21, hu_B14_21] at hfr
    clear hD xX4 hu_A78_21 hu_c78_21 hu_B14_21; subst hfr; clear σ β X
    refine then_normal (wp_seq (wp_seq ?_))
    have hx22_ := hst21.ext
    have hX22_ := hx4_.trans hx22_
    have hB22_0 := Blk.ext hb4_0 hx22_
    have hB22_1 := Blk.ext hb4_2 hx22_
    have hb22_3 := hst21.blk 3 rfl
    have hb22_5 := hst21.blk 5 rfl
    have hA22_0 := hA4_0.ext hx22_
    have hA22_1 := hA4_1.ext hx22_
    have ha22_0 := At.of_ownN ((hst21.get 0 rfl).holds : World.ownsRow _ 0 82 3 (.slice A43_5 (rs.length) c43_5) rs.length (flatR rs))
    have ha22_1 := At.of_own ((hst21.get 1 rfl).holds : World.ownsRow _ 0 3 1 (.slice A65_20 5 5) 5 ([vi 0, vi 1, vi 2, vi 3, vi 4]))
    have ha22_2 := At.of_ownN ((hst21.get 2 rfl).holds : World.ownsRow _ 0 99 3 (.slice A71_20 (([] : List EdD).length) c71_20) (([] : List EdD).length) (([] : List EdD).flatMap cellsE))
    have hN_22 := hN_4.ext hx22_
    have hK_22 := hK_4.ext hx22_
    have hP_22 := hP.ext hx22_
    obtain ⟨Ps23_, hH23_, hP23_⟩ := eDo_at ((hst21.get 4 rfl).holds) hP_22 hok0 (by rw [hHl]; decide)
    have hl23_ : Ps23_.length = 5 := by have := congrArg List.length hH23_; rw [List.length_map, hHl] at this; exact this
    have hS22_ := St.start W21
    clear hst21
    refine wp_region_P [0, 1] [.k 81 (vi 23), .k 82 (.bool true)] [(81, 0, 2, 83)] hS22_ fun W24 hst24 => ?_
    refine then_normal (wp_cond_true (show Act.eval _ _ = .bool true from rfl) (wp_seq ?_))
    have hd26 : (decide (fr < 0)) = true := (decide_eq_true hf0)
    refine wp_region_P [0, 1, 3, 7, 15, 31, 63, 127, 255, 511] [.k 83 (.bool true), .k 84 (.bool true), .k 85 (vi 23), .k 86 (.bool true), .k 87 (.bool true), .k 88 (.bool true), .k 89 (vi fr), .e 90 (.bool (decide (fr < 0))) (.bool true) (congrArg Value.bool hd26), .k 91 (.bool true), .k 4 (.bool true)] [(4, 9, 1, 5), (78, 0, 9, 87)] hst24 fun W25 hst25 => ?_
    refine then_normal (wp_ret (then_ret ?_))
    refine bodyPost_ret (v := .bool true) (results_tmp Tryd.results3 rfl) rfl ?_
    exact Ret.bool rfl (hX22_.trans hst25.ext)
  · skip
    subst hre
    rw [hHl] at hl1 hq1
    refine wp_region_Y [0, 1, 0, 0, 0, 0, 0, 112, 255, 511, 1023, 1023, 1023, 0, 10239, 28671, 65535] [[], [], [], [], [], [], [], [], [1, 0], [], [], [], [], [], [3]] [[], [], [1], [], [], [], [], [], [2], [], [], [], [], [3], [4]] [[], [], [], [], [], [], [], [], [], [], [], [], [], [], [3]] [.c 63 (.agg #[.slice A36_3 5 c36_3]), .c 64 (.iface 30 (.agg #[.slice A36_3 5 c36_3])), .a 65, .k 66 (vi fr), .k 67 (vi (x)), .k 68 (.agg #[vi (-1), vi 0]), .k 69 (.slice A43_5 (rs.length) c43_5), .k 70 (.agg #[vi (x), vi 0, vi (-1), vi 0, .bool false, .slice A43_5 (rs.length) c43_5]), .a 71, .a 62, .c 72 (.agg #[vi r1, vi r2]), .a 73, .c 74 (vi 0), .a 11, .n, .a 12, .k 13 (vi 0)] (fun ix σ β X => match ix with | 0 => True | 1 => True | 2 => σ 65 = .slice (sA (β 65)) 5 5 ∧ X 1 = eO 3 1 (.slice (sA (β 65)) 5 5) 5 ([vi 0, vi 1, vi 2, vi 3, vi 4]) | 3 => True | 4 => True | 5 => True | 6 => True | 7 => True | 8 => σ 71 = .tuple #[.agg #[vi r1, vi r2], .slice (sA (tg (β 71) 1)) L1.length (sC (tg (β 71) 1)), vi 0] ∧ X 2 = eO 99 3 (.slice (sA (tg (β 71) 1)) L1.length (sC (tg (β 71) 1))) L1.length (L1.flatMap cellsE) | 9 => σ 62 = .tuple #[.agg #[vi r1, vi r2], .slice (sA (tg (β 71) 1)) L1.length (sC (tg (β 71) 1)), vi 0] | 10 => True | 11 => σ 73 = .slice (sA (tg (β 71) 1)) L1.length (sC (tg (β 71) 1)) | 12 => True | 13 => σ 11 = vp (pb (β 11)) ∧ X 3 = eB (pb (β 11)) 24 #[vi 0, vi 0] | 14 => X 4 = eB (pb (β 11)) 24 #[vi r1, vi r2] | 15 => σ 12 = .slice (sA (tg (β 71) 1)) L1.length (sC (tg (β 71) 1)) | _ => True) [0, 1, 2, 4] [0, 1, 2, 8, 9, 10, 11, 12, 13, 14, 15] [(11, 13, 4, 14), (48, 9, 1, 49), (0, 0, 9, 9), (0, 10, 3, 3)] hst11 ?_ ?_ ?_
    · exact fun ix _ _ _ _ _ _ hs hb hx h => match ix, h with
      | 2, h => by dsimp only at h ⊢; rw [← hs 65 rfl, ← hb 65 rfl, ← hx 1 rfl]; exact h
      | 8, h => by dsimp only at h ⊢; rw [← hs 71 rfl, ← hb 71 rfl, ← hx 2 rfl]; exact h
      | 9, h => by dsimp only at h ⊢; rw [← hs 62 rfl, ← hb 71 rfl]; exact h
      | 11, h => by dsimp only at h ⊢; rw [← hs 73 rfl, ← hb 71 rfl]; exact h
      | 13, h => by dsimp only at h ⊢; rw [← hs 11 rfl, ← hb 11 rfl, ← hx 3 rfl]; exact h
      | 14, h => by dsimp only at h ⊢; rw [← hb 11 rfl, ← hx 4 rfl]; exact h
      | 15, h => by dsimp only at h ⊢; rw [← hs 12 rfl, ← hb 71 rfl]; exact h
      | 0, _ | 1, _ | 3, _ | 4, _ | 5, _ | 6, _ | 7, _ | 10, _ | 12, _ | _ + 16, _ => trivial
    · refine ⟨?_, ?_, ?_, ?_, ?_, ?_, ?_, ?_, ?_, ?_, ?_, trivial⟩
      · exact xs4 rfl id fun cx => run_loadB (n := 1) rfl (by kernel_rfl) (by kernel_rfl) (cx.ou 6) (Blk.ext hb4_2 cx.upd.to_ext) (nle rfl) rfl
      · exact sv0 rfl rfl rfl rfl rfl (fun _ _ _ h => h) fun ρ β W X cx => by
          have fF63 : ρ (.tmp 63) = .agg #[.slice A36_3 5 c36_3] := (cx.an 0)
          simp [go_sem, fF63]
      · refine sv_any rfl rfl fun ρ β W X cx => ?_
        exact dv_lit (e := 3) (xs := [vi 0, vi 1, vi 2, vi 3, vi 4]) rfl (by simp [go_sem, cx.sees.const]) rfl (by decide) rfl rfl (fun σ β' X' hs hb hv hx => ⟨hv, hx⟩)
      · refine sv_any rfl rfl fun ρ β W X cx => ?_
        refine DoesU.call (run_callF (args := #[.iface 30 (.agg #[.slice A36_3 5 c36_3]), .slice (sA (β 65)) 5 5, vi fr, vi 1, .agg #[vi (x), vi 0, vi (-1), vi 0, .bool false, .slice A43_5 (rs.length) c43_5]]) rfl cx.sees rfl (by kernel_rfl) (map5 (cx.an 1) (dTn (cx.an 2)).1 (cx.an 3) (cx.co _) (cx.an 7))) ?_
        refine (ins_eq hRI (hinsert_any _ _ (pvL H0) _ _ [0, 1, 2, 3, 4] fr 1 x 0 (-1) 0 false _ _ rs _ (pgs_ok (hP.ext cx.upd.to_ext) hPl hH0) (At.of_own (cx.row (dTn (cx.an 2)).2 rfl)) (by decide) (At.of_ownN (cx.ri 0 rfl)) (Nat.le_trans hrl6 (by decide)) (hN_4.ext cx.upd.to_ext))).mono ?_
        rintro e W1 ⟨A4, c4, rfl, ho_, hx⟩
        refine ⟨_, rfl, post_call [eO 99 3 (.slice A4 L1.length c4) L1.length (L1.flatMap cellsE)] rfl rfl hx (one_new (eO_new (n := L1.length) (xs := L1.flatMap cellsE) ho_)) (List.pairwise_singleton _ _) (fun σ β' X' hs hb hv hN => ?_)⟩
        have hv1 := (hv 71 rfl).1; have hv2 := (hv 71 rfl).2
        exact ⟨hv1.trans (by rw [hv2]; rfl), (by rw [hv2]; exact (List.cons.inj hN).1)⟩
      · exact sv rfl rfl rfl rfl rfl _ (fun _ _ _ h => h) (fun β β' h => by rw [h 71 (by decide)]) fun ρ β W X cx => run_move' rfl (dTn (cx.an 8)).1
      · exact xs4 rfl id fun cx => run_extract' rfl (dTn (cx.an 9)) rfl
      · exact sv rfl rfl rfl rfl rfl _ (fun _ _ _ h => h) (fun β β' h => by rw [h 71 (by decide)]) fun ρ β W X cx => run_extract' rfl (dTn (cx.an 9)) rfl
      · exact xs4 rfl id fun cx => run_extract' rfl (dTn (cx.an 9)) rfl
      · refine sv_any rfl rfl fun ρ β W X cx => ?_
        exact dv_alloc (cs := #[vi 0, vi 0]) rfl (by kernel_rfl) rfl rfl (fun σ β' X' hs hb hv hx => ⟨hv, hx⟩)
      · refine sv_any rfl rfl fun ρ β W X cx => ?_
        exact dv_store (n := 2) rfl (dTn (cx.an 13)).1 (cx.an 10) (by kernel_rfl) (by kernel_rfl) (by kernel_rfl) cx (dTn (cx.an 13)).2 rfl (nle rfl) (by kernel_rfl) rfl rfl rfl (fun σ β' X' hs hb hx => by rw [hb 11]; exact hx)
      · exact sv rfl rfl rfl rfl rfl _ (fun _ _ _ h => h) (fun β β' h => by rw [h 71 (by decide)]) fun ρ β W X cx => run_assign' rfl (dTn (cx.an 11))
    intro σ β X W27 hD hst27 fr hfr
    obtain ⟨A65_27, hu_A65_27⟩ : ∃ z, sA (β 65) = z := ⟨_, rfl⟩
    obtain ⟨A71_27, hu_A71_27⟩ : ∃ z, sA (tg (β 71) 1) = z := ⟨_, rfl⟩
    obtain ⟨c71_27, hu_c71_27⟩ : ∃ z, sC (tg (β 71) 1) = z := ⟨_, rfl⟩
    obtain ⟨B11_27, hu_B11_27⟩ : ∃ z, pb (β 11) = z := ⟨_, rfl⟩
    simp only [exq 1 ((dTn (hD 2 lq)).2), exq 2 ((dTn (hD 8 lq)).2), exq 4 ((dTn (hD 14 lq))), hu_A65_27, hu_A71_27, hu_c71_27, hu_B11_27] at hst27
    simp only [ed 65 ((dTn (hD 2 lq)).1), ed 71 ((dTn (hD 8 lq)).1), ed 62 ((dTn (hD 9 lq))), ed 73 ((dTn (hD 11 lq))), ed 11 ((dTn (hD 13 lq)).1), ed 12 ((dTn (hD 15 lq))), hu_A65_27, hu_A71_27, hu_c71_27, hu_B11_27] at hfr
    clear hD hu_A65_27 hu_A71_27 hu_c71_27 hu_B11_27; subst hfr; clear σ β X
    refine then_normal (wp_seq (wp_region_Y [0, 0, 3, 7, 15, 15, 0, 95, 255] [[], [], [2], [], [], [], [], [5]] [[], [], [4], [], [], [], [5], [6]] [[], [], [], [], [], [], [], [5]] [.c 76 (.agg #[.slice A36_3 5 c36_3]), .k 77 (.slice A71_27 L1.length c71_27), .a 78, .a 75, .a 79, .c 80 (.bool true), .a 14, .n, .k 15 (.bool true)] (fun ix σ β X => match ix with | 0 => True | 1 => True | 2 => σ 78 = .tuple #[.agg #[.slice (sA (tg (tg (β 78) 0) 0)) 5 (sC (tg (tg (β 78) 0) 0))], .bool true] ∧ X 4 = eDo Ps H1 5 (sA (tg (tg (β 78) 0) 0)) ((X 4).fp) | 3 => σ 75 = .tuple #[.agg #[.slice (sA (tg (tg (β 78) 0) 0)) 5 (sC (tg (tg (β 78) 0) 0))], .bool true] | 4 => σ 79 = .agg #[.slice (sA (tg (tg (β 78) 0) 0)) 5 (sC (tg (tg (β 78) 0) 0))] | 5 => True | 6 => σ 14 = vp (pb (β 14)) ∧ X 5 = eB (pb (β 14)) 30 #[.slice none 0 0] | 7 => X 6 = eB (pb (β 14)) 30 #[.slice (sA (tg (tg (β 78) 0) 0)) 5 (sC (tg (tg (β 78) 0) 0))] | _ => True) [0, 1, 2, 3, 4, 6] [0, 2, 3, 4, 5, 6, 7] [(14, 6, 3, 16), (59, 3, 1, 60), (0, 0, 3, 3), (0, 4, 2, 2)] hst27 ?_ ?_ ?_))
    · exact fun ix _ _ _ _ _ _ hs hb hx h => match ix, h with
      | 2, h => by dsimp only at h ⊢; rw [← hs 78 rfl, ← hb 78 rfl, ← hx 4 rfl]; exact h
      | 3, h => by dsimp only at h ⊢; rw [← hs 75 rfl, ← hb 78 rfl]; exact h
      | 4, h => by dsimp only at h ⊢; rw [← hs 79 rfl, ← hb 78 rfl]; exact h
      | 6, h => by dsimp only at h ⊢; rw [← hs 14 rfl, ← hb 14 rfl, ← hx 5 rfl]; exact h
      | 7, h => by dsimp only at h ⊢; rw [← hb 14 rfl, ← hb 78 rfl, ← hx 6 rfl]; exact h
      | 0, _ | 1, _ | 5, _ | _ + 8, _ => trivial
    · refine ⟨?_, ?_, ?_, ?_, ?_, ?_, ?_, trivial⟩
      · exact xs4 rfl id fun cx => run_loadB (n := 1) rfl (by kernel_rfl) (by kernel_rfl) (cx.ou 6) (Blk.ext hb4_2 cx.upd.to_ext) (nle rfl) rfl
      · refine sv_any rfl rfl fun ρ β W X cx => ?_
        refine DoesU.call (run_callF (args := #[.agg #[.slice A36_3 5 c36_3], .slice A71_27 L1.length c71_27, vi 9]) rfl cx.sees rfl (by kernel_rfl) (map3 (cx.an 0) (cx.an 1) (cx.co _))) ?_
        refine (rdo9_n (es := es1) hPl (by have := congrArg List.length (hem1 : List.map edD es1 = L1); rw [List.length_map] at this; exact this) (by decide) (hP.ext cx.upd.to_ext) (by rw [← edD_cells, (hem1 : List.map edD es1 = L1)]; exact (At.of_ownN (cx.ri 2 rfl))) (by first | omega | decide) hed1 ⟨by decide, by decide⟩ (by rw [(hH0 : List.map absP Ps = H0)]; exact hok0) (by rw [(hH0 : List.map absP Ps = H0)]; exact hdo1)).mono ?_
        rintro e W1 ⟨A4, c4, fp4, rfl, hc⟩
        refine ⟨_, rfl, post_st [eDo Ps H1 5 A4 fp4] rfl rfl hc (fun σ β' X' hs hb hv hN => ?_)⟩
        have hv1 := (hv 78 rfl).1; have hv2 := (hv 78 rfl).2
        exact ⟨hv1.trans (by rw [hv2]; rfl), (by rw [hv2]; exact eDo_self ((List.cons.inj hN).1))⟩
      · exact sv rfl rfl rfl rfl rfl _ (fun _ _ _ h => h) (fun β β' h => by rw [h 78 (by decide)]) fun ρ β W X cx => run_move' rfl (dTn (cx.an 2)).1
      · exact sv rfl rfl rfl rfl rfl _ (fun _ _ _ h => h) (fun β β' h => by rw [h 78 (by decide)]) fun ρ β W X cx => run_extract' rfl (dTn (cx.an 3)) rfl
      · exact xs4 rfl id fun cx => run_extract' rfl (dTn (cx.an 3)) rfl
      · refine sv_any rfl rfl fun ρ β W X cx => ?_
        exact dv_alloc (cs := #[.slice none 0 0]) rfl (by kernel_rfl) rfl rfl (fun σ β' X' hs hb hv hx => ⟨hv, hx⟩)
      · refine sv_any rfl rfl fun ρ β W X cx => ?_
        exact dv_store (n := 1) rfl (dTn (cx.an 6)).1 (dTn (cx.an 4)) (by kernel_rfl) (by kernel_rfl) (by kernel_rfl) cx (dTn (cx.an 6)).2 rfl (nle rfl) (by kernel_rfl) rfl rfl rfl (fun σ β' X' hs hb hx => by rw [hb 14, hb 78]; exact hx)
    intro σ β X W28 hD hst28 fr hfr
    obtain ⟨A78_28, hu_A78_28⟩ : ∃ z, sA (tg (tg (β 78) 0) 0) = z := ⟨_, rfl⟩
    obtain ⟨c78_28, hu_c78_28⟩ : ∃ z, sC (tg (tg (β 78) 0) 0) = z := ⟨_, rfl⟩
    obtain ⟨B14_28, hu_B14_28⟩ : ∃ z, pb (β 14) = z := ⟨_, rfl⟩
    have xX4 : X 4 = _ := (dTn (hD 2 lq)).2
    obtain ⟨r4_28, hu_r4_28⟩ : ∃ z, (X 4).fp = z := ⟨_, rfl⟩
    rw [hu_r4_28] at xX4
    clear hu_r4_28
    simp only [xX4, exq 6 ((dTn (hD 7 lq))), hu_A78_28, hu_c78_28, hu_B14_28] at hst28
    simp only [ed 78 ((dTn (hD 2 lq)).1), ed 75 ((dTn (hD 3 lq))), ed 79 ((dTn (hD 4 lq))), ed 14 ((dTn (hD 6 lq)).1), hu_A78_28, hu_c78_28, hu_B14_28] at hfr
    clear hD xX4 hu_A78_28 hu_c78_28 hu_B14_28; subst hfr; clear σ β X
    refine then_normal (wp_seq (wp_seq ?_))
    have hx29_ := hst28.ext
    have hX29_ := hx4_.trans hx29_
    have hB29_0 := Blk.ext hb4_0 hx29_
    have hB29_1 := Blk.ext hb4_2 hx29_
    have hb29_3 := hst28.blk 3 rfl
    have hb29_5 := hst28.blk 5 rfl
    have hA29_0 := hA4_0.ext hx29_
    have hA29_1 := hA4_1.ext hx29_
    have ha29_0 := At.of_ownN ((hst28.get 0 rfl).holds : World.ownsRow _ 0 82 3 (.slice A43_5 (rs.length) c43_5) rs.length (flatR rs))
    have ha29_1 := At.of_own ((hst28.get 1 rfl).holds : World.ownsRow _ 0 3 1 (.slice A65_27 5 5) 5 ([vi 0, vi 1, vi 2, vi 3, vi 4]))
    have ha29_2 := At.of_ownN ((hst28.get 2 rfl).holds : World.ownsRow _ 0 99 3 (.slice A71_27 L1.length c71_27) L1.length (L1.flatMap cellsE))
    have hN_29 := hN_4.ext hx29_
    have hK_29 := hK_4.ext hx29_
    have hP_29 := hP.ext hx29_
    obtain ⟨Ps30_, hH30_, hP30_⟩ := eDo_at ((hst28.get 4 rfl).holds) hP_29 hok1 (by rw [hl1]; decide)
    have hl30_ : Ps30_.length = 5 := by have := congrArg List.length hH30_; rw [List.length_map, hl1] at this; exact this
    have hS29_ := St.start W28
    clear hst28
    refine wp_region_P [0, 1] [.k 81 (vi 0), .k 82 (.bool false)] [(81, 0, 2, 83)] hS29_ fun W31 hst31 => ?_
    refine then_normal (wp_cond_false (show Act.eval _ _ = .bool false from rfl) (wp_skip (then_normal (wp_seq (wp_region_Y [0, 1, 0, 7, 15, 31, 31, 0, 191, 511] [[], [], [], [], [], [], [], [], [1]] [[], [], [], [0], [], [], [], [1], [2]] [[], [], [], [], [], [], [], [], [1]] [.c 93 (.agg #[.slice A78_28 5 c78_28]), .c 94 (.iface 30 (.agg #[.slice A78_28 5 c78_28])), .c 95 (.agg #[vi r1, vi r2]), .a 96, .a 92, .a 97, .c 98 (.bool true), .a 16, .n, .k 17 (.bool true)] (fun ix σ β X => match ix with | 0 => True | 1 => True | 2 => True | 3 => σ 96 = .tuple #[.agg #[vi x, vi 0, vi (-1), vi 0, .bool false, .slice (sA (tg (tg (β 96) 0) 5)) rs.length (sC (tg (tg (β 96) 0) 5))], .bool true] ∧ X 0 = eO 82 3 (.slice (sA (tg (tg (β 96) 0) 5)) rs.length (sC (tg (tg (β 96) 0) 5))) rs.length (flatR rs) | 4 => σ 92 = .tuple #[.agg #[vi x, vi 0, vi (-1), vi 0, .bool false, .slice (sA (tg (tg (β 96) 0) 5)) rs.length (sC (tg (tg (β 96) 0) 5))], .bool true] | 5 => σ 97 = .agg #[vi x, vi 0, vi (-1), vi 0, .bool false, .slice (sA (tg (tg (β 96) 0) 5)) rs.length (sC (tg (tg (β 96) 0) 5))] | 6 => True | 7 => σ 16 = vp (pb (β 16)) ∧ X 1 = eB (pb (β 16)) 41 #[vi 0, vi 0, vi 0, vi 0, .bool false, .slice none 0 0] | 8 => X 2 = eB (pb (β 16)) 41 #[vi x, vi 0, vi (-1), vi 0, .bool false, .slice (sA (tg (tg (β 96) 0) 5)) rs.length (sC (tg (tg (β 96) 0) 5))] | _ => True) [0, 2] [0, 1, 2, 3, 4, 5, 6, 7, 8] [(16, 7, 3, 18), (74, 4, 1, 75), (0, 0, 4, 4), (0, 5, 2, 2)] hst31 ?_ ?_ ?_)))))
    · exact fun ix _ _ _ _ _ _ hs hb hx h => match ix, h with
      | 3, h => by dsimp only at h ⊢; rw [← hs 96 rfl, ← hb 96 rfl, ← hx 0 rfl]; exact h
      | 4, h => by dsimp only at h ⊢; rw [← hs 92 rfl, ← hb 96 rfl]; exact h
      | 5, h => by dsimp only at h ⊢; rw [← hs 97 rfl, ← hb 96 rfl]; exact h
      | 7, h => by dsimp only at h ⊢; rw [← hs 16 rfl, ← hb 16 rfl, ← hx 1 rfl]; exact h
      | 8, h => by dsimp only at h ⊢; rw [← hb 16 rfl, ← hb 96 rfl, ← hx 2 rfl]; exact h
      | 0, _ | 1, _ | 2, _ | 6, _ | _ + 9, _ => trivial
    · refine ⟨?_, ?_, ?_, ?_, ?_, ?_, ?_, ?_, ?_, trivial⟩
      · exact xs4 rfl id fun cx => run_loadB (n := 1) rfl (by kernel_rfl) (by kernel_rfl) (cx.ou 14) (Blk.ext hb29_5 cx.upd.to_ext) (nle rfl) rfl
      · exact sv0 rfl rfl rfl rfl rfl (fun _ _ _ h => h) fun ρ β W X cx => by
          have fF93 : ρ (.tmp 93) = .agg #[.slice A78_28 5 c78_28] := (cx.an 0)
          simp [go_sem, fF93]
      · exact xs4 rfl id fun cx => run_loadB (n := 2) rfl (by kernel_rfl) (by kernel_rfl) (cx.ou 11) (Blk.ext hb29_3 cx.upd.to_ext) (nle rfl) rfl
      · refine sv_any rfl rfl fun ρ β W X cx => ?_
        refine DoesU.call (run_callF (args := #[.iface 30 (.agg #[.slice A78_28 5 c78_28]), .agg #[vi r1, vi r2]]) rfl cx.sees rfl (by kernel_rfl) (map2 (cx.an 1) (cx.an 2))) ?_
        refine (get_eq hat1 (hget_any _ _ (pvL H1) r1 r2 _ (pgs_ok (hP30_.ext cx.upd.to_ext) hl30_ hH30_) (hN_29.ext cx.upd.to_ext))).mono ?_
        rintro e W1 ⟨A4, c4, rfl, ho_, hx⟩
        refine ⟨_, rfl, post_call [eO 82 3 (.slice A4 rs.length c4) rs.length (flatR rs)] rfl rfl hx (one_new (eO_new (n := rs.length) (xs := flatR rs) ho_)) (List.pairwise_singleton _ _) (fun σ β' X' hs hb hv hN => ?_)⟩
        have hv1 := (hv 96 rfl).1; have hv2 := (hv 96 rfl).2
        exact ⟨hv1.trans (by rw [hv2]; rfl), (by rw [hv2]; exact (List.cons.inj hN).1)⟩
      · exact sv rfl rfl rfl rfl rfl _ (fun _ _ _ h => h) (fun β β' h => by rw [h 96 (by decide)]) fun ρ β W X cx => run_move' rfl (dTn (cx.an 3)).1
      · exact sv rfl rfl rfl rfl rfl _ (fun _ _ _ h => h) (fun β β' h => by rw [h 96 (by decide)]) fun ρ β W X cx => run_extract' rfl (dTn (cx.an 4)) rfl
      · exact xs4 rfl id fun cx => run_extract' rfl (dTn (cx.an 4)) rfl
      · refine sv_any rfl rfl fun ρ β W X cx => ?_
        exact dv_alloc (cs := #[vi 0, vi 0, vi 0, vi 0, .bool false, .slice none 0 0]) rfl (by kernel_rfl) rfl rfl (fun σ β' X' hs hb hv hx => ⟨hv, hx⟩)
      · refine sv_any rfl rfl fun ρ β W X cx => ?_
        exact dv_store (n := 6) rfl (dTn (cx.an 7)).1 (dTn (cx.an 5)) (by kernel_rfl) (by kernel_rfl) (by kernel_rfl) cx (dTn (cx.an 7)).2 rfl (nle rfl) (by kernel_rfl) rfl rfl rfl (fun σ β' X' hs hb hx => by rw [hb 16, hb 96]; exact hx)
    intro σ β X W32 hD hst32 fr hfr
    obtain ⟨A96_32, hu_A96_32⟩ : ∃ z, sA (tg (tg (β 96) 0) 5) = z := ⟨_, rfl⟩
    obtain ⟨c96_32, hu_c96_32⟩ : ∃ z, sC (tg (tg (β 96) 0) 5) = z := ⟨_, rfl⟩
    obtain ⟨B16_32, hu_B16_32⟩ : ∃ z, pb (β 16) = z := ⟨_, rfl⟩
    simp only [exq 0 ((dTn (hD 3 lq)).2), exq 2 ((dTn (hD 8 lq))), hu_A96_32, hu_c96_32, hu_B16_32] at hst32
    simp only [ed 96 ((dTn (hD 3 lq)).1), ed 92 ((dTn (hD 4 lq))), ed 97 ((dTn (hD 5 lq))), ed 16 ((dTn (hD 7 lq)).1), hu_A96_32, hu_c96_32, hu_B16_32] at hfr
    clear hD hu_A96_32 hu_c96_32 hu_B16_32; subst hfr; clear σ β X
    refine then_normal (wp_seq (wp_seq (wp_region_Z [0, 1, 3, 7, 15, 31, 63, 127, 255, 127, 1023, 2047, 4095, 8191, 16383, 32767, 65535, 131071, 262143, 524287, 262143, 2097151, 4194303, 8388607] [[], [], [], [], [], [], [], [], [1], [], [], [], [], [], [1], [], [], [], [], [1], [], [0]] [.k 99 (.bool true), .k 100 (.bool false), .k 101 (.bool false), .k 102 (.bool true), .k 103 (.bool false), .k 104 (.bool false), .k 105 (.bool false), .k 106 (vp B16_32), .c 107 (vi x), .k 108 (vi (x)), .e 109 (.bool (x != x)) (.bool false) (congrArg Value.bool (show (x != x) = false from (bne_self_eq_false x))), .k 110 (.bool false), .k 111 (.bool false), .k 112 (.pointer (some ⟨B16_32, 1, none⟩)), .c 113 (vi 0), .k 114 (.bool false), .k 115 (.bool false), .k 116 (.bool false), .k 117 (.pointer (some ⟨B16_32, 5, none⟩)), .c 118 (.slice A96_32 rs.length c96_32), .k 119 (.slice A43_5 (rs.length) c43_5), .c 120 (vi 0), .k 121 (.bool false), .k 122 (.bool false)] [0, 1] [8, 14, 19, 21] [(99, 0, 24, 123)] hst32 ?_ fun W33 hst33 => ?_)))
    · refine ⟨?_, ?_, ?_, ?_, trivial⟩
      · exact xs5 rfl id (fun cx => (cx.an 6)) fun cx => run_load1 rfl (by kernel_rfl) (cx.an 7) ((cx.bi 1 rfl).cell 0)
      · exact xs5 rfl id (fun cx => (cx.an 12)) fun cx => run_load1 rfl (by kernel_rfl) (cx.an 13) ((cx.bi 1 rfl).cell 1)
      · exact xs5 rfl id (fun cx => (cx.an 17)) fun cx => run_load1 rfl (by kernel_rfl) (cx.an 18) ((cx.bi 1 rfl).cell 5)
      · exact sv_call_on rfl rfl rfl rfl rfl rfl (fun _ _ _ h => h) (fun _ _ _ _ cx => (cx.an 17)) fun ρ β W X cx => ⟨_, _, run_callF (args := #[.slice A96_32 rs.length c96_32, .slice A43_5 (rs.length) c43_5]) rfl cx.sees rfl (by kernel_rfl) (map2 (cx.an 19) (cx.an 20)), vrows_same _ _ _ _ rs _ (At.of_ownN (cx.ri 0 rfl)) (ha29_0.ext cx.upd.to_ext) (Nat.le_trans hrl6 (by decide)) (right_known hrr) (hK_29.ext cx.upd.to_ext)⟩
    refine then_normal (wp_cond_false (show Act.eval _ _ = .bool false from rfl) (wp_skip (then_normal (wp_seq ?_))))
    have hm3 := tmb0 (a := x) (b := 125) (by omega) (by decide)
    have hx2 : 3 ≤ (3 + (x.tmod 125)) ∧ (3 + (x.tmod 125)) < 128 := by omega
    obtain ⟨RU, hRU⟩ : ∃ z, updA (pvL H1) (-1) 1 [0, 1, 2, 3, 4] r1 r2 (3 + (x.tmod 125)) hot rs = z := ⟨_, rfl⟩
    have hup := upd_law (lsn := 10) (tb := 1) (ns := [0, 1, 2, 3, 4]) (hot := hot) hok1 ⟨by decide, by decide⟩ (by omega) hat1 hx2 ⟨by decide, by decide⟩ hrr hrn hrp
    have hL2 := updA_len (pvL H1) (-1) 1 [0, 1, 2, 3, 4] r1 r2 (3 + (x.tmod 125)) hot rs
    rw [hRU] at hup hL2
    obtain ⟨⟨u1, u2⟩, ub, L2, ue⟩ := RU
    dsimp only at hup hL2
    rcases hup with hue | ⟨hue, es2, H2, hem2, hed2, hdo2, hok2, hl2, hold2, hnew2, hhot⟩
    · skip
      subst hue
      refine wp_region_Y [0, 1, 0, 0, 0, 16, 48, 0, 0, 256, 1023, 2047, 4095, 4095, 4095, 4095, 0, 73727, 212991, 491519, 1048575] [[], [], [], [], [], [], [], [], [], [], [2], [], [], [], [], [], [], [4]] [[], [], [2], [], [], [], [], [], [], [], [3], [], [], [], [], [], [4], [5]] [[], [], [], [], [], [], [], [], [], [], [], [], [], [], [], [], [], [4]] [.c 124 (.agg #[.slice A78_28 5 c78_28]), .c 125 (.iface 30 (.agg #[.slice A78_28 5 c78_28])), .a 126, .c 127 (.agg #[vi r1, vi r2]), .k 128 (vi (x)), tRe 129 .i64 x 125 (x.tmod 125) (rfl), tI 130 (3 + (x.tmod 125)) (by omega), .k 131 (.slice A43_5 (rs.length) c43_5), .k 132 (.pointer (some ⟨B3_1, 7, none⟩)), .c 133 (.bool hot), .a 134, .a 123, .c 135 (.agg #[vi u1, vi u2]), .c 136 (.bool ub), .a 137, .c 138 (vi 23), .a 18, .n, .k 19 (.bool ub), .a 20, .k 21 (vi 23)] (fun ix σ β X => match ix with | 0 => True | 1 => True | 2 => σ 126 = .slice (sA (β 126)) 5 5 ∧ X 2 = eO 3 1 (.slice (sA (β 126)) 5 5) 5 ([vi 0, vi 1, vi 2, vi 3, vi 4]) | 3 => True | 4 => True | 5 => True | 6 => True | 7 => True | 8 => True | 9 => True | 10 => σ 134 = .tuple #[.agg #[vi u1, vi u2], .bool ub, .slice (sA (tg (β 134) 2)) L2.length (sC (tg (β 134) 2)), vi 23] ∧ X 3 = eO 99 3 (.slice (sA (tg (β 134) 2)) L2.length (sC (tg (β 134) 2))) L2.length (L2.flatMap cellsE) | 11 => σ 123 = .tuple #[.agg #[vi u1, vi u2], .bool ub, .slice (sA (tg (β 134) 2)) L2.length (sC (tg (β 134) 2)), vi 23] | 12 => True | 13 => True | 14 => σ 137 = .slice (sA (tg (β 134) 2)) L2.length (sC (tg (β 134) 2)) | 15 => True | 16 => σ 18 = vp (pb (β 18)) ∧ X 4 = eB (pb (β 18)) 24 #[vi 0, vi 0] | 17 => X 5 = eB (pb (β 18)) 24 #[vi u1, vi u2] | 18 => True | 19 => σ 20 = .slice (sA (tg (β 134) 2)) L2.length (sC (tg (β 134) 2)) | _ => True) [0, 1, 2, 3, 5] [0, 1, 2, 3, 9, 10, 11, 12, 13, 14, 15, 16, 17, 19] [(18, 16, 5, 22), (101, 11, 1, 102), (0, 0, 11, 11), (0, 12, 4, 4)] hst33 ?_ ?_ ?_
      · exact fun ix _ _ _ _ _ _ hs hb hx h => match ix, h with
        | 2, h => by dsimp only at h ⊢; rw [← hs 126 rfl, ← hb 126 rfl, ← hx 2 rfl]; exact h
        | 10, h => by dsimp only at h ⊢; rw [← hs 134 rfl, ← hb 134 rfl, ← hx 3 rfl]; exact h
        | 11, h => by dsimp only at h ⊢; rw [← hs 123 rfl, ← hb 134 rfl]; exact h
        | 14, h => by dsimp only at h ⊢; rw [← hs 137 rfl, ← hb 134 rfl]; exact h
        | 16, h => by dsimp only at h ⊢; rw [← hs 18 rfl, ← hb 18 rfl, ← hx 4 rfl]; exact h
        | 17, h => by dsimp only at h ⊢; rw [← hb 18 rfl, ← hx 5 rfl]; exact h
        | 19, h => by dsimp only at h ⊢; rw [← hs 20 rfl, ← hb 134 rfl]; exact h
        | 0, _ | 1, _ | 3, _ | 4, _ | 5, _ | 6, _ | 7, _ | 8, _ | 9, _ | 12, _ | 13, _ | 15, _ | 18, _ | _ + 20, _ => trivial
      · refine ⟨?_, ?_, ?_, ?_, ?_, ?_, ?_, ?_, ?_, ?_, ?_, ?_, ?_, ?_, trivial⟩
        · exact xs4 rfl id fun cx => run_loadB (n := 1) rfl (by kernel_rfl) (by kernel_rfl) (cx.ou 14) (Blk.ext hb29_5 cx.upd.to_ext) (nle rfl) rfl
        · exact sv0 rfl rfl rfl rfl rfl (fun _ _ _ h => h) fun ρ β W X cx => by
            have fF124 : ρ (.tmp 124) = .agg #[.slice A78_28 5 c78_28] := (cx.an 0)
            simp [go_sem, fF124]
        · refine sv_any rfl rfl fun ρ β W X cx => ?_
          exact dv_lit (e := 3) (xs := [vi 0, vi 1, vi 2, vi 3, vi 4]) rfl (by simp [go_sem, cx.sees.const]) rfl (by decide) rfl rfl (fun σ β' X' hs hb hv hx => ⟨hv, hx⟩)
        · exact xs4 rfl id fun cx => run_loadB (n := 2) rfl (by kernel_rfl) (by kernel_rfl) (cx.ou 11) (Blk.ext hb29_3 cx.upd.to_ext) (nle rfl) rfl
        · exact xs4 rfl id fun cx => run_load1 rfl (by kernel_rfl) (cx.an 8) ((Blk.ext hB29_0 cx.upd.to_ext).cell 7)
        · refine sv_any rfl rfl fun ρ β W X cx => ?_
          refine DoesU.call (run_callF (args := #[.iface 30 (.agg #[.slice A78_28 5 c78_28]), .slice (sA (β 126)) 5 5, vi (-1), vi 1, .agg #[vi r1, vi r2], vi (3 + (x.tmod 125)), .slice A43_5 (rs.length) c43_5, .bool hot]) rfl cx.sees rfl (by kernel_rfl) (map8 (cx.an 1) (dTn (cx.an 2)).1 (cx.co _) (cx.co _) (cx.an 3) (cx.an 6) (cx.an 7) (cx.an 9))) ?_
          refine (upd_eq hRU (hupdate_any _ _ (pvL H1) _ _ [0, 1, 2, 3, 4] (-1) 1 r1 r2 (3 + (x.tmod 125)) _ _ rs hot _ (pgs_ok (hP30_.ext cx.upd.to_ext) hl30_ hH30_) (At.of_own (cx.row (dTn (cx.an 2)).2 rfl)) (by decide) (ha29_0.ext cx.upd.to_ext) (Nat.le_trans hrl6 (by decide)) (hN_29.ext cx.upd.to_ext))).mono ?_
          rintro e W1 ⟨A4, c4, rfl, ho_, hx⟩
          refine ⟨_, rfl, post_call [eO 99 3 (.slice A4 L2.length c4) L2.length (L2.flatMap cellsE)] rfl rfl hx (one_new (eO_new (n := L2.length) (xs := L2.flatMap cellsE) ho_)) (List.pairwise_singleton _ _) (fun σ β' X' hs hb hv hN => ?_)⟩
          have hv1 := (hv 134 rfl).1; have hv2 := (hv 134 rfl).2
          exact ⟨hv1.trans (by rw [hv2]; rfl), (by rw [hv2]; exact (List.cons.inj hN).1)⟩
        · exact sv rfl rfl rfl rfl rfl _ (fun _ _ _ h => h) (fun β β' h => by rw [h 134 (by decide)]) fun ρ β W X cx => run_move' rfl (dTn (cx.an 10)).1
        · exact xs4 rfl id fun cx => run_extract' rfl (dTn (cx.an 11)) rfl
        · exact xs4 rfl id fun cx => run_extract' rfl (dTn (cx.an 11)) rfl
        · exact sv rfl rfl rfl rfl rfl _ (fun _ _ _ h => h) (fun β β' h => by rw [h 134 (by decide)]) fun ρ β W X cx => run_extract' rfl (dTn (cx.an 11)) rfl
        · exact xs4 rfl id fun cx => run_extract' rfl (dTn (cx.an 11)) rfl
        · refine sv_any rfl rfl fun ρ β W X cx => ?_
          exact dv_alloc (cs := #[vi 0, vi 0]) rfl (by kernel_rfl) rfl rfl (fun σ β' X' hs hb hv hx => ⟨hv, hx⟩)
        · refine sv_any rfl rfl fun ρ β W X cx => ?_
          exact dv_store (n := 2) rfl (dTn (cx.an 16)).1 (cx.an 12) (by kernel_rfl) (by kernel_rfl) (by kernel_rfl) cx (dTn (cx.an 16)).2 rfl (nle rfl) (by kernel_rfl) rfl rfl rfl (fun σ β' X' hs hb hx => by rw [hb 18]; exact hx)
        · exact sv rfl rfl rfl rfl rfl _ (fun _ _ _ h => h) (fun β β' h => by rw [h 134 (by decide)]) fun ρ β W X cx => run_assign' rfl (dTn (cx.an 14))
      intro σ β X W34 hD hst34 fr hfr
      obtain ⟨A126_34, hu_A126_34⟩ : ∃ z, sA (β 126) = z := ⟨_, rfl⟩
      obtain ⟨A134_34, hu_A134_34⟩ : ∃ z, sA (tg (β 134) 2) = z := ⟨_, rfl⟩
      obtain ⟨c134_34, hu_c134_34⟩ : ∃ z, sC (tg (β 134) 2) = z := ⟨_, rfl⟩
      obtain ⟨B18_34, hu_B18_34⟩ : ∃ z, pb (β 18) = z := ⟨_, rfl⟩
      simp only [exq 2 ((dTn (hD 2 lq)).2), exq 3 ((dTn (hD 10 lq)).2), exq 5 ((dTn (hD 17 lq))), hu_A126_34, hu_A134_34, hu_c134_34, hu_B18_34] at hst34
      simp only [ed 126 ((dTn (hD 2 lq)).1), ed 134 ((dTn (hD 10 lq)).1), ed 123 ((dTn (hD 11 lq))), ed 137 ((dTn (hD 14 lq))), ed 18 ((dTn (hD 16 lq)).1), ed 20 ((dTn (hD 19 lq))), hu_A126_34, hu_A134_34, hu_c134_34, hu_B18_34] at hfr
      clear hD hu_A126_34 hu_A134_34 hu_c134_34 hu_B18_34; subst hfr; clear σ β X
      refine then_normal (wp_seq (wp_seq (wp_region_P [0, 1] [.k 139 (vi 23), .k 140 (.bool true)] [(139, 0, 2, 141)] hst34 fun W35 hst35 => ?_)))
      refine then_normal (wp_cond_true (show Act.eval _ _ = .bool true from rfl) (wp_seq (wp_region_P [0, 1, 3, 7, 15, 31] [.k 141 (.bool true), .k 142 (.bool true), .k 143 (vi 23), .k 144 (.bool true), .k 145 (.bool true), .k 4 (.bool true)] [(4, 5, 1, 5), (136, 0, 5, 141)] hst35 fun W36 hst36 => ?_)))
      refine then_normal (wp_ret (then_ret ?_))
      refine bodyPost_ret (v := .bool true) (results_tmp Tryd.results3 rfl) rfl ?_
      exact Ret.bool rfl (hX29_.trans hst36.ext)
    · skip
      subst hue
      rw [hl1] at hl2
      refine wp_region_Y [0, 1, 0, 0, 0, 16, 48, 0, 0, 256, 1023, 2047, 4095, 4095, 4095, 4095, 0, 73727, 212991, 491519, 1048575] [[], [], [], [], [], [], [], [], [], [], [2], [], [], [], [], [], [], [4]] [[], [], [2], [], [], [], [], [], [], [], [3], [], [], [], [], [], [4], [5]] [[], [], [], [], [], [], [], [], [], [], [], [], [], [], [], [], [], [4]] [.c 124 (.agg #[.slice A78_28 5 c78_28]), .c 125 (.iface 30 (.agg #[.slice A78_28 5 c78_28])), .a 126, .c 127 (.agg #[vi r1, vi r2]), .k 128 (vi (x)), tRe 129 .i64 x 125 (x.tmod 125) (rfl), tI 130 (3 + (x.tmod 125)) (by omega), .k 131 (.slice A43_5 (rs.length) c43_5), .k 132 (.pointer (some ⟨B3_1, 7, none⟩)), .c 133 (.bool hot), .a 134, .a 123, .c 135 (.agg #[vi u1, vi u2]), .c 136 (.bool ub), .a 137, .c 138 (vi 0), .a 18, .n, .k 19 (.bool ub), .a 20, .k 21 (vi 0)] (fun ix σ β X => match ix with | 0 => True | 1 => True | 2 => σ 126 = .slice (sA (β 126)) 5 5 ∧ X 2 = eO 3 1 (.slice (sA (β 126)) 5 5) 5 ([vi 0, vi 1, vi 2, vi 3, vi 4]) | 3 => True | 4 => True | 5 => True | 6 => True | 7 => True | 8 => True | 9 => True | 10 => σ 134 = .tuple #[.agg #[vi u1, vi u2], .bool ub, .slice (sA (tg (β 134) 2)) L2.length (sC (tg (β 134) 2)), vi 0] ∧ X 3 = eO 99 3 (.slice (sA (tg (β 134) 2)) L2.length (sC (tg (β 134) 2))) L2.length (L2.flatMap cellsE) | 11 => σ 123 = .tuple #[.agg #[vi u1, vi u2], .bool ub, .slice (sA (tg (β 134) 2)) L2.length (sC (tg (β 134) 2)), vi 0] | 12 => True | 13 => True | 14 => σ 137 = .slice (sA (tg (β 134) 2)) L2.length (sC (tg (β 134) 2)) | 15 => True | 16 => σ 18 = vp (pb (β 18)) ∧ X 4 = eB (pb (β 18)) 24 #[vi 0, vi 0] | 17 => X 5 = eB (pb (β 18)) 24 #[vi u1, vi u2] | 18 => True | 19 => σ 20 = .slice (sA (tg (β 134) 2)) L2.length (sC (tg (β 134) 2)) | _ => True) [0, 1, 2, 3, 5] [0, 1, 2, 3, 9, 10, 11, 12, 13, 14, 15, 16, 17, 19] [(18, 16, 5, 22), (101, 11, 1, 102), (0, 0, 11, 11), (0, 12, 4, 4)] hst33 ?_ ?_ ?_
      · exact fun ix _ _ _ _ _ _ hs hb hx h => match ix, h with
        | 2, h => by dsimp only at h ⊢; rw [← hs 126 rfl, ← hb 126 rfl, ← hx 2 rfl]; exact h
        | 10, h => by dsimp only at h ⊢; rw [← hs 134 rfl, ← hb 134 rfl, ← hx 3 rfl]; exact h
        | 11, h => by dsimp only at h ⊢; rw [← hs 123 rfl, ← hb 134 rfl]; exact h
        | 14, h => by dsimp only at h ⊢; rw [← hs 137 rfl, ← hb 134 rfl]; exact h
        | 16, h => by dsimp only at h ⊢; rw [← hs 18 rfl, ← hb 18 rfl, ← hx 4 rfl]; exact h
        | 17, h => by dsimp only at h ⊢; rw [← hb 18 rfl, ← hx 5 rfl]; exact h
        | 19, h => by dsimp only at h ⊢; rw [← hs 20 rfl, ← hb 134 rfl]; exact h
        | 0, _ | 1, _ | 3, _ | 4, _ | 5, _ | 6, _ | 7, _ | 8, _ | 9, _ | 12, _ | 13, _ | 15, _ | 18, _ | _ + 20, _ => trivial
      · refine ⟨?_, ?_, ?_, ?_, ?_, ?_, ?_, ?_, ?_, ?_, ?_, ?_, ?_, ?_, trivial⟩
        · exact xs4 rfl id fun cx => run_loadB (n := 1) rfl (by kernel_rfl) (by kernel_rfl) (cx.ou 14) (Blk.ext hb29_5 cx.upd.to_ext) (nle rfl) rfl
        · exact sv0 rfl rfl rfl rfl rfl (fun _ _ _ h => h) fun ρ β W X cx => by
            have fF124 : ρ (.tmp 124) = .agg #[.slice A78_28 5 c78_28] := (cx.an 0)
            simp [go_sem, fF124]
        · refine sv_any rfl rfl fun ρ β W X cx => ?_
          exact dv_lit (e := 3) (xs := [vi 0, vi 1, vi 2, vi 3, vi 4]) rfl (by simp [go_sem, cx.sees.const]) rfl (by decide) rfl rfl (fun σ β' X' hs hb hv hx => ⟨hv, hx⟩)
        · exact xs4 rfl id fun cx => run_loadB (n := 2) rfl (by kernel_rfl) (by kernel_rfl) (cx.ou 11) (Blk.ext hb29_3 cx.upd.to_ext) (nle rfl) rfl
        · exact xs4 rfl id fun cx => run_load1 rfl (by kernel_rfl) (cx.an 8) ((Blk.ext hB29_0 cx.upd.to_ext).cell 7)
        · refine sv_any rfl rfl fun ρ β W X cx => ?_
          refine DoesU.call (run_callF (args := #[.iface 30 (.agg #[.slice A78_28 5 c78_28]), .slice (sA (β 126)) 5 5, vi (-1), vi 1, .agg #[vi r1, vi r2], vi (3 + (x.tmod 125)), .slice A43_5 (rs.length) c43_5, .bool hot]) rfl cx.sees rfl (by kernel_rfl) (map8 (cx.an 1) (dTn (cx.an 2)).1 (cx.co _) (cx.co _) (cx.an 3) (cx.an 6) (cx.an 7) (cx.an 9))) ?_
          refine (upd_eq hRU (hupdate_any _ _ (pvL H1) _ _ [0, 1, 2, 3, 4] (-1) 1 r1 r2 (3 + (x.tmod 125)) _ _ rs hot _ (pgs_ok (hP30_.ext cx.upd.to_ext) hl30_ hH30_) (At.of_own (cx.row (dTn (cx.an 2)).2 rfl)) (by decide) (ha29_0.ext cx.upd.to_ext) (Nat.le_trans hrl6 (by decide)) (hN_29.ext cx.upd.to_ext))).mono ?_
          rintro e W1 ⟨A4, c4, rfl, ho_, hx⟩
          refine ⟨_, rfl, post_call [eO 99 3 (.slice A4 L2.length c4) L2.length (L2.flatMap cellsE)] rfl rfl hx (one_new (eO_new (n := L2.length) (xs := L2.flatMap cellsE) ho_)) (List.pairwise_singleton _ _) (fun σ β' X' hs hb hv hN => ?_)⟩
          have hv1 := (hv 134 rfl).1; have hv2 := (hv 134 rfl).2
          exact ⟨hv1.trans (by rw [hv2]; rfl), (by rw [hv2]; exact (List.cons.inj hN).1)⟩
        · exact sv rfl rfl rfl rfl rfl _ (fun _ _ _ h => h) (fun β β' h => by rw [h 134 (by decide)]) fun ρ β W X cx => run_move' rfl (dTn (cx.an 10)).1
        · exact xs4 rfl id fun cx => run_extract' rfl (dTn (cx.an 11)) rfl
        · exact xs4 rfl id fun cx => run_extract' rfl (dTn (cx.an 11)) rfl
        · exact sv rfl rfl rfl rfl rfl _ (fun _ _ _ h => h) (fun β β' h => by rw [h 134 (by decide)]) fun ρ β W X cx => run_extract' rfl (dTn (cx.an 11)) rfl
        · exact xs4 rfl id fun cx => run_extract' rfl (dTn (cx.an 11)) rfl
        · refine sv_any rfl rfl fun ρ β W X cx => ?_
          exact dv_alloc (cs := #[vi 0, vi 0]) rfl (by kernel_rfl) rfl rfl (fun σ β' X' hs hb hv hx => ⟨hv, hx⟩)
        · refine sv_any rfl rfl fun ρ β W X cx => ?_
          exact dv_store (n := 2) rfl (dTn (cx.an 16)).1 (cx.an 12) (by kernel_rfl) (by kernel_rfl) (by kernel_rfl) cx (dTn (cx.an 16)).2 rfl (nle rfl) (by kernel_rfl) rfl rfl rfl (fun σ β' X' hs hb hx => by rw [hb 18]; exact hx)
        · exact sv rfl rfl rfl rfl rfl _ (fun _ _ _ h => h) (fun β β' h => by rw [h 134 (by decide)]) fun ρ β W X cx => run_assign' rfl (dTn (cx.an 14))
      intro σ β X W37 hD hst37 fr hfr
      obtain ⟨A126_37, hu_A126_37⟩ : ∃ z, sA (β 126) = z := ⟨_, rfl⟩
      obtain ⟨A134_37, hu_A134_37⟩ : ∃ z, sA (tg (β 134) 2) = z := ⟨_, rfl⟩
      obtain ⟨c134_37, hu_c134_37⟩ : ∃ z, sC (tg (β 134) 2) = z := ⟨_, rfl⟩
      obtain ⟨B18_37, hu_B18_37⟩ : ∃ z, pb (β 18) = z := ⟨_, rfl⟩
      simp only [exq 2 ((dTn (hD 2 lq)).2), exq 3 ((dTn (hD 10 lq)).2), exq 5 ((dTn (hD 17 lq))), hu_A126_37, hu_A134_37, hu_c134_37, hu_B18_37] at hst37
      simp only [ed 126 ((dTn (hD 2 lq)).1), ed 134 ((dTn (hD 10 lq)).1), ed 123 ((dTn (hD 11 lq))), ed 137 ((dTn (hD 14 lq))), ed 18 ((dTn (hD 16 lq)).1), ed 20 ((dTn (hD 19 lq))), hu_A126_37, hu_A134_37, hu_c134_37, hu_B18_37] at hfr
      clear hD hu_A126_37 hu_A134_37 hu_c134_37 hu_B18_37; subst hfr; clear σ β X
      refine then_normal (wp_seq (wp_seq (wp_region_P [0, 1] [.k 139 (vi 0), .k 140 (.bool false)] [(139, 0, 2, 141)] hst37 fun W38 hst38 => ?_)))
      refine then_normal (wp_cond_false (show Act.eval _ _ = .bool false from rfl) (wp_skip (then_normal (wp_seq (wp_region_Y [0, 0, 3, 7, 15, 15, 0, 95, 255] [[], [], [3], [], [], [], [], [6]] [[], [], [5], [], [], [], [6], [7]] [[], [], [], [], [], [], [], [6]] [.c 147 (.agg #[.slice A78_28 5 c78_28]), .k 148 (.slice A134_37 L2.length c134_37), .a 149, .a 146, .a 150, .c 151 (.bool true), .a 22, .n, .k 23 (.bool true)] (fun ix σ β X => match ix with | 0 => True | 1 => True | 2 => σ 149 = .tuple #[.agg #[.slice (sA (tg (tg (β 149) 0) 0)) 5 (sC (tg (tg (β 149) 0) 0))], .bool true] ∧ X 5 = eDo Ps30_ H2 5 (sA (tg (tg (β 149) 0) 0)) ((X 5).fp) | 3 => σ 146 = .tuple #[.agg #[.slice (sA (tg (tg (β 149) 0) 0)) 5 (sC (tg (tg (β 149) 0) 0))], .bool true] | 4 => σ 150 = .agg #[.slice (sA (tg (tg (β 149) 0) 0)) 5 (sC (tg (tg (β 149) 0) 0))] | 5 => True | 6 => σ 22 = vp (pb (β 22)) ∧ X 6 = eB (pb (β 22)) 30 #[.slice none 0 0] | 7 => X 7 = eB (pb (β 22)) 30 #[.slice (sA (tg (tg (β 149) 0) 0)) 5 (sC (tg (tg (β 149) 0) 0))] | _ => True) [0, 1, 2, 3, 4, 5, 7] [0, 2, 3, 4, 5, 6, 7] [(22, 6, 3, 24), (122, 3, 1, 123), (0, 0, 3, 3), (0, 4, 2, 2)] hst38 ?_ ?_ ?_)))))
      · exact fun ix _ _ _ _ _ _ hs hb hx h => match ix, h with
        | 2, h => by dsimp only at h ⊢; rw [← hs 149 rfl, ← hb 149 rfl, ← hx 5 rfl]; exact h
        | 3, h => by dsimp only at h ⊢; rw [← hs 146 rfl, ← hb 149 rfl]; exact h
        | 4, h => by dsimp only at h ⊢; rw [← hs 150 rfl, ← hb 149 rfl]; exact h
        | 6, h => by dsimp only at h ⊢; rw [← hs 22 rfl, ← hb 22 rfl, ← hx 6 rfl]; exact h
        | 7, h => by dsimp only at h ⊢; rw [← hb 22 rfl, ← hb 149 rfl, ← hx 7 rfl]; exact h
        | 0, _ | 1, _ | 5, _ | _ + 8, _ => trivial
      · refine ⟨?_, ?_, ?_, ?_, ?_, ?_, ?_, trivial⟩
        · exact xs4 rfl id fun cx => run_loadB (n := 1) rfl (by kernel_rfl) (by kernel_rfl) (cx.ou 14) (Blk.ext hb29_5 cx.upd.to_ext) (nle rfl) rfl
        · refine sv_any rfl rfl fun ρ β W X cx => ?_
          refine DoesU.call (run_callF (args := #[.agg #[.slice A78_28 5 c78_28], .slice A134_37 L2.length c134_37, vi 10]) rfl cx.sees rfl (by kernel_rfl) (map3 (cx.an 0) (cx.an 1) (cx.co _))) ?_
          refine (rdo9_n (es := es2) hl30_ (by have := congrArg List.length (hem2 : List.map edD es2 = L2); rw [List.length_map] at this; exact this) (by decide) (hP30_.ext cx.upd.to_ext) (by rw [← edD_cells, (hem2 : List.map edD es2 = L2)]; exact (At.of_ownN (cx.ri 3 rfl))) (by first | omega | decide) hed2 ⟨by decide, by decide⟩ (by rw [(hH30_ : List.map absP Ps30_ = H1)]; exact hok1) (by rw [(hH30_ : List.map absP Ps30_ = H1)]; exact hdo2)).mono ?_
          rintro e W1 ⟨A4, c4, fp4, rfl, hc⟩
          refine ⟨_, rfl, post_st [eDo Ps30_ H2 5 A4 fp4] rfl rfl hc (fun σ β' X' hs hb hv hN => ?_)⟩
          have hv1 := (hv 149 rfl).1; have hv2 := (hv 149 rfl).2
          exact ⟨hv1.trans (by rw [hv2]; rfl), (by rw [hv2]; exact eDo_self ((List.cons.inj hN).1))⟩
        · exact sv rfl rfl rfl rfl rfl _ (fun _ _ _ h => h) (fun β β' h => by rw [h 149 (by decide)]) fun ρ β W X cx => run_move' rfl (dTn (cx.an 2)).1
        · exact sv rfl rfl rfl rfl rfl _ (fun _ _ _ h => h) (fun β β' h => by rw [h 149 (by decide)]) fun ρ β W X cx => run_extract' rfl (dTn (cx.an 3)) rfl
        · exact xs4 rfl id fun cx => run_extract' rfl (dTn (cx.an 3)) rfl
        · refine sv_any rfl rfl fun ρ β W X cx => ?_
          exact dv_alloc (cs := #[.slice none 0 0]) rfl (by kernel_rfl) rfl rfl (fun σ β' X' hs hb hv hx => ⟨hv, hx⟩)
        · refine sv_any rfl rfl fun ρ β W X cx => ?_
          exact dv_store (n := 1) rfl (dTn (cx.an 6)).1 (dTn (cx.an 4)) (by kernel_rfl) (by kernel_rfl) (by kernel_rfl) cx (dTn (cx.an 6)).2 rfl (nle rfl) (by kernel_rfl) rfl rfl rfl (fun σ β' X' hs hb hx => by rw [hb 22, hb 149]; exact hx)
      intro σ β X W39 hD hst39 fr hfr
      obtain ⟨A149_39, hu_A149_39⟩ : ∃ z, sA (tg (tg (β 149) 0) 0) = z := ⟨_, rfl⟩
      obtain ⟨c149_39, hu_c149_39⟩ : ∃ z, sC (tg (tg (β 149) 0) 0) = z := ⟨_, rfl⟩
      obtain ⟨B22_39, hu_B22_39⟩ : ∃ z, pb (β 22) = z := ⟨_, rfl⟩
      have xX5 : X 5 = _ := (dTn (hD 2 lq)).2
      obtain ⟨r5_39, hu_r5_39⟩ : ∃ z, (X 5).fp = z := ⟨_, rfl⟩
      rw [hu_r5_39] at xX5
      clear hu_r5_39
      simp only [xX5, exq 7 ((dTn (hD 7 lq))), hu_A149_39, hu_c149_39, hu_B22_39] at hst39
      simp only [ed 149 ((dTn (hD 2 lq)).1), ed 146 ((dTn (hD 3 lq))), ed 150 ((dTn (hD 4 lq))), ed 22 ((dTn (hD 6 lq)).1), hu_A149_39, hu_c149_39, hu_B22_39] at hfr
      clear hD xX5 hu_A149_39 hu_c149_39 hu_B22_39; subst hfr; clear σ β X
      refine then_normal (wp_seq ?_)
      have hx40_ := hst39.ext
      have hX40_ := hX29_.trans hx40_
      have hB40_0 := Blk.ext hB29_0 hx40_
      have hB40_1 := Blk.ext hB29_1 hx40_
      have hB40_2 := Blk.ext hb29_3 hx40_
      have hB40_3 := Blk.ext hb29_5 hx40_
      have hb40_1 := hst39.blk 1 rfl
      have hb40_4 := hst39.blk 4 rfl
      have hb40_6 := hst39.blk 6 rfl
      have hA40_0 := hA29_0.ext hx40_
      have hA40_1 := hA29_1.ext hx40_
      have hA40_2 := ha29_0.ext hx40_
      have hA40_3 := ha29_1.ext hx40_
      have hA40_4 := ha29_2.ext hx40_
      have ha40_0 := At.of_ownN ((hst39.get 0 rfl).holds : World.ownsRow _ 0 82 3 (.slice A96_32 rs.length c96_32) rs.length (flatR rs))
      have ha40_2 := At.of_own ((hst39.get 2 rfl).holds : World.ownsRow _ 0 3 1 (.slice A126_37 5 5) 5 ([vi 0, vi 1, vi 2, vi 3, vi 4]))
      have ha40_3 := At.of_ownN ((hst39.get 3 rfl).holds : World.ownsRow _ 0 99 3 (.slice A134_37 L2.length c134_37) L2.length (L2.flatMap cellsE))
      have hN_40 := hN_29.ext hx40_
      have hK_40 := hK_29.ext hx40_
      have hP_40 := hP_29.ext hx40_
      have hP30__40 := hP30_.ext hx40_
      obtain ⟨Ps41_, hH41_, hP41_⟩ := eDo_at ((hst39.get 5 rfl).holds) hP30__40 hok2 (by rw [hl2]; decide)
      have hl41_ : Ps41_.length = 5 := by have := congrArg List.length hH41_; rw [List.length_map, hl2] at this; exact this
      have hS40_ := St.start W39
      clear hst39
      refine wp_region_Y [0, 1, 0, 7, 15, 31, 31, 0, 191, 511] [[], [], [], [], [], [], [], [], [1]] [[], [], [], [0], [], [], [], [1], [2]] [[], [], [], [], [], [], [], [], [1]] [.c 153 (.agg #[.slice A149_39 5 c149_39]), .c 154 (.iface 30 (.agg #[.slice A149_39 5 c149_39])), .c 155 (.agg #[vi r1, vi r2]), .a 156, .a 152, .a 157, .c 158 (.bool true), .a 24, .n, .k 25 (.bool true)] (fun ix σ β X => match ix with | 0 => True | 1 => True | 2 => True | 3 => σ 156 = .tuple #[.agg #[vi x, vi ((3 + (x.tmod 125))), vi u1, vi u2, .bool false, .slice (sA (tg (tg (β 156) 0) 5)) rs.length (sC (tg (tg (β 156) 0) 5))], .bool true] ∧ X 0 = eO 82 3 (.slice (sA (tg (tg (β 156) 0) 5)) rs.length (sC (tg (tg (β 156) 0) 5))) rs.length (flatR rs) | 4 => σ 152 = .tuple #[.agg #[vi x, vi ((3 + (x.tmod 125))), vi u1, vi u2, .bool false, .slice (sA (tg (tg (β 156) 0) 5)) rs.length (sC (tg (tg (β 156) 0) 5))], .bool true] | 5 => σ 157 = .agg #[vi x, vi ((3 + (x.tmod 125))), vi u1, vi u2, .bool false, .slice (sA (tg (tg (β 156) 0) 5)) rs.length (sC (tg (tg (β 156) 0) 5))] | 6 => True | 7 => σ 24 = vp (pb (β 24)) ∧ X 1 = eB (pb (β 24)) 41 #[vi 0, vi 0, vi 0, vi 0, .bool false, .slice none 0 0] | 8 => X 2 = eB (pb (β 24)) 41 #[vi x, vi ((3 + (x.tmod 125))), vi u1, vi u2, .bool false, .slice (sA (tg (tg (β 156) 0) 5)) rs.length (sC (tg (tg (β 156) 0) 5))] | _ => True) [0, 2] [0, 1, 2, 3, 4, 5, 6, 7, 8] [(24, 7, 3, 26), (126, 4, 1, 127), (0, 0, 4, 4), (0, 5, 2, 2)] hS40_ ?_ ?_ ?_
      · exact fun ix _ _ _ _ _ _ hs hb hx h => match ix, h with
        | 3, h => by dsimp only at h ⊢; rw [← hs 156 rfl, ← hb 156 rfl, ← hx 0 rfl]; exact h
        | 4, h => by dsimp only at h ⊢; rw [← hs 152 rfl, ← hb 156 rfl]; exact h
        | 5, h => by dsimp only at h ⊢; rw [← hs 157 rfl, ← hb 156 rfl]; exact h
        | 7, h => by dsimp only at h ⊢; rw [← hs 24 rfl, ← hb 24 rfl, ← hx 1 rfl]; exact h
        | 8, h => by dsimp only at h ⊢; rw [← hb 24 rfl, ← hb 156 rfl, ← hx 2 rfl]; exact h
        | 0, _ | 1, _ | 2, _ | 6, _ | _ + 9, _ => trivial
      · refine ⟨?_, ?_, ?_, ?_, ?_, ?_, ?_, ?_, ?_, trivial⟩
        · exact xs4 rfl id fun cx => run_loadB (n := 1) rfl (by kernel_rfl) (by kernel_rfl) (cx.ou 22) (Blk.ext hb40_6 cx.upd.to_ext) (nle rfl) rfl
        · exact sv0 rfl rfl rfl rfl rfl (fun _ _ _ h => h) fun ρ β W X cx => by
            have fF153 : ρ (.tmp 153) = .agg #[.slice A149_39 5 c149_39] := (cx.an 0)
            simp [go_sem, fF153]
        · exact xs4 rfl id fun cx => run_loadB (n := 2) rfl (by kernel_rfl) (by kernel_rfl) (cx.ou 11) (Blk.ext hB40_2 cx.upd.to_ext) (nle rfl) rfl
        · refine sv_any rfl rfl fun ρ β W X cx => ?_
          refine DoesU.call (run_callF (args := #[.iface 30 (.agg #[.slice A149_39 5 c149_39]), .agg #[vi r1, vi r2]]) rfl cx.sees rfl (by kernel_rfl) (map2 (cx.an 1) (cx.an 2))) ?_
          refine (get_eq hold2 (hget_any _ _ (pvL H2) r1 r2 _ (pgs_ok (hP41_.ext cx.upd.to_ext) hl41_ hH41_) (hN_40.ext cx.upd.to_ext))).mono ?_
          rintro e W1 ⟨A4, c4, rfl, ho_, hx⟩
          refine ⟨_, rfl, post_call [eO 82 3 (.slice A4 rs.length c4) rs.length (flatR rs)] rfl rfl hx (one_new (eO_new (n := rs.length) (xs := flatR rs) ho_)) (List.pairwise_singleton _ _) (fun σ β' X' hs hb hv hN => ?_)⟩
          have hv1 := (hv 156 rfl).1; have hv2 := (hv 156 rfl).2
          exact ⟨hv1.trans (by rw [hv2]; rfl), (by rw [hv2]; exact (List.cons.inj hN).1)⟩
        · exact sv rfl rfl rfl rfl rfl _ (fun _ _ _ h => h) (fun β β' h => by rw [h 156 (by decide)]) fun ρ β W X cx => run_move' rfl (dTn (cx.an 3)).1
        · exact sv rfl rfl rfl rfl rfl _ (fun _ _ _ h => h) (fun β β' h => by rw [h 156 (by decide)]) fun ρ β W X cx => run_extract' rfl (dTn (cx.an 4)) rfl
        · exact xs4 rfl id fun cx => run_extract' rfl (dTn (cx.an 4)) rfl
        · refine sv_any rfl rfl fun ρ β W X cx => ?_
          exact dv_alloc (cs := #[vi 0, vi 0, vi 0, vi 0, .bool false, .slice none 0 0]) rfl (by kernel_rfl) rfl rfl (fun σ β' X' hs hb hv hx => ⟨hv, hx⟩)
        · refine sv_any rfl rfl fun ρ β W X cx => ?_
          exact dv_store (n := 6) rfl (dTn (cx.an 7)).1 (dTn (cx.an 5)) (by kernel_rfl) (by kernel_rfl) (by kernel_rfl) cx (dTn (cx.an 7)).2 rfl (nle rfl) (by kernel_rfl) rfl rfl rfl (fun σ β' X' hs hb hx => by rw [hb 24, hb 156]; exact hx)
      intro σ β X W42 hD hst42 fr hfr
      obtain ⟨A156_42, hu_A156_42⟩ : ∃ z, sA (tg (tg (β 156) 0) 5) = z := ⟨_, rfl⟩
      obtain ⟨c156_42, hu_c156_42⟩ : ∃ z, sC (tg (tg (β 156) 0) 5) = z := ⟨_, rfl⟩
      obtain ⟨B24_42, hu_B24_42⟩ : ∃ z, pb (β 24) = z := ⟨_, rfl⟩
      simp only [exq 0 ((dTn (hD 3 lq)).2), exq 2 ((dTn (hD 8 lq))), hu_A156_42, hu_c156_42, hu_B24_42] at hst42
      simp only [ed 156 ((dTn (hD 3 lq)).1), ed 152 ((dTn (hD 4 lq))), ed 157 ((dTn (hD 5 lq))), ed 24 ((dTn (hD 7 lq)).1), hu_A156_42, hu_c156_42, hu_B24_42] at hfr
      clear hD hu_A156_42 hu_c156_42 hu_B24_42; subst hfr; clear σ β X
      refine then_normal (wp_seq (wp_region_Y [0, 1, 0, 7, 15, 31, 31, 0, 191, 511] [[], [], [], [], [], [], [], [], [3]] [[], [], [], [2], [], [], [], [3], [4]] [[], [], [], [], [], [], [], [], [3]] [.c 160 (.agg #[.slice A149_39 5 c149_39]), .c 161 (.iface 30 (.agg #[.slice A149_39 5 c149_39])), .c 162 (.agg #[vi u1, vi u2]), .a 163, .a 159, .a 164, .c 165 (.bool true), .a 26, .n, .k 27 (.bool true)] (fun ix σ β X => match ix with | 0 => True | 1 => True | 2 => True | 3 => σ 163 = .tuple #[.agg #[vi ((3 + (x.tmod 125))), vi 0, vi (-1), vi 0, .bool ub, .slice (sA (tg (tg (β 163) 0) 5)) rs.length (sC (tg (tg (β 163) 0) 5))], .bool true] ∧ X 2 = eO 82 3 (.slice (sA (tg (tg (β 163) 0) 5)) rs.length (sC (tg (tg (β 163) 0) 5))) rs.length (flatR rs) | 4 => σ 159 = .tuple #[.agg #[vi ((3 + (x.tmod 125))), vi 0, vi (-1), vi 0, .bool ub, .slice (sA (tg (tg (β 163) 0) 5)) rs.length (sC (tg (tg (β 163) 0) 5))], .bool true] | 5 => σ 164 = .agg #[vi ((3 + (x.tmod 125))), vi 0, vi (-1), vi 0, .bool ub, .slice (sA (tg (tg (β 163) 0) 5)) rs.length (sC (tg (tg (β 163) 0) 5))] | 6 => True | 7 => σ 26 = vp (pb (β 26)) ∧ X 3 = eB (pb (β 26)) 41 #[vi 0, vi 0, vi 0, vi 0, .bool false, .slice none 0 0] | 8 => X 4 = eB (pb (β 26)) 41 #[vi ((3 + (x.tmod 125))), vi 0, vi (-1), vi 0, .bool ub, .slice (sA (tg (tg (β 163) 0) 5)) rs.length (sC (tg (tg (β 163) 0) 5))] | _ => True) [0, 1, 2, 4] [0, 1, 2, 3, 4, 5, 6, 7, 8] [(26, 7, 3, 28), (131, 4, 1, 132), (0, 0, 4, 4), (0, 5, 2, 2)] hst42 ?_ ?_ ?_))
      · exact fun ix _ _ _ _ _ _ hs hb hx h => match ix, h with
        | 3, h => by dsimp only at h ⊢; rw [← hs 163 rfl, ← hb 163 rfl, ← hx 2 rfl]; exact h
        | 4, h => by dsimp only at h ⊢; rw [← hs 159 rfl, ← hb 163 rfl]; exact h
        | 5, h => by dsimp only at h ⊢; rw [← hs 164 rfl, ← hb 163 rfl]; exact h
        | 7, h => by dsimp only at h ⊢; rw [← hs 26 rfl, ← hb 26 rfl, ← hx 3 rfl]; exact h
        | 8, h => by dsimp only at h ⊢; rw [← hb 26 rfl, ← hb 163 rfl, ← hx 4 rfl]; exact h
        | 0, _ | 1, _ | 2, _ | 6, _ | _ + 9, _ => trivial
      · refine ⟨?_, ?_, ?_, ?_, ?_, ?_, ?_, ?_, ?_, trivial⟩
        · exact xs4 rfl id fun cx => run_loadB (n := 1) rfl (by kernel_rfl) (by kernel_rfl) (cx.ou 22) (Blk.ext hb40_6 cx.upd.to_ext) (nle rfl) rfl
        · exact sv0 rfl rfl rfl rfl rfl (fun _ _ _ h => h) fun ρ β W X cx => by
            have fF160 : ρ (.tmp 160) = .agg #[.slice A149_39 5 c149_39] := (cx.an 0)
            simp [go_sem, fF160]
        · exact xs4 rfl id fun cx => run_loadB (n := 2) rfl (by kernel_rfl) (by kernel_rfl) (cx.ou 18) (Blk.ext hb40_4 cx.upd.to_ext) (nle rfl) rfl
        · refine sv_any rfl rfl fun ρ β W X cx => ?_
          refine DoesU.call (run_callF (args := #[.iface 30 (.agg #[.slice A149_39 5 c149_39]), .agg #[vi u1, vi u2]]) rfl cx.sees rfl (by kernel_rfl) (map2 (cx.an 1) (cx.an 2))) ?_
          refine (get_eq hnew2 (hget_any _ _ (pvL H2) u1 u2 _ (pgs_ok (hP41_.ext cx.upd.to_ext) hl41_ hH41_) (hN_40.ext cx.upd.to_ext))).mono ?_
          rintro e W1 ⟨A4, c4, rfl, ho_, hx⟩
          refine ⟨_, rfl, post_call [eO 82 3 (.slice A4 rs.length c4) rs.length (flatR rs)] rfl rfl hx (one_new (eO_new (n := rs.length) (xs := flatR rs) ho_)) (List.pairwise_singleton _ _) (fun σ β' X' hs hb hv hN => ?_)⟩
          have hv1 := (hv 163 rfl).1; have hv2 := (hv 163 rfl).2
          exact ⟨hv1.trans (by rw [hv2]; rfl), (by rw [hv2]; exact (List.cons.inj hN).1)⟩
        · exact sv rfl rfl rfl rfl rfl _ (fun _ _ _ h => h) (fun β β' h => by rw [h 163 (by decide)]) fun ρ β W X cx => run_move' rfl (dTn (cx.an 3)).1
        · exact sv rfl rfl rfl rfl rfl _ (fun _ _ _ h => h) (fun β β' h => by rw [h 163 (by decide)]) fun ρ β W X cx => run_extract' rfl (dTn (cx.an 4)) rfl
        · exact xs4 rfl id fun cx => run_extract' rfl (dTn (cx.an 4)) rfl
        · refine sv_any rfl rfl fun ρ β W X cx => ?_
          exact dv_alloc (cs := #[vi 0, vi 0, vi 0, vi 0, .bool false, .slice none 0 0]) rfl (by kernel_rfl) rfl rfl (fun σ β' X' hs hb hv hx => ⟨hv, hx⟩)
        · refine sv_any rfl rfl fun ρ β W X cx => ?_
          exact dv_store (n := 6) rfl (dTn (cx.an 7)).1 (dTn (cx.an 5)) (by kernel_rfl) (by kernel_rfl) (by kernel_rfl) cx (dTn (cx.an 7)).2 rfl (nle rfl) (by kernel_rfl) rfl rfl rfl (fun σ β' X' hs hb hx => by rw [hb 26, hb 163]; exact hx)
      intro σ β X W43 hD hst43 fr hfr
      obtain ⟨A163_43, hu_A163_43⟩ : ∃ z, sA (tg (tg (β 163) 0) 5) = z := ⟨_, rfl⟩
      obtain ⟨c163_43, hu_c163_43⟩ : ∃ z, sC (tg (tg (β 163) 0) 5) = z := ⟨_, rfl⟩
      obtain ⟨B26_43, hu_B26_43⟩ : ∃ z, pb (β 26) = z := ⟨_, rfl⟩
      simp only [exq 2 ((dTn (hD 3 lq)).2), exq 4 ((dTn (hD 8 lq))), hu_A163_43, hu_c163_43, hu_B26_43] at hst43
      simp only [ed 163 ((dTn (hD 3 lq)).1), ed 159 ((dTn (hD 4 lq))), ed 164 ((dTn (hD 5 lq))), ed 26 ((dTn (hD 7 lq)).1), hu_A163_43, hu_c163_43, hu_B26_43] at hfr
      clear hD hu_A163_43 hu_c163_43 hu_B26_43; subst hfr; clear σ β X
      refine then_normal (wp_seq ?_)
      obtain ⟨RD, hRD⟩ : ∃ z, delA (pvL H2) u1 u2 x = z := ⟨_, rfl⟩
      have hde := del_law (lsn := 11) hok2 ⟨by decide, by decide⟩ hnew2 hx
      have hL3 := delA_len (pvL H2) u1 u2 x
      rw [hRD] at hde hL3
      obtain ⟨L3, de⟩ := RD
      obtain ⟨hde0, es3, H3, hem3, hed3, hdo3, hok3, hl3, hat3, hoth3, hhd3⟩ := hde
      dsimp only at hde0 hem3 hL3
      subst hde0
      rw [hl2] at hl3
      refine wp_region_Y [0, 1, 0, 0, 15, 31, 63, 63, 127, 511] [] [[], [], [], [], [4]] [] [.c 167 (.agg #[.slice A149_39 5 c149_39]), .c 168 (.iface 30 (.agg #[.slice A149_39 5 c149_39])), .c 169 (.agg #[vi u1, vi u2]), .k 170 (vi (x)), .a 171, .a 166, .a 172, .c 173 (vi 0), .a 28, .k 29 (vi 0)] (fun ix σ β X => match ix with | 0 => True | 1 => True | 2 => True | 3 => True | 4 => σ 171 = .tuple #[.slice (sA (tg (β 171) 0)) L3.length (sC (tg (β 171) 0)), vi 0] ∧ X 4 = eO 99 3 (.slice (sA (tg (β 171) 0)) L3.length (sC (tg (β 171) 0))) L3.length (L3.flatMap cellsE) | 5 => σ 166 = .tuple #[.slice (sA (tg (β 171) 0)) L3.length (sC (tg (β 171) 0)), vi 0] | 6 => σ 172 = .slice (sA (tg (β 171) 0)) L3.length (sC (tg (β 171) 0)) | 7 => True | 8 => σ 28 = .slice (sA (tg (β 171) 0)) L3.length (sC (tg (β 171) 0)) | _ => True) [0, 1, 2, 3, 4] [0, 1, 2, 4, 5, 6, 7, 8] [(28, 8, 2, 30), (136, 5, 1, 137), (0, 0, 5, 5), (0, 6, 2, 2)] hst43 ?_ ?_ ?_
      · exact fun ix _ _ _ _ _ _ hs hb hx h => match ix, h with
        | 4, h => by dsimp only at h ⊢; rw [← hs 171 rfl, ← hb 171 rfl, ← hx 4 rfl]; exact h
        | 5, h => by dsimp only at h ⊢; rw [← hs 166 rfl, ← hb 171 rfl]; exact h
        | 6, h => by dsimp only at h ⊢; rw [← hs 172 rfl, ← hb 171 rfl]; exact h
        | 8, h => by dsimp only at h ⊢; rw [← hs 28 rfl, ← hb 171 rfl]; exact h
        | 0, _ | 1, _ | 2, _ | 3, _ | 7, _ | _ + 9, _ => trivial
      · refine ⟨?_, ?_, ?_, ?_, ?_, ?_, ?_, ?_, trivial⟩
        · exact xs4 rfl id fun cx => run_loadB (n := 1) rfl (by kernel_rfl) (by kernel_rfl) (cx.ou 22) (Blk.ext hb40_6 cx.upd.to_ext) (nle rfl) rfl
        · exact sv0 rfl rfl rfl rfl rfl (fun _ _ _ h => h) fun ρ β W X cx => by
            have fF167 : ρ (.tmp 167) = .agg #[.slice A149_39 5 c149_39] := (cx.an 0)
            simp [go_sem, fF167]
        · exact xs4 rfl id fun cx => run_loadB (n := 2) rfl (by kernel_rfl) (by kernel_rfl) (cx.ou 18) (Blk.ext hb40_4 cx.upd.to_ext) (nle rfl) rfl
        · refine sv_any rfl rfl fun ρ β W X cx => ?_
          refine DoesU.call (run_callF (args := #[.iface 30 (.agg #[.slice A149_39 5 c149_39]), .agg #[vi u1, vi u2], vi (x)]) rfl cx.sees rfl (by kernel_rfl) (map3 (cx.an 1) (cx.an 2) (cx.an 3))) ?_
          refine (del_eq hRD (hdelete_any _ _ (pvL H2) u1 u2 x _ (pgs_ok (hP41_.ext cx.upd.to_ext) hl41_ hH41_) (hN_40.ext cx.upd.to_ext))).mono ?_
          rintro e W1 ⟨A4, c4, rfl, ho_, hx⟩
          refine ⟨_, rfl, post_call [eO 99 3 (.slice A4 L3.length c4) L3.length (L3.flatMap cellsE)] rfl rfl hx (one_new (eO_new (n := L3.length) (xs := L3.flatMap cellsE) ho_)) (List.pairwise_singleton _ _) (fun σ β' X' hs hb hv hN => ?_)⟩
          have hv1 := (hv 171 rfl).1; have hv2 := (hv 171 rfl).2
          exact ⟨hv1.trans (by rw [hv2]; rfl), (by rw [hv2]; exact (List.cons.inj hN).1)⟩
        · exact sv rfl rfl rfl rfl rfl _ (fun _ _ _ h => h) (fun β β' h => by rw [h 171 (by decide)]) fun ρ β W X cx => run_move' rfl (dTn (cx.an 4)).1
        · exact sv rfl rfl rfl rfl rfl _ (fun _ _ _ h => h) (fun β β' h => by rw [h 171 (by decide)]) fun ρ β W X cx => run_extract' rfl (dTn (cx.an 5)) rfl
        · exact xs4 rfl id fun cx => run_extract' rfl (dTn (cx.an 5)) rfl
        · exact sv rfl rfl rfl rfl rfl _ (fun _ _ _ h => h) (fun β β' h => by rw [h 171 (by decide)]) fun ρ β W X cx => run_assign' rfl (dTn (cx.an 6))
      intro σ β X W44 hD hst44 fr hfr
      obtain ⟨A171_44, hu_A171_44⟩ : ∃ z, sA (tg (β 171) 0) = z := ⟨_, rfl⟩
      obtain ⟨c171_44, hu_c171_44⟩ : ∃ z, sC (tg (β 171) 0) = z := ⟨_, rfl⟩
      simp only [exq 4 ((dTn (hD 4 lq)).2), hu_A171_44, hu_c171_44] at hst44
      simp only [ed 171 ((dTn (hD 4 lq)).1), ed 166 ((dTn (hD 5 lq))), ed 172 ((dTn (hD 6 lq))), ed 28 ((dTn (hD 8 lq))), hu_A171_44, hu_c171_44] at hfr
      clear hD hu_A171_44 hu_c171_44; subst hfr; clear σ β X
      refine then_normal (wp_seq (wp_region_Y [0, 0, 3, 7, 15, 15, 0, 95, 255] [[], [], [4], [], [], [], [], [6]] [[], [], [5], [], [], [], [6], [7]] [[], [], [], [], [], [], [], [6]] [.c 175 (.agg #[.slice A149_39 5 c149_39]), .k 176 (.slice A171_44 L3.length c171_44), .a 177, .a 174, .a 178, .c 179 (.bool true), .a 30, .n, .k 31 (.bool true)] (fun ix σ β X => match ix with | 0 => True | 1 => True | 2 => σ 177 = .tuple #[.agg #[.slice (sA (tg (tg (β 177) 0) 0)) 5 (sC (tg (tg (β 177) 0) 0))], .bool true] ∧ X 5 = eDo Ps41_ H3 5 (sA (tg (tg (β 177) 0) 0)) ((X 5).fp) | 3 => σ 174 = .tuple #[.agg #[.slice (sA (tg (tg (β 177) 0) 0)) 5 (sC (tg (tg (β 177) 0) 0))], .bool true] | 4 => σ 178 = .agg #[.slice (sA (tg (tg (β 177) 0) 0)) 5 (sC (tg (tg (β 177) 0) 0))] | 5 => True | 6 => σ 30 = vp (pb (β 30)) ∧ X 6 = eB (pb (β 30)) 30 #[.slice none 0 0] | 7 => X 7 = eB (pb (β 30)) 30 #[.slice (sA (tg (tg (β 177) 0) 0)) 5 (sC (tg (tg (β 177) 0) 0))] | _ => True) [0, 1, 2, 3, 4, 5, 7] [0, 2, 3, 4, 5, 6, 7] [(30, 6, 3, 32), (142, 3, 1, 143), (0, 0, 3, 3), (0, 4, 2, 2)] hst44 ?_ ?_ ?_))
      · exact fun ix _ _ _ _ _ _ hs hb hx h => match ix, h with
        | 2, h => by dsimp only at h ⊢; rw [← hs 177 rfl, ← hb 177 rfl, ← hx 5 rfl]; exact h
        | 3, h => by dsimp only at h ⊢; rw [← hs 174 rfl, ← hb 177 rfl]; exact h
        | 4, h => by dsimp only at h ⊢; rw [← hs 178 rfl, ← hb 177 rfl]; exact h
        | 6, h => by dsimp only at h ⊢; rw [← hs 30 rfl, ← hb 30 rfl, ← hx 6 rfl]; exact h
        | 7, h => by dsimp only at h ⊢; rw [← hb 30 rfl, ← hb 177 rfl, ← hx 7 rfl]; exact h
        | 0, _ | 1, _ | 5, _ | _ + 8, _ => trivial
      · refine ⟨?_, ?_, ?_, ?_, ?_, ?_, ?_, trivial⟩
        · exact xs4 rfl id fun cx => run_loadB (n := 1) rfl (by kernel_rfl) (by kernel_rfl) (cx.ou 22) (Blk.ext hb40_6 cx.upd.to_ext) (nle rfl) rfl
        · refine sv_any rfl rfl fun ρ β W X cx => ?_
          refine DoesU.call (run_callF (args := #[.agg #[.slice A149_39 5 c149_39], .slice A171_44 L3.length c171_44, vi 11]) rfl cx.sees rfl (by kernel_rfl) (map3 (cx.an 0) (cx.an 1) (cx.co _))) ?_
          refine (rdo9_n (es := es3) hl41_ (by have := congrArg List.length (hem3 : List.map edD es3 = L3); rw [List.length_map] at this; exact this) (by decide) (hP41_.ext cx.upd.to_ext) (by rw [← edD_cells, (hem3 : List.map edD es3 = L3)]; exact (At.of_ownN (cx.ri 4 rfl))) (by first | omega | decide) hed3 ⟨by decide, by decide⟩ (by rw [(hH41_ : List.map absP Ps41_ = H2)]; exact hok2) (by rw [(hH41_ : List.map absP Ps41_ = H2)]; exact hdo3)).mono ?_
          rintro e W1 ⟨A4, c4, fp4, rfl, hc⟩
          refine ⟨_, rfl, post_st [eDo Ps41_ H3 5 A4 fp4] rfl rfl hc (fun σ β' X' hs hb hv hN => ?_)⟩
          have hv1 := (hv 177 rfl).1; have hv2 := (hv 177 rfl).2
          exact ⟨hv1.trans (by rw [hv2]; rfl), (by rw [hv2]; exact eDo_self ((List.cons.inj hN).1))⟩
        · exact sv rfl rfl rfl rfl rfl _ (fun _ _ _ h => h) (fun β β' h => by rw [h 177 (by decide)]) fun ρ β W X cx => run_move' rfl (dTn (cx.an 2)).1
        · exact sv rfl rfl rfl rfl rfl _ (fun _ _ _ h => h) (fun β β' h => by rw [h 177 (by decide)]) fun ρ β W X cx => run_extract' rfl (dTn (cx.an 3)) rfl
        · exact xs4 rfl id fun cx => run_extract' rfl (dTn (cx.an 3)) rfl
        · refine sv_any rfl rfl fun ρ β W X cx => ?_
          exact dv_alloc (cs := #[.slice none 0 0]) rfl (by kernel_rfl) rfl rfl (fun σ β' X' hs hb hv hx => ⟨hv, hx⟩)
        · refine sv_any rfl rfl fun ρ β W X cx => ?_
          exact dv_store (n := 1) rfl (dTn (cx.an 6)).1 (dTn (cx.an 4)) (by kernel_rfl) (by kernel_rfl) (by kernel_rfl) cx (dTn (cx.an 6)).2 rfl (nle rfl) (by kernel_rfl) rfl rfl rfl (fun σ β' X' hs hb hx => by rw [hb 30, hb 177]; exact hx)
      intro σ β X W45 hD hst45 fr hfr
      obtain ⟨A177_45, hu_A177_45⟩ : ∃ z, sA (tg (tg (β 177) 0) 0) = z := ⟨_, rfl⟩
      obtain ⟨c177_45, hu_c177_45⟩ : ∃ z, sC (tg (tg (β 177) 0) 0) = z := ⟨_, rfl⟩
      obtain ⟨B30_45, hu_B30_45⟩ : ∃ z, pb (β 30) = z := ⟨_, rfl⟩
      have xX5 : X 5 = _ := (dTn (hD 2 lq)).2
      obtain ⟨r5_45, hu_r5_45⟩ : ∃ z, (X 5).fp = z := ⟨_, rfl⟩
      rw [hu_r5_45] at xX5
      clear hu_r5_45
      simp only [xX5, exq 7 ((dTn (hD 7 lq))), hu_A177_45, hu_c177_45, hu_B30_45] at hst45
      simp only [ed 177 ((dTn (hD 2 lq)).1), ed 174 ((dTn (hD 3 lq))), ed 178 ((dTn (hD 4 lq))), ed 30 ((dTn (hD 6 lq)).1), hu_A177_45, hu_c177_45, hu_B30_45] at hfr
      clear hD xX5 hu_A177_45 hu_c177_45 hu_B30_45; subst hfr; clear σ β X
      refine then_normal (wp_seq ?_)
      have hx46_ := hst45.ext
      have hX46_ := hX40_.trans hx46_
      have hB46_0 := Blk.ext hB40_0 hx46_
      have hB46_1 := Blk.ext hB40_1 hx46_
      have hB46_2 := Blk.ext hB40_2 hx46_
      have hB46_3 := Blk.ext hB40_3 hx46_
      have hB46_4 := Blk.ext hb40_1 hx46_
      have hB46_5 := Blk.ext hb40_4 hx46_
      have hB46_6 := Blk.ext hb40_6 hx46_
      have hb46_1 := hst45.blk 1 rfl
      have hb46_3 := hst45.blk 3 rfl
      have hb46_6 := hst45.blk 6 rfl
      have hA46_0 := hA40_0.ext hx46_
      have hA46_1 := hA40_1.ext hx46_
      have hA46_2 := hA40_2.ext hx46_
      have hA46_3 := hA40_3.ext hx46_
      have hA46_4 := hA40_4.ext hx46_
      have hA46_5 := ha40_0.ext hx46_
      have hA46_6 := ha40_2.ext hx46_
      have hA46_7 := ha40_3.ext hx46_
      have ha46_0 := At.of_ownN ((hst45.get 0 rfl).holds : World.ownsRow _ 0 82 3 (.slice A156_42 rs.length c156_42) rs.length (flatR rs))
      have ha46_2 := At.of_ownN ((hst45.get 2 rfl).holds : World.ownsRow _ 0 82 3 (.slice A163_43 rs.length c163_43) rs.length (flatR rs))
      have ha46_4 := At.of_ownN ((hst45.get 4 rfl).holds : World.ownsRow _ 0 99 3 (.slice A171_44 L3.length c171_44) L3.length (L3.flatMap cellsE))
      have hN_46 := hN_40.ext hx46_
      have hK_46 := hK_40.ext hx46_
      have hP_46 := hP_40.ext hx46_
      have hP30__46 := hP30__40.ext hx46_
      have hP41__46 := hP41_.ext hx46_
      obtain ⟨Ps47_, hH47_, hP47_⟩ := eDo_at ((hst45.get 5 rfl).holds) hP41__46 hok3 (by rw [hl3]; decide)
      have hl47_ : Ps47_.length = 5 := by have := congrArg List.length hH47_; rw [List.length_map, hl3] at this; exact this
      have hS46_ := St.start W45
      clear hst45
      refine wp_region_Y [0, 1, 0, 7, 15, 31, 31, 0, 191, 511] [[], [], [], [], [], [], [], [], [1]] [[], [], [], [0], [], [], [], [1], [2]] [[], [], [], [], [], [], [], [], [1]] [.c 181 (.agg #[.slice A177_45 5 c177_45]), .c 182 (.iface 30 (.agg #[.slice A177_45 5 c177_45])), .c 183 (.agg #[vi u1, vi u2]), .a 184, .a 180, .a 185, .c 186 (.bool true), .a 32, .n, .k 33 (.bool true)] (fun ix σ β X => match ix with | 0 => True | 1 => True | 2 => True | 3 => σ 184 = .tuple #[.agg #[vi ((3 + (x.tmod 125))), vi x, vi (-1), vi 0, .bool ub, .slice (sA (tg (tg (β 184) 0) 5)) rs.length (sC (tg (tg (β 184) 0) 5))], .bool true] ∧ X 0 = eO 82 3 (.slice (sA (tg (tg (β 184) 0) 5)) rs.length (sC (tg (tg (β 184) 0) 5))) rs.length (flatR rs) | 4 => σ 180 = .tuple #[.agg #[vi ((3 + (x.tmod 125))), vi x, vi (-1), vi 0, .bool ub, .slice (sA (tg (tg (β 184) 0) 5)) rs.length (sC (tg (tg (β 184) 0) 5))], .bool true] | 5 => σ 185 = .agg #[vi ((3 + (x.tmod 125))), vi x, vi (-1), vi 0, .bool ub, .slice (sA (tg (tg (β 184) 0) 5)) rs.length (sC (tg (tg (β 184) 0) 5))] | 6 => True | 7 => σ 32 = vp (pb (β 32)) ∧ X 1 = eB (pb (β 32)) 41 #[vi 0, vi 0, vi 0, vi 0, .bool false, .slice none 0 0] | 8 => X 2 = eB (pb (β 32)) 41 #[vi ((3 + (x.tmod 125))), vi x, vi (-1), vi 0, .bool ub, .slice (sA (tg (tg (β 184) 0) 5)) rs.length (sC (tg (tg (β 184) 0) 5))] | _ => True) [0, 2] [0, 1, 2, 3, 4, 5, 6, 7, 8] [(32, 7, 3, 34), (146, 4, 1, 147), (0, 0, 4, 4), (0, 5, 2, 2)] hS46_ ?_ ?_ ?_
      · exact fun ix _ _ _ _ _ _ hs hb hx h => match ix, h with
        | 3, h => by dsimp only at h ⊢; rw [← hs 184 rfl, ← hb 184 rfl, ← hx 0 rfl]; exact h
        | 4, h => by dsimp only at h ⊢; rw [← hs 180 rfl, ← hb 184 rfl]; exact h
        | 5, h => by dsimp only at h ⊢; rw [← hs 185 rfl, ← hb 184 rfl]; exact h
        | 7, h => by dsimp only at h ⊢; rw [← hs 32 rfl, ← hb 32 rfl, ← hx 1 rfl]; exact h
        | 8, h => by dsimp only at h ⊢; rw [← hb 32 rfl, ← hb 184 rfl, ← hx 2 rfl]; exact h
        | 0, _ | 1, _ | 2, _ | 6, _ | _ + 9, _ => trivial
      · refine ⟨?_, ?_, ?_, ?_, ?_, ?_, ?_, ?_, ?_, trivial⟩
        · exact xs4 rfl id fun cx => run_loadB (n := 1) rfl (by kernel_rfl) (by kernel_rfl) (cx.ou 30) (Blk.ext hb46_6 cx.upd.to_ext) (nle rfl) rfl
        · exact sv0 rfl rfl rfl rfl rfl (fun _ _ _ h => h) fun ρ β W X cx => by
            have fF181 : ρ (.tmp 181) = .agg #[.slice A177_45 5 c177_45] := (cx.an 0)
            simp [go_sem, fF181]
        · exact xs4 rfl id fun cx => run_loadB (n := 2) rfl (by kernel_rfl) (by kernel_rfl) (cx.ou 18) (Blk.ext hB46_5 cx.upd.to_ext) (nle rfl) rfl
        · refine sv_any rfl rfl fun ρ β W X cx => ?_
          refine DoesU.call (run_callF (args := #[.iface 30 (.agg #[.slice A177_45 5 c177_45]), .agg #[vi u1, vi u2]]) rfl cx.sees rfl (by kernel_rfl) (map2 (cx.an 1) (cx.an 2))) ?_
          refine (get_eq hat3 (hget_any _ _ (pvL H3) u1 u2 _ (pgs_ok (hP47_.ext cx.upd.to_ext) hl47_ hH47_) (hN_46.ext cx.upd.to_ext))).mono ?_
          rintro e W1 ⟨A4, c4, rfl, ho_, hx⟩
          refine ⟨_, rfl, post_call [eO 82 3 (.slice A4 rs.length c4) rs.length (flatR rs)] rfl rfl hx (one_new (eO_new (n := rs.length) (xs := flatR rs) ho_)) (List.pairwise_singleton _ _) (fun σ β' X' hs hb hv hN => ?_)⟩
          have hv1 := (hv 184 rfl).1; have hv2 := (hv 184 rfl).2
          exact ⟨hv1.trans (by rw [hv2]; rfl), (by rw [hv2]; exact (List.cons.inj hN).1)⟩
        · exact sv rfl rfl rfl rfl rfl _ (fun _ _ _ h => h) (fun β β' h => by rw [h 184 (by decide)]) fun ρ β W X cx => run_move' rfl (dTn (cx.an 3)).1
        · exact sv rfl rfl rfl rfl rfl _ (fun _ _ _ h => h) (fun β β' h => by rw [h 184 (by decide)]) fun ρ β W X cx => run_extract' rfl (dTn (cx.an 4)) rfl
        · exact xs4 rfl id fun cx => run_extract' rfl (dTn (cx.an 4)) rfl
        · refine sv_any rfl rfl fun ρ β W X cx => ?_
          exact dv_alloc (cs := #[vi 0, vi 0, vi 0, vi 0, .bool false, .slice none 0 0]) rfl (by kernel_rfl) rfl rfl (fun σ β' X' hs hb hv hx => ⟨hv, hx⟩)
        · refine sv_any rfl rfl fun ρ β W X cx => ?_
          exact dv_store (n := 6) rfl (dTn (cx.an 7)).1 (dTn (cx.an 5)) (by kernel_rfl) (by kernel_rfl) (by kernel_rfl) cx (dTn (cx.an 7)).2 rfl (nle rfl) (by kernel_rfl) rfl rfl rfl (fun σ β' X' hs hb hx => by rw [hb 32, hb 184]; exact hx)
      intro σ β X W48 hD hst48 fr hfr
      obtain ⟨A184_48, hu_A184_48⟩ : ∃ z, sA (tg (tg (β 184) 0) 5) = z := ⟨_, rfl⟩
      obtain ⟨c184_48, hu_c184_48⟩ : ∃ z, sC (tg (tg (β 184) 0) 5) = z := ⟨_, rfl⟩
      obtain ⟨B32_48, hu_B32_48⟩ : ∃ z, pb (β 32) = z := ⟨_, rfl⟩
      simp only [exq 0 ((dTn (hD 3 lq)).2), exq 2 ((dTn (hD 8 lq))), hu_A184_48, hu_c184_48, hu_B32_48] at hst48
      simp only [ed 184 ((dTn (hD 3 lq)).1), ed 180 ((dTn (hD 4 lq))), ed 185 ((dTn (hD 5 lq))), ed 32 ((dTn (hD 7 lq)).1), hu_A184_48, hu_c184_48, hu_B32_48] at hfr
      clear hD hu_A184_48 hu_c184_48 hu_B32_48; subst hfr; clear σ β X
      refine then_normal (wp_seq ?_)
      rcases (show ub = false ∨ ub = true by cases ub <;> simp) with rfl | rfl
      · skip
        have hd50 : (false == false) = true := rfl
        refine wp_region_Z [0, 1, 3, 7, 15, 31, 63, 127, 255, 511, 1023, 2047, 4095, 8191, 16383, 32767, 65535, 32767, 262143, 524287, 1048575, 2097151, 4194303, 2097151, 10485759, 27262975, 67108863, 134217727, 268435455, 536870911, 1073741823, 536870911, 4294967295, 8589934591, 17179869183, 34359738367, 68719476735, 137438953471, 274877906943, 549755813887, 274877906943, 1374389534719, 4398046511103, 8796093022207, 17592186044415, 35184372088831, 70368744177663, 140737488355327, 281474976710655, 562949953421311, 1125899906842623, 2251799813685247, 1125899906842623, 9007199254740991, 18014398509481983, 36028797018963967, 72057594037927935, 144115188075855871, 288230376151711743, 576460752303423487, 1152921504606846975, 2305843009213693951, 4611686018427387903, 9223372036854775807, 4611686018427387903, 36893488147419103231, 73786976294838206463, 147573952589676412927, 295147905179352825855] [[], [], [], [], [], [], [], [], [], [], [], [], [], [], [], [], [], [], [], [], [], [], [], [], [], [], [], [], [], [], [], [], [], [], [], [], [], [], [], [], [], [], [], [], [], [], [], [], [], [], [], [1], [], [], [], [], [], [], [1]] [.k 187 (.bool true), .k 188 (.bool true), .k 189 (.bool true), .k 190 (.bool true), .k 191 (.bool true), .k 192 (.bool true), .k 193 (.bool true), .k 194 (.bool true), .k 195 (.bool true), .k 196 (.bool true), .k 197 (.bool true), .k 198 (vi 0), .k 199 (.bool true), .k 200 (.bool true), .k 201 (.bool true), .k 202 (.pointer (some ⟨B24_42, 2, none⟩)), .c 203 (.agg #[vi u1, vi u2]), .c 204 (.agg #[vi u1, vi u2]), .c 205 (.bool true), .k 206 (.bool true), .k 207 (.bool true), .k 208 (.pointer (some ⟨B24_42, 1, none⟩)), .c 209 (vi ((3 + (x.tmod 125)))), .k 210 (vi (x)), tRe 211 .i64 x 125 (x.tmod 125) (rfl), tI 212 (3 + (x.tmod 125)) (by omega), .e 213 (.bool ((3 + (x.tmod 125)) == (3 + (x.tmod 125)))) (.bool true) (congrArg Value.bool (show ((3 + (x.tmod 125)) == (3 + (x.tmod 125))) = true from (beq_self_eq_true _))), .k 214 (.bool true), .k 215 (.bool true), .k 216 (.pointer (some ⟨B26_43, 4, none⟩)), .c 217 (.bool false), .k 218 (.bool false), .c 219 (.bool true), .k 220 (.bool true), .k 221 (.bool true), .k 222 (.bool false), .k 223 (.bool true), .k 224 (.bool true), .u 225, .u 226, .u 227, .u 228, .u 229, .u 230, .u 231, .u 232, .u 233, .k 234 (.bool true), .k 235 (.bool true), .k 236 (.bool true), .k 237 (.pointer (some ⟨B32_48, 1, none⟩)), .c 238 (vi x), .k 239 (vi (x)), .e 240 (.bool (x == x)) (.bool true) (congrArg Value.bool (show (x == x) = true from (beq_self_eq_true x))), .k 241 (.bool true), .k 242 (.bool true), .k 243 (.pointer (some ⟨B32_48, 2, none⟩)), .k 244 (.pointer (some ⟨B32_48, 2, none⟩)), .c 245 (vi (-1)), .k 246 (.bool true), .k 247 (.bool true), .k 248 (.bool true), .k 249 (.pointer (some ⟨B26_43, 5, none⟩)), .c 250 (.slice A163_43 rs.length c163_43), .k 251 (.slice A43_5 (rs.length) c43_5), .c 252 (vi 0), .k 253 (.bool true), .k 254 (.bool true), .k 4 (.bool true)] [0, 1] [16, 17, 18, 22, 30, 32, 51, 58, 63, 65] [(4, 68, 1, 5), (182, 0, 68, 250)] hst48 ?_ fun W49 hst49 => ?_
        · refine ⟨?_, ?_, ?_, ?_, ?_, ?_, ?_, ?_, ?_, ?_, trivial⟩
          · exact xs5 rfl id (fun cx => (cx.an 14)) fun cx => run_loadB (n := 2) rfl (by kernel_rfl) (by kernel_rfl) (cx.an 15) (Blk.ext hb46_1 cx.upd.to_ext) (nle rfl) rfl
          · exact xs5 rfl id (fun cx => (cx.an 14)) fun cx => run_loadB (n := 2) rfl (by kernel_rfl) (by kernel_rfl) (cx.ou 18) (Blk.ext hB46_5 cx.upd.to_ext) (nle rfl) rfl
          · exact s5 rfl (fun _ _ _ h => h.trans (congrArg Value.bool (show (u1 == u1 && u2 == u2) = true from (by simp)))) (fun cx => (cx.an 14)) fun cx => run_eqT rfl (cx.an 16) (cx.an 17) rfl
          · exact xs5 rfl id (fun cx => (cx.an 20)) fun cx => run_load1 rfl (by kernel_rfl) (cx.an 21) ((Blk.ext hb46_1 cx.upd.to_ext).cell 1)
          · exact xs5 rfl id (fun cx => (cx.an 28)) fun cx => run_load1 rfl (by kernel_rfl) (cx.an 29) ((Blk.ext hb46_3 cx.upd.to_ext).cell 4)
          · exact sv0_on rfl rfl rfl rfl rfl rfl (fun _ _ _ h => h.trans (congrArg Value.bool hd50)) (fun _ _ _ _ cx => (cx.an 28)) fun ρ β W X cx => by
              have fF217 : ρ (.tmp 217) = .bool false := (cx.an 30)
              have fF218 : ρ (.tmp 218) = .bool false := (cx.an 31)
              simp [go_sem, fF217, fF218]
          · exact xs5 rfl id (fun cx => (cx.an 49)) fun cx => run_load1 rfl (by kernel_rfl) (cx.an 50) ((cx.bi 1 rfl).cell 1)
          · exact xs5 rfl id (fun cx => (cx.an 55)) fun cx => run_load1 rfl (by kernel_rfl) (cx.an 57) ((cx.bi 1 rfl).cell 2)
          · exact xs5 rfl id (fun cx => (cx.an 61)) fun cx => run_load1 rfl (by kernel_rfl) (cx.an 62) ((Blk.ext hb46_3 cx.upd.to_ext).cell 5)
          · exact sv_call_on rfl rfl rfl rfl rfl rfl (fun _ _ _ h => h) (fun _ _ _ _ cx => (cx.an 61)) fun ρ β W X cx => ⟨_, _, run_callF (args := #[.slice A163_43 rs.length c163_43, .slice A43_5 (rs.length) c43_5]) rfl cx.sees rfl (by kernel_rfl) (map2 (cx.an 63) (cx.an 64)), vrows_same _ _ _ _ rs _ (ha46_2.ext cx.upd.to_ext) (hA46_2.ext cx.upd.to_ext) (Nat.le_trans hrl6 (by decide)) (right_known hrr) (hK_46.ext cx.upd.to_ext)⟩
        refine then_normal (wp_ret ?_)
        refine bodyPost_ret (v := .bool true) (results_tmp Tryd.results3 rfl) rfl ?_
        exact Ret.bool rfl (hX46_.trans hst49.ext)
      · skip
        have hd52 : (true == true) = true := rfl
        have hd53 : (u1 == r1) = true := (by rw [(hhot rfl).1]; exact beq_self_eq_true _)
        have hd54 : (hot) = true := (hhot rfl).2
        refine wp_region_Z [0, 1, 3, 7, 15, 31, 63, 127, 255, 511, 1023, 2047, 4095, 8191, 16383, 32767, 65535, 32767, 262143, 524287, 1048575, 2097151, 4194303, 2097151, 10485759, 27262975, 67108863, 134217727, 268435455, 536870911, 1073741823, 536870911, 4294967295, 8589934591, 17179869183, 34359738367, 68719476735, 137438953471, 274877906943, 549755813887, 274877906943, 1374389534719, 4398046511103, 8796093022207, 17592186044415, 35184372088831, 70368744177663, 140737488355327, 281474976710655, 562949953421311, 1125899906842623, 2251799813685247, 1125899906842623, 9007199254740991, 18014398509481983, 36028797018963967, 72057594037927935, 144115188075855871, 288230376151711743, 576460752303423487, 1152921504606846975, 2305843009213693951, 4611686018427387903, 9223372036854775807, 4611686018427387903, 36893488147419103231, 73786976294838206463, 147573952589676412927, 295147905179352825855] [[], [], [], [], [], [], [], [], [], [], [], [], [], [], [], [], [], [], [], [], [], [], [], [], [], [], [], [], [], [], [], [], [], [], [], [], [], [], [], [], [], [], [], [], [], [], [], [], [], [], [], [1], [], [], [], [], [], [], [1]] [.k 187 (.bool true), .k 188 (.bool true), .k 189 (.bool true), .k 190 (.bool true), .k 191 (.bool true), .k 192 (.bool true), .k 193 (.bool true), .k 194 (.bool true), .k 195 (.bool true), .k 196 (.bool true), .k 197 (.bool true), .k 198 (vi 0), .k 199 (.bool true), .k 200 (.bool true), .k 201 (.bool true), .k 202 (.pointer (some ⟨B24_42, 2, none⟩)), .c 203 (.agg #[vi u1, vi u2]), .c 204 (.agg #[vi u1, vi u2]), .c 205 (.bool true), .k 206 (.bool true), .k 207 (.bool true), .k 208 (.pointer (some ⟨B24_42, 1, none⟩)), .c 209 (vi ((3 + (x.tmod 125)))), .k 210 (vi (x)), tRe 211 .i64 x 125 (x.tmod 125) (rfl), tI 212 (3 + (x.tmod 125)) (by omega), .e 213 (.bool ((3 + (x.tmod 125)) == (3 + (x.tmod 125)))) (.bool true) (congrArg Value.bool (show ((3 + (x.tmod 125)) == (3 + (x.tmod 125))) = true from (beq_self_eq_true _))), .k 214 (.bool true), .k 215 (.bool true), .k 216 (.pointer (some ⟨B26_43, 4, none⟩)), .c 217 (.bool true), .k 218 (.bool true), .c 219 (.bool true), .k 220 (.bool true), .k 221 (.bool true), .k 222 (.bool true), .k 223 (.bool false), .k 224 (.bool false), .k 225 (vp B18_37), .c 226 (vi u1), .k 227 (vp B11_27), .c 228 (vi r1), .e 229 (.bool (u1 == r1)) (.bool true) (congrArg Value.bool hd53), .k 230 (.bool true), .k 231 (.pointer (some ⟨B3_1, 7, none⟩)), .c 232 (.bool true), .k 233 (.bool true), .k 234 (.bool true), .k 235 (.bool true), .k 236 (.bool true), .k 237 (.pointer (some ⟨B32_48, 1, none⟩)), .c 238 (vi x), .k 239 (vi (x)), .e 240 (.bool (x == x)) (.bool true) (congrArg Value.bool (show (x == x) = true from (beq_self_eq_true x))), .k 241 (.bool true), .k 242 (.bool true), .k 243 (.pointer (some ⟨B32_48, 2, none⟩)), .k 244 (.pointer (some ⟨B32_48, 2, none⟩)), .c 245 (vi (-1)), .k 246 (.bool true), .k 247 (.bool true), .k 248 (.bool true), .k 249 (.pointer (some ⟨B26_43, 5, none⟩)), .c 250 (.slice A163_43 rs.length c163_43), .k 251 (.slice A43_5 (rs.length) c43_5), .c 252 (vi 0), .k 253 (.bool true), .k 254 (.bool true), .k 4 (.bool true)] [0, 1] [16, 17, 18, 22, 30, 32, 39, 41, 45, 51, 58, 63, 65] [(4, 68, 1, 5), (182, 0, 68, 250)] hst48 ?_ fun W51 hst51 => ?_
        · refine ⟨?_, ?_, ?_, ?_, ?_, ?_, ?_, ?_, ?_, ?_, ?_, ?_, ?_, trivial⟩
          · exact xs5 rfl id (fun cx => (cx.an 14)) fun cx => run_loadB (n := 2) rfl (by kernel_rfl) (by kernel_rfl) (cx.an 15) (Blk.ext hb46_1 cx.upd.to_ext) (nle rfl) rfl
          · exact xs5 rfl id (fun cx => (cx.an 14)) fun cx => run_loadB (n := 2) rfl (by kernel_rfl) (by kernel_rfl) (cx.ou 18) (Blk.ext hB46_5 cx.upd.to_ext) (nle rfl) rfl
          · exact s5 rfl (fun _ _ _ h => h.trans (congrArg Value.bool (show (u1 == u1 && u2 == u2) = true from (by simp)))) (fun cx => (cx.an 14)) fun cx => run_eqT rfl (cx.an 16) (cx.an 17) rfl
          · exact xs5 rfl id (fun cx => (cx.an 20)) fun cx => run_load1 rfl (by kernel_rfl) (cx.an 21) ((Blk.ext hb46_1 cx.upd.to_ext).cell 1)
          · exact xs5 rfl id (fun cx => (cx.an 28)) fun cx => run_load1 rfl (by kernel_rfl) (cx.an 29) ((Blk.ext hb46_3 cx.upd.to_ext).cell 4)
          · exact sv0_on rfl rfl rfl rfl rfl rfl (fun _ _ _ h => h.trans (congrArg Value.bool hd52)) (fun _ _ _ _ cx => (cx.an 28)) fun ρ β W X cx => by
              have fF217 : ρ (.tmp 217) = .bool true := (cx.an 30)
              have fF218 : ρ (.tmp 218) = .bool true := (cx.an 31)
              simp [go_sem, fF217, fF218]
          · exact xs5 rfl id (fun cx => (cx.an 37)) fun cx => run_load1 rfl (by kernel_rfl) (cx.an 38) ((Blk.ext hB46_5 cx.upd.to_ext).cell 0)
          · exact xs5 rfl id (fun cx => (cx.an 37)) fun cx => run_load1 rfl (by kernel_rfl) (cx.an 40) ((Blk.ext hB46_2 cx.upd.to_ext).cell 0)
          · exact s5 rfl (fun _ _ _ h => h.trans (congrArg Value.bool hd54)) (fun cx => (cx.an 43)) fun cx => run_load1 rfl (by kernel_rfl) (cx.an 44) ((Blk.ext hB46_0 cx.upd.to_ext).cell 7)
          · exact xs5 rfl id (fun cx => (cx.an 49)) fun cx => run_load1 rfl (by kernel_rfl) (cx.an 50) ((cx.bi 1 rfl).cell 1)
          · exact xs5 rfl id (fun cx => (cx.an 55)) fun cx => run_load1 rfl (by kernel_rfl) (cx.an 57) ((cx.bi 1 rfl).cell 2)
          · exact xs5 rfl id (fun cx => (cx.an 61)) fun cx => run_load1 rfl (by kernel_rfl) (cx.an 62) ((Blk.ext hb46_3 cx.upd.to_ext).cell 5)
          · exact sv_call_on rfl rfl rfl rfl rfl rfl (fun _ _ _ h => h) (fun _ _ _ _ cx => (cx.an 61)) fun ρ β W X cx => ⟨_, _, run_callF (args := #[.slice A163_43 rs.length c163_43, .slice A43_5 (rs.length) c43_5]) rfl cx.sees rfl (by kernel_rfl) (map2 (cx.an 63) (cx.an 64)), vrows_same _ _ _ _ rs _ (ha46_2.ext cx.upd.to_ext) (hA46_2.ext cx.upd.to_ext) (Nat.le_trans hrl6 (by decide)) (right_known hrr) (hK_46.ext cx.upd.to_ext)⟩
        refine then_normal (wp_ret ?_)
        refine bodyPost_ret (v := .bool true) (results_tmp Tryd.results3 rfl) rfl ?_
        exact Ret.bool rfl (hX46_.trans hst51.ext)
end
end Go.Proofs.YtjnplglnnamfdaaDoor
namespace Go.Proofs.YtjnplglnnamfdaaDoor
section
open Go.ChangeShapes Go.WideShapes Go.ChangeAt Go.RowKit Go.Deep Go.Joins
set_option linter.unusedVariables false
set_option linter.unusedSimpArgs false
theorem ownKnob_none : ownKnob Tryd.prog.godebug = none := by kernel_rfl
theorem laidOut : laidOutB Tryd.prog = true := by kernel_rfl
section
variable {H : Type} {enc : TypeId × Value → H} {P : Program}
theorem trodAll_stays (hl : laidOutB P = true) {W W' : World} {sp : Nat → Bool} : ∀ {ts : List TypeId} {vs : List Value} {ds : List (DataW H)} {ps : List MemPlace}, (∀ t ∈ ts, P.readableRec t = true ∧ t < P.types.size) →
    DataW.TrodAll enc P W 0 (fun _ => true) true ts vs ds ps → (∀ p ∈ ps, W.sameAt W' p) → (∀ p ∈ ps, sp p.block = true) → DataW.TrodAll enc P W' 0 sp true ts vs ds ps
  | [], [], [], _, _, h, _, _ => h
  | t :: _, _ :: _, _ :: _, _, hT, ⟨p, q, h1, h2, e⟩, hsm, hs =>
    ⟨p, q, WideElems.Trod_stays hl (hT t (by simp)).1 (hT t (by simp)).2 h1 (fun x hx => hsm x (by rw [e]; exact List.mem_append_left _ hx)) (fun x hx => hs x (by rw [e]; exact List.mem_append_left _ hx)),
      trodAll_stays hl (fun t ht => hT t (by simp [ht])) h2 (fun x hx => hsm x (by rw [e]; exact List.mem_append_right _ hx)) (fun x hx => hs x (by rw [e]; exact List.mem_append_right _ hx)), e⟩
/-- THE POST OF A LAW: true, and the input reads as it did, where the call wrote nothing that was there. -/
theorem law_post {f : Func} {s : ChangeSpec} {fresh handsOn again : Bool} {W W' : World} {args : Array Value} {ds gs : List (DataW H)} {before : List MemPlace} {tb : TypeId}
    (hl : laidOutB P = true) (hT : ∀ t ∈ f.params.toList, P.readableRec t = true ∧ t < P.types.size) (hr : f.resultTypes = #[tb]) (hb : P.underlying tb = some .bool)
    (hW : DataW.Whole enc P f.params.toList s.vars false W args.toList ds gs before) (hvs : s.vars = [])
    (hres : (s.fn H (ds ++ gs)).results = [.lit (.bool true)]) (hargs : (s.fn H (ds ++ gs)).args = ds) (hvars : (s.fn H (ds ++ gs)).vars = []) (hx : Ext W W') :
    s.post enc P f false fresh handsOn again W args (.bool true) W' := by
  have hlt : ∀ p ∈ before, p.block < W.heap.size := fun p hp => hW.lt p hp
  have hold : ∀ p ∈ before, (fun b => decide (b < W.heap.size)) p.block = true := fun p hp => by simpa using hlt p hp
  have hW0 := hW
  obtain ⟨p, q, hA, hV, rfl, hz, hn⟩ := hW
  rw [hvs] at hV
  obtain ⟨rfl, rfl⟩ := trodVars_none hV
  rw [List.append_nil] at hlt hold hz
  have HA : ∀ sp : Nat → Bool, (∀ x ∈ p, sp x.block = true) → DataW.TrodAll enc P W' 0 sp true f.params.toList args.toList (s.fn H (ds ++ [])).args p := fun sp hs => by
    rw [hargs]
    exact trodAll_stays hl hT hA (fun x hx' => hx.out.same (hlt x hx')) hs
  have HR : ∀ (b : Nat) (sp : Nat → Bool) (hd : Bool), DataW.TrodAll enc P W' b sp hd f.resultTypes.toList ((Value.bool true).resultList f.resultTypes.size) (s.fn H (ds ++ [])).results [] := fun b sp hd => by
    rw [hres, hr]
    exact trodAll_cons_mk (shut_bool hb _) trodAll_mk0
  have HV : ∀ sp : Nat → Bool, DataW.TrodVars enc P W' sp s.vars (s.fn H (ds ++ [])).vars [] := fun sp => by
    rw [hvs, hvars]
    rfl
  refine ⟨ds, [], p ++ [], [], p, [], hW0, HR _ _ _, HA _ hold, HV _, World.keptBut_mono (fun x hx' => ⟨hx', ?_⟩) (hx.out.frame (· ∈ p ++ [])), fun _ => ?_⟩
  · rw [List.append_nil] at hx'
    exact Or.inr (Or.inl hx')
  · refine ⟨?_, _, _, ([] ++ p) ++ [], ⟨[] ++ p, [], trodAll_append (HA _ (fun _ _ => rfl)) (HR _ _ _), HV _, rfl, ?_, fun ha => by cases ha⟩, ?_⟩
    · exact ok_one hr rfl (okWide_bool_mk hb _)
    · intro b off hp
      have hin : MemPlace.cell b off ∈ p := by simpa using hp
      rw [hx.out.frozen (hlt _ hin)]
      exact hz b off hin
    · intro x hx' _
      simpa using hx'
end
end
end Go.Proofs.YtjnplglnnamfdaaDoor
namespace Go.Proofs.YtjnplglnnamfdaaDoor
section
open Go.ChangeShapes Go.WideShapes Go.ChangeAt Go.RowKit Go.Deep Go.Joins
set_option linter.unusedVariables false
set_option linter.unusedSimpArgs false
/-- the shape of a type; 'sl e by': a slice, an element takes 'by' bytes; 'st': a struct or an array -/
inductive Sh where
  | int (k : IntKind)
  | bool
  | str
  | sl (e : Sh) (bs : Nat)
  | st (fs : List Sh)
mutual
def Sh.n : Sh → Nat
  | .st fs => Sh.ns fs
  | .int _ => 1
  | .bool => 1
  | .str => 1
  | .sl _ _ => 1
def Sh.ns : List Sh → Nat
  | [] => 0
  | f :: fs => f.n + Sh.ns fs
end
mutual
def Shows (w : World) : Sh → List Value → Prop
  | .int k, cs => ∃ z, cs = [.int k z] ∧ (Lit.int k z).wf = true
  | .bool, cs => ∃ b, cs = [.bool b]
  | .str, cs => ∃ s : ByteArray, cs = [.string s] ∧ s.size ≤ 140737488351232
  | .sl e bs, cs => ∃ (A : Option Addr) (n c : Nat) (xs : List Value), cs = [.slice A n c] ∧ At w A xs ∧ xs.length = n * e.n ∧ n ≤ c ∧ c * bs ≤ 140737488351232 ∧ ∀ i, i < n → Shows w e ((xs.drop (i * e.n)).take e.n)
  | .st fs, cs => ShowsL w fs cs
def ShowsL (w : World) : List Sh → List Value → Prop
  | [], cs => cs = []
  | f :: fs, cs => ∃ a b, cs = a ++ b ∧ Shows w f a ∧ ShowsL w fs b
end
mutual
def Sh.fits (P : Program) : Sh → TypeId → Bool
  | .int k, t => match P.underlying t with | some (.int k') => decide (k' = k) | _ => false
  | .bool, t => match P.underlying t with | some .bool => true | _ => false
  | .str, t => match P.underlying t with | some .string => true | _ => false
  | .sl e bs, t => match P.underlying t with | some (.slice u) => e.fits P u && decide (P.cellsOf u = e.n) && decide (P.bytesOf u = bs) && decide (0 < e.n) | _ => false
  | .st fs, t => match P.underlying t with
    | some (.struct gs) => decide (P.cellsOf t = Sh.ns fs) && Sh.fitsF P fs gs.toList 0
    | some (.array n u) => decide (P.cellsOf t = Sh.ns fs) && decide (fs.length = n) && Sh.fitsA P fs u
    | _ => false
def Sh.fitsF (P : Program) : List Sh → List Field → Nat → Bool
  | [], [], _ => true
  | f :: fs, g :: gs, off => decide (g.offset = off) && decide (P.cellsOf g.type = f.n) && f.fits P g.type && Sh.fitsF P fs gs (off + f.n)
  | _, _, _ => false
def Sh.fitsA (P : Program) : List Sh → TypeId → Bool
  | [], _ => true
  | f :: fs, u => decide (P.cellsOf u = f.n) && f.fits P u && Sh.fitsA P fs u
end
theorem mapM_at {α β : Type} {f : α → Option β} : ∀ {l : List α} {ys : List β}, l.mapM f = some ys → ys.length = l.length ∧ ∀ (i : Nat) (a : α), l[i]? = some a → f a = ys[i]?
  | [], ys, h => by simp at h; subst h; simp
  | a :: l, ys, h => by
    simp only [List.mapM_cons, Option.bind_eq_bind, Option.pure_def, Option.bind_eq_some_iff] at h
    obtain ⟨b, hb, bs, hbs, he⟩ := h
    obtain rfl : b :: bs = ys := by simpa using he
    obtain ⟨h1, h2⟩ := mapM_at hbs
    refine ⟨by simp [h1], fun i x hx => ?_⟩
    cases i with
    | zero => simp at hx; subst hx; simpa using hb
    | succ i => simpa using h2 i x (by simpa using hx)
section
variable {H : Type} {enc : TypeId × Value → H} {P : Program}
theorem weightsAll_at {e : TypeId} : ∀ {ds : List (DataW H)} (i : Nat) (d : DataW H), ds[i]? = some d → ∀ x ∈ d.weights P e, x ∈ DataW.weightsAll P e ds
  | [], i, d, h, x, hx => by simp at h
  | d0 :: ds, 0, d, h, x, hx => by
    simp at h; subst h
    simp only [DataW.weightsAll, List.mem_append]; exact .inl hx
  | d0 :: ds, i + 1, d, h, x, hx => by
    simp only [DataW.weightsAll, List.mem_append]
    exact .inr (weightsAll_at i d (by simpa using h) x hx)
/-- the cells of a slice's elements -/
theorem cells_row {w : World} {a : Addr} {m len : Nat} (hm : 0 < m) (h : ∀ i, i < len → ∃ csi, w.cells? 0 (a.add (i * m)) m = some csi) :
    ∃ xs : List Value, xs.length = len * m ∧ At w (some a) xs ∧ ∀ i, i < len → ∀ csi, w.cells? 0 (a.add (i * m)) m = some csi → (xs.drop (i * m)).take m = csi := by
  have key : ∀ i, i < len → ∀ csi, w.cells? 0 (a.add (i * m)) m = some csi → csi.length = m ∧ ∀ r, r < m → w.cell? (a.add (i * m + r)) = csi[r]? := by
    intro i hi csi hc
    unfold World.cells? at hc
    rw [if_pos (Nat.zero_le _)] at hc
    obtain ⟨h1, h2⟩ := mapM_at hc
    refine ⟨by simpa using h1, fun r hr => ?_⟩
    have := h2 r r (by simp [hr])
    rw [add_add'] at this
    exact this
  have each : ∀ j, j < len * m → ∃ u, w.cell? (a.add j) = some u := by
    intro j hj
    have hi : j / m < len := by rw [Nat.div_lt_iff_lt_mul hm]; exact hj
    obtain ⟨csi, hc⟩ := h _ hi
    obtain ⟨h1, h2⟩ := key _ hi _ hc
    have hr := Nat.mod_lt j hm
    have := h2 _ hr
    rw [show j / m * m + j % m = j by rw [Nat.mul_comm]; exact Nat.div_add_mod j m] at this
    rw [List.getElem?_eq_getElem (by omega)] at this
    exact ⟨_, this⟩
  refine ⟨(List.range (len * m)).map fun j => (w.cell? (a.add j)).getD undef, by simp, fun j u hu => ?_, fun i hi csi hc => ?_⟩
  · rw [List.getElem?_map] at hu
    rcases Nat.lt_or_ge j (len * m) with hj | hj
    · obtain ⟨v, hv⟩ := each j hj
      rw [List.getElem?_range hj] at hu
      simp only [Option.map_some, hv, Option.getD_some, Option.some.injEq] at hu
      subst hu
      have := World.block_lt_of_cell? _ _ hv
      rw [add_block] at this
      exact ⟨a, rfl, this, hv⟩
    · rw [List.getElem?_eq_none (by simpa using hj)] at hu; cases hu
  · obtain ⟨h1, h2⟩ := key i hi csi hc
    have hb : i * m + m ≤ len * m := by
      have : (i + 1) * m ≤ len * m := Nat.mul_le_mul_right m hi
      rw [Nat.add_mul, Nat.one_mul] at this
      exact this
    apply List.ext_getElem?
    intro r
    rw [List.getElem?_take]
    by_cases hr : r < m
    · rw [if_pos hr, List.getElem?_drop, List.getElem?_map, List.getElem?_range (by omega), Option.map_some, h2 r hr, List.getElem?_eq_getElem (by omega)]
      rfl
    · rw [if_neg hr, List.getElem?_eq_none (by omega)]
mutual
theorem sees_of {w : World} : ∀ (s : Sh) (t : TypeId) (fuel : Nat) (cs : List Value) (x : DataW H × List MemPlace), s.fits P t = true → DataW.trod enc P w 0 (fun _ => true) true fuel t cs = some x →
    (∀ n ∈ x.1.weights P t, n ≤ reachBytes) → Shows w s cs
  | .int k, t, fuel, cs, x, hf, h, hw => by
    simp only [Sh.fits] at hf
    split at hf
    · rename_i k' hu
      obtain rfl := of_decide_eq_true hf
      obtain ⟨z, hc, _, hz⟩ := DataW.trod_int hu h
      exact ⟨z, hc, hz⟩
    · cases hf
  | .bool, t, fuel, cs, x, hf, h, hw => by
    simp only [Sh.fits] at hf
    split at hf
    · rename_i hu
      obtain ⟨b, hc, _⟩ := DataW.trod_bool hu h
      exact ⟨b, hc⟩
    · cases hf
  | .str, t, fuel, cs, x, hf, h, hw => by
    simp only [Sh.fits] at hf
    split at hf
    · rename_i hu
      obtain ⟨s, hc, rfl, _⟩ := DataW.trod_string hu h
      refine ⟨s, hc, ?_⟩
      have := hw s.data.toList.length (by simp [DataW.weights])
      exact this
    · cases hf
  | .sl e bs, t, fuel, cs, x, hf, h, hw => by
    simp only [Sh.fits] at hf
    split at hf
    · rename_i u hu
      simp only [Bool.and_eq_true, decide_eq_true_eq] at hf
      obtain ⟨⟨⟨he, hm⟩, hb⟩, hp⟩ := hf
      rcases DataW.trod_slice hu h with ⟨rfl, rfl⟩ | ⟨a, len, cap, elems, rest, n, _, rfl, rfl, _, hl, _, hlen, hel, hsp, _⟩
      · exact ⟨none, 0, 0, [], rfl, At.nil _ _, by simp, by simp, by simp, fun i hi => by omega⟩
      · obtain ⟨hrl, _⟩ := hsp rfl
        rw [hm] at hel
        have hsz := hw ((elems.length + rest.length) * P.bytesOf u) (by simp [DataW.weights, hu])
        rw [hlen, hrl, hb] at hsz
        have hR : reachBytes = 140737488351232 := rfl
        rw [hR] at hsz
        have hex : ∀ i, i < len → ∃ csi y, w.cells? 0 (a.add (i * e.n)) e.n = some csi ∧ elems[i]? = some y ∧ DataW.trod enc P w 0 (fun _ => true) true n u csi = some y := by
          intro i hi
          have h1 := hel i hi
          rw [List.getElem?_eq_getElem (by omega), Option.bind_eq_some_iff] at h1
          obtain ⟨csi, hc, hy⟩ := h1
          exact ⟨csi, _, hc, List.getElem?_eq_getElem (by omega), hy⟩
        obtain ⟨xs, hxl, hxa, hxe⟩ := cells_row (w := w) (a := a) (len := len) hp (fun i hi => let ⟨csi, _, hc, _⟩ := hex i hi; ⟨csi, hc⟩)
        refine ⟨some a, len, cap, xs, rfl, hxa, hxl, hl, ?_, fun i hi => ?_⟩
        · rw [show len + (cap - len) = cap by omega] at hsz
          exact hsz
        · obtain ⟨csi, y, hc, hy, ht⟩ := hex i hi
          rw [hxe i hi csi hc]
          refine sees_of e u n csi y he ht fun z hz => hw z ?_
          simp only [DataW.weights, hu, List.mem_cons, List.mem_append]
          refine .inr (.inl ?_)
          exact weightsAll_at i y.1 (by rw [List.getElem?_map, hy]; rfl) z hz
    · cases hf
  | .st fs, t, fuel, cs, x, hf, h, hw => by
    simp only [Sh.fits] at hf
    split at hf
    · rename_i gs hu
      simp only [Bool.and_eq_true, decide_eq_true_eq] at hf
      obtain ⟨hc, hF⟩ := hf
      obtain ⟨xs, n, _, rfl, hcl, hxl, hat⟩ := DataW.trod_struct hu h
      have := seesF_of fs gs.toList 0 cs xs n hF (fun i g hg => hat i g (by rw [← hg]; exact (Array.getElem?_toList ..).symm)) (by simpa using hxl) (by omega) (fun z hz => hw z (by simp only [DataW.weights, hu]; exact hz))
      rw [List.drop_zero, List.take_of_length_le (by omega)] at this
      exact this
    · rename_i n u hu
      simp only [Bool.and_eq_true, decide_eq_true_eq] at hf
      obtain ⟨⟨hc, hn⟩, hF⟩ := hf
      obtain ⟨xs, m, _, rfl, hcl, hxl, hat⟩ := DataW.trod_array hu h
      have := seesA_of fs u 0 cs xs m hF (fun i hi => by rw [Nat.zero_add]; exact hat i (by omega)) (by omega) (by rw [Nat.zero_mul, Nat.zero_add]; omega) (fun z hz => hw z (by simp only [DataW.weights, hu]; exact hz))
      rw [Nat.zero_mul, List.drop_zero, List.take_of_length_le (by omega)] at this
      exact this
    · cases hf
theorem seesF_of {w : World} : ∀ (fs : List Sh) (gs : List Field) (off : Nat) (cs : List Value) (xs : List (DataW H × List MemPlace)) (m : Nat), Sh.fitsF P fs gs off = true →
    (∀ (i : Nat) (g : Field), gs[i]? = some g → DataW.trod enc P w 0 (fun _ => true) true m g.type ((cs.drop g.offset).take (P.cellsOf g.type)) = xs[i]?) → xs.length = gs.length → off + Sh.ns fs ≤ cs.length →
    (∀ n ∈ DataW.weightsEach P (gs.map (·.type)) (xs.map (·.1)), n ≤ reachBytes) → ShowsL w fs ((cs.drop off).take (Sh.ns fs))
  | [], [], off, cs, xs, m, hf, h, hx, hl, hw => by simp [ShowsL, Sh.ns]
  | f :: fs, g :: gs, off, cs, xs, m, hf, h, hx, hl, hw => by
    simp only [Sh.fitsF, Bool.and_eq_true, decide_eq_true_eq] at hf
    obtain ⟨⟨⟨ho, hc⟩, hff⟩, hF⟩ := hf
    simp only [Sh.ns] at hl
    match xs, hx with
    | y :: ys, hx =>
      have h0 := h 0 g rfl
      simp only [List.getElem?_cons_zero] at h0
      rw [ho, hc] at h0
      refine ⟨(cs.drop off).take f.n, (cs.drop (off + f.n)).take (Sh.ns fs), ?_, sees_of f g.type m _ y hff h0 (fun z hz => hw z ?_), seesF_of fs gs (off + f.n) cs ys m hF (fun i g' hg => ?_) (by simpa using hx) (by omega) (fun z hz => hw z ?_)⟩
      · rw [Sh.ns, ← List.drop_drop, List.take_add]
      · simp only [List.map_cons, DataW.weightsEach, List.mem_append]; exact .inl hz
      · simpa using h (i + 1) g' (by simpa using hg)
      · simp only [List.map_cons, DataW.weightsEach, List.mem_append]; exact .inr hz
  | [], _ :: _, off, cs, xs, m, hf, h, hx, hl, hw => by simp [Sh.fitsF] at hf
  | _ :: _, [], off, cs, xs, m, hf, h, hx, hl, hw => by simp [Sh.fitsF] at hf
theorem seesA_of {w : World} : ∀ (fs : List Sh) (u : TypeId) (k : Nat) (cs : List Value) (xs : List (DataW H × List MemPlace)) (m : Nat), Sh.fitsA P fs u = true →
    (∀ i, i < fs.length → DataW.trod enc P w 0 (fun _ => true) true m u ((cs.drop ((k + i) * P.cellsOf u)).take (P.cellsOf u)) = xs[i]?) → xs.length = fs.length → k * P.cellsOf u + Sh.ns fs ≤ cs.length →
    (∀ n ∈ DataW.weightsAll P u (xs.map (·.1)), n ≤ reachBytes) → ShowsL w fs ((cs.drop (k * P.cellsOf u)).take (Sh.ns fs))
  | [], u, k, cs, xs, m, hf, h, hx, hl, hw => by simp [ShowsL, Sh.ns]
  | f :: fs, u, k, cs, xs, m, hf, h, hx, hl, hw => by
    simp only [Sh.fitsA, Bool.and_eq_true, decide_eq_true_eq] at hf
    obtain ⟨⟨hc, hff⟩, hF⟩ := hf
    simp only [Sh.ns] at hl
    match xs, hx with
    | y :: ys, hx =>
      have h0 := h 0 (by simp)
      simp only [List.getElem?_cons_zero, Nat.add_zero] at h0
      have hk : (k + 1) * P.cellsOf u = k * P.cellsOf u + f.n := by rw [Nat.add_mul, Nat.one_mul, hc]
      refine ⟨(cs.drop (k * P.cellsOf u)).take f.n, (cs.drop ((k + 1) * P.cellsOf u)).take (Sh.ns fs), ?_, sees_of f u m _ y hff (by rw [← hc]; exact h0) (fun z hz => hw z ?_), seesA_of fs u (k + 1) cs ys m hF (fun i hi => ?_) (by simpa using hx) (by rw [hk]; omega) (fun z hz => hw z ?_)⟩
      · rw [Sh.ns, hk, ← List.drop_drop, List.take_add]
      · simp only [List.map_cons, DataW.weightsAll, List.mem_append]; exact .inl hz
      · rw [show k + 1 + i = k + (i + 1) by omega]
        simpa using h (i + 1) (by simp; omega)
      · simp only [List.map_cons, DataW.weightsAll, List.mem_append]; exact .inr hz
end
end
/-- an argument opened -/
theorem sees_arg {H : Type} {enc : TypeId × Value → H} {P : Program} {w : World} {ts : List TypeId} {ds : List (DataW H)} (hsz : (DataW.weightsEach P ts ds).all (· ≤ reachBytes) = true) (j : Nat) {t : TypeId} {v : Value} {d : DataW H} {p : List MemPlace} (s : Sh)
    (hf : s.fits P t = true) (ht : ts[j]? = some t) (hd : ds[j]? = some d) (h : DataW.Trod enc P w 0 (fun _ => true) true t v d p) : Shows w s v.cells.toList := by
  obtain ⟨fuel, h⟩ := h
  exact sees_of s t fuel _ (d, p) hf h fun n hn => of_decide_eq_true (List.all_eq_true.1 hsz n (DataW.weights_mem_each ht hd n hn))
/-- the elements of a slice as a list -/
theorem chunks {T : Type} (f : T → List Value) (p : T → Prop) (m : Nat) : ∀ (n : Nat) (xs : List Value), xs.length = n * m → (∀ i, i < n → ∃ t, (xs.drop (i * m)).take m = f t ∧ p t) →
    ∃ ts : List T, ts.length = n ∧ xs = ts.flatMap f ∧ ∀ t ∈ ts, p t
  | 0, xs, hl, h => ⟨[], rfl, by simpa using hl, by simp⟩
  | n + 1, xs, hl, h => by
    obtain ⟨t, ht, hp⟩ := h 0 (by omega)
    rw [Nat.zero_mul, List.drop_zero] at ht
    have hle : (n + 1) * m = m + n * m := by rw [Nat.add_mul, Nat.one_mul, Nat.add_comm]
    obtain ⟨ts, h1, h2, h3⟩ := chunks f p m n (xs.drop m) (by rw [List.length_drop]; omega) (fun i hi => by
      obtain ⟨t', ht', hp'⟩ := h (i + 1) (by omega)
      refine ⟨t', ?_, hp'⟩
      rw [List.drop_drop, show m + i * m = (i + 1) * m by rw [Nat.add_mul, Nat.one_mul, Nat.add_comm]]
      exact ht')
    refine ⟨t :: ts, by simp [h1], ?_, by simpa using ⟨hp, h3⟩⟩
    rw [List.flatMap_cons, ← h2, ← ht, List.take_append_drop]
theorem flatMap_one {T : Type} (f : T → Value) : ∀ ts : List T, (ts.flatMap fun t => [f t]) = ts.map f
  | [] => rfl
  | t :: ts => by simp [flatMap_one f ts]
/-- a slice of ints -/
theorem sees_ints {w : World} {k : IntKind} {bs : Nat} {cs : List Value} (h : Shows w (.sl (.int k) bs) cs) :
    ∃ (A : Option Addr) (c : Nat) (zs : List Int), cs = [.slice A zs.length c] ∧ At w A (zs.map (Value.int k)) ∧ zs.length ≤ c ∧ c * bs ≤ 140737488351232 ∧ ∀ z ∈ zs, (Lit.int k z).wf = true := by
  simp only [Shows, Sh.n, Nat.mul_one] at h
  obtain ⟨A, n, c, xs, rfl, hA, hl, hc, hb, he⟩ := h
  obtain ⟨zs, h1, h2, h3⟩ := chunks (fun z => [Value.int k z]) (fun z => (Lit.int k z).wf = true) 1 n xs (by omega) (fun i hi => by rw [Nat.mul_one]; exact he i hi)
  rw [flatMap_one] at h2
  subst h1 h2
  exact ⟨A, c, zs, rfl, hA, hc, hb, h3⟩
/-- what an argument is -/
def ShowsV (w : World) (s : Sh) (v : Value) : Prop := match s with
  | .st fs => ∃ cs : List Value, v = .agg ⟨cs⟩ ∧ ShowsL w fs cs
  | s => Shows w s [v]
theorem sees_val {P : Program} {W w : World} {r : Reach} {b0 : Nat} {t : TypeId} {v : Value} (s : Sh) (hf : s.fits P t = true) (hv : Value.okWide P W r b0 t v) (h : Shows w s v.cells.toList) : ShowsV w s v := by
  cases s with
  | int k =>
    simp only [Sh.fits] at hf
    split at hf
    · rename_i k' hu
      obtain ⟨n, rfl⟩ := okWide_int hu hv
      exact h
    · cases hf
  | bool =>
    simp only [Sh.fits] at hf
    split at hf
    · rename_i hu
      obtain ⟨n, rfl⟩ := okWide_bool hu hv
      exact h
    · cases hf
  | str =>
    simp only [Sh.fits] at hf
    split at hf
    · rename_i hu
      obtain ⟨n, rfl⟩ := okWide_string hu hv
      exact h
    · cases hf
  | sl e bs =>
    simp only [Sh.fits] at hf
    split at hf
    · rename_i u hu
      obtain ⟨a, l, c, rfl⟩ := okWide_slice hu hv
      exact h
    · cases hf
  | st fs =>
    simp only [Sh.fits] at hf
    split at hf
    · rename_i gs hu
      obtain ⟨cs, rfl, _⟩ := okWide_struct hu hv
      exact ⟨cs.toList, rfl, h⟩
    · rename_i n u hu
      simp only [Value.okWide, hu] at hv
      obtain ⟨cs, rfl, _⟩ := hv
      exact ⟨cs.toList, rfl, h⟩
    · cases hf
end
end Go.Proofs.YtjnplglnnamfdaaDoor
namespace Go.Proofs.YtjnplglnnamfdaaDoor
section
open Go.ChangeShapes Go.WideShapes Go.ChangeAt Go.RowKit Go.Deep Go.Joins
set_option linter.unusedVariables false
set_option linter.unusedSimpArgs false
abbrev laid1 : List (String × DataW Unit) := [("vintner/tuple.none", Rows.laid_vintner_tuple_none)]
theorem gNone : Tryd.prog.globalNamed "vintner/tuple.none" = some 1 := by kernel_rfl
theorem tNone : (Tryd.prog.globals[1]?).map (·.type) = some 24 := by kernel_rfl
set_option maxRecDepth 100000 in
theorem none_of_met {W : World} (h : laidMet Tryd.prog laid1 W) : NoneAt W := by
  obtain ⟨ps, ⟨g0, t0, cs0, f0, p0, q0, hg0, ht0, hv0, hd0, _, _⟩, _, _⟩ := h
  obtain rfl := Option.some.inj (gNone.symm.trans hg0)
  obtain rfl := Option.some.inj (tNone.symm.trans ht0)
  obtain ⟨xs, m, _, hx, hc, hl, hat⟩ := DataW.trod_struct Tryd.underlying24 hd0
  have c2 : Tryd.prog.cellsOf 24 = 2 := by kernel_rfl
  have c1 : Tryd.prog.cellsOf 3 = 1 := by kernel_rfl
  rw [c2] at hc
  obtain ⟨l0⟩ := cs0
  match l0, hc with
  | [a, b], _ =>
    have hl2 : xs.length = 2 := hl
    match xs, hl2, hx, hat with
    | [x0, x1], _, hx, hat =>
      have e0 := hat 0 _ rfl
      have e1 := hat 1 _ rfl
      obtain ⟨k, k1, k2, _⟩ := DataW.trod_int Tryd.underlying3 (show DataW.trod _ Tryd.prog W 0 _ _ m 3 _ = some x0 from e0)
      obtain ⟨n, n1, n2, _⟩ := DataW.trod_int Tryd.underlying3 (show DataW.trod _ Tryd.prog W 0 _ _ m 3 _ = some x1 from e1)
      subst k2 n2
      have hh : DataW.agg [DataW.lit (Lit.int .i64 (-1)), DataW.lit (Lit.int .i64 0)] = DataW.agg [(DataW.lit (Lit.int .i64 k) : DataW Unit), DataW.lit (Lit.int .i64 n)] := (Prod.mk.inj hx).1
      injection hh with hh
      injection hh with h0 h1
      injection h1 with h1 _
      injection h0 with h0
      injection h0 with _ hk
      injection h1 with h1
      injection h1 with _ hn
      subst hk hn
      have ka : a = .int .i64 (-1) := by
        have h3 : List.take (Tryd.prog.cellsOf 3) [a, b] = [Value.int .i64 (-1)] := k1
        rw [c1] at h3
        simpa using h3
      have nb : b = .int .i64 0 := by
        have h3 : List.take (Tryd.prog.cellsOf 3) [b] = [Value.int .i64 0] := n1
        rw [c1] at h3
        simpa using h3
      subst ka nb
      have h0 : W.cell? ⟨1, 0, none⟩ = some (.int .i64 (-1)) := (World.var?_cell hg0 hv0 0).trans rfl
      have h1 : W.cell? ⟨1, 1, none⟩ = some (.int .i64 0) := (World.var?_cell hg0 hv0 1).trans rfl
      intro j u hj
      match j, hj with
      | 0, hj =>
        obtain rfl : Value.int .i64 (-1) = u := by simpa using hj
        exact ⟨_, rfl, World.block_lt_of_cell? _ _ h0, h0⟩
      | 1, hj =>
        obtain rfl : Value.int .i64 0 = u := by simpa using hj
        exact ⟨_, rfl, World.block_lt_of_cell? _ _ h0, by rw [Addr.add_lit]; exact h1⟩
      | j + 2, hj => simp at hj
end
end Go.Proofs.YtjnplglnnamfdaaDoor
namespace Go.Proofs.YtjnplglnnamfdaaDoor
section
open Go.ChangeShapes Go.WideShapes Go.ChangeAt Go.RowKit Go.Deep Go.Joins
set_option linter.unusedVariables false
set_option linter.unusedSimpArgs false
abbrev laid2 : List (String × DataW Unit) := [("vintner/value.kinds", Rows.laid_vintner_value_kinds), ("vintner/tuple.none", Rows.laid_vintner_tuple_none)]
theorem door_met2 (os : Os) (args : Array Value) : laidMetH Tryd.prog laid2 ((World.doorLaid Tryd.prog 400 os).forCall (fun _ _ => 0) ⟨#[], args, []⟩).memory :=
  laidMetH_of_parts3 (fuel := 8) (laidMet_of_run' 8 (by kernel_rfl) (by kernel_rfl)) (by kernel_rfl) (by kernel_rfl)
theorem laid_plain {P : Program} {l : List (String × DataW Unit)} {W : World} (h : laidMetH P l W) (h2 : (l.filter fun x => x.2.handleName?.isSome) ≠ []) : laidMet P (l.filter fun x => x.2.handleName?.isNone) W := by
  unfold laidMetH at h
  generalize (l.filter fun x => x.2.handleName?.isSome) = fl at h h2
  cases fl with
  | nil => exact absurd rfl h2
  | cons a b => exact h.1
theorem none_of_laid2 {W : World} (h : laidMetH Tryd.prog laid2 W) : NoneAt W := by
  have h1 := laid_plain h (fun e => by
    have h2 : (laid2.filter fun x => x.2.handleName?.isSome).length = 1 := by kernel_rfl
    rw [e] at h2; cases h2)
  have e : (laid2.filter fun x => x.2.handleName?.isNone) = laid1 := by kernel_rfl
  rw [e] at h1
  exact none_of_met h1
theorem gKinds : Tryd.prog.globalNamed "vintner/value.kinds" = some 0 := by kernel_rfl
theorem tKinds : (Tryd.prog.globals[0]?).map (·.type) = some 148 := by kernel_rfl
set_option maxRecDepth 100000 in
theorem kinds_of_laid2 {W : World} (h : laidMetH Tryd.prog laid2 W) : KindsAt W := by
  obtain ⟨g, t, cs, fuel, p, hg, ht, hv, hd⟩ := h.funcs (List.mem_cons_self ..)
  obtain rfl := Option.some.inj (gKinds.symm.trans hg)
  obtain rfl := Option.some.inj (tKinds.symm.trans ht)
  have hd2 : DataW.trod (funcToken Tryd.prog) Tryd.prog W 0 (fun _ => true) true fuel 148 cs.toList = some (.agg [.held [118, 105, 110, 116, 110, 101, 114, 47, 118, 97, 108, 117, 101, 46, 107, 105, 110, 100, 115, 36, 49], .held [118, 105, 110, 116, 110, 101, 114, 47, 118, 97, 108, 117, 101, 46, 107, 105, 110, 100, 115, 36, 50], .held [118, 105, 110, 116, 110, 101, 114, 47, 118, 97, 108, 117, 101, 46, 107, 105, 110, 100, 115, 36, 51]], p) := hd
  obtain ⟨xs, m, _, hx, hc, hl, hat⟩ := DataW.trod_array Tryd.underlying148 hd2
  have c3 : Tryd.prog.cellsOf 148 = 3 := by kernel_rfl
  have c1 : Tryd.prog.cellsOf 106 = 1 := by kernel_rfl
  rw [c3] at hc
  rw [c1] at hat
  obtain ⟨l0⟩ := cs
  match l0, hc with
  | [a, b, c], _ =>
    match xs, hl, hx, hat with
    | [x0, x1, x2], _, hx, hat =>
      have hh := (Prod.mk.inj hx).1
      injection hh with hh
      injection hh with h0 hh
      injection hh with h1 hh
      injection hh with h2 _
      have e0 := hat 0 (by decide)
      have e1 := hat 1 (by decide)
      have e2 := hat 2 (by decide)
      obtain rfl := func_of_trod (f0 := 141) Tryd.underlying106 (by kernel_rfl) (show DataW.trod (funcToken Tryd.prog) Tryd.prog W 0 (fun _ => true) true m 106 [a] = some (.held [118, 105, 110, 116, 110, 101, 114, 47, 118, 97, 108, 117, 101, 46, 107, 105, 110, 100, 115, 36, 49], x0.2) from by rw [h0]; exact e0)
      obtain rfl := func_of_trod (f0 := 142) Tryd.underlying106 (by kernel_rfl) (show DataW.trod (funcToken Tryd.prog) Tryd.prog W 0 (fun _ => true) true m 106 [b] = some (.held [118, 105, 110, 116, 110, 101, 114, 47, 118, 97, 108, 117, 101, 46, 107, 105, 110, 100, 115, 36, 50], x1.2) from by rw [h1]; exact e1)
      obtain rfl := func_of_trod (f0 := 144) Tryd.underlying106 (by kernel_rfl) (show DataW.trod (funcToken Tryd.prog) Tryd.prog W 0 (fun _ => true) true m 106 [c] = some (.held [118, 105, 110, 116, 110, 101, 114, 47, 118, 97, 108, 117, 101, 46, 107, 105, 110, 100, 115, 36, 51], x2.2) from by rw [h2]; exact e2)
      intro k v hk
      match k, hk with
      | 0, hk =>
        obtain rfl := Option.some.inj hk
        exact (World.var?_cell hg hv 0).trans rfl
      | 1, hk =>
        obtain rfl := Option.some.inj hk
        exact (World.var?_cell hg hv 1).trans rfl
      | 2, hk =>
        obtain rfl := Option.some.inj hk
        exact (World.var?_cell hg hv 2).trans rfl
      | k + 3, hk => simp [kindsL] at hk
end
end Go.Proofs.YtjnplglnnamfdaaDoor
namespace Go.Proofs.YtjnplglnnamfdaaDoor.heapDone
section
open Go.ChangeShapes Go.WideShapes Go.ChangeAt Go.RowKit Go.Deep Go.Joins
set_option linter.unusedVariables false
set_option maxRecDepth 100000 in
theorem lifted (os : Os) (started : os.Started) (H : Type) (enc : TypeId × Value → H) :
    ReturnsInHanded {} Tryd.checked os 3 .any (fun w args => (Rows.heapDoneSpec.pre enc Tryd.prog Tryd.f3 [] false w args ∧ laidMetH Tryd.prog laid2 w) ∧ sizedMet enc Tryd.prog Tryd.f3 (OpenSpec.ofChange Rows.heapDoneSpec) false w args) (Rows.heapDoneSpec.post enc Tryd.prog Tryd.f3 false true false false) := by
  refine returnsInHanded_of_change_and (C := Tryd.checked) (X := fun w _ => laidMetH Tryd.prog laid2 w) (fun _ _ _ hh h => h.of_heap hh) ownKnob_none started (by kernel_rfl) Tryd.func3
    (ChangeSpec.witness_shaped (enc := enc) (C := Tryd.checked) (os := os) (X := fun w _ => laidMetH Tryd.prog laid2 w) false (World.doorLaid Tryd.prog 400 os) #[.slice none 0 0, .agg #[.slice none 0 0, .int .i64 0, .int .i64 0, .int .i64 0, .int .i64 0, .int .i64 0, .slice none 0 0, .bool false]] 8 rfl (World.shaped_of_RefB (by kernel_rfl) (by kernel_rfl)) (by kernel_rfl) (by kernel_rfl) (by kernel_rfl) (door_met2 os _)) ?_
  intro W base args ds gs before hval0 hW hcnd hsz0 hLaid _
  have hN := none_of_laid2 hLaid
  have hK := kinds_of_laid2 hLaid
  have hval : ∀ (j : Nat) t v, Tryd.f3.params[j]? = some t → args[j]? = some v → Value.okWide Tryd.prog W .any base t v := hval0
  have hsz : (DataW.weightsEach Tryd.prog (Tryd.f3.params.toList ++ Rows.heapDoneSpec.plain.varTypes Tryd.prog) (ds ++ gs)).all (· ≤ reachBytes) = true := hsz0
  clear hsz0 hval0
  have hW' := hW
  obtain ⟨p, q, hA0, hV, rfl, hfz, hnd⟩ := hW
  have hA : DataW.TrodAll enc Tryd.prog W 0 (fun _ => true) true Tryd.f3.params.toList args.toList ds p := hA0
  clear hA0
  rw [Tryd.params3] at hA hval hsz
  obtain ⟨v0, vs0, d0, ds0, p0, q0, hargs, rfl, rfl, h0, r0⟩ := trodAll_cons hA
  obtain ⟨v1, vs1, d1, ds1, p1, q1, rfl, rfl, rfl, h1, r1⟩ := trodAll_cons r0
  obtain ⟨rfl, rfl, rfl⟩ := trodAll_nil r1
  obtain rfl : args = #[v0, v1] := by cases args; simp_all
  obtain ⟨rfl, rfl⟩ := trodVars_none hV
  have s0 := sees_val (.sl (.int .i64) 8) (by kernel_rfl) (hval 0 _ _ rfl rfl) (sees_arg hsz 0 (.sl (.int .i64) 8) (by kernel_rfl) rfl rfl h0)
  have s1 := sees_val (.st [.sl (.int .i64) 8, .int .i64, .int .i64, .st [.int .i64, .int .i64], .int .i64, .sl (.int .i64) 8, .bool]) (by kernel_rfl) (hval 1 _ _ rfl rfl) (sees_arg hsz 1 (.st [.sl (.int .i64) 8, .int .i64, .int .i64, .st [.int .i64, .int .i64], .int .i64, .sl (.int .i64) 8, .bool]) (by kernel_rfl) rfl rfl h1)
  clear hsz
  obtain ⟨SA, sc, s, hE, atSA, lSA, bSA, wSA⟩ := sees_ints s0
  cases hE
  obtain ⟨cs_, hE, s1⟩ := s1
  cases hE
  obtain ⟨a_, b_, hE, s1_0, s1r⟩ := s1
  cases hE
  obtain ⟨a_, b_, hE, s1_1, s1r⟩ := s1r
  cases hE
  obtain ⟨a_, b_, hE, s1_2, s1r⟩ := s1r
  cases hE
  obtain ⟨a_, b_, hE, s1_3, s1r⟩ := s1r
  cases hE
  obtain ⟨a_, b_, hE, s1_4, s1r⟩ := s1r
  cases hE
  obtain ⟨a_, b_, hE, s1_5, s1r⟩ := s1r
  cases hE
  obtain ⟨a_, b_, hE, s1_6, s1r⟩ := s1r
  cases hE
  cases s1r
  obtain ⟨QA, qc, qs, hE, atQA, lQA, bQA, wQA⟩ := sees_ints s1_0
  cases hE
  obtain ⟨fr0, hE, wfr0⟩ := s1_1
  cases hE
  obtain ⟨tb0, hE, wtb0⟩ := s1_2
  cases hE
  obtain ⟨a_, b_, hE, s1_3_0, s1_3r⟩ := s1_3
  cases hE
  obtain ⟨a_, b_, hE, s1_3_1, s1_3r⟩ := s1_3r
  cases hE
  cases s1_3r
  obtain ⟨at0, hE, wat0⟩ := s1_3_0
  cases hE
  obtain ⟨at1, hE, wat1⟩ := s1_3_1
  cases hE
  obtain ⟨xid, hE, wxid⟩ := s1_4
  cases hE
  obtain ⟨LA, lc, rl, hE, atLA, lLA, bLA, wLA⟩ := sees_ints s1_5
  cases hE
  obtain ⟨hot, hE⟩ := s1_6
  cases hE
  refine (heapdone_any SA sc s QA qs.length qc fr0 tb0 at0 at1 xid LA lc rl hot W atSA (by omega) atLA (by omega) hN hK).mono fun e W' ⟨he, hx⟩ => ?_
  subst he
  exact ⟨_, rfl, law_post laidOut (by rw [Tryd.params3]; exact (by decide +kernel)) rfl Tryd.underlying4 hW' rfl rfl rfl rfl hx⟩
theorem over : Rows.heapDoneRow.holds Tryd.pinned (OpenSpec.ofChange Rows.heapDoneSpec) :=
  OpenClaim.holds_of_wide 3 Tryd.f3 rfl rfl rfl rfl rfl rfl rfl ⟨rfl, rfl, rfl, rfl, rfl⟩ rfl rfl rfl rfl rfl (by kernel_rfl) Tryd.func3 (by kernel_rfl)
    (of_decide_eq_true (by kernel_rfl)) (by unfold Func.isWrapper; first | (rw [if_pos (by decide +kernel)]; kernel_rfl) | (rw [if_neg (by decide +kernel)]; exact ⟨rfl, rfl⟩))
    (fun os started H enc _ => lifted os started H enc)
theorem proved : Rows.HeapDoneCardSaid :=
  Claim7.holds_tied_plain_at .later [] [.funcs, .data] true (true, "cb0cbcf253c7add72168568adf4ae4101bfe714700cae071500d6da090a5b03f") true
    over (fun _ h => by cases h) (by kernel_rfl) (fun _ h => by cases h) heapDone_row_tie rfl ⟨rfl, rfl⟩ (by kernel_rfl) rfl
    (fun f fn hf hfn => by
      obtain rfl : f = 3 := Option.some.inj ((show Tryd.prog.funcNamed "vintner/vintnerlaw09.HeapDone" = some 3 by kernel_rfl).symm.trans hf) |>.symm
      obtain rfl : fn = Tryd.f3 := (Option.some.inj (Tryd.func3.symm.trans hfn)).symm
      exact ⟨by kernel_rfl, fun j t ht => by
        rw [Tryd.params3] at ht
        have hm : t ∈ [22, 26] := by simpa using Array.mem_of_getElem? ht
        have hall : ([22, 26].all fun u => !Tryd.prog.wantsStandIn u) = true := by kernel_rfl
        exact (show Tryd.prog.wantsStandIn t = false by simpa using List.all_eq_true.1 hall t hm)⟩)
    (by kernel_rfl)
end
end Go.Proofs.YtjnplglnnamfdaaDoor.heapDone

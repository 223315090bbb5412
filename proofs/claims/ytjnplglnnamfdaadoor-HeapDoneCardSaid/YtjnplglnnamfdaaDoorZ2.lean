/- HeapDoneRow9: part 2 of the proof. -/
import Derived.Test.YtjnplglnnamfdaaDoorZ1
import Derived.Laws.StructEq
import Derived.Shelf.Strings.Builder1
import Derived.Laws.IdiomStrings
import Derived.Lib.UnsafeStr
import Derived.Shelf.Strings.Builder2
import Derived.Shelf.Strings.OnBuilder
import Derived.Shelf.Strings.BuilderF
import Derived.Test.YtjnplglnnamfdaaDoorProg
import Derived.Recover
set_option linter.unusedVariables false
set_option linter.unusedSimpArgs false
namespace Go.Proofs.YtjnplglnnamfdaaDoor
section
open Go.RowKit
set_option linter.unusedVariables false
set_option linter.unusedSimpArgs false
abbrev gu (u : List Go.Value) (k : Nat) : Go.Value := u.getD k undef
theorem nle {a b : Nat} (h : Nat.ble a b = true) : a ≤ b := Nat.le_of_ble_eq_true h
theorem Tryd.infoInt : (Tryd.prog.info? 3).map (fun i => (i.zero, i.size, i.bytes)) = some (some (.int .i64 0), 1, 8) := by kernel_rfl
theorem Tryd.infoVal : (Tryd.prog.info? 82).map (fun i => (i.zero, i.size, i.bytes)) = some (some (.agg #[.int .i64 0, .int .i64 0, .string ByteArray.empty]), 3, 32) := by kernel_rfl
def oneS (n : Int) : ByteArray := strOfNums [n % 256]
theorem oneS_size (n : Int) : (oneS n).size = 1 := by rw [oneS, strOfNums_size]; rfl
def digA : Nat → Int → ByteArray → ByteArray
  | 0, _, s => s
  | f + 1, m, s => if m = 0 then s else digA f (m / 10) (oneS (48 + m % 10) ++ s)
def digG (first : Bool) (f : Nat) (m : Int) (s : ByteArray) : ByteArray := if first then digA f (m / 10) (oneS (48 + m % 10) ++ s) else digA f m s
def digF (n : Int) : ByteArray := digG true 5 n ⟨#[]⟩
theorem digG_true (f : Nat) (m : Int) (s : ByteArray) : digG true f m s = digG false f (m / 10) (oneS (48 + m % 10) ++ s) := rfl
theorem digG_false (f : Nat) (m : Int) (s : ByteArray) (h : m ≠ 0) : digG false (f + 1) m s = digG false f (m / 10) (oneS (48 + m % 10) ++ s) := by
  show digA (f + 1) m s = _
  rw [digA, if_neg h]; rfl
theorem digG_end (f : Nat) (s : ByteArray) : digG false f 0 s = s := by
  show digA f 0 s = s
  cases f <;> simp [digA]
abbrev Val := Int × Int × ByteArray
def cellsV (v : Val) : List Value := [.int .i64 v.1, .int .i64 v.2.1, .string v.2.2]
def flatR (rs : List Val) : List Value := rs.flatMap cellsV
theorem flatR_snoc (rs : List Val) (v : Val) : flatR (rs ++ [v]) = flatR rs ++ cellsV v := by simp [flatR]
def valF (x : Int) : Val := if x % 5 = 0 then (0, 0, ByteArray.empty) else if x % 5 = 1 then (2, 0, (⟨#[97, 98, 99]⟩ : ByteArray).extract 0 (x / 5 % 4).toNat) else if x % 5 = 2 then (2, 0, digF (x / 5)) else (1, x / 5 % 9 - 2, ByteArray.empty)
def madeR (k : Nat) (l : List Int) : List Val := (List.range k).map fun i => valF (l.getD i 0 % 65536)
theorem madeR_succ (k : Nat) (l : List Int) : madeR (k + 1) l = madeR k l ++ [valF (l.getD k 0 % 65536)] := by simp [madeR, List.range_succ]
theorem madeR_len (k : Nat) (l : List Int) : (madeR k l).length = k := by simp [madeR]
def RowPost (rs : List Val) (w : World) (e : Ending) (w' : World) : Prop := ∃ A c, e = .returned (.slice A rs.length c) ∧ w'.ownsRow w.heap.size 82 3 (.slice A rs.length c) rs.length (flatR rs) ∧ Ext w w'
set_option maxRecDepth 100000 in
set_option maxHeartbeats 2000000 in
theorem ron_any (x : Int) (w : World) :
    Calls Tryd.prog 105 #[.int .i64 x] w (Ret (.bool (onF x)) w) := by
  go_enter Tryd.func105, Tryd.ntmps105
  have hst0 := St.start w
  refine wp_seq (wp_region_P [0] [.k 2 (.bool false)] [(2, 0, 1, 3)] hst0 fun W1 hst1 => ?_)
  refine then_normal (wp_seq (wp_region_P [0, 1, 3, 7, 15, 31, 63] [.k 3 (vi x), .k 4 (.bool (decide (3 ≤ x))), .k 5 (.bool (decide (3 ≤ x))), .z 6 (decide (3 ≤ x)) (vi x), .z 7 (decide (3 ≤ x)) (.bool (decide (x ≤ 127))), tA 8 (decide (3 ≤ x)) (decide (x ≤ 127)), .k 2 (.bool ((decide (3 ≤ x)) && (decide (x ≤ 127))))] [(2, 6, 1, 3), (0, 0, 6, 6)] hst1 fun W2 hst2 => ?_))
  refine then_normal (wp_ret ?_)
  refine bodyPost_ret (v := .bool ((decide (3 ≤ x)) && (decide (x ≤ 127)))) (results_tmp Tryd.results105 rfl) rfl ?_
  exact Ret.bool (Bool.eq_iff_iff.2 (by simp [onF]; omega)) hst2.ext
set_option maxRecDepth 100000 in
set_option maxHeartbeats 2000000 in
theorem one_any (n : Int) (w : World) :
    Calls Tryd.prog 56 #[.int .i64 n] w (Ret (.string (oneS n)) w) := by
  go_enter Tryd.func56, Tryd.ntmps56
  have hst0 := St.start w
  refine wp_seq (wp_region_P [0] [.k 2 (.string ⟨#[]⟩)] [(2, 0, 1, 3)] hst0 fun W1 hst1 => ?_)
  refine then_normal (wp_seq (wp_region_Y [0, 1, 3, 7, 15] [[], [], [], [0]] [[], [], [0]] [] [.k 3 (vi n), tW 4 .u8 n (n % 256) (IntKind.wrap_u8 _), .a 5, .c 6 (.string (strOfNums ([(n % 256)]))), .k 2 (.string (strOfNums ([(n % 256)])))] (fun ix σ β X => match ix with | 0 => True | 1 => True | 2 => σ 5 = .slice (sA (β 5)) 1 1 ∧ X 0 = eO 5 1 (.slice (sA (β 5)) 1 1) 1 ([.int .u8 (n % 256)]) | _ => True) [0] [2, 3] [(2, 4, 1, 3), (0, 0, 4, 4)] hst1 ?_ ?_ ?_))
  · exact fun ix _ _ _ _ _ _ hs hb hx h => match ix, h with
    | 2, h => by dsimp only at h ⊢; rw [← hs 5 rfl, ← hb 5 rfl, ← hx 0 rfl]; exact h
    | 0, _ | 1, _ | _ + 3, _ => trivial
  · refine ⟨?_, ?_, trivial⟩
    · refine sv_any rfl rfl fun ρ β W X cx => ?_
      have fF4 : ρ (.tmp 4) = .int .u8 (n % 256) := (cx.an 1)
      exact dv_lit (e := 5) (xs := [.int .u8 (n % 256)]) rfl (by simp [go_sem, fF4]) rfl (by decide) rfl rfl (fun σ β' X' hs hb hv hx => ⟨hv, hx⟩)
    · exact xs4 rfl id fun cx => run_convB (e := 5) rfl (by kernel_rfl) (by kernel_rfl) (by kernel_rfl) (dTn (cx.an 2)).1 (cx.row (dTn (cx.an 2)).2 rfl)
  intro σ β X W2 hD hst2 fr hfr
  obtain ⟨A5_2, hu_A5_2⟩ : ∃ z, sA (β 5) = z := ⟨_, rfl⟩
  simp only [exq 0 ((dTn (hD 2 lq)).2), hu_A5_2] at hst2
  simp only [ed 5 ((dTn (hD 2 lq)).1), hu_A5_2] at hfr
  clear hD hu_A5_2; subst hfr; clear σ β X
  refine then_normal (wp_ret ?_)
  refine bodyPost_ret (v := .string (strOfNums ([(n % 256)]))) (results_tmp Tryd.results56 rfl) rfl ?_
  exact Ret.of rfl hst2.ext
theorem digbound {m : Int} {f : Nat} (hm : 0 < m) (hf : 1 ≤ f) (h : m < 10 ^ f) : m / 10 < 10 ^ (f - 1) := by
  obtain ⟨g, rfl⟩ : ∃ g, f = g + 1 := ⟨f - 1, by omega⟩
  rw [Nat.add_sub_cancel]
  rw [Int.pow_succ] at h
  omega
theorem digfirst {m : Int} {f : Nat} (h : m < 100000) (hf : f = 5) : m / 10 < 10 ^ f := by
  subst hf
  have h6 : (10 : Int) ^ 5 = 100000 := by decide
  omega
theorem digsmall {m : Int} {f : Nat} (h : m < 10 ^ f) (hf : f ≤ 5) : m < 100000 := by
  have h2 : (10 : Int) ^ f ≤ 10 ^ 5 := by
    have : (10 : Nat) ^ f ≤ 10 ^ 5 := Nat.pow_le_pow_right (by omega) hf
    exact_mod_cast this
  have h3 : (10 : Int) ^ 5 = 100000 := by decide
  omega
set_option maxRecDepth 100000 in
set_option maxHeartbeats 2000000 in
theorem dig_any (n : Int) (w : World) (hn : 0 ≤ n ∧ n < 100000) :
    Calls Tryd.prog 27 #[.int .i64 n] w (Ret (.string (digF n)) w) := by
  go_enter Tryd.func27, Tryd.ntmps27
  have hst0 := St.start w
  refine wp_seq (wp_region_P [0] [.k 2 (.string ⟨#[]⟩)] [(2, 0, 1, 3)] hst0 fun W1 hst1 => ?_)
  refine then_normal (wp_seq (wp_region_P [0] [.k 3 (.string ⟨#[]⟩)] [(3, 0, 1, 4)] hst1 fun W2 hst2 => ?_))
  refine then_normal (wp_seq (wp_region_P [0, 1] [.k 7 (vi n), .k 4 (vi n)] [(4, 1, 1, 5), (2, 0, 1, 3)] hst2 fun W3 hst3 => ?_))
  refine then_normal (wp_seq (wp_seq (wp_region_P [0] [.k 5 (.bool true)] [(5, 0, 1, 6)] hst3 fun W4 hst4 => ?_)))
  refine then_normal (wp_block ?_)
  refine wp_loopN (fun mz az W => ∃ f : Nat, ∃ m : Int, ∃ s : ByteArray, ∃ fs : Bool, ∃ u5_ : List Value, digF n = digG fs f m s ∧ 0 ≤ m ∧ (fs = false → m < 10 ^ f) ∧ (fs = true → m < 100000 ∧ f = 5) ∧ s.size + f + fs.toNat ≤ 30 ∧ f ≤ 5 ∧ mz = 2 * f + fs.toNat ∧ az = ⟨#[vi n, undef, .string ⟨#[]⟩, .string s, vi m, .bool fs, (gu u5_ 0), vi n, (gu u5_ 1), (gu u5_ 2), (gu u5_ 3), (gu u5_ 4), (gu u5_ 5), (gu u5_ 6), (gu u5_ 7), (gu u5_ 8), (gu u5_ 9), (gu u5_ 10), (gu u5_ 11), (gu u5_ 12), (gu u5_ 13), (gu u5_ 14), (gu u5_ 15), (gu u5_ 16), (gu u5_ 17), (gu u5_ 18), undef, undef, undef, undef, undef], []⟩ ∧ St w [] [] W) (2 * 5 + true.toNat) ?_ ?_
  · -- the loop begins
    have hp6 := hst4.pick [] (by decide) rfl
    exact ⟨5, n, ⟨#[]⟩, true, [undef, undef, undef, undef, undef, undef, undef, undef, undef, undef, undef, undef, undef, undef, undef, undef, undef, undef, undef], rfl, hn.1, fun h => (by cases h), fun _ => ⟨by omega, rfl⟩, by show 0 + 5 + 1 ≤ 30; omega, Nat.le_refl 5, rfl, rfl, hp6⟩
  rintro n5 a5 W5 ⟨f, m, s, fs, u5_, hG, hm, hff, hft, hsz, hf5, rfl, rfl, hst5⟩
  refine wp_seq (wp_seq ?_)
  rcases Bool.eq_false_or_eq_true (fs) with hs8 | hs8
  · skip
    refine wp_region_Z [0, 1, 3, 7, 15] [] [.c 8 (.bool true), .k 9 (.bool true), .u 10, .u 11, .k 12 (.bool true)] [] [0] [(8, 0, 5, 13)] hst5 ?_ fun W9 hst9 => ?_
    · refine ⟨?_, trivial⟩
      · exact xs4 rfl id fun cx => run_move' rfl (Eq.trans (cx.ou 5) (congrArg Value.bool hs8))
    refine then_normal (wp_cond_true (show Act.eval _ _ = .bool true from rfl) (wp_skip (then_normal (wp_seq (wp_block (wp_seq ?_))))))
    have hs1 := oneS_size (48 + m % 10)
    have hr : 0 ≤ m % 10 ∧ m % 10 < 10 := by omega
    have hml : m < 100000 := by
      cases fs
      · have h3 := hff rfl; exact digsmall h3 hf5
      · exact (hft rfl).1
    have hs0 : fs = true := by assumption
    refine wp_region_P [0, 1, 3] [.k 13 (vi m), tRe 14 .i64 m 10 (m % 10) (Int.tmod_eq_emod_of_nonneg (by omega)), .k 6 (vi (m % 10))] [(6, 2, 1, 7), (6, 0, 2, 8)] hst9 fun W10 hst10 => ?_
    refine then_normal (wp_seq (wp_seq ?_))
    have hd12 : (decide (m % 10 < 0)) = false := decide_eq_false (by omega)
    refine wp_region_P [0, 1] [.k 15 (vi (m % 10)), .e 16 (.bool (decide (m % 10 < 0))) (.bool false) (congrArg Value.bool hd12)] [(15, 0, 2, 17)] hst10 fun W11 hst11 => ?_
    refine then_normal (wp_cond_false (show Act.eval _ _ = .bool false from rfl) (wp_skip (then_normal (wp_seq (wp_region_Z [0, 1, 3, 0, 15, 31] [] [.k 19 (vi (m % 10)), tI 20 (48 + (m % 10)) (by omega), .c 21 (.string (oneS (48 + (m % 10)))), .k 22 (.string s), tS 23 (oneS (48 + (m % 10))) s (by omega), .k 3 (.string ((oneS (48 + (m % 10))) ++ s))] [] [2] [(3, 5, 1, 4), (15, 0, 5, 20)] hst11 ?_ fun W13 hst13 => ?_)))))
    · refine ⟨?_, trivial⟩
      · exact xsc rfl id rfl rfl fun cx => ⟨_, one_any (48 + (m % 10)) _, (map1 (cx.an 1))⟩
    refine then_normal (wp_region_P [0, 1, 3] [.k 24 (vi m), tQu 25 .i64 m 10 (m / 10) (by rw [Int.tdiv_eq_ediv_of_nonneg (by omega)]; exact IntWalk.i64_in _ (by omega)), .k 4 (vi (m / 10))] [(4, 2, 1, 5), (19, 0, 2, 21)] hst13 fun W14 hst14 => ?_)
    refine blk_normal (then_normal (wp_region_P [0] [.k 5 (.bool false)] [(5, 0, 1, 6)] hst14 fun W15 hst15 => ?_))
    refine then_normal ?_
    refine ⟨2 * f + false.toNat, by rw [hs0]; first | (simp; done) | (simp; omega), ?_⟩
    have hp16 := hst15.pick [] (by decide) rfl
    exact ⟨f, (m / 10), (oneS (48 + m % 10) ++ s), false, [vi (m % 10), .bool true, .bool true, undef, undef, .bool true, vi m, vi (m % 10), vi (m % 10), .bool false, (gu u5_ 10), (gu u5_ 11), vi (m % 10), vi (48 + (m % 10)), .string (oneS (48 + (m % 10))), .string s, .string ((oneS (48 + (m % 10))) ++ s), vi m, vi (m / 10)], by rw [hG, hs0, digG_true], by omega, fun _ => digfirst (hft hs0).1 (hft hs0).2, fun h => (by cases h), by rw [ByteArray.size_append]; rw [hs0] at hsz; simp at hsz ⊢; omega, by omega, rfl, rfl, hp16⟩
  refine wp_region_Z [0, 1, 3, 7, 15] [] [.c 8 (.bool false), .k 9 (.bool false), .k 10 (vi m), .k 11 (.bool (m != 0)), .k 12 (.bool (m != 0))] [] [0] [(8, 0, 5, 13)] hst5 ?_ fun W17 hst17 => ?_
  · refine ⟨?_, trivial⟩
    · exact xs4 rfl id fun cx => run_move' rfl (Eq.trans (cx.ou 5) (congrArg Value.bool hs8))
  refine then_normal ?_
  rcases Bool.eq_false_or_eq_true (m != 0) with hs18 | hs18
  · skip
    have hs18p : m ≠ 0 := by simpa using hs18
    refine wp_cond_true (show Act.eval _ _ = .bool true from (congrArg Value.bool hs18)) (wp_skip (then_normal (wp_seq (wp_block (wp_seq ?_)))))
    have hs1 := oneS_size (48 + m % 10)
    have hr : 0 ≤ m % 10 ∧ m % 10 < 10 := by omega
    have hml : m < 100000 := by
      cases fs
      · have h3 := hff rfl; exact digsmall h3 hf5
      · exact (hft rfl).1
    have hm0 : m ≠ 0 := by assumption
    have hm0p : 0 < m := by omega
    have hf1 : 1 ≤ f := by
      rcases Nat.lt_or_ge f 1 with h | h
      · have h3 := hff (by assumption); have : f = 0 := by omega
        subst this; simp at h3; omega
      · exact h
    have hs0 : fs = false := by assumption
    refine wp_region_P [0, 1, 3] [.k 13 (vi m), tRe 14 .i64 m 10 (m % 10) (Int.tmod_eq_emod_of_nonneg (by omega)), .k 6 (vi (m % 10))] [(6, 2, 1, 7), (6, 0, 2, 8)] hst17 fun W19 hst19 => ?_
    refine then_normal (wp_seq (wp_seq ?_))
    have hd21 : (decide (m % 10 < 0)) = false := decide_eq_false (by omega)
    refine wp_region_P [0, 1] [.k 15 (vi (m % 10)), .e 16 (.bool (decide (m % 10 < 0))) (.bool false) (congrArg Value.bool hd21)] [(15, 0, 2, 17)] hst19 fun W20 hst20 => ?_
    refine then_normal (wp_cond_false (show Act.eval _ _ = .bool false from rfl) (wp_skip (then_normal (wp_seq (wp_region_Z [0, 1, 3, 0, 15, 31] [] [.k 19 (vi (m % 10)), tI 20 (48 + (m % 10)) (by omega), .c 21 (.string (oneS (48 + (m % 10)))), .k 22 (.string s), tS 23 (oneS (48 + (m % 10))) s (by omega), .k 3 (.string ((oneS (48 + (m % 10))) ++ s))] [] [2] [(3, 5, 1, 4), (15, 0, 5, 20)] hst20 ?_ fun W22 hst22 => ?_)))))
    · refine ⟨?_, trivial⟩
      · exact xsc rfl id rfl rfl fun cx => ⟨_, one_any (48 + (m % 10)) _, (map1 (cx.an 1))⟩
    refine then_normal (wp_region_P [0, 1, 3] [.k 24 (vi m), tQu 25 .i64 m 10 (m / 10) (by rw [Int.tdiv_eq_ediv_of_nonneg (by omega)]; exact IntWalk.i64_in _ (by omega)), .k 4 (vi (m / 10))] [(4, 2, 1, 5), (19, 0, 2, 21)] hst22 fun W23 hst23 => ?_)
    refine blk_normal (then_normal (wp_region_P [0] [.k 5 (.bool false)] [(5, 0, 1, 6)] hst23 fun W24 hst24 => ?_))
    refine then_normal ?_
    refine ⟨2 * ((f - 1)) + false.toNat, by rw [hs0]; first | (simp; done) | (simp; omega), ?_⟩
    have hp25 := hst24.pick [] (by decide) rfl
    exact ⟨(f - 1), (m / 10), (oneS (48 + m % 10) ++ s), false, [vi (m % 10), .bool false, .bool false, vi m, .bool (m != 0), .bool (m != 0), vi m, vi (m % 10), vi (m % 10), .bool false, (gu u5_ 10), (gu u5_ 11), vi (m % 10), vi (48 + (m % 10)), .string (oneS (48 + (m % 10))), .string s, .string ((oneS (48 + (m % 10))) ++ s), vi m, vi (m / 10)], by rw [hG, hs0, ← digG_false (f - 1) m s hm0, Nat.sub_add_cancel hf1], by omega, fun _ => digbound hm0p hf1 (hff hs0), fun h => (by cases h), by rw [ByteArray.size_append]; rw [hs0] at hsz; simp at hsz ⊢; omega, by omega, rfl, rfl, hp25⟩
  have hs18p : m = 0 := by simpa using hs18
  refine wp_cond_false (show Act.eval _ _ = .bool false from (congrArg Value.bool hs18)) (wp_exit (then_exit (then_exit (blk_eq (then_normal (wp_seq (wp_seq ?_)))))))
  have hd27 : (decide (n < 0)) = false := decide_eq_false (by omega)
  refine wp_region_P [0, 1] [.k 26 (vi n), .e 27 (.bool (decide (n < 0))) (.bool false) (congrArg Value.bool hd27)] [(26, 0, 2, 28)] hst17 fun W26 hst26 => ?_
  refine then_normal (wp_cond_false (show Act.eval _ _ = .bool false from rfl) (wp_skip (then_normal (wp_seq (wp_region_P [0, 1] [.k 30 (.string s), .k 2 (.string s)] [(2, 1, 1, 3), (27, 0, 1, 28)] hst26 fun W28 hst28 => ?_)))))
  refine then_normal (wp_ret ?_)
  refine bodyPost_ret (v := .string s) (results_tmp Tryd.results27 rfl) rfl ?_
  exact Ret.of (by rw [hG, show fs = false by assumption, show m = 0 by assumption, digG_end]) hst28.ext
end
end Go.Proofs.YtjnplglnnamfdaaDoor
namespace Go.Proofs.YtjnplglnnamfdaaDoor
section
open Go.RowKit
set_option linter.unusedVariables false
set_option linter.unusedSimpArgs false
section
variable (hi : Int) (ls own : List Int) (g : Int → Int)
end
set_option maxRecDepth 100000 in
set_option maxHeartbeats 2000000 in
theorem ton_any (x : Int) (w : World) :
    Calls Tryd.prog 88 #[.int .i64 x] w (Ret (.bool (onF x)) w) := by
  go_enter Tryd.func88, Tryd.ntmps88
  have hst0 := St.start w
  refine wp_seq (wp_region_P [0] [.k 2 (.bool false)] [(2, 0, 1, 3)] hst0 fun W1 hst1 => ?_)
  refine then_normal (wp_seq (wp_region_P [0, 1, 3, 7, 15, 31, 63] [.k 3 (vi x), .k 4 (.bool (decide (3 ≤ x))), .k 5 (.bool (decide (3 ≤ x))), .z 6 (decide (3 ≤ x)) (vi x), .z 7 (decide (3 ≤ x)) (.bool (decide (x < 128))), tA 8 (decide (3 ≤ x)) (decide (x < 128)), .k 2 (.bool ((decide (3 ≤ x)) && (decide (x < 128))))] [(2, 6, 1, 3), (0, 0, 6, 6)] hst1 fun W2 hst2 => ?_))
  refine then_normal (wp_ret ?_)
  refine bodyPost_ret (v := .bool ((decide (3 ≤ x)) && (decide (x < 128)))) (results_tmp Tryd.results88 rfl) rfl ?_
  exact Ret.bool (by simp [onF, *]) hst2.ext
end
end Go.Proofs.YtjnplglnnamfdaaDoor
namespace Go.Proofs.YtjnplglnnamfdaaDoor
section
open Go.RowKit
set_option linter.unusedVariables false
set_option linter.unusedSimpArgs false
theorem cut_len (ls : List Int) (k : Nat) : ∃ m : Nat, min (ls.length : Int) (k : Int) = (m : Int) ∧ ls.take m = ls.take k ∧ m ≤ ls.length ∧ m = (ls.take k).length := by
  refine ⟨min ls.length k, by omega, ?_, by omega, by rw [List.length_take]; omega⟩
  rcases Nat.le_total k ls.length with h | h
  · rw [Nat.min_eq_right h]
  · rw [Nat.min_eq_left h, List.take_length, List.take_of_length_le h]
set_option maxRecDepth 100000 in
set_option maxHeartbeats 2000000 in
theorem made02_any (n : Int) (LA : Option Addr) (lc : Nat) (l : List Int) (w : World) (hA : At w LA (l.map (Value.int .i64))) (hn : 0 ≤ n ∧ n ≤ 6) (hll : l.length ≤ 1000000000000000) :
    Calls Tryd.prog 7 #[.int .i64 n, .slice LA l.length lc] w (RowPost (madeR n.toNat l) w) := by
  go_enter Tryd.func7, Tryd.ntmps7
  have hst0 := St.start w
  refine wp_seq (wp_region_P [0] [.k 4 (.slice none 0 0)] [(4, 0, 1, 5)] hst0 fun W1 hst1 => ?_)
  refine then_normal (wp_seq (wp_region_Y [0, 1] [] [[0]] [] [.a 8, .a 5] (fun ix σ β X => match ix with | 0 => σ 8 = .slice ((some ⟨(pb' (β 8)), 0, none⟩)) 0 0 ∧ X 0 = eO 82 3 (.slice ((some ⟨(pb' (β 8)), 0, none⟩)) 0 0) 0 ([]) | 1 => σ 5 = .slice ((some ⟨(pb' (β 8)), 0, none⟩)) 0 0 | _ => True) [0] [0, 1] [(5, 1, 1, 6), (2, 0, 1, 3)] hst1 ?_ ?_ ?_))
  · exact fun ix _ _ _ _ _ _ hs hb hx h => match ix, h with
    | 0, h => by dsimp only at h ⊢; rw [← hs 8 rfl, ← hb 8 rfl, ← hx 0 rfl]; exact h
    | 1, h => by dsimp only at h ⊢; rw [← hs 5 rfl, ← hb 8 rfl]; exact h
    | _ + 2, _ => trivial
  · refine ⟨?_, ?_, trivial⟩
    · refine sv_any rfl rfl fun ρ β W X cx => ?_
      exact dv_litN (e := 82) (sz := 3) (xs := []) rfl (by simp [go_sem]) rfl (by decide) rfl rfl (fun σ β' X' hs hb hv hx => ⟨hv, hx⟩)
    · exact sv rfl rfl rfl rfl rfl _ (fun _ _ _ h => h) (fun β β' h => by rw [h 8 (by decide)]) fun ρ β W X cx => run_assign' rfl (dTn (cx.an 0)).1
  intro σ β X W2 hD hst2 fr hfr
  obtain ⟨B8_2, hu_B8_2⟩ : ∃ z, pb' (β 8) = z := ⟨_, rfl⟩
  simp only [exq 0 ((dTn (hD 0 lq)).2), hu_B8_2] at hst2
  simp only [ed 8 ((dTn (hD 0 lq)).1), ed 5 ((dTn (hD 1 lq))), hu_B8_2] at hfr
  clear hD hu_B8_2; subst hfr; clear σ β X
  refine then_normal (wp_seq (wp_seq (wp_region_P [0] [.k 6 (vi 0)] [(6, 0, 1, 7)] hst2 fun W3 hst3 => ?_)))
  refine then_normal (wp_block ?_)
  refine wp_loopN (fun mz az W => ∃ k : Nat, ∃ A : Option Addr, ∃ c : Nat, ∃ u4_ : List Value, (k : Int) ≤ n ∧ n ≤ 6 ∧ mz = n.toNat - k ∧ az = ⟨#[vi n, .slice LA l.length lc, undef, undef, .slice none 0 0, .slice A k c, vi ((k : Int)), (gu u4_ 0), .slice ((some ⟨B8_2, 0, none⟩)) 0 0, (gu u4_ 1), (gu u4_ 2), (gu u4_ 3), (gu u4_ 4), (gu u4_ 5), (gu u4_ 6), (gu u4_ 7), (gu u4_ 8), (gu u4_ 9), (gu u4_ 10), (gu u4_ 11), (gu u4_ 12), (gu u4_ 13), (gu u4_ 14), (gu u4_ 15), (gu u4_ 16), (gu u4_ 17), (gu u4_ 18), (gu u4_ 19), (gu u4_ 20), (gu u4_ 21), (gu u4_ 22), (gu u4_ 23), (gu u4_ 24), (gu u4_ 25), (gu u4_ 26), (gu u4_ 27), (gu u4_ 28), (gu u4_ 29), (gu u4_ 30), (gu u4_ 31), (gu u4_ 32), (gu u4_ 33), (gu u4_ 34), (gu u4_ 35), (gu u4_ 36), (gu u4_ 37), (gu u4_ 38), (gu u4_ 39), (gu u4_ 40), (gu u4_ 41), (gu u4_ 42), (gu u4_ 43), (gu u4_ 44), (gu u4_ 45), (gu u4_ 46), (gu u4_ 47), (gu u4_ 48), (gu u4_ 49), undef], []⟩ ∧ St w [] [eO 82 3 (.slice A k c) k (flatR (madeR k l))] W) (n.toNat - 0) ?_ ?_
  · -- the loop begins
    have hp5 := hst3.pick [0] (by decide) rfl
    exact ⟨0, (some ⟨B8_2, 0, none⟩), 0, [undef, undef, undef, undef, undef, undef, undef, undef, undef, undef, undef, undef, undef, undef, undef, undef, undef, undef, undef, undef, undef, undef, undef, undef, undef, undef, undef, undef, undef, undef, undef, undef, undef, undef, undef, undef, undef, undef, undef, undef, undef, undef, undef, undef, undef, undef, undef, undef, undef, undef], by omega, by omega, rfl, rfl, hp5⟩
  rintro n4 a4 W4 ⟨k, A, c, u4_, hk, hn3, rfl, rfl, hst4⟩
  refine wp_seq (wp_seq (wp_region_P [0, 0, 3] [.k 9 (vi ((k : Int))), .k 10 (vi n), .k 11 (.bool (decide ((k : Int) < n)))] [(9, 0, 3, 12)] hst4 fun W6 hst6 => ?_))
  refine then_normal ?_
  rcases Bool.eq_false_or_eq_true (decide ((k : Int) < n)) with hs7 | hs7
  · skip
    have hs7p : (k : Int) < n := by simpa using hs7
    refine wp_cond_true (show Act.eval _ _ = .bool true from (congrArg Value.bool hs7)) (wp_skip (then_normal (wp_seq (wp_block (wp_seq (wp_region_P [0] [.k 7 (vi 0)] [(7, 0, 1, 8)] hst6 fun W8 hst8 => ?_))))))
    refine then_normal (wp_seq (wp_seq (wp_region_P [0, 0, 2, 7] [.k 14 (vi ((k : Int))), .k 15 (.slice LA l.length lc), .k 16 (vi ((l.length : Int))), .k 17 (.bool (decide ((k : Int) < (l.length : Int))))] [(14, 0, 4, 18)] hst8 fun W9 hst9 => ?_)))
    refine then_normal ?_
    rcases Bool.eq_false_or_eq_true (decide ((k : Int) < (l.length : Int))) with hs10 | hs10
    · skip
      have hs10p : (k : Int) < (l.length : Int) := by simpa using hs10
      refine wp_cond_true (show Act.eval _ _ = .bool true from (congrArg Value.bool hs10)) (wp_region_Z [0, 0, 3, 7, 15, 31] [] [.k 18 (.slice LA l.length lc), .k 19 (vi ((k : Int))), .c 20 (.pointer (some ((ad LA).add k))), .c 21 (vi (l.getD k 0)), tAn 22 .i64 (l.getD k 0) 65535 ((l.getD k 0) % 65536) (bits_mask (l.getD k 0) 16 (by decide)), .k 7 (vi ((l.getD k 0) % 65536))] [0] [2, 3] [(7, 5, 1, 8), (10, 0, 5, 15)] hst9 ?_ fun W11 hst11 => ?_)
      · refine ⟨?_, ?_, trivial⟩
        · exact xs4 rfl id fun cx => run_indexSl (e := 3) (m := k) rfl (by kernel_rfl) (by kernel_rfl) (cx.an 0) (cx.an 1) (by omega) (by omega) (hA.ext cx.upd.to_ext) (by simp)
        · exact xs4 rfl id fun cx => run_load1 rfl (by kernel_rfl) (cx.an 2) (At.cellAd (hA.ext cx.upd.to_ext) (getD_int (by omega)))
      refine then_normal (wp_seq (wp_region_P [0, 1] [.k 23 (vi ((l.getD k 0) % 65536)), tRe 24 .i64 ((l.getD k 0) % 65536) 5 (((l.getD k 0) % 65536) % 5) (Int.tmod_eq_emod_of_nonneg (by omega))] [(23, 0, 2, 25)] hst11 fun W12 hst12 => ?_))
      refine then_normal (wp_block (wp_seq (wp_region_P [0, 1] [.k 34 (.bool ((((l.getD k 0) % 65536) % 5) == 0)), .k 33 (.bool ((((l.getD k 0) % 65536) % 5) == 0))] [(33, 1, 1, 34), (0, 0, 1, 1)] hst12 fun W13 hst13 => ?_)))
      refine then_normal ?_
      rcases Bool.eq_false_or_eq_true ((((l.getD k 0) % 65536) % 5) == 0) with hs14 | hs14
      · skip
        have hs14p : (((l.getD k 0) % 65536) % 5) = 0 := by simpa using hs14
        refine wp_cond_true (show Act.eval _ _ = .bool true from (congrArg Value.bool hs14)) (wp_region_Y [0, 0, 2, 7, 15] [[], [], [], [1, 0]] [[], [], [1], [2]] [[], [], [], [0]] [.k 35 (.slice A k c), .k 36 (.agg #[vi 0, vi 0, .string ByteArray.empty]), .a 37, .a 38, .a 5] (fun ix σ β X => match ix with | 0 => True | 1 => True | 2 => σ 37 = .slice ((some ⟨(pb' (β 37)), 0, none⟩)) 1 1 ∧ X 1 = eO 82 3 (.slice ((some ⟨(pb' (β 37)), 0, none⟩)) 1 1) 1 ([vi 0, vi 0, .string ByteArray.empty]) | 3 => σ 38 = .slice (sA (β 38)) (k + 1) (sC (β 38)) ∧ X 2 = eO 82 3 (.slice (sA (β 38)) (k + 1) (sC (β 38))) (k + 1) (flatR (madeR (k + 1) l)) | 4 => σ 5 = .slice (sA (β 38)) (k + 1) (sC (β 38)) | _ => True) [1, 2] [2, 3, 4] [(5, 4, 1, 6), (29, 0, 4, 33)] hst13 ?_ ?_ ?_)
        · exact fun ix _ _ _ _ _ _ hs hb hx h => match ix, h with
          | 2, h => by dsimp only at h ⊢; rw [← hs 37 rfl, ← hb 37 rfl, ← hx 1 rfl]; exact h
          | 3, h => by dsimp only at h ⊢; rw [← hs 38 rfl, ← hb 38 rfl, ← hx 2 rfl]; exact h
          | 4, h => by dsimp only at h ⊢; rw [← hs 5 rfl, ← hb 38 rfl]; exact h
          | 0, _ | 1, _ | _ + 5, _ => trivial
        · refine ⟨?_, ?_, ?_, trivial⟩
          · refine sv_any rfl rfl fun ρ β W X cx => ?_
            have fF36 : ρ (.tmp 36) = .agg #[vi 0, vi 0, .string ByteArray.empty] := (cx.an 1)
            exact dv_litN (e := 82) (sz := 3) (xs := [vi 0, vi 0, .string ByteArray.empty]) rfl (by simp [go_sem, fF36]) rfl (by decide) rfl rfl (fun σ β' X' hs hb hv hx => ⟨hv, hx⟩)
          · refine sv_any rfl rfl fun ρ β W X cx => ?_
            obtain ⟨i0, hi0, hz0, hz1, hz2⟩ := info_parts Tryd.infoVal
            refine dv_appendN (n := k) (m := 1) (nm := k + 1) (sz := 3) (xs := flatR (madeR k l)) (news := [vi 0, vi 0, .string ByteArray.empty]) (xs' := flatR (madeR (k + 1) l)) rfl (ty := 33) rfl (by kernel_rfl) hi0 hz0 hz1 hz2 rfl (by decide) (cx.an 0) cx (cx.init 0 _ rfl) rfl (dTn (cx.an 2)).1 (rfl) (At.of_ownN (cx.row (dTn (cx.an 2)).2 rfl)) (by simp [Value.oneCell']) (by simp only [maxLen]; omega) (by omega) rfl rfl rfl (by omega) (by rw [madeR_succ, flatR_snoc]; simp_all [valF, cellsV]) (fun σ β' X' hs hb hv hx => ?_)
            exact ⟨hv, hx⟩
          · exact sv rfl rfl rfl rfl rfl _ (fun _ _ _ h => h) (fun β β' h => by rw [h 38 (by decide)]) fun ρ β W X cx => run_assign' rfl (dTn (cx.an 3)).1
        intro σ β X W15 hD hst15 fr hfr
        obtain ⟨B37_15, hu_B37_15⟩ : ∃ z, pb' (β 37) = z := ⟨_, rfl⟩
        obtain ⟨A38_15, hu_A38_15⟩ : ∃ z, sA (β 38) = z := ⟨_, rfl⟩
        obtain ⟨c38_15, hu_c38_15⟩ : ∃ z, sC (β 38) = z := ⟨_, rfl⟩
        simp only [exq 1 ((dTn (hD 2 lq)).2), exq 2 ((dTn (hD 3 lq)).2), hu_B37_15, hu_A38_15, hu_c38_15] at hst15
        simp only [ed 37 ((dTn (hD 2 lq)).1), ed 38 ((dTn (hD 3 lq)).1), ed 5 ((dTn (hD 4 lq))), hu_B37_15, hu_A38_15, hu_c38_15] at hfr
        clear hD hu_B37_15 hu_A38_15 hu_c38_15; subst hfr; clear σ β X
        refine blk_normal (blk_normal (then_normal (wp_region_P [0, 1, 3] [.k 12 (vi ((k : Int))), tI 13 ((k : Int) + 1) (by omega), .k 6 (vi ((k : Int) + 1))] [(6, 2, 1, 7), (5, 0, 2, 7)] hst15 fun W16 hst16 => ?_)))
        refine then_normal ?_
        refine ⟨n.toNat - ((k + 1)), by omega, ?_⟩
        have hp17 := hst16.pick [1] (by decide) rfl
        exact ⟨(k + 1), A38_15, c38_15, [vi ((l.getD k 0) % 65536), vi ((k : Int)), vi n, .bool (decide ((k : Int) < n)), vi ((k : Int)), vi ((k : Int) + 1), vi ((k : Int)), .slice LA l.length lc, vi ((l.length : Int)), .bool (decide ((k : Int) < (l.length : Int))), .slice LA l.length lc, vi ((k : Int)), .pointer (some ((ad LA).add k)), vi (l.getD k 0), vi ((l.getD k 0) % 65536), vi ((l.getD k 0) % 65536), vi (((l.getD k 0) % 65536) % 5), (gu u4_ 17), (gu u4_ 18), (gu u4_ 19), (gu u4_ 20), (gu u4_ 21), (gu u4_ 22), (gu u4_ 23), (gu u4_ 24), .bool ((((l.getD k 0) % 65536) % 5) == 0), .bool ((((l.getD k 0) % 65536) % 5) == 0), .slice A k c, .agg #[vi 0, vi 0, .string ByteArray.empty], .slice ((some ⟨B37_15, 0, none⟩)) 1 1, .slice A38_15 (k + 1) c38_15, (gu u4_ 31), (gu u4_ 32), (gu u4_ 33), (gu u4_ 34), (gu u4_ 35), (gu u4_ 36), (gu u4_ 37), (gu u4_ 38), (gu u4_ 39), (gu u4_ 40), (gu u4_ 41), (gu u4_ 42), (gu u4_ 43), (gu u4_ 44), (gu u4_ 45), (gu u4_ 46), (gu u4_ 47), (gu u4_ 48), (gu u4_ 49)], by omega, hn3, rfl, rfl, hp17⟩
      have hs14p : (((l.getD k 0) % 65536) % 5) ≠ 0 := by simpa using hs14
      refine wp_cond_false (show Act.eval _ _ = .bool false from (congrArg Value.bool hs14)) (wp_seq (wp_region_P [0, 1] [.k 40 (.bool ((((l.getD k 0) % 65536) % 5) == 1)), .k 39 (.bool ((((l.getD k 0) % 65536) % 5) == 1))] [(39, 1, 1, 40), (0, 0, 1, 1)] hst13 fun W18 hst18 => ?_))
      refine then_normal ?_
      rcases Bool.eq_false_or_eq_true ((((l.getD k 0) % 65536) % 5) == 1) with hs19 | hs19
      · skip
        have hs19p : (((l.getD k 0) % 65536) % 5) = 1 := by simpa using hs19
        refine wp_cond_true (show Act.eval _ _ = .bool true from (congrArg Value.bool hs19)) (wp_region_Y [0, 0, 2, 6, 14, 30, 62, 127, 255] [[], [], [], [], [], [], [], [1, 0]] [[], [], [], [], [], [], [1], [2]] [[], [], [], [], [], [], [], [0]] [.k 41 (.slice A k c), .k 42 (vi ((l.getD k 0) % 65536)), tQu 43 .i64 ((l.getD k 0) % 65536) 5 (((l.getD k 0) % 65536) / 5) (by rw [Int.tdiv_eq_ediv_of_nonneg (by omega)]; exact IntWalk.i64_in _ (by omega)), tRe 44 .i64 (((l.getD k 0) % 65536) / 5) 4 ((((l.getD k 0) % 65536) / 5) % 4) (Int.tmod_eq_emod_of_nonneg (by omega)), .c 45 (.string (((⟨#[97, 98, 99]⟩ : ByteArray)).extract 0 (((((l.getD k 0) % 65536) / 5) % 4).toNat))), .k 46 (.agg #[vi 2, vi 0, .string (((⟨#[97, 98, 99]⟩ : ByteArray)).extract 0 (((((l.getD k 0) % 65536) / 5) % 4).toNat))]), .a 47, .a 48, .a 5] (fun ix σ β X => match ix with | 0 => True | 1 => True | 2 => True | 3 => True | 4 => True | 5 => True | 6 => σ 47 = .slice ((some ⟨(pb' (β 47)), 0, none⟩)) 1 1 ∧ X 1 = eO 82 3 (.slice ((some ⟨(pb' (β 47)), 0, none⟩)) 1 1) 1 ([vi 2, vi 0, .string (((⟨#[97, 98, 99]⟩ : ByteArray)).extract 0 (((((l.getD k 0) % 65536) / 5) % 4).toNat))]) | 7 => σ 48 = .slice (sA (β 48)) (k + 1) (sC (β 48)) ∧ X 2 = eO 82 3 (.slice (sA (β 48)) (k + 1) (sC (β 48))) (k + 1) (flatR (madeR (k + 1) l)) | 8 => σ 5 = .slice (sA (β 48)) (k + 1) (sC (β 48)) | _ => True) [1, 2] [4, 6, 7, 8] [(5, 8, 1, 6), (35, 0, 8, 43)] hst18 ?_ ?_ ?_)
        · exact fun ix _ _ _ _ _ _ hs hb hx h => match ix, h with
          | 6, h => by dsimp only at h ⊢; rw [← hs 47 rfl, ← hb 47 rfl, ← hx 1 rfl]; exact h
          | 7, h => by dsimp only at h ⊢; rw [← hs 48 rfl, ← hb 48 rfl, ← hx 2 rfl]; exact h
          | 8, h => by dsimp only at h ⊢; rw [← hs 5 rfl, ← hb 48 rfl]; exact h
          | 0, _ | 1, _ | 2, _ | 3, _ | 4, _ | 5, _ | _ + 9, _ => trivial
        · refine ⟨?_, ?_, ?_, ?_, trivial⟩
          · exact xs4 rfl id fun cx => run_slice_hi (l := ((((l.getD k 0) % 65536) / 5) % 4).toNat) rfl (by kernel_rfl) (cx.co _) (cx.an 3) (by omega) (by first | omega | (show _ ≤ 3; omega))
          · refine sv_any rfl rfl fun ρ β W X cx => ?_
            have fF46 : ρ (.tmp 46) = .agg #[vi 2, vi 0, .string (((⟨#[97, 98, 99]⟩ : ByteArray)).extract 0 (((((l.getD k 0) % 65536) / 5) % 4).toNat))] := (cx.an 5)
            exact dv_litN (e := 82) (sz := 3) (xs := [vi 2, vi 0, .string (((⟨#[97, 98, 99]⟩ : ByteArray)).extract 0 (((((l.getD k 0) % 65536) / 5) % 4).toNat))]) rfl (by simp [go_sem, fF46]) rfl (by decide) rfl rfl (fun σ β' X' hs hb hv hx => ⟨hv, hx⟩)
          · refine sv_any rfl rfl fun ρ β W X cx => ?_
            obtain ⟨i0, hi0, hz0, hz1, hz2⟩ := info_parts Tryd.infoVal
            refine dv_appendN (n := k) (m := 1) (nm := k + 1) (sz := 3) (xs := flatR (madeR k l)) (news := [vi 2, vi 0, .string (((⟨#[97, 98, 99]⟩ : ByteArray)).extract 0 (((((l.getD k 0) % 65536) / 5) % 4).toNat))]) (xs' := flatR (madeR (k + 1) l)) rfl (ty := 33) rfl (by kernel_rfl) hi0 hz0 hz1 hz2 rfl (by decide) (cx.an 0) cx (cx.init 0 _ rfl) rfl (dTn (cx.an 6)).1 (rfl) (At.of_ownN (cx.row (dTn (cx.an 6)).2 rfl)) (by simp [Value.oneCell']) (by simp only [maxLen]; omega) (by omega) rfl rfl rfl (by omega) (by rw [madeR_succ, flatR_snoc]; simp_all [valF, cellsV]) (fun σ β' X' hs hb hv hx => ?_)
            exact ⟨hv, hx⟩
          · exact sv rfl rfl rfl rfl rfl _ (fun _ _ _ h => h) (fun β β' h => by rw [h 48 (by decide)]) fun ρ β W X cx => run_assign' rfl (dTn (cx.an 7)).1
        intro σ β X W20 hD hst20 fr hfr
        obtain ⟨B47_20, hu_B47_20⟩ : ∃ z, pb' (β 47) = z := ⟨_, rfl⟩
        obtain ⟨A48_20, hu_A48_20⟩ : ∃ z, sA (β 48) = z := ⟨_, rfl⟩
        obtain ⟨c48_20, hu_c48_20⟩ : ∃ z, sC (β 48) = z := ⟨_, rfl⟩
        simp only [exq 1 ((dTn (hD 6 lq)).2), exq 2 ((dTn (hD 7 lq)).2), hu_B47_20, hu_A48_20, hu_c48_20] at hst20
        simp only [ed 47 ((dTn (hD 6 lq)).1), ed 48 ((dTn (hD 7 lq)).1), ed 5 ((dTn (hD 8 lq))), hu_B47_20, hu_A48_20, hu_c48_20] at hfr
        clear hD hu_B47_20 hu_A48_20 hu_c48_20; subst hfr; clear σ β X
        refine blk_normal (blk_normal (then_normal (wp_region_P [0, 1, 3] [.k 12 (vi ((k : Int))), tI 13 ((k : Int) + 1) (by omega), .k 6 (vi ((k : Int) + 1))] [(6, 2, 1, 7), (5, 0, 2, 7)] hst20 fun W21 hst21 => ?_)))
        refine then_normal ?_
        refine ⟨n.toNat - ((k + 1)), by omega, ?_⟩
        have hp22 := hst21.pick [1] (by decide) rfl
        exact ⟨(k + 1), A48_20, c48_20, [vi ((l.getD k 0) % 65536), vi ((k : Int)), vi n, .bool (decide ((k : Int) < n)), vi ((k : Int)), vi ((k : Int) + 1), vi ((k : Int)), .slice LA l.length lc, vi ((l.length : Int)), .bool (decide ((k : Int) < (l.length : Int))), .slice LA l.length lc, vi ((k : Int)), .pointer (some ((ad LA).add k)), vi (l.getD k 0), vi ((l.getD k 0) % 65536), vi ((l.getD k 0) % 65536), vi (((l.getD k 0) % 65536) % 5), (gu u4_ 17), (gu u4_ 18), (gu u4_ 19), (gu u4_ 20), (gu u4_ 21), (gu u4_ 22), (gu u4_ 23), (gu u4_ 24), .bool ((((l.getD k 0) % 65536) % 5) == 0), .bool ((((l.getD k 0) % 65536) % 5) == 0), (gu u4_ 27), (gu u4_ 28), (gu u4_ 29), (gu u4_ 30), .bool ((((l.getD k 0) % 65536) % 5) == 1), .bool ((((l.getD k 0) % 65536) % 5) == 1), .slice A k c, vi ((l.getD k 0) % 65536), vi (((l.getD k 0) % 65536) / 5), vi ((((l.getD k 0) % 65536) / 5) % 4), .string (((⟨#[97, 98, 99]⟩ : ByteArray)).extract 0 (((((l.getD k 0) % 65536) / 5) % 4).toNat)), .agg #[vi 2, vi 0, .string (((⟨#[97, 98, 99]⟩ : ByteArray)).extract 0 (((((l.getD k 0) % 65536) / 5) % 4).toNat))], .slice ((some ⟨B47_20, 0, none⟩)) 1 1, .slice A48_20 (k + 1) c48_20, (gu u4_ 41), (gu u4_ 42), (gu u4_ 43), (gu u4_ 44), (gu u4_ 45), (gu u4_ 46), (gu u4_ 47), (gu u4_ 48), (gu u4_ 49)], by omega, hn3, rfl, rfl, hp22⟩
      have hs19p : (((l.getD k 0) % 65536) % 5) ≠ 1 := by simpa using hs19
      refine wp_cond_false (show Act.eval _ _ = .bool false from (congrArg Value.bool hs19)) (wp_seq (wp_region_P [0, 1] [.k 50 (.bool ((((l.getD k 0) % 65536) % 5) == 2)), .k 49 (.bool ((((l.getD k 0) % 65536) % 5) == 2))] [(49, 1, 1, 50), (0, 0, 1, 1)] hst18 fun W23 hst23 => ?_))
      refine then_normal ?_
      rcases Bool.eq_false_or_eq_true ((((l.getD k 0) % 65536) % 5) == 2) with hs24 | hs24
      · skip
        have hs24p : (((l.getD k 0) % 65536) % 5) = 2 := by simpa using hs24
        refine wp_cond_true (show Act.eval _ _ = .bool true from (congrArg Value.bool hs24)) (wp_region_Y [0, 0, 2, 6, 14, 30, 63, 127] [[], [], [], [], [], [], [1, 0]] [[], [], [], [], [], [1], [2]] [[], [], [], [], [], [], [0]] [.k 51 (.slice A k c), .k 52 (vi ((l.getD k 0) % 65536)), tQu 53 .i64 ((l.getD k 0) % 65536) 5 (((l.getD k 0) % 65536) / 5) (by rw [Int.tdiv_eq_ediv_of_nonneg (by omega)]; exact IntWalk.i64_in _ (by omega)), .c 54 (.string (digF (((l.getD k 0) % 65536) / 5))), .k 55 (.agg #[vi 2, vi 0, .string (digF (((l.getD k 0) % 65536) / 5))]), .a 56, .a 57, .a 5] (fun ix σ β X => match ix with | 0 => True | 1 => True | 2 => True | 3 => True | 4 => True | 5 => σ 56 = .slice ((some ⟨(pb' (β 56)), 0, none⟩)) 1 1 ∧ X 1 = eO 82 3 (.slice ((some ⟨(pb' (β 56)), 0, none⟩)) 1 1) 1 ([vi 2, vi 0, .string (digF (((l.getD k 0) % 65536) / 5))]) | 6 => σ 57 = .slice (sA (β 57)) (k + 1) (sC (β 57)) ∧ X 2 = eO 82 3 (.slice (sA (β 57)) (k + 1) (sC (β 57))) (k + 1) (flatR (madeR (k + 1) l)) | 7 => σ 5 = .slice (sA (β 57)) (k + 1) (sC (β 57)) | _ => True) [1, 2] [3, 5, 6, 7] [(5, 7, 1, 6), (45, 0, 7, 52)] hst23 ?_ ?_ ?_)
        · exact fun ix _ _ _ _ _ _ hs hb hx h => match ix, h with
          | 5, h => by dsimp only at h ⊢; rw [← hs 56 rfl, ← hb 56 rfl, ← hx 1 rfl]; exact h
          | 6, h => by dsimp only at h ⊢; rw [← hs 57 rfl, ← hb 57 rfl, ← hx 2 rfl]; exact h
          | 7, h => by dsimp only at h ⊢; rw [← hs 5 rfl, ← hb 57 rfl]; exact h
          | 0, _ | 1, _ | 2, _ | 3, _ | 4, _ | _ + 8, _ => trivial
        · refine ⟨?_, ?_, ?_, ?_, trivial⟩
          · exact xsc rfl id rfl rfl fun cx => ⟨_, dig_any (((l.getD k 0) % 65536) / 5) _ (by omega), (map1 (cx.an 2))⟩
          · refine sv_any rfl rfl fun ρ β W X cx => ?_
            have fF55 : ρ (.tmp 55) = .agg #[vi 2, vi 0, .string (digF (((l.getD k 0) % 65536) / 5))] := (cx.an 4)
            exact dv_litN (e := 82) (sz := 3) (xs := [vi 2, vi 0, .string (digF (((l.getD k 0) % 65536) / 5))]) rfl (by simp [go_sem, fF55]) rfl (by decide) rfl rfl (fun σ β' X' hs hb hv hx => ⟨hv, hx⟩)
          · refine sv_any rfl rfl fun ρ β W X cx => ?_
            obtain ⟨i0, hi0, hz0, hz1, hz2⟩ := info_parts Tryd.infoVal
            refine dv_appendN (n := k) (m := 1) (nm := k + 1) (sz := 3) (xs := flatR (madeR k l)) (news := [vi 2, vi 0, .string (digF (((l.getD k 0) % 65536) / 5))]) (xs' := flatR (madeR (k + 1) l)) rfl (ty := 33) rfl (by kernel_rfl) hi0 hz0 hz1 hz2 rfl (by decide) (cx.an 0) cx (cx.init 0 _ rfl) rfl (dTn (cx.an 5)).1 (rfl) (At.of_ownN (cx.row (dTn (cx.an 5)).2 rfl)) (by simp [Value.oneCell']) (by simp only [maxLen]; omega) (by omega) rfl rfl rfl (by omega) (by rw [madeR_succ, flatR_snoc]; simp_all [valF, cellsV]) (fun σ β' X' hs hb hv hx => ?_)
            exact ⟨hv, hx⟩
          · exact sv rfl rfl rfl rfl rfl _ (fun _ _ _ h => h) (fun β β' h => by rw [h 57 (by decide)]) fun ρ β W X cx => run_assign' rfl (dTn (cx.an 6)).1
        intro σ β X W25 hD hst25 fr hfr
        obtain ⟨B56_25, hu_B56_25⟩ : ∃ z, pb' (β 56) = z := ⟨_, rfl⟩
        obtain ⟨A57_25, hu_A57_25⟩ : ∃ z, sA (β 57) = z := ⟨_, rfl⟩
        obtain ⟨c57_25, hu_c57_25⟩ : ∃ z, sC (β 57) = z := ⟨_, rfl⟩
        simp only [exq 1 ((dTn (hD 5 lq)).2), exq 2 ((dTn (hD 6 lq)).2), hu_B56_25, hu_A57_25, hu_c57_25] at hst25
        simp only [ed 56 ((dTn (hD 5 lq)).1), ed 57 ((dTn (hD 6 lq)).1), ed 5 ((dTn (hD 7 lq))), hu_B56_25, hu_A57_25, hu_c57_25] at hfr
        clear hD hu_B56_25 hu_A57_25 hu_c57_25; subst hfr; clear σ β X
        refine blk_normal (blk_normal (then_normal (wp_region_P [0, 1, 3] [.k 12 (vi ((k : Int))), tI 13 ((k : Int) + 1) (by omega), .k 6 (vi ((k : Int) + 1))] [(6, 2, 1, 7), (5, 0, 2, 7)] hst25 fun W26 hst26 => ?_)))
        refine then_normal ?_
        refine ⟨n.toNat - ((k + 1)), by omega, ?_⟩
        have hp27 := hst26.pick [1] (by decide) rfl
        exact ⟨(k + 1), A57_25, c57_25, [vi ((l.getD k 0) % 65536), vi ((k : Int)), vi n, .bool (decide ((k : Int) < n)), vi ((k : Int)), vi ((k : Int) + 1), vi ((k : Int)), .slice LA l.length lc, vi ((l.length : Int)), .bool (decide ((k : Int) < (l.length : Int))), .slice LA l.length lc, vi ((k : Int)), .pointer (some ((ad LA).add k)), vi (l.getD k 0), vi ((l.getD k 0) % 65536), vi ((l.getD k 0) % 65536), vi (((l.getD k 0) % 65536) % 5), (gu u4_ 17), (gu u4_ 18), (gu u4_ 19), (gu u4_ 20), (gu u4_ 21), (gu u4_ 22), (gu u4_ 23), (gu u4_ 24), .bool ((((l.getD k 0) % 65536) % 5) == 0), .bool ((((l.getD k 0) % 65536) % 5) == 0), (gu u4_ 27), (gu u4_ 28), (gu u4_ 29), (gu u4_ 30), .bool ((((l.getD k 0) % 65536) % 5) == 1), .bool ((((l.getD k 0) % 65536) % 5) == 1), (gu u4_ 33), (gu u4_ 34), (gu u4_ 35), (gu u4_ 36), (gu u4_ 37), (gu u4_ 38), (gu u4_ 39), (gu u4_ 40), .bool ((((l.getD k 0) % 65536) % 5) == 2), .bool ((((l.getD k 0) % 65536) % 5) == 2), .slice A k c, vi ((l.getD k 0) % 65536), vi (((l.getD k 0) % 65536) / 5), .string (digF (((l.getD k 0) % 65536) / 5)), .agg #[vi 2, vi 0, .string (digF (((l.getD k 0) % 65536) / 5))], .slice ((some ⟨B56_25, 0, none⟩)) 1 1, .slice A57_25 (k + 1) c57_25], by omega, hn3, rfl, rfl, hp27⟩
      have hs24p : (((l.getD k 0) % 65536) % 5) ≠ 2 := by simpa using hs24
      refine wp_cond_false (show Act.eval _ _ = .bool false from (congrArg Value.bool hs24)) (wp_region_Y [0, 0, 2, 6, 14, 30, 62, 127, 255] [[], [], [], [], [], [], [], [1, 0]] [[], [], [], [], [], [], [1], [2]] [[], [], [], [], [], [], [], [0]] [.k 25 (.slice A k c), .k 26 (vi ((l.getD k 0) % 65536)), tQu 27 .i64 ((l.getD k 0) % 65536) 5 (((l.getD k 0) % 65536) / 5) (by rw [Int.tdiv_eq_ediv_of_nonneg (by omega)]; exact IntWalk.i64_in _ (by omega)), tRe 28 .i64 (((l.getD k 0) % 65536) / 5) 9 ((((l.getD k 0) % 65536) / 5) % 9) (Int.tmod_eq_emod_of_nonneg (by omega)), tI 29 (((((l.getD k 0) % 65536) / 5) % 9) - 2) (by omega), .k 30 (.agg #[vi 1, vi ((((l.getD k 0) % 65536) / 5) % 9 - 2), .string ByteArray.empty]), .a 31, .a 32, .a 5] (fun ix σ β X => match ix with | 0 => True | 1 => True | 2 => True | 3 => True | 4 => True | 5 => True | 6 => σ 31 = .slice ((some ⟨(pb' (β 31)), 0, none⟩)) 1 1 ∧ X 1 = eO 82 3 (.slice ((some ⟨(pb' (β 31)), 0, none⟩)) 1 1) 1 ([vi 1, vi ((((l.getD k 0) % 65536) / 5) % 9 - 2), .string ByteArray.empty]) | 7 => σ 32 = .slice (sA (β 32)) (k + 1) (sC (β 32)) ∧ X 2 = eO 82 3 (.slice (sA (β 32)) (k + 1) (sC (β 32))) (k + 1) (flatR (madeR (k + 1) l)) | 8 => σ 5 = .slice (sA (β 32)) (k + 1) (sC (β 32)) | _ => True) [1, 2] [6, 7, 8] [(5, 8, 1, 6), (19, 0, 8, 27)] hst23 ?_ ?_ ?_)
      · exact fun ix _ _ _ _ _ _ hs hb hx h => match ix, h with
        | 6, h => by dsimp only at h ⊢; rw [← hs 31 rfl, ← hb 31 rfl, ← hx 1 rfl]; exact h
        | 7, h => by dsimp only at h ⊢; rw [← hs 32 rfl, ← hb 32 rfl, ← hx 2 rfl]; exact h
        | 8, h => by dsimp only at h ⊢; rw [← hs 5 rfl, ← hb 32 rfl]; exact h
        | 0, _ | 1, _ | 2, _ | 3, _ | 4, _ | 5, _ | _ + 9, _ => trivial
      · refine ⟨?_, ?_, ?_, trivial⟩
        · refine sv_any rfl rfl fun ρ β W X cx => ?_
          have fF30 : ρ (.tmp 30) = .agg #[vi 1, vi ((((l.getD k 0) % 65536) / 5) % 9 - 2), .string ByteArray.empty] := (cx.an 5)
          exact dv_litN (e := 82) (sz := 3) (xs := [vi 1, vi ((((l.getD k 0) % 65536) / 5) % 9 - 2), .string ByteArray.empty]) rfl (by simp [go_sem, fF30]) rfl (by decide) rfl rfl (fun σ β' X' hs hb hv hx => ⟨hv, hx⟩)
        · refine sv_any rfl rfl fun ρ β W X cx => ?_
          obtain ⟨i0, hi0, hz0, hz1, hz2⟩ := info_parts Tryd.infoVal
          refine dv_appendN (n := k) (m := 1) (nm := k + 1) (sz := 3) (xs := flatR (madeR k l)) (news := [vi 1, vi ((((l.getD k 0) % 65536) / 5) % 9 - 2), .string ByteArray.empty]) (xs' := flatR (madeR (k + 1) l)) rfl (ty := 33) rfl (by kernel_rfl) hi0 hz0 hz1 hz2 rfl (by decide) (cx.an 0) cx (cx.init 0 _ rfl) rfl (dTn (cx.an 6)).1 (rfl) (At.of_ownN (cx.row (dTn (cx.an 6)).2 rfl)) (by simp [Value.oneCell']) (by simp only [maxLen]; omega) (by omega) rfl rfl rfl (by omega) (by rw [madeR_succ, flatR_snoc]; simp_all [valF, cellsV]) (fun σ β' X' hs hb hv hx => ?_)
          exact ⟨hv, hx⟩
        · exact sv rfl rfl rfl rfl rfl _ (fun _ _ _ h => h) (fun β β' h => by rw [h 32 (by decide)]) fun ρ β W X cx => run_assign' rfl (dTn (cx.an 7)).1
      intro σ β X W28 hD hst28 fr hfr
      obtain ⟨B31_28, hu_B31_28⟩ : ∃ z, pb' (β 31) = z := ⟨_, rfl⟩
      obtain ⟨A32_28, hu_A32_28⟩ : ∃ z, sA (β 32) = z := ⟨_, rfl⟩
      obtain ⟨c32_28, hu_c32_28⟩ : ∃ z, sC (β 32) = z := ⟨_, rfl⟩
      simp only [exq 1 ((dTn (hD 6 lq)).2), exq 2 ((dTn (hD 7 lq)).2), hu_B31_28, hu_A32_28, hu_c32_28] at hst28
      simp only [ed 31 ((dTn (hD 6 lq)).1), ed 32 ((dTn (hD 7 lq)).1), ed 5 ((dTn (hD 8 lq))), hu_B31_28, hu_A32_28, hu_c32_28] at hfr
      clear hD hu_B31_28 hu_A32_28 hu_c32_28; subst hfr; clear σ β X
      refine blk_normal (blk_normal (then_normal (wp_region_P [0, 1, 3] [.k 12 (vi ((k : Int))), tI 13 ((k : Int) + 1) (by omega), .k 6 (vi ((k : Int) + 1))] [(6, 2, 1, 7), (5, 0, 2, 7)] hst28 fun W29 hst29 => ?_)))
      refine then_normal ?_
      refine ⟨n.toNat - ((k + 1)), by omega, ?_⟩
      have hp30 := hst29.pick [1] (by decide) rfl
      exact ⟨(k + 1), A32_28, c32_28, [vi ((l.getD k 0) % 65536), vi ((k : Int)), vi n, .bool (decide ((k : Int) < n)), vi ((k : Int)), vi ((k : Int) + 1), vi ((k : Int)), .slice LA l.length lc, vi ((l.length : Int)), .bool (decide ((k : Int) < (l.length : Int))), .slice LA l.length lc, vi ((k : Int)), .pointer (some ((ad LA).add k)), vi (l.getD k 0), vi ((l.getD k 0) % 65536), vi ((l.getD k 0) % 65536), vi (((l.getD k 0) % 65536) % 5), .slice A k c, vi ((l.getD k 0) % 65536), vi (((l.getD k 0) % 65536) / 5), vi ((((l.getD k 0) % 65536) / 5) % 9), vi ((((l.getD k 0) % 65536) / 5) % 9 - 2), .agg #[vi 1, vi ((((l.getD k 0) % 65536) / 5) % 9 - 2), .string ByteArray.empty], .slice ((some ⟨B31_28, 0, none⟩)) 1 1, .slice A32_28 (k + 1) c32_28, .bool ((((l.getD k 0) % 65536) % 5) == 0), .bool ((((l.getD k 0) % 65536) % 5) == 0), (gu u4_ 27), (gu u4_ 28), (gu u4_ 29), (gu u4_ 30), .bool ((((l.getD k 0) % 65536) % 5) == 1), .bool ((((l.getD k 0) % 65536) % 5) == 1), (gu u4_ 33), (gu u4_ 34), (gu u4_ 35), (gu u4_ 36), (gu u4_ 37), (gu u4_ 38), (gu u4_ 39), (gu u4_ 40), .bool ((((l.getD k 0) % 65536) % 5) == 2), .bool ((((l.getD k 0) % 65536) % 5) == 2), (gu u4_ 43), (gu u4_ 44), (gu u4_ 45), (gu u4_ 46), (gu u4_ 47), (gu u4_ 48), (gu u4_ 49)], by omega, hn3, rfl, rfl, hp30⟩
    have hs10p : ¬ ((k : Int) < (l.length : Int)) := by simpa using hs10
    refine wp_cond_false (show Act.eval _ _ = .bool false from (congrArg Value.bool hs10)) (wp_skip (then_normal (wp_seq (wp_region_P [0, 1] [.k 23 (vi 0), tRe 24 .i64 0 5 0 (by decide)] [(23, 0, 2, 25)] hst9 fun W31 hst31 => ?_))))
    refine then_normal (wp_block (wp_seq (wp_region_P [0, 1] [.k 34 (.bool true), .k 33 (.bool true)] [(33, 1, 1, 34), (0, 0, 1, 1)] hst31 fun W32 hst32 => ?_)))
    refine then_normal (wp_cond_true (show Act.eval _ _ = .bool true from rfl) (wp_region_Y [0, 0, 2, 7, 15] [[], [], [], [1, 0]] [[], [], [1], [2]] [[], [], [], [0]] [.k 35 (.slice A k c), .k 36 (.agg #[vi 0, vi 0, .string ByteArray.empty]), .a 37, .a 38, .a 5] (fun ix σ β X => match ix with | 0 => True | 1 => True | 2 => σ 37 = .slice ((some ⟨(pb' (β 37)), 0, none⟩)) 1 1 ∧ X 1 = eO 82 3 (.slice ((some ⟨(pb' (β 37)), 0, none⟩)) 1 1) 1 ([vi 0, vi 0, .string ByteArray.empty]) | 3 => σ 38 = .slice (sA (β 38)) (k + 1) (sC (β 38)) ∧ X 2 = eO 82 3 (.slice (sA (β 38)) (k + 1) (sC (β 38))) (k + 1) (flatR (madeR (k + 1) l)) | 4 => σ 5 = .slice (sA (β 38)) (k + 1) (sC (β 38)) | _ => True) [1, 2] [2, 3, 4] [(5, 4, 1, 6), (29, 0, 4, 33)] hst32 ?_ ?_ ?_))
    · exact fun ix _ _ _ _ _ _ hs hb hx h => match ix, h with
      | 2, h => by dsimp only at h ⊢; rw [← hs 37 rfl, ← hb 37 rfl, ← hx 1 rfl]; exact h
      | 3, h => by dsimp only at h ⊢; rw [← hs 38 rfl, ← hb 38 rfl, ← hx 2 rfl]; exact h
      | 4, h => by dsimp only at h ⊢; rw [← hs 5 rfl, ← hb 38 rfl]; exact h
      | 0, _ | 1, _ | _ + 5, _ => trivial
    · refine ⟨?_, ?_, ?_, trivial⟩
      · refine sv_any rfl rfl fun ρ β W X cx => ?_
        have fF36 : ρ (.tmp 36) = .agg #[vi 0, vi 0, .string ByteArray.empty] := (cx.an 1)
        exact dv_litN (e := 82) (sz := 3) (xs := [vi 0, vi 0, .string ByteArray.empty]) rfl (by simp [go_sem, fF36]) rfl (by decide) rfl rfl (fun σ β' X' hs hb hv hx => ⟨hv, hx⟩)
      · refine sv_any rfl rfl fun ρ β W X cx => ?_
        obtain ⟨i0, hi0, hz0, hz1, hz2⟩ := info_parts Tryd.infoVal
        refine dv_appendN (n := k) (m := 1) (nm := k + 1) (sz := 3) (xs := flatR (madeR k l)) (news := [vi 0, vi 0, .string ByteArray.empty]) (xs' := flatR (madeR (k + 1) l)) rfl (ty := 33) rfl (by kernel_rfl) hi0 hz0 hz1 hz2 rfl (by decide) (cx.an 0) cx (cx.init 0 _ rfl) rfl (dTn (cx.an 2)).1 (rfl) (At.of_ownN (cx.row (dTn (cx.an 2)).2 rfl)) (by simp [Value.oneCell']) (by simp only [maxLen]; omega) (by omega) rfl rfl rfl (by omega) (by rw [madeR_succ, flatR_snoc]; simp_all [valF, cellsV]) (fun σ β' X' hs hb hv hx => ?_)
        exact ⟨hv, hx⟩
      · exact sv rfl rfl rfl rfl rfl _ (fun _ _ _ h => h) (fun β β' h => by rw [h 38 (by decide)]) fun ρ β W X cx => run_assign' rfl (dTn (cx.an 3)).1
    intro σ β X W33 hD hst33 fr hfr
    obtain ⟨B37_33, hu_B37_33⟩ : ∃ z, pb' (β 37) = z := ⟨_, rfl⟩
    obtain ⟨A38_33, hu_A38_33⟩ : ∃ z, sA (β 38) = z := ⟨_, rfl⟩
    obtain ⟨c38_33, hu_c38_33⟩ : ∃ z, sC (β 38) = z := ⟨_, rfl⟩
    simp only [exq 1 ((dTn (hD 2 lq)).2), exq 2 ((dTn (hD 3 lq)).2), hu_B37_33, hu_A38_33, hu_c38_33] at hst33
    simp only [ed 37 ((dTn (hD 2 lq)).1), ed 38 ((dTn (hD 3 lq)).1), ed 5 ((dTn (hD 4 lq))), hu_B37_33, hu_A38_33, hu_c38_33] at hfr
    clear hD hu_B37_33 hu_A38_33 hu_c38_33; subst hfr; clear σ β X
    refine blk_normal (blk_normal (then_normal (wp_region_P [0, 1, 3] [.k 12 (vi ((k : Int))), tI 13 ((k : Int) + 1) (by omega), .k 6 (vi ((k : Int) + 1))] [(6, 2, 1, 7), (5, 0, 2, 7)] hst33 fun W34 hst34 => ?_)))
    refine then_normal ?_
    refine ⟨n.toNat - ((k + 1)), by omega, ?_⟩
    have hp35 := hst34.pick [1] (by decide) rfl
    exact ⟨(k + 1), A38_33, c38_33, [vi 0, vi ((k : Int)), vi n, .bool (decide ((k : Int) < n)), vi ((k : Int)), vi ((k : Int) + 1), vi ((k : Int)), .slice LA l.length lc, vi ((l.length : Int)), .bool (decide ((k : Int) < (l.length : Int))), (gu u4_ 10), (gu u4_ 11), (gu u4_ 12), (gu u4_ 13), (gu u4_ 14), vi 0, vi 0, (gu u4_ 17), (gu u4_ 18), (gu u4_ 19), (gu u4_ 20), (gu u4_ 21), (gu u4_ 22), (gu u4_ 23), (gu u4_ 24), .bool true, .bool true, .slice A k c, .agg #[vi 0, vi 0, .string ByteArray.empty], .slice ((some ⟨B37_33, 0, none⟩)) 1 1, .slice A38_33 (k + 1) c38_33, (gu u4_ 31), (gu u4_ 32), (gu u4_ 33), (gu u4_ 34), (gu u4_ 35), (gu u4_ 36), (gu u4_ 37), (gu u4_ 38), (gu u4_ 39), (gu u4_ 40), (gu u4_ 41), (gu u4_ 42), (gu u4_ 43), (gu u4_ 44), (gu u4_ 45), (gu u4_ 46), (gu u4_ 47), (gu u4_ 48), (gu u4_ 49)], by omega, hn3, rfl, rfl, hp35⟩
  have hs7p : ¬ ((k : Int) < n) := by simpa using hs7
  refine wp_cond_false (show Act.eval _ _ = .bool false from (congrArg Value.bool hs7)) (wp_exit (then_exit (then_exit (blk_eq (then_normal (wp_seq (wp_region_P [0, 1] [.k 58 (.slice A k c), .k 4 (.slice A k c)] [(4, 1, 1, 5), (53, 0, 1, 54)] hst6 fun W36 hst36 => ?_)))))))
  refine then_normal (wp_ret ?_)
  refine bodyPost_ret (v := .slice A k c) (results_tmp Tryd.results7 rfl) rfl ?_
  exact ⟨_, _, by rw [madeR_len, show n.toNat = k by omega], by rw [madeR_len, show n.toNat = k by omega]; exact hst36.own' 0 rfl, hst36.ext⟩
end
end Go.Proofs.YtjnplglnnamfdaaDoor
namespace Go.Proofs.YtjnplglnnamfdaaDoor
section
open Go.RowKit
set_option linter.unusedVariables false
set_option linter.unusedSimpArgs false
def curL (s : List Int) (k : Nat) : List Int := (List.range 8).map fun i => if i < k then s.getD i 0 % 65536 else 0
def mk8 (s : List Int) : List Int := (List.range 8).map fun i => s.getD i 0 % 65536
theorem curL_len (s : List Int) (k : Nat) : (curL s k).length = 8 := by simp [curL]
theorem mk8_len (s : List Int) : (mk8 s).length = 8 := by simp [mk8]
theorem curL_set (s : List Int) (k : Nat) (h : k < 8) : (curL s k).set k (s.getD k 0 % 65536) = curL s (k + 1) := by
  apply List.ext_getElem
  · simp [curL]
  · intro i h1 h2
    simp only [curL, List.length_set, List.length_map, List.length_range] at h1
    rw [List.getElem_set]
    simp only [curL, List.getElem_map, List.getElem_range]
    by_cases e : k = i
    · subst e; simp
    · rw [if_neg e]
      by_cases h3 : i < k
      · rw [if_pos h3, if_pos (by omega)]
      · rw [if_neg h3, if_neg (by omega)]
theorem curL_end (s : List Int) (k : Nat) (h : 8 ≤ k ∨ s.length ≤ k) : curL s k = mk8 s := by
  apply List.ext_getElem
  · simp [curL, mk8]
  · intro i h1 h2
    simp only [curL, List.length_map, List.length_range] at h1
    simp only [curL, mk8, List.getElem_map, List.getElem_range]
    by_cases h3 : i < k
    · rw [if_pos h3]
    · have h4 : s.getD i 0 = 0 := by simp [show s.length ≤ i by omega]
      rw [if_neg h3, h4]; rfl
theorem mk8_bd (s : List Int) (i : Nat) : 0 ≤ (mk8 s).getD i 0 ∧ (mk8 s).getD i 0 ≤ 65535 := by
  rcases Nat.lt_or_ge i 8 with h | h
  · have e : (mk8 s).getD i 0 = s.getD i 0 % 65536 := by simp [mk8, h]
    rw [e]; omega
  · have e : (mk8 s).getD i 0 = 0 := by simp [mk8, h]
    rw [e]; omega
theorem At.drop8 {w : World} {A : Option Addr} {s : List Int} (h : At w A ((mk8 s).map (Value.int .i64))) : At w (if 8 = 4 then A else A.map (·.add (4 * 1))) (((mk8 s).drop 4).map (Value.int .i64)) := by
  have := h.drop 4 8 (by simp [mk8_len])
  rw [List.map_drop]
  exact this
def vminF (s : List Int) : Int := 2 + (mk8 s).getD 0 0 % 126
def vmaxF (s : List Int) : Int := if decide (0 < (mk8 s).getD 1 0 % 3) = true then 3 + (mk8 s).getD 1 0 / 3 % 125 else 0
def vpgF (s : List Int) : Int := if ((mk8 s).getD 2 0 % 2 == 1) = true then (mk8 s).getD 2 0 / 2 % 400 else -1
def vslF (s : List Int) : Int := if ((mk8 s).getD 2 0 % 2 == 1) = true then (mk8 s).getD 3 0 / 4 % 24 else 0
def vhotF (s : List Int) : Bool := (mk8 s).getD 2 0 % 3 == 1
def vrowF (s : List Int) : List Val := madeR ((mk8 s).getD 3 0 % 4).toNat ((mk8 s).drop 4)
def VerPost (s : List Int) (w : World) (e : Ending) (w' : World) : Prop := ∃ A c, e = .returned (.agg #[.int .i64 (vminF s), .int .i64 (vmaxF s), .int .i64 (vpgF s), .int .i64 (vslF s), .bool (vhotF s), .slice A (vrowF s).length c]) ∧
  w'.ownsRow w.heap.size 82 3 (.slice A (vrowF s).length c) (vrowF s).length (flatR (vrowF s)) ∧ Ext w w'
theorem VerPost.of {s : List Int} {w w' : World} {a b n1 n2 : Int} {ho : Bool} {rr : List Val} {A : Option Addr} {c : Nat} (ha : a = vminF s) (hb : b = vmaxF s) (h1 : n1 = vpgF s) (h2 : n2 = vslF s) (hh : ho = vhotF s) (hr : rr = vrowF s)
    (ho' : w'.ownsRow w.heap.size 82 3 (.slice A rr.length c) rr.length (flatR rr)) (hx : Ext w w') : VerPost s w (.returned (.agg #[.int .i64 a, .int .i64 b, .int .i64 n1, .int .i64 n2, .bool ho, .slice A rr.length c])) w' := by
  subst ha hb h1 h2 hh hr
  exact ⟨A, c, rfl, ho', hx⟩
set_option maxRecDepth 100000 in
set_option maxHeartbeats 2000000 in
theorem made08_any (LA : Option Addr) (lc : Nat) (s : List Int) (w : World) (hA : At w LA (s.map (Value.int .i64))) (hll : s.length ≤ 9223372036854775807) :
    Calls Tryd.prog 52 #[.slice LA s.length lc] w (VerPost s w) := by
  go_enter Tryd.func52, Tryd.ntmps52
  have hst0 := St.start w
  refine wp_seq (wp_region_Y [0] [] [[0]] [] [.a 2] (fun ix σ β X => match ix with | 0 => σ 2 = vp (pb (β 2)) ∧ X 0 = eB (pb (β 2)) 41 #[vi 0, vi 0, vi 0, vi 0, .bool false, .slice none 0 0] | _ => True) [0] [0] [(2, 0, 1, 3)] hst0 ?_ ?_ ?_)
  · exact fun ix _ _ _ _ _ _ hs hb hx h => match ix, h with
    | 0, h => by dsimp only at h ⊢; rw [← hs 2 rfl, ← hb 2 rfl, ← hx 0 rfl]; exact h
    | _ + 1, _ => trivial
  · refine ⟨?_, trivial⟩
    · refine sv_any rfl rfl fun ρ β W X cx => ?_
      exact dv_alloc (cs := #[vi 0, vi 0, vi 0, vi 0, .bool false, .slice none 0 0]) rfl (by kernel_rfl) rfl rfl (fun σ β' X' hs hb hv hx => ⟨hv, hx⟩)
  intro σ β X W1 hD hst1 fr hfr
  obtain ⟨B2_1, hu_B2_1⟩ : ∃ z, pb (β 2) = z := ⟨_, rfl⟩
  simp only [exq 0 ((dTn (hD 0 lq)).2), hu_B2_1] at hst1
  simp only [ed 2 ((dTn (hD 0 lq)).1), hu_B2_1] at hfr
  clear hD hu_B2_1; subst hfr; clear σ β X
  refine then_normal (wp_seq (wp_region_Y [0, 1] [] [[1]] [] [.a 6, .a 3] (fun ix σ β X => match ix with | 0 => σ 6 = .slice (sA (β 6)) 8 8 ∧ X 1 = eO 3 1 (.slice (sA (β 6)) 8 8) 8 ((List.replicate 8 (0 : Int)).map (Value.int .i64)) | 1 => σ 3 = .slice (sA (β 6)) 8 8 | _ => True) [0, 1] [0, 1] [(3, 1, 1, 4), (2, 0, 1, 3)] hst1 ?_ ?_ ?_))
  · exact fun ix _ _ _ _ _ _ hs hb hx h => match ix, h with
    | 0, h => by dsimp only at h ⊢; rw [← hs 6 rfl, ← hb 6 rfl, ← hx 1 rfl]; exact h
    | 1, h => by dsimp only at h ⊢; rw [← hs 3 rfl, ← hb 6 rfl]; exact h
    | _ + 2, _ => trivial
  · refine ⟨?_, ?_, trivial⟩
    · refine sv_any rfl rfl fun ρ β W X cx => ?_
      obtain ⟨i0, hi0, hz0, hz1, hz2⟩ := info_parts Tryd.infoInt
      exact dv_make (n := 8) rfl (by kernel_rfl) hi0 hz0 hz1 hz2 rfl (cx.co _) (cx.co _) (by omega) (by omega) (by omega) (by omega) rfl rfl (fun σ β' X' hs hb hv hx => ⟨hv, by rw [List.map_replicate]; exact hx⟩)
    · exact sv rfl rfl rfl rfl rfl _ (fun _ _ _ h => h) (fun β β' h => by rw [h 6 (by decide)]) fun ρ β W X cx => run_assign' rfl (dTn (cx.an 0)).1
  intro σ β X W2 hD hst2 fr hfr
  obtain ⟨A6_2, hu_A6_2⟩ : ∃ z, sA (β 6) = z := ⟨_, rfl⟩
  simp only [exq 1 ((dTn (hD 0 lq)).2), hu_A6_2] at hst2
  simp only [ed 6 ((dTn (hD 0 lq)).1), ed 3 ((dTn (hD 1 lq))), hu_A6_2] at hfr
  clear hD hu_A6_2; subst hfr; clear σ β X
  refine then_normal (wp_seq (wp_seq (wp_region_P [0] [.k 4 (vi 0)] [(4, 0, 1, 5)] hst2 fun W3 hst3 => ?_)))
  refine then_normal (wp_block ?_)
  refine wp_loopN (fun mz az W => ∃ k : Nat, ∃ u4_ : List Value, k ≤ 8 ∧ mz = 8 - k ∧ az = ⟨#[.slice LA s.length lc, undef, vp B2_1, .slice A6_2 8 8, vi ((k : Int)), undef, .slice A6_2 8 8, (gu u4_ 0), (gu u4_ 1), (gu u4_ 2), (gu u4_ 3), (gu u4_ 4), (gu u4_ 5), (gu u4_ 6), (gu u4_ 7), (gu u4_ 8), (gu u4_ 9), (gu u4_ 10), (gu u4_ 11), (gu u4_ 12), (gu u4_ 13), (gu u4_ 14), (gu u4_ 15), (gu u4_ 16), (gu u4_ 17), undef, undef, undef, undef, undef, undef, undef, undef, undef, undef, undef, undef, undef, undef, undef, undef, undef, undef, undef, undef, undef, undef, undef, undef, undef, undef, undef, undef, undef, undef, undef, undef, undef, undef, undef, undef, undef, undef, undef, undef, undef, undef, undef, undef, undef, undef, undef, undef, undef], []⟩ ∧ St w [] [eB B2_1 41 #[vi 0, vi 0, vi 0, vi 0, .bool false, .slice none 0 0], eO 3 1 (.slice A6_2 8 8) 8 ((curL s k).map (Value.int .i64))] W) (8 - 0) ?_ ?_
  · -- the loop begins
    have hp5 := hst3.pick [0, 1] (by decide) rfl
    exact ⟨0, [undef, undef, undef, undef, undef, undef, undef, undef, undef, undef, undef, undef, undef, undef, undef, undef, undef, undef], by omega, rfl, rfl, hp5⟩
  rintro n4 a4 W4 ⟨k, u4_, hk8, rfl, rfl, hst4⟩
  refine wp_seq (wp_seq (wp_region_P [0, 1, 3, 7, 7, 23, 63, 127] [.k 7 (vi ((k : Int))), .k 8 (.bool (decide ((k : Int) < 8))), .k 9 (.bool (decide ((k : Int) < 8))), .z 10 (decide ((k : Int) < 8)) (vi ((k : Int))), .z 11 (decide ((k : Int) < 8)) (.slice LA s.length lc), .z 12 (decide ((k : Int) < 8)) (vi ((s.length : Int))), .z 13 (decide ((k : Int) < 8)) (.bool (decide ((k : Int) < (s.length : Int)))), tA 14 (decide ((k : Int) < 8)) (decide ((k : Int) < (s.length : Int)))] [(7, 0, 8, 15)] hst4 fun W6 hst6 => ?_))
  refine then_normal ?_
  rcases Bool.eq_false_or_eq_true ((decide ((k : Int) < 8)) && (decide ((k : Int) < (s.length : Int)))) with hs7 | hs7
  · skip
    have hs7p := hs7
    simp only [zB] at hs7p
    obtain ⟨hs7p1, hs7p2⟩ := hs7p
    refine wp_cond_true (show Act.eval _ _ = .bool true from (congrArg Value.bool hs7)) (wp_skip (then_normal (wp_seq (wp_block (wp_region_Y [0, 0, 0, 0, 12, 28, 60, 127, 255] [[], [], [], [], [], [], [], [1], [1]] [[], [], [], [], [], [], [], [], [2]] [[], [], [], [], [], [], [], [], [1]] [.k 17 (.slice A6_2 8 8), .k 18 (vi ((k : Int))), .k 19 (.slice LA s.length lc), .k 20 (vi ((k : Int))), .c 21 (.pointer (some ((ad LA).add k))), .c 22 (vi (s.getD k 0)), tAn 23 .i64 (s.getD k 0) 65535 ((s.getD k 0) % 65536) (bits_mask (s.getD k 0) 16 (by decide)), .c 24 (.pointer (some ((ad A6_2).add k))), .n] (fun ix σ β X => match ix with | 0 => True | 1 => True | 2 => True | 3 => True | 4 => True | 5 => True | 6 => True | 7 => True | 8 => X 2 = eO 3 1 (.slice A6_2 8 8) 8 ((curL s (k + 1)).map (Value.int .i64)) | _ => True) [0, 2] [4, 5, 7, 8] [(17, 0, 8, 25)] hst6 ?_ ?_ ?_)))))
    · exact fun ix _ _ _ _ _ _ hs hb hx h => match ix, h with
      | 8, h => by dsimp only at h ⊢; rw [← hx 2 rfl]; exact h
      | 0, _ | 1, _ | 2, _ | 3, _ | 4, _ | 5, _ | 6, _ | 7, _ | _ + 9, _ => trivial
    · refine ⟨?_, ?_, ?_, ?_, trivial⟩
      · exact xs4 rfl id fun cx => run_indexSl (e := 3) (m := k) rfl (by kernel_rfl) (by kernel_rfl) (cx.an 2) (cx.an 3) (by omega) (by omega) (hA.ext cx.upd.to_ext) (by simp [mk8_len, curL_len])
      · exact xs4 rfl id fun cx => run_load1 rfl (by kernel_rfl) (cx.an 4) (At.cellAd (hA.ext cx.upd.to_ext) (getD_int (by omega)))
      · exact xs4 rfl id fun cx => run_indexSl (e := 3) (m := k) rfl (by kernel_rfl) (by kernel_rfl) (cx.an 0) (cx.an 1) (by omega) (by omega) (At.of_own (cx.ri 1 rfl)) (by simp [mk8_len, curL_len])
      · refine sv_any rfl rfl fun ρ β W X cx => ?_
        exact dv_storeRow (m := k) (n := 8) rfl (cx.an 7) (cx.an 6) (by kernel_rfl) rfl rfl cx (cx.init 1 _ rfl) rfl (by omega) rfl (by rw [← List.map_set, curL_set s k (by omega)]) rfl rfl (fun σ β' X' hs hb hx => hx)
    intro σ β X W8 hD hst8 fr hfr
    simp only [exq 2 ((dTn (hD 8 lq)))] at hst8
    clear hD; subst hfr; clear σ β X
    refine blk_normal (then_normal (wp_region_P [0, 1, 3] [.k 15 (vi ((k : Int))), tI 16 ((k : Int) + 1) (by omega), .k 4 (vi ((k : Int) + 1))] [(4, 2, 1, 5), (10, 0, 2, 12)] hst8 fun W9 hst9 => ?_))
    refine then_normal ?_
    refine ⟨8 - ((k + 1)), by omega, ?_⟩
    have hp10 := hst9.pick [0, 1] (by decide) rfl
    exact ⟨(k + 1), [vi ((k : Int)), .bool (decide ((k : Int) < 8)), .bool (decide ((k : Int) < 8)), mb (decide ((k : Int) < 8)) (vi ((k : Int))), mb (decide ((k : Int) < 8)) (.slice LA s.length lc), mb (decide ((k : Int) < 8)) (vi ((s.length : Int))), mb (decide ((k : Int) < 8)) (.bool (decide ((k : Int) < (s.length : Int)))), .bool ((decide ((k : Int) < 8)) && (decide ((k : Int) < (s.length : Int)))), vi ((k : Int)), vi ((k : Int) + 1), .slice A6_2 8 8, vi ((k : Int)), .slice LA s.length lc, vi ((k : Int)), .pointer (some ((ad LA).add k)), vi (s.getD k 0), vi ((s.getD k 0) % 65536), .pointer (some ((ad A6_2).add k))], by omega, rfl, rfl, hp10⟩
  have hs7p := hs7
  simp only [zB] at hs7p
  refine wp_cond_false (show Act.eval _ _ = .bool false from (congrArg Value.bool hs7)) (wp_exit (then_exit (then_exit (blk_eq (then_normal (wp_seq ?_))))))
  have hm8 := mk8_len s
  have hcur : curL s k = mk8 s := curL_end s k (by omega)
  rw [hcur] at hst6
  have hb0 := mk8_bd s 0
  have hb1 := mk8_bd s 1
  have hb2 := mk8_bd s 2
  have hb3 := mk8_bd s 3
  obtain ⟨rr, hrr⟩ : ∃ z, z = vrowF s := ⟨_, rfl⟩
  have HM := Lib.hid (fun (A : Option Addr) (c : Nat) (w : World) (h : At w A (((mk8 s).drop 4).map (Value.int .i64))) => made02_any ((mk8 s).getD 3 0 % 4) A c ((mk8 s).drop 4) w h (by omega) (by rw [List.length_drop, mk8_len]; omega))
  rw [show ((mk8 s).drop 4).length = 8 - 4 by rw [List.length_drop, mk8_len], show madeR ((mk8 s).getD 3 0 % 4).toNat ((mk8 s).drop 4) = rr from hrr.symm] at HM
  refine wp_region_Y [0, 1, 3, 7, 15, 0, 0, 64, 192, 448, 960, 0, 2048, 6144, 14336, 0, 32768, 129024, 262143, 0, 1048575] [[], [1], [1], [], [], [], [], [1], [1], [], [], [], [1], [1], [], [], [], [1], [], [], [3]] [[], [], [], [], [], [], [], [], [], [], [], [], [], [], [], [], [], [2], [], [3], [4]] [[], [], [], [], [], [], [], [], [], [], [], [], [], [], [], [], [], [], [], [], [3]] [.k 25 (.slice A6_2 8 8), .c 26 (.pointer (some ((ad A6_2).add 0))), .c 27 (vi (((mk8 s)).getD 0 0)), tRe 28 .i64 (((mk8 s)).getD 0 0) 126 ((((mk8 s)).getD 0 0) % 126) (Int.tmod_eq_emod_of_nonneg (by omega)), tI 29 (2 + ((((mk8 s)).getD 0 0) % 126)) (by omega), .k 30 (.agg #[vi (-1), vi 0]), .k 31 (.slice A6_2 8 8), .c 32 (.pointer (some ((ad A6_2).add 2))), .c 33 (vi (((mk8 s)).getD 2 0)), tRe 34 .i64 (((mk8 s)).getD 2 0) 3 ((((mk8 s)).getD 2 0) % 3) (Int.tmod_eq_emod_of_nonneg (by omega)), .k 35 (.bool (((((mk8 s)).getD 2 0) % 3) == 1)), .k 36 (.slice A6_2 8 8), .c 37 (.pointer (some ((ad A6_2).add 3))), .c 38 (vi (((mk8 s)).getD 3 0)), tRe 39 .i64 (((mk8 s)).getD 3 0) 4 ((((mk8 s)).getD 3 0) % 4) (Int.tmod_eq_emod_of_nonneg (by omega)), .k 40 (.slice A6_2 8 8), .c 41 (.slice ((if 8 = 4 then A6_2 else A6_2.map (·.add (4 * 1)))) ((8 - 4)) ((8 - 4))), .a 42, .a 43, .a 5, .n] (fun ix σ β X => match ix with | 0 => True | 1 => True | 2 => True | 3 => True | 4 => True | 5 => True | 6 => True | 7 => True | 8 => True | 9 => True | 10 => True | 11 => True | 12 => True | 13 => True | 14 => True | 15 => True | 16 => True | 17 => σ 42 = .slice (sA (β 42)) rr.length (sC (β 42)) ∧ X 2 = eO 82 3 (.slice (sA (β 42)) rr.length (sC (β 42))) rr.length (flatR rr) | 18 => σ 43 = .agg #[vi (2 + ((((mk8 s)).getD 0 0) % 126)), vi 0, vi (-1), vi 0, .bool (((((mk8 s)).getD 2 0) % 3) == 1), .slice (sA (β 42)) rr.length (sC (β 42))] | 19 => σ 5 = vp (pb (β 5)) ∧ X 3 = eB (pb (β 5)) 41 #[vi 0, vi 0, vi 0, vi 0, .bool false, .slice none 0 0] | 20 => X 4 = eB (pb (β 5)) 41 #[vi (2 + ((((mk8 s)).getD 0 0) % 126)), vi 0, vi (-1), vi 0, .bool (((((mk8 s)).getD 2 0) % 3) == 1), .slice (sA (β 42)) rr.length (sC (β 42))] | _ => True) [0, 1, 2, 4] [1, 2, 7, 8, 12, 13, 16, 17, 18, 19, 20] [(5, 19, 1, 6), (19, 0, 19, 38)] hst6 ?_ ?_ ?_
  · exact fun ix _ _ _ _ _ _ hs hb hx h => match ix, h with
    | 17, h => by dsimp only at h ⊢; rw [← hs 42 rfl, ← hb 42 rfl, ← hx 2 rfl]; exact h
    | 18, h => by dsimp only at h ⊢; rw [← hs 43 rfl, ← hb 42 rfl]; exact h
    | 19, h => by dsimp only at h ⊢; rw [← hs 5 rfl, ← hb 5 rfl, ← hx 3 rfl]; exact h
    | 20, h => by dsimp only at h ⊢; rw [← hb 5 rfl, ← hb 42 rfl, ← hx 4 rfl]; exact h
    | 0, _ | 1, _ | 2, _ | 3, _ | 4, _ | 5, _ | 6, _ | 7, _ | 8, _ | 9, _ | 10, _ | 11, _ | 12, _ | 13, _ | 14, _ | 15, _ | 16, _ | _ + 21, _ => trivial
  · refine ⟨?_, ?_, ?_, ?_, ?_, ?_, ?_, ?_, ?_, ?_, ?_, trivial⟩
    · exact xs4 rfl id fun cx => run_indexSl (e := 3) (m := 0) rfl (by kernel_rfl) (by kernel_rfl) (cx.an 0) (cx.co _) (by omega) (by omega) (At.of_own (cx.ri 1 rfl)) (by simp [mk8_len, curL_len])
    · exact xs4 rfl id fun cx => run_load1 rfl (by kernel_rfl) (cx.an 1) (At.cellAd (At.of_own (cx.ri 1 rfl)) (getD_int (by omega)))
    · exact xs4 rfl id fun cx => run_indexSl (e := 3) (m := 2) rfl (by kernel_rfl) (by kernel_rfl) (cx.an 6) (cx.co _) (by omega) (by omega) (At.of_own (cx.ri 1 rfl)) (by simp [mk8_len, curL_len])
    · exact xs4 rfl id fun cx => run_load1 rfl (by kernel_rfl) (cx.an 7) (At.cellAd (At.of_own (cx.ri 1 rfl)) (getD_int (by omega)))
    · exact xs4 rfl id fun cx => run_indexSl (e := 3) (m := 3) rfl (by kernel_rfl) (by kernel_rfl) (cx.an 11) (cx.co _) (by omega) (by omega) (At.of_own (cx.ri 1 rfl)) (by simp [mk8_len, curL_len])
    · exact xs4 rfl id fun cx => run_load1 rfl (by kernel_rfl) (cx.an 12) (At.cellAd (At.of_own (cx.ri 1 rfl)) (getD_int (by omega)))
    · exact xs4 rfl id fun cx => run_sliceL_lo (e := 3) (sz := 1) (l := 4) rfl (by kernel_rfl) (by kernel_rfl) (cx.an 15) (cx.co _) (by omega) (by omega)
    · refine sv_any rfl rfl fun ρ β W X cx => ?_
      refine DoesU.call (run_callF (args := #[vi ((((mk8 s)).getD 3 0) % 4), .slice ((if 8 = 4 then A6_2 else A6_2.map (·.add (4 * 1)))) ((8 - 4)) ((8 - 4))]) rfl cx.sees rfl (by kernel_rfl) (map2 (cx.an 14) (cx.an 16))) ?_
      refine (HM.out _ _ _ (At.drop8 (At.of_own (cx.ri 1 rfl)))).mono ?_
      rintro e W1 ⟨A4, c4, rfl, ho, hx⟩
      refine ⟨_, rfl, post_call [eO 82 3 (.slice A4 rr.length c4) rr.length (flatR rr)] rfl rfl hx (one_new (eO_new ho)) (List.pairwise_singleton _ _) (fun σ β' X' hs hb hv hN => ?_)⟩
      have hv1 := (hv 42 rfl).1; have hv2 := (hv 42 rfl).2
      exact ⟨hv1.trans (by rw [hv2]; rfl), (by rw [hv2]; exact (List.cons.inj hN).1)⟩
    · exact sv rfl rfl rfl rfl rfl _ (fun _ _ _ h => h) (fun β β' h => by rw [h 42 (by decide)]) fun ρ β W X cx => run_buildL rfl (pmc (cx.an 4) (pmc (cx.an 5) (pmc (cx.an 10) (pmc (dTn (cx.an 17)).1 pmn)))) (by kernel_rfl)
    · refine sv_any rfl rfl fun ρ β W X cx => ?_
      exact dv_alloc (cs := #[vi 0, vi 0, vi 0, vi 0, .bool false, .slice none 0 0]) rfl (by kernel_rfl) rfl rfl (fun σ β' X' hs hb hv hx => ⟨hv, hx⟩)
    · refine sv_any rfl rfl fun ρ β W X cx => ?_
      exact dv_store (n := 6) rfl (dTn (cx.an 19)).1 (dTn (cx.an 18)) (by kernel_rfl) (by kernel_rfl) (by kernel_rfl) cx (dTn (cx.an 19)).2 rfl (nle rfl) (by kernel_rfl) rfl rfl rfl (fun σ β' X' hs hb hx => by rw [hb 5, hb 42]; exact hx)
  intro σ β X W11 hD hst11 fr hfr
  obtain ⟨A42_11, hu_A42_11⟩ : ∃ z, sA (β 42) = z := ⟨_, rfl⟩
  obtain ⟨c42_11, hu_c42_11⟩ : ∃ z, sC (β 42) = z := ⟨_, rfl⟩
  obtain ⟨B5_11, hu_B5_11⟩ : ∃ z, pb (β 5) = z := ⟨_, rfl⟩
  simp only [exq 2 ((dTn (hD 17 lq)).2), exq 4 ((dTn (hD 20 lq))), hu_A42_11, hu_c42_11, hu_B5_11] at hst11
  simp only [ed 42 ((dTn (hD 17 lq)).1), ed 43 ((dTn (hD 18 lq))), ed 5 ((dTn (hD 19 lq)).1), hu_A42_11, hu_c42_11, hu_B5_11] at hfr
  clear hD hu_A42_11 hu_c42_11 hu_B5_11; subst hfr; clear σ β X
  refine then_normal (wp_seq (wp_seq (wp_region_Z [0, 1, 3, 7, 15] [[], [1], [1]] [.k 44 (.slice A6_2 8 8), .c 45 (.pointer (some ((ad A6_2).add 1))), .c 46 (vi (((mk8 s)).getD 1 0)), tRe 47 .i64 (((mk8 s)).getD 1 0) 3 ((((mk8 s)).getD 1 0) % 3) (Int.tmod_eq_emod_of_nonneg (by omega)), .k 48 (.bool (decide (0 < (((mk8 s)).getD 1 0) % 3)))] [0, 1, 2, 3] [1, 2] [(44, 0, 5, 49)] hst11 ?_ fun W12 hst12 => ?_)))
  · refine ⟨?_, ?_, trivial⟩
    · exact xs4 rfl id fun cx => run_indexSl (e := 3) (m := 1) rfl (by kernel_rfl) (by kernel_rfl) (cx.an 0) (cx.co _) (by omega) (by omega) (At.of_own (cx.ri 1 rfl)) (by simp [mk8_len, curL_len])
    · exact xs4 rfl id fun cx => run_load1 rfl (by kernel_rfl) (cx.an 1) (At.cellAd (At.of_own (cx.ri 1 rfl)) (getD_int (by omega)))
  refine then_normal ?_
  rcases Bool.eq_false_or_eq_true (decide (0 < (((mk8 s)).getD 1 0) % 3)) with hs13 | hs13
  · skip
    have hs13p : 0 < (((mk8 s)).getD 1 0) % 3 := by simpa using hs13
    refine wp_cond_true (show Act.eval _ _ = .bool true from (congrArg Value.bool hs13)) (wp_region_Y [0, 1, 3, 7, 15, 31, 63, 127] [[], [1], [1], [], [], [], [], [3]] [[], [], [], [], [], [], [], [4]] [[], [], [], [], [], [], [], [3]] [.k 49 (.slice A6_2 8 8), .c 50 (.pointer (some ((ad A6_2).add 1))), .c 51 (vi (((mk8 s)).getD 1 0)), tQu 52 .i64 (((mk8 s)).getD 1 0) 3 ((((mk8 s)).getD 1 0) / 3) (by rw [Int.tdiv_eq_ediv_of_nonneg (by omega)]; exact IntWalk.i64_in _ (by omega)), tRe 53 .i64 ((((mk8 s)).getD 1 0) / 3) 125 (((((mk8 s)).getD 1 0) / 3) % 125) (Int.tmod_eq_emod_of_nonneg (by omega)), tI 54 (3 + (((((mk8 s)).getD 1 0) / 3) % 125)) (by omega), .k 55 (.pointer (some ⟨B5_11, 1, none⟩)), .n] (fun ix σ β X => match ix with | 0 => True | 1 => True | 2 => True | 3 => True | 4 => True | 5 => True | 6 => True | 7 => X 4 = eB B5_11 41 #[vi (2 + ((((mk8 s)).getD 0 0) % 126)), vi (3 + (((((mk8 s)).getD 1 0) / 3) % 125)), vi (-1), vi 0, .bool (((((mk8 s)).getD 2 0) % 3) == 1), .slice A42_11 rr.length c42_11] | _ => True) [0, 1, 2, 4] [1, 2, 7] [(49, 0, 7, 56)] hst12 ?_ ?_ ?_)
    · exact fun ix _ _ _ _ _ _ hs hb hx h => match ix, h with
      | 7, h => by dsimp only at h ⊢; rw [← hx 4 rfl]; exact h
      | 0, _ | 1, _ | 2, _ | 3, _ | 4, _ | 5, _ | 6, _ | _ + 8, _ => trivial
    · refine ⟨?_, ?_, ?_, trivial⟩
      · exact xs4 rfl id fun cx => run_indexSl (e := 3) (m := 1) rfl (by kernel_rfl) (by kernel_rfl) (cx.an 0) (cx.co _) (by omega) (by omega) (At.of_own (cx.ri 1 rfl)) (by simp [mk8_len, curL_len])
      · exact xs4 rfl id fun cx => run_load1 rfl (by kernel_rfl) (cx.an 1) (At.cellAd (At.of_own (cx.ri 1 rfl)) (getD_int (by omega)))
      · refine sv_any rfl rfl fun ρ β W X cx => ?_
        exact dv_store (n := 1) rfl (cx.an 6) (cx.an 5) (by kernel_rfl) (by kernel_rfl) (by kernel_rfl) cx (cx.init 3 _ rfl) rfl (nle rfl) (by kernel_rfl) rfl rfl rfl (fun σ β' X' hs hb hx => hx)
    intro σ β X W14 hD hst14 fr hfr
    simp only [exq 4 ((dTn (hD 7 lq)))] at hst14
    clear hD; subst hfr; clear σ β X
    refine then_normal (wp_seq (wp_seq (wp_region_Z [0, 1, 3, 7, 15] [[], [1], [1]] [.k 56 (.slice A6_2 8 8), .c 57 (.pointer (some ((ad A6_2).add 2))), .c 58 (vi (((mk8 s)).getD 2 0)), tRe 59 .i64 (((mk8 s)).getD 2 0) 2 ((((mk8 s)).getD 2 0) % 2) (Int.tmod_eq_emod_of_nonneg (by omega)), .k 60 (.bool (((((mk8 s)).getD 2 0) % 2) == 1))] [0, 1, 2, 3] [1, 2] [(56, 0, 5, 61)] hst14 ?_ fun W15 hst15 => ?_)))
    · refine ⟨?_, ?_, trivial⟩
      · exact xs4 rfl id fun cx => run_indexSl (e := 3) (m := 2) rfl (by kernel_rfl) (by kernel_rfl) (cx.an 0) (cx.co _) (by omega) (by omega) (At.of_own (cx.ri 1 rfl)) (by simp [mk8_len, curL_len])
      · exact xs4 rfl id fun cx => run_load1 rfl (by kernel_rfl) (cx.an 1) (At.cellAd (At.of_own (cx.ri 1 rfl)) (getD_int (by omega)))
    refine then_normal ?_
    rcases Bool.eq_false_or_eq_true (((((mk8 s)).getD 2 0) % 2) == 1) with hs16 | hs16
    · skip
      have hs16p : ((((mk8 s)).getD 2 0) % 2) = 1 := by simpa using hs16
      refine wp_cond_true (show Act.eval _ _ = .bool true from (congrArg Value.bool hs16)) (wp_region_Y [0, 1, 3, 7, 15, 0, 32, 96, 224, 480, 1023, 2047, 4095] [[], [1], [1], [], [], [], [1], [1], [], [], [], [], [3]] [[], [], [], [], [], [], [], [], [], [], [], [], [4]] [[], [], [], [], [], [], [], [], [], [], [], [], [3]] [.k 61 (.slice A6_2 8 8), .c 62 (.pointer (some ((ad A6_2).add 2))), .c 63 (vi (((mk8 s)).getD 2 0)), tQu 64 .i64 (((mk8 s)).getD 2 0) 2 ((((mk8 s)).getD 2 0) / 2) (by rw [Int.tdiv_eq_ediv_of_nonneg (by omega)]; exact IntWalk.i64_in _ (by omega)), tRe 65 .i64 ((((mk8 s)).getD 2 0) / 2) 400 (((((mk8 s)).getD 2 0) / 2) % 400) (Int.tmod_eq_emod_of_nonneg (by omega)), .k 66 (.slice A6_2 8 8), .c 67 (.pointer (some ((ad A6_2).add 3))), .c 68 (vi (((mk8 s)).getD 3 0)), tQu 69 .i64 (((mk8 s)).getD 3 0) 4 ((((mk8 s)).getD 3 0) / 4) (by rw [Int.tdiv_eq_ediv_of_nonneg (by omega)]; exact IntWalk.i64_in _ (by omega)), tRe 70 .i64 ((((mk8 s)).getD 3 0) / 4) 24 (((((mk8 s)).getD 3 0) / 4) % 24) (Int.tmod_eq_emod_of_nonneg (by omega)), .k 71 (.agg #[vi (((((mk8 s)).getD 2 0) / 2) % 400), vi (((((mk8 s)).getD 3 0) / 4) % 24)]), .k 72 (.pointer (some ⟨B5_11, 2, none⟩)), .n] (fun ix σ β X => match ix with | 0 => True | 1 => True | 2 => True | 3 => True | 4 => True | 5 => True | 6 => True | 7 => True | 8 => True | 9 => True | 10 => True | 11 => True | 12 => X 4 = eB B5_11 41 #[vi (2 + ((((mk8 s)).getD 0 0) % 126)), vi (3 + (((((mk8 s)).getD 1 0) / 3) % 125)), vi (((((mk8 s)).getD 2 0) / 2) % 400), vi (((((mk8 s)).getD 3 0) / 4) % 24), .bool (((((mk8 s)).getD 2 0) % 3) == 1), .slice A42_11 rr.length c42_11] | _ => True) [0, 1, 2, 4] [1, 2, 6, 7, 12] [(61, 0, 12, 73)] hst15 ?_ ?_ ?_)
      · exact fun ix _ _ _ _ _ _ hs hb hx h => match ix, h with
        | 12, h => by dsimp only at h ⊢; rw [← hx 4 rfl]; exact h
        | 0, _ | 1, _ | 2, _ | 3, _ | 4, _ | 5, _ | 6, _ | 7, _ | 8, _ | 9, _ | 10, _ | 11, _ | _ + 13, _ => trivial
      · refine ⟨?_, ?_, ?_, ?_, ?_, trivial⟩
        · exact xs4 rfl id fun cx => run_indexSl (e := 3) (m := 2) rfl (by kernel_rfl) (by kernel_rfl) (cx.an 0) (cx.co _) (by omega) (by omega) (At.of_own (cx.ri 1 rfl)) (by simp [mk8_len, curL_len])
        · exact xs4 rfl id fun cx => run_load1 rfl (by kernel_rfl) (cx.an 1) (At.cellAd (At.of_own (cx.ri 1 rfl)) (getD_int (by omega)))
        · exact xs4 rfl id fun cx => run_indexSl (e := 3) (m := 3) rfl (by kernel_rfl) (by kernel_rfl) (cx.an 5) (cx.co _) (by omega) (by omega) (At.of_own (cx.ri 1 rfl)) (by simp [mk8_len, curL_len])
        · exact xs4 rfl id fun cx => run_load1 rfl (by kernel_rfl) (cx.an 6) (At.cellAd (At.of_own (cx.ri 1 rfl)) (getD_int (by omega)))
        · refine sv_any rfl rfl fun ρ β W X cx => ?_
          exact dv_store (n := 2) rfl (cx.an 11) (cx.an 10) (by kernel_rfl) (by kernel_rfl) (by kernel_rfl) cx (cx.init 3 _ rfl) rfl (nle rfl) (by kernel_rfl) rfl rfl rfl (fun σ β' X' hs hb hx => hx)
      intro σ β X W17 hD hst17 fr hfr
      simp only [exq 4 ((dTn (hD 12 lq)))] at hst17
      clear hD; subst hfr; clear σ β X
      refine then_normal (wp_seq (wp_region_Y [0, 1] [[3], [0]] [[], [4]] [[], [0]] [.c 73 (.agg #[vi (2 + ((((mk8 s)).getD 0 0) % 126)), vi (3 + (((((mk8 s)).getD 1 0) / 3) % 125)), vi (((((mk8 s)).getD 2 0) / 2) % 400), vi (((((mk8 s)).getD 3 0) / 4) % 24), .bool (((((mk8 s)).getD 2 0) % 3) == 1), .slice A42_11 rr.length c42_11]), .n] (fun ix σ β X => match ix with | 0 => True | 1 => X 4 = eB B2_1 41 #[vi (2 + ((((mk8 s)).getD 0 0) % 126)), vi (3 + (((((mk8 s)).getD 1 0) / 3) % 125)), vi (((((mk8 s)).getD 2 0) / 2) % 400), vi (((((mk8 s)).getD 3 0) / 4) % 24), .bool (((((mk8 s)).getD 2 0) % 3) == 1), .slice A42_11 rr.length c42_11] | _ => True) [1, 2, 3, 4] [0, 1] [(73, 0, 1, 74)] hst17 ?_ ?_ ?_))
      · exact fun ix _ _ _ _ _ _ hs hb hx h => match ix, h with
        | 1, h => by dsimp only at h ⊢; rw [← hx 4 rfl]; exact h
        | 0, _ | _ + 2, _ => trivial
      · refine ⟨?_, ?_, trivial⟩
        · exact xs4 rfl id fun cx => run_loadB (n := 6) rfl (by kernel_rfl) (by kernel_rfl) (cx.ou 5) (cx.bi 3 rfl) (nle rfl) rfl
        · refine sv_any rfl rfl fun ρ β W X cx => ?_
          exact dv_store (n := 6) rfl (cx.ou 2) (cx.an 0) (by kernel_rfl) (by kernel_rfl) (by kernel_rfl) cx (cx.init 0 _ rfl) rfl (nle rfl) (by kernel_rfl) rfl rfl rfl (fun σ β' X' hs hb hx => hx)
      intro σ β X W18 hD hst18 fr hfr
      simp only [exq 4 ((dTn (hD 1 lq)))] at hst18
      clear hD; subst hfr; clear σ β X
      refine then_normal (wp_ret ?_)
      refine bodyPost_ret (v := .agg #[vi (2 + ((((mk8 s)).getD 0 0) % 126)), vi (3 + (((((mk8 s)).getD 1 0) / 3) % 125)), vi (((((mk8 s)).getD 2 0) / 2) % 400), vi (((((mk8 s)).getD 3 0) / 4) % 24), .bool (((((mk8 s)).getD 2 0) % 3) == 1), .slice A42_11 rr.length c42_11]) (results_cell (n := 6) Tryd.results52 rfl (by kernel_rfl) (by kernel_rfl) (hst18.blk 3 rfl) rfl) rfl ?_
      exact VerPost.of rfl (by rw [vmaxF, hs13]; rfl) (by rw [vpgF, hs16]; rfl) (by rw [vslF, hs16]; rfl) rfl hrr (hst18.own' 1 rfl) hst18.ext
    have hs16p : ((((mk8 s)).getD 2 0) % 2) ≠ 1 := by simpa using hs16
    refine wp_cond_false (show Act.eval _ _ = .bool false from (congrArg Value.bool hs16)) (wp_skip (then_normal (wp_seq (wp_region_Y [0, 1] [[3], [0]] [[], [4]] [[], [0]] [.c 73 (.agg #[vi (2 + ((((mk8 s)).getD 0 0) % 126)), vi (3 + (((((mk8 s)).getD 1 0) / 3) % 125)), vi (-1), vi 0, .bool (((((mk8 s)).getD 2 0) % 3) == 1), .slice A42_11 rr.length c42_11]), .n] (fun ix σ β X => match ix with | 0 => True | 1 => X 4 = eB B2_1 41 #[vi (2 + ((((mk8 s)).getD 0 0) % 126)), vi (3 + (((((mk8 s)).getD 1 0) / 3) % 125)), vi (-1), vi 0, .bool (((((mk8 s)).getD 2 0) % 3) == 1), .slice A42_11 rr.length c42_11] | _ => True) [1, 2, 3, 4] [0, 1] [(73, 0, 1, 74)] hst15 ?_ ?_ ?_))))
    · exact fun ix _ _ _ _ _ _ hs hb hx h => match ix, h with
      | 1, h => by dsimp only at h ⊢; rw [← hx 4 rfl]; exact h
      | 0, _ | _ + 2, _ => trivial
    · refine ⟨?_, ?_, trivial⟩
      · exact xs4 rfl id fun cx => run_loadB (n := 6) rfl (by kernel_rfl) (by kernel_rfl) (cx.ou 5) (cx.bi 3 rfl) (nle rfl) rfl
      · refine sv_any rfl rfl fun ρ β W X cx => ?_
        exact dv_store (n := 6) rfl (cx.ou 2) (cx.an 0) (by kernel_rfl) (by kernel_rfl) (by kernel_rfl) cx (cx.init 0 _ rfl) rfl (nle rfl) (by kernel_rfl) rfl rfl rfl (fun σ β' X' hs hb hx => hx)
    intro σ β X W19 hD hst19 fr hfr
    simp only [exq 4 ((dTn (hD 1 lq)))] at hst19
    clear hD; subst hfr; clear σ β X
    refine then_normal (wp_ret ?_)
    refine bodyPost_ret (v := .agg #[vi (2 + ((((mk8 s)).getD 0 0) % 126)), vi (3 + (((((mk8 s)).getD 1 0) / 3) % 125)), vi (-1), vi 0, .bool (((((mk8 s)).getD 2 0) % 3) == 1), .slice A42_11 rr.length c42_11]) (results_cell (n := 6) Tryd.results52 rfl (by kernel_rfl) (by kernel_rfl) (hst19.blk 3 rfl) rfl) rfl ?_
    exact VerPost.of rfl (by rw [vmaxF, hs13]; rfl) (by rw [vpgF, hs16]; rfl) (by rw [vslF, hs16]; rfl) rfl hrr (hst19.own' 1 rfl) hst19.ext
  have hs13p : ¬ (0 < (((mk8 s)).getD 1 0) % 3) := by simpa using hs13
  refine wp_cond_false (show Act.eval _ _ = .bool false from (congrArg Value.bool hs13)) (wp_skip (then_normal (wp_seq (wp_seq (wp_region_Z [0, 1, 3, 7, 15] [[], [1], [1]] [.k 56 (.slice A6_2 8 8), .c 57 (.pointer (some ((ad A6_2).add 2))), .c 58 (vi (((mk8 s)).getD 2 0)), tRe 59 .i64 (((mk8 s)).getD 2 0) 2 ((((mk8 s)).getD 2 0) % 2) (Int.tmod_eq_emod_of_nonneg (by omega)), .k 60 (.bool (((((mk8 s)).getD 2 0) % 2) == 1))] [0, 1, 2, 3] [1, 2] [(56, 0, 5, 61)] hst12 ?_ fun W20 hst20 => ?_)))))
  · refine ⟨?_, ?_, trivial⟩
    · exact xs4 rfl id fun cx => run_indexSl (e := 3) (m := 2) rfl (by kernel_rfl) (by kernel_rfl) (cx.an 0) (cx.co _) (by omega) (by omega) (At.of_own (cx.ri 1 rfl)) (by simp [mk8_len, curL_len])
    · exact xs4 rfl id fun cx => run_load1 rfl (by kernel_rfl) (cx.an 1) (At.cellAd (At.of_own (cx.ri 1 rfl)) (getD_int (by omega)))
  refine then_normal ?_
  rcases Bool.eq_false_or_eq_true (((((mk8 s)).getD 2 0) % 2) == 1) with hs21 | hs21
  · skip
    have hs21p : ((((mk8 s)).getD 2 0) % 2) = 1 := by simpa using hs21
    refine wp_cond_true (show Act.eval _ _ = .bool true from (congrArg Value.bool hs21)) (wp_region_Y [0, 1, 3, 7, 15, 0, 32, 96, 224, 480, 1023, 2047, 4095] [[], [1], [1], [], [], [], [1], [1], [], [], [], [], [3]] [[], [], [], [], [], [], [], [], [], [], [], [], [4]] [[], [], [], [], [], [], [], [], [], [], [], [], [3]] [.k 61 (.slice A6_2 8 8), .c 62 (.pointer (some ((ad A6_2).add 2))), .c 63 (vi (((mk8 s)).getD 2 0)), tQu 64 .i64 (((mk8 s)).getD 2 0) 2 ((((mk8 s)).getD 2 0) / 2) (by rw [Int.tdiv_eq_ediv_of_nonneg (by omega)]; exact IntWalk.i64_in _ (by omega)), tRe 65 .i64 ((((mk8 s)).getD 2 0) / 2) 400 (((((mk8 s)).getD 2 0) / 2) % 400) (Int.tmod_eq_emod_of_nonneg (by omega)), .k 66 (.slice A6_2 8 8), .c 67 (.pointer (some ((ad A6_2).add 3))), .c 68 (vi (((mk8 s)).getD 3 0)), tQu 69 .i64 (((mk8 s)).getD 3 0) 4 ((((mk8 s)).getD 3 0) / 4) (by rw [Int.tdiv_eq_ediv_of_nonneg (by omega)]; exact IntWalk.i64_in _ (by omega)), tRe 70 .i64 ((((mk8 s)).getD 3 0) / 4) 24 (((((mk8 s)).getD 3 0) / 4) % 24) (Int.tmod_eq_emod_of_nonneg (by omega)), .k 71 (.agg #[vi (((((mk8 s)).getD 2 0) / 2) % 400), vi (((((mk8 s)).getD 3 0) / 4) % 24)]), .k 72 (.pointer (some ⟨B5_11, 2, none⟩)), .n] (fun ix σ β X => match ix with | 0 => True | 1 => True | 2 => True | 3 => True | 4 => True | 5 => True | 6 => True | 7 => True | 8 => True | 9 => True | 10 => True | 11 => True | 12 => X 4 = eB B5_11 41 #[vi (2 + ((((mk8 s)).getD 0 0) % 126)), vi 0, vi (((((mk8 s)).getD 2 0) / 2) % 400), vi (((((mk8 s)).getD 3 0) / 4) % 24), .bool (((((mk8 s)).getD 2 0) % 3) == 1), .slice A42_11 rr.length c42_11] | _ => True) [0, 1, 2, 4] [1, 2, 6, 7, 12] [(61, 0, 12, 73)] hst20 ?_ ?_ ?_)
    · exact fun ix _ _ _ _ _ _ hs hb hx h => match ix, h with
      | 12, h => by dsimp only at h ⊢; rw [← hx 4 rfl]; exact h
      | 0, _ | 1, _ | 2, _ | 3, _ | 4, _ | 5, _ | 6, _ | 7, _ | 8, _ | 9, _ | 10, _ | 11, _ | _ + 13, _ => trivial
    · refine ⟨?_, ?_, ?_, ?_, ?_, trivial⟩
      · exact xs4 rfl id fun cx => run_indexSl (e := 3) (m := 2) rfl (by kernel_rfl) (by kernel_rfl) (cx.an 0) (cx.co _) (by omega) (by omega) (At.of_own (cx.ri 1 rfl)) (by simp [mk8_len, curL_len])
      · exact xs4 rfl id fun cx => run_load1 rfl (by kernel_rfl) (cx.an 1) (At.cellAd (At.of_own (cx.ri 1 rfl)) (getD_int (by omega)))
      · exact xs4 rfl id fun cx => run_indexSl (e := 3) (m := 3) rfl (by kernel_rfl) (by kernel_rfl) (cx.an 5) (cx.co _) (by omega) (by omega) (At.of_own (cx.ri 1 rfl)) (by simp [mk8_len, curL_len])
      · exact xs4 rfl id fun cx => run_load1 rfl (by kernel_rfl) (cx.an 6) (At.cellAd (At.of_own (cx.ri 1 rfl)) (getD_int (by omega)))
      · refine sv_any rfl rfl fun ρ β W X cx => ?_
        exact dv_store (n := 2) rfl (cx.an 11) (cx.an 10) (by kernel_rfl) (by kernel_rfl) (by kernel_rfl) cx (cx.init 3 _ rfl) rfl (nle rfl) (by kernel_rfl) rfl rfl rfl (fun σ β' X' hs hb hx => hx)
    intro σ β X W22 hD hst22 fr hfr
    simp only [exq 4 ((dTn (hD 12 lq)))] at hst22
    clear hD; subst hfr; clear σ β X
    refine then_normal (wp_seq (wp_region_Y [0, 1] [[3], [0]] [[], [4]] [[], [0]] [.c 73 (.agg #[vi (2 + ((((mk8 s)).getD 0 0) % 126)), vi 0, vi (((((mk8 s)).getD 2 0) / 2) % 400), vi (((((mk8 s)).getD 3 0) / 4) % 24), .bool (((((mk8 s)).getD 2 0) % 3) == 1), .slice A42_11 rr.length c42_11]), .n] (fun ix σ β X => match ix with | 0 => True | 1 => X 4 = eB B2_1 41 #[vi (2 + ((((mk8 s)).getD 0 0) % 126)), vi 0, vi (((((mk8 s)).getD 2 0) / 2) % 400), vi (((((mk8 s)).getD 3 0) / 4) % 24), .bool (((((mk8 s)).getD 2 0) % 3) == 1), .slice A42_11 rr.length c42_11] | _ => True) [1, 2, 3, 4] [0, 1] [(73, 0, 1, 74)] hst22 ?_ ?_ ?_))
    · exact fun ix _ _ _ _ _ _ hs hb hx h => match ix, h with
      | 1, h => by dsimp only at h ⊢; rw [← hx 4 rfl]; exact h
      | 0, _ | _ + 2, _ => trivial
    · refine ⟨?_, ?_, trivial⟩
      · exact xs4 rfl id fun cx => run_loadB (n := 6) rfl (by kernel_rfl) (by kernel_rfl) (cx.ou 5) (cx.bi 3 rfl) (nle rfl) rfl
      · refine sv_any rfl rfl fun ρ β W X cx => ?_
        exact dv_store (n := 6) rfl (cx.ou 2) (cx.an 0) (by kernel_rfl) (by kernel_rfl) (by kernel_rfl) cx (cx.init 0 _ rfl) rfl (nle rfl) (by kernel_rfl) rfl rfl rfl (fun σ β' X' hs hb hx => hx)
    intro σ β X W23 hD hst23 fr hfr
    simp only [exq 4 ((dTn (hD 1 lq)))] at hst23
    clear hD; subst hfr; clear σ β X
    refine then_normal (wp_ret ?_)
    refine bodyPost_ret (v := .agg #[vi (2 + ((((mk8 s)).getD 0 0) % 126)), vi 0, vi (((((mk8 s)).getD 2 0) / 2) % 400), vi (((((mk8 s)).getD 3 0) / 4) % 24), .bool (((((mk8 s)).getD 2 0) % 3) == 1), .slice A42_11 rr.length c42_11]) (results_cell (n := 6) Tryd.results52 rfl (by kernel_rfl) (by kernel_rfl) (hst23.blk 3 rfl) rfl) rfl ?_
    exact VerPost.of rfl (by rw [vmaxF, hs13]; rfl) (by rw [vpgF, hs21]; rfl) (by rw [vslF, hs21]; rfl) rfl hrr (hst23.own' 1 rfl) hst23.ext
  have hs21p : ((((mk8 s)).getD 2 0) % 2) ≠ 1 := by simpa using hs21
  refine wp_cond_false (show Act.eval _ _ = .bool false from (congrArg Value.bool hs21)) (wp_skip (then_normal (wp_seq (wp_region_Y [0, 1] [[3], [0]] [[], [4]] [[], [0]] [.c 73 (.agg #[vi (2 + ((((mk8 s)).getD 0 0) % 126)), vi 0, vi (-1), vi 0, .bool (((((mk8 s)).getD 2 0) % 3) == 1), .slice A42_11 rr.length c42_11]), .n] (fun ix σ β X => match ix with | 0 => True | 1 => X 4 = eB B2_1 41 #[vi (2 + ((((mk8 s)).getD 0 0) % 126)), vi 0, vi (-1), vi 0, .bool (((((mk8 s)).getD 2 0) % 3) == 1), .slice A42_11 rr.length c42_11] | _ => True) [1, 2, 3, 4] [0, 1] [(73, 0, 1, 74)] hst20 ?_ ?_ ?_))))
  · exact fun ix _ _ _ _ _ _ hs hb hx h => match ix, h with
    | 1, h => by dsimp only at h ⊢; rw [← hx 4 rfl]; exact h
    | 0, _ | _ + 2, _ => trivial
  · refine ⟨?_, ?_, trivial⟩
    · exact xs4 rfl id fun cx => run_loadB (n := 6) rfl (by kernel_rfl) (by kernel_rfl) (cx.ou 5) (cx.bi 3 rfl) (nle rfl) rfl
    · refine sv_any rfl rfl fun ρ β W X cx => ?_
      exact dv_store (n := 6) rfl (cx.ou 2) (cx.an 0) (by kernel_rfl) (by kernel_rfl) (by kernel_rfl) cx (cx.init 0 _ rfl) rfl (nle rfl) (by kernel_rfl) rfl rfl rfl (fun σ β' X' hs hb hx => hx)
  intro σ β X W24 hD hst24 fr hfr
  simp only [exq 4 ((dTn (hD 1 lq)))] at hst24
  clear hD; subst hfr; clear σ β X
  refine then_normal (wp_ret ?_)
  refine bodyPost_ret (v := .agg #[vi (2 + ((((mk8 s)).getD 0 0) % 126)), vi 0, vi (-1), vi 0, .bool (((((mk8 s)).getD 2 0) % 3) == 1), .slice A42_11 rr.length c42_11]) (results_cell (n := 6) Tryd.results52 rfl (by kernel_rfl) (by kernel_rfl) (hst24.blk 3 rfl) rfl) rfl ?_
  exact VerPost.of rfl (by rw [vmaxF, hs13]; rfl) (by rw [vpgF, hs21]; rfl) (by rw [vslF, hs21]; rfl) rfl hrr (hst24.own' 1 rfl) hst24.ext
end
end Go.Proofs.YtjnplglnnamfdaaDoor
namespace Go.Proofs.YtjnplglnnamfdaaDoor
section
open Go.RowKit
set_option linter.unusedVariables false
set_option linter.unusedSimpArgs false
/-- the package's variable none -/
def NoneAt (w : World) : Prop := At w (some ⟨1, 0, none⟩) [.int .i64 (-1), .int .i64 0]
end
end Go.Proofs.YtjnplglnnamfdaaDoor
namespace Go.Proofs.YtjnplglnnamfdaaDoor
section
open Go.RowKit
set_option linter.unusedVariables false
set_option linter.unusedSimpArgs false
theorem ex_all (s : ByteArray) : s.extract 0 s.size = s := by
  apply ByteArray.ext
  simp
def textO (s : ByteArray) : ByteArray := putS s.size 2 ++ s
section
variable {P : Program} {o : Oper} {ρ : Operand → Value} {W : World}
theorem run_eqTID {x y : Operand} {a b c d : Int} (h : o.op = .binOp .eql 24 x y 24) (hx : ρ x = .agg #[.int .i64 a, .int .i64 b]) (hy : ρ y = .agg #[.int .i64 c, .int .i64 d]) :
    (execOp ρ o).run Tryd.prog W = .ok (.value (.bool (a == c && b == d))) W := by
  unfold execOp; rw [h]
  simp [go_sem, hx, hy]
  by_cases h1 : a = c <;> by_cases h2 : b = d <;> simp [h1, h2]
theorem run_slice_all {P : Program} {t : TypeId} {x y : Operand} {s : ByteArray} {k : IntKind} {j : Int} (h : o.op = .slice t x none (some y) none) (ht : P.underlying t = some .string) (hx : ρ x = .string s) (hy : ρ y = .int k j) (hj : j = (s.size : Int)) :
    (execOp ρ o).run P W = .ok (.value (.string s)) W := by
  have e := run_slice_hi (P := P) (W := W) h ht hx hy hj (Nat.le_refl _)
  rw [ex_all] at e
  exact e
end
set_option maxRecDepth 100000 in
set_option maxHeartbeats 2000000 in
theorem otext_any (s : ByteArray) (w : World) (hs : s.size ≤ 65535) :
    Calls Tryd.prog 62 #[.string s] w (Ret (.string (textO s)) w) := by
  have hp := putS_size (s.size : Int) 2 (by omega)
  go_enter Tryd.func62, Tryd.ntmps62
  have hst0 := St.start w
  refine wp_seq (wp_region_P [0] [.k 2 (.string ⟨#[]⟩)] [(2, 0, 1, 3)] hst0 fun W1 hst1 => ?_)
  refine then_normal (wp_seq (wp_region_Z [0, 0, 2, 6, 15, 31] [] [.k 3 (.string s), .k 4 (.string s), .k 5 (vi ((s.size : Int))), .c 6 (vi ((s.size : Int))), .c 7 (.string s), .k 0 (.string s)] [] [3, 4] [(0, 5, 1, 1), (2, 0, 5, 7)] hst1 ?_ fun W2 hst2 => ?_))
  · refine ⟨?_, ?_, trivial⟩
    · exact xs4 rfl id fun cx => run_min2 rfl (cx.an 2) (cx.co _) (by omega)
    · exact xs4 rfl id fun cx => run_slice_all rfl (by kernel_rfl) (cx.an 0) (cx.an 3) (by omega)
  refine then_normal (wp_seq (wp_region_Z [0, 1, 3, 0, 15, 31] [] [.k 8 (.string s), .k 9 (vi ((s.size : Int))), .c 10 (.string (putS (s.size : Int) 2)), .k 11 (.string s), tS 12 (putS (s.size : Int) 2) s (by omega), .k 2 (.string ((putS (s.size : Int) 2) ++ s))] [] [2] [(2, 5, 1, 3), (5, 0, 5, 10)] hst2 ?_ fun W3 hst3 => ?_))
  · refine ⟨?_, trivial⟩
    · exact xsc rfl id rfl rfl fun cx => ⟨_, oput2_any (s.size : Int) _, (map2 (cx.an 1) (cx.co _))⟩
  refine then_normal (wp_ret ?_)
  refine bodyPost_ret (v := .string ((putS (s.size : Int) 2) ++ s)) (results_tmp Tryd.results62 rfl) rfl ?_
  exact Ret.of rfl hst3.ext
end
end Go.Proofs.YtjnplglnnamfdaaDoor
namespace Go.Proofs.YtjnplglnnamfdaaDoor
section
open Go.RowKit
set_option linter.unusedVariables false
set_option linter.unusedSimpArgs false
theorem Tryd.sizeSb : (Tryd.prog.info? 157).map (·.size) = some 2 := by kernel_rfl
set_option maxRecDepth 100000 in
set_option maxHeartbeats 1000000 in
theorem sbcheck_used (b : Nat) (w : World) (h0 : w.cell? ⟨b, 0, none⟩ = some (.pointer (some ⟨b, 0, none⟩))) :
    Calls Tryd.prog 110 #[.pointer (some ⟨b, 0, none⟩)] w fun e w' => e = .returned (.tuple #[]) ∧ w' = w := by
  obtain ⟨j, hj, _⟩ := Option.map_eq_some_iff.1 Tryd.sizeSb
  go_enter Tryd.func110, Tryd.ntmps110
  go_wp2
  rw [Lib.run_neq_ptr_same w _ Tryd.underlying155 hj]
  go_wp2
  go_end0
  exact ⟨rfl, rfl⟩
set_option maxRecDepth 100000 in
set_option maxHeartbeats 1000000 in
theorem sbcheck_fresh (b : Nat) (w : World) (h0 : w.cell? ⟨b, 0, none⟩ = some (.pointer none)) (hsh : w.shape? b = some (157, 2)) (hfz : w.frozen? ⟨b, 0, none⟩ = false) :
    Calls Tryd.prog 110 #[.pointer (some ⟨b, 0, none⟩)] w fun e w' => e = .returned (.tuple #[]) ∧ w' = w.setCell ⟨b, 0, none⟩ (.pointer (some ⟨b, 0, none⟩)) := by
  obtain ⟨j, hj, hjs⟩ := Option.map_eq_some_iff.1 Tryd.sizeSb
  go_enter Tryd.func110, Tryd.ntmps110
  go_wp2
  rw [Lib.run_to_unsafe w ⟨b, 0, none⟩ Tryd.underlying155 Tryd.underlying182 hj (by rw [hjs]; decide) hsh (Nat.zero_lt_succ 1)]
  simp only [Result.andThen]
  rw [Oper.upon_value]
  go_wp2
  rw [run_callFunc_extern Tryd.func116 (by kernel_rfl) (by kernel_rfl) (by kernel_rfl) (e := Extern.AbiNoEscape.same) (by kernel_rfl)]
  rw [Lib.run_noEscape]
  simp only [Result.andThen]
  rw [Oper.upon_value]
  go_wp2
  rw [Lib.run_from_unsafe w ⟨b, 0, none⟩ Tryd.underlying182 Tryd.underlying155 hj hsh (by kernel_rfl)]
  simp only [Result.andThen]
  rw [Oper.upon_value]
  go_wp2
  go_end0
  exact ⟨rfl, rfl⟩
/-- copyCheck: the builder's block alone may turn -/
theorem sbcheck_any (b : Nat) (p v : Value) (w : World) (hb : Blk w b 157 #[p, v]) (hp : p = .pointer none ∨ p = .pointer (some ⟨b, 0, none⟩)) :
    Calls Tryd.prog 110 #[.pointer (some ⟨b, 0, none⟩)] w fun e w' => e = .returned (.tuple #[]) ∧ Blk w' b 157 #[.pointer (some ⟨b, 0, none⟩), v] ∧ Upd [b] w w' := by
  rcases hp with rfl | rfl
  · refine (sbcheck_fresh b w (hb.cell 0) (by unfold Blk at hb; simp [World.shape?, hb]) (hb.frozen 0)).mono ?_
    rintro e w' ⟨rfl, rfl⟩
    exact ⟨rfl, hb.set_ 0 _, (Upd.refl [b] w).set (p := ⟨b, 0, none⟩) (.inl (by simp)) _⟩
  · refine (sbcheck_used b w (hb.cell 0)).mono ?_
    rintro e w' ⟨rfl, rfl⟩
    exact ⟨rfl, hb, Upd.refl _ _⟩
end
end Go.Proofs.YtjnplglnnamfdaaDoor
namespace Go.Proofs.YtjnplglnnamfdaaDoor
section
open Go.RowKit
set_option linter.unusedVariables false
set_option linter.unusedSimpArgs false
theorem own_lower {w : World} {base : Nat} {e : TypeId} {sz : Nat} {v : Value} {n : Nat} {xs : List Value} (h : w.ownsRow base e sz v n xs) : w.ownsRow 0 e sz v n xs := by
  refine ⟨h.1, ?_⟩
  rcases h.2 with hn | ⟨g, cap, cur, hv, _, rest⟩
  · exact .inl hn
  · exact .inr ⟨g, cap, cur, hv, Nat.zero_le _, rest⟩
theorem run_append_str1 {P : Program} (w : World) (t u ty e : TypeId) (i : TypeInfo) (ht : P.underlying t = some (.slice e)) (hu : P.underlying u = some .string) (hi : P.info? e = some i) (hz : i.zero = some (.int .u8 0))
    (hsize : i.size = 1) (hby : i.bytes = 1) (v : Value) (n : Nat) (xs : List Value) (hown : w.ownsRow 0 e 1 v n xs) (s : ByteArray) (h63 : n + s.size ≤ maxLen) (hbytes : n + s.size ≤ 140737488355328) :
    ∃ v' w', (Builtin.append_ #[t, u] ty #[v, .string s]).run P w = .ok v' w' ∧ w'.ownsRow 0 e 1 v' (n + s.size) (xs ++ Lib.strCells s) ∧ w.grownBy w' v.ownBlock ∧ (∀ k, v'.ownBlock = some k → v.ownBlock = some k ∨ w.heap.size ≤ k) := by
  have hsm : n + s.size ≤ 9223372036854775807 := by simp only [maxLen] at h63; omega
  have h1 := hown.1
  rcases hown.2 with ⟨rfl, rfl⟩ | ⟨g, cap, cur, rfl, hbg, hg, hnc, hcm, hcs, htake⟩
  · obtain ⟨v', w', hr, h2, h3, h4⟩ := Lib.run_append_own_string (P := P) w w.heap.size t u ty e i ht hu hi hz hsize hby _ _ xs ⟨hown.1, .inl ⟨rfl, rfl⟩⟩ s h63 hbytes (Nat.le_refl _)
    exact ⟨v', w', hr, own_lower h2, h3, fun k hk => .inr (own_block h2 k hk)⟩
  · obtain ⟨v', w', hr, h2, h3, h4⟩ := Lib.run_append_own_string (P := P) w 0 t u ty e i ht hu hi hz hsize hby _ _ xs hown s h63 hbytes (Nat.zero_le _)
    refine ⟨v', w', hr, h2, h3, fun k hk => ?_⟩
    by_cases hroom : n + s.size ≤ cap
    · have hr' := Lib.run_append_room_string (P := P) w t u ty e i ht hu hi hsize g n cap cur hg s hroom (by omega)
      rw [hr'] at hr
      injection hr with e1 e2
      subst e1
      exact .inl hk
    · have hr' := Lib.run_append_grow_string (P := P) w t u ty e i (.int .u8 0) ht hu hi hz ⟨g, 0, none⟩ n cap xs (by rw [hsize]; simpa using h1) (hown.cells (g := g) rfl) s (by omega) (by omega) (by rw [hby]; exact growslice_fits (by omega) (by omega))
      rw [hr'] at hr
      injection hr with e1 e2
      subst e1
      right
      have h5 : some w.heap.size = some k := hk
      injection h5 with h5
      omega
section
variable {P : Program} {ops : Array Oper} {L : List Nat} {a0 : Act} {w0 : World} {bor : List Nat} {X0 : List Ent} {us cr kl : List (List Nat)}
  {D : Nat → (Tmp → Value) → (Tmp → Value) → (Nat → Ent) → Prop} {i : Nat} {o : Oper} {ρ : Operand → Value} {β : Tmp → Value} {W : World} {X : Nat → Ent}
end
end
end Go.Proofs.YtjnplglnnamfdaaDoor
namespace Go.Proofs.YtjnplglnnamfdaaDoor
section
open Go.RowKit
set_option linter.unusedVariables false
set_option linter.unusedSimpArgs false
/-- block g is a row whose first cells are the bytes L; no cell of it is frozen -/
def BRow (W : World) (g : Nat) (t : TypeId) (L : List Int) : Prop := ∃ (cur : Array Value) (m : Nat), W.heap[g]? = some (.cells cur t (m, m + 1)) ∧ cur.size = m ∧ L.length ≤ m ∧ ∀ j, j < L.length → cur[j]? = some (.int .u8 (L.getD j 0))
theorem BRow.cell {W : World} {g : Nat} {t : TypeId} {L : List Int} (h : BRow W g t L) {j : Nat} (hj : j < L.length) : W.cell? ⟨g, j, none⟩ = some (.int .u8 (L.getD j 0)) := by
  obtain ⟨cur, m, hh, hm, hl, hc⟩ := h
  rw [cell_of_row W g j cur t _ hh]
  exact hc j hj
def eW (g : Nat) (t : TypeId) (L : List Int) : Ent := ⟨[g], fun W => BRow W g t L⟩
theorem eW_loc (g : Nat) (t : TypeId) (L : List Int) : (eW g t L).loc := fun W W' h ⟨cur, m, hh, r⟩ => ⟨cur, m, (h g (by simp [eW])).trans hh, r⟩
def bI (s : ByteArray) : List Int := s.data.toList.map fun b => (b.toNat : Int)
theorem bI_len (s : ByteArray) : (bI s).length = s.size := by rw [bI, List.length_map, Array.length_toList]; rfl
def sK : Value → Nat
  | .slice _ n c => c - n
  | _ => 0
section
variable {P : Program} {ops : Array Oper} {L : List Nat} {a0 : Act} {w0 : World} {bor : List Nat} {X0 : List Ent} {us cr kl : List (List Nat)}
  {D : Nat → (Tmp → Value) → (Tmp → Value) → (Nat → Ent) → Prop} {i : Nat} {o : Oper} {ρ : Operand → Value} {β : Tmp → Value} {W : World} {X : Nat → Ent}
theorem CtxV.brow {q g t : Nat} {M : List Int} (cx : CtxV ops L a0 w0 bor X0 us D i ρ β W X) (hX : X q = eW g t M) (hu : (atV us i).contains q = true) : BRow W g t M := by
  have h := (cx.ok q hu).holds
  rw [hX] at h; exact h
/-- a store into an element of an array that is known as a list -/
theorem dv_storeAr {t t' : TypeId} {x y : Operand} {b m q q' : Nat} {v : Value} {xs xs' : List Value} (h : o.op = .store t x y) (hx : ρ x = .pointer (some ⟨b, m, none⟩)) (hy : ρ y = v) (hz : szP P t = some 1) (hn : v.cells = #[v]) (h1 : v.oneCell' = true)
    (cx : CtxV ops L a0 w0 bor X0 us D i ρ β W X) (hX : X q = eB b t' xs.toArray) (hu : (atV us i).contains q = true) (hm : m < xs.length) (hd : o.dst = none) (hxs : xs.set m v = xs') (hc : atV cr i = [q']) (hk : atV kl i = [q])
    (hD : ∀ (σ β' : Tmp → Value) (X' : Nat → Ent), (∀ t, σ t = ρ (.tmp t)) → (∀ t, β' t = β t) → X' q' = eB b t' xs'.toArray → D i σ β' X') : DoesU P o ρ W (PostV cr kl D i o.dst ρ β W X) := by
  subst hxs
  have hb := cx.blk hX hu
  have hcell : W.cell? ⟨b, m, none⟩ = some xs[m] := by rw [hb.cell]; simp [hm]
  have hfz := hb.frozen m
  have hst := hb.set_ m v
  have e0 : xs.toArray.setIfInBounds m v = (xs.set m v).toArray := by simp
  rw [e0] at hst
  have hrun : (execOp ρ o).run P W = .ok .skip (W.setCell ⟨b, m, none⟩ v) := by
    unfold execOp; rw [h]
    have hsz : v.cells.size = 1 := by rw [hn]; rfl
    simp only [hx, hy, Instr.storeAt, Instr.sureAddr, storeVar, Sem.run_bind, Sem.run_pure, Result.andThen_ok, run_size hz, hsz, ne_eq, not_true_eq_false, if_false]
    have e1 : (storeCells ⟨b, m, none⟩ v.cells.toList 0).run P W = .ok () (W.setCell ⟨b, m, none⟩ v) := by
      rw [hn]
      have hs1 : (Go.store ((⟨b, m, none⟩ : Addr).add 0) v).run P W = .ok () (W.setCell ⟨b, m, none⟩ v) := by
        rw [Addr.add_lit]
        unfold Go.store
        cases v <;> first | (simp [Value.oneCell'] at h1; done) | (simp [Sem.run, hcell, hfz])
      show (storeCells ⟨b, m, none⟩ [v] 0).run P W = _
      unfold storeCells
      simp only [Sem.run_bind, hs1, Result.andThen_ok]
      rfl
    rw [e1]
    rfl
  refine DoesU.skip hrun ⟨[eB b t' (xs.set m v).toArray], by rw [hc]; rfl, ⟨?_, fun e' he => ?_, List.pairwise_singleton _ _⟩, fun σ β' X' hs hv hb' hbv hx' hN => hD σ β' X' (fun t => hs t (by rw [hd]; simp)) (fun t => hb' t (by rw [hd]; simp)) ?_⟩
  · rw [hk]
    simp only [List.flatMap_cons, List.flatMap_nil, List.append_nil, hX]
    exact (Upd.refl _ W).set (.inl (by simp [eB])) v
  · rw [List.mem_singleton] at he
    subst he
    refine ⟨hst, eB_loc _ _ _, fun k hk' => ?_⟩
    have hkb : k = b := by simpa [eB] using hk'
    subst hkb
    refine ⟨.inl ?_, hst.lt⟩
    rw [hk]
    simp [hX, eB]
  · rw [hc] at hN
    exact (List.cons.inj hN).1
/-- '[]byte(s)' -/
theorem dv_convS {t t' e : TypeId} {x : Operand} {s : ByteArray} {d : Tmp} {q : Nat} (h : o.op = .convert t t' x) (ht : P.underlying t = some .string) (ht' : P.underlying t' = some (.slice e)) (he : P.underlying e = some (.int .u8)) (hx : ρ x = .string s) (hd : o.dst = some d) (hc : atV cr i = [q])
    (hD : ∀ (σ β' : Tmp → Value) (X' : Nat → Ent), (∀ t, t ≠ d → σ t = ρ (.tmp t)) → (∀ t, t ≠ d → β' t = β t) → σ d = .slice (some ⟨pb' (β' d), 0, none⟩) s.size (s.size + sK (β' d)) → X' q = eW (pb' (β' d)) e (bI s) → D i σ β' X') :
    DoesU P o ρ W (PostV cr kl D i o.dst ρ β W X) := by
  have hrun := run_bytes_of_string (P := P) W t t' e s ht ht' he
  refine DoesU.value (v := .slice (some ⟨W.heap.size, 0, none⟩) s.size (grownCap W s.size 0 e)) (w' := W.drew.alloc (.cells (bytesRow s (grownCap W s.size 0 e)) e ((bytesRow s (grownCap W s.size 0 e)).size, (bytesRow s (grownCap W s.size 0 e)).size + 1))) (by unfold execOp; rw [h]; simp only [hx, Sem.run_bind, hrun, Result.andThen_ok, Sem.run_pure]) ?_
  refine ⟨[eW W.heap.size e (bI s)], by rw [hc]; rfl, ⟨((Upd.refl _ W).drew).alloc _, fun e' he' => ?_, List.pairwise_singleton _ _⟩, fun σ β' X' hs hv' hb hbv hx' hN => hD σ β' X' (fun t ht => hs t (by rw [hd]; simpa using ht.symm)) (fun t ht => hb t (by rw [hd]; simpa using ht.symm)) ?_ ?_⟩
  · rw [List.mem_singleton] at he'
    subst he'
    refine ⟨⟨bytesRow s (grownCap W s.size 0 e), _, heap_alloc_new W.drew _, rfl, ?_, fun j hj => ?_⟩, eW_loc _ _ _, fun k hk => ?_⟩
    · rw [bI_len, bytesRow, Array.size_append, Array.size_map]
      exact Nat.le_add_right _ _
    · rw [bI_len] at hj
      rw [bytesRow_at s _ j hj]
      have : j < s.data.toList.length := by simpa using hj
      rw [bI, List.getD_eq_getElem?_getD, List.getElem?_eq_getElem (by simpa using hj), Option.getD_some, List.getElem_map, Array.getElem_toList]
    · have hkb : k = W.heap.size := by simpa [eW] using hk
      subst hkb
      exact ⟨.inr (Nat.le_refl _), by rw [World.size_alloc]; exact Nat.lt_succ_self _⟩
  · rw [hv' d hd, hbv d hd]
    have hg : s.size ≤ grownCap W s.size 0 e := grownCap_ge W s.size 0 e
    show Value.slice _ _ _ = Value.slice _ _ _
    congr 1
    show grownCap W s.size 0 e = s.size + (grownCap W s.size 0 e - s.size)
    omega
  · rw [hbv d hd]
    rw [hc] at hN
    exact (List.cons.inj hN).1
/-- the address of an element -/
theorem run_indexW {x y : Operand} {t e : TypeId} {g n c m : Nat} {k : IntKind} {j : Int} (h : o.op = .indexAddr t x y) (ht : P.underlying t = some (.slice e)) (hz : szP P e = some 1) (hx : ρ x = .slice (some ⟨g, 0, none⟩) n c) (hy : ρ y = .int k j) (hj : j = (m : Int)) (hm : m < n) :
    (execOp ρ o).run P W = .ok (.value (.pointer (some ⟨g, m, none⟩))) W := by
  subst hj
  unfold execOp; rw [h]
  have h1 : (0 : Int) ≤ (m : Int) ∧ (m : Int) < (n : Int) := ⟨by omega, by omega⟩
  simp only [hx, hy, Instr.indexAt, asIntOf, Sem.run_bind, Sem.run_pure, Result.andThen_ok, run_underlying ht, h1, and_self, if_true, run_size hz]
  simp [Addr.add_lit]
end
/-- the ways through x meet in R -/
theorem wp_cut {P : Program} {x y : Code} {Q : Exit → Act → World → Prop} {a : Act} {w : World} (R : Act → World → Prop) (hx : x.wp P (Exit.then R Q) a w) (hy : ∀ a' w', R a' w' → y.wp P Q a' w') : (Code.seq x y).wp P Q a w :=
  wp_seq (wp_mono hx fun e a' w' h => by cases e <;> first | exact hy _ _ h | exact h)
end
end Go.Proofs.YtjnplglnnamfdaaDoor
namespace Go.Proofs.YtjnplglnnamfdaaDoor
section
open Go.RowKit
set_option linter.unusedVariables false
set_option linter.unusedSimpArgs false
/-- the builder in block b, its bytes xs in a row of its own (block r, none while there is no row) -/
def SbAt (W : World) (b : Nat) (r : Option Nat) (xs : List Value) : Prop :=
  ∃ p v, Blk W b 157 #[p, v] ∧ (p = .pointer none ∨ p = .pointer (some ⟨b, 0, none⟩)) ∧ W.ownsRow 0 5 1 v xs.length xs ∧ v.ownBlock = r
def eSb (b : Nat) (r : Option Nat) (xs : List Value) : Ent := ⟨b :: r.toList, fun W => SbAt W b r xs⟩
def rO (e : Ent) : Option Nat := e.fp[1]?
theorem rO_eSb (b : Nat) (r : Option Nat) (xs : List Value) : rO (eSb b r xs) = r := by
  cases r <;> rfl
theorem eSb_loc (b : Nat) (r : Option Nat) (xs : List Value) : (eSb b r xs).loc := fun W W' hk h => by
  obtain ⟨p, v, h1, h2, h3, h4⟩ := h
  refine ⟨p, v, (hk b (by simp [eSb])).trans h1, h2, ?_, h4⟩
  have := eO_loc 5 1 v xs.length xs W W' (fun k hk' => hk k (by
    have h5 : v.ownBlock = some k := by simpa [eO] using hk'
    rw [h4] at h5
    simp [eSb, h5])) h3
  exact this
/-- a new builder -/
theorem SbAt.fresh {W : World} {b : Nat} (h : Blk W b 157 #[.pointer none, .slice none 0 0]) : SbAt W b none [] := ⟨_, _, h, .inl rfl, World.ownsRow_nil _ _ _ _, rfl⟩
theorem SbAt.ne {W : World} {b : Nat} {r : Option Nat} {xs : List Value} (h : SbAt W b r xs) : r ≠ some b := by
  obtain ⟨p, v, h1, h2, h3, h4⟩ := h
  have := own_ne h3 h1 (by decide)
  rw [h4] at this
  exact this
theorem wpList_append_str {P : Program} {ops : Array Oper} {rest : List Oper} {o : Oper} {a : Act} {Q : Exit → Act → World → Prop} {w : World} (hgd : o.guard = none) (sl x : Operand) (t u : TypeId)
    (ho : o.op = .call { callee := .builtin .append, args := #[sl, x], argTypes := #[t, u] })
    (e : TypeId) (i : TypeInfo) (ht : P.underlying t = some (.slice e)) (hu : P.underlying u = some .string) (hi : P.info? e = some i) (hz : i.zero = some (.int .u8 0))
    (hsize : i.size = 1) (hby : i.bytes = 1)
    (v : Value) (n : Nat) (xs : List Value) (hs : a.eval sl = v) (hown : w.ownsRow 0 e 1 v n xs) (s : ByteArray) (hx : a.eval x = .string s)
    (h63 : n + s.size ≤ maxLen) (hbytes : n + s.size ≤ 140737488355328)
    (h : ∀ v' w', w'.ownsRow 0 e 1 v' (n + s.size) (xs ++ Lib.strCells s) → w.grownBy w' v.ownBlock → (∀ k, v'.ownBlock = some k → v.ownBlock = some k ∨ w.heap.size ≤ k) → wpList P ops Q rest (a.put o.dst v') w') : wpList P ops Q (o :: rest) a w := by
  refine wpList_plain hgd fun K hK => ?_
  obtain ⟨v', w', hr, h2, h3, h4⟩ := run_append_str1 (P := P) w t u o.type e i ht hu hi hz hsize hby v n xs hown s h63 hbytes
  unfold Oper.wp execOp
  simp only [ho, resolve, invoke, builtin, Sem.run_bind, Sem.run_pure, Result.andThen_ok, List.map_toArray, List.map_cons, List.map_nil, hs, hx, hr]
  exact hK _ _ (h v' w' h2 h3 h4)
theorem Tryd.infoU8 : (Tryd.prog.info? 5).map (fun i => (i.zero, i.size, i.bytes)) = some (some (.int .u8 0), 1, 1) := by kernel_rfl
/-- what a write leaves -/
def SbPost (b : Nat) (r : Option Nat) (xs : List Value) (w w' : World) : Prop := ∃ r', SbAt w' b r' xs ∧ Upd (b :: r.toList) w w' ∧ ∀ k, r' = some k → r = some k ∨ w.heap.size ≤ k
set_option maxHeartbeats 2000000 in
set_option maxRecDepth 100000 in
theorem sbw_any (b : Nat) (r : Option Nat) (xs : List Value) (s : ByteArray) (w : World) (h : SbAt w b r xs) (hlen : xs.length + s.size ≤ 1000000) :
    Calls Tryd.prog 90 #[.pointer (some ⟨b, 0, none⟩), .string s] w fun e w' => e = .returned (.tuple #[.int .i64 s.size, .nilIface]) ∧ SbPost b r (xs ++ Lib.strCells s) w w' := by
  obtain ⟨i0, hi, hz0, hz1, hz2⟩ := info_parts Tryd.infoU8
  have hnb := h.ne
  obtain ⟨p, v, hbk0, hp, hown0, hr⟩ := h
  subst hr
  go_enter Tryd.func90, Tryd.ntmps90
  go_wp2_with fail
  refine (sbcheck_any b p v w hbk0 hp).mono ?_
  rintro e w1 ⟨rfl, hbk, hb1⟩
  have hown : w1.ownsRow 0 5 1 v xs.length xs := eO_loc 5 1 v xs.length xs w w1 (fun k hk => by
    have h5 : v.ownBlock = some k := by simpa [eO] using hk
    exact hb1.block k (own0_block hown0 k h5) (by simp; intro e; exact hnb (by rw [h5, e]))) hown0
  have c0 : w1.cell? ⟨b, 0, none⟩ = some (.pointer (some ⟨b, 0, none⟩)) := hbk.cell 0
  have c1 : w1.cell? ⟨b, 1, none⟩ = some v := hbk.cell 1
  go_wp2_with (at_builtin; refine wpList_append_str rfl _ _ 143 9 rfl 5 i0 Tryd.underlying143 Tryd.underlying9 hi hz0 hz1 hz2 _ _ _ rfl hown s rfl ?c3 ?c4 ?_)
  case c3 => unfold maxLen; omega
  case c4 => omega
  intro v' w2 hown' hgrow hat
  have hb2 : Blk w2 b 157 #[.pointer (some ⟨b, 0, none⟩), v] := hbk.grown hgrow (own_ne hown hbk (by decide))
  have d0 : w2.cell? ⟨b, 0, none⟩ = some (.pointer (some ⟨b, 0, none⟩)) := hb2.cell 0
  have d1 : w2.cell? ⟨b, 1, none⟩ = some v := hb2.cell 1
  have f1 : w2.frozen? ⟨b, 1, none⟩ = false := hb2.frozen 1
  obtain ⟨ao, n', cap, rfl⟩ : ∃ ao n' cap, v' = .slice ao n' cap := by
    rcases hown'.2 with ⟨hv, _⟩ | ⟨g, cap, cur, hv, _⟩
    · exact ⟨_, _, _, hv⟩
    · exact ⟨_, _, _, hv⟩
  go_wp2
  go_ret2
  refine ⟨rfl, _, ⟨_, _, hb2.set_ 1 _, .inr rfl, own_set (by simpa [Lib.strCells_length] using hown') (own_ne hown' hb2 (by decide)) 1 _, rfl⟩, ?_, fun k hk => ?_⟩
  · exact ((hb1.mono (fun k _ hk => by simp at hk; simp [hk])).grown hgrow (fun k hk => .inl (by simp [hk]))).set (p := ⟨b, 1, none⟩) (.inl (by simp)) _
  · rcases hat k hk with h | h
    · exact .inl h
    · exact .inr (Nat.le_trans hb1.size h)
set_option maxHeartbeats 2000000 in
set_option maxRecDepth 100000 in
theorem sbc_any (b : Nat) (r : Option Nat) (xs : List Value) (k : Int) (w : World) (h : SbAt w b r xs) (hlen : xs.length + 1 ≤ 1000000) :
    Calls Tryd.prog 94 #[.pointer (some ⟨b, 0, none⟩), .int .u8 k] w fun e w' => e = .returned .nilIface ∧ SbPost b r (xs ++ [.int .u8 k]) w w' := by
  obtain ⟨i0, hi, hz0, hz1, hz2⟩ := info_parts Tryd.infoU8
  have hnb := h.ne
  obtain ⟨p, v, hbk0, hp, hown0, hr⟩ := h
  subst hr
  go_enter Tryd.func94, Tryd.ntmps94
  go_wp2_with fail
  refine (sbcheck_any b p v w hbk0 hp).mono ?_
  rintro e w1 ⟨rfl, hbk, hb1⟩
  have hown1 : w1.ownsRow 0 5 1 v xs.length xs := eO_loc 5 1 v xs.length xs w w1 (fun k hk => by
    have h5 : v.ownBlock = some k := by simpa [eO] using hk
    exact hb1.block k (own0_block hown0 k h5) (by simp; intro e; exact hnb (by rw [h5, e]))) hown0
  have c0 : w1.cell? ⟨b, 0, none⟩ = some (.pointer (some ⟨b, 0, none⟩)) := hbk.cell 0
  have c1 : w1.cell? ⟨b, 1, none⟩ = some v := hbk.cell 1
  have hX : Ext w1 (w1.alloc (.cells #[.int .u8 k] 5)) := (Ext.refl w1).alloc _
  have hown := own_ext hown1 hX
  have hbk' := hbk.ext hX
  go_wp2_with (at_builtin; refine wpl_append _ rfl _ _ 143 rfl 0 5 i0 _ 1 Tryd.underlying143 hi hz0 hz1 hz2 rfl _ _ _ rfl hown _ 1 1 [.int .u8 k] rfl rfl ?c1 (by simp [Value.oneCell']) ?c3 ?c4 (Nat.zero_le _) ?_)
  case c1 => exact At.one_new _ _ _
  case c3 => unfold maxLen; omega
  case c4 => omega
  intro v' w2 hown' hgrow hat
  have hb2 : Blk w2 b 157 #[.pointer (some ⟨b, 0, none⟩), v] := hbk'.grown hgrow (own_ne hown hbk' (by decide))
  have d0 : w2.cell? ⟨b, 0, none⟩ = some (.pointer (some ⟨b, 0, none⟩)) := hb2.cell 0
  have d1 : w2.cell? ⟨b, 1, none⟩ = some v := hb2.cell 1
  have f1 : w2.frozen? ⟨b, 1, none⟩ = false := hb2.frozen 1
  obtain ⟨ao, n', cap, rfl⟩ : ∃ ao n' cap, v' = .slice ao n' cap := by
    rcases hown'.2 with ⟨hv, _⟩ | ⟨g, cap, cur, hv, _⟩
    · exact ⟨_, _, _, hv⟩
    · exact ⟨_, _, _, hv⟩
  go_wp2
  go_ret
  refine ⟨rfl, _, ⟨_, _, hb2.set_ 1 _, .inr rfl, own_set (by simpa using hown') (own_ne hown' hb2 (by decide)) 1 _, rfl⟩, ?_, fun k hk => ?_⟩
  · exact (((hb1.mono (fun k _ hk => by simp at hk; simp [hk])).alloc _).grown hgrow (fun k hk => .inl (by simp [hk]))).set (p := ⟨b, 1, none⟩) (.inl (by simp)) _
  · rcases hat with h | h
    · exact .inl (h.symm.trans hk)
    · right
      have h6 := h.symm.trans hk
      injection h6 with h6
      have := hb1.size
      have := hX.size
      omega
def eBu (b : Nat) (r : Option Nat) (l : List UInt8) : Ent := eSb b r (Lib.byteCells l)
theorem rO_eBu (b : Nat) (r : Option Nat) (l : List UInt8) : rO (eBu b r l) = r := rO_eSb b r _
theorem cells_byte (l : List UInt8) (k : Int) (h : 0 ≤ k ∧ k < 256) : Lib.byteCells l ++ [.int .u8 k] = Lib.byteCells (l ++ [UInt8.ofNat k.toNat]) := by
  have : ((UInt8.ofNat k.toNat).toNat : Int) = k := by
    rw [UInt8.toNat_ofNat']
    omega
  simp only [Lib.byteCells, List.map_append, List.map_cons, List.map_nil, this]
theorem cells_str (l : List UInt8) (s : ByteArray) : Lib.byteCells l ++ Lib.strCells s = Lib.byteCells (l ++ s.data.toList) := by simp [Lib.byteCells, Lib.strCells]
theorem byteCells_len (l : List UInt8) : (Lib.byteCells l).length = l.length := by simp [Lib.byteCells]
theorem sbc_l (b : Nat) (r : Option Nat) (l : List UInt8) (k : Int) (w : World) (h : SbAt w b r (Lib.byteCells l)) (hk : 0 ≤ k ∧ k < 256) (hlen : l.length + 1 ≤ 1000000) :
    Calls Tryd.prog 94 #[.pointer (some ⟨b, 0, none⟩), .int .u8 k] w fun e w' => e = .returned .nilIface ∧ SbPost b r (Lib.byteCells (l ++ [UInt8.ofNat k.toNat])) w w' := by
  have := sbc_any b r _ k w h (by rw [byteCells_len]; exact hlen)
  rw [cells_byte l k hk] at this
  exact this
theorem sbw_l (b : Nat) (r : Option Nat) (l : List UInt8) (s : ByteArray) (w : World) (h : SbAt w b r (Lib.byteCells l)) (hlen : l.length + s.size ≤ 1000000) :
    Calls Tryd.prog 90 #[.pointer (some ⟨b, 0, none⟩), .string s] w fun e w' => e = .returned (.tuple #[.int .i64 s.size, .nilIface]) ∧ SbPost b r (Lib.byteCells (l ++ s.data.toList)) w w' := by
  have := sbw_any b r _ s w h (by rw [byteCells_len]; exact hlen)
  rw [cells_str l s] at this
  exact this
theorem Upd.freeze {S : List Nat} {a b : World} (h : Upd S a b) {p : Addr} (hp : p.block ∈ S ∨ a.heap.size ≤ p.block) (n : Nat) : Upd S a (b.freeze p n) := by
  unfold World.freeze
  split
  · exact h
  · refine ⟨h.os, h.tape, h.output, by simpa using h.size, fun k hk hn => ?_⟩
    simp only [Array.getElem?_modify]
    rw [if_neg (fun e => ?_)]
    · exact h.block k hk hn
    · rcases hp with hp | hp
      · exact hn (by rw [← e]; exact hp)
      · omega
section
variable {P : Program} {ops : Array Oper} {L : List Nat} {a0 : Act} {w0 : World} {bor : List Nat} {X0 : List Ent} {us cr kl : List (List Nat)}
  {D : Nat → (Tmp → Value) → (Tmp → Value) → (Nat → Ent) → Prop} {i : Nat} {o : Oper} {ρ : Operand → Value} {β : Tmp → Value} {W : World} {X : Nat → Ent}
theorem CtxV.sb {q b : Nat} {r : Option Nat} {l : List UInt8} (cx : CtxV ops L a0 w0 bor X0 us D i ρ β W X) (hX : X q = eBu b r l) (hu : (atV us i).contains q = true) : SbAt W b r (Lib.byteCells l) := by
  have h := (cx.ok q hu).holds
  rw [hX] at h; exact h
theorem post_sb {v : Value} {W' : World} {b q q' : Nat} {r : Option Nat} {l : List UInt8} (hX : (X q).fp = b :: r.toList) (hc : atV cr i = [q']) (hk : atV kl i = [q]) (hp : SbPost b r (Lib.byteCells l) W W')
    (hD : ∀ (σ β' : Tmp → Value) (X' : Nat → Ent), (∀ t, o.dst ≠ some t → σ t = ρ (.tmp t)) → (∀ t, o.dst ≠ some t → β' t = β t) → (∀ d, o.dst = some d → σ d = v ∧ β' d = v) → X' q' = eBu b (rO (X' q')) l → D i σ β' X') : PostV cr kl D i o.dst ρ β W X v W' := by
  obtain ⟨r', hs, hu, hr⟩ := hp
  have hne := hs.ne
  have hlt : ∀ k ∈ (eBu b r' l).fp, k < W'.heap.size := fun k hk' => by
    obtain ⟨p, vv, h1, _, h3, h4⟩ := hs
    simp only [eBu, eSb, List.mem_cons, Option.mem_toList] at hk'
    rcases hk' with rfl | hk'
    · exact h1.lt
    · exact own0_block h3 k (by rw [h4]; exact hk')
  refine ⟨[eBu b r' l], by rw [hc]; rfl, ⟨?_, fun e he => ?_, List.pairwise_singleton _ _⟩, fun σ β' X' hs' hv hb' hbv hx' hN => hD σ β' X' hs' hb' (fun d hd => ⟨hv d hd, hbv d hd⟩) ?_⟩
  · rw [hk]
    simp only [List.flatMap_cons, List.flatMap_nil, List.append_nil, hX]
    exact hu
  · rw [List.mem_singleton] at he
    subst he
    refine ⟨hs, eSb_loc _ _ _, fun k hk' => ⟨?_, hlt k hk'⟩⟩
    rw [hk]
    simp only [List.flatMap_cons, List.flatMap_nil, List.append_nil, hX]
    simp only [eBu, eSb, List.mem_cons, Option.mem_toList] at hk'
    rcases hk' with rfl | hk'
    · exact .inl (by simp)
    · rcases hr k hk' with h | h
      · exact .inl (by simp [h])
      · exact .inr h
  · rw [hc] at hN
    have h1 := (List.cons.inj hN).1
    rw [h1, rO_eBu]
/-- a call that ends an entry -/
theorem post_kill {v : Value} {W' : World} {q : Nat} {S : List Nat} (hX : (X q).fp = S) (hc : atV cr i = []) (hk : atV kl i = [q]) (hu : Upd S W W')
    (hD : ∀ (σ β' : Tmp → Value) (X' : Nat → Ent), (∀ t, o.dst ≠ some t → σ t = ρ (.tmp t)) → (∀ t, o.dst ≠ some t → β' t = β t) → (∀ d, o.dst = some d → σ d = v ∧ β' d = v) → D i σ β' X') : PostV cr kl D i o.dst ρ β W X v W' := by
  refine ⟨[], by rw [hc]; rfl, ⟨?_, by simp, List.Pairwise.nil⟩, fun σ β' X' hs' hv hb' hbv hx' hN => hD σ β' X' hs' hb' (fun d hd => ⟨hv d hd, hbv d hd⟩)⟩
  rw [hk]
  simp only [List.flatMap_cons, List.flatMap_nil, List.append_nil, hX]
  exact hu
theorem run_sliceData {x : Operand} {t : TypeId} {a : Addr} {n c : Nat} (h : o.op = .call { callee := .builtin .unsafeSliceData, args := #[x], argTypes := #[t] }) (hx : ρ x = .slice (some a) n c) (hc : 0 < c) : (execOp ρ o).run P W = .ok (.value (.pointer (some a))) W := by
  have h0 := Lib.run_unsafeSliceData_row (P := P) (w := W) #[t] o.type a n c (by omega)
  unfold execOp; rw [h]
  simp only [resolve, invoke, builtin, Sem.run_bind, Sem.run_pure, Result.andThen_ok, List.map_toArray, List.map_cons, List.map_nil, hx, h0]
/-- unsafe.String over a row of the call's own -/
theorem dv_unsafeStr {x y : Operand} {t u e : TypeId} {g c q : Nat} {d : Tmp} {l : List UInt8} (h : o.op = .call { callee := .builtin .unsafeString, args := #[x, y], argTypes := #[t, u] }) (ht : P.underlying t = some (.pointer e)) (hce : P.cellsOf e = 1)
    (hx : ρ x = .pointer (some ⟨g, 0, none⟩)) (hy : ρ y = .int .i64 (l.length : Int)) (cx : CtxV ops L a0 w0 bor X0 us D i ρ β W X) (hX : X q = eO e 1 (.slice (some ⟨g, 0, none⟩) l.length c) l.length (Lib.byteCells l)) (hu : (atV us i).contains q = true) (hl : l ≠ []) (h63 : l.length ≤ 9223372036854775807)
    (hd : o.dst = some d) (hc : atV cr i = []) (hk : atV kl i = [q]) (hD : ∀ (σ β' : Tmp → Value) (X' : Nat → Ent), σ d = .string ⟨l.toArray⟩ → D i σ β' X') : DoesU P o ρ W (PostV cr kl D i o.dst ρ β W X) := by
  have hown := cx.row hX hu
  obtain ⟨hlen, h2⟩ := hown
  have hpos : 0 < l.length := List.length_pos_iff.2 hl
  rcases h2 with ⟨hv, h0⟩ | ⟨g', cap, cur, hv, _, hg, hle, hmx, hcs, htk⟩
  · omega
  · injection hv with h1 h2 h3
    injection h1 with h1
    injection h1 with h1
    subst h1 h3
    have hcell : ∀ (j : Nat) (x : UInt8), l[j]? = some x → W.cell? ((⟨g, 0, none⟩ : Addr).add j) = some (.int .u8 x.toNat) := fun j x hj => by
      have hjl := (List.getElem?_eq_some_iff.1 hj).1
      rw [Addr.add_lit, Nat.zero_add, cell_of_row W g j cur e _ hg]
      have h5 : (cur.toList.take (l.length * 1))[j]? = (Lib.byteCells l)[j]? := by rw [htk]
      rw [List.getElem?_take, if_pos (by omega)] at h5
      rw [← Array.getElem?_toList, h5]
      simp [Lib.byteCells, hj]
    have hrun := Lib.run_unsafeString_row (P := P) (w := W) t u o.type e ht hce g cur.size (by unfold World.shape?; rw [hg]) l hl (by omega) h63 hcell
    refine DoesU.value (v := .string ⟨l.toArray⟩) (w' := W.freeze ⟨g, 0, none⟩ l.length) (by
      unfold execOp; rw [h]
      simp only [resolve, invoke, builtin, Sem.run_bind, Sem.run_pure, Result.andThen_ok, List.map_toArray, List.map_cons, List.map_nil, hx, hy, hrun]) ?_
    refine post_kill (S := [g]) (by rw [hX]; rfl) hc hk ((Upd.refl _ _).freeze (.inl (by simp)) _) fun σ β' X' _ _ hv => hD σ β' X' (hv d hd).1
end
theorem St.lent2 {w : World} {b g t e c n : Nat} {cs : Array Value} {xs : List Value} (hb : Blk w b t cs) (ho : w.ownsRow 0 e 1 (.slice (some ⟨g, 0, none⟩) n c) n xs) (hne : g ≠ b) : St w [b, g] [eB b t cs, eO e 1 (.slice (some ⟨g, 0, none⟩) n c) n xs] w := by
  refine ⟨Upd.refl _ _, fun x hx => ?_, ?_⟩
  · simp only [List.mem_cons, List.not_mem_nil, or_false] at hx
    rcases hx with rfl | rfl
    · exact ⟨hb, eB_loc _ _ _, fun k hk => ⟨.inl (by simp [eB] at hk; simp [hk]), by simp [eB] at hk; subst hk; exact hb.lt⟩⟩
    · exact ⟨ho, eO_loc _ _ _ _ _, fun k hk => ⟨.inl (by simp [eO, Value.ownBlock] at hk; simp [hk]), own0_block ho k (by simpa [eO] using hk)⟩⟩
  · refine List.pairwise_pair.2 fun k hk hk' => ?_
    simp only [eB, List.mem_cons, List.not_mem_nil, or_false, eO, Value.ownBlock, Option.toList_some] at hk hk'
    omega
set_option maxRecDepth 100000 in
set_option maxHeartbeats 2000000 in
theorem sbstr_l (b : Nat) (r : Option Nat) (l : List UInt8) (w : World) (h : SbAt w b r (Lib.byteCells l)) (hl : l ≠ []) (h63 : l.length ≤ 1000000) :
    Calls Tryd.prog 91 #[.pointer (some ⟨b, 0, none⟩)] w fun e w' => e = .returned (.string ⟨l.toArray⟩) ∧ Upd (b :: r.toList) w w' := by
  have hpos : 0 < l.length := List.length_pos_iff.2 hl
  have hbne := h.ne
  obtain ⟨p, v, hb, hp, hown, hr⟩ := h
  rw [byteCells_len] at hown
  obtain ⟨g, c, hv, hlc⟩ : ∃ g c, v = .slice (some ⟨g, 0, none⟩) l.length c ∧ l.length ≤ c := by
    rcases hown.2 with ⟨hv, h0⟩ | ⟨g', cap, cur, hv, _, hg, hle, _⟩
    · omega
    · exact ⟨g', cap, hv, hle⟩
  subst hv hr
  have hne : g ≠ b := fun e => hbne (by simp [Value.ownBlock, e])
  have st0 := St.lent2 hb hown hne
  show Calls _ _ _ w fun e w' => e = .returned (.string ⟨l.toArray⟩) ∧ Upd [b, g] w w'
  go_enter Tryd.func91, Tryd.ntmps91
  have hst0 := st0
  refine wp_seq (wp_region_P [0] [.k 2 (.string ⟨#[]⟩)] [(2, 0, 1, 3)] hst0 fun W1 hst1 => ?_)
  refine then_normal (wp_seq (wp_region_Y [0, 1, 3, 7, 15, 0, 32, 96, 224, 480, 1023, 2047] [[], [], [], [0], [], [], [], [], [0], [], [1]] [] [[], [], [], [], [], [], [], [], [], [], [1]] [.k 3 (vp b), .k 4 (vp b), .k 5 (.pointer (some ⟨b, 1, none⟩)), .c 6 (.slice ((some ⟨g, 0, none⟩)) l.length c), .c 7 (vp g), .k 8 (vp b), .k 9 (vp b), .k 10 (.pointer (some ⟨b, 1, none⟩)), .c 11 (.slice ((some ⟨g, 0, none⟩)) l.length c), .k 12 (vi ((l.length : Int))), .a 13, .c 2 (.string ((⟨l.toArray⟩ : ByteArray)))] (fun ix σ β X => match ix with | 0 => True | 1 => True | 2 => True | 3 => True | 4 => True | 5 => True | 6 => True | 7 => True | 8 => True | 9 => True | 10 => σ 13 = .string ((⟨l.toArray⟩ : ByteArray)) | _ => True) [0] [3, 4, 8, 10, 11] [(2, 11, 1, 3), (0, 0, 11, 11)] hst1 ?_ ?_ ?_))
  · exact fun ix _ _ _ _ _ _ hs hb hx h => match ix, h with
    | 10, h => (hs _ rfl).symm.trans h
    | 0, _ | 1, _ | 2, _ | 3, _ | 4, _ | 5, _ | 6, _ | 7, _ | 8, _ | 9, _ | _ + 11, _ => trivial
  · refine ⟨?_, ?_, ?_, ?_, ?_, trivial⟩
    · exact xs4 rfl id fun cx => run_load1 rfl (by kernel_rfl) (cx.an 2) ((cx.bi 0 rfl).cell 1)
    · exact xs4 rfl id fun cx => run_sliceData rfl (cx.an 3) (by omega)
    · exact xs4 rfl id fun cx => run_load1 rfl (by kernel_rfl) (cx.an 7) ((cx.bi 0 rfl).cell 1)
    · refine sv_any rfl rfl fun ρ β W X cx => ?_
      exact dv_unsafeStr (e := 5) rfl (by kernel_rfl) (by kernel_rfl) (cx.an 4) (cx.an 9) cx (cx.init 1 _ rfl) rfl hl (by omega) rfl rfl rfl (fun σ β' X' hs => hs)
    · exact xs4 rfl id fun cx => run_assign' rfl (dTn (cx.an 10))
  intro σ β X W2 hD hst2 fr hfr
  simp only [ed 13 ((dTn (hD 10 lq)))] at hfr
  clear hD; subst hfr; clear σ β X
  refine then_normal (wp_ret ?_)
  refine bodyPost_ret (v := .string ((⟨l.toArray⟩ : ByteArray))) (results_tmp Tryd.results91 rfl) rfl ?_
  exact ⟨rfl, hst2.upd⟩
end
end Go.Proofs.YtjnplglnnamfdaaDoor
namespace Go.Proofs.YtjnplglnnamfdaaDoor
section
open Go.RowKit
set_option linter.unusedVariables false
set_option linter.unusedSimpArgs false
theorem cellsV_len (v : Val) : (cellsV v).length = 3 := rfl
abbrev v0 : Val := (0, 0, ByteArray.empty)
def knownF (k : Int) : Bool := decide (0 ≤ k) && decide (k ≤ 2)
def vrightF (v : Val) : Bool := knownF v.1 && (v.1 != 2 || decide (v.2.2.size ≤ 40))
def rrightF (r : List Val) : Bool := r.all vrightF && decide (r.length ≤ 6)
theorem vright_parts {v : Val} (h : vrightF v = true) : 0 ≤ v.1 ∧ v.1 ≤ 2 ∧ (v.1 = 2 → v.2.2.size ≤ 40) := by
  simp only [vrightF, knownF, Bool.and_eq_true, Bool.or_eq_true, decide_eq_true_eq, bne_iff_ne, ne_eq] at h
  refine ⟨h.1.1, h.1.2, fun e => ?_⟩
  rcases h.2 with h2 | h2
  · exact absurd e h2
  · exact h2
theorem rright_bad {r : List Val} {k : Nat} (hk : k < r.length) (h : vrightF (r.getD k v0) = false) : rrightF r = false := by
  rw [rrightF, Bool.and_eq_false_iff]
  left
  rw [List.all_eq_false]
  refine ⟨r[k], List.getElem_mem hk, ?_⟩
  rw [List.getD_eq_getElem?_getD, List.getElem?_eq_getElem hk] at h
  simpa using h
theorem rright_step {r : List Val} {k : Nat} (hk : k < r.length) (h : (r.take k).all vrightF = true) (h2 : vrightF (r.getD k v0) = true) : (r.take (k + 1)).all vrightF = true := by
  rw [List.getD_eq_getElem?_getD, List.getElem?_eq_getElem hk] at h2
  rw [List.take_add_one, List.getElem?_eq_getElem hk, List.all_append, h]
  simpa using h2
theorem rright_end {r : List Val} {k : Nat} (hk : r.length ≤ k) (h : (r.take k).all vrightF = true) : rrightF r = decide (r.length ≤ 6) := by
  rw [List.take_of_length_le hk] at h
  rw [rrightF, h, Bool.true_and]
theorem rright_at {r : List Val} (h : rrightF r = true) {k : Nat} (hk : k < r.length) : vrightF (r.getD k v0) = true := by
  rw [rrightF, Bool.and_eq_true, List.all_eq_true] at h
  rw [List.getD_eq_getElem?_getD, List.getElem?_eq_getElem hk]
  exact h.1 _ (List.getElem_mem hk)
theorem rright_len {r : List Val} (h : rrightF r = true) : r.length ≤ 6 := by
  rw [rrightF, Bool.and_eq_true, decide_eq_true_eq] at h
  exact h.2
/-- a value's bytes, a row's bytes -/
def valB (v : Val) : List UInt8 := UInt8.ofNat v.1.toNat :: (if v.1 = 1 then (putS v.2.1 8).data.toList else if v.1 = 2 then UInt8.ofNat ((v.2.2.size : Nat) : Int).toNat :: v.2.2.data.toList else [])
def bytesTo (r : List Val) (k : Nat) : List UInt8 := UInt8.ofNat ((r.length : Nat) : Int).toNat :: (r.take k).flatMap valB
def strL (l : List UInt8) : ByteArray := ⟨l.toArray⟩
def vbytesF (r : List Val) : ByteArray := if rrightF r = true then strL (bytesTo r r.length) else ByteArray.empty
theorem bt_succ {r : List Val} {k : Nat} (hk : k < r.length) : bytesTo r (k + 1) = bytesTo r k ++ valB (r.getD k v0) := by
  rw [List.getD_eq_getElem?_getD, List.getElem?_eq_getElem hk, bytesTo, List.take_add_one, List.getElem?_eq_getElem hk, bytesTo, List.cons_append, List.flatMap_append]
  simp
theorem bt_0 (r : List Val) : bytesTo r 0 = [UInt8.ofNat ((r.length : Nat) : Int).toNat] := rfl
theorem bt_int {r : List Val} {k : Nat} (hk : k < r.length) (h1 : (r.getD k v0).1 = 1) : (bytesTo r k ++ [UInt8.ofNat (r.getD k v0).1.toNat]) ++ (putS (r.getD k v0).2.1 8).data.toList = bytesTo r (k + 1) := by
  rw [bt_succ hk, valB, if_pos h1, List.append_assoc]; rfl
theorem bt_text {r : List Val} {k : Nat} (hk : k < r.length) (h1 : (r.getD k v0).1 ≠ 1) (h2 : (r.getD k v0).1 = 2) : ((bytesTo r k ++ [UInt8.ofNat (r.getD k v0).1.toNat]) ++ [UInt8.ofNat ((((r.getD k v0).2.2.size : Nat) : Int)).toNat]) ++ (r.getD k v0).2.2.data.toList = bytesTo r (k + 1) := by
  rw [bt_succ hk, valB, if_neg h1, if_pos h2, List.append_assoc, List.append_assoc]; rfl
theorem bt_none {r : List Val} {k : Nat} (hk : k < r.length) (h1 : (r.getD k v0).1 ≠ 1) (h2 : (r.getD k v0).1 ≠ 2) : bytesTo r k ++ [UInt8.ofNat (r.getD k v0).1.toNat] = bytesTo r (k + 1) := by
  rw [bt_succ hk, valB, if_neg h1, if_neg h2]
theorem valB_len {v : Val} (h : vrightF v = true) : (valB v).length ≤ 50 := by
  have hp := vright_parts h
  rw [valB, List.length_cons]
  split
  · have := putS_size v.2.1 8 (by omega)
    have h2 : (putS v.2.1 8).data.toList.length = 8 := by rw [Array.length_toList]; exact this
    omega
  · split
    · rename_i h2
      have h3 := hp.2.2 h2
      have h4 : v.2.2.data.toList.length = v.2.2.size := by rw [Array.length_toList]; rfl
      rw [List.length_cons, h4]; omega
    · simp
theorem flat_le {l : List Val} (h : l.all vrightF = true) : (l.flatMap valB).length ≤ l.length * 50 := by
  induction l with
  | nil => simp
  | cons v l ih =>
    rw [List.all_cons, Bool.and_eq_true] at h
    have h1 := ih h.2
    have h2 := valB_len h.1
    rw [List.flatMap_cons, List.length_append, List.length_cons, Nat.add_mul]
    omega
theorem bt_len {r : List Val} (h : rrightF r = true) (k : Nat) : (bytesTo r k).length ≤ 301 := by
  have hl := rright_len h
  rw [rrightF, Bool.and_eq_true] at h
  have h1 : (r.take k).all vrightF = true := by
    rw [List.all_eq_true] at h ⊢
    exact fun x hx => h.1 x (List.mem_of_mem_take hx)
  have h2 := flat_le h1
  have h3 : (r.take k).length ≤ 6 := by rw [List.length_take]; omega
  rw [bytesTo, List.length_cons]
  have h4 : (r.take k).length * 50 ≤ 6 * 50 := Nat.mul_le_mul_right _ h3
  omega
theorem bt_ne (r : List Val) (k : Nat) : bytesTo r k ≠ [] := by rw [bytesTo]; exact List.cons_ne_nil _ _
set_option maxRecDepth 100000 in
set_option maxHeartbeats 4000000 in
theorem vwhole_any (n : Int) (w : World) : Calls Tryd.prog 95 #[.int .u64 (IntKind.u64.wrap n)] w (Ret1 (.string (putS n 8)) w) := by
  have hcv := run_cv_oct n 8 (by omega) 0 rfl w w.heap.size rfl _ 163 rfl
  simp only [oct8, List.map_cons, List.map_nil] at hcv
  go_enter Tryd.func95, Tryd.ntmps95
  go_wp2_with fail
  refine wp_loop_rounds 9 ?_
  rw [rounds_succ]; go_wp2_with fail
  rw [rounds_succ]; go_wp2_with fail
  rw [rounds_succ]; go_wp2_with fail
  rw [rounds_succ]; go_wp2_with fail
  rw [rounds_succ]; go_wp2_with fail
  rw [rounds_succ]; go_wp2_with fail
  rw [rounds_succ]; go_wp2_with fail
  rw [rounds_succ]; go_wp2_with fail
  rw [rounds_succ]; go_wp2_with fail
  go_ret
  exact ⟨rfl, (Ext.refl w).alloc _⟩
set_option maxRecDepth 100000 in
set_option maxHeartbeats 2000000 in
theorem vknown_any (k : Int) (w : World) :
    Calls Tryd.prog 73 #[.int .i64 k] w (Ret (.bool (knownF k)) w) := by
  go_enter Tryd.func73, Tryd.ntmps73
  have hst0 := St.start w
  refine wp_seq (wp_region_P [0] [.k 2 (.bool false)] [(2, 0, 1, 3)] hst0 fun W1 hst1 => ?_)
  refine then_normal (wp_seq (wp_region_P [0, 1, 3, 7, 15, 31, 63] [.k 3 (vi k), .k 4 (.bool (decide (0 ≤ k))), .k 5 (.bool (decide (0 ≤ k))), .z 6 (decide (0 ≤ k)) (vi k), .z 7 (decide (0 ≤ k)) (.bool (decide (k ≤ 2))), tA 8 (decide (0 ≤ k)) (decide (k ≤ 2)), .k 2 (.bool ((decide (0 ≤ k)) && (decide (k ≤ 2))))] [(2, 6, 1, 3), (0, 0, 6, 6)] hst1 fun W2 hst2 => ?_))
  refine then_normal (wp_ret ?_)
  refine bodyPost_ret (v := .bool ((decide (0 ≤ k)) && (decide (k ≤ 2)))) (results_tmp Tryd.results73 rfl) rfl ?_
  exact Ret.bool (by simp_all [knownF] <;> omega) hst2.ext
set_option maxRecDepth 100000 in
set_option maxHeartbeats 2000000 in
theorem vright_any (v : Val) (w : World) :
    Calls Tryd.prog 87 #[.agg #[.int .i64 v.1, .int .i64 v.2.1, .string v.2.2]] w (Ret (.bool (vrightF v)) w) := by
  go_enter Tryd.func87, Tryd.ntmps87
  have hst0 := St.start w
  refine wp_seq (wp_region_Y [0, 0] [] [[0]] [] [.a 1, .k 2 (.bool false)] (fun ix σ β X => match ix with | 0 => σ 1 = vp (pb (β 1)) ∧ X 0 = eB (pb (β 1)) 82 #[vi v.1, vi v.2.1, .string v.2.2] | _ => True) [0] [0] [(1, 0, 2, 3)] hst0 ?_ ?_ ?_)
  · exact fun ix _ _ _ _ _ _ hs hb hx h => match ix, h with
    | 0, h => by dsimp only at h ⊢; rw [← hs 1 rfl, ← hb 1 rfl, ← hx 0 rfl]; exact h
    | _ + 1, _ => trivial
  · refine ⟨?_, trivial⟩
    · refine sv_any rfl rfl fun ρ β W X cx => ?_
      exact dv_box (cs := #[vi v.1, vi v.2.1, .string v.2.2]) rfl (cx.ou 0) rfl rfl rfl (fun σ β' X' hs hb hv hx => ⟨hv, hx⟩)
  intro σ β X W1 hD hst1 fr hfr
  obtain ⟨B1_1, hu_B1_1⟩ : ∃ z, pb (β 1) = z := ⟨_, rfl⟩
  simp only [exq 0 ((dTn (hD 0 lq)).2), hu_B1_1] at hst1
  simp only [ed 1 ((dTn (hD 0 lq)).1), hu_B1_1] at hfr
  clear hD hu_B1_1; subst hfr; clear σ β X
  refine then_normal (wp_seq (wp_region_Z [0, 1, 3, 7, 15, 31, 63, 127, 255, 511, 1023, 2047, 4095, 8191, 16383] [[], [0], [], [], [], [0], [], [], [], [0]] [.k 3 (vp B1_1), .c 4 (vi v.1), .c 5 (.bool (knownF v.1)), .k 6 (.bool (knownF v.1)), .z 7 (knownF v.1) (vp B1_1), .y 8 (knownF v.1) (vi v.1), .z 9 (knownF v.1) (.bool (v.1 != 2)), .z 10 (knownF v.1) (.bool (v.1 != 2)), .z 11 ((knownF v.1) && (!(v.1 != 2))) (.pointer (some ⟨B1_1, 2, none⟩)), .y 12 ((knownF v.1) && (!(v.1 != 2))) (.string v.2.2), .z 13 ((knownF v.1) && (!(v.1 != 2))) (vi ((v.2.2.size : Int))), .z 14 ((knownF v.1) && (!(v.1 != 2))) (.bool (decide ((v.2.2.size : Int) ≤ 40))), .y 15 (knownF v.1) (.bool ((v.1 != 2) || (decide ((v.2.2.size : Int) ≤ 40)))), tA 16 (knownF v.1) ((v.1 != 2) || (decide ((v.2.2.size : Int) ≤ 40))), .k 2 (.bool ((knownF v.1) && ((v.1 != 2) || (decide ((v.2.2.size : Int) ≤ 40)))))] [0] [1, 2, 5, 9, 12] [(2, 14, 1, 3), (0, 0, 14, 14)] hst1 ?_ fun W2 hst2 => ?_))
  · refine ⟨?_, ?_, ?_, ?_, ?_, trivial⟩
    · exact xs4 rfl id fun cx => run_load1 rfl (by kernel_rfl) (cx.an 0) ((cx.bi 0 rfl).cell 0)
    · exact xsc rfl id rfl rfl fun cx => ⟨_, vknown_any v.1 _, (map1 (cx.an 1))⟩
    · exact m2 rfl (fun _ _ _ h => h) (fun cx => (cx.an 3)) fun cx hq => run_load1 rfl (by kernel_rfl) (mbv (cx.an 4) hq) ((cx.bi 0 rfl).cell 0)
    · exact m0 rfl (fun _ _ _ h => h) (fun cx => (cx.an 7)) fun cx hq => run_load1 rfl (by kernel_rfl) (mbv (cx.an 8) hq) ((cx.bi 0 rfl).cell 2)
    · exact m2 rfl (fun _ _ _ h => h) (fun cx => (cx.an 3)) fun cx hq => run_pick_or rfl (mbv (cx.an 7) hq) (cx.co _) (cx.an 11) (fun e_ => by rw [hq, e_]; rfl)
  refine then_normal (wp_ret ?_)
  refine bodyPost_ret (v := .bool ((knownF v.1) && ((v.1 != 2) || (decide ((v.2.2.size : Int) ≤ 40))))) (results_tmp Tryd.results87 rfl) rfl ?_
  exact Ret.bool (by simp only [vrightF]; congr 2; exact decide_eq_decide.2 (by omega)) hst2.ext
set_option maxRecDepth 100000 in
set_option maxHeartbeats 2000000 in
theorem vrow_any (RA : Option Addr) (rc : Nat) (r : List Val) (w : World) (hA : At w RA (flatR r)) (hlr : r.length ≤ 9223372036854775807) :
    Calls Tryd.prog 93 #[.slice RA r.length rc] w (Ret (.bool (rrightF r)) w) := by
  go_enter Tryd.func93, Tryd.ntmps93
  have hst0 := St.start w
  refine wp_seq (wp_region_P [0] [.k 2 (.bool false)] [(2, 0, 1, 3)] hst0 fun W1 hst1 => ?_)
  refine then_normal (wp_seq (wp_seq (wp_region_P [0, 1, 0] [.k 5 (.slice RA r.length rc), .k 6 (vi ((r.length : Int))), .k 7 (vi 0)] [(5, 0, 3, 8)] hst1 fun W2 hst2 => ?_)))
  refine then_normal (wp_block ?_)
  refine wp_loopN (fun mz az W => ∃ k : Nat, ∃ u3_ : List Value, k ≤ r.length ∧ (r.take k).all vrightF = true ∧ mz = r.length - k ∧ az = ⟨#[.slice RA r.length rc, undef, (gu u3_ 0), undef, (gu u3_ 1), .slice RA r.length rc, vi ((r.length : Int)), vi ((k : Int)), (gu u3_ 2), (gu u3_ 3), (gu u3_ 4), (gu u3_ 5), (gu u3_ 6), (gu u3_ 7), (gu u3_ 8), undef, undef, undef], []⟩ ∧ St w [] [] W) (r.length - 0) ?_ ?_
  · -- the loop begins
    have hp4 := hst2.pick [] (by decide) rfl
    exact ⟨0, [.bool false, undef, undef, undef, undef, undef, undef, undef, undef], by omega, rfl, rfl, rfl, hp4⟩
  rintro n3 a3 W3 ⟨k, u3_, hkl, hka, rfl, rfl, hst3⟩
  refine wp_seq (wp_region_P [0] [.k 8 (.bool (decide ((k : Int) < (r.length : Int))))] [(8, 0, 1, 9)] hst3 fun W5 hst5 => ?_)
  refine then_normal (wp_seq ?_)
  rcases Bool.eq_false_or_eq_true (decide ((k : Int) < (r.length : Int))) with hs6 | hs6
  · skip
    have hs6p : (k : Int) < (r.length : Int) := by simpa using hs6
    refine wp_cond_true (show Act.eval _ _ = .bool true from (congrArg Value.bool hs6)) (wp_skip (then_normal (wp_seq (wp_block (wp_seq (wp_region_Y [0, 1, 0, 7] [[], [], [], [0]] [[], [], [0], [1]] [[], [], [], [0]] [.c 9 (.pointer (some ((ad RA).add (k * 3)))), .c 10 (.agg #[vi ((r.getD k v0).1), vi ((r.getD k v0).2.1), .string ((r.getD k v0).2.2)]), .a 4, .n] (fun ix σ β X => match ix with | 0 => True | 1 => True | 2 => σ 4 = vp (pb (β 4)) ∧ X 0 = eB (pb (β 4)) 82 #[vi 0, vi 0, .string ByteArray.empty] | 3 => X 1 = eB (pb (β 4)) 82 #[vi ((r.getD k v0).1), vi ((r.getD k v0).2.1), .string ((r.getD k v0).2.2)] | _ => True) [1] [0, 1, 2, 3] [(4, 2, 1, 5), (4, 0, 2, 6)] hst5 ?_ ?_ ?_))))))
    · exact fun ix _ _ _ _ _ _ hs hb hx h => match ix, h with
      | 2, h => by dsimp only at h ⊢; rw [← hs 4 rfl, ← hb 4 rfl, ← hx 0 rfl]; exact h
      | 3, h => by dsimp only at h ⊢; rw [← hb 4 rfl, ← hx 1 rfl]; exact h
      | 0, _ | 1, _ | _ + 4, _ => trivial
    · refine ⟨?_, ?_, ?_, ?_, trivial⟩
      · exact xs4 rfl id fun cx => run_indexSlM (e := 82) (m := k) (sz := 3) rfl (by kernel_rfl) (by kernel_rfl) (cx.ou 5) (cx.ou 7) (by omega) (by omega) (hA.ext cx.upd.to_ext) (by have h_ := flatLen (f := cellsV) (sz := 3) cellsV_len r; show 0 < (List.flatMap cellsV r).length; omega)
      · exact xs4 rfl id fun cx => run_loadElt (f := cellsV) (m := k) (sz := 3) (off := 0) (n := 3) rfl (by kernel_rfl) (by kernel_rfl) (cx.an 0) rfl cellsV_len (hA.ext cx.upd.to_ext) (getD_some (ts := r) (m := k) v0 (by omega)) (fun k hk => match k, hk with | 0, _ => rfl | 1, _ => rfl | 2, _ => rfl | k + 3, hk => absurd hk (by omega))
      · refine sv_any rfl rfl fun ρ β W X cx => ?_
        exact dv_alloc (cs := #[vi 0, vi 0, .string ByteArray.empty]) rfl (by kernel_rfl) rfl rfl (fun σ β' X' hs hb hv hx => ⟨hv, hx⟩)
      · refine sv_any rfl rfl fun ρ β W X cx => ?_
        exact dv_store (n := 3) rfl (dTn (cx.an 2)).1 (cx.an 1) (by kernel_rfl) (by kernel_rfl) (by kernel_rfl) cx (dTn (cx.an 2)).2 rfl (nle rfl) (by kernel_rfl) rfl rfl rfl (fun σ β' X' hs hb hx => by rw [hb 4]; exact hx)
    intro σ β X W7 hD hst7 fr hfr
    obtain ⟨B4_7, hu_B4_7⟩ : ∃ z, pb (β 4) = z := ⟨_, rfl⟩
    simp only [exq 1 ((dTn (hD 3 lq))), hu_B4_7] at hst7
    simp only [ed 4 ((dTn (hD 2 lq)).1), hu_B4_7] at hfr
    clear hD hu_B4_7; subst hfr; clear σ β X
    refine then_normal (wp_seq (wp_region_Z [0, 1, 3] [[0]] [.c 11 (.agg #[vi ((r.getD k v0).1), vi ((r.getD k v0).2.1), .string ((r.getD k v0).2.2)]), .c 12 (.bool (vrightF (r.getD k v0))), .k 13 (.bool (!(vrightF (r.getD k v0))))] [0] [0, 1] [(11, 0, 3, 14)] hst7 ?_ fun W8 hst8 => ?_))
    · refine ⟨?_, ?_, trivial⟩
      · exact xs4 rfl id fun cx => run_loadB (n := 3) rfl (by kernel_rfl) (by kernel_rfl) (cx.ou 4) (cx.bi 0 rfl) (nle rfl) rfl
      · exact xsc rfl id rfl rfl fun cx => ⟨_, vright_any (r.getD k v0) _, (map1 (cx.an 0))⟩
    refine then_normal ?_
    rcases Bool.eq_false_or_eq_true (vrightF (r.getD k v0)) with hs9 | hs9
    · skip
      refine wp_cond_false (show Act.eval _ _ = .bool false from (congrArg Value.bool (by rw [hs9]; rfl))) (wp_skip (blk_normal (then_normal (wp_region_P [0, 1] [tI 14 ((k : Int) + 1) (by omega), .k 7 (vi ((k : Int) + 1))] [(7, 1, 1, 8), (6, 0, 1, 7)] hst8 fun W10 hst10 => ?_))))
      refine then_normal ?_
      refine ⟨r.length - ((k + 1)), by omega, ?_⟩
      have hp11 := hst10.pick [] (by decide) rfl
      exact ⟨(k + 1), [(gu u3_ 0), vp B4_7, .bool (decide ((k : Int) < (r.length : Int))), .pointer (some ((ad RA).add (k * 3))), .agg #[vi ((r.getD k v0).1), vi ((r.getD k v0).2.1), .string ((r.getD k v0).2.2)], .agg #[vi ((r.getD k v0).1), vi ((r.getD k v0).2.1), .string ((r.getD k v0).2.2)], .bool (vrightF (r.getD k v0)), .bool (!(vrightF (r.getD k v0))), vi ((k : Int) + 1)], by omega, rright_step (by omega) hka hs9, rfl, rfl, hp11⟩
    refine wp_cond_true (show Act.eval _ _ = .bool true from (congrArg Value.bool (by rw [hs9]; rfl))) (wp_seq (wp_region_P [0] [.k 2 (.bool false)] [(2, 0, 1, 3)] hst8 fun W12 hst12 => ?_))
    refine then_normal (wp_ret (blk_ret (then_ret (then_ret (blk_ret (then_ret ?_))))))
    refine bodyPost_ret (v := .bool false) (results_tmp Tryd.results93 rfl) rfl ?_
    exact Ret.bool (rright_bad (by omega) hs9).symm hst12.ext
  have hs6p : ¬ ((k : Int) < (r.length : Int)) := by simpa using hs6
  refine wp_cond_false (show Act.eval _ _ = .bool false from (congrArg Value.bool hs6)) (wp_exit (then_exit (then_exit (blk_eq (then_normal (wp_seq (wp_region_P [0, 1, 3, 7] [.k 15 (.slice RA r.length rc), .k 16 (vi ((r.length : Int))), .k 17 (.bool (decide ((r.length : Int) ≤ 6))), .k 2 (.bool (decide ((r.length : Int) ≤ 6)))] [(2, 3, 1, 3), (12, 0, 3, 15)] hst5 fun W13 hst13 => ?_)))))))
  refine then_normal (wp_ret ?_)
  refine bodyPost_ret (v := .bool (decide ((r.length : Int) ≤ 6))) (results_tmp Tryd.results93 rfl) rfl ?_
  exact Ret.bool ((rright_end (by omega) hka).trans (by simp only [decide_eq_decide]; omega)).symm hst13.ext
end
end Go.Proofs.YtjnplglnnamfdaaDoor
namespace Go.Proofs.YtjnplglnnamfdaaDoor
section
open Go.RowKit
set_option linter.unusedVariables false
set_option linter.unusedSimpArgs false
set_option maxRecDepth 100000 in
set_option maxHeartbeats 2000000 in
theorem vbytes_any (RA : Option Addr) (rc : Nat) (r : List Val) (w : World) (hA : At w RA (flatR r)) (hlr : r.length ≤ 9223372036854775807) :
    Calls Tryd.prog 63 #[.slice RA r.length rc] w (Ret (.string (vbytesF r)) w) := by
  go_enter Tryd.func63, Tryd.ntmps63
  have hst0 := St.start w
  refine wp_seq (wp_region_P [0] [.k 2 (.string ⟨#[]⟩)] [(2, 0, 1, 3)] hst0 fun W1 hst1 => ?_)
  refine then_normal (wp_seq (wp_seq (wp_region_Z [0, 1, 3] [] [.k 6 (.slice RA r.length rc), .c 7 (.bool (rrightF r)), .k 8 (.bool (!(rrightF r)))] [] [1] [(6, 0, 3, 9)] hst1 ?_ fun W2 hst2 => ?_)))
  · refine ⟨?_, trivial⟩
    · exact xsc rfl id rfl rfl fun cx => ⟨_, vrow_any _ _ r _ (hA.ext cx.upd.to_ext) (by omega), (map1 (cx.an 0))⟩
  refine then_normal ?_
  rcases Bool.eq_false_or_eq_true (rrightF r) with hs3 | hs3
  · skip
    refine wp_cond_false (show Act.eval _ _ = .bool false from (congrArg Value.bool (by rw [hs3]; rfl))) (wp_skip (then_normal (wp_seq ?_)))
    have hr6 := rright_len hs3
    have hR := Lib.hid hs3
    refine wp_region_Y [0] [] [[0]] [] [.a 3] (fun ix σ β X => match ix with | 0 => σ 3 = vp (pb (β 3)) ∧ X 0 = eB (pb (β 3)) 157 #[.pointer none, .slice none 0 0] | _ => True) [0] [0] [(3, 0, 1, 4)] hst2 ?_ ?_ ?_
    · exact fun ix _ _ _ _ _ _ hs hb hx h => match ix, h with
      | 0, h => by dsimp only at h ⊢; rw [← hs 3 rfl, ← hb 3 rfl, ← hx 0 rfl]; exact h
      | _ + 1, _ => trivial
    · refine ⟨?_, trivial⟩
      · refine sv_any rfl rfl fun ρ β W X cx => ?_
        exact dv_alloc (cs := #[.pointer none, .slice none 0 0]) rfl (by kernel_rfl) rfl rfl (fun σ β' X' hs hb hv hx => ⟨hv, hx⟩)
    intro σ β X W4 hD hst4 fr hfr
    obtain ⟨B3_4, hu_B3_4⟩ : ∃ z, pb (β 3) = z := ⟨_, rfl⟩
    simp only [exq 0 ((dTn (hD 0 lq)).2), hu_B3_4] at hst4
    simp only [ed 3 ((dTn (hD 0 lq)).1), hu_B3_4] at hfr
    clear hD hu_B3_4; subst hfr; clear σ β X
    refine then_normal (wp_seq (wp_region_Y [0, 1, 3, 7] [[], [], [], [0]] [[], [], [], [1]] [[], [], [], [0]] [.k 9 (.slice RA r.length rc), .k 10 (vi ((r.length : Int))), tW 11 .u8 (r.length : Int) (r.length : Int) (IntWalk.u8_in _ (by omega)), .a 12] (fun ix σ β X => match ix with | 0 => True | 1 => True | 2 => True | 3 => σ 12 = .nilIface ∧ X 1 = eBu B3_4 (rO (X 1)) [UInt8.ofNat (r.length : Int).toNat] | _ => True) [1] [3] [(9, 0, 4, 13)] hst4 ?_ ?_ ?_))
    · exact fun ix _ _ _ _ _ _ hs hb hx h => match ix, h with
      | 3, h => by dsimp only at h ⊢; rw [← hs 12 rfl, ← hx 1 rfl]; exact h
      | 0, _ | 1, _ | 2, _ | _ + 4, _ => trivial
    · refine ⟨?_, trivial⟩
      · refine sv_any rfl rfl fun ρ β W X cx => ?_
        refine DoesU.call (run_callF (args := #[vp B3_4, .int .u8 ((r.length : Int))]) rfl cx.sees rfl (by kernel_rfl) (map2 (cx.ou 3) (cx.an 2))) ?_
        refine (sbc_l _ _ [] _ _ (SbAt.fresh (cx.bi 0 rfl)) (by omega) (by (try simp only [List.length_append, List.length_cons, List.length_nil]); omega)).mono ?_
        rintro e W1 ⟨rfl, hu⟩
        refine ⟨_, rfl, post_sb (by rw [(cx.init 0 _ rfl)]; rfl) rfl rfl hu (fun σ β' X' hs hb hv hx => ?_)⟩
        exact ⟨(hv 12 rfl).1, hx⟩
    intro σ β X W5 hD hst5 fr hfr
    have xX1 : X 1 = _ := (dTn (hD 3 lq)).2
    obtain ⟨r1_5, hu_r1_5⟩ : ∃ z, rO (X 1) = z := ⟨_, rfl⟩
    rw [hu_r1_5] at xX1
    clear hu_r1_5
    simp only [xX1] at hst5
    simp only [ed 12 ((dTn (hD 3 lq)).1)] at hfr
    clear hD xX1; subst hfr; clear σ β X
    refine then_normal (wp_seq (wp_seq (wp_region_P [0, 1, 0] [.k 13 (.slice RA r.length rc), .k 14 (vi ((r.length : Int))), .k 15 (vi 0)] [(13, 0, 3, 16)] hst5 fun W6 hst6 => ?_)))
    refine then_normal (wp_block ?_)
    refine wp_loopN (fun mz az W => ∃ k : Nat, ∃ rb : Option Nat, ∃ u7_ : List Value, k ≤ r.length ∧ mz = r.length - k ∧ az = ⟨#[.slice RA r.length rc, undef, .string ⟨#[]⟩, vp B3_4, undef, (gu u7_ 0), .slice RA r.length rc, .bool (rrightF r), .bool (!(rrightF r)), .slice RA r.length rc, vi ((r.length : Int)), .int .u8 ((r.length : Int)), .nilIface, .slice RA r.length rc, vi ((r.length : Int)), vi ((k : Int)), (gu u7_ 1), (gu u7_ 2), (gu u7_ 3), (gu u7_ 4), (gu u7_ 5), (gu u7_ 6), (gu u7_ 7), (gu u7_ 8), (gu u7_ 9), (gu u7_ 10), (gu u7_ 11), (gu u7_ 12), (gu u7_ 13), (gu u7_ 14), (gu u7_ 15), (gu u7_ 16), (gu u7_ 17), (gu u7_ 18), (gu u7_ 19), (gu u7_ 20), (gu u7_ 21), (gu u7_ 22), (gu u7_ 23), (gu u7_ 24), (gu u7_ 25), (gu u7_ 26), (gu u7_ 27), undef], []⟩ ∧ St w [] [eBu B3_4 rb (bytesTo r k)] W) (r.length - 0) ?_ ?_
    · -- the loop begins
      have hp8 := hst6.pick [0] (by decide) rfl
      exact ⟨0, r1_5, [undef, undef, undef, undef, undef, undef, undef, undef, undef, undef, undef, undef, undef, undef, undef, undef, undef, undef, undef, undef, undef, undef, undef, undef, undef, undef, undef, undef], by omega, rfl, rfl, hp8⟩
    rintro n7 a7 W7 ⟨k, rb, u7_, hkl, rfl, rfl, hst7⟩
    have hbl := bt_len hR.out k
    refine wp_seq (wp_region_P [0] [.k 16 (.bool (decide ((k : Int) < (r.length : Int))))] [(16, 0, 1, 17)] hst7 fun W9 hst9 => ?_)
    refine then_normal (wp_seq ?_)
    rcases Bool.eq_false_or_eq_true (decide ((k : Int) < (r.length : Int))) with hs10 | hs10
    · skip
      have hs10p : (k : Int) < (r.length : Int) := by simpa using hs10
      refine wp_cond_true (show Act.eval _ _ = .bool true from (congrArg Value.bool hs10)) (wp_skip (then_normal (wp_seq (wp_block (wp_seq (wp_region_Y [0, 1, 0, 7] [[], [], [], [1]] [[], [], [1], [2]] [[], [], [], [1]] [.c 17 (.pointer (some ((ad RA).add (k * 3)))), .c 18 (.agg #[vi ((r.getD k v0).1), vi ((r.getD k v0).2.1), .string ((r.getD k v0).2.2)]), .a 5, .n] (fun ix σ β X => match ix with | 0 => True | 1 => True | 2 => σ 5 = vp (pb (β 5)) ∧ X 1 = eB (pb (β 5)) 82 #[vi 0, vi 0, .string ByteArray.empty] | 3 => X 2 = eB (pb (β 5)) 82 #[vi ((r.getD k v0).1), vi ((r.getD k v0).2.1), .string ((r.getD k v0).2.2)] | _ => True) [0, 2] [0, 1, 2, 3] [(5, 2, 1, 6), (11, 0, 2, 13)] hst9 ?_ ?_ ?_))))))
      · exact fun ix _ _ _ _ _ _ hs hb hx h => match ix, h with
        | 2, h => by dsimp only at h ⊢; rw [← hs 5 rfl, ← hb 5 rfl, ← hx 1 rfl]; exact h
        | 3, h => by dsimp only at h ⊢; rw [← hb 5 rfl, ← hx 2 rfl]; exact h
        | 0, _ | 1, _ | _ + 4, _ => trivial
      · refine ⟨?_, ?_, ?_, ?_, trivial⟩
        · exact xs4 rfl id fun cx => run_indexSlM (e := 82) (m := k) (sz := 3) rfl (by kernel_rfl) (by kernel_rfl) (cx.ou 13) (cx.ou 15) (by omega) (by omega) (hA.ext cx.upd.to_ext) (by have h_ := flatLen (f := cellsV) (sz := 3) cellsV_len r; show 0 < (List.flatMap cellsV r).length; omega)
        · exact xs4 rfl id fun cx => run_loadElt (f := cellsV) (m := k) (sz := 3) (off := 0) (n := 3) rfl (by kernel_rfl) (by kernel_rfl) (cx.an 0) rfl cellsV_len (hA.ext cx.upd.to_ext) (getD_some (ts := r) (m := k) v0 (by omega)) (fun k hk => match k, hk with | 0, _ => rfl | 1, _ => rfl | 2, _ => rfl | k + 3, hk => absurd hk (by omega))
        · refine sv_any rfl rfl fun ρ β W X cx => ?_
          exact dv_alloc (cs := #[vi 0, vi 0, .string ByteArray.empty]) rfl (by kernel_rfl) rfl rfl (fun σ β' X' hs hb hv hx => ⟨hv, hx⟩)
        · refine sv_any rfl rfl fun ρ β W X cx => ?_
          exact dv_store (n := 3) rfl (dTn (cx.an 2)).1 (cx.an 1) (by kernel_rfl) (by kernel_rfl) (by kernel_rfl) cx (dTn (cx.an 2)).2 rfl (nle rfl) (by kernel_rfl) rfl rfl rfl (fun σ β' X' hs hb hx => by rw [hb 5]; exact hx)
      intro σ β X W11 hD hst11 fr hfr
      obtain ⟨B5_11, hu_B5_11⟩ : ∃ z, pb (β 5) = z := ⟨_, rfl⟩
      simp only [exq 2 ((dTn (hD 3 lq))), hu_B5_11] at hst11
      simp only [ed 5 ((dTn (hD 2 lq)).1), hu_B5_11] at hfr
      clear hD hu_B5_11; subst hfr; clear σ β X
      refine then_normal (wp_seq ?_)
      have hvp := vright_parts (rright_at hR.out (k := k) (by omega))
      have hps : (putS (r.getD k v0).2.1 8).size = 8 := putS_size _ 8 (by omega)
      refine wp_region_Y [0, 1, 3, 7] [[], [1], [], [0]] [[], [], [], [2]] [[], [], [], [0]] [.k 19 (vp B5_11), .c 20 (vi ((r.getD k v0).1)), tW 21 .u8 ((r.getD k v0).1) ((r.getD k v0).1) (IntWalk.u8_in _ (by omega)), .a 22] (fun ix σ β X => match ix with | 0 => True | 1 => True | 2 => True | 3 => σ 22 = .nilIface ∧ X 2 = eBu B3_4 (rO (X 2)) (bytesTo r k ++ [UInt8.ofNat ((r.getD k v0).1).toNat]) | _ => True) [1, 2] [1, 3] [(19, 0, 4, 23)] hst11 ?_ ?_ ?_
      · exact fun ix _ _ _ _ _ _ hs hb hx h => match ix, h with
        | 3, h => by dsimp only at h ⊢; rw [← hs 22 rfl, ← hx 2 rfl]; exact h
        | 0, _ | 1, _ | 2, _ | _ + 4, _ => trivial
      · refine ⟨?_, ?_, trivial⟩
        · exact xs4 rfl id fun cx => run_load1 rfl (by kernel_rfl) (cx.an 0) ((cx.bi 1 rfl).cell 0)
        · refine sv_any rfl rfl fun ρ β W X cx => ?_
          refine DoesU.call (run_callF (args := #[vp B3_4, .int .u8 ((r.getD k v0).1)]) rfl cx.sees rfl (by kernel_rfl) (map2 (cx.ou 3) (cx.an 2))) ?_
          refine (sbc_l _ _ (bytesTo r k) _ _ (cx.sb (cx.init 0 _ rfl) rfl) (by omega) (by (try simp only [List.length_append, List.length_cons, List.length_nil]); omega)).mono ?_
          rintro e W1 ⟨rfl, hu⟩
          refine ⟨_, rfl, post_sb (by rw [(cx.init 0 _ rfl)]; rfl) rfl rfl hu (fun σ β' X' hs hb hv hx => ?_)⟩
          exact ⟨(hv 22 rfl).1, hx⟩
      intro σ β X W12 hD hst12 fr hfr
      have xX2 : X 2 = _ := (dTn (hD 3 lq)).2
      obtain ⟨r2_12, hu_r2_12⟩ : ∃ z, rO (X 2) = z := ⟨_, rfl⟩
      rw [hu_r2_12] at xX2
      clear hu_r2_12
      simp only [xX2] at hst12
      simp only [ed 22 ((dTn (hD 3 lq)).1)] at hfr
      clear hD xX2; subst hfr; clear σ β X
      refine then_normal (wp_seq (wp_region_Z [0, 1] [[], [0]] [.k 23 (vp B5_11), .c 24 (vi ((r.getD k v0).1))] [0, 1] [1] [(23, 0, 2, 25)] hst12 ?_ fun W13 hst13 => ?_))
      · refine ⟨?_, trivial⟩
        · exact xs4 rfl id fun cx => run_load1 rfl (by kernel_rfl) (cx.an 0) ((cx.bi 0 rfl).cell 0)
      refine then_normal (wp_block (wp_seq (wp_region_P [0, 1] [.k 26 (.bool (((r.getD k v0).1) == 1)), .k 25 (.bool (((r.getD k v0).1) == 1))] [(25, 1, 1, 26), (0, 0, 1, 1)] hst13 fun W14 hst14 => ?_)))
      refine then_normal ?_
      rcases Bool.eq_false_or_eq_true (((r.getD k v0).1) == 1) with hs15 | hs15
      · skip
        have hs15p : ((r.getD k v0).1) = 1 := by simpa using hs15
        refine wp_cond_true (show Act.eval _ _ = .bool true from (congrArg Value.bool hs15)) (wp_region_Y [0, 1, 3, 7, 15] [[], [0], [], [], [1]] [[], [], [], [], [2]] [[], [], [], [], [1]] [.k 27 (.pointer (some ⟨B5_11, 1, none⟩)), .c 28 (vi ((r.getD k v0).2.1)), tW 29 .u64 ((r.getD k v0).2.1) (IntKind.u64.wrap ((r.getD k v0).2.1)) (rfl), .c 30 (.string (putS ((r.getD k v0).2.1) 8)), .a 31] (fun ix σ β X => match ix with | 0 => True | 1 => True | 2 => True | 3 => True | 4 => σ 31 = .tuple #[vi (((putS ((r.getD k v0).2.1) 8).size : Int)), .nilIface] ∧ X 2 = eBu B3_4 (rO (X 2)) ((bytesTo r k ++ [UInt8.ofNat ((r.getD k v0).1).toNat]) ++ (putS ((r.getD k v0).2.1) 8).data.toList) | _ => True) [0, 2] [1, 3, 4] [(27, 0, 5, 32)] hst14 ?_ ?_ ?_)
        · exact fun ix _ _ _ _ _ _ hs hb hx h => match ix, h with
          | 4, h => by dsimp only at h ⊢; rw [← hs 31 rfl, ← hx 2 rfl]; exact h
          | 0, _ | 1, _ | 2, _ | 3, _ | _ + 5, _ => trivial
        · refine ⟨?_, ?_, ?_, trivial⟩
          · exact xs4 rfl id fun cx => run_load1 rfl (by kernel_rfl) (cx.an 0) ((cx.bi 0 rfl).cell 1)
          · exact xsc rfl id rfl rfl fun cx => ⟨_, vwhole_any ((r.getD k v0).2.1) _, (map1 (cx.an 2))⟩
          · refine sv_any rfl rfl fun ρ β W X cx => ?_
            refine DoesU.call (run_callF (args := #[vp B3_4, .string (putS ((r.getD k v0).2.1) 8)]) rfl cx.sees rfl (by kernel_rfl) (map2 (cx.ou 3) (cx.an 3))) ?_
            refine (sbw_l _ _ (bytesTo r k ++ [UInt8.ofNat ((r.getD k v0).1).toNat]) _ _ (cx.sb (cx.init 1 _ rfl) rfl) (by (try simp only [List.length_append, List.length_cons, List.length_nil]); omega)).mono ?_
            rintro e W1 ⟨rfl, hu⟩
            refine ⟨_, rfl, post_sb (by rw [(cx.init 1 _ rfl)]; rfl) rfl rfl hu (fun σ β' X' hs hb hv hx => ?_)⟩
            exact ⟨(hv 31 rfl).1, hx⟩
        intro σ β X W16 hD hst16 fr hfr
        have xX2 : X 2 = _ := (dTn (hD 4 lq)).2
        obtain ⟨r2_16, hu_r2_16⟩ : ∃ z, rO (X 2) = z := ⟨_, rfl⟩
        rw [hu_r2_16] at xX2
        clear hu_r2_16
        simp only [xX2] at hst16
        simp only [ed 31 ((dTn (hD 4 lq)).1)] at hfr
        clear hD xX2; subst hfr; clear σ β X
        refine blk_normal (blk_normal (then_normal (wp_region_P [0, 1] [tI 42 ((k : Int) + 1) (by omega), .k 15 (vi ((k : Int) + 1))] [(15, 1, 1, 16), (26, 0, 1, 27)] hst16 fun W17 hst17 => ?_)))
        refine then_normal ?_
        have hq18 : (bytesTo r k ++ [UInt8.ofNat ((r.getD k v0).1).toNat]) ++ (putS ((r.getD k v0).2.1) 8).data.toList = bytesTo r (k + 1) := bt_int (by omega) (by simpa using hs15)
        rw [hq18] at hst17
        refine ⟨r.length - ((k + 1)), by omega, ?_⟩
        have hp19 := hst17.pick [1] (by decide) rfl
        exact ⟨(k + 1), r2_16, [vp B5_11, .bool (decide ((k : Int) < (r.length : Int))), .pointer (some ((ad RA).add (k * 3))), .agg #[vi ((r.getD k v0).1), vi ((r.getD k v0).2.1), .string ((r.getD k v0).2.2)], vp B5_11, vi ((r.getD k v0).1), .int .u8 ((r.getD k v0).1), .nilIface, vp B5_11, vi ((r.getD k v0).1), .bool (((r.getD k v0).1) == 1), .bool (((r.getD k v0).1) == 1), .pointer (some ⟨B5_11, 1, none⟩), vi ((r.getD k v0).2.1), .int .u64 (IntKind.u64.wrap ((r.getD k v0).2.1)), .string (putS ((r.getD k v0).2.1) 8), .tuple #[vi (((putS ((r.getD k v0).2.1) 8).size : Int)), .nilIface], (gu u7_ 17), (gu u7_ 18), (gu u7_ 19), (gu u7_ 20), (gu u7_ 21), (gu u7_ 22), (gu u7_ 23), (gu u7_ 24), (gu u7_ 25), (gu u7_ 26), vi ((k : Int) + 1)], by omega, rfl, rfl, hp19⟩
      have hs15p : ((r.getD k v0).1) ≠ 1 := by simpa using hs15
      refine wp_cond_false (show Act.eval _ _ = .bool false from (congrArg Value.bool hs15)) (wp_seq (wp_region_P [0, 1] [.k 33 (.bool (((r.getD k v0).1) == 2)), .k 32 (.bool (((r.getD k v0).1) == 2))] [(32, 1, 1, 33), (0, 0, 1, 1)] hst14 fun W20 hst20 => ?_))
      refine then_normal ?_
      rcases Bool.eq_false_or_eq_true (((r.getD k v0).1) == 2) with hs21 | hs21
      · skip
        have hs21p : ((r.getD k v0).1) = 2 := by simpa using hs21
        refine wp_cond_true (show Act.eval _ _ = .bool true from (congrArg Value.bool hs21)) (wp_seq ?_)
        have hz40 : (r.getD k v0).2.2.size ≤ 40 := hvp.2.2 (by simpa using hs21)
        refine wp_region_Y [0, 1, 3, 7, 15] [[], [0], [], [], [1]] [[], [], [], [], [2]] [[], [], [], [], [1]] [.k 34 (.pointer (some ⟨B5_11, 2, none⟩)), .c 35 (.string ((r.getD k v0).2.2)), .k 36 (vi ((((r.getD k v0).2.2).size : Int))), tW 37 .u8 (((r.getD k v0).2.2).size : Int) (((r.getD k v0).2.2).size : Int) (IntWalk.u8_in _ (by omega)), .a 38] (fun ix σ β X => match ix with | 0 => True | 1 => True | 2 => True | 3 => True | 4 => σ 38 = .nilIface ∧ X 2 = eBu B3_4 (rO (X 2)) ((bytesTo r k ++ [UInt8.ofNat ((r.getD k v0).1).toNat]) ++ [UInt8.ofNat (((r.getD k v0).2.2).size : Int).toNat]) | _ => True) [0, 2] [1, 4] [(34, 0, 5, 39)] hst20 ?_ ?_ ?_
        · exact fun ix _ _ _ _ _ _ hs hb hx h => match ix, h with
          | 4, h => by dsimp only at h ⊢; rw [← hs 38 rfl, ← hx 2 rfl]; exact h
          | 0, _ | 1, _ | 2, _ | 3, _ | _ + 5, _ => trivial
        · refine ⟨?_, ?_, trivial⟩
          · exact xs4 rfl id fun cx => run_load1 rfl (by kernel_rfl) (cx.an 0) ((cx.bi 0 rfl).cell 2)
          · refine sv_any rfl rfl fun ρ β W X cx => ?_
            refine DoesU.call (run_callF (args := #[vp B3_4, .int .u8 ((((r.getD k v0).2.2).size : Int))]) rfl cx.sees rfl (by kernel_rfl) (map2 (cx.ou 3) (cx.an 3))) ?_
            refine (sbc_l _ _ (bytesTo r k ++ [UInt8.ofNat ((r.getD k v0).1).toNat]) _ _ (cx.sb (cx.init 1 _ rfl) rfl) (by omega) (by (try simp only [List.length_append, List.length_cons, List.length_nil]); omega)).mono ?_
            rintro e W1 ⟨rfl, hu⟩
            refine ⟨_, rfl, post_sb (by rw [(cx.init 1 _ rfl)]; rfl) rfl rfl hu (fun σ β' X' hs hb hv hx => ?_)⟩
            exact ⟨(hv 38 rfl).1, hx⟩
        intro σ β X W22 hD hst22 fr hfr
        have xX2 : X 2 = _ := (dTn (hD 4 lq)).2
        obtain ⟨r2_22, hu_r2_22⟩ : ∃ z, rO (X 2) = z := ⟨_, rfl⟩
        rw [hu_r2_22] at xX2
        clear hu_r2_22
        simp only [xX2] at hst22
        simp only [ed 38 ((dTn (hD 4 lq)).1)] at hfr
        clear hD xX2; subst hfr; clear σ β X
        refine then_normal (wp_region_Y [0, 1, 3] [[], [0], [1]] [[], [], [2]] [[], [], [1]] [.k 39 (.pointer (some ⟨B5_11, 2, none⟩)), .c 40 (.string ((r.getD k v0).2.2)), .a 41] (fun ix σ β X => match ix with | 0 => True | 1 => True | 2 => σ 41 = .tuple #[vi ((((r.getD k v0).2.2).size : Int)), .nilIface] ∧ X 2 = eBu B3_4 (rO (X 2)) (((bytesTo r k ++ [UInt8.ofNat ((r.getD k v0).1).toNat]) ++ [UInt8.ofNat (((r.getD k v0).2.2).size : Int).toNat]) ++ ((r.getD k v0).2.2).data.toList) | _ => True) [0, 2] [1, 2] [(39, 0, 3, 42)] hst22 ?_ ?_ ?_)
        · exact fun ix _ _ _ _ _ _ hs hb hx h => match ix, h with
          | 2, h => by dsimp only at h ⊢; rw [← hs 41 rfl, ← hx 2 rfl]; exact h
          | 0, _ | 1, _ | _ + 3, _ => trivial
        · refine ⟨?_, ?_, trivial⟩
          · exact xs4 rfl id fun cx => run_load1 rfl (by kernel_rfl) (cx.an 0) ((cx.bi 0 rfl).cell 2)
          · refine sv_any rfl rfl fun ρ β W X cx => ?_
            refine DoesU.call (run_callF (args := #[vp B3_4, .string ((r.getD k v0).2.2)]) rfl cx.sees rfl (by kernel_rfl) (map2 (cx.ou 3) (cx.an 1))) ?_
            refine (sbw_l _ _ ((bytesTo r k ++ [UInt8.ofNat ((r.getD k v0).1).toNat]) ++ [UInt8.ofNat (((r.getD k v0).2.2).size : Int).toNat]) _ _ (cx.sb (cx.init 1 _ rfl) rfl) (by (try simp only [List.length_append, List.length_cons, List.length_nil]); omega)).mono ?_
            rintro e W1 ⟨rfl, hu⟩
            refine ⟨_, rfl, post_sb (by rw [(cx.init 1 _ rfl)]; rfl) rfl rfl hu (fun σ β' X' hs hb hv hx => ?_)⟩
            exact ⟨(hv 41 rfl).1, hx⟩
        intro σ β X W23 hD hst23 fr hfr
        have xX2 : X 2 = _ := (dTn (hD 2 lq)).2
        obtain ⟨r2_23, hu_r2_23⟩ : ∃ z, rO (X 2) = z := ⟨_, rfl⟩
        rw [hu_r2_23] at xX2
        clear hu_r2_23
        simp only [xX2] at hst23
        simp only [ed 41 ((dTn (hD 2 lq)).1)] at hfr
        clear hD xX2; subst hfr; clear σ β X
        refine blk_normal (blk_normal (then_normal (wp_region_P [0, 1] [tI 42 ((k : Int) + 1) (by omega), .k 15 (vi ((k : Int) + 1))] [(15, 1, 1, 16), (26, 0, 1, 27)] hst23 fun W24 hst24 => ?_)))
        refine then_normal ?_
        have hq25 : ((bytesTo r k ++ [UInt8.ofNat ((r.getD k v0).1).toNat]) ++ [UInt8.ofNat (((r.getD k v0).2.2).size : Int).toNat]) ++ ((r.getD k v0).2.2).data.toList = bytesTo r (k + 1) := bt_text (by omega) (by simpa using hs15) (by simpa using hs21)
        rw [hq25] at hst24
        refine ⟨r.length - ((k + 1)), by omega, ?_⟩
        have hp26 := hst24.pick [1] (by decide) rfl
        exact ⟨(k + 1), r2_23, [vp B5_11, .bool (decide ((k : Int) < (r.length : Int))), .pointer (some ((ad RA).add (k * 3))), .agg #[vi ((r.getD k v0).1), vi ((r.getD k v0).2.1), .string ((r.getD k v0).2.2)], vp B5_11, vi ((r.getD k v0).1), .int .u8 ((r.getD k v0).1), .nilIface, vp B5_11, vi ((r.getD k v0).1), .bool (((r.getD k v0).1) == 1), .bool (((r.getD k v0).1) == 1), (gu u7_ 12), (gu u7_ 13), (gu u7_ 14), (gu u7_ 15), (gu u7_ 16), .bool (((r.getD k v0).1) == 2), .bool (((r.getD k v0).1) == 2), .pointer (some ⟨B5_11, 2, none⟩), .string ((r.getD k v0).2.2), vi ((((r.getD k v0).2.2).size : Int)), .int .u8 ((((r.getD k v0).2.2).size : Int)), .nilIface, .pointer (some ⟨B5_11, 2, none⟩), .string ((r.getD k v0).2.2), .tuple #[vi ((((r.getD k v0).2.2).size : Int)), .nilIface], vi ((k : Int) + 1)], by omega, rfl, rfl, hp26⟩
      have hs21p : ((r.getD k v0).1) ≠ 2 := by simpa using hs21
      refine wp_cond_false (show Act.eval _ _ = .bool false from (congrArg Value.bool hs21)) (wp_skip (blk_normal (blk_normal (then_normal (wp_region_P [0, 1] [tI 42 ((k : Int) + 1) (by omega), .k 15 (vi ((k : Int) + 1))] [(15, 1, 1, 16), (26, 0, 1, 27)] hst20 fun W27 hst27 => ?_)))))
      refine then_normal ?_
      have hq28 : bytesTo r k ++ [UInt8.ofNat ((r.getD k v0).1).toNat] = bytesTo r (k + 1) := bt_none (by omega) (by simpa using hs15) (by simpa using hs21)
      rw [hq28] at hst27
      refine ⟨r.length - ((k + 1)), by omega, ?_⟩
      have hp29 := hst27.pick [1] (by decide) rfl
      exact ⟨(k + 1), r2_12, [vp B5_11, .bool (decide ((k : Int) < (r.length : Int))), .pointer (some ((ad RA).add (k * 3))), .agg #[vi ((r.getD k v0).1), vi ((r.getD k v0).2.1), .string ((r.getD k v0).2.2)], vp B5_11, vi ((r.getD k v0).1), .int .u8 ((r.getD k v0).1), .nilIface, vp B5_11, vi ((r.getD k v0).1), .bool (((r.getD k v0).1) == 1), .bool (((r.getD k v0).1) == 1), (gu u7_ 12), (gu u7_ 13), (gu u7_ 14), (gu u7_ 15), (gu u7_ 16), .bool (((r.getD k v0).1) == 2), .bool (((r.getD k v0).1) == 2), (gu u7_ 19), (gu u7_ 20), (gu u7_ 21), (gu u7_ 22), (gu u7_ 23), (gu u7_ 24), (gu u7_ 25), (gu u7_ 26), vi ((k : Int) + 1)], by omega, rfl, rfl, hp29⟩
    have hs10p : ¬ ((k : Int) < (r.length : Int)) := by simpa using hs10
    refine wp_cond_false (show Act.eval _ _ = .bool false from (congrArg Value.bool hs10)) (wp_exit (then_exit (then_exit (blk_eq (then_normal (wp_seq (wp_region_Y [0, 1] [[0]] [] [[0]] [.a 43, .c 2 (.string (strL (bytesTo r k)))] (fun ix σ β X => match ix with | 0 => σ 43 = .string (strL (bytesTo r k)) | _ => True) [] [0, 1] [(2, 1, 1, 3), (40, 0, 1, 41)] hst9 ?_ ?_ ?_)))))))
    · exact fun ix _ _ _ _ _ _ hs hb hx h => match ix, h with
      | 0, h => (hs _ rfl).symm.trans h
      | _ + 1, _ => trivial
    · refine ⟨?_, ?_, trivial⟩
      · refine sv_any rfl rfl fun ρ β W X cx => ?_
        refine DoesU.call (run_callF (args := #[vp B3_4]) rfl cx.sees rfl (by kernel_rfl) (map1 (cx.ou 3))) ?_
        refine (sbstr_l _ _ (bytesTo r k) _ (cx.sb (cx.init 0 _ rfl) rfl) (bt_ne r k) (by (try simp only [List.length_append, List.length_cons, List.length_nil]); omega)).mono ?_
        rintro e W1 ⟨rfl, hu⟩
        refine ⟨_, rfl, post_kill (by rw [(cx.init 0 _ rfl)]; rfl) rfl rfl hu (fun σ β' X' hs hb hv => ?_)⟩
        exact (hv 43 rfl).1
      · exact xs4 rfl id fun cx => run_assign' rfl (dTn (cx.an 0))
    intro σ β X W30 hD hst30 fr hfr
    simp only [ed 43 ((dTn (hD 0 lq)))] at hfr
    clear hD; subst hfr; clear σ β X
    refine then_normal (wp_ret ?_)
    refine bodyPost_ret (v := .string (strL (bytesTo r k))) (results_tmp Tryd.results63 rfl) rfl ?_
    exact ⟨by rw [vbytesF, if_pos hR.out, show r.length = k by omega], hst30.ext⟩
  refine wp_cond_true (show Act.eval _ _ = .bool true from (congrArg Value.bool (by rw [hs3]; rfl))) (wp_seq (wp_region_P [0] [.k 2 (.string ⟨#[]⟩)] [(2, 0, 1, 3)] hst2 fun W31 hst31 => ?_))
  refine then_normal (wp_ret (then_ret ?_))
  refine bodyPost_ret (v := .string ⟨#[]⟩) (results_tmp Tryd.results63 rfl) rfl ?_
  exact ⟨by rw [vbytesF, hs3]; rfl, hst31.ext⟩
end
end Go.Proofs.YtjnplglnnamfdaaDoor
namespace Go.Proofs
section
open Go.Shelf
open Go.RowKit in
def Tryd.lays156_ren : Go.Shelf.Ren := ⟨fun | 156 => 60 | 165 => 89 | 166 => 90 | 169 => 91 | 240 => 110 | 241 => 111 | 276 => 116 | 277 => 117 | n => n, fun | 31 => 84 | 9 => 9 | 3 => 3 | 4 => 4 | 0 => 0 | 20 => 20 | 72 => 157 | 76 => 161 | 70 => 155 | 37 => 143 | 75 => 160 | 127 => 179 | 164 => 182 | 5 => 5 | 80 => 145 | n => n, fun | n => n⟩
theorem Tryd.lays156 : Go.Proofs.Lays.n156 Tryd.prog Tryd.lays156_ren := {
  mixed := by kernel_rfl
  f156 := Tryd.func60.trans (congrArg some (by kernel_rfl))
  f165 := Tryd.func89.trans (congrArg some (by kernel_rfl))
  f166 := Tryd.func90.trans (congrArg some (by kernel_rfl))
  f169 := Tryd.func91.trans (congrArg some (by kernel_rfl))
  f240 := Tryd.func110.trans (congrArg some (by kernel_rfl))
  f241 := Tryd.func111.trans (congrArg some (by kernel_rfl))
  f276 := Tryd.func116.trans (congrArg some (by kernel_rfl))
  f277 := Tryd.func117.trans (congrArg some (by kernel_rfl))
  t0 := Tryd.underlying0
  a0 := Tryd.isAgg0
  z0 := Tryd.sizeOf0
  v0 := Tryd.zeroValue0
  t3 := Tryd.underlying3
  a3 := Tryd.isAgg3
  z3 := Tryd.sizeOf3
  v3 := Tryd.zeroValue3
  t4 := Tryd.underlying4
  a4 := Tryd.isAgg4
  z4 := Tryd.sizeOf4
  v4 := Tryd.zeroValue4
  t9 := Tryd.underlying9
  a9 := Tryd.isAgg9
  z9 := Tryd.sizeOf9
  v9 := Tryd.zeroValue9
  t20 := Tryd.underlying20
  a20 := Tryd.isAgg20
  z20 := Tryd.sizeOf20
  v20 := Tryd.zeroValue20
  t31 := Tryd.underlying84
  a31 := Tryd.isAgg84
  z31 := Tryd.sizeOf84
  v31 := Tryd.zeroValue84
  t37 := Tryd.underlying143
  a37 := Tryd.isAgg143
  z37 := Tryd.sizeOf143
  v37 := Tryd.zeroValue143
  t70 := Tryd.underlying155
  a70 := Tryd.isAgg155
  z70 := Tryd.sizeOf155
  v70 := Tryd.zeroValue155
  t72 := Tryd.underlying157
  a72 := Tryd.isAgg157
  z72 := Tryd.sizeOf157
  v72 := Tryd.zeroValue157
  t75 := Tryd.underlying160
  a75 := Tryd.isAgg160
  z75 := Tryd.sizeOf160
  v75 := Tryd.zeroValue160
  t76 := Tryd.underlying161
  a76 := Tryd.isAgg161
  z76 := Tryd.sizeOf161
  v76 := Tryd.zeroValue161
  t127 := Tryd.underlying179
  a127 := Tryd.isAgg179
  z127 := Tryd.sizeOf179
  v127 := Tryd.zeroValue179
  t164 := Tryd.underlying182
  a164 := Tryd.isAgg182
  z164 := Tryd.sizeOf182
  v164 := Tryd.zeroValue182 }
theorem Tryd.Builder_Extra_156 : Builder.Extra Tryd.prog Tryd.lays156_ren := {
  sizeBuilder := by kernel_rfl
  liesBuilder := by kernel_rfl
  t5 := Tryd.underlying5
  a5 := Tryd.isAgg5
  z5 := Tryd.sizeOf5
  v5 := Tryd.zeroValue5
  infoByte := by kernel_rfl
  cellsByte := by kernel_rfl
  sizeByte := by kernel_rfl
  neB5 := by decide }
open Go.RowKit in
open Go.RowKit in
theorem Tryd.strings_Join (bk o c : Nat) (xs : List ByteArray) (sep : ByteArray) (w : World) (hcells : ∀ (j : Nat) x, xs[j]? = some x → w.cell? ⟨bk, o + j, none⟩ = some (.string x)) (hbk : bk < w.heap.size) (hN : xs.length ≤ 140737488355328) (hcap : xs.length ≤ c) (hlen : (Lib.join (xs.map (·.data.toList)) sep.data.toList).length ≤ 140737488355328) :
    Calls Tryd.prog 60 #[.slice (some ⟨bk, o, none⟩) xs.length c, .string sep] w fun e w' => e = .returned (.string ⟨(Lib.join (xs.map (·.data.toList)) sep.data.toList).toArray⟩) ∧ Below w.heap.size w w' := Any.strings_Join Tryd.lays156 Tryd.Builder_Extra_156 bk o c xs sep w hcells hbk hN hcap hlen
open Go.RowKit in
end
end Go.Proofs
namespace Go.Proofs.YtjnplglnnamfdaaDoor
section
open Go.RowKit
set_option linter.unusedVariables false
set_option linter.unusedSimpArgs false
def idxBad (r : List Val) : Int := if r.all vrightF = true then -1 else ((r.takeWhile vrightF).length : Int)
theorem idx_bad {r : List Val} {k : Nat} (hk : k < r.length) (h : (r.take k).all vrightF = true) (h2 : vrightF (r.getD k v0) = false) : (k : Int) = idxBad r := by
  have hb : r.all vrightF = false := by
    rw [List.all_eq_false]
    rw [List.getD_eq_getElem?_getD, List.getElem?_eq_getElem hk] at h2
    exact ⟨r[k], List.getElem_mem hk, by simpa using h2⟩
  rw [idxBad, hb, if_neg (by simp)]
  congr 1
  have hs : r = r.take k ++ r[k] :: r.drop (k + 1) := by rw [List.getElem_cons_drop, List.take_append_drop]
  have e1 : r.takeWhile vrightF = r.take k := by
    conv => lhs; rw [hs]
    rw [List.takeWhile_append_of_pos (by rw [List.all_eq_true] at h; exact h)]
    rw [List.getD_eq_getElem?_getD, List.getElem?_eq_getElem hk] at h2
    rw [List.takeWhile_cons_of_neg (by simpa using h2), List.append_nil]
  rw [e1, List.length_take]; omega
theorem idx_none {r : List Val} {k : Nat} (hk : r.length ≤ k) (h : (r.take k).all vrightF = true) : (-1 : Int) = idxBad r := by
  rw [List.take_of_length_le hk] at h
  rw [idxBad, if_pos h]
theorem idx_ge (r : List Val) : decide (0 ≤ idxBad r) = !(r.all vrightF) := by
  rw [idxBad]
  cases h : r.all vrightF with
  | true => simp
  | false => simp
theorem Ext.below_ {x z : World} (k : Below x.heap.size x z) : Ext x z :=
  ⟨k.os, k.tape, k.output, k.size, fun i hi => k.block i hi⟩
def catS (l : List ByteArray) : ByteArray := strL (l.flatMap fun s => s.data.toList)
theorem join_any (v : Value) (xs : List ByteArray) (w : World) (hown : w.ownsRow 0 9 1 v xs.length (xs.map Value.string)) (hne : 0 < xs.length) (hlen : ∀ s ∈ xs, s.size ≤ 1000000) (hN : xs.length ≤ 100) :
    Calls Tryd.prog 60 #[v, .string ⟨#[]⟩] w (Ret (.string (catS xs)) w) := by
  have hlt := hown.lt
  rcases hown.2 with ⟨hv, h0⟩ | ⟨g, cap, cur, hv, hb, hg, hle, hmx, hcs, htk⟩
  · omega
  · subst hv
    have hj : Lib.join (xs.map (·.data.toList)) [] = xs.flatMap fun s => s.data.toList := by
      rw [Lib.join, List.intercalate]
      have : ∀ l : List (List UInt8), (List.intersperse [] l).flatten = l.flatten := by
        intro l
        induction l with
        | nil => rfl
        | cons a l ih =>
          cases l with
          | nil => rfl
          | cons b l => rw [List.intersperse_cons_cons, List.flatten_cons, List.flatten_cons, ih]; simp
      rw [this, List.flatMap_def]
    have hl : ∀ l : List ByteArray, (∀ s ∈ l, s.size ≤ 1000000) → (l.flatMap fun s => s.data.toList).length ≤ l.length * 1000000 := by
      intro l
      induction l with
      | nil => simp
      | cons a l ih =>
        intro h
        have h1 := ih fun s hs => h s (by simp [hs])
        have h2 : a.data.toList.length ≤ 1000000 := by rw [Array.length_toList]; exact h a (by simp)
        rw [List.flatMap_cons, List.length_append, List.length_cons, Nat.add_mul]
        omega
    have hl' := hl xs hlen
    refine (Tryd.strings_Join g 0 cap xs ⟨#[]⟩ w (fun j x hx => ?_) (hlt g rfl).2 (by omega) (by omega) ?_).mono ?_
    · have hjl := (List.getElem?_eq_some_iff.1 hx).1
      rw [Nat.zero_add, hown.cellAt j (by simpa using hjl)]
      simp [hx]
    · show (Lib.join (xs.map (·.data.toList)) []).length ≤ _
      rw [hj]
      have : xs.length * 1000000 ≤ 100 * 1000000 := Nat.mul_le_mul_right _ hN
      omega
    · rintro e w' ⟨rfl, hb⟩
      refine ⟨?_, Ext.below_ hb⟩
      show Ending.returned (.string ⟨(Lib.join (xs.map (·.data.toList)) []).toArray⟩) = _
      rw [hj]
      rfl
def onZ (b : Int) : Bool := b == 0 || onF b
def tnextF (n1 n2 : Int) : Bool := (n1 == -1 && n2 == 0) || (decide (0 ≤ n1) && decide (n1 < 400) && decide (0 ≤ n2) && decide (n2 < 24))
def trightF (a b n1 n2 : Int) (rs : List Val) : Bool := (a == 2 || onF a) && onZ b && tnextF n1 n2 && rrightF rs
def hotI (ho : Bool) : Int := if ho then 1 else 0
def tbytesF (a b n1 n2 : Int) (ho : Bool) (rs : List Val) : ByteArray :=
  if trightF a b n1 n2 rs = true then catS [putS a 1, putS b 1, putS (n1 + 1) 2, putS n2 1, putS (hotI ho) 1, textO (vbytesF rs)] else ByteArray.empty
theorem vbytes_size (r : List Val) : (vbytesF r).size ≤ 301 := by
  rw [vbytesF]
  split
  · rename_i h
    have := bt_len h r.length
    show (bytesTo r r.length).toArray.size ≤ 301
    simpa using this
  · exact Nat.zero_le _
theorem tright_parts {a b n1 n2 : Int} {rs : List Val} (h : trightF a b n1 n2 rs = true) : 0 ≤ a ∧ a < 128 ∧ 0 ≤ b ∧ b < 128 ∧ -1 ≤ n1 ∧ n1 < 400 ∧ 0 ≤ n2 ∧ n2 < 24 ∧ rrightF rs = true := by
  simp only [trightF, onZ, tnextF, onF, Bool.and_eq_true, Bool.or_eq_true, decide_eq_true_eq, beq_iff_eq] at h
  refine ⟨?_, ?_, ?_, ?_, ?_, ?_, ?_, ?_, h.2⟩ <;> omega
set_option maxRecDepth 100000 in
set_option maxHeartbeats 2000000 in
theorem trightv_any (v : Val) (w : World) :
    Calls Tryd.prog 86 #[.agg #[.int .i64 v.1, .int .i64 v.2.1, .string v.2.2]] w (Ret (.bool (!(vrightF v))) w) := by
  go_enter Tryd.func86, Tryd.ntmps86
  have hst0 := St.start w
  refine wp_seq (wp_region_Y [0, 0] [] [[0]] [] [.a 1, .k 2 (.bool false)] (fun ix σ β X => match ix with | 0 => σ 1 = vp (pb (β 1)) ∧ X 0 = eB (pb (β 1)) 82 #[vi v.1, vi v.2.1, .string v.2.2] | _ => True) [0] [0] [(1, 0, 2, 3)] hst0 ?_ ?_ ?_)
  · exact fun ix _ _ _ _ _ _ hs hb hx h => match ix, h with
    | 0, h => by dsimp only at h ⊢; rw [← hs 1 rfl, ← hb 1 rfl, ← hx 0 rfl]; exact h
    | _ + 1, _ => trivial
  · refine ⟨?_, trivial⟩
    · refine sv_any rfl rfl fun ρ β W X cx => ?_
      exact dv_box (cs := #[vi v.1, vi v.2.1, .string v.2.2]) rfl (cx.ou 0) rfl rfl rfl (fun σ β' X' hs hb hv hx => ⟨hv, hx⟩)
  intro σ β X W1 hD hst1 fr hfr
  obtain ⟨B1_1, hu_B1_1⟩ : ∃ z, pb (β 1) = z := ⟨_, rfl⟩
  simp only [exq 0 ((dTn (hD 0 lq)).2), hu_B1_1] at hst1
  simp only [ed 1 ((dTn (hD 0 lq)).1), hu_B1_1] at hfr
  clear hD hu_B1_1; subst hfr; clear σ β X
  refine then_normal (wp_seq (wp_region_Z [0, 1, 3, 7] [[0]] [.c 3 (.agg #[vi v.1, vi v.2.1, .string v.2.2]), .c 4 (.bool (vrightF (v.1, v.2.1, v.2.2))), .k 5 (.bool (!(vrightF (v.1, v.2.1, v.2.2)))), .k 2 (.bool (!(vrightF (v.1, v.2.1, v.2.2))))] [0] [0, 1] [(2, 3, 1, 3), (0, 0, 3, 3)] hst1 ?_ fun W2 hst2 => ?_))
  · refine ⟨?_, ?_, trivial⟩
    · exact xs4 rfl id fun cx => run_loadB (n := 3) rfl (by kernel_rfl) (by kernel_rfl) (cx.ou 1) (cx.bi 0 rfl) (nle rfl) rfl
    · exact xsc rfl id rfl rfl fun cx => ⟨_, vright_any (v.1, v.2.1, v.2.2) _, (map1 (cx.an 0))⟩
  refine then_normal (wp_ret ?_)
  refine bodyPost_ret (v := .bool (!(vrightF (v.1, v.2.1, v.2.2)))) (results_tmp Tryd.results86 rfl) rfl ?_
  exact Ret.of rfl hst2.ext
set_option maxRecDepth 100000 in
set_option maxHeartbeats 2000000 in
theorem indexf_any (RA : Option Addr) (rc : Nat) (r : List Val) (w : World) (hA : At w RA (flatR r)) (hlr : r.length ≤ 9223372036854775807) :
    Calls Tryd.prog 109 #[.slice RA r.length rc, .func (.func 86) #[] #[]] w (Ret (.int .i64 (idxBad r)) w) := by
  go_enter Tryd.func109, Tryd.ntmps109
  have hst0 := St.start w
  refine wp_seq (wp_region_P [0] [.k 4 (vi 0)] [(4, 0, 1, 5)] hst0 fun W1 hst1 => ?_)
  refine then_normal (wp_seq (wp_seq (wp_region_P [0, 1, 0] [.k 6 (.slice RA r.length rc), .k 7 (vi ((r.length : Int))), .k 8 (vi 0)] [(6, 0, 3, 9)] hst1 fun W2 hst2 => ?_)))
  refine then_normal (wp_block ?_)
  refine wp_loopN (fun mz az W => ∃ k : Nat, ∃ u3_ : List Value, k ≤ r.length ∧ (r.take k).all vrightF = true ∧ mz = r.length - k ∧ az = ⟨#[.slice RA r.length rc, .func (.func 86) #[] #[], undef, undef, (gu u3_ 0), (gu u3_ 1), .slice RA r.length rc, vi ((r.length : Int)), vi ((k : Int)), (gu u3_ 2), (gu u3_ 3), (gu u3_ 4), (gu u3_ 5), (gu u3_ 6), (gu u3_ 7), (gu u3_ 8), (gu u3_ 9), (gu u3_ 10), (gu u3_ 11)], []⟩ ∧ St w [] [] W) (r.length - 0) ?_ ?_
  · -- the loop begins
    have hp4 := hst2.pick [] (by decide) rfl
    exact ⟨0, [vi 0, undef, undef, undef, undef, undef, undef, undef, undef, undef, undef, undef], by omega, rfl, rfl, rfl, hp4⟩
  rintro n3 a3 W3 ⟨k, u3_, hkl, hka, rfl, rfl, hst3⟩
  refine wp_seq (wp_region_P [0] [.k 9 (.bool (decide ((k : Int) < (r.length : Int))))] [(9, 0, 1, 10)] hst3 fun W5 hst5 => ?_)
  refine then_normal (wp_seq ?_)
  rcases Bool.eq_false_or_eq_true (decide ((k : Int) < (r.length : Int))) with hs6 | hs6
  · skip
    have hs6p : (k : Int) < (r.length : Int) := by simpa using hs6
    refine wp_cond_true (show Act.eval _ _ = .bool true from (congrArg Value.bool hs6)) (wp_skip (then_normal (wp_seq (wp_block (wp_seq (wp_region_P [0, 1] [.k 10 (vi ((k : Int))), .k 5 (vi ((k : Int)))] [(5, 1, 1, 6), (4, 0, 1, 5)] hst5 fun W7 hst7 => ?_))))))
    refine then_normal (wp_seq (wp_region_Z [0, 0, 0, 6, 14, 31] [] [.k 11 (.func (.func 86) #[] #[]), .k 12 (.slice RA r.length rc), .k 13 (vi ((k : Int))), .c 14 (.pointer (some ((ad RA).add (k * 3)))), .c 15 (.agg #[vi ((r.getD k v0).1), vi ((r.getD k v0).2.1), .string ((r.getD k v0).2.2)]), .c 16 (.bool (!(vrightF (r.getD k v0))))] [] [3, 4, 5] [(11, 0, 6, 17)] hst7 ?_ fun W8 hst8 => ?_))
    · refine ⟨?_, ?_, ?_, trivial⟩
      · exact xs4 rfl id fun cx => run_indexSlM (e := 82) (m := k) (sz := 3) rfl (by kernel_rfl) (by kernel_rfl) (cx.an 1) (cx.an 2) (by omega) (by omega) (hA.ext cx.upd.to_ext) (by have h_ := flatLen (f := cellsV) (sz := 3) cellsV_len r; show 0 < (List.flatMap cellsV r).length; omega)
      · exact xs4 rfl id fun cx => run_loadElt (f := cellsV) (m := k) (sz := 3) (off := 0) (n := 3) rfl (by kernel_rfl) (by kernel_rfl) (cx.an 3) rfl cellsV_len (hA.ext cx.upd.to_ext) (getD_some (ts := r) (m := k) v0 (by omega)) (fun k hk => match k, hk with | 0, _ => rfl | 1, _ => rfl | 2, _ => rfl | k + 3, hk => absurd hk (by omega))
      · exact sv_call rfl rfl rfl rfl rfl (fun _ _ _ h => h) fun ρ β W X cx => ⟨_, _, run_callV (f := 86) (args := #[.agg #[vi ((r.getD k v0).1), vi ((r.getD k v0).2.1), .string ((r.getD k v0).2.2)]]) (args' := #[.agg #[vi ((r.getD k v0).1), vi ((r.getD k v0).2.1), .string ((r.getD k v0).2.2)]]) rfl rfl (cx.an 0) (by kernel_rfl) (map1 (cx.an 4)) rfl, trightv_any (r.getD k v0) _⟩
    refine then_normal ?_
    rcases Bool.eq_false_or_eq_true (vrightF (r.getD k v0)) with hs9 | hs9
    · skip
      refine wp_cond_false (show Act.eval _ _ = .bool false from (congrArg Value.bool (by rw [hs9]; rfl))) (wp_skip (blk_normal (then_normal (wp_region_P [0, 1] [tI 18 ((k : Int) + 1) (by omega), .k 8 (vi ((k : Int) + 1))] [(8, 1, 1, 9), (9, 0, 1, 10)] hst8 fun W10 hst10 => ?_))))
      refine then_normal ?_
      refine ⟨r.length - ((k + 1)), by omega, ?_⟩
      have hp11 := hst10.pick [] (by decide) rfl
      exact ⟨(k + 1), [(gu u3_ 0), vi ((k : Int)), .bool (decide ((k : Int) < (r.length : Int))), vi ((k : Int)), .func (.func 86) #[] #[], .slice RA r.length rc, vi ((k : Int)), .pointer (some ((ad RA).add (k * 3))), .agg #[vi ((r.getD k v0).1), vi ((r.getD k v0).2.1), .string ((r.getD k v0).2.2)], .bool (!(vrightF (r.getD k v0))), (gu u3_ 10), vi ((k : Int) + 1)], by omega, rright_step (by omega) hka hs9, rfl, rfl, hp11⟩
    refine wp_cond_true (show Act.eval _ _ = .bool true from (congrArg Value.bool (by rw [hs9]; rfl))) (wp_seq (wp_region_P [0, 1] [.k 17 (vi ((k : Int))), .k 4 (vi ((k : Int)))] [(4, 1, 1, 5), (12, 0, 1, 13)] hst8 fun W12 hst12 => ?_))
    refine then_normal (wp_ret (blk_ret (then_ret (then_ret (blk_ret (then_ret ?_))))))
    refine bodyPost_ret (v := vi ((k : Int))) (results_tmp Tryd.results109 rfl) rfl ?_
    exact Ret.int (idx_bad (by omega) hka hs9) hst12.ext
  have hs6p : ¬ ((k : Int) < (r.length : Int)) := by simpa using hs6
  refine wp_cond_false (show Act.eval _ _ = .bool false from (congrArg Value.bool hs6)) (wp_exit (then_exit (then_exit (blk_eq (then_normal (wp_seq (wp_region_P [0] [.k 4 (vi (-1))] [(4, 0, 1, 5)] hst5 fun W13 hst13 => ?_)))))))
  refine then_normal (wp_ret ?_)
  refine bodyPost_ret (v := vi (-1)) (results_tmp Tryd.results109 rfl) rfl ?_
  exact Ret.int (idx_none (by omega) hka) hst13.ext
set_option maxRecDepth 100000 in
set_option maxHeartbeats 2000000 in
theorem containsf_any (RA : Option Addr) (rc : Nat) (r : List Val) (w : World) (hA : At w RA (flatR r)) (hlr : r.length ≤ 9223372036854775807) :
    Calls Tryd.prog 85 #[.slice RA r.length rc, .func (.func 86) #[] #[]] w (Ret (.bool (!(r.all vrightF))) w) := by
  go_enter Tryd.func85, Tryd.ntmps85
  have hst0 := St.start w
  refine wp_seq (wp_region_P [0] [.k 4 (.bool false)] [(4, 0, 1, 5)] hst0 fun W1 hst1 => ?_)
  refine then_normal (wp_seq (wp_region_Z [0, 0, 3, 7, 15] [] [.k 5 (.slice RA r.length rc), .k 6 (.func (.func 86) #[] #[]), .c 7 (vi (idxBad r)), .k 8 (.bool (decide (0 ≤ idxBad r))), .k 4 (.bool (decide (0 ≤ idxBad r)))] [] [2] [(4, 4, 1, 5), (0, 0, 4, 4)] hst1 ?_ fun W2 hst2 => ?_))
  · refine ⟨?_, trivial⟩
    · exact xsc rfl id rfl rfl fun cx => ⟨_, indexf_any _ _ r _ (hA.ext cx.upd.to_ext) (by omega), (map2 (cx.an 0) (cx.an 1))⟩
  refine then_normal (wp_ret ?_)
  refine bodyPost_ret (v := .bool (decide (0 ≤ idxBad r))) (results_tmp Tryd.results85 rfl) rfl ?_
  exact Ret.bool (idx_ge r) hst2.ext
set_option maxRecDepth 100000 in
set_option maxHeartbeats 2000000 in
theorem tright_any (a b n1 n2 : Int) (ho : Bool) (RA : Option Addr) (rc : Nat) (r : List Val) (w : World) (hA : At w RA (flatR r)) (hlr : r.length ≤ 9223372036854775807) (hN : NoneAt w) :
    Calls Tryd.prog 59 #[.agg #[.int .i64 a, .int .i64 b, .int .i64 n1, .int .i64 n2, .bool ho, .slice RA r.length rc]] w (Ret (.bool (trightF a b n1 n2 r)) w) := by
  have hn6 : decide (r.length ≤ 6) = decide ((r.length : Int) ≤ 6) := by simp only [decide_eq_decide]; omega
  go_enter Tryd.func59, Tryd.ntmps59
  have hst0 := St.start w
  refine wp_seq (wp_region_Y [0, 0] [] [[0]] [] [.a 1, .k 2 (.bool false)] (fun ix σ β X => match ix with | 0 => σ 1 = vp (pb (β 1)) ∧ X 0 = eB (pb (β 1)) 41 #[vi a, vi b, vi n1, vi n2, .bool ho, .slice RA r.length rc] | _ => True) [0] [0] [(1, 0, 2, 3)] hst0 ?_ ?_ ?_)
  · exact fun ix _ _ _ _ _ _ hs hb hx h => match ix, h with
    | 0, h => by dsimp only at h ⊢; rw [← hs 1 rfl, ← hb 1 rfl, ← hx 0 rfl]; exact h
    | _ + 1, _ => trivial
  · refine ⟨?_, trivial⟩
    · refine sv_any rfl rfl fun ρ β W X cx => ?_
      exact dv_box (cs := #[vi a, vi b, vi n1, vi n2, .bool ho, .slice RA r.length rc]) rfl (cx.ou 0) rfl rfl rfl (fun σ β' X' hs hb hv hx => ⟨hv, hx⟩)
  intro σ β X W1 hD hst1 fr hfr
  obtain ⟨B1_1, hu_B1_1⟩ : ∃ z, pb (β 1) = z := ⟨_, rfl⟩
  simp only [exq 0 ((dTn (hD 0 lq)).2), hu_B1_1] at hst1
  simp only [ed 1 ((dTn (hD 0 lq)).1), hu_B1_1] at hfr
  clear hD hu_B1_1; subst hfr; clear σ β X
  refine then_normal (wp_seq (wp_region_Z [0, 1, 0, 7, 15, 31, 63, 127, 255, 511, 1023, 2047, 4095, 8191, 16383, 32767, 65535, 131071, 262143, 524287, 1048575, 2097151, 4194303, 8388607, 16777215, 33554431, 67108863, 134217727, 268435455] [[], [0], [], [], [], [], [], [0], [], [], [], [], [0], [], [], [], [], [], [0], [], [], [], [], [], [0]] [.k 5 (.pointer (some ⟨B1_1, 2, none⟩)), .c 6 (.agg #[vi n1, vi n2]), .c 7 (.agg #[vi (-1), vi 0]), .c 8 (.bool (n1 == (-1) && n2 == 0)), .k 9 (.bool (n1 == (-1) && n2 == 0)), .z 10 (!(n1 == (-1) && n2 == 0)) (.pointer (some ⟨B1_1, 2, none⟩)), .z 11 (!(n1 == (-1) && n2 == 0)) (.pointer (some ⟨B1_1, 2, none⟩)), .y 12 (!(n1 == (-1) && n2 == 0)) (vi n1), .z 13 (!(n1 == (-1) && n2 == 0)) (.bool (decide (0 ≤ n1))), .z 14 (!(n1 == (-1) && n2 == 0)) (.bool (decide (0 ≤ n1))), .z 15 ((!(n1 == (-1) && n2 == 0)) && (decide (0 ≤ n1))) (.pointer (some ⟨B1_1, 2, none⟩)), .z 16 ((!(n1 == (-1) && n2 == 0)) && (decide (0 ≤ n1))) (.pointer (some ⟨B1_1, 2, none⟩)), .y 17 ((!(n1 == (-1) && n2 == 0)) && (decide (0 ≤ n1))) (vi n1), .z 18 ((!(n1 == (-1) && n2 == 0)) && (decide (0 ≤ n1))) (.bool (decide (n1 < 400))), .y 19 (!(n1 == (-1) && n2 == 0)) (.bool ((decide (0 ≤ n1)) && (decide (n1 < 400)))), .z 20 (!(n1 == (-1) && n2 == 0)) (.bool ((decide (0 ≤ n1)) && (decide (n1 < 400)))), .z 21 ((!(n1 == (-1) && n2 == 0)) && ((decide (0 ≤ n1)) && (decide (n1 < 400)))) (.pointer (some ⟨B1_1, 2, none⟩)), .z 22 ((!(n1 == (-1) && n2 == 0)) && ((decide (0 ≤ n1)) && (decide (n1 < 400)))) (.pointer (some ⟨B1_1, 3, none⟩)), .y 23 ((!(n1 == (-1) && n2 == 0)) && ((decide (0 ≤ n1)) && (decide (n1 < 400)))) (vi n2), .z 24 ((!(n1 == (-1) && n2 == 0)) && ((decide (0 ≤ n1)) && (decide (n1 < 400)))) (.bool (decide (0 ≤ n2))), .y 25 (!(n1 == (-1) && n2 == 0)) (.bool (((decide (0 ≤ n1)) && (decide (n1 < 400))) && (decide (0 ≤ n2)))), .z 26 (!(n1 == (-1) && n2 == 0)) (.bool (((decide (0 ≤ n1)) && (decide (n1 < 400))) && (decide (0 ≤ n2)))), .z 27 ((!(n1 == (-1) && n2 == 0)) && (((decide (0 ≤ n1)) && (decide (n1 < 400))) && (decide (0 ≤ n2)))) (.pointer (some ⟨B1_1, 2, none⟩)), .z 28 ((!(n1 == (-1) && n2 == 0)) && (((decide (0 ≤ n1)) && (decide (n1 < 400))) && (decide (0 ≤ n2)))) (.pointer (some ⟨B1_1, 3, none⟩)), .y 29 ((!(n1 == (-1) && n2 == 0)) && (((decide (0 ≤ n1)) && (decide (n1 < 400))) && (decide (0 ≤ n2)))) (vi n2), .z 30 ((!(n1 == (-1) && n2 == 0)) && (((decide (0 ≤ n1)) && (decide (n1 < 400))) && (decide (0 ≤ n2)))) (.bool (decide (n2 < 24))), .y 31 (!(n1 == (-1) && n2 == 0)) (.bool ((((decide (0 ≤ n1)) && (decide (n1 < 400))) && (decide (0 ≤ n2))) && (decide (n2 < 24)))), tO 32 (n1 == (-1) && n2 == 0) ((((decide (0 ≤ n1)) && (decide (n1 < 400))) && (decide (0 ≤ n2))) && (decide (n2 < 24))), .k 3 (.bool ((n1 == (-1) && n2 == 0) || ((((decide (0 ≤ n1)) && (decide (n1 < 400))) && (decide (0 ≤ n2))) && (decide (n2 < 24)))))] [0] [1, 2, 3, 7, 12, 14, 18, 20, 24, 26] [(3, 28, 1, 4), (1, 0, 28, 29)] hst1 ?_ fun W2 hst2 => ?_))
  · refine ⟨?_, ?_, ?_, ?_, ?_, ?_, ?_, ?_, ?_, ?_, trivial⟩
    · exact xs4 rfl id fun cx => run_loadB (n := 2) rfl (by kernel_rfl) (by kernel_rfl) (cx.an 0) (cx.bi 0 rfl) (nle rfl) rfl
    · exact xs4 rfl id fun cx => run_loadAt2 rfl (by kernel_rfl) (by kernel_rfl) (cx.sees.glob _) (hN.ext cx.upd.to_ext)
    · exact xs4 rfl id fun cx => run_eqTID rfl (cx.an 1) (cx.an 2)
    · exact m2 rfl (fun _ _ _ h => h) (fun cx => (cx.an 4)) fun cx hq => run_load1 rfl (by kernel_rfl) (mbv (cx.an 6) hq) ((cx.bi 0 rfl).cell 2)
    · exact m0 rfl (fun _ _ _ h => h) (fun cx => (cx.an 9)) fun cx hq => run_load1 rfl (by kernel_rfl) (mbv (cx.an 11) hq) ((cx.bi 0 rfl).cell 2)
    · exact m2 rfl (fun _ _ _ h => h) (fun cx => (cx.an 4)) fun cx hq => run_pick_and rfl (mbv (cx.an 9) hq) (cx.an 13) (fun e_ => by rw [hq, e_]; rfl) (cx.co _)
    · exact m0 rfl (fun _ _ _ h => h) (fun cx => (cx.an 15)) fun cx hq => run_load1 rfl (by kernel_rfl) (mbv (cx.an 17) hq) ((cx.bi 0 rfl).cell 3)
    · exact m2 rfl (fun _ _ _ h => h) (fun cx => (cx.an 4)) fun cx hq => run_pick_and rfl (mbv (cx.an 15) hq) (cx.an 19) (fun e_ => by rw [hq, e_]; rfl) (cx.co _)
    · exact m0 rfl (fun _ _ _ h => h) (fun cx => (cx.an 21)) fun cx hq => run_load1 rfl (by kernel_rfl) (mbv (cx.an 23) hq) ((cx.bi 0 rfl).cell 3)
    · exact m2 rfl (fun _ _ _ h => h) (fun cx => (cx.an 4)) fun cx hq => run_pick_and rfl (mbv (cx.an 21) hq) (cx.an 25) (fun e_ => by rw [hq, e_]; rfl) (cx.co _)
  refine then_normal (wp_seq (wp_region_Z [0, 1, 3, 7, 15, 31, 63, 127, 255, 511, 1023] [[], [0], [], [], [], [], [0]] [.k 33 (.pointer (some ⟨B1_1, 5, none⟩)), .c 34 (.slice RA r.length rc), .k 35 (vi ((r.length : Int))), .k 36 (.bool (decide ((r.length : Int) ≤ 6))), .k 37 (.bool (decide ((r.length : Int) ≤ 6))), .z 38 (decide ((r.length : Int) ≤ 6)) (.pointer (some ⟨B1_1, 5, none⟩)), .y 39 (decide ((r.length : Int) ≤ 6)) (.slice RA r.length rc), .y 40 (decide ((r.length : Int) ≤ 6)) (.bool (!(r.all vrightF))), .z 41 (decide ((r.length : Int) ≤ 6)) (.bool (!(!(r.all vrightF)))), tA 42 (decide ((r.length : Int) ≤ 6)) (!(!(r.all vrightF))), .k 4 (.bool ((decide ((r.length : Int) ≤ 6)) && (!(!(r.all vrightF)))))] [0] [1, 6, 7] [(4, 10, 1, 5), (28, 0, 10, 38)] hst2 ?_ fun W3 hst3 => ?_))
  · refine ⟨?_, ?_, ?_, trivial⟩
    · exact xs4 rfl id fun cx => run_load1 rfl (by kernel_rfl) (cx.an 0) ((cx.bi 0 rfl).cell 5)
    · exact m2 rfl (fun _ _ _ h => h) (fun cx => (cx.an 4)) fun cx hq => run_load1 rfl (by kernel_rfl) (mbv (cx.an 5) hq) ((cx.bi 0 rfl).cell 5)
    · exact m3 rfl (fun _ _ _ h => h) (fun cx => (cx.an 4)) fun cx hq => ⟨_, _, run_callF (args := #[.slice RA r.length rc, .func (.func 86) #[] #[]]) rfl cx.sees rfl (by kernel_rfl) (map2 (mbv (cx.an 6) hq) (cx.sees.func _)), containsf_any _ _ r _ (hA.ext cx.upd.to_ext) (by omega)⟩
  refine then_normal (wp_seq (wp_region_Z [0, 1, 3, 7, 15, 31, 63, 127, 255, 511, 1023, 2047, 4095, 8191, 16383, 32767, 65535, 131071, 262143, 524287, 1048575, 2097151, 4194303, 8388607, 16777215] [[], [0], [], [], [], [0], [], [], [], [], [0], [], [], [], [0]] [.k 43 (vp B1_1), .c 44 (vi a), .k 45 (.bool (a == 2)), .k 46 (.bool (a == 2)), .z 47 (!(a == 2)) (vp B1_1), .y 48 (!(a == 2)) (vi a), .y 49 (!(a == 2)) (.bool (onF a)), tO 50 (a == 2) (onF a), .k 51 (.bool ((a == 2) || (onF a))), .z 52 ((a == 2) || (onF a)) (.pointer (some ⟨B1_1, 1, none⟩)), .y 53 ((a == 2) || (onF a)) (vi b), .z 54 ((a == 2) || (onF a)) (.bool (b == 0)), .z 55 ((a == 2) || (onF a)) (.bool (b == 0)), .z 56 (((a == 2) || (onF a)) && (!(b == 0))) (.pointer (some ⟨B1_1, 1, none⟩)), .y 57 (((a == 2) || (onF a)) && (!(b == 0))) (vi b), .y 58 (((a == 2) || (onF a)) && (!(b == 0))) (.bool (onF b)), .y 59 ((a == 2) || (onF a)) (.bool ((b == 0) || (onF b))), tA 60 ((a == 2) || (onF a)) ((b == 0) || (onF b)), .k 61 (.bool (((a == 2) || (onF a)) && ((b == 0) || (onF b)))), .z 62 (((a == 2) || (onF a)) && ((b == 0) || (onF b))) (.bool ((n1 == (-1) && n2 == 0) || ((((decide (0 ≤ n1)) && (decide (n1 < 400))) && (decide (0 ≤ n2))) && (decide (n2 < 24))))), tA 63 (((a == 2) || (onF a)) && ((b == 0) || (onF b))) ((n1 == (-1) && n2 == 0) || ((((decide (0 ≤ n1)) && (decide (n1 < 400))) && (decide (0 ≤ n2))) && (decide (n2 < 24)))), .k 64 (.bool ((((a == 2) || (onF a)) && ((b == 0) || (onF b))) && ((n1 == (-1) && n2 == 0) || ((((decide (0 ≤ n1)) && (decide (n1 < 400))) && (decide (0 ≤ n2))) && (decide (n2 < 24)))))), .z 65 ((((a == 2) || (onF a)) && ((b == 0) || (onF b))) && ((n1 == (-1) && n2 == 0) || ((((decide (0 ≤ n1)) && (decide (n1 < 400))) && (decide (0 ≤ n2))) && (decide (n2 < 24))))) (.bool ((decide ((r.length : Int) ≤ 6)) && (!(!(r.all vrightF))))), tA 66 ((((a == 2) || (onF a)) && ((b == 0) || (onF b))) && ((n1 == (-1) && n2 == 0) || ((((decide (0 ≤ n1)) && (decide (n1 < 400))) && (decide (0 ≤ n2))) && (decide (n2 < 24))))) ((decide ((r.length : Int) ≤ 6)) && (!(!(r.all vrightF)))), .k 2 (.bool (((((a == 2) || (onF a)) && ((b == 0) || (onF b))) && ((n1 == (-1) && n2 == 0) || ((((decide (0 ≤ n1)) && (decide (n1 < 400))) && (decide (0 ≤ n2))) && (decide (n2 < 24))))) && ((decide ((r.length : Int) ≤ 6)) && (!(!(r.all vrightF))))))] [0] [1, 5, 6, 10, 14, 15, 16] [(2, 24, 1, 3), (40, 0, 24, 64)] hst3 ?_ fun W4 hst4 => ?_))
  · refine ⟨?_, ?_, ?_, ?_, ?_, ?_, ?_, trivial⟩
    · exact xs4 rfl id fun cx => run_load1 rfl (by kernel_rfl) (cx.an 0) ((cx.bi 0 rfl).cell 0)
    · exact m2 rfl (fun _ _ _ h => h) (fun cx => (cx.an 3)) fun cx hq => run_load1 rfl (by kernel_rfl) (mbv (cx.an 4) hq) ((cx.bi 0 rfl).cell 0)
    · exact m3 rfl (fun _ _ _ h => h) (fun cx => (cx.an 3)) fun cx hq => ⟨_, _, run_callF (args := #[vi a]) rfl cx.sees rfl (by kernel_rfl) (map1 (mbv (cx.an 5) hq)), ton_any a _⟩
    · exact m2 rfl (fun _ _ _ h => h) (fun cx => (cx.an 8)) fun cx hq => run_load1 rfl (by kernel_rfl) (mbv (cx.an 9) hq) ((cx.bi 0 rfl).cell 1)
    · exact m0 rfl (fun _ _ _ h => h) (fun cx => (cx.an 12)) fun cx hq => run_load1 rfl (by kernel_rfl) (mbv (cx.an 13) hq) ((cx.bi 0 rfl).cell 1)
    · exact m1 rfl (fun _ _ _ h => h) (fun cx => (cx.an 12)) fun cx hq => ⟨_, _, run_callF (args := #[vi b]) rfl cx.sees rfl (by kernel_rfl) (map1 (mbv (cx.an 14) hq)), ton_any b _⟩
    · exact m2 rfl (fun _ _ _ h => h) (fun cx => (cx.an 8)) fun cx hq => run_pick_or rfl (mbv (cx.an 12) hq) (cx.co _) (cx.an 15) (fun e_ => by rw [hq, e_]; rfl)
  refine then_normal (wp_ret ?_)
  refine bodyPost_ret (v := .bool (((((a == 2) || (onF a)) && ((b == 0) || (onF b))) && ((n1 == (-1) && n2 == 0) || ((((decide (0 ≤ n1)) && (decide (n1 < 400))) && (decide (0 ≤ n2))) && (decide (n2 < 24))))) && ((decide ((r.length : Int) ≤ 6)) && (!(!(r.all vrightF)))))) (results_tmp Tryd.results59 rfl) rfl ?_
  exact Ret.bool (by simp only [trightF, onZ, tnextF, Bool.not_not, Bool.and_assoc]; simp only [rrightF, hn6]; rw [Bool.and_comm (r.all vrightF)]) hst4.ext
end
end Go.Proofs.YtjnplglnnamfdaaDoor
namespace Go.Proofs.YtjnplglnnamfdaaDoor
section
open Go.RowKit
set_option linter.unusedVariables false
set_option linter.unusedSimpArgs false
theorem textO_size {s : ByteArray} (h : s.size ≤ 301) : (textO s).size ≤ 303 := by
  have := putS_size (s.size : Int) 2 (by omega)
  rw [textO, ByteArray.size_append, this]; omega
set_option maxRecDepth 100000 in
set_option maxHeartbeats 2000000 in
theorem tbytes_any (a b n1 n2 : Int) (ho : Bool) (RA : Option Addr) (rc : Nat) (r : List Val) (w : World) (hA : At w RA (flatR r)) (hlr : r.length ≤ 9223372036854775807) (hN : NoneAt w) :
    Calls Tryd.prog 30 #[.agg #[.int .i64 a, .int .i64 b, .int .i64 n1, .int .i64 n2, .bool ho, .slice RA r.length rc]] w (Ret (.string (tbytesF a b n1 n2 ho r)) w) := by
  go_enter Tryd.func30, Tryd.ntmps30
  have hst0 := St.start w
  refine wp_seq (wp_region_Y [0, 0] [] [[0]] [] [.a 1, .k 2 (.string ⟨#[]⟩)] (fun ix σ β X => match ix with | 0 => σ 1 = vp (pb (β 1)) ∧ X 0 = eB (pb (β 1)) 41 #[vi a, vi b, vi n1, vi n2, .bool ho, .slice RA r.length rc] | _ => True) [0] [0] [(1, 0, 2, 3)] hst0 ?_ ?_ ?_)
  · exact fun ix _ _ _ _ _ _ hs hb hx h => match ix, h with
    | 0, h => by dsimp only at h ⊢; rw [← hs 1 rfl, ← hb 1 rfl, ← hx 0 rfl]; exact h
    | _ + 1, _ => trivial
  · refine ⟨?_, trivial⟩
    · refine sv_any rfl rfl fun ρ β W X cx => ?_
      exact dv_box (cs := #[vi a, vi b, vi n1, vi n2, .bool ho, .slice RA r.length rc]) rfl (cx.ou 0) rfl rfl rfl (fun σ β' X' hs hb hv hx => ⟨hv, hx⟩)
  intro σ β X W1 hD hst1 fr hfr
  obtain ⟨B1_1, hu_B1_1⟩ : ∃ z, pb (β 1) = z := ⟨_, rfl⟩
  simp only [exq 0 ((dTn (hD 0 lq)).2), hu_B1_1] at hst1
  simp only [ed 1 ((dTn (hD 0 lq)).1), hu_B1_1] at hfr
  clear hD hu_B1_1; subst hfr; clear σ β X
  refine then_normal (wp_seq (wp_seq (wp_region_Z [0, 1, 3] [[0]] [.c 4 (.agg #[vi a, vi b, vi n1, vi n2, .bool ho, .slice RA r.length rc]), .c 5 (.bool (trightF a b n1 n2 r)), .k 6 (.bool (!(trightF a b n1 n2 r)))] [0] [0, 1] [(4, 0, 3, 7)] hst1 ?_ fun W2 hst2 => ?_)))
  · refine ⟨?_, ?_, trivial⟩
    · exact xs4 rfl id fun cx => run_loadB (n := 6) rfl (by kernel_rfl) (by kernel_rfl) (cx.ou 1) (cx.bi 0 rfl) (nle rfl) rfl
    · exact xsc rfl id rfl rfl fun cx => ⟨_, tright_any a b n1 n2 _ _ _ r _ (hA.ext cx.upd.to_ext) (by omega) (hN.ext cx.upd.to_ext), (map1 (cx.an 0))⟩
  refine then_normal ?_
  rcases Bool.eq_false_or_eq_true (trightF a b n1 n2 r) with hs3 | hs3
  · skip
    refine wp_cond_false (show Act.eval _ _ = .bool false from (congrArg Value.bool (by rw [hs3]; rfl))) (wp_skip (then_normal (wp_seq (wp_region_P [0] [.k 3 (vi 0)] [(3, 0, 1, 4)] hst2 fun W4 hst4 => ?_))))
    refine then_normal ?_
    refine wp_cut (fun az W => ∃ u5_ : List Value, True ∧ az = ⟨#[.agg #[vi a, vi b, vi n1, vi n2, .bool ho, .slice RA r.length rc], vp B1_1, .string ⟨#[]⟩, vi (hotI ho), .agg #[vi a, vi b, vi n1, vi n2, .bool ho, .slice RA r.length rc], .bool (trightF a b n1 n2 r), .bool (!(trightF a b n1 n2 r)), (gu u5_ 0), (gu u5_ 1), undef, undef, undef, undef, undef, undef, undef, undef, undef, undef, undef, undef, undef, undef, undef, undef, undef, undef, undef, undef, undef, undef, undef], []⟩ ∧ St w [] [eB B1_1 41 #[vi a, vi b, vi n1, vi n2, .bool ho, .slice RA r.length rc]] W) ?_ ?_
    · skip
      refine wp_seq (wp_region_Z [0, 1] [[], [0]] [.k 7 (.pointer (some ⟨B1_1, 4, none⟩)), .c 8 (.bool ho)] [0] [1] [(7, 0, 2, 9)] hst4 ?_ fun W6 hst6 => ?_)
      · refine ⟨?_, trivial⟩
        · exact xs4 rfl id fun cx => run_load1 rfl (by kernel_rfl) (cx.an 0) ((cx.bi 0 rfl).cell 4)
      refine then_normal ?_
      rcases Bool.eq_false_or_eq_true (ho) with hs7 | hs7
      · skip
        refine wp_cond_true (show Act.eval _ _ = .bool true from (congrArg Value.bool hs7)) (wp_region_P [0] [.k 3 (vi 1)] [(3, 0, 1, 4)] hst6 fun W8 hst8 => ?_)
        refine then_normal ?_
        have hj : hotI ho = 1 := by simp [hotI, hs3, hs7]
        have hp9 := hst8.pick [0] (by decide) rfl
        exact ⟨[.pointer (some ⟨B1_1, 4, none⟩), .bool ho], trivial, by rw [hj]; rfl, hp9⟩
      refine wp_cond_false (show Act.eval _ _ = .bool false from (congrArg Value.bool hs7)) (wp_skip (then_normal ?_))
      have hj : hotI ho = 0 := by simp [hotI, hs3, hs7]
      have hp10 := hst6.pick [0] (by decide) rfl
      exact ⟨[.pointer (some ⟨B1_1, 4, none⟩), .bool ho], trivial, by rw [hj]; rfl, hp10⟩
    rintro a5 W5 ⟨u5_, -, rfl, hst5⟩
    refine wp_seq ?_
    have htr := hs3
    obtain ⟨t1, t2, t3, t4, t5, t6, t7, t8, t9⟩ := tright_parts htr
    have hvs := vbytes_size r
    have hjs : ∀ s ∈ [putS a 1, putS b 1, putS (n1 + 1) 2, putS n2 1, putS (hotI ho) 1, textO (vbytesF r)], s.size ≤ 1000000 := by
      intro s hs
      simp only [List.mem_cons, List.not_mem_nil, or_false] at hs
      have h1 := textO_size hvs
      rcases hs with rfl | rfl | rfl | rfl | rfl | rfl
      · rw [putS_size _ _ (by omega)]; omega
      · rw [putS_size _ _ (by omega)]; omega
      · rw [putS_size _ _ (by omega)]; omega
      · rw [putS_size _ _ (by omega)]; omega
      · rw [putS_size _ _ (by omega)]; omega
      · omega
    refine wp_region_Y [0, 1, 3, 0, 8, 31, 0, 64, 192, 448, 1023, 0, 2048, 6144, 16383, 0, 65535, 0, 131072, 524287, 1048575, 2097151, 4194303, 8388607] [[], [0], [], [], [0], [], [], [], [0], [], [], [], [], [0], [], [], [], [], [0], [], [], [], [1]] [[], [], [], [], [], [], [], [], [], [], [], [], [], [], [], [], [], [], [], [], [], [1]] [] [.k 9 (vp B1_1), .c 10 (vi a), .c 11 (.string (putS a 1)), .k 12 (.pointer (some ⟨B1_1, 1, none⟩)), .c 13 (vi b), .c 14 (.string (putS b 1)), .k 15 (.pointer (some ⟨B1_1, 2, none⟩)), .k 16 (.pointer (some ⟨B1_1, 2, none⟩)), .c 17 (vi n1), tI 18 (n1 + 1) (by omega), .c 19 (.string (putS (n1 + 1) 2)), .k 20 (.pointer (some ⟨B1_1, 2, none⟩)), .k 21 (.pointer (some ⟨B1_1, 3, none⟩)), .c 22 (vi n2), .c 23 (.string (putS n2 1)), .k 24 (vi (hotI ho)), .c 25 (.string (putS (hotI ho) 1)), .k 26 (.pointer (some ⟨B1_1, 5, none⟩)), .c 27 (.slice RA r.length rc), .c 28 (.string (vbytesF r)), .c 29 (.string (textO (vbytesF r))), .a 30, .c 31 (.string (catS [(putS a 1), (putS b 1), (putS (n1 + 1) 2), (putS n2 1), (putS (hotI ho) 1), (textO (vbytesF r))])), .k 2 (.string (catS [(putS a 1), (putS b 1), (putS (n1 + 1) 2), (putS n2 1), (putS (hotI ho) 1), (textO (vbytesF r))]))] (fun ix σ β X => match ix with | 0 => True | 1 => True | 2 => True | 3 => True | 4 => True | 5 => True | 6 => True | 7 => True | 8 => True | 9 => True | 10 => True | 11 => True | 12 => True | 13 => True | 14 => True | 15 => True | 16 => True | 17 => True | 18 => True | 19 => True | 20 => True | 21 => σ 30 = .slice (sA (β 30)) 6 6 ∧ X 1 = eO 9 1 (.slice (sA (β 30)) 6 6) 6 ([.string (putS a 1), .string (putS b 1), .string (putS (n1 + 1) 2), .string (putS n2 1), .string (putS (hotI ho) 1), .string (textO (vbytesF r))]) | _ => True) [0, 1] [1, 2, 4, 5, 8, 10, 13, 14, 16, 18, 19, 20, 21, 22] [(2, 23, 1, 3), (6, 0, 23, 29)] hst5 ?_ ?_ ?_
    · exact fun ix _ _ _ _ _ _ hs hb hx h => match ix, h with
      | 21, h => by dsimp only at h ⊢; rw [← hs 30 rfl, ← hb 30 rfl, ← hx 1 rfl]; exact h
      | 0, _ | 1, _ | 2, _ | 3, _ | 4, _ | 5, _ | 6, _ | 7, _ | 8, _ | 9, _ | 10, _ | 11, _ | 12, _ | 13, _ | 14, _ | 15, _ | 16, _ | 17, _ | 18, _ | 19, _ | 20, _ | _ + 22, _ => trivial
    · refine ⟨?_, ?_, ?_, ?_, ?_, ?_, ?_, ?_, ?_, ?_, ?_, ?_, ?_, ?_, trivial⟩
      · exact xs4 rfl id fun cx => run_load1 rfl (by kernel_rfl) (cx.an 0) ((cx.bi 0 rfl).cell 0)
      · exact xsc rfl id rfl rfl fun cx => ⟨_, oput1_any a _, (map2 (cx.an 1) (cx.co _))⟩
      · exact xs4 rfl id fun cx => run_load1 rfl (by kernel_rfl) (cx.an 3) ((cx.bi 0 rfl).cell 1)
      · exact xsc rfl id rfl rfl fun cx => ⟨_, oput1_any b _, (map2 (cx.an 4) (cx.co _))⟩
      · exact xs4 rfl id fun cx => run_load1 rfl (by kernel_rfl) (cx.an 7) ((cx.bi 0 rfl).cell 2)
      · exact xsc rfl id rfl rfl fun cx => ⟨_, oput2_any (n1 + 1) _, (map2 (cx.an 9) (cx.co _))⟩
      · exact xs4 rfl id fun cx => run_load1 rfl (by kernel_rfl) (cx.an 12) ((cx.bi 0 rfl).cell 3)
      · exact xsc rfl id rfl rfl fun cx => ⟨_, oput1_any n2 _, (map2 (cx.an 13) (cx.co _))⟩
      · exact xsc rfl id rfl rfl fun cx => ⟨_, oput1_any (hotI ho) _, (map2 (cx.an 15) (cx.co _))⟩
      · exact xs4 rfl id fun cx => run_load1 rfl (by kernel_rfl) (cx.an 17) ((cx.bi 0 rfl).cell 5)
      · exact xsc rfl id rfl rfl fun cx => ⟨_, vbytes_any _ _ r _ (hA.ext cx.upd.to_ext) (by omega), (map1 (cx.an 18))⟩
      · exact xsc rfl id rfl rfl fun cx => ⟨_, otext_any (vbytesF r) _ (by omega), (map1 (cx.an 19))⟩
      · refine sv_any rfl rfl fun ρ β W X cx => ?_
        have fF11 : ρ (.tmp 11) = .string (putS a 1) := (cx.an 2)
        have fF14 : ρ (.tmp 14) = .string (putS b 1) := (cx.an 5)
        have fF19 : ρ (.tmp 19) = .string (putS (n1 + 1) 2) := (cx.an 10)
        have fF23 : ρ (.tmp 23) = .string (putS n2 1) := (cx.an 14)
        have fF25 : ρ (.tmp 25) = .string (putS (hotI ho) 1) := (cx.an 16)
        have fF29 : ρ (.tmp 29) = .string (textO (vbytesF r)) := (cx.an 20)
        exact dv_lit (e := 9) (xs := [.string (putS a 1), .string (putS b 1), .string (putS (n1 + 1) 2), .string (putS n2 1), .string (putS (hotI ho) 1), .string (textO (vbytesF r))]) rfl (by simp [go_sem, fF11, fF14, fF19, fF23, fF25, fF29]) rfl (by decide) rfl rfl (fun σ β' X' hs hb hv hx => ⟨hv, hx⟩)
      · exact xsc rfl id rfl rfl fun cx => ⟨_, join_any _ [(putS a 1), (putS b 1), (putS (n1 + 1) 2), (putS n2 1), (putS (hotI ho) 1), (textO (vbytesF r))] _ (cx.row (dTn (cx.an 21)).2 rfl) (by simp) hjs (by simp), (map2 (dTn (cx.an 21)).1 (cx.co _))⟩
    intro σ β X W11 hD hst11 fr hfr
    obtain ⟨A30_11, hu_A30_11⟩ : ∃ z, sA (β 30) = z := ⟨_, rfl⟩
    simp only [exq 1 ((dTn (hD 21 lq)).2), hu_A30_11] at hst11
    simp only [ed 30 ((dTn (hD 21 lq)).1), hu_A30_11] at hfr
    clear hD hu_A30_11; subst hfr; clear σ β X
    refine then_normal (wp_ret ?_)
    refine bodyPost_ret (v := .string (catS [(putS a 1), (putS b 1), (putS (n1 + 1) 2), (putS n2 1), (putS (hotI ho) 1), (textO (vbytesF r))])) (results_tmp Tryd.results30 rfl) rfl ?_
    exact Ret.of (by rw [tbytesF, if_pos htr]) hst11.ext
  refine wp_cond_true (show Act.eval _ _ = .bool true from (congrArg Value.bool (by rw [hs3]; rfl))) (wp_seq (wp_region_P [0] [.k 2 (.string ⟨#[]⟩)] [(2, 0, 1, 3)] hst2 fun W12 hst12 => ?_))
  refine then_normal (wp_ret (then_ret ?_))
  refine bodyPost_ret (v := .string ⟨#[]⟩) (results_tmp Tryd.results30 rfl) rfl ?_
  exact Ret.of (by rw [tbytesF, hs3]; rfl) hst12.ext
end
end Go.Proofs.YtjnplglnnamfdaaDoor
namespace Go.Proofs.YtjnplglnnamfdaaDoor
section
open Go.RowKit
set_option linter.unusedVariables false
set_option linter.unusedSimpArgs false
theorem strL_size (l : List UInt8) : (strL l).size = l.length := by show l.toArray.size = _; simp
theorem strL_ext (l : List UInt8) (a b : Nat) : (strL l).extract a b = strL ((l.drop a).take (b - a)) := by
  apply ByteArray.ext
  rw [ByteArray.data_extract]
  apply Array.ext'
  simp [strL, List.extract_eq_take_drop]
theorem strL_take (l : List UInt8) (n : Nat) : (strL l).extract 0 n = strL (l.take n) := by rw [strL_ext]; simp
theorem strL_drop (l : List UInt8) (n : Nat) : (strL l).extract n (strL l).size = strL (l.drop n) := by
  rw [strL_ext, strL_size, List.take_of_length_le (by simp)]
theorem Upd.less {b c : Nat} {w W : World} (h : Upd [b, c] w W) (hc : W.heap[c]? = w.heap[c]?) : Upd [b] w W := ⟨h.os, h.tape, h.output, h.size, fun k hk hn => by
  by_cases e : k = c
  · rw [e]; exact hc
  · exact h.block k hk (by simp at hn ⊢; exact ⟨hn, e⟩)⟩
def byteI (l : List UInt8) (m : Nat) : Int := ((l.getD m 0).toNat : Int)
theorem St.lent1 {w : World} {b t : Nat} {cs : Array Value} (hb : Blk w b t cs) : St w [b] [eB b t cs] w := by
  refine ⟨Upd.refl _ _, fun x hx => ?_, List.pairwise_singleton _ _⟩
  simp only [List.mem_cons, List.not_mem_nil, or_false] at hx
  subst hx
  exact ⟨hb, eB_loc _ _ _, fun k hk => ⟨.inl (by simp [eB] at hk; simp [hk]), by simp [eB] at hk; subst hk; exact hb.lt⟩⟩
theorem St.lentB2 {w : World} {b t c u : Nat} {cs ds : Array Value} (hb : Blk w b t cs) (hc : Blk w c u ds) (hne : b ≠ c) : St w [b, c] [eB b t cs, eB c u ds] w := by
  refine ⟨Upd.refl _ _, fun x hx => ?_, List.pairwise_pair.2 fun k hk hk' => by simp [eB] at hk hk'; omega⟩
  simp only [List.mem_cons, List.not_mem_nil, or_false] at hx
  rcases hx with rfl | rfl
  · exact ⟨hb, eB_loc _ _ _, fun k hk => ⟨.inl (by simp [eB] at hk; simp [hk]), by simp [eB] at hk; subst hk; exact hb.lt⟩⟩
  · exact ⟨hc, eB_loc _ _ _, fun k hk => ⟨.inl (by simp [eB] at hk; simp [hk]), by simp [eB] at hk; subst hk; exact hc.lt⟩⟩
section
variable {P : Program} {o : Oper} {ρ : Operand → Value} {W : World}
theorem run_indexStr {t : TypeId} {x y : Operand} {l : List UInt8} {k : IntKind} {j : Int} {m : Nat} (h : o.op = .index t x y) (ht : P.underlying t = some .string) (hx : ρ x = .string (strL l)) (hy : ρ y = .int k j) (hj : j = (m : Int)) (hm : m < l.length) :
    (execOp ρ o).run P W = .ok (.value (.int .u8 (byteI l m))) W := by
  subst hj
  unfold execOp; rw [h]
  have h1 : (0 : Int) ≤ (m : Int) := by omega
  have h2 : (strL l)[m]? = some (l.getD m 0) := by
    rw [getElem?_pos (strL l) m (by rw [strL_size]; exact hm)]
    simp [strL, ByteArray.getElem_eq_getElem_data, hm]
  simp only [hx, hy, Instr.index, asIntOf, Sem.run_bind, Sem.run_pure, Result.andThen_ok, run_underlying ht, h1, if_true, Int.toNat_natCast, h2]
  rfl
end
set_option maxRecDepth 100000 in
set_option maxHeartbeats 2000000 in
theorem must_true (e : Int) (w : World) :
    Calls Tryd.prog 102 #[.bool true, .int .i64 e] w (Ret (.tuple #[]) w) := by
  go_enter Tryd.func102, Tryd.ntmps102
  have hst0 := St.start w
  refine wp_seq (wp_region_P [0, 1] [.k 4 (.bool true), .k 5 (.bool false)] [(4, 0, 2, 6)] hst0 fun W1 hst1 => ?_)
  refine then_normal (wp_cond_false (show Act.eval _ _ = .bool false from rfl) (wp_skip ?_))
  refine bodyPost_end (v := .tuple #[]) (by simp [results, Tryd.results102, go_sem]) rfl ?_
  exact Ret.of rfl hst1.ext
def TakePost (b : Nat) (v : Value) (l : List UInt8) (w : World) (e : Ending) (w' : World) : Prop := e = .returned v ∧ Blk w' b 9 #[.string (strL l)] ∧ Upd [b] w w'
set_option maxRecDepth 100000 in
set_option maxHeartbeats 2000000 in
theorem take_any (n : Nat) (b : Nat) (l : List UInt8) (w : World) (hb : Blk w b 9 #[.string (strL l)]) (hn : n ≤ l.length) :
    Calls Tryd.prog 101 #[.int .i64 ((n : Int)), .pointer (some ⟨b, 0, none⟩)] w (TakePost b (.string (strL (l.take n))) (l.drop n) w) := by
  have st0 := St.lent1 hb
  have hsl := strL_size l
  go_enter Tryd.func101, Tryd.ntmps101
  have hst0 := st0
  refine wp_seq (wp_region_P [0] [.k 3 (.string ⟨#[]⟩)] [(3, 0, 1, 4)] hst0 fun W1 hst1 => ?_)
  refine then_normal (wp_seq ?_)
  have hd3 : (decide ((n : Int) ≤ ((strL l).size : Int))) = true := by rw [decide_eq_true_eq]; omega
  refine wp_region_Z [0, 1, 0, 7, 15] [[0]] [.c 5 (.string (strL l)), .k 6 (vi (((strL l).size : Int))), .k 7 (vi ((n : Int))), .e 8 (.bool (decide ((n : Int) ≤ ((strL l).size : Int)))) (.bool true) (congrArg Value.bool hd3), .c 9 (.tuple #[])] [0] [0, 4] [(5, 0, 5, 10)] hst1 ?_ fun W2 hst2 => ?_
  · refine ⟨?_, ?_, trivial⟩
    · exact xs4 rfl id fun cx => run_load1 rfl (by kernel_rfl) (cx.ou 1) ((cx.bi 0 rfl).cell 0)
    · exact xsc rfl id rfl rfl fun cx => ⟨_, must_true _ _, (map2 (cx.an 3) (cx.co _))⟩
  refine then_normal (wp_seq (wp_region_Z [0, 0, 3, 7] [[0]] [.c 10 (.string (strL l)), .k 11 (vi ((n : Int))), .c 12 (.string (strL (l.take n))), .k 4 (.string (strL (l.take n)))] [0] [0, 2] [(4, 3, 1, 5), (5, 0, 3, 8)] hst2 ?_ fun W4 hst4 => ?_))
  · refine ⟨?_, ?_, trivial⟩
    · exact xs4 rfl id fun cx => run_load1 rfl (by kernel_rfl) (cx.ou 1) ((cx.bi 0 rfl).cell 0)
    · exact xs4 rfl id fun cx => (by rw [← strL_take]; exact run_slice_hi (l := n) rfl (by kernel_rfl) (cx.an 0) (cx.an 1) (by omega) (by rw [strL_size]; omega))
  refine then_normal (wp_seq (wp_region_Y [0, 0, 3, 7] [[0], [], [], [0]] [[], [], [], [1]] [[], [], [], [0]] [.c 13 (.string (strL l)), .k 14 (vi ((n : Int))), .c 15 (.string (strL (l.drop n))), .n] (fun ix σ β X => match ix with | 0 => True | 1 => True | 2 => True | 3 => X 1 = eB b 9 #[.string (strL (l.drop n))] | _ => True) [1] [0, 2, 3] [(13, 0, 3, 16)] hst4 ?_ ?_ ?_))
  · exact fun ix _ _ _ _ _ _ hs hb hx h => match ix, h with
    | 3, h => by dsimp only at h ⊢; rw [← hx 1 rfl]; exact h
    | 0, _ | 1, _ | 2, _ | _ + 4, _ => trivial
  · refine ⟨?_, ?_, ?_, trivial⟩
    · exact xs4 rfl id fun cx => run_load1 rfl (by kernel_rfl) (cx.ou 1) ((cx.bi 0 rfl).cell 0)
    · exact xs4 rfl id fun cx => (by rw [← strL_drop]; exact run_slice_lo (l := n) rfl (by kernel_rfl) (cx.an 0) (cx.an 1) (by omega) (by rw [strL_size]; omega))
    · refine sv_any rfl rfl fun ρ β W X cx => ?_
      exact dv_store (n := 1) rfl (cx.ou 1) (cx.an 2) (by kernel_rfl) (by kernel_rfl) (by kernel_rfl) cx (cx.init 0 _ rfl) rfl (nle rfl) (by kernel_rfl) rfl rfl rfl (fun σ β' X' hs hb hx => hx)
  intro σ β X W5 hD hst5 fr hfr
  simp only [exq 1 ((dTn (hD 3 lq)))] at hst5
  clear hD; subst hfr; clear σ β X
  refine then_normal (wp_seq (wp_region_P [0, 1] [.k 16 (.string (strL (l.take n))), .k 3 (.string (strL (l.take n)))] [(3, 1, 1, 4), (12, 0, 1, 13)] hst5 fun W6 hst6 => ?_))
  refine then_normal (wp_ret ?_)
  refine bodyPost_ret (v := .string (strL (l.take n))) (results_tmp Tryd.results101 rfl) rfl ?_
  exact ⟨rfl, hst6.blk 0 rfl, hst6.upd⟩
theorem byte_lt (l : List UInt8) (m : Nat) : 0 ≤ byteI l m ∧ byteI l m < 256 := by
  have := (l.getD m 0).toNat_lt
  unfold byteI; omega
theorem byte_take (l : List UInt8) (h : 1 ≤ l.length) : byteI (l.take 1) 0 = byteI l 0 := by
  cases l with
  | nil => simp at h
  | cons a l => rfl
set_option maxRecDepth 100000 in
set_option maxHeartbeats 2000000 in
theorem one1_any (b c : Nat) (l : List UInt8) (w : World) (hb : Blk w b 9 #[.string (strL l)]) (hc : Blk w c 131 #[.func (.func 101) #[] #[.pointer (some ⟨b, 0, none⟩)]]) (hne : b ≠ c) (hn : 1 ≤ l.length) :
    Calls Tryd.prog 103 #[.pointer (some ⟨c, 0, none⟩)] w (TakePost b (.int .i64 (byteI l 0)) (l.drop 1) w) := by
  have st0 := St.lentB2 hb hc hne
  have hb256 := byte_lt (l.take 1) 0
  go_enter Tryd.func103, Tryd.ntmps103
  have hst0 := st0
  refine wp_seq (wp_region_P [0] [.k 1 (vi 0)] [(1, 0, 1, 2)] hst0 fun W1 hst1 => ?_)
  refine then_normal (wp_seq (wp_region_Y [0, 1, 3, 7, 15] [[1], [0]] [[], [2]] [[], [0]] [.c 2 (.func (.func 101) #[] #[vp b]), .a 3, .c 4 (.int .u8 (byteI (l.take 1) 0)), tW 5 .i64 (byteI (l.take 1) 0) (byteI (l.take 1) 0) (IntWalk.i64_in _ (by omega)), .k 1 (vi (byteI (l.take 1) 0))] (fun ix σ β X => match ix with | 0 => True | 1 => σ 3 = .string (strL (l.take 1)) ∧ X 2 = eB b 9 #[.string (strL (l.drop 1))] | _ => True) [1, 2] [0, 1, 2] [(1, 4, 1, 2), (0, 0, 4, 4)] hst1 ?_ ?_ ?_))
  · exact fun ix _ _ _ _ _ _ hs hb hx h => match ix, h with
    | 1, h => by dsimp only at h ⊢; rw [← hs 3 rfl, ← hx 2 rfl]; exact h
    | 0, _ | _ + 2, _ => trivial
  · refine ⟨?_, ?_, ?_, trivial⟩
    · exact xs4 rfl id fun cx => run_load1 rfl (by kernel_rfl) (cx.ou 0) ((cx.bi 1 rfl).cell 0)
    · refine sv_any rfl rfl fun ρ β W X cx => ?_
      refine DoesU.call (run_callV (f := 101) (args := #[vi 1]) (args' := #[vi 1, vp b]) rfl rfl (cx.an 0) (by kernel_rfl) (map1 (cx.co _)) rfl) ?_
      refine (take_any 1 b l _ (cx.bi 0 rfl) (by omega)).mono ?_
      rintro e W1 ⟨rfl, hb1, hu⟩
      refine ⟨_, rfl, post_mut (cx.init 0 _ rfl) rfl rfl hu hb1 (fun σ β' X' hs hb hv hx => ?_)⟩
      exact ⟨(hv 3 rfl).1.trans rfl, hx⟩
    · exact xs4 rfl id fun cx => run_indexStr (m := 0) rfl (by kernel_rfl) (dTn (cx.an 1)).1 (cx.co _) (by omega) (by rw [List.length_take]; omega)
  intro σ β X W2 hD hst2 fr hfr
  simp only [exq 2 ((dTn (hD 1 lq)).2)] at hst2
  simp only [ed 3 ((dTn (hD 1 lq)).1)] at hfr
  clear hD; subst hfr; clear σ β X
  refine then_normal (wp_ret ?_)
  refine bodyPost_ret (v := vi (byteI (l.take 1) 0)) (results_tmp Tryd.results103 rfl) rfl ?_
  exact ⟨by rw [byte_take l hn], hst2.blk 1 rfl, hst2.upd.less ((hst2.blk 0 rfl).trans hc.symm)⟩
end
end Go.Proofs.YtjnplglnnamfdaaDoor
namespace Go.Proofs.YtjnplglnnamfdaaDoor
section
open Go.RowKit
set_option linter.unusedVariables false
set_option linter.unusedSimpArgs false
theorem wp_mkdefer {P : Program} {id : Nat} {o1 o2 : Oper} {a : Act} {w : World} {Q : Exit → Act → World → Prop} {v : Value} {d : Deferred} (h1 : o1.guard = none) (h2 : o2.guard = none) (r1 : (execOp a.eval o1).run P w = .ok (.value v) w)
    (r2 : (execOp (a.put o1.dst v).eval o2).run P w = .ok (.defer d) w) (hd2 : o2.dst = none) (h : Q .normal { a.put o1.dst v with defers := d :: (a.put o1.dst v).defers } w) : (Code.region id #[o1, o2] false).wp P Q a w := by
  refine wp_region ?_
  show wpOps P #[o1, o2] Q [0, 1] a w
  have w1 : ∀ y, Region.wanted o1 y = true := fun y => by simp [Region.wanted, h1]
  have w2 : ∀ y, Region.wanted o2 y = true := fun y => by simp [Region.wanted, h2]
  simp only [wpOps]
  show (if Region.wanted o1 _ = true then _ else _)
  rw [if_pos (w1 _)]
  left
  unfold Oper.wp Oper.upon
  rw [show (#[o1, o2] : Array Oper)[0] = o1 from rfl, r1]
  show (if Region.wanted o2 _ = true then _ else _)
  rw [if_pos (w2 _)]
  left
  rw [show (#[o1, o2] : Array Oper)[1] = o2 from rfl, r2]
  rw [hd2]
  exact h
theorem catch_idle (p q : Addr) (w : World) :
    CallsD Tryd.prog 100 #[.pointer (some p), .pointer (some q)] .returning w fun e u' w' => e = .returned (.tuple #[]) ∧ u' = .returning ∧ w' = w := by
  refine callsD_of_wpS Tryd.func100 rfl fun c₀ cs hu => ?_
  apply wpS_seq
  apply wpS_region
  simp [wpOpsS, go_sem, recoverD, hu, Tryd.ntmps100, Exit.thenS]
  refine wpS_of_wp ?_
  go_wp2
  cases c₀
  simp_all [bodyPostS, results, Tryd.results100]
end
end Go.Proofs.YtjnplglnnamfdaaDoor
namespace Go.Proofs.YtjnplglnnamfdaaDoor
section
open Go.RowKit
set_option linter.unusedVariables false
set_option linter.unusedSimpArgs false
theorem or_low {X b : Nat} (h : b < 256) : X * 256 ||| b = X * 256 + b := by
  have := Nat.shiftLeft_add_eq_or_of_lt (i := 8) (b := b) (by simpa using h) X
  rw [Nat.shiftLeft_eq] at this
  exact this.symm
theorem wrap_or {x b : Int} (hb : 0 ≤ b ∧ b < 256) : IntKind.i64.wrap ((BitVec.ofInt IntKind.i64.bits (IntKind.i64.wrap (IntKind.i64.wrap x * 2 ^ 8)) ||| BitVec.ofInt IntKind.i64.bits b).toNat : Int) = IntKind.i64.wrap (x * 256 + b) := by
  show IntKind.i64.wrap ((BitVec.ofInt 64 (IntKind.i64.wrap (IntKind.i64.wrap x * 2 ^ 8)) ||| BitVec.ofInt 64 b).toNat : Int) = _
  rw [BitVec.toNat_or, BitVec.toNat_ofInt, BitVec.toNat_ofInt]
  have e1 : ((IntKind.i64.wrap (IntKind.i64.wrap x * 2 ^ 8)) % ((2 ^ 64 : Nat) : Int)).toNat = (x % 72057594037927936).toNat * 256 := by
    rw [IntKind.wrap_i64, IntKind.wrap_i64]
    have : ((2 ^ 64 : Nat) : Int) = 18446744073709551616 := by decide
    rw [this]
    omega
  have e2 : (b % ((2 ^ 64 : Nat) : Int)).toNat = b.toNat := by
    have : ((2 ^ 64 : Nat) : Int) = 18446744073709551616 := by decide
    rw [this]; omega
  rw [e1, e2, or_low (by omega), IntKind.wrap_i64, IntKind.wrap_i64]
  omega
def accN (N : Int) (j : Nat) : Int := IntKind.i64.wrap (IntKind.u64.wrap N / 256 ^ (8 - j))
theorem u64_bd (N : Int) : 0 ≤ IntKind.u64.wrap N ∧ IntKind.u64.wrap N < 18446744073709551616 := by rw [IntKind.wrap_u64]; omega
theorem acc_0 (N : Int) : accN N 0 = 0 := by
  have h := u64_bd N
  unfold accN
  rw [show IntKind.u64.wrap N / 256 ^ (8 - 0) = 0 by simp only [Nat.reduceSub, Int.reducePow]; omega]
  decide
theorem acc_8 {N : Int} (h : -9223372036854775808 ≤ N ∧ N ≤ 9223372036854775807) : accN N 8 = N := by
  unfold accN
  simp only [Nat.reduceSub, Int.reducePow, Int.ediv_one]
  rw [IntKind.wrap_u64, IntKind.wrap_i64]
  omega
theorem oct8_bd (N : Int) (j : Nat) : 0 ≤ (oct8 N).getD j 0 ∧ (oct8 N).getD j 0 < 256 := by
  unfold oct8
  rcases Nat.lt_or_ge j 8 with h | h
  · rcases (by omega : j = 0 ∨ j = 1 ∨ j = 2 ∨ j = 3 ∨ j = 4 ∨ j = 5 ∨ j = 6 ∨ j = 7) with rfl | rfl | rfl | rfl | rfl | rfl | rfl | rfl <;> simp only [List.getD_cons_zero, List.getD_cons_succ] <;> omega
  · rw [List.getD_eq_getElem?_getD, List.getElem?_eq_none (by simpa using h)]; simp
theorem acc_step (N : Int) {j : Nat} (hj : j < 8) : IntKind.i64.wrap ((BitVec.ofInt IntKind.i64.bits (IntKind.i64.wrap (accN N j * 2 ^ 8)) ||| BitVec.ofInt IntKind.i64.bits ((oct8 N).getD j 0)).toNat : Int) = accN N (j + 1) := by
  rw [accN, wrap_or (oct8_bd N j), accN]
  congr 1
  unfold oct8
  have h := u64_bd N
  generalize IntKind.u64.wrap N = u at *
  rcases (by omega : j = 0 ∨ j = 1 ∨ j = 2 ∨ j = 3 ∨ j = 4 ∨ j = 5 ∨ j = 6 ∨ j = 7) with rfl | rfl | rfl | rfl | rfl | rfl | rfl | rfl <;> simp only [List.getD_cons_zero, List.getD_cons_succ, Nat.reduceSub, Nat.reduceAdd, Int.reducePow] <;> omega
theorem bI_put (N : Int) : bI (putS N 8) = oct8 N := by
  unfold putS
  rw [show 8 - 8 = 0 from rfl, List.drop_zero]
  unfold bI strOfNums
  rw [List.toList_toArray, List.map_map]
  have : ∀ l : List Int, (∀ b ∈ l, 0 ≤ b ∧ b < 256) → l.map ((fun b : UInt8 => (b.toNat : Int)) ∘ fun n : Int => UInt8.ofNat n.toNat) = l := by
    intro l
    induction l with
    | nil => intro _; rfl
    | cons a l ih =>
      intro h
      rw [List.map_cons, ih fun b hb => h b (List.mem_cons_of_mem _ hb)]
      congr 1
      have := h a (List.mem_cons_self ..)
      show (((UInt8.ofNat a.toNat).toNat : Nat) : Int) = a
      rw [UInt8.toNat_ofNat']
      omega
  refine this _ fun b hb => ?_
  obtain ⟨j, hj⟩ := List.mem_iff_getElem?.1 hb
  have := oct8_bd N j
  rw [List.getD_eq_getElem?_getD, hj] at this
  exact this
theorem u8_int {x : Int} (h : 0 ≤ x ∧ x < 256) : (((UInt8.ofNat x.toNat).toNat : Nat) : Int) = x := by rw [UInt8.toNat_ofNat']; omega
theorem strL_data (x : ByteArray) : strL x.data.toList = x := by show ByteArray.mk x.data.toList.toArray = x; rw [Array.toArray_toList]
def plainV (v : Val) : Val := (v.1, if v.1 = 1 then v.2.1 else 0, if v.1 = 2 then v.2.2 else ByteArray.empty)
def tailB (v : Val) : List UInt8 := if v.1 = 1 then (putS v.2.1 8).data.toList else if v.1 = 2 then UInt8.ofNat ((v.2.2.size : Nat) : Int).toNat :: v.2.2.data.toList else []
abbrev valsB (rs : List Val) : List UInt8 := rs.flatMap valB
abbrev plainR (rs : List Val) : List Val := rs.map plainV
theorem valsB_at {rs : List Val} {k : Nat} (h : k < rs.length) : valsB (rs.drop k) = UInt8.ofNat (rs.getD k v0).1.toNat :: (tailB (rs.getD k v0) ++ valsB (rs.drop (k + 1))) := by
  rw [List.getD_eq_getElem?_getD, List.getElem?_eq_getElem h, Option.getD_some]
  rw [valsB, List.drop_eq_getElem_cons h, List.flatMap_cons]
  rfl
theorem plain_snoc {rs : List Val} {k : Nat} {c : List Value} (h : k < rs.length) (hc : cellsV (plainV (rs.getD k v0)) = c) : flatR (plainR (rs.take k)) ++ c = flatR (plainR (rs.take (k + 1))) := by
  rw [← hc, plainR, plainR, List.take_add_one, List.getElem?_eq_getElem h, List.getD_eq_getElem?_getD, List.getElem?_eq_getElem h, List.map_append, flatR, flatR, List.flatMap_append]
  congr 1
theorem vbytes_eq {rs : List Val} (h : rrightF rs = true) : vbytesF rs = strL (UInt8.ofNat ((rs.length : Nat) : Int).toNat :: valsB rs) := by
  rw [vbytesF, if_pos h, bytesTo, List.take_length]
theorem nilrowN {w0 W : World} {bor : List Nat} {L : List Ent} (h : St w0 bor L W) (e sz : Nat) : St w0 bor (L ++ [eO e sz (.slice none 0 0) 0 []]) W := by
  refine ⟨h.upd, fun x hx => ?_, ?_⟩
  · rcases List.mem_append.1 hx with hx | hx
    · exact h.ok x hx
    · rw [List.mem_singleton] at hx
      subst hx
      exact ⟨World.ownsRow_nil _ _ _ _, eO_loc _ _ _ _ _, fun k hk => by cases hk⟩
  · rw [List.pairwise_append]
    refine ⟨h.apart, List.pairwise_singleton _ _, fun a _ b hb => ?_⟩
    rw [List.mem_singleton] at hb
    subst hb
    exact fun k _ hk => by cases hk
section
variable {P : Program} {o : Oper} {ρ : Operand → Value} {W : World}
theorem run_shl {t t' : TypeId} {x y : Operand} {k k' : IntKind} {a b z : Int} (h : o.op = .binOp .shl t x y t') (hx : ρ x = .int k a) (hy : ρ y = .int k' b) (hb : 0 ≤ b) (hz : k.wrap (a * 2 ^ min b.toNat k.bits) = z) : (execOp ρ o).run P W = .ok (.value (.int k z)) W := by
  subst hz
  unfold execOp; rw [h]
  have : ¬ b < 0 := by omega
  simp [hx, hy, eqGuard, binOp, Op.shift, this]
theorem run_or {t t' : TypeId} {x y : Operand} {k : IntKind} {a b z : Int} (h : o.op = .binOp .or t x y t') (hx : ρ x = .int k a) (hy : ρ y = .int k b) (hz : k.wrap ((BitVec.ofInt k.bits a ||| BitVec.ofInt k.bits b).toNat : Int) = z) : (execOp ρ o).run P W = .ok (.value (.int k z)) W := by
  subst hz
  unfold execOp; rw [h]
  simp [hx, hy, eqGuard, binOp, Op.intBits]
end
theorem one_cons (b c : Nat) (a : UInt8) (l : List UInt8) (w : World) (hb : Blk w b 9 #[.string (strL (a :: l))]) (hc : Blk w c 131 #[.func (.func 101) #[] #[.pointer (some ⟨b, 0, none⟩)]]) (hne : b ≠ c) :
    Calls Tryd.prog 103 #[.pointer (some ⟨c, 0, none⟩)] w (TakePost b (.int .i64 ((a.toNat : Nat) : Int)) l w) := one1_any b c (a :: l) w hb hc hne (by simp)
theorem take_app (n b : Nat) (A R : List UInt8) (w : World) (hb : Blk w b 9 #[.string (strL (A ++ R))]) (hn : A.length = n) :
    Calls Tryd.prog 101 #[.int .i64 (n : Int), .pointer (some ⟨b, 0, none⟩)] w (TakePost b (.string (strL A)) R w) := by
  have h := take_any n b (A ++ R) w hb (by rw [List.length_append]; omega)
  rw [List.take_left' hn, List.drop_left' hn] at h
  exact h
def VReadPost (rs : List Val) (w : World) (e : Ending) (w' : World) : Prop := ∃ A c, e = .returned (.tuple #[.slice A rs.length c, .int .i64 0]) ∧ w'.ownsRow w.heap.size 82 3 (.slice A rs.length c) rs.length (flatR (plainR rs)) ∧ Ext w w'
set_option maxRecDepth 100000 in
set_option maxHeartbeats 8000000 in
theorem vread_any (rs : List Val) (h0 : UInt8) (w : World) (hr : rrightF rs = true) (hrN : ∀ v ∈ rs, v.1 = 1 → -9223372036854775808 ≤ v.2.1 ∧ v.2.1 ≤ 9223372036854775807) (hh0 : ((h0.toNat : Nat) : Int) = (rs.length : Int)) :
    Calls Tryd.prog 71 #[.string (strL (h0 :: valsB rs))] w (VReadPost rs w) := by
  have hl6 := rright_len hr
  go_enter_defers Tryd.func71, Tryd.ntmps71
  have hst0 := St.start w
  refine wp_seq (wp_region_Y [0, 0, 0] [] [[0], [1], [2]] [] [.a 1, .a 2, .a 3] (fun ix σ β X => match ix with | 0 => σ 1 = vp (pb (β 1)) ∧ X 0 = eB (pb (β 1)) 9 #[.string (strL (h0 :: valsB rs))] | 1 => σ 2 = vp (pb (β 2)) ∧ X 1 = eB (pb (β 2)) 33 #[.slice none 0 0] | 2 => σ 3 = vp (pb (β 3)) ∧ X 2 = eB (pb (β 3)) 37 #[vi 0] | _ => True) [0, 1, 2] [0, 1, 2] [(1, 0, 3, 4)] hst0 ?_ ?_ ?_)
  · exact fun ix _ _ _ _ _ _ hs hb hx h => match ix, h with
    | 0, h => by dsimp only at h ⊢; rw [← hs 1 rfl, ← hb 1 rfl, ← hx 0 rfl]; exact h
    | 1, h => by dsimp only at h ⊢; rw [← hs 2 rfl, ← hb 2 rfl, ← hx 1 rfl]; exact h
    | 2, h => by dsimp only at h ⊢; rw [← hs 3 rfl, ← hb 3 rfl, ← hx 2 rfl]; exact h
    | _ + 3, _ => trivial
  · refine ⟨?_, ?_, ?_, trivial⟩
    · refine sv_any rfl rfl fun ρ β W X cx => ?_
      exact dv_box (cs := #[.string (strL (h0 :: valsB rs))]) rfl (cx.ou 0) rfl rfl rfl (fun σ β' X' hs hb hv hx => ⟨hv, hx⟩)
    · refine sv_any rfl rfl fun ρ β W X cx => ?_
      exact dv_alloc (cs := #[.slice none 0 0]) rfl (by kernel_rfl) rfl rfl (fun σ β' X' hs hb hv hx => ⟨hv, hx⟩)
    · refine sv_any rfl rfl fun ρ β W X cx => ?_
      exact dv_alloc (cs := #[vi 0]) rfl (by kernel_rfl) rfl rfl (fun σ β' X' hs hb hv hx => ⟨hv, hx⟩)
  intro σ β X W1 hD hst1 fr hfr
  obtain ⟨B1_1, hu_B1_1⟩ : ∃ z, pb (β 1) = z := ⟨_, rfl⟩
  obtain ⟨B2_1, hu_B2_1⟩ : ∃ z, pb (β 2) = z := ⟨_, rfl⟩
  obtain ⟨B3_1, hu_B3_1⟩ : ∃ z, pb (β 3) = z := ⟨_, rfl⟩
  simp only [exq 0 ((dTn (hD 0 lq)).2), exq 1 ((dTn (hD 1 lq)).2), exq 2 ((dTn (hD 2 lq)).2), hu_B1_1, hu_B2_1, hu_B3_1] at hst1
  simp only [ed 1 ((dTn (hD 0 lq)).1), ed 2 ((dTn (hD 1 lq)).1), ed 3 ((dTn (hD 2 lq)).1), hu_B1_1, hu_B2_1, hu_B3_1] at hfr
  clear hD hu_B1_1 hu_B2_1 hu_B3_1; subst hfr; clear σ β X
  refine then_normal (wp_seq ?_)
  refine wp_mkdefer (v := .func (.func 100) #[] #[vp B2_1, vp B3_1]) (d := { target := .fn (.func 100) #[vp B2_1, vp B3_1], args := #[] }) rfl rfl (by simp [go_sem, Instr.makeFunc, Act.eval]) (by simp [go_sem, Act.eval, Act.put]) rfl ?_
  simp only [Act.put, List.setIfInBounds_toArray, List.set_cons_succ, List.set_cons_zero]
  refine then_normal (wp_seq (wp_region_Y [0, 0, 3] [[], [], [3]] [[], [3], [4]] [[], [], [3]] [.c 12 (.func (.func 101) #[] #[vp B1_1]), .a 4, .n] (fun ix σ β X => match ix with | 0 => True | 1 => σ 4 = vp (pb (β 4)) ∧ X 3 = eB (pb (β 4)) 131 #[.nilFunc] | 2 => X 4 = eB (pb (β 4)) 131 #[.func (.func 101) #[] #[vp B1_1]] | _ => True) [0, 1, 2, 4] [0, 1, 2] [(4, 1, 1, 5), (7, 0, 1, 8)] hst1 ?_ ?_ ?_))
  · exact fun ix _ _ _ _ _ _ hs hb hx h => match ix, h with
    | 1, h => by dsimp only at h ⊢; rw [← hs 4 rfl, ← hb 4 rfl, ← hx 3 rfl]; exact h
    | 2, h => by dsimp only at h ⊢; rw [← hb 4 rfl, ← hx 4 rfl]; exact h
    | 0, _ | _ + 3, _ => trivial
  · refine ⟨?_, ?_, ?_, trivial⟩
    · exact sv0 rfl rfl rfl rfl rfl (fun _ _ _ h => h) fun ρ β W X cx => by
        have fF1 : ρ (.tmp 1) = vp B1_1 := (cx.ou 1)
        simp [go_sem, Instr.makeFunc, fF1]
    · refine sv_any rfl rfl fun ρ β W X cx => ?_
      exact dv_alloc (cs := #[.nilFunc]) rfl (by kernel_rfl) rfl rfl (fun σ β' X' hs hb hv hx => ⟨hv, hx⟩)
    · refine sv_any rfl rfl fun ρ β W X cx => ?_
      exact dv_store (n := 1) rfl (dTn (cx.an 1)).1 (cx.an 0) (by kernel_rfl) (by kernel_rfl) (by kernel_rfl) cx (dTn (cx.an 1)).2 rfl (nle rfl) (by kernel_rfl) rfl rfl rfl (fun σ β' X' hs hb hx => by rw [hb 4]; exact hx)
  intro σ β X W2 hD hst2 fr hfr
  obtain ⟨B4_2, hu_B4_2⟩ : ∃ z, pb (β 4) = z := ⟨_, rfl⟩
  simp only [exq 4 ((dTn (hD 2 lq))), hu_B4_2] at hst2
  simp only [ed 4 ((dTn (hD 1 lq)).1), hu_B4_2] at hfr
  clear hD hu_B4_2; subst hfr; clear σ β X
  refine then_normal (wp_seq (wp_region_Z [0, 1] [] [.c 13 (.func (.func 103) #[] #[vp B4_2]), .k 5 (.func (.func 103) #[] #[vp B4_2])] [0, 1, 2, 3] [0] [(5, 1, 1, 6), (7, 0, 1, 8)] hst2 ?_ fun W3 hst3 => ?_))
  · refine ⟨?_, trivial⟩
    · exact sv0 rfl rfl rfl rfl rfl (fun _ _ _ h => h) fun ρ β W X cx => by
        have fF4 : ρ (.tmp 4) = vp B4_2 := (cx.ou 4)
        simp [go_sem, Instr.makeFunc, fF4]
  refine then_normal (wp_seq (wp_region_Y [0, 1, 3] [[], [0, 3]] [[], [4]] [[], [0]] [.k 14 (.func (.func 103) #[] #[vp B4_2]), .a 15, .c 6 (vi ((rs.length : Int)))] (fun ix σ β X => match ix with | 0 => True | 1 => σ 15 = vi ((rs.length : Int)) ∧ X 4 = eB B1_1 9 #[.string (strL (valsB rs))] | _ => True) [1, 2, 3, 4] [1, 2] [(6, 2, 1, 7), (7, 0, 2, 9)] hst3 ?_ ?_ ?_))
  · exact fun ix _ _ _ _ _ _ hs hb hx h => match ix, h with
    | 1, h => by dsimp only at h ⊢; rw [← hs 15 rfl, ← hx 4 rfl]; exact h
    | 0, _ | _ + 2, _ => trivial
  · refine ⟨?_, ?_, trivial⟩
    · refine sv_any rfl rfl fun ρ β W X cx => ?_
      refine DoesU.call (run_callV (f := 103) (args := #[]) (args' := #[vp B4_2]) rfl rfl (cx.an 0) (by kernel_rfl) map0 rfl) ?_
      refine (one_cons _ _ h0 (valsB rs) _ (cx.bi 0 rfl) (cx.bi 3 rfl) (by have h_ := cx.ap 0 3 rfl rfl (by decide); rw [(cx.init 0 _ rfl), (cx.init 3 _ rfl)] at h_; intro e_; exact h_ _ (List.mem_singleton.2 rfl) (List.mem_singleton.2 e_))).mono ?_
      rintro e W1 ⟨rfl, hb1, hu⟩
      refine ⟨_, rfl, post_mut (cx.init 0 _ rfl) rfl rfl hu hb1 (fun σ β' X' hs hb hv hx => ?_)⟩
      exact ⟨(hv 15 rfl).1.trans (congrArg (Value.int .i64) hh0), hx⟩
    · exact xs4 rfl id fun cx => run_assign' rfl (dTn (cx.an 1)).1
  intro σ β X W4 hD hst4 fr hfr
  simp only [exq 4 ((dTn (hD 1 lq)).2)] at hst4
  simp only [ed 15 ((dTn (hD 1 lq)).1)] at hfr
  clear hD; subst hfr; clear σ β X
  refine then_normal (wp_seq ?_)
  have hd6 : (decide ((rs.length : Int) ≤ 6)) = true := decide_eq_true (by omega)
  refine wp_region_Z [0, 1, 3] [] [.k 16 (vi ((rs.length : Int))), .e 17 (.bool (decide ((rs.length : Int) ≤ 6))) (.bool true) (congrArg Value.bool hd6), .c 18 (.tuple #[])] [0, 1, 2, 3] [2] [(16, 0, 3, 19)] hst4 ?_ fun W5 hst5 => ?_
  · refine ⟨?_, trivial⟩
    · exact xsc rfl id rfl rfl fun cx => ⟨_, must_true _ _, (map2 (cx.an 1) (cx.co _))⟩
  refine then_normal (wp_seq (wp_seq (wp_region_P [0, 0] [.k 19 (vi ((rs.length : Int))), .k 20 (vi 0)] [(19, 0, 2, 21)] hst5 fun W7 hst7 => ?_)))
  refine then_normal (wp_block ?_)
  have hn_8 := nilrowN hst7 82 3
  refine wp_loopN (fun mz az W => ∃ k : Nat, ∃ RA : Option Addr, ∃ RC : Nat, ∃ u9_ : List Value, k ≤ rs.length ∧ mz = rs.length - k ∧ az = ⟨#[.string (strL (h0 :: valsB rs)), vp B1_1, vp B2_1, vp B3_1, vp B4_2, .func (.func 103) #[] #[vp B4_2], vi ((rs.length : Int)), (gu u9_ 0), undef, (gu u9_ 1), (gu u9_ 2), .func (.func 100) #[] #[vp B2_1, vp B3_1], .func (.func 101) #[] #[vp B1_1], .func (.func 103) #[] #[vp B4_2], .func (.func 103) #[] #[vp B4_2], vi ((rs.length : Int)), vi ((rs.length : Int)), .bool true, .tuple #[], vi ((rs.length : Int)), vi ((k : Int)), (gu u9_ 3), (gu u9_ 4), (gu u9_ 5), (gu u9_ 6), (gu u9_ 7), (gu u9_ 8), (gu u9_ 9), (gu u9_ 10), (gu u9_ 11), (gu u9_ 12), (gu u9_ 13), (gu u9_ 14), (gu u9_ 15), (gu u9_ 16), (gu u9_ 17), (gu u9_ 18), (gu u9_ 19), (gu u9_ 20), (gu u9_ 21), (gu u9_ 22), (gu u9_ 23), (gu u9_ 24), (gu u9_ 25), (gu u9_ 26), (gu u9_ 27), (gu u9_ 28), (gu u9_ 29), (gu u9_ 30), (gu u9_ 31), (gu u9_ 32), (gu u9_ 33), (gu u9_ 34), (gu u9_ 35), (gu u9_ 36), (gu u9_ 37), (gu u9_ 38), (gu u9_ 39), (gu u9_ 40), (gu u9_ 41), (gu u9_ 42), (gu u9_ 43), (gu u9_ 44), (gu u9_ 45), (gu u9_ 46), undef, undef, undef, undef], [{ target := .fn (.func 100) #[vp B2_1, vp B3_1], args := #[] }]⟩ ∧ St w [] [eB B1_1 9 #[.string (strL (valsB (rs.drop k)))], eB B2_1 33 #[.slice RA k RC], eO 82 3 (.slice RA k RC) k (flatR (plainR (rs.take k))), eB B3_1 37 #[vi 0], eB B4_2 131 #[.func (.func 101) #[] #[vp B1_1]]] W) (rs.length - 0) ?_ ?_
  · -- the loop begins
    have hp10 := hn_8.pick [3, 0, 4, 1, 2] (by decide) rfl
    exact ⟨0, none, 0, [undef, undef, undef, undef, undef, undef, undef, undef, undef, undef, undef, undef, undef, undef, undef, undef, undef, undef, undef, undef, undef, undef, undef, undef, undef, undef, undef, undef, undef, undef, undef, undef, undef, undef, undef, undef, undef, undef, undef, undef, undef, undef, undef, undef, undef, undef, undef], by omega, rfl, rfl, hp10⟩
  rintro n9 a9 W9 ⟨k, RA, RC, u9_, hk, rfl, rfl, hst9⟩
  refine wp_seq (wp_region_P [0] [.k 21 (.bool (decide ((k : Int) < (rs.length : Int))))] [(21, 0, 1, 22)] hst9 fun W11 hst11 => ?_)
  refine then_normal (wp_seq ?_)
  rcases Bool.eq_false_or_eq_true (decide ((k : Int) < (rs.length : Int))) with hs12 | hs12
  · skip
    have hs12p : (k : Int) < (rs.length : Int) := by simpa using hs12
    refine wp_cond_true (show Act.eval _ _ = .bool true from (congrArg Value.bool hs12)) (wp_skip (then_normal (wp_seq (wp_block (wp_seq ?_)))))
    obtain ⟨u, hu⟩ : ∃ z, rs.getD k v0 = z := ⟨_, rfl⟩
    have hvu : vrightF u = true := by rw [← hu]; exact rright_at hr (by omega)
    have hpu := vright_parts hvu
    have hkn : knownF u.1 = true := by simp only [knownF, Bool.and_eq_true, decide_eq_true_eq]; omega
    have huN : u.1 = 1 → -9223372036854775808 ≤ u.2.1 ∧ u.2.1 ≤ 9223372036854775807 := by rw [← hu]; exact hrN _ (by rw [List.getD_eq_getElem?_getD, List.getElem?_eq_getElem (by omega), Option.getD_some]; exact List.getElem_mem _)
    obtain ⟨hd, hhd⟩ : ∃ z, UInt8.ofNat u.1.toNat = z := ⟨_, rfl⟩
    have hdv : ((hd.toNat : Nat) : Int) = u.1 := by rw [← hhd]; exact u8_int (by omega)
    obtain ⟨TB, hTB⟩ : ∃ z, tailB u = z := ⟨_, rfl⟩
    obtain ⟨R, hR⟩ : ∃ z, valsB (rs.drop (k + 1)) = z := ⟨_, rfl⟩
    have hl_ : valsB (rs.drop k) = hd :: (TB ++ R) := by rw [valsB_at (by omega), hu, hhd, hTB, hR]
    rw [hl_] at hst11
    refine wp_region_Y [0, 1, 3, 0, 15] [[], [0, 4], [], [], [6]] [[], [5], [], [6], [7]] [[], [0], [], [], [6]] [.k 22 (.func (.func 103) #[] #[vp B4_2]), .a 23, .c 24 (.agg #[vi u.1, vi 0, .string ByteArray.empty]), .a 7, .n] (fun ix σ β X => match ix with | 0 => True | 1 => σ 23 = vi u.1 ∧ X 5 = eB B1_1 9 #[.string (strL (TB ++ R))] | 2 => True | 3 => σ 7 = vp (pb (β 7)) ∧ X 6 = eB (pb (β 7)) 82 #[vi 0, vi 0, .string ByteArray.empty] | 4 => X 7 = eB (pb (β 7)) 82 #[vi u.1, vi 0, .string ByteArray.empty] | _ => True) [1, 2, 3, 4, 5, 7] [1, 2, 3, 4] [(7, 3, 1, 8), (14, 0, 3, 17)] hst11 ?_ ?_ ?_
    · exact fun ix _ _ _ _ _ _ hs hb hx h => match ix, h with
      | 1, h => by dsimp only at h ⊢; rw [← hs 23 rfl, ← hx 5 rfl]; exact h
      | 3, h => by dsimp only at h ⊢; rw [← hs 7 rfl, ← hb 7 rfl, ← hx 6 rfl]; exact h
      | 4, h => by dsimp only at h ⊢; rw [← hb 7 rfl, ← hx 7 rfl]; exact h
      | 0, _ | 2, _ | _ + 5, _ => trivial
    · refine ⟨?_, ?_, ?_, ?_, trivial⟩
      · refine sv_any rfl rfl fun ρ β W X cx => ?_
        refine DoesU.call (run_callV (f := 103) (args := #[]) (args' := #[vp B4_2]) rfl rfl (cx.an 0) (by kernel_rfl) map0 rfl) ?_
        refine (one_cons _ _ hd ((TB ++ R)) _ (cx.bi 0 rfl) (cx.bi 4 rfl) (by have h_ := cx.ap 0 4 rfl rfl (by decide); rw [(cx.init 0 _ rfl), (cx.init 4 _ rfl)] at h_; intro e_; exact h_ _ (List.mem_singleton.2 rfl) (List.mem_singleton.2 e_))).mono ?_
        rintro e W1 ⟨rfl, hb1, hu⟩
        refine ⟨_, rfl, post_mut (cx.init 0 _ rfl) rfl rfl hu hb1 (fun σ β' X' hs hb hv hx => ?_)⟩
        exact ⟨(hv 23 rfl).1.trans (congrArg (Value.int .i64) hdv), hx⟩
      · exact xs4 rfl id fun cx => run_buildL rfl (pmc (dTn (cx.an 1)).1 pmn) (by kernel_rfl)
      · refine sv_any rfl rfl fun ρ β W X cx => ?_
        exact dv_alloc (cs := #[vi 0, vi 0, .string ByteArray.empty]) rfl (by kernel_rfl) rfl rfl (fun σ β' X' hs hb hv hx => ⟨hv, hx⟩)
      · refine sv_any rfl rfl fun ρ β W X cx => ?_
        exact dv_store (n := 3) rfl (dTn (cx.an 3)).1 (cx.an 2) (by kernel_rfl) (by kernel_rfl) (by kernel_rfl) cx (dTn (cx.an 3)).2 rfl (nle rfl) (by kernel_rfl) rfl rfl rfl (fun σ β' X' hs hb hx => by rw [hb 7]; exact hx)
    intro σ β X W13 hD hst13 fr hfr
    obtain ⟨B7_13, hu_B7_13⟩ : ∃ z, pb (β 7) = z := ⟨_, rfl⟩
    simp only [exq 5 ((dTn (hD 1 lq)).2), exq 7 ((dTn (hD 4 lq))), hu_B7_13] at hst13
    simp only [ed 23 ((dTn (hD 1 lq)).1), ed 7 ((dTn (hD 3 lq)).1), hu_B7_13] at hfr
    clear hD hu_B7_13; subst hfr; clear σ β X
    refine then_normal (wp_seq ?_)
    have hd15 : (knownF u.1) = true := hkn
    refine wp_region_Z [0, 1, 3, 7] [[], [5]] [.k 25 (vp B7_13), .c 26 (vi u.1), .c 27 (.bool true), .c 28 (.tuple #[])] [0, 1, 2, 3, 4, 5] [1, 2, 3] [(25, 0, 4, 29)] hst13 ?_ fun W14 hst14 => ?_
    · refine ⟨?_, ?_, ?_, trivial⟩
      · exact xs4 rfl id fun cx => run_load1 rfl (by kernel_rfl) (cx.an 0) ((cx.bi 5 rfl).cell 0)
      · exact sv_call rfl rfl rfl rfl rfl (fun _ _ _ h => h.trans (congrArg Value.bool hd15)) fun ρ β W X cx => ⟨_, _, run_callF (args := #[vi u.1]) rfl cx.sees rfl (by kernel_rfl) (map1 (cx.an 1)), vknown_any u.1 _⟩
      · exact xsc rfl id rfl rfl fun cx => ⟨_, must_true _ _, (map2 (cx.an 2) (cx.co _))⟩
    refine then_normal (wp_seq (wp_seq (wp_region_Z [0, 1] [[], [5]] [.k 29 (vp B7_13), .c 30 (vi u.1)] [0, 1, 2, 3, 4, 5] [1] [(29, 0, 2, 31)] hst14 ?_ fun W16 hst16 => ?_)))
    · refine ⟨?_, trivial⟩
      · exact xs4 rfl id fun cx => run_load1 rfl (by kernel_rfl) (cx.an 0) ((cx.bi 5 rfl).cell 0)
    refine then_normal (wp_block (wp_seq (wp_region_P [0, 1] [.k 32 (.bool (u.1 == 1)), .k 31 (.bool (u.1 == 1))] [(31, 1, 1, 32), (0, 0, 1, 1)] hst16 fun W17 hst17 => ?_)))
    refine then_normal ?_
    rcases Bool.eq_false_or_eq_true (u.1 == 1) with hs18 | hs18
    · skip
      have hs18p : u.1 = 1 := by simpa using hs18
      refine wp_cond_true (show Act.eval _ _ = .bool true from (congrArg Value.bool hs18)) (wp_seq ?_)
      have h8 : TB = (putS u.2.1 8).data.toList := by rw [← hTB, tailB, if_pos (by assumption)]
      have hp8 : (putS u.2.1 8).size = 8 := putS_size _ 8 (by omega)
      rw [h8] at hst17
      refine wp_region_Y [0, 1, 3, 7, 0] [[3], [4]] [[], [6], [7]] [[], [4]] [.c 33 (.func (.func 101) #[] #[vp B1_1]), .a 34, .a 35, .c 36 (vi ((((putS u.2.1 8)).size : Int))), .k 37 (vi 0)] (fun ix σ β X => match ix with | 0 => True | 1 => σ 34 = .string ((putS u.2.1 8)) ∧ X 6 = eB B1_1 9 #[.string (strL R)] | 2 => σ 35 = .slice ((some ⟨(pb' (β 35)), 0, none⟩)) (((putS u.2.1 8)).size) (((putS u.2.1 8)).size + (sK (β 35))) ∧ X 7 = eW (pb' (β 35)) 5 (bI (putS u.2.1 8)) | _ => True) [0, 1, 2, 3, 5, 6, 7] [0, 1, 2, 3] [(33, 0, 5, 38)] hst17 ?_ ?_ ?_
      · exact fun ix _ _ _ _ _ _ hs hb hx h => match ix, h with
        | 1, h => by dsimp only at h ⊢; rw [← hs 34 rfl, ← hx 6 rfl]; exact h
        | 2, h => by dsimp only at h ⊢; rw [← hs 35 rfl, ← hb 35 rfl, ← hx 7 rfl]; exact h
        | 0, _ | _ + 3, _ => trivial
      · refine ⟨?_, ?_, ?_, ?_, trivial⟩
        · exact xs4 rfl id fun cx => run_load1 rfl (by kernel_rfl) (cx.ou 4) ((cx.bi 3 rfl).cell 0)
        · refine sv_any rfl rfl fun ρ β W X cx => ?_
          refine DoesU.call (run_callV (f := 101) (args := #[vi 8]) (args' := #[vi 8, vp B1_1]) rfl rfl (cx.an 0) (by kernel_rfl) (map1 (cx.co _)) rfl) ?_
          refine (take_app 8 B1_1 ((putS u.2.1 8).data.toList) R _ (cx.bi 4 rfl) (by rw [Array.length_toList]; exact putS_size _ 8 (by omega))).mono ?_
          rintro e W1 ⟨rfl, hb1, hu⟩
          refine ⟨_, rfl, post_mut (cx.init 4 _ rfl) rfl rfl hu hb1 (fun σ β' X' hs hb hv hx => ?_)⟩
          exact ⟨(hv 34 rfl).1.trans (congrArg Value.string (strL_data _)), hx⟩
        · refine sv_any rfl rfl fun ρ β W X cx => ?_
          exact dv_convS (e := 5) (s := (putS u.2.1 8)) rfl (by kernel_rfl) (by kernel_rfl) (by kernel_rfl) (dTn (cx.an 1)).1 rfl rfl (fun σ β' X' hs hb hv hx => ⟨hv, hx⟩)
        · exact xs4 rfl id fun cx => run_len_l (e := 5) rfl (by kernel_rfl) (dTn (cx.an 2)).1
      intro σ β X W19 hD hst19 fr hfr
      obtain ⟨B35_19, hu_B35_19⟩ : ∃ z, pb' (β 35) = z := ⟨_, rfl⟩
      obtain ⟨c35_19, hu_c35_19⟩ : ∃ z, sK (β 35) = z := ⟨_, rfl⟩
      simp only [exq 6 ((dTn (hD 1 lq)).2), exq 7 ((dTn (hD 2 lq)).2), hu_B35_19, hu_c35_19] at hst19
      simp only [ed 34 ((dTn (hD 1 lq)).1), ed 35 ((dTn (hD 2 lq)).1), hu_B35_19, hu_c35_19] at hfr
      clear hD hu_B35_19 hu_c35_19; subst hfr; clear σ β X
      refine then_normal (wp_block ?_)
      rw [show eB B7_13 82 #[vi u.1, vi 0, .string ByteArray.empty] = eB B7_13 82 #[vi u.1, vi (accN u.2.1 0), .string ByteArray.empty] from by rw [acc_0], bI_put] at hst19
      refine wp_loopN (fun mz az W => ∃ j : Nat, ∃ u20_ : List Value, j ≤ 8 ∧ mz = 8 - j ∧ az = ⟨#[.string (strL (h0 :: valsB rs)), vp B1_1, vp B2_1, vp B3_1, vp B4_2, .func (.func 103) #[] #[vp B4_2], vi ((rs.length : Int)), vp B7_13, undef, (gu u20_ 0), (gu u9_ 2), .func (.func 100) #[] #[vp B2_1, vp B3_1], .func (.func 101) #[] #[vp B1_1], .func (.func 103) #[] #[vp B4_2], .func (.func 103) #[] #[vp B4_2], vi ((rs.length : Int)), vi ((rs.length : Int)), .bool true, .tuple #[], vi ((rs.length : Int)), vi ((k : Int)), .bool (decide ((k : Int) < (rs.length : Int))), .func (.func 103) #[] #[vp B4_2], vi u.1, .agg #[vi u.1, vi 0, .string ByteArray.empty], vp B7_13, vi u.1, .bool true, .tuple #[], vp B7_13, vi u.1, .bool (u.1 == 1), .bool (u.1 == 1), .func (.func 101) #[] #[vp B1_1], .string ((putS u.2.1 8)), .slice ((some ⟨B35_19, 0, none⟩)) (((putS u.2.1 8)).size) (((putS u.2.1 8)).size + c35_19), vi ((((putS u.2.1 8)).size : Int)), vi ((j : Int)), (gu u20_ 1), (gu u20_ 2), (gu u20_ 3), (gu u20_ 4), (gu u20_ 5), (gu u20_ 6), (gu u20_ 7), (gu u20_ 8), (gu u20_ 9), (gu u20_ 10), (gu u20_ 11), (gu u9_ 31), (gu u9_ 32), (gu u9_ 33), (gu u9_ 34), (gu u9_ 35), (gu u9_ 36), (gu u9_ 37), (gu u9_ 38), (gu u9_ 39), (gu u9_ 40), (gu u9_ 41), (gu u9_ 42), (gu u9_ 43), (gu u9_ 44), (gu u9_ 45), (gu u9_ 46), undef, undef, undef, undef], [{ target := .fn (.func 100) #[vp B2_1, vp B3_1], args := #[] }]⟩ ∧ St w [] [eB B2_1 33 #[.slice RA k RC], eO 82 3 (.slice RA k RC) k (flatR (plainR (rs.take k))), eB B3_1 37 #[vi 0], eB B4_2 131 #[.func (.func 101) #[] #[vp B1_1]], eB B7_13 82 #[vi u.1, vi (accN u.2.1 j), .string ByteArray.empty], eB B1_1 9 #[.string (strL R)], eW B35_19 5 (oct8 u.2.1)] W) (8 - 0) ?_ ?_
      · -- the loop begins
        have hp21 := hst19.pick [0, 1, 2, 3, 4, 5, 6] (by decide) rfl
        exact ⟨0, [(gu u9_ 1), (gu u9_ 20), (gu u9_ 21), (gu u9_ 22), (gu u9_ 23), (gu u9_ 24), (gu u9_ 25), (gu u9_ 26), (gu u9_ 27), (gu u9_ 28), (gu u9_ 29), (gu u9_ 30)], by omega, rfl, rfl, hp21⟩
      rintro n20 a20 W20 ⟨j, u20_, hj, rfl, rfl, hst20⟩
      refine wp_seq (wp_region_P [0] [.k 38 (.bool (decide ((j : Int) < (((putS u.2.1 8)).size : Int))))] [(38, 0, 1, 39)] hst20 fun W22 hst22 => ?_)
      refine then_normal (wp_seq ?_)
      rcases Bool.eq_false_or_eq_true (decide ((j : Int) < (((putS u.2.1 8)).size : Int))) with hs23 | hs23
      · skip
        have hs23p : (j : Int) < (((putS u.2.1 8)).size : Int) := by simpa using hs23
        refine wp_cond_true (show Act.eval _ _ = .bool true from (congrArg Value.bool hs23)) (wp_skip (then_normal (wp_seq (wp_block (wp_seq (wp_region_Z [0, 1, 3] [[], [6]] [.c 39 (.pointer (some ⟨B35_19, j, none⟩)), .c 40 (.int .u8 ((oct8 u.2.1).getD j 0)), .k 9 (.int .u8 ((oct8 u.2.1).getD j 0))] [0, 1, 2, 3, 4, 5, 6] [0, 1] [(9, 2, 1, 10), (29, 0, 2, 31)] hst22 ?_ fun W24 hst24 => ?_))))))
        · refine ⟨?_, ?_, trivial⟩
          · exact xs4 rfl id fun cx => run_indexW (e := 5) (m := j) rfl (by kernel_rfl) (by kernel_rfl) (cx.ou 35) (cx.ou 37) (by omega) (by omega)
          · exact xs4 rfl id fun cx => run_load1 rfl (by kernel_rfl) (cx.an 0) (BRow.cell (cx.brow (cx.init 6 _ rfl) rfl) (by first | omega | (show _ < 8; omega)))
        refine then_normal ?_
        have hob := oct8_bd u.2.1 j
        refine wp_region_Y [0, 1, 3, 0, 8, 31, 63, 127] [[], [4], [], [], [], [], [], [4]] [[], [], [], [], [], [], [], [7]] [[], [], [], [], [], [], [], [4]] [.k 41 (.pointer (some ⟨B7_13, 1, none⟩)), .c 42 (vi (accN u.2.1 j)), .c 43 (vi (IntKind.i64.wrap (accN u.2.1 j * 2 ^ 8))), .k 44 (.int .u8 ((oct8 u.2.1).getD j 0)), tW 45 .i64 ((oct8 u.2.1).getD j 0) ((oct8 u.2.1).getD j 0) (IntWalk.i64_in _ (by omega)), .c 46 (vi (accN u.2.1 (j + 1))), .k 47 (.pointer (some ⟨B7_13, 1, none⟩)), .n] (fun ix σ β X => match ix with | 0 => True | 1 => True | 2 => True | 3 => True | 4 => True | 5 => True | 6 => True | 7 => X 7 = eB B7_13 82 #[vi u.1, vi (accN u.2.1 (j + 1)), .string ByteArray.empty] | _ => True) [0, 1, 2, 3, 5, 6, 7] [1, 2, 5, 7] [(41, 0, 7, 48)] hst24 ?_ ?_ ?_
        · exact fun ix _ _ _ _ _ _ hs hb hx h => match ix, h with
          | 7, h => by dsimp only at h ⊢; rw [← hx 7 rfl]; exact h
          | 0, _ | 1, _ | 2, _ | 3, _ | 4, _ | 5, _ | 6, _ | _ + 8, _ => trivial
        · refine ⟨?_, ?_, ?_, ?_, trivial⟩
          · exact xs4 rfl id fun cx => run_load1 rfl (by kernel_rfl) (cx.an 0) ((cx.bi 4 rfl).cell 1)
          · exact xs4 rfl id fun cx => run_shl rfl (cx.an 1) (cx.co _) (by decide) rfl
          · exact xs4 rfl id fun cx => run_or rfl (cx.an 2) (cx.an 4) (acc_step _ (by omega))
          · refine sv_any rfl rfl fun ρ β W X cx => ?_
            exact dv_store (n := 1) rfl (cx.an 6) (cx.an 5) (by kernel_rfl) (by kernel_rfl) (by kernel_rfl) cx (cx.init 4 _ rfl) rfl (nle rfl) (by kernel_rfl) rfl rfl rfl (fun σ β' X' hs hb hx => hx)
        intro σ β X W25 hD hst25 fr hfr
        simp only [exq 7 ((dTn (hD 7 lq)))] at hst25
        clear hD; subst hfr; clear σ β X
        refine blk_normal (then_normal (wp_region_P [0, 1] [tI 48 ((j : Int) + 1) (by omega), .k 37 (vi ((j : Int) + 1))] [(37, 1, 1, 38), (10, 0, 1, 11)] hst25 fun W26 hst26 => ?_))
        refine then_normal ?_
        refine ⟨8 - ((j + 1)), by omega, ?_⟩
        have hp27 := hst26.pick [0, 1, 2, 3, 6, 4, 5] (by decide) rfl
        exact ⟨(j + 1), [.int .u8 ((oct8 u.2.1).getD j 0), .bool (decide ((j : Int) < (((putS u.2.1 8)).size : Int))), .pointer (some ⟨B35_19, j, none⟩), .int .u8 ((oct8 u.2.1).getD j 0), .pointer (some ⟨B7_13, 1, none⟩), vi (accN u.2.1 j), vi (IntKind.i64.wrap (accN u.2.1 j * 2 ^ 8)), .int .u8 ((oct8 u.2.1).getD j 0), vi ((oct8 u.2.1).getD j 0), vi (accN u.2.1 (j + 1)), .pointer (some ⟨B7_13, 1, none⟩), vi ((j : Int) + 1)], by omega, rfl, rfl, hp27⟩
      have hs23p : ¬ ((j : Int) < (((putS u.2.1 8)).size : Int)) := by simpa using hs23
      refine wp_cond_false (show Act.eval _ _ = .bool false from (congrArg Value.bool hs23)) (wp_exit (then_exit (then_exit (blk_eq (blk_normal (then_normal ?_))))))
      obtain rfl : j = 8 := by omega
      rw [acc_8 (huN (by assumption))] at hst22
      refine wp_region_Y [0, 0, 2, 7, 15] [[0], [4], [], [7, 1], [0]] [[], [], [7], [8], [9]] [[], [], [], [1], [0]] [.c 60 (.slice RA k RC), .c 61 (.agg #[vi u.1, vi u.2.1, .string ByteArray.empty]), .a 62, .a 63, .n] (fun ix σ β X => match ix with | 0 => True | 1 => True | 2 => σ 62 = .slice ((some ⟨(pb' (β 62)), 0, none⟩)) 1 1 ∧ X 7 = eO 82 3 (.slice ((some ⟨(pb' (β 62)), 0, none⟩)) 1 1) 1 ([vi u.1, vi u.2.1, .string ByteArray.empty]) | 3 => σ 63 = .slice (sA (β 63)) (k + 1) (sC (β 63)) ∧ X 8 = eO 82 3 (.slice (sA (β 63)) (k + 1) (sC (β 63))) (k + 1) (flatR (plainR (rs.take (k + 1)))) | 4 => X 9 = eB B2_1 33 #[.slice (sA (β 63)) (k + 1) (sC (β 63))] | _ => True) [2, 3, 4, 5, 6, 7, 8, 9] [0, 1, 2, 3, 4] [(60, 0, 4, 64)] hst22 ?_ ?_ ?_
      · exact fun ix _ _ _ _ _ _ hs hb hx h => match ix, h with
        | 2, h => by dsimp only at h ⊢; rw [← hs 62 rfl, ← hb 62 rfl, ← hx 7 rfl]; exact h
        | 3, h => by dsimp only at h ⊢; rw [← hs 63 rfl, ← hb 63 rfl, ← hx 8 rfl]; exact h
        | 4, h => by dsimp only at h ⊢; rw [← hb 63 rfl, ← hx 9 rfl]; exact h
        | 0, _ | 1, _ | _ + 5, _ => trivial
      · refine ⟨?_, ?_, ?_, ?_, ?_, trivial⟩
        · exact xs4 rfl id fun cx => run_load1 rfl (by kernel_rfl) (cx.ou 2) ((cx.bi 0 rfl).cell 0)
        · exact xs4 rfl id fun cx => run_loadB (n := 3) rfl (by kernel_rfl) (by kernel_rfl) (cx.ou 7) (cx.bi 4 rfl) (nle rfl) rfl
        · refine sv_any rfl rfl fun ρ β W X cx => ?_
          have fF61 : ρ (.tmp 61) = .agg #[vi u.1, vi u.2.1, .string ByteArray.empty] := (cx.an 1)
          exact dv_litN (e := 82) (sz := 3) (xs := [vi u.1, vi u.2.1, .string ByteArray.empty]) rfl (by simp [go_sem, fF61]) rfl (by decide) rfl rfl (fun σ β' X' hs hb hv hx => ⟨hv, hx⟩)
        · refine sv_any rfl rfl fun ρ β W X cx => ?_
          obtain ⟨i0, hi0, hz0, hz1, hz2⟩ := info_parts Tryd.infoVal
          refine dv_appendN (n := k) (m := 1) (nm := k + 1) (sz := 3) (xs := flatR (plainR (rs.take k))) (news := [vi u.1, vi u.2.1, .string ByteArray.empty]) (xs' := flatR (plainR (rs.take (k + 1)))) rfl (ty := 33) rfl (by kernel_rfl) hi0 hz0 hz1 hz2 rfl (by decide) (cx.an 0) cx (cx.init 1 _ rfl) rfl (dTn (cx.an 2)).1 (by rfl) (At.of_ownN (cx.row (dTn (cx.an 2)).2 rfl)) (by simp [Value.oneCell']) (by simp only [maxLen]; omega) (by omega) rfl rfl rfl (by omega) (plain_snoc (by omega) (by rw [hu]; simp [cellsV, plainV, *])) (fun σ β' X' hs hb hv hx => ?_)
          exact ⟨hv, hx⟩
        · refine sv_any rfl rfl fun ρ β W X cx => ?_
          exact dv_store (n := 1) rfl (cx.ou 2) (dTn (cx.an 3)).1 (by kernel_rfl) (by kernel_rfl) (by kernel_rfl) cx (cx.init 0 _ rfl) rfl (nle rfl) (by kernel_rfl) rfl rfl rfl (fun σ β' X' hs hb hx => by rw [hb 63]; exact hx)
      intro σ β X W28 hD hst28 fr hfr
      obtain ⟨B62_28, hu_B62_28⟩ : ∃ z, pb' (β 62) = z := ⟨_, rfl⟩
      obtain ⟨A63_28, hu_A63_28⟩ : ∃ z, sA (β 63) = z := ⟨_, rfl⟩
      obtain ⟨c63_28, hu_c63_28⟩ : ∃ z, sC (β 63) = z := ⟨_, rfl⟩
      simp only [exq 7 ((dTn (hD 2 lq)).2), exq 8 ((dTn (hD 3 lq)).2), exq 9 ((dTn (hD 4 lq))), hu_B62_28, hu_A63_28, hu_c63_28] at hst28
      simp only [ed 62 ((dTn (hD 2 lq)).1), ed 63 ((dTn (hD 3 lq)).1), hu_B62_28, hu_A63_28, hu_c63_28] at hfr
      clear hD hu_B62_28 hu_A63_28 hu_c63_28; subst hfr; clear σ β X
      refine blk_normal (then_normal (wp_region_P [0, 1] [tI 64 ((k : Int) + 1) (by omega), .k 20 (vi ((k : Int) + 1))] [(20, 1, 1, 21), (43, 0, 1, 44)] hst28 fun W29 hst29 => ?_))
      refine then_normal ?_
      rw [← hR] at hst29
      refine ⟨rs.length - ((k + 1)), by omega, ?_⟩
      have hp30 := hst29.pick [3, 7, 6, 0, 1] (by decide) rfl
      exact ⟨(k + 1), A63_28, c63_28, [vp B7_13, (gu u20_ 0), (gu u9_ 2), .bool (decide ((k : Int) < (rs.length : Int))), .func (.func 103) #[] #[vp B4_2], vi u.1, .agg #[vi u.1, vi 0, .string ByteArray.empty], vp B7_13, vi u.1, .bool true, .tuple #[], vp B7_13, vi u.1, .bool (u.1 == 1), .bool (u.1 == 1), .func (.func 101) #[] #[vp B1_1], .string ((putS u.2.1 8)), .slice ((some ⟨B35_19, 0, none⟩)) (((putS u.2.1 8)).size) (((putS u.2.1 8)).size + c35_19), vi ((((putS u.2.1 8)).size : Int)), vi (((8 : Nat) : Int)), .bool (decide (((8 : Nat) : Int) < (((putS u.2.1 8)).size : Int))), (gu u20_ 2), (gu u20_ 3), (gu u20_ 4), (gu u20_ 5), (gu u20_ 6), (gu u20_ 7), (gu u20_ 8), (gu u20_ 9), (gu u20_ 10), (gu u20_ 11), (gu u9_ 31), (gu u9_ 32), (gu u9_ 33), (gu u9_ 34), (gu u9_ 35), (gu u9_ 36), (gu u9_ 37), (gu u9_ 38), (gu u9_ 39), (gu u9_ 40), (gu u9_ 41), .slice RA k RC, .agg #[vi u.1, vi u.2.1, .string ByteArray.empty], .slice ((some ⟨B62_28, 0, none⟩)) 1 1, .slice A63_28 (k + 1) c63_28, vi ((k : Int) + 1)], by omega, rfl, rfl, hp30⟩
    have hs18p : u.1 ≠ 1 := by simpa using hs18
    refine wp_cond_false (show Act.eval _ _ = .bool false from (congrArg Value.bool hs18)) (wp_seq (wp_region_P [0, 1] [.k 50 (.bool (u.1 == 2)), .k 49 (.bool (u.1 == 2))] [(49, 1, 1, 50), (0, 0, 1, 1)] hst17 fun W31 hst31 => ?_))
    refine then_normal ?_
    rcases Bool.eq_false_or_eq_true (u.1 == 2) with hs32 | hs32
    · skip
      have hs32p : u.1 = 2 := by simpa using hs32
      refine wp_cond_true (show Act.eval _ _ = .bool true from (congrArg Value.bool hs32)) (wp_seq ?_)
      have hs2 : u.2.2.size ≤ 40 := hpu.2.2 (by assumption)
      obtain ⟨h2, hh2⟩ : ∃ z, UInt8.ofNat ((u.2.2.size : Nat) : Int).toNat = z := ⟨_, rfl⟩
      have hv2 : ((h2.toNat : Nat) : Int) = (u.2.2.size : Int) := by rw [← hh2]; exact u8_int (by omega)
      have h8 : TB = h2 :: u.2.2.data.toList := by rw [← hTB, tailB, if_neg (by assumption), if_pos (by assumption), hh2]
      rw [h8, List.cons_append] at hst31
      refine wp_region_Y [0, 1, 3] [[], [4, 3]] [[], [6]] [[], [4]] [.k 51 (.func (.func 103) #[] #[vp B4_2]), .a 52, .c 10 (vi ((u.2.2.size : Int)))] (fun ix σ β X => match ix with | 0 => True | 1 => σ 52 = vi ((u.2.2.size : Int)) ∧ X 6 = eB B1_1 9 #[.string (strL (u.2.2.data.toList ++ R))] | _ => True) [0, 1, 2, 3, 5, 6] [1, 2] [(10, 2, 1, 11), (40, 0, 2, 42)] hst31 ?_ ?_ ?_
      · exact fun ix _ _ _ _ _ _ hs hb hx h => match ix, h with
        | 1, h => by dsimp only at h ⊢; rw [← hs 52 rfl, ← hx 6 rfl]; exact h
        | 0, _ | _ + 2, _ => trivial
      · refine ⟨?_, ?_, trivial⟩
        · refine sv_any rfl rfl fun ρ β W X cx => ?_
          refine DoesU.call (run_callV (f := 103) (args := #[]) (args' := #[vp B4_2]) rfl rfl (cx.an 0) (by kernel_rfl) map0 rfl) ?_
          refine (one_cons _ _ h2 ((u.2.2.data.toList ++ R)) _ (cx.bi 4 rfl) (cx.bi 3 rfl) (by have h_ := cx.ap 4 3 rfl rfl (by decide); rw [(cx.init 4 _ rfl), (cx.init 3 _ rfl)] at h_; intro e_; exact h_ _ (List.mem_singleton.2 rfl) (List.mem_singleton.2 e_))).mono ?_
          rintro e W1 ⟨rfl, hb1, hu⟩
          refine ⟨_, rfl, post_mut (cx.init 4 _ rfl) rfl rfl hu hb1 (fun σ β' X' hs hb hv hx => ?_)⟩
          exact ⟨(hv 52 rfl).1.trans (congrArg (Value.int .i64) hv2), hx⟩
        · exact xs4 rfl id fun cx => run_assign' rfl (dTn (cx.an 1)).1
      intro σ β X W33 hD hst33 fr hfr
      simp only [exq 6 ((dTn (hD 1 lq)).2)] at hst33
      simp only [ed 52 ((dTn (hD 1 lq)).1)] at hfr
      clear hD; subst hfr; clear σ β X
      refine then_normal (wp_seq ?_)
      have hd35 : (decide ((u.2.2.size : Int) ≤ 40)) = true := decide_eq_true (by omega)
      refine wp_region_Z [0, 1, 3] [] [.k 53 (vi ((u.2.2.size : Int))), .e 54 (.bool (decide ((u.2.2.size : Int) ≤ 40))) (.bool true) (congrArg Value.bool hd35), .c 55 (.tuple #[])] [0, 1, 2, 3, 4, 5] [2] [(53, 0, 3, 56)] hst33 ?_ fun W34 hst34 => ?_
      · refine ⟨?_, trivial⟩
        · exact xsc rfl id rfl rfl fun cx => ⟨_, must_true _ _, (map2 (cx.an 1) (cx.co _))⟩
      refine then_normal (wp_region_Y [0, 0, 3, 7, 15] [[3], [], [5], [], [4]] [[], [], [6], [], [7]] [[], [], [5], [], [4]] [.c 56 (.func (.func 101) #[] #[vp B1_1]), .k 57 (vi ((u.2.2.size : Int))), .a 58, .k 59 (.pointer (some ⟨B7_13, 2, none⟩)), .n] (fun ix σ β X => match ix with | 0 => True | 1 => True | 2 => σ 58 = .string u.2.2 ∧ X 6 = eB B1_1 9 #[.string (strL R)] | 3 => True | 4 => X 7 = eB B7_13 82 #[vi u.1, vi 0, .string u.2.2] | _ => True) [0, 1, 2, 3, 6, 7] [0, 2, 4] [(56, 0, 4, 60)] hst34 ?_ ?_ ?_)
      · exact fun ix _ _ _ _ _ _ hs hb hx h => match ix, h with
        | 2, h => by dsimp only at h ⊢; rw [← hs 58 rfl, ← hx 6 rfl]; exact h
        | 4, h => by dsimp only at h ⊢; rw [← hx 7 rfl]; exact h
        | 0, _ | 1, _ | 3, _ | _ + 5, _ => trivial
      · refine ⟨?_, ?_, ?_, trivial⟩
        · exact xs4 rfl id fun cx => run_load1 rfl (by kernel_rfl) (cx.ou 4) ((cx.bi 3 rfl).cell 0)
        · refine sv_any rfl rfl fun ρ β W X cx => ?_
          refine DoesU.call (run_callV (f := 101) (args := #[vi ((u.2.2.size : Int))]) (args' := #[vi ((u.2.2.size : Int)), vp B1_1]) rfl rfl (cx.an 0) (by kernel_rfl) (map1 (cx.an 1)) rfl) ?_
          refine (take_app u.2.2.size B1_1 (u.2.2.data.toList) R _ (cx.bi 5 rfl) (by rw [Array.length_toList]; rfl)).mono ?_
          rintro e W1 ⟨rfl, hb1, hu⟩
          refine ⟨_, rfl, post_mut (cx.init 5 _ rfl) rfl rfl hu hb1 (fun σ β' X' hs hb hv hx => ?_)⟩
          exact ⟨(hv 58 rfl).1.trans (congrArg Value.string (strL_data _)), hx⟩
        · refine sv_any rfl rfl fun ρ β W X cx => ?_
          exact dv_store (n := 1) rfl (cx.an 3) (dTn (cx.an 2)).1 (by kernel_rfl) (by kernel_rfl) (by kernel_rfl) cx (cx.init 4 _ rfl) rfl (nle rfl) (by kernel_rfl) rfl rfl rfl (fun σ β' X' hs hb hx => hx)
      intro σ β X W36 hD hst36 fr hfr
      simp only [exq 6 ((dTn (hD 2 lq)).2), exq 7 ((dTn (hD 4 lq)))] at hst36
      simp only [ed 58 ((dTn (hD 2 lq)).1)] at hfr
      clear hD; subst hfr; clear σ β X
      refine blk_normal (then_normal (wp_region_Y [0, 0, 2, 7, 15] [[0], [5], [], [6, 1], [0]] [[], [], [6], [7], [8]] [[], [], [], [1], [0]] [.c 60 (.slice RA k RC), .c 61 (.agg #[vi u.1, vi 0, .string u.2.2]), .a 62, .a 63, .n] (fun ix σ β X => match ix with | 0 => True | 1 => True | 2 => σ 62 = .slice ((some ⟨(pb' (β 62)), 0, none⟩)) 1 1 ∧ X 6 = eO 82 3 (.slice ((some ⟨(pb' (β 62)), 0, none⟩)) 1 1) 1 ([vi u.1, vi 0, .string u.2.2]) | 3 => σ 63 = .slice (sA (β 63)) (k + 1) (sC (β 63)) ∧ X 7 = eO 82 3 (.slice (sA (β 63)) (k + 1) (sC (β 63))) (k + 1) (flatR (plainR (rs.take (k + 1)))) | 4 => X 8 = eB B2_1 33 #[.slice (sA (β 63)) (k + 1) (sC (β 63))] | _ => True) [2, 3, 4, 5, 6, 7, 8] [0, 1, 2, 3, 4] [(60, 0, 4, 64)] hst36 ?_ ?_ ?_))
      · exact fun ix _ _ _ _ _ _ hs hb hx h => match ix, h with
        | 2, h => by dsimp only at h ⊢; rw [← hs 62 rfl, ← hb 62 rfl, ← hx 6 rfl]; exact h
        | 3, h => by dsimp only at h ⊢; rw [← hs 63 rfl, ← hb 63 rfl, ← hx 7 rfl]; exact h
        | 4, h => by dsimp only at h ⊢; rw [← hb 63 rfl, ← hx 8 rfl]; exact h
        | 0, _ | 1, _ | _ + 5, _ => trivial
      · refine ⟨?_, ?_, ?_, ?_, ?_, trivial⟩
        · exact xs4 rfl id fun cx => run_load1 rfl (by kernel_rfl) (cx.ou 2) ((cx.bi 0 rfl).cell 0)
        · exact xs4 rfl id fun cx => run_loadB (n := 3) rfl (by kernel_rfl) (by kernel_rfl) (cx.ou 7) (cx.bi 5 rfl) (nle rfl) rfl
        · refine sv_any rfl rfl fun ρ β W X cx => ?_
          have fF61 : ρ (.tmp 61) = .agg #[vi u.1, vi 0, .string u.2.2] := (cx.an 1)
          exact dv_litN (e := 82) (sz := 3) (xs := [vi u.1, vi 0, .string u.2.2]) rfl (by simp [go_sem, fF61]) rfl (by decide) rfl rfl (fun σ β' X' hs hb hv hx => ⟨hv, hx⟩)
        · refine sv_any rfl rfl fun ρ β W X cx => ?_
          obtain ⟨i0, hi0, hz0, hz1, hz2⟩ := info_parts Tryd.infoVal
          refine dv_appendN (n := k) (m := 1) (nm := k + 1) (sz := 3) (xs := flatR (plainR (rs.take k))) (news := [vi u.1, vi 0, .string u.2.2]) (xs' := flatR (plainR (rs.take (k + 1)))) rfl (ty := 33) rfl (by kernel_rfl) hi0 hz0 hz1 hz2 rfl (by decide) (cx.an 0) cx (cx.init 1 _ rfl) rfl (dTn (cx.an 2)).1 (by rfl) (At.of_ownN (cx.row (dTn (cx.an 2)).2 rfl)) (by simp [Value.oneCell']) (by simp only [maxLen]; omega) (by omega) rfl rfl rfl (by omega) (plain_snoc (by omega) (by rw [hu]; simp [cellsV, plainV, *])) (fun σ β' X' hs hb hv hx => ?_)
          exact ⟨hv, hx⟩
        · refine sv_any rfl rfl fun ρ β W X cx => ?_
          exact dv_store (n := 1) rfl (cx.ou 2) (dTn (cx.an 3)).1 (by kernel_rfl) (by kernel_rfl) (by kernel_rfl) cx (cx.init 0 _ rfl) rfl (nle rfl) (by kernel_rfl) rfl rfl rfl (fun σ β' X' hs hb hx => by rw [hb 63]; exact hx)
      intro σ β X W37 hD hst37 fr hfr
      obtain ⟨B62_37, hu_B62_37⟩ : ∃ z, pb' (β 62) = z := ⟨_, rfl⟩
      obtain ⟨A63_37, hu_A63_37⟩ : ∃ z, sA (β 63) = z := ⟨_, rfl⟩
      obtain ⟨c63_37, hu_c63_37⟩ : ∃ z, sC (β 63) = z := ⟨_, rfl⟩
      simp only [exq 6 ((dTn (hD 2 lq)).2), exq 7 ((dTn (hD 3 lq)).2), exq 8 ((dTn (hD 4 lq))), hu_B62_37, hu_A63_37, hu_c63_37] at hst37
      simp only [ed 62 ((dTn (hD 2 lq)).1), ed 63 ((dTn (hD 3 lq)).1), hu_B62_37, hu_A63_37, hu_c63_37] at hfr
      clear hD hu_B62_37 hu_A63_37 hu_c63_37; subst hfr; clear σ β X
      refine blk_normal (then_normal (wp_region_P [0, 1] [tI 64 ((k : Int) + 1) (by omega), .k 20 (vi ((k : Int) + 1))] [(20, 1, 1, 21), (43, 0, 1, 44)] hst37 fun W38 hst38 => ?_))
      refine then_normal ?_
      rw [← hR] at hst38
      refine ⟨rs.length - ((k + 1)), by omega, ?_⟩
      have hp39 := hst38.pick [2, 6, 5, 0, 1] (by decide) rfl
      exact ⟨(k + 1), A63_37, c63_37, [vp B7_13, (gu u9_ 1), vi ((u.2.2.size : Int)), .bool (decide ((k : Int) < (rs.length : Int))), .func (.func 103) #[] #[vp B4_2], vi u.1, .agg #[vi u.1, vi 0, .string ByteArray.empty], vp B7_13, vi u.1, .bool true, .tuple #[], vp B7_13, vi u.1, .bool (u.1 == 1), .bool (u.1 == 1), (gu u9_ 15), (gu u9_ 16), (gu u9_ 17), (gu u9_ 18), (gu u9_ 19), (gu u9_ 20), (gu u9_ 21), (gu u9_ 22), (gu u9_ 23), (gu u9_ 24), (gu u9_ 25), (gu u9_ 26), (gu u9_ 27), (gu u9_ 28), (gu u9_ 29), (gu u9_ 30), .bool (u.1 == 2), .bool (u.1 == 2), .func (.func 103) #[] #[vp B4_2], vi ((u.2.2.size : Int)), vi ((u.2.2.size : Int)), .bool true, .tuple #[], .func (.func 101) #[] #[vp B1_1], vi ((u.2.2.size : Int)), .string u.2.2, .pointer (some ⟨B7_13, 2, none⟩), .slice RA k RC, .agg #[vi u.1, vi 0, .string u.2.2], .slice ((some ⟨B62_37, 0, none⟩)) 1 1, .slice A63_37 (k + 1) c63_37, vi ((k : Int) + 1)], by omega, rfl, rfl, hp39⟩
    have hs32p : u.1 ≠ 2 := by simpa using hs32
    refine wp_cond_false (show Act.eval _ _ = .bool false from (congrArg Value.bool hs32)) (wp_skip (blk_normal (then_normal ?_)))
    have h8 : TB = [] := by rw [← hTB, tailB, if_neg (by assumption), if_neg (by assumption)]
    rw [h8, List.nil_append] at hst31
    refine wp_region_Y [0, 0, 2, 7, 15] [[0], [5], [], [6, 1], [0]] [[], [], [6], [7], [8]] [[], [], [], [1], [0]] [.c 60 (.slice RA k RC), .c 61 (.agg #[vi u.1, vi 0, .string ByteArray.empty]), .a 62, .a 63, .n] (fun ix σ β X => match ix with | 0 => True | 1 => True | 2 => σ 62 = .slice ((some ⟨(pb' (β 62)), 0, none⟩)) 1 1 ∧ X 6 = eO 82 3 (.slice ((some ⟨(pb' (β 62)), 0, none⟩)) 1 1) 1 ([vi u.1, vi 0, .string ByteArray.empty]) | 3 => σ 63 = .slice (sA (β 63)) (k + 1) (sC (β 63)) ∧ X 7 = eO 82 3 (.slice (sA (β 63)) (k + 1) (sC (β 63))) (k + 1) (flatR (plainR (rs.take (k + 1)))) | 4 => X 8 = eB B2_1 33 #[.slice (sA (β 63)) (k + 1) (sC (β 63))] | _ => True) [2, 3, 4, 5, 6, 7, 8] [0, 1, 2, 3, 4] [(60, 0, 4, 64)] hst31 ?_ ?_ ?_
    · exact fun ix _ _ _ _ _ _ hs hb hx h => match ix, h with
      | 2, h => by dsimp only at h ⊢; rw [← hs 62 rfl, ← hb 62 rfl, ← hx 6 rfl]; exact h
      | 3, h => by dsimp only at h ⊢; rw [← hs 63 rfl, ← hb 63 rfl, ← hx 7 rfl]; exact h
      | 4, h => by dsimp only at h ⊢; rw [← hb 63 rfl, ← hx 8 rfl]; exact h
      | 0, _ | 1, _ | _ + 5, _ => trivial
    · refine ⟨?_, ?_, ?_, ?_, ?_, trivial⟩
      · exact xs4 rfl id fun cx => run_load1 rfl (by kernel_rfl) (cx.ou 2) ((cx.bi 0 rfl).cell 0)
      · exact xs4 rfl id fun cx => run_loadB (n := 3) rfl (by kernel_rfl) (by kernel_rfl) (cx.ou 7) (cx.bi 5 rfl) (nle rfl) rfl
      · refine sv_any rfl rfl fun ρ β W X cx => ?_
        have fF61 : ρ (.tmp 61) = .agg #[vi u.1, vi 0, .string ByteArray.empty] := (cx.an 1)
        exact dv_litN (e := 82) (sz := 3) (xs := [vi u.1, vi 0, .string ByteArray.empty]) rfl (by simp [go_sem, fF61]) rfl (by decide) rfl rfl (fun σ β' X' hs hb hv hx => ⟨hv, hx⟩)
      · refine sv_any rfl rfl fun ρ β W X cx => ?_
        obtain ⟨i0, hi0, hz0, hz1, hz2⟩ := info_parts Tryd.infoVal
        refine dv_appendN (n := k) (m := 1) (nm := k + 1) (sz := 3) (xs := flatR (plainR (rs.take k))) (news := [vi u.1, vi 0, .string ByteArray.empty]) (xs' := flatR (plainR (rs.take (k + 1)))) rfl (ty := 33) rfl (by kernel_rfl) hi0 hz0 hz1 hz2 rfl (by decide) (cx.an 0) cx (cx.init 1 _ rfl) rfl (dTn (cx.an 2)).1 (by rfl) (At.of_ownN (cx.row (dTn (cx.an 2)).2 rfl)) (by simp [Value.oneCell']) (by simp only [maxLen]; omega) (by omega) rfl rfl rfl (by omega) (plain_snoc (by omega) (by rw [hu]; simp [cellsV, plainV, *])) (fun σ β' X' hs hb hv hx => ?_)
        exact ⟨hv, hx⟩
      · refine sv_any rfl rfl fun ρ β W X cx => ?_
        exact dv_store (n := 1) rfl (cx.ou 2) (dTn (cx.an 3)).1 (by kernel_rfl) (by kernel_rfl) (by kernel_rfl) cx (cx.init 0 _ rfl) rfl (nle rfl) (by kernel_rfl) rfl rfl rfl (fun σ β' X' hs hb hx => by rw [hb 63]; exact hx)
    intro σ β X W40 hD hst40 fr hfr
    obtain ⟨B62_40, hu_B62_40⟩ : ∃ z, pb' (β 62) = z := ⟨_, rfl⟩
    obtain ⟨A63_40, hu_A63_40⟩ : ∃ z, sA (β 63) = z := ⟨_, rfl⟩
    obtain ⟨c63_40, hu_c63_40⟩ : ∃ z, sC (β 63) = z := ⟨_, rfl⟩
    simp only [exq 6 ((dTn (hD 2 lq)).2), exq 7 ((dTn (hD 3 lq)).2), exq 8 ((dTn (hD 4 lq))), hu_B62_40, hu_A63_40, hu_c63_40] at hst40
    simp only [ed 62 ((dTn (hD 2 lq)).1), ed 63 ((dTn (hD 3 lq)).1), hu_B62_40, hu_A63_40, hu_c63_40] at hfr
    clear hD hu_B62_40 hu_A63_40 hu_c63_40; subst hfr; clear σ β X
    refine blk_normal (then_normal (wp_region_P [0, 1] [tI 64 ((k : Int) + 1) (by omega), .k 20 (vi ((k : Int) + 1))] [(20, 1, 1, 21), (43, 0, 1, 44)] hst40 fun W41 hst41 => ?_))
    refine then_normal ?_
    rw [← hR] at hst41
    refine ⟨rs.length - ((k + 1)), by omega, ?_⟩
    have hp42 := hst41.pick [2, 6, 5, 0, 1] (by decide) rfl
    exact ⟨(k + 1), A63_40, c63_40, [vp B7_13, (gu u9_ 1), (gu u9_ 2), .bool (decide ((k : Int) < (rs.length : Int))), .func (.func 103) #[] #[vp B4_2], vi u.1, .agg #[vi u.1, vi 0, .string ByteArray.empty], vp B7_13, vi u.1, .bool true, .tuple #[], vp B7_13, vi u.1, .bool (u.1 == 1), .bool (u.1 == 1), (gu u9_ 15), (gu u9_ 16), (gu u9_ 17), (gu u9_ 18), (gu u9_ 19), (gu u9_ 20), (gu u9_ 21), (gu u9_ 22), (gu u9_ 23), (gu u9_ 24), (gu u9_ 25), (gu u9_ 26), (gu u9_ 27), (gu u9_ 28), (gu u9_ 29), (gu u9_ 30), .bool (u.1 == 2), .bool (u.1 == 2), (gu u9_ 33), (gu u9_ 34), (gu u9_ 35), (gu u9_ 36), (gu u9_ 37), (gu u9_ 38), (gu u9_ 39), (gu u9_ 40), (gu u9_ 41), .slice RA k RC, .agg #[vi u.1, vi 0, .string ByteArray.empty], .slice ((some ⟨B62_40, 0, none⟩)) 1 1, .slice A63_40 (k + 1) c63_40, vi ((k : Int) + 1)], by omega, rfl, rfl, hp42⟩
  have hs12p : ¬ ((k : Int) < (rs.length : Int)) := by simpa using hs12
  refine wp_cond_false (show Act.eval _ _ = .bool false from (congrArg Value.bool hs12)) (wp_exit (then_exit (then_exit (blk_eq (then_normal (wp_seq ?_))))))
  have hk_ : k = rs.length := by omega
  have hl_ : valsB (rs.drop k) = [] := by rw [hk_, List.drop_length]; rfl
  rw [hl_] at hst11
  have hd44 : ((strL []).toList == ((⟨#[]⟩ : ByteArray)).toList) = true := beq_self_eq_true (strL []).toList
  refine wp_region_Z [0, 1, 3] [[0]] [.c 65 (.string (strL [])), .e 66 (.bool ((strL []).toList == ((⟨#[]⟩ : ByteArray)).toList)) (.bool true) (congrArg Value.bool hd44), .c 67 (.tuple #[])] [0, 1, 2, 3, 4] [0, 2] [(65, 0, 3, 68)] hst11 ?_ fun W43 hst43 => ?_
  · refine ⟨?_, ?_, trivial⟩
    · exact xs4 rfl id fun cx => run_load1 rfl (by kernel_rfl) (cx.ou 1) ((cx.bi 0 rfl).cell 0)
    · exact xsc rfl id rfl rfl fun cx => ⟨_, must_true _ _, (map2 (cx.an 1) (cx.co _))⟩
  refine then_normal (wp_seq (wp_region_Y [0, 1, 3] [[1], [1], [3]] [[], [5], [6]] [[], [1], [3]] [.c 68 (.slice RA k RC), .n, .n] (fun ix σ β X => match ix with | 0 => True | 1 => X 5 = eB B2_1 33 #[.slice RA k RC] | 2 => X 6 = eB B3_1 37 #[vi 0] | _ => True) [0, 2, 4, 5, 6] [0, 1, 2] [(68, 0, 1, 69)] hst43 ?_ ?_ ?_))
  · exact fun ix _ _ _ _ _ _ hs hb hx h => match ix, h with
    | 1, h => by dsimp only at h ⊢; rw [← hx 5 rfl]; exact h
    | 2, h => by dsimp only at h ⊢; rw [← hx 6 rfl]; exact h
    | 0, _ | _ + 3, _ => trivial
  · refine ⟨?_, ?_, ?_, trivial⟩
    · exact xs4 rfl id fun cx => run_load1 rfl (by kernel_rfl) (cx.ou 2) ((cx.bi 1 rfl).cell 0)
    · refine sv_any rfl rfl fun ρ β W X cx => ?_
      exact dv_store (n := 1) rfl (cx.ou 2) (cx.an 0) (by kernel_rfl) (by kernel_rfl) (by kernel_rfl) cx (cx.init 1 _ rfl) rfl (nle rfl) (by kernel_rfl) rfl rfl rfl (fun σ β' X' hs hb hx => hx)
    · refine sv_any rfl rfl fun ρ β W X cx => ?_
      exact dv_store (n := 1) rfl (cx.ou 3) (cx.co _) (by kernel_rfl) (by kernel_rfl) (by kernel_rfl) cx (cx.init 3 _ rfl) rfl (nle rfl) (by kernel_rfl) rfl rfl rfl (fun σ β' X' hs hb hx => hx)
  intro σ β X W45 hD hst45 fr hfr
  simp only [exq 5 ((dTn (hD 1 lq))), exq 6 ((dTn (hD 2 lq)))] at hst45
  clear hD; subst hfr; clear σ β X
  refine then_normal (wp_ret ?_)
  have c2 := (hst45.blk 3 rfl).cell 0
  have c3 := (hst45.blk 4 rfl).cell 0
  refine leaves_cons (f := 100) (args := #[vp B2_1, vp B3_1]) (by simp) (by simp [go_sem]) ?_
  refine (catch_idle _ _ _).mono ?_
  rintro e u' w'' ⟨rfl, rfl, rfl⟩
  refine ⟨.tuple #[.slice RA k RC, vi 0], ?_, ?_⟩
  · simp at c2 c3
    simp [results, Tryd.results71, go_sem, c2, c3]
  · have ho_ := hst45.own' 1 rfl
    rw [hk_, List.take_length] at ho_
    rw [hk_]
    exact ⟨_, _, rfl, ho_, hst45.ext⟩
end
end Go.Proofs.YtjnplglnnamfdaaDoor

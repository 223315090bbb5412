/- HeapAtOnceRow9: part 2 of the proof. -/
import Derived.Test.YtjnplglnnamfdaaDoorZ1
import Derived.Laws.StructEq
import Derived.Shelf.Strings.Builder1
import Derived.Laws.IdiomStrings
import Derived.Lib.UnsafeStr
import Derived.Shelf.Strings.Builder2
import Derived.Shelf.Strings.OnBuilder
import Derived.Shelf.Strings.BuilderF
import Derived.Test.YtjnplglnnamfdaaDoorProg
import Derived.Recover
set_option linter.unusedVariables false
set_option linter.unusedSimpArgs false
namespace Go.Proofs.YtjnplglnnamfdaaDoor
section
open Go.RowKit
set_option linter.unusedVariables false
set_option linter.unusedSimpArgs false
/-- the interface value .iface tt tv answers g -/
abbrev gu (u : List Go.Value) (k : Nat) : Go.Value := u.getD k undef
theorem nle {a b : Nat} (h : Nat.ble a b = true) : a ≤ b := Nat.le_of_ble_eq_true h
structure StOk (w : World) (tt : TypeId) (tv : Value) (g : Int → Int) : Prop where
  ex : ∃ f rv, Meth Tryd.prog tt tv "State" f rv ∧ callP Tryd.prog f = true ∧ ∀ W x, Ext w W → Calls Tryd.prog f #[rv, .int .i64 x] W (Ret (.int .i64 (g x)) W)
theorem StOk.ext {w W : World} {tt : TypeId} {tv : Value} {g : Int → Int} (h : StOk w tt tv g) (hx : Ext w W) : StOk W tt tv g := by
  obtain ⟨f, rv, h1, h2, h3⟩ := h.ex
  exact ⟨f, rv, h1, h2, fun W' x hx' => h3 W' x (hx.trans hx')⟩
section
variable (hi : Int) (ls own : List Int) (g : Int → Int)
def endedF (x : Int) : Bool := if x = 2 then true else onF x && beforeF x hi && !ls.contains x && g x == 2
def mineF (x : Int) : Bool := own.contains x && g x != 3
def didF (x : Int) : Bool := mineF own g x || endedF hi ls g x
def visF (a b : Int) : Bool := didF hi ls own g a && !(b != 0 && didF hi ls own g b)
def busyF (b : Int) : Int := if own.contains b || (g b != 1 && g b != 4) then 0 else b
end
set_option maxRecDepth 100000 in
set_option maxHeartbeats 2000000 in
theorem ton_any (x : Int) (w : World) :
    Calls Tryd.prog 88 #[.int .i64 x] w (Ret (.bool (onF x)) w) := by
  go_enter Tryd.func88, Tryd.ntmps88
  have hst0 := St.start w
  refine wp_seq (wp_region_P [0] [.k 2 (.bool false)] [(2, 0, 1, 3)] hst0 fun W1 hst1 => ?_)
  refine then_normal (wp_seq (wp_region_P [0, 1, 3, 7, 15, 31, 63] [.k 3 (vi x), .k 4 (.bool (decide (3 ≤ x))), .k 5 (.bool (decide (3 ≤ x))), .z 6 (decide (3 ≤ x)) (vi x), .z 7 (decide (3 ≤ x)) (.bool (decide (x < 128))), tA 8 (decide (3 ≤ x)) (decide (x < 128)), .k 2 (.bool ((decide (3 ≤ x)) && (decide (x < 128))))] [(2, 6, 1, 3), (0, 0, 6, 6)] hst1 fun W2 hst2 => ?_))
  refine then_normal (wp_ret ?_)
  refine bodyPost_ret (v := .bool ((decide (3 ≤ x)) && (decide (x < 128)))) (results_tmp Tryd.results88 rfl) rfl ?_
  exact Ret.bool (by simp [onF, *]) hst2.ext
set_option maxRecDepth 100000 in
set_option maxHeartbeats 2000000 in
theorem cended_any (hi : Int) (LA : Option Addr) (lc : Nat) (ls : List Int) (tt : TypeId) (tv : Value) (g : Int → Int) (x : Int) (w : World) (hL : At w LA (ls.map (Value.int .i64))) (hll : ls.length ≤ 100000) (hS : StOk w tt tv g) :
    Calls Tryd.prog 76 #[.agg #[.int .i64 hi, .slice LA ls.length lc], .int .i64 x, .iface tt (tv)] w (Ret (.bool (endedF hi ls g x)) w) := by
  obtain ⟨f0, rv, hM, hC, hG⟩ := hS.ex
  go_enter Tryd.func76, Tryd.ntmps76
  have hst0 := St.start w
  refine wp_seq (wp_region_Y [0, 0] [] [[0]] [] [.a 3, .k 6 (.bool false)] (fun ix σ β X => match ix with | 0 => σ 3 = vp (pb (β 3)) ∧ X 0 = eB (pb (β 3)) 69 #[vi hi, .slice LA ls.length lc] | _ => True) [0] [0] [(3, 0, 1, 4), (2, 1, 1, 3)] hst0 ?_ ?_ ?_)
  · exact fun ix _ _ _ _ _ _ hs hb hx h => match ix, h with
    | 0, h => by dsimp only at h ⊢; rw [← hs 3 rfl, ← hb 3 rfl, ← hx 0 rfl]; exact h
    | _ + 1, _ => trivial
  · refine ⟨?_, trivial⟩
    · refine sv_any rfl rfl fun ρ β W X cx => ?_
      exact dv_box (cs := #[vi hi, .slice LA ls.length lc]) rfl (cx.ou 0) rfl rfl rfl (fun σ β' X' hs hb hv hx => ⟨hv, hx⟩)
  intro σ β X W1 hD hst1 fr hfr
  obtain ⟨B3_1, hu_B3_1⟩ : ∃ z, pb (β 3) = z := ⟨_, rfl⟩
  simp only [exq 0 ((dTn (hD 0 lq)).2), hu_B3_1] at hst1
  simp only [ed 3 ((dTn (hD 0 lq)).1), hu_B3_1] at hfr
  clear hD hu_B3_1; subst hfr; clear σ β X
  refine then_normal (wp_seq (wp_seq (wp_region_P [0, 1] [.k 7 (vi x), .k 8 (.bool (x == 2))] [(7, 0, 2, 9)] hst1 fun W2 hst2 => ?_)))
  refine then_normal ?_
  rcases Bool.eq_false_or_eq_true (x == 2) with hs3 | hs3
  · skip
    have hs3p : x = 2 := by simpa using hs3
    refine wp_cond_true (show Act.eval _ _ = .bool true from (congrArg Value.bool hs3)) (wp_seq (wp_region_P [0] [.k 6 (.bool true)] [(6, 0, 1, 7)] hst2 fun W4 hst4 => ?_))
    refine then_normal (wp_ret (then_ret ?_))
    refine bodyPost_ret (v := .bool true) (results_tmp Tryd.results76 rfl) rfl ?_
    exact Ret.bool (by simp_all [endedF]) hst4.ext
  have hs3p : x ≠ 2 := by simpa using hs3
  refine wp_cond_false (show Act.eval _ _ = .bool false from (congrArg Value.bool hs3)) (wp_skip (then_normal (wp_seq (wp_region_Z [0, 1, 3, 7, 7, 23, 63, 127, 255, 511, 1023, 511, 4095, 8191, 16383, 32767, 65535, 65535, 262143, 524287, 1048575, 2097151] [[], [], [], [], [], [0], [], [], [], [], [0]] [.k 9 (vi x), .c 10 (.bool (onF x)), .k 11 (.bool (onF x)), .z 12 (onF x) (vi x), .z 13 (onF x) (vp B3_1), .y 14 (onF x) (vi hi), .y 15 (onF x) (.bool (beforeF x hi)), tA 16 (onF x) (beforeF x hi), .k 17 (.bool ((onF x) && (beforeF x hi))), .z 18 ((onF x) && (beforeF x hi)) (.pointer (some ⟨B3_1, 1, none⟩)), .y 19 ((onF x) && (beforeF x hi)) (.slice LA ls.length lc), .z 20 ((onF x) && (beforeF x hi)) (vi x), .y 21 ((onF x) && (beforeF x hi)) (.bool (ls.contains x)), .z 22 ((onF x) && (beforeF x hi)) (.bool (!(ls.contains x))), tA 23 ((onF x) && (beforeF x hi)) (!(ls.contains x)), .k 24 (.bool (((onF x) && (beforeF x hi)) && (!(ls.contains x)))), .z 25 (((onF x) && (beforeF x hi)) && (!(ls.contains x))) (.iface tt (tv)), .z 26 (((onF x) && (beforeF x hi)) && (!(ls.contains x))) (vi x), .y 27 (((onF x) && (beforeF x hi)) && (!(ls.contains x))) (vi (g x)), .z 28 (((onF x) && (beforeF x hi)) && (!(ls.contains x))) (.bool ((g x) == 2)), tA 29 (((onF x) && (beforeF x hi)) && (!(ls.contains x))) ((g x) == 2), .k 6 (.bool ((((onF x) && (beforeF x hi)) && (!(ls.contains x))) && ((g x) == 2)))] [0] [1, 5, 6, 10, 12, 18] [(6, 21, 1, 7), (2, 0, 21, 23)] hst2 ?_ fun W5 hst5 => ?_))))
  · refine ⟨?_, ?_, ?_, ?_, ?_, ?_, trivial⟩
    · exact xsc rfl id rfl rfl fun cx => ⟨_, con_any x _, (map1 (cx.an 0))⟩
    · exact m2 rfl (fun _ _ _ h => h) (fun cx => (cx.an 2)) fun cx hq => run_load1 rfl (by kernel_rfl) (mbv (cx.an 4) hq) ((cx.bi 0 rfl).cell 0)
    · exact m3 rfl (fun _ _ _ h => h) (fun cx => (cx.an 2)) fun cx hq => ⟨_, _, run_callF (args := #[vi x, vi hi]) rfl cx.sees rfl (by kernel_rfl) (map2 (mbv (cx.an 3) hq) (mbv (cx.an 5) hq)), cbefore_any x hi _⟩
    · exact m2 rfl (fun _ _ _ h => h) (fun cx => (cx.an 8)) fun cx hq => run_load1 rfl (by kernel_rfl) (mbv (cx.an 9) hq) ((cx.bi 0 rfl).cell 1)
    · exact m3 rfl (fun _ _ _ h => h) (fun cx => (cx.an 8)) fun cx hq => ⟨_, _, run_callF (args := #[.slice LA ls.length lc, vi x]) rfl cx.sees rfl (by kernel_rfl) (map2 (mbv (cx.an 10) hq) (mbv (cx.an 11) hq)), icontains_any _ _ ls x _ (hL.ext cx.upd.to_ext) (by assumption)⟩
    · exact m3 rfl (fun _ _ _ h => h) (fun cx => (cx.an 15)) fun cx hq => ⟨_, _, run_invoke (args := #[vi x]) (args' := #[rv, vi x]) rfl rfl (mbv (cx.an 16) hq) hM hC (map1 (mbv (cx.an 17) hq)) rfl, hG _ x cx.upd.to_ext⟩
  refine then_normal (wp_ret ?_)
  refine bodyPost_ret (v := .bool ((((onF x) && (beforeF x hi)) && (!(ls.contains x))) && ((g x) == 2))) (results_tmp Tryd.results76 rfl) rfl ?_
  exact Ret.bool (by simp_all [endedF]) hst5.ext
set_option maxRecDepth 100000 in
set_option maxHeartbeats 2000000 in
theorem mine_any (hi : Int) (LA : Option Addr) (lc : Nat) (ls : List Int) (OA : Option Addr) (oc : Nat) (own : List Int) (tt : TypeId) (tv : Value) (g : Int → Int) (x : Int) (w : World) (hO : At w OA (own.map (Value.int .i64))) (hol : own.length ≤ 100000) (hS : StOk w tt tv g) :
    Calls Tryd.prog 75 #[.agg #[.int .i64 hi, .slice LA ls.length lc, .slice OA own.length oc, .iface tt (tv)], .int .i64 x] w (Ret (.bool (mineF own g x)) w) := by
  obtain ⟨f0, rv, hM, hC, hG⟩ := hS.ex
  go_enter Tryd.func75, Tryd.ntmps75
  have hst0 := St.start w
  refine wp_seq (wp_region_Y [0, 0] [] [[0]] [] [.a 2, .k 4 (.bool false)] (fun ix σ β X => match ix with | 0 => σ 2 = vp (pb (β 2)) ∧ X 0 = eB (pb (β 2)) 118 #[vi hi, .slice LA ls.length lc, .slice OA own.length oc, .iface tt (tv)] | _ => True) [0] [0] [(2, 0, 1, 3), (1, 1, 1, 2)] hst0 ?_ ?_ ?_)
  · exact fun ix _ _ _ _ _ _ hs hb hx h => match ix, h with
    | 0, h => by dsimp only at h ⊢; rw [← hs 2 rfl, ← hb 2 rfl, ← hx 0 rfl]; exact h
    | _ + 1, _ => trivial
  · refine ⟨?_, trivial⟩
    · refine sv_any rfl rfl fun ρ β W X cx => ?_
      exact dv_box (cs := #[vi hi, .slice LA ls.length lc, .slice OA own.length oc, .iface tt (tv)]) rfl (cx.ou 0) rfl rfl rfl (fun σ β' X' hs hb hv hx => ⟨hv, hx⟩)
  intro σ β X W1 hD hst1 fr hfr
  obtain ⟨B2_1, hu_B2_1⟩ : ∃ z, pb (β 2) = z := ⟨_, rfl⟩
  simp only [exq 0 ((dTn (hD 0 lq)).2), hu_B2_1] at hst1
  simp only [ed 2 ((dTn (hD 0 lq)).1), hu_B2_1] at hfr
  clear hD hu_B2_1; subst hfr; clear σ β X
  refine then_normal (wp_seq (wp_region_Z [0, 1, 0, 7, 15, 31, 63, 31, 255, 511, 1023, 2047] [[], [0], [], [], [], [], [0]] [.k 5 (.pointer (some ⟨B2_1, 2, none⟩)), .c 6 (.slice OA own.length oc), .k 7 (vi x), .c 8 (.bool (own.contains x)), .k 9 (.bool (own.contains x)), .z 10 (own.contains x) (.pointer (some ⟨B2_1, 3, none⟩)), .y 11 (own.contains x) (.iface tt (tv)), .z 12 (own.contains x) (vi x), .y 13 (own.contains x) (vi (g x)), .z 14 (own.contains x) (.bool ((g x) != 3)), tA 15 (own.contains x) ((g x) != 3), .k 4 (.bool ((own.contains x) && ((g x) != 3)))] [0] [1, 3, 6, 8] [(4, 11, 1, 5), (0, 0, 11, 11)] hst1 ?_ fun W2 hst2 => ?_))
  · refine ⟨?_, ?_, ?_, ?_, trivial⟩
    · exact xs4 rfl id fun cx => run_load1 rfl (by kernel_rfl) (cx.an 0) ((cx.bi 0 rfl).cell 2)
    · exact xsc rfl id rfl rfl fun cx => ⟨_, icontains_any _ _ own x _ (hO.ext cx.upd.to_ext) (by assumption), (map2 (cx.an 1) (cx.an 2))⟩
    · exact m2 rfl (fun _ _ _ h => h) (fun cx => (cx.an 4)) fun cx hq => run_load1 rfl (by kernel_rfl) (mbv (cx.an 5) hq) ((cx.bi 0 rfl).cell 3)
    · exact m3 rfl (fun _ _ _ h => h) (fun cx => (cx.an 4)) fun cx hq => ⟨_, _, run_invoke (args := #[vi x]) (args' := #[rv, vi x]) rfl rfl (mbv (cx.an 6) hq) hM hC (map1 (mbv (cx.an 7) hq)) rfl, hG _ x cx.upd.to_ext⟩
  refine then_normal (wp_ret ?_)
  refine bodyPost_ret (v := .bool ((own.contains x) && ((g x) != 3))) (results_tmp Tryd.results75 rfl) rfl ?_
  exact Ret.bool (by simp_all [mineF]) hst2.ext
set_option maxRecDepth 100000 in
set_option maxHeartbeats 2000000 in
theorem did_any (hi : Int) (LA : Option Addr) (lc : Nat) (ls : List Int) (OA : Option Addr) (oc : Nat) (own : List Int) (tt : TypeId) (tv : Value) (g : Int → Int) (x : Int) (w : World) (hL : At w LA (ls.map (Value.int .i64))) (hll : ls.length ≤ 100000) (hO : At w OA (own.map (Value.int .i64))) (hol : own.length ≤ 100000) (hS : StOk w tt tv g) :
    Calls Tryd.prog 45 #[.agg #[.int .i64 hi, .slice LA ls.length lc, .slice OA own.length oc, .iface tt (tv)], .int .i64 x] w (Ret (.bool (didF hi ls own g x)) w) := by
  go_enter Tryd.func45, Tryd.ntmps45
  have hst0 := St.start w
  refine wp_seq (wp_region_Y [0, 0] [] [[0]] [] [.a 2, .k 4 (.bool false)] (fun ix σ β X => match ix with | 0 => σ 2 = vp (pb (β 2)) ∧ X 0 = eB (pb (β 2)) 118 #[vi hi, .slice LA ls.length lc, .slice OA own.length oc, .iface tt (tv)] | _ => True) [0] [0] [(2, 0, 1, 3), (1, 1, 1, 2)] hst0 ?_ ?_ ?_)
  · exact fun ix _ _ _ _ _ _ hs hb hx h => match ix, h with
    | 0, h => by dsimp only at h ⊢; rw [← hs 2 rfl, ← hb 2 rfl, ← hx 0 rfl]; exact h
    | _ + 1, _ => trivial
  · refine ⟨?_, trivial⟩
    · refine sv_any rfl rfl fun ρ β W X cx => ?_
      exact dv_box (cs := #[vi hi, .slice LA ls.length lc, .slice OA own.length oc, .iface tt (tv)]) rfl (cx.ou 0) rfl rfl rfl (fun σ β' X' hs hb hv hx => ⟨hv, hx⟩)
  intro σ β X W1 hD hst1 fr hfr
  obtain ⟨B2_1, hu_B2_1⟩ : ∃ z, pb (β 2) = z := ⟨_, rfl⟩
  simp only [exq 0 ((dTn (hD 0 lq)).2), hu_B2_1] at hst1
  simp only [ed 2 ((dTn (hD 0 lq)).1), hu_B2_1] at hfr
  clear hD hu_B2_1; subst hfr; clear σ β X
  refine then_normal (wp_seq (wp_region_Z [0, 0, 3, 7, 15, 31, 15, 15, 143, 511, 1023, 2047] [[0], [], [], [], [], [0], [], [], [0]] [.c 5 (.agg #[vi hi, .slice LA ls.length lc, .slice OA own.length oc, .iface tt (tv)]), .k 6 (vi x), .c 7 (.bool (mineF own g x)), .k 8 (.bool (mineF own g x)), .z 9 (!(mineF own g x)) (vp B2_1), .y 10 (!(mineF own g x)) (.agg #[vi hi, .slice LA ls.length lc]), .z 11 (!(mineF own g x)) (vi x), .z 12 (!(mineF own g x)) (.pointer (some ⟨B2_1, 3, none⟩)), .y 13 (!(mineF own g x)) (.iface tt (tv)), .y 14 (!(mineF own g x)) (.bool (endedF hi ls g x)), tO 15 (mineF own g x) (endedF hi ls g x), .k 4 (.bool ((mineF own g x) || (endedF hi ls g x)))] [0] [0, 2, 5, 8, 9] [(4, 11, 1, 5), (0, 0, 11, 11)] hst1 ?_ fun W2 hst2 => ?_))
  · refine ⟨?_, ?_, ?_, ?_, ?_, trivial⟩
    · exact xs4 rfl id fun cx => run_loadB (n := 4) rfl (by kernel_rfl) (by kernel_rfl) (cx.ou 2) (cx.bi 0 rfl) (nle rfl) rfl
    · exact xsc rfl id rfl rfl fun cx => ⟨_, mine_any _ _ _ _ _ _ _ _ _ _ x _ (hO.ext cx.upd.to_ext) (by assumption) (hS.ext cx.upd.to_ext), (map2 (cx.an 0) (cx.an 1))⟩
    · exact m2 rfl (fun _ _ _ h => h) (fun cx => (cx.an 3)) fun cx hq => run_loadB (n := 2) rfl (by kernel_rfl) (by kernel_rfl) (mbv (cx.an 4) hq) (cx.bi 0 rfl) (nle rfl) rfl
    · exact m2 rfl (fun _ _ _ h => h) (fun cx => (cx.an 3)) fun cx hq => run_load1 rfl (by kernel_rfl) (mbv (cx.an 7) hq) ((cx.bi 0 rfl).cell 3)
    · exact m3 rfl (fun _ _ _ h => h) (fun cx => (cx.an 3)) fun cx hq => ⟨_, _, run_callF (args := #[.agg #[vi hi, .slice LA ls.length lc], vi x, .iface tt (tv)]) rfl cx.sees rfl (by kernel_rfl) (map3 (mbv (cx.an 5) hq) (mbv (cx.an 6) hq) (mbv (cx.an 8) hq)), cended_any _ _ _ _ _ _ _ x _ (hL.ext cx.upd.to_ext) (by assumption) (hS.ext cx.upd.to_ext)⟩
  refine then_normal (wp_ret ?_)
  refine bodyPost_ret (v := .bool ((mineF own g x) || (endedF hi ls g x))) (results_tmp Tryd.results45 rfl) rfl ?_
  exact Ret.bool (by simp_all [didF]) hst2.ext
set_option maxRecDepth 100000 in
set_option maxHeartbeats 2000000 in
theorem each_did (hi : Int) (LA : Option Addr) (lc : Nat) (ls : List Int) (OA : Option Addr) (oc : Nat) (own : List Int) (tt : TypeId) (tv : Value) (g : Int → Int) (a b n1 n2 : Int) (ho : Bool) (RA : Option Addr) (rn rc : Nat) (w : World) (hL : At w LA (ls.map (Value.int .i64))) (hll : ls.length ≤ 100000) (hO : At w OA (own.map (Value.int .i64))) (hol : own.length ≤ 100000) (hS : StOk w tt tv g) :
    Calls Tryd.prog 44 #[.agg #[.int .i64 a, .int .i64 b, .int .i64 n1, .int .i64 n2, .bool ho, .slice RA rn rc], .func (.func 45) #[.agg #[.int .i64 hi, .slice LA ls.length lc, .slice OA own.length oc, .iface tt (tv)]] #[]] w (Ret (.tuple #[.bool (didF hi ls own g a), .bool (b != 0 && didF hi ls own g b)]) w) := by
  go_enter Tryd.func44, Tryd.ntmps44
  have hst0 := St.start w
  refine wp_seq (wp_region_Y [0, 0, 2] [] [[0]] [] [.a 2, .k 4 (.bool false), .k 5 (.bool false)] (fun ix σ β X => match ix with | 0 => σ 2 = vp (pb (β 2)) ∧ X 0 = eB (pb (β 2)) 41 #[vi a, vi b, vi n1, vi n2, .bool ho, .slice RA rn rc] | _ => True) [0] [0] [(2, 0, 1, 3), (1, 1, 2, 3)] hst0 ?_ ?_ ?_)
  · exact fun ix _ _ _ _ _ _ hs hb hx h => match ix, h with
    | 0, h => by dsimp only at h ⊢; rw [← hs 2 rfl, ← hb 2 rfl, ← hx 0 rfl]; exact h
    | _ + 1, _ => trivial
  · refine ⟨?_, trivial⟩
    · refine sv_any rfl rfl fun ρ β W X cx => ?_
      exact dv_box (cs := #[vi a, vi b, vi n1, vi n2, .bool ho, .slice RA rn rc]) rfl (cx.ou 0) rfl rfl rfl (fun σ β' X' hs hb hv hx => ⟨hv, hx⟩)
  intro σ β X W1 hD hst1 fr hfr
  obtain ⟨B2_1, hu_B2_1⟩ : ∃ z, pb (β 2) = z := ⟨_, rfl⟩
  simp only [exq 0 ((dTn (hD 0 lq)).2), hu_B2_1] at hst1
  simp only [ed 2 ((dTn (hD 0 lq)).1), hu_B2_1] at hfr
  clear hD hu_B2_1; subst hfr; clear σ β X
  refine then_normal (wp_seq (wp_region_Z [0, 0, 2, 7, 0, 16, 48, 127, 255, 255, 767, 2047, 4095, 4095, 16383] [[], [], [0], [], [], [0], [], [], [], [], [0]] [.k 6 (.func (.func 45) #[.agg #[vi hi, .slice LA ls.length lc, .slice OA own.length oc, .iface tt (tv)]] #[]), .k 7 (vp B2_1), .c 8 (vi a), .c 9 (.bool (didF hi ls own g a)), .k 10 (.pointer (some ⟨B2_1, 1, none⟩)), .c 11 (vi b), .k 12 (.bool (b != 0)), .k 13 (.bool (b != 0)), .z 14 (b != 0) (.func (.func 45) #[.agg #[vi hi, .slice LA ls.length lc, .slice OA own.length oc, .iface tt (tv)]] #[]), .z 15 (b != 0) (.pointer (some ⟨B2_1, 1, none⟩)), .y 16 (b != 0) (vi b), .y 17 (b != 0) (.bool (didF hi ls own g b)), tA 18 (b != 0) (didF hi ls own g b), .k 4 (.bool (didF hi ls own g a)), .k 5 (.bool ((b != 0) && (didF hi ls own g b)))] [0] [2, 3, 5, 10, 11] [(4, 13, 2, 6), (0, 0, 13, 13)] hst1 ?_ fun W2 hst2 => ?_))
  · refine ⟨?_, ?_, ?_, ?_, ?_, trivial⟩
    · exact xs4 rfl id fun cx => run_load1 rfl (by kernel_rfl) (cx.an 1) ((cx.bi 0 rfl).cell 0)
    · exact sv_call rfl rfl rfl rfl rfl (fun _ _ _ h => h) fun ρ β W X cx => ⟨_, _, run_callV (f := 45) (args := #[vi a]) (args' := #[.agg #[vi hi, .slice LA ls.length lc, .slice OA own.length oc, .iface tt (tv)], vi a]) rfl rfl (cx.an 0) (by kernel_rfl) (map1 (cx.an 2)) rfl, did_any _ _ _ _ _ _ _ _ _ _ a _ (hL.ext cx.upd.to_ext) (by assumption) (hO.ext cx.upd.to_ext) (by assumption) (hS.ext cx.upd.to_ext)⟩
    · exact xs4 rfl id fun cx => run_load1 rfl (by kernel_rfl) (cx.an 4) ((cx.bi 0 rfl).cell 1)
    · exact m2 rfl (fun _ _ _ h => h) (fun cx => (cx.an 7)) fun cx hq => run_load1 rfl (by kernel_rfl) (mbv (cx.an 9) hq) ((cx.bi 0 rfl).cell 1)
    · exact m3 rfl (fun _ _ _ h => h) (fun cx => (cx.an 7)) fun cx hq => ⟨_, _, run_callV (f := 45) (args := #[vi b]) (args' := #[.agg #[vi hi, .slice LA ls.length lc, .slice OA own.length oc, .iface tt (tv)], vi b]) rfl rfl (mbv (cx.an 8) hq) (by kernel_rfl) (map1 (mbv (cx.an 10) hq)) rfl, did_any _ _ _ _ _ _ _ _ _ _ b _ (hL.ext cx.upd.to_ext) (by assumption) (hO.ext cx.upd.to_ext) (by assumption) (hS.ext cx.upd.to_ext)⟩
  refine then_normal (wp_ret ?_)
  refine bodyPost_ret (v := .tuple #[.bool (didF hi ls own g a), .bool ((b != 0) && (didF hi ls own g b))]) (by simp [results, Tryd.results44, go_sem]) rfl ?_
  exact Ret.of (by simp_all) hst2.ext
set_option maxRecDepth 100000 in
set_option maxHeartbeats 2000000 in
theorem visible_any (a b n1 n2 : Int) (ho : Bool) (RA : Option Addr) (rn rc : Nat) (hi : Int) (LA : Option Addr) (lc : Nat) (ls : List Int) (OA : Option Addr) (oc : Nat) (own : List Int) (tt : TypeId) (tv : Value) (g : Int → Int) (w : World) (hL : At w LA (ls.map (Value.int .i64))) (hll : ls.length ≤ 100000) (hO : At w OA (own.map (Value.int .i64))) (hol : own.length ≤ 100000) (hS : StOk w tt tv g) :
    Calls Tryd.prog 19 #[.agg #[.int .i64 a, .int .i64 b, .int .i64 n1, .int .i64 n2, .bool ho, .slice RA rn rc], .agg #[.int .i64 hi, .slice LA ls.length lc], .slice OA own.length oc, .iface tt (tv)] w (Ret (.bool (visF hi ls own g a b)) w) := by
  go_enter Tryd.func19, Tryd.ntmps19
  have hst0 := St.start w
  refine wp_seq (wp_region_Y [0, 0, 0] [] [[0], [1]] [] [.a 4, .a 5, .k 8 (.bool false)] (fun ix σ β X => match ix with | 0 => σ 4 = vp (pb (β 4)) ∧ X 0 = eB (pb (β 4)) 41 #[vi a, vi b, vi n1, vi n2, .bool ho, .slice RA rn rc] | 1 => σ 5 = vp (pb (β 5)) ∧ X 1 = eB (pb (β 5)) 69 #[vi hi, .slice LA ls.length lc] | _ => True) [0, 1] [0, 1] [(4, 0, 2, 6), (2, 2, 1, 3)] hst0 ?_ ?_ ?_)
  · exact fun ix _ _ _ _ _ _ hs hb hx h => match ix, h with
    | 0, h => by dsimp only at h ⊢; rw [← hs 4 rfl, ← hb 4 rfl, ← hx 0 rfl]; exact h
    | 1, h => by dsimp only at h ⊢; rw [← hs 5 rfl, ← hb 5 rfl, ← hx 1 rfl]; exact h
    | _ + 2, _ => trivial
  · refine ⟨?_, ?_, trivial⟩
    · refine sv_any rfl rfl fun ρ β W X cx => ?_
      exact dv_box (cs := #[vi a, vi b, vi n1, vi n2, .bool ho, .slice RA rn rc]) rfl (cx.ou 0) rfl rfl rfl (fun σ β' X' hs hb hv hx => ⟨hv, hx⟩)
    · refine sv_any rfl rfl fun ρ β W X cx => ?_
      exact dv_box (cs := #[vi hi, .slice LA ls.length lc]) rfl (cx.ou 1) rfl rfl rfl (fun σ β' X' hs hb hv hx => ⟨hv, hx⟩)
  intro σ β X W1 hD hst1 fr hfr
  obtain ⟨B4_1, hu_B4_1⟩ : ∃ z, pb (β 4) = z := ⟨_, rfl⟩
  obtain ⟨B5_1, hu_B5_1⟩ : ∃ z, pb (β 5) = z := ⟨_, rfl⟩
  simp only [exq 0 ((dTn (hD 0 lq)).2), exq 1 ((dTn (hD 1 lq)).2), hu_B4_1, hu_B5_1] at hst1
  simp only [ed 4 ((dTn (hD 0 lq)).1), ed 5 ((dTn (hD 1 lq)).1), hu_B4_1, hu_B5_1] at hfr
  clear hD hu_B4_1 hu_B5_1; subst hfr; clear σ β X
  refine then_normal (wp_seq (wp_region_Y [0, 0, 0, 7, 0, 31] [[1], [], [], [], [], [2]] [[], [], [], [], [2], [3]] [[], [], [], [], [], [2]] [.c 12 (.agg #[vi hi, .slice LA ls.length lc]), .k 13 (.slice OA own.length oc), .k 14 (.iface tt (tv)), .k 15 (.agg #[vi hi, .slice LA ls.length lc, .slice OA own.length oc, .iface tt (tv)]), .a 9, .n] (fun ix σ β X => match ix with | 0 => True | 1 => True | 2 => True | 3 => True | 4 => σ 9 = vp (pb (β 9)) ∧ X 2 = eB (pb (β 9)) 118 #[vi 0, .slice none 0 0, .slice none 0 0, .nilIface] | 5 => X 3 = eB (pb (β 9)) 118 #[vi hi, .slice LA ls.length lc, .slice OA own.length oc, .iface tt (tv)] | _ => True) [0, 1, 3] [0, 4, 5] [(9, 4, 1, 10), (2, 0, 4, 6)] hst1 ?_ ?_ ?_))
  · exact fun ix _ _ _ _ _ _ hs hb hx h => match ix, h with
    | 4, h => by dsimp only at h ⊢; rw [← hs 9 rfl, ← hb 9 rfl, ← hx 2 rfl]; exact h
    | 5, h => by dsimp only at h ⊢; rw [← hb 9 rfl, ← hx 3 rfl]; exact h
    | 0, _ | 1, _ | 2, _ | 3, _ | _ + 6, _ => trivial
  · refine ⟨?_, ?_, ?_, trivial⟩
    · exact xs4 rfl id fun cx => run_loadB (n := 2) rfl (by kernel_rfl) (by kernel_rfl) (cx.ou 5) (cx.bi 1 rfl) (nle rfl) rfl
    · refine sv_any rfl rfl fun ρ β W X cx => ?_
      exact dv_alloc (cs := #[vi 0, .slice none 0 0, .slice none 0 0, .nilIface]) rfl (by kernel_rfl) rfl rfl (fun σ β' X' hs hb hv hx => ⟨hv, hx⟩)
    · refine sv_any rfl rfl fun ρ β W X cx => ?_
      exact dv_store (n := 4) rfl (dTn (cx.an 4)).1 (cx.an 3) (by kernel_rfl) (by kernel_rfl) (by kernel_rfl) cx (dTn (cx.an 4)).2 rfl (nle rfl) (by kernel_rfl) rfl rfl rfl (fun σ β' X' hs hb hx => by rw [hb 9]; exact hx)
  intro σ β X W2 hD hst2 fr hfr
  obtain ⟨B9_2, hu_B9_2⟩ : ∃ z, pb (β 9) = z := ⟨_, rfl⟩
  simp only [exq 3 ((dTn (hD 5 lq))), hu_B9_2] at hst2
  simp only [ed 9 ((dTn (hD 4 lq)).1), hu_B9_2] at hfr
  clear hD hu_B9_2; subst hfr; clear σ β X
  refine then_normal (wp_seq (wp_region_Z [0, 0, 2, 7, 15, 31, 31, 63, 255] [[0], [2]] [.c 17 (.agg #[vi a, vi b, vi n1, vi n2, .bool ho, .slice RA rn rc]), .c 18 (.agg #[vi hi, .slice LA ls.length lc, .slice OA own.length oc, .iface tt (tv)]), .c 19 (.func (.func 45) #[.agg #[vi hi, .slice LA ls.length lc, .slice OA own.length oc, .iface tt (tv)]] #[]), .c 20 (.tuple #[.bool (didF hi ls own g a), .bool (b != 0 && didF hi ls own g b)]), .k 16 (.tuple #[.bool (didF hi ls own g a), .bool (b != 0 && didF hi ls own g b)]), .k 21 (.bool (didF hi ls own g a)), .k 22 (.bool (b != 0 && didF hi ls own g b)), .k 10 (.bool (didF hi ls own g a)), .k 11 (.bool (b != 0 && didF hi ls own g b))] [0, 1, 2] [0, 1, 2, 3] [(10, 7, 2, 12), (4, 4, 1, 5), (0, 0, 4, 4), (0, 5, 2, 2)] hst2 ?_ fun W3 hst3 => ?_))
  · refine ⟨?_, ?_, ?_, ?_, trivial⟩
    · exact xs4 rfl id fun cx => run_loadB (n := 6) rfl (by kernel_rfl) (by kernel_rfl) (cx.ou 4) (cx.bi 0 rfl) (nle rfl) rfl
    · exact xs4 rfl id fun cx => run_loadB (n := 4) rfl (by kernel_rfl) (by kernel_rfl) (cx.ou 9) (cx.bi 2 rfl) (nle rfl) rfl
    · exact sv0 rfl rfl rfl rfl rfl (fun _ _ _ h => h) fun ρ β W X cx => by
        have fF18 : ρ (.tmp 18) = .agg #[vi hi, .slice LA ls.length lc, .slice OA own.length oc, .iface tt (tv)] := (cx.an 1)
        simp [go_sem, Instr.makeFunc, fF18]
    · exact xsc rfl id rfl rfl fun cx => ⟨_, each_did hi LA lc ls OA oc own tt tv g a b n1 n2 ho RA rn rc _ (hL.ext cx.upd.to_ext) (by assumption) (hO.ext cx.upd.to_ext) (by assumption) (hS.ext cx.upd.to_ext), (map2 (cx.an 0) (cx.an 2))⟩
  refine then_normal (wp_seq (wp_region_P [0, 1, 3, 7, 15, 31] [.k 23 (.bool (didF hi ls own g a)), .k 24 (.bool (didF hi ls own g a)), .z 25 (didF hi ls own g a) (.bool (b != 0 && didF hi ls own g b)), .z 26 (didF hi ls own g a) (.bool (!(b != 0 && didF hi ls own g b))), tA 27 (didF hi ls own g a) (!(b != 0 && didF hi ls own g b)), .k 8 (.bool ((didF hi ls own g a) && (!(b != 0 && didF hi ls own g b))))] [(8, 5, 1, 9), (14, 0, 5, 19)] hst3 fun W4 hst4 => ?_))
  refine then_normal (wp_ret ?_)
  refine bodyPost_ret (v := .bool ((didF hi ls own g a) && (!(b != 0 && didF hi ls own g b)))) (results_tmp Tryd.results19 rfl) rfl ?_
  exact Ret.bool (by simp_all [visF]) hst4.ext
end
end Go.Proofs.YtjnplglnnamfdaaDoor
namespace Go.Proofs.YtjnplglnnamfdaaDoor
section
open Go.RowKit
set_option linter.unusedVariables false
set_option linter.unusedSimpArgs false
set_option maxRecDepth 100000 in
set_option maxHeartbeats 2000000 in
theorem busy_any (a b n1 n2 : Int) (ho : Bool) (RA : Option Addr) (rn rc : Nat) (OA : Option Addr) (oc : Nat) (own : List Int) (tt : TypeId) (tv : Value) (g : Int → Int) (w : World) (hO : At w OA (own.map (Value.int .i64))) (hol : own.length ≤ 100000) (hS : StOk w tt tv g) :
    Calls Tryd.prog 21 #[.agg #[.int .i64 a, .int .i64 b, .int .i64 n1, .int .i64 n2, .bool ho, .slice RA rn rc], .slice OA own.length oc, .iface tt (tv)] w (Ret (.int .i64 (busyF own g b)) w) := by
  obtain ⟨f0, rv, hM, hC, hG⟩ := hS.ex
  go_enter Tryd.func21, Tryd.ntmps21
  have hst0 := St.start w
  refine wp_seq (wp_region_Y [0, 0] [] [[0]] [] [.a 3, .k 6 (vi 0)] (fun ix σ β X => match ix with | 0 => σ 3 = vp (pb (β 3)) ∧ X 0 = eB (pb (β 3)) 41 #[vi a, vi b, vi n1, vi n2, .bool ho, .slice RA rn rc] | _ => True) [0] [0] [(3, 0, 1, 4), (2, 1, 1, 3)] hst0 ?_ ?_ ?_)
  · exact fun ix _ _ _ _ _ _ hs hb hx h => match ix, h with
    | 0, h => by dsimp only at h ⊢; rw [← hs 3 rfl, ← hb 3 rfl, ← hx 0 rfl]; exact h
    | _ + 1, _ => trivial
  · refine ⟨?_, trivial⟩
    · refine sv_any rfl rfl fun ρ β W X cx => ?_
      exact dv_box (cs := #[vi a, vi b, vi n1, vi n2, .bool ho, .slice RA rn rc]) rfl (cx.ou 0) rfl rfl rfl (fun σ β' X' hs hb hv hx => ⟨hv, hx⟩)
  intro σ β X W1 hD hst1 fr hfr
  obtain ⟨B3_1, hu_B3_1⟩ : ∃ z, pb (β 3) = z := ⟨_, rfl⟩
  simp only [exq 0 ((dTn (hD 0 lq)).2), hu_B3_1] at hst1
  simp only [ed 3 ((dTn (hD 0 lq)).1), hu_B3_1] at hfr
  clear hD hu_B3_1; subst hfr; clear σ β X
  refine then_normal (wp_seq (wp_region_Z [0, 0, 2, 7, 15] [[], [], [0]] [.k 8 (.iface tt (tv)), .k 9 (.pointer (some ⟨B3_1, 1, none⟩)), .c 10 (vi b), .c 11 (vi (g b)), .k 7 (vi (g b))] [0] [2, 3] [(7, 4, 1, 8), (0, 0, 4, 4)] hst1 ?_ fun W2 hst2 => ?_))
  · refine ⟨?_, ?_, trivial⟩
    · exact xs4 rfl id fun cx => run_load1 rfl (by kernel_rfl) (cx.an 1) ((cx.bi 0 rfl).cell 1)
    · exact sv_call rfl rfl rfl rfl rfl (fun _ _ _ h => h) fun ρ β W X cx => ⟨_, _, run_invoke (args := #[vi b]) (args' := #[rv, vi b]) rfl rfl (cx.an 0) hM hC (map1 (cx.an 2)) rfl, hG _ b cx.upd.to_ext⟩
  refine then_normal (wp_seq (wp_seq (wp_region_Z [0, 0, 2, 7, 15, 31, 63, 127, 255, 511, 1023, 2047] [[], [], [0]] [.k 12 (.slice OA own.length oc), .k 13 (.pointer (some ⟨B3_1, 1, none⟩)), .c 14 (vi b), .c 15 (.bool (own.contains b)), .k 16 (.bool (own.contains b)), .z 17 (!(own.contains b)) (vi (g b)), .z 18 (!(own.contains b)) (.bool ((g b) != 1)), .z 19 (!(own.contains b)) (.bool ((g b) != 1)), .z 20 ((!(own.contains b)) && ((g b) != 1)) (vi (g b)), .z 21 ((!(own.contains b)) && ((g b) != 1)) (.bool ((g b) != 4)), .y 22 (!(own.contains b)) (.bool (((g b) != 1) && ((g b) != 4))), tO 23 (own.contains b) (((g b) != 1) && ((g b) != 4))] [0] [2, 3, 10] [(12, 0, 12, 24)] hst2 ?_ fun W3 hst3 => ?_)))
  · refine ⟨?_, ?_, ?_, trivial⟩
    · exact xs4 rfl id fun cx => run_load1 rfl (by kernel_rfl) (cx.an 1) ((cx.bi 0 rfl).cell 1)
    · exact xsc rfl id rfl rfl fun cx => ⟨_, icontains_any _ _ own b _ (hO.ext cx.upd.to_ext) (by assumption), (map2 (cx.an 0) (cx.an 2))⟩
    · exact m2 rfl (fun _ _ _ h => h) (fun cx => (cx.an 4)) fun cx hq => run_pick_and rfl (mbv (cx.an 7) hq) (cx.an 9) (fun e_ => by rw [hq, e_]; rfl) (cx.co _)
  refine then_normal ?_
  rcases Bool.eq_false_or_eq_true ((own.contains b) || (((g b) != 1) && ((g b) != 4))) with hs4 | hs4
  · skip
    have hs4p := hs4
    simp only [zB] at hs4p
    refine wp_cond_true (show Act.eval _ _ = .bool true from (congrArg Value.bool hs4)) (wp_seq (wp_region_P [0] [.k 6 (vi 0)] [(6, 0, 1, 7)] hst3 fun W5 hst5 => ?_))
    refine then_normal (wp_ret (then_ret ?_))
    refine bodyPost_ret (v := vi 0) (results_tmp Tryd.results21 rfl) rfl ?_
    exact Ret.int (by simp_all [busyF]) hst5.ext
  have hs4p := hs4
  simp only [zB] at hs4p
  obtain ⟨hs4p1, hs4p2⟩ := hs4p
  refine wp_cond_false (show Act.eval _ _ = .bool false from (congrArg Value.bool hs4)) (wp_skip (then_normal (wp_seq (wp_region_Z [0, 1, 3] [[], [0]] [.k 24 (.pointer (some ⟨B3_1, 1, none⟩)), .c 25 (vi b), .k 6 (vi b)] [0] [1] [(6, 2, 1, 7), (17, 0, 2, 19)] hst3 ?_ fun W6 hst6 => ?_))))
  · refine ⟨?_, trivial⟩
    · exact xs4 rfl id fun cx => run_load1 rfl (by kernel_rfl) (cx.an 0) ((cx.bi 0 rfl).cell 1)
  refine then_normal (wp_ret ?_)
  refine bodyPost_ret (v := vi b) (results_tmp Tryd.results21 rfl) rfl ?_
  exact Ret.int (by simp_all [busyF]) hst6.ext
end
end Go.Proofs.YtjnplglnnamfdaaDoor
namespace Go.Proofs.YtjnplglnnamfdaaDoor
section
open Go.RowKit
set_option linter.unusedVariables false
set_option linter.unusedSimpArgs false
/-- the package's variable none -/
def NoneAt (w : World) : Prop := At w (some ⟨1, 0, none⟩) [.int .i64 (-1), .int .i64 0]
end
end Go.Proofs.YtjnplglnnamfdaaDoor
namespace Go.Proofs.YtjnplglnnamfdaaDoor
section
open Go.RowKit
set_option linter.unusedVariables false
set_option linter.unusedSimpArgs false
theorem ex_all (s : ByteArray) : s.extract 0 s.size = s := by
  apply ByteArray.ext
  simp
def textO (s : ByteArray) : ByteArray := putS s.size 2 ++ s
section
variable {P : Program} {o : Oper} {ρ : Operand → Value} {W : World}
theorem run_eqTID {x y : Operand} {a b c d : Int} (h : o.op = .binOp .eql 24 x y 24) (hx : ρ x = .agg #[.int .i64 a, .int .i64 b]) (hy : ρ y = .agg #[.int .i64 c, .int .i64 d]) :
    (execOp ρ o).run Tryd.prog W = .ok (.value (.bool (a == c && b == d))) W := by
  unfold execOp; rw [h]
  simp [go_sem, hx, hy]
  by_cases h1 : a = c <;> by_cases h2 : b = d <;> simp [h1, h2]
theorem run_slice_all {P : Program} {t : TypeId} {x y : Operand} {s : ByteArray} {k : IntKind} {j : Int} (h : o.op = .slice t x none (some y) none) (ht : P.underlying t = some .string) (hx : ρ x = .string s) (hy : ρ y = .int k j) (hj : j = (s.size : Int)) :
    (execOp ρ o).run P W = .ok (.value (.string s)) W := by
  have e := run_slice_hi (P := P) (W := W) h ht hx hy hj (Nat.le_refl _)
  rw [ex_all] at e
  exact e
end
set_option maxRecDepth 100000 in
set_option maxHeartbeats 2000000 in
theorem otext_any (s : ByteArray) (w : World) (hs : s.size ≤ 65535) :
    Calls Tryd.prog 62 #[.string s] w (Ret (.string (textO s)) w) := by
  have hp := putS_size (s.size : Int) 2 (by omega)
  go_enter Tryd.func62, Tryd.ntmps62
  have hst0 := St.start w
  refine wp_seq (wp_region_P [0] [.k 2 (.string ⟨#[]⟩)] [(2, 0, 1, 3)] hst0 fun W1 hst1 => ?_)
  refine then_normal (wp_seq (wp_region_Z [0, 0, 2, 6, 15, 31] [] [.k 3 (.string s), .k 4 (.string s), .k 5 (vi ((s.size : Int))), .c 6 (vi ((s.size : Int))), .c 7 (.string s), .k 0 (.string s)] [] [3, 4] [(0, 5, 1, 1), (2, 0, 5, 7)] hst1 ?_ fun W2 hst2 => ?_))
  · refine ⟨?_, ?_, trivial⟩
    · exact xs4 rfl id fun cx => run_min2 rfl (cx.an 2) (cx.co _) (by omega)
    · exact xs4 rfl id fun cx => run_slice_all rfl (by kernel_rfl) (cx.an 0) (cx.an 3) (by omega)
  refine then_normal (wp_seq (wp_region_Z [0, 1, 3, 0, 15, 31] [] [.k 8 (.string s), .k 9 (vi ((s.size : Int))), .c 10 (.string (putS (s.size : Int) 2)), .k 11 (.string s), tS 12 (putS (s.size : Int) 2) s (by omega), .k 2 (.string ((putS (s.size : Int) 2) ++ s))] [] [2] [(2, 5, 1, 3), (5, 0, 5, 10)] hst2 ?_ fun W3 hst3 => ?_))
  · refine ⟨?_, trivial⟩
    · exact xsc rfl id rfl rfl fun cx => ⟨_, oput2_any (s.size : Int) _, (map2 (cx.an 1) (cx.co _))⟩
  refine then_normal (wp_ret ?_)
  refine bodyPost_ret (v := .string ((putS (s.size : Int) 2) ++ s)) (results_tmp Tryd.results62 rfl) rfl ?_
  exact Ret.of rfl hst3.ext
end
end Go.Proofs.YtjnplglnnamfdaaDoor
namespace Go.Proofs.YtjnplglnnamfdaaDoor
section
open Go.RowKit
set_option linter.unusedVariables false
set_option linter.unusedSimpArgs false
theorem Tryd.sizeSb : (Tryd.prog.info? 157).map (·.size) = some 2 := by kernel_rfl
set_option maxRecDepth 100000 in
set_option maxHeartbeats 1000000 in
theorem sbcheck_used (b : Nat) (w : World) (h0 : w.cell? ⟨b, 0, none⟩ = some (.pointer (some ⟨b, 0, none⟩))) :
    Calls Tryd.prog 110 #[.pointer (some ⟨b, 0, none⟩)] w fun e w' => e = .returned (.tuple #[]) ∧ w' = w := by
  obtain ⟨j, hj, _⟩ := Option.map_eq_some_iff.1 Tryd.sizeSb
  go_enter Tryd.func110, Tryd.ntmps110
  go_wp2
  rw [Lib.run_neq_ptr_same w _ Tryd.underlying155 hj]
  go_wp2
  go_end0
  exact ⟨rfl, rfl⟩
set_option maxRecDepth 100000 in
set_option maxHeartbeats 1000000 in
theorem sbcheck_fresh (b : Nat) (w : World) (h0 : w.cell? ⟨b, 0, none⟩ = some (.pointer none)) (hsh : w.shape? b = some (157, 2)) (hfz : w.frozen? ⟨b, 0, none⟩ = false) :
    Calls Tryd.prog 110 #[.pointer (some ⟨b, 0, none⟩)] w fun e w' => e = .returned (.tuple #[]) ∧ w' = w.setCell ⟨b, 0, none⟩ (.pointer (some ⟨b, 0, none⟩)) := by
  obtain ⟨j, hj, hjs⟩ := Option.map_eq_some_iff.1 Tryd.sizeSb
  go_enter Tryd.func110, Tryd.ntmps110
  go_wp2
  rw [Lib.run_to_unsafe w ⟨b, 0, none⟩ Tryd.underlying155 Tryd.underlying182 hj (by rw [hjs]; decide) hsh (Nat.zero_lt_succ 1)]
  simp only [Result.andThen]
  rw [Oper.upon_value]
  go_wp2
  rw [run_callFunc_extern Tryd.func116 (by kernel_rfl) (by kernel_rfl) (by kernel_rfl) (e := Extern.AbiNoEscape.same) (by kernel_rfl)]
  rw [Lib.run_noEscape]
  simp only [Result.andThen]
  rw [Oper.upon_value]
  go_wp2
  rw [Lib.run_from_unsafe w ⟨b, 0, none⟩ Tryd.underlying182 Tryd.underlying155 hj hsh (by kernel_rfl)]
  simp only [Result.andThen]
  rw [Oper.upon_value]
  go_wp2
  go_end0
  exact ⟨rfl, rfl⟩
/-- copyCheck: the builder's block alone may turn -/
theorem sbcheck_any (b : Nat) (p v : Value) (w : World) (hb : Blk w b 157 #[p, v]) (hp : p = .pointer none ∨ p = .pointer (some ⟨b, 0, none⟩)) :
    Calls Tryd.prog 110 #[.pointer (some ⟨b, 0, none⟩)] w fun e w' => e = .returned (.tuple #[]) ∧ Blk w' b 157 #[.pointer (some ⟨b, 0, none⟩), v] ∧ Upd [b] w w' := by
  rcases hp with rfl | rfl
  · refine (sbcheck_fresh b w (hb.cell 0) (by unfold Blk at hb; simp [World.shape?, hb]) (hb.frozen 0)).mono ?_
    rintro e w' ⟨rfl, rfl⟩
    exact ⟨rfl, hb.set_ 0 _, (Upd.refl [b] w).set (p := ⟨b, 0, none⟩) (.inl (by simp)) _⟩
  · refine (sbcheck_used b w (hb.cell 0)).mono ?_
    rintro e w' ⟨rfl, rfl⟩
    exact ⟨rfl, hb, Upd.refl _ _⟩
end
end Go.Proofs.YtjnplglnnamfdaaDoor
namespace Go.Proofs.YtjnplglnnamfdaaDoor
section
open Go.RowKit
set_option linter.unusedVariables false
set_option linter.unusedSimpArgs false
theorem own_lower {w : World} {base : Nat} {e : TypeId} {sz : Nat} {v : Value} {n : Nat} {xs : List Value} (h : w.ownsRow base e sz v n xs) : w.ownsRow 0 e sz v n xs := by
  refine ⟨h.1, ?_⟩
  rcases h.2 with hn | ⟨g, cap, cur, hv, _, rest⟩
  · exact .inl hn
  · exact .inr ⟨g, cap, cur, hv, Nat.zero_le _, rest⟩
theorem run_append_str1 {P : Program} (w : World) (t u ty e : TypeId) (i : TypeInfo) (ht : P.underlying t = some (.slice e)) (hu : P.underlying u = some .string) (hi : P.info? e = some i) (hz : i.zero = some (.int .u8 0))
    (hsize : i.size = 1) (hby : i.bytes = 1) (v : Value) (n : Nat) (xs : List Value) (hown : w.ownsRow 0 e 1 v n xs) (s : ByteArray) (h63 : n + s.size ≤ maxLen) (hbytes : n + s.size ≤ 140737488355328) :
    ∃ v' w', (Builtin.append_ #[t, u] ty #[v, .string s]).run P w = .ok v' w' ∧ w'.ownsRow 0 e 1 v' (n + s.size) (xs ++ Lib.strCells s) ∧ w.grownBy w' v.ownBlock ∧ (∀ k, v'.ownBlock = some k → v.ownBlock = some k ∨ w.heap.size ≤ k) := by
  have hsm : n + s.size ≤ 9223372036854775807 := by simp only [maxLen] at h63; omega
  have h1 := hown.1
  rcases hown.2 with ⟨rfl, rfl⟩ | ⟨g, cap, cur, rfl, hbg, hg, hnc, hcm, hcs, htake⟩
  · obtain ⟨v', w', hr, h2, h3, h4⟩ := Lib.run_append_own_string (P := P) w w.heap.size t u ty e i ht hu hi hz hsize hby _ _ xs ⟨hown.1, .inl ⟨rfl, rfl⟩⟩ s h63 hbytes (Nat.le_refl _)
    exact ⟨v', w', hr, own_lower h2, h3, fun k hk => .inr (own_block h2 k hk)⟩
  · obtain ⟨v', w', hr, h2, h3, h4⟩ := Lib.run_append_own_string (P := P) w 0 t u ty e i ht hu hi hz hsize hby _ _ xs hown s h63 hbytes (Nat.zero_le _)
    refine ⟨v', w', hr, h2, h3, fun k hk => ?_⟩
    by_cases hroom : n + s.size ≤ cap
    · have hr' := Lib.run_append_room_string (P := P) w t u ty e i ht hu hi hsize g n cap cur hg s hroom (by omega)
      rw [hr'] at hr
      injection hr with e1 e2
      subst e1
      exact .inl hk
    · have hr' := Lib.run_append_grow_string (P := P) w t u ty e i (.int .u8 0) ht hu hi hz ⟨g, 0, none⟩ n cap xs (by rw [hsize]; simpa using h1) (hown.cells (g := g) rfl) s (by omega) (by omega) (by rw [hby]; exact growslice_fits (by omega) (by omega))
      rw [hr'] at hr
      injection hr with e1 e2
      subst e1
      right
      have h5 : some w.heap.size = some k := hk
      injection h5 with h5
      omega
section
variable {P : Program} {ops : Array Oper} {L : List Nat} {a0 : Act} {w0 : World} {bor : List Nat} {X0 : List Ent} {us cr kl : List (List Nat)}
  {D : Nat → (Tmp → Value) → (Tmp → Value) → (Nat → Ent) → Prop} {i : Nat} {o : Oper} {ρ : Operand → Value} {β : Tmp → Value} {W : World} {X : Nat → Ent}
end
end
end Go.Proofs.YtjnplglnnamfdaaDoor
namespace Go.Proofs.YtjnplglnnamfdaaDoor
section
open Go.RowKit
set_option linter.unusedVariables false
set_option linter.unusedSimpArgs false
/-- block g is a row whose first cells are the bytes L; no cell of it is frozen -/
def BRow (W : World) (g : Nat) (t : TypeId) (L : List Int) : Prop := ∃ (cur : Array Value) (m : Nat), W.heap[g]? = some (.cells cur t (m, m + 1)) ∧ cur.size = m ∧ L.length ≤ m ∧ ∀ j, j < L.length → cur[j]? = some (.int .u8 (L.getD j 0))
theorem BRow.cell {W : World} {g : Nat} {t : TypeId} {L : List Int} (h : BRow W g t L) {j : Nat} (hj : j < L.length) : W.cell? ⟨g, j, none⟩ = some (.int .u8 (L.getD j 0)) := by
  obtain ⟨cur, m, hh, hm, hl, hc⟩ := h
  rw [cell_of_row W g j cur t _ hh]
  exact hc j hj
def eW (g : Nat) (t : TypeId) (L : List Int) : Ent := ⟨[g], fun W => BRow W g t L⟩
theorem eW_loc (g : Nat) (t : TypeId) (L : List Int) : (eW g t L).loc := fun W W' h ⟨cur, m, hh, r⟩ => ⟨cur, m, (h g (by simp [eW])).trans hh, r⟩
def bI (s : ByteArray) : List Int := s.data.toList.map fun b => (b.toNat : Int)
theorem bI_len (s : ByteArray) : (bI s).length = s.size := by rw [bI, List.length_map, Array.length_toList]; rfl
def sK : Value → Nat
  | .slice _ n c => c - n
  | _ => 0
section
variable {P : Program} {ops : Array Oper} {L : List Nat} {a0 : Act} {w0 : World} {bor : List Nat} {X0 : List Ent} {us cr kl : List (List Nat)}
  {D : Nat → (Tmp → Value) → (Tmp → Value) → (Nat → Ent) → Prop} {i : Nat} {o : Oper} {ρ : Operand → Value} {β : Tmp → Value} {W : World} {X : Nat → Ent}
theorem CtxV.brow {q g t : Nat} {M : List Int} (cx : CtxV ops L a0 w0 bor X0 us D i ρ β W X) (hX : X q = eW g t M) (hu : (atV us i).contains q = true) : BRow W g t M := by
  have h := (cx.ok q hu).holds
  rw [hX] at h; exact h
/-- a store into an element of an array that is known as a list -/
theorem dv_storeAr {t t' : TypeId} {x y : Operand} {b m q q' : Nat} {v : Value} {xs xs' : List Value} (h : o.op = .store t x y) (hx : ρ x = .pointer (some ⟨b, m, none⟩)) (hy : ρ y = v) (hz : szP P t = some 1) (hn : v.cells = #[v]) (h1 : v.oneCell' = true)
    (cx : CtxV ops L a0 w0 bor X0 us D i ρ β W X) (hX : X q = eB b t' xs.toArray) (hu : (atV us i).contains q = true) (hm : m < xs.length) (hd : o.dst = none) (hxs : xs.set m v = xs') (hc : atV cr i = [q']) (hk : atV kl i = [q])
    (hD : ∀ (σ β' : Tmp → Value) (X' : Nat → Ent), (∀ t, σ t = ρ (.tmp t)) → (∀ t, β' t = β t) → X' q' = eB b t' xs'.toArray → D i σ β' X') : DoesU P o ρ W (PostV cr kl D i o.dst ρ β W X) := by
  subst hxs
  have hb := cx.blk hX hu
  have hcell : W.cell? ⟨b, m, none⟩ = some xs[m] := by rw [hb.cell]; simp [hm]
  have hfz := hb.frozen m
  have hst := hb.set_ m v
  have e0 : xs.toArray.setIfInBounds m v = (xs.set m v).toArray := by simp
  rw [e0] at hst
  have hrun : (execOp ρ o).run P W = .ok .skip (W.setCell ⟨b, m, none⟩ v) := by
    unfold execOp; rw [h]
    have hsz : v.cells.size = 1 := by rw [hn]; rfl
    simp only [hx, hy, Instr.storeAt, Instr.sureAddr, storeVar, Sem.run_bind, Sem.run_pure, Result.andThen_ok, run_size hz, hsz, ne_eq, not_true_eq_false, if_false]
    have e1 : (storeCells ⟨b, m, none⟩ v.cells.toList 0).run P W = .ok () (W.setCell ⟨b, m, none⟩ v) := by
      rw [hn]
      have hs1 : (Go.store ((⟨b, m, none⟩ : Addr).add 0) v).run P W = .ok () (W.setCell ⟨b, m, none⟩ v) := by
        rw [Addr.add_lit]
        unfold Go.store
        cases v <;> first | (simp [Value.oneCell'] at h1; done) | (simp [Sem.run, hcell, hfz])
      show (storeCells ⟨b, m, none⟩ [v] 0).run P W = _
      unfold storeCells
      simp only [Sem.run_bind, hs1, Result.andThen_ok]
      rfl
    rw [e1]
    rfl
  refine DoesU.skip hrun ⟨[eB b t' (xs.set m v).toArray], by rw [hc]; rfl, ⟨?_, fun e' he => ?_, List.pairwise_singleton _ _⟩, fun σ β' X' hs hv hb' hbv hx' hN => hD σ β' X' (fun t => hs t (by rw [hd]; simp)) (fun t => hb' t (by rw [hd]; simp)) ?_⟩
  · rw [hk]
    simp only [List.flatMap_cons, List.flatMap_nil, List.append_nil, hX]
    exact (Upd.refl _ W).set (.inl (by simp [eB])) v
  · rw [List.mem_singleton] at he
    subst he
    refine ⟨hst, eB_loc _ _ _, fun k hk' => ?_⟩
    have hkb : k = b := by simpa [eB] using hk'
    subst hkb
    refine ⟨.inl ?_, hst.lt⟩
    rw [hk]
    simp [hX, eB]
  · rw [hc] at hN
    exact (List.cons.inj hN).1
/-- '[]byte(s)' -/
theorem dv_convS {t t' e : TypeId} {x : Operand} {s : ByteArray} {d : Tmp} {q : Nat} (h : o.op = .convert t t' x) (ht : P.underlying t = some .string) (ht' : P.underlying t' = some (.slice e)) (he : P.underlying e = some (.int .u8)) (hx : ρ x = .string s) (hd : o.dst = some d) (hc : atV cr i = [q])
    (hD : ∀ (σ β' : Tmp → Value) (X' : Nat → Ent), (∀ t, t ≠ d → σ t = ρ (.tmp t)) → (∀ t, t ≠ d → β' t = β t) → σ d = .slice (some ⟨pb' (β' d), 0, none⟩) s.size (s.size + sK (β' d)) → X' q = eW (pb' (β' d)) e (bI s) → D i σ β' X') :
    DoesU P o ρ W (PostV cr kl D i o.dst ρ β W X) := by
  have hrun := run_bytes_of_string (P := P) W t t' e s ht ht' he
  refine DoesU.value (v := .slice (some ⟨W.heap.size, 0, none⟩) s.size (grownCap W s.size 0 e)) (w' := W.drew.alloc (.cells (bytesRow s (grownCap W s.size 0 e)) e ((bytesRow s (grownCap W s.size 0 e)).size, (bytesRow s (grownCap W s.size 0 e)).size + 1))) (by unfold execOp; rw [h]; simp only [hx, Sem.run_bind, hrun, Result.andThen_ok, Sem.run_pure]) ?_
  refine ⟨[eW W.heap.size e (bI s)], by rw [hc]; rfl, ⟨((Upd.refl _ W).drew).alloc _, fun e' he' => ?_, List.pairwise_singleton _ _⟩, fun σ β' X' hs hv' hb hbv hx' hN => hD σ β' X' (fun t ht => hs t (by rw [hd]; simpa using ht.symm)) (fun t ht => hb t (by rw [hd]; simpa using ht.symm)) ?_ ?_⟩
  · rw [List.mem_singleton] at he'
    subst he'
    refine ⟨⟨bytesRow s (grownCap W s.size 0 e), _, heap_alloc_new W.drew _, rfl, ?_, fun j hj => ?_⟩, eW_loc _ _ _, fun k hk => ?_⟩
    · rw [bI_len, bytesRow, Array.size_append, Array.size_map]
      exact Nat.le_add_right _ _
    · rw [bI_len] at hj
      rw [bytesRow_at s _ j hj]
      have : j < s.data.toList.length := by simpa using hj
      rw [bI, List.getD_eq_getElem?_getD, List.getElem?_eq_getElem (by simpa using hj), Option.getD_some, List.getElem_map, Array.getElem_toList]
    · have hkb : k = W.heap.size := by simpa [eW] using hk
      subst hkb
      exact ⟨.inr (Nat.le_refl _), by rw [World.size_alloc]; exact Nat.lt_succ_self _⟩
  · rw [hv' d hd, hbv d hd]
    have hg : s.size ≤ grownCap W s.size 0 e := grownCap_ge W s.size 0 e
    show Value.slice _ _ _ = Value.slice _ _ _
    congr 1
    show grownCap W s.size 0 e = s.size + (grownCap W s.size 0 e - s.size)
    omega
  · rw [hbv d hd]
    rw [hc] at hN
    exact (List.cons.inj hN).1
/-- the address of an element -/
theorem run_indexW {x y : Operand} {t e : TypeId} {g n c m : Nat} {k : IntKind} {j : Int} (h : o.op = .indexAddr t x y) (ht : P.underlying t = some (.slice e)) (hz : szP P e = some 1) (hx : ρ x = .slice (some ⟨g, 0, none⟩) n c) (hy : ρ y = .int k j) (hj : j = (m : Int)) (hm : m < n) :
    (execOp ρ o).run P W = .ok (.value (.pointer (some ⟨g, m, none⟩))) W := by
  subst hj
  unfold execOp; rw [h]
  have h1 : (0 : Int) ≤ (m : Int) ∧ (m : Int) < (n : Int) := ⟨by omega, by omega⟩
  simp only [hx, hy, Instr.indexAt, asIntOf, Sem.run_bind, Sem.run_pure, Result.andThen_ok, run_underlying ht, h1, and_self, if_true, run_size hz]
  simp [Addr.add_lit]
end
/-- the ways through x meet in R -/
theorem wp_cut {P : Program} {x y : Code} {Q : Exit → Act → World → Prop} {a : Act} {w : World} (R : Act → World → Prop) (hx : x.wp P (Exit.then R Q) a w) (hy : ∀ a' w', R a' w' → y.wp P Q a' w') : (Code.seq x y).wp P Q a w :=
  wp_seq (wp_mono hx fun e a' w' h => by cases e <;> first | exact hy _ _ h | exact h)
end
end Go.Proofs.YtjnplglnnamfdaaDoor
namespace Go.Proofs.YtjnplglnnamfdaaDoor
section
open Go.RowKit
set_option linter.unusedVariables false
set_option linter.unusedSimpArgs false
/-- the builder in block b, its bytes xs in a row of its own (block r, none while there is no row) -/
def SbAt (W : World) (b : Nat) (r : Option Nat) (xs : List Value) : Prop :=
  ∃ p v, Blk W b 157 #[p, v] ∧ (p = .pointer none ∨ p = .pointer (some ⟨b, 0, none⟩)) ∧ W.ownsRow 0 5 1 v xs.length xs ∧ v.ownBlock = r
def eSb (b : Nat) (r : Option Nat) (xs : List Value) : Ent := ⟨b :: r.toList, fun W => SbAt W b r xs⟩
def rO (e : Ent) : Option Nat := e.fp[1]?
theorem rO_eSb (b : Nat) (r : Option Nat) (xs : List Value) : rO (eSb b r xs) = r := by
  cases r <;> rfl
theorem eSb_loc (b : Nat) (r : Option Nat) (xs : List Value) : (eSb b r xs).loc := fun W W' hk h => by
  obtain ⟨p, v, h1, h2, h3, h4⟩ := h
  refine ⟨p, v, (hk b (by simp [eSb])).trans h1, h2, ?_, h4⟩
  have := eO_loc 5 1 v xs.length xs W W' (fun k hk' => hk k (by
    have h5 : v.ownBlock = some k := by simpa [eO] using hk'
    rw [h4] at h5
    simp [eSb, h5])) h3
  exact this
/-- a new builder -/
theorem SbAt.fresh {W : World} {b : Nat} (h : Blk W b 157 #[.pointer none, .slice none 0 0]) : SbAt W b none [] := ⟨_, _, h, .inl rfl, World.ownsRow_nil _ _ _ _, rfl⟩
theorem SbAt.ne {W : World} {b : Nat} {r : Option Nat} {xs : List Value} (h : SbAt W b r xs) : r ≠ some b := by
  obtain ⟨p, v, h1, h2, h3, h4⟩ := h
  have := own_ne h3 h1 (by decide)
  rw [h4] at this
  exact this
theorem wpList_append_str {P : Program} {ops : Array Oper} {rest : List Oper} {o : Oper} {a : Act} {Q : Exit → Act → World → Prop} {w : World} (hgd : o.guard = none) (sl x : Operand) (t u : TypeId)
    (ho : o.op = .call { callee := .builtin .append, args := #[sl, x], argTypes := #[t, u] })
    (e : TypeId) (i : TypeInfo) (ht : P.underlying t = some (.slice e)) (hu : P.underlying u = some .string) (hi : P.info? e = some i) (hz : i.zero = some (.int .u8 0))
    (hsize : i.size = 1) (hby : i.bytes = 1)
    (v : Value) (n : Nat) (xs : List Value) (hs : a.eval sl = v) (hown : w.ownsRow 0 e 1 v n xs) (s : ByteArray) (hx : a.eval x = .string s)
    (h63 : n + s.size ≤ maxLen) (hbytes : n + s.size ≤ 140737488355328)
    (h : ∀ v' w', w'.ownsRow 0 e 1 v' (n + s.size) (xs ++ Lib.strCells s) → w.grownBy w' v.ownBlock → (∀ k, v'.ownBlock = some k → v.ownBlock = some k ∨ w.heap.size ≤ k) → wpList P ops Q rest (a.put o.dst v') w') : wpList P ops Q (o :: rest) a w := by
  refine wpList_plain hgd fun K hK => ?_
  obtain ⟨v', w', hr, h2, h3, h4⟩ := run_append_str1 (P := P) w t u o.type e i ht hu hi hz hsize hby v n xs hown s h63 hbytes
  unfold Oper.wp execOp
  simp only [ho, resolve, invoke, builtin, Sem.run_bind, Sem.run_pure, Result.andThen_ok, List.map_toArray, List.map_cons, List.map_nil, hs, hx, hr]
  exact hK _ _ (h v' w' h2 h3 h4)
theorem Tryd.infoU8 : (Tryd.prog.info? 5).map (fun i => (i.zero, i.size, i.bytes)) = some (some (.int .u8 0), 1, 1) := by kernel_rfl
/-- what a write leaves -/
def SbPost (b : Nat) (r : Option Nat) (xs : List Value) (w w' : World) : Prop := ∃ r', SbAt w' b r' xs ∧ Upd (b :: r.toList) w w' ∧ ∀ k, r' = some k → r = some k ∨ w.heap.size ≤ k
set_option maxHeartbeats 2000000 in
set_option maxRecDepth 100000 in
theorem sbw_any (b : Nat) (r : Option Nat) (xs : List Value) (s : ByteArray) (w : World) (h : SbAt w b r xs) (hlen : xs.length + s.size ≤ 1000000) :
    Calls Tryd.prog 90 #[.pointer (some ⟨b, 0, none⟩), .string s] w fun e w' => e = .returned (.tuple #[.int .i64 s.size, .nilIface]) ∧ SbPost b r (xs ++ Lib.strCells s) w w' := by
  obtain ⟨i0, hi, hz0, hz1, hz2⟩ := info_parts Tryd.infoU8
  have hnb := h.ne
  obtain ⟨p, v, hbk0, hp, hown0, hr⟩ := h
  subst hr
  go_enter Tryd.func90, Tryd.ntmps90
  go_wp2_with fail
  refine (sbcheck_any b p v w hbk0 hp).mono ?_
  rintro e w1 ⟨rfl, hbk, hb1⟩
  have hown : w1.ownsRow 0 5 1 v xs.length xs := eO_loc 5 1 v xs.length xs w w1 (fun k hk => by
    have h5 : v.ownBlock = some k := by simpa [eO] using hk
    exact hb1.block k (own0_block hown0 k h5) (by simp; intro e; exact hnb (by rw [h5, e]))) hown0
  have c0 : w1.cell? ⟨b, 0, none⟩ = some (.pointer (some ⟨b, 0, none⟩)) := hbk.cell 0
  have c1 : w1.cell? ⟨b, 1, none⟩ = some v := hbk.cell 1
  go_wp2_with (at_builtin; refine wpList_append_str rfl _ _ 143 9 rfl 5 i0 Tryd.underlying143 Tryd.underlying9 hi hz0 hz1 hz2 _ _ _ rfl hown s rfl ?c3 ?c4 ?_)
  case c3 => unfold maxLen; omega
  case c4 => omega
  intro v' w2 hown' hgrow hat
  have hb2 : Blk w2 b 157 #[.pointer (some ⟨b, 0, none⟩), v] := hbk.grown hgrow (own_ne hown hbk (by decide))
  have d0 : w2.cell? ⟨b, 0, none⟩ = some (.pointer (some ⟨b, 0, none⟩)) := hb2.cell 0
  have d1 : w2.cell? ⟨b, 1, none⟩ = some v := hb2.cell 1
  have f1 : w2.frozen? ⟨b, 1, none⟩ = false := hb2.frozen 1
  obtain ⟨ao, n', cap, rfl⟩ : ∃ ao n' cap, v' = .slice ao n' cap := by
    rcases hown'.2 with ⟨hv, _⟩ | ⟨g, cap, cur, hv, _⟩
    · exact ⟨_, _, _, hv⟩
    · exact ⟨_, _, _, hv⟩
  go_wp2
  go_ret2
  refine ⟨rfl, _, ⟨_, _, hb2.set_ 1 _, .inr rfl, own_set (by simpa [Lib.strCells_length] using hown') (own_ne hown' hb2 (by decide)) 1 _, rfl⟩, ?_, fun k hk => ?_⟩
  · exact ((hb1.mono (fun k _ hk => by simp at hk; simp [hk])).grown hgrow (fun k hk => .inl (by simp [hk]))).set (p := ⟨b, 1, none⟩) (.inl (by simp)) _
  · rcases hat k hk with h | h
    · exact .inl h
    · exact .inr (Nat.le_trans hb1.size h)
set_option maxHeartbeats 2000000 in
set_option maxRecDepth 100000 in
theorem sbc_any (b : Nat) (r : Option Nat) (xs : List Value) (k : Int) (w : World) (h : SbAt w b r xs) (hlen : xs.length + 1 ≤ 1000000) :
    Calls Tryd.prog 94 #[.pointer (some ⟨b, 0, none⟩), .int .u8 k] w fun e w' => e = .returned .nilIface ∧ SbPost b r (xs ++ [.int .u8 k]) w w' := by
  obtain ⟨i0, hi, hz0, hz1, hz2⟩ := info_parts Tryd.infoU8
  have hnb := h.ne
  obtain ⟨p, v, hbk0, hp, hown0, hr⟩ := h
  subst hr
  go_enter Tryd.func94, Tryd.ntmps94
  go_wp2_with fail
  refine (sbcheck_any b p v w hbk0 hp).mono ?_
  rintro e w1 ⟨rfl, hbk, hb1⟩
  have hown1 : w1.ownsRow 0 5 1 v xs.length xs := eO_loc 5 1 v xs.length xs w w1 (fun k hk => by
    have h5 : v.ownBlock = some k := by simpa [eO] using hk
    exact hb1.block k (own0_block hown0 k h5) (by simp; intro e; exact hnb (by rw [h5, e]))) hown0
  have c0 : w1.cell? ⟨b, 0, none⟩ = some (.pointer (some ⟨b, 0, none⟩)) := hbk.cell 0
  have c1 : w1.cell? ⟨b, 1, none⟩ = some v := hbk.cell 1
  have hX : Ext w1 (w1.alloc (.cells #[.int .u8 k] 5)) := (Ext.refl w1).alloc _
  have hown := own_ext hown1 hX
  have hbk' := hbk.ext hX
  go_wp2_with (at_builtin; refine wpl_append _ rfl _ _ 143 rfl 0 5 i0 _ 1 Tryd.underlying143 hi hz0 hz1 hz2 rfl _ _ _ rfl hown _ 1 1 [.int .u8 k] rfl rfl ?c1 (by simp [Value.oneCell']) ?c3 ?c4 (Nat.zero_le _) ?_)
  case c1 => exact At.one_new _ _ _
  case c3 => unfold maxLen; omega
  case c4 => omega
  intro v' w2 hown' hgrow hat
  have hb2 : Blk w2 b 157 #[.pointer (some ⟨b, 0, none⟩), v] := hbk'.grown hgrow (own_ne hown hbk' (by decide))
  have d0 : w2.cell? ⟨b, 0, none⟩ = some (.pointer (some ⟨b, 0, none⟩)) := hb2.cell 0
  have d1 : w2.cell? ⟨b, 1, none⟩ = some v := hb2.cell 1
  have f1 : w2.frozen? ⟨b, 1, none⟩ = false := hb2.frozen 1
  obtain ⟨ao, n', cap, rfl⟩ : ∃ ao n' cap, v' = .slice ao n' cap := by
    rcases hown'.2 with ⟨hv, _⟩ | ⟨g, cap, cur, hv, _⟩
    · exact ⟨_, _, _, hv⟩
    · exact ⟨_, _, _, hv⟩
  go_wp2
  go_ret
  refine ⟨rfl, _, ⟨_, _, hb2.set_ 1 _, .inr rfl, own_set (by simpa using hown') (own_ne hown' hb2 (by decide)) 1 _, rfl⟩, ?_, fun k hk => ?_⟩
  · exact (((hb1.mono (fun k _ hk => by simp at hk; simp [hk])).alloc _).grown hgrow (fun k hk => .inl (by simp [hk]))).set (p := ⟨b, 1, none⟩) (.inl (by simp)) _
  · rcases hat with h | h
    · exact .inl (h.symm.trans hk)
    · right
      have h6 := h.symm.trans hk
      injection h6 with h6
      have := hb1.size
      have := hX.size
      omega
def eBu (b : Nat) (r : Option Nat) (l : List UInt8) : Ent := eSb b r (Lib.byteCells l)
theorem rO_eBu (b : Nat) (r : Option Nat) (l : List UInt8) : rO (eBu b r l) = r := rO_eSb b r _
theorem cells_byte (l : List UInt8) (k : Int) (h : 0 ≤ k ∧ k < 256) : Lib.byteCells l ++ [.int .u8 k] = Lib.byteCells (l ++ [UInt8.ofNat k.toNat]) := by
  have : ((UInt8.ofNat k.toNat).toNat : Int) = k := by
    rw [UInt8.toNat_ofNat']
    omega
  simp only [Lib.byteCells, List.map_append, List.map_cons, List.map_nil, this]
theorem cells_str (l : List UInt8) (s : ByteArray) : Lib.byteCells l ++ Lib.strCells s = Lib.byteCells (l ++ s.data.toList) := by simp [Lib.byteCells, Lib.strCells]
theorem byteCells_len (l : List UInt8) : (Lib.byteCells l).length = l.length := by simp [Lib.byteCells]
theorem sbc_l (b : Nat) (r : Option Nat) (l : List UInt8) (k : Int) (w : World) (h : SbAt w b r (Lib.byteCells l)) (hk : 0 ≤ k ∧ k < 256) (hlen : l.length + 1 ≤ 1000000) :
    Calls Tryd.prog 94 #[.pointer (some ⟨b, 0, none⟩), .int .u8 k] w fun e w' => e = .returned .nilIface ∧ SbPost b r (Lib.byteCells (l ++ [UInt8.ofNat k.toNat])) w w' := by
  have := sbc_any b r _ k w h (by rw [byteCells_len]; exact hlen)
  rw [cells_byte l k hk] at this
  exact this
theorem sbw_l (b : Nat) (r : Option Nat) (l : List UInt8) (s : ByteArray) (w : World) (h : SbAt w b r (Lib.byteCells l)) (hlen : l.length + s.size ≤ 1000000) :
    Calls Tryd.prog 90 #[.pointer (some ⟨b, 0, none⟩), .string s] w fun e w' => e = .returned (.tuple #[.int .i64 s.size, .nilIface]) ∧ SbPost b r (Lib.byteCells (l ++ s.data.toList)) w w' := by
  have := sbw_any b r _ s w h (by rw [byteCells_len]; exact hlen)
  rw [cells_str l s] at this
  exact this
theorem Upd.freeze {S : List Nat} {a b : World} (h : Upd S a b) {p : Addr} (hp : p.block ∈ S ∨ a.heap.size ≤ p.block) (n : Nat) : Upd S a (b.freeze p n) := by
  unfold World.freeze
  split
  · exact h
  · refine ⟨h.os, h.tape, h.output, by simpa using h.size, fun k hk hn => ?_⟩
    simp only [Array.getElem?_modify]
    rw [if_neg (fun e => ?_)]
    · exact h.block k hk hn
    · rcases hp with hp | hp
      · exact hn (by rw [← e]; exact hp)
      · omega
section
variable {P : Program} {ops : Array Oper} {L : List Nat} {a0 : Act} {w0 : World} {bor : List Nat} {X0 : List Ent} {us cr kl : List (List Nat)}
  {D : Nat → (Tmp → Value) → (Tmp → Value) → (Nat → Ent) → Prop} {i : Nat} {o : Oper} {ρ : Operand → Value} {β : Tmp → Value} {W : World} {X : Nat → Ent}
theorem CtxV.sb {q b : Nat} {r : Option Nat} {l : List UInt8} (cx : CtxV ops L a0 w0 bor X0 us D i ρ β W X) (hX : X q = eBu b r l) (hu : (atV us i).contains q = true) : SbAt W b r (Lib.byteCells l) := by
  have h := (cx.ok q hu).holds
  rw [hX] at h; exact h
theorem post_sb {v : Value} {W' : World} {b q q' : Nat} {r : Option Nat} {l : List UInt8} (hX : (X q).fp = b :: r.toList) (hc : atV cr i = [q']) (hk : atV kl i = [q]) (hp : SbPost b r (Lib.byteCells l) W W')
    (hD : ∀ (σ β' : Tmp → Value) (X' : Nat → Ent), (∀ t, o.dst ≠ some t → σ t = ρ (.tmp t)) → (∀ t, o.dst ≠ some t → β' t = β t) → (∀ d, o.dst = some d → σ d = v ∧ β' d = v) → X' q' = eBu b (rO (X' q')) l → D i σ β' X') : PostV cr kl D i o.dst ρ β W X v W' := by
  obtain ⟨r', hs, hu, hr⟩ := hp
  have hne := hs.ne
  have hlt : ∀ k ∈ (eBu b r' l).fp, k < W'.heap.size := fun k hk' => by
    obtain ⟨p, vv, h1, _, h3, h4⟩ := hs
    simp only [eBu, eSb, List.mem_cons, Option.mem_toList] at hk'
    rcases hk' with rfl | hk'
    · exact h1.lt
    · exact own0_block h3 k (by rw [h4]; exact hk')
  refine ⟨[eBu b r' l], by rw [hc]; rfl, ⟨?_, fun e he => ?_, List.pairwise_singleton _ _⟩, fun σ β' X' hs' hv hb' hbv hx' hN => hD σ β' X' hs' hb' (fun d hd => ⟨hv d hd, hbv d hd⟩) ?_⟩
  · rw [hk]
    simp only [List.flatMap_cons, List.flatMap_nil, List.append_nil, hX]
    exact hu
  · rw [List.mem_singleton] at he
    subst he
    refine ⟨hs, eSb_loc _ _ _, fun k hk' => ⟨?_, hlt k hk'⟩⟩
    rw [hk]
    simp only [List.flatMap_cons, List.flatMap_nil, List.append_nil, hX]
    simp only [eBu, eSb, List.mem_cons, Option.mem_toList] at hk'
    rcases hk' with rfl | hk'
    · exact .inl (by simp)
    · rcases hr k hk' with h | h
      · exact .inl (by simp [h])
      · exact .inr h
  · rw [hc] at hN
    have h1 := (List.cons.inj hN).1
    rw [h1, rO_eBu]
/-- a call that ends an entry -/
theorem post_kill {v : Value} {W' : World} {q : Nat} {S : List Nat} (hX : (X q).fp = S) (hc : atV cr i = []) (hk : atV kl i = [q]) (hu : Upd S W W')
    (hD : ∀ (σ β' : Tmp → Value) (X' : Nat → Ent), (∀ t, o.dst ≠ some t → σ t = ρ (.tmp t)) → (∀ t, o.dst ≠ some t → β' t = β t) → (∀ d, o.dst = some d → σ d = v ∧ β' d = v) → D i σ β' X') : PostV cr kl D i o.dst ρ β W X v W' := by
  refine ⟨[], by rw [hc]; rfl, ⟨?_, by simp, List.Pairwise.nil⟩, fun σ β' X' hs' hv hb' hbv hx' hN => hD σ β' X' hs' hb' (fun d hd => ⟨hv d hd, hbv d hd⟩)⟩
  rw [hk]
  simp only [List.flatMap_cons, List.flatMap_nil, List.append_nil, hX]
  exact hu
theorem run_sliceData {x : Operand} {t : TypeId} {a : Addr} {n c : Nat} (h : o.op = .call { callee := .builtin .unsafeSliceData, args := #[x], argTypes := #[t] }) (hx : ρ x = .slice (some a) n c) (hc : 0 < c) : (execOp ρ o).run P W = .ok (.value (.pointer (some a))) W := by
  have h0 := Lib.run_unsafeSliceData_row (P := P) (w := W) #[t] o.type a n c (by omega)
  unfold execOp; rw [h]
  simp only [resolve, invoke, builtin, Sem.run_bind, Sem.run_pure, Result.andThen_ok, List.map_toArray, List.map_cons, List.map_nil, hx, h0]
/-- unsafe.String over a row of the call's own -/
theorem dv_unsafeStr {x y : Operand} {t u e : TypeId} {g c q : Nat} {d : Tmp} {l : List UInt8} (h : o.op = .call { callee := .builtin .unsafeString, args := #[x, y], argTypes := #[t, u] }) (ht : P.underlying t = some (.pointer e)) (hce : P.cellsOf e = 1)
    (hx : ρ x = .pointer (some ⟨g, 0, none⟩)) (hy : ρ y = .int .i64 (l.length : Int)) (cx : CtxV ops L a0 w0 bor X0 us D i ρ β W X) (hX : X q = eO e 1 (.slice (some ⟨g, 0, none⟩) l.length c) l.length (Lib.byteCells l)) (hu : (atV us i).contains q = true) (hl : l ≠ []) (h63 : l.length ≤ 9223372036854775807)
    (hd : o.dst = some d) (hc : atV cr i = []) (hk : atV kl i = [q]) (hD : ∀ (σ β' : Tmp → Value) (X' : Nat → Ent), σ d = .string ⟨l.toArray⟩ → D i σ β' X') : DoesU P o ρ W (PostV cr kl D i o.dst ρ β W X) := by
  have hown := cx.row hX hu
  obtain ⟨hlen, h2⟩ := hown
  have hpos : 0 < l.length := List.length_pos_iff.2 hl
  rcases h2 with ⟨hv, h0⟩ | ⟨g', cap, cur, hv, _, hg, hle, hmx, hcs, htk⟩
  · omega
  · injection hv with h1 h2 h3
    injection h1 with h1
    injection h1 with h1
    subst h1 h3
    have hcell : ∀ (j : Nat) (x : UInt8), l[j]? = some x → W.cell? ((⟨g, 0, none⟩ : Addr).add j) = some (.int .u8 x.toNat) := fun j x hj => by
      have hjl := (List.getElem?_eq_some_iff.1 hj).1
      rw [Addr.add_lit, Nat.zero_add, cell_of_row W g j cur e _ hg]
      have h5 : (cur.toList.take (l.length * 1))[j]? = (Lib.byteCells l)[j]? := by rw [htk]
      rw [List.getElem?_take, if_pos (by omega)] at h5
      rw [← Array.getElem?_toList, h5]
      simp [Lib.byteCells, hj]
    have hrun := Lib.run_unsafeString_row (P := P) (w := W) t u o.type e ht hce g cur.size (by unfold World.shape?; rw [hg]) l hl (by omega) h63 hcell
    refine DoesU.value (v := .string ⟨l.toArray⟩) (w' := W.freeze ⟨g, 0, none⟩ l.length) (by
      unfold execOp; rw [h]
      simp only [resolve, invoke, builtin, Sem.run_bind, Sem.run_pure, Result.andThen_ok, List.map_toArray, List.map_cons, List.map_nil, hx, hy, hrun]) ?_
    refine post_kill (S := [g]) (by rw [hX]; rfl) hc hk ((Upd.refl _ _).freeze (.inl (by simp)) _) fun σ β' X' _ _ hv => hD σ β' X' (hv d hd).1
end
theorem St.lent2 {w : World} {b g t e c n : Nat} {cs : Array Value} {xs : List Value} (hb : Blk w b t cs) (ho : w.ownsRow 0 e 1 (.slice (some ⟨g, 0, none⟩) n c) n xs) (hne : g ≠ b) : St w [b, g] [eB b t cs, eO e 1 (.slice (some ⟨g, 0, none⟩) n c) n xs] w := by
  refine ⟨Upd.refl _ _, fun x hx => ?_, ?_⟩
  · simp only [List.mem_cons, List.not_mem_nil, or_false] at hx
    rcases hx with rfl | rfl
    · exact ⟨hb, eB_loc _ _ _, fun k hk => ⟨.inl (by simp [eB] at hk; simp [hk]), by simp [eB] at hk; subst hk; exact hb.lt⟩⟩
    · exact ⟨ho, eO_loc _ _ _ _ _, fun k hk => ⟨.inl (by simp [eO, Value.ownBlock] at hk; simp [hk]), own0_block ho k (by simpa [eO] using hk)⟩⟩
  · refine List.pairwise_pair.2 fun k hk hk' => ?_
    simp only [eB, List.mem_cons, List.not_mem_nil, or_false, eO, Value.ownBlock, Option.toList_some] at hk hk'
    omega
set_option maxRecDepth 100000 in
set_option maxHeartbeats 2000000 in
theorem sbstr_l (b : Nat) (r : Option Nat) (l : List UInt8) (w : World) (h : SbAt w b r (Lib.byteCells l)) (hl : l ≠ []) (h63 : l.length ≤ 1000000) :
    Calls Tryd.prog 91 #[.pointer (some ⟨b, 0, none⟩)] w fun e w' => e = .returned (.string ⟨l.toArray⟩) ∧ Upd (b :: r.toList) w w' := by
  have hpos : 0 < l.length := List.length_pos_iff.2 hl
  have hbne := h.ne
  obtain ⟨p, v, hb, hp, hown, hr⟩ := h
  rw [byteCells_len] at hown
  obtain ⟨g, c, hv, hlc⟩ : ∃ g c, v = .slice (some ⟨g, 0, none⟩) l.length c ∧ l.length ≤ c := by
    rcases hown.2 with ⟨hv, h0⟩ | ⟨g', cap, cur, hv, _, hg, hle, _⟩
    · omega
    · exact ⟨g', cap, hv, hle⟩
  subst hv hr
  have hne : g ≠ b := fun e => hbne (by simp [Value.ownBlock, e])
  have st0 := St.lent2 hb hown hne
  show Calls _ _ _ w fun e w' => e = .returned (.string ⟨l.toArray⟩) ∧ Upd [b, g] w w'
  go_enter Tryd.func91, Tryd.ntmps91
  have hst0 := st0
  refine wp_seq (wp_region_P [0] [.k 2 (.string ⟨#[]⟩)] [(2, 0, 1, 3)] hst0 fun W1 hst1 => ?_)
  refine then_normal (wp_seq (wp_region_Y [0, 1, 3, 7, 15, 0, 32, 96, 224, 480, 1023, 2047] [[], [], [], [0], [], [], [], [], [0], [], [1]] [] [[], [], [], [], [], [], [], [], [], [], [1]] [.k 3 (vp b), .k 4 (vp b), .k 5 (.pointer (some ⟨b, 1, none⟩)), .c 6 (.slice ((some ⟨g, 0, none⟩)) l.length c), .c 7 (vp g), .k 8 (vp b), .k 9 (vp b), .k 10 (.pointer (some ⟨b, 1, none⟩)), .c 11 (.slice ((some ⟨g, 0, none⟩)) l.length c), .k 12 (vi ((l.length : Int))), .a 13, .c 2 (.string ((⟨l.toArray⟩ : ByteArray)))] (fun ix σ β X => match ix with | 0 => True | 1 => True | 2 => True | 3 => True | 4 => True | 5 => True | 6 => True | 7 => True | 8 => True | 9 => True | 10 => σ 13 = .string ((⟨l.toArray⟩ : ByteArray)) | _ => True) [0] [3, 4, 8, 10, 11] [(2, 11, 1, 3), (0, 0, 11, 11)] hst1 ?_ ?_ ?_))
  · exact fun ix _ _ _ _ _ _ hs hb hx h => match ix, h with
    | 10, h => (hs _ rfl).symm.trans h
    | 0, _ | 1, _ | 2, _ | 3, _ | 4, _ | 5, _ | 6, _ | 7, _ | 8, _ | 9, _ | _ + 11, _ => trivial
  · refine ⟨?_, ?_, ?_, ?_, ?_, trivial⟩
    · exact xs4 rfl id fun cx => run_load1 rfl (by kernel_rfl) (cx.an 2) ((cx.bi 0 rfl).cell 1)
    · exact xs4 rfl id fun cx => run_sliceData rfl (cx.an 3) (by omega)
    · exact xs4 rfl id fun cx => run_load1 rfl (by kernel_rfl) (cx.an 7) ((cx.bi 0 rfl).cell 1)
    · refine sv_any rfl rfl fun ρ β W X cx => ?_
      exact dv_unsafeStr (e := 5) rfl (by kernel_rfl) (by kernel_rfl) (cx.an 4) (cx.an 9) cx (cx.init 1 _ rfl) rfl hl (by omega) rfl rfl rfl (fun σ β' X' hs => hs)
    · exact xs4 rfl id fun cx => run_assign' rfl (dTn (cx.an 10))
  intro σ β X W2 hD hst2 fr hfr
  simp only [ed 13 ((dTn (hD 10 lq)))] at hfr
  clear hD; subst hfr; clear σ β X
  refine then_normal (wp_ret ?_)
  refine bodyPost_ret (v := .string ((⟨l.toArray⟩ : ByteArray))) (results_tmp Tryd.results91 rfl) rfl ?_
  exact ⟨rfl, hst2.upd⟩
end
end Go.Proofs.YtjnplglnnamfdaaDoor
namespace Go.Proofs.YtjnplglnnamfdaaDoor
section
open Go.RowKit
set_option linter.unusedVariables false
set_option linter.unusedSimpArgs false
theorem cellsV_len (v : Val) : (cellsV v).length = 3 := rfl
abbrev v0 : Val := (0, 0, ByteArray.empty)
def knownF (k : Int) : Bool := decide (0 ≤ k) && decide (k ≤ 2)
def vrightF (v : Val) : Bool := knownF v.1 && (v.1 != 2 || decide (v.2.2.size ≤ 40))
def rrightF (r : List Val) : Bool := r.all vrightF && decide (r.length ≤ 6)
theorem vright_parts {v : Val} (h : vrightF v = true) : 0 ≤ v.1 ∧ v.1 ≤ 2 ∧ (v.1 = 2 → v.2.2.size ≤ 40) := by
  simp only [vrightF, knownF, Bool.and_eq_true, Bool.or_eq_true, decide_eq_true_eq, bne_iff_ne, ne_eq] at h
  refine ⟨h.1.1, h.1.2, fun e => ?_⟩
  rcases h.2 with h2 | h2
  · exact absurd e h2
  · exact h2
theorem rright_bad {r : List Val} {k : Nat} (hk : k < r.length) (h : vrightF (r.getD k v0) = false) : rrightF r = false := by
  rw [rrightF, Bool.and_eq_false_iff]
  left
  rw [List.all_eq_false]
  refine ⟨r[k], List.getElem_mem hk, ?_⟩
  rw [List.getD_eq_getElem?_getD, List.getElem?_eq_getElem hk] at h
  simpa using h
theorem rright_step {r : List Val} {k : Nat} (hk : k < r.length) (h : (r.take k).all vrightF = true) (h2 : vrightF (r.getD k v0) = true) : (r.take (k + 1)).all vrightF = true := by
  rw [List.getD_eq_getElem?_getD, List.getElem?_eq_getElem hk] at h2
  rw [List.take_add_one, List.getElem?_eq_getElem hk, List.all_append, h]
  simpa using h2
theorem rright_end {r : List Val} {k : Nat} (hk : r.length ≤ k) (h : (r.take k).all vrightF = true) : rrightF r = decide (r.length ≤ 6) := by
  rw [List.take_of_length_le hk] at h
  rw [rrightF, h, Bool.true_and]
theorem rright_at {r : List Val} (h : rrightF r = true) {k : Nat} (hk : k < r.length) : vrightF (r.getD k v0) = true := by
  rw [rrightF, Bool.and_eq_true, List.all_eq_true] at h
  rw [List.getD_eq_getElem?_getD, List.getElem?_eq_getElem hk]
  exact h.1 _ (List.getElem_mem hk)
theorem rright_len {r : List Val} (h : rrightF r = true) : r.length ≤ 6 := by
  rw [rrightF, Bool.and_eq_true, decide_eq_true_eq] at h
  exact h.2
/-- a value's bytes, a row's bytes -/
def valB (v : Val) : List UInt8 := UInt8.ofNat v.1.toNat :: (if v.1 = 1 then (putS v.2.1 8).data.toList else if v.1 = 2 then UInt8.ofNat ((v.2.2.size : Nat) : Int).toNat :: v.2.2.data.toList else [])
def bytesTo (r : List Val) (k : Nat) : List UInt8 := UInt8.ofNat ((r.length : Nat) : Int).toNat :: (r.take k).flatMap valB
def strL (l : List UInt8) : ByteArray := ⟨l.toArray⟩
def vbytesF (r : List Val) : ByteArray := if rrightF r = true then strL (bytesTo r r.length) else ByteArray.empty
theorem bt_succ {r : List Val} {k : Nat} (hk : k < r.length) : bytesTo r (k + 1) = bytesTo r k ++ valB (r.getD k v0) := by
  rw [List.getD_eq_getElem?_getD, List.getElem?_eq_getElem hk, bytesTo, List.take_add_one, List.getElem?_eq_getElem hk, bytesTo, List.cons_append, List.flatMap_append]
  simp
theorem bt_int {r : List Val} {k : Nat} (hk : k < r.length) (h1 : (r.getD k v0).1 = 1) : (bytesTo r k ++ [UInt8.ofNat (r.getD k v0).1.toNat]) ++ (putS (r.getD k v0).2.1 8).data.toList = bytesTo r (k + 1) := by
  rw [bt_succ hk, valB, if_pos h1, List.append_assoc]; rfl
theorem bt_text {r : List Val} {k : Nat} (hk : k < r.length) (h1 : (r.getD k v0).1 ≠ 1) (h2 : (r.getD k v0).1 = 2) : ((bytesTo r k ++ [UInt8.ofNat (r.getD k v0).1.toNat]) ++ [UInt8.ofNat ((((r.getD k v0).2.2.size : Nat) : Int)).toNat]) ++ (r.getD k v0).2.2.data.toList = bytesTo r (k + 1) := by
  rw [bt_succ hk, valB, if_neg h1, if_pos h2, List.append_assoc, List.append_assoc]; rfl
theorem bt_none {r : List Val} {k : Nat} (hk : k < r.length) (h1 : (r.getD k v0).1 ≠ 1) (h2 : (r.getD k v0).1 ≠ 2) : bytesTo r k ++ [UInt8.ofNat (r.getD k v0).1.toNat] = bytesTo r (k + 1) := by
  rw [bt_succ hk, valB, if_neg h1, if_neg h2]
theorem valB_len {v : Val} (h : vrightF v = true) : (valB v).length ≤ 50 := by
  have hp := vright_parts h
  rw [valB, List.length_cons]
  split
  · have := putS_size v.2.1 8 (by omega)
    have h2 : (putS v.2.1 8).data.toList.length = 8 := by rw [Array.length_toList]; exact this
    omega
  · split
    · rename_i h2
      have h3 := hp.2.2 h2
      have h4 : v.2.2.data.toList.length = v.2.2.size := by rw [Array.length_toList]; rfl
      rw [List.length_cons, h4]; omega
    · simp
theorem flat_le {l : List Val} (h : l.all vrightF = true) : (l.flatMap valB).length ≤ l.length * 50 := by
  induction l with
  | nil => simp
  | cons v l ih =>
    rw [List.all_cons, Bool.and_eq_true] at h
    have h1 := ih h.2
    have h2 := valB_len h.1
    rw [List.flatMap_cons, List.length_append, List.length_cons, Nat.add_mul]
    omega
theorem bt_len {r : List Val} (h : rrightF r = true) (k : Nat) : (bytesTo r k).length ≤ 301 := by
  have hl := rright_len h
  rw [rrightF, Bool.and_eq_true] at h
  have h1 : (r.take k).all vrightF = true := by
    rw [List.all_eq_true] at h ⊢
    exact fun x hx => h.1 x (List.mem_of_mem_take hx)
  have h2 := flat_le h1
  have h3 : (r.take k).length ≤ 6 := by rw [List.length_take]; omega
  rw [bytesTo, List.length_cons]
  have h4 : (r.take k).length * 50 ≤ 6 * 50 := Nat.mul_le_mul_right _ h3
  omega
theorem bt_ne (r : List Val) (k : Nat) : bytesTo r k ≠ [] := by rw [bytesTo]; exact List.cons_ne_nil _ _
set_option maxRecDepth 100000 in
set_option maxHeartbeats 4000000 in
theorem vwhole_any (n : Int) (w : World) : Calls Tryd.prog 95 #[.int .u64 (IntKind.u64.wrap n)] w (Ret1 (.string (putS n 8)) w) := by
  have hcv := run_cv_oct n 8 (by omega) 0 rfl w w.heap.size rfl _ 163 rfl
  simp only [oct8, List.map_cons, List.map_nil] at hcv
  go_enter Tryd.func95, Tryd.ntmps95
  go_wp2_with fail
  refine wp_loop_rounds 9 ?_
  rw [rounds_succ]; go_wp2_with fail
  rw [rounds_succ]; go_wp2_with fail
  rw [rounds_succ]; go_wp2_with fail
  rw [rounds_succ]; go_wp2_with fail
  rw [rounds_succ]; go_wp2_with fail
  rw [rounds_succ]; go_wp2_with fail
  rw [rounds_succ]; go_wp2_with fail
  rw [rounds_succ]; go_wp2_with fail
  rw [rounds_succ]; go_wp2_with fail
  go_ret
  exact ⟨rfl, (Ext.refl w).alloc _⟩
set_option maxRecDepth 100000 in
set_option maxHeartbeats 2000000 in
theorem vknown_any (k : Int) (w : World) :
    Calls Tryd.prog 73 #[.int .i64 k] w (Ret (.bool (knownF k)) w) := by
  go_enter Tryd.func73, Tryd.ntmps73
  have hst0 := St.start w
  refine wp_seq (wp_region_P [0] [.k 2 (.bool false)] [(2, 0, 1, 3)] hst0 fun W1 hst1 => ?_)
  refine then_normal (wp_seq (wp_region_P [0, 1, 3, 7, 15, 31, 63] [.k 3 (vi k), .k 4 (.bool (decide (0 ≤ k))), .k 5 (.bool (decide (0 ≤ k))), .z 6 (decide (0 ≤ k)) (vi k), .z 7 (decide (0 ≤ k)) (.bool (decide (k ≤ 2))), tA 8 (decide (0 ≤ k)) (decide (k ≤ 2)), .k 2 (.bool ((decide (0 ≤ k)) && (decide (k ≤ 2))))] [(2, 6, 1, 3), (0, 0, 6, 6)] hst1 fun W2 hst2 => ?_))
  refine then_normal (wp_ret ?_)
  refine bodyPost_ret (v := .bool ((decide (0 ≤ k)) && (decide (k ≤ 2)))) (results_tmp Tryd.results73 rfl) rfl ?_
  exact Ret.bool (by simp_all [knownF] <;> omega) hst2.ext
set_option maxRecDepth 100000 in
set_option maxHeartbeats 2000000 in
theorem vright_any (v : Val) (w : World) :
    Calls Tryd.prog 87 #[.agg #[.int .i64 v.1, .int .i64 v.2.1, .string v.2.2]] w (Ret (.bool (vrightF v)) w) := by
  go_enter Tryd.func87, Tryd.ntmps87
  have hst0 := St.start w
  refine wp_seq (wp_region_Y [0, 0] [] [[0]] [] [.a 1, .k 2 (.bool false)] (fun ix σ β X => match ix with | 0 => σ 1 = vp (pb (β 1)) ∧ X 0 = eB (pb (β 1)) 82 #[vi v.1, vi v.2.1, .string v.2.2] | _ => True) [0] [0] [(1, 0, 2, 3)] hst0 ?_ ?_ ?_)
  · exact fun ix _ _ _ _ _ _ hs hb hx h => match ix, h with
    | 0, h => by dsimp only at h ⊢; rw [← hs 1 rfl, ← hb 1 rfl, ← hx 0 rfl]; exact h
    | _ + 1, _ => trivial
  · refine ⟨?_, trivial⟩
    · refine sv_any rfl rfl fun ρ β W X cx => ?_
      exact dv_box (cs := #[vi v.1, vi v.2.1, .string v.2.2]) rfl (cx.ou 0) rfl rfl rfl (fun σ β' X' hs hb hv hx => ⟨hv, hx⟩)
  intro σ β X W1 hD hst1 fr hfr
  obtain ⟨B1_1, hu_B1_1⟩ : ∃ z, pb (β 1) = z := ⟨_, rfl⟩
  simp only [exq 0 ((dTn (hD 0 lq)).2), hu_B1_1] at hst1
  simp only [ed 1 ((dTn (hD 0 lq)).1), hu_B1_1] at hfr
  clear hD hu_B1_1; subst hfr; clear σ β X
  refine then_normal (wp_seq (wp_region_Z [0, 1, 3, 7, 15, 31, 63, 127, 255, 511, 1023, 2047, 4095, 8191, 16383] [[], [0], [], [], [], [0], [], [], [], [0]] [.k 3 (vp B1_1), .c 4 (vi v.1), .c 5 (.bool (knownF v.1)), .k 6 (.bool (knownF v.1)), .z 7 (knownF v.1) (vp B1_1), .y 8 (knownF v.1) (vi v.1), .z 9 (knownF v.1) (.bool (v.1 != 2)), .z 10 (knownF v.1) (.bool (v.1 != 2)), .z 11 ((knownF v.1) && (!(v.1 != 2))) (.pointer (some ⟨B1_1, 2, none⟩)), .y 12 ((knownF v.1) && (!(v.1 != 2))) (.string v.2.2), .z 13 ((knownF v.1) && (!(v.1 != 2))) (vi ((v.2.2.size : Int))), .z 14 ((knownF v.1) && (!(v.1 != 2))) (.bool (decide ((v.2.2.size : Int) ≤ 40))), .y 15 (knownF v.1) (.bool ((v.1 != 2) || (decide ((v.2.2.size : Int) ≤ 40)))), tA 16 (knownF v.1) ((v.1 != 2) || (decide ((v.2.2.size : Int) ≤ 40))), .k 2 (.bool ((knownF v.1) && ((v.1 != 2) || (decide ((v.2.2.size : Int) ≤ 40)))))] [0] [1, 2, 5, 9, 12] [(2, 14, 1, 3), (0, 0, 14, 14)] hst1 ?_ fun W2 hst2 => ?_))
  · refine ⟨?_, ?_, ?_, ?_, ?_, trivial⟩
    · exact xs4 rfl id fun cx => run_load1 rfl (by kernel_rfl) (cx.an 0) ((cx.bi 0 rfl).cell 0)
    · exact xsc rfl id rfl rfl fun cx => ⟨_, vknown_any v.1 _, (map1 (cx.an 1))⟩
    · exact m2 rfl (fun _ _ _ h => h) (fun cx => (cx.an 3)) fun cx hq => run_load1 rfl (by kernel_rfl) (mbv (cx.an 4) hq) ((cx.bi 0 rfl).cell 0)
    · exact m0 rfl (fun _ _ _ h => h) (fun cx => (cx.an 7)) fun cx hq => run_load1 rfl (by kernel_rfl) (mbv (cx.an 8) hq) ((cx.bi 0 rfl).cell 2)
    · exact m2 rfl (fun _ _ _ h => h) (fun cx => (cx.an 3)) fun cx hq => run_pick_or rfl (mbv (cx.an 7) hq) (cx.co _) (cx.an 11) (fun e_ => by rw [hq, e_]; rfl)
  refine then_normal (wp_ret ?_)
  refine bodyPost_ret (v := .bool ((knownF v.1) && ((v.1 != 2) || (decide ((v.2.2.size : Int) ≤ 40))))) (results_tmp Tryd.results87 rfl) rfl ?_
  exact Ret.bool (by simp only [vrightF]; congr 2; exact decide_eq_decide.2 (by omega)) hst2.ext
set_option maxRecDepth 100000 in
set_option maxHeartbeats 2000000 in
theorem vrow_any (RA : Option Addr) (rc : Nat) (r : List Val) (w : World) (hA : At w RA (flatR r)) (hlr : r.length ≤ 9223372036854775807) :
    Calls Tryd.prog 93 #[.slice RA r.length rc] w (Ret (.bool (rrightF r)) w) := by
  go_enter Tryd.func93, Tryd.ntmps93
  have hst0 := St.start w
  refine wp_seq (wp_region_P [0] [.k 2 (.bool false)] [(2, 0, 1, 3)] hst0 fun W1 hst1 => ?_)
  refine then_normal (wp_seq (wp_seq (wp_region_P [0, 1, 0] [.k 5 (.slice RA r.length rc), .k 6 (vi ((r.length : Int))), .k 7 (vi 0)] [(5, 0, 3, 8)] hst1 fun W2 hst2 => ?_)))
  refine then_normal (wp_block ?_)
  refine wp_loopN (fun mz az W => ∃ k : Nat, k ≤ r.length ∧ (r.take k).all vrightF = true ∧ mz = r.length - k ∧ az = ⟨#[.slice RA r.length rc, undef, jv az 2, undef, jv az 4, .slice RA r.length rc, vi ((r.length : Int)), vi ((k : Int)), jv az 8, jv az 9, jv az 10, jv az 11, jv az 12, jv az 13, jv az 14, undef, undef, undef], []⟩ ∧ St w [] [] W) (r.length - 0) ?_ ?_
  · -- the loop begins
    have hp4 := hst2.pick [] (by decide) rfl
    exact ⟨0, by omega, rfl, rfl, (by kernel_rfl), hp4⟩
  rintro n3 a3 W3 ⟨k, hkl, hka, rfl, hj_, hst3⟩
  obtain ⟨u3_, hu_⟩ : ∃ z, jv a3 = z := ⟨_, rfl⟩
  rw [hu_] at hj_; clear hu_; subst hj_
  refine wp_seq (wp_region_P [0] [.k 8 (.bool (decide ((k : Int) < (r.length : Int))))] [(8, 0, 1, 9)] hst3 fun W5 hst5 => ?_)
  refine then_normal (wp_seq ?_)
  rcases Bool.eq_false_or_eq_true (decide ((k : Int) < (r.length : Int))) with hs6 | hs6
  · skip
    have hs6p : (k : Int) < (r.length : Int) := by simpa using hs6
    refine wp_cond_true (show Act.eval _ _ = .bool true from (congrArg Value.bool hs6)) (wp_skip (then_normal (wp_seq (wp_block (wp_seq (wp_region_Y [0, 1, 0, 7] [[], [], [], [0]] [[], [], [0], [1]] [[], [], [], [0]] [.c 9 (.pointer (some ((ad RA).add (k * 3)))), .c 10 (.agg #[vi ((r.getD k v0).1), vi ((r.getD k v0).2.1), .string ((r.getD k v0).2.2)]), .a 4, .n] (fun ix σ β X => match ix with | 0 => True | 1 => True | 2 => σ 4 = vp (pb (β 4)) ∧ X 0 = eB (pb (β 4)) 82 #[vi 0, vi 0, .string ByteArray.empty] | 3 => X 1 = eB (pb (β 4)) 82 #[vi ((r.getD k v0).1), vi ((r.getD k v0).2.1), .string ((r.getD k v0).2.2)] | _ => True) [1] [0, 1, 2, 3] [(4, 2, 1, 5), (4, 0, 2, 6)] hst5 ?_ ?_ ?_))))))
    · exact fun ix _ _ _ _ _ _ hs hb hx h => match ix, h with
      | 2, h => by dsimp only at h ⊢; rw [← hs 4 rfl, ← hb 4 rfl, ← hx 0 rfl]; exact h
      | 3, h => by dsimp only at h ⊢; rw [← hb 4 rfl, ← hx 1 rfl]; exact h
      | 0, _ | 1, _ | _ + 4, _ => trivial
    · refine ⟨?_, ?_, ?_, ?_, trivial⟩
      · exact xs4 rfl id fun cx => run_indexSlM (e := 82) (m := k) (sz := 3) rfl (by kernel_rfl) (by kernel_rfl) (cx.ou 5) (cx.ou 7) (by omega) (by omega) (hA.ext cx.upd.to_ext) (by have h_ := flatLen (f := cellsV) (sz := 3) cellsV_len r; show 0 < (List.flatMap cellsV r).length; omega)
      · exact xs4 rfl id fun cx => run_loadElt (f := cellsV) (m := k) (sz := 3) (off := 0) (n := 3) rfl (by kernel_rfl) (by kernel_rfl) (cx.an 0) rfl cellsV_len (hA.ext cx.upd.to_ext) (getD_some (ts := r) (m := k) v0 (by omega)) (fun k hk => match k, hk with | 0, _ => rfl | 1, _ => rfl | 2, _ => rfl | k + 3, hk => absurd hk (by omega))
      · refine sv_any rfl rfl fun ρ β W X cx => ?_
        exact dv_alloc (cs := #[vi 0, vi 0, .string ByteArray.empty]) rfl (by kernel_rfl) rfl rfl (fun σ β' X' hs hb hv hx => ⟨hv, hx⟩)
      · refine sv_any rfl rfl fun ρ β W X cx => ?_
        exact dv_store (n := 3) rfl (dTn (cx.an 2)).1 (cx.an 1) (by kernel_rfl) (by kernel_rfl) (by kernel_rfl) cx (dTn (cx.an 2)).2 rfl (nle rfl) (by kernel_rfl) rfl rfl rfl (fun σ β' X' hs hb hx => by rw [hb 4]; exact hx)
    intro σ β X W7 hD hst7 fr hfr
    obtain ⟨B4_7, hu_B4_7⟩ : ∃ z, pb (β 4) = z := ⟨_, rfl⟩
    simp only [exq 1 ((dTn (hD 3 lq))), hu_B4_7] at hst7
    simp only [ed 4 ((dTn (hD 2 lq)).1), hu_B4_7] at hfr
    clear hD hu_B4_7; subst hfr; clear σ β X
    refine then_normal (wp_seq (wp_region_Z [0, 1, 3] [[0]] [.c 11 (.agg #[vi ((r.getD k v0).1), vi ((r.getD k v0).2.1), .string ((r.getD k v0).2.2)]), .c 12 (.bool (vrightF (r.getD k v0))), .k 13 (.bool (!(vrightF (r.getD k v0))))] [0] [0, 1] [(11, 0, 3, 14)] hst7 ?_ fun W8 hst8 => ?_))
    · refine ⟨?_, ?_, trivial⟩
      · exact xs4 rfl id fun cx => run_loadB (n := 3) rfl (by kernel_rfl) (by kernel_rfl) (cx.ou 4) (cx.bi 0 rfl) (nle rfl) rfl
      · exact xsc rfl id rfl rfl fun cx => ⟨_, vright_any (r.getD k v0) _, (map1 (cx.an 0))⟩
    refine then_normal ?_
    rcases Bool.eq_false_or_eq_true (vrightF (r.getD k v0)) with hs9 | hs9
    · skip
      refine wp_cond_false (show Act.eval _ _ = .bool false from (congrArg Value.bool (by rw [hs9]; rfl))) (wp_skip (blk_normal (then_normal (wp_region_P [0, 1] [tI 14 ((k : Int) + 1) (by omega), .k 7 (vi ((k : Int) + 1))] [(7, 1, 1, 8), (6, 0, 1, 7)] hst8 fun W10 hst10 => ?_))))
      refine then_normal ?_
      refine ⟨r.length - ((k + 1)), by omega, ?_⟩
      have hp11 := hst10.pick [] (by decide) rfl
      exact ⟨(k + 1), by omega, rright_step (by omega) hka hs9, rfl, (by kernel_rfl), hp11⟩
    refine wp_cond_true (show Act.eval _ _ = .bool true from (congrArg Value.bool (by rw [hs9]; rfl))) (wp_seq (wp_region_P [0] [.k 2 (.bool false)] [(2, 0, 1, 3)] hst8 fun W12 hst12 => ?_))
    refine then_normal (wp_ret (blk_ret (then_ret (then_ret (blk_ret (then_ret ?_))))))
    refine bodyPost_ret (v := .bool false) (results_tmp Tryd.results93 rfl) rfl ?_
    exact Ret.bool (rright_bad (by omega) hs9).symm hst12.ext
  have hs6p : ¬ ((k : Int) < (r.length : Int)) := by simpa using hs6
  refine wp_cond_false (show Act.eval _ _ = .bool false from (congrArg Value.bool hs6)) (wp_exit (then_exit (then_exit (blk_eq (then_normal (wp_seq (wp_region_P [0, 1, 3, 7] [.k 15 (.slice RA r.length rc), .k 16 (vi ((r.length : Int))), .k 17 (.bool (decide ((r.length : Int) ≤ 6))), .k 2 (.bool (decide ((r.length : Int) ≤ 6)))] [(2, 3, 1, 3), (12, 0, 3, 15)] hst5 fun W13 hst13 => ?_)))))))
  refine then_normal (wp_ret ?_)
  refine bodyPost_ret (v := .bool (decide ((r.length : Int) ≤ 6))) (results_tmp Tryd.results93 rfl) rfl ?_
  exact Ret.bool ((rright_end (by omega) hka).trans (by simp only [decide_eq_decide]; omega)).symm hst13.ext
end
end Go.Proofs.YtjnplglnnamfdaaDoor
namespace Go.Proofs.YtjnplglnnamfdaaDoor
section
open Go.RowKit
set_option linter.unusedVariables false
set_option linter.unusedSimpArgs false
set_option maxRecDepth 100000 in
set_option maxHeartbeats 2000000 in
theorem vbytes_any (RA : Option Addr) (rc : Nat) (r : List Val) (w : World) (hA : At w RA (flatR r)) (hlr : r.length ≤ 9223372036854775807) :
    Calls Tryd.prog 63 #[.slice RA r.length rc] w (Ret (.string (vbytesF r)) w) := by
  go_enter Tryd.func63, Tryd.ntmps63
  have hst0 := St.start w
  refine wp_seq (wp_region_P [0] [.k 2 (.string ⟨#[]⟩)] [(2, 0, 1, 3)] hst0 fun W1 hst1 => ?_)
  refine then_normal (wp_seq (wp_seq (wp_region_Z [0, 1, 3] [] [.k 6 (.slice RA r.length rc), .c 7 (.bool (rrightF r)), .k 8 (.bool (!(rrightF r)))] [] [1] [(6, 0, 3, 9)] hst1 ?_ fun W2 hst2 => ?_)))
  · refine ⟨?_, trivial⟩
    · exact xsc rfl id rfl rfl fun cx => ⟨_, vrow_any _ _ r _ (hA.ext cx.upd.to_ext) (by omega), (map1 (cx.an 0))⟩
  refine then_normal ?_
  rcases Bool.eq_false_or_eq_true (rrightF r) with hs3 | hs3
  · skip
    refine wp_cond_false (show Act.eval _ _ = .bool false from (congrArg Value.bool (by rw [hs3]; rfl))) (wp_skip (then_normal (wp_seq ?_)))
    have hr6 := rright_len hs3
    have hR := Lib.hid hs3
    refine wp_region_Y [0] [] [[0]] [] [.a 3] (fun ix σ β X => match ix with | 0 => σ 3 = vp (pb (β 3)) ∧ X 0 = eB (pb (β 3)) 157 #[.pointer none, .slice none 0 0] | _ => True) [0] [0] [(3, 0, 1, 4)] hst2 ?_ ?_ ?_
    · exact fun ix _ _ _ _ _ _ hs hb hx h => match ix, h with
      | 0, h => by dsimp only at h ⊢; rw [← hs 3 rfl, ← hb 3 rfl, ← hx 0 rfl]; exact h
      | _ + 1, _ => trivial
    · refine ⟨?_, trivial⟩
      · refine sv_any rfl rfl fun ρ β W X cx => ?_
        exact dv_alloc (cs := #[.pointer none, .slice none 0 0]) rfl (by kernel_rfl) rfl rfl (fun σ β' X' hs hb hv hx => ⟨hv, hx⟩)
    intro σ β X W4 hD hst4 fr hfr
    obtain ⟨B3_4, hu_B3_4⟩ : ∃ z, pb (β 3) = z := ⟨_, rfl⟩
    simp only [exq 0 ((dTn (hD 0 lq)).2), hu_B3_4] at hst4
    simp only [ed 3 ((dTn (hD 0 lq)).1), hu_B3_4] at hfr
    clear hD hu_B3_4; subst hfr; clear σ β X
    refine then_normal (wp_seq (wp_region_Y [0, 1, 3, 7] [[], [], [], [0]] [[], [], [], [1]] [[], [], [], [0]] [.k 9 (.slice RA r.length rc), .k 10 (vi ((r.length : Int))), tW 11 .u8 (r.length : Int) (r.length : Int) (IntWalk.u8_in _ (by omega)), .a 12] (fun ix σ β X => match ix with | 0 => True | 1 => True | 2 => True | 3 => σ 12 = .nilIface ∧ X 1 = eBu B3_4 (rO (X 1)) [UInt8.ofNat (r.length : Int).toNat] | _ => True) [1] [3] [(9, 0, 4, 13)] hst4 ?_ ?_ ?_))
    · exact fun ix _ _ _ _ _ _ hs hb hx h => match ix, h with
      | 3, h => by dsimp only at h ⊢; rw [← hs 12 rfl, ← hx 1 rfl]; exact h
      | 0, _ | 1, _ | 2, _ | _ + 4, _ => trivial
    · refine ⟨?_, trivial⟩
      · refine sv_any rfl rfl fun ρ β W X cx => ?_
        refine DoesU.call (run_callF (args := #[vp B3_4, .int .u8 ((r.length : Int))]) rfl cx.sees rfl (by kernel_rfl) (map2 (cx.ou 3) (cx.an 2))) ?_
        refine (sbc_l _ _ [] _ _ (SbAt.fresh (cx.bi 0 rfl)) (by omega) (by (try simp only [List.length_append, List.length_cons, List.length_nil]); omega)).mono ?_
        rintro e W1 ⟨rfl, hu⟩
        refine ⟨_, rfl, post_sb (by rw [(cx.init 0 _ rfl)]; rfl) rfl rfl hu (fun σ β' X' hs hb hv hx => ?_)⟩
        exact ⟨(hv 12 rfl).1, hx⟩
    intro σ β X W5 hD hst5 fr hfr
    have xX1 : X 1 = _ := (dTn (hD 3 lq)).2
    obtain ⟨r1_5, hu_r1_5⟩ : ∃ z, rO (X 1) = z := ⟨_, rfl⟩
    rw [hu_r1_5] at xX1
    clear hu_r1_5
    simp only [xX1] at hst5
    simp only [ed 12 ((dTn (hD 3 lq)).1)] at hfr
    clear hD xX1; subst hfr; clear σ β X
    refine then_normal (wp_seq (wp_seq (wp_region_P [0, 1, 0] [.k 13 (.slice RA r.length rc), .k 14 (vi ((r.length : Int))), .k 15 (vi 0)] [(13, 0, 3, 16)] hst5 fun W6 hst6 => ?_)))
    refine then_normal (wp_block ?_)
    refine wp_loopN (fun mz az W => ∃ k : Nat, ∃ rb : Option Nat, k ≤ r.length ∧ mz = r.length - k ∧ az = ⟨#[.slice RA r.length rc, undef, .string ⟨#[]⟩, vp B3_4, undef, jv az 5, .slice RA r.length rc, .bool (rrightF r), .bool (!(rrightF r)), .slice RA r.length rc, vi ((r.length : Int)), .int .u8 ((r.length : Int)), .nilIface, .slice RA r.length rc, vi ((r.length : Int)), vi ((k : Int)), jv az 16, jv az 17, jv az 18, jv az 19, jv az 20, jv az 21, jv az 22, jv az 23, jv az 24, jv az 25, jv az 26, jv az 27, jv az 28, jv az 29, jv az 30, jv az 31, jv az 32, jv az 33, jv az 34, jv az 35, jv az 36, jv az 37, jv az 38, jv az 39, jv az 40, jv az 41, jv az 42, undef], []⟩ ∧ St w [] [eBu B3_4 rb (bytesTo r k)] W) (r.length - 0) ?_ ?_
    · -- the loop begins
      have hp8 := hst6.pick [0] (by decide) rfl
      exact ⟨0, r1_5, by omega, rfl, (by kernel_rfl), hp8⟩
    rintro n7 a7 W7 ⟨k, rb, hkl, rfl, hj_, hst7⟩
    obtain ⟨u7_, hu_⟩ : ∃ z, jv a7 = z := ⟨_, rfl⟩
    rw [hu_] at hj_; clear hu_; subst hj_
    have hbl := bt_len hR.out k
    refine wp_seq (wp_region_P [0] [.k 16 (.bool (decide ((k : Int) < (r.length : Int))))] [(16, 0, 1, 17)] hst7 fun W9 hst9 => ?_)
    refine then_normal (wp_seq ?_)
    rcases Bool.eq_false_or_eq_true (decide ((k : Int) < (r.length : Int))) with hs10 | hs10
    · skip
      have hs10p : (k : Int) < (r.length : Int) := by simpa using hs10
      refine wp_cond_true (show Act.eval _ _ = .bool true from (congrArg Value.bool hs10)) (wp_skip (then_normal (wp_seq (wp_block (wp_seq (wp_region_Y [0, 1, 0, 7] [[], [], [], [1]] [[], [], [1], [2]] [[], [], [], [1]] [.c 17 (.pointer (some ((ad RA).add (k * 3)))), .c 18 (.agg #[vi ((r.getD k v0).1), vi ((r.getD k v0).2.1), .string ((r.getD k v0).2.2)]), .a 5, .n] (fun ix σ β X => match ix with | 0 => True | 1 => True | 2 => σ 5 = vp (pb (β 5)) ∧ X 1 = eB (pb (β 5)) 82 #[vi 0, vi 0, .string ByteArray.empty] | 3 => X 2 = eB (pb (β 5)) 82 #[vi ((r.getD k v0).1), vi ((r.getD k v0).2.1), .string ((r.getD k v0).2.2)] | _ => True) [0, 2] [0, 1, 2, 3] [(5, 2, 1, 6), (11, 0, 2, 13)] hst9 ?_ ?_ ?_))))))
      · exact fun ix _ _ _ _ _ _ hs hb hx h => match ix, h with
        | 2, h => by dsimp only at h ⊢; rw [← hs 5 rfl, ← hb 5 rfl, ← hx 1 rfl]; exact h
        | 3, h => by dsimp only at h ⊢; rw [← hb 5 rfl, ← hx 2 rfl]; exact h
        | 0, _ | 1, _ | _ + 4, _ => trivial
      · refine ⟨?_, ?_, ?_, ?_, trivial⟩
        · exact xs4 rfl id fun cx => run_indexSlM (e := 82) (m := k) (sz := 3) rfl (by kernel_rfl) (by kernel_rfl) (cx.ou 13) (cx.ou 15) (by omega) (by omega) (hA.ext cx.upd.to_ext) (by have h_ := flatLen (f := cellsV) (sz := 3) cellsV_len r; show 0 < (List.flatMap cellsV r).length; omega)
        · exact xs4 rfl id fun cx => run_loadElt (f := cellsV) (m := k) (sz := 3) (off := 0) (n := 3) rfl (by kernel_rfl) (by kernel_rfl) (cx.an 0) rfl cellsV_len (hA.ext cx.upd.to_ext) (getD_some (ts := r) (m := k) v0 (by omega)) (fun k hk => match k, hk with | 0, _ => rfl | 1, _ => rfl | 2, _ => rfl | k + 3, hk => absurd hk (by omega))
        · refine sv_any rfl rfl fun ρ β W X cx => ?_
          exact dv_alloc (cs := #[vi 0, vi 0, .string ByteArray.empty]) rfl (by kernel_rfl) rfl rfl (fun σ β' X' hs hb hv hx => ⟨hv, hx⟩)
        · refine sv_any rfl rfl fun ρ β W X cx => ?_
          exact dv_store (n := 3) rfl (dTn (cx.an 2)).1 (cx.an 1) (by kernel_rfl) (by kernel_rfl) (by kernel_rfl) cx (dTn (cx.an 2)).2 rfl (nle rfl) (by kernel_rfl) rfl rfl rfl (fun σ β' X' hs hb hx => by rw [hb 5]; exact hx)
      intro σ β X W11 hD hst11 fr hfr
      obtain ⟨B5_11, hu_B5_11⟩ : ∃ z, pb (β 5) = z := ⟨_, rfl⟩
      simp only [exq 2 ((dTn (hD 3 lq))), hu_B5_11] at hst11
      simp only [ed 5 ((dTn (hD 2 lq)).1), hu_B5_11] at hfr
      clear hD hu_B5_11; subst hfr; clear σ β X
      refine then_normal (wp_seq ?_)
      have hvp := vright_parts (rright_at hR.out (k := k) (by omega))
      have hps : (putS (r.getD k v0).2.1 8).size = 8 := putS_size _ 8 (by omega)
      refine wp_region_Y [0, 1, 3, 7] [[], [1], [], [0]] [[], [], [], [2]] [[], [], [], [0]] [.k 19 (vp B5_11), .c 20 (vi ((r.getD k v0).1)), tW 21 .u8 ((r.getD k v0).1) ((r.getD k v0).1) (IntWalk.u8_in _ (by omega)), .a 22] (fun ix σ β X => match ix with | 0 => True | 1 => True | 2 => True | 3 => σ 22 = .nilIface ∧ X 2 = eBu B3_4 (rO (X 2)) (bytesTo r k ++ [UInt8.ofNat ((r.getD k v0).1).toNat]) | _ => True) [1, 2] [1, 3] [(19, 0, 4, 23)] hst11 ?_ ?_ ?_
      · exact fun ix _ _ _ _ _ _ hs hb hx h => match ix, h with
        | 3, h => by dsimp only at h ⊢; rw [← hs 22 rfl, ← hx 2 rfl]; exact h
        | 0, _ | 1, _ | 2, _ | _ + 4, _ => trivial
      · refine ⟨?_, ?_, trivial⟩
        · exact xs4 rfl id fun cx => run_load1 rfl (by kernel_rfl) (cx.an 0) ((cx.bi 1 rfl).cell 0)
        · refine sv_any rfl rfl fun ρ β W X cx => ?_
          refine DoesU.call (run_callF (args := #[vp B3_4, .int .u8 ((r.getD k v0).1)]) rfl cx.sees rfl (by kernel_rfl) (map2 (cx.ou 3) (cx.an 2))) ?_
          refine (sbc_l _ _ (bytesTo r k) _ _ (cx.sb (cx.init 0 _ rfl) rfl) (by omega) (by (try simp only [List.length_append, List.length_cons, List.length_nil]); omega)).mono ?_
          rintro e W1 ⟨rfl, hu⟩
          refine ⟨_, rfl, post_sb (by rw [(cx.init 0 _ rfl)]; rfl) rfl rfl hu (fun σ β' X' hs hb hv hx => ?_)⟩
          exact ⟨(hv 22 rfl).1, hx⟩
      intro σ β X W12 hD hst12 fr hfr
      have xX2 : X 2 = _ := (dTn (hD 3 lq)).2
      obtain ⟨r2_12, hu_r2_12⟩ : ∃ z, rO (X 2) = z := ⟨_, rfl⟩
      rw [hu_r2_12] at xX2
      clear hu_r2_12
      simp only [xX2] at hst12
      simp only [ed 22 ((dTn (hD 3 lq)).1)] at hfr
      clear hD xX2; subst hfr; clear σ β X
      refine then_normal (wp_seq (wp_region_Z [0, 1] [[], [0]] [.k 23 (vp B5_11), .c 24 (vi ((r.getD k v0).1))] [0, 1] [1] [(23, 0, 2, 25)] hst12 ?_ fun W13 hst13 => ?_))
      · refine ⟨?_, trivial⟩
        · exact xs4 rfl id fun cx => run_load1 rfl (by kernel_rfl) (cx.an 0) ((cx.bi 0 rfl).cell 0)
      refine then_normal (wp_block (wp_seq (wp_region_P [0, 1] [.k 26 (.bool (((r.getD k v0).1) == 1)), .k 25 (.bool (((r.getD k v0).1) == 1))] [(25, 1, 1, 26), (0, 0, 1, 1)] hst13 fun W14 hst14 => ?_)))
      refine then_normal ?_
      rcases Bool.eq_false_or_eq_true (((r.getD k v0).1) == 1) with hs15 | hs15
      · skip
        have hs15p : ((r.getD k v0).1) = 1 := by simpa using hs15
        refine wp_cond_true (show Act.eval _ _ = .bool true from (congrArg Value.bool hs15)) (wp_region_Y [0, 1, 3, 7, 15] [[], [0], [], [], [1]] [[], [], [], [], [2]] [[], [], [], [], [1]] [.k 27 (.pointer (some ⟨B5_11, 1, none⟩)), .c 28 (vi ((r.getD k v0).2.1)), tW 29 .u64 ((r.getD k v0).2.1) (IntKind.u64.wrap ((r.getD k v0).2.1)) (rfl), .c 30 (.string (putS ((r.getD k v0).2.1) 8)), .a 31] (fun ix σ β X => match ix with | 0 => True | 1 => True | 2 => True | 3 => True | 4 => σ 31 = .tuple #[vi (((putS ((r.getD k v0).2.1) 8).size : Int)), .nilIface] ∧ X 2 = eBu B3_4 (rO (X 2)) ((bytesTo r k ++ [UInt8.ofNat ((r.getD k v0).1).toNat]) ++ (putS ((r.getD k v0).2.1) 8).data.toList) | _ => True) [0, 2] [1, 3, 4] [(27, 0, 5, 32)] hst14 ?_ ?_ ?_)
        · exact fun ix _ _ _ _ _ _ hs hb hx h => match ix, h with
          | 4, h => by dsimp only at h ⊢; rw [← hs 31 rfl, ← hx 2 rfl]; exact h
          | 0, _ | 1, _ | 2, _ | 3, _ | _ + 5, _ => trivial
        · refine ⟨?_, ?_, ?_, trivial⟩
          · exact xs4 rfl id fun cx => run_load1 rfl (by kernel_rfl) (cx.an 0) ((cx.bi 0 rfl).cell 1)
          · exact xsc rfl id rfl rfl fun cx => ⟨_, vwhole_any ((r.getD k v0).2.1) _, (map1 (cx.an 2))⟩
          · refine sv_any rfl rfl fun ρ β W X cx => ?_
            refine DoesU.call (run_callF (args := #[vp B3_4, .string (putS ((r.getD k v0).2.1) 8)]) rfl cx.sees rfl (by kernel_rfl) (map2 (cx.ou 3) (cx.an 3))) ?_
            refine (sbw_l _ _ (bytesTo r k ++ [UInt8.ofNat ((r.getD k v0).1).toNat]) _ _ (cx.sb (cx.init 1 _ rfl) rfl) (by (try simp only [List.length_append, List.length_cons, List.length_nil]); omega)).mono ?_
            rintro e W1 ⟨rfl, hu⟩
            refine ⟨_, rfl, post_sb (by rw [(cx.init 1 _ rfl)]; rfl) rfl rfl hu (fun σ β' X' hs hb hv hx => ?_)⟩
            exact ⟨(hv 31 rfl).1, hx⟩
        intro σ β X W16 hD hst16 fr hfr
        have xX2 : X 2 = _ := (dTn (hD 4 lq)).2
        obtain ⟨r2_16, hu_r2_16⟩ : ∃ z, rO (X 2) = z := ⟨_, rfl⟩
        rw [hu_r2_16] at xX2
        clear hu_r2_16
        simp only [xX2] at hst16
        simp only [ed 31 ((dTn (hD 4 lq)).1)] at hfr
        clear hD xX2; subst hfr; clear σ β X
        refine blk_normal (blk_normal (then_normal (wp_region_P [0, 1] [tI 42 ((k : Int) + 1) (by omega), .k 15 (vi ((k : Int) + 1))] [(15, 1, 1, 16), (26, 0, 1, 27)] hst16 fun W17 hst17 => ?_)))
        refine then_normal ?_
        have hq18 : (bytesTo r k ++ [UInt8.ofNat ((r.getD k v0).1).toNat]) ++ (putS ((r.getD k v0).2.1) 8).data.toList = bytesTo r (k + 1) := bt_int (by omega) (by simpa using hs15)
        rw [hq18] at hst17
        refine ⟨r.length - ((k + 1)), by omega, ?_⟩
        have hp19 := hst17.pick [1] (by decide) rfl
        exact ⟨(k + 1), r2_16, by omega, rfl, (by kernel_rfl), hp19⟩
      have hs15p : ((r.getD k v0).1) ≠ 1 := by simpa using hs15
      refine wp_cond_false (show Act.eval _ _ = .bool false from (congrArg Value.bool hs15)) (wp_seq (wp_region_P [0, 1] [.k 33 (.bool (((r.getD k v0).1) == 2)), .k 32 (.bool (((r.getD k v0).1) == 2))] [(32, 1, 1, 33), (0, 0, 1, 1)] hst14 fun W20 hst20 => ?_))
      refine then_normal ?_
      rcases Bool.eq_false_or_eq_true (((r.getD k v0).1) == 2) with hs21 | hs21
      · skip
        have hs21p : ((r.getD k v0).1) = 2 := by simpa using hs21
        refine wp_cond_true (show Act.eval _ _ = .bool true from (congrArg Value.bool hs21)) (wp_seq ?_)
        have hz40 : (r.getD k v0).2.2.size ≤ 40 := hvp.2.2 (by simpa using hs21)
        refine wp_region_Y [0, 1, 3, 7, 15] [[], [0], [], [], [1]] [[], [], [], [], [2]] [[], [], [], [], [1]] [.k 34 (.pointer (some ⟨B5_11, 2, none⟩)), .c 35 (.string ((r.getD k v0).2.2)), .k 36 (vi ((((r.getD k v0).2.2).size : Int))), tW 37 .u8 (((r.getD k v0).2.2).size : Int) (((r.getD k v0).2.2).size : Int) (IntWalk.u8_in _ (by omega)), .a 38] (fun ix σ β X => match ix with | 0 => True | 1 => True | 2 => True | 3 => True | 4 => σ 38 = .nilIface ∧ X 2 = eBu B3_4 (rO (X 2)) ((bytesTo r k ++ [UInt8.ofNat ((r.getD k v0).1).toNat]) ++ [UInt8.ofNat (((r.getD k v0).2.2).size : Int).toNat]) | _ => True) [0, 2] [1, 4] [(34, 0, 5, 39)] hst20 ?_ ?_ ?_
        · exact fun ix _ _ _ _ _ _ hs hb hx h => match ix, h with
          | 4, h => by dsimp only at h ⊢; rw [← hs 38 rfl, ← hx 2 rfl]; exact h
          | 0, _ | 1, _ | 2, _ | 3, _ | _ + 5, _ => trivial
        · refine ⟨?_, ?_, trivial⟩
          · exact xs4 rfl id fun cx => run_load1 rfl (by kernel_rfl) (cx.an 0) ((cx.bi 0 rfl).cell 2)
          · refine sv_any rfl rfl fun ρ β W X cx => ?_
            refine DoesU.call (run_callF (args := #[vp B3_4, .int .u8 ((((r.getD k v0).2.2).size : Int))]) rfl cx.sees rfl (by kernel_rfl) (map2 (cx.ou 3) (cx.an 3))) ?_
            refine (sbc_l _ _ (bytesTo r k ++ [UInt8.ofNat ((r.getD k v0).1).toNat]) _ _ (cx.sb (cx.init 1 _ rfl) rfl) (by omega) (by (try simp only [List.length_append, List.length_cons, List.length_nil]); omega)).mono ?_
            rintro e W1 ⟨rfl, hu⟩
            refine ⟨_, rfl, post_sb (by rw [(cx.init 1 _ rfl)]; rfl) rfl rfl hu (fun σ β' X' hs hb hv hx => ?_)⟩
            exact ⟨(hv 38 rfl).1, hx⟩
        intro σ β X W22 hD hst22 fr hfr
        have xX2 : X 2 = _ := (dTn (hD 4 lq)).2
        obtain ⟨r2_22, hu_r2_22⟩ : ∃ z, rO (X 2) = z := ⟨_, rfl⟩
        rw [hu_r2_22] at xX2
        clear hu_r2_22
        simp only [xX2] at hst22
        simp only [ed 38 ((dTn (hD 4 lq)).1)] at hfr
        clear hD xX2; subst hfr; clear σ β X
        refine then_normal (wp_region_Y [0, 1, 3] [[], [0], [1]] [[], [], [2]] [[], [], [1]] [.k 39 (.pointer (some ⟨B5_11, 2, none⟩)), .c 40 (.string ((r.getD k v0).2.2)), .a 41] (fun ix σ β X => match ix with | 0 => True | 1 => True | 2 => σ 41 = .tuple #[vi ((((r.getD k v0).2.2).size : Int)), .nilIface] ∧ X 2 = eBu B3_4 (rO (X 2)) (((bytesTo r k ++ [UInt8.ofNat ((r.getD k v0).1).toNat]) ++ [UInt8.ofNat (((r.getD k v0).2.2).size : Int).toNat]) ++ ((r.getD k v0).2.2).data.toList) | _ => True) [0, 2] [1, 2] [(39, 0, 3, 42)] hst22 ?_ ?_ ?_)
        · exact fun ix _ _ _ _ _ _ hs hb hx h => match ix, h with
          | 2, h => by dsimp only at h ⊢; rw [← hs 41 rfl, ← hx 2 rfl]; exact h
          | 0, _ | 1, _ | _ + 3, _ => trivial
        · refine ⟨?_, ?_, trivial⟩
          · exact xs4 rfl id fun cx => run_load1 rfl (by kernel_rfl) (cx.an 0) ((cx.bi 0 rfl).cell 2)
          · refine sv_any rfl rfl fun ρ β W X cx => ?_
            refine DoesU.call (run_callF (args := #[vp B3_4, .string ((r.getD k v0).2.2)]) rfl cx.sees rfl (by kernel_rfl) (map2 (cx.ou 3) (cx.an 1))) ?_
            refine (sbw_l _ _ ((bytesTo r k ++ [UInt8.ofNat ((r.getD k v0).1).toNat]) ++ [UInt8.ofNat (((r.getD k v0).2.2).size : Int).toNat]) _ _ (cx.sb (cx.init 1 _ rfl) rfl) (by (try simp only [List.length_append, List.length_cons, List.length_nil]); omega)).mono ?_
            rintro e W1 ⟨rfl, hu⟩
            refine ⟨_, rfl, post_sb (by rw [(cx.init 1 _ rfl)]; rfl) rfl rfl hu (fun σ β' X' hs hb hv hx => ?_)⟩
            exact ⟨(hv 41 rfl).1, hx⟩
        intro σ β X W23 hD hst23 fr hfr
        have xX2 : X 2 = _ := (dTn (hD 2 lq)).2
        obtain ⟨r2_23, hu_r2_23⟩ : ∃ z, rO (X 2) = z := ⟨_, rfl⟩
        rw [hu_r2_23] at xX2
        clear hu_r2_23
        simp only [xX2] at hst23
        simp only [ed 41 ((dTn (hD 2 lq)).1)] at hfr
        clear hD xX2; subst hfr; clear σ β X
        refine blk_normal (blk_normal (then_normal (wp_region_P [0, 1] [tI 42 ((k : Int) + 1) (by omega), .k 15 (vi ((k : Int) + 1))] [(15, 1, 1, 16), (26, 0, 1, 27)] hst23 fun W24 hst24 => ?_)))
        refine then_normal ?_
        have hq25 : ((bytesTo r k ++ [UInt8.ofNat ((r.getD k v0).1).toNat]) ++ [UInt8.ofNat (((r.getD k v0).2.2).size : Int).toNat]) ++ ((r.getD k v0).2.2).data.toList = bytesTo r (k + 1) := bt_text (by omega) (by simpa using hs15) (by simpa using hs21)
        rw [hq25] at hst24
        refine ⟨r.length - ((k + 1)), by omega, ?_⟩
        have hp26 := hst24.pick [1] (by decide) rfl
        exact ⟨(k + 1), r2_23, by omega, rfl, (by kernel_rfl), hp26⟩
      have hs21p : ((r.getD k v0).1) ≠ 2 := by simpa using hs21
      refine wp_cond_false (show Act.eval _ _ = .bool false from (congrArg Value.bool hs21)) (wp_skip (blk_normal (blk_normal (then_normal (wp_region_P [0, 1] [tI 42 ((k : Int) + 1) (by omega), .k 15 (vi ((k : Int) + 1))] [(15, 1, 1, 16), (26, 0, 1, 27)] hst20 fun W27 hst27 => ?_)))))
      refine then_normal ?_
      have hq28 : bytesTo r k ++ [UInt8.ofNat ((r.getD k v0).1).toNat] = bytesTo r (k + 1) := bt_none (by omega) (by simpa using hs15) (by simpa using hs21)
      rw [hq28] at hst27
      refine ⟨r.length - ((k + 1)), by omega, ?_⟩
      have hp29 := hst27.pick [1] (by decide) rfl
      exact ⟨(k + 1), r2_12, by omega, rfl, (by kernel_rfl), hp29⟩
    have hs10p : ¬ ((k : Int) < (r.length : Int)) := by simpa using hs10
    refine wp_cond_false (show Act.eval _ _ = .bool false from (congrArg Value.bool hs10)) (wp_exit (then_exit (then_exit (blk_eq (then_normal (wp_seq (wp_region_Y [0, 1] [[0]] [] [[0]] [.a 43, .c 2 (.string (strL (bytesTo r k)))] (fun ix σ β X => match ix with | 0 => σ 43 = .string (strL (bytesTo r k)) | _ => True) [] [0, 1] [(2, 1, 1, 3), (40, 0, 1, 41)] hst9 ?_ ?_ ?_)))))))
    · exact fun ix _ _ _ _ _ _ hs hb hx h => match ix, h with
      | 0, h => (hs _ rfl).symm.trans h
      | _ + 1, _ => trivial
    · refine ⟨?_, ?_, trivial⟩
      · refine sv_any rfl rfl fun ρ β W X cx => ?_
        refine DoesU.call (run_callF (args := #[vp B3_4]) rfl cx.sees rfl (by kernel_rfl) (map1 (cx.ou 3))) ?_
        refine (sbstr_l _ _ (bytesTo r k) _ (cx.sb (cx.init 0 _ rfl) rfl) (bt_ne r k) (by (try simp only [List.length_append, List.length_cons, List.length_nil]); omega)).mono ?_
        rintro e W1 ⟨rfl, hu⟩
        refine ⟨_, rfl, post_kill (by rw [(cx.init 0 _ rfl)]; rfl) rfl rfl hu (fun σ β' X' hs hb hv => ?_)⟩
        exact (hv 43 rfl).1
      · exact xs4 rfl id fun cx => run_assign' rfl (dTn (cx.an 0))
    intro σ β X W30 hD hst30 fr hfr
    simp only [ed 43 ((dTn (hD 0 lq)))] at hfr
    clear hD; subst hfr; clear σ β X
    refine then_normal (wp_ret ?_)
    refine bodyPost_ret (v := .string (strL (bytesTo r k))) (results_tmp Tryd.results63 rfl) rfl ?_
    exact ⟨by rw [vbytesF, if_pos hR.out, show r.length = k by omega], hst30.ext⟩
  refine wp_cond_true (show Act.eval _ _ = .bool true from (congrArg Value.bool (by rw [hs3]; rfl))) (wp_seq (wp_region_P [0] [.k 2 (.string ⟨#[]⟩)] [(2, 0, 1, 3)] hst2 fun W31 hst31 => ?_))
  refine then_normal (wp_ret (then_ret ?_))
  refine bodyPost_ret (v := .string ⟨#[]⟩) (results_tmp Tryd.results63 rfl) rfl ?_
  exact ⟨by rw [vbytesF, hs3]; rfl, hst31.ext⟩
end
end Go.Proofs.YtjnplglnnamfdaaDoor
namespace Go.Proofs
section
open Go.Shelf
open Go.RowKit in
def Tryd.lays156_ren : Go.Shelf.Ren := ⟨fun | 156 => 60 | 165 => 89 | 166 => 90 | 169 => 91 | 240 => 110 | 241 => 111 | 276 => 116 | 277 => 117 | n => n, fun | 31 => 84 | 9 => 9 | 3 => 3 | 4 => 4 | 0 => 0 | 20 => 20 | 72 => 157 | 76 => 161 | 70 => 155 | 37 => 143 | 75 => 160 | 127 => 179 | 164 => 182 | 5 => 5 | 80 => 145 | n => n, fun | n => n⟩
theorem Tryd.lays156 : Go.Proofs.Lays.n156 Tryd.prog Tryd.lays156_ren := {
  mixed := by kernel_rfl
  f156 := Tryd.func60.trans (congrArg some (by kernel_rfl))
  f165 := Tryd.func89.trans (congrArg some (by kernel_rfl))
  f166 := Tryd.func90.trans (congrArg some (by kernel_rfl))
  f169 := Tryd.func91.trans (congrArg some (by kernel_rfl))
  f240 := Tryd.func110.trans (congrArg some (by kernel_rfl))
  f241 := Tryd.func111.trans (congrArg some (by kernel_rfl))
  f276 := Tryd.func116.trans (congrArg some (by kernel_rfl))
  f277 := Tryd.func117.trans (congrArg some (by kernel_rfl))
  t0 := Tryd.underlying0
  a0 := Tryd.isAgg0
  z0 := Tryd.sizeOf0
  v0 := Tryd.zeroValue0
  t3 := Tryd.underlying3
  a3 := Tryd.isAgg3
  z3 := Tryd.sizeOf3
  v3 := Tryd.zeroValue3
  t4 := Tryd.underlying4
  a4 := Tryd.isAgg4
  z4 := Tryd.sizeOf4
  v4 := Tryd.zeroValue4
  t9 := Tryd.underlying9
  a9 := Tryd.isAgg9
  z9 := Tryd.sizeOf9
  v9 := Tryd.zeroValue9
  t20 := Tryd.underlying20
  a20 := Tryd.isAgg20
  z20 := Tryd.sizeOf20
  v20 := Tryd.zeroValue20
  t31 := Tryd.underlying84
  a31 := Tryd.isAgg84
  z31 := Tryd.sizeOf84
  v31 := Tryd.zeroValue84
  t37 := Tryd.underlying143
  a37 := Tryd.isAgg143
  z37 := Tryd.sizeOf143
  v37 := Tryd.zeroValue143
  t70 := Tryd.underlying155
  a70 := Tryd.isAgg155
  z70 := Tryd.sizeOf155
  v70 := Tryd.zeroValue155
  t72 := Tryd.underlying157
  a72 := Tryd.isAgg157
  z72 := Tryd.sizeOf157
  v72 := Tryd.zeroValue157
  t75 := Tryd.underlying160
  a75 := Tryd.isAgg160
  z75 := Tryd.sizeOf160
  v75 := Tryd.zeroValue160
  t76 := Tryd.underlying161
  a76 := Tryd.isAgg161
  z76 := Tryd.sizeOf161
  v76 := Tryd.zeroValue161
  t127 := Tryd.underlying179
  a127 := Tryd.isAgg179
  z127 := Tryd.sizeOf179
  v127 := Tryd.zeroValue179
  t164 := Tryd.underlying182
  a164 := Tryd.isAgg182
  z164 := Tryd.sizeOf182
  v164 := Tryd.zeroValue182 }
theorem Tryd.Builder_Extra_156 : Builder.Extra Tryd.prog Tryd.lays156_ren := {
  sizeBuilder := by kernel_rfl
  liesBuilder := by kernel_rfl
  t5 := Tryd.underlying5
  a5 := Tryd.isAgg5
  z5 := Tryd.sizeOf5
  v5 := Tryd.zeroValue5
  infoByte := by kernel_rfl
  cellsByte := by kernel_rfl
  sizeByte := by kernel_rfl
  neB5 := by decide }
open Go.RowKit in
open Go.RowKit in
theorem Tryd.strings_Join (bk o c : Nat) (xs : List ByteArray) (sep : ByteArray) (w : World) (hcells : ∀ (j : Nat) x, xs[j]? = some x → w.cell? ⟨bk, o + j, none⟩ = some (.string x)) (hbk : bk < w.heap.size) (hN : xs.length ≤ 140737488355328) (hcap : xs.length ≤ c) (hlen : (Lib.join (xs.map (·.data.toList)) sep.data.toList).length ≤ 140737488355328) :
    Calls Tryd.prog 60 #[.slice (some ⟨bk, o, none⟩) xs.length c, .string sep] w fun e w' => e = .returned (.string ⟨(Lib.join (xs.map (·.data.toList)) sep.data.toList).toArray⟩) ∧ Below w.heap.size w w' := Any.strings_Join Tryd.lays156 Tryd.Builder_Extra_156 bk o c xs sep w hcells hbk hN hcap hlen
open Go.RowKit in
end
end Go.Proofs
namespace Go.Proofs.YtjnplglnnamfdaaDoor
section
open Go.RowKit
set_option linter.unusedVariables false
set_option linter.unusedSimpArgs false
def idxBad (r : List Val) : Int := if r.all vrightF = true then -1 else ((r.takeWhile vrightF).length : Int)
theorem idx_bad {r : List Val} {k : Nat} (hk : k < r.length) (h : (r.take k).all vrightF = true) (h2 : vrightF (r.getD k v0) = false) : (k : Int) = idxBad r := by
  have hb : r.all vrightF = false := by
    rw [List.all_eq_false]
    rw [List.getD_eq_getElem?_getD, List.getElem?_eq_getElem hk] at h2
    exact ⟨r[k], List.getElem_mem hk, by simpa using h2⟩
  rw [idxBad, hb, if_neg (by simp)]
  congr 1
  have hs : r = r.take k ++ r[k] :: r.drop (k + 1) := by rw [List.getElem_cons_drop, List.take_append_drop]
  have e1 : r.takeWhile vrightF = r.take k := by
    conv => lhs; rw [hs]
    rw [List.takeWhile_append_of_pos (by rw [List.all_eq_true] at h; exact h)]
    rw [List.getD_eq_getElem?_getD, List.getElem?_eq_getElem hk] at h2
    rw [List.takeWhile_cons_of_neg (by simpa using h2), List.append_nil]
  rw [e1, List.length_take]; omega
theorem idx_none {r : List Val} {k : Nat} (hk : r.length ≤ k) (h : (r.take k).all vrightF = true) : (-1 : Int) = idxBad r := by
  rw [List.take_of_length_le hk] at h
  rw [idxBad, if_pos h]
theorem idx_ge (r : List Val) : decide (0 ≤ idxBad r) = !(r.all vrightF) := by
  rw [idxBad]
  cases h : r.all vrightF with
  | true => simp
  | false => simp
theorem Ext.below_ {x z : World} (k : Below x.heap.size x z) : Ext x z :=
  ⟨k.os, k.tape, k.output, k.size, fun i hi => k.block i hi⟩
def catS (l : List ByteArray) : ByteArray := strL (l.flatMap fun s => s.data.toList)
theorem join_any (v : Value) (xs : List ByteArray) (w : World) (hown : w.ownsRow 0 9 1 v xs.length (xs.map Value.string)) (hne : 0 < xs.length) (hlen : ∀ s ∈ xs, s.size ≤ 1000000) (hN : xs.length ≤ 100) :
    Calls Tryd.prog 60 #[v, .string ⟨#[]⟩] w (Ret (.string (catS xs)) w) := by
  have hlt := hown.lt
  rcases hown.2 with ⟨hv, h0⟩ | ⟨g, cap, cur, hv, hb, hg, hle, hmx, hcs, htk⟩
  · omega
  · subst hv
    have hj : Lib.join (xs.map (·.data.toList)) [] = xs.flatMap fun s => s.data.toList := by
      rw [Lib.join, List.intercalate]
      have : ∀ l : List (List UInt8), (List.intersperse [] l).flatten = l.flatten := by
        intro l
        induction l with
        | nil => rfl
        | cons a l ih =>
          cases l with
          | nil => rfl
          | cons b l => rw [List.intersperse_cons_cons, List.flatten_cons, List.flatten_cons, ih]; simp
      rw [this, List.flatMap_def]
    have hl : ∀ l : List ByteArray, (∀ s ∈ l, s.size ≤ 1000000) → (l.flatMap fun s => s.data.toList).length ≤ l.length * 1000000 := by
      intro l
      induction l with
      | nil => simp
      | cons a l ih =>
        intro h
        have h1 := ih fun s hs => h s (by simp [hs])
        have h2 : a.data.toList.length ≤ 1000000 := by rw [Array.length_toList]; exact h a (by simp)
        rw [List.flatMap_cons, List.length_append, List.length_cons, Nat.add_mul]
        omega
    have hl' := hl xs hlen
    refine (Tryd.strings_Join g 0 cap xs ⟨#[]⟩ w (fun j x hx => ?_) (hlt g rfl).2 (by omega) (by omega) ?_).mono ?_
    · have hjl := (List.getElem?_eq_some_iff.1 hx).1
      rw [Nat.zero_add, hown.cellAt j (by simpa using hjl)]
      simp [hx]
    · show (Lib.join (xs.map (·.data.toList)) []).length ≤ _
      rw [hj]
      have : xs.length * 1000000 ≤ 100 * 1000000 := Nat.mul_le_mul_right _ hN
      omega
    · rintro e w' ⟨rfl, hb⟩
      refine ⟨?_, Ext.below_ hb⟩
      show Ending.returned (.string ⟨(Lib.join (xs.map (·.data.toList)) []).toArray⟩) = _
      rw [hj]
      rfl
def onZ (b : Int) : Bool := b == 0 || onF b
def tnextF (n1 n2 : Int) : Bool := (n1 == -1 && n2 == 0) || (decide (0 ≤ n1) && decide (n1 < 400) && decide (0 ≤ n2) && decide (n2 < 24))
def trightF (a b n1 n2 : Int) (rs : List Val) : Bool := (a == 2 || onF a) && onZ b && tnextF n1 n2 && rrightF rs
def hotI (ho : Bool) : Int := if ho then 1 else 0
def tbytesF (a b n1 n2 : Int) (ho : Bool) (rs : List Val) : ByteArray :=
  if trightF a b n1 n2 rs = true then catS [putS a 1, putS b 1, putS (n1 + 1) 2, putS n2 1, putS (hotI ho) 1, textO (vbytesF rs)] else ByteArray.empty
theorem vbytes_size (r : List Val) : (vbytesF r).size ≤ 301 := by
  rw [vbytesF]
  split
  · rename_i h
    have := bt_len h r.length
    show (bytesTo r r.length).toArray.size ≤ 301
    simpa using this
  · exact Nat.zero_le _
theorem tright_parts {a b n1 n2 : Int} {rs : List Val} (h : trightF a b n1 n2 rs = true) : 0 ≤ a ∧ a < 128 ∧ 0 ≤ b ∧ b < 128 ∧ -1 ≤ n1 ∧ n1 < 400 ∧ 0 ≤ n2 ∧ n2 < 24 ∧ rrightF rs = true := by
  simp only [trightF, onZ, tnextF, onF, Bool.and_eq_true, Bool.or_eq_true, decide_eq_true_eq, beq_iff_eq] at h
  refine ⟨?_, ?_, ?_, ?_, ?_, ?_, ?_, ?_, h.2⟩ <;> omega
set_option maxRecDepth 100000 in
set_option maxHeartbeats 2000000 in
theorem trightv_any (v : Val) (w : World) :
    Calls Tryd.prog 86 #[.agg #[.int .i64 v.1, .int .i64 v.2.1, .string v.2.2]] w (Ret (.bool (!(vrightF v))) w) := by
  go_enter Tryd.func86, Tryd.ntmps86
  have hst0 := St.start w
  refine wp_seq (wp_region_Y [0, 0] [] [[0]] [] [.a 1, .k 2 (.bool false)] (fun ix σ β X => match ix with | 0 => σ 1 = vp (pb (β 1)) ∧ X 0 = eB (pb (β 1)) 82 #[vi v.1, vi v.2.1, .string v.2.2] | _ => True) [0] [0] [(1, 0, 2, 3)] hst0 ?_ ?_ ?_)
  · exact fun ix _ _ _ _ _ _ hs hb hx h => match ix, h with
    | 0, h => by dsimp only at h ⊢; rw [← hs 1 rfl, ← hb 1 rfl, ← hx 0 rfl]; exact h
    | _ + 1, _ => trivial
  · refine ⟨?_, trivial⟩
    · refine sv_any rfl rfl fun ρ β W X cx => ?_
      exact dv_box (cs := #[vi v.1, vi v.2.1, .string v.2.2]) rfl (cx.ou 0) rfl rfl rfl (fun σ β' X' hs hb hv hx => ⟨hv, hx⟩)
  intro σ β X W1 hD hst1 fr hfr
  obtain ⟨B1_1, hu_B1_1⟩ : ∃ z, pb (β 1) = z := ⟨_, rfl⟩
  simp only [exq 0 ((dTn (hD 0 lq)).2), hu_B1_1] at hst1
  simp only [ed 1 ((dTn (hD 0 lq)).1), hu_B1_1] at hfr
  clear hD hu_B1_1; subst hfr; clear σ β X
  refine then_normal (wp_seq (wp_region_Z [0, 1, 3, 7] [[0]] [.c 3 (.agg #[vi v.1, vi v.2.1, .string v.2.2]), .c 4 (.bool (vrightF (v.1, v.2.1, v.2.2))), .k 5 (.bool (!(vrightF (v.1, v.2.1, v.2.2)))), .k 2 (.bool (!(vrightF (v.1, v.2.1, v.2.2))))] [0] [0, 1] [(2, 3, 1, 3), (0, 0, 3, 3)] hst1 ?_ fun W2 hst2 => ?_))
  · refine ⟨?_, ?_, trivial⟩
    · exact xs4 rfl id fun cx => run_loadB (n := 3) rfl (by kernel_rfl) (by kernel_rfl) (cx.ou 1) (cx.bi 0 rfl) (nle rfl) rfl
    · exact xsc rfl id rfl rfl fun cx => ⟨_, vright_any (v.1, v.2.1, v.2.2) _, (map1 (cx.an 0))⟩
  refine then_normal (wp_ret ?_)
  refine bodyPost_ret (v := .bool (!(vrightF (v.1, v.2.1, v.2.2)))) (results_tmp Tryd.results86 rfl) rfl ?_
  exact Ret.of rfl hst2.ext
set_option maxRecDepth 100000 in
set_option maxHeartbeats 2000000 in
theorem indexf_any (RA : Option Addr) (rc : Nat) (r : List Val) (w : World) (hA : At w RA (flatR r)) (hlr : r.length ≤ 9223372036854775807) :
    Calls Tryd.prog 109 #[.slice RA r.length rc, .func (.func 86) #[] #[]] w (Ret (.int .i64 (idxBad r)) w) := by
  go_enter Tryd.func109, Tryd.ntmps109
  have hst0 := St.start w
  refine wp_seq (wp_region_P [0] [.k 4 (vi 0)] [(4, 0, 1, 5)] hst0 fun W1 hst1 => ?_)
  refine then_normal (wp_seq (wp_seq (wp_region_P [0, 1, 0] [.k 6 (.slice RA r.length rc), .k 7 (vi ((r.length : Int))), .k 8 (vi 0)] [(6, 0, 3, 9)] hst1 fun W2 hst2 => ?_)))
  refine then_normal (wp_block ?_)
  refine wp_loopN (fun mz az W => ∃ k : Nat, k ≤ r.length ∧ (r.take k).all vrightF = true ∧ mz = r.length - k ∧ az = ⟨#[.slice RA r.length rc, .func (.func 86) #[] #[], undef, undef, jv az 4, jv az 5, .slice RA r.length rc, vi ((r.length : Int)), vi ((k : Int)), jv az 9, jv az 10, jv az 11, jv az 12, jv az 13, jv az 14, jv az 15, jv az 16, jv az 17, jv az 18], []⟩ ∧ St w [] [] W) (r.length - 0) ?_ ?_
  · -- the loop begins
    have hp4 := hst2.pick [] (by decide) rfl
    exact ⟨0, by omega, rfl, rfl, (by kernel_rfl), hp4⟩
  rintro n3 a3 W3 ⟨k, hkl, hka, rfl, hj_, hst3⟩
  obtain ⟨u3_, hu_⟩ : ∃ z, jv a3 = z := ⟨_, rfl⟩
  rw [hu_] at hj_; clear hu_; subst hj_
  refine wp_seq (wp_region_P [0] [.k 9 (.bool (decide ((k : Int) < (r.length : Int))))] [(9, 0, 1, 10)] hst3 fun W5 hst5 => ?_)
  refine then_normal (wp_seq ?_)
  rcases Bool.eq_false_or_eq_true (decide ((k : Int) < (r.length : Int))) with hs6 | hs6
  · skip
    have hs6p : (k : Int) < (r.length : Int) := by simpa using hs6
    refine wp_cond_true (show Act.eval _ _ = .bool true from (congrArg Value.bool hs6)) (wp_skip (then_normal (wp_seq (wp_block (wp_seq (wp_region_P [0, 1] [.k 10 (vi ((k : Int))), .k 5 (vi ((k : Int)))] [(5, 1, 1, 6), (4, 0, 1, 5)] hst5 fun W7 hst7 => ?_))))))
    refine then_normal (wp_seq (wp_region_Z [0, 0, 0, 6, 14, 31] [] [.k 11 (.func (.func 86) #[] #[]), .k 12 (.slice RA r.length rc), .k 13 (vi ((k : Int))), .c 14 (.pointer (some ((ad RA).add (k * 3)))), .c 15 (.agg #[vi ((r.getD k v0).1), vi ((r.getD k v0).2.1), .string ((r.getD k v0).2.2)]), .c 16 (.bool (!(vrightF (r.getD k v0))))] [] [3, 4, 5] [(11, 0, 6, 17)] hst7 ?_ fun W8 hst8 => ?_))
    · refine ⟨?_, ?_, ?_, trivial⟩
      · exact xs4 rfl id fun cx => run_indexSlM (e := 82) (m := k) (sz := 3) rfl (by kernel_rfl) (by kernel_rfl) (cx.an 1) (cx.an 2) (by omega) (by omega) (hA.ext cx.upd.to_ext) (by have h_ := flatLen (f := cellsV) (sz := 3) cellsV_len r; show 0 < (List.flatMap cellsV r).length; omega)
      · exact xs4 rfl id fun cx => run_loadElt (f := cellsV) (m := k) (sz := 3) (off := 0) (n := 3) rfl (by kernel_rfl) (by kernel_rfl) (cx.an 3) rfl cellsV_len (hA.ext cx.upd.to_ext) (getD_some (ts := r) (m := k) v0 (by omega)) (fun k hk => match k, hk with | 0, _ => rfl | 1, _ => rfl | 2, _ => rfl | k + 3, hk => absurd hk (by omega))
      · exact sv_call rfl rfl rfl rfl rfl (fun _ _ _ h => h) fun ρ β W X cx => ⟨_, _, run_callV (f := 86) (args := #[.agg #[vi ((r.getD k v0).1), vi ((r.getD k v0).2.1), .string ((r.getD k v0).2.2)]]) (args' := #[.agg #[vi ((r.getD k v0).1), vi ((r.getD k v0).2.1), .string ((r.getD k v0).2.2)]]) rfl rfl (cx.an 0) (by kernel_rfl) (map1 (cx.an 4)) rfl, trightv_any (r.getD k v0) _⟩
    refine then_normal ?_
    rcases Bool.eq_false_or_eq_true (vrightF (r.getD k v0)) with hs9 | hs9
    · skip
      refine wp_cond_false (show Act.eval _ _ = .bool false from (congrArg Value.bool (by rw [hs9]; rfl))) (wp_skip (blk_normal (then_normal (wp_region_P [0, 1] [tI 18 ((k : Int) + 1) (by omega), .k 8 (vi ((k : Int) + 1))] [(8, 1, 1, 9), (9, 0, 1, 10)] hst8 fun W10 hst10 => ?_))))
      refine then_normal ?_
      refine ⟨r.length - ((k + 1)), by omega, ?_⟩
      have hp11 := hst10.pick [] (by decide) rfl
      exact ⟨(k + 1), by omega, rright_step (by omega) hka hs9, rfl, (by kernel_rfl), hp11⟩
    refine wp_cond_true (show Act.eval _ _ = .bool true from (congrArg Value.bool (by rw [hs9]; rfl))) (wp_seq (wp_region_P [0, 1] [.k 17 (vi ((k : Int))), .k 4 (vi ((k : Int)))] [(4, 1, 1, 5), (12, 0, 1, 13)] hst8 fun W12 hst12 => ?_))
    refine then_normal (wp_ret (blk_ret (then_ret (then_ret (blk_ret (then_ret ?_))))))
    refine bodyPost_ret (v := vi ((k : Int))) (results_tmp Tryd.results109 rfl) rfl ?_
    exact Ret.int (idx_bad (by omega) hka hs9) hst12.ext
  have hs6p : ¬ ((k : Int) < (r.length : Int)) := by simpa using hs6
  refine wp_cond_false (show Act.eval _ _ = .bool false from (congrArg Value.bool hs6)) (wp_exit (then_exit (then_exit (blk_eq (then_normal (wp_seq (wp_region_P [0] [.k 4 (vi (-1))] [(4, 0, 1, 5)] hst5 fun W13 hst13 => ?_)))))))
  refine then_normal (wp_ret ?_)
  refine bodyPost_ret (v := vi (-1)) (results_tmp Tryd.results109 rfl) rfl ?_
  exact Ret.int (idx_none (by omega) hka) hst13.ext
set_option maxRecDepth 100000 in
set_option maxHeartbeats 2000000 in
theorem containsf_any (RA : Option Addr) (rc : Nat) (r : List Val) (w : World) (hA : At w RA (flatR r)) (hlr : r.length ≤ 9223372036854775807) :
    Calls Tryd.prog 85 #[.slice RA r.length rc, .func (.func 86) #[] #[]] w (Ret (.bool (!(r.all vrightF))) w) := by
  go_enter Tryd.func85, Tryd.ntmps85
  have hst0 := St.start w
  refine wp_seq (wp_region_P [0] [.k 4 (.bool false)] [(4, 0, 1, 5)] hst0 fun W1 hst1 => ?_)
  refine then_normal (wp_seq (wp_region_Z [0, 0, 3, 7, 15] [] [.k 5 (.slice RA r.length rc), .k 6 (.func (.func 86) #[] #[]), .c 7 (vi (idxBad r)), .k 8 (.bool (decide (0 ≤ idxBad r))), .k 4 (.bool (decide (0 ≤ idxBad r)))] [] [2] [(4, 4, 1, 5), (0, 0, 4, 4)] hst1 ?_ fun W2 hst2 => ?_))
  · refine ⟨?_, trivial⟩
    · exact xsc rfl id rfl rfl fun cx => ⟨_, indexf_any _ _ r _ (hA.ext cx.upd.to_ext) (by omega), (map2 (cx.an 0) (cx.an 1))⟩
  refine then_normal (wp_ret ?_)
  refine bodyPost_ret (v := .bool (decide (0 ≤ idxBad r))) (results_tmp Tryd.results85 rfl) rfl ?_
  exact Ret.bool (idx_ge r) hst2.ext
set_option maxRecDepth 100000 in
set_option maxHeartbeats 2000000 in
theorem tright_any (a b n1 n2 : Int) (ho : Bool) (RA : Option Addr) (rc : Nat) (r : List Val) (w : World) (hA : At w RA (flatR r)) (hlr : r.length ≤ 9223372036854775807) (hN : NoneAt w) :
    Calls Tryd.prog 59 #[.agg #[.int .i64 a, .int .i64 b, .int .i64 n1, .int .i64 n2, .bool ho, .slice RA r.length rc]] w (Ret (.bool (trightF a b n1 n2 r)) w) := by
  have hn6 : decide (r.length ≤ 6) = decide ((r.length : Int) ≤ 6) := by simp only [decide_eq_decide]; omega
  go_enter Tryd.func59, Tryd.ntmps59
  have hst0 := St.start w
  refine wp_seq (wp_region_Y [0, 0] [] [[0]] [] [.a 1, .k 2 (.bool false)] (fun ix σ β X => match ix with | 0 => σ 1 = vp (pb (β 1)) ∧ X 0 = eB (pb (β 1)) 41 #[vi a, vi b, vi n1, vi n2, .bool ho, .slice RA r.length rc] | _ => True) [0] [0] [(1, 0, 2, 3)] hst0 ?_ ?_ ?_)
  · exact fun ix _ _ _ _ _ _ hs hb hx h => match ix, h with
    | 0, h => by dsimp only at h ⊢; rw [← hs 1 rfl, ← hb 1 rfl, ← hx 0 rfl]; exact h
    | _ + 1, _ => trivial
  · refine ⟨?_, trivial⟩
    · refine sv_any rfl rfl fun ρ β W X cx => ?_
      exact dv_box (cs := #[vi a, vi b, vi n1, vi n2, .bool ho, .slice RA r.length rc]) rfl (cx.ou 0) rfl rfl rfl (fun σ β' X' hs hb hv hx => ⟨hv, hx⟩)
  intro σ β X W1 hD hst1 fr hfr
  obtain ⟨B1_1, hu_B1_1⟩ : ∃ z, pb (β 1) = z := ⟨_, rfl⟩
  simp only [exq 0 ((dTn (hD 0 lq)).2), hu_B1_1] at hst1
  simp only [ed 1 ((dTn (hD 0 lq)).1), hu_B1_1] at hfr
  clear hD hu_B1_1; subst hfr; clear σ β X
  refine then_normal (wp_seq (wp_region_Z [0, 1, 0, 7, 15, 31, 63, 127, 255, 511, 1023, 2047, 4095, 8191, 16383, 32767, 65535, 131071, 262143, 524287, 1048575, 2097151, 4194303, 8388607, 16777215, 33554431, 67108863, 134217727, 268435455] [[], [0], [], [], [], [], [], [0], [], [], [], [], [0], [], [], [], [], [], [0], [], [], [], [], [], [0]] [.k 5 (.pointer (some ⟨B1_1, 2, none⟩)), .c 6 (.agg #[vi n1, vi n2]), .c 7 (.agg #[vi (-1), vi 0]), .c 8 (.bool (n1 == (-1) && n2 == 0)), .k 9 (.bool (n1 == (-1) && n2 == 0)), .z 10 (!(n1 == (-1) && n2 == 0)) (.pointer (some ⟨B1_1, 2, none⟩)), .z 11 (!(n1 == (-1) && n2 == 0)) (.pointer (some ⟨B1_1, 2, none⟩)), .y 12 (!(n1 == (-1) && n2 == 0)) (vi n1), .z 13 (!(n1 == (-1) && n2 == 0)) (.bool (decide (0 ≤ n1))), .z 14 (!(n1 == (-1) && n2 == 0)) (.bool (decide (0 ≤ n1))), .z 15 ((!(n1 == (-1) && n2 == 0)) && (decide (0 ≤ n1))) (.pointer (some ⟨B1_1, 2, none⟩)), .z 16 ((!(n1 == (-1) && n2 == 0)) && (decide (0 ≤ n1))) (.pointer (some ⟨B1_1, 2, none⟩)), .y 17 ((!(n1 == (-1) && n2 == 0)) && (decide (0 ≤ n1))) (vi n1), .z 18 ((!(n1 == (-1) && n2 == 0)) && (decide (0 ≤ n1))) (.bool (decide (n1 < 400))), .y 19 (!(n1 == (-1) && n2 == 0)) (.bool ((decide (0 ≤ n1)) && (decide (n1 < 400)))), .z 20 (!(n1 == (-1) && n2 == 0)) (.bool ((decide (0 ≤ n1)) && (decide (n1 < 400)))), .z 21 ((!(n1 == (-1) && n2 == 0)) && ((decide (0 ≤ n1)) && (decide (n1 < 400)))) (.pointer (some ⟨B1_1, 2, none⟩)), .z 22 ((!(n1 == (-1) && n2 == 0)) && ((decide (0 ≤ n1)) && (decide (n1 < 400)))) (.pointer (some ⟨B1_1, 3, none⟩)), .y 23 ((!(n1 == (-1) && n2 == 0)) && ((decide (0 ≤ n1)) && (decide (n1 < 400)))) (vi n2), .z 24 ((!(n1 == (-1) && n2 == 0)) && ((decide (0 ≤ n1)) && (decide (n1 < 400)))) (.bool (decide (0 ≤ n2))), .y 25 (!(n1 == (-1) && n2 == 0)) (.bool (((decide (0 ≤ n1)) && (decide (n1 < 400))) && (decide (0 ≤ n2)))), .z 26 (!(n1 == (-1) && n2 == 0)) (.bool (((decide (0 ≤ n1)) && (decide (n1 < 400))) && (decide (0 ≤ n2)))), .z 27 ((!(n1 == (-1) && n2 == 0)) && (((decide (0 ≤ n1)) && (decide (n1 < 400))) && (decide (0 ≤ n2)))) (.pointer (some ⟨B1_1, 2, none⟩)), .z 28 ((!(n1 == (-1) && n2 == 0)) && (((decide (0 ≤ n1)) && (decide (n1 < 400))) && (decide (0 ≤ n2)))) (.pointer (some ⟨B1_1, 3, none⟩)), .y 29 ((!(n1 == (-1) && n2 == 0)) && (((decide (0 ≤ n1)) && (decide (n1 < 400))) && (decide (0 ≤ n2)))) (vi n2), .z 30 ((!(n1 == (-1) && n2 == 0)) && (((decide (0 ≤ n1)) && (decide (n1 < 400))) && (decide (0 ≤ n2)))) (.bool (decide (n2 < 24))), .y 31 (!(n1 == (-1) && n2 == 0)) (.bool ((((decide (0 ≤ n1)) && (decide (n1 < 400))) && (decide (0 ≤ n2))) && (decide (n2 < 24)))), tO 32 (n1 == (-1) && n2 == 0) ((((decide (0 ≤ n1)) && (decide (n1 < 400))) && (decide (0 ≤ n2))) && (decide (n2 < 24))), .k 3 (.bool ((n1 == (-1) && n2 == 0) || ((((decide (0 ≤ n1)) && (decide (n1 < 400))) && (decide (0 ≤ n2))) && (decide (n2 < 24)))))] [0] [1, 2, 3, 7, 12, 14, 18, 20, 24, 26] [(3, 28, 1, 4), (1, 0, 28, 29)] hst1 ?_ fun W2 hst2 => ?_))
  · refine ⟨?_, ?_, ?_, ?_, ?_, ?_, ?_, ?_, ?_, ?_, trivial⟩
    · exact xs4 rfl id fun cx => run_loadB (n := 2) rfl (by kernel_rfl) (by kernel_rfl) (cx.an 0) (cx.bi 0 rfl) (nle rfl) rfl
    · exact xs4 rfl id fun cx => run_loadAt2 rfl (by kernel_rfl) (by kernel_rfl) (cx.sees.glob _) (hN.ext cx.upd.to_ext)
    · exact xs4 rfl id fun cx => run_eqTID rfl (cx.an 1) (cx.an 2)
    · exact m2 rfl (fun _ _ _ h => h) (fun cx => (cx.an 4)) fun cx hq => run_load1 rfl (by kernel_rfl) (mbv (cx.an 6) hq) ((cx.bi 0 rfl).cell 2)
    · exact m0 rfl (fun _ _ _ h => h) (fun cx => (cx.an 9)) fun cx hq => run_load1 rfl (by kernel_rfl) (mbv (cx.an 11) hq) ((cx.bi 0 rfl).cell 2)
    · exact m2 rfl (fun _ _ _ h => h) (fun cx => (cx.an 4)) fun cx hq => run_pick_and rfl (mbv (cx.an 9) hq) (cx.an 13) (fun e_ => by rw [hq, e_]; rfl) (cx.co _)
    · exact m0 rfl (fun _ _ _ h => h) (fun cx => (cx.an 15)) fun cx hq => run_load1 rfl (by kernel_rfl) (mbv (cx.an 17) hq) ((cx.bi 0 rfl).cell 3)
    · exact m2 rfl (fun _ _ _ h => h) (fun cx => (cx.an 4)) fun cx hq => run_pick_and rfl (mbv (cx.an 15) hq) (cx.an 19) (fun e_ => by rw [hq, e_]; rfl) (cx.co _)
    · exact m0 rfl (fun _ _ _ h => h) (fun cx => (cx.an 21)) fun cx hq => run_load1 rfl (by kernel_rfl) (mbv (cx.an 23) hq) ((cx.bi 0 rfl).cell 3)
    · exact m2 rfl (fun _ _ _ h => h) (fun cx => (cx.an 4)) fun cx hq => run_pick_and rfl (mbv (cx.an 21) hq) (cx.an 25) (fun e_ => by rw [hq, e_]; rfl) (cx.co _)
  refine then_normal (wp_seq (wp_region_Z [0, 1, 3, 7, 15, 31, 63, 127, 255, 511, 1023] [[], [0], [], [], [], [], [0]] [.k 33 (.pointer (some ⟨B1_1, 5, none⟩)), .c 34 (.slice RA r.length rc), .k 35 (vi ((r.length : Int))), .k 36 (.bool (decide ((r.length : Int) ≤ 6))), .k 37 (.bool (decide ((r.length : Int) ≤ 6))), .z 38 (decide ((r.length : Int) ≤ 6)) (.pointer (some ⟨B1_1, 5, none⟩)), .y 39 (decide ((r.length : Int) ≤ 6)) (.slice RA r.length rc), .y 40 (decide ((r.length : Int) ≤ 6)) (.bool (!(r.all vrightF))), .z 41 (decide ((r.length : Int) ≤ 6)) (.bool (!(!(r.all vrightF)))), tA 42 (decide ((r.length : Int) ≤ 6)) (!(!(r.all vrightF))), .k 4 (.bool ((decide ((r.length : Int) ≤ 6)) && (!(!(r.all vrightF)))))] [0] [1, 6, 7] [(4, 10, 1, 5), (28, 0, 10, 38)] hst2 ?_ fun W3 hst3 => ?_))
  · refine ⟨?_, ?_, ?_, trivial⟩
    · exact xs4 rfl id fun cx => run_load1 rfl (by kernel_rfl) (cx.an 0) ((cx.bi 0 rfl).cell 5)
    · exact m2 rfl (fun _ _ _ h => h) (fun cx => (cx.an 4)) fun cx hq => run_load1 rfl (by kernel_rfl) (mbv (cx.an 5) hq) ((cx.bi 0 rfl).cell 5)
    · exact m3 rfl (fun _ _ _ h => h) (fun cx => (cx.an 4)) fun cx hq => ⟨_, _, run_callF (args := #[.slice RA r.length rc, .func (.func 86) #[] #[]]) rfl cx.sees rfl (by kernel_rfl) (map2 (mbv (cx.an 6) hq) (cx.sees.func _)), containsf_any _ _ r _ (hA.ext cx.upd.to_ext) (by omega)⟩
  refine then_normal (wp_seq (wp_region_Z [0, 1, 3, 7, 15, 31, 63, 127, 255, 511, 1023, 2047, 4095, 8191, 16383, 32767, 65535, 131071, 262143, 524287, 1048575, 2097151, 4194303, 8388607, 16777215] [[], [0], [], [], [], [0], [], [], [], [], [0], [], [], [], [0]] [.k 43 (vp B1_1), .c 44 (vi a), .k 45 (.bool (a == 2)), .k 46 (.bool (a == 2)), .z 47 (!(a == 2)) (vp B1_1), .y 48 (!(a == 2)) (vi a), .y 49 (!(a == 2)) (.bool (onF a)), tO 50 (a == 2) (onF a), .k 51 (.bool ((a == 2) || (onF a))), .z 52 ((a == 2) || (onF a)) (.pointer (some ⟨B1_1, 1, none⟩)), .y 53 ((a == 2) || (onF a)) (vi b), .z 54 ((a == 2) || (onF a)) (.bool (b == 0)), .z 55 ((a == 2) || (onF a)) (.bool (b == 0)), .z 56 (((a == 2) || (onF a)) && (!(b == 0))) (.pointer (some ⟨B1_1, 1, none⟩)), .y 57 (((a == 2) || (onF a)) && (!(b == 0))) (vi b), .y 58 (((a == 2) || (onF a)) && (!(b == 0))) (.bool (onF b)), .y 59 ((a == 2) || (onF a)) (.bool ((b == 0) || (onF b))), tA 60 ((a == 2) || (onF a)) ((b == 0) || (onF b)), .k 61 (.bool (((a == 2) || (onF a)) && ((b == 0) || (onF b)))), .z 62 (((a == 2) || (onF a)) && ((b == 0) || (onF b))) (.bool ((n1 == (-1) && n2 == 0) || ((((decide (0 ≤ n1)) && (decide (n1 < 400))) && (decide (0 ≤ n2))) && (decide (n2 < 24))))), tA 63 (((a == 2) || (onF a)) && ((b == 0) || (onF b))) ((n1 == (-1) && n2 == 0) || ((((decide (0 ≤ n1)) && (decide (n1 < 400))) && (decide (0 ≤ n2))) && (decide (n2 < 24)))), .k 64 (.bool ((((a == 2) || (onF a)) && ((b == 0) || (onF b))) && ((n1 == (-1) && n2 == 0) || ((((decide (0 ≤ n1)) && (decide (n1 < 400))) && (decide (0 ≤ n2))) && (decide (n2 < 24)))))), .z 65 ((((a == 2) || (onF a)) && ((b == 0) || (onF b))) && ((n1 == (-1) && n2 == 0) || ((((decide (0 ≤ n1)) && (decide (n1 < 400))) && (decide (0 ≤ n2))) && (decide (n2 < 24))))) (.bool ((decide ((r.length : Int) ≤ 6)) && (!(!(r.all vrightF))))), tA 66 ((((a == 2) || (onF a)) && ((b == 0) || (onF b))) && ((n1 == (-1) && n2 == 0) || ((((decide (0 ≤ n1)) && (decide (n1 < 400))) && (decide (0 ≤ n2))) && (decide (n2 < 24))))) ((decide ((r.length : Int) ≤ 6)) && (!(!(r.all vrightF)))), .k 2 (.bool (((((a == 2) || (onF a)) && ((b == 0) || (onF b))) && ((n1 == (-1) && n2 == 0) || ((((decide (0 ≤ n1)) && (decide (n1 < 400))) && (decide (0 ≤ n2))) && (decide (n2 < 24))))) && ((decide ((r.length : Int) ≤ 6)) && (!(!(r.all vrightF))))))] [0] [1, 5, 6, 10, 14, 15, 16] [(2, 24, 1, 3), (40, 0, 24, 64)] hst3 ?_ fun W4 hst4 => ?_))
  · refine ⟨?_, ?_, ?_, ?_, ?_, ?_, ?_, trivial⟩
    · exact xs4 rfl id fun cx => run_load1 rfl (by kernel_rfl) (cx.an 0) ((cx.bi 0 rfl).cell 0)
    · exact m2 rfl (fun _ _ _ h => h) (fun cx => (cx.an 3)) fun cx hq => run_load1 rfl (by kernel_rfl) (mbv (cx.an 4) hq) ((cx.bi 0 rfl).cell 0)
    · exact m3 rfl (fun _ _ _ h => h) (fun cx => (cx.an 3)) fun cx hq => ⟨_, _, run_callF (args := #[vi a]) rfl cx.sees rfl (by kernel_rfl) (map1 (mbv (cx.an 5) hq)), ton_any a _⟩
    · exact m2 rfl (fun _ _ _ h => h) (fun cx => (cx.an 8)) fun cx hq => run_load1 rfl (by kernel_rfl) (mbv (cx.an 9) hq) ((cx.bi 0 rfl).cell 1)
    · exact m0 rfl (fun _ _ _ h => h) (fun cx => (cx.an 12)) fun cx hq => run_load1 rfl (by kernel_rfl) (mbv (cx.an 13) hq) ((cx.bi 0 rfl).cell 1)
    · exact m1 rfl (fun _ _ _ h => h) (fun cx => (cx.an 12)) fun cx hq => ⟨_, _, run_callF (args := #[vi b]) rfl cx.sees rfl (by kernel_rfl) (map1 (mbv (cx.an 14) hq)), ton_any b _⟩
    · exact m2 rfl (fun _ _ _ h => h) (fun cx => (cx.an 8)) fun cx hq => run_pick_or rfl (mbv (cx.an 12) hq) (cx.co _) (cx.an 15) (fun e_ => by rw [hq, e_]; rfl)
  refine then_normal (wp_ret ?_)
  refine bodyPost_ret (v := .bool (((((a == 2) || (onF a)) && ((b == 0) || (onF b))) && ((n1 == (-1) && n2 == 0) || ((((decide (0 ≤ n1)) && (decide (n1 < 400))) && (decide (0 ≤ n2))) && (decide (n2 < 24))))) && ((decide ((r.length : Int) ≤ 6)) && (!(!(r.all vrightF)))))) (results_tmp Tryd.results59 rfl) rfl ?_
  exact Ret.bool (by simp only [trightF, onZ, tnextF, Bool.not_not, Bool.and_assoc]; simp only [rrightF, hn6]; rw [Bool.and_comm (r.all vrightF)]) hst4.ext
end
end Go.Proofs.YtjnplglnnamfdaaDoor
namespace Go.Proofs.YtjnplglnnamfdaaDoor
section
open Go.RowKit
set_option linter.unusedVariables false
set_option linter.unusedSimpArgs false
theorem textO_size {s : ByteArray} (h : s.size ≤ 301) : (textO s).size ≤ 303 := by
  have := putS_size (s.size : Int) 2 (by omega)
  rw [textO, ByteArray.size_append, this]; omega
set_option maxRecDepth 100000 in
set_option maxHeartbeats 2000000 in
theorem tbytes_any (a b n1 n2 : Int) (ho : Bool) (RA : Option Addr) (rc : Nat) (r : List Val) (w : World) (hA : At w RA (flatR r)) (hlr : r.length ≤ 9223372036854775807) (hN : NoneAt w) :
    Calls Tryd.prog 30 #[.agg #[.int .i64 a, .int .i64 b, .int .i64 n1, .int .i64 n2, .bool ho, .slice RA r.length rc]] w (Ret (.string (tbytesF a b n1 n2 ho r)) w) := by
  go_enter Tryd.func30, Tryd.ntmps30
  have hst0 := St.start w
  refine wp_seq (wp_region_Y [0, 0] [] [[0]] [] [.a 1, .k 2 (.string ⟨#[]⟩)] (fun ix σ β X => match ix with | 0 => σ 1 = vp (pb (β 1)) ∧ X 0 = eB (pb (β 1)) 41 #[vi a, vi b, vi n1, vi n2, .bool ho, .slice RA r.length rc] | _ => True) [0] [0] [(1, 0, 2, 3)] hst0 ?_ ?_ ?_)
  · exact fun ix _ _ _ _ _ _ hs hb hx h => match ix, h with
    | 0, h => by dsimp only at h ⊢; rw [← hs 1 rfl, ← hb 1 rfl, ← hx 0 rfl]; exact h
    | _ + 1, _ => trivial
  · refine ⟨?_, trivial⟩
    · refine sv_any rfl rfl fun ρ β W X cx => ?_
      exact dv_box (cs := #[vi a, vi b, vi n1, vi n2, .bool ho, .slice RA r.length rc]) rfl (cx.ou 0) rfl rfl rfl (fun σ β' X' hs hb hv hx => ⟨hv, hx⟩)
  intro σ β X W1 hD hst1 fr hfr
  obtain ⟨B1_1, hu_B1_1⟩ : ∃ z, pb (β 1) = z := ⟨_, rfl⟩
  simp only [exq 0 ((dTn (hD 0 lq)).2), hu_B1_1] at hst1
  simp only [ed 1 ((dTn (hD 0 lq)).1), hu_B1_1] at hfr
  clear hD hu_B1_1; subst hfr; clear σ β X
  refine then_normal (wp_seq (wp_seq (wp_region_Z [0, 1, 3] [[0]] [.c 4 (.agg #[vi a, vi b, vi n1, vi n2, .bool ho, .slice RA r.length rc]), .c 5 (.bool (trightF a b n1 n2 r)), .k 6 (.bool (!(trightF a b n1 n2 r)))] [0] [0, 1] [(4, 0, 3, 7)] hst1 ?_ fun W2 hst2 => ?_)))
  · refine ⟨?_, ?_, trivial⟩
    · exact xs4 rfl id fun cx => run_loadB (n := 6) rfl (by kernel_rfl) (by kernel_rfl) (cx.ou 1) (cx.bi 0 rfl) (nle rfl) rfl
    · exact xsc rfl id rfl rfl fun cx => ⟨_, tright_any a b n1 n2 _ _ _ r _ (hA.ext cx.upd.to_ext) (by omega) (hN.ext cx.upd.to_ext), (map1 (cx.an 0))⟩
  refine then_normal ?_
  rcases Bool.eq_false_or_eq_true (trightF a b n1 n2 r) with hs3 | hs3
  · skip
    refine wp_cond_false (show Act.eval _ _ = .bool false from (congrArg Value.bool (by rw [hs3]; rfl))) (wp_skip (then_normal (wp_seq (wp_region_P [0] [.k 3 (vi 0)] [(3, 0, 1, 4)] hst2 fun W4 hst4 => ?_))))
    refine then_normal ?_
    refine wp_cut (fun az W => True ∧ az = ⟨#[.agg #[vi a, vi b, vi n1, vi n2, .bool ho, .slice RA r.length rc], vp B1_1, .string ⟨#[]⟩, vi (hotI ho), .agg #[vi a, vi b, vi n1, vi n2, .bool ho, .slice RA r.length rc], .bool (trightF a b n1 n2 r), .bool (!(trightF a b n1 n2 r)), jv az 7, jv az 8, undef, undef, undef, undef, undef, undef, undef, undef, undef, undef, undef, undef, undef, undef, undef, undef, undef, undef, undef, undef, undef, undef, undef], []⟩ ∧ St w [] [eB B1_1 41 #[vi a, vi b, vi n1, vi n2, .bool ho, .slice RA r.length rc]] W) ?_ ?_
    · skip
      refine wp_seq (wp_region_Z [0, 1] [[], [0]] [.k 7 (.pointer (some ⟨B1_1, 4, none⟩)), .c 8 (.bool ho)] [0] [1] [(7, 0, 2, 9)] hst4 ?_ fun W6 hst6 => ?_)
      · refine ⟨?_, trivial⟩
        · exact xs4 rfl id fun cx => run_load1 rfl (by kernel_rfl) (cx.an 0) ((cx.bi 0 rfl).cell 4)
      refine then_normal ?_
      rcases Bool.eq_false_or_eq_true (ho) with hs7 | hs7
      · skip
        refine wp_cond_true (show Act.eval _ _ = .bool true from (congrArg Value.bool hs7)) (wp_region_P [0] [.k 3 (vi 1)] [(3, 0, 1, 4)] hst6 fun W8 hst8 => ?_)
        refine then_normal ?_
        have hj : hotI ho = 1 := by simp [hotI, hs3, hs7]
        have hp9 := hst8.pick [0] (by decide) rfl
        exact ⟨trivial, by rw [hj]; rfl, hp9⟩
      refine wp_cond_false (show Act.eval _ _ = .bool false from (congrArg Value.bool hs7)) (wp_skip (then_normal ?_))
      have hj : hotI ho = 0 := by simp [hotI, hs3, hs7]
      have hp10 := hst6.pick [0] (by decide) rfl
      exact ⟨trivial, by rw [hj]; rfl, hp10⟩
    rintro a5 W5 ⟨-, hj_, hst5⟩
    obtain ⟨u5_, hu_⟩ : ∃ z, jv a5 = z := ⟨_, rfl⟩
    rw [hu_] at hj_; clear hu_; subst hj_
    refine wp_seq ?_
    have htr := hs3
    obtain ⟨t1, t2, t3, t4, t5, t6, t7, t8, t9⟩ := tright_parts htr
    have hvs := vbytes_size r
    have hjs : ∀ s ∈ [putS a 1, putS b 1, putS (n1 + 1) 2, putS n2 1, putS (hotI ho) 1, textO (vbytesF r)], s.size ≤ 1000000 := by
      intro s hs
      simp only [List.mem_cons, List.not_mem_nil, or_false] at hs
      have h1 := textO_size hvs
      rcases hs with rfl | rfl | rfl | rfl | rfl | rfl
      · rw [putS_size _ _ (by omega)]; omega
      · rw [putS_size _ _ (by omega)]; omega
      · rw [putS_size _ _ (by omega)]; omega
      · rw [putS_size _ _ (by omega)]; omega
      · rw [putS_size _ _ (by omega)]; omega
      · omega
    refine wp_region_Y [0, 1, 3, 0, 8, 31, 0, 64, 192, 448, 1023, 0, 2048, 6144, 16383, 0, 65535, 0, 131072, 524287, 1048575, 2097151, 4194303, 8388607] [[], [0], [], [], [0], [], [], [], [0], [], [], [], [], [0], [], [], [], [], [0], [], [], [], [1]] [[], [], [], [], [], [], [], [], [], [], [], [], [], [], [], [], [], [], [], [], [], [1]] [] [.k 9 (vp B1_1), .c 10 (vi a), .c 11 (.string (putS a 1)), .k 12 (.pointer (some ⟨B1_1, 1, none⟩)), .c 13 (vi b), .c 14 (.string (putS b 1)), .k 15 (.pointer (some ⟨B1_1, 2, none⟩)), .k 16 (.pointer (some ⟨B1_1, 2, none⟩)), .c 17 (vi n1), tI 18 (n1 + 1) (by omega), .c 19 (.string (putS (n1 + 1) 2)), .k 20 (.pointer (some ⟨B1_1, 2, none⟩)), .k 21 (.pointer (some ⟨B1_1, 3, none⟩)), .c 22 (vi n2), .c 23 (.string (putS n2 1)), .k 24 (vi (hotI ho)), .c 25 (.string (putS (hotI ho) 1)), .k 26 (.pointer (some ⟨B1_1, 5, none⟩)), .c 27 (.slice RA r.length rc), .c 28 (.string (vbytesF r)), .c 29 (.string (textO (vbytesF r))), .a 30, .c 31 (.string (catS [(putS a 1), (putS b 1), (putS (n1 + 1) 2), (putS n2 1), (putS (hotI ho) 1), (textO (vbytesF r))])), .k 2 (.string (catS [(putS a 1), (putS b 1), (putS (n1 + 1) 2), (putS n2 1), (putS (hotI ho) 1), (textO (vbytesF r))]))] (fun ix σ β X => match ix with | 0 => True | 1 => True | 2 => True | 3 => True | 4 => True | 5 => True | 6 => True | 7 => True | 8 => True | 9 => True | 10 => True | 11 => True | 12 => True | 13 => True | 14 => True | 15 => True | 16 => True | 17 => True | 18 => True | 19 => True | 20 => True | 21 => σ 30 = .slice (sA (β 30)) 6 6 ∧ X 1 = eO 9 1 (.slice (sA (β 30)) 6 6) 6 ([.string (putS a 1), .string (putS b 1), .string (putS (n1 + 1) 2), .string (putS n2 1), .string (putS (hotI ho) 1), .string (textO (vbytesF r))]) | _ => True) [0, 1] [1, 2, 4, 5, 8, 10, 13, 14, 16, 18, 19, 20, 21, 22] [(2, 23, 1, 3), (6, 0, 23, 29)] hst5 ?_ ?_ ?_
    · exact fun ix _ _ _ _ _ _ hs hb hx h => match ix, h with
      | 21, h => by dsimp only at h ⊢; rw [← hs 30 rfl, ← hb 30 rfl, ← hx 1 rfl]; exact h
      | 0, _ | 1, _ | 2, _ | 3, _ | 4, _ | 5, _ | 6, _ | 7, _ | 8, _ | 9, _ | 10, _ | 11, _ | 12, _ | 13, _ | 14, _ | 15, _ | 16, _ | 17, _ | 18, _ | 19, _ | 20, _ | _ + 22, _ => trivial
    · refine ⟨?_, ?_, ?_, ?_, ?_, ?_, ?_, ?_, ?_, ?_, ?_, ?_, ?_, ?_, trivial⟩
      · exact xs4 rfl id fun cx => run_load1 rfl (by kernel_rfl) (cx.an 0) ((cx.bi 0 rfl).cell 0)
      · exact xsc rfl id rfl rfl fun cx => ⟨_, oput1_any a _, (map2 (cx.an 1) (cx.co _))⟩
      · exact xs4 rfl id fun cx => run_load1 rfl (by kernel_rfl) (cx.an 3) ((cx.bi 0 rfl).cell 1)
      · exact xsc rfl id rfl rfl fun cx => ⟨_, oput1_any b _, (map2 (cx.an 4) (cx.co _))⟩
      · exact xs4 rfl id fun cx => run_load1 rfl (by kernel_rfl) (cx.an 7) ((cx.bi 0 rfl).cell 2)
      · exact xsc rfl id rfl rfl fun cx => ⟨_, oput2_any (n1 + 1) _, (map2 (cx.an 9) (cx.co _))⟩
      · exact xs4 rfl id fun cx => run_load1 rfl (by kernel_rfl) (cx.an 12) ((cx.bi 0 rfl).cell 3)
      · exact xsc rfl id rfl rfl fun cx => ⟨_, oput1_any n2 _, (map2 (cx.an 13) (cx.co _))⟩
      · exact xsc rfl id rfl rfl fun cx => ⟨_, oput1_any (hotI ho) _, (map2 (cx.an 15) (cx.co _))⟩
      · exact xs4 rfl id fun cx => run_load1 rfl (by kernel_rfl) (cx.an 17) ((cx.bi 0 rfl).cell 5)
      · exact xsc rfl id rfl rfl fun cx => ⟨_, vbytes_any _ _ r _ (hA.ext cx.upd.to_ext) (by omega), (map1 (cx.an 18))⟩
      · exact xsc rfl id rfl rfl fun cx => ⟨_, otext_any (vbytesF r) _ (by omega), (map1 (cx.an 19))⟩
      · refine sv_any rfl rfl fun ρ β W X cx => ?_
        have fF11 : ρ (.tmp 11) = .string (putS a 1) := (cx.an 2)
        have fF14 : ρ (.tmp 14) = .string (putS b 1) := (cx.an 5)
        have fF19 : ρ (.tmp 19) = .string (putS (n1 + 1) 2) := (cx.an 10)
        have fF23 : ρ (.tmp 23) = .string (putS n2 1) := (cx.an 14)
        have fF25 : ρ (.tmp 25) = .string (putS (hotI ho) 1) := (cx.an 16)
        have fF29 : ρ (.tmp 29) = .string (textO (vbytesF r)) := (cx.an 20)
        exact dv_lit (e := 9) (xs := [.string (putS a 1), .string (putS b 1), .string (putS (n1 + 1) 2), .string (putS n2 1), .string (putS (hotI ho) 1), .string (textO (vbytesF r))]) rfl (by simp [go_sem, fF11, fF14, fF19, fF23, fF25, fF29]) rfl (by decide) rfl rfl (fun σ β' X' hs hb hv hx => ⟨hv, hx⟩)
      · exact xsc rfl id rfl rfl fun cx => ⟨_, join_any _ [(putS a 1), (putS b 1), (putS (n1 + 1) 2), (putS n2 1), (putS (hotI ho) 1), (textO (vbytesF r))] _ (cx.row (dTn (cx.an 21)).2 rfl) (by simp) hjs (by simp), (map2 (dTn (cx.an 21)).1 (cx.co _))⟩
    intro σ β X W11 hD hst11 fr hfr
    obtain ⟨A30_11, hu_A30_11⟩ : ∃ z, sA (β 30) = z := ⟨_, rfl⟩
    simp only [exq 1 ((dTn (hD 21 lq)).2), hu_A30_11] at hst11
    simp only [ed 30 ((dTn (hD 21 lq)).1), hu_A30_11] at hfr
    clear hD hu_A30_11; subst hfr; clear σ β X
    refine then_normal (wp_ret ?_)
    refine bodyPost_ret (v := .string (catS [(putS a 1), (putS b 1), (putS (n1 + 1) 2), (putS n2 1), (putS (hotI ho) 1), (textO (vbytesF r))])) (results_tmp Tryd.results30 rfl) rfl ?_
    exact Ret.of (by rw [tbytesF, if_pos htr]) hst11.ext
  refine wp_cond_true (show Act.eval _ _ = .bool true from (congrArg Value.bool (by rw [hs3]; rfl))) (wp_seq (wp_region_P [0] [.k 2 (.string ⟨#[]⟩)] [(2, 0, 1, 3)] hst2 fun W12 hst12 => ?_))
  refine then_normal (wp_ret (then_ret ?_))
  refine bodyPost_ret (v := .string ⟨#[]⟩) (results_tmp Tryd.results30 rfl) rfl ?_
  exact Ret.of (by rw [tbytesF, hs3]; rfl) hst12.ext
end
end Go.Proofs.YtjnplglnnamfdaaDoor
namespace Go.Proofs.YtjnplglnnamfdaaDoor
section
open Go.RowKit
set_option linter.unusedVariables false
set_option linter.unusedSimpArgs false
theorem strL_size (l : List UInt8) : (strL l).size = l.length := by show l.toArray.size = _; simp
theorem strL_ext (l : List UInt8) (a b : Nat) : (strL l).extract a b = strL ((l.drop a).take (b - a)) := by
  apply ByteArray.ext
  rw [ByteArray.data_extract]
  apply Array.ext'
  simp [strL, List.extract_eq_take_drop]
theorem strL_take (l : List UInt8) (n : Nat) : (strL l).extract 0 n = strL (l.take n) := by rw [strL_ext]; simp
theorem strL_drop (l : List UInt8) (n : Nat) : (strL l).extract n (strL l).size = strL (l.drop n) := by
  rw [strL_ext, strL_size, List.take_of_length_le (by simp)]
theorem Upd.less {b c : Nat} {w W : World} (h : Upd [b, c] w W) (hc : W.heap[c]? = w.heap[c]?) : Upd [b] w W := ⟨h.os, h.tape, h.output, h.size, fun k hk hn => by
  by_cases e : k = c
  · rw [e]; exact hc
  · exact h.block k hk (by simp at hn ⊢; exact ⟨hn, e⟩)⟩
def byteI (l : List UInt8) (m : Nat) : Int := ((l.getD m 0).toNat : Int)
theorem St.lent1 {w : World} {b t : Nat} {cs : Array Value} (hb : Blk w b t cs) : St w [b] [eB b t cs] w := by
  refine ⟨Upd.refl _ _, fun x hx => ?_, List.pairwise_singleton _ _⟩
  simp only [List.mem_cons, List.not_mem_nil, or_false] at hx
  subst hx
  exact ⟨hb, eB_loc _ _ _, fun k hk => ⟨.inl (by simp [eB] at hk; simp [hk]), by simp [eB] at hk; subst hk; exact hb.lt⟩⟩
theorem St.lentB2 {w : World} {b t c u : Nat} {cs ds : Array Value} (hb : Blk w b t cs) (hc : Blk w c u ds) (hne : b ≠ c) : St w [b, c] [eB b t cs, eB c u ds] w := by
  refine ⟨Upd.refl _ _, fun x hx => ?_, List.pairwise_pair.2 fun k hk hk' => by simp [eB] at hk hk'; omega⟩
  simp only [List.mem_cons, List.not_mem_nil, or_false] at hx
  rcases hx with rfl | rfl
  · exact ⟨hb, eB_loc _ _ _, fun k hk => ⟨.inl (by simp [eB] at hk; simp [hk]), by simp [eB] at hk; subst hk; exact hb.lt⟩⟩
  · exact ⟨hc, eB_loc _ _ _, fun k hk => ⟨.inl (by simp [eB] at hk; simp [hk]), by simp [eB] at hk; subst hk; exact hc.lt⟩⟩
section
variable {P : Program} {o : Oper} {ρ : Operand → Value} {W : World}
theorem run_indexStr {t : TypeId} {x y : Operand} {l : List UInt8} {k : IntKind} {j : Int} {m : Nat} (h : o.op = .index t x y) (ht : P.underlying t = some .string) (hx : ρ x = .string (strL l)) (hy : ρ y = .int k j) (hj : j = (m : Int)) (hm : m < l.length) :
    (execOp ρ o).run P W = .ok (.value (.int .u8 (byteI l m))) W := by
  subst hj
  unfold execOp; rw [h]
  have h1 : (0 : Int) ≤ (m : Int) := by omega
  have h2 : (strL l)[m]? = some (l.getD m 0) := by
    rw [getElem?_pos (strL l) m (by rw [strL_size]; exact hm)]
    simp [strL, ByteArray.getElem_eq_getElem_data, hm]
  simp only [hx, hy, Instr.index, asIntOf, Sem.run_bind, Sem.run_pure, Result.andThen_ok, run_underlying ht, h1, if_true, Int.toNat_natCast, h2]
  rfl
end
set_option maxRecDepth 100000 in
set_option maxHeartbeats 2000000 in
theorem must_true (e : Int) (w : World) :
    Calls Tryd.prog 102 #[.bool true, .int .i64 e] w (Ret (.tuple #[]) w) := by
  go_enter Tryd.func102, Tryd.ntmps102
  have hst0 := St.start w
  refine wp_seq (wp_region_P [0, 1] [.k 4 (.bool true), .k 5 (.bool false)] [(4, 0, 2, 6)] hst0 fun W1 hst1 => ?_)
  refine then_normal (wp_cond_false (show Act.eval _ _ = .bool false from rfl) (wp_skip ?_))
  refine bodyPost_end (v := .tuple #[]) (by simp [results, Tryd.results102, go_sem]) rfl ?_
  exact Ret.of rfl hst1.ext
def TakePost (b : Nat) (v : Value) (l : List UInt8) (w : World) (e : Ending) (w' : World) : Prop := e = .returned v ∧ Blk w' b 9 #[.string (strL l)] ∧ Upd [b] w w'
set_option maxRecDepth 100000 in
set_option maxHeartbeats 2000000 in
theorem take_any (n : Nat) (b : Nat) (l : List UInt8) (w : World) (hb : Blk w b 9 #[.string (strL l)]) (hn : n ≤ l.length) :
    Calls Tryd.prog 101 #[.int .i64 ((n : Int)), .pointer (some ⟨b, 0, none⟩)] w (TakePost b (.string (strL (l.take n))) (l.drop n) w) := by
  have st0 := St.lent1 hb
  have hsl := strL_size l
  go_enter Tryd.func101, Tryd.ntmps101
  have hst0 := st0
  refine wp_seq (wp_region_P [0] [.k 3 (.string ⟨#[]⟩)] [(3, 0, 1, 4)] hst0 fun W1 hst1 => ?_)
  refine then_normal (wp_seq ?_)
  have hd3 : (decide ((n : Int) ≤ ((strL l).size : Int))) = true := by rw [decide_eq_true_eq]; omega
  refine wp_region_Z [0, 1, 0, 7, 15] [[0]] [.c 5 (.string (strL l)), .k 6 (vi (((strL l).size : Int))), .k 7 (vi ((n : Int))), .e 8 (.bool (decide ((n : Int) ≤ ((strL l).size : Int)))) (.bool true) (congrArg Value.bool hd3), .c 9 (.tuple #[])] [0] [0, 4] [(5, 0, 5, 10)] hst1 ?_ fun W2 hst2 => ?_
  · refine ⟨?_, ?_, trivial⟩
    · exact xs4 rfl id fun cx => run_load1 rfl (by kernel_rfl) (cx.ou 1) ((cx.bi 0 rfl).cell 0)
    · exact xsc rfl id rfl rfl fun cx => ⟨_, must_true _ _, (map2 (cx.an 3) (cx.co _))⟩
  refine then_normal (wp_seq (wp_region_Z [0, 0, 3, 7] [[0]] [.c 10 (.string (strL l)), .k 11 (vi ((n : Int))), .c 12 (.string (strL (l.take n))), .k 4 (.string (strL (l.take n)))] [0] [0, 2] [(4, 3, 1, 5), (5, 0, 3, 8)] hst2 ?_ fun W4 hst4 => ?_))
  · refine ⟨?_, ?_, trivial⟩
    · exact xs4 rfl id fun cx => run_load1 rfl (by kernel_rfl) (cx.ou 1) ((cx.bi 0 rfl).cell 0)
    · exact xs4 rfl id fun cx => (by rw [← strL_take]; exact run_slice_hi (l := n) rfl (by kernel_rfl) (cx.an 0) (cx.an 1) (by omega) (by rw [strL_size]; omega))
  refine then_normal (wp_seq (wp_region_Y [0, 0, 3, 7] [[0], [], [], [0]] [[], [], [], [1]] [[], [], [], [0]] [.c 13 (.string (strL l)), .k 14 (vi ((n : Int))), .c 15 (.string (strL (l.drop n))), .n] (fun ix σ β X => match ix with | 0 => True | 1 => True | 2 => True | 3 => X 1 = eB b 9 #[.string (strL (l.drop n))] | _ => True) [1] [0, 2, 3] [(13, 0, 3, 16)] hst4 ?_ ?_ ?_))
  · exact fun ix _ _ _ _ _ _ hs hb hx h => match ix, h with
    | 3, h => by dsimp only at h ⊢; rw [← hx 1 rfl]; exact h
    | 0, _ | 1, _ | 2, _ | _ + 4, _ => trivial
  · refine ⟨?_, ?_, ?_, trivial⟩
    · exact xs4 rfl id fun cx => run_load1 rfl (by kernel_rfl) (cx.ou 1) ((cx.bi 0 rfl).cell 0)
    · exact xs4 rfl id fun cx => (by rw [← strL_drop]; exact run_slice_lo (l := n) rfl (by kernel_rfl) (cx.an 0) (cx.an 1) (by omega) (by rw [strL_size]; omega))
    · refine sv_any rfl rfl fun ρ β W X cx => ?_
      exact dv_store (n := 1) rfl (cx.ou 1) (cx.an 2) (by kernel_rfl) (by kernel_rfl) (by kernel_rfl) cx (cx.init 0 _ rfl) rfl (nle rfl) (by kernel_rfl) rfl rfl rfl (fun σ β' X' hs hb hx => hx)
  intro σ β X W5 hD hst5 fr hfr
  simp only [exq 1 ((dTn (hD 3 lq)))] at hst5
  clear hD; subst hfr; clear σ β X
  refine then_normal (wp_seq (wp_region_P [0, 1] [.k 16 (.string (strL (l.take n))), .k 3 (.string (strL (l.take n)))] [(3, 1, 1, 4), (12, 0, 1, 13)] hst5 fun W6 hst6 => ?_))
  refine then_normal (wp_ret ?_)
  refine bodyPost_ret (v := .string (strL (l.take n))) (results_tmp Tryd.results101 rfl) rfl ?_
  exact ⟨rfl, hst6.blk 0 rfl, hst6.upd⟩
theorem byte_lt (l : List UInt8) (m : Nat) : 0 ≤ byteI l m ∧ byteI l m < 256 := by
  have := (l.getD m 0).toNat_lt
  unfold byteI; omega
theorem byte_take (l : List UInt8) (h : 1 ≤ l.length) : byteI (l.take 1) 0 = byteI l 0 := by
  cases l with
  | nil => simp at h
  | cons a l => rfl
set_option maxRecDepth 100000 in
set_option maxHeartbeats 2000000 in
theorem one1_any (b c : Nat) (l : List UInt8) (w : World) (hb : Blk w b 9 #[.string (strL l)]) (hc : Blk w c 131 #[.func (.func 101) #[] #[.pointer (some ⟨b, 0, none⟩)]]) (hne : b ≠ c) (hn : 1 ≤ l.length) :
    Calls Tryd.prog 103 #[.pointer (some ⟨c, 0, none⟩)] w (TakePost b (.int .i64 (byteI l 0)) (l.drop 1) w) := by
  have st0 := St.lentB2 hb hc hne
  have hb256 := byte_lt (l.take 1) 0
  go_enter Tryd.func103, Tryd.ntmps103
  have hst0 := st0
  refine wp_seq (wp_region_P [0] [.k 1 (vi 0)] [(1, 0, 1, 2)] hst0 fun W1 hst1 => ?_)
  refine then_normal (wp_seq (wp_region_Y [0, 1, 3, 7, 15] [[1], [0]] [[], [2]] [[], [0]] [.c 2 (.func (.func 101) #[] #[vp b]), .a 3, .c 4 (.int .u8 (byteI (l.take 1) 0)), tW 5 .i64 (byteI (l.take 1) 0) (byteI (l.take 1) 0) (IntWalk.i64_in _ (by omega)), .k 1 (vi (byteI (l.take 1) 0))] (fun ix σ β X => match ix with | 0 => True | 1 => σ 3 = .string (strL (l.take 1)) ∧ X 2 = eB b 9 #[.string (strL (l.drop 1))] | _ => True) [1, 2] [0, 1, 2] [(1, 4, 1, 2), (0, 0, 4, 4)] hst1 ?_ ?_ ?_))
  · exact fun ix _ _ _ _ _ _ hs hb hx h => match ix, h with
    | 1, h => by dsimp only at h ⊢; rw [← hs 3 rfl, ← hx 2 rfl]; exact h
    | 0, _ | _ + 2, _ => trivial
  · refine ⟨?_, ?_, ?_, trivial⟩
    · exact xs4 rfl id fun cx => run_load1 rfl (by kernel_rfl) (cx.ou 0) ((cx.bi 1 rfl).cell 0)
    · refine sv_any rfl rfl fun ρ β W X cx => ?_
      refine DoesU.call (run_callV (f := 101) (args := #[vi 1]) (args' := #[vi 1, vp b]) rfl rfl (cx.an 0) (by kernel_rfl) (map1 (cx.co _)) rfl) ?_
      refine (take_any 1 b l _ (cx.bi 0 rfl) (by omega)).mono ?_
      rintro e W1 ⟨rfl, hb1, hu⟩
      refine ⟨_, rfl, post_mut (cx.init 0 _ rfl) rfl rfl hu hb1 (fun σ β' X' hs hb hv hx => ?_)⟩
      exact ⟨(hv 3 rfl).1.trans rfl, hx⟩
    · exact xs4 rfl id fun cx => run_indexStr (m := 0) rfl (by kernel_rfl) (dTn (cx.an 1)).1 (cx.co _) (by omega) (by rw [List.length_take]; omega)
  intro σ β X W2 hD hst2 fr hfr
  simp only [exq 2 ((dTn (hD 1 lq)).2)] at hst2
  simp only [ed 3 ((dTn (hD 1 lq)).1)] at hfr
  clear hD; subst hfr; clear σ β X
  refine then_normal (wp_ret ?_)
  refine bodyPost_ret (v := vi (byteI (l.take 1) 0)) (results_tmp Tryd.results103 rfl) rfl ?_
  exact ⟨by rw [byte_take l hn], hst2.blk 1 rfl, hst2.upd.less ((hst2.blk 0 rfl).trans hc.symm)⟩
end
end Go.Proofs.YtjnplglnnamfdaaDoor
namespace Go.Proofs.YtjnplglnnamfdaaDoor
section
open Go.RowKit
set_option linter.unusedVariables false
set_option linter.unusedSimpArgs false
theorem wp_mkdefer {P : Program} {id : Nat} {o1 o2 : Oper} {a : Act} {w : World} {Q : Exit → Act → World → Prop} {v : Value} {d : Deferred} (h1 : o1.guard = none) (h2 : o2.guard = none) (r1 : (execOp a.eval o1).run P w = .ok (.value v) w)
    (r2 : (execOp (a.put o1.dst v).eval o2).run P w = .ok (.defer d) w) (hd2 : o2.dst = none) (h : Q .normal { a.put o1.dst v with defers := d :: (a.put o1.dst v).defers } w) : (Code.region id #[o1, o2] false).wp P Q a w := by
  refine wp_region ?_
  show wpOps P #[o1, o2] Q [0, 1] a w
  have w1 : ∀ y, Region.wanted o1 y = true := fun y => by simp [Region.wanted, h1]
  have w2 : ∀ y, Region.wanted o2 y = true := fun y => by simp [Region.wanted, h2]
  simp only [wpOps]
  show (if Region.wanted o1 _ = true then _ else _)
  rw [if_pos (w1 _)]
  left
  unfold Oper.wp Oper.upon
  rw [show (#[o1, o2] : Array Oper)[0] = o1 from rfl, r1]
  show (if Region.wanted o2 _ = true then _ else _)
  rw [if_pos (w2 _)]
  left
  rw [show (#[o1, o2] : Array Oper)[1] = o2 from rfl, r2]
  rw [hd2]
  exact h
theorem catch_idle (p q : Addr) (w : World) :
    CallsD Tryd.prog 100 #[.pointer (some p), .pointer (some q)] .returning w fun e u' w' => e = .returned (.tuple #[]) ∧ u' = .returning ∧ w' = w := by
  refine callsD_of_wpS Tryd.func100 rfl fun c₀ cs hu => ?_
  apply wpS_seq
  apply wpS_region
  simp [wpOpsS, go_sem, recoverD, hu, Tryd.ntmps100, Exit.thenS]
  refine wpS_of_wp ?_
  go_wp2
  cases c₀
  simp_all [bodyPostS, results, Tryd.results100]
end
end Go.Proofs.YtjnplglnnamfdaaDoor
namespace Go.Proofs.YtjnplglnnamfdaaDoor
section
open Go.RowKit
set_option linter.unusedVariables false
set_option linter.unusedSimpArgs false
theorem or_low {X b : Nat} (h : b < 256) : X * 256 ||| b = X * 256 + b := by
  have := Nat.shiftLeft_add_eq_or_of_lt (i := 8) (b := b) (by simpa using h) X
  rw [Nat.shiftLeft_eq] at this
  exact this.symm
theorem wrap_or {x b : Int} (hb : 0 ≤ b ∧ b < 256) : IntKind.i64.wrap ((BitVec.ofInt IntKind.i64.bits (IntKind.i64.wrap (IntKind.i64.wrap x * 2 ^ 8)) ||| BitVec.ofInt IntKind.i64.bits b).toNat : Int) = IntKind.i64.wrap (x * 256 + b) := by
  show IntKind.i64.wrap ((BitVec.ofInt 64 (IntKind.i64.wrap (IntKind.i64.wrap x * 2 ^ 8)) ||| BitVec.ofInt 64 b).toNat : Int) = _
  rw [BitVec.toNat_or, BitVec.toNat_ofInt, BitVec.toNat_ofInt]
  have e1 : ((IntKind.i64.wrap (IntKind.i64.wrap x * 2 ^ 8)) % ((2 ^ 64 : Nat) : Int)).toNat = (x % 72057594037927936).toNat * 256 := by
    rw [IntKind.wrap_i64, IntKind.wrap_i64]
    have : ((2 ^ 64 : Nat) : Int) = 18446744073709551616 := by decide
    rw [this]
    omega
  have e2 : (b % ((2 ^ 64 : Nat) : Int)).toNat = b.toNat := by
    have : ((2 ^ 64 : Nat) : Int) = 18446744073709551616 := by decide
    rw [this]; omega
  rw [e1, e2, or_low (by omega), IntKind.wrap_i64, IntKind.wrap_i64]
  omega
def accN (N : Int) (j : Nat) : Int := IntKind.i64.wrap (IntKind.u64.wrap N / 256 ^ (8 - j))
theorem u64_bd (N : Int) : 0 ≤ IntKind.u64.wrap N ∧ IntKind.u64.wrap N < 18446744073709551616 := by rw [IntKind.wrap_u64]; omega
theorem acc_0 (N : Int) : accN N 0 = 0 := by
  have h := u64_bd N
  unfold accN
  rw [show IntKind.u64.wrap N / 256 ^ (8 - 0) = 0 by simp only [Nat.reduceSub, Int.reducePow]; omega]
  decide
theorem acc_8 {N : Int} (h : -9223372036854775808 ≤ N ∧ N ≤ 9223372036854775807) : accN N 8 = N := by
  unfold accN
  simp only [Nat.reduceSub, Int.reducePow, Int.ediv_one]
  rw [IntKind.wrap_u64, IntKind.wrap_i64]
  omega
theorem oct8_bd (N : Int) (j : Nat) : 0 ≤ (oct8 N).getD j 0 ∧ (oct8 N).getD j 0 < 256 := by
  unfold oct8
  rcases Nat.lt_or_ge j 8 with h | h
  · rcases (by omega : j = 0 ∨ j = 1 ∨ j = 2 ∨ j = 3 ∨ j = 4 ∨ j = 5 ∨ j = 6 ∨ j = 7) with rfl | rfl | rfl | rfl | rfl | rfl | rfl | rfl <;> simp only [List.getD_cons_zero, List.getD_cons_succ] <;> omega
  · rw [List.getD_eq_getElem?_getD, List.getElem?_eq_none (by simpa using h)]; simp
theorem acc_step (N : Int) {j : Nat} (hj : j < 8) : IntKind.i64.wrap ((BitVec.ofInt IntKind.i64.bits (IntKind.i64.wrap (accN N j * 2 ^ 8)) ||| BitVec.ofInt IntKind.i64.bits ((oct8 N).getD j 0)).toNat : Int) = accN N (j + 1) := by
  rw [accN, wrap_or (oct8_bd N j), accN]
  congr 1
  unfold oct8
  have h := u64_bd N
  generalize IntKind.u64.wrap N = u at *
  rcases (by omega : j = 0 ∨ j = 1 ∨ j = 2 ∨ j = 3 ∨ j = 4 ∨ j = 5 ∨ j = 6 ∨ j = 7) with rfl | rfl | rfl | rfl | rfl | rfl | rfl | rfl <;> simp only [List.getD_cons_zero, List.getD_cons_succ, Nat.reduceSub, Nat.reduceAdd, Int.reducePow] <;> omega
theorem bI_put (N : Int) : bI (putS N 8) = oct8 N := by
  unfold putS
  rw [show 8 - 8 = 0 from rfl, List.drop_zero]
  unfold bI strOfNums
  rw [List.toList_toArray, List.map_map]
  have : ∀ l : List Int, (∀ b ∈ l, 0 ≤ b ∧ b < 256) → l.map ((fun b : UInt8 => (b.toNat : Int)) ∘ fun n : Int => UInt8.ofNat n.toNat) = l := by
    intro l
    induction l with
    | nil => intro _; rfl
    | cons a l ih =>
      intro h
      rw [List.map_cons, ih fun b hb => h b (List.mem_cons_of_mem _ hb)]
      congr 1
      have := h a (List.mem_cons_self ..)
      show (((UInt8.ofNat a.toNat).toNat : Nat) : Int) = a
      rw [UInt8.toNat_ofNat']
      omega
  refine this _ fun b hb => ?_
  obtain ⟨j, hj⟩ := List.mem_iff_getElem?.1 hb
  have := oct8_bd N j
  rw [List.getD_eq_getElem?_getD, hj] at this
  exact this
theorem u8_int {x : Int} (h : 0 ≤ x ∧ x < 256) : (((UInt8.ofNat x.toNat).toNat : Nat) : Int) = x := by rw [UInt8.toNat_ofNat']; omega
theorem strL_data (x : ByteArray) : strL x.data.toList = x := by show ByteArray.mk x.data.toList.toArray = x; rw [Array.toArray_toList]
def plainV (v : Val) : Val := (v.1, if v.1 = 1 then v.2.1 else 0, if v.1 = 2 then v.2.2 else ByteArray.empty)
def tailB (v : Val) : List UInt8 := if v.1 = 1 then (putS v.2.1 8).data.toList else if v.1 = 2 then UInt8.ofNat ((v.2.2.size : Nat) : Int).toNat :: v.2.2.data.toList else []
abbrev valsB (rs : List Val) : List UInt8 := rs.flatMap valB
abbrev plainR (rs : List Val) : List Val := rs.map plainV
theorem valsB_at {rs : List Val} {k : Nat} (h : k < rs.length) : valsB (rs.drop k) = UInt8.ofNat (rs.getD k v0).1.toNat :: (tailB (rs.getD k v0) ++ valsB (rs.drop (k + 1))) := by
  rw [List.getD_eq_getElem?_getD, List.getElem?_eq_getElem h, Option.getD_some]
  rw [valsB, List.drop_eq_getElem_cons h, List.flatMap_cons]
  rfl
theorem plain_snoc {rs : List Val} {k : Nat} {c : List Value} (h : k < rs.length) (hc : cellsV (plainV (rs.getD k v0)) = c) : flatR (plainR (rs.take k)) ++ c = flatR (plainR (rs.take (k + 1))) := by
  rw [← hc, plainR, plainR, List.take_add_one, List.getElem?_eq_getElem h, List.getD_eq_getElem?_getD, List.getElem?_eq_getElem h, List.map_append, flatR, flatR, List.flatMap_append]
  congr 1
theorem vbytes_eq {rs : List Val} (h : rrightF rs = true) : vbytesF rs = strL (UInt8.ofNat ((rs.length : Nat) : Int).toNat :: valsB rs) := by
  rw [vbytesF, if_pos h, bytesTo, List.take_length]
theorem nilrowN {w0 W : World} {bor : List Nat} {L : List Ent} (h : St w0 bor L W) (e sz : Nat) : St w0 bor (L ++ [eO e sz (.slice none 0 0) 0 []]) W := by
  refine ⟨h.upd, fun x hx => ?_, ?_⟩
  · rcases List.mem_append.1 hx with hx | hx
    · exact h.ok x hx
    · rw [List.mem_singleton] at hx
      subst hx
      exact ⟨World.ownsRow_nil _ _ _ _, eO_loc _ _ _ _ _, fun k hk => by cases hk⟩
  · rw [List.pairwise_append]
    refine ⟨h.apart, List.pairwise_singleton _ _, fun a _ b hb => ?_⟩
    rw [List.mem_singleton] at hb
    subst hb
    exact fun k _ hk => by cases hk
section
variable {P : Program} {o : Oper} {ρ : Operand → Value} {W : World}
theorem run_shl {t t' : TypeId} {x y : Operand} {k k' : IntKind} {a b z : Int} (h : o.op = .binOp .shl t x y t') (hx : ρ x = .int k a) (hy : ρ y = .int k' b) (hb : 0 ≤ b) (hz : k.wrap (a * 2 ^ min b.toNat k.bits) = z) : (execOp ρ o).run P W = .ok (.value (.int k z)) W := by
  subst hz
  unfold execOp; rw [h]
  have : ¬ b < 0 := by omega
  simp [hx, hy, eqGuard, binOp, Op.shift, this]
theorem run_or {t t' : TypeId} {x y : Operand} {k : IntKind} {a b z : Int} (h : o.op = .binOp .or t x y t') (hx : ρ x = .int k a) (hy : ρ y = .int k b) (hz : k.wrap ((BitVec.ofInt k.bits a ||| BitVec.ofInt k.bits b).toNat : Int) = z) : (execOp ρ o).run P W = .ok (.value (.int k z)) W := by
  subst hz
  unfold execOp; rw [h]
  simp [hx, hy, eqGuard, binOp, Op.intBits]
end
theorem one_cons (b c : Nat) (a : UInt8) (l : List UInt8) (w : World) (hb : Blk w b 9 #[.string (strL (a :: l))]) (hc : Blk w c 131 #[.func (.func 101) #[] #[.pointer (some ⟨b, 0, none⟩)]]) (hne : b ≠ c) :
    Calls Tryd.prog 103 #[.pointer (some ⟨c, 0, none⟩)] w (TakePost b (.int .i64 ((a.toNat : Nat) : Int)) l w) := one1_any b c (a :: l) w hb hc hne (by simp)
theorem take_app (n b : Nat) (A R : List UInt8) (w : World) (hb : Blk w b 9 #[.string (strL (A ++ R))]) (hn : A.length = n) :
    Calls Tryd.prog 101 #[.int .i64 (n : Int), .pointer (some ⟨b, 0, none⟩)] w (TakePost b (.string (strL A)) R w) := by
  have h := take_any n b (A ++ R) w hb (by rw [List.length_append]; omega)
  rw [List.take_left' hn, List.drop_left' hn] at h
  exact h
def VReadPost (rs : List Val) (w : World) (e : Ending) (w' : World) : Prop := ∃ A c, e = .returned (.tuple #[.slice A rs.length c, .int .i64 0]) ∧ w'.ownsRow w.heap.size 82 3 (.slice A rs.length c) rs.length (flatR (plainR rs)) ∧ Ext w w'
set_option maxRecDepth 100000 in
set_option maxHeartbeats 8000000 in
theorem vread_any (rs : List Val) (h0 : UInt8) (w : World) (hr : rrightF rs = true) (hrN : ∀ v ∈ rs, v.1 = 1 → -9223372036854775808 ≤ v.2.1 ∧ v.2.1 ≤ 9223372036854775807) (hh0 : ((h0.toNat : Nat) : Int) = (rs.length : Int)) :
    Calls Tryd.prog 71 #[.string (strL (h0 :: valsB rs))] w (VReadPost rs w) := by
  have hl6 := rright_len hr
  go_enter_defers Tryd.func71, Tryd.ntmps71
  have hst0 := St.start w
  refine wp_seq (wp_region_Y [0, 0, 0] [] [[0], [1], [2]] [] [.a 1, .a 2, .a 3] (fun ix σ β X => match ix with | 0 => σ 1 = vp (pb (β 1)) ∧ X 0 = eB (pb (β 1)) 9 #[.string (strL (h0 :: valsB rs))] | 1 => σ 2 = vp (pb (β 2)) ∧ X 1 = eB (pb (β 2)) 33 #[.slice none 0 0] | 2 => σ 3 = vp (pb (β 3)) ∧ X 2 = eB (pb (β 3)) 37 #[vi 0] | _ => True) [0, 1, 2] [0, 1, 2] [(1, 0, 3, 4)] hst0 ?_ ?_ ?_)
  · exact fun ix _ _ _ _ _ _ hs hb hx h => match ix, h with
    | 0, h => by dsimp only at h ⊢; rw [← hs 1 rfl, ← hb 1 rfl, ← hx 0 rfl]; exact h
    | 1, h => by dsimp only at h ⊢; rw [← hs 2 rfl, ← hb 2 rfl, ← hx 1 rfl]; exact h
    | 2, h => by dsimp only at h ⊢; rw [← hs 3 rfl, ← hb 3 rfl, ← hx 2 rfl]; exact h
    | _ + 3, _ => trivial
  · refine ⟨?_, ?_, ?_, trivial⟩
    · refine sv_any rfl rfl fun ρ β W X cx => ?_
      exact dv_box (cs := #[.string (strL (h0 :: valsB rs))]) rfl (cx.ou 0) rfl rfl rfl (fun σ β' X' hs hb hv hx => ⟨hv, hx⟩)
    · refine sv_any rfl rfl fun ρ β W X cx => ?_
      exact dv_alloc (cs := #[.slice none 0 0]) rfl (by kernel_rfl) rfl rfl (fun σ β' X' hs hb hv hx => ⟨hv, hx⟩)
    · refine sv_any rfl rfl fun ρ β W X cx => ?_
      exact dv_alloc (cs := #[vi 0]) rfl (by kernel_rfl) rfl rfl (fun σ β' X' hs hb hv hx => ⟨hv, hx⟩)
  intro σ β X W1 hD hst1 fr hfr
  obtain ⟨B1_1, hu_B1_1⟩ : ∃ z, pb (β 1) = z := ⟨_, rfl⟩
  obtain ⟨B2_1, hu_B2_1⟩ : ∃ z, pb (β 2) = z := ⟨_, rfl⟩
  obtain ⟨B3_1, hu_B3_1⟩ : ∃ z, pb (β 3) = z := ⟨_, rfl⟩
  simp only [exq 0 ((dTn (hD 0 lq)).2), exq 1 ((dTn (hD 1 lq)).2), exq 2 ((dTn (hD 2 lq)).2), hu_B1_1, hu_B2_1, hu_B3_1] at hst1
  simp only [ed 1 ((dTn (hD 0 lq)).1), ed 2 ((dTn (hD 1 lq)).1), ed 3 ((dTn (hD 2 lq)).1), hu_B1_1, hu_B2_1, hu_B3_1] at hfr
  clear hD hu_B1_1 hu_B2_1 hu_B3_1; subst hfr; clear σ β X
  refine then_normal (wp_seq ?_)
  refine wp_mkdefer (v := .func (.func 100) #[] #[vp B2_1, vp B3_1]) (d := { target := .fn (.func 100) #[vp B2_1, vp B3_1], args := #[] }) rfl rfl (by simp [go_sem, Instr.makeFunc, Act.eval]) (by simp [go_sem, Act.eval, Act.put]) rfl ?_
  simp only [Act.put, List.setIfInBounds_toArray, List.set_cons_succ, List.set_cons_zero]
  refine then_normal (wp_seq (wp_region_Y [0, 0, 3] [[], [], [3]] [[], [3], [4]] [[], [], [3]] [.c 12 (.func (.func 101) #[] #[vp B1_1]), .a 4, .n] (fun ix σ β X => match ix with | 0 => True | 1 => σ 4 = vp (pb (β 4)) ∧ X 3 = eB (pb (β 4)) 131 #[.nilFunc] | 2 => X 4 = eB (pb (β 4)) 131 #[.func (.func 101) #[] #[vp B1_1]] | _ => True) [0, 1, 2, 4] [0, 1, 2] [(4, 1, 1, 5), (7, 0, 1, 8)] hst1 ?_ ?_ ?_))
  · exact fun ix _ _ _ _ _ _ hs hb hx h => match ix, h with
    | 1, h => by dsimp only at h ⊢; rw [← hs 4 rfl, ← hb 4 rfl, ← hx 3 rfl]; exact h
    | 2, h => by dsimp only at h ⊢; rw [← hb 4 rfl, ← hx 4 rfl]; exact h
    | 0, _ | _ + 3, _ => trivial
  · refine ⟨?_, ?_, ?_, trivial⟩
    · exact sv0 rfl rfl rfl rfl rfl (fun _ _ _ h => h) fun ρ β W X cx => by
        have fF1 : ρ (.tmp 1) = vp B1_1 := (cx.ou 1)
        simp [go_sem, Instr.makeFunc, fF1]
    · refine sv_any rfl rfl fun ρ β W X cx => ?_
      exact dv_alloc (cs := #[.nilFunc]) rfl (by kernel_rfl) rfl rfl (fun σ β' X' hs hb hv hx => ⟨hv, hx⟩)
    · refine sv_any rfl rfl fun ρ β W X cx => ?_
      exact dv_store (n := 1) rfl (dTn (cx.an 1)).1 (cx.an 0) (by kernel_rfl) (by kernel_rfl) (by kernel_rfl) cx (dTn (cx.an 1)).2 rfl (nle rfl) (by kernel_rfl) rfl rfl rfl (fun σ β' X' hs hb hx => by rw [hb 4]; exact hx)
  intro σ β X W2 hD hst2 fr hfr
  obtain ⟨B4_2, hu_B4_2⟩ : ∃ z, pb (β 4) = z := ⟨_, rfl⟩
  simp only [exq 4 ((dTn (hD 2 lq))), hu_B4_2] at hst2
  simp only [ed 4 ((dTn (hD 1 lq)).1), hu_B4_2] at hfr
  clear hD hu_B4_2; subst hfr; clear σ β X
  refine then_normal (wp_seq (wp_region_Z [0, 1] [] [.c 13 (.func (.func 103) #[] #[vp B4_2]), .k 5 (.func (.func 103) #[] #[vp B4_2])] [0, 1, 2, 3] [0] [(5, 1, 1, 6), (7, 0, 1, 8)] hst2 ?_ fun W3 hst3 => ?_))
  · refine ⟨?_, trivial⟩
    · exact sv0 rfl rfl rfl rfl rfl (fun _ _ _ h => h) fun ρ β W X cx => by
        have fF4 : ρ (.tmp 4) = vp B4_2 := (cx.ou 4)
        simp [go_sem, Instr.makeFunc, fF4]
  refine then_normal (wp_seq (wp_region_Y [0, 1, 3] [[], [0, 3]] [[], [4]] [[], [0]] [.k 14 (.func (.func 103) #[] #[vp B4_2]), .a 15, .c 6 (vi ((rs.length : Int)))] (fun ix σ β X => match ix with | 0 => True | 1 => σ 15 = vi ((rs.length : Int)) ∧ X 4 = eB B1_1 9 #[.string (strL (valsB rs))] | _ => True) [1, 2, 3, 4] [1, 2] [(6, 2, 1, 7), (7, 0, 2, 9)] hst3 ?_ ?_ ?_))
  · exact fun ix _ _ _ _ _ _ hs hb hx h => match ix, h with
    | 1, h => by dsimp only at h ⊢; rw [← hs 15 rfl, ← hx 4 rfl]; exact h
    | 0, _ | _ + 2, _ => trivial
  · refine ⟨?_, ?_, trivial⟩
    · refine sv_any rfl rfl fun ρ β W X cx => ?_
      refine DoesU.call (run_callV (f := 103) (args := #[]) (args' := #[vp B4_2]) rfl rfl (cx.an 0) (by kernel_rfl) map0 rfl) ?_
      refine (one_cons _ _ h0 (valsB rs) _ (cx.bi 0 rfl) (cx.bi 3 rfl) (by have h_ := cx.ap 0 3 rfl rfl (by decide); rw [(cx.init 0 _ rfl), (cx.init 3 _ rfl)] at h_; intro e_; exact h_ _ (List.mem_singleton.2 rfl) (List.mem_singleton.2 e_))).mono ?_
      rintro e W1 ⟨rfl, hb1, hu⟩
      refine ⟨_, rfl, post_mut (cx.init 0 _ rfl) rfl rfl hu hb1 (fun σ β' X' hs hb hv hx => ?_)⟩
      exact ⟨(hv 15 rfl).1.trans (congrArg (Value.int .i64) hh0), hx⟩
    · exact xs4 rfl id fun cx => run_assign' rfl (dTn (cx.an 1)).1
  intro σ β X W4 hD hst4 fr hfr
  simp only [exq 4 ((dTn (hD 1 lq)).2)] at hst4
  simp only [ed 15 ((dTn (hD 1 lq)).1)] at hfr
  clear hD; subst hfr; clear σ β X
  refine then_normal (wp_seq ?_)
  have hd6 : (decide ((rs.length : Int) ≤ 6)) = true := decide_eq_true (by omega)
  refine wp_region_Z [0, 1, 3] [] [.k 16 (vi ((rs.length : Int))), .e 17 (.bool (decide ((rs.length : Int) ≤ 6))) (.bool true) (congrArg Value.bool hd6), .c 18 (.tuple #[])] [0, 1, 2, 3] [2] [(16, 0, 3, 19)] hst4 ?_ fun W5 hst5 => ?_
  · refine ⟨?_, trivial⟩
    · exact xsc rfl id rfl rfl fun cx => ⟨_, must_true _ _, (map2 (cx.an 1) (cx.co _))⟩
  refine then_normal (wp_seq (wp_seq (wp_region_P [0, 0] [.k 19 (vi ((rs.length : Int))), .k 20 (vi 0)] [(19, 0, 2, 21)] hst5 fun W7 hst7 => ?_)))
  refine then_normal (wp_block ?_)
  have hn_8 := nilrowN hst7 82 3
  refine wp_loopN (fun mz az W => ∃ k : Nat, ∃ RA : Option Addr, ∃ RC : Nat, k ≤ rs.length ∧ mz = rs.length - k ∧ az = ⟨#[.string (strL (h0 :: valsB rs)), vp B1_1, vp B2_1, vp B3_1, vp B4_2, .func (.func 103) #[] #[vp B4_2], vi ((rs.length : Int)), jv az 7, undef, jv az 9, jv az 10, .func (.func 100) #[] #[vp B2_1, vp B3_1], .func (.func 101) #[] #[vp B1_1], .func (.func 103) #[] #[vp B4_2], .func (.func 103) #[] #[vp B4_2], vi ((rs.length : Int)), vi ((rs.length : Int)), .bool true, .tuple #[], vi ((rs.length : Int)), vi ((k : Int)), jv az 21, jv az 22, jv az 23, jv az 24, jv az 25, jv az 26, jv az 27, jv az 28, jv az 29, jv az 30, jv az 31, jv az 32, jv az 33, jv az 34, jv az 35, jv az 36, jv az 37, jv az 38, jv az 39, jv az 40, jv az 41, jv az 42, jv az 43, jv az 44, jv az 45, jv az 46, jv az 47, jv az 48, jv az 49, jv az 50, jv az 51, jv az 52, jv az 53, jv az 54, jv az 55, jv az 56, jv az 57, jv az 58, jv az 59, jv az 60, jv az 61, jv az 62, jv az 63, jv az 64, undef, undef, undef, undef], [{ target := .fn (.func 100) #[vp B2_1, vp B3_1], args := #[] }]⟩ ∧ St w [] [eB B1_1 9 #[.string (strL (valsB (rs.drop k)))], eB B2_1 33 #[.slice RA k RC], eO 82 3 (.slice RA k RC) k (flatR (plainR (rs.take k))), eB B3_1 37 #[vi 0], eB B4_2 131 #[.func (.func 101) #[] #[vp B1_1]]] W) (rs.length - 0) ?_ ?_
  · -- the loop begins
    have hp10 := hn_8.pick [3, 0, 4, 1, 2] (by decide) rfl
    exact ⟨0, none, 0, by omega, rfl, (by kernel_rfl), hp10⟩
  rintro n9 a9 W9 ⟨k, RA, RC, hk, rfl, hj_, hst9⟩
  obtain ⟨u9_, hu_⟩ : ∃ z, jv a9 = z := ⟨_, rfl⟩
  rw [hu_] at hj_; clear hu_; subst hj_
  refine wp_seq (wp_region_P [0] [.k 21 (.bool (decide ((k : Int) < (rs.length : Int))))] [(21, 0, 1, 22)] hst9 fun W11 hst11 => ?_)
  refine then_normal (wp_seq ?_)
  rcases Bool.eq_false_or_eq_true (decide ((k : Int) < (rs.length : Int))) with hs12 | hs12
  · skip
    have hs12p : (k : Int) < (rs.length : Int) := by simpa using hs12
    refine wp_cond_true (show Act.eval _ _ = .bool true from (congrArg Value.bool hs12)) (wp_skip (then_normal (wp_seq (wp_block (wp_seq ?_)))))
    obtain ⟨u, hu⟩ : ∃ z, rs.getD k v0 = z := ⟨_, rfl⟩
    have hvu : vrightF u = true := by rw [← hu]; exact rright_at hr (by omega)
    have hpu := vright_parts hvu
    have hkn : knownF u.1 = true := by simp only [knownF, Bool.and_eq_true, decide_eq_true_eq]; omega
    have huN : u.1 = 1 → -9223372036854775808 ≤ u.2.1 ∧ u.2.1 ≤ 9223372036854775807 := by rw [← hu]; exact hrN _ (by rw [List.getD_eq_getElem?_getD, List.getElem?_eq_getElem (by omega), Option.getD_some]; exact List.getElem_mem _)
    obtain ⟨hd, hhd⟩ : ∃ z, UInt8.ofNat u.1.toNat = z := ⟨_, rfl⟩
    have hdv : ((hd.toNat : Nat) : Int) = u.1 := by rw [← hhd]; exact u8_int (by omega)
    obtain ⟨TB, hTB⟩ : ∃ z, tailB u = z := ⟨_, rfl⟩
    obtain ⟨R, hR⟩ : ∃ z, valsB (rs.drop (k + 1)) = z := ⟨_, rfl⟩
    have hl_ : valsB (rs.drop k) = hd :: (TB ++ R) := by rw [valsB_at (by omega), hu, hhd, hTB, hR]
    rw [hl_] at hst11
    refine wp_region_Y [0, 1, 3, 0, 15] [[], [0, 4], [], [], [6]] [[], [5], [], [6], [7]] [[], [0], [], [], [6]] [.k 22 (.func (.func 103) #[] #[vp B4_2]), .a 23, .c 24 (.agg #[vi u.1, vi 0, .string ByteArray.empty]), .a 7, .n] (fun ix σ β X => match ix with | 0 => True | 1 => σ 23 = vi u.1 ∧ X 5 = eB B1_1 9 #[.string (strL (TB ++ R))] | 2 => True | 3 => σ 7 = vp (pb (β 7)) ∧ X 6 = eB (pb (β 7)) 82 #[vi 0, vi 0, .string ByteArray.empty] | 4 => X 7 = eB (pb (β 7)) 82 #[vi u.1, vi 0, .string ByteArray.empty] | _ => True) [1, 2, 3, 4, 5, 7] [1, 2, 3, 4] [(7, 3, 1, 8), (14, 0, 3, 17)] hst11 ?_ ?_ ?_
    · exact fun ix _ _ _ _ _ _ hs hb hx h => match ix, h with
      | 1, h => by dsimp only at h ⊢; rw [← hs 23 rfl, ← hx 5 rfl]; exact h
      | 3, h => by dsimp only at h ⊢; rw [← hs 7 rfl, ← hb 7 rfl, ← hx 6 rfl]; exact h
      | 4, h => by dsimp only at h ⊢; rw [← hb 7 rfl, ← hx 7 rfl]; exact h
      | 0, _ | 2, _ | _ + 5, _ => trivial
    · refine ⟨?_, ?_, ?_, ?_, trivial⟩
      · refine sv_any rfl rfl fun ρ β W X cx => ?_
        refine DoesU.call (run_callV (f := 103) (args := #[]) (args' := #[vp B4_2]) rfl rfl (cx.an 0) (by kernel_rfl) map0 rfl) ?_
        refine (one_cons _ _ hd ((TB ++ R)) _ (cx.bi 0 rfl) (cx.bi 4 rfl) (by have h_ := cx.ap 0 4 rfl rfl (by decide); rw [(cx.init 0 _ rfl), (cx.init 4 _ rfl)] at h_; intro e_; exact h_ _ (List.mem_singleton.2 rfl) (List.mem_singleton.2 e_))).mono ?_
        rintro e W1 ⟨rfl, hb1, hu⟩
        refine ⟨_, rfl, post_mut (cx.init 0 _ rfl) rfl rfl hu hb1 (fun σ β' X' hs hb hv hx => ?_)⟩
        exact ⟨(hv 23 rfl).1.trans (congrArg (Value.int .i64) hdv), hx⟩
      · exact xs4 rfl id fun cx => run_buildL rfl (pmc (dTn (cx.an 1)).1 pmn) (by kernel_rfl)
      · refine sv_any rfl rfl fun ρ β W X cx => ?_
        exact dv_alloc (cs := #[vi 0, vi 0, .string ByteArray.empty]) rfl (by kernel_rfl) rfl rfl (fun σ β' X' hs hb hv hx => ⟨hv, hx⟩)
      · refine sv_any rfl rfl fun ρ β W X cx => ?_
        exact dv_store (n := 3) rfl (dTn (cx.an 3)).1 (cx.an 2) (by kernel_rfl) (by kernel_rfl) (by kernel_rfl) cx (dTn (cx.an 3)).2 rfl (nle rfl) (by kernel_rfl) rfl rfl rfl (fun σ β' X' hs hb hx => by rw [hb 7]; exact hx)
    intro σ β X W13 hD hst13 fr hfr
    obtain ⟨B7_13, hu_B7_13⟩ : ∃ z, pb (β 7) = z := ⟨_, rfl⟩
    simp only [exq 5 ((dTn (hD 1 lq)).2), exq 7 ((dTn (hD 4 lq))), hu_B7_13] at hst13
    simp only [ed 23 ((dTn (hD 1 lq)).1), ed 7 ((dTn (hD 3 lq)).1), hu_B7_13] at hfr
    clear hD hu_B7_13; subst hfr; clear σ β X
    refine then_normal (wp_seq ?_)
    have hd15 : (knownF u.1) = true := hkn
    refine wp_region_Z [0, 1, 3, 7] [[], [5]] [.k 25 (vp B7_13), .c 26 (vi u.1), .c 27 (.bool true), .c 28 (.tuple #[])] [0, 1, 2, 3, 4, 5] [1, 2, 3] [(25, 0, 4, 29)] hst13 ?_ fun W14 hst14 => ?_
    · refine ⟨?_, ?_, ?_, trivial⟩
      · exact xs4 rfl id fun cx => run_load1 rfl (by kernel_rfl) (cx.an 0) ((cx.bi 5 rfl).cell 0)
      · exact sv_call rfl rfl rfl rfl rfl (fun _ _ _ h => h.trans (congrArg Value.bool hd15)) fun ρ β W X cx => ⟨_, _, run_callF (args := #[vi u.1]) rfl cx.sees rfl (by kernel_rfl) (map1 (cx.an 1)), vknown_any u.1 _⟩
      · exact xsc rfl id rfl rfl fun cx => ⟨_, must_true _ _, (map2 (cx.an 2) (cx.co _))⟩
    refine then_normal (wp_seq (wp_seq (wp_region_Z [0, 1] [[], [5]] [.k 29 (vp B7_13), .c 30 (vi u.1)] [0, 1, 2, 3, 4, 5] [1] [(29, 0, 2, 31)] hst14 ?_ fun W16 hst16 => ?_)))
    · refine ⟨?_, trivial⟩
      · exact xs4 rfl id fun cx => run_load1 rfl (by kernel_rfl) (cx.an 0) ((cx.bi 5 rfl).cell 0)
    refine then_normal (wp_block (wp_seq (wp_region_P [0, 1] [.k 32 (.bool (u.1 == 1)), .k 31 (.bool (u.1 == 1))] [(31, 1, 1, 32), (0, 0, 1, 1)] hst16 fun W17 hst17 => ?_)))
    refine then_normal ?_
    rcases Bool.eq_false_or_eq_true (u.1 == 1) with hs18 | hs18
    · skip
      have hs18p : u.1 = 1 := by simpa using hs18
      refine wp_cond_true (show Act.eval _ _ = .bool true from (congrArg Value.bool hs18)) (wp_seq ?_)
      have h8 : TB = (putS u.2.1 8).data.toList := by rw [← hTB, tailB, if_pos (by assumption)]
      have hp8 : (putS u.2.1 8).size = 8 := putS_size _ 8 (by omega)
      rw [h8] at hst17
      refine wp_region_Y [0, 1, 3, 7, 0] [[3], [4]] [[], [6], [7]] [[], [4]] [.c 33 (.func (.func 101) #[] #[vp B1_1]), .a 34, .a 35, .c 36 (vi ((((putS u.2.1 8)).size : Int))), .k 37 (vi 0)] (fun ix σ β X => match ix with | 0 => True | 1 => σ 34 = .string ((putS u.2.1 8)) ∧ X 6 = eB B1_1 9 #[.string (strL R)] | 2 => σ 35 = .slice ((some ⟨(pb' (β 35)), 0, none⟩)) (((putS u.2.1 8)).size) (((putS u.2.1 8)).size + (sK (β 35))) ∧ X 7 = eW (pb' (β 35)) 5 (bI (putS u.2.1 8)) | _ => True) [0, 1, 2, 3, 5, 6, 7] [0, 1, 2, 3] [(33, 0, 5, 38)] hst17 ?_ ?_ ?_
      · exact fun ix _ _ _ _ _ _ hs hb hx h => match ix, h with
        | 1, h => by dsimp only at h ⊢; rw [← hs 34 rfl, ← hx 6 rfl]; exact h
        | 2, h => by dsimp only at h ⊢; rw [← hs 35 rfl, ← hb 35 rfl, ← hx 7 rfl]; exact h
        | 0, _ | _ + 3, _ => trivial
      · refine ⟨?_, ?_, ?_, ?_, trivial⟩
        · exact xs4 rfl id fun cx => run_load1 rfl (by kernel_rfl) (cx.ou 4) ((cx.bi 3 rfl).cell 0)
        · refine sv_any rfl rfl fun ρ β W X cx => ?_
          refine DoesU.call (run_callV (f := 101) (args := #[vi 8]) (args' := #[vi 8, vp B1_1]) rfl rfl (cx.an 0) (by kernel_rfl) (map1 (cx.co _)) rfl) ?_
          refine (take_app 8 B1_1 ((putS u.2.1 8).data.toList) R _ (cx.bi 4 rfl) (by rw [Array.length_toList]; exact putS_size _ 8 (by omega))).mono ?_
          rintro e W1 ⟨rfl, hb1, hu⟩
          refine ⟨_, rfl, post_mut (cx.init 4 _ rfl) rfl rfl hu hb1 (fun σ β' X' hs hb hv hx => ?_)⟩
          exact ⟨(hv 34 rfl).1.trans (congrArg Value.string (strL_data _)), hx⟩
        · refine sv_any rfl rfl fun ρ β W X cx => ?_
          exact dv_convS (e := 5) (s := (putS u.2.1 8)) rfl (by kernel_rfl) (by kernel_rfl) (by kernel_rfl) (dTn (cx.an 1)).1 rfl rfl (fun σ β' X' hs hb hv hx => ⟨hv, hx⟩)
        · exact xs4 rfl id fun cx => run_len_l (e := 5) rfl (by kernel_rfl) (dTn (cx.an 2)).1
      intro σ β X W19 hD hst19 fr hfr
      obtain ⟨B35_19, hu_B35_19⟩ : ∃ z, pb' (β 35) = z := ⟨_, rfl⟩
      obtain ⟨c35_19, hu_c35_19⟩ : ∃ z, sK (β 35) = z := ⟨_, rfl⟩
      simp only [exq 6 ((dTn (hD 1 lq)).2), exq 7 ((dTn (hD 2 lq)).2), hu_B35_19, hu_c35_19] at hst19
      simp only [ed 34 ((dTn (hD 1 lq)).1), ed 35 ((dTn (hD 2 lq)).1), hu_B35_19, hu_c35_19] at hfr
      clear hD hu_B35_19 hu_c35_19; subst hfr; clear σ β X
      refine then_normal (wp_block ?_)
      rw [show eB B7_13 82 #[vi u.1, vi 0, .string ByteArray.empty] = eB B7_13 82 #[vi u.1, vi (accN u.2.1 0), .string ByteArray.empty] from by rw [acc_0], bI_put] at hst19
      refine wp_loopN (fun mz az W => ∃ j : Nat, j ≤ 8 ∧ mz = 8 - j ∧ az = ⟨#[.string (strL (h0 :: valsB rs)), vp B1_1, vp B2_1, vp B3_1, vp B4_2, .func (.func 103) #[] #[vp B4_2], vi ((rs.length : Int)), vp B7_13, undef, jv az 9, u9_ 10, .func (.func 100) #[] #[vp B2_1, vp B3_1], .func (.func 101) #[] #[vp B1_1], .func (.func 103) #[] #[vp B4_2], .func (.func 103) #[] #[vp B4_2], vi ((rs.length : Int)), vi ((rs.length : Int)), .bool true, .tuple #[], vi ((rs.length : Int)), vi ((k : Int)), .bool (decide ((k : Int) < (rs.length : Int))), .func (.func 103) #[] #[vp B4_2], vi u.1, .agg #[vi u.1, vi 0, .string ByteArray.empty], vp B7_13, vi u.1, .bool true, .tuple #[], vp B7_13, vi u.1, .bool (u.1 == 1), .bool (u.1 == 1), .func (.func 101) #[] #[vp B1_1], .string ((putS u.2.1 8)), .slice ((some ⟨B35_19, 0, none⟩)) (((putS u.2.1 8)).size) (((putS u.2.1 8)).size + c35_19), vi ((((putS u.2.1 8)).size : Int)), vi ((j : Int)), jv az 38, jv az 39, jv az 40, jv az 41, jv az 42, jv az 43, jv az 44, jv az 45, jv az 46, jv az 47, jv az 48, u9_ 49, u9_ 50, u9_ 51, u9_ 52, u9_ 53, u9_ 54, u9_ 55, u9_ 56, u9_ 57, u9_ 58, u9_ 59, u9_ 60, u9_ 61, u9_ 62, u9_ 63, u9_ 64, undef, undef, undef, undef], [{ target := .fn (.func 100) #[vp B2_1, vp B3_1], args := #[] }]⟩ ∧ St w [] [eB B2_1 33 #[.slice RA k RC], eO 82 3 (.slice RA k RC) k (flatR (plainR (rs.take k))), eB B3_1 37 #[vi 0], eB B4_2 131 #[.func (.func 101) #[] #[vp B1_1]], eB B7_13 82 #[vi u.1, vi (accN u.2.1 j), .string ByteArray.empty], eB B1_1 9 #[.string (strL R)], eW B35_19 5 (oct8 u.2.1)] W) (8 - 0) ?_ ?_
      · -- the loop begins
        have hp21 := hst19.pick [0, 1, 2, 3, 4, 5, 6] (by decide) rfl
        exact ⟨0, by omega, rfl, (by kernel_rfl), hp21⟩
      rintro n20 a20 W20 ⟨j, hj, rfl, hj_, hst20⟩
      obtain ⟨u20_, hu_⟩ : ∃ z, jv a20 = z := ⟨_, rfl⟩
      rw [hu_] at hj_; clear hu_; subst hj_
      refine wp_seq (wp_region_P [0] [.k 38 (.bool (decide ((j : Int) < (((putS u.2.1 8)).size : Int))))] [(38, 0, 1, 39)] hst20 fun W22 hst22 => ?_)
      refine then_normal (wp_seq ?_)
      rcases Bool.eq_false_or_eq_true (decide ((j : Int) < (((putS u.2.1 8)).size : Int))) with hs23 | hs23
      · skip
        have hs23p : (j : Int) < (((putS u.2.1 8)).size : Int) := by simpa using hs23
        refine wp_cond_true (show Act.eval _ _ = .bool true from (congrArg Value.bool hs23)) (wp_skip (then_normal (wp_seq (wp_block (wp_seq (wp_region_Z [0, 1, 3] [[], [6]] [.c 39 (.pointer (some ⟨B35_19, j, none⟩)), .c 40 (.int .u8 ((oct8 u.2.1).getD j 0)), .k 9 (.int .u8 ((oct8 u.2.1).getD j 0))] [0, 1, 2, 3, 4, 5, 6] [0, 1] [(9, 2, 1, 10), (29, 0, 2, 31)] hst22 ?_ fun W24 hst24 => ?_))))))
        · refine ⟨?_, ?_, trivial⟩
          · exact xs4 rfl id fun cx => run_indexW (e := 5) (m := j) rfl (by kernel_rfl) (by kernel_rfl) (cx.ou 35) (cx.ou 37) (by omega) (by omega)
          · exact xs4 rfl id fun cx => run_load1 rfl (by kernel_rfl) (cx.an 0) (BRow.cell (cx.brow (cx.init 6 _ rfl) rfl) (by first | omega | (show _ < 8; omega)))
        refine then_normal ?_
        have hob := oct8_bd u.2.1 j
        refine wp_region_Y [0, 1, 3, 0, 8, 31, 63, 127] [[], [4], [], [], [], [], [], [4]] [[], [], [], [], [], [], [], [7]] [[], [], [], [], [], [], [], [4]] [.k 41 (.pointer (some ⟨B7_13, 1, none⟩)), .c 42 (vi (accN u.2.1 j)), .c 43 (vi (IntKind.i64.wrap (accN u.2.1 j * 2 ^ 8))), .k 44 (.int .u8 ((oct8 u.2.1).getD j 0)), tW 45 .i64 ((oct8 u.2.1).getD j 0) ((oct8 u.2.1).getD j 0) (IntWalk.i64_in _ (by omega)), .c 46 (vi (accN u.2.1 (j + 1))), .k 47 (.pointer (some ⟨B7_13, 1, none⟩)), .n] (fun ix σ β X => match ix with | 0 => True | 1 => True | 2 => True | 3 => True | 4 => True | 5 => True | 6 => True | 7 => X 7 = eB B7_13 82 #[vi u.1, vi (accN u.2.1 (j + 1)), .string ByteArray.empty] | _ => True) [0, 1, 2, 3, 5, 6, 7] [1, 2, 5, 7] [(41, 0, 7, 48)] hst24 ?_ ?_ ?_
        · exact fun ix _ _ _ _ _ _ hs hb hx h => match ix, h with
          | 7, h => by dsimp only at h ⊢; rw [← hx 7 rfl]; exact h
          | 0, _ | 1, _ | 2, _ | 3, _ | 4, _ | 5, _ | 6, _ | _ + 8, _ => trivial
        · refine ⟨?_, ?_, ?_, ?_, trivial⟩
          · exact xs4 rfl id fun cx => run_load1 rfl (by kernel_rfl) (cx.an 0) ((cx.bi 4 rfl).cell 1)
          · exact xs4 rfl id fun cx => run_shl rfl (cx.an 1) (cx.co _) (by decide) rfl
          · exact xs4 rfl id fun cx => run_or rfl (cx.an 2) (cx.an 4) (acc_step _ (by omega))
          · refine sv_any rfl rfl fun ρ β W X cx => ?_
            exact dv_store (n := 1) rfl (cx.an 6) (cx.an 5) (by kernel_rfl) (by kernel_rfl) (by kernel_rfl) cx (cx.init 4 _ rfl) rfl (nle rfl) (by kernel_rfl) rfl rfl rfl (fun σ β' X' hs hb hx => hx)
        intro σ β X W25 hD hst25 fr hfr
        simp only [exq 7 ((dTn (hD 7 lq)))] at hst25
        clear hD; subst hfr; clear σ β X
        refine blk_normal (then_normal (wp_region_P [0, 1] [tI 48 ((j : Int) + 1) (by omega), .k 37 (vi ((j : Int) + 1))] [(37, 1, 1, 38), (10, 0, 1, 11)] hst25 fun W26 hst26 => ?_))
        refine then_normal ?_
        refine ⟨8 - ((j + 1)), by omega, ?_⟩
        have hp27 := hst26.pick [0, 1, 2, 3, 6, 4, 5] (by decide) rfl
        exact ⟨(j + 1), by omega, rfl, (by kernel_rfl), hp27⟩
      have hs23p : ¬ ((j : Int) < (((putS u.2.1 8)).size : Int)) := by simpa using hs23
      refine wp_cond_false (show Act.eval _ _ = .bool false from (congrArg Value.bool hs23)) (wp_exit (then_exit (then_exit (blk_eq (blk_normal (then_normal ?_))))))
      obtain rfl : j = 8 := by omega
      rw [acc_8 (huN (by assumption))] at hst22
      refine wp_region_Y [0, 0, 2, 7, 15] [[0], [4], [], [7, 1], [0]] [[], [], [7], [8], [9]] [[], [], [], [1], [0]] [.c 60 (.slice RA k RC), .c 61 (.agg #[vi u.1, vi u.2.1, .string ByteArray.empty]), .a 62, .a 63, .n] (fun ix σ β X => match ix with | 0 => True | 1 => True | 2 => σ 62 = .slice ((some ⟨(pb' (β 62)), 0, none⟩)) 1 1 ∧ X 7 = eO 82 3 (.slice ((some ⟨(pb' (β 62)), 0, none⟩)) 1 1) 1 ([vi u.1, vi u.2.1, .string ByteArray.empty]) | 3 => σ 63 = .slice (sA (β 63)) (k + 1) (sC (β 63)) ∧ X 8 = eO 82 3 (.slice (sA (β 63)) (k + 1) (sC (β 63))) (k + 1) (flatR (plainR (rs.take (k + 1)))) | 4 => X 9 = eB B2_1 33 #[.slice (sA (β 63)) (k + 1) (sC (β 63))] | _ => True) [2, 3, 4, 5, 6, 7, 8, 9] [0, 1, 2, 3, 4] [(60, 0, 4, 64)] hst22 ?_ ?_ ?_
      · exact fun ix _ _ _ _ _ _ hs hb hx h => match ix, h with
        | 2, h => by dsimp only at h ⊢; rw [← hs 62 rfl, ← hb 62 rfl, ← hx 7 rfl]; exact h
        | 3, h => by dsimp only at h ⊢; rw [← hs 63 rfl, ← hb 63 rfl, ← hx 8 rfl]; exact h
        | 4, h => by dsimp only at h ⊢; rw [← hb 63 rfl, ← hx 9 rfl]; exact h
        | 0, _ | 1, _ | _ + 5, _ => trivial
      · refine ⟨?_, ?_, ?_, ?_, ?_, trivial⟩
        · exact xs4 rfl id fun cx => run_load1 rfl (by kernel_rfl) (cx.ou 2) ((cx.bi 0 rfl).cell 0)
        · exact xs4 rfl id fun cx => run_loadB (n := 3) rfl (by kernel_rfl) (by kernel_rfl) (cx.ou 7) (cx.bi 4 rfl) (nle rfl) rfl
        · refine sv_any rfl rfl fun ρ β W X cx => ?_
          have fF61 : ρ (.tmp 61) = .agg #[vi u.1, vi u.2.1, .string ByteArray.empty] := (cx.an 1)
          exact dv_litN (e := 82) (sz := 3) (xs := [vi u.1, vi u.2.1, .string ByteArray.empty]) rfl (by simp [go_sem, fF61]) rfl (by decide) rfl rfl (fun σ β' X' hs hb hv hx => ⟨hv, hx⟩)
        · refine sv_any rfl rfl fun ρ β W X cx => ?_
          obtain ⟨i0, hi0, hz0, hz1, hz2⟩ := info_parts Tryd.infoVal
          refine dv_appendN (n := k) (m := 1) (nm := k + 1) (sz := 3) (xs := flatR (plainR (rs.take k))) (news := [vi u.1, vi u.2.1, .string ByteArray.empty]) (xs' := flatR (plainR (rs.take (k + 1)))) rfl (ty := 33) rfl (by kernel_rfl) hi0 hz0 hz1 hz2 rfl (by decide) (cx.an 0) cx (cx.init 1 _ rfl) rfl (dTn (cx.an 2)).1 (by rfl) (At.of_ownN (cx.row (dTn (cx.an 2)).2 rfl)) (by simp [Value.oneCell']) (by simp only [maxLen]; omega) (by omega) rfl rfl rfl (by omega) (plain_snoc (by omega) (by rw [hu]; simp [cellsV, plainV, *])) (fun σ β' X' hs hb hv hx => ?_)
          exact ⟨hv, hx⟩
        · refine sv_any rfl rfl fun ρ β W X cx => ?_
          exact dv_store (n := 1) rfl (cx.ou 2) (dTn (cx.an 3)).1 (by kernel_rfl) (by kernel_rfl) (by kernel_rfl) cx (cx.init 0 _ rfl) rfl (nle rfl) (by kernel_rfl) rfl rfl rfl (fun σ β' X' hs hb hx => by rw [hb 63]; exact hx)
      intro σ β X W28 hD hst28 fr hfr
      obtain ⟨B62_28, hu_B62_28⟩ : ∃ z, pb' (β 62) = z := ⟨_, rfl⟩
      obtain ⟨A63_28, hu_A63_28⟩ : ∃ z, sA (β 63) = z := ⟨_, rfl⟩
      obtain ⟨c63_28, hu_c63_28⟩ : ∃ z, sC (β 63) = z := ⟨_, rfl⟩
      simp only [exq 7 ((dTn (hD 2 lq)).2), exq 8 ((dTn (hD 3 lq)).2), exq 9 ((dTn (hD 4 lq))), hu_B62_28, hu_A63_28, hu_c63_28] at hst28
      simp only [ed 62 ((dTn (hD 2 lq)).1), ed 63 ((dTn (hD 3 lq)).1), hu_B62_28, hu_A63_28, hu_c63_28] at hfr
      clear hD hu_B62_28 hu_A63_28 hu_c63_28; subst hfr; clear σ β X
      refine blk_normal (then_normal (wp_region_P [0, 1] [tI 64 ((k : Int) + 1) (by omega), .k 20 (vi ((k : Int) + 1))] [(20, 1, 1, 21), (43, 0, 1, 44)] hst28 fun W29 hst29 => ?_))
      refine then_normal ?_
      rw [← hR] at hst29
      refine ⟨rs.length - ((k + 1)), by omega, ?_⟩
      have hp30 := hst29.pick [3, 7, 6, 0, 1] (by decide) rfl
      exact ⟨(k + 1), A63_28, c63_28, by omega, rfl, (by kernel_rfl), hp30⟩
    have hs18p : u.1 ≠ 1 := by simpa using hs18
    refine wp_cond_false (show Act.eval _ _ = .bool false from (congrArg Value.bool hs18)) (wp_seq (wp_region_P [0, 1] [.k 50 (.bool (u.1 == 2)), .k 49 (.bool (u.1 == 2))] [(49, 1, 1, 50), (0, 0, 1, 1)] hst17 fun W31 hst31 => ?_))
    refine then_normal ?_
    rcases Bool.eq_false_or_eq_true (u.1 == 2) with hs32 | hs32
    · skip
      have hs32p : u.1 = 2 := by simpa using hs32
      refine wp_cond_true (show Act.eval _ _ = .bool true from (congrArg Value.bool hs32)) (wp_seq ?_)
      have hs2 : u.2.2.size ≤ 40 := hpu.2.2 (by assumption)
      obtain ⟨h2, hh2⟩ : ∃ z, UInt8.ofNat ((u.2.2.size : Nat) : Int).toNat = z := ⟨_, rfl⟩
      have hv2 : ((h2.toNat : Nat) : Int) = (u.2.2.size : Int) := by rw [← hh2]; exact u8_int (by omega)
      have h8 : TB = h2 :: u.2.2.data.toList := by rw [← hTB, tailB, if_neg (by assumption), if_pos (by assumption), hh2]
      rw [h8, List.cons_append] at hst31
      refine wp_region_Y [0, 1, 3] [[], [4, 3]] [[], [6]] [[], [4]] [.k 51 (.func (.func 103) #[] #[vp B4_2]), .a 52, .c 10 (vi ((u.2.2.size : Int)))] (fun ix σ β X => match ix with | 0 => True | 1 => σ 52 = vi ((u.2.2.size : Int)) ∧ X 6 = eB B1_1 9 #[.string (strL (u.2.2.data.toList ++ R))] | _ => True) [0, 1, 2, 3, 5, 6] [1, 2] [(10, 2, 1, 11), (40, 0, 2, 42)] hst31 ?_ ?_ ?_
      · exact fun ix _ _ _ _ _ _ hs hb hx h => match ix, h with
        | 1, h => by dsimp only at h ⊢; rw [← hs 52 rfl, ← hx 6 rfl]; exact h
        | 0, _ | _ + 2, _ => trivial
      · refine ⟨?_, ?_, trivial⟩
        · refine sv_any rfl rfl fun ρ β W X cx => ?_
          refine DoesU.call (run_callV (f := 103) (args := #[]) (args' := #[vp B4_2]) rfl rfl (cx.an 0) (by kernel_rfl) map0 rfl) ?_
          refine (one_cons _ _ h2 ((u.2.2.data.toList ++ R)) _ (cx.bi 4 rfl) (cx.bi 3 rfl) (by have h_ := cx.ap 4 3 rfl rfl (by decide); rw [(cx.init 4 _ rfl), (cx.init 3 _ rfl)] at h_; intro e_; exact h_ _ (List.mem_singleton.2 rfl) (List.mem_singleton.2 e_))).mono ?_
          rintro e W1 ⟨rfl, hb1, hu⟩
          refine ⟨_, rfl, post_mut (cx.init 4 _ rfl) rfl rfl hu hb1 (fun σ β' X' hs hb hv hx => ?_)⟩
          exact ⟨(hv 52 rfl).1.trans (congrArg (Value.int .i64) hv2), hx⟩
        · exact xs4 rfl id fun cx => run_assign' rfl (dTn (cx.an 1)).1
      intro σ β X W33 hD hst33 fr hfr
      simp only [exq 6 ((dTn (hD 1 lq)).2)] at hst33
      simp only [ed 52 ((dTn (hD 1 lq)).1)] at hfr
      clear hD; subst hfr; clear σ β X
      refine then_normal (wp_seq ?_)
      have hd35 : (decide ((u.2.2.size : Int) ≤ 40)) = true := decide_eq_true (by omega)
      refine wp_region_Z [0, 1, 3] [] [.k 53 (vi ((u.2.2.size : Int))), .e 54 (.bool (decide ((u.2.2.size : Int) ≤ 40))) (.bool true) (congrArg Value.bool hd35), .c 55 (.tuple #[])] [0, 1, 2, 3, 4, 5] [2] [(53, 0, 3, 56)] hst33 ?_ fun W34 hst34 => ?_
      · refine ⟨?_, trivial⟩
        · exact xsc rfl id rfl rfl fun cx => ⟨_, must_true _ _, (map2 (cx.an 1) (cx.co _))⟩
      refine then_normal (wp_region_Y [0, 0, 3, 7, 15] [[3], [], [5], [], [4]] [[], [], [6], [], [7]] [[], [], [5], [], [4]] [.c 56 (.func (.func 101) #[] #[vp B1_1]), .k 57 (vi ((u.2.2.size : Int))), .a 58, .k 59 (.pointer (some ⟨B7_13, 2, none⟩)), .n] (fun ix σ β X => match ix with | 0 => True | 1 => True | 2 => σ 58 = .string u.2.2 ∧ X 6 = eB B1_1 9 #[.string (strL R)] | 3 => True | 4 => X 7 = eB B7_13 82 #[vi u.1, vi 0, .string u.2.2] | _ => True) [0, 1, 2, 3, 6, 7] [0, 2, 4] [(56, 0, 4, 60)] hst34 ?_ ?_ ?_)
      · exact fun ix _ _ _ _ _ _ hs hb hx h => match ix, h with
        | 2, h => by dsimp only at h ⊢; rw [← hs 58 rfl, ← hx 6 rfl]; exact h
        | 4, h => by dsimp only at h ⊢; rw [← hx 7 rfl]; exact h
        | 0, _ | 1, _ | 3, _ | _ + 5, _ => trivial
      · refine ⟨?_, ?_, ?_, trivial⟩
        · exact xs4 rfl id fun cx => run_load1 rfl (by kernel_rfl) (cx.ou 4) ((cx.bi 3 rfl).cell 0)
        · refine sv_any rfl rfl fun ρ β W X cx => ?_
          refine DoesU.call (run_callV (f := 101) (args := #[vi ((u.2.2.size : Int))]) (args' := #[vi ((u.2.2.size : Int)), vp B1_1]) rfl rfl (cx.an 0) (by kernel_rfl) (map1 (cx.an 1)) rfl) ?_
          refine (take_app u.2.2.size B1_1 (u.2.2.data.toList) R _ (cx.bi 5 rfl) (by rw [Array.length_toList]; rfl)).mono ?_
          rintro e W1 ⟨rfl, hb1, hu⟩
          refine ⟨_, rfl, post_mut (cx.init 5 _ rfl) rfl rfl hu hb1 (fun σ β' X' hs hb hv hx => ?_)⟩
          exact ⟨(hv 58 rfl).1.trans (congrArg Value.string (strL_data _)), hx⟩
        · refine sv_any rfl rfl fun ρ β W X cx => ?_
          exact dv_store (n := 1) rfl (cx.an 3) (dTn (cx.an 2)).1 (by kernel_rfl) (by kernel_rfl) (by kernel_rfl) cx (cx.init 4 _ rfl) rfl (nle rfl) (by kernel_rfl) rfl rfl rfl (fun σ β' X' hs hb hx => hx)
      intro σ β X W36 hD hst36 fr hfr
      simp only [exq 6 ((dTn (hD 2 lq)).2), exq 7 ((dTn (hD 4 lq)))] at hst36
      simp only [ed 58 ((dTn (hD 2 lq)).1)] at hfr
      clear hD; subst hfr; clear σ β X
      refine blk_normal (then_normal (wp_region_Y [0, 0, 2, 7, 15] [[0], [5], [], [6, 1], [0]] [[], [], [6], [7], [8]] [[], [], [], [1], [0]] [.c 60 (.slice RA k RC), .c 61 (.agg #[vi u.1, vi 0, .string u.2.2]), .a 62, .a 63, .n] (fun ix σ β X => match ix with | 0 => True | 1 => True | 2 => σ 62 = .slice ((some ⟨(pb' (β 62)), 0, none⟩)) 1 1 ∧ X 6 = eO 82 3 (.slice ((some ⟨(pb' (β 62)), 0, none⟩)) 1 1) 1 ([vi u.1, vi 0, .string u.2.2]) | 3 => σ 63 = .slice (sA (β 63)) (k + 1) (sC (β 63)) ∧ X 7 = eO 82 3 (.slice (sA (β 63)) (k + 1) (sC (β 63))) (k + 1) (flatR (plainR (rs.take (k + 1)))) | 4 => X 8 = eB B2_1 33 #[.slice (sA (β 63)) (k + 1) (sC (β 63))] | _ => True) [2, 3, 4, 5, 6, 7, 8] [0, 1, 2, 3, 4] [(60, 0, 4, 64)] hst36 ?_ ?_ ?_))
      · exact fun ix _ _ _ _ _ _ hs hb hx h => match ix, h with
        | 2, h => by dsimp only at h ⊢; rw [← hs 62 rfl, ← hb 62 rfl, ← hx 6 rfl]; exact h
        | 3, h => by dsimp only at h ⊢; rw [← hs 63 rfl, ← hb 63 rfl, ← hx 7 rfl]; exact h
        | 4, h => by dsimp only at h ⊢; rw [← hb 63 rfl, ← hx 8 rfl]; exact h
        | 0, _ | 1, _ | _ + 5, _ => trivial
      · refine ⟨?_, ?_, ?_, ?_, ?_, trivial⟩
        · exact xs4 rfl id fun cx => run_load1 rfl (by kernel_rfl) (cx.ou 2) ((cx.bi 0 rfl).cell 0)
        · exact xs4 rfl id fun cx => run_loadB (n := 3) rfl (by kernel_rfl) (by kernel_rfl) (cx.ou 7) (cx.bi 5 rfl) (nle rfl) rfl
        · refine sv_any rfl rfl fun ρ β W X cx => ?_
          have fF61 : ρ (.tmp 61) = .agg #[vi u.1, vi 0, .string u.2.2] := (cx.an 1)
          exact dv_litN (e := 82) (sz := 3) (xs := [vi u.1, vi 0, .string u.2.2]) rfl (by simp [go_sem, fF61]) rfl (by decide) rfl rfl (fun σ β' X' hs hb hv hx => ⟨hv, hx⟩)
        · refine sv_any rfl rfl fun ρ β W X cx => ?_
          obtain ⟨i0, hi0, hz0, hz1, hz2⟩ := info_parts Tryd.infoVal
          refine dv_appendN (n := k) (m := 1) (nm := k + 1) (sz := 3) (xs := flatR (plainR (rs.take k))) (news := [vi u.1, vi 0, .string u.2.2]) (xs' := flatR (plainR (rs.take (k + 1)))) rfl (ty := 33) rfl (by kernel_rfl) hi0 hz0 hz1 hz2 rfl (by decide) (cx.an 0) cx (cx.init 1 _ rfl) rfl (dTn (cx.an 2)).1 (by rfl) (At.of_ownN (cx.row (dTn (cx.an 2)).2 rfl)) (by simp [Value.oneCell']) (by simp only [maxLen]; omega) (by omega) rfl rfl rfl (by omega) (plain_snoc (by omega) (by rw [hu]; simp [cellsV, plainV, *])) (fun σ β' X' hs hb hv hx => ?_)
          exact ⟨hv, hx⟩
        · refine sv_any rfl rfl fun ρ β W X cx => ?_
          exact dv_store (n := 1) rfl (cx.ou 2) (dTn (cx.an 3)).1 (by kernel_rfl) (by kernel_rfl) (by kernel_rfl) cx (cx.init 0 _ rfl) rfl (nle rfl) (by kernel_rfl) rfl rfl rfl (fun σ β' X' hs hb hx => by rw [hb 63]; exact hx)
      intro σ β X W37 hD hst37 fr hfr
      obtain ⟨B62_37, hu_B62_37⟩ : ∃ z, pb' (β 62) = z := ⟨_, rfl⟩
      obtain ⟨A63_37, hu_A63_37⟩ : ∃ z, sA (β 63) = z := ⟨_, rfl⟩
      obtain ⟨c63_37, hu_c63_37⟩ : ∃ z, sC (β 63) = z := ⟨_, rfl⟩
      simp only [exq 6 ((dTn (hD 2 lq)).2), exq 7 ((dTn (hD 3 lq)).2), exq 8 ((dTn (hD 4 lq))), hu_B62_37, hu_A63_37, hu_c63_37] at hst37
      simp only [ed 62 ((dTn (hD 2 lq)).1), ed 63 ((dTn (hD 3 lq)).1), hu_B62_37, hu_A63_37, hu_c63_37] at hfr
      clear hD hu_B62_37 hu_A63_37 hu_c63_37; subst hfr; clear σ β X
      refine blk_normal (then_normal (wp_region_P [0, 1] [tI 64 ((k : Int) + 1) (by omega), .k 20 (vi ((k : Int) + 1))] [(20, 1, 1, 21), (43, 0, 1, 44)] hst37 fun W38 hst38 => ?_))
      refine then_normal ?_
      rw [← hR] at hst38
      refine ⟨rs.length - ((k + 1)), by omega, ?_⟩
      have hp39 := hst38.pick [2, 6, 5, 0, 1] (by decide) rfl
      exact ⟨(k + 1), A63_37, c63_37, by omega, rfl, (by kernel_rfl), hp39⟩
    have hs32p : u.1 ≠ 2 := by simpa using hs32
    refine wp_cond_false (show Act.eval _ _ = .bool false from (congrArg Value.bool hs32)) (wp_skip (blk_normal (then_normal ?_)))
    have h8 : TB = [] := by rw [← hTB, tailB, if_neg (by assumption), if_neg (by assumption)]
    rw [h8, List.nil_append] at hst31
    refine wp_region_Y [0, 0, 2, 7, 15] [[0], [5], [], [6, 1], [0]] [[], [], [6], [7], [8]] [[], [], [], [1], [0]] [.c 60 (.slice RA k RC), .c 61 (.agg #[vi u.1, vi 0, .string ByteArray.empty]), .a 62, .a 63, .n] (fun ix σ β X => match ix with | 0 => True | 1 => True | 2 => σ 62 = .slice ((some ⟨(pb' (β 62)), 0, none⟩)) 1 1 ∧ X 6 = eO 82 3 (.slice ((some ⟨(pb' (β 62)), 0, none⟩)) 1 1) 1 ([vi u.1, vi 0, .string ByteArray.empty]) | 3 => σ 63 = .slice (sA (β 63)) (k + 1) (sC (β 63)) ∧ X 7 = eO 82 3 (.slice (sA (β 63)) (k + 1) (sC (β 63))) (k + 1) (flatR (plainR (rs.take (k + 1)))) | 4 => X 8 = eB B2_1 33 #[.slice (sA (β 63)) (k + 1) (sC (β 63))] | _ => True) [2, 3, 4, 5, 6, 7, 8] [0, 1, 2, 3, 4] [(60, 0, 4, 64)] hst31 ?_ ?_ ?_
    · exact fun ix _ _ _ _ _ _ hs hb hx h => match ix, h with
      | 2, h => by dsimp only at h ⊢; rw [← hs 62 rfl, ← hb 62 rfl, ← hx 6 rfl]; exact h
      | 3, h => by dsimp only at h ⊢; rw [← hs 63 rfl, ← hb 63 rfl, ← hx 7 rfl]; exact h
      | 4, h => by dsimp only at h ⊢; rw [← hb 63 rfl, ← hx 8 rfl]; exact h
      | 0, _ | 1, _ | _ + 5, _ => trivial
    · refine ⟨?_, ?_, ?_, ?_, ?_, trivial⟩
      · exact xs4 rfl id fun cx => run_load1 rfl (by kernel_rfl) (cx.ou 2) ((cx.bi 0 rfl).cell 0)
      · exact xs4 rfl id fun cx => run_loadB (n := 3) rfl (by kernel_rfl) (by kernel_rfl) (cx.ou 7) (cx.bi 5 rfl) (nle rfl) rfl
      · refine sv_any rfl rfl fun ρ β W X cx => ?_
        have fF61 : ρ (.tmp 61) = .agg #[vi u.1, vi 0, .string ByteArray.empty] := (cx.an 1)
        exact dv_litN (e := 82) (sz := 3) (xs := [vi u.1, vi 0, .string ByteArray.empty]) rfl (by simp [go_sem, fF61]) rfl (by decide) rfl rfl (fun σ β' X' hs hb hv hx => ⟨hv, hx⟩)
      · refine sv_any rfl rfl fun ρ β W X cx => ?_
        obtain ⟨i0, hi0, hz0, hz1, hz2⟩ := info_parts Tryd.infoVal
        refine dv_appendN (n := k) (m := 1) (nm := k + 1) (sz := 3) (xs := flatR (plainR (rs.take k))) (news := [vi u.1, vi 0, .string ByteArray.empty]) (xs' := flatR (plainR (rs.take (k + 1)))) rfl (ty := 33) rfl (by kernel_rfl) hi0 hz0 hz1 hz2 rfl (by decide) (cx.an 0) cx (cx.init 1 _ rfl) rfl (dTn (cx.an 2)).1 (by rfl) (At.of_ownN (cx.row (dTn (cx.an 2)).2 rfl)) (by simp [Value.oneCell']) (by simp only [maxLen]; omega) (by omega) rfl rfl rfl (by omega) (plain_snoc (by omega) (by rw [hu]; simp [cellsV, plainV, *])) (fun σ β' X' hs hb hv hx => ?_)
        exact ⟨hv, hx⟩
      · refine sv_any rfl rfl fun ρ β W X cx => ?_
        exact dv_store (n := 1) rfl (cx.ou 2) (dTn (cx.an 3)).1 (by kernel_rfl) (by kernel_rfl) (by kernel_rfl) cx (cx.init 0 _ rfl) rfl (nle rfl) (by kernel_rfl) rfl rfl rfl (fun σ β' X' hs hb hx => by rw [hb 63]; exact hx)
    intro σ β X W40 hD hst40 fr hfr
    obtain ⟨B62_40, hu_B62_40⟩ : ∃ z, pb' (β 62) = z := ⟨_, rfl⟩
    obtain ⟨A63_40, hu_A63_40⟩ : ∃ z, sA (β 63) = z := ⟨_, rfl⟩
    obtain ⟨c63_40, hu_c63_40⟩ : ∃ z, sC (β 63) = z := ⟨_, rfl⟩
    simp only [exq 6 ((dTn (hD 2 lq)).2), exq 7 ((dTn (hD 3 lq)).2), exq 8 ((dTn (hD 4 lq))), hu_B62_40, hu_A63_40, hu_c63_40] at hst40
    simp only [ed 62 ((dTn (hD 2 lq)).1), ed 63 ((dTn (hD 3 lq)).1), hu_B62_40, hu_A63_40, hu_c63_40] at hfr
    clear hD hu_B62_40 hu_A63_40 hu_c63_40; subst hfr; clear σ β X
    refine blk_normal (then_normal (wp_region_P [0, 1] [tI 64 ((k : Int) + 1) (by omega), .k 20 (vi ((k : Int) + 1))] [(20, 1, 1, 21), (43, 0, 1, 44)] hst40 fun W41 hst41 => ?_))
    refine then_normal ?_
    rw [← hR] at hst41
    refine ⟨rs.length - ((k + 1)), by omega, ?_⟩
    have hp42 := hst41.pick [2, 6, 5, 0, 1] (by decide) rfl
    exact ⟨(k + 1), A63_40, c63_40, by omega, rfl, (by kernel_rfl), hp42⟩
  have hs12p : ¬ ((k : Int) < (rs.length : Int)) := by simpa using hs12
  refine wp_cond_false (show Act.eval _ _ = .bool false from (congrArg Value.bool hs12)) (wp_exit (then_exit (then_exit (blk_eq (then_normal (wp_seq ?_))))))
  have hk_ : k = rs.length := by omega
  have hl_ : valsB (rs.drop k) = [] := by rw [hk_, List.drop_length]; rfl
  rw [hl_] at hst11
  have hd44 : ((strL []).toList == ((⟨#[]⟩ : ByteArray)).toList) = true := beq_self_eq_true (strL []).toList
  refine wp_region_Z [0, 1, 3] [[0]] [.c 65 (.string (strL [])), .e 66 (.bool ((strL []).toList == ((⟨#[]⟩ : ByteArray)).toList)) (.bool true) (congrArg Value.bool hd44), .c 67 (.tuple #[])] [0, 1, 2, 3, 4] [0, 2] [(65, 0, 3, 68)] hst11 ?_ fun W43 hst43 => ?_
  · refine ⟨?_, ?_, trivial⟩
    · exact xs4 rfl id fun cx => run_load1 rfl (by kernel_rfl) (cx.ou 1) ((cx.bi 0 rfl).cell 0)
    · exact xsc rfl id rfl rfl fun cx => ⟨_, must_true _ _, (map2 (cx.an 1) (cx.co _))⟩
  refine then_normal (wp_seq (wp_region_Y [0, 1, 3] [[1], [1], [3]] [[], [5], [6]] [[], [1], [3]] [.c 68 (.slice RA k RC), .n, .n] (fun ix σ β X => match ix with | 0 => True | 1 => X 5 = eB B2_1 33 #[.slice RA k RC] | 2 => X 6 = eB B3_1 37 #[vi 0] | _ => True) [0, 2, 4, 5, 6] [0, 1, 2] [(68, 0, 1, 69)] hst43 ?_ ?_ ?_))
  · exact fun ix _ _ _ _ _ _ hs hb hx h => match ix, h with
    | 1, h => by dsimp only at h ⊢; rw [← hx 5 rfl]; exact h
    | 2, h => by dsimp only at h ⊢; rw [← hx 6 rfl]; exact h
    | 0, _ | _ + 3, _ => trivial
  · refine ⟨?_, ?_, ?_, trivial⟩
    · exact xs4 rfl id fun cx => run_load1 rfl (by kernel_rfl) (cx.ou 2) ((cx.bi 1 rfl).cell 0)
    · refine sv_any rfl rfl fun ρ β W X cx => ?_
      exact dv_store (n := 1) rfl (cx.ou 2) (cx.an 0) (by kernel_rfl) (by kernel_rfl) (by kernel_rfl) cx (cx.init 1 _ rfl) rfl (nle rfl) (by kernel_rfl) rfl rfl rfl (fun σ β' X' hs hb hx => hx)
    · refine sv_any rfl rfl fun ρ β W X cx => ?_
      exact dv_store (n := 1) rfl (cx.ou 3) (cx.co _) (by kernel_rfl) (by kernel_rfl) (by kernel_rfl) cx (cx.init 3 _ rfl) rfl (nle rfl) (by kernel_rfl) rfl rfl rfl (fun σ β' X' hs hb hx => hx)
  intro σ β X W45 hD hst45 fr hfr
  simp only [exq 5 ((dTn (hD 1 lq))), exq 6 ((dTn (hD 2 lq)))] at hst45
  clear hD; subst hfr; clear σ β X
  refine then_normal (wp_ret ?_)
  have c2 := (hst45.blk 3 rfl).cell 0
  have c3 := (hst45.blk 4 rfl).cell 0
  refine leaves_cons (f := 100) (args := #[vp B2_1, vp B3_1]) (by simp) (by simp [go_sem]) ?_
  refine (catch_idle _ _ _).mono ?_
  rintro e u' w'' ⟨rfl, rfl, rfl⟩
  refine ⟨.tuple #[.slice RA k RC, vi 0], ?_, ?_⟩
  · simp at c2 c3
    simp [results, Tryd.results71, go_sem, c2, c3]
  · have ho_ := hst45.own' 1 rfl
    rw [hk_, List.take_length] at ho_
    rw [hk_]
    exact ⟨_, _, rfl, ho_, hst45.ext⟩
end
end Go.Proofs.YtjnplglnnamfdaaDoor
namespace Go.Proofs.YtjnplglnnamfdaaDoor
section
open Go.RowKit
set_option linter.unusedVariables false
set_option linter.unusedSimpArgs false
/-- what value.Read hands back -/
def RdRow (rs : List Val) (w : World) (e : Ending) (w' : World) : Prop := ∃ A c, e = .returned (.tuple #[.slice A rs.length c, .int .i64 0]) ∧ w'.ownsRow w.heap.size 82 3 (.slice A rs.length c) rs.length (flatR rs) ∧ Ext w w'
def VerRd (a b n1 n2 : Int) (ho : Bool) (rs : List Val) (er : Int) (w : World) (e : Ending) (w' : World) : Prop := ∃ A c, e = .returned (.tuple #[.agg #[.int .i64 a, .int .i64 b, .int .i64 n1, .int .i64 n2, .bool ho, .slice A rs.length c], .int .i64 er]) ∧
  w'.ownsRow w.heap.size 82 3 (.slice A rs.length c) rs.length (flatR rs) ∧ Ext w w'
theorem numS_lt2 (s : ByteArray) (p : Nat) : numS s p 2 < 65536 := by
  have h := numL_lt (s.extract p (p + 2)).data.toList
  have hl : (s.extract p (p + 2)).data.toList.length ≤ 2 := by
    rw [Array.length_toList]
    show (s.extract p (p + 2)).size ≤ 2
    rw [ByteArray.size_extract]; omega
  have h2 : 256 ^ (s.extract p (p + 2)).data.toList.length ≤ 256 ^ 2 := Nat.pow_le_pow_right (by decide) hl
  exact Nat.lt_of_lt_of_le h h2
set_option maxRecDepth 100000 in
theorem oread_b (s : ByteArray) (w : World) : Calls Tryd.prog 64 #[.string s] w fun e w' => ∃ B, e = .returned (.pointer (some ⟨B, 0, none⟩)) ∧ (Blk w' B 168 #[.string s, .int .i64 0, .bool false] ∧ w.heap.size ≤ B) ∧ Ext w w' := by
  go_enter Tryd.func64, Tryd.ntmps64
  have hst0 := St.start w
  refine wp_seq (wp_region_P [0] [.k 2 (.pointer none)] [(2, 0, 1, 3)] hst0 fun W1 hst1 => ?_)
  refine then_normal (wp_seq (wp_region_Y [0, 1, 3, 7] [] [[], [], [0]] [] [.k 3 (.string s), .k 4 (.agg #[.string s, vi 0, .bool false]), .a 5, .a 2] (fun ix σ β X => match ix with | 0 => True | 1 => True | 2 => σ 5 = vp (pb (β 5)) ∧ X 0 = eB (pb (β 5)) 168 #[.string s, vi 0, .bool false] | 3 => σ 2 = vp (pb (β 5)) | _ => True) [0] [2, 3] [(2, 3, 1, 3), (0, 0, 3, 3)] hst1 ?_ ?_ ?_))
  · exact fun ix _ _ _ _ _ _ hs hb hx h => match ix, h with
    | 2, h => by dsimp only at h ⊢; rw [← hs 5 rfl, ← hb 5 rfl, ← hx 0 rfl]; exact h
    | 3, h => by dsimp only at h ⊢; rw [← hs 2 rfl, ← hb 5 rfl]; exact h
    | 0, _ | 1, _ | _ + 4, _ => trivial
  · refine ⟨?_, ?_, trivial⟩
    · refine sv_any rfl rfl fun ρ β W X cx => ?_
      exact dv_box (cs := #[.string s, vi 0, .bool false]) rfl (cx.an 1) rfl rfl rfl (fun σ β' X' hs hb hv hx => ⟨hv, hx⟩)
    · exact sv rfl rfl rfl rfl rfl _ (fun _ _ _ h => h) (fun β β' h => by rw [h 5 (by decide)]) fun ρ β W X cx => run_assign' rfl (dTn (cx.an 2)).1
  intro σ β X W2 hD hst2 fr hfr
  obtain ⟨B5_2, hu_B5_2⟩ : ∃ z, pb (β 5) = z := ⟨_, rfl⟩
  simp only [exq 0 ((dTn (hD 2 lq)).2), hu_B5_2] at hst2
  simp only [ed 5 ((dTn (hD 2 lq)).1), ed 2 ((dTn (hD 3 lq))), hu_B5_2] at hfr
  clear hD hu_B5_2; subst hfr; clear σ β X
  refine then_normal (wp_ret ?_)
  refine bodyPost_ret (v := vp B5_2) (results_tmp Tryd.results64 rfl) rfl ?_
  exact ⟨_, rfl, ⟨hst2.blk 0 rfl, ((hst2.get 0 rfl).own _ (by simp [eB])).1.resolve_left (by simp)⟩, hst2.ext⟩
set_option maxRecDepth 100000 in
set_option maxHeartbeats 2000000 in
theorem tread_good (s : ByteArray) (rs : List Val) (w : World) (hs : s.size ≤ 1000000) (h8 : 8 ≤ s.size) (ht : 8 + numS s 6 2 ≤ s.size) (hlr : rs.length ≤ 1000) (hN : NoneAt w) (HV : ∀ w, Calls Tryd.prog 71 #[.string (textS s 6)] w (RdRow rs w)) (hB : tbytesF (numS s 0 1) (numS s 1 1) ((numS s 2 2 : Int) - 1) (numS s 4 1) ((numS s 5 1 : Int) == 1) rs = s) :
    Calls Tryd.prog 35 #[.string s] w (VerRd (numS s 0 1) (numS s 1 1) ((numS s 2 2 : Int) - 1) (numS s 4 1) ((numS s 5 1 : Int) == 1) rs 0 w) := by
  have hq2 := numS_lt2 s 2
  go_enter Tryd.func35, Tryd.ntmps35
  have hst0 := St.start w
  refine wp_seq (wp_region_Y [0, 0] [] [[0]] [] [.a 2, .k 3 (vi 0)] (fun ix σ β X => match ix with | 0 => σ 2 = vp (pb (β 2)) ∧ X 0 = eB (pb (β 2)) 41 #[vi 0, vi 0, vi 0, vi 0, .bool false, .slice none 0 0] | _ => True) [0] [0] [(2, 0, 2, 4)] hst0 ?_ ?_ ?_)
  · exact fun ix _ _ _ _ _ _ hs hb hx h => match ix, h with
    | 0, h => by dsimp only at h ⊢; rw [← hs 2 rfl, ← hb 2 rfl, ← hx 0 rfl]; exact h
    | _ + 1, _ => trivial
  · refine ⟨?_, trivial⟩
    · refine sv_any rfl rfl fun ρ β W X cx => ?_
      exact dv_alloc (cs := #[vi 0, vi 0, vi 0, vi 0, .bool false, .slice none 0 0]) rfl (by kernel_rfl) rfl rfl (fun σ β' X' hs hb hv hx => ⟨hv, hx⟩)
  intro σ β X W1 hD hst1 fr hfr
  obtain ⟨B2_1, hu_B2_1⟩ : ∃ z, pb (β 2) = z := ⟨_, rfl⟩
  simp only [exq 0 ((dTn (hD 0 lq)).2), hu_B2_1] at hst1
  simp only [ed 2 ((dTn (hD 0 lq)).1), hu_B2_1] at hfr
  clear hD hu_B2_1; subst hfr; clear σ β X
  refine then_normal (wp_seq (wp_region_Y [0, 1, 3] [] [[], [1]] [] [.k 9 (.string s), .a 10, .a 4] (fun ix σ β X => match ix with | 0 => True | 1 => σ 10 = vp (pb (β 10)) ∧ X 1 = eB (pb (β 10)) 168 #[.string s, vi 0, .bool false] | 2 => σ 4 = vp (pb (β 10)) | _ => True) [0, 1] [1, 2] [(4, 2, 1, 5), (4, 0, 2, 6)] hst1 ?_ ?_ ?_))
  · exact fun ix _ _ _ _ _ _ hs hb hx h => match ix, h with
    | 1, h => by dsimp only at h ⊢; rw [← hs 10 rfl, ← hb 10 rfl, ← hx 1 rfl]; exact h
    | 2, h => by dsimp only at h ⊢; rw [← hs 4 rfl, ← hb 10 rfl]; exact h
    | 0, _ | _ + 3, _ => trivial
  · refine ⟨?_, ?_, trivial⟩
    · refine sv_any rfl rfl fun ρ β W X cx => ?_
      refine DoesU.call (run_callF (args := #[.string s]) rfl cx.sees rfl (by kernel_rfl) (map1 (cx.an 0))) ?_
      refine (oread_b s _).mono ?_
      rintro e W1 ⟨B4, rfl, ⟨hb4, hw4⟩, hx⟩
      refine ⟨_, rfl, post_call [eB B4 168 #[.string s, vi 0, .bool false]] rfl rfl hx (one_new ⟨hb4, eB_loc _ _ _, fun k hk => by simp [eB] at hk; subst hk; exact ⟨hw4, hb4.lt⟩⟩) (List.pairwise_singleton _ _) (fun σ β' X' hs hb hv hN => ?_)⟩
      have hv1 := (hv 10 rfl).1; have hv2 := (hv 10 rfl).2
      exact ⟨hv1.trans (by rw [hv2]; rfl), (by rw [hv2]; exact (List.cons.inj hN).1)⟩
    · exact sv rfl rfl rfl rfl rfl _ (fun _ _ _ h => h) (fun β β' h => by rw [h 10 (by decide)]) fun ρ β W X cx => run_assign' rfl (dTn (cx.an 1)).1
  intro σ β X W2 hD hst2 fr hfr
  obtain ⟨B10_2, hu_B10_2⟩ : ∃ z, pb (β 10) = z := ⟨_, rfl⟩
  simp only [exq 1 ((dTn (hD 1 lq)).2), hu_B10_2] at hst2
  simp only [ed 10 ((dTn (hD 1 lq)).1), ed 4 ((dTn (hD 2 lq))), hu_B10_2] at hfr
  clear hD hu_B10_2; subst hfr; clear σ β X
  refine then_normal (wp_seq (wp_region_Y [0, 1, 0, 7, 15, 0, 63] [[], [1], [], [2], [], [], [4]] [[], [2], [], [3], [], [4], [5]] [[], [1], [], [2], [], [], [4]] [.k 11 (vp B10_2), .a 12, .k 13 (vp B10_2), .a 14, .c 15 (.agg #[vi ((numS s 0 1 : Int)), vi ((numS s 1 1 : Int)), vi 0, vi 0, .bool false, .slice none 0 0]), .a 5, .n] (fun ix σ β X => match ix with | 0 => True | 1 => σ 12 = vi ((numS s 0 1 : Int)) ∧ X 2 = eB B10_2 168 #[.string s, vi 1, .bool false] | 2 => True | 3 => σ 14 = vi ((numS s 1 1 : Int)) ∧ X 3 = eB B10_2 168 #[.string s, vi 2, .bool false] | 4 => True | 5 => σ 5 = vp (pb (β 5)) ∧ X 4 = eB (pb (β 5)) 41 #[vi 0, vi 0, vi 0, vi 0, .bool false, .slice none 0 0] | 6 => X 5 = eB (pb (β 5)) 41 #[vi ((numS s 0 1 : Int)), vi ((numS s 1 1 : Int)), vi 0, vi 0, .bool false, .slice none 0 0] | _ => True) [0, 3, 5] [1, 3, 4, 5, 6] [(5, 5, 1, 6), (5, 0, 5, 10)] hst2 ?_ ?_ ?_))
  · exact fun ix _ _ _ _ _ _ hs hb hx h => match ix, h with
    | 1, h => by dsimp only at h ⊢; rw [← hs 12 rfl, ← hx 2 rfl]; exact h
    | 3, h => by dsimp only at h ⊢; rw [← hs 14 rfl, ← hx 3 rfl]; exact h
    | 5, h => by dsimp only at h ⊢; rw [← hs 5 rfl, ← hb 5 rfl, ← hx 4 rfl]; exact h
    | 6, h => by dsimp only at h ⊢; rw [← hb 5 rfl, ← hx 5 rfl]; exact h
    | 0, _ | 2, _ | 4, _ | _ + 7, _ => trivial
  · refine ⟨?_, ?_, ?_, ?_, ?_, trivial⟩
    · refine sv_any rfl rfl fun ρ β W X cx => ?_
      refine DoesU.call (run_callF (args := #[vp B10_2, vi 1]) rfl cx.sees rfl (by kernel_rfl) (map2 (cx.an 0) (cx.co _))) ?_
      refine (num_ok _ s 0 1 _ ⟨(cx.bi 1 rfl), by omega, by omega⟩ (by omega) (by omega)).mono ?_
      rintro e W1 ⟨rfl, hrd, hu⟩
      refine ⟨_, rfl, post_mut (cx.init 1 _ rfl) rfl rfl hu hrd.1 (fun σ β' X' hs hb hv hx => ?_)⟩
      exact ⟨(hv 12 rfl).1.trans rfl, hx⟩
    · refine sv_any rfl rfl fun ρ β W X cx => ?_
      refine DoesU.call (run_callF (args := #[vp B10_2, vi 1]) rfl cx.sees rfl (by kernel_rfl) (map2 (cx.an 2) (cx.co _))) ?_
      refine (num_ok _ s 1 1 _ ⟨(cx.blk (dTn (cx.an 1)).2 rfl), by omega, by omega⟩ (by omega) (by omega)).mono ?_
      rintro e W1 ⟨rfl, hrd, hu⟩
      refine ⟨_, rfl, post_mut (dTn (cx.an 1)).2 rfl rfl hu hrd.1 (fun σ β' X' hs hb hv hx => ?_)⟩
      exact ⟨(hv 14 rfl).1.trans rfl, hx⟩
    · exact xs4 rfl id fun cx => run_buildL rfl (pmc (dTn (cx.an 1)).1 (pmc (dTn (cx.an 3)).1 pmn)) (by kernel_rfl)
    · refine sv_any rfl rfl fun ρ β W X cx => ?_
      exact dv_alloc (cs := #[vi 0, vi 0, vi 0, vi 0, .bool false, .slice none 0 0]) rfl (by kernel_rfl) rfl rfl (fun σ β' X' hs hb hv hx => ⟨hv, hx⟩)
    · refine sv_any rfl rfl fun ρ β W X cx => ?_
      exact dv_store (n := 6) rfl (dTn (cx.an 5)).1 (cx.an 4) (by kernel_rfl) (by kernel_rfl) (by kernel_rfl) cx (dTn (cx.an 5)).2 rfl (nle rfl) (by kernel_rfl) rfl rfl rfl (fun σ β' X' hs hb hx => by rw [hb 5]; exact hx)
  intro σ β X W3 hD hst3 fr hfr
  obtain ⟨B5_3, hu_B5_3⟩ : ∃ z, pb (β 5) = z := ⟨_, rfl⟩
  simp only [exq 3 ((dTn (hD 3 lq)).2), exq 5 ((dTn (hD 6 lq))), hu_B5_3] at hst3
  simp only [ed 12 ((dTn (hD 1 lq)).1), ed 14 ((dTn (hD 3 lq)).1), ed 5 ((dTn (hD 5 lq)).1), hu_B5_3] at hfr
  clear hD hu_B5_3; subst hfr; clear σ β X
  refine then_normal (wp_seq (wp_region_Y [0, 1, 3, 0, 11, 31, 63, 127] [[], [1], [], [], [3], [], [], [2]] [[], [3], [], [], [4], [], [], [5]] [[], [1], [], [], [3], [], [], [2]] [.k 16 (vp B10_2), .a 17, .c 18 (vi ((numS s 2 2 : Int) - 1)), .k 19 (vp B10_2), .a 20, .c 21 (.agg #[vi ((numS s 2 2 : Int) - 1), vi ((numS s 4 1 : Int))]), .k 22 (.pointer (some ⟨B5_3, 2, none⟩)), .n] (fun ix σ β X => match ix with | 0 => True | 1 => σ 17 = vi ((numS s 2 2 : Int)) ∧ X 3 = eB B10_2 168 #[.string s, vi 4, .bool false] | 2 => True | 3 => True | 4 => σ 20 = vi ((numS s 4 1 : Int)) ∧ X 4 = eB B10_2 168 #[.string s, vi 5, .bool false] | 5 => True | 6 => True | 7 => X 5 = eB B5_3 41 #[vi ((numS s 0 1 : Int)), vi ((numS s 1 1 : Int)), vi ((numS s 2 2 : Int) - 1), vi ((numS s 4 1 : Int)), .bool false, .slice none 0 0] | _ => True) [0, 4, 5] [1, 2, 4, 5, 7] [(16, 0, 7, 23)] hst3 ?_ ?_ ?_))
  · exact fun ix _ _ _ _ _ _ hs hb hx h => match ix, h with
    | 1, h => by dsimp only at h ⊢; rw [← hs 17 rfl, ← hx 3 rfl]; exact h
    | 4, h => by dsimp only at h ⊢; rw [← hs 20 rfl, ← hx 4 rfl]; exact h
    | 7, h => by dsimp only at h ⊢; rw [← hx 5 rfl]; exact h
    | 0, _ | 2, _ | 3, _ | 5, _ | 6, _ | _ + 8, _ => trivial
  · refine ⟨?_, ?_, ?_, ?_, ?_, trivial⟩
    · refine sv_any rfl rfl fun ρ β W X cx => ?_
      refine DoesU.call (run_callF (args := #[vp B10_2, vi 2]) rfl cx.sees rfl (by kernel_rfl) (map2 (cx.an 0) (cx.co _))) ?_
      refine (num_ok _ s 2 2 _ ⟨(cx.bi 1 rfl), by omega, by omega⟩ (by omega) (by omega)).mono ?_
      rintro e W1 ⟨rfl, hrd, hu⟩
      refine ⟨_, rfl, post_mut (cx.init 1 _ rfl) rfl rfl hu hrd.1 (fun σ β' X' hs hb hv hx => ?_)⟩
      exact ⟨(hv 17 rfl).1.trans rfl, hx⟩
    · exact xs4 rfl id fun cx => run_bin rfl (dTn (cx.an 1)).1 (cx.co _) (congrArg (fun z => some (Value.int .i64 z)) ((IntWalk.i64_in _ (by omega)).trans (by omega)))
    · refine sv_any rfl rfl fun ρ β W X cx => ?_
      refine DoesU.call (run_callF (args := #[vp B10_2, vi 1]) rfl cx.sees rfl (by kernel_rfl) (map2 (cx.an 3) (cx.co _))) ?_
      refine (num_ok _ s 4 1 _ ⟨(cx.blk (dTn (cx.an 1)).2 rfl), by omega, by omega⟩ (by omega) (by omega)).mono ?_
      rintro e W1 ⟨rfl, hrd, hu⟩
      refine ⟨_, rfl, post_mut (dTn (cx.an 1)).2 rfl rfl hu hrd.1 (fun σ β' X' hs hb hv hx => ?_)⟩
      exact ⟨(hv 20 rfl).1.trans rfl, hx⟩
    · exact xs4 rfl id fun cx => run_buildL rfl (pmc (cx.an 2) (pmc (dTn (cx.an 4)).1 pmn)) (by kernel_rfl)
    · refine sv_any rfl rfl fun ρ β W X cx => ?_
      exact dv_store (n := 2) rfl (cx.an 6) (cx.an 5) (by kernel_rfl) (by kernel_rfl) (by kernel_rfl) cx (cx.init 2 _ rfl) rfl (nle rfl) (by kernel_rfl) rfl rfl rfl (fun σ β' X' hs hb hx => hx)
  intro σ β X W4 hD hst4 fr hfr
  simp only [exq 4 ((dTn (hD 4 lq)).2), exq 5 ((dTn (hD 7 lq)))] at hst4
  simp only [ed 17 ((dTn (hD 1 lq)).1), ed 20 ((dTn (hD 4 lq)).1)] at hfr
  clear hD; subst hfr; clear σ β X
  refine then_normal (wp_seq (wp_region_Y [0, 1, 3, 7, 15] [[], [1], [], [], [2]] [[], [3], [], [], [4]] [[], [1], [], [], [2]] [.k 23 (vp B10_2), .a 24, .c 25 (.bool ((numS s 5 1 : Int) == 1)), .k 26 (.pointer (some ⟨B5_3, 4, none⟩)), .n] (fun ix σ β X => match ix with | 0 => True | 1 => σ 24 = vi ((numS s 5 1 : Int)) ∧ X 3 = eB B10_2 168 #[.string s, vi 6, .bool false] | 2 => True | 3 => True | 4 => X 4 = eB B5_3 41 #[vi ((numS s 0 1 : Int)), vi ((numS s 1 1 : Int)), vi ((numS s 2 2 : Int) - 1), vi ((numS s 4 1 : Int)), .bool ((numS s 5 1 : Int) == 1), .slice none 0 0] | _ => True) [0, 3, 4] [1, 2, 4] [(23, 0, 4, 27)] hst4 ?_ ?_ ?_))
  · exact fun ix _ _ _ _ _ _ hs hb hx h => match ix, h with
    | 1, h => by dsimp only at h ⊢; rw [← hs 24 rfl, ← hx 3 rfl]; exact h
    | 4, h => by dsimp only at h ⊢; rw [← hx 4 rfl]; exact h
    | 0, _ | 2, _ | 3, _ | _ + 5, _ => trivial
  · refine ⟨?_, ?_, ?_, trivial⟩
    · refine sv_any rfl rfl fun ρ β W X cx => ?_
      refine DoesU.call (run_callF (args := #[vp B10_2, vi 1]) rfl cx.sees rfl (by kernel_rfl) (map2 (cx.an 0) (cx.co _))) ?_
      refine (num_ok _ s 5 1 _ ⟨(cx.bi 1 rfl), by omega, by omega⟩ (by omega) (by omega)).mono ?_
      rintro e W1 ⟨rfl, hrd, hu⟩
      refine ⟨_, rfl, post_mut (cx.init 1 _ rfl) rfl rfl hu hrd.1 (fun σ β' X' hs hb hv hx => ?_)⟩
      exact ⟨(hv 24 rfl).1.trans rfl, hx⟩
    · exact xs4 rfl id fun cx => run_bin rfl (dTn (cx.an 1)).1 (cx.co _) rfl
    · refine sv_any rfl rfl fun ρ β W X cx => ?_
      exact dv_store (n := 1) rfl (cx.an 3) (cx.an 2) (by kernel_rfl) (by kernel_rfl) (by kernel_rfl) cx (cx.init 2 _ rfl) rfl (nle rfl) (by kernel_rfl) rfl rfl rfl (fun σ β' X' hs hb hx => hx)
  intro σ β X W5 hD hst5 fr hfr
  simp only [exq 3 ((dTn (hD 1 lq)).2), exq 4 ((dTn (hD 4 lq)))] at hst5
  simp only [ed 24 ((dTn (hD 1 lq)).1)] at hfr
  clear hD; subst hfr; clear σ β X
  refine then_normal (wp_seq (wp_region_Y [0, 1, 3] [[], [1]] [[], [3]] [[], [1]] [.k 27 (vp B10_2), .a 28, .c 6 (.string (textS s 6))] (fun ix σ β X => match ix with | 0 => True | 1 => σ 28 = .string (textS s 6) ∧ X 3 = eB B10_2 168 #[.string s, vi (((6 + 2 + numS s 6 2 : Nat) : Int)), .bool false] | _ => True) [0, 2, 3] [1, 2] [(6, 2, 1, 7), (20, 0, 2, 22)] hst5 ?_ ?_ ?_))
  · exact fun ix _ _ _ _ _ _ hs hb hx h => match ix, h with
    | 1, h => by dsimp only at h ⊢; rw [← hs 28 rfl, ← hx 3 rfl]; exact h
    | 0, _ | _ + 2, _ => trivial
  · refine ⟨?_, ?_, trivial⟩
    · refine sv_any rfl rfl fun ρ β W X cx => ?_
      refine DoesU.call (run_callF (args := #[vp B10_2]) rfl cx.sees rfl (by kernel_rfl) (map1 (cx.an 0))) ?_
      refine (text_ok _ s 6 _ ⟨(cx.bi 1 rfl), by omega, by omega⟩ (by omega) (by omega)).mono ?_
      rintro e W1 ⟨rfl, hrd, hu⟩
      refine ⟨_, rfl, post_mut (cx.init 1 _ rfl) rfl rfl hu hrd.1 (fun σ β' X' hs hb hv hx => ?_)⟩
      exact ⟨(hv 28 rfl).1.trans rfl, hx⟩
    · exact xs4 rfl id fun cx => run_assign' rfl (dTn (cx.an 1)).1
  intro σ β X W6 hD hst6 fr hfr
  simp only [exq 3 ((dTn (hD 1 lq)).2)] at hst6
  simp only [ed 28 ((dTn (hD 1 lq)).1)] at hfr
  clear hD; subst hfr; clear σ β X
  refine then_normal (wp_seq (wp_seq (wp_region_Y [0, 1] [[], [2]] [] [] [.k 29 (vp B10_2), .a 30] (fun ix σ β X => match ix with | 0 => True | 1 => σ 30 = .bool false | _ => True) [0, 1, 2] [1] [(29, 0, 2, 31)] hst6 ?_ ?_ ?_)))
  · exact fun ix _ _ _ _ _ _ hs hb hx h => match ix, h with
    | 1, h => (hs _ rfl).symm.trans h
    | 0, _ | _ + 2, _ => trivial
  · refine ⟨?_, trivial⟩
    · refine sv_any rfl rfl fun ρ β W X cx => ?_
      refine DoesU.call (run_callF (args := #[vp B10_2]) rfl cx.sees rfl (by kernel_rfl) (map1 (cx.an 0))) ?_
      refine (failed_any _ s (((6 + 2 + numS s 6 2 : Nat))) false _ ⟨(cx.bi 2 rfl), by omega, by omega⟩).mono ?_
      rintro e W1 ⟨rfl, rfl⟩
      refine ⟨_, rfl, post_call [] rfl rfl (Ext.refl _) (by simp) List.Pairwise.nil (fun σ β' X' hs hb hv hN => ?_)⟩
      have hv1 := (hv 30 rfl).1; have hv2 := (hv 30 rfl).2
      exact hv1.trans rfl
  intro σ β X W7 hD hst7 fr hfr
  simp only [ed 30 ((dTn (hD 1 lq)))] at hfr
  clear hD; subst hfr; clear σ β X
  refine then_normal (wp_cond_false (show Act.eval _ _ = .bool false from rfl) (wp_skip (then_normal (wp_seq (wp_region_Y [0, 1, 3, 7, 7, 15, 63] [] [[], [3]] [] [.k 33 (.string (textS s 6)), .a 34, .a 32, .a 35, .c 36 (vi 0), .a 7, .k 8 (vi 0)] (fun ix σ β X => match ix with | 0 => True | 1 => σ 34 = .tuple #[.slice (sA (tg (β 34) 0)) rs.length (sC (tg (β 34) 0)), vi 0] ∧ X 3 = eO 82 3 (.slice (sA (tg (β 34) 0)) rs.length (sC (tg (β 34) 0))) rs.length (flatR rs) | 2 => σ 32 = .tuple #[.slice (sA (tg (β 34) 0)) rs.length (sC (tg (β 34) 0)), vi 0] | 3 => σ 35 = .slice (sA (tg (β 34) 0)) rs.length (sC (tg (β 34) 0)) | 4 => True | 5 => σ 7 = .slice (sA (tg (β 34) 0)) rs.length (sC (tg (β 34) 0)) | _ => True) [0, 1, 2, 3] [1, 2, 3, 4, 5] [(7, 5, 2, 9), (23, 2, 1, 24), (0, 0, 2, 2), (0, 3, 2, 2)] hst7 ?_ ?_ ?_)))))
  · exact fun ix _ _ _ _ _ _ hs hb hx h => match ix, h with
    | 1, h => by dsimp only at h ⊢; rw [← hs 34 rfl, ← hb 34 rfl, ← hx 3 rfl]; exact h
    | 2, h => by dsimp only at h ⊢; rw [← hs 32 rfl, ← hb 34 rfl]; exact h
    | 3, h => by dsimp only at h ⊢; rw [← hs 35 rfl, ← hb 34 rfl]; exact h
    | 5, h => by dsimp only at h ⊢; rw [← hs 7 rfl, ← hb 34 rfl]; exact h
    | 0, _ | 4, _ | _ + 6, _ => trivial
  · refine ⟨?_, ?_, ?_, ?_, ?_, trivial⟩
    · refine sv_any rfl rfl fun ρ β W X cx => ?_
      refine DoesU.call (run_callF (args := #[.string (textS s 6)]) rfl cx.sees rfl (by kernel_rfl) (map1 (cx.an 0))) ?_
      refine (HV _).mono ?_
      rintro e W1 ⟨A4, c4, rfl, ho, hx⟩
      refine ⟨_, rfl, post_call [eO 82 3 (.slice A4 rs.length c4) rs.length (flatR rs)] rfl rfl hx (one_new (eO_new ho)) (List.pairwise_singleton _ _) (fun σ β' X' hs hb hv hN => ?_)⟩
      have hv1 := (hv 34 rfl).1; have hv2 := (hv 34 rfl).2
      exact ⟨hv1.trans (by rw [hv2]; rfl), (by rw [hv2]; exact (List.cons.inj hN).1)⟩
    · exact sv rfl rfl rfl rfl rfl _ (fun _ _ _ h => h) (fun β β' h => by rw [h 34 (by decide)]) fun ρ β W X cx => run_move' rfl (dTn (cx.an 1)).1
    · exact sv rfl rfl rfl rfl rfl _ (fun _ _ _ h => h) (fun β β' h => by rw [h 34 (by decide)]) fun ρ β W X cx => run_extract' rfl (dTn (cx.an 2)) rfl
    · exact xs4 rfl id fun cx => run_extract' rfl (dTn (cx.an 2)) rfl
    · exact sv rfl rfl rfl rfl rfl _ (fun _ _ _ h => h) (fun β β' h => by rw [h 34 (by decide)]) fun ρ β W X cx => run_assign' rfl (dTn (cx.an 3))
  intro σ β X W8 hD hst8 fr hfr
  obtain ⟨A34_8, hu_A34_8⟩ : ∃ z, sA (tg (β 34) 0) = z := ⟨_, rfl⟩
  obtain ⟨c34_8, hu_c34_8⟩ : ∃ z, sC (tg (β 34) 0) = z := ⟨_, rfl⟩
  simp only [exq 3 ((dTn (hD 1 lq)).2), hu_A34_8, hu_c34_8] at hst8
  simp only [ed 34 ((dTn (hD 1 lq)).1), ed 32 ((dTn (hD 2 lq))), ed 35 ((dTn (hD 3 lq))), ed 7 ((dTn (hD 5 lq))), hu_A34_8, hu_c34_8] at hfr
  clear hD hu_A34_8 hu_c34_8; subst hfr; clear σ β X
  refine then_normal (wp_seq (wp_region_Y [0, 1, 3] [[], [], [1]] [[], [], [4]] [[], [], [1]] [.k 37 (.slice A34_8 rs.length c34_8), .k 38 (.pointer (some ⟨B5_3, 5, none⟩)), .n] (fun ix σ β X => match ix with | 0 => True | 1 => True | 2 => X 4 = eB B5_3 41 #[vi ((numS s 0 1 : Int)), vi ((numS s 1 1 : Int)), vi ((numS s 2 2 : Int) - 1), vi ((numS s 4 1 : Int)), .bool ((numS s 5 1 : Int) == 1), .slice A34_8 rs.length c34_8] | _ => True) [0, 2, 3, 4] [2] [(37, 0, 2, 39)] hst8 ?_ ?_ ?_))
  · exact fun ix _ _ _ _ _ _ hs hb hx h => match ix, h with
    | 2, h => by dsimp only at h ⊢; rw [← hx 4 rfl]; exact h
    | 0, _ | 1, _ | _ + 3, _ => trivial
  · refine ⟨?_, trivial⟩
    · refine sv_any rfl rfl fun ρ β W X cx => ?_
      exact dv_store (n := 1) rfl (cx.an 1) (cx.an 0) (by kernel_rfl) (by kernel_rfl) (by kernel_rfl) cx (cx.init 1 _ rfl) rfl (nle rfl) (by kernel_rfl) rfl rfl rfl (fun σ β' X' hs hb hx => hx)
  intro σ β X W9 hD hst9 fr hfr
  simp only [exq 4 ((dTn (hD 2 lq)))] at hst9
  clear hD; subst hfr; clear σ β X
  refine then_normal (wp_seq (wp_seq ?_))
  have hd11 : (!((tbytesF (numS s 0 1 : Int) (numS s 1 1 : Int) ((numS s 2 2 : Int) - 1) (numS s 4 1 : Int) ((numS s 5 1 : Int) == 1) rs).toList == s.toList)) = false := by rw [hB]; simp
  refine wp_region_Z [0, 1, 3, 7, 15, 7, 63, 127] [[], [], [], [3], [2]] [.k 39 (vi 0), .k 40 (.bool false), .k 41 (.bool false), .c 42 (.agg #[vi ((numS s 0 1 : Int)), vi ((numS s 1 1 : Int)), vi ((numS s 2 2 : Int) - 1), vi ((numS s 4 1 : Int)), .bool ((numS s 5 1 : Int) == 1), .slice A34_8 rs.length c34_8]), .c 43 (.string (tbytesF (numS s 0 1 : Int) (numS s 1 1 : Int) ((numS s 2 2 : Int) - 1) (numS s 4 1 : Int) ((numS s 5 1 : Int) == 1) rs)), .k 44 (.string s), .e 45 (.bool (!((tbytesF (numS s 0 1 : Int) (numS s 1 1 : Int) ((numS s 2 2 : Int) - 1) (numS s 4 1 : Int) ((numS s 5 1 : Int) == 1) rs).toList == s.toList))) (.bool false) (congrArg Value.bool hd11), .k 46 (.bool false)] [0, 1, 2, 3] [3, 4] [(39, 0, 8, 47)] hst9 ?_ fun W10 hst10 => ?_
  · refine ⟨?_, ?_, trivial⟩
    · exact xs5 rfl id (fun cx => (cx.an 2)) fun cx => run_loadB (n := 6) rfl (by kernel_rfl) (by kernel_rfl) (cx.ou 5) (cx.bi 3 rfl) (nle rfl) rfl
    · exact sv_call_on rfl rfl rfl rfl rfl rfl (fun _ _ _ h => h) (fun _ _ _ _ cx => (cx.an 2)) fun ρ β W X cx => ⟨_, _, run_callF (args := #[.agg #[vi ((numS s 0 1 : Int)), vi ((numS s 1 1 : Int)), vi ((numS s 2 2 : Int) - 1), vi ((numS s 4 1 : Int)), .bool ((numS s 5 1 : Int) == 1), .slice A34_8 rs.length c34_8]]) rfl cx.sees rfl (by kernel_rfl) (map1 (cx.an 3)), tbytes_any (numS s 0 1 : Int) (numS s 1 1 : Int) ((numS s 2 2 : Int) - 1) (numS s 4 1 : Int) ((numS s 5 1 : Int) == 1) _ _ rs _ (At.of_ownN (cx.ri 2 rfl)) (by omega) (hN.ext cx.upd.to_ext)⟩
  refine then_normal (wp_cond_false (show Act.eval _ _ = .bool false from rfl) (wp_skip (then_normal (wp_seq (wp_region_Y [0, 1, 3] [[3], [0]] [[], [4]] [[], [0]] [.c 48 (.agg #[vi ((numS s 0 1 : Int)), vi ((numS s 1 1 : Int)), vi ((numS s 2 2 : Int) - 1), vi ((numS s 4 1 : Int)), .bool ((numS s 5 1 : Int) == 1), .slice A34_8 rs.length c34_8]), .n, .k 3 (vi 0)] (fun ix σ β X => match ix with | 0 => True | 1 => X 4 = eB B2_1 41 #[vi ((numS s 0 1 : Int)), vi ((numS s 1 1 : Int)), vi ((numS s 2 2 : Int) - 1), vi ((numS s 4 1 : Int)), .bool ((numS s 5 1 : Int) == 1), .slice A34_8 rs.length c34_8] | _ => True) [1, 2, 3, 4] [0, 1] [(3, 2, 1, 4), (44, 0, 1, 45)] hst10 ?_ ?_ ?_)))))
  · exact fun ix _ _ _ _ _ _ hs hb hx h => match ix, h with
    | 1, h => by dsimp only at h ⊢; rw [← hx 4 rfl]; exact h
    | 0, _ | _ + 2, _ => trivial
  · refine ⟨?_, ?_, trivial⟩
    · exact xs4 rfl id fun cx => run_loadB (n := 6) rfl (by kernel_rfl) (by kernel_rfl) (cx.ou 5) (cx.bi 3 rfl) (nle rfl) rfl
    · refine sv_any rfl rfl fun ρ β W X cx => ?_
      exact dv_store (n := 6) rfl (cx.ou 2) (cx.an 0) (by kernel_rfl) (by kernel_rfl) (by kernel_rfl) cx (cx.init 0 _ rfl) rfl (nle rfl) (by kernel_rfl) rfl rfl rfl (fun σ β' X' hs hb hx => hx)
  intro σ β X W12 hD hst12 fr hfr
  simp only [exq 4 ((dTn (hD 1 lq)))] at hst12
  clear hD; subst hfr; clear σ β X
  refine then_normal (wp_ret ?_)
  have hr13 : W12.cell? ⟨B2_1, 0, none⟩ = some (vi ((numS s 0 1 : Int))) := (hst12.blk 3 rfl).cell 0
  have hr14 : W12.cell? ⟨B2_1, 1, none⟩ = some (vi ((numS s 1 1 : Int))) := (hst12.blk 3 rfl).cell 1
  have hr15 : W12.cell? ⟨B2_1, 2, none⟩ = some (vi ((numS s 2 2 : Int) - 1)) := (hst12.blk 3 rfl).cell 2
  have hr16 : W12.cell? ⟨B2_1, 3, none⟩ = some (vi ((numS s 4 1 : Int))) := (hst12.blk 3 rfl).cell 3
  have hr17 : W12.cell? ⟨B2_1, 4, none⟩ = some (.bool ((numS s 5 1 : Int) == 1)) := (hst12.blk 3 rfl).cell 4
  have hr18 : W12.cell? ⟨B2_1, 5, none⟩ = some (.slice A34_8 rs.length c34_8) := (hst12.blk 3 rfl).cell 5
  refine bodyPost_ret (v := .tuple #[.agg #[vi ((numS s 0 1 : Int)), vi ((numS s 1 1 : Int)), vi ((numS s 2 2 : Int) - 1), vi ((numS s 4 1 : Int)), .bool ((numS s 5 1 : Int) == 1), .slice A34_8 rs.length c34_8], vi 0]) (by simp [results, Tryd.results35, go_sem, hr13, hr14, hr15, hr16, hr17, hr18]) rfl ?_
  exact ⟨_, _, rfl, hst12.own' 1 rfl, hst12.ext⟩
end
end Go.Proofs.YtjnplglnnamfdaaDoor
namespace Go.Proofs.YtjnplglnnamfdaaDoor
section
open Go.RowKit
set_option linter.unusedVariables false
set_option linter.unusedSimpArgs false
theorem bl_strL (l : List UInt8) : bl (strL l) = l := by simp [bl, strL]
theorem bl_catS (l : List ByteArray) : bl (catS l) = l.flatMap bl := by rw [catS, bl_strL]; rfl
theorem putS_bl (n : Int) (k : Nat) (h : k ≤ 8) : (bl (putS n k)).length = k := by rw [bl_len, putS_size n k h]
theorem hot_bd (ho : Bool) : 0 ≤ hotI ho ∧ hotI ho ≤ 1 := by cases ho <;> decide
theorem hot_eq (ho : Bool) : (hotI ho == 1) = ho := by cases ho <;> rfl
section
variable {a b n1 n2 : Int} {ho : Bool} {rs : List Val}
theorem tb_bl (h : trightF a b n1 n2 rs = true) : bl (tbytesF a b n1 n2 ho rs) = bl (putS a 1) ++ (bl (putS b 1) ++ (bl (putS (n1 + 1) 2) ++ (bl (putS n2 1) ++ (bl (putS (hotI ho) 1) ++ (bl (putS (vbytesF rs).size 2) ++ bl (vbytesF rs)))))) := by
  rw [tbytesF, if_pos h, bl_catS]
  simp [textO, bl_append]
theorem tb_size (h : trightF a b n1 n2 rs = true) : (tbytesF a b n1 n2 ho rs).size = 8 + (vbytesF rs).size := by
  rw [← bl_len, tb_bl h]
  simp only [List.length_append, putS_bl _ 1 (by omega), putS_bl _ 2 (by omega), bl_len]
  omega
theorem tb_0 (h : trightF a b n1 n2 rs = true) : (numS (tbytesF a b n1 n2 ho rs) 0 1 : Int) = a := by
  have hp := tright_parts h
  rw [numS_at (a := []) (p := 0) (tb_bl h) rfl (putS_bl _ 1 (by omega)), putS_num1 a (by omega) (by omega)]
theorem tb_1 (h : trightF a b n1 n2 rs = true) : (numS (tbytesF a b n1 n2 ho rs) 1 1 : Int) = b := by
  have hp := tright_parts h
  rw [numS_at (a := bl (putS a 1)) (p := 1) (tb_bl h) (putS_bl _ 1 (by omega)) (putS_bl _ 1 (by omega)), putS_num1 b (by omega) (by omega)]
theorem tb_2 (h : trightF a b n1 n2 rs = true) : (numS (tbytesF a b n1 n2 ho rs) 2 2 : Int) = n1 + 1 := by
  have hp := tright_parts h
  rw [numS_at (p := 2) (a := bl (putS a 1) ++ bl (putS b 1)) (by rw [tb_bl h, List.append_assoc]) (by rw [List.length_append, putS_bl _ 1 (by omega), putS_bl _ 1 (by omega)]) (putS_bl _ 2 (by omega)), putS_num2 (n1 + 1) (by omega) (by omega)]
theorem tb_4 (h : trightF a b n1 n2 rs = true) : (numS (tbytesF a b n1 n2 ho rs) 4 1 : Int) = n2 := by
  have hp := tright_parts h
  rw [numS_at (p := 4) (a := bl (putS a 1) ++ (bl (putS b 1) ++ bl (putS (n1 + 1) 2))) (b := bl (putS n2 1)) (c := bl (putS (hotI ho) 1) ++ (bl (putS (vbytesF rs).size 2) ++ bl (vbytesF rs))) (by rw [tb_bl h]; simp) (by simp only [List.length_append, putS_bl _ 1 (by omega), putS_bl _ 2 (by omega)]) (putS_bl _ 1 (by omega)), putS_num1 n2 (by omega) (by omega)]
theorem tb_5 (h : trightF a b n1 n2 rs = true) : (numS (tbytesF a b n1 n2 ho rs) 5 1 : Int) = hotI ho := by
  have hp := tright_parts h
  have hh := hot_bd ho
  rw [numS_at (p := 5) (a := bl (putS a 1) ++ (bl (putS b 1) ++ (bl (putS (n1 + 1) 2) ++ bl (putS n2 1)))) (b := bl (putS (hotI ho) 1)) (c := (bl (putS (vbytesF rs).size 2) ++ bl (vbytesF rs))) (by rw [tb_bl h]; simp) (by simp only [List.length_append, putS_bl _ 1 (by omega), putS_bl _ 2 (by omega)]) (putS_bl _ 1 (by omega)), putS_num1 (hotI ho) (by omega) (by omega)]
theorem tb_6 (h : trightF a b n1 n2 rs = true) : numS (tbytesF a b n1 n2 ho rs) 6 2 = (vbytesF rs).size := by
  have hv := vbytes_size rs
  have e := numS_at (s := tbytesF a b n1 n2 ho rs) (a := bl (putS a 1) ++ (bl (putS b 1) ++ (bl (putS (n1 + 1) 2) ++ (bl (putS n2 1) ++ bl (putS (hotI ho) 1))))) (b := bl (putS (vbytesF rs).size 2)) (c := bl (vbytesF rs)) (by rw [tb_bl h]; simp) (p := 6) (by simp only [List.length_append, putS_bl _ 1 (by omega), putS_bl _ 2 (by omega)]) (putS_bl _ 2 (by omega))
  have e2 := putS_num2 ((vbytesF rs).size : Int) (by omega) (by omega)
  rw [e]; omega
theorem tb_t (h : trightF a b n1 n2 rs = true) : textS (tbytesF a b n1 n2 ho rs) 6 = vbytesF rs := by
  have e : bl (tbytesF a b n1 n2 ho rs) = (bl (putS a 1) ++ (bl (putS b 1) ++ (bl (putS (n1 + 1) 2) ++ (bl (putS n2 1) ++ (bl (putS (hotI ho) 1) ++ bl (putS (vbytesF rs).size 2)))))) ++ (bl (vbytesF rs) ++ []) := by rw [tb_bl h]; simp
  rw [textS, tb_6 h, extr_at e (p := 6 + 2) (by simp only [List.length_append, putS_bl _ 1 (by omega), putS_bl _ 2 (by omega)]) (by rw [bl_len]), baOf_bl]
theorem plain_right (v : Val) : vrightF (plainV v) = vrightF v := by
  simp only [vrightF, plainV]
  by_cases h : v.1 = 2
  · simp [h]
  · have : (v.1 != 2) = true := by simpa using h
    rw [this]; simp
theorem plain_rright (rs : List Val) : rrightF (plainR rs) = rrightF rs := by
  simp only [rrightF, plainR, List.all_map, List.length_map]
  congr 2
  funext v
  exact plain_right v
theorem plain_valB (v : Val) : valB (plainV v) = valB v := by
  simp only [valB, plainV]
  by_cases h1 : v.1 = 1
  · simp [h1]
  · by_cases h2 : v.1 = 2
    · simp [h2]
    · simp [h1, h2]
theorem plain_vbytes (rs : List Val) : vbytesF (plainR rs) = vbytesF rs := by
  simp only [vbytesF, plain_rright]
  split
  · have hv : plainR rs = rs.map plainV := rfl
    simp only [bytesTo, plainR, List.length_map, ← List.map_take, List.flatMap_map]
    congr 2
    congr 1
    funext v
    exact plain_valB v
  · rfl
theorem plain_tright : trightF a b n1 n2 (plainR rs) = trightF a b n1 n2 rs := by rw [trightF, trightF, plain_rright]
theorem plain_tbytes : tbytesF a b n1 n2 ho (plainR rs) = tbytesF a b n1 n2 ho rs := by rw [tbytesF, tbytesF, plain_tright, plain_vbytes]
def NsOk (rs : List Val) : Prop := ∀ v ∈ rs, v.1 = 1 → -9223372036854775808 ≤ v.2.1 ∧ v.2.1 ≤ 9223372036854775807
theorem tread_of (w : World) (h : trightF a b n1 n2 rs = true) (hrN : NsOk rs) (hN : NoneAt w) : Calls Tryd.prog 35 #[.string (tbytesF a b n1 n2 ho rs)] w (VerRd a b n1 n2 ho (plainR rs) 0 w) := by
  have hr := (tright_parts h).2.2.2.2.2.2.2.2
  have hl6 := rright_len hr
  have hv := vbytes_size rs
  have HV : ∀ w, Calls Tryd.prog 71 #[.string (textS (tbytesF a b n1 n2 ho rs) 6)] w (RdRow (plainR rs) w) := fun w => by
    rw [tb_t h, vbytes_eq hr]
    refine (vread_any rs _ w hr hrN (u8_int (by omega))).mono ?_
    rintro e w' ⟨A, c, he, ho', hx⟩
    have hlen : (plainR rs).length = rs.length := by simp [plainR]
    exact ⟨A, c, by rw [hlen]; exact he, by rw [hlen]; exact ho', hx⟩
  have h2 := tread_good (tbytesF a b n1 n2 ho rs) (plainR rs) w (by rw [tb_size h]; omega) (by rw [tb_size h]; omega) (by rw [tb_size h, tb_6 h]; omega) (by simp only [plainR, List.length_map]; omega) hN HV (by
    rw [tb_0 h, tb_1 h, tb_2 h, tb_4 h, tb_5 h, hot_eq, show n1 + 1 - 1 = n1 by omega]; exact plain_tbytes)
  rw [tb_0 h, tb_1 h, tb_2 h, tb_4 h, tb_5 h, hot_eq, show n1 + 1 - 1 = n1 by omega] at h2
  exact h2
end
end
end Go.Proofs.YtjnplglnnamfdaaDoor
namespace Go.Proofs.YtjnplglnnamfdaaDoor
section
open Go.RowKit
set_option linter.unusedVariables false
set_option linter.unusedSimpArgs false
theorem strL_bl (s : ByteArray) : s = strL s.data.toList := (strL_data s).symm
section
variable {P : Program} {o : Oper} {ρ : Operand → Value} {W : World}
end
end
end Go.Proofs.YtjnplglnnamfdaaDoor
namespace Go.Proofs.YtjnplglnnamfdaaDoor
section
open Go.RowKit
set_option linter.unusedVariables false
set_option linter.unusedSimpArgs false
/-- where a reader stands that has read fields of these widths (the last one first), and whether it has failed -/
def stT (s : ByteArray) : List Nat → Nat × Bool
  | [] => (0, false)
  | k :: L => if (stT s L).2 = false ∧ (stT s L).1 + k ≤ s.size then ((stT s L).1 + k, false) else ((stT s L).1, true)
def stV (s : ByteArray) (L : List Nat) (k : Nat) : Int := if (stT s L).2 = false ∧ (stT s L).1 + k ≤ s.size then (numS s (stT s L).1 k : Int) else 0
theorem stT_le (s : ByteArray) (L : List Nat) : (stT s L).1 ≤ s.size := by
  cases L with
  | nil => exact Nat.zero_le _
  | cons k L =>
    have := stT_le s L
    simp only [stT]
    split <;> omega
theorem stV_bd (s : ByteArray) (L : List Nat) : 0 ≤ stV s L 2 ∧ stV s L 2 < 65536 := by
  have := numS_lt2 s (stT s L).1
  rw [stV]
  split <;> omega
theorem num_st (B : Nat) (s : ByteArray) (L : List Nat) (k : Nat) (w : World) (h : Rd 168 w B s (stT s L).1 (stT s L).2) (hk : k ≤ 4) :
    Calls Tryd.prog 65 #[.pointer (some ⟨B, 0, none⟩), .int .i64 k] w (RdPost 168 (.int .i64 (stV s L k)) B s (stT s (k :: L)).1 (stT s (k :: L)).2 w) := by
  by_cases hc : (stT s L).2 = false ∧ (stT s L).1 + k ≤ s.size
  · have e1 : stT s (k :: L) = ((stT s L).1 + k, false) := by simp only [stT]; rw [if_pos hc]
    rw [e1, stV, if_pos hc]
    rw [hc.1] at h
    exact num_ok B s _ k w h hk hc.2
  · have e1 : stT s (k :: L) = ((stT s L).1, true) := by simp only [stT]; rw [if_neg hc]
    rw [e1, stV, if_neg hc]
    refine num_bad B s _ k _ w h hk ?_
    cases hf : (stT s L).2 with
    | true => exact .inl rfl
    | false => exact .inr (Nat.lt_of_not_le fun h_ => hc ⟨hf, h_⟩)
theorem st_short {s : ByteArray} (h : s.size < 8) : (stT s [1, 1, 2, 1, 1]).2 = true ∨ s.size < (stT s [1, 1, 2, 1, 1]).1 + 2 := by
  simp only [stT]
  repeat' split
  all_goals first | exact .inl rfl | (refine .inr ?_; simp only at *; omega) | (simp_all <;> omega)
set_option maxRecDepth 100000 in
set_option maxHeartbeats 2000000 in
theorem tread_sh (s : ByteArray) (w : World) (hs : s.size < 8) :
    Calls Tryd.prog 35 #[.string s] w (Ret (.tuple #[.agg #[.int .i64 0, .int .i64 0, .int .i64 0, .int .i64 0, .bool false, .slice none 0 0], .int .i64 10]) w) := by
  have hvb := stV_bd s [1, 1]
  go_enter Tryd.func35, Tryd.ntmps35
  have hst0 := St.start w
  refine wp_seq (wp_region_Y [0, 0] [] [[0]] [] [.a 2, .k 3 (vi 0)] (fun ix σ β X => match ix with | 0 => σ 2 = vp (pb (β 2)) ∧ X 0 = eB (pb (β 2)) 41 #[vi 0, vi 0, vi 0, vi 0, .bool false, .slice none 0 0] | _ => True) [0] [0] [(2, 0, 2, 4)] hst0 ?_ ?_ ?_)
  · exact fun ix _ _ _ _ _ _ hs hb hx h => match ix, h with
    | 0, h => by dsimp only at h ⊢; rw [← hs 2 rfl, ← hb 2 rfl, ← hx 0 rfl]; exact h
    | _ + 1, _ => trivial
  · refine ⟨?_, trivial⟩
    · refine sv_any rfl rfl fun ρ β W X cx => ?_
      exact dv_alloc (cs := #[vi 0, vi 0, vi 0, vi 0, .bool false, .slice none 0 0]) rfl (by kernel_rfl) rfl rfl (fun σ β' X' hs hb hv hx => ⟨hv, hx⟩)
  intro σ β X W1 hD hst1 fr hfr
  obtain ⟨B2_1, hu_B2_1⟩ : ∃ z, pb (β 2) = z := ⟨_, rfl⟩
  simp only [exq 0 ((dTn (hD 0 lq)).2), hu_B2_1] at hst1
  simp only [ed 2 ((dTn (hD 0 lq)).1), hu_B2_1] at hfr
  clear hD hu_B2_1; subst hfr; clear σ β X
  refine then_normal (wp_seq (wp_region_Y [0, 1, 3] [] [[], [1]] [] [.k 9 (.string s), .a 10, .a 4] (fun ix σ β X => match ix with | 0 => True | 1 => σ 10 = vp (pb (β 10)) ∧ X 1 = eB (pb (β 10)) 168 #[.string s, vi (((stT s []).1 : Int)), .bool ((stT s []).2)] | 2 => σ 4 = vp (pb (β 10)) | _ => True) [0, 1] [1, 2] [(4, 2, 1, 5), (4, 0, 2, 6)] hst1 ?_ ?_ ?_))
  · exact fun ix _ _ _ _ _ _ hs hb hx h => match ix, h with
    | 1, h => by dsimp only at h ⊢; rw [← hs 10 rfl, ← hb 10 rfl, ← hx 1 rfl]; exact h
    | 2, h => by dsimp only at h ⊢; rw [← hs 4 rfl, ← hb 10 rfl]; exact h
    | 0, _ | _ + 3, _ => trivial
  · refine ⟨?_, ?_, trivial⟩
    · refine sv_any rfl rfl fun ρ β W X cx => ?_
      refine DoesU.call (run_callF (args := #[.string s]) rfl cx.sees rfl (by kernel_rfl) (map1 (cx.an 0))) ?_
      refine (oread_b s _).mono ?_
      rintro e W1 ⟨B4, rfl, ⟨hb4, hw4⟩, hx⟩
      refine ⟨_, rfl, post_call [eB B4 168 #[.string s, vi (((stT s []).1 : Int)), .bool ((stT s []).2)]] rfl rfl hx (one_new ⟨hb4, eB_loc _ _ _, fun k hk => by simp [eB] at hk; subst hk; exact ⟨hw4, hb4.lt⟩⟩) (List.pairwise_singleton _ _) (fun σ β' X' hs hb hv hN => ?_)⟩
      have hv1 := (hv 10 rfl).1; have hv2 := (hv 10 rfl).2
      exact ⟨hv1.trans (by rw [hv2]; rfl), (by rw [hv2]; exact (List.cons.inj hN).1)⟩
    · exact sv rfl rfl rfl rfl rfl _ (fun _ _ _ h => h) (fun β β' h => by rw [h 10 (by decide)]) fun ρ β W X cx => run_assign' rfl (dTn (cx.an 1)).1
  intro σ β X W2 hD hst2 fr hfr
  obtain ⟨B10_2, hu_B10_2⟩ : ∃ z, pb (β 10) = z := ⟨_, rfl⟩
  simp only [exq 1 ((dTn (hD 1 lq)).2), hu_B10_2] at hst2
  simp only [ed 10 ((dTn (hD 1 lq)).1), ed 4 ((dTn (hD 2 lq))), hu_B10_2] at hfr
  clear hD hu_B10_2; subst hfr; clear σ β X
  refine then_normal (wp_seq (wp_region_Y [0, 1, 0, 7, 15, 0, 63] [[], [1], [], [2], [], [], [4]] [[], [2], [], [3], [], [4], [5]] [[], [1], [], [2], [], [], [4]] [.k 11 (vp B10_2), .a 12, .k 13 (vp B10_2), .a 14, .c 15 (.agg #[vi ((stV s [] 1)), vi ((stV s [1] 1)), vi 0, vi 0, .bool false, .slice none 0 0]), .a 5, .n] (fun ix σ β X => match ix with | 0 => True | 1 => σ 12 = vi ((stV s [] 1)) ∧ X 2 = eB B10_2 168 #[.string s, vi (((stT s [1]).1 : Int)), .bool ((stT s [1]).2)] | 2 => True | 3 => σ 14 = vi ((stV s [1] 1)) ∧ X 3 = eB B10_2 168 #[.string s, vi (((stT s [1, 1]).1 : Int)), .bool ((stT s [1, 1]).2)] | 4 => True | 5 => σ 5 = vp (pb (β 5)) ∧ X 4 = eB (pb (β 5)) 41 #[vi 0, vi 0, vi 0, vi 0, .bool false, .slice none 0 0] | 6 => X 5 = eB (pb (β 5)) 41 #[vi ((stV s [] 1)), vi ((stV s [1] 1)), vi 0, vi 0, .bool false, .slice none 0 0] | _ => True) [0, 3, 5] [1, 3, 4, 5, 6] [(5, 5, 1, 6), (5, 0, 5, 10)] hst2 ?_ ?_ ?_))
  · exact fun ix _ _ _ _ _ _ hs hb hx h => match ix, h with
    | 1, h => by dsimp only at h ⊢; rw [← hs 12 rfl, ← hx 2 rfl]; exact h
    | 3, h => by dsimp only at h ⊢; rw [← hs 14 rfl, ← hx 3 rfl]; exact h
    | 5, h => by dsimp only at h ⊢; rw [← hs 5 rfl, ← hb 5 rfl, ← hx 4 rfl]; exact h
    | 6, h => by dsimp only at h ⊢; rw [← hb 5 rfl, ← hx 5 rfl]; exact h
    | 0, _ | 2, _ | 4, _ | _ + 7, _ => trivial
  · refine ⟨?_, ?_, ?_, ?_, ?_, trivial⟩
    · refine sv_any rfl rfl fun ρ β W X cx => ?_
      refine DoesU.call (run_callF (args := #[vp B10_2, vi 1]) rfl cx.sees rfl (by kernel_rfl) (map2 (cx.an 0) (cx.co _))) ?_
      refine (num_st _ s [] 1 _ ⟨(cx.bi 1 rfl), stT_le s _, by omega⟩ (by omega)).mono ?_
      rintro e W1 ⟨rfl, hrd, hu⟩
      refine ⟨_, rfl, post_mut (cx.init 1 _ rfl) rfl rfl hu hrd.1 (fun σ β' X' hs hb hv hx => ?_)⟩
      exact ⟨(hv 12 rfl).1.trans rfl, hx⟩
    · refine sv_any rfl rfl fun ρ β W X cx => ?_
      refine DoesU.call (run_callF (args := #[vp B10_2, vi 1]) rfl cx.sees rfl (by kernel_rfl) (map2 (cx.an 2) (cx.co _))) ?_
      refine (num_st _ s [1] 1 _ ⟨(cx.blk (dTn (cx.an 1)).2 rfl), stT_le s _, by omega⟩ (by omega)).mono ?_
      rintro e W1 ⟨rfl, hrd, hu⟩
      refine ⟨_, rfl, post_mut (dTn (cx.an 1)).2 rfl rfl hu hrd.1 (fun σ β' X' hs hb hv hx => ?_)⟩
      exact ⟨(hv 14 rfl).1.trans rfl, hx⟩
    · exact xs4 rfl id fun cx => run_buildL rfl (pmc (dTn (cx.an 1)).1 (pmc (dTn (cx.an 3)).1 pmn)) (by kernel_rfl)
    · refine sv_any rfl rfl fun ρ β W X cx => ?_
      exact dv_alloc (cs := #[vi 0, vi 0, vi 0, vi 0, .bool false, .slice none 0 0]) rfl (by kernel_rfl) rfl rfl (fun σ β' X' hs hb hv hx => ⟨hv, hx⟩)
    · refine sv_any rfl rfl fun ρ β W X cx => ?_
      exact dv_store (n := 6) rfl (dTn (cx.an 5)).1 (cx.an 4) (by kernel_rfl) (by kernel_rfl) (by kernel_rfl) cx (dTn (cx.an 5)).2 rfl (nle rfl) (by kernel_rfl) rfl rfl rfl (fun σ β' X' hs hb hx => by rw [hb 5]; exact hx)
  intro σ β X W3 hD hst3 fr hfr
  obtain ⟨B5_3, hu_B5_3⟩ : ∃ z, pb (β 5) = z := ⟨_, rfl⟩
  simp only [exq 3 ((dTn (hD 3 lq)).2), exq 5 ((dTn (hD 6 lq))), hu_B5_3] at hst3
  simp only [ed 12 ((dTn (hD 1 lq)).1), ed 14 ((dTn (hD 3 lq)).1), ed 5 ((dTn (hD 5 lq)).1), hu_B5_3] at hfr
  clear hD hu_B5_3; subst hfr; clear σ β X
  refine then_normal (wp_seq (wp_region_Y [0, 1, 3, 0, 11, 31, 63, 127] [[], [1], [], [], [3], [], [], [2]] [[], [3], [], [], [4], [], [], [5]] [[], [1], [], [], [3], [], [], [2]] [.k 16 (vp B10_2), .a 17, .c 18 (vi ((stV s [1, 1] 2) - 1)), .k 19 (vp B10_2), .a 20, .c 21 (.agg #[vi ((stV s [1, 1] 2) - 1), vi ((stV s [2, 1, 1] 1))]), .k 22 (.pointer (some ⟨B5_3, 2, none⟩)), .n] (fun ix σ β X => match ix with | 0 => True | 1 => σ 17 = vi ((stV s [1, 1] 2)) ∧ X 3 = eB B10_2 168 #[.string s, vi (((stT s [2, 1, 1]).1 : Int)), .bool ((stT s [2, 1, 1]).2)] | 2 => True | 3 => True | 4 => σ 20 = vi ((stV s [2, 1, 1] 1)) ∧ X 4 = eB B10_2 168 #[.string s, vi (((stT s [1, 2, 1, 1]).1 : Int)), .bool ((stT s [1, 2, 1, 1]).2)] | 5 => True | 6 => True | 7 => X 5 = eB B5_3 41 #[vi ((stV s [] 1)), vi ((stV s [1] 1)), vi ((stV s [1, 1] 2) - 1), vi ((stV s [2, 1, 1] 1)), .bool false, .slice none 0 0] | _ => True) [0, 4, 5] [1, 2, 4, 5, 7] [(16, 0, 7, 23)] hst3 ?_ ?_ ?_))
  · exact fun ix _ _ _ _ _ _ hs hb hx h => match ix, h with
    | 1, h => by dsimp only at h ⊢; rw [← hs 17 rfl, ← hx 3 rfl]; exact h
    | 4, h => by dsimp only at h ⊢; rw [← hs 20 rfl, ← hx 4 rfl]; exact h
    | 7, h => by dsimp only at h ⊢; rw [← hx 5 rfl]; exact h
    | 0, _ | 2, _ | 3, _ | 5, _ | 6, _ | _ + 8, _ => trivial
  · refine ⟨?_, ?_, ?_, ?_, ?_, trivial⟩
    · refine sv_any rfl rfl fun ρ β W X cx => ?_
      refine DoesU.call (run_callF (args := #[vp B10_2, vi 2]) rfl cx.sees rfl (by kernel_rfl) (map2 (cx.an 0) (cx.co _))) ?_
      refine (num_st _ s [1, 1] 2 _ ⟨(cx.bi 1 rfl), stT_le s _, by omega⟩ (by omega)).mono ?_
      rintro e W1 ⟨rfl, hrd, hu⟩
      refine ⟨_, rfl, post_mut (cx.init 1 _ rfl) rfl rfl hu hrd.1 (fun σ β' X' hs hb hv hx => ?_)⟩
      exact ⟨(hv 17 rfl).1.trans rfl, hx⟩
    · exact xs4 rfl id fun cx => run_bin rfl (dTn (cx.an 1)).1 (cx.co _) (congrArg (fun z => some (Value.int .i64 z)) ((IntWalk.i64_in _ (by omega)).trans (by omega)))
    · refine sv_any rfl rfl fun ρ β W X cx => ?_
      refine DoesU.call (run_callF (args := #[vp B10_2, vi 1]) rfl cx.sees rfl (by kernel_rfl) (map2 (cx.an 3) (cx.co _))) ?_
      refine (num_st _ s [2, 1, 1] 1 _ ⟨(cx.blk (dTn (cx.an 1)).2 rfl), stT_le s _, by omega⟩ (by omega)).mono ?_
      rintro e W1 ⟨rfl, hrd, hu⟩
      refine ⟨_, rfl, post_mut (dTn (cx.an 1)).2 rfl rfl hu hrd.1 (fun σ β' X' hs hb hv hx => ?_)⟩
      exact ⟨(hv 20 rfl).1.trans rfl, hx⟩
    · exact xs4 rfl id fun cx => run_buildL rfl (pmc (cx.an 2) (pmc (dTn (cx.an 4)).1 pmn)) (by kernel_rfl)
    · refine sv_any rfl rfl fun ρ β W X cx => ?_
      exact dv_store (n := 2) rfl (cx.an 6) (cx.an 5) (by kernel_rfl) (by kernel_rfl) (by kernel_rfl) cx (cx.init 2 _ rfl) rfl (nle rfl) (by kernel_rfl) rfl rfl rfl (fun σ β' X' hs hb hx => hx)
  intro σ β X W4 hD hst4 fr hfr
  simp only [exq 4 ((dTn (hD 4 lq)).2), exq 5 ((dTn (hD 7 lq)))] at hst4
  simp only [ed 17 ((dTn (hD 1 lq)).1), ed 20 ((dTn (hD 4 lq)).1)] at hfr
  clear hD; subst hfr; clear σ β X
  refine then_normal (wp_seq (wp_region_Y [0, 1, 3, 7, 15] [[], [1], [], [], [2]] [[], [3], [], [], [4]] [[], [1], [], [], [2]] [.k 23 (vp B10_2), .a 24, .c 25 (.bool ((stV s [1, 2, 1, 1] 1) == 1)), .k 26 (.pointer (some ⟨B5_3, 4, none⟩)), .n] (fun ix σ β X => match ix with | 0 => True | 1 => σ 24 = vi ((stV s [1, 2, 1, 1] 1)) ∧ X 3 = eB B10_2 168 #[.string s, vi (((stT s [1, 1, 2, 1, 1]).1 : Int)), .bool ((stT s [1, 1, 2, 1, 1]).2)] | 2 => True | 3 => True | 4 => X 4 = eB B5_3 41 #[vi ((stV s [] 1)), vi ((stV s [1] 1)), vi ((stV s [1, 1] 2) - 1), vi ((stV s [2, 1, 1] 1)), .bool ((stV s [1, 2, 1, 1] 1) == 1), .slice none 0 0] | _ => True) [0, 3, 4] [1, 2, 4] [(23, 0, 4, 27)] hst4 ?_ ?_ ?_))
  · exact fun ix _ _ _ _ _ _ hs hb hx h => match ix, h with
    | 1, h => by dsimp only at h ⊢; rw [← hs 24 rfl, ← hx 3 rfl]; exact h
    | 4, h => by dsimp only at h ⊢; rw [← hx 4 rfl]; exact h
    | 0, _ | 2, _ | 3, _ | _ + 5, _ => trivial
  · refine ⟨?_, ?_, ?_, trivial⟩
    · refine sv_any rfl rfl fun ρ β W X cx => ?_
      refine DoesU.call (run_callF (args := #[vp B10_2, vi 1]) rfl cx.sees rfl (by kernel_rfl) (map2 (cx.an 0) (cx.co _))) ?_
      refine (num_st _ s [1, 2, 1, 1] 1 _ ⟨(cx.bi 1 rfl), stT_le s _, by omega⟩ (by omega)).mono ?_
      rintro e W1 ⟨rfl, hrd, hu⟩
      refine ⟨_, rfl, post_mut (cx.init 1 _ rfl) rfl rfl hu hrd.1 (fun σ β' X' hs hb hv hx => ?_)⟩
      exact ⟨(hv 24 rfl).1.trans rfl, hx⟩
    · exact xs4 rfl id fun cx => run_bin rfl (dTn (cx.an 1)).1 (cx.co _) rfl
    · refine sv_any rfl rfl fun ρ β W X cx => ?_
      exact dv_store (n := 1) rfl (cx.an 3) (cx.an 2) (by kernel_rfl) (by kernel_rfl) (by kernel_rfl) cx (cx.init 2 _ rfl) rfl (nle rfl) (by kernel_rfl) rfl rfl rfl (fun σ β' X' hs hb hx => hx)
  intro σ β X W5 hD hst5 fr hfr
  simp only [exq 3 ((dTn (hD 1 lq)).2), exq 4 ((dTn (hD 4 lq)))] at hst5
  simp only [ed 24 ((dTn (hD 1 lq)).1)] at hfr
  clear hD; subst hfr; clear σ β X
  refine then_normal (wp_seq (wp_region_Y [0, 1, 3] [[], [1]] [[], [3]] [[], [1]] [.k 27 (vp B10_2), .a 28, .c 6 (.string ByteArray.empty)] (fun ix σ β X => match ix with | 0 => True | 1 => σ 28 = .string ByteArray.empty ∧ X 3 = eB B10_2 168 #[.string s, vi (((stT s [1, 1, 2, 1, 1]).1 : Int)), .bool true] | _ => True) [0, 2, 3] [1, 2] [(6, 2, 1, 7), (20, 0, 2, 22)] hst5 ?_ ?_ ?_))
  · exact fun ix _ _ _ _ _ _ hs hb hx h => match ix, h with
    | 1, h => by dsimp only at h ⊢; rw [← hs 28 rfl, ← hx 3 rfl]; exact h
    | 0, _ | _ + 2, _ => trivial
  · refine ⟨?_, ?_, trivial⟩
    · refine sv_any rfl rfl fun ρ β W X cx => ?_
      refine DoesU.call (run_callF (args := #[vp B10_2]) rfl cx.sees rfl (by kernel_rfl) (map1 (cx.an 0))) ?_
      refine (text_bad _ s (stT s [1, 1, 2, 1, 1]).1 (stT s [1, 1, 2, 1, 1]).2 _ ⟨(cx.bi 1 rfl), stT_le s _, by omega⟩ (by rcases st_short hs with h_ | h_ <;> simp [h_])).mono ?_
      rintro e W1 ⟨rfl, hrd, hu⟩
      refine ⟨_, rfl, post_mut (cx.init 1 _ rfl) rfl rfl hu hrd.1 (fun σ β' X' hs hb hv hx => ?_)⟩
      exact ⟨(hv 28 rfl).1.trans rfl, hx⟩
    · exact xs4 rfl id fun cx => run_assign' rfl (dTn (cx.an 1)).1
  intro σ β X W6 hD hst6 fr hfr
  simp only [exq 3 ((dTn (hD 1 lq)).2)] at hst6
  simp only [ed 28 ((dTn (hD 1 lq)).1)] at hfr
  clear hD; subst hfr; clear σ β X
  refine then_normal (wp_seq (wp_seq (wp_region_Y [0, 1] [[], [2]] [] [] [.k 29 (vp B10_2), .a 30] (fun ix σ β X => match ix with | 0 => True | 1 => σ 30 = .bool true | _ => True) [0, 1, 2] [1] [(29, 0, 2, 31)] hst6 ?_ ?_ ?_)))
  · exact fun ix _ _ _ _ _ _ hs hb hx h => match ix, h with
    | 1, h => (hs _ rfl).symm.trans h
    | 0, _ | _ + 2, _ => trivial
  · refine ⟨?_, trivial⟩
    · refine sv_any rfl rfl fun ρ β W X cx => ?_
      refine DoesU.call (run_callF (args := #[vp B10_2]) rfl cx.sees rfl (by kernel_rfl) (map1 (cx.an 0))) ?_
      refine (failed_any _ s (stT s [1, 1, 2, 1, 1]).1 true _ ⟨(cx.bi 2 rfl), stT_le s _, by omega⟩).mono ?_
      rintro e W1 ⟨rfl, rfl⟩
      refine ⟨_, rfl, post_call [] rfl rfl (Ext.refl _) (by simp) List.Pairwise.nil (fun σ β' X' hs hb hv hN => ?_)⟩
      have hv1 := (hv 30 rfl).1; have hv2 := (hv 30 rfl).2
      exact hv1.trans rfl
  intro σ β X W7 hD hst7 fr hfr
  simp only [ed 30 ((dTn (hD 1 lq)))] at hfr
  clear hD; subst hfr; clear σ β X
  refine then_normal (wp_cond_true (show Act.eval _ _ = .bool true from rfl) (wp_seq (wp_region_Y [0, 1, 3] [[], [0]] [[], [3]] [[], [0]] [.k 31 (.agg #[vi 0, vi 0, vi 0, vi 0, .bool false, .slice none 0 0]), .n, .k 3 (vi 10)] (fun ix σ β X => match ix with | 0 => True | 1 => X 3 = eB B2_1 41 #[vi 0, vi 0, vi 0, vi 0, .bool false, .slice none 0 0] | _ => True) [1, 2, 3] [1] [(3, 2, 1, 4), (27, 0, 1, 28)] hst7 ?_ ?_ ?_)))
  · exact fun ix _ _ _ _ _ _ hs hb hx h => match ix, h with
    | 1, h => by dsimp only at h ⊢; rw [← hx 3 rfl]; exact h
    | 0, _ | _ + 2, _ => trivial
  · refine ⟨?_, trivial⟩
    · refine sv_any rfl rfl fun ρ β W X cx => ?_
      exact dv_store (n := 6) rfl (cx.ou 2) (cx.an 0) (by kernel_rfl) (by kernel_rfl) (by kernel_rfl) cx (cx.init 0 _ rfl) rfl (nle rfl) (by kernel_rfl) rfl rfl rfl (fun σ β' X' hs hb hx => hx)
  intro σ β X W8 hD hst8 fr hfr
  simp only [exq 3 ((dTn (hD 1 lq)))] at hst8
  clear hD; subst hfr; clear σ β X
  refine then_normal (wp_ret (then_ret ?_))
  have hr9 : W8.cell? ⟨B2_1, 0, none⟩ = some (vi 0) := (hst8.blk 2 rfl).cell 0
  have hr10 : W8.cell? ⟨B2_1, 1, none⟩ = some (vi 0) := (hst8.blk 2 rfl).cell 1
  have hr11 : W8.cell? ⟨B2_1, 2, none⟩ = some (vi 0) := (hst8.blk 2 rfl).cell 2
  have hr12 : W8.cell? ⟨B2_1, 3, none⟩ = some (vi 0) := (hst8.blk 2 rfl).cell 3
  have hr13 : W8.cell? ⟨B2_1, 4, none⟩ = some (.bool false) := (hst8.blk 2 rfl).cell 4
  have hr14 : W8.cell? ⟨B2_1, 5, none⟩ = some (.slice none 0 0) := (hst8.blk 2 rfl).cell 5
  refine bodyPost_ret (v := .tuple #[.agg #[vi 0, vi 0, vi 0, vi 0, .bool false, .slice none 0 0], vi 10]) (by simp [results, Tryd.results35, go_sem, hr9, hr10, hr11, hr12, hr13, hr14]) rfl ?_
  exact Ret.of rfl hst8.ext
end
end Go.Proofs.YtjnplglnnamfdaaDoor
namespace Go.Proofs.YtjnplglnnamfdaaDoor
section
open Go.RowKit
set_option linter.unusedVariables false
set_option linter.unusedSimpArgs false
abbrev VerD := Int × Int × Int × Int × Bool × List Val
def okD (v : VerD) : Prop := trightF v.1 v.2.1 v.2.2.1 v.2.2.2.1 v.2.2.2.2.2 = true ∧ NsOk v.2.2.2.2.2 ∧ plainR v.2.2.2.2.2 = v.2.2.2.2.2
def txD (v : VerD) : ByteArray := tbytesF v.1 v.2.1 v.2.2.1 v.2.2.2.1 v.2.2.2.2.1 v.2.2.2.2.2
def zD : VerD := (0, 0, 0, 0, false, [])
def Desc (s : ByteArray) : Option VerD → Prop
  | none => s.size < 8
  | some v => okD v ∧ s = txD v
/-- what Read says of it -/
def vD (o : Option VerD) : VerD := o.getD zD
def eD (o : Option VerD) : Int := if o.isSome then 0 else 10
section
variable {a b n1 n2 : Int} {ho : Bool} {rs : List Val}
end
theorem Desc.le {s : ByteArray} {o : Option VerD} (h : Desc s o) : s.size ≤ 309 := by
  cases o with
  | none => have : s.size < 8 := h; omega
  | some v =>
    have := vbytes_size v.2.2.2.2.2
    rw [h.2, txD, tb_size h.1.1]; omega
theorem Desc.bd {s : ByteArray} {o : Option VerD} (h : Desc s o) : 0 ≤ (vD o).1 ∧ (vD o).1 < 128 ∧ 0 ≤ (vD o).2.1 ∧ (vD o).2.1 < 128 ∧ -1 ≤ (vD o).2.2.1 ∧ (vD o).2.2.1 < 400 ∧ 0 ≤ (vD o).2.2.2.1 ∧ (vD o).2.2.2.1 < 24 ∧ (vD o).2.2.2.2.2.length ≤ 6 := by
  cases o with
  | none => exact ⟨by decide, by decide, by decide, by decide, by decide, by decide, by decide, by decide, by decide⟩
  | some v =>
    have hp := tright_parts h.1.1
    exact ⟨hp.1, hp.2.1, hp.2.2.1, hp.2.2.2.1, hp.2.2.2.2.1, hp.2.2.2.2.2.1, hp.2.2.2.2.2.2.1, hp.2.2.2.2.2.2.2.1, rright_len hp.2.2.2.2.2.2.2.2⟩
theorem tread_desc {s : ByteArray} {o : Option VerD} (w : World) (h : Desc s o) (hN : NoneAt w) :
    Calls Tryd.prog 35 #[.string s] w (VerRd (vD o).1 (vD o).2.1 (vD o).2.2.1 (vD o).2.2.2.1 (vD o).2.2.2.2.1 (vD o).2.2.2.2.2 (eD o) w) := by
  cases o with
  | none => exact (tread_sh s w h).mono fun e w' ⟨he, hx⟩ => ⟨none, 0, he, ⟨by simp [vD, zD, flatR], .inl ⟨rfl, rfl⟩⟩, hx⟩
  | some v =>
    obtain ⟨⟨h1, h2, h3⟩, rfl⟩ := h
    have := tread_of (ho := v.2.2.2.2.1) w h1 h2 hN
    rw [h3] at this
    exact this
end
end Go.Proofs.YtjnplglnnamfdaaDoor

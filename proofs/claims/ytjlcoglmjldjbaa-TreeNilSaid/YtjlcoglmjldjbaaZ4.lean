/- TreeNilRow: part 4 of the proof. -/
import Derived.Test.YtjlcoglmjldjbaaZ3
import Derived.RangeFuncBox
import Derived.RangeFuncBound
import Derived.RangeFuncCalls
import Derived.RangeFuncLeaves
import Derived.TacticsIn
import Derived.OrdersIn
import Derived.LoopNIn
import Derived.Shelf.Abstract
import Derived.Test.YtjlcoglmjldjbaaRows
import Derived.ProofKit
import Derived.OpenShut
import Derived.Below
import Derived.ChangeSame
import Derived.WideKeyArgs
import Derived.SliceStrings
import Derived.ChangeMaps5
import Derived.Lib.SmallJoins
import Derived.SizedLaws
import Derived.WalkKit
set_option linter.unusedVariables false
set_option linter.unusedSimpArgs false
namespace Go.Proofs.Ytjlcoglmjldjbaa
section
open Go.RowKit
set_option linter.unusedVariables false
set_option linter.unusedSimpArgs false
def idxP {α : Type} (p : α → Bool) (k : Int) : List α → Int
  | [] => -1
  | x :: l => if p x then k else idxP p (k + 1) l
theorem idxP_at {α : Type} {p : α → Bool} {l : List α} {x : α} {k : Nat} (h : l[k]? = some x) : idxP p (k : Int) (l.drop k) = if p x then (k : Int) else idxP p ((k + 1 : Nat) : Int) (l.drop (k + 1)) := by
  obtain ⟨hk, rfl⟩ := List.getElem?_eq_some_iff.1 h
  rw [List.drop_eq_getElem_cons hk, idxP]; rfl
theorem idxP_any {α : Type} (p : α → Bool) (l : List α) : ∀ k : Int, 0 ≤ k → decide (0 ≤ idxP p k l) = l.any p := by
  induction l with
  | nil => intro k _; rfl
  | cons x l ih =>
    intro k hk
    rw [idxP, List.any_cons]
    cases p x with
    | true => rw [if_pos rfl, Bool.true_or]; exact decide_eq_true hk
    | false => rw [if_neg (by decide), Bool.false_or]; exact ih (k + 1) (by omega)
theorem getE3 {l : List EnD} {k : Nat} (h : k < l.length) : ∃ x y z, l[k]? = some (x, y, z) := ⟨l[k].1, l[k].2.1, l[k].2.2, List.getElem?_eq_getElem h⟩
set_option maxRecDepth 100000 in
set_option maxHeartbeats 4000000 in
theorem kfresh_any (pg : Int) (np lv rt fr : Int) (hg : ByteArray) (EA : Option Addr) (ec n : Nat) (es : List EnD) (w : World) (hE : At w EA (es.flatMap enC)) (hn : es.length = n) (hez : ∀ e ∈ es, e.1.size ≤ 1000000) (hnb : n ≤ 1000) (hlv : 0 ≤ lv ∧ lv ≤ 256) (hrt : -1 ≤ rt ∧ rt ≤ 1000000) (hhi : hg.size ≤ 1000000) :
    Calls Try.prog 81 #[.int .i64 pg, .agg #[.int .i64 np, .int .i64 lv, .int .i64 rt, .string hg, .bool false, .slice EA n ec, .int .i64 fr]] w (EdPost (freshE pg lv rt hg es) w) := by
  go_enter Try.func81, Try.ntmps81
  have hst0 := St.start w
  refine wp_seq (sqr ?_)
  refine sqbx #[vi np, vi lv, vi rt, .string hg, .bool false, .slice EA n ec, vi fr] hst0 fun B3_1 W1 hst1 => ?_
  refine sqp [.k 4 (.slice none 0 0)] ?_
  refine then_normal (wp_seq (wp_region_Y [0, 0, 2, 7, 0, 0, 32, 112, 255, 511] [[], [], [1], [], [], [0]] [[], [1], [], [], [], [], [], [], [2]] [] [.k 8 (vi pg), .a 9, .c 10 (.string (strOfNums ([2]))), .k 11 (.agg #[vi pg, vi (-1), .string (strOfNums ([2]))]), .k 12 (vi pg), .c 13 (.agg #[vi np, vi lv, vi rt, .string hg, .bool false, .slice EA n ec, vi fr]), .c 14 (.string (hdB lv rt false hg)), .k 15 (.agg #[vi pg, vi 0, .string (hdB lv rt false hg)]), .a 16, .a 5] (fun ix σ β X => match ix with | 0 => True | 1 => σ 9 = .slice (sA (β 9)) 1 1 ∧ X 1 = eO 5 1 (.slice (sA (β 9)) 1 1) 1 ([.int .u8 2]) | 2 => True | 3 => True | 4 => True | 5 => True | 6 => True | 7 => True | 8 => σ 16 = .slice ((some ⟨(pb' (β 16)), 0, none⟩)) 2 2 ∧ X 2 = eO 99 3 (.slice ((some ⟨(pb' (β 16)), 0, none⟩)) 2 2) 2 ([vi pg, vi (-1), .string (strOfNums ([2])), vi pg, vi 0, .string (hdB lv rt false hg)]) | 9 => σ 5 = .slice ((some ⟨(pb' (β 16)), 0, none⟩)) 2 2 | _ => True) [0, 1, 2] [1, 2, 5, 6, 8, 9] [(5, 9, 1, 6), (2, 0, 9, 11)] hst1 ?_ ?_ ?_))
  · exact fun ix _ _ _ _ _ _ hs hb hx h => match ix, h with
    | 1, h => by dsimp only; rw [← hs 9 rfl, ← hb 9 rfl, ← hx 1 rfl]; exact h
    | 8, h => by dsimp only; rw [← hs 16 rfl, ← hb 16 rfl, ← hx 2 rfl]; exact h
    | 9, h => by dsimp only; rw [← hs 5 rfl, ← hb 16 rfl]; exact h
    | 0, _ | 2, _ | 3, _ | 4, _ | 5, _ | 6, _ | 7, _ | _ + 10, _ => trivial
  · refine ⟨?_, ?_, ?_, ?_, ?_, ?_, trivial⟩
    · refine svA fun ρ β W X cx => ?_
      exact dv_lit (e := 5) (xs := [.int .u8 2]) rfl (by simp [go_sem, cx.sees.const]) rfl (by decide) rfl rfl (fun σ β' X' hs hb hv hx => ⟨hv, hx⟩)
    · exact xs4 rfl id fun cx => run_convB (e := 5) rfl (by kernel_rfl) (by kernel_rfl) (by kernel_rfl) (dTn (cx.an 1)).1 (cx.row (dTn (cx.an 1)).2 rfl)
    · exact xs4 rfl id fun cx => run_loadB (n := 7) rfl (by kernel_rfl) (by kernel_rfl) (cx.ou 3) (cx.bi 0 rfl) (nle rfl) rfl
    · exact xsc rfl id rfl rfl fun cx => ⟨_, khead_le np lv rt fr hg false _ _ _ _ (by omega) (by omega) (by first | omega | decide), (map1 (cx.an 5))⟩
    · refine svA fun ρ β W X cx => ?_
      have fF11 : ρ (.tmp 11) = .agg #[vi pg, vi (-1), .string (strOfNums ([2]))] := (cx.an 3)
      have fF15 : ρ (.tmp 15) = .agg #[vi pg, vi 0, .string (hdB lv rt false hg)] := (cx.an 7)
      exact dv_litN (e := 99) (sz := 3) (xs := [vi pg, vi (-1), .string (strOfNums ([2])), vi pg, vi 0, .string (hdB lv rt false hg)]) rfl (by simp [go_sem, fF11, fF15]) rfl (by decide) rfl rfl (fun σ β' X' hs hb hv hx => ⟨hv, hx⟩)
    · exact sv rfl rfl rfl rfl rfl _ (fun _ _ _ h => h) (fun β β' h => by rw [h 16 (by decide)]) fun ρ β W X cx => run_assign' rfl (dTn (cx.an 8)).1
  intro σ β X W3 hD hst3 fr hfr
  obtain ⟨A9_3, hu_A9_3⟩ : ∃ z, sA (β 9) = z := ⟨_, rfl⟩
  obtain ⟨B16_3, hu_B16_3⟩ : ∃ z, pb' (β 16) = z := ⟨_, rfl⟩
  simp only [exq 1 ((dTn (hD 1 lq)).2), exq 2 ((dTn (hD 8 lq)).2), hu_A9_3, hu_B16_3] at hst3
  simp only [ed 9 ((dTn (hD 1 lq)).1), ed 16 ((dTn (hD 8 lq)).1), ed 5 ((dTn (hD 9 lq))), hu_A9_3, hu_B16_3] at hfr
  clear hD hu_A9_3 hu_B16_3; subst hfr; clear σ β X
  refine then_normal (wp_seq (wp_seq (sqr (sqp [.k 17 (.pointer (some ⟨B3_1, 5, none⟩))] ?_))))
  refine sqld 0 hst3 ?_
  refine sqp [.k 19 (vi ((n : Int))), .k 20 (vi 0)] ?_
  refine then_normal (wp_block ?_)
  rw [show [vi pg, vi (-1), .string (strOfNums ([2])), vi pg, vi 0, .string (hdB lv rt false hg)] = (hd2E pg lv rt hg).flatMap edC from rfl] at hst3
  refine wp_loopT (fun t_ mz az W => ∃ i : Nat, ∃ nn : Nat, ∃ O : List EdT, ∃ OA : Option Addr, ∃ OC : Nat, i ≤ n ∧ O = hd2E pg lv rt hg ++ itsE pg lv 1 (es.take i) ∧ O.length = nn ∧ nn ≤ 10 + i ∧ mz = n - i ∧ az = ⟨(ovr (jv az) [(5, 5, 0, [.slice OA nn OC]), (0, 6, 2, []), (12, 20, 0, [vi ((i : Int))]), (0, 21, 15, [])] t_).toArray, []⟩ ∧ St w [] [eB B3_1 116 #[vi np, vi lv, vi rt, .string hg, .bool false, .slice EA n ec, vi fr], eO 5 1 (.slice A9_3 1 1) 1 ([.int .u8 2]), eO 99 3 (.slice OA nn OC) nn (O.flatMap edC)] W) (n - 0) ?_ ?_
  · -- the loop begins
    exact ⟨0, 2, (hd2E pg lv rt hg), (some ⟨B16_3, 0, none⟩), 2, Nat.zero_le _, rfl, rfl, by omega, rfl, (by kernel_rfl), hst3.pk [0, 1, 2]⟩
  rintro n8 a8 W8 ⟨i, nn, O, OA, OC, hi, hO, hOl, hnn, rfl, hj_, hst8⟩
  refine ovz hj_ fun u8_ => ?_
  refine wp_seq (sqr (sqp [.k 21 (.bool (decide ((i : Int) < (n : Int))))] ?_))
  refine then_normal (wp_seq (wds (fun hs10 hs10p => ?_) fun hs10 hs10p => ?_))
  · refine wp_skip (then_normal (wp_seq (wp_block (wp_seq (sqr (sqp [.m 22 20] ?_))))))
    refine sql (.pointer (some ((ad EA).add (i * 3)))) hst8 (fun cx => run_indexSlM (e := 104) (m := i) (sz := 3) rfl (by kernel_rfl) (by kernel_rfl) (cx.ou 18) (cx.ou 20) (by omega) (by omega) (hE.ext cx.upd.to_ext) (flatPos (sz := 3) enC_len (by decide) (by omega))) ?_
    refine sql (.agg #[.string ((es.getD i en0).1), vi (((es.getD i en0).2.1 : Int)), vi ((es.getD i en0).2.2)]) hst8 (fun cx => run_loadElt (f := enC) (m := i) (sz := 3) (off := 0) (n := 3) rfl (by kernel_rfl) (by kernel_rfl) (cx.ou 23) rfl enC_len (hE.ext cx.upd.to_ext) (en_get (by omega)) (fun k hk => match k, hk with | 0, _ => rfl | 1, _ => rfl | 2, _ => rfl | k + 3, hk => absurd hk (by omega))) ?_
    refine sqal #[.string ByteArray.empty, vi 0, vi 0] hst8 fun B7_14 W14 hst14 => ?_
    refine sqp [.m 6 22] ?_
    refine sqst (n := 3) 3 #[.string ((es.getD i en0).1), vi (((es.getD i en0).2.1 : Int)), vi ((es.getD i en0).2.2)] hst14 fun W16 hst16 => ?_
    refine then_normal (sqr (sqp [.m 25 5, .m 26 0, .m 27 6, sI 28 ((i : Int) + 1) (by omega)] ?_))
    refine sqlb 0 7 hst16 ?_
    refine sqlb 3 3 hst16 ?_
    refine sqk (.string (itB lv ((es.getD i en0).2.2) ((es.getD i en0).1))) hst16 (fun cx => ⟨_, kitem_any np lv rt fr hg false _ _ _ ((es.getD i en0).1) ((es.getD i en0).2.1 : Int) ((es.getD i en0).2.2) _ (getD_size hez _), (map2 (cx.ou 29) (cx.ou 30))⟩) fun W23 hst23 => ?_
    refine sqp [.k 32 (.agg #[vi pg, vi ((i : Int) + 1), .string (itB lv ((es.getD i en0).2.2) ((es.getD i en0).1))])] ?_
    refine sqli 99 3 1 (edC (pg, (i : Int) + 1, itB lv ((es.getD i en0).2.2) ((es.getD i en0).1))) hst23 (@fun ρ β W X cx => by have fF32 : ρ (.tmp 32) = .agg #[vi pg, vi ((i : Int) + 1), .string (itB lv ((es.getD i en0).2.2) ((es.getD i en0).1))] := (cx.ou 32); simp [go_sem, fF32, edC]) fun B33_25 W25 hst25 => ?_
    refine sqap (nn + 1) ((O ++ [(pg, (i : Int) + 1, itB lv ((es.getD i en0).2.2) ((es.getD i en0).1))]).flatMap edC) 2 hst25 Try.infoEdit (fun cx => (At.of_ownN (cx.ri 4 rfl))) (h1 := by simp [edC, Value.oneCell']) (hxs := ed_snoc _ _) fun A34_26 c34_26 W26 hst26 => ?_
    refine sqp [.m 5 34] ?_
    refine blk_normal (then_normal (sqr (sqp [sI 35 ((i : Int) + 1) (by omega), .m 20 35] ?_)))
    refine then_normal ?_
    refine ⟨n - ((i + 1)), by omega, ?_⟩
    exact ⟨(i + 1), (nn + 1), (O ++ [(pg, (i : Int) + 1, itB lv ((es.getD i en0).2.2) ((es.getD i en0).1))]), A34_26, c34_26, by omega, by rw [hO, itsE_snoc (by omega), ← List.append_assoc]; (first | rfl | (congr 4; omega) | simp), by rw [List.length_append, hOl]; rfl, by omega, rfl, (by kernel_rfl), hst26.pk [0, 1, 2]⟩
  refine wp_exit (then_exit (then_exit (blk_eq (then_normal (wp_seq (sqr (sqp [.m 36 5, .m 4 36] ?_)))))))
  refine then_normal (wp_ret ?_)
  refine bpr (.slice OA nn OC) (results_1 Try.results81 rpt) ?_
  rw [fresh_all (by omega)] at hO
  rw [hO] at hst8 hOl
  rw [← hOl] at hst8 ⊢
  have ho_ := hst8.own' 2 rfl
  exact ⟨_, _, rfl, ho_, hst8.ext⟩
theorem kfresh_0 (pg : Int) (w : World) : Calls Try.prog 81 #[.int .i64 pg, .agg #[.int .i64 0, .int .i64 0, .int .i64 (-1), .string ⟨#[]⟩, .bool false, .slice none 0 0, .int .i64 0]] w (EdPost (begF pg) w) := kfresh_any pg 0 0 (-1) 0 ⟨#[]⟩ none 0 0 [] w (At.nil _ _) rfl (fun e he => nomatch he) (by decide) (by decide) (by decide) (by decide)
set_option maxRecDepth 100000 in
set_option maxHeartbeats 2000000 in
theorem kbegin_any (n : Int) (w : World) :
    Calls Try.prog 46 #[.int .i64 n] w (EdPost (begF n) w) := by
  go_enter Try.func46, Try.ntmps46
  have hst0 := St.start w
  refine wp_seq (sqr (sqp [.k 2 (.slice none 0 0)] ?_))
  refine then_normal (wp_seq (sqr (sqp [.m 3 0, .k 4 (.agg #[vi 0, vi 0, vi (-1), .string ByteArray.empty, .bool false, .slice none 0 0, vi 0])] ?_)))
  refine sqk2 (fun A5_4 c5_4 => .slice A5_4 2 c5_4) (fun A5_4 c5_4 => eO 99 3 (.slice A5_4 2 c5_4) 2 ((begF n).flatMap edC)) hst0 (fun cx => ⟨_, (kfresh_0 n _).mono (by rintro e W1 ⟨A4, c4, rfl, ho_, hx⟩; exact ⟨_, _, rfl, St.one hx (eO_new (n := 2) (xs := (begF n).flatMap edC) ho_)⟩), (map2 (cx.ou 3) (cx.ou 4))⟩) fun A5_4 c5_4 W4 hst4 => ?_
  refine sqp [.m 2 5] ?_
  refine then_normal (wp_ret ?_)
  refine bpr (.slice A5_4 2 c5_4) (results_1 Try.results46 rpt) ?_
  have ho_ := hst4.own' 0 rfl
  exact ⟨_, _, rfl, ho_, hst4.ext⟩
set_option maxRecDepth 100000 in
set_option maxHeartbeats 2000000 in
theorem kidx_any (FA : Option Addr) (fc : Nat) (ks : List EnD) (f0 : FuncId) (cap : Array Value) (p : EnD → Bool) (w : World) (hF : At w FA (ks.flatMap enC)) (hl : ks.length ≤ 100000) (hcf : callP Try.prog f0 = true) (hf : ∀ (W : World) (k : EnD), Ext w W → Calls Try.prog f0 (#[.agg #[.string k.1, .int .i64 (k.2.1 : Int), .int .i64 k.2.2]] ++ cap) W (Ret (.bool (p k)) W)) :
    Calls Try.prog 82 #[.slice FA ks.length fc, .func (.func f0) #[] cap] w (Ret (.int .i64 (idxP p 0 ks)) w) := by
  go_enter Try.func82, Try.ntmps82
  have hst0 := St.start w
  refine wp_seq (sqr (sqp [.k 4 (vi 0)] ?_))
  refine then_normal (wp_seq (wp_seq (sqr (sqp [.m 6 0, .k 7 (vi ((ks.length : Int))), .k 8 (vi 0)] ?_))))
  refine then_normal (wp_block ?_)
  refine wp_loopT (fun t_ mz az W => ∃ k : Nat, k ≤ ks.length ∧ idxP p 0 ks = idxP p (k : Int) (ks.drop k) ∧ mz = ks.length - k ∧ az = ⟨(ovr (jv az) [(4, 4, 2, []), (2, 8, 0, [vi ((k : Int))]), (0, 9, 10, [])] t_).toArray, []⟩ ∧ St w [] [] W) (ks.length - 0) ?_ ?_
  · -- the loop begins
    exact ⟨0, Nat.zero_le _, rfl, rfl, (by kernel_rfl), hst0.pk []⟩
  rintro n5 a5 W5 ⟨k, hk, hkr, rfl, hj_, hst5⟩
  refine ovz hj_ fun u5_ => ?_
  refine wp_seq (sqr (sqp [.k 9 (.bool (decide ((k : Int) < (ks.length : Int))))] ?_))
  refine then_normal (wp_seq (wds (fun hs7 hs7p => ?_) fun hs7 hs7p => ?_))
  · refine wp_skip (then_normal (wp_seq (wp_block (wp_seq (sqr (sqp [.m 10 8, .m 5 10] ?_))))))
    refine then_normal (wp_seq ?_)
    obtain ⟨kx, ky, kz, hkj⟩ := getE3 (l := ks) (k := k) (by omega)
    refine sqr (sqp [.m 11 1, .m 12 0, .m 13 5] ?_)
    refine sql (.pointer (some ((ad FA).add (k * 3)))) hst5 (fun cx => run_indexSlM (e := 104) (m := k) (sz := 3) rfl (by kernel_rfl) (by kernel_rfl) (cx.ou 12) (cx.ou 13) (by omega) (by omega) (hF.ext cx.upd.to_ext) (flatPos (sz := 3) enC_len (by decide) (by omega))) ?_
    refine sql (.agg #[.string kx, vi ((ky : Int)), vi kz]) hst5 (fun cx => run_loadElt (f := enC) (m := k) (sz := 3) (off := 0) (n := 3) rfl (by kernel_rfl) (by kernel_rfl) (cx.ou 14) rfl enC_len (hF.ext cx.upd.to_ext) hkj (fun k hk => match k, hk with | 0, _ => rfl | 1, _ => rfl | 2, _ => rfl | k + 3, hk => absurd hk (by omega))) ?_
    refine sqv (.bool ((p (kx, ky, kz)))) hst5 (sv_call rfl rfl rfl rfl rfl (fun _ _ _ h => h) fun ρ β W X cx => ⟨_, _, run_callV (f := f0) (args := #[.agg #[.string kx, vi ((ky : Int)), vi kz]]) (args' := #[.agg #[.string kx, vi ((ky : Int)), vi kz]] ++ cap) rfl rfl (cx.ou 11) hcf (map1 (cx.ou 15)) (by rw [Array.empty_append]), (by have h9 := hf W (kx, ky, kz) cx.upd.to_ext; dsimp only at h9; exact h9)⟩) fun W15 hst15 => ?_
    refine then_normal (wbs (fun hs16 => ?_) fun hs16 => ?_)
    · refine wp_seq (sqr (sqp [.m 17 5, .m 4 17] ?_))
      refine then_normal (wp_ret (blk_ret (then_ret (then_ret (blk_ret (then_ret ?_))))))
      refine bpr (vi ((k : Int))) (results_1 Try.results82 rpt) ?_
      exact Ret.of (by rw [hkr, idxP_at hkj, hs16]; rfl) hst15.ext
    refine wp_skip (blk_normal (then_normal (sqr (sqp [sI 18 ((k : Int) + 1) (by omega), .m 8 18] ?_))))
    refine then_normal ?_
    refine ⟨ks.length - ((k + 1)), by omega, ?_⟩
    exact ⟨(k + 1), by omega, by rw [hkr, idxP_at hkj, hs16]; rfl, rfl, (by kernel_rfl), hst15.pk []⟩
  refine wp_exit (then_exit (then_exit (blk_eq (then_normal (wp_seq (sqr (sqp [.k 4 (vi (-1))] ?_)))))))
  refine then_normal (wp_ret ?_)
  refine bpr (vi (-1)) (results_1 Try.results82 rpt) ?_
  exact Ret.of (by rw [hkr, List.drop_of_length_le (by omega)]; rfl) hst5.ext
set_option maxRecDepth 100000 in
set_option maxHeartbeats 2000000 in
theorem kcon_any (FA : Option Addr) (fc : Nat) (ks : List EnD) (f0 : FuncId) (cap : Array Value) (p : EnD → Bool) (w : World) (hF : At w FA (ks.flatMap enC)) (hl : ks.length ≤ 100000) (hcf : callP Try.prog f0 = true) (hf : ∀ (W : World) (k : EnD), Ext w W → Calls Try.prog f0 (#[.agg #[.string k.1, .int .i64 (k.2.1 : Int), .int .i64 k.2.2]] ++ cap) W (Ret (.bool (p k)) W)) :
    Calls Try.prog 51 #[.slice FA ks.length fc, .func (.func f0) #[] cap] w (Ret (.bool (ks.any p)) w) := by
  go_enter Try.func51, Try.ntmps51
  have hst0 := St.start w
  refine wp_seq (sqr (sqp [.k 4 (.bool false)] ?_))
  refine then_normal (wp_seq (sqr (sqp [.m 5 0, .m 6 1] ?_)))
  refine sqv (vi ((idxP p 0 ks))) hst0 (sv_call rfl rfl rfl rfl rfl (fun _ _ _ h => h) fun ρ β W X cx => ⟨_, _, run_callF (args := #[.slice FA ks.length fc, .func (.func f0) #[] cap]) rfl cx.sees rfl (by kernel_rfl) (map2 (cx.ou 5) (cx.ou 6)), kidx_any _ _ ks _ _ p _ (hF.ext cx.upd.to_ext) hl hcf (fun W k hW => hf W k (cx.upd.to_ext.trans hW))⟩) fun W4 hst4 => ?_
  refine sqp [.k 8 (.bool (decide (0 ≤ (idxP p 0 ks)))), .m 4 8] ?_
  refine then_normal (wp_ret ?_)
  refine bpr (.bool (decide (0 ≤ (idxP p 0 ks)))) (results_1 Try.results51 rpt) ?_
  exact Ret.of (by rw [← idxP_any _ _ 0 (by omega)]) hst4.ext
set_option maxRecDepth 100000 in
set_option maxHeartbeats 2000000 in
theorem kput1_any (x : ByteArray) (y z : Int) (tb : Nat) (te : ByteArray) (t1 tk tl : Int) (w : World) (h1 : Blk w tb 106 #[.string te, .int .i64 t1, .int .i64 tk, .int .i64 tl]) :
    Calls Try.prog 83 #[.agg #[.string x, .int .i64 y, .int .i64 z], .pointer (some ⟨tb, 0, none⟩)] w (Ret (.bool (x.toList == te.toList)) w) := by
  go_enter Try.func83, Try.ntmps83
  have hst0 := St.start w
  refine wp_seq (sqr ?_)
  refine sqbx #[.string x, vi y, vi z] hst0 fun B2_1 W1 hst1 => ?_
  refine sqp [.k 3 (.bool false)] ?_
  refine then_normal (wp_seq (sqr (sqp [.k 4 (vp B2_1)] ?_)))
  refine sqld 0 hst1 ?_
  refine sqp [.k 6 (vp tb), .k 7 (vp tb)] ?_
  refine sql (.string te) hst1 (fun cx => run_load1 rfl (by kernel_rfl) (cx.ou 7) ((Blk.ext h1 cx.upd.to_ext).cell 0)) ?_
  refine sqp [.k 9 (.bool (x.toList == te.toList)), .m 3 9] ?_
  refine then_normal (wp_ret ?_)
  refine bpr (.bool (x.toList == te.toList)) (results_1 Try.results83 rpt) ?_
  exact Ret.bool rfl hst1.ext
theorem kput1_con {A : Option Addr} {c : Nat} {es : List EnD} {w : World} {tb : Nat} {te : ByteArray} {t1 tk tl : Int} (hE : At w A (es.flatMap enC)) (hl : es.length ≤ 100000) (h1 : Blk w tb 106 #[.string te, .int .i64 t1, .int .i64 tk, .int .i64 tl]) :
    Calls Try.prog 51 #[.slice A es.length c, .func (.func 83) #[] #[.pointer (some ⟨tb, 0, none⟩)]] w (Ret (.bool (hasE es te)) w) :=
  kcon_any A c es 83 #[.pointer (some ⟨tb, 0, none⟩)] (fun e => e.1.toList == te.toList) w hE hl (by kernel_rfl) (fun W k hW => kput1_any k.1 _ k.2.2 tb te t1 tk tl W (h1.ext hW))
end
end Go.Proofs.Ytjlcoglmjldjbaa
namespace Go.Proofs.Ytjlcoglmjldjbaa
section
open Go.RowKit
set_option linter.unusedVariables false
set_option linter.unusedSimpArgs false
def tkK (t : TaT) : List Value := [.string t.1, .int .i64 0, .int .i64 t.2.2, .int .i64 t.2.1]
theorem tkK_len (t : TaT) : (tkK t).length = 4 := rfl
/-- an insertion: its block; its pending entries lie in the blocks behind it -/
def ePk (b : Nat) (p : PuT) (fp : List Nat) : Ent := ⟨fp, fun W => ∃ A c g, fp = b :: g ∧ b ∉ g ∧ p.left.length ≤ c ∧ (∀ ad, A = some ad → p.left ≠ [] → ad.block ∈ g) ∧ (∀ k ∈ g, k < W.heap.size) ∧ Blk W b 109 (puC p A c) ∧ At W A (p.left.flatMap tkK)⟩
theorem ePk_self {e : Ent} {b : Nat} {p : PuT} {fp : List Nat} (h : e = ePk b p fp) : e = ePk b p e.fp := by subst h; rfl
theorem ePk_loc (b : Nat) (p : PuT) (fp : List Nat) : (ePk b p fp).loc := fun W W' hk h => by
  obtain ⟨A, c, g, rfl, h2, h3, h4, h5, h6, h7⟩ := h
  refine ⟨A, c, g, rfl, h2, h3, h4, fun k hkg => ?_, (hk b (by simp [ePk])).trans h6, at_blocks h7 fun ad e hl => hk _ (by simp [ePk, h4 ad e hl])⟩
  have h8 := hk k (by simp [ePk, hkg])
  rcases Nat.lt_or_ge k W'.heap.size with h9 | h9
  · exact h9
  · rw [Array.getElem?_eq_none h9, Array.getElem?_eq_getElem (h5 k hkg)] at h8; cases h8
/-- behind a step: the pending entries lie where they lay -/
theorem pk_old {w W : World} {b : Nat} {g fp : List Nat} {p : PuT} {A : Option Addr} {c : Nat} {E : Ent} (h : St w [b] [eB b 109 (puC p A c), E] W) (hfp : fp = b :: g) (hbg : b ∉ g) (hlt : ∀ k ∈ g, k < w.heap.size) (hc : p.left.length ≤ c) (hA : At W A (p.left.flatMap tkK)) (hAg : ∀ ad, A = some ad → p.left ≠ [] → ad.block ∈ g) : ∃ fp', St w fp [ePk b p fp', E] W := by
  subst hfp
  have h1 := h.ok _ (List.mem_cons_self ..)
  have h2 := h.ok E (by simp)
  have ha := List.pairwise_pair.1 h.apart
  have hB : Blk W b 109 (puC p A c) := h1.holds
  have hnew : ∀ k ∈ E.fp, w.heap.size ≤ k := fun k hk => by
    rcases (h2.own k hk).1 with h3 | h3
    · exact absurd hk (ha k (by simpa [eB] using h3))
    · exact h3
  refine ⟨b :: g, h.upd.mono (fun k _ hk => by simp at hk; simp [hk]), fun x hx => ?_, List.pairwise_pair.2 fun k hk hk' => ?_⟩
  · simp only [List.mem_cons, List.not_mem_nil, or_false] at hx
    rcases hx with rfl | rfl
    · refine ⟨⟨A, c, g, rfl, hbg, hc, hAg, fun k hk => Nat.lt_of_lt_of_le (hlt k hk) h.upd.size, hB, hA⟩, ePk_loc _ _ _, fun k hk => ⟨.inl hk, ?_⟩⟩
      rcases List.mem_cons.1 hk with e | hk
      · rw [e]; exact hB.lt
      · exact Nat.lt_of_lt_of_le (hlt k hk) h.upd.size
    · exact ⟨h2.holds, h2.loc, fun k hk => ⟨.inr (hnew k hk), (h2.own k hk).2⟩⟩
  · have h4 := hnew k hk'
    rcases List.mem_cons.1 hk with e | hk
    · exact ha k (by simp [eB, e]) hk'
    · exact absurd (hlt k hk) (by omega)
theorem gk_new {w W : World} {b : Nat} {p : PuT} {A : Option Addr} {c : Nat} (h : St w [] [eB b 109 (puC p A c), eO 106 4 (.slice A p.left.length c) p.left.length (p.left.flatMap tkK)] W) : ∃ fp, St w [] [ePk b p fp] W := by
  have h1 := h.ok (eB b 109 (puC p A c)) (by simp)
  have h3 := h.ok (eO 106 4 (.slice A p.left.length c) p.left.length (p.left.flatMap tkK)) (by simp)
  have hp := List.pairwise_pair.1 h.apart
  have hB : Blk W b 109 (puC p A c) := h1.holds
  have hO : W.ownsRow 0 106 4 (.slice A p.left.length c) p.left.length (p.left.flatMap tkK) := h3.holds
  refine ⟨b :: (Value.slice A p.left.length c).ownBlock.toList, h.upd, fun x hx => ?_, List.pairwise_singleton _ _⟩
  rw [List.mem_singleton] at hx
  subst hx
  refine ⟨⟨A, c, _, rfl, fun hm => hp b (by simp [eB]) hm, eown_capN hO, fun ad e hl => ?_, fun k hk => (h3.own k hk).2, hB, At.of_ownN hO⟩, ePk_loc _ _ _, fun k hk => ?_⟩
  · subst e
    rcases hO.2 with ⟨hv, hm⟩ | ⟨g', cap, cur, hv, _⟩
    · injection hv with h5; cases h5
    · injection hv with h5; injection h5 with h5; subst h5; simp [Value.ownBlock]
  · rcases List.mem_cons.1 hk with e | hk
    · rw [e]; exact h1.own b (by simp [eB])
    · exact h3.own k hk
theorem tail_blk4 {lc : Nat} {la ad : Addr} (h : (if lc = 1 then some la else (some la).map (·.add (1 * 4))) = some ad) : ad.block = la.block := by
  split at h
  · rw [← Option.some.inj h]
  · have h2 := Option.some.inj h; rw [← h2, add_block]
def GkPost (p : PuT) (w : World) (e : Ending) (w' : World) : Prop := ∃ b fp, e = .returned (.pointer (some ⟨b, 0, none⟩)) ∧ St w [] [ePk b p fp] w'
def PtPost (b : Nat) (cells : Array Value) (eds : List EdT) (w : World) (e : Ending) (w' : World) : Prop := ∃ A c, e = .returned (.slice A eds.length c) ∧ St w [b] [eB b 109 cells, eO 99 3 (.slice A eds.length c) eds.length (eds.flatMap edC)] w'
def KtPost (b : Nat) (r : PuT × GoT) (fp : List Nat) (w : World) (e : Ending) (w' : World) : Prop := ∃ A c, e = .returned (.tuple #[.slice A r.2.eds.length c, .bool r.2.used, .int .i64 r.2.err]) ∧ ∃ fp', St w fp [ePk b r.1 fp', eO 99 3 (.slice A r.2.eds.length c) r.2.eds.length (r.2.eds.flatMap edC)] w'
set_option maxRecDepth 100000 in
set_option maxHeartbeats 2000000 in
theorem kgrowN_any (root : Int) (key : ByteArray) (pg sl : Int) (w : World) (hk : key.size ≤ 1000000) :
    Calls Try.prog 12 #[.int .i64 root, .string key, .agg #[.int .i64 pg, .int .i64 sl]] w (GkPost (putT root key pg sl) w) := by
  go_enter Try.func12, Try.ntmps12
  have hst0 := St.start w
  refine wp_seq (sqr ?_)
  refine sqbx #[vi pg, vi sl] hst0 fun B5_1 W1 hst1 => ?_
  refine sqp [.k 6 (.pointer none)] ?_
  refine then_normal (wp_seq (sqr (sqp [.m 7 0, .m 8 0, .m 9 1] ?_)))
  refine sqlb 0 2 hst1 ?_
  refine sqk (.string (entF key pg sl)) hst1 (fun cx => ⟨_, kentry_any key pg sl _ (by omega), (map2 (cx.ou 9) (cx.ou 10))⟩) fun W7 hst7 => ?_
  refine sqp [.k 12 (.agg #[.string (entF key pg sl), vi 0, vi 0]), .k 13 (.agg #[.string (entF key pg sl), vi 0, vi 0, vi 0])] ?_
  refine sqli 106 4 1 [.string (entF key pg sl), vi 0, vi 0, vi 0] hst7 (@fun ρ β W X cx => by have fF13 : ρ (.tmp 13) = .agg #[.string (entF key pg sl), vi 0, vi 0, vi 0] := (cx.ou 13); simp [go_sem, fF13]) fun B14_10 W10 hst10 => ?_
  refine sqp [.k 15 (.agg #[vi root, vi root, vi (-1), .slice ((some ⟨B14_10, 0, none⟩)) 1 1, vi 0, vi 0, .bool false])] ?_
  refine sqbx #[vi root, vi root, vi (-1), .slice ((some ⟨B14_10, 0, none⟩)) 1 1, vi 0, vi 0, .bool false] hst10 fun B16_12 W12 hst12 => ?_
  refine sqp [.m 6 16] ?_
  refine then_normal (wp_ret ?_)
  refine bpr (vp B16_12) (results_1 Try.results12 rpt) ?_
  obtain ⟨fp_, hgw_⟩ := gk_new (p := putT root key pg sl) (hst12.pick [2, 1] (by decide) rfl)
  exact ⟨_, _, rfl, hgw_⟩
set_option maxRecDepth 100000 in
set_option maxHeartbeats 2000000 in
theorem kdone_o (b : Nat) (root pos leaf fro to : Int) (spl : Bool) (LA : Option Addr) (ln lc : Nat) (w : World) (hb : Blk w b 109 #[.int .i64 root, .int .i64 pos, .int .i64 leaf, .slice LA ln lc, .int .i64 fro, .int .i64 to, .bool spl]) :
    Calls Try.prog 21 #[.pointer (some ⟨b, 0, none⟩)] w (Ret (.bool ((ln : Int) == 0)) w) := by
  go_enter Try.func21, Try.ntmps21
  have hst0 := St.start w
  refine wp_seq (sqr (sqp [.k 2 (.bool false)] ?_))
  refine then_normal (wp_seq (sqr (sqp [.m 3 0] ?_)))
  refine sqv (.bool false) hst0 (by
      exact sv0 rfl rfl rfl rfl rfl (fun _ _ _ h => h) fun ρ β W X cx => by
        have fF3 : ρ (.tmp 3) = vp b := (cx.ou 3)
        simp [go_sem, cx.sees.const, fF3]) fun W3 hst3 => ?_
  refine sqp [.k 5 (.bool false)] ?_
  refine sqgy 5 [6, 7, 8, 9, 10, 11] rfl rfl ?_
  refine sqp [.m 6 0, .k 7 (vp b), .k 8 (.pointer (some ⟨b, 3, none⟩))] ?_
  refine sql (.slice LA ln lc) hst3 (fun cx => run_load1 rfl (by kernel_rfl) (cx.ou 8) ((Blk.ext hb cx.upd.to_ext).cell 3)) ?_
  refine sqp [.k 10 (vi ((ln : Int))), .k 11 (.bool ((ln : Int) == 0))] ?_
  refine sqp [.k 12 (.bool ((ln : Int) == 0)), .m 2 12] ?_
  refine then_normal (wp_ret ?_)
  refine bpr (.bool ((ln : Int) == 0)) (results_1 Try.results21 rpt) ?_
  exact Ret.bool (by simp) hst3.ext
set_option maxRecDepth 100000 in
set_option maxHeartbeats 2000000 in
theorem kleaf_o (b : Nat) (root pos leaf fro to : Int) (spl : Bool) (LA : Option Addr) (ln lc : Nat) (w : World) (hb : Blk w b 109 #[.int .i64 root, .int .i64 pos, .int .i64 leaf, .slice LA ln lc, .int .i64 fro, .int .i64 to, .bool spl]) :
    Calls Try.prog 23 #[.pointer (some ⟨b, 0, none⟩)] w (Ret (.int .i64 leaf) w) := by
  go_enter Try.func23, Try.ntmps23
  have hst0 := St.start w
  refine wp_seq (sqr (sqp [.k 2 (vi 0)] ?_))
  refine then_normal (wp_seq (wp_seq (sqr (sqp [.m 3 0] ?_))))
  refine sqv (.bool false) hst0 (by
      exact sv0 rfl rfl rfl rfl rfl (fun _ _ _ h => h) fun ρ β W X cx => by
        have fF3 : ρ (.tmp 3) = vp b := (cx.ou 3)
        simp [go_sem, cx.sees.const, fF3]) fun W3 hst3 => ?_
  refine then_normal (wcf rfl (wp_skip (then_normal (wp_seq (sqr (sqp [.m 5 0, .k 6 (vp b), .k 7 (.pointer (some ⟨b, 2, none⟩))] ?_))))))
  refine sql (vi leaf) hst3 (fun cx => run_load1 rfl (by kernel_rfl) (cx.ou 7) ((Blk.ext hb cx.upd.to_ext).cell 2)) ?_
  refine sqp [.m 2 8] ?_
  refine then_normal (wp_ret ?_)
  refine bpr (vi leaf) (results_1 Try.results23 rpt) ?_
  exact Ret.of rfl hst3.ext
theorem kdone_pk {b : Nat} {p : PuT} {fp : List Nat} {w : World} (h : (ePk b p fp).holds w) : Calls Try.prog 21 #[.pointer (some ⟨b, 0, none⟩)] w (Ret (.bool ((p.left.length : Int) == 0)) w) := by
  obtain ⟨A, c, g, _, _, _, _, _, hB, _⟩ := h
  exact kdone_o b p.root p.pos p.leaf p.fro p.to p.spl A p.left.length c w hB
theorem kleaf_pk {b : Nat} {p : PuT} {fp : List Nat} {w : World} (h : (ePk b p fp).holds w) : Calls Try.prog 23 #[.pointer (some ⟨b, 0, none⟩)] w (Ret (.int .i64 p.leaf) w) := by
  obtain ⟨A, c, g, _, _, _, _, _, hB, _⟩ := h
  exact kleaf_o b p.root p.pos p.leaf p.fro p.to p.spl A p.left.length c w hB
set_option maxRecDepth 100000 in
set_option maxHeartbeats 2000000 in
theorem kput_any (b : Nat) (root pos leaf fro to : Int) (spl : Bool) (la : Addr) (ln lc : Nat) (nd : NoD) (np : Int) (EA : Option Addr) (ec : Nat) (te : ByteArray) (t1 tk tl : Int) (q : Bool) (w : World) (hb : Blk w b 109 #[.int .i64 root, .int .i64 pos, .int .i64 leaf, .slice ((some la)) ln lc, .int .i64 fro, .int .i64 to, .bool spl]) (hE : ∀ W, Upd [b] w W → At W EA (nd.es.flatMap enC)) (hel : nd.es.length ≤ 1000) (hln : 1 ≤ ln) (hlc : ln ≤ lc) (hte : te.size ≤ 1000000) (hq : hasE nd.es te = q) :
    Calls Try.prog 52 #[.pointer (some ⟨b, 0, none⟩), .agg #[.int .i64 np, .int .i64 nd.lv, .int .i64 nd.right, .string nd.high, .bool nd.dead, .slice EA nd.es.length ec, .int .i64 ((nd.free : Int))], .agg #[.string te, .int .i64 t1, .int .i64 tk, .int .i64 tl]] w (PtPost b #[.int .i64 root, .int .i64 root, .int .i64 ((if tl = 0 then np else leaf)), .slice ((if lc = 1 then some la else (some la).map (·.add (1 * 4)))) ((ln - 1)) ((lc - 1)), .int .i64 fro, .int .i64 to, .bool spl] (if q = true then [] else [(np, (nd.free : Int), itB nd.lv tk te)]) w) := by
  have st0 := St.lend (E := eB b 109 #[.int .i64 root, .int .i64 pos, .int .i64 leaf, .slice ((some la)) ln lc, .int .i64 fro, .int .i64 to, .bool spl]) hb (eB_loc _ _ _) (fun k hk => by simp [eB] at hk; subst hk; exact hb.lt)
  go_enter Try.func52, Try.ntmps52
  have hst0 := st0
  refine wp_seq (sqr ?_)
  refine sqbx #[vi np, vi nd.lv, vi nd.right, .string nd.high, .bool nd.dead, .slice EA nd.es.length ec, vi ((nd.free : Int))] hst0 fun B4_1 W1 hst1 => ?_
  refine sqbx #[.string te, vi t1, vi tk, vi tl] hst1 fun B5_2 W2 hst2 => ?_
  refine sqp [.k 6 (.slice none 0 0)] ?_
  refine then_normal (wp_seq (sqr (sqp [.k 7 (.slice none 0 0)] ?_)))
  refine then_normal (wp_seq (wp_seq (sqr (sqp [.k 8 (.pointer (some ⟨B4_1, 5, none⟩))] ?_))))
  refine sqld 1 hst2 ?_
  refine sqv (.func (.func 83) #[] #[vp B5_2]) hst2 (by
      exact sv0 rfl rfl rfl rfl rfl (fun _ _ _ h => h) fun ρ β W X cx => by
        have fF5 : ρ (.tmp 5) = vp B5_2 := (cx.ou 5)
        simp [go_sem, Instr.makeFunc, fF5]) fun W7 hst7 => ?_
  refine sqk (.bool ((hasE nd.es te))) hst7 (fun cx => ⟨_, kput1_con (hE _ cx.upd) (by omega) (cx.bi 2 rfl), (map2 (cx.ou 9) (cx.ou 10))⟩) fun W8 hst8 => ?_
  refine sqp [.k 12 (.bool (!((hasE nd.es te))))] ?_
  refine then_normal ?_
  rcases Bool.eq_false_or_eq_true ((hasE nd.es te)) with hs10 | hs10
  · refine wp_cond_false (show Act.eval _ _ = .bool false from (congrArg Value.bool (by rw [hs10]; rfl))) (wp_skip (then_normal (wp_seq (wp_seq (sqr (sqp [.k 23 (.pointer (some ⟨B5_2, 3, none⟩))] ?_))))))
    refine sqld 2 hst8 ?_
    refine sqp [.k 25 (.bool (tl == 0))] ?_
    refine then_normal (wbs (fun hs14 => ?_) fun hs14 => ?_)
    · have hs14p := beq_iff_eq.1 hs14
      refine sqr (sqp [.m 26 0, .k 27 (vp B4_1)] ?_)
      refine sqld 1 hst8 ?_
      refine sqp [.k 29 (vp b), .k 30 (.pointer (some ⟨b, 2, none⟩))] ?_
      refine sqst (n := 1) 0 #[vi root, vi pos, vi np, .slice ((some la)) ln lc, vi fro, vi to, .bool spl] hst8 fun W20 hst20 => ?_
      refine then_normal (wp_seq (wp_region_Y [0, 0, 0, 4, 12, 28, 60, 0, 128, 384, 896, 2045, 4093, 8189, 16383, 32767, 65535] [[], [], [], [], [], [0], [], [], [], [], [0], [], [], [0], [], [], [3]] [[], [], [], [], [], [], [], [], [], [], [], [], [], [3], [], [], [4]] [[], [], [], [], [], [], [], [], [], [], [], [], [], [0], [], [], [3]] [.k 31 (vp b), .k 32 (vp b), .k 33 (vp b), .k 34 (vp b), .k 35 (.pointer (some ⟨b, 3, none⟩)), .c 36 (.slice ((some la)) ln lc), .c 37 (.slice ((if lc = 1 then (some la) else ((some la)).map (·.add (1 * 4)))) ((ln - 1)) ((lc - 1))), .k 38 (vp b), .k 39 (vp b), .k 40 (vp b), .c 41 (vi root), .k 42 (vp b), .k 43 (.pointer (some ⟨b, 3, none⟩)), .n, .k 44 (vp b), .k 45 (.pointer (some ⟨b, 1, none⟩)), .n] (fun ix σ β X => match ix with | 0 => True | 1 => True | 2 => True | 3 => True | 4 => True | 5 => True | 6 => True | 7 => True | 8 => True | 9 => True | 10 => True | 11 => True | 12 => True | 13 => X 3 = eB b 109 #[vi root, vi pos, vi np, .slice ((if lc = 1 then (some la) else ((some la)).map (·.add (1 * 4)))) ((ln - 1)) ((lc - 1)), vi fro, vi to, .bool spl] | 14 => True | 15 => True | 16 => X 4 = eB b 109 #[vi root, vi root, vi np, .slice ((if lc = 1 then (some la) else ((some la)).map (·.add (1 * 4)))) ((ln - 1)) ((lc - 1)), vi fro, vi to, .bool spl] | _ => True) [1, 2, 4] [5, 6, 10, 13, 16] [(31, 0, 16, 46)] hst20 ?_ ?_ ?_))
      · exact fun ix _ _ _ _ _ _ hs hb hx h => match ix, h with
        | 13, h => by dsimp only; rw [← hx 3 rfl]; exact h
        | 16, h => by dsimp only; rw [← hx 4 rfl]; exact h
        | 0, _ | 1, _ | 2, _ | 3, _ | 4, _ | 5, _ | 6, _ | 7, _ | 8, _ | 9, _ | 10, _ | 11, _ | 12, _ | 14, _ | 15, _ | _ + 17, _ => trivial
      · refine ⟨?_, ?_, ?_, ?_, ?_, trivial⟩
        · exact xs4 rfl id fun cx => run_load1 rfl (by kernel_rfl) (cx.an 4) ((cx.bi 0 rfl).cell 3)
        · exact xs4 rfl id fun cx => run_sliceL_lo (e := 106) (sz := 4) (l := 1) rfl (by kernel_rfl) (by kernel_rfl) (cx.an 5) (cx.co _) (by omega) (by omega)
        · exact xs4 rfl id fun cx => run_load1 rfl (by kernel_rfl) (cx.an 9) ((cx.bi 0 rfl).cell 0)
        · refine svA fun ρ β W X cx => ?_
          exact dv_store (n := 1) rfl (cx.an 12) (cx.an 6) (by kernel_rfl) (by kernel_rfl) (by kernel_rfl) cx (cx.init 0 _ rfl) rfl (nle rfl) (by kernel_rfl) rfl rfl rfl (fun σ β' X' hs hb hx => hx)
        · refine svA fun ρ β W X cx => ?_
          exact dv_store (n := 1) rfl (cx.an 15) (cx.an 10) (by kernel_rfl) (by kernel_rfl) (by kernel_rfl) cx (dTn (cx.an 13)) rfl (nle rfl) (by kernel_rfl) rfl rfl rfl (fun σ β' X' hs hb hx => hx)
      intro σ β X W21 hD hst21 fr hfr
      simp only [exq 4 ((dTn (hD 16 lq)))] at hst21
      clear hD; subst hfr; clear σ β X
      refine then_normal (wp_seq (sqr (sqp [.m 46 7, .m 6 46] ?_)))
      refine then_normal (wp_ret ?_)
      refine bpr (.slice none 0 0) (results_1 Try.results52 rpt) ?_
      have hqq : q = true := hq.symm.trans hs10
      have htl0 : tl = 0 := by have h_ := hs14; simpa using h_
      rw [if_pos htl0, hqq]
      have hn24 := nilrowN hst21 99 3
      simp only [List.cons_append, List.nil_append] at hn24
      exact ⟨_, _, rfl, hn24.pick [2, 3] (by decide) rfl⟩
    have hs14p := beq_eq_false_iff_ne.1 hs14
    refine wp_skip (then_normal (wp_seq (wp_region_Y [0, 0, 0, 4, 12, 28, 60, 0, 128, 384, 896, 2045, 4093, 8189, 16383, 32767, 65535] [[], [], [], [], [], [0], [], [], [], [], [0], [], [], [0], [], [], [3]] [[], [], [], [], [], [], [], [], [], [], [], [], [], [3], [], [], [4]] [[], [], [], [], [], [], [], [], [], [], [], [], [], [0], [], [], [3]] [.k 31 (vp b), .k 32 (vp b), .k 33 (vp b), .k 34 (vp b), .k 35 (.pointer (some ⟨b, 3, none⟩)), .c 36 (.slice ((some la)) ln lc), .c 37 (.slice ((if lc = 1 then (some la) else ((some la)).map (·.add (1 * 4)))) ((ln - 1)) ((lc - 1))), .k 38 (vp b), .k 39 (vp b), .k 40 (vp b), .c 41 (vi root), .k 42 (vp b), .k 43 (.pointer (some ⟨b, 3, none⟩)), .n, .k 44 (vp b), .k 45 (.pointer (some ⟨b, 1, none⟩)), .n] (fun ix σ β X => match ix with | 0 => True | 1 => True | 2 => True | 3 => True | 4 => True | 5 => True | 6 => True | 7 => True | 8 => True | 9 => True | 10 => True | 11 => True | 12 => True | 13 => X 3 = eB b 109 #[vi root, vi pos, vi leaf, .slice ((if lc = 1 then (some la) else ((some la)).map (·.add (1 * 4)))) ((ln - 1)) ((lc - 1)), vi fro, vi to, .bool spl] | 14 => True | 15 => True | 16 => X 4 = eB b 109 #[vi root, vi root, vi leaf, .slice ((if lc = 1 then (some la) else ((some la)).map (·.add (1 * 4)))) ((ln - 1)) ((lc - 1)), vi fro, vi to, .bool spl] | _ => True) [1, 2, 4] [5, 6, 10, 13, 16] [(31, 0, 16, 46)] hst8 ?_ ?_ ?_)))
    · exact fun ix _ _ _ _ _ _ hs hb hx h => match ix, h with
      | 13, h => by dsimp only; rw [← hx 3 rfl]; exact h
      | 16, h => by dsimp only; rw [← hx 4 rfl]; exact h
      | 0, _ | 1, _ | 2, _ | 3, _ | 4, _ | 5, _ | 6, _ | 7, _ | 8, _ | 9, _ | 10, _ | 11, _ | 12, _ | 14, _ | 15, _ | _ + 17, _ => trivial
    · refine ⟨?_, ?_, ?_, ?_, ?_, trivial⟩
      · exact xs4 rfl id fun cx => run_load1 rfl (by kernel_rfl) (cx.an 4) ((cx.bi 0 rfl).cell 3)
      · exact xs4 rfl id fun cx => run_sliceL_lo (e := 106) (sz := 4) (l := 1) rfl (by kernel_rfl) (by kernel_rfl) (cx.an 5) (cx.co _) (by omega) (by omega)
      · exact xs4 rfl id fun cx => run_load1 rfl (by kernel_rfl) (cx.an 9) ((cx.bi 0 rfl).cell 0)
      · refine svA fun ρ β W X cx => ?_
        exact dv_store (n := 1) rfl (cx.an 12) (cx.an 6) (by kernel_rfl) (by kernel_rfl) (by kernel_rfl) cx (cx.init 0 _ rfl) rfl (nle rfl) (by kernel_rfl) rfl rfl rfl (fun σ β' X' hs hb hx => hx)
      · refine svA fun ρ β W X cx => ?_
        exact dv_store (n := 1) rfl (cx.an 15) (cx.an 10) (by kernel_rfl) (by kernel_rfl) (by kernel_rfl) cx (dTn (cx.an 13)) rfl (nle rfl) (by kernel_rfl) rfl rfl rfl (fun σ β' X' hs hb hx => hx)
    intro σ β X W25 hD hst25 fr hfr
    simp only [exq 4 ((dTn (hD 16 lq)))] at hst25
    clear hD; subst hfr; clear σ β X
    refine then_normal (wp_seq (sqr (sqp [.m 46 7, .m 6 46] ?_)))
    refine then_normal (wp_ret ?_)
    refine bpr (.slice none 0 0) (results_1 Try.results52 rpt) ?_
    have hqq : q = true := hq.symm.trans hs10
    have htl0 : ¬ tl = 0 := by have h_ := hs14; simpa using h_
    rw [if_neg htl0, hqq]
    have hn28 := nilrowN hst25 99 3
    simp only [List.cons_append, List.nil_append] at hn28
    exact ⟨_, _, rfl, hn28.pick [2, 3] (by decide) rfl⟩
  refine wp_cond_true (show Act.eval _ _ = .bool true from (congrArg Value.bool (by rw [hs10]; rfl))) (wp_region_Y [0, 1, 0, 4, 0, 0, 32, 112, 255, 511, 1023] [[], [1], [], [1], [1], [], [2]] [[], [], [], [], [], [], [], [], [], [3]] [] [.k 13 (vp B4_1), .c 14 (vi np), .k 15 (.pointer (some ⟨B4_1, 6, none⟩)), .c 16 (vi ((nd.free : Int))), .c 17 (.agg #[vi np, vi nd.lv, vi nd.right, .string nd.high, .bool nd.dead, .slice EA nd.es.length ec, vi ((nd.free : Int))]), .k 18 (vp B5_2), .c 19 (.agg #[.string te, vi t1, vi tk]), .c 20 (.string (itB nd.lv tk te)), .k 21 (.agg #[vi np, vi ((nd.free : Int)), .string (itB nd.lv tk te)]), .a 22, .a 7] (fun ix σ β X => match ix with | 0 => True | 1 => True | 2 => True | 3 => True | 4 => True | 5 => True | 6 => True | 7 => True | 8 => True | 9 => σ 22 = .slice ((some ⟨(pb' (β 22)), 0, none⟩)) 1 1 ∧ X 3 = eO 99 3 (.slice ((some ⟨(pb' (β 22)), 0, none⟩)) 1 1) 1 ([vi np, vi ((nd.free : Int)), .string (itB nd.lv tk te)]) | 10 => σ 7 = .slice ((some ⟨(pb' (β 22)), 0, none⟩)) 1 1 | _ => True) [0, 1, 2, 3] [1, 3, 4, 6, 7, 9, 10] [(7, 10, 1, 8), (5, 0, 10, 15)] hst8 ?_ ?_ ?_)
  · exact fun ix _ _ _ _ _ _ hs hb hx h => match ix, h with
    | 9, h => by dsimp only; rw [← hs 22 rfl, ← hb 22 rfl, ← hx 3 rfl]; exact h
    | 10, h => by dsimp only; rw [← hs 7 rfl, ← hb 22 rfl]; exact h
    | 0, _ | 1, _ | 2, _ | 3, _ | 4, _ | 5, _ | 6, _ | 7, _ | 8, _ | _ + 11, _ => trivial
  · refine ⟨?_, ?_, ?_, ?_, ?_, ?_, ?_, trivial⟩
    · exact xs4 rfl id fun cx => run_load1 rfl (by kernel_rfl) (cx.an 0) ((cx.bi 1 rfl).cell 0)
    · exact xs4 rfl id fun cx => run_load1 rfl (by kernel_rfl) (cx.an 2) ((cx.bi 1 rfl).cell 6)
    · exact xs4 rfl id fun cx => run_loadB (n := 7) rfl (by kernel_rfl) (by kernel_rfl) (cx.ou 4) (cx.bi 1 rfl) (nle rfl) rfl
    · exact xs4 rfl id fun cx => run_loadB (n := 3) rfl (by kernel_rfl) (by kernel_rfl) (cx.an 5) (cx.bi 2 rfl) (nle rfl) rfl
    · exact xsc rfl id rfl rfl fun cx => ⟨_, kitem_any np nd.lv nd.right (nd.free : Int) nd.high nd.dead _ _ _ te t1 tk _ (by omega), (map2 (cx.an 4) (cx.an 6))⟩
    · refine svA fun ρ β W X cx => ?_
      have fF21 : ρ (.tmp 21) = .agg #[vi np, vi ((nd.free : Int)), .string (itB nd.lv tk te)] := (cx.an 8)
      exact dv_litN (e := 99) (sz := 3) (xs := [vi np, vi ((nd.free : Int)), .string (itB nd.lv tk te)]) rfl (by simp [go_sem, fF21]) rfl (by decide) rfl rfl (fun σ β' X' hs hb hv hx => ⟨hv, hx⟩)
    · exact sv rfl rfl rfl rfl rfl _ (fun _ _ _ h => h) (fun β β' h => by rw [h 22 (by decide)]) fun ρ β W X cx => run_assign' rfl (dTn (cx.an 9)).1
  intro σ β X W29 hD hst29 fr hfr
  obtain ⟨B22_29, hu_B22_29⟩ : ∃ z, pb' (β 22) = z := ⟨_, rfl⟩
  simp only [exq 3 ((dTn (hD 9 lq)).2), hu_B22_29] at hst29
  simp only [ed 22 ((dTn (hD 9 lq)).1), ed 7 ((dTn (hD 10 lq))), hu_B22_29] at hfr
  clear hD hu_B22_29; subst hfr; clear σ β X
  refine then_normal (wp_seq (wp_seq (sqr (sqp [.k 23 (.pointer (some ⟨B5_2, 3, none⟩))] ?_))))
  refine sqld 2 hst29 ?_
  refine sqp [.k 25 (.bool (tl == 0))] ?_
  refine then_normal (wbs (fun hs33 => ?_) fun hs33 => ?_)
  · have hs33p := beq_iff_eq.1 hs33
    refine sqr (sqp [.m 26 0, .k 27 (vp B4_1)] ?_)
    refine sqld 1 hst29 ?_
    refine sqp [.k 29 (vp b), .k 30 (.pointer (some ⟨b, 2, none⟩))] ?_
    refine sqst (n := 1) 0 #[vi root, vi pos, vi np, .slice ((some la)) ln lc, vi fro, vi to, .bool spl] hst29 fun W39 hst39 => ?_
    refine then_normal (wp_seq (wp_region_Y [0, 0, 0, 4, 12, 28, 60, 0, 128, 384, 896, 2045, 4093, 8189, 16383, 32767, 65535] [[], [], [], [], [], [0], [], [], [], [], [0], [], [], [0], [], [], [4]] [[], [], [], [], [], [], [], [], [], [], [], [], [], [4], [], [], [5]] [[], [], [], [], [], [], [], [], [], [], [], [], [], [0], [], [], [4]] [.k 31 (vp b), .k 32 (vp b), .k 33 (vp b), .k 34 (vp b), .k 35 (.pointer (some ⟨b, 3, none⟩)), .c 36 (.slice ((some la)) ln lc), .c 37 (.slice ((if lc = 1 then (some la) else ((some la)).map (·.add (1 * 4)))) ((ln - 1)) ((lc - 1))), .k 38 (vp b), .k 39 (vp b), .k 40 (vp b), .c 41 (vi root), .k 42 (vp b), .k 43 (.pointer (some ⟨b, 3, none⟩)), .n, .k 44 (vp b), .k 45 (.pointer (some ⟨b, 1, none⟩)), .n] (fun ix σ β X => match ix with | 0 => True | 1 => True | 2 => True | 3 => True | 4 => True | 5 => True | 6 => True | 7 => True | 8 => True | 9 => True | 10 => True | 11 => True | 12 => True | 13 => X 4 = eB b 109 #[vi root, vi pos, vi np, .slice ((if lc = 1 then (some la) else ((some la)).map (·.add (1 * 4)))) ((ln - 1)) ((lc - 1)), vi fro, vi to, .bool spl] | 14 => True | 15 => True | 16 => X 5 = eB b 109 #[vi root, vi root, vi np, .slice ((if lc = 1 then (some la) else ((some la)).map (·.add (1 * 4)))) ((ln - 1)) ((lc - 1)), vi fro, vi to, .bool spl] | _ => True) [1, 2, 3, 5] [5, 6, 10, 13, 16] [(31, 0, 16, 46)] hst39 ?_ ?_ ?_))
    · exact fun ix _ _ _ _ _ _ hs hb hx h => match ix, h with
      | 13, h => by dsimp only; rw [← hx 4 rfl]; exact h
      | 16, h => by dsimp only; rw [← hx 5 rfl]; exact h
      | 0, _ | 1, _ | 2, _ | 3, _ | 4, _ | 5, _ | 6, _ | 7, _ | 8, _ | 9, _ | 10, _ | 11, _ | 12, _ | 14, _ | 15, _ | _ + 17, _ => trivial
    · refine ⟨?_, ?_, ?_, ?_, ?_, trivial⟩
      · exact xs4 rfl id fun cx => run_load1 rfl (by kernel_rfl) (cx.an 4) ((cx.bi 0 rfl).cell 3)
      · exact xs4 rfl id fun cx => run_sliceL_lo (e := 106) (sz := 4) (l := 1) rfl (by kernel_rfl) (by kernel_rfl) (cx.an 5) (cx.co _) (by omega) (by omega)
      · exact xs4 rfl id fun cx => run_load1 rfl (by kernel_rfl) (cx.an 9) ((cx.bi 0 rfl).cell 0)
      · refine svA fun ρ β W X cx => ?_
        exact dv_store (n := 1) rfl (cx.an 12) (cx.an 6) (by kernel_rfl) (by kernel_rfl) (by kernel_rfl) cx (cx.init 0 _ rfl) rfl (nle rfl) (by kernel_rfl) rfl rfl rfl (fun σ β' X' hs hb hx => hx)
      · refine svA fun ρ β W X cx => ?_
        exact dv_store (n := 1) rfl (cx.an 15) (cx.an 10) (by kernel_rfl) (by kernel_rfl) (by kernel_rfl) cx (dTn (cx.an 13)) rfl (nle rfl) (by kernel_rfl) rfl rfl rfl (fun σ β' X' hs hb hx => hx)
    intro σ β X W40 hD hst40 fr hfr
    simp only [exq 5 ((dTn (hD 16 lq)))] at hst40
    clear hD; subst hfr; clear σ β X
    refine then_normal (wp_seq (sqr (sqp [.m 46 7, .m 6 46] ?_)))
    refine then_normal (wp_ret ?_)
    refine bpr (.slice ((some ⟨B22_29, 0, none⟩)) 1 1) (results_1 Try.results52 rpt) ?_
    have hqq : q = false := hq.symm.trans hs10
    have htl0 : tl = 0 := by have h_ := hs33; simpa using h_
    rw [if_pos htl0, hqq]
    exact ⟨_, _, rfl, hst40.pick [3, 2] (by decide) rfl⟩
  have hs33p := beq_eq_false_iff_ne.1 hs33
  refine wp_skip (then_normal (wp_seq (wp_region_Y [0, 0, 0, 4, 12, 28, 60, 0, 128, 384, 896, 2045, 4093, 8189, 16383, 32767, 65535] [[], [], [], [], [], [0], [], [], [], [], [0], [], [], [0], [], [], [4]] [[], [], [], [], [], [], [], [], [], [], [], [], [], [4], [], [], [5]] [[], [], [], [], [], [], [], [], [], [], [], [], [], [0], [], [], [4]] [.k 31 (vp b), .k 32 (vp b), .k 33 (vp b), .k 34 (vp b), .k 35 (.pointer (some ⟨b, 3, none⟩)), .c 36 (.slice ((some la)) ln lc), .c 37 (.slice ((if lc = 1 then (some la) else ((some la)).map (·.add (1 * 4)))) ((ln - 1)) ((lc - 1))), .k 38 (vp b), .k 39 (vp b), .k 40 (vp b), .c 41 (vi root), .k 42 (vp b), .k 43 (.pointer (some ⟨b, 3, none⟩)), .n, .k 44 (vp b), .k 45 (.pointer (some ⟨b, 1, none⟩)), .n] (fun ix σ β X => match ix with | 0 => True | 1 => True | 2 => True | 3 => True | 4 => True | 5 => True | 6 => True | 7 => True | 8 => True | 9 => True | 10 => True | 11 => True | 12 => True | 13 => X 4 = eB b 109 #[vi root, vi pos, vi leaf, .slice ((if lc = 1 then (some la) else ((some la)).map (·.add (1 * 4)))) ((ln - 1)) ((lc - 1)), vi fro, vi to, .bool spl] | 14 => True | 15 => True | 16 => X 5 = eB b 109 #[vi root, vi root, vi leaf, .slice ((if lc = 1 then (some la) else ((some la)).map (·.add (1 * 4)))) ((ln - 1)) ((lc - 1)), vi fro, vi to, .bool spl] | _ => True) [1, 2, 3, 5] [5, 6, 10, 13, 16] [(31, 0, 16, 46)] hst29 ?_ ?_ ?_)))
  · exact fun ix _ _ _ _ _ _ hs hb hx h => match ix, h with
    | 13, h => by dsimp only; rw [← hx 4 rfl]; exact h
    | 16, h => by dsimp only; rw [← hx 5 rfl]; exact h
    | 0, _ | 1, _ | 2, _ | 3, _ | 4, _ | 5, _ | 6, _ | 7, _ | 8, _ | 9, _ | 10, _ | 11, _ | 12, _ | 14, _ | 15, _ | _ + 17, _ => trivial
  · refine ⟨?_, ?_, ?_, ?_, ?_, trivial⟩
    · exact xs4 rfl id fun cx => run_load1 rfl (by kernel_rfl) (cx.an 4) ((cx.bi 0 rfl).cell 3)
    · exact xs4 rfl id fun cx => run_sliceL_lo (e := 106) (sz := 4) (l := 1) rfl (by kernel_rfl) (by kernel_rfl) (cx.an 5) (cx.co _) (by omega) (by omega)
    · exact xs4 rfl id fun cx => run_load1 rfl (by kernel_rfl) (cx.an 9) ((cx.bi 0 rfl).cell 0)
    · refine svA fun ρ β W X cx => ?_
      exact dv_store (n := 1) rfl (cx.an 12) (cx.an 6) (by kernel_rfl) (by kernel_rfl) (by kernel_rfl) cx (cx.init 0 _ rfl) rfl (nle rfl) (by kernel_rfl) rfl rfl rfl (fun σ β' X' hs hb hx => hx)
    · refine svA fun ρ β W X cx => ?_
      exact dv_store (n := 1) rfl (cx.an 15) (cx.an 10) (by kernel_rfl) (by kernel_rfl) (by kernel_rfl) cx (dTn (cx.an 13)) rfl (nle rfl) (by kernel_rfl) rfl rfl rfl (fun σ β' X' hs hb hx => hx)
  intro σ β X W43 hD hst43 fr hfr
  simp only [exq 5 ((dTn (hD 16 lq)))] at hst43
  clear hD; subst hfr; clear σ β X
  refine then_normal (wp_seq (sqr (sqp [.m 46 7, .m 6 46] ?_)))
  refine then_normal (wp_ret ?_)
  refine bpr (.slice ((some ⟨B22_29, 0, none⟩)) 1 1) (results_1 Try.results52 rpt) ?_
  have hqq : q = false := hq.symm.trans hs10
  have htl0 : ¬ tl = 0 := by have h_ := hs33; simpa using h_
  rw [if_neg htl0, hqq]
  exact ⟨_, _, rfl, hst43.pick [3, 2] (by decide) rfl⟩
set_option maxRecDepth 100000 in
set_option maxHeartbeats 2000000 in
theorem kdown_any (np lv rt fr : Int) (hg : ByteArray) (dead : Bool) (EA : Option Addr) (ec n : Nat) (x : ByteArray) (es : List EnD) (w : World) (hE : At w EA (es.flatMap enC)) (hn : es.length = n) (hez : ∀ e ∈ es, e.1.size ≤ 1000000) (hnb : n ≤ 100000) (hx : x.size ≤ 1000000) :
    Calls Try.prog 50 #[.agg #[.int .i64 np, .int .i64 lv, .int .i64 rt, .string hg, .bool dead, .slice EA n ec, .int .i64 fr], .string x] w (Ret (.int .i64 (downF x es (-1))) w) := by
  go_enter Try.func50, Try.ntmps50
  have hst0 := St.start w
  refine wp_seq (sqr ?_)
  refine sqbx #[vi np, vi lv, vi rt, .string hg, .bool dead, .slice EA n ec, vi fr] hst0 fun B2_1 W1 hst1 => ?_
  refine sqp [.k 4 (vi 0)] ?_
  refine then_normal (wp_seq (sqr (sqp [.k 5 (vi (-1))] ?_)))
  refine then_normal (wp_seq (wp_seq (sqr (sqp [.k 8 (.pointer (some ⟨B2_1, 5, none⟩))] ?_))))
  refine sqld 0 hst1 ?_
  refine sqp [.k 10 (vi ((n : Int))), .k 11 (vi 0)] ?_
  refine then_normal (wp_block ?_)
  refine wp_loopT (fun t_ mz az W => ∃ j : Nat, ∃ d : Int, j ≤ n ∧ downF x es (-1) = downF x (es.drop j) d ∧ mz = n - j ∧ az = ⟨(ovr (jv az) [(5, 5, 0, [vi d]), (1, 7, 1, []), (3, 11, 0, [vi ((j : Int))]), (0, 12, 15, [])] t_).toArray, []⟩ ∧ St w [] [eB B2_1 116 #[vi np, vi lv, vi rt, .string hg, .bool dead, .slice EA n ec, vi fr]] W) (n - 0) ?_ ?_
  · -- the loop begins
    exact ⟨0, (-1), Nat.zero_le _, rfl, rfl, (by kernel_rfl), hst1.pk [0]⟩
  rintro n8 a8 W8 ⟨j, d, hj, hI, rfl, hj_, hst8⟩
  refine ovz hj_ fun u8_ => ?_
  refine wp_seq (sqr (sqp [.k 12 (.bool (decide ((j : Int) < (n : Int))))] ?_))
  refine then_normal (wp_seq (wds (fun hs10 hs10p => ?_) fun hs10 hs10p => ?_))
  · refine wp_skip (then_normal (wp_seq (wp_block (wp_seq (sqr ?_)))))
    refine sql (.pointer (some ((ad EA).add (j * 3)))) hst8 (fun cx => run_indexSlM (e := 104) (m := j) (sz := 3) rfl (by kernel_rfl) (by kernel_rfl) (cx.ou 9) (cx.ou 11) (by omega) (by omega) (hE.ext cx.upd.to_ext) (flatPos (sz := 3) enC_len (by decide) (by omega))) ?_
    refine sql (.agg #[.string ((es.getD j en0).1), vi (((es.getD j en0).2.1 : Int)), vi ((es.getD j en0).2.2)]) hst8 (fun cx => run_loadElt (f := enC) (m := j) (sz := 3) (off := 0) (n := 3) rfl (by kernel_rfl) (by kernel_rfl) (cx.ou 13) rfl enC_len (hE.ext cx.upd.to_ext) (en_get (by omega)) (fun k hk => match k, hk with | 0, _ => rfl | 1, _ => rfl | 2, _ => rfl | k + 3, hk => absurd hk (by omega))) ?_
    refine sqal #[.string ByteArray.empty, vi 0, vi 0] hst8 fun B7_13 W13 hst13 => ?_
    refine sqst (n := 3) 1 #[.string ((es.getD j en0).1), vi (((es.getD j en0).2.1 : Int)), vi ((es.getD j en0).2.2)] hst13 fun W14 hst14 => ?_
    refine then_normal (wp_seq (sqr (sqp [.m 15 5, .k 16 (.bool (decide (d < 0))), .m 17 16] ?_)))
    refine sqwW 17 [18, 19, 20, 21, 22] ?_ hst14 rfl (fun hq => ?_) fun W23 hst23 => ?_
    rotate_left
    · have hq_ := of_decide_eq_false hq
      refine sqp [.m 18 1, .k 19 (vp B7_13)] ?_
      refine sqld 1 hst14 ?_
      refine sqk (.bool (lessF x ((es.getD j en0).1))) hst14 (fun cx => ⟨_, kless_any x ((es.getD j en0).1) _ (by omega) (getD_size hez _), (map2 (cx.ou 18) (cx.ou 20))⟩) fun W21 hst21 => ?_
      refine sqp [.k 22 (.bool (!(lessF x ((es.getD j en0).1))))] ?_
      exact sqE hst21
    refine sqwx ?_
    refine sqp [sPo 23 (decide (d < 0)) (!(lessF x ((es.getD j en0).1)))] ?_
    refine then_normal (wbs (fun hs25 => ?_) fun hs25 => ?_)
    · have hs25p := hs25
      simp only [zB] at hs25p
      refine sqr (sqp [.k 24 (.pointer (some ⟨B7_13, 2, none⟩))] ?_)
      refine sqld 1 hst23 ?_
      refine sqp [.m 5 25] ?_
      refine blk_normal (then_normal (sqr (sqp [sI 26 ((j : Int) + 1) (by omega), .m 11 26] ?_)))
      refine then_normal ?_
      refine ⟨n - ((j + 1)), by omega, ?_⟩
      exact ⟨(j + 1), ((es.getD j en0).2.2), by omega, by rw [hI, downF_at (by omega), if_pos (dn_yes hs25)], rfl, (by kernel_rfl), hst23.pk [0]⟩
    have hs25p := hs25
    simp only [zB] at hs25p
    obtain ⟨hs25p1, hs25p2⟩ := hs25p
    refine wp_skip (blk_normal (then_normal (sqr (sqp [sI 26 ((j : Int) + 1) (by omega), .m 11 26] ?_))))
    refine then_normal ?_
    refine ⟨n - ((j + 1)), by omega, ?_⟩
    exact ⟨(j + 1), d, by omega, by rw [hI, downF_at (by omega), if_neg (dn_no hs25)], rfl, (by kernel_rfl), hst23.pk [0]⟩
  refine wp_exit (then_exit (then_exit (blk_eq (then_normal (wp_seq (sqr (sqp [.m 27 5, .m 4 27] ?_)))))))
  refine then_normal (wp_ret ?_)
  refine bpr (vi d) (results_1 Try.results50 rpt) ?_
  exact Ret.of (by rw [hI, List.drop_of_length_le (by omega)]; rfl) hst8.ext
set_option maxRecDepth 100000 in
set_option maxHeartbeats 8000000 in
theorem kstep_s (b : Nat) (tt : TypeId) (tv : Value) (root pos leaf fro to : Int) (spl : Bool) (la : Addr) (ln lc : Nat) (te : ByteArray) (tl tk : Int) (lf : List TaT) (ps : List PgS) (fresh : Int) (fp g : List Nat) (w : World) (hb : Blk w b 109 #[.int .i64 root, .int .i64 pos, .int .i64 leaf, .slice ((some la)) ln lc, .int .i64 fro, .int .i64 to, .bool spl]) (hL : ∀ W, Upd [b] w W → At W (some la) (((te, tl, tk) :: lf).flatMap tkK)) (hln : ((te, tl, tk) :: lf).length = ln) (hlc : ((te, tl, tk) :: lf).length ≤ lc) (hlnb : ln ≤ 10000) (hS : ∀ W, Upd [b] w W → PgsOk W tt tv ps) (hok : OkS ps) (hoc : OkC ps) (hfp : fp = b :: g) (hbg : b ∉ g) (hlt : ∀ k ∈ g, k < w.heap.size) (hla : la.block ∈ g) (hte : te.size ≤ 900000) (htl : 0 ≤ tl ∧ tl ≤ 90000) (h8 : ∀ nd, ndAt ps pos = some nd → nd.es.length < 8) :
    Calls Try.prog 16 #[.pointer (some ⟨b, 0, none⟩), .iface tt (tv), .int .i64 fresh] w (KtPost b (stepF ps ⟨root, pos, leaf, (te, tl, tk) :: lf, fro, to, spl⟩ fresh) fp w) := by
  have st0 := St.lend (E := eB b 109 #[.int .i64 root, .int .i64 pos, .int .i64 leaf, .slice ((some la)) ln lc, .int .i64 fro, .int .i64 to, .bool spl]) hb (eB_loc _ _ _) (fun k hk => by simp [eB] at hk; subst hk; exact hb.lt)
  have hln1 : 1 ≤ ln := by rw [← hln]; simp
  have hlc1 : lf.length + 1 ≤ lc := hlc
  have hln2 : lf.length + 1 = ln := hln
  go_enter Try.func16, Try.ntmps16
  have hst0 := st0
  refine wp_seq (sqr (sqp [.k 6 (.slice none 0 0), .k 7 (.bool false), .k 8 (vi 0)] ?_))
  refine then_normal (wp_seq (wp_seq (sqr (sqp [.m 14 0] ?_))))
  refine sqv (.bool false) hst0 (by
      exact sv0 rfl rfl rfl rfl rfl (fun _ _ _ h => h) fun ρ β W X cx => by
        have fF14 : ρ (.tmp 14) = vp b := (cx.ou 14)
        simp [go_sem, cx.sees.const, fF14]) fun W5 hst5 => ?_
  refine then_normal (wcf rfl (wp_skip (then_normal (wp_seq (sqr (sqp [.m 16 0, .m 17 0, .m 18 0, .k 19 (vp b), .k 20 (.pointer (some ⟨b, 4, none⟩))] ?_))))))
  refine sqst (n := 1) 0 #[vi root, vi pos, vi leaf, .slice ((some la)) ln lc, vi 0, vi to, .bool spl] hst5 fun W11 hst11 => ?_
  refine sqp [.k 21 (vp b), .k 22 (.pointer (some ⟨b, 5, none⟩))] ?_
  refine sqst (n := 1) 0 #[vi root, vi pos, vi leaf, .slice ((some la)) ln lc, vi 0, vi 0, .bool spl] hst11 fun W14 hst14 => ?_
  refine sqp [.k 23 (vp b), .k 24 (.pointer (some ⟨b, 6, none⟩))] ?_
  refine sqst (n := 1) 0 #[vi root, vi pos, vi leaf, .slice ((some la)) ln lc, vi 0, vi 0, .bool false] hst14 fun W17 hst17 => ?_
  refine then_normal (wp_seq (wp_seq (sqr (sqp [.m 25 0, .k 26 (vp b), .k 27 (.pointer (some ⟨b, 3, none⟩))] ?_))))
  refine sqld 0 hst17 ?_
  have hd24 : ((ln : Int) == 0) = false := (by rw [beq_eq_false_iff_ne]; omega)
  refine sqp [.k 29 (vi ((ln : Int))), .e 30 (.bool ((ln : Int) == 0)) (.bool false) (congrArg Value.bool hd24)] ?_
  refine then_normal (wcf rfl (wp_skip (then_normal (wp_seq (sqr (sqp [.m 31 0, .k 32 (vp b), .k 33 (.pointer (some ⟨b, 3, none⟩))] ?_))))))
  refine sqld 0 hst17 ?_
  refine sql (.pointer (some ((ad ((some la))).add (0 * 4)))) hst17 (fun cx => run_indexSlM (e := 106) (m := 0) (sz := 4) rfl (by kernel_rfl) (by kernel_rfl) (cx.ou 34) (cx.co _) (by omega) (by omega) (hL _ cx.upd) (flatPos (sz := 4) tkK_len (by decide) (by omega))) ?_
  refine sql (.agg #[.string te, vi 0, vi tk, vi tl]) hst17 (fun cx => run_loadElt (f := tkK) (m := 0) (sz := 4) (off := 0) (n := 4) rfl (by kernel_rfl) (by kernel_rfl) (cx.ou 35) rfl tkK_len (hL _ cx.upd) rfl (fun k hk => match k, hk with | 0, _ => rfl | 1, _ => rfl | 2, _ => rfl | 3, _ => rfl | k + 4, hk => absurd hk (by omega))) ?_
  refine sqal #[.string ByteArray.empty, vi 0, vi 0, vi 0] hst17 fun B9_31 W31 hst31 => ?_
  refine sqst (n := 4) 1 #[.string te, vi 0, vi tk, vi tl] hst31 fun W32 hst32 => ?_
  refine then_normal (wp_seq ?_)
  rcases hnd : ndAt ps pos with _ | nd
  · refine wp_region_Y [0, 0, 2, 6, 14, 31, 63, 127, 127, 0, 767, 2047] [[], [], [], [], [0], [], [], [], [], [], [2]] [[], [], [], [], [], [], [], [], [], [2], [3]] [[], [], [], [], [], [], [], [], [], [], [2]] [.k 38 (.iface tt (tv)), .k 39 (vp b), .k 40 (vp b), .k 41 (.pointer (some ⟨b, 1, none⟩)), .c 42 (vi pos), .a 43, .a 37, .a 44, .c 45 (.bool false), .a 10, .n, .k 11 (.bool false)] (fun ix σ β X => match ix with | 0 => True | 1 => True | 2 => True | 3 => True | 4 => True | 5 => σ 43 = .tuple #[.agg #[vi (iv (tg (tg (β 43) 0) 0)), vi 0, vi 0, .string ((⟨#[]⟩ : ByteArray)), .bool false, .slice none 0 0, vi 0], .bool false] | 6 => σ 37 = .tuple #[.agg #[vi (iv (tg (tg (β 43) 0) 0)), vi 0, vi 0, .string ((⟨#[]⟩ : ByteArray)), .bool false, .slice none 0 0, vi 0], .bool false] | 7 => σ 44 = .agg #[vi (iv (tg (tg (β 43) 0) 0)), vi 0, vi 0, .string ((⟨#[]⟩ : ByteArray)), .bool false, .slice none 0 0, vi 0] | 8 => True | 9 => σ 10 = vp (pb (β 10)) ∧ X 2 = eB (pb (β 10)) 116 #[vi 0, vi 0, vi 0, .string ByteArray.empty, .bool false, .slice none 0 0, vi 0] | 10 => X 3 = eB (pb (β 10)) 116 #[vi (iv (tg (tg (β 43) 0) 0)), vi 0, vi 0, .string ((⟨#[]⟩ : ByteArray)), .bool false, .slice none 0 0, vi 0] | _ => True) [0, 1, 3] [4, 5, 6, 7, 8, 9, 10] [(10, 9, 3, 12), (25, 6, 1, 26), (0, 0, 6, 6), (0, 7, 2, 2)] hst32 ?_ ?_ ?_
    · exact fun ix _ _ _ _ _ _ hs hb hx h => match ix, h with
      | 5, h => by dsimp only; rw [← hs 43 rfl, ← hb 43 rfl]; exact h
      | 6, h => by dsimp only; rw [← hs 37 rfl, ← hb 43 rfl]; exact h
      | 7, h => by dsimp only; rw [← hs 44 rfl, ← hb 43 rfl]; exact h
      | 9, h => by dsimp only; rw [← hs 10 rfl, ← hb 10 rfl, ← hx 2 rfl]; exact h
      | 10, h => by dsimp only; rw [← hb 10 rfl, ← hb 43 rfl, ← hx 3 rfl]; exact h
      | 0, _ | 1, _ | 2, _ | 3, _ | 4, _ | 8, _ | _ + 11, _ => trivial
    · refine ⟨?_, ?_, ?_, ?_, ?_, ?_, ?_, trivial⟩
      · exact xs4 rfl id fun cx => run_load1 rfl (by kernel_rfl) (cx.an 3) ((cx.bi 0 rfl).cell 1)
      · refine svA fun ρ β W X cx => ?_
        refine DoesU.call (run_callF (args := #[.iface tt (tv), vi pos]) rfl cx.sees rfl (by kernel_rfl) (map2 (cx.an 0) (cx.an 4))) ?_
        refine (kd_no hnd (kat_any _ _ ps pos _ (hS _ cx.upd) hok hoc)).mono ?_
        rintro e W1 ⟨p4, rfl, hx⟩
        refine ⟨_, rfl, post_call [] rfl rfl hx (by simp) List.Pairwise.nil (fun σ β' X' hs hb hv hN => ?_)⟩
        have hv1 := (hv 43 rfl).1; have hv2 := (hv 43 rfl).2
        exact hv1.trans (by rw [hv2]; rfl)
      · exact sv rfl rfl rfl rfl rfl _ (fun _ _ _ h => h) (fun β β' h => by rw [h 43 (by decide)]) fun ρ β W X cx => run_move' rfl (dTn (cx.an 5))
      · exact sv rfl rfl rfl rfl rfl _ (fun _ _ _ h => h) (fun β β' h => by rw [h 43 (by decide)]) fun ρ β W X cx => run_extract' rfl (dTn (cx.an 6)) rfl
      · exact xs4 rfl id fun cx => run_extract' rfl (dTn (cx.an 6)) rfl
      · refine svA fun ρ β W X cx => ?_
        exact dv_alloc (cs := #[vi 0, vi 0, vi 0, .string ByteArray.empty, .bool false, .slice none 0 0, vi 0]) rfl (by kernel_rfl) rfl rfl (fun σ β' X' hs hb hv hx => ⟨hv, hx⟩)
      · refine svA fun ρ β W X cx => ?_
        exact dv_store (n := 7) rfl (dTn (cx.an 9)).1 (dTn (cx.an 7)) (by kernel_rfl) (by kernel_rfl) (by kernel_rfl) cx (dTn (cx.an 9)).2 rfl (nle rfl) (by kernel_rfl) rfl rfl rfl (fun σ β' X' hs hb hx => by rw [hb 10, hb 43]; exact hx)
    intro σ β X W33 hD hst33 fr hfr
    obtain ⟨pg43_33, hu_pg43_33⟩ : ∃ z, iv (tg (tg (β 43) 0) 0) = z := ⟨_, rfl⟩
    obtain ⟨B10_33, hu_B10_33⟩ : ∃ z, pb (β 10) = z := ⟨_, rfl⟩
    simp only [exq 3 ((dTn (hD 10 lq))), hu_pg43_33, hu_B10_33] at hst33
    simp only [ed 43 ((dTn (hD 5 lq))), ed 37 ((dTn (hD 6 lq))), ed 44 ((dTn (hD 7 lq))), ed 10 ((dTn (hD 9 lq)).1), hu_pg43_33, hu_B10_33] at hfr
    clear hD hu_pg43_33 hu_B10_33; subst hfr; clear σ β X
    refine then_normal (wp_seq (sqr ?_))
    refine sqv (.func (.func 48) #[] #[vp B9_31]) hst33 (by
        exact sv0 rfl rfl rfl rfl rfl (fun _ _ _ h => h) fun ρ β W X cx => by
          have fF9 : ρ (.tmp 9) = vp B9_31 := (cx.ou 9)
          simp [go_sem, Instr.makeFunc, fF9]) fun W34 hst34 => ?_
    refine sqp [.m 12 46] ?_
    refine then_normal (wp_seq (wp_block (wp_seq (sqr (sqp [.k 48 (.bool false), .k 49 (.bool true), .k 47 (.bool true)] ?_)))))
    refine then_normal (wct rfl (wp_seq (sqr (sqp [.k 6 (.slice none 0 0), .k 7 (.bool false), .k 8 (vi 22)] ?_))))
    refine then_normal (wp_ret (blk_ret (then_ret ?_)))
    refine bpr (.tuple #[.slice none 0 0, .bool false, vi 22]) (results_3 Try.results16 rpt rpt rpt) ?_
    rw [st_none hnd]
    have hn42 := nilrowN hst34 99 3
    simp only [List.cons_append, List.nil_append] at hn42
    have hup_ := hn42.upd
    have hpk_ := hn42.pick [0, 3] (by decide) rfl
    subst hln
    exact ⟨_, _, rfl, pk_old hpk_ hfp hbg hlt hlc (hL _ hup_) (fun ad e _ => by rw [← Option.some.inj e]; exact hla)⟩
  · have hN0 := nd_ok hok hnd
    have hN : NdQ nd := ⟨hN0.lv, fun e he => Nat.le_trans (hN0.es e he) (by decide)⟩
    have hN1 := hN0.len
    have hN2 := hN0.rt
    have hN3 := hN0.hi
    have hN4 := hN0.lv
    have hN5 := hN0.fr
    have hN7 := hN0.es
    have hn8 := h8 nd hnd
    refine sqr (sqp [.m 38 1, .m 39 0, .k 40 (vp b), .k 41 (.pointer (some ⟨b, 1, none⟩))] ?_)
    refine sqld 0 hst32 ?_
    refine sqk2 (fun EA43_48 ec43_48 => .tuple #[.agg #[vi pos, vi nd.lv, vi nd.right, .string nd.high, .bool nd.dead, .slice EA43_48 nd.es.length ec43_48, vi ((nd.free : Int))], .bool true]) (fun EA43_48 ec43_48 => eO 104 3 (.slice EA43_48 nd.es.length ec43_48) nd.es.length (nd.es.flatMap enC)) hst32 (fun cx => ⟨_, (kd_yes hnd (kat_any _ _ ps pos _ (hS _ cx.upd) hok hoc)).mono (by rintro e W1 ⟨EA4, ec4, rfl, hs4⟩; exact ⟨_, _, rfl, hs4⟩), (map2 (cx.ou 38) (cx.ou 42))⟩) fun EA43_48 ec43_48 W48 hst48 => ?_
    refine sqp [.m 37 43, .k 44 (.agg #[vi pos, vi nd.lv, vi nd.right, .string nd.high, .bool nd.dead, .slice EA43_48 nd.es.length ec43_48, vi ((nd.free : Int))]), .k 45 (.bool true)] ?_
    refine sqal #[vi 0, vi 0, vi 0, .string ByteArray.empty, .bool false, .slice none 0 0, vi 0] hst48 fun B10_52 W52 hst52 => ?_
    refine sqst (n := 7) 3 #[vi pos, vi nd.lv, vi nd.right, .string nd.high, .bool nd.dead, .slice EA43_48 nd.es.length ec43_48, vi ((nd.free : Int))] hst52 fun W53 hst53 => ?_
    refine sqp [.k 11 (.bool true)] ?_
    refine then_normal (wp_seq (sqr ?_))
    refine sqv (.func (.func 48) #[] #[vp B9_31]) hst53 (by
        exact sv0 rfl rfl rfl rfl rfl (fun _ _ _ h => h) fun ρ β W X cx => by
          have fF9 : ρ (.tmp 9) = vp B9_31 := (cx.ou 9)
          simp [go_sem, Instr.makeFunc, fF9]) fun W55 hst55 => ?_
    refine sqp [.m 12 46] ?_
    refine then_normal (wp_seq (wp_block (wp_seq (sqr (sqp [.k 48 (.bool true), .k 49 (.bool false), .k 47 (.bool false)] ?_)))))
    refine then_normal (wcf rfl (wp_seq (sqr ?_)))
    refine sqlb 3 7 hst55 ?_
    refine sqp [.k 52 (vp B9_31), .k 53 (vp B9_31)] ?_
    refine sqld 1 hst55 ?_
    refine sqk (.bool (sndB nd.dead nd.high te)) hst55 (fun cx => ⟨_, ksends_any pos nd.lv nd.right (nd.free : Int) nd.high nd.dead _ _ _ te _ (by omega) (by omega), (map2 (cx.ou 51) (cx.ou 54))⟩) fun W64 hst64 => ?_
    refine sqp [.m 50 55] ?_
    refine then_normal (wbs (fun hs66 => ?_) fun hs66 => ?_)
    · refine wp_seq (wp_seq (sqr (sqp [.k 56 (.pointer (some ⟨B10_52, 2, none⟩))] ?_)))
      refine sqld 3 hst64 ?_
      refine sqp [.k 58 (.bool (decide (nd.right < 0)))] ?_
      refine then_normal (wds (fun hs70 hs70p => ?_) fun hs70 hs70p => ?_)
      · refine wp_seq (sqr (sqp [.k 6 (.slice none 0 0), .k 7 (.bool false), .k 8 (vi 11)] ?_))
        refine then_normal (wp_ret (then_ret (blk_ret (then_ret ?_))))
        refine bpr (.tuple #[.slice none 0 0, .bool false, vi 11]) (results_3 Try.results16 rpt rpt rpt) ?_
        rw [st_lost hnd hs66 (by omega)]
        have hn74 := nilrowN hst64 99 3
        simp only [List.cons_append, List.nil_append] at hn74
        have hup_ := hn74.upd
        have hpk_ := hn74.pick [0, 4] (by decide) rfl
        subst hln
        exact ⟨_, _, rfl, pk_old hpk_ hfp hbg hlt hlc (hL _ hup_) (fun ad e _ => by rw [← Option.some.inj e]; exact hla)⟩
      refine wp_skip (then_normal (wp_seq (sqr (sqp [.m 59 0, .k 60 (.pointer (some ⟨B10_52, 2, none⟩))] ?_))))
      refine sqld 3 hst64 ?_
      refine sqp [.k 62 (vp b), .k 63 (.pointer (some ⟨b, 1, none⟩))] ?_
      refine sqst (n := 1) 0 #[vi root, vi nd.right, vi leaf, .slice ((some la)) ln lc, vi 0, vi 0, .bool false] hst64 fun W80 hst80 => ?_
      refine then_normal (wp_seq (sqr (sqp [.k 6 (.slice none 0 0), .k 7 (.bool false), .k 8 (vi 0)] ?_)))
      refine then_normal (wp_ret (blk_ret (then_ret ?_)))
      refine bpr (.tuple #[.slice none 0 0, .bool false, vi 0]) (results_3 Try.results16 rpt rpt rpt) ?_
      rw [st_right hnd hs66 (by omega)]
      have hn84 := nilrowN hst80 99 3
      simp only [List.cons_append, List.nil_append] at hn84
      have hup_ := hn84.upd
      have hpk_ := hn84.pick [0, 4] (by decide) rfl
      subst hln
      exact ⟨_, _, rfl, pk_old hpk_ hfp hbg hlt hlc (hL _ hup_) (fun ad e _ => by rw [← Option.some.inj e]; exact hla)⟩
    refine wp_seq (sqr (sqp [.k 65 (.pointer (some ⟨B10_52, 1, none⟩))] ?_))
    refine sqld 3 hst64 ?_
    refine sqp [.k 67 (.pointer (some ⟨B9_31, 3, none⟩))] ?_
    refine sqld 1 hst64 ?_
    refine sqp [.k 69 (.bool (decide (tl < nd.lv))), .m 64 69] ?_
    refine then_normal (wds (fun hs91 hs91p => ?_) fun hs91 hs91p => ?_)
    · refine wp_seq (sqr (sqp [.m 70 0] ?_))
      refine sqlb 3 7 hst64 ?_
      refine sqp [.k 72 (vp B9_31), .k 73 (vp B9_31)] ?_
      refine sqld 1 hst64 ?_
      refine sqk (vi (downF te nd.es (-1))) hst64 (fun cx => ⟨_, kdown_any _ _ _ _ _ _ _ _ _ _ nd.es _ (At.of_ownN (cx.ri 2 rfl)) rfl hN.es6 (by omega) (by omega), (map2 (cx.ou 71) (cx.ou 74))⟩) fun W97 hst97 => ?_
      refine sqp [.k 76 (vp b), .k 77 (.pointer (some ⟨b, 1, none⟩))] ?_
      refine sqst (n := 1) 0 #[vi root, vi (downF te nd.es (-1)), vi leaf, .slice ((some la)) ln lc, vi 0, vi 0, .bool false] hst97 fun W100 hst100 => ?_
      refine then_normal (wp_seq (sqr (sqp [.k 6 (.slice none 0 0), .k 7 (.bool false), .k 8 (vi 0)] ?_)))
      refine then_normal (wp_ret (blk_ret (then_ret ?_)))
      refine bpr (.tuple #[.slice none 0 0, .bool false, vi 0]) (results_3 Try.results16 rpt rpt rpt) ?_
      rw [st_down hnd hs66 (by omega)]
      have hn104 := nilrowN hst100 99 3
      simp only [List.cons_append, List.nil_append] at hn104
      have hup_ := hn104.upd
      have hpk_ := hn104.pick [0, 4] (by decide) rfl
      subst hln
      exact ⟨_, _, rfl, pk_old hpk_ hfp hbg hlt hlc (hL _ hup_) (fun ad e _ => by rw [← Option.some.inj e]; exact hla)⟩
    refine wp_seq (sqr (sqp [.k 79 (.pointer (some ⟨B10_52, 1, none⟩))] ?_))
    refine sqld 3 hst64 ?_
    refine sqp [.k 81 (.pointer (some ⟨B9_31, 3, none⟩))] ?_
    refine sqld 1 hst64 ?_
    refine sqp [.k 83 (.bool (decide (nd.lv < tl))), .m 78 83] ?_
    refine then_normal (wds (fun hs111 hs111p => ?_) fun hs111 hs111p => ?_)
    · refine wp_seq (sqr (sqp [.k 6 (.slice none 0 0), .k 7 (.bool false), .k 8 (vi 11)] ?_))
      refine then_normal (wp_ret (blk_ret (then_ret ?_)))
      refine bpr (.tuple #[.slice none 0 0, .bool false, vi 11]) (results_3 Try.results16 rpt rpt rpt) ?_
      rw [st_form hnd hs66 (by omega) (by omega)]
      have hn115 := nilrowN hst64 99 3
      simp only [List.cons_append, List.nil_append] at hn115
      have hup_ := hn115.upd
      have hpk_ := hn115.pick [0, 4] (by decide) rfl
      subst hln
      exact ⟨_, _, rfl, pk_old hpk_ hfp hbg hlt hlc (hL _ hup_) (fun ad e _ => by rw [← Option.some.inj e]; exact hla)⟩
    refine wp_seq (sqr (sqp [.k 85 (.pointer (some ⟨B10_52, 5, none⟩))] ?_))
    refine sqld 3 hst64 ?_
    have hd120 : (decide ((nd.es.length : Int) < 8)) = true := (decide_eq_true (by omega))
    refine sqp [.k 87 (vi ((nd.es.length : Int))), .e 88 (.bool (decide ((nd.es.length : Int) < 8))) (.bool true) (congrArg Value.bool hd120), .k 89 (.bool true)] ?_
    refine sqgn 89 [90, 91, 92, 93] rfl rfl ?_
    refine sqp [.k 94 (.bool true), .k 84 (.bool true)] ?_
    refine then_normal (wct rfl (wp_seq ?_))
    rcases hq : hasE nd.es te with _ | _
    · refine wp_region_Y [0, 0, 0, 7, 15, 31, 63] [[], [3], [1], [0, 2]] [[], [], [], [4, 5]] [[], [], [], [0]] [.k 95 (vp b), .c 96 (.agg #[vi pos, vi nd.lv, vi nd.right, .string nd.high, .bool nd.dead, .slice EA43_48 nd.es.length ec43_48, vi ((nd.free : Int))]), .c 97 (.agg #[.string te, vi 0, vi tk, vi tl]), .a 98, .a 6, .k 7 (.bool false), .k 8 (vi 0)] (fun ix σ β X => match ix with | 0 => True | 1 => True | 2 => True | 3 => σ 98 = .slice (sA (β 98)) 1 (sC (β 98)) ∧ X 4 = eB b 109 #[vi root, vi root, vi ((if tl = 0 then pos else leaf)), .slice ((if lc = 1 then some la else (some la).map (·.add (1 * 4)))) ((ln - 1)) ((lc - 1)), vi 0, vi 0, .bool false] ∧ X 5 = eO 99 3 (.slice (sA (β 98)) 1 (sC (β 98))) 1 ([(pos, (nd.free : Int), itB nd.lv tk te)].flatMap edC) | 4 => σ 6 = .slice (sA (β 98)) 1 (sC (β 98)) | _ => True) [1, 2, 3, 4, 5] [1, 2, 3, 4] [(6, 4, 3, 9), (86, 0, 4, 90)] hst64 ?_ ?_ ?_
      · exact fun ix _ _ _ _ _ _ hs hb hx h => match ix, h with
        | 3, h => by dsimp only; rw [← hs 98 rfl, ← hb 98 rfl, ← hx 4 rfl, ← hx 5 rfl]; exact h
        | 4, h => by dsimp only; rw [← hs 6 rfl, ← hb 98 rfl]; exact h
        | 0, _ | 1, _ | 2, _ | _ + 5, _ => trivial
      · refine ⟨?_, ?_, ?_, ?_, trivial⟩
        · exact xs4 rfl id fun cx => run_loadB (n := 7) rfl (by kernel_rfl) (by kernel_rfl) (cx.ou 10) (cx.bi 3 rfl) (nle rfl) rfl
        · exact xs4 rfl id fun cx => run_loadB (n := 4) rfl (by kernel_rfl) (by kernel_rfl) (cx.ou 9) (cx.bi 1 rfl) (nle rfl) rfl
        · refine svA fun ρ β W X cx => ?_
          refine DoesU.call (run_callF (args := #[vp b, .agg #[vi pos, vi nd.lv, vi nd.right, .string nd.high, .bool nd.dead, .slice EA43_48 nd.es.length ec43_48, vi ((nd.free : Int))], .agg #[.string te, vi 0, vi tk, vi tl]]) rfl cx.sees rfl (by kernel_rfl) (map3 (cx.an 0) (cx.an 1) (cx.an 2))) ?_
          refine (kput_any _ _ _ _ _ _ _ _ _ _ nd pos _ _ te 0 tk tl false _ (cx.bi 0 rfl) (CtxV.keepAt cx (cx.init 2 _ rfl) (cx.init 0 _ rfl) rfl rfl (by decide)) (by omega) (by omega) (by omega) (by omega) hq).mono ?_
          rintro e W1 ⟨A4, c4, rfl, hs4⟩
          refine ⟨_, rfl, post_obj (E := eB b 109 #[vi root, vi pos, vi leaf, .slice ((some la)) ln lc, vi 0, vi 0, .bool false]) [eB b 109 #[vi root, vi root, vi ((if tl = 0 then pos else leaf)), .slice ((if lc = 1 then some la else (some la).map (·.add (1 * 4)))) ((ln - 1)) ((lc - 1)), vi 0, vi 0, .bool false], eO 99 3 (.slice A4 1 c4) 1 ([(pos, (nd.free : Int), itB nd.lv tk te)].flatMap edC)] (cx.init 0 _ rfl) rfl rfl hs4 (fun σ β' X' hs hb hv hN => ?_)⟩
          have hv1 := (hv 98 rfl).1; have hv2 := (hv 98 rfl).2
          exact ⟨hv1.trans (by rw [hv2]; rfl), (List.cons.inj hN).1, (by rw [hv2]; exact (List.cons.inj (List.cons.inj hN).2).1)⟩
        · exact sv rfl rfl rfl rfl rfl _ (fun _ _ _ h => h) (fun β β' h => by rw [h 98 (by decide)]) fun ρ β W X cx => run_assign' rfl (dTn (cx.an 3)).1
      intro σ β X W124 hD hst124 fr hfr
      obtain ⟨A98_124, hu_A98_124⟩ : ∃ z, sA (β 98) = z := ⟨_, rfl⟩
      obtain ⟨c98_124, hu_c98_124⟩ : ∃ z, sC (β 98) = z := ⟨_, rfl⟩
      simp only [exq 4 ((dTn (hD 3 lq)).2.1), exq 5 ((dTn (hD 3 lq)).2.2), hu_A98_124, hu_c98_124] at hst124
      simp only [ed 98 ((dTn (hD 3 lq)).1), ed 6 ((dTn (hD 4 lq))), hu_A98_124, hu_c98_124] at hfr
      clear hD hu_A98_124 hu_c98_124; subst hfr; clear σ β X
      refine then_normal (wp_ret (blk_ret (then_ret ?_)))
      refine bpr (.tuple #[.slice A98_124 1 c98_124, .bool false, vi 0]) (results_3 Try.results16 rpt rpt rpt) ?_
      rw [st_put hnd hs66 (by omega) (by omega) hq hn8]
      have hup_ := hst124.upd
      have hpk_ := hst124.pick [3, 4] (by decide) rfl
      have hl1_ : ln - 1 = lf.length := by omega
      have hlv_ : nd.lv = tl := by omega
      rw [hl1_, hlv_] at hpk_
      exact ⟨_, _, rfl, pk_old hpk_ hfp hbg hlt (by show lf.length ≤ lc - 1; omega) (At.dropF (ts := (te, tl, tk) :: lf) tkK_len (hL _ hup_) 1 lc hlc) (fun ad e _ => by rw [tail_blk4 e]; exact hla)⟩
    · refine wp_region_Y [0, 0, 0, 7, 15, 31, 63] [[], [3], [1], [0, 2]] [[], [], [], [4, 5]] [[], [], [], [0]] [.k 95 (vp b), .c 96 (.agg #[vi pos, vi nd.lv, vi nd.right, .string nd.high, .bool nd.dead, .slice EA43_48 nd.es.length ec43_48, vi ((nd.free : Int))]), .c 97 (.agg #[.string te, vi 0, vi tk, vi tl]), .a 98, .a 6, .k 7 (.bool false), .k 8 (vi 0)] (fun ix σ β X => match ix with | 0 => True | 1 => True | 2 => True | 3 => σ 98 = .slice (sA (β 98)) 0 (sC (β 98)) ∧ X 4 = eB b 109 #[vi root, vi root, vi ((if tl = 0 then pos else leaf)), .slice ((if lc = 1 then some la else (some la).map (·.add (1 * 4)))) ((ln - 1)) ((lc - 1)), vi 0, vi 0, .bool false] ∧ X 5 = eO 99 3 (.slice (sA (β 98)) 0 (sC (β 98))) 0 (([] : List EdT).flatMap edC) | 4 => σ 6 = .slice (sA (β 98)) 0 (sC (β 98)) | _ => True) [1, 2, 3, 4, 5] [1, 2, 3, 4] [(6, 4, 3, 9), (86, 0, 4, 90)] hst64 ?_ ?_ ?_
      · exact fun ix _ _ _ _ _ _ hs hb hx h => match ix, h with
        | 3, h => by dsimp only; rw [← hs 98 rfl, ← hb 98 rfl, ← hx 4 rfl, ← hx 5 rfl]; exact h
        | 4, h => by dsimp only; rw [← hs 6 rfl, ← hb 98 rfl]; exact h
        | 0, _ | 1, _ | 2, _ | _ + 5, _ => trivial
      · refine ⟨?_, ?_, ?_, ?_, trivial⟩
        · exact xs4 rfl id fun cx => run_loadB (n := 7) rfl (by kernel_rfl) (by kernel_rfl) (cx.ou 10) (cx.bi 3 rfl) (nle rfl) rfl
        · exact xs4 rfl id fun cx => run_loadB (n := 4) rfl (by kernel_rfl) (by kernel_rfl) (cx.ou 9) (cx.bi 1 rfl) (nle rfl) rfl
        · refine svA fun ρ β W X cx => ?_
          refine DoesU.call (run_callF (args := #[vp b, .agg #[vi pos, vi nd.lv, vi nd.right, .string nd.high, .bool nd.dead, .slice EA43_48 nd.es.length ec43_48, vi ((nd.free : Int))], .agg #[.string te, vi 0, vi tk, vi tl]]) rfl cx.sees rfl (by kernel_rfl) (map3 (cx.an 0) (cx.an 1) (cx.an 2))) ?_
          refine (kput_any _ _ _ _ _ _ _ _ _ _ nd pos _ _ te 0 tk tl true _ (cx.bi 0 rfl) (CtxV.keepAt cx (cx.init 2 _ rfl) (cx.init 0 _ rfl) rfl rfl (by decide)) (by omega) (by omega) (by omega) (by omega) hq).mono ?_
          rintro e W1 ⟨A4, c4, rfl, hs4⟩
          refine ⟨_, rfl, post_obj (E := eB b 109 #[vi root, vi pos, vi leaf, .slice ((some la)) ln lc, vi 0, vi 0, .bool false]) [eB b 109 #[vi root, vi root, vi ((if tl = 0 then pos else leaf)), .slice ((if lc = 1 then some la else (some la).map (·.add (1 * 4)))) ((ln - 1)) ((lc - 1)), vi 0, vi 0, .bool false], eO 99 3 (.slice A4 0 c4) 0 (([] : List EdT).flatMap edC)] (cx.init 0 _ rfl) rfl rfl hs4 (fun σ β' X' hs hb hv hN => ?_)⟩
          have hv1 := (hv 98 rfl).1; have hv2 := (hv 98 rfl).2
          exact ⟨hv1.trans (by rw [hv2]; rfl), (List.cons.inj hN).1, (by rw [hv2]; exact (List.cons.inj (List.cons.inj hN).2).1)⟩
        · exact sv rfl rfl rfl rfl rfl _ (fun _ _ _ h => h) (fun β β' h => by rw [h 98 (by decide)]) fun ρ β W X cx => run_assign' rfl (dTn (cx.an 3)).1
      intro σ β X W125 hD hst125 fr hfr
      obtain ⟨A98_125, hu_A98_125⟩ : ∃ z, sA (β 98) = z := ⟨_, rfl⟩
      obtain ⟨c98_125, hu_c98_125⟩ : ∃ z, sC (β 98) = z := ⟨_, rfl⟩
      simp only [exq 4 ((dTn (hD 3 lq)).2.1), exq 5 ((dTn (hD 3 lq)).2.2), hu_A98_125, hu_c98_125] at hst125
      simp only [ed 98 ((dTn (hD 3 lq)).1), ed 6 ((dTn (hD 4 lq))), hu_A98_125, hu_c98_125] at hfr
      clear hD hu_A98_125 hu_c98_125; subst hfr; clear σ β X
      refine then_normal (wp_ret (blk_ret (then_ret ?_)))
      refine bpr (.tuple #[.slice A98_125 0 c98_125, .bool false, vi 0]) (results_3 Try.results16 rpt rpt rpt) ?_
      rw [st_there hnd hs66 (by omega) (by omega) hq]
      have hup_ := hst125.upd
      have hpk_ := hst125.pick [3, 4] (by decide) rfl
      have hl1_ : ln - 1 = lf.length := by omega
      have hlv_ : nd.lv = tl := by omega
      rw [hl1_] at hpk_
      exact ⟨_, _, rfl, pk_old hpk_ hfp hbg hlt (by show lf.length ≤ lc - 1; omega) (At.dropF (ts := (te, tl, tk) :: lf) tkK_len (hL _ hup_) 1 lc hlc) (fun ad e _ => by rw [tail_blk4 e]; exact hla)⟩
end
end Go.Proofs.Ytjlcoglmjldjbaa
namespace Go.Proofs.Ytjlcoglmjldjbaa
section
open Go.RowKit
set_option linter.unusedVariables false
set_option linter.unusedSimpArgs false
/-- inside a round -/
abbrev Rnd (l : Nat) : Fence := Fence.wide.inRound l
def noDefer (ops : Array Oper) : Bool := ops.all fun o => match o.op with | .defer _ => false | _ => true
theorem noDefer_at {ops : Array Oper} (h : noDefer ops = true) {i : Nat} {o : Oper} (ho : ops[i]? = some o) : ∀ c, o.op ≠ .defer c := by
  intro c hc
  obtain ⟨hi, he⟩ := Array.getElem?_eq_some_iff.1 ho
  have h2 := (Array.all_eq_true.1 h) i hi
  rw [he, hc] at h2
  cases h2
theorem opIn {P : Program} {l n : Nat} {o : Oper} {a : Act} {w : World} {K : Act → World → Prop} {Q : Exit → Act → World → Prop} (hd : ∀ c, o.op ≠ .defer c) (h : o.wp P a w K Q) : o.wpIn (Rnd l) n P a w K Q := by
  unfold Oper.wp at h
  refine ⟨fun _ _ => trivial, ?_⟩
  show o.uponIn (Rnd l) n P a K Q ((o.semAt (some l) a.eval).run P w)
  rw [Oper.semAt_eq (some l) a.eval o hd]
  generalize (execOp a.eval o).run P w = r at h ⊢
  cases r with
  | ok x w' =>
    cases x <;> simp only [Oper.upon, Oper.uponIn] at h ⊢ <;> first
      | exact h
      | exact ⟨fun hh => by simp [Rnd, Fence.wide] at hh, CallsIn.inRound l (callsIn_wide.2 h)⟩
      | exact ⟨fun hh => by simp [Rnd, Fence.wide] at hh, fun c cs _ => let ⟨v, w', r, s⟩ := h c cs; ⟨v, w', r, stepsIn_wide.2 s⟩⟩
  | halt x w' => cases x <;> simp only [Oper.upon, Oper.uponIn] at h ⊢ <;> exact h
section
variable {P : Program} {l n : Nat} {ops : Array Oper} {Q : Exit → Act → World → Prop}
theorem wpOpIn_of (hnd : noDefer ops = true) (hLo : ¬ LetsOut Q) {i : Nat} {K : Act → World → Prop} {a : Act} {w : World} (h : wpOp P ops Q i K a w) : wpOpIn (Rnd l) n P ops Q i K a w := by
  unfold wpOp at h
  unfold wpOpIn
  cases ho : ops[i]? with
  | none => simp only [ho] at h ⊢; exact h
  | some o =>
    simp only [ho] at h ⊢
    split
    · rename_i hw
      rw [if_pos hw] at h
      exact opIn (noDefer_at hnd ho) (h.resolve_right fun hh => hLo hh.2)
    · rename_i hw
      rw [if_neg hw] at h
      exact ⟨fun _ _ => trivial, h⟩
theorem wpAnyIn_of (hnd : noDefer ops = true) (hLo : ¬ LetsOut Q) : ∀ (m : Nat) (listed : Array Bool) (a : Act) (w : World), wpAny P .any ops Q m listed a w → wpAnyIn (Rnd l) n P .any ops Q m listed a w
  | 0, listed, a, w, h => h
  | m + 1, listed, a, w, h => ⟨h.1, fun i hi => wpOpIn_mono (fun a w hh => wpAnyIn_of hnd hLo m _ a w hh) (wpOpIn_of hnd hLo (h.2 i hi))⟩
theorem wpOpsIn_of (hnd : noDefer ops = true) (hLo : ¬ LetsOut Q) : ∀ (is : List Nat) (a : Act) (w : World), wpOps P ops Q is a w → wpOpsIn (Rnd l) n P ops Q is a w
  | [], a, w, h => h
  | i :: is, a, w, h => by
    rw [wpOps_cons] at h
    rw [wpOpsIn_cons]
    exact wpOpIn_mono (fun a w hh => wpOpsIn_of hnd hLo is a w hh) (wpOpIn_of hnd hLo h)
end
section
variable {P : Program} {ops : Array Oper} {L : List Nat} {w0 : World} {bor : List Nat} {X0 : List Ent} {us cr kl : List (List Nat)} {Q : Exit → Act → World → Prop} {l n : Nat}
/-- THE RULE, inside a round -/
theorem wpIn_region_W {id : Nat} {dr : Bool} {w : World} {t0 : Array Value} {d0 : List Deferred} (hnd : noDefer ops = true) (hm : P.follows .mixedOrders = true) (L : List Nat) (us cr kl : List (List Nat)) (D : Nat → (Tmp → Value) → (Tmp → Value) → (Nat → Ent) → Prop) (fin : List Nat)
    (hL : okAnc ops L = true) (hd : dstOk ops t0.size = true) (hflow : flowV ops.size X0.length L us cr kl = true) (hfin : finV ops.size X0.length cr kl fin = true)
    (hloc : LocalV ops X0.length L cr D) (hst : St w0 bor X0 w) (hstep : AllTo (StepV P ops L ⟨t0, d0⟩ w0 bor X0 us cr kl D) ops.size)
    (hrest : ∀ (σ β : Tmp → Value) (X : Nat → Ent) (w' : World), (∀ i, i < ops.size → D i σ β X) → (∀ q e, X0[q]? = some e → X q = e) → St w0 bor (fin.map X) w' →
      ∀ fr, fr = putAll (dstsU ops) ((dstsU ops).map σ) t0 → Q .normal ⟨fr, d0⟩ w') : (Code.region id ops dr).wpIn (Rnd l) n P Q ⟨t0, d0⟩ w := by
  have hs : ∀ i, i < ops.size → StepV P ops L ⟨t0, d0⟩ w0 bor X0 us cr kl D i := fun i hi => hstep.get i hi
  obtain ⟨Q', hQ'⟩ : ∃ Q' : Exit → Act → World → Prop, Q' = fun e a w => e = .normal ∧ Q .normal a w := ⟨_, rfl⟩
  have hr : ∀ (a : Act) (w : World) (listed : Array Bool), (∀ i, i < ops.size → listed.getD i false = true) → VInv ops L ⟨t0, d0⟩ w0 bor X0 cr kl D listed a w → Q' .normal a w := fun a w listed hall inv => by
    rw [hQ']; exact ⟨rfl, vinv_end (a0 := ⟨t0, d0⟩) hd hfin (fun σ β X w' h1 h2 h3 => hrest σ β X w' h1 h2 h3 _ rfl) hall inv⟩
  have hLo : ¬ LetsOut Q' := by rw [hQ']; rintro ⟨a, w, h, _⟩; cases h
  refine wpIn_mono (Q := Q') ?_ fun e a w h => by rw [hQ'] at h; obtain ⟨rfl, h⟩ := h; exact h
  cases dr with
  | true =>
    refine wpIn_region_any hm (wpAnyIn_of hnd hLo _ _ _ _ (wpAny_V hL hd hflow hloc hs hr ops.size (Array.replicate ops.size false) ⟨t0, d0⟩ w.drew ?_ (vinv_start hst.drew)))
    rw [List.countP_eq_length.2]
    · simp
    · intro i _
      rw [getD_replicate_false]
      rfl
  | false =>
    refine wpIn_region ?_
    rw [List.range_eq_range']
    exact wpOpsIn_of hnd hLo _ _ _ (wpOps_V hL hd hflow hloc hs hr ops.size 0 (Array.replicate ops.size false) ⟨t0, d0⟩ w (by omega) (fun j => by rw [getD_replicate_false]; simp) (vinv_start hst))
end
theorem wpIn_region_T {l n : Nat} {P : Program} {ops : Array Oper} {Q : Exit → Act → World → Prop} {w0 : World} {bor : List Nat} {X0 : List Ent} {id : Nat} {dr : Bool} {w : World} {t0 : List Value} {d0 : List Deferred} (L : List Nat) (us cr kl : List (List Nat)) (tb : List TE)
    (A : Nat → (Tmp → Value) → (Tmp → Value) → (Nat → Ent) → Prop) (fin sp : List Nat) (rs : List (Nat × Nat × Nat × Nat)) (hst : St w0 bor X0 w) (hloc : LocalV ops X0.length L cr A)
    (hstep : inAll (StepV P ops L ⟨t0.toArray, d0⟩ w0 bor X0 us cr kl (fun ix σ β X => dT tb ix σ (A ix σ β X))) sp)
    (hrest : ∀ (σ β : Tmp → Value) (X : Nat → Ent) (w' : World), (∀ i, i < ops.size → dT tb i σ (A i σ β X)) → (∀ q e, X0[q]? = some e → X q = e) → St w0 bor (fin.map X) w' → ∀ fr, fr = mgT tb σ rs t0 → Q .normal ⟨fr.toArray, d0⟩ w')
    (ht : goTs P ops L t0.toArray tb 0 tb = tb.map wantT := by kernel_rfl) (hl : lineOk ops L cr kl sp 0 tb = true := by kernel_rfl) (hn : tb.length = ops.size := by kernel_rfl)
    (hfr : ∀ σ, putAll (dstsU ops) ((idxU ops).map (valT ops tb σ)) t0.toArray = (mgT tb σ rs t0).toArray := by intro σ; kernel_rfl)
    (hm : P.follows .mixedOrders = true := by kernel_rfl) (hnd : noDefer ops = true := by kernel_rfl) (hL : okAnc ops L = true := by kernel_rfl) (hd : dstOk ops t0.toArray.size = true := by kernel_rfl) (hflow : flowV ops.size X0.length L us cr kl = true := by kernel_rfl) (hfin : finV ops.size X0.length cr kl fin = true := by kernel_rfl) :
    (Code.region id ops dr).wpIn (Rnd l) n P Q ⟨t0.toArray, d0⟩ w := by
  refine wpIn_region_W hnd hm L us cr kl (fun ix σ β X => dT tb ix σ (A ix σ β X)) fin hL hd hflow hfin (fun i σ σ' β β' X X' h1 h2 h3 h => ?_) hst (AllTo.of fun i hi => ?_) fun σ β X w' hD hX hst' fr hfr' => ?_
  · dsimp only at h ⊢
    rw [dT_iff] at h ⊢
    cases hdd : (tb.getD i .n).dst with
    | some d =>
      rw [hdd] at h
      dsimp only at h ⊢
      have hi : i < tb.length := getD_lt (by rw [hdd]; simp)
      have := (tOk_dst ht hi hdd).1
      rw [← h1 d (by unfold seesV; simp [this])]
      exact h
    | none =>
      rw [hdd] at h
      exact hloc i σ σ' β β' X X' h1 h2 h3 h
  · have hi' : i < tb.length := by rw [hn]; exact hi
    have h := lineOk_get (i := i) hl hi'
    rw [Nat.zero_add] at h
    rcases h with ⟨_, h⟩ | ⟨h, _⟩
    · exact inAll_get hstep i h
    · exact pure_step hd ht hl hi' h
  · subst hfr'
    have e : (dstsU ops).map σ = (idxU ops).map (valT ops tb σ) := by
      unfold dstsU
      rw [List.map_map]
      refine List.map_congr_left fun i hi => ?_
      have him := List.mem_filter.1 hi
      have hlt : i < ops.size := List.mem_range.1 him.1
      have h := hD i hlt
      rw [dT_iff] at h
      unfold valT
      cases hdd : (tb.getD i .n).dst with
      | none => rfl
      | some d =>
        rw [hdd] at h
        dsimp only at h ⊢
        have := (tOk_dst ht (i := i) (by rw [hn]; exact hlt) hdd).1
        simp only [Function.comp, this, Option.getD_some]
        exact h
    rw [e, hfr σ]
    exact hrest σ β X w' hD hX hst' _ rfl
theorem wpIn_region_Y {l n : Nat} {P : Program} {ops : Array Oper} {Q : Exit → Act → World → Prop} {w0 : World} {bor : List Nat} {X0 : List Ent} {id : Nat} {dr : Bool} {w : World} {t0 : List Value} {t1 : (Tmp → Value) → List Value} {E : (Nat → Ent) → List Ent} {d0 : List Deferred} (L : List Nat) (us cr kl : List (List Nat)) (tb : List TE)
    (A : Nat → (Tmp → Value) → (Tmp → Value) → (Nat → Ent) → Prop) (fin sp : List Nat) (rs : List (Nat × Nat × Nat × Nat)) (hst : St w0 bor X0 w) (hloc : LocalV ops X0.length L cr A)
    (hstep : inAll (StepV P ops L ⟨t0.toArray, d0⟩ w0 bor X0 us cr kl (fun ix σ β X => dT tb ix σ (A ix σ β X))) sp)
    (hrest : ∀ (σ β : Tmp → Value) (X : Nat → Ent) (w' : World), (∀ i, i < ops.size → dT tb i σ (A i σ β X)) → St w0 bor (E X) w' → ∀ fr, fr = t1 σ → Q .normal ⟨fr.toArray, d0⟩ w')
    (h1 : ∀ σ, mgT tb σ rs t0 = t1 σ := by intro σ; dsimp only [mgT, vals, List.take, List.drop, List.cons_append, List.nil_append]) (hE : ∀ X, finE X0 X fin = E X := by intro X; dsimp only [finE, entQ])
    (ht : goTs P ops L t0.toArray tb 0 tb = tb.map wantT := by kernel_rfl) (hl : lineOk ops L cr kl sp 0 tb = true := by kernel_rfl) (hn : tb.length = ops.size := by kernel_rfl)
    (hfr : ∀ σ, putAll (dstsU ops) ((idxU ops).map (valT ops tb σ)) t0.toArray = (mgT tb σ rs t0).toArray := by intro σ; kernel_rfl)
    (hm : P.follows .mixedOrders = true := by kernel_rfl) (hnd : noDefer ops = true := by kernel_rfl) (hL : okAnc ops L = true := by kernel_rfl) (hd : dstOk ops t0.toArray.size = true := by kernel_rfl) (hflow : flowV ops.size X0.length L us cr kl = true := by kernel_rfl) (hfin : finV ops.size X0.length cr kl fin = true := by kernel_rfl) :
    (Code.region id ops dr).wpIn (Rnd l) n P Q ⟨t0.toArray, d0⟩ w :=
  wpIn_region_T L us cr kl tb A fin sp rs hst hloc hstep (fun σ β X w' hD hX hs fr hf => hrest σ β X w' hD (by rw [← hE X, finE_eq hX]; exact hs) fr (hf.trans (h1 σ))) ht hl hn hfr hm hnd hL hd hflow hfin
abbrev fps (L : List Ent) : List Nat := L.flatMap (·.fp)
theorem fps_mem {L : List Ent} {k : Nat} : k ∈ fps L ↔ ∃ e ∈ L, k ∈ e.fp := by simp [fps]
theorem St.fps_own {w0 w : World} {bor : List Nat} {L : List Ent} (h : St w0 bor L w) {k : Nat} (hk : k ∈ fps L) : (k ∈ bor ∨ w0.heap.size ≤ k) ∧ k < w.heap.size := by
  obtain ⟨e, he, hk⟩ := fps_mem.1 hk
  exact (h.ok e he).own k hk
/-- the block for the rounds' deferred calls -/
def eDfr (D : Nat) : Ent := ⟨[D], fun W => W.heap[D]? = some (.deferred (some []))⟩
theorem eD_loc (D : Nat) : (eDfr D).loc := fun W W' h hb => (h D (by simp [eDfr])).trans hb
/-- at the function's return the block is shut -/
theorem St.takeD {w0 W : World} {bor : List Nat} {L : List Ent} {D : Nat} (h : St w0 bor (L ++ [eDfr D]) W) : St w0 bor L (W.putObj D (.deferred none)) := by
  have hd := h.ok (eDfr D) (by simp)
  have hown := hd.own D (by simp [eDfr])
  have hap : ∀ e ∈ L, D ∉ e.fp := fun e he hk => by
    have := (List.pairwise_append.1 h.apart).2.2 e he (eDfr D) (by simp)
    exact this D hk (by simp [eDfr])
  have hg := grownBy_putObj' W D (.deferred none)
  refine ⟨⟨hg.os.trans h.upd.os, hg.tape.trans h.upd.tape, hg.output.trans h.upd.output, Nat.le_trans h.upd.size hg.size, fun k hk hb => ?_⟩, fun e he => ?_, (List.pairwise_append.1 h.apart).1⟩
  · rw [hg.block k (Nat.lt_of_lt_of_le hk h.upd.size) fun e' => ?_]
    · exact h.upd.block k hk hb
    · cases e'
      rcases hown.1 with h1 | h1
      · exact hb h1
      · omega
  · have h2 := h.ok e (by simp [he])
    refine ⟨h2.loc W _ (fun k hk => hg.block k (h2.own k hk).2 fun e' => ?_) h2.holds, h2.loc, fun k hk => ⟨(h2.own k hk).1, Nat.lt_of_lt_of_le (h2.own k hk).2 hg.size⟩⟩
    cases e'
    exact hap e he hk
theorem bpm_take {P : Program} {n : Nat} {fn : Func} {R : Ending → World → Prop} {t0 : Array Value} {w0 w : World} {bor : List Nat} {L : List Ent} {D : Nat} (hst : St w0 bor (L ++ [eDfr D]) w)
    (h : ∀ W, St w0 bor L W → ∃ v, (results fn t0).run P W = .ok v W ∧ R (.returned v) W) : bodyPostM Fence.wide n P fn R .ret ⟨t0, [{ target := .collected D, args := #[] }]⟩ w := by
  have hK : w.heap[D]? = some (.deferred (some [])) := (hst.ok (eDfr D) (by simp)).holds
  show LeavesInM Fence.wide n P fn t0 R [{ target := .collected D, args := #[] }] .returning w
  exact ⟨by simp, .inl ⟨_, _, rfl, run_takeDeferred hK, h _ hst.takeD⟩⟩
end
end Go.Proofs.Ytjlcoglmjldjbaa
namespace Go.Proofs.Ytjlcoglmjldjbaa
section
open Go.RowKit
set_option linter.unusedVariables false
set_option linter.unusedSimpArgs false
/-- the one who ranges, as an entry of the iterator's: his blocks, what he has been given -/
def eJ {α : Type} (J : List Nat → List α → World → Prop) (C : List Nat) (pre : List α) : Ent := ⟨C, J C pre⟩
/-- the iterator's contract: it gives a list of elements and leaves an entry of its own -/
def SeqF {α : Type} (P : Program) (gf : Nat) (lb : Array Value) (encs : α → Array Value) (N : Nat) (Z : List α → Ent → Prop) (w0 : World) : Prop :=
  ∀ (l : Nat) (J : List Nat → List α → World → Prop) (W : World) (C0 : List Nat), Ext w0 W → (∀ C pre, (eJ J C pre).loc) → (∀ k ∈ C0, w0.heap.size ≤ k ∧ k < W.heap.size) → J C0 [] W →
    (∀ C pre x A, J C pre A → (∀ k ∈ C, k < A.heap.size) → pre.length < N → YieldAt Fence.wide 1 P l (encs x) A fun e B => e = .returned (.bool true) ∧ ∃ C', St A C [eJ J C' (pre ++ [x])] B) →
    CallsIn Fence.wide 2 P gf (#[.func (.yield l) #[] #[]] ++ lb) W fun e B => (∃ v, e = .returned v) ∧ ∃ C xs E, St W C0 [eJ J C xs, E] B ∧ Z xs E
theorem Upd.putObj {S : List Nat} {A B : World} {l : Nat} {o : Obj} (h : Upd S A B) (hl : l ∈ S ∨ A.heap.size ≤ l) : Upd S A (B.putObj l o) := by
  have hg := grownBy_putObj' B l o
  refine ⟨hg.os.trans h.os, hg.tape.trans h.tape, hg.output.trans h.output, Nat.le_trans h.size hg.size, fun k hk hn => ?_⟩
  rw [hg.block k (Nat.lt_of_lt_of_le hk h.size) fun e => ?_]
  · exact h.block k hk hn
  · cases e
    rcases hl with h1 | h1
    · exact hn h1
    · omega
theorem putObj_size (W : World) (l : Nat) (o : Obj) : (W.putObj l o).heap.size = W.heap.size := by simp
theorem wp_rangeSF {α : Type} {P : Program} {g : Operand} {ps : Array Tmp} {assign body : Code} {Q : Exit → Act → World → Prop} {t0 : Array Value} {w0 w : World} {L0 : List Ent} (hst : St w0 [] L0 w)
    {gf : Nat} {lb : Array Value} (hg : Act.eval ⟨t0, []⟩ g = .func (.func gf) #[] lb) (eg : ∀ args w, (callFunc gf args).run P w = .ok (.enter gf args) w)
    {encs : α → Array Value} {N : Nat} {Z : List α → Ent → Prop} (hseq : SeqF P gf lb encs N Z w0) (hps : ∀ x, (encs x).size = ps.size) (I : List α → List Ent → Prop) (h0 : I [] L0) (Ax : α → Act → Ent → Prop) (t1 : α → List Value) (ht1 : ∀ x, (ps.zip (encs x)).foldl (fun t (p, v) => t.setIfInBounds p v) t0 = (t1 x).toArray)
    (hassign : ∀ (l : Nat) (x : α) (W : World) (K : Act → World → Prop), (∀ a' W' E, Ax x a' E → St W [] [E] W' → K a' W') → assign.wpIn (Rnd l) 1 P (Exit.then K (fun _ _ _ => False)) ⟨(t1 x).toArray, []⟩ W)
    (hbody : ∀ (l : Nat) (pre : List α) (x : α) (W : World) (L : List Ent) (a' : Act) (E : Ent), I pre L → pre.length < N → Ax x a' E → St W (fps (L ++ [E])) (L ++ [E]) W → body.wpIn (Rnd l) 1 P (fun e _ W' => e = .normal ∧ ∃ L', I (pre ++ [x]) L' ∧ St W (fps (L ++ [E])) L' W') a' W)
    (hdone : ∀ (D : Nat) (W : World) (L : List Ent) (xs : List α) (E : Ent), I xs L → Z xs E → St w0 [] (L ++ [E, eDfr D]) W → Q .normal ⟨t0, [{ target := .collected D, args := #[] }]⟩ W) :
    (Code.rangeFunc g ps assign body).wp P Q ⟨t0, []⟩ w := by
  refine (wpIn_wide (n := 3)).1 (wpIn_rangeFunc fun fn hfn => ?_)
  obtain ⟨D, hD⟩ : ∃ D, w.heap.size = D := ⟨_, rfl⟩
  obtain ⟨rec, hrec⟩ : ∃ rec : LoopState → Loop, rec = fun s => { state := s, pending := none, fn, tmps := t0, params := ps, assign, body, defers := D } := ⟨_, rfl⟩
  obtain ⟨W1, hW1⟩ : ∃ W1, (w.alloc (.deferred (some []))).alloc (.loop (rec .ready)) = W1 := ⟨_, rfl⟩
  have hL1 : W1.heap[D + 1]? = some (.loop (rec .ready)) := by
    rw [← hW1, ← hD]; have := World.alloc_heap_new (w.alloc (.deferred (some []))) (.loop (rec .ready)); rwa [World.size_alloc] at this
  have hK1 : W1.heap[D]? = some (.deferred (some [])) := by
    rw [← hW1, ← hD]; exact (Below.heap_alloc _ _ _ (by simp)).trans (World.alloc_heap_new w _)
  have hx1 : Ext w W1 := by rw [← hW1]; exact ((Below.refl _ w).alloc (Nat.le_refl _) _).alloc (by simp) _
  have hs1 : W1.heap.size = D + 2 := by rw [← hW1, World.size_alloc, World.size_alloc, hD]
  have h0w := hst.upd.size
  obtain ⟨J, hJ⟩ : ∃ J : List Nat → List α → World → Prop, J = fun C pre A => ∃ L, I pre L ∧ C = (D + 1) :: D :: fps L ∧ (∀ e ∈ L, e.holds A ∧ e.loc) ∧ L.Pairwise Ent.apart ∧ (∀ k ∈ fps L, k ≠ D + 1 ∧ k ≠ D) ∧ A.heap[D + 1]? = some (.loop (rec .ready)) ∧ A.heap[D]? = some (.deferred (some [])) := ⟨_, rfl⟩
  have hloc : ∀ C pre, (eJ J C pre).loc := fun C pre A B hk h => by
    subst hJ
    obtain ⟨L, h1, rfl, h2, h3, h4, h5, h6⟩ := h
    refine ⟨L, h1, rfl, fun e he => ⟨(h2 e he).2 A B (fun k hk' => hk k ?_) (h2 e he).1, (h2 e he).2⟩, h3, h4, (hk (D + 1) (by simp [eJ])).trans h5, (hk D (by simp [eJ])).trans h6⟩
    exact List.mem_cons_of_mem _ (List.mem_cons_of_mem _ (fps_mem.2 ⟨e, he, hk'⟩))
  have hC0 : ∀ k ∈ (D + 1) :: D :: fps L0, w0.heap.size ≤ k ∧ k < W1.heap.size := fun k hk => by
    rcases List.mem_cons.1 hk with rfl | hk
    · exact ⟨by omega, by omega⟩
    · rcases List.mem_cons.1 hk with rfl | hk
      · exact ⟨by omega, by omega⟩
      · have := hst.fps_own hk
        have h5 := this.1.resolve_left (by simp)
        exact ⟨h5, by omega⟩
  have hJ0 : J ((D + 1) :: D :: fps L0) [] W1 := by
    subst hJ
    refine ⟨L0, h0, rfl, fun e he => ⟨(hst.ok e he).loc w W1 (fun k hk => hx1.block ((hst.ok e he).own k hk).2) (hst.ok e he).holds, (hst.ok e he).loc⟩, hst.apart, fun k hk => ?_, hL1, hK1⟩
    have := (hst.fps_own hk).2
    exact ⟨by omega, by omega⟩
  refine ⟨D + 1, [{ target := .collected D, args := #[] }], W1, { target := .fn (.func gf) lb, args := #[.func (.yield (D + 1)) #[] #[]] }, W1, gf, #[.func (.yield (D + 1)) #[] #[]] ++ lb, W1, ?_, ?_, ?_, ?_, fun _ => by omega, ?_⟩
  · rw [← hW1, hrec, ← hD]; exact run_enterLoop_outer _ _ _ _ _
  · simp only [resolve, hg]
    simp [go_sem]
  · intro f' hf'; trivial
  · simp [invoke, go_sem, eg]
  · refine (hseq (D + 1) J W1 _ (hst.ext.trans hx1) hloc hC0 hJ0 ?_).mono ?_
    · intro C pre x A hj hlt hlen
      subst hJ
      obtain ⟨L, hi, rfl, hall, hap, hne, hl, hk⟩ := hj
      have hlA : D + 1 < A.heap.size := hlt _ (by simp)
      have hDA : D < A.heap.size := hlt _ (by simp)
      have hy := run_yield (P := P) (args := encs x) hl (by rw [hrec]; exact hps x)
      rw [hrec] at hy
      refine ⟨fn, _, assign, body, hy, roundIn_of_wpIn hfn ?_⟩
      rw [ht1 x]
      refine hassign _ x A _ fun a' A1 E1 hAx hE1 => ?_
      have hxA := hE1.ext
      have hl1 : A1.heap[D + 1]? = some (.loop (rec .ready)) := (hxA.block hlA).trans hl
      have hk1 : A1.heap[D]? = some (.deferred (some [])) := (hxA.block hDA).trans hk
      have hEo := hE1.ok E1 (by simp)
      have hEn : ∀ k ∈ E1.fp, A.heap.size ≤ k ∧ k < A1.heap.size := fun k hk' => ⟨(hEo.own k hk').1.resolve_left (by simp), (hEo.own k hk').2⟩
      have hsA1 := hxA.size
      refine ⟨_, run_beginRound hl1 (by rw [hrec]), ?_⟩
      obtain ⟨A2, hA2⟩ : ∃ A2, A1.putObj (D + 1) (.loop { rec .ready with state := .busy }) = A2 := ⟨_, rfl⟩
      have hsz : A2.heap.size = A1.heap.size := by rw [← hA2]; exact putObj_size _ _ _
      have hoth : ∀ k, k ≠ D + 1 → A2.heap[k]? = A1.heap[k]? := fun k hk' => by rw [← hA2]; exact World.putObj_heap_other hk'
      have hbusy : A2.heap[D + 1]? = some (.loop { rec .ready with state := .busy }) := by rw [← hA2]; exact World.putObj_heap_same (by omega)
      have hLlt : ∀ k ∈ fps L, k < A.heap.size := fun k hk' => hlt k (List.mem_cons_of_mem _ (List.mem_cons_of_mem _ hk'))
      have hst2 : St A2 (fps (L ++ [E1])) (L ++ [E1]) A2 := by
        refine ⟨Upd.refl _ _, fun e he => ?_, ?_⟩
        · have hin : ∀ k ∈ e.fp, k ∈ fps (L ++ [E1]) := fun k hk' => fps_mem.2 ⟨e, he, hk'⟩
          rcases List.mem_append.1 he with he | he
          · refine ⟨(hall e he).2 A A2 (fun k hk' => ?_) (hall e he).1, (hall e he).2, fun k hk' => ⟨.inl (hin k hk'), ?_⟩⟩
            · have h1 := fps_mem.2 ⟨e, he, hk'⟩
              exact (hoth k (hne k h1).1).trans (hxA.block (hLlt k h1))
            · have := hLlt k (fps_mem.2 ⟨e, he, hk'⟩); omega
          · rw [List.mem_singleton] at he
            subst he
            exact ⟨hEo.loc A1 A2 (fun k hk' => hoth k (by have := (hEn k hk').1; omega)) hEo.holds, hEo.loc, fun k hk' => ⟨.inl (hin k hk'), by have := (hEn k hk').2; omega⟩⟩
        · rw [List.pairwise_append]
          refine ⟨hap, List.pairwise_singleton _ _, fun a ha b hb k hk' hkb => ?_⟩
          rw [List.mem_singleton] at hb
          subst hb
          have h1 := hLlt k (fps_mem.2 ⟨a, ha, hk'⟩)
          have h2 := (hEn k hkb).1
          omega
      rw [hA2]
      have hfin : ∀ k ∈ fps (L ++ [E1]), k ∈ fps L ∨ A.heap.size ≤ k := fun k hk' => by
        obtain ⟨e, he, hke⟩ := fps_mem.1 hk'
        rcases List.mem_append.1 he with he | he
        · exact .inl (fps_mem.2 ⟨e, he, hke⟩)
        · rw [List.mem_singleton] at he; subst he; exact .inr (hEn k hke).1
      refine wpIn_mono (hbody _ pre x A2 L a' E1 hi hlen hAx hst2) ?_
      rintro e a W3 ⟨rfl, L', hi', hs'⟩
      have hno : ∀ m, m = D + 1 ∨ m = D → m ∉ fps (L ++ [E1]) := fun m hm hmm => by
        rcases hfin m hmm with h1 | h1
        · have := hne m h1; rcases hm with rfl | rfl <;> simp at this
        · omega
      have hl3 : W3.heap[D + 1]? = some (.loop { rec .ready with state := .busy }) := (hs'.upd.block _ (by omega) (hno _ (.inl rfl))).trans hbusy
      have hk3 : W3.heap[D]? = some (.deferred (some [])) := (hs'.upd.block _ (by omega) (hno _ (.inr rfl))).trans ((hoth D (by omega)).trans hk1)
      have hsz3 := hs'.upd.size
      have hne' : ∀ k ∈ fps L', k ≠ D + 1 ∧ k ≠ D := fun k hk' => by
        rcases (hs'.fps_own hk').1 with h1 | h1
        · rcases hfin k h1 with h2 | h2
          · exact hne k h2
          · exact ⟨by omega, by omega⟩
        · exact ⟨by omega, by omega⟩
      refine ⟨_, _, run_endRound none hl3, rfl, (D + 1) :: D :: fps L', ?_⟩
      have hupA : Upd ((D + 1) :: D :: fps L) A A2 := by rw [← hA2]; exact (Upd.mono (S := []) (Upd.of_ext hxA) (fun k _ hk' => by simp at hk')).putObj (.inl (List.mem_cons_self ..))
      have hup : Upd ((D + 1) :: D :: fps L) A W3 := hupA.join hs'.upd (fun i hi => by
        rcases hfin i hi with h1 | h1
        · exact Or.inl (List.mem_cons_of_mem _ (List.mem_cons_of_mem _ h1))
        · exact .inr h1)
      have h3l : D + 1 < W3.heap.size := by omega
      refine ⟨hup.putObj (.inl (by simp)), fun e he => ?_, List.pairwise_singleton _ _⟩
      rw [List.mem_singleton] at he
      subst he
      refine ⟨⟨L', hi', rfl, fun e he => ⟨(hs'.ok e he).loc W3 _ (fun k hk' => World.putObj_heap_other (hne' k (fps_mem.2 ⟨e, he, hk'⟩)).1) (hs'.ok e he).holds, (hs'.ok e he).loc⟩, hs'.apart, hne', ?_, ?_⟩, hloc _ _, fun k hk' => ?_⟩
      · rw [hrec]; exact World.putObj_heap_same h3l
      · exact (World.putObj_heap_other (by omega)).trans hk3
      · rw [putObj_size]
        have hk' : k ∈ (D + 1) :: D :: fps L' := hk'
        rcases List.mem_cons.1 hk' with rfl | hk'
        · exact ⟨.inl (by simp), h3l⟩
        · rcases List.mem_cons.1 hk' with rfl | hk'
          · exact ⟨.inl (by simp), by omega⟩
          · have h6 := hs'.fps_own hk'
            refine ⟨?_, h6.2⟩
            rcases h6.1 with h7 | h7
            · rcases hfin k h7 with h8 | h8
              · exact .inl (List.mem_cons_of_mem _ (List.mem_cons_of_mem _ h8))
              · exact .inr h8
            · exact .inr (by omega)
    · rintro e W2 ⟨⟨v, rfl⟩, C, xs, E, hs, hz⟩
      have hE := hs.ok E (by simp)
      have hjo := hs.ok (eJ J C xs) (by simp)
      have hap2 := List.pairwise_pair.1 hs.apart
      have hj := hjo.holds
      subst hJ
      obtain ⟨L, hi, rfl, hall, hap, hne, hl, hk⟩ := hj
      have hend := run_endLoop (P := P) hl (by rw [hrec]; simp)
      have hpend : (rec .ready).pending = none := by rw [hrec]
      rw [hpend] at hend
      refine ⟨none, _, hend, hdone D _ L xs E hi hz ?_⟩
      have hCo : ∀ k ∈ (D + 1) :: D :: fps L, (w0.heap.size ≤ k ∧ k < W2.heap.size) := fun k hk' => by
        have h5 := hjo.own k hk'
        refine ⟨?_, h5.2⟩
        rcases h5.1 with h6 | h6
        · exact (hC0 k h6).1
        · omega
      have hup : Upd [] w0 W2 := (Upd.of_ext (hst.ext.trans hx1)).join hs.upd (fun i hi => .inr (hC0 i hi).1)
      have hlA := (hCo (D + 1) (by simp)).2
      have hw0D : w0.heap.size ≤ D + 1 := by omega
      refine ⟨hup.putObj (.inr hw0D), fun e he => ?_, ?_⟩
      · rcases List.mem_append.1 he with he | he
        · refine ⟨(hall e he).2 W2 _ (fun k hk' => World.putObj_heap_other (hne k (fps_mem.2 ⟨e, he, hk'⟩)).1) (hall e he).1, (hall e he).2, fun k hk' => ?_⟩
          rw [putObj_size]
          have := hCo k (List.mem_cons_of_mem _ (List.mem_cons_of_mem _ (fps_mem.2 ⟨e, he, hk'⟩)))
          exact ⟨.inr this.1, this.2⟩
        · simp only [List.mem_cons, List.not_mem_nil, or_false] at he
          rcases he with rfl | rfl
          · refine ⟨hE.loc W2 _ (fun k hk' => World.putObj_heap_other fun e => ?_) hE.holds, hE.loc, fun k hk' => ?_⟩
            · subst e; exact hap2 (D + 1) (by simp [eJ]) hk'
            · rw [putObj_size]
              have h5 := hE.own k hk'
              refine ⟨.inr ?_, h5.2⟩
              rcases h5.1 with h6 | h6
              · exact (hC0 k h6).1
              · omega
          · refine ⟨(World.putObj_heap_other (by omega)).trans hk, eD_loc D, fun k hk' => ?_⟩
            have : k = D := by simpa [eDfr] using hk'
            subst this
            rw [putObj_size]
            exact ⟨.inr (by omega), by omega⟩
      · rw [List.pairwise_append, List.pairwise_pair]
        refine ⟨hap, fun k hk' hkD => ?_, fun a ha b hb k hk' hkb => ?_⟩
        · have : k = D := by simpa [eDfr] using hkD
          subst this
          exact hap2 k (by simp [eJ]) hk'
        · simp only [List.mem_cons, List.not_mem_nil, or_false] at hb
          have hkf : k ∈ fps L := fps_mem.2 ⟨a, ha, hk'⟩
          rcases hb with rfl | rfl
          · exact hap2 k (List.mem_cons_of_mem _ (List.mem_cons_of_mem _ hkf)) hkb
          · have : k = D := by simpa [eDfr] using hkb
            exact (hne k hkf).2 this
end
end Go.Proofs.Ytjlcoglmjldjbaa
namespace Go.Proofs.Ytjlcoglmjldjbaa
section
open Go.RowKit
set_option linter.unusedVariables false
set_option linter.unusedSimpArgs false
section
variable {P : Program} {o : Oper} {ρ : Operand → Value} {W : World}
theorem run_callY {c : Call} {x : Operand} {l : Nat} {args : Array Value} (h : o.op = .call c) (hcal : c.callee = .value x) (hx : ρ x = .func (.yield l) #[] #[]) (ha : c.args.map ρ = args) {r : Result Next} (hr : (Instr.yield l args).run P W = r) : (execOp ρ o).run P W = r := by
  subst hr
  unfold execOp; rw [h]
  simp only [resolve, hcal, hx, Deferred.ofValue, ha, Sem.run_bind, Sem.run_pure, Result.andThen_ok, invoke]
  simp
end
theorem wpOpsIn_val {P : Program} {ops : Array Oper} {Q : Exit → Act → World → Prop} {i : Nat} {rest : List Nat} {o : Oper} {t : List Value} {d0 : List Deferred} {W : World} {v : Value} {d : Tmp} {t' : List Value} (ho : ops[i]? = some o) (hg : o.guard = none) (hd : o.dst = some d) (hr : (execOp (Act.eval ⟨t.toArray, d0⟩) o).run P W = .ok (.value v) W) (ht : t.set d v = t') (h : wpOpsIn Fence.wide 2 P ops Q rest ⟨t'.toArray, d0⟩ W) : wpOpsIn Fence.wide 2 P ops Q (i :: rest) ⟨t.toArray, d0⟩ W := by
  unfold wpOpsIn
  simp only [ho]
  rw [if_pos (show Region.wanted o _ = true by unfold Region.wanted; rw [hg])]
  refine ⟨fun _ _ => trivial, ?_⟩
  show o.uponIn Fence.wide 2 P _ _ Q ((execOp (Act.eval ⟨t.toArray, d0⟩) o).run P W)
  rw [hr, Oper.uponIn_value, hd]
  show wpOpsIn Fence.wide 2 P ops Q rest ⟨t.toArray.setIfInBounds d v, d0⟩ W
  rw [List.setIfInBounds_toArray, ht]
  exact h
theorem wpOpsIn_yld {P : Program} {ops : Array Oper} {Q : Exit → Act → World → Prop} {i : Nat} {rest : List Nat} {o : Oper} {t : List Value} {d0 : List Deferred} {W : World} {d l : Nat} {t' : List Value} {args : Array Value} {R : Ending → World → Prop} (ho : ops[i]? = some o) (hg : o.guard = none) (hd : o.dst = some d)
    (hr : ∀ r, (Instr.yield l args).run P W = r → (execOp (Act.eval ⟨t.toArray, d0⟩) o).run P W = r) (hy : YieldAt Fence.wide 1 P l args W fun e B => e = .returned (.bool true) ∧ R e B) (ht : t.set d (.bool true) = t') (h : ∀ B, R (.returned (.bool true)) B → wpOpsIn Fence.wide 2 P ops Q rest ⟨t'.toArray, d0⟩ B) : wpOpsIn Fence.wide 2 P ops Q (i :: rest) ⟨t.toArray, d0⟩ W := by
  obtain ⟨fn, tmps, assign, body, h1, h2⟩ := hy
  unfold wpOpsIn
  simp only [ho]
  rw [if_pos (show Region.wanted o _ = true by unfold Region.wanted; rw [hg])]
  refine ⟨fun _ _ => trivial, ?_⟩
  show o.uponIn Fence.wide 2 P _ _ Q ((execOp (Act.eval ⟨t.toArray, d0⟩) o).run P W)
  rw [hr _ h1, Oper.uponIn_round]
  refine ⟨fun hh => by simp [Fence.wide] at hh, h2.mono ?_⟩
  rintro e B ⟨rfl, hB⟩
  show wpOpsIn Fence.wide 2 P ops Q rest (Act.put ⟨t.toArray, d0⟩ o.dst (.bool true)) B
  rw [hd]
  show wpOpsIn Fence.wide 2 P ops Q rest ⟨t.toArray.setIfInBounds d (.bool true), d0⟩ B
  rw [List.setIfInBounds_toArray, ht]
  exact h B hB
theorem wp_region4In {P : Program} {id : Nat} {o0 o1 o2 o3 : Oper} {Q : Exit → Act → World → Prop} {a : Act} {W : World} (h : wpOpsIn Fence.wide 2 P #[o0, o1, o2, o3] Q [0, 1, 2, 3] a W) : (Code.region id #[o0, o1, o2, o3] false).wp P Q a W :=
  (wpIn_wide (n := 2)).1 (wpIn_region h)
/-- a node as the iterator gives it -/
abbrev YnD := NoD × Int × Option Addr × Nat
def ynE (x : YnD) : Array Value := #[knV x.2.1 x.1 x.2.2.1 x.2.2.2]
def ynC (x : YnD) : List Value := [.int .i64 x.2.1, .int .i64 x.1.lv, .int .i64 x.1.right, .string x.1.high, .bool x.1.dead, .slice x.2.2.1 x.1.es.length x.2.2.2, .int .i64 (x.1.free : Int)]
def ynR (x : YnD) : Ent := eO 104 3 (.slice x.2.2.1 x.1.es.length x.2.2.2) x.1.es.length (x.1.es.flatMap enC)
/-- the one node of a level -/
def OneZ (pg : Int) (nd : NoD) (xs : List YnD) (E : Ent) : Prop := ∃ EA ec, xs = [(nd, pg, EA, ec)] ∧ E = ynR (nd, pg, EA, ec)
theorem yld_st {α : Type} {w A B : World} {bor C : List Nat} {L : List Ent} {J : List Nat → List α → World → Prop} {pre xs : List α} (h : St w bor (eJ J C pre :: L) A) {C' : List Nat} (hj : St A C [eJ J C' xs] B) : St w bor (eJ J C' xs :: L) B := by
  have hC := h.ok (eJ J C pre) (List.mem_cons_self ..)
  have hp := List.pairwise_cons.1 h.apart
  have hN := hj.ok (eJ J C' xs) (by simp)
  refine ⟨h.upd.join hj.upd (fun i hi => (hC.own i hi).1), fun e he => ?_, List.pairwise_cons.2 ⟨fun e he k hk hke => ?_, hp.2⟩⟩
  · rcases List.mem_cons.1 he with rfl | he
    · refine ⟨hN.holds, hN.loc, fun k hk => ⟨?_, (hN.own k hk).2⟩⟩
      rcases (hN.own k hk).1 with h1 | h1
      · exact (hC.own k h1).1
      · exact .inr (Nat.le_trans h.upd.size h1)
    · have h2 := h.ok e (List.mem_cons_of_mem _ he)
      exact h2.keep hj.upd (fun k hk hkC => hp.1 e he k hkC hk)
  · have h2 := h.ok e (List.mem_cons_of_mem _ he)
    rcases (hN.own k hk).1 with h1 | h1
    · exact hp.1 e he k h1 hke
    · have := (h2.own k hke).2; omega
set_option maxRecDepth 100000 in
set_option maxHeartbeats 2000000 in
theorem krow1_in (l : Nat) (b1 b2 b3 : Nat) (tt : TypeId) (tv : Value) (root lv : Int) (ps : List PgS) (nd : NoD) (w0 : World) (J : List Nat → List YnD → World → Prop) (C0 : List Nat) (w : World) (hx0 : ∀ A, Upd C0 w A → Ext w0 A) (h1 : Blk w0 b1 113 #[.iface tt tv]) (h2 : Blk w0 b2 3 #[.int .i64 root]) (h3 : Blk w0 b3 3 #[.int .i64 lv]) (hS : PgsOk w0 tt tv ps) (hok : OkS ps) (hoc : OkC ps) (hnd : ndAt ps root = some nd) (hlv : nd.lv = lv) (hno : ndAt ps nd.right = none) (hloc : ∀ C pre, (eJ J C pre).loc) (hlt : ∀ k ∈ C0, k < w.heap.size) (hJ0 : J C0 [] w) (hY : ∀ C pre x A, J C pre A → (∀ k ∈ C, k < A.heap.size) → pre.length < 1 → YieldAt Fence.wide 1 Try.prog l (ynE x) A fun e B => e = .returned (.bool true) ∧ ∃ C', St A C [eJ J C' (pre ++ [x])] B) :
    Calls Try.prog 99 #[.func (.yield l) #[] #[], .pointer (some ⟨b1, 0, none⟩), .pointer (some ⟨b2, 0, none⟩), .pointer (some ⟨b3, 0, none⟩)] w ((fun w (e : Ending) (B : World) => (∃ v, e = .returned v) ∧ ∃ C xs E, St w C0 [eJ J C xs, E] B ∧ OneZ root nd xs E) w) := by
  have st0 : St w C0 [eJ J C0 []] w := St.lend (E := eJ J C0 []) hJ0 (hloc _ _) hlt
  go_enter Try.func99, Try.ntmps99
  have hst0 := st0
  refine wp_seq (sqr ?_)
  refine sql (.iface tt (tv)) hst0 (fun cx => run_load1 rfl (by kernel_rfl) (cx.ou 1) ((Blk.ext h1 (hx0 _ cx.upd)).cell 0)) ?_
  refine sql (vi root) hst0 (fun cx => run_load1 rfl (by kernel_rfl) (cx.ou 2) ((Blk.ext h2 (hx0 _ cx.upd)).cell 0)) ?_
  refine sqk2 (fun EA11_3 ec11_3 => .tuple #[.agg #[vi root, vi nd.lv, vi nd.right, .string nd.high, .bool nd.dead, .slice EA11_3 nd.es.length ec11_3, vi ((nd.free : Int))], .bool true]) (fun EA11_3 ec11_3 => eO 104 3 (.slice EA11_3 nd.es.length ec11_3) nd.es.length (nd.es.flatMap enC)) hst0 (fun cx => ⟨_, (kd_yes hnd (kat_any _ _ ps root _ (hS.ext (hx0 _ cx.upd)) hok hoc)).mono (by rintro e W1 ⟨EA4, ec4, rfl, hs4⟩; exact ⟨_, _, rfl, hs4⟩), (map2 (cx.ou 9) (cx.ou 10))⟩) fun EA11_3 ec11_3 W3 hst3 => ?_
  refine sqp [.m 8 11, .k 12 (.agg #[vi root, vi nd.lv, vi nd.right, .string nd.high, .bool nd.dead, .slice EA11_3 nd.es.length ec11_3, vi ((nd.free : Int))]), .k 13 (.bool true)] ?_
  refine sqal #[vi 0, vi 0, vi 0, .string ByteArray.empty, .bool false, .slice none 0 0, vi 0] hst3 fun B5_7 W7 hst7 => ?_
  refine sqst (n := 7) 2 #[vi root, vi nd.lv, vi nd.right, .string nd.high, .bool nd.dead, .slice EA11_3 nd.es.length ec11_3, vi ((nd.free : Int))] hst7 fun W8 hst8 => ?_
  refine sqp [.k 6 (.bool true)] ?_
  refine then_normal (wp_seq (sqr (sqp [.k 7 (vi 1)] ?_)))
  refine then_normal (wp_seq (wp_block ?_))
  refine wp_loopT (fun t_ mz az W => True ∧ mz = 0 ∧ az = ⟨(ovr (jv az) [(14, 14, 29, [])] t_).toArray, []⟩ ∧ St w C0 [eJ J C0 [], eO 104 3 (.slice EA11_3 nd.es.length ec11_3) nd.es.length (nd.es.flatMap enC), eB B5_7 116 #[vi root, vi nd.lv, vi nd.right, .string nd.high, .bool nd.dead, .slice EA11_3 nd.es.length ec11_3, vi ((nd.free : Int))]] W) (0) ?_ ?_
  · -- the loop begins
    exact ⟨trivial, rfl, (by kernel_rfl), hst8.pk [0, 1, 2]⟩
  rintro n11 a11 W11 ⟨-, rfl, hj_, hst11⟩
  refine ovz hj_ fun u11_ => ?_
  refine wp_seq (wp_seq (sqr (sqp [.k 14 (.bool true), .k 15 (.bool true)] ?_)))
  refine sqgy 15 [16, 17, 18, 19] rfl rfl ?_
  refine sqp [.k 16 (.pointer (some ⟨B5_7, 1, none⟩))] ?_
  refine sqld 2 hst11 ?_
  refine sql (vi lv) hst11 (fun cx => run_load1 rfl (by kernel_rfl) (cx.ou 3) ((Blk.ext h3 (hx0 _ cx.upd)).cell 0)) ?_
  have hd18 : (decide (lv < nd.lv)) = false := (decide_eq_false (by omega))
  refine sqp [.e 19 (.bool (decide (lv < nd.lv))) (.bool false) (congrArg Value.bool hd18)] ?_
  refine sqp [.k 20 (.bool false), .k 21 (.bool false)] ?_
  refine sqgn 21 [22, 23, 24, 25] rfl rfl ?_
  refine sqp [.k 26 (.bool false), .k 27 (.bool false)] ?_
  refine sqgn 27 [28, 29] rfl rfl ?_
  refine sqp [.k 30 (.bool false)] ?_
  refine then_normal (wcf rfl (wp_exit (then_exit (then_exit (blk_eq (then_normal (wp_seq (wp_seq (sqr (sqp [.k 43 (.bool true), .k 44 (.bool false), .k 45 (.bool false)] ?_))))))))))
  refine sqgy 45 [46, 47, 48, 49] rfl rfl ?_
  refine sqp [.k 46 (.pointer (some ⟨B5_7, 1, none⟩))] ?_
  refine sqld 2 hst11 ?_
  refine sql (vi lv) hst11 (fun cx => run_load1 rfl (by kernel_rfl) (cx.ou 3) ((Blk.ext h3 (hx0 _ cx.upd)).cell 0)) ?_
  have hd31 : (nd.lv != lv) = false := (by rw [bne_eq_false_iff_eq]; exact hlv)
  refine sqp [.e 49 (.bool (nd.lv != lv)) (.bool false) (congrArg Value.bool hd31)] ?_
  refine sqp [.k 50 (.bool false)] ?_
  refine then_normal (wcf rfl (wp_skip (then_normal (wp_seq (sqr (sqp [.k 51 (vi 0)] ?_))))))
  refine then_normal (wp_block ?_)
  refine wp_loopT (fun t_ mz az W => True ∧ mz = 0 ∧ az = ⟨(ovr (jv az) [(52, 52, 21, [])] t_).toArray, []⟩ ∧ St w C0 [eJ J C0 [], eO 104 3 (.slice EA11_3 nd.es.length ec11_3) nd.es.length (nd.es.flatMap enC), eB B5_7 116 #[vi root, vi nd.lv, vi nd.right, .string nd.high, .bool nd.dead, .slice EA11_3 nd.es.length ec11_3, vi ((nd.free : Int))]] W) (0) ?_ ?_
  · -- the loop begins
    exact ⟨trivial, rfl, (by kernel_rfl), hst11.pk [0, 1, 2]⟩
  rintro n34 a34 W34 ⟨-, rfl, hj_, hst34⟩
  refine ovz hj_ fun u34_ => ?_
  refine wp_seq (sqr (sqp [.k 52 (.bool true)] ?_))
  refine then_normal (wp_seq (wct rfl (wp_skip (then_normal (wp_seq (wp_block (wp_seq (wp_seq ?_))))))))
  have hyb_ := hst34.blk 2 rfl
  have hjj_ := hst34.get 0 rfl
  have hyy_ := hY C0 [] (nd, root, EA11_3, ec11_3) _ hjj_.holds (fun k hk => (hjj_.own k hk).2) (by decide)
  refine wp_region4In (wpOpsIn_val rfl rfl rfl (run_move' rfl rfl) rfl (wpOpsIn_val rfl rfl rfl (run_loadB (n := 7) rfl (by kernel_rfl) (by kernel_rfl) rfl hyb_ (nle rfl) rfl) rfl (wpOpsIn_yld (args := ynE (nd, root, EA11_3, ec11_3)) (R := fun _ B => ∃ C', St _ C0 [eJ J C' ([] ++ [(nd, root, EA11_3, ec11_3)])] B) rfl rfl rfl (fun r hr => run_callY rfl rfl rfl (map1 rfl) hr) hyy_ rfl fun W36 ⟨C2, hJ2⟩ => ?_)))
  have hup_ := hJ2.upd
  have hst36 := yld_st (L := [eO 104 3 (.slice EA11_3 nd.es.length ec11_3) nd.es.length (nd.es.flatMap enC), eB B5_7 116 #[vi root, vi nd.lv, vi nd.right, .string nd.high, .bool nd.dead, .slice EA11_3 nd.es.length ec11_3, vi ((nd.free : Int))]]) (hst34.pick [0, 1, 2] (by decide) rfl) hJ2
  refine wpOpsIn_val rfl rfl rfl (run_not rfl rfl rfl) rfl ?_
  unfold wpOpsIn
  refine then_normal (wcf rfl (wp_skip (then_normal (wp_seq (wp_region_Y [0, 0, 2, 7, 15, 31, 31, 63, 255] [[], [], [2], [], [], [], [], [2]] [[], [], [], [], [], [], [], [3]] [[], [], [], [], [], [], [], [2]] [.c 58 (.iface tt (tv)), .k 59 (.pointer (some ⟨B5_7, 2, none⟩)), .c 60 (vi nd.right), .a 61, .a 57, .a 62, .c 63 (.bool false), .n, .k 6 (.bool false)] (fun ix σ β X => match ix with | 0 => True | 1 => True | 2 => True | 3 => σ 61 = .tuple #[.agg #[vi (iv (tg (tg (β 61) 0) 0)), vi 0, vi 0, .string ((⟨#[]⟩ : ByteArray)), .bool false, .slice none 0 0, vi 0], .bool false] | 4 => σ 57 = .tuple #[.agg #[vi (iv (tg (tg (β 61) 0) 0)), vi 0, vi 0, .string ((⟨#[]⟩ : ByteArray)), .bool false, .slice none 0 0, vi 0], .bool false] | 5 => σ 62 = .agg #[vi (iv (tg (tg (β 61) 0) 0)), vi 0, vi 0, .string ((⟨#[]⟩ : ByteArray)), .bool false, .slice none 0 0, vi 0] | 6 => True | 7 => X 3 = eB B5_7 116 #[vi (iv (tg (tg (β 61) 0) 0)), vi 0, vi 0, .string ((⟨#[]⟩ : ByteArray)), .bool false, .slice none 0 0, vi 0] | _ => True) [0, 1, 3] [0, 2, 3, 4, 5, 6, 7] [(6, 8, 1, 7), (50, 4, 1, 51), (0, 0, 4, 4), (0, 5, 2, 2)] hst36 ?_ ?_ ?_)))))
  · exact fun ix _ _ _ _ _ _ hs hb hx h => match ix, h with
    | 3, h => by dsimp only; rw [← hs 61 rfl, ← hb 61 rfl]; exact h
    | 4, h => by dsimp only; rw [← hs 57 rfl, ← hb 61 rfl]; exact h
    | 5, h => by dsimp only; rw [← hs 62 rfl, ← hb 61 rfl]; exact h
    | 7, h => by dsimp only; rw [← hb 61 rfl, ← hx 3 rfl]; exact h
    | 0, _ | 1, _ | 2, _ | 6, _ | _ + 8, _ => trivial
  · refine ⟨?_, ?_, ?_, ?_, ?_, ?_, ?_, trivial⟩
    · exact xs4 rfl id fun cx => run_load1 rfl (by kernel_rfl) (cx.ou 1) ((Blk.ext h1 (hx0 _ cx.upd)).cell 0)
    · exact xs4 rfl id fun cx => run_load1 rfl (by kernel_rfl) (cx.an 1) ((cx.bi 2 rfl).cell 2)
    · refine svA fun ρ β W X cx => ?_
      refine DoesU.call (run_callF (args := #[.iface tt (tv), vi nd.right]) rfl cx.sees rfl (by kernel_rfl) (map2 (cx.an 0) (cx.an 2))) ?_
      refine (kd_no hno (kat_any _ _ ps nd.right _ (hS.ext (hx0 _ cx.upd)) hok hoc)).mono ?_
      rintro e W1 ⟨p4, rfl, hx⟩
      refine ⟨_, rfl, post_call [] rfl rfl hx (by simp) List.Pairwise.nil (fun σ β' X' hs hb hv hN => ?_)⟩
      have hv1 := (hv 61 rfl).1; have hv2 := (hv 61 rfl).2
      exact hv1.trans (by rw [hv2]; rfl)
    · exact sv rfl rfl rfl rfl rfl _ (fun _ _ _ h => h) (fun β β' h => by rw [h 61 (by decide)]) fun ρ β W X cx => run_move' rfl (dTn (cx.an 3))
    · exact sv rfl rfl rfl rfl rfl _ (fun _ _ _ h => h) (fun β β' h => by rw [h 61 (by decide)]) fun ρ β W X cx => run_extract' rfl (dTn (cx.an 4)) rfl
    · exact xs4 rfl id fun cx => run_extract' rfl (dTn (cx.an 4)) rfl
    · refine svA fun ρ β W X cx => ?_
      exact dv_store (n := 7) rfl (cx.ou 5) (dTn (cx.an 5)) (by kernel_rfl) (by kernel_rfl) (by kernel_rfl) cx (cx.init 2 _ rfl) rfl (nle rfl) (by kernel_rfl) rfl rfl rfl (fun σ β' X' hs hb hx => by rw [hb 61]; exact hx)
  intro σ β X W37 hD hst37 fr hfr
  obtain ⟨pg61_37, hu_pg61_37⟩ : ∃ z, iv (tg (tg (β 61) 0) 0) = z := ⟨_, rfl⟩
  simp only [exq 3 ((dTn (hD 7 lq))), hu_pg61_37] at hst37
  simp only [ed 61 ((dTn (hD 3 lq))), ed 57 ((dTn (hD 4 lq))), ed 62 ((dTn (hD 5 lq))), hu_pg61_37] at hfr
  clear hD hu_pg61_37; subst hfr; clear σ β X
  refine then_normal (wp_seq (sqr (sqp [.k 64 (.bool false), .k 65 (.bool true), .k 66 (.bool true)] ?_)))
  refine sqgn 66 [67, 68, 69, 70] rfl rfl ?_
  refine sqp [.k 71 (.bool true)] ?_
  refine then_normal (wct rfl (wp_ret (blk_ret (then_ret (then_ret (blk_ret ?_))))))
  refine bpr (.tuple #[]) (by simp [results, Try.results99, go_sem]) ?_
  exact ⟨⟨_, rfl⟩, C2, _, _, hst37.pick [0, 1] (by decide) rfl, EA11_3, ec11_3, rfl, rfl⟩
theorem krow_seq {b1 b2 b3 : Nat} {tt : TypeId} {tv : Value} {root lv : Int} {ps : List PgS} {nd : NoD} {w0 : World} (h1 : Blk w0 b1 113 #[.iface tt tv]) (h2 : Blk w0 b2 3 #[.int .i64 root]) (h3 : Blk w0 b3 3 #[.int .i64 lv]) (hS : PgsOk w0 tt tv ps) (hok : OkS ps) (hoc : OkC ps) (hnd : ndAt ps root = some nd) (hlv : nd.lv = lv) (hno : ndAt ps nd.right = none) :
    SeqF Try.prog 99 #[.pointer (some ⟨b1, 0, none⟩), .pointer (some ⟨b2, 0, none⟩), .pointer (some ⟨b3, 0, none⟩)] ynE 1 (OneZ root nd) w0 := fun l J W C0 hx hloc hC0 hJ0 hY =>
  callsIn_wide.2 (krow1_in l b1 b2 b3 tt tv root lv ps nd w0 J C0 W (fun A hA => (Upd.join (Upd.of_ext (S := []) hx) hA (fun i hi => .inr (hC0 i hi).1)).to_ext) h1 h2 h3 hS hok hoc hnd hlv hno hloc (fun k hk => (hC0 k hk).2) hJ0 hY)
end
end Go.Proofs.Ytjlcoglmjldjbaa
namespace Go.Proofs.Ytjlcoglmjldjbaa
section
open Go.RowKit
set_option linter.unusedVariables false
set_option linter.unusedSimpArgs false
/-- the nodes collected: one node, its entries -/
def eCo (SA : Option Addr) (nd : NoD) (pg : Int) (fp : List Nat) : Ent := ⟨fp, fun W => ∃ EA ec, (∀ ad, SA = some ad → ad.block ∈ fp) ∧ (∀ ad, EA = some ad → ad.block ∈ fp) ∧ At W SA ([(nd, pg, EA, ec)].flatMap ynC) ∧ At W EA (nd.es.flatMap enC)⟩
theorem eCo_self {e : Ent} {SA : Option Addr} {nd : NoD} {pg : Int} {fp : List Nat} (h : e = eCo SA nd pg fp) : e = eCo SA nd pg e.fp := by subst h; rfl
theorem eCo_loc (SA : Option Addr) (nd : NoD) (pg : Int) (fp : List Nat) : (eCo SA nd pg fp).loc := fun W W' hk h => by
  obtain ⟨EA, ec, h1, h2, h3, h4⟩ := h
  exact ⟨EA, ec, h1, h2, at_blocks h3 fun ad e _ => hk _ (h1 ad e), at_blocks h4 fun ad e _ => hk _ (h2 ad e)⟩
theorem own_blkN {W : World} {t sz m lc : Nat} {LA : Option Addr} {xs : List Value} (h : W.ownsRow 0 t sz (.slice LA m lc) m xs) : ∀ ad, LA = some ad → ad.block ∈ (Value.ownBlock (.slice LA m lc)).toList := fun ad e => by
  rcases h.2 with ⟨hv, _⟩ | ⟨g, cap, cur, hv, _⟩
  · injection hv with h2; rw [e] at h2; cases h2
  · subst e; injection hv with h5; injection h5 with h5; subst h5; simp [Value.ownBlock]
def CoPost (nd : NoD) (pg : Int) (w : World) (e : Ending) (w' : World) : Prop := ∃ SA sc fp, e = .returned (.slice SA 1 sc) ∧ St w [] [eCo SA nd pg fp] w'
theorem co_done {w W : World} {SA : Option Addr} {sc n : Nat} {nd : NoD} {pg : Int} {xs : List YnD} {E : Ent} (hz : OneZ pg nd xs E) (h : St w [] [eO 116 7 (.slice SA n sc) n (xs.flatMap ynC), E] W) (hn : n = xs.length) : CoPost nd pg w (.returned (.slice SA n sc)) W := by
  obtain ⟨EA, ec, rfl, rfl⟩ := hz
  subst hn
  have h1 := h.ok (eO 116 7 (.slice SA 1 sc) 1 ([(nd, pg, EA, ec)].flatMap ynC)) (by simp)
  have h2 := h.ok (ynR (nd, pg, EA, ec)) (by simp)
  have hO : W.ownsRow 0 116 7 (.slice SA 1 sc) 1 ([(nd, pg, EA, ec)].flatMap ynC) := h1.holds
  have hR : W.ownsRow 0 104 3 (.slice EA nd.es.length ec) nd.es.length (nd.es.flatMap enC) := h2.holds
  refine ⟨SA, sc, (Value.ownBlock (.slice SA 1 sc)).toList ++ (Value.ownBlock (.slice EA nd.es.length ec)).toList, rfl, h.upd, fun x hx => ?_, List.pairwise_singleton _ _⟩
  rw [List.mem_singleton] at hx
  subst hx
  refine ⟨⟨EA, ec, fun ad e => List.mem_append_left _ (own_blkN hO ad e), fun ad e => List.mem_append_right _ (own_blkN hR ad e), At.of_ownN hO, At.of_ownN hR⟩, eCo_loc _ _ _ _, fun k hk => ?_⟩
  rcases List.mem_append.1 hk with hk | hk
  · exact h1.own k hk
  · exact h2.own k hk
theorem yn_snoc (L : List YnD) (x : YnD) : L.flatMap ynC ++ ynC x = (L ++ [x]).flatMap ynC := by simp
theorem Try.infoNd : (Try.prog.info? 116).map (fun i => (i.zero, i.size, i.bytes)) = some (some (.agg #[.int .i64 0, .int .i64 0, .int .i64 0, .string ByteArray.empty, .bool false, .slice none 0 0, .int .i64 0]), 7, 80) := by kernel_rfl
set_option maxRecDepth 100000 in
set_option maxHeartbeats 2000000 in
theorem kapp_any (b1 b2 b3 : Nat) (root : Int) (nd : NoD) (w : World) (hseq : SeqF Try.prog 99 #[.pointer (some ⟨b1, 0, none⟩), .pointer (some ⟨b2, 0, none⟩), .pointer (some ⟨b3, 0, none⟩)] ynE 1 (OneZ root nd) w) :
    Calls Try.prog 98 #[.slice none 0 0, .func (.func 99) #[] #[.pointer (some ⟨b1, 0, none⟩), .pointer (some ⟨b2, 0, none⟩), .pointer (some ⟨b3, 0, none⟩)]] w (CoPost nd root w) := by
  refine (callsIn_wide (n := 3)).1 (callsIn_of_wp_marks Try.func98 rfl trivial (wpIn_wide.2 ?_) rfl)
  simp only [Try.ntmps98, List.size_toArray, List.length_cons, List.length_nil, Nat.reduceAdd, Nat.reduceSub, Array.replicate_succ, Array.replicate_zero, List.push_toArray, List.append_toArray, List.nil_append, List.cons_append]
  have hst0 := St.start w
  refine wp_seq (wp_region_Y [0, 0] [] [[0]] [] [.a 2, .k 4 (.slice none 0 0)] (fun ix σ β X => match ix with | 0 => σ 2 = vp (pb (β 2)) ∧ X 0 = eB (pb (β 2)) 146 #[.slice none 0 0] | _ => True) [0] [0] [(2, 0, 1, 3), (1, 1, 1, 2)] hst0 ?_ ?_ ?_)
  · exact fun ix _ _ _ _ _ _ hs hb hx h => match ix, h with
    | 0, h => by dsimp only; rw [← hs 2 rfl, ← hb 2 rfl, ← hx 0 rfl]; exact h
    | _ + 1, _ => trivial
  · refine ⟨?_, trivial⟩
    · refine svA fun ρ β W X cx => ?_
      exact dv_box (cs := #[.slice none 0 0]) rfl (cx.ou 0) rfl rfl rfl (fun σ β' X' hs hb hv hx => ⟨hv, hx⟩)
  intro σ β X W1 hD hst1 fr hfr
  obtain ⟨B2_1, hu_B2_1⟩ : ∃ z, pb (β 2) = z := ⟨_, rfl⟩
  simp only [exq 0 ((dTn (hD 0 lq)).2), hu_B2_1] at hst1
  simp only [ed 2 ((dTn (hD 0 lq)).1), hu_B2_1] at hfr
  clear hD hu_B2_1; subst hfr; clear σ β X
  refine then_normal (wp_seq (wp_seq (wp_region_P [0] [.k 6 (.func (.func 99) #[] #[vp b1, vp b2, vp b3])] [(6, 0, 1, 7)] hst1 fun W2 hst2 => ?_)))
  refine then_normal (wp_block ?_)
  have hn3 := nilrowN hst2 116 7
  simp only [List.cons_append, List.nil_append] at hn3
  have hp5 := hn3.pick [0, 1] (by decide) rfl
  refine wp_rangeSF (α := YnD) hp5 rfl (enters_of Try.func99 (by kernel_rfl) rfl) (encs := ynE) (N := 1) (Z := OneZ root nd) (hseq) (fun _ => rfl) (fun pre L => ∃ SA : Option Addr, ∃ n : Nat, ∃ sc : Nat, n = pre.length ∧ L = [eB B2_1 146 #[.slice SA n sc], eO 116 7 (.slice SA n sc) n (pre.flatMap ynC)]) ⟨none, 0, 0, rfl, rfl⟩ (fun xx a_ E_ => ∃ BV : Nat, a_ = ⟨([.slice none 0 0, .func (.func 99) #[] #[vp b1, vp b2, vp b3], vp B2_1, undef, .slice none 0 0, vp BV, .func (.func 99) #[] #[vp b1, vp b2, vp b3], .agg #[vi xx.2.1, vi xx.1.lv, vi xx.1.right, .string xx.1.high, .bool xx.1.dead, .slice xx.2.2.1 xx.1.es.length xx.2.2.2, vi ((xx.1.free : Int))], undef, undef, undef, undef, undef]).toArray, []⟩ ∧ E_ = eB BV 116 #[vi xx.2.1, vi xx.1.lv, vi xx.1.right, .string xx.1.high, .bool xx.1.dead, .slice xx.2.2.1 xx.1.es.length xx.2.2.2, vi ((xx.1.free : Int))]) (fun xx => [.slice none 0 0, .func (.func 99) #[] #[vp b1, vp b2, vp b3], vp B2_1, undef, .slice none 0 0, undef, .func (.func 99) #[] #[vp b1, vp b2, vp b3], .agg #[vi xx.2.1, vi xx.1.lv, vi xx.1.right, .string xx.1.high, .bool xx.1.dead, .slice xx.2.2.1 xx.1.es.length xx.2.2.2, vi ((xx.1.free : Int))], undef, undef, undef, undef, undef]) (fun xx => by kernel_rfl) ?_ ?_ ?_
  · intro rl xx W4 K hK
    have hst4 := St.start W4
    refine wpIn_region_Y [0, 1] [[], [0]] [[0], [1]] [[], [0]] [.a 5, .n] (fun ix σ β X => match ix with | 0 => σ 5 = vp (pb (β 5)) ∧ X 0 = eB (pb (β 5)) 116 #[vi 0, vi 0, vi 0, .string ByteArray.empty, .bool false, .slice none 0 0, vi 0] | 1 => X 1 = eB (pb (β 5)) 116 #[vi xx.2.1, vi xx.1.lv, vi xx.1.right, .string xx.1.high, .bool xx.1.dead, .slice xx.2.2.1 xx.1.es.length xx.2.2.2, vi ((xx.1.free : Int))] | _ => True) [1] [0, 1] [(5, 0, 1, 6)] hst4 ?_ ?_ ?_
    · exact fun ix _ _ _ _ _ _ hs hb hx h => match ix, h with
      | 0, h => by dsimp only; rw [← hs 5 rfl, ← hb 5 rfl, ← hx 0 rfl]; exact h
      | 1, h => by dsimp only; rw [← hb 5 rfl, ← hx 1 rfl]; exact h
      | _ + 2, _ => trivial
    · refine ⟨?_, ?_, trivial⟩
      · refine svA fun ρ β W X cx => ?_
        exact dv_alloc (cs := #[vi 0, vi 0, vi 0, .string ByteArray.empty, .bool false, .slice none 0 0, vi 0]) rfl (by kernel_rfl) rfl rfl (fun σ β' X' hs hb hv hx => ⟨hv, hx⟩)
      · refine svA fun ρ β W X cx => ?_
        exact dv_store (n := 7) rfl (dTn (cx.an 0)).1 (cx.ou 7) (by kernel_rfl) (by kernel_rfl) (by kernel_rfl) cx (dTn (cx.an 0)).2 rfl (nle rfl) (by kernel_rfl) rfl rfl rfl (fun σ β' X' hs hb hx => by rw [hb 5]; exact hx)
    intro σ β X W6 hD hst6 fr hfr
    obtain ⟨B5_6, hu_B5_6⟩ : ∃ z, pb (β 5) = z := ⟨_, rfl⟩
    simp only [exq 1 ((dTn (hD 1 lq))), hu_B5_6] at hst6
    simp only [ed 5 ((dTn (hD 0 lq)).1), hu_B5_6] at hfr
    clear hD hu_B5_6; subst hfr; clear σ β X
    exact hK _ _ _ ⟨_, rfl, rfl⟩ (hst6.pick [0] (by decide) rfl)
  · rintro rl pre xx W7 L7 a7 E7 ⟨SA, n, sc, hn, rfl⟩ hlen7 ⟨BV, rfl, rfl⟩ hst7r
    have hst7 : St W7 (fps ([eB B2_1 146 #[.slice SA n sc], eO 116 7 (.slice SA n sc) n (pre.flatMap ynC)] ++ [eB BV 116 #[vi xx.2.1, vi xx.1.lv, vi xx.1.right, .string xx.1.high, .bool xx.1.dead, .slice xx.2.2.1 xx.1.es.length xx.2.2.2, vi ((xx.1.free : Int))]])) [eB B2_1 146 #[.slice SA n sc], eO 116 7 (.slice SA n sc) n (pre.flatMap ynC), eB BV 116 #[vi xx.2.1, vi xx.1.lv, vi xx.1.right, .string xx.1.high, .bool xx.1.dead, .slice xx.2.2.1 xx.1.es.length xx.2.2.2, vi ((xx.1.free : Int))]] W7 := hst7r
    clear hst7r
    refine wpIn_block (wpIn_region_Y [0, 0, 2, 7, 15] [[0], [2], [], [3, 1], [0]] [[], [], [3], [4], [5]] [[], [], [], [1], [0]] [.c 8 (.slice SA n sc), .c 9 (.agg #[vi xx.2.1, vi xx.1.lv, vi xx.1.right, .string xx.1.high, .bool xx.1.dead, .slice xx.2.2.1 xx.1.es.length xx.2.2.2, vi ((xx.1.free : Int))]), .a 10, .a 11, .n] (fun ix σ β X => match ix with | 0 => True | 1 => True | 2 => σ 10 = .slice ((some ⟨(pb' (β 10)), 0, none⟩)) 1 1 ∧ X 3 = eO 116 7 (.slice ((some ⟨(pb' (β 10)), 0, none⟩)) 1 1) 1 (ynC xx) | 3 => σ 11 = .slice (sA (β 11)) (n + 1) (sC (β 11)) ∧ X 4 = eO 116 7 (.slice (sA (β 11)) (n + 1) (sC (β 11))) (n + 1) ((pre ++ [xx]).flatMap ynC) | 4 => X 5 = eB B2_1 146 #[.slice (sA (β 11)) (n + 1) (sC (β 11))] | _ => True) [2, 3, 4, 5] [0, 1, 2, 3, 4] [(8, 0, 4, 12)] hst7 ?_ ?_ ?_)
    · exact fun ix _ _ _ _ _ _ hs hb hx h => match ix, h with
      | 2, h => by dsimp only; rw [← hs 10 rfl, ← hb 10 rfl, ← hx 3 rfl]; exact h
      | 3, h => by dsimp only; rw [← hs 11 rfl, ← hb 11 rfl, ← hx 4 rfl]; exact h
      | 4, h => by dsimp only; rw [← hb 11 rfl, ← hx 5 rfl]; exact h
      | 0, _ | 1, _ | _ + 5, _ => trivial
    · refine ⟨?_, ?_, ?_, ?_, ?_, trivial⟩
      · exact xs4 rfl id fun cx => run_load1 rfl (by kernel_rfl) (cx.ou 2) ((cx.bi 0 rfl).cell 0)
      · exact xs4 rfl id fun cx => run_loadB (n := 7) rfl (by kernel_rfl) (by kernel_rfl) (cx.ou 5) (cx.bi 2 rfl) (nle rfl) rfl
      · refine svA fun ρ β W X cx => ?_
        have fF9 : ρ (.tmp 9) = .agg #[vi xx.2.1, vi xx.1.lv, vi xx.1.right, .string xx.1.high, .bool xx.1.dead, .slice xx.2.2.1 xx.1.es.length xx.2.2.2, vi ((xx.1.free : Int))] := (cx.an 1)
        exact dv_litN (e := 116) (sz := 7) (xs := [vi xx.2.1, vi xx.1.lv, vi xx.1.right, .string xx.1.high, .bool xx.1.dead, .slice xx.2.2.1 xx.1.es.length xx.2.2.2, vi ((xx.1.free : Int))]) rfl (by simp [go_sem, fF9]) rfl (by decide) rfl rfl (fun σ β' X' hs hb hv hx => ⟨hv, hx⟩)
      · refine svA fun ρ β W X cx => ?_
        obtain ⟨i0, hi0, hz0, hz1, hz2⟩ := info_parts Try.infoNd
        refine dv_appendN (n := n) (m := 1) (nm := n + 1) (sz := 7) (xs := pre.flatMap ynC) (news := ynC xx) (xs' := (pre ++ [xx]).flatMap ynC) rfl (ty := 146) rfl (by kernel_rfl) hi0 hz0 hz1 hz2 rfl (by decide) (cx.an 0) cx (cx.init 1 _ rfl) rfl (dTn (cx.an 2)).1 (by rfl) (At.of_ownN (cx.row (dTn (cx.an 2)).2 rfl)) (by simp [ynC, Value.oneCell']) (by simp only [maxLen]; omega) (by omega) rfl rfl rfl (by omega) (yn_snoc _ _) (fun σ β' X' hs hb hv hx => ?_)
        exact ⟨hv, hx⟩
      · refine svA fun ρ β W X cx => ?_
        exact dv_store (n := 1) rfl (cx.ou 2) (dTn (cx.an 3)).1 (by kernel_rfl) (by kernel_rfl) (by kernel_rfl) cx (cx.init 0 _ rfl) rfl (nle rfl) (by kernel_rfl) rfl rfl rfl (fun σ β' X' hs hb hx => by rw [hb 11]; exact hx)
    intro σ β X W8 hD hst8 fr hfr
    obtain ⟨B10_8, hu_B10_8⟩ : ∃ z, pb' (β 10) = z := ⟨_, rfl⟩
    obtain ⟨A11_8, hu_A11_8⟩ : ∃ z, sA (β 11) = z := ⟨_, rfl⟩
    obtain ⟨c11_8, hu_c11_8⟩ : ∃ z, sC (β 11) = z := ⟨_, rfl⟩
    simp only [exq 3 ((dTn (hD 2 lq)).2), exq 4 ((dTn (hD 3 lq)).2), exq 5 ((dTn (hD 4 lq))), hu_B10_8, hu_A11_8, hu_c11_8] at hst8
    simp only [ed 10 ((dTn (hD 2 lq)).1), ed 11 ((dTn (hD 3 lq)).1), hu_B10_8, hu_A11_8, hu_c11_8] at hfr
    clear hD hu_B10_8 hu_A11_8 hu_c11_8; subst hfr; clear σ β X
    refine blk_normal ?_
    exact ⟨rfl, _, ⟨A11_8, (n + 1), c11_8, by rw [hn, List.length_append]; rfl, rfl⟩, hst8.pick [3, 2] (by decide) rfl⟩
  · rintro D4 W4d L4 XS_ E_ ⟨SA, n, sc, hn, rfl⟩ hZ_ hst4d
    simp only [List.cons_append, List.nil_append] at hst4d
    refine blk_normal (then_normal (wp_seq (wp_region_Z [0, 1] [[0]] [.c 12 (.slice SA n sc), .k 4 (.slice SA n sc)] [0, 1, 2, 3] [0] [(4, 1, 1, 5), (7, 0, 1, 8)] hst4d ?_ fun W9 hst9 => ?_)))
    · refine ⟨?_, trivial⟩
      · exact xs4 rfl id fun cx => run_load1 rfl (by kernel_rfl) (cx.ou 2) ((cx.bi 0 rfl).cell 0)
    refine then_normal (wp_ret ?_)
    refine bpm_take (L := [eB B2_1 146 #[.slice SA n sc], eO 116 7 (.slice SA n sc) n (XS_.flatMap ynC), E_]) (hst9.pick [0, 1, 2, 3] (by decide) rfl) fun Wt10 ht10 => ?_
    refine ⟨.slice SA n sc, (results_1 Try.results98 rpt), ?_⟩
    exact co_done hZ_ (ht10.pick [1, 2] (by decide) rfl) hn
theorem seqF_ext {α : Type} {P : Program} {gf : Nat} {lb : Array Value} {encs : α → Array Value} {N : Nat} {Z : List α → Ent → Prop} {w w1 : World} (h : SeqF P gf lb encs N Z w) (hx : Ext w w1) : SeqF P gf lb encs N Z w1 := fun l J W C0 hW hloc hC hJ hY => h l J W C0 (hx.trans hW) hloc (fun k hk => ⟨Nat.le_trans hx.size (hC k hk).1, (hC k hk).2⟩) hJ hY
set_option maxRecDepth 100000 in
set_option maxHeartbeats 2000000 in
theorem kcol_any (b1 b2 b3 : Nat) (root : Int) (nd : NoD) (w : World) (hseq : SeqF Try.prog 99 #[.pointer (some ⟨b1, 0, none⟩), .pointer (some ⟨b2, 0, none⟩), .pointer (some ⟨b3, 0, none⟩)] ynE 1 (OneZ root nd) w) :
    Calls Try.prog 71 #[.func (.func 99) #[] #[.pointer (some ⟨b1, 0, none⟩), .pointer (some ⟨b2, 0, none⟩), .pointer (some ⟨b3, 0, none⟩)]] w (CoPost nd root w) := by
  go_enter Try.func71, Try.ntmps71
  have hst0 := St.start w
  refine wp_seq (sqr (sqp [.k 2 (.slice none 0 0)] ?_))
  refine then_normal (wp_seq (sqr (sqp [.m 3 0] ?_)))
  refine sqk2s (fun A4_3 c4_3 => .slice A4_3 1 c4_3) (fun A4_3 c4_3 r0_3 => eCo A4_3 nd root r0_3) hst0 (fun cx => ⟨_, (kapp_any b1 b2 b3 root nd _ (seqF_ext hseq cx.upd.to_ext)).mono (by rintro e W1 ⟨A4, c4, fp4, rfl, hs4⟩; exact ⟨_, _, _, rfl, hs4⟩), (map2 (cx.co _) (cx.ou 3))⟩) fun A4_3 c4_3 r0_3 W3 hst3 => ?_
  refine sqp [.m 2 4] ?_
  refine then_normal (wp_ret ?_)
  refine bpr (.slice A4_3 1 c4_3) (results_1 Try.results71 rpt) ?_
  exact ⟨_, _, _, rfl, hst3.pick [0] (by decide) rfl⟩
def pcp (i : Nat) : Value → Nat
  | .func _ _ cs => pb (cs.getD i undef)
  | _ => 0
def RowPost (tt : TypeId) (tv : Value) (root lv : Int) (w : World) (e : Ending) (w' : World) : Prop := ∃ b1 b2 b3, e = .returned (.func (.func 99) #[] #[.pointer (some ⟨b1, 0, none⟩), .pointer (some ⟨b2, 0, none⟩), .pointer (some ⟨b3, 0, none⟩)]) ∧ St w [] [eB b1 113 #[.iface tt tv], eB b2 3 #[.int .i64 root], eB b3 3 #[.int .i64 lv]] w'
set_option maxRecDepth 100000 in
set_option maxHeartbeats 2000000 in
theorem krowc_any (tt : TypeId) (tv : Value) (root lv : Int) (w : World) :
    Calls Try.prog 72 #[.iface tt (tv), .int .i64 root, .int .i64 lv] w (RowPost tt tv root lv w) := by
  go_enter Try.func72, Try.ntmps72
  have hst0 := St.start w
  refine wp_seq (sqr ?_)
  refine sqbx #[.iface tt (tv)] hst0 fun B3_1 W1 hst1 => ?_
  refine sqbx #[vi root] hst1 fun B4_2 W2 hst2 => ?_
  refine sqbx #[vi lv] hst2 fun B5_3 W3 hst3 => ?_
  refine sqp [.k 6 (Go.Value.nilFunc)] ?_
  refine then_normal (wp_seq (sqr ?_))
  refine sqv (.func (.func 99) #[] #[vp B3_1, vp B4_2, vp B5_3]) hst3 (by
      exact sv0 rfl rfl rfl rfl rfl (fun _ _ _ h => h) fun ρ β W X cx => by
        have fF3 : ρ (.tmp 3) = vp B3_1 := (cx.ou 3)
        have fF4 : ρ (.tmp 4) = vp B4_2 := (cx.ou 4)
        have fF5 : ρ (.tmp 5) = vp B5_3 := (cx.ou 5)
        simp [go_sem, Instr.makeFunc, fF3, fF4, fF5]) fun W5 hst5 => ?_
  refine sqp [.m 6 7] ?_
  refine then_normal (wp_ret ?_)
  refine bpr (.func (.func 99) #[] #[vp B3_1, vp B4_2, vp B5_3]) (results_1 Try.results72 rpt) ?_
  exact ⟨_, _, _, rfl, hst5.pick [0, 1, 2] (by decide) rfl⟩
set_option maxRecDepth 100000 in
set_option maxHeartbeats 2000000 in
theorem ksorted_1 (pg fr : Int) (EA : Option Addr) (ec n : Nat) (es : List EnD) (w : World) (hE : At w EA (es.flatMap enC)) (hn : es.length = n) (hn1 : n ≤ 1) :
    Calls Try.prog 100 #[.agg #[.int .i64 pg, .int .i64 0, .int .i64 (-1), .string ((⟨#[]⟩ : ByteArray)), .bool false, .slice EA n ec, .int .i64 fr], .string ((⟨#[]⟩ : ByteArray))] w (Ret (.bool true) w) := by
  go_enter Try.func100, Try.ntmps100
  have hst0 := St.start w
  refine wp_seq (sqr ?_)
  refine sqbx #[vi pg, vi 0, vi (-1), .string ((⟨#[]⟩ : ByteArray)), .bool false, .slice EA n ec, vi fr] hst0 fun B2_1 W1 hst1 => ?_
  refine sqp [.k 4 (.bool false)] ?_
  refine then_normal (wp_seq (wp_seq (sqr (sqp [.k 7 (.pointer (some ⟨B2_1, 5, none⟩))] ?_))))
  refine sqld 0 hst1 ?_
  refine sqp [.k 9 (vi ((n : Int))), .k 10 (vi 0)] ?_
  refine then_normal (wp_block ?_)
  refine wp_loopT (fun t_ mz az W => ∃ i : Nat, i ≤ n ∧ mz = n - i ∧ az = ⟨(ovr (jv az) [(4, 4, 3, []), (3, 10, 0, [vi ((i : Int))]), (0, 11, 42, [])] t_).toArray, []⟩ ∧ St w [] [eB B2_1 116 #[vi pg, vi 0, vi (-1), .string ((⟨#[]⟩ : ByteArray)), .bool false, .slice EA n ec, vi fr]] W) (n - 0) ?_ ?_
  · -- the loop begins
    exact ⟨0, Nat.zero_le _, rfl, (by kernel_rfl), hst1.pk [0]⟩
  rintro n7 a7 W7 ⟨i, hi, rfl, hj_, hst7⟩
  refine ovz hj_ fun u7_ => ?_
  refine wp_seq (sqr (sqp [.k 11 (.bool (decide ((i : Int) < (n : Int))))] ?_))
  refine then_normal (wp_seq (wds (fun hs9 hs9p => ?_) fun hs9 hs9p => ?_))
  · refine wp_skip (then_normal (wp_seq (wp_block (wp_seq (sqr (sqp [.m 12 10] ?_))))))
    refine sql (.pointer (some ((ad EA).add (i * 3)))) hst7 (fun cx => run_indexSlM (e := 104) (m := i) (sz := 3) rfl (by kernel_rfl) (by kernel_rfl) (cx.ou 8) (cx.ou 10) (by omega) (by omega) (hE.ext cx.upd.to_ext) (flatPos (sz := 3) enC_len (by decide) (by omega))) ?_
    refine sql (.agg #[.string ((es.getD i en0).1), vi (((es.getD i en0).2.1 : Int)), vi ((es.getD i en0).2.2)]) hst7 (fun cx => run_loadElt (f := enC) (m := i) (sz := 3) (off := 0) (n := 3) rfl (by kernel_rfl) (by kernel_rfl) (cx.ou 13) rfl enC_len (hE.ext cx.upd.to_ext) (en_get (by omega)) (fun k hk => match k, hk with | 0, _ => rfl | 1, _ => rfl | 2, _ => rfl | k + 3, hk => absurd hk (by omega))) ?_
    refine sqal #[.string ByteArray.empty, vi 0, vi 0] hst7 fun B6_13 W13 hst13 => ?_
    refine sqp [.m 5 12] ?_
    refine sqst (n := 3) 1 #[.string ((es.getD i en0).1), vi (((es.getD i en0).2.1 : Int)), vi ((es.getD i en0).2.2)] hst13 fun W15 hst15 => ?_
    refine then_normal (wp_seq ?_)
    have hd17 : (!(((⟨#[]⟩ : ByteArray)).toList == ((⟨#[]⟩ : ByteArray)).toList)) = false := (by rw [beq_self_eq_true]; rfl)
    have hd18 : (decide (0 < (i : Int))) = false := (decide_eq_false (by omega))
    refine wp_region_Z [0, 1, 3, 7, 15, 7, 63, 127, 255, 511, 1023, 2047, 4095, 8191, 16383, 8191, 40959, 131071, 262143, 524287, 1048575, 2097151, 4194303, 8388607, 16777215, 33554431, 67108863, 33554431, 167772159, 33554431, 570425343, 2046820351, 4194303999, 8489271295, 17179869183, 34359738367, 68719476735] [[], [], [], [], [], [], [], [], [], [], [0]] [.k 15 (.string ((⟨#[]⟩ : ByteArray))), .e 16 (.bool (!(((⟨#[]⟩ : ByteArray)).toList == ((⟨#[]⟩ : ByteArray)).toList))) (.bool false) (congrArg Value.bool hd17), .k 17 (.bool false), .u 18, .u 19, .u 20, .u 21, .k 22 (.bool false), .k 23 (.bool false), .k 24 (.pointer (some ⟨B2_1, 3, none⟩)), .c 25 (.string ((⟨#[]⟩ : ByteArray))), .e 26 (.bool (!(((⟨#[]⟩ : ByteArray)).toList == ((⟨#[]⟩ : ByteArray)).toList))) (.bool false) (congrArg Value.bool hd17), .k 27 (.bool false), .u 28, .u 29, .u 30, .u 31, .u 32, .u 33, .k 34 (.bool false), .k 35 (.bool false), .k 36 (.bool false), .k 37 (vi ((i : Int))), .e 38 (.bool (decide (0 < (i : Int)))) (.bool false) (congrArg Value.bool hd18), .k 39 (.bool false), .u 40, .u 41, .u 42, .u 43, .u 44, .u 45, .u 46, .u 47, .u 48, .u 49, .k 50 (.bool false), .k 51 (.bool false)] [0, 1] [10] [(15, 0, 37, 52)] hst15 ?_ fun W16 hst16 => ?_
    · refine ⟨?_, trivial⟩
      · exact xs5 rfl id (fun cx => (cx.an 8)) fun cx => run_load1 rfl (by kernel_rfl) (cx.an 9) ((cx.bi 0 rfl).cell 3)
    refine then_normal (wcf rfl (wp_skip (blk_normal (then_normal (sqr (sqp [sI 52 ((i : Int) + 1) (by omega), .m 10 52] ?_))))))
    refine then_normal ?_
    refine ⟨n - ((i + 1)), by omega, ?_⟩
    exact ⟨(i + 1), by omega, rfl, (by kernel_rfl), hst16.pk [0]⟩
  refine wp_exit (then_exit (then_exit (blk_eq (then_normal (wp_seq (sqr (sqp [.k 4 (.bool true)] ?_)))))))
  refine then_normal (wp_ret ?_)
  refine bpr (.bool true) (results_1 Try.results100 rpt) ?_
  exact Ret.of rfl hst7.ext
def ny1 (pg fr : Int) (EA : Option Addr) (ec n : Nat) (u : Unit) : List Value := [.int .i64 pg, .int .i64 0, .int .i64 (-1), .string ((⟨#[]⟩ : ByteArray)), .bool false, .slice EA n ec, .int .i64 fr]
set_option maxRecDepth 100000 in
set_option maxHeartbeats 2000000 in
theorem kright_1 (pg fr : Int) (EA SA : Option Addr) (ec sc n : Nat) (es : List EnD) (w : World) (hE : At w EA (es.flatMap enC)) (hn : es.length = n) (hn1 : n ≤ 1) (hN : At w SA ([()].flatMap (ny1 pg fr EA ec n))) :
    Calls Try.prog 73 #[.slice SA 1 sc, .slice none 0 0] w (Ret (.bool true) w) := by
  go_enter Try.func73, Try.ntmps73
  have hst0 := St.start w
  refine wp_seq (sqr (sqp [.k 4 (.bool false)] ?_))
  refine then_normal (wp_seq (sqr (sqp [.k 5 (.string ⟨#[]⟩)] ?_)))
  refine then_normal (wp_seq (wp_seq (sqr (sqp [.m 9 0, .k 10 (vi 1), .k 11 (vi 0)] ?_))))
  refine then_normal (wp_block ?_)
  refine wp_loopT (fun t_ mz az W => ∃ i : Nat, i ≤ 1 ∧ mz = 1 - i ∧ az = ⟨(ovr (jv az) [(4, 4, 1, [.string ((⟨#[]⟩ : ByteArray))]), (0, 6, 3, []), (2, 11, 0, [vi ((i : Int))]), (0, 12, 73, [])] t_).toArray, []⟩ ∧ St w [] [] W) (1 - 0) ?_ ?_
  · -- the loop begins
    exact ⟨0, Nat.zero_le _, rfl, (by kernel_rfl), hst0.pk []⟩
  rintro n6 a6 W6 ⟨i, hi, rfl, hj_, hst6⟩
  refine ovz hj_ fun u6_ => ?_
  refine wp_seq (sqr (sqp [.k 12 (.bool (decide ((i : Int) < 1)))] ?_))
  refine then_normal (wp_seq (wds (fun hs8 hs8p => ?_) fun hs8 hs8p => ?_))
  · refine wp_skip (then_normal (wp_seq (wp_block (wp_seq ?_))))
    obtain rfl : i = 0 := by omega
    refine sqr (sqp [.m 13 11] ?_)
    refine sql (.pointer (some ((ad SA).add (0 * 7)))) hst6 (fun cx => run_indexSlM (e := 116) (m := 0) (sz := 7) rfl (by kernel_rfl) (by kernel_rfl) (cx.ou 9) (cx.ou 11) (by omega) (by omega) (hN.ext cx.upd.to_ext) (flatPos (sz := 7) (fun _ => rfl) (by decide) (by first | omega | decide))) ?_
    refine sql (.agg #[vi pg, vi 0, vi (-1), .string ((⟨#[]⟩ : ByteArray)), .bool false, .slice EA n ec, vi fr]) hst6 (fun cx => run_loadElt (f := (ny1 pg fr EA ec n)) (m := 0) (sz := 7) (off := 0) (n := 7) rfl (by kernel_rfl) (by kernel_rfl) (cx.ou 14) rfl (fun _ => rfl) (hN.ext cx.upd.to_ext) rfl (fun k hk => match k, hk with | 0, _ => rfl | 1, _ => rfl | 2, _ => rfl | 3, _ => rfl | 4, _ => rfl | 5, _ => rfl | 6, _ => rfl | k + 7, hk => absurd hk (by omega))) ?_
    refine sqal #[vi 0, vi 0, vi 0, .string ByteArray.empty, .bool false, .slice none 0 0, vi 0] hst6 fun B7_12 W12 hst12 => ?_
    refine sqp [.m 6 13] ?_
    refine sqst (n := 7) 0 #[vi pg, vi 0, vi (-1), .string ((⟨#[]⟩ : ByteArray)), .bool false, .slice EA n ec, vi fr] hst12 fun W14 hst14 => ?_
    refine then_normal (wp_seq (sqr ?_))
    have hd20 : ((0 : Int) == 0) = true := rfl
    refine sqp [.m 16 6, .m 17 0, .k 18 (vi 1), .k 19 (vi 0), .e 20 (.bool ((0 : Int) == 0)) (.bool true) (congrArg Value.bool hd20), .k 8 (.bool true)] ?_
    refine then_normal (wp_seq (wp_block (wp_seq (wp_seq (sqr (sqp [.k 22 (.pointer (some ⟨B7_12, 4, none⟩))] ?_))))))
    refine sqld 0 hst14 ?_
    refine sqp [.k 21 (.bool false)] ?_
    refine then_normal (wcf rfl (wp_seq (sqr (sqp [.k 24 (.pointer (some ⟨B7_12, 5, none⟩))] ?_))))
    refine sqld 0 hst14 ?_
    have hd29 : (decide (8 < (n : Int))) = false := (decide_eq_false (by omega))
    refine sqp [.k 26 (vi ((n : Int))), .e 27 (.bool (decide (8 < (n : Int)))) (.bool false) (congrArg Value.bool hd29), .k 21 (.bool false)] ?_
    refine then_normal (wcf rfl (wp_seq (sqr (sqp [.k 28 (.bool true), .k 29 (.pointer (some ⟨B7_12, 3, none⟩))] ?_))))
    refine sqld 0 hst14 ?_
    have hd35 : (((⟨#[]⟩ : ByteArray)).toList == ((⟨#[]⟩ : ByteArray)).toList) = true := beq_self_eq_true _
    have hd37 : (!(true == true)) = false := rfl
    refine sqp [.e 31 (.bool (((⟨#[]⟩ : ByteArray)).toList == ((⟨#[]⟩ : ByteArray)).toList)) (.bool true) (congrArg Value.bool hd35)] ?_
    refine sqv (.bool false) hst14 (by
        exact sv0 rfl rfl rfl rfl rfl (fun _ _ _ h => h.trans (congrArg Value.bool hd37)) fun ρ β W X cx => by
          have fF28 : ρ (.tmp 28) = .bool true := (cx.ou 28)
          have fF31 : ρ (.tmp 31) = .bool true := (cx.ou 31)
          simp [go_sem, fF28, fF31]) fun W36 hst36 => ?_
    refine sqp [.k 21 (.bool false)] ?_
    refine then_normal (wcf rfl (wp_seq (sqr (sqp [.k 33 (.bool true), .k 34 (.pointer (some ⟨B7_12, 2, none⟩))] ?_))))
    refine sqld 0 hst36 ?_
    refine sqp [.k 36 (.bool true)] ?_
    refine sqv (.bool false) hst36 (by
        exact sv0 rfl rfl rfl rfl rfl (fun _ _ _ h => h.trans (congrArg Value.bool hd37)) fun ρ β W X cx => by
          have fF33 : ρ (.tmp 33) = .bool true := (cx.ou 33)
          have fF36 : ρ (.tmp 36) = .bool true := (cx.ou 36)
          simp [go_sem, fF33, fF36]) fun W43 hst43 => ?_
    refine sqp [.k 21 (.bool false)] ?_
    refine then_normal (wcf rfl (sqr ?_))
    refine sqlb 0 7 hst43 ?_
    refine sqp [.m 39 5] ?_
    refine sqk (.bool true) hst43 (fun cx => ⟨_, ksorted_1 pg fr EA ec n es _ (hE.ext cx.upd.to_ext) hn hn1, (map2 (cx.ou 38) (cx.ou 39))⟩) fun W47 hst47 => ?_
    refine sqp [.k 41 (.bool false), .k 21 (.bool false)] ?_
    refine then_normal (wcf rfl (wp_seq (wp_region_Z [0, 1, 3, 7, 15, 15, 63, 127, 255, 511, 1023, 2047, 4095, 8191, 16383, 32767, 65535, 4095, 135167, 397311, 921599, 2097151, 4194303, 8388607, 16777215, 33554431] [[], [0]] [.k 43 (.pointer (some ⟨B7_12, 1, none⟩)), .c 44 (vi 0), .k 45 (.bool false), .k 46 (.bool false), .u 47, .u 48, .u 49, .u 50, .u 51, .u 52, .u 53, .u 54, .u 55, .u 56, .u 57, .u 58, .u 59, .u 60, .u 61, .u 62, .u 63, .u 64, .u 65, .u 66, .k 67 (.bool false), .k 42 (.bool false)] [0] [1] [(42, 25, 1, 43), (0, 0, 25, 25)] hst47 ?_ fun W50 hst50 => ?_)))
    · refine ⟨?_, trivial⟩
      · exact xs4 rfl id fun cx => run_load1 rfl (by kernel_rfl) (cx.an 0) ((cx.bi 0 rfl).cell 1)
    refine then_normal (wcf rfl (wp_seq (sqr (sqp [.m 69 5, .e 70 (.bool (!(((⟨#[]⟩ : ByteArray)).toList == ((⟨#[]⟩ : ByteArray)).toList))) (.bool false) (congrArg Value.bool (by rw [hd35]; rfl)), .k 71 (.bool false)] ?_))))
    refine sqgn 71 [72, 73, 74] rfl rfl ?_
    refine sqp [.k 75 (.bool false), .k 76 (.bool false)] ?_
    refine sqgn 76 [77, 78, 79, 80] rfl rfl ?_
    refine sqp [.k 81 (.bool false), .k 68 (.bool false)] ?_
    refine then_normal (wcf rfl (wp_skip (blk_normal (then_normal (sqr (sqp [.k 82 (.pointer (some ⟨B7_12, 3, none⟩))] ?_))))))
    refine sqld 0 hst50 ?_
    refine sqp [.m 5 83] ?_
    refine blk_normal (then_normal (sqr (sqp [sI 84 ((0 : Int) + 1) (by omega), .m 11 84] ?_)))
    refine then_normal ?_
    refine ⟨1 - 1, by omega, ?_⟩
    exact ⟨1, by omega, rfl, (by kernel_rfl), hst50.pk []⟩
  refine wp_exit (then_exit (then_exit (blk_eq (then_normal (wp_seq (sqr (sqp [.m 85 0, .k 86 (vi 1), .k 87 (.bool true), .k 88 (.bool true)] ?_)))))))
  refine sqgy 88 [89, 90, 91] rfl rfl ?_
  refine sqp [.m 89 0, .k 90 (vi 1), .k 91 (.bool true)] ?_
  refine sqp [.k 92 (.bool true), .k 4 (.bool true)] ?_
  refine then_normal (wp_ret ?_)
  refine bpr (.bool true) (results_1 Try.results73 rpt) ?_
  exact Ret.of rfl hst6.ext
/-- a root without a high key or a right neighbour, at most one entry -/
def Node1 (nd : NoD) : Prop := nd.lv = 0 ∧ nd.right = -1 ∧ nd.high = ⟨#[]⟩ ∧ nd.dead = false ∧ nd.es.length ≤ 1
theorem kright_co {SA : Option Addr} {sc : Nat} {nd : NoD} {pg : Int} {fp : List Nat} {w : World} (h : (eCo SA nd pg fp).holds w) (h1 : Node1 nd) : Calls Try.prog 73 #[.slice SA 1 sc, .slice none 0 0] w (Ret (.bool true) w) := by
  obtain ⟨EA, ec, _, _, hS, hE⟩ := h
  obtain ⟨lv, rt, hg, dd, es, fr⟩ := nd
  obtain ⟨rfl, rfl, rfl, rfl, h5⟩ := h1
  exact kright_1 pg fr EA SA ec sc _ es w hE rfl h5 hS
theorem ndAt_neg (ps : List PgS) : ndAt ps (-1) = none := by rw [ndAt, if_neg (by omega)]
set_option maxRecDepth 100000 in
set_option maxHeartbeats 2000000 in
theorem kcheck_1 (tt : TypeId) (tv : Value) (root : Int) (ps : List PgS) (nd : NoD) (w : World) (hS : PgsOk w tt tv ps) (hok : OkS ps) (hoc : OkC ps) (hnd : ndAt ps root = some nd) (h1 : Node1 nd) :
    Calls Try.prog 37 #[.iface tt (tv), .int .i64 root] w (Ret (.int .i64 0) w) := by
  have hlv0 : nd.lv = 0 := h1.1
  go_enter Try.func37, Try.ntmps37
  have hst0 := St.start w
  refine wp_seq (sqr (sqp [.k 4 (vi 0)] ?_))
  refine then_normal (wp_seq (sqr (sqp [.m 11 0, .m 12 1] ?_)))
  refine sqk2 (fun EA13_4 ec13_4 => .tuple #[.agg #[vi root, vi nd.lv, vi nd.right, .string nd.high, .bool nd.dead, .slice EA13_4 nd.es.length ec13_4, vi ((nd.free : Int))], .bool true]) (fun EA13_4 ec13_4 => eO 104 3 (.slice EA13_4 nd.es.length ec13_4) nd.es.length (nd.es.flatMap enC)) hst0 (fun cx => ⟨_, (kd_yes hnd (kat_any _ _ ps root _ (hS.ext cx.upd.to_ext) hok hoc)).mono (by rintro e W1 ⟨EA4, ec4, rfl, hs4⟩; exact ⟨_, _, rfl, hs4⟩), (map2 (cx.ou 11) (cx.ou 12))⟩) fun EA13_4 ec13_4 W4 hst4 => ?_
  refine sqp [.m 10 13, .k 14 (.agg #[vi root, vi nd.lv, vi nd.right, .string nd.high, .bool nd.dead, .slice EA13_4 nd.es.length ec13_4, vi ((nd.free : Int))]), .k 15 (.bool true)] ?_
  refine sqal #[vi 0, vi 0, vi 0, .string ByteArray.empty, .bool false, .slice none 0 0, vi 0] hst4 fun B5_8 W8 hst8 => ?_
  refine sqst (n := 7) 1 #[vi root, vi nd.lv, vi nd.right, .string nd.high, .bool nd.dead, .slice EA13_4 nd.es.length ec13_4, vi ((nd.free : Int))] hst8 fun W9 hst9 => ?_
  refine sqp [.k 6 (.bool true)] ?_
  refine then_normal (wp_seq (wp_seq (sqr (sqp [.k 16 (.bool true), .k 17 (.bool false)] ?_))))
  refine then_normal (wcf rfl (wp_skip (then_normal (wp_seq (sqr (sqp [.k 7 (.slice none 0 0)] ?_))))))
  refine then_normal (wp_seq (wp_seq (sqr (sqp [.k 18 (.pointer (some ⟨B5_8, 1, none⟩))] ?_))))
  refine sqld 1 hst9 ?_
  refine sqp [sI 20 (nd.lv + 1) (by omega), .k 21 (vi 0)] ?_
  refine then_normal (wp_block ?_)
  obtain ⟨z18_, hN_z18_⟩ : ∃ z, nd.lv + 1 = z := ⟨_, rfl⟩
  rw [hN_z18_]
  obtain rfl : z18_ = (1 : Int) := by have := h1.1; omega
  refine wp_loopT (fun t_ mz az W => ∃ k : Nat, ∃ BA : Option Addr, ∃ bn : Nat, ∃ bc : Nat, k ≤ 1 ∧ (k = 0 → BA = none ∧ bn = 0 ∧ bc = 0) ∧ mz = 1 - k ∧ az = ⟨(ovr (jv az) [(4, 4, 1, []), (2, 7, 0, [.slice BA bn bc]), (0, 8, 2, []), (11, 21, 0, [vi ((k : Int))]), (0, 22, 33, [])] t_).toArray, []⟩ ∧ St w [] [eB B5_8 116 #[vi root, vi nd.lv, vi nd.right, .string nd.high, .bool nd.dead, .slice EA13_4 nd.es.length ec13_4, vi ((nd.free : Int))]] W) (1 - 0) ?_ ?_
  · -- the loop begins
    exact ⟨0, none, 0, 0, Nat.zero_le _, (fun _ => ⟨rfl, rfl, rfl⟩), rfl, (by kernel_rfl), hst9.pk [1]⟩
  rintro n19 a19 W19 ⟨k, BA, bn, bc, hk, hb, rfl, hj_, hst19⟩
  refine ovz hj_ fun u19_ => ?_
  refine wp_seq (sqr (sqp [.k 22 (.bool (decide ((k : Int) < (1 : Int))))] ?_))
  refine then_normal (wp_seq (wds (fun hs21 hs21p => ?_) fun hs21 hs21p => ?_))
  · refine wp_skip (then_normal (wp_seq (wp_block (wp_seq ?_))))
    obtain rfl : k = 0 := by omega
    obtain ⟨rfl, rfl, rfl⟩ := hb rfl
    refine sqr (sqp [.m 23 21, .m 8 23] ?_)
    refine then_normal (wp_seq (wp_region_Y [0, 0, 0, 7, 15, 31] [[], [], [], [], [1, 2, 3]] [[], [], [], [1, 2, 3], [4]] [] [.k 24 (.iface tt (tv)), .k 25 (vi root), .k 26 (vi ((0 : Int))), .a 27, .a 28, .a 9] (fun ix σ β X => match ix with | 0 => True | 1 => True | 2 => True | 3 => σ 27 = .func (.func 99) #[] #[vp (pcp 0 (β 27)), vp (pcp 1 (β 27)), vp (pcp 2 (β 27))] ∧ X 1 = eB (pcp 0 (β 27)) 113 #[.iface tt (tv)] ∧ X 2 = eB (pcp 1 (β 27)) 3 #[vi root] ∧ X 3 = eB (pcp 2 (β 27)) 3 #[vi ((0 : Int))] | 4 => σ 28 = .slice (sA (β 28)) 1 (sC (β 28)) ∧ X 4 = eCo (sA (β 28)) nd root ((X 4).fp) | 5 => σ 9 = .slice (sA (β 28)) 1 (sC (β 28)) | _ => True) [0, 1, 2, 3, 4] [3, 4, 5] [(9, 5, 1, 10), (14, 0, 5, 19)] hst19 ?_ ?_ ?_))
    · exact fun ix _ _ _ _ _ _ hs hb hx h => match ix, h with
      | 3, h => by dsimp only; rw [← hs 27 rfl, ← hb 27 rfl, ← hx 1 rfl, ← hx 2 rfl, ← hx 3 rfl]; exact h
      | 4, h => by dsimp only; rw [← hs 28 rfl, ← hb 28 rfl, ← hx 4 rfl]; exact h
      | 5, h => by dsimp only; rw [← hs 9 rfl, ← hb 28 rfl]; exact h
      | 0, _ | 1, _ | 2, _ | _ + 6, _ => trivial
    · refine ⟨?_, ?_, ?_, trivial⟩
      · refine svA fun ρ β W X cx => ?_
        refine DoesU.call (run_callF (args := #[.iface tt (tv), vi root, vi ((0 : Int))]) rfl cx.sees rfl (by kernel_rfl) (map3 (cx.an 0) (cx.an 1) (cx.an 2))) ?_
        refine (krowc_any tt tv root (0 : Int) _).mono ?_
        rintro e W1 ⟨B4, B5, B6, rfl, hs4⟩
        refine ⟨_, rfl, post_st [eB B4 113 #[.iface tt (tv)], eB B5 3 #[vi root], eB B6 3 #[vi ((0 : Int))]] rfl rfl hs4 (fun σ β' X' hs hb hv hN => ?_)⟩
        have hv1 := (hv 27 rfl).1; have hv2 := (hv 27 rfl).2
        exact ⟨hv1.trans (by rw [hv2]; rfl), (by rw [hv2]; exact (List.cons.inj hN).1), (by rw [hv2]; exact (List.cons.inj (List.cons.inj hN).2).1), (by rw [hv2]; exact (List.cons.inj (List.cons.inj (List.cons.inj hN).2).2).1)⟩
      · refine svA fun ρ β W X cx => ?_
        refine DoesU.call (run_callF (args := #[.func (.func 99) #[] #[vp (pcp 0 (β 27)), vp (pcp 1 (β 27)), vp (pcp 2 (β 27))]]) rfl cx.sees rfl (by kernel_rfl) (map1 (dTn (cx.an 3)).1)) ?_
        refine (kcol_any _ _ _ root nd _ (krow_seq (cx.blk (dTn (cx.an 3)).2.1 rfl) (cx.blk (dTn (cx.an 3)).2.2.1 rfl) (cx.blk (dTn (cx.an 3)).2.2.2 rfl) (hS.ext cx.upd.to_ext) hok hoc hnd h1.1 (by rw [h1.2.1]; exact ndAt_neg ps))).mono ?_
        rintro e W1 ⟨A4, c4, fp4, rfl, hs4⟩
        refine ⟨_, rfl, post_st [eCo A4 nd root fp4] rfl rfl hs4 (fun σ β' X' hs hb hv hN => ?_)⟩
        have hv1 := (hv 28 rfl).1; have hv2 := (hv 28 rfl).2
        exact ⟨hv1.trans (by rw [hv2]; rfl), (by rw [hv2]; exact eCo_self ((List.cons.inj hN).1))⟩
      · exact sv rfl rfl rfl rfl rfl _ (fun _ _ _ h => h) (fun β β' h => by rw [h 28 (by decide)]) fun ρ β W X cx => run_assign' rfl (dTn (cx.an 4)).1
    intro σ β X W24 hD hst24 fr hfr
    obtain ⟨B27a_24, hu_B27a_24⟩ : ∃ z, pcp 0 (β 27) = z := ⟨_, rfl⟩
    obtain ⟨B27b_24, hu_B27b_24⟩ : ∃ z, pcp 1 (β 27) = z := ⟨_, rfl⟩
    obtain ⟨B27c_24, hu_B27c_24⟩ : ∃ z, pcp 2 (β 27) = z := ⟨_, rfl⟩
    obtain ⟨A28_24, hu_A28_24⟩ : ∃ z, sA (β 28) = z := ⟨_, rfl⟩
    obtain ⟨c28_24, hu_c28_24⟩ : ∃ z, sC (β 28) = z := ⟨_, rfl⟩
    have xX4 : X 4 = _ := (dTn (hD 4 lq)).2
    obtain ⟨r4_24, hu_r4_24⟩ : ∃ z, (X 4).fp = z := ⟨_, rfl⟩
    rw [hu_r4_24] at xX4
    clear hu_r4_24
    simp only [exq 1 ((dTn (hD 3 lq)).2.1), exq 2 ((dTn (hD 3 lq)).2.2.1), exq 3 ((dTn (hD 3 lq)).2.2.2), xX4, hu_B27a_24, hu_B27b_24, hu_B27c_24, hu_A28_24, hu_c28_24] at hst24
    simp only [ed 27 ((dTn (hD 3 lq)).1), ed 28 ((dTn (hD 4 lq)).1), ed 9 ((dTn (hD 5 lq))), hu_B27a_24, hu_B27b_24, hu_B27c_24, hu_A28_24, hu_c28_24] at hfr
    clear hD xX4 hu_B27a_24 hu_B27b_24 hu_B27c_24 hu_A28_24 hu_c28_24; subst hfr; clear σ β X
    refine then_normal (wp_seq (wp_seq (sqr (sqp [.m 29 8, .k 30 (.pointer (some ⟨B5_8, 1, none⟩))] ?_))))
    refine sqld 0 hst24 ?_
    have hd29 : ((0 : Int) == nd.lv) = true := (by rw [h1.1]; rfl)
    refine sqp [.e 32 (.bool ((0 : Int) == nd.lv)) (.bool true) (congrArg Value.bool hd29), .k 33 (.bool true)] ?_
    refine sqgy 33 [34, 35, 36] rfl rfl ?_
    refine sqp [.m 34 9, .k 35 (vi 1), .k 36 (.bool false)] ?_
    refine sqp [.k 37 (.bool false), .k 38 (.bool false)] ?_
    refine sqgy 38 [39, 40, 41, 42, 43, 44, 45] rfl rfl ?_
    have hd38 : (decide (0 < (0 : Int))) = false := rfl
    refine sqp [.m 39 8, .e 40 (.bool (decide (0 < (0 : Int)))) (.bool false) (congrArg Value.bool hd38), .k 41 (.bool false)] ?_
    refine sqgn 41 [42, 43, 44] rfl rfl ?_
    refine sqp [.k 45 (.bool false)] ?_
    refine sqp [.k 46 (.bool false), .k 47 (.bool false)] ?_
    refine sqgy 47 [48, 49, 50, 51] rfl rfl ?_
    refine sqp [.m 48 9, .m 49 7] ?_
    refine sqk (.bool true) hst24 (fun cx => ⟨_, kright_co (CtxV.holdF cx (cx.init 4 _ rfl) rfl) h1, (map2 (cx.ou 48) (cx.ou 49))⟩) fun W45 hst45 => ?_
    refine sqp [.k 51 (.bool false)] ?_
    refine sqp [.k 52 (.bool false)] ?_
    refine then_normal (wcf rfl (wp_skip (then_normal (sqr (sqp [.m 53 9, .m 7 53] ?_)))))
    refine blk_normal (then_normal (sqr (sqp [sI 54 ((0 : Int) + 1) (by omega), .m 21 54] ?_)))
    refine then_normal ?_
    refine ⟨1 - 1, by omega, ?_⟩
    exact ⟨1, A28_24, 1, c28_24, by omega, (fun h => absurd h (by decide)), rfl, (by kernel_rfl), hst45.pk [0]⟩
  refine wp_exit (then_exit (then_exit (blk_eq (then_normal (wp_seq (sqr (sqp [.k 4 (vi 0)] ?_)))))))
  refine then_normal (wp_ret ?_)
  refine bpr (vi 0) (results_1 Try.results37 rpt) ?_
  exact Ret.of rfl hst19.ext
end
end Go.Proofs.Ytjlcoglmjldjbaa
namespace Go.Proofs.Ytjlcoglmjldjbaa
section
open Go.RowKit
set_option linter.unusedVariables false
set_option linter.unusedSimpArgs false
theorem book_ok {b : Nat} {ps : List PgS} {w : World} (h : BkAt w b ps) (hl : ps.length ≤ 1000) : PgsOk w 24 (.pointer (some ⟨b, 0, none⟩)) ps :=
  ⟨⟨58, _, fun W => by kernel_rfl, by kernel_rfl, fun x => rpage_any b ps x w h hl⟩⟩
theorem kstep_pk {b bk : Nat} {ps : List PgS} {p : PuT} {fresh : Int} {fp : List Nat} {w : World} (h : (ePk b p fp).holds w) (hB : BkU fp w bk ps) (hne : p.left ≠ []) (hok : OkS ps) (hoc : OkC ps) (h10 : p.left.length ≤ 10000) (hte : ∀ t ∈ p.left, t.1.size ≤ 900000 ∧ 0 ≤ t.2.1 ∧ t.2.1 ≤ 90000) (h8 : ∀ nd, ndAt ps p.pos = some nd → nd.es.length < 8) :
    Calls Try.prog 16 #[.pointer (some ⟨b, 0, none⟩), .iface 24 (.pointer (some ⟨bk, 0, none⟩)), .int .i64 fresh] w (KtPost b (stepF ps p fresh) fp w) := by
  obtain ⟨A, c, g, hfp, hbg, hc, hAg, hlt, hb, hA⟩ := h
  obtain ⟨root, pos, leaf, left, fro, to, spl⟩ := p
  cases left with
  | nil => exact absurd rfl hne
  | cons t lf =>
    obtain ⟨te, tl, tk⟩ := t
    obtain ⟨la, rfl, _, _⟩ := hA 0 (.string te) rfl
    have hg := hAg la rfl (by simp)
    have ht := hte (te, tl, tk) (by simp)
    obtain ⟨LA, lcc, Ps, h1, h2⟩ := hB
    refine kstep_s b _ _ root pos leaf fro to spl la _ c te tl tk lf ps fresh fp g w hb (fun W hW => ?_) rfl hc h10 (fun W hW => book_ok ⟨LA, lcc, Ps, h1, h2 W (hW.mono fun k _ hk => by rw [hfp, List.mem_singleton.1 hk]; simp)⟩ hok.len) hok hoc hfp hbg hlt hg ht.1 ht.2 h8
    refine at_blocks hA fun ad e _ => ?_
    rw [← Option.some.inj e]
    exact hW.block _ (hlt _ hg) (fun hm => hbg (by rw [List.mem_singleton] at hm; exact hm ▸ hg))
theorem kdone_t {b : Nat} {p : PuT} {fp : List Nat} {w : World} (h : (ePk b p fp).holds w) (h0 : p.left = []) : Calls Try.prog 21 #[.pointer (some ⟨b, 0, none⟩)] w (Ret (.bool true) w) := by
  have h1 := kdone_pk h
  rw [h0] at h1
  exact h1
/-- the book of the example -/
def sanB : List PgS := doB (blankF 4) (begF 3)
def sanK : ByteArray := ⟨#[97, 98]⟩
def sanX : ByteArray := ⟨#[97, 98, 0, 1, 0, 2]⟩
theorem sanB_eq : sanB = [(2, 0, [⟨#[0, 0, 0, 0]⟩]), (0, 0, []), (0, 0, []), (2, 0, [⟨#[0, 0, 0, 0]⟩])] := by kernel_rfl
theorem sanB_ok : OkS sanB := by
  rw [sanB_eq]
  refine ⟨by decide, fun p hp => ?_, fun p hp s hs => ?_⟩
  · simp only [List.mem_cons, List.not_mem_nil, or_false] at hp
    rcases hp with rfl | rfl | rfl | rfl <;> decide
  · simp only [List.mem_cons, List.not_mem_nil, or_false] at hp
    rcases hp with rfl | rfl | rfl | rfl <;> simp at hs <;> subst hs <;> decide
theorem sanB_c : OkC sanB := by
  rw [sanB_eq]
  intro p hp
  simp only [List.mem_cons, List.not_mem_nil, or_false] at hp
  rcases hp with rfl | rfl | rfl | rfl <;> decide
def sanN : NoD := ⟨0, -1, ⟨#[]⟩, false, [], 1⟩
theorem sanB_nd : ndAt sanB 3 = some sanN := by kernel_rfl
theorem sanN_1 : Node1 sanN := ⟨rfl, rfl, rfl, rfl, by decide⟩
def sanP : PuT := ⟨3, 3, 3, [], 0, 0, false⟩
theorem san_step : stepF sanB (putT 3 sanK 1 2) (-1) = (sanP, ⟨[(3, 1, sanX)], false, 0⟩) := by kernel_rfl
theorem kt_to {P : Program} {f : FuncId} {args : Array Value} {w : World} {b : Nat} {fp : List Nat} {R R' : PuT × GoT} (hR : R = R') (hc : Calls P f args w (KtPost b R fp w)) : Calls P f args w (KtPost b R' fp w) := hR ▸ hc
theorem at_to {w : World} {A : Option Addr} {xs ys : List Value} (h : At w A xs) (e : xs = ys) : At w A ys := e ▸ h
set_option maxRecDepth 100000 in
set_option maxHeartbeats 2000000 in
theorem sanity10_any  (w : World) :
    Calls Try.prog 10 #[] w (Ret (.bool true) w) := by
  go_enter Try.func10, Try.ntmps10
  have hst0 := St.start w
  refine wp_seq (sqr (sqp [.k 0 (.bool false)] ?_))
  refine then_normal (wp_seq (sqr ?_))
  refine sqk1s (fun B9_2 => vp B9_2) (fun B9_2 r0_2 => eBk B9_2 (blankF 4) r0_2) hst0 (fun cx => ⟨_, (rblank_any 4 _ (by decide)).mono (by rintro e W1 ⟨B4, fp4, rfl, hs4⟩; exact ⟨_, _, rfl, hs4⟩), (map1 (cx.co _))⟩) fun B9_2 r0_2 W2 hst2 => ?_
  refine sqp [.m 1 9] ?_
  refine then_normal (wp_seq (wp_region_Y [0, 0, 2, 6, 0, 16, 48, 126, 255, 511] [[], [], [2], [], [], [3], [], [], [1, 4]] [[1], [2], [], [], [3], [], [], [4]] [] [.a 10, .a 11, .c 12 (.string (strOfNums ([2]))), .k 13 (.agg #[vi 3, vi (-1), .string (strOfNums ([2]))]), .a 14, .c 15 (.string (strOfNums ([0, 0, 0, 0]))), .k 16 (.agg #[vi 3, vi 0, .string (strOfNums ([0, 0, 0, 0]))]), .a 17, .c 18 (.bool true), .k 2 (.bool true)] (fun ix σ β X => match ix with | 0 => σ 10 = .slice (sA (β 10)) 2 (sC (β 10)) ∧ X 1 = eO 99 3 (.slice (sA (β 10)) 2 (sC (β 10))) 2 ((begF 3).flatMap edC) | 1 => σ 11 = .slice (sA (β 11)) 1 1 ∧ X 2 = eO 5 1 (.slice (sA (β 11)) 1 1) 1 ([.int .u8 2]) | 2 => True | 3 => True | 4 => σ 14 = .slice (sA (β 14)) 4 4 ∧ X 3 = eO 5 1 (.slice (sA (β 14)) 4 4) 4 ([.int .u8 0, .int .u8 0, .int .u8 0, .int .u8 0]) | 5 => True | 6 => True | 7 => σ 17 = .slice ((some ⟨(pb' (β 17)), 0, none⟩)) 2 2 ∧ X 4 = eO 99 3 (.slice ((some ⟨(pb' (β 17)), 0, none⟩)) 2 2) 2 ([vi 3, vi (-1), .string (strOfNums ([2])), vi 3, vi 0, .string (strOfNums ([0, 0, 0, 0]))]) | _ => True) [0, 1, 2, 3, 4] [0, 1, 2, 4, 5, 7, 8] [(2, 9, 1, 3), (7, 0, 9, 16)] hst2 ?_ ?_ ?_))
  · exact fun ix _ _ _ _ _ _ hs hb hx h => match ix, h with
    | 0, h => by dsimp only; rw [← hs 10 rfl, ← hb 10 rfl, ← hx 1 rfl]; exact h
    | 1, h => by dsimp only; rw [← hs 11 rfl, ← hb 11 rfl, ← hx 2 rfl]; exact h
    | 4, h => by dsimp only; rw [← hs 14 rfl, ← hb 14 rfl, ← hx 3 rfl]; exact h
    | 7, h => by dsimp only; rw [← hs 17 rfl, ← hb 17 rfl, ← hx 4 rfl]; exact h
    | 2, _ | 3, _ | 5, _ | 6, _ | _ + 8, _ => trivial
  · refine ⟨?_, ?_, ?_, ?_, ?_, ?_, ?_, trivial⟩
    · refine svA fun ρ β W X cx => ?_
      refine DoesU.call (run_callF (args := #[vi 3]) rfl cx.sees rfl (by kernel_rfl) (map1 (cx.co _))) ?_
      refine (kbegin_any 3 _).mono ?_
      rintro e W1 ⟨A4, c4, rfl, ho_, hx⟩
      refine ⟨_, rfl, post_call [eO 99 3 (.slice A4 2 c4) 2 ((begF 3).flatMap edC)] rfl rfl hx (one_new (eO_new (n := 2) (xs := (begF 3).flatMap edC) ho_)) (List.pairwise_singleton _ _) (fun σ β' X' hs hb hv hN => ?_)⟩
      have hv1 := (hv 10 rfl).1; have hv2 := (hv 10 rfl).2
      exact ⟨hv1.trans (by rw [hv2]; rfl), (by rw [hv2]; exact (List.cons.inj hN).1)⟩
    · refine svA fun ρ β W X cx => ?_
      exact dv_lit (e := 5) (xs := [.int .u8 2]) rfl (by simp [go_sem, cx.sees.const]) rfl (by decide) rfl rfl (fun σ β' X' hs hb hv hx => ⟨hv, hx⟩)
    · exact xs4 rfl id fun cx => run_convB (e := 5) rfl (by kernel_rfl) (by kernel_rfl) (by kernel_rfl) (dTn (cx.an 1)).1 (cx.row (dTn (cx.an 1)).2 rfl)
    · refine svA fun ρ β W X cx => ?_
      exact dv_lit (e := 5) (xs := [.int .u8 0, .int .u8 0, .int .u8 0, .int .u8 0]) rfl (by simp [go_sem, cx.sees.const]) rfl (by decide) rfl rfl (fun σ β' X' hs hb hv hx => ⟨hv, hx⟩)
    · exact xs4 rfl id fun cx => run_convB (e := 5) rfl (by kernel_rfl) (by kernel_rfl) (by kernel_rfl) (dTn (cx.an 4)).1 (cx.row (dTn (cx.an 4)).2 rfl)
    · refine svA fun ρ β W X cx => ?_
      have fF13 : ρ (.tmp 13) = .agg #[vi 3, vi (-1), .string (strOfNums ([2]))] := (cx.an 3)
      have fF16 : ρ (.tmp 16) = .agg #[vi 3, vi 0, .string (strOfNums ([0, 0, 0, 0]))] := (cx.an 6)
      exact dv_litN (e := 99) (sz := 3) (xs := [vi 3, vi (-1), .string (strOfNums ([2])), vi 3, vi 0, .string (strOfNums ([0, 0, 0, 0]))]) rfl (by simp [go_sem, fF13, fF16]) rfl (by decide) rfl rfl (fun σ β' X' hs hb hv hx => ⟨hv, hx⟩)
    · exact xsc rfl id rfl rfl fun cx => ⟨_, rsame_any _ _ _ _ (begF 3) _ (at_to (At.of_ownN (cx.row (dTn (cx.an 0)).2 rfl)) (by kernel_rfl)) (at_to (At.of_ownN (cx.row (dTn (cx.an 7)).2 rfl)) (by kernel_rfl)) (by decide), (map2 (dTn (cx.an 0)).1 (dTn (cx.an 7)).1)⟩
  intro σ β X W4 hD hst4 fr hfr
  obtain ⟨A10_4, hu_A10_4⟩ : ∃ z, sA (β 10) = z := ⟨_, rfl⟩
  obtain ⟨c10_4, hu_c10_4⟩ : ∃ z, sC (β 10) = z := ⟨_, rfl⟩
  obtain ⟨A11_4, hu_A11_4⟩ : ∃ z, sA (β 11) = z := ⟨_, rfl⟩
  obtain ⟨A14_4, hu_A14_4⟩ : ∃ z, sA (β 14) = z := ⟨_, rfl⟩
  obtain ⟨B17_4, hu_B17_4⟩ : ∃ z, pb' (β 17) = z := ⟨_, rfl⟩
  simp only [exq 1 ((dTn (hD 0 lq)).2), exq 2 ((dTn (hD 1 lq)).2), exq 3 ((dTn (hD 4 lq)).2), exq 4 ((dTn (hD 7 lq)).2), hu_A10_4, hu_c10_4, hu_A11_4, hu_A14_4, hu_B17_4] at hst4
  simp only [ed 10 ((dTn (hD 0 lq)).1), ed 11 ((dTn (hD 1 lq)).1), ed 14 ((dTn (hD 4 lq)).1), ed 17 ((dTn (hD 7 lq)).1), hu_A10_4, hu_c10_4, hu_A11_4, hu_A14_4, hu_B17_4] at hfr
  clear hD hu_A10_4 hu_c10_4 hu_A11_4 hu_A14_4 hu_B17_4; subst hfr; clear σ β X
  refine then_normal (wp_seq (sqr (sqp [.m 19 1] ?_)))
  refine sqk2 (fun A20_6 c20_6 => .slice A20_6 2 c20_6) (fun A20_6 c20_6 => eO 99 3 (.slice A20_6 2 c20_6) 2 ((begF 3).flatMap edC)) hst4 (fun cx => ⟨_, (kbegin_any 3 _).mono (by rintro e W1 ⟨A4, c4, rfl, ho_, hx⟩; exact ⟨_, _, rfl, St.one hx (eO_new (n := 2) (xs := (begF 3).flatMap edC) ho_)⟩), (map1 (cx.co _))⟩) fun A20_6 c20_6 W6 hst6 => ?_
  refine sqc0s (fun X_ => X_.fp) (.tuple #[]) (fun r6_7 => eBk B9_2 (doB (blankF 4) (begF 3)) r6_7) 0 hst6 (by
      refine svA fun ρ β W X cx => ?_
      refine DoesU.call (run_callF (args := #[vp B9_2, .slice A20_6 2 c20_6]) rfl cx.sees rfl (by kernel_rfl) (map2 (cx.ou 19) (cx.ou 20))) ?_
      refine (rdo_any B9_2 (blankF 4) _ 4 _ _ (begF 3) _ (CtxV.holdF cx (cx.init 0 _ rfl) rfl) (CtxV.ltF cx (cx.init 0 _ rfl) rfl) (CtxV.keepAt cx (cx.init 5 _ rfl) (cx.init 0 _ rfl) rfl rfl (by decide)) (by decide) (blank_sz 4).2 (by decide) (blank_sz 4).1.its).mono ?_
      rintro e W1 ⟨rfl, fp4, hs4⟩
      refine ⟨_, rfl, post_obj (E := eBk B9_2 (blankF 4) r0_2) [eBk B9_2 (doB (blankF 4) (begF 3)) fp4] (cx.init 0 _ rfl) rfl rfl hs4 (fun σ β' X' hs hb hv hN => ?_)⟩
      have hv1 := (hv 21 rfl).1; have hv2 := (hv 21 rfl).2
      exact ⟨hv1.trans rfl, eBk_self ((List.cons.inj hN).1)⟩) fun r6_7 W7 hst7 => ?_
  refine then_normal (wp_seq ?_)
  have hsb_ : doB (blankF 4) (begF 3) = sanB := rfl
  rw [hsb_] at hst7
  refine sqr (sqp [.k 22 (.agg #[vi 1, vi 2])] ?_)
  refine sqk1s (fun B23_9 => vp B23_9) (fun B23_9 r6_9 => ePk B23_9 (putT 3 (⟨#[97, 98]⟩ : ByteArray) 1 2) r6_9) hst7 (fun cx => ⟨_, (kgrowN_any 3 (⟨#[97, 98]⟩ : ByteArray) 1 2 _ (by decide)).mono (by rintro e W1 ⟨B4, fp4, rfl, hs4⟩; exact ⟨_, _, rfl, hs4⟩), (map3 (cx.co _) (cx.co _) (cx.ou 22))⟩) fun B23_9 r6_9 W9 hst9 => ?_
  refine sqp [.m 3 23] ?_
  refine then_normal (wp_seq (wp_seq (sqr (sqp [.m 24 3] ?_))))
  refine sqv (.bool false) hst9 (by
      exact sv0 rfl rfl rfl rfl rfl (fun _ _ _ h => h) fun ρ β W X cx => by
        have fF24 : ρ (.tmp 24) = vp B23_9 := (cx.ou 24)
        simp [go_sem, cx.sees.const, fF24]) fun W12 hst12 => ?_
  refine then_normal (wcf rfl (wp_skip (then_normal (wp_seq (wp_region_Y [0, 0, 2, 7, 15, 31, 31, 31, 63, 383, 1023] [[], [], [], [6, 0]] [[], [], [], [7, 8]] [[], [], [], [6]] [.k 27 (vp B23_9), .k 28 (vp B9_2), .c 29 (.iface 24 (vp B9_2)), .a 30, .a 26, .a 31, .c 32 (.bool false), .c 33 (vi 0), .a 4, .k 5 (.bool false), .k 6 (vi 0)] (fun ix σ β X => match ix with | 0 => True | 1 => True | 2 => True | 3 => σ 30 = .tuple #[.slice (sA (tg (β 30) 0)) 1 (sC (tg (β 30) 0)), .bool false, vi 0] ∧ X 7 = ePk B23_9 sanP ((X 7).fp) ∧ X 8 = eO 99 3 (.slice (sA (tg (β 30) 0)) 1 (sC (tg (β 30) 0))) 1 ([(3, 1, sanX)].flatMap edC) | 4 => σ 26 = .tuple #[.slice (sA (tg (β 30) 0)) 1 (sC (tg (β 30) 0)), .bool false, vi 0] | 5 => σ 31 = .slice (sA (tg (β 30) 0)) 1 (sC (tg (β 30) 0)) | 6 => True | 7 => True | 8 => σ 4 = .slice (sA (tg (β 30) 0)) 1 (sC (tg (β 30) 0)) | _ => True) [0, 1, 2, 3, 4, 5, 7, 8] [2, 3, 4, 5, 6, 7, 8] [(4, 8, 3, 7), (19, 4, 1, 20), (0, 0, 4, 4), (0, 5, 3, 3)] hst12 ?_ ?_ ?_)))))
  · exact fun ix _ _ _ _ _ _ hs hb hx h => match ix, h with
    | 3, h => by dsimp only; rw [← hs 30 rfl, ← hb 30 rfl, ← hx 7 rfl, ← hx 8 rfl]; exact h
    | 4, h => by dsimp only; rw [← hs 26 rfl, ← hb 30 rfl]; exact h
    | 5, h => by dsimp only; rw [← hs 31 rfl, ← hb 30 rfl]; exact h
    | 8, h => by dsimp only; rw [← hs 4 rfl, ← hb 30 rfl]; exact h
    | 0, _ | 1, _ | 2, _ | 6, _ | 7, _ | _ + 9, _ => trivial
  · refine ⟨?_, ?_, ?_, ?_, ?_, ?_, ?_, trivial⟩
    · exact sv0 rfl rfl rfl rfl rfl (fun _ _ _ h => h) fun ρ β W X cx => by
        have fF28 : ρ (.tmp 28) = vp B9_2 := (cx.an 1)
        simp [go_sem, fF28]
    · refine svA fun ρ β W X cx => ?_
      refine DoesU.call (run_callF (args := #[vp B23_9, .iface 24 (vp B9_2), vi (-1)]) rfl cx.sees rfl (by kernel_rfl) (map3 (cx.an 0) (cx.an 2) (cx.co _))) ?_
      refine (kt_to san_step (kstep_pk (fresh := -1) (CtxV.holdF cx (cx.init 6 _ rfl) rfl) (CtxV.bkU cx (cx.init 0 _ rfl) (cx.init 6 _ rfl) rfl rfl (by decide)) (by decide) sanB_ok sanB_c (by decide) (fun t ht => by rw [putT, List.mem_singleton] at ht; subst ht; decide) (fun nd h => by have h_ := sanB_nd.symm.trans h; rw [← Option.some.inj h_]; decide))).mono ?_
      rintro e W1 ⟨A4, c4, rfl, fp4, hs4⟩
      refine ⟨_, rfl, post_obj (E := ePk B23_9 (putT 3 (⟨#[97, 98]⟩ : ByteArray) 1 2) r6_9) [ePk B23_9 sanP fp4, eO 99 3 (.slice A4 1 c4) 1 ([(3, 1, sanX)].flatMap edC)] (cx.init 6 _ rfl) rfl rfl hs4 (fun σ β' X' hs hb hv hN => ?_)⟩
      have hv1 := (hv 30 rfl).1; have hv2 := (hv 30 rfl).2
      exact ⟨hv1.trans (by rw [hv2]; rfl), ePk_self ((List.cons.inj hN).1), (by rw [hv2]; exact (List.cons.inj (List.cons.inj hN).2).1)⟩
    · exact sv rfl rfl rfl rfl rfl _ (fun _ _ _ h => h) (fun β β' h => by rw [h 30 (by decide)]) fun ρ β W X cx => run_move' rfl (dTn (cx.an 3)).1
    · exact sv rfl rfl rfl rfl rfl _ (fun _ _ _ h => h) (fun β β' h => by rw [h 30 (by decide)]) fun ρ β W X cx => run_extract' rfl (dTn (cx.an 4)) rfl
    · exact xs4 rfl id fun cx => run_extract' rfl (dTn (cx.an 4)) rfl
    · exact xs4 rfl id fun cx => run_extract' rfl (dTn (cx.an 4)) rfl
    · exact sv rfl rfl rfl rfl rfl _ (fun _ _ _ h => h) (fun β β' h => by rw [h 30 (by decide)]) fun ρ β W X cx => run_assign' rfl (dTn (cx.an 5))
  intro σ β X W13 hD hst13 fr hfr
  obtain ⟨A30_13, hu_A30_13⟩ : ∃ z, sA (tg (β 30) 0) = z := ⟨_, rfl⟩
  obtain ⟨c30_13, hu_c30_13⟩ : ∃ z, sC (tg (β 30) 0) = z := ⟨_, rfl⟩
  have xX7 : X 7 = _ := (dTn (hD 3 lq)).2.1
  obtain ⟨r7_13, hu_r7_13⟩ : ∃ z, (X 7).fp = z := ⟨_, rfl⟩
  rw [hu_r7_13] at xX7
  clear hu_r7_13
  simp only [xX7, exq 8 ((dTn (hD 3 lq)).2.2), hu_A30_13, hu_c30_13] at hst13
  simp only [ed 30 ((dTn (hD 3 lq)).1), ed 26 ((dTn (hD 4 lq))), ed 31 ((dTn (hD 5 lq))), ed 4 ((dTn (hD 8 lq))), hu_A30_13, hu_c30_13] at hfr
  clear hD xX7 hu_A30_13 hu_c30_13; subst hfr; clear σ β X
  refine then_normal (wp_seq (sqr ?_))
  refine sqn1 (fun x_ => sA x_) (fun A34_14 => .slice A34_14 4 4) (fun A34_14 => eO 5 1 (.slice A34_14 4 4) 4 ([.int .u8 0, .int .u8 1, .int .u8 0, .int .u8 2])) hst13 (by
      refine svA fun ρ β W X cx => ?_
      exact dv_lit (e := 5) (xs := [.int .u8 0, .int .u8 1, .int .u8 0, .int .u8 2]) rfl (by simp [go_sem, cx.sees.const]) rfl (by decide) rfl rfl (fun σ β' X' hs hb hv hx => ⟨hv, hx⟩)) fun A34_14 W14 hst14 => ?_
  refine sql (.string (strOfNums ([0, 1, 0, 2]))) hst14 (fun cx => run_convB (e := 5) rfl (by kernel_rfl) (by kernel_rfl) (by kernel_rfl) (cx.ou 34) (cx.ri 8 rfl)) ?_
  refine sqp [sS 36 ((⟨#[97, 98]⟩ : ByteArray)) (strOfNums ([0, 1, 0, 2])) (by rw [strOfNums_size]; decide), .m 7 36] ?_
  refine then_normal (wp_seq (sqr (sqp [.m 37 4, .m 38 7, .k 39 (.agg #[vi 3, vi 1, .string (((⟨#[97, 98]⟩ : ByteArray)) ++ (strOfNums ([0, 1, 0, 2])))])] ?_)))
  refine sqli 99 3 1 [vi 3, vi 1, .string (((⟨#[97, 98]⟩ : ByteArray)) ++ (strOfNums ([0, 1, 0, 2])))] hst14 (@fun ρ β W X cx => by have fF39 : ρ (.tmp 39) = .agg #[vi 3, vi 1, .string (((⟨#[97, 98]⟩ : ByteArray)) ++ (strOfNums ([0, 1, 0, 2])))] := (cx.ou 39); simp [go_sem, fF39]) fun B40_21 W21 hst21 => ?_
  refine sqk (.bool true) hst21 (fun cx => ⟨_, rsame_any _ _ _ _ [(3, 1, sanX)] _ (at_to (At.of_ownN (cx.ri 7 rfl)) (by kernel_rfl)) (at_to (At.of_ownN (cx.ri 9 rfl)) (by kernel_rfl)) (by decide), (map2 (cx.ou 37) (cx.ou 40))⟩) fun W22 hst22 => ?_
  refine sqp [.k 8 (.bool true)] ?_
  refine then_normal (wp_seq (sqr (sqp [.k 42 (.bool true), .k 43 (.bool true)] ?_)))
  refine sqgy 43 [44] rfl rfl ?_
  refine sqp [.k 44 (.bool true)] ?_
  refine sqp [.k 45 (.bool true), .k 46 (.bool true)] ?_
  refine sqgy 46 [47, 48] rfl rfl ?_
  refine sqp [.k 47 (.bool false), .k 48 (.bool true)] ?_
  refine sqp [.k 49 (.bool true), .k 50 (.bool true)] ?_
  refine sqgy 50 [51, 52] rfl rfl ?_
  refine sqp [.m 51 6, .k 52 (.bool true)] ?_
  refine sqp [.k 53 (.bool true), .k 54 (.bool true)] ?_
  refine sqgy 54 [55, 56] rfl rfl ?_
  refine sqp [.m 55 3] ?_
  refine sqk (.bool true) hst22 (fun cx => ⟨_, kdone_t (CtxV.holdF cx (cx.init 6 _ rfl) rfl) rfl, (map1 (cx.ou 55))⟩) fun W38 hst38 => ?_
  refine sqp [.k 57 (.bool true), .k 58 (.bool true)] ?_
  refine sqgy 58 [59, 60, 61] rfl rfl ?_
  refine sqp [.m 59 3] ?_
  refine sqk (vi 3) hst38 (fun cx => ⟨_, kleaf_pk (CtxV.holdF cx (cx.init 6 _ rfl) rfl), (map1 (cx.ou 59))⟩) fun W42 hst42 => ?_
  refine sqp [.k 61 (.bool true)] ?_
  refine sqp [.k 62 (.bool true), .k 63 (.bool true)] ?_
  refine sqgy 63 [64, 65, 66, 67] rfl rfl ?_
  refine sqp [.k 64 (.agg #[vi 1, vi 2])] ?_
  refine sqk (.string ((entF sanK 1 2))) hst42 (fun cx => ⟨_, kentry_any sanK 1 2 _ (by decide), (map2 (cx.co _) (cx.ou 64))⟩) fun W47 hst47 => ?_
  have hd50 : (((entF sanK 1 2)).toList == (((⟨#[97, 98]⟩ : ByteArray)) ++ (strOfNums ([0, 1, 0, 2]))).toList) = true := (by kernel_rfl)
  refine sqp [.m 66 7, .e 67 (.bool (((entF sanK 1 2)).toList == (((⟨#[97, 98]⟩ : ByteArray)) ++ (strOfNums ([0, 1, 0, 2]))).toList)) (.bool true) (congrArg Value.bool hd50)] ?_
  refine sqp [.k 68 (.bool true), .k 69 (.bool true)] ?_
  refine sqgy 69 [70, 71, 72, 73] rfl rfl ?_
  refine sqp [.m 70 1] ?_
  refine sqv (.iface 24 (vp B9_2)) hst47 (by
      exact sv0 rfl rfl rfl rfl rfl (fun _ _ _ h => h) fun ρ β W X cx => by
        have fF70 : ρ (.tmp 70) = vp B9_2 := (cx.ou 70)
        simp [go_sem, fF70]) fun W54 hst54 => ?_
  refine sqk (vi 0) hst54 (fun cx => ⟨_, kcheck_1 _ _ 3 sanB sanN _ (book_ok (eBk_at (CtxV.holdF cx (cx.init 0 _ rfl) rfl)) sanB_ok.len) sanB_ok sanB_c sanB_nd sanN_1, (map2 (cx.ou 71) (cx.co _))⟩) fun W55 hst55 => ?_
  refine sqp [.k 73 (.bool true)] ?_
  refine sqp [.k 74 (.bool true), .k 0 (.bool true)] ?_
  refine then_normal (wp_ret ?_)
  refine bpr (.bool true) (results_1 Try.results10 rpt) ?_
  exact Ret.of rfl hst55.ext
end
end Go.Proofs.Ytjlcoglmjldjbaa
namespace Go.Proofs.Ytjlcoglmjldjbaa
section
open Go.RowKit
set_option linter.unusedVariables false
set_option linter.unusedSimpArgs false
set_option maxRecDepth 100000 in
set_option maxHeartbeats 2000000 in
theorem kwnext_n (tt : TypeId) (tv : Value) (w : World) :
    Calls Try.prog 70 #[.pointer none, .iface tt (tv)] w (Ret (.tuple #[.agg #[.int .i64 0, .int .i64 0, .int .i64 0, .string ((⟨#[]⟩ : ByteArray)), .bool false, .slice none 0 0, .int .i64 0], .bool false, .bool false]) w) := by
  go_enter Try.func70, Try.ntmps70
  have hst0 := St.start w
  refine wp_seq (sqr (sqal #[vi 0, vi 0, vi 0, .string ByteArray.empty, .bool false, .slice none 0 0, vi 0] hst0 fun B4_1 W1 hst1 => ?_))
  refine sqp [.k 5 (.bool false), .k 6 (.bool false)] ?_
  refine then_normal (wp_seq (wp_seq (sqr (sqp [.m 8 0] ?_))))
  refine sqv (.bool true) hst1 (by
      exact sv0 rfl rfl rfl rfl rfl (fun _ _ _ h => h) fun ρ β W X cx => by
        have fF8 : ρ (.tmp 8) = .pointer none := (cx.ou 8)
        simp [go_sem, cx.sees.const, fF8]) fun W5 hst5 => ?_
  refine then_normal (wct rfl (wp_seq (sqr (sqp [.k 10 (.agg #[vi 0, vi 0, vi 0, .string ByteArray.empty, .bool false, .slice none 0 0, vi 0])] ?_))))
  refine sqst (n := 7) 0 #[vi 0, vi 0, vi 0, .string ByteArray.empty, .bool false, .slice none 0 0, vi 0] hst5 fun W7 hst7 => ?_
  refine sqp [.k 5 (.bool false), .k 6 (.bool false)] ?_
  refine then_normal (wp_ret (then_ret ?_))
  refine bpr (.tuple #[.agg #[vi 0, vi 0, vi 0, .string ByteArray.empty, .bool false, .slice none 0 0, vi 0], .bool false, .bool false]) (results_3 Try.results70 (rpa (hst7.blk 0 rfl) 0 7) rpt rpt) ?_
  exact Ret.of rfl hst7.ext
set_option maxRecDepth 100000 in
set_option maxHeartbeats 2000000 in
theorem kwstep_n (tt : TypeId) (tv : Value) (w : World) :
    Calls Try.prog 35 #[.pointer none, .iface tt (tv)] w (Ret (.tuple #[.int .i64 (-1), .slice none 0 0, .slice none 0 0, .bool false]) w) := by
  go_enter Try.func35, Try.ntmps35
  have hst0 := St.start w
  refine wp_seq (sqr (sqp [.k 4 (vi 0), .k 5 (.slice none 0 0), .k 6 (.slice none 0 0), .k 7 (.bool false)] ?_))
  refine then_normal (wp_seq (sqr (sqp [.m 16 0, .m 17 1] ?_)))
  refine sqk (.tuple #[.agg #[vi 0, vi 0, vi 0, .string ((⟨#[]⟩ : ByteArray)), .bool false, .slice none 0 0, vi 0], .bool false, .bool false]) hst0 (fun cx => ⟨_, kwnext_n _ _ _, (map2 (cx.ou 16) (cx.ou 17))⟩) fun W7 hst7 => ?_
  refine sqp [.m 15 18, .k 19 (.agg #[vi 0, vi 0, vi 0, .string ((⟨#[]⟩ : ByteArray)), .bool false, .slice none 0 0, vi 0]), .k 20 (.bool false), .k 21 (.bool false)] ?_
  refine sqal #[vi 0, vi 0, vi 0, .string ByteArray.empty, .bool false, .slice none 0 0, vi 0] hst7 fun B8_12 W12 hst12 => ?_
  refine sqst (n := 7) 0 #[vi 0, vi 0, vi 0, .string ((⟨#[]⟩ : ByteArray)), .bool false, .slice none 0 0, vi 0] hst12 fun W13 hst13 => ?_
  refine sqp [.k 9 (.bool false), .k 7 (.bool false)] ?_
  refine then_normal (wp_seq (wp_seq (sqr (sqp [.k 22 (.bool false), .k 23 (.bool true)] ?_))))
  refine then_normal (wct rfl (wp_seq (sqr (sqp [.k 24 (.bool false), .k 4 (vi (-1)), .k 5 (.slice none 0 0), .k 6 (.slice none 0 0), .k 7 (.bool false)] ?_))))
  refine then_normal (wp_ret (then_ret ?_))
  refine bpr (.tuple #[vi (-1), .slice none 0 0, .slice none 0 0, .bool false]) (results_4 Try.results35 rpt rpt rpt rpt) ?_
  exact Ret.of rfl hst13.ext
set_option maxRecDepth 100000 in
set_option maxHeartbeats 2000000 in
theorem kpstep_n (tt : TypeId) (tv : Value) (x : Int) (w : World) :
    Calls Try.prog 16 #[.pointer none, .iface tt (tv), .int .i64 x] w (Ret (.tuple #[.slice none 0 0, .bool false, .int .i64 0]) w) := by
  go_enter Try.func16, Try.ntmps16
  have hst0 := St.start w
  refine wp_seq (sqr (sqp [.k 6 (.slice none 0 0), .k 7 (.bool false), .k 8 (vi 0)] ?_))
  refine then_normal (wp_seq (wp_seq (sqr (sqp [.m 14 0] ?_))))
  refine sqv (.bool true) hst0 (by
      exact sv0 rfl rfl rfl rfl rfl (fun _ _ _ h => h) fun ρ β W X cx => by
        have fF14 : ρ (.tmp 14) = .pointer none := (cx.ou 14)
        simp [go_sem, cx.sees.const, fF14]) fun W5 hst5 => ?_
  refine then_normal (wct rfl (wp_seq (sqr (sqp [.k 6 (.slice none 0 0), .k 7 (.bool false), .k 8 (vi 0)] ?_))))
  refine then_normal (wp_ret (then_ret ?_))
  refine bpr (.tuple #[.slice none 0 0, .bool false, vi 0]) (results_3 Try.results16 rpt rpt rpt) ?_
  exact Ret.of rfl hst5.ext
set_option maxRecDepth 100000 in
set_option maxHeartbeats 2000000 in
theorem kpsplit_n  (w : World) :
    Calls Try.prog 18 #[.pointer none] w (Ret (.tuple #[.int .i64 0, .int .i64 0, .bool false]) w) := by
  go_enter Try.func18, Try.ntmps18
  have hst0 := St.start w
  refine wp_seq (sqr (sqp [.k 2 (vi 0), .k 3 (vi 0), .k 4 (.bool false)] ?_))
  refine then_normal (wp_seq (wp_seq (sqr (sqp [.m 5 0] ?_))))
  refine sqv (.bool true) hst0 (by
      exact sv0 rfl rfl rfl rfl rfl (fun _ _ _ h => h) fun ρ β W X cx => by
        have fF5 : ρ (.tmp 5) = .pointer none := (cx.ou 5)
        simp [go_sem, cx.sees.const, fF5]) fun W5 hst5 => ?_
  refine then_normal (wct rfl (wp_seq (sqr (sqp [.k 2 (vi 0), .k 3 (vi 0), .k 4 (.bool false)] ?_))))
  refine then_normal (wp_ret (then_ret ?_))
  refine bpr (.tuple #[vi 0, vi 0, .bool false]) (results_3 Try.results18 rpt rpt rpt) ?_
  exact Ret.of rfl hst5.ext
set_option maxRecDepth 100000 in
set_option maxHeartbeats 2000000 in
theorem kpdone_n  (w : World) :
    Calls Try.prog 21 #[.pointer none] w (Ret (.bool true) w) := by
  go_enter Try.func21, Try.ntmps21
  have hst0 := St.start w
  refine wp_seq (sqr (sqp [.k 2 (.bool false)] ?_))
  refine then_normal (wp_seq (sqr (sqp [.m 3 0] ?_)))
  refine sqv (.bool true) hst0 (by
      exact sv0 rfl rfl rfl rfl rfl (fun _ _ _ h => h) fun ρ β W X cx => by
        have fF3 : ρ (.tmp 3) = .pointer none := (cx.ou 3)
        simp [go_sem, cx.sees.const, fF3]) fun W3 hst3 => ?_
  refine sqp [.k 5 (.bool true)] ?_
  refine sqgn 5 [6, 7, 8, 9, 10, 11] rfl rfl ?_
  refine sqp [.k 12 (.bool true), .k 2 (.bool true)] ?_
  refine then_normal (wp_ret ?_)
  refine bpr (.bool true) (results_1 Try.results21 rpt) ?_
  exact Ret.of rfl hst3.ext
set_option maxRecDepth 100000 in
set_option maxHeartbeats 2000000 in
theorem kpleaf_n  (w : World) :
    Calls Try.prog 23 #[.pointer none] w (Ret (.int .i64 (-1)) w) := by
  go_enter Try.func23, Try.ntmps23
  have hst0 := St.start w
  refine wp_seq (sqr (sqp [.k 2 (vi 0)] ?_))
  refine then_normal (wp_seq (wp_seq (sqr (sqp [.m 3 0] ?_))))
  refine sqv (.bool true) hst0 (by
      exact sv0 rfl rfl rfl rfl rfl (fun _ _ _ h => h) fun ρ β W X cx => by
        have fF3 : ρ (.tmp 3) = .pointer none := (cx.ou 3)
        simp [go_sem, cx.sees.const, fF3]) fun W3 hst3 => ?_
  refine then_normal (wct rfl (wp_seq (sqr (sqp [.k 2 (vi (-1))] ?_))))
  refine then_normal (wp_ret (then_ret ?_))
  refine bpr (vi (-1)) (results_1 Try.results23 rpt) ?_
  exact Ret.of rfl hst3.ext
set_option maxRecDepth 100000 in
set_option maxHeartbeats 2000000 in
theorem lseed_any (A : Option Addr) (n c k : Nat) (w : World) (hc : n ≤ c) :
    Calls Try.prog 34 #[.slice A n c, .int .i64 ((k : Int))] w (Ret (.slice A (min n k) c) w) := by
  go_enter Try.func34, Try.ntmps34
  have hst0 := St.start w
  refine wp_seq (sqr (sqp [.k 4 (.slice none 0 0)] ?_))
  refine then_normal (wp_seq (wp_seq (sqr (sqp [.m 5 0, .k 6 (vi ((n : Int))), .m 7 1, .k 8 (.bool (decide ((k : Int) < (n : Int))))] ?_))))
  refine then_normal (wds (fun hs6 hs6p => ?_) fun hs6 hs6p => ?_)
  · refine wp_seq (sqr (sqp [.m 9 0, .m 10 1] ?_))
    refine sql (.slice A k c) hst0 (fun cx => run_sliceL_hi (e := 3) (sz := 1) (m := k) rfl (by kernel_rfl) (by kernel_rfl) (cx.ou 9) (cx.ou 10) (by omega) (by omega)) ?_
    refine sqp [.m 4 11] ?_
    refine then_normal (wp_ret (then_ret ?_))
    refine bpr (.slice A k c) (results_1 Try.results34 rpt) ?_
    exact Ret.of (by rw [show min n k = k by omega]) hst0.ext
  refine wp_skip (then_normal (wp_seq (sqr (sqp [.m 12 0, .m 4 12] ?_))))
  refine then_normal (wp_ret ?_)
  refine bpr (.slice A n c) (results_1 Try.results34 rpt) ?_
  exact Ret.of (by rw [show min n k = n by omega]) hst0.ext
set_option maxRecDepth 100000 in
set_option maxHeartbeats 2000000 in
theorem treenil_any (A : Option Addr) (n c : Nat) (l : List Int) (w : World) (hA : At w A (l.map (Value.int .i64))) (hn : l.length = n) (hc : n ≤ c) :
    Calls Try.prog 5 #[.slice A n c] w (Ret (.bool true) w) := by
  go_enter Try.func5, Try.ntmps5
  have hst0 := St.start w
  refine wp_seq (sqr (sqp [.k 2 (.bool false)] ?_))
  refine then_normal (wp_seq (sqr (sqk (.bool true) hst0 (fun cx => ⟨_, sanity10_any _, map0⟩) fun W2 hst2 => ?_)))
  refine sqp [.k 3 (.bool true)] ?_
  refine then_normal (wp_seq (sqr (sqp [.m 18 0] ?_)))
  refine sqk (.slice A ((min n 20)) c) hst2 (fun cx => ⟨_, lseed_any A n c 20 _ hc, (map2 (cx.ou 18) (cx.co _))⟩) fun W5 hst5 => ?_
  refine sqk1s (fun B20_6 => vp B20_6) (fun B20_6 r0_6 => eBk B20_6 (grownF (l.take (min n 20))) r0_6) hst5 (fun cx => ⟨_, (rgrown_any _ _ _ (l.take (min n 20)) _ (At.take_mapI (hA.ext cx.upd.to_ext) (min n 20)) (by rw [List.length_take]; omega)).mono (by rintro e W1 ⟨B4, fp4, rfl, hs4⟩; exact ⟨_, _, rfl, hs4⟩), (map1 (cx.ou 19))⟩) fun B20_6 r0_6 W6 hst6 => ?_
  refine sqp [.m 4 20] ?_
  refine then_normal (wp_seq (sqr (sqp [.k 5 (.pointer none)] ?_)))
  refine then_normal (wp_seq (sqr (sqp [.k 6 (.pointer none)] ?_)))
  refine then_normal (wp_seq (sqr (sqp [.m 22 5, .m 23 4] ?_)))
  refine sqv (.iface 24 (vp B20_6)) hst6 (by
      exact sv0 rfl rfl rfl rfl rfl (fun _ _ _ h => h) fun ρ β W X cx => by
        have fF23 : ρ (.tmp 23) = vp B20_6 := (cx.ou 23)
        simp [go_sem, fF23]) fun W12 hst12 => ?_
  refine sqk (.tuple #[vi (-1), .slice none 0 0, .slice none 0 0, .bool false]) hst12 (fun cx => ⟨_, kwstep_n _ _ _, (map2 (cx.ou 22) (cx.ou 24))⟩) fun W13 hst13 => ?_
  refine sqp [.m 21 25, .k 26 (vi (-1)), .k 27 (.slice none 0 0), .k 28 (.slice none 0 0), .k 29 (.bool false), .m 7 26, .m 8 27, .m 9 28, .k 10 (.bool false)] ?_
  refine then_normal (wp_seq (sqr (sqp [.m 31 6, .m 32 4] ?_)))
  refine sqv (.iface 24 (vp B20_6)) hst13 (by
      exact sv0 rfl rfl rfl rfl rfl (fun _ _ _ h => h) fun ρ β W X cx => by
        have fF32 : ρ (.tmp 32) = vp B20_6 := (cx.ou 32)
        simp [go_sem, fF32]) fun W25 hst25 => ?_
  refine sqk (.tuple #[.slice none 0 0, .bool false, vi 0]) hst25 (fun cx => ⟨_, kpstep_n _ _ _ _, (map3 (cx.ou 31) (cx.ou 33) (cx.co _))⟩) fun W26 hst26 => ?_
  refine sqp [.m 30 34, .k 35 (.slice none 0 0), .k 36 (.bool false), .k 37 (vi 0), .m 11 35, .k 12 (.bool false), .m 13 37] ?_
  refine then_normal (wp_seq (sqr (sqp [.m 39 6] ?_)))
  refine sqk (.tuple #[vi 0, vi 0, .bool false]) hst26 (fun cx => ⟨_, kpsplit_n _, (map1 (cx.ou 39))⟩) fun W35 hst35 => ?_
  refine sqp [.m 38 40, .k 41 (vi 0), .k 42 (vi 0), .k 43 (.bool false), .m 14 41, .m 15 42, .k 16 (.bool false)] ?_
  refine then_normal (wp_seq (sqr (sqp [.k 44 (.bool true), .k 45 (.bool true)] ?_)))
  refine sqgy 45 [46, 47] rfl rfl ?_
  refine sqp [.m 46 7, .k 47 (.bool true)] ?_
  refine sqp [.k 48 (.bool true), .k 49 (.bool true)] ?_
  refine sqgy 49 [50, 51, 52, 53, 54, 55] rfl rfl ?_
  refine sqp [.m 50 8, .k 51 (vi 0), .m 52 9, .k 53 (vi 0), .k 54 (vi 0), .k 55 (.bool true)] ?_
  refine sqp [.k 56 (.bool true), .k 57 (.bool true)] ?_
  refine sqgy 57 [58, 59] rfl rfl ?_
  refine sqp [.k 58 (.bool false), .k 59 (.bool true)] ?_
  refine sqp [.k 60 (.bool true), .k 61 (.bool true)] ?_
  refine sqgy 61 [62, 63, 64] rfl rfl ?_
  refine sqp [.m 62 11, .k 63 (vi 0), .k 64 (.bool true)] ?_
  refine sqp [.k 65 (.bool true), .k 66 (.bool true)] ?_
  refine sqgy 66 [67, 68] rfl rfl ?_
  refine sqp [.k 67 (.bool false), .k 68 (.bool true)] ?_
  refine sqp [.k 69 (.bool true), .k 70 (.bool true)] ?_
  refine sqgy 70 [71, 72] rfl rfl ?_
  refine sqp [.m 71 13, .k 72 (.bool true)] ?_
  refine sqp [.k 73 (.bool true), .k 74 (.bool true)] ?_
  refine sqgy 74 [75, 76] rfl rfl ?_
  refine sqp [.m 75 6] ?_
  refine sqk (.bool true) hst35 (fun cx => ⟨_, kpdone_n _, (map1 (cx.ou 75))⟩) fun W75 hst75 => ?_
  refine sqp [.k 77 (.bool true), .k 78 (.bool true)] ?_
  refine sqgy 78 [79, 80, 81] rfl rfl ?_
  refine sqp [.m 79 6] ?_
  refine sqk (vi (-1)) hst75 (fun cx => ⟨_, kpleaf_n _, (map1 (cx.ou 79))⟩) fun W79 hst79 => ?_
  refine sqp [.k 81 (.bool true)] ?_
  refine sqp [.k 82 (.bool true), .k 83 (.bool true)] ?_
  refine sqgy 83 [84, 85] rfl rfl ?_
  refine sqp [.k 84 (.bool false), .k 85 (.bool true)] ?_
  refine sqp [.k 86 (.bool true), .k 2 (.bool true)] ?_
  refine then_normal (wp_ret ?_)
  refine bpr (.bool true) (results_1 Try.results5 rpt) ?_
  exact Ret.of rfl hst79.ext
end
end Go.Proofs.Ytjlcoglmjldjbaa
namespace Go.Proofs.Ytjlcoglmjldjbaa
section
open Go.ChangeShapes Go.WideShapes Go.ChangeAt Go.RowKit Go.Deep Go.Joins
set_option linter.unusedVariables false
set_option linter.unusedSimpArgs false
theorem ownKnob_none : ownKnob Try.prog.godebug = none := by kernel_rfl
theorem laidOut : laidOutB Try.prog = true := by kernel_rfl
section
variable {H : Type} {enc : TypeId × Value → H} {P : Program}
theorem trodAll_stays (hl : laidOutB P = true) {W W' : World} {sp : Nat → Bool} : ∀ {ts : List TypeId} {vs : List Value} {ds : List (DataW H)} {ps : List MemPlace}, (∀ t ∈ ts, P.readableRec t = true ∧ t < P.types.size) →
    DataW.TrodAll enc P W 0 (fun _ => true) true ts vs ds ps → (∀ p ∈ ps, W.sameAt W' p) → (∀ p ∈ ps, sp p.block = true) → DataW.TrodAll enc P W' 0 sp true ts vs ds ps
  | [], [], [], _, _, h, _, _ => h
  | t :: _, _ :: _, _ :: _, _, hT, ⟨p, q, h1, h2, e⟩, hsm, hs =>
    ⟨p, q, WideElems.Trod_stays hl (hT t (by simp)).1 (hT t (by simp)).2 h1 (fun x hx => hsm x (by rw [e]; exact List.mem_append_left _ hx)) (fun x hx => hs x (by rw [e]; exact List.mem_append_left _ hx)),
      trodAll_stays hl (fun t ht => hT t (by simp [ht])) h2 (fun x hx => hsm x (by rw [e]; exact List.mem_append_right _ hx)) (fun x hx => hs x (by rw [e]; exact List.mem_append_right _ hx)), e⟩
/-- THE POST OF A LAW: true, and the input reads as it did, where the call wrote nothing that was there. -/
theorem law_post {f : Func} {s : ChangeSpec} {fresh handsOn again : Bool} {W W' : World} {args : Array Value} {ds gs : List (DataW H)} {before : List MemPlace} {tb : TypeId}
    (hl : laidOutB P = true) (hT : ∀ t ∈ f.params.toList, P.readableRec t = true ∧ t < P.types.size) (hr : f.resultTypes = #[tb]) (hb : P.underlying tb = some .bool)
    (hW : DataW.Whole enc P f.params.toList s.vars false W args.toList ds gs before) (hvs : s.vars = [])
    (hres : (s.fn H (ds ++ gs)).results = [.lit (.bool true)]) (hargs : (s.fn H (ds ++ gs)).args = ds) (hvars : (s.fn H (ds ++ gs)).vars = []) (hx : Ext W W') :
    s.post enc P f false fresh handsOn again W args (.bool true) W' := by
  have hlt : ∀ p ∈ before, p.block < W.heap.size := fun p hp => hW.lt p hp
  have hold : ∀ p ∈ before, (fun b => decide (b < W.heap.size)) p.block = true := fun p hp => by simpa using hlt p hp
  have hW0 := hW
  obtain ⟨p, q, hA, hV, rfl, hz, hn⟩ := hW
  rw [hvs] at hV
  obtain ⟨rfl, rfl⟩ := trodVars_none hV
  rw [List.append_nil] at hlt hold hz
  have HA : ∀ sp : Nat → Bool, (∀ x ∈ p, sp x.block = true) → DataW.TrodAll enc P W' 0 sp true f.params.toList args.toList (s.fn H (ds ++ [])).args p := fun sp hs => by
    rw [hargs]
    exact trodAll_stays hl hT hA (fun x hx' => hx.out.same (hlt x hx')) hs
  have HR : ∀ (b : Nat) (sp : Nat → Bool) (hd : Bool), DataW.TrodAll enc P W' b sp hd f.resultTypes.toList ((Value.bool true).resultList f.resultTypes.size) (s.fn H (ds ++ [])).results [] := fun b sp hd => by
    rw [hres, hr]
    exact trodAll_cons_mk (shut_bool hb _) trodAll_mk0
  have HV : ∀ sp : Nat → Bool, DataW.TrodVars enc P W' sp s.vars (s.fn H (ds ++ [])).vars [] := fun sp => by
    rw [hvs, hvars]
    rfl
  refine ⟨ds, [], p ++ [], [], p, [], hW0, HR _ _ _, HA _ hold, HV _, World.keptBut_mono (fun x hx' => ⟨hx', ?_⟩) (hx.out.frame (· ∈ p ++ [])), fun _ => ?_⟩
  · rw [List.append_nil] at hx'
    exact Or.inr (Or.inl hx')
  · refine ⟨?_, _, _, ([] ++ p) ++ [], ⟨[] ++ p, [], trodAll_append (HA _ (fun _ _ => rfl)) (HR _ _ _), HV _, rfl, ?_, fun ha => by cases ha⟩, ?_⟩
    · exact ok_one hr rfl (okWide_bool_mk hb _)
    · intro b off hp
      have hin : MemPlace.cell b off ∈ p := by simpa using hp
      rw [hx.out.frozen (hlt _ hin)]
      exact hz b off hin
    · intro x hx' _
      simpa using hx'
end
end
end Go.Proofs.Ytjlcoglmjldjbaa
namespace Go.Proofs.Ytjlcoglmjldjbaa
section
open Go.ChangeShapes Go.WideShapes Go.ChangeAt Go.RowKit Go.Deep Go.Joins
set_option linter.unusedVariables false
set_option linter.unusedSimpArgs false
/-- the shape of a type; 'sl e by': a slice, an element takes 'by' bytes; 'st': a struct or an array -/
inductive Sh where
  | int (k : IntKind)
  | bool
  | str
  | sl (e : Sh) (bs : Nat)
  | st (fs : List Sh)
mutual
def Sh.n : Sh → Nat
  | .st fs => Sh.ns fs
  | .int _ => 1
  | .bool => 1
  | .str => 1
  | .sl _ _ => 1
def Sh.ns : List Sh → Nat
  | [] => 0
  | f :: fs => f.n + Sh.ns fs
end
mutual
def Shows (w : World) : Sh → List Value → Prop
  | .int k, cs => ∃ z, cs = [.int k z] ∧ (Lit.int k z).wf = true
  | .bool, cs => ∃ b, cs = [.bool b]
  | .str, cs => ∃ s : ByteArray, cs = [.string s] ∧ s.size ≤ 140737488351232
  | .sl e bs, cs => ∃ (A : Option Addr) (n c : Nat) (xs : List Value), cs = [.slice A n c] ∧ At w A xs ∧ xs.length = n * e.n ∧ n ≤ c ∧ c * bs ≤ 140737488351232 ∧ ∀ i, i < n → Shows w e ((xs.drop (i * e.n)).take e.n)
  | .st fs, cs => ShowsL w fs cs
def ShowsL (w : World) : List Sh → List Value → Prop
  | [], cs => cs = []
  | f :: fs, cs => ∃ a b, cs = a ++ b ∧ Shows w f a ∧ ShowsL w fs b
end
mutual
def Sh.fits (P : Program) : Sh → TypeId → Bool
  | .int k, t => match P.underlying t with | some (.int k') => decide (k' = k) | _ => false
  | .bool, t => match P.underlying t with | some .bool => true | _ => false
  | .str, t => match P.underlying t with | some .string => true | _ => false
  | .sl e bs, t => match P.underlying t with | some (.slice u) => e.fits P u && decide (P.cellsOf u = e.n) && decide (P.bytesOf u = bs) && decide (0 < e.n) | _ => false
  | .st fs, t => match P.underlying t with
    | some (.struct gs) => decide (P.cellsOf t = Sh.ns fs) && Sh.fitsF P fs gs.toList 0
    | some (.array n u) => decide (P.cellsOf t = Sh.ns fs) && decide (fs.length = n) && Sh.fitsA P fs u
    | _ => false
def Sh.fitsF (P : Program) : List Sh → List Field → Nat → Bool
  | [], [], _ => true
  | f :: fs, g :: gs, off => decide (g.offset = off) && decide (P.cellsOf g.type = f.n) && f.fits P g.type && Sh.fitsF P fs gs (off + f.n)
  | _, _, _ => false
def Sh.fitsA (P : Program) : List Sh → TypeId → Bool
  | [], _ => true
  | f :: fs, u => decide (P.cellsOf u = f.n) && f.fits P u && Sh.fitsA P fs u
end
theorem mapM_at {α β : Type} {f : α → Option β} : ∀ {l : List α} {ys : List β}, l.mapM f = some ys → ys.length = l.length ∧ ∀ (i : Nat) (a : α), l[i]? = some a → f a = ys[i]?
  | [], ys, h => by simp at h; subst h; simp
  | a :: l, ys, h => by
    simp only [List.mapM_cons, Option.bind_eq_bind, Option.pure_def, Option.bind_eq_some_iff] at h
    obtain ⟨b, hb, bs, hbs, he⟩ := h
    obtain rfl : b :: bs = ys := by simpa using he
    obtain ⟨h1, h2⟩ := mapM_at hbs
    refine ⟨by simp [h1], fun i x hx => ?_⟩
    cases i with
    | zero => simp at hx; subst hx; simpa using hb
    | succ i => simpa using h2 i x (by simpa using hx)
section
variable {H : Type} {enc : TypeId × Value → H} {P : Program}
theorem weightsAll_at {e : TypeId} : ∀ {ds : List (DataW H)} (i : Nat) (d : DataW H), ds[i]? = some d → ∀ x ∈ d.weights P e, x ∈ DataW.weightsAll P e ds
  | [], i, d, h, x, hx => by simp at h
  | d0 :: ds, 0, d, h, x, hx => by
    simp at h; subst h
    simp only [DataW.weightsAll, List.mem_append]; exact .inl hx
  | d0 :: ds, i + 1, d, h, x, hx => by
    simp only [DataW.weightsAll, List.mem_append]
    exact .inr (weightsAll_at i d (by simpa using h) x hx)
/-- the cells of a slice's elements -/
theorem cells_row {w : World} {a : Addr} {m len : Nat} (hm : 0 < m) (h : ∀ i, i < len → ∃ csi, w.cells? 0 (a.add (i * m)) m = some csi) :
    ∃ xs : List Value, xs.length = len * m ∧ At w (some a) xs ∧ ∀ i, i < len → ∀ csi, w.cells? 0 (a.add (i * m)) m = some csi → (xs.drop (i * m)).take m = csi := by
  have key : ∀ i, i < len → ∀ csi, w.cells? 0 (a.add (i * m)) m = some csi → csi.length = m ∧ ∀ r, r < m → w.cell? (a.add (i * m + r)) = csi[r]? := by
    intro i hi csi hc
    unfold World.cells? at hc
    rw [if_pos (Nat.zero_le _)] at hc
    obtain ⟨h1, h2⟩ := mapM_at hc
    refine ⟨by simpa using h1, fun r hr => ?_⟩
    have := h2 r r (by simp [hr])
    rw [add_add'] at this
    exact this
  have each : ∀ j, j < len * m → ∃ u, w.cell? (a.add j) = some u := by
    intro j hj
    have hi : j / m < len := by rw [Nat.div_lt_iff_lt_mul hm]; exact hj
    obtain ⟨csi, hc⟩ := h _ hi
    obtain ⟨h1, h2⟩ := key _ hi _ hc
    have hr := Nat.mod_lt j hm
    have := h2 _ hr
    rw [show j / m * m + j % m = j by rw [Nat.mul_comm]; exact Nat.div_add_mod j m] at this
    rw [List.getElem?_eq_getElem (by omega)] at this
    exact ⟨_, this⟩
  refine ⟨(List.range (len * m)).map fun j => (w.cell? (a.add j)).getD undef, by simp, fun j u hu => ?_, fun i hi csi hc => ?_⟩
  · rw [List.getElem?_map] at hu
    rcases Nat.lt_or_ge j (len * m) with hj | hj
    · obtain ⟨v, hv⟩ := each j hj
      rw [List.getElem?_range hj] at hu
      simp only [Option.map_some, hv, Option.getD_some, Option.some.injEq] at hu
      subst hu
      have := World.block_lt_of_cell? _ _ hv
      rw [add_block] at this
      exact ⟨a, rfl, this, hv⟩
    · rw [List.getElem?_eq_none (by simpa using hj)] at hu; cases hu
  · obtain ⟨h1, h2⟩ := key i hi csi hc
    have hb : i * m + m ≤ len * m := by
      have : (i + 1) * m ≤ len * m := Nat.mul_le_mul_right m hi
      rw [Nat.add_mul, Nat.one_mul] at this
      exact this
    apply List.ext_getElem?
    intro r
    rw [List.getElem?_take]
    by_cases hr : r < m
    · rw [if_pos hr, List.getElem?_drop, List.getElem?_map, List.getElem?_range (by omega), Option.map_some, h2 r hr, List.getElem?_eq_getElem (by omega)]
      rfl
    · rw [if_neg hr, List.getElem?_eq_none (by omega)]
mutual
theorem sees_of {w : World} : ∀ (s : Sh) (t : TypeId) (fuel : Nat) (cs : List Value) (x : DataW H × List MemPlace), s.fits P t = true → DataW.trod enc P w 0 (fun _ => true) true fuel t cs = some x →
    (∀ n ∈ x.1.weights P t, n ≤ reachBytes) → Shows w s cs
  | .int k, t, fuel, cs, x, hf, h, hw => by
    simp only [Sh.fits] at hf
    split at hf
    · rename_i k' hu
      obtain rfl := of_decide_eq_true hf
      obtain ⟨z, hc, _, hz⟩ := DataW.trod_int hu h
      exact ⟨z, hc, hz⟩
    · cases hf
  | .bool, t, fuel, cs, x, hf, h, hw => by
    simp only [Sh.fits] at hf
    split at hf
    · rename_i hu
      obtain ⟨b, hc, _⟩ := DataW.trod_bool hu h
      exact ⟨b, hc⟩
    · cases hf
  | .str, t, fuel, cs, x, hf, h, hw => by
    simp only [Sh.fits] at hf
    split at hf
    · rename_i hu
      obtain ⟨s, hc, rfl, _⟩ := DataW.trod_string hu h
      refine ⟨s, hc, ?_⟩
      have := hw s.data.toList.length (by simp [DataW.weights])
      exact this
    · cases hf
  | .sl e bs, t, fuel, cs, x, hf, h, hw => by
    simp only [Sh.fits] at hf
    split at hf
    · rename_i u hu
      simp only [Bool.and_eq_true, decide_eq_true_eq] at hf
      obtain ⟨⟨⟨he, hm⟩, hb⟩, hp⟩ := hf
      rcases DataW.trod_slice hu h with ⟨rfl, rfl⟩ | ⟨a, len, cap, elems, rest, n, _, rfl, rfl, _, hl, _, hlen, hel, hsp, _⟩
      · exact ⟨none, 0, 0, [], rfl, At.nil _ _, by simp, by simp, by simp, fun i hi => by omega⟩
      · obtain ⟨hrl, _⟩ := hsp rfl
        rw [hm] at hel
        have hsz := hw ((elems.length + rest.length) * P.bytesOf u) (by simp [DataW.weights, hu])
        rw [hlen, hrl, hb] at hsz
        have hR : reachBytes = 140737488351232 := rfl
        rw [hR] at hsz
        have hex : ∀ i, i < len → ∃ csi y, w.cells? 0 (a.add (i * e.n)) e.n = some csi ∧ elems[i]? = some y ∧ DataW.trod enc P w 0 (fun _ => true) true n u csi = some y := by
          intro i hi
          have h1 := hel i hi
          rw [List.getElem?_eq_getElem (by omega), Option.bind_eq_some_iff] at h1
          obtain ⟨csi, hc, hy⟩ := h1
          exact ⟨csi, _, hc, List.getElem?_eq_getElem (by omega), hy⟩
        obtain ⟨xs, hxl, hxa, hxe⟩ := cells_row (w := w) (a := a) (len := len) hp (fun i hi => let ⟨csi, _, hc, _⟩ := hex i hi; ⟨csi, hc⟩)
        refine ⟨some a, len, cap, xs, rfl, hxa, hxl, hl, ?_, fun i hi => ?_⟩
        · rw [show len + (cap - len) = cap by omega] at hsz
          exact hsz
        · obtain ⟨csi, y, hc, hy, ht⟩ := hex i hi
          rw [hxe i hi csi hc]
          refine sees_of e u n csi y he ht fun z hz => hw z ?_
          simp only [DataW.weights, hu, List.mem_cons, List.mem_append]
          refine .inr (.inl ?_)
          exact weightsAll_at i y.1 (by rw [List.getElem?_map, hy]; rfl) z hz
    · cases hf
  | .st fs, t, fuel, cs, x, hf, h, hw => by
    simp only [Sh.fits] at hf
    split at hf
    · rename_i gs hu
      simp only [Bool.and_eq_true, decide_eq_true_eq] at hf
      obtain ⟨hc, hF⟩ := hf
      obtain ⟨xs, n, _, rfl, hcl, hxl, hat⟩ := DataW.trod_struct hu h
      have := seesF_of fs gs.toList 0 cs xs n hF (fun i g hg => hat i g (by rw [← hg]; exact (Array.getElem?_toList ..).symm)) (by simpa using hxl) (by omega) (fun z hz => hw z (by simp only [DataW.weights, hu]; exact hz))
      rw [List.drop_zero, List.take_of_length_le (by omega)] at this
      exact this
    · rename_i n u hu
      simp only [Bool.and_eq_true, decide_eq_true_eq] at hf
      obtain ⟨⟨hc, hn⟩, hF⟩ := hf
      obtain ⟨xs, m, _, rfl, hcl, hxl, hat⟩ := DataW.trod_array hu h
      have := seesA_of fs u 0 cs xs m hF (fun i hi => by rw [Nat.zero_add]; exact hat i (by omega)) (by omega) (by rw [Nat.zero_mul, Nat.zero_add]; omega) (fun z hz => hw z (by simp only [DataW.weights, hu]; exact hz))
      rw [Nat.zero_mul, List.drop_zero, List.take_of_length_le (by omega)] at this
      exact this
    · cases hf
theorem seesF_of {w : World} : ∀ (fs : List Sh) (gs : List Field) (off : Nat) (cs : List Value) (xs : List (DataW H × List MemPlace)) (m : Nat), Sh.fitsF P fs gs off = true →
    (∀ (i : Nat) (g : Field), gs[i]? = some g → DataW.trod enc P w 0 (fun _ => true) true m g.type ((cs.drop g.offset).take (P.cellsOf g.type)) = xs[i]?) → xs.length = gs.length → off + Sh.ns fs ≤ cs.length →
    (∀ n ∈ DataW.weightsEach P (gs.map (·.type)) (xs.map (·.1)), n ≤ reachBytes) → ShowsL w fs ((cs.drop off).take (Sh.ns fs))
  | [], [], off, cs, xs, m, hf, h, hx, hl, hw => by simp [ShowsL, Sh.ns]
  | f :: fs, g :: gs, off, cs, xs, m, hf, h, hx, hl, hw => by
    simp only [Sh.fitsF, Bool.and_eq_true, decide_eq_true_eq] at hf
    obtain ⟨⟨⟨ho, hc⟩, hff⟩, hF⟩ := hf
    simp only [Sh.ns] at hl
    match xs, hx with
    | y :: ys, hx =>
      have h0 := h 0 g rfl
      simp only [List.getElem?_cons_zero] at h0
      rw [ho, hc] at h0
      refine ⟨(cs.drop off).take f.n, (cs.drop (off + f.n)).take (Sh.ns fs), ?_, sees_of f g.type m _ y hff h0 (fun z hz => hw z ?_), seesF_of fs gs (off + f.n) cs ys m hF (fun i g' hg => ?_) (by simpa using hx) (by omega) (fun z hz => hw z ?_)⟩
      · rw [Sh.ns, ← List.drop_drop, List.take_add]
      · simp only [List.map_cons, DataW.weightsEach, List.mem_append]; exact .inl hz
      · simpa using h (i + 1) g' (by simpa using hg)
      · simp only [List.map_cons, DataW.weightsEach, List.mem_append]; exact .inr hz
  | [], _ :: _, off, cs, xs, m, hf, h, hx, hl, hw => by simp [Sh.fitsF] at hf
  | _ :: _, [], off, cs, xs, m, hf, h, hx, hl, hw => by simp [Sh.fitsF] at hf
theorem seesA_of {w : World} : ∀ (fs : List Sh) (u : TypeId) (k : Nat) (cs : List Value) (xs : List (DataW H × List MemPlace)) (m : Nat), Sh.fitsA P fs u = true →
    (∀ i, i < fs.length → DataW.trod enc P w 0 (fun _ => true) true m u ((cs.drop ((k + i) * P.cellsOf u)).take (P.cellsOf u)) = xs[i]?) → xs.length = fs.length → k * P.cellsOf u + Sh.ns fs ≤ cs.length →
    (∀ n ∈ DataW.weightsAll P u (xs.map (·.1)), n ≤ reachBytes) → ShowsL w fs ((cs.drop (k * P.cellsOf u)).take (Sh.ns fs))
  | [], u, k, cs, xs, m, hf, h, hx, hl, hw => by simp [ShowsL, Sh.ns]
  | f :: fs, u, k, cs, xs, m, hf, h, hx, hl, hw => by
    simp only [Sh.fitsA, Bool.and_eq_true, decide_eq_true_eq] at hf
    obtain ⟨⟨hc, hff⟩, hF⟩ := hf
    simp only [Sh.ns] at hl
    match xs, hx with
    | y :: ys, hx =>
      have h0 := h 0 (by simp)
      simp only [List.getElem?_cons_zero, Nat.add_zero] at h0
      have hk : (k + 1) * P.cellsOf u = k * P.cellsOf u + f.n := by rw [Nat.add_mul, Nat.one_mul, hc]
      refine ⟨(cs.drop (k * P.cellsOf u)).take f.n, (cs.drop ((k + 1) * P.cellsOf u)).take (Sh.ns fs), ?_, sees_of f u m _ y hff (by rw [← hc]; exact h0) (fun z hz => hw z ?_), seesA_of fs u (k + 1) cs ys m hF (fun i hi => ?_) (by simpa using hx) (by rw [hk]; omega) (fun z hz => hw z ?_)⟩
      · rw [Sh.ns, hk, ← List.drop_drop, List.take_add]
      · simp only [List.map_cons, DataW.weightsAll, List.mem_append]; exact .inl hz
      · rw [show k + 1 + i = k + (i + 1) by omega]
        simpa using h (i + 1) (by simp; omega)
      · simp only [List.map_cons, DataW.weightsAll, List.mem_append]; exact .inr hz
end
end
/-- an argument opened -/
theorem sees_arg {H : Type} {enc : TypeId × Value → H} {P : Program} {w : World} {ts : List TypeId} {ds : List (DataW H)} (hsz : (DataW.weightsEach P ts ds).all (· ≤ reachBytes) = true) (j : Nat) {t : TypeId} {v : Value} {d : DataW H} {p : List MemPlace} (s : Sh)
    (hf : s.fits P t = true) (ht : ts[j]? = some t) (hd : ds[j]? = some d) (h : DataW.Trod enc P w 0 (fun _ => true) true t v d p) : Shows w s v.cells.toList := by
  obtain ⟨fuel, h⟩ := h
  exact sees_of s t fuel _ (d, p) hf h fun n hn => of_decide_eq_true (List.all_eq_true.1 hsz n (DataW.weights_mem_each ht hd n hn))
/-- the elements of a slice as a list -/
theorem chunks {T : Type} (f : T → List Value) (p : T → Prop) (m : Nat) : ∀ (n : Nat) (xs : List Value), xs.length = n * m → (∀ i, i < n → ∃ t, (xs.drop (i * m)).take m = f t ∧ p t) →
    ∃ ts : List T, ts.length = n ∧ xs = ts.flatMap f ∧ ∀ t ∈ ts, p t
  | 0, xs, hl, h => ⟨[], rfl, by simpa using hl, by simp⟩
  | n + 1, xs, hl, h => by
    obtain ⟨t, ht, hp⟩ := h 0 (by omega)
    rw [Nat.zero_mul, List.drop_zero] at ht
    have hle : (n + 1) * m = m + n * m := by rw [Nat.add_mul, Nat.one_mul, Nat.add_comm]
    obtain ⟨ts, h1, h2, h3⟩ := chunks f p m n (xs.drop m) (by rw [List.length_drop]; omega) (fun i hi => by
      obtain ⟨t', ht', hp'⟩ := h (i + 1) (by omega)
      refine ⟨t', ?_, hp'⟩
      rw [List.drop_drop, show m + i * m = (i + 1) * m by rw [Nat.add_mul, Nat.one_mul, Nat.add_comm]]
      exact ht')
    refine ⟨t :: ts, by simp [h1], ?_, by simpa using ⟨hp, h3⟩⟩
    rw [List.flatMap_cons, ← h2, ← ht, List.take_append_drop]
theorem flatMap_one {T : Type} (f : T → Value) : ∀ ts : List T, (ts.flatMap fun t => [f t]) = ts.map f
  | [] => rfl
  | t :: ts => by simp [flatMap_one f ts]
/-- a slice of ints -/
theorem sees_ints {w : World} {k : IntKind} {bs : Nat} {cs : List Value} (h : Shows w (.sl (.int k) bs) cs) :
    ∃ (A : Option Addr) (c : Nat) (zs : List Int), cs = [.slice A zs.length c] ∧ At w A (zs.map (Value.int k)) ∧ zs.length ≤ c ∧ c * bs ≤ 140737488351232 ∧ ∀ z ∈ zs, (Lit.int k z).wf = true := by
  simp only [Shows, Sh.n, Nat.mul_one] at h
  obtain ⟨A, n, c, xs, rfl, hA, hl, hc, hb, he⟩ := h
  obtain ⟨zs, h1, h2, h3⟩ := chunks (fun z => [Value.int k z]) (fun z => (Lit.int k z).wf = true) 1 n xs (by omega) (fun i hi => by rw [Nat.mul_one]; exact he i hi)
  rw [flatMap_one] at h2
  subst h1 h2
  exact ⟨A, c, zs, rfl, hA, hc, hb, h3⟩
/-- what an argument is -/
def ShowsV (w : World) (s : Sh) (v : Value) : Prop := match s with
  | .st fs => ∃ cs : List Value, v = .agg ⟨cs⟩ ∧ ShowsL w fs cs
  | s => Shows w s [v]
theorem sees_val {P : Program} {W w : World} {r : Reach} {b0 : Nat} {t : TypeId} {v : Value} (s : Sh) (hf : s.fits P t = true) (hv : Value.okWide P W r b0 t v) (h : Shows w s v.cells.toList) : ShowsV w s v := by
  cases s with
  | int k =>
    simp only [Sh.fits] at hf
    split at hf
    · rename_i k' hu
      obtain ⟨n, rfl⟩ := okWide_int hu hv
      exact h
    · cases hf
  | bool =>
    simp only [Sh.fits] at hf
    split at hf
    · rename_i hu
      obtain ⟨n, rfl⟩ := okWide_bool hu hv
      exact h
    · cases hf
  | str =>
    simp only [Sh.fits] at hf
    split at hf
    · rename_i hu
      obtain ⟨n, rfl⟩ := okWide_string hu hv
      exact h
    · cases hf
  | sl e bs =>
    simp only [Sh.fits] at hf
    split at hf
    · rename_i u hu
      obtain ⟨a, l, c, rfl⟩ := okWide_slice hu hv
      exact h
    · cases hf
  | st fs =>
    simp only [Sh.fits] at hf
    split at hf
    · rename_i gs hu
      obtain ⟨cs, rfl, _⟩ := okWide_struct hu hv
      exact ⟨cs.toList, rfl, h⟩
    · rename_i n u hu
      simp only [Value.okWide, hu] at hv
      obtain ⟨cs, rfl, _⟩ := hv
      exact ⟨cs.toList, rfl, h⟩
    · cases hf
end
end Go.Proofs.Ytjlcoglmjldjbaa
namespace Go.Proofs.Ytjlcoglmjldjbaa.treeNil
section
open Go.ChangeShapes Go.WideShapes Go.ChangeAt Go.RowKit Go.Deep Go.Joins
set_option linter.unusedVariables false
set_option maxRecDepth 100000 in
theorem lifted (os : Os) (started : os.Started) (H : Type) (enc : TypeId × Value → H) :
    ReturnsInHanded {} Try.checked os 5 .any (Rows.treeNilSpec.pre6 enc Try.prog Try.f5 Rows.treeNilRow.domain false) (Rows.treeNilSpec.post enc Try.prog Try.f5 false true false false) := by
  refine returnsInHanded_of_change_sized (C := Try.checked) ownKnob_none started (by kernel_rfl) Try.func5
    (ChangeSpec.witness6 (enc := enc) (C := Try.checked) false ⟨#[], #[.slice none 0 0], []⟩ 8 (by kernel_rfl) (by kernel_rfl) (by kernel_rfl) (by kernel_rfl)) ?_
  intro W base args ds gs before hval0 hW hcnd hsz0 _
  have hval : ∀ (j : Nat) t v, Try.f5.params[j]? = some t → args[j]? = some v → Value.okWide Try.prog W .any base t v := hval0
  have hsz : (DataW.weightsEach Try.prog (Try.f5.params.toList ++ Rows.treeNilSpec.plain.varTypes Try.prog) (ds ++ gs)).all (· ≤ reachBytes) = true := hsz0
  clear hsz0 hval0
  have hW' := hW
  obtain ⟨p, q, hA0, hV, rfl, hfz, hnd⟩ := hW
  have hA : DataW.TrodAll enc Try.prog W 0 (fun _ => true) true Try.f5.params.toList args.toList ds p := hA0
  clear hA0
  rw [Try.params5] at hA hval hsz
  obtain ⟨v0, vs0, d0, ds0, p0, q0, hargs, rfl, rfl, h0, r0⟩ := trodAll_cons hA
  obtain ⟨rfl, rfl, rfl⟩ := trodAll_nil r0
  obtain rfl : args = #[v0] := by cases args; simp_all
  obtain ⟨rfl, rfl⟩ := trodVars_none hV
  have s0 := sees_val (.sl (.int .i64) 8) (by kernel_rfl) (hval 0 _ _ rfl rfl) (sees_arg hsz 0 (.sl (.int .i64) 8) (by kernel_rfl) rfl rfl h0)
  clear hsz
  obtain ⟨A, c, l, hE, atA, lA, bA, wA⟩ := sees_ints s0
  cases hE
  refine (treenil_any A _ c l W atA rfl (by omega)).mono fun e W' ⟨he, hx⟩ => ?_
  subst he
  exact ⟨_, rfl, law_post laidOut (by rw [Try.params5]; exact (by decide +kernel)) rfl Try.underlying4 hW' rfl rfl rfl rfl hx⟩
theorem over : Rows.treeNilRow.holds Try.pinned (OpenSpec.ofChange Rows.treeNilSpec) :=
  OpenClaim.holds_of_wide 5 Try.f5 rfl rfl rfl rfl rfl rfl rfl ⟨rfl, rfl, rfl, rfl, rfl⟩ rfl rfl rfl rfl rfl (by kernel_rfl) Try.func5 (by kernel_rfl)
    (of_decide_eq_true (by kernel_rfl)) (by unfold Func.isWrapper; first | (rw [if_pos (by decide +kernel)]; kernel_rfl) | (rw [if_neg (by decide +kernel)]; exact ⟨rfl, rfl⟩))
    (fun os started H enc _ => lifted os started H enc)
theorem proved : Rows.TreeNilSaid :=
  over
end
end Go.Proofs.Ytjlcoglmjldjbaa.treeNil

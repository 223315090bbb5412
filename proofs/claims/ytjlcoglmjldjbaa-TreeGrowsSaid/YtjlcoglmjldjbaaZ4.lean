/- TreeGrowsRow: part 4 of the proof. -/
import Derived.Test.YtjlcoglmjldjbaaZ3
import Derived.RangeFuncBox
import Derived.RangeFuncBound
import Derived.RangeFuncCalls
import Derived.RangeFuncLeaves
import Derived.TacticsIn
import Derived.OrdersIn
import Derived.LoopNIn
set_option linter.unusedVariables false
set_option linter.unusedSimpArgs false
namespace Go.Proofs.Ytjlcoglmjldjbaa
section
open Go.RowKit
set_option linter.unusedVariables false
set_option linter.unusedSimpArgs false
def idxP {α : Type} (p : α → Bool) (k : Int) : List α → Int
  | [] => -1
  | x :: l => if p x then k else idxP p (k + 1) l
theorem idxP_at {α : Type} {p : α → Bool} {l : List α} {x : α} {k : Nat} (h : l[k]? = some x) : idxP p (k : Int) (l.drop k) = if p x then (k : Int) else idxP p ((k + 1 : Nat) : Int) (l.drop (k + 1)) := by
  obtain ⟨hk, rfl⟩ := List.getElem?_eq_some_iff.1 h
  rw [List.drop_eq_getElem_cons hk, idxP]; rfl
theorem idxP_any {α : Type} (p : α → Bool) (l : List α) : ∀ k : Int, 0 ≤ k → decide (0 ≤ idxP p k l) = l.any p := by
  induction l with
  | nil => intro k _; rfl
  | cons x l ih =>
    intro k hk
    rw [idxP, List.any_cons]
    cases p x with
    | true => rw [if_pos rfl, Bool.true_or]; exact decide_eq_true hk
    | false => rw [if_neg (by decide), Bool.false_or]; exact ih (k + 1) (by omega)
theorem getE3 {l : List EnD} {k : Nat} (h : k < l.length) : ∃ x y z, l[k]? = some (x, y, z) := ⟨l[k].1, l[k].2.1, l[k].2.2, List.getElem?_eq_getElem h⟩
set_option maxRecDepth 100000 in
set_option maxHeartbeats 4000000 in
theorem kfresh_any (pg : Int) (np lv rt fr : Int) (hg : ByteArray) (EA : Option Addr) (ec n : Nat) (es : List EnD) (w : World) (hE : At w EA (es.flatMap enC)) (hn : es.length = n) (hez : ∀ e ∈ es, e.1.size ≤ 1000000) (hnb : n ≤ 1000) (hlv : 0 ≤ lv ∧ lv ≤ 256) (hrt : -1 ≤ rt ∧ rt ≤ 1000000) (hhi : hg.size ≤ 1000000) :
    Calls Try.prog 81 #[.int .i64 pg, .agg #[.int .i64 np, .int .i64 lv, .int .i64 rt, .string hg, .bool false, .slice EA n ec, .int .i64 fr]] w (EdPost (freshE pg lv rt hg es) w) := by
  go_enter Try.func81, Try.ntmps81
  have hst0 := St.start w
  refine wp_seq (sqr ?_)
  refine sqbx #[vi np, vi lv, vi rt, .string hg, .bool false, .slice EA n ec, vi fr] hst0 fun B3_1 W1 hst1 => ?_
  refine sqp [.k 4 (.slice none 0 0)] ?_
  refine then_normal (wp_seq (wp_region_Y [0, 0, 2, 7, 0, 0, 32, 112, 255, 511] [[], [], [1], [], [], [0]] [[], [1], [], [], [], [], [], [], [2]] [] [.k 8 (vi pg), .a 9, .c 10 (.string (strOfNums ([2]))), .k 11 (.agg #[vi pg, vi (-1), .string (strOfNums ([2]))]), .k 12 (vi pg), .c 13 (.agg #[vi np, vi lv, vi rt, .string hg, .bool false, .slice EA n ec, vi fr]), .c 14 (.string (hdB lv rt false hg)), .k 15 (.agg #[vi pg, vi 0, .string (hdB lv rt false hg)]), .a 16, .a 5] (fun ix σ β X => match ix with | 0 => True | 1 => σ 9 = .slice (sA (β 9)) 1 1 ∧ X 1 = eO 5 1 (.slice (sA (β 9)) 1 1) 1 ([.int .u8 2]) | 2 => True | 3 => True | 4 => True | 5 => True | 6 => True | 7 => True | 8 => σ 16 = .slice ((some ⟨(pb' (β 16)), 0, none⟩)) 2 2 ∧ X 2 = eO 99 3 (.slice ((some ⟨(pb' (β 16)), 0, none⟩)) 2 2) 2 ([vi pg, vi (-1), .string (strOfNums ([2])), vi pg, vi 0, .string (hdB lv rt false hg)]) | 9 => σ 5 = .slice ((some ⟨(pb' (β 16)), 0, none⟩)) 2 2 | _ => True) [0, 1, 2] [1, 2, 5, 6, 8, 9] [(5, 9, 1, 6), (2, 0, 9, 11)] hst1 ?_ ?_ ?_))
  · exact fun ix _ _ _ _ _ _ hs hb hx h => match ix, h with
    | 1, h => by dsimp only; rw [← hs 9 rfl, ← hb 9 rfl, ← hx 1 rfl]; exact h
    | 8, h => by dsimp only; rw [← hs 16 rfl, ← hb 16 rfl, ← hx 2 rfl]; exact h
    | 9, h => by dsimp only; rw [← hs 5 rfl, ← hb 16 rfl]; exact h
    | 0, _ | 2, _ | 3, _ | 4, _ | 5, _ | 6, _ | 7, _ | _ + 10, _ => trivial
  · refine ⟨?_, ?_, ?_, ?_, ?_, ?_, trivial⟩
    · refine svA fun ρ β W X cx => ?_
      exact dv_lit (e := 5) (xs := [.int .u8 2]) rfl (by simp [go_sem, cx.sees.const]) rfl (by decide) rfl rfl (fun σ β' X' hs hb hv hx => ⟨hv, hx⟩)
    · exact xs4 rfl id fun cx => run_convB (e := 5) rfl (by kernel_rfl) (by kernel_rfl) (by kernel_rfl) (dTn (cx.an 1)).1 (cx.row (dTn (cx.an 1)).2 rfl)
    · exact xs4 rfl id fun cx => run_loadB (n := 7) rfl (by kernel_rfl) (by kernel_rfl) (cx.ou 3) (cx.bi 0 rfl) (nle rfl) rfl
    · exact xsc rfl id rfl rfl fun cx => ⟨_, khead_le np lv rt fr hg false _ _ _ _ (by omega) (by omega) (by first | omega | decide), (map1 (cx.an 5))⟩
    · refine svA fun ρ β W X cx => ?_
      have fF11 : ρ (.tmp 11) = .agg #[vi pg, vi (-1), .string (strOfNums ([2]))] := (cx.an 3)
      have fF15 : ρ (.tmp 15) = .agg #[vi pg, vi 0, .string (hdB lv rt false hg)] := (cx.an 7)
      exact dv_litN (e := 99) (sz := 3) (xs := [vi pg, vi (-1), .string (strOfNums ([2])), vi pg, vi 0, .string (hdB lv rt false hg)]) rfl (by simp [go_sem, fF11, fF15]) rfl (by decide) rfl rfl (fun σ β' X' hs hb hv hx => ⟨hv, hx⟩)
    · exact sv rfl rfl rfl rfl rfl _ (fun _ _ _ h => h) (fun β β' h => by rw [h 16 (by decide)]) fun ρ β W X cx => run_assign' rfl (dTn (cx.an 8)).1
  intro σ β X W3 hD hst3 fr hfr
  obtain ⟨A9_3, hu_A9_3⟩ : ∃ z, sA (β 9) = z := ⟨_, rfl⟩
  obtain ⟨B16_3, hu_B16_3⟩ : ∃ z, pb' (β 16) = z := ⟨_, rfl⟩
  simp only [exq 1 ((dTn (hD 1 lq)).2), exq 2 ((dTn (hD 8 lq)).2), hu_A9_3, hu_B16_3] at hst3
  simp only [ed 9 ((dTn (hD 1 lq)).1), ed 16 ((dTn (hD 8 lq)).1), ed 5 ((dTn (hD 9 lq))), hu_A9_3, hu_B16_3] at hfr
  clear hD hu_A9_3 hu_B16_3; subst hfr; clear σ β X
  refine then_normal (wp_seq (wp_seq (sqr (sqp [.k 17 (.pointer (some ⟨B3_1, 5, none⟩))] ?_))))
  refine sqld 0 hst3 ?_
  refine sqp [.k 19 (vi ((n : Int))), .k 20 (vi 0)] ?_
  refine then_normal (wp_block ?_)
  rw [show [vi pg, vi (-1), .string (strOfNums ([2])), vi pg, vi 0, .string (hdB lv rt false hg)] = (hd2E pg lv rt hg).flatMap edC from rfl] at hst3
  refine wp_loopT (fun t_ mz az W => ∃ i : Nat, ∃ nn : Nat, ∃ O : List EdT, ∃ OA : Option Addr, ∃ OC : Nat, i ≤ n ∧ O = hd2E pg lv rt hg ++ itsE pg lv 1 (es.take i) ∧ O.length = nn ∧ nn ≤ 10 + i ∧ mz = n - i ∧ az = ⟨(ovr (jv az) [(5, 5, 0, [.slice OA nn OC]), (0, 6, 2, []), (12, 20, 0, [vi ((i : Int))]), (0, 21, 15, [])] t_).toArray, []⟩ ∧ St w [] [eB B3_1 116 #[vi np, vi lv, vi rt, .string hg, .bool false, .slice EA n ec, vi fr], eO 5 1 (.slice A9_3 1 1) 1 ([.int .u8 2]), eO 99 3 (.slice OA nn OC) nn (O.flatMap edC)] W) (n - 0) ?_ ?_
  · -- the loop begins
    exact ⟨0, 2, (hd2E pg lv rt hg), (some ⟨B16_3, 0, none⟩), 2, Nat.zero_le _, rfl, rfl, by omega, rfl, (by kernel_rfl), hst3.pk [0, 1, 2]⟩
  rintro n8 a8 W8 ⟨i, nn, O, OA, OC, hi, hO, hOl, hnn, rfl, hj_, hst8⟩
  refine ovz hj_ fun u8_ => ?_
  refine wp_seq (sqr (sqp [.k 21 (.bool (decide ((i : Int) < (n : Int))))] ?_))
  refine then_normal (wp_seq (wds (fun hs10 hs10p => ?_) fun hs10 hs10p => ?_))
  · refine wp_skip (then_normal (wp_seq (wp_block (wp_seq (sqr (sqp [.m 22 20] ?_))))))
    refine sql (.pointer (some ((ad EA).add (i * 3)))) hst8 (fun cx => run_indexSlM (e := 104) (m := i) (sz := 3) rfl (by kernel_rfl) (by kernel_rfl) (cx.ou 18) (cx.ou 20) (by omega) (by omega) (hE.ext cx.upd.to_ext) (flatPos (sz := 3) enC_len (by decide) (by omega))) ?_
    refine sql (.agg #[.string ((es.getD i en0).1), vi (((es.getD i en0).2.1 : Int)), vi ((es.getD i en0).2.2)]) hst8 (fun cx => run_loadElt (f := enC) (m := i) (sz := 3) (off := 0) (n := 3) rfl (by kernel_rfl) (by kernel_rfl) (cx.ou 23) rfl enC_len (hE.ext cx.upd.to_ext) (en_get (by omega)) (fun k hk => match k, hk with | 0, _ => rfl | 1, _ => rfl | 2, _ => rfl | k + 3, hk => absurd hk (by omega))) ?_
    refine sqal #[.string ByteArray.empty, vi 0, vi 0] hst8 fun B7_14 W14 hst14 => ?_
    refine sqp [.m 6 22] ?_
    refine sqst (n := 3) 3 #[.string ((es.getD i en0).1), vi (((es.getD i en0).2.1 : Int)), vi ((es.getD i en0).2.2)] hst14 fun W16 hst16 => ?_
    refine then_normal (sqr (sqp [.m 25 5, .m 26 0, .m 27 6, sI 28 ((i : Int) + 1) (by omega)] ?_))
    refine sqlb 0 7 hst16 ?_
    refine sqlb 3 3 hst16 ?_
    refine sqk (.string (itB lv ((es.getD i en0).2.2) ((es.getD i en0).1))) hst16 (fun cx => ⟨_, kitem_any np lv rt fr hg false _ _ _ ((es.getD i en0).1) ((es.getD i en0).2.1 : Int) ((es.getD i en0).2.2) _ (getD_size hez _), (map2 (cx.ou 29) (cx.ou 30))⟩) fun W23 hst23 => ?_
    refine sqp [.k 32 (.agg #[vi pg, vi ((i : Int) + 1), .string (itB lv ((es.getD i en0).2.2) ((es.getD i en0).1))])] ?_
    refine sqli 99 3 1 (edC (pg, (i : Int) + 1, itB lv ((es.getD i en0).2.2) ((es.getD i en0).1))) hst23 (@fun ρ β W X cx => by have fF32 : ρ (.tmp 32) = .agg #[vi pg, vi ((i : Int) + 1), .string (itB lv ((es.getD i en0).2.2) ((es.getD i en0).1))] := (cx.ou 32); simp [go_sem, fF32, edC]) fun B33_25 W25 hst25 => ?_
    refine sqap (nn + 1) ((O ++ [(pg, (i : Int) + 1, itB lv ((es.getD i en0).2.2) ((es.getD i en0).1))]).flatMap edC) 2 hst25 Try.infoEdit (fun cx => (At.of_ownN (cx.ri 4 rfl))) (h1 := by simp [edC, Value.oneCell']) (hxs := ed_snoc _ _) fun A34_26 c34_26 W26 hst26 => ?_
    refine sqp [.m 5 34] ?_
    refine blk_normal (then_normal (sqr (sqp [sI 35 ((i : Int) + 1) (by omega), .m 20 35] ?_)))
    refine then_normal ?_
    refine ⟨n - ((i + 1)), by omega, ?_⟩
    exact ⟨(i + 1), (nn + 1), (O ++ [(pg, (i : Int) + 1, itB lv ((es.getD i en0).2.2) ((es.getD i en0).1))]), A34_26, c34_26, by omega, by rw [hO, itsE_snoc (by omega), ← List.append_assoc]; (first | rfl | (congr 4; omega) | simp), by rw [List.length_append, hOl]; rfl, by omega, rfl, (by kernel_rfl), hst26.pk [0, 1, 2]⟩
  refine wp_exit (then_exit (then_exit (blk_eq (then_normal (wp_seq (sqr (sqp [.m 36 5, .m 4 36] ?_)))))))
  refine then_normal (wp_ret ?_)
  refine bpr (.slice OA nn OC) (results_1 Try.results81 rpt) ?_
  rw [fresh_all (by omega)] at hO
  rw [hO] at hst8 hOl
  rw [← hOl] at hst8 ⊢
  have ho_ := hst8.own' 2 rfl
  exact ⟨_, _, rfl, ho_, hst8.ext⟩
theorem kfresh_0 (pg : Int) (w : World) : Calls Try.prog 81 #[.int .i64 pg, .agg #[.int .i64 0, .int .i64 0, .int .i64 (-1), .string ⟨#[]⟩, .bool false, .slice none 0 0, .int .i64 0]] w (EdPost (begF pg) w) := kfresh_any pg 0 0 (-1) 0 ⟨#[]⟩ none 0 0 [] w (At.nil _ _) rfl (fun e he => nomatch he) (by decide) (by decide) (by decide) (by decide)
set_option maxRecDepth 100000 in
set_option maxHeartbeats 2000000 in
theorem kbegin_any (n : Int) (w : World) :
    Calls Try.prog 46 #[.int .i64 n] w (EdPost (begF n) w) := by
  go_enter Try.func46, Try.ntmps46
  have hst0 := St.start w
  refine wp_seq (sqr (sqp [.k 2 (.slice none 0 0)] ?_))
  refine then_normal (wp_seq (sqr (sqp [.m 3 0, .k 4 (.agg #[vi 0, vi 0, vi (-1), .string ByteArray.empty, .bool false, .slice none 0 0, vi 0])] ?_)))
  refine sqk2 (fun A5_4 c5_4 => .slice A5_4 2 c5_4) (fun A5_4 c5_4 => eO 99 3 (.slice A5_4 2 c5_4) 2 ((begF n).flatMap edC)) hst0 (fun cx => ⟨_, (kfresh_0 n _).mono (by rintro e W1 ⟨A4, c4, rfl, ho_, hx⟩; exact ⟨_, _, rfl, St.one hx (eO_new (n := 2) (xs := (begF n).flatMap edC) ho_)⟩), (map2 (cx.ou 3) (cx.ou 4))⟩) fun A5_4 c5_4 W4 hst4 => ?_
  refine sqp [.m 2 5] ?_
  refine then_normal (wp_ret ?_)
  refine bpr (.slice A5_4 2 c5_4) (results_1 Try.results46 rpt) ?_
  have ho_ := hst4.own' 0 rfl
  exact ⟨_, _, rfl, ho_, hst4.ext⟩
set_option maxRecDepth 100000 in
set_option maxHeartbeats 2000000 in
theorem kidx_any (FA : Option Addr) (fc : Nat) (ks : List EnD) (f0 : FuncId) (cap : Array Value) (p : EnD → Bool) (w : World) (hF : At w FA (ks.flatMap enC)) (hl : ks.length ≤ 100000) (hcf : callP Try.prog f0 = true) (hf : ∀ (W : World) (k : EnD), Ext w W → Calls Try.prog f0 (#[.agg #[.string k.1, .int .i64 (k.2.1 : Int), .int .i64 k.2.2]] ++ cap) W (Ret (.bool (p k)) W)) :
    Calls Try.prog 82 #[.slice FA ks.length fc, .func (.func f0) #[] cap] w (Ret (.int .i64 (idxP p 0 ks)) w) := by
  go_enter Try.func82, Try.ntmps82
  have hst0 := St.start w
  refine wp_seq (sqr (sqp [.k 4 (vi 0)] ?_))
  refine then_normal (wp_seq (wp_seq (sqr (sqp [.m 6 0, .k 7 (vi ((ks.length : Int))), .k 8 (vi 0)] ?_))))
  refine then_normal (wp_block ?_)
  refine wp_loopT (fun t_ mz az W => ∃ k : Nat, k ≤ ks.length ∧ idxP p 0 ks = idxP p (k : Int) (ks.drop k) ∧ mz = ks.length - k ∧ az = ⟨(ovr (jv az) [(4, 4, 2, []), (2, 8, 0, [vi ((k : Int))]), (0, 9, 10, [])] t_).toArray, []⟩ ∧ St w [] [] W) (ks.length - 0) ?_ ?_
  · -- the loop begins
    exact ⟨0, Nat.zero_le _, rfl, rfl, (by kernel_rfl), hst0.pk []⟩
  rintro n5 a5 W5 ⟨k, hk, hkr, rfl, hj_, hst5⟩
  refine ovz hj_ fun u5_ => ?_
  refine wp_seq (sqr (sqp [.k 9 (.bool (decide ((k : Int) < (ks.length : Int))))] ?_))
  refine then_normal (wp_seq (wds (fun hs7 hs7p => ?_) fun hs7 hs7p => ?_))
  · refine wp_skip (then_normal (wp_seq (wp_block (wp_seq (sqr (sqp [.m 10 8, .m 5 10] ?_))))))
    refine then_normal (wp_seq ?_)
    obtain ⟨kx, ky, kz, hkj⟩ := getE3 (l := ks) (k := k) (by omega)
    refine sqr (sqp [.m 11 1, .m 12 0, .m 13 5] ?_)
    refine sql (.pointer (some ((ad FA).add (k * 3)))) hst5 (fun cx => run_indexSlM (e := 104) (m := k) (sz := 3) rfl (by kernel_rfl) (by kernel_rfl) (cx.ou 12) (cx.ou 13) (by omega) (by omega) (hF.ext cx.upd.to_ext) (flatPos (sz := 3) enC_len (by decide) (by omega))) ?_
    refine sql (.agg #[.string kx, vi ((ky : Int)), vi kz]) hst5 (fun cx => run_loadElt (f := enC) (m := k) (sz := 3) (off := 0) (n := 3) rfl (by kernel_rfl) (by kernel_rfl) (cx.ou 14) rfl enC_len (hF.ext cx.upd.to_ext) hkj (fun k hk => match k, hk with | 0, _ => rfl | 1, _ => rfl | 2, _ => rfl | k + 3, hk => absurd hk (by omega))) ?_
    refine sqv (.bool ((p (kx, ky, kz)))) hst5 (sv_call rfl rfl rfl rfl rfl (fun _ _ _ h => h) fun ρ β W X cx => ⟨_, _, run_callV (f := f0) (args := #[.agg #[.string kx, vi ((ky : Int)), vi kz]]) (args' := #[.agg #[.string kx, vi ((ky : Int)), vi kz]] ++ cap) rfl rfl (cx.ou 11) hcf (map1 (cx.ou 15)) (by rw [Array.empty_append]), (by have h9 := hf W (kx, ky, kz) cx.upd.to_ext; dsimp only at h9; exact h9)⟩) fun W15 hst15 => ?_
    refine then_normal (wbs (fun hs16 => ?_) fun hs16 => ?_)
    · refine wp_seq (sqr (sqp [.m 17 5, .m 4 17] ?_))
      refine then_normal (wp_ret (blk_ret (then_ret (then_ret (blk_ret (then_ret ?_))))))
      refine bpr (vi ((k : Int))) (results_1 Try.results82 rpt) ?_
      exact Ret.of (by rw [hkr, idxP_at hkj, hs16]; rfl) hst15.ext
    refine wp_skip (blk_normal (then_normal (sqr (sqp [sI 18 ((k : Int) + 1) (by omega), .m 8 18] ?_))))
    refine then_normal ?_
    refine ⟨ks.length - ((k + 1)), by omega, ?_⟩
    exact ⟨(k + 1), by omega, by rw [hkr, idxP_at hkj, hs16]; rfl, rfl, (by kernel_rfl), hst15.pk []⟩
  refine wp_exit (then_exit (then_exit (blk_eq (then_normal (wp_seq (sqr (sqp [.k 4 (vi (-1))] ?_)))))))
  refine then_normal (wp_ret ?_)
  refine bpr (vi (-1)) (results_1 Try.results82 rpt) ?_
  exact Ret.of (by rw [hkr, List.drop_of_length_le (by omega)]; rfl) hst5.ext
set_option maxRecDepth 100000 in
set_option maxHeartbeats 2000000 in
theorem kcon_any (FA : Option Addr) (fc : Nat) (ks : List EnD) (f0 : FuncId) (cap : Array Value) (p : EnD → Bool) (w : World) (hF : At w FA (ks.flatMap enC)) (hl : ks.length ≤ 100000) (hcf : callP Try.prog f0 = true) (hf : ∀ (W : World) (k : EnD), Ext w W → Calls Try.prog f0 (#[.agg #[.string k.1, .int .i64 (k.2.1 : Int), .int .i64 k.2.2]] ++ cap) W (Ret (.bool (p k)) W)) :
    Calls Try.prog 51 #[.slice FA ks.length fc, .func (.func f0) #[] cap] w (Ret (.bool (ks.any p)) w) := by
  go_enter Try.func51, Try.ntmps51
  have hst0 := St.start w
  refine wp_seq (sqr (sqp [.k 4 (.bool false)] ?_))
  refine then_normal (wp_seq (sqr (sqp [.m 5 0, .m 6 1] ?_)))
  refine sqv (vi ((idxP p 0 ks))) hst0 (sv_call rfl rfl rfl rfl rfl (fun _ _ _ h => h) fun ρ β W X cx => ⟨_, _, run_callF (args := #[.slice FA ks.length fc, .func (.func f0) #[] cap]) rfl cx.sees rfl (by kernel_rfl) (map2 (cx.ou 5) (cx.ou 6)), kidx_any _ _ ks _ _ p _ (hF.ext cx.upd.to_ext) hl hcf (fun W k hW => hf W k (cx.upd.to_ext.trans hW))⟩) fun W4 hst4 => ?_
  refine sqp [.k 8 (.bool (decide (0 ≤ (idxP p 0 ks)))), .m 4 8] ?_
  refine then_normal (wp_ret ?_)
  refine bpr (.bool (decide (0 ≤ (idxP p 0 ks)))) (results_1 Try.results51 rpt) ?_
  exact Ret.of (by rw [← idxP_any _ _ 0 (by omega)]) hst4.ext
set_option maxRecDepth 100000 in
set_option maxHeartbeats 2000000 in
theorem kput1_any (x : ByteArray) (y z : Int) (tb : Nat) (te : ByteArray) (t1 tk tl : Int) (w : World) (h1 : Blk w tb 106 #[.string te, .int .i64 t1, .int .i64 tk, .int .i64 tl]) :
    Calls Try.prog 83 #[.agg #[.string x, .int .i64 y, .int .i64 z], .pointer (some ⟨tb, 0, none⟩)] w (Ret (.bool (x.toList == te.toList)) w) := by
  go_enter Try.func83, Try.ntmps83
  have hst0 := St.start w
  refine wp_seq (sqr ?_)
  refine sqbx #[.string x, vi y, vi z] hst0 fun B2_1 W1 hst1 => ?_
  refine sqp [.k 3 (.bool false)] ?_
  refine then_normal (wp_seq (sqr (sqp [.k 4 (vp B2_1)] ?_)))
  refine sqld 0 hst1 ?_
  refine sqp [.k 6 (vp tb), .k 7 (vp tb)] ?_
  refine sql (.string te) hst1 (fun cx => run_load1 rfl (by kernel_rfl) (cx.ou 7) ((Blk.ext h1 cx.upd.to_ext).cell 0)) ?_
  refine sqp [.k 9 (.bool (x.toList == te.toList)), .m 3 9] ?_
  refine then_normal (wp_ret ?_)
  refine bpr (.bool (x.toList == te.toList)) (results_1 Try.results83 rpt) ?_
  exact Ret.bool rfl hst1.ext
theorem kput1_con {A : Option Addr} {c : Nat} {es : List EnD} {w : World} {tb : Nat} {te : ByteArray} {t1 tk tl : Int} (hE : At w A (es.flatMap enC)) (hl : es.length ≤ 100000) (h1 : Blk w tb 106 #[.string te, .int .i64 t1, .int .i64 tk, .int .i64 tl]) :
    Calls Try.prog 51 #[.slice A es.length c, .func (.func 83) #[] #[.pointer (some ⟨tb, 0, none⟩)]] w (Ret (.bool (hasE es te)) w) :=
  kcon_any A c es 83 #[.pointer (some ⟨tb, 0, none⟩)] (fun e => e.1.toList == te.toList) w hE hl (by kernel_rfl) (fun W k hW => kput1_any k.1 _ k.2.2 tb te t1 tk tl W (h1.ext hW))
set_option maxRecDepth 100000 in
set_option maxHeartbeats 2000000 in
theorem kstep1_any (x : ByteArray) (y z : Int) (tb : Nat) (te : ByteArray) (t1 tk tl : Int) (w : World) (h1 : Blk w tb 106 #[.string te, .int .i64 t1, .int .i64 tk, .int .i64 tl]) :
    Calls Try.prog 48 #[.agg #[.string x, .int .i64 y, .int .i64 z], .pointer (some ⟨tb, 0, none⟩)] w (Ret (.bool (x.toList == te.toList)) w) := by
  go_enter Try.func48, Try.ntmps48
  have hst0 := St.start w
  refine wp_seq (sqr ?_)
  refine sqbx #[.string x, vi y, vi z] hst0 fun B2_1 W1 hst1 => ?_
  refine sqp [.k 3 (.bool false)] ?_
  refine then_normal (wp_seq (sqr (sqp [.k 4 (vp B2_1)] ?_)))
  refine sqld 0 hst1 ?_
  refine sqp [.k 6 (vp tb), .k 7 (vp tb)] ?_
  refine sql (.string te) hst1 (fun cx => run_load1 rfl (by kernel_rfl) (cx.ou 7) ((Blk.ext h1 cx.upd.to_ext).cell 0)) ?_
  refine sqp [.k 9 (.bool (x.toList == te.toList)), .m 3 9] ?_
  refine then_normal (wp_ret ?_)
  refine bpr (.bool (x.toList == te.toList)) (results_1 Try.results48 rpt) ?_
  exact Ret.bool rfl hst1.ext
theorem kstep1_con {A : Option Addr} {c : Nat} {es : List EnD} {w : World} {tb : Nat} {te : ByteArray} {t1 tk tl : Int} (hE : At w A (es.flatMap enC)) (hl : es.length ≤ 100000) (h1 : Blk w tb 106 #[.string te, .int .i64 t1, .int .i64 tk, .int .i64 tl]) :
    Calls Try.prog 51 #[.slice A es.length c, .func (.func 48) #[] #[.pointer (some ⟨tb, 0, none⟩)]] w (Ret (.bool (hasE es te)) w) :=
  kcon_any A c es 48 #[.pointer (some ⟨tb, 0, none⟩)] (fun e => e.1.toList == te.toList) w hE hl (by kernel_rfl) (fun W k hW => kstep1_any k.1 _ k.2.2 tb te t1 tk tl W (h1.ext hW))
end
end Go.Proofs.Ytjlcoglmjldjbaa
namespace Go.Proofs.Ytjlcoglmjldjbaa
section
open Go.RowKit
set_option linter.unusedVariables false
set_option linter.unusedSimpArgs false
def tkK (t : TaT) : List Value := [.string t.1, .int .i64 0, .int .i64 t.2.2, .int .i64 t.2.1]
theorem tkK_len (t : TaT) : (tkK t).length = 4 := rfl
/-- an insertion: its block; its pending entries lie in the blocks behind it -/
def ePk (b : Nat) (p : PuT) (fp : List Nat) : Ent := ⟨fp, fun W => ∃ A c g, fp = b :: g ∧ b ∉ g ∧ p.left.length ≤ c ∧ (∀ ad, A = some ad → p.left ≠ [] → ad.block ∈ g) ∧ (∀ k ∈ g, k < W.heap.size) ∧ Blk W b 109 (puC p A c) ∧ At W A (p.left.flatMap tkK)⟩
theorem ePk_self {e : Ent} {b : Nat} {p : PuT} {fp : List Nat} (h : e = ePk b p fp) : e = ePk b p e.fp := by subst h; rfl
theorem ePk_loc (b : Nat) (p : PuT) (fp : List Nat) : (ePk b p fp).loc := fun W W' hk h => by
  obtain ⟨A, c, g, rfl, h2, h3, h4, h5, h6, h7⟩ := h
  refine ⟨A, c, g, rfl, h2, h3, h4, fun k hkg => ?_, (hk b (by simp [ePk])).trans h6, at_blocks h7 fun ad e hl => hk _ (by simp [ePk, h4 ad e hl])⟩
  have h8 := hk k (by simp [ePk, hkg])
  rcases Nat.lt_or_ge k W'.heap.size with h9 | h9
  · exact h9
  · rw [Array.getElem?_eq_none h9, Array.getElem?_eq_getElem (h5 k hkg)] at h8; cases h8
/-- behind a step: the pending entries lie where they lay -/
theorem pk_old {w W : World} {b : Nat} {g fp : List Nat} {p : PuT} {A : Option Addr} {c : Nat} {E : Ent} (h : St w [b] [eB b 109 (puC p A c), E] W) (hfp : fp = b :: g) (hbg : b ∉ g) (hlt : ∀ k ∈ g, k < w.heap.size) (hc : p.left.length ≤ c) (hA : At W A (p.left.flatMap tkK)) (hAg : ∀ ad, A = some ad → p.left ≠ [] → ad.block ∈ g) : ∃ fp', St w fp [ePk b p fp', E] W := by
  subst hfp
  have h1 := h.ok _ (List.mem_cons_self ..)
  have h2 := h.ok E (by simp)
  have ha := List.pairwise_pair.1 h.apart
  have hB : Blk W b 109 (puC p A c) := h1.holds
  have hnew : ∀ k ∈ E.fp, w.heap.size ≤ k := fun k hk => by
    rcases (h2.own k hk).1 with h3 | h3
    · exact absurd hk (ha k (by simpa [eB] using h3))
    · exact h3
  refine ⟨b :: g, h.upd.mono (fun k _ hk => by simp at hk; simp [hk]), fun x hx => ?_, List.pairwise_pair.2 fun k hk hk' => ?_⟩
  · simp only [List.mem_cons, List.not_mem_nil, or_false] at hx
    rcases hx with rfl | rfl
    · refine ⟨⟨A, c, g, rfl, hbg, hc, hAg, fun k hk => Nat.lt_of_lt_of_le (hlt k hk) h.upd.size, hB, hA⟩, ePk_loc _ _ _, fun k hk => ⟨.inl hk, ?_⟩⟩
      rcases List.mem_cons.1 hk with e | hk
      · rw [e]; exact hB.lt
      · exact Nat.lt_of_lt_of_le (hlt k hk) h.upd.size
    · exact ⟨h2.holds, h2.loc, fun k hk => ⟨.inr (hnew k hk), (h2.own k hk).2⟩⟩
  · have h4 := hnew k hk'
    rcases List.mem_cons.1 hk with e | hk
    · exact ha k (by simp [eB, e]) hk'
    · exact absurd (hlt k hk) (by omega)
/-- behind a step: the pending entries lie in a new row -/
theorem pk_new {w W : World} {b : Nat} {g fp : List Nat} {p : PuT} {A : Option Addr} {c : Nat} {E : Ent} (h : St w [b] [eB b 109 (puC p A c), eO 106 4 (.slice A p.left.length c) p.left.length (p.left.flatMap tkK), E] W) (hfp : fp = b :: g) : ∃ fp', St w fp [ePk b p fp', E] W := by
  subst hfp
  have h1 := h.ok (eB b 109 (puC p A c)) (by simp)
  have h3 := h.ok (eO 106 4 (.slice A p.left.length c) p.left.length (p.left.flatMap tkK)) (by simp)
  have h2 := h.ok E (by simp)
  have hp := h.apart
  rw [List.pairwise_cons, List.pairwise_pair] at hp
  have hB : Blk W b 109 (puC p A c) := h1.holds
  have hO : W.ownsRow 0 106 4 (.slice A p.left.length c) p.left.length (p.left.flatMap tkK) := h3.holds
  have hAb : ∀ k, k ∈ (Value.slice A p.left.length c).ownBlock.toList → w.heap.size ≤ k ∧ k < W.heap.size ∧ k ≠ b ∧ k ∉ E.fp := fun k hk => by
    have h4 := h3.own k hk
    have hne : k ≠ b := fun e => hp.1 (eO 106 4 (.slice A p.left.length c) p.left.length (p.left.flatMap tkK)) (by simp) b (by simp [eB]) (e ▸ hk)
    exact ⟨h4.1.resolve_left (by simpa using hne), h4.2, hne, hp.2 k hk⟩
  have hnew : ∀ k ∈ E.fp, w.heap.size ≤ k := fun k hk => by
    rcases (h2.own k hk).1 with h4 | h4
    · exact absurd hk (hp.1 E (by simp) k (by simpa [eB] using h4))
    · exact h4
  refine ⟨b :: (Value.slice A p.left.length c).ownBlock.toList, h.upd.mono (fun k _ hk => by simp at hk; simp [hk]), fun x hx => ?_, List.pairwise_pair.2 fun k hk hk' => ?_⟩
  · simp only [List.mem_cons, List.not_mem_nil, or_false] at hx
    rcases hx with rfl | rfl
    · refine ⟨⟨A, c, _, rfl, fun hm => (hAb b hm).2.2.1 rfl, eown_capN hO, fun ad e hl => ?_, fun k hk => (hAb k hk).2.1, hB, At.of_ownN hO⟩, ePk_loc _ _ _, fun k hk => ?_⟩
      · subst e
        rcases hO.2 with ⟨hv, hm⟩ | ⟨g', cap, cur, hv, _⟩
        · injection hv with h5; cases h5
        · injection hv with h5; injection h5 with h5; subst h5; simp [Value.ownBlock]
      · rcases List.mem_cons.1 hk with e | hk
        · rw [e]; exact ⟨.inl (List.mem_cons_self ..), hB.lt⟩
        · exact ⟨.inr (hAb k hk).1, (hAb k hk).2.1⟩
    · exact ⟨h2.holds, h2.loc, fun k hk => ⟨.inr (hnew k hk), (h2.own k hk).2⟩⟩
  · rcases List.mem_cons.1 hk with e | hk
    · exact hp.1 E (by simp) k (by simp [eB, e]) hk'
    · exact (hAb k hk).2.2.2 hk'
theorem gk_new {w W : World} {b : Nat} {p : PuT} {A : Option Addr} {c : Nat} (h : St w [] [eB b 109 (puC p A c), eO 106 4 (.slice A p.left.length c) p.left.length (p.left.flatMap tkK)] W) : ∃ fp, St w [] [ePk b p fp] W := by
  have h1 := h.ok (eB b 109 (puC p A c)) (by simp)
  have h3 := h.ok (eO 106 4 (.slice A p.left.length c) p.left.length (p.left.flatMap tkK)) (by simp)
  have hp := List.pairwise_pair.1 h.apart
  have hB : Blk W b 109 (puC p A c) := h1.holds
  have hO : W.ownsRow 0 106 4 (.slice A p.left.length c) p.left.length (p.left.flatMap tkK) := h3.holds
  refine ⟨b :: (Value.slice A p.left.length c).ownBlock.toList, h.upd, fun x hx => ?_, List.pairwise_singleton _ _⟩
  rw [List.mem_singleton] at hx
  subst hx
  refine ⟨⟨A, c, _, rfl, fun hm => hp b (by simp [eB]) hm, eown_capN hO, fun ad e hl => ?_, fun k hk => (h3.own k hk).2, hB, At.of_ownN hO⟩, ePk_loc _ _ _, fun k hk => ?_⟩
  · subst e
    rcases hO.2 with ⟨hv, hm⟩ | ⟨g', cap, cur, hv, _⟩
    · injection hv with h5; cases h5
    · injection hv with h5; injection h5 with h5; subst h5; simp [Value.ownBlock]
  · rcases List.mem_cons.1 hk with e | hk
    · rw [e]; exact h1.own b (by simp [eB])
    · exact h3.own k hk
theorem tail_blk4 {lc : Nat} {la ad : Addr} (h : (if lc = 1 then some la else (some la).map (·.add (1 * 4))) = some ad) : ad.block = la.block := by
  split at h
  · rw [← Option.some.inj h]
  · have h2 := Option.some.inj h; rw [← h2, add_block]
def GkPost (p : PuT) (w : World) (e : Ending) (w' : World) : Prop := ∃ b fp, e = .returned (.pointer (some ⟨b, 0, none⟩)) ∧ St w [] [ePk b p fp] w'
def PtPost (b : Nat) (cells : Array Value) (eds : List EdT) (w : World) (e : Ending) (w' : World) : Prop := ∃ A c, e = .returned (.slice A eds.length c) ∧ St w [b] [eB b 109 cells, eO 99 3 (.slice A eds.length c) eds.length (eds.flatMap edC)] w'
def KtPost (b : Nat) (r : PuT × GoT) (fp : List Nat) (w : World) (e : Ending) (w' : World) : Prop := ∃ A c, e = .returned (.tuple #[.slice A r.2.eds.length c, .bool r.2.used, .int .i64 r.2.err]) ∧ ∃ fp', St w fp [ePk b r.1 fp', eO 99 3 (.slice A r.2.eds.length c) r.2.eds.length (r.2.eds.flatMap edC)] w'
set_option maxRecDepth 100000 in
set_option maxHeartbeats 2000000 in
theorem kgrowN_any (root : Int) (key : ByteArray) (pg sl : Int) (w : World) (hk : key.size ≤ 1000000) :
    Calls Try.prog 12 #[.int .i64 root, .string key, .agg #[.int .i64 pg, .int .i64 sl]] w (GkPost (putT root key pg sl) w) := by
  go_enter Try.func12, Try.ntmps12
  have hst0 := St.start w
  refine wp_seq (sqr ?_)
  refine sqbx #[vi pg, vi sl] hst0 fun B5_1 W1 hst1 => ?_
  refine sqp [.k 6 (.pointer none)] ?_
  refine then_normal (wp_seq (sqr (sqp [.m 7 0, .m 8 0, .m 9 1] ?_)))
  refine sqlb 0 2 hst1 ?_
  refine sqk (.string (entF key pg sl)) hst1 (fun cx => ⟨_, kentry_any key pg sl _ (by omega), (map2 (cx.ou 9) (cx.ou 10))⟩) fun W7 hst7 => ?_
  refine sqp [.k 12 (.agg #[.string (entF key pg sl), vi 0, vi 0]), .k 13 (.agg #[.string (entF key pg sl), vi 0, vi 0, vi 0])] ?_
  refine sqli 106 4 1 [.string (entF key pg sl), vi 0, vi 0, vi 0] hst7 (@fun ρ β W X cx => by have fF13 : ρ (.tmp 13) = .agg #[.string (entF key pg sl), vi 0, vi 0, vi 0] := (cx.ou 13); simp [go_sem, fF13]) fun B14_10 W10 hst10 => ?_
  refine sqp [.k 15 (.agg #[vi root, vi root, vi (-1), .slice ((some ⟨B14_10, 0, none⟩)) 1 1, vi 0, vi 0, .bool false])] ?_
  refine sqbx #[vi root, vi root, vi (-1), .slice ((some ⟨B14_10, 0, none⟩)) 1 1, vi 0, vi 0, .bool false] hst10 fun B16_12 W12 hst12 => ?_
  refine sqp [.m 6 16] ?_
  refine then_normal (wp_ret ?_)
  refine bpr (vp B16_12) (results_1 Try.results12 rpt) ?_
  obtain ⟨fp_, hgw_⟩ := gk_new (p := putT root key pg sl) (hst12.pick [2, 1] (by decide) rfl)
  exact ⟨_, _, rfl, hgw_⟩
set_option maxRecDepth 100000 in
set_option maxHeartbeats 2000000 in
theorem kdone_o (b : Nat) (root pos leaf fro to : Int) (spl : Bool) (LA : Option Addr) (ln lc : Nat) (w : World) (hb : Blk w b 109 #[.int .i64 root, .int .i64 pos, .int .i64 leaf, .slice LA ln lc, .int .i64 fro, .int .i64 to, .bool spl]) :
    Calls Try.prog 21 #[.pointer (some ⟨b, 0, none⟩)] w (Ret (.bool ((ln : Int) == 0)) w) := by
  go_enter Try.func21, Try.ntmps21
  have hst0 := St.start w
  refine wp_seq (sqr (sqp [.k 2 (.bool false)] ?_))
  refine then_normal (wp_seq (sqr (sqp [.m 3 0] ?_)))
  refine sqv (.bool false) hst0 (by
      exact sv0 rfl rfl rfl rfl rfl (fun _ _ _ h => h) fun ρ β W X cx => by
        have fF3 : ρ (.tmp 3) = vp b := (cx.ou 3)
        simp [go_sem, cx.sees.const, fF3]) fun W3 hst3 => ?_
  refine sqp [.k 5 (.bool false)] ?_
  refine sqgy 5 [6, 7, 8, 9, 10, 11] rfl rfl ?_
  refine sqp [.m 6 0, .k 7 (vp b), .k 8 (.pointer (some ⟨b, 3, none⟩))] ?_
  refine sql (.slice LA ln lc) hst3 (fun cx => run_load1 rfl (by kernel_rfl) (cx.ou 8) ((Blk.ext hb cx.upd.to_ext).cell 3)) ?_
  refine sqp [.k 10 (vi ((ln : Int))), .k 11 (.bool ((ln : Int) == 0))] ?_
  refine sqp [.k 12 (.bool ((ln : Int) == 0)), .m 2 12] ?_
  refine then_normal (wp_ret ?_)
  refine bpr (.bool ((ln : Int) == 0)) (results_1 Try.results21 rpt) ?_
  exact Ret.bool (by simp) hst3.ext
set_option maxRecDepth 100000 in
set_option maxHeartbeats 2000000 in
theorem kleaf_o (b : Nat) (root pos leaf fro to : Int) (spl : Bool) (LA : Option Addr) (ln lc : Nat) (w : World) (hb : Blk w b 109 #[.int .i64 root, .int .i64 pos, .int .i64 leaf, .slice LA ln lc, .int .i64 fro, .int .i64 to, .bool spl]) :
    Calls Try.prog 23 #[.pointer (some ⟨b, 0, none⟩)] w (Ret (.int .i64 leaf) w) := by
  go_enter Try.func23, Try.ntmps23
  have hst0 := St.start w
  refine wp_seq (sqr (sqp [.k 2 (vi 0)] ?_))
  refine then_normal (wp_seq (wp_seq (sqr (sqp [.m 3 0] ?_))))
  refine sqv (.bool false) hst0 (by
      exact sv0 rfl rfl rfl rfl rfl (fun _ _ _ h => h) fun ρ β W X cx => by
        have fF3 : ρ (.tmp 3) = vp b := (cx.ou 3)
        simp [go_sem, cx.sees.const, fF3]) fun W3 hst3 => ?_
  refine then_normal (wcf rfl (wp_skip (then_normal (wp_seq (sqr (sqp [.m 5 0, .k 6 (vp b), .k 7 (.pointer (some ⟨b, 2, none⟩))] ?_))))))
  refine sql (vi leaf) hst3 (fun cx => run_load1 rfl (by kernel_rfl) (cx.ou 7) ((Blk.ext hb cx.upd.to_ext).cell 2)) ?_
  refine sqp [.m 2 8] ?_
  refine then_normal (wp_ret ?_)
  refine bpr (vi leaf) (results_1 Try.results23 rpt) ?_
  exact Ret.of rfl hst3.ext
theorem kdone_pk {b : Nat} {p : PuT} {fp : List Nat} {w : World} (h : (ePk b p fp).holds w) : Calls Try.prog 21 #[.pointer (some ⟨b, 0, none⟩)] w (Ret (.bool ((p.left.length : Int) == 0)) w) := by
  obtain ⟨A, c, g, _, _, _, _, _, hB, _⟩ := h
  exact kdone_o b p.root p.pos p.leaf p.fro p.to p.spl A p.left.length c w hB
theorem kleaf_pk {b : Nat} {p : PuT} {fp : List Nat} {w : World} (h : (ePk b p fp).holds w) : Calls Try.prog 23 #[.pointer (some ⟨b, 0, none⟩)] w (Ret (.int .i64 p.leaf) w) := by
  obtain ⟨A, c, g, _, _, _, _, _, hB, _⟩ := h
  exact kleaf_o b p.root p.pos p.leaf p.fro p.to p.spl A p.left.length c w hB
set_option maxRecDepth 100000 in
set_option maxHeartbeats 2000000 in
theorem kput_any (b : Nat) (root pos leaf fro to : Int) (spl : Bool) (la : Addr) (ln lc : Nat) (nd : NoD) (np : Int) (EA : Option Addr) (ec : Nat) (te : ByteArray) (t1 tk tl : Int) (q : Bool) (w : World) (hb : Blk w b 109 #[.int .i64 root, .int .i64 pos, .int .i64 leaf, .slice ((some la)) ln lc, .int .i64 fro, .int .i64 to, .bool spl]) (hE : ∀ W, Upd [b] w W → At W EA (nd.es.flatMap enC)) (hel : nd.es.length ≤ 1000) (hln : 1 ≤ ln) (hlc : ln ≤ lc) (hte : te.size ≤ 1000000) (hq : hasE nd.es te = q) :
    Calls Try.prog 52 #[.pointer (some ⟨b, 0, none⟩), .agg #[.int .i64 np, .int .i64 nd.lv, .int .i64 nd.right, .string nd.high, .bool nd.dead, .slice EA nd.es.length ec, .int .i64 ((nd.free : Int))], .agg #[.string te, .int .i64 t1, .int .i64 tk, .int .i64 tl]] w (PtPost b #[.int .i64 root, .int .i64 root, .int .i64 ((if tl = 0 then np else leaf)), .slice ((if lc = 1 then some la else (some la).map (·.add (1 * 4)))) ((ln - 1)) ((lc - 1)), .int .i64 fro, .int .i64 to, .bool spl] (if q = true then [] else [(np, (nd.free : Int), itB nd.lv tk te)]) w) := by
  have st0 := St.lend (E := eB b 109 #[.int .i64 root, .int .i64 pos, .int .i64 leaf, .slice ((some la)) ln lc, .int .i64 fro, .int .i64 to, .bool spl]) hb (eB_loc _ _ _) (fun k hk => by simp [eB] at hk; subst hk; exact hb.lt)
  go_enter Try.func52, Try.ntmps52
  have hst0 := st0
  refine wp_seq (sqr ?_)
  refine sqbx #[vi np, vi nd.lv, vi nd.right, .string nd.high, .bool nd.dead, .slice EA nd.es.length ec, vi ((nd.free : Int))] hst0 fun B4_1 W1 hst1 => ?_
  refine sqbx #[.string te, vi t1, vi tk, vi tl] hst1 fun B5_2 W2 hst2 => ?_
  refine sqp [.k 6 (.slice none 0 0)] ?_
  refine then_normal (wp_seq (sqr (sqp [.k 7 (.slice none 0 0)] ?_)))
  refine then_normal (wp_seq (wp_seq (sqr (sqp [.k 8 (.pointer (some ⟨B4_1, 5, none⟩))] ?_))))
  refine sqld 1 hst2 ?_
  refine sqv (.func (.func 83) #[] #[vp B5_2]) hst2 (by
      exact sv0 rfl rfl rfl rfl rfl (fun _ _ _ h => h) fun ρ β W X cx => by
        have fF5 : ρ (.tmp 5) = vp B5_2 := (cx.ou 5)
        simp [go_sem, Instr.makeFunc, fF5]) fun W7 hst7 => ?_
  refine sqk (.bool ((hasE nd.es te))) hst7 (fun cx => ⟨_, kput1_con (hE _ cx.upd) (by omega) (cx.bi 2 rfl), (map2 (cx.ou 9) (cx.ou 10))⟩) fun W8 hst8 => ?_
  refine sqp [.k 12 (.bool (!((hasE nd.es te))))] ?_
  refine then_normal ?_
  rcases Bool.eq_false_or_eq_true ((hasE nd.es te)) with hs10 | hs10
  · refine wp_cond_false (show Act.eval _ _ = .bool false from (congrArg Value.bool (by rw [hs10]; rfl))) (wp_skip (then_normal (wp_seq (wp_seq (sqr (sqp [.k 23 (.pointer (some ⟨B5_2, 3, none⟩))] ?_))))))
    refine sqld 2 hst8 ?_
    refine sqp [.k 25 (.bool (tl == 0))] ?_
    refine then_normal (wbs (fun hs14 => ?_) fun hs14 => ?_)
    · have hs14p := beq_iff_eq.1 hs14
      refine sqr (sqp [.m 26 0, .k 27 (vp B4_1)] ?_)
      refine sqld 1 hst8 ?_
      refine sqp [.k 29 (vp b), .k 30 (.pointer (some ⟨b, 2, none⟩))] ?_
      refine sqst (n := 1) 0 #[vi root, vi pos, vi np, .slice ((some la)) ln lc, vi fro, vi to, .bool spl] hst8 fun W20 hst20 => ?_
      refine then_normal (wp_seq (wp_region_Y [0, 0, 0, 4, 12, 28, 60, 0, 128, 384, 896, 2045, 4093, 8189, 16383, 32767, 65535] [[], [], [], [], [], [0], [], [], [], [], [0], [], [], [0], [], [], [3]] [[], [], [], [], [], [], [], [], [], [], [], [], [], [3], [], [], [4]] [[], [], [], [], [], [], [], [], [], [], [], [], [], [0], [], [], [3]] [.k 31 (vp b), .k 32 (vp b), .k 33 (vp b), .k 34 (vp b), .k 35 (.pointer (some ⟨b, 3, none⟩)), .c 36 (.slice ((some la)) ln lc), .c 37 (.slice ((if lc = 1 then (some la) else ((some la)).map (·.add (1 * 4)))) ((ln - 1)) ((lc - 1))), .k 38 (vp b), .k 39 (vp b), .k 40 (vp b), .c 41 (vi root), .k 42 (vp b), .k 43 (.pointer (some ⟨b, 3, none⟩)), .n, .k 44 (vp b), .k 45 (.pointer (some ⟨b, 1, none⟩)), .n] (fun ix σ β X => match ix with | 0 => True | 1 => True | 2 => True | 3 => True | 4 => True | 5 => True | 6 => True | 7 => True | 8 => True | 9 => True | 10 => True | 11 => True | 12 => True | 13 => X 3 = eB b 109 #[vi root, vi pos, vi np, .slice ((if lc = 1 then (some la) else ((some la)).map (·.add (1 * 4)))) ((ln - 1)) ((lc - 1)), vi fro, vi to, .bool spl] | 14 => True | 15 => True | 16 => X 4 = eB b 109 #[vi root, vi root, vi np, .slice ((if lc = 1 then (some la) else ((some la)).map (·.add (1 * 4)))) ((ln - 1)) ((lc - 1)), vi fro, vi to, .bool spl] | _ => True) [1, 2, 4] [5, 6, 10, 13, 16] [(31, 0, 16, 46)] hst20 ?_ ?_ ?_))
      · exact fun ix _ _ _ _ _ _ hs hb hx h => match ix, h with
        | 13, h => by dsimp only; rw [← hx 3 rfl]; exact h
        | 16, h => by dsimp only; rw [← hx 4 rfl]; exact h
        | 0, _ | 1, _ | 2, _ | 3, _ | 4, _ | 5, _ | 6, _ | 7, _ | 8, _ | 9, _ | 10, _ | 11, _ | 12, _ | 14, _ | 15, _ | _ + 17, _ => trivial
      · refine ⟨?_, ?_, ?_, ?_, ?_, trivial⟩
        · exact xs4 rfl id fun cx => run_load1 rfl (by kernel_rfl) (cx.an 4) ((cx.bi 0 rfl).cell 3)
        · exact xs4 rfl id fun cx => run_sliceL_lo (e := 106) (sz := 4) (l := 1) rfl (by kernel_rfl) (by kernel_rfl) (cx.an 5) (cx.co _) (by omega) (by omega)
        · exact xs4 rfl id fun cx => run_load1 rfl (by kernel_rfl) (cx.an 9) ((cx.bi 0 rfl).cell 0)
        · refine svA fun ρ β W X cx => ?_
          exact dv_store (n := 1) rfl (cx.an 12) (cx.an 6) (by kernel_rfl) (by kernel_rfl) (by kernel_rfl) cx (cx.init 0 _ rfl) rfl (nle rfl) (by kernel_rfl) rfl rfl rfl (fun σ β' X' hs hb hx => hx)
        · refine svA fun ρ β W X cx => ?_
          exact dv_store (n := 1) rfl (cx.an 15) (cx.an 10) (by kernel_rfl) (by kernel_rfl) (by kernel_rfl) cx (dTn (cx.an 13)) rfl (nle rfl) (by kernel_rfl) rfl rfl rfl (fun σ β' X' hs hb hx => hx)
      intro σ β X W21 hD hst21 fr hfr
      simp only [exq 4 ((dTn (hD 16 lq)))] at hst21
      clear hD; subst hfr; clear σ β X
      refine then_normal (wp_seq (sqr (sqp [.m 46 7, .m 6 46] ?_)))
      refine then_normal (wp_ret ?_)
      refine bpr (.slice none 0 0) (results_1 Try.results52 rpt) ?_
      have hqq : q = true := hq.symm.trans hs10
      have htl0 : tl = 0 := by have h_ := hs14; simpa using h_
      rw [if_pos htl0, hqq]
      have hn24 := nilrowN hst21 99 3
      simp only [List.cons_append, List.nil_append] at hn24
      exact ⟨_, _, rfl, hn24.pick [2, 3] (by decide) rfl⟩
    have hs14p := beq_eq_false_iff_ne.1 hs14
    refine wp_skip (then_normal (wp_seq (wp_region_Y [0, 0, 0, 4, 12, 28, 60, 0, 128, 384, 896, 2045, 4093, 8189, 16383, 32767, 65535] [[], [], [], [], [], [0], [], [], [], [], [0], [], [], [0], [], [], [3]] [[], [], [], [], [], [], [], [], [], [], [], [], [], [3], [], [], [4]] [[], [], [], [], [], [], [], [], [], [], [], [], [], [0], [], [], [3]] [.k 31 (vp b), .k 32 (vp b), .k 33 (vp b), .k 34 (vp b), .k 35 (.pointer (some ⟨b, 3, none⟩)), .c 36 (.slice ((some la)) ln lc), .c 37 (.slice ((if lc = 1 then (some la) else ((some la)).map (·.add (1 * 4)))) ((ln - 1)) ((lc - 1))), .k 38 (vp b), .k 39 (vp b), .k 40 (vp b), .c 41 (vi root), .k 42 (vp b), .k 43 (.pointer (some ⟨b, 3, none⟩)), .n, .k 44 (vp b), .k 45 (.pointer (some ⟨b, 1, none⟩)), .n] (fun ix σ β X => match ix with | 0 => True | 1 => True | 2 => True | 3 => True | 4 => True | 5 => True | 6 => True | 7 => True | 8 => True | 9 => True | 10 => True | 11 => True | 12 => True | 13 => X 3 = eB b 109 #[vi root, vi pos, vi leaf, .slice ((if lc = 1 then (some la) else ((some la)).map (·.add (1 * 4)))) ((ln - 1)) ((lc - 1)), vi fro, vi to, .bool spl] | 14 => True | 15 => True | 16 => X 4 = eB b 109 #[vi root, vi root, vi leaf, .slice ((if lc = 1 then (some la) else ((some la)).map (·.add (1 * 4)))) ((ln - 1)) ((lc - 1)), vi fro, vi to, .bool spl] | _ => True) [1, 2, 4] [5, 6, 10, 13, 16] [(31, 0, 16, 46)] hst8 ?_ ?_ ?_)))
    · exact fun ix _ _ _ _ _ _ hs hb hx h => match ix, h with
      | 13, h => by dsimp only; rw [← hx 3 rfl]; exact h
      | 16, h => by dsimp only; rw [← hx 4 rfl]; exact h
      | 0, _ | 1, _ | 2, _ | 3, _ | 4, _ | 5, _ | 6, _ | 7, _ | 8, _ | 9, _ | 10, _ | 11, _ | 12, _ | 14, _ | 15, _ | _ + 17, _ => trivial
    · refine ⟨?_, ?_, ?_, ?_, ?_, trivial⟩
      · exact xs4 rfl id fun cx => run_load1 rfl (by kernel_rfl) (cx.an 4) ((cx.bi 0 rfl).cell 3)
      · exact xs4 rfl id fun cx => run_sliceL_lo (e := 106) (sz := 4) (l := 1) rfl (by kernel_rfl) (by kernel_rfl) (cx.an 5) (cx.co _) (by omega) (by omega)
      · exact xs4 rfl id fun cx => run_load1 rfl (by kernel_rfl) (cx.an 9) ((cx.bi 0 rfl).cell 0)
      · refine svA fun ρ β W X cx => ?_
        exact dv_store (n := 1) rfl (cx.an 12) (cx.an 6) (by kernel_rfl) (by kernel_rfl) (by kernel_rfl) cx (cx.init 0 _ rfl) rfl (nle rfl) (by kernel_rfl) rfl rfl rfl (fun σ β' X' hs hb hx => hx)
      · refine svA fun ρ β W X cx => ?_
        exact dv_store (n := 1) rfl (cx.an 15) (cx.an 10) (by kernel_rfl) (by kernel_rfl) (by kernel_rfl) cx (dTn (cx.an 13)) rfl (nle rfl) (by kernel_rfl) rfl rfl rfl (fun σ β' X' hs hb hx => hx)
    intro σ β X W25 hD hst25 fr hfr
    simp only [exq 4 ((dTn (hD 16 lq)))] at hst25
    clear hD; subst hfr; clear σ β X
    refine then_normal (wp_seq (sqr (sqp [.m 46 7, .m 6 46] ?_)))
    refine then_normal (wp_ret ?_)
    refine bpr (.slice none 0 0) (results_1 Try.results52 rpt) ?_
    have hqq : q = true := hq.symm.trans hs10
    have htl0 : ¬ tl = 0 := by have h_ := hs14; simpa using h_
    rw [if_neg htl0, hqq]
    have hn28 := nilrowN hst25 99 3
    simp only [List.cons_append, List.nil_append] at hn28
    exact ⟨_, _, rfl, hn28.pick [2, 3] (by decide) rfl⟩
  refine wp_cond_true (show Act.eval _ _ = .bool true from (congrArg Value.bool (by rw [hs10]; rfl))) (wp_region_Y [0, 1, 0, 4, 0, 0, 32, 112, 255, 511, 1023] [[], [1], [], [1], [1], [], [2]] [[], [], [], [], [], [], [], [], [], [3]] [] [.k 13 (vp B4_1), .c 14 (vi np), .k 15 (.pointer (some ⟨B4_1, 6, none⟩)), .c 16 (vi ((nd.free : Int))), .c 17 (.agg #[vi np, vi nd.lv, vi nd.right, .string nd.high, .bool nd.dead, .slice EA nd.es.length ec, vi ((nd.free : Int))]), .k 18 (vp B5_2), .c 19 (.agg #[.string te, vi t1, vi tk]), .c 20 (.string (itB nd.lv tk te)), .k 21 (.agg #[vi np, vi ((nd.free : Int)), .string (itB nd.lv tk te)]), .a 22, .a 7] (fun ix σ β X => match ix with | 0 => True | 1 => True | 2 => True | 3 => True | 4 => True | 5 => True | 6 => True | 7 => True | 8 => True | 9 => σ 22 = .slice ((some ⟨(pb' (β 22)), 0, none⟩)) 1 1 ∧ X 3 = eO 99 3 (.slice ((some ⟨(pb' (β 22)), 0, none⟩)) 1 1) 1 ([vi np, vi ((nd.free : Int)), .string (itB nd.lv tk te)]) | 10 => σ 7 = .slice ((some ⟨(pb' (β 22)), 0, none⟩)) 1 1 | _ => True) [0, 1, 2, 3] [1, 3, 4, 6, 7, 9, 10] [(7, 10, 1, 8), (5, 0, 10, 15)] hst8 ?_ ?_ ?_)
  · exact fun ix _ _ _ _ _ _ hs hb hx h => match ix, h with
    | 9, h => by dsimp only; rw [← hs 22 rfl, ← hb 22 rfl, ← hx 3 rfl]; exact h
    | 10, h => by dsimp only; rw [← hs 7 rfl, ← hb 22 rfl]; exact h
    | 0, _ | 1, _ | 2, _ | 3, _ | 4, _ | 5, _ | 6, _ | 7, _ | 8, _ | _ + 11, _ => trivial
  · refine ⟨?_, ?_, ?_, ?_, ?_, ?_, ?_, trivial⟩
    · exact xs4 rfl id fun cx => run_load1 rfl (by kernel_rfl) (cx.an 0) ((cx.bi 1 rfl).cell 0)
    · exact xs4 rfl id fun cx => run_load1 rfl (by kernel_rfl) (cx.an 2) ((cx.bi 1 rfl).cell 6)
    · exact xs4 rfl id fun cx => run_loadB (n := 7) rfl (by kernel_rfl) (by kernel_rfl) (cx.ou 4) (cx.bi 1 rfl) (nle rfl) rfl
    · exact xs4 rfl id fun cx => run_loadB (n := 3) rfl (by kernel_rfl) (by kernel_rfl) (cx.an 5) (cx.bi 2 rfl) (nle rfl) rfl
    · exact xsc rfl id rfl rfl fun cx => ⟨_, kitem_any np nd.lv nd.right (nd.free : Int) nd.high nd.dead _ _ _ te t1 tk _ (by omega), (map2 (cx.an 4) (cx.an 6))⟩
    · refine svA fun ρ β W X cx => ?_
      have fF21 : ρ (.tmp 21) = .agg #[vi np, vi ((nd.free : Int)), .string (itB nd.lv tk te)] := (cx.an 8)
      exact dv_litN (e := 99) (sz := 3) (xs := [vi np, vi ((nd.free : Int)), .string (itB nd.lv tk te)]) rfl (by simp [go_sem, fF21]) rfl (by decide) rfl rfl (fun σ β' X' hs hb hv hx => ⟨hv, hx⟩)
    · exact sv rfl rfl rfl rfl rfl _ (fun _ _ _ h => h) (fun β β' h => by rw [h 22 (by decide)]) fun ρ β W X cx => run_assign' rfl (dTn (cx.an 9)).1
  intro σ β X W29 hD hst29 fr hfr
  obtain ⟨B22_29, hu_B22_29⟩ : ∃ z, pb' (β 22) = z := ⟨_, rfl⟩
  simp only [exq 3 ((dTn (hD 9 lq)).2), hu_B22_29] at hst29
  simp only [ed 22 ((dTn (hD 9 lq)).1), ed 7 ((dTn (hD 10 lq))), hu_B22_29] at hfr
  clear hD hu_B22_29; subst hfr; clear σ β X
  refine then_normal (wp_seq (wp_seq (sqr (sqp [.k 23 (.pointer (some ⟨B5_2, 3, none⟩))] ?_))))
  refine sqld 2 hst29 ?_
  refine sqp [.k 25 (.bool (tl == 0))] ?_
  refine then_normal (wbs (fun hs33 => ?_) fun hs33 => ?_)
  · have hs33p := beq_iff_eq.1 hs33
    refine sqr (sqp [.m 26 0, .k 27 (vp B4_1)] ?_)
    refine sqld 1 hst29 ?_
    refine sqp [.k 29 (vp b), .k 30 (.pointer (some ⟨b, 2, none⟩))] ?_
    refine sqst (n := 1) 0 #[vi root, vi pos, vi np, .slice ((some la)) ln lc, vi fro, vi to, .bool spl] hst29 fun W39 hst39 => ?_
    refine then_normal (wp_seq (wp_region_Y [0, 0, 0, 4, 12, 28, 60, 0, 128, 384, 896, 2045, 4093, 8189, 16383, 32767, 65535] [[], [], [], [], [], [0], [], [], [], [], [0], [], [], [0], [], [], [4]] [[], [], [], [], [], [], [], [], [], [], [], [], [], [4], [], [], [5]] [[], [], [], [], [], [], [], [], [], [], [], [], [], [0], [], [], [4]] [.k 31 (vp b), .k 32 (vp b), .k 33 (vp b), .k 34 (vp b), .k 35 (.pointer (some ⟨b, 3, none⟩)), .c 36 (.slice ((some la)) ln lc), .c 37 (.slice ((if lc = 1 then (some la) else ((some la)).map (·.add (1 * 4)))) ((ln - 1)) ((lc - 1))), .k 38 (vp b), .k 39 (vp b), .k 40 (vp b), .c 41 (vi root), .k 42 (vp b), .k 43 (.pointer (some ⟨b, 3, none⟩)), .n, .k 44 (vp b), .k 45 (.pointer (some ⟨b, 1, none⟩)), .n] (fun ix σ β X => match ix with | 0 => True | 1 => True | 2 => True | 3 => True | 4 => True | 5 => True | 6 => True | 7 => True | 8 => True | 9 => True | 10 => True | 11 => True | 12 => True | 13 => X 4 = eB b 109 #[vi root, vi pos, vi np, .slice ((if lc = 1 then (some la) else ((some la)).map (·.add (1 * 4)))) ((ln - 1)) ((lc - 1)), vi fro, vi to, .bool spl] | 14 => True | 15 => True | 16 => X 5 = eB b 109 #[vi root, vi root, vi np, .slice ((if lc = 1 then (some la) else ((some la)).map (·.add (1 * 4)))) ((ln - 1)) ((lc - 1)), vi fro, vi to, .bool spl] | _ => True) [1, 2, 3, 5] [5, 6, 10, 13, 16] [(31, 0, 16, 46)] hst39 ?_ ?_ ?_))
    · exact fun ix _ _ _ _ _ _ hs hb hx h => match ix, h with
      | 13, h => by dsimp only; rw [← hx 4 rfl]; exact h
      | 16, h => by dsimp only; rw [← hx 5 rfl]; exact h
      | 0, _ | 1, _ | 2, _ | 3, _ | 4, _ | 5, _ | 6, _ | 7, _ | 8, _ | 9, _ | 10, _ | 11, _ | 12, _ | 14, _ | 15, _ | _ + 17, _ => trivial
    · refine ⟨?_, ?_, ?_, ?_, ?_, trivial⟩
      · exact xs4 rfl id fun cx => run_load1 rfl (by kernel_rfl) (cx.an 4) ((cx.bi 0 rfl).cell 3)
      · exact xs4 rfl id fun cx => run_sliceL_lo (e := 106) (sz := 4) (l := 1) rfl (by kernel_rfl) (by kernel_rfl) (cx.an 5) (cx.co _) (by omega) (by omega)
      · exact xs4 rfl id fun cx => run_load1 rfl (by kernel_rfl) (cx.an 9) ((cx.bi 0 rfl).cell 0)
      · refine svA fun ρ β W X cx => ?_
        exact dv_store (n := 1) rfl (cx.an 12) (cx.an 6) (by kernel_rfl) (by kernel_rfl) (by kernel_rfl) cx (cx.init 0 _ rfl) rfl (nle rfl) (by kernel_rfl) rfl rfl rfl (fun σ β' X' hs hb hx => hx)
      · refine svA fun ρ β W X cx => ?_
        exact dv_store (n := 1) rfl (cx.an 15) (cx.an 10) (by kernel_rfl) (by kernel_rfl) (by kernel_rfl) cx (dTn (cx.an 13)) rfl (nle rfl) (by kernel_rfl) rfl rfl rfl (fun σ β' X' hs hb hx => hx)
    intro σ β X W40 hD hst40 fr hfr
    simp only [exq 5 ((dTn (hD 16 lq)))] at hst40
    clear hD; subst hfr; clear σ β X
    refine then_normal (wp_seq (sqr (sqp [.m 46 7, .m 6 46] ?_)))
    refine then_normal (wp_ret ?_)
    refine bpr (.slice ((some ⟨B22_29, 0, none⟩)) 1 1) (results_1 Try.results52 rpt) ?_
    have hqq : q = false := hq.symm.trans hs10
    have htl0 : tl = 0 := by have h_ := hs33; simpa using h_
    rw [if_pos htl0, hqq]
    exact ⟨_, _, rfl, hst40.pick [3, 2] (by decide) rfl⟩
  have hs33p := beq_eq_false_iff_ne.1 hs33
  refine wp_skip (then_normal (wp_seq (wp_region_Y [0, 0, 0, 4, 12, 28, 60, 0, 128, 384, 896, 2045, 4093, 8189, 16383, 32767, 65535] [[], [], [], [], [], [0], [], [], [], [], [0], [], [], [0], [], [], [4]] [[], [], [], [], [], [], [], [], [], [], [], [], [], [4], [], [], [5]] [[], [], [], [], [], [], [], [], [], [], [], [], [], [0], [], [], [4]] [.k 31 (vp b), .k 32 (vp b), .k 33 (vp b), .k 34 (vp b), .k 35 (.pointer (some ⟨b, 3, none⟩)), .c 36 (.slice ((some la)) ln lc), .c 37 (.slice ((if lc = 1 then (some la) else ((some la)).map (·.add (1 * 4)))) ((ln - 1)) ((lc - 1))), .k 38 (vp b), .k 39 (vp b), .k 40 (vp b), .c 41 (vi root), .k 42 (vp b), .k 43 (.pointer (some ⟨b, 3, none⟩)), .n, .k 44 (vp b), .k 45 (.pointer (some ⟨b, 1, none⟩)), .n] (fun ix σ β X => match ix with | 0 => True | 1 => True | 2 => True | 3 => True | 4 => True | 5 => True | 6 => True | 7 => True | 8 => True | 9 => True | 10 => True | 11 => True | 12 => True | 13 => X 4 = eB b 109 #[vi root, vi pos, vi leaf, .slice ((if lc = 1 then (some la) else ((some la)).map (·.add (1 * 4)))) ((ln - 1)) ((lc - 1)), vi fro, vi to, .bool spl] | 14 => True | 15 => True | 16 => X 5 = eB b 109 #[vi root, vi root, vi leaf, .slice ((if lc = 1 then (some la) else ((some la)).map (·.add (1 * 4)))) ((ln - 1)) ((lc - 1)), vi fro, vi to, .bool spl] | _ => True) [1, 2, 3, 5] [5, 6, 10, 13, 16] [(31, 0, 16, 46)] hst29 ?_ ?_ ?_)))
  · exact fun ix _ _ _ _ _ _ hs hb hx h => match ix, h with
    | 13, h => by dsimp only; rw [← hx 4 rfl]; exact h
    | 16, h => by dsimp only; rw [← hx 5 rfl]; exact h
    | 0, _ | 1, _ | 2, _ | 3, _ | 4, _ | 5, _ | 6, _ | 7, _ | 8, _ | 9, _ | 10, _ | 11, _ | 12, _ | 14, _ | 15, _ | _ + 17, _ => trivial
  · refine ⟨?_, ?_, ?_, ?_, ?_, trivial⟩
    · exact xs4 rfl id fun cx => run_load1 rfl (by kernel_rfl) (cx.an 4) ((cx.bi 0 rfl).cell 3)
    · exact xs4 rfl id fun cx => run_sliceL_lo (e := 106) (sz := 4) (l := 1) rfl (by kernel_rfl) (by kernel_rfl) (cx.an 5) (cx.co _) (by omega) (by omega)
    · exact xs4 rfl id fun cx => run_load1 rfl (by kernel_rfl) (cx.an 9) ((cx.bi 0 rfl).cell 0)
    · refine svA fun ρ β W X cx => ?_
      exact dv_store (n := 1) rfl (cx.an 12) (cx.an 6) (by kernel_rfl) (by kernel_rfl) (by kernel_rfl) cx (cx.init 0 _ rfl) rfl (nle rfl) (by kernel_rfl) rfl rfl rfl (fun σ β' X' hs hb hx => hx)
    · refine svA fun ρ β W X cx => ?_
      exact dv_store (n := 1) rfl (cx.an 15) (cx.an 10) (by kernel_rfl) (by kernel_rfl) (by kernel_rfl) cx (dTn (cx.an 13)) rfl (nle rfl) (by kernel_rfl) rfl rfl rfl (fun σ β' X' hs hb hx => hx)
  intro σ β X W43 hD hst43 fr hfr
  simp only [exq 5 ((dTn (hD 16 lq)))] at hst43
  clear hD; subst hfr; clear σ β X
  refine then_normal (wp_seq (sqr (sqp [.m 46 7, .m 6 46] ?_)))
  refine then_normal (wp_ret ?_)
  refine bpr (.slice ((some ⟨B22_29, 0, none⟩)) 1 1) (results_1 Try.results52 rpt) ?_
  have hqq : q = false := hq.symm.trans hs10
  have htl0 : ¬ tl = 0 := by have h_ := hs33; simpa using h_
  rw [if_neg htl0, hqq]
  exact ⟨_, _, rfl, hst43.pick [3, 2] (by decide) rfl⟩
set_option maxRecDepth 100000 in
set_option maxHeartbeats 2000000 in
theorem kdown_any (np lv rt fr : Int) (hg : ByteArray) (dead : Bool) (EA : Option Addr) (ec n : Nat) (x : ByteArray) (es : List EnD) (w : World) (hE : At w EA (es.flatMap enC)) (hn : es.length = n) (hez : ∀ e ∈ es, e.1.size ≤ 1000000) (hnb : n ≤ 100000) (hx : x.size ≤ 1000000) :
    Calls Try.prog 50 #[.agg #[.int .i64 np, .int .i64 lv, .int .i64 rt, .string hg, .bool dead, .slice EA n ec, .int .i64 fr], .string x] w (Ret (.int .i64 (downF x es (-1))) w) := by
  go_enter Try.func50, Try.ntmps50
  have hst0 := St.start w
  refine wp_seq (sqr ?_)
  refine sqbx #[vi np, vi lv, vi rt, .string hg, .bool dead, .slice EA n ec, vi fr] hst0 fun B2_1 W1 hst1 => ?_
  refine sqp [.k 4 (vi 0)] ?_
  refine then_normal (wp_seq (sqr (sqp [.k 5 (vi (-1))] ?_)))
  refine then_normal (wp_seq (wp_seq (sqr (sqp [.k 8 (.pointer (some ⟨B2_1, 5, none⟩))] ?_))))
  refine sqld 0 hst1 ?_
  refine sqp [.k 10 (vi ((n : Int))), .k 11 (vi 0)] ?_
  refine then_normal (wp_block ?_)
  refine wp_loopT (fun t_ mz az W => ∃ j : Nat, ∃ d : Int, j ≤ n ∧ downF x es (-1) = downF x (es.drop j) d ∧ mz = n - j ∧ az = ⟨(ovr (jv az) [(5, 5, 0, [vi d]), (1, 7, 1, []), (3, 11, 0, [vi ((j : Int))]), (0, 12, 15, [])] t_).toArray, []⟩ ∧ St w [] [eB B2_1 116 #[vi np, vi lv, vi rt, .string hg, .bool dead, .slice EA n ec, vi fr]] W) (n - 0) ?_ ?_
  · -- the loop begins
    exact ⟨0, (-1), Nat.zero_le _, rfl, rfl, (by kernel_rfl), hst1.pk [0]⟩
  rintro n8 a8 W8 ⟨j, d, hj, hI, rfl, hj_, hst8⟩
  refine ovz hj_ fun u8_ => ?_
  refine wp_seq (sqr (sqp [.k 12 (.bool (decide ((j : Int) < (n : Int))))] ?_))
  refine then_normal (wp_seq (wds (fun hs10 hs10p => ?_) fun hs10 hs10p => ?_))
  · refine wp_skip (then_normal (wp_seq (wp_block (wp_seq (sqr ?_)))))
    refine sql (.pointer (some ((ad EA).add (j * 3)))) hst8 (fun cx => run_indexSlM (e := 104) (m := j) (sz := 3) rfl (by kernel_rfl) (by kernel_rfl) (cx.ou 9) (cx.ou 11) (by omega) (by omega) (hE.ext cx.upd.to_ext) (flatPos (sz := 3) enC_len (by decide) (by omega))) ?_
    refine sql (.agg #[.string ((es.getD j en0).1), vi (((es.getD j en0).2.1 : Int)), vi ((es.getD j en0).2.2)]) hst8 (fun cx => run_loadElt (f := enC) (m := j) (sz := 3) (off := 0) (n := 3) rfl (by kernel_rfl) (by kernel_rfl) (cx.ou 13) rfl enC_len (hE.ext cx.upd.to_ext) (en_get (by omega)) (fun k hk => match k, hk with | 0, _ => rfl | 1, _ => rfl | 2, _ => rfl | k + 3, hk => absurd hk (by omega))) ?_
    refine sqal #[.string ByteArray.empty, vi 0, vi 0] hst8 fun B7_13 W13 hst13 => ?_
    refine sqst (n := 3) 1 #[.string ((es.getD j en0).1), vi (((es.getD j en0).2.1 : Int)), vi ((es.getD j en0).2.2)] hst13 fun W14 hst14 => ?_
    refine then_normal (wp_seq (sqr (sqp [.m 15 5, .k 16 (.bool (decide (d < 0))), .m 17 16] ?_)))
    refine sqwW 17 [18, 19, 20, 21, 22] ?_ hst14 rfl (fun hq => ?_) fun W23 hst23 => ?_
    rotate_left
    · have hq_ := of_decide_eq_false hq
      refine sqp [.m 18 1, .k 19 (vp B7_13)] ?_
      refine sqld 1 hst14 ?_
      refine sqk (.bool (lessF x ((es.getD j en0).1))) hst14 (fun cx => ⟨_, kless_any x ((es.getD j en0).1) _ (by omega) (getD_size hez _), (map2 (cx.ou 18) (cx.ou 20))⟩) fun W21 hst21 => ?_
      refine sqp [.k 22 (.bool (!(lessF x ((es.getD j en0).1))))] ?_
      exact sqE hst21
    refine sqwx ?_
    refine sqp [sPo 23 (decide (d < 0)) (!(lessF x ((es.getD j en0).1)))] ?_
    refine then_normal (wbs (fun hs25 => ?_) fun hs25 => ?_)
    · have hs25p := hs25
      simp only [zB] at hs25p
      refine sqr (sqp [.k 24 (.pointer (some ⟨B7_13, 2, none⟩))] ?_)
      refine sqld 1 hst23 ?_
      refine sqp [.m 5 25] ?_
      refine blk_normal (then_normal (sqr (sqp [sI 26 ((j : Int) + 1) (by omega), .m 11 26] ?_)))
      refine then_normal ?_
      refine ⟨n - ((j + 1)), by omega, ?_⟩
      exact ⟨(j + 1), ((es.getD j en0).2.2), by omega, by rw [hI, downF_at (by omega), if_pos (dn_yes hs25)], rfl, (by kernel_rfl), hst23.pk [0]⟩
    have hs25p := hs25
    simp only [zB] at hs25p
    obtain ⟨hs25p1, hs25p2⟩ := hs25p
    refine wp_skip (blk_normal (then_normal (sqr (sqp [sI 26 ((j : Int) + 1) (by omega), .m 11 26] ?_))))
    refine then_normal ?_
    refine ⟨n - ((j + 1)), by omega, ?_⟩
    exact ⟨(j + 1), d, by omega, by rw [hI, downF_at (by omega), if_neg (dn_no hs25)], rfl, (by kernel_rfl), hst23.pk [0]⟩
  refine wp_exit (then_exit (then_exit (blk_eq (then_normal (wp_seq (sqr (sqp [.m 27 5, .m 4 27] ?_)))))))
  refine then_normal (wp_ret ?_)
  refine bpr (vi d) (results_1 Try.results50 rpt) ?_
  exact Ret.of (by rw [hI, List.drop_of_length_le (by omega)]; rfl) hst8.ext
set_option maxRecDepth 100000 in
set_option maxHeartbeats 8000000 in
theorem kstep_s (b : Nat) (tt : TypeId) (tv : Value) (root pos leaf fro to : Int) (spl : Bool) (la : Addr) (ln lc : Nat) (te : ByteArray) (tl tk : Int) (lf : List TaT) (ps : List PgS) (fresh : Int) (fp g : List Nat) (w : World) (hb : Blk w b 109 #[.int .i64 root, .int .i64 pos, .int .i64 leaf, .slice ((some la)) ln lc, .int .i64 fro, .int .i64 to, .bool spl]) (hL : ∀ W, Upd [b] w W → At W (some la) (((te, tl, tk) :: lf).flatMap tkK)) (hln : ((te, tl, tk) :: lf).length = ln) (hlc : ((te, tl, tk) :: lf).length ≤ lc) (hlnb : ln ≤ 10000) (hS : ∀ W, Upd [b] w W → PgsOk W tt tv ps) (hok : OkS ps) (hoc : OkC ps) (hfp : fp = b :: g) (hbg : b ∉ g) (hlt : ∀ k ∈ g, k < w.heap.size) (hla : la.block ∈ g) (hte : te.size ≤ 900000) (htl : 0 ≤ tl ∧ tl ≤ 90000) (h8 : ∀ nd, ndAt ps pos = some nd → nd.es.length < 8) :
    Calls Try.prog 16 #[.pointer (some ⟨b, 0, none⟩), .iface tt (tv), .int .i64 fresh] w (KtPost b (stepF ps ⟨root, pos, leaf, (te, tl, tk) :: lf, fro, to, spl⟩ fresh) fp w) := by
  have st0 := St.lend (E := eB b 109 #[.int .i64 root, .int .i64 pos, .int .i64 leaf, .slice ((some la)) ln lc, .int .i64 fro, .int .i64 to, .bool spl]) hb (eB_loc _ _ _) (fun k hk => by simp [eB] at hk; subst hk; exact hb.lt)
  have hln1 : 1 ≤ ln := by rw [← hln]; simp
  have hlc1 : lf.length + 1 ≤ lc := hlc
  have hln2 : lf.length + 1 = ln := hln
  go_enter Try.func16, Try.ntmps16
  have hst0 := st0
  refine wp_seq (sqr (sqp [.k 6 (.slice none 0 0), .k 7 (.bool false), .k 8 (vi 0)] ?_))
  refine then_normal (wp_seq (wp_seq (sqr (sqp [.m 14 0] ?_))))
  refine sqv (.bool false) hst0 (by
      exact sv0 rfl rfl rfl rfl rfl (fun _ _ _ h => h) fun ρ β W X cx => by
        have fF14 : ρ (.tmp 14) = vp b := (cx.ou 14)
        simp [go_sem, cx.sees.const, fF14]) fun W5 hst5 => ?_
  refine then_normal (wcf rfl (wp_skip (then_normal (wp_seq (sqr (sqp [.m 16 0, .m 17 0, .m 18 0, .k 19 (vp b), .k 20 (.pointer (some ⟨b, 4, none⟩))] ?_))))))
  refine sqst (n := 1) 0 #[vi root, vi pos, vi leaf, .slice ((some la)) ln lc, vi 0, vi to, .bool spl] hst5 fun W11 hst11 => ?_
  refine sqp [.k 21 (vp b), .k 22 (.pointer (some ⟨b, 5, none⟩))] ?_
  refine sqst (n := 1) 0 #[vi root, vi pos, vi leaf, .slice ((some la)) ln lc, vi 0, vi 0, .bool spl] hst11 fun W14 hst14 => ?_
  refine sqp [.k 23 (vp b), .k 24 (.pointer (some ⟨b, 6, none⟩))] ?_
  refine sqst (n := 1) 0 #[vi root, vi pos, vi leaf, .slice ((some la)) ln lc, vi 0, vi 0, .bool false] hst14 fun W17 hst17 => ?_
  refine then_normal (wp_seq (wp_seq (sqr (sqp [.m 25 0, .k 26 (vp b), .k 27 (.pointer (some ⟨b, 3, none⟩))] ?_))))
  refine sqld 0 hst17 ?_
  have hd24 : ((ln : Int) == 0) = false := (by rw [beq_eq_false_iff_ne]; omega)
  refine sqp [.k 29 (vi ((ln : Int))), .e 30 (.bool ((ln : Int) == 0)) (.bool false) (congrArg Value.bool hd24)] ?_
  refine then_normal (wcf rfl (wp_skip (then_normal (wp_seq (sqr (sqp [.m 31 0, .k 32 (vp b), .k 33 (.pointer (some ⟨b, 3, none⟩))] ?_))))))
  refine sqld 0 hst17 ?_
  refine sql (.pointer (some ((ad ((some la))).add (0 * 4)))) hst17 (fun cx => run_indexSlM (e := 106) (m := 0) (sz := 4) rfl (by kernel_rfl) (by kernel_rfl) (cx.ou 34) (cx.co _) (by omega) (by omega) (hL _ cx.upd) (flatPos (sz := 4) tkK_len (by decide) (by omega))) ?_
  refine sql (.agg #[.string te, vi 0, vi tk, vi tl]) hst17 (fun cx => run_loadElt (f := tkK) (m := 0) (sz := 4) (off := 0) (n := 4) rfl (by kernel_rfl) (by kernel_rfl) (cx.ou 35) rfl tkK_len (hL _ cx.upd) rfl (fun k hk => match k, hk with | 0, _ => rfl | 1, _ => rfl | 2, _ => rfl | 3, _ => rfl | k + 4, hk => absurd hk (by omega))) ?_
  refine sqal #[.string ByteArray.empty, vi 0, vi 0, vi 0] hst17 fun B9_31 W31 hst31 => ?_
  refine sqst (n := 4) 1 #[.string te, vi 0, vi tk, vi tl] hst31 fun W32 hst32 => ?_
  refine then_normal (wp_seq ?_)
  rcases hnd : ndAt ps pos with _ | nd
  · refine wp_region_Y [0, 0, 2, 6, 14, 31, 63, 127, 127, 0, 767, 2047] [[], [], [], [], [0], [], [], [], [], [], [2]] [[], [], [], [], [], [], [], [], [], [2], [3]] [[], [], [], [], [], [], [], [], [], [], [2]] [.k 38 (.iface tt (tv)), .k 39 (vp b), .k 40 (vp b), .k 41 (.pointer (some ⟨b, 1, none⟩)), .c 42 (vi pos), .a 43, .a 37, .a 44, .c 45 (.bool false), .a 10, .n, .k 11 (.bool false)] (fun ix σ β X => match ix with | 0 => True | 1 => True | 2 => True | 3 => True | 4 => True | 5 => σ 43 = .tuple #[.agg #[vi (iv (tg (tg (β 43) 0) 0)), vi 0, vi 0, .string ((⟨#[]⟩ : ByteArray)), .bool false, .slice none 0 0, vi 0], .bool false] | 6 => σ 37 = .tuple #[.agg #[vi (iv (tg (tg (β 43) 0) 0)), vi 0, vi 0, .string ((⟨#[]⟩ : ByteArray)), .bool false, .slice none 0 0, vi 0], .bool false] | 7 => σ 44 = .agg #[vi (iv (tg (tg (β 43) 0) 0)), vi 0, vi 0, .string ((⟨#[]⟩ : ByteArray)), .bool false, .slice none 0 0, vi 0] | 8 => True | 9 => σ 10 = vp (pb (β 10)) ∧ X 2 = eB (pb (β 10)) 116 #[vi 0, vi 0, vi 0, .string ByteArray.empty, .bool false, .slice none 0 0, vi 0] | 10 => X 3 = eB (pb (β 10)) 116 #[vi (iv (tg (tg (β 43) 0) 0)), vi 0, vi 0, .string ((⟨#[]⟩ : ByteArray)), .bool false, .slice none 0 0, vi 0] | _ => True) [0, 1, 3] [4, 5, 6, 7, 8, 9, 10] [(10, 9, 3, 12), (25, 6, 1, 26), (0, 0, 6, 6), (0, 7, 2, 2)] hst32 ?_ ?_ ?_
    · exact fun ix _ _ _ _ _ _ hs hb hx h => match ix, h with
      | 5, h => by dsimp only; rw [← hs 43 rfl, ← hb 43 rfl]; exact h
      | 6, h => by dsimp only; rw [← hs 37 rfl, ← hb 43 rfl]; exact h
      | 7, h => by dsimp only; rw [← hs 44 rfl, ← hb 43 rfl]; exact h
      | 9, h => by dsimp only; rw [← hs 10 rfl, ← hb 10 rfl, ← hx 2 rfl]; exact h
      | 10, h => by dsimp only; rw [← hb 10 rfl, ← hb 43 rfl, ← hx 3 rfl]; exact h
      | 0, _ | 1, _ | 2, _ | 3, _ | 4, _ | 8, _ | _ + 11, _ => trivial
    · refine ⟨?_, ?_, ?_, ?_, ?_, ?_, ?_, trivial⟩
      · exact xs4 rfl id fun cx => run_load1 rfl (by kernel_rfl) (cx.an 3) ((cx.bi 0 rfl).cell 1)
      · refine svA fun ρ β W X cx => ?_
        refine DoesU.call (run_callF (args := #[.iface tt (tv), vi pos]) rfl cx.sees rfl (by kernel_rfl) (map2 (cx.an 0) (cx.an 4))) ?_
        refine (kd_no hnd (kat_any _ _ ps pos _ (hS _ cx.upd) hok hoc)).mono ?_
        rintro e W1 ⟨p4, rfl, hx⟩
        refine ⟨_, rfl, post_call [] rfl rfl hx (by simp) List.Pairwise.nil (fun σ β' X' hs hb hv hN => ?_)⟩
        have hv1 := (hv 43 rfl).1; have hv2 := (hv 43 rfl).2
        exact hv1.trans (by rw [hv2]; rfl)
      · exact sv rfl rfl rfl rfl rfl _ (fun _ _ _ h => h) (fun β β' h => by rw [h 43 (by decide)]) fun ρ β W X cx => run_move' rfl (dTn (cx.an 5))
      · exact sv rfl rfl rfl rfl rfl _ (fun _ _ _ h => h) (fun β β' h => by rw [h 43 (by decide)]) fun ρ β W X cx => run_extract' rfl (dTn (cx.an 6)) rfl
      · exact xs4 rfl id fun cx => run_extract' rfl (dTn (cx.an 6)) rfl
      · refine svA fun ρ β W X cx => ?_
        exact dv_alloc (cs := #[vi 0, vi 0, vi 0, .string ByteArray.empty, .bool false, .slice none 0 0, vi 0]) rfl (by kernel_rfl) rfl rfl (fun σ β' X' hs hb hv hx => ⟨hv, hx⟩)
      · refine svA fun ρ β W X cx => ?_
        exact dv_store (n := 7) rfl (dTn (cx.an 9)).1 (dTn (cx.an 7)) (by kernel_rfl) (by kernel_rfl) (by kernel_rfl) cx (dTn (cx.an 9)).2 rfl (nle rfl) (by kernel_rfl) rfl rfl rfl (fun σ β' X' hs hb hx => by rw [hb 10, hb 43]; exact hx)
    intro σ β X W33 hD hst33 fr hfr
    obtain ⟨pg43_33, hu_pg43_33⟩ : ∃ z, iv (tg (tg (β 43) 0) 0) = z := ⟨_, rfl⟩
    obtain ⟨B10_33, hu_B10_33⟩ : ∃ z, pb (β 10) = z := ⟨_, rfl⟩
    simp only [exq 3 ((dTn (hD 10 lq))), hu_pg43_33, hu_B10_33] at hst33
    simp only [ed 43 ((dTn (hD 5 lq))), ed 37 ((dTn (hD 6 lq))), ed 44 ((dTn (hD 7 lq))), ed 10 ((dTn (hD 9 lq)).1), hu_pg43_33, hu_B10_33] at hfr
    clear hD hu_pg43_33 hu_B10_33; subst hfr; clear σ β X
    refine then_normal (wp_seq (sqr ?_))
    refine sqv (.func (.func 48) #[] #[vp B9_31]) hst33 (by
        exact sv0 rfl rfl rfl rfl rfl (fun _ _ _ h => h) fun ρ β W X cx => by
          have fF9 : ρ (.tmp 9) = vp B9_31 := (cx.ou 9)
          simp [go_sem, Instr.makeFunc, fF9]) fun W34 hst34 => ?_
    refine sqp [.m 12 46] ?_
    refine then_normal (wp_seq (wp_block (wp_seq (sqr (sqp [.k 48 (.bool false), .k 49 (.bool true), .k 47 (.bool true)] ?_)))))
    refine then_normal (wct rfl (wp_seq (sqr (sqp [.k 6 (.slice none 0 0), .k 7 (.bool false), .k 8 (vi 22)] ?_))))
    refine then_normal (wp_ret (blk_ret (then_ret ?_)))
    refine bpr (.tuple #[.slice none 0 0, .bool false, vi 22]) (results_3 Try.results16 rpt rpt rpt) ?_
    rw [st_none hnd]
    have hn42 := nilrowN hst34 99 3
    simp only [List.cons_append, List.nil_append] at hn42
    have hup_ := hn42.upd
    have hpk_ := hn42.pick [0, 3] (by decide) rfl
    subst hln
    exact ⟨_, _, rfl, pk_old hpk_ hfp hbg hlt hlc (hL _ hup_) (fun ad e _ => by rw [← Option.some.inj e]; exact hla)⟩
  · have hN0 := nd_ok hok hnd
    have hN : NdQ nd := ⟨hN0.lv, fun e he => Nat.le_trans (hN0.es e he) (by decide)⟩
    have hN1 := hN0.len
    have hN2 := hN0.rt
    have hN3 := hN0.hi
    have hN4 := hN0.lv
    have hN5 := hN0.fr
    have hN7 := hN0.es
    have hn8 := h8 nd hnd
    refine sqr (sqp [.m 38 1, .m 39 0, .k 40 (vp b), .k 41 (.pointer (some ⟨b, 1, none⟩))] ?_)
    refine sqld 0 hst32 ?_
    refine sqk2 (fun EA43_48 ec43_48 => .tuple #[.agg #[vi pos, vi nd.lv, vi nd.right, .string nd.high, .bool nd.dead, .slice EA43_48 nd.es.length ec43_48, vi ((nd.free : Int))], .bool true]) (fun EA43_48 ec43_48 => eO 104 3 (.slice EA43_48 nd.es.length ec43_48) nd.es.length (nd.es.flatMap enC)) hst32 (fun cx => ⟨_, (kd_yes hnd (kat_any _ _ ps pos _ (hS _ cx.upd) hok hoc)).mono (by rintro e W1 ⟨EA4, ec4, rfl, hs4⟩; exact ⟨_, _, rfl, hs4⟩), (map2 (cx.ou 38) (cx.ou 42))⟩) fun EA43_48 ec43_48 W48 hst48 => ?_
    refine sqp [.m 37 43, .k 44 (.agg #[vi pos, vi nd.lv, vi nd.right, .string nd.high, .bool nd.dead, .slice EA43_48 nd.es.length ec43_48, vi ((nd.free : Int))]), .k 45 (.bool true)] ?_
    refine sqal #[vi 0, vi 0, vi 0, .string ByteArray.empty, .bool false, .slice none 0 0, vi 0] hst48 fun B10_52 W52 hst52 => ?_
    refine sqst (n := 7) 3 #[vi pos, vi nd.lv, vi nd.right, .string nd.high, .bool nd.dead, .slice EA43_48 nd.es.length ec43_48, vi ((nd.free : Int))] hst52 fun W53 hst53 => ?_
    refine sqp [.k 11 (.bool true)] ?_
    refine then_normal (wp_seq (sqr ?_))
    refine sqv (.func (.func 48) #[] #[vp B9_31]) hst53 (by
        exact sv0 rfl rfl rfl rfl rfl (fun _ _ _ h => h) fun ρ β W X cx => by
          have fF9 : ρ (.tmp 9) = vp B9_31 := (cx.ou 9)
          simp [go_sem, Instr.makeFunc, fF9]) fun W55 hst55 => ?_
    refine sqp [.m 12 46] ?_
    refine then_normal (wp_seq (wp_block (wp_seq (sqr (sqp [.k 48 (.bool true), .k 49 (.bool false), .k 47 (.bool false)] ?_)))))
    refine then_normal (wcf rfl (wp_seq (sqr ?_)))
    refine sqlb 3 7 hst55 ?_
    refine sqp [.k 52 (vp B9_31), .k 53 (vp B9_31)] ?_
    refine sqld 1 hst55 ?_
    refine sqk (.bool (sndB nd.dead nd.high te)) hst55 (fun cx => ⟨_, ksends_any pos nd.lv nd.right (nd.free : Int) nd.high nd.dead _ _ _ te _ (by omega) (by omega), (map2 (cx.ou 51) (cx.ou 54))⟩) fun W64 hst64 => ?_
    refine sqp [.m 50 55] ?_
    refine then_normal (wbs (fun hs66 => ?_) fun hs66 => ?_)
    · refine wp_seq (wp_seq (sqr (sqp [.k 56 (.pointer (some ⟨B10_52, 2, none⟩))] ?_)))
      refine sqld 3 hst64 ?_
      refine sqp [.k 58 (.bool (decide (nd.right < 0)))] ?_
      refine then_normal (wds (fun hs70 hs70p => ?_) fun hs70 hs70p => ?_)
      · refine wp_seq (sqr (sqp [.k 6 (.slice none 0 0), .k 7 (.bool false), .k 8 (vi 11)] ?_))
        refine then_normal (wp_ret (then_ret (blk_ret (then_ret ?_))))
        refine bpr (.tuple #[.slice none 0 0, .bool false, vi 11]) (results_3 Try.results16 rpt rpt rpt) ?_
        rw [st_lost hnd hs66 (by omega)]
        have hn74 := nilrowN hst64 99 3
        simp only [List.cons_append, List.nil_append] at hn74
        have hup_ := hn74.upd
        have hpk_ := hn74.pick [0, 4] (by decide) rfl
        subst hln
        exact ⟨_, _, rfl, pk_old hpk_ hfp hbg hlt hlc (hL _ hup_) (fun ad e _ => by rw [← Option.some.inj e]; exact hla)⟩
      refine wp_skip (then_normal (wp_seq (sqr (sqp [.m 59 0, .k 60 (.pointer (some ⟨B10_52, 2, none⟩))] ?_))))
      refine sqld 3 hst64 ?_
      refine sqp [.k 62 (vp b), .k 63 (.pointer (some ⟨b, 1, none⟩))] ?_
      refine sqst (n := 1) 0 #[vi root, vi nd.right, vi leaf, .slice ((some la)) ln lc, vi 0, vi 0, .bool false] hst64 fun W80 hst80 => ?_
      refine then_normal (wp_seq (sqr (sqp [.k 6 (.slice none 0 0), .k 7 (.bool false), .k 8 (vi 0)] ?_)))
      refine then_normal (wp_ret (blk_ret (then_ret ?_)))
      refine bpr (.tuple #[.slice none 0 0, .bool false, vi 0]) (results_3 Try.results16 rpt rpt rpt) ?_
      rw [st_right hnd hs66 (by omega)]
      have hn84 := nilrowN hst80 99 3
      simp only [List.cons_append, List.nil_append] at hn84
      have hup_ := hn84.upd
      have hpk_ := hn84.pick [0, 4] (by decide) rfl
      subst hln
      exact ⟨_, _, rfl, pk_old hpk_ hfp hbg hlt hlc (hL _ hup_) (fun ad e _ => by rw [← Option.some.inj e]; exact hla)⟩
    refine wp_seq (sqr (sqp [.k 65 (.pointer (some ⟨B10_52, 1, none⟩))] ?_))
    refine sqld 3 hst64 ?_
    refine sqp [.k 67 (.pointer (some ⟨B9_31, 3, none⟩))] ?_
    refine sqld 1 hst64 ?_
    refine sqp [.k 69 (.bool (decide (tl < nd.lv))), .m 64 69] ?_
    refine then_normal (wds (fun hs91 hs91p => ?_) fun hs91 hs91p => ?_)
    · refine wp_seq (sqr (sqp [.m 70 0] ?_))
      refine sqlb 3 7 hst64 ?_
      refine sqp [.k 72 (vp B9_31), .k 73 (vp B9_31)] ?_
      refine sqld 1 hst64 ?_
      refine sqk (vi (downF te nd.es (-1))) hst64 (fun cx => ⟨_, kdown_any _ _ _ _ _ _ _ _ _ _ nd.es _ (At.of_ownN (cx.ri 2 rfl)) rfl hN.es6 (by omega) (by omega), (map2 (cx.ou 71) (cx.ou 74))⟩) fun W97 hst97 => ?_
      refine sqp [.k 76 (vp b), .k 77 (.pointer (some ⟨b, 1, none⟩))] ?_
      refine sqst (n := 1) 0 #[vi root, vi (downF te nd.es (-1)), vi leaf, .slice ((some la)) ln lc, vi 0, vi 0, .bool false] hst97 fun W100 hst100 => ?_
      refine then_normal (wp_seq (sqr (sqp [.k 6 (.slice none 0 0), .k 7 (.bool false), .k 8 (vi 0)] ?_)))
      refine then_normal (wp_ret (blk_ret (then_ret ?_)))
      refine bpr (.tuple #[.slice none 0 0, .bool false, vi 0]) (results_3 Try.results16 rpt rpt rpt) ?_
      rw [st_down hnd hs66 (by omega)]
      have hn104 := nilrowN hst100 99 3
      simp only [List.cons_append, List.nil_append] at hn104
      have hup_ := hn104.upd
      have hpk_ := hn104.pick [0, 4] (by decide) rfl
      subst hln
      exact ⟨_, _, rfl, pk_old hpk_ hfp hbg hlt hlc (hL _ hup_) (fun ad e _ => by rw [← Option.some.inj e]; exact hla)⟩
    refine wp_seq (sqr (sqp [.k 79 (.pointer (some ⟨B10_52, 1, none⟩))] ?_))
    refine sqld 3 hst64 ?_
    refine sqp [.k 81 (.pointer (some ⟨B9_31, 3, none⟩))] ?_
    refine sqld 1 hst64 ?_
    refine sqp [.k 83 (.bool (decide (nd.lv < tl))), .m 78 83] ?_
    refine then_normal (wds (fun hs111 hs111p => ?_) fun hs111 hs111p => ?_)
    · refine wp_seq (sqr (sqp [.k 6 (.slice none 0 0), .k 7 (.bool false), .k 8 (vi 11)] ?_))
      refine then_normal (wp_ret (blk_ret (then_ret ?_)))
      refine bpr (.tuple #[.slice none 0 0, .bool false, vi 11]) (results_3 Try.results16 rpt rpt rpt) ?_
      rw [st_form hnd hs66 (by omega) (by omega)]
      have hn115 := nilrowN hst64 99 3
      simp only [List.cons_append, List.nil_append] at hn115
      have hup_ := hn115.upd
      have hpk_ := hn115.pick [0, 4] (by decide) rfl
      subst hln
      exact ⟨_, _, rfl, pk_old hpk_ hfp hbg hlt hlc (hL _ hup_) (fun ad e _ => by rw [← Option.some.inj e]; exact hla)⟩
    refine wp_seq (sqr (sqp [.k 85 (.pointer (some ⟨B10_52, 5, none⟩))] ?_))
    refine sqld 3 hst64 ?_
    have hd120 : (decide ((nd.es.length : Int) < 8)) = true := (decide_eq_true (by omega))
    refine sqp [.k 87 (vi ((nd.es.length : Int))), .e 88 (.bool (decide ((nd.es.length : Int) < 8))) (.bool true) (congrArg Value.bool hd120), .k 89 (.bool true)] ?_
    refine sqgn 89 [90, 91, 92, 93] rfl rfl ?_
    refine sqp [.k 94 (.bool true), .k 84 (.bool true)] ?_
    refine then_normal (wct rfl (wp_seq ?_))
    rcases hq : hasE nd.es te with _ | _
    · refine wp_region_Y [0, 0, 0, 7, 15, 31, 63] [[], [3], [1], [0, 2]] [[], [], [], [4, 5]] [[], [], [], [0]] [.k 95 (vp b), .c 96 (.agg #[vi pos, vi nd.lv, vi nd.right, .string nd.high, .bool nd.dead, .slice EA43_48 nd.es.length ec43_48, vi ((nd.free : Int))]), .c 97 (.agg #[.string te, vi 0, vi tk, vi tl]), .a 98, .a 6, .k 7 (.bool false), .k 8 (vi 0)] (fun ix σ β X => match ix with | 0 => True | 1 => True | 2 => True | 3 => σ 98 = .slice (sA (β 98)) 1 (sC (β 98)) ∧ X 4 = eB b 109 #[vi root, vi root, vi ((if tl = 0 then pos else leaf)), .slice ((if lc = 1 then some la else (some la).map (·.add (1 * 4)))) ((ln - 1)) ((lc - 1)), vi 0, vi 0, .bool false] ∧ X 5 = eO 99 3 (.slice (sA (β 98)) 1 (sC (β 98))) 1 ([(pos, (nd.free : Int), itB nd.lv tk te)].flatMap edC) | 4 => σ 6 = .slice (sA (β 98)) 1 (sC (β 98)) | _ => True) [1, 2, 3, 4, 5] [1, 2, 3, 4] [(6, 4, 3, 9), (86, 0, 4, 90)] hst64 ?_ ?_ ?_
      · exact fun ix _ _ _ _ _ _ hs hb hx h => match ix, h with
        | 3, h => by dsimp only; rw [← hs 98 rfl, ← hb 98 rfl, ← hx 4 rfl, ← hx 5 rfl]; exact h
        | 4, h => by dsimp only; rw [← hs 6 rfl, ← hb 98 rfl]; exact h
        | 0, _ | 1, _ | 2, _ | _ + 5, _ => trivial
      · refine ⟨?_, ?_, ?_, ?_, trivial⟩
        · exact xs4 rfl id fun cx => run_loadB (n := 7) rfl (by kernel_rfl) (by kernel_rfl) (cx.ou 10) (cx.bi 3 rfl) (nle rfl) rfl
        · exact xs4 rfl id fun cx => run_loadB (n := 4) rfl (by kernel_rfl) (by kernel_rfl) (cx.ou 9) (cx.bi 1 rfl) (nle rfl) rfl
        · refine svA fun ρ β W X cx => ?_
          refine DoesU.call (run_callF (args := #[vp b, .agg #[vi pos, vi nd.lv, vi nd.right, .string nd.high, .bool nd.dead, .slice EA43_48 nd.es.length ec43_48, vi ((nd.free : Int))], .agg #[.string te, vi 0, vi tk, vi tl]]) rfl cx.sees rfl (by kernel_rfl) (map3 (cx.an 0) (cx.an 1) (cx.an 2))) ?_
          refine (kput_any _ _ _ _ _ _ _ _ _ _ nd pos _ _ te 0 tk tl false _ (cx.bi 0 rfl) (CtxV.keepAt cx (cx.init 2 _ rfl) (cx.init 0 _ rfl) rfl rfl (by decide)) (by omega) (by omega) (by omega) (by omega) hq).mono ?_
          rintro e W1 ⟨A4, c4, rfl, hs4⟩
          refine ⟨_, rfl, post_obj (E := eB b 109 #[vi root, vi pos, vi leaf, .slice ((some la)) ln lc, vi 0, vi 0, .bool false]) [eB b 109 #[vi root, vi root, vi ((if tl = 0 then pos else leaf)), .slice ((if lc = 1 then some la else (some la).map (·.add (1 * 4)))) ((ln - 1)) ((lc - 1)), vi 0, vi 0, .bool false], eO 99 3 (.slice A4 1 c4) 1 ([(pos, (nd.free : Int), itB nd.lv tk te)].flatMap edC)] (cx.init 0 _ rfl) rfl rfl hs4 (fun σ β' X' hs hb hv hN => ?_)⟩
          have hv1 := (hv 98 rfl).1; have hv2 := (hv 98 rfl).2
          exact ⟨hv1.trans (by rw [hv2]; rfl), (List.cons.inj hN).1, (by rw [hv2]; exact (List.cons.inj (List.cons.inj hN).2).1)⟩
        · exact sv rfl rfl rfl rfl rfl _ (fun _ _ _ h => h) (fun β β' h => by rw [h 98 (by decide)]) fun ρ β W X cx => run_assign' rfl (dTn (cx.an 3)).1
      intro σ β X W124 hD hst124 fr hfr
      obtain ⟨A98_124, hu_A98_124⟩ : ∃ z, sA (β 98) = z := ⟨_, rfl⟩
      obtain ⟨c98_124, hu_c98_124⟩ : ∃ z, sC (β 98) = z := ⟨_, rfl⟩
      simp only [exq 4 ((dTn (hD 3 lq)).2.1), exq 5 ((dTn (hD 3 lq)).2.2), hu_A98_124, hu_c98_124] at hst124
      simp only [ed 98 ((dTn (hD 3 lq)).1), ed 6 ((dTn (hD 4 lq))), hu_A98_124, hu_c98_124] at hfr
      clear hD hu_A98_124 hu_c98_124; subst hfr; clear σ β X
      refine then_normal (wp_ret (blk_ret (then_ret ?_)))
      refine bpr (.tuple #[.slice A98_124 1 c98_124, .bool false, vi 0]) (results_3 Try.results16 rpt rpt rpt) ?_
      rw [st_put hnd hs66 (by omega) (by omega) hq hn8]
      have hup_ := hst124.upd
      have hpk_ := hst124.pick [3, 4] (by decide) rfl
      have hl1_ : ln - 1 = lf.length := by omega
      have hlv_ : nd.lv = tl := by omega
      rw [hl1_, hlv_] at hpk_
      exact ⟨_, _, rfl, pk_old hpk_ hfp hbg hlt (by show lf.length ≤ lc - 1; omega) (At.dropF (ts := (te, tl, tk) :: lf) tkK_len (hL _ hup_) 1 lc hlc) (fun ad e _ => by rw [tail_blk4 e]; exact hla)⟩
    · refine wp_region_Y [0, 0, 0, 7, 15, 31, 63] [[], [3], [1], [0, 2]] [[], [], [], [4, 5]] [[], [], [], [0]] [.k 95 (vp b), .c 96 (.agg #[vi pos, vi nd.lv, vi nd.right, .string nd.high, .bool nd.dead, .slice EA43_48 nd.es.length ec43_48, vi ((nd.free : Int))]), .c 97 (.agg #[.string te, vi 0, vi tk, vi tl]), .a 98, .a 6, .k 7 (.bool false), .k 8 (vi 0)] (fun ix σ β X => match ix with | 0 => True | 1 => True | 2 => True | 3 => σ 98 = .slice (sA (β 98)) 0 (sC (β 98)) ∧ X 4 = eB b 109 #[vi root, vi root, vi ((if tl = 0 then pos else leaf)), .slice ((if lc = 1 then some la else (some la).map (·.add (1 * 4)))) ((ln - 1)) ((lc - 1)), vi 0, vi 0, .bool false] ∧ X 5 = eO 99 3 (.slice (sA (β 98)) 0 (sC (β 98))) 0 (([] : List EdT).flatMap edC) | 4 => σ 6 = .slice (sA (β 98)) 0 (sC (β 98)) | _ => True) [1, 2, 3, 4, 5] [1, 2, 3, 4] [(6, 4, 3, 9), (86, 0, 4, 90)] hst64 ?_ ?_ ?_
      · exact fun ix _ _ _ _ _ _ hs hb hx h => match ix, h with
        | 3, h => by dsimp only; rw [← hs 98 rfl, ← hb 98 rfl, ← hx 4 rfl, ← hx 5 rfl]; exact h
        | 4, h => by dsimp only; rw [← hs 6 rfl, ← hb 98 rfl]; exact h
        | 0, _ | 1, _ | 2, _ | _ + 5, _ => trivial
      · refine ⟨?_, ?_, ?_, ?_, trivial⟩
        · exact xs4 rfl id fun cx => run_loadB (n := 7) rfl (by kernel_rfl) (by kernel_rfl) (cx.ou 10) (cx.bi 3 rfl) (nle rfl) rfl
        · exact xs4 rfl id fun cx => run_loadB (n := 4) rfl (by kernel_rfl) (by kernel_rfl) (cx.ou 9) (cx.bi 1 rfl) (nle rfl) rfl
        · refine svA fun ρ β W X cx => ?_
          refine DoesU.call (run_callF (args := #[vp b, .agg #[vi pos, vi nd.lv, vi nd.right, .string nd.high, .bool nd.dead, .slice EA43_48 nd.es.length ec43_48, vi ((nd.free : Int))], .agg #[.string te, vi 0, vi tk, vi tl]]) rfl cx.sees rfl (by kernel_rfl) (map3 (cx.an 0) (cx.an 1) (cx.an 2))) ?_
          refine (kput_any _ _ _ _ _ _ _ _ _ _ nd pos _ _ te 0 tk tl true _ (cx.bi 0 rfl) (CtxV.keepAt cx (cx.init 2 _ rfl) (cx.init 0 _ rfl) rfl rfl (by decide)) (by omega) (by omega) (by omega) (by omega) hq).mono ?_
          rintro e W1 ⟨A4, c4, rfl, hs4⟩
          refine ⟨_, rfl, post_obj (E := eB b 109 #[vi root, vi pos, vi leaf, .slice ((some la)) ln lc, vi 0, vi 0, .bool false]) [eB b 109 #[vi root, vi root, vi ((if tl = 0 then pos else leaf)), .slice ((if lc = 1 then some la else (some la).map (·.add (1 * 4)))) ((ln - 1)) ((lc - 1)), vi 0, vi 0, .bool false], eO 99 3 (.slice A4 0 c4) 0 (([] : List EdT).flatMap edC)] (cx.init 0 _ rfl) rfl rfl hs4 (fun σ β' X' hs hb hv hN => ?_)⟩
          have hv1 := (hv 98 rfl).1; have hv2 := (hv 98 rfl).2
          exact ⟨hv1.trans (by rw [hv2]; rfl), (List.cons.inj hN).1, (by rw [hv2]; exact (List.cons.inj (List.cons.inj hN).2).1)⟩
        · exact sv rfl rfl rfl rfl rfl _ (fun _ _ _ h => h) (fun β β' h => by rw [h 98 (by decide)]) fun ρ β W X cx => run_assign' rfl (dTn (cx.an 3)).1
      intro σ β X W125 hD hst125 fr hfr
      obtain ⟨A98_125, hu_A98_125⟩ : ∃ z, sA (β 98) = z := ⟨_, rfl⟩
      obtain ⟨c98_125, hu_c98_125⟩ : ∃ z, sC (β 98) = z := ⟨_, rfl⟩
      simp only [exq 4 ((dTn (hD 3 lq)).2.1), exq 5 ((dTn (hD 3 lq)).2.2), hu_A98_125, hu_c98_125] at hst125
      simp only [ed 98 ((dTn (hD 3 lq)).1), ed 6 ((dTn (hD 4 lq))), hu_A98_125, hu_c98_125] at hfr
      clear hD hu_A98_125 hu_c98_125; subst hfr; clear σ β X
      refine then_normal (wp_ret (blk_ret (then_ret ?_)))
      refine bpr (.tuple #[.slice A98_125 0 c98_125, .bool false, vi 0]) (results_3 Try.results16 rpt rpt rpt) ?_
      rw [st_there hnd hs66 (by omega) (by omega) hq]
      have hup_ := hst125.upd
      have hpk_ := hst125.pick [3, 4] (by decide) rfl
      have hl1_ : ln - 1 = lf.length := by omega
      have hlv_ : nd.lv = tl := by omega
      rw [hl1_] at hpk_
      exact ⟨_, _, rfl, pk_old hpk_ hfp hbg hlt (by show lf.length ≤ lc - 1; omega) (At.dropF (ts := (te, tl, tk) :: lf) tkK_len (hL _ hup_) 1 lc hlc) (fun ad e _ => by rw [tail_blk4 e]; exact hla)⟩
end
end Go.Proofs.Ytjlcoglmjldjbaa
namespace Go.Proofs.Ytjlcoglmjldjbaa
section
open Go.RowKit
set_option linter.unusedVariables false
set_option linter.unusedSimpArgs false
theorem edC_one (l : List EdT) : ∀ u ∈ l.flatMap edC, Value.oneCell' u = true := fun u hu => by
  obtain ⟨p, _, hp⟩ := List.mem_flatMap.1 hu
  simp only [edC, List.mem_cons, List.not_mem_nil, or_false] at hp
  rcases hp with rfl | rfl | rfl <;> rfl
theorem ed_join (A B : List EdT) : A.flatMap edC ++ B.flatMap edC = (A ++ B).flatMap edC := by rw [List.flatMap_append]
theorem itB_one {lv k : Int} {x : ByteArray} (h : 0 < lv) : itB lv k x = itB 1 k x := by rw [itB, itB, if_pos h, if_pos (by decide)]
def sBk : Value → Nat
  | .slice (some a) _ _ => a.block
  | _ => 0
def EdPost1 (l : List EdT) (w : World) (e : Ending) (w' : World) : Prop := ∃ g c, e = .returned (.slice (some ⟨g, 0, none⟩) l.length c) ∧ w'.ownsRow w.heap.size 99 3 (.slice (some ⟨g, 0, none⟩) l.length c) l.length (l.flatMap edC) ∧ Ext w w'
theorem ed_some {l : List EdT} {f : FuncId} {args : Array Value} {w : World} (h0 : 0 < l.length) (h : Calls Try.prog f args w (EdPost l w)) : Calls Try.prog f args w (EdPost1 l w) := h.mono fun e w' ⟨A, c, h1, h2, h3⟩ => by
  rcases h2.2 with ⟨hv, _⟩ | ⟨g, cap, cur, hv, _⟩
  · injection hv with h4 h5 h6; omega
  · have hv2 := hv
    injection hv with h5 h6 h7
    subst h5
    exact ⟨g, c, h1, h2, h3⟩
theorem freshE_len (pg lv rt : Int) (hi : ByteArray) (es : List EnD) : (freshE pg lv rt hi es).length = es.length + 2 := by
  have e : ∀ (es : List EnD) (k : Nat), (itsE pg lv k es).length = es.length := by
    intro es
    induction es with
    | nil => intro k; rfl
    | cons x l ih => intro k; rw [itsE, List.length_cons, ih, List.length_cons]
  rw [freshE, List.length_append, e]
  show 2 + _ = _
  omega
theorem clearE_len (pg : Int) (es : List EnD) : (clearE pg es).length = es.length := List.length_map _
set_option maxRecDepth 100000 in
set_option maxHeartbeats 2000000 in
theorem kclear_any (pg : Int) (EA : Option Addr) (ec n : Nat) (es : List EnD) (w : World) (hE : At w EA (es.flatMap enC)) (hn : es.length = n) (hnb : n ≤ 1000) :
    Calls Try.prog 76 #[.int .i64 pg, .slice EA n ec] w (EdPost (clearE pg es) w) := by
  go_enter Try.func76, Try.ntmps76
  have hst0 := St.start w
  refine wp_seq (sqr (sqp [.k 4 (.slice none 0 0)] ?_))
  refine then_normal (wp_seq (sqr (sqp [.k 5 (.slice none 0 0)] ?_)))
  refine then_normal (wp_seq (wp_seq (sqr (sqp [.m 8 1, .k 9 (vi ((n : Int))), .k 10 (vi 0)] ?_))))
  refine then_normal (wp_block ?_)
  have hn6 := nilrowN hst0 99 3
  simp only [List.cons_append, List.nil_append] at hn6
  refine wp_loopT (fun t_ mz az W => ∃ i : Nat, ∃ nn : Nat, ∃ O : List EdT, ∃ OA : Option Addr, ∃ OC : Nat, i ≤ n ∧ O = clearE pg (es.take i) ∧ O.length = nn ∧ nn ≤ 10 + i ∧ mz = n - i ∧ az = ⟨(ovr (jv az) [(5, 5, 0, [.slice OA nn OC]), (1, 7, 1, []), (2, 10, 0, [vi ((i : Int))]), (0, 11, 11, [])] t_).toArray, []⟩ ∧ St w [] [eO 99 3 (.slice OA nn OC) nn (O.flatMap edC)] W) (n - 0) ?_ ?_
  · -- the loop begins
    exact ⟨0, 0, ([] : List EdT), none, 0, Nat.zero_le _, rfl, rfl, by omega, rfl, (by kernel_rfl), hn6.pk [0]⟩
  rintro n7 a7 W7 ⟨i, nn, O, OA, OC, hi, hO, hOl, hnn, rfl, hj_, hst7⟩
  refine ovz hj_ fun u7_ => ?_
  refine wp_seq (sqr (sqp [.k 11 (.bool (decide ((i : Int) < (n : Int))))] ?_))
  refine then_normal (wp_seq (wds (fun hs9 hs9p => ?_) fun hs9 hs9p => ?_))
  · refine wp_skip (then_normal (wp_seq (wp_block (wp_seq (sqr ?_)))))
    refine sql (.pointer (some ((ad EA).add (i * 3)))) hst7 (fun cx => run_indexSlM (e := 104) (m := i) (sz := 3) rfl (by kernel_rfl) (by kernel_rfl) (cx.ou 8) (cx.ou 10) (by omega) (by omega) (hE.ext cx.upd.to_ext) (flatPos (sz := 3) enC_len (by decide) (by omega))) ?_
    refine sql (.agg #[.string ((es.getD i en0).1), vi (((es.getD i en0).2.1 : Int)), vi ((es.getD i en0).2.2)]) hst7 (fun cx => run_loadElt (f := enC) (m := i) (sz := 3) (off := 0) (n := 3) rfl (by kernel_rfl) (by kernel_rfl) (cx.ou 12) rfl enC_len (hE.ext cx.upd.to_ext) (en_get (by omega)) (fun k hk => match k, hk with | 0, _ => rfl | 1, _ => rfl | 2, _ => rfl | k + 3, hk => absurd hk (by omega))) ?_
    refine sqal #[.string ByteArray.empty, vi 0, vi 0] hst7 fun B7_12 W12 hst12 => ?_
    refine sqst (n := 3) 1 #[.string ((es.getD i en0).1), vi (((es.getD i en0).2.1 : Int)), vi ((es.getD i en0).2.2)] hst12 fun W13 hst13 => ?_
    refine then_normal (sqr (sqp [.m 14 5, .m 15 0, .k 16 (.pointer (some ⟨B7_12, 1, none⟩))] ?_))
    refine sqld 1 hst13 ?_
    refine sqp [.k 18 (.agg #[vi pg, vi (((es.getD i en0).2.1 : Int)), .string ByteArray.empty])] ?_
    refine sqli 99 3 1 (edC (pg, ((es.getD i en0).2.1 : Int), ByteArray.empty)) hst13 (@fun ρ β W X cx => by have fF18 : ρ (.tmp 18) = .agg #[vi pg, vi (((es.getD i en0).2.1 : Int)), .string ByteArray.empty] := (cx.ou 18); simp [go_sem, fF18, edC]) fun B19_19 W19 hst19 => ?_
    refine sqap (nn + 1) ((O ++ [(pg, ((es.getD i en0).2.1 : Int), ByteArray.empty)]).flatMap edC) 0 hst19 Try.infoEdit (fun cx => (At.of_ownN (cx.ri 2 rfl))) (h1 := by simp [edC, Value.oneCell']) (hxs := ed_snoc _ _) fun A20_20 c20_20 W20 hst20 => ?_
    refine sqp [.m 5 20] ?_
    refine blk_normal (then_normal (sqr (sqp [sI 21 ((i : Int) + 1) (by omega), .m 10 21] ?_)))
    refine then_normal ?_
    refine ⟨n - ((i + 1)), by omega, ?_⟩
    exact ⟨(i + 1), (nn + 1), (O ++ [(pg, ((es.getD i en0).2.1 : Int), ByteArray.empty)]), A20_20, c20_20, by omega, by rw [hO, clearE_snoc (by omega)], by rw [List.length_append, hOl]; rfl, by omega, rfl, (by kernel_rfl), hst20.pk [0]⟩
  refine wp_exit (then_exit (then_exit (blk_eq (then_normal (wp_seq (sqr (sqp [.m 22 5, .m 4 22] ?_)))))))
  refine then_normal (wp_ret ?_)
  refine bpr (.slice OA nn OC) (results_1 Try.results76 rpt) ?_
  rw [clearE_all (by omega)] at hO
  rw [hO] at hst7 hOl
  rw [← hOl] at hst7 ⊢
  have ho_ := hst7.own' 0 rfl
  exact ⟨_, _, rfl, ho_, hst7.ext⟩
set_option maxRecDepth 100000 in
set_option maxHeartbeats 2000000 in
theorem kgrow_any (b : Nat) (root pos leaf fro to : Int) (spl : Bool) (la : Addr) (ln lc : Nat) (nd : NoD) (np pg : Int) (EA : Option Addr) (ec : Nat) (w : World) (hb : Blk w b 109 #[.int .i64 root, .int .i64 pos, .int .i64 leaf, .slice ((some la)) ln lc, .int .i64 fro, .int .i64 to, .bool spl]) (hE : ∀ W, Upd [b] w W → At W EA (nd.es.flatMap enC)) (hez : ∀ e ∈ nd.es, e.1.size ≤ 1000000) (hnb : nd.es.length ≤ 1000) (hlv : 0 ≤ nd.lv ∧ nd.lv ≤ 255) (hpg : 0 ≤ pg ∧ pg ≤ 1000000) (hes : 0 < nd.es.length) :
    Calls Try.prog 54 #[.pointer (some ⟨b, 0, none⟩), .agg #[.int .i64 np, .int .i64 nd.lv, .int .i64 nd.right, .string nd.high, .bool nd.dead, .slice EA nd.es.length ec, .int .i64 ((nd.free : Int))], .int .i64 pg] w (PtPost b #[.int .i64 root, .int .i64 pg, .int .i64 leaf, .slice ((some la)) ln lc, .int .i64 fro, .int .i64 to, .bool spl] (growE root nd pg) w) := by
  have hcl_ := clearE_len root nd.es
  have hfl_ := freshE_len pg nd.lv (-1) ByteArray.empty nd.es
  have st0 := St.lend (E := eB b 109 #[.int .i64 root, .int .i64 pos, .int .i64 leaf, .slice ((some la)) ln lc, .int .i64 fro, .int .i64 to, .bool spl]) hb (eB_loc _ _ _) (fun k hk => by simp [eB] at hk; subst hk; exact hb.lt)
  go_enter Try.func54, Try.ntmps54
  have hst0 := st0
  refine wp_seq (sqr ?_)
  refine sqbx #[vi np, vi nd.lv, vi nd.right, .string nd.high, .bool nd.dead, .slice EA nd.es.length ec, vi ((nd.free : Int))] hst0 fun B4_1 W1 hst1 => ?_
  refine sqp [.k 6 (.slice none 0 0)] ?_
  refine then_normal (wp_seq (sqr (sqp [.m 9 2, .k 10 (.pointer (some ⟨B4_1, 1, none⟩))] ?_)))
  refine sqld 1 hst1 ?_
  refine sqp [.k 12 (.pointer (some ⟨B4_1, 5, none⟩))] ?_
  refine sqld 1 hst1 ?_
  refine sqp [.k 14 (.agg #[vi 0, vi nd.lv, vi (-1), .string ByteArray.empty, .bool false, .slice EA nd.es.length ec, vi 0])] ?_
  refine sqk2 (fun A15_9 c15_9 => .slice A15_9 ((freshE pg nd.lv (-1) ByteArray.empty nd.es).length) c15_9) (fun A15_9 c15_9 => eO 99 3 (.slice A15_9 ((freshE pg nd.lv (-1) ByteArray.empty nd.es).length) c15_9) ((freshE pg nd.lv (-1) ByteArray.empty nd.es).length) ((freshE pg nd.lv (-1) ByteArray.empty nd.es).flatMap edC)) hst1 (fun cx => ⟨_, (kfresh_any pg 0 nd.lv (-1) 0 ByteArray.empty _ _ _ nd.es _ (hE _ cx.upd) rfl hez (by omega) (by omega) (by omega) (by decide)).mono (by rintro e W1 ⟨A4, c4, rfl, ho_, hx⟩; exact ⟨_, _, rfl, St.one hx (eO_new (n := (freshE pg nd.lv (-1) ByteArray.empty nd.es).length) (xs := (freshE pg nd.lv (-1) ByteArray.empty nd.es).flatMap edC) ho_)⟩), (map2 (cx.ou 9) (cx.ou 14))⟩) fun A15_9 c15_9 W9 hst9 => ?_
  refine sqp [.m 7 15] ?_
  refine then_normal (wp_seq (sqr (sqp [.k 16 (.pointer (some ⟨B4_1, 1, none⟩))] ?_)))
  refine sqld 1 hst9 ?_
  refine sqp [sI 18 (nd.lv + 1) (by omega), .k 19 (.agg #[vi 0, vi (nd.lv + 1), vi (-1), .string ByteArray.empty, .bool false, .slice none 0 0, vi 0])] ?_
  refine sqal #[vi 0, vi 0, vi 0, .string ByteArray.empty, .bool false, .slice none 0 0, vi 0] hst9 fun B8_15 W15 hst15 => ?_
  refine sqst (n := 7) 3 #[vi 0, vi (nd.lv + 1), vi (-1), .string ByteArray.empty, .bool false, .slice none 0 0, vi 0] hst15 fun W16 hst16 => ?_
  refine then_normal (wp_seq (wp_region_Y [0, 0, 2, 6, 14, 0, 32, 126, 254, 511, 1023] [[], [], [], [], [0], [3], [], [], [], [4, 2]] [[], [], [], [], [], [], [], [], [4], [5]] [[], [], [], [], [], [], [], [], [], [2]] [.k 20 (.slice A15_9 ((freshE pg nd.lv (-1) ByteArray.empty nd.es).length) c15_9), .k 21 (vp b), .k 22 (vp b), .k 23 (vp b), .c 24 (vi root), .c 25 (.agg #[vi 0, vi (nd.lv + 1), vi (-1), .string ByteArray.empty, .bool false, .slice none 0 0, vi 0]), .c 26 (.string (hdB (nd.lv + 1) (-1) false ByteArray.empty)), .k 27 (.agg #[vi root, vi 0, .string (hdB (nd.lv + 1) (-1) false ByteArray.empty)]), .a 28, .a 29, .a 7] (fun ix σ β X => match ix with | 0 => True | 1 => True | 2 => True | 3 => True | 4 => True | 5 => True | 6 => True | 7 => True | 8 => σ 28 = .slice ((some ⟨(pb' (β 28)), 0, none⟩)) 1 1 ∧ X 4 = eO 99 3 (.slice ((some ⟨(pb' (β 28)), 0, none⟩)) 1 1) 1 (edC (root, 0, hdB (nd.lv + 1) (-1) false ByteArray.empty)) | 9 => σ 29 = .slice (sA (β 29)) ((freshE pg nd.lv (-1) ByteArray.empty nd.es).length + 1) (sC (β 29)) ∧ X 5 = eO 99 3 (.slice (sA (β 29)) ((freshE pg nd.lv (-1) ByteArray.empty nd.es).length + 1) (sC (β 29))) ((freshE pg nd.lv (-1) ByteArray.empty nd.es).length + 1) (((freshE pg nd.lv (-1) ByteArray.empty nd.es) ++ [(root, 0, hdB (nd.lv + 1) (-1) false ByteArray.empty)]).flatMap edC) | 10 => σ 7 = .slice (sA (β 29)) ((freshE pg nd.lv (-1) ByteArray.empty nd.es).length + 1) (sC (β 29)) | _ => True) [0, 1, 3, 4, 5] [4, 5, 6, 8, 9, 10] [(7, 10, 1, 8), (12, 0, 10, 22)] hst16 ?_ ?_ ?_))
  · exact fun ix _ _ _ _ _ _ hs hb hx h => match ix, h with
    | 8, h => by dsimp only; rw [← hs 28 rfl, ← hb 28 rfl, ← hx 4 rfl]; exact h
    | 9, h => by dsimp only; rw [← hs 29 rfl, ← hb 29 rfl, ← hx 5 rfl]; exact h
    | 10, h => by dsimp only; rw [← hs 7 rfl, ← hb 29 rfl]; exact h
    | 0, _ | 1, _ | 2, _ | 3, _ | 4, _ | 5, _ | 6, _ | 7, _ | _ + 11, _ => trivial
  · refine ⟨?_, ?_, ?_, ?_, ?_, ?_, trivial⟩
    · exact xs4 rfl id fun cx => run_load1 rfl (by kernel_rfl) (cx.an 3) ((cx.bi 0 rfl).cell 0)
    · exact xs4 rfl id fun cx => run_loadB (n := 7) rfl (by kernel_rfl) (by kernel_rfl) (cx.ou 8) (cx.bi 3 rfl) (nle rfl) rfl
    · exact xsc rfl id rfl rfl fun cx => ⟨_, khead_le 0 (nd.lv + 1) (-1) 0 ByteArray.empty false _ _ _ _ (by omega) (by omega) (by first | omega | decide), (map1 (cx.an 5))⟩
    · refine svA fun ρ β W X cx => ?_
      have fF27 : ρ (.tmp 27) = .agg #[vi root, vi 0, .string (hdB (nd.lv + 1) (-1) false ByteArray.empty)] := (cx.an 7)
      exact dv_litN (e := 99) (sz := 3) (xs := [vi root, vi 0, .string (hdB (nd.lv + 1) (-1) false ByteArray.empty)]) rfl (by simp [go_sem, fF27]) rfl (by decide) rfl rfl (fun σ β' X' hs hb hv hx => ⟨hv, hx⟩)
    · refine svA fun ρ β W X cx => ?_
      obtain ⟨i0, hi0, hz0, hz1, hz2⟩ := info_parts Try.infoEdit
      refine dv_appendN (n := (freshE pg nd.lv (-1) ByteArray.empty nd.es).length) (m := 1) (nm := (freshE pg nd.lv (-1) ByteArray.empty nd.es).length + 1) (sz := 3) (xs := (freshE pg nd.lv (-1) ByteArray.empty nd.es).flatMap edC) (news := edC (root, 0, hdB (nd.lv + 1) (-1) false ByteArray.empty)) (xs' := ((freshE pg nd.lv (-1) ByteArray.empty nd.es) ++ [(root, 0, hdB (nd.lv + 1) (-1) false ByteArray.empty)]).flatMap edC) rfl (ty := 34) rfl (by kernel_rfl) hi0 hz0 hz1 hz2 rfl (by decide) (cx.an 0) cx (cx.init 2 _ rfl) rfl (dTn (cx.an 8)).1 (by rfl) (At.of_ownN (cx.row (dTn (cx.an 8)).2 rfl)) (by simp [edC, Value.oneCell']) (by simp only [maxLen]; omega) (by omega) rfl rfl rfl (by omega) (ed_snoc _ _) (fun σ β' X' hs hb hv hx => ?_)
      exact ⟨hv, hx⟩
    · exact sv rfl rfl rfl rfl rfl _ (fun _ _ _ h => h) (fun β β' h => by rw [h 29 (by decide)]) fun ρ β W X cx => run_assign' rfl (dTn (cx.an 9)).1
  intro σ β X W17 hD hst17 fr hfr
  obtain ⟨B28_17, hu_B28_17⟩ : ∃ z, pb' (β 28) = z := ⟨_, rfl⟩
  obtain ⟨A29_17, hu_A29_17⟩ : ∃ z, sA (β 29) = z := ⟨_, rfl⟩
  obtain ⟨c29_17, hu_c29_17⟩ : ∃ z, sC (β 29) = z := ⟨_, rfl⟩
  simp only [exq 4 ((dTn (hD 8 lq)).2), exq 5 ((dTn (hD 9 lq)).2), hu_B28_17, hu_A29_17, hu_c29_17] at hst17
  simp only [ed 28 ((dTn (hD 8 lq)).1), ed 29 ((dTn (hD 9 lq)).1), ed 7 ((dTn (hD 10 lq))), hu_B28_17, hu_A29_17, hu_c29_17] at hfr
  clear hD hu_B28_17 hu_A29_17 hu_c29_17; subst hfr; clear σ β X
  refine then_normal (wp_seq (wp_region_Y [0, 0, 2, 6, 14, 0, 32, 126, 255, 511] [[], [], [], [], [0], [], [1], [], [5, 4]] [[], [], [], [], [], [], [], [5], [6]] [[], [], [], [], [], [], [], [], [4]] [.k 30 (.slice A29_17 ((freshE pg nd.lv (-1) ByteArray.empty nd.es).length + 1) c29_17), .k 31 (vp b), .k 32 (vp b), .k 33 (vp b), .c 34 (vi root), .k 35 (.pointer (some ⟨B4_1, 5, none⟩)), .c 36 (.slice EA nd.es.length ec), .a 37, .a 38, .a 7] (fun ix σ β X => match ix with | 0 => True | 1 => True | 2 => True | 3 => True | 4 => True | 5 => True | 6 => True | 7 => σ 37 = .slice ((some ⟨(sBk (β 37)), 0, none⟩)) ((clearE root nd.es).length) (sC (β 37)) ∧ X 5 = eO 99 3 (.slice ((some ⟨(sBk (β 37)), 0, none⟩)) ((clearE root nd.es).length) (sC (β 37))) ((clearE root nd.es).length) ((clearE root nd.es).flatMap edC) | 8 => σ 38 = .slice (sA (β 38)) ((freshE pg nd.lv (-1) ByteArray.empty nd.es).length + 1 + (clearE root nd.es).length) (sC (β 38)) ∧ X 6 = eO 99 3 (.slice (sA (β 38)) ((freshE pg nd.lv (-1) ByteArray.empty nd.es).length + 1 + (clearE root nd.es).length) (sC (β 38))) ((freshE pg nd.lv (-1) ByteArray.empty nd.es).length + 1 + (clearE root nd.es).length) ((((freshE pg nd.lv (-1) ByteArray.empty nd.es) ++ [(root, 0, hdB (nd.lv + 1) (-1) false ByteArray.empty)]) ++ (clearE root nd.es)).flatMap edC) | 9 => σ 7 = .slice (sA (β 38)) ((freshE pg nd.lv (-1) ByteArray.empty nd.es).length + 1 + (clearE root nd.es).length) (sC (β 38)) | _ => True) [0, 1, 2, 3, 5, 6] [4, 6, 7, 8, 9] [(7, 9, 1, 8), (22, 0, 9, 31)] hst17 ?_ ?_ ?_))
  · exact fun ix _ _ _ _ _ _ hs hb hx h => match ix, h with
    | 7, h => by dsimp only; rw [← hs 37 rfl, ← hb 37 rfl, ← hx 5 rfl]; exact h
    | 8, h => by dsimp only; rw [← hs 38 rfl, ← hb 38 rfl, ← hx 6 rfl]; exact h
    | 9, h => by dsimp only; rw [← hs 7 rfl, ← hb 38 rfl]; exact h
    | 0, _ | 1, _ | 2, _ | 3, _ | 4, _ | 5, _ | 6, _ | _ + 10, _ => trivial
  · refine ⟨?_, ?_, ?_, ?_, ?_, trivial⟩
    · exact xs4 rfl id fun cx => run_load1 rfl (by kernel_rfl) (cx.an 3) ((cx.bi 0 rfl).cell 0)
    · exact xs4 rfl id fun cx => run_load1 rfl (by kernel_rfl) (cx.an 5) ((cx.bi 1 rfl).cell 5)
    · refine svA fun ρ β W X cx => ?_
      refine DoesU.call (run_callF (args := #[vi root, .slice EA nd.es.length ec]) rfl cx.sees rfl (by kernel_rfl) (map2 (cx.an 4) (cx.an 6))) ?_
      refine (ed_some (by omega) (kclear_any root _ _ _ nd.es _ (hE _ cx.upd) rfl (by omega))).mono ?_
      rintro e W1 ⟨G4, c4, rfl, ho_, hx⟩
      refine ⟨_, rfl, post_call [eO 99 3 (.slice (some ⟨G4, 0, none⟩) (clearE root nd.es).length c4) (clearE root nd.es).length ((clearE root nd.es).flatMap edC)] rfl rfl hx (one_new (eO_new (n := (clearE root nd.es).length) (xs := (clearE root nd.es).flatMap edC) ho_)) (List.pairwise_singleton _ _) (fun σ β' X' hs hb hv hN => ?_)⟩
      have hv1 := (hv 37 rfl).1; have hv2 := (hv 37 rfl).2
      exact ⟨hv1.trans (by rw [hv2]; rfl), (by rw [hv2]; exact (List.cons.inj hN).1)⟩
    · refine svA fun ρ β W X cx => ?_
      obtain ⟨i0, hi0, hz0, hz1, hz2⟩ := info_parts Try.infoEdit
      refine dv_appendN (n := (freshE pg nd.lv (-1) ByteArray.empty nd.es).length + 1) (m := (clearE root nd.es).length) (nm := (freshE pg nd.lv (-1) ByteArray.empty nd.es).length + 1 + (clearE root nd.es).length) (sz := 3) (xs := ((freshE pg nd.lv (-1) ByteArray.empty nd.es) ++ [(root, 0, hdB (nd.lv + 1) (-1) false ByteArray.empty)]).flatMap edC) (news := (clearE root nd.es).flatMap edC) (xs' := (((freshE pg nd.lv (-1) ByteArray.empty nd.es) ++ [(root, 0, hdB (nd.lv + 1) (-1) false ByteArray.empty)]) ++ (clearE root nd.es)).flatMap edC) rfl (ty := 34) rfl (by kernel_rfl) hi0 hz0 hz1 hz2 rfl (by decide) (cx.an 0) cx (cx.init 4 _ rfl) rfl (dTn (cx.an 7)).1 (by rw [flatLen edC_len]) (At.of_ownN (cx.row (dTn (cx.an 7)).2 rfl)) (edC_one _) (by simp only [maxLen]; omega) (by omega) rfl rfl rfl (by omega) (ed_join _ _) (fun σ β' X' hs hb hv hx => ?_)
      exact ⟨hv, hx⟩
    · exact sv rfl rfl rfl rfl rfl _ (fun _ _ _ h => h) (fun β β' h => by rw [h 38 (by decide)]) fun ρ β W X cx => run_assign' rfl (dTn (cx.an 8)).1
  intro σ β X W18 hD hst18 fr hfr
  obtain ⟨G37_18, hu_G37_18⟩ : ∃ z, sBk (β 37) = z := ⟨_, rfl⟩
  obtain ⟨c37_18, hu_c37_18⟩ : ∃ z, sC (β 37) = z := ⟨_, rfl⟩
  obtain ⟨A38_18, hu_A38_18⟩ : ∃ z, sA (β 38) = z := ⟨_, rfl⟩
  obtain ⟨c38_18, hu_c38_18⟩ : ∃ z, sC (β 38) = z := ⟨_, rfl⟩
  simp only [exq 5 ((dTn (hD 7 lq)).2), exq 6 ((dTn (hD 8 lq)).2), hu_G37_18, hu_c37_18, hu_A38_18, hu_c38_18] at hst18
  simp only [ed 37 ((dTn (hD 7 lq)).1), ed 38 ((dTn (hD 8 lq)).1), ed 7 ((dTn (hD 9 lq))), hu_G37_18, hu_c37_18, hu_A38_18, hu_c38_18] at hfr
  clear hD hu_G37_18 hu_c37_18 hu_A38_18 hu_c38_18; subst hfr; clear σ β X
  refine then_normal (wp_seq (sqr (sqp [.m 39 0, .m 40 2, .k 41 (vp b), .k 42 (.pointer (some ⟨b, 1, none⟩))] ?_)))
  refine sqst (n := 1) 0 #[vi root, vi pg, vi leaf, .slice ((some la)) ln lc, vi fro, vi to, .bool spl] hst18 fun W23 hst23 => ?_
  refine then_normal (wp_seq (wp_region_Y [0, 0, 2, 6, 14, 0, 0, 0, 192, 480, 1022, 2046, 4095, 8191] [[], [], [], [], [0], [2], [], [], [], [], [], [], [6, 5]] [[], [], [], [], [], [], [], [], [], [], [], [6], [7]] [[], [], [], [], [], [], [], [], [], [], [], [], [5]] [.k 43 (.slice A38_18 ((freshE pg nd.lv (-1) ByteArray.empty nd.es).length + 1 + (clearE root nd.es).length) c38_18), .k 44 (vp b), .k 45 (vp b), .k 46 (vp b), .c 47 (vi root), .c 48 (.agg #[vi 0, vi (nd.lv + 1), vi (-1), .string ByteArray.empty, .bool false, .slice none 0 0, vi 0]), .c 49 (.string leastB), .k 50 (vi pg), .k 51 (.agg #[.string leastB, vi 0, vi pg]), .c 52 (.string (itB (nd.lv + 1) pg leastB)), .k 53 (.agg #[vi root, vi 1, .string (itB (nd.lv + 1) pg leastB)]), .a 54, .a 55, .a 6] (fun ix σ β X => match ix with | 0 => True | 1 => True | 2 => True | 3 => True | 4 => True | 5 => True | 6 => True | 7 => True | 8 => True | 9 => True | 10 => True | 11 => σ 54 = .slice ((some ⟨(pb' (β 54)), 0, none⟩)) 1 1 ∧ X 6 = eO 99 3 (.slice ((some ⟨(pb' (β 54)), 0, none⟩)) 1 1) 1 (edC (root, 1, itB (nd.lv + 1) pg leastB)) | 12 => σ 55 = .slice (sA (β 55)) ((freshE pg nd.lv (-1) ByteArray.empty nd.es).length + 1 + (clearE root nd.es).length + 1) (sC (β 55)) ∧ X 7 = eO 99 3 (.slice (sA (β 55)) ((freshE pg nd.lv (-1) ByteArray.empty nd.es).length + 1 + (clearE root nd.es).length + 1) (sC (β 55))) ((freshE pg nd.lv (-1) ByteArray.empty nd.es).length + 1 + (clearE root nd.es).length + 1) (((((freshE pg nd.lv (-1) ByteArray.empty nd.es) ++ [(root, 0, hdB (nd.lv + 1) (-1) false ByteArray.empty)]) ++ (clearE root nd.es)) ++ [(root, 1, itB (nd.lv + 1) pg leastB)]).flatMap edC) | 13 => σ 6 = .slice (sA (β 55)) ((freshE pg nd.lv (-1) ByteArray.empty nd.es).length + 1 + (clearE root nd.es).length + 1) (sC (β 55)) | _ => True) [0, 1, 2, 3, 4, 6, 7] [4, 5, 6, 9, 11, 12, 13] [(6, 13, 1, 7), (36, 0, 13, 49)] hst23 ?_ ?_ ?_))
  · exact fun ix _ _ _ _ _ _ hs hb hx h => match ix, h with
    | 11, h => by dsimp only; rw [← hs 54 rfl, ← hb 54 rfl, ← hx 6 rfl]; exact h
    | 12, h => by dsimp only; rw [← hs 55 rfl, ← hb 55 rfl, ← hx 7 rfl]; exact h
    | 13, h => by dsimp only; rw [← hs 6 rfl, ← hb 55 rfl]; exact h
    | 0, _ | 1, _ | 2, _ | 3, _ | 4, _ | 5, _ | 6, _ | 7, _ | 8, _ | 9, _ | 10, _ | _ + 14, _ => trivial
  · refine ⟨?_, ?_, ?_, ?_, ?_, ?_, ?_, trivial⟩
    · exact xs4 rfl id fun cx => run_load1 rfl (by kernel_rfl) (cx.an 3) ((cx.bi 0 rfl).cell 0)
    · exact xs4 rfl id fun cx => run_loadB (n := 7) rfl (by kernel_rfl) (by kernel_rfl) (cx.ou 8) (cx.bi 2 rfl) (nle rfl) rfl
    · exact xsc rfl id rfl rfl fun cx => ⟨_, kleast_any _, map0⟩
    · exact xsc rfl id rfl rfl fun cx => ⟨_, kitem_any 0 (nd.lv + 1) (-1) 0 ByteArray.empty false _ _ _ leastB 0 pg _ (by decide), (map2 (cx.an 5) (cx.an 8))⟩
    · refine svA fun ρ β W X cx => ?_
      have fF53 : ρ (.tmp 53) = .agg #[vi root, vi 1, .string (itB (nd.lv + 1) pg leastB)] := (cx.an 10)
      exact dv_litN (e := 99) (sz := 3) (xs := [vi root, vi 1, .string (itB (nd.lv + 1) pg leastB)]) rfl (by simp [go_sem, fF53]) rfl (by decide) rfl rfl (fun σ β' X' hs hb hv hx => ⟨hv, hx⟩)
    · refine svA fun ρ β W X cx => ?_
      obtain ⟨i0, hi0, hz0, hz1, hz2⟩ := info_parts Try.infoEdit
      refine dv_appendN (n := (freshE pg nd.lv (-1) ByteArray.empty nd.es).length + 1 + (clearE root nd.es).length) (m := 1) (nm := (freshE pg nd.lv (-1) ByteArray.empty nd.es).length + 1 + (clearE root nd.es).length + 1) (sz := 3) (xs := (((freshE pg nd.lv (-1) ByteArray.empty nd.es) ++ [(root, 0, hdB (nd.lv + 1) (-1) false ByteArray.empty)]) ++ (clearE root nd.es)).flatMap edC) (news := edC (root, 1, itB (nd.lv + 1) pg leastB)) (xs' := ((((freshE pg nd.lv (-1) ByteArray.empty nd.es) ++ [(root, 0, hdB (nd.lv + 1) (-1) false ByteArray.empty)]) ++ (clearE root nd.es)) ++ [(root, 1, itB (nd.lv + 1) pg leastB)]).flatMap edC) rfl (ty := 34) rfl (by kernel_rfl) hi0 hz0 hz1 hz2 rfl (by decide) (cx.an 0) cx (cx.init 5 _ rfl) rfl (dTn (cx.an 11)).1 (by rfl) (At.of_ownN (cx.row (dTn (cx.an 11)).2 rfl)) (by simp [edC, Value.oneCell']) (by simp only [maxLen]; omega) (by omega) rfl rfl rfl (by omega) (ed_snoc _ _) (fun σ β' X' hs hb hv hx => ?_)
      exact ⟨hv, hx⟩
    · exact sv rfl rfl rfl rfl rfl _ (fun _ _ _ h => h) (fun β β' h => by rw [h 55 (by decide)]) fun ρ β W X cx => run_assign' rfl (dTn (cx.an 12)).1
  intro σ β X W24 hD hst24 fr hfr
  obtain ⟨B54_24, hu_B54_24⟩ : ∃ z, pb' (β 54) = z := ⟨_, rfl⟩
  obtain ⟨A55_24, hu_A55_24⟩ : ∃ z, sA (β 55) = z := ⟨_, rfl⟩
  obtain ⟨c55_24, hu_c55_24⟩ : ∃ z, sC (β 55) = z := ⟨_, rfl⟩
  simp only [exq 6 ((dTn (hD 11 lq)).2), exq 7 ((dTn (hD 12 lq)).2), hu_B54_24, hu_A55_24, hu_c55_24] at hst24
  simp only [ed 54 ((dTn (hD 11 lq)).1), ed 55 ((dTn (hD 12 lq)).1), ed 6 ((dTn (hD 13 lq))), hu_B54_24, hu_A55_24, hu_c55_24] at hfr
  clear hD hu_B54_24 hu_A55_24 hu_c55_24; subst hfr; clear σ β X
  refine then_normal (wp_ret ?_)
  refine bpr (.slice A55_24 ((freshE pg nd.lv (-1) ByteArray.empty nd.es).length + 1 + (clearE root nd.es).length + 1) c55_24) (results_1 Try.results54 rpt) ?_
  have hfin : ((((freshE pg nd.lv (-1) ByteArray.empty nd.es) ++ [(root, 0, hdB (nd.lv + 1) (-1) false ByteArray.empty)]) ++ (clearE root nd.es)) ++ [(root, 1, itB (nd.lv + 1) pg leastB)]) = growE root nd pg := by rw [growE, ← itB_one (lv := nd.lv + 1) (by omega)]; try rfl
  have hfl : (freshE pg nd.lv (-1) ByteArray.empty nd.es).length + 1 + (clearE root nd.es).length + 1 = (growE root nd pg).length := by rw [← hfin]; simp only [List.length_append, List.length_cons, List.length_nil]; try omega
  have hpk_ := hst24.pick [0, 6] (by decide) rfl
  rw [hfin, hfl] at hpk_
  rw [hfl]
  exact ⟨_, _, rfl, hpk_⟩
end
end Go.Proofs.Ytjlcoglmjldjbaa
namespace Go.Proofs.Ytjlcoglmjldjbaa
section
open Go.RowKit
set_option linter.unusedVariables false
set_option linter.unusedSimpArgs false
theorem tkK_one (l : List TaT) : ∀ u ∈ l.flatMap tkK, Value.oneCell' u = true := fun u hu => by
  obtain ⟨p, _, hp⟩ := List.mem_flatMap.1 hu
  simp only [tkK, List.mem_cons, List.not_mem_nil, or_false] at hp
  rcases hp with rfl | rfl | rfl | rfl <;> rfl
theorem tkK_snoc (l : List TaT) (t : TaT) : l.flatMap tkK ++ tkK t = (l ++ [t]).flatMap tkK := by simp
theorem Try.infoTkK : (Try.prog.info? 106).map (fun i => (i.zero, i.size, i.bytes)) = some (some (.agg #[.string ByteArray.empty, .int .i64 0, .int .i64 0, .int .i64 0]), 4, 40) := by kernel_rfl
def TkPost (l : List TaT) (w : World) (e : Ending) (w' : World) : Prop := ∃ A c, e = .returned (.slice A l.length c) ∧ w'.ownsRow w.heap.size 106 4 (.slice A l.length c) l.length (l.flatMap tkK) ∧ Ext w w'
/-- a split: the block of the insertion, its pending entries, the edits -/
def CkPost (b : Nat) (cells : Option Addr → Nat → Array Value) (l : List TaT) (eds : List EdT) (w : World) (e : Ending) (w' : World) : Prop := ∃ A c LA lc, e = .returned (.slice A eds.length c) ∧ St w [b] [eB b 109 (cells LA lc), eO 106 4 (.slice LA l.length lc) l.length (l.flatMap tkK), eO 99 3 (.slice A eds.length c) eds.length (eds.flatMap edC)] w'
set_option maxRecDepth 100000 in
set_option maxHeartbeats 2000000 in
theorem kclone_any (la : Addr) (ln lc : Nat) (lf : List TaT) (w : World) (hL : At w (some la) (lf.flatMap tkK)) (hln : lf.length = ln) (hlnb : ln ≤ 10000) :
    Calls Try.prog 84 #[.slice ((some la)) ln lc] w (TkPost lf w) := by
  go_enter Try.func84, Try.ntmps84
  have hst0 := St.start w
  refine wp_seq (sqr (sqp [.k 2 (.slice none 0 0)] ?_))
  refine then_normal (wp_seq (wp_seq (sqr (sqp [.m 3 0, .k 4 (.bool false)] ?_))))
  refine then_normal (wcf rfl (wp_skip (then_normal (wp_seq (sqr ?_)))))
  refine sqli 106 4 0 [] hst0 (@fun ρ β W X cx => by simp [go_sem]) fun B5_4 W4 hst4 => ?_
  refine sqp [.m 6 0] ?_
  refine sqap ln (lf.flatMap tkK) 0 hst4 Try.infoTkK (fun cx => (hL.ext cx.upd.to_ext)) (hl := by rw [flatLen tkK_len, hln]) (h1 := tkK_one _) fun A7_6 c7_6 W6 hst6 => ?_
  refine sqp [.m 2 7] ?_
  refine then_normal (wp_ret ?_)
  refine bpr (.slice A7_6 ln c7_6) (results_1 Try.results84 rpt) ?_
  have ho_ := hst6.own' 0 rfl
  rw [← hln] at ho_ ⊢
  exact ⟨_, _, rfl, ho_, hst6.ext⟩
set_option maxRecDepth 100000 in
set_option maxHeartbeats 2000000 in
theorem kcut_any (b : Nat) (root pos leaf fro to : Int) (spl : Bool) (la : Addr) (ln lc : Nat) (nd : NoD) (np pg : Int) (EA : Option Addr) (ec : Nat) (lf : List TaT) (w : World) (hb : Blk w b 109 #[.int .i64 root, .int .i64 pos, .int .i64 leaf, .slice ((some la)) ln lc, .int .i64 fro, .int .i64 to, .bool spl]) (hE : ∀ W, Upd [b] w W → At W EA (nd.es.flatMap enC)) (hez : ∀ e ∈ nd.es, e.1.size ≤ 1000000) (hnb : nd.es.length ≤ 1000) (hlv : 0 ≤ nd.lv ∧ nd.lv ≤ 255) (hpg : 0 ≤ pg ∧ pg ≤ 1000000) (hes : 0 < nd.es.length) (hec : nd.es.length ≤ ec) (hrt : -1 ≤ nd.right ∧ nd.right ≤ 1000000) (hhi : nd.high.size ≤ 1000000) (hdd : nd.dead = false) (hL : ∀ W, Upd [b] w W → At W (some la) (lf.flatMap tkK)) (hln : lf.length = ln) (hlnb : ln ≤ 10000) :
    Calls Try.prog 53 #[.pointer (some ⟨b, 0, none⟩), .agg #[.int .i64 np, .int .i64 nd.lv, .int .i64 nd.right, .string nd.high, .bool nd.dead, .slice EA nd.es.length ec, .int .i64 ((nd.free : Int))], .int .i64 pg] w (CkPost b (fun LA' lc' => #[.int .i64 root, .int .i64 pos, .int .i64 leaf, .slice (LA') ((ln + 1)) (lc'), .int .i64 ((if nd.lv = 0 then np else fro)), .int .i64 ((if nd.lv = 0 then pg else to)), .bool ((if nd.lv = 0 then true else spl))]) (lf ++ [(midE nd, nd.lv + 1, pg)]) (cutE np nd pg) w) := by
  obtain ⟨hf, hhf⟩ : ∃ k : Nat, nd.es.length / 2 = k := ⟨_, rfl⟩
  have hcl_ := clearE_len np (nd.es.drop hf)
  have hfl_ := freshE_len pg nd.lv nd.right nd.high (nd.es.drop hf)
  have hdl_ : (nd.es.drop hf).length = nd.es.length - hf := List.length_drop
  rw [hdl_] at hcl_ hfl_
  have hez2 : ∀ e ∈ nd.es.drop hf, e.1.size ≤ 1000000 := fun e he => hez e (List.mem_of_mem_drop he)
  have hmz := getD_size hez2 0
  have st0 := St.lend (E := eB b 109 #[.int .i64 root, .int .i64 pos, .int .i64 leaf, .slice ((some la)) ln lc, .int .i64 fro, .int .i64 to, .bool spl]) hb (eB_loc _ _ _) (fun k hk => by simp [eB] at hk; subst hk; exact hb.lt)
  go_enter Try.func53, Try.ntmps53
  have hst0 := st0
  refine wp_seq (sqr ?_)
  refine sqbx #[vi np, vi nd.lv, vi nd.right, .string nd.high, .bool nd.dead, .slice EA nd.es.length ec, vi ((nd.free : Int))] hst0 fun B4_1 W1 hst1 => ?_
  refine sqp [.k 6 (.slice none 0 0)] ?_
  refine then_normal (wp_seq (sqr (sqp [.k 10 (.pointer (some ⟨B4_1, 5, none⟩))] ?_)))
  refine sqld 1 hst1 ?_
  refine sqp [.k 12 (vi ((nd.es.length : Int))), sQu 13 .i64 (nd.es.length : Int) 2 ((nd.es.length : Int) / 2) (by rw [Int.tdiv_eq_ediv_of_nonneg (by omega)]; exact IntWalk.i64_in _ (by omega)), .m 7 13] ?_
  refine then_normal (wp_seq ?_)
  obtain ⟨z8_, hN_z8_⟩ : ∃ z, (nd.es.length : Int) / 2 = z := ⟨_, rfl⟩
  rw [hN_z8_]
  obtain rfl : z8_ = (hf : Int) := by omega
  refine sqr (sqp [.k 14 (.pointer (some ⟨B4_1, 5, none⟩))] ?_)
  refine sqld 1 hst1 ?_
  refine sqp [.m 16 7] ?_
  refine sql (.slice ((if ec = hf then EA else EA.map (·.add (hf * 3)))) ((nd.es.length - hf)) ((ec - hf))) hst1 (fun cx => run_sliceL_lo (e := 104) (sz := 3) (l := hf) rfl (by kernel_rfl) (by kernel_rfl) (cx.ou 15) (cx.ou 16) (by omega) (by omega)) ?_
  refine sqp [.m 8 17] ?_
  refine then_normal (wp_seq (sqr (sqp [.m 18 2, .k 19 (.pointer (some ⟨B4_1, 1, none⟩))] ?_)))
  refine sqld 1 hst1 ?_
  refine sqp [.k 21 (.pointer (some ⟨B4_1, 2, none⟩))] ?_
  refine sqld 1 hst1 ?_
  refine sqp [.k 23 (.pointer (some ⟨B4_1, 3, none⟩))] ?_
  refine sqld 1 hst1 ?_
  refine sqp [.m 25 8, .k 26 (.agg #[vi 0, vi nd.lv, vi nd.right, .string nd.high, .bool false, .slice ((if ec = hf then EA else EA.map (·.add (hf * 3)))) ((nd.es.length - hf)) ((ec - hf)), vi 0])] ?_
  refine sqk2 (fun A27_23 c27_23 => .slice A27_23 ((freshE pg nd.lv nd.right nd.high (nd.es.drop hf)).length) c27_23) (fun A27_23 c27_23 => eO 99 3 (.slice A27_23 ((freshE pg nd.lv nd.right nd.high (nd.es.drop hf)).length) c27_23) ((freshE pg nd.lv nd.right nd.high (nd.es.drop hf)).length) ((freshE pg nd.lv nd.right nd.high (nd.es.drop hf)).flatMap edC)) hst1 (fun cx => ⟨_, (kfresh_any pg 0 nd.lv nd.right 0 nd.high _ _ _ (nd.es.drop hf) _ (At.dropF (ts := nd.es) enC_len (hE _ cx.upd) hf ec hec) hdl_ hez2 (by omega) (by omega) (by omega) (by omega)).mono (by rintro e W1 ⟨A4, c4, rfl, ho_, hx⟩; exact ⟨_, _, rfl, St.one hx (eO_new (n := (freshE pg nd.lv nd.right nd.high (nd.es.drop hf)).length) (xs := (freshE pg nd.lv nd.right nd.high (nd.es.drop hf)).flatMap edC) ho_)⟩), (map2 (cx.ou 18) (cx.ou 26))⟩) fun A27_23 c27_23 W23 hst23 => ?_
  refine sqp [.m 9 27] ?_
  refine then_normal (wp_seq (wp_region_Y [0, 0, 2, 6, 14, 1, 33, 127, 255] [[], [], [], [], [], [], [1], [], [3]] [[], [], [], [], [], [], [3], [], [4]] [[], [], [], [], [], [], [1], [], [3]] [.k 28 (vi pg), .k 29 (.slice ((if ec = hf then EA else EA.map (·.add (hf * 3)))) ((nd.es.length - hf)) ((ec - hf))), .c 30 (.pointer (some ((ad ((if ec = hf then EA else EA.map (·.add (hf * 3))))).add (0 * 3)))), .c 31 (.pointer (some ((ad ((if ec = hf then EA else EA.map (·.add (hf * 3))))).add (0 * 3 + 0)))), .c 32 (.string (((nd.es.drop hf).getD 0 en0).1)), .k 33 (.pointer (some ⟨B4_1, 2, none⟩)), .n, .k 34 (.pointer (some ⟨B4_1, 3, none⟩)), .n] (fun ix σ β X => match ix with | 0 => True | 1 => True | 2 => True | 3 => True | 4 => True | 5 => True | 6 => X 3 = eB B4_1 116 #[vi np, vi nd.lv, vi pg, .string nd.high, .bool nd.dead, .slice EA nd.es.length ec, vi ((nd.free : Int))] | 7 => True | 8 => X 4 = eB B4_1 116 #[vi np, vi nd.lv, vi pg, .string (((nd.es.drop hf).getD 0 en0).1), .bool nd.dead, .slice EA nd.es.length ec, vi ((nd.free : Int))] | _ => True) [0, 2, 4] [2, 3, 4, 6, 8] [(28, 0, 8, 35)] hst23 ?_ ?_ ?_))
  · exact fun ix _ _ _ _ _ _ hs hb hx h => match ix, h with
    | 6, h => by dsimp only; rw [← hx 3 rfl]; exact h
    | 8, h => by dsimp only; rw [← hx 4 rfl]; exact h
    | 0, _ | 1, _ | 2, _ | 3, _ | 4, _ | 5, _ | 7, _ | _ + 9, _ => trivial
  · refine ⟨?_, ?_, ?_, ?_, ?_, trivial⟩
    · exact xs4 rfl id fun cx => run_indexSlM (e := 104) (m := 0) (sz := 3) rfl (by kernel_rfl) (by kernel_rfl) (cx.an 1) (cx.co _) (by omega) (by omega) (At.dropF (ts := nd.es) enC_len (hE _ cx.upd) hf ec hec) (flatPos (sz := 3) enC_len (by decide) (by omega))
    · exact xs4 rfl id fun cx => run_fieldAd rfl (by kernel_rfl) (cx.an 2)
    · exact xs4 rfl id fun cx => run_load1 rfl (by kernel_rfl) (cx.an 3) (At.eltc (f := enC) (k := 0) enC_len (At.dropF (ts := nd.es) enC_len (hE _ cx.upd) hf ec hec) (en_get (by rw [List.length_drop]; omega)) rfl)
    · refine svA fun ρ β W X cx => ?_
      exact dv_store (n := 1) rfl (cx.an 5) (cx.an 0) (by kernel_rfl) (by kernel_rfl) (by kernel_rfl) cx (cx.init 1 _ rfl) rfl (nle rfl) (by kernel_rfl) rfl rfl rfl (fun σ β' X' hs hb hx => hx)
    · refine svA fun ρ β W X cx => ?_
      exact dv_store (n := 1) rfl (cx.an 7) (cx.an 4) (by kernel_rfl) (by kernel_rfl) (by kernel_rfl) cx (dTn (cx.an 6)) rfl (nle rfl) (by kernel_rfl) rfl rfl rfl (fun σ β' X' hs hb hx => hx)
  intro σ β X W25 hD hst25 fr hfr
  simp only [exq 4 ((dTn (hD 8 lq)))] at hst25
  clear hD; subst hfr; clear σ β X
  refine then_normal (wp_seq (wp_region_Y [0, 0, 2, 0, 8, 30, 62, 127, 255] [[], [], [2], [2], [], [], [], [3, 1]] [[], [], [], [], [], [], [3], [4]] [[], [], [], [], [], [], [], [1]] [.k 35 (.slice A27_23 ((freshE pg nd.lv nd.right nd.high (nd.es.drop hf)).length) c27_23), .k 36 (vp B4_1), .c 37 (vi np), .c 38 (.agg #[vi np, vi nd.lv, vi pg, .string (((nd.es.drop hf).getD 0 en0).1), .bool nd.dead, .slice EA nd.es.length ec, vi ((nd.free : Int))]), .c 39 (.string (hdB nd.lv pg nd.dead (((nd.es.drop hf).getD 0 en0).1))), .k 40 (.agg #[vi np, vi 0, .string (hdB nd.lv pg nd.dead (((nd.es.drop hf).getD 0 en0).1))]), .a 41, .a 42, .a 9] (fun ix σ β X => match ix with | 0 => True | 1 => True | 2 => True | 3 => True | 4 => True | 5 => True | 6 => σ 41 = .slice ((some ⟨(pb' (β 41)), 0, none⟩)) 1 1 ∧ X 3 = eO 99 3 (.slice ((some ⟨(pb' (β 41)), 0, none⟩)) 1 1) 1 (edC (np, 0, hdB nd.lv pg nd.dead (((nd.es.drop hf).getD 0 en0).1))) | 7 => σ 42 = .slice (sA (β 42)) ((freshE pg nd.lv nd.right nd.high (nd.es.drop hf)).length + 1) (sC (β 42)) ∧ X 4 = eO 99 3 (.slice (sA (β 42)) ((freshE pg nd.lv nd.right nd.high (nd.es.drop hf)).length + 1) (sC (β 42))) ((freshE pg nd.lv nd.right nd.high (nd.es.drop hf)).length + 1) (((freshE pg nd.lv nd.right nd.high (nd.es.drop hf)) ++ [(np, 0, hdB nd.lv pg nd.dead (((nd.es.drop hf).getD 0 en0).1))]).flatMap edC) | 8 => σ 9 = .slice (sA (β 42)) ((freshE pg nd.lv nd.right nd.high (nd.es.drop hf)).length + 1) (sC (β 42)) | _ => True) [0, 2, 3, 4] [2, 3, 4, 6, 7, 8] [(9, 8, 1, 10), (25, 0, 8, 33)] hst25 ?_ ?_ ?_))
  · exact fun ix _ _ _ _ _ _ hs hb hx h => match ix, h with
    | 6, h => by dsimp only; rw [← hs 41 rfl, ← hb 41 rfl, ← hx 3 rfl]; exact h
    | 7, h => by dsimp only; rw [← hs 42 rfl, ← hb 42 rfl, ← hx 4 rfl]; exact h
    | 8, h => by dsimp only; rw [← hs 9 rfl, ← hb 42 rfl]; exact h
    | 0, _ | 1, _ | 2, _ | 3, _ | 4, _ | 5, _ | _ + 9, _ => trivial
  · refine ⟨?_, ?_, ?_, ?_, ?_, ?_, trivial⟩
    · exact xs4 rfl id fun cx => run_load1 rfl (by kernel_rfl) (cx.an 1) ((cx.bi 2 rfl).cell 0)
    · exact xs4 rfl id fun cx => run_loadB (n := 7) rfl (by kernel_rfl) (by kernel_rfl) (cx.ou 4) (cx.bi 2 rfl) (nle rfl) rfl
    · exact xsc rfl id rfl rfl fun cx => ⟨_, khead_le np nd.lv pg (nd.free : Int) (((nd.es.drop hf).getD 0 en0).1) nd.dead _ _ _ _ (by omega) (by omega) (by first | omega | decide), (map1 (cx.an 3))⟩
    · refine svA fun ρ β W X cx => ?_
      have fF40 : ρ (.tmp 40) = .agg #[vi np, vi 0, .string (hdB nd.lv pg nd.dead (((nd.es.drop hf).getD 0 en0).1))] := (cx.an 5)
      exact dv_litN (e := 99) (sz := 3) (xs := [vi np, vi 0, .string (hdB nd.lv pg nd.dead (((nd.es.drop hf).getD 0 en0).1))]) rfl (by simp [go_sem, fF40]) rfl (by decide) rfl rfl (fun σ β' X' hs hb hv hx => ⟨hv, hx⟩)
    · refine svA fun ρ β W X cx => ?_
      obtain ⟨i0, hi0, hz0, hz1, hz2⟩ := info_parts Try.infoEdit
      refine dv_appendN (n := (freshE pg nd.lv nd.right nd.high (nd.es.drop hf)).length) (m := 1) (nm := (freshE pg nd.lv nd.right nd.high (nd.es.drop hf)).length + 1) (sz := 3) (xs := (freshE pg nd.lv nd.right nd.high (nd.es.drop hf)).flatMap edC) (news := edC (np, 0, hdB nd.lv pg nd.dead (((nd.es.drop hf).getD 0 en0).1))) (xs' := ((freshE pg nd.lv nd.right nd.high (nd.es.drop hf)) ++ [(np, 0, hdB nd.lv pg nd.dead (((nd.es.drop hf).getD 0 en0).1))]).flatMap edC) rfl (ty := 34) rfl (by kernel_rfl) hi0 hz0 hz1 hz2 rfl (by decide) (cx.an 0) cx (cx.init 1 _ rfl) rfl (dTn (cx.an 6)).1 (by rfl) (At.of_ownN (cx.row (dTn (cx.an 6)).2 rfl)) (by simp [edC, tkK, Value.oneCell']) (by simp only [maxLen]; omega) (by omega) rfl rfl rfl (by omega) (ed_snoc _ _) (fun σ β' X' hs hb hv hx => ?_)
      exact ⟨hv, hx⟩
    · exact sv rfl rfl rfl rfl rfl _ (fun _ _ _ h => h) (fun β β' h => by rw [h 42 (by decide)]) fun ρ β W X cx => run_assign' rfl (dTn (cx.an 7)).1
  intro σ β X W26 hD hst26 fr hfr
  obtain ⟨B41_26, hu_B41_26⟩ : ∃ z, pb' (β 41) = z := ⟨_, rfl⟩
  obtain ⟨A42_26, hu_A42_26⟩ : ∃ z, sA (β 42) = z := ⟨_, rfl⟩
  obtain ⟨c42_26, hu_c42_26⟩ : ∃ z, sC (β 42) = z := ⟨_, rfl⟩
  simp only [exq 3 ((dTn (hD 6 lq)).2), exq 4 ((dTn (hD 7 lq)).2), hu_B41_26, hu_A42_26, hu_c42_26] at hst26
  simp only [ed 41 ((dTn (hD 6 lq)).1), ed 42 ((dTn (hD 7 lq)).1), ed 9 ((dTn (hD 8 lq))), hu_B41_26, hu_A42_26, hu_c42_26] at hfr
  clear hD hu_B41_26 hu_A42_26 hu_c42_26; subst hfr; clear σ β X
  refine then_normal (wp_seq (wp_region_Y [0, 0, 2, 6, 14, 30, 0, 64, 192, 448, 0, 1984, 0, 4096, 12288, 32704, 65472, 131070, 262143, 524287, 1048575] [[], [], [], [], [0], [], [], [], [], [], [], [], [], [1], [], [], [], [5, 4], [], [], [0]] [[], [], [], [], [], [4], [], [], [], [], [], [], [], [], [], [], [5], [6], [], [], [7]] [[], [], [], [], [], [], [], [], [], [], [], [], [], [], [], [], [], [4], [], [], [0]] [.k 43 (vp b), .k 44 (vp b), .k 45 (vp b), .k 46 (.pointer (some ⟨b, 3, none⟩)), .c 47 (.slice ((some la)) ln lc), .a 48, .k 49 (.slice ((if ec = hf then EA else EA.map (·.add (hf * 3)))) ((nd.es.length - hf)) ((ec - hf))), .c 50 (.pointer (some ((ad ((if ec = hf then EA else EA.map (·.add (hf * 3))))).add (0 * 3)))), .c 51 (.pointer (some ((ad ((if ec = hf then EA else EA.map (·.add (hf * 3))))).add (0 * 3 + 0)))), .c 52 (.string (((nd.es.drop hf).getD 0 en0).1)), .k 53 (vi pg), .k 54 (.agg #[.string (((nd.es.drop hf).getD 0 en0).1), vi 0, vi pg]), .k 55 (.pointer (some ⟨B4_1, 1, none⟩)), .c 56 (vi nd.lv), tI 57 (nd.lv + 1) (by omega), .k 58 (.agg #[.string (((nd.es.drop hf).getD 0 en0).1), vi 0, vi pg, vi (nd.lv + 1)]), .a 59, .a 60, .k 61 (vp b), .k 62 (.pointer (some ⟨b, 3, none⟩)), .n] (fun ix σ β X => match ix with | 0 => True | 1 => True | 2 => True | 3 => True | 4 => True | 5 => σ 48 = .slice (sA (β 48)) lf.length (sC (β 48)) ∧ X 4 = eO 106 4 (.slice (sA (β 48)) lf.length (sC (β 48))) lf.length (lf.flatMap tkK) | 6 => True | 7 => True | 8 => True | 9 => True | 10 => True | 11 => True | 12 => True | 13 => True | 14 => True | 15 => True | 16 => σ 59 = .slice ((some ⟨(pb' (β 59)), 0, none⟩)) 1 1 ∧ X 5 = eO 106 4 (.slice ((some ⟨(pb' (β 59)), 0, none⟩)) 1 1) 1 (tkK (((nd.es.drop hf).getD 0 en0).1, nd.lv + 1, pg)) | 17 => σ 60 = .slice (sA (β 60)) (lf.length + 1) (sC (β 60)) ∧ X 6 = eO 106 4 (.slice (sA (β 60)) (lf.length + 1) (sC (β 60))) (lf.length + 1) ((lf ++ [(((nd.es.drop hf).getD 0 en0).1, nd.lv + 1, pg)]).flatMap tkK) | 18 => True | 19 => True | 20 => X 7 = eB b 109 #[vi root, vi pos, vi leaf, .slice (sA (β 60)) (lf.length + 1) (sC (β 60)), vi fro, vi to, .bool spl] | _ => True) [1, 2, 3, 5, 6, 7] [4, 5, 7, 8, 9, 13, 16, 17, 20] [(43, 0, 20, 63)] hst26 ?_ ?_ ?_))
  · exact fun ix _ _ _ _ _ _ hs hb hx h => match ix, h with
    | 5, h => by dsimp only; rw [← hs 48 rfl, ← hb 48 rfl, ← hx 4 rfl]; exact h
    | 16, h => by dsimp only; rw [← hs 59 rfl, ← hb 59 rfl, ← hx 5 rfl]; exact h
    | 17, h => by dsimp only; rw [← hs 60 rfl, ← hb 60 rfl, ← hx 6 rfl]; exact h
    | 20, h => by dsimp only; rw [← hb 60 rfl, ← hx 7 rfl]; exact h
    | 0, _ | 1, _ | 2, _ | 3, _ | 4, _ | 6, _ | 7, _ | 8, _ | 9, _ | 10, _ | 11, _ | 12, _ | 13, _ | 14, _ | 15, _ | 18, _ | 19, _ | _ + 21, _ => trivial
  · refine ⟨?_, ?_, ?_, ?_, ?_, ?_, ?_, ?_, ?_, trivial⟩
    · exact xs4 rfl id fun cx => run_load1 rfl (by kernel_rfl) (cx.an 3) ((cx.bi 0 rfl).cell 3)
    · refine svA fun ρ β W X cx => ?_
      refine DoesU.call (run_callF (args := #[.slice ((some la)) ln lc]) rfl cx.sees rfl (by kernel_rfl) (map1 (cx.an 4))) ?_
      refine (kclone_any la ln lc lf _ (hL _ cx.upd) hln hlnb).mono ?_
      rintro e W1 ⟨A4, c4, rfl, ho_, hx⟩
      refine ⟨_, rfl, post_call [eO 106 4 (.slice A4 lf.length c4) lf.length (lf.flatMap tkK)] rfl rfl hx (one_new (eO_new (n := lf.length) (xs := lf.flatMap tkK) ho_)) (List.pairwise_singleton _ _) (fun σ β' X' hs hb hv hN => ?_)⟩
      have hv1 := (hv 48 rfl).1; have hv2 := (hv 48 rfl).2
      exact ⟨hv1.trans (by rw [hv2]; rfl), (by rw [hv2]; exact (List.cons.inj hN).1)⟩
    · exact xs4 rfl id fun cx => run_indexSlM (e := 104) (m := 0) (sz := 3) rfl (by kernel_rfl) (by kernel_rfl) (cx.an 6) (cx.co _) (by omega) (by omega) (At.dropF (ts := nd.es) enC_len (hE _ cx.upd) hf ec hec) (flatPos (sz := 3) enC_len (by decide) (by omega))
    · exact xs4 rfl id fun cx => run_fieldAd rfl (by kernel_rfl) (cx.an 7)
    · exact xs4 rfl id fun cx => run_load1 rfl (by kernel_rfl) (cx.an 8) (At.eltc (f := enC) (k := 0) enC_len (At.dropF (ts := nd.es) enC_len (hE _ cx.upd) hf ec hec) (en_get (by rw [List.length_drop]; omega)) rfl)
    · exact xs4 rfl id fun cx => run_load1 rfl (by kernel_rfl) (cx.an 12) ((cx.bi 1 rfl).cell 1)
    · refine svA fun ρ β W X cx => ?_
      have fF58 : ρ (.tmp 58) = .agg #[.string (((nd.es.drop hf).getD 0 en0).1), vi 0, vi pg, vi (nd.lv + 1)] := (cx.an 15)
      exact dv_litN (e := 106) (sz := 4) (xs := [.string (((nd.es.drop hf).getD 0 en0).1), vi 0, vi pg, vi (nd.lv + 1)]) rfl (by simp [go_sem, fF58]) rfl (by decide) rfl rfl (fun σ β' X' hs hb hv hx => ⟨hv, hx⟩)
    · refine svA fun ρ β W X cx => ?_
      obtain ⟨i0, hi0, hz0, hz1, hz2⟩ := info_parts Try.infoTkK
      refine dv_appendN (n := lf.length) (m := 1) (nm := lf.length + 1) (sz := 4) (xs := lf.flatMap tkK) (news := tkK (((nd.es.drop hf).getD 0 en0).1, nd.lv + 1, pg)) (xs' := (lf ++ [(((nd.es.drop hf).getD 0 en0).1, nd.lv + 1, pg)]).flatMap tkK) rfl (ty := 107) rfl (by kernel_rfl) hi0 hz0 hz1 hz2 rfl (by decide) (dTn (cx.an 5)).1 cx (dTn (cx.an 5)).2 rfl (dTn (cx.an 16)).1 (by rfl) (At.of_ownN (cx.row (dTn (cx.an 16)).2 rfl)) (by simp [edC, tkK, Value.oneCell']) (by simp only [maxLen]; omega) (by omega) rfl rfl rfl (by omega) (tkK_snoc _ _) (fun σ β' X' hs hb hv hx => ?_)
      exact ⟨hv, hx⟩
    · refine svA fun ρ β W X cx => ?_
      exact dv_store (n := 1) rfl (cx.an 19) (dTn (cx.an 17)).1 (by kernel_rfl) (by kernel_rfl) (by kernel_rfl) cx (cx.init 0 _ rfl) rfl (nle rfl) (by kernel_rfl) rfl rfl rfl (fun σ β' X' hs hb hx => by rw [hb 60]; exact hx)
  intro σ β X W27 hD hst27 fr hfr
  obtain ⟨A48_27, hu_A48_27⟩ : ∃ z, sA (β 48) = z := ⟨_, rfl⟩
  obtain ⟨c48_27, hu_c48_27⟩ : ∃ z, sC (β 48) = z := ⟨_, rfl⟩
  obtain ⟨B59_27, hu_B59_27⟩ : ∃ z, pb' (β 59) = z := ⟨_, rfl⟩
  obtain ⟨A60_27, hu_A60_27⟩ : ∃ z, sA (β 60) = z := ⟨_, rfl⟩
  obtain ⟨c60_27, hu_c60_27⟩ : ∃ z, sC (β 60) = z := ⟨_, rfl⟩
  simp only [exq 5 ((dTn (hD 16 lq)).2), exq 6 ((dTn (hD 17 lq)).2), exq 7 ((dTn (hD 20 lq))), hu_A48_27, hu_c48_27, hu_B59_27, hu_A60_27, hu_c60_27] at hst27
  simp only [ed 48 ((dTn (hD 5 lq)).1), ed 59 ((dTn (hD 16 lq)).1), ed 60 ((dTn (hD 17 lq)).1), hu_A48_27, hu_c48_27, hu_B59_27, hu_A60_27, hu_c60_27] at hfr
  clear hD hu_A48_27 hu_c48_27 hu_B59_27 hu_A60_27 hu_c60_27; subst hfr; clear σ β X
  refine then_normal (wp_seq (wp_seq (sqr (sqp [.k 63 (.pointer (some ⟨B4_1, 1, none⟩))] ?_))))
  refine sqld 0 hst27 ?_
  refine sqp [.k 65 (.bool (nd.lv == 0))] ?_
  refine then_normal (wbs (fun hs31 => ?_) fun hs31 => ?_)
  · have hs31p := beq_iff_eq.1 hs31
    refine sqr (sqp [.m 66 0, .m 67 0, .m 68 0, .k 69 (vp B4_1)] ?_)
    refine sqld 0 hst27 ?_
    refine sqp [.m 71 2, .k 72 (vp b), .k 73 (.pointer (some ⟨b, 4, none⟩))] ?_
    refine sqst (n := 1) 5 #[vi root, vi pos, vi leaf, .slice A60_27 (lf.length + 1) c60_27, vi np, vi to, .bool spl] hst27 fun W40 hst40 => ?_
    refine sqp [.k 74 (vp b), .k 75 (.pointer (some ⟨b, 5, none⟩))] ?_
    refine sqst (n := 1) 5 #[vi root, vi pos, vi leaf, .slice A60_27 (lf.length + 1) c60_27, vi np, vi pg, .bool spl] hst40 fun W43 hst43 => ?_
    refine sqp [.k 76 (vp b), .k 77 (.pointer (some ⟨b, 6, none⟩))] ?_
    refine sqst (n := 1) 5 #[vi root, vi pos, vi leaf, .slice A60_27 (lf.length + 1) c60_27, vi np, vi pg, .bool true] hst43 fun W46 hst46 => ?_
    refine then_normal (wp_seq (sqr (sqp [.m 78 9, .k 79 (vp B4_1)] ?_)))
    refine sqld 0 hst46 ?_
    refine sqp [.m 81 8] ?_
    refine sqk2 (fun G82_51 c82_51 => .slice ((some ⟨G82_51, 0, none⟩)) ((clearE np (nd.es.drop hf)).length) c82_51) (fun G82_51 c82_51 => eO 99 3 (.slice ((some ⟨G82_51, 0, none⟩)) ((clearE np (nd.es.drop hf)).length) c82_51) ((clearE np (nd.es.drop hf)).length) ((clearE np (nd.es.drop hf)).flatMap edC)) hst46 (fun cx => ⟨_, (ed_some (by omega) (kclear_any np _ _ _ (nd.es.drop hf) _ (At.dropF (ts := nd.es) enC_len (hE _ cx.upd) hf ec hec) hdl_ (by omega))).mono (by rintro e W1 ⟨G4, c4, rfl, ho_, hx⟩; exact ⟨_, _, rfl, St.one hx (eO_new (n := (clearE np (nd.es.drop hf)).length) (xs := (clearE np (nd.es.drop hf)).flatMap edC) ho_)⟩), (map2 (cx.ou 80) (cx.ou 81))⟩) fun G82_51 c82_51 W51 hst51 => ?_
    refine sqap ((freshE pg nd.lv nd.right nd.high (nd.es.drop hf)).length + 1 + (clearE np (nd.es.drop hf)).length) ((((freshE pg nd.lv nd.right nd.high (nd.es.drop hf)) ++ [(np, 0, hdB nd.lv pg nd.dead (((nd.es.drop hf).getD 0 en0).1))]) ++ (clearE np (nd.es.drop hf))).flatMap edC) 2 hst51 Try.infoEdit (fun cx => (At.of_ownN (cx.ri 6 rfl))) (hl := by rw [flatLen edC_len]) (h1 := edC_one _) (hxs := ed_join _ _) fun A83_52 c83_52 W52 hst52 => ?_
    refine sqp [.m 6 83] ?_
    refine then_normal (wp_ret ?_)
    refine bpr (.slice A83_52 ((freshE pg nd.lv nd.right nd.high (nd.es.drop hf)).length + 1 + (clearE np (nd.es.drop hf)).length) c83_52) (results_1 Try.results53 rpt) ?_
    have hmd : midE nd = ((nd.es.drop hf).getD 0 en0).1 := by rw [midE, hhf, getD_drop]; rfl
    have hfin : (((freshE pg nd.lv nd.right nd.high (nd.es.drop hf)) ++ [(np, 0, hdB nd.lv pg nd.dead (((nd.es.drop hf).getD 0 en0).1))]) ++ (clearE np (nd.es.drop hf))) = cutE np nd pg := by rw [cutE, halfE, hhf, hmd, hdd]; try rfl
    have hfl : (freshE pg nd.lv nd.right nd.high (nd.es.drop hf)).length + 1 + (clearE np (nd.es.drop hf)).length = (cutE np nd pg).length := by rw [← hfin]; simp only [List.length_append, List.length_cons, List.length_nil]; try omega
    have htl0 : nd.lv = 0 := by have h_ := hs31; simpa using h_
    have hpk_ := hst52.pick [5, 4, 2] (by decide) rfl
    rw [hfin, hfl] at hpk_
    have hll : (lf ++ [(midE nd, nd.lv + 1, pg)]).length = lf.length + 1 := by rw [List.length_append]; rfl
    rw [hfl, if_pos htl0, if_pos htl0, if_pos htl0]
    exact ⟨_, _, _, _, rfl, by rw [hll, hmd, ← hln]; exact hpk_⟩
  have hs31p := beq_eq_false_iff_ne.1 hs31
  refine wp_skip (then_normal (wp_seq (sqr (sqp [.m 78 9, .k 79 (vp B4_1)] ?_))))
  refine sqld 0 hst27 ?_
  refine sqp [.m 81 8] ?_
  refine sqk2 (fun G82_58 c82_58 => .slice ((some ⟨G82_58, 0, none⟩)) ((clearE np (nd.es.drop hf)).length) c82_58) (fun G82_58 c82_58 => eO 99 3 (.slice ((some ⟨G82_58, 0, none⟩)) ((clearE np (nd.es.drop hf)).length) c82_58) ((clearE np (nd.es.drop hf)).length) ((clearE np (nd.es.drop hf)).flatMap edC)) hst27 (fun cx => ⟨_, (ed_some (by omega) (kclear_any np _ _ _ (nd.es.drop hf) _ (At.dropF (ts := nd.es) enC_len (hE _ cx.upd) hf ec hec) hdl_ (by omega))).mono (by rintro e W1 ⟨G4, c4, rfl, ho_, hx⟩; exact ⟨_, _, rfl, St.one hx (eO_new (n := (clearE np (nd.es.drop hf)).length) (xs := (clearE np (nd.es.drop hf)).flatMap edC) ho_)⟩), (map2 (cx.ou 80) (cx.ou 81))⟩) fun G82_58 c82_58 W58 hst58 => ?_
  refine sqap ((freshE pg nd.lv nd.right nd.high (nd.es.drop hf)).length + 1 + (clearE np (nd.es.drop hf)).length) ((((freshE pg nd.lv nd.right nd.high (nd.es.drop hf)) ++ [(np, 0, hdB nd.lv pg nd.dead (((nd.es.drop hf).getD 0 en0).1))]) ++ (clearE np (nd.es.drop hf))).flatMap edC) 2 hst58 Try.infoEdit (fun cx => (At.of_ownN (cx.ri 6 rfl))) (hl := by rw [flatLen edC_len]) (h1 := edC_one _) (hxs := ed_join _ _) fun A83_59 c83_59 W59 hst59 => ?_
  refine sqp [.m 6 83] ?_
  refine then_normal (wp_ret ?_)
  refine bpr (.slice A83_59 ((freshE pg nd.lv nd.right nd.high (nd.es.drop hf)).length + 1 + (clearE np (nd.es.drop hf)).length) c83_59) (results_1 Try.results53 rpt) ?_
  have hmd : midE nd = ((nd.es.drop hf).getD 0 en0).1 := by rw [midE, hhf, getD_drop]; rfl
  have hfin : (((freshE pg nd.lv nd.right nd.high (nd.es.drop hf)) ++ [(np, 0, hdB nd.lv pg nd.dead (((nd.es.drop hf).getD 0 en0).1))]) ++ (clearE np (nd.es.drop hf))) = cutE np nd pg := by rw [cutE, halfE, hhf, hmd, hdd]; try rfl
  have hfl : (freshE pg nd.lv nd.right nd.high (nd.es.drop hf)).length + 1 + (clearE np (nd.es.drop hf)).length = (cutE np nd pg).length := by rw [← hfin]; simp only [List.length_append, List.length_cons, List.length_nil]; try omega
  have htl0 : ¬ nd.lv = 0 := by have h_ := hs31; simpa using h_
  have hpk_ := hst59.pick [5, 4, 2] (by decide) rfl
  rw [hfin, hfl] at hpk_
  have hll : (lf ++ [(midE nd, nd.lv + 1, pg)]).length = lf.length + 1 := by rw [List.length_append]; rfl
  rw [hfl, if_neg htl0, if_neg htl0, if_neg htl0]
  exact ⟨_, _, _, _, rfl, by rw [hll, hmd, ← hln]; exact hpk_⟩
end
end Go.Proofs.Ytjlcoglmjldjbaa
namespace Go.Proofs.Ytjlcoglmjldjbaa
section
open Go.RowKit
set_option linter.unusedVariables false
set_option linter.unusedSimpArgs false
theorem b8_cases (nd : NoD) (x : ByteArray) : nd.es.length < 8 ∨ (¬ nd.es.length < 8 ∧ hasE nd.es x = false) ∨ (¬ nd.es.length < 8 ∧ hasE nd.es x = true) := by
  by_cases h : nd.es.length < 8
  · exact .inl h
  · cases hasE nd.es x with
    | false => exact .inr (.inl ⟨h, rfl⟩)
    | true => exact .inr (.inr ⟨h, rfl⟩)
/-- a split, its insertion as an entry -/
def CqPost (b : Nat) (p : PuT) (L : List EdT) (w : World) (e : Ending) (w' : World) : Prop := ∃ A c fp, e = .returned (.slice A L.length c) ∧ St w [b] [ePk b p fp, eO 99 3 (.slice A L.length c) L.length (L.flatMap edC)] w'
theorem kcut_pk (b : Nat) (root pos leaf : Int) (la : Addr) (ln lc : Nat) (nd : NoD) (np pg : Int) (EA : Option Addr) (ec : Nat) (lf : List TaT) (w : World) (hb : Blk w b 109 #[.int .i64 root, .int .i64 pos, .int .i64 leaf, .slice (some la) ln lc, .int .i64 0, .int .i64 0, .bool false])
    (hE : ∀ W, Upd [b] w W → At W EA (nd.es.flatMap enC)) (hez : ∀ e ∈ nd.es, e.1.size ≤ 1000000) (hnb : nd.es.length ≤ 1000) (hlv : 0 ≤ nd.lv ∧ nd.lv ≤ 255) (hpg : 0 ≤ pg ∧ pg ≤ 1000000) (hes : 0 < nd.es.length) (hec : nd.es.length ≤ ec) (hrt : -1 ≤ nd.right ∧ nd.right ≤ 1000000) (hhi : nd.high.size ≤ 1000000) (hdd : nd.dead = false) (hL : ∀ W, Upd [b] w W → At W (some la) (lf.flatMap tkK)) (hln : lf.length = ln) (hlnb : ln ≤ 10000) :
    Calls Try.prog 53 #[.pointer (some ⟨b, 0, none⟩), .agg #[.int .i64 np, .int .i64 nd.lv, .int .i64 nd.right, .string nd.high, .bool nd.dead, .slice EA nd.es.length ec, .int .i64 (nd.free : Int)], .int .i64 pg] w
      (CqPost b ⟨root, pos, leaf, lf ++ [(midE nd, nd.lv + 1, pg)], if nd.lv = 0 then np else 0, if nd.lv = 0 then pg else 0, if nd.lv = 0 then true else false⟩ (cutE np nd pg) w) := by
  refine (kcut_any b root pos leaf 0 0 false la ln lc nd np pg EA ec lf w hb hE hez hnb hlv hpg hes hec hrt hhi hdd hL hln hlnb).mono fun e w' h => ?_
  obtain ⟨A, c, LA, lc', h1, h2⟩ := h
  have hll : ln + 1 = (lf ++ [(midE nd, nd.lv + 1, pg)]).length := by rw [List.length_append, hln]; rfl
  have h3 := h2
  dsimp only at h3
  rw [hll] at h3
  obtain ⟨fp, h4⟩ := pk_new (p := ⟨root, pos, leaf, lf ++ [(midE nd, nd.lv + 1, pg)], if nd.lv = 0 then np else 0, if nd.lv = 0 then pg else 0, if nd.lv = 0 then true else false⟩) (g := []) h3 rfl
  exact ⟨A, c, fp, h1, h4⟩
set_option maxRecDepth 100000 in
set_option maxHeartbeats 8000000 in
theorem kstep_g (b : Nat) (tt : TypeId) (tv : Value) (root pos leaf fro to : Int) (spl : Bool) (la : Addr) (ln lc : Nat) (te : ByteArray) (tl tk : Int) (lf : List TaT) (ps : List PgS) (fresh : Int) (fp g : List Nat) (w : World) (hb : Blk w b 109 #[.int .i64 root, .int .i64 pos, .int .i64 leaf, .slice ((some la)) ln lc, .int .i64 fro, .int .i64 to, .bool spl]) (hL : ∀ W, Upd [b] w W → At W (some la) (((te, tl, tk) :: lf).flatMap tkK)) (hln : ((te, tl, tk) :: lf).length = ln) (hlc : ((te, tl, tk) :: lf).length ≤ lc) (hlnb : ln ≤ 10000) (hS : ∀ W, Upd [b] w W → PgsOk W tt tv ps) (hok : OkS ps) (hoc : OkC ps) (hfp : fp = b :: g) (hbg : b ∉ g) (hlt : ∀ k ∈ g, k < w.heap.size) (hla : la.block ∈ g) (hte : te.size ≤ 900000) (htl : 0 ≤ tl ∧ tl ≤ 90000) (hfr : -1 ≤ fresh ∧ fresh ≤ 1000000) :
    Calls Try.prog 16 #[.pointer (some ⟨b, 0, none⟩), .iface tt (tv), .int .i64 fresh] w (KtPost b (stepF ps ⟨root, pos, leaf, (te, tl, tk) :: lf, fro, to, spl⟩ fresh) fp w) := by
  have st0 := St.lend (E := eB b 109 #[.int .i64 root, .int .i64 pos, .int .i64 leaf, .slice ((some la)) ln lc, .int .i64 fro, .int .i64 to, .bool spl]) hb (eB_loc _ _ _) (fun k hk => by simp [eB] at hk; subst hk; exact hb.lt)
  have hln1 : 1 ≤ ln := by rw [← hln]; simp
  have hlc1 : lf.length + 1 ≤ lc := hlc
  have hln2 : lf.length + 1 = ln := hln
  go_enter Try.func16, Try.ntmps16
  have hst0 := st0
  refine wp_seq (sqr (sqp [.k 6 (.slice none 0 0), .k 7 (.bool false), .k 8 (vi 0)] ?_))
  refine then_normal (wp_seq (wp_seq (sqr (sqp [.m 14 0] ?_))))
  refine sqv (.bool false) hst0 (by
      exact sv0 rfl rfl rfl rfl rfl (fun _ _ _ h => h) fun ρ β W X cx => by
        have fF14 : ρ (.tmp 14) = vp b := (cx.ou 14)
        simp [go_sem, cx.sees.const, fF14]) fun W5 hst5 => ?_
  refine then_normal (wcf rfl (wp_skip (then_normal (wp_seq (sqr (sqp [.m 16 0, .m 17 0, .m 18 0, .k 19 (vp b), .k 20 (.pointer (some ⟨b, 4, none⟩))] ?_))))))
  refine sqst (n := 1) 0 #[vi root, vi pos, vi leaf, .slice ((some la)) ln lc, vi 0, vi to, .bool spl] hst5 fun W11 hst11 => ?_
  refine sqp [.k 21 (vp b), .k 22 (.pointer (some ⟨b, 5, none⟩))] ?_
  refine sqst (n := 1) 0 #[vi root, vi pos, vi leaf, .slice ((some la)) ln lc, vi 0, vi 0, .bool spl] hst11 fun W14 hst14 => ?_
  refine sqp [.k 23 (vp b), .k 24 (.pointer (some ⟨b, 6, none⟩))] ?_
  refine sqst (n := 1) 0 #[vi root, vi pos, vi leaf, .slice ((some la)) ln lc, vi 0, vi 0, .bool false] hst14 fun W17 hst17 => ?_
  refine then_normal (wp_seq (wp_seq (sqr (sqp [.m 25 0, .k 26 (vp b), .k 27 (.pointer (some ⟨b, 3, none⟩))] ?_))))
  refine sqld 0 hst17 ?_
  have hd24 : ((ln : Int) == 0) = false := (by rw [beq_eq_false_iff_ne]; omega)
  refine sqp [.k 29 (vi ((ln : Int))), .e 30 (.bool ((ln : Int) == 0)) (.bool false) (congrArg Value.bool hd24)] ?_
  refine then_normal (wcf rfl (wp_skip (then_normal (wp_seq (sqr (sqp [.m 31 0, .k 32 (vp b), .k 33 (.pointer (some ⟨b, 3, none⟩))] ?_))))))
  refine sqld 0 hst17 ?_
  refine sql (.pointer (some ((ad ((some la))).add (0 * 4)))) hst17 (fun cx => run_indexSlM (e := 106) (m := 0) (sz := 4) rfl (by kernel_rfl) (by kernel_rfl) (cx.ou 34) (cx.co _) (by omega) (by omega) (hL _ cx.upd) (flatPos (sz := 4) tkK_len (by decide) (by omega))) ?_
  refine sql (.agg #[.string te, vi 0, vi tk, vi tl]) hst17 (fun cx => run_loadElt (f := tkK) (m := 0) (sz := 4) (off := 0) (n := 4) rfl (by kernel_rfl) (by kernel_rfl) (cx.ou 35) rfl tkK_len (hL _ cx.upd) rfl (fun k hk => match k, hk with | 0, _ => rfl | 1, _ => rfl | 2, _ => rfl | 3, _ => rfl | k + 4, hk => absurd hk (by omega))) ?_
  refine sqal #[.string ByteArray.empty, vi 0, vi 0, vi 0] hst17 fun B9_31 W31 hst31 => ?_
  refine sqst (n := 4) 1 #[.string te, vi 0, vi tk, vi tl] hst31 fun W32 hst32 => ?_
  refine then_normal (wp_seq ?_)
  rcases hnd : ndAt ps pos with _ | nd
  · refine wp_region_Y [0, 0, 2, 6, 14, 31, 63, 127, 127, 0, 767, 2047] [[], [], [], [], [0], [], [], [], [], [], [2]] [[], [], [], [], [], [], [], [], [], [2], [3]] [[], [], [], [], [], [], [], [], [], [], [2]] [.k 38 (.iface tt (tv)), .k 39 (vp b), .k 40 (vp b), .k 41 (.pointer (some ⟨b, 1, none⟩)), .c 42 (vi pos), .a 43, .a 37, .a 44, .c 45 (.bool false), .a 10, .n, .k 11 (.bool false)] (fun ix σ β X => match ix with | 0 => True | 1 => True | 2 => True | 3 => True | 4 => True | 5 => σ 43 = .tuple #[.agg #[vi (iv (tg (tg (β 43) 0) 0)), vi 0, vi 0, .string ((⟨#[]⟩ : ByteArray)), .bool false, .slice none 0 0, vi 0], .bool false] | 6 => σ 37 = .tuple #[.agg #[vi (iv (tg (tg (β 43) 0) 0)), vi 0, vi 0, .string ((⟨#[]⟩ : ByteArray)), .bool false, .slice none 0 0, vi 0], .bool false] | 7 => σ 44 = .agg #[vi (iv (tg (tg (β 43) 0) 0)), vi 0, vi 0, .string ((⟨#[]⟩ : ByteArray)), .bool false, .slice none 0 0, vi 0] | 8 => True | 9 => σ 10 = vp (pb (β 10)) ∧ X 2 = eB (pb (β 10)) 116 #[vi 0, vi 0, vi 0, .string ByteArray.empty, .bool false, .slice none 0 0, vi 0] | 10 => X 3 = eB (pb (β 10)) 116 #[vi (iv (tg (tg (β 43) 0) 0)), vi 0, vi 0, .string ((⟨#[]⟩ : ByteArray)), .bool false, .slice none 0 0, vi 0] | _ => True) [0, 1, 3] [4, 5, 6, 7, 8, 9, 10] [(10, 9, 3, 12), (25, 6, 1, 26), (0, 0, 6, 6), (0, 7, 2, 2)] hst32 ?_ ?_ ?_
    · exact fun ix _ _ _ _ _ _ hs hb hx h => match ix, h with
      | 5, h => by dsimp only; rw [← hs 43 rfl, ← hb 43 rfl]; exact h
      | 6, h => by dsimp only; rw [← hs 37 rfl, ← hb 43 rfl]; exact h
      | 7, h => by dsimp only; rw [← hs 44 rfl, ← hb 43 rfl]; exact h
      | 9, h => by dsimp only; rw [← hs 10 rfl, ← hb 10 rfl, ← hx 2 rfl]; exact h
      | 10, h => by dsimp only; rw [← hb 10 rfl, ← hb 43 rfl, ← hx 3 rfl]; exact h
      | 0, _ | 1, _ | 2, _ | 3, _ | 4, _ | 8, _ | _ + 11, _ => trivial
    · refine ⟨?_, ?_, ?_, ?_, ?_, ?_, ?_, trivial⟩
      · exact xs4 rfl id fun cx => run_load1 rfl (by kernel_rfl) (cx.an 3) ((cx.bi 0 rfl).cell 1)
      · refine svA fun ρ β W X cx => ?_
        refine DoesU.call (run_callF (args := #[.iface tt (tv), vi pos]) rfl cx.sees rfl (by kernel_rfl) (map2 (cx.an 0) (cx.an 4))) ?_
        refine (kd_no hnd (kat_any _ _ ps pos _ (hS _ cx.upd) hok hoc)).mono ?_
        rintro e W1 ⟨p4, rfl, hx⟩
        refine ⟨_, rfl, post_call [] rfl rfl hx (by simp) List.Pairwise.nil (fun σ β' X' hs hb hv hN => ?_)⟩
        have hv1 := (hv 43 rfl).1; have hv2 := (hv 43 rfl).2
        exact hv1.trans (by rw [hv2]; rfl)
      · exact sv rfl rfl rfl rfl rfl _ (fun _ _ _ h => h) (fun β β' h => by rw [h 43 (by decide)]) fun ρ β W X cx => run_move' rfl (dTn (cx.an 5))
      · exact sv rfl rfl rfl rfl rfl _ (fun _ _ _ h => h) (fun β β' h => by rw [h 43 (by decide)]) fun ρ β W X cx => run_extract' rfl (dTn (cx.an 6)) rfl
      · exact xs4 rfl id fun cx => run_extract' rfl (dTn (cx.an 6)) rfl
      · refine svA fun ρ β W X cx => ?_
        exact dv_alloc (cs := #[vi 0, vi 0, vi 0, .string ByteArray.empty, .bool false, .slice none 0 0, vi 0]) rfl (by kernel_rfl) rfl rfl (fun σ β' X' hs hb hv hx => ⟨hv, hx⟩)
      · refine svA fun ρ β W X cx => ?_
        exact dv_store (n := 7) rfl (dTn (cx.an 9)).1 (dTn (cx.an 7)) (by kernel_rfl) (by kernel_rfl) (by kernel_rfl) cx (dTn (cx.an 9)).2 rfl (nle rfl) (by kernel_rfl) rfl rfl rfl (fun σ β' X' hs hb hx => by rw [hb 10, hb 43]; exact hx)
    intro σ β X W33 hD hst33 fr hfr
    obtain ⟨pg43_33, hu_pg43_33⟩ : ∃ z, iv (tg (tg (β 43) 0) 0) = z := ⟨_, rfl⟩
    obtain ⟨B10_33, hu_B10_33⟩ : ∃ z, pb (β 10) = z := ⟨_, rfl⟩
    simp only [exq 3 ((dTn (hD 10 lq))), hu_pg43_33, hu_B10_33] at hst33
    simp only [ed 43 ((dTn (hD 5 lq))), ed 37 ((dTn (hD 6 lq))), ed 44 ((dTn (hD 7 lq))), ed 10 ((dTn (hD 9 lq)).1), hu_pg43_33, hu_B10_33] at hfr
    clear hD hu_pg43_33 hu_B10_33; subst hfr; clear σ β X
    refine then_normal (wp_seq (sqr ?_))
    refine sqv (.func (.func 48) #[] #[vp B9_31]) hst33 (by
        exact sv0 rfl rfl rfl rfl rfl (fun _ _ _ h => h) fun ρ β W X cx => by
          have fF9 : ρ (.tmp 9) = vp B9_31 := (cx.ou 9)
          simp [go_sem, Instr.makeFunc, fF9]) fun W34 hst34 => ?_
    refine sqp [.m 12 46] ?_
    refine then_normal (wp_seq (wp_block (wp_seq (sqr (sqp [.k 48 (.bool false), .k 49 (.bool true), .k 47 (.bool true)] ?_)))))
    refine then_normal (wct rfl (wp_seq (sqr (sqp [.k 6 (.slice none 0 0), .k 7 (.bool false), .k 8 (vi 22)] ?_))))
    refine then_normal (wp_ret (blk_ret (then_ret ?_)))
    refine bpr (.tuple #[.slice none 0 0, .bool false, vi 22]) (results_3 Try.results16 rpt rpt rpt) ?_
    rw [st_none hnd]
    have hn42 := nilrowN hst34 99 3
    simp only [List.cons_append, List.nil_append] at hn42
    have hup_ := hn42.upd
    have hpk_ := hn42.pick [0, 3] (by decide) rfl
    subst hln
    exact ⟨_, _, rfl, pk_old hpk_ hfp hbg hlt hlc (hL _ hup_) (fun ad e _ => by rw [← Option.some.inj e]; exact hla)⟩
  · have hN0 := nd_ok hok hnd
    have hN : NdQ nd := ⟨hN0.lv, fun e he => Nat.le_trans (hN0.es e he) (by decide)⟩
    have hN1 := hN0.len
    have hN2 := hN0.rt
    have hN3 := hN0.hi
    have hN4 := hN0.lv
    have hN5 := hN0.fr
    have hN7 := hN0.es
    refine sqr (sqp [.m 38 1, .m 39 0, .k 40 (vp b), .k 41 (.pointer (some ⟨b, 1, none⟩))] ?_)
    refine sqld 0 hst32 ?_
    refine sqk2 (fun EA43_48 ec43_48 => .tuple #[.agg #[vi pos, vi nd.lv, vi nd.right, .string nd.high, .bool nd.dead, .slice EA43_48 nd.es.length ec43_48, vi ((nd.free : Int))], .bool true]) (fun EA43_48 ec43_48 => eO 104 3 (.slice EA43_48 nd.es.length ec43_48) nd.es.length (nd.es.flatMap enC)) hst32 (fun cx => ⟨_, (kd_yes hnd (kat_any _ _ ps pos _ (hS _ cx.upd) hok hoc)).mono (by rintro e W1 ⟨EA4, ec4, rfl, hs4⟩; exact ⟨_, _, rfl, hs4⟩), (map2 (cx.ou 38) (cx.ou 42))⟩) fun EA43_48 ec43_48 W48 hst48 => ?_
    refine sqp [.m 37 43, .k 44 (.agg #[vi pos, vi nd.lv, vi nd.right, .string nd.high, .bool nd.dead, .slice EA43_48 nd.es.length ec43_48, vi ((nd.free : Int))]), .k 45 (.bool true)] ?_
    refine sqal #[vi 0, vi 0, vi 0, .string ByteArray.empty, .bool false, .slice none 0 0, vi 0] hst48 fun B10_52 W52 hst52 => ?_
    refine sqst (n := 7) 3 #[vi pos, vi nd.lv, vi nd.right, .string nd.high, .bool nd.dead, .slice EA43_48 nd.es.length ec43_48, vi ((nd.free : Int))] hst52 fun W53 hst53 => ?_
    refine sqp [.k 11 (.bool true)] ?_
    refine then_normal (wp_seq (sqr ?_))
    refine sqv (.func (.func 48) #[] #[vp B9_31]) hst53 (by
        exact sv0 rfl rfl rfl rfl rfl (fun _ _ _ h => h) fun ρ β W X cx => by
          have fF9 : ρ (.tmp 9) = vp B9_31 := (cx.ou 9)
          simp [go_sem, Instr.makeFunc, fF9]) fun W55 hst55 => ?_
    refine sqp [.m 12 46] ?_
    refine then_normal (wp_seq (wp_block (wp_seq (sqr (sqp [.k 48 (.bool true), .k 49 (.bool false), .k 47 (.bool false)] ?_)))))
    refine then_normal (wcf rfl (wp_seq (sqr ?_)))
    refine sqlb 3 7 hst55 ?_
    refine sqp [.k 52 (vp B9_31), .k 53 (vp B9_31)] ?_
    refine sqld 1 hst55 ?_
    refine sqk (.bool (sndB nd.dead nd.high te)) hst55 (fun cx => ⟨_, ksends_any pos nd.lv nd.right (nd.free : Int) nd.high nd.dead _ _ _ te _ (by omega) (by omega), (map2 (cx.ou 51) (cx.ou 54))⟩) fun W64 hst64 => ?_
    refine sqp [.m 50 55] ?_
    refine then_normal (wbs (fun hs66 => ?_) fun hs66 => ?_)
    · refine wp_seq (wp_seq (sqr (sqp [.k 56 (.pointer (some ⟨B10_52, 2, none⟩))] ?_)))
      refine sqld 3 hst64 ?_
      refine sqp [.k 58 (.bool (decide (nd.right < 0)))] ?_
      refine then_normal (wds (fun hs70 hs70p => ?_) fun hs70 hs70p => ?_)
      · refine wp_seq (sqr (sqp [.k 6 (.slice none 0 0), .k 7 (.bool false), .k 8 (vi 11)] ?_))
        refine then_normal (wp_ret (then_ret (blk_ret (then_ret ?_))))
        refine bpr (.tuple #[.slice none 0 0, .bool false, vi 11]) (results_3 Try.results16 rpt rpt rpt) ?_
        rw [st_lost hnd hs66 (by omega)]
        have hn74 := nilrowN hst64 99 3
        simp only [List.cons_append, List.nil_append] at hn74
        have hup_ := hn74.upd
        have hpk_ := hn74.pick [0, 4] (by decide) rfl
        subst hln
        exact ⟨_, _, rfl, pk_old hpk_ hfp hbg hlt hlc (hL _ hup_) (fun ad e _ => by rw [← Option.some.inj e]; exact hla)⟩
      refine wp_skip (then_normal (wp_seq (sqr (sqp [.m 59 0, .k 60 (.pointer (some ⟨B10_52, 2, none⟩))] ?_))))
      refine sqld 3 hst64 ?_
      refine sqp [.k 62 (vp b), .k 63 (.pointer (some ⟨b, 1, none⟩))] ?_
      refine sqst (n := 1) 0 #[vi root, vi nd.right, vi leaf, .slice ((some la)) ln lc, vi 0, vi 0, .bool false] hst64 fun W80 hst80 => ?_
      refine then_normal (wp_seq (sqr (sqp [.k 6 (.slice none 0 0), .k 7 (.bool false), .k 8 (vi 0)] ?_)))
      refine then_normal (wp_ret (blk_ret (then_ret ?_)))
      refine bpr (.tuple #[.slice none 0 0, .bool false, vi 0]) (results_3 Try.results16 rpt rpt rpt) ?_
      rw [st_right hnd hs66 (by omega)]
      have hn84 := nilrowN hst80 99 3
      simp only [List.cons_append, List.nil_append] at hn84
      have hup_ := hn84.upd
      have hpk_ := hn84.pick [0, 4] (by decide) rfl
      subst hln
      exact ⟨_, _, rfl, pk_old hpk_ hfp hbg hlt hlc (hL _ hup_) (fun ad e _ => by rw [← Option.some.inj e]; exact hla)⟩
    refine wp_seq (sqr (sqp [.k 65 (.pointer (some ⟨B10_52, 1, none⟩))] ?_))
    refine sqld 3 hst64 ?_
    refine sqp [.k 67 (.pointer (some ⟨B9_31, 3, none⟩))] ?_
    refine sqld 1 hst64 ?_
    refine sqp [.k 69 (.bool (decide (tl < nd.lv))), .m 64 69] ?_
    refine then_normal (wds (fun hs91 hs91p => ?_) fun hs91 hs91p => ?_)
    · refine wp_seq (sqr (sqp [.m 70 0] ?_))
      refine sqlb 3 7 hst64 ?_
      refine sqp [.k 72 (vp B9_31), .k 73 (vp B9_31)] ?_
      refine sqld 1 hst64 ?_
      refine sqk (vi (downF te nd.es (-1))) hst64 (fun cx => ⟨_, kdown_any _ _ _ _ _ _ _ _ _ _ nd.es _ (At.of_ownN (cx.ri 2 rfl)) rfl hN.es6 (by omega) (by omega), (map2 (cx.ou 71) (cx.ou 74))⟩) fun W97 hst97 => ?_
      refine sqp [.k 76 (vp b), .k 77 (.pointer (some ⟨b, 1, none⟩))] ?_
      refine sqst (n := 1) 0 #[vi root, vi (downF te nd.es (-1)), vi leaf, .slice ((some la)) ln lc, vi 0, vi 0, .bool false] hst97 fun W100 hst100 => ?_
      refine then_normal (wp_seq (sqr (sqp [.k 6 (.slice none 0 0), .k 7 (.bool false), .k 8 (vi 0)] ?_)))
      refine then_normal (wp_ret (blk_ret (then_ret ?_)))
      refine bpr (.tuple #[.slice none 0 0, .bool false, vi 0]) (results_3 Try.results16 rpt rpt rpt) ?_
      rw [st_down hnd hs66 (by omega)]
      have hn104 := nilrowN hst100 99 3
      simp only [List.cons_append, List.nil_append] at hn104
      have hup_ := hn104.upd
      have hpk_ := hn104.pick [0, 4] (by decide) rfl
      subst hln
      exact ⟨_, _, rfl, pk_old hpk_ hfp hbg hlt hlc (hL _ hup_) (fun ad e _ => by rw [← Option.some.inj e]; exact hla)⟩
    refine wp_seq (sqr (sqp [.k 79 (.pointer (some ⟨B10_52, 1, none⟩))] ?_))
    refine sqld 3 hst64 ?_
    refine sqp [.k 81 (.pointer (some ⟨B9_31, 3, none⟩))] ?_
    refine sqld 1 hst64 ?_
    refine sqp [.k 83 (.bool (decide (nd.lv < tl))), .m 78 83] ?_
    refine then_normal (wds (fun hs111 hs111p => ?_) fun hs111 hs111p => ?_)
    · refine wp_seq (sqr (sqp [.k 6 (.slice none 0 0), .k 7 (.bool false), .k 8 (vi 11)] ?_))
      refine then_normal (wp_ret (blk_ret (then_ret ?_)))
      refine bpr (.tuple #[.slice none 0 0, .bool false, vi 11]) (results_3 Try.results16 rpt rpt rpt) ?_
      rw [st_form hnd hs66 (by omega) (by omega)]
      have hn115 := nilrowN hst64 99 3
      simp only [List.cons_append, List.nil_append] at hn115
      have hup_ := hn115.upd
      have hpk_ := hn115.pick [0, 4] (by decide) rfl
      subst hln
      exact ⟨_, _, rfl, pk_old hpk_ hfp hbg hlt hlc (hL _ hup_) (fun ad e _ => by rw [← Option.some.inj e]; exact hla)⟩
    refine wp_seq ?_
    rcases b8_cases nd te with hn8 | ⟨hn8, hq⟩ | ⟨hn8, hq⟩
    · refine sqr (sqp [.k 85 (.pointer (some ⟨B10_52, 5, none⟩))] ?_)
      refine sqld 3 hst64 ?_
      refine sqp [.k 87 (vi ((nd.es.length : Int))), .e 88 (.bool (decide ((nd.es.length : Int) < 8))) (.bool true) (congrArg Value.bool (decide_eq_true (by omega))), .k 89 (.bool true)] ?_
      refine sqgn 89 [90, 91, 92, 93] rfl rfl ?_
      refine sqp [.k 94 (.bool true), .k 84 (.bool true)] ?_
      refine then_normal (wct rfl (wp_seq ?_))
      rcases hq : hasE nd.es te with _ | _
      · refine wp_region_Y [0, 0, 0, 7, 15, 31, 63] [[], [3], [1], [0, 2]] [[], [], [], [4, 5]] [[], [], [], [0]] [.k 95 (vp b), .c 96 (.agg #[vi pos, vi nd.lv, vi nd.right, .string nd.high, .bool nd.dead, .slice EA43_48 nd.es.length ec43_48, vi ((nd.free : Int))]), .c 97 (.agg #[.string te, vi 0, vi tk, vi tl]), .a 98, .a 6, .k 7 (.bool false), .k 8 (vi 0)] (fun ix σ β X => match ix with | 0 => True | 1 => True | 2 => True | 3 => σ 98 = .slice (sA (β 98)) 1 (sC (β 98)) ∧ X 4 = eB b 109 #[vi root, vi root, vi ((if tl = 0 then pos else leaf)), .slice ((if lc = 1 then some la else (some la).map (·.add (1 * 4)))) ((ln - 1)) ((lc - 1)), vi 0, vi 0, .bool false] ∧ X 5 = eO 99 3 (.slice (sA (β 98)) 1 (sC (β 98))) 1 ([(pos, (nd.free : Int), itB nd.lv tk te)].flatMap edC) | 4 => σ 6 = .slice (sA (β 98)) 1 (sC (β 98)) | _ => True) [1, 2, 3, 4, 5] [1, 2, 3, 4] [(6, 4, 3, 9), (86, 0, 4, 90)] hst64 ?_ ?_ ?_
        · exact fun ix _ _ _ _ _ _ hs hb hx h => match ix, h with
          | 3, h => by dsimp only; rw [← hs 98 rfl, ← hb 98 rfl, ← hx 4 rfl, ← hx 5 rfl]; exact h
          | 4, h => by dsimp only; rw [← hs 6 rfl, ← hb 98 rfl]; exact h
          | 0, _ | 1, _ | 2, _ | _ + 5, _ => trivial
        · refine ⟨?_, ?_, ?_, ?_, trivial⟩
          · exact xs4 rfl id fun cx => run_loadB (n := 7) rfl (by kernel_rfl) (by kernel_rfl) (cx.ou 10) (cx.bi 3 rfl) (nle rfl) rfl
          · exact xs4 rfl id fun cx => run_loadB (n := 4) rfl (by kernel_rfl) (by kernel_rfl) (cx.ou 9) (cx.bi 1 rfl) (nle rfl) rfl
          · refine svA fun ρ β W X cx => ?_
            refine DoesU.call (run_callF (args := #[vp b, .agg #[vi pos, vi nd.lv, vi nd.right, .string nd.high, .bool nd.dead, .slice EA43_48 nd.es.length ec43_48, vi ((nd.free : Int))], .agg #[.string te, vi 0, vi tk, vi tl]]) rfl cx.sees rfl (by kernel_rfl) (map3 (cx.an 0) (cx.an 1) (cx.an 2))) ?_
            refine (kput_any _ _ _ _ _ _ _ _ _ _ nd pos _ _ te 0 tk tl false _ (cx.bi 0 rfl) (CtxV.keepAt cx (cx.init 2 _ rfl) (cx.init 0 _ rfl) rfl rfl (by decide)) (by omega) (by omega) (by omega) (by omega) hq).mono ?_
            rintro e W1 ⟨A4, c4, rfl, hs4⟩
            refine ⟨_, rfl, post_obj (E := eB b 109 #[vi root, vi pos, vi leaf, .slice ((some la)) ln lc, vi 0, vi 0, .bool false]) [eB b 109 #[vi root, vi root, vi ((if tl = 0 then pos else leaf)), .slice ((if lc = 1 then some la else (some la).map (·.add (1 * 4)))) ((ln - 1)) ((lc - 1)), vi 0, vi 0, .bool false], eO 99 3 (.slice A4 1 c4) 1 ([(pos, (nd.free : Int), itB nd.lv tk te)].flatMap edC)] (cx.init 0 _ rfl) rfl rfl hs4 (fun σ β' X' hs hb hv hN => ?_)⟩
            have hv1 := (hv 98 rfl).1; have hv2 := (hv 98 rfl).2
            exact ⟨hv1.trans (by rw [hv2]; rfl), (List.cons.inj hN).1, (by rw [hv2]; exact (List.cons.inj (List.cons.inj hN).2).1)⟩
          · exact sv rfl rfl rfl rfl rfl _ (fun _ _ _ h => h) (fun β β' h => by rw [h 98 (by decide)]) fun ρ β W X cx => run_assign' rfl (dTn (cx.an 3)).1
        intro σ β X W123 hD hst123 fr hfr
        obtain ⟨A98_123, hu_A98_123⟩ : ∃ z, sA (β 98) = z := ⟨_, rfl⟩
        obtain ⟨c98_123, hu_c98_123⟩ : ∃ z, sC (β 98) = z := ⟨_, rfl⟩
        simp only [exq 4 ((dTn (hD 3 lq)).2.1), exq 5 ((dTn (hD 3 lq)).2.2), hu_A98_123, hu_c98_123] at hst123
        simp only [ed 98 ((dTn (hD 3 lq)).1), ed 6 ((dTn (hD 4 lq))), hu_A98_123, hu_c98_123] at hfr
        clear hD hu_A98_123 hu_c98_123; subst hfr; clear σ β X
        refine then_normal (wp_ret (blk_ret (then_ret ?_)))
        refine bpr (.tuple #[.slice A98_123 1 c98_123, .bool false, vi 0]) (results_3 Try.results16 rpt rpt rpt) ?_
        rw [st_put hnd hs66 (by omega) (by omega) hq hn8]
        have hup_ := hst123.upd
        have hpk_ := hst123.pick [3, 4] (by decide) rfl
        have hl1_ : ln - 1 = lf.length := by omega
        have hlv_ : nd.lv = tl := by omega
        rw [hl1_, hlv_] at hpk_
        exact ⟨_, _, rfl, pk_old hpk_ hfp hbg hlt (by show lf.length ≤ lc - 1; omega) (At.dropF (ts := (te, tl, tk) :: lf) tkK_len (hL _ hup_) 1 lc hlc) (fun ad e _ => by rw [tail_blk4 e]; exact hla)⟩
      · refine wp_region_Y [0, 0, 0, 7, 15, 31, 63] [[], [3], [1], [0, 2]] [[], [], [], [4, 5]] [[], [], [], [0]] [.k 95 (vp b), .c 96 (.agg #[vi pos, vi nd.lv, vi nd.right, .string nd.high, .bool nd.dead, .slice EA43_48 nd.es.length ec43_48, vi ((nd.free : Int))]), .c 97 (.agg #[.string te, vi 0, vi tk, vi tl]), .a 98, .a 6, .k 7 (.bool false), .k 8 (vi 0)] (fun ix σ β X => match ix with | 0 => True | 1 => True | 2 => True | 3 => σ 98 = .slice (sA (β 98)) 0 (sC (β 98)) ∧ X 4 = eB b 109 #[vi root, vi root, vi ((if tl = 0 then pos else leaf)), .slice ((if lc = 1 then some la else (some la).map (·.add (1 * 4)))) ((ln - 1)) ((lc - 1)), vi 0, vi 0, .bool false] ∧ X 5 = eO 99 3 (.slice (sA (β 98)) 0 (sC (β 98))) 0 (([] : List EdT).flatMap edC) | 4 => σ 6 = .slice (sA (β 98)) 0 (sC (β 98)) | _ => True) [1, 2, 3, 4, 5] [1, 2, 3, 4] [(6, 4, 3, 9), (86, 0, 4, 90)] hst64 ?_ ?_ ?_
        · exact fun ix _ _ _ _ _ _ hs hb hx h => match ix, h with
          | 3, h => by dsimp only; rw [← hs 98 rfl, ← hb 98 rfl, ← hx 4 rfl, ← hx 5 rfl]; exact h
          | 4, h => by dsimp only; rw [← hs 6 rfl, ← hb 98 rfl]; exact h
          | 0, _ | 1, _ | 2, _ | _ + 5, _ => trivial
        · refine ⟨?_, ?_, ?_, ?_, trivial⟩
          · exact xs4 rfl id fun cx => run_loadB (n := 7) rfl (by kernel_rfl) (by kernel_rfl) (cx.ou 10) (cx.bi 3 rfl) (nle rfl) rfl
          · exact xs4 rfl id fun cx => run_loadB (n := 4) rfl (by kernel_rfl) (by kernel_rfl) (cx.ou 9) (cx.bi 1 rfl) (nle rfl) rfl
          · refine svA fun ρ β W X cx => ?_
            refine DoesU.call (run_callF (args := #[vp b, .agg #[vi pos, vi nd.lv, vi nd.right, .string nd.high, .bool nd.dead, .slice EA43_48 nd.es.length ec43_48, vi ((nd.free : Int))], .agg #[.string te, vi 0, vi tk, vi tl]]) rfl cx.sees rfl (by kernel_rfl) (map3 (cx.an 0) (cx.an 1) (cx.an 2))) ?_
            refine (kput_any _ _ _ _ _ _ _ _ _ _ nd pos _ _ te 0 tk tl true _ (cx.bi 0 rfl) (CtxV.keepAt cx (cx.init 2 _ rfl) (cx.init 0 _ rfl) rfl rfl (by decide)) (by omega) (by omega) (by omega) (by omega) hq).mono ?_
            rintro e W1 ⟨A4, c4, rfl, hs4⟩
            refine ⟨_, rfl, post_obj (E := eB b 109 #[vi root, vi pos, vi leaf, .slice ((some la)) ln lc, vi 0, vi 0, .bool false]) [eB b 109 #[vi root, vi root, vi ((if tl = 0 then pos else leaf)), .slice ((if lc = 1 then some la else (some la).map (·.add (1 * 4)))) ((ln - 1)) ((lc - 1)), vi 0, vi 0, .bool false], eO 99 3 (.slice A4 0 c4) 0 (([] : List EdT).flatMap edC)] (cx.init 0 _ rfl) rfl rfl hs4 (fun σ β' X' hs hb hv hN => ?_)⟩
            have hv1 := (hv 98 rfl).1; have hv2 := (hv 98 rfl).2
            exact ⟨hv1.trans (by rw [hv2]; rfl), (List.cons.inj hN).1, (by rw [hv2]; exact (List.cons.inj (List.cons.inj hN).2).1)⟩
          · exact sv rfl rfl rfl rfl rfl _ (fun _ _ _ h => h) (fun β β' h => by rw [h 98 (by decide)]) fun ρ β W X cx => run_assign' rfl (dTn (cx.an 3)).1
        intro σ β X W124 hD hst124 fr hfr
        obtain ⟨A98_124, hu_A98_124⟩ : ∃ z, sA (β 98) = z := ⟨_, rfl⟩
        obtain ⟨c98_124, hu_c98_124⟩ : ∃ z, sC (β 98) = z := ⟨_, rfl⟩
        simp only [exq 4 ((dTn (hD 3 lq)).2.1), exq 5 ((dTn (hD 3 lq)).2.2), hu_A98_124, hu_c98_124] at hst124
        simp only [ed 98 ((dTn (hD 3 lq)).1), ed 6 ((dTn (hD 4 lq))), hu_A98_124, hu_c98_124] at hfr
        clear hD hu_A98_124 hu_c98_124; subst hfr; clear σ β X
        refine then_normal (wp_ret (blk_ret (then_ret ?_)))
        refine bpr (.tuple #[.slice A98_124 0 c98_124, .bool false, vi 0]) (results_3 Try.results16 rpt rpt rpt) ?_
        rw [st_there hnd hs66 (by omega) (by omega) hq]
        have hup_ := hst124.upd
        have hpk_ := hst124.pick [3, 4] (by decide) rfl
        have hl1_ : ln - 1 = lf.length := by omega
        have hlv_ : nd.lv = tl := by omega
        rw [hl1_] at hpk_
        exact ⟨_, _, rfl, pk_old hpk_ hfp hbg hlt (by show lf.length ≤ lc - 1; omega) (At.dropF (ts := (te, tl, tk) :: lf) tkK_len (hL _ hup_) 1 lc hlc) (fun ad e _ => by rw [tail_blk4 e]; exact hla)⟩
    · refine sqr (sqp [.k 85 (.pointer (some ⟨B10_52, 5, none⟩))] ?_)
      refine sqld 3 hst64 ?_
      refine sqp [.k 87 (vi ((nd.es.length : Int))), .e 88 (.bool (decide ((nd.es.length : Int) < 8))) (.bool false) (congrArg Value.bool (decide_eq_false (by omega))), .k 89 (.bool false)] ?_
      refine sqgy 89 [90, 91, 92, 93] rfl rfl ?_
      refine sqp [.k 90 (.pointer (some ⟨B10_52, 5, none⟩))] ?_
      refine sqld 3 hst64 ?_
      refine sqp [.m 92 12] ?_
      refine sqv (.bool false) hst64 (sv_call rfl rfl rfl rfl rfl (fun _ _ _ h => h.trans (congrArg Value.bool hq)) fun ρ β W X cx => ⟨_, _, run_callF (args := #[.slice EA43_48 nd.es.length ec43_48, .func (.func 48) #[] #[vp B9_31]]) rfl cx.sees rfl (by kernel_rfl) (map2 (cx.ou 91) (cx.ou 92)), kstep1_con (At.of_ownN (cx.ri 2 rfl)) (by omega) (cx.bi 1 rfl)⟩) fun W133 hst133 => ?_
      refine sqp [.k 94 (.bool false), .k 84 (.bool false)] ?_
      refine then_normal (wcf rfl (wp_seq (sqr (sqp [.m 100 2, .k 101 (.bool (decide (fresh < 0))), .m 99 101] ?_))))
      refine then_normal (wds (fun hs139 hs139p => ?_) fun hs139 hs139p => ?_)
      · refine wp_seq (sqr (sqp [.k 6 (.slice none 0 0), .k 7 (.bool false), .k 8 (vi 23)] ?_))
        refine then_normal (wp_ret (blk_ret (then_ret ?_)))
        refine bpr (.tuple #[.slice none 0 0, .bool false, vi 23]) (results_3 Try.results16 rpt rpt rpt) ?_
        rw [st_full hnd hs66 (by omega) (by omega) hq hn8 (by omega)]
        have hn143 := nilrowN hst133 99 3
        simp only [List.cons_append, List.nil_append] at hn143
        have hup_ := hn143.upd
        have hpk_ := hn143.pick [0, 4] (by decide) rfl
        subst hln
        exact ⟨_, _, rfl, pk_old hpk_ hfp hbg hlt hlc (hL _ hup_) (fun ad e _ => by rw [← Option.some.inj e]; exact hla)⟩
      refine wp_skip (blk_normal (then_normal (wp_seq ?_)))
      have hec := eown_capN ((hst133.get 2 rfl).holds : World.ownsRow _ 0 104 3 (.slice EA43_48 nd.es.length ec43_48) nd.es.length (nd.es.flatMap enC))
      have hdd : nd.dead = false := by have h_ := hs66; unfold sndB at h_; rw [Bool.or_eq_false_iff] at h_; exact h_.1
      refine sqr (sqp [.m 102 0] ?_)
      refine sqv (.func (.func 53) #[vp b] #[]) hst133 (by
          exact sv0 rfl rfl rfl rfl rfl (fun _ _ _ h => h) fun ρ β W X cx => by
            have fF102 : ρ (.tmp 102) = vp b := (cx.ou 102)
            simp [go_sem, Instr.makeFunc, fF102]) fun W145 hst145 => ?_
      refine sqp [.m 13 103] ?_
      refine then_normal (wp_seq (wp_seq (wp_region_Z [0, 1, 3, 7, 0, 16, 48, 112, 255] [[], [], [], [0], [], [], [], [0]] [.k 104 (vp b), .k 105 (vp b), .k 106 (.pointer (some ⟨b, 1, none⟩)), .c 107 (vi pos), .k 108 (vp b), .k 109 (vp b), .k 110 (vp b), .c 111 (vi root), .k 112 (.bool (pos == root))] [0, 1, 2, 3] [3, 7] [(104, 0, 9, 113)] hst145 ?_ fun W147 hst147 => ?_)))
      · refine ⟨?_, ?_, trivial⟩
        · exact xs4 rfl id fun cx => run_load1 rfl (by kernel_rfl) (cx.an 2) ((cx.bi 0 rfl).cell 1)
        · exact xs4 rfl id fun cx => run_load1 rfl (by kernel_rfl) (cx.an 6) ((cx.bi 0 rfl).cell 0)
      refine then_normal (wbs (fun hs148 => ?_) fun hs148 => ?_)
      · have hs148p := beq_iff_eq.1 hs148
        refine sqr (sqp [.m 113 0] ?_)
        refine sqv (.func (.func 54) #[vp b] #[]) hst147 (by
            exact sv0 rfl rfl rfl rfl rfl (fun _ _ _ h => h) fun ρ β W X cx => by
              have fF113 : ρ (.tmp 113) = vp b := (cx.ou 113)
              simp [go_sem, Instr.makeFunc, fF113]) fun W150 hst150 => ?_
        refine sqp [.m 13 114] ?_
        refine then_normal (wp_seq (wp_region_Y [0, 0, 0, 7, 15, 31, 63] [[], [3], [], [0, 2]] [[], [], [], [4, 5]] [[], [], [], [0]] [.k 115 (.func (.func 54) #[vp b] #[]), .c 116 (.agg #[vi pos, vi nd.lv, vi nd.right, .string nd.high, .bool nd.dead, .slice EA43_48 nd.es.length ec43_48, vi ((nd.free : Int))]), .k 117 (vi fresh), .a 118, .a 6, .k 7 (.bool true), .k 8 (vi 0)] (fun ix σ β X => match ix with | 0 => True | 1 => True | 2 => True | 3 => σ 118 = .slice (sA (β 118)) ((growE root nd fresh).length) (sC (β 118)) ∧ X 4 = eB b 109 #[vi root, vi fresh, vi leaf, .slice ((some la)) ln lc, vi 0, vi 0, .bool false] ∧ X 5 = eO 99 3 (.slice (sA (β 118)) ((growE root nd fresh).length) (sC (β 118))) ((growE root nd fresh).length) ((growE root nd fresh).flatMap edC) | 4 => σ 6 = .slice (sA (β 118)) ((growE root nd fresh).length) (sC (β 118)) | _ => True) [1, 2, 3, 4, 5] [1, 3, 4] [(6, 4, 3, 9), (106, 0, 4, 110)] hst150 ?_ ?_ ?_))
        · exact fun ix _ _ _ _ _ _ hs hb hx h => match ix, h with
          | 3, h => by dsimp only; rw [← hs 118 rfl, ← hb 118 rfl, ← hx 4 rfl, ← hx 5 rfl]; exact h
          | 4, h => by dsimp only; rw [← hs 6 rfl, ← hb 118 rfl]; exact h
          | 0, _ | 1, _ | 2, _ | _ + 5, _ => trivial
        · refine ⟨?_, ?_, ?_, trivial⟩
          · exact xs4 rfl id fun cx => run_loadB (n := 7) rfl (by kernel_rfl) (by kernel_rfl) (cx.ou 10) (cx.bi 3 rfl) (nle rfl) rfl
          · refine svA fun ρ β W X cx => ?_
            refine DoesU.call (run_callV (f := 54) (args := #[.agg #[vi pos, vi nd.lv, vi nd.right, .string nd.high, .bool nd.dead, .slice EA43_48 nd.es.length ec43_48, vi ((nd.free : Int))], vi fresh]) (args' := #[vp b, .agg #[vi pos, vi nd.lv, vi nd.right, .string nd.high, .bool nd.dead, .slice EA43_48 nd.es.length ec43_48, vi ((nd.free : Int))], vi fresh]) rfl rfl (cx.an 0) (by kernel_rfl) (map2 (cx.an 1) (cx.an 2)) rfl) ?_
            refine (kgrow_any _ _ _ _ _ _ _ _ _ _ nd pos fresh _ _ _ (cx.bi 0 rfl) (CtxV.keepAt cx (cx.init 2 _ rfl) (cx.init 0 _ rfl) rfl rfl (by decide)) hN.es6 (by omega) (by omega) (by omega) (by omega)).mono ?_
            rintro e W1 ⟨A4, c4, rfl, hs4⟩
            refine ⟨_, rfl, post_obj (E := eB b 109 #[vi root, vi pos, vi leaf, .slice ((some la)) ln lc, vi 0, vi 0, .bool false]) [eB b 109 #[vi root, vi fresh, vi leaf, .slice ((some la)) ln lc, vi 0, vi 0, .bool false], eO 99 3 (.slice A4 (growE root nd fresh).length c4) (growE root nd fresh).length ((growE root nd fresh).flatMap edC)] (cx.init 0 _ rfl) rfl rfl hs4 (fun σ β' X' hs hb hv hN => ?_)⟩
            have hv1 := (hv 118 rfl).1; have hv2 := (hv 118 rfl).2
            exact ⟨hv1.trans (by rw [hv2]; rfl), (List.cons.inj hN).1, (by rw [hv2]; exact (List.cons.inj (List.cons.inj hN).2).1)⟩
          · exact sv rfl rfl rfl rfl rfl _ (fun _ _ _ h => h) (fun β β' h => by rw [h 118 (by decide)]) fun ρ β W X cx => run_assign' rfl (dTn (cx.an 3)).1
        intro σ β X W152 hD hst152 fr hfr
        obtain ⟨A118_152, hu_A118_152⟩ : ∃ z, sA (β 118) = z := ⟨_, rfl⟩
        obtain ⟨c118_152, hu_c118_152⟩ : ∃ z, sC (β 118) = z := ⟨_, rfl⟩
        simp only [exq 4 ((dTn (hD 3 lq)).2.1), exq 5 ((dTn (hD 3 lq)).2.2), hu_A118_152, hu_c118_152] at hst152
        simp only [ed 118 ((dTn (hD 3 lq)).1), ed 6 ((dTn (hD 4 lq))), hu_A118_152, hu_c118_152] at hfr
        clear hD hu_A118_152 hu_c118_152; subst hfr; clear σ β X
        refine then_normal (wp_ret ?_)
        refine bpr (.tuple #[.slice A118_152 ((growE root nd fresh).length) c118_152, .bool true, vi 0]) (results_3 Try.results16 rpt rpt rpt) ?_
        rw [st_grow hnd hs66 (by omega) (by omega) hq hn8 (by omega) (by omega)]
        have hup_ := hst152.upd
        have hpk_ := hst152.pick [3, 4] (by decide) rfl
        subst hln
        exact ⟨_, _, rfl, pk_old hpk_ hfp hbg hlt hlc (hL _ hup_) (fun ad e _ => by rw [← Option.some.inj e]; exact hla)⟩
      have hs148p := beq_eq_false_iff_ne.1 hs148
      refine wp_skip (then_normal (wp_seq (wp_region_Y [0, 0, 0, 7, 15, 31, 63] [[], [3], [], [0, 2]] [[], [], [], [4, 5]] [[], [], [], [0]] [.k 115 (.func (.func 53) #[vp b] #[]), .c 116 (.agg #[vi pos, vi nd.lv, vi nd.right, .string nd.high, .bool nd.dead, .slice EA43_48 nd.es.length ec43_48, vi ((nd.free : Int))]), .k 117 (vi fresh), .a 118, .a 6, .k 7 (.bool true), .k 8 (vi 0)] (fun ix σ β X => match ix with | 0 => True | 1 => True | 2 => True | 3 => σ 118 = .slice (sA (β 118)) ((cutE pos nd fresh).length) (sC (β 118)) ∧ X 4 = ePk b ⟨root, pos, leaf, (te, tl, tk) :: lf ++ [(midE nd, nd.lv + 1, fresh)], if nd.lv = 0 then pos else 0, if nd.lv = 0 then fresh else 0, if nd.lv = 0 then true else false⟩ ((X 4).fp) ∧ X 5 = eO 99 3 (.slice (sA (β 118)) ((cutE pos nd fresh).length) (sC (β 118))) ((cutE pos nd fresh).length) ((cutE pos nd fresh).flatMap edC) | 4 => σ 6 = .slice (sA (β 118)) ((cutE pos nd fresh).length) (sC (β 118)) | _ => True) [1, 2, 3, 4, 5] [1, 3, 4] [(6, 4, 3, 9), (106, 0, 4, 110)] hst147 ?_ ?_ ?_)))
      · exact fun ix _ _ _ _ _ _ hs hb hx h => match ix, h with
        | 3, h => by dsimp only; rw [← hs 118 rfl, ← hb 118 rfl, ← hx 4 rfl, ← hx 5 rfl]; exact h
        | 4, h => by dsimp only; rw [← hs 6 rfl, ← hb 118 rfl]; exact h
        | 0, _ | 1, _ | 2, _ | _ + 5, _ => trivial
      · refine ⟨?_, ?_, ?_, trivial⟩
        · exact xs4 rfl id fun cx => run_loadB (n := 7) rfl (by kernel_rfl) (by kernel_rfl) (cx.ou 10) (cx.bi 3 rfl) (nle rfl) rfl
        · refine svA fun ρ β W X cx => ?_
          refine DoesU.call (run_callV (f := 53) (args := #[.agg #[vi pos, vi nd.lv, vi nd.right, .string nd.high, .bool nd.dead, .slice EA43_48 nd.es.length ec43_48, vi ((nd.free : Int))], vi fresh]) (args' := #[vp b, .agg #[vi pos, vi nd.lv, vi nd.right, .string nd.high, .bool nd.dead, .slice EA43_48 nd.es.length ec43_48, vi ((nd.free : Int))], vi fresh]) rfl rfl (cx.an 0) (by kernel_rfl) (map2 (cx.an 1) (cx.an 2)) rfl) ?_
          refine (kcut_pk _ _ _ _ _ _ _ nd pos fresh _ _ ((te, tl, tk) :: lf) _ (cx.bi 0 rfl) (CtxV.keepAt cx (cx.init 2 _ rfl) (cx.init 0 _ rfl) rfl rfl (by decide)) hN.es6 (by omega) (by omega) (by omega) (by omega) hec (by omega) (by omega) hdd (fun W' hu => hL W' (cx.upd.join hu (fun i hi => .inl hi))) hln (by omega)).mono ?_
          rintro e W1 ⟨A4, c4, fp4, rfl, hs4⟩
          refine ⟨_, rfl, post_obj (E := eB b 109 #[vi root, vi pos, vi leaf, .slice ((some la)) ln lc, vi 0, vi 0, .bool false]) [ePk b ⟨root, pos, leaf, (te, tl, tk) :: lf ++ [(midE nd, nd.lv + 1, fresh)], if nd.lv = 0 then pos else 0, if nd.lv = 0 then fresh else 0, if nd.lv = 0 then true else false⟩ fp4, eO 99 3 (.slice A4 (cutE pos nd fresh).length c4) (cutE pos nd fresh).length ((cutE pos nd fresh).flatMap edC)] (cx.init 0 _ rfl) rfl rfl hs4 (fun σ β' X' hs hb hv hN => ?_)⟩
          have hv1 := (hv 118 rfl).1; have hv2 := (hv 118 rfl).2
          exact ⟨hv1.trans (by rw [hv2]; rfl), ePk_self ((List.cons.inj hN).1), (by rw [hv2]; exact (List.cons.inj (List.cons.inj hN).2).1)⟩
        · exact sv rfl rfl rfl rfl rfl _ (fun _ _ _ h => h) (fun β β' h => by rw [h 118 (by decide)]) fun ρ β W X cx => run_assign' rfl (dTn (cx.an 3)).1
      intro σ β X W153 hD hst153 fr hfr
      obtain ⟨A118_153, hu_A118_153⟩ : ∃ z, sA (β 118) = z := ⟨_, rfl⟩
      obtain ⟨c118_153, hu_c118_153⟩ : ∃ z, sC (β 118) = z := ⟨_, rfl⟩
      have xX4 : X 4 = _ := (dTn (hD 3 lq)).2.1
      obtain ⟨r4_153, hu_r4_153⟩ : ∃ z, (X 4).fp = z := ⟨_, rfl⟩
      rw [hu_r4_153] at xX4
      clear hu_r4_153
      simp only [xX4, exq 5 ((dTn (hD 3 lq)).2.2), hu_A118_153, hu_c118_153] at hst153
      simp only [ed 118 ((dTn (hD 3 lq)).1), ed 6 ((dTn (hD 4 lq))), hu_A118_153, hu_c118_153] at hfr
      clear hD xX4 hu_A118_153 hu_c118_153; subst hfr; clear σ β X
      refine then_normal (wp_ret ?_)
      refine bpr (.tuple #[.slice A118_153 ((cutE pos nd fresh).length) c118_153, .bool true, vi 0]) (results_3 Try.results16 rpt rpt rpt) ?_
      rw [st_cut hnd hs66 (by omega) (by omega) hq hn8 (by omega) (by omega)]
      have hlv_ : nd.lv = tl := by omega
      have hpk_ := hst153.pick [3, 4] (by decide) rfl
      rw [hlv_] at hpk_
      exact ⟨_, _, rfl, _, St.monoB hpk_ (by rw [hfp]; simp [eB])⟩
    · refine sqr (sqp [.k 85 (.pointer (some ⟨B10_52, 5, none⟩))] ?_)
      refine sqld 3 hst64 ?_
      refine sqp [.k 87 (vi ((nd.es.length : Int))), .e 88 (.bool (decide ((nd.es.length : Int) < 8))) (.bool false) (congrArg Value.bool (decide_eq_false (by omega))), .k 89 (.bool false)] ?_
      refine sqgy 89 [90, 91, 92, 93] rfl rfl ?_
      refine sqp [.k 90 (.pointer (some ⟨B10_52, 5, none⟩))] ?_
      refine sqld 3 hst64 ?_
      refine sqp [.m 92 12] ?_
      refine sqv (.bool true) hst64 (sv_call rfl rfl rfl rfl rfl (fun _ _ _ h => h.trans (congrArg Value.bool hq)) fun ρ β W X cx => ⟨_, _, run_callF (args := #[.slice EA43_48 nd.es.length ec43_48, .func (.func 48) #[] #[vp B9_31]]) rfl cx.sees rfl (by kernel_rfl) (map2 (cx.ou 91) (cx.ou 92)), kstep1_con (At.of_ownN (cx.ri 2 rfl)) (by omega) (cx.bi 1 rfl)⟩) fun W162 hst162 => ?_
      refine sqp [.k 94 (.bool true), .k 84 (.bool true)] ?_
      refine then_normal (wct rfl (wp_seq (wp_region_Y [0, 0, 0, 7, 15, 31, 63] [[], [3], [1], [0, 2]] [[], [], [], [4, 5]] [[], [], [], [0]] [.k 95 (vp b), .c 96 (.agg #[vi pos, vi nd.lv, vi nd.right, .string nd.high, .bool nd.dead, .slice EA43_48 nd.es.length ec43_48, vi ((nd.free : Int))]), .c 97 (.agg #[.string te, vi 0, vi tk, vi tl]), .a 98, .a 6, .k 7 (.bool false), .k 8 (vi 0)] (fun ix σ β X => match ix with | 0 => True | 1 => True | 2 => True | 3 => σ 98 = .slice (sA (β 98)) 0 (sC (β 98)) ∧ X 4 = eB b 109 #[vi root, vi root, vi ((if tl = 0 then pos else leaf)), .slice ((if lc = 1 then some la else (some la).map (·.add (1 * 4)))) ((ln - 1)) ((lc - 1)), vi 0, vi 0, .bool false] ∧ X 5 = eO 99 3 (.slice (sA (β 98)) 0 (sC (β 98))) 0 (([] : List EdT).flatMap edC) | 4 => σ 6 = .slice (sA (β 98)) 0 (sC (β 98)) | _ => True) [1, 2, 3, 4, 5] [1, 2, 3, 4] [(6, 4, 3, 9), (86, 0, 4, 90)] hst162 ?_ ?_ ?_)))
      · exact fun ix _ _ _ _ _ _ hs hb hx h => match ix, h with
        | 3, h => by dsimp only; rw [← hs 98 rfl, ← hb 98 rfl, ← hx 4 rfl, ← hx 5 rfl]; exact h
        | 4, h => by dsimp only; rw [← hs 6 rfl, ← hb 98 rfl]; exact h
        | 0, _ | 1, _ | 2, _ | _ + 5, _ => trivial
      · refine ⟨?_, ?_, ?_, ?_, trivial⟩
        · exact xs4 rfl id fun cx => run_loadB (n := 7) rfl (by kernel_rfl) (by kernel_rfl) (cx.ou 10) (cx.bi 3 rfl) (nle rfl) rfl
        · exact xs4 rfl id fun cx => run_loadB (n := 4) rfl (by kernel_rfl) (by kernel_rfl) (cx.ou 9) (cx.bi 1 rfl) (nle rfl) rfl
        · refine svA fun ρ β W X cx => ?_
          refine DoesU.call (run_callF (args := #[vp b, .agg #[vi pos, vi nd.lv, vi nd.right, .string nd.high, .bool nd.dead, .slice EA43_48 nd.es.length ec43_48, vi ((nd.free : Int))], .agg #[.string te, vi 0, vi tk, vi tl]]) rfl cx.sees rfl (by kernel_rfl) (map3 (cx.an 0) (cx.an 1) (cx.an 2))) ?_
          refine (kput_any _ _ _ _ _ _ _ _ _ _ nd pos _ _ te 0 tk tl true _ (cx.bi 0 rfl) (CtxV.keepAt cx (cx.init 2 _ rfl) (cx.init 0 _ rfl) rfl rfl (by decide)) (by omega) (by omega) (by omega) (by omega) hq).mono ?_
          rintro e W1 ⟨A4, c4, rfl, hs4⟩
          refine ⟨_, rfl, post_obj (E := eB b 109 #[vi root, vi pos, vi leaf, .slice ((some la)) ln lc, vi 0, vi 0, .bool false]) [eB b 109 #[vi root, vi root, vi ((if tl = 0 then pos else leaf)), .slice ((if lc = 1 then some la else (some la).map (·.add (1 * 4)))) ((ln - 1)) ((lc - 1)), vi 0, vi 0, .bool false], eO 99 3 (.slice A4 0 c4) 0 (([] : List EdT).flatMap edC)] (cx.init 0 _ rfl) rfl rfl hs4 (fun σ β' X' hs hb hv hN => ?_)⟩
          have hv1 := (hv 98 rfl).1; have hv2 := (hv 98 rfl).2
          exact ⟨hv1.trans (by rw [hv2]; rfl), (List.cons.inj hN).1, (by rw [hv2]; exact (List.cons.inj (List.cons.inj hN).2).1)⟩
        · exact sv rfl rfl rfl rfl rfl _ (fun _ _ _ h => h) (fun β β' h => by rw [h 98 (by decide)]) fun ρ β W X cx => run_assign' rfl (dTn (cx.an 3)).1
      intro σ β X W165 hD hst165 fr hfr
      obtain ⟨A98_165, hu_A98_165⟩ : ∃ z, sA (β 98) = z := ⟨_, rfl⟩
      obtain ⟨c98_165, hu_c98_165⟩ : ∃ z, sC (β 98) = z := ⟨_, rfl⟩
      simp only [exq 4 ((dTn (hD 3 lq)).2.1), exq 5 ((dTn (hD 3 lq)).2.2), hu_A98_165, hu_c98_165] at hst165
      simp only [ed 98 ((dTn (hD 3 lq)).1), ed 6 ((dTn (hD 4 lq))), hu_A98_165, hu_c98_165] at hfr
      clear hD hu_A98_165 hu_c98_165; subst hfr; clear σ β X
      refine then_normal (wp_ret (blk_ret (then_ret ?_)))
      refine bpr (.tuple #[.slice A98_165 0 c98_165, .bool false, vi 0]) (results_3 Try.results16 rpt rpt rpt) ?_
      rw [st_there hnd hs66 (by omega) (by omega) hq]
      have hup_ := hst165.upd
      have hpk_ := hst165.pick [3, 4] (by decide) rfl
      have hl1_ : ln - 1 = lf.length := by omega
      have hlv_ : nd.lv = tl := by omega
      rw [hl1_] at hpk_
      exact ⟨_, _, rfl, pk_old hpk_ hfp hbg hlt (by show lf.length ≤ lc - 1; omega) (At.dropF (ts := (te, tl, tk) :: lf) tkK_len (hL _ hup_) 1 lc hlc) (fun ad e _ => by rw [tail_blk4 e]; exact hla)⟩
end
end Go.Proofs.Ytjlcoglmjldjbaa
namespace Go.Proofs.Ytjlcoglmjldjbaa
section
open Go.RowKit
set_option linter.unusedVariables false
set_option linter.unusedSimpArgs false
def nz (s : ByteArray) : Bool := decide (s.size ≠ 0)
def cnt (l : List ByteArray) : Nat := l.tail.countP nz
theorem nz_empty : nz ByteArray.empty = false := rfl
theorem rawE_cnt : ∀ (l : List ByteArray) (i : Nat), (rawE i l).length = l.countP nz
  | [], _ => rfl
  | x :: l, i => by
    rw [rawE]
    by_cases h : x.size = 0
    · rw [if_pos h, rawE_cnt l, List.countP_cons_of_neg (by simp [nz, h])]
    · rw [if_neg h, List.length_cons, rawE_cnt l, List.countP_cons_of_pos (by simp [nz, h])]
theorem rawE_at : ∀ {l : List ByteArray} {k s : Nat} {y : ByteArray}, (s, y) ∈ rawE k l → k ≤ s ∧ l[s - k]? = some y ∧ y.size ≠ 0
  | [], _, _, _, h => nomatch h
  | x :: l, k, s, y, h => by
    rw [rawE] at h
    have hr : (s, y) ∈ rawE (k + 1) l → k ≤ s ∧ (x :: l)[s - k]? = some y ∧ y.size ≠ 0 := fun h => by
      obtain ⟨h1, h2, h3⟩ := rawE_at h
      refine ⟨by omega, ?_, h3⟩
      rw [show s - k = (s - (k + 1)) + 1 by omega, List.getElem?_cons_succ]; exact h2
    by_cases hx : x.size = 0
    · rw [if_pos hx] at h; exact hr h
    · rw [if_neg hx] at h
      rcases List.mem_cons.1 h with h | h
      · cases h
        exact ⟨Nat.le_refl _, by rw [Nat.sub_self]; rfl, hx⟩
      · exact hr h
theorem cnt_rep (r : Nat) : (List.replicate r ByteArray.empty).countP nz = 0 := by rw [List.countP_replicate, nz_empty]; rfl
theorem cnt_app (l : List ByteArray) (r : Nat) : cnt (l ++ List.replicate r ByteArray.empty) = cnt l := by
  cases l with
  | nil =>
    cases r with
    | zero => rfl
    | succ r => rw [List.nil_append, List.replicate_succ]; show (List.replicate r ByteArray.empty).countP nz = 0; exact cnt_rep r
  | cons x l => show (l ++ List.replicate r ByteArray.empty).countP nz = l.countP nz; rw [List.countP_append, cnt_rep]; rfl
theorem cnt_set {l : List ByteArray} {k : Nat} (x : ByteArray) (hk : k < l.length) : cnt (l.set k x) = if k = 0 then cnt l else cnt l - (if nz (l.getD k ByteArray.empty) then 1 else 0) + (if nz x then 1 else 0) := by
  cases l with
  | nil => cases hk
  | cons y l =>
    cases k with
    | zero => rfl
    | succ k =>
      rw [List.length_cons] at hk
      rw [List.set_cons_succ, if_neg (by omega)]
      show (l.set k x).countP nz = _
      rw [List.countP_set (by omega), List.getD_cons_succ, List.getD_eq_getElem?_getD, List.getElem?_eq_getElem (by omega)]; rfl
theorem setI_le (l : List ByteArray) (k : Nat) : k < (l ++ List.replicate (k + 1 - l.length) ByteArray.empty).length := by rw [List.length_append, List.length_replicate]; omega
theorem cnt_setI (l : List ByteArray) (k : Nat) (x : ByteArray) : cnt (setI l k x) ≤ cnt l + (if 1 ≤ k ∧ x.size ≠ 0 then 1 else 0) := by
  rw [setI, cnt_set x (setI_le l k), cnt_app]
  by_cases h0 : k = 0
  · rw [if_pos h0]; omega
  · rw [if_neg h0]
    by_cases hx : x.size = 0
    · rw [show nz x = false by simp [nz, hx], if_neg (c := 1 ≤ k ∧ x.size ≠ 0) (by omega)]; split <;> simp
    · rw [show nz x = true by simp [nz, hx], if_pos (c := 1 ≤ k ∧ x.size ≠ 0) (by omega)]; split <;> simp
theorem cnt_clr {l : List ByteArray} {k : Nat} {y : ByteArray} (h1 : 1 ≤ k) (hy : l[k]? = some y) (hz : y.size ≠ 0) : cnt (setI l k ByteArray.empty) + 1 ≤ cnt l := by
  obtain ⟨hk, rfl⟩ := List.getElem?_eq_some_iff.1 hy
  have hpos : 0 < cnt l := by
    cases l with
    | nil => cases hk
    | cons x l =>
      rw [List.length_cons] at hk
      refine List.countP_pos_iff.2 ⟨l[k - 1]'(by omega), List.getElem_mem _, ?_⟩
      obtain ⟨k, rfl⟩ : ∃ m, k = m + 1 := ⟨k - 1, by omega⟩
      simpa [nz] using hz
  rw [setI, cnt_set _ (setI_le l k), cnt_app, if_neg (by omega), nz_empty, List.getD_eq_getElem?_getD, List.getElem?_append_left hk, hy, Option.getD_some, show nz l[k] = true by simp [nz, hz], if_pos rfl, if_neg (by decide)]
  omega
/-- entries in page i -/
def cntAt (ps : List PgS) (i : Nat) : Nat := cnt (ps.getD i pgs0).2.2
theorem do1_other {ps : List PgS} {e : EdT} {i : Nat} (h : e.1 ≠ (i : Int)) : (do1B ps e).getD i pgs0 = ps.getD i pgs0 := by
  unfold do1B
  split
  · rename_i hok
    have hok := of_decide_eq_true hok
    rw [List.getD_eq_getElem?_getD, List.getElem?_set_ne (by omega), ← List.getD_eq_getElem?_getD]
  · rfl
theorem doB_other {i : Nat} : ∀ {L : List EdT} {ps : List PgS}, (∀ e ∈ L, e.1 ≠ (i : Int)) → (doB ps L).getD i pgs0 = ps.getD i pgs0
  | [], _, _ => rfl
  | e :: L, ps, h => by
    show (doB (do1B ps e) L).getD i pgs0 = _
    rw [doB_other (L := L) fun x hx => h x (by simp [hx]), do1_other (h e (by simp))]
theorem do1_at {ps : List PgS} {e : EdT} {i : Nat} (hok : edOk ps.length e = true) (h : e.1 = (i : Int)) : (do1B ps e).getD i pgs0 = edP (ps.getD i pgs0) e := by
  have hb := of_decide_eq_true hok
  rw [do1B, if_pos hok, h, Int.toNat_natCast, List.getD_eq_getElem?_getD, List.getElem?_set_self (by omega)]; rfl
theorem do1_bad {ps : List PgS} {e : EdT} (hok : edOk ps.length e = false) : do1B ps e = ps := by rw [do1B, hok]; rfl
theorem cntAt_do1 (ps : List PgS) (e : EdT) (i : Nat) : cntAt (do1B ps e) i ≤ cntAt ps i + (if e.1 = (i : Int) ∧ 1 ≤ e.2.1 ∧ e.2.2.size ≠ 0 then 1 else 0) := by
  by_cases h : e.1 = (i : Int)
  · cases hok : edOk ps.length e with
    | false => rw [do1_bad hok]; omega
    | true =>
      rw [cntAt, do1_at hok h, edP]
      by_cases hs : e.2.1 < 0
      · rw [if_pos hs]; exact Nat.zero_le _
      · rw [if_neg hs]
        refine Nat.le_trans (cnt_setI _ _ _) ?_
        show cntAt ps i + _ ≤ _
        by_cases hc : 1 ≤ e.2.1 ∧ e.2.2.size ≠ 0
        · rw [if_pos (c := e.1 = (i : Int) ∧ 1 ≤ e.2.1 ∧ e.2.2.size ≠ 0) ⟨h, hc⟩]; split <;> omega
        · rw [if_neg (c := 1 ≤ e.2.1.toNat ∧ e.2.2.size ≠ 0) (fun hh => hc ⟨by omega, hh.2⟩)]; omega
  · rw [cntAt, do1_other h]; exact Nat.le_add_right _ _
theorem cntAt_do0 {ps : List PgS} {e : EdT} {i : Nat} (h : ¬ (e.1 = (i : Int) ∧ 1 ≤ e.2.1 ∧ e.2.2.size ≠ 0)) : cntAt (do1B ps e) i ≤ cntAt ps i := by
  have := cntAt_do1 ps e i
  rwa [if_neg h] at this
theorem cntAt_clr {i : Nat} : ∀ {L : List EdT} {ps : List PgS}, (∀ e ∈ L, ¬ (e.1 = (i : Int) ∧ 1 ≤ e.2.1 ∧ e.2.2.size ≠ 0)) → cntAt (doB ps L) i ≤ cntAt ps i
  | [], _, _ => Nat.le_refl _
  | e :: L, ps, h => Nat.le_trans (cntAt_clr (L := L) (ps := do1B ps e) fun x hx => h x (by simp [hx])) (cntAt_do0 (h e (by simp)))
theorem clearE_no (pg : Int) (es : List EnD) (i : Nat) : ∀ e ∈ clearE pg es, ¬ (e.1 = (i : Int) ∧ 1 ≤ e.2.1 ∧ e.2.2.size ≠ 0) := fun e he h => by
  obtain ⟨x, _, rfl⟩ := List.mem_map.1 he
  exact h.2.2 rfl
theorem itsE_pg {pg lv : Int} : ∀ {es : List EnD} {k : Nat}, ∀ e ∈ itsE pg lv k es, e.1 = pg
  | [], _, e, h => nomatch h
  | x :: l, k, e, h => by
    rw [itsE] at h
    rcases List.mem_cons.1 h with rfl | h
    · rfl
    · exact itsE_pg e h
theorem freshE_pg {pg lv rt : Int} {hi : ByteArray} {es : List EnD} : ∀ e ∈ freshE pg lv rt hi es, e.1 = pg := fun e he => by
  rcases List.mem_append.1 he with h | h
  · simp only [List.mem_cons, List.not_mem_nil, or_false] at h
    rcases h with rfl | rfl <;> rfl
  · exact itsE_pg e h
theorem cntAt_its {pg lv : Int} {i : Nat} : ∀ {es : List EnD} {k : Nat} {ps : List PgS}, cntAt (doB ps (itsE pg lv k es)) i ≤ cntAt ps i + es.length
  | [], _, _ => Nat.le_refl _
  | x :: l, k, ps => by
    rw [itsE]
    have h1 := cntAt_its (pg := pg) (lv := lv) (i := i) (es := l) (k := k + 1) (ps := do1B ps (pg, (k : Int), itB lv x.2.2 x.1))
    have h2 := cntAt_do1 ps (pg, (k : Int), itB lv x.2.2 x.1) i
    show cntAt (doB (do1B ps _) _) i ≤ _
    rw [List.length_cons]
    split at h2 <;> omega
theorem doB_app (ps : List PgS) (a b : List EdT) : doB ps (a ++ b) = doB (doB ps a) b := List.foldl_append
theorem cntAt_out {ps : List PgS} {i : Nat} (h : ps.length ≤ i) : cntAt ps i = 0 := by
  rw [cntAt, List.getD_eq_getElem?_getD, List.getElem?_eq_none h]; rfl
theorem cntAt_fresh (pg lv rt : Int) (hi : ByteArray) (es : List EnD) (ps : List PgS) (i : Nat) : cntAt (doB ps (freshE pg lv rt hi es)) i ≤ if pg = (i : Int) then es.length else cntAt ps i := by
  by_cases h : pg = (i : Int)
  · rw [if_pos h]
    by_cases hl : ps.length ≤ i
    · rw [cntAt_out (by rw [doB_len]; exact hl)]; exact Nat.zero_le _
    · rw [freshE, doB_app]
      refine Nat.le_trans cntAt_its ?_
      have h1 : cntAt (do1B ps (pg, -1, strOfNums [2])) i = 0 := by
        rw [cntAt, do1_at (decide_eq_true (by dsimp only; omega)) h]; rfl
      have h2 := cntAt_do0 (ps := do1B ps (pg, -1, strOfNums [2])) (e := (pg, 0, hdB lv rt false hi)) (i := i) (fun hh => by have := hh.2.1; dsimp only at this; omega)
      show cntAt (do1B (do1B ps (pg, -1, strOfNums [2])) (pg, 0, hdB lv rt false hi)) i + es.length ≤ _
      omega
  · rw [if_neg h, cntAt, doB_other fun e he => by rw [freshE_pg e he]; exact h]; exact Nat.le_refl _
def C8 (ps : List PgS) : Prop := ∀ i, cntAt ps i ≤ 8
theorem C8.okc {ps : List PgS} (h : C8 ps) : OkC ps := fun p hp => by
  obtain ⟨i, hi, rfl⟩ := List.getElem_of_mem hp
  have h1 := h i
  rw [cntAt, List.getD_eq_getElem?_getD, List.getElem?_eq_getElem hi, Option.getD_some, cnt] at h1
  rw [rawE_cnt]; omega
/-- a node and its page -/
theorem nd_cnt {ps : List PgS} {x : Int} {n : NoD} (h : ndAt ps x = some n) : 0 ≤ x ∧ x < ps.length ∧ n.es.length = cntAt ps x.toNat ∧ (∀ e ∈ n.es, 1 ≤ e.2.1 ∧ ∃ y, (ps.getD x.toNat pgs0).2.2[e.2.1]? = some y ∧ y.size ≠ 0) := by
  unfold ndAt at h
  split at h
  · rename_i hx
    obtain ⟨y, l, h1, h2, h3, rfl⟩ := nodF_inv h
    refine ⟨hx.1, hx.2, ?_, fun e he => ?_⟩
    · show (srt _ (rawE 1 l)).length = _
      rw [srt_len, rawE_cnt, cntAt, h1]; rfl
    · have hm : ∃ p ∈ rawE 1 l, e = parE (numS y 0 1) p := by
        obtain ⟨p, hp, rfl⟩ := List.mem_map.1 (List.mem_reverse.1 (sortR_mem (List.mem_reverse.1 he)))
        exact ⟨p, hp, rfl⟩
      obtain ⟨⟨s, z⟩, hp, rfl⟩ := hm
      obtain ⟨h4, h5, h6⟩ := rawE_at hp
      have h7 : (parE (numS y 0 1) (s, z)).2.1 = s := by unfold parE; split <;> rfl
      rw [h7, h1]
      refine ⟨h4, z, ?_, h6⟩
      rw [show s = (s - 1) + 1 by omega, List.getElem?_cons_succ]; exact h5
  · cases h
theorem grow_c8 {ps : List PgS} {pos fresh : Int} {n : NoD} (h : C8 ps) (hok : OkS ps) (hn : ndAt ps pos = some n) (hl8 : ¬ n.es.length < 8) (hf : fresh ≠ pos) : C8 (doB ps (growE pos n fresh)) := by
    intro i
    obtain ⟨hx0, hx1, hlen, hsl⟩ := nd_cnt hn
    rw [growE, doB_app, doB_app, doB_app]
    obtain ⟨ps1, hp1⟩ : ∃ z, doB ps (freshE fresh n.lv (-1) ByteArray.empty n.es) = z := ⟨_, rfl⟩
    have h1 := cntAt_fresh fresh n.lv (-1) ByteArray.empty n.es ps i
    rw [hp1] at h1 ⊢
    have h2 := cntAt_do0 (ps := ps1) (e := (pos, 0, hdB (n.lv + 1) (-1) false ByteArray.empty)) (i := i) (fun hh => by have := hh.2.1; dsimp only at this; omega)
    obtain ⟨ps2, hp2⟩ : ∃ z, do1B ps1 (pos, 0, hdB (n.lv + 1) (-1) false ByteArray.empty) = z := ⟨_, rfl⟩
    rw [hp2] at h2
    show cntAt (do1B (doB (do1B ps1 (pos, 0, hdB (n.lv + 1) (-1) false ByteArray.empty)) (clearE pos n.es)) (pos, 1, itB 1 fresh leastB)) i ≤ 8
    rw [hp2]
    have h3 := cntAt_clr (ps := ps2) (clearE_no pos n.es i)
    have h4 := cntAt_do1 (doB ps2 (clearE pos n.es)) (pos, 1, itB 1 fresh leastB) i
    by_cases hi : (pos : Int) = (i : Int)
    · rw [if_neg (by omega)] at h1
      have hpi : pos.toNat = i := by omega
      rw [hpi] at hsl hlen
      have h8 := h i
      match hes : n.es with
      | [] => rw [hes] at hl8; exact absurd hl8 (by decide)
      | e0 :: er =>
        obtain ⟨hs1, y, hy, hyz⟩ := hsl e0 (by rw [hes]; simp)
        have hg1 : ps1.getD i pgs0 = ps.getD i pgs0 := by rw [← hp1]; exact doB_other fun e he => by rw [freshE_pg e he]; omega
        have hl1 : ps1.length = ps.length := by rw [← hp1, doB_len]
        have hg2 : (ps2.getD i pgs0).2.2 = setI (ps.getD i pgs0).2.2 0 (hdB (n.lv + 1) (-1) false ByteArray.empty) := by
          rw [← hp2, do1_at (decide_eq_true (by dsimp only; omega)) hi, hg1]; rfl
        have hl2 : ps2.length = ps.length := by rw [← hp2, do1B_len, hl1]
        have hsy : (setI (ps.getD i pgs0).2.2 0 (hdB (n.lv + 1) (-1) false ByteArray.empty))[e0.2.1]? = some y := by
          rw [setI, List.getElem?_set_ne (by omega)]
          obtain ⟨hk, _⟩ := List.getElem?_eq_some_iff.1 hy
          rw [List.getElem?_append_left hk]; exact hy
        have h100 : (e0.2.1 : Int) ≤ 100 := by
          obtain ⟨hk, _⟩ := List.getElem?_eq_some_iff.1 hy
          have h101 := hok.its _ (getD_mem' (l := ps) (n := i) (d := pgs0) (by omega)).2
          omega
        have h5 : cntAt (do1B ps2 (pos, (e0.2.1 : Int), ByteArray.empty)) i + 1 ≤ cntAt ps2 i := by
          rw [cntAt, do1_at (decide_eq_true (by dsimp only; omega)) hi, cntAt, edP, if_neg (by dsimp only; omega), hg2]
          exact cnt_clr hs1 hsy hyz
        have h6 := cntAt_clr (ps := do1B ps2 (pos, (e0.2.1 : Int), ByteArray.empty)) (clearE_no pos er i)
        have h7 : doB ps2 (clearE pos (e0 :: er)) = doB (do1B ps2 (pos, (e0.2.1 : Int), ByteArray.empty)) (clearE pos er) := rfl
        rw [hes] at h4
        rw [h7] at h4 ⊢
        split at h4 <;> omega
    · rw [if_neg (by dsimp only; omega)] at h4
      have h8 := h i
      have h9 := h pos.toNat
      split at h1 <;> omega
theorem cut_c8 {ps : List PgS} {pos fresh : Int} {n : NoD} (h : C8 ps) (hn : ndAt ps pos = some n) : C8 (doB ps (cutE pos n fresh)) := by
    intro i
    obtain ⟨hx0, hx1, hlen, hsl⟩ := nd_cnt hn
    rw [cutE, doB_app, doB_app]
    have h1 := cntAt_fresh fresh n.lv n.right n.high (halfE n) ps i
    have h2 := cntAt_do0 (ps := doB ps (freshE fresh n.lv n.right n.high (halfE n))) (e := (pos, 0, hdB n.lv fresh false (midE n))) (i := i) (fun hh => by have := hh.2.1; dsimp only at this; omega)
    have h3 := cntAt_clr (ps := do1B (doB ps (freshE fresh n.lv n.right n.high (halfE n))) (pos, 0, hdB n.lv fresh false (midE n))) (clearE_no pos (halfE n) i)
    have hh : (halfE n).length ≤ n.es.length := by rw [halfE, List.length_drop]; omega
    have h8 := h i
    have h9 := h pos.toNat
    refine Nat.le_trans h3 (Nat.le_trans h2 ?_)
    split at h1 <;> omega
theorem put_c8 {ps : List PgS} {pos s : Int} {x : ByteArray} {n : NoD} (h : C8 ps) (hn : ndAt ps pos = some n) (hl8 : n.es.length < 8) : C8 (doB ps [(pos, s, x)]) := by
  intro i
  obtain ⟨hx0, hx1, hlen, hsl⟩ := nd_cnt hn
  refine Nat.le_trans (cntAt_do1 ps _ i) ?_
  dsimp only
  have h8 := h i
  split
  · rename_i hc
    have : i = pos.toNat := by omega
    subst this; omega
  · exact h8
theorem step_c8 {ps : List PgS} {p : PuT} {fresh : Int} (h : C8 ps) (hok : OkS ps) (hf : fresh ≠ p.root) : C8 (doB ps (stepF ps p fresh).2.eds) := by
  obtain ⟨root, pos, leaf, left, fro, to, spl⟩ := p
  have hnil : C8 (doB ps []) := h
  cases left with
  | nil => exact hnil
  | cons t lf =>
    obtain ⟨te, tl, tk⟩ := t
    rcases hnd : ndAt ps pos with _ | n
    · rw [st_none hnd]; exact hnil
    · cases hs : sndB n.dead n.high te with
      | true =>
        by_cases hr : n.right < 0
        · rw [st_lost hnd hs hr]; exact hnil
        · rw [st_right hnd hs hr]; exact hnil
      | false =>
        by_cases hl : tl < n.lv
        · rw [st_down hnd hs hl]; exact hnil
        · by_cases hm : n.lv < tl
          · rw [st_form hnd hs hl hm]; exact hnil
          · cases ht : hasE n.es te with
            | true => rw [st_there hnd hs hl hm ht]; exact hnil
            | false =>
              by_cases h8 : n.es.length < 8
              · rw [st_put hnd hs hl hm ht h8]; exact put_c8 h hnd h8
              · by_cases hfr : fresh < 0
                · rw [st_full hnd hs hl hm ht h8 hfr]; exact hnil
                · by_cases hr : pos = root
                  · rw [st_grow hnd hs hl hm ht h8 hfr hr]; subst hr; exact grow_c8 h hok hnd h8 hf
                  · rw [st_cut hnd hs hl hm ht h8 hfr hr]; exact cut_c8 h hnd
theorem root_step (ps : List PgS) (p : PuT) (fresh : Int) : (stepF ps p fresh).1.root = p.root := by
  unfold stepF
  dsimp only
  split
  · rfl
  · split
    · rfl
    · repeat' split
      all_goals rfl
theorem run_ok : ∀ (j : Nat) {M k : Nat} {ps : List PgS} {nx : Int} {p : PuT}, BdM M ps → ps.length = 60 → C8 ps → 1 ≤ nx → p.root = 0 → PuM M k p → M + 10 * j ≤ 900000 → BdM (M + 10 * j) (runF j ps nx p).1 ∧ (runF j ps nx p).1.length = 60 ∧ C8 (runF j ps nx p).1 ∧ 1 ≤ (runF j ps nx p).2
  | 0, M, k, ps, nx, p, h1, h2, h3, h4, h5, h6, h7 => ⟨h1, h2, h3, h4⟩
  | j + 1, M, k, ps, nx, p, h1, h2, h3, h4, h5, h6, h7 => by
    by_cases hl : p.left = []
    · rw [runF_nil _ _ _ hl]; exact ⟨h1.mono (by omega), h2, h3, h4⟩
    · rw [runF_step hl]
      have hs := step_sz (fresh := nx) h1 h6
      have hok := h1.ok (by omega) (by omega)
      have h8 := run_ok j (M := M + 10) (k := k + 1) (ps := doB ps (stepF ps p nx).2.eds) (nx := if (stepF ps p nx).2.used then nx + 1 else nx) (p := (stepF ps p nx).1) ((h1.mono (by omega)).do hs.1) (by rw [doB_len]; exact h2) (step_c8 h3 hok (by omega)) (by split <;> omega) (by rw [root_step]; exact h5) hs.2 (by omega)
      rw [show M + 10 * (j + 1) = M + 10 + 10 * j by omega]; exact h8
theorem blank_c8 (n : Nat) : C8 (blankF n) := fun i => by
  refine Nat.le_trans (cntAt_clr fun e he h => ?_) ?_
  · simp only [begF, List.mem_cons, List.not_mem_nil, or_false] at he
    rcases he with rfl | rfl <;> (have := h.2.1; dsimp only at this; omega)
  · rw [cntAt, List.getD_eq_getElem?_getD]
    by_cases hi : i < n
    · rw [List.getElem?_eq_getElem (by rw [List.length_replicate]; exact hi), List.getElem_replicate]; decide
    · rw [List.getElem?_eq_none (by rw [List.length_replicate]; omega)]; decide
theorem put_sz (x : Int) (pg sl : Int) (M : Nat) (hM : 16 ≤ M) : PuM M 1 (putT 0 (keyF x) pg sl) := ⟨fun t ht => by
  rw [putT, List.mem_singleton] at ht
  subst ht
  have := keyF_size x
  exact ⟨by rw [entF_size]; omega, Int.le_refl 0, by show (0 : Int) ≤ _; omega⟩, Nat.le_refl _⟩
theorem grw_ok (l : List Int) : ∀ (i : Nat), i ≤ 90 → BdM (16 + 600 * i) (grwF l i).1 ∧ (grwF l i).1.length = 60 ∧ C8 (grwF l i).1 ∧ 1 ≤ (grwF l i).2
  | 0, _ => ⟨(blank_sz 60).1, (blank_sz 60).2, blank_c8 60, Int.le_refl 1⟩
  | i + 1, h => by
    obtain ⟨h1, h2, h3, h4⟩ := grw_ok l i (by omega)
    rw [grwF]
    have h5 := run_ok 60 h1 h2 h3 h4 (p := putT 0 (keyF (l.getD i 0)) (1 + (i : Int) / 8) (1 + (i : Int) % 8)) rfl (put_sz _ _ _ _ (by omega)) (by omega)
    rw [show 16 + 600 * (i + 1) = 16 + 600 * i + 10 * 60 by omega]; exact h5
theorem grown_ok (l : List Int) : BdM 54016 (grownF l) ∧ (grownF l).length = 60 ∧ C8 (grownF l) := by
  obtain ⟨h1, h2, h3, _⟩ := grw_ok l (min l.length 90) (by omega)
  exact ⟨h1.mono (by omega), h2, h3⟩
end
end Go.Proofs.Ytjlcoglmjldjbaa
namespace Go.Proofs.Ytjlcoglmjldjbaa
section
open Go.RowKit
set_option linter.unusedVariables false
set_option linter.unusedSimpArgs false
/-- inside a round -/
abbrev Rnd (l : Nat) : Fence := Fence.wide.inRound l
def noDefer (ops : Array Oper) : Bool := ops.all fun o => match o.op with | .defer _ => false | _ => true
theorem noDefer_at {ops : Array Oper} (h : noDefer ops = true) {i : Nat} {o : Oper} (ho : ops[i]? = some o) : ∀ c, o.op ≠ .defer c := by
  intro c hc
  obtain ⟨hi, he⟩ := Array.getElem?_eq_some_iff.1 ho
  have h2 := (Array.all_eq_true.1 h) i hi
  rw [he, hc] at h2
  cases h2
theorem opIn {P : Program} {l n : Nat} {o : Oper} {a : Act} {w : World} {K : Act → World → Prop} {Q : Exit → Act → World → Prop} (hd : ∀ c, o.op ≠ .defer c) (h : o.wp P a w K Q) : o.wpIn (Rnd l) n P a w K Q := by
  unfold Oper.wp at h
  refine ⟨fun _ _ => trivial, ?_⟩
  show o.uponIn (Rnd l) n P a K Q ((o.semAt (some l) a.eval).run P w)
  rw [Oper.semAt_eq (some l) a.eval o hd]
  generalize (execOp a.eval o).run P w = r at h ⊢
  cases r with
  | ok x w' =>
    cases x <;> simp only [Oper.upon, Oper.uponIn] at h ⊢ <;> first
      | exact h
      | exact ⟨fun hh => by simp [Rnd, Fence.wide] at hh, CallsIn.inRound l (callsIn_wide.2 h)⟩
      | exact ⟨fun hh => by simp [Rnd, Fence.wide] at hh, fun c cs _ => let ⟨v, w', r, s⟩ := h c cs; ⟨v, w', r, stepsIn_wide.2 s⟩⟩
  | halt x w' => cases x <;> simp only [Oper.upon, Oper.uponIn] at h ⊢ <;> exact h
section
variable {P : Program} {l n : Nat} {ops : Array Oper} {Q : Exit → Act → World → Prop}
theorem wpOpIn_of (hnd : noDefer ops = true) (hLo : ¬ LetsOut Q) {i : Nat} {K : Act → World → Prop} {a : Act} {w : World} (h : wpOp P ops Q i K a w) : wpOpIn (Rnd l) n P ops Q i K a w := by
  unfold wpOp at h
  unfold wpOpIn
  cases ho : ops[i]? with
  | none => simp only [ho] at h ⊢; exact h
  | some o =>
    simp only [ho] at h ⊢
    split
    · rename_i hw
      rw [if_pos hw] at h
      exact opIn (noDefer_at hnd ho) (h.resolve_right fun hh => hLo hh.2)
    · rename_i hw
      rw [if_neg hw] at h
      exact ⟨fun _ _ => trivial, h⟩
theorem wpAnyIn_of (hnd : noDefer ops = true) (hLo : ¬ LetsOut Q) : ∀ (m : Nat) (listed : Array Bool) (a : Act) (w : World), wpAny P .any ops Q m listed a w → wpAnyIn (Rnd l) n P .any ops Q m listed a w
  | 0, listed, a, w, h => h
  | m + 1, listed, a, w, h => ⟨h.1, fun i hi => wpOpIn_mono (fun a w hh => wpAnyIn_of hnd hLo m _ a w hh) (wpOpIn_of hnd hLo (h.2 i hi))⟩
theorem wpOpsIn_of (hnd : noDefer ops = true) (hLo : ¬ LetsOut Q) : ∀ (is : List Nat) (a : Act) (w : World), wpOps P ops Q is a w → wpOpsIn (Rnd l) n P ops Q is a w
  | [], a, w, h => h
  | i :: is, a, w, h => by
    rw [wpOps_cons] at h
    rw [wpOpsIn_cons]
    exact wpOpIn_mono (fun a w hh => wpOpsIn_of hnd hLo is a w hh) (wpOpIn_of hnd hLo h)
end
section
variable {P : Program} {ops : Array Oper} {L : List Nat} {w0 : World} {bor : List Nat} {X0 : List Ent} {us cr kl : List (List Nat)} {Q : Exit → Act → World → Prop} {l n : Nat}
/-- THE RULE, inside a round -/
theorem wpIn_region_W {id : Nat} {dr : Bool} {w : World} {t0 : Array Value} {d0 : List Deferred} (hnd : noDefer ops = true) (hm : P.follows .mixedOrders = true) (L : List Nat) (us cr kl : List (List Nat)) (D : Nat → (Tmp → Value) → (Tmp → Value) → (Nat → Ent) → Prop) (fin : List Nat)
    (hL : okAnc ops L = true) (hd : dstOk ops t0.size = true) (hflow : flowV ops.size X0.length L us cr kl = true) (hfin : finV ops.size X0.length cr kl fin = true)
    (hloc : LocalV ops X0.length L cr D) (hst : St w0 bor X0 w) (hstep : AllTo (StepV P ops L ⟨t0, d0⟩ w0 bor X0 us cr kl D) ops.size)
    (hrest : ∀ (σ β : Tmp → Value) (X : Nat → Ent) (w' : World), (∀ i, i < ops.size → D i σ β X) → (∀ q e, X0[q]? = some e → X q = e) → St w0 bor (fin.map X) w' →
      ∀ fr, fr = putAll (dstsU ops) ((dstsU ops).map σ) t0 → Q .normal ⟨fr, d0⟩ w') : (Code.region id ops dr).wpIn (Rnd l) n P Q ⟨t0, d0⟩ w := by
  have hs : ∀ i, i < ops.size → StepV P ops L ⟨t0, d0⟩ w0 bor X0 us cr kl D i := fun i hi => hstep.get i hi
  obtain ⟨Q', hQ'⟩ : ∃ Q' : Exit → Act → World → Prop, Q' = fun e a w => e = .normal ∧ Q .normal a w := ⟨_, rfl⟩
  have hr : ∀ (a : Act) (w : World) (listed : Array Bool), (∀ i, i < ops.size → listed.getD i false = true) → VInv ops L ⟨t0, d0⟩ w0 bor X0 cr kl D listed a w → Q' .normal a w := fun a w listed hall inv => by
    rw [hQ']; exact ⟨rfl, vinv_end (a0 := ⟨t0, d0⟩) hd hfin (fun σ β X w' h1 h2 h3 => hrest σ β X w' h1 h2 h3 _ rfl) hall inv⟩
  have hLo : ¬ LetsOut Q' := by rw [hQ']; rintro ⟨a, w, h, _⟩; cases h
  refine wpIn_mono (Q := Q') ?_ fun e a w h => by rw [hQ'] at h; obtain ⟨rfl, h⟩ := h; exact h
  cases dr with
  | true =>
    refine wpIn_region_any hm (wpAnyIn_of hnd hLo _ _ _ _ (wpAny_V hL hd hflow hloc hs hr ops.size (Array.replicate ops.size false) ⟨t0, d0⟩ w.drew ?_ (vinv_start hst.drew)))
    rw [List.countP_eq_length.2]
    · simp
    · intro i _
      rw [getD_replicate_false]
      rfl
  | false =>
    refine wpIn_region ?_
    rw [List.range_eq_range']
    exact wpOpsIn_of hnd hLo _ _ _ (wpOps_V hL hd hflow hloc hs hr ops.size 0 (Array.replicate ops.size false) ⟨t0, d0⟩ w (by omega) (fun j => by rw [getD_replicate_false]; simp) (vinv_start hst))
end
theorem wpIn_region_T {l n : Nat} {P : Program} {ops : Array Oper} {Q : Exit → Act → World → Prop} {w0 : World} {bor : List Nat} {X0 : List Ent} {id : Nat} {dr : Bool} {w : World} {t0 : List Value} {d0 : List Deferred} (L : List Nat) (us cr kl : List (List Nat)) (tb : List TE)
    (A : Nat → (Tmp → Value) → (Tmp → Value) → (Nat → Ent) → Prop) (fin sp : List Nat) (rs : List (Nat × Nat × Nat × Nat)) (hst : St w0 bor X0 w) (hloc : LocalV ops X0.length L cr A)
    (hstep : inAll (StepV P ops L ⟨t0.toArray, d0⟩ w0 bor X0 us cr kl (fun ix σ β X => dT tb ix σ (A ix σ β X))) sp)
    (hrest : ∀ (σ β : Tmp → Value) (X : Nat → Ent) (w' : World), (∀ i, i < ops.size → dT tb i σ (A i σ β X)) → (∀ q e, X0[q]? = some e → X q = e) → St w0 bor (fin.map X) w' → ∀ fr, fr = mgT tb σ rs t0 → Q .normal ⟨fr.toArray, d0⟩ w')
    (ht : goTs P ops L t0.toArray tb 0 tb = tb.map wantT := by kernel_rfl) (hl : lineOk ops L cr kl sp 0 tb = true := by kernel_rfl) (hn : tb.length = ops.size := by kernel_rfl)
    (hfr : ∀ σ, putAll (dstsU ops) ((idxU ops).map (valT ops tb σ)) t0.toArray = (mgT tb σ rs t0).toArray := by intro σ; kernel_rfl)
    (hm : P.follows .mixedOrders = true := by kernel_rfl) (hnd : noDefer ops = true := by kernel_rfl) (hL : okAnc ops L = true := by kernel_rfl) (hd : dstOk ops t0.toArray.size = true := by kernel_rfl) (hflow : flowV ops.size X0.length L us cr kl = true := by kernel_rfl) (hfin : finV ops.size X0.length cr kl fin = true := by kernel_rfl) :
    (Code.region id ops dr).wpIn (Rnd l) n P Q ⟨t0.toArray, d0⟩ w := by
  refine wpIn_region_W hnd hm L us cr kl (fun ix σ β X => dT tb ix σ (A ix σ β X)) fin hL hd hflow hfin (fun i σ σ' β β' X X' h1 h2 h3 h => ?_) hst (AllTo.of fun i hi => ?_) fun σ β X w' hD hX hst' fr hfr' => ?_
  · dsimp only at h ⊢
    rw [dT_iff] at h ⊢
    cases hdd : (tb.getD i .n).dst with
    | some d =>
      rw [hdd] at h
      dsimp only at h ⊢
      have hi : i < tb.length := getD_lt (by rw [hdd]; simp)
      have := (tOk_dst ht hi hdd).1
      rw [← h1 d (by unfold seesV; simp [this])]
      exact h
    | none =>
      rw [hdd] at h
      exact hloc i σ σ' β β' X X' h1 h2 h3 h
  · have hi' : i < tb.length := by rw [hn]; exact hi
    have h := lineOk_get (i := i) hl hi'
    rw [Nat.zero_add] at h
    rcases h with ⟨_, h⟩ | ⟨h, _⟩
    · exact inAll_get hstep i h
    · exact pure_step hd ht hl hi' h
  · subst hfr'
    have e : (dstsU ops).map σ = (idxU ops).map (valT ops tb σ) := by
      unfold dstsU
      rw [List.map_map]
      refine List.map_congr_left fun i hi => ?_
      have him := List.mem_filter.1 hi
      have hlt : i < ops.size := List.mem_range.1 him.1
      have h := hD i hlt
      rw [dT_iff] at h
      unfold valT
      cases hdd : (tb.getD i .n).dst with
      | none => rfl
      | some d =>
        rw [hdd] at h
        dsimp only at h ⊢
        have := (tOk_dst ht (i := i) (by rw [hn]; exact hlt) hdd).1
        simp only [Function.comp, this, Option.getD_some]
        exact h
    rw [e, hfr σ]
    exact hrest σ β X w' hD hX hst' _ rfl
theorem wpIn_region_Y {l n : Nat} {P : Program} {ops : Array Oper} {Q : Exit → Act → World → Prop} {w0 : World} {bor : List Nat} {X0 : List Ent} {id : Nat} {dr : Bool} {w : World} {t0 : List Value} {t1 : (Tmp → Value) → List Value} {E : (Nat → Ent) → List Ent} {d0 : List Deferred} (L : List Nat) (us cr kl : List (List Nat)) (tb : List TE)
    (A : Nat → (Tmp → Value) → (Tmp → Value) → (Nat → Ent) → Prop) (fin sp : List Nat) (rs : List (Nat × Nat × Nat × Nat)) (hst : St w0 bor X0 w) (hloc : LocalV ops X0.length L cr A)
    (hstep : inAll (StepV P ops L ⟨t0.toArray, d0⟩ w0 bor X0 us cr kl (fun ix σ β X => dT tb ix σ (A ix σ β X))) sp)
    (hrest : ∀ (σ β : Tmp → Value) (X : Nat → Ent) (w' : World), (∀ i, i < ops.size → dT tb i σ (A i σ β X)) → St w0 bor (E X) w' → ∀ fr, fr = t1 σ → Q .normal ⟨fr.toArray, d0⟩ w')
    (h1 : ∀ σ, mgT tb σ rs t0 = t1 σ := by intro σ; dsimp only [mgT, vals, List.take, List.drop, List.cons_append, List.nil_append]) (hE : ∀ X, finE X0 X fin = E X := by intro X; dsimp only [finE, entQ])
    (ht : goTs P ops L t0.toArray tb 0 tb = tb.map wantT := by kernel_rfl) (hl : lineOk ops L cr kl sp 0 tb = true := by kernel_rfl) (hn : tb.length = ops.size := by kernel_rfl)
    (hfr : ∀ σ, putAll (dstsU ops) ((idxU ops).map (valT ops tb σ)) t0.toArray = (mgT tb σ rs t0).toArray := by intro σ; kernel_rfl)
    (hm : P.follows .mixedOrders = true := by kernel_rfl) (hnd : noDefer ops = true := by kernel_rfl) (hL : okAnc ops L = true := by kernel_rfl) (hd : dstOk ops t0.toArray.size = true := by kernel_rfl) (hflow : flowV ops.size X0.length L us cr kl = true := by kernel_rfl) (hfin : finV ops.size X0.length cr kl fin = true := by kernel_rfl) :
    (Code.region id ops dr).wpIn (Rnd l) n P Q ⟨t0.toArray, d0⟩ w :=
  wpIn_region_T L us cr kl tb A fin sp rs hst hloc hstep (fun σ β X w' hD hX hs fr hf => hrest σ β X w' hD (by rw [← hE X, finE_eq hX]; exact hs) fr (hf.trans (h1 σ))) ht hl hn hfr hm hnd hL hd hflow hfin
abbrev fps (L : List Ent) : List Nat := L.flatMap (·.fp)
theorem fps_mem {L : List Ent} {k : Nat} : k ∈ fps L ↔ ∃ e ∈ L, k ∈ e.fp := by simp [fps]
theorem St.fps_own {w0 w : World} {bor : List Nat} {L : List Ent} (h : St w0 bor L w) {k : Nat} (hk : k ∈ fps L) : (k ∈ bor ∨ w0.heap.size ≤ k) ∧ k < w.heap.size := by
  obtain ⟨e, he, hk⟩ := fps_mem.1 hk
  exact (h.ok e he).own k hk
/-- the block for the rounds' deferred calls -/
def eDfr (D : Nat) : Ent := ⟨[D], fun W => W.heap[D]? = some (.deferred (some []))⟩
theorem eD_loc (D : Nat) : (eDfr D).loc := fun W W' h hb => (h D (by simp [eDfr])).trans hb
/-- at the function's return the block is shut -/
theorem St.takeD {w0 W : World} {bor : List Nat} {L : List Ent} {D : Nat} (h : St w0 bor (L ++ [eDfr D]) W) : St w0 bor L (W.putObj D (.deferred none)) := by
  have hd := h.ok (eDfr D) (by simp)
  have hown := hd.own D (by simp [eDfr])
  have hap : ∀ e ∈ L, D ∉ e.fp := fun e he hk => by
    have := (List.pairwise_append.1 h.apart).2.2 e he (eDfr D) (by simp)
    exact this D hk (by simp [eDfr])
  have hg := grownBy_putObj' W D (.deferred none)
  refine ⟨⟨hg.os.trans h.upd.os, hg.tape.trans h.upd.tape, hg.output.trans h.upd.output, Nat.le_trans h.upd.size hg.size, fun k hk hb => ?_⟩, fun e he => ?_, (List.pairwise_append.1 h.apart).1⟩
  · rw [hg.block k (Nat.lt_of_lt_of_le hk h.upd.size) fun e' => ?_]
    · exact h.upd.block k hk hb
    · cases e'
      rcases hown.1 with h1 | h1
      · exact hb h1
      · omega
  · have h2 := h.ok e (by simp [he])
    refine ⟨h2.loc W _ (fun k hk => hg.block k (h2.own k hk).2 fun e' => ?_) h2.holds, h2.loc, fun k hk => ⟨(h2.own k hk).1, Nat.lt_of_lt_of_le (h2.own k hk).2 hg.size⟩⟩
    cases e'
    exact hap e he hk
theorem bpm_take {P : Program} {n : Nat} {fn : Func} {R : Ending → World → Prop} {t0 : Array Value} {w0 w : World} {bor : List Nat} {L : List Ent} {D : Nat} (hst : St w0 bor (L ++ [eDfr D]) w)
    (h : ∀ W, St w0 bor L W → ∃ v, (results fn t0).run P W = .ok v W ∧ R (.returned v) W) : bodyPostM Fence.wide n P fn R .ret ⟨t0, [{ target := .collected D, args := #[] }]⟩ w := by
  have hK : w.heap[D]? = some (.deferred (some [])) := (hst.ok (eDfr D) (by simp)).holds
  show LeavesInM Fence.wide n P fn t0 R [{ target := .collected D, args := #[] }] .returning w
  exact ⟨by simp, .inl ⟨_, _, rfl, run_takeDeferred hK, h _ hst.takeD⟩⟩
end
end Go.Proofs.Ytjlcoglmjldjbaa
namespace Go.Proofs.Ytjlcoglmjldjbaa
section
open Go.RowKit
set_option linter.unusedVariables false
set_option linter.unusedSimpArgs false
/-- the one who ranges, as an entry of the iterator's: his blocks, what he has been given -/
def eJ {α : Type} (J : List Nat → List α → World → Prop) (C : List Nat) (pre : List α) : Ent := ⟨C, J C pre⟩
/-- the iterator's contract: it gives a list of elements and leaves an entry of its own -/
def SeqF {α : Type} (P : Program) (gf : Nat) (lb : Array Value) (encs : α → Array Value) (N : Nat) (Z : List α → Ent → Prop) (w0 : World) : Prop :=
  ∀ (l : Nat) (J : List Nat → List α → World → Prop) (W : World) (C0 : List Nat), Ext w0 W → (∀ C pre, (eJ J C pre).loc) → (∀ k ∈ C0, w0.heap.size ≤ k ∧ k < W.heap.size) → J C0 [] W →
    (∀ C pre x A, J C pre A → (∀ k ∈ C, k < A.heap.size) → pre.length < N → YieldAt Fence.wide 1 P l (encs x) A fun e B => e = .returned (.bool true) ∧ ∃ C', St A C [eJ J C' (pre ++ [x])] B) →
    CallsIn Fence.wide 2 P gf (#[.func (.yield l) #[] #[]] ++ lb) W fun e B => (∃ v, e = .returned v) ∧ ∃ C xs E, St W C0 [eJ J C xs, E] B ∧ Z xs E
theorem Upd.putObj {S : List Nat} {A B : World} {l : Nat} {o : Obj} (h : Upd S A B) (hl : l ∈ S ∨ A.heap.size ≤ l) : Upd S A (B.putObj l o) := by
  have hg := grownBy_putObj' B l o
  refine ⟨hg.os.trans h.os, hg.tape.trans h.tape, hg.output.trans h.output, Nat.le_trans h.size hg.size, fun k hk hn => ?_⟩
  rw [hg.block k (Nat.lt_of_lt_of_le hk h.size) fun e => ?_]
  · exact h.block k hk hn
  · cases e
    rcases hl with h1 | h1
    · exact hn h1
    · omega
theorem putObj_size (W : World) (l : Nat) (o : Obj) : (W.putObj l o).heap.size = W.heap.size := by simp
theorem wp_rangeSF {α : Type} {P : Program} {g : Operand} {ps : Array Tmp} {assign body : Code} {Q : Exit → Act → World → Prop} {t0 : Array Value} {w0 w : World} {L0 : List Ent} (hst : St w0 [] L0 w)
    {gf : Nat} {lb : Array Value} (hg : Act.eval ⟨t0, []⟩ g = .func (.func gf) #[] lb) (eg : ∀ args w, (callFunc gf args).run P w = .ok (.enter gf args) w)
    {encs : α → Array Value} {N : Nat} {Z : List α → Ent → Prop} (hseq : SeqF P gf lb encs N Z w0) (hps : ∀ x, (encs x).size = ps.size) (I : List α → List Ent → Prop) (h0 : I [] L0) (Ax : α → Act → Ent → Prop) (t1 : α → List Value) (ht1 : ∀ x, (ps.zip (encs x)).foldl (fun t (p, v) => t.setIfInBounds p v) t0 = (t1 x).toArray)
    (hassign : ∀ (l : Nat) (x : α) (W : World) (K : Act → World → Prop), (∀ a' W' E, Ax x a' E → St W [] [E] W' → K a' W') → assign.wpIn (Rnd l) 1 P (Exit.then K (fun _ _ _ => False)) ⟨(t1 x).toArray, []⟩ W)
    (hbody : ∀ (l : Nat) (pre : List α) (x : α) (W : World) (L : List Ent) (a' : Act) (E : Ent), I pre L → pre.length < N → Ax x a' E → St W (fps (L ++ [E])) (L ++ [E]) W → body.wpIn (Rnd l) 1 P (fun e _ W' => e = .normal ∧ ∃ L', I (pre ++ [x]) L' ∧ St W (fps (L ++ [E])) L' W') a' W)
    (hdone : ∀ (D : Nat) (W : World) (L : List Ent) (xs : List α) (E : Ent), I xs L → Z xs E → St w0 [] (L ++ [E, eDfr D]) W → Q .normal ⟨t0, [{ target := .collected D, args := #[] }]⟩ W) :
    (Code.rangeFunc g ps assign body).wp P Q ⟨t0, []⟩ w := by
  refine (wpIn_wide (n := 3)).1 (wpIn_rangeFunc fun fn hfn => ?_)
  obtain ⟨D, hD⟩ : ∃ D, w.heap.size = D := ⟨_, rfl⟩
  obtain ⟨rec, hrec⟩ : ∃ rec : LoopState → Loop, rec = fun s => { state := s, pending := none, fn, tmps := t0, params := ps, assign, body, defers := D } := ⟨_, rfl⟩
  obtain ⟨W1, hW1⟩ : ∃ W1, (w.alloc (.deferred (some []))).alloc (.loop (rec .ready)) = W1 := ⟨_, rfl⟩
  have hL1 : W1.heap[D + 1]? = some (.loop (rec .ready)) := by
    rw [← hW1, ← hD]; have := World.alloc_heap_new (w.alloc (.deferred (some []))) (.loop (rec .ready)); rwa [World.size_alloc] at this
  have hK1 : W1.heap[D]? = some (.deferred (some [])) := by
    rw [← hW1, ← hD]; exact (Below.heap_alloc _ _ _ (by simp)).trans (World.alloc_heap_new w _)
  have hx1 : Ext w W1 := by rw [← hW1]; exact ((Below.refl _ w).alloc (Nat.le_refl _) _).alloc (by simp) _
  have hs1 : W1.heap.size = D + 2 := by rw [← hW1, World.size_alloc, World.size_alloc, hD]
  have h0w := hst.upd.size
  obtain ⟨J, hJ⟩ : ∃ J : List Nat → List α → World → Prop, J = fun C pre A => ∃ L, I pre L ∧ C = (D + 1) :: D :: fps L ∧ (∀ e ∈ L, e.holds A ∧ e.loc) ∧ L.Pairwise Ent.apart ∧ (∀ k ∈ fps L, k ≠ D + 1 ∧ k ≠ D) ∧ A.heap[D + 1]? = some (.loop (rec .ready)) ∧ A.heap[D]? = some (.deferred (some [])) := ⟨_, rfl⟩
  have hloc : ∀ C pre, (eJ J C pre).loc := fun C pre A B hk h => by
    subst hJ
    obtain ⟨L, h1, rfl, h2, h3, h4, h5, h6⟩ := h
    refine ⟨L, h1, rfl, fun e he => ⟨(h2 e he).2 A B (fun k hk' => hk k ?_) (h2 e he).1, (h2 e he).2⟩, h3, h4, (hk (D + 1) (by simp [eJ])).trans h5, (hk D (by simp [eJ])).trans h6⟩
    exact List.mem_cons_of_mem _ (List.mem_cons_of_mem _ (fps_mem.2 ⟨e, he, hk'⟩))
  have hC0 : ∀ k ∈ (D + 1) :: D :: fps L0, w0.heap.size ≤ k ∧ k < W1.heap.size := fun k hk => by
    rcases List.mem_cons.1 hk with rfl | hk
    · exact ⟨by omega, by omega⟩
    · rcases List.mem_cons.1 hk with rfl | hk
      · exact ⟨by omega, by omega⟩
      · have := hst.fps_own hk
        have h5 := this.1.resolve_left (by simp)
        exact ⟨h5, by omega⟩
  have hJ0 : J ((D + 1) :: D :: fps L0) [] W1 := by
    subst hJ
    refine ⟨L0, h0, rfl, fun e he => ⟨(hst.ok e he).loc w W1 (fun k hk => hx1.block ((hst.ok e he).own k hk).2) (hst.ok e he).holds, (hst.ok e he).loc⟩, hst.apart, fun k hk => ?_, hL1, hK1⟩
    have := (hst.fps_own hk).2
    exact ⟨by omega, by omega⟩
  refine ⟨D + 1, [{ target := .collected D, args := #[] }], W1, { target := .fn (.func gf) lb, args := #[.func (.yield (D + 1)) #[] #[]] }, W1, gf, #[.func (.yield (D + 1)) #[] #[]] ++ lb, W1, ?_, ?_, ?_, ?_, fun _ => by omega, ?_⟩
  · rw [← hW1, hrec, ← hD]; exact run_enterLoop_outer _ _ _ _ _
  · simp only [resolve, hg]
    simp [go_sem]
  · intro f' hf'; trivial
  · simp [invoke, go_sem, eg]
  · refine (hseq (D + 1) J W1 _ (hst.ext.trans hx1) hloc hC0 hJ0 ?_).mono ?_
    · intro C pre x A hj hlt hlen
      subst hJ
      obtain ⟨L, hi, rfl, hall, hap, hne, hl, hk⟩ := hj
      have hlA : D + 1 < A.heap.size := hlt _ (by simp)
      have hDA : D < A.heap.size := hlt _ (by simp)
      have hy := run_yield (P := P) (args := encs x) hl (by rw [hrec]; exact hps x)
      rw [hrec] at hy
      refine ⟨fn, _, assign, body, hy, roundIn_of_wpIn hfn ?_⟩
      rw [ht1 x]
      refine hassign _ x A _ fun a' A1 E1 hAx hE1 => ?_
      have hxA := hE1.ext
      have hl1 : A1.heap[D + 1]? = some (.loop (rec .ready)) := (hxA.block hlA).trans hl
      have hk1 : A1.heap[D]? = some (.deferred (some [])) := (hxA.block hDA).trans hk
      have hEo := hE1.ok E1 (by simp)
      have hEn : ∀ k ∈ E1.fp, A.heap.size ≤ k ∧ k < A1.heap.size := fun k hk' => ⟨(hEo.own k hk').1.resolve_left (by simp), (hEo.own k hk').2⟩
      have hsA1 := hxA.size
      refine ⟨_, run_beginRound hl1 (by rw [hrec]), ?_⟩
      obtain ⟨A2, hA2⟩ : ∃ A2, A1.putObj (D + 1) (.loop { rec .ready with state := .busy }) = A2 := ⟨_, rfl⟩
      have hsz : A2.heap.size = A1.heap.size := by rw [← hA2]; exact putObj_size _ _ _
      have hoth : ∀ k, k ≠ D + 1 → A2.heap[k]? = A1.heap[k]? := fun k hk' => by rw [← hA2]; exact World.putObj_heap_other hk'
      have hbusy : A2.heap[D + 1]? = some (.loop { rec .ready with state := .busy }) := by rw [← hA2]; exact World.putObj_heap_same (by omega)
      have hLlt : ∀ k ∈ fps L, k < A.heap.size := fun k hk' => hlt k (List.mem_cons_of_mem _ (List.mem_cons_of_mem _ hk'))
      have hst2 : St A2 (fps (L ++ [E1])) (L ++ [E1]) A2 := by
        refine ⟨Upd.refl _ _, fun e he => ?_, ?_⟩
        · have hin : ∀ k ∈ e.fp, k ∈ fps (L ++ [E1]) := fun k hk' => fps_mem.2 ⟨e, he, hk'⟩
          rcases List.mem_append.1 he with he | he
          · refine ⟨(hall e he).2 A A2 (fun k hk' => ?_) (hall e he).1, (hall e he).2, fun k hk' => ⟨.inl (hin k hk'), ?_⟩⟩
            · have h1 := fps_mem.2 ⟨e, he, hk'⟩
              exact (hoth k (hne k h1).1).trans (hxA.block (hLlt k h1))
            · have := hLlt k (fps_mem.2 ⟨e, he, hk'⟩); omega
          · rw [List.mem_singleton] at he
            subst he
            exact ⟨hEo.loc A1 A2 (fun k hk' => hoth k (by have := (hEn k hk').1; omega)) hEo.holds, hEo.loc, fun k hk' => ⟨.inl (hin k hk'), by have := (hEn k hk').2; omega⟩⟩
        · rw [List.pairwise_append]
          refine ⟨hap, List.pairwise_singleton _ _, fun a ha b hb k hk' hkb => ?_⟩
          rw [List.mem_singleton] at hb
          subst hb
          have h1 := hLlt k (fps_mem.2 ⟨a, ha, hk'⟩)
          have h2 := (hEn k hkb).1
          omega
      rw [hA2]
      have hfin : ∀ k ∈ fps (L ++ [E1]), k ∈ fps L ∨ A.heap.size ≤ k := fun k hk' => by
        obtain ⟨e, he, hke⟩ := fps_mem.1 hk'
        rcases List.mem_append.1 he with he | he
        · exact .inl (fps_mem.2 ⟨e, he, hke⟩)
        · rw [List.mem_singleton] at he; subst he; exact .inr (hEn k hke).1
      refine wpIn_mono (hbody _ pre x A2 L a' E1 hi hlen hAx hst2) ?_
      rintro e a W3 ⟨rfl, L', hi', hs'⟩
      have hno : ∀ m, m = D + 1 ∨ m = D → m ∉ fps (L ++ [E1]) := fun m hm hmm => by
        rcases hfin m hmm with h1 | h1
        · have := hne m h1; rcases hm with rfl | rfl <;> simp at this
        · omega
      have hl3 : W3.heap[D + 1]? = some (.loop { rec .ready with state := .busy }) := (hs'.upd.block _ (by omega) (hno _ (.inl rfl))).trans hbusy
      have hk3 : W3.heap[D]? = some (.deferred (some [])) := (hs'.upd.block _ (by omega) (hno _ (.inr rfl))).trans ((hoth D (by omega)).trans hk1)
      have hsz3 := hs'.upd.size
      have hne' : ∀ k ∈ fps L', k ≠ D + 1 ∧ k ≠ D := fun k hk' => by
        rcases (hs'.fps_own hk').1 with h1 | h1
        · rcases hfin k h1 with h2 | h2
          · exact hne k h2
          · exact ⟨by omega, by omega⟩
        · exact ⟨by omega, by omega⟩
      refine ⟨_, _, run_endRound none hl3, rfl, (D + 1) :: D :: fps L', ?_⟩
      have hupA : Upd ((D + 1) :: D :: fps L) A A2 := by rw [← hA2]; exact (Upd.mono (S := []) (Upd.of_ext hxA) (fun k _ hk' => by simp at hk')).putObj (.inl (List.mem_cons_self ..))
      have hup : Upd ((D + 1) :: D :: fps L) A W3 := hupA.join hs'.upd (fun i hi => by
        rcases hfin i hi with h1 | h1
        · exact Or.inl (List.mem_cons_of_mem _ (List.mem_cons_of_mem _ h1))
        · exact .inr h1)
      have h3l : D + 1 < W3.heap.size := by omega
      refine ⟨hup.putObj (.inl (by simp)), fun e he => ?_, List.pairwise_singleton _ _⟩
      rw [List.mem_singleton] at he
      subst he
      refine ⟨⟨L', hi', rfl, fun e he => ⟨(hs'.ok e he).loc W3 _ (fun k hk' => World.putObj_heap_other (hne' k (fps_mem.2 ⟨e, he, hk'⟩)).1) (hs'.ok e he).holds, (hs'.ok e he).loc⟩, hs'.apart, hne', ?_, ?_⟩, hloc _ _, fun k hk' => ?_⟩
      · rw [hrec]; exact World.putObj_heap_same h3l
      · exact (World.putObj_heap_other (by omega)).trans hk3
      · rw [putObj_size]
        have hk' : k ∈ (D + 1) :: D :: fps L' := hk'
        rcases List.mem_cons.1 hk' with rfl | hk'
        · exact ⟨.inl (by simp), h3l⟩
        · rcases List.mem_cons.1 hk' with rfl | hk'
          · exact ⟨.inl (by simp), by omega⟩
          · have h6 := hs'.fps_own hk'
            refine ⟨?_, h6.2⟩
            rcases h6.1 with h7 | h7
            · rcases hfin k h7 with h8 | h8
              · exact .inl (List.mem_cons_of_mem _ (List.mem_cons_of_mem _ h8))
              · exact .inr h8
            · exact .inr (by omega)
    · rintro e W2 ⟨⟨v, rfl⟩, C, xs, E, hs, hz⟩
      have hE := hs.ok E (by simp)
      have hjo := hs.ok (eJ J C xs) (by simp)
      have hap2 := List.pairwise_pair.1 hs.apart
      have hj := hjo.holds
      subst hJ
      obtain ⟨L, hi, rfl, hall, hap, hne, hl, hk⟩ := hj
      have hend := run_endLoop (P := P) hl (by rw [hrec]; simp)
      have hpend : (rec .ready).pending = none := by rw [hrec]
      rw [hpend] at hend
      refine ⟨none, _, hend, hdone D _ L xs E hi hz ?_⟩
      have hCo : ∀ k ∈ (D + 1) :: D :: fps L, (w0.heap.size ≤ k ∧ k < W2.heap.size) := fun k hk' => by
        have h5 := hjo.own k hk'
        refine ⟨?_, h5.2⟩
        rcases h5.1 with h6 | h6
        · exact (hC0 k h6).1
        · omega
      have hup : Upd [] w0 W2 := (Upd.of_ext (hst.ext.trans hx1)).join hs.upd (fun i hi => .inr (hC0 i hi).1)
      have hlA := (hCo (D + 1) (by simp)).2
      have hw0D : w0.heap.size ≤ D + 1 := by omega
      refine ⟨hup.putObj (.inr hw0D), fun e he => ?_, ?_⟩
      · rcases List.mem_append.1 he with he | he
        · refine ⟨(hall e he).2 W2 _ (fun k hk' => World.putObj_heap_other (hne k (fps_mem.2 ⟨e, he, hk'⟩)).1) (hall e he).1, (hall e he).2, fun k hk' => ?_⟩
          rw [putObj_size]
          have := hCo k (List.mem_cons_of_mem _ (List.mem_cons_of_mem _ (fps_mem.2 ⟨e, he, hk'⟩)))
          exact ⟨.inr this.1, this.2⟩
        · simp only [List.mem_cons, List.not_mem_nil, or_false] at he
          rcases he with rfl | rfl
          · refine ⟨hE.loc W2 _ (fun k hk' => World.putObj_heap_other fun e => ?_) hE.holds, hE.loc, fun k hk' => ?_⟩
            · subst e; exact hap2 (D + 1) (by simp [eJ]) hk'
            · rw [putObj_size]
              have h5 := hE.own k hk'
              refine ⟨.inr ?_, h5.2⟩
              rcases h5.1 with h6 | h6
              · exact (hC0 k h6).1
              · omega
          · refine ⟨(World.putObj_heap_other (by omega)).trans hk, eD_loc D, fun k hk' => ?_⟩
            have : k = D := by simpa [eDfr] using hk'
            subst this
            rw [putObj_size]
            exact ⟨.inr (by omega), by omega⟩
      · rw [List.pairwise_append, List.pairwise_pair]
        refine ⟨hap, fun k hk' hkD => ?_, fun a ha b hb k hk' hkb => ?_⟩
        · have : k = D := by simpa [eDfr] using hkD
          subst this
          exact hap2 k (by simp [eJ]) hk'
        · simp only [List.mem_cons, List.not_mem_nil, or_false] at hb
          have hkf : k ∈ fps L := fps_mem.2 ⟨a, ha, hk'⟩
          rcases hb with rfl | rfl
          · exact hap2 k (List.mem_cons_of_mem _ (List.mem_cons_of_mem _ hkf)) hkb
          · have : k = D := by simpa [eDfr] using hkb
            exact (hne k hkf).2 this
end
end Go.Proofs.Ytjlcoglmjldjbaa
namespace Go.Proofs.Ytjlcoglmjldjbaa
section
open Go.RowKit
set_option linter.unusedVariables false
set_option linter.unusedSimpArgs false
section
variable {P : Program} {o : Oper} {ρ : Operand → Value} {W : World}
theorem run_callY {c : Call} {x : Operand} {l : Nat} {args : Array Value} (h : o.op = .call c) (hcal : c.callee = .value x) (hx : ρ x = .func (.yield l) #[] #[]) (ha : c.args.map ρ = args) {r : Result Next} (hr : (Instr.yield l args).run P W = r) : (execOp ρ o).run P W = r := by
  subst hr
  unfold execOp; rw [h]
  simp only [resolve, hcal, hx, Deferred.ofValue, ha, Sem.run_bind, Sem.run_pure, Result.andThen_ok, invoke]
  simp
end
theorem wpOpsIn_val {P : Program} {ops : Array Oper} {Q : Exit → Act → World → Prop} {i : Nat} {rest : List Nat} {o : Oper} {t : List Value} {d0 : List Deferred} {W : World} {v : Value} {d : Tmp} {t' : List Value} (ho : ops[i]? = some o) (hg : o.guard = none) (hd : o.dst = some d) (hr : (execOp (Act.eval ⟨t.toArray, d0⟩) o).run P W = .ok (.value v) W) (ht : t.set d v = t') (h : wpOpsIn Fence.wide 2 P ops Q rest ⟨t'.toArray, d0⟩ W) : wpOpsIn Fence.wide 2 P ops Q (i :: rest) ⟨t.toArray, d0⟩ W := by
  unfold wpOpsIn
  simp only [ho]
  rw [if_pos (show Region.wanted o _ = true by unfold Region.wanted; rw [hg])]
  refine ⟨fun _ _ => trivial, ?_⟩
  show o.uponIn Fence.wide 2 P _ _ Q ((execOp (Act.eval ⟨t.toArray, d0⟩) o).run P W)
  rw [hr, Oper.uponIn_value, hd]
  show wpOpsIn Fence.wide 2 P ops Q rest ⟨t.toArray.setIfInBounds d v, d0⟩ W
  rw [List.setIfInBounds_toArray, ht]
  exact h
theorem wpOpsIn_yld {P : Program} {ops : Array Oper} {Q : Exit → Act → World → Prop} {i : Nat} {rest : List Nat} {o : Oper} {t : List Value} {d0 : List Deferred} {W : World} {d l : Nat} {t' : List Value} {args : Array Value} {R : Ending → World → Prop} (ho : ops[i]? = some o) (hg : o.guard = none) (hd : o.dst = some d)
    (hr : ∀ r, (Instr.yield l args).run P W = r → (execOp (Act.eval ⟨t.toArray, d0⟩) o).run P W = r) (hy : YieldAt Fence.wide 1 P l args W fun e B => e = .returned (.bool true) ∧ R e B) (ht : t.set d (.bool true) = t') (h : ∀ B, R (.returned (.bool true)) B → wpOpsIn Fence.wide 2 P ops Q rest ⟨t'.toArray, d0⟩ B) : wpOpsIn Fence.wide 2 P ops Q (i :: rest) ⟨t.toArray, d0⟩ W := by
  obtain ⟨fn, tmps, assign, body, h1, h2⟩ := hy
  unfold wpOpsIn
  simp only [ho]
  rw [if_pos (show Region.wanted o _ = true by unfold Region.wanted; rw [hg])]
  refine ⟨fun _ _ => trivial, ?_⟩
  show o.uponIn Fence.wide 2 P _ _ Q ((execOp (Act.eval ⟨t.toArray, d0⟩) o).run P W)
  rw [hr _ h1, Oper.uponIn_round]
  refine ⟨fun hh => by simp [Fence.wide] at hh, h2.mono ?_⟩
  rintro e B ⟨rfl, hB⟩
  show wpOpsIn Fence.wide 2 P ops Q rest (Act.put ⟨t.toArray, d0⟩ o.dst (.bool true)) B
  rw [hd]
  show wpOpsIn Fence.wide 2 P ops Q rest ⟨t.toArray.setIfInBounds d (.bool true), d0⟩ B
  rw [List.setIfInBounds_toArray, ht]
  exact h B hB
theorem wp_region4In {P : Program} {id : Nat} {o0 o1 o2 o3 : Oper} {Q : Exit → Act → World → Prop} {a : Act} {W : World} (h : wpOpsIn Fence.wide 2 P #[o0, o1, o2, o3] Q [0, 1, 2, 3] a W) : (Code.region id #[o0, o1, o2, o3] false).wp P Q a W :=
  (wpIn_wide (n := 2)).1 (wpIn_region h)
/-- a node as the iterator gives it -/
abbrev YnD := NoD × Int × Option Addr × Nat
def ynE (x : YnD) : Array Value := #[knV x.2.1 x.1 x.2.2.1 x.2.2.2]
def ynC (x : YnD) : List Value := [.int .i64 x.2.1, .int .i64 x.1.lv, .int .i64 x.1.right, .string x.1.high, .bool x.1.dead, .slice x.2.2.1 x.1.es.length x.2.2.2, .int .i64 (x.1.free : Int)]
def ynR (x : YnD) : Ent := eO 104 3 (.slice x.2.2.1 x.1.es.length x.2.2.2) x.1.es.length (x.1.es.flatMap enC)
/-- the one node of a level -/
def OneZ (pg : Int) (nd : NoD) (xs : List YnD) (E : Ent) : Prop := ∃ EA ec, xs = [(nd, pg, EA, ec)] ∧ E = ynR (nd, pg, EA, ec)
theorem yld_st {α : Type} {w A B : World} {bor C : List Nat} {L : List Ent} {J : List Nat → List α → World → Prop} {pre xs : List α} (h : St w bor (eJ J C pre :: L) A) {C' : List Nat} (hj : St A C [eJ J C' xs] B) : St w bor (eJ J C' xs :: L) B := by
  have hC := h.ok (eJ J C pre) (List.mem_cons_self ..)
  have hp := List.pairwise_cons.1 h.apart
  have hN := hj.ok (eJ J C' xs) (by simp)
  refine ⟨h.upd.join hj.upd (fun i hi => (hC.own i hi).1), fun e he => ?_, List.pairwise_cons.2 ⟨fun e he k hk hke => ?_, hp.2⟩⟩
  · rcases List.mem_cons.1 he with rfl | he
    · refine ⟨hN.holds, hN.loc, fun k hk => ⟨?_, (hN.own k hk).2⟩⟩
      rcases (hN.own k hk).1 with h1 | h1
      · exact (hC.own k h1).1
      · exact .inr (Nat.le_trans h.upd.size h1)
    · have h2 := h.ok e (List.mem_cons_of_mem _ he)
      exact h2.keep hj.upd (fun k hk hkC => hp.1 e he k hkC hk)
  · have h2 := h.ok e (List.mem_cons_of_mem _ he)
    rcases (hN.own k hk).1 with h1 | h1
    · exact hp.1 e he k h1 hke
    · have := (h2.own k hke).2; omega
set_option maxRecDepth 100000 in
set_option maxHeartbeats 2000000 in
theorem krow1_in (l : Nat) (b1 b2 b3 : Nat) (tt : TypeId) (tv : Value) (root lv : Int) (ps : List PgS) (nd : NoD) (w0 : World) (J : List Nat → List YnD → World → Prop) (C0 : List Nat) (w : World) (hx0 : ∀ A, Upd C0 w A → Ext w0 A) (h1 : Blk w0 b1 113 #[.iface tt tv]) (h2 : Blk w0 b2 3 #[.int .i64 root]) (h3 : Blk w0 b3 3 #[.int .i64 lv]) (hS : PgsOk w0 tt tv ps) (hok : OkS ps) (hoc : OkC ps) (hnd : ndAt ps root = some nd) (hlv : nd.lv = lv) (hno : ndAt ps nd.right = none) (hloc : ∀ C pre, (eJ J C pre).loc) (hlt : ∀ k ∈ C0, k < w.heap.size) (hJ0 : J C0 [] w) (hY : ∀ C pre x A, J C pre A → (∀ k ∈ C, k < A.heap.size) → pre.length < 1 → YieldAt Fence.wide 1 Try.prog l (ynE x) A fun e B => e = .returned (.bool true) ∧ ∃ C', St A C [eJ J C' (pre ++ [x])] B) :
    Calls Try.prog 99 #[.func (.yield l) #[] #[], .pointer (some ⟨b1, 0, none⟩), .pointer (some ⟨b2, 0, none⟩), .pointer (some ⟨b3, 0, none⟩)] w ((fun w (e : Ending) (B : World) => (∃ v, e = .returned v) ∧ ∃ C xs E, St w C0 [eJ J C xs, E] B ∧ OneZ root nd xs E) w) := by
  have st0 : St w C0 [eJ J C0 []] w := St.lend (E := eJ J C0 []) hJ0 (hloc _ _) hlt
  go_enter Try.func99, Try.ntmps99
  have hst0 := st0
  refine wp_seq (sqr ?_)
  refine sql (.iface tt (tv)) hst0 (fun cx => run_load1 rfl (by kernel_rfl) (cx.ou 1) ((Blk.ext h1 (hx0 _ cx.upd)).cell 0)) ?_
  refine sql (vi root) hst0 (fun cx => run_load1 rfl (by kernel_rfl) (cx.ou 2) ((Blk.ext h2 (hx0 _ cx.upd)).cell 0)) ?_
  refine sqk2 (fun EA11_3 ec11_3 => .tuple #[.agg #[vi root, vi nd.lv, vi nd.right, .string nd.high, .bool nd.dead, .slice EA11_3 nd.es.length ec11_3, vi ((nd.free : Int))], .bool true]) (fun EA11_3 ec11_3 => eO 104 3 (.slice EA11_3 nd.es.length ec11_3) nd.es.length (nd.es.flatMap enC)) hst0 (fun cx => ⟨_, (kd_yes hnd (kat_any _ _ ps root _ (hS.ext (hx0 _ cx.upd)) hok hoc)).mono (by rintro e W1 ⟨EA4, ec4, rfl, hs4⟩; exact ⟨_, _, rfl, hs4⟩), (map2 (cx.ou 9) (cx.ou 10))⟩) fun EA11_3 ec11_3 W3 hst3 => ?_
  refine sqp [.m 8 11, .k 12 (.agg #[vi root, vi nd.lv, vi nd.right, .string nd.high, .bool nd.dead, .slice EA11_3 nd.es.length ec11_3, vi ((nd.free : Int))]), .k 13 (.bool true)] ?_
  refine sqal #[vi 0, vi 0, vi 0, .string ByteArray.empty, .bool false, .slice none 0 0, vi 0] hst3 fun B5_7 W7 hst7 => ?_
  refine sqst (n := 7) 2 #[vi root, vi nd.lv, vi nd.right, .string nd.high, .bool nd.dead, .slice EA11_3 nd.es.length ec11_3, vi ((nd.free : Int))] hst7 fun W8 hst8 => ?_
  refine sqp [.k 6 (.bool true)] ?_
  refine then_normal (wp_seq (sqr (sqp [.k 7 (vi 1)] ?_)))
  refine then_normal (wp_seq (wp_block ?_))
  refine wp_loopT (fun t_ mz az W => True ∧ mz = 0 ∧ az = ⟨(ovr (jv az) [(14, 14, 29, [])] t_).toArray, []⟩ ∧ St w C0 [eJ J C0 [], eO 104 3 (.slice EA11_3 nd.es.length ec11_3) nd.es.length (nd.es.flatMap enC), eB B5_7 116 #[vi root, vi nd.lv, vi nd.right, .string nd.high, .bool nd.dead, .slice EA11_3 nd.es.length ec11_3, vi ((nd.free : Int))]] W) (0) ?_ ?_
  · -- the loop begins
    exact ⟨trivial, rfl, (by kernel_rfl), hst8.pk [0, 1, 2]⟩
  rintro n11 a11 W11 ⟨-, rfl, hj_, hst11⟩
  refine ovz hj_ fun u11_ => ?_
  refine wp_seq (wp_seq (sqr (sqp [.k 14 (.bool true), .k 15 (.bool true)] ?_)))
  refine sqgy 15 [16, 17, 18, 19] rfl rfl ?_
  refine sqp [.k 16 (.pointer (some ⟨B5_7, 1, none⟩))] ?_
  refine sqld 2 hst11 ?_
  refine sql (vi lv) hst11 (fun cx => run_load1 rfl (by kernel_rfl) (cx.ou 3) ((Blk.ext h3 (hx0 _ cx.upd)).cell 0)) ?_
  have hd18 : (decide (lv < nd.lv)) = false := (decide_eq_false (by omega))
  refine sqp [.e 19 (.bool (decide (lv < nd.lv))) (.bool false) (congrArg Value.bool hd18)] ?_
  refine sqp [.k 20 (.bool false), .k 21 (.bool false)] ?_
  refine sqgn 21 [22, 23, 24, 25] rfl rfl ?_
  refine sqp [.k 26 (.bool false), .k 27 (.bool false)] ?_
  refine sqgn 27 [28, 29] rfl rfl ?_
  refine sqp [.k 30 (.bool false)] ?_
  refine then_normal (wcf rfl (wp_exit (then_exit (then_exit (blk_eq (then_normal (wp_seq (wp_seq (sqr (sqp [.k 43 (.bool true), .k 44 (.bool false), .k 45 (.bool false)] ?_))))))))))
  refine sqgy 45 [46, 47, 48, 49] rfl rfl ?_
  refine sqp [.k 46 (.pointer (some ⟨B5_7, 1, none⟩))] ?_
  refine sqld 2 hst11 ?_
  refine sql (vi lv) hst11 (fun cx => run_load1 rfl (by kernel_rfl) (cx.ou 3) ((Blk.ext h3 (hx0 _ cx.upd)).cell 0)) ?_
  have hd31 : (nd.lv != lv) = false := (by rw [bne_eq_false_iff_eq]; exact hlv)
  refine sqp [.e 49 (.bool (nd.lv != lv)) (.bool false) (congrArg Value.bool hd31)] ?_
  refine sqp [.k 50 (.bool false)] ?_
  refine then_normal (wcf rfl (wp_skip (then_normal (wp_seq (sqr (sqp [.k 51 (vi 0)] ?_))))))
  refine then_normal (wp_block ?_)
  refine wp_loopT (fun t_ mz az W => True ∧ mz = 0 ∧ az = ⟨(ovr (jv az) [(52, 52, 21, [])] t_).toArray, []⟩ ∧ St w C0 [eJ J C0 [], eO 104 3 (.slice EA11_3 nd.es.length ec11_3) nd.es.length (nd.es.flatMap enC), eB B5_7 116 #[vi root, vi nd.lv, vi nd.right, .string nd.high, .bool nd.dead, .slice EA11_3 nd.es.length ec11_3, vi ((nd.free : Int))]] W) (0) ?_ ?_
  · -- the loop begins
    exact ⟨trivial, rfl, (by kernel_rfl), hst11.pk [0, 1, 2]⟩
  rintro n34 a34 W34 ⟨-, rfl, hj_, hst34⟩
  refine ovz hj_ fun u34_ => ?_
  refine wp_seq (sqr (sqp [.k 52 (.bool true)] ?_))
  refine then_normal (wp_seq (wct rfl (wp_skip (then_normal (wp_seq (wp_block (wp_seq (wp_seq ?_))))))))
  have hyb_ := hst34.blk 2 rfl
  have hjj_ := hst34.get 0 rfl
  have hyy_ := hY C0 [] (nd, root, EA11_3, ec11_3) _ hjj_.holds (fun k hk => (hjj_.own k hk).2) (by decide)
  refine wp_region4In (wpOpsIn_val rfl rfl rfl (run_move' rfl rfl) rfl (wpOpsIn_val rfl rfl rfl (run_loadB (n := 7) rfl (by kernel_rfl) (by kernel_rfl) rfl hyb_ (nle rfl) rfl) rfl (wpOpsIn_yld (args := ynE (nd, root, EA11_3, ec11_3)) (R := fun _ B => ∃ C', St _ C0 [eJ J C' ([] ++ [(nd, root, EA11_3, ec11_3)])] B) rfl rfl rfl (fun r hr => run_callY rfl rfl rfl (map1 rfl) hr) hyy_ rfl fun W36 ⟨C2, hJ2⟩ => ?_)))
  have hup_ := hJ2.upd
  have hst36 := yld_st (L := [eO 104 3 (.slice EA11_3 nd.es.length ec11_3) nd.es.length (nd.es.flatMap enC), eB B5_7 116 #[vi root, vi nd.lv, vi nd.right, .string nd.high, .bool nd.dead, .slice EA11_3 nd.es.length ec11_3, vi ((nd.free : Int))]]) (hst34.pick [0, 1, 2] (by decide) rfl) hJ2
  refine wpOpsIn_val rfl rfl rfl (run_not rfl rfl rfl) rfl ?_
  unfold wpOpsIn
  refine then_normal (wcf rfl (wp_skip (then_normal (wp_seq (wp_region_Y [0, 0, 2, 7, 15, 31, 31, 63, 255] [[], [], [2], [], [], [], [], [2]] [[], [], [], [], [], [], [], [3]] [[], [], [], [], [], [], [], [2]] [.c 58 (.iface tt (tv)), .k 59 (.pointer (some ⟨B5_7, 2, none⟩)), .c 60 (vi nd.right), .a 61, .a 57, .a 62, .c 63 (.bool false), .n, .k 6 (.bool false)] (fun ix σ β X => match ix with | 0 => True | 1 => True | 2 => True | 3 => σ 61 = .tuple #[.agg #[vi (iv (tg (tg (β 61) 0) 0)), vi 0, vi 0, .string ((⟨#[]⟩ : ByteArray)), .bool false, .slice none 0 0, vi 0], .bool false] | 4 => σ 57 = .tuple #[.agg #[vi (iv (tg (tg (β 61) 0) 0)), vi 0, vi 0, .string ((⟨#[]⟩ : ByteArray)), .bool false, .slice none 0 0, vi 0], .bool false] | 5 => σ 62 = .agg #[vi (iv (tg (tg (β 61) 0) 0)), vi 0, vi 0, .string ((⟨#[]⟩ : ByteArray)), .bool false, .slice none 0 0, vi 0] | 6 => True | 7 => X 3 = eB B5_7 116 #[vi (iv (tg (tg (β 61) 0) 0)), vi 0, vi 0, .string ((⟨#[]⟩ : ByteArray)), .bool false, .slice none 0 0, vi 0] | _ => True) [0, 1, 3] [0, 2, 3, 4, 5, 6, 7] [(6, 8, 1, 7), (50, 4, 1, 51), (0, 0, 4, 4), (0, 5, 2, 2)] hst36 ?_ ?_ ?_)))))
  · exact fun ix _ _ _ _ _ _ hs hb hx h => match ix, h with
    | 3, h => by dsimp only; rw [← hs 61 rfl, ← hb 61 rfl]; exact h
    | 4, h => by dsimp only; rw [← hs 57 rfl, ← hb 61 rfl]; exact h
    | 5, h => by dsimp only; rw [← hs 62 rfl, ← hb 61 rfl]; exact h
    | 7, h => by dsimp only; rw [← hb 61 rfl, ← hx 3 rfl]; exact h
    | 0, _ | 1, _ | 2, _ | 6, _ | _ + 8, _ => trivial
  · refine ⟨?_, ?_, ?_, ?_, ?_, ?_, ?_, trivial⟩
    · exact xs4 rfl id fun cx => run_load1 rfl (by kernel_rfl) (cx.ou 1) ((Blk.ext h1 (hx0 _ cx.upd)).cell 0)
    · exact xs4 rfl id fun cx => run_load1 rfl (by kernel_rfl) (cx.an 1) ((cx.bi 2 rfl).cell 2)
    · refine svA fun ρ β W X cx => ?_
      refine DoesU.call (run_callF (args := #[.iface tt (tv), vi nd.right]) rfl cx.sees rfl (by kernel_rfl) (map2 (cx.an 0) (cx.an 2))) ?_
      refine (kd_no hno (kat_any _ _ ps nd.right _ (hS.ext (hx0 _ cx.upd)) hok hoc)).mono ?_
      rintro e W1 ⟨p4, rfl, hx⟩
      refine ⟨_, rfl, post_call [] rfl rfl hx (by simp) List.Pairwise.nil (fun σ β' X' hs hb hv hN => ?_)⟩
      have hv1 := (hv 61 rfl).1; have hv2 := (hv 61 rfl).2
      exact hv1.trans (by rw [hv2]; rfl)
    · exact sv rfl rfl rfl rfl rfl _ (fun _ _ _ h => h) (fun β β' h => by rw [h 61 (by decide)]) fun ρ β W X cx => run_move' rfl (dTn (cx.an 3))
    · exact sv rfl rfl rfl rfl rfl _ (fun _ _ _ h => h) (fun β β' h => by rw [h 61 (by decide)]) fun ρ β W X cx => run_extract' rfl (dTn (cx.an 4)) rfl
    · exact xs4 rfl id fun cx => run_extract' rfl (dTn (cx.an 4)) rfl
    · refine svA fun ρ β W X cx => ?_
      exact dv_store (n := 7) rfl (cx.ou 5) (dTn (cx.an 5)) (by kernel_rfl) (by kernel_rfl) (by kernel_rfl) cx (cx.init 2 _ rfl) rfl (nle rfl) (by kernel_rfl) rfl rfl rfl (fun σ β' X' hs hb hx => by rw [hb 61]; exact hx)
  intro σ β X W37 hD hst37 fr hfr
  obtain ⟨pg61_37, hu_pg61_37⟩ : ∃ z, iv (tg (tg (β 61) 0) 0) = z := ⟨_, rfl⟩
  simp only [exq 3 ((dTn (hD 7 lq))), hu_pg61_37] at hst37
  simp only [ed 61 ((dTn (hD 3 lq))), ed 57 ((dTn (hD 4 lq))), ed 62 ((dTn (hD 5 lq))), hu_pg61_37] at hfr
  clear hD hu_pg61_37; subst hfr; clear σ β X
  refine then_normal (wp_seq (sqr (sqp [.k 64 (.bool false), .k 65 (.bool true), .k 66 (.bool true)] ?_)))
  refine sqgn 66 [67, 68, 69, 70] rfl rfl ?_
  refine sqp [.k 71 (.bool true)] ?_
  refine then_normal (wct rfl (wp_ret (blk_ret (then_ret (then_ret (blk_ret ?_))))))
  refine bpr (.tuple #[]) (by simp [results, Try.results99, go_sem]) ?_
  exact ⟨⟨_, rfl⟩, C2, _, _, hst37.pick [0, 1] (by decide) rfl, EA11_3, ec11_3, rfl, rfl⟩
theorem krow_seq {b1 b2 b3 : Nat} {tt : TypeId} {tv : Value} {root lv : Int} {ps : List PgS} {nd : NoD} {w0 : World} (h1 : Blk w0 b1 113 #[.iface tt tv]) (h2 : Blk w0 b2 3 #[.int .i64 root]) (h3 : Blk w0 b3 3 #[.int .i64 lv]) (hS : PgsOk w0 tt tv ps) (hok : OkS ps) (hoc : OkC ps) (hnd : ndAt ps root = some nd) (hlv : nd.lv = lv) (hno : ndAt ps nd.right = none) :
    SeqF Try.prog 99 #[.pointer (some ⟨b1, 0, none⟩), .pointer (some ⟨b2, 0, none⟩), .pointer (some ⟨b3, 0, none⟩)] ynE 1 (OneZ root nd) w0 := fun l J W C0 hx hloc hC0 hJ0 hY =>
  callsIn_wide.2 (krow1_in l b1 b2 b3 tt tv root lv ps nd w0 J C0 W (fun A hA => (Upd.join (Upd.of_ext (S := []) hx) hA (fun i hi => .inr (hC0 i hi).1)).to_ext) h1 h2 h3 hS hok hoc hnd hlv hno hloc (fun k hk => (hC0 k hk).2) hJ0 hY)
end
end Go.Proofs.Ytjlcoglmjldjbaa

/- TreeBytesRow: part 3 of the proof. -/
import Derived.Test.YtjlcoglmjldjbaaZ2
import Derived.RangeFuncBox
import Derived.RangeFuncBound
import Derived.RangeFuncCalls
import Derived.RangeFuncLeaves
import Derived.TacticsIn
import Derived.OrdersIn
import Derived.LoopNIn
set_option linter.unusedVariables false
set_option linter.unusedSimpArgs false
namespace Go.Proofs.Ytjlcoglmjldjbaa
section
open Go.RowKit
set_option linter.unusedVariables false
set_option linter.unusedSimpArgs false
def iv : Value → Int
  | .int _ n => n
  | _ => 0
/-- a page as it lies in a row of pages -/
structure PgT where
  k : Int
  l : Int
  A : Option Addr
  c : Nat
  its : List ByteArray
def pt0 : PgT := ⟨0, 0, none, 0, []⟩
def ptC (p : PgT) : List Value := [.int .i64 p.k, .int .i64 p.l, .slice p.A p.its.length p.c]
theorem ptC_len (p : PgT) : (ptC p).length = 3 := rfl
def abT (p : PgT) : PgS := (p.k, p.l, p.its)
structure BkO (W : World) (b : Nat) (LA : Option Addr) (lc n : Nat) (Ps : List PgT) : Prop where
  blk : Blk W b 64 #[.slice LA n lc]
  at_ : At W LA (Ps.flatMap ptC)
  len : Ps.length = n
  its : ∀ p ∈ Ps, At W p.A (p.its.map Value.string)
def BkAt (W : World) (b : Nat) (ps : List PgS) : Prop := ∃ LA lc Ps, Ps.map abT = ps ∧ BkO W b LA lc ps.length Ps
theorem BkO.ext {W W' : World} {b lc n : Nat} {LA : Option Addr} {Ps : List PgT} (h : BkO W b LA lc n Ps) (hx : Ext W W') : BkO W' b LA lc n Ps := ⟨h.blk.ext hx, h.at_.ext hx, h.len, fun p hp => (h.its p hp).ext hx⟩
/-- sizes: of lists and strings; entries in a page -/
structure OkS (ps : List PgS) : Prop where
  len : ps.length ≤ 1000
  its : ∀ p ∈ ps, p.2.2.length ≤ 101
  sz : ∀ p ∈ ps, ∀ s ∈ p.2.2, s.size ≤ 900000
def OkC (ps : List PgS) : Prop := ∀ p ∈ ps, (rawE 1 p.2.2.tail).length ≤ 19
/-- what Page answers -/
def pgV (ps : List PgS) (n : Int) : PgS := if 0 ≤ n ∧ n < ps.length then ps.getD n.toNat pgs0 else pgs0
def pgB (ps : List PgS) (n : Int) : Bool := decide (0 ≤ n ∧ n < ps.length)
def pgT (ps : List PgS) (n : Int) (A : Option Addr) (c : Nat) : Value := .tuple #[.agg #[.int .i64 (pgV ps n).1, .int .i64 (pgV ps n).2.1, .slice A (pgV ps n).2.2.length c], .bool (pgB ps n)]
def pgR (Ps : List PgT) (n : Int) : PgT := if 0 ≤ n ∧ n < Ps.length then Ps.getD n.toNat pt0 else pt0
theorem getD_mem' {α : Type} {l : List α} {n : Nat} {d : α} (h : n < l.length) : l[n]? = some (l.getD n d) ∧ l.getD n d ∈ l := by
  rw [List.getD_eq_getElem?_getD, List.getElem?_eq_getElem h]
  exact ⟨rfl, List.getElem_mem _⟩
theorem getD_abT (Ps : List PgT) (n : Nat) : (Ps.map abT).getD n pgs0 = abT (Ps.getD n pt0) := by
  rw [List.getD_eq_getElem?_getD, List.getD_eq_getElem?_getD, List.getElem?_map]
  cases Ps[n]? <;> rfl
theorem pgV_ok {ps : List PgS} (h : OkS ps) (n : Int) : (pgV ps n).2.2.length ≤ 101 ∧ ∀ s ∈ (pgV ps n).2.2, s.size ≤ 900000 := by
  unfold pgV
  split
  · rename_i hn
    have h1 := (getD_mem' (l := ps) (n := n.toNat) (d := pgs0) (by omega)).2
    exact ⟨h.its _ h1, h.sz _ h1⟩
  · exact ⟨by decide, fun s hs => nomatch hs⟩
theorem pgV_c {ps : List PgS} (h : OkC ps) (n : Int) : (rawE 1 (pgV ps n).2.2.tail).length ≤ 19 := by
  unfold pgV
  split
  · rename_i hn
    exact h _ (getD_mem' (l := ps) (n := n.toNat) (d := pgs0) (by omega)).2
  · exact Nat.zero_le _
theorem ndAt_pg (ps : List PgS) (n : Int) : ndAt ps n = if pgB ps n then nodF (pgV ps n).1 (pgV ps n).2.2 else none := by
  unfold ndAt pgB pgV
  by_cases h : 0 ≤ n ∧ n < ps.length
  · rw [if_pos h, if_pos h, if_pos (decide_eq_true h)]
  · rw [if_neg h, if_neg (by simpa using h)]
/-- what a value behind api.Pages answers -/
structure PgsOk (w : World) (tt : TypeId) (tv : Value) (ps : List PgS) : Prop where
  ex : ∃ f rv, Meth Try.prog tt tv "Page" f rv ∧ callP Try.prog f = true ∧ ∀ n, ∃ A c, At w A ((pgV ps n).2.2.map Value.string) ∧ ∀ W, Ext w W → Calls Try.prog f #[rv, .int .i64 n] W (Ret (pgT ps n A c) W)
theorem PgsOk.ext {w W : World} {tt : TypeId} {tv : Value} {ps : List PgS} (h : PgsOk w tt tv ps) (hx : Ext w W) : PgsOk W tt tv ps := by
  obtain ⟨f, rv, h1, h2, h3⟩ := h.ex
  exact ⟨⟨f, rv, h1, h2, fun n => let ⟨A, c, h4, h5⟩ := h3 n; ⟨A, c, h4.ext hx, fun W' hx' => h5 W' (hx.trans hx')⟩⟩⟩
theorem nd_no {f : FuncId} {args : Array Value} {w : World} {o : Option NoD} (h : o = none) (hc : Calls Try.prog f args w (NdPost o w)) : Calls Try.prog f args w (Ret nd0 w) := by subst h; exact hc
theorem nd_yes {f : FuncId} {args : Array Value} {w : World} {o : Option NoD} {n : NoD} (h : o = some n) (hc : Calls Try.prog f args w (NdPost o w)) : Calls Try.prog f args w (NdPost (some n) w) := h ▸ hc
theorem kd_no {f : FuncId} {args : Array Value} {w : World} {pg : Int} {o : Option NoD} (h : o = none) (hc : Calls Try.prog f args w (KdPost pg o w)) : Calls Try.prog f args w (KdPost pg none w) := h ▸ hc
theorem kd_yes {f : FuncId} {args : Array Value} {w : World} {pg : Int} {o : Option NoD} {n : NoD} (h : o = some n) (hc : Calls Try.prog f args w (KdPost pg o w)) : Calls Try.prog f args w (KdPost pg (some n) w) := h ▸ hc
theorem pg_none {Ps : List PgT} {x : Int} (h : x < 0 ∨ Ps.length ≤ x) : pgT (Ps.map abT) x (pgR Ps x).A (pgR Ps x).c = .tuple #[.agg #[.int .i64 0, .int .i64 0, .slice none 0 0], .bool false] := by
  have e1 : pgV (Ps.map abT) x = pgs0 := by rw [pgV, if_neg (by rw [List.length_map]; omega)]
  have e2 : pgB (Ps.map abT) x = false := decide_eq_false (by rw [List.length_map]; omega)
  have e3 : pgR Ps x = pt0 := by rw [pgR, if_neg (by omega)]
  rw [pgT, e1, e2, e3]; rfl
theorem pg_at {Ps : List PgT} {N : Nat} {p : PgT} (h : N < Ps.length) (hp : Ps.getD N pt0 = p) : pgV (Ps.map abT) (N : Int) = abT p ∧ pgR Ps (N : Int) = p := by
  refine ⟨?_, by rw [pgR, if_pos (by omega)]; exact hp⟩
  rw [pgV, if_pos (by rw [List.length_map]; omega)]
  show (Ps.map abT).getD N pgs0 = _
  rw [getD_abT, hp]
theorem pg_some {Ps : List PgT} {N : Nat} {p : PgT} (h : N < Ps.length) (hp : Ps.getD N pt0 = p) : pgT (Ps.map abT) (N : Int) (pgR Ps (N : Int)).A (pgR Ps (N : Int)).c = .tuple #[.agg #[.int .i64 p.k, .int .i64 p.l, .slice p.A p.its.length p.c], .bool true] := by
  have e2 : pgB (Ps.map abT) (N : Int) = true := decide_eq_true (by rw [List.length_map]; omega)
  obtain ⟨e1, e3⟩ := pg_at h hp
  rw [pgT, e1, e2, e3]; rfl
set_option maxRecDepth 100000 in
set_option maxHeartbeats 2000000 in
theorem rpage_o (b : Nat) (LA : Option Addr) (lc n : Nat) (Ps : List PgT) (ps : List PgS) (x : Int) (w : World) (hB : BkO w b LA lc n Ps) (hps : Ps.map abT = ps) (hl : n ≤ 1000) :
    Calls Try.prog 58 #[.pointer (some ⟨b, 0, none⟩), .int .i64 x] w (Ret (pgT ps x (pgR Ps x).A (pgR Ps x).c) w) := by
  have hPl := hB.len
  go_enter Try.func58, Try.ntmps58
  have hst0 := St.start w
  refine wp_seq (sqr (sqal #[vi 0, vi 0, .slice none 0 0] hst0 fun B4_1 W1 hst1 => ?_))
  refine sqp [.k 5 (.bool false)] ?_
  refine then_normal (wp_seq (wp_seq (sqr (sqp [.m 6 1, .k 7 (.bool (decide (x < 0))), .m 8 7] ?_))))
  refine sqw' 8 [9, 10, 11, 12, 13, 14, 15] ?_ rfl (fun hq => ?_) ?_
  rotate_left
  · refine sqp [.m 9 1, .m 10 0, .k 11 (vp b), .k 12 (vp b)] ?_
    refine sql (.slice LA n lc) hst1 (fun cx => run_load1 rfl (by kernel_rfl) (cx.ou 12) ((Blk.ext hB.blk cx.upd.to_ext).cell 0)) ?_
    refine sqp [.k 14 (vi ((n : Int))), .k 15 (.bool (decide ((n : Int) ≤ x)))] ?_
    exact sqe
  refine sqwx ?_
  refine sqp [sPo 16 (decide (x < 0)) (decide ((n : Int) ≤ x))] ?_
  refine then_normal (wbs (fun hs14 => ?_) fun hs14 => ?_)
  · have hs14p := hs14
    simp only [zB] at hs14p
    refine wp_seq (sqr (sqp [.k 17 (.agg #[vi 0, vi 0, .slice none 0 0])] ?_))
    refine sqst (n := 3) 0 #[vi 0, vi 0, .slice none 0 0] hst1 fun W16 hst16 => ?_
    refine sqp [.k 5 (.bool false)] ?_
    refine then_normal (wp_ret (then_ret ?_))
    refine bpr (.tuple #[.agg #[vi 0, vi 0, .slice none 0 0], .bool false]) (results_2 Try.results58 (rpa (hst16.blk 0 rfl) 0 3) rpt) ?_
    exact Ret.of (by rw [← hps, pg_none (Ps := Ps) (x := x) (by omega)]) hst16.ext
  have hs14p := hs14
  simp only [zB] at hs14p
  obtain ⟨hs14p1, hs14p2⟩ := hs14p
  refine wp_skip (then_normal (wp_seq ?_))
  obtain ⟨N, rfl⟩ : ∃ N : Nat, x = (N : Int) := ⟨x.toNat, by omega⟩
  obtain ⟨p, hN_p⟩ : ∃ z, Ps.getD N pt0 = z := ⟨_, rfl⟩
  have hp := getD_mem' (l := Ps) (n := N) (d := pt0) (by omega)
  rw [hN_p] at hp
  refine sqr (sqp [.m 18 0, .k 19 (vp b), .k 20 (vp b)] ?_)
  refine sql (.slice LA n lc) hst1 (fun cx => run_load1 rfl (by kernel_rfl) (cx.ou 20) ((Blk.ext hB.blk cx.upd.to_ext).cell 0)) ?_
  refine sqp [.m 22 1] ?_
  refine sql (.pointer (some ((ad LA).add (N * 3)))) hst1 (fun cx => run_indexSlM (e := 51) (m := N) (sz := 3) rfl (by kernel_rfl) (by kernel_rfl) (cx.ou 21) (cx.ou 22) (by omega) (by omega) (hB.at_.ext cx.upd.to_ext) (flatPos (sz := 3) ptC_len (by decide) (by omega))) ?_
  refine sql (.agg #[vi p.k, vi p.l, .slice p.A p.its.length p.c]) hst1 (fun cx => run_loadElt (f := ptC) (m := N) (sz := 3) (off := 0) (n := 3) rfl (by kernel_rfl) (by kernel_rfl) (cx.ou 23) rfl ptC_len (hB.at_.ext cx.upd.to_ext) hp.1 (fun k hk => match k, hk with | 0, _ => rfl | 1, _ => rfl | 2, _ => rfl | k + 3, hk => absurd hk (by omega))) ?_
  refine sqst (n := 3) 0 #[vi p.k, vi p.l, .slice p.A p.its.length p.c] hst1 fun W25 hst25 => ?_
  refine sqp [.k 5 (.bool true)] ?_
  refine then_normal (wp_ret ?_)
  refine bpr (.tuple #[.agg #[vi p.k, vi p.l, .slice p.A p.its.length p.c], .bool true]) (results_2 Try.results58 (rpa (hst25.blk 0 rfl) 0 3) rpt) ?_
  exact Ret.of (by rw [← hps, pg_some (by omega) hN_p]) hst25.ext
theorem rpage_any (b : Nat) (ps : List PgS) (x : Int) (w : World) (hB : BkAt w b ps) (hl : ps.length ≤ 1000) : ∃ A c, At w A ((pgV ps x).2.2.map Value.string) ∧ ∀ W, Ext w W → Calls Try.prog 58 #[.pointer (some ⟨b, 0, none⟩), .int .i64 x] W (Ret (pgT ps x A c) W) := by
  obtain ⟨LA, lc, Ps, h1, h2⟩ := hB
  refine ⟨(pgR Ps x).A, (pgR Ps x).c, ?_, fun W hW => rpage_o b LA lc _ Ps ps x W (h2.ext hW) h1 hl⟩
  by_cases h : 0 ≤ x ∧ x < Ps.length
  · obtain ⟨N, rfl⟩ : ∃ N : Nat, x = (N : Int) := ⟨x.toNat, by omega⟩
    obtain ⟨e1, e3⟩ := pg_at (Ps := Ps) (N := N) (by omega) rfl
    rw [← h1, e1, e3]
    exact h2.its _ (getD_mem' (by omega)).2
  · have e1 : pgV ps x = pgs0 := by rw [← h1, pgV, if_neg (by rw [List.length_map]; exact h)]
    rw [e1]; exact At.nil _ _
set_option maxRecDepth 100000 in
set_option maxHeartbeats 2000000 in
theorem kat_any (tt : TypeId) (tv : Value) (ps : List PgS) (x : Int) (w : World) (hS : PgsOk w tt tv ps) (hok : OkS ps) (hoc : OkC ps) :
    Calls Try.prog 47 #[.iface tt (tv), .int .i64 x] w (KdPost x (ndAt ps x) w) := by
  have hvk := pgV_ok hok x
  have hvc := pgV_c hoc x
  obtain ⟨f0, rv, hm0, hf0, hc1⟩ := hS.ex
  obtain ⟨A, c, hA, hc0⟩ := hc1 x
  go_enter Try.func47, Try.ntmps47
  have hst0 := St.start w
  refine wp_seq (sqr (sqal #[vi 0, vi 0, vi 0, .string ByteArray.empty, .bool false, .slice none 0 0, vi 0] hst0 fun B4_1 W1 hst1 => ?_))
  refine sqp [.k 5 (.bool false)] ?_
  refine then_normal (wp_seq (sqr (sqp [.m 10 0, .m 11 1] ?_)))
  refine sqv (.tuple #[.agg #[vi ((pgV ps x).1), vi ((pgV ps x).2.1), .slice A ((pgV ps x).2.2.length) c], .bool (pgB ps x)]) hst1 (sv_call rfl rfl rfl rfl rfl (fun _ _ _ h => h) fun ρ β W X cx => ⟨_, _, run_invoke (args := #[vi x]) (args' := #[rv, vi x]) rfl rfl (cx.ou 10) hm0 hf0 (map1 (cx.ou 11)) rfl, hc0 _ cx.upd.to_ext⟩) fun W5 hst5 => ?_
  refine sqp [.m 9 12, .k 13 (.agg #[vi ((pgV ps x).1), vi ((pgV ps x).2.1), .slice A ((pgV ps x).2.2.length) c]), .k 14 (.bool (pgB ps x))] ?_
  refine sqal #[vi 0, vi 0, .slice none 0 0] hst5 fun B6_9 W9 hst9 => ?_
  refine sqst (n := 3) 1 #[vi ((pgV ps x).1), vi ((pgV ps x).2.1), .slice A ((pgV ps x).2.2.length) c] hst9 fun W10 hst10 => ?_
  refine sqp [.m 7 14] ?_
  refine then_normal (wp_seq (wp_seq (sqr (sqp [.m 15 7, .k 16 (.bool (!(pgB ps x)))] ?_))))
  refine then_normal ?_
  rcases Bool.eq_false_or_eq_true (pgB ps x) with hs14 | hs14
  · refine wp_cond_false (show Act.eval _ _ = .bool false from (congrArg Value.bool (by rw [hs14]; rfl))) (wp_skip (then_normal (wp_seq ?_)))
    rcases hnd : nodF (pgV ps x).1 (pgV ps x).2.2 with _ | nd
    · refine wp_region_Y [0, 1, 3, 7, 7, 0, 47, 127] [[1], [], [], [], [], [], [2]] [[], [], [], [], [], [2], [3]] [[], [], [], [], [], [], [2]] [.c 19 (.agg #[vi ((pgV ps x).1), vi ((pgV ps x).2.1), .slice A ((pgV ps x).2.2.length) c]), .a 20, .a 18, .a 21, .c 22 (.bool false), .a 8, .n, .k 7 (.bool false)] (fun ix σ β X => match ix with | 0 => True | 1 => σ 20 = .tuple #[.agg #[vi (iv (tg (tg (β 20) 0) 0)), vi 0, vi 0, .string ((⟨#[]⟩ : ByteArray)), .bool false, .slice none 0 0, vi 0], .bool false] | 2 => σ 18 = .tuple #[.agg #[vi (iv (tg (tg (β 20) 0) 0)), vi 0, vi 0, .string ((⟨#[]⟩ : ByteArray)), .bool false, .slice none 0 0, vi 0], .bool false] | 3 => σ 21 = .agg #[vi (iv (tg (tg (β 20) 0) 0)), vi 0, vi 0, .string ((⟨#[]⟩ : ByteArray)), .bool false, .slice none 0 0, vi 0] | 4 => True | 5 => σ 8 = vp (pb (β 8)) ∧ X 2 = eB (pb (β 8)) 116 #[vi 0, vi 0, vi 0, .string ByteArray.empty, .bool false, .slice none 0 0, vi 0] | 6 => X 3 = eB (pb (β 8)) 116 #[vi (iv (tg (tg (β 20) 0) 0)), vi 0, vi 0, .string ((⟨#[]⟩ : ByteArray)), .bool false, .slice none 0 0, vi 0] | _ => True) [0, 1, 3] [0, 1, 2, 3, 4, 5, 6] [(7, 7, 1, 8), (0, 5, 1, 1), (9, 2, 1, 10), (0, 0, 2, 2), (0, 3, 2, 2)] hst10 ?_ ?_ ?_
      · exact fun ix _ _ _ _ _ _ hs hb hx h => match ix, h with
        | 1, h => by dsimp only; rw [← hs 20 rfl, ← hb 20 rfl]; exact h
        | 2, h => by dsimp only; rw [← hs 18 rfl, ← hb 20 rfl]; exact h
        | 3, h => by dsimp only; rw [← hs 21 rfl, ← hb 20 rfl]; exact h
        | 5, h => by dsimp only; rw [← hs 8 rfl, ← hb 8 rfl, ← hx 2 rfl]; exact h
        | 6, h => by dsimp only; rw [← hb 8 rfl, ← hb 20 rfl, ← hx 3 rfl]; exact h
        | 0, _ | 4, _ | _ + 7, _ => trivial
      · refine ⟨?_, ?_, ?_, ?_, ?_, ?_, ?_, trivial⟩
        · exact xs4 rfl id fun cx => run_loadB (n := 3) rfl (by kernel_rfl) (by kernel_rfl) (cx.ou 6) (cx.bi 1 rfl) (nle rfl) rfl
        · refine svA fun ρ β W X cx => ?_
          refine DoesU.call (run_callF (args := #[.agg #[vi ((pgV ps x).1), vi ((pgV ps x).2.1), .slice A ((pgV ps x).2.2.length) c]]) rfl cx.sees rfl (by kernel_rfl) (map1 (cx.an 0))) ?_
          refine (kd_no hnd (kread_any _ _ _ _ _ _ (hA.ext cx.upd.to_ext) (Nat.le_trans hvk.1 (by decide)) (fun s hs => Nat.le_trans (hvk.2 s hs) (by decide)) hvc)).mono ?_
          rintro e W1 ⟨p4, rfl, hx⟩
          refine ⟨_, rfl, post_call [] rfl rfl hx (by simp) List.Pairwise.nil (fun σ β' X' hs hb hv hN => ?_)⟩
          have hv1 := (hv 20 rfl).1; have hv2 := (hv 20 rfl).2
          exact hv1.trans (by rw [hv2]; rfl)
        · exact sv rfl rfl rfl rfl rfl _ (fun _ _ _ h => h) (fun β β' h => by rw [h 20 (by decide)]) fun ρ β W X cx => run_move' rfl (dTn (cx.an 1))
        · exact sv rfl rfl rfl rfl rfl _ (fun _ _ _ h => h) (fun β β' h => by rw [h 20 (by decide)]) fun ρ β W X cx => run_extract' rfl (dTn (cx.an 2)) rfl
        · exact xs4 rfl id fun cx => run_extract' rfl (dTn (cx.an 2)) rfl
        · refine svA fun ρ β W X cx => ?_
          exact dv_alloc (cs := #[vi 0, vi 0, vi 0, .string ByteArray.empty, .bool false, .slice none 0 0, vi 0]) rfl (by kernel_rfl) rfl rfl (fun σ β' X' hs hb hv hx => ⟨hv, hx⟩)
        · refine svA fun ρ β W X cx => ?_
          exact dv_store (n := 7) rfl (dTn (cx.an 5)).1 (dTn (cx.an 3)) (by kernel_rfl) (by kernel_rfl) (by kernel_rfl) cx (dTn (cx.an 5)).2 rfl (nle rfl) (by kernel_rfl) rfl rfl rfl (fun σ β' X' hs hb hx => by rw [hb 8, hb 20]; exact hx)
      intro σ β X W15 hD hst15 fr hfr
      obtain ⟨pg20_15, hu_pg20_15⟩ : ∃ z, iv (tg (tg (β 20) 0) 0) = z := ⟨_, rfl⟩
      obtain ⟨B8_15, hu_B8_15⟩ : ∃ z, pb (β 8) = z := ⟨_, rfl⟩
      simp only [exq 3 ((dTn (hD 6 lq))), hu_pg20_15, hu_B8_15] at hst15
      simp only [ed 20 ((dTn (hD 1 lq))), ed 18 ((dTn (hD 2 lq))), ed 21 ((dTn (hD 3 lq))), ed 8 ((dTn (hD 5 lq)).1), hu_pg20_15, hu_B8_15] at hfr
      clear hD hu_pg20_15 hu_B8_15; subst hfr; clear σ β X
      refine then_normal (wp_seq (sqr (sqp [.m 23 1, .k 24 (vp B8_15)] ?_)))
      refine sqst (n := 1) 2 #[vi x, vi 0, vi 0, .string ((⟨#[]⟩ : ByteArray)), .bool false, .slice none 0 0, vi 0] hst15 fun W18 hst18 => ?_
      refine then_normal (wp_seq (sqr ?_))
      refine sqlb 2 7 hst18 ?_
      refine sqp [.k 26 (.bool false)] ?_
      refine sqst (n := 7) 0 #[vi x, vi 0, vi 0, .string ((⟨#[]⟩ : ByteArray)), .bool false, .slice none 0 0, vi 0] hst18 fun W21 hst21 => ?_
      refine sqp [.k 5 (.bool false)] ?_
      refine then_normal (wp_ret ?_)
      refine bpr (.tuple #[.agg #[vi x, vi 0, vi 0, .string ((⟨#[]⟩ : ByteArray)), .bool false, .slice none 0 0, vi 0], .bool false]) (results_2 Try.results47 (rpa (hst21.blk 0 rfl) 0 7) rpt) ?_
      exact kd_none (by rw [ndAt_pg, hs14]; exact hnd) hst21.ext
    · refine sqr ?_
      refine sqlb 1 3 hst10 ?_
      refine sqk2 (fun EA20_24 ec20_24 => .tuple #[.agg #[vi 0, vi nd.lv, vi nd.right, .string nd.high, .bool nd.dead, .slice EA20_24 nd.es.length ec20_24, vi ((nd.free : Int))], .bool true]) (fun EA20_24 ec20_24 => eO 104 3 (.slice EA20_24 nd.es.length ec20_24) nd.es.length (nd.es.flatMap enC)) hst10 (fun cx => ⟨_, (kd_yes hnd (kread_any _ _ _ _ _ _ (hA.ext cx.upd.to_ext) (Nat.le_trans hvk.1 (by decide)) (fun s hs => Nat.le_trans (hvk.2 s hs) (by decide)) hvc)).mono (by rintro e W1 ⟨EA4, ec4, rfl, hs4⟩; exact ⟨_, _, rfl, hs4⟩), (map1 (cx.ou 19))⟩) fun EA20_24 ec20_24 W24 hst24 => ?_
      refine sqp [.m 18 20, .k 21 (.agg #[vi 0, vi nd.lv, vi nd.right, .string nd.high, .bool nd.dead, .slice EA20_24 nd.es.length ec20_24, vi ((nd.free : Int))]), .k 22 (.bool true)] ?_
      refine sqal #[vi 0, vi 0, vi 0, .string ByteArray.empty, .bool false, .slice none 0 0, vi 0] hst24 fun B8_28 W28 hst28 => ?_
      refine sqst (n := 7) 3 #[vi 0, vi nd.lv, vi nd.right, .string nd.high, .bool nd.dead, .slice EA20_24 nd.es.length ec20_24, vi ((nd.free : Int))] hst28 fun W29 hst29 => ?_
      refine sqp [.k 7 (.bool true)] ?_
      refine then_normal (wp_seq (sqr (sqp [.m 23 1, .k 24 (vp B8_28)] ?_)))
      refine sqst (n := 1) 3 #[vi x, vi nd.lv, vi nd.right, .string nd.high, .bool nd.dead, .slice EA20_24 nd.es.length ec20_24, vi ((nd.free : Int))] hst29 fun W33 hst33 => ?_
      refine then_normal (wp_seq (sqr ?_))
      refine sqlb 3 7 hst33 ?_
      refine sqp [.k 26 (.bool true)] ?_
      refine sqst (n := 7) 0 #[vi x, vi nd.lv, vi nd.right, .string nd.high, .bool nd.dead, .slice EA20_24 nd.es.length ec20_24, vi ((nd.free : Int))] hst33 fun W36 hst36 => ?_
      refine sqp [.k 5 (.bool true)] ?_
      refine then_normal (wp_ret ?_)
      refine bpr (.tuple #[.agg #[vi x, vi nd.lv, vi nd.right, .string nd.high, .bool nd.dead, .slice EA20_24 nd.es.length ec20_24, vi ((nd.free : Int))], .bool true]) (results_2 Try.results47 (rpa (hst36.blk 0 rfl) 0 7) rpt) ?_
      rw [ndAt_pg, hs14, if_pos rfl, hnd]
      exact ⟨_, _, rfl, hst36.pick [2] (by decide) rfl⟩
  refine wp_cond_true (show Act.eval _ _ = .bool true from (congrArg Value.bool (by rw [hs14]; rfl))) (wp_seq (sqr (sqp [.k 17 (.agg #[vi 0, vi 0, vi 0, .string ByteArray.empty, .bool false, .slice none 0 0, vi 0])] ?_)))
  refine sqst (n := 7) 0 #[vi 0, vi 0, vi 0, .string ByteArray.empty, .bool false, .slice none 0 0, vi 0] hst10 fun W39 hst39 => ?_
  refine sqp [.k 5 (.bool false)] ?_
  refine then_normal (wp_ret (then_ret ?_))
  refine bpr (.tuple #[.agg #[vi 0, vi 0, vi 0, .string ByteArray.empty, .bool false, .slice none 0 0, vi 0], .bool false]) (results_2 Try.results47 (rpa (hst39.blk 0 rfl) 0 7) rpt) ?_
  exact kd_none (by rw [ndAt_pg, hs14]; rfl) hst39.ext
end
end Go.Proofs.Ytjlcoglmjldjbaa
namespace Go.Proofs.Ytjlcoglmjldjbaa
section
open Go.RowKit
set_option linter.unusedVariables false
set_option linter.unusedSimpArgs false
theorem madeCells_cons (z : Array Value) (hz : 0 < z.size) (n : Nat) : (madeCells z ((n + 1) * z.size)).toList = z.toList ++ (madeCells z (n * z.size)).toList := by
  apply List.ext_getElem?
  intro j
  have e : ∀ m j, (madeCells z m).toList[j]? = if j < m then some (z[j % z.size]!) else none := fun m j => by
    by_cases h : j < m
    · rw [if_pos h]; simp [madeCells, h]
    · rw [if_neg h]; simp [madeCells, h]
  have hm : (n + 1) * z.size = z.size + n * z.size := by rw [Nat.add_mul]; omega
  rw [e, hm]
  by_cases h : j < z.size
  · rw [if_pos (by omega), List.getElem?_append_left (by simpa using h), Nat.mod_eq_of_lt h]
    simp [h]
  · rw [List.getElem?_append_right (by simpa using h), Array.length_toList, e]
    by_cases h2 : j < z.size + n * z.size
    · rw [if_pos h2, if_pos (by omega), Nat.mod_eq_sub_mod (by omega)]
    · rw [if_neg h2, if_neg (by omega)]
theorem madeCells_flat {T : Type} (f : T → List Value) (t : T) (z : Array Value) (hz : z.toList = f t) (h0 : 0 < z.size) (n : Nat) : (madeCells z (n * z.size)).toList = (List.replicate n t).flatMap f := by
  induction n with
  | zero =>
    rw [Nat.zero_mul]
    have : (madeCells z 0).toList.length = 0 := by rw [Array.length_toList, size_madeCells]
    rw [List.eq_nil_of_length_eq_zero this]; rfl
  | succ n ih => rw [madeCells_cons z h0, ih, List.replicate_succ, List.flatMap_cons, hz]
section
variable {P : Program} {ops : Array Oper} {L : List Nat} {a0 : Act} {w0 : World} {bor : List Nat} {X0 : List Ent} {us cr kl : List (List Nat)}
  {D : Nat → (Tmp → Value) → (Tmp → Value) → (Nat → Ent) → Prop} {i : Nat} {o : Oper} {ρ : Operand → Value} {β : Tmp → Value} {W : World} {X : Nat → Ent}
theorem dv_makeN {t e : TypeId} {x y : Operand} {k k' : IntKind} {n sz : Nat} {j j' : Int} {d : Tmp} {q : Nat} {inf : TypeInfo} {z : Value} {bytes : Nat} {xs : List Value} (h : o.op = .makeSlice t x y) (ht : P.underlying t = some (.slice e)) (hi : P.info? e = some inf) (hz : inf.zero = some z) (hsize : inf.size = sz) (hby : inf.bytes = bytes)
    (hx : ρ x = .int k j) (hy : ρ y = .int k' j') (hj : j = (n : Int)) (hj' : j' = (n : Int)) (hn : n * sz ≤ 16777216) (hb : bytes * n ≤ 281474976710656) (hml : n ≤ maxLen) (hxs : (madeCells z.cells (n * sz)).toList = xs) (hd : o.dst = some d) (hc : atV cr i = [q])
    (hD : ∀ (σ β' : Tmp → Value) (X' : Nat → Ent), (∀ t, t ≠ d → σ t = ρ (.tmp t)) → (∀ t, t ≠ d → β' t = β t) → σ d = .slice (sA (β' d)) n n → X' q = eO e sz (.slice (sA (β' d)) n n) n xs → D i σ β' X') :
    DoesU P o ρ W (PostV cr kl D i o.dst ρ β W X) := by
  subst hj; subst hj'; subst hby; subst hsize; subst hxs
  obtain ⟨W', hrun, ho, hg⟩ := run_makeSlice_full (P := P) W W.heap.size t e inf z inf.size ht hi hz rfl k k' n hn hb hml (Nat.le_refl _)
  have hr : (execOp ρ o).run P W = .ok (.value (.slice (some ⟨W.heap.size, 0, none⟩) n n)) W' := by
    unfold execOp; rw [h]
    simp only [hx, hy, Sem.run_bind, hrun, Result.andThen_ok, Sem.run_pure]
  refine DoesU.value hr ⟨[eO e inf.size (.slice (some ⟨W.heap.size, 0, none⟩) n n) n (madeCells z.cells (n * inf.size)).toList], by rw [hc]; rfl, ⟨(Upd.refl _ W).grown hg (fun k hk => by cases hk), fun e' he => ?_, List.pairwise_singleton _ _⟩, fun σ β' X' hs' hv hb hbv hx' hN => hD σ β' X' (fun t ht => hs' t (by rw [hd]; simpa using ht.symm)) (fun t ht => hb t (by rw [hd]; simpa using ht.symm)) ?_ ?_⟩
  · rw [List.mem_singleton] at he
    subst he
    obtain ⟨h1, h2, h3⟩ := eO_new ho
    exact ⟨h1, h2, fun k hk => ⟨.inr (h3 k hk).1, (h3 k hk).2⟩⟩
  · rw [hv d hd, hbv d hd]; rfl
  · rw [hbv d hd]
    rw [hc] at hN
    exact (List.cons.inj hN).1
end
theorem CtxV.holdF {ops : Array Oper} {L : List Nat} {a0 : Act} {w0 : World} {bor : List Nat} {X0 : List Ent} {us : List (List Nat)} {D : Nat → (Tmp → Value) → (Tmp → Value) → (Nat → Ent) → Prop} {i : Nat} {ρ : Operand → Value} {β : Tmp → Value} {W : World} {X : Nat → Ent} {q : Nat} {E : Ent} (cx : CtxV ops L a0 w0 bor X0 us D i ρ β W X) (hX : X q = E) (hu : (atV us i).contains q = true) : E.holds W := by
  have h := (cx.ok q hu).holds
  rw [hX] at h; exact h
theorem CtxV.ltF {ops : Array Oper} {L : List Nat} {a0 : Act} {w0 : World} {bor : List Nat} {X0 : List Ent} {us : List (List Nat)} {D : Nat → (Tmp → Value) → (Tmp → Value) → (Nat → Ent) → Prop} {i : Nat} {ρ : Operand → Value} {β : Tmp → Value} {W : World} {X : Nat → Ent} {q : Nat} {E : Ent} (cx : CtxV ops L a0 w0 bor X0 us D i ρ β W X) (hX : X q = E) (hu : (atV us i).contains q = true) : ∀ k ∈ E.fp, k < W.heap.size := fun k hk => by
  subst hX; exact ((cx.ok q hu).own k hk).2
theorem CtxV.keepF {ops : Array Oper} {L : List Nat} {a0 : Act} {w0 : World} {bor : List Nat} {X0 : List Ent} {us : List (List Nat)} {D : Nat → (Tmp → Value) → (Tmp → Value) → (Nat → Ent) → Prop} {i : Nat} {ρ : Operand → Value} {β : Tmp → Value} {W : World} {X : Nat → Ent} {q q' : Nat} {E F : Ent} (cx : CtxV ops L a0 w0 bor X0 us D i ρ β W X) (hX : X q = E) (hX' : X q' = F) (hu : (atV us i).contains q = true) (hu' : (atV us i).contains q' = true) (hne : q ≠ q') : ∀ W', Upd F.fp W W' → E.holds W' := fun W' hU => by
  subst hX hX'
  have h1 := cx.ok q hu
  exact h1.loc W W' (fun k hk => hU.block k (h1.own k hk).2 (cx.ap q q' hu hu' hne k hk)) h1.holds
theorem CtxV.keepAt {ops : Array Oper} {L : List Nat} {a0 : Act} {w0 : World} {bor : List Nat} {X0 : List Ent} {us : List (List Nat)} {D : Nat → (Tmp → Value) → (Tmp → Value) → (Nat → Ent) → Prop} {i : Nat} {ρ : Operand → Value} {β : Tmp → Value} {W : World} {X : Nat → Ent} {q q' e sz n m c : Nat} {A : Option Addr} {xs : List Value} {F : Ent} (cx : CtxV ops L a0 w0 bor X0 us D i ρ β W X) (hX : X q = eO e sz (.slice A n c) m xs) (hX' : X q' = F) (hu : (atV us i).contains q = true) (hu' : (atV us i).contains q' = true) (hne : q ≠ q') : ∀ W', Upd F.fp W W' → At W' A xs := fun W' hU =>
  At.of_ownN (cx.keepF hX hX' hu hu' hne W' hU)
theorem rep_snoc (L : List ByteArray) (r : Nat) : (L ++ List.replicate r ByteArray.empty).map Value.string ++ [.string ⟨#[]⟩] = (L ++ List.replicate (r + 1) ByteArray.empty).map Value.string := by
  rw [List.replicate_succ', ← List.append_assoc, List.map_append (l₂ := [ByteArray.empty])]; rfl
theorem St.pack {w0 W : World} {bor : List Nat} {L S : List Ent} {E : Ent} (h : St w0 bor (L ++ S) W) (hfp : E.fp = S.flatMap (·.fp)) (hh : E.holds W) (hl : E.loc) : St w0 bor (L ++ [E]) W := by
  have hin : ∀ k, k ∈ E.fp → ∃ e ∈ S, k ∈ e.fp := fun k hk => by rw [hfp] at hk; exact List.mem_flatMap.1 hk
  refine ⟨h.upd, fun x hx => ?_, ?_⟩
  · rcases List.mem_append.1 hx with hx | hx
    · exact h.ok x (List.mem_append_left _ hx)
    · rw [List.mem_singleton] at hx
      subst hx
      exact ⟨hh, hl, fun k hk => let ⟨e, he, hke⟩ := hin k hk; (h.ok e (List.mem_append_right _ he)).own k hke⟩
  · have ha := h.apart
    rw [List.pairwise_append] at ha ⊢
    refine ⟨ha.1, List.pairwise_singleton _ _, fun a ha' b hb k hk hkb => ?_⟩
    rw [List.mem_singleton] at hb
    subst hb
    obtain ⟨e, he, hke⟩ := hin k hkb
    exact ha.2.2 a ha' e he k hk hke
theorem St.unpack {w0 W : World} {bor : List Nat} {S : List Ent} {E : Ent} (h : St w0 bor [E] W) (hfp : E.fp = S.flatMap (·.fp)) (hS : ∀ e ∈ S, e.holds W ∧ e.loc) (ha : S.Pairwise Ent.apart) : St w0 bor S W :=
  ⟨h.upd, fun x hx => ⟨(hS x hx).1, (hS x hx).2, fun k hk => (h.ok E (List.mem_singleton.2 rfl)).own k (by rw [hfp]; exact List.mem_flatMap.2 ⟨x, hx, hk⟩)⟩, ha⟩
def entT (p : PgT) : Ent := eO 9 1 (.slice p.A p.its.length p.c) p.its.length (p.its.map Value.string)
def ePt (Qs : List PgT) : Ent := eM (Qs.map entT)
theorem ePt_at {Qs : List PgT} {W : World} (h : (ePt Qs).holds W) {p : PgT} (hp : p ∈ Qs) : At W p.A (p.its.map Value.string) := At.of_own (h (entT p) (List.mem_map.2 ⟨_, hp, rfl⟩)).1
theorem St.mergeT {w0 W : World} {bor : List Nat} {L : List Ent} {Qs : List PgT} {p : PgT} (h : St w0 bor (L ++ [ePt Qs, entT p]) W) : St w0 bor (L ++ [ePt (Qs ++ [p])]) W := by
  have h1 := St.merge h
  rw [ePt, List.map_append]
  exact h1
def bkL (b : Nat) (LA : Option Addr) (lc n : Nat) (Ps Qs : List PgT) : List Ent := [eB b 64 #[.slice LA n lc], eO 51 3 (.slice LA n lc) n (Ps.flatMap ptC), ePt Qs]
def eBk (b : Nat) (ps : List PgS) (fp : List Nat) : Ent := ⟨fp, fun W => ∃ LA lc Ps Qs, Ps.map abT = ps ∧ (∀ p ∈ Ps, p ∈ Qs) ∧ fp = (bkL b LA lc ps.length Ps Qs).flatMap (·.fp) ∧ (bkL b LA lc ps.length Ps Qs).Pairwise Ent.apart ∧ ∀ e ∈ bkL b LA lc ps.length Ps Qs, e.holds W ∧ e.loc⟩
theorem eBk_loc (b : Nat) (ps : List PgS) (fp : List Nat) : (eBk b ps fp).loc := fun W W' hk h => by
  obtain ⟨LA, lc, Ps, Qs, h1, h2, h3, h4, h5⟩ := h
  exact ⟨LA, lc, Ps, Qs, h1, h2, h3, h4, fun e he => ⟨(h5 e he).2 W W' (fun k hk' => hk k (by rw [eBk, h3]; exact List.mem_flatMap.2 ⟨e, he, hk'⟩)) (h5 e he).1, (h5 e he).2⟩⟩
theorem eBk_self {e : Ent} {b : Nat} {ps : List PgS} {fp : List Nat} (h : e = eBk b ps fp) : e = eBk b ps e.fp := by subst h; rfl
theorem eBk_at {b : Nat} {ps : List PgS} {fp : List Nat} {W : World} (h : (eBk b ps fp).holds W) : BkAt W b ps := by
  obtain ⟨LA, lc, Ps, Qs, h1, h2, h3, h4, h5⟩ := h
  have hl : Ps.length = ps.length := by rw [← h1, List.length_map]
  refine ⟨LA, lc, Ps, h1, (h5 (eB b 64 #[.slice LA ps.length lc]) (List.mem_cons_self ..)).1, ?_, hl, fun p hp => ePt_at (h5 (ePt Qs) (by simp [bkL])).1 (h2 p hp)⟩
  exact At.of_ownN (h5 (eO 51 3 (.slice LA ps.length lc) ps.length (Ps.flatMap ptC)) (by simp [bkL])).1
theorem St.bk {w0 W : World} {bor : List Nat} {L : List Ent} {b lc n : Nat} {LA : Option Addr} {Ps Qs : List PgT} {ps : List PgS} (h : St w0 bor (L ++ bkL b LA lc n Ps Qs) W) (h1 : Ps.map abT = ps) (hn : ps.length = n) (h2 : ∀ p ∈ Ps, p ∈ Qs) : ∃ fp, St w0 bor (L ++ [eBk b ps fp]) W := by
  subst hn
  refine ⟨_, St.pack (E := eBk b ps ((bkL b LA lc ps.length Ps Qs).flatMap (·.fp))) h rfl ⟨LA, lc, Ps, Qs, h1, h2, rfl, (List.pairwise_append.1 h.apart).2.1, fun e he => ?_⟩ (eBk_loc _ _ _)⟩
  have h3 := h.ok e (List.mem_append_right _ he)
  exact ⟨h3.holds, h3.loc⟩
def DoPost (b : Nat) (ps : List PgS) (fp : List Nat) (w : World) (e : Ending) (w' : World) : Prop := e = .returned (.tuple #[]) ∧ ∃ fp', St w fp [eBk b ps fp'] w'
theorem ptC_one (Ps : List PgT) : ∀ u ∈ Ps.flatMap ptC, Value.oneCell' u = true := fun u hu => by
  obtain ⟨p, _, hp⟩ := List.mem_flatMap.1 hu
  simp only [ptC, List.mem_cons, List.not_mem_nil, or_false] at hp
  rcases hp with rfl | rfl | rfl <;> rfl
theorem map_setT (Ps : List PgT) (n : Nat) (q : PgT) : (Ps.set n q).map abT = (Ps.map abT).set n (abT q) := List.map_set
theorem edOk_yes {n : Nat} {e : EdT} (h : 0 ≤ e.1 ∧ e.1 < n ∧ -1 ≤ e.2.1 ∧ e.2.1 ≤ 100) : edOk n e = true := decide_eq_true h
theorem edOk_no {n : Nat} {e : EdT} (h : ¬ (0 ≤ e.1 ∧ e.1 < n ∧ -1 ≤ e.2.1 ∧ e.2.1 ≤ 100)) : edOk n e = false := decide_eq_false h
theorem do_skip {ps : List PgS} {l : List EdT} {k : Nat} {e : EdT} (he : l[k]? = some e) (h : edOk ps.length e = false) : doB ps (l.take (k + 1)) = doB ps (l.take k) := by
  obtain ⟨hk, rfl⟩ := List.getElem?_eq_some_iff.1 he
  rw [doB_take hk, do1B, doB_len, h]; rfl
theorem do_put {ps : List PgS} {l : List EdT} {k : Nat} {e : EdT} (he : l[k]? = some e) (h : edOk ps.length e = true) : doB ps (l.take (k + 1)) = (doB ps (l.take k)).set e.1.toNat (edP ((doB ps (l.take k)).getD e.1.toNat pgs0) e) := by
  obtain ⟨hk, rfl⟩ := List.getElem?_eq_some_iff.1 he
  rw [doB_take hk, do1B, doB_len, h]; rfl
theorem edP_new {p : PgS} {pg s : Int} {x : ByteArray} (h : s < 0) : edP p (pg, s, x) = (kindB x, 0, []) := if_pos h
theorem edP_set {p : PgS} {pg s : Int} {x : ByteArray} (h : ¬ s < 0) : edP p (pg, s, x) = (p.1, p.2.1, setI p.2.2 s.toNat x) := if_neg h
theorem memT {Ps Qs : List PgT} (h : ∀ p ∈ Ps, p ∈ Qs) (n : Nat) (q : PgT) : ∀ p ∈ Ps.set n q, p ∈ Qs ++ [q] := fun p hp => by
  rcases List.mem_or_eq_of_mem_set hp with h1 | rfl
  · exact List.mem_append_left _ (h p h1)
  · simp
theorem setT_len {Ps : List PgT} (h : ∀ p ∈ Ps, p.its.length ≤ 101) (n : Nat) {q : PgT} (hq : q.its.length ≤ 101) : ∀ p ∈ Ps.set n q, p.its.length ≤ 101 := fun p hp => by
  rcases List.mem_or_eq_of_mem_set hp with h1 | rfl
  · exact h p h1
  · exact hq
set_option maxRecDepth 100000 in
set_option maxHeartbeats 8000000 in
theorem rdo_any (b : Nat) (ps : List PgS) (fp : List Nat) (n : Nat) (A : Option Addr) (c : Nat) (l : List EdT) (w : World) (hB : (eBk b ps fp).holds w) (hlt : ∀ k ∈ fp, k < w.heap.size) (hL : ∀ W, Upd fp w W → At W A (l.flatMap edC)) (hl : l.length ≤ 100000) (hn : ps.length = n) (hnb : n ≤ 1000) (hits0 : ∀ p ∈ ps, p.2.2.length ≤ 101) :
    Calls Try.prog 25 #[.pointer (some ⟨b, 0, none⟩), .slice A l.length c] w (DoPost b (doB ps l) fp w) := by
  have st1 := St.lend hB (eBk_loc _ _ _) hlt
  obtain ⟨LA, lc, Ps, Qs, hps, hsub, hfp, hap, hall⟩ := hB
  have st0 := St.unpack st1 hfp hall hap
  rw [hn] at st0
  have hPl : Ps.length = n := by rw [← hn, ← hps, List.length_map]
  have hits : ∀ p ∈ Ps, p.its.length ≤ 101 := fun p hp => hits0 (abT p) (by rw [← hps]; exact List.mem_map.2 ⟨p, hp, rfl⟩)
  go_enter Try.func25, Try.ntmps25
  have hst0 := st0
  refine wp_seq (sqr (sqp [.k 4 (vi 0)] ?_))
  refine then_normal (wp_block ?_)
  refine wp_loopT (fun t_ mz az W => ∃ k : Nat, ∃ Ps : List PgT, ∃ Qs : List PgT, k ≤ l.length ∧ Ps.map abT = doB ps (l.take k) ∧ (∀ p ∈ Ps, p ∈ Qs) ∧ Ps.length = n ∧ (∀ p ∈ Ps, p.its.length ≤ 101) ∧ mz = l.length - k ∧ az = ⟨(ovr (jv az) [(4, 4, 0, [vi ((k : Int))]), (0, 5, 84, [])] t_).toArray, []⟩ ∧ St w fp [eB b 64 #[.slice LA n lc], eO 51 3 (.slice LA n lc) n (Ps.flatMap ptC), ePt Qs] W) (l.length - 0) ?_ ?_
  · -- the loop begins
    exact ⟨0, Ps, Qs, Nat.zero_le _, hps, hsub, hPl, hits, rfl, (by kernel_rfl), hst0.pk [0, 1, 2]⟩
  rintro n2 a2 W2 ⟨k, Ps, Qs, hk, hPs, hsub, hPl, hits, rfl, hj_, hst2⟩
  refine ovz hj_ fun u2_ => ?_
  refine wp_seq (wp_seq (sqr (sqp [.m 8 4, .m 9 1, .k 10 (vi ((l.length : Int))), .k 11 (.bool (decide ((k : Int) < (l.length : Int))))] ?_)))
  refine then_normal (wds (fun hs7 hs7p => ?_) fun hs7 hs7p => ?_)
  · refine wp_skip (then_normal (wp_seq (wp_block (wp_seq ?_))))
    obtain ⟨ep, es, eb, hek⟩ := getEdT (l := l) (k := k) (by omega)
    refine sqr (sqp [.m 14 1, .m 15 4] ?_)
    refine sql (.pointer (some ((ad A).add (k * 3)))) hst2 (fun cx => run_indexSlM (e := 99) (m := k) (sz := 3) rfl (by kernel_rfl) (by kernel_rfl) (cx.ou 14) (cx.ou 15) (by omega) (by omega) (hL _ cx.upd) (flatPos (sz := 3) edC_len (by decide) (by omega))) ?_
    refine sql (.agg #[vi ep, vi es, .string eb]) hst2 (fun cx => run_loadElt (f := edC) (m := k) (sz := 3) (off := 0) (n := 3) rfl (by kernel_rfl) (by kernel_rfl) (cx.ou 16) rfl edC_len (hL _ cx.upd) hek (fun k hk => match k, hk with | 0, _ => rfl | 1, _ => rfl | 2, _ => rfl | k + 3, hk => absurd hk (by omega))) ?_
    refine sqal #[vi 0, vi 0, .string ByteArray.empty] hst2 fun B5_12 W12 hst12 => ?_
    refine sqst (n := 3) 3 #[vi ep, vi es, .string eb] hst12 fun W13 hst13 => ?_
    refine then_normal (wp_seq (wp_seq (wp_region_Z [0, 1, 3, 7, 15, 31, 15, 79, 207, 463, 975, 2047, 4095, 8191, 16383, 32767, 65535, 131071, 262143, 524287, 1048575, 2097151, 4194303] [[], [3], [], [], [], [3], [], [], [], [0], [], [], [], [], [], [3], [], [], [], [], [3]] [.k 18 (vp B5_12), .c 19 (vi ep), .k 20 (.bool (decide (ep < 0))), .k 21 (.bool (decide (ep < 0))), .z 22 (!(decide (ep < 0))) (vp B5_12), .y 23 (!(decide (ep < 0))) (vi ep), .z 24 (!(decide (ep < 0))) (vp b), .z 25 (!(decide (ep < 0))) (vp b), .z 26 (!(decide (ep < 0))) (vp b), .y 27 (!(decide (ep < 0))) (.slice LA n lc), .z 28 (!(decide (ep < 0))) (vi ((n : Int))), .z 29 (!(decide (ep < 0))) (.bool (decide ((n : Int) ≤ ep))), tO 30 (decide (ep < 0)) (decide ((n : Int) ≤ ep)), .k 31 (.bool ((decide (ep < 0)) || (decide ((n : Int) ≤ ep)))), .z 32 (!((decide (ep < 0)) || (decide ((n : Int) ≤ ep)))) (.pointer (some ⟨B5_12, 1, none⟩)), .y 33 (!((decide (ep < 0)) || (decide ((n : Int) ≤ ep)))) (vi es), .z 34 (!((decide (ep < 0)) || (decide ((n : Int) ≤ ep)))) (.bool (decide (es < -1))), tO 35 ((decide (ep < 0)) || (decide ((n : Int) ≤ ep))) (decide (es < -1)), .k 36 (.bool (((decide (ep < 0)) || (decide ((n : Int) ≤ ep))) || (decide (es < -1)))), .z 37 (!(((decide (ep < 0)) || (decide ((n : Int) ≤ ep))) || (decide (es < -1)))) (.pointer (some ⟨B5_12, 1, none⟩)), .y 38 (!(((decide (ep < 0)) || (decide ((n : Int) ≤ ep))) || (decide (es < -1)))) (vi es), .z 39 (!(((decide (ep < 0)) || (decide ((n : Int) ≤ ep))) || (decide (es < -1)))) (.bool (decide (100 < es))), tO 40 (((decide (ep < 0)) || (decide ((n : Int) ≤ ep))) || (decide (es < -1))) (decide (100 < es))] [0, 1, 2, 3] [1, 5, 9, 15, 20] [(18, 0, 23, 41)] hst13 ?_ fun W14 hst14 => ?_)))
    · refine ⟨?_, ?_, ?_, ?_, ?_, trivial⟩
      · exact xs4 rfl id fun cx => run_load1 rfl (by kernel_rfl) (cx.an 0) ((cx.bi 3 rfl).cell 0)
      · exact m2 rfl (fun _ _ _ h => h) (fun cx => (cx.an 3)) fun cx hq => run_load1 rfl (by kernel_rfl) (mbv (cx.an 4) hq) ((cx.bi 3 rfl).cell 0)
      · exact m2 rfl (fun _ _ _ h => h) (fun cx => (cx.an 3)) fun cx hq => run_load1 rfl (by kernel_rfl) (mbv (cx.an 8) hq) ((cx.bi 0 rfl).cell 0)
      · exact m2 rfl (fun _ _ _ h => h) (fun cx => (cx.an 13)) fun cx hq => run_load1 rfl (by kernel_rfl) (mbv (cx.an 14) hq) ((cx.bi 3 rfl).cell 1)
      · exact m2 rfl (fun _ _ _ h => h) (fun cx => (cx.an 18)) fun cx hq => run_load1 rfl (by kernel_rfl) (mbv (cx.an 19) hq) ((cx.bi 3 rfl).cell 1)
    refine then_normal (wbs (fun hs15 => ?_) fun hs15 => ?_)
    · have hs15p := hs15
      simp only [zB] at hs15p
      refine wp_exit (then_exit (blk_eq (then_normal (sqr (sqp [.m 12 4, sI 13 ((k : Int) + 1) (by omega), .m 4 13] ?_)))))
      refine then_normal ?_
      have hno := edOk_no (n := n) (e := (ep, es, eb)) (by dsimp only; have h_ := hs15; simp only [Bool.or_eq_true, decide_eq_true_eq] at h_; omega)
      refine ⟨l.length - ((k + 1)), by omega, ?_⟩
      exact ⟨(k + 1), Ps, Qs, by omega, by rw [do_skip hek (by rw [hn]; exact hno)]; exact hPs, hsub, hPl, hits, rfl, (by kernel_rfl), hst14.pk [0, 1, 2]⟩
    have hs15p := hs15
    simp only [zB] at hs15p
    obtain ⟨⟨⟨hs15p1, hs15p2⟩, hs15p3⟩, hs15p4⟩ := hs15p
    refine wp_skip (then_normal (wp_seq ?_))
    have hbd := hs15
    simp only [Bool.or_eq_false_iff, decide_eq_false_iff_not] at hbd
    have hed := edOk_yes (n := n) (e := (ep, es, eb)) (by dsimp only; omega)
    obtain ⟨pg, hN_pg⟩ : ∃ z, Ps.getD (ep).toNat pt0 = z := ⟨_, rfl⟩
    have hpg := getD_mem' (l := Ps) (n := (ep).toNat) (d := pt0) (by omega)
    rw [hN_pg] at hpg
    have hpl := hits _ hpg.2
    have hgD : (doB ps (l.take k)).getD (ep).toNat pgs0 = abT pg := by rw [← hPs, getD_abT, hN_pg]
    refine wp_region_Y [0, 1, 3, 7, 0, 16, 63, 127, 0, 511] [[], [], [], [0], [], [3], [1], [1], [], [4]] [[], [], [], [], [], [], [], [], [4], [5]] [[], [], [], [], [], [], [], [], [], [4]] [.k 41 (vp b), .k 42 (vp b), .k 43 (vp b), .c 44 (.slice LA n lc), .k 45 (vp B5_12), .c 46 (vi ep), .c 47 (.pointer (some ((ad LA).add (((ep).toNat) * 3)))), .c 48 (.agg #[vi pg.k, vi pg.l, .slice pg.A pg.its.length pg.c]), .a 6, .n] (fun ix σ β X => match ix with | 0 => True | 1 => True | 2 => True | 3 => True | 4 => True | 5 => True | 6 => True | 7 => True | 8 => σ 6 = vp (pb (β 6)) ∧ X 4 = eB (pb (β 6)) 51 #[vi 0, vi 0, .slice none 0 0] | 9 => X 5 = eB (pb (β 6)) 51 #[vi pg.k, vi pg.l, .slice pg.A pg.its.length pg.c] | _ => True) [0, 1, 2, 3, 5] [3, 5, 6, 7, 8, 9] [(6, 8, 1, 7), (34, 0, 8, 42)] hst14 ?_ ?_ ?_
    · exact fun ix _ _ _ _ _ _ hs hb hx h => match ix, h with
      | 8, h => by dsimp only; rw [← hs 6 rfl, ← hb 6 rfl, ← hx 4 rfl]; exact h
      | 9, h => by dsimp only; rw [← hb 6 rfl, ← hx 5 rfl]; exact h
      | 0, _ | 1, _ | 2, _ | 3, _ | 4, _ | 5, _ | 6, _ | 7, _ | _ + 10, _ => trivial
    · refine ⟨?_, ?_, ?_, ?_, ?_, ?_, trivial⟩
      · exact xs4 rfl id fun cx => run_load1 rfl (by kernel_rfl) (cx.an 2) ((cx.bi 0 rfl).cell 0)
      · exact xs4 rfl id fun cx => run_load1 rfl (by kernel_rfl) (cx.an 4) ((cx.bi 3 rfl).cell 0)
      · exact xs4 rfl id fun cx => run_indexSlM (e := 51) (m := (ep).toNat) (sz := 3) rfl (by kernel_rfl) (by kernel_rfl) (cx.an 3) (cx.an 5) (by omega) (by omega) (At.of_ownN (cx.ri 1 rfl)) (flatPos (sz := 3) ptC_len (by decide) (by omega))
      · exact xs4 rfl id fun cx => run_loadElt (f := ptC) (m := ((ep).toNat)) (sz := 3) (off := 0) (n := 3) rfl (by kernel_rfl) (by kernel_rfl) (cx.an 6) rfl ptC_len (At.of_ownN (cx.ri 1 rfl)) hpg.1 (fun k hk => match k, hk with | 0, _ => rfl | 1, _ => rfl | 2, _ => rfl | k + 3, hk => absurd hk (by omega))
      · refine svA fun ρ β W X cx => ?_
        exact dv_alloc (cs := #[vi 0, vi 0, .slice none 0 0]) rfl (by kernel_rfl) rfl rfl (fun σ β' X' hs hb hv hx => ⟨hv, hx⟩)
      · refine svA fun ρ β W X cx => ?_
        exact dv_store (n := 3) rfl (dTn (cx.an 8)).1 (cx.an 7) (by kernel_rfl) (by kernel_rfl) (by kernel_rfl) cx (dTn (cx.an 8)).2 rfl (nle rfl) (by kernel_rfl) rfl rfl rfl (fun σ β' X' hs hb hx => by rw [hb 6]; exact hx)
    intro σ β X W19 hD hst19 fr hfr
    obtain ⟨B6_19, hu_B6_19⟩ : ∃ z, pb (β 6) = z := ⟨_, rfl⟩
    simp only [exq 5 ((dTn (hD 9 lq))), hu_B6_19] at hst19
    simp only [ed 6 ((dTn (hD 8 lq)).1), hu_B6_19] at hfr
    clear hD hu_B6_19; subst hfr; clear σ β X
    refine then_normal ?_
    refine wp_cutT (fun t_ az W => ∃ pk : Int, ∃ pl : Int, ∃ pA : Option Addr, ∃ pc : Nat, ∃ pits : List ByteArray, edP (abT pg) (ep, es, eb) = (pk, pl, pits) ∧ pits.length ≤ 101 ∧ az = ⟨(ovr (jv az) [(7, 7, 1, []), (41, 49, 32, [])] t_).toArray, []⟩ ∧ St w fp [eB b 64 #[.slice LA n lc], eO 51 3 (.slice LA n lc) n (Ps.flatMap ptC), ePt Qs, eB B5_12 99 #[vi ep, vi es, .string eb], eB B6_19 51 #[vi pk, vi pl, .slice pA pits.length pc], eO 9 1 (.slice pA pits.length pc) pits.length (pits.map Value.string)] W) ?_ ?_
    · refine wp_seq (sqr (sqp [.k 49 (.pointer (some ⟨B5_12, 1, none⟩))] ?_))
      refine sqld 3 hst19 ?_
      refine sqp [.k 51 (.bool (decide (es < 0)))] ?_
      refine then_normal (wds (fun hs24 hs24p => ?_) fun hs24 hs24p => ?_)
      · refine wp_seq (sqr (sqp [.k 52 (.agg #[vi 0, vi 0, .slice none 0 0])] ?_))
        refine sqst (n := 3) 4 #[vi 0, vi 0, .slice none 0 0] hst19 fun W26 hst26 => ?_
        refine then_normal (wp_seq (sqr (sqp [.k 53 (.pointer (some ⟨B5_12, 2, none⟩))] ?_)))
        refine sqld 3 hst26 ?_
        refine sqp [.k 55 (.bool (!(eb.toList == ((⟨#[]⟩ : ByteArray)).toList)))] ?_
        refine then_normal ?_
        rcases Bool.eq_false_or_eq_true (eb.toList == ((⟨#[]⟩ : ByteArray)).toList) with hs30 | hs30
        · refine wp_cond_false (show Act.eval _ _ = .bool false from (congrArg Value.bool (by rw [hs30]; rfl))) (wp_skip (then_normal ?_))
          have hn31 := St.nilrow hst26 9
          simp only [List.cons_append, List.nil_append] at hn31
          exact ⟨(0), 0, none, 0, ([] : List ByteArray), by rw [edP_new (by omega), kindB, if_pos (by have h_ := hs30; rw [size_nil] at h_; exact of_decide_eq_true h_)], by decide, (by kernel_rfl), hn31.pk [0, 1, 2, 3, 4, 5]⟩
        refine wp_cond_true (show Act.eval _ _ = .bool true from (congrArg Value.bool (by rw [hs30]; rfl))) ?_
        have he0 : 0 < eb.size := by have h_ := hs30; rw [size_nil] at h_; have h2_ := of_decide_eq_false h_; omega
        have hbb_ := byteI_bd (bl eb) 0
        refine sqr (sqp [.k 56 (.pointer (some ⟨B5_12, 2, none⟩))] ?_)
        refine sqld 3 hst26 ?_
        refine sql (.int .u8 (byteI (bl eb) 0)) hst26 (fun cx => run_indexS (m := 0) rfl (by kernel_rfl) (cx.ou 57) (cx.co _) (by omega) (by omega)) ?_
        refine sqp [sW 59 .i64 (byteI (bl eb) 0) (byteI (bl eb) 0) (IntWalk.i64_in _ (by omega)), .k 60 (vp B6_19)] ?_
        refine sqst (n := 1) 4 #[vi (byteI (bl eb) 0), vi 0, .slice none 0 0] hst26 fun W37 hst37 => ?_
        refine then_normal ?_
        have hn38 := St.nilrow hst37 9
        simp only [List.cons_append, List.nil_append] at hn38
        exact ⟨(byteI (bl eb) 0), 0, none, 0, ([] : List ByteArray), by rw [edP_new (by omega), kindB, if_neg (by omega)], by decide, (by kernel_rfl), hn38.pk [0, 1, 2, 3, 4, 5]⟩
      refine wp_seq (sqr ?_)
      refine sqn1 (fun x_ => sA x_) (fun A61_39 => .slice A61_39 0 0) (fun A61_39 => eO 9 1 (.slice A61_39 0 0) 0 ([])) hst19 (by
          refine svA fun ρ β W X cx => ?_
          exact dv_lit (e := 9) (xs := []) rfl (by simp [go_sem]) rfl (by decide) rfl rfl (fun σ β' X' hs hb hv hx => ⟨hv, hx⟩)) fun A61_39 W39 hst39 => ?_
      refine sqp [.k 62 (.pointer (some ⟨B6_19, 2, none⟩))] ?_
      refine sqld 4 hst39 ?_
      refine sqc2 (fun x_ => sA x_) (fun x_ => sC x_) (fun A64_42 c64_42 => .slice A64_42 pg.its.length c64_42) (fun A64_42 c64_42 => eO 9 1 (.slice A64_42 pg.its.length c64_42) pg.its.length (pg.its.map Value.string)) 5 hst39 (by
          refine svA fun ρ β W X cx => ?_
          obtain ⟨i0, hi0, hz0, hz1, hz2⟩ := info_parts Try.infoStr
          refine dv_append (n := 0) (m := pg.its.length) (nm := pg.its.length) (xs := []) (news := pg.its.map Value.string) (xs' := pg.its.map Value.string) rfl (ty := 49) rfl (by kernel_rfl) hi0 hz0 hz1 hz2 rfl (cx.ou 61) cx (cx.init 5 _ rfl) rfl (cx.ou 63) (by first | (simp; done) | (simp; omega)) (ePt_at (CtxV.holdF cx (cx.init 2 _ rfl) rfl) (hsub _ hpg.2)) (str_one _) (by simp only [maxLen]; omega) (by omega) rfl rfl rfl (by omega) (rfl) (fun σ β' X' hs hb hv hx => ?_)
          exact ⟨hv, hx⟩) fun A64_42 c64_42 W42 hst42 => ?_
      refine sqp [.m 7 64] ?_
      refine then_normal (wp_seq (wp_block ?_))
      rw [show pg.its.map Value.string = (pg.its ++ List.replicate 0 ByteArray.empty).map Value.string by simp] at hst42
      refine wp_loopT (fun t_ mz az W => ∃ m : Nat, ∃ rr : Nat, ∃ XA : Option Addr, ∃ XC : Nat, m = pg.its.length + rr ∧ (rr = 0 ∨ (m : Int) ≤ es + 1) ∧ m ≤ 101 ∧ mz = 102 - m ∧ az = ⟨(ovr (jv az) [(7, 7, 0, [.slice XA m XC]), (57, 65, 8, [])] t_).toArray, []⟩ ∧ St w fp [eB b 64 #[.slice LA n lc], eO 51 3 (.slice LA n lc) n (Ps.flatMap ptC), ePt Qs, eB B5_12 99 #[vi ep, vi es, .string eb], eB B6_19 51 #[vi pg.k, vi pg.l, .slice pg.A pg.its.length pg.c], eO 9 1 (.slice XA m XC) m ((pg.its ++ List.replicate rr ByteArray.empty).map Value.string)] W) (102 - pg.its.length) ?_ ?_
      · -- the loop begins
        exact ⟨pg.its.length, 0, A64_42, c64_42, rfl, .inl rfl, hpl, rfl, (by kernel_rfl), hst42.pk [0, 1, 2, 3, 4, 5]⟩
      rintro n44 a44 W44 ⟨m, rr, XA, XC, hmr, hr0, hm1, rfl, hj_, hst44⟩
      refine ovz hj_ fun u44_ => ?_
      refine wp_seq (wp_seq (sqr (sqp [.m 65 7, .k 66 (vi ((m : Int))), .k 67 (.pointer (some ⟨B5_12, 1, none⟩))] ?_)))
      refine sqld 3 hst44 ?_
      refine sqp [.k 69 (.bool (decide ((m : Int) ≤ es)))] ?_
      refine then_normal (wds (fun hs50 hs50p => ?_) fun hs50 hs50p => ?_)
      · refine wp_skip (then_normal (wp_block (sqr (sqp [.m 70 7] ?_))))
        refine sqn1 (fun x_ => sA x_) (fun A71_52 => .slice A71_52 1 1) (fun A71_52 => eO 9 1 (.slice A71_52 1 1) 1 ([.string ⟨#[]⟩])) hst44 (by
            refine svA fun ρ β W X cx => ?_
            exact dv_lit (e := 9) (xs := [.string ⟨#[]⟩]) rfl (by simp [go_sem, cx.sees.const]) rfl (by decide) rfl rfl (fun σ β' X' hs hb hv hx => ⟨hv, hx⟩)) fun A71_52 W52 hst52 => ?_
        refine sqc2 (fun x_ => sA x_) (fun x_ => sC x_) (fun A72_53 c72_53 => .slice A72_53 (m + 1) c72_53) (fun A72_53 c72_53 => eO 9 1 (.slice A72_53 (m + 1) c72_53) (m + 1) ((pg.its ++ List.replicate (rr + 1) ByteArray.empty).map Value.string)) 5 hst52 (by
            refine svA fun ρ β W X cx => ?_
            obtain ⟨i0, hi0, hz0, hz1, hz2⟩ := info_parts Try.infoStr
            refine dv_append (n := m) (m := 1) (nm := m + 1) (xs := (pg.its ++ List.replicate rr ByteArray.empty).map Value.string) (news := [.string ⟨#[]⟩]) (xs' := (pg.its ++ List.replicate (rr + 1) ByteArray.empty).map Value.string) rfl (ty := 49) rfl (by kernel_rfl) hi0 hz0 hz1 hz2 rfl (cx.ou 70) cx (cx.init 5 _ rfl) rfl (cx.ou 71) (by first | (simp; done) | (simp; omega)) (At.of_own (cx.ri 6 rfl)) (by simp [Value.oneCell']) (by simp only [maxLen]; omega) (by omega) rfl rfl rfl (by omega) (rep_snoc _ _) (fun σ β' X' hs hb hv hx => ?_)
            exact ⟨hv, hx⟩) fun A72_53 c72_53 W53 hst53 => ?_
        refine sqp [.m 7 72] ?_
        refine blk_normal (then_normal ?_)
        refine ⟨102 - ((m + 1)), by omega, ?_⟩
        exact ⟨(m + 1), (rr + 1), A72_53, c72_53, by omega, .inr (by omega), by omega, rfl, (by kernel_rfl), hst53.pk [0, 1, 2, 3, 4, 5]⟩
      refine wp_exit (then_exit (then_exit (blk_eq (then_normal (wp_seq (sqr (sqp [.m 73 7, .k 74 (.pointer (some ⟨B5_12, 1, none⟩))] ?_)))))))
      refine sqld 3 hst44 ?_
      refine sqp [.k 76 (.pointer (some ⟨B5_12, 2, none⟩))] ?_
      refine sqld 3 hst44 ?_
      refine sql (.pointer (some ((ad XA).add ((es).toNat)))) hst44 (fun cx => run_indexSl (e := 9) (m := (es).toNat) rfl (by kernel_rfl) (by kernel_rfl) (cx.ou 73) (cx.ou 75) (by omega) (by omega) (At.of_own (cx.ri 5 rfl)) (by rw [List.length_map, List.length_append, List.length_replicate]; omega)) ?_
      refine sqc (eO 9 1 (.slice XA m XC) m (((pg.its ++ List.replicate rr ByteArray.empty).set (es).toNat eb).map Value.string)) 5 hst44 (by
          refine svA fun ρ β W X cx => ?_
          exact dv_storeRow (m := (es).toNat) (n := m) rfl (cx.ou 78) (show _ = Value.string eb from (cx.ou 77)) (by kernel_rfl) rfl rfl cx (cx.init 5 _ rfl) rfl (by omega) rfl (by rw [List.map_set]) rfl rfl (fun σ β' X' hs hb hx => hx)) fun W61 hst61 => ?_
      refine then_normal (sqr (sqp [.m 79 7, .k 80 (.pointer (some ⟨B6_19, 2, none⟩))] ?_))
      refine sqst (n := 1) 4 #[vi pg.k, vi pg.l, .slice XA m XC] hst61 fun W64 hst64 => ?_
      refine then_normal ?_
      have hs9 : (pg.its ++ List.replicate rr ByteArray.empty).set (es).toNat eb = (setI pg.its (es).toNat eb) := by rw [setI, show rr = (es).toNat + 1 - pg.its.length by omega]
      have hm9 : m = (setI pg.its (es).toNat eb).length := by rw [setI_len]; omega
      rw [hs9] at hst64
      subst hm9
      exact ⟨pg.k, pg.l, XA, XC, (setI pg.its (es).toNat eb), by rw [edP_set (by omega)]; rfl, by rw [setI_len]; omega, (by kernel_rfl), hst64.pk [0, 1, 2, 3, 4, 5]⟩
    rintro a20 W20 ⟨pk, pl, pA, pc, pits, hpe, hpz, hj_, hst20⟩
    refine ovz hj_ fun u20_ => ?_
    refine wp_region_Y [0, 1, 3, 7, 0, 16, 0, 127, 255] [[], [], [], [0], [], [3], [4], [1], [1]] [[], [], [], [], [], [], [], [], [6]] [[], [], [], [], [], [], [], [], [1]] [.k 81 (vp b), .k 82 (vp b), .k 83 (vp b), .c 84 (.slice LA n lc), .k 85 (vp B5_12), .c 86 (vi ep), .c 87 (.agg #[vi pk, vi pl, .slice pA pits.length pc]), .c 88 (.pointer (some ((ad LA).add (((ep).toNat) * 3)))), .n] (fun ix σ β X => match ix with | 0 => True | 1 => True | 2 => True | 3 => True | 4 => True | 5 => True | 6 => True | 7 => True | 8 => X 6 = eO 51 3 (.slice LA n lc) n ((Ps.set (ep).toNat (PgT.mk pk pl pA pc pits)).flatMap ptC) | _ => True) [0, 2, 3, 4, 5, 6] [3, 5, 6, 7, 8] [(81, 0, 8, 89)] hst20 ?_ ?_ ?_
    · exact fun ix _ _ _ _ _ _ hs hb hx h => match ix, h with
      | 8, h => by dsimp only; rw [← hx 6 rfl]; exact h
      | 0, _ | 1, _ | 2, _ | 3, _ | 4, _ | 5, _ | 6, _ | 7, _ | _ + 9, _ => trivial
    · refine ⟨?_, ?_, ?_, ?_, ?_, trivial⟩
      · exact xs4 rfl id fun cx => run_load1 rfl (by kernel_rfl) (cx.an 2) ((cx.bi 0 rfl).cell 0)
      · exact xs4 rfl id fun cx => run_load1 rfl (by kernel_rfl) (cx.an 4) ((cx.bi 3 rfl).cell 0)
      · exact xs4 rfl id fun cx => run_loadB (n := 3) rfl (by kernel_rfl) (by kernel_rfl) (cx.ou 6) (cx.bi 4 rfl) (nle rfl) rfl
      · exact xs4 rfl id fun cx => run_indexSlM (e := 51) (m := (ep).toNat) (sz := 3) rfl (by kernel_rfl) (by kernel_rfl) (cx.an 3) (cx.an 5) (by omega) (by omega) (At.of_ownN (cx.ri 1 rfl)) (flatPos (sz := 3) ptC_len (by decide) (by omega))
      · refine svA fun ρ β W X cx => ?_
        exact dv_storeElt (m := ((ep).toNat) * 3) (n := n) (sz := 3) (k := 3) rfl (cx.an 7) (cx.an 6) (by kernel_rfl) (by kernel_rfl) (by kernel_rfl) cx (cx.init 1 _ rfl) rfl (by omega) (by decide) rfl (putL_flat ptC_len (by omega) (PgT.mk pk pl pA pc pits)) rfl rfl (fun σ β' X' hs hb hx => hx)
    intro σ β X W65 hD hst65 fr hfr
    simp only [exq 6 ((dTn (hD 8 lq)))] at hst65
    clear hD; subst hfr; clear σ β X
    refine blk_normal (then_normal (sqr (sqp [.m 12 4, sI 13 ((k : Int) + 1) (by omega), .m 4 13] ?_)))
    refine then_normal ?_
    have hm69 := St.mergeT (Qs := Qs) (p := (PgT.mk pk pl pA pc pits)) (L := [eB b 64 #[.slice LA n lc], eO 51 3 (.slice LA n lc) n ((Ps.set (ep).toNat (PgT.mk pk pl pA pc pits)).flatMap ptC)]) (hst65.pick [0, 5, 1, 4] (by decide) rfl)
    refine ⟨l.length - ((k + 1)), by omega, ?_⟩
    exact ⟨(k + 1), (Ps.set (ep).toNat (PgT.mk pk pl pA pc pits)), (Qs ++ [(PgT.mk pk pl pA pc pits)]), by omega, by rw [do_put hek (by rw [hn]; exact hed), map_setT, hPs, hgD]; congr 1; exact hpe.symm, memT hsub _ _, by rw [List.length_set]; exact hPl, setT_len hits _ hpz, rfl, (by kernel_rfl), hm69.pk [0, 1, 2]⟩
  refine wp_exit (then_exit (then_exit (blk_eq ?_)))
  refine bpe (.tuple #[]) (by simp [results, Try.results25, go_sem]) ?_
  rw [List.take_of_length_le (by omega)] at hPs
  have hpk_ := hst2.pick [0, 1, 2] (by decide) rfl
  exact ⟨rfl, St.bk (L := []) hpk_ hPs (by rw [doB_len, hn]) hsub⟩
theorem Try.infoPage : (Try.prog.info? 51).map (fun i => (i.zero, i.size, i.bytes)) = some (some (.agg #[.int .i64 0, .int .i64 0, .slice none 0 0]), 3, 40) := by kernel_rfl
theorem pgt_zero (n : Nat) : (madeCells (Value.agg #[.int .i64 0, .int .i64 0, .slice none 0 0]).cells (n * 3)).toList = (List.replicate n pt0).flatMap ptC := madeCells_flat ptC pt0 #[.int .i64 0, .int .i64 0, .slice none 0 0] rfl (by decide) n
/-- an empty tree in page 0 of n pages -/
def blankF (n : Nat) : List PgS := doB (List.replicate n pgs0) (begF 0)
def BkPost (ps : List PgS) (w : World) (e : Ending) (w' : World) : Prop := ∃ b fp, e = .returned (.pointer (some ⟨b, 0, none⟩)) ∧ St w [] [eBk b ps fp] w'
theorem St.bkNew {w0 W : World} {bor : List Nat} {a b : Ent} (h : St w0 bor [a, b] W) : St w0 bor ([] ++ [a, b, ePt [pt0]]) W := by
  have h1 := St.emNil h
  have h2 := St.nilrow h1 9
  have h3 := St.merge (L := [a, b]) (R := []) (e := entT pt0) h2
  exact h3
set_option maxRecDepth 100000 in
set_option maxHeartbeats 2000000 in
theorem rblank_any (n : Nat) (w : World) (hn : n ≤ 1000) :
    Calls Try.prog 45 #[.int .i64 ((n : Int))] w (BkPost (blankF n) w) := by
  go_enter Try.func45, Try.ntmps45
  have hst0 := St.start w
  refine wp_seq (sqr (sqp [.k 2 (.pointer none)] ?_))
  refine then_normal (wp_seq (sqr (sqp [.m 4 0] ?_)))
  refine sqn1 (fun x_ => sA x_) (fun A5_3 => .slice A5_3 n n) (fun A5_3 => eO 51 3 (.slice A5_3 n n) n ((List.replicate n pt0).flatMap ptC)) hst0 (by
      refine svA fun ρ β W X cx => ?_
      obtain ⟨i0, hi0, hz0, hz1, hz2⟩ := info_parts Try.infoPage
      exact dv_makeN (n := n) (sz := 3) rfl (by kernel_rfl) hi0 hz0 hz1 hz2 (cx.ou 4) (cx.ou 4) (by omega) (by omega) (by omega) (by omega) (by simp only [maxLen]; omega) (pgt_zero n) rfl rfl (fun σ β' X' hs hb hv hx => ⟨hv, hx⟩)) fun A5_3 W3 hst3 => ?_
  refine sqp [.k 6 (.agg #[.slice A5_3 n n])] ?_
  refine sqbx #[.slice A5_3 n n] hst3 fun B7_5 W5 hst5 => ?_
  refine sqp [.m 3 7] ?_
  refine then_normal (wp_seq ?_)
  obtain ⟨fpB, hm7⟩ := St.bk (L := []) (Qs := [pt0]) (St.bkNew (hst5.pick [1, 0] (by decide) rfl)) (ps := List.replicate n pgs0) (by rw [List.map_replicate]; rfl) (by rw [List.length_replicate]) (fun p hp => by rw [(List.mem_replicate.1 hp).2]; simp)
  simp only [List.nil_append] at hm7
  refine sqr (sqp [.m 8 3] ?_)
  refine sqk2 (fun A9_9 c9_9 => .slice A9_9 2 c9_9) (fun A9_9 c9_9 => eO 99 3 (.slice A9_9 2 c9_9) 2 ((begF 0).flatMap edC)) hm7 (fun cx => ⟨_, (rbegin_any 0 _).mono (by rintro e W1 ⟨A4, c4, rfl, ho_, hx⟩; exact ⟨_, _, rfl, St.one hx (eO_new (n := 2) (xs := (begF 0).flatMap edC) ho_)⟩), (map1 (cx.co _))⟩) fun A9_9 c9_9 W9 hst9 => ?_
  refine sqc0s (fun X_ => X_.fp) (.tuple #[]) (fun r2_10 => eBk B7_5 (doB (List.replicate n pgs0) (begF 0)) r2_10) 0 hst9 (by
      refine svA fun ρ β W X cx => ?_
      refine DoesU.call (run_callF (args := #[vp B7_5, .slice A9_9 2 c9_9]) rfl cx.sees rfl (by kernel_rfl) (map2 (cx.ou 8) (cx.ou 9))) ?_
      refine (rdo_any B7_5 (List.replicate n pgs0) _ n _ _ (begF 0) _ (CtxV.holdF cx (cx.init 0 _ rfl) rfl) (CtxV.ltF cx (cx.init 0 _ rfl) rfl) (CtxV.keepAt cx (cx.init 1 _ rfl) (cx.init 0 _ rfl) rfl rfl (by decide)) (by decide) (by rw [List.length_replicate]) hn (fun p hp => by rw [(List.mem_replicate.1 hp).2]; decide)).mono ?_
      rintro e W1 ⟨rfl, fp4, hs4⟩
      refine ⟨_, rfl, post_obj (E := eBk B7_5 (List.replicate n pgs0) fpB) [eBk B7_5 (doB (List.replicate n pgs0) (begF 0)) fp4] (cx.init 0 _ rfl) rfl rfl hs4 (fun σ β' X' hs hb hv hN => ?_)⟩
      have hv1 := (hv 10 rfl).1; have hv2 := (hv 10 rfl).2
      exact ⟨hv1.trans rfl, eBk_self ((List.cons.inj hN).1)⟩) fun r2_10 W10 hst10 => ?_
  refine then_normal (wp_seq (sqr (sqp [.m 11 3, .m 2 11] ?_)))
  refine then_normal (wp_ret ?_)
  refine bpr (vp B7_5) (results_1 Try.results45 rpt) ?_
  exact ⟨_, _, rfl, hst10.pick [0] (by decide) rfl⟩
end
end Go.Proofs.Ytjlcoglmjldjbaa
namespace Go.Proofs.Ytjlcoglmjldjbaa
section
open Go.RowKit
set_option linter.unusedVariables false
set_option linter.unusedSimpArgs false
theorem hdB_256 (rt : Int) (dead : Bool) (hi : ByteArray) : hdB 0 rt dead hi = hdB 256 rt dead hi := rfl
set_option maxRecDepth 100000 in
set_option maxHeartbeats 2000000 in
theorem khead_w (pg rt fr : Int) (hi : ByteArray) (dead : Bool) (EA : Option Addr) (en ec : Nat) (w : World) (hrt : -1 ≤ rt ∧ rt ≤ 1000000) (hh : hi.size ≤ 1000000) :
    Calls Try.prog 79 #[.agg #[.int .i64 pg, .int .i64 256, .int .i64 rt, .string hi, .bool dead, .slice EA en ec, .int .i64 fr]] w (Ret (.string (hdB 256 rt dead hi)) w) := by
  go_enter Try.func79, Try.ntmps79
  have hst0 := St.start w
  refine wp_seq (sqr ?_)
  refine sqbx #[vi pg, vi 256, vi rt, .string hi, .bool dead, .slice EA en ec, vi fr] hst0 fun B1_1 W1 hst1 => ?_
  refine sqp [.k 2 (.string ⟨#[]⟩)] ?_
  refine then_normal (wp_seq (sqr (sqp [.k 3 (vi 0)] ?_)))
  refine then_normal (wp_seq (wp_seq (sqr (sqp [.k 4 (.pointer (some ⟨B1_1, 4, none⟩))] ?_))))
  refine sqld 0 hst1 ?_
  refine then_normal (wbs (fun hs6 => ?_) fun hs6 => ?_)
  · refine sqr (sqp [.k 3 (vi 1)] ?_)
    refine then_normal (wp_seq (wp_region_Y [0, 1, 3, 0, 8, 31, 63, 0, 128, 384, 896, 2047, 0, 4096, 16383, 32767] [[], [0], [], [], [], [], [1], [], [0], [], [], [], [], [0]] [[], [], [], [], [], [1]] [] [.k 6 (.pointer (some ⟨B1_1, 1, none⟩)), .c 7 (vi 256), tW 8 .u8 256 0 (by decide), .k 9 (vi 1), tW 10 .u8 1 1 (by decide), .a 11, .c 12 (.string (strOfNums ([0, 1]))), .k 13 (.pointer (some ⟨B1_1, 2, none⟩)), .c 14 (vi rt), tI 15 (rt + 1) (by omega), .c 16 (.string (twoB (rt + 1))), tS 17 (strOfNums ([0, 1])) (twoB (rt + 1)) (by (try simp only [ByteArray.size_append, twoB_size, two_sz]); omega), .k 18 (.pointer (some ⟨B1_1, 3, none⟩)), .c 19 (.string hi), tS 20 ((strOfNums ([0, 1])) ++ (twoB (rt + 1))) hi (by (try simp only [ByteArray.size_append, twoB_size, two_sz]); omega), .k 2 (.string (((strOfNums ([0, 1])) ++ (twoB (rt + 1))) ++ hi))] (fun ix σ β X => match ix with | 0 => True | 1 => True | 2 => True | 3 => True | 4 => True | 5 => σ 11 = .slice (sA (β 11)) 2 2 ∧ X 1 = eO 5 1 (.slice (sA (β 11)) 2 2) 2 ([.int .u8 0, .int .u8 1]) | _ => True) [0, 1] [1, 5, 6, 8, 10, 13] [(2, 15, 1, 3), (3, 0, 15, 18)] hst1 ?_ ?_ ?_))
    · exact fun ix _ _ _ _ _ _ hs hb hx h => match ix, h with
      | 5, h => by dsimp only; rw [← hs 11 rfl, ← hb 11 rfl, ← hx 1 rfl]; exact h
      | 0, _ | 1, _ | 2, _ | 3, _ | 4, _ | _ + 6, _ => trivial
    · refine ⟨?_, ?_, ?_, ?_, ?_, ?_, trivial⟩
      · exact xs4 rfl id fun cx => run_load1 rfl (by kernel_rfl) (cx.an 0) ((cx.bi 0 rfl).cell 1)
      · refine svA fun ρ β W X cx => ?_
        have fF8 : ρ (.tmp 8) = .int .u8 0 := (cx.an 2)
        have fF10 : ρ (.tmp 10) = .int .u8 1 := (cx.an 4)
        exact dv_lit (e := 5) (xs := [.int .u8 0, .int .u8 1]) rfl (by simp [go_sem, fF8, fF10]) rfl (by decide) rfl rfl (fun σ β' X' hs hb hv hx => ⟨hv, hx⟩)
      · exact xs4 rfl id fun cx => run_convB (e := 5) rfl (by kernel_rfl) (by kernel_rfl) (by kernel_rfl) (dTn (cx.an 5)).1 (cx.row (dTn (cx.an 5)).2 rfl)
      · exact xs4 rfl id fun cx => run_load1 rfl (by kernel_rfl) (cx.an 7) ((cx.bi 0 rfl).cell 2)
      · exact xsc rfl id rfl rfl fun cx => ⟨_, knum_any (rt + 1) _, (map1 (cx.an 9))⟩
      · exact xs4 rfl id fun cx => run_load1 rfl (by kernel_rfl) (cx.an 12) ((cx.bi 0 rfl).cell 3)
    intro σ β X W8 hD hst8 fr hfr
    obtain ⟨A11_8, hu_A11_8⟩ : ∃ z, sA (β 11) = z := ⟨_, rfl⟩
    simp only [exq 1 ((dTn (hD 5 lq)).2), hu_A11_8] at hst8
    simp only [ed 11 ((dTn (hD 5 lq)).1), hu_A11_8] at hfr
    clear hD hu_A11_8; subst hfr; clear σ β X
    refine then_normal (wp_ret ?_)
    refine bpr (.string (((strOfNums ([0, 1])) ++ (twoB (rt + 1))) ++ hi)) (results_1 Try.results79 rpt) ?_
    exact Ret.of (by rw [← hdB_256]; simp [hdB, *]) hst8.ext
  refine wp_skip (then_normal (wp_seq (wp_region_Y [0, 1, 3, 0, 8, 31, 63, 0, 128, 384, 896, 2047, 0, 4096, 16383, 32767] [[], [0], [], [], [], [], [1], [], [0], [], [], [], [], [0]] [[], [], [], [], [], [1]] [] [.k 6 (.pointer (some ⟨B1_1, 1, none⟩)), .c 7 (vi 256), tW 8 .u8 256 0 (by decide), .k 9 (vi 0), tW 10 .u8 0 0 (by decide), .a 11, .c 12 (.string (strOfNums ([0, 0]))), .k 13 (.pointer (some ⟨B1_1, 2, none⟩)), .c 14 (vi rt), tI 15 (rt + 1) (by omega), .c 16 (.string (twoB (rt + 1))), tS 17 (strOfNums ([0, 0])) (twoB (rt + 1)) (by (try simp only [ByteArray.size_append, twoB_size, two_sz]); omega), .k 18 (.pointer (some ⟨B1_1, 3, none⟩)), .c 19 (.string hi), tS 20 ((strOfNums ([0, 0])) ++ (twoB (rt + 1))) hi (by (try simp only [ByteArray.size_append, twoB_size, two_sz]); omega), .k 2 (.string (((strOfNums ([0, 0])) ++ (twoB (rt + 1))) ++ hi))] (fun ix σ β X => match ix with | 0 => True | 1 => True | 2 => True | 3 => True | 4 => True | 5 => σ 11 = .slice (sA (β 11)) 2 2 ∧ X 1 = eO 5 1 (.slice (sA (β 11)) 2 2) 2 ([.int .u8 0, .int .u8 0]) | _ => True) [0, 1] [1, 5, 6, 8, 10, 13] [(2, 15, 1, 3), (3, 0, 15, 18)] hst1 ?_ ?_ ?_)))
  · exact fun ix _ _ _ _ _ _ hs hb hx h => match ix, h with
    | 5, h => by dsimp only; rw [← hs 11 rfl, ← hb 11 rfl, ← hx 1 rfl]; exact h
    | 0, _ | 1, _ | 2, _ | 3, _ | 4, _ | _ + 6, _ => trivial
  · refine ⟨?_, ?_, ?_, ?_, ?_, ?_, trivial⟩
    · exact xs4 rfl id fun cx => run_load1 rfl (by kernel_rfl) (cx.an 0) ((cx.bi 0 rfl).cell 1)
    · refine svA fun ρ β W X cx => ?_
      have fF8 : ρ (.tmp 8) = .int .u8 0 := (cx.an 2)
      have fF10 : ρ (.tmp 10) = .int .u8 0 := (cx.an 4)
      exact dv_lit (e := 5) (xs := [.int .u8 0, .int .u8 0]) rfl (by simp [go_sem, fF8, fF10]) rfl (by decide) rfl rfl (fun σ β' X' hs hb hv hx => ⟨hv, hx⟩)
    · exact xs4 rfl id fun cx => run_convB (e := 5) rfl (by kernel_rfl) (by kernel_rfl) (by kernel_rfl) (dTn (cx.an 5)).1 (cx.row (dTn (cx.an 5)).2 rfl)
    · exact xs4 rfl id fun cx => run_load1 rfl (by kernel_rfl) (cx.an 7) ((cx.bi 0 rfl).cell 2)
    · exact xsc rfl id rfl rfl fun cx => ⟨_, knum_any (rt + 1) _, (map1 (cx.an 9))⟩
    · exact xs4 rfl id fun cx => run_load1 rfl (by kernel_rfl) (cx.an 12) ((cx.bi 0 rfl).cell 3)
  intro σ β X W9 hD hst9 fr hfr
  obtain ⟨A11_9, hu_A11_9⟩ : ∃ z, sA (β 11) = z := ⟨_, rfl⟩
  simp only [exq 1 ((dTn (hD 5 lq)).2), hu_A11_9] at hst9
  simp only [ed 11 ((dTn (hD 5 lq)).1), hu_A11_9] at hfr
  clear hD hu_A11_9; subst hfr; clear σ β X
  refine then_normal (wp_ret ?_)
  refine bpr (.string (((strOfNums ([0, 0])) ++ (twoB (rt + 1))) ++ hi)) (results_1 Try.results79 rpt) ?_
  exact Ret.of (by rw [← hdB_256]; simp [hdB, *]) hst9.ext
theorem khead_le (pg lv rt fr : Int) (hi : ByteArray) (dead : Bool) (EA : Option Addr) (en ec : Nat) (w : World) (hlv : 0 ≤ lv ∧ lv ≤ 256) (hrt : -1 ≤ rt ∧ rt ≤ 1000000) (hh : hi.size ≤ 1000000) : Calls Try.prog 79 #[.agg #[.int .i64 pg, .int .i64 lv, .int .i64 rt, .string hi, .bool dead, .slice EA en ec, .int .i64 fr]] w (Ret (.string (hdB lv rt dead hi)) w) := by
  rcases Int.lt_or_eq_of_le hlv.2 with h | h
  · exact khead_any pg lv rt fr hi dead EA en ec w ⟨hlv.1, by omega⟩ hrt hh
  · subst h; exact khead_w pg rt fr hi dead EA en ec w hrt hh
theorem downF_at {x : ByteArray} {es : List EnD} {j : Nat} {d : Int} (h : j < es.length) : downF x (es.drop j) d = downF x (es.drop (j + 1)) (if d < 0 ∨ lessF x (es.getD j en0).1 = false then (es.getD j en0).2.2 else d) := by
  rw [List.drop_eq_getElem_cons h, downF, List.getD_eq_getElem?_getD, List.getElem?_eq_getElem h]; rfl
theorem dn_yes {d : Int} {q : Bool} (h : (decide (d < 0) || !q) = true) : d < 0 ∨ q = false := by simpa using h
theorem dn_no {d : Int} {q : Bool} (h : (decide (d < 0) || !q) = false) : ¬ (d < 0 ∨ q = false) := by
  intro h2
  rw [Bool.or_eq_false_iff, decide_eq_false_iff_not] at h
  rcases h2 with h2 | h2
  · exact h.1 h2
  · rw [h2] at h; exact absurd h.2 (by decide)
theorem ed_snoc (O : List EdT) (e : EdT) : O.flatMap edC ++ edC e = (O ++ [e]).flatMap edC := by simp
theorem itsE_snoc {pg lv : Int} {i : Nat} {es : List EnD} : ∀ {k : Nat}, i < es.length → itsE pg lv k (es.take (i + 1)) = itsE pg lv k (es.take i) ++ [(pg, ((k + i : Nat) : Int), itB lv (es.getD i en0).2.2 (es.getD i en0).1)] := by
  induction i generalizing es with
  | zero =>
    intro k h
    cases es with
    | nil => simp at h
    | cons e es => simp [itsE]
  | succ i ih =>
    intro k h
    cases es with
    | nil => simp at h
    | cons e es =>
      rw [List.take_succ_cons, itsE, ih (k := k + 1) (by simpa using h), List.take_succ_cons, itsE, show k + 1 + i = k + (i + 1) by omega]
      simp
def hd2E (pg lv rt : Int) (hi : ByteArray) : List EdT := [(pg, -1, strOfNums [2]), (pg, 0, hdB lv rt false hi)]
theorem fresh_all {pg lv rt : Int} {hi : ByteArray} {es : List EnD} {i : Nat} (h : es.length ≤ i) : hd2E pg lv rt hi ++ itsE pg lv 1 (es.take i) = freshE pg lv rt hi es := by rw [List.take_of_length_le h]; rfl
theorem Try.infoEdit : (Try.prog.info? 99).map (fun i => (i.zero, i.size, i.bytes)) = some (some (.agg #[.int .i64 0, .int .i64 0, .string ByteArray.empty]), 3, 32) := by kernel_rfl
end
end Go.Proofs.Ytjlcoglmjldjbaa
namespace Go.Proofs.Ytjlcoglmjldjbaa
section
open Go.RowKit
set_option linter.unusedVariables false
set_option linter.unusedSimpArgs false
theorem nodF_inv {k : Int} {its : List ByteArray} {n : NoD} (h : nodF k its = some n) : ∃ x l, its = x :: l ∧ k = 2 ∧ hdOk x = true ∧ n = ⟨numS x 0 1, (numS x 2 2 : Int) - 1, x.extract 4 x.size, numS x 1 1 == 1, srt (numS x 0 1) (rawE 1 l), freeE 1 l (l.length + 1)⟩ := by
  unfold nodF at h
  split at h
  · cases h
  · rename_i hk
    split at h
    · cases h
    · rename_i x l
      split at h
      · cases h
      · split at h
        · cases h
        · rename_i h1 h2
          exact ⟨x, l, rfl, by simpa using hk, by simpa using h1, (Option.some.inj h).symm⟩
theorem freeE_le : ∀ (l : List ByteArray) (i d : Nat), i ≤ d → freeE i l d ≤ max d (i + l.length)
  | [], i, d, h => by unfold freeE; omega
  | x :: l, i, d, h => by
    unfold freeE
    split
    · rw [List.length_cons]; omega
    · have e : freeE (i + 1) l d ≤ max d (i + 1 + l.length) := by
        rcases Nat.lt_or_ge i d with h1 | h1
        · exact freeE_le l (i + 1) d h1
        · have : i = d := by omega
          have h2 : ∀ (l : List ByteArray) (i d : Nat), freeE i l d ≤ max d (i + l.length) := by
            intro l
            induction l with
            | nil => intro i d; unfold freeE; omega
            | cons y l ih =>
              intro i d; unfold freeE
              split
              · rw [List.length_cons]; omega
              · have := ih (i + 1) d; rw [List.length_cons]; omega
          exact h2 l (i + 1) d
      rw [List.length_cons]; omega
/-- what is known of a node of a book -/
structure NdOk (n : NoD) : Prop where
  lv : 0 ≤ n.lv ∧ n.lv ≤ 255
  rt : -1 ≤ n.right ∧ n.right ≤ 65535
  hi : n.high.size ≤ 900000
  len : n.es.length ≤ 100
  es : ∀ e ∈ n.es, e.1.size ≤ 900000
  fr : n.free ≤ 101
theorem nd_ok {ps : List PgS} {x : Int} {n : NoD} (hok : OkS ps) (h : ndAt ps x = some n) : NdOk n := by
  rw [ndAt_pg] at h
  split at h
  · have hv := pgV_ok hok x
    obtain ⟨y, l, h1, h2, h3, rfl⟩ := nodF_inv h
    rw [h1] at hv
    have h4 : 4 ≤ y.size := by unfold hdOk at h3; simp only [Bool.and_eq_true, decide_eq_true_eq] at h3; exact h3.1.1
    have e0 := numS_one y 0 (by omega)
    have e2 := numS_two y 2 (by omega)
    have b0 := byteI_bd (bl y) 0
    have b2 := byteI_bd (bl y) 2
    have b3 := byteI_bd (bl y) (2 + 1)
    have hy := hv.2 y (by simp)
    have hl := hv.1
    rw [List.length_cons] at hl
    have hr := rawE_len 1 l
    refine ⟨by dsimp only; omega, by dsimp only; omega, by dsimp only; rw [ByteArray.size_extract]; omega, by dsimp only; rw [srt_len]; omega, fun e he => ?_, ?_⟩
    · obtain ⟨k, hk, rfl⟩ := List.getElem_of_mem he
      have h5 := srt_size (lv := (numS y 0 1 : Int)) (l := rawE 1 l) (M := 900000) (fun p hp => hv.2 _ (List.mem_cons_of_mem _ (rawE_mem hp).1)) k
      rwa [List.getD_eq_getElem?_getD, List.getElem?_eq_getElem hk] at h5
    · have := freeE_le l 1 (l.length + 1) (by omega)
      show freeE 1 l (l.length + 1) ≤ 101
      omega
  · cases h
section
variable {ps : List PgS} {fresh root pos leaf fro to tl tk : Int} {spl : Bool} {te : ByteArray} {lf : List TaT} {nd : NoD}
theorem st_none (h : ndAt ps pos = none) : stepF ps ⟨root, pos, leaf, (te, tl, tk) :: lf, fro, to, spl⟩ fresh = (⟨root, pos, leaf, (te, tl, tk) :: lf, 0, 0, false⟩, ⟨[], false, 22⟩) := by simp [stepF, h]
theorem st_lost (h : ndAt ps pos = some nd) (hs : sndB nd.dead nd.high te = true) (hr : nd.right < 0) : stepF ps ⟨root, pos, leaf, (te, tl, tk) :: lf, fro, to, spl⟩ fresh = (⟨root, pos, leaf, (te, tl, tk) :: lf, 0, 0, false⟩, ⟨[], false, 11⟩) := by simp [stepF, h, hs, hr]
theorem st_right (h : ndAt ps pos = some nd) (hs : sndB nd.dead nd.high te = true) (hr : ¬ nd.right < 0) : stepF ps ⟨root, pos, leaf, (te, tl, tk) :: lf, fro, to, spl⟩ fresh = (⟨root, nd.right, leaf, (te, tl, tk) :: lf, 0, 0, false⟩, ⟨[], false, 0⟩) := by simp [stepF, h, hs, hr]
theorem st_down (h : ndAt ps pos = some nd) (hs : sndB nd.dead nd.high te = false) (hl : tl < nd.lv) : stepF ps ⟨root, pos, leaf, (te, tl, tk) :: lf, fro, to, spl⟩ fresh = (⟨root, downF te nd.es (-1), leaf, (te, tl, tk) :: lf, 0, 0, false⟩, ⟨[], false, 0⟩) := by simp [stepF, h, hs, hl]
theorem st_form (h : ndAt ps pos = some nd) (hs : sndB nd.dead nd.high te = false) (hl : ¬ tl < nd.lv) (hm : nd.lv < tl) : stepF ps ⟨root, pos, leaf, (te, tl, tk) :: lf, fro, to, spl⟩ fresh = (⟨root, pos, leaf, (te, tl, tk) :: lf, 0, 0, false⟩, ⟨[], false, 11⟩) := by simp [stepF, h, hs, hl, hm]
theorem st_there (h : ndAt ps pos = some nd) (hs : sndB nd.dead nd.high te = false) (hl : ¬ tl < nd.lv) (hm : ¬ nd.lv < tl) (ht : hasE nd.es te = true) : stepF ps ⟨root, pos, leaf, (te, tl, tk) :: lf, fro, to, spl⟩ fresh = (⟨root, root, if tl = 0 then pos else leaf, lf, 0, 0, false⟩, ⟨[], false, 0⟩) := by simp [stepF, h, hs, hl, hm, ht]
theorem st_put (h : ndAt ps pos = some nd) (hs : sndB nd.dead nd.high te = false) (hl : ¬ tl < nd.lv) (hm : ¬ nd.lv < tl) (ht : hasE nd.es te = false) (h8 : nd.es.length < 8) : stepF ps ⟨root, pos, leaf, (te, tl, tk) :: lf, fro, to, spl⟩ fresh = (⟨root, root, if tl = 0 then pos else leaf, lf, 0, 0, false⟩, ⟨[(pos, (nd.free : Int), itB tl tk te)], false, 0⟩) := by simp [stepF, h, hs, hl, hm, ht, h8]
end
/-- the suffix of a row -/
theorem At.dropF {T : Type} {w : World} {A : Option Addr} {f : T → List Value} {sz : Nat} {ts : List T} (hf : ∀ t, (f t).length = sz) (h : At w A (ts.flatMap f)) (l cap : Nat) (hc : ts.length ≤ cap) : At w (if cap = l then A else A.map (·.add (l * sz))) ((ts.drop l).flatMap f) := by
  have hl := flatLen hf
  by_cases e : cap = l
  · rw [List.drop_of_length_le (by omega)]; exact At.nil _ _
  · rw [if_neg e]
    intro j u hj
    rcases Nat.lt_or_ge ts.length l with h1 | h1
    · rw [List.drop_of_length_le (by omega)] at hj; simp at hj
    · have e2 : ts.flatMap f = (ts.take l).flatMap f ++ (ts.drop l).flatMap f := by rw [← List.flatMap_append, List.take_append_drop]
      have e3 : ((ts.take l).flatMap f).length = l * sz := by rw [hl, List.length_take, Nat.min_eq_left h1]
      have h2 : (ts.flatMap f)[l * sz + j]? = some u := by rw [e2, List.getElem?_append_right (by omega), e3, Nat.add_sub_cancel_left]; exact hj
      obtain ⟨ad, rfl, h3, h4⟩ := h _ _ h2
      exact ⟨_, rfl, by rw [add_block]; exact h3, by rw [add_add']; exact h4⟩
end
end Go.Proofs.Ytjlcoglmjldjbaa
namespace Go.Proofs.Ytjlcoglmjldjbaa
section
open Go.RowKit
set_option linter.unusedVariables false
set_option linter.unusedSimpArgs false
def puC (p : PuT) (A : Option Addr) (c : Nat) : Array Value := #[.int .i64 p.root, .int .i64 p.pos, .int .i64 p.leaf, .slice A p.left.length c, .int .i64 p.fro, .int .i64 p.to, .bool p.spl]
theorem at_blocks {T : Type} {W W' : World} {A : Option Addr} {f : T → List Value} {l : List T} (h : At W A (l.flatMap f)) (hk : ∀ ad, A = some ad → l ≠ [] → W'.heap[ad.block]? = W.heap[ad.block]?) : At W' A (l.flatMap f) := fun j u hj => by
  have hl : l ≠ [] := by rintro rfl; simp at hj
  obtain ⟨ad, rfl, h1, h2⟩ := h j u hj
  have h3 := hk ad rfl hl
  refine ⟨ad, rfl, ?_, ?_⟩
  · rcases Nat.lt_or_ge ad.block W'.heap.size with h4 | h4
    · exact h4
    · rw [Array.getElem?_eq_none h4, Array.getElem?_eq_getElem h1] at h3; cases h3
  · unfold World.cell? at h2 ⊢
    rw [add_block] at h2 ⊢
    rw [h3]; exact h2
/-- a book that stays while the blocks S change -/
def BkU (S : List Nat) (w : World) (bk : Nat) (ps : List PgS) : Prop := ∃ LA lc Ps, Ps.map abT = ps ∧ ∀ W, Upd S w W → BkO W bk LA lc ps.length Ps
theorem BkU.of {S : List Nat} {w : World} {bk : Nat} {ps : List PgS} {fb : List Nat} (h : (eBk bk ps fb).holds w) (hS : ∀ k ∈ fb, k < w.heap.size ∧ k ∉ S) : BkU S w bk ps := by
  obtain ⟨LA, lc, Ps, Qs, h1, h2, h3, h4, h5⟩ := h
  refine ⟨LA, lc, Ps, h1, fun W hW => ?_⟩
  have h6 : ∀ e ∈ bkL bk LA lc ps.length Ps Qs, e.holds W := fun e he => (h5 e he).2 w W (fun k hk => hW.block k (hS k (by rw [h3]; exact List.mem_flatMap.2 ⟨e, he, hk⟩)).1 (hS k (by rw [h3]; exact List.mem_flatMap.2 ⟨e, he, hk⟩)).2) (h5 e he).1
  refine ⟨h6 (eB bk 64 #[.slice LA ps.length lc]) (List.mem_cons_self ..), ?_, by rw [← h1, List.length_map], fun p hp => ePt_at (h6 (ePt Qs) (by simp [bkL])) (h2 p hp)⟩
  exact At.of_ownN (h6 (eO 51 3 (.slice LA ps.length lc) ps.length (Ps.flatMap ptC)) (by simp [bkL]))
structure NdQ (n : NoD) : Prop where
  lv : 0 ≤ n.lv ∧ n.lv ≤ 255
  es6 : ∀ e ∈ n.es, e.1.size ≤ 1000000
end
end Go.Proofs.Ytjlcoglmjldjbaa
namespace Go.Proofs.Ytjlcoglmjldjbaa
section
open Go.RowKit
set_option linter.unusedVariables false
set_option linter.unusedSimpArgs false
def putT (root : Int) (key : ByteArray) (pg sl : Int) : PuT := ⟨root, root, -1, [(entF key pg sl, 0, 0)], 0, 0, false⟩
-- sizes
/-- edits of slots that are not too high need no care; items of at most M bytes -/
def EdM (M : Nat) (l : List EdT) : Prop := ∀ e ∈ l, e.2.2.size ≤ M
structure BdM (M : Nat) (ps : List PgS) : Prop where
  its : ∀ p ∈ ps, p.2.2.length ≤ 101
  sz : ∀ p ∈ ps, ∀ s ∈ p.2.2, s.size ≤ M
theorem BdM.do1 {M : Nat} {ps : List PgS} {e : EdT} (h : BdM M ps) (he : e.2.2.size ≤ M) : BdM M (do1B ps e) := by
  unfold do1B
  split
  · rename_i hok
    have hok := of_decide_eq_true hok
    have hg := (getD_mem' (l := ps) (n := e.1.toNat) (d := pgs0) (by omega)).2
    have key : (edP (ps.getD e.1.toNat pgs0) e).2.2.length ≤ 101 ∧ ∀ s ∈ (edP (ps.getD e.1.toNat pgs0) e).2.2, s.size ≤ M := by
      unfold edP
      split
      · exact ⟨Nat.zero_le _, fun s hs => nomatch hs⟩
      · refine ⟨by rw [setI_len]; have := h.its _ hg; omega, fun s hs => ?_⟩
        rcases List.mem_or_eq_of_mem_set hs with h1 | rfl
        · rcases List.mem_append.1 h1 with h1 | h1
          · exact h.sz _ hg s h1
          · rw [(List.mem_replicate.1 h1).2]; exact Nat.zero_le _
        · exact he
    refine ⟨fun p hp => ?_, fun p hp s hs => ?_⟩
    · rcases List.mem_or_eq_of_mem_set hp with h1 | rfl
      · exact h.its p h1
      · exact key.1
    · rcases List.mem_or_eq_of_mem_set hp with h1 | rfl
      · exact h.sz p h1 s hs
      · exact key.2 s hs
  · exact h
theorem BdM.do {M : Nat} : ∀ {l : List EdT} {ps : List PgS}, BdM M ps → EdM M l → BdM M (doB ps l)
  | [], ps, h, _ => h
  | e :: l, ps, h, he => BdM.do (l := l) (h.do1 (he e (by simp))) (fun x hx => he x (by simp [hx]))
theorem hdB_size (lv rt : Int) (d : Bool) (hi : ByteArray) : (hdB lv rt d hi).size = hi.size + 4 := by
  rw [hdB, ByteArray.size_append, ByteArray.size_append, two_sz, twoB_size]; omega
theorem itB_size (lv k : Int) (e : ByteArray) : (itB lv k e).size ≤ e.size + 2 := by
  unfold itB; split
  · rw [ByteArray.size_append, twoB_size]; exact Nat.le_refl _
  · omega
theorem itsE_sz {pg lv : Int} {M : Nat} : ∀ {l : List EnD} {i : Nat}, (∀ e ∈ l, e.1.size ≤ M) → EdM (M + 10) (itsE pg lv i l)
  | [], _, _ => fun e he => nomatch he
  | x :: l, i, h => fun e he => by
    rw [itsE] at he
    rcases List.mem_cons.1 he with rfl | he
    · have := itB_size lv x.2.2 x.1
      have := h x (by simp)
      show (itB lv x.2.2 x.1).size ≤ M + 10
      omega
    · exact itsE_sz (fun y hy => h y (by simp [hy])) e he
theorem EdM.app {M : Nat} {a b : List EdT} (ha : EdM M a) (hb : EdM M b) : EdM M (a ++ b) := fun e he => by
  rcases List.mem_append.1 he with h | h
  · exact ha e h
  · exact hb e h
theorem freshE_sz {pg lv rt : Int} {hi : ByteArray} {M : Nat} {l : List EnD} (hh : hi.size ≤ M) (h : ∀ e ∈ l, e.1.size ≤ M) : EdM (M + 10) (freshE pg lv rt hi l) := by
  refine EdM.app (fun e he => ?_) (itsE_sz h)
  simp only [List.mem_cons, List.not_mem_nil, or_false] at he
  rcases he with rfl | rfl
  · show (strOfNums [2]).size ≤ M + 10
    rw [strOfNums_size]; simp
  · show (hdB lv rt false hi).size ≤ M + 10
    rw [hdB_size]; omega
theorem blank_sz (n : Nat) : BdM 16 (blankF n) ∧ (blankF n).length = n := by
  refine ⟨BdM.do ⟨fun p hp => ?_, fun p hp s hs => ?_⟩ fun e he => ?_, ?_⟩
  · rw [(List.mem_replicate.1 hp).2]; decide
  · rw [(List.mem_replicate.1 hp).2] at hs; exact nomatch hs
  · simp only [begF, List.mem_cons, List.not_mem_nil, or_false] at he
    rcases he with rfl | rfl
    · show (strOfNums [2]).size ≤ 16; rw [strOfNums_size]; decide
    · show (hdB 0 (-1) false ⟨#[]⟩).size ≤ 16; rw [hdB_size]; decide
  · rw [blankF, doB_len, List.length_replicate]
end
end Go.Proofs.Ytjlcoglmjldjbaa
namespace Go.Proofs.Ytjlcoglmjldjbaa
section
open Go.RowKit
set_option linter.unusedVariables false
set_option linter.unusedSimpArgs false
section
variable {P : Program} {ops : Array Oper} {L : List Nat} {a0 : Act} {w0 : World} {bor : List Nat} {X0 : List Ent} {us cr kl : List (List Nat)}
  {D : Nat → (Tmp → Value) → (Tmp → Value) → (Nat → Ent) → Prop} {i : Nat} {o : Oper} {ρ : Operand → Value} {β : Tmp → Value} {W : World} {X : Nat → Ent}
theorem CtxV.bkU {q q' : Nat} {bk : Nat} {ps : List PgS} {fb : List Nat} {F : Ent} (cx : CtxV ops L a0 w0 bor X0 us D i ρ β W X) (hX : X q = eBk bk ps fb) (hX' : X q' = F) (hu : (atV us i).contains q = true) (hu' : (atV us i).contains q' = true) (hne : q ≠ q') : BkU F.fp W bk ps := by
  subst hX'
  refine BkU.of (CtxV.holdF cx hX hu) fun k hk => ⟨CtxV.ltF cx hX hu k hk, fun hm => ?_⟩
  exact cx.ap q q' hu hu' hne k (by rw [hX]; exact hk) hm
end
end
end Go.Proofs.Ytjlcoglmjldjbaa
namespace Go.Proofs.Ytjlcoglmjldjbaa
section
open Go.RowKit
set_option linter.unusedVariables false
set_option linter.unusedSimpArgs false
def idxP {α : Type} (p : α → Bool) (k : Int) : List α → Int
  | [] => -1
  | x :: l => if p x then k else idxP p (k + 1) l
theorem idxP_at {α : Type} {p : α → Bool} {l : List α} {x : α} {k : Nat} (h : l[k]? = some x) : idxP p (k : Int) (l.drop k) = if p x then (k : Int) else idxP p ((k + 1 : Nat) : Int) (l.drop (k + 1)) := by
  obtain ⟨hk, rfl⟩ := List.getElem?_eq_some_iff.1 h
  rw [List.drop_eq_getElem_cons hk, idxP]; rfl
theorem idxP_any {α : Type} (p : α → Bool) (l : List α) : ∀ k : Int, 0 ≤ k → decide (0 ≤ idxP p k l) = l.any p := by
  induction l with
  | nil => intro k _; rfl
  | cons x l ih =>
    intro k hk
    rw [idxP, List.any_cons]
    cases p x with
    | true => rw [if_pos rfl, Bool.true_or]; exact decide_eq_true hk
    | false => rw [if_neg (by decide), Bool.false_or]; exact ih (k + 1) (by omega)
theorem getE3 {l : List EnD} {k : Nat} (h : k < l.length) : ∃ x y z, l[k]? = some (x, y, z) := ⟨l[k].1, l[k].2.1, l[k].2.2, List.getElem?_eq_getElem h⟩
set_option maxRecDepth 100000 in
set_option maxHeartbeats 4000000 in
theorem kfresh_any (pg : Int) (np lv rt fr : Int) (hg : ByteArray) (EA : Option Addr) (ec n : Nat) (es : List EnD) (w : World) (hE : At w EA (es.flatMap enC)) (hn : es.length = n) (hez : ∀ e ∈ es, e.1.size ≤ 1000000) (hnb : n ≤ 1000) (hlv : 0 ≤ lv ∧ lv ≤ 256) (hrt : -1 ≤ rt ∧ rt ≤ 1000000) (hhi : hg.size ≤ 1000000) :
    Calls Try.prog 81 #[.int .i64 pg, .agg #[.int .i64 np, .int .i64 lv, .int .i64 rt, .string hg, .bool false, .slice EA n ec, .int .i64 fr]] w (EdPost (freshE pg lv rt hg es) w) := by
  go_enter Try.func81, Try.ntmps81
  have hst0 := St.start w
  refine wp_seq (sqr ?_)
  refine sqbx #[vi np, vi lv, vi rt, .string hg, .bool false, .slice EA n ec, vi fr] hst0 fun B3_1 W1 hst1 => ?_
  refine sqp [.k 4 (.slice none 0 0)] ?_
  refine then_normal (wp_seq (wp_region_Y [0, 0, 2, 7, 0, 0, 32, 112, 255, 511] [[], [], [1], [], [], [0]] [[], [1], [], [], [], [], [], [], [2]] [] [.k 8 (vi pg), .a 9, .c 10 (.string (strOfNums ([2]))), .k 11 (.agg #[vi pg, vi (-1), .string (strOfNums ([2]))]), .k 12 (vi pg), .c 13 (.agg #[vi np, vi lv, vi rt, .string hg, .bool false, .slice EA n ec, vi fr]), .c 14 (.string (hdB lv rt false hg)), .k 15 (.agg #[vi pg, vi 0, .string (hdB lv rt false hg)]), .a 16, .a 5] (fun ix σ β X => match ix with | 0 => True | 1 => σ 9 = .slice (sA (β 9)) 1 1 ∧ X 1 = eO 5 1 (.slice (sA (β 9)) 1 1) 1 ([.int .u8 2]) | 2 => True | 3 => True | 4 => True | 5 => True | 6 => True | 7 => True | 8 => σ 16 = .slice ((some ⟨(pb' (β 16)), 0, none⟩)) 2 2 ∧ X 2 = eO 99 3 (.slice ((some ⟨(pb' (β 16)), 0, none⟩)) 2 2) 2 ([vi pg, vi (-1), .string (strOfNums ([2])), vi pg, vi 0, .string (hdB lv rt false hg)]) | 9 => σ 5 = .slice ((some ⟨(pb' (β 16)), 0, none⟩)) 2 2 | _ => True) [0, 1, 2] [1, 2, 5, 6, 8, 9] [(5, 9, 1, 6), (2, 0, 9, 11)] hst1 ?_ ?_ ?_))
  · exact fun ix _ _ _ _ _ _ hs hb hx h => match ix, h with
    | 1, h => by dsimp only; rw [← hs 9 rfl, ← hb 9 rfl, ← hx 1 rfl]; exact h
    | 8, h => by dsimp only; rw [← hs 16 rfl, ← hb 16 rfl, ← hx 2 rfl]; exact h
    | 9, h => by dsimp only; rw [← hs 5 rfl, ← hb 16 rfl]; exact h
    | 0, _ | 2, _ | 3, _ | 4, _ | 5, _ | 6, _ | 7, _ | _ + 10, _ => trivial
  · refine ⟨?_, ?_, ?_, ?_, ?_, ?_, trivial⟩
    · refine svA fun ρ β W X cx => ?_
      exact dv_lit (e := 5) (xs := [.int .u8 2]) rfl (by simp [go_sem, cx.sees.const]) rfl (by decide) rfl rfl (fun σ β' X' hs hb hv hx => ⟨hv, hx⟩)
    · exact xs4 rfl id fun cx => run_convB (e := 5) rfl (by kernel_rfl) (by kernel_rfl) (by kernel_rfl) (dTn (cx.an 1)).1 (cx.row (dTn (cx.an 1)).2 rfl)
    · exact xs4 rfl id fun cx => run_loadB (n := 7) rfl (by kernel_rfl) (by kernel_rfl) (cx.ou 3) (cx.bi 0 rfl) (nle rfl) rfl
    · exact xsc rfl id rfl rfl fun cx => ⟨_, khead_le np lv rt fr hg false _ _ _ _ (by omega) (by omega) (by first | omega | decide), (map1 (cx.an 5))⟩
    · refine svA fun ρ β W X cx => ?_
      have fF11 : ρ (.tmp 11) = .agg #[vi pg, vi (-1), .string (strOfNums ([2]))] := (cx.an 3)
      have fF15 : ρ (.tmp 15) = .agg #[vi pg, vi 0, .string (hdB lv rt false hg)] := (cx.an 7)
      exact dv_litN (e := 99) (sz := 3) (xs := [vi pg, vi (-1), .string (strOfNums ([2])), vi pg, vi 0, .string (hdB lv rt false hg)]) rfl (by simp [go_sem, fF11, fF15]) rfl (by decide) rfl rfl (fun σ β' X' hs hb hv hx => ⟨hv, hx⟩)
    · exact sv rfl rfl rfl rfl rfl _ (fun _ _ _ h => h) (fun β β' h => by rw [h 16 (by decide)]) fun ρ β W X cx => run_assign' rfl (dTn (cx.an 8)).1
  intro σ β X W3 hD hst3 fr hfr
  obtain ⟨A9_3, hu_A9_3⟩ : ∃ z, sA (β 9) = z := ⟨_, rfl⟩
  obtain ⟨B16_3, hu_B16_3⟩ : ∃ z, pb' (β 16) = z := ⟨_, rfl⟩
  simp only [exq 1 ((dTn (hD 1 lq)).2), exq 2 ((dTn (hD 8 lq)).2), hu_A9_3, hu_B16_3] at hst3
  simp only [ed 9 ((dTn (hD 1 lq)).1), ed 16 ((dTn (hD 8 lq)).1), ed 5 ((dTn (hD 9 lq))), hu_A9_3, hu_B16_3] at hfr
  clear hD hu_A9_3 hu_B16_3; subst hfr; clear σ β X
  refine then_normal (wp_seq (wp_seq (sqr (sqp [.k 17 (.pointer (some ⟨B3_1, 5, none⟩))] ?_))))
  refine sqld 0 hst3 ?_
  refine sqp [.k 19 (vi ((n : Int))), .k 20 (vi 0)] ?_
  refine then_normal (wp_block ?_)
  rw [show [vi pg, vi (-1), .string (strOfNums ([2])), vi pg, vi 0, .string (hdB lv rt false hg)] = (hd2E pg lv rt hg).flatMap edC from rfl] at hst3
  refine wp_loopT (fun t_ mz az W => ∃ i : Nat, ∃ nn : Nat, ∃ O : List EdT, ∃ OA : Option Addr, ∃ OC : Nat, i ≤ n ∧ O = hd2E pg lv rt hg ++ itsE pg lv 1 (es.take i) ∧ O.length = nn ∧ nn ≤ 10 + i ∧ mz = n - i ∧ az = ⟨(ovr (jv az) [(5, 5, 0, [.slice OA nn OC]), (0, 6, 2, []), (12, 20, 0, [vi ((i : Int))]), (0, 21, 15, [])] t_).toArray, []⟩ ∧ St w [] [eB B3_1 116 #[vi np, vi lv, vi rt, .string hg, .bool false, .slice EA n ec, vi fr], eO 5 1 (.slice A9_3 1 1) 1 ([.int .u8 2]), eO 99 3 (.slice OA nn OC) nn (O.flatMap edC)] W) (n - 0) ?_ ?_
  · -- the loop begins
    exact ⟨0, 2, (hd2E pg lv rt hg), (some ⟨B16_3, 0, none⟩), 2, Nat.zero_le _, rfl, rfl, by omega, rfl, (by kernel_rfl), hst3.pk [0, 1, 2]⟩
  rintro n8 a8 W8 ⟨i, nn, O, OA, OC, hi, hO, hOl, hnn, rfl, hj_, hst8⟩
  refine ovz hj_ fun u8_ => ?_
  refine wp_seq (sqr (sqp [.k 21 (.bool (decide ((i : Int) < (n : Int))))] ?_))
  refine then_normal (wp_seq (wds (fun hs10 hs10p => ?_) fun hs10 hs10p => ?_))
  · refine wp_skip (then_normal (wp_seq (wp_block (wp_seq (sqr (sqp [.m 22 20] ?_))))))
    refine sql (.pointer (some ((ad EA).add (i * 3)))) hst8 (fun cx => run_indexSlM (e := 104) (m := i) (sz := 3) rfl (by kernel_rfl) (by kernel_rfl) (cx.ou 18) (cx.ou 20) (by omega) (by omega) (hE.ext cx.upd.to_ext) (flatPos (sz := 3) enC_len (by decide) (by omega))) ?_
    refine sql (.agg #[.string ((es.getD i en0).1), vi (((es.getD i en0).2.1 : Int)), vi ((es.getD i en0).2.2)]) hst8 (fun cx => run_loadElt (f := enC) (m := i) (sz := 3) (off := 0) (n := 3) rfl (by kernel_rfl) (by kernel_rfl) (cx.ou 23) rfl enC_len (hE.ext cx.upd.to_ext) (en_get (by omega)) (fun k hk => match k, hk with | 0, _ => rfl | 1, _ => rfl | 2, _ => rfl | k + 3, hk => absurd hk (by omega))) ?_
    refine sqal #[.string ByteArray.empty, vi 0, vi 0] hst8 fun B7_14 W14 hst14 => ?_
    refine sqp [.m 6 22] ?_
    refine sqst (n := 3) 3 #[.string ((es.getD i en0).1), vi (((es.getD i en0).2.1 : Int)), vi ((es.getD i en0).2.2)] hst14 fun W16 hst16 => ?_
    refine then_normal (sqr (sqp [.m 25 5, .m 26 0, .m 27 6, sI 28 ((i : Int) + 1) (by omega)] ?_))
    refine sqlb 0 7 hst16 ?_
    refine sqlb 3 3 hst16 ?_
    refine sqk (.string (itB lv ((es.getD i en0).2.2) ((es.getD i en0).1))) hst16 (fun cx => ⟨_, kitem_any np lv rt fr hg false _ _ _ ((es.getD i en0).1) ((es.getD i en0).2.1 : Int) ((es.getD i en0).2.2) _ (getD_size hez _), (map2 (cx.ou 29) (cx.ou 30))⟩) fun W23 hst23 => ?_
    refine sqp [.k 32 (.agg #[vi pg, vi ((i : Int) + 1), .string (itB lv ((es.getD i en0).2.2) ((es.getD i en0).1))])] ?_
    refine sqli 99 3 1 (edC (pg, (i : Int) + 1, itB lv ((es.getD i en0).2.2) ((es.getD i en0).1))) hst23 (@fun ρ β W X cx => by have fF32 : ρ (.tmp 32) = .agg #[vi pg, vi ((i : Int) + 1), .string (itB lv ((es.getD i en0).2.2) ((es.getD i en0).1))] := (cx.ou 32); simp [go_sem, fF32, edC]) fun B33_25 W25 hst25 => ?_
    refine sqap (nn + 1) ((O ++ [(pg, (i : Int) + 1, itB lv ((es.getD i en0).2.2) ((es.getD i en0).1))]).flatMap edC) 2 hst25 Try.infoEdit (fun cx => (At.of_ownN (cx.ri 4 rfl))) (h1 := by simp [edC, Value.oneCell']) (hxs := ed_snoc _ _) fun A34_26 c34_26 W26 hst26 => ?_
    refine sqp [.m 5 34] ?_
    refine blk_normal (then_normal (sqr (sqp [sI 35 ((i : Int) + 1) (by omega), .m 20 35] ?_)))
    refine then_normal ?_
    refine ⟨n - ((i + 1)), by omega, ?_⟩
    exact ⟨(i + 1), (nn + 1), (O ++ [(pg, (i : Int) + 1, itB lv ((es.getD i en0).2.2) ((es.getD i en0).1))]), A34_26, c34_26, by omega, by rw [hO, itsE_snoc (by omega), ← List.append_assoc]; (first | rfl | (congr 4; omega) | simp), by rw [List.length_append, hOl]; rfl, by omega, rfl, (by kernel_rfl), hst26.pk [0, 1, 2]⟩
  refine wp_exit (then_exit (then_exit (blk_eq (then_normal (wp_seq (sqr (sqp [.m 36 5, .m 4 36] ?_)))))))
  refine then_normal (wp_ret ?_)
  refine bpr (.slice OA nn OC) (results_1 Try.results81 rpt) ?_
  rw [fresh_all (by omega)] at hO
  rw [hO] at hst8 hOl
  rw [← hOl] at hst8 ⊢
  have ho_ := hst8.own' 2 rfl
  exact ⟨_, _, rfl, ho_, hst8.ext⟩
theorem kfresh_0 (pg : Int) (w : World) : Calls Try.prog 81 #[.int .i64 pg, .agg #[.int .i64 0, .int .i64 0, .int .i64 (-1), .string ⟨#[]⟩, .bool false, .slice none 0 0, .int .i64 0]] w (EdPost (begF pg) w) := kfresh_any pg 0 0 (-1) 0 ⟨#[]⟩ none 0 0 [] w (At.nil _ _) rfl (fun e he => nomatch he) (by decide) (by decide) (by decide) (by decide)
set_option maxRecDepth 100000 in
set_option maxHeartbeats 2000000 in
theorem kbegin_any (n : Int) (w : World) :
    Calls Try.prog 46 #[.int .i64 n] w (EdPost (begF n) w) := by
  go_enter Try.func46, Try.ntmps46
  have hst0 := St.start w
  refine wp_seq (sqr (sqp [.k 2 (.slice none 0 0)] ?_))
  refine then_normal (wp_seq (sqr (sqp [.m 3 0, .k 4 (.agg #[vi 0, vi 0, vi (-1), .string ByteArray.empty, .bool false, .slice none 0 0, vi 0])] ?_)))
  refine sqk2 (fun A5_4 c5_4 => .slice A5_4 2 c5_4) (fun A5_4 c5_4 => eO 99 3 (.slice A5_4 2 c5_4) 2 ((begF n).flatMap edC)) hst0 (fun cx => ⟨_, (kfresh_0 n _).mono (by rintro e W1 ⟨A4, c4, rfl, ho_, hx⟩; exact ⟨_, _, rfl, St.one hx (eO_new (n := 2) (xs := (begF n).flatMap edC) ho_)⟩), (map2 (cx.ou 3) (cx.ou 4))⟩) fun A5_4 c5_4 W4 hst4 => ?_
  refine sqp [.m 2 5] ?_
  refine then_normal (wp_ret ?_)
  refine bpr (.slice A5_4 2 c5_4) (results_1 Try.results46 rpt) ?_
  have ho_ := hst4.own' 0 rfl
  exact ⟨_, _, rfl, ho_, hst4.ext⟩
set_option maxRecDepth 100000 in
set_option maxHeartbeats 2000000 in
theorem kidx_any (FA : Option Addr) (fc : Nat) (ks : List EnD) (f0 : FuncId) (cap : Array Value) (p : EnD → Bool) (w : World) (hF : At w FA (ks.flatMap enC)) (hl : ks.length ≤ 100000) (hcf : callP Try.prog f0 = true) (hf : ∀ (W : World) (k : EnD), Ext w W → Calls Try.prog f0 (#[.agg #[.string k.1, .int .i64 (k.2.1 : Int), .int .i64 k.2.2]] ++ cap) W (Ret (.bool (p k)) W)) :
    Calls Try.prog 82 #[.slice FA ks.length fc, .func (.func f0) #[] cap] w (Ret (.int .i64 (idxP p 0 ks)) w) := by
  go_enter Try.func82, Try.ntmps82
  have hst0 := St.start w
  refine wp_seq (sqr (sqp [.k 4 (vi 0)] ?_))
  refine then_normal (wp_seq (wp_seq (sqr (sqp [.m 6 0, .k 7 (vi ((ks.length : Int))), .k 8 (vi 0)] ?_))))
  refine then_normal (wp_block ?_)
  refine wp_loopT (fun t_ mz az W => ∃ k : Nat, k ≤ ks.length ∧ idxP p 0 ks = idxP p (k : Int) (ks.drop k) ∧ mz = ks.length - k ∧ az = ⟨(ovr (jv az) [(4, 4, 2, []), (2, 8, 0, [vi ((k : Int))]), (0, 9, 10, [])] t_).toArray, []⟩ ∧ St w [] [] W) (ks.length - 0) ?_ ?_
  · -- the loop begins
    exact ⟨0, Nat.zero_le _, rfl, rfl, (by kernel_rfl), hst0.pk []⟩
  rintro n5 a5 W5 ⟨k, hk, hkr, rfl, hj_, hst5⟩
  refine ovz hj_ fun u5_ => ?_
  refine wp_seq (sqr (sqp [.k 9 (.bool (decide ((k : Int) < (ks.length : Int))))] ?_))
  refine then_normal (wp_seq (wds (fun hs7 hs7p => ?_) fun hs7 hs7p => ?_))
  · refine wp_skip (then_normal (wp_seq (wp_block (wp_seq (sqr (sqp [.m 10 8, .m 5 10] ?_))))))
    refine then_normal (wp_seq ?_)
    obtain ⟨kx, ky, kz, hkj⟩ := getE3 (l := ks) (k := k) (by omega)
    refine sqr (sqp [.m 11 1, .m 12 0, .m 13 5] ?_)
    refine sql (.pointer (some ((ad FA).add (k * 3)))) hst5 (fun cx => run_indexSlM (e := 104) (m := k) (sz := 3) rfl (by kernel_rfl) (by kernel_rfl) (cx.ou 12) (cx.ou 13) (by omega) (by omega) (hF.ext cx.upd.to_ext) (flatPos (sz := 3) enC_len (by decide) (by omega))) ?_
    refine sql (.agg #[.string kx, vi ((ky : Int)), vi kz]) hst5 (fun cx => run_loadElt (f := enC) (m := k) (sz := 3) (off := 0) (n := 3) rfl (by kernel_rfl) (by kernel_rfl) (cx.ou 14) rfl enC_len (hF.ext cx.upd.to_ext) hkj (fun k hk => match k, hk with | 0, _ => rfl | 1, _ => rfl | 2, _ => rfl | k + 3, hk => absurd hk (by omega))) ?_
    refine sqv (.bool ((p (kx, ky, kz)))) hst5 (sv_call rfl rfl rfl rfl rfl (fun _ _ _ h => h) fun ρ β W X cx => ⟨_, _, run_callV (f := f0) (args := #[.agg #[.string kx, vi ((ky : Int)), vi kz]]) (args' := #[.agg #[.string kx, vi ((ky : Int)), vi kz]] ++ cap) rfl rfl (cx.ou 11) hcf (map1 (cx.ou 15)) (by rw [Array.empty_append]), (by have h9 := hf W (kx, ky, kz) cx.upd.to_ext; dsimp only at h9; exact h9)⟩) fun W15 hst15 => ?_
    refine then_normal (wbs (fun hs16 => ?_) fun hs16 => ?_)
    · refine wp_seq (sqr (sqp [.m 17 5, .m 4 17] ?_))
      refine then_normal (wp_ret (blk_ret (then_ret (then_ret (blk_ret (then_ret ?_))))))
      refine bpr (vi ((k : Int))) (results_1 Try.results82 rpt) ?_
      exact Ret.of (by rw [hkr, idxP_at hkj, hs16]; rfl) hst15.ext
    refine wp_skip (blk_normal (then_normal (sqr (sqp [sI 18 ((k : Int) + 1) (by omega), .m 8 18] ?_))))
    refine then_normal ?_
    refine ⟨ks.length - ((k + 1)), by omega, ?_⟩
    exact ⟨(k + 1), by omega, by rw [hkr, idxP_at hkj, hs16]; rfl, rfl, (by kernel_rfl), hst15.pk []⟩
  refine wp_exit (then_exit (then_exit (blk_eq (then_normal (wp_seq (sqr (sqp [.k 4 (vi (-1))] ?_)))))))
  refine then_normal (wp_ret ?_)
  refine bpr (vi (-1)) (results_1 Try.results82 rpt) ?_
  exact Ret.of (by rw [hkr, List.drop_of_length_le (by omega)]; rfl) hst5.ext
set_option maxRecDepth 100000 in
set_option maxHeartbeats 2000000 in
theorem kcon_any (FA : Option Addr) (fc : Nat) (ks : List EnD) (f0 : FuncId) (cap : Array Value) (p : EnD → Bool) (w : World) (hF : At w FA (ks.flatMap enC)) (hl : ks.length ≤ 100000) (hcf : callP Try.prog f0 = true) (hf : ∀ (W : World) (k : EnD), Ext w W → Calls Try.prog f0 (#[.agg #[.string k.1, .int .i64 (k.2.1 : Int), .int .i64 k.2.2]] ++ cap) W (Ret (.bool (p k)) W)) :
    Calls Try.prog 51 #[.slice FA ks.length fc, .func (.func f0) #[] cap] w (Ret (.bool (ks.any p)) w) := by
  go_enter Try.func51, Try.ntmps51
  have hst0 := St.start w
  refine wp_seq (sqr (sqp [.k 4 (.bool false)] ?_))
  refine then_normal (wp_seq (sqr (sqp [.m 5 0, .m 6 1] ?_)))
  refine sqv (vi ((idxP p 0 ks))) hst0 (sv_call rfl rfl rfl rfl rfl (fun _ _ _ h => h) fun ρ β W X cx => ⟨_, _, run_callF (args := #[.slice FA ks.length fc, .func (.func f0) #[] cap]) rfl cx.sees rfl (by kernel_rfl) (map2 (cx.ou 5) (cx.ou 6)), kidx_any _ _ ks _ _ p _ (hF.ext cx.upd.to_ext) hl hcf (fun W k hW => hf W k (cx.upd.to_ext.trans hW))⟩) fun W4 hst4 => ?_
  refine sqp [.k 8 (.bool (decide (0 ≤ (idxP p 0 ks)))), .m 4 8] ?_
  refine then_normal (wp_ret ?_)
  refine bpr (.bool (decide (0 ≤ (idxP p 0 ks)))) (results_1 Try.results51 rpt) ?_
  exact Ret.of (by rw [← idxP_any _ _ 0 (by omega)]) hst4.ext
set_option maxRecDepth 100000 in
set_option maxHeartbeats 2000000 in
theorem kput1_any (x : ByteArray) (y z : Int) (tb : Nat) (te : ByteArray) (t1 tk tl : Int) (w : World) (h1 : Blk w tb 106 #[.string te, .int .i64 t1, .int .i64 tk, .int .i64 tl]) :
    Calls Try.prog 83 #[.agg #[.string x, .int .i64 y, .int .i64 z], .pointer (some ⟨tb, 0, none⟩)] w (Ret (.bool (x.toList == te.toList)) w) := by
  go_enter Try.func83, Try.ntmps83
  have hst0 := St.start w
  refine wp_seq (sqr ?_)
  refine sqbx #[.string x, vi y, vi z] hst0 fun B2_1 W1 hst1 => ?_
  refine sqp [.k 3 (.bool false)] ?_
  refine then_normal (wp_seq (sqr (sqp [.k 4 (vp B2_1)] ?_)))
  refine sqld 0 hst1 ?_
  refine sqp [.k 6 (vp tb), .k 7 (vp tb)] ?_
  refine sql (.string te) hst1 (fun cx => run_load1 rfl (by kernel_rfl) (cx.ou 7) ((Blk.ext h1 cx.upd.to_ext).cell 0)) ?_
  refine sqp [.k 9 (.bool (x.toList == te.toList)), .m 3 9] ?_
  refine then_normal (wp_ret ?_)
  refine bpr (.bool (x.toList == te.toList)) (results_1 Try.results83 rpt) ?_
  exact Ret.bool rfl hst1.ext
theorem kput1_con {A : Option Addr} {c : Nat} {es : List EnD} {w : World} {tb : Nat} {te : ByteArray} {t1 tk tl : Int} (hE : At w A (es.flatMap enC)) (hl : es.length ≤ 100000) (h1 : Blk w tb 106 #[.string te, .int .i64 t1, .int .i64 tk, .int .i64 tl]) :
    Calls Try.prog 51 #[.slice A es.length c, .func (.func 83) #[] #[.pointer (some ⟨tb, 0, none⟩)]] w (Ret (.bool (hasE es te)) w) :=
  kcon_any A c es 83 #[.pointer (some ⟨tb, 0, none⟩)] (fun e => e.1.toList == te.toList) w hE hl (by kernel_rfl) (fun W k hW => kput1_any k.1 _ k.2.2 tb te t1 tk tl W (h1.ext hW))
end
end Go.Proofs.Ytjlcoglmjldjbaa
namespace Go.Proofs.Ytjlcoglmjldjbaa
section
open Go.RowKit
set_option linter.unusedVariables false
set_option linter.unusedSimpArgs false
/-- what a node's parts are known by -/
structure NfOk (M : Nat) (its : List ByteArray) (n : NoD) : Prop where
  lv : 0 ≤ n.lv
  len : n.es.length ≤ its.length
  hi : n.high.size ≤ M
  lo : ∀ e ∈ n.es, 4 ≤ e.1.size
  sz : ∀ e ∈ n.es, e.1.size ≤ M
theorem nf_ok {k : Int} {its : List ByteArray} {n : NoD} {M : Nat} (h : nodF k its = some n) (hs : ∀ s ∈ its, s.size ≤ M) : NfOk M its n := by
  unfold nodF at h
  split at h
  · cases h
  · split at h
    · cases h
    · rename_i x l
      split at h
      · cases h
      · rename_i hok
        split at h
        · cases h
        · rename_i hb
          injection h with h
          subst h
          have hmem : ∀ e ∈ (sortR ((rawE 1 l).map (parE (numS x 0 1))).reverse).reverse, ∃ p ∈ rawE 1 l, e = parE (numS x 0 1) p := fun e he => by
            obtain ⟨p, hp, rfl⟩ := List.mem_map.1 (List.mem_reverse.1 (sortR_mem (List.mem_reverse.1 he)))
            exact ⟨p, hp, rfl⟩
          refine ⟨by dsimp only; omega, ?_, ?_, fun e he => ?_, fun e he => ?_⟩
          · have h1 := rawE_len 1 l
            show ((sortR ((rawE 1 l).map (parE (numS x 0 1))).reverse).reverse).length ≤ _
            rw [List.length_reverse, sortR_len, List.length_reverse, List.length_map, List.length_cons]; omega
          · have := hs x (by simp)
            show (x.extract 4 x.size).size ≤ M
            rw [ByteArray.size_extract]; omega
          · obtain ⟨p, hp, rfl⟩ := hmem e he
            have hbp : badE (numS x 0 1) p = false := by
              cases hq : badE (numS x 0 1) p with
              | false => rfl
              | true => exact absurd (List.any_eq_true.2 ⟨p, hp, hq⟩) hb
            unfold badE at hbp
            unfold parE
            split at hbp
            · rw [if_pos (by assumption)]
              have := of_decide_eq_false hbp
              show 4 ≤ (p.2.extract 0 (p.2.size - 2)).size
              rw [ByteArray.size_extract]; omega
            · rw [if_neg (by assumption)]
              have := of_decide_eq_false hbp
              show 4 ≤ p.2.size
              omega
          · obtain ⟨p, hp, rfl⟩ := hmem e he
            have hp2 := hs _ (List.mem_cons_of_mem x (rawE_mem hp).1)
            unfold parE
            split
            · show (p.2.extract 0 (p.2.size - 2)).size ≤ M
              rw [ByteArray.size_extract]; omega
            · exact hp2
def tqS (e : EnD) : Value := .string (qkF e.1)
def tqR (e : EnD) : List Value := [.int .i64 (opF e.1), .int .i64 (osF e.1)]
theorem tqR_len (e : EnD) : (tqR e).length = 2 := rfl
def tqK (lv : Int) (es : List EnD) : List EnD := es.filter fun _ => decide (0 < lv)
theorem tqK_yes {lv : Int} {l : List EnD} (h0 : 0 < lv) : tqK lv l = l := List.filter_eq_self.2 fun _ _ => decide_eq_true h0
theorem tqK_off {lv : Int} {l : List EnD} (h0 : ¬ 0 < lv) : tqK lv l = [] := List.filter_eq_nil_iff.2 fun _ _ h => h0 (of_decide_eq_true h)
def tn0 : Value := .agg #[.int .i64 0, .int .i64 0, .string ⟨#[]⟩, .bool false, .slice none 0 0, .slice none 0 0, .slice none 0 0]
def TdPost (o : Option NoD) (w : World) (e : Ending) (w' : World) : Prop := match o with
  | none => e = .returned (.tuple #[tn0, .bool false]) ∧ Ext w w'
  | some n => ∃ KA kc RA rc CA cc, e = .returned (.tuple #[.agg #[.int .i64 n.lv, .int .i64 n.right, .string n.high, .bool n.dead, .slice KA n.es.length kc, .slice RA n.es.length rc, .slice CA (tqK n.lv n.es).length cc], .bool true]) ∧
      St w [] [eO 9 1 (.slice KA n.es.length kc) n.es.length (n.es.map tqS), eO 31 2 (.slice RA n.es.length rc) n.es.length (n.es.flatMap tqR), eO 3 1 (.slice CA (tqK n.lv n.es).length cc) (tqK n.lv n.es).length ((tqK n.lv n.es).map kdv)] w'
theorem td_none {o : Option NoD} {w w' : World} (h : o = none) (hx : Ext w w') : TdPost o w (.returned (.tuple #[tn0, .bool false])) w' := by subst h; exact ⟨rfl, hx⟩
theorem td_no {f : FuncId} {args : Array Value} {w : World} {o : Option NoD} (h : o = none) (hc : Calls Try.prog f args w (TdPost o w)) : Calls Try.prog f args w (Ret (.tuple #[tn0, .bool false]) w) := by subst h; exact hc
theorem td_yes {f : FuncId} {args : Array Value} {w : World} {o : Option NoD} {n : NoD} (h : o = some n) (hc : Calls Try.prog f args w (TdPost o w)) : Calls Try.prog f args w (TdPost (some n) w) := h ▸ hc
theorem take_getD {l : List EnD} {i : Nat} (h : i < l.length) : l.take (i + 1) = l.take i ++ [l.getD i en0] := by
  rw [List.take_add_one, List.getD_eq_getElem?_getD, List.getElem?_eq_getElem h]; rfl
theorem tqS_step {l : List EnD} {i : Nat} (h : i < l.length) : (l.take i).map tqS ++ [.string (qkF (l.getD i en0).1)] = (l.take (i + 1)).map tqS := by rw [take_getD h, List.map_append]; rfl
theorem tqR_step {l : List EnD} {i : Nat} (h : i < l.length) : (l.take i).flatMap tqR ++ [.int .i64 (opF (l.getD i en0).1), .int .i64 (osF (l.getD i en0).1)] = (l.take (i + 1)).flatMap tqR := by rw [take_getD h, List.flatMap_append]; rfl
theorem tqK_step {lv : Int} {l : List EnD} {i : Nat} (h0 : 0 < lv) (h : i < l.length) : (tqK lv (l.take i)).map kdv ++ [.int .i64 (l.getD i en0).2.2] = (tqK lv (l.take (i + 1))).map kdv := by rw [tqK_yes h0, tqK_yes h0, take_getD h, List.map_append]; rfl
theorem tqK_no {lv : Int} {l l' : List EnD} (h0 : ¬ 0 < lv) : tqK lv l = tqK lv l' := by rw [tqK_off h0, tqK_off h0]
theorem tqK_nil (lv : Int) : tqK lv [] = [] := rfl
theorem Try.infoTid : (Try.prog.info? 31).map (fun i => (i.zero, i.size, i.bytes)) = some (some (.agg #[.int .i64 0, .int .i64 0]), 2, 16) := by kernel_rfl
set_option maxRecDepth 100000 in
set_option maxHeartbeats 2000000 in
theorem tread_any (k lsn : Int) (A : Option Addr) (c : Nat) (its : List ByteArray) (w : World) (hA : At w A (its.map Value.string)) (hl : its.length ≤ 100000) (hsz : ∀ s ∈ its, s.size ≤ 1000000) (hl19 : (rawE 1 its.tail).length ≤ 19) :
    Calls Try.prog 32 #[.agg #[.int .i64 k, .int .i64 lsn, .slice A its.length c]] w (TdPost (nodF k its) w) := by
  go_enter Try.func32, Try.ntmps32
  have hst0 := St.start w
  refine wp_seq (sqr ?_)
  refine sqbx #[vi k, vi lsn, .slice A its.length c] hst0 fun B1_1 W1 hst1 => ?_
  refine sqal #[vi 0, vi 0, .string ByteArray.empty, .bool false, .slice none 0 0, .slice none 0 0, .slice none 0 0] hst1 fun B2_2 W2 hst2 => ?_
  refine sqp [.k 3 (.bool false)] ?_
  refine then_normal (wp_seq ?_)
  rcases hnd : nodF k its with _ | nd
  · refine wp_region_Y [0, 1, 3, 7, 7, 0, 47, 127] [[0], [], [], [], [], [], [2]] [[], [], [], [], [], [2], [3]] [[], [], [], [], [], [], [2]] [.c 13 (.agg #[vi k, vi lsn, .slice A its.length c]), .a 14, .a 12, .a 15, .c 16 (.bool false), .a 4, .n, .k 5 (.bool false)] (fun ix σ β X => match ix with | 0 => True | 1 => σ 14 = .tuple #[.agg #[vi (iv (tg (tg (β 14) 0) 0)), vi 0, vi 0, .string ((⟨#[]⟩ : ByteArray)), .bool false, .slice none 0 0, vi 0], .bool false] | 2 => σ 12 = .tuple #[.agg #[vi (iv (tg (tg (β 14) 0) 0)), vi 0, vi 0, .string ((⟨#[]⟩ : ByteArray)), .bool false, .slice none 0 0, vi 0], .bool false] | 3 => σ 15 = .agg #[vi (iv (tg (tg (β 14) 0) 0)), vi 0, vi 0, .string ((⟨#[]⟩ : ByteArray)), .bool false, .slice none 0 0, vi 0] | 4 => True | 5 => σ 4 = vp (pb (β 4)) ∧ X 2 = eB (pb (β 4)) 116 #[vi 0, vi 0, vi 0, .string ByteArray.empty, .bool false, .slice none 0 0, vi 0] | 6 => X 3 = eB (pb (β 4)) 116 #[vi (iv (tg (tg (β 14) 0) 0)), vi 0, vi 0, .string ((⟨#[]⟩ : ByteArray)), .bool false, .slice none 0 0, vi 0] | _ => True) [0, 1, 3] [0, 1, 2, 3, 4, 5, 6] [(4, 5, 3, 6), (6, 2, 1, 7), (0, 0, 2, 2), (0, 3, 2, 2)] hst2 ?_ ?_ ?_
    · exact fun ix _ _ _ _ _ _ hs hb hx h => match ix, h with
      | 1, h => by dsimp only; rw [← hs 14 rfl, ← hb 14 rfl]; exact h
      | 2, h => by dsimp only; rw [← hs 12 rfl, ← hb 14 rfl]; exact h
      | 3, h => by dsimp only; rw [← hs 15 rfl, ← hb 14 rfl]; exact h
      | 5, h => by dsimp only; rw [← hs 4 rfl, ← hb 4 rfl, ← hx 2 rfl]; exact h
      | 6, h => by dsimp only; rw [← hb 4 rfl, ← hb 14 rfl, ← hx 3 rfl]; exact h
      | 0, _ | 4, _ | _ + 7, _ => trivial
    · refine ⟨?_, ?_, ?_, ?_, ?_, ?_, ?_, trivial⟩
      · exact xs4 rfl id fun cx => run_loadB (n := 3) rfl (by kernel_rfl) (by kernel_rfl) (cx.ou 1) (cx.bi 0 rfl) (nle rfl) rfl
      · refine svA fun ρ β W X cx => ?_
        refine DoesU.call (run_callF (args := #[.agg #[vi k, vi lsn, .slice A its.length c]]) rfl cx.sees rfl (by kernel_rfl) (map1 (cx.an 0))) ?_
        refine (kd_no hnd (kread_any _ _ _ _ _ _ (hA.ext cx.upd.to_ext) hl hsz hl19)).mono ?_
        rintro e W1 ⟨p4, rfl, hx⟩
        refine ⟨_, rfl, post_call [] rfl rfl hx (by simp) List.Pairwise.nil (fun σ β' X' hs hb hv hN => ?_)⟩
        have hv1 := (hv 14 rfl).1; have hv2 := (hv 14 rfl).2
        exact hv1.trans (by rw [hv2]; rfl)
      · exact sv rfl rfl rfl rfl rfl _ (fun _ _ _ h => h) (fun β β' h => by rw [h 14 (by decide)]) fun ρ β W X cx => run_move' rfl (dTn (cx.an 1))
      · exact sv rfl rfl rfl rfl rfl _ (fun _ _ _ h => h) (fun β β' h => by rw [h 14 (by decide)]) fun ρ β W X cx => run_extract' rfl (dTn (cx.an 2)) rfl
      · exact xs4 rfl id fun cx => run_extract' rfl (dTn (cx.an 2)) rfl
      · refine svA fun ρ β W X cx => ?_
        exact dv_alloc (cs := #[vi 0, vi 0, vi 0, .string ByteArray.empty, .bool false, .slice none 0 0, vi 0]) rfl (by kernel_rfl) rfl rfl (fun σ β' X' hs hb hv hx => ⟨hv, hx⟩)
      · refine svA fun ρ β W X cx => ?_
        exact dv_store (n := 7) rfl (dTn (cx.an 5)).1 (dTn (cx.an 3)) (by kernel_rfl) (by kernel_rfl) (by kernel_rfl) cx (dTn (cx.an 5)).2 rfl (nle rfl) (by kernel_rfl) rfl rfl rfl (fun σ β' X' hs hb hx => by rw [hb 4, hb 14]; exact hx)
    intro σ β X W4 hD hst4 fr hfr
    obtain ⟨pg14_4, hu_pg14_4⟩ : ∃ z, iv (tg (tg (β 14) 0) 0) = z := ⟨_, rfl⟩
    obtain ⟨B4_4, hu_B4_4⟩ : ∃ z, pb (β 4) = z := ⟨_, rfl⟩
    simp only [exq 3 ((dTn (hD 6 lq))), hu_pg14_4, hu_B4_4] at hst4
    simp only [ed 14 ((dTn (hD 1 lq))), ed 12 ((dTn (hD 2 lq))), ed 15 ((dTn (hD 3 lq))), ed 4 ((dTn (hD 5 lq)).1), hu_pg14_4, hu_B4_4] at hfr
    clear hD hu_pg14_4 hu_B4_4; subst hfr; clear σ β X
    refine then_normal (wp_seq (wp_seq (sqr (sqp [.k 17 (.bool false), .k 18 (.bool true)] ?_))))
    refine then_normal (wct rfl (wp_seq (sqr (sqp [.k 19 (.agg #[vi 0, vi 0, .string ByteArray.empty, .bool false, .slice none 0 0, .slice none 0 0, .slice none 0 0])] ?_))))
    refine sqst (n := 7) 1 #[vi 0, vi 0, .string ByteArray.empty, .bool false, .slice none 0 0, .slice none 0 0, .slice none 0 0] hst4 fun W8 hst8 => ?_
    refine sqp [.k 3 (.bool false)] ?_
    refine then_normal (wp_ret (then_ret ?_))
    refine bpr (.tuple #[.agg #[vi 0, vi 0, .string ByteArray.empty, .bool false, .slice none 0 0, .slice none 0 0, .slice none 0 0], .bool false]) (results_2 Try.results32 (rpa (hst8.blk 1 rfl) 0 7) rpt) ?_
    exact td_none rfl hst8.ext
  · have hnf := nf_ok hnd hsz
    have hez : ∀ e ∈ nd.es, e.1.size ≤ 1000000 := hnf.sz
    have hnl := hnf.len
    refine sqr ?_
    refine sqlb 0 3 hst2 ?_
    refine sqk2 (fun EA14_11 ec14_11 => .tuple #[.agg #[vi 0, vi nd.lv, vi nd.right, .string nd.high, .bool nd.dead, .slice EA14_11 nd.es.length ec14_11, vi ((nd.free : Int))], .bool true]) (fun EA14_11 ec14_11 => eO 104 3 (.slice EA14_11 nd.es.length ec14_11) nd.es.length (nd.es.flatMap enC)) hst2 (fun cx => ⟨_, (kd_yes hnd (kread_any _ _ _ _ _ _ (hA.ext cx.upd.to_ext) hl hsz hl19)).mono (by rintro e W1 ⟨EA4, ec4, rfl, hs4⟩; exact ⟨_, _, rfl, hs4⟩), (map1 (cx.ou 13))⟩) fun EA14_11 ec14_11 W11 hst11 => ?_
    refine sqp [.m 12 14, .k 15 (.agg #[vi 0, vi nd.lv, vi nd.right, .string nd.high, .bool nd.dead, .slice EA14_11 nd.es.length ec14_11, vi ((nd.free : Int))]), .k 16 (.bool true)] ?_
    refine sqal #[vi 0, vi 0, vi 0, .string ByteArray.empty, .bool false, .slice none 0 0, vi 0] hst11 fun B4_15 W15 hst15 => ?_
    refine sqst (n := 7) 3 #[vi 0, vi nd.lv, vi nd.right, .string nd.high, .bool nd.dead, .slice EA14_11 nd.es.length ec14_11, vi ((nd.free : Int))] hst15 fun W16 hst16 => ?_
    refine sqp [.k 5 (.bool true)] ?_
    refine then_normal (wp_seq (wp_seq (sqr (sqp [.k 17 (.bool true), .k 18 (.bool false)] ?_))))
    refine then_normal (wcf rfl (wp_skip (then_normal (wp_seq (sqr (sqp [.k 20 (.pointer (some ⟨B4_15, 1, none⟩))] ?_))))))
    refine sqld 3 hst16 ?_
    refine sqp [.k 22 (.pointer (some ⟨B4_15, 2, none⟩))] ?_
    refine sqld 3 hst16 ?_
    refine sqp [.k 24 (.pointer (some ⟨B4_15, 3, none⟩))] ?_
    refine sqld 3 hst16 ?_
    refine sqp [.k 26 (.pointer (some ⟨B4_15, 4, none⟩))] ?_
    refine sqld 3 hst16 ?_
    refine sqp [.k 28 (.agg #[vi nd.lv, vi nd.right, .string nd.high, .bool nd.dead, .slice none 0 0, .slice none 0 0, .slice none 0 0])] ?_
    refine sqal #[vi 0, vi 0, .string ByteArray.empty, .bool false, .slice none 0 0, .slice none 0 0, .slice none 0 0] hst16 fun B6_29 W29 hst29 => ?_
    refine sqst (n := 7) 4 #[vi nd.lv, vi nd.right, .string nd.high, .bool nd.dead, .slice none 0 0, .slice none 0 0, .slice none 0 0] hst29 fun W30 hst30 => ?_
    refine then_normal (wp_seq (wp_seq (sqr (sqp [.k 29 (.pointer (some ⟨B4_15, 5, none⟩))] ?_))))
    refine sqld 3 hst30 ?_
    refine sqp [.k 31 (vi ((nd.es.length : Int))), .k 32 (vi 0)] ?_
    refine then_normal (wp_block ?_)
    have hn35 := St.nilrow hst30 9
    simp only [List.cons_append, List.nil_append] at hn35
    have hn36 := nilrowN hn35 31 2
    simp only [List.cons_append, List.nil_append] at hn36
    have hn37 := St.nilrow hn36 3
    simp only [List.cons_append, List.nil_append] at hn37
    refine wp_loopT (fun t_ mz az W => ∃ i : Nat, ∃ kn : Nat, ∃ KA : Option Addr, ∃ kc : Nat, ∃ RA : Option Addr, ∃ rc : Nat, ∃ CA : Option Addr, ∃ cc : Nat, i ≤ nd.es.length ∧ (tqK nd.lv (nd.es.take i)).length = kn ∧ kn ≤ i ∧ mz = nd.es.length - i ∧ az = ⟨(ovr (jv az) [(8, 8, 4, []), (20, 32, 0, [vi ((i : Int))]), (0, 33, 33, [])] t_).toArray, []⟩ ∧ St w [] [eB B1_1 51 #[vi k, vi lsn, .slice A its.length c], eB B2_2 60 #[vi 0, vi 0, .string ByteArray.empty, .bool false, .slice none 0 0, .slice none 0 0, .slice none 0 0], eB B4_15 116 #[vi 0, vi nd.lv, vi nd.right, .string nd.high, .bool nd.dead, .slice EA14_11 nd.es.length ec14_11, vi ((nd.free : Int))], eB B6_29 60 #[vi nd.lv, vi nd.right, .string nd.high, .bool nd.dead, .slice KA i kc, .slice RA i rc, .slice CA kn cc], eO 9 1 (.slice KA i kc) i ((nd.es.take i).map tqS), eO 31 2 (.slice RA i rc) i ((nd.es.take i).flatMap tqR), eO 3 1 (.slice CA kn cc) kn ((tqK nd.lv (nd.es.take i)).map kdv), eO 104 3 (.slice EA14_11 nd.es.length ec14_11) nd.es.length (nd.es.flatMap enC)] W) (nd.es.length - 0) ?_ ?_
    · -- the loop begins
      exact ⟨0, 0, none, 0, none, 0, none, 0, Nat.zero_le _, by rw [List.take_zero, tqK_nil]; rfl, Nat.le_refl _, rfl, (by kernel_rfl), hn37.pk [0, 1, 3, 4, 5, 6, 7, 2]⟩
    rintro n38 a38 W38 ⟨i, kn, KA, kc, RA, rc, CA, cc, hi, hkn, hkb, rfl, hj_, hst38⟩
    refine ovz hj_ fun u38_ => ?_
    refine wp_seq (sqr (sqp [.k 33 (.bool (decide ((i : Int) < (nd.es.length : Int))))] ?_))
    refine then_normal (wp_seq (wds (fun hs40 hs40p => ?_) fun hs40 hs40p => ?_))
    · refine wp_skip (then_normal (wp_seq (wp_block (wp_seq (sqr ?_)))))
      refine sql (.pointer (some ((ad EA14_11).add (i * 3)))) hst38 (fun cx => run_indexSlM (e := 104) (m := i) (sz := 3) rfl (by kernel_rfl) (by kernel_rfl) (cx.ou 30) (cx.ou 32) (by omega) (by omega) (At.of_ownN (cx.ri 7 rfl)) (flatPos (sz := 3) enC_len (by decide) (by omega))) ?_
      refine sql (.agg #[.string ((nd.es.getD i en0).1), vi (((nd.es.getD i en0).2.1 : Int)), vi ((nd.es.getD i en0).2.2)]) hst38 (fun cx => run_loadElt (f := enC) (m := i) (sz := 3) (off := 0) (n := 3) rfl (by kernel_rfl) (by kernel_rfl) (cx.ou 34) rfl enC_len (At.of_ownN (cx.ri 7 rfl)) (en_get (by omega)) (fun k hk => match k, hk with | 0, _ => rfl | 1, _ => rfl | 2, _ => rfl | k + 3, hk => absurd hk (by omega))) ?_
      refine sqal #[.string ByteArray.empty, vi 0, vi 0] hst38 fun B8_43 W43 hst43 => ?_
      refine sqst (n := 3) 8 #[.string ((nd.es.getD i en0).1), vi (((nd.es.getD i en0).2.1 : Int)), vi ((nd.es.getD i en0).2.2)] hst43 fun W44 hst44 => ?_
      refine then_normal (wp_seq (sqr (sqp [.k 37 (vp B8_43)] ?_)))
      refine sqld 8 hst44 ?_
      refine sqk (.tuple #[.string (qkF ((nd.es.getD i en0).1)), .agg #[vi (opF ((nd.es.getD i en0).1)), vi (osF ((nd.es.getD i en0).1))], .bool (decide (4 ≤ ((nd.es.getD i en0).1).size))]) hst44 (fun cx => ⟨_, kpart_any ((nd.es.getD i en0).1) _ (getD_size hez _), (map1 (cx.ou 38))⟩) fun W47 hst47 => ?_
      refine sqp [.m 36 39, .k 40 (.string (qkF ((nd.es.getD i en0).1))), .k 41 (.agg #[vi (opF ((nd.es.getD i en0).1)), vi (osF ((nd.es.getD i en0).1))]), .k 42 (.bool (decide (4 ≤ ((nd.es.getD i en0).1).size)))] ?_
      refine sqal #[vi 0, vi 0] hst47 fun B10_52 W52 hst52 => ?_
      refine sqp [.m 9 40] ?_
      refine sqst (n := 2) 9 #[vi (opF ((nd.es.getD i en0).1)), vi (osF ((nd.es.getD i en0).1))] hst52 fun W54 hst54 => ?_
      refine sqp [.m 11 42] ?_
      refine then_normal (wp_seq (wp_region_Y [0, 1, 0, 4, 15, 0, 32, 0, 128, 511, 127, 2047, 4095, 8191] [[], [3], [], [], [10, 4], [], [3], [9], [], [12, 5], [], [3], [], [14]] [[], [], [], [10], [11], [], [], [], [12], [13], [], [14], [], [15]] [[], [], [], [], [4], [], [], [], [], [5], [], [3], [], [14]] [.k 43 (.pointer (some ⟨B6_29, 4, none⟩)), .c 44 (.slice KA i kc), .k 45 (.string (qkF ((nd.es.getD i en0).1))), .a 46, .a 47, .k 48 (.pointer (some ⟨B6_29, 5, none⟩)), .c 49 (.slice RA i rc), .c 50 (.agg #[vi (opF ((nd.es.getD i en0).1)), vi (osF ((nd.es.getD i en0).1))]), .a 51, .a 52, .k 53 (.pointer (some ⟨B6_29, 4, none⟩)), .n, .k 54 (.pointer (some ⟨B6_29, 5, none⟩)), .n] (fun ix σ β X => match ix with | 0 => True | 1 => True | 2 => True | 3 => σ 46 = .slice (sA (β 46)) 1 1 ∧ X 10 = eO 9 1 (.slice (sA (β 46)) 1 1) 1 ([.string (qkF ((nd.es.getD i en0).1))]) | 4 => σ 47 = .slice (sA (β 47)) (i + 1) (sC (β 47)) ∧ X 11 = eO 9 1 (.slice (sA (β 47)) (i + 1) (sC (β 47))) (i + 1) ((nd.es.take (i + 1)).map tqS) | 5 => True | 6 => True | 7 => True | 8 => σ 51 = .slice ((some ⟨(pb' (β 51)), 0, none⟩)) 1 1 ∧ X 12 = eO 31 2 (.slice ((some ⟨(pb' (β 51)), 0, none⟩)) 1 1) 1 ([vi (opF ((nd.es.getD i en0).1)), vi (osF ((nd.es.getD i en0).1))]) | 9 => σ 52 = .slice (sA (β 52)) (i + 1) (sC (β 52)) ∧ X 13 = eO 31 2 (.slice (sA (β 52)) (i + 1) (sC (β 52))) (i + 1) ((nd.es.take (i + 1)).flatMap tqR) | 10 => True | 11 => X 14 = eB B6_29 60 #[vi nd.lv, vi nd.right, .string nd.high, .bool nd.dead, .slice (sA (β 47)) (i + 1) (sC (β 47)), .slice RA i rc, .slice CA kn cc] | 12 => True | 13 => X 15 = eB B6_29 60 #[vi nd.lv, vi nd.right, .string nd.high, .bool nd.dead, .slice (sA (β 47)) (i + 1) (sC (β 47)), .slice (sA (β 52)) (i + 1) (sC (β 52)), .slice CA kn cc] | _ => True) [0, 1, 2, 6, 7, 8, 9, 10, 11, 12, 13, 15] [1, 3, 4, 6, 7, 8, 9, 11, 13] [(43, 0, 13, 55)] hst54 ?_ ?_ ?_))
      · exact fun ix _ _ _ _ _ _ hs hb hx h => match ix, h with
        | 3, h => by dsimp only; rw [← hs 46 rfl, ← hb 46 rfl, ← hx 10 rfl]; exact h
        | 4, h => by dsimp only; rw [← hs 47 rfl, ← hb 47 rfl, ← hx 11 rfl]; exact h
        | 8, h => by dsimp only; rw [← hs 51 rfl, ← hb 51 rfl, ← hx 12 rfl]; exact h
        | 9, h => by dsimp only; rw [← hs 52 rfl, ← hb 52 rfl, ← hx 13 rfl]; exact h
        | 11, h => by dsimp only; rw [← hb 47 rfl, ← hx 14 rfl]; exact h
        | 13, h => by dsimp only; rw [← hb 47 rfl, ← hb 52 rfl, ← hx 15 rfl]; exact h
        | 0, _ | 1, _ | 2, _ | 5, _ | 6, _ | 7, _ | 10, _ | 12, _ | _ + 14, _ => trivial
      · refine ⟨?_, ?_, ?_, ?_, ?_, ?_, ?_, ?_, ?_, trivial⟩
        · exact xs4 rfl id fun cx => run_load1 rfl (by kernel_rfl) (cx.an 0) ((cx.bi 3 rfl).cell 4)
        · refine svA fun ρ β W X cx => ?_
          have fF45 : ρ (.tmp 45) = .string (qkF ((nd.es.getD i en0).1)) := (cx.an 2)
          exact dv_lit (e := 9) (xs := [.string (qkF ((nd.es.getD i en0).1))]) rfl (by simp [go_sem, fF45]) rfl (by decide) rfl rfl (fun σ β' X' hs hb hv hx => ⟨hv, hx⟩)
        · refine svA fun ρ β W X cx => ?_
          obtain ⟨i0, hi0, hz0, hz1, hz2⟩ := info_parts Try.infoStr
          refine dv_append (n := i) (m := 1) (nm := i + 1) (xs := (nd.es.take i).map tqS) (news := [.string (qkF ((nd.es.getD i en0).1))]) (xs' := (nd.es.take (i + 1)).map tqS) rfl (ty := 49) rfl (by kernel_rfl) hi0 hz0 hz1 hz2 rfl (cx.an 1) cx (cx.init 4 _ rfl) rfl (dTn (cx.an 3)).1 (by rfl) (At.of_own (cx.row (dTn (cx.an 3)).2 rfl)) (by simp [Value.oneCell']) (by simp only [maxLen]; omega) (by omega) rfl rfl rfl (by omega) (tqS_step (by omega)) (fun σ β' X' hs hb hv hx => ?_)
          exact ⟨hv, hx⟩
        · exact xs4 rfl id fun cx => run_load1 rfl (by kernel_rfl) (cx.an 5) ((cx.bi 3 rfl).cell 5)
        · exact xs4 rfl id fun cx => run_loadB (n := 2) rfl (by kernel_rfl) (by kernel_rfl) (cx.ou 10) (cx.bi 9 rfl) (nle rfl) rfl
        · refine svA fun ρ β W X cx => ?_
          have fF50 : ρ (.tmp 50) = .agg #[vi (opF ((nd.es.getD i en0).1)), vi (osF ((nd.es.getD i en0).1))] := (cx.an 7)
          exact dv_litN (e := 31) (sz := 2) (xs := [vi (opF ((nd.es.getD i en0).1)), vi (osF ((nd.es.getD i en0).1))]) rfl (by simp [go_sem, fF50]) rfl (by decide) rfl rfl (fun σ β' X' hs hb hv hx => ⟨hv, hx⟩)
        · refine svA fun ρ β W X cx => ?_
          obtain ⟨i0, hi0, hz0, hz1, hz2⟩ := info_parts Try.infoTid
          refine dv_appendN (n := i) (m := 1) (nm := i + 1) (sz := 2) (xs := (nd.es.take i).flatMap tqR) (news := [vi (opF ((nd.es.getD i en0).1)), vi (osF ((nd.es.getD i en0).1))]) (xs' := (nd.es.take (i + 1)).flatMap tqR) rfl (ty := 58) rfl (by kernel_rfl) hi0 hz0 hz1 hz2 rfl (by decide) (cx.an 6) cx (cx.init 5 _ rfl) rfl (dTn (cx.an 8)).1 (by rfl) (At.of_ownN (cx.row (dTn (cx.an 8)).2 rfl)) (by simp [Value.oneCell']) (by simp only [maxLen]; omega) (by omega) rfl rfl rfl (by omega) (tqR_step (by omega)) (fun σ β' X' hs hb hv hx => ?_)
          exact ⟨hv, hx⟩
        · refine svA fun ρ β W X cx => ?_
          exact dv_store (n := 1) rfl (cx.an 10) (dTn (cx.an 4)).1 (by kernel_rfl) (by kernel_rfl) (by kernel_rfl) cx (cx.init 3 _ rfl) rfl (nle rfl) (by kernel_rfl) rfl rfl rfl (fun σ β' X' hs hb hx => by rw [hb 47]; exact hx)
        · refine svA fun ρ β W X cx => ?_
          exact dv_store (n := 1) rfl (cx.an 12) (dTn (cx.an 9)).1 (by kernel_rfl) (by kernel_rfl) (by kernel_rfl) cx (dTn (cx.an 11)) rfl (nle rfl) (by kernel_rfl) rfl rfl rfl (fun σ β' X' hs hb hx => by rw [hb 47, hb 52]; exact hx)
      intro σ β X W56 hD hst56 fr hfr
      obtain ⟨A46_56, hu_A46_56⟩ : ∃ z, sA (β 46) = z := ⟨_, rfl⟩
      obtain ⟨A47_56, hu_A47_56⟩ : ∃ z, sA (β 47) = z := ⟨_, rfl⟩
      obtain ⟨c47_56, hu_c47_56⟩ : ∃ z, sC (β 47) = z := ⟨_, rfl⟩
      obtain ⟨B51_56, hu_B51_56⟩ : ∃ z, pb' (β 51) = z := ⟨_, rfl⟩
      obtain ⟨A52_56, hu_A52_56⟩ : ∃ z, sA (β 52) = z := ⟨_, rfl⟩
      obtain ⟨c52_56, hu_c52_56⟩ : ∃ z, sC (β 52) = z := ⟨_, rfl⟩
      simp only [exq 10 ((dTn (hD 3 lq)).2), exq 11 ((dTn (hD 4 lq)).2), exq 12 ((dTn (hD 8 lq)).2), exq 13 ((dTn (hD 9 lq)).2), exq 15 ((dTn (hD 13 lq))), hu_A46_56, hu_A47_56, hu_c47_56, hu_B51_56, hu_A52_56, hu_c52_56] at hst56
      simp only [ed 46 ((dTn (hD 3 lq)).1), ed 47 ((dTn (hD 4 lq)).1), ed 51 ((dTn (hD 8 lq)).1), ed 52 ((dTn (hD 9 lq)).1), hu_A46_56, hu_A47_56, hu_c47_56, hu_B51_56, hu_A52_56, hu_c52_56] at hfr
      clear hD hu_A46_56 hu_A47_56 hu_c47_56 hu_B51_56 hu_A52_56 hu_c52_56; subst hfr; clear σ β X
      refine then_normal (wp_seq (sqr (sqp [.k 55 (.pointer (some ⟨B4_15, 1, none⟩))] ?_)))
      refine sqld 2 hst56 ?_
      refine sqp [.k 57 (.bool (decide (0 < nd.lv)))] ?_
      refine then_normal (wds (fun hs60 hs60p => ?_) fun hs60 hs60p => ?_)
      · refine sqr (sqp [.k 58 (.pointer (some ⟨B6_29, 6, none⟩))] ?_)
        refine sqld 11 hst56 ?_
        refine sqp [.k 60 (.pointer (some ⟨B8_43, 2, none⟩))] ?_
        refine sqld 5 hst56 ?_
        refine sqn1 (fun x_ => sA x_) (fun A62_65 => .slice A62_65 1 1) (fun A62_65 => eO 3 1 (.slice A62_65 1 1) 1 ([vi ((nd.es.getD i en0).2.2)])) hst56 (by
            refine svA fun ρ β W X cx => ?_
            have fF61 : ρ (.tmp 61) = vi ((nd.es.getD i en0).2.2) := (cx.ou 61)
            exact dv_lit (e := 3) (xs := [vi ((nd.es.getD i en0).2.2)]) rfl (by simp [go_sem, fF61]) rfl (by decide) rfl rfl (fun σ β' X' hs hb hv hx => ⟨hv, hx⟩)) fun A62_65 W65 hst65 => ?_
        refine sqc2 (fun x_ => sA x_) (fun x_ => sC x_) (fun A63_66 c63_66 => .slice A63_66 (kn + 1) c63_66) (fun A63_66 c63_66 => eO 3 1 (.slice A63_66 (kn + 1) c63_66) (kn + 1) ((tqK nd.lv (nd.es.take (i + 1))).map kdv)) 3 hst65 (by
            refine svA fun ρ β W X cx => ?_
            obtain ⟨i0, hi0, hz0, hz1, hz2⟩ := info_parts Try.infoInt
            refine dv_append (n := kn) (m := 1) (nm := kn + 1) (xs := (tqK nd.lv (nd.es.take i)).map kdv) (news := [vi ((nd.es.getD i en0).2.2)]) (xs' := (tqK nd.lv (nd.es.take (i + 1))).map kdv) rfl (ty := 22) rfl (by kernel_rfl) hi0 hz0 hz1 hz2 rfl (cx.ou 59) cx (cx.init 3 _ rfl) rfl (cx.ou 62) (by rfl) (At.of_own (cx.ri 12 rfl)) (by simp [Value.oneCell']) (by simp only [maxLen]; omega) (by omega) rfl rfl rfl (by omega) (tqK_step (of_decide_eq_true (by assumption)) (by omega)) (fun σ β' X' hs hb hv hx => ?_)
            exact ⟨hv, hx⟩) fun A63_66 c63_66 W66 hst66 => ?_
        refine sqp [.k 64 (.pointer (some ⟨B6_29, 6, none⟩))] ?_
        refine sqst (n := 1) 11 #[vi nd.lv, vi nd.right, .string nd.high, .bool nd.dead, .slice A47_56 (i + 1) c47_56, .slice A52_56 (i + 1) c52_56, .slice A63_66 (kn + 1) c63_66] hst66 fun W68 hst68 => ?_
        refine blk_normal (then_normal (sqr (sqp [sI 65 ((i : Int) + 1) (by omega), .m 32 65] ?_)))
        refine then_normal ?_
        refine ⟨nd.es.length - ((i + 1)), by omega, ?_⟩
        exact ⟨(i + 1), (kn + 1), A47_56, c47_56, A52_56, c52_56, A63_66, c63_66, by omega, by have h0_ := of_decide_eq_true hs60; rw [tqK_yes h0_] at hkn ⊢; rw [List.length_take] at hkn ⊢; omega, by omega, rfl, (by kernel_rfl), hst68.pk [0, 1, 2, 11, 8, 10, 3, 4]⟩
      refine wp_skip (blk_normal (then_normal (sqr (sqp [sI 65 ((i : Int) + 1) (by omega), .m 32 65] ?_))))
      refine then_normal ?_
      have hks_ : tqK nd.lv (nd.es.take i) = tqK nd.lv (nd.es.take (i + 1)) := tqK_no (of_decide_eq_false hs60)
      rw [hks_] at hst56
      refine ⟨nd.es.length - ((i + 1)), by omega, ?_⟩
      exact ⟨(i + 1), kn, A47_56, c47_56, A52_56, c52_56, CA, cc, by omega, by rw [← hks_]; exact hkn, by omega, rfl, (by kernel_rfl), hst56.pk [0, 1, 2, 11, 8, 10, 3, 4]⟩
    refine wp_exit (then_exit (then_exit (blk_eq (then_normal (wp_seq ?_)))))
    obtain rfl : i = nd.es.length := by omega
    rw [List.take_length] at hkn hst38
    subst hkn
    refine sqr ?_
    refine sqlb 3 7 hst38 ?_
    refine sqst (n := 7) 1 #[vi nd.lv, vi nd.right, .string nd.high, .bool nd.dead, .slice KA nd.es.length kc, .slice RA nd.es.length rc, .slice CA (tqK nd.lv nd.es).length cc] hst38 fun W74 hst74 => ?_
    refine sqp [.k 3 (.bool true)] ?_
    refine then_normal (wp_ret ?_)
    refine bpr (.tuple #[.agg #[vi nd.lv, vi nd.right, .string nd.high, .bool nd.dead, .slice KA nd.es.length kc, .slice RA nd.es.length rc, .slice CA (tqK nd.lv nd.es).length cc], .bool true]) (results_2 Try.results32 (rpa (hst74.blk 1 rfl) 0 7) rpt) ?_
    have hpk_ := hst74.pick [4, 5, 6] (by decide) rfl
    exact ⟨_, _, _, _, _, _, rfl, hpk_⟩
end
end Go.Proofs.Ytjlcoglmjldjbaa
namespace Go.Proofs.Ytjlcoglmjldjbaa
section
open Go.RowKit
set_option linter.unusedVariables false
set_option linter.unusedSimpArgs false
def rawS (s : ByteArray) : ByteArray := s.extract 0 (min s.size 14)
theorem rawS_size (s : ByteArray) : (rawS s).size ≤ 14 := by rw [rawS, ByteArray.size_extract]; omega
def rawP (p : PgS) : PgS := (p.1, 0, (p.2.2.take 10).map rawS)
def rawF (ps : List PgS) : List PgS := (ps.take 8).map rawP
theorem St.emNilT {w0 W : World} {bor : List Nat} {L : List Ent} (h : St w0 bor L W) : St w0 bor (L ++ [ePt []]) W := St.emNil h
theorem rawI_step {l T : List ByteArray} {j : Nat} {y : ByteArray} (hT : T = (l.take j).map rawS) (hj : j < l.length) (hy : l.getD j ByteArray.empty = y) : T ++ [rawS y] = (l.take (j + 1)).map rawS := by
  subst hT hy
  rw [List.take_add_one, List.getElem?_eq_getElem hj, List.map_append, List.getD_eq_getElem?_getD, List.getElem?_eq_getElem hj]; rfl
theorem rawI_fin {l T : List ByteArray} {j : Nat} (hT : T = (l.take j).map rawS) (hj : j ≤ l.length) (hj2 : j ≤ 10) (h : l.length ≤ j ∨ 10 ≤ j) : T = (l.take 10).map rawS := by
  rw [hT]
  rcases h with h | h
  · rw [List.take_of_length_le h, List.take_of_length_le (by omega)]
  · rw [show j = 10 by omega]
theorem rawP_step {Ps Qs : List PgT} {i : Nat} {pg q : PgT} (hQ : Qs.map abT = ((Ps.map abT).take i).map rawP) (hp : Ps[i]? = some pg) (hq : abT q = rawP (abT pg)) : (Qs ++ [q]).map abT = ((Ps.map abT).take (i + 1)).map rawP := by
  rw [List.map_append, hQ, List.take_add_one, List.getElem?_map, hp, List.map_append]
  show _ = _ ++ [rawP (abT pg)]
  rw [← hq]; rfl
theorem rawP_fin {Ps Qs : List PgT} {i : Nat} (hQ : Qs.map abT = ((Ps.map abT).take i).map rawP) (hi : i ≤ Ps.length) (hi2 : i ≤ 8) (h : Ps.length ≤ i ∨ 8 ≤ i) : Qs.map abT = rawF (Ps.map abT) := by
  rw [hQ, rawF]
  rcases h with h | h
  · rw [List.take_of_length_le (by rw [List.length_map]; exact h), List.take_of_length_le (by rw [List.length_map]; omega)]
  · rw [show i = 8 by omega]
theorem pt_snoc (Qs : List PgT) (q : PgT) : Qs.flatMap ptC ++ ptC q = (Qs ++ [q]).flatMap ptC := by simp
theorem raw_snoc (T : List ByteArray) (y : ByteArray) : T.map Value.string ++ [.string y] = (T ++ [y]).map Value.string := by simp
set_option maxRecDepth 100000 in
set_option maxHeartbeats 2000000 in
theorem lrest65536 (x : Int) (w : World) :
    Calls Try.prog 14 #[.int .i64 x, .int .i64 65536] w (Ret (.int .i64 ((x.tmod 65536 + 65536) % 65536)) w) := by
  have h1_ := Int.lt_tmod_of_pos x (b := 65536) (by decide)
  have h2_ := Int.tmod_lt_of_pos x (b := 65536) (by decide)
  go_enter Try.func14, Try.ntmps14
  have hst0 := St.start w
  refine wp_seq (sqr (sqp [.k 4 (vi 0)] ?_))
  refine then_normal (wp_seq (sqr (sqp [.m 5 0, .m 6 1, sRe 7 .i64 x 65536 (x.tmod 65536) (rfl), .m 8 1, sI 9 ((x.tmod 65536) + 65536) (by omega), .m 10 1, sRe 11 .i64 ((x.tmod 65536) + 65536) 65536 (((x.tmod 65536) + 65536) % 65536) (Int.tmod_eq_emod_of_nonneg (by omega)), .m 4 11] ?_)))
  refine then_normal (wp_ret ?_)
  refine bpr (vi (((x.tmod 65536) + 65536) % 65536)) (results_1 Try.results14 rpt) ?_
  exact Ret.of rfl hst0.ext
set_option maxRecDepth 100000 in
set_option maxHeartbeats 2000000 in
theorem lraw_any (A : Option Addr) (c n : Nat) (Ps : List PgT) (w : World) (hA : At w A (Ps.flatMap ptC)) (hn : Ps.length = n) (hI : ∀ p ∈ Ps, At w p.A (p.its.map Value.string)) (hnb : n ≤ 100000000000000) (hits : ∀ p ∈ Ps, p.its.length ≤ 100000000000000) :
    Calls Try.prog 31 #[.slice A n c] w (BkPost (rawF (Ps.map abT)) w) := by
  go_enter Try.func31, Try.ntmps31
  have hst0 := St.start w
  refine wp_seq (sqr (sqp [.k 2 (.pointer none)] ?_))
  refine then_normal (wp_seq (sqr (sqp [.k 7 (.agg #[.slice none 0 0])] ?_)))
  refine sqbx #[.slice none 0 0] hst0 fun B8_3 W3 hst3 => ?_
  refine sqp [.m 3 8] ?_
  refine then_normal (wp_seq (wp_seq (sqr (sqp [.k 4 (vi 0)] ?_))))
  refine then_normal (wp_block ?_)
  have hn6 := nilrowN hst3 51 3
  simp only [List.cons_append, List.nil_append] at hn6
  have hm7 := St.emNilT hn6
  simp only [List.cons_append, List.nil_append] at hm7
  refine wp_loopT (fun t_ mz az W => ∃ i : Nat, ∃ XA : Option Addr, ∃ xc : Nat, ∃ Qs : List PgT, i ≤ 8 ∧ i ≤ n ∧ Qs.length = i ∧ Qs.map abT = ((Ps.map abT).take i).map rawP ∧ mz = 8 - i ∧ az = ⟨(ovr (jv az) [(4, 4, 0, [vi ((i : Int))]), (0, 5, 2, []), (2, 9, 64, [])] t_).toArray, []⟩ ∧ St w [] [eB B8_3 64 #[.slice XA i xc], eO 51 3 (.slice XA i xc) i (Qs.flatMap ptC), ePt Qs] W) (8 - 0) ?_ ?_
  · -- the loop begins
    exact ⟨0, none, 0, [], Nat.zero_le _, Nat.zero_le _, rfl, rfl, rfl, (by kernel_rfl), hm7.pk [0, 1, 2]⟩
  rintro n8 a8 W8 ⟨i, XA, xc, Qs, hi8, hin, hQl, hQ, rfl, hj_, hst8⟩
  refine ovz hj_ fun u8_ => ?_
  refine wp_seq (wp_seq (sqr (sqp [.m 9 4, .m 10 0, .k 11 (vi ((n : Int))), .k 12 (.bool (decide ((i : Int) < (n : Int)))), .m 13 12] ?_)))
  refine sqw 13 [14, 15] rfl (fun _ => sqp [.m 14 4, .k 15 (.bool (decide ((i : Int) < 8)))] sqe) ?_
  refine sqp [sPa 16 (decide ((i : Int) < (n : Int))) (decide ((i : Int) < 8))] ?_
  refine then_normal (wbs (fun hs17 => ?_) fun hs17 => ?_)
  · have hs17p := hs17
    simp only [zB] at hs17p
    obtain ⟨hs17p1, hs17p2⟩ := hs17p
    refine wp_skip (then_normal (wp_seq (wp_block (wp_seq ?_))))
    obtain ⟨pg, hN_pg⟩ : ∃ z, Ps.getD i pt0 = z := ⟨_, rfl⟩
    have hpg := getD_mem' (l := Ps) (n := i) (d := pt0) (by omega)
    rw [hN_pg] at hpg
    have hpl := hits _ hpg.2
    refine sqr (sqp [.m 19 0, .m 20 4] ?_)
    refine sql (.pointer (some ((ad A).add (i * 3)))) hst8 (fun cx => run_indexSlM (e := 51) (m := i) (sz := 3) rfl (by kernel_rfl) (by kernel_rfl) (cx.ou 19) (cx.ou 20) (by omega) (by omega) (hA.ext cx.upd.to_ext) (flatPos (sz := 3) ptC_len (by decide) (by omega))) ?_
    refine sql (.pointer (some ((ad A).add (i * 3 + 0)))) hst8 (fun cx => run_fieldAd rfl (by kernel_rfl) (cx.ou 21)) ?_
    refine sql (vi pg.k) hst8 (fun cx => run_load1 rfl (by kernel_rfl) (cx.ou 22) (At.eltc (f := ptC) (k := 0) ptC_len (hA.ext cx.upd.to_ext) hpg.1 rfl)) ?_
    refine sqp [.k 24 (.agg #[vi pg.k, vi 0, .slice none 0 0])] ?_
    refine sqal #[vi 0, vi 0, .slice none 0 0] hst8 fun B5_24 W24 hst24 => ?_
    refine sqst (n := 3) 3 #[vi pg.k, vi 0, .slice none 0 0] hst24 fun W25 hst25 => ?_
    refine then_normal (wp_seq (wp_seq (sqr (sqp [.k 6 (vi 0)] ?_))))
    refine then_normal (wp_block ?_)
    have hn27 := St.nilrow hst25 9
    simp only [List.cons_append, List.nil_append] at hn27
    refine wp_loopT (fun t_ mz az W => ∃ j : Nat, ∃ YA : Option Addr, ∃ yc : Nat, ∃ its : List ByteArray, j ≤ 10 ∧ j ≤ pg.its.length ∧ its = (pg.its.take j).map rawS ∧ its.length = j ∧ mz = 10 - j ∧ az = ⟨(ovr (jv az) [(6, 6, 0, [vi ((j : Int))]), (18, 25, 38, [])] t_).toArray, []⟩ ∧ St w [] [eB B8_3 64 #[.slice XA i xc], eO 51 3 (.slice XA i xc) i (Qs.flatMap ptC), ePt Qs, eB B5_24 51 #[vi pg.k, vi 0, .slice YA j yc], eO 9 1 (.slice YA j yc) j (its.map Value.string)] W) (10 - 0) ?_ ?_
    · -- the loop begins
      exact ⟨0, none, 0, [], Nat.zero_le _, Nat.zero_le _, rfl, rfl, rfl, (by kernel_rfl), hn27.pk [0, 1, 2, 3, 4]⟩
    rintro n28 a28 W28 ⟨j, YA, yc, its, hj10, hjn, hT, hTl, rfl, hj_, hst28⟩
    refine ovz hj_ fun u28_ => ?_
    refine wp_seq (wp_seq (sqr (sqp [.m 25 6, .m 26 0, .m 27 4] ?_)))
    refine sql (.pointer (some ((ad A).add (i * 3)))) hst28 (fun cx => run_indexSlM (e := 51) (m := i) (sz := 3) rfl (by kernel_rfl) (by kernel_rfl) (cx.ou 26) (cx.ou 27) (by omega) (by omega) (hA.ext cx.upd.to_ext) (flatPos (sz := 3) ptC_len (by decide) (by omega))) ?_
    refine sql (.pointer (some ((ad A).add (i * 3 + 2)))) hst28 (fun cx => run_fieldAd rfl (by kernel_rfl) (cx.ou 28)) ?_
    refine sql (.slice pg.A pg.its.length pg.c) hst28 (fun cx => run_load1 rfl (by kernel_rfl) (cx.ou 29) (At.eltc (f := ptC) (k := 2) ptC_len (hA.ext cx.upd.to_ext) hpg.1 rfl)) ?_
    refine sqp [.k 31 (vi ((pg.its.length : Int))), .k 32 (.bool (decide ((j : Int) < (pg.its.length : Int)))), .m 33 32] ?_
    refine sqw 33 [34, 35] rfl (fun _ => sqp [.m 34 6, .k 35 (.bool (decide ((j : Int) < 10)))] sqe) ?_
    refine sqp [sPa 36 (decide ((j : Int) < (pg.its.length : Int))) (decide ((j : Int) < 10))] ?_
    refine then_normal (wbs (fun hs41 => ?_) fun hs41 => ?_)
    · have hs41p := hs41
      simp only [zB] at hs41p
      obtain ⟨hs41p1, hs41p2⟩ := hs41p
      refine wp_skip (then_normal (wp_seq (wp_block (wp_region_Y [0, 1, 0, 0, 12, 28, 60, 0, 252, 508, 0, 0, 3072, 7168, 15360, 0, 64512, 130048, 261120, 523264, 1048572, 2097148, 4194303, 8388607, 16777215] [[], [3], [], [], [], [], [], [], [], [], [], [], [], [], [], [], [], [], [], [], [], [], [5, 4], [], [3]] [[], [], [], [], [], [], [], [], [], [], [], [], [], [], [], [], [], [], [], [], [], [5], [6], [], [7]] [[], [], [], [], [], [], [], [], [], [], [], [], [], [], [], [], [], [], [], [], [], [], [4], [], [3]] [.k 39 (.pointer (some ⟨B5_24, 2, none⟩)), .c 40 (.slice YA j yc), .k 41 (.slice A n c), .k 42 (vi ((i : Int))), .c 43 (.pointer (some ((ad A).add (i * 3)))), .c 44 (.pointer (some ((ad A).add (i * 3 + 2)))), .c 45 (.slice pg.A pg.its.length pg.c), .k 46 (vi ((j : Int))), .c 47 (.pointer (some ((ad pg.A).add j))), .c 48 (.string ((pg.its.getD j ByteArray.empty))), .k 49 (.slice A n c), .k 50 (vi ((i : Int))), .c 51 (.pointer (some ((ad A).add (i * 3)))), .c 52 (.pointer (some ((ad A).add (i * 3 + 2)))), .c 53 (.slice pg.A pg.its.length pg.c), .k 54 (vi ((j : Int))), .c 55 (.pointer (some ((ad pg.A).add j))), .c 56 (.string ((pg.its.getD j ByteArray.empty))), .k 57 (vi ((((pg.its.getD j ByteArray.empty)).size : Int))), .c 58 (vi (((min ((pg.its.getD j ByteArray.empty)).size 14 : Nat) : Int))), .c 59 (.string (((pg.its.getD j ByteArray.empty)).extract 0 (((min ((pg.its.getD j ByteArray.empty)).size 14 : Nat))))), .a 60, .a 61, .k 62 (.pointer (some ⟨B5_24, 2, none⟩)), .n] (fun ix σ β X => match ix with | 0 => True | 1 => True | 2 => True | 3 => True | 4 => True | 5 => True | 6 => True | 7 => True | 8 => True | 9 => True | 10 => True | 11 => True | 12 => True | 13 => True | 14 => True | 15 => True | 16 => True | 17 => True | 18 => True | 19 => True | 20 => True | 21 => σ 60 = .slice (sA (β 60)) 1 1 ∧ X 5 = eO 9 1 (.slice (sA (β 60)) 1 1) 1 ([.string (((pg.its.getD j ByteArray.empty)).extract 0 (((min ((pg.its.getD j ByteArray.empty)).size 14 : Nat))))]) | 22 => σ 61 = .slice (sA (β 61)) (j + 1) (sC (β 61)) ∧ X 6 = eO 9 1 (.slice (sA (β 61)) (j + 1) (sC (β 61))) (j + 1) ((its ++ [rawS (pg.its.getD j ByteArray.empty)]).map Value.string) | 23 => True | 24 => X 7 = eB B5_24 51 #[vi pg.k, vi 0, .slice (sA (β 61)) (j + 1) (sC (β 61))] | _ => True) [0, 1, 2, 5, 6, 7] [1, 4, 5, 6, 8, 9, 12, 13, 14, 16, 17, 19, 20, 21, 22, 24] [(39, 0, 24, 63)] hst28 ?_ ?_ ?_))))
      · exact fun ix _ _ _ _ _ _ hs hb hx h => match ix, h with
        | 21, h => by dsimp only; rw [← hs 60 rfl, ← hb 60 rfl, ← hx 5 rfl]; exact h
        | 22, h => by dsimp only; rw [← hs 61 rfl, ← hb 61 rfl, ← hx 6 rfl]; exact h
        | 24, h => by dsimp only; rw [← hb 61 rfl, ← hx 7 rfl]; exact h
        | 0, _ | 1, _ | 2, _ | 3, _ | 4, _ | 5, _ | 6, _ | 7, _ | 8, _ | 9, _ | 10, _ | 11, _ | 12, _ | 13, _ | 14, _ | 15, _ | 16, _ | 17, _ | 18, _ | 19, _ | 20, _ | 23, _ | _ + 25, _ => trivial
      · refine ⟨?_, ?_, ?_, ?_, ?_, ?_, ?_, ?_, ?_, ?_, ?_, ?_, ?_, ?_, ?_, ?_, trivial⟩
        · exact xs4 rfl id fun cx => run_load1 rfl (by kernel_rfl) (cx.an 0) ((cx.bi 3 rfl).cell 2)
        · exact xs4 rfl id fun cx => run_indexSlM (e := 51) (m := i) (sz := 3) rfl (by kernel_rfl) (by kernel_rfl) (cx.an 2) (cx.an 3) (by omega) (by omega) (hA.ext cx.upd.to_ext) (flatPos (sz := 3) ptC_len (by decide) (by omega))
        · exact xs4 rfl id fun cx => run_fieldAd rfl (by kernel_rfl) (cx.an 4)
        · exact xs4 rfl id fun cx => run_load1 rfl (by kernel_rfl) (cx.an 5) (At.eltc (f := ptC) (k := 2) ptC_len (hA.ext cx.upd.to_ext) hpg.1 rfl)
        · exact xs4 rfl id fun cx => run_indexSl (e := 9) (m := j) rfl (by kernel_rfl) (by kernel_rfl) (cx.an 6) (cx.an 7) (by omega) (by omega) ((hI _ hpg.2).ext cx.upd.to_ext) (by simp)
        · exact xs4 rfl id fun cx => run_load1 rfl (by kernel_rfl) (cx.an 8) (At.cellAd ((hI _ hpg.2).ext cx.upd.to_ext) (getD_str (by omega)))
        · exact xs4 rfl id fun cx => run_indexSlM (e := 51) (m := i) (sz := 3) rfl (by kernel_rfl) (by kernel_rfl) (cx.an 10) (cx.an 11) (by omega) (by omega) (hA.ext cx.upd.to_ext) (flatPos (sz := 3) ptC_len (by decide) (by omega))
        · exact xs4 rfl id fun cx => run_fieldAd rfl (by kernel_rfl) (cx.an 12)
        · exact xs4 rfl id fun cx => run_load1 rfl (by kernel_rfl) (cx.an 13) (At.eltc (f := ptC) (k := 2) ptC_len (hA.ext cx.upd.to_ext) hpg.1 rfl)
        · exact xs4 rfl id fun cx => run_indexSl (e := 9) (m := j) rfl (by kernel_rfl) (by kernel_rfl) (cx.an 14) (cx.an 15) (by omega) (by omega) ((hI _ hpg.2).ext cx.upd.to_ext) (by simp)
        · exact xs4 rfl id fun cx => run_load1 rfl (by kernel_rfl) (cx.an 16) (At.cellAd ((hI _ hpg.2).ext cx.upd.to_ext) (getD_str (by omega)))
        · exact xs4 rfl id fun cx => run_min2 rfl (cx.an 18) (cx.co _) (by omega)
        · exact xs4 rfl id fun cx => run_slice_hi (l := ((min ((pg.its.getD j ByteArray.empty)).size 14 : Nat))) rfl (by kernel_rfl) (cx.an 9) (cx.an 19) (by omega) (by omega)
        · refine svA fun ρ β W X cx => ?_
          have fF59 : ρ (.tmp 59) = .string (((pg.its.getD j ByteArray.empty)).extract 0 (((min ((pg.its.getD j ByteArray.empty)).size 14 : Nat)))) := (cx.an 20)
          exact dv_lit (e := 9) (xs := [.string (((pg.its.getD j ByteArray.empty)).extract 0 (((min ((pg.its.getD j ByteArray.empty)).size 14 : Nat))))]) rfl (by simp [go_sem, fF59]) rfl (by decide) rfl rfl (fun σ β' X' hs hb hv hx => ⟨hv, hx⟩)
        · refine svA fun ρ β W X cx => ?_
          obtain ⟨i0, hi0, hz0, hz1, hz2⟩ := info_parts Try.infoStr
          refine dv_append (n := j) (m := 1) (nm := j + 1) (xs := its.map Value.string) (news := [.string (((pg.its.getD j ByteArray.empty)).extract 0 (((min ((pg.its.getD j ByteArray.empty)).size 14 : Nat))))]) (xs' := (its ++ [rawS (pg.its.getD j ByteArray.empty)]).map Value.string) rfl (ty := 49) rfl (by kernel_rfl) hi0 hz0 hz1 hz2 rfl (cx.an 1) cx (cx.init 4 _ rfl) rfl (dTn (cx.an 21)).1 (by first | (simp; done) | (simp; omega)) (At.of_own (cx.row (dTn (cx.an 21)).2 rfl)) (by simp [Value.oneCell']) (by simp only [maxLen]; omega) (by omega) rfl rfl rfl (by omega) (raw_snoc _ _) (fun σ β' X' hs hb hv hx => ?_)
          exact ⟨hv, hx⟩
        · refine svA fun ρ β W X cx => ?_
          exact dv_store (n := 1) rfl (cx.an 23) (dTn (cx.an 22)).1 (by kernel_rfl) (by kernel_rfl) (by kernel_rfl) cx (cx.init 3 _ rfl) rfl (nle rfl) (by kernel_rfl) rfl rfl rfl (fun σ β' X' hs hb hx => by rw [hb 61]; exact hx)
      intro σ β X W42 hD hst42 fr hfr
      obtain ⟨A60_42, hu_A60_42⟩ : ∃ z, sA (β 60) = z := ⟨_, rfl⟩
      obtain ⟨A61_42, hu_A61_42⟩ : ∃ z, sA (β 61) = z := ⟨_, rfl⟩
      obtain ⟨c61_42, hu_c61_42⟩ : ∃ z, sC (β 61) = z := ⟨_, rfl⟩
      simp only [exq 5 ((dTn (hD 21 lq)).2), exq 6 ((dTn (hD 22 lq)).2), exq 7 ((dTn (hD 24 lq))), hu_A60_42, hu_A61_42, hu_c61_42] at hst42
      simp only [ed 60 ((dTn (hD 21 lq)).1), ed 61 ((dTn (hD 22 lq)).1), hu_A60_42, hu_A61_42, hu_c61_42] at hfr
      clear hD hu_A60_42 hu_A61_42 hu_c61_42; subst hfr; clear σ β X
      refine blk_normal (then_normal (sqr (sqp [.m 37 6, sI 38 ((j : Int) + 1) (by omega), .m 6 38] ?_)))
      refine then_normal ?_
      refine ⟨10 - ((j + 1)), by omega, ?_⟩
      exact ⟨(j + 1), A61_42, c61_42, (its ++ [rawS (pg.its.getD j ByteArray.empty)]), by omega, by omega, rawI_step hT (by omega) rfl, by rw [List.length_append, hTl]; rfl, rfl, (by kernel_rfl), hst42.pk [0, 1, 2, 5, 4]⟩
    have hs41p := hs41
    simp only [zB] at hs41p
    refine wp_exit (then_exit (then_exit (blk_eq (then_normal ?_))))
    have hfin : its = (pg.its.take 10).map rawS := rawI_fin hT hjn hj10 (by have h_ := hs41; simp only [Bool.and_eq_false_iff, decide_eq_false_iff_not] at h_; omega)
    subst hTl
    refine wp_region_Y [0, 0, 2, 6, 14, 0, 32, 126, 255, 511, 1023] [[], [], [], [], [0], [3], [], [5, 1], [], [], [0]] [[], [], [], [], [], [], [5], [6], [], [], [7]] [[], [], [], [], [], [], [], [1], [], [], [0]] [.k 63 (vp B8_3), .k 64 (vp B8_3), .k 65 (vp B8_3), .k 66 (vp B8_3), .c 67 (.slice XA i xc), .c 68 (.agg #[vi pg.k, vi 0, .slice YA its.length yc]), .a 69, .a 70, .k 71 (vp B8_3), .k 72 (vp B8_3), .n] (fun ix σ β X => match ix with | 0 => True | 1 => True | 2 => True | 3 => True | 4 => True | 5 => True | 6 => σ 69 = .slice ((some ⟨(pb' (β 69)), 0, none⟩)) 1 1 ∧ X 5 = eO 51 3 (.slice ((some ⟨(pb' (β 69)), 0, none⟩)) 1 1) 1 (ptC (PgT.mk pg.k 0 YA yc its)) | 7 => σ 70 = .slice (sA (β 70)) (i + 1) (sC (β 70)) ∧ X 6 = eO 51 3 (.slice (sA (β 70)) (i + 1) (sC (β 70))) (i + 1) ((Qs ++ [PgT.mk pg.k 0 YA yc its]).flatMap ptC) | 8 => True | 9 => True | 10 => X 7 = eB B8_3 64 #[.slice (sA (β 70)) (i + 1) (sC (β 70))] | _ => True) [2, 3, 4, 5, 6, 7] [4, 5, 6, 7, 10] [(63, 0, 10, 73)] hst28 ?_ ?_ ?_
    · exact fun ix _ _ _ _ _ _ hs hb hx h => match ix, h with
      | 6, h => by dsimp only; rw [← hs 69 rfl, ← hb 69 rfl, ← hx 5 rfl]; exact h
      | 7, h => by dsimp only; rw [← hs 70 rfl, ← hb 70 rfl, ← hx 6 rfl]; exact h
      | 10, h => by dsimp only; rw [← hb 70 rfl, ← hx 7 rfl]; exact h
      | 0, _ | 1, _ | 2, _ | 3, _ | 4, _ | 5, _ | 8, _ | 9, _ | _ + 11, _ => trivial
    · refine ⟨?_, ?_, ?_, ?_, ?_, trivial⟩
      · exact xs4 rfl id fun cx => run_load1 rfl (by kernel_rfl) (cx.an 3) ((cx.bi 0 rfl).cell 0)
      · exact xs4 rfl id fun cx => run_loadB (n := 3) rfl (by kernel_rfl) (by kernel_rfl) (cx.ou 5) (cx.bi 3 rfl) (nle rfl) rfl
      · refine svA fun ρ β W X cx => ?_
        have fF68 : ρ (.tmp 68) = .agg #[vi pg.k, vi 0, .slice YA its.length yc] := (cx.an 5)
        exact dv_litN (e := 51) (sz := 3) (xs := [vi pg.k, vi 0, .slice YA its.length yc]) rfl (by simp [go_sem, fF68]) rfl (by decide) rfl rfl (fun σ β' X' hs hb hv hx => ⟨hv, hx⟩)
      · refine svA fun ρ β W X cx => ?_
        obtain ⟨i0, hi0, hz0, hz1, hz2⟩ := info_parts Try.infoPage
        refine dv_appendN (n := i) (m := 1) (nm := i + 1) (sz := 3) (xs := Qs.flatMap ptC) (news := ptC (PgT.mk pg.k 0 YA yc its)) (xs' := (Qs ++ [PgT.mk pg.k 0 YA yc its]).flatMap ptC) rfl (ty := 57) rfl (by kernel_rfl) hi0 hz0 hz1 hz2 rfl (by decide) (cx.an 4) cx (cx.init 1 _ rfl) rfl (dTn (cx.an 6)).1 (by rfl) (At.of_ownN (cx.row (dTn (cx.an 6)).2 rfl)) ((fun u hu => ptC_one [PgT.mk pg.k 0 YA yc its] u (by simpa using hu))) (by simp only [maxLen]; omega) (by omega) rfl rfl rfl (by omega) (pt_snoc _ _) (fun σ β' X' hs hb hv hx => ?_)
        exact ⟨hv, hx⟩
      · refine svA fun ρ β W X cx => ?_
        exact dv_store (n := 1) rfl (cx.an 9) (dTn (cx.an 7)).1 (by kernel_rfl) (by kernel_rfl) (by kernel_rfl) cx (cx.init 0 _ rfl) rfl (nle rfl) (by kernel_rfl) rfl rfl rfl (fun σ β' X' hs hb hx => by rw [hb 70]; exact hx)
    intro σ β X W46 hD hst46 fr hfr
    obtain ⟨B69_46, hu_B69_46⟩ : ∃ z, pb' (β 69) = z := ⟨_, rfl⟩
    obtain ⟨A70_46, hu_A70_46⟩ : ∃ z, sA (β 70) = z := ⟨_, rfl⟩
    obtain ⟨c70_46, hu_c70_46⟩ : ∃ z, sC (β 70) = z := ⟨_, rfl⟩
    simp only [exq 5 ((dTn (hD 6 lq)).2), exq 6 ((dTn (hD 7 lq)).2), exq 7 ((dTn (hD 10 lq))), hu_B69_46, hu_A70_46, hu_c70_46] at hst46
    simp only [ed 69 ((dTn (hD 6 lq)).1), ed 70 ((dTn (hD 7 lq)).1), hu_B69_46, hu_A70_46, hu_c70_46] at hfr
    clear hD hu_B69_46 hu_A70_46 hu_c70_46; subst hfr; clear σ β X
    refine blk_normal (then_normal (sqr (sqp [.m 17 4, sI 18 ((i : Int) + 1) (by omega), .m 4 18] ?_)))
    refine then_normal ?_
    have hm50 := St.mergeT (Qs := Qs) (p := (PgT.mk pg.k 0 YA yc its)) (L := [eB B8_3 64 #[.slice A70_46 (i + 1) c70_46], eO 51 3 (.slice ((some ⟨B69_46, 0, none⟩)) 1 1) 1 (ptC (PgT.mk pg.k 0 YA yc its)), eO 51 3 (.slice A70_46 (i + 1) c70_46) (i + 1) ((Qs ++ [PgT.mk pg.k 0 YA yc its]).flatMap ptC)]) (hst46.pick [5, 3, 4, 0, 2] (by decide) rfl)
    refine ⟨8 - ((i + 1)), by omega, ?_⟩
    exact ⟨(i + 1), A70_46, c70_46, (Qs ++ [(PgT.mk pg.k 0 YA yc its)]), by omega, by omega, by rw [List.length_append, hQl]; rfl, rawP_step hQ hpg.1 (by rw [hfin]; rfl), rfl, (by kernel_rfl), hm50.pk [0, 2, 3]⟩
  have hs17p := hs17
  simp only [zB] at hs17p
  refine wp_exit (then_exit (then_exit (blk_eq (then_normal (wp_seq ?_)))))
  have hall := rawP_fin hQ (by omega) hi8 (by have h_ := hs17; simp only [Bool.and_eq_false_iff, decide_eq_false_iff_not] at h_; omega)
  refine sqr (sqp [.m 73 3, .m 2 73] ?_)
  refine then_normal (wp_ret ?_)
  refine bpr (vp B8_3) (results_1 Try.results31 rpt) ?_
  have hpk_ := hst8.pick [0, 1, 2] (by decide) rfl
  obtain ⟨fp, hfp_⟩ := St.bk (L := []) hpk_ hall (by rw [← hall, List.length_map, hQl]) (fun p hp => hp); exact ⟨_, fp, rfl, hfp_⟩
end
end Go.Proofs.Ytjlcoglmjldjbaa
namespace Go.Proofs.Ytjlcoglmjldjbaa
section
open Go.RowKit
set_option linter.unusedVariables false
set_option linter.unusedSimpArgs false
def tkK (t : TaT) : List Value := [.string t.1, .int .i64 0, .int .i64 t.2.2, .int .i64 t.2.1]
theorem tkK_len (t : TaT) : (tkK t).length = 4 := rfl
/-- an insertion: its block; its pending entries lie in the blocks behind it -/
def ePk (b : Nat) (p : PuT) (fp : List Nat) : Ent := ⟨fp, fun W => ∃ A c g, fp = b :: g ∧ b ∉ g ∧ p.left.length ≤ c ∧ (∀ ad, A = some ad → p.left ≠ [] → ad.block ∈ g) ∧ (∀ k ∈ g, k < W.heap.size) ∧ Blk W b 109 (puC p A c) ∧ At W A (p.left.flatMap tkK)⟩
theorem ePk_self {e : Ent} {b : Nat} {p : PuT} {fp : List Nat} (h : e = ePk b p fp) : e = ePk b p e.fp := by subst h; rfl
theorem ePk_loc (b : Nat) (p : PuT) (fp : List Nat) : (ePk b p fp).loc := fun W W' hk h => by
  obtain ⟨A, c, g, rfl, h2, h3, h4, h5, h6, h7⟩ := h
  refine ⟨A, c, g, rfl, h2, h3, h4, fun k hkg => ?_, (hk b (by simp [ePk])).trans h6, at_blocks h7 fun ad e hl => hk _ (by simp [ePk, h4 ad e hl])⟩
  have h8 := hk k (by simp [ePk, hkg])
  rcases Nat.lt_or_ge k W'.heap.size with h9 | h9
  · exact h9
  · rw [Array.getElem?_eq_none h9, Array.getElem?_eq_getElem (h5 k hkg)] at h8; cases h8
/-- behind a step: the pending entries lie where they lay -/
theorem pk_old {w W : World} {b : Nat} {g fp : List Nat} {p : PuT} {A : Option Addr} {c : Nat} {E : Ent} (h : St w [b] [eB b 109 (puC p A c), E] W) (hfp : fp = b :: g) (hbg : b ∉ g) (hlt : ∀ k ∈ g, k < w.heap.size) (hc : p.left.length ≤ c) (hA : At W A (p.left.flatMap tkK)) (hAg : ∀ ad, A = some ad → p.left ≠ [] → ad.block ∈ g) : ∃ fp', St w fp [ePk b p fp', E] W := by
  subst hfp
  have h1 := h.ok _ (List.mem_cons_self ..)
  have h2 := h.ok E (by simp)
  have ha := List.pairwise_pair.1 h.apart
  have hB : Blk W b 109 (puC p A c) := h1.holds
  have hnew : ∀ k ∈ E.fp, w.heap.size ≤ k := fun k hk => by
    rcases (h2.own k hk).1 with h3 | h3
    · exact absurd hk (ha k (by simpa [eB] using h3))
    · exact h3
  refine ⟨b :: g, h.upd.mono (fun k _ hk => by simp at hk; simp [hk]), fun x hx => ?_, List.pairwise_pair.2 fun k hk hk' => ?_⟩
  · simp only [List.mem_cons, List.not_mem_nil, or_false] at hx
    rcases hx with rfl | rfl
    · refine ⟨⟨A, c, g, rfl, hbg, hc, hAg, fun k hk => Nat.lt_of_lt_of_le (hlt k hk) h.upd.size, hB, hA⟩, ePk_loc _ _ _, fun k hk => ⟨.inl hk, ?_⟩⟩
      rcases List.mem_cons.1 hk with e | hk
      · rw [e]; exact hB.lt
      · exact Nat.lt_of_lt_of_le (hlt k hk) h.upd.size
    · exact ⟨h2.holds, h2.loc, fun k hk => ⟨.inr (hnew k hk), (h2.own k hk).2⟩⟩
  · have h4 := hnew k hk'
    rcases List.mem_cons.1 hk with e | hk
    · exact ha k (by simp [eB, e]) hk'
    · exact absurd (hlt k hk) (by omega)
theorem gk_new {w W : World} {b : Nat} {p : PuT} {A : Option Addr} {c : Nat} (h : St w [] [eB b 109 (puC p A c), eO 106 4 (.slice A p.left.length c) p.left.length (p.left.flatMap tkK)] W) : ∃ fp, St w [] [ePk b p fp] W := by
  have h1 := h.ok (eB b 109 (puC p A c)) (by simp)
  have h3 := h.ok (eO 106 4 (.slice A p.left.length c) p.left.length (p.left.flatMap tkK)) (by simp)
  have hp := List.pairwise_pair.1 h.apart
  have hB : Blk W b 109 (puC p A c) := h1.holds
  have hO : W.ownsRow 0 106 4 (.slice A p.left.length c) p.left.length (p.left.flatMap tkK) := h3.holds
  refine ⟨b :: (Value.slice A p.left.length c).ownBlock.toList, h.upd, fun x hx => ?_, List.pairwise_singleton _ _⟩
  rw [List.mem_singleton] at hx
  subst hx
  refine ⟨⟨A, c, _, rfl, fun hm => hp b (by simp [eB]) hm, eown_capN hO, fun ad e hl => ?_, fun k hk => (h3.own k hk).2, hB, At.of_ownN hO⟩, ePk_loc _ _ _, fun k hk => ?_⟩
  · subst e
    rcases hO.2 with ⟨hv, hm⟩ | ⟨g', cap, cur, hv, _⟩
    · injection hv with h5; cases h5
    · injection hv with h5; injection h5 with h5; subst h5; simp [Value.ownBlock]
  · rcases List.mem_cons.1 hk with e | hk
    · rw [e]; exact h1.own b (by simp [eB])
    · exact h3.own k hk
theorem tail_blk4 {lc : Nat} {la ad : Addr} (h : (if lc = 1 then some la else (some la).map (·.add (1 * 4))) = some ad) : ad.block = la.block := by
  split at h
  · rw [← Option.some.inj h]
  · have h2 := Option.some.inj h; rw [← h2, add_block]
def GkPost (p : PuT) (w : World) (e : Ending) (w' : World) : Prop := ∃ b fp, e = .returned (.pointer (some ⟨b, 0, none⟩)) ∧ St w [] [ePk b p fp] w'
def PtPost (b : Nat) (cells : Array Value) (eds : List EdT) (w : World) (e : Ending) (w' : World) : Prop := ∃ A c, e = .returned (.slice A eds.length c) ∧ St w [b] [eB b 109 cells, eO 99 3 (.slice A eds.length c) eds.length (eds.flatMap edC)] w'
def KtPost (b : Nat) (r : PuT × GoT) (fp : List Nat) (w : World) (e : Ending) (w' : World) : Prop := ∃ A c, e = .returned (.tuple #[.slice A r.2.eds.length c, .bool r.2.used, .int .i64 r.2.err]) ∧ ∃ fp', St w fp [ePk b r.1 fp', eO 99 3 (.slice A r.2.eds.length c) r.2.eds.length (r.2.eds.flatMap edC)] w'
set_option maxRecDepth 100000 in
set_option maxHeartbeats 2000000 in
theorem kgrowN_any (root : Int) (key : ByteArray) (pg sl : Int) (w : World) (hk : key.size ≤ 1000000) :
    Calls Try.prog 12 #[.int .i64 root, .string key, .agg #[.int .i64 pg, .int .i64 sl]] w (GkPost (putT root key pg sl) w) := by
  go_enter Try.func12, Try.ntmps12
  have hst0 := St.start w
  refine wp_seq (sqr ?_)
  refine sqbx #[vi pg, vi sl] hst0 fun B5_1 W1 hst1 => ?_
  refine sqp [.k 6 (.pointer none)] ?_
  refine then_normal (wp_seq (sqr (sqp [.m 7 0, .m 8 0, .m 9 1] ?_)))
  refine sqlb 0 2 hst1 ?_
  refine sqk (.string (entF key pg sl)) hst1 (fun cx => ⟨_, kentry_any key pg sl _ (by omega), (map2 (cx.ou 9) (cx.ou 10))⟩) fun W7 hst7 => ?_
  refine sqp [.k 12 (.agg #[.string (entF key pg sl), vi 0, vi 0]), .k 13 (.agg #[.string (entF key pg sl), vi 0, vi 0, vi 0])] ?_
  refine sqli 106 4 1 [.string (entF key pg sl), vi 0, vi 0, vi 0] hst7 (@fun ρ β W X cx => by have fF13 : ρ (.tmp 13) = .agg #[.string (entF key pg sl), vi 0, vi 0, vi 0] := (cx.ou 13); simp [go_sem, fF13]) fun B14_10 W10 hst10 => ?_
  refine sqp [.k 15 (.agg #[vi root, vi root, vi (-1), .slice ((some ⟨B14_10, 0, none⟩)) 1 1, vi 0, vi 0, .bool false])] ?_
  refine sqbx #[vi root, vi root, vi (-1), .slice ((some ⟨B14_10, 0, none⟩)) 1 1, vi 0, vi 0, .bool false] hst10 fun B16_12 W12 hst12 => ?_
  refine sqp [.m 6 16] ?_
  refine then_normal (wp_ret ?_)
  refine bpr (vp B16_12) (results_1 Try.results12 rpt) ?_
  obtain ⟨fp_, hgw_⟩ := gk_new (p := putT root key pg sl) (hst12.pick [2, 1] (by decide) rfl)
  exact ⟨_, _, rfl, hgw_⟩
set_option maxRecDepth 100000 in
set_option maxHeartbeats 2000000 in
theorem kdone_o (b : Nat) (root pos leaf fro to : Int) (spl : Bool) (LA : Option Addr) (ln lc : Nat) (w : World) (hb : Blk w b 109 #[.int .i64 root, .int .i64 pos, .int .i64 leaf, .slice LA ln lc, .int .i64 fro, .int .i64 to, .bool spl]) :
    Calls Try.prog 21 #[.pointer (some ⟨b, 0, none⟩)] w (Ret (.bool ((ln : Int) == 0)) w) := by
  go_enter Try.func21, Try.ntmps21
  have hst0 := St.start w
  refine wp_seq (sqr (sqp [.k 2 (.bool false)] ?_))
  refine then_normal (wp_seq (sqr (sqp [.m 3 0] ?_)))
  refine sqv (.bool false) hst0 (by
      exact sv0 rfl rfl rfl rfl rfl (fun _ _ _ h => h) fun ρ β W X cx => by
        have fF3 : ρ (.tmp 3) = vp b := (cx.ou 3)
        simp [go_sem, cx.sees.const, fF3]) fun W3 hst3 => ?_
  refine sqp [.k 5 (.bool false)] ?_
  refine sqgy 5 [6, 7, 8, 9, 10, 11] rfl rfl ?_
  refine sqp [.m 6 0, .k 7 (vp b), .k 8 (.pointer (some ⟨b, 3, none⟩))] ?_
  refine sql (.slice LA ln lc) hst3 (fun cx => run_load1 rfl (by kernel_rfl) (cx.ou 8) ((Blk.ext hb cx.upd.to_ext).cell 3)) ?_
  refine sqp [.k 10 (vi ((ln : Int))), .k 11 (.bool ((ln : Int) == 0))] ?_
  refine sqp [.k 12 (.bool ((ln : Int) == 0)), .m 2 12] ?_
  refine then_normal (wp_ret ?_)
  refine bpr (.bool ((ln : Int) == 0)) (results_1 Try.results21 rpt) ?_
  exact Ret.bool (by simp) hst3.ext
set_option maxRecDepth 100000 in
set_option maxHeartbeats 2000000 in
theorem kleaf_o (b : Nat) (root pos leaf fro to : Int) (spl : Bool) (LA : Option Addr) (ln lc : Nat) (w : World) (hb : Blk w b 109 #[.int .i64 root, .int .i64 pos, .int .i64 leaf, .slice LA ln lc, .int .i64 fro, .int .i64 to, .bool spl]) :
    Calls Try.prog 23 #[.pointer (some ⟨b, 0, none⟩)] w (Ret (.int .i64 leaf) w) := by
  go_enter Try.func23, Try.ntmps23
  have hst0 := St.start w
  refine wp_seq (sqr (sqp [.k 2 (vi 0)] ?_))
  refine then_normal (wp_seq (wp_seq (sqr (sqp [.m 3 0] ?_))))
  refine sqv (.bool false) hst0 (by
      exact sv0 rfl rfl rfl rfl rfl (fun _ _ _ h => h) fun ρ β W X cx => by
        have fF3 : ρ (.tmp 3) = vp b := (cx.ou 3)
        simp [go_sem, cx.sees.const, fF3]) fun W3 hst3 => ?_
  refine then_normal (wcf rfl (wp_skip (then_normal (wp_seq (sqr (sqp [.m 5 0, .k 6 (vp b), .k 7 (.pointer (some ⟨b, 2, none⟩))] ?_))))))
  refine sql (vi leaf) hst3 (fun cx => run_load1 rfl (by kernel_rfl) (cx.ou 7) ((Blk.ext hb cx.upd.to_ext).cell 2)) ?_
  refine sqp [.m 2 8] ?_
  refine then_normal (wp_ret ?_)
  refine bpr (vi leaf) (results_1 Try.results23 rpt) ?_
  exact Ret.of rfl hst3.ext
theorem kdone_pk {b : Nat} {p : PuT} {fp : List Nat} {w : World} (h : (ePk b p fp).holds w) : Calls Try.prog 21 #[.pointer (some ⟨b, 0, none⟩)] w (Ret (.bool ((p.left.length : Int) == 0)) w) := by
  obtain ⟨A, c, g, _, _, _, _, _, hB, _⟩ := h
  exact kdone_o b p.root p.pos p.leaf p.fro p.to p.spl A p.left.length c w hB
theorem kleaf_pk {b : Nat} {p : PuT} {fp : List Nat} {w : World} (h : (ePk b p fp).holds w) : Calls Try.prog 23 #[.pointer (some ⟨b, 0, none⟩)] w (Ret (.int .i64 p.leaf) w) := by
  obtain ⟨A, c, g, _, _, _, _, _, hB, _⟩ := h
  exact kleaf_o b p.root p.pos p.leaf p.fro p.to p.spl A p.left.length c w hB
set_option maxRecDepth 100000 in
set_option maxHeartbeats 2000000 in
theorem kput_any (b : Nat) (root pos leaf fro to : Int) (spl : Bool) (la : Addr) (ln lc : Nat) (nd : NoD) (np : Int) (EA : Option Addr) (ec : Nat) (te : ByteArray) (t1 tk tl : Int) (q : Bool) (w : World) (hb : Blk w b 109 #[.int .i64 root, .int .i64 pos, .int .i64 leaf, .slice ((some la)) ln lc, .int .i64 fro, .int .i64 to, .bool spl]) (hE : ∀ W, Upd [b] w W → At W EA (nd.es.flatMap enC)) (hel : nd.es.length ≤ 1000) (hln : 1 ≤ ln) (hlc : ln ≤ lc) (hte : te.size ≤ 1000000) (hq : hasE nd.es te = q) :
    Calls Try.prog 52 #[.pointer (some ⟨b, 0, none⟩), .agg #[.int .i64 np, .int .i64 nd.lv, .int .i64 nd.right, .string nd.high, .bool nd.dead, .slice EA nd.es.length ec, .int .i64 ((nd.free : Int))], .agg #[.string te, .int .i64 t1, .int .i64 tk, .int .i64 tl]] w (PtPost b #[.int .i64 root, .int .i64 root, .int .i64 ((if tl = 0 then np else leaf)), .slice ((if lc = 1 then some la else (some la).map (·.add (1 * 4)))) ((ln - 1)) ((lc - 1)), .int .i64 fro, .int .i64 to, .bool spl] (if q = true then [] else [(np, (nd.free : Int), itB nd.lv tk te)]) w) := by
  have st0 := St.lend (E := eB b 109 #[.int .i64 root, .int .i64 pos, .int .i64 leaf, .slice ((some la)) ln lc, .int .i64 fro, .int .i64 to, .bool spl]) hb (eB_loc _ _ _) (fun k hk => by simp [eB] at hk; subst hk; exact hb.lt)
  go_enter Try.func52, Try.ntmps52
  have hst0 := st0
  refine wp_seq (sqr ?_)
  refine sqbx #[vi np, vi nd.lv, vi nd.right, .string nd.high, .bool nd.dead, .slice EA nd.es.length ec, vi ((nd.free : Int))] hst0 fun B4_1 W1 hst1 => ?_
  refine sqbx #[.string te, vi t1, vi tk, vi tl] hst1 fun B5_2 W2 hst2 => ?_
  refine sqp [.k 6 (.slice none 0 0)] ?_
  refine then_normal (wp_seq (sqr (sqp [.k 7 (.slice none 0 0)] ?_)))
  refine then_normal (wp_seq (wp_seq (sqr (sqp [.k 8 (.pointer (some ⟨B4_1, 5, none⟩))] ?_))))
  refine sqld 1 hst2 ?_
  refine sqv (.func (.func 83) #[] #[vp B5_2]) hst2 (by
      exact sv0 rfl rfl rfl rfl rfl (fun _ _ _ h => h) fun ρ β W X cx => by
        have fF5 : ρ (.tmp 5) = vp B5_2 := (cx.ou 5)
        simp [go_sem, Instr.makeFunc, fF5]) fun W7 hst7 => ?_
  refine sqk (.bool ((hasE nd.es te))) hst7 (fun cx => ⟨_, kput1_con (hE _ cx.upd) (by omega) (cx.bi 2 rfl), (map2 (cx.ou 9) (cx.ou 10))⟩) fun W8 hst8 => ?_
  refine sqp [.k 12 (.bool (!((hasE nd.es te))))] ?_
  refine then_normal ?_
  rcases Bool.eq_false_or_eq_true ((hasE nd.es te)) with hs10 | hs10
  · refine wp_cond_false (show Act.eval _ _ = .bool false from (congrArg Value.bool (by rw [hs10]; rfl))) (wp_skip (then_normal (wp_seq (wp_seq (sqr (sqp [.k 23 (.pointer (some ⟨B5_2, 3, none⟩))] ?_))))))
    refine sqld 2 hst8 ?_
    refine sqp [.k 25 (.bool (tl == 0))] ?_
    refine then_normal (wbs (fun hs14 => ?_) fun hs14 => ?_)
    · have hs14p := beq_iff_eq.1 hs14
      refine sqr (sqp [.m 26 0, .k 27 (vp B4_1)] ?_)
      refine sqld 1 hst8 ?_
      refine sqp [.k 29 (vp b), .k 30 (.pointer (some ⟨b, 2, none⟩))] ?_
      refine sqst (n := 1) 0 #[vi root, vi pos, vi np, .slice ((some la)) ln lc, vi fro, vi to, .bool spl] hst8 fun W20 hst20 => ?_
      refine then_normal (wp_seq (wp_region_Y [0, 0, 0, 4, 12, 28, 60, 0, 128, 384, 896, 2045, 4093, 8189, 16383, 32767, 65535] [[], [], [], [], [], [0], [], [], [], [], [0], [], [], [0], [], [], [3]] [[], [], [], [], [], [], [], [], [], [], [], [], [], [3], [], [], [4]] [[], [], [], [], [], [], [], [], [], [], [], [], [], [0], [], [], [3]] [.k 31 (vp b), .k 32 (vp b), .k 33 (vp b), .k 34 (vp b), .k 35 (.pointer (some ⟨b, 3, none⟩)), .c 36 (.slice ((some la)) ln lc), .c 37 (.slice ((if lc = 1 then (some la) else ((some la)).map (·.add (1 * 4)))) ((ln - 1)) ((lc - 1))), .k 38 (vp b), .k 39 (vp b), .k 40 (vp b), .c 41 (vi root), .k 42 (vp b), .k 43 (.pointer (some ⟨b, 3, none⟩)), .n, .k 44 (vp b), .k 45 (.pointer (some ⟨b, 1, none⟩)), .n] (fun ix σ β X => match ix with | 0 => True | 1 => True | 2 => True | 3 => True | 4 => True | 5 => True | 6 => True | 7 => True | 8 => True | 9 => True | 10 => True | 11 => True | 12 => True | 13 => X 3 = eB b 109 #[vi root, vi pos, vi np, .slice ((if lc = 1 then (some la) else ((some la)).map (·.add (1 * 4)))) ((ln - 1)) ((lc - 1)), vi fro, vi to, .bool spl] | 14 => True | 15 => True | 16 => X 4 = eB b 109 #[vi root, vi root, vi np, .slice ((if lc = 1 then (some la) else ((some la)).map (·.add (1 * 4)))) ((ln - 1)) ((lc - 1)), vi fro, vi to, .bool spl] | _ => True) [1, 2, 4] [5, 6, 10, 13, 16] [(31, 0, 16, 46)] hst20 ?_ ?_ ?_))
      · exact fun ix _ _ _ _ _ _ hs hb hx h => match ix, h with
        | 13, h => by dsimp only; rw [← hx 3 rfl]; exact h
        | 16, h => by dsimp only; rw [← hx 4 rfl]; exact h
        | 0, _ | 1, _ | 2, _ | 3, _ | 4, _ | 5, _ | 6, _ | 7, _ | 8, _ | 9, _ | 10, _ | 11, _ | 12, _ | 14, _ | 15, _ | _ + 17, _ => trivial
      · refine ⟨?_, ?_, ?_, ?_, ?_, trivial⟩
        · exact xs4 rfl id fun cx => run_load1 rfl (by kernel_rfl) (cx.an 4) ((cx.bi 0 rfl).cell 3)
        · exact xs4 rfl id fun cx => run_sliceL_lo (e := 106) (sz := 4) (l := 1) rfl (by kernel_rfl) (by kernel_rfl) (cx.an 5) (cx.co _) (by omega) (by omega)
        · exact xs4 rfl id fun cx => run_load1 rfl (by kernel_rfl) (cx.an 9) ((cx.bi 0 rfl).cell 0)
        · refine svA fun ρ β W X cx => ?_
          exact dv_store (n := 1) rfl (cx.an 12) (cx.an 6) (by kernel_rfl) (by kernel_rfl) (by kernel_rfl) cx (cx.init 0 _ rfl) rfl (nle rfl) (by kernel_rfl) rfl rfl rfl (fun σ β' X' hs hb hx => hx)
        · refine svA fun ρ β W X cx => ?_
          exact dv_store (n := 1) rfl (cx.an 15) (cx.an 10) (by kernel_rfl) (by kernel_rfl) (by kernel_rfl) cx (dTn (cx.an 13)) rfl (nle rfl) (by kernel_rfl) rfl rfl rfl (fun σ β' X' hs hb hx => hx)
      intro σ β X W21 hD hst21 fr hfr
      simp only [exq 4 ((dTn (hD 16 lq)))] at hst21
      clear hD; subst hfr; clear σ β X
      refine then_normal (wp_seq (sqr (sqp [.m 46 7, .m 6 46] ?_)))
      refine then_normal (wp_ret ?_)
      refine bpr (.slice none 0 0) (results_1 Try.results52 rpt) ?_
      have hqq : q = true := hq.symm.trans hs10
      have htl0 : tl = 0 := by have h_ := hs14; simpa using h_
      rw [if_pos htl0, hqq]
      have hn24 := nilrowN hst21 99 3
      simp only [List.cons_append, List.nil_append] at hn24
      exact ⟨_, _, rfl, hn24.pick [2, 3] (by decide) rfl⟩
    have hs14p := beq_eq_false_iff_ne.1 hs14
    refine wp_skip (then_normal (wp_seq (wp_region_Y [0, 0, 0, 4, 12, 28, 60, 0, 128, 384, 896, 2045, 4093, 8189, 16383, 32767, 65535] [[], [], [], [], [], [0], [], [], [], [], [0], [], [], [0], [], [], [3]] [[], [], [], [], [], [], [], [], [], [], [], [], [], [3], [], [], [4]] [[], [], [], [], [], [], [], [], [], [], [], [], [], [0], [], [], [3]] [.k 31 (vp b), .k 32 (vp b), .k 33 (vp b), .k 34 (vp b), .k 35 (.pointer (some ⟨b, 3, none⟩)), .c 36 (.slice ((some la)) ln lc), .c 37 (.slice ((if lc = 1 then (some la) else ((some la)).map (·.add (1 * 4)))) ((ln - 1)) ((lc - 1))), .k 38 (vp b), .k 39 (vp b), .k 40 (vp b), .c 41 (vi root), .k 42 (vp b), .k 43 (.pointer (some ⟨b, 3, none⟩)), .n, .k 44 (vp b), .k 45 (.pointer (some ⟨b, 1, none⟩)), .n] (fun ix σ β X => match ix with | 0 => True | 1 => True | 2 => True | 3 => True | 4 => True | 5 => True | 6 => True | 7 => True | 8 => True | 9 => True | 10 => True | 11 => True | 12 => True | 13 => X 3 = eB b 109 #[vi root, vi pos, vi leaf, .slice ((if lc = 1 then (some la) else ((some la)).map (·.add (1 * 4)))) ((ln - 1)) ((lc - 1)), vi fro, vi to, .bool spl] | 14 => True | 15 => True | 16 => X 4 = eB b 109 #[vi root, vi root, vi leaf, .slice ((if lc = 1 then (some la) else ((some la)).map (·.add (1 * 4)))) ((ln - 1)) ((lc - 1)), vi fro, vi to, .bool spl] | _ => True) [1, 2, 4] [5, 6, 10, 13, 16] [(31, 0, 16, 46)] hst8 ?_ ?_ ?_)))
    · exact fun ix _ _ _ _ _ _ hs hb hx h => match ix, h with
      | 13, h => by dsimp only; rw [← hx 3 rfl]; exact h
      | 16, h => by dsimp only; rw [← hx 4 rfl]; exact h
      | 0, _ | 1, _ | 2, _ | 3, _ | 4, _ | 5, _ | 6, _ | 7, _ | 8, _ | 9, _ | 10, _ | 11, _ | 12, _ | 14, _ | 15, _ | _ + 17, _ => trivial
    · refine ⟨?_, ?_, ?_, ?_, ?_, trivial⟩
      · exact xs4 rfl id fun cx => run_load1 rfl (by kernel_rfl) (cx.an 4) ((cx.bi 0 rfl).cell 3)
      · exact xs4 rfl id fun cx => run_sliceL_lo (e := 106) (sz := 4) (l := 1) rfl (by kernel_rfl) (by kernel_rfl) (cx.an 5) (cx.co _) (by omega) (by omega)
      · exact xs4 rfl id fun cx => run_load1 rfl (by kernel_rfl) (cx.an 9) ((cx.bi 0 rfl).cell 0)
      · refine svA fun ρ β W X cx => ?_
        exact dv_store (n := 1) rfl (cx.an 12) (cx.an 6) (by kernel_rfl) (by kernel_rfl) (by kernel_rfl) cx (cx.init 0 _ rfl) rfl (nle rfl) (by kernel_rfl) rfl rfl rfl (fun σ β' X' hs hb hx => hx)
      · refine svA fun ρ β W X cx => ?_
        exact dv_store (n := 1) rfl (cx.an 15) (cx.an 10) (by kernel_rfl) (by kernel_rfl) (by kernel_rfl) cx (dTn (cx.an 13)) rfl (nle rfl) (by kernel_rfl) rfl rfl rfl (fun σ β' X' hs hb hx => hx)
    intro σ β X W25 hD hst25 fr hfr
    simp only [exq 4 ((dTn (hD 16 lq)))] at hst25
    clear hD; subst hfr; clear σ β X
    refine then_normal (wp_seq (sqr (sqp [.m 46 7, .m 6 46] ?_)))
    refine then_normal (wp_ret ?_)
    refine bpr (.slice none 0 0) (results_1 Try.results52 rpt) ?_
    have hqq : q = true := hq.symm.trans hs10
    have htl0 : ¬ tl = 0 := by have h_ := hs14; simpa using h_
    rw [if_neg htl0, hqq]
    have hn28 := nilrowN hst25 99 3
    simp only [List.cons_append, List.nil_append] at hn28
    exact ⟨_, _, rfl, hn28.pick [2, 3] (by decide) rfl⟩
  refine wp_cond_true (show Act.eval _ _ = .bool true from (congrArg Value.bool (by rw [hs10]; rfl))) (wp_region_Y [0, 1, 0, 4, 0, 0, 32, 112, 255, 511, 1023] [[], [1], [], [1], [1], [], [2]] [[], [], [], [], [], [], [], [], [], [3]] [] [.k 13 (vp B4_1), .c 14 (vi np), .k 15 (.pointer (some ⟨B4_1, 6, none⟩)), .c 16 (vi ((nd.free : Int))), .c 17 (.agg #[vi np, vi nd.lv, vi nd.right, .string nd.high, .bool nd.dead, .slice EA nd.es.length ec, vi ((nd.free : Int))]), .k 18 (vp B5_2), .c 19 (.agg #[.string te, vi t1, vi tk]), .c 20 (.string (itB nd.lv tk te)), .k 21 (.agg #[vi np, vi ((nd.free : Int)), .string (itB nd.lv tk te)]), .a 22, .a 7] (fun ix σ β X => match ix with | 0 => True | 1 => True | 2 => True | 3 => True | 4 => True | 5 => True | 6 => True | 7 => True | 8 => True | 9 => σ 22 = .slice ((some ⟨(pb' (β 22)), 0, none⟩)) 1 1 ∧ X 3 = eO 99 3 (.slice ((some ⟨(pb' (β 22)), 0, none⟩)) 1 1) 1 ([vi np, vi ((nd.free : Int)), .string (itB nd.lv tk te)]) | 10 => σ 7 = .slice ((some ⟨(pb' (β 22)), 0, none⟩)) 1 1 | _ => True) [0, 1, 2, 3] [1, 3, 4, 6, 7, 9, 10] [(7, 10, 1, 8), (5, 0, 10, 15)] hst8 ?_ ?_ ?_)
  · exact fun ix _ _ _ _ _ _ hs hb hx h => match ix, h with
    | 9, h => by dsimp only; rw [← hs 22 rfl, ← hb 22 rfl, ← hx 3 rfl]; exact h
    | 10, h => by dsimp only; rw [← hs 7 rfl, ← hb 22 rfl]; exact h
    | 0, _ | 1, _ | 2, _ | 3, _ | 4, _ | 5, _ | 6, _ | 7, _ | 8, _ | _ + 11, _ => trivial
  · refine ⟨?_, ?_, ?_, ?_, ?_, ?_, ?_, trivial⟩
    · exact xs4 rfl id fun cx => run_load1 rfl (by kernel_rfl) (cx.an 0) ((cx.bi 1 rfl).cell 0)
    · exact xs4 rfl id fun cx => run_load1 rfl (by kernel_rfl) (cx.an 2) ((cx.bi 1 rfl).cell 6)
    · exact xs4 rfl id fun cx => run_loadB (n := 7) rfl (by kernel_rfl) (by kernel_rfl) (cx.ou 4) (cx.bi 1 rfl) (nle rfl) rfl
    · exact xs4 rfl id fun cx => run_loadB (n := 3) rfl (by kernel_rfl) (by kernel_rfl) (cx.an 5) (cx.bi 2 rfl) (nle rfl) rfl
    · exact xsc rfl id rfl rfl fun cx => ⟨_, kitem_any np nd.lv nd.right (nd.free : Int) nd.high nd.dead _ _ _ te t1 tk _ (by omega), (map2 (cx.an 4) (cx.an 6))⟩
    · refine svA fun ρ β W X cx => ?_
      have fF21 : ρ (.tmp 21) = .agg #[vi np, vi ((nd.free : Int)), .string (itB nd.lv tk te)] := (cx.an 8)
      exact dv_litN (e := 99) (sz := 3) (xs := [vi np, vi ((nd.free : Int)), .string (itB nd.lv tk te)]) rfl (by simp [go_sem, fF21]) rfl (by decide) rfl rfl (fun σ β' X' hs hb hv hx => ⟨hv, hx⟩)
    · exact sv rfl rfl rfl rfl rfl _ (fun _ _ _ h => h) (fun β β' h => by rw [h 22 (by decide)]) fun ρ β W X cx => run_assign' rfl (dTn (cx.an 9)).1
  intro σ β X W29 hD hst29 fr hfr
  obtain ⟨B22_29, hu_B22_29⟩ : ∃ z, pb' (β 22) = z := ⟨_, rfl⟩
  simp only [exq 3 ((dTn (hD 9 lq)).2), hu_B22_29] at hst29
  simp only [ed 22 ((dTn (hD 9 lq)).1), ed 7 ((dTn (hD 10 lq))), hu_B22_29] at hfr
  clear hD hu_B22_29; subst hfr; clear σ β X
  refine then_normal (wp_seq (wp_seq (sqr (sqp [.k 23 (.pointer (some ⟨B5_2, 3, none⟩))] ?_))))
  refine sqld 2 hst29 ?_
  refine sqp [.k 25 (.bool (tl == 0))] ?_
  refine then_normal (wbs (fun hs33 => ?_) fun hs33 => ?_)
  · have hs33p := beq_iff_eq.1 hs33
    refine sqr (sqp [.m 26 0, .k 27 (vp B4_1)] ?_)
    refine sqld 1 hst29 ?_
    refine sqp [.k 29 (vp b), .k 30 (.pointer (some ⟨b, 2, none⟩))] ?_
    refine sqst (n := 1) 0 #[vi root, vi pos, vi np, .slice ((some la)) ln lc, vi fro, vi to, .bool spl] hst29 fun W39 hst39 => ?_
    refine then_normal (wp_seq (wp_region_Y [0, 0, 0, 4, 12, 28, 60, 0, 128, 384, 896, 2045, 4093, 8189, 16383, 32767, 65535] [[], [], [], [], [], [0], [], [], [], [], [0], [], [], [0], [], [], [4]] [[], [], [], [], [], [], [], [], [], [], [], [], [], [4], [], [], [5]] [[], [], [], [], [], [], [], [], [], [], [], [], [], [0], [], [], [4]] [.k 31 (vp b), .k 32 (vp b), .k 33 (vp b), .k 34 (vp b), .k 35 (.pointer (some ⟨b, 3, none⟩)), .c 36 (.slice ((some la)) ln lc), .c 37 (.slice ((if lc = 1 then (some la) else ((some la)).map (·.add (1 * 4)))) ((ln - 1)) ((lc - 1))), .k 38 (vp b), .k 39 (vp b), .k 40 (vp b), .c 41 (vi root), .k 42 (vp b), .k 43 (.pointer (some ⟨b, 3, none⟩)), .n, .k 44 (vp b), .k 45 (.pointer (some ⟨b, 1, none⟩)), .n] (fun ix σ β X => match ix with | 0 => True | 1 => True | 2 => True | 3 => True | 4 => True | 5 => True | 6 => True | 7 => True | 8 => True | 9 => True | 10 => True | 11 => True | 12 => True | 13 => X 4 = eB b 109 #[vi root, vi pos, vi np, .slice ((if lc = 1 then (some la) else ((some la)).map (·.add (1 * 4)))) ((ln - 1)) ((lc - 1)), vi fro, vi to, .bool spl] | 14 => True | 15 => True | 16 => X 5 = eB b 109 #[vi root, vi root, vi np, .slice ((if lc = 1 then (some la) else ((some la)).map (·.add (1 * 4)))) ((ln - 1)) ((lc - 1)), vi fro, vi to, .bool spl] | _ => True) [1, 2, 3, 5] [5, 6, 10, 13, 16] [(31, 0, 16, 46)] hst39 ?_ ?_ ?_))
    · exact fun ix _ _ _ _ _ _ hs hb hx h => match ix, h with
      | 13, h => by dsimp only; rw [← hx 4 rfl]; exact h
      | 16, h => by dsimp only; rw [← hx 5 rfl]; exact h
      | 0, _ | 1, _ | 2, _ | 3, _ | 4, _ | 5, _ | 6, _ | 7, _ | 8, _ | 9, _ | 10, _ | 11, _ | 12, _ | 14, _ | 15, _ | _ + 17, _ => trivial
    · refine ⟨?_, ?_, ?_, ?_, ?_, trivial⟩
      · exact xs4 rfl id fun cx => run_load1 rfl (by kernel_rfl) (cx.an 4) ((cx.bi 0 rfl).cell 3)
      · exact xs4 rfl id fun cx => run_sliceL_lo (e := 106) (sz := 4) (l := 1) rfl (by kernel_rfl) (by kernel_rfl) (cx.an 5) (cx.co _) (by omega) (by omega)
      · exact xs4 rfl id fun cx => run_load1 rfl (by kernel_rfl) (cx.an 9) ((cx.bi 0 rfl).cell 0)
      · refine svA fun ρ β W X cx => ?_
        exact dv_store (n := 1) rfl (cx.an 12) (cx.an 6) (by kernel_rfl) (by kernel_rfl) (by kernel_rfl) cx (cx.init 0 _ rfl) rfl (nle rfl) (by kernel_rfl) rfl rfl rfl (fun σ β' X' hs hb hx => hx)
      · refine svA fun ρ β W X cx => ?_
        exact dv_store (n := 1) rfl (cx.an 15) (cx.an 10) (by kernel_rfl) (by kernel_rfl) (by kernel_rfl) cx (dTn (cx.an 13)) rfl (nle rfl) (by kernel_rfl) rfl rfl rfl (fun σ β' X' hs hb hx => hx)
    intro σ β X W40 hD hst40 fr hfr
    simp only [exq 5 ((dTn (hD 16 lq)))] at hst40
    clear hD; subst hfr; clear σ β X
    refine then_normal (wp_seq (sqr (sqp [.m 46 7, .m 6 46] ?_)))
    refine then_normal (wp_ret ?_)
    refine bpr (.slice ((some ⟨B22_29, 0, none⟩)) 1 1) (results_1 Try.results52 rpt) ?_
    have hqq : q = false := hq.symm.trans hs10
    have htl0 : tl = 0 := by have h_ := hs33; simpa using h_
    rw [if_pos htl0, hqq]
    exact ⟨_, _, rfl, hst40.pick [3, 2] (by decide) rfl⟩
  have hs33p := beq_eq_false_iff_ne.1 hs33
  refine wp_skip (then_normal (wp_seq (wp_region_Y [0, 0, 0, 4, 12, 28, 60, 0, 128, 384, 896, 2045, 4093, 8189, 16383, 32767, 65535] [[], [], [], [], [], [0], [], [], [], [], [0], [], [], [0], [], [], [4]] [[], [], [], [], [], [], [], [], [], [], [], [], [], [4], [], [], [5]] [[], [], [], [], [], [], [], [], [], [], [], [], [], [0], [], [], [4]] [.k 31 (vp b), .k 32 (vp b), .k 33 (vp b), .k 34 (vp b), .k 35 (.pointer (some ⟨b, 3, none⟩)), .c 36 (.slice ((some la)) ln lc), .c 37 (.slice ((if lc = 1 then (some la) else ((some la)).map (·.add (1 * 4)))) ((ln - 1)) ((lc - 1))), .k 38 (vp b), .k 39 (vp b), .k 40 (vp b), .c 41 (vi root), .k 42 (vp b), .k 43 (.pointer (some ⟨b, 3, none⟩)), .n, .k 44 (vp b), .k 45 (.pointer (some ⟨b, 1, none⟩)), .n] (fun ix σ β X => match ix with | 0 => True | 1 => True | 2 => True | 3 => True | 4 => True | 5 => True | 6 => True | 7 => True | 8 => True | 9 => True | 10 => True | 11 => True | 12 => True | 13 => X 4 = eB b 109 #[vi root, vi pos, vi leaf, .slice ((if lc = 1 then (some la) else ((some la)).map (·.add (1 * 4)))) ((ln - 1)) ((lc - 1)), vi fro, vi to, .bool spl] | 14 => True | 15 => True | 16 => X 5 = eB b 109 #[vi root, vi root, vi leaf, .slice ((if lc = 1 then (some la) else ((some la)).map (·.add (1 * 4)))) ((ln - 1)) ((lc - 1)), vi fro, vi to, .bool spl] | _ => True) [1, 2, 3, 5] [5, 6, 10, 13, 16] [(31, 0, 16, 46)] hst29 ?_ ?_ ?_)))
  · exact fun ix _ _ _ _ _ _ hs hb hx h => match ix, h with
    | 13, h => by dsimp only; rw [← hx 4 rfl]; exact h
    | 16, h => by dsimp only; rw [← hx 5 rfl]; exact h
    | 0, _ | 1, _ | 2, _ | 3, _ | 4, _ | 5, _ | 6, _ | 7, _ | 8, _ | 9, _ | 10, _ | 11, _ | 12, _ | 14, _ | 15, _ | _ + 17, _ => trivial
  · refine ⟨?_, ?_, ?_, ?_, ?_, trivial⟩
    · exact xs4 rfl id fun cx => run_load1 rfl (by kernel_rfl) (cx.an 4) ((cx.bi 0 rfl).cell 3)
    · exact xs4 rfl id fun cx => run_sliceL_lo (e := 106) (sz := 4) (l := 1) rfl (by kernel_rfl) (by kernel_rfl) (cx.an 5) (cx.co _) (by omega) (by omega)
    · exact xs4 rfl id fun cx => run_load1 rfl (by kernel_rfl) (cx.an 9) ((cx.bi 0 rfl).cell 0)
    · refine svA fun ρ β W X cx => ?_
      exact dv_store (n := 1) rfl (cx.an 12) (cx.an 6) (by kernel_rfl) (by kernel_rfl) (by kernel_rfl) cx (cx.init 0 _ rfl) rfl (nle rfl) (by kernel_rfl) rfl rfl rfl (fun σ β' X' hs hb hx => hx)
    · refine svA fun ρ β W X cx => ?_
      exact dv_store (n := 1) rfl (cx.an 15) (cx.an 10) (by kernel_rfl) (by kernel_rfl) (by kernel_rfl) cx (dTn (cx.an 13)) rfl (nle rfl) (by kernel_rfl) rfl rfl rfl (fun σ β' X' hs hb hx => hx)
  intro σ β X W43 hD hst43 fr hfr
  simp only [exq 5 ((dTn (hD 16 lq)))] at hst43
  clear hD; subst hfr; clear σ β X
  refine then_normal (wp_seq (sqr (sqp [.m 46 7, .m 6 46] ?_)))
  refine then_normal (wp_ret ?_)
  refine bpr (.slice ((some ⟨B22_29, 0, none⟩)) 1 1) (results_1 Try.results52 rpt) ?_
  have hqq : q = false := hq.symm.trans hs10
  have htl0 : ¬ tl = 0 := by have h_ := hs33; simpa using h_
  rw [if_neg htl0, hqq]
  exact ⟨_, _, rfl, hst43.pick [3, 2] (by decide) rfl⟩
set_option maxRecDepth 100000 in
set_option maxHeartbeats 2000000 in
theorem kdown_any (np lv rt fr : Int) (hg : ByteArray) (dead : Bool) (EA : Option Addr) (ec n : Nat) (x : ByteArray) (es : List EnD) (w : World) (hE : At w EA (es.flatMap enC)) (hn : es.length = n) (hez : ∀ e ∈ es, e.1.size ≤ 1000000) (hnb : n ≤ 100000) (hx : x.size ≤ 1000000) :
    Calls Try.prog 50 #[.agg #[.int .i64 np, .int .i64 lv, .int .i64 rt, .string hg, .bool dead, .slice EA n ec, .int .i64 fr], .string x] w (Ret (.int .i64 (downF x es (-1))) w) := by
  go_enter Try.func50, Try.ntmps50
  have hst0 := St.start w
  refine wp_seq (sqr ?_)
  refine sqbx #[vi np, vi lv, vi rt, .string hg, .bool dead, .slice EA n ec, vi fr] hst0 fun B2_1 W1 hst1 => ?_
  refine sqp [.k 4 (vi 0)] ?_
  refine then_normal (wp_seq (sqr (sqp [.k 5 (vi (-1))] ?_)))
  refine then_normal (wp_seq (wp_seq (sqr (sqp [.k 8 (.pointer (some ⟨B2_1, 5, none⟩))] ?_))))
  refine sqld 0 hst1 ?_
  refine sqp [.k 10 (vi ((n : Int))), .k 11 (vi 0)] ?_
  refine then_normal (wp_block ?_)
  refine wp_loopT (fun t_ mz az W => ∃ j : Nat, ∃ d : Int, j ≤ n ∧ downF x es (-1) = downF x (es.drop j) d ∧ mz = n - j ∧ az = ⟨(ovr (jv az) [(5, 5, 0, [vi d]), (1, 7, 1, []), (3, 11, 0, [vi ((j : Int))]), (0, 12, 15, [])] t_).toArray, []⟩ ∧ St w [] [eB B2_1 116 #[vi np, vi lv, vi rt, .string hg, .bool dead, .slice EA n ec, vi fr]] W) (n - 0) ?_ ?_
  · -- the loop begins
    exact ⟨0, (-1), Nat.zero_le _, rfl, rfl, (by kernel_rfl), hst1.pk [0]⟩
  rintro n8 a8 W8 ⟨j, d, hj, hI, rfl, hj_, hst8⟩
  refine ovz hj_ fun u8_ => ?_
  refine wp_seq (sqr (sqp [.k 12 (.bool (decide ((j : Int) < (n : Int))))] ?_))
  refine then_normal (wp_seq (wds (fun hs10 hs10p => ?_) fun hs10 hs10p => ?_))
  · refine wp_skip (then_normal (wp_seq (wp_block (wp_seq (sqr ?_)))))
    refine sql (.pointer (some ((ad EA).add (j * 3)))) hst8 (fun cx => run_indexSlM (e := 104) (m := j) (sz := 3) rfl (by kernel_rfl) (by kernel_rfl) (cx.ou 9) (cx.ou 11) (by omega) (by omega) (hE.ext cx.upd.to_ext) (flatPos (sz := 3) enC_len (by decide) (by omega))) ?_
    refine sql (.agg #[.string ((es.getD j en0).1), vi (((es.getD j en0).2.1 : Int)), vi ((es.getD j en0).2.2)]) hst8 (fun cx => run_loadElt (f := enC) (m := j) (sz := 3) (off := 0) (n := 3) rfl (by kernel_rfl) (by kernel_rfl) (cx.ou 13) rfl enC_len (hE.ext cx.upd.to_ext) (en_get (by omega)) (fun k hk => match k, hk with | 0, _ => rfl | 1, _ => rfl | 2, _ => rfl | k + 3, hk => absurd hk (by omega))) ?_
    refine sqal #[.string ByteArray.empty, vi 0, vi 0] hst8 fun B7_13 W13 hst13 => ?_
    refine sqst (n := 3) 1 #[.string ((es.getD j en0).1), vi (((es.getD j en0).2.1 : Int)), vi ((es.getD j en0).2.2)] hst13 fun W14 hst14 => ?_
    refine then_normal (wp_seq (sqr (sqp [.m 15 5, .k 16 (.bool (decide (d < 0))), .m 17 16] ?_)))
    refine sqwW 17 [18, 19, 20, 21, 22] ?_ hst14 rfl (fun hq => ?_) fun W23 hst23 => ?_
    rotate_left
    · have hq_ := of_decide_eq_false hq
      refine sqp [.m 18 1, .k 19 (vp B7_13)] ?_
      refine sqld 1 hst14 ?_
      refine sqk (.bool (lessF x ((es.getD j en0).1))) hst14 (fun cx => ⟨_, kless_any x ((es.getD j en0).1) _ (by omega) (getD_size hez _), (map2 (cx.ou 18) (cx.ou 20))⟩) fun W21 hst21 => ?_
      refine sqp [.k 22 (.bool (!(lessF x ((es.getD j en0).1))))] ?_
      exact sqE hst21
    refine sqwx ?_
    refine sqp [sPo 23 (decide (d < 0)) (!(lessF x ((es.getD j en0).1)))] ?_
    refine then_normal (wbs (fun hs25 => ?_) fun hs25 => ?_)
    · have hs25p := hs25
      simp only [zB] at hs25p
      refine sqr (sqp [.k 24 (.pointer (some ⟨B7_13, 2, none⟩))] ?_)
      refine sqld 1 hst23 ?_
      refine sqp [.m 5 25] ?_
      refine blk_normal (then_normal (sqr (sqp [sI 26 ((j : Int) + 1) (by omega), .m 11 26] ?_)))
      refine then_normal ?_
      refine ⟨n - ((j + 1)), by omega, ?_⟩
      exact ⟨(j + 1), ((es.getD j en0).2.2), by omega, by rw [hI, downF_at (by omega), if_pos (dn_yes hs25)], rfl, (by kernel_rfl), hst23.pk [0]⟩
    have hs25p := hs25
    simp only [zB] at hs25p
    obtain ⟨hs25p1, hs25p2⟩ := hs25p
    refine wp_skip (blk_normal (then_normal (sqr (sqp [sI 26 ((j : Int) + 1) (by omega), .m 11 26] ?_))))
    refine then_normal ?_
    refine ⟨n - ((j + 1)), by omega, ?_⟩
    exact ⟨(j + 1), d, by omega, by rw [hI, downF_at (by omega), if_neg (dn_no hs25)], rfl, (by kernel_rfl), hst23.pk [0]⟩
  refine wp_exit (then_exit (then_exit (blk_eq (then_normal (wp_seq (sqr (sqp [.m 27 5, .m 4 27] ?_)))))))
  refine then_normal (wp_ret ?_)
  refine bpr (vi d) (results_1 Try.results50 rpt) ?_
  exact Ret.of (by rw [hI, List.drop_of_length_le (by omega)]; rfl) hst8.ext
set_option maxRecDepth 100000 in
set_option maxHeartbeats 8000000 in
theorem kstep_s (b : Nat) (tt : TypeId) (tv : Value) (root pos leaf fro to : Int) (spl : Bool) (la : Addr) (ln lc : Nat) (te : ByteArray) (tl tk : Int) (lf : List TaT) (ps : List PgS) (fresh : Int) (fp g : List Nat) (w : World) (hb : Blk w b 109 #[.int .i64 root, .int .i64 pos, .int .i64 leaf, .slice ((some la)) ln lc, .int .i64 fro, .int .i64 to, .bool spl]) (hL : ∀ W, Upd [b] w W → At W (some la) (((te, tl, tk) :: lf).flatMap tkK)) (hln : ((te, tl, tk) :: lf).length = ln) (hlc : ((te, tl, tk) :: lf).length ≤ lc) (hlnb : ln ≤ 10000) (hS : ∀ W, Upd [b] w W → PgsOk W tt tv ps) (hok : OkS ps) (hoc : OkC ps) (hfp : fp = b :: g) (hbg : b ∉ g) (hlt : ∀ k ∈ g, k < w.heap.size) (hla : la.block ∈ g) (hte : te.size ≤ 900000) (htl : 0 ≤ tl ∧ tl ≤ 90000) (h8 : ∀ nd, ndAt ps pos = some nd → nd.es.length < 8) :
    Calls Try.prog 16 #[.pointer (some ⟨b, 0, none⟩), .iface tt (tv), .int .i64 fresh] w (KtPost b (stepF ps ⟨root, pos, leaf, (te, tl, tk) :: lf, fro, to, spl⟩ fresh) fp w) := by
  have st0 := St.lend (E := eB b 109 #[.int .i64 root, .int .i64 pos, .int .i64 leaf, .slice ((some la)) ln lc, .int .i64 fro, .int .i64 to, .bool spl]) hb (eB_loc _ _ _) (fun k hk => by simp [eB] at hk; subst hk; exact hb.lt)
  have hln1 : 1 ≤ ln := by rw [← hln]; simp
  have hlc1 : lf.length + 1 ≤ lc := hlc
  have hln2 : lf.length + 1 = ln := hln
  go_enter Try.func16, Try.ntmps16
  have hst0 := st0
  refine wp_seq (sqr (sqp [.k 6 (.slice none 0 0), .k 7 (.bool false), .k 8 (vi 0)] ?_))
  refine then_normal (wp_seq (wp_seq (sqr (sqp [.m 14 0] ?_))))
  refine sqv (.bool false) hst0 (by
      exact sv0 rfl rfl rfl rfl rfl (fun _ _ _ h => h) fun ρ β W X cx => by
        have fF14 : ρ (.tmp 14) = vp b := (cx.ou 14)
        simp [go_sem, cx.sees.const, fF14]) fun W5 hst5 => ?_
  refine then_normal (wcf rfl (wp_skip (then_normal (wp_seq (sqr (sqp [.m 16 0, .m 17 0, .m 18 0, .k 19 (vp b), .k 20 (.pointer (some ⟨b, 4, none⟩))] ?_))))))
  refine sqst (n := 1) 0 #[vi root, vi pos, vi leaf, .slice ((some la)) ln lc, vi 0, vi to, .bool spl] hst5 fun W11 hst11 => ?_
  refine sqp [.k 21 (vp b), .k 22 (.pointer (some ⟨b, 5, none⟩))] ?_
  refine sqst (n := 1) 0 #[vi root, vi pos, vi leaf, .slice ((some la)) ln lc, vi 0, vi 0, .bool spl] hst11 fun W14 hst14 => ?_
  refine sqp [.k 23 (vp b), .k 24 (.pointer (some ⟨b, 6, none⟩))] ?_
  refine sqst (n := 1) 0 #[vi root, vi pos, vi leaf, .slice ((some la)) ln lc, vi 0, vi 0, .bool false] hst14 fun W17 hst17 => ?_
  refine then_normal (wp_seq (wp_seq (sqr (sqp [.m 25 0, .k 26 (vp b), .k 27 (.pointer (some ⟨b, 3, none⟩))] ?_))))
  refine sqld 0 hst17 ?_
  have hd24 : ((ln : Int) == 0) = false := (by rw [beq_eq_false_iff_ne]; omega)
  refine sqp [.k 29 (vi ((ln : Int))), .e 30 (.bool ((ln : Int) == 0)) (.bool false) (congrArg Value.bool hd24)] ?_
  refine then_normal (wcf rfl (wp_skip (then_normal (wp_seq (sqr (sqp [.m 31 0, .k 32 (vp b), .k 33 (.pointer (some ⟨b, 3, none⟩))] ?_))))))
  refine sqld 0 hst17 ?_
  refine sql (.pointer (some ((ad ((some la))).add (0 * 4)))) hst17 (fun cx => run_indexSlM (e := 106) (m := 0) (sz := 4) rfl (by kernel_rfl) (by kernel_rfl) (cx.ou 34) (cx.co _) (by omega) (by omega) (hL _ cx.upd) (flatPos (sz := 4) tkK_len (by decide) (by omega))) ?_
  refine sql (.agg #[.string te, vi 0, vi tk, vi tl]) hst17 (fun cx => run_loadElt (f := tkK) (m := 0) (sz := 4) (off := 0) (n := 4) rfl (by kernel_rfl) (by kernel_rfl) (cx.ou 35) rfl tkK_len (hL _ cx.upd) rfl (fun k hk => match k, hk with | 0, _ => rfl | 1, _ => rfl | 2, _ => rfl | 3, _ => rfl | k + 4, hk => absurd hk (by omega))) ?_
  refine sqal #[.string ByteArray.empty, vi 0, vi 0, vi 0] hst17 fun B9_31 W31 hst31 => ?_
  refine sqst (n := 4) 1 #[.string te, vi 0, vi tk, vi tl] hst31 fun W32 hst32 => ?_
  refine then_normal (wp_seq ?_)
  rcases hnd : ndAt ps pos with _ | nd
  · refine wp_region_Y [0, 0, 2, 6, 14, 31, 63, 127, 127, 0, 767, 2047] [[], [], [], [], [0], [], [], [], [], [], [2]] [[], [], [], [], [], [], [], [], [], [2], [3]] [[], [], [], [], [], [], [], [], [], [], [2]] [.k 38 (.iface tt (tv)), .k 39 (vp b), .k 40 (vp b), .k 41 (.pointer (some ⟨b, 1, none⟩)), .c 42 (vi pos), .a 43, .a 37, .a 44, .c 45 (.bool false), .a 10, .n, .k 11 (.bool false)] (fun ix σ β X => match ix with | 0 => True | 1 => True | 2 => True | 3 => True | 4 => True | 5 => σ 43 = .tuple #[.agg #[vi (iv (tg (tg (β 43) 0) 0)), vi 0, vi 0, .string ((⟨#[]⟩ : ByteArray)), .bool false, .slice none 0 0, vi 0], .bool false] | 6 => σ 37 = .tuple #[.agg #[vi (iv (tg (tg (β 43) 0) 0)), vi 0, vi 0, .string ((⟨#[]⟩ : ByteArray)), .bool false, .slice none 0 0, vi 0], .bool false] | 7 => σ 44 = .agg #[vi (iv (tg (tg (β 43) 0) 0)), vi 0, vi 0, .string ((⟨#[]⟩ : ByteArray)), .bool false, .slice none 0 0, vi 0] | 8 => True | 9 => σ 10 = vp (pb (β 10)) ∧ X 2 = eB (pb (β 10)) 116 #[vi 0, vi 0, vi 0, .string ByteArray.empty, .bool false, .slice none 0 0, vi 0] | 10 => X 3 = eB (pb (β 10)) 116 #[vi (iv (tg (tg (β 43) 0) 0)), vi 0, vi 0, .string ((⟨#[]⟩ : ByteArray)), .bool false, .slice none 0 0, vi 0] | _ => True) [0, 1, 3] [4, 5, 6, 7, 8, 9, 10] [(10, 9, 3, 12), (25, 6, 1, 26), (0, 0, 6, 6), (0, 7, 2, 2)] hst32 ?_ ?_ ?_
    · exact fun ix _ _ _ _ _ _ hs hb hx h => match ix, h with
      | 5, h => by dsimp only; rw [← hs 43 rfl, ← hb 43 rfl]; exact h
      | 6, h => by dsimp only; rw [← hs 37 rfl, ← hb 43 rfl]; exact h
      | 7, h => by dsimp only; rw [← hs 44 rfl, ← hb 43 rfl]; exact h
      | 9, h => by dsimp only; rw [← hs 10 rfl, ← hb 10 rfl, ← hx 2 rfl]; exact h
      | 10, h => by dsimp only; rw [← hb 10 rfl, ← hb 43 rfl, ← hx 3 rfl]; exact h
      | 0, _ | 1, _ | 2, _ | 3, _ | 4, _ | 8, _ | _ + 11, _ => trivial
    · refine ⟨?_, ?_, ?_, ?_, ?_, ?_, ?_, trivial⟩
      · exact xs4 rfl id fun cx => run_load1 rfl (by kernel_rfl) (cx.an 3) ((cx.bi 0 rfl).cell 1)
      · refine svA fun ρ β W X cx => ?_
        refine DoesU.call (run_callF (args := #[.iface tt (tv), vi pos]) rfl cx.sees rfl (by kernel_rfl) (map2 (cx.an 0) (cx.an 4))) ?_
        refine (kd_no hnd (kat_any _ _ ps pos _ (hS _ cx.upd) hok hoc)).mono ?_
        rintro e W1 ⟨p4, rfl, hx⟩
        refine ⟨_, rfl, post_call [] rfl rfl hx (by simp) List.Pairwise.nil (fun σ β' X' hs hb hv hN => ?_)⟩
        have hv1 := (hv 43 rfl).1; have hv2 := (hv 43 rfl).2
        exact hv1.trans (by rw [hv2]; rfl)
      · exact sv rfl rfl rfl rfl rfl _ (fun _ _ _ h => h) (fun β β' h => by rw [h 43 (by decide)]) fun ρ β W X cx => run_move' rfl (dTn (cx.an 5))
      · exact sv rfl rfl rfl rfl rfl _ (fun _ _ _ h => h) (fun β β' h => by rw [h 43 (by decide)]) fun ρ β W X cx => run_extract' rfl (dTn (cx.an 6)) rfl
      · exact xs4 rfl id fun cx => run_extract' rfl (dTn (cx.an 6)) rfl
      · refine svA fun ρ β W X cx => ?_
        exact dv_alloc (cs := #[vi 0, vi 0, vi 0, .string ByteArray.empty, .bool false, .slice none 0 0, vi 0]) rfl (by kernel_rfl) rfl rfl (fun σ β' X' hs hb hv hx => ⟨hv, hx⟩)
      · refine svA fun ρ β W X cx => ?_
        exact dv_store (n := 7) rfl (dTn (cx.an 9)).1 (dTn (cx.an 7)) (by kernel_rfl) (by kernel_rfl) (by kernel_rfl) cx (dTn (cx.an 9)).2 rfl (nle rfl) (by kernel_rfl) rfl rfl rfl (fun σ β' X' hs hb hx => by rw [hb 10, hb 43]; exact hx)
    intro σ β X W33 hD hst33 fr hfr
    obtain ⟨pg43_33, hu_pg43_33⟩ : ∃ z, iv (tg (tg (β 43) 0) 0) = z := ⟨_, rfl⟩
    obtain ⟨B10_33, hu_B10_33⟩ : ∃ z, pb (β 10) = z := ⟨_, rfl⟩
    simp only [exq 3 ((dTn (hD 10 lq))), hu_pg43_33, hu_B10_33] at hst33
    simp only [ed 43 ((dTn (hD 5 lq))), ed 37 ((dTn (hD 6 lq))), ed 44 ((dTn (hD 7 lq))), ed 10 ((dTn (hD 9 lq)).1), hu_pg43_33, hu_B10_33] at hfr
    clear hD hu_pg43_33 hu_B10_33; subst hfr; clear σ β X
    refine then_normal (wp_seq (sqr ?_))
    refine sqv (.func (.func 48) #[] #[vp B9_31]) hst33 (by
        exact sv0 rfl rfl rfl rfl rfl (fun _ _ _ h => h) fun ρ β W X cx => by
          have fF9 : ρ (.tmp 9) = vp B9_31 := (cx.ou 9)
          simp [go_sem, Instr.makeFunc, fF9]) fun W34 hst34 => ?_
    refine sqp [.m 12 46] ?_
    refine then_normal (wp_seq (wp_block (wp_seq (sqr (sqp [.k 48 (.bool false), .k 49 (.bool true), .k 47 (.bool true)] ?_)))))
    refine then_normal (wct rfl (wp_seq (sqr (sqp [.k 6 (.slice none 0 0), .k 7 (.bool false), .k 8 (vi 22)] ?_))))
    refine then_normal (wp_ret (blk_ret (then_ret ?_)))
    refine bpr (.tuple #[.slice none 0 0, .bool false, vi 22]) (results_3 Try.results16 rpt rpt rpt) ?_
    rw [st_none hnd]
    have hn42 := nilrowN hst34 99 3
    simp only [List.cons_append, List.nil_append] at hn42
    have hup_ := hn42.upd
    have hpk_ := hn42.pick [0, 3] (by decide) rfl
    subst hln
    exact ⟨_, _, rfl, pk_old hpk_ hfp hbg hlt hlc (hL _ hup_) (fun ad e _ => by rw [← Option.some.inj e]; exact hla)⟩
  · have hN0 := nd_ok hok hnd
    have hN : NdQ nd := ⟨hN0.lv, fun e he => Nat.le_trans (hN0.es e he) (by decide)⟩
    have hN1 := hN0.len
    have hN2 := hN0.rt
    have hN3 := hN0.hi
    have hN4 := hN0.lv
    have hN5 := hN0.fr
    have hN7 := hN0.es
    have hn8 := h8 nd hnd
    refine sqr (sqp [.m 38 1, .m 39 0, .k 40 (vp b), .k 41 (.pointer (some ⟨b, 1, none⟩))] ?_)
    refine sqld 0 hst32 ?_
    refine sqk2 (fun EA43_48 ec43_48 => .tuple #[.agg #[vi pos, vi nd.lv, vi nd.right, .string nd.high, .bool nd.dead, .slice EA43_48 nd.es.length ec43_48, vi ((nd.free : Int))], .bool true]) (fun EA43_48 ec43_48 => eO 104 3 (.slice EA43_48 nd.es.length ec43_48) nd.es.length (nd.es.flatMap enC)) hst32 (fun cx => ⟨_, (kd_yes hnd (kat_any _ _ ps pos _ (hS _ cx.upd) hok hoc)).mono (by rintro e W1 ⟨EA4, ec4, rfl, hs4⟩; exact ⟨_, _, rfl, hs4⟩), (map2 (cx.ou 38) (cx.ou 42))⟩) fun EA43_48 ec43_48 W48 hst48 => ?_
    refine sqp [.m 37 43, .k 44 (.agg #[vi pos, vi nd.lv, vi nd.right, .string nd.high, .bool nd.dead, .slice EA43_48 nd.es.length ec43_48, vi ((nd.free : Int))]), .k 45 (.bool true)] ?_
    refine sqal #[vi 0, vi 0, vi 0, .string ByteArray.empty, .bool false, .slice none 0 0, vi 0] hst48 fun B10_52 W52 hst52 => ?_
    refine sqst (n := 7) 3 #[vi pos, vi nd.lv, vi nd.right, .string nd.high, .bool nd.dead, .slice EA43_48 nd.es.length ec43_48, vi ((nd.free : Int))] hst52 fun W53 hst53 => ?_
    refine sqp [.k 11 (.bool true)] ?_
    refine then_normal (wp_seq (sqr ?_))
    refine sqv (.func (.func 48) #[] #[vp B9_31]) hst53 (by
        exact sv0 rfl rfl rfl rfl rfl (fun _ _ _ h => h) fun ρ β W X cx => by
          have fF9 : ρ (.tmp 9) = vp B9_31 := (cx.ou 9)
          simp [go_sem, Instr.makeFunc, fF9]) fun W55 hst55 => ?_
    refine sqp [.m 12 46] ?_
    refine then_normal (wp_seq (wp_block (wp_seq (sqr (sqp [.k 48 (.bool true), .k 49 (.bool false), .k 47 (.bool false)] ?_)))))
    refine then_normal (wcf rfl (wp_seq (sqr ?_)))
    refine sqlb 3 7 hst55 ?_
    refine sqp [.k 52 (vp B9_31), .k 53 (vp B9_31)] ?_
    refine sqld 1 hst55 ?_
    refine sqk (.bool (sndB nd.dead nd.high te)) hst55 (fun cx => ⟨_, ksends_any pos nd.lv nd.right (nd.free : Int) nd.high nd.dead _ _ _ te _ (by omega) (by omega), (map2 (cx.ou 51) (cx.ou 54))⟩) fun W64 hst64 => ?_
    refine sqp [.m 50 55] ?_
    refine then_normal (wbs (fun hs66 => ?_) fun hs66 => ?_)
    · refine wp_seq (wp_seq (sqr (sqp [.k 56 (.pointer (some ⟨B10_52, 2, none⟩))] ?_)))
      refine sqld 3 hst64 ?_
      refine sqp [.k 58 (.bool (decide (nd.right < 0)))] ?_
      refine then_normal (wds (fun hs70 hs70p => ?_) fun hs70 hs70p => ?_)
      · refine wp_seq (sqr (sqp [.k 6 (.slice none 0 0), .k 7 (.bool false), .k 8 (vi 11)] ?_))
        refine then_normal (wp_ret (then_ret (blk_ret (then_ret ?_))))
        refine bpr (.tuple #[.slice none 0 0, .bool false, vi 11]) (results_3 Try.results16 rpt rpt rpt) ?_
        rw [st_lost hnd hs66 (by omega)]
        have hn74 := nilrowN hst64 99 3
        simp only [List.cons_append, List.nil_append] at hn74
        have hup_ := hn74.upd
        have hpk_ := hn74.pick [0, 4] (by decide) rfl
        subst hln
        exact ⟨_, _, rfl, pk_old hpk_ hfp hbg hlt hlc (hL _ hup_) (fun ad e _ => by rw [← Option.some.inj e]; exact hla)⟩
      refine wp_skip (then_normal (wp_seq (sqr (sqp [.m 59 0, .k 60 (.pointer (some ⟨B10_52, 2, none⟩))] ?_))))
      refine sqld 3 hst64 ?_
      refine sqp [.k 62 (vp b), .k 63 (.pointer (some ⟨b, 1, none⟩))] ?_
      refine sqst (n := 1) 0 #[vi root, vi nd.right, vi leaf, .slice ((some la)) ln lc, vi 0, vi 0, .bool false] hst64 fun W80 hst80 => ?_
      refine then_normal (wp_seq (sqr (sqp [.k 6 (.slice none 0 0), .k 7 (.bool false), .k 8 (vi 0)] ?_)))
      refine then_normal (wp_ret (blk_ret (then_ret ?_)))
      refine bpr (.tuple #[.slice none 0 0, .bool false, vi 0]) (results_3 Try.results16 rpt rpt rpt) ?_
      rw [st_right hnd hs66 (by omega)]
      have hn84 := nilrowN hst80 99 3
      simp only [List.cons_append, List.nil_append] at hn84
      have hup_ := hn84.upd
      have hpk_ := hn84.pick [0, 4] (by decide) rfl
      subst hln
      exact ⟨_, _, rfl, pk_old hpk_ hfp hbg hlt hlc (hL _ hup_) (fun ad e _ => by rw [← Option.some.inj e]; exact hla)⟩
    refine wp_seq (sqr (sqp [.k 65 (.pointer (some ⟨B10_52, 1, none⟩))] ?_))
    refine sqld 3 hst64 ?_
    refine sqp [.k 67 (.pointer (some ⟨B9_31, 3, none⟩))] ?_
    refine sqld 1 hst64 ?_
    refine sqp [.k 69 (.bool (decide (tl < nd.lv))), .m 64 69] ?_
    refine then_normal (wds (fun hs91 hs91p => ?_) fun hs91 hs91p => ?_)
    · refine wp_seq (sqr (sqp [.m 70 0] ?_))
      refine sqlb 3 7 hst64 ?_
      refine sqp [.k 72 (vp B9_31), .k 73 (vp B9_31)] ?_
      refine sqld 1 hst64 ?_
      refine sqk (vi (downF te nd.es (-1))) hst64 (fun cx => ⟨_, kdown_any _ _ _ _ _ _ _ _ _ _ nd.es _ (At.of_ownN (cx.ri 2 rfl)) rfl hN.es6 (by omega) (by omega), (map2 (cx.ou 71) (cx.ou 74))⟩) fun W97 hst97 => ?_
      refine sqp [.k 76 (vp b), .k 77 (.pointer (some ⟨b, 1, none⟩))] ?_
      refine sqst (n := 1) 0 #[vi root, vi (downF te nd.es (-1)), vi leaf, .slice ((some la)) ln lc, vi 0, vi 0, .bool false] hst97 fun W100 hst100 => ?_
      refine then_normal (wp_seq (sqr (sqp [.k 6 (.slice none 0 0), .k 7 (.bool false), .k 8 (vi 0)] ?_)))
      refine then_normal (wp_ret (blk_ret (then_ret ?_)))
      refine bpr (.tuple #[.slice none 0 0, .bool false, vi 0]) (results_3 Try.results16 rpt rpt rpt) ?_
      rw [st_down hnd hs66 (by omega)]
      have hn104 := nilrowN hst100 99 3
      simp only [List.cons_append, List.nil_append] at hn104
      have hup_ := hn104.upd
      have hpk_ := hn104.pick [0, 4] (by decide) rfl
      subst hln
      exact ⟨_, _, rfl, pk_old hpk_ hfp hbg hlt hlc (hL _ hup_) (fun ad e _ => by rw [← Option.some.inj e]; exact hla)⟩
    refine wp_seq (sqr (sqp [.k 79 (.pointer (some ⟨B10_52, 1, none⟩))] ?_))
    refine sqld 3 hst64 ?_
    refine sqp [.k 81 (.pointer (some ⟨B9_31, 3, none⟩))] ?_
    refine sqld 1 hst64 ?_
    refine sqp [.k 83 (.bool (decide (nd.lv < tl))), .m 78 83] ?_
    refine then_normal (wds (fun hs111 hs111p => ?_) fun hs111 hs111p => ?_)
    · refine wp_seq (sqr (sqp [.k 6 (.slice none 0 0), .k 7 (.bool false), .k 8 (vi 11)] ?_))
      refine then_normal (wp_ret (blk_ret (then_ret ?_)))
      refine bpr (.tuple #[.slice none 0 0, .bool false, vi 11]) (results_3 Try.results16 rpt rpt rpt) ?_
      rw [st_form hnd hs66 (by omega) (by omega)]
      have hn115 := nilrowN hst64 99 3
      simp only [List.cons_append, List.nil_append] at hn115
      have hup_ := hn115.upd
      have hpk_ := hn115.pick [0, 4] (by decide) rfl
      subst hln
      exact ⟨_, _, rfl, pk_old hpk_ hfp hbg hlt hlc (hL _ hup_) (fun ad e _ => by rw [← Option.some.inj e]; exact hla)⟩
    refine wp_seq (sqr (sqp [.k 85 (.pointer (some ⟨B10_52, 5, none⟩))] ?_))
    refine sqld 3 hst64 ?_
    have hd120 : (decide ((nd.es.length : Int) < 8)) = true := (decide_eq_true (by omega))
    refine sqp [.k 87 (vi ((nd.es.length : Int))), .e 88 (.bool (decide ((nd.es.length : Int) < 8))) (.bool true) (congrArg Value.bool hd120), .k 89 (.bool true)] ?_
    refine sqgn 89 [90, 91, 92, 93] rfl rfl ?_
    refine sqp [.k 94 (.bool true), .k 84 (.bool true)] ?_
    refine then_normal (wct rfl (wp_seq ?_))
    rcases hq : hasE nd.es te with _ | _
    · refine wp_region_Y [0, 0, 0, 7, 15, 31, 63] [[], [3], [1], [0, 2]] [[], [], [], [4, 5]] [[], [], [], [0]] [.k 95 (vp b), .c 96 (.agg #[vi pos, vi nd.lv, vi nd.right, .string nd.high, .bool nd.dead, .slice EA43_48 nd.es.length ec43_48, vi ((nd.free : Int))]), .c 97 (.agg #[.string te, vi 0, vi tk, vi tl]), .a 98, .a 6, .k 7 (.bool false), .k 8 (vi 0)] (fun ix σ β X => match ix with | 0 => True | 1 => True | 2 => True | 3 => σ 98 = .slice (sA (β 98)) 1 (sC (β 98)) ∧ X 4 = eB b 109 #[vi root, vi root, vi ((if tl = 0 then pos else leaf)), .slice ((if lc = 1 then some la else (some la).map (·.add (1 * 4)))) ((ln - 1)) ((lc - 1)), vi 0, vi 0, .bool false] ∧ X 5 = eO 99 3 (.slice (sA (β 98)) 1 (sC (β 98))) 1 ([(pos, (nd.free : Int), itB nd.lv tk te)].flatMap edC) | 4 => σ 6 = .slice (sA (β 98)) 1 (sC (β 98)) | _ => True) [1, 2, 3, 4, 5] [1, 2, 3, 4] [(6, 4, 3, 9), (86, 0, 4, 90)] hst64 ?_ ?_ ?_
      · exact fun ix _ _ _ _ _ _ hs hb hx h => match ix, h with
        | 3, h => by dsimp only; rw [← hs 98 rfl, ← hb 98 rfl, ← hx 4 rfl, ← hx 5 rfl]; exact h
        | 4, h => by dsimp only; rw [← hs 6 rfl, ← hb 98 rfl]; exact h
        | 0, _ | 1, _ | 2, _ | _ + 5, _ => trivial
      · refine ⟨?_, ?_, ?_, ?_, trivial⟩
        · exact xs4 rfl id fun cx => run_loadB (n := 7) rfl (by kernel_rfl) (by kernel_rfl) (cx.ou 10) (cx.bi 3 rfl) (nle rfl) rfl
        · exact xs4 rfl id fun cx => run_loadB (n := 4) rfl (by kernel_rfl) (by kernel_rfl) (cx.ou 9) (cx.bi 1 rfl) (nle rfl) rfl
        · refine svA fun ρ β W X cx => ?_
          refine DoesU.call (run_callF (args := #[vp b, .agg #[vi pos, vi nd.lv, vi nd.right, .string nd.high, .bool nd.dead, .slice EA43_48 nd.es.length ec43_48, vi ((nd.free : Int))], .agg #[.string te, vi 0, vi tk, vi tl]]) rfl cx.sees rfl (by kernel_rfl) (map3 (cx.an 0) (cx.an 1) (cx.an 2))) ?_
          refine (kput_any _ _ _ _ _ _ _ _ _ _ nd pos _ _ te 0 tk tl false _ (cx.bi 0 rfl) (CtxV.keepAt cx (cx.init 2 _ rfl) (cx.init 0 _ rfl) rfl rfl (by decide)) (by omega) (by omega) (by omega) (by omega) hq).mono ?_
          rintro e W1 ⟨A4, c4, rfl, hs4⟩
          refine ⟨_, rfl, post_obj (E := eB b 109 #[vi root, vi pos, vi leaf, .slice ((some la)) ln lc, vi 0, vi 0, .bool false]) [eB b 109 #[vi root, vi root, vi ((if tl = 0 then pos else leaf)), .slice ((if lc = 1 then some la else (some la).map (·.add (1 * 4)))) ((ln - 1)) ((lc - 1)), vi 0, vi 0, .bool false], eO 99 3 (.slice A4 1 c4) 1 ([(pos, (nd.free : Int), itB nd.lv tk te)].flatMap edC)] (cx.init 0 _ rfl) rfl rfl hs4 (fun σ β' X' hs hb hv hN => ?_)⟩
          have hv1 := (hv 98 rfl).1; have hv2 := (hv 98 rfl).2
          exact ⟨hv1.trans (by rw [hv2]; rfl), (List.cons.inj hN).1, (by rw [hv2]; exact (List.cons.inj (List.cons.inj hN).2).1)⟩
        · exact sv rfl rfl rfl rfl rfl _ (fun _ _ _ h => h) (fun β β' h => by rw [h 98 (by decide)]) fun ρ β W X cx => run_assign' rfl (dTn (cx.an 3)).1
      intro σ β X W124 hD hst124 fr hfr
      obtain ⟨A98_124, hu_A98_124⟩ : ∃ z, sA (β 98) = z := ⟨_, rfl⟩
      obtain ⟨c98_124, hu_c98_124⟩ : ∃ z, sC (β 98) = z := ⟨_, rfl⟩
      simp only [exq 4 ((dTn (hD 3 lq)).2.1), exq 5 ((dTn (hD 3 lq)).2.2), hu_A98_124, hu_c98_124] at hst124
      simp only [ed 98 ((dTn (hD 3 lq)).1), ed 6 ((dTn (hD 4 lq))), hu_A98_124, hu_c98_124] at hfr
      clear hD hu_A98_124 hu_c98_124; subst hfr; clear σ β X
      refine then_normal (wp_ret (blk_ret (then_ret ?_)))
      refine bpr (.tuple #[.slice A98_124 1 c98_124, .bool false, vi 0]) (results_3 Try.results16 rpt rpt rpt) ?_
      rw [st_put hnd hs66 (by omega) (by omega) hq hn8]
      have hup_ := hst124.upd
      have hpk_ := hst124.pick [3, 4] (by decide) rfl
      have hl1_ : ln - 1 = lf.length := by omega
      have hlv_ : nd.lv = tl := by omega
      rw [hl1_, hlv_] at hpk_
      exact ⟨_, _, rfl, pk_old hpk_ hfp hbg hlt (by show lf.length ≤ lc - 1; omega) (At.dropF (ts := (te, tl, tk) :: lf) tkK_len (hL _ hup_) 1 lc hlc) (fun ad e _ => by rw [tail_blk4 e]; exact hla)⟩
    · refine wp_region_Y [0, 0, 0, 7, 15, 31, 63] [[], [3], [1], [0, 2]] [[], [], [], [4, 5]] [[], [], [], [0]] [.k 95 (vp b), .c 96 (.agg #[vi pos, vi nd.lv, vi nd.right, .string nd.high, .bool nd.dead, .slice EA43_48 nd.es.length ec43_48, vi ((nd.free : Int))]), .c 97 (.agg #[.string te, vi 0, vi tk, vi tl]), .a 98, .a 6, .k 7 (.bool false), .k 8 (vi 0)] (fun ix σ β X => match ix with | 0 => True | 1 => True | 2 => True | 3 => σ 98 = .slice (sA (β 98)) 0 (sC (β 98)) ∧ X 4 = eB b 109 #[vi root, vi root, vi ((if tl = 0 then pos else leaf)), .slice ((if lc = 1 then some la else (some la).map (·.add (1 * 4)))) ((ln - 1)) ((lc - 1)), vi 0, vi 0, .bool false] ∧ X 5 = eO 99 3 (.slice (sA (β 98)) 0 (sC (β 98))) 0 (([] : List EdT).flatMap edC) | 4 => σ 6 = .slice (sA (β 98)) 0 (sC (β 98)) | _ => True) [1, 2, 3, 4, 5] [1, 2, 3, 4] [(6, 4, 3, 9), (86, 0, 4, 90)] hst64 ?_ ?_ ?_
      · exact fun ix _ _ _ _ _ _ hs hb hx h => match ix, h with
        | 3, h => by dsimp only; rw [← hs 98 rfl, ← hb 98 rfl, ← hx 4 rfl, ← hx 5 rfl]; exact h
        | 4, h => by dsimp only; rw [← hs 6 rfl, ← hb 98 rfl]; exact h
        | 0, _ | 1, _ | 2, _ | _ + 5, _ => trivial
      · refine ⟨?_, ?_, ?_, ?_, trivial⟩
        · exact xs4 rfl id fun cx => run_loadB (n := 7) rfl (by kernel_rfl) (by kernel_rfl) (cx.ou 10) (cx.bi 3 rfl) (nle rfl) rfl
        · exact xs4 rfl id fun cx => run_loadB (n := 4) rfl (by kernel_rfl) (by kernel_rfl) (cx.ou 9) (cx.bi 1 rfl) (nle rfl) rfl
        · refine svA fun ρ β W X cx => ?_
          refine DoesU.call (run_callF (args := #[vp b, .agg #[vi pos, vi nd.lv, vi nd.right, .string nd.high, .bool nd.dead, .slice EA43_48 nd.es.length ec43_48, vi ((nd.free : Int))], .agg #[.string te, vi 0, vi tk, vi tl]]) rfl cx.sees rfl (by kernel_rfl) (map3 (cx.an 0) (cx.an 1) (cx.an 2))) ?_
          refine (kput_any _ _ _ _ _ _ _ _ _ _ nd pos _ _ te 0 tk tl true _ (cx.bi 0 rfl) (CtxV.keepAt cx (cx.init 2 _ rfl) (cx.init 0 _ rfl) rfl rfl (by decide)) (by omega) (by omega) (by omega) (by omega) hq).mono ?_
          rintro e W1 ⟨A4, c4, rfl, hs4⟩
          refine ⟨_, rfl, post_obj (E := eB b 109 #[vi root, vi pos, vi leaf, .slice ((some la)) ln lc, vi 0, vi 0, .bool false]) [eB b 109 #[vi root, vi root, vi ((if tl = 0 then pos else leaf)), .slice ((if lc = 1 then some la else (some la).map (·.add (1 * 4)))) ((ln - 1)) ((lc - 1)), vi 0, vi 0, .bool false], eO 99 3 (.slice A4 0 c4) 0 (([] : List EdT).flatMap edC)] (cx.init 0 _ rfl) rfl rfl hs4 (fun σ β' X' hs hb hv hN => ?_)⟩
          have hv1 := (hv 98 rfl).1; have hv2 := (hv 98 rfl).2
          exact ⟨hv1.trans (by rw [hv2]; rfl), (List.cons.inj hN).1, (by rw [hv2]; exact (List.cons.inj (List.cons.inj hN).2).1)⟩
        · exact sv rfl rfl rfl rfl rfl _ (fun _ _ _ h => h) (fun β β' h => by rw [h 98 (by decide)]) fun ρ β W X cx => run_assign' rfl (dTn (cx.an 3)).1
      intro σ β X W125 hD hst125 fr hfr
      obtain ⟨A98_125, hu_A98_125⟩ : ∃ z, sA (β 98) = z := ⟨_, rfl⟩
      obtain ⟨c98_125, hu_c98_125⟩ : ∃ z, sC (β 98) = z := ⟨_, rfl⟩
      simp only [exq 4 ((dTn (hD 3 lq)).2.1), exq 5 ((dTn (hD 3 lq)).2.2), hu_A98_125, hu_c98_125] at hst125
      simp only [ed 98 ((dTn (hD 3 lq)).1), ed 6 ((dTn (hD 4 lq))), hu_A98_125, hu_c98_125] at hfr
      clear hD hu_A98_125 hu_c98_125; subst hfr; clear σ β X
      refine then_normal (wp_ret (blk_ret (then_ret ?_)))
      refine bpr (.tuple #[.slice A98_125 0 c98_125, .bool false, vi 0]) (results_3 Try.results16 rpt rpt rpt) ?_
      rw [st_there hnd hs66 (by omega) (by omega) hq]
      have hup_ := hst125.upd
      have hpk_ := hst125.pick [3, 4] (by decide) rfl
      have hl1_ : ln - 1 = lf.length := by omega
      have hlv_ : nd.lv = tl := by omega
      rw [hl1_] at hpk_
      exact ⟨_, _, rfl, pk_old hpk_ hfp hbg hlt (by show lf.length ≤ lc - 1; omega) (At.dropF (ts := (te, tl, tk) :: lf) tkK_len (hL _ hup_) 1 lc hlc) (fun ad e _ => by rw [tail_blk4 e]; exact hla)⟩
end
end Go.Proofs.Ytjlcoglmjldjbaa
namespace Go.Proofs.Ytjlcoglmjldjbaa
section
open Go.RowKit
set_option linter.unusedVariables false
set_option linter.unusedSimpArgs false
/-- inside a round -/
abbrev Rnd (l : Nat) : Fence := Fence.wide.inRound l
def noDefer (ops : Array Oper) : Bool := ops.all fun o => match o.op with | .defer _ => false | _ => true
theorem noDefer_at {ops : Array Oper} (h : noDefer ops = true) {i : Nat} {o : Oper} (ho : ops[i]? = some o) : ∀ c, o.op ≠ .defer c := by
  intro c hc
  obtain ⟨hi, he⟩ := Array.getElem?_eq_some_iff.1 ho
  have h2 := (Array.all_eq_true.1 h) i hi
  rw [he, hc] at h2
  cases h2
theorem opIn {P : Program} {l n : Nat} {o : Oper} {a : Act} {w : World} {K : Act → World → Prop} {Q : Exit → Act → World → Prop} (hd : ∀ c, o.op ≠ .defer c) (h : o.wp P a w K Q) : o.wpIn (Rnd l) n P a w K Q := by
  unfold Oper.wp at h
  refine ⟨fun _ _ => trivial, ?_⟩
  show o.uponIn (Rnd l) n P a K Q ((o.semAt (some l) a.eval).run P w)
  rw [Oper.semAt_eq (some l) a.eval o hd]
  generalize (execOp a.eval o).run P w = r at h ⊢
  cases r with
  | ok x w' =>
    cases x <;> simp only [Oper.upon, Oper.uponIn] at h ⊢ <;> first
      | exact h
      | exact ⟨fun hh => by simp [Rnd, Fence.wide] at hh, CallsIn.inRound l (callsIn_wide.2 h)⟩
      | exact ⟨fun hh => by simp [Rnd, Fence.wide] at hh, fun c cs _ => let ⟨v, w', r, s⟩ := h c cs; ⟨v, w', r, stepsIn_wide.2 s⟩⟩
  | halt x w' => cases x <;> simp only [Oper.upon, Oper.uponIn] at h ⊢ <;> exact h
section
variable {P : Program} {l n : Nat} {ops : Array Oper} {Q : Exit → Act → World → Prop}
theorem wpOpIn_of (hnd : noDefer ops = true) (hLo : ¬ LetsOut Q) {i : Nat} {K : Act → World → Prop} {a : Act} {w : World} (h : wpOp P ops Q i K a w) : wpOpIn (Rnd l) n P ops Q i K a w := by
  unfold wpOp at h
  unfold wpOpIn
  cases ho : ops[i]? with
  | none => simp only [ho] at h ⊢; exact h
  | some o =>
    simp only [ho] at h ⊢
    split
    · rename_i hw
      rw [if_pos hw] at h
      exact opIn (noDefer_at hnd ho) (h.resolve_right fun hh => hLo hh.2)
    · rename_i hw
      rw [if_neg hw] at h
      exact ⟨fun _ _ => trivial, h⟩
theorem wpAnyIn_of (hnd : noDefer ops = true) (hLo : ¬ LetsOut Q) : ∀ (m : Nat) (listed : Array Bool) (a : Act) (w : World), wpAny P .any ops Q m listed a w → wpAnyIn (Rnd l) n P .any ops Q m listed a w
  | 0, listed, a, w, h => h
  | m + 1, listed, a, w, h => ⟨h.1, fun i hi => wpOpIn_mono (fun a w hh => wpAnyIn_of hnd hLo m _ a w hh) (wpOpIn_of hnd hLo (h.2 i hi))⟩
theorem wpOpsIn_of (hnd : noDefer ops = true) (hLo : ¬ LetsOut Q) : ∀ (is : List Nat) (a : Act) (w : World), wpOps P ops Q is a w → wpOpsIn (Rnd l) n P ops Q is a w
  | [], a, w, h => h
  | i :: is, a, w, h => by
    rw [wpOps_cons] at h
    rw [wpOpsIn_cons]
    exact wpOpIn_mono (fun a w hh => wpOpsIn_of hnd hLo is a w hh) (wpOpIn_of hnd hLo h)
end
section
variable {P : Program} {ops : Array Oper} {L : List Nat} {w0 : World} {bor : List Nat} {X0 : List Ent} {us cr kl : List (List Nat)} {Q : Exit → Act → World → Prop} {l n : Nat}
/-- THE RULE, inside a round -/
theorem wpIn_region_W {id : Nat} {dr : Bool} {w : World} {t0 : Array Value} {d0 : List Deferred} (hnd : noDefer ops = true) (hm : P.follows .mixedOrders = true) (L : List Nat) (us cr kl : List (List Nat)) (D : Nat → (Tmp → Value) → (Tmp → Value) → (Nat → Ent) → Prop) (fin : List Nat)
    (hL : okAnc ops L = true) (hd : dstOk ops t0.size = true) (hflow : flowV ops.size X0.length L us cr kl = true) (hfin : finV ops.size X0.length cr kl fin = true)
    (hloc : LocalV ops X0.length L cr D) (hst : St w0 bor X0 w) (hstep : AllTo (StepV P ops L ⟨t0, d0⟩ w0 bor X0 us cr kl D) ops.size)
    (hrest : ∀ (σ β : Tmp → Value) (X : Nat → Ent) (w' : World), (∀ i, i < ops.size → D i σ β X) → (∀ q e, X0[q]? = some e → X q = e) → St w0 bor (fin.map X) w' →
      ∀ fr, fr = putAll (dstsU ops) ((dstsU ops).map σ) t0 → Q .normal ⟨fr, d0⟩ w') : (Code.region id ops dr).wpIn (Rnd l) n P Q ⟨t0, d0⟩ w := by
  have hs : ∀ i, i < ops.size → StepV P ops L ⟨t0, d0⟩ w0 bor X0 us cr kl D i := fun i hi => hstep.get i hi
  obtain ⟨Q', hQ'⟩ : ∃ Q' : Exit → Act → World → Prop, Q' = fun e a w => e = .normal ∧ Q .normal a w := ⟨_, rfl⟩
  have hr : ∀ (a : Act) (w : World) (listed : Array Bool), (∀ i, i < ops.size → listed.getD i false = true) → VInv ops L ⟨t0, d0⟩ w0 bor X0 cr kl D listed a w → Q' .normal a w := fun a w listed hall inv => by
    rw [hQ']; exact ⟨rfl, vinv_end (a0 := ⟨t0, d0⟩) hd hfin (fun σ β X w' h1 h2 h3 => hrest σ β X w' h1 h2 h3 _ rfl) hall inv⟩
  have hLo : ¬ LetsOut Q' := by rw [hQ']; rintro ⟨a, w, h, _⟩; cases h
  refine wpIn_mono (Q := Q') ?_ fun e a w h => by rw [hQ'] at h; obtain ⟨rfl, h⟩ := h; exact h
  cases dr with
  | true =>
    refine wpIn_region_any hm (wpAnyIn_of hnd hLo _ _ _ _ (wpAny_V hL hd hflow hloc hs hr ops.size (Array.replicate ops.size false) ⟨t0, d0⟩ w.drew ?_ (vinv_start hst.drew)))
    rw [List.countP_eq_length.2]
    · simp
    · intro i _
      rw [getD_replicate_false]
      rfl
  | false =>
    refine wpIn_region ?_
    rw [List.range_eq_range']
    exact wpOpsIn_of hnd hLo _ _ _ (wpOps_V hL hd hflow hloc hs hr ops.size 0 (Array.replicate ops.size false) ⟨t0, d0⟩ w (by omega) (fun j => by rw [getD_replicate_false]; simp) (vinv_start hst))
end
theorem wpIn_region_T {l n : Nat} {P : Program} {ops : Array Oper} {Q : Exit → Act → World → Prop} {w0 : World} {bor : List Nat} {X0 : List Ent} {id : Nat} {dr : Bool} {w : World} {t0 : List Value} {d0 : List Deferred} (L : List Nat) (us cr kl : List (List Nat)) (tb : List TE)
    (A : Nat → (Tmp → Value) → (Tmp → Value) → (Nat → Ent) → Prop) (fin sp : List Nat) (rs : List (Nat × Nat × Nat × Nat)) (hst : St w0 bor X0 w) (hloc : LocalV ops X0.length L cr A)
    (hstep : inAll (StepV P ops L ⟨t0.toArray, d0⟩ w0 bor X0 us cr kl (fun ix σ β X => dT tb ix σ (A ix σ β X))) sp)
    (hrest : ∀ (σ β : Tmp → Value) (X : Nat → Ent) (w' : World), (∀ i, i < ops.size → dT tb i σ (A i σ β X)) → (∀ q e, X0[q]? = some e → X q = e) → St w0 bor (fin.map X) w' → ∀ fr, fr = mgT tb σ rs t0 → Q .normal ⟨fr.toArray, d0⟩ w')
    (ht : goTs P ops L t0.toArray tb 0 tb = tb.map wantT := by kernel_rfl) (hl : lineOk ops L cr kl sp 0 tb = true := by kernel_rfl) (hn : tb.length = ops.size := by kernel_rfl)
    (hfr : ∀ σ, putAll (dstsU ops) ((idxU ops).map (valT ops tb σ)) t0.toArray = (mgT tb σ rs t0).toArray := by intro σ; kernel_rfl)
    (hm : P.follows .mixedOrders = true := by kernel_rfl) (hnd : noDefer ops = true := by kernel_rfl) (hL : okAnc ops L = true := by kernel_rfl) (hd : dstOk ops t0.toArray.size = true := by kernel_rfl) (hflow : flowV ops.size X0.length L us cr kl = true := by kernel_rfl) (hfin : finV ops.size X0.length cr kl fin = true := by kernel_rfl) :
    (Code.region id ops dr).wpIn (Rnd l) n P Q ⟨t0.toArray, d0⟩ w := by
  refine wpIn_region_W hnd hm L us cr kl (fun ix σ β X => dT tb ix σ (A ix σ β X)) fin hL hd hflow hfin (fun i σ σ' β β' X X' h1 h2 h3 h => ?_) hst (AllTo.of fun i hi => ?_) fun σ β X w' hD hX hst' fr hfr' => ?_
  · dsimp only at h ⊢
    rw [dT_iff] at h ⊢
    cases hdd : (tb.getD i .n).dst with
    | some d =>
      rw [hdd] at h
      dsimp only at h ⊢
      have hi : i < tb.length := getD_lt (by rw [hdd]; simp)
      have := (tOk_dst ht hi hdd).1
      rw [← h1 d (by unfold seesV; simp [this])]
      exact h
    | none =>
      rw [hdd] at h
      exact hloc i σ σ' β β' X X' h1 h2 h3 h
  · have hi' : i < tb.length := by rw [hn]; exact hi
    have h := lineOk_get (i := i) hl hi'
    rw [Nat.zero_add] at h
    rcases h with ⟨_, h⟩ | ⟨h, _⟩
    · exact inAll_get hstep i h
    · exact pure_step hd ht hl hi' h
  · subst hfr'
    have e : (dstsU ops).map σ = (idxU ops).map (valT ops tb σ) := by
      unfold dstsU
      rw [List.map_map]
      refine List.map_congr_left fun i hi => ?_
      have him := List.mem_filter.1 hi
      have hlt : i < ops.size := List.mem_range.1 him.1
      have h := hD i hlt
      rw [dT_iff] at h
      unfold valT
      cases hdd : (tb.getD i .n).dst with
      | none => rfl
      | some d =>
        rw [hdd] at h
        dsimp only at h ⊢
        have := (tOk_dst ht (i := i) (by rw [hn]; exact hlt) hdd).1
        simp only [Function.comp, this, Option.getD_some]
        exact h
    rw [e, hfr σ]
    exact hrest σ β X w' hD hX hst' _ rfl
theorem wpIn_region_Y {l n : Nat} {P : Program} {ops : Array Oper} {Q : Exit → Act → World → Prop} {w0 : World} {bor : List Nat} {X0 : List Ent} {id : Nat} {dr : Bool} {w : World} {t0 : List Value} {t1 : (Tmp → Value) → List Value} {E : (Nat → Ent) → List Ent} {d0 : List Deferred} (L : List Nat) (us cr kl : List (List Nat)) (tb : List TE)
    (A : Nat → (Tmp → Value) → (Tmp → Value) → (Nat → Ent) → Prop) (fin sp : List Nat) (rs : List (Nat × Nat × Nat × Nat)) (hst : St w0 bor X0 w) (hloc : LocalV ops X0.length L cr A)
    (hstep : inAll (StepV P ops L ⟨t0.toArray, d0⟩ w0 bor X0 us cr kl (fun ix σ β X => dT tb ix σ (A ix σ β X))) sp)
    (hrest : ∀ (σ β : Tmp → Value) (X : Nat → Ent) (w' : World), (∀ i, i < ops.size → dT tb i σ (A i σ β X)) → St w0 bor (E X) w' → ∀ fr, fr = t1 σ → Q .normal ⟨fr.toArray, d0⟩ w')
    (h1 : ∀ σ, mgT tb σ rs t0 = t1 σ := by intro σ; dsimp only [mgT, vals, List.take, List.drop, List.cons_append, List.nil_append]) (hE : ∀ X, finE X0 X fin = E X := by intro X; dsimp only [finE, entQ])
    (ht : goTs P ops L t0.toArray tb 0 tb = tb.map wantT := by kernel_rfl) (hl : lineOk ops L cr kl sp 0 tb = true := by kernel_rfl) (hn : tb.length = ops.size := by kernel_rfl)
    (hfr : ∀ σ, putAll (dstsU ops) ((idxU ops).map (valT ops tb σ)) t0.toArray = (mgT tb σ rs t0).toArray := by intro σ; kernel_rfl)
    (hm : P.follows .mixedOrders = true := by kernel_rfl) (hnd : noDefer ops = true := by kernel_rfl) (hL : okAnc ops L = true := by kernel_rfl) (hd : dstOk ops t0.toArray.size = true := by kernel_rfl) (hflow : flowV ops.size X0.length L us cr kl = true := by kernel_rfl) (hfin : finV ops.size X0.length cr kl fin = true := by kernel_rfl) :
    (Code.region id ops dr).wpIn (Rnd l) n P Q ⟨t0.toArray, d0⟩ w :=
  wpIn_region_T L us cr kl tb A fin sp rs hst hloc hstep (fun σ β X w' hD hX hs fr hf => hrest σ β X w' hD (by rw [← hE X, finE_eq hX]; exact hs) fr (hf.trans (h1 σ))) ht hl hn hfr hm hnd hL hd hflow hfin
abbrev fps (L : List Ent) : List Nat := L.flatMap (·.fp)
theorem fps_mem {L : List Ent} {k : Nat} : k ∈ fps L ↔ ∃ e ∈ L, k ∈ e.fp := by simp [fps]
theorem St.fps_own {w0 w : World} {bor : List Nat} {L : List Ent} (h : St w0 bor L w) {k : Nat} (hk : k ∈ fps L) : (k ∈ bor ∨ w0.heap.size ≤ k) ∧ k < w.heap.size := by
  obtain ⟨e, he, hk⟩ := fps_mem.1 hk
  exact (h.ok e he).own k hk
/-- the block for the rounds' deferred calls -/
def eDfr (D : Nat) : Ent := ⟨[D], fun W => W.heap[D]? = some (.deferred (some []))⟩
theorem eD_loc (D : Nat) : (eDfr D).loc := fun W W' h hb => (h D (by simp [eDfr])).trans hb
/-- at the function's return the block is shut -/
theorem St.takeD {w0 W : World} {bor : List Nat} {L : List Ent} {D : Nat} (h : St w0 bor (L ++ [eDfr D]) W) : St w0 bor L (W.putObj D (.deferred none)) := by
  have hd := h.ok (eDfr D) (by simp)
  have hown := hd.own D (by simp [eDfr])
  have hap : ∀ e ∈ L, D ∉ e.fp := fun e he hk => by
    have := (List.pairwise_append.1 h.apart).2.2 e he (eDfr D) (by simp)
    exact this D hk (by simp [eDfr])
  have hg := grownBy_putObj' W D (.deferred none)
  refine ⟨⟨hg.os.trans h.upd.os, hg.tape.trans h.upd.tape, hg.output.trans h.upd.output, Nat.le_trans h.upd.size hg.size, fun k hk hb => ?_⟩, fun e he => ?_, (List.pairwise_append.1 h.apart).1⟩
  · rw [hg.block k (Nat.lt_of_lt_of_le hk h.upd.size) fun e' => ?_]
    · exact h.upd.block k hk hb
    · cases e'
      rcases hown.1 with h1 | h1
      · exact hb h1
      · omega
  · have h2 := h.ok e (by simp [he])
    refine ⟨h2.loc W _ (fun k hk => hg.block k (h2.own k hk).2 fun e' => ?_) h2.holds, h2.loc, fun k hk => ⟨(h2.own k hk).1, Nat.lt_of_lt_of_le (h2.own k hk).2 hg.size⟩⟩
    cases e'
    exact hap e he hk
theorem bpm_take {P : Program} {n : Nat} {fn : Func} {R : Ending → World → Prop} {t0 : Array Value} {w0 w : World} {bor : List Nat} {L : List Ent} {D : Nat} (hst : St w0 bor (L ++ [eDfr D]) w)
    (h : ∀ W, St w0 bor L W → ∃ v, (results fn t0).run P W = .ok v W ∧ R (.returned v) W) : bodyPostM Fence.wide n P fn R .ret ⟨t0, [{ target := .collected D, args := #[] }]⟩ w := by
  have hK : w.heap[D]? = some (.deferred (some [])) := (hst.ok (eDfr D) (by simp)).holds
  show LeavesInM Fence.wide n P fn t0 R [{ target := .collected D, args := #[] }] .returning w
  exact ⟨by simp, .inl ⟨_, _, rfl, run_takeDeferred hK, h _ hst.takeD⟩⟩
end
end Go.Proofs.Ytjlcoglmjldjbaa
namespace Go.Proofs.Ytjlcoglmjldjbaa
section
open Go.RowKit
set_option linter.unusedVariables false
set_option linter.unusedSimpArgs false
/-- the one who ranges, as an entry of the iterator's: his blocks, what he has been given -/
def eJ {α : Type} (J : List Nat → List α → World → Prop) (C : List Nat) (pre : List α) : Ent := ⟨C, J C pre⟩
/-- the iterator's contract: it gives a list of elements and leaves an entry of its own -/
def SeqF {α : Type} (P : Program) (gf : Nat) (lb : Array Value) (encs : α → Array Value) (N : Nat) (Z : List α → Ent → Prop) (w0 : World) : Prop :=
  ∀ (l : Nat) (J : List Nat → List α → World → Prop) (W : World) (C0 : List Nat), Ext w0 W → (∀ C pre, (eJ J C pre).loc) → (∀ k ∈ C0, w0.heap.size ≤ k ∧ k < W.heap.size) → J C0 [] W →
    (∀ C pre x A, J C pre A → (∀ k ∈ C, k < A.heap.size) → pre.length < N → YieldAt Fence.wide 1 P l (encs x) A fun e B => e = .returned (.bool true) ∧ ∃ C', St A C [eJ J C' (pre ++ [x])] B) →
    CallsIn Fence.wide 2 P gf (#[.func (.yield l) #[] #[]] ++ lb) W fun e B => (∃ v, e = .returned v) ∧ ∃ C xs E, St W C0 [eJ J C xs, E] B ∧ Z xs E
theorem Upd.putObj {S : List Nat} {A B : World} {l : Nat} {o : Obj} (h : Upd S A B) (hl : l ∈ S ∨ A.heap.size ≤ l) : Upd S A (B.putObj l o) := by
  have hg := grownBy_putObj' B l o
  refine ⟨hg.os.trans h.os, hg.tape.trans h.tape, hg.output.trans h.output, Nat.le_trans h.size hg.size, fun k hk hn => ?_⟩
  rw [hg.block k (Nat.lt_of_lt_of_le hk h.size) fun e => ?_]
  · exact h.block k hk hn
  · cases e
    rcases hl with h1 | h1
    · exact hn h1
    · omega
theorem putObj_size (W : World) (l : Nat) (o : Obj) : (W.putObj l o).heap.size = W.heap.size := by simp
theorem wp_rangeSF {α : Type} {P : Program} {g : Operand} {ps : Array Tmp} {assign body : Code} {Q : Exit → Act → World → Prop} {t0 : Array Value} {w0 w : World} {L0 : List Ent} (hst : St w0 [] L0 w)
    {gf : Nat} {lb : Array Value} (hg : Act.eval ⟨t0, []⟩ g = .func (.func gf) #[] lb) (eg : ∀ args w, (callFunc gf args).run P w = .ok (.enter gf args) w)
    {encs : α → Array Value} {N : Nat} {Z : List α → Ent → Prop} (hseq : SeqF P gf lb encs N Z w0) (hps : ∀ x, (encs x).size = ps.size) (I : List α → List Ent → Prop) (h0 : I [] L0) (Ax : α → Act → Ent → Prop) (t1 : α → List Value) (ht1 : ∀ x, (ps.zip (encs x)).foldl (fun t (p, v) => t.setIfInBounds p v) t0 = (t1 x).toArray)
    (hassign : ∀ (l : Nat) (x : α) (W : World) (K : Act → World → Prop), (∀ a' W' E, Ax x a' E → St W [] [E] W' → K a' W') → assign.wpIn (Rnd l) 1 P (Exit.then K (fun _ _ _ => False)) ⟨(t1 x).toArray, []⟩ W)
    (hbody : ∀ (l : Nat) (pre : List α) (x : α) (W : World) (L : List Ent) (a' : Act) (E : Ent), I pre L → pre.length < N → Ax x a' E → St W (fps (L ++ [E])) (L ++ [E]) W → body.wpIn (Rnd l) 1 P (fun e _ W' => e = .normal ∧ ∃ L', I (pre ++ [x]) L' ∧ St W (fps (L ++ [E])) L' W') a' W)
    (hdone : ∀ (D : Nat) (W : World) (L : List Ent) (xs : List α) (E : Ent), I xs L → Z xs E → St w0 [] (L ++ [E, eDfr D]) W → Q .normal ⟨t0, [{ target := .collected D, args := #[] }]⟩ W) :
    (Code.rangeFunc g ps assign body).wp P Q ⟨t0, []⟩ w := by
  refine (wpIn_wide (n := 3)).1 (wpIn_rangeFunc fun fn hfn => ?_)
  obtain ⟨D, hD⟩ : ∃ D, w.heap.size = D := ⟨_, rfl⟩
  obtain ⟨rec, hrec⟩ : ∃ rec : LoopState → Loop, rec = fun s => { state := s, pending := none, fn, tmps := t0, params := ps, assign, body, defers := D } := ⟨_, rfl⟩
  obtain ⟨W1, hW1⟩ : ∃ W1, (w.alloc (.deferred (some []))).alloc (.loop (rec .ready)) = W1 := ⟨_, rfl⟩
  have hL1 : W1.heap[D + 1]? = some (.loop (rec .ready)) := by
    rw [← hW1, ← hD]; have := World.alloc_heap_new (w.alloc (.deferred (some []))) (.loop (rec .ready)); rwa [World.size_alloc] at this
  have hK1 : W1.heap[D]? = some (.deferred (some [])) := by
    rw [← hW1, ← hD]; exact (Below.heap_alloc _ _ _ (by simp)).trans (World.alloc_heap_new w _)
  have hx1 : Ext w W1 := by rw [← hW1]; exact ((Below.refl _ w).alloc (Nat.le_refl _) _).alloc (by simp) _
  have hs1 : W1.heap.size = D + 2 := by rw [← hW1, World.size_alloc, World.size_alloc, hD]
  have h0w := hst.upd.size
  obtain ⟨J, hJ⟩ : ∃ J : List Nat → List α → World → Prop, J = fun C pre A => ∃ L, I pre L ∧ C = (D + 1) :: D :: fps L ∧ (∀ e ∈ L, e.holds A ∧ e.loc) ∧ L.Pairwise Ent.apart ∧ (∀ k ∈ fps L, k ≠ D + 1 ∧ k ≠ D) ∧ A.heap[D + 1]? = some (.loop (rec .ready)) ∧ A.heap[D]? = some (.deferred (some [])) := ⟨_, rfl⟩
  have hloc : ∀ C pre, (eJ J C pre).loc := fun C pre A B hk h => by
    subst hJ
    obtain ⟨L, h1, rfl, h2, h3, h4, h5, h6⟩ := h
    refine ⟨L, h1, rfl, fun e he => ⟨(h2 e he).2 A B (fun k hk' => hk k ?_) (h2 e he).1, (h2 e he).2⟩, h3, h4, (hk (D + 1) (by simp [eJ])).trans h5, (hk D (by simp [eJ])).trans h6⟩
    exact List.mem_cons_of_mem _ (List.mem_cons_of_mem _ (fps_mem.2 ⟨e, he, hk'⟩))
  have hC0 : ∀ k ∈ (D + 1) :: D :: fps L0, w0.heap.size ≤ k ∧ k < W1.heap.size := fun k hk => by
    rcases List.mem_cons.1 hk with rfl | hk
    · exact ⟨by omega, by omega⟩
    · rcases List.mem_cons.1 hk with rfl | hk
      · exact ⟨by omega, by omega⟩
      · have := hst.fps_own hk
        have h5 := this.1.resolve_left (by simp)
        exact ⟨h5, by omega⟩
  have hJ0 : J ((D + 1) :: D :: fps L0) [] W1 := by
    subst hJ
    refine ⟨L0, h0, rfl, fun e he => ⟨(hst.ok e he).loc w W1 (fun k hk => hx1.block ((hst.ok e he).own k hk).2) (hst.ok e he).holds, (hst.ok e he).loc⟩, hst.apart, fun k hk => ?_, hL1, hK1⟩
    have := (hst.fps_own hk).2
    exact ⟨by omega, by omega⟩
  refine ⟨D + 1, [{ target := .collected D, args := #[] }], W1, { target := .fn (.func gf) lb, args := #[.func (.yield (D + 1)) #[] #[]] }, W1, gf, #[.func (.yield (D + 1)) #[] #[]] ++ lb, W1, ?_, ?_, ?_, ?_, fun _ => by omega, ?_⟩
  · rw [← hW1, hrec, ← hD]; exact run_enterLoop_outer _ _ _ _ _
  · simp only [resolve, hg]
    simp [go_sem]
  · intro f' hf'; trivial
  · simp [invoke, go_sem, eg]
  · refine (hseq (D + 1) J W1 _ (hst.ext.trans hx1) hloc hC0 hJ0 ?_).mono ?_
    · intro C pre x A hj hlt hlen
      subst hJ
      obtain ⟨L, hi, rfl, hall, hap, hne, hl, hk⟩ := hj
      have hlA : D + 1 < A.heap.size := hlt _ (by simp)
      have hDA : D < A.heap.size := hlt _ (by simp)
      have hy := run_yield (P := P) (args := encs x) hl (by rw [hrec]; exact hps x)
      rw [hrec] at hy
      refine ⟨fn, _, assign, body, hy, roundIn_of_wpIn hfn ?_⟩
      rw [ht1 x]
      refine hassign _ x A _ fun a' A1 E1 hAx hE1 => ?_
      have hxA := hE1.ext
      have hl1 : A1.heap[D + 1]? = some (.loop (rec .ready)) := (hxA.block hlA).trans hl
      have hk1 : A1.heap[D]? = some (.deferred (some [])) := (hxA.block hDA).trans hk
      have hEo := hE1.ok E1 (by simp)
      have hEn : ∀ k ∈ E1.fp, A.heap.size ≤ k ∧ k < A1.heap.size := fun k hk' => ⟨(hEo.own k hk').1.resolve_left (by simp), (hEo.own k hk').2⟩
      have hsA1 := hxA.size
      refine ⟨_, run_beginRound hl1 (by rw [hrec]), ?_⟩
      obtain ⟨A2, hA2⟩ : ∃ A2, A1.putObj (D + 1) (.loop { rec .ready with state := .busy }) = A2 := ⟨_, rfl⟩
      have hsz : A2.heap.size = A1.heap.size := by rw [← hA2]; exact putObj_size _ _ _
      have hoth : ∀ k, k ≠ D + 1 → A2.heap[k]? = A1.heap[k]? := fun k hk' => by rw [← hA2]; exact World.putObj_heap_other hk'
      have hbusy : A2.heap[D + 1]? = some (.loop { rec .ready with state := .busy }) := by rw [← hA2]; exact World.putObj_heap_same (by omega)
      have hLlt : ∀ k ∈ fps L, k < A.heap.size := fun k hk' => hlt k (List.mem_cons_of_mem _ (List.mem_cons_of_mem _ hk'))
      have hst2 : St A2 (fps (L ++ [E1])) (L ++ [E1]) A2 := by
        refine ⟨Upd.refl _ _, fun e he => ?_, ?_⟩
        · have hin : ∀ k ∈ e.fp, k ∈ fps (L ++ [E1]) := fun k hk' => fps_mem.2 ⟨e, he, hk'⟩
          rcases List.mem_append.1 he with he | he
          · refine ⟨(hall e he).2 A A2 (fun k hk' => ?_) (hall e he).1, (hall e he).2, fun k hk' => ⟨.inl (hin k hk'), ?_⟩⟩
            · have h1 := fps_mem.2 ⟨e, he, hk'⟩
              exact (hoth k (hne k h1).1).trans (hxA.block (hLlt k h1))
            · have := hLlt k (fps_mem.2 ⟨e, he, hk'⟩); omega
          · rw [List.mem_singleton] at he
            subst he
            exact ⟨hEo.loc A1 A2 (fun k hk' => hoth k (by have := (hEn k hk').1; omega)) hEo.holds, hEo.loc, fun k hk' => ⟨.inl (hin k hk'), by have := (hEn k hk').2; omega⟩⟩
        · rw [List.pairwise_append]
          refine ⟨hap, List.pairwise_singleton _ _, fun a ha b hb k hk' hkb => ?_⟩
          rw [List.mem_singleton] at hb
          subst hb
          have h1 := hLlt k (fps_mem.2 ⟨a, ha, hk'⟩)
          have h2 := (hEn k hkb).1
          omega
      rw [hA2]
      have hfin : ∀ k ∈ fps (L ++ [E1]), k ∈ fps L ∨ A.heap.size ≤ k := fun k hk' => by
        obtain ⟨e, he, hke⟩ := fps_mem.1 hk'
        rcases List.mem_append.1 he with he | he
        · exact .inl (fps_mem.2 ⟨e, he, hke⟩)
        · rw [List.mem_singleton] at he; subst he; exact .inr (hEn k hke).1
      refine wpIn_mono (hbody _ pre x A2 L a' E1 hi hlen hAx hst2) ?_
      rintro e a W3 ⟨rfl, L', hi', hs'⟩
      have hno : ∀ m, m = D + 1 ∨ m = D → m ∉ fps (L ++ [E1]) := fun m hm hmm => by
        rcases hfin m hmm with h1 | h1
        · have := hne m h1; rcases hm with rfl | rfl <;> simp at this
        · omega
      have hl3 : W3.heap[D + 1]? = some (.loop { rec .ready with state := .busy }) := (hs'.upd.block _ (by omega) (hno _ (.inl rfl))).trans hbusy
      have hk3 : W3.heap[D]? = some (.deferred (some [])) := (hs'.upd.block _ (by omega) (hno _ (.inr rfl))).trans ((hoth D (by omega)).trans hk1)
      have hsz3 := hs'.upd.size
      have hne' : ∀ k ∈ fps L', k ≠ D + 1 ∧ k ≠ D := fun k hk' => by
        rcases (hs'.fps_own hk').1 with h1 | h1
        · rcases hfin k h1 with h2 | h2
          · exact hne k h2
          · exact ⟨by omega, by omega⟩
        · exact ⟨by omega, by omega⟩
      refine ⟨_, _, run_endRound none hl3, rfl, (D + 1) :: D :: fps L', ?_⟩
      have hupA : Upd ((D + 1) :: D :: fps L) A A2 := by rw [← hA2]; exact (Upd.mono (S := []) (Upd.of_ext hxA) (fun k _ hk' => by simp at hk')).putObj (.inl (List.mem_cons_self ..))
      have hup : Upd ((D + 1) :: D :: fps L) A W3 := hupA.join hs'.upd (fun i hi => by
        rcases hfin i hi with h1 | h1
        · exact Or.inl (List.mem_cons_of_mem _ (List.mem_cons_of_mem _ h1))
        · exact .inr h1)
      have h3l : D + 1 < W3.heap.size := by omega
      refine ⟨hup.putObj (.inl (by simp)), fun e he => ?_, List.pairwise_singleton _ _⟩
      rw [List.mem_singleton] at he
      subst he
      refine ⟨⟨L', hi', rfl, fun e he => ⟨(hs'.ok e he).loc W3 _ (fun k hk' => World.putObj_heap_other (hne' k (fps_mem.2 ⟨e, he, hk'⟩)).1) (hs'.ok e he).holds, (hs'.ok e he).loc⟩, hs'.apart, hne', ?_, ?_⟩, hloc _ _, fun k hk' => ?_⟩
      · rw [hrec]; exact World.putObj_heap_same h3l
      · exact (World.putObj_heap_other (by omega)).trans hk3
      · rw [putObj_size]
        have hk' : k ∈ (D + 1) :: D :: fps L' := hk'
        rcases List.mem_cons.1 hk' with rfl | hk'
        · exact ⟨.inl (by simp), h3l⟩
        · rcases List.mem_cons.1 hk' with rfl | hk'
          · exact ⟨.inl (by simp), by omega⟩
          · have h6 := hs'.fps_own hk'
            refine ⟨?_, h6.2⟩
            rcases h6.1 with h7 | h7
            · rcases hfin k h7 with h8 | h8
              · exact .inl (List.mem_cons_of_mem _ (List.mem_cons_of_mem _ h8))
              · exact .inr h8
            · exact .inr (by omega)
    · rintro e W2 ⟨⟨v, rfl⟩, C, xs, E, hs, hz⟩
      have hE := hs.ok E (by simp)
      have hjo := hs.ok (eJ J C xs) (by simp)
      have hap2 := List.pairwise_pair.1 hs.apart
      have hj := hjo.holds
      subst hJ
      obtain ⟨L, hi, rfl, hall, hap, hne, hl, hk⟩ := hj
      have hend := run_endLoop (P := P) hl (by rw [hrec]; simp)
      have hpend : (rec .ready).pending = none := by rw [hrec]
      rw [hpend] at hend
      refine ⟨none, _, hend, hdone D _ L xs E hi hz ?_⟩
      have hCo : ∀ k ∈ (D + 1) :: D :: fps L, (w0.heap.size ≤ k ∧ k < W2.heap.size) := fun k hk' => by
        have h5 := hjo.own k hk'
        refine ⟨?_, h5.2⟩
        rcases h5.1 with h6 | h6
        · exact (hC0 k h6).1
        · omega
      have hup : Upd [] w0 W2 := (Upd.of_ext (hst.ext.trans hx1)).join hs.upd (fun i hi => .inr (hC0 i hi).1)
      have hlA := (hCo (D + 1) (by simp)).2
      have hw0D : w0.heap.size ≤ D + 1 := by omega
      refine ⟨hup.putObj (.inr hw0D), fun e he => ?_, ?_⟩
      · rcases List.mem_append.1 he with he | he
        · refine ⟨(hall e he).2 W2 _ (fun k hk' => World.putObj_heap_other (hne k (fps_mem.2 ⟨e, he, hk'⟩)).1) (hall e he).1, (hall e he).2, fun k hk' => ?_⟩
          rw [putObj_size]
          have := hCo k (List.mem_cons_of_mem _ (List.mem_cons_of_mem _ (fps_mem.2 ⟨e, he, hk'⟩)))
          exact ⟨.inr this.1, this.2⟩
        · simp only [List.mem_cons, List.not_mem_nil, or_false] at he
          rcases he with rfl | rfl
          · refine ⟨hE.loc W2 _ (fun k hk' => World.putObj_heap_other fun e => ?_) hE.holds, hE.loc, fun k hk' => ?_⟩
            · subst e; exact hap2 (D + 1) (by simp [eJ]) hk'
            · rw [putObj_size]
              have h5 := hE.own k hk'
              refine ⟨.inr ?_, h5.2⟩
              rcases h5.1 with h6 | h6
              · exact (hC0 k h6).1
              · omega
          · refine ⟨(World.putObj_heap_other (by omega)).trans hk, eD_loc D, fun k hk' => ?_⟩
            have : k = D := by simpa [eDfr] using hk'
            subst this
            rw [putObj_size]
            exact ⟨.inr (by omega), by omega⟩
      · rw [List.pairwise_append, List.pairwise_pair]
        refine ⟨hap, fun k hk' hkD => ?_, fun a ha b hb k hk' hkb => ?_⟩
        · have : k = D := by simpa [eDfr] using hkD
          subst this
          exact hap2 k (by simp [eJ]) hk'
        · simp only [List.mem_cons, List.not_mem_nil, or_false] at hb
          have hkf : k ∈ fps L := fps_mem.2 ⟨a, ha, hk'⟩
          rcases hb with rfl | rfl
          · exact hap2 k (List.mem_cons_of_mem _ (List.mem_cons_of_mem _ hkf)) hkb
          · have : k = D := by simpa [eDfr] using hkb
            exact (hne k hkf).2 this
end
end Go.Proofs.Ytjlcoglmjldjbaa
namespace Go.Proofs.Ytjlcoglmjldjbaa
section
open Go.RowKit
set_option linter.unusedVariables false
set_option linter.unusedSimpArgs false
section
variable {P : Program} {o : Oper} {ρ : Operand → Value} {W : World}
theorem run_callY {c : Call} {x : Operand} {l : Nat} {args : Array Value} (h : o.op = .call c) (hcal : c.callee = .value x) (hx : ρ x = .func (.yield l) #[] #[]) (ha : c.args.map ρ = args) {r : Result Next} (hr : (Instr.yield l args).run P W = r) : (execOp ρ o).run P W = r := by
  subst hr
  unfold execOp; rw [h]
  simp only [resolve, hcal, hx, Deferred.ofValue, ha, Sem.run_bind, Sem.run_pure, Result.andThen_ok, invoke]
  simp
end
theorem wpOpsIn_val {P : Program} {ops : Array Oper} {Q : Exit → Act → World → Prop} {i : Nat} {rest : List Nat} {o : Oper} {t : List Value} {d0 : List Deferred} {W : World} {v : Value} {d : Tmp} {t' : List Value} (ho : ops[i]? = some o) (hg : o.guard = none) (hd : o.dst = some d) (hr : (execOp (Act.eval ⟨t.toArray, d0⟩) o).run P W = .ok (.value v) W) (ht : t.set d v = t') (h : wpOpsIn Fence.wide 2 P ops Q rest ⟨t'.toArray, d0⟩ W) : wpOpsIn Fence.wide 2 P ops Q (i :: rest) ⟨t.toArray, d0⟩ W := by
  unfold wpOpsIn
  simp only [ho]
  rw [if_pos (show Region.wanted o _ = true by unfold Region.wanted; rw [hg])]
  refine ⟨fun _ _ => trivial, ?_⟩
  show o.uponIn Fence.wide 2 P _ _ Q ((execOp (Act.eval ⟨t.toArray, d0⟩) o).run P W)
  rw [hr, Oper.uponIn_value, hd]
  show wpOpsIn Fence.wide 2 P ops Q rest ⟨t.toArray.setIfInBounds d v, d0⟩ W
  rw [List.setIfInBounds_toArray, ht]
  exact h
theorem wpOpsIn_yld {P : Program} {ops : Array Oper} {Q : Exit → Act → World → Prop} {i : Nat} {rest : List Nat} {o : Oper} {t : List Value} {d0 : List Deferred} {W : World} {d l : Nat} {t' : List Value} {args : Array Value} {R : Ending → World → Prop} (ho : ops[i]? = some o) (hg : o.guard = none) (hd : o.dst = some d)
    (hr : ∀ r, (Instr.yield l args).run P W = r → (execOp (Act.eval ⟨t.toArray, d0⟩) o).run P W = r) (hy : YieldAt Fence.wide 1 P l args W fun e B => e = .returned (.bool true) ∧ R e B) (ht : t.set d (.bool true) = t') (h : ∀ B, R (.returned (.bool true)) B → wpOpsIn Fence.wide 2 P ops Q rest ⟨t'.toArray, d0⟩ B) : wpOpsIn Fence.wide 2 P ops Q (i :: rest) ⟨t.toArray, d0⟩ W := by
  obtain ⟨fn, tmps, assign, body, h1, h2⟩ := hy
  unfold wpOpsIn
  simp only [ho]
  rw [if_pos (show Region.wanted o _ = true by unfold Region.wanted; rw [hg])]
  refine ⟨fun _ _ => trivial, ?_⟩
  show o.uponIn Fence.wide 2 P _ _ Q ((execOp (Act.eval ⟨t.toArray, d0⟩) o).run P W)
  rw [hr _ h1, Oper.uponIn_round]
  refine ⟨fun hh => by simp [Fence.wide] at hh, h2.mono ?_⟩
  rintro e B ⟨rfl, hB⟩
  show wpOpsIn Fence.wide 2 P ops Q rest (Act.put ⟨t.toArray, d0⟩ o.dst (.bool true)) B
  rw [hd]
  show wpOpsIn Fence.wide 2 P ops Q rest ⟨t.toArray.setIfInBounds d (.bool true), d0⟩ B
  rw [List.setIfInBounds_toArray, ht]
  exact h B hB
theorem wp_region4In {P : Program} {id : Nat} {o0 o1 o2 o3 : Oper} {Q : Exit → Act → World → Prop} {a : Act} {W : World} (h : wpOpsIn Fence.wide 2 P #[o0, o1, o2, o3] Q [0, 1, 2, 3] a W) : (Code.region id #[o0, o1, o2, o3] false).wp P Q a W :=
  (wpIn_wide (n := 2)).1 (wpIn_region h)
/-- a node as the iterator gives it -/
abbrev YnD := NoD × Int × Option Addr × Nat
def ynE (x : YnD) : Array Value := #[knV x.2.1 x.1 x.2.2.1 x.2.2.2]
def ynC (x : YnD) : List Value := [.int .i64 x.2.1, .int .i64 x.1.lv, .int .i64 x.1.right, .string x.1.high, .bool x.1.dead, .slice x.2.2.1 x.1.es.length x.2.2.2, .int .i64 (x.1.free : Int)]
def ynR (x : YnD) : Ent := eO 104 3 (.slice x.2.2.1 x.1.es.length x.2.2.2) x.1.es.length (x.1.es.flatMap enC)
/-- the one node of a level -/
def OneZ (pg : Int) (nd : NoD) (xs : List YnD) (E : Ent) : Prop := ∃ EA ec, xs = [(nd, pg, EA, ec)] ∧ E = ynR (nd, pg, EA, ec)
theorem yld_st {α : Type} {w A B : World} {bor C : List Nat} {L : List Ent} {J : List Nat → List α → World → Prop} {pre xs : List α} (h : St w bor (eJ J C pre :: L) A) {C' : List Nat} (hj : St A C [eJ J C' xs] B) : St w bor (eJ J C' xs :: L) B := by
  have hC := h.ok (eJ J C pre) (List.mem_cons_self ..)
  have hp := List.pairwise_cons.1 h.apart
  have hN := hj.ok (eJ J C' xs) (by simp)
  refine ⟨h.upd.join hj.upd (fun i hi => (hC.own i hi).1), fun e he => ?_, List.pairwise_cons.2 ⟨fun e he k hk hke => ?_, hp.2⟩⟩
  · rcases List.mem_cons.1 he with rfl | he
    · refine ⟨hN.holds, hN.loc, fun k hk => ⟨?_, (hN.own k hk).2⟩⟩
      rcases (hN.own k hk).1 with h1 | h1
      · exact (hC.own k h1).1
      · exact .inr (Nat.le_trans h.upd.size h1)
    · have h2 := h.ok e (List.mem_cons_of_mem _ he)
      exact h2.keep hj.upd (fun k hk hkC => hp.1 e he k hkC hk)
  · have h2 := h.ok e (List.mem_cons_of_mem _ he)
    rcases (hN.own k hk).1 with h1 | h1
    · exact hp.1 e he k h1 hke
    · have := (h2.own k hke).2; omega
set_option maxRecDepth 100000 in
set_option maxHeartbeats 2000000 in
theorem krow1_in (l : Nat) (b1 b2 b3 : Nat) (tt : TypeId) (tv : Value) (root lv : Int) (ps : List PgS) (nd : NoD) (w0 : World) (J : List Nat → List YnD → World → Prop) (C0 : List Nat) (w : World) (hx0 : ∀ A, Upd C0 w A → Ext w0 A) (h1 : Blk w0 b1 113 #[.iface tt tv]) (h2 : Blk w0 b2 3 #[.int .i64 root]) (h3 : Blk w0 b3 3 #[.int .i64 lv]) (hS : PgsOk w0 tt tv ps) (hok : OkS ps) (hoc : OkC ps) (hnd : ndAt ps root = some nd) (hlv : nd.lv = lv) (hno : ndAt ps nd.right = none) (hloc : ∀ C pre, (eJ J C pre).loc) (hlt : ∀ k ∈ C0, k < w.heap.size) (hJ0 : J C0 [] w) (hY : ∀ C pre x A, J C pre A → (∀ k ∈ C, k < A.heap.size) → pre.length < 1 → YieldAt Fence.wide 1 Try.prog l (ynE x) A fun e B => e = .returned (.bool true) ∧ ∃ C', St A C [eJ J C' (pre ++ [x])] B) :
    Calls Try.prog 99 #[.func (.yield l) #[] #[], .pointer (some ⟨b1, 0, none⟩), .pointer (some ⟨b2, 0, none⟩), .pointer (some ⟨b3, 0, none⟩)] w ((fun w (e : Ending) (B : World) => (∃ v, e = .returned v) ∧ ∃ C xs E, St w C0 [eJ J C xs, E] B ∧ OneZ root nd xs E) w) := by
  have st0 : St w C0 [eJ J C0 []] w := St.lend (E := eJ J C0 []) hJ0 (hloc _ _) hlt
  go_enter Try.func99, Try.ntmps99
  have hst0 := st0
  refine wp_seq (sqr ?_)
  refine sql (.iface tt (tv)) hst0 (fun cx => run_load1 rfl (by kernel_rfl) (cx.ou 1) ((Blk.ext h1 (hx0 _ cx.upd)).cell 0)) ?_
  refine sql (vi root) hst0 (fun cx => run_load1 rfl (by kernel_rfl) (cx.ou 2) ((Blk.ext h2 (hx0 _ cx.upd)).cell 0)) ?_
  refine sqk2 (fun EA11_3 ec11_3 => .tuple #[.agg #[vi root, vi nd.lv, vi nd.right, .string nd.high, .bool nd.dead, .slice EA11_3 nd.es.length ec11_3, vi ((nd.free : Int))], .bool true]) (fun EA11_3 ec11_3 => eO 104 3 (.slice EA11_3 nd.es.length ec11_3) nd.es.length (nd.es.flatMap enC)) hst0 (fun cx => ⟨_, (kd_yes hnd (kat_any _ _ ps root _ (hS.ext (hx0 _ cx.upd)) hok hoc)).mono (by rintro e W1 ⟨EA4, ec4, rfl, hs4⟩; exact ⟨_, _, rfl, hs4⟩), (map2 (cx.ou 9) (cx.ou 10))⟩) fun EA11_3 ec11_3 W3 hst3 => ?_
  refine sqp [.m 8 11, .k 12 (.agg #[vi root, vi nd.lv, vi nd.right, .string nd.high, .bool nd.dead, .slice EA11_3 nd.es.length ec11_3, vi ((nd.free : Int))]), .k 13 (.bool true)] ?_
  refine sqal #[vi 0, vi 0, vi 0, .string ByteArray.empty, .bool false, .slice none 0 0, vi 0] hst3 fun B5_7 W7 hst7 => ?_
  refine sqst (n := 7) 2 #[vi root, vi nd.lv, vi nd.right, .string nd.high, .bool nd.dead, .slice EA11_3 nd.es.length ec11_3, vi ((nd.free : Int))] hst7 fun W8 hst8 => ?_
  refine sqp [.k 6 (.bool true)] ?_
  refine then_normal (wp_seq (sqr (sqp [.k 7 (vi 1)] ?_)))
  refine then_normal (wp_seq (wp_block ?_))
  refine wp_loopT (fun t_ mz az W => True ∧ mz = 0 ∧ az = ⟨(ovr (jv az) [(14, 14, 29, [])] t_).toArray, []⟩ ∧ St w C0 [eJ J C0 [], eO 104 3 (.slice EA11_3 nd.es.length ec11_3) nd.es.length (nd.es.flatMap enC), eB B5_7 116 #[vi root, vi nd.lv, vi nd.right, .string nd.high, .bool nd.dead, .slice EA11_3 nd.es.length ec11_3, vi ((nd.free : Int))]] W) (0) ?_ ?_
  · -- the loop begins
    exact ⟨trivial, rfl, (by kernel_rfl), hst8.pk [0, 1, 2]⟩
  rintro n11 a11 W11 ⟨-, rfl, hj_, hst11⟩
  refine ovz hj_ fun u11_ => ?_
  refine wp_seq (wp_seq (sqr (sqp [.k 14 (.bool true), .k 15 (.bool true)] ?_)))
  refine sqgy 15 [16, 17, 18, 19] rfl rfl ?_
  refine sqp [.k 16 (.pointer (some ⟨B5_7, 1, none⟩))] ?_
  refine sqld 2 hst11 ?_
  refine sql (vi lv) hst11 (fun cx => run_load1 rfl (by kernel_rfl) (cx.ou 3) ((Blk.ext h3 (hx0 _ cx.upd)).cell 0)) ?_
  have hd18 : (decide (lv < nd.lv)) = false := (decide_eq_false (by omega))
  refine sqp [.e 19 (.bool (decide (lv < nd.lv))) (.bool false) (congrArg Value.bool hd18)] ?_
  refine sqp [.k 20 (.bool false), .k 21 (.bool false)] ?_
  refine sqgn 21 [22, 23, 24, 25] rfl rfl ?_
  refine sqp [.k 26 (.bool false), .k 27 (.bool false)] ?_
  refine sqgn 27 [28, 29] rfl rfl ?_
  refine sqp [.k 30 (.bool false)] ?_
  refine then_normal (wcf rfl (wp_exit (then_exit (then_exit (blk_eq (then_normal (wp_seq (wp_seq (sqr (sqp [.k 43 (.bool true), .k 44 (.bool false), .k 45 (.bool false)] ?_))))))))))
  refine sqgy 45 [46, 47, 48, 49] rfl rfl ?_
  refine sqp [.k 46 (.pointer (some ⟨B5_7, 1, none⟩))] ?_
  refine sqld 2 hst11 ?_
  refine sql (vi lv) hst11 (fun cx => run_load1 rfl (by kernel_rfl) (cx.ou 3) ((Blk.ext h3 (hx0 _ cx.upd)).cell 0)) ?_
  have hd31 : (nd.lv != lv) = false := (by rw [bne_eq_false_iff_eq]; exact hlv)
  refine sqp [.e 49 (.bool (nd.lv != lv)) (.bool false) (congrArg Value.bool hd31)] ?_
  refine sqp [.k 50 (.bool false)] ?_
  refine then_normal (wcf rfl (wp_skip (then_normal (wp_seq (sqr (sqp [.k 51 (vi 0)] ?_))))))
  refine then_normal (wp_block ?_)
  refine wp_loopT (fun t_ mz az W => True ∧ mz = 0 ∧ az = ⟨(ovr (jv az) [(52, 52, 21, [])] t_).toArray, []⟩ ∧ St w C0 [eJ J C0 [], eO 104 3 (.slice EA11_3 nd.es.length ec11_3) nd.es.length (nd.es.flatMap enC), eB B5_7 116 #[vi root, vi nd.lv, vi nd.right, .string nd.high, .bool nd.dead, .slice EA11_3 nd.es.length ec11_3, vi ((nd.free : Int))]] W) (0) ?_ ?_
  · -- the loop begins
    exact ⟨trivial, rfl, (by kernel_rfl), hst11.pk [0, 1, 2]⟩
  rintro n34 a34 W34 ⟨-, rfl, hj_, hst34⟩
  refine ovz hj_ fun u34_ => ?_
  refine wp_seq (sqr (sqp [.k 52 (.bool true)] ?_))
  refine then_normal (wp_seq (wct rfl (wp_skip (then_normal (wp_seq (wp_block (wp_seq (wp_seq ?_))))))))
  have hyb_ := hst34.blk 2 rfl
  have hjj_ := hst34.get 0 rfl
  have hyy_ := hY C0 [] (nd, root, EA11_3, ec11_3) _ hjj_.holds (fun k hk => (hjj_.own k hk).2) (by decide)
  refine wp_region4In (wpOpsIn_val rfl rfl rfl (run_move' rfl rfl) rfl (wpOpsIn_val rfl rfl rfl (run_loadB (n := 7) rfl (by kernel_rfl) (by kernel_rfl) rfl hyb_ (nle rfl) rfl) rfl (wpOpsIn_yld (args := ynE (nd, root, EA11_3, ec11_3)) (R := fun _ B => ∃ C', St _ C0 [eJ J C' ([] ++ [(nd, root, EA11_3, ec11_3)])] B) rfl rfl rfl (fun r hr => run_callY rfl rfl rfl (map1 rfl) hr) hyy_ rfl fun W36 ⟨C2, hJ2⟩ => ?_)))
  have hup_ := hJ2.upd
  have hst36 := yld_st (L := [eO 104 3 (.slice EA11_3 nd.es.length ec11_3) nd.es.length (nd.es.flatMap enC), eB B5_7 116 #[vi root, vi nd.lv, vi nd.right, .string nd.high, .bool nd.dead, .slice EA11_3 nd.es.length ec11_3, vi ((nd.free : Int))]]) (hst34.pick [0, 1, 2] (by decide) rfl) hJ2
  refine wpOpsIn_val rfl rfl rfl (run_not rfl rfl rfl) rfl ?_
  unfold wpOpsIn
  refine then_normal (wcf rfl (wp_skip (then_normal (wp_seq (wp_region_Y [0, 0, 2, 7, 15, 31, 31, 63, 255] [[], [], [2], [], [], [], [], [2]] [[], [], [], [], [], [], [], [3]] [[], [], [], [], [], [], [], [2]] [.c 58 (.iface tt (tv)), .k 59 (.pointer (some ⟨B5_7, 2, none⟩)), .c 60 (vi nd.right), .a 61, .a 57, .a 62, .c 63 (.bool false), .n, .k 6 (.bool false)] (fun ix σ β X => match ix with | 0 => True | 1 => True | 2 => True | 3 => σ 61 = .tuple #[.agg #[vi (iv (tg (tg (β 61) 0) 0)), vi 0, vi 0, .string ((⟨#[]⟩ : ByteArray)), .bool false, .slice none 0 0, vi 0], .bool false] | 4 => σ 57 = .tuple #[.agg #[vi (iv (tg (tg (β 61) 0) 0)), vi 0, vi 0, .string ((⟨#[]⟩ : ByteArray)), .bool false, .slice none 0 0, vi 0], .bool false] | 5 => σ 62 = .agg #[vi (iv (tg (tg (β 61) 0) 0)), vi 0, vi 0, .string ((⟨#[]⟩ : ByteArray)), .bool false, .slice none 0 0, vi 0] | 6 => True | 7 => X 3 = eB B5_7 116 #[vi (iv (tg (tg (β 61) 0) 0)), vi 0, vi 0, .string ((⟨#[]⟩ : ByteArray)), .bool false, .slice none 0 0, vi 0] | _ => True) [0, 1, 3] [0, 2, 3, 4, 5, 6, 7] [(6, 8, 1, 7), (50, 4, 1, 51), (0, 0, 4, 4), (0, 5, 2, 2)] hst36 ?_ ?_ ?_)))))
  · exact fun ix _ _ _ _ _ _ hs hb hx h => match ix, h with
    | 3, h => by dsimp only; rw [← hs 61 rfl, ← hb 61 rfl]; exact h
    | 4, h => by dsimp only; rw [← hs 57 rfl, ← hb 61 rfl]; exact h
    | 5, h => by dsimp only; rw [← hs 62 rfl, ← hb 61 rfl]; exact h
    | 7, h => by dsimp only; rw [← hb 61 rfl, ← hx 3 rfl]; exact h
    | 0, _ | 1, _ | 2, _ | 6, _ | _ + 8, _ => trivial
  · refine ⟨?_, ?_, ?_, ?_, ?_, ?_, ?_, trivial⟩
    · exact xs4 rfl id fun cx => run_load1 rfl (by kernel_rfl) (cx.ou 1) ((Blk.ext h1 (hx0 _ cx.upd)).cell 0)
    · exact xs4 rfl id fun cx => run_load1 rfl (by kernel_rfl) (cx.an 1) ((cx.bi 2 rfl).cell 2)
    · refine svA fun ρ β W X cx => ?_
      refine DoesU.call (run_callF (args := #[.iface tt (tv), vi nd.right]) rfl cx.sees rfl (by kernel_rfl) (map2 (cx.an 0) (cx.an 2))) ?_
      refine (kd_no hno (kat_any _ _ ps nd.right _ (hS.ext (hx0 _ cx.upd)) hok hoc)).mono ?_
      rintro e W1 ⟨p4, rfl, hx⟩
      refine ⟨_, rfl, post_call [] rfl rfl hx (by simp) List.Pairwise.nil (fun σ β' X' hs hb hv hN => ?_)⟩
      have hv1 := (hv 61 rfl).1; have hv2 := (hv 61 rfl).2
      exact hv1.trans (by rw [hv2]; rfl)
    · exact sv rfl rfl rfl rfl rfl _ (fun _ _ _ h => h) (fun β β' h => by rw [h 61 (by decide)]) fun ρ β W X cx => run_move' rfl (dTn (cx.an 3))
    · exact sv rfl rfl rfl rfl rfl _ (fun _ _ _ h => h) (fun β β' h => by rw [h 61 (by decide)]) fun ρ β W X cx => run_extract' rfl (dTn (cx.an 4)) rfl
    · exact xs4 rfl id fun cx => run_extract' rfl (dTn (cx.an 4)) rfl
    · refine svA fun ρ β W X cx => ?_
      exact dv_store (n := 7) rfl (cx.ou 5) (dTn (cx.an 5)) (by kernel_rfl) (by kernel_rfl) (by kernel_rfl) cx (cx.init 2 _ rfl) rfl (nle rfl) (by kernel_rfl) rfl rfl rfl (fun σ β' X' hs hb hx => by rw [hb 61]; exact hx)
  intro σ β X W37 hD hst37 fr hfr
  obtain ⟨pg61_37, hu_pg61_37⟩ : ∃ z, iv (tg (tg (β 61) 0) 0) = z := ⟨_, rfl⟩
  simp only [exq 3 ((dTn (hD 7 lq))), hu_pg61_37] at hst37
  simp only [ed 61 ((dTn (hD 3 lq))), ed 57 ((dTn (hD 4 lq))), ed 62 ((dTn (hD 5 lq))), hu_pg61_37] at hfr
  clear hD hu_pg61_37; subst hfr; clear σ β X
  refine then_normal (wp_seq (sqr (sqp [.k 64 (.bool false), .k 65 (.bool true), .k 66 (.bool true)] ?_)))
  refine sqgn 66 [67, 68, 69, 70] rfl rfl ?_
  refine sqp [.k 71 (.bool true)] ?_
  refine then_normal (wct rfl (wp_ret (blk_ret (then_ret (then_ret (blk_ret ?_))))))
  refine bpr (.tuple #[]) (by simp [results, Try.results99, go_sem]) ?_
  exact ⟨⟨_, rfl⟩, C2, _, _, hst37.pick [0, 1] (by decide) rfl, EA11_3, ec11_3, rfl, rfl⟩
theorem krow_seq {b1 b2 b3 : Nat} {tt : TypeId} {tv : Value} {root lv : Int} {ps : List PgS} {nd : NoD} {w0 : World} (h1 : Blk w0 b1 113 #[.iface tt tv]) (h2 : Blk w0 b2 3 #[.int .i64 root]) (h3 : Blk w0 b3 3 #[.int .i64 lv]) (hS : PgsOk w0 tt tv ps) (hok : OkS ps) (hoc : OkC ps) (hnd : ndAt ps root = some nd) (hlv : nd.lv = lv) (hno : ndAt ps nd.right = none) :
    SeqF Try.prog 99 #[.pointer (some ⟨b1, 0, none⟩), .pointer (some ⟨b2, 0, none⟩), .pointer (some ⟨b3, 0, none⟩)] ynE 1 (OneZ root nd) w0 := fun l J W C0 hx hloc hC0 hJ0 hY =>
  callsIn_wide.2 (krow1_in l b1 b2 b3 tt tv root lv ps nd w0 J C0 W (fun A hA => (Upd.join (Upd.of_ext (S := []) hx) hA (fun i hi => .inr (hC0 i hi).1)).to_ext) h1 h2 h3 hS hok hoc hnd hlv hno hloc (fun k hk => (hC0 k hk).2) hJ0 hY)
end
end Go.Proofs.Ytjlcoglmjldjbaa

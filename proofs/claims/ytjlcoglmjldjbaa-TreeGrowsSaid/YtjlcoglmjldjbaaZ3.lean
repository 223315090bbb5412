/- TreeGrowsRow: part 3 of the proof. -/
import Derived.Test.YtjlcoglmjldjbaaZ2

set_option linter.unusedVariables false
set_option linter.unusedSimpArgs false
namespace Go.Proofs.Ytjlcoglmjldjbaa
section
open Go.RowKit
set_option linter.unusedVariables false
set_option linter.unusedSimpArgs false
def iv : Value → Int
  | .int _ n => n
  | _ => 0
/-- a page as it lies in a row of pages -/
structure PgT where
  k : Int
  l : Int
  A : Option Addr
  c : Nat
  its : List ByteArray
def pt0 : PgT := ⟨0, 0, none, 0, []⟩
def ptC (p : PgT) : List Value := [.int .i64 p.k, .int .i64 p.l, .slice p.A p.its.length p.c]
theorem ptC_len (p : PgT) : (ptC p).length = 3 := rfl
def abT (p : PgT) : PgS := (p.k, p.l, p.its)
structure BkO (W : World) (b : Nat) (LA : Option Addr) (lc n : Nat) (Ps : List PgT) : Prop where
  blk : Blk W b 64 #[.slice LA n lc]
  at_ : At W LA (Ps.flatMap ptC)
  len : Ps.length = n
  its : ∀ p ∈ Ps, At W p.A (p.its.map Value.string)
def BkAt (W : World) (b : Nat) (ps : List PgS) : Prop := ∃ LA lc Ps, Ps.map abT = ps ∧ BkO W b LA lc ps.length Ps
theorem BkO.ext {W W' : World} {b lc n : Nat} {LA : Option Addr} {Ps : List PgT} (h : BkO W b LA lc n Ps) (hx : Ext W W') : BkO W' b LA lc n Ps := ⟨h.blk.ext hx, h.at_.ext hx, h.len, fun p hp => (h.its p hp).ext hx⟩
/-- sizes: of lists and strings; entries in a page -/
structure OkS (ps : List PgS) : Prop where
  len : ps.length ≤ 1000
  its : ∀ p ∈ ps, p.2.2.length ≤ 101
  sz : ∀ p ∈ ps, ∀ s ∈ p.2.2, s.size ≤ 900000
def OkC (ps : List PgS) : Prop := ∀ p ∈ ps, (rawE 1 p.2.2.tail).length ≤ 19
/-- what Page answers -/
def pgV (ps : List PgS) (n : Int) : PgS := if 0 ≤ n ∧ n < ps.length then ps.getD n.toNat pgs0 else pgs0
def pgB (ps : List PgS) (n : Int) : Bool := decide (0 ≤ n ∧ n < ps.length)
def pgT (ps : List PgS) (n : Int) (A : Option Addr) (c : Nat) : Value := .tuple #[.agg #[.int .i64 (pgV ps n).1, .int .i64 (pgV ps n).2.1, .slice A (pgV ps n).2.2.length c], .bool (pgB ps n)]
def pgR (Ps : List PgT) (n : Int) : PgT := if 0 ≤ n ∧ n < Ps.length then Ps.getD n.toNat pt0 else pt0
theorem getD_mem' {α : Type} {l : List α} {n : Nat} {d : α} (h : n < l.length) : l[n]? = some (l.getD n d) ∧ l.getD n d ∈ l := by
  rw [List.getD_eq_getElem?_getD, List.getElem?_eq_getElem h]
  exact ⟨rfl, List.getElem_mem _⟩
theorem getD_abT (Ps : List PgT) (n : Nat) : (Ps.map abT).getD n pgs0 = abT (Ps.getD n pt0) := by
  rw [List.getD_eq_getElem?_getD, List.getD_eq_getElem?_getD, List.getElem?_map]
  cases Ps[n]? <;> rfl
theorem pgV_ok {ps : List PgS} (h : OkS ps) (n : Int) : (pgV ps n).2.2.length ≤ 101 ∧ ∀ s ∈ (pgV ps n).2.2, s.size ≤ 900000 := by
  unfold pgV
  split
  · rename_i hn
    have h1 := (getD_mem' (l := ps) (n := n.toNat) (d := pgs0) (by omega)).2
    exact ⟨h.its _ h1, h.sz _ h1⟩
  · exact ⟨by decide, fun s hs => nomatch hs⟩
theorem pgV_c {ps : List PgS} (h : OkC ps) (n : Int) : (rawE 1 (pgV ps n).2.2.tail).length ≤ 19 := by
  unfold pgV
  split
  · rename_i hn
    exact h _ (getD_mem' (l := ps) (n := n.toNat) (d := pgs0) (by omega)).2
  · exact Nat.zero_le _
theorem ndAt_pg (ps : List PgS) (n : Int) : ndAt ps n = if pgB ps n then nodF (pgV ps n).1 (pgV ps n).2.2 else none := by
  unfold ndAt pgB pgV
  by_cases h : 0 ≤ n ∧ n < ps.length
  · rw [if_pos h, if_pos h, if_pos (decide_eq_true h)]
  · rw [if_neg h, if_neg (by simpa using h)]
/-- what a value behind api.Pages answers -/
structure PgsOk (w : World) (tt : TypeId) (tv : Value) (ps : List PgS) : Prop where
  ex : ∃ f rv, Meth Try.prog tt tv "Page" f rv ∧ callP Try.prog f = true ∧ ∀ n, ∃ A c, At w A ((pgV ps n).2.2.map Value.string) ∧ ∀ W, Ext w W → Calls Try.prog f #[rv, .int .i64 n] W (Ret (pgT ps n A c) W)
theorem PgsOk.ext {w W : World} {tt : TypeId} {tv : Value} {ps : List PgS} (h : PgsOk w tt tv ps) (hx : Ext w W) : PgsOk W tt tv ps := by
  obtain ⟨f, rv, h1, h2, h3⟩ := h.ex
  exact ⟨⟨f, rv, h1, h2, fun n => let ⟨A, c, h4, h5⟩ := h3 n; ⟨A, c, h4.ext hx, fun W' hx' => h5 W' (hx.trans hx')⟩⟩⟩
theorem nd_no {f : FuncId} {args : Array Value} {w : World} {o : Option NoD} (h : o = none) (hc : Calls Try.prog f args w (NdPost o w)) : Calls Try.prog f args w (Ret nd0 w) := by subst h; exact hc
theorem nd_yes {f : FuncId} {args : Array Value} {w : World} {o : Option NoD} {n : NoD} (h : o = some n) (hc : Calls Try.prog f args w (NdPost o w)) : Calls Try.prog f args w (NdPost (some n) w) := h ▸ hc
theorem kd_no {f : FuncId} {args : Array Value} {w : World} {pg : Int} {o : Option NoD} (h : o = none) (hc : Calls Try.prog f args w (KdPost pg o w)) : Calls Try.prog f args w (KdPost pg none w) := h ▸ hc
theorem kd_yes {f : FuncId} {args : Array Value} {w : World} {pg : Int} {o : Option NoD} {n : NoD} (h : o = some n) (hc : Calls Try.prog f args w (KdPost pg o w)) : Calls Try.prog f args w (KdPost pg (some n) w) := h ▸ hc
theorem pg_none {Ps : List PgT} {x : Int} (h : x < 0 ∨ Ps.length ≤ x) : pgT (Ps.map abT) x (pgR Ps x).A (pgR Ps x).c = .tuple #[.agg #[.int .i64 0, .int .i64 0, .slice none 0 0], .bool false] := by
  have e1 : pgV (Ps.map abT) x = pgs0 := by rw [pgV, if_neg (by rw [List.length_map]; omega)]
  have e2 : pgB (Ps.map abT) x = false := decide_eq_false (by rw [List.length_map]; omega)
  have e3 : pgR Ps x = pt0 := by rw [pgR, if_neg (by omega)]
  rw [pgT, e1, e2, e3]; rfl
theorem pg_at {Ps : List PgT} {N : Nat} {p : PgT} (h : N < Ps.length) (hp : Ps.getD N pt0 = p) : pgV (Ps.map abT) (N : Int) = abT p ∧ pgR Ps (N : Int) = p := by
  refine ⟨?_, by rw [pgR, if_pos (by omega)]; exact hp⟩
  rw [pgV, if_pos (by rw [List.length_map]; omega)]
  show (Ps.map abT).getD N pgs0 = _
  rw [getD_abT, hp]
theorem pg_some {Ps : List PgT} {N : Nat} {p : PgT} (h : N < Ps.length) (hp : Ps.getD N pt0 = p) : pgT (Ps.map abT) (N : Int) (pgR Ps (N : Int)).A (pgR Ps (N : Int)).c = .tuple #[.agg #[.int .i64 p.k, .int .i64 p.l, .slice p.A p.its.length p.c], .bool true] := by
  have e2 : pgB (Ps.map abT) (N : Int) = true := decide_eq_true (by rw [List.length_map]; omega)
  obtain ⟨e1, e3⟩ := pg_at h hp
  rw [pgT, e1, e2, e3]; rfl
set_option maxRecDepth 100000 in
set_option maxHeartbeats 2000000 in
theorem rpage_o (b : Nat) (LA : Option Addr) (lc n : Nat) (Ps : List PgT) (ps : List PgS) (x : Int) (w : World) (hB : BkO w b LA lc n Ps) (hps : Ps.map abT = ps) (hl : n ≤ 1000) :
    Calls Try.prog 58 #[.pointer (some ⟨b, 0, none⟩), .int .i64 x] w (Ret (pgT ps x (pgR Ps x).A (pgR Ps x).c) w) := by
  have hPl := hB.len
  go_enter Try.func58, Try.ntmps58
  have hst0 := St.start w
  refine wp_seq (sqr (sqal #[vi 0, vi 0, .slice none 0 0] hst0 fun B4_1 W1 hst1 => ?_))
  refine sqp [.k 5 (.bool false)] ?_
  refine then_normal (wp_seq (wp_seq (sqr (sqp [.m 6 1, .k 7 (.bool (decide (x < 0))), .m 8 7] ?_))))
  refine sqw' 8 [9, 10, 11, 12, 13, 14, 15] ?_ rfl (fun hq => ?_) ?_
  rotate_left
  · refine sqp [.m 9 1, .m 10 0, .k 11 (vp b), .k 12 (vp b)] ?_
    refine sql (.slice LA n lc) hst1 (fun cx => run_load1 rfl (by kernel_rfl) (cx.ou 12) ((Blk.ext hB.blk cx.upd.to_ext).cell 0)) ?_
    refine sqp [.k 14 (vi ((n : Int))), .k 15 (.bool (decide ((n : Int) ≤ x)))] ?_
    exact sqe
  refine sqwx ?_
  refine sqp [sPo 16 (decide (x < 0)) (decide ((n : Int) ≤ x))] ?_
  refine then_normal (wbs (fun hs14 => ?_) fun hs14 => ?_)
  · have hs14p := hs14
    simp only [zB] at hs14p
    refine wp_seq (sqr (sqp [.k 17 (.agg #[vi 0, vi 0, .slice none 0 0])] ?_))
    refine sqst (n := 3) 0 #[vi 0, vi 0, .slice none 0 0] hst1 fun W16 hst16 => ?_
    refine sqp [.k 5 (.bool false)] ?_
    refine then_normal (wp_ret (then_ret ?_))
    refine bpr (.tuple #[.agg #[vi 0, vi 0, .slice none 0 0], .bool false]) (results_2 Try.results58 (rpa (hst16.blk 0 rfl) 0 3) rpt) ?_
    exact Ret.of (by rw [← hps, pg_none (Ps := Ps) (x := x) (by omega)]) hst16.ext
  have hs14p := hs14
  simp only [zB] at hs14p
  obtain ⟨hs14p1, hs14p2⟩ := hs14p
  refine wp_skip (then_normal (wp_seq ?_))
  obtain ⟨N, rfl⟩ : ∃ N : Nat, x = (N : Int) := ⟨x.toNat, by omega⟩
  obtain ⟨p, hN_p⟩ : ∃ z, Ps.getD N pt0 = z := ⟨_, rfl⟩
  have hp := getD_mem' (l := Ps) (n := N) (d := pt0) (by omega)
  rw [hN_p] at hp
  refine sqr (sqp [.m 18 0, .k 19 (vp b), .k 20 (vp b)] ?_)
  refine sql (.slice LA n lc) hst1 (fun cx => run_load1 rfl (by kernel_rfl) (cx.ou 20) ((Blk.ext hB.blk cx.upd.to_ext).cell 0)) ?_
  refine sqp [.m 22 1] ?_
  refine sql (.pointer (some ((ad LA).add (N * 3)))) hst1 (fun cx => run_indexSlM (e := 51) (m := N) (sz := 3) rfl (by kernel_rfl) (by kernel_rfl) (cx.ou 21) (cx.ou 22) (by omega) (by omega) (hB.at_.ext cx.upd.to_ext) (flatPos (sz := 3) ptC_len (by decide) (by omega))) ?_
  refine sql (.agg #[vi p.k, vi p.l, .slice p.A p.its.length p.c]) hst1 (fun cx => run_loadElt (f := ptC) (m := N) (sz := 3) (off := 0) (n := 3) rfl (by kernel_rfl) (by kernel_rfl) (cx.ou 23) rfl ptC_len (hB.at_.ext cx.upd.to_ext) hp.1 (fun k hk => match k, hk with | 0, _ => rfl | 1, _ => rfl | 2, _ => rfl | k + 3, hk => absurd hk (by omega))) ?_
  refine sqst (n := 3) 0 #[vi p.k, vi p.l, .slice p.A p.its.length p.c] hst1 fun W25 hst25 => ?_
  refine sqp [.k 5 (.bool true)] ?_
  refine then_normal (wp_ret ?_)
  refine bpr (.tuple #[.agg #[vi p.k, vi p.l, .slice p.A p.its.length p.c], .bool true]) (results_2 Try.results58 (rpa (hst25.blk 0 rfl) 0 3) rpt) ?_
  exact Ret.of (by rw [← hps, pg_some (by omega) hN_p]) hst25.ext
theorem rpage_any (b : Nat) (ps : List PgS) (x : Int) (w : World) (hB : BkAt w b ps) (hl : ps.length ≤ 1000) : ∃ A c, At w A ((pgV ps x).2.2.map Value.string) ∧ ∀ W, Ext w W → Calls Try.prog 58 #[.pointer (some ⟨b, 0, none⟩), .int .i64 x] W (Ret (pgT ps x A c) W) := by
  obtain ⟨LA, lc, Ps, h1, h2⟩ := hB
  refine ⟨(pgR Ps x).A, (pgR Ps x).c, ?_, fun W hW => rpage_o b LA lc _ Ps ps x W (h2.ext hW) h1 hl⟩
  by_cases h : 0 ≤ x ∧ x < Ps.length
  · obtain ⟨N, rfl⟩ : ∃ N : Nat, x = (N : Int) := ⟨x.toNat, by omega⟩
    obtain ⟨e1, e3⟩ := pg_at (Ps := Ps) (N := N) (by omega) rfl
    rw [← h1, e1, e3]
    exact h2.its _ (getD_mem' (by omega)).2
  · have e1 : pgV ps x = pgs0 := by rw [← h1, pgV, if_neg (by rw [List.length_map]; exact h)]
    rw [e1]; exact At.nil _ _
set_option maxRecDepth 100000 in
set_option maxHeartbeats 2000000 in
theorem rat_any (b : Nat) (ps : List PgS) (x : Int) (w : World) (hB : BkAt w b ps) (hok : OkS ps) :
    Calls Try.prog 55 #[.pointer (some ⟨b, 0, none⟩), .int .i64 x] w (NdPost (ndAt ps x) w) := by
  have hvk := pgV_ok hok x
  obtain ⟨A, c, hA, hc0⟩ := rpage_any b ps x w hB hok.len
  go_enter Try.func55, Try.ntmps55
  have hst0 := St.start w
  refine wp_seq (sqr (sqal #[.bool false, .bool false, vi 0, vi 0, .string ByteArray.empty, .slice none 0 0, .slice none 0 0, .slice none 0 0] hst0 fun B4_1 W1 hst1 => ?_))
  refine then_normal (wp_seq (sqr (sqp [.m 8 0, .m 9 1] ?_)))
  refine sqk (.tuple #[.agg #[vi ((pgV ps x).1), vi ((pgV ps x).2.1), .slice A ((pgV ps x).2.2.length) c], .bool (pgB ps x)]) hst1 (fun cx => ⟨_, hc0 _ cx.upd.to_ext, (map2 (cx.ou 8) (cx.ou 9))⟩) fun W4 hst4 => ?_
  refine sqp [.m 7 10, .k 11 (.agg #[vi ((pgV ps x).1), vi ((pgV ps x).2.1), .slice A ((pgV ps x).2.2.length) c]), .k 12 (.bool (pgB ps x))] ?_
  refine sqal #[vi 0, vi 0, .slice none 0 0] hst4 fun B5_8 W8 hst8 => ?_
  refine sqst (n := 3) 1 #[vi ((pgV ps x).1), vi ((pgV ps x).2.1), .slice A ((pgV ps x).2.2.length) c] hst8 fun W9 hst9 => ?_
  refine sqp [.m 6 12] ?_
  refine then_normal (wp_seq (wp_seq (sqr (sqp [.m 13 6, .k 14 (.bool (!(pgB ps x)))] ?_))))
  refine then_normal ?_
  rcases Bool.eq_false_or_eq_true (pgB ps x) with hs13 | hs13
  · refine wp_cond_false (show Act.eval _ _ = .bool false from (congrArg Value.bool (by rw [hs13]; rfl))) (wp_skip (then_normal (wp_seq ?_)))
    rcases hnd : nodF (pgV ps x).1 (pgV ps x).2.2 with _ | nd
    · refine sqr ?_
      refine sqlb 1 3 hst9 ?_
      refine sqk (.agg #[.bool false, .bool false, vi 0, vi 0, .string ((⟨#[]⟩ : ByteArray)), .slice none 0 0, .slice none 0 0, .slice none 0 0]) hst9 (fun cx => ⟨_, nd_no hnd (rread_any _ _ _ _ _ _ (hA.ext cx.upd.to_ext) (Nat.le_trans hvk.1 (by decide)) (fun s hs => Nat.le_trans (hvk.2 s hs) (by decide))), (map1 (cx.ou 16))⟩) fun W15 hst15 => ?_
      refine sqst (n := 8) 0 #[.bool false, .bool false, vi 0, vi 0, .string ((⟨#[]⟩ : ByteArray)), .slice none 0 0, .slice none 0 0, .slice none 0 0] hst15 fun W16 hst16 => ?_
      refine then_normal (wp_ret ?_)
      refine bpr (.agg #[.bool false, .bool false, vi 0, vi 0, .string ((⟨#[]⟩ : ByteArray)), .slice none 0 0, .slice none 0 0, .slice none 0 0]) (results_cell (n := 8) Try.results55 rfl (by kernel_rfl) (by kernel_rfl) (hst16.blk 0 rfl) rfl) ?_
      exact rd_none (by rw [ndAt_pg, hs13]; exact hnd) hst16.ext
    · refine wp_region_Y [0, 1, 3] [[1], [], [0]] [[], [2, 3, 4], [5]] [[], [], [0]] [.c 16 (.agg #[vi ((pgV ps x).1), vi ((pgV ps x).2.1), .slice A ((pgV ps x).2.2.length) c]), .a 17, .n] (fun ix σ β X => match ix with | 0 => True | 1 => σ 17 = .agg #[.bool true, .bool nd.dead, vi nd.lv, vi nd.right, .string nd.high, .slice (sA (tg (β 17) 5)) nd.es.length (sC (tg (β 17) 5)), .slice (sA (tg (β 17) 6)) nd.es.length (sC (tg (β 17) 6)), .slice (sA (tg (β 17) 7)) nd.es.length (sC (tg (β 17) 7))] ∧ X 2 = eO 9 1 (.slice (sA (tg (β 17) 5)) nd.es.length (sC (tg (β 17) 5))) nd.es.length (nd.es.map stv) ∧ X 3 = eO 3 1 (.slice (sA (tg (β 17) 6)) nd.es.length (sC (tg (β 17) 6))) nd.es.length (nd.es.map slv) ∧ X 4 = eO 3 1 (.slice (sA (tg (β 17) 7)) nd.es.length (sC (tg (β 17) 7))) nd.es.length (nd.es.map kdv) | 2 => X 5 = eB B4_1 66 #[.bool true, .bool nd.dead, vi nd.lv, vi nd.right, .string nd.high, .slice (sA (tg (β 17) 5)) nd.es.length (sC (tg (β 17) 5)), .slice (sA (tg (β 17) 6)) nd.es.length (sC (tg (β 17) 6)), .slice (sA (tg (β 17) 7)) nd.es.length (sC (tg (β 17) 7))] | _ => True) [1, 2, 3, 4, 5] [0, 1, 2] [(16, 0, 2, 18)] hst9 ?_ ?_ ?_
      · exact fun ix _ _ _ _ _ _ hs hb hx h => match ix, h with
        | 1, h => by dsimp only; rw [← hs 17 rfl, ← hb 17 rfl, ← hx 2 rfl, ← hx 3 rfl, ← hx 4 rfl]; exact h
        | 2, h => by dsimp only; rw [← hb 17 rfl, ← hx 5 rfl]; exact h
        | 0, _ | _ + 3, _ => trivial
      · refine ⟨?_, ?_, ?_, trivial⟩
        · exact xs4 rfl id fun cx => run_loadB (n := 3) rfl (by kernel_rfl) (by kernel_rfl) (cx.ou 5) (cx.bi 1 rfl) (nle rfl) rfl
        · refine svA fun ρ β W X cx => ?_
          refine DoesU.call (run_callF (args := #[.agg #[vi ((pgV ps x).1), vi ((pgV ps x).2.1), .slice A ((pgV ps x).2.2.length) c]]) rfl cx.sees rfl (by kernel_rfl) (map1 (cx.an 0))) ?_
          refine (nd_yes hnd (rread_any _ _ _ _ _ _ (hA.ext cx.upd.to_ext) (Nat.le_trans hvk.1 (by decide)) (fun s hs => Nat.le_trans (hvk.2 s hs) (by decide)))).mono ?_
          rintro e W1 ⟨EA4, ec4, SA4, sc4, KA4, kc4, rfl, hs4⟩
          refine ⟨_, rfl, post_st [eO 9 1 (.slice EA4 nd.es.length ec4) nd.es.length (nd.es.map stv), eO 3 1 (.slice SA4 nd.es.length sc4) nd.es.length (nd.es.map slv), eO 3 1 (.slice KA4 nd.es.length kc4) nd.es.length (nd.es.map kdv)] rfl rfl hs4 (fun σ β' X' hs hb hv hN => ?_)⟩
          have hv1 := (hv 17 rfl).1; have hv2 := (hv 17 rfl).2
          exact ⟨hv1.trans (by rw [hv2]; rfl), (by rw [hv2]; exact (List.cons.inj hN).1), (by rw [hv2]; exact (List.cons.inj (List.cons.inj hN).2).1), (by rw [hv2]; exact (List.cons.inj (List.cons.inj (List.cons.inj hN).2).2).1)⟩
        · refine svA fun ρ β W X cx => ?_
          exact dv_store (n := 8) rfl (cx.ou 4) (dTn (cx.an 1)).1 (by kernel_rfl) (by kernel_rfl) (by kernel_rfl) cx (cx.init 0 _ rfl) rfl (nle rfl) (by kernel_rfl) rfl rfl rfl (fun σ β' X' hs hb hx => by rw [hb 17]; exact hx)
      intro σ β X W17 hD hst17 fr hfr
      obtain ⟨EA17_17, hu_EA17_17⟩ : ∃ z, sA (tg (β 17) 5) = z := ⟨_, rfl⟩
      obtain ⟨cEA17_17, hu_cEA17_17⟩ : ∃ z, sC (tg (β 17) 5) = z := ⟨_, rfl⟩
      obtain ⟨SA17_17, hu_SA17_17⟩ : ∃ z, sA (tg (β 17) 6) = z := ⟨_, rfl⟩
      obtain ⟨cSA17_17, hu_cSA17_17⟩ : ∃ z, sC (tg (β 17) 6) = z := ⟨_, rfl⟩
      obtain ⟨KA17_17, hu_KA17_17⟩ : ∃ z, sA (tg (β 17) 7) = z := ⟨_, rfl⟩
      obtain ⟨cKA17_17, hu_cKA17_17⟩ : ∃ z, sC (tg (β 17) 7) = z := ⟨_, rfl⟩
      simp only [exq 2 ((dTn (hD 1 lq)).2.1), exq 3 ((dTn (hD 1 lq)).2.2.1), exq 4 ((dTn (hD 1 lq)).2.2.2), exq 5 ((dTn (hD 2 lq))), hu_EA17_17, hu_cEA17_17, hu_SA17_17, hu_cSA17_17, hu_KA17_17, hu_cKA17_17] at hst17
      simp only [ed 17 ((dTn (hD 1 lq)).1), hu_EA17_17, hu_cEA17_17, hu_SA17_17, hu_cSA17_17, hu_KA17_17, hu_cKA17_17] at hfr
      clear hD hu_EA17_17 hu_cEA17_17 hu_SA17_17 hu_cSA17_17 hu_KA17_17 hu_cKA17_17; subst hfr; clear σ β X
      refine then_normal (wp_ret ?_)
      refine bpr (.agg #[.bool true, .bool nd.dead, vi nd.lv, vi nd.right, .string nd.high, .slice EA17_17 nd.es.length cEA17_17, .slice SA17_17 nd.es.length cSA17_17, .slice KA17_17 nd.es.length cKA17_17]) (results_cell (n := 8) Try.results55 rfl (by kernel_rfl) (by kernel_rfl) (hst17.blk 4 rfl) rfl) ?_
      rw [ndAt_pg, hs13, if_pos rfl, hnd]
      exact ⟨_, _, _, _, _, _, rfl, hst17.pick [1, 2, 3] (by decide) rfl⟩
  refine wp_cond_true (show Act.eval _ _ = .bool true from (congrArg Value.bool (by rw [hs13]; rfl))) (wp_seq (sqr (sqp [.k 15 (.agg #[.bool false, .bool false, vi 0, vi 0, .string ByteArray.empty, .slice none 0 0, .slice none 0 0, .slice none 0 0])] ?_)))
  refine sqst (n := 8) 0 #[.bool false, .bool false, vi 0, vi 0, .string ByteArray.empty, .slice none 0 0, .slice none 0 0, .slice none 0 0] hst9 fun W19 hst19 => ?_
  refine then_normal (wp_ret (then_ret ?_))
  refine bpr (.agg #[.bool false, .bool false, vi 0, vi 0, .string ByteArray.empty, .slice none 0 0, .slice none 0 0, .slice none 0 0]) (results_cell (n := 8) Try.results55 rfl (by kernel_rfl) (by kernel_rfl) (hst19.blk 0 rfl) rfl) ?_
  exact rd_none (by rw [ndAt_pg, hs13]; rfl) hst19.ext
set_option maxRecDepth 100000 in
set_option maxHeartbeats 2000000 in
theorem kat_any (tt : TypeId) (tv : Value) (ps : List PgS) (x : Int) (w : World) (hS : PgsOk w tt tv ps) (hok : OkS ps) (hoc : OkC ps) :
    Calls Try.prog 47 #[.iface tt (tv), .int .i64 x] w (KdPost x (ndAt ps x) w) := by
  have hvk := pgV_ok hok x
  have hvc := pgV_c hoc x
  obtain ⟨f0, rv, hm0, hf0, hc1⟩ := hS.ex
  obtain ⟨A, c, hA, hc0⟩ := hc1 x
  go_enter Try.func47, Try.ntmps47
  have hst0 := St.start w
  refine wp_seq (sqr (sqal #[vi 0, vi 0, vi 0, .string ByteArray.empty, .bool false, .slice none 0 0, vi 0] hst0 fun B4_1 W1 hst1 => ?_))
  refine sqp [.k 5 (.bool false)] ?_
  refine then_normal (wp_seq (sqr (sqp [.m 10 0, .m 11 1] ?_)))
  refine sqv (.tuple #[.agg #[vi ((pgV ps x).1), vi ((pgV ps x).2.1), .slice A ((pgV ps x).2.2.length) c], .bool (pgB ps x)]) hst1 (sv_call rfl rfl rfl rfl rfl (fun _ _ _ h => h) fun ρ β W X cx => ⟨_, _, run_invoke (args := #[vi x]) (args' := #[rv, vi x]) rfl rfl (cx.ou 10) hm0 hf0 (map1 (cx.ou 11)) rfl, hc0 _ cx.upd.to_ext⟩) fun W5 hst5 => ?_
  refine sqp [.m 9 12, .k 13 (.agg #[vi ((pgV ps x).1), vi ((pgV ps x).2.1), .slice A ((pgV ps x).2.2.length) c]), .k 14 (.bool (pgB ps x))] ?_
  refine sqal #[vi 0, vi 0, .slice none 0 0] hst5 fun B6_9 W9 hst9 => ?_
  refine sqst (n := 3) 1 #[vi ((pgV ps x).1), vi ((pgV ps x).2.1), .slice A ((pgV ps x).2.2.length) c] hst9 fun W10 hst10 => ?_
  refine sqp [.m 7 14] ?_
  refine then_normal (wp_seq (wp_seq (sqr (sqp [.m 15 7, .k 16 (.bool (!(pgB ps x)))] ?_))))
  refine then_normal ?_
  rcases Bool.eq_false_or_eq_true (pgB ps x) with hs14 | hs14
  · refine wp_cond_false (show Act.eval _ _ = .bool false from (congrArg Value.bool (by rw [hs14]; rfl))) (wp_skip (then_normal (wp_seq ?_)))
    rcases hnd : nodF (pgV ps x).1 (pgV ps x).2.2 with _ | nd
    · refine wp_region_Y [0, 1, 3, 7, 7, 0, 47, 127] [[1], [], [], [], [], [], [2]] [[], [], [], [], [], [2], [3]] [[], [], [], [], [], [], [2]] [.c 19 (.agg #[vi ((pgV ps x).1), vi ((pgV ps x).2.1), .slice A ((pgV ps x).2.2.length) c]), .a 20, .a 18, .a 21, .c 22 (.bool false), .a 8, .n, .k 7 (.bool false)] (fun ix σ β X => match ix with | 0 => True | 1 => σ 20 = .tuple #[.agg #[vi (iv (tg (tg (β 20) 0) 0)), vi 0, vi 0, .string ((⟨#[]⟩ : ByteArray)), .bool false, .slice none 0 0, vi 0], .bool false] | 2 => σ 18 = .tuple #[.agg #[vi (iv (tg (tg (β 20) 0) 0)), vi 0, vi 0, .string ((⟨#[]⟩ : ByteArray)), .bool false, .slice none 0 0, vi 0], .bool false] | 3 => σ 21 = .agg #[vi (iv (tg (tg (β 20) 0) 0)), vi 0, vi 0, .string ((⟨#[]⟩ : ByteArray)), .bool false, .slice none 0 0, vi 0] | 4 => True | 5 => σ 8 = vp (pb (β 8)) ∧ X 2 = eB (pb (β 8)) 116 #[vi 0, vi 0, vi 0, .string ByteArray.empty, .bool false, .slice none 0 0, vi 0] | 6 => X 3 = eB (pb (β 8)) 116 #[vi (iv (tg (tg (β 20) 0) 0)), vi 0, vi 0, .string ((⟨#[]⟩ : ByteArray)), .bool false, .slice none 0 0, vi 0] | _ => True) [0, 1, 3] [0, 1, 2, 3, 4, 5, 6] [(7, 7, 1, 8), (0, 5, 1, 1), (9, 2, 1, 10), (0, 0, 2, 2), (0, 3, 2, 2)] hst10 ?_ ?_ ?_
      · exact fun ix _ _ _ _ _ _ hs hb hx h => match ix, h with
        | 1, h => by dsimp only; rw [← hs 20 rfl, ← hb 20 rfl]; exact h
        | 2, h => by dsimp only; rw [← hs 18 rfl, ← hb 20 rfl]; exact h
        | 3, h => by dsimp only; rw [← hs 21 rfl, ← hb 20 rfl]; exact h
        | 5, h => by dsimp only; rw [← hs 8 rfl, ← hb 8 rfl, ← hx 2 rfl]; exact h
        | 6, h => by dsimp only; rw [← hb 8 rfl, ← hb 20 rfl, ← hx 3 rfl]; exact h
        | 0, _ | 4, _ | _ + 7, _ => trivial
      · refine ⟨?_, ?_, ?_, ?_, ?_, ?_, ?_, trivial⟩
        · exact xs4 rfl id fun cx => run_loadB (n := 3) rfl (by kernel_rfl) (by kernel_rfl) (cx.ou 6) (cx.bi 1 rfl) (nle rfl) rfl
        · refine svA fun ρ β W X cx => ?_
          refine DoesU.call (run_callF (args := #[.agg #[vi ((pgV ps x).1), vi ((pgV ps x).2.1), .slice A ((pgV ps x).2.2.length) c]]) rfl cx.sees rfl (by kernel_rfl) (map1 (cx.an 0))) ?_
          refine (kd_no hnd (kread_any _ _ _ _ _ _ (hA.ext cx.upd.to_ext) (Nat.le_trans hvk.1 (by decide)) (fun s hs => Nat.le_trans (hvk.2 s hs) (by decide)) hvc)).mono ?_
          rintro e W1 ⟨p4, rfl, hx⟩
          refine ⟨_, rfl, post_call [] rfl rfl hx (by simp) List.Pairwise.nil (fun σ β' X' hs hb hv hN => ?_)⟩
          have hv1 := (hv 20 rfl).1; have hv2 := (hv 20 rfl).2
          exact hv1.trans (by rw [hv2]; rfl)
        · exact sv rfl rfl rfl rfl rfl _ (fun _ _ _ h => h) (fun β β' h => by rw [h 20 (by decide)]) fun ρ β W X cx => run_move' rfl (dTn (cx.an 1))
        · exact sv rfl rfl rfl rfl rfl _ (fun _ _ _ h => h) (fun β β' h => by rw [h 20 (by decide)]) fun ρ β W X cx => run_extract' rfl (dTn (cx.an 2)) rfl
        · exact xs4 rfl id fun cx => run_extract' rfl (dTn (cx.an 2)) rfl
        · refine svA fun ρ β W X cx => ?_
          exact dv_alloc (cs := #[vi 0, vi 0, vi 0, .string ByteArray.empty, .bool false, .slice none 0 0, vi 0]) rfl (by kernel_rfl) rfl rfl (fun σ β' X' hs hb hv hx => ⟨hv, hx⟩)
        · refine svA fun ρ β W X cx => ?_
          exact dv_store (n := 7) rfl (dTn (cx.an 5)).1 (dTn (cx.an 3)) (by kernel_rfl) (by kernel_rfl) (by kernel_rfl) cx (dTn (cx.an 5)).2 rfl (nle rfl) (by kernel_rfl) rfl rfl rfl (fun σ β' X' hs hb hx => by rw [hb 8, hb 20]; exact hx)
      intro σ β X W15 hD hst15 fr hfr
      obtain ⟨pg20_15, hu_pg20_15⟩ : ∃ z, iv (tg (tg (β 20) 0) 0) = z := ⟨_, rfl⟩
      obtain ⟨B8_15, hu_B8_15⟩ : ∃ z, pb (β 8) = z := ⟨_, rfl⟩
      simp only [exq 3 ((dTn (hD 6 lq))), hu_pg20_15, hu_B8_15] at hst15
      simp only [ed 20 ((dTn (hD 1 lq))), ed 18 ((dTn (hD 2 lq))), ed 21 ((dTn (hD 3 lq))), ed 8 ((dTn (hD 5 lq)).1), hu_pg20_15, hu_B8_15] at hfr
      clear hD hu_pg20_15 hu_B8_15; subst hfr; clear σ β X
      refine then_normal (wp_seq (sqr (sqp [.m 23 1, .k 24 (vp B8_15)] ?_)))
      refine sqst (n := 1) 2 #[vi x, vi 0, vi 0, .string ((⟨#[]⟩ : ByteArray)), .bool false, .slice none 0 0, vi 0] hst15 fun W18 hst18 => ?_
      refine then_normal (wp_seq (sqr ?_))
      refine sqlb 2 7 hst18 ?_
      refine sqp [.k 26 (.bool false)] ?_
      refine sqst (n := 7) 0 #[vi x, vi 0, vi 0, .string ((⟨#[]⟩ : ByteArray)), .bool false, .slice none 0 0, vi 0] hst18 fun W21 hst21 => ?_
      refine sqp [.k 5 (.bool false)] ?_
      refine then_normal (wp_ret ?_)
      refine bpr (.tuple #[.agg #[vi x, vi 0, vi 0, .string ((⟨#[]⟩ : ByteArray)), .bool false, .slice none 0 0, vi 0], .bool false]) (results_2 Try.results47 (rpa (hst21.blk 0 rfl) 0 7) rpt) ?_
      exact kd_none (by rw [ndAt_pg, hs14]; exact hnd) hst21.ext
    · refine sqr ?_
      refine sqlb 1 3 hst10 ?_
      refine sqk2 (fun EA20_24 ec20_24 => .tuple #[.agg #[vi 0, vi nd.lv, vi nd.right, .string nd.high, .bool nd.dead, .slice EA20_24 nd.es.length ec20_24, vi ((nd.free : Int))], .bool true]) (fun EA20_24 ec20_24 => eO 104 3 (.slice EA20_24 nd.es.length ec20_24) nd.es.length (nd.es.flatMap enC)) hst10 (fun cx => ⟨_, (kd_yes hnd (kread_any _ _ _ _ _ _ (hA.ext cx.upd.to_ext) (Nat.le_trans hvk.1 (by decide)) (fun s hs => Nat.le_trans (hvk.2 s hs) (by decide)) hvc)).mono (by rintro e W1 ⟨EA4, ec4, rfl, hs4⟩; exact ⟨_, _, rfl, hs4⟩), (map1 (cx.ou 19))⟩) fun EA20_24 ec20_24 W24 hst24 => ?_
      refine sqp [.m 18 20, .k 21 (.agg #[vi 0, vi nd.lv, vi nd.right, .string nd.high, .bool nd.dead, .slice EA20_24 nd.es.length ec20_24, vi ((nd.free : Int))]), .k 22 (.bool true)] ?_
      refine sqal #[vi 0, vi 0, vi 0, .string ByteArray.empty, .bool false, .slice none 0 0, vi 0] hst24 fun B8_28 W28 hst28 => ?_
      refine sqst (n := 7) 3 #[vi 0, vi nd.lv, vi nd.right, .string nd.high, .bool nd.dead, .slice EA20_24 nd.es.length ec20_24, vi ((nd.free : Int))] hst28 fun W29 hst29 => ?_
      refine sqp [.k 7 (.bool true)] ?_
      refine then_normal (wp_seq (sqr (sqp [.m 23 1, .k 24 (vp B8_28)] ?_)))
      refine sqst (n := 1) 3 #[vi x, vi nd.lv, vi nd.right, .string nd.high, .bool nd.dead, .slice EA20_24 nd.es.length ec20_24, vi ((nd.free : Int))] hst29 fun W33 hst33 => ?_
      refine then_normal (wp_seq (sqr ?_))
      refine sqlb 3 7 hst33 ?_
      refine sqp [.k 26 (.bool true)] ?_
      refine sqst (n := 7) 0 #[vi x, vi nd.lv, vi nd.right, .string nd.high, .bool nd.dead, .slice EA20_24 nd.es.length ec20_24, vi ((nd.free : Int))] hst33 fun W36 hst36 => ?_
      refine sqp [.k 5 (.bool true)] ?_
      refine then_normal (wp_ret ?_)
      refine bpr (.tuple #[.agg #[vi x, vi nd.lv, vi nd.right, .string nd.high, .bool nd.dead, .slice EA20_24 nd.es.length ec20_24, vi ((nd.free : Int))], .bool true]) (results_2 Try.results47 (rpa (hst36.blk 0 rfl) 0 7) rpt) ?_
      rw [ndAt_pg, hs14, if_pos rfl, hnd]
      exact ⟨_, _, rfl, hst36.pick [2] (by decide) rfl⟩
  refine wp_cond_true (show Act.eval _ _ = .bool true from (congrArg Value.bool (by rw [hs14]; rfl))) (wp_seq (sqr (sqp [.k 17 (.agg #[vi 0, vi 0, vi 0, .string ByteArray.empty, .bool false, .slice none 0 0, vi 0])] ?_)))
  refine sqst (n := 7) 0 #[vi 0, vi 0, vi 0, .string ByteArray.empty, .bool false, .slice none 0 0, vi 0] hst10 fun W39 hst39 => ?_
  refine sqp [.k 5 (.bool false)] ?_
  refine then_normal (wp_ret (then_ret ?_))
  refine bpr (.tuple #[.agg #[vi 0, vi 0, vi 0, .string ByteArray.empty, .bool false, .slice none 0 0, vi 0], .bool false]) (results_2 Try.results47 (rpa (hst39.blk 0 rfl) 0 7) rpt) ?_
  exact kd_none (by rw [ndAt_pg, hs14]; rfl) hst39.ext
end
end Go.Proofs.Ytjlcoglmjldjbaa
namespace Go.Proofs.Ytjlcoglmjldjbaa
section
open Go.RowKit
set_option linter.unusedVariables false
set_option linter.unusedSimpArgs false
theorem madeCells_cons (z : Array Value) (hz : 0 < z.size) (n : Nat) : (madeCells z ((n + 1) * z.size)).toList = z.toList ++ (madeCells z (n * z.size)).toList := by
  apply List.ext_getElem?
  intro j
  have e : ∀ m j, (madeCells z m).toList[j]? = if j < m then some (z[j % z.size]!) else none := fun m j => by
    by_cases h : j < m
    · rw [if_pos h]; simp [madeCells, h]
    · rw [if_neg h]; simp [madeCells, h]
  have hm : (n + 1) * z.size = z.size + n * z.size := by rw [Nat.add_mul]; omega
  rw [e, hm]
  by_cases h : j < z.size
  · rw [if_pos (by omega), List.getElem?_append_left (by simpa using h), Nat.mod_eq_of_lt h]
    simp [h]
  · rw [List.getElem?_append_right (by simpa using h), Array.length_toList, e]
    by_cases h2 : j < z.size + n * z.size
    · rw [if_pos h2, if_pos (by omega), Nat.mod_eq_sub_mod (by omega)]
    · rw [if_neg h2, if_neg (by omega)]
theorem madeCells_flat {T : Type} (f : T → List Value) (t : T) (z : Array Value) (hz : z.toList = f t) (h0 : 0 < z.size) (n : Nat) : (madeCells z (n * z.size)).toList = (List.replicate n t).flatMap f := by
  induction n with
  | zero =>
    rw [Nat.zero_mul]
    have : (madeCells z 0).toList.length = 0 := by rw [Array.length_toList, size_madeCells]
    rw [List.eq_nil_of_length_eq_zero this]; rfl
  | succ n ih => rw [madeCells_cons z h0, ih, List.replicate_succ, List.flatMap_cons, hz]
section
variable {P : Program} {ops : Array Oper} {L : List Nat} {a0 : Act} {w0 : World} {bor : List Nat} {X0 : List Ent} {us cr kl : List (List Nat)}
  {D : Nat → (Tmp → Value) → (Tmp → Value) → (Nat → Ent) → Prop} {i : Nat} {o : Oper} {ρ : Operand → Value} {β : Tmp → Value} {W : World} {X : Nat → Ent}
theorem dv_makeN {t e : TypeId} {x y : Operand} {k k' : IntKind} {n sz : Nat} {j j' : Int} {d : Tmp} {q : Nat} {inf : TypeInfo} {z : Value} {bytes : Nat} {xs : List Value} (h : o.op = .makeSlice t x y) (ht : P.underlying t = some (.slice e)) (hi : P.info? e = some inf) (hz : inf.zero = some z) (hsize : inf.size = sz) (hby : inf.bytes = bytes)
    (hx : ρ x = .int k j) (hy : ρ y = .int k' j') (hj : j = (n : Int)) (hj' : j' = (n : Int)) (hn : n * sz ≤ 16777216) (hb : bytes * n ≤ 281474976710656) (hml : n ≤ maxLen) (hxs : (madeCells z.cells (n * sz)).toList = xs) (hd : o.dst = some d) (hc : atV cr i = [q])
    (hD : ∀ (σ β' : Tmp → Value) (X' : Nat → Ent), (∀ t, t ≠ d → σ t = ρ (.tmp t)) → (∀ t, t ≠ d → β' t = β t) → σ d = .slice (sA (β' d)) n n → X' q = eO e sz (.slice (sA (β' d)) n n) n xs → D i σ β' X') :
    DoesU P o ρ W (PostV cr kl D i o.dst ρ β W X) := by
  subst hj; subst hj'; subst hby; subst hsize; subst hxs
  obtain ⟨W', hrun, ho, hg⟩ := run_makeSlice_full (P := P) W W.heap.size t e inf z inf.size ht hi hz rfl k k' n hn hb hml (Nat.le_refl _)
  have hr : (execOp ρ o).run P W = .ok (.value (.slice (some ⟨W.heap.size, 0, none⟩) n n)) W' := by
    unfold execOp; rw [h]
    simp only [hx, hy, Sem.run_bind, hrun, Result.andThen_ok, Sem.run_pure]
  refine DoesU.value hr ⟨[eO e inf.size (.slice (some ⟨W.heap.size, 0, none⟩) n n) n (madeCells z.cells (n * inf.size)).toList], by rw [hc]; rfl, ⟨(Upd.refl _ W).grown hg (fun k hk => by cases hk), fun e' he => ?_, List.pairwise_singleton _ _⟩, fun σ β' X' hs' hv hb hbv hx' hN => hD σ β' X' (fun t ht => hs' t (by rw [hd]; simpa using ht.symm)) (fun t ht => hb t (by rw [hd]; simpa using ht.symm)) ?_ ?_⟩
  · rw [List.mem_singleton] at he
    subst he
    obtain ⟨h1, h2, h3⟩ := eO_new ho
    exact ⟨h1, h2, fun k hk => ⟨.inr (h3 k hk).1, (h3 k hk).2⟩⟩
  · rw [hv d hd, hbv d hd]; rfl
  · rw [hbv d hd]
    rw [hc] at hN
    exact (List.cons.inj hN).1
end
theorem CtxV.holdF {ops : Array Oper} {L : List Nat} {a0 : Act} {w0 : World} {bor : List Nat} {X0 : List Ent} {us : List (List Nat)} {D : Nat → (Tmp → Value) → (Tmp → Value) → (Nat → Ent) → Prop} {i : Nat} {ρ : Operand → Value} {β : Tmp → Value} {W : World} {X : Nat → Ent} {q : Nat} {E : Ent} (cx : CtxV ops L a0 w0 bor X0 us D i ρ β W X) (hX : X q = E) (hu : (atV us i).contains q = true) : E.holds W := by
  have h := (cx.ok q hu).holds
  rw [hX] at h; exact h
theorem CtxV.ltF {ops : Array Oper} {L : List Nat} {a0 : Act} {w0 : World} {bor : List Nat} {X0 : List Ent} {us : List (List Nat)} {D : Nat → (Tmp → Value) → (Tmp → Value) → (Nat → Ent) → Prop} {i : Nat} {ρ : Operand → Value} {β : Tmp → Value} {W : World} {X : Nat → Ent} {q : Nat} {E : Ent} (cx : CtxV ops L a0 w0 bor X0 us D i ρ β W X) (hX : X q = E) (hu : (atV us i).contains q = true) : ∀ k ∈ E.fp, k < W.heap.size := fun k hk => by
  subst hX; exact ((cx.ok q hu).own k hk).2
theorem CtxV.keepF {ops : Array Oper} {L : List Nat} {a0 : Act} {w0 : World} {bor : List Nat} {X0 : List Ent} {us : List (List Nat)} {D : Nat → (Tmp → Value) → (Tmp → Value) → (Nat → Ent) → Prop} {i : Nat} {ρ : Operand → Value} {β : Tmp → Value} {W : World} {X : Nat → Ent} {q q' : Nat} {E F : Ent} (cx : CtxV ops L a0 w0 bor X0 us D i ρ β W X) (hX : X q = E) (hX' : X q' = F) (hu : (atV us i).contains q = true) (hu' : (atV us i).contains q' = true) (hne : q ≠ q') : ∀ W', Upd F.fp W W' → E.holds W' := fun W' hU => by
  subst hX hX'
  have h1 := cx.ok q hu
  exact h1.loc W W' (fun k hk => hU.block k (h1.own k hk).2 (cx.ap q q' hu hu' hne k hk)) h1.holds
theorem CtxV.keepAt {ops : Array Oper} {L : List Nat} {a0 : Act} {w0 : World} {bor : List Nat} {X0 : List Ent} {us : List (List Nat)} {D : Nat → (Tmp → Value) → (Tmp → Value) → (Nat → Ent) → Prop} {i : Nat} {ρ : Operand → Value} {β : Tmp → Value} {W : World} {X : Nat → Ent} {q q' e sz n m c : Nat} {A : Option Addr} {xs : List Value} {F : Ent} (cx : CtxV ops L a0 w0 bor X0 us D i ρ β W X) (hX : X q = eO e sz (.slice A n c) m xs) (hX' : X q' = F) (hu : (atV us i).contains q = true) (hu' : (atV us i).contains q' = true) (hne : q ≠ q') : ∀ W', Upd F.fp W W' → At W' A xs := fun W' hU =>
  At.of_ownN (cx.keepF hX hX' hu hu' hne W' hU)
theorem rep_snoc (L : List ByteArray) (r : Nat) : (L ++ List.replicate r ByteArray.empty).map Value.string ++ [.string ⟨#[]⟩] = (L ++ List.replicate (r + 1) ByteArray.empty).map Value.string := by
  rw [List.replicate_succ', ← List.append_assoc, List.map_append (l₂ := [ByteArray.empty])]; rfl
theorem St.pack {w0 W : World} {bor : List Nat} {L S : List Ent} {E : Ent} (h : St w0 bor (L ++ S) W) (hfp : E.fp = S.flatMap (·.fp)) (hh : E.holds W) (hl : E.loc) : St w0 bor (L ++ [E]) W := by
  have hin : ∀ k, k ∈ E.fp → ∃ e ∈ S, k ∈ e.fp := fun k hk => by rw [hfp] at hk; exact List.mem_flatMap.1 hk
  refine ⟨h.upd, fun x hx => ?_, ?_⟩
  · rcases List.mem_append.1 hx with hx | hx
    · exact h.ok x (List.mem_append_left _ hx)
    · rw [List.mem_singleton] at hx
      subst hx
      exact ⟨hh, hl, fun k hk => let ⟨e, he, hke⟩ := hin k hk; (h.ok e (List.mem_append_right _ he)).own k hke⟩
  · have ha := h.apart
    rw [List.pairwise_append] at ha ⊢
    refine ⟨ha.1, List.pairwise_singleton _ _, fun a ha' b hb k hk hkb => ?_⟩
    rw [List.mem_singleton] at hb
    subst hb
    obtain ⟨e, he, hke⟩ := hin k hkb
    exact ha.2.2 a ha' e he k hk hke
theorem St.unpack {w0 W : World} {bor : List Nat} {S : List Ent} {E : Ent} (h : St w0 bor [E] W) (hfp : E.fp = S.flatMap (·.fp)) (hS : ∀ e ∈ S, e.holds W ∧ e.loc) (ha : S.Pairwise Ent.apart) : St w0 bor S W :=
  ⟨h.upd, fun x hx => ⟨(hS x hx).1, (hS x hx).2, fun k hk => (h.ok E (List.mem_singleton.2 rfl)).own k (by rw [hfp]; exact List.mem_flatMap.2 ⟨x, hx, hk⟩)⟩, ha⟩
def entT (p : PgT) : Ent := eO 9 1 (.slice p.A p.its.length p.c) p.its.length (p.its.map Value.string)
def ePt (Qs : List PgT) : Ent := eM (Qs.map entT)
theorem ePt_at {Qs : List PgT} {W : World} (h : (ePt Qs).holds W) {p : PgT} (hp : p ∈ Qs) : At W p.A (p.its.map Value.string) := At.of_own (h (entT p) (List.mem_map.2 ⟨_, hp, rfl⟩)).1
theorem St.mergeT {w0 W : World} {bor : List Nat} {L : List Ent} {Qs : List PgT} {p : PgT} (h : St w0 bor (L ++ [ePt Qs, entT p]) W) : St w0 bor (L ++ [ePt (Qs ++ [p])]) W := by
  have h1 := St.merge h
  rw [ePt, List.map_append]
  exact h1
def bkL (b : Nat) (LA : Option Addr) (lc n : Nat) (Ps Qs : List PgT) : List Ent := [eB b 64 #[.slice LA n lc], eO 51 3 (.slice LA n lc) n (Ps.flatMap ptC), ePt Qs]
def eBk (b : Nat) (ps : List PgS) (fp : List Nat) : Ent := ⟨fp, fun W => ∃ LA lc Ps Qs, Ps.map abT = ps ∧ (∀ p ∈ Ps, p ∈ Qs) ∧ fp = (bkL b LA lc ps.length Ps Qs).flatMap (·.fp) ∧ (bkL b LA lc ps.length Ps Qs).Pairwise Ent.apart ∧ ∀ e ∈ bkL b LA lc ps.length Ps Qs, e.holds W ∧ e.loc⟩
theorem eBk_loc (b : Nat) (ps : List PgS) (fp : List Nat) : (eBk b ps fp).loc := fun W W' hk h => by
  obtain ⟨LA, lc, Ps, Qs, h1, h2, h3, h4, h5⟩ := h
  exact ⟨LA, lc, Ps, Qs, h1, h2, h3, h4, fun e he => ⟨(h5 e he).2 W W' (fun k hk' => hk k (by rw [eBk, h3]; exact List.mem_flatMap.2 ⟨e, he, hk'⟩)) (h5 e he).1, (h5 e he).2⟩⟩
theorem eBk_self {e : Ent} {b : Nat} {ps : List PgS} {fp : List Nat} (h : e = eBk b ps fp) : e = eBk b ps e.fp := by subst h; rfl
theorem eBk_at {b : Nat} {ps : List PgS} {fp : List Nat} {W : World} (h : (eBk b ps fp).holds W) : BkAt W b ps := by
  obtain ⟨LA, lc, Ps, Qs, h1, h2, h3, h4, h5⟩ := h
  have hl : Ps.length = ps.length := by rw [← h1, List.length_map]
  refine ⟨LA, lc, Ps, h1, (h5 (eB b 64 #[.slice LA ps.length lc]) (List.mem_cons_self ..)).1, ?_, hl, fun p hp => ePt_at (h5 (ePt Qs) (by simp [bkL])).1 (h2 p hp)⟩
  exact At.of_ownN (h5 (eO 51 3 (.slice LA ps.length lc) ps.length (Ps.flatMap ptC)) (by simp [bkL])).1
theorem St.bk {w0 W : World} {bor : List Nat} {L : List Ent} {b lc n : Nat} {LA : Option Addr} {Ps Qs : List PgT} {ps : List PgS} (h : St w0 bor (L ++ bkL b LA lc n Ps Qs) W) (h1 : Ps.map abT = ps) (hn : ps.length = n) (h2 : ∀ p ∈ Ps, p ∈ Qs) : ∃ fp, St w0 bor (L ++ [eBk b ps fp]) W := by
  subst hn
  refine ⟨_, St.pack (E := eBk b ps ((bkL b LA lc ps.length Ps Qs).flatMap (·.fp))) h rfl ⟨LA, lc, Ps, Qs, h1, h2, rfl, (List.pairwise_append.1 h.apart).2.1, fun e he => ?_⟩ (eBk_loc _ _ _)⟩
  have h3 := h.ok e (List.mem_append_right _ he)
  exact ⟨h3.holds, h3.loc⟩
def DoPost (b : Nat) (ps : List PgS) (fp : List Nat) (w : World) (e : Ending) (w' : World) : Prop := e = .returned (.tuple #[]) ∧ ∃ fp', St w fp [eBk b ps fp'] w'
theorem map_setT (Ps : List PgT) (n : Nat) (q : PgT) : (Ps.set n q).map abT = (Ps.map abT).set n (abT q) := List.map_set
theorem edOk_yes {n : Nat} {e : EdT} (h : 0 ≤ e.1 ∧ e.1 < n ∧ -1 ≤ e.2.1 ∧ e.2.1 ≤ 100) : edOk n e = true := decide_eq_true h
theorem edOk_no {n : Nat} {e : EdT} (h : ¬ (0 ≤ e.1 ∧ e.1 < n ∧ -1 ≤ e.2.1 ∧ e.2.1 ≤ 100)) : edOk n e = false := decide_eq_false h
theorem do_skip {ps : List PgS} {l : List EdT} {k : Nat} {e : EdT} (he : l[k]? = some e) (h : edOk ps.length e = false) : doB ps (l.take (k + 1)) = doB ps (l.take k) := by
  obtain ⟨hk, rfl⟩ := List.getElem?_eq_some_iff.1 he
  rw [doB_take hk, do1B, doB_len, h]; rfl
theorem do_put {ps : List PgS} {l : List EdT} {k : Nat} {e : EdT} (he : l[k]? = some e) (h : edOk ps.length e = true) : doB ps (l.take (k + 1)) = (doB ps (l.take k)).set e.1.toNat (edP ((doB ps (l.take k)).getD e.1.toNat pgs0) e) := by
  obtain ⟨hk, rfl⟩ := List.getElem?_eq_some_iff.1 he
  rw [doB_take hk, do1B, doB_len, h]; rfl
theorem edP_new {p : PgS} {pg s : Int} {x : ByteArray} (h : s < 0) : edP p (pg, s, x) = (kindB x, 0, []) := if_pos h
theorem edP_set {p : PgS} {pg s : Int} {x : ByteArray} (h : ¬ s < 0) : edP p (pg, s, x) = (p.1, p.2.1, setI p.2.2 s.toNat x) := if_neg h
theorem memT {Ps Qs : List PgT} (h : ∀ p ∈ Ps, p ∈ Qs) (n : Nat) (q : PgT) : ∀ p ∈ Ps.set n q, p ∈ Qs ++ [q] := fun p hp => by
  rcases List.mem_or_eq_of_mem_set hp with h1 | rfl
  · exact List.mem_append_left _ (h p h1)
  · simp
theorem setT_len {Ps : List PgT} (h : ∀ p ∈ Ps, p.its.length ≤ 101) (n : Nat) {q : PgT} (hq : q.its.length ≤ 101) : ∀ p ∈ Ps.set n q, p.its.length ≤ 101 := fun p hp => by
  rcases List.mem_or_eq_of_mem_set hp with h1 | rfl
  · exact h p h1
  · exact hq
set_option maxRecDepth 100000 in
set_option maxHeartbeats 8000000 in
theorem rdo_any (b : Nat) (ps : List PgS) (fp : List Nat) (n : Nat) (A : Option Addr) (c : Nat) (l : List EdT) (w : World) (hB : (eBk b ps fp).holds w) (hlt : ∀ k ∈ fp, k < w.heap.size) (hL : ∀ W, Upd fp w W → At W A (l.flatMap edC)) (hl : l.length ≤ 100000) (hn : ps.length = n) (hnb : n ≤ 1000) (hits0 : ∀ p ∈ ps, p.2.2.length ≤ 101) :
    Calls Try.prog 25 #[.pointer (some ⟨b, 0, none⟩), .slice A l.length c] w (DoPost b (doB ps l) fp w) := by
  have st1 := St.lend hB (eBk_loc _ _ _) hlt
  obtain ⟨LA, lc, Ps, Qs, hps, hsub, hfp, hap, hall⟩ := hB
  have st0 := St.unpack st1 hfp hall hap
  rw [hn] at st0
  have hPl : Ps.length = n := by rw [← hn, ← hps, List.length_map]
  have hits : ∀ p ∈ Ps, p.its.length ≤ 101 := fun p hp => hits0 (abT p) (by rw [← hps]; exact List.mem_map.2 ⟨p, hp, rfl⟩)
  go_enter Try.func25, Try.ntmps25
  have hst0 := st0
  refine wp_seq (sqr (sqp [.k 4 (vi 0)] ?_))
  refine then_normal (wp_block ?_)
  refine wp_loopT (fun t_ mz az W => ∃ k : Nat, ∃ Ps : List PgT, ∃ Qs : List PgT, k ≤ l.length ∧ Ps.map abT = doB ps (l.take k) ∧ (∀ p ∈ Ps, p ∈ Qs) ∧ Ps.length = n ∧ (∀ p ∈ Ps, p.its.length ≤ 101) ∧ mz = l.length - k ∧ az = ⟨(ovr (jv az) [(4, 4, 0, [vi ((k : Int))]), (0, 5, 84, [])] t_).toArray, []⟩ ∧ St w fp [eB b 64 #[.slice LA n lc], eO 51 3 (.slice LA n lc) n (Ps.flatMap ptC), ePt Qs] W) (l.length - 0) ?_ ?_
  · -- the loop begins
    exact ⟨0, Ps, Qs, Nat.zero_le _, hps, hsub, hPl, hits, rfl, (by kernel_rfl), hst0.pk [0, 1, 2]⟩
  rintro n2 a2 W2 ⟨k, Ps, Qs, hk, hPs, hsub, hPl, hits, rfl, hj_, hst2⟩
  refine ovz hj_ fun u2_ => ?_
  refine wp_seq (wp_seq (sqr (sqp [.m 8 4, .m 9 1, .k 10 (vi ((l.length : Int))), .k 11 (.bool (decide ((k : Int) < (l.length : Int))))] ?_)))
  refine then_normal (wds (fun hs7 hs7p => ?_) fun hs7 hs7p => ?_)
  · refine wp_skip (then_normal (wp_seq (wp_block (wp_seq ?_))))
    obtain ⟨ep, es, eb, hek⟩ := getEdT (l := l) (k := k) (by omega)
    refine sqr (sqp [.m 14 1, .m 15 4] ?_)
    refine sql (.pointer (some ((ad A).add (k * 3)))) hst2 (fun cx => run_indexSlM (e := 99) (m := k) (sz := 3) rfl (by kernel_rfl) (by kernel_rfl) (cx.ou 14) (cx.ou 15) (by omega) (by omega) (hL _ cx.upd) (flatPos (sz := 3) edC_len (by decide) (by omega))) ?_
    refine sql (.agg #[vi ep, vi es, .string eb]) hst2 (fun cx => run_loadElt (f := edC) (m := k) (sz := 3) (off := 0) (n := 3) rfl (by kernel_rfl) (by kernel_rfl) (cx.ou 16) rfl edC_len (hL _ cx.upd) hek (fun k hk => match k, hk with | 0, _ => rfl | 1, _ => rfl | 2, _ => rfl | k + 3, hk => absurd hk (by omega))) ?_
    refine sqal #[vi 0, vi 0, .string ByteArray.empty] hst2 fun B5_12 W12 hst12 => ?_
    refine sqst (n := 3) 3 #[vi ep, vi es, .string eb] hst12 fun W13 hst13 => ?_
    refine then_normal (wp_seq (wp_seq (wp_region_Z [0, 1, 3, 7, 15, 31, 15, 79, 207, 463, 975, 2047, 4095, 8191, 16383, 32767, 65535, 131071, 262143, 524287, 1048575, 2097151, 4194303] [[], [3], [], [], [], [3], [], [], [], [0], [], [], [], [], [], [3], [], [], [], [], [3]] [.k 18 (vp B5_12), .c 19 (vi ep), .k 20 (.bool (decide (ep < 0))), .k 21 (.bool (decide (ep < 0))), .z 22 (!(decide (ep < 0))) (vp B5_12), .y 23 (!(decide (ep < 0))) (vi ep), .z 24 (!(decide (ep < 0))) (vp b), .z 25 (!(decide (ep < 0))) (vp b), .z 26 (!(decide (ep < 0))) (vp b), .y 27 (!(decide (ep < 0))) (.slice LA n lc), .z 28 (!(decide (ep < 0))) (vi ((n : Int))), .z 29 (!(decide (ep < 0))) (.bool (decide ((n : Int) ≤ ep))), tO 30 (decide (ep < 0)) (decide ((n : Int) ≤ ep)), .k 31 (.bool ((decide (ep < 0)) || (decide ((n : Int) ≤ ep)))), .z 32 (!((decide (ep < 0)) || (decide ((n : Int) ≤ ep)))) (.pointer (some ⟨B5_12, 1, none⟩)), .y 33 (!((decide (ep < 0)) || (decide ((n : Int) ≤ ep)))) (vi es), .z 34 (!((decide (ep < 0)) || (decide ((n : Int) ≤ ep)))) (.bool (decide (es < -1))), tO 35 ((decide (ep < 0)) || (decide ((n : Int) ≤ ep))) (decide (es < -1)), .k 36 (.bool (((decide (ep < 0)) || (decide ((n : Int) ≤ ep))) || (decide (es < -1)))), .z 37 (!(((decide (ep < 0)) || (decide ((n : Int) ≤ ep))) || (decide (es < -1)))) (.pointer (some ⟨B5_12, 1, none⟩)), .y 38 (!(((decide (ep < 0)) || (decide ((n : Int) ≤ ep))) || (decide (es < -1)))) (vi es), .z 39 (!(((decide (ep < 0)) || (decide ((n : Int) ≤ ep))) || (decide (es < -1)))) (.bool (decide (100 < es))), tO 40 (((decide (ep < 0)) || (decide ((n : Int) ≤ ep))) || (decide (es < -1))) (decide (100 < es))] [0, 1, 2, 3] [1, 5, 9, 15, 20] [(18, 0, 23, 41)] hst13 ?_ fun W14 hst14 => ?_)))
    · refine ⟨?_, ?_, ?_, ?_, ?_, trivial⟩
      · exact xs4 rfl id fun cx => run_load1 rfl (by kernel_rfl) (cx.an 0) ((cx.bi 3 rfl).cell 0)
      · exact m2 rfl (fun _ _ _ h => h) (fun cx => (cx.an 3)) fun cx hq => run_load1 rfl (by kernel_rfl) (mbv (cx.an 4) hq) ((cx.bi 3 rfl).cell 0)
      · exact m2 rfl (fun _ _ _ h => h) (fun cx => (cx.an 3)) fun cx hq => run_load1 rfl (by kernel_rfl) (mbv (cx.an 8) hq) ((cx.bi 0 rfl).cell 0)
      · exact m2 rfl (fun _ _ _ h => h) (fun cx => (cx.an 13)) fun cx hq => run_load1 rfl (by kernel_rfl) (mbv (cx.an 14) hq) ((cx.bi 3 rfl).cell 1)
      · exact m2 rfl (fun _ _ _ h => h) (fun cx => (cx.an 18)) fun cx hq => run_load1 rfl (by kernel_rfl) (mbv (cx.an 19) hq) ((cx.bi 3 rfl).cell 1)
    refine then_normal (wbs (fun hs15 => ?_) fun hs15 => ?_)
    · have hs15p := hs15
      simp only [zB] at hs15p
      refine wp_exit (then_exit (blk_eq (then_normal (sqr (sqp [.m 12 4, sI 13 ((k : Int) + 1) (by omega), .m 4 13] ?_)))))
      refine then_normal ?_
      have hno := edOk_no (n := n) (e := (ep, es, eb)) (by dsimp only; have h_ := hs15; simp only [Bool.or_eq_true, decide_eq_true_eq] at h_; omega)
      refine ⟨l.length - ((k + 1)), by omega, ?_⟩
      exact ⟨(k + 1), Ps, Qs, by omega, by rw [do_skip hek (by rw [hn]; exact hno)]; exact hPs, hsub, hPl, hits, rfl, (by kernel_rfl), hst14.pk [0, 1, 2]⟩
    have hs15p := hs15
    simp only [zB] at hs15p
    obtain ⟨⟨⟨hs15p1, hs15p2⟩, hs15p3⟩, hs15p4⟩ := hs15p
    refine wp_skip (then_normal (wp_seq ?_))
    have hbd := hs15
    simp only [Bool.or_eq_false_iff, decide_eq_false_iff_not] at hbd
    have hed := edOk_yes (n := n) (e := (ep, es, eb)) (by dsimp only; omega)
    obtain ⟨pg, hN_pg⟩ : ∃ z, Ps.getD (ep).toNat pt0 = z := ⟨_, rfl⟩
    have hpg := getD_mem' (l := Ps) (n := (ep).toNat) (d := pt0) (by omega)
    rw [hN_pg] at hpg
    have hpl := hits _ hpg.2
    have hgD : (doB ps (l.take k)).getD (ep).toNat pgs0 = abT pg := by rw [← hPs, getD_abT, hN_pg]
    refine wp_region_Y [0, 1, 3, 7, 0, 16, 63, 127, 0, 511] [[], [], [], [0], [], [3], [1], [1], [], [4]] [[], [], [], [], [], [], [], [], [4], [5]] [[], [], [], [], [], [], [], [], [], [4]] [.k 41 (vp b), .k 42 (vp b), .k 43 (vp b), .c 44 (.slice LA n lc), .k 45 (vp B5_12), .c 46 (vi ep), .c 47 (.pointer (some ((ad LA).add (((ep).toNat) * 3)))), .c 48 (.agg #[vi pg.k, vi pg.l, .slice pg.A pg.its.length pg.c]), .a 6, .n] (fun ix σ β X => match ix with | 0 => True | 1 => True | 2 => True | 3 => True | 4 => True | 5 => True | 6 => True | 7 => True | 8 => σ 6 = vp (pb (β 6)) ∧ X 4 = eB (pb (β 6)) 51 #[vi 0, vi 0, .slice none 0 0] | 9 => X 5 = eB (pb (β 6)) 51 #[vi pg.k, vi pg.l, .slice pg.A pg.its.length pg.c] | _ => True) [0, 1, 2, 3, 5] [3, 5, 6, 7, 8, 9] [(6, 8, 1, 7), (34, 0, 8, 42)] hst14 ?_ ?_ ?_
    · exact fun ix _ _ _ _ _ _ hs hb hx h => match ix, h with
      | 8, h => by dsimp only; rw [← hs 6 rfl, ← hb 6 rfl, ← hx 4 rfl]; exact h
      | 9, h => by dsimp only; rw [← hb 6 rfl, ← hx 5 rfl]; exact h
      | 0, _ | 1, _ | 2, _ | 3, _ | 4, _ | 5, _ | 6, _ | 7, _ | _ + 10, _ => trivial
    · refine ⟨?_, ?_, ?_, ?_, ?_, ?_, trivial⟩
      · exact xs4 rfl id fun cx => run_load1 rfl (by kernel_rfl) (cx.an 2) ((cx.bi 0 rfl).cell 0)
      · exact xs4 rfl id fun cx => run_load1 rfl (by kernel_rfl) (cx.an 4) ((cx.bi 3 rfl).cell 0)
      · exact xs4 rfl id fun cx => run_indexSlM (e := 51) (m := (ep).toNat) (sz := 3) rfl (by kernel_rfl) (by kernel_rfl) (cx.an 3) (cx.an 5) (by omega) (by omega) (At.of_ownN (cx.ri 1 rfl)) (flatPos (sz := 3) ptC_len (by decide) (by omega))
      · exact xs4 rfl id fun cx => run_loadElt (f := ptC) (m := ((ep).toNat)) (sz := 3) (off := 0) (n := 3) rfl (by kernel_rfl) (by kernel_rfl) (cx.an 6) rfl ptC_len (At.of_ownN (cx.ri 1 rfl)) hpg.1 (fun k hk => match k, hk with | 0, _ => rfl | 1, _ => rfl | 2, _ => rfl | k + 3, hk => absurd hk (by omega))
      · refine svA fun ρ β W X cx => ?_
        exact dv_alloc (cs := #[vi 0, vi 0, .slice none 0 0]) rfl (by kernel_rfl) rfl rfl (fun σ β' X' hs hb hv hx => ⟨hv, hx⟩)
      · refine svA fun ρ β W X cx => ?_
        exact dv_store (n := 3) rfl (dTn (cx.an 8)).1 (cx.an 7) (by kernel_rfl) (by kernel_rfl) (by kernel_rfl) cx (dTn (cx.an 8)).2 rfl (nle rfl) (by kernel_rfl) rfl rfl rfl (fun σ β' X' hs hb hx => by rw [hb 6]; exact hx)
    intro σ β X W19 hD hst19 fr hfr
    obtain ⟨B6_19, hu_B6_19⟩ : ∃ z, pb (β 6) = z := ⟨_, rfl⟩
    simp only [exq 5 ((dTn (hD 9 lq))), hu_B6_19] at hst19
    simp only [ed 6 ((dTn (hD 8 lq)).1), hu_B6_19] at hfr
    clear hD hu_B6_19; subst hfr; clear σ β X
    refine then_normal ?_
    refine wp_cutT (fun t_ az W => ∃ pk : Int, ∃ pl : Int, ∃ pA : Option Addr, ∃ pc : Nat, ∃ pits : List ByteArray, edP (abT pg) (ep, es, eb) = (pk, pl, pits) ∧ pits.length ≤ 101 ∧ az = ⟨(ovr (jv az) [(7, 7, 1, []), (41, 49, 32, [])] t_).toArray, []⟩ ∧ St w fp [eB b 64 #[.slice LA n lc], eO 51 3 (.slice LA n lc) n (Ps.flatMap ptC), ePt Qs, eB B5_12 99 #[vi ep, vi es, .string eb], eB B6_19 51 #[vi pk, vi pl, .slice pA pits.length pc], eO 9 1 (.slice pA pits.length pc) pits.length (pits.map Value.string)] W) ?_ ?_
    · refine wp_seq (sqr (sqp [.k 49 (.pointer (some ⟨B5_12, 1, none⟩))] ?_))
      refine sqld 3 hst19 ?_
      refine sqp [.k 51 (.bool (decide (es < 0)))] ?_
      refine then_normal (wds (fun hs24 hs24p => ?_) fun hs24 hs24p => ?_)
      · refine wp_seq (sqr (sqp [.k 52 (.agg #[vi 0, vi 0, .slice none 0 0])] ?_))
        refine sqst (n := 3) 4 #[vi 0, vi 0, .slice none 0 0] hst19 fun W26 hst26 => ?_
        refine then_normal (wp_seq (sqr (sqp [.k 53 (.pointer (some ⟨B5_12, 2, none⟩))] ?_)))
        refine sqld 3 hst26 ?_
        refine sqp [.k 55 (.bool (!(eb.toList == ((⟨#[]⟩ : ByteArray)).toList)))] ?_
        refine then_normal ?_
        rcases Bool.eq_false_or_eq_true (eb.toList == ((⟨#[]⟩ : ByteArray)).toList) with hs30 | hs30
        · refine wp_cond_false (show Act.eval _ _ = .bool false from (congrArg Value.bool (by rw [hs30]; rfl))) (wp_skip (then_normal ?_))
          have hn31 := St.nilrow hst26 9
          simp only [List.cons_append, List.nil_append] at hn31
          exact ⟨(0), 0, none, 0, ([] : List ByteArray), by rw [edP_new (by omega), kindB, if_pos (by have h_ := hs30; rw [size_nil] at h_; exact of_decide_eq_true h_)], by decide, (by kernel_rfl), hn31.pk [0, 1, 2, 3, 4, 5]⟩
        refine wp_cond_true (show Act.eval _ _ = .bool true from (congrArg Value.bool (by rw [hs30]; rfl))) ?_
        have he0 : 0 < eb.size := by have h_ := hs30; rw [size_nil] at h_; have h2_ := of_decide_eq_false h_; omega
        have hbb_ := byteI_bd (bl eb) 0
        refine sqr (sqp [.k 56 (.pointer (some ⟨B5_12, 2, none⟩))] ?_)
        refine sqld 3 hst26 ?_
        refine sql (.int .u8 (byteI (bl eb) 0)) hst26 (fun cx => run_indexS (m := 0) rfl (by kernel_rfl) (cx.ou 57) (cx.co _) (by omega) (by omega)) ?_
        refine sqp [sW 59 .i64 (byteI (bl eb) 0) (byteI (bl eb) 0) (IntWalk.i64_in _ (by omega)), .k 60 (vp B6_19)] ?_
        refine sqst (n := 1) 4 #[vi (byteI (bl eb) 0), vi 0, .slice none 0 0] hst26 fun W37 hst37 => ?_
        refine then_normal ?_
        have hn38 := St.nilrow hst37 9
        simp only [List.cons_append, List.nil_append] at hn38
        exact ⟨(byteI (bl eb) 0), 0, none, 0, ([] : List ByteArray), by rw [edP_new (by omega), kindB, if_neg (by omega)], by decide, (by kernel_rfl), hn38.pk [0, 1, 2, 3, 4, 5]⟩
      refine wp_seq (sqr ?_)
      refine sqn1 (fun x_ => sA x_) (fun A61_39 => .slice A61_39 0 0) (fun A61_39 => eO 9 1 (.slice A61_39 0 0) 0 ([])) hst19 (by
          refine svA fun ρ β W X cx => ?_
          exact dv_lit (e := 9) (xs := []) rfl (by simp [go_sem]) rfl (by decide) rfl rfl (fun σ β' X' hs hb hv hx => ⟨hv, hx⟩)) fun A61_39 W39 hst39 => ?_
      refine sqp [.k 62 (.pointer (some ⟨B6_19, 2, none⟩))] ?_
      refine sqld 4 hst39 ?_
      refine sqc2 (fun x_ => sA x_) (fun x_ => sC x_) (fun A64_42 c64_42 => .slice A64_42 pg.its.length c64_42) (fun A64_42 c64_42 => eO 9 1 (.slice A64_42 pg.its.length c64_42) pg.its.length (pg.its.map Value.string)) 5 hst39 (by
          refine svA fun ρ β W X cx => ?_
          obtain ⟨i0, hi0, hz0, hz1, hz2⟩ := info_parts Try.infoStr
          refine dv_append (n := 0) (m := pg.its.length) (nm := pg.its.length) (xs := []) (news := pg.its.map Value.string) (xs' := pg.its.map Value.string) rfl (ty := 49) rfl (by kernel_rfl) hi0 hz0 hz1 hz2 rfl (cx.ou 61) cx (cx.init 5 _ rfl) rfl (cx.ou 63) (by first | (simp; done) | (simp; omega)) (ePt_at (CtxV.holdF cx (cx.init 2 _ rfl) rfl) (hsub _ hpg.2)) (str_one _) (by simp only [maxLen]; omega) (by omega) rfl rfl rfl (by omega) (rfl) (fun σ β' X' hs hb hv hx => ?_)
          exact ⟨hv, hx⟩) fun A64_42 c64_42 W42 hst42 => ?_
      refine sqp [.m 7 64] ?_
      refine then_normal (wp_seq (wp_block ?_))
      rw [show pg.its.map Value.string = (pg.its ++ List.replicate 0 ByteArray.empty).map Value.string by simp] at hst42
      refine wp_loopT (fun t_ mz az W => ∃ m : Nat, ∃ rr : Nat, ∃ XA : Option Addr, ∃ XC : Nat, m = pg.its.length + rr ∧ (rr = 0 ∨ (m : Int) ≤ es + 1) ∧ m ≤ 101 ∧ mz = 102 - m ∧ az = ⟨(ovr (jv az) [(7, 7, 0, [.slice XA m XC]), (57, 65, 8, [])] t_).toArray, []⟩ ∧ St w fp [eB b 64 #[.slice LA n lc], eO 51 3 (.slice LA n lc) n (Ps.flatMap ptC), ePt Qs, eB B5_12 99 #[vi ep, vi es, .string eb], eB B6_19 51 #[vi pg.k, vi pg.l, .slice pg.A pg.its.length pg.c], eO 9 1 (.slice XA m XC) m ((pg.its ++ List.replicate rr ByteArray.empty).map Value.string)] W) (102 - pg.its.length) ?_ ?_
      · -- the loop begins
        exact ⟨pg.its.length, 0, A64_42, c64_42, rfl, .inl rfl, hpl, rfl, (by kernel_rfl), hst42.pk [0, 1, 2, 3, 4, 5]⟩
      rintro n44 a44 W44 ⟨m, rr, XA, XC, hmr, hr0, hm1, rfl, hj_, hst44⟩
      refine ovz hj_ fun u44_ => ?_
      refine wp_seq (wp_seq (sqr (sqp [.m 65 7, .k 66 (vi ((m : Int))), .k 67 (.pointer (some ⟨B5_12, 1, none⟩))] ?_)))
      refine sqld 3 hst44 ?_
      refine sqp [.k 69 (.bool (decide ((m : Int) ≤ es)))] ?_
      refine then_normal (wds (fun hs50 hs50p => ?_) fun hs50 hs50p => ?_)
      · refine wp_skip (then_normal (wp_block (sqr (sqp [.m 70 7] ?_))))
        refine sqn1 (fun x_ => sA x_) (fun A71_52 => .slice A71_52 1 1) (fun A71_52 => eO 9 1 (.slice A71_52 1 1) 1 ([.string ⟨#[]⟩])) hst44 (by
            refine svA fun ρ β W X cx => ?_
            exact dv_lit (e := 9) (xs := [.string ⟨#[]⟩]) rfl (by simp [go_sem, cx.sees.const]) rfl (by decide) rfl rfl (fun σ β' X' hs hb hv hx => ⟨hv, hx⟩)) fun A71_52 W52 hst52 => ?_
        refine sqc2 (fun x_ => sA x_) (fun x_ => sC x_) (fun A72_53 c72_53 => .slice A72_53 (m + 1) c72_53) (fun A72_53 c72_53 => eO 9 1 (.slice A72_53 (m + 1) c72_53) (m + 1) ((pg.its ++ List.replicate (rr + 1) ByteArray.empty).map Value.string)) 5 hst52 (by
            refine svA fun ρ β W X cx => ?_
            obtain ⟨i0, hi0, hz0, hz1, hz2⟩ := info_parts Try.infoStr
            refine dv_append (n := m) (m := 1) (nm := m + 1) (xs := (pg.its ++ List.replicate rr ByteArray.empty).map Value.string) (news := [.string ⟨#[]⟩]) (xs' := (pg.its ++ List.replicate (rr + 1) ByteArray.empty).map Value.string) rfl (ty := 49) rfl (by kernel_rfl) hi0 hz0 hz1 hz2 rfl (cx.ou 70) cx (cx.init 5 _ rfl) rfl (cx.ou 71) (by first | (simp; done) | (simp; omega)) (At.of_own (cx.ri 6 rfl)) (by simp [Value.oneCell']) (by simp only [maxLen]; omega) (by omega) rfl rfl rfl (by omega) (rep_snoc _ _) (fun σ β' X' hs hb hv hx => ?_)
            exact ⟨hv, hx⟩) fun A72_53 c72_53 W53 hst53 => ?_
        refine sqp [.m 7 72] ?_
        refine blk_normal (then_normal ?_)
        refine ⟨102 - ((m + 1)), by omega, ?_⟩
        exact ⟨(m + 1), (rr + 1), A72_53, c72_53, by omega, .inr (by omega), by omega, rfl, (by kernel_rfl), hst53.pk [0, 1, 2, 3, 4, 5]⟩
      refine wp_exit (then_exit (then_exit (blk_eq (then_normal (wp_seq (sqr (sqp [.m 73 7, .k 74 (.pointer (some ⟨B5_12, 1, none⟩))] ?_)))))))
      refine sqld 3 hst44 ?_
      refine sqp [.k 76 (.pointer (some ⟨B5_12, 2, none⟩))] ?_
      refine sqld 3 hst44 ?_
      refine sql (.pointer (some ((ad XA).add ((es).toNat)))) hst44 (fun cx => run_indexSl (e := 9) (m := (es).toNat) rfl (by kernel_rfl) (by kernel_rfl) (cx.ou 73) (cx.ou 75) (by omega) (by omega) (At.of_own (cx.ri 5 rfl)) (by rw [List.length_map, List.length_append, List.length_replicate]; omega)) ?_
      refine sqc (eO 9 1 (.slice XA m XC) m (((pg.its ++ List.replicate rr ByteArray.empty).set (es).toNat eb).map Value.string)) 5 hst44 (by
          refine svA fun ρ β W X cx => ?_
          exact dv_storeRow (m := (es).toNat) (n := m) rfl (cx.ou 78) (show _ = Value.string eb from (cx.ou 77)) (by kernel_rfl) rfl rfl cx (cx.init 5 _ rfl) rfl (by omega) rfl (by rw [List.map_set]) rfl rfl (fun σ β' X' hs hb hx => hx)) fun W61 hst61 => ?_
      refine then_normal (sqr (sqp [.m 79 7, .k 80 (.pointer (some ⟨B6_19, 2, none⟩))] ?_))
      refine sqst (n := 1) 4 #[vi pg.k, vi pg.l, .slice XA m XC] hst61 fun W64 hst64 => ?_
      refine then_normal ?_
      have hs9 : (pg.its ++ List.replicate rr ByteArray.empty).set (es).toNat eb = (setI pg.its (es).toNat eb) := by rw [setI, show rr = (es).toNat + 1 - pg.its.length by omega]
      have hm9 : m = (setI pg.its (es).toNat eb).length := by rw [setI_len]; omega
      rw [hs9] at hst64
      subst hm9
      exact ⟨pg.k, pg.l, XA, XC, (setI pg.its (es).toNat eb), by rw [edP_set (by omega)]; rfl, by rw [setI_len]; omega, (by kernel_rfl), hst64.pk [0, 1, 2, 3, 4, 5]⟩
    rintro a20 W20 ⟨pk, pl, pA, pc, pits, hpe, hpz, hj_, hst20⟩
    refine ovz hj_ fun u20_ => ?_
    refine wp_region_Y [0, 1, 3, 7, 0, 16, 0, 127, 255] [[], [], [], [0], [], [3], [4], [1], [1]] [[], [], [], [], [], [], [], [], [6]] [[], [], [], [], [], [], [], [], [1]] [.k 81 (vp b), .k 82 (vp b), .k 83 (vp b), .c 84 (.slice LA n lc), .k 85 (vp B5_12), .c 86 (vi ep), .c 87 (.agg #[vi pk, vi pl, .slice pA pits.length pc]), .c 88 (.pointer (some ((ad LA).add (((ep).toNat) * 3)))), .n] (fun ix σ β X => match ix with | 0 => True | 1 => True | 2 => True | 3 => True | 4 => True | 5 => True | 6 => True | 7 => True | 8 => X 6 = eO 51 3 (.slice LA n lc) n ((Ps.set (ep).toNat (PgT.mk pk pl pA pc pits)).flatMap ptC) | _ => True) [0, 2, 3, 4, 5, 6] [3, 5, 6, 7, 8] [(81, 0, 8, 89)] hst20 ?_ ?_ ?_
    · exact fun ix _ _ _ _ _ _ hs hb hx h => match ix, h with
      | 8, h => by dsimp only; rw [← hx 6 rfl]; exact h
      | 0, _ | 1, _ | 2, _ | 3, _ | 4, _ | 5, _ | 6, _ | 7, _ | _ + 9, _ => trivial
    · refine ⟨?_, ?_, ?_, ?_, ?_, trivial⟩
      · exact xs4 rfl id fun cx => run_load1 rfl (by kernel_rfl) (cx.an 2) ((cx.bi 0 rfl).cell 0)
      · exact xs4 rfl id fun cx => run_load1 rfl (by kernel_rfl) (cx.an 4) ((cx.bi 3 rfl).cell 0)
      · exact xs4 rfl id fun cx => run_loadB (n := 3) rfl (by kernel_rfl) (by kernel_rfl) (cx.ou 6) (cx.bi 4 rfl) (nle rfl) rfl
      · exact xs4 rfl id fun cx => run_indexSlM (e := 51) (m := (ep).toNat) (sz := 3) rfl (by kernel_rfl) (by kernel_rfl) (cx.an 3) (cx.an 5) (by omega) (by omega) (At.of_ownN (cx.ri 1 rfl)) (flatPos (sz := 3) ptC_len (by decide) (by omega))
      · refine svA fun ρ β W X cx => ?_
        exact dv_storeElt (m := ((ep).toNat) * 3) (n := n) (sz := 3) (k := 3) rfl (cx.an 7) (cx.an 6) (by kernel_rfl) (by kernel_rfl) (by kernel_rfl) cx (cx.init 1 _ rfl) rfl (by omega) (by decide) rfl (putL_flat ptC_len (by omega) (PgT.mk pk pl pA pc pits)) rfl rfl (fun σ β' X' hs hb hx => hx)
    intro σ β X W65 hD hst65 fr hfr
    simp only [exq 6 ((dTn (hD 8 lq)))] at hst65
    clear hD; subst hfr; clear σ β X
    refine blk_normal (then_normal (sqr (sqp [.m 12 4, sI 13 ((k : Int) + 1) (by omega), .m 4 13] ?_)))
    refine then_normal ?_
    have hm69 := St.mergeT (Qs := Qs) (p := (PgT.mk pk pl pA pc pits)) (L := [eB b 64 #[.slice LA n lc], eO 51 3 (.slice LA n lc) n ((Ps.set (ep).toNat (PgT.mk pk pl pA pc pits)).flatMap ptC)]) (hst65.pick [0, 5, 1, 4] (by decide) rfl)
    refine ⟨l.length - ((k + 1)), by omega, ?_⟩
    exact ⟨(k + 1), (Ps.set (ep).toNat (PgT.mk pk pl pA pc pits)), (Qs ++ [(PgT.mk pk pl pA pc pits)]), by omega, by rw [do_put hek (by rw [hn]; exact hed), map_setT, hPs, hgD]; congr 1; exact hpe.symm, memT hsub _ _, by rw [List.length_set]; exact hPl, setT_len hits _ hpz, rfl, (by kernel_rfl), hm69.pk [0, 1, 2]⟩
  refine wp_exit (then_exit (then_exit (blk_eq ?_)))
  refine bpe (.tuple #[]) (by simp [results, Try.results25, go_sem]) ?_
  rw [List.take_of_length_le (by omega)] at hPs
  have hpk_ := hst2.pick [0, 1, 2] (by decide) rfl
  exact ⟨rfl, St.bk (L := []) hpk_ hPs (by rw [doB_len, hn]) hsub⟩
theorem Try.infoPage : (Try.prog.info? 51).map (fun i => (i.zero, i.size, i.bytes)) = some (some (.agg #[.int .i64 0, .int .i64 0, .slice none 0 0]), 3, 40) := by kernel_rfl
theorem pgt_zero (n : Nat) : (madeCells (Value.agg #[.int .i64 0, .int .i64 0, .slice none 0 0]).cells (n * 3)).toList = (List.replicate n pt0).flatMap ptC := madeCells_flat ptC pt0 #[.int .i64 0, .int .i64 0, .slice none 0 0] rfl (by decide) n
/-- an empty tree in page 0 of n pages -/
def blankF (n : Nat) : List PgS := doB (List.replicate n pgs0) (begF 0)
def BkPost (ps : List PgS) (w : World) (e : Ending) (w' : World) : Prop := ∃ b fp, e = .returned (.pointer (some ⟨b, 0, none⟩)) ∧ St w [] [eBk b ps fp] w'
theorem St.bkNew {w0 W : World} {bor : List Nat} {a b : Ent} (h : St w0 bor [a, b] W) : St w0 bor ([] ++ [a, b, ePt [pt0]]) W := by
  have h1 := St.emNil h
  have h2 := St.nilrow h1 9
  have h3 := St.merge (L := [a, b]) (R := []) (e := entT pt0) h2
  exact h3
set_option maxRecDepth 100000 in
set_option maxHeartbeats 2000000 in
theorem rblank_any (n : Nat) (w : World) (hn : n ≤ 1000) :
    Calls Try.prog 45 #[.int .i64 ((n : Int))] w (BkPost (blankF n) w) := by
  go_enter Try.func45, Try.ntmps45
  have hst0 := St.start w
  refine wp_seq (sqr (sqp [.k 2 (.pointer none)] ?_))
  refine then_normal (wp_seq (sqr (sqp [.m 4 0] ?_)))
  refine sqn1 (fun x_ => sA x_) (fun A5_3 => .slice A5_3 n n) (fun A5_3 => eO 51 3 (.slice A5_3 n n) n ((List.replicate n pt0).flatMap ptC)) hst0 (by
      refine svA fun ρ β W X cx => ?_
      obtain ⟨i0, hi0, hz0, hz1, hz2⟩ := info_parts Try.infoPage
      exact dv_makeN (n := n) (sz := 3) rfl (by kernel_rfl) hi0 hz0 hz1 hz2 (cx.ou 4) (cx.ou 4) (by omega) (by omega) (by omega) (by omega) (by simp only [maxLen]; omega) (pgt_zero n) rfl rfl (fun σ β' X' hs hb hv hx => ⟨hv, hx⟩)) fun A5_3 W3 hst3 => ?_
  refine sqp [.k 6 (.agg #[.slice A5_3 n n])] ?_
  refine sqbx #[.slice A5_3 n n] hst3 fun B7_5 W5 hst5 => ?_
  refine sqp [.m 3 7] ?_
  refine then_normal (wp_seq ?_)
  obtain ⟨fpB, hm7⟩ := St.bk (L := []) (Qs := [pt0]) (St.bkNew (hst5.pick [1, 0] (by decide) rfl)) (ps := List.replicate n pgs0) (by rw [List.map_replicate]; rfl) (by rw [List.length_replicate]) (fun p hp => by rw [(List.mem_replicate.1 hp).2]; simp)
  simp only [List.nil_append] at hm7
  refine sqr (sqp [.m 8 3] ?_)
  refine sqk2 (fun A9_9 c9_9 => .slice A9_9 2 c9_9) (fun A9_9 c9_9 => eO 99 3 (.slice A9_9 2 c9_9) 2 ((begF 0).flatMap edC)) hm7 (fun cx => ⟨_, (rbegin_any 0 _).mono (by rintro e W1 ⟨A4, c4, rfl, ho_, hx⟩; exact ⟨_, _, rfl, St.one hx (eO_new (n := 2) (xs := (begF 0).flatMap edC) ho_)⟩), (map1 (cx.co _))⟩) fun A9_9 c9_9 W9 hst9 => ?_
  refine sqc0s (fun X_ => X_.fp) (.tuple #[]) (fun r2_10 => eBk B7_5 (doB (List.replicate n pgs0) (begF 0)) r2_10) 0 hst9 (by
      refine svA fun ρ β W X cx => ?_
      refine DoesU.call (run_callF (args := #[vp B7_5, .slice A9_9 2 c9_9]) rfl cx.sees rfl (by kernel_rfl) (map2 (cx.ou 8) (cx.ou 9))) ?_
      refine (rdo_any B7_5 (List.replicate n pgs0) _ n _ _ (begF 0) _ (CtxV.holdF cx (cx.init 0 _ rfl) rfl) (CtxV.ltF cx (cx.init 0 _ rfl) rfl) (CtxV.keepAt cx (cx.init 1 _ rfl) (cx.init 0 _ rfl) rfl rfl (by decide)) (by decide) (by rw [List.length_replicate]) hn (fun p hp => by rw [(List.mem_replicate.1 hp).2]; decide)).mono ?_
      rintro e W1 ⟨rfl, fp4, hs4⟩
      refine ⟨_, rfl, post_obj (E := eBk B7_5 (List.replicate n pgs0) fpB) [eBk B7_5 (doB (List.replicate n pgs0) (begF 0)) fp4] (cx.init 0 _ rfl) rfl rfl hs4 (fun σ β' X' hs hb hv hN => ?_)⟩
      have hv1 := (hv 10 rfl).1; have hv2 := (hv 10 rfl).2
      exact ⟨hv1.trans rfl, eBk_self ((List.cons.inj hN).1)⟩) fun r2_10 W10 hst10 => ?_
  refine then_normal (wp_seq (sqr (sqp [.m 11 3, .m 2 11] ?_)))
  refine then_normal (wp_ret ?_)
  refine bpr (vp B7_5) (results_1 Try.results45 rpt) ?_
  exact ⟨_, _, rfl, hst10.pick [0] (by decide) rfl⟩
end
end Go.Proofs.Ytjlcoglmjldjbaa
namespace Go.Proofs.Ytjlcoglmjldjbaa
section
open Go.RowKit
set_option linter.unusedVariables false
set_option linter.unusedSimpArgs false
theorem hdB_256 (rt : Int) (dead : Bool) (hi : ByteArray) : hdB 0 rt dead hi = hdB 256 rt dead hi := rfl
set_option maxRecDepth 100000 in
set_option maxHeartbeats 2000000 in
theorem khead_w (pg rt fr : Int) (hi : ByteArray) (dead : Bool) (EA : Option Addr) (en ec : Nat) (w : World) (hrt : -1 ≤ rt ∧ rt ≤ 1000000) (hh : hi.size ≤ 1000000) :
    Calls Try.prog 79 #[.agg #[.int .i64 pg, .int .i64 256, .int .i64 rt, .string hi, .bool dead, .slice EA en ec, .int .i64 fr]] w (Ret (.string (hdB 256 rt dead hi)) w) := by
  go_enter Try.func79, Try.ntmps79
  have hst0 := St.start w
  refine wp_seq (sqr ?_)
  refine sqbx #[vi pg, vi 256, vi rt, .string hi, .bool dead, .slice EA en ec, vi fr] hst0 fun B1_1 W1 hst1 => ?_
  refine sqp [.k 2 (.string ⟨#[]⟩)] ?_
  refine then_normal (wp_seq (sqr (sqp [.k 3 (vi 0)] ?_)))
  refine then_normal (wp_seq (wp_seq (sqr (sqp [.k 4 (.pointer (some ⟨B1_1, 4, none⟩))] ?_))))
  refine sqld 0 hst1 ?_
  refine then_normal (wbs (fun hs6 => ?_) fun hs6 => ?_)
  · refine sqr (sqp [.k 3 (vi 1)] ?_)
    refine then_normal (wp_seq (wp_region_Y [0, 1, 3, 0, 8, 31, 63, 0, 128, 384, 896, 2047, 0, 4096, 16383, 32767] [[], [0], [], [], [], [], [1], [], [0], [], [], [], [], [0]] [[], [], [], [], [], [1]] [] [.k 6 (.pointer (some ⟨B1_1, 1, none⟩)), .c 7 (vi 256), tW 8 .u8 256 0 (by decide), .k 9 (vi 1), tW 10 .u8 1 1 (by decide), .a 11, .c 12 (.string (strOfNums ([0, 1]))), .k 13 (.pointer (some ⟨B1_1, 2, none⟩)), .c 14 (vi rt), tI 15 (rt + 1) (by omega), .c 16 (.string (twoB (rt + 1))), tS 17 (strOfNums ([0, 1])) (twoB (rt + 1)) (by (try simp only [ByteArray.size_append, twoB_size, two_sz]); omega), .k 18 (.pointer (some ⟨B1_1, 3, none⟩)), .c 19 (.string hi), tS 20 ((strOfNums ([0, 1])) ++ (twoB (rt + 1))) hi (by (try simp only [ByteArray.size_append, twoB_size, two_sz]); omega), .k 2 (.string (((strOfNums ([0, 1])) ++ (twoB (rt + 1))) ++ hi))] (fun ix σ β X => match ix with | 0 => True | 1 => True | 2 => True | 3 => True | 4 => True | 5 => σ 11 = .slice (sA (β 11)) 2 2 ∧ X 1 = eO 5 1 (.slice (sA (β 11)) 2 2) 2 ([.int .u8 0, .int .u8 1]) | _ => True) [0, 1] [1, 5, 6, 8, 10, 13] [(2, 15, 1, 3), (3, 0, 15, 18)] hst1 ?_ ?_ ?_))
    · exact fun ix _ _ _ _ _ _ hs hb hx h => match ix, h with
      | 5, h => by dsimp only; rw [← hs 11 rfl, ← hb 11 rfl, ← hx 1 rfl]; exact h
      | 0, _ | 1, _ | 2, _ | 3, _ | 4, _ | _ + 6, _ => trivial
    · refine ⟨?_, ?_, ?_, ?_, ?_, ?_, trivial⟩
      · exact xs4 rfl id fun cx => run_load1 rfl (by kernel_rfl) (cx.an 0) ((cx.bi 0 rfl).cell 1)
      · refine svA fun ρ β W X cx => ?_
        have fF8 : ρ (.tmp 8) = .int .u8 0 := (cx.an 2)
        have fF10 : ρ (.tmp 10) = .int .u8 1 := (cx.an 4)
        exact dv_lit (e := 5) (xs := [.int .u8 0, .int .u8 1]) rfl (by simp [go_sem, fF8, fF10]) rfl (by decide) rfl rfl (fun σ β' X' hs hb hv hx => ⟨hv, hx⟩)
      · exact xs4 rfl id fun cx => run_convB (e := 5) rfl (by kernel_rfl) (by kernel_rfl) (by kernel_rfl) (dTn (cx.an 5)).1 (cx.row (dTn (cx.an 5)).2 rfl)
      · exact xs4 rfl id fun cx => run_load1 rfl (by kernel_rfl) (cx.an 7) ((cx.bi 0 rfl).cell 2)
      · exact xsc rfl id rfl rfl fun cx => ⟨_, knum_any (rt + 1) _, (map1 (cx.an 9))⟩
      · exact xs4 rfl id fun cx => run_load1 rfl (by kernel_rfl) (cx.an 12) ((cx.bi 0 rfl).cell 3)
    intro σ β X W8 hD hst8 fr hfr
    obtain ⟨A11_8, hu_A11_8⟩ : ∃ z, sA (β 11) = z := ⟨_, rfl⟩
    simp only [exq 1 ((dTn (hD 5 lq)).2), hu_A11_8] at hst8
    simp only [ed 11 ((dTn (hD 5 lq)).1), hu_A11_8] at hfr
    clear hD hu_A11_8; subst hfr; clear σ β X
    refine then_normal (wp_ret ?_)
    refine bpr (.string (((strOfNums ([0, 1])) ++ (twoB (rt + 1))) ++ hi)) (results_1 Try.results79 rpt) ?_
    exact Ret.of (by rw [← hdB_256]; simp [hdB, *]) hst8.ext
  refine wp_skip (then_normal (wp_seq (wp_region_Y [0, 1, 3, 0, 8, 31, 63, 0, 128, 384, 896, 2047, 0, 4096, 16383, 32767] [[], [0], [], [], [], [], [1], [], [0], [], [], [], [], [0]] [[], [], [], [], [], [1]] [] [.k 6 (.pointer (some ⟨B1_1, 1, none⟩)), .c 7 (vi 256), tW 8 .u8 256 0 (by decide), .k 9 (vi 0), tW 10 .u8 0 0 (by decide), .a 11, .c 12 (.string (strOfNums ([0, 0]))), .k 13 (.pointer (some ⟨B1_1, 2, none⟩)), .c 14 (vi rt), tI 15 (rt + 1) (by omega), .c 16 (.string (twoB (rt + 1))), tS 17 (strOfNums ([0, 0])) (twoB (rt + 1)) (by (try simp only [ByteArray.size_append, twoB_size, two_sz]); omega), .k 18 (.pointer (some ⟨B1_1, 3, none⟩)), .c 19 (.string hi), tS 20 ((strOfNums ([0, 0])) ++ (twoB (rt + 1))) hi (by (try simp only [ByteArray.size_append, twoB_size, two_sz]); omega), .k 2 (.string (((strOfNums ([0, 0])) ++ (twoB (rt + 1))) ++ hi))] (fun ix σ β X => match ix with | 0 => True | 1 => True | 2 => True | 3 => True | 4 => True | 5 => σ 11 = .slice (sA (β 11)) 2 2 ∧ X 1 = eO 5 1 (.slice (sA (β 11)) 2 2) 2 ([.int .u8 0, .int .u8 0]) | _ => True) [0, 1] [1, 5, 6, 8, 10, 13] [(2, 15, 1, 3), (3, 0, 15, 18)] hst1 ?_ ?_ ?_)))
  · exact fun ix _ _ _ _ _ _ hs hb hx h => match ix, h with
    | 5, h => by dsimp only; rw [← hs 11 rfl, ← hb 11 rfl, ← hx 1 rfl]; exact h
    | 0, _ | 1, _ | 2, _ | 3, _ | 4, _ | _ + 6, _ => trivial
  · refine ⟨?_, ?_, ?_, ?_, ?_, ?_, trivial⟩
    · exact xs4 rfl id fun cx => run_load1 rfl (by kernel_rfl) (cx.an 0) ((cx.bi 0 rfl).cell 1)
    · refine svA fun ρ β W X cx => ?_
      have fF8 : ρ (.tmp 8) = .int .u8 0 := (cx.an 2)
      have fF10 : ρ (.tmp 10) = .int .u8 0 := (cx.an 4)
      exact dv_lit (e := 5) (xs := [.int .u8 0, .int .u8 0]) rfl (by simp [go_sem, fF8, fF10]) rfl (by decide) rfl rfl (fun σ β' X' hs hb hv hx => ⟨hv, hx⟩)
    · exact xs4 rfl id fun cx => run_convB (e := 5) rfl (by kernel_rfl) (by kernel_rfl) (by kernel_rfl) (dTn (cx.an 5)).1 (cx.row (dTn (cx.an 5)).2 rfl)
    · exact xs4 rfl id fun cx => run_load1 rfl (by kernel_rfl) (cx.an 7) ((cx.bi 0 rfl).cell 2)
    · exact xsc rfl id rfl rfl fun cx => ⟨_, knum_any (rt + 1) _, (map1 (cx.an 9))⟩
    · exact xs4 rfl id fun cx => run_load1 rfl (by kernel_rfl) (cx.an 12) ((cx.bi 0 rfl).cell 3)
  intro σ β X W9 hD hst9 fr hfr
  obtain ⟨A11_9, hu_A11_9⟩ : ∃ z, sA (β 11) = z := ⟨_, rfl⟩
  simp only [exq 1 ((dTn (hD 5 lq)).2), hu_A11_9] at hst9
  simp only [ed 11 ((dTn (hD 5 lq)).1), hu_A11_9] at hfr
  clear hD hu_A11_9; subst hfr; clear σ β X
  refine then_normal (wp_ret ?_)
  refine bpr (.string (((strOfNums ([0, 0])) ++ (twoB (rt + 1))) ++ hi)) (results_1 Try.results79 rpt) ?_
  exact Ret.of (by rw [← hdB_256]; simp [hdB, *]) hst9.ext
set_option maxRecDepth 100000 in
set_option maxHeartbeats 2000000 in
theorem rhead_w (rt : Int) (hi : ByteArray) (ok dead : Bool) (EA SA KA : Option Addr) (en ec sn sc kn kc : Nat) (w : World) (hrt : -1 ≤ rt ∧ rt ≤ 1000000) (hh : hi.size ≤ 1000000) :
    Calls Try.prog 86 #[.agg #[.bool ok, .bool dead, .int .i64 256, .int .i64 rt, .string hi, .slice EA en ec, .slice SA sn sc, .slice KA kn kc]] w (Ret (.string (hdB 256 rt dead hi)) w) := by
  go_enter Try.func86, Try.ntmps86
  have hst0 := St.start w
  refine wp_seq (sqr ?_)
  refine sqbx #[.bool ok, .bool dead, vi 256, vi rt, .string hi, .slice EA en ec, .slice SA sn sc, .slice KA kn kc] hst0 fun B1_1 W1 hst1 => ?_
  refine sqp [.k 2 (.string ⟨#[]⟩)] ?_
  refine then_normal (wp_seq (sqr (sqp [.k 3 (vi 0)] ?_)))
  refine then_normal (wp_seq (wp_seq (sqr (sqp [.k 4 (.pointer (some ⟨B1_1, 1, none⟩))] ?_))))
  refine sqld 0 hst1 ?_
  refine then_normal (wbs (fun hs6 => ?_) fun hs6 => ?_)
  · refine sqr (sqp [.k 3 (vi 1)] ?_)
    refine then_normal (wp_seq (wp_region_Y [0, 1, 3, 0, 8, 31, 63, 0, 128, 384, 896, 2047, 0, 4096, 16383, 32767] [[], [0], [], [], [], [], [1], [], [0], [], [], [], [], [0]] [[], [], [], [], [], [1]] [] [.k 6 (.pointer (some ⟨B1_1, 2, none⟩)), .c 7 (vi 256), tW 8 .u8 256 0 (by decide), .k 9 (vi 1), tW 10 .u8 1 1 (by decide), .a 11, .c 12 (.string (strOfNums ([0, 1]))), .k 13 (.pointer (some ⟨B1_1, 3, none⟩)), .c 14 (vi rt), tI 15 (rt + 1) (by omega), .c 16 (.string (twoB (rt + 1))), tS 17 (strOfNums ([0, 1])) (twoB (rt + 1)) (by (try simp only [ByteArray.size_append, twoB_size, two_sz]); omega), .k 18 (.pointer (some ⟨B1_1, 4, none⟩)), .c 19 (.string hi), tS 20 ((strOfNums ([0, 1])) ++ (twoB (rt + 1))) hi (by (try simp only [ByteArray.size_append, twoB_size, two_sz]); omega), .k 2 (.string (((strOfNums ([0, 1])) ++ (twoB (rt + 1))) ++ hi))] (fun ix σ β X => match ix with | 0 => True | 1 => True | 2 => True | 3 => True | 4 => True | 5 => σ 11 = .slice (sA (β 11)) 2 2 ∧ X 1 = eO 5 1 (.slice (sA (β 11)) 2 2) 2 ([.int .u8 0, .int .u8 1]) | _ => True) [0, 1] [1, 5, 6, 8, 10, 13] [(2, 15, 1, 3), (3, 0, 15, 18)] hst1 ?_ ?_ ?_))
    · exact fun ix _ _ _ _ _ _ hs hb hx h => match ix, h with
      | 5, h => by dsimp only; rw [← hs 11 rfl, ← hb 11 rfl, ← hx 1 rfl]; exact h
      | 0, _ | 1, _ | 2, _ | 3, _ | 4, _ | _ + 6, _ => trivial
    · refine ⟨?_, ?_, ?_, ?_, ?_, ?_, trivial⟩
      · exact xs4 rfl id fun cx => run_load1 rfl (by kernel_rfl) (cx.an 0) ((cx.bi 0 rfl).cell 2)
      · refine svA fun ρ β W X cx => ?_
        have fF8 : ρ (.tmp 8) = .int .u8 0 := (cx.an 2)
        have fF10 : ρ (.tmp 10) = .int .u8 1 := (cx.an 4)
        exact dv_lit (e := 5) (xs := [.int .u8 0, .int .u8 1]) rfl (by simp [go_sem, fF8, fF10]) rfl (by decide) rfl rfl (fun σ β' X' hs hb hv hx => ⟨hv, hx⟩)
      · exact xs4 rfl id fun cx => run_convB (e := 5) rfl (by kernel_rfl) (by kernel_rfl) (by kernel_rfl) (dTn (cx.an 5)).1 (cx.row (dTn (cx.an 5)).2 rfl)
      · exact xs4 rfl id fun cx => run_load1 rfl (by kernel_rfl) (cx.an 7) ((cx.bi 0 rfl).cell 3)
      · exact xsc rfl id rfl rfl fun cx => ⟨_, rtwo_any (rt + 1) _, (map1 (cx.an 9))⟩
      · exact xs4 rfl id fun cx => run_load1 rfl (by kernel_rfl) (cx.an 12) ((cx.bi 0 rfl).cell 4)
    intro σ β X W8 hD hst8 fr hfr
    obtain ⟨A11_8, hu_A11_8⟩ : ∃ z, sA (β 11) = z := ⟨_, rfl⟩
    simp only [exq 1 ((dTn (hD 5 lq)).2), hu_A11_8] at hst8
    simp only [ed 11 ((dTn (hD 5 lq)).1), hu_A11_8] at hfr
    clear hD hu_A11_8; subst hfr; clear σ β X
    refine then_normal (wp_ret ?_)
    refine bpr (.string (((strOfNums ([0, 1])) ++ (twoB (rt + 1))) ++ hi)) (results_1 Try.results86 rpt) ?_
    exact Ret.of (by rw [← hdB_256]; simp [hdB, *]) hst8.ext
  refine wp_skip (then_normal (wp_seq (wp_region_Y [0, 1, 3, 0, 8, 31, 63, 0, 128, 384, 896, 2047, 0, 4096, 16383, 32767] [[], [0], [], [], [], [], [1], [], [0], [], [], [], [], [0]] [[], [], [], [], [], [1]] [] [.k 6 (.pointer (some ⟨B1_1, 2, none⟩)), .c 7 (vi 256), tW 8 .u8 256 0 (by decide), .k 9 (vi 0), tW 10 .u8 0 0 (by decide), .a 11, .c 12 (.string (strOfNums ([0, 0]))), .k 13 (.pointer (some ⟨B1_1, 3, none⟩)), .c 14 (vi rt), tI 15 (rt + 1) (by omega), .c 16 (.string (twoB (rt + 1))), tS 17 (strOfNums ([0, 0])) (twoB (rt + 1)) (by (try simp only [ByteArray.size_append, twoB_size, two_sz]); omega), .k 18 (.pointer (some ⟨B1_1, 4, none⟩)), .c 19 (.string hi), tS 20 ((strOfNums ([0, 0])) ++ (twoB (rt + 1))) hi (by (try simp only [ByteArray.size_append, twoB_size, two_sz]); omega), .k 2 (.string (((strOfNums ([0, 0])) ++ (twoB (rt + 1))) ++ hi))] (fun ix σ β X => match ix with | 0 => True | 1 => True | 2 => True | 3 => True | 4 => True | 5 => σ 11 = .slice (sA (β 11)) 2 2 ∧ X 1 = eO 5 1 (.slice (sA (β 11)) 2 2) 2 ([.int .u8 0, .int .u8 0]) | _ => True) [0, 1] [1, 5, 6, 8, 10, 13] [(2, 15, 1, 3), (3, 0, 15, 18)] hst1 ?_ ?_ ?_)))
  · exact fun ix _ _ _ _ _ _ hs hb hx h => match ix, h with
    | 5, h => by dsimp only; rw [← hs 11 rfl, ← hb 11 rfl, ← hx 1 rfl]; exact h
    | 0, _ | 1, _ | 2, _ | 3, _ | 4, _ | _ + 6, _ => trivial
  · refine ⟨?_, ?_, ?_, ?_, ?_, ?_, trivial⟩
    · exact xs4 rfl id fun cx => run_load1 rfl (by kernel_rfl) (cx.an 0) ((cx.bi 0 rfl).cell 2)
    · refine svA fun ρ β W X cx => ?_
      have fF8 : ρ (.tmp 8) = .int .u8 0 := (cx.an 2)
      have fF10 : ρ (.tmp 10) = .int .u8 0 := (cx.an 4)
      exact dv_lit (e := 5) (xs := [.int .u8 0, .int .u8 0]) rfl (by simp [go_sem, fF8, fF10]) rfl (by decide) rfl rfl (fun σ β' X' hs hb hv hx => ⟨hv, hx⟩)
    · exact xs4 rfl id fun cx => run_convB (e := 5) rfl (by kernel_rfl) (by kernel_rfl) (by kernel_rfl) (dTn (cx.an 5)).1 (cx.row (dTn (cx.an 5)).2 rfl)
    · exact xs4 rfl id fun cx => run_load1 rfl (by kernel_rfl) (cx.an 7) ((cx.bi 0 rfl).cell 3)
    · exact xsc rfl id rfl rfl fun cx => ⟨_, rtwo_any (rt + 1) _, (map1 (cx.an 9))⟩
    · exact xs4 rfl id fun cx => run_load1 rfl (by kernel_rfl) (cx.an 12) ((cx.bi 0 rfl).cell 4)
  intro σ β X W9 hD hst9 fr hfr
  obtain ⟨A11_9, hu_A11_9⟩ : ∃ z, sA (β 11) = z := ⟨_, rfl⟩
  simp only [exq 1 ((dTn (hD 5 lq)).2), hu_A11_9] at hst9
  simp only [ed 11 ((dTn (hD 5 lq)).1), hu_A11_9] at hfr
  clear hD hu_A11_9; subst hfr; clear σ β X
  refine then_normal (wp_ret ?_)
  refine bpr (.string (((strOfNums ([0, 0])) ++ (twoB (rt + 1))) ++ hi)) (results_1 Try.results86 rpt) ?_
  exact Ret.of (by rw [← hdB_256]; simp [hdB, *]) hst9.ext
theorem khead_le (pg lv rt fr : Int) (hi : ByteArray) (dead : Bool) (EA : Option Addr) (en ec : Nat) (w : World) (hlv : 0 ≤ lv ∧ lv ≤ 256) (hrt : -1 ≤ rt ∧ rt ≤ 1000000) (hh : hi.size ≤ 1000000) : Calls Try.prog 79 #[.agg #[.int .i64 pg, .int .i64 lv, .int .i64 rt, .string hi, .bool dead, .slice EA en ec, .int .i64 fr]] w (Ret (.string (hdB lv rt dead hi)) w) := by
  rcases Int.lt_or_eq_of_le hlv.2 with h | h
  · exact khead_any pg lv rt fr hi dead EA en ec w ⟨hlv.1, by omega⟩ hrt hh
  · subst h; exact khead_w pg rt fr hi dead EA en ec w hrt hh
theorem rhead_le (lv rt : Int) (hi : ByteArray) (ok dead : Bool) (EA SA KA : Option Addr) (en ec sn sc kn kc : Nat) (w : World) (hlv : 0 ≤ lv ∧ lv ≤ 256) (hrt : -1 ≤ rt ∧ rt ≤ 1000000) (hh : hi.size ≤ 1000000) : Calls Try.prog 86 #[.agg #[.bool ok, .bool dead, .int .i64 lv, .int .i64 rt, .string hi, .slice EA en ec, .slice SA sn sc, .slice KA kn kc]] w (Ret (.string (hdB lv rt dead hi)) w) := by
  rcases Int.lt_or_eq_of_le hlv.2 with h | h
  · exact rhead_any lv rt hi ok dead EA SA KA en ec sn sc kn kc w ⟨hlv.1, by omega⟩ hrt hh
  · subst h; exact rhead_w rt hi ok dead EA SA KA en ec sn sc kn kc w hrt hh
set_option maxRecDepth 100000 in
set_option maxHeartbeats 2000000 in
theorem rleast_any  (w : World) :
    Calls Try.prog 87 #[] w (Ret (.string leastB) w) := by
  go_enter Try.func87, Try.ntmps87
  have hst0 := St.start w
  refine wp_seq (sqr (sqp [.k 0 (.string ⟨#[]⟩)] ?_))
  refine then_normal (wp_seq (sqr (sqk (.string (twoB 0)) hst0 (fun cx => ⟨_, rtwo_any 0 _, (map1 (cx.co _))⟩) fun W2 hst2 => ?_)))
  refine sqk (.string (twoB 0)) hst2 (fun cx => ⟨_, rtwo_any 0 _, (map1 (cx.co _))⟩) fun W3 hst3 => ?_
  refine sqp [sS 3 (twoB 0) (twoB 0) (by (try simp only [ByteArray.size_append, twoB_size]); decide), .m 0 3] ?_
  refine then_normal (wp_ret ?_)
  refine bpr (.string ((twoB 0) ++ (twoB 0))) (results_1 Try.results87 rpt) ?_
  exact Ret.of (by rw [leastB, entF, show ByteArray.empty ++ twoB 0 = twoB 0 from rfl]) hst3.ext
set_option maxRecDepth 100000 in
set_option maxHeartbeats 2000000 in
theorem kleast_any  (w : World) :
    Calls Try.prog 85 #[] w (Ret (.string leastB) w) := by
  go_enter Try.func85, Try.ntmps85
  have hst0 := St.start w
  refine wp_seq (sqr (sqp [.k 0 (.string ⟨#[]⟩)] ?_))
  refine then_normal (wp_seq (sqr (sqp [.k 1 (.agg #[vi 0, vi 0])] ?_)))
  refine sqk (.string (entF (⟨#[]⟩ : ByteArray) 0 0)) hst0 (fun cx => ⟨_, kentry_any (⟨#[]⟩ : ByteArray) 0 0 _ (by decide), (map2 (cx.co _) (cx.ou 1))⟩) fun W3 hst3 => ?_
  refine sqp [.m 0 2] ?_
  refine then_normal (wp_ret ?_)
  refine bpr (.string (entF (⟨#[]⟩ : ByteArray) 0 0)) (results_1 Try.results85 rpt) ?_
  exact Ret.of rfl hst3.ext
theorem downF_at {x : ByteArray} {es : List EnD} {j : Nat} {d : Int} (h : j < es.length) : downF x (es.drop j) d = downF x (es.drop (j + 1)) (if d < 0 ∨ lessF x (es.getD j en0).1 = false then (es.getD j en0).2.2 else d) := by
  rw [List.drop_eq_getElem_cons h, downF, List.getD_eq_getElem?_getD, List.getElem?_eq_getElem h]; rfl
theorem dn_yes {d : Int} {q : Bool} (h : (decide (d < 0) || !q) = true) : d < 0 ∨ q = false := by simpa using h
theorem dn_no {d : Int} {q : Bool} (h : (decide (d < 0) || !q) = false) : ¬ (d < 0 ∨ q = false) := by
  intro h2
  rw [Bool.or_eq_false_iff, decide_eq_false_iff_not] at h
  rcases h2 with h2 | h2
  · exact h.1 h2
  · rw [h2] at h; exact absurd h.2 (by decide)
set_option maxRecDepth 100000 in
set_option maxHeartbeats 2000000 in
theorem rdown_any (lv rt : Int) (hi : ByteArray) (ok dead : Bool) (EA SA KA : Option Addr) (ec sn sc kc n : Nat) (x : ByteArray) (es : List EnD) (w : World) (hE : At w EA (es.map stv)) (hK : At w KA (es.map kdv)) (hn : es.length = n) (hez : ∀ e ∈ es, e.1.size ≤ 1000000) (hnb : n ≤ 100000) (hx : x.size ≤ 1000000) :
    Calls Try.prog 57 #[.agg #[.bool ok, .bool dead, .int .i64 lv, .int .i64 rt, .string hi, .slice EA n ec, .slice SA sn sc, .slice KA n kc], .string x] w (Ret (.int .i64 (downF x es (-1))) w) := by
  go_enter Try.func57, Try.ntmps57
  have hst0 := St.start w
  refine wp_seq (sqr ?_)
  refine sqbx #[.bool ok, .bool dead, vi lv, vi rt, .string hi, .slice EA n ec, .slice SA sn sc, .slice KA n kc] hst0 fun B2_1 W1 hst1 => ?_
  refine sqp [.k 4 (vi 0)] ?_
  refine then_normal (wp_seq (sqr (sqp [.k 5 (vi (-1))] ?_)))
  refine then_normal (wp_seq (wp_seq (sqr (sqp [.k 6 (vi 0)] ?_))))
  refine then_normal (wp_block ?_)
  refine wp_loopT (fun t_ mz az W => ∃ j : Nat, ∃ d : Int, j ≤ n ∧ downF x es (-1) = downF x (es.drop j) d ∧ mz = n - j ∧ az = ⟨(ovr (jv az) [(5, 5, 0, [vi d, vi ((j : Int))]), (0, 7, 26, [])] t_).toArray, []⟩ ∧ St w [] [eB B2_1 66 #[.bool ok, .bool dead, vi lv, vi rt, .string hi, .slice EA n ec, .slice SA sn sc, .slice KA n kc]] W) (n - 0) ?_ ?_
  · -- the loop begins
    exact ⟨0, (-1), Nat.zero_le _, rfl, rfl, (by kernel_rfl), hst1.pk [0]⟩
  rintro n5 a5 W5 ⟨j, d, hj, hI, rfl, hj_, hst5⟩
  refine ovz hj_ fun u5_ => ?_
  refine wp_seq (wp_seq (sqr (sqp [.m 8 6, .k 9 (.pointer (some ⟨B2_1, 5, none⟩))] ?_)))
  refine sqld 0 hst5 ?_
  refine sqp [.k 11 (vi ((n : Int))), .k 12 (.bool (decide ((j : Int) < (n : Int))))] ?_
  refine then_normal (wds (fun hs11 hs11p => ?_) fun hs11 hs11p => ?_)
  · refine wp_skip (then_normal (wp_seq (wp_block (wp_seq (sqr (sqp [.m 15 1, .k 16 (.pointer (some ⟨B2_1, 5, none⟩))] ?_))))))
    refine sqld 0 hst5 ?_
    refine sqp [.m 18 6] ?_
    refine sql (.pointer (some ((ad EA).add j))) hst5 (fun cx => run_indexSl (e := 9) (m := j) rfl (by kernel_rfl) (by kernel_rfl) (cx.ou 17) (cx.ou 18) (by omega) (by omega) (hE.ext cx.upd.to_ext) (by rw [List.length_map]; omega)) ?_
    refine sql (.string ((es.getD j en0).1)) hst5 (fun cx => run_load1 rfl (by kernel_rfl) (cx.ou 19) (At.cellAd (hE.ext cx.upd.to_ext) (st_get (by omega)))) ?_
    refine sqk (.bool (lessF x ((es.getD j en0).1))) hst5 (fun cx => ⟨_, rless_any x ((es.getD j en0).1) _ (by omega) (getD_size hez _), (map2 (cx.ou 15) (cx.ou 20))⟩) fun W18 hst18 => ?_
    refine sqp [.m 7 21] ?_
    refine then_normal (wp_seq (sqr (sqp [.m 22 5, .k 23 (.bool (decide (d < 0))), .m 24 23] ?_)))
    refine sqw 24 [25, 26] rfl (fun _ => sqp [.m 25 7, .k 26 (.bool (!(lessF x ((es.getD j en0).1))))] sqe) ?_
    refine sqp [sPo 27 (decide (d < 0)) (!(lessF x ((es.getD j en0).1)))] ?_
    refine then_normal (wbs (fun hs26 => ?_) fun hs26 => ?_)
    · have hs26p := hs26
      simp only [zB] at hs26p
      refine sqr (sqp [.k 28 (.pointer (some ⟨B2_1, 7, none⟩))] ?_)
      refine sqld 0 hst18 ?_
      refine sqp [.m 30 6] ?_
      refine sql (.pointer (some ((ad KA).add j))) hst18 (fun cx => run_indexSl (e := 3) (m := j) rfl (by kernel_rfl) (by kernel_rfl) (cx.ou 29) (cx.ou 30) (by omega) (by omega) (hK.ext cx.upd.to_ext) (by rw [List.length_map]; omega)) ?_
      refine sql (vi ((es.getD j en0).2.2)) hst18 (fun cx => run_load1 rfl (by kernel_rfl) (cx.ou 31) (At.cellAd (hK.ext cx.upd.to_ext) (kd_get (by omega)))) ?_
      refine sqp [.m 5 32] ?_
      refine blk_normal (then_normal (sqr (sqp [.m 13 6, sI 14 ((j : Int) + 1) (by omega), .m 6 14] ?_)))
      refine then_normal ?_
      refine ⟨n - ((j + 1)), by omega, ?_⟩
      exact ⟨(j + 1), ((es.getD j en0).2.2), by omega, by rw [hI, downF_at (by omega), if_pos (dn_yes hs26)], rfl, (by kernel_rfl), hst18.pk [0]⟩
    have hs26p := hs26
    simp only [zB] at hs26p
    obtain ⟨hs26p1, hs26p2⟩ := hs26p
    refine wp_skip (blk_normal (then_normal (sqr (sqp [.m 13 6, sI 14 ((j : Int) + 1) (by omega), .m 6 14] ?_))))
    refine then_normal ?_
    refine ⟨n - ((j + 1)), by omega, ?_⟩
    exact ⟨(j + 1), d, by omega, by rw [hI, downF_at (by omega), if_neg (dn_no hs26)], rfl, (by kernel_rfl), hst18.pk [0]⟩
  refine wp_exit (then_exit (then_exit (blk_eq (then_normal (wp_seq (sqr (sqp [.m 33 5, .m 4 33] ?_)))))))
  refine then_normal (wp_ret ?_)
  refine bpr (vi d) (results_1 Try.results57 rpt) ?_
  exact Ret.of (by rw [hI, List.drop_of_length_le (by omega)]; rfl) hst5.ext
theorem ed_snoc (O : List EdT) (e : EdT) : O.flatMap edC ++ edC e = (O ++ [e]).flatMap edC := by simp
theorem itsE_snoc {pg lv : Int} {i : Nat} {es : List EnD} : ∀ {k : Nat}, i < es.length → itsE pg lv k (es.take (i + 1)) = itsE pg lv k (es.take i) ++ [(pg, ((k + i : Nat) : Int), itB lv (es.getD i en0).2.2 (es.getD i en0).1)] := by
  induction i generalizing es with
  | zero =>
    intro k h
    cases es with
    | nil => simp at h
    | cons e es => simp [itsE]
  | succ i ih =>
    intro k h
    cases es with
    | nil => simp at h
    | cons e es =>
      rw [List.take_succ_cons, itsE, ih (k := k + 1) (by simpa using h), List.take_succ_cons, itsE, show k + 1 + i = k + (i + 1) by omega]
      simp
theorem clearE_snoc {pg : Int} {i : Nat} {es : List EnD} (h : i < es.length) : clearE pg (es.take (i + 1)) = clearE pg (es.take i) ++ [(pg, ((es.getD i en0).2.1 : Int), ByteArray.empty)] := by
  rw [List.take_add_one, clearE, List.map_append, List.getD_eq_getElem?_getD, List.getElem?_eq_getElem h]; rfl
def hd2E (pg lv rt : Int) (hi : ByteArray) : List EdT := [(pg, -1, strOfNums [2]), (pg, 0, hdB lv rt false hi)]
theorem fresh_all {pg lv rt : Int} {hi : ByteArray} {es : List EnD} {i : Nat} (h : es.length ≤ i) : hd2E pg lv rt hi ++ itsE pg lv 1 (es.take i) = freshE pg lv rt hi es := by rw [List.take_of_length_le h]; rfl
theorem Try.infoEdit : (Try.prog.info? 99).map (fun i => (i.zero, i.size, i.bytes)) = some (some (.agg #[.int .i64 0, .int .i64 0, .string ByteArray.empty]), 3, 32) := by kernel_rfl
/-- a step that makes a new page: the block of the insertion, the edits -/
def GrPost (b : Nat) (cells : Array Value) (eds : List EdT) (w : World) (e : Ending) (w' : World) : Prop := ∃ A c, e = .returned (.agg #[.slice A eds.length c, .bool true, .int .i64 0]) ∧ St w [b] [eB b 102 cells, eO 99 3 (.slice A eds.length c) eds.length (eds.flatMap edC)] w'
theorem clearE_all {pg : Int} {es : List EnD} {i : Nat} (h : es.length ≤ i) : clearE pg (es.take i) = clearE pg es := by rw [List.take_of_length_le h]
set_option maxRecDepth 100000 in
set_option maxHeartbeats 8000000 in
theorem rgrow_any (b : Nat) (root pos leaf fro to : Int) (spl : Bool) (LA : Option Addr) (ln lc : Nat) (nd : NoD) (EA SA KA : Option Addr) (ec sc kc n : Nat) (pg : Int) (w : World) (hb : Blk w b 102 #[.int .i64 root, .int .i64 pos, .int .i64 leaf, .slice LA ln lc, .int .i64 fro, .int .i64 to, .bool spl]) (hE : ∀ W, Upd [b] w W → At W EA (nd.es.map stv)) (hS : ∀ W, Upd [b] w W → At W SA (nd.es.map slv)) (hK : ∀ W, Upd [b] w W → At W KA (nd.es.map kdv)) (hn : nd.es.length = n) (hez : ∀ e ∈ nd.es, e.1.size ≤ 1000000) (hnb : n ≤ 1000) (hlv : 0 ≤ nd.lv ∧ nd.lv ≤ 255) (hpg : 0 ≤ pg ∧ pg ≤ 1000000) :
    Calls Try.prog 61 #[.pointer (some ⟨b, 0, none⟩), .agg #[.bool true, .bool nd.dead, .int .i64 nd.lv, .int .i64 nd.right, .string nd.high, .slice EA n ec, .slice SA n sc, .slice KA n kc], .int .i64 pg] w (GrPost b #[.int .i64 root, .int .i64 pg, .int .i64 leaf, .slice LA ln lc, .int .i64 fro, .int .i64 to, .bool spl] (growE root nd pg) w) := by
  have st0 := St.lend (E := eB b 102 #[.int .i64 root, .int .i64 pos, .int .i64 leaf, .slice LA ln lc, .int .i64 fro, .int .i64 to, .bool spl]) hb (eB_loc _ _ _) (fun k hk => by simp [eB] at hk; subst hk; exact hb.lt)
  go_enter Try.func61, Try.ntmps61
  have hst0 := st0
  refine wp_seq (sqr ?_)
  refine sqbx #[.bool true, .bool nd.dead, vi nd.lv, vi nd.right, .string nd.high, .slice EA n ec, .slice SA n sc, .slice KA n kc] hst0 fun B4_1 W1 hst1 => ?_
  refine sqal #[.slice none 0 0, .bool false, vi 0] hst1 fun B6_2 W2 hst2 => ?_
  refine then_normal (wp_seq (wp_region_Y [0, 0, 2, 7, 0, 0, 32, 96, 224, 496, 1023, 2047] [[], [], [3], [], [], [], [1]] [[], [3], [], [], [], [], [], [], [], [], [4]] [] [.k 10 (vi pg), .a 11, .c 12 (.string (strOfNums ([2]))), .k 13 (.agg #[vi pg, vi (-1), .string (strOfNums ([2]))]), .k 14 (vi pg), .k 15 (.pointer (some ⟨B4_1, 2, none⟩)), .c 16 (vi nd.lv), .k 17 (.agg #[.bool false, .bool false, vi nd.lv, vi (-1), .string ByteArray.empty, .slice none 0 0, .slice none 0 0, .slice none 0 0]), .c 18 (.string (hdB nd.lv (-1) false ByteArray.empty)), .k 19 (.agg #[vi pg, vi 0, .string (hdB nd.lv (-1) false ByteArray.empty)]), .a 20, .a 7] (fun ix σ β X => match ix with | 0 => True | 1 => σ 11 = .slice (sA (β 11)) 1 1 ∧ X 3 = eO 5 1 (.slice (sA (β 11)) 1 1) 1 ([.int .u8 2]) | 2 => True | 3 => True | 4 => True | 5 => True | 6 => True | 7 => True | 8 => True | 9 => True | 10 => σ 20 = .slice ((some ⟨(pb' (β 20)), 0, none⟩)) 2 2 ∧ X 4 = eO 99 3 (.slice ((some ⟨(pb' (β 20)), 0, none⟩)) 2 2) 2 ([vi pg, vi (-1), .string (strOfNums ([2])), vi pg, vi 0, .string (hdB nd.lv (-1) false ByteArray.empty)]) | 11 => σ 7 = .slice ((some ⟨(pb' (β 20)), 0, none⟩)) 2 2 | _ => True) [0, 1, 2, 3, 4] [1, 2, 6, 8, 10, 11] [(7, 11, 1, 8), (2, 0, 11, 13)] hst2 ?_ ?_ ?_))
  · exact fun ix _ _ _ _ _ _ hs hb hx h => match ix, h with
    | 1, h => by dsimp only; rw [← hs 11 rfl, ← hb 11 rfl, ← hx 3 rfl]; exact h
    | 10, h => by dsimp only; rw [← hs 20 rfl, ← hb 20 rfl, ← hx 4 rfl]; exact h
    | 11, h => by dsimp only; rw [← hs 7 rfl, ← hb 20 rfl]; exact h
    | 0, _ | 2, _ | 3, _ | 4, _ | 5, _ | 6, _ | 7, _ | 8, _ | 9, _ | _ + 12, _ => trivial
  · refine ⟨?_, ?_, ?_, ?_, ?_, ?_, trivial⟩
    · refine svA fun ρ β W X cx => ?_
      exact dv_lit (e := 5) (xs := [.int .u8 2]) rfl (by simp [go_sem, cx.sees.const]) rfl (by decide) rfl rfl (fun σ β' X' hs hb hv hx => ⟨hv, hx⟩)
    · exact xs4 rfl id fun cx => run_convB (e := 5) rfl (by kernel_rfl) (by kernel_rfl) (by kernel_rfl) (dTn (cx.an 1)).1 (cx.row (dTn (cx.an 1)).2 rfl)
    · exact xs4 rfl id fun cx => run_load1 rfl (by kernel_rfl) (cx.an 5) ((cx.bi 1 rfl).cell 2)
    · exact xsc rfl id rfl rfl fun cx => ⟨_, rhead_le nd.lv (-1) ByteArray.empty false false _ _ _ _ _ _ _ _ _ _ (by omega) (by omega) (by first | omega | decide), (map1 (cx.an 7))⟩
    · refine svA fun ρ β W X cx => ?_
      have fF13 : ρ (.tmp 13) = .agg #[vi pg, vi (-1), .string (strOfNums ([2]))] := (cx.an 3)
      have fF19 : ρ (.tmp 19) = .agg #[vi pg, vi 0, .string (hdB nd.lv (-1) false ByteArray.empty)] := (cx.an 9)
      exact dv_litN (e := 99) (sz := 3) (xs := [vi pg, vi (-1), .string (strOfNums ([2])), vi pg, vi 0, .string (hdB nd.lv (-1) false ByteArray.empty)]) rfl (by simp [go_sem, fF13, fF19]) rfl (by decide) rfl rfl (fun σ β' X' hs hb hv hx => ⟨hv, hx⟩)
    · exact sv rfl rfl rfl rfl rfl _ (fun _ _ _ h => h) (fun β β' h => by rw [h 20 (by decide)]) fun ρ β W X cx => run_assign' rfl (dTn (cx.an 10)).1
  intro σ β X W3 hD hst3 fr hfr
  obtain ⟨A11_3, hu_A11_3⟩ : ∃ z, sA (β 11) = z := ⟨_, rfl⟩
  obtain ⟨B20_3, hu_B20_3⟩ : ∃ z, pb' (β 20) = z := ⟨_, rfl⟩
  simp only [exq 3 ((dTn (hD 1 lq)).2), exq 4 ((dTn (hD 10 lq)).2), hu_A11_3, hu_B20_3] at hst3
  simp only [ed 11 ((dTn (hD 1 lq)).1), ed 20 ((dTn (hD 10 lq)).1), ed 7 ((dTn (hD 11 lq))), hu_A11_3, hu_B20_3] at hfr
  clear hD hu_A11_3 hu_B20_3; subst hfr; clear σ β X
  refine then_normal (wp_seq (wp_seq (sqr (sqp [.k 8 (vi 0)] ?_))))
  refine then_normal (wp_block ?_)
  rw [show [vi pg, vi (-1), .string (strOfNums ([2])), vi pg, vi 0, .string (hdB nd.lv (-1) false ByteArray.empty)] = (hd2E pg nd.lv (-1) ⟨#[]⟩).flatMap edC from rfl] at hst3
  refine wp_loopT (fun t_ mz az W => ∃ i : Nat, ∃ nn : Nat, ∃ O : List EdT, ∃ OA : Option Addr, ∃ OC : Nat, i ≤ n ∧ O = hd2E pg nd.lv (-1) ⟨#[]⟩ ++ itsE pg nd.lv 1 (nd.es.take i) ∧ O.length = nn ∧ nn ≤ 10 + i ∧ mz = n - i ∧ az = ⟨(ovr (jv az) [(7, 7, 0, [.slice OA nn OC, vi ((i : Int))]), (12, 21, 27, [])] t_).toArray, []⟩ ∧ St w [b] [eB b 102 #[vi root, vi pos, vi leaf, .slice LA ln lc, vi fro, vi to, .bool spl], eB B4_1 66 #[.bool true, .bool nd.dead, vi nd.lv, vi nd.right, .string nd.high, .slice EA n ec, .slice SA n sc, .slice KA n kc], eB B6_2 39 #[.slice none 0 0, .bool false, vi 0], eO 5 1 (.slice A11_3 1 1) 1 ([.int .u8 2]), eO 99 3 (.slice OA nn OC) nn (O.flatMap edC)] W) (n - 0) ?_ ?_
  · -- the loop begins
    exact ⟨0, 2, (hd2E pg nd.lv (-1) ⟨#[]⟩), (some ⟨B20_3, 0, none⟩), 2, Nat.zero_le _, rfl, rfl, by omega, rfl, (by kernel_rfl), hst3.pk [0, 1, 2, 3, 4]⟩
  rintro n5 a5 W5 ⟨i, nn, O, OA, OC, hi, hO, hOl, hnn, rfl, hj_, hst5⟩
  refine ovz hj_ fun u5_ => ?_
  refine wp_seq (wp_seq (sqr (sqp [.m 21 8, .k 22 (.pointer (some ⟨B4_1, 5, none⟩))] ?_)))
  refine sqld 1 hst5 ?_
  refine sqp [.k 24 (vi ((n : Int))), .k 25 (.bool (decide ((i : Int) < (n : Int))))] ?_
  refine then_normal (wds (fun hs11 hs11p => ?_) fun hs11 hs11p => ?_)
  · refine wp_skip (then_normal (wp_seq (wp_block (wp_region_Y [0, 0, 0, 4, 0, 16, 0, 112, 240, 0, 512, 0, 2048, 0, 14336, 30720, 65520, 131070, 262142, 524287, 1048575] [[], [], [], [], [], [1], [], [], [], [], [1], [], [1], [], [], [], [], [], [], [5, 4]] [[], [], [], [], [], [], [], [], [], [], [], [], [], [], [], [], [], [], [5], [6]] [[], [], [], [], [], [], [], [], [], [], [], [], [], [], [], [], [], [], [], [4]] [.k 28 (.slice OA nn OC), .k 29 (vi pg), .k 30 (vi ((i : Int))), tI 31 ((i : Int) + 1) (by omega), .k 32 (.pointer (some ⟨B4_1, 5, none⟩)), .c 33 (.slice EA n ec), .k 34 (vi ((i : Int))), .c 35 (.pointer (some ((ad EA).add i))), .c 36 (.string ((nd.es.getD i en0).1)), .k 37 (.pointer (some ⟨B4_1, 2, none⟩)), .c 38 (vi nd.lv), .k 39 (.pointer (some ⟨B4_1, 7, none⟩)), .c 40 (.slice KA n kc), .k 41 (vi ((i : Int))), .c 42 (.pointer (some ((ad KA).add i))), .c 43 (vi ((nd.es.getD i en0).2.2)), .c 44 (.string (itB nd.lv ((nd.es.getD i en0).2.2) ((nd.es.getD i en0).1))), .k 45 (.agg #[vi pg, vi ((i : Int) + 1), .string (itB nd.lv ((nd.es.getD i en0).2.2) ((nd.es.getD i en0).1))]), .a 46, .a 47, .a 7] (fun ix σ β X => match ix with | 0 => True | 1 => True | 2 => True | 3 => True | 4 => True | 5 => True | 6 => True | 7 => True | 8 => True | 9 => True | 10 => True | 11 => True | 12 => True | 13 => True | 14 => True | 15 => True | 16 => True | 17 => True | 18 => σ 46 = .slice ((some ⟨(pb' (β 46)), 0, none⟩)) 1 1 ∧ X 5 = eO 99 3 (.slice ((some ⟨(pb' (β 46)), 0, none⟩)) 1 1) 1 (edC (pg, (i : Int) + 1, itB nd.lv ((nd.es.getD i en0).2.2) ((nd.es.getD i en0).1))) | 19 => σ 47 = .slice (sA (β 47)) (nn + 1) (sC (β 47)) ∧ X 6 = eO 99 3 (.slice (sA (β 47)) (nn + 1) (sC (β 47))) (nn + 1) ((O ++ [(pg, (i : Int) + 1, itB nd.lv ((nd.es.getD i en0).2.2) ((nd.es.getD i en0).1))]).flatMap edC) | 20 => σ 7 = .slice (sA (β 47)) (nn + 1) (sC (β 47)) | _ => True) [0, 1, 2, 3, 5, 6] [5, 7, 8, 10, 12, 14, 15, 16, 18, 19, 20] [(7, 20, 1, 8), (20, 0, 20, 40)] hst5 ?_ ?_ ?_))))
    · exact fun ix _ _ _ _ _ _ hs hb hx h => match ix, h with
      | 18, h => by dsimp only; rw [← hs 46 rfl, ← hb 46 rfl, ← hx 5 rfl]; exact h
      | 19, h => by dsimp only; rw [← hs 47 rfl, ← hb 47 rfl, ← hx 6 rfl]; exact h
      | 20, h => by dsimp only; rw [← hs 7 rfl, ← hb 47 rfl]; exact h
      | 0, _ | 1, _ | 2, _ | 3, _ | 4, _ | 5, _ | 6, _ | 7, _ | 8, _ | 9, _ | 10, _ | 11, _ | 12, _ | 13, _ | 14, _ | 15, _ | 16, _ | 17, _ | _ + 21, _ => trivial
    · refine ⟨?_, ?_, ?_, ?_, ?_, ?_, ?_, ?_, ?_, ?_, ?_, trivial⟩
      · exact xs4 rfl id fun cx => run_load1 rfl (by kernel_rfl) (cx.an 4) ((cx.bi 1 rfl).cell 5)
      · exact xs4 rfl id fun cx => run_indexSl (e := 9) (m := i) rfl (by kernel_rfl) (by kernel_rfl) (cx.an 5) (cx.an 6) (by omega) (by omega) (hE _ cx.upd) (by rw [List.length_map]; omega)
      · exact xs4 rfl id fun cx => run_load1 rfl (by kernel_rfl) (cx.an 7) (At.cellAd (hE _ cx.upd) (st_get (by omega)))
      · exact xs4 rfl id fun cx => run_load1 rfl (by kernel_rfl) (cx.an 9) ((cx.bi 1 rfl).cell 2)
      · exact xs4 rfl id fun cx => run_load1 rfl (by kernel_rfl) (cx.an 11) ((cx.bi 1 rfl).cell 7)
      · exact xs4 rfl id fun cx => run_indexSl (e := 3) (m := i) rfl (by kernel_rfl) (by kernel_rfl) (cx.an 12) (cx.an 13) (by omega) (by omega) (hK _ cx.upd) (by rw [List.length_map]; omega)
      · exact xs4 rfl id fun cx => run_load1 rfl (by kernel_rfl) (cx.an 14) (At.cellAd (hK _ cx.upd) (kd_get (by omega)))
      · exact xsc rfl id rfl rfl fun cx => ⟨_, ritem_any ((nd.es.getD i en0).1) nd.lv ((nd.es.getD i en0).2.2) _ (getD_size hez _), (map3 (cx.an 8) (cx.an 10) (cx.an 15))⟩
      · refine svA fun ρ β W X cx => ?_
        have fF45 : ρ (.tmp 45) = .agg #[vi pg, vi ((i : Int) + 1), .string (itB nd.lv ((nd.es.getD i en0).2.2) ((nd.es.getD i en0).1))] := (cx.an 17)
        exact dv_litN (e := 99) (sz := 3) (xs := [vi pg, vi ((i : Int) + 1), .string (itB nd.lv ((nd.es.getD i en0).2.2) ((nd.es.getD i en0).1))]) rfl (by simp [go_sem, fF45]) rfl (by decide) rfl rfl (fun σ β' X' hs hb hv hx => ⟨hv, hx⟩)
      · refine svA fun ρ β W X cx => ?_
        obtain ⟨i0, hi0, hz0, hz1, hz2⟩ := info_parts Try.infoEdit
        refine dv_appendN (n := nn) (m := 1) (nm := nn + 1) (sz := 3) (xs := O.flatMap edC) (news := edC (pg, (i : Int) + 1, itB nd.lv ((nd.es.getD i en0).2.2) ((nd.es.getD i en0).1))) (xs' := (O ++ [(pg, (i : Int) + 1, itB nd.lv ((nd.es.getD i en0).2.2) ((nd.es.getD i en0).1))]).flatMap edC) rfl (ty := 34) rfl (by kernel_rfl) hi0 hz0 hz1 hz2 rfl (by decide) (cx.an 0) cx (cx.init 4 _ rfl) rfl (dTn (cx.an 18)).1 (by rfl) (At.of_ownN (cx.row (dTn (cx.an 18)).2 rfl)) (by simp [edC, Value.oneCell']) (by simp only [maxLen]; omega) (by omega) rfl rfl rfl (by omega) (ed_snoc _ _) (fun σ β' X' hs hb hv hx => ?_)
        exact ⟨hv, hx⟩
      · exact sv rfl rfl rfl rfl rfl _ (fun _ _ _ h => h) (fun β β' h => by rw [h 47 (by decide)]) fun ρ β W X cx => run_assign' rfl (dTn (cx.an 19)).1
    intro σ β X W12 hD hst12 fr hfr
    obtain ⟨B46_12, hu_B46_12⟩ : ∃ z, pb' (β 46) = z := ⟨_, rfl⟩
    obtain ⟨A47_12, hu_A47_12⟩ : ∃ z, sA (β 47) = z := ⟨_, rfl⟩
    obtain ⟨c47_12, hu_c47_12⟩ : ∃ z, sC (β 47) = z := ⟨_, rfl⟩
    simp only [exq 5 ((dTn (hD 18 lq)).2), exq 6 ((dTn (hD 19 lq)).2), hu_B46_12, hu_A47_12, hu_c47_12] at hst12
    simp only [ed 46 ((dTn (hD 18 lq)).1), ed 47 ((dTn (hD 19 lq)).1), ed 7 ((dTn (hD 20 lq))), hu_B46_12, hu_A47_12, hu_c47_12] at hfr
    clear hD hu_B46_12 hu_A47_12 hu_c47_12; subst hfr; clear σ β X
    refine blk_normal (then_normal (sqr (sqp [.m 26 8, sI 27 ((i : Int) + 1) (by omega), .m 8 27] ?_)))
    refine then_normal ?_
    refine ⟨n - ((i + 1)), by omega, ?_⟩
    exact ⟨(i + 1), (nn + 1), (O ++ [(pg, (i : Int) + 1, itB nd.lv ((nd.es.getD i en0).2.2) ((nd.es.getD i en0).1))]), A47_12, c47_12, by omega, by rw [hO, itsE_snoc (by omega), ← List.append_assoc]; (first | rfl | (congr 4; omega) | simp), by rw [List.length_append, hOl]; rfl, by omega, rfl, (by kernel_rfl), hst12.pk [0, 1, 2, 3, 5]⟩
  refine wp_exit (then_exit (then_exit (blk_eq (then_normal (wp_seq ?_)))))
  rw [fresh_all (by omega)] at hO
  have hlv1 : 0 ≤ nd.lv + 1 ∧ nd.lv + 1 ≤ 256 := by omega
  refine wp_region_Y [0, 0, 2, 6, 14, 0, 32, 96, 224, 480, 1022, 2046, 4095, 8191] [[], [], [], [], [0], [], [1], [], [], [], [], [], [5, 4]] [[], [], [], [], [], [], [], [], [], [], [], [5], [6]] [[], [], [], [], [], [], [], [], [], [], [], [], [4]] [.k 48 (.slice OA nn OC), .k 49 (vp b), .k 50 (vp b), .k 51 (vp b), .c 52 (vi root), .k 53 (.pointer (some ⟨B4_1, 2, none⟩)), .c 54 (vi nd.lv), tI 55 (nd.lv + 1) (by omega), .k 56 (.agg #[.bool false, .bool false, vi (nd.lv + 1), vi (-1), .string ByteArray.empty, .slice none 0 0, .slice none 0 0, .slice none 0 0]), .c 57 (.string (hdB (nd.lv + 1) (-1) false ByteArray.empty)), .k 58 (.agg #[vi root, vi 0, .string (hdB (nd.lv + 1) (-1) false ByteArray.empty)]), .a 59, .a 60, .a 7] (fun ix σ β X => match ix with | 0 => True | 1 => True | 2 => True | 3 => True | 4 => True | 5 => True | 6 => True | 7 => True | 8 => True | 9 => True | 10 => True | 11 => σ 59 = .slice ((some ⟨(pb' (β 59)), 0, none⟩)) 1 1 ∧ X 5 = eO 99 3 (.slice ((some ⟨(pb' (β 59)), 0, none⟩)) 1 1) 1 (edC (root, 0, hdB (nd.lv + 1) (-1) false ByteArray.empty)) | 12 => σ 60 = .slice (sA (β 60)) (nn + 1) (sC (β 60)) ∧ X 6 = eO 99 3 (.slice (sA (β 60)) (nn + 1) (sC (β 60))) (nn + 1) ((O ++ [(root, 0, hdB (nd.lv + 1) (-1) false ByteArray.empty)]).flatMap edC) | 13 => σ 7 = .slice (sA (β 60)) (nn + 1) (sC (β 60)) | _ => True) [0, 1, 2, 3, 5, 6] [4, 6, 9, 11, 12, 13] [(7, 13, 1, 8), (40, 0, 13, 53)] hst5 ?_ ?_ ?_
  · exact fun ix _ _ _ _ _ _ hs hb hx h => match ix, h with
    | 11, h => by dsimp only; rw [← hs 59 rfl, ← hb 59 rfl, ← hx 5 rfl]; exact h
    | 12, h => by dsimp only; rw [← hs 60 rfl, ← hb 60 rfl, ← hx 6 rfl]; exact h
    | 13, h => by dsimp only; rw [← hs 7 rfl, ← hb 60 rfl]; exact h
    | 0, _ | 1, _ | 2, _ | 3, _ | 4, _ | 5, _ | 6, _ | 7, _ | 8, _ | 9, _ | 10, _ | _ + 14, _ => trivial
  · refine ⟨?_, ?_, ?_, ?_, ?_, ?_, trivial⟩
    · exact xs4 rfl id fun cx => run_load1 rfl (by kernel_rfl) (cx.an 3) ((cx.bi 0 rfl).cell 0)
    · exact xs4 rfl id fun cx => run_load1 rfl (by kernel_rfl) (cx.an 5) ((cx.bi 1 rfl).cell 2)
    · exact xsc rfl id rfl rfl fun cx => ⟨_, rhead_le (nd.lv + 1) (-1) ByteArray.empty false false _ _ _ _ _ _ _ _ _ _ (by omega) (by omega) (by first | omega | decide), (map1 (cx.an 8))⟩
    · refine svA fun ρ β W X cx => ?_
      have fF58 : ρ (.tmp 58) = .agg #[vi root, vi 0, .string (hdB (nd.lv + 1) (-1) false ByteArray.empty)] := (cx.an 10)
      exact dv_litN (e := 99) (sz := 3) (xs := [vi root, vi 0, .string (hdB (nd.lv + 1) (-1) false ByteArray.empty)]) rfl (by simp [go_sem, fF58]) rfl (by decide) rfl rfl (fun σ β' X' hs hb hv hx => ⟨hv, hx⟩)
    · refine svA fun ρ β W X cx => ?_
      obtain ⟨i0, hi0, hz0, hz1, hz2⟩ := info_parts Try.infoEdit
      refine dv_appendN (n := nn) (m := 1) (nm := nn + 1) (sz := 3) (xs := O.flatMap edC) (news := edC (root, 0, hdB (nd.lv + 1) (-1) false ByteArray.empty)) (xs' := (O ++ [(root, 0, hdB (nd.lv + 1) (-1) false ByteArray.empty)]).flatMap edC) rfl (ty := 34) rfl (by kernel_rfl) hi0 hz0 hz1 hz2 rfl (by decide) (cx.an 0) cx (cx.init 4 _ rfl) rfl (dTn (cx.an 11)).1 (by rfl) (At.of_ownN (cx.row (dTn (cx.an 11)).2 rfl)) (by simp [edC, Value.oneCell']) (by simp only [maxLen]; omega) (by omega) rfl rfl rfl (by omega) (ed_snoc _ _) (fun σ β' X' hs hb hv hx => ?_)
      exact ⟨hv, hx⟩
    · exact sv rfl rfl rfl rfl rfl _ (fun _ _ _ h => h) (fun β β' h => by rw [h 60 (by decide)]) fun ρ β W X cx => run_assign' rfl (dTn (cx.an 12)).1
  intro σ β X W16 hD hst16 fr hfr
  obtain ⟨B59_16, hu_B59_16⟩ : ∃ z, pb' (β 59) = z := ⟨_, rfl⟩
  obtain ⟨A60_16, hu_A60_16⟩ : ∃ z, sA (β 60) = z := ⟨_, rfl⟩
  obtain ⟨c60_16, hu_c60_16⟩ : ∃ z, sC (β 60) = z := ⟨_, rfl⟩
  simp only [exq 5 ((dTn (hD 11 lq)).2), exq 6 ((dTn (hD 12 lq)).2), hu_B59_16, hu_A60_16, hu_c60_16] at hst16
  simp only [ed 59 ((dTn (hD 11 lq)).1), ed 60 ((dTn (hD 12 lq)).1), ed 7 ((dTn (hD 13 lq))), hu_B59_16, hu_A60_16, hu_c60_16] at hfr
  clear hD hu_B59_16 hu_A60_16 hu_c60_16; subst hfr; clear σ β X
  refine then_normal (wp_seq (wp_seq (sqr (sqp [.k 9 (vi 0)] ?_))))
  refine then_normal (wp_block ?_)
  refine wp_loopT (fun t_ mz az W => ∃ j : Nat, ∃ nn : Nat, ∃ O : List EdT, ∃ OA : Option Addr, ∃ OC : Nat, j ≤ n ∧ O = freshE pg nd.lv (-1) ⟨#[]⟩ nd.es ++ [(root, 0, hdB (nd.lv + 1) (-1) false ⟨#[]⟩)] ++ clearE root (nd.es.take j) ∧ O.length = nn ∧ nn ≤ 2000 + j ∧ mz = n - j ∧ az = ⟨(ovr (jv az) [(7, 7, 0, [.slice OA nn OC]), (1, 9, 0, [vi ((j : Int))]), (51, 61, 20, [])] t_).toArray, []⟩ ∧ St w [b] [eB b 102 #[vi root, vi pos, vi leaf, .slice LA ln lc, vi fro, vi to, .bool spl], eB B4_1 66 #[.bool true, .bool nd.dead, vi nd.lv, vi nd.right, .string nd.high, .slice EA n ec, .slice SA n sc, .slice KA n kc], eB B6_2 39 #[.slice none 0 0, .bool false, vi 0], eO 5 1 (.slice A11_3 1 1) 1 ([.int .u8 2]), eO 99 3 (.slice ((some ⟨B59_16, 0, none⟩)) 1 1) 1 (edC (root, 0, hdB (nd.lv + 1) (-1) false ByteArray.empty)), eO 99 3 (.slice OA nn OC) nn (O.flatMap edC)] W) (n - 0) ?_ ?_
  · -- the loop begins
    exact ⟨0, nn + 1, (O ++ [(root, 0, hdB (nd.lv + 1) (-1) false ByteArray.empty)]), A60_16, c60_16, Nat.zero_le _, by rw [hO, List.take_zero]; exact (List.append_nil _).symm, by rw [List.length_append, hOl]; rfl, by omega, rfl, (by kernel_rfl), hst16.pk [0, 1, 2, 3, 4, 5]⟩
  rintro n18 a18 W18 ⟨j, nn, O, OA, OC, hj, hO, hOl, hnn, rfl, hj_, hst18⟩
  refine ovz hj_ fun u18_ => ?_
  refine wp_seq (wp_seq (sqr (sqp [.m 61 9, .k 62 (.pointer (some ⟨B4_1, 6, none⟩))] ?_)))
  refine sqld 1 hst18 ?_
  refine sqp [.k 64 (vi ((n : Int))), .k 65 (.bool (decide ((j : Int) < (n : Int))))] ?_
  refine then_normal (wds (fun hs24 hs24p => ?_) fun hs24 hs24p => ?_)
  · refine wp_skip (then_normal (wp_seq (wp_block (wp_region_Y [0, 0, 2, 6, 14, 0, 32, 0, 224, 480, 1022, 2046, 4095, 8191] [[], [], [], [], [0], [], [1], [], [], [], [], [], [6, 5]] [[], [], [], [], [], [], [], [], [], [], [], [6], [7]] [[], [], [], [], [], [], [], [], [], [], [], [], [5]] [.k 68 (.slice OA nn OC), .k 69 (vp b), .k 70 (vp b), .k 71 (vp b), .c 72 (vi root), .k 73 (.pointer (some ⟨B4_1, 6, none⟩)), .c 74 (.slice SA n sc), .k 75 (vi ((j : Int))), .c 76 (.pointer (some ((ad SA).add j))), .c 77 (vi (((nd.es.getD j en0).2.1 : Int))), .k 78 (.agg #[vi root, vi (((nd.es.getD j en0).2.1 : Int)), .string ByteArray.empty]), .a 79, .a 80, .a 7] (fun ix σ β X => match ix with | 0 => True | 1 => True | 2 => True | 3 => True | 4 => True | 5 => True | 6 => True | 7 => True | 8 => True | 9 => True | 10 => True | 11 => σ 79 = .slice ((some ⟨(pb' (β 79)), 0, none⟩)) 1 1 ∧ X 6 = eO 99 3 (.slice ((some ⟨(pb' (β 79)), 0, none⟩)) 1 1) 1 (edC (root, ((nd.es.getD j en0).2.1 : Int), ByteArray.empty)) | 12 => σ 80 = .slice (sA (β 80)) (nn + 1) (sC (β 80)) ∧ X 7 = eO 99 3 (.slice (sA (β 80)) (nn + 1) (sC (β 80))) (nn + 1) ((O ++ [(root, ((nd.es.getD j en0).2.1 : Int), ByteArray.empty)]).flatMap edC) | 13 => σ 7 = .slice (sA (β 80)) (nn + 1) (sC (β 80)) | _ => True) [0, 1, 2, 3, 4, 6, 7] [4, 6, 8, 9, 11, 12, 13] [(7, 13, 1, 8), (60, 0, 13, 73)] hst18 ?_ ?_ ?_))))
    · exact fun ix _ _ _ _ _ _ hs hb hx h => match ix, h with
      | 11, h => by dsimp only; rw [← hs 79 rfl, ← hb 79 rfl, ← hx 6 rfl]; exact h
      | 12, h => by dsimp only; rw [← hs 80 rfl, ← hb 80 rfl, ← hx 7 rfl]; exact h
      | 13, h => by dsimp only; rw [← hs 7 rfl, ← hb 80 rfl]; exact h
      | 0, _ | 1, _ | 2, _ | 3, _ | 4, _ | 5, _ | 6, _ | 7, _ | 8, _ | 9, _ | 10, _ | _ + 14, _ => trivial
    · refine ⟨?_, ?_, ?_, ?_, ?_, ?_, ?_, trivial⟩
      · exact xs4 rfl id fun cx => run_load1 rfl (by kernel_rfl) (cx.an 3) ((cx.bi 0 rfl).cell 0)
      · exact xs4 rfl id fun cx => run_load1 rfl (by kernel_rfl) (cx.an 5) ((cx.bi 1 rfl).cell 6)
      · exact xs4 rfl id fun cx => run_indexSl (e := 3) (m := j) rfl (by kernel_rfl) (by kernel_rfl) (cx.an 6) (cx.an 7) (by omega) (by omega) (hS _ cx.upd) (by rw [List.length_map]; omega)
      · exact xs4 rfl id fun cx => run_load1 rfl (by kernel_rfl) (cx.an 8) (At.cellAd (hS _ cx.upd) (sl_get (by omega)))
      · refine svA fun ρ β W X cx => ?_
        have fF78 : ρ (.tmp 78) = .agg #[vi root, vi (((nd.es.getD j en0).2.1 : Int)), .string ByteArray.empty] := (cx.an 10)
        exact dv_litN (e := 99) (sz := 3) (xs := [vi root, vi (((nd.es.getD j en0).2.1 : Int)), .string ByteArray.empty]) rfl (by simp [go_sem, fF78]) rfl (by decide) rfl rfl (fun σ β' X' hs hb hv hx => ⟨hv, hx⟩)
      · refine svA fun ρ β W X cx => ?_
        obtain ⟨i0, hi0, hz0, hz1, hz2⟩ := info_parts Try.infoEdit
        refine dv_appendN (n := nn) (m := 1) (nm := nn + 1) (sz := 3) (xs := O.flatMap edC) (news := edC (root, ((nd.es.getD j en0).2.1 : Int), ByteArray.empty)) (xs' := (O ++ [(root, ((nd.es.getD j en0).2.1 : Int), ByteArray.empty)]).flatMap edC) rfl (ty := 34) rfl (by kernel_rfl) hi0 hz0 hz1 hz2 rfl (by decide) (cx.an 0) cx (cx.init 5 _ rfl) rfl (dTn (cx.an 11)).1 (by rfl) (At.of_ownN (cx.row (dTn (cx.an 11)).2 rfl)) (by simp [edC, Value.oneCell']) (by simp only [maxLen]; omega) (by omega) rfl rfl rfl (by omega) (ed_snoc _ _) (fun σ β' X' hs hb hv hx => ?_)
        exact ⟨hv, hx⟩
      · exact sv rfl rfl rfl rfl rfl _ (fun _ _ _ h => h) (fun β β' h => by rw [h 80 (by decide)]) fun ρ β W X cx => run_assign' rfl (dTn (cx.an 12)).1
    intro σ β X W25 hD hst25 fr hfr
    obtain ⟨B79_25, hu_B79_25⟩ : ∃ z, pb' (β 79) = z := ⟨_, rfl⟩
    obtain ⟨A80_25, hu_A80_25⟩ : ∃ z, sA (β 80) = z := ⟨_, rfl⟩
    obtain ⟨c80_25, hu_c80_25⟩ : ∃ z, sC (β 80) = z := ⟨_, rfl⟩
    simp only [exq 6 ((dTn (hD 11 lq)).2), exq 7 ((dTn (hD 12 lq)).2), hu_B79_25, hu_A80_25, hu_c80_25] at hst25
    simp only [ed 79 ((dTn (hD 11 lq)).1), ed 80 ((dTn (hD 12 lq)).1), ed 7 ((dTn (hD 13 lq))), hu_B79_25, hu_A80_25, hu_c80_25] at hfr
    clear hD hu_B79_25 hu_A80_25 hu_c80_25; subst hfr; clear σ β X
    refine blk_normal (then_normal (sqr (sqp [.m 66 9, sI 67 ((j : Int) + 1) (by omega), .m 9 67] ?_)))
    refine then_normal ?_
    refine ⟨n - ((j + 1)), by omega, ?_⟩
    exact ⟨(j + 1), (nn + 1), (O ++ [(root, ((nd.es.getD j en0).2.1 : Int), ByteArray.empty)]), A80_25, c80_25, by omega, by rw [hO, clearE_snoc (by omega), ← List.append_assoc], by rw [List.length_append, hOl]; rfl, by omega, rfl, (by kernel_rfl), hst25.pk [0, 1, 2, 3, 4, 6]⟩
  refine wp_exit (then_exit (then_exit (blk_eq (then_normal (wp_seq (wp_region_Y [0, 0, 2, 6, 14, 0, 0, 96, 254, 510, 1023, 2047] [[], [], [], [], [0], [], [], [], [], [], [6, 5]] [[], [], [], [], [], [], [], [], [], [6], [7]] [[], [], [], [], [], [], [], [], [], [], [5]] [.k 81 (.slice OA nn OC), .k 82 (vp b), .k 83 (vp b), .k 84 (vp b), .c 85 (vi root), .c 86 (.string leastB), .k 87 (vi pg), .c 88 (.string (itB 1 pg leastB)), .k 89 (.agg #[vi root, vi 1, .string (itB 1 pg leastB)]), .a 90, .a 91, .a 7] (fun ix σ β X => match ix with | 0 => True | 1 => True | 2 => True | 3 => True | 4 => True | 5 => True | 6 => True | 7 => True | 8 => True | 9 => σ 90 = .slice ((some ⟨(pb' (β 90)), 0, none⟩)) 1 1 ∧ X 6 = eO 99 3 (.slice ((some ⟨(pb' (β 90)), 0, none⟩)) 1 1) 1 (edC (root, 1, itB 1 pg leastB)) | 10 => σ 91 = .slice (sA (β 91)) (nn + 1) (sC (β 91)) ∧ X 7 = eO 99 3 (.slice (sA (β 91)) (nn + 1) (sC (β 91))) (nn + 1) ((O ++ [(root, 1, itB 1 pg leastB)]).flatMap edC) | 11 => σ 7 = .slice (sA (β 91)) (nn + 1) (sC (β 91)) | _ => True) [0, 1, 2, 3, 4, 6, 7] [4, 5, 7, 9, 10, 11] [(7, 11, 1, 8), (73, 0, 11, 84)] hst18 ?_ ?_ ?_))))))
  · exact fun ix _ _ _ _ _ _ hs hb hx h => match ix, h with
    | 9, h => by dsimp only; rw [← hs 90 rfl, ← hb 90 rfl, ← hx 6 rfl]; exact h
    | 10, h => by dsimp only; rw [← hs 91 rfl, ← hb 91 rfl, ← hx 7 rfl]; exact h
    | 11, h => by dsimp only; rw [← hs 7 rfl, ← hb 91 rfl]; exact h
    | 0, _ | 1, _ | 2, _ | 3, _ | 4, _ | 5, _ | 6, _ | 7, _ | 8, _ | _ + 12, _ => trivial
  · refine ⟨?_, ?_, ?_, ?_, ?_, ?_, trivial⟩
    · exact xs4 rfl id fun cx => run_load1 rfl (by kernel_rfl) (cx.an 3) ((cx.bi 0 rfl).cell 0)
    · exact xsc rfl id rfl rfl fun cx => ⟨_, rleast_any _, map0⟩
    · exact xsc rfl id rfl rfl fun cx => ⟨_, ritem_any leastB 1 pg _ (by decide), (map3 (cx.an 5) (cx.co _) (cx.an 6))⟩
    · refine svA fun ρ β W X cx => ?_
      have fF89 : ρ (.tmp 89) = .agg #[vi root, vi 1, .string (itB 1 pg leastB)] := (cx.an 8)
      exact dv_litN (e := 99) (sz := 3) (xs := [vi root, vi 1, .string (itB 1 pg leastB)]) rfl (by simp [go_sem, fF89]) rfl (by decide) rfl rfl (fun σ β' X' hs hb hv hx => ⟨hv, hx⟩)
    · refine svA fun ρ β W X cx => ?_
      obtain ⟨i0, hi0, hz0, hz1, hz2⟩ := info_parts Try.infoEdit
      refine dv_appendN (n := nn) (m := 1) (nm := nn + 1) (sz := 3) (xs := O.flatMap edC) (news := edC (root, 1, itB 1 pg leastB)) (xs' := (O ++ [(root, 1, itB 1 pg leastB)]).flatMap edC) rfl (ty := 34) rfl (by kernel_rfl) hi0 hz0 hz1 hz2 rfl (by decide) (cx.an 0) cx (cx.init 5 _ rfl) rfl (dTn (cx.an 9)).1 (by rfl) (At.of_ownN (cx.row (dTn (cx.an 9)).2 rfl)) (by simp [edC, Value.oneCell']) (by simp only [maxLen]; omega) (by omega) rfl rfl rfl (by omega) (ed_snoc _ _) (fun σ β' X' hs hb hv hx => ?_)
      exact ⟨hv, hx⟩
    · exact sv rfl rfl rfl rfl rfl _ (fun _ _ _ h => h) (fun β β' h => by rw [h 91 (by decide)]) fun ρ β W X cx => run_assign' rfl (dTn (cx.an 10)).1
  intro σ β X W29 hD hst29 fr hfr
  obtain ⟨B90_29, hu_B90_29⟩ : ∃ z, pb' (β 90) = z := ⟨_, rfl⟩
  obtain ⟨A91_29, hu_A91_29⟩ : ∃ z, sA (β 91) = z := ⟨_, rfl⟩
  obtain ⟨c91_29, hu_c91_29⟩ : ∃ z, sC (β 91) = z := ⟨_, rfl⟩
  simp only [exq 6 ((dTn (hD 9 lq)).2), exq 7 ((dTn (hD 10 lq)).2), hu_B90_29, hu_A91_29, hu_c91_29] at hst29
  simp only [ed 90 ((dTn (hD 9 lq)).1), ed 91 ((dTn (hD 10 lq)).1), ed 7 ((dTn (hD 11 lq))), hu_B90_29, hu_A91_29, hu_c91_29] at hfr
  clear hD hu_B90_29 hu_A91_29 hu_c91_29; subst hfr; clear σ β X
  refine then_normal (wp_seq (sqr (sqp [.m 92 0, .m 93 2, .k 94 (vp b), .k 95 (.pointer (some ⟨b, 1, none⟩))] ?_)))
  refine sqst (n := 1) 0 #[vi root, vi pg, vi leaf, .slice LA ln lc, vi fro, vi to, .bool spl] hst29 fun W34 hst34 => ?_
  refine then_normal (wp_seq (sqr (sqp [.m 96 7, .k 97 (.agg #[.slice A91_29 (nn + 1) c91_29, .bool true, vi 0])] ?_)))
  refine sqst (n := 3) 2 #[.slice A91_29 (nn + 1) c91_29, .bool true, vi 0] hst34 fun W37 hst37 => ?_
  refine then_normal (wp_ret ?_)
  refine bpr (.agg #[.slice A91_29 (nn + 1) c91_29, .bool true, vi 0]) (results_cell (n := 3) Try.results61 rfl (by kernel_rfl) (by kernel_rfl) (hst37.blk 2 rfl) rfl) ?_
  have hfin : O ++ [(root, 1, itB 1 pg leastB)] = growE root nd pg := by rw [hO, clearE_all (by omega)]; rfl
  rw [hfin] at hst37
  have hfl : nn + 1 = (growE root nd pg).length := by rw [← hfin, List.length_append, hOl]; rfl
  rw [hfl] at hst37 ⊢
  exact ⟨_, _, rfl, hst37.pick [0, 6] (by decide) rfl⟩
end
end Go.Proofs.Ytjlcoglmjldjbaa
namespace Go.Proofs.Ytjlcoglmjldjbaa
section
open Go.RowKit
set_option linter.unusedVariables false
set_option linter.unusedSimpArgs false
/-- a pending entry in a row -/
def tkC (t : TaT) : List Value := [.string t.1, .int .i64 t.2.1, .int .i64 t.2.2]
theorem tkC_len (t : TaT) : (tkC t).length = 3 := rfl
theorem tk_snoc (l : List TaT) (t : TaT) : l.flatMap tkC ++ tkC t = (l ++ [t]).flatMap tkC := by simp
theorem tkC_one (l : List TaT) : ∀ u ∈ l.flatMap tkC, Value.oneCell' u = true := fun u hu => by
  obtain ⟨p, _, hp⟩ := List.mem_flatMap.1 hu
  simp only [tkC, List.mem_cons, List.not_mem_nil, or_false] at hp
  rcases hp with rfl | rfl | rfl <;> rfl
theorem getD_drop {es : List EnD} {k i : Nat} : (es.drop k).getD i en0 = es.getD (k + i) en0 := by
  rw [List.getD_eq_getElem?_getD, List.getD_eq_getElem?_getD, List.getElem?_drop]
theorem itsE_snocD {pg lv : Int} {i k : Nat} {es : List EnD} (h : k + i < es.length) : itsE pg lv 1 ((es.drop k).take (i + 1)) = itsE pg lv 1 ((es.drop k).take i) ++ [(pg, ((1 + i : Nat) : Int), itB lv (es.getD (k + i) en0).2.2 (es.getD (k + i) en0).1)] := by
  rw [itsE_snoc (by rw [List.length_drop]; omega), getD_drop]
theorem clearE_snocD {pg : Int} {i k : Nat} {es : List EnD} (h : k + i < es.length) : clearE pg ((es.drop k).take (i + 1)) = clearE pg ((es.drop k).take i) ++ [(pg, ((es.getD (k + i) en0).2.1 : Int), ByteArray.empty)] := by
  rw [clearE_snoc (by rw [List.length_drop]; omega), getD_drop]
theorem Try.infoTk : (Try.prog.info? 111).map (fun i => (i.zero, i.size, i.bytes)) = some (some (.agg #[.string ByteArray.empty, .int .i64 0, .int .i64 0]), 3, 32) := by kernel_rfl
/-- a split: the block of the insertion, its pending entries, the edits -/
def CtPost (b : Nat) (cells : Option Addr → Nat → Array Value) (l : List TaT) (eds : List EdT) (w : World) (e : Ending) (w' : World) : Prop := ∃ A c LA lc, e = .returned (.agg #[.slice A eds.length c, .bool true, .int .i64 0]) ∧ St w [b] [eB b 102 (cells LA lc), eO 111 3 (.slice LA l.length lc) l.length (l.flatMap tkC), eO 99 3 (.slice A eds.length c) eds.length (eds.flatMap edC)] w'
theorem fresh_allD {pg lv rt : Int} {hi : ByteArray} {es : List EnD} {i k : Nat} (h : es.length ≤ k + i) : hd2E pg lv rt hi ++ itsE pg lv 1 ((es.drop k).take i) = freshE pg lv rt hi (es.drop k) := fresh_all (by rw [List.length_drop]; omega)
theorem clearE_allD {pg : Int} {es : List EnD} {i k : Nat} (h : es.length ≤ k + i) : clearE pg ((es.drop k).take i) = clearE pg (es.drop k) := clearE_all (by rw [List.length_drop]; omega)
set_option maxRecDepth 100000 in
set_option maxHeartbeats 8000000 in
theorem rcut_any (b : Nat) (root pos leaf fro to : Int) (spl : Bool) (la : Addr) (ln lc : Nat) (nd : NoD) (EA SA KA : Option Addr) (ec sc kc n : Nat) (pg : Int) (te : ByteArray) (tl tk : Int) (lf : List TaT) (w : World) (hb : Blk w b 102 #[.int .i64 root, .int .i64 pos, .int .i64 leaf, .slice ((some la)) ln lc, .int .i64 fro, .int .i64 to, .bool spl]) (hE : ∀ W, Upd [b] w W → At W EA (nd.es.map stv)) (hS : ∀ W, Upd [b] w W → At W SA (nd.es.map slv)) (hK : ∀ W, Upd [b] w W → At W KA (nd.es.map kdv)) (hn : nd.es.length = n) (hez : ∀ e ∈ nd.es, e.1.size ≤ 1000000) (hnb : n ≤ 1000) (hlv : 0 ≤ nd.lv ∧ nd.lv ≤ 255) (hpg : 0 ≤ pg ∧ pg ≤ 1000000) (hL : ∀ W, Upd [b] w W → At W (some la) (lf.flatMap tkC)) (hln : lf.length = ln) (hlnb : ln ≤ 10000) (htl : 0 ≤ tl ∧ tl ≤ 100000) (hn1 : 1 ≤ n) (hrt : -1 ≤ nd.right ∧ nd.right ≤ 100000) (hhi : nd.high.size ≤ 1000000) :
    Calls Try.prog 62 #[.pointer (some ⟨b, 0, none⟩), .agg #[.bool true, .bool nd.dead, .int .i64 nd.lv, .int .i64 nd.right, .string nd.high, .slice EA n ec, .slice SA n sc, .slice KA n kc], .agg #[.string te, .int .i64 tl, .int .i64 tk], .int .i64 pg] w (CtPost b (fun LA' lc' => #[.int .i64 root, .int .i64 pos, .int .i64 leaf, .slice (LA') ((ln + 1)) (lc'), .int .i64 ((if tl = 0 then pos else fro)), .int .i64 ((if tl = 0 then pg else to)), .bool ((if tl = 0 then true else spl))]) (lf ++ [(midE nd, tl + 1, pg)]) (cutE pos nd pg) w) := by
  have st0 := St.lend (E := eB b 102 #[.int .i64 root, .int .i64 pos, .int .i64 leaf, .slice ((some la)) ln lc, .int .i64 fro, .int .i64 to, .bool spl]) hb (eB_loc _ _ _) (fun k hk => by simp [eB] at hk; subst hk; exact hb.lt)
  go_enter Try.func62, Try.ntmps62
  have hst0 := st0
  refine wp_seq (sqr ?_)
  refine sqbx #[.bool true, .bool nd.dead, vi nd.lv, vi nd.right, .string nd.high, .slice EA n ec, .slice SA n sc, .slice KA n kc] hst0 fun B5_1 W1 hst1 => ?_
  refine sqbx #[.string te, vi tl, vi tk] hst1 fun B6_2 W2 hst2 => ?_
  refine sqal #[.slice none 0 0, .bool false, vi 0] hst2 fun B8_3 W3 hst3 => ?_
  refine then_normal (wp_seq (sqr (sqp [.k 13 (.pointer (some ⟨B5_1, 5, none⟩))] ?_)))
  refine sqld 1 hst3 ?_
  refine sqp [.k 15 (vi ((n : Int))), sQu 16 .i64 (n : Int) 2 ((n : Int) / 2) (by rw [Int.tdiv_eq_ediv_of_nonneg (by omega)]; exact IntWalk.i64_in _ (by omega)), .m 9 16] ?_
  refine then_normal (wp_seq ?_)
  obtain ⟨hf, hhf⟩ : ∃ k : Nat, n / 2 = k := ⟨_, rfl⟩
  obtain ⟨z9_, hN_z9_⟩ : ∃ z, (n : Int) / 2 = z := ⟨_, rfl⟩
  rw [hN_z9_]
  obtain rfl : z9_ = (hf : Int) := by omega
  have hhz := hez
  have hmid := getD_size hez hf
  refine wp_region_Y [0, 0, 2, 7, 0, 0, 32, 0, 128, 0, 512, 2016, 4064, 8176, 16383, 32767] [[], [], [4], [], [], [], [1], [], [1], [], [1]] [[], [4], [], [], [], [], [], [], [], [], [], [], [], [], [5]] [] [.k 17 (vi pg), .a 18, .c 19 (.string (strOfNums ([2]))), .k 20 (.agg #[vi pg, vi (-1), .string (strOfNums ([2]))]), .k 21 (vi pg), .k 22 (.pointer (some ⟨B5_1, 2, none⟩)), .c 23 (vi nd.lv), .k 24 (.pointer (some ⟨B5_1, 3, none⟩)), .c 25 (vi nd.right), .k 26 (.pointer (some ⟨B5_1, 4, none⟩)), .c 27 (.string nd.high), .k 28 (.agg #[.bool false, .bool false, vi nd.lv, vi nd.right, .string nd.high, .slice none 0 0, .slice none 0 0, .slice none 0 0]), .c 29 (.string (hdB nd.lv nd.right false nd.high)), .k 30 (.agg #[vi pg, vi 0, .string (hdB nd.lv nd.right false nd.high)]), .a 31, .a 10] (fun ix σ β X => match ix with | 0 => True | 1 => σ 18 = .slice (sA (β 18)) 1 1 ∧ X 4 = eO 5 1 (.slice (sA (β 18)) 1 1) 1 ([.int .u8 2]) | 2 => True | 3 => True | 4 => True | 5 => True | 6 => True | 7 => True | 8 => True | 9 => True | 10 => True | 11 => True | 12 => True | 13 => True | 14 => σ 31 = .slice ((some ⟨(pb' (β 31)), 0, none⟩)) 2 2 ∧ X 5 = eO 99 3 (.slice ((some ⟨(pb' (β 31)), 0, none⟩)) 2 2) 2 ([vi pg, vi (-1), .string (strOfNums ([2])), vi pg, vi 0, .string (hdB nd.lv nd.right false nd.high)]) | 15 => σ 10 = .slice ((some ⟨(pb' (β 31)), 0, none⟩)) 2 2 | _ => True) [0, 1, 2, 3, 4, 5] [1, 2, 6, 8, 10, 12, 14, 15] [(10, 15, 1, 11), (6, 0, 15, 21)] hst3 ?_ ?_ ?_
  · exact fun ix _ _ _ _ _ _ hs hb hx h => match ix, h with
    | 1, h => by dsimp only; rw [← hs 18 rfl, ← hb 18 rfl, ← hx 4 rfl]; exact h
    | 14, h => by dsimp only; rw [← hs 31 rfl, ← hb 31 rfl, ← hx 5 rfl]; exact h
    | 15, h => by dsimp only; rw [← hs 10 rfl, ← hb 31 rfl]; exact h
    | 0, _ | 2, _ | 3, _ | 4, _ | 5, _ | 6, _ | 7, _ | 8, _ | 9, _ | 10, _ | 11, _ | 12, _ | 13, _ | _ + 16, _ => trivial
  · refine ⟨?_, ?_, ?_, ?_, ?_, ?_, ?_, ?_, trivial⟩
    · refine svA fun ρ β W X cx => ?_
      exact dv_lit (e := 5) (xs := [.int .u8 2]) rfl (by simp [go_sem, cx.sees.const]) rfl (by decide) rfl rfl (fun σ β' X' hs hb hv hx => ⟨hv, hx⟩)
    · exact xs4 rfl id fun cx => run_convB (e := 5) rfl (by kernel_rfl) (by kernel_rfl) (by kernel_rfl) (dTn (cx.an 1)).1 (cx.row (dTn (cx.an 1)).2 rfl)
    · exact xs4 rfl id fun cx => run_load1 rfl (by kernel_rfl) (cx.an 5) ((cx.bi 1 rfl).cell 2)
    · exact xs4 rfl id fun cx => run_load1 rfl (by kernel_rfl) (cx.an 7) ((cx.bi 1 rfl).cell 3)
    · exact xs4 rfl id fun cx => run_load1 rfl (by kernel_rfl) (cx.an 9) ((cx.bi 1 rfl).cell 4)
    · exact xsc rfl id rfl rfl fun cx => ⟨_, rhead_le nd.lv nd.right nd.high false false _ _ _ _ _ _ _ _ _ _ (by omega) (by omega) (by first | omega | decide), (map1 (cx.an 11))⟩
    · refine svA fun ρ β W X cx => ?_
      have fF20 : ρ (.tmp 20) = .agg #[vi pg, vi (-1), .string (strOfNums ([2]))] := (cx.an 3)
      have fF30 : ρ (.tmp 30) = .agg #[vi pg, vi 0, .string (hdB nd.lv nd.right false nd.high)] := (cx.an 13)
      exact dv_litN (e := 99) (sz := 3) (xs := [vi pg, vi (-1), .string (strOfNums ([2])), vi pg, vi 0, .string (hdB nd.lv nd.right false nd.high)]) rfl (by simp [go_sem, fF20, fF30]) rfl (by decide) rfl rfl (fun σ β' X' hs hb hv hx => ⟨hv, hx⟩)
    · exact sv rfl rfl rfl rfl rfl _ (fun _ _ _ h => h) (fun β β' h => by rw [h 31 (by decide)]) fun ρ β W X cx => run_assign' rfl (dTn (cx.an 14)).1
  intro σ β X W10 hD hst10 fr hfr
  obtain ⟨A18_10, hu_A18_10⟩ : ∃ z, sA (β 18) = z := ⟨_, rfl⟩
  obtain ⟨B31_10, hu_B31_10⟩ : ∃ z, pb' (β 31) = z := ⟨_, rfl⟩
  simp only [exq 4 ((dTn (hD 1 lq)).2), exq 5 ((dTn (hD 14 lq)).2), hu_A18_10, hu_B31_10] at hst10
  simp only [ed 18 ((dTn (hD 1 lq)).1), ed 31 ((dTn (hD 14 lq)).1), ed 10 ((dTn (hD 15 lq))), hu_A18_10, hu_B31_10] at hfr
  clear hD hu_A18_10 hu_B31_10; subst hfr; clear σ β X
  refine then_normal (wp_seq (wp_seq (sqr (sqp [.m 32 9, .m 11 32] ?_))))
  refine then_normal (wp_block ?_)
  rw [show [vi pg, vi (-1), .string (strOfNums ([2])), vi pg, vi 0, .string (hdB nd.lv nd.right false nd.high)] = (hd2E pg nd.lv nd.right nd.high).flatMap edC from rfl] at hst10
  refine wp_loopT (fun t_ mz az W => ∃ i : Nat, ∃ nn : Nat, ∃ O : List EdT, ∃ OA : Option Addr, ∃ OC : Nat, i ≤ (n - hf) ∧ O = hd2E pg nd.lv nd.right nd.high ++ itsE pg nd.lv 1 ((nd.es.drop hf).take i) ∧ O.length = nn ∧ nn ≤ 10 + i ∧ mz = (n - hf) - i ∧ az = ⟨(ovr (jv az) [(10, 10, 0, [.slice OA nn OC, vi ((hf : Int) + (i : Int))]), (21, 33, 29, [])] t_).toArray, []⟩ ∧ St w [b] [eB b 102 #[vi root, vi pos, vi leaf, .slice ((some la)) ln lc, vi fro, vi to, .bool spl], eB B5_1 66 #[.bool true, .bool nd.dead, vi nd.lv, vi nd.right, .string nd.high, .slice EA n ec, .slice SA n sc, .slice KA n kc], eB B6_2 111 #[.string te, vi tl, vi tk], eB B8_3 39 #[.slice none 0 0, .bool false, vi 0], eO 5 1 (.slice A18_10 1 1) 1 ([.int .u8 2]), eO 99 3 (.slice OA nn OC) nn (O.flatMap edC)] W) ((n - hf) - 0) ?_ ?_
  · -- the loop begins
    exact ⟨0, 2, (hd2E pg nd.lv nd.right nd.high), (some ⟨B31_10, 0, none⟩), 2, Nat.zero_le _, rfl, rfl, by omega, rfl, (by kernel_rfl), hst10.pk [0, 1, 2, 3, 4, 5]⟩
  rintro n13 a13 W13 ⟨i, nn, O, OA, OC, hi, hO, hOl, hnn, rfl, hj_, hst13⟩
  refine ovz hj_ fun u13_ => ?_
  refine wp_seq (wp_seq (sqr (sqp [.m 33 11, .k 34 (.pointer (some ⟨B5_1, 5, none⟩))] ?_)))
  refine sqld 1 hst13 ?_
  refine sqp [.k 36 (vi ((n : Int))), .k 37 (.bool (decide ((hf : Int) + (i : Int) < (n : Int))))] ?_
  refine then_normal (wds (fun hs19 hs19p => ?_) fun hs19 hs19p => ?_)
  · refine wp_skip (then_normal (wp_seq (wp_block (wp_region_Y [0, 0, 0, 0, 12, 28, 0, 64, 0, 448, 960, 0, 2048, 0, 8192, 0, 57344, 122880, 262080, 524286, 1048574, 2097151, 4194303] [[], [], [], [], [], [], [], [1], [], [], [], [], [1], [], [1], [], [], [], [], [], [], [6, 5]] [[], [], [], [], [], [], [], [], [], [], [], [], [], [], [], [], [], [], [], [], [6], [7]] [[], [], [], [], [], [], [], [], [], [], [], [], [], [], [], [], [], [], [], [], [], [5]] [.k 40 (.slice OA nn OC), .k 41 (vi pg), .k 42 (vi ((hf : Int) + (i : Int))), .k 43 (vi ((hf : Int))), tI 44 (((hf : Int) + (i : Int)) - (hf : Int)) (by omega), tI 45 (((hf : Int) + (i : Int) - (hf : Int)) + 1) (by omega), .k 46 (.pointer (some ⟨B5_1, 5, none⟩)), .c 47 (.slice EA n ec), .k 48 (vi ((hf : Int) + (i : Int))), .c 49 (.pointer (some ((ad EA).add (hf + i)))), .c 50 (.string ((nd.es.getD (hf + i) en0).1)), .k 51 (.pointer (some ⟨B5_1, 2, none⟩)), .c 52 (vi nd.lv), .k 53 (.pointer (some ⟨B5_1, 7, none⟩)), .c 54 (.slice KA n kc), .k 55 (vi ((hf : Int) + (i : Int))), .c 56 (.pointer (some ((ad KA).add (hf + i)))), .c 57 (vi ((nd.es.getD (hf + i) en0).2.2)), .c 58 (.string (itB nd.lv ((nd.es.getD (hf + i) en0).2.2) ((nd.es.getD (hf + i) en0).1))), .k 59 (.agg #[vi pg, vi (((hf : Int) + (i : Int) - (hf : Int)) + 1), .string (itB nd.lv ((nd.es.getD (hf + i) en0).2.2) ((nd.es.getD (hf + i) en0).1))]), .a 60, .a 61, .a 10] (fun ix σ β X => match ix with | 0 => True | 1 => True | 2 => True | 3 => True | 4 => True | 5 => True | 6 => True | 7 => True | 8 => True | 9 => True | 10 => True | 11 => True | 12 => True | 13 => True | 14 => True | 15 => True | 16 => True | 17 => True | 18 => True | 19 => True | 20 => σ 60 = .slice ((some ⟨(pb' (β 60)), 0, none⟩)) 1 1 ∧ X 6 = eO 99 3 (.slice ((some ⟨(pb' (β 60)), 0, none⟩)) 1 1) 1 (edC (pg, ((hf : Int) + (i : Int) - (hf : Int)) + 1, itB nd.lv ((nd.es.getD (hf + i) en0).2.2) ((nd.es.getD (hf + i) en0).1))) | 21 => σ 61 = .slice (sA (β 61)) (nn + 1) (sC (β 61)) ∧ X 7 = eO 99 3 (.slice (sA (β 61)) (nn + 1) (sC (β 61))) (nn + 1) ((O ++ [(pg, ((hf : Int) + (i : Int) - (hf : Int)) + 1, itB nd.lv ((nd.es.getD (hf + i) en0).2.2) ((nd.es.getD (hf + i) en0).1))]).flatMap edC) | 22 => σ 10 = .slice (sA (β 61)) (nn + 1) (sC (β 61)) | _ => True) [0, 1, 2, 3, 4, 6, 7] [7, 9, 10, 12, 14, 16, 17, 18, 20, 21, 22] [(10, 22, 1, 11), (29, 0, 22, 51)] hst13 ?_ ?_ ?_))))
    · exact fun ix _ _ _ _ _ _ hs hb hx h => match ix, h with
      | 20, h => by dsimp only; rw [← hs 60 rfl, ← hb 60 rfl, ← hx 6 rfl]; exact h
      | 21, h => by dsimp only; rw [← hs 61 rfl, ← hb 61 rfl, ← hx 7 rfl]; exact h
      | 22, h => by dsimp only; rw [← hs 10 rfl, ← hb 61 rfl]; exact h
      | 0, _ | 1, _ | 2, _ | 3, _ | 4, _ | 5, _ | 6, _ | 7, _ | 8, _ | 9, _ | 10, _ | 11, _ | 12, _ | 13, _ | 14, _ | 15, _ | 16, _ | 17, _ | 18, _ | 19, _ | _ + 23, _ => trivial
    · refine ⟨?_, ?_, ?_, ?_, ?_, ?_, ?_, ?_, ?_, ?_, ?_, trivial⟩
      · exact xs4 rfl id fun cx => run_load1 rfl (by kernel_rfl) (cx.an 6) ((cx.bi 1 rfl).cell 5)
      · exact xs4 rfl id fun cx => run_indexSl (e := 9) (m := hf + i) rfl (by kernel_rfl) (by kernel_rfl) (cx.an 7) (cx.an 8) (by omega) (by omega) (hE _ cx.upd) (by rw [List.length_map]; omega)
      · exact xs4 rfl id fun cx => run_load1 rfl (by kernel_rfl) (cx.an 9) (At.cellAd (hE _ cx.upd) (st_get (by omega)))
      · exact xs4 rfl id fun cx => run_load1 rfl (by kernel_rfl) (cx.an 11) ((cx.bi 1 rfl).cell 2)
      · exact xs4 rfl id fun cx => run_load1 rfl (by kernel_rfl) (cx.an 13) ((cx.bi 1 rfl).cell 7)
      · exact xs4 rfl id fun cx => run_indexSl (e := 3) (m := hf + i) rfl (by kernel_rfl) (by kernel_rfl) (cx.an 14) (cx.an 15) (by omega) (by omega) (hK _ cx.upd) (by rw [List.length_map]; omega)
      · exact xs4 rfl id fun cx => run_load1 rfl (by kernel_rfl) (cx.an 16) (At.cellAd (hK _ cx.upd) (kd_get (by omega)))
      · exact xsc rfl id rfl rfl fun cx => ⟨_, ritem_any ((nd.es.getD (hf + i) en0).1) nd.lv ((nd.es.getD (hf + i) en0).2.2) _ (getD_size hez _), (map3 (cx.an 10) (cx.an 12) (cx.an 17))⟩
      · refine svA fun ρ β W X cx => ?_
        have fF59 : ρ (.tmp 59) = .agg #[vi pg, vi (((hf : Int) + (i : Int) - (hf : Int)) + 1), .string (itB nd.lv ((nd.es.getD (hf + i) en0).2.2) ((nd.es.getD (hf + i) en0).1))] := (cx.an 19)
        exact dv_litN (e := 99) (sz := 3) (xs := [vi pg, vi (((hf : Int) + (i : Int) - (hf : Int)) + 1), .string (itB nd.lv ((nd.es.getD (hf + i) en0).2.2) ((nd.es.getD (hf + i) en0).1))]) rfl (by simp [go_sem, fF59]) rfl (by decide) rfl rfl (fun σ β' X' hs hb hv hx => ⟨hv, hx⟩)
      · refine svA fun ρ β W X cx => ?_
        obtain ⟨i0, hi0, hz0, hz1, hz2⟩ := info_parts Try.infoEdit
        refine dv_appendN (n := nn) (m := 1) (nm := nn + 1) (sz := 3) (xs := O.flatMap edC) (news := edC (pg, ((hf : Int) + (i : Int) - (hf : Int)) + 1, itB nd.lv ((nd.es.getD (hf + i) en0).2.2) ((nd.es.getD (hf + i) en0).1))) (xs' := (O ++ [(pg, ((hf : Int) + (i : Int) - (hf : Int)) + 1, itB nd.lv ((nd.es.getD (hf + i) en0).2.2) ((nd.es.getD (hf + i) en0).1))]).flatMap edC) rfl (ty := 34) rfl (by kernel_rfl) hi0 hz0 hz1 hz2 rfl (by decide) (cx.an 0) cx (cx.init 5 _ rfl) rfl (dTn (cx.an 20)).1 (by rfl) (At.of_ownN (cx.row (dTn (cx.an 20)).2 rfl)) (by simp [edC, tkC, Value.oneCell']) (by simp only [maxLen]; omega) (by omega) rfl rfl rfl (by omega) (ed_snoc _ _) (fun σ β' X' hs hb hv hx => ?_)
        exact ⟨hv, hx⟩
      · exact sv rfl rfl rfl rfl rfl _ (fun _ _ _ h => h) (fun β β' h => by rw [h 61 (by decide)]) fun ρ β W X cx => run_assign' rfl (dTn (cx.an 21)).1
    intro σ β X W20 hD hst20 fr hfr
    obtain ⟨B60_20, hu_B60_20⟩ : ∃ z, pb' (β 60) = z := ⟨_, rfl⟩
    obtain ⟨A61_20, hu_A61_20⟩ : ∃ z, sA (β 61) = z := ⟨_, rfl⟩
    obtain ⟨c61_20, hu_c61_20⟩ : ∃ z, sC (β 61) = z := ⟨_, rfl⟩
    simp only [exq 6 ((dTn (hD 20 lq)).2), exq 7 ((dTn (hD 21 lq)).2), hu_B60_20, hu_A61_20, hu_c61_20] at hst20
    simp only [ed 60 ((dTn (hD 20 lq)).1), ed 61 ((dTn (hD 21 lq)).1), ed 10 ((dTn (hD 22 lq))), hu_B60_20, hu_A61_20, hu_c61_20] at hfr
    clear hD hu_B60_20 hu_A61_20 hu_c61_20; subst hfr; clear σ β X
    refine blk_normal (then_normal (sqr (sqp [.m 38 11, sI 39 (((hf : Int) + (i : Int)) + 1) (by omega), .m 11 39] ?_)))
    refine then_normal ?_
    rw [show ((hf : Int) + (i : Int) + 1) = (hf : Int) + ((i + 1 : Nat) : Int) by omega]
    refine ⟨(n - hf) - ((i + 1)), by omega, ?_⟩
    exact ⟨(i + 1), (nn + 1), (O ++ [(pg, ((hf : Int) + (i : Int) - (hf : Int)) + 1, itB nd.lv ((nd.es.getD (hf + i) en0).2.2) ((nd.es.getD (hf + i) en0).1))]), A61_20, c61_20, by omega, by rw [hO, itsE_snocD (by omega), ← List.append_assoc]; (first | rfl | (congr 4; omega) | simp), by rw [List.length_append, hOl]; rfl, by omega, rfl, (by kernel_rfl), hst20.pk [0, 1, 2, 3, 4, 6]⟩
  refine wp_exit (then_exit (then_exit (blk_eq (then_normal (wp_seq ?_)))))
  rw [fresh_allD (by omega)] at hO
  refine wp_region_Y [0, 0, 2, 6, 14, 0, 32, 0, 0, 256, 0, 1792, 3840, 8160, 16352, 32766, 65534, 131071, 262143] [[], [], [], [], [0], [], [1], [], [], [1], [], [], [], [], [], [], [], [6, 5]] [[], [], [], [], [], [], [], [], [], [], [], [], [], [], [], [], [6], [7]] [[], [], [], [], [], [], [], [], [], [], [], [], [], [], [], [], [], [5]] [.k 62 (.slice OA nn OC), .k 63 (vp b), .k 64 (vp b), .k 65 (.pointer (some ⟨b, 1, none⟩)), .c 66 (vi pos), .k 67 (.pointer (some ⟨B5_1, 2, none⟩)), .c 68 (vi nd.lv), .k 69 (vi pg), .k 70 (.pointer (some ⟨B5_1, 5, none⟩)), .c 71 (.slice EA n ec), .k 72 (vi ((hf : Int))), .c 73 (.pointer (some ((ad EA).add hf))), .c 74 (.string ((nd.es.getD hf en0).1)), .k 75 (.agg #[.bool false, .bool false, vi nd.lv, vi pg, .string ((nd.es.getD hf en0).1), .slice none 0 0, .slice none 0 0, .slice none 0 0]), .c 76 (.string (hdB nd.lv pg false ((nd.es.getD hf en0).1))), .k 77 (.agg #[vi pos, vi 0, .string (hdB nd.lv pg false ((nd.es.getD hf en0).1))]), .a 78, .a 79, .a 10] (fun ix σ β X => match ix with | 0 => True | 1 => True | 2 => True | 3 => True | 4 => True | 5 => True | 6 => True | 7 => True | 8 => True | 9 => True | 10 => True | 11 => True | 12 => True | 13 => True | 14 => True | 15 => True | 16 => σ 78 = .slice ((some ⟨(pb' (β 78)), 0, none⟩)) 1 1 ∧ X 6 = eO 99 3 (.slice ((some ⟨(pb' (β 78)), 0, none⟩)) 1 1) 1 (edC (pos, 0, hdB nd.lv pg false ((nd.es.getD hf en0).1))) | 17 => σ 79 = .slice (sA (β 79)) (nn + 1) (sC (β 79)) ∧ X 7 = eO 99 3 (.slice (sA (β 79)) (nn + 1) (sC (β 79))) (nn + 1) ((O ++ [(pos, 0, hdB nd.lv pg false ((nd.es.getD hf en0).1))]).flatMap edC) | 18 => σ 10 = .slice (sA (β 79)) (nn + 1) (sC (β 79)) | _ => True) [0, 1, 2, 3, 4, 6, 7] [4, 6, 9, 11, 12, 14, 16, 17, 18] [(10, 18, 1, 11), (51, 0, 18, 69)] hst13 ?_ ?_ ?_
  · exact fun ix _ _ _ _ _ _ hs hb hx h => match ix, h with
    | 16, h => by dsimp only; rw [← hs 78 rfl, ← hb 78 rfl, ← hx 6 rfl]; exact h
    | 17, h => by dsimp only; rw [← hs 79 rfl, ← hb 79 rfl, ← hx 7 rfl]; exact h
    | 18, h => by dsimp only; rw [← hs 10 rfl, ← hb 79 rfl]; exact h
    | 0, _ | 1, _ | 2, _ | 3, _ | 4, _ | 5, _ | 6, _ | 7, _ | 8, _ | 9, _ | 10, _ | 11, _ | 12, _ | 13, _ | 14, _ | 15, _ | _ + 19, _ => trivial
  · refine ⟨?_, ?_, ?_, ?_, ?_, ?_, ?_, ?_, ?_, trivial⟩
    · exact xs4 rfl id fun cx => run_load1 rfl (by kernel_rfl) (cx.an 3) ((cx.bi 0 rfl).cell 1)
    · exact xs4 rfl id fun cx => run_load1 rfl (by kernel_rfl) (cx.an 5) ((cx.bi 1 rfl).cell 2)
    · exact xs4 rfl id fun cx => run_load1 rfl (by kernel_rfl) (cx.an 8) ((cx.bi 1 rfl).cell 5)
    · exact xs4 rfl id fun cx => run_indexSl (e := 9) (m := hf) rfl (by kernel_rfl) (by kernel_rfl) (cx.an 9) (cx.an 10) (by omega) (by omega) (hE _ cx.upd) (by rw [List.length_map]; omega)
    · exact xs4 rfl id fun cx => run_load1 rfl (by kernel_rfl) (cx.an 11) (At.cellAd (hE _ cx.upd) (st_get (by omega)))
    · exact xsc rfl id rfl rfl fun cx => ⟨_, rhead_le nd.lv pg ((nd.es.getD hf en0).1) false false _ _ _ _ _ _ _ _ _ _ (by omega) (by omega) (by first | omega | decide), (map1 (cx.an 13))⟩
    · refine svA fun ρ β W X cx => ?_
      have fF77 : ρ (.tmp 77) = .agg #[vi pos, vi 0, .string (hdB nd.lv pg false ((nd.es.getD hf en0).1))] := (cx.an 15)
      exact dv_litN (e := 99) (sz := 3) (xs := [vi pos, vi 0, .string (hdB nd.lv pg false ((nd.es.getD hf en0).1))]) rfl (by simp [go_sem, fF77]) rfl (by decide) rfl rfl (fun σ β' X' hs hb hv hx => ⟨hv, hx⟩)
    · refine svA fun ρ β W X cx => ?_
      obtain ⟨i0, hi0, hz0, hz1, hz2⟩ := info_parts Try.infoEdit
      refine dv_appendN (n := nn) (m := 1) (nm := nn + 1) (sz := 3) (xs := O.flatMap edC) (news := edC (pos, 0, hdB nd.lv pg false ((nd.es.getD hf en0).1))) (xs' := (O ++ [(pos, 0, hdB nd.lv pg false ((nd.es.getD hf en0).1))]).flatMap edC) rfl (ty := 34) rfl (by kernel_rfl) hi0 hz0 hz1 hz2 rfl (by decide) (cx.an 0) cx (cx.init 5 _ rfl) rfl (dTn (cx.an 16)).1 (by rfl) (At.of_ownN (cx.row (dTn (cx.an 16)).2 rfl)) (by simp [edC, tkC, Value.oneCell']) (by simp only [maxLen]; omega) (by omega) rfl rfl rfl (by omega) (ed_snoc _ _) (fun σ β' X' hs hb hv hx => ?_)
      exact ⟨hv, hx⟩
    · exact sv rfl rfl rfl rfl rfl _ (fun _ _ _ h => h) (fun β β' h => by rw [h 79 (by decide)]) fun ρ β W X cx => run_assign' rfl (dTn (cx.an 17)).1
  intro σ β X W24 hD hst24 fr hfr
  obtain ⟨B78_24, hu_B78_24⟩ : ∃ z, pb' (β 78) = z := ⟨_, rfl⟩
  obtain ⟨A79_24, hu_A79_24⟩ : ∃ z, sA (β 79) = z := ⟨_, rfl⟩
  obtain ⟨c79_24, hu_c79_24⟩ : ∃ z, sC (β 79) = z := ⟨_, rfl⟩
  simp only [exq 6 ((dTn (hD 16 lq)).2), exq 7 ((dTn (hD 17 lq)).2), hu_B78_24, hu_A79_24, hu_c79_24] at hst24
  simp only [ed 78 ((dTn (hD 16 lq)).1), ed 79 ((dTn (hD 17 lq)).1), ed 10 ((dTn (hD 18 lq))), hu_B78_24, hu_A79_24, hu_c79_24] at hfr
  clear hD hu_B78_24 hu_A79_24 hu_c79_24; subst hfr; clear σ β X
  refine then_normal (wp_seq (wp_seq (sqr (sqp [.m 80 9, .m 12 80] ?_))))
  refine then_normal (wp_block ?_)
  refine wp_loopT (fun t_ mz az W => ∃ j : Nat, ∃ nn : Nat, ∃ O : List EdT, ∃ OA : Option Addr, ∃ OC : Nat, j ≤ (n - hf) ∧ O = freshE pg nd.lv nd.right nd.high (nd.es.drop hf) ++ [(pos, 0, hdB nd.lv pg false (nd.es.getD hf en0).1)] ++ clearE pos ((nd.es.drop hf).take j) ∧ O.length = nn ∧ nn ≤ 2000 + j ∧ mz = (n - hf) - j ∧ az = ⟨(ovr (jv az) [(10, 10, 0, [.slice OA nn OC]), (1, 12, 0, [vi ((hf : Int) + (j : Int))]), (68, 81, 20, [])] t_).toArray, []⟩ ∧ St w [b] [eB b 102 #[vi root, vi pos, vi leaf, .slice ((some la)) ln lc, vi fro, vi to, .bool spl], eB B5_1 66 #[.bool true, .bool nd.dead, vi nd.lv, vi nd.right, .string nd.high, .slice EA n ec, .slice SA n sc, .slice KA n kc], eB B6_2 111 #[.string te, vi tl, vi tk], eB B8_3 39 #[.slice none 0 0, .bool false, vi 0], eO 5 1 (.slice A18_10 1 1) 1 ([.int .u8 2]), eO 99 3 (.slice ((some ⟨B78_24, 0, none⟩)) 1 1) 1 (edC (pos, 0, hdB nd.lv pg false ((nd.es.getD hf en0).1))), eO 99 3 (.slice OA nn OC) nn (O.flatMap edC)] W) ((n - hf) - 0) ?_ ?_
  · -- the loop begins
    exact ⟨0, nn + 1, (O ++ [(pos, 0, hdB nd.lv pg false ((nd.es.getD hf en0).1))]), A79_24, c79_24, Nat.zero_le _, by rw [hO, List.take_zero]; exact (List.append_nil _).symm, by rw [List.length_append, hOl]; rfl, by omega, rfl, (by kernel_rfl), hst24.pk [0, 1, 2, 3, 4, 5, 6]⟩
  rintro n27 a27 W27 ⟨j, nn, O, OA, OC, hj, hO, hOl, hnn, rfl, hj_, hst27⟩
  refine ovz hj_ fun u27_ => ?_
  refine wp_seq (wp_seq (sqr (sqp [.m 81 12, .k 82 (.pointer (some ⟨B5_1, 5, none⟩))] ?_)))
  refine sqld 1 hst27 ?_
  refine sqp [.k 84 (vi ((n : Int))), .k 85 (.bool (decide ((hf : Int) + (j : Int) < (n : Int))))] ?_
  refine then_normal (wds (fun hs33 hs33p => ?_) fun hs33 hs33p => ?_)
  · refine wp_skip (then_normal (wp_seq (wp_block (wp_region_Y [0, 0, 2, 6, 14, 0, 32, 0, 224, 480, 1022, 2046, 4095, 8191] [[], [], [], [], [0], [], [1], [], [], [], [], [], [7, 6]] [[], [], [], [], [], [], [], [], [], [], [], [7], [8]] [[], [], [], [], [], [], [], [], [], [], [], [], [6]] [.k 88 (.slice OA nn OC), .k 89 (vp b), .k 90 (vp b), .k 91 (.pointer (some ⟨b, 1, none⟩)), .c 92 (vi pos), .k 93 (.pointer (some ⟨B5_1, 6, none⟩)), .c 94 (.slice SA n sc), .k 95 (vi ((hf : Int) + (j : Int))), .c 96 (.pointer (some ((ad SA).add (hf + j)))), .c 97 (vi (((nd.es.getD (hf + j) en0).2.1 : Int))), .k 98 (.agg #[vi pos, vi (((nd.es.getD (hf + j) en0).2.1 : Int)), .string ByteArray.empty]), .a 99, .a 100, .a 10] (fun ix σ β X => match ix with | 0 => True | 1 => True | 2 => True | 3 => True | 4 => True | 5 => True | 6 => True | 7 => True | 8 => True | 9 => True | 10 => True | 11 => σ 99 = .slice ((some ⟨(pb' (β 99)), 0, none⟩)) 1 1 ∧ X 7 = eO 99 3 (.slice ((some ⟨(pb' (β 99)), 0, none⟩)) 1 1) 1 (edC (pos, ((nd.es.getD (hf + j) en0).2.1 : Int), ByteArray.empty)) | 12 => σ 100 = .slice (sA (β 100)) (nn + 1) (sC (β 100)) ∧ X 8 = eO 99 3 (.slice (sA (β 100)) (nn + 1) (sC (β 100))) (nn + 1) ((O ++ [(pos, ((nd.es.getD (hf + j) en0).2.1 : Int), ByteArray.empty)]).flatMap edC) | 13 => σ 10 = .slice (sA (β 100)) (nn + 1) (sC (β 100)) | _ => True) [0, 1, 2, 3, 4, 5, 7, 8] [4, 6, 8, 9, 11, 12, 13] [(10, 13, 1, 11), (77, 0, 13, 90)] hst27 ?_ ?_ ?_))))
    · exact fun ix _ _ _ _ _ _ hs hb hx h => match ix, h with
      | 11, h => by dsimp only; rw [← hs 99 rfl, ← hb 99 rfl, ← hx 7 rfl]; exact h
      | 12, h => by dsimp only; rw [← hs 100 rfl, ← hb 100 rfl, ← hx 8 rfl]; exact h
      | 13, h => by dsimp only; rw [← hs 10 rfl, ← hb 100 rfl]; exact h
      | 0, _ | 1, _ | 2, _ | 3, _ | 4, _ | 5, _ | 6, _ | 7, _ | 8, _ | 9, _ | 10, _ | _ + 14, _ => trivial
    · refine ⟨?_, ?_, ?_, ?_, ?_, ?_, ?_, trivial⟩
      · exact xs4 rfl id fun cx => run_load1 rfl (by kernel_rfl) (cx.an 3) ((cx.bi 0 rfl).cell 1)
      · exact xs4 rfl id fun cx => run_load1 rfl (by kernel_rfl) (cx.an 5) ((cx.bi 1 rfl).cell 6)
      · exact xs4 rfl id fun cx => run_indexSl (e := 3) (m := hf + j) rfl (by kernel_rfl) (by kernel_rfl) (cx.an 6) (cx.an 7) (by omega) (by omega) (hS _ cx.upd) (by rw [List.length_map]; omega)
      · exact xs4 rfl id fun cx => run_load1 rfl (by kernel_rfl) (cx.an 8) (At.cellAd (hS _ cx.upd) (sl_get (by omega)))
      · refine svA fun ρ β W X cx => ?_
        have fF98 : ρ (.tmp 98) = .agg #[vi pos, vi (((nd.es.getD (hf + j) en0).2.1 : Int)), .string ByteArray.empty] := (cx.an 10)
        exact dv_litN (e := 99) (sz := 3) (xs := [vi pos, vi (((nd.es.getD (hf + j) en0).2.1 : Int)), .string ByteArray.empty]) rfl (by simp [go_sem, fF98]) rfl (by decide) rfl rfl (fun σ β' X' hs hb hv hx => ⟨hv, hx⟩)
      · refine svA fun ρ β W X cx => ?_
        obtain ⟨i0, hi0, hz0, hz1, hz2⟩ := info_parts Try.infoEdit
        refine dv_appendN (n := nn) (m := 1) (nm := nn + 1) (sz := 3) (xs := O.flatMap edC) (news := edC (pos, ((nd.es.getD (hf + j) en0).2.1 : Int), ByteArray.empty)) (xs' := (O ++ [(pos, ((nd.es.getD (hf + j) en0).2.1 : Int), ByteArray.empty)]).flatMap edC) rfl (ty := 34) rfl (by kernel_rfl) hi0 hz0 hz1 hz2 rfl (by decide) (cx.an 0) cx (cx.init 6 _ rfl) rfl (dTn (cx.an 11)).1 (by rfl) (At.of_ownN (cx.row (dTn (cx.an 11)).2 rfl)) (by simp [edC, tkC, Value.oneCell']) (by simp only [maxLen]; omega) (by omega) rfl rfl rfl (by omega) (ed_snoc _ _) (fun σ β' X' hs hb hv hx => ?_)
        exact ⟨hv, hx⟩
      · exact sv rfl rfl rfl rfl rfl _ (fun _ _ _ h => h) (fun β β' h => by rw [h 100 (by decide)]) fun ρ β W X cx => run_assign' rfl (dTn (cx.an 12)).1
    intro σ β X W34 hD hst34 fr hfr
    obtain ⟨B99_34, hu_B99_34⟩ : ∃ z, pb' (β 99) = z := ⟨_, rfl⟩
    obtain ⟨A100_34, hu_A100_34⟩ : ∃ z, sA (β 100) = z := ⟨_, rfl⟩
    obtain ⟨c100_34, hu_c100_34⟩ : ∃ z, sC (β 100) = z := ⟨_, rfl⟩
    simp only [exq 7 ((dTn (hD 11 lq)).2), exq 8 ((dTn (hD 12 lq)).2), hu_B99_34, hu_A100_34, hu_c100_34] at hst34
    simp only [ed 99 ((dTn (hD 11 lq)).1), ed 100 ((dTn (hD 12 lq)).1), ed 10 ((dTn (hD 13 lq))), hu_B99_34, hu_A100_34, hu_c100_34] at hfr
    clear hD hu_B99_34 hu_A100_34 hu_c100_34; subst hfr; clear σ β X
    refine blk_normal (then_normal (sqr (sqp [.m 86 12, sI 87 (((hf : Int) + (j : Int)) + 1) (by omega), .m 12 87] ?_)))
    refine then_normal ?_
    rw [show ((hf : Int) + (j : Int) + 1) = (hf : Int) + ((j + 1 : Nat) : Int) by omega]
    refine ⟨(n - hf) - ((j + 1)), by omega, ?_⟩
    exact ⟨(j + 1), (nn + 1), (O ++ [(pos, ((nd.es.getD (hf + j) en0).2.1 : Int), ByteArray.empty)]), A100_34, c100_34, by omega, by rw [hO, clearE_snocD (by omega), ← List.append_assoc], by rw [List.length_append, hOl]; rfl, by omega, rfl, (by kernel_rfl), hst34.pk [0, 1, 2, 3, 4, 5, 7]⟩
  refine wp_exit (then_exit (then_exit (blk_eq (then_normal (wp_seq (wp_region_Y [0, 0, 0, 4, 12, 28, 62, 0, 128, 0, 896, 1920, 0, 4096, 12288, 0, 65408, 130944, 262142, 524287, 1048575, 2097151] [[], [], [], [], [], [0], [7], [], [1], [], [], [], [], [2], [], [], [], [], [9, 8], [], [], [0]] [[], [7], [], [], [], [], [8], [], [], [], [], [], [], [], [], [], [], [9], [10], [], [], [11]] [[], [], [], [], [], [], [7], [], [], [], [], [], [], [], [], [], [], [], [8], [], [], [0]] [.k 101 (vp b), .a 102, .k 103 (vp b), .k 104 (vp b), .k 105 (.pointer (some ⟨b, 3, none⟩)), .c 106 (.slice ((some la)) ln lc), .a 107, .k 108 (.pointer (some ⟨B5_1, 5, none⟩)), .c 109 (.slice EA n ec), .k 110 (vi ((hf : Int))), .c 111 (.pointer (some ((ad EA).add hf))), .c 112 (.string ((nd.es.getD hf en0).1)), .k 113 (.pointer (some ⟨B6_2, 1, none⟩)), .c 114 (vi tl), tI 115 (tl + 1) (by omega), .k 116 (vi pg), .k 117 (.agg #[.string ((nd.es.getD hf en0).1), vi (tl + 1), vi pg]), .a 118, .a 119, .k 120 (vp b), .k 121 (.pointer (some ⟨b, 3, none⟩)), .n] (fun ix σ β X => match ix with | 0 => True | 1 => σ 102 = .slice ((some ⟨(pb' (β 102)), 0, none⟩)) 0 0 ∧ X 7 = eO 111 3 (.slice ((some ⟨(pb' (β 102)), 0, none⟩)) 0 0) 0 ([]) | 2 => True | 3 => True | 4 => True | 5 => True | 6 => σ 107 = .slice (sA (β 107)) ln (sC (β 107)) ∧ X 8 = eO 111 3 (.slice (sA (β 107)) ln (sC (β 107))) ln (lf.flatMap tkC) | 7 => True | 8 => True | 9 => True | 10 => True | 11 => True | 12 => True | 13 => True | 14 => True | 15 => True | 16 => True | 17 => σ 118 = .slice ((some ⟨(pb' (β 118)), 0, none⟩)) 1 1 ∧ X 9 = eO 111 3 (.slice ((some ⟨(pb' (β 118)), 0, none⟩)) 1 1) 1 (tkC ((nd.es.getD hf en0).1, tl + 1, pg)) | 18 => σ 119 = .slice (sA (β 119)) (ln + 1) (sC (β 119)) ∧ X 10 = eO 111 3 (.slice (sA (β 119)) (ln + 1) (sC (β 119))) (ln + 1) ((lf ++ [((nd.es.getD hf en0).1, tl + 1, pg)]).flatMap tkC) | 19 => True | 20 => True | 21 => X 11 = eB b 102 #[vi root, vi pos, vi leaf, .slice (sA (β 119)) (ln + 1) (sC (β 119)), vi fro, vi to, .bool spl] | _ => True) [1, 2, 3, 4, 5, 6, 9, 10, 11] [1, 5, 6, 8, 10, 11, 13, 17, 18, 21] [(101, 0, 21, 122)] hst27 ?_ ?_ ?_))))))
  · exact fun ix _ _ _ _ _ _ hs hb hx h => match ix, h with
    | 1, h => by dsimp only; rw [← hs 102 rfl, ← hb 102 rfl, ← hx 7 rfl]; exact h
    | 6, h => by dsimp only; rw [← hs 107 rfl, ← hb 107 rfl, ← hx 8 rfl]; exact h
    | 17, h => by dsimp only; rw [← hs 118 rfl, ← hb 118 rfl, ← hx 9 rfl]; exact h
    | 18, h => by dsimp only; rw [← hs 119 rfl, ← hb 119 rfl, ← hx 10 rfl]; exact h
    | 21, h => by dsimp only; rw [← hb 119 rfl, ← hx 11 rfl]; exact h
    | 0, _ | 2, _ | 3, _ | 4, _ | 5, _ | 7, _ | 8, _ | 9, _ | 10, _ | 11, _ | 12, _ | 13, _ | 14, _ | 15, _ | 16, _ | 19, _ | 20, _ | _ + 22, _ => trivial
  · refine ⟨?_, ?_, ?_, ?_, ?_, ?_, ?_, ?_, ?_, ?_, trivial⟩
    · refine svA fun ρ β W X cx => ?_
      exact dv_litN (e := 111) (sz := 3) (xs := []) rfl (by simp [go_sem]) rfl (by decide) rfl rfl (fun σ β' X' hs hb hv hx => ⟨hv, hx⟩)
    · exact xs4 rfl id fun cx => run_load1 rfl (by kernel_rfl) (cx.an 4) ((cx.bi 0 rfl).cell 3)
    · refine svA fun ρ β W X cx => ?_
      obtain ⟨i0, hi0, hz0, hz1, hz2⟩ := info_parts Try.infoTk
      refine dv_appendN (n := 0) (m := ln) (nm := ln) (sz := 3) (xs := []) (news := lf.flatMap tkC) (xs' := lf.flatMap tkC) rfl (ty := 100) rfl (by kernel_rfl) hi0 hz0 hz1 hz2 rfl (by decide) (dTn (cx.an 1)).1 cx (dTn (cx.an 1)).2 rfl (cx.an 5) (by rw [flatLen tkC_len, hln]) (hL _ cx.upd) (tkC_one _) (by simp only [maxLen]; omega) (by omega) rfl rfl rfl (by omega) (rfl) (fun σ β' X' hs hb hv hx => ?_)
      exact ⟨hv, hx⟩
    · exact xs4 rfl id fun cx => run_load1 rfl (by kernel_rfl) (cx.an 7) ((cx.bi 1 rfl).cell 5)
    · exact xs4 rfl id fun cx => run_indexSl (e := 9) (m := hf) rfl (by kernel_rfl) (by kernel_rfl) (cx.an 8) (cx.an 9) (by omega) (by omega) (hE _ cx.upd) (by rw [List.length_map]; omega)
    · exact xs4 rfl id fun cx => run_load1 rfl (by kernel_rfl) (cx.an 10) (At.cellAd (hE _ cx.upd) (st_get (by omega)))
    · exact xs4 rfl id fun cx => run_load1 rfl (by kernel_rfl) (cx.an 12) ((cx.bi 2 rfl).cell 1)
    · refine svA fun ρ β W X cx => ?_
      have fF117 : ρ (.tmp 117) = .agg #[.string ((nd.es.getD hf en0).1), vi (tl + 1), vi pg] := (cx.an 16)
      exact dv_litN (e := 111) (sz := 3) (xs := [.string ((nd.es.getD hf en0).1), vi (tl + 1), vi pg]) rfl (by simp [go_sem, fF117]) rfl (by decide) rfl rfl (fun σ β' X' hs hb hv hx => ⟨hv, hx⟩)
    · refine svA fun ρ β W X cx => ?_
      obtain ⟨i0, hi0, hz0, hz1, hz2⟩ := info_parts Try.infoTk
      refine dv_appendN (n := ln) (m := 1) (nm := ln + 1) (sz := 3) (xs := lf.flatMap tkC) (news := tkC ((nd.es.getD hf en0).1, tl + 1, pg)) (xs' := (lf ++ [((nd.es.getD hf en0).1, tl + 1, pg)]).flatMap tkC) rfl (ty := 100) rfl (by kernel_rfl) hi0 hz0 hz1 hz2 rfl (by decide) (dTn (cx.an 6)).1 cx (dTn (cx.an 6)).2 rfl (dTn (cx.an 17)).1 (by rfl) (At.of_ownN (cx.row (dTn (cx.an 17)).2 rfl)) (by simp [edC, tkC, Value.oneCell']) (by simp only [maxLen]; omega) (by omega) rfl rfl rfl (by omega) (tk_snoc _ _) (fun σ β' X' hs hb hv hx => ?_)
      exact ⟨hv, hx⟩
    · refine svA fun ρ β W X cx => ?_
      exact dv_store (n := 1) rfl (cx.an 20) (dTn (cx.an 18)).1 (by kernel_rfl) (by kernel_rfl) (by kernel_rfl) cx (cx.init 0 _ rfl) rfl (nle rfl) (by kernel_rfl) rfl rfl rfl (fun σ β' X' hs hb hx => by rw [hb 119]; exact hx)
  intro σ β X W38 hD hst38 fr hfr
  obtain ⟨B102_38, hu_B102_38⟩ : ∃ z, pb' (β 102) = z := ⟨_, rfl⟩
  obtain ⟨A107_38, hu_A107_38⟩ : ∃ z, sA (β 107) = z := ⟨_, rfl⟩
  obtain ⟨c107_38, hu_c107_38⟩ : ∃ z, sC (β 107) = z := ⟨_, rfl⟩
  obtain ⟨B118_38, hu_B118_38⟩ : ∃ z, pb' (β 118) = z := ⟨_, rfl⟩
  obtain ⟨A119_38, hu_A119_38⟩ : ∃ z, sA (β 119) = z := ⟨_, rfl⟩
  obtain ⟨c119_38, hu_c119_38⟩ : ∃ z, sC (β 119) = z := ⟨_, rfl⟩
  simp only [exq 9 ((dTn (hD 17 lq)).2), exq 10 ((dTn (hD 18 lq)).2), exq 11 ((dTn (hD 21 lq))), hu_B102_38, hu_A107_38, hu_c107_38, hu_B118_38, hu_A119_38, hu_c119_38] at hst38
  simp only [ed 102 ((dTn (hD 1 lq)).1), ed 107 ((dTn (hD 6 lq)).1), ed 118 ((dTn (hD 17 lq)).1), ed 119 ((dTn (hD 18 lq)).1), hu_B102_38, hu_A107_38, hu_c107_38, hu_B118_38, hu_A119_38, hu_c119_38] at hfr
  clear hD hu_B102_38 hu_A107_38 hu_c107_38 hu_B118_38 hu_A119_38 hu_c119_38; subst hfr; clear σ β X
  refine then_normal (wp_seq (wp_seq (sqr (sqp [.k 122 (.pointer (some ⟨B6_2, 1, none⟩))] ?_))))
  refine sqld 1 hst38 ?_
  refine sqp [.k 124 (.bool (tl == 0))] ?_
  refine then_normal (wbs (fun hs42 => ?_) fun hs42 => ?_)
  · have hs42p := beq_iff_eq.1 hs42
    refine wp_seq (sqr (sqp [.m 125 0, .m 126 0, .k 127 (vp b), .k 128 (.pointer (some ⟨b, 1, none⟩))] ?_))
    refine sqld 8 hst38 ?_
    refine sqp [.k 130 (vp b), .k 131 (.pointer (some ⟨b, 4, none⟩))] ?_
    refine sqst (n := 1) 8 #[vi root, vi pos, vi leaf, .slice A119_38 (ln + 1) c119_38, vi pos, vi to, .bool spl] hst38 fun W50 hst50 => ?_
    refine then_normal (wp_seq (sqr (sqp [.m 132 0, .m 133 3, .k 134 (vp b), .k 135 (.pointer (some ⟨b, 5, none⟩))] ?_)))
    refine sqst (n := 1) 8 #[vi root, vi pos, vi leaf, .slice A119_38 (ln + 1) c119_38, vi pos, vi pg, .bool spl] hst50 fun W55 hst55 => ?_
    refine then_normal (sqr (sqp [.m 136 0, .k 137 (vp b), .k 138 (.pointer (some ⟨b, 6, none⟩))] ?_))
    refine sqst (n := 1) 8 #[vi root, vi pos, vi leaf, .slice A119_38 (ln + 1) c119_38, vi pos, vi pg, .bool true] hst55 fun W59 hst59 => ?_
    refine then_normal (wp_seq (sqr (sqp [.m 139 10, .k 140 (.agg #[.slice OA nn OC, .bool true, vi 0])] ?_)))
    refine sqst (n := 3) 2 #[.slice OA nn OC, .bool true, vi 0] hst59 fun W62 hst62 => ?_
    refine then_normal (wp_ret ?_)
    refine bpr (.agg #[.slice OA nn OC, .bool true, vi 0]) (results_cell (n := 3) Try.results62 rfl (by kernel_rfl) (by kernel_rfl) (hst62.blk 2 rfl) rfl) ?_
    have hfin : O = cutE pos nd pg := by rw [hO, clearE_allD (by omega), cutE, halfE, midE, hn, hhf]; rfl
    rw [hfin] at hst62
    have hfl : nn = (cutE pos nd pg).length := by rw [← hfin, hOl]
    rw [hfl] at hst62 ⊢
    have htl0 : tl = 0 := by have h_ := hs42; simpa using h_
    have hmd : midE nd = (nd.es.getD hf en0).1 := by rw [midE, hn, hhf]; rfl
    have hll : (lf ++ [((nd.es.getD hf en0).1, tl + 1, pg)]).length = ln + 1 := by rw [List.length_append, hln]; rfl
    rw [hmd, if_pos htl0, if_pos htl0, if_pos htl0]
    exact ⟨_, _, _, _, rfl, by rw [hll]; exact hst62.pick [8, 7, 5] (by decide) rfl⟩
  have hs42p := beq_eq_false_iff_ne.1 hs42
  refine wp_skip (then_normal (wp_seq (sqr (sqp [.m 139 10, .k 140 (.agg #[.slice OA nn OC, .bool true, vi 0])] ?_))))
  refine sqst (n := 3) 2 #[.slice OA nn OC, .bool true, vi 0] hst38 fun W65 hst65 => ?_
  refine then_normal (wp_ret ?_)
  refine bpr (.agg #[.slice OA nn OC, .bool true, vi 0]) (results_cell (n := 3) Try.results62 rfl (by kernel_rfl) (by kernel_rfl) (hst65.blk 2 rfl) rfl) ?_
  have hfin : O = cutE pos nd pg := by rw [hO, clearE_allD (by omega), cutE, halfE, midE, hn, hhf]; rfl
  rw [hfin] at hst65
  have hfl : nn = (cutE pos nd pg).length := by rw [← hfin, hOl]
  rw [hfl] at hst65 ⊢
  have htl0 : ¬ tl = 0 := by have h_ := hs42; simpa using h_
  have hmd : midE nd = (nd.es.getD hf en0).1 := by rw [midE, hn, hhf]; rfl
  have hll : (lf ++ [((nd.es.getD hf en0).1, tl + 1, pg)]).length = ln + 1 := by rw [List.length_append, hln]; rfl
  rw [hmd, if_neg htl0, if_neg htl0, if_neg htl0]
  exact ⟨_, _, _, _, rfl, by rw [hll]; exact hst65.pick [8, 7, 5] (by decide) rfl⟩
end
end Go.Proofs.Ytjlcoglmjldjbaa
namespace Go.Proofs.Ytjlcoglmjldjbaa
section
open Go.RowKit
set_option linter.unusedVariables false
set_option linter.unusedSimpArgs false
theorem nodF_inv {k : Int} {its : List ByteArray} {n : NoD} (h : nodF k its = some n) : ∃ x l, its = x :: l ∧ k = 2 ∧ hdOk x = true ∧ n = ⟨numS x 0 1, (numS x 2 2 : Int) - 1, x.extract 4 x.size, numS x 1 1 == 1, srt (numS x 0 1) (rawE 1 l), freeE 1 l (l.length + 1)⟩ := by
  unfold nodF at h
  split at h
  · cases h
  · rename_i hk
    split at h
    · cases h
    · rename_i x l
      split at h
      · cases h
      · split at h
        · cases h
        · rename_i h1 h2
          exact ⟨x, l, rfl, by simpa using hk, by simpa using h1, (Option.some.inj h).symm⟩
theorem freeE_le : ∀ (l : List ByteArray) (i d : Nat), i ≤ d → freeE i l d ≤ max d (i + l.length)
  | [], i, d, h => by unfold freeE; omega
  | x :: l, i, d, h => by
    unfold freeE
    split
    · rw [List.length_cons]; omega
    · have e : freeE (i + 1) l d ≤ max d (i + 1 + l.length) := by
        rcases Nat.lt_or_ge i d with h1 | h1
        · exact freeE_le l (i + 1) d h1
        · have : i = d := by omega
          have h2 : ∀ (l : List ByteArray) (i d : Nat), freeE i l d ≤ max d (i + l.length) := by
            intro l
            induction l with
            | nil => intro i d; unfold freeE; omega
            | cons y l ih =>
              intro i d; unfold freeE
              split
              · rw [List.length_cons]; omega
              · have := ih (i + 1) d; rw [List.length_cons]; omega
          exact h2 l (i + 1) d
      rw [List.length_cons]; omega
/-- what is known of a node of a book -/
structure NdOk (n : NoD) : Prop where
  lv : 0 ≤ n.lv ∧ n.lv ≤ 255
  rt : -1 ≤ n.right ∧ n.right ≤ 65535
  hi : n.high.size ≤ 900000
  len : n.es.length ≤ 100
  es : ∀ e ∈ n.es, e.1.size ≤ 900000
  fr : n.free ≤ 101
theorem nd_ok {ps : List PgS} {x : Int} {n : NoD} (hok : OkS ps) (h : ndAt ps x = some n) : NdOk n := by
  rw [ndAt_pg] at h
  split at h
  · have hv := pgV_ok hok x
    obtain ⟨y, l, h1, h2, h3, rfl⟩ := nodF_inv h
    rw [h1] at hv
    have h4 : 4 ≤ y.size := by unfold hdOk at h3; simp only [Bool.and_eq_true, decide_eq_true_eq] at h3; exact h3.1.1
    have e0 := numS_one y 0 (by omega)
    have e2 := numS_two y 2 (by omega)
    have b0 := byteI_bd (bl y) 0
    have b2 := byteI_bd (bl y) 2
    have b3 := byteI_bd (bl y) (2 + 1)
    have hy := hv.2 y (by simp)
    have hl := hv.1
    rw [List.length_cons] at hl
    have hr := rawE_len 1 l
    refine ⟨by dsimp only; omega, by dsimp only; omega, by dsimp only; rw [ByteArray.size_extract]; omega, by dsimp only; rw [srt_len]; omega, fun e he => ?_, ?_⟩
    · obtain ⟨k, hk, rfl⟩ := List.getElem_of_mem he
      have h5 := srt_size (lv := (numS y 0 1 : Int)) (l := rawE 1 l) (M := 900000) (fun p hp => hv.2 _ (List.mem_cons_of_mem _ (rawE_mem hp).1)) k
      rwa [List.getD_eq_getElem?_getD, List.getElem?_eq_getElem hk] at h5
    · have := freeE_le l 1 (l.length + 1) (by omega)
      show freeE 1 l (l.length + 1) ≤ 101
      omega
  · cases h
section
variable {ps : List PgS} {fresh root pos leaf fro to tl tk : Int} {spl : Bool} {te : ByteArray} {lf : List TaT} {nd : NoD}
theorem st_none (h : ndAt ps pos = none) : stepF ps ⟨root, pos, leaf, (te, tl, tk) :: lf, fro, to, spl⟩ fresh = (⟨root, pos, leaf, (te, tl, tk) :: lf, 0, 0, false⟩, ⟨[], false, 22⟩) := by simp [stepF, h]
theorem st_lost (h : ndAt ps pos = some nd) (hs : sndB nd.dead nd.high te = true) (hr : nd.right < 0) : stepF ps ⟨root, pos, leaf, (te, tl, tk) :: lf, fro, to, spl⟩ fresh = (⟨root, pos, leaf, (te, tl, tk) :: lf, 0, 0, false⟩, ⟨[], false, 11⟩) := by simp [stepF, h, hs, hr]
theorem st_right (h : ndAt ps pos = some nd) (hs : sndB nd.dead nd.high te = true) (hr : ¬ nd.right < 0) : stepF ps ⟨root, pos, leaf, (te, tl, tk) :: lf, fro, to, spl⟩ fresh = (⟨root, nd.right, leaf, (te, tl, tk) :: lf, 0, 0, false⟩, ⟨[], false, 0⟩) := by simp [stepF, h, hs, hr]
theorem st_down (h : ndAt ps pos = some nd) (hs : sndB nd.dead nd.high te = false) (hl : tl < nd.lv) : stepF ps ⟨root, pos, leaf, (te, tl, tk) :: lf, fro, to, spl⟩ fresh = (⟨root, downF te nd.es (-1), leaf, (te, tl, tk) :: lf, 0, 0, false⟩, ⟨[], false, 0⟩) := by simp [stepF, h, hs, hl]
theorem st_form (h : ndAt ps pos = some nd) (hs : sndB nd.dead nd.high te = false) (hl : ¬ tl < nd.lv) (hm : nd.lv < tl) : stepF ps ⟨root, pos, leaf, (te, tl, tk) :: lf, fro, to, spl⟩ fresh = (⟨root, pos, leaf, (te, tl, tk) :: lf, 0, 0, false⟩, ⟨[], false, 11⟩) := by simp [stepF, h, hs, hl, hm]
theorem st_there (h : ndAt ps pos = some nd) (hs : sndB nd.dead nd.high te = false) (hl : ¬ tl < nd.lv) (hm : ¬ nd.lv < tl) (ht : hasE nd.es te = true) : stepF ps ⟨root, pos, leaf, (te, tl, tk) :: lf, fro, to, spl⟩ fresh = (⟨root, root, if tl = 0 then pos else leaf, lf, 0, 0, false⟩, ⟨[], false, 0⟩) := by simp [stepF, h, hs, hl, hm, ht]
theorem st_put (h : ndAt ps pos = some nd) (hs : sndB nd.dead nd.high te = false) (hl : ¬ tl < nd.lv) (hm : ¬ nd.lv < tl) (ht : hasE nd.es te = false) (h8 : nd.es.length < 8) : stepF ps ⟨root, pos, leaf, (te, tl, tk) :: lf, fro, to, spl⟩ fresh = (⟨root, root, if tl = 0 then pos else leaf, lf, 0, 0, false⟩, ⟨[(pos, (nd.free : Int), itB tl tk te)], false, 0⟩) := by simp [stepF, h, hs, hl, hm, ht, h8]
theorem st_full (h : ndAt ps pos = some nd) (hs : sndB nd.dead nd.high te = false) (hl : ¬ tl < nd.lv) (hm : ¬ nd.lv < tl) (ht : hasE nd.es te = false) (h8 : ¬ nd.es.length < 8) (hf : fresh < 0) : stepF ps ⟨root, pos, leaf, (te, tl, tk) :: lf, fro, to, spl⟩ fresh = (⟨root, pos, leaf, (te, tl, tk) :: lf, 0, 0, false⟩, ⟨[], false, 23⟩) := by simp [stepF, h, hs, hl, hm, ht, h8, hf]
theorem st_grow (h : ndAt ps pos = some nd) (hs : sndB nd.dead nd.high te = false) (hl : ¬ tl < nd.lv) (hm : ¬ nd.lv < tl) (ht : hasE nd.es te = false) (h8 : ¬ nd.es.length < 8) (hf : ¬ fresh < 0) (hr : pos = root) : stepF ps ⟨root, pos, leaf, (te, tl, tk) :: lf, fro, to, spl⟩ fresh = (⟨root, fresh, leaf, (te, tl, tk) :: lf, 0, 0, false⟩, ⟨growE root nd fresh, true, 0⟩) := by
  simp only [stepF, h, hs, hl, hm, ht, h8, hf, if_false, Bool.false_eq_true, or_self, if_pos hr]
theorem st_cut (h : ndAt ps pos = some nd) (hs : sndB nd.dead nd.high te = false) (hl : ¬ tl < nd.lv) (hm : ¬ nd.lv < tl) (ht : hasE nd.es te = false) (h8 : ¬ nd.es.length < 8) (hf : ¬ fresh < 0) (hr : ¬ pos = root) : stepF ps ⟨root, pos, leaf, (te, tl, tk) :: lf, fro, to, spl⟩ fresh = (⟨root, pos, leaf, ((te, tl, tk) :: lf) ++ [(midE nd, tl + 1, fresh)], if tl = 0 then pos else 0, if tl = 0 then fresh else 0, if tl = 0 then true else false⟩, ⟨cutE pos nd fresh, true, 0⟩) := by
  simp only [stepF, h, hs, hl, hm, ht, h8, hf, hr, if_false, Bool.false_eq_true, or_self]
  by_cases h0 : tl = 0 <;> simp [h0]
end
theorem hasE_snoc {es : List EnD} {i : Nat} (x : ByteArray) (h : i < es.length) : hasE (es.take (i + 1)) x = (hasE (es.take i) x || ((es.getD i en0).1.toList == x.toList)) := by
  rw [List.take_add_one, hasE, List.any_append, List.getD_eq_getElem?_getD, List.getElem?_eq_getElem h]
  simp [hasE]
/-- the suffix of a row -/
theorem At.dropF {T : Type} {w : World} {A : Option Addr} {f : T → List Value} {sz : Nat} {ts : List T} (hf : ∀ t, (f t).length = sz) (h : At w A (ts.flatMap f)) (l cap : Nat) (hc : ts.length ≤ cap) : At w (if cap = l then A else A.map (·.add (l * sz))) ((ts.drop l).flatMap f) := by
  have hl := flatLen hf
  by_cases e : cap = l
  · rw [List.drop_of_length_le (by omega)]; exact At.nil _ _
  · rw [if_neg e]
    intro j u hj
    rcases Nat.lt_or_ge ts.length l with h1 | h1
    · rw [List.drop_of_length_le (by omega)] at hj; simp at hj
    · have e2 : ts.flatMap f = (ts.take l).flatMap f ++ (ts.drop l).flatMap f := by rw [← List.flatMap_append, List.take_append_drop]
      have e3 : ((ts.take l).flatMap f).length = l * sz := by rw [hl, List.length_take, Nat.min_eq_left h1]
      have h2 : (ts.flatMap f)[l * sz + j]? = some u := by rw [e2, List.getElem?_append_right (by omega), e3, Nat.add_sub_cancel_left]; exact hj
      obtain ⟨ad, rfl, h3, h4⟩ := h _ _ h2
      exact ⟨_, rfl, by rw [add_block]; exact h3, by rw [add_add']; exact h4⟩
end
end Go.Proofs.Ytjlcoglmjldjbaa
namespace Go.Proofs.Ytjlcoglmjldjbaa
section
open Go.RowKit
set_option linter.unusedVariables false
set_option linter.unusedSimpArgs false
def puC (p : PuT) (A : Option Addr) (c : Nat) : Array Value := #[.int .i64 p.root, .int .i64 p.pos, .int .i64 p.leaf, .slice A p.left.length c, .int .i64 p.fro, .int .i64 p.to, .bool p.spl]
/-- an insertion: its block; its pending entries lie in the blocks behind it -/
def ePu (b : Nat) (p : PuT) (fp : List Nat) : Ent := ⟨fp, fun W => ∃ A c g, fp = b :: g ∧ b ∉ g ∧ p.left.length ≤ c ∧ (∀ ad, A = some ad → p.left ≠ [] → ad.block ∈ g) ∧ (∀ k ∈ g, k < W.heap.size) ∧ Blk W b 102 (puC p A c) ∧ At W A (p.left.flatMap tkC)⟩
theorem ePu_self {e : Ent} {b : Nat} {p : PuT} {fp : List Nat} (h : e = ePu b p fp) : e = ePu b p e.fp := by subst h; rfl
theorem at_blocks {T : Type} {W W' : World} {A : Option Addr} {f : T → List Value} {l : List T} (h : At W A (l.flatMap f)) (hk : ∀ ad, A = some ad → l ≠ [] → W'.heap[ad.block]? = W.heap[ad.block]?) : At W' A (l.flatMap f) := fun j u hj => by
  have hl : l ≠ [] := by rintro rfl; simp at hj
  obtain ⟨ad, rfl, h1, h2⟩ := h j u hj
  have h3 := hk ad rfl hl
  refine ⟨ad, rfl, ?_, ?_⟩
  · rcases Nat.lt_or_ge ad.block W'.heap.size with h4 | h4
    · exact h4
    · rw [Array.getElem?_eq_none h4, Array.getElem?_eq_getElem h1] at h3; cases h3
  · unfold World.cell? at h2 ⊢
    rw [add_block] at h2 ⊢
    rw [h3]; exact h2
theorem ePu_loc (b : Nat) (p : PuT) (fp : List Nat) : (ePu b p fp).loc := fun W W' hk h => by
  obtain ⟨A, c, g, rfl, h2, h3, h4, h5, h6, h7⟩ := h
  refine ⟨A, c, g, rfl, h2, h3, h4, fun k hkg => ?_, (hk b (by simp [ePu])).trans h6, at_blocks h7 fun ad e hl => hk _ (by simp [ePu, h4 ad e hl])⟩
  have h8 := hk k (by simp [ePu, hkg])
  rcases Nat.lt_or_ge k W'.heap.size with h9 | h9
  · exact h9
  · rw [Array.getElem?_eq_none h9, Array.getElem?_eq_getElem (h5 k hkg)] at h8; cases h8
/-- behind a step: the pending entries lie where they lay -/
theorem pu_old {w W : World} {b : Nat} {g fp : List Nat} {p : PuT} {A : Option Addr} {c : Nat} {E : Ent} (h : St w [b] [eB b 102 (puC p A c), E] W) (hfp : fp = b :: g) (hbg : b ∉ g) (hlt : ∀ k ∈ g, k < w.heap.size) (hc : p.left.length ≤ c) (hA : At W A (p.left.flatMap tkC)) (hAg : ∀ ad, A = some ad → p.left ≠ [] → ad.block ∈ g) : ∃ fp', St w fp [ePu b p fp', E] W := by
  subst hfp
  have h1 := h.ok _ (List.mem_cons_self ..)
  have h2 := h.ok E (by simp)
  have ha := List.pairwise_pair.1 h.apart
  have hB : Blk W b 102 (puC p A c) := h1.holds
  have hnew : ∀ k ∈ E.fp, w.heap.size ≤ k := fun k hk => by
    rcases (h2.own k hk).1 with h3 | h3
    · exact absurd hk (ha k (by simpa [eB] using h3))
    · exact h3
  refine ⟨b :: g, h.upd.mono (fun k _ hk => by simp at hk; simp [hk]), fun x hx => ?_, List.pairwise_pair.2 fun k hk hk' => ?_⟩
  · simp only [List.mem_cons, List.not_mem_nil, or_false] at hx
    rcases hx with rfl | rfl
    · refine ⟨⟨A, c, g, rfl, hbg, hc, hAg, fun k hk => Nat.lt_of_lt_of_le (hlt k hk) h.upd.size, hB, hA⟩, ePu_loc _ _ _, fun k hk => ⟨.inl hk, ?_⟩⟩
      rcases List.mem_cons.1 hk with e | hk
      · rw [e]; exact hB.lt
      · exact Nat.lt_of_lt_of_le (hlt k hk) h.upd.size
    · exact ⟨h2.holds, h2.loc, fun k hk => ⟨.inr (hnew k hk), (h2.own k hk).2⟩⟩
  · have h4 := hnew k hk'
    rcases List.mem_cons.1 hk with e | hk
    · exact ha k (by simp [eB, e]) hk'
    · exact absurd (hlt k hk) (by omega)
/-- behind a step: the pending entries lie in a new row -/
theorem pu_new {w W : World} {b : Nat} {g fp : List Nat} {p : PuT} {A : Option Addr} {c : Nat} {E : Ent} (h : St w [b] [eB b 102 (puC p A c), eO 111 3 (.slice A p.left.length c) p.left.length (p.left.flatMap tkC), E] W) (hfp : fp = b :: g) : ∃ fp', St w fp [ePu b p fp', E] W := by
  subst hfp
  have h1 := h.ok (eB b 102 (puC p A c)) (by simp)
  have h3 := h.ok (eO 111 3 (.slice A p.left.length c) p.left.length (p.left.flatMap tkC)) (by simp)
  have h2 := h.ok E (by simp)
  have hp := h.apart
  rw [List.pairwise_cons, List.pairwise_pair] at hp
  have hB : Blk W b 102 (puC p A c) := h1.holds
  have hO : W.ownsRow 0 111 3 (.slice A p.left.length c) p.left.length (p.left.flatMap tkC) := h3.holds
  have hAb : ∀ k, k ∈ (Value.slice A p.left.length c).ownBlock.toList → w.heap.size ≤ k ∧ k < W.heap.size ∧ k ≠ b ∧ k ∉ E.fp := fun k hk => by
    have h4 := h3.own k hk
    have hne : k ≠ b := fun e => hp.1 (eO 111 3 (.slice A p.left.length c) p.left.length (p.left.flatMap tkC)) (by simp) b (by simp [eB]) (e ▸ hk)
    exact ⟨h4.1.resolve_left (by simpa using hne), h4.2, hne, hp.2 k hk⟩
  have hnew : ∀ k ∈ E.fp, w.heap.size ≤ k := fun k hk => by
    rcases (h2.own k hk).1 with h4 | h4
    · exact absurd hk (hp.1 E (by simp) k (by simpa [eB] using h4))
    · exact h4
  refine ⟨b :: (Value.slice A p.left.length c).ownBlock.toList, h.upd.mono (fun k _ hk => by simp at hk; simp [hk]), fun x hx => ?_, List.pairwise_pair.2 fun k hk hk' => ?_⟩
  · simp only [List.mem_cons, List.not_mem_nil, or_false] at hx
    rcases hx with rfl | rfl
    · refine ⟨⟨A, c, _, rfl, fun hm => (hAb b hm).2.2.1 rfl, eown_capN hO, fun ad e hl => ?_, fun k hk => (hAb k hk).2.1, hB, At.of_ownN hO⟩, ePu_loc _ _ _, fun k hk => ?_⟩
      · subst e
        rcases hO.2 with ⟨hv, hm⟩ | ⟨g', cap, cur, hv, _⟩
        · injection hv with h5; cases h5
        · injection hv with h5; injection h5 with h5; subst h5; simp [Value.ownBlock]
      · rcases List.mem_cons.1 hk with e | hk
        · rw [e]; exact ⟨.inl (List.mem_cons_self ..), hB.lt⟩
        · exact ⟨.inr (hAb k hk).1, (hAb k hk).2.1⟩
    · exact ⟨h2.holds, h2.loc, fun k hk => ⟨.inr (hnew k hk), (h2.own k hk).2⟩⟩
  · rcases List.mem_cons.1 hk with e | hk
    · exact hp.1 E (by simp) k (by simp [eB, e]) hk'
    · exact (hAb k hk).2.2.2 hk'
/-- a book that stays while the blocks S change -/
def BkU (S : List Nat) (w : World) (bk : Nat) (ps : List PgS) : Prop := ∃ LA lc Ps, Ps.map abT = ps ∧ ∀ W, Upd S w W → BkO W bk LA lc ps.length Ps
theorem BkU.of {S : List Nat} {w : World} {bk : Nat} {ps : List PgS} {fb : List Nat} (h : (eBk bk ps fb).holds w) (hS : ∀ k ∈ fb, k < w.heap.size ∧ k ∉ S) : BkU S w bk ps := by
  obtain ⟨LA, lc, Ps, Qs, h1, h2, h3, h4, h5⟩ := h
  refine ⟨LA, lc, Ps, h1, fun W hW => ?_⟩
  have h6 : ∀ e ∈ bkL bk LA lc ps.length Ps Qs, e.holds W := fun e he => (h5 e he).2 w W (fun k hk => hW.block k (hS k (by rw [h3]; exact List.mem_flatMap.2 ⟨e, he, hk⟩)).1 (hS k (by rw [h3]; exact List.mem_flatMap.2 ⟨e, he, hk⟩)).2) (h5 e he).1
  refine ⟨h6 (eB bk 64 #[.slice LA ps.length lc]) (List.mem_cons_self ..), ?_, by rw [← h1, List.length_map], fun p hp => ePt_at (h6 (ePt Qs) (by simp [bkL])) (h2 p hp)⟩
  exact At.of_ownN (h6 (eO 51 3 (.slice LA ps.length lc) ps.length (Ps.flatMap ptC)) (by simp [bkL]))
theorem St.monoB {S T : List Nat} {w W : World} {L : List Ent} (h : St w S L W) (hs : ∀ k ∈ S, k ∈ T) : St w T L W :=
  ⟨h.upd.mono (fun k _ hk => hs k hk), fun e he => ⟨(h.ok e he).holds, (h.ok e he).loc, fun k hk => ⟨((h.ok e he).own k hk).1.imp (hs k) id, ((h.ok e he).own k hk).2⟩⟩, h.apart⟩
theorem rcut_pu (b : Nat) (root pos leaf : Int) (la : Addr) (ln lc : Nat) (nd : NoD) (EA SA KA : Option Addr) (ec sc kc : Nat) (pg : Int) (te : ByteArray) (tl tk : Int) (lf : List TaT) (w : World) (hb : Blk w b 102 #[.int .i64 root, .int .i64 pos, .int .i64 leaf, .slice (some la) ln lc, .int .i64 0, .int .i64 0, .bool false])
    (hE : ∀ W, Upd [b] w W → At W EA (nd.es.map stv)) (hS : ∀ W, Upd [b] w W → At W SA (nd.es.map slv)) (hK : ∀ W, Upd [b] w W → At W KA (nd.es.map kdv)) (hez : ∀ e ∈ nd.es, e.1.size ≤ 1000000) (hnb : nd.es.length ≤ 1000) (hlv : 0 ≤ nd.lv ∧ nd.lv ≤ 255) (hpg : 0 ≤ pg ∧ pg ≤ 1000000) (hL : ∀ W, Upd [b] w W → At W (some la) (lf.flatMap tkC)) (hln : lf.length = ln) (hlnb : ln ≤ 10000) (htl : 0 ≤ tl ∧ tl ≤ 100000) (hn1 : 1 ≤ nd.es.length) (hrt : -1 ≤ nd.right ∧ nd.right ≤ 100000) (hhi : nd.high.size ≤ 1000000) :
    Calls Try.prog 62 #[.pointer (some ⟨b, 0, none⟩), .agg #[.bool true, .bool nd.dead, .int .i64 nd.lv, .int .i64 nd.right, .string nd.high, .slice EA nd.es.length ec, .slice SA nd.es.length sc, .slice KA nd.es.length kc], .agg #[.string te, .int .i64 tl, .int .i64 tk], .int .i64 pg] w (fun e w' => ∃ A c, e = .returned (.agg #[.slice A (cutE pos nd pg).length c, .bool true, .int .i64 0]) ∧ ∃ fp', St w [b] [ePu b ⟨root, pos, leaf, lf ++ [(midE nd, tl + 1, pg)], if tl = 0 then pos else 0, if tl = 0 then pg else 0, if tl = 0 then true else false⟩ fp', eO 99 3 (.slice A (cutE pos nd pg).length c) (cutE pos nd pg).length ((cutE pos nd pg).flatMap edC)] w') := by
  subst hln
  refine (rcut_any b root pos leaf 0 0 false la _ lc nd EA SA KA ec sc kc _ pg te tl tk lf w hb hE hS hK rfl hez hnb hlv hpg hL rfl hlnb htl hn1 hrt hhi).mono ?_
  rintro e w' ⟨A, c, LA, lc', rfl, hs⟩
  refine ⟨A, c, rfl, pu_new (p := ⟨root, pos, leaf, lf ++ [(midE nd, tl + 1, pg)], if tl = 0 then pos else 0, if tl = 0 then pg else 0, if tl = 0 then true else false⟩) (A := LA) (c := lc') ?_ rfl (g := [])⟩
  have e1 : lf.length + 1 = (lf ++ [(midE nd, tl + 1, pg)]).length := by rw [List.length_append]; rfl
  rw [e1] at hs
  exact hs
theorem pg_its {W : World} {bk lc n : Nat} {LA : Option Addr} {Ps : List PgT} (h : BkO W bk LA lc n Ps) (x : Int) : At W (pgR Ps x).A ((pgV (Ps.map abT) x).2.2.map Value.string) := by
  by_cases hx : 0 ≤ x ∧ x < Ps.length
  · obtain ⟨N, rfl⟩ : ∃ N : Nat, x = (N : Int) := ⟨x.toNat, by omega⟩
    obtain ⟨e1, e3⟩ := pg_at (Ps := Ps) (N := N) (by omega) rfl
    rw [e1, e3]
    exact h.its _ (getD_mem' (by omega)).2
  · have e1 : pgV (Ps.map abT) x = pgs0 := by rw [pgV, if_neg (by rw [List.length_map]; exact hx)]
    rw [e1]; exact At.nil _ _
theorem spot_free {ps : List PgS} {x : Int} {n : NoD} (h : ndAt ps x = some n) : spotF (pgV ps x).2.2 = (n.free : Int) := by
  rw [ndAt_pg] at h
  split at h
  · obtain ⟨y, l, h1, h2, h3, rfl⟩ := nodF_inv h
    rw [h1, spotF, spotN]
    show ((freeE 1 l (max 1 (l.length + 1)) : Nat) : Int) = (freeE 1 l (l.length + 1) : Nat)
    rw [show max 1 (l.length + 1) = l.length + 1 by omega]
  · cases h
theorem tail_blk {lc : Nat} {la ad : Addr} (h : (if lc = 1 then some la else (some la).map (·.add (1 * 3))) = some ad) : ad.block = la.block := by
  split at h
  · rw [← Option.some.inj h]
  · have h2 := Option.some.inj h; rw [← h2, add_block]
def StPost (b : Nat) (r : PuT × GoT) (fp : List Nat) (w : World) (e : Ending) (w' : World) : Prop := ∃ A c, e = .returned (.agg #[.slice A r.2.eds.length c, .bool r.2.used, .int .i64 r.2.err]) ∧ ∃ fp', St w fp [ePu b r.1 fp', eO 99 3 (.slice A r.2.eds.length c) r.2.eds.length (r.2.eds.flatMap edC)] w'
structure NdQ (n : NoD) : Prop where
  lv : 0 ≤ n.lv ∧ n.lv ≤ 255
  es6 : ∀ e ∈ n.es, e.1.size ≤ 1000000
set_option maxRecDepth 100000 in
set_option maxHeartbeats 8000000 in
theorem rstep_c (b bk : Nat) (root pos leaf fro to : Int) (spl : Bool) (la : Addr) (ln lc : Nat) (te : ByteArray) (tl tk : Int) (lf : List TaT) (ps : List PgS) (fresh : Int) (fp g : List Nat) (w : World) (hb : Blk w b 102 #[.int .i64 root, .int .i64 pos, .int .i64 leaf, .slice ((some la)) ln lc, .int .i64 fro, .int .i64 to, .bool spl]) (hL : ∀ W, Upd [b] w W → At W (some la) (((te, tl, tk) :: lf).flatMap tkC)) (hln : ((te, tl, tk) :: lf).length = ln) (hlc : ((te, tl, tk) :: lf).length ≤ lc) (hlnb : ln ≤ 10000) (hB : BkU [b] w bk ps) (hok : OkS ps) (hfp : fp = b :: g) (hbg : b ∉ g) (hlt : ∀ k ∈ g, k < w.heap.size) (hla : la.block ∈ g) (hte : te.size ≤ 900000) (htl : 0 ≤ tl ∧ tl ≤ 90000) (hfr : -1 ≤ fresh ∧ fresh ≤ 1000000) :
    Calls Try.prog 17 #[.pointer (some ⟨b, 0, none⟩), .pointer (some ⟨bk, 0, none⟩), .int .i64 fresh] w (StPost b (stepF ps ⟨root, pos, leaf, (te, tl, tk) :: lf, fro, to, spl⟩ fresh) fp w) := by
  have st0 := St.lend (E := eB b 102 #[.int .i64 root, .int .i64 pos, .int .i64 leaf, .slice ((some la)) ln lc, .int .i64 fro, .int .i64 to, .bool spl]) hb (eB_loc _ _ _) (fun k hk => by simp [eB] at hk; subst hk; exact hb.lt)
  obtain ⟨LA, lcc, Ps, hps, hBO⟩ := hB
  have hvk := pgV_ok hok pos
  have hln1 : 1 ≤ ln := by rw [← hln]; simp
  have hlc1 : lf.length + 1 ≤ lc := hlc
  have hln2 : lf.length + 1 = ln := hln
  go_enter Try.func17, Try.ntmps17
  have hst0 := st0
  refine wp_seq (sqr (sqal #[.slice none 0 0, .bool false, vi 0] hst0 fun B6_1 W1 hst1 => ?_))
  refine then_normal (wp_seq (sqr (sqp [.m 15 0, .k 16 (vp b), .k 17 (.pointer (some ⟨b, 6, none⟩))] ?_)))
  refine sqst (n := 1) 0 #[vi root, vi pos, vi leaf, .slice ((some la)) ln lc, vi fro, vi to, .bool false] hst1 fun W5 hst5 => ?_
  refine then_normal (wp_seq (sqr (sqp [.m 18 0, .k 19 (vp b), .k 20 (.pointer (some ⟨b, 4, none⟩))] ?_)))
  refine sqst (n := 1) 0 #[vi root, vi pos, vi leaf, .slice ((some la)) ln lc, vi 0, vi to, .bool false] hst5 fun W9 hst9 => ?_
  refine then_normal (wp_seq (sqr (sqp [.m 21 0, .k 22 (vp b), .k 23 (.pointer (some ⟨b, 5, none⟩))] ?_)))
  refine sqst (n := 1) 0 #[vi root, vi pos, vi leaf, .slice ((some la)) ln lc, vi 0, vi 0, .bool false] hst9 fun W13 hst13 => ?_
  refine then_normal (wp_seq (wp_seq (sqr (sqp [.m 24 0, .k 25 (vp b), .k 26 (.pointer (some ⟨b, 3, none⟩))] ?_))))
  refine sqld 0 hst13 ?_
  have hd20 : ((ln : Int) == 0) = false := (by rw [beq_eq_false_iff_ne]; rw [List.length_cons] at hln; omega)
  refine sqp [.k 28 (vi ((ln : Int))), .e 29 (.bool ((ln : Int) == 0)) (.bool false) (congrArg Value.bool hd20)] ?_
  refine then_normal (wcf rfl (wp_skip (then_normal (wp_seq (sqr (sqp [.m 31 0, .k 32 (vp b), .k 33 (.pointer (some ⟨b, 3, none⟩))] ?_))))))
  refine sqld 0 hst13 ?_
  refine sql (.pointer (some ((ad ((some la))).add (0 * 3)))) hst13 (fun cx => run_indexSlM (e := 111) (m := 0) (sz := 3) rfl (by kernel_rfl) (by kernel_rfl) (cx.ou 34) (cx.co _) (by omega) (by omega) (hL _ cx.upd) (flatPos (sz := 3) tkC_len (by decide) (by omega))) ?_
  refine sql (.agg #[.string te, vi tl, vi tk]) hst13 (fun cx => run_loadElt (f := tkC) (m := 0) (sz := 3) (off := 0) (n := 3) rfl (by kernel_rfl) (by kernel_rfl) (cx.ou 35) rfl tkC_len (hL _ cx.upd) rfl (fun k hk => match k, hk with | 0, _ => rfl | 1, _ => rfl | 2, _ => rfl | k + 3, hk => absurd hk (by omega))) ?_
  refine sqal #[.string ByteArray.empty, vi 0, vi 0] hst13 fun B7_27 W27 hst27 => ?_
  refine sqst (n := 3) 2 #[.string te, vi tl, vi tk] hst27 fun W28 hst28 => ?_
  refine then_normal (wp_seq ?_)
  rcases hnd : ndAt ps pos with _ | nd
  · refine sqr (sqp [.m 37 1, .m 38 0, .k 39 (vp b), .k 40 (.pointer (some ⟨b, 1, none⟩))] ?_)
    refine sqld 0 hst28 ?_
    refine sqk (.agg #[.bool false, .bool false, vi 0, vi 0, .string ((⟨#[]⟩ : ByteArray)), .slice none 0 0, .slice none 0 0, .slice none 0 0]) hst28 (fun cx => ⟨_, nd_no hnd (rat_any bk ps pos _ ⟨LA, lcc, Ps, hps, hBO _ cx.upd⟩ hok), (map2 (cx.ou 37) (cx.ou 41))⟩) fun W34 hst34 => ?_
    refine sqal #[.bool false, .bool false, vi 0, vi 0, .string ByteArray.empty, .slice none 0 0, .slice none 0 0, .slice none 0 0] hst34 fun B8_35 W35 hst35 => ?_
    refine sqst (n := 8) 3 #[.bool false, .bool false, vi 0, vi 0, .string ((⟨#[]⟩ : ByteArray)), .slice none 0 0, .slice none 0 0, .slice none 0 0] hst35 fun W36 hst36 => ?_
    refine then_normal (wp_seq (wp_seq (sqr (sqp [.k 43 (vp B8_35)] ?_))))
    refine sqld 3 hst36 ?_
    refine sqp [.k 45 (.bool true)] ?_
    refine then_normal (wct rfl (wp_seq (sqr (sqp [.k 46 (.agg #[.slice none 0 0, .bool false, vi 22])] ?_))))
    refine sqst (n := 3) 1 #[.slice none 0 0, .bool false, vi 22] hst36 fun W41 hst41 => ?_
    refine then_normal (wp_ret (then_ret ?_))
    refine bpr (.agg #[.slice none 0 0, .bool false, vi 22]) (results_cell (n := 3) Try.results17 rfl (by kernel_rfl) (by kernel_rfl) (hst41.blk 1 rfl) rfl) ?_
    rw [st_none hnd]
    have hn42 := nilrowN hst41 99 3
    simp only [List.cons_append, List.nil_append] at hn42
    have hup_ := hn42.upd
    have hpk_ := hn42.pick [0, 4] (by decide) rfl
    subst hln
    exact ⟨_, _, rfl, pu_old hpk_ hfp hbg hlt hlc (hL _ hup_) (fun ad e _ => by rw [← Option.some.inj e]; exact hla)⟩
  · have hN0 := nd_ok hok hnd
    have hN : NdQ nd := ⟨hN0.lv, fun e he => Nat.le_trans (hN0.es e he) (by decide)⟩
    have hN1 := hN0.len
    have hN2 := hN0.rt
    have hN3 := hN0.hi
    have hN4 := hN0.lv
    have hN5 := hN0.fr
    have hN7 := hN0.es
    refine wp_region_Y [0, 0, 2, 6, 14, 31, 0, 127] [[], [], [], [], [0], [], [], [6]] [[], [], [], [], [], [3, 4, 5], [6], [7]] [[], [], [], [], [], [], [], [6]] [.k 37 (vp bk), .k 38 (vp b), .k 39 (vp b), .k 40 (.pointer (some ⟨b, 1, none⟩)), .c 41 (vi pos), .a 42, .a 8, .n] (fun ix σ β X => match ix with | 0 => True | 1 => True | 2 => True | 3 => True | 4 => True | 5 => σ 42 = .agg #[.bool true, .bool nd.dead, vi nd.lv, vi nd.right, .string nd.high, .slice (sA (tg (β 42) 5)) nd.es.length (sC (tg (β 42) 5)), .slice (sA (tg (β 42) 6)) nd.es.length (sC (tg (β 42) 6)), .slice (sA (tg (β 42) 7)) nd.es.length (sC (tg (β 42) 7))] ∧ X 3 = eO 9 1 (.slice (sA (tg (β 42) 5)) nd.es.length (sC (tg (β 42) 5))) nd.es.length (nd.es.map stv) ∧ X 4 = eO 3 1 (.slice (sA (tg (β 42) 6)) nd.es.length (sC (tg (β 42) 6))) nd.es.length (nd.es.map slv) ∧ X 5 = eO 3 1 (.slice (sA (tg (β 42) 7)) nd.es.length (sC (tg (β 42) 7))) nd.es.length (nd.es.map kdv) | 6 => σ 8 = vp (pb (β 8)) ∧ X 6 = eB (pb (β 8)) 66 #[.bool false, .bool false, vi 0, vi 0, .string ByteArray.empty, .slice none 0 0, .slice none 0 0, .slice none 0 0] | 7 => X 7 = eB (pb (β 8)) 66 #[.bool true, .bool nd.dead, vi nd.lv, vi nd.right, .string nd.high, .slice (sA (tg (β 42) 5)) nd.es.length (sC (tg (β 42) 5)), .slice (sA (tg (β 42) 6)) nd.es.length (sC (tg (β 42) 6)), .slice (sA (tg (β 42) 7)) nd.es.length (sC (tg (β 42) 7))] | _ => True) [0, 1, 2, 3, 4, 5, 7] [4, 5, 6, 7] [(8, 6, 1, 9), (28, 0, 6, 34)] hst28 ?_ ?_ ?_
    · exact fun ix _ _ _ _ _ _ hs hb hx h => match ix, h with
      | 5, h => by dsimp only; rw [← hs 42 rfl, ← hb 42 rfl, ← hx 3 rfl, ← hx 4 rfl, ← hx 5 rfl]; exact h
      | 6, h => by dsimp only; rw [← hs 8 rfl, ← hb 8 rfl, ← hx 6 rfl]; exact h
      | 7, h => by dsimp only; rw [← hb 8 rfl, ← hb 42 rfl, ← hx 7 rfl]; exact h
      | 0, _ | 1, _ | 2, _ | 3, _ | 4, _ | _ + 8, _ => trivial
    · refine ⟨?_, ?_, ?_, ?_, trivial⟩
      · exact xs4 rfl id fun cx => run_load1 rfl (by kernel_rfl) (cx.an 3) ((cx.bi 0 rfl).cell 1)
      · refine svA fun ρ β W X cx => ?_
        refine DoesU.call (run_callF (args := #[vp bk, vi pos]) rfl cx.sees rfl (by kernel_rfl) (map2 (cx.an 0) (cx.an 4))) ?_
        refine (nd_yes hnd (rat_any bk ps pos _ ⟨LA, lcc, Ps, hps, hBO _ cx.upd⟩ hok)).mono ?_
        rintro e W1 ⟨EA4, ec4, SA4, sc4, KA4, kc4, rfl, hs4⟩
        refine ⟨_, rfl, post_st [eO 9 1 (.slice EA4 nd.es.length ec4) nd.es.length (nd.es.map stv), eO 3 1 (.slice SA4 nd.es.length sc4) nd.es.length (nd.es.map slv), eO 3 1 (.slice KA4 nd.es.length kc4) nd.es.length (nd.es.map kdv)] rfl rfl hs4 (fun σ β' X' hs hb hv hN => ?_)⟩
        have hv1 := (hv 42 rfl).1; have hv2 := (hv 42 rfl).2
        exact ⟨hv1.trans (by rw [hv2]; rfl), (by rw [hv2]; exact (List.cons.inj hN).1), (by rw [hv2]; exact (List.cons.inj (List.cons.inj hN).2).1), (by rw [hv2]; exact (List.cons.inj (List.cons.inj (List.cons.inj hN).2).2).1)⟩
      · refine svA fun ρ β W X cx => ?_
        exact dv_alloc (cs := #[.bool false, .bool false, vi 0, vi 0, .string ByteArray.empty, .slice none 0 0, .slice none 0 0, .slice none 0 0]) rfl (by kernel_rfl) rfl rfl (fun σ β' X' hs hb hv hx => ⟨hv, hx⟩)
      · refine svA fun ρ β W X cx => ?_
        exact dv_store (n := 8) rfl (dTn (cx.an 6)).1 (dTn (cx.an 5)).1 (by kernel_rfl) (by kernel_rfl) (by kernel_rfl) cx (dTn (cx.an 6)).2 rfl (nle rfl) (by kernel_rfl) rfl rfl rfl (fun σ β' X' hs hb hx => by rw [hb 8, hb 42]; exact hx)
    intro σ β X W43 hD hst43 fr hfr
    obtain ⟨EA42_43, hu_EA42_43⟩ : ∃ z, sA (tg (β 42) 5) = z := ⟨_, rfl⟩
    obtain ⟨cEA42_43, hu_cEA42_43⟩ : ∃ z, sC (tg (β 42) 5) = z := ⟨_, rfl⟩
    obtain ⟨SA42_43, hu_SA42_43⟩ : ∃ z, sA (tg (β 42) 6) = z := ⟨_, rfl⟩
    obtain ⟨cSA42_43, hu_cSA42_43⟩ : ∃ z, sC (tg (β 42) 6) = z := ⟨_, rfl⟩
    obtain ⟨KA42_43, hu_KA42_43⟩ : ∃ z, sA (tg (β 42) 7) = z := ⟨_, rfl⟩
    obtain ⟨cKA42_43, hu_cKA42_43⟩ : ∃ z, sC (tg (β 42) 7) = z := ⟨_, rfl⟩
    obtain ⟨B8_43, hu_B8_43⟩ : ∃ z, pb (β 8) = z := ⟨_, rfl⟩
    simp only [exq 3 ((dTn (hD 5 lq)).2.1), exq 4 ((dTn (hD 5 lq)).2.2.1), exq 5 ((dTn (hD 5 lq)).2.2.2), exq 7 ((dTn (hD 7 lq))), hu_EA42_43, hu_cEA42_43, hu_SA42_43, hu_cSA42_43, hu_KA42_43, hu_cKA42_43, hu_B8_43] at hst43
    simp only [ed 42 ((dTn (hD 5 lq)).1), ed 8 ((dTn (hD 6 lq)).1), hu_EA42_43, hu_cEA42_43, hu_SA42_43, hu_cSA42_43, hu_KA42_43, hu_cKA42_43, hu_B8_43] at hfr
    clear hD hu_EA42_43 hu_cEA42_43 hu_SA42_43 hu_cSA42_43 hu_KA42_43 hu_cKA42_43 hu_B8_43; subst hfr; clear σ β X
    refine then_normal (wp_seq (wp_seq (sqr (sqp [.k 43 (vp B8_43)] ?_))))
    refine sqld 6 hst43 ?_
    refine sqp [.k 45 (.bool false)] ?_
    refine then_normal (wcf rfl (wp_skip (then_normal (wp_seq (sqr ?_)))))
    refine sqlb 6 8 hst43 ?_
    refine sqp [.k 48 (vp B7_27)] ?_
    refine sqld 2 hst43 ?_
    refine sqk (.bool (sndB nd.dead nd.high te)) hst43 (fun cx => ⟨_, rsends_any nd.lv nd.right nd.high true nd.dead _ _ _ _ _ _ _ _ _ te _ (by omega) (by omega), (map2 (cx.ou 47) (cx.ou 49))⟩) fun W50 hst50 => ?_
    refine sqp [.m 9 50] ?_
    refine then_normal (wp_seq (wp_seq (sqr (sqp [.m 51 9] ?_))))
    refine then_normal (wbs (fun hs53 => ?_) fun hs53 => ?_)
    · refine wp_seq (wp_seq (sqr (sqp [.k 52 (.pointer (some ⟨B8_43, 3, none⟩))] ?_)))
      refine sqld 6 hst50 ?_
      refine sqp [.k 54 (.bool (decide (nd.right < 0)))] ?_
      refine then_normal (wds (fun hs57 hs57p => ?_) fun hs57 hs57p => ?_)
      · refine wp_seq (sqr (sqp [.k 55 (.agg #[.slice none 0 0, .bool false, vi 11])] ?_))
        refine sqst (n := 3) 1 #[.slice none 0 0, .bool false, vi 11] hst50 fun W59 hst59 => ?_
        refine then_normal (wp_ret (then_ret (then_ret ?_)))
        refine bpr (.agg #[.slice none 0 0, .bool false, vi 11]) (results_cell (n := 3) Try.results17 rfl (by kernel_rfl) (by kernel_rfl) (hst59.blk 1 rfl) rfl) ?_
        rw [st_lost hnd hs53 (by omega)]
        have hn60 := nilrowN hst59 99 3
        simp only [List.cons_append, List.nil_append] at hn60
        have hup_ := hn60.upd
        have hpk_ := hn60.pick [0, 7] (by decide) rfl
        subst hln
        exact ⟨_, _, rfl, pu_old hpk_ hfp hbg hlt hlc (hL _ hup_) (fun ad e _ => by rw [← Option.some.inj e]; exact hla)⟩
      refine wp_skip (then_normal (wp_seq (sqr (sqp [.m 56 0, .k 57 (.pointer (some ⟨B8_43, 3, none⟩))] ?_))))
      refine sqld 6 hst50 ?_
      refine sqp [.k 59 (vp b), .k 60 (.pointer (some ⟨b, 1, none⟩))] ?_
      refine sqst (n := 1) 0 #[vi root, vi nd.right, vi leaf, .slice ((some la)) ln lc, vi 0, vi 0, .bool false] hst50 fun W66 hst66 => ?_
      refine then_normal (wp_seq (sqr (sqp [.k 61 (.agg #[.slice none 0 0, .bool false, vi 0])] ?_)))
      refine sqst (n := 3) 1 #[.slice none 0 0, .bool false, vi 0] hst66 fun W68 hst68 => ?_
      refine then_normal (wp_ret (then_ret ?_))
      refine bpr (.agg #[.slice none 0 0, .bool false, vi 0]) (results_cell (n := 3) Try.results17 rfl (by kernel_rfl) (by kernel_rfl) (hst68.blk 1 rfl) rfl) ?_
      rw [st_right hnd hs53 (by omega)]
      have hn69 := nilrowN hst68 99 3
      simp only [List.cons_append, List.nil_append] at hn69
      have hup_ := hn69.upd
      have hpk_ := hn69.pick [0, 7] (by decide) rfl
      subst hln
      exact ⟨_, _, rfl, pu_old hpk_ hfp hbg hlt hlc (hL _ hup_) (fun ad e _ => by rw [← Option.some.inj e]; exact hla)⟩
    refine wp_skip (then_normal (wp_seq (wp_seq (sqr (sqp [.k 62 (.pointer (some ⟨B8_43, 2, none⟩))] ?_)))))
    refine sqld 6 hst50 ?_
    refine sqp [.k 64 (.pointer (some ⟨B7_27, 1, none⟩))] ?_
    refine sqld 2 hst50 ?_
    refine sqp [.k 66 (.bool (decide (tl < nd.lv)))] ?_
    refine then_normal (wds (fun hs75 hs75p => ?_) fun hs75 hs75p => ?_)
    · refine wp_seq (sqr (sqp [.m 67 0] ?_))
      refine sqlb 6 8 hst50 ?_
      refine sqp [.k 69 (vp B7_27)] ?_
      refine sqld 2 hst50 ?_
      refine sqk (vi (downF te nd.es (-1))) hst50 (fun cx => ⟨_, rdown_any _ _ _ _ _ _ _ _ _ _ _ _ nd.es.length _ nd.es _ (At.of_own (cx.ri 3 rfl)) (At.of_own (cx.ri 5 rfl)) rfl hN.es6 (by omega) (by omega), (map2 (cx.ou 68) (cx.ou 70))⟩) fun W80 hst80 => ?_
      refine sqp [.k 72 (vp b), .k 73 (.pointer (some ⟨b, 1, none⟩))] ?_
      refine sqst (n := 1) 0 #[vi root, vi (downF te nd.es (-1)), vi leaf, .slice ((some la)) ln lc, vi 0, vi 0, .bool false] hst80 fun W83 hst83 => ?_
      refine then_normal (wp_seq (sqr (sqp [.k 74 (.agg #[.slice none 0 0, .bool false, vi 0])] ?_)))
      refine sqst (n := 3) 1 #[.slice none 0 0, .bool false, vi 0] hst83 fun W85 hst85 => ?_
      refine then_normal (wp_ret (then_ret ?_))
      refine bpr (.agg #[.slice none 0 0, .bool false, vi 0]) (results_cell (n := 3) Try.results17 rfl (by kernel_rfl) (by kernel_rfl) (hst85.blk 1 rfl) rfl) ?_
      rw [st_down hnd hs53 (by omega)]
      have hn86 := nilrowN hst85 99 3
      simp only [List.cons_append, List.nil_append] at hn86
      have hup_ := hn86.upd
      have hpk_ := hn86.pick [0, 7] (by decide) rfl
      subst hln
      exact ⟨_, _, rfl, pu_old hpk_ hfp hbg hlt hlc (hL _ hup_) (fun ad e _ => by rw [← Option.some.inj e]; exact hla)⟩
    refine wp_skip (then_normal (wp_seq (wp_seq (sqr (sqp [.k 75 (.pointer (some ⟨B8_43, 2, none⟩))] ?_)))))
    refine sqld 6 hst50 ?_
    refine sqp [.k 77 (.pointer (some ⟨B7_27, 1, none⟩))] ?_
    refine sqld 2 hst50 ?_
    refine sqp [.k 79 (.bool (decide (nd.lv < tl)))] ?_
    refine then_normal (wds (fun hs92 hs92p => ?_) fun hs92 hs92p => ?_)
    · refine wp_seq (sqr (sqp [.k 80 (.agg #[.slice none 0 0, .bool false, vi 11])] ?_))
      refine sqst (n := 3) 1 #[.slice none 0 0, .bool false, vi 11] hst50 fun W94 hst94 => ?_
      refine then_normal (wp_ret (then_ret ?_))
      refine bpr (.agg #[.slice none 0 0, .bool false, vi 11]) (results_cell (n := 3) Try.results17 rfl (by kernel_rfl) (by kernel_rfl) (hst94.blk 1 rfl) rfl) ?_
      rw [st_form hnd hs53 (by omega) (by omega)]
      have hn95 := nilrowN hst94 99 3
      simp only [List.cons_append, List.nil_append] at hn95
      have hup_ := hn95.upd
      have hpk_ := hn95.pick [0, 7] (by decide) rfl
      subst hln
      exact ⟨_, _, rfl, pu_old hpk_ hfp hbg hlt hlc (hL _ hup_) (fun ad e _ => by rw [← Option.some.inj e]; exact hla)⟩
    refine wp_skip (then_normal (wp_seq (sqr (sqp [.k 10 (.bool false)] ?_))))
    refine then_normal (wp_seq (wp_seq (sqr (sqp [.k 11 (vi 0)] ?_))))
    refine then_normal (wp_block ?_)
    refine wp_loopT (fun t_ mz az W => ∃ i : Nat, ∃ q : Bool, i ≤ nd.es.length ∧ q = hasE (nd.es.take i) te ∧ mz = nd.es.length - i ∧ az = ⟨(ovr (jv az) [(10, 10, 0, [.bool q, vi ((i : Int))]), (69, 81, 18, [])] t_).toArray, []⟩ ∧ St w [b] [eB b 102 #[vi root, vi pos, vi leaf, .slice ((some la)) ln lc, vi 0, vi 0, .bool false], eB B6_1 39 #[.slice none 0 0, .bool false, vi 0], eB B7_27 111 #[.string te, vi tl, vi tk], eO 9 1 (.slice EA42_43 nd.es.length cEA42_43) nd.es.length (nd.es.map stv), eO 3 1 (.slice SA42_43 nd.es.length cSA42_43) nd.es.length (nd.es.map slv), eO 3 1 (.slice KA42_43 nd.es.length cKA42_43) nd.es.length (nd.es.map kdv), eB B8_43 66 #[.bool true, .bool nd.dead, vi nd.lv, vi nd.right, .string nd.high, .slice EA42_43 nd.es.length cEA42_43, .slice SA42_43 nd.es.length cSA42_43, .slice KA42_43 nd.es.length cKA42_43]] W) (nd.es.length - 0) ?_ ?_
    · -- the loop begins
      exact ⟨0, false, Nat.zero_le _, rfl, rfl, (by kernel_rfl), hst50.pk [0, 1, 2, 3, 4, 5, 6]⟩
    rintro n98 a98 W98 ⟨i, q, hi, hq, rfl, hj_, hst98⟩
    refine ovz hj_ fun u98_ => ?_
    refine wp_seq (wp_seq (sqr (sqp [.m 81 11, .k 82 (.pointer (some ⟨B8_43, 5, none⟩))] ?_)))
    refine sqld 6 hst98 ?_
    refine sqp [.k 84 (vi ((nd.es.length : Int))), .k 85 (.bool (decide ((i : Int) < (nd.es.length : Int))))] ?_
    refine then_normal (wds (fun hs104 hs104p => ?_) fun hs104 hs104p => ?_)
    · refine wp_skip (then_normal (wp_seq (wp_block (wp_region_Z [0, 1, 3, 7, 3, 31, 63, 3, 131, 511, 1023, 2047] [[], [], [], [6], [], [3], [3], [], [2]] [.k 88 (.bool q), .k 89 (.bool q), .z 90 (!q) (.pointer (some ⟨B8_43, 5, none⟩)), .y 91 (!q) (.slice EA42_43 nd.es.length cEA42_43), .z 92 (!q) (vi ((i : Int))), .y 93 (!q) (.pointer (some ((ad EA42_43).add i))), .y 94 (!q) (.string ((nd.es.getD i en0).1)), .z 95 (!q) (vp B7_27), .y 96 (!q) (.string te), .y 97 (!q) (.bool (((nd.es.getD i en0).1).toList == te.toList)), tO 98 q (((nd.es.getD i en0).1).toList == te.toList), .k 10 (.bool (q || (((nd.es.getD i en0).1).toList == te.toList)))] [0, 1, 2, 3, 4, 5, 6] [3, 5, 6, 8, 9] [(10, 11, 1, 11), (77, 0, 11, 88)] hst98 ?_ fun W105 hst105 => ?_))))
      · refine ⟨?_, ?_, ?_, ?_, ?_, trivial⟩
        · exact m2 rfl (fun _ _ _ h => h) (fun cx => (cx.an 1)) fun cx hq => run_load1 rfl (by kernel_rfl) (mbv (cx.an 2) hq) ((cx.bi 6 rfl).cell 5)
        · exact m2 rfl (fun _ _ _ h => h) (fun cx => (cx.an 1)) fun cx hq => run_indexSl (e := 9) (m := i) rfl (by kernel_rfl) (by kernel_rfl) (mbv (cx.an 3) hq) (mbv (cx.an 4) hq) (by have hq_ := hq; simp only [zB] at hq_; omega) (by have hq_ := hq; simp only [zB] at hq_; omega) (At.of_own (cx.ri 3 rfl)) (by rw [List.length_map])
        · exact m2 rfl (fun _ _ _ h => h) (fun cx => (cx.an 1)) fun cx hq => run_load1 rfl (by kernel_rfl) (mbv (cx.an 5) hq) (At.cellAd (At.of_own (cx.ri 3 rfl)) (st_get (by have hq_ := hq; simp only [zB] at hq_; omega)))
        · exact m2 rfl (fun _ _ _ h => h) (fun cx => (cx.an 1)) fun cx hq => run_load1 rfl (by kernel_rfl) (mbv (cx.an 7) hq) ((cx.bi 2 rfl).cell 0)
        · exact m2 rfl (fun _ _ _ h => h) (fun cx => (cx.an 1)) fun cx hq => run_streq rfl (mbv (cx.an 6) hq) (mbv (cx.an 8) hq)
      refine blk_normal (then_normal (sqr (sqp [.m 86 11, sI 87 ((i : Int) + 1) (by omega), .m 11 87] ?_)))
      refine then_normal ?_
      refine ⟨nd.es.length - ((i + 1)), by omega, ?_⟩
      exact ⟨(i + 1), (q || (((nd.es.getD i en0).1).toList == te.toList)), by omega, by rw [hasE_snoc te (by omega), ← hq], rfl, (by kernel_rfl), hst105.pk [0, 1, 2, 3, 4, 5, 6]⟩
    refine wp_exit (then_exit (then_exit (blk_eq (then_normal (wp_seq (wp_seq ?_))))))
    have hqa : hasE nd.es te = q := by rw [hq, List.take_of_length_le (by omega)]
    refine sqr (sqp [.m 99 10, .m 100 99] ?_)
    refine sqw' 100 [101, 102, 103, 104] ?_ rfl (fun hq => ?_) ?_
    rotate_left
    · refine sqp [.k 101 (.pointer (some ⟨B8_43, 5, none⟩))] ?_
      refine sqld 6 hst98 ?_
      refine sqp [.k 103 (vi ((nd.es.length : Int))), .k 104 (.bool (decide ((nd.es.length : Int) < 8)))] ?_
      exact sqe
    refine sqwx ?_
    refine sqp [sPo 105 q (decide ((nd.es.length : Int) < 8))] ?_
    refine then_normal (wbs (fun hs116 => ?_) fun hs116 => ?_)
    · have hs116p := hs116
      simp only [zB] at hs116p
      refine wp_seq (sqr (sqp [.k 12 (.slice none 0 0)] ?_))
      refine then_normal (wp_seq (wp_seq (sqr (sqp [.m 106 10, .k 107 (.bool (!(q)))] ?_))))
      refine then_normal ?_
      rcases Bool.eq_false_or_eq_true (q) with hs120 | hs120
      · refine wp_cond_false (show Act.eval _ _ = .bool false from (congrArg Value.bool (by rw [hs120]; rfl))) (wp_skip (then_normal (wp_seq (wp_seq (sqr (sqp [.k 132 (.pointer (some ⟨B7_27, 1, none⟩))] ?_))))))
        refine sqld 2 hst98 ?_
        refine sqp [.k 134 (.bool (tl == 0))] ?_
        refine then_normal (wbs (fun hs124 => ?_) fun hs124 => ?_)
        · have hs124p := beq_iff_eq.1 hs124
          refine sqr (sqp [.m 135 0, .m 136 0, .k 137 (vp b), .k 138 (.pointer (some ⟨b, 1, none⟩))] ?_)
          refine sqld 0 hst98 ?_
          refine sqp [.k 140 (vp b), .k 141 (.pointer (some ⟨b, 2, none⟩))] ?_
          refine sqst (n := 1) 0 #[vi root, vi pos, vi pos, .slice ((some la)) ln lc, vi 0, vi 0, .bool false] hst98 fun W132 hst132 => ?_
          refine then_normal (wp_seq (sqr (sqp [.m 142 0, .m 143 0, .k 144 (vp b), .k 145 (.pointer (some ⟨b, 3, none⟩))] ?_)))
          refine sqld 0 hst132 ?_
          refine sql (.slice ((if lc = 1 then (some la) else ((some la)).map (·.add (1 * 3)))) ((ln - 1)) ((lc - 1))) hst132 (fun cx => run_sliceL_lo (e := 111) (sz := 3) (l := 1) rfl (by kernel_rfl) (by kernel_rfl) (cx.ou 146) (cx.co _) (by omega) (by omega)) ?_
          refine sqp [.k 148 (vp b), .k 149 (.pointer (some ⟨b, 3, none⟩))] ?_
          refine sqst (n := 1) 0 #[vi root, vi pos, vi pos, .slice ((if lc = 1 then (some la) else ((some la)).map (·.add (1 * 3)))) ((ln - 1)) ((lc - 1)), vi 0, vi 0, .bool false] hst132 fun W141 hst141 => ?_
          refine then_normal (wp_seq (sqr (sqp [.m 150 0, .m 151 0, .k 152 (vp b), .k 153 (vp b)] ?_)))
          refine sqld 0 hst141 ?_
          refine sqp [.k 155 (vp b), .k 156 (.pointer (some ⟨b, 1, none⟩))] ?_
          refine sqst (n := 1) 0 #[vi root, vi root, vi pos, .slice ((if lc = 1 then (some la) else ((some la)).map (·.add (1 * 3)))) ((ln - 1)) ((lc - 1)), vi 0, vi 0, .bool false] hst141 fun W149 hst149 => ?_
          refine then_normal (wp_seq (sqr (sqp [.m 157 12, .k 158 (.agg #[.slice none 0 0, .bool false, vi 0])] ?_)))
          refine sqst (n := 3) 1 #[.slice none 0 0, .bool false, vi 0] hst149 fun W152 hst152 => ?_
          refine then_normal (wp_ret (then_ret ?_))
          refine bpr (.agg #[.slice none 0 0, .bool false, vi 0]) (results_cell (n := 3) Try.results17 rfl (by kernel_rfl) (by kernel_rfl) (hst152.blk 1 rfl) rfl) ?_
          rw [st_there hnd hs53 (by omega) (by omega) (by rw [hqa]; exact hs120)]
          have htl0 : tl = 0 := by have h_ := hs124; simpa using h_
          rw [if_pos htl0]
          have hn153 := nilrowN hst152 99 3
          simp only [List.cons_append, List.nil_append] at hn153
          have hup_ := hn153.upd
          have hpk_ := hn153.pick [0, 7] (by decide) rfl
          have hl1_ : ln - 1 = lf.length := by omega
          rw [hl1_] at hpk_
          exact ⟨_, _, rfl, pu_old hpk_ hfp hbg hlt (by show lf.length ≤ lc - 1; omega) (At.dropF (ts := (te, tl, tk) :: lf) tkC_len (hL _ hup_) 1 lc hlc) (fun ad e _ => by rw [tail_blk e]; exact hla)⟩
        have hs124p := beq_eq_false_iff_ne.1 hs124
        refine wp_skip (then_normal (wp_seq (sqr (sqp [.m 142 0, .m 143 0, .k 144 (vp b), .k 145 (.pointer (some ⟨b, 3, none⟩))] ?_))))
        refine sqld 0 hst98 ?_
        refine sql (.slice ((if lc = 1 then (some la) else ((some la)).map (·.add (1 * 3)))) ((ln - 1)) ((lc - 1))) hst98 (fun cx => run_sliceL_lo (e := 111) (sz := 3) (l := 1) rfl (by kernel_rfl) (by kernel_rfl) (cx.ou 146) (cx.co _) (by omega) (by omega)) ?_
        refine sqp [.k 148 (vp b), .k 149 (.pointer (some ⟨b, 3, none⟩))] ?_
        refine sqst (n := 1) 0 #[vi root, vi pos, vi leaf, .slice ((if lc = 1 then (some la) else ((some la)).map (·.add (1 * 3)))) ((ln - 1)) ((lc - 1)), vi 0, vi 0, .bool false] hst98 fun W162 hst162 => ?_
        refine then_normal (wp_seq (sqr (sqp [.m 150 0, .m 151 0, .k 152 (vp b), .k 153 (vp b)] ?_)))
        refine sqld 0 hst162 ?_
        refine sqp [.k 155 (vp b), .k 156 (.pointer (some ⟨b, 1, none⟩))] ?_
        refine sqst (n := 1) 0 #[vi root, vi root, vi leaf, .slice ((if lc = 1 then (some la) else ((some la)).map (·.add (1 * 3)))) ((ln - 1)) ((lc - 1)), vi 0, vi 0, .bool false] hst162 fun W170 hst170 => ?_
        refine then_normal (wp_seq (sqr (sqp [.m 157 12, .k 158 (.agg #[.slice none 0 0, .bool false, vi 0])] ?_)))
        refine sqst (n := 3) 1 #[.slice none 0 0, .bool false, vi 0] hst170 fun W173 hst173 => ?_
        refine then_normal (wp_ret (then_ret ?_))
        refine bpr (.agg #[.slice none 0 0, .bool false, vi 0]) (results_cell (n := 3) Try.results17 rfl (by kernel_rfl) (by kernel_rfl) (hst173.blk 1 rfl) rfl) ?_
        rw [st_there hnd hs53 (by omega) (by omega) (by rw [hqa]; exact hs120)]
        have htl0 : ¬ tl = 0 := by have h_ := hs124; simpa using h_
        rw [if_neg htl0]
        have hn174 := nilrowN hst173 99 3
        simp only [List.cons_append, List.nil_append] at hn174
        have hup_ := hn174.upd
        have hpk_ := hn174.pick [0, 7] (by decide) rfl
        have hl1_ : ln - 1 = lf.length := by omega
        rw [hl1_] at hpk_
        exact ⟨_, _, rfl, pu_old hpk_ hfp hbg hlt (by show lf.length ≤ lc - 1; omega) (At.dropF (ts := (te, tl, tk) :: lf) tkC_len (hL _ hup_) 1 lc hlc) (fun ad e _ => by rw [tail_blk e]; exact hla)⟩
      refine wp_cond_true (show Act.eval _ _ = .bool true from (congrArg Value.bool (by rw [hs120]; rfl))) (wp_seq (sqr (sqp [.m 109 1, .m 110 0, .k 111 (vp b), .k 112 (.pointer (some ⟨b, 1, none⟩))] ?_)))
      refine sqld 0 hst98 ?_
      refine sqk (.tuple #[.agg #[vi ((pgV ps pos).1), vi ((pgV ps pos).2.1), .slice ((pgR Ps pos).A) ((pgV ps pos).2.2.length) ((pgR Ps pos).c)], .bool (pgB ps pos)]) hst98 (fun cx => ⟨_, rpage_o bk LA lcc _ Ps ps pos _ (hBO _ cx.upd) hps hok.len, (map2 (cx.ou 109) (cx.ou 113))⟩) fun W180 hst180 => ?_
      refine sqp [.m 108 114, .k 115 (.agg #[vi ((pgV ps pos).1), vi ((pgV ps pos).2.1), .slice ((pgR Ps pos).A) ((pgV ps pos).2.2.length) ((pgR Ps pos).c)]), .k 116 (.bool (pgB ps pos))] ?_
      refine sqal #[vi 0, vi 0, .slice none 0 0] hst180 fun B13_184 W184 hst184 => ?_
      refine sqst (n := 3) 7 #[vi ((pgV ps pos).1), vi ((pgV ps pos).2.1), .slice ((pgR Ps pos).A) ((pgV ps pos).2.2.length) ((pgR Ps pos).c)] hst184 fun W185 hst185 => ?_
      refine sqp [.m 14 116] ?_
      refine then_normal (wp_region_Y [0, 1, 3, 7, 0, 16, 0, 64, 0, 256, 0, 1024, 4080, 8191, 16383, 32767] [[], [], [], [0], [7], [], [], [2], [], [2], [], [2]] [[], [], [], [], [], [], [], [], [], [], [], [], [], [], [8]] [] [.k 117 (vp b), .k 118 (vp b), .k 119 (.pointer (some ⟨b, 1, none⟩)), .c 120 (vi pos), .c 121 (.agg #[vi ((pgV ps pos).1), vi ((pgV ps pos).2.1), .slice ((pgR Ps pos).A) ((pgV ps pos).2.2.length) ((pgR Ps pos).c)]), .c 122 (vi (spotF (pgV ps pos).2.2)), .k 123 (vp B7_27), .c 124 (.string te), .k 125 (.pointer (some ⟨B7_27, 1, none⟩)), .c 126 (vi tl), .k 127 (.pointer (some ⟨B7_27, 2, none⟩)), .c 128 (vi tk), .c 129 (.string (itB tl tk te)), .k 130 (.agg #[vi pos, vi (spotF (pgV ps pos).2.2), .string (itB tl tk te)]), .a 131, .a 12] (fun ix σ β X => match ix with | 0 => True | 1 => True | 2 => True | 3 => True | 4 => True | 5 => True | 6 => True | 7 => True | 8 => True | 9 => True | 10 => True | 11 => True | 12 => True | 13 => True | 14 => σ 131 = .slice ((some ⟨(pb' (β 131)), 0, none⟩)) 1 1 ∧ X 8 = eO 99 3 (.slice ((some ⟨(pb' (β 131)), 0, none⟩)) 1 1) 1 ([vi pos, vi (spotF (pgV ps pos).2.2), .string (itB tl tk te)]) | 15 => σ 12 = .slice ((some ⟨(pb' (β 131)), 0, none⟩)) 1 1 | _ => True) [0, 1, 2, 3, 4, 5, 6, 7, 8] [3, 4, 5, 7, 9, 11, 12, 14, 15] [(12, 15, 1, 13), (104, 0, 15, 119)] hst185 ?_ ?_ ?_)
      · exact fun ix _ _ _ _ _ _ hs hb hx h => match ix, h with
        | 14, h => by dsimp only; rw [← hs 131 rfl, ← hb 131 rfl, ← hx 8 rfl]; exact h
        | 15, h => by dsimp only; rw [← hs 12 rfl, ← hb 131 rfl]; exact h
        | 0, _ | 1, _ | 2, _ | 3, _ | 4, _ | 5, _ | 6, _ | 7, _ | 8, _ | 9, _ | 10, _ | 11, _ | 12, _ | 13, _ | _ + 16, _ => trivial
      · refine ⟨?_, ?_, ?_, ?_, ?_, ?_, ?_, ?_, ?_, trivial⟩
        · exact xs4 rfl id fun cx => run_load1 rfl (by kernel_rfl) (cx.an 2) ((cx.bi 0 rfl).cell 1)
        · exact xs4 rfl id fun cx => run_loadB (n := 3) rfl (by kernel_rfl) (by kernel_rfl) (cx.ou 13) (cx.bi 7 rfl) (nle rfl) rfl
        · exact xsc rfl id rfl rfl fun cx => ⟨_, rspot_any _ _ _ _ (pgV ps pos).2.2 _ (hps ▸ pg_its (hBO _ cx.upd) pos) (Nat.le_trans hvk.1 (by decide)), (map1 (cx.an 4))⟩
        · exact xs4 rfl id fun cx => run_load1 rfl (by kernel_rfl) (cx.an 6) ((cx.bi 2 rfl).cell 0)
        · exact xs4 rfl id fun cx => run_load1 rfl (by kernel_rfl) (cx.an 8) ((cx.bi 2 rfl).cell 1)
        · exact xs4 rfl id fun cx => run_load1 rfl (by kernel_rfl) (cx.an 10) ((cx.bi 2 rfl).cell 2)
        · exact xsc rfl id rfl rfl fun cx => ⟨_, ritem_any te tl tk _ (by omega), (map3 (cx.an 7) (cx.an 9) (cx.an 11))⟩
        · refine svA fun ρ β W X cx => ?_
          have fF130 : ρ (.tmp 130) = .agg #[vi pos, vi (spotF (pgV ps pos).2.2), .string (itB tl tk te)] := (cx.an 13)
          exact dv_litN (e := 99) (sz := 3) (xs := [vi pos, vi (spotF (pgV ps pos).2.2), .string (itB tl tk te)]) rfl (by simp [go_sem, fF130]) rfl (by decide) rfl rfl (fun σ β' X' hs hb hv hx => ⟨hv, hx⟩)
        · exact sv rfl rfl rfl rfl rfl _ (fun _ _ _ h => h) (fun β β' h => by rw [h 131 (by decide)]) fun ρ β W X cx => run_assign' rfl (dTn (cx.an 14)).1
      intro σ β X W187 hD hst187 fr hfr
      obtain ⟨B131_187, hu_B131_187⟩ : ∃ z, pb' (β 131) = z := ⟨_, rfl⟩
      simp only [exq 8 ((dTn (hD 14 lq)).2), hu_B131_187] at hst187
      simp only [ed 131 ((dTn (hD 14 lq)).1), ed 12 ((dTn (hD 15 lq))), hu_B131_187] at hfr
      clear hD hu_B131_187; subst hfr; clear σ β X
      refine then_normal (wp_seq (wp_seq (sqr (sqp [.k 132 (.pointer (some ⟨B7_27, 1, none⟩))] ?_))))
      refine sqld 2 hst187 ?_
      refine sqp [.k 134 (.bool (tl == 0))] ?_
      refine then_normal (wbs (fun hs191 => ?_) fun hs191 => ?_)
      · have hs191p := beq_iff_eq.1 hs191
        refine sqr (sqp [.m 135 0, .m 136 0, .k 137 (vp b), .k 138 (.pointer (some ⟨b, 1, none⟩))] ?_)
        refine sqld 0 hst187 ?_
        refine sqp [.k 140 (vp b), .k 141 (.pointer (some ⟨b, 2, none⟩))] ?_
        refine sqst (n := 1) 0 #[vi root, vi pos, vi pos, .slice ((some la)) ln lc, vi 0, vi 0, .bool false] hst187 fun W199 hst199 => ?_
        refine then_normal (wp_seq (sqr (sqp [.m 142 0, .m 143 0, .k 144 (vp b), .k 145 (.pointer (some ⟨b, 3, none⟩))] ?_)))
        refine sqld 0 hst199 ?_
        refine sql (.slice ((if lc = 1 then (some la) else ((some la)).map (·.add (1 * 3)))) ((ln - 1)) ((lc - 1))) hst199 (fun cx => run_sliceL_lo (e := 111) (sz := 3) (l := 1) rfl (by kernel_rfl) (by kernel_rfl) (cx.ou 146) (cx.co _) (by omega) (by omega)) ?_
        refine sqp [.k 148 (vp b), .k 149 (.pointer (some ⟨b, 3, none⟩))] ?_
        refine sqst (n := 1) 0 #[vi root, vi pos, vi pos, .slice ((if lc = 1 then (some la) else ((some la)).map (·.add (1 * 3)))) ((ln - 1)) ((lc - 1)), vi 0, vi 0, .bool false] hst199 fun W208 hst208 => ?_
        refine then_normal (wp_seq (sqr (sqp [.m 150 0, .m 151 0, .k 152 (vp b), .k 153 (vp b)] ?_)))
        refine sqld 0 hst208 ?_
        refine sqp [.k 155 (vp b), .k 156 (.pointer (some ⟨b, 1, none⟩))] ?_
        refine sqst (n := 1) 0 #[vi root, vi root, vi pos, .slice ((if lc = 1 then (some la) else ((some la)).map (·.add (1 * 3)))) ((ln - 1)) ((lc - 1)), vi 0, vi 0, .bool false] hst208 fun W216 hst216 => ?_
        refine then_normal (wp_seq (sqr (sqp [.m 157 12, .k 158 (.agg #[.slice ((some ⟨B131_187, 0, none⟩)) 1 1, .bool false, vi 0])] ?_)))
        refine sqst (n := 3) 1 #[.slice ((some ⟨B131_187, 0, none⟩)) 1 1, .bool false, vi 0] hst216 fun W219 hst219 => ?_
        refine then_normal (wp_ret (then_ret ?_))
        refine bpr (.agg #[.slice ((some ⟨B131_187, 0, none⟩)) 1 1, .bool false, vi 0]) (results_cell (n := 3) Try.results17 rfl (by kernel_rfl) (by kernel_rfl) (hst219.blk 1 rfl) rfl) ?_
        rw [st_put hnd hs53 (by omega) (by omega) (by rw [hqa]; exact hs120) (by have h_ := hs116; rw [hs120, Bool.false_or] at h_; have h2_ := of_decide_eq_true h_; omega)]
        have htl0 : tl = 0 := by have h_ := hs191; simpa using h_
        rw [if_pos htl0]
        have hup_ := hst219.upd
        have hpk_ := hst219.pick [0, 8] (by decide) rfl
        have hl1_ : ln - 1 = lf.length := by omega
        rw [hl1_, spot_free hnd] at hpk_
        exact ⟨_, _, rfl, pu_old hpk_ hfp hbg hlt (by show lf.length ≤ lc - 1; omega) (At.dropF (ts := (te, tl, tk) :: lf) tkC_len (hL _ hup_) 1 lc hlc) (fun ad e _ => by rw [tail_blk e]; exact hla)⟩
      have hs191p := beq_eq_false_iff_ne.1 hs191
      refine wp_skip (then_normal (wp_seq (sqr (sqp [.m 142 0, .m 143 0, .k 144 (vp b), .k 145 (.pointer (some ⟨b, 3, none⟩))] ?_))))
      refine sqld 0 hst187 ?_
      refine sql (.slice ((if lc = 1 then (some la) else ((some la)).map (·.add (1 * 3)))) ((ln - 1)) ((lc - 1))) hst187 (fun cx => run_sliceL_lo (e := 111) (sz := 3) (l := 1) rfl (by kernel_rfl) (by kernel_rfl) (cx.ou 146) (cx.co _) (by omega) (by omega)) ?_
      refine sqp [.k 148 (vp b), .k 149 (.pointer (some ⟨b, 3, none⟩))] ?_
      refine sqst (n := 1) 0 #[vi root, vi pos, vi leaf, .slice ((if lc = 1 then (some la) else ((some la)).map (·.add (1 * 3)))) ((ln - 1)) ((lc - 1)), vi 0, vi 0, .bool false] hst187 fun W228 hst228 => ?_
      refine then_normal (wp_seq (sqr (sqp [.m 150 0, .m 151 0, .k 152 (vp b), .k 153 (vp b)] ?_)))
      refine sqld 0 hst228 ?_
      refine sqp [.k 155 (vp b), .k 156 (.pointer (some ⟨b, 1, none⟩))] ?_
      refine sqst (n := 1) 0 #[vi root, vi root, vi leaf, .slice ((if lc = 1 then (some la) else ((some la)).map (·.add (1 * 3)))) ((ln - 1)) ((lc - 1)), vi 0, vi 0, .bool false] hst228 fun W236 hst236 => ?_
      refine then_normal (wp_seq (sqr (sqp [.m 157 12, .k 158 (.agg #[.slice ((some ⟨B131_187, 0, none⟩)) 1 1, .bool false, vi 0])] ?_)))
      refine sqst (n := 3) 1 #[.slice ((some ⟨B131_187, 0, none⟩)) 1 1, .bool false, vi 0] hst236 fun W239 hst239 => ?_
      refine then_normal (wp_ret (then_ret ?_))
      refine bpr (.agg #[.slice ((some ⟨B131_187, 0, none⟩)) 1 1, .bool false, vi 0]) (results_cell (n := 3) Try.results17 rfl (by kernel_rfl) (by kernel_rfl) (hst239.blk 1 rfl) rfl) ?_
      rw [st_put hnd hs53 (by omega) (by omega) (by rw [hqa]; exact hs120) (by have h_ := hs116; rw [hs120, Bool.false_or] at h_; have h2_ := of_decide_eq_true h_; omega)]
      have htl0 : ¬ tl = 0 := by have h_ := hs191; simpa using h_
      rw [if_neg htl0]
      have hup_ := hst239.upd
      have hpk_ := hst239.pick [0, 8] (by decide) rfl
      have hl1_ : ln - 1 = lf.length := by omega
      rw [hl1_, spot_free hnd] at hpk_
      exact ⟨_, _, rfl, pu_old hpk_ hfp hbg hlt (by show lf.length ≤ lc - 1; omega) (At.dropF (ts := (te, tl, tk) :: lf) tkC_len (hL _ hup_) 1 lc hlc) (fun ad e _ => by rw [tail_blk e]; exact hla)⟩
    have hs116p := hs116
    simp only [zB] at hs116p
    obtain ⟨hs116p1, hs116p2⟩ := hs116p
    refine wp_skip (then_normal (wp_seq (wp_seq (sqr (sqp [.m 159 2, .k 160 (.bool (decide (fresh < 0)))] ?_)))))
    refine then_normal (wds (fun hs242 hs242p => ?_) fun hs242 hs242p => ?_)
    · refine wp_seq (sqr (sqp [.k 161 (.agg #[.slice none 0 0, .bool false, vi 23])] ?_))
      refine sqst (n := 3) 1 #[.slice none 0 0, .bool false, vi 23] hst98 fun W244 hst244 => ?_
      refine then_normal (wp_ret (then_ret ?_))
      refine bpr (.agg #[.slice none 0 0, .bool false, vi 23]) (results_cell (n := 3) Try.results17 rfl (by kernel_rfl) (by kernel_rfl) (hst244.blk 1 rfl) rfl) ?_
      rw [st_full hnd hs53 (by omega) (by omega) (by rw [hqa]; exact hs116p1) (by omega) (by omega)]
      have hn245 := nilrowN hst244 99 3
      simp only [List.cons_append, List.nil_append] at hn245
      have hup_ := hn245.upd
      have hpk_ := hn245.pick [0, 7] (by decide) rfl
      subst hln
      exact ⟨_, _, rfl, pu_old hpk_ hfp hbg hlt hlc (hL _ hup_) (fun ad e _ => by rw [← Option.some.inj e]; exact hla)⟩
    refine wp_skip (then_normal (wp_seq (wp_seq (wp_region_Z [0, 1, 3, 7, 0, 16, 48, 112, 255] [[], [], [], [0], [], [], [], [0]] [.k 162 (vp b), .k 163 (vp b), .k 164 (.pointer (some ⟨b, 1, none⟩)), .c 165 (vi pos), .k 166 (vp b), .k 167 (vp b), .k 168 (vp b), .c 169 (vi root), .k 170 (.bool (pos == root))] [0, 1, 2, 3, 4, 5, 6] [3, 7] [(162, 0, 9, 171)] hst98 ?_ fun W246 hst246 => ?_))))
    · refine ⟨?_, ?_, trivial⟩
      · exact xs4 rfl id fun cx => run_load1 rfl (by kernel_rfl) (cx.an 2) ((cx.bi 0 rfl).cell 1)
      · exact xs4 rfl id fun cx => run_load1 rfl (by kernel_rfl) (cx.an 6) ((cx.bi 0 rfl).cell 0)
    refine then_normal (wbs (fun hs247 => ?_) fun hs247 => ?_)
    · have hs247p := beq_iff_eq.1 hs247
      refine wp_seq (wp_region_Y [0, 0, 0, 7, 15] [[], [6], [], [0, 3, 4, 5], [1]] [[], [], [], [7, 8], [9]] [[], [], [], [0], [1]] [.k 171 (vp b), .c 172 (.agg #[.bool true, .bool nd.dead, vi nd.lv, vi nd.right, .string nd.high, .slice EA42_43 nd.es.length cEA42_43, .slice SA42_43 nd.es.length cSA42_43, .slice KA42_43 nd.es.length cKA42_43]), .k 173 (vi fresh), .a 174, .n] (fun ix σ β X => match ix with | 0 => True | 1 => True | 2 => True | 3 => σ 174 = .agg #[.slice (sA (tg (β 174) 0)) ((growE root nd fresh).length) (sC (tg (β 174) 0)), .bool true, vi 0] ∧ X 7 = eB b 102 #[vi root, vi fresh, vi leaf, .slice ((some la)) ln lc, vi 0, vi 0, .bool false] ∧ X 8 = eO 99 3 (.slice (sA (tg (β 174) 0)) ((growE root nd fresh).length) (sC (tg (β 174) 0))) ((growE root nd fresh).length) ((growE root nd fresh).flatMap edC) | 4 => X 9 = eB B6_1 39 #[.slice (sA (tg (β 174) 0)) ((growE root nd fresh).length) (sC (tg (β 174) 0)), .bool true, vi 0] | _ => True) [2, 3, 4, 5, 6, 7, 8, 9] [1, 3, 4] [(171, 0, 4, 175)] hst246 ?_ ?_ ?_)
      · exact fun ix _ _ _ _ _ _ hs hb hx h => match ix, h with
        | 3, h => by dsimp only; rw [← hs 174 rfl, ← hb 174 rfl, ← hx 7 rfl, ← hx 8 rfl]; exact h
        | 4, h => by dsimp only; rw [← hb 174 rfl, ← hx 9 rfl]; exact h
        | 0, _ | 1, _ | 2, _ | _ + 5, _ => trivial
      · refine ⟨?_, ?_, ?_, trivial⟩
        · exact xs4 rfl id fun cx => run_loadB (n := 8) rfl (by kernel_rfl) (by kernel_rfl) (cx.ou 8) (cx.bi 6 rfl) (nle rfl) rfl
        · refine svA fun ρ β W X cx => ?_
          refine DoesU.call (run_callF (args := #[vp b, .agg #[.bool true, .bool nd.dead, vi nd.lv, vi nd.right, .string nd.high, .slice EA42_43 nd.es.length cEA42_43, .slice SA42_43 nd.es.length cSA42_43, .slice KA42_43 nd.es.length cKA42_43], vi fresh]) rfl cx.sees rfl (by kernel_rfl) (map3 (cx.an 0) (cx.an 1) (cx.an 2))) ?_
          refine (rgrow_any _ _ _ _ _ _ _ _ _ _ nd _ _ _ _ _ _ _ fresh _ (cx.bi 0 rfl) (CtxV.keepAt cx (cx.init 3 _ rfl) (cx.init 0 _ rfl) rfl rfl (by decide)) (CtxV.keepAt cx (cx.init 4 _ rfl) (cx.init 0 _ rfl) rfl rfl (by decide)) (CtxV.keepAt cx (cx.init 5 _ rfl) (cx.init 0 _ rfl) rfl rfl (by decide)) rfl hN.es6 (by omega) hN.lv (by omega)).mono ?_
          rintro e W1 ⟨A4, c4, rfl, hs4⟩
          refine ⟨_, rfl, post_obj (E := eB b 102 #[vi root, vi pos, vi leaf, .slice ((some la)) ln lc, vi 0, vi 0, .bool false]) [eB b 102 #[vi root, vi fresh, vi leaf, .slice ((some la)) ln lc, vi 0, vi 0, .bool false], eO 99 3 (.slice A4 (growE root nd fresh).length c4) (growE root nd fresh).length ((growE root nd fresh).flatMap edC)] (cx.init 0 _ rfl) rfl rfl hs4 (fun σ β' X' hs hb hv hN => ?_)⟩
          have hv1 := (hv 174 rfl).1; have hv2 := (hv 174 rfl).2
          exact ⟨hv1.trans (by rw [hv2]; rfl), (List.cons.inj hN).1, (by rw [hv2]; exact (List.cons.inj (List.cons.inj hN).2).1)⟩
        · refine svA fun ρ β W X cx => ?_
          exact dv_store (n := 3) rfl (cx.ou 6) (dTn (cx.an 3)).1 (by kernel_rfl) (by kernel_rfl) (by kernel_rfl) cx (cx.init 1 _ rfl) rfl (nle rfl) (by kernel_rfl) rfl rfl rfl (fun σ β' X' hs hb hx => by rw [hb 174]; exact hx)
      intro σ β X W248 hD hst248 fr hfr
      obtain ⟨A174_248, hu_A174_248⟩ : ∃ z, sA (tg (β 174) 0) = z := ⟨_, rfl⟩
      obtain ⟨c174_248, hu_c174_248⟩ : ∃ z, sC (tg (β 174) 0) = z := ⟨_, rfl⟩
      simp only [exq 7 ((dTn (hD 3 lq)).2.1), exq 8 ((dTn (hD 3 lq)).2.2), exq 9 ((dTn (hD 4 lq))), hu_A174_248, hu_c174_248] at hst248
      simp only [ed 174 ((dTn (hD 3 lq)).1), hu_A174_248, hu_c174_248] at hfr
      clear hD hu_A174_248 hu_c174_248; subst hfr; clear σ β X
      refine then_normal (wp_ret (then_ret ?_))
      refine bpr (.agg #[.slice A174_248 ((growE root nd fresh).length) c174_248, .bool true, vi 0]) (results_cell (n := 3) Try.results17 rfl (by kernel_rfl) (by kernel_rfl) (hst248.blk 7 rfl) rfl) ?_
      rw [st_grow hnd hs53 (by omega) (by omega) (by rw [hqa]; exact hs116p1) (by omega) (by omega) (by omega)]
      have hup_ := hst248.upd
      have hpk_ := hst248.pick [5, 6] (by decide) rfl
      subst hln
      exact ⟨_, _, rfl, pu_old hpk_ hfp hbg hlt hlc (hL _ hup_) (fun ad e _ => by rw [← Option.some.inj e]; exact hla)⟩
    have hs247p := beq_eq_false_iff_ne.1 hs247
    refine wp_skip (then_normal (wp_seq (wp_region_Y [0, 0, 0, 0, 15, 31] [[], [6], [2], [], [0, 3, 4, 5], [1]] [[], [], [], [], [7, 8], [9]] [[], [], [], [], [0], [1]] [.k 175 (vp b), .c 176 (.agg #[.bool true, .bool nd.dead, vi nd.lv, vi nd.right, .string nd.high, .slice EA42_43 nd.es.length cEA42_43, .slice SA42_43 nd.es.length cSA42_43, .slice KA42_43 nd.es.length cKA42_43]), .c 177 (.agg #[.string te, vi tl, vi tk]), .k 178 (vi fresh), .a 179, .n] (fun ix σ β X => match ix with | 0 => True | 1 => True | 2 => True | 3 => True | 4 => σ 179 = .agg #[.slice (sA (tg (β 179) 0)) ((cutE pos nd fresh).length) (sC (tg (β 179) 0)), .bool true, vi 0] ∧ X 7 = ePu b ⟨root, pos, leaf, ((te, tl, tk) :: lf ++ [(midE nd, tl + 1, fresh)]), if tl = 0 then pos else 0, if tl = 0 then fresh else 0, if tl = 0 then true else false⟩ ((X 7).fp) ∧ X 8 = eO 99 3 (.slice (sA (tg (β 179) 0)) ((cutE pos nd fresh).length) (sC (tg (β 179) 0))) ((cutE pos nd fresh).length) ((cutE pos nd fresh).flatMap edC) | 5 => X 9 = eB B6_1 39 #[.slice (sA (tg (β 179) 0)) ((cutE pos nd fresh).length) (sC (tg (β 179) 0)), .bool true, vi 0] | _ => True) [2, 3, 4, 5, 6, 7, 8, 9] [1, 2, 4, 5] [(175, 0, 5, 180)] hst246 ?_ ?_ ?_)))
    · exact fun ix _ _ _ _ _ _ hs hb hx h => match ix, h with
      | 4, h => by dsimp only; rw [← hs 179 rfl, ← hb 179 rfl, ← hx 7 rfl, ← hx 8 rfl]; exact h
      | 5, h => by dsimp only; rw [← hb 179 rfl, ← hx 9 rfl]; exact h
      | 0, _ | 1, _ | 2, _ | 3, _ | _ + 6, _ => trivial
    · refine ⟨?_, ?_, ?_, ?_, trivial⟩
      · exact xs4 rfl id fun cx => run_loadB (n := 8) rfl (by kernel_rfl) (by kernel_rfl) (cx.ou 8) (cx.bi 6 rfl) (nle rfl) rfl
      · exact xs4 rfl id fun cx => run_loadB (n := 3) rfl (by kernel_rfl) (by kernel_rfl) (cx.ou 7) (cx.bi 2 rfl) (nle rfl) rfl
      · refine svA fun ρ β W X cx => ?_
        refine DoesU.call (run_callF (args := #[vp b, .agg #[.bool true, .bool nd.dead, vi nd.lv, vi nd.right, .string nd.high, .slice EA42_43 nd.es.length cEA42_43, .slice SA42_43 nd.es.length cSA42_43, .slice KA42_43 nd.es.length cKA42_43], .agg #[.string te, vi tl, vi tk], vi fresh]) rfl cx.sees rfl (by kernel_rfl) (map4 (cx.an 0) (cx.an 1) (cx.an 2) (cx.an 3))) ?_
        refine (rcut_pu _ _ _ _ _ _ _ nd _ _ _ _ _ _ fresh _ _ _ ((te, tl, tk) :: lf) _ (cx.bi 0 rfl) (CtxV.keepAt cx (cx.init 3 _ rfl) (cx.init 0 _ rfl) rfl rfl (by decide)) (CtxV.keepAt cx (cx.init 4 _ rfl) (cx.init 0 _ rfl) rfl rfl (by decide)) (CtxV.keepAt cx (cx.init 5 _ rfl) (cx.init 0 _ rfl) rfl rfl (by decide)) hN.es6 (by omega) hN.lv (by omega) (fun W' hu => hL W' (cx.upd.join hu (fun i hi => .inl hi))) hln (by omega) (by omega) (by omega) (by omega) (by omega)).mono ?_
        rintro e W1 ⟨A4, c4, rfl, fp4, hs4⟩
        refine ⟨_, rfl, post_obj (E := eB b 102 #[vi root, vi pos, vi leaf, .slice ((some la)) ln lc, vi 0, vi 0, .bool false]) [ePu b ⟨root, pos, leaf, ((te, tl, tk) :: lf ++ [(midE nd, tl + 1, fresh)]), if tl = 0 then pos else 0, if tl = 0 then fresh else 0, if tl = 0 then true else false⟩ fp4, eO 99 3 (.slice A4 (cutE pos nd fresh).length c4) (cutE pos nd fresh).length ((cutE pos nd fresh).flatMap edC)] (cx.init 0 _ rfl) rfl rfl hs4 (fun σ β' X' hs hb hv hN => ?_)⟩
        have hv1 := (hv 179 rfl).1; have hv2 := (hv 179 rfl).2
        exact ⟨hv1.trans (by rw [hv2]; rfl), ePu_self ((List.cons.inj hN).1), (by rw [hv2]; exact (List.cons.inj (List.cons.inj hN).2).1)⟩
      · refine svA fun ρ β W X cx => ?_
        exact dv_store (n := 3) rfl (cx.ou 6) (dTn (cx.an 4)).1 (by kernel_rfl) (by kernel_rfl) (by kernel_rfl) cx (cx.init 1 _ rfl) rfl (nle rfl) (by kernel_rfl) rfl rfl rfl (fun σ β' X' hs hb hx => by rw [hb 179]; exact hx)
    intro σ β X W249 hD hst249 fr hfr
    obtain ⟨A179_249, hu_A179_249⟩ : ∃ z, sA (tg (β 179) 0) = z := ⟨_, rfl⟩
    obtain ⟨c179_249, hu_c179_249⟩ : ∃ z, sC (tg (β 179) 0) = z := ⟨_, rfl⟩
    have xX7 : X 7 = _ := (dTn (hD 4 lq)).2.1
    obtain ⟨r7_249, hu_r7_249⟩ : ∃ z, (X 7).fp = z := ⟨_, rfl⟩
    rw [hu_r7_249] at xX7
    clear hu_r7_249
    simp only [xX7, exq 8 ((dTn (hD 4 lq)).2.2), exq 9 ((dTn (hD 5 lq))), hu_A179_249, hu_c179_249] at hst249
    simp only [ed 179 ((dTn (hD 4 lq)).1), hu_A179_249, hu_c179_249] at hfr
    clear hD xX7 hu_A179_249 hu_c179_249; subst hfr; clear σ β X
    refine then_normal (wp_ret ?_)
    refine bpr (.agg #[.slice A179_249 ((cutE pos nd fresh).length) c179_249, .bool true, vi 0]) (results_cell (n := 3) Try.results17 rfl (by kernel_rfl) (by kernel_rfl) (hst249.blk 7 rfl) rfl) ?_
    rw [st_cut hnd hs53 (by omega) (by omega) (by rw [hqa]; exact hs116p1) (by omega) (by omega) (by omega)]
    exact ⟨_, _, rfl, _, St.monoB (hst249.pick [5, 6] (by decide) rfl) (by rw [hfp]; simp)⟩
end
end Go.Proofs.Ytjlcoglmjldjbaa
namespace Go.Proofs.Ytjlcoglmjldjbaa
section
open Go.RowKit
set_option linter.unusedVariables false
set_option linter.unusedSimpArgs false
def keyM (n : Int) : Int := (n.tmod 200 + 200) % 200
def keyF (n : Int) : ByteArray := if 0 < keyM n % 3 then strOfNums [97 + keyM n % 26] ++ strOfNums [97 + keyM n / 26] else strOfNums [97 + keyM n % 26]
theorem keyF_size (n : Int) : (keyF n).size ≤ 2 := by
  unfold keyF
  split
  · rw [ByteArray.size_append, strOfNums_size, strOfNums_size]; exact Nat.le_refl 2
  · rw [strOfNums_size]; exact Nat.le_succ 1
def putT (root : Int) (key : ByteArray) (pg sl : Int) : PuT := ⟨root, root, -1, [(entF key pg sl, 0, 0)], 0, 0, false⟩
/-- an insertion run to its end, at most k steps -/
def runF : Nat → List PgS → Int → PuT → List PgS × Int
  | 0, ps, nx, _ => (ps, nx)
  | k + 1, ps, nx, p => if p.left = [] then (ps, nx) else runF k (doB ps (stepF ps p nx).2.eds) (if (stepF ps p nx).2.used then nx + 1 else nx) (stepF ps p nx).1
def grwF (l : List Int) : Nat → List PgS × Int
  | 0 => (blankF 60, 1)
  | i + 1 => runF 60 (grwF l i).1 (grwF l i).2 (putT 0 (keyF (l.getD i 0)) (1 + (i : Int) / 8) (1 + (i : Int) % 8))
/-- the tree of Grown -/
def grownF (l : List Int) : List PgS := (grwF l (min l.length 90)).1
theorem runF_nil (k : Nat) (ps : List PgS) (nx : Int) {p : PuT} (h : p.left = []) : runF k ps nx p = (ps, nx) := by
  cases k with
  | zero => rfl
  | succ k => rw [runF, if_pos h]
theorem runF_step {k : Nat} {ps : List PgS} {nx : Int} {p : PuT} (h : p.left ≠ []) : runF (k + 1) ps nx p = runF k (doB ps (stepF ps p nx).2.eds) (if (stepF ps p nx).2.used then nx + 1 else nx) (stepF ps p nx).1 := by rw [runF, if_neg h]
-- sizes
/-- edits of slots that are not too high need no care; items of at most M bytes -/
def EdM (M : Nat) (l : List EdT) : Prop := ∀ e ∈ l, e.2.2.size ≤ M
structure BdM (M : Nat) (ps : List PgS) : Prop where
  its : ∀ p ∈ ps, p.2.2.length ≤ 101
  sz : ∀ p ∈ ps, ∀ s ∈ p.2.2, s.size ≤ M
theorem BdM.mono {M M' : Nat} {ps : List PgS} (h : BdM M ps) (hm : M ≤ M') : BdM M' ps := ⟨h.its, fun p hp s hs => Nat.le_trans (h.sz p hp s hs) hm⟩
theorem BdM.do1 {M : Nat} {ps : List PgS} {e : EdT} (h : BdM M ps) (he : e.2.2.size ≤ M) : BdM M (do1B ps e) := by
  unfold do1B
  split
  · rename_i hok
    have hok := of_decide_eq_true hok
    have hg := (getD_mem' (l := ps) (n := e.1.toNat) (d := pgs0) (by omega)).2
    have key : (edP (ps.getD e.1.toNat pgs0) e).2.2.length ≤ 101 ∧ ∀ s ∈ (edP (ps.getD e.1.toNat pgs0) e).2.2, s.size ≤ M := by
      unfold edP
      split
      · exact ⟨Nat.zero_le _, fun s hs => nomatch hs⟩
      · refine ⟨by rw [setI_len]; have := h.its _ hg; omega, fun s hs => ?_⟩
        rcases List.mem_or_eq_of_mem_set hs with h1 | rfl
        · rcases List.mem_append.1 h1 with h1 | h1
          · exact h.sz _ hg s h1
          · rw [(List.mem_replicate.1 h1).2]; exact Nat.zero_le _
        · exact he
    refine ⟨fun p hp => ?_, fun p hp s hs => ?_⟩
    · rcases List.mem_or_eq_of_mem_set hp with h1 | rfl
      · exact h.its p h1
      · exact key.1
    · rcases List.mem_or_eq_of_mem_set hp with h1 | rfl
      · exact h.sz p h1 s hs
      · exact key.2 s hs
  · exact h
theorem BdM.do {M : Nat} : ∀ {l : List EdT} {ps : List PgS}, BdM M ps → EdM M l → BdM M (doB ps l)
  | [], ps, h, _ => h
  | e :: l, ps, h, he => BdM.do (l := l) (h.do1 (he e (by simp))) (fun x hx => he x (by simp [hx]))
theorem BdM.ok {M : Nat} {ps : List PgS} (h : BdM M ps) (hM : M ≤ 900000) (hl : ps.length ≤ 1000) : OkS ps := ⟨hl, h.its, fun p hp s hs => Nat.le_trans (h.sz p hp s hs) hM⟩
theorem nd_sz {M : Nat} {ps : List PgS} {x : Int} {n : NoD} (hok : BdM M ps) (h : ndAt ps x = some n) : n.high.size ≤ M ∧ ∀ e ∈ n.es, e.1.size ≤ M := by
  rw [ndAt_pg] at h
  split at h
  · rename_i hb
    have hb := of_decide_eq_true hb
    have hv : ∀ s ∈ (pgV ps x).2.2, s.size ≤ M := by
      rw [pgV, if_pos hb]
      exact hok.sz _ (getD_mem' (l := ps) (n := x.toNat) (d := pgs0) (by omega)).2
    obtain ⟨y, l, h1, h2, h3, rfl⟩ := nodF_inv h
    rw [h1] at hv
    refine ⟨?_, fun e he => ?_⟩
    · have := hv y (by simp)
      show (y.extract 4 y.size).size ≤ M
      rw [ByteArray.size_extract]; omega
    · obtain ⟨k, hk, rfl⟩ := List.getElem_of_mem he
      have h5 := srt_size (lv := (numS y 0 1 : Int)) (l := rawE 1 l) (M := M) (fun p hp => hv _ (List.mem_cons_of_mem _ (rawE_mem hp).1)) k
      rwa [List.getD_eq_getElem?_getD, List.getElem?_eq_getElem hk] at h5
  · cases h
theorem hdB_size (lv rt : Int) (d : Bool) (hi : ByteArray) : (hdB lv rt d hi).size = hi.size + 4 := by
  rw [hdB, ByteArray.size_append, ByteArray.size_append, two_sz, twoB_size]; omega
theorem itB_size (lv k : Int) (e : ByteArray) : (itB lv k e).size ≤ e.size + 2 := by
  unfold itB; split
  · rw [ByteArray.size_append, twoB_size]; exact Nat.le_refl _
  · omega
theorem itsE_sz {pg lv : Int} {M : Nat} : ∀ {l : List EnD} {i : Nat}, (∀ e ∈ l, e.1.size ≤ M) → EdM (M + 10) (itsE pg lv i l)
  | [], _, _ => fun e he => nomatch he
  | x :: l, i, h => fun e he => by
    rw [itsE] at he
    rcases List.mem_cons.1 he with rfl | he
    · have := itB_size lv x.2.2 x.1
      have := h x (by simp)
      show (itB lv x.2.2 x.1).size ≤ M + 10
      omega
    · exact itsE_sz (fun y hy => h y (by simp [hy])) e he
theorem EdM.app {M : Nat} {a b : List EdT} (ha : EdM M a) (hb : EdM M b) : EdM M (a ++ b) := fun e he => by
  rcases List.mem_append.1 he with h | h
  · exact ha e h
  · exact hb e h
theorem freshE_sz {pg lv rt : Int} {hi : ByteArray} {M : Nat} {l : List EnD} (hh : hi.size ≤ M) (h : ∀ e ∈ l, e.1.size ≤ M) : EdM (M + 10) (freshE pg lv rt hi l) := by
  refine EdM.app (fun e he => ?_) (itsE_sz h)
  simp only [List.mem_cons, List.not_mem_nil, or_false] at he
  rcases he with rfl | rfl
  · show (strOfNums [2]).size ≤ M + 10
    rw [strOfNums_size]; simp
  · show (hdB lv rt false hi).size ≤ M + 10
    rw [hdB_size]; omega
theorem clearE_sz (pg : Int) (M : Nat) (l : List EnD) : EdM M (clearE pg l) := fun e he => by
  obtain ⟨x, _, rfl⟩ := List.mem_map.1 he
  exact Nat.zero_le _
theorem EdM.one {M : Nat} {p s : Int} {x : ByteArray} (h : x.size ≤ M) : EdM M [(p, s, x)] := fun e he => by rw [List.mem_singleton] at he; subst he; exact h
theorem midE_sz {n : NoD} {M : Nat} (h : ∀ e ∈ n.es, e.1.size ≤ M) : (midE n).size ≤ M := getD_size h _
/-- what holds of an insertion on its way -/
structure PuM (M k : Nat) (p : PuT) : Prop where
  left : ∀ t ∈ p.left, t.1.size ≤ M ∧ 0 ≤ t.2.1 ∧ t.2.1 ≤ M
  len : p.left.length ≤ k
theorem step_sz {M k : Nat} {ps : List PgS} {p : PuT} {fresh : Int} (hb : BdM M ps) (hp : PuM M k p) : EdM (M + 10) (stepF ps p fresh).2.eds ∧ PuM (M + 10) (k + 1) (stepF ps p fresh).1 := by
  have hnil : EdM (M + 10) [] := fun e he => nomatch he
  have hp1 : PuM (M + 10) (k + 1) p := ⟨fun t ht => by have := hp.left t ht; exact ⟨by omega, by omega, by omega⟩, by have := hp.len; omega⟩
  unfold stepF
  cases hl : p.left with
  | nil => exact ⟨hnil, fun t ht => (nomatch ht), Nat.zero_le _⟩
  | cons t l =>
    have hL : ∀ x ∈ t :: l, x.1.size ≤ M + 10 ∧ 0 ≤ x.2.1 ∧ x.2.1 ≤ (M + 10 : Nat) := fun x hx => hp1.left x (by rw [hl]; exact hx)
    have hK : (t :: l).length ≤ k + 1 := by rw [← hl]; exact hp1.len
    have ht := hp.left t (by rw [hl]; simp)
    cases hn : ndAt ps p.pos with
    | none => exact ⟨hnil, hL, hK⟩
    | some n =>
      have hz := nd_sz hb hn
      dsimp only
      split
      · split
        · exact ⟨hnil, hL, hK⟩
        · exact ⟨hnil, hL, hK⟩
      · split
        · exact ⟨hnil, hL, hK⟩
        · split
          · exact ⟨hnil, hL, hK⟩
          · split
            · refine ⟨?_, fun x hx => hL x (by simp [hx]), by rw [List.length_cons] at hK; show l.length ≤ k + 1; omega⟩
              dsimp only
              split
              · exact hnil
              · have := itB_size t.2.1 t.2.2 t.1
                exact EdM.one (by omega)
            · split
              · exact ⟨hnil, hL, hK⟩
              · split
                · refine ⟨?_, hL, hK⟩
                  refine EdM.app (EdM.app (EdM.app (freshE_sz (Nat.zero_le _) hz.2) (EdM.one ?_)) (clearE_sz _ _ _)) (EdM.one ?_)
                  · rw [hdB_size]; show 0 + 4 ≤ M + 10; omega
                  · have := itB_size 1 fresh leastB
                    have h4 : leastB.size = 4 := by decide
                    omega
                · refine ⟨?_, fun x hx => ?_, ?_⟩
                  · refine EdM.app (EdM.app (freshE_sz hz.1 fun e he => hz.2 e (List.mem_of_mem_drop he)) (EdM.one ?_)) (clearE_sz _ _ _)
                    rw [hdB_size]; have := midE_sz hz.2; omega
                  · dsimp only at hx
                    rcases List.mem_append.1 hx with h1 | h1
                    · exact hL x h1
                    · rw [List.mem_singleton] at h1
                      subst h1
                      have := midE_sz hz.2
                      exact ⟨by dsimp only; omega, by dsimp only; omega, by dsimp only; omega⟩
                  · show (t :: l ++ [_]).length ≤ k + 1
                    rw [List.length_append]
                    have := hp.len
                    rw [hl] at this
                    exact Nat.succ_le_succ this
theorem itsE_len (pg lv : Int) : ∀ (l : List EnD) (i : Nat), (itsE pg lv i l).length = l.length
  | [], _ => rfl
  | x :: l, i => by rw [itsE, List.length_cons, itsE_len pg lv l, List.length_cons]
theorem stepF_len {ps : List PgS} {p : PuT} {fresh : Int} (hok : OkS ps) : (stepF ps p fresh).2.eds.length ≤ 1000 := by
  unfold stepF
  cases hl : p.left with
  | nil => exact Nat.zero_le _
  | cons t l =>
    cases hn : ndAt ps p.pos with
    | none => exact Nat.zero_le _
    | some n =>
      have hz := (nd_ok hok hn).len
      dsimp only
      split
      · split <;> exact Nat.zero_le _
      · split
        · exact Nat.zero_le _
        · split
          · exact Nat.zero_le _
          · split
            · dsimp only; split
              · exact Nat.zero_le _
              · exact Nat.le_of_ble_eq_true rfl
            · split
              · exact Nat.zero_le _
              · split
                · simp only [growE, freshE, clearE, List.length_append, itsE_len, List.length_map, List.length_cons, List.length_nil]; omega
                · simp only [cutE, freshE, clearE, halfE, List.length_append, itsE_len, List.length_map, List.length_cons, List.length_nil, List.length_drop]; omega
theorem blank_sz (n : Nat) : BdM 16 (blankF n) ∧ (blankF n).length = n := by
  refine ⟨BdM.do ⟨fun p hp => ?_, fun p hp s hs => ?_⟩ fun e he => ?_, ?_⟩
  · rw [(List.mem_replicate.1 hp).2]; decide
  · rw [(List.mem_replicate.1 hp).2] at hs; exact nomatch hs
  · simp only [begF, List.mem_cons, List.not_mem_nil, or_false] at he
    rcases he with rfl | rfl
    · show (strOfNums [2]).size ≤ 16; rw [strOfNums_size]; decide
    · show (hdB 0 (-1) false ⟨#[]⟩).size ≤ 16; rw [hdB_size]; decide
  · rw [blankF, doB_len, List.length_replicate]
end
end Go.Proofs.Ytjlcoglmjldjbaa
namespace Go.Proofs.Ytjlcoglmjldjbaa
section
open Go.RowKit
set_option linter.unusedVariables false
set_option linter.unusedSimpArgs false
theorem BkU.mono {S T : List Nat} {w : World} {bk : Nat} {ps : List PgS} (h : BkU T w bk ps) (hs : ∀ k ∈ S, k ∈ T) : BkU S w bk ps := by
  obtain ⟨LA, lc, Ps, h1, h2⟩ := h
  exact ⟨LA, lc, Ps, h1, fun W hW => h2 W (hW.mono fun k _ hk => hs k hk)⟩
theorem rstep_pu {b bk : Nat} {ps : List PgS} {p : PuT} {fresh : Int} {fp : List Nat} {w : World} (h : (ePu b p fp).holds w) (hB : BkU fp w bk ps) (hne : p.left ≠ []) (hok : OkS ps) (h10 : p.left.length ≤ 10000) (hte : ∀ t ∈ p.left, t.1.size ≤ 900000 ∧ 0 ≤ t.2.1 ∧ t.2.1 ≤ 90000) (hfr : -1 ≤ fresh ∧ fresh ≤ 1000000) :
    Calls Try.prog 17 #[.pointer (some ⟨b, 0, none⟩), .pointer (some ⟨bk, 0, none⟩), .int .i64 fresh] w (StPost b (stepF ps p fresh) fp w) := by
  obtain ⟨A, c, g, hfp, hbg, hc, hAg, hlt, hb, hA⟩ := h
  obtain ⟨root, pos, leaf, left, fro, to, spl⟩ := p
  cases left with
  | nil => exact absurd rfl hne
  | cons t lf =>
    obtain ⟨te, tl, tk⟩ := t
    obtain ⟨la, rfl, _, _⟩ := hA 0 (.string te) rfl
    have hg := hAg la rfl (by simp)
    have ht := hte (te, tl, tk) (by simp)
    refine rstep_c b bk root pos leaf fro to spl la _ c te tl tk lf ps fresh fp g w hb (fun W hW => ?_) rfl hc h10 (hB.mono (by rw [hfp]; simp)) hok hfp hbg hlt hg ht.1 ht.2 hfr
    refine at_blocks hA fun ad e _ => ?_
    rw [← Option.some.inj e]
    exact hW.block _ (hlt _ hg) (fun hm => hbg (by rw [List.mem_singleton] at hm; exact hm ▸ hg))
theorem rstep_to {b bk : Nat} {ps : List PgS} {p : PuT} {fresh : Int} {fp : List Nat} {w : World} {R : PuT × GoT} (hR : stepF ps p fresh = R) (hc : Calls Try.prog 17 #[.pointer (some ⟨b, 0, none⟩), .pointer (some ⟨bk, 0, none⟩), .int .i64 fresh] w (StPost b (stepF ps p fresh) fp w)) : Calls Try.prog 17 #[.pointer (some ⟨b, 0, none⟩), .pointer (some ⟨bk, 0, none⟩), .int .i64 fresh] w (StPost b R fp w) := hR ▸ hc
section
variable {P : Program} {ops : Array Oper} {L : List Nat} {a0 : Act} {w0 : World} {bor : List Nat} {X0 : List Ent} {us cr kl : List (List Nat)}
  {D : Nat → (Tmp → Value) → (Tmp → Value) → (Nat → Ent) → Prop} {i : Nat} {o : Oper} {ρ : Operand → Value} {β : Tmp → Value} {W : World} {X : Nat → Ent}
theorem CtxV.bkU {q q' : Nat} {bk : Nat} {ps : List PgS} {fb : List Nat} {F : Ent} (cx : CtxV ops L a0 w0 bor X0 us D i ρ β W X) (hX : X q = eBk bk ps fb) (hX' : X q' = F) (hu : (atV us i).contains q = true) (hu' : (atV us i).contains q' = true) (hne : q ≠ q') : BkU F.fp W bk ps := by
  subst hX'
  refine BkU.of (CtxV.holdF cx hX hu) fun k hk => ⟨CtxV.ltF cx hX hu k hk, fun hm => ?_⟩
  exact cx.ap q q' hu hu' hne k (by rw [hX]; exact hk) hm
/-- the pending entries of an insertion are loaded -/
theorem dv_loadLeft {t : TypeId} {x : Operand} {b : Nat} {p : PuT} {fp : List Nat} {q : Nat} {d : Tmp} (h : o.op = .load t x) (hx : ρ x = .pointer (some ⟨b, 3, none⟩)) (ha : aggP P t = some false) (cx : CtxV ops L a0 w0 bor X0 us D i ρ β W X) (hX : X q = ePu b p fp) (hu : (atV us i).contains q = true) (hd : o.dst = some d) (hc : atV cr i = []) (hk : atV kl i = [])
    (hD : ∀ (σ β' : Tmp → Value) (X' : Nat → Ent), (∀ t, t ≠ d → σ t = ρ (.tmp t)) → (∀ t, t ≠ d → β' t = β t) → σ d = .slice (sA (β' d)) p.left.length (sC (β' d)) → D i σ β' X') : DoesU P o ρ W (PostV cr kl D i o.dst ρ β W X) := by
  obtain ⟨A, c, g, _, _, _, _, _, hB, _⟩ := CtxV.holdF cx hX hu
  have hr : (execOp ρ o).run P W = .ok (.value (.slice A p.left.length c)) W := run_load1 h ha hx (hB.cell 3)
  refine DoesU.value hr ⟨[], by rw [hc]; rfl, ⟨Upd.refl _ _, (fun e he => nomatch he), List.Pairwise.nil⟩, fun σ β' X' hs hv hb hbv hx' hN => hD σ β' X' (fun t ht => hs t (by rw [hd]; simpa using ht.symm)) (fun t ht => hb t (by rw [hd]; simpa using ht.symm)) ?_⟩
  rw [hv d hd, hbv d hd]; rfl
end
def GwPost (p : PuT) (w : World) (e : Ending) (w' : World) : Prop := ∃ b fp, e = .returned (.pointer (some ⟨b, 0, none⟩)) ∧ St w [] [ePu b p fp] w'
theorem gw_new {w W : World} {b : Nat} {p : PuT} {A : Option Addr} {c : Nat} (h : St w [] [eB b 102 (puC p A c), eO 111 3 (.slice A p.left.length c) p.left.length (p.left.flatMap tkC)] W) : ∃ fp, St w [] [ePu b p fp] W := by
  have h1 := h.ok (eB b 102 (puC p A c)) (by simp)
  have h3 := h.ok (eO 111 3 (.slice A p.left.length c) p.left.length (p.left.flatMap tkC)) (by simp)
  have hp := List.pairwise_pair.1 h.apart
  have hB : Blk W b 102 (puC p A c) := h1.holds
  have hO : W.ownsRow 0 111 3 (.slice A p.left.length c) p.left.length (p.left.flatMap tkC) := h3.holds
  refine ⟨b :: (Value.slice A p.left.length c).ownBlock.toList, h.upd, fun x hx => ?_, List.pairwise_singleton _ _⟩
  rw [List.mem_singleton] at hx
  subst hx
  refine ⟨⟨A, c, _, rfl, fun hm => hp b (by simp [eB]) hm, eown_capN hO, fun ad e hl => ?_, fun k hk => (h3.own k hk).2, hB, At.of_ownN hO⟩, ePu_loc _ _ _, fun k hk => ?_⟩
  · subst e
    rcases hO.2 with ⟨hv, hm⟩ | ⟨g', cap, cur, hv, _⟩
    · injection hv with h5; cases h5
    · injection hv with h5; injection h5 with h5; subst h5; simp [Value.ownBlock]
  · rcases List.mem_cons.1 hk with e | hk
    · rw [e]; exact h1.own b (by simp [eB])
    · exact h3.own k hk
theorem keyM_bd (n : Int) : 0 ≤ keyM n ∧ keyM n < 200 := ⟨Int.emod_nonneg _ (by decide), Int.emod_lt_of_pos _ (by decide)⟩
set_option maxRecDepth 100000 in
set_option maxHeartbeats 2000000 in
theorem rkey_any (n : Int) (w : World) :
    Calls Try.prog 13 #[.int .i64 n] w (Ret (.string (keyF n)) w) := by
  have h1_ := Int.lt_tmod_of_pos n (b := 200) (by decide)
  have h2_ := Int.tmod_lt_of_pos n (b := 200) (by decide)
  go_enter Try.func13, Try.ntmps13
  have hst0 := St.start w
  refine wp_seq (sqr (sqp [.k 2 (.string ⟨#[]⟩)] ?_))
  refine then_normal (wp_seq (sqr (sqp [.m 4 0, sRe 5 .i64 n 200 (n.tmod 200) (rfl), sI 6 ((n.tmod 200) + 200) (by omega), sRe 7 .i64 ((n.tmod 200) + 200) 200 (((n.tmod 200) + 200) % 200) (Int.tmod_eq_emod_of_nonneg (by omega)), .m 0 7] ?_)))
  refine then_normal (wp_seq ?_)
  obtain ⟨m, hN_m⟩ : ∃ z, ((n.tmod 200) + 200) % 200 = z := ⟨_, rfl⟩
  rw [hN_m]
  have hm_ : keyM n = m := hN_m
  have hmb := keyM_bd n
  rw [hm_] at hmb
  refine sqr (sqp [.m 8 0, sRe 9 .i64 m 26 (m % 26) (Int.tmod_eq_emod_of_nonneg (by omega)), sI 10 (97 + (m % 26)) (by omega), sW 11 .u8 (97 + (m % 26)) (97 + (m % 26)) (IntWalk.u8_in _ (by omega))] ?_)
  refine sqn1 (fun x_ => sA x_) (fun A12_11 => .slice A12_11 1 1) (fun A12_11 => eO 5 1 (.slice A12_11 1 1) 1 ([.int .u8 (97 + (m % 26))])) hst0 (by
      refine svA fun ρ β W X cx => ?_
      have fF11 : ρ (.tmp 11) = .int .u8 (97 + (m % 26)) := (cx.ou 11)
      exact dv_lit (e := 5) (xs := [.int .u8 (97 + (m % 26))]) rfl (by simp [go_sem, fF11]) rfl (by decide) rfl rfl (fun σ β' X' hs hb hv hx => ⟨hv, hx⟩)) fun A12_11 W11 hst11 => ?_
  refine sql (.string (strOfNums ([(97 + (m % 26))]))) hst11 (fun cx => run_convB (e := 5) rfl (by kernel_rfl) (by kernel_rfl) (by kernel_rfl) (cx.ou 12) (cx.ri 0 rfl)) ?_
  refine sqp [.m 3 13] ?_
  refine then_normal (wp_seq (wp_seq (sqr (sqp [.m 14 0, sRe 15 .i64 m 3 (m % 3) (Int.tmod_eq_emod_of_nonneg (by omega)), .k 16 (.bool (decide (0 < m % 3)))] ?_))))
  refine then_normal (wds (fun hs17 hs17p => ?_) fun hs17 hs17p => ?_)
  · refine sqr (sqp [.m 17 3, .m 18 0, sQu 19 .i64 m 26 (m / 26) (by rw [Int.tdiv_eq_ediv_of_nonneg (by omega)]; exact IntWalk.i64_in _ (by omega)), sI 20 (97 + (m / 26)) (by omega), sW 21 .u8 (97 + (m / 26)) (97 + (m / 26)) (IntWalk.u8_in _ (by omega))] ?_)
    refine sqn1 (fun x_ => sA x_) (fun A22_23 => .slice A22_23 1 1) (fun A22_23 => eO 5 1 (.slice A22_23 1 1) 1 ([.int .u8 (97 + (m / 26))])) hst11 (by
        refine svA fun ρ β W X cx => ?_
        have fF21 : ρ (.tmp 21) = .int .u8 (97 + (m / 26)) := (cx.ou 21)
        exact dv_lit (e := 5) (xs := [.int .u8 (97 + (m / 26))]) rfl (by simp [go_sem, fF21]) rfl (by decide) rfl rfl (fun σ β' X' hs hb hv hx => ⟨hv, hx⟩)) fun A22_23 W23 hst23 => ?_
    refine sql (.string (strOfNums ([(97 + (m / 26))]))) hst23 (fun cx => run_convB (e := 5) rfl (by kernel_rfl) (by kernel_rfl) (by kernel_rfl) (cx.ou 22) (cx.ri 1 rfl)) ?_
    refine sqp [sS 24 (strOfNums ([(97 + (m % 26))])) (strOfNums ([(97 + (m / 26))])) (by rw [strOfNums_size, strOfNums_size]; exact Nat.le_of_ble_eq_true rfl), .m 3 24] ?_
    refine then_normal (wp_seq (sqr (sqp [.m 25 3, .m 2 25] ?_)))
    refine then_normal (wp_ret ?_)
    refine bpr (.string ((strOfNums ([(97 + (m % 26))])) ++ (strOfNums ([(97 + (m / 26))])))) (results_1 Try.results13 rpt) ?_
    exact Ret.of (by rw [keyF, hm_, if_pos (by omega)]) hst23.ext
  refine wp_skip (then_normal (wp_seq (sqr (sqp [.m 25 3, .m 2 25] ?_))))
  refine then_normal (wp_ret ?_)
  refine bpr (.string (strOfNums ([(97 + (m % 26))]))) (results_1 Try.results13 rpt) ?_
  exact Ret.of (by rw [keyF, hm_, if_neg (by omega)]) hst11.ext
set_option maxRecDepth 100000 in
set_option maxHeartbeats 2000000 in
theorem rgrowN_any (root : Int) (key : ByteArray) (pg sl : Int) (w : World) (hk : key.size ≤ 1000000) :
    Calls Try.prog 15 #[.int .i64 root, .string key, .agg #[.int .i64 pg, .int .i64 sl]] w (GwPost (putT root key pg sl) w) := by
  go_enter Try.func15, Try.ntmps15
  have hst0 := St.start w
  refine wp_seq (sqr ?_)
  refine sqbx #[vi pg, vi sl] hst0 fun B5_1 W1 hst1 => ?_
  refine sqp [.k 6 (.pointer none)] ?_
  refine then_normal (wp_seq (sqr (sqp [.m 7 0, .m 8 0, .m 9 1] ?_)))
  refine sqlb 0 2 hst1 ?_
  refine sqk (.string (entF key pg sl)) hst1 (fun cx => ⟨_, rentry_any key pg sl _ (by omega), (map2 (cx.ou 9) (cx.ou 10))⟩) fun W7 hst7 => ?_
  refine sqp [.k 12 (.agg #[.string (entF key pg sl), vi 0, vi 0])] ?_
  refine sqli 111 3 1 [.string (entF key pg sl), vi 0, vi 0] hst7 (@fun ρ β W X cx => by have fF12 : ρ (.tmp 12) = .agg #[.string (entF key pg sl), vi 0, vi 0] := (cx.ou 12); simp [go_sem, fF12]) fun B13_9 W9 hst9 => ?_
  refine sqp [.k 14 (.agg #[vi root, vi root, vi (-1), .slice ((some ⟨B13_9, 0, none⟩)) 1 1, vi 0, vi 0, .bool false])] ?_
  refine sqbx #[vi root, vi root, vi (-1), .slice ((some ⟨B13_9, 0, none⟩)) 1 1, vi 0, vi 0, .bool false] hst9 fun B15_11 W11 hst11 => ?_
  refine sqp [.m 6 15] ?_
  refine then_normal (wp_ret ?_)
  refine bpr (vp B15_11) (results_1 Try.results15 rpt) ?_
  obtain ⟨fp_, hgw_⟩ := gw_new (p := putT root key pg sl) (hst11.pick [2, 1] (by decide) rfl)
  exact ⟨_, _, rfl, hgw_⟩
theorem rblank_c : ∀ w, Calls Try.prog 45 #[.int .i64 60] w (BkPost (blankF 60) w) := fun w => rblank_any 60 w (by decide)
set_option maxRecDepth 100000 in
set_option maxHeartbeats 4000000 in
theorem rgrown_any (A : Option Addr) (n c : Nat) (l : List Int) (w : World) (hA : At w A (l.map (Value.int .i64))) (hn : l.length = n) :
    Calls Try.prog 11 #[.slice A n c] w (BkPost (grownF l) w) := by
  go_enter Try.func11, Try.ntmps11
  have hst0 := St.start w
  refine wp_seq (sqr (sqp [.k 2 (.pointer none)] ?_))
  refine then_normal (wp_seq (sqr ?_))
  refine sqk1s (fun B9_2 => vp B9_2) (fun B9_2 r0_2 => eBk B9_2 (blankF 60) r0_2) hst0 (fun cx => ⟨_, (rblank_c _).mono (by rintro e W1 ⟨B4, fp4, rfl, hs4⟩; exact ⟨_, _, rfl, hs4⟩), (map1 (cx.co _))⟩) fun B9_2 r0_2 W2 hst2 => ?_
  refine sqp [.m 3 9] ?_
  refine then_normal (wp_seq (sqr (sqp [.k 4 (vi 1)] ?_)))
  refine then_normal (wp_seq (wp_seq (sqr (sqp [.k 5 (vi 0)] ?_))))
  refine then_normal (wp_block ?_)
  refine wp_loopT (fun t_ mz az W => ∃ i : Nat, ∃ ps0 : List PgS, ∃ nx0 : Int, ∃ fb0 : List Nat, i ≤ min n 90 ∧ grwF l i = (ps0, nx0) ∧ BdM (16 + 600 * i) ps0 ∧ ps0.length = 60 ∧ (1 ≤ nx0 ∧ nx0 ≤ 1 + 60 * i) ∧ mz = min n 90 - i ∧ az = ⟨(ovr (jv az) [(4, 4, 0, [vi nx0, vi ((i : Int))]), (0, 6, 3, []), (1, 10, 47, [])] t_).toArray, []⟩ ∧ St w [] [eBk B9_2 ps0 fb0] W) (min n 90 - 0) ?_ ?_
  · -- the loop begins
    exact ⟨0, (blankF 60), 1, r0_2, Nat.zero_le _, rfl, (blank_sz 60).1, (blank_sz 60).2, by omega, rfl, (by kernel_rfl), hst2.pk [0]⟩
  rintro n6 a6 W6 ⟨i, ps0, nx0, fb0, hi, hg, hb0, hl0, hn0, rfl, hj_, hst6⟩
  refine ovz hj_ fun u6_ => ?_
  refine wp_seq (wp_seq (sqr (sqp [.m 10 5, .m 11 0, .k 12 (vi ((n : Int))), .k 13 (.bool (decide ((i : Int) < (n : Int)))), .m 14 13] ?_)))
  refine sqw 14 [15, 16] rfl (fun _ => sqp [.m 15 5, .k 16 (.bool (decide ((i : Int) < 90)))] sqe) ?_
  refine sqp [sPa 17 (decide ((i : Int) < (n : Int))) (decide ((i : Int) < 90))] ?_
  refine then_normal (wbs (fun hs15 => ?_) fun hs15 => ?_)
  · have hs15p := hs15
    simp only [zB] at hs15p
    obtain ⟨hs15p1, hs15p2⟩ := hs15p
    refine wp_skip (then_normal (wp_seq (wp_block (wp_seq (sqr (sqp [.m 20 0, .m 21 5] ?_))))))
    refine sql (.pointer (some ((ad A).add i))) hst6 (fun cx => run_indexSl (e := 3) (m := i) rfl (by kernel_rfl) (by kernel_rfl) (cx.ou 20) (cx.ou 21) (by omega) (by omega) (hA.ext cx.upd.to_ext) (by rw [List.length_map]; omega)) ?_
    refine sql (vi (l.getD i 0)) hst6 (fun cx => run_load1 rfl (by kernel_rfl) (cx.ou 22) (At.cellAd (hA.ext cx.upd.to_ext) (getD_int (by omega)))) ?_
    refine sqk (.string (keyF (l.getD i 0))) hst6 (fun cx => ⟨_, rkey_any (l.getD i 0) _, (map1 (cx.ou 23))⟩) fun W20 hst20 => ?_
    refine sqp [.m 25 5, sQu 26 .i64 (i : Int) 8 ((i : Int) / 8) (by rw [Int.tdiv_eq_ediv_of_nonneg (by omega)]; exact IntWalk.i64_in _ (by omega)), sI 27 (1 + ((i : Int) / 8)) (by omega), .m 28 5, sRe 29 .i64 (i : Int) 8 ((i : Int) % 8) (Int.tmod_eq_emod_of_nonneg (by omega)), sI 30 (1 + ((i : Int) % 8)) (by omega), .k 31 (.agg #[vi (1 + ((i : Int) / 8)), vi (1 + ((i : Int) % 8))])] ?_
    refine sqk1s (fun B32_28 => vp B32_28) (fun B32_28 r1_28 => ePu B32_28 (putT 0 (keyF (l.getD i 0)) (1 + ((i : Int) / 8)) (1 + ((i : Int) % 8))) r1_28) hst20 (fun cx => ⟨_, (rgrowN_any 0 (keyF (l.getD i 0)) (1 + ((i : Int) / 8)) (1 + ((i : Int) % 8)) _ (Nat.le_trans (keyF_size _) (by decide))).mono (by rintro e W1 ⟨B4, fp4, rfl, hs4⟩; exact ⟨_, _, rfl, hs4⟩), (map3 (cx.co _) (cx.ou 24) (cx.ou 31))⟩) fun B32_28 r1_28 W28 hst28 => ?_
    refine sqp [.m 6 32] ?_
    refine then_normal (wp_seq (sqr (sqp [.k 7 (vi 0)] ?_)))
    refine then_normal (wp_block ?_)
    obtain ⟨p0, hp0⟩ : ∃ z, (putT 0 (keyF (l.getD i 0)) (1 + ((i : Int) / 8)) (1 + ((i : Int) % 8))) = z := ⟨_, rfl⟩
    rw [hp0] at hst28
    have hpu0 : PuM (16 + 600 * i) 1 p0 := by rw [← hp0]; exact ⟨fun t ht => by rw [putT, List.mem_singleton] at ht; subst ht; have := keyF_size (l.getD i 0); exact ⟨by rw [entF_size]; omega, Int.le_refl 0, by show (0 : Int) ≤ _; omega⟩, Nat.le_refl _⟩
    have hrun0 : grwF l (i + 1) = runF 60 ps0 nx0 p0 := by rw [grwF, hg, ← hp0]
    refine wp_loopT (fun t_ mz az W => ∃ k : Nat, ∃ ps : List PgS, ∃ nx : Int, ∃ p : PuT, ∃ fb : List Nat, ∃ fpu : List Nat, k ≤ 60 ∧ grwF l (i + 1) = runF (60 - k) ps nx p ∧ BdM (16 + 600 * i + 10 * k) ps ∧ ps.length = 60 ∧ (1 ≤ nx ∧ nx ≤ 1 + 60 * i + k) ∧ PuM (16 + 600 * i + 10 * k) (k + 1) p ∧ mz = 60 - k ∧ az = ⟨(ovr (jv az) [(4, 4, 0, [vi nx]), (2, 7, 0, [vi ((k : Int))]), (0, 8, 1, []), (24, 33, 24, [])] t_).toArray, []⟩ ∧ St w [] [eBk B9_2 ps fb, ePu B32_28 p fpu] W) (60 - 0) ?_ ?_
    · -- the loop begins
      exact ⟨0, ps0, nx0, p0, fb0, r1_28, Nat.zero_le _, hrun0, hb0, hl0, by omega, hpu0, rfl, (by kernel_rfl), hst28.pk [0, 1]⟩
    rintro n31 a31 W31 ⟨k, ps, nx, p, fb, fpu, hk, hrun, hpb, hp60, hnx, hpu, rfl, hj_, hst31⟩
    refine ovz hj_ fun u31_ => ?_
    refine wp_seq (wp_seq ?_)
    rcases Bool.eq_false_or_eq_true (decide ((k : Int) < 60)) with hs33 | hs33
    · have hs33p := of_decide_eq_true hs33
      refine wp_region_Y [0, 1, 3, 7, 15, 31, 63, 127, 255, 511] [[], [], [], [], [], [], [1]] [] [] [.k 33 (vi ((k : Int))), .e 34 (.bool (decide ((k : Int) < 60))) (.bool true) (congrArg Value.bool hs33), .k 35 (.bool true), .k 36 (vp B32_28), .k 37 (vp B32_28), .k 38 (.pointer (some ⟨B32_28, 3, none⟩)), .a 39, .c 40 (vi ((p.left.length : Int))), .k 41 (.bool (decide (0 < (p.left.length : Int)))), .k 42 (.bool (decide (0 < (p.left.length : Int))))] (fun ix σ β X => match ix with | 0 => True | 1 => True | 2 => True | 3 => True | 4 => True | 5 => True | 6 => σ 39 = .slice (sA (β 39)) p.left.length (sC (β 39)) | _ => True) [0, 1] [6, 7] [(33, 0, 10, 43)] hst31 ?_ ?_ ?_
      · exact fun ix _ _ _ _ _ _ hs hb hx h => match ix, h with
        | 6, h => by dsimp only; rw [← hs 39 rfl, ← hb 39 rfl]; exact h
        | 0, _ | 1, _ | 2, _ | 3, _ | 4, _ | 5, _ | _ + 7, _ => trivial
      · refine ⟨?_, ?_, trivial⟩
        · refine sv_any_on rfl rfl rfl (fun _ _ _ _ cx => (cx.an 2)) fun ρ β W X cx => ?_
          exact dv_loadLeft rfl (cx.an 5) (by kernel_rfl) cx (cx.init 1 _ rfl) rfl rfl rfl rfl (fun σ β' X' hs hb hv => hv)
        · exact xs5 rfl id (fun cx => (cx.an 2)) fun cx => run_len_l (e := 111) rfl (by kernel_rfl) (dTn (cx.an 6))
      intro σ β X W34 hD hst34 fr hfr
      obtain ⟨A39_34, hu_A39_34⟩ : ∃ z, sA (β 39) = z := ⟨_, rfl⟩
      obtain ⟨c39_34, hu_c39_34⟩ : ∃ z, sC (β 39) = z := ⟨_, rfl⟩
      simp only [ed 39 ((dTn (hD 6 lq))), hu_A39_34, hu_c39_34] at hfr
      clear hD hu_A39_34 hu_c39_34; subst hfr; clear σ β X
      refine then_normal (wds (fun hs35 hs35p => ?_) fun hs35 hs35p => ?_)
      · refine wp_skip (then_normal (wp_seq (wp_block (wp_seq ?_))))
        have hpn : p.left ≠ [] := List.ne_nil_of_length_pos (by omega)
        have hok := hpb.ok (by omega) (by omega)
        have hpl := hpu.len
        have hte : ∀ t ∈ p.left, t.1.size ≤ 900000 ∧ 0 ≤ t.2.1 ∧ t.2.1 ≤ 90000 := fun t ht => by have h_ := hpu.left t ht; omega
        have hss := step_sz (fresh := nx) hpb hpu
        have hed9 := stepF_len (fresh := nx) (p := p) hok
        obtain ⟨R, hR⟩ : ∃ z, stepF ps p nx = z := ⟨_, rfl⟩
        rw [hR] at hss hed9
        have hedm := hss.1
        have hpu2 := hss.2
        have hedl : R.2.eds.length ≤ 100000 := by omega
        refine wp_region_Y [0, 0, 0, 7, 0, 31] [[], [], [], [1, 0], [], [4]] [[], [], [], [2, 3], [4], [5]] [[], [], [], [1], [], [4]] [.k 45 (vp B32_28), .k 46 (vp B9_2), .k 47 (vi nx), .a 48, .a 8, .n] (fun ix σ β X => match ix with | 0 => True | 1 => True | 2 => True | 3 => σ 48 = .agg #[.slice (sA (tg (β 48) 0)) R.2.eds.length (sC (tg (β 48) 0)), .bool R.2.used, vi R.2.err] ∧ X 2 = ePu B32_28 R.1 ((X 2).fp) ∧ X 3 = eO 99 3 (.slice (sA (tg (β 48) 0)) R.2.eds.length (sC (tg (β 48) 0))) R.2.eds.length (R.2.eds.flatMap edC) | 4 => σ 8 = vp (pb (β 8)) ∧ X 4 = eB (pb (β 8)) 39 #[.slice none 0 0, .bool false, vi 0] | 5 => X 5 = eB (pb (β 8)) 39 #[.slice (sA (tg (β 48) 0)) R.2.eds.length (sC (tg (β 48) 0)), .bool R.2.used, vi R.2.err] | _ => True) [0, 2, 3, 5] [3, 4, 5] [(8, 4, 1, 9), (36, 0, 4, 40)] hst34 ?_ ?_ ?_
        · exact fun ix _ _ _ _ _ _ hs hb hx h => match ix, h with
          | 3, h => by dsimp only; rw [← hs 48 rfl, ← hb 48 rfl, ← hx 2 rfl, ← hx 3 rfl]; exact h
          | 4, h => by dsimp only; rw [← hs 8 rfl, ← hb 8 rfl, ← hx 4 rfl]; exact h
          | 5, h => by dsimp only; rw [← hb 8 rfl, ← hb 48 rfl, ← hx 5 rfl]; exact h
          | 0, _ | 1, _ | 2, _ | _ + 6, _ => trivial
        · refine ⟨?_, ?_, ?_, trivial⟩
          · refine svA fun ρ β W X cx => ?_
            refine DoesU.call (run_callF (args := #[vp B32_28, vp B9_2, vi nx]) rfl cx.sees rfl (by kernel_rfl) (map3 (cx.an 0) (cx.an 1) (cx.an 2))) ?_
            refine (rstep_to hR (rstep_pu (CtxV.holdF cx (cx.init 1 _ rfl) rfl) (CtxV.bkU cx (cx.init 0 _ rfl) (cx.init 1 _ rfl) rfl rfl (by decide)) hpn hok (by omega) hte (by omega))).mono ?_
            rintro e W1 ⟨A4, c4, rfl, fp4, hs4⟩
            refine ⟨_, rfl, post_obj (E := ePu B32_28 p fpu) [ePu B32_28 R.1 fp4, eO 99 3 (.slice A4 R.2.eds.length c4) R.2.eds.length (R.2.eds.flatMap edC)] (cx.init 1 _ rfl) rfl rfl hs4 (fun σ β' X' hs hb hv hN => ?_)⟩
            have hv1 := (hv 48 rfl).1; have hv2 := (hv 48 rfl).2
            exact ⟨hv1.trans (by rw [hv2]; rfl), ePu_self ((List.cons.inj hN).1), (by rw [hv2]; exact (List.cons.inj (List.cons.inj hN).2).1)⟩
          · refine svA fun ρ β W X cx => ?_
            exact dv_alloc (cs := #[.slice none 0 0, .bool false, vi 0]) rfl (by kernel_rfl) rfl rfl (fun σ β' X' hs hb hv hx => ⟨hv, hx⟩)
          · refine svA fun ρ β W X cx => ?_
            exact dv_store (n := 3) rfl (dTn (cx.an 4)).1 (dTn (cx.an 3)).1 (by kernel_rfl) (by kernel_rfl) (by kernel_rfl) cx (dTn (cx.an 4)).2 rfl (nle rfl) (by kernel_rfl) rfl rfl rfl (fun σ β' X' hs hb hx => by rw [hb 8, hb 48]; exact hx)
        intro σ β X W36 hD hst36 fr hfr
        obtain ⟨A48_36, hu_A48_36⟩ : ∃ z, sA (tg (β 48) 0) = z := ⟨_, rfl⟩
        obtain ⟨c48_36, hu_c48_36⟩ : ∃ z, sC (tg (β 48) 0) = z := ⟨_, rfl⟩
        obtain ⟨B8_36, hu_B8_36⟩ : ∃ z, pb (β 8) = z := ⟨_, rfl⟩
        have xX2 : X 2 = _ := (dTn (hD 3 lq)).2.1
        obtain ⟨r2_36, hu_r2_36⟩ : ∃ z, (X 2).fp = z := ⟨_, rfl⟩
        rw [hu_r2_36] at xX2
        clear hu_r2_36
        simp only [xX2, exq 3 ((dTn (hD 3 lq)).2.2), exq 5 ((dTn (hD 5 lq))), hu_A48_36, hu_c48_36, hu_B8_36] at hst36
        simp only [ed 48 ((dTn (hD 3 lq)).1), ed 8 ((dTn (hD 4 lq)).1), hu_A48_36, hu_c48_36, hu_B8_36] at hfr
        clear hD xX2 hu_A48_36 hu_c48_36 hu_B8_36; subst hfr; clear σ β X
        refine then_normal (wp_seq (wp_seq (sqr (sqp [.k 49 (.pointer (some ⟨B8_36, 1, none⟩))] ?_))))
        refine sqld 3 hst36 ?_
        refine then_normal (wbs (fun hs39 => ?_) fun hs39 => ?_)
        · refine sqr (sqp [.m 51 4, sI 52 (nx + 1) (by omega), .m 4 52] ?_)
          refine then_normal (sqr (sqp [.m 53 3, .k 54 (vp B8_36)] ?_))
          refine sqld 3 hst36 ?_
          refine sqc0s (fun X_ => X_.fp) (.tuple #[]) (fun r4_46 => eBk B9_2 (doB ps R.2.eds) r4_46) 0 hst36 (by
              refine svA fun ρ β W X cx => ?_
              refine DoesU.call (run_callF (args := #[vp B9_2, .slice A48_36 R.2.eds.length c48_36]) rfl cx.sees rfl (by kernel_rfl) (map2 (cx.ou 53) (cx.ou 55))) ?_
              refine (rdo_any B9_2 ps _ 60 _ _ R.2.eds _ (CtxV.holdF cx (cx.init 0 _ rfl) rfl) (CtxV.ltF cx (cx.init 0 _ rfl) rfl) (CtxV.keepAt cx (cx.init 2 _ rfl) (cx.init 0 _ rfl) rfl rfl (by decide)) hedl hp60 (by decide) hpb.its).mono ?_
              rintro e W1 ⟨rfl, fp4, hs4⟩
              refine ⟨_, rfl, post_obj (E := eBk B9_2 ps fb) [eBk B9_2 (doB ps R.2.eds) fp4] (cx.init 0 _ rfl) rfl rfl hs4 (fun σ β' X' hs hb hv hN => ?_)⟩
              have hv1 := (hv 56 rfl).1; have hv2 := (hv 56 rfl).2
              exact ⟨hv1.trans rfl, eBk_self ((List.cons.inj hN).1)⟩) fun r4_46 W46 hst46 => ?_
          refine blk_normal (then_normal (sqr (sqp [.m 43 7, sI 44 ((k : Int) + 1) (by omega), .m 7 44] ?_)))
          refine then_normal ?_
          refine ⟨60 - ((k + 1)), by omega, ?_⟩
          exact ⟨(k + 1), (doB ps R.2.eds), (nx + 1), R.1, r4_46, r2_36, by omega, by rw [hrun, show 60 - k = 60 - (k + 1) + 1 by omega, runF_step hpn, hR, hs39]; rfl, (hpb.mono (by omega)).do hedm, by rw [doB_len]; exact hp60, by omega, hpu2, rfl, (by kernel_rfl), hst46.pk [0, 1]⟩
        refine wp_skip (then_normal (sqr (sqp [.m 53 3, .k 54 (vp B8_36)] ?_)))
        refine sqld 3 hst36 ?_
        refine sqc0s (fun X_ => X_.fp) (.tuple #[]) (fun r4_53 => eBk B9_2 (doB ps R.2.eds) r4_53) 0 hst36 (by
            refine svA fun ρ β W X cx => ?_
            refine DoesU.call (run_callF (args := #[vp B9_2, .slice A48_36 R.2.eds.length c48_36]) rfl cx.sees rfl (by kernel_rfl) (map2 (cx.ou 53) (cx.ou 55))) ?_
            refine (rdo_any B9_2 ps _ 60 _ _ R.2.eds _ (CtxV.holdF cx (cx.init 0 _ rfl) rfl) (CtxV.ltF cx (cx.init 0 _ rfl) rfl) (CtxV.keepAt cx (cx.init 2 _ rfl) (cx.init 0 _ rfl) rfl rfl (by decide)) hedl hp60 (by decide) hpb.its).mono ?_
            rintro e W1 ⟨rfl, fp4, hs4⟩
            refine ⟨_, rfl, post_obj (E := eBk B9_2 ps fb) [eBk B9_2 (doB ps R.2.eds) fp4] (cx.init 0 _ rfl) rfl rfl hs4 (fun σ β' X' hs hb hv hN => ?_)⟩
            have hv1 := (hv 56 rfl).1; have hv2 := (hv 56 rfl).2
            exact ⟨hv1.trans rfl, eBk_self ((List.cons.inj hN).1)⟩) fun r4_53 W53 hst53 => ?_
        refine blk_normal (then_normal (sqr (sqp [.m 43 7, sI 44 ((k : Int) + 1) (by omega), .m 7 44] ?_)))
        refine then_normal ?_
        refine ⟨60 - ((k + 1)), by omega, ?_⟩
        exact ⟨(k + 1), (doB ps R.2.eds), nx, R.1, r4_53, r2_36, by omega, by rw [hrun, show 60 - k = 60 - (k + 1) + 1 by omega, runF_step hpn, hR, hs39]; rfl, (hpb.mono (by omega)).do hedm, by rw [doB_len]; exact hp60, by omega, hpu2, rfl, (by kernel_rfl), hst53.pk [0, 1]⟩
      refine wp_exit (then_exit (then_exit (blk_eq (blk_normal (then_normal ?_)))))
      have hrun2 : grwF l (i + 1) = (ps, nx) := by
        by_cases hk60 : k = 60
        · rw [hrun, hk60]; rfl
        · rw [hrun]; exact runF_nil _ _ _ (List.eq_nil_of_length_eq_zero (by omega))
      refine sqr (sqp [.m 18 5, sI 19 ((i : Int) + 1) (by omega), .m 5 19] ?_)
      refine then_normal ?_
      refine ⟨min n 90 - ((i + 1)), by omega, ?_⟩
      exact ⟨(i + 1), ps, nx, fb, by omega, hrun2, hpb.mono (by omega), hp60, by omega, rfl, (by kernel_rfl), hst34.pk [0]⟩
    have hs33p := of_decide_eq_false hs33
    refine sqr (sqp [.m 33 7, .e 34 (.bool (decide ((k : Int) < 60))) (.bool false) (congrArg Value.bool hs33), .k 35 (.bool false)] ?_)
    refine sqgn 35 [36, 37, 38, 39, 40, 41] rfl rfl ?_
    refine sqp [.k 42 (.bool false)] ?_
    refine then_normal (wcf rfl (wp_exit (then_exit (then_exit (blk_eq (blk_normal (then_normal ?_)))))))
    have hrun2 : grwF l (i + 1) = (ps, nx) := by
      by_cases hk60 : k = 60
      · rw [hrun, hk60]; rfl
      · rw [hrun]; exact runF_nil _ _ _ (List.eq_nil_of_length_eq_zero (by omega))
    refine sqr (sqp [.m 18 5, sI 19 ((i : Int) + 1) (by omega), .m 5 19] ?_)
    refine then_normal ?_
    refine ⟨min n 90 - ((i + 1)), by omega, ?_⟩
    exact ⟨(i + 1), ps, nx, fb, by omega, hrun2, hpb.mono (by omega), hp60, by omega, rfl, (by kernel_rfl), hst31.pk [0]⟩
  have hs15p := hs15
  simp only [zB] at hs15p
  refine wp_exit (then_exit (then_exit (blk_eq (then_normal (wp_seq (sqr (sqp [.m 57 3, .m 2 57] ?_)))))))
  refine then_normal (wp_ret ?_)
  refine bpr (vp B9_2) (results_1 Try.results11 rpt) ?_
  have hfin : grownF l = ps0 := by rw [grownF, hn, show min n 90 = i by omega, hg]
  rw [hfin]
  exact ⟨_, _, rfl, hst6.pick [0] (by decide) rfl⟩
end
end Go.Proofs.Ytjlcoglmjldjbaa

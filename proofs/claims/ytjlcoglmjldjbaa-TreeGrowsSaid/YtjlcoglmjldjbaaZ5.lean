/- TreeGrowsRow: part 5 of the proof. -/
import Derived.Test.YtjlcoglmjldjbaaZ4
import Derived.Shelf.Abstract
import Derived.Test.YtjlcoglmjldjbaaRows
import Derived.ProofKit
import Derived.OpenShut
import Derived.Below
import Derived.ChangeSame
import Derived.WideKeyArgs
import Derived.SliceStrings
import Derived.ChangeMaps5
import Derived.Lib.SmallJoins
import Derived.SizedLaws
import Derived.WalkKit
set_option linter.unusedVariables false
set_option linter.unusedSimpArgs false
namespace Go.Proofs.Ytjlcoglmjldjbaa
section
open Go.RowKit
set_option linter.unusedVariables false
set_option linter.unusedSimpArgs false
/-- the nodes collected: one node, its entries -/
def eCo (SA : Option Addr) (nd : NoD) (pg : Int) (fp : List Nat) : Ent := ⟨fp, fun W => ∃ EA ec, (∀ ad, SA = some ad → ad.block ∈ fp) ∧ (∀ ad, EA = some ad → ad.block ∈ fp) ∧ At W SA ([(nd, pg, EA, ec)].flatMap ynC) ∧ At W EA (nd.es.flatMap enC)⟩
theorem eCo_self {e : Ent} {SA : Option Addr} {nd : NoD} {pg : Int} {fp : List Nat} (h : e = eCo SA nd pg fp) : e = eCo SA nd pg e.fp := by subst h; rfl
theorem eCo_loc (SA : Option Addr) (nd : NoD) (pg : Int) (fp : List Nat) : (eCo SA nd pg fp).loc := fun W W' hk h => by
  obtain ⟨EA, ec, h1, h2, h3, h4⟩ := h
  exact ⟨EA, ec, h1, h2, at_blocks h3 fun ad e _ => hk _ (h1 ad e), at_blocks h4 fun ad e _ => hk _ (h2 ad e)⟩
theorem own_blkN {W : World} {t sz m lc : Nat} {LA : Option Addr} {xs : List Value} (h : W.ownsRow 0 t sz (.slice LA m lc) m xs) : ∀ ad, LA = some ad → ad.block ∈ (Value.ownBlock (.slice LA m lc)).toList := fun ad e => by
  rcases h.2 with ⟨hv, _⟩ | ⟨g, cap, cur, hv, _⟩
  · injection hv with h2; rw [e] at h2; cases h2
  · subst e; injection hv with h5; injection h5 with h5; subst h5; simp [Value.ownBlock]
def CoPost (nd : NoD) (pg : Int) (w : World) (e : Ending) (w' : World) : Prop := ∃ SA sc fp, e = .returned (.slice SA 1 sc) ∧ St w [] [eCo SA nd pg fp] w'
theorem co_done {w W : World} {SA : Option Addr} {sc n : Nat} {nd : NoD} {pg : Int} {xs : List YnD} {E : Ent} (hz : OneZ pg nd xs E) (h : St w [] [eO 116 7 (.slice SA n sc) n (xs.flatMap ynC), E] W) (hn : n = xs.length) : CoPost nd pg w (.returned (.slice SA n sc)) W := by
  obtain ⟨EA, ec, rfl, rfl⟩ := hz
  subst hn
  have h1 := h.ok (eO 116 7 (.slice SA 1 sc) 1 ([(nd, pg, EA, ec)].flatMap ynC)) (by simp)
  have h2 := h.ok (ynR (nd, pg, EA, ec)) (by simp)
  have hO : W.ownsRow 0 116 7 (.slice SA 1 sc) 1 ([(nd, pg, EA, ec)].flatMap ynC) := h1.holds
  have hR : W.ownsRow 0 104 3 (.slice EA nd.es.length ec) nd.es.length (nd.es.flatMap enC) := h2.holds
  refine ⟨SA, sc, (Value.ownBlock (.slice SA 1 sc)).toList ++ (Value.ownBlock (.slice EA nd.es.length ec)).toList, rfl, h.upd, fun x hx => ?_, List.pairwise_singleton _ _⟩
  rw [List.mem_singleton] at hx
  subst hx
  refine ⟨⟨EA, ec, fun ad e => List.mem_append_left _ (own_blkN hO ad e), fun ad e => List.mem_append_right _ (own_blkN hR ad e), At.of_ownN hO, At.of_ownN hR⟩, eCo_loc _ _ _ _, fun k hk => ?_⟩
  rcases List.mem_append.1 hk with hk | hk
  · exact h1.own k hk
  · exact h2.own k hk
theorem yn_snoc (L : List YnD) (x : YnD) : L.flatMap ynC ++ ynC x = (L ++ [x]).flatMap ynC := by simp
theorem Try.infoNd : (Try.prog.info? 116).map (fun i => (i.zero, i.size, i.bytes)) = some (some (.agg #[.int .i64 0, .int .i64 0, .int .i64 0, .string ByteArray.empty, .bool false, .slice none 0 0, .int .i64 0]), 7, 80) := by kernel_rfl
set_option maxRecDepth 100000 in
set_option maxHeartbeats 2000000 in
theorem kapp_any (b1 b2 b3 : Nat) (root : Int) (nd : NoD) (w : World) (hseq : SeqF Try.prog 99 #[.pointer (some ⟨b1, 0, none⟩), .pointer (some ⟨b2, 0, none⟩), .pointer (some ⟨b3, 0, none⟩)] ynE 1 (OneZ root nd) w) :
    Calls Try.prog 98 #[.slice none 0 0, .func (.func 99) #[] #[.pointer (some ⟨b1, 0, none⟩), .pointer (some ⟨b2, 0, none⟩), .pointer (some ⟨b3, 0, none⟩)]] w (CoPost nd root w) := by
  refine (callsIn_wide (n := 3)).1 (callsIn_of_wp_marks Try.func98 rfl trivial (wpIn_wide.2 ?_) rfl)
  simp only [Try.ntmps98, List.size_toArray, List.length_cons, List.length_nil, Nat.reduceAdd, Nat.reduceSub, Array.replicate_succ, Array.replicate_zero, List.push_toArray, List.append_toArray, List.nil_append, List.cons_append]
  have hst0 := St.start w
  refine wp_seq (wp_region_Y [0, 0] [] [[0]] [] [.a 2, .k 4 (.slice none 0 0)] (fun ix σ β X => match ix with | 0 => σ 2 = vp (pb (β 2)) ∧ X 0 = eB (pb (β 2)) 146 #[.slice none 0 0] | _ => True) [0] [0] [(2, 0, 1, 3), (1, 1, 1, 2)] hst0 ?_ ?_ ?_)
  · exact fun ix _ _ _ _ _ _ hs hb hx h => match ix, h with
    | 0, h => by dsimp only; rw [← hs 2 rfl, ← hb 2 rfl, ← hx 0 rfl]; exact h
    | _ + 1, _ => trivial
  · refine ⟨?_, trivial⟩
    · refine svA fun ρ β W X cx => ?_
      exact dv_box (cs := #[.slice none 0 0]) rfl (cx.ou 0) rfl rfl rfl (fun σ β' X' hs hb hv hx => ⟨hv, hx⟩)
  intro σ β X W1 hD hst1 fr hfr
  obtain ⟨B2_1, hu_B2_1⟩ : ∃ z, pb (β 2) = z := ⟨_, rfl⟩
  simp only [exq 0 ((dTn (hD 0 lq)).2), hu_B2_1] at hst1
  simp only [ed 2 ((dTn (hD 0 lq)).1), hu_B2_1] at hfr
  clear hD hu_B2_1; subst hfr; clear σ β X
  refine then_normal (wp_seq (wp_seq (wp_region_P [0] [.k 6 (.func (.func 99) #[] #[vp b1, vp b2, vp b3])] [(6, 0, 1, 7)] hst1 fun W2 hst2 => ?_)))
  refine then_normal (wp_block ?_)
  have hn3 := nilrowN hst2 116 7
  simp only [List.cons_append, List.nil_append] at hn3
  have hp5 := hn3.pick [0, 1] (by decide) rfl
  refine wp_rangeSF (α := YnD) hp5 rfl (enters_of Try.func99 (by kernel_rfl) rfl) (encs := ynE) (N := 1) (Z := OneZ root nd) (hseq) (fun _ => rfl) (fun pre L => ∃ SA : Option Addr, ∃ n : Nat, ∃ sc : Nat, n = pre.length ∧ L = [eB B2_1 146 #[.slice SA n sc], eO 116 7 (.slice SA n sc) n (pre.flatMap ynC)]) ⟨none, 0, 0, rfl, rfl⟩ (fun xx a_ E_ => ∃ BV : Nat, a_ = ⟨([.slice none 0 0, .func (.func 99) #[] #[vp b1, vp b2, vp b3], vp B2_1, undef, .slice none 0 0, vp BV, .func (.func 99) #[] #[vp b1, vp b2, vp b3], .agg #[vi xx.2.1, vi xx.1.lv, vi xx.1.right, .string xx.1.high, .bool xx.1.dead, .slice xx.2.2.1 xx.1.es.length xx.2.2.2, vi ((xx.1.free : Int))], undef, undef, undef, undef, undef]).toArray, []⟩ ∧ E_ = eB BV 116 #[vi xx.2.1, vi xx.1.lv, vi xx.1.right, .string xx.1.high, .bool xx.1.dead, .slice xx.2.2.1 xx.1.es.length xx.2.2.2, vi ((xx.1.free : Int))]) (fun xx => [.slice none 0 0, .func (.func 99) #[] #[vp b1, vp b2, vp b3], vp B2_1, undef, .slice none 0 0, undef, .func (.func 99) #[] #[vp b1, vp b2, vp b3], .agg #[vi xx.2.1, vi xx.1.lv, vi xx.1.right, .string xx.1.high, .bool xx.1.dead, .slice xx.2.2.1 xx.1.es.length xx.2.2.2, vi ((xx.1.free : Int))], undef, undef, undef, undef, undef]) (fun xx => by kernel_rfl) ?_ ?_ ?_
  · intro rl xx W4 K hK
    have hst4 := St.start W4
    refine wpIn_region_Y [0, 1] [[], [0]] [[0], [1]] [[], [0]] [.a 5, .n] (fun ix σ β X => match ix with | 0 => σ 5 = vp (pb (β 5)) ∧ X 0 = eB (pb (β 5)) 116 #[vi 0, vi 0, vi 0, .string ByteArray.empty, .bool false, .slice none 0 0, vi 0] | 1 => X 1 = eB (pb (β 5)) 116 #[vi xx.2.1, vi xx.1.lv, vi xx.1.right, .string xx.1.high, .bool xx.1.dead, .slice xx.2.2.1 xx.1.es.length xx.2.2.2, vi ((xx.1.free : Int))] | _ => True) [1] [0, 1] [(5, 0, 1, 6)] hst4 ?_ ?_ ?_
    · exact fun ix _ _ _ _ _ _ hs hb hx h => match ix, h with
      | 0, h => by dsimp only; rw [← hs 5 rfl, ← hb 5 rfl, ← hx 0 rfl]; exact h
      | 1, h => by dsimp only; rw [← hb 5 rfl, ← hx 1 rfl]; exact h
      | _ + 2, _ => trivial
    · refine ⟨?_, ?_, trivial⟩
      · refine svA fun ρ β W X cx => ?_
        exact dv_alloc (cs := #[vi 0, vi 0, vi 0, .string ByteArray.empty, .bool false, .slice none 0 0, vi 0]) rfl (by kernel_rfl) rfl rfl (fun σ β' X' hs hb hv hx => ⟨hv, hx⟩)
      · refine svA fun ρ β W X cx => ?_
        exact dv_store (n := 7) rfl (dTn (cx.an 0)).1 (cx.ou 7) (by kernel_rfl) (by kernel_rfl) (by kernel_rfl) cx (dTn (cx.an 0)).2 rfl (nle rfl) (by kernel_rfl) rfl rfl rfl (fun σ β' X' hs hb hx => by rw [hb 5]; exact hx)
    intro σ β X W6 hD hst6 fr hfr
    obtain ⟨B5_6, hu_B5_6⟩ : ∃ z, pb (β 5) = z := ⟨_, rfl⟩
    simp only [exq 1 ((dTn (hD 1 lq))), hu_B5_6] at hst6
    simp only [ed 5 ((dTn (hD 0 lq)).1), hu_B5_6] at hfr
    clear hD hu_B5_6; subst hfr; clear σ β X
    exact hK _ _ _ ⟨_, rfl, rfl⟩ (hst6.pick [0] (by decide) rfl)
  · rintro rl pre xx W7 L7 a7 E7 ⟨SA, n, sc, hn, rfl⟩ hlen7 ⟨BV, rfl, rfl⟩ hst7r
    have hst7 : St W7 (fps ([eB B2_1 146 #[.slice SA n sc], eO 116 7 (.slice SA n sc) n (pre.flatMap ynC)] ++ [eB BV 116 #[vi xx.2.1, vi xx.1.lv, vi xx.1.right, .string xx.1.high, .bool xx.1.dead, .slice xx.2.2.1 xx.1.es.length xx.2.2.2, vi ((xx.1.free : Int))]])) [eB B2_1 146 #[.slice SA n sc], eO 116 7 (.slice SA n sc) n (pre.flatMap ynC), eB BV 116 #[vi xx.2.1, vi xx.1.lv, vi xx.1.right, .string xx.1.high, .bool xx.1.dead, .slice xx.2.2.1 xx.1.es.length xx.2.2.2, vi ((xx.1.free : Int))]] W7 := hst7r
    clear hst7r
    refine wpIn_block (wpIn_region_Y [0, 0, 2, 7, 15] [[0], [2], [], [3, 1], [0]] [[], [], [3], [4], [5]] [[], [], [], [1], [0]] [.c 8 (.slice SA n sc), .c 9 (.agg #[vi xx.2.1, vi xx.1.lv, vi xx.1.right, .string xx.1.high, .bool xx.1.dead, .slice xx.2.2.1 xx.1.es.length xx.2.2.2, vi ((xx.1.free : Int))]), .a 10, .a 11, .n] (fun ix σ β X => match ix with | 0 => True | 1 => True | 2 => σ 10 = .slice ((some ⟨(pb' (β 10)), 0, none⟩)) 1 1 ∧ X 3 = eO 116 7 (.slice ((some ⟨(pb' (β 10)), 0, none⟩)) 1 1) 1 (ynC xx) | 3 => σ 11 = .slice (sA (β 11)) (n + 1) (sC (β 11)) ∧ X 4 = eO 116 7 (.slice (sA (β 11)) (n + 1) (sC (β 11))) (n + 1) ((pre ++ [xx]).flatMap ynC) | 4 => X 5 = eB B2_1 146 #[.slice (sA (β 11)) (n + 1) (sC (β 11))] | _ => True) [2, 3, 4, 5] [0, 1, 2, 3, 4] [(8, 0, 4, 12)] hst7 ?_ ?_ ?_)
    · exact fun ix _ _ _ _ _ _ hs hb hx h => match ix, h with
      | 2, h => by dsimp only; rw [← hs 10 rfl, ← hb 10 rfl, ← hx 3 rfl]; exact h
      | 3, h => by dsimp only; rw [← hs 11 rfl, ← hb 11 rfl, ← hx 4 rfl]; exact h
      | 4, h => by dsimp only; rw [← hb 11 rfl, ← hx 5 rfl]; exact h
      | 0, _ | 1, _ | _ + 5, _ => trivial
    · refine ⟨?_, ?_, ?_, ?_, ?_, trivial⟩
      · exact xs4 rfl id fun cx => run_load1 rfl (by kernel_rfl) (cx.ou 2) ((cx.bi 0 rfl).cell 0)
      · exact xs4 rfl id fun cx => run_loadB (n := 7) rfl (by kernel_rfl) (by kernel_rfl) (cx.ou 5) (cx.bi 2 rfl) (nle rfl) rfl
      · refine svA fun ρ β W X cx => ?_
        have fF9 : ρ (.tmp 9) = .agg #[vi xx.2.1, vi xx.1.lv, vi xx.1.right, .string xx.1.high, .bool xx.1.dead, .slice xx.2.2.1 xx.1.es.length xx.2.2.2, vi ((xx.1.free : Int))] := (cx.an 1)
        exact dv_litN (e := 116) (sz := 7) (xs := [vi xx.2.1, vi xx.1.lv, vi xx.1.right, .string xx.1.high, .bool xx.1.dead, .slice xx.2.2.1 xx.1.es.length xx.2.2.2, vi ((xx.1.free : Int))]) rfl (by simp [go_sem, fF9]) rfl (by decide) rfl rfl (fun σ β' X' hs hb hv hx => ⟨hv, hx⟩)
      · refine svA fun ρ β W X cx => ?_
        obtain ⟨i0, hi0, hz0, hz1, hz2⟩ := info_parts Try.infoNd
        refine dv_appendN (n := n) (m := 1) (nm := n + 1) (sz := 7) (xs := pre.flatMap ynC) (news := ynC xx) (xs' := (pre ++ [xx]).flatMap ynC) rfl (ty := 146) rfl (by kernel_rfl) hi0 hz0 hz1 hz2 rfl (by decide) (cx.an 0) cx (cx.init 1 _ rfl) rfl (dTn (cx.an 2)).1 (by rfl) (At.of_ownN (cx.row (dTn (cx.an 2)).2 rfl)) (by simp [ynC, Value.oneCell']) (by simp only [maxLen]; omega) (by omega) rfl rfl rfl (by omega) (yn_snoc _ _) (fun σ β' X' hs hb hv hx => ?_)
        exact ⟨hv, hx⟩
      · refine svA fun ρ β W X cx => ?_
        exact dv_store (n := 1) rfl (cx.ou 2) (dTn (cx.an 3)).1 (by kernel_rfl) (by kernel_rfl) (by kernel_rfl) cx (cx.init 0 _ rfl) rfl (nle rfl) (by kernel_rfl) rfl rfl rfl (fun σ β' X' hs hb hx => by rw [hb 11]; exact hx)
    intro σ β X W8 hD hst8 fr hfr
    obtain ⟨B10_8, hu_B10_8⟩ : ∃ z, pb' (β 10) = z := ⟨_, rfl⟩
    obtain ⟨A11_8, hu_A11_8⟩ : ∃ z, sA (β 11) = z := ⟨_, rfl⟩
    obtain ⟨c11_8, hu_c11_8⟩ : ∃ z, sC (β 11) = z := ⟨_, rfl⟩
    simp only [exq 3 ((dTn (hD 2 lq)).2), exq 4 ((dTn (hD 3 lq)).2), exq 5 ((dTn (hD 4 lq))), hu_B10_8, hu_A11_8, hu_c11_8] at hst8
    simp only [ed 10 ((dTn (hD 2 lq)).1), ed 11 ((dTn (hD 3 lq)).1), hu_B10_8, hu_A11_8, hu_c11_8] at hfr
    clear hD hu_B10_8 hu_A11_8 hu_c11_8; subst hfr; clear σ β X
    refine blk_normal ?_
    exact ⟨rfl, _, ⟨A11_8, (n + 1), c11_8, by rw [hn, List.length_append]; rfl, rfl⟩, hst8.pick [3, 2] (by decide) rfl⟩
  · rintro D4 W4d L4 XS_ E_ ⟨SA, n, sc, hn, rfl⟩ hZ_ hst4d
    simp only [List.cons_append, List.nil_append] at hst4d
    refine blk_normal (then_normal (wp_seq (wp_region_Z [0, 1] [[0]] [.c 12 (.slice SA n sc), .k 4 (.slice SA n sc)] [0, 1, 2, 3] [0] [(4, 1, 1, 5), (7, 0, 1, 8)] hst4d ?_ fun W9 hst9 => ?_)))
    · refine ⟨?_, trivial⟩
      · exact xs4 rfl id fun cx => run_load1 rfl (by kernel_rfl) (cx.ou 2) ((cx.bi 0 rfl).cell 0)
    refine then_normal (wp_ret ?_)
    refine bpm_take (L := [eB B2_1 146 #[.slice SA n sc], eO 116 7 (.slice SA n sc) n (XS_.flatMap ynC), E_]) (hst9.pick [0, 1, 2, 3] (by decide) rfl) fun Wt10 ht10 => ?_
    refine ⟨.slice SA n sc, (results_1 Try.results98 rpt), ?_⟩
    exact co_done hZ_ (ht10.pick [1, 2] (by decide) rfl) hn
theorem seqF_ext {α : Type} {P : Program} {gf : Nat} {lb : Array Value} {encs : α → Array Value} {N : Nat} {Z : List α → Ent → Prop} {w w1 : World} (h : SeqF P gf lb encs N Z w) (hx : Ext w w1) : SeqF P gf lb encs N Z w1 := fun l J W C0 hW hloc hC hJ hY => h l J W C0 (hx.trans hW) hloc (fun k hk => ⟨Nat.le_trans hx.size (hC k hk).1, (hC k hk).2⟩) hJ hY
set_option maxRecDepth 100000 in
set_option maxHeartbeats 2000000 in
theorem kcol_any (b1 b2 b3 : Nat) (root : Int) (nd : NoD) (w : World) (hseq : SeqF Try.prog 99 #[.pointer (some ⟨b1, 0, none⟩), .pointer (some ⟨b2, 0, none⟩), .pointer (some ⟨b3, 0, none⟩)] ynE 1 (OneZ root nd) w) :
    Calls Try.prog 71 #[.func (.func 99) #[] #[.pointer (some ⟨b1, 0, none⟩), .pointer (some ⟨b2, 0, none⟩), .pointer (some ⟨b3, 0, none⟩)]] w (CoPost nd root w) := by
  go_enter Try.func71, Try.ntmps71
  have hst0 := St.start w
  refine wp_seq (sqr (sqp [.k 2 (.slice none 0 0)] ?_))
  refine then_normal (wp_seq (sqr (sqp [.m 3 0] ?_)))
  refine sqk2s (fun A4_3 c4_3 => .slice A4_3 1 c4_3) (fun A4_3 c4_3 r0_3 => eCo A4_3 nd root r0_3) hst0 (fun cx => ⟨_, (kapp_any b1 b2 b3 root nd _ (seqF_ext hseq cx.upd.to_ext)).mono (by rintro e W1 ⟨A4, c4, fp4, rfl, hs4⟩; exact ⟨_, _, _, rfl, hs4⟩), (map2 (cx.co _) (cx.ou 3))⟩) fun A4_3 c4_3 r0_3 W3 hst3 => ?_
  refine sqp [.m 2 4] ?_
  refine then_normal (wp_ret ?_)
  refine bpr (.slice A4_3 1 c4_3) (results_1 Try.results71 rpt) ?_
  exact ⟨_, _, _, rfl, hst3.pick [0] (by decide) rfl⟩
def pcp (i : Nat) : Value → Nat
  | .func _ _ cs => pb (cs.getD i undef)
  | _ => 0
def RowPost (tt : TypeId) (tv : Value) (root lv : Int) (w : World) (e : Ending) (w' : World) : Prop := ∃ b1 b2 b3, e = .returned (.func (.func 99) #[] #[.pointer (some ⟨b1, 0, none⟩), .pointer (some ⟨b2, 0, none⟩), .pointer (some ⟨b3, 0, none⟩)]) ∧ St w [] [eB b1 113 #[.iface tt tv], eB b2 3 #[.int .i64 root], eB b3 3 #[.int .i64 lv]] w'
set_option maxRecDepth 100000 in
set_option maxHeartbeats 2000000 in
theorem krowc_any (tt : TypeId) (tv : Value) (root lv : Int) (w : World) :
    Calls Try.prog 72 #[.iface tt (tv), .int .i64 root, .int .i64 lv] w (RowPost tt tv root lv w) := by
  go_enter Try.func72, Try.ntmps72
  have hst0 := St.start w
  refine wp_seq (sqr ?_)
  refine sqbx #[.iface tt (tv)] hst0 fun B3_1 W1 hst1 => ?_
  refine sqbx #[vi root] hst1 fun B4_2 W2 hst2 => ?_
  refine sqbx #[vi lv] hst2 fun B5_3 W3 hst3 => ?_
  refine sqp [.k 6 (Go.Value.nilFunc)] ?_
  refine then_normal (wp_seq (sqr ?_))
  refine sqv (.func (.func 99) #[] #[vp B3_1, vp B4_2, vp B5_3]) hst3 (by
      exact sv0 rfl rfl rfl rfl rfl (fun _ _ _ h => h) fun ρ β W X cx => by
        have fF3 : ρ (.tmp 3) = vp B3_1 := (cx.ou 3)
        have fF4 : ρ (.tmp 4) = vp B4_2 := (cx.ou 4)
        have fF5 : ρ (.tmp 5) = vp B5_3 := (cx.ou 5)
        simp [go_sem, Instr.makeFunc, fF3, fF4, fF5]) fun W5 hst5 => ?_
  refine sqp [.m 6 7] ?_
  refine then_normal (wp_ret ?_)
  refine bpr (.func (.func 99) #[] #[vp B3_1, vp B4_2, vp B5_3]) (results_1 Try.results72 rpt) ?_
  exact ⟨_, _, _, rfl, hst5.pick [0, 1, 2] (by decide) rfl⟩
set_option maxRecDepth 100000 in
set_option maxHeartbeats 2000000 in
theorem ksorted_1 (pg fr : Int) (EA : Option Addr) (ec n : Nat) (es : List EnD) (w : World) (hE : At w EA (es.flatMap enC)) (hn : es.length = n) (hn1 : n ≤ 1) :
    Calls Try.prog 100 #[.agg #[.int .i64 pg, .int .i64 0, .int .i64 (-1), .string ((⟨#[]⟩ : ByteArray)), .bool false, .slice EA n ec, .int .i64 fr], .string ((⟨#[]⟩ : ByteArray))] w (Ret (.bool true) w) := by
  go_enter Try.func100, Try.ntmps100
  have hst0 := St.start w
  refine wp_seq (sqr ?_)
  refine sqbx #[vi pg, vi 0, vi (-1), .string ((⟨#[]⟩ : ByteArray)), .bool false, .slice EA n ec, vi fr] hst0 fun B2_1 W1 hst1 => ?_
  refine sqp [.k 4 (.bool false)] ?_
  refine then_normal (wp_seq (wp_seq (sqr (sqp [.k 7 (.pointer (some ⟨B2_1, 5, none⟩))] ?_))))
  refine sqld 0 hst1 ?_
  refine sqp [.k 9 (vi ((n : Int))), .k 10 (vi 0)] ?_
  refine then_normal (wp_block ?_)
  refine wp_loopT (fun t_ mz az W => ∃ i : Nat, i ≤ n ∧ mz = n - i ∧ az = ⟨(ovr (jv az) [(4, 4, 3, []), (3, 10, 0, [vi ((i : Int))]), (0, 11, 42, [])] t_).toArray, []⟩ ∧ St w [] [eB B2_1 116 #[vi pg, vi 0, vi (-1), .string ((⟨#[]⟩ : ByteArray)), .bool false, .slice EA n ec, vi fr]] W) (n - 0) ?_ ?_
  · -- the loop begins
    exact ⟨0, Nat.zero_le _, rfl, (by kernel_rfl), hst1.pk [0]⟩
  rintro n7 a7 W7 ⟨i, hi, rfl, hj_, hst7⟩
  refine ovz hj_ fun u7_ => ?_
  refine wp_seq (sqr (sqp [.k 11 (.bool (decide ((i : Int) < (n : Int))))] ?_))
  refine then_normal (wp_seq (wds (fun hs9 hs9p => ?_) fun hs9 hs9p => ?_))
  · refine wp_skip (then_normal (wp_seq (wp_block (wp_seq (sqr (sqp [.m 12 10] ?_))))))
    refine sql (.pointer (some ((ad EA).add (i * 3)))) hst7 (fun cx => run_indexSlM (e := 104) (m := i) (sz := 3) rfl (by kernel_rfl) (by kernel_rfl) (cx.ou 8) (cx.ou 10) (by omega) (by omega) (hE.ext cx.upd.to_ext) (flatPos (sz := 3) enC_len (by decide) (by omega))) ?_
    refine sql (.agg #[.string ((es.getD i en0).1), vi (((es.getD i en0).2.1 : Int)), vi ((es.getD i en0).2.2)]) hst7 (fun cx => run_loadElt (f := enC) (m := i) (sz := 3) (off := 0) (n := 3) rfl (by kernel_rfl) (by kernel_rfl) (cx.ou 13) rfl enC_len (hE.ext cx.upd.to_ext) (en_get (by omega)) (fun k hk => match k, hk with | 0, _ => rfl | 1, _ => rfl | 2, _ => rfl | k + 3, hk => absurd hk (by omega))) ?_
    refine sqal #[.string ByteArray.empty, vi 0, vi 0] hst7 fun B6_13 W13 hst13 => ?_
    refine sqp [.m 5 12] ?_
    refine sqst (n := 3) 1 #[.string ((es.getD i en0).1), vi (((es.getD i en0).2.1 : Int)), vi ((es.getD i en0).2.2)] hst13 fun W15 hst15 => ?_
    refine then_normal (wp_seq ?_)
    have hd17 : (!(((⟨#[]⟩ : ByteArray)).toList == ((⟨#[]⟩ : ByteArray)).toList)) = false := (by rw [beq_self_eq_true]; rfl)
    have hd18 : (decide (0 < (i : Int))) = false := (decide_eq_false (by omega))
    refine wp_region_Z [0, 1, 3, 7, 15, 7, 63, 127, 255, 511, 1023, 2047, 4095, 8191, 16383, 8191, 40959, 131071, 262143, 524287, 1048575, 2097151, 4194303, 8388607, 16777215, 33554431, 67108863, 33554431, 167772159, 33554431, 570425343, 2046820351, 4194303999, 8489271295, 17179869183, 34359738367, 68719476735] [[], [], [], [], [], [], [], [], [], [], [0]] [.k 15 (.string ((⟨#[]⟩ : ByteArray))), .e 16 (.bool (!(((⟨#[]⟩ : ByteArray)).toList == ((⟨#[]⟩ : ByteArray)).toList))) (.bool false) (congrArg Value.bool hd17), .k 17 (.bool false), .u 18, .u 19, .u 20, .u 21, .k 22 (.bool false), .k 23 (.bool false), .k 24 (.pointer (some ⟨B2_1, 3, none⟩)), .c 25 (.string ((⟨#[]⟩ : ByteArray))), .e 26 (.bool (!(((⟨#[]⟩ : ByteArray)).toList == ((⟨#[]⟩ : ByteArray)).toList))) (.bool false) (congrArg Value.bool hd17), .k 27 (.bool false), .u 28, .u 29, .u 30, .u 31, .u 32, .u 33, .k 34 (.bool false), .k 35 (.bool false), .k 36 (.bool false), .k 37 (vi ((i : Int))), .e 38 (.bool (decide (0 < (i : Int)))) (.bool false) (congrArg Value.bool hd18), .k 39 (.bool false), .u 40, .u 41, .u 42, .u 43, .u 44, .u 45, .u 46, .u 47, .u 48, .u 49, .k 50 (.bool false), .k 51 (.bool false)] [0, 1] [10] [(15, 0, 37, 52)] hst15 ?_ fun W16 hst16 => ?_
    · refine ⟨?_, trivial⟩
      · exact xs5 rfl id (fun cx => (cx.an 8)) fun cx => run_load1 rfl (by kernel_rfl) (cx.an 9) ((cx.bi 0 rfl).cell 3)
    refine then_normal (wcf rfl (wp_skip (blk_normal (then_normal (sqr (sqp [sI 52 ((i : Int) + 1) (by omega), .m 10 52] ?_))))))
    refine then_normal ?_
    refine ⟨n - ((i + 1)), by omega, ?_⟩
    exact ⟨(i + 1), by omega, rfl, (by kernel_rfl), hst16.pk [0]⟩
  refine wp_exit (then_exit (then_exit (blk_eq (then_normal (wp_seq (sqr (sqp [.k 4 (.bool true)] ?_)))))))
  refine then_normal (wp_ret ?_)
  refine bpr (.bool true) (results_1 Try.results100 rpt) ?_
  exact Ret.of rfl hst7.ext
def ny1 (pg fr : Int) (EA : Option Addr) (ec n : Nat) (u : Unit) : List Value := [.int .i64 pg, .int .i64 0, .int .i64 (-1), .string ((⟨#[]⟩ : ByteArray)), .bool false, .slice EA n ec, .int .i64 fr]
set_option maxRecDepth 100000 in
set_option maxHeartbeats 2000000 in
theorem kright_1 (pg fr : Int) (EA SA : Option Addr) (ec sc n : Nat) (es : List EnD) (w : World) (hE : At w EA (es.flatMap enC)) (hn : es.length = n) (hn1 : n ≤ 1) (hN : At w SA ([()].flatMap (ny1 pg fr EA ec n))) :
    Calls Try.prog 73 #[.slice SA 1 sc, .slice none 0 0] w (Ret (.bool true) w) := by
  go_enter Try.func73, Try.ntmps73
  have hst0 := St.start w
  refine wp_seq (sqr (sqp [.k 4 (.bool false)] ?_))
  refine then_normal (wp_seq (sqr (sqp [.k 5 (.string ⟨#[]⟩)] ?_)))
  refine then_normal (wp_seq (wp_seq (sqr (sqp [.m 9 0, .k 10 (vi 1), .k 11 (vi 0)] ?_))))
  refine then_normal (wp_block ?_)
  refine wp_loopT (fun t_ mz az W => ∃ i : Nat, i ≤ 1 ∧ mz = 1 - i ∧ az = ⟨(ovr (jv az) [(4, 4, 1, [.string ((⟨#[]⟩ : ByteArray))]), (0, 6, 3, []), (2, 11, 0, [vi ((i : Int))]), (0, 12, 73, [])] t_).toArray, []⟩ ∧ St w [] [] W) (1 - 0) ?_ ?_
  · -- the loop begins
    exact ⟨0, Nat.zero_le _, rfl, (by kernel_rfl), hst0.pk []⟩
  rintro n6 a6 W6 ⟨i, hi, rfl, hj_, hst6⟩
  refine ovz hj_ fun u6_ => ?_
  refine wp_seq (sqr (sqp [.k 12 (.bool (decide ((i : Int) < 1)))] ?_))
  refine then_normal (wp_seq (wds (fun hs8 hs8p => ?_) fun hs8 hs8p => ?_))
  · refine wp_skip (then_normal (wp_seq (wp_block (wp_seq ?_))))
    obtain rfl : i = 0 := by omega
    refine sqr (sqp [.m 13 11] ?_)
    refine sql (.pointer (some ((ad SA).add (0 * 7)))) hst6 (fun cx => run_indexSlM (e := 116) (m := 0) (sz := 7) rfl (by kernel_rfl) (by kernel_rfl) (cx.ou 9) (cx.ou 11) (by omega) (by omega) (hN.ext cx.upd.to_ext) (flatPos (sz := 7) (fun _ => rfl) (by decide) (by first | omega | decide))) ?_
    refine sql (.agg #[vi pg, vi 0, vi (-1), .string ((⟨#[]⟩ : ByteArray)), .bool false, .slice EA n ec, vi fr]) hst6 (fun cx => run_loadElt (f := (ny1 pg fr EA ec n)) (m := 0) (sz := 7) (off := 0) (n := 7) rfl (by kernel_rfl) (by kernel_rfl) (cx.ou 14) rfl (fun _ => rfl) (hN.ext cx.upd.to_ext) rfl (fun k hk => match k, hk with | 0, _ => rfl | 1, _ => rfl | 2, _ => rfl | 3, _ => rfl | 4, _ => rfl | 5, _ => rfl | 6, _ => rfl | k + 7, hk => absurd hk (by omega))) ?_
    refine sqal #[vi 0, vi 0, vi 0, .string ByteArray.empty, .bool false, .slice none 0 0, vi 0] hst6 fun B7_12 W12 hst12 => ?_
    refine sqp [.m 6 13] ?_
    refine sqst (n := 7) 0 #[vi pg, vi 0, vi (-1), .string ((⟨#[]⟩ : ByteArray)), .bool false, .slice EA n ec, vi fr] hst12 fun W14 hst14 => ?_
    refine then_normal (wp_seq (sqr ?_))
    have hd20 : ((0 : Int) == 0) = true := rfl
    refine sqp [.m 16 6, .m 17 0, .k 18 (vi 1), .k 19 (vi 0), .e 20 (.bool ((0 : Int) == 0)) (.bool true) (congrArg Value.bool hd20), .k 8 (.bool true)] ?_
    refine then_normal (wp_seq (wp_block (wp_seq (wp_seq (sqr (sqp [.k 22 (.pointer (some ⟨B7_12, 4, none⟩))] ?_))))))
    refine sqld 0 hst14 ?_
    refine sqp [.k 21 (.bool false)] ?_
    refine then_normal (wcf rfl (wp_seq (sqr (sqp [.k 24 (.pointer (some ⟨B7_12, 5, none⟩))] ?_))))
    refine sqld 0 hst14 ?_
    have hd29 : (decide (8 < (n : Int))) = false := (decide_eq_false (by omega))
    refine sqp [.k 26 (vi ((n : Int))), .e 27 (.bool (decide (8 < (n : Int)))) (.bool false) (congrArg Value.bool hd29), .k 21 (.bool false)] ?_
    refine then_normal (wcf rfl (wp_seq (sqr (sqp [.k 28 (.bool true), .k 29 (.pointer (some ⟨B7_12, 3, none⟩))] ?_))))
    refine sqld 0 hst14 ?_
    have hd35 : (((⟨#[]⟩ : ByteArray)).toList == ((⟨#[]⟩ : ByteArray)).toList) = true := beq_self_eq_true _
    have hd37 : (!(true == true)) = false := rfl
    refine sqp [.e 31 (.bool (((⟨#[]⟩ : ByteArray)).toList == ((⟨#[]⟩ : ByteArray)).toList)) (.bool true) (congrArg Value.bool hd35)] ?_
    refine sqv (.bool false) hst14 (by
        exact sv0 rfl rfl rfl rfl rfl (fun _ _ _ h => h.trans (congrArg Value.bool hd37)) fun ρ β W X cx => by
          have fF28 : ρ (.tmp 28) = .bool true := (cx.ou 28)
          have fF31 : ρ (.tmp 31) = .bool true := (cx.ou 31)
          simp [go_sem, fF28, fF31]) fun W36 hst36 => ?_
    refine sqp [.k 21 (.bool false)] ?_
    refine then_normal (wcf rfl (wp_seq (sqr (sqp [.k 33 (.bool true), .k 34 (.pointer (some ⟨B7_12, 2, none⟩))] ?_))))
    refine sqld 0 hst36 ?_
    refine sqp [.k 36 (.bool true)] ?_
    refine sqv (.bool false) hst36 (by
        exact sv0 rfl rfl rfl rfl rfl (fun _ _ _ h => h.trans (congrArg Value.bool hd37)) fun ρ β W X cx => by
          have fF33 : ρ (.tmp 33) = .bool true := (cx.ou 33)
          have fF36 : ρ (.tmp 36) = .bool true := (cx.ou 36)
          simp [go_sem, fF33, fF36]) fun W43 hst43 => ?_
    refine sqp [.k 21 (.bool false)] ?_
    refine then_normal (wcf rfl (sqr ?_))
    refine sqlb 0 7 hst43 ?_
    refine sqp [.m 39 5] ?_
    refine sqk (.bool true) hst43 (fun cx => ⟨_, ksorted_1 pg fr EA ec n es _ (hE.ext cx.upd.to_ext) hn hn1, (map2 (cx.ou 38) (cx.ou 39))⟩) fun W47 hst47 => ?_
    refine sqp [.k 41 (.bool false), .k 21 (.bool false)] ?_
    refine then_normal (wcf rfl (wp_seq (wp_region_Z [0, 1, 3, 7, 15, 15, 63, 127, 255, 511, 1023, 2047, 4095, 8191, 16383, 32767, 65535, 4095, 135167, 397311, 921599, 2097151, 4194303, 8388607, 16777215, 33554431] [[], [0]] [.k 43 (.pointer (some ⟨B7_12, 1, none⟩)), .c 44 (vi 0), .k 45 (.bool false), .k 46 (.bool false), .u 47, .u 48, .u 49, .u 50, .u 51, .u 52, .u 53, .u 54, .u 55, .u 56, .u 57, .u 58, .u 59, .u 60, .u 61, .u 62, .u 63, .u 64, .u 65, .u 66, .k 67 (.bool false), .k 42 (.bool false)] [0] [1] [(42, 25, 1, 43), (0, 0, 25, 25)] hst47 ?_ fun W50 hst50 => ?_)))
    · refine ⟨?_, trivial⟩
      · exact xs4 rfl id fun cx => run_load1 rfl (by kernel_rfl) (cx.an 0) ((cx.bi 0 rfl).cell 1)
    refine then_normal (wcf rfl (wp_seq (sqr (sqp [.m 69 5, .e 70 (.bool (!(((⟨#[]⟩ : ByteArray)).toList == ((⟨#[]⟩ : ByteArray)).toList))) (.bool false) (congrArg Value.bool (by rw [hd35]; rfl)), .k 71 (.bool false)] ?_))))
    refine sqgn 71 [72, 73, 74] rfl rfl ?_
    refine sqp [.k 75 (.bool false), .k 76 (.bool false)] ?_
    refine sqgn 76 [77, 78, 79, 80] rfl rfl ?_
    refine sqp [.k 81 (.bool false), .k 68 (.bool false)] ?_
    refine then_normal (wcf rfl (wp_skip (blk_normal (then_normal (sqr (sqp [.k 82 (.pointer (some ⟨B7_12, 3, none⟩))] ?_))))))
    refine sqld 0 hst50 ?_
    refine sqp [.m 5 83] ?_
    refine blk_normal (then_normal (sqr (sqp [sI 84 ((0 : Int) + 1) (by omega), .m 11 84] ?_)))
    refine then_normal ?_
    refine ⟨1 - 1, by omega, ?_⟩
    exact ⟨1, by omega, rfl, (by kernel_rfl), hst50.pk []⟩
  refine wp_exit (then_exit (then_exit (blk_eq (then_normal (wp_seq (sqr (sqp [.m 85 0, .k 86 (vi 1), .k 87 (.bool true), .k 88 (.bool true)] ?_)))))))
  refine sqgy 88 [89, 90, 91] rfl rfl ?_
  refine sqp [.m 89 0, .k 90 (vi 1), .k 91 (.bool true)] ?_
  refine sqp [.k 92 (.bool true), .k 4 (.bool true)] ?_
  refine then_normal (wp_ret ?_)
  refine bpr (.bool true) (results_1 Try.results73 rpt) ?_
  exact Ret.of rfl hst6.ext
/-- a root without a high key or a right neighbour, at most one entry -/
def Node1 (nd : NoD) : Prop := nd.lv = 0 ∧ nd.right = -1 ∧ nd.high = ⟨#[]⟩ ∧ nd.dead = false ∧ nd.es.length ≤ 1
theorem kright_co {SA : Option Addr} {sc : Nat} {nd : NoD} {pg : Int} {fp : List Nat} {w : World} (h : (eCo SA nd pg fp).holds w) (h1 : Node1 nd) : Calls Try.prog 73 #[.slice SA 1 sc, .slice none 0 0] w (Ret (.bool true) w) := by
  obtain ⟨EA, ec, _, _, hS, hE⟩ := h
  obtain ⟨lv, rt, hg, dd, es, fr⟩ := nd
  obtain ⟨rfl, rfl, rfl, rfl, h5⟩ := h1
  exact kright_1 pg fr EA SA ec sc _ es w hE rfl h5 hS
theorem ndAt_neg (ps : List PgS) : ndAt ps (-1) = none := by rw [ndAt, if_neg (by omega)]
set_option maxRecDepth 100000 in
set_option maxHeartbeats 2000000 in
theorem kcheck_1 (tt : TypeId) (tv : Value) (root : Int) (ps : List PgS) (nd : NoD) (w : World) (hS : PgsOk w tt tv ps) (hok : OkS ps) (hoc : OkC ps) (hnd : ndAt ps root = some nd) (h1 : Node1 nd) :
    Calls Try.prog 37 #[.iface tt (tv), .int .i64 root] w (Ret (.int .i64 0) w) := by
  have hlv0 : nd.lv = 0 := h1.1
  go_enter Try.func37, Try.ntmps37
  have hst0 := St.start w
  refine wp_seq (sqr (sqp [.k 4 (vi 0)] ?_))
  refine then_normal (wp_seq (sqr (sqp [.m 11 0, .m 12 1] ?_)))
  refine sqk2 (fun EA13_4 ec13_4 => .tuple #[.agg #[vi root, vi nd.lv, vi nd.right, .string nd.high, .bool nd.dead, .slice EA13_4 nd.es.length ec13_4, vi ((nd.free : Int))], .bool true]) (fun EA13_4 ec13_4 => eO 104 3 (.slice EA13_4 nd.es.length ec13_4) nd.es.length (nd.es.flatMap enC)) hst0 (fun cx => ⟨_, (kd_yes hnd (kat_any _ _ ps root _ (hS.ext cx.upd.to_ext) hok hoc)).mono (by rintro e W1 ⟨EA4, ec4, rfl, hs4⟩; exact ⟨_, _, rfl, hs4⟩), (map2 (cx.ou 11) (cx.ou 12))⟩) fun EA13_4 ec13_4 W4 hst4 => ?_
  refine sqp [.m 10 13, .k 14 (.agg #[vi root, vi nd.lv, vi nd.right, .string nd.high, .bool nd.dead, .slice EA13_4 nd.es.length ec13_4, vi ((nd.free : Int))]), .k 15 (.bool true)] ?_
  refine sqal #[vi 0, vi 0, vi 0, .string ByteArray.empty, .bool false, .slice none 0 0, vi 0] hst4 fun B5_8 W8 hst8 => ?_
  refine sqst (n := 7) 1 #[vi root, vi nd.lv, vi nd.right, .string nd.high, .bool nd.dead, .slice EA13_4 nd.es.length ec13_4, vi ((nd.free : Int))] hst8 fun W9 hst9 => ?_
  refine sqp [.k 6 (.bool true)] ?_
  refine then_normal (wp_seq (wp_seq (sqr (sqp [.k 16 (.bool true), .k 17 (.bool false)] ?_))))
  refine then_normal (wcf rfl (wp_skip (then_normal (wp_seq (sqr (sqp [.k 7 (.slice none 0 0)] ?_))))))
  refine then_normal (wp_seq (wp_seq (sqr (sqp [.k 18 (.pointer (some ⟨B5_8, 1, none⟩))] ?_))))
  refine sqld 1 hst9 ?_
  refine sqp [sI 20 (nd.lv + 1) (by omega), .k 21 (vi 0)] ?_
  refine then_normal (wp_block ?_)
  obtain ⟨z18_, hN_z18_⟩ : ∃ z, nd.lv + 1 = z := ⟨_, rfl⟩
  rw [hN_z18_]
  obtain rfl : z18_ = (1 : Int) := by have := h1.1; omega
  refine wp_loopT (fun t_ mz az W => ∃ k : Nat, ∃ BA : Option Addr, ∃ bn : Nat, ∃ bc : Nat, k ≤ 1 ∧ (k = 0 → BA = none ∧ bn = 0 ∧ bc = 0) ∧ mz = 1 - k ∧ az = ⟨(ovr (jv az) [(4, 4, 1, []), (2, 7, 0, [.slice BA bn bc]), (0, 8, 2, []), (11, 21, 0, [vi ((k : Int))]), (0, 22, 33, [])] t_).toArray, []⟩ ∧ St w [] [eB B5_8 116 #[vi root, vi nd.lv, vi nd.right, .string nd.high, .bool nd.dead, .slice EA13_4 nd.es.length ec13_4, vi ((nd.free : Int))]] W) (1 - 0) ?_ ?_
  · -- the loop begins
    exact ⟨0, none, 0, 0, Nat.zero_le _, (fun _ => ⟨rfl, rfl, rfl⟩), rfl, (by kernel_rfl), hst9.pk [1]⟩
  rintro n19 a19 W19 ⟨k, BA, bn, bc, hk, hb, rfl, hj_, hst19⟩
  refine ovz hj_ fun u19_ => ?_
  refine wp_seq (sqr (sqp [.k 22 (.bool (decide ((k : Int) < (1 : Int))))] ?_))
  refine then_normal (wp_seq (wds (fun hs21 hs21p => ?_) fun hs21 hs21p => ?_))
  · refine wp_skip (then_normal (wp_seq (wp_block (wp_seq ?_))))
    obtain rfl : k = 0 := by omega
    obtain ⟨rfl, rfl, rfl⟩ := hb rfl
    refine sqr (sqp [.m 23 21, .m 8 23] ?_)
    refine then_normal (wp_seq (wp_region_Y [0, 0, 0, 7, 15, 31] [[], [], [], [], [1, 2, 3]] [[], [], [], [1, 2, 3], [4]] [] [.k 24 (.iface tt (tv)), .k 25 (vi root), .k 26 (vi ((0 : Int))), .a 27, .a 28, .a 9] (fun ix σ β X => match ix with | 0 => True | 1 => True | 2 => True | 3 => σ 27 = .func (.func 99) #[] #[vp (pcp 0 (β 27)), vp (pcp 1 (β 27)), vp (pcp 2 (β 27))] ∧ X 1 = eB (pcp 0 (β 27)) 113 #[.iface tt (tv)] ∧ X 2 = eB (pcp 1 (β 27)) 3 #[vi root] ∧ X 3 = eB (pcp 2 (β 27)) 3 #[vi ((0 : Int))] | 4 => σ 28 = .slice (sA (β 28)) 1 (sC (β 28)) ∧ X 4 = eCo (sA (β 28)) nd root ((X 4).fp) | 5 => σ 9 = .slice (sA (β 28)) 1 (sC (β 28)) | _ => True) [0, 1, 2, 3, 4] [3, 4, 5] [(9, 5, 1, 10), (14, 0, 5, 19)] hst19 ?_ ?_ ?_))
    · exact fun ix _ _ _ _ _ _ hs hb hx h => match ix, h with
      | 3, h => by dsimp only; rw [← hs 27 rfl, ← hb 27 rfl, ← hx 1 rfl, ← hx 2 rfl, ← hx 3 rfl]; exact h
      | 4, h => by dsimp only; rw [← hs 28 rfl, ← hb 28 rfl, ← hx 4 rfl]; exact h
      | 5, h => by dsimp only; rw [← hs 9 rfl, ← hb 28 rfl]; exact h
      | 0, _ | 1, _ | 2, _ | _ + 6, _ => trivial
    · refine ⟨?_, ?_, ?_, trivial⟩
      · refine svA fun ρ β W X cx => ?_
        refine DoesU.call (run_callF (args := #[.iface tt (tv), vi root, vi ((0 : Int))]) rfl cx.sees rfl (by kernel_rfl) (map3 (cx.an 0) (cx.an 1) (cx.an 2))) ?_
        refine (krowc_any tt tv root (0 : Int) _).mono ?_
        rintro e W1 ⟨B4, B5, B6, rfl, hs4⟩
        refine ⟨_, rfl, post_st [eB B4 113 #[.iface tt (tv)], eB B5 3 #[vi root], eB B6 3 #[vi ((0 : Int))]] rfl rfl hs4 (fun σ β' X' hs hb hv hN => ?_)⟩
        have hv1 := (hv 27 rfl).1; have hv2 := (hv 27 rfl).2
        exact ⟨hv1.trans (by rw [hv2]; rfl), (by rw [hv2]; exact (List.cons.inj hN).1), (by rw [hv2]; exact (List.cons.inj (List.cons.inj hN).2).1), (by rw [hv2]; exact (List.cons.inj (List.cons.inj (List.cons.inj hN).2).2).1)⟩
      · refine svA fun ρ β W X cx => ?_
        refine DoesU.call (run_callF (args := #[.func (.func 99) #[] #[vp (pcp 0 (β 27)), vp (pcp 1 (β 27)), vp (pcp 2 (β 27))]]) rfl cx.sees rfl (by kernel_rfl) (map1 (dTn (cx.an 3)).1)) ?_
        refine (kcol_any _ _ _ root nd _ (krow_seq (cx.blk (dTn (cx.an 3)).2.1 rfl) (cx.blk (dTn (cx.an 3)).2.2.1 rfl) (cx.blk (dTn (cx.an 3)).2.2.2 rfl) (hS.ext cx.upd.to_ext) hok hoc hnd h1.1 (by rw [h1.2.1]; exact ndAt_neg ps))).mono ?_
        rintro e W1 ⟨A4, c4, fp4, rfl, hs4⟩
        refine ⟨_, rfl, post_st [eCo A4 nd root fp4] rfl rfl hs4 (fun σ β' X' hs hb hv hN => ?_)⟩
        have hv1 := (hv 28 rfl).1; have hv2 := (hv 28 rfl).2
        exact ⟨hv1.trans (by rw [hv2]; rfl), (by rw [hv2]; exact eCo_self ((List.cons.inj hN).1))⟩
      · exact sv rfl rfl rfl rfl rfl _ (fun _ _ _ h => h) (fun β β' h => by rw [h 28 (by decide)]) fun ρ β W X cx => run_assign' rfl (dTn (cx.an 4)).1
    intro σ β X W24 hD hst24 fr hfr
    obtain ⟨B27a_24, hu_B27a_24⟩ : ∃ z, pcp 0 (β 27) = z := ⟨_, rfl⟩
    obtain ⟨B27b_24, hu_B27b_24⟩ : ∃ z, pcp 1 (β 27) = z := ⟨_, rfl⟩
    obtain ⟨B27c_24, hu_B27c_24⟩ : ∃ z, pcp 2 (β 27) = z := ⟨_, rfl⟩
    obtain ⟨A28_24, hu_A28_24⟩ : ∃ z, sA (β 28) = z := ⟨_, rfl⟩
    obtain ⟨c28_24, hu_c28_24⟩ : ∃ z, sC (β 28) = z := ⟨_, rfl⟩
    have xX4 : X 4 = _ := (dTn (hD 4 lq)).2
    obtain ⟨r4_24, hu_r4_24⟩ : ∃ z, (X 4).fp = z := ⟨_, rfl⟩
    rw [hu_r4_24] at xX4
    clear hu_r4_24
    simp only [exq 1 ((dTn (hD 3 lq)).2.1), exq 2 ((dTn (hD 3 lq)).2.2.1), exq 3 ((dTn (hD 3 lq)).2.2.2), xX4, hu_B27a_24, hu_B27b_24, hu_B27c_24, hu_A28_24, hu_c28_24] at hst24
    simp only [ed 27 ((dTn (hD 3 lq)).1), ed 28 ((dTn (hD 4 lq)).1), ed 9 ((dTn (hD 5 lq))), hu_B27a_24, hu_B27b_24, hu_B27c_24, hu_A28_24, hu_c28_24] at hfr
    clear hD xX4 hu_B27a_24 hu_B27b_24 hu_B27c_24 hu_A28_24 hu_c28_24; subst hfr; clear σ β X
    refine then_normal (wp_seq (wp_seq (sqr (sqp [.m 29 8, .k 30 (.pointer (some ⟨B5_8, 1, none⟩))] ?_))))
    refine sqld 0 hst24 ?_
    have hd29 : ((0 : Int) == nd.lv) = true := (by rw [h1.1]; rfl)
    refine sqp [.e 32 (.bool ((0 : Int) == nd.lv)) (.bool true) (congrArg Value.bool hd29), .k 33 (.bool true)] ?_
    refine sqgy 33 [34, 35, 36] rfl rfl ?_
    refine sqp [.m 34 9, .k 35 (vi 1), .k 36 (.bool false)] ?_
    refine sqp [.k 37 (.bool false), .k 38 (.bool false)] ?_
    refine sqgy 38 [39, 40, 41, 42, 43, 44, 45] rfl rfl ?_
    have hd38 : (decide (0 < (0 : Int))) = false := rfl
    refine sqp [.m 39 8, .e 40 (.bool (decide (0 < (0 : Int)))) (.bool false) (congrArg Value.bool hd38), .k 41 (.bool false)] ?_
    refine sqgn 41 [42, 43, 44] rfl rfl ?_
    refine sqp [.k 45 (.bool false)] ?_
    refine sqp [.k 46 (.bool false), .k 47 (.bool false)] ?_
    refine sqgy 47 [48, 49, 50, 51] rfl rfl ?_
    refine sqp [.m 48 9, .m 49 7] ?_
    refine sqk (.bool true) hst24 (fun cx => ⟨_, kright_co (CtxV.holdF cx (cx.init 4 _ rfl) rfl) h1, (map2 (cx.ou 48) (cx.ou 49))⟩) fun W45 hst45 => ?_
    refine sqp [.k 51 (.bool false)] ?_
    refine sqp [.k 52 (.bool false)] ?_
    refine then_normal (wcf rfl (wp_skip (then_normal (sqr (sqp [.m 53 9, .m 7 53] ?_)))))
    refine blk_normal (then_normal (sqr (sqp [sI 54 ((0 : Int) + 1) (by omega), .m 21 54] ?_)))
    refine then_normal ?_
    refine ⟨1 - 1, by omega, ?_⟩
    exact ⟨1, A28_24, 1, c28_24, by omega, (fun h => absurd h (by decide)), rfl, (by kernel_rfl), hst45.pk [0]⟩
  refine wp_exit (then_exit (then_exit (blk_eq (then_normal (wp_seq (sqr (sqp [.k 4 (vi 0)] ?_)))))))
  refine then_normal (wp_ret ?_)
  refine bpr (vi 0) (results_1 Try.results37 rpt) ?_
  exact Ret.of rfl hst19.ext
end
end Go.Proofs.Ytjlcoglmjldjbaa
namespace Go.Proofs.Ytjlcoglmjldjbaa
section
open Go.RowKit
set_option linter.unusedVariables false
set_option linter.unusedSimpArgs false
theorem book_ok {b : Nat} {ps : List PgS} {w : World} (h : BkAt w b ps) (hl : ps.length ≤ 1000) : PgsOk w 24 (.pointer (some ⟨b, 0, none⟩)) ps :=
  ⟨⟨58, _, fun W => by kernel_rfl, by kernel_rfl, fun x => rpage_any b ps x w h hl⟩⟩
theorem kstep_pk {b bk : Nat} {ps : List PgS} {p : PuT} {fresh : Int} {fp : List Nat} {w : World} (h : (ePk b p fp).holds w) (hB : BkU fp w bk ps) (hne : p.left ≠ []) (hok : OkS ps) (hoc : OkC ps) (h10 : p.left.length ≤ 10000) (hte : ∀ t ∈ p.left, t.1.size ≤ 900000 ∧ 0 ≤ t.2.1 ∧ t.2.1 ≤ 90000) (h8 : ∀ nd, ndAt ps p.pos = some nd → nd.es.length < 8) :
    Calls Try.prog 16 #[.pointer (some ⟨b, 0, none⟩), .iface 24 (.pointer (some ⟨bk, 0, none⟩)), .int .i64 fresh] w (KtPost b (stepF ps p fresh) fp w) := by
  obtain ⟨A, c, g, hfp, hbg, hc, hAg, hlt, hb, hA⟩ := h
  obtain ⟨root, pos, leaf, left, fro, to, spl⟩ := p
  cases left with
  | nil => exact absurd rfl hne
  | cons t lf =>
    obtain ⟨te, tl, tk⟩ := t
    obtain ⟨la, rfl, _, _⟩ := hA 0 (.string te) rfl
    have hg := hAg la rfl (by simp)
    have ht := hte (te, tl, tk) (by simp)
    obtain ⟨LA, lcc, Ps, h1, h2⟩ := hB
    refine kstep_s b _ _ root pos leaf fro to spl la _ c te tl tk lf ps fresh fp g w hb (fun W hW => ?_) rfl hc h10 (fun W hW => book_ok ⟨LA, lcc, Ps, h1, h2 W (hW.mono fun k _ hk => by rw [hfp, List.mem_singleton.1 hk]; simp)⟩ hok.len) hok hoc hfp hbg hlt hg ht.1 ht.2 h8
    refine at_blocks hA fun ad e _ => ?_
    rw [← Option.some.inj e]
    exact hW.block _ (hlt _ hg) (fun hm => hbg (by rw [List.mem_singleton] at hm; exact hm ▸ hg))
theorem kdone_t {b : Nat} {p : PuT} {fp : List Nat} {w : World} (h : (ePk b p fp).holds w) (h0 : p.left = []) : Calls Try.prog 21 #[.pointer (some ⟨b, 0, none⟩)] w (Ret (.bool true) w) := by
  have h1 := kdone_pk h
  rw [h0] at h1
  exact h1
/-- the book of the example -/
def sanB : List PgS := doB (blankF 4) (begF 3)
def sanK : ByteArray := ⟨#[97, 98]⟩
def sanX : ByteArray := ⟨#[97, 98, 0, 1, 0, 2]⟩
theorem sanB_eq : sanB = [(2, 0, [⟨#[0, 0, 0, 0]⟩]), (0, 0, []), (0, 0, []), (2, 0, [⟨#[0, 0, 0, 0]⟩])] := by kernel_rfl
theorem sanB_ok : OkS sanB := by
  rw [sanB_eq]
  refine ⟨by decide, fun p hp => ?_, fun p hp s hs => ?_⟩
  · simp only [List.mem_cons, List.not_mem_nil, or_false] at hp
    rcases hp with rfl | rfl | rfl | rfl <;> decide
  · simp only [List.mem_cons, List.not_mem_nil, or_false] at hp
    rcases hp with rfl | rfl | rfl | rfl <;> simp at hs <;> subst hs <;> decide
theorem sanB_c : OkC sanB := by
  rw [sanB_eq]
  intro p hp
  simp only [List.mem_cons, List.not_mem_nil, or_false] at hp
  rcases hp with rfl | rfl | rfl | rfl <;> decide
def sanN : NoD := ⟨0, -1, ⟨#[]⟩, false, [], 1⟩
theorem sanB_nd : ndAt sanB 3 = some sanN := by kernel_rfl
theorem sanN_1 : Node1 sanN := ⟨rfl, rfl, rfl, rfl, by decide⟩
def sanP : PuT := ⟨3, 3, 3, [], 0, 0, false⟩
theorem san_step : stepF sanB (putT 3 sanK 1 2) (-1) = (sanP, ⟨[(3, 1, sanX)], false, 0⟩) := by kernel_rfl
theorem kt_to {P : Program} {f : FuncId} {args : Array Value} {w : World} {b : Nat} {fp : List Nat} {R R' : PuT × GoT} (hR : R = R') (hc : Calls P f args w (KtPost b R fp w)) : Calls P f args w (KtPost b R' fp w) := hR ▸ hc
theorem at_to {w : World} {A : Option Addr} {xs ys : List Value} (h : At w A xs) (e : xs = ys) : At w A ys := e ▸ h
set_option maxRecDepth 100000 in
set_option maxHeartbeats 2000000 in
theorem sanity10_any  (w : World) :
    Calls Try.prog 10 #[] w (Ret (.bool true) w) := by
  go_enter Try.func10, Try.ntmps10
  have hst0 := St.start w
  refine wp_seq (sqr (sqp [.k 0 (.bool false)] ?_))
  refine then_normal (wp_seq (sqr ?_))
  refine sqk1s (fun B9_2 => vp B9_2) (fun B9_2 r0_2 => eBk B9_2 (blankF 4) r0_2) hst0 (fun cx => ⟨_, (rblank_any 4 _ (by decide)).mono (by rintro e W1 ⟨B4, fp4, rfl, hs4⟩; exact ⟨_, _, rfl, hs4⟩), (map1 (cx.co _))⟩) fun B9_2 r0_2 W2 hst2 => ?_
  refine sqp [.m 1 9] ?_
  refine then_normal (wp_seq (wp_region_Y [0, 0, 2, 6, 0, 16, 48, 126, 255, 511] [[], [], [2], [], [], [3], [], [], [1, 4]] [[1], [2], [], [], [3], [], [], [4]] [] [.a 10, .a 11, .c 12 (.string (strOfNums ([2]))), .k 13 (.agg #[vi 3, vi (-1), .string (strOfNums ([2]))]), .a 14, .c 15 (.string (strOfNums ([0, 0, 0, 0]))), .k 16 (.agg #[vi 3, vi 0, .string (strOfNums ([0, 0, 0, 0]))]), .a 17, .c 18 (.bool true), .k 2 (.bool true)] (fun ix σ β X => match ix with | 0 => σ 10 = .slice (sA (β 10)) 2 (sC (β 10)) ∧ X 1 = eO 99 3 (.slice (sA (β 10)) 2 (sC (β 10))) 2 ((begF 3).flatMap edC) | 1 => σ 11 = .slice (sA (β 11)) 1 1 ∧ X 2 = eO 5 1 (.slice (sA (β 11)) 1 1) 1 ([.int .u8 2]) | 2 => True | 3 => True | 4 => σ 14 = .slice (sA (β 14)) 4 4 ∧ X 3 = eO 5 1 (.slice (sA (β 14)) 4 4) 4 ([.int .u8 0, .int .u8 0, .int .u8 0, .int .u8 0]) | 5 => True | 6 => True | 7 => σ 17 = .slice ((some ⟨(pb' (β 17)), 0, none⟩)) 2 2 ∧ X 4 = eO 99 3 (.slice ((some ⟨(pb' (β 17)), 0, none⟩)) 2 2) 2 ([vi 3, vi (-1), .string (strOfNums ([2])), vi 3, vi 0, .string (strOfNums ([0, 0, 0, 0]))]) | _ => True) [0, 1, 2, 3, 4] [0, 1, 2, 4, 5, 7, 8] [(2, 9, 1, 3), (7, 0, 9, 16)] hst2 ?_ ?_ ?_))
  · exact fun ix _ _ _ _ _ _ hs hb hx h => match ix, h with
    | 0, h => by dsimp only; rw [← hs 10 rfl, ← hb 10 rfl, ← hx 1 rfl]; exact h
    | 1, h => by dsimp only; rw [← hs 11 rfl, ← hb 11 rfl, ← hx 2 rfl]; exact h
    | 4, h => by dsimp only; rw [← hs 14 rfl, ← hb 14 rfl, ← hx 3 rfl]; exact h
    | 7, h => by dsimp only; rw [← hs 17 rfl, ← hb 17 rfl, ← hx 4 rfl]; exact h
    | 2, _ | 3, _ | 5, _ | 6, _ | _ + 8, _ => trivial
  · refine ⟨?_, ?_, ?_, ?_, ?_, ?_, ?_, trivial⟩
    · refine svA fun ρ β W X cx => ?_
      refine DoesU.call (run_callF (args := #[vi 3]) rfl cx.sees rfl (by kernel_rfl) (map1 (cx.co _))) ?_
      refine (kbegin_any 3 _).mono ?_
      rintro e W1 ⟨A4, c4, rfl, ho_, hx⟩
      refine ⟨_, rfl, post_call [eO 99 3 (.slice A4 2 c4) 2 ((begF 3).flatMap edC)] rfl rfl hx (one_new (eO_new (n := 2) (xs := (begF 3).flatMap edC) ho_)) (List.pairwise_singleton _ _) (fun σ β' X' hs hb hv hN => ?_)⟩
      have hv1 := (hv 10 rfl).1; have hv2 := (hv 10 rfl).2
      exact ⟨hv1.trans (by rw [hv2]; rfl), (by rw [hv2]; exact (List.cons.inj hN).1)⟩
    · refine svA fun ρ β W X cx => ?_
      exact dv_lit (e := 5) (xs := [.int .u8 2]) rfl (by simp [go_sem, cx.sees.const]) rfl (by decide) rfl rfl (fun σ β' X' hs hb hv hx => ⟨hv, hx⟩)
    · exact xs4 rfl id fun cx => run_convB (e := 5) rfl (by kernel_rfl) (by kernel_rfl) (by kernel_rfl) (dTn (cx.an 1)).1 (cx.row (dTn (cx.an 1)).2 rfl)
    · refine svA fun ρ β W X cx => ?_
      exact dv_lit (e := 5) (xs := [.int .u8 0, .int .u8 0, .int .u8 0, .int .u8 0]) rfl (by simp [go_sem, cx.sees.const]) rfl (by decide) rfl rfl (fun σ β' X' hs hb hv hx => ⟨hv, hx⟩)
    · exact xs4 rfl id fun cx => run_convB (e := 5) rfl (by kernel_rfl) (by kernel_rfl) (by kernel_rfl) (dTn (cx.an 4)).1 (cx.row (dTn (cx.an 4)).2 rfl)
    · refine svA fun ρ β W X cx => ?_
      have fF13 : ρ (.tmp 13) = .agg #[vi 3, vi (-1), .string (strOfNums ([2]))] := (cx.an 3)
      have fF16 : ρ (.tmp 16) = .agg #[vi 3, vi 0, .string (strOfNums ([0, 0, 0, 0]))] := (cx.an 6)
      exact dv_litN (e := 99) (sz := 3) (xs := [vi 3, vi (-1), .string (strOfNums ([2])), vi 3, vi 0, .string (strOfNums ([0, 0, 0, 0]))]) rfl (by simp [go_sem, fF13, fF16]) rfl (by decide) rfl rfl (fun σ β' X' hs hb hv hx => ⟨hv, hx⟩)
    · exact xsc rfl id rfl rfl fun cx => ⟨_, rsame_any _ _ _ _ (begF 3) _ (at_to (At.of_ownN (cx.row (dTn (cx.an 0)).2 rfl)) (by kernel_rfl)) (at_to (At.of_ownN (cx.row (dTn (cx.an 7)).2 rfl)) (by kernel_rfl)) (by decide), (map2 (dTn (cx.an 0)).1 (dTn (cx.an 7)).1)⟩
  intro σ β X W4 hD hst4 fr hfr
  obtain ⟨A10_4, hu_A10_4⟩ : ∃ z, sA (β 10) = z := ⟨_, rfl⟩
  obtain ⟨c10_4, hu_c10_4⟩ : ∃ z, sC (β 10) = z := ⟨_, rfl⟩
  obtain ⟨A11_4, hu_A11_4⟩ : ∃ z, sA (β 11) = z := ⟨_, rfl⟩
  obtain ⟨A14_4, hu_A14_4⟩ : ∃ z, sA (β 14) = z := ⟨_, rfl⟩
  obtain ⟨B17_4, hu_B17_4⟩ : ∃ z, pb' (β 17) = z := ⟨_, rfl⟩
  simp only [exq 1 ((dTn (hD 0 lq)).2), exq 2 ((dTn (hD 1 lq)).2), exq 3 ((dTn (hD 4 lq)).2), exq 4 ((dTn (hD 7 lq)).2), hu_A10_4, hu_c10_4, hu_A11_4, hu_A14_4, hu_B17_4] at hst4
  simp only [ed 10 ((dTn (hD 0 lq)).1), ed 11 ((dTn (hD 1 lq)).1), ed 14 ((dTn (hD 4 lq)).1), ed 17 ((dTn (hD 7 lq)).1), hu_A10_4, hu_c10_4, hu_A11_4, hu_A14_4, hu_B17_4] at hfr
  clear hD hu_A10_4 hu_c10_4 hu_A11_4 hu_A14_4 hu_B17_4; subst hfr; clear σ β X
  refine then_normal (wp_seq (sqr (sqp [.m 19 1] ?_)))
  refine sqk2 (fun A20_6 c20_6 => .slice A20_6 2 c20_6) (fun A20_6 c20_6 => eO 99 3 (.slice A20_6 2 c20_6) 2 ((begF 3).flatMap edC)) hst4 (fun cx => ⟨_, (kbegin_any 3 _).mono (by rintro e W1 ⟨A4, c4, rfl, ho_, hx⟩; exact ⟨_, _, rfl, St.one hx (eO_new (n := 2) (xs := (begF 3).flatMap edC) ho_)⟩), (map1 (cx.co _))⟩) fun A20_6 c20_6 W6 hst6 => ?_
  refine sqc0s (fun X_ => X_.fp) (.tuple #[]) (fun r6_7 => eBk B9_2 (doB (blankF 4) (begF 3)) r6_7) 0 hst6 (by
      refine svA fun ρ β W X cx => ?_
      refine DoesU.call (run_callF (args := #[vp B9_2, .slice A20_6 2 c20_6]) rfl cx.sees rfl (by kernel_rfl) (map2 (cx.ou 19) (cx.ou 20))) ?_
      refine (rdo_any B9_2 (blankF 4) _ 4 _ _ (begF 3) _ (CtxV.holdF cx (cx.init 0 _ rfl) rfl) (CtxV.ltF cx (cx.init 0 _ rfl) rfl) (CtxV.keepAt cx (cx.init 5 _ rfl) (cx.init 0 _ rfl) rfl rfl (by decide)) (by decide) (blank_sz 4).2 (by decide) (blank_sz 4).1.its).mono ?_
      rintro e W1 ⟨rfl, fp4, hs4⟩
      refine ⟨_, rfl, post_obj (E := eBk B9_2 (blankF 4) r0_2) [eBk B9_2 (doB (blankF 4) (begF 3)) fp4] (cx.init 0 _ rfl) rfl rfl hs4 (fun σ β' X' hs hb hv hN => ?_)⟩
      have hv1 := (hv 21 rfl).1; have hv2 := (hv 21 rfl).2
      exact ⟨hv1.trans rfl, eBk_self ((List.cons.inj hN).1)⟩) fun r6_7 W7 hst7 => ?_
  refine then_normal (wp_seq ?_)
  have hsb_ : doB (blankF 4) (begF 3) = sanB := rfl
  rw [hsb_] at hst7
  refine sqr (sqp [.k 22 (.agg #[vi 1, vi 2])] ?_)
  refine sqk1s (fun B23_9 => vp B23_9) (fun B23_9 r6_9 => ePk B23_9 (putT 3 (⟨#[97, 98]⟩ : ByteArray) 1 2) r6_9) hst7 (fun cx => ⟨_, (kgrowN_any 3 (⟨#[97, 98]⟩ : ByteArray) 1 2 _ (by decide)).mono (by rintro e W1 ⟨B4, fp4, rfl, hs4⟩; exact ⟨_, _, rfl, hs4⟩), (map3 (cx.co _) (cx.co _) (cx.ou 22))⟩) fun B23_9 r6_9 W9 hst9 => ?_
  refine sqp [.m 3 23] ?_
  refine then_normal (wp_seq (wp_seq (sqr (sqp [.m 24 3] ?_))))
  refine sqv (.bool false) hst9 (by
      exact sv0 rfl rfl rfl rfl rfl (fun _ _ _ h => h) fun ρ β W X cx => by
        have fF24 : ρ (.tmp 24) = vp B23_9 := (cx.ou 24)
        simp [go_sem, cx.sees.const, fF24]) fun W12 hst12 => ?_
  refine then_normal (wcf rfl (wp_skip (then_normal (wp_seq (wp_region_Y [0, 0, 2, 7, 15, 31, 31, 31, 63, 383, 1023] [[], [], [], [6, 0]] [[], [], [], [7, 8]] [[], [], [], [6]] [.k 27 (vp B23_9), .k 28 (vp B9_2), .c 29 (.iface 24 (vp B9_2)), .a 30, .a 26, .a 31, .c 32 (.bool false), .c 33 (vi 0), .a 4, .k 5 (.bool false), .k 6 (vi 0)] (fun ix σ β X => match ix with | 0 => True | 1 => True | 2 => True | 3 => σ 30 = .tuple #[.slice (sA (tg (β 30) 0)) 1 (sC (tg (β 30) 0)), .bool false, vi 0] ∧ X 7 = ePk B23_9 sanP ((X 7).fp) ∧ X 8 = eO 99 3 (.slice (sA (tg (β 30) 0)) 1 (sC (tg (β 30) 0))) 1 ([(3, 1, sanX)].flatMap edC) | 4 => σ 26 = .tuple #[.slice (sA (tg (β 30) 0)) 1 (sC (tg (β 30) 0)), .bool false, vi 0] | 5 => σ 31 = .slice (sA (tg (β 30) 0)) 1 (sC (tg (β 30) 0)) | 6 => True | 7 => True | 8 => σ 4 = .slice (sA (tg (β 30) 0)) 1 (sC (tg (β 30) 0)) | _ => True) [0, 1, 2, 3, 4, 5, 7, 8] [2, 3, 4, 5, 6, 7, 8] [(4, 8, 3, 7), (19, 4, 1, 20), (0, 0, 4, 4), (0, 5, 3, 3)] hst12 ?_ ?_ ?_)))))
  · exact fun ix _ _ _ _ _ _ hs hb hx h => match ix, h with
    | 3, h => by dsimp only; rw [← hs 30 rfl, ← hb 30 rfl, ← hx 7 rfl, ← hx 8 rfl]; exact h
    | 4, h => by dsimp only; rw [← hs 26 rfl, ← hb 30 rfl]; exact h
    | 5, h => by dsimp only; rw [← hs 31 rfl, ← hb 30 rfl]; exact h
    | 8, h => by dsimp only; rw [← hs 4 rfl, ← hb 30 rfl]; exact h
    | 0, _ | 1, _ | 2, _ | 6, _ | 7, _ | _ + 9, _ => trivial
  · refine ⟨?_, ?_, ?_, ?_, ?_, ?_, ?_, trivial⟩
    · exact sv0 rfl rfl rfl rfl rfl (fun _ _ _ h => h) fun ρ β W X cx => by
        have fF28 : ρ (.tmp 28) = vp B9_2 := (cx.an 1)
        simp [go_sem, fF28]
    · refine svA fun ρ β W X cx => ?_
      refine DoesU.call (run_callF (args := #[vp B23_9, .iface 24 (vp B9_2), vi (-1)]) rfl cx.sees rfl (by kernel_rfl) (map3 (cx.an 0) (cx.an 2) (cx.co _))) ?_
      refine (kt_to san_step (kstep_pk (fresh := -1) (CtxV.holdF cx (cx.init 6 _ rfl) rfl) (CtxV.bkU cx (cx.init 0 _ rfl) (cx.init 6 _ rfl) rfl rfl (by decide)) (by decide) sanB_ok sanB_c (by decide) (fun t ht => by rw [putT, List.mem_singleton] at ht; subst ht; decide) (fun nd h => by have h_ := sanB_nd.symm.trans h; rw [← Option.some.inj h_]; decide))).mono ?_
      rintro e W1 ⟨A4, c4, rfl, fp4, hs4⟩
      refine ⟨_, rfl, post_obj (E := ePk B23_9 (putT 3 (⟨#[97, 98]⟩ : ByteArray) 1 2) r6_9) [ePk B23_9 sanP fp4, eO 99 3 (.slice A4 1 c4) 1 ([(3, 1, sanX)].flatMap edC)] (cx.init 6 _ rfl) rfl rfl hs4 (fun σ β' X' hs hb hv hN => ?_)⟩
      have hv1 := (hv 30 rfl).1; have hv2 := (hv 30 rfl).2
      exact ⟨hv1.trans (by rw [hv2]; rfl), ePk_self ((List.cons.inj hN).1), (by rw [hv2]; exact (List.cons.inj (List.cons.inj hN).2).1)⟩
    · exact sv rfl rfl rfl rfl rfl _ (fun _ _ _ h => h) (fun β β' h => by rw [h 30 (by decide)]) fun ρ β W X cx => run_move' rfl (dTn (cx.an 3)).1
    · exact sv rfl rfl rfl rfl rfl _ (fun _ _ _ h => h) (fun β β' h => by rw [h 30 (by decide)]) fun ρ β W X cx => run_extract' rfl (dTn (cx.an 4)) rfl
    · exact xs4 rfl id fun cx => run_extract' rfl (dTn (cx.an 4)) rfl
    · exact xs4 rfl id fun cx => run_extract' rfl (dTn (cx.an 4)) rfl
    · exact sv rfl rfl rfl rfl rfl _ (fun _ _ _ h => h) (fun β β' h => by rw [h 30 (by decide)]) fun ρ β W X cx => run_assign' rfl (dTn (cx.an 5))
  intro σ β X W13 hD hst13 fr hfr
  obtain ⟨A30_13, hu_A30_13⟩ : ∃ z, sA (tg (β 30) 0) = z := ⟨_, rfl⟩
  obtain ⟨c30_13, hu_c30_13⟩ : ∃ z, sC (tg (β 30) 0) = z := ⟨_, rfl⟩
  have xX7 : X 7 = _ := (dTn (hD 3 lq)).2.1
  obtain ⟨r7_13, hu_r7_13⟩ : ∃ z, (X 7).fp = z := ⟨_, rfl⟩
  rw [hu_r7_13] at xX7
  clear hu_r7_13
  simp only [xX7, exq 8 ((dTn (hD 3 lq)).2.2), hu_A30_13, hu_c30_13] at hst13
  simp only [ed 30 ((dTn (hD 3 lq)).1), ed 26 ((dTn (hD 4 lq))), ed 31 ((dTn (hD 5 lq))), ed 4 ((dTn (hD 8 lq))), hu_A30_13, hu_c30_13] at hfr
  clear hD xX7 hu_A30_13 hu_c30_13; subst hfr; clear σ β X
  refine then_normal (wp_seq (sqr ?_))
  refine sqn1 (fun x_ => sA x_) (fun A34_14 => .slice A34_14 4 4) (fun A34_14 => eO 5 1 (.slice A34_14 4 4) 4 ([.int .u8 0, .int .u8 1, .int .u8 0, .int .u8 2])) hst13 (by
      refine svA fun ρ β W X cx => ?_
      exact dv_lit (e := 5) (xs := [.int .u8 0, .int .u8 1, .int .u8 0, .int .u8 2]) rfl (by simp [go_sem, cx.sees.const]) rfl (by decide) rfl rfl (fun σ β' X' hs hb hv hx => ⟨hv, hx⟩)) fun A34_14 W14 hst14 => ?_
  refine sql (.string (strOfNums ([0, 1, 0, 2]))) hst14 (fun cx => run_convB (e := 5) rfl (by kernel_rfl) (by kernel_rfl) (by kernel_rfl) (cx.ou 34) (cx.ri 8 rfl)) ?_
  refine sqp [sS 36 ((⟨#[97, 98]⟩ : ByteArray)) (strOfNums ([0, 1, 0, 2])) (by rw [strOfNums_size]; decide), .m 7 36] ?_
  refine then_normal (wp_seq (sqr (sqp [.m 37 4, .m 38 7, .k 39 (.agg #[vi 3, vi 1, .string (((⟨#[97, 98]⟩ : ByteArray)) ++ (strOfNums ([0, 1, 0, 2])))])] ?_)))
  refine sqli 99 3 1 [vi 3, vi 1, .string (((⟨#[97, 98]⟩ : ByteArray)) ++ (strOfNums ([0, 1, 0, 2])))] hst14 (@fun ρ β W X cx => by have fF39 : ρ (.tmp 39) = .agg #[vi 3, vi 1, .string (((⟨#[97, 98]⟩ : ByteArray)) ++ (strOfNums ([0, 1, 0, 2])))] := (cx.ou 39); simp [go_sem, fF39]) fun B40_21 W21 hst21 => ?_
  refine sqk (.bool true) hst21 (fun cx => ⟨_, rsame_any _ _ _ _ [(3, 1, sanX)] _ (at_to (At.of_ownN (cx.ri 7 rfl)) (by kernel_rfl)) (at_to (At.of_ownN (cx.ri 9 rfl)) (by kernel_rfl)) (by decide), (map2 (cx.ou 37) (cx.ou 40))⟩) fun W22 hst22 => ?_
  refine sqp [.k 8 (.bool true)] ?_
  refine then_normal (wp_seq (sqr (sqp [.k 42 (.bool true), .k 43 (.bool true)] ?_)))
  refine sqgy 43 [44] rfl rfl ?_
  refine sqp [.k 44 (.bool true)] ?_
  refine sqp [.k 45 (.bool true), .k 46 (.bool true)] ?_
  refine sqgy 46 [47, 48] rfl rfl ?_
  refine sqp [.k 47 (.bool false), .k 48 (.bool true)] ?_
  refine sqp [.k 49 (.bool true), .k 50 (.bool true)] ?_
  refine sqgy 50 [51, 52] rfl rfl ?_
  refine sqp [.m 51 6, .k 52 (.bool true)] ?_
  refine sqp [.k 53 (.bool true), .k 54 (.bool true)] ?_
  refine sqgy 54 [55, 56] rfl rfl ?_
  refine sqp [.m 55 3] ?_
  refine sqk (.bool true) hst22 (fun cx => ⟨_, kdone_t (CtxV.holdF cx (cx.init 6 _ rfl) rfl) rfl, (map1 (cx.ou 55))⟩) fun W38 hst38 => ?_
  refine sqp [.k 57 (.bool true), .k 58 (.bool true)] ?_
  refine sqgy 58 [59, 60, 61] rfl rfl ?_
  refine sqp [.m 59 3] ?_
  refine sqk (vi 3) hst38 (fun cx => ⟨_, kleaf_pk (CtxV.holdF cx (cx.init 6 _ rfl) rfl), (map1 (cx.ou 59))⟩) fun W42 hst42 => ?_
  refine sqp [.k 61 (.bool true)] ?_
  refine sqp [.k 62 (.bool true), .k 63 (.bool true)] ?_
  refine sqgy 63 [64, 65, 66, 67] rfl rfl ?_
  refine sqp [.k 64 (.agg #[vi 1, vi 2])] ?_
  refine sqk (.string ((entF sanK 1 2))) hst42 (fun cx => ⟨_, kentry_any sanK 1 2 _ (by decide), (map2 (cx.co _) (cx.ou 64))⟩) fun W47 hst47 => ?_
  have hd50 : (((entF sanK 1 2)).toList == (((⟨#[97, 98]⟩ : ByteArray)) ++ (strOfNums ([0, 1, 0, 2]))).toList) = true := (by kernel_rfl)
  refine sqp [.m 66 7, .e 67 (.bool (((entF sanK 1 2)).toList == (((⟨#[97, 98]⟩ : ByteArray)) ++ (strOfNums ([0, 1, 0, 2]))).toList)) (.bool true) (congrArg Value.bool hd50)] ?_
  refine sqp [.k 68 (.bool true), .k 69 (.bool true)] ?_
  refine sqgy 69 [70, 71, 72, 73] rfl rfl ?_
  refine sqp [.m 70 1] ?_
  refine sqv (.iface 24 (vp B9_2)) hst47 (by
      exact sv0 rfl rfl rfl rfl rfl (fun _ _ _ h => h) fun ρ β W X cx => by
        have fF70 : ρ (.tmp 70) = vp B9_2 := (cx.ou 70)
        simp [go_sem, fF70]) fun W54 hst54 => ?_
  refine sqk (vi 0) hst54 (fun cx => ⟨_, kcheck_1 _ _ 3 sanB sanN _ (book_ok (eBk_at (CtxV.holdF cx (cx.init 0 _ rfl) rfl)) sanB_ok.len) sanB_ok sanB_c sanB_nd sanN_1, (map2 (cx.ou 71) (cx.co _))⟩) fun W55 hst55 => ?_
  refine sqp [.k 73 (.bool true)] ?_
  refine sqp [.k 74 (.bool true), .k 0 (.bool true)] ?_
  refine then_normal (wp_ret ?_)
  refine bpr (.bool true) (results_1 Try.results10 rpt) ?_
  exact Ret.of rfl hst55.ext
end
end Go.Proofs.Ytjlcoglmjldjbaa
namespace Go.Proofs.Ytjlcoglmjldjbaa
section
open Go.RowKit
set_option linter.unusedVariables false
set_option linter.unusedSimpArgs false
set_option maxRecDepth 100000 in
set_option maxHeartbeats 2000000 in
theorem kstep_0 (b : Nat) (root pos leaf fro to : Int) (spl : Bool) (LA : Option Addr) (lc : Nat) (tt : TypeId) (tv : Value) (ps : List PgS) (fresh : Int) (fp g : List Nat) (w : World) (hb : Blk w b 109 #[.int .i64 root, .int .i64 pos, .int .i64 leaf, .slice LA 0 lc, .int .i64 fro, .int .i64 to, .bool spl]) (hfp : fp = b :: g) (hbg : b ∉ g) (hlt : ∀ k ∈ g, k < w.heap.size) :
    Calls Try.prog 16 #[.pointer (some ⟨b, 0, none⟩), .iface tt (tv), .int .i64 fresh] w (KtPost b (stepF ps ⟨root, pos, leaf, [], fro, to, spl⟩ fresh) fp w) := by
  have st0 := St.lend (E := eB b 109 #[.int .i64 root, .int .i64 pos, .int .i64 leaf, .slice LA 0 lc, .int .i64 fro, .int .i64 to, .bool spl]) hb (eB_loc _ _ _) (fun k hk => by simp [eB] at hk; subst hk; exact hb.lt)
  go_enter Try.func16, Try.ntmps16
  have hst0 := st0
  refine wp_seq (sqr (sqp [.k 6 (.slice none 0 0), .k 7 (.bool false), .k 8 (vi 0)] ?_))
  refine then_normal (wp_seq (wp_seq (sqr (sqp [.m 14 0] ?_))))
  refine sqv (.bool false) hst0 (by
      exact sv0 rfl rfl rfl rfl rfl (fun _ _ _ h => h) fun ρ β W X cx => by
        have fF14 : ρ (.tmp 14) = vp b := (cx.ou 14)
        simp [go_sem, cx.sees.const, fF14]) fun W5 hst5 => ?_
  refine then_normal (wcf rfl (wp_skip (then_normal (wp_seq (sqr (sqp [.m 16 0, .m 17 0, .m 18 0, .k 19 (vp b), .k 20 (.pointer (some ⟨b, 4, none⟩))] ?_))))))
  refine sqst (n := 1) 0 #[vi root, vi pos, vi leaf, .slice LA 0 lc, vi 0, vi to, .bool spl] hst5 fun W11 hst11 => ?_
  refine sqp [.k 21 (vp b), .k 22 (.pointer (some ⟨b, 5, none⟩))] ?_
  refine sqst (n := 1) 0 #[vi root, vi pos, vi leaf, .slice LA 0 lc, vi 0, vi 0, .bool spl] hst11 fun W14 hst14 => ?_
  refine sqp [.k 23 (vp b), .k 24 (.pointer (some ⟨b, 6, none⟩))] ?_
  refine sqst (n := 1) 0 #[vi root, vi pos, vi leaf, .slice LA 0 lc, vi 0, vi 0, .bool false] hst14 fun W17 hst17 => ?_
  refine then_normal (wp_seq (wp_seq (sqr (sqp [.m 25 0, .k 26 (vp b), .k 27 (.pointer (some ⟨b, 3, none⟩))] ?_))))
  refine sqld 0 hst17 ?_
  refine sqp [.k 29 (vi 0), .k 30 (.bool true)] ?_
  refine then_normal (wct rfl (wp_seq (sqr (sqp [.k 6 (.slice none 0 0), .k 7 (.bool false), .k 8 (vi 0)] ?_))))
  refine then_normal (wp_ret (then_ret ?_))
  refine bpr (.tuple #[.slice none 0 0, .bool false, vi 0]) (results_3 Try.results16 rpt rpt rpt) ?_
  have hn27 := nilrowN hst17 99 3
  simp only [List.cons_append, List.nil_append] at hn27
  have hpk_ := hn27.pick [0, 1] (by decide) rfl
  exact ⟨_, _, rfl, pk_old (p := ⟨root, pos, leaf, [], 0, 0, false⟩) hpk_ hfp hbg hlt (Nat.zero_le _) (At.nil _ _) (fun ad e h => absurd rfl h)⟩
set_option maxRecDepth 100000 in
set_option maxHeartbeats 2000000 in
theorem rstep_0 (b : Nat) (root pos leaf fro to : Int) (spl : Bool) (LA : Option Addr) (lc bk : Nat) (ps : List PgS) (fresh : Int) (fp g : List Nat) (w : World) (hb : Blk w b 102 #[.int .i64 root, .int .i64 pos, .int .i64 leaf, .slice LA 0 lc, .int .i64 fro, .int .i64 to, .bool spl]) (hfp : fp = b :: g) (hbg : b ∉ g) (hlt : ∀ k ∈ g, k < w.heap.size) :
    Calls Try.prog 17 #[.pointer (some ⟨b, 0, none⟩), .pointer (some ⟨bk, 0, none⟩), .int .i64 fresh] w (StPost b (stepF ps ⟨root, pos, leaf, [], fro, to, spl⟩ fresh) fp w) := by
  have st0 := St.lend (E := eB b 102 #[.int .i64 root, .int .i64 pos, .int .i64 leaf, .slice LA 0 lc, .int .i64 fro, .int .i64 to, .bool spl]) hb (eB_loc _ _ _) (fun k hk => by simp [eB] at hk; subst hk; exact hb.lt)
  go_enter Try.func17, Try.ntmps17
  have hst0 := st0
  refine wp_seq (sqr (sqal #[.slice none 0 0, .bool false, vi 0] hst0 fun B6_1 W1 hst1 => ?_))
  refine then_normal (wp_seq (sqr (sqp [.m 15 0, .k 16 (vp b), .k 17 (.pointer (some ⟨b, 6, none⟩))] ?_)))
  refine sqst (n := 1) 0 #[vi root, vi pos, vi leaf, .slice LA 0 lc, vi fro, vi to, .bool false] hst1 fun W5 hst5 => ?_
  refine then_normal (wp_seq (sqr (sqp [.m 18 0, .k 19 (vp b), .k 20 (.pointer (some ⟨b, 4, none⟩))] ?_)))
  refine sqst (n := 1) 0 #[vi root, vi pos, vi leaf, .slice LA 0 lc, vi 0, vi to, .bool false] hst5 fun W9 hst9 => ?_
  refine then_normal (wp_seq (sqr (sqp [.m 21 0, .k 22 (vp b), .k 23 (.pointer (some ⟨b, 5, none⟩))] ?_)))
  refine sqst (n := 1) 0 #[vi root, vi pos, vi leaf, .slice LA 0 lc, vi 0, vi 0, .bool false] hst9 fun W13 hst13 => ?_
  refine then_normal (wp_seq (wp_seq (sqr (sqp [.m 24 0, .k 25 (vp b), .k 26 (.pointer (some ⟨b, 3, none⟩))] ?_))))
  refine sqld 0 hst13 ?_
  refine sqp [.k 28 (vi 0), .k 29 (.bool true)] ?_
  refine then_normal (wct rfl (wp_seq (sqr (sqp [.k 30 (.agg #[.slice none 0 0, .bool false, vi 0])] ?_))))
  refine sqst (n := 3) 1 #[.slice none 0 0, .bool false, vi 0] hst13 fun W21 hst21 => ?_
  refine then_normal (wp_ret (then_ret ?_))
  refine bpr (.agg #[.slice none 0 0, .bool false, vi 0]) (results_cell (n := 3) Try.results17 rfl (by kernel_rfl) (by kernel_rfl) (hst21.blk 1 rfl) rfl) ?_
  have hn22 := nilrowN hst21 99 3
  simp only [List.cons_append, List.nil_append] at hn22
  have hpk_ := hn22.pick [0, 2] (by decide) rfl
  exact ⟨_, _, rfl, pu_old (p := ⟨root, pos, leaf, [], 0, 0, false⟩) hpk_ hfp hbg hlt (Nat.zero_le _) (At.nil _ _) (fun ad e h => absurd rfl h)⟩
set_option maxRecDepth 100000 in
set_option maxHeartbeats 2000000 in
theorem ksplitx_o (b : Nat) (root pos leaf fro to : Int) (spl : Bool) (LA : Option Addr) (ln lc : Nat) (w : World) (hb : Blk w b 109 #[.int .i64 root, .int .i64 pos, .int .i64 leaf, .slice LA ln lc, .int .i64 fro, .int .i64 to, .bool spl]) :
    Calls Try.prog 18 #[.pointer (some ⟨b, 0, none⟩)] w (Ret (.tuple #[.int .i64 fro, .int .i64 to, .bool spl]) w) := by
  go_enter Try.func18, Try.ntmps18
  have hst0 := St.start w
  refine wp_seq (sqr (sqp [.k 2 (vi 0), .k 3 (vi 0), .k 4 (.bool false)] ?_))
  refine then_normal (wp_seq (wp_seq (sqr (sqp [.m 5 0] ?_))))
  refine sqv (.bool false) hst0 (by
      exact sv0 rfl rfl rfl rfl rfl (fun _ _ _ h => h) fun ρ β W X cx => by
        have fF5 : ρ (.tmp 5) = vp b := (cx.ou 5)
        simp [go_sem, cx.sees.const, fF5]) fun W5 hst5 => ?_
  refine then_normal (wcf rfl (wp_skip (then_normal (wp_seq (wp_region_Z [0, 1, 3, 7, 0, 16, 48, 112, 0, 256, 768, 1792, 15, 4351, 16383] [] [.k 7 (vp b), .k 8 (vp b), .k 9 (.pointer (some ⟨b, 4, none⟩)), .c 10 (vi fro), .k 11 (vp b), .k 12 (vp b), .k 13 (.pointer (some ⟨b, 5, none⟩)), .c 14 (vi to), .k 15 (vp b), .k 16 (vp b), .k 17 (.pointer (some ⟨b, 6, none⟩)), .c 18 (.bool spl), .k 2 (vi fro), .k 3 (vi to), .k 4 (.bool spl)] [] [3, 7, 11] [(2, 12, 3, 5), (2, 0, 12, 14)] hst5 ?_ fun W6 hst6 => ?_)))))
  · refine ⟨?_, ?_, ?_, trivial⟩
    · exact xs4 rfl id fun cx => run_load1 rfl (by kernel_rfl) (cx.an 2) ((Blk.ext hb cx.upd.to_ext).cell 4)
    · exact xs4 rfl id fun cx => run_load1 rfl (by kernel_rfl) (cx.an 6) ((Blk.ext hb cx.upd.to_ext).cell 5)
    · exact xs4 rfl id fun cx => run_load1 rfl (by kernel_rfl) (cx.an 10) ((Blk.ext hb cx.upd.to_ext).cell 6)
  refine then_normal (wp_ret ?_)
  refine bpr (.tuple #[vi fro, vi to, .bool spl]) (results_3 Try.results18 rpt rpt rpt) ?_
  exact Ret.of rfl hst6.ext
theorem ksplitx {b : Nat} {p : PuT} {fp : List Nat} {w : World} (h : (ePk b p fp).holds w) : Calls Try.prog 18 #[.pointer (some ⟨b, 0, none⟩)] w (Ret (.tuple #[.int .i64 p.fro, .int .i64 p.to, .bool p.spl]) w) := by
  obtain ⟨A, c, g, _, _, _, _, _, hB, _⟩ := h
  exact ksplitx_o b p.root p.pos p.leaf p.fro p.to p.spl A p.left.length c w hB
set_option maxRecDepth 100000 in
set_option maxHeartbeats 2000000 in
theorem rsplitx_o (b : Nat) (root pos leaf fro to : Int) (spl : Bool) (LA : Option Addr) (ln lc : Nat) (w : World) (hb : Blk w b 102 #[.int .i64 root, .int .i64 pos, .int .i64 leaf, .slice LA ln lc, .int .i64 fro, .int .i64 to, .bool spl]) :
    Calls Try.prog 19 #[.pointer (some ⟨b, 0, none⟩)] w (Ret (.tuple #[.int .i64 fro, .int .i64 to, .bool spl]) w) := by
  go_enter Try.func19, Try.ntmps19
  have hst0 := St.start w
  refine wp_seq (sqr (sqp [.k 2 (vi 0), .k 3 (vi 0), .k 4 (.bool false)] ?_))
  refine then_normal (wp_seq (wp_region_Z [0, 1, 3, 7, 0, 16, 48, 112, 0, 256, 768, 1792, 15, 4351, 16383] [] [.k 5 (vp b), .k 6 (vp b), .k 7 (.pointer (some ⟨b, 4, none⟩)), .c 8 (vi fro), .k 9 (vp b), .k 10 (vp b), .k 11 (.pointer (some ⟨b, 5, none⟩)), .c 12 (vi to), .k 13 (vp b), .k 14 (vp b), .k 15 (.pointer (some ⟨b, 6, none⟩)), .c 16 (.bool spl), .k 2 (vi fro), .k 3 (vi to), .k 4 (.bool spl)] [] [3, 7, 11] [(2, 12, 3, 5), (0, 0, 12, 12)] hst0 ?_ fun W4 hst4 => ?_))
  · refine ⟨?_, ?_, ?_, trivial⟩
    · exact xs4 rfl id fun cx => run_load1 rfl (by kernel_rfl) (cx.an 2) ((Blk.ext hb cx.upd.to_ext).cell 4)
    · exact xs4 rfl id fun cx => run_load1 rfl (by kernel_rfl) (cx.an 6) ((Blk.ext hb cx.upd.to_ext).cell 5)
    · exact xs4 rfl id fun cx => run_load1 rfl (by kernel_rfl) (cx.an 10) ((Blk.ext hb cx.upd.to_ext).cell 6)
  refine then_normal (wp_ret ?_)
  refine bpr (.tuple #[vi fro, vi to, .bool spl]) (results_3 Try.results19 rpt rpt rpt) ?_
  exact Ret.of rfl hst4.ext
theorem rsplitx {b : Nat} {p : PuT} {fp : List Nat} {w : World} (h : (ePu b p fp).holds w) : Calls Try.prog 19 #[.pointer (some ⟨b, 0, none⟩)] w (Ret (.tuple #[.int .i64 p.fro, .int .i64 p.to, .bool p.spl]) w) := by
  obtain ⟨A, c, g, _, _, _, _, _, hB, _⟩ := h
  exact rsplitx_o b p.root p.pos p.leaf p.fro p.to p.spl A p.left.length c w hB
set_option maxRecDepth 100000 in
set_option maxHeartbeats 2000000 in
theorem rdonex_o (b : Nat) (root pos leaf fro to : Int) (spl : Bool) (LA : Option Addr) (ln lc : Nat) (w : World) (hb : Blk w b 102 #[.int .i64 root, .int .i64 pos, .int .i64 leaf, .slice LA ln lc, .int .i64 fro, .int .i64 to, .bool spl]) :
    Calls Try.prog 22 #[.pointer (some ⟨b, 0, none⟩)] w (Ret (.bool ((ln : Int) == 0)) w) := by
  go_enter Try.func22, Try.ntmps22
  have hst0 := St.start w
  refine wp_seq (sqr (sqp [.k 2 (.bool false)] ?_))
  refine then_normal (wp_seq (sqr (sqp [.m 3 0, .k 4 (vp b), .k 5 (.pointer (some ⟨b, 3, none⟩))] ?_)))
  refine sql (.slice LA ln lc) hst0 (fun cx => run_load1 rfl (by kernel_rfl) (cx.ou 5) ((Blk.ext hb cx.upd.to_ext).cell 3)) ?_
  refine sqp [.k 7 (vi ((ln : Int))), .k 8 (.bool ((ln : Int) == 0)), .m 2 8] ?_
  refine then_normal (wp_ret ?_)
  refine bpr (.bool ((ln : Int) == 0)) (results_1 Try.results22 rpt) ?_
  exact Ret.bool (by simp) hst0.ext
theorem rdonex {b : Nat} {p : PuT} {fp : List Nat} {w : World} (h : (ePu b p fp).holds w) : Calls Try.prog 22 #[.pointer (some ⟨b, 0, none⟩)] w (Ret (.bool ((p.left.length : Int) == 0)) w) := by
  obtain ⟨A, c, g, _, _, _, _, _, hB, _⟩ := h
  exact rdonex_o b p.root p.pos p.leaf p.fro p.to p.spl A p.left.length c w hB
set_option maxRecDepth 100000 in
set_option maxHeartbeats 2000000 in
theorem rleafx_o (b : Nat) (root pos leaf fro to : Int) (spl : Bool) (LA : Option Addr) (ln lc : Nat) (w : World) (hb : Blk w b 102 #[.int .i64 root, .int .i64 pos, .int .i64 leaf, .slice LA ln lc, .int .i64 fro, .int .i64 to, .bool spl]) :
    Calls Try.prog 24 #[.pointer (some ⟨b, 0, none⟩)] w (Ret (.int .i64 leaf) w) := by
  go_enter Try.func24, Try.ntmps24
  have hst0 := St.start w
  refine wp_seq (sqr (sqp [.k 2 (vi 0)] ?_))
  refine then_normal (wp_seq (sqr (sqp [.m 3 0, .k 4 (vp b), .k 5 (.pointer (some ⟨b, 2, none⟩))] ?_)))
  refine sql (vi leaf) hst0 (fun cx => run_load1 rfl (by kernel_rfl) (cx.ou 5) ((Blk.ext hb cx.upd.to_ext).cell 2)) ?_
  refine sqp [.m 2 6] ?_
  refine then_normal (wp_ret ?_)
  refine bpr (vi leaf) (results_1 Try.results24 rpt) ?_
  exact Ret.of rfl hst0.ext
theorem rleafx {b : Nat} {p : PuT} {fp : List Nat} {w : World} (h : (ePu b p fp).holds w) : Calls Try.prog 24 #[.pointer (some ⟨b, 0, none⟩)] w (Ret (.int .i64 p.leaf) w) := by
  obtain ⟨A, c, g, _, _, _, _, _, hB, _⟩ := h
  exact rleafx_o b p.root p.pos p.leaf p.fro p.to p.spl A p.left.length c w hB
theorem kstep_a {b bk : Nat} {ps : List PgS} {p : PuT} {fresh : Int} {fp : List Nat} {w : World} (h : (ePk b p fp).holds w) (hB : BkU fp w bk ps) (hok : OkS ps) (hoc : OkC ps) (h10 : p.left.length ≤ 10000) (hte : ∀ t ∈ p.left, t.1.size ≤ 900000 ∧ 0 ≤ t.2.1 ∧ t.2.1 ≤ 90000) (hfr : -1 ≤ fresh ∧ fresh ≤ 1000000) :
    Calls Try.prog 16 #[.pointer (some ⟨b, 0, none⟩), .iface 24 (.pointer (some ⟨bk, 0, none⟩)), .int .i64 fresh] w (KtPost b (stepF ps p fresh) fp w) := by
  obtain ⟨A, c, g, hfp, hbg, hc, hAg, hlt, hb, hA⟩ := h
  obtain ⟨root, pos, leaf, left, fro, to, spl⟩ := p
  cases left with
  | nil => exact kstep_0 b root pos leaf fro to spl A c _ _ ps fresh fp g w hb hfp hbg hlt
  | cons t lf =>
    obtain ⟨te, tl, tk⟩ := t
    obtain ⟨la, rfl, _, _⟩ := hA 0 (.string te) rfl
    have hg := hAg la rfl (by simp)
    have ht := hte (te, tl, tk) (by simp)
    obtain ⟨LA, lcc, Ps, h1, h2⟩ := hB
    refine kstep_g b _ _ root pos leaf fro to spl la _ c te tl tk lf ps fresh fp g w hb (fun W hW => ?_) rfl hc h10 (fun W hW => book_ok ⟨LA, lcc, Ps, h1, h2 W (hW.mono fun k _ hk => by rw [hfp, List.mem_singleton.1 hk]; simp)⟩ hok.len) hok hoc hfp hbg hlt hg ht.1 ht.2 hfr
    refine at_blocks hA fun ad e _ => ?_
    rw [← Option.some.inj e]
    exact hW.block _ (hlt _ hg) (fun hm => hbg (by rw [List.mem_singleton] at hm; exact hm ▸ hg))
theorem rstep_a {b bk : Nat} {ps : List PgS} {p : PuT} {fresh : Int} {fp : List Nat} {w : World} (h : (ePu b p fp).holds w) (hB : BkU fp w bk ps) (hok : OkS ps) (h10 : p.left.length ≤ 10000) (hte : ∀ t ∈ p.left, t.1.size ≤ 900000 ∧ 0 ≤ t.2.1 ∧ t.2.1 ≤ 90000) (hfr : -1 ≤ fresh ∧ fresh ≤ 1000000) :
    Calls Try.prog 17 #[.pointer (some ⟨b, 0, none⟩), .pointer (some ⟨bk, 0, none⟩), .int .i64 fresh] w (StPost b (stepF ps p fresh) fp w) := by
  by_cases hne : p.left = []
  · obtain ⟨A, c, g, hfp, hbg, hc, hAg, hlt, hb, hA⟩ := h
    obtain ⟨root, pos, leaf, left, fro, to, spl⟩ := p
    have hne : left = [] := hne
    subst hne
    exact rstep_0 b root pos leaf fro to spl A c bk ps fresh fp g w hb hfp hbg hlt
  · exact rstep_pu h hB hne hok h10 hte hfr
end
end Go.Proofs.Ytjlcoglmjldjbaa
namespace Go.Proofs.Ytjlcoglmjldjbaa
section
open Go.RowKit
set_option linter.unusedVariables false
set_option linter.unusedSimpArgs false
set_option maxRecDepth 100000 in
set_option maxHeartbeats 2000000 in
theorem lrest2 (x : Int) (w : World) :
    Calls Try.prog 14 #[.int .i64 x, .int .i64 2] w (Ret (.int .i64 ((x.tmod 2 + 2) % 2)) w) := by
  have h1_ := Int.lt_tmod_of_pos x (b := 2) (by decide)
  have h2_ := Int.tmod_lt_of_pos x (b := 2) (by decide)
  go_enter Try.func14, Try.ntmps14
  have hst0 := St.start w
  refine wp_seq (sqr (sqp [.k 4 (vi 0)] ?_))
  refine then_normal (wp_seq (sqr (sqp [.m 5 0, .m 6 1, sRe 7 .i64 x 2 (x.tmod 2) (rfl), .m 8 1, sI 9 ((x.tmod 2) + 2) (by omega), .m 10 1, sRe 11 .i64 ((x.tmod 2) + 2) 2 (((x.tmod 2) + 2) % 2) (Int.tmod_eq_emod_of_nonneg (by omega)), .m 4 11] ?_)))
  refine then_normal (wp_ret ?_)
  refine bpr (vi (((x.tmod 2) + 2) % 2)) (results_1 Try.results14 rpt) ?_
  exact Ret.of rfl hst0.ext
set_option maxRecDepth 100000 in
set_option maxHeartbeats 2000000 in
theorem lrest12 (x : Int) (w : World) :
    Calls Try.prog 14 #[.int .i64 x, .int .i64 12] w (Ret (.int .i64 ((x.tmod 12 + 12) % 12)) w) := by
  have h1_ := Int.lt_tmod_of_pos x (b := 12) (by decide)
  have h2_ := Int.tmod_lt_of_pos x (b := 12) (by decide)
  go_enter Try.func14, Try.ntmps14
  have hst0 := St.start w
  refine wp_seq (sqr (sqp [.k 4 (vi 0)] ?_))
  refine then_normal (wp_seq (sqr (sqp [.m 5 0, .m 6 1, sRe 7 .i64 x 12 (x.tmod 12) (rfl), .m 8 1, sI 9 ((x.tmod 12) + 12) (by omega), .m 10 1, sRe 11 .i64 ((x.tmod 12) + 12) 12 (((x.tmod 12) + 12) % 12) (Int.tmod_eq_emod_of_nonneg (by omega)), .m 4 11] ?_)))
  refine then_normal (wp_ret ?_)
  refine bpr (vi (((x.tmod 12) + 12) % 12)) (results_1 Try.results14 rpt) ?_
  exact Ret.of rfl hst0.ext
set_option maxRecDepth 100000 in
set_option maxHeartbeats 2000000 in
theorem lrest30 (x : Int) (w : World) :
    Calls Try.prog 14 #[.int .i64 x, .int .i64 30] w (Ret (.int .i64 ((x.tmod 30 + 30) % 30)) w) := by
  have h1_ := Int.lt_tmod_of_pos x (b := 30) (by decide)
  have h2_ := Int.tmod_lt_of_pos x (b := 30) (by decide)
  go_enter Try.func14, Try.ntmps14
  have hst0 := St.start w
  refine wp_seq (sqr (sqp [.k 4 (vi 0)] ?_))
  refine then_normal (wp_seq (sqr (sqp [.m 5 0, .m 6 1, sRe 7 .i64 x 30 (x.tmod 30) (rfl), .m 8 1, sI 9 ((x.tmod 30) + 30) (by omega), .m 10 1, sRe 11 .i64 ((x.tmod 30) + 30) 30 (((x.tmod 30) + 30) % 30) (Int.tmod_eq_emod_of_nonneg (by omega)), .m 4 11] ?_)))
  refine then_normal (wp_ret ?_)
  refine bpr (vi (((x.tmod 30) + 30) % 30)) (results_1 Try.results14 rpt) ?_
  exact Ret.of rfl hst0.ext
set_option maxRecDepth 100000 in
set_option maxHeartbeats 4000000 in
theorem treegrows_any (A : Option Addr) (n0 c : Nat) (l : List Int) (n nn : Int) (w : World) (hA : At w A (l.map (Value.int .i64))) (hn : l.length = n0) :
    Calls Try.prog 3 #[.slice A n0 c, .int .i64 n, .int .i64 nn] w (Ret (.bool true) w) := by
  go_enter Try.func3, Try.ntmps3
  have hst0 := St.start w
  refine wp_seq (sqr (sqp [.k 6 (.bool false)] ?_))
  refine then_normal (wp_seq (sqr (sqk (.bool true) hst0 (fun cx => ⟨_, sanity10_any _, map0⟩) fun W2 hst2 => ?_)))
  refine sqp [.k 7 (.bool true)] ?_
  refine then_normal (wp_seq (sqr (sqp [.m 26 0] ?_)))
  refine sqk1s (fun B27_5 => vp B27_5) (fun B27_5 r0_5 => eBk B27_5 (grownF l) r0_5) hst2 (fun cx => ⟨_, (rgrown_any _ _ _ l _ (hA.ext cx.upd.to_ext) hn).mono (by rintro e W1 ⟨B4, fp4, rfl, hs4⟩; exact ⟨_, _, rfl, hs4⟩), (map1 (cx.ou 26))⟩) fun B27_5 r0_5 W5 hst5 => ?_
  refine sqp [.m 8 27] ?_
  refine then_normal (wp_seq (sqr (sqp [.m 28 1] ?_)))
  refine sqk (.string (keyF n)) hst5 (fun cx => ⟨_, rkey_any n _, (map1 (cx.ou 28))⟩) fun W8 hst8 => ?_
  refine sqp [.m 30 1] ?_
  refine sqk (vi ((n.tmod 30 + 30) % 30)) hst8 (fun cx => ⟨_, lrest30 n _, (map2 (cx.ou 30) (cx.co _))⟩) fun W10 hst10 => ?_
  refine sqp [.k 32 (.agg #[vi 40, vi ((n.tmod 30 + 30) % 30)])] ?_
  refine sqk1s (fun B33_12 => vp B33_12) (fun B33_12 r1_12 => ePk B33_12 (putT 0 (keyF n) 40 ((n.tmod 30 + 30) % 30)) r1_12) hst10 (fun cx => ⟨_, (kgrowN_any 0 (keyF n) 40 ((n.tmod 30 + 30) % 30) _ (Nat.le_trans (keyF_size _) (by decide))).mono (by rintro e W1 ⟨B4, fp4, rfl, hs4⟩; exact ⟨_, _, rfl, hs4⟩), (map3 (cx.co _) (cx.ou 29) (cx.ou 32))⟩) fun B33_12 r1_12 W12 hst12 => ?_
  refine sqp [.m 9 33] ?_
  refine then_normal (wp_seq (sqr (sqp [.m 34 1] ?_)))
  refine sqk (.string (keyF n)) hst12 (fun cx => ⟨_, rkey_any n _, (map1 (cx.ou 34))⟩) fun W15 hst15 => ?_
  refine sqp [.m 36 1] ?_
  refine sqk (vi ((n.tmod 30 + 30) % 30)) hst15 (fun cx => ⟨_, lrest30 n _, (map2 (cx.ou 36) (cx.co _))⟩) fun W17 hst17 => ?_
  refine sqp [.k 38 (.agg #[vi 40, vi ((n.tmod 30 + 30) % 30)])] ?_
  refine sqk1s (fun B39_19 => vp B39_19) (fun B39_19 r2_19 => ePu B39_19 (putT 0 (keyF n) 40 ((n.tmod 30 + 30) % 30)) r2_19) hst17 (fun cx => ⟨_, (rgrowN_any 0 (keyF n) 40 ((n.tmod 30 + 30) % 30) _ (Nat.le_trans (keyF_size _) (by decide))).mono (by rintro e W1 ⟨B4, fp4, rfl, hs4⟩; exact ⟨_, _, rfl, hs4⟩), (map3 (cx.co _) (cx.ou 35) (cx.ou 38))⟩) fun B39_19 r2_19 W19 hst19 => ?_
  refine sqp [.m 10 39] ?_
  refine then_normal (wp_seq (sqr (sqp [.k 11 (vi 50)] ?_)))
  refine then_normal (wp_seq (wp_seq (sqr (sqp [.k 12 (vi 0)] ?_))))
  refine then_normal (wp_block ?_)
  obtain ⟨p0, hp0⟩ : ∃ z, (putT 0 (keyF n) 40 ((n.tmod 30 + 30) % 30)) = z := ⟨_, rfl⟩
  obtain ⟨b0, hb0⟩ : ∃ z, grownF l = z := ⟨_, rfl⟩
  rw [hp0, hb0] at hst19
  have hpu0 : PuM (54016 + 10 * 0) (0 + 1) p0 := by rw [← hp0]; exact put_sz _ _ _ _ (by omega)
  have hrt0 : p0.root = 0 := by rw [← hp0]; rfl
  have hgr0 := grown_ok l
  rw [hb0] at hgr0
  refine wp_loopT (fun t_ mz az W => ∃ i : Nat, ∃ ps : List PgS, ∃ nx : Int, ∃ p : PuT, ∃ fb : List Nat, ∃ fk : List Nat, ∃ fu : List Nat, i ≤ 30 ∧ BdM (54016 + 10 * i) ps ∧ ps.length = 60 ∧ C8 ps ∧ (50 ≤ nx ∧ nx ≤ 50 + i) ∧ PuM (54016 + 10 * i) (i + 1) p ∧ p.root = 0 ∧ mz = 30 - i ∧ az = ⟨(ovr (jv az) [(6, 6, 1, []), (4, 11, 0, [vi nx, vi ((i : Int))]), (0, 13, 12, []), (15, 40, 92, [])] t_).toArray, []⟩ ∧ St w [] [eBk B27_5 ps fb, ePk B33_12 p fk, ePu B39_19 p fu] W) (30 - 0) ?_ ?_
  · -- the loop begins
    exact ⟨0, b0, 50, p0, r0_5, r1_12, r2_19, Nat.zero_le _, hgr0.1, hgr0.2.1, hgr0.2.2, by omega, hpu0, hrt0, rfl, (by kernel_rfl), hst19.pk [0, 1, 2]⟩
  rintro n23 a23 W23 ⟨i, ps, nx, p, fb, fk, fu, hi, hpb, hp60, hc8, hnx, hpu, hrt, rfl, hj_, hst23⟩
  refine ovz hj_ fun u23_ => ?_
  refine wp_seq (wp_seq (sqr (sqp [.m 40 12, .k 41 (.bool (decide ((i : Int) < 30)))] ?_)))
  refine then_normal (wds (fun hs26 hs26p => ?_) fun hs26 hs26p => ?_)
  · refine wp_skip (then_normal (wp_seq (wp_block (wp_seq (sqr (sqp [.m 44 11, .m 13 44] ?_))))))
    refine then_normal ?_
    refine wp_cutT (fun t_ az W => ∃ fr : Int, (fr = -1 ∨ fr = nx) ∧ az = ⟨(ovr (jv az) [(13, 13, 0, [vi fr]), (31, 45, 9, [])] t_).toArray, []⟩ ∧ St w [] [eBk B27_5 ps fb, ePk B33_12 p fk, ePu B39_19 p fu] W) ?_ ?_
    · refine wp_seq (sqr (sqp [.m 45 12, .m 46 2] ?_))
      refine sqk (vi ((nn.tmod 12 + 12) % 12)) hst23 (fun cx => ⟨_, lrest12 nn _, (map2 (cx.ou 46) (cx.co _))⟩) fun W32 hst32 => ?_
      refine sqp [.k 48 (.bool (decide ((nn.tmod 12 + 12) % 12 ≤ (i : Int)))), .m 49 48] ?_
      refine sqwW 49 [50, 51, 52] ?_ hst32 rfl (fun hq => ?_) fun W38 hst38 => ?_
      rotate_left
      · refine sqp [.m 50 2] ?_
        refine sqk (vi ((nn.tmod 2 + 2) % 2)) hst32 (fun cx => ⟨_, lrest2 nn _, (map2 (cx.ou 50) (cx.co _))⟩) fun W36 hst36 => ?_
        refine sqp [.k 52 (.bool (((nn.tmod 2 + 2) % 2) == 1))] ?_
        exact sqE hst36
      refine sqwx ?_
      refine sqp [sPa 53 (decide ((nn.tmod 12 + 12) % 12 ≤ (i : Int))) (((nn.tmod 2 + 2) % 2) == 1)] ?_
      refine then_normal (wbs (fun hs40 => ?_) fun hs40 => ?_)
      · have hs40p := hs40
        simp only [zB] at hs40p
        obtain ⟨hs40p1, hs40p2⟩ := hs40p
        refine sqr (sqp [.k 13 (vi (-1))] ?_)
        refine then_normal ?_
        exact ⟨(-1), .inl rfl, (by kernel_rfl), hst38.pk [0, 1, 2]⟩
      have hs40p := hs40
      simp only [zB] at hs40p
      refine wp_skip (then_normal ?_)
      exact ⟨nx, .inr rfl, (by kernel_rfl), hst38.pk [0, 1, 2]⟩
    rintro a29 W29 ⟨fr, hfr, hj_, hst29⟩
    refine ovz hj_ fun u29_ => ?_
    refine wp_seq ?_
    have hok := hpb.ok (by omega) (by omega)
    have hpl := hpu.len
    have hte : ∀ t ∈ p.left, t.1.size ≤ 900000 ∧ 0 ≤ t.2.1 ∧ t.2.1 ≤ 90000 := fun t ht => by have h_ := hpu.left t ht; omega
    have hss := step_sz (fresh := fr) hpb hpu
    have hed9 := stepF_len (fresh := fr) (p := p) hok
    have hc82 := step_c8 (p := p) (fresh := fr) hc8 hok (by omega)
    have hrt2 := (root_step ps p fr).trans hrt
    obtain ⟨R, hR⟩ : ∃ z, stepF ps p fr = z := ⟨_, rfl⟩
    rw [hR] at hss hed9 hc82 hrt2
    have hedm := hss.1
    have hpu2 := hss.2
    have hedl : R.2.eds.length ≤ 100000 := by omega
    refine wp_region_Y [0, 0, 2, 0, 15, 31, 63, 63, 63, 127, 767, 2047] [[], [], [], [], [1, 0]] [[], [], [], [], [3, 4]] [[], [], [], [], [1]] [.k 55 (vp B33_12), .k 56 (vp B27_5), .c 57 (.iface 24 (vp B27_5)), .k 58 (vi fr), .a 59, .a 54, .a 60, .c 61 (.bool R.2.used), .c 62 (vi R.2.err), .a 14, .k 15 (.bool R.2.used), .k 16 (vi R.2.err)] (fun ix σ β X => match ix with | 0 => True | 1 => True | 2 => True | 3 => True | 4 => σ 59 = .tuple #[.slice (sA (tg (β 59) 0)) R.2.eds.length (sC (tg (β 59) 0)), .bool R.2.used, vi R.2.err] ∧ X 3 = ePk B33_12 R.1 ((X 3).fp) ∧ X 4 = eO 99 3 (.slice (sA (tg (β 59) 0)) R.2.eds.length (sC (tg (β 59) 0))) R.2.eds.length (R.2.eds.flatMap edC) | 5 => σ 54 = .tuple #[.slice (sA (tg (β 59) 0)) R.2.eds.length (sC (tg (β 59) 0)), .bool R.2.used, vi R.2.err] | 6 => σ 60 = .slice (sA (tg (β 59) 0)) R.2.eds.length (sC (tg (β 59) 0)) | 7 => True | 8 => True | 9 => σ 14 = .slice (sA (tg (β 59) 0)) R.2.eds.length (sC (tg (β 59) 0)) | _ => True) [0, 2, 3, 4] [2, 4, 5, 6, 7, 8, 9] [(14, 9, 3, 17), (37, 5, 1, 38), (0, 0, 5, 5), (0, 6, 3, 3)] hst29 ?_ ?_ ?_
    · exact fun ix _ _ _ _ _ _ hs hb hx h => match ix, h with
      | 4, h => by dsimp only; rw [← hs 59 rfl, ← hb 59 rfl, ← hx 3 rfl, ← hx 4 rfl]; exact h
      | 5, h => by dsimp only; rw [← hs 54 rfl, ← hb 59 rfl]; exact h
      | 6, h => by dsimp only; rw [← hs 60 rfl, ← hb 59 rfl]; exact h
      | 9, h => by dsimp only; rw [← hs 14 rfl, ← hb 59 rfl]; exact h
      | 0, _ | 1, _ | 2, _ | 3, _ | 7, _ | 8, _ | _ + 10, _ => trivial
    · refine ⟨?_, ?_, ?_, ?_, ?_, ?_, ?_, trivial⟩
      · exact sv0 rfl rfl rfl rfl rfl (fun _ _ _ h => h) fun ρ β W X cx => by
          have fF56 : ρ (.tmp 56) = vp B27_5 := (cx.an 1)
          simp [go_sem, fF56]
      · refine svA fun ρ β W X cx => ?_
        refine DoesU.call (run_callF (args := #[vp B33_12, .iface 24 (vp B27_5), vi fr]) rfl cx.sees rfl (by kernel_rfl) (map3 (cx.an 0) (cx.an 2) (cx.an 3))) ?_
        refine (kt_to hR (kstep_a (CtxV.holdF cx (cx.init 1 _ rfl) rfl) (CtxV.bkU cx (cx.init 0 _ rfl) (cx.init 1 _ rfl) rfl rfl (by decide)) hok hc8.okc (by omega) hte (by omega))).mono ?_
        rintro e W1 ⟨A4, c4, rfl, fp4, hs4⟩
        refine ⟨_, rfl, post_obj (E := ePk B33_12 p fk) [ePk B33_12 R.1 fp4, eO 99 3 (.slice A4 R.2.eds.length c4) R.2.eds.length (R.2.eds.flatMap edC)] (cx.init 1 _ rfl) rfl rfl hs4 (fun σ β' X' hs hb hv hN => ?_)⟩
        have hv1 := (hv 59 rfl).1; have hv2 := (hv 59 rfl).2
        exact ⟨hv1.trans (by rw [hv2]; rfl), ePk_self ((List.cons.inj hN).1), (by rw [hv2]; exact (List.cons.inj (List.cons.inj hN).2).1)⟩
      · exact sv rfl rfl rfl rfl rfl _ (fun _ _ _ h => h) (fun β β' h => by rw [h 59 (by decide)]) fun ρ β W X cx => run_move' rfl (dTn (cx.an 4)).1
      · exact sv rfl rfl rfl rfl rfl _ (fun _ _ _ h => h) (fun β β' h => by rw [h 59 (by decide)]) fun ρ β W X cx => run_extract' rfl (dTn (cx.an 5)) rfl
      · exact xs4 rfl id fun cx => run_extract' rfl (dTn (cx.an 5)) rfl
      · exact xs4 rfl id fun cx => run_extract' rfl (dTn (cx.an 5)) rfl
      · exact sv rfl rfl rfl rfl rfl _ (fun _ _ _ h => h) (fun β β' h => by rw [h 59 (by decide)]) fun ρ β W X cx => run_assign' rfl (dTn (cx.an 6))
    intro σ β X W42 hD hst42 fr hfr
    obtain ⟨A59_42, hu_A59_42⟩ : ∃ z, sA (tg (β 59) 0) = z := ⟨_, rfl⟩
    obtain ⟨c59_42, hu_c59_42⟩ : ∃ z, sC (tg (β 59) 0) = z := ⟨_, rfl⟩
    have xX3 : X 3 = _ := (dTn (hD 4 lq)).2.1
    obtain ⟨r3_42, hu_r3_42⟩ : ∃ z, (X 3).fp = z := ⟨_, rfl⟩
    rw [hu_r3_42] at xX3
    clear hu_r3_42
    simp only [xX3, exq 4 ((dTn (hD 4 lq)).2.2), hu_A59_42, hu_c59_42] at hst42
    simp only [ed 59 ((dTn (hD 4 lq)).1), ed 54 ((dTn (hD 5 lq))), ed 60 ((dTn (hD 6 lq))), ed 14 ((dTn (hD 9 lq))), hu_A59_42, hu_c59_42] at hfr
    clear hD xX3 hu_A59_42 hu_c59_42; subst hfr; clear σ β X
    refine then_normal (wp_seq (wp_region_Y [0, 0, 0, 7, 0, 31] [[], [], [], [1, 0], [], [6]] [[], [], [], [4, 5], [6], [7]] [[], [], [], [1], [], [6]] [.k 63 (vp B39_19), .k 64 (vp B27_5), .k 65 (vi fr), .a 66, .a 17, .n] (fun ix σ β X => match ix with | 0 => True | 1 => True | 2 => True | 3 => σ 66 = .agg #[.slice (sA (tg (β 66) 0)) R.2.eds.length (sC (tg (β 66) 0)), .bool R.2.used, vi R.2.err] ∧ X 4 = ePu B39_19 R.1 ((X 4).fp) ∧ X 5 = eO 99 3 (.slice (sA (tg (β 66) 0)) R.2.eds.length (sC (tg (β 66) 0))) R.2.eds.length (R.2.eds.flatMap edC) | 4 => σ 17 = vp (pb (β 17)) ∧ X 6 = eB (pb (β 17)) 39 #[.slice none 0 0, .bool false, vi 0] | 5 => X 7 = eB (pb (β 17)) 39 #[.slice (sA (tg (β 66) 0)) R.2.eds.length (sC (tg (β 66) 0)), .bool R.2.used, vi R.2.err] | _ => True) [0, 2, 3, 4, 5, 7] [3, 4, 5] [(17, 4, 1, 18), (45, 0, 4, 49)] hst42 ?_ ?_ ?_))
    · exact fun ix _ _ _ _ _ _ hs hb hx h => match ix, h with
      | 3, h => by dsimp only; rw [← hs 66 rfl, ← hb 66 rfl, ← hx 4 rfl, ← hx 5 rfl]; exact h
      | 4, h => by dsimp only; rw [← hs 17 rfl, ← hb 17 rfl, ← hx 6 rfl]; exact h
      | 5, h => by dsimp only; rw [← hb 17 rfl, ← hb 66 rfl, ← hx 7 rfl]; exact h
      | 0, _ | 1, _ | 2, _ | _ + 6, _ => trivial
    · refine ⟨?_, ?_, ?_, trivial⟩
      · refine svA fun ρ β W X cx => ?_
        refine DoesU.call (run_callF (args := #[vp B39_19, vp B27_5, vi fr]) rfl cx.sees rfl (by kernel_rfl) (map3 (cx.an 0) (cx.an 1) (cx.an 2))) ?_
        refine (rstep_to hR (rstep_a (CtxV.holdF cx (cx.init 1 _ rfl) rfl) (CtxV.bkU cx (cx.init 0 _ rfl) (cx.init 1 _ rfl) rfl rfl (by decide)) hok (by omega) hte (by omega))).mono ?_
        rintro e W1 ⟨A4, c4, rfl, fp4, hs4⟩
        refine ⟨_, rfl, post_obj (E := ePu B39_19 p fu) [ePu B39_19 R.1 fp4, eO 99 3 (.slice A4 R.2.eds.length c4) R.2.eds.length (R.2.eds.flatMap edC)] (cx.init 1 _ rfl) rfl rfl hs4 (fun σ β' X' hs hb hv hN => ?_)⟩
        have hv1 := (hv 66 rfl).1; have hv2 := (hv 66 rfl).2
        exact ⟨hv1.trans (by rw [hv2]; rfl), ePu_self ((List.cons.inj hN).1), (by rw [hv2]; exact (List.cons.inj (List.cons.inj hN).2).1)⟩
      · refine svA fun ρ β W X cx => ?_
        exact dv_alloc (cs := #[.slice none 0 0, .bool false, vi 0]) rfl (by kernel_rfl) rfl rfl (fun σ β' X' hs hb hv hx => ⟨hv, hx⟩)
      · refine svA fun ρ β W X cx => ?_
        exact dv_store (n := 3) rfl (dTn (cx.an 4)).1 (dTn (cx.an 3)).1 (by kernel_rfl) (by kernel_rfl) (by kernel_rfl) cx (dTn (cx.an 4)).2 rfl (nle rfl) (by kernel_rfl) rfl rfl rfl (fun σ β' X' hs hb hx => by rw [hb 17, hb 66]; exact hx)
    intro σ β X W43 hD hst43 fr hfr
    obtain ⟨A66_43, hu_A66_43⟩ : ∃ z, sA (tg (β 66) 0) = z := ⟨_, rfl⟩
    obtain ⟨c66_43, hu_c66_43⟩ : ∃ z, sC (tg (β 66) 0) = z := ⟨_, rfl⟩
    obtain ⟨B17_43, hu_B17_43⟩ : ∃ z, pb (β 17) = z := ⟨_, rfl⟩
    have xX4 : X 4 = _ := (dTn (hD 3 lq)).2.1
    obtain ⟨r4_43, hu_r4_43⟩ : ∃ z, (X 4).fp = z := ⟨_, rfl⟩
    rw [hu_r4_43] at xX4
    clear hu_r4_43
    simp only [xX4, exq 5 ((dTn (hD 3 lq)).2.2), exq 7 ((dTn (hD 5 lq))), hu_A66_43, hu_c66_43, hu_B17_43] at hst43
    simp only [ed 66 ((dTn (hD 3 lq)).1), ed 17 ((dTn (hD 4 lq)).1), hu_A66_43, hu_c66_43, hu_B17_43] at hfr
    clear hD xX4 hu_A66_43 hu_c66_43 hu_B17_43; subst hfr; clear σ β X
    refine then_normal (wp_seq (sqr (sqp [.m 68 9] ?_)))
    refine sqk (.tuple #[vi R.1.fro, vi R.1.to, .bool R.1.spl]) hst43 (fun cx => ⟨_, ksplitx (CtxV.holdF cx (cx.init 1 _ rfl) rfl), (map1 (cx.ou 68))⟩) fun W45 hst45 => ?_
    refine sqp [.m 67 69, .k 70 (vi R.1.fro), .k 71 (vi R.1.to), .k 72 (.bool R.1.spl), .m 18 70, .m 19 71, .m 20 72] ?_
    refine then_normal (wp_seq (sqr (sqp [.m 74 10] ?_)))
    refine sqk (.tuple #[vi R.1.fro, vi R.1.to, .bool R.1.spl]) hst45 (fun cx => ⟨_, rsplitx (CtxV.holdF cx (cx.init 3 _ rfl) rfl), (map1 (cx.ou 74))⟩) fun W54 hst54 => ?_
    refine sqp [.m 73 75, .k 76 (vi R.1.fro), .k 77 (vi R.1.to), .k 78 (.bool R.1.spl), .m 21 76, .m 22 77, .m 23 78] ?_
    refine then_normal (wp_seq (sqr (sqp [.m 79 14, .k 80 (vp B17_43)] ?_)))
    refine sqld 5 hst54 ?_
    refine sqk (.bool true) hst54 (fun cx => ⟨_, rsame_any _ _ _ _ R.2.eds _ (At.of_ownN (cx.ri 2 rfl)) (At.of_ownN (cx.ri 4 rfl)) (by omega), (map2 (cx.ou 79) (cx.ou 81))⟩) fun W65 hst65 => ?_
    refine sqp [.k 24 (.bool true)] ?_
    refine then_normal (wp_seq (wp_seq (sqr (sqp [.k 83 (.bool true), .k 84 (.bool false), .k 85 (.bool false)] ?_))))
    refine sqgy 85 [86, 87, 88, 89] rfl rfl ?_
    refine sqp [.m 86 15, .k 87 (.pointer (some ⟨B17_43, 1, none⟩))] ?_
    refine sqld 5 hst65 ?_
    refine sqv (.bool (!(R.2.used == R.2.used))) hst65 (by
        exact sv0 rfl rfl rfl rfl rfl (fun _ _ _ h => h) fun ρ β W X cx => by
          have fF86 : ρ (.tmp 86) = .bool R.2.used := (cx.ou 86)
          have fF88 : ρ (.tmp 88) = .bool R.2.used := (cx.ou 88)
          simp [go_sem, fF86, fF88]) fun W73 hst73 => ?_
    refine sqp [.k 90 (.bool (!(R.2.used == R.2.used))), .m 91 90] ?_
    refine sqw' 91 [92, 93, 94, 95] ?_ rfl (fun hq => ?_) ?_
    rotate_left
    · refine sqp [.m 92 16, .k 93 (.pointer (some ⟨B17_43, 2, none⟩))] ?_
      refine sqld 5 hst73 ?_
      refine sqp [.k 95 (.bool (R.2.err != R.2.err))] ?_
      exact sqe
    refine sqwx ?_
    refine sqp [sPo 96 (!(R.2.used == R.2.used)) (R.2.err != R.2.err), .m 97 96] ?_
    refine sqwW 97 [98, 99, 100, 101, 102] ?_ hst73 rfl (fun hq => ?_) fun W87 hst87 => ?_
    rotate_left
    · refine sqp [.m 98 9] ?_
      refine sqk (.bool ((R.1.left.length : Int) == 0)) hst73 (fun cx => ⟨_, kdone_pk (CtxV.holdF cx (cx.init 1 _ rfl) rfl), (map1 (cx.ou 98))⟩) fun W83 hst83 => ?_
      refine sqp [.m 100 10] ?_
      refine sqk (.bool ((R.1.left.length : Int) == 0)) hst83 (fun cx => ⟨_, rdonex (CtxV.holdF cx (cx.init 3 _ rfl) rfl), (map1 (cx.ou 100))⟩) fun W85 hst85 => ?_
      refine sqv (.bool (!(((R.1.left.length : Int) == 0) == ((R.1.left.length : Int) == 0)))) hst85 (by
          exact sv0 rfl rfl rfl rfl rfl (fun _ _ _ h => h) fun ρ β W X cx => by
            have fF99 : ρ (.tmp 99) = .bool ((R.1.left.length : Int) == 0) := (cx.ou 99)
            have fF101 : ρ (.tmp 101) = .bool ((R.1.left.length : Int) == 0) := (cx.ou 101)
            simp [go_sem, fF99, fF101]) fun W86 hst86 => ?_
      exact sqE hst86
    refine sqwx ?_
    refine sqp [sPo 103 ((!(R.2.used == R.2.used)) || (R.2.err != R.2.err)) (!(((R.1.left.length : Int) == 0) == ((R.1.left.length : Int) == 0))), .m 104 103] ?_
    refine sqwW 104 [105, 106, 107, 108, 109] ?_ hst87 rfl (fun hq => ?_) fun W95 hst95 => ?_
    rotate_left
    · refine sqp [.m 105 9] ?_
      refine sqk (vi R.1.leaf) hst87 (fun cx => ⟨_, kleaf_pk (CtxV.holdF cx (cx.init 1 _ rfl) rfl), (map1 (cx.ou 105))⟩) fun W91 hst91 => ?_
      refine sqp [.m 107 10] ?_
      refine sqk (vi R.1.leaf) hst91 (fun cx => ⟨_, rleafx (CtxV.holdF cx (cx.init 3 _ rfl) rfl), (map1 (cx.ou 107))⟩) fun W93 hst93 => ?_
      refine sqp [.k 109 (.bool (R.1.leaf != R.1.leaf))] ?_
      exact sqE hst93
    refine sqwx ?_
    refine sqp [sPo 110 (((!(R.2.used == R.2.used)) || (R.2.err != R.2.err)) || (!(((R.1.left.length : Int) == 0) == ((R.1.left.length : Int) == 0)))) (R.1.leaf != R.1.leaf), .m 111 110] ?_
    refine sqw 111 [112, 113, 114] rfl (fun _ => sqp [.m 112 18, .m 113 21, .k 114 (.bool (R.1.fro != R.1.fro))] sqe) ?_
    refine sqp [sPo 115 ((((!(R.2.used == R.2.used)) || (R.2.err != R.2.err)) || (!(((R.1.left.length : Int) == 0) == ((R.1.left.length : Int) == 0)))) || (R.1.leaf != R.1.leaf)) (R.1.fro != R.1.fro), .m 116 115] ?_
    refine sqw 116 [117, 118, 119] rfl (fun _ => sqp [.m 117 19, .m 118 22, .k 119 (.bool (R.1.to != R.1.to))] sqe) ?_
    refine sqp [sPo 120 (((((!(R.2.used == R.2.used)) || (R.2.err != R.2.err)) || (!(((R.1.left.length : Int) == 0) == ((R.1.left.length : Int) == 0)))) || (R.1.leaf != R.1.leaf)) || (R.1.fro != R.1.fro)) (R.1.to != R.1.to), .m 121 120] ?_
    refine sqwW 121 [122, 123, 124] ?_ hst95 rfl (fun hq => ?_) fun W111 hst111 => ?_
    rotate_left
    · refine sqp [.m 122 20, .m 123 23] ?_
      refine sqv (.bool (!(R.1.spl == R.1.spl))) hst95 (by
          exact sv0 rfl rfl rfl rfl rfl (fun _ _ _ h => h) fun ρ β W X cx => by
            have fF122 : ρ (.tmp 122) = .bool R.1.spl := (cx.ou 122)
            have fF123 : ρ (.tmp 123) = .bool R.1.spl := (cx.ou 123)
            simp [go_sem, fF122, fF123]) fun W110 hst110 => ?_
      exact sqE hst110
    refine sqwx ?_
    refine sqp [sPo 125 ((((((!(R.2.used == R.2.used)) || (R.2.err != R.2.err)) || (!(((R.1.left.length : Int) == 0) == ((R.1.left.length : Int) == 0)))) || (R.1.leaf != R.1.leaf)) || (R.1.fro != R.1.fro)) || (R.1.to != R.1.to)) (!(R.1.spl == R.1.spl))] ?_
    refine then_normal (wbs (fun hs113 => ?_) fun hs113 => ?_)
    · have hs113p := hs113
      simp only [zB] at hs113p
      refine wp_seq (sqr (sqp [.k 6 (.bool false)] ?_))
      refine then_normal (wp_ret (then_ret (blk_ret (then_ret (then_ret (blk_ret (then_ret ?_)))))))
      refine bpr (.bool false) (results_1 Try.results3 rpt) ?_
      exfalso; have h_ := hs113; simp at h_
    have hs113p := hs113
    simp only [zB] at hs113p
    obtain ⟨⟨⟨⟨⟨⟨hs113p1, hs113p2⟩, hs113p3⟩, hs113p4⟩, hs113p5⟩, hs113p6⟩, hs113p7⟩ := hs113p
    refine wp_skip (then_normal (wp_seq (wp_seq (sqr (sqp [.m 126 15] ?_)))))
    refine then_normal (wbs (fun hs116 => ?_) fun hs116 => ?_)
    · refine sqr (sqp [.m 127 11, sI 128 (nx + 1) (by omega), .m 11 128] ?_)
      refine then_normal (sqr (sqp [.m 129 8, .m 130 14] ?_))
      refine sqc0s (fun X_ => X_.fp) (.tuple #[]) (fun r6_122 => eBk B27_5 (doB ps R.2.eds) r6_122) 0 hst111 (by
          refine svA fun ρ β W X cx => ?_
          refine DoesU.call (run_callF (args := #[vp B27_5, .slice A59_42 R.2.eds.length c59_42]) rfl cx.sees rfl (by kernel_rfl) (map2 (cx.ou 129) (cx.ou 130))) ?_
          refine (rdo_any B27_5 ps _ 60 _ _ R.2.eds _ (CtxV.holdF cx (cx.init 0 _ rfl) rfl) (CtxV.ltF cx (cx.init 0 _ rfl) rfl) (CtxV.keepAt cx (cx.init 2 _ rfl) (cx.init 0 _ rfl) rfl rfl (by decide)) hedl hp60 (by decide) hpb.its).mono ?_
          rintro e W1 ⟨rfl, fp4, hs4⟩
          refine ⟨_, rfl, post_obj (E := eBk B27_5 ps fb) [eBk B27_5 (doB ps R.2.eds) fp4] (cx.init 0 _ rfl) rfl rfl hs4 (fun σ β' X' hs hb hv hN => ?_)⟩
          have hv1 := (hv 131 rfl).1; have hv2 := (hv 131 rfl).2
          exact ⟨hv1.trans rfl, eBk_self ((List.cons.inj hN).1)⟩) fun r6_122 W122 hst122 => ?_
      refine blk_normal (then_normal (sqr (sqp [.m 42 12, sI 43 ((i : Int) + 1) (by omega), .m 12 43] ?_)))
      refine then_normal ?_
      refine ⟨30 - ((i + 1)), by omega, ?_⟩
      exact ⟨(i + 1), (doB ps R.2.eds), (nx + 1), R.1, r6_122, r3_42, r4_43, by omega, (hpb.mono (by omega)).do hedm, by rw [doB_len]; exact hp60, hc82, by omega, hpu2, hrt2, rfl, (by kernel_rfl), hst122.pk [0, 1, 3]⟩
    refine wp_skip (then_normal (sqr (sqp [.m 129 8, .m 130 14] ?_)))
    refine sqc0s (fun X_ => X_.fp) (.tuple #[]) (fun r6_128 => eBk B27_5 (doB ps R.2.eds) r6_128) 0 hst111 (by
        refine svA fun ρ β W X cx => ?_
        refine DoesU.call (run_callF (args := #[vp B27_5, .slice A59_42 R.2.eds.length c59_42]) rfl cx.sees rfl (by kernel_rfl) (map2 (cx.ou 129) (cx.ou 130))) ?_
        refine (rdo_any B27_5 ps _ 60 _ _ R.2.eds _ (CtxV.holdF cx (cx.init 0 _ rfl) rfl) (CtxV.ltF cx (cx.init 0 _ rfl) rfl) (CtxV.keepAt cx (cx.init 2 _ rfl) (cx.init 0 _ rfl) rfl rfl (by decide)) hedl hp60 (by decide) hpb.its).mono ?_
        rintro e W1 ⟨rfl, fp4, hs4⟩
        refine ⟨_, rfl, post_obj (E := eBk B27_5 ps fb) [eBk B27_5 (doB ps R.2.eds) fp4] (cx.init 0 _ rfl) rfl rfl hs4 (fun σ β' X' hs hb hv hN => ?_)⟩
        have hv1 := (hv 131 rfl).1; have hv2 := (hv 131 rfl).2
        exact ⟨hv1.trans rfl, eBk_self ((List.cons.inj hN).1)⟩) fun r6_128 W128 hst128 => ?_
    refine blk_normal (then_normal (sqr (sqp [.m 42 12, sI 43 ((i : Int) + 1) (by omega), .m 12 43] ?_)))
    refine then_normal ?_
    refine ⟨30 - ((i + 1)), by omega, ?_⟩
    exact ⟨(i + 1), (doB ps R.2.eds), nx, R.1, r6_128, r3_42, r4_43, by omega, (hpb.mono (by omega)).do hedm, by rw [doB_len]; exact hp60, hc82, by omega, hpu2, hrt2, rfl, (by kernel_rfl), hst128.pk [0, 1, 3]⟩
  refine wp_exit (then_exit (then_exit (blk_eq (then_normal (wp_seq (sqr (sqp [.k 132 (.bool true), .k 6 (.bool true)] ?_)))))))
  refine then_normal (wp_ret ?_)
  refine bpr (.bool true) (results_1 Try.results3 rpt) ?_
  exact Ret.bool rfl hst23.ext
end
end Go.Proofs.Ytjlcoglmjldjbaa
namespace Go.Proofs.Ytjlcoglmjldjbaa
section
open Go.ChangeShapes Go.WideShapes Go.ChangeAt Go.RowKit Go.Deep Go.Joins
set_option linter.unusedVariables false
set_option linter.unusedSimpArgs false
theorem ownKnob_none : ownKnob Try.prog.godebug = none := by kernel_rfl
theorem laidOut : laidOutB Try.prog = true := by kernel_rfl
section
variable {H : Type} {enc : TypeId × Value → H} {P : Program}
theorem trodAll_stays (hl : laidOutB P = true) {W W' : World} {sp : Nat → Bool} : ∀ {ts : List TypeId} {vs : List Value} {ds : List (DataW H)} {ps : List MemPlace}, (∀ t ∈ ts, P.readableRec t = true ∧ t < P.types.size) →
    DataW.TrodAll enc P W 0 (fun _ => true) true ts vs ds ps → (∀ p ∈ ps, W.sameAt W' p) → (∀ p ∈ ps, sp p.block = true) → DataW.TrodAll enc P W' 0 sp true ts vs ds ps
  | [], [], [], _, _, h, _, _ => h
  | t :: _, _ :: _, _ :: _, _, hT, ⟨p, q, h1, h2, e⟩, hsm, hs =>
    ⟨p, q, WideElems.Trod_stays hl (hT t (by simp)).1 (hT t (by simp)).2 h1 (fun x hx => hsm x (by rw [e]; exact List.mem_append_left _ hx)) (fun x hx => hs x (by rw [e]; exact List.mem_append_left _ hx)),
      trodAll_stays hl (fun t ht => hT t (by simp [ht])) h2 (fun x hx => hsm x (by rw [e]; exact List.mem_append_right _ hx)) (fun x hx => hs x (by rw [e]; exact List.mem_append_right _ hx)), e⟩
/-- THE POST OF A LAW: true, and the input reads as it did, where the call wrote nothing that was there. -/
theorem law_post {f : Func} {s : ChangeSpec} {fresh handsOn again : Bool} {W W' : World} {args : Array Value} {ds gs : List (DataW H)} {before : List MemPlace} {tb : TypeId}
    (hl : laidOutB P = true) (hT : ∀ t ∈ f.params.toList, P.readableRec t = true ∧ t < P.types.size) (hr : f.resultTypes = #[tb]) (hb : P.underlying tb = some .bool)
    (hW : DataW.Whole enc P f.params.toList s.vars false W args.toList ds gs before) (hvs : s.vars = [])
    (hres : (s.fn H (ds ++ gs)).results = [.lit (.bool true)]) (hargs : (s.fn H (ds ++ gs)).args = ds) (hvars : (s.fn H (ds ++ gs)).vars = []) (hx : Ext W W') :
    s.post enc P f false fresh handsOn again W args (.bool true) W' := by
  have hlt : ∀ p ∈ before, p.block < W.heap.size := fun p hp => hW.lt p hp
  have hold : ∀ p ∈ before, (fun b => decide (b < W.heap.size)) p.block = true := fun p hp => by simpa using hlt p hp
  have hW0 := hW
  obtain ⟨p, q, hA, hV, rfl, hz, hn⟩ := hW
  rw [hvs] at hV
  obtain ⟨rfl, rfl⟩ := trodVars_none hV
  rw [List.append_nil] at hlt hold hz
  have HA : ∀ sp : Nat → Bool, (∀ x ∈ p, sp x.block = true) → DataW.TrodAll enc P W' 0 sp true f.params.toList args.toList (s.fn H (ds ++ [])).args p := fun sp hs => by
    rw [hargs]
    exact trodAll_stays hl hT hA (fun x hx' => hx.out.same (hlt x hx')) hs
  have HR : ∀ (b : Nat) (sp : Nat → Bool) (hd : Bool), DataW.TrodAll enc P W' b sp hd f.resultTypes.toList ((Value.bool true).resultList f.resultTypes.size) (s.fn H (ds ++ [])).results [] := fun b sp hd => by
    rw [hres, hr]
    exact trodAll_cons_mk (shut_bool hb _) trodAll_mk0
  have HV : ∀ sp : Nat → Bool, DataW.TrodVars enc P W' sp s.vars (s.fn H (ds ++ [])).vars [] := fun sp => by
    rw [hvs, hvars]
    rfl
  refine ⟨ds, [], p ++ [], [], p, [], hW0, HR _ _ _, HA _ hold, HV _, World.keptBut_mono (fun x hx' => ⟨hx', ?_⟩) (hx.out.frame (· ∈ p ++ [])), fun _ => ?_⟩
  · rw [List.append_nil] at hx'
    exact Or.inr (Or.inl hx')
  · refine ⟨?_, _, _, ([] ++ p) ++ [], ⟨[] ++ p, [], trodAll_append (HA _ (fun _ _ => rfl)) (HR _ _ _), HV _, rfl, ?_, fun ha => by cases ha⟩, ?_⟩
    · exact ok_one hr rfl (okWide_bool_mk hb _)
    · intro b off hp
      have hin : MemPlace.cell b off ∈ p := by simpa using hp
      rw [hx.out.frozen (hlt _ hin)]
      exact hz b off hin
    · intro x hx' _
      simpa using hx'
end
end
end Go.Proofs.Ytjlcoglmjldjbaa
namespace Go.Proofs.Ytjlcoglmjldjbaa
section
open Go.ChangeShapes Go.WideShapes Go.ChangeAt Go.RowKit Go.Deep Go.Joins
set_option linter.unusedVariables false
set_option linter.unusedSimpArgs false
/-- the shape of a type; 'sl e by': a slice, an element takes 'by' bytes; 'st': a struct or an array -/
inductive Sh where
  | int (k : IntKind)
  | bool
  | str
  | sl (e : Sh) (bs : Nat)
  | st (fs : List Sh)
mutual
def Sh.n : Sh → Nat
  | .st fs => Sh.ns fs
  | .int _ => 1
  | .bool => 1
  | .str => 1
  | .sl _ _ => 1
def Sh.ns : List Sh → Nat
  | [] => 0
  | f :: fs => f.n + Sh.ns fs
end
mutual
def Shows (w : World) : Sh → List Value → Prop
  | .int k, cs => ∃ z, cs = [.int k z] ∧ (Lit.int k z).wf = true
  | .bool, cs => ∃ b, cs = [.bool b]
  | .str, cs => ∃ s : ByteArray, cs = [.string s] ∧ s.size ≤ 140737488351232
  | .sl e bs, cs => ∃ (A : Option Addr) (n c : Nat) (xs : List Value), cs = [.slice A n c] ∧ At w A xs ∧ xs.length = n * e.n ∧ n ≤ c ∧ c * bs ≤ 140737488351232 ∧ ∀ i, i < n → Shows w e ((xs.drop (i * e.n)).take e.n)
  | .st fs, cs => ShowsL w fs cs
def ShowsL (w : World) : List Sh → List Value → Prop
  | [], cs => cs = []
  | f :: fs, cs => ∃ a b, cs = a ++ b ∧ Shows w f a ∧ ShowsL w fs b
end
mutual
def Sh.fits (P : Program) : Sh → TypeId → Bool
  | .int k, t => match P.underlying t with | some (.int k') => decide (k' = k) | _ => false
  | .bool, t => match P.underlying t with | some .bool => true | _ => false
  | .str, t => match P.underlying t with | some .string => true | _ => false
  | .sl e bs, t => match P.underlying t with | some (.slice u) => e.fits P u && decide (P.cellsOf u = e.n) && decide (P.bytesOf u = bs) && decide (0 < e.n) | _ => false
  | .st fs, t => match P.underlying t with
    | some (.struct gs) => decide (P.cellsOf t = Sh.ns fs) && Sh.fitsF P fs gs.toList 0
    | some (.array n u) => decide (P.cellsOf t = Sh.ns fs) && decide (fs.length = n) && Sh.fitsA P fs u
    | _ => false
def Sh.fitsF (P : Program) : List Sh → List Field → Nat → Bool
  | [], [], _ => true
  | f :: fs, g :: gs, off => decide (g.offset = off) && decide (P.cellsOf g.type = f.n) && f.fits P g.type && Sh.fitsF P fs gs (off + f.n)
  | _, _, _ => false
def Sh.fitsA (P : Program) : List Sh → TypeId → Bool
  | [], _ => true
  | f :: fs, u => decide (P.cellsOf u = f.n) && f.fits P u && Sh.fitsA P fs u
end
theorem mapM_at {α β : Type} {f : α → Option β} : ∀ {l : List α} {ys : List β}, l.mapM f = some ys → ys.length = l.length ∧ ∀ (i : Nat) (a : α), l[i]? = some a → f a = ys[i]?
  | [], ys, h => by simp at h; subst h; simp
  | a :: l, ys, h => by
    simp only [List.mapM_cons, Option.bind_eq_bind, Option.pure_def, Option.bind_eq_some_iff] at h
    obtain ⟨b, hb, bs, hbs, he⟩ := h
    obtain rfl : b :: bs = ys := by simpa using he
    obtain ⟨h1, h2⟩ := mapM_at hbs
    refine ⟨by simp [h1], fun i x hx => ?_⟩
    cases i with
    | zero => simp at hx; subst hx; simpa using hb
    | succ i => simpa using h2 i x (by simpa using hx)
section
variable {H : Type} {enc : TypeId × Value → H} {P : Program}
theorem weightsAll_at {e : TypeId} : ∀ {ds : List (DataW H)} (i : Nat) (d : DataW H), ds[i]? = some d → ∀ x ∈ d.weights P e, x ∈ DataW.weightsAll P e ds
  | [], i, d, h, x, hx => by simp at h
  | d0 :: ds, 0, d, h, x, hx => by
    simp at h; subst h
    simp only [DataW.weightsAll, List.mem_append]; exact .inl hx
  | d0 :: ds, i + 1, d, h, x, hx => by
    simp only [DataW.weightsAll, List.mem_append]
    exact .inr (weightsAll_at i d (by simpa using h) x hx)
/-- the cells of a slice's elements -/
theorem cells_row {w : World} {a : Addr} {m len : Nat} (hm : 0 < m) (h : ∀ i, i < len → ∃ csi, w.cells? 0 (a.add (i * m)) m = some csi) :
    ∃ xs : List Value, xs.length = len * m ∧ At w (some a) xs ∧ ∀ i, i < len → ∀ csi, w.cells? 0 (a.add (i * m)) m = some csi → (xs.drop (i * m)).take m = csi := by
  have key : ∀ i, i < len → ∀ csi, w.cells? 0 (a.add (i * m)) m = some csi → csi.length = m ∧ ∀ r, r < m → w.cell? (a.add (i * m + r)) = csi[r]? := by
    intro i hi csi hc
    unfold World.cells? at hc
    rw [if_pos (Nat.zero_le _)] at hc
    obtain ⟨h1, h2⟩ := mapM_at hc
    refine ⟨by simpa using h1, fun r hr => ?_⟩
    have := h2 r r (by simp [hr])
    rw [add_add'] at this
    exact this
  have each : ∀ j, j < len * m → ∃ u, w.cell? (a.add j) = some u := by
    intro j hj
    have hi : j / m < len := by rw [Nat.div_lt_iff_lt_mul hm]; exact hj
    obtain ⟨csi, hc⟩ := h _ hi
    obtain ⟨h1, h2⟩ := key _ hi _ hc
    have hr := Nat.mod_lt j hm
    have := h2 _ hr
    rw [show j / m * m + j % m = j by rw [Nat.mul_comm]; exact Nat.div_add_mod j m] at this
    rw [List.getElem?_eq_getElem (by omega)] at this
    exact ⟨_, this⟩
  refine ⟨(List.range (len * m)).map fun j => (w.cell? (a.add j)).getD undef, by simp, fun j u hu => ?_, fun i hi csi hc => ?_⟩
  · rw [List.getElem?_map] at hu
    rcases Nat.lt_or_ge j (len * m) with hj | hj
    · obtain ⟨v, hv⟩ := each j hj
      rw [List.getElem?_range hj] at hu
      simp only [Option.map_some, hv, Option.getD_some, Option.some.injEq] at hu
      subst hu
      have := World.block_lt_of_cell? _ _ hv
      rw [add_block] at this
      exact ⟨a, rfl, this, hv⟩
    · rw [List.getElem?_eq_none (by simpa using hj)] at hu; cases hu
  · obtain ⟨h1, h2⟩ := key i hi csi hc
    have hb : i * m + m ≤ len * m := by
      have : (i + 1) * m ≤ len * m := Nat.mul_le_mul_right m hi
      rw [Nat.add_mul, Nat.one_mul] at this
      exact this
    apply List.ext_getElem?
    intro r
    rw [List.getElem?_take]
    by_cases hr : r < m
    · rw [if_pos hr, List.getElem?_drop, List.getElem?_map, List.getElem?_range (by omega), Option.map_some, h2 r hr, List.getElem?_eq_getElem (by omega)]
      rfl
    · rw [if_neg hr, List.getElem?_eq_none (by omega)]
mutual
theorem sees_of {w : World} : ∀ (s : Sh) (t : TypeId) (fuel : Nat) (cs : List Value) (x : DataW H × List MemPlace), s.fits P t = true → DataW.trod enc P w 0 (fun _ => true) true fuel t cs = some x →
    (∀ n ∈ x.1.weights P t, n ≤ reachBytes) → Shows w s cs
  | .int k, t, fuel, cs, x, hf, h, hw => by
    simp only [Sh.fits] at hf
    split at hf
    · rename_i k' hu
      obtain rfl := of_decide_eq_true hf
      obtain ⟨z, hc, _, hz⟩ := DataW.trod_int hu h
      exact ⟨z, hc, hz⟩
    · cases hf
  | .bool, t, fuel, cs, x, hf, h, hw => by
    simp only [Sh.fits] at hf
    split at hf
    · rename_i hu
      obtain ⟨b, hc, _⟩ := DataW.trod_bool hu h
      exact ⟨b, hc⟩
    · cases hf
  | .str, t, fuel, cs, x, hf, h, hw => by
    simp only [Sh.fits] at hf
    split at hf
    · rename_i hu
      obtain ⟨s, hc, rfl, _⟩ := DataW.trod_string hu h
      refine ⟨s, hc, ?_⟩
      have := hw s.data.toList.length (by simp [DataW.weights])
      exact this
    · cases hf
  | .sl e bs, t, fuel, cs, x, hf, h, hw => by
    simp only [Sh.fits] at hf
    split at hf
    · rename_i u hu
      simp only [Bool.and_eq_true, decide_eq_true_eq] at hf
      obtain ⟨⟨⟨he, hm⟩, hb⟩, hp⟩ := hf
      rcases DataW.trod_slice hu h with ⟨rfl, rfl⟩ | ⟨a, len, cap, elems, rest, n, _, rfl, rfl, _, hl, _, hlen, hel, hsp, _⟩
      · exact ⟨none, 0, 0, [], rfl, At.nil _ _, by simp, by simp, by simp, fun i hi => by omega⟩
      · obtain ⟨hrl, _⟩ := hsp rfl
        rw [hm] at hel
        have hsz := hw ((elems.length + rest.length) * P.bytesOf u) (by simp [DataW.weights, hu])
        rw [hlen, hrl, hb] at hsz
        have hR : reachBytes = 140737488351232 := rfl
        rw [hR] at hsz
        have hex : ∀ i, i < len → ∃ csi y, w.cells? 0 (a.add (i * e.n)) e.n = some csi ∧ elems[i]? = some y ∧ DataW.trod enc P w 0 (fun _ => true) true n u csi = some y := by
          intro i hi
          have h1 := hel i hi
          rw [List.getElem?_eq_getElem (by omega), Option.bind_eq_some_iff] at h1
          obtain ⟨csi, hc, hy⟩ := h1
          exact ⟨csi, _, hc, List.getElem?_eq_getElem (by omega), hy⟩
        obtain ⟨xs, hxl, hxa, hxe⟩ := cells_row (w := w) (a := a) (len := len) hp (fun i hi => let ⟨csi, _, hc, _⟩ := hex i hi; ⟨csi, hc⟩)
        refine ⟨some a, len, cap, xs, rfl, hxa, hxl, hl, ?_, fun i hi => ?_⟩
        · rw [show len + (cap - len) = cap by omega] at hsz
          exact hsz
        · obtain ⟨csi, y, hc, hy, ht⟩ := hex i hi
          rw [hxe i hi csi hc]
          refine sees_of e u n csi y he ht fun z hz => hw z ?_
          simp only [DataW.weights, hu, List.mem_cons, List.mem_append]
          refine .inr (.inl ?_)
          exact weightsAll_at i y.1 (by rw [List.getElem?_map, hy]; rfl) z hz
    · cases hf
  | .st fs, t, fuel, cs, x, hf, h, hw => by
    simp only [Sh.fits] at hf
    split at hf
    · rename_i gs hu
      simp only [Bool.and_eq_true, decide_eq_true_eq] at hf
      obtain ⟨hc, hF⟩ := hf
      obtain ⟨xs, n, _, rfl, hcl, hxl, hat⟩ := DataW.trod_struct hu h
      have := seesF_of fs gs.toList 0 cs xs n hF (fun i g hg => hat i g (by rw [← hg]; exact (Array.getElem?_toList ..).symm)) (by simpa using hxl) (by omega) (fun z hz => hw z (by simp only [DataW.weights, hu]; exact hz))
      rw [List.drop_zero, List.take_of_length_le (by omega)] at this
      exact this
    · rename_i n u hu
      simp only [Bool.and_eq_true, decide_eq_true_eq] at hf
      obtain ⟨⟨hc, hn⟩, hF⟩ := hf
      obtain ⟨xs, m, _, rfl, hcl, hxl, hat⟩ := DataW.trod_array hu h
      have := seesA_of fs u 0 cs xs m hF (fun i hi => by rw [Nat.zero_add]; exact hat i (by omega)) (by omega) (by rw [Nat.zero_mul, Nat.zero_add]; omega) (fun z hz => hw z (by simp only [DataW.weights, hu]; exact hz))
      rw [Nat.zero_mul, List.drop_zero, List.take_of_length_le (by omega)] at this
      exact this
    · cases hf
theorem seesF_of {w : World} : ∀ (fs : List Sh) (gs : List Field) (off : Nat) (cs : List Value) (xs : List (DataW H × List MemPlace)) (m : Nat), Sh.fitsF P fs gs off = true →
    (∀ (i : Nat) (g : Field), gs[i]? = some g → DataW.trod enc P w 0 (fun _ => true) true m g.type ((cs.drop g.offset).take (P.cellsOf g.type)) = xs[i]?) → xs.length = gs.length → off + Sh.ns fs ≤ cs.length →
    (∀ n ∈ DataW.weightsEach P (gs.map (·.type)) (xs.map (·.1)), n ≤ reachBytes) → ShowsL w fs ((cs.drop off).take (Sh.ns fs))
  | [], [], off, cs, xs, m, hf, h, hx, hl, hw => by simp [ShowsL, Sh.ns]
  | f :: fs, g :: gs, off, cs, xs, m, hf, h, hx, hl, hw => by
    simp only [Sh.fitsF, Bool.and_eq_true, decide_eq_true_eq] at hf
    obtain ⟨⟨⟨ho, hc⟩, hff⟩, hF⟩ := hf
    simp only [Sh.ns] at hl
    match xs, hx with
    | y :: ys, hx =>
      have h0 := h 0 g rfl
      simp only [List.getElem?_cons_zero] at h0
      rw [ho, hc] at h0
      refine ⟨(cs.drop off).take f.n, (cs.drop (off + f.n)).take (Sh.ns fs), ?_, sees_of f g.type m _ y hff h0 (fun z hz => hw z ?_), seesF_of fs gs (off + f.n) cs ys m hF (fun i g' hg => ?_) (by simpa using hx) (by omega) (fun z hz => hw z ?_)⟩
      · rw [Sh.ns, ← List.drop_drop, List.take_add]
      · simp only [List.map_cons, DataW.weightsEach, List.mem_append]; exact .inl hz
      · simpa using h (i + 1) g' (by simpa using hg)
      · simp only [List.map_cons, DataW.weightsEach, List.mem_append]; exact .inr hz
  | [], _ :: _, off, cs, xs, m, hf, h, hx, hl, hw => by simp [Sh.fitsF] at hf
  | _ :: _, [], off, cs, xs, m, hf, h, hx, hl, hw => by simp [Sh.fitsF] at hf
theorem seesA_of {w : World} : ∀ (fs : List Sh) (u : TypeId) (k : Nat) (cs : List Value) (xs : List (DataW H × List MemPlace)) (m : Nat), Sh.fitsA P fs u = true →
    (∀ i, i < fs.length → DataW.trod enc P w 0 (fun _ => true) true m u ((cs.drop ((k + i) * P.cellsOf u)).take (P.cellsOf u)) = xs[i]?) → xs.length = fs.length → k * P.cellsOf u + Sh.ns fs ≤ cs.length →
    (∀ n ∈ DataW.weightsAll P u (xs.map (·.1)), n ≤ reachBytes) → ShowsL w fs ((cs.drop (k * P.cellsOf u)).take (Sh.ns fs))
  | [], u, k, cs, xs, m, hf, h, hx, hl, hw => by simp [ShowsL, Sh.ns]
  | f :: fs, u, k, cs, xs, m, hf, h, hx, hl, hw => by
    simp only [Sh.fitsA, Bool.and_eq_true, decide_eq_true_eq] at hf
    obtain ⟨⟨hc, hff⟩, hF⟩ := hf
    simp only [Sh.ns] at hl
    match xs, hx with
    | y :: ys, hx =>
      have h0 := h 0 (by simp)
      simp only [List.getElem?_cons_zero, Nat.add_zero] at h0
      have hk : (k + 1) * P.cellsOf u = k * P.cellsOf u + f.n := by rw [Nat.add_mul, Nat.one_mul, hc]
      refine ⟨(cs.drop (k * P.cellsOf u)).take f.n, (cs.drop ((k + 1) * P.cellsOf u)).take (Sh.ns fs), ?_, sees_of f u m _ y hff (by rw [← hc]; exact h0) (fun z hz => hw z ?_), seesA_of fs u (k + 1) cs ys m hF (fun i hi => ?_) (by simpa using hx) (by rw [hk]; omega) (fun z hz => hw z ?_)⟩
      · rw [Sh.ns, hk, ← List.drop_drop, List.take_add]
      · simp only [List.map_cons, DataW.weightsAll, List.mem_append]; exact .inl hz
      · rw [show k + 1 + i = k + (i + 1) by omega]
        simpa using h (i + 1) (by simp; omega)
      · simp only [List.map_cons, DataW.weightsAll, List.mem_append]; exact .inr hz
end
end
/-- an argument opened -/
theorem sees_arg {H : Type} {enc : TypeId × Value → H} {P : Program} {w : World} {ts : List TypeId} {ds : List (DataW H)} (hsz : (DataW.weightsEach P ts ds).all (· ≤ reachBytes) = true) (j : Nat) {t : TypeId} {v : Value} {d : DataW H} {p : List MemPlace} (s : Sh)
    (hf : s.fits P t = true) (ht : ts[j]? = some t) (hd : ds[j]? = some d) (h : DataW.Trod enc P w 0 (fun _ => true) true t v d p) : Shows w s v.cells.toList := by
  obtain ⟨fuel, h⟩ := h
  exact sees_of s t fuel _ (d, p) hf h fun n hn => of_decide_eq_true (List.all_eq_true.1 hsz n (DataW.weights_mem_each ht hd n hn))
/-- the elements of a slice as a list -/
theorem chunks {T : Type} (f : T → List Value) (p : T → Prop) (m : Nat) : ∀ (n : Nat) (xs : List Value), xs.length = n * m → (∀ i, i < n → ∃ t, (xs.drop (i * m)).take m = f t ∧ p t) →
    ∃ ts : List T, ts.length = n ∧ xs = ts.flatMap f ∧ ∀ t ∈ ts, p t
  | 0, xs, hl, h => ⟨[], rfl, by simpa using hl, by simp⟩
  | n + 1, xs, hl, h => by
    obtain ⟨t, ht, hp⟩ := h 0 (by omega)
    rw [Nat.zero_mul, List.drop_zero] at ht
    have hle : (n + 1) * m = m + n * m := by rw [Nat.add_mul, Nat.one_mul, Nat.add_comm]
    obtain ⟨ts, h1, h2, h3⟩ := chunks f p m n (xs.drop m) (by rw [List.length_drop]; omega) (fun i hi => by
      obtain ⟨t', ht', hp'⟩ := h (i + 1) (by omega)
      refine ⟨t', ?_, hp'⟩
      rw [List.drop_drop, show m + i * m = (i + 1) * m by rw [Nat.add_mul, Nat.one_mul, Nat.add_comm]]
      exact ht')
    refine ⟨t :: ts, by simp [h1], ?_, by simpa using ⟨hp, h3⟩⟩
    rw [List.flatMap_cons, ← h2, ← ht, List.take_append_drop]
theorem flatMap_one {T : Type} (f : T → Value) : ∀ ts : List T, (ts.flatMap fun t => [f t]) = ts.map f
  | [] => rfl
  | t :: ts => by simp [flatMap_one f ts]
/-- a slice of ints -/
theorem sees_ints {w : World} {k : IntKind} {bs : Nat} {cs : List Value} (h : Shows w (.sl (.int k) bs) cs) :
    ∃ (A : Option Addr) (c : Nat) (zs : List Int), cs = [.slice A zs.length c] ∧ At w A (zs.map (Value.int k)) ∧ zs.length ≤ c ∧ c * bs ≤ 140737488351232 ∧ ∀ z ∈ zs, (Lit.int k z).wf = true := by
  simp only [Shows, Sh.n, Nat.mul_one] at h
  obtain ⟨A, n, c, xs, rfl, hA, hl, hc, hb, he⟩ := h
  obtain ⟨zs, h1, h2, h3⟩ := chunks (fun z => [Value.int k z]) (fun z => (Lit.int k z).wf = true) 1 n xs (by omega) (fun i hi => by rw [Nat.mul_one]; exact he i hi)
  rw [flatMap_one] at h2
  subst h1 h2
  exact ⟨A, c, zs, rfl, hA, hc, hb, h3⟩
/-- what an argument is -/
def ShowsV (w : World) (s : Sh) (v : Value) : Prop := match s with
  | .st fs => ∃ cs : List Value, v = .agg ⟨cs⟩ ∧ ShowsL w fs cs
  | s => Shows w s [v]
theorem sees_val {P : Program} {W w : World} {r : Reach} {b0 : Nat} {t : TypeId} {v : Value} (s : Sh) (hf : s.fits P t = true) (hv : Value.okWide P W r b0 t v) (h : Shows w s v.cells.toList) : ShowsV w s v := by
  cases s with
  | int k =>
    simp only [Sh.fits] at hf
    split at hf
    · rename_i k' hu
      obtain ⟨n, rfl⟩ := okWide_int hu hv
      exact h
    · cases hf
  | bool =>
    simp only [Sh.fits] at hf
    split at hf
    · rename_i hu
      obtain ⟨n, rfl⟩ := okWide_bool hu hv
      exact h
    · cases hf
  | str =>
    simp only [Sh.fits] at hf
    split at hf
    · rename_i hu
      obtain ⟨n, rfl⟩ := okWide_string hu hv
      exact h
    · cases hf
  | sl e bs =>
    simp only [Sh.fits] at hf
    split at hf
    · rename_i u hu
      obtain ⟨a, l, c, rfl⟩ := okWide_slice hu hv
      exact h
    · cases hf
  | st fs =>
    simp only [Sh.fits] at hf
    split at hf
    · rename_i gs hu
      obtain ⟨cs, rfl, _⟩ := okWide_struct hu hv
      exact ⟨cs.toList, rfl, h⟩
    · rename_i n u hu
      simp only [Value.okWide, hu] at hv
      obtain ⟨cs, rfl, _⟩ := hv
      exact ⟨cs.toList, rfl, h⟩
    · cases hf
end
end Go.Proofs.Ytjlcoglmjldjbaa
namespace Go.Proofs.Ytjlcoglmjldjbaa.treeGrows
section
open Go.ChangeShapes Go.WideShapes Go.ChangeAt Go.RowKit Go.Deep Go.Joins
set_option linter.unusedVariables false
set_option maxRecDepth 100000 in
theorem lifted (os : Os) (started : os.Started) (H : Type) (enc : TypeId × Value → H) :
    ReturnsInHanded {} Try.checked os 3 .any (Rows.treeGrowsSpec.pre6 enc Try.prog Try.f3 Rows.treeGrowsRow.domain false) (Rows.treeGrowsSpec.post enc Try.prog Try.f3 false true false false) := by
  refine returnsInHanded_of_change_sized (C := Try.checked) ownKnob_none started (by kernel_rfl) Try.func3
    (ChangeSpec.witness6 (enc := enc) (C := Try.checked) false ⟨#[], #[.slice none 0 0, .int .i64 0, .int .i64 0], []⟩ 8 (by kernel_rfl) (by kernel_rfl) (by kernel_rfl) (by kernel_rfl)) ?_
  intro W base args ds gs before hval0 hW hcnd hsz0 _
  have hval : ∀ (j : Nat) t v, Try.f3.params[j]? = some t → args[j]? = some v → Value.okWide Try.prog W .any base t v := hval0
  have hsz : (DataW.weightsEach Try.prog (Try.f3.params.toList ++ Rows.treeGrowsSpec.plain.varTypes Try.prog) (ds ++ gs)).all (· ≤ reachBytes) = true := hsz0
  clear hsz0 hval0
  have hW' := hW
  obtain ⟨p, q, hA0, hV, rfl, hfz, hnd⟩ := hW
  have hA : DataW.TrodAll enc Try.prog W 0 (fun _ => true) true Try.f3.params.toList args.toList ds p := hA0
  clear hA0
  rw [Try.params3] at hA hval hsz
  obtain ⟨v0, vs0, d0, ds0, p0, q0, hargs, rfl, rfl, h0, r0⟩ := trodAll_cons hA
  obtain ⟨v1, vs1, d1, ds1, p1, q1, rfl, rfl, rfl, h1, r1⟩ := trodAll_cons r0
  obtain ⟨v2, vs2, d2, ds2, p2, q2, rfl, rfl, rfl, h2, r2⟩ := trodAll_cons r1
  obtain ⟨rfl, rfl, rfl⟩ := trodAll_nil r2
  obtain rfl : args = #[v0, v1, v2] := by cases args; simp_all
  obtain ⟨rfl, rfl⟩ := trodVars_none hV
  have s0 := sees_val (.sl (.int .i64) 8) (by kernel_rfl) (hval 0 _ _ rfl rfl) (sees_arg hsz 0 (.sl (.int .i64) 8) (by kernel_rfl) rfl rfl h0)
  have s1 := sees_val (.int .i64) (by kernel_rfl) (hval 1 _ _ rfl rfl) (sees_arg hsz 1 (.int .i64) (by kernel_rfl) rfl rfl h1)
  have s2 := sees_val (.int .i64) (by kernel_rfl) (hval 2 _ _ rfl rfl) (sees_arg hsz 2 (.int .i64) (by kernel_rfl) rfl rfl h2)
  clear hsz
  obtain ⟨A, c, l, hE, atA, lA, bA, wA⟩ := sees_ints s0
  cases hE
  obtain ⟨n, hE, wn⟩ := s1
  cases hE
  obtain ⟨nn, hE, wnn⟩ := s2
  cases hE
  refine (treegrows_any A _ c l n nn W atA rfl).mono fun e W' ⟨he, hx⟩ => ?_
  subst he
  exact ⟨_, rfl, law_post laidOut (by rw [Try.params3]; exact (by decide +kernel)) rfl Try.underlying4 hW' rfl rfl rfl rfl hx⟩
theorem over : Rows.treeGrowsRow.holds Try.pinned (OpenSpec.ofChange Rows.treeGrowsSpec) :=
  OpenClaim.holds_of_wide 3 Try.f3 rfl rfl rfl rfl rfl rfl rfl ⟨rfl, rfl, rfl, rfl, rfl⟩ rfl rfl rfl rfl rfl (by kernel_rfl) Try.func3 (by kernel_rfl)
    (of_decide_eq_true (by kernel_rfl)) (by unfold Func.isWrapper; first | (rw [if_pos (by decide +kernel)]; kernel_rfl) | (rw [if_neg (by decide +kernel)]; exact ⟨rfl, rfl⟩))
    (fun os started H enc _ => lifted os started H enc)
theorem proved : Rows.TreeGrowsSaid :=
  over
end
end Go.Proofs.Ytjlcoglmjldjbaa.treeGrows

/- TreeBytesRow: part 4 of the proof. -/
import Derived.Test.YtjlcoglmjldjbaaZ3
import Derived.Shelf.Abstract
import Derived.Test.YtjlcoglmjldjbaaRows
import Derived.ProofKit
import Derived.OpenShut
import Derived.Below
import Derived.ChangeSame
import Derived.WideKeyArgs
import Derived.SliceStrings
import Derived.ChangeMaps5
import Derived.Lib.SmallJoins
import Derived.SizedLaws
import Derived.WalkKit
set_option linter.unusedVariables false
set_option linter.unusedSimpArgs false
namespace Go.Proofs.Ytjlcoglmjldjbaa
section
open Go.RowKit
set_option linter.unusedVariables false
set_option linter.unusedSimpArgs false
/-- the nodes collected: one node, its entries -/
def eCo (SA : Option Addr) (nd : NoD) (pg : Int) (fp : List Nat) : Ent := ⟨fp, fun W => ∃ EA ec, (∀ ad, SA = some ad → ad.block ∈ fp) ∧ (∀ ad, EA = some ad → ad.block ∈ fp) ∧ At W SA ([(nd, pg, EA, ec)].flatMap ynC) ∧ At W EA (nd.es.flatMap enC)⟩
theorem eCo_self {e : Ent} {SA : Option Addr} {nd : NoD} {pg : Int} {fp : List Nat} (h : e = eCo SA nd pg fp) : e = eCo SA nd pg e.fp := by subst h; rfl
theorem eCo_loc (SA : Option Addr) (nd : NoD) (pg : Int) (fp : List Nat) : (eCo SA nd pg fp).loc := fun W W' hk h => by
  obtain ⟨EA, ec, h1, h2, h3, h4⟩ := h
  exact ⟨EA, ec, h1, h2, at_blocks h3 fun ad e _ => hk _ (h1 ad e), at_blocks h4 fun ad e _ => hk _ (h2 ad e)⟩
theorem own_blkN {W : World} {t sz m lc : Nat} {LA : Option Addr} {xs : List Value} (h : W.ownsRow 0 t sz (.slice LA m lc) m xs) : ∀ ad, LA = some ad → ad.block ∈ (Value.ownBlock (.slice LA m lc)).toList := fun ad e => by
  rcases h.2 with ⟨hv, _⟩ | ⟨g, cap, cur, hv, _⟩
  · injection hv with h2; rw [e] at h2; cases h2
  · subst e; injection hv with h5; injection h5 with h5; subst h5; simp [Value.ownBlock]
def CoPost (nd : NoD) (pg : Int) (w : World) (e : Ending) (w' : World) : Prop := ∃ SA sc fp, e = .returned (.slice SA 1 sc) ∧ St w [] [eCo SA nd pg fp] w'
theorem co_done {w W : World} {SA : Option Addr} {sc n : Nat} {nd : NoD} {pg : Int} {xs : List YnD} {E : Ent} (hz : OneZ pg nd xs E) (h : St w [] [eO 116 7 (.slice SA n sc) n (xs.flatMap ynC), E] W) (hn : n = xs.length) : CoPost nd pg w (.returned (.slice SA n sc)) W := by
  obtain ⟨EA, ec, rfl, rfl⟩ := hz
  subst hn
  have h1 := h.ok (eO 116 7 (.slice SA 1 sc) 1 ([(nd, pg, EA, ec)].flatMap ynC)) (by simp)
  have h2 := h.ok (ynR (nd, pg, EA, ec)) (by simp)
  have hO : W.ownsRow 0 116 7 (.slice SA 1 sc) 1 ([(nd, pg, EA, ec)].flatMap ynC) := h1.holds
  have hR : W.ownsRow 0 104 3 (.slice EA nd.es.length ec) nd.es.length (nd.es.flatMap enC) := h2.holds
  refine ⟨SA, sc, (Value.ownBlock (.slice SA 1 sc)).toList ++ (Value.ownBlock (.slice EA nd.es.length ec)).toList, rfl, h.upd, fun x hx => ?_, List.pairwise_singleton _ _⟩
  rw [List.mem_singleton] at hx
  subst hx
  refine ⟨⟨EA, ec, fun ad e => List.mem_append_left _ (own_blkN hO ad e), fun ad e => List.mem_append_right _ (own_blkN hR ad e), At.of_ownN hO, At.of_ownN hR⟩, eCo_loc _ _ _ _, fun k hk => ?_⟩
  rcases List.mem_append.1 hk with hk | hk
  · exact h1.own k hk
  · exact h2.own k hk
theorem yn_snoc (L : List YnD) (x : YnD) : L.flatMap ynC ++ ynC x = (L ++ [x]).flatMap ynC := by simp
theorem Try.infoNd : (Try.prog.info? 116).map (fun i => (i.zero, i.size, i.bytes)) = some (some (.agg #[.int .i64 0, .int .i64 0, .int .i64 0, .string ByteArray.empty, .bool false, .slice none 0 0, .int .i64 0]), 7, 80) := by kernel_rfl
set_option maxRecDepth 100000 in
set_option maxHeartbeats 2000000 in
theorem kapp_any (b1 b2 b3 : Nat) (root : Int) (nd : NoD) (w : World) (hseq : SeqF Try.prog 99 #[.pointer (some ⟨b1, 0, none⟩), .pointer (some ⟨b2, 0, none⟩), .pointer (some ⟨b3, 0, none⟩)] ynE 1 (OneZ root nd) w) :
    Calls Try.prog 98 #[.slice none 0 0, .func (.func 99) #[] #[.pointer (some ⟨b1, 0, none⟩), .pointer (some ⟨b2, 0, none⟩), .pointer (some ⟨b3, 0, none⟩)]] w (CoPost nd root w) := by
  refine (callsIn_wide (n := 3)).1 (callsIn_of_wp_marks Try.func98 rfl trivial (wpIn_wide.2 ?_) rfl)
  simp only [Try.ntmps98, List.size_toArray, List.length_cons, List.length_nil, Nat.reduceAdd, Nat.reduceSub, Array.replicate_succ, Array.replicate_zero, List.push_toArray, List.append_toArray, List.nil_append, List.cons_append]
  have hst0 := St.start w
  refine wp_seq (wp_region_Y [0, 0] [] [[0]] [] [.a 2, .k 4 (.slice none 0 0)] (fun ix σ β X => match ix with | 0 => σ 2 = vp (pb (β 2)) ∧ X 0 = eB (pb (β 2)) 146 #[.slice none 0 0] | _ => True) [0] [0] [(2, 0, 1, 3), (1, 1, 1, 2)] hst0 ?_ ?_ ?_)
  · exact fun ix _ _ _ _ _ _ hs hb hx h => match ix, h with
    | 0, h => by dsimp only; rw [← hs 2 rfl, ← hb 2 rfl, ← hx 0 rfl]; exact h
    | _ + 1, _ => trivial
  · refine ⟨?_, trivial⟩
    · refine svA fun ρ β W X cx => ?_
      exact dv_box (cs := #[.slice none 0 0]) rfl (cx.ou 0) rfl rfl rfl (fun σ β' X' hs hb hv hx => ⟨hv, hx⟩)
  intro σ β X W1 hD hst1 fr hfr
  obtain ⟨B2_1, hu_B2_1⟩ : ∃ z, pb (β 2) = z := ⟨_, rfl⟩
  simp only [exq 0 ((dTn (hD 0 lq)).2), hu_B2_1] at hst1
  simp only [ed 2 ((dTn (hD 0 lq)).1), hu_B2_1] at hfr
  clear hD hu_B2_1; subst hfr; clear σ β X
  refine then_normal (wp_seq (wp_seq (wp_region_P [0] [.k 6 (.func (.func 99) #[] #[vp b1, vp b2, vp b3])] [(6, 0, 1, 7)] hst1 fun W2 hst2 => ?_)))
  refine then_normal (wp_block ?_)
  have hn3 := nilrowN hst2 116 7
  simp only [List.cons_append, List.nil_append] at hn3
  have hp5 := hn3.pick [0, 1] (by decide) rfl
  refine wp_rangeSF (α := YnD) hp5 rfl (enters_of Try.func99 (by kernel_rfl) rfl) (encs := ynE) (N := 1) (Z := OneZ root nd) (hseq) (fun _ => rfl) (fun pre L => ∃ SA : Option Addr, ∃ n : Nat, ∃ sc : Nat, n = pre.length ∧ L = [eB B2_1 146 #[.slice SA n sc], eO 116 7 (.slice SA n sc) n (pre.flatMap ynC)]) ⟨none, 0, 0, rfl, rfl⟩ (fun xx a_ E_ => ∃ BV : Nat, a_ = ⟨([.slice none 0 0, .func (.func 99) #[] #[vp b1, vp b2, vp b3], vp B2_1, undef, .slice none 0 0, vp BV, .func (.func 99) #[] #[vp b1, vp b2, vp b3], .agg #[vi xx.2.1, vi xx.1.lv, vi xx.1.right, .string xx.1.high, .bool xx.1.dead, .slice xx.2.2.1 xx.1.es.length xx.2.2.2, vi ((xx.1.free : Int))], undef, undef, undef, undef, undef]).toArray, []⟩ ∧ E_ = eB BV 116 #[vi xx.2.1, vi xx.1.lv, vi xx.1.right, .string xx.1.high, .bool xx.1.dead, .slice xx.2.2.1 xx.1.es.length xx.2.2.2, vi ((xx.1.free : Int))]) (fun xx => [.slice none 0 0, .func (.func 99) #[] #[vp b1, vp b2, vp b3], vp B2_1, undef, .slice none 0 0, undef, .func (.func 99) #[] #[vp b1, vp b2, vp b3], .agg #[vi xx.2.1, vi xx.1.lv, vi xx.1.right, .string xx.1.high, .bool xx.1.dead, .slice xx.2.2.1 xx.1.es.length xx.2.2.2, vi ((xx.1.free : Int))], undef, undef, undef, undef, undef]) (fun xx => by kernel_rfl) ?_ ?_ ?_
  · intro rl xx W4 K hK
    have hst4 := St.start W4
    refine wpIn_region_Y [0, 1] [[], [0]] [[0], [1]] [[], [0]] [.a 5, .n] (fun ix σ β X => match ix with | 0 => σ 5 = vp (pb (β 5)) ∧ X 0 = eB (pb (β 5)) 116 #[vi 0, vi 0, vi 0, .string ByteArray.empty, .bool false, .slice none 0 0, vi 0] | 1 => X 1 = eB (pb (β 5)) 116 #[vi xx.2.1, vi xx.1.lv, vi xx.1.right, .string xx.1.high, .bool xx.1.dead, .slice xx.2.2.1 xx.1.es.length xx.2.2.2, vi ((xx.1.free : Int))] | _ => True) [1] [0, 1] [(5, 0, 1, 6)] hst4 ?_ ?_ ?_
    · exact fun ix _ _ _ _ _ _ hs hb hx h => match ix, h with
      | 0, h => by dsimp only; rw [← hs 5 rfl, ← hb 5 rfl, ← hx 0 rfl]; exact h
      | 1, h => by dsimp only; rw [← hb 5 rfl, ← hx 1 rfl]; exact h
      | _ + 2, _ => trivial
    · refine ⟨?_, ?_, trivial⟩
      · refine svA fun ρ β W X cx => ?_
        exact dv_alloc (cs := #[vi 0, vi 0, vi 0, .string ByteArray.empty, .bool false, .slice none 0 0, vi 0]) rfl (by kernel_rfl) rfl rfl (fun σ β' X' hs hb hv hx => ⟨hv, hx⟩)
      · refine svA fun ρ β W X cx => ?_
        exact dv_store (n := 7) rfl (dTn (cx.an 0)).1 (cx.ou 7) (by kernel_rfl) (by kernel_rfl) (by kernel_rfl) cx (dTn (cx.an 0)).2 rfl (nle rfl) (by kernel_rfl) rfl rfl rfl (fun σ β' X' hs hb hx => by rw [hb 5]; exact hx)
    intro σ β X W6 hD hst6 fr hfr
    obtain ⟨B5_6, hu_B5_6⟩ : ∃ z, pb (β 5) = z := ⟨_, rfl⟩
    simp only [exq 1 ((dTn (hD 1 lq))), hu_B5_6] at hst6
    simp only [ed 5 ((dTn (hD 0 lq)).1), hu_B5_6] at hfr
    clear hD hu_B5_6; subst hfr; clear σ β X
    exact hK _ _ _ ⟨_, rfl, rfl⟩ (hst6.pick [0] (by decide) rfl)
  · rintro rl pre xx W7 L7 a7 E7 ⟨SA, n, sc, hn, rfl⟩ hlen7 ⟨BV, rfl, rfl⟩ hst7r
    have hst7 : St W7 (fps ([eB B2_1 146 #[.slice SA n sc], eO 116 7 (.slice SA n sc) n (pre.flatMap ynC)] ++ [eB BV 116 #[vi xx.2.1, vi xx.1.lv, vi xx.1.right, .string xx.1.high, .bool xx.1.dead, .slice xx.2.2.1 xx.1.es.length xx.2.2.2, vi ((xx.1.free : Int))]])) [eB B2_1 146 #[.slice SA n sc], eO 116 7 (.slice SA n sc) n (pre.flatMap ynC), eB BV 116 #[vi xx.2.1, vi xx.1.lv, vi xx.1.right, .string xx.1.high, .bool xx.1.dead, .slice xx.2.2.1 xx.1.es.length xx.2.2.2, vi ((xx.1.free : Int))]] W7 := hst7r
    clear hst7r
    refine wpIn_block (wpIn_region_Y [0, 0, 2, 7, 15] [[0], [2], [], [3, 1], [0]] [[], [], [3], [4], [5]] [[], [], [], [1], [0]] [.c 8 (.slice SA n sc), .c 9 (.agg #[vi xx.2.1, vi xx.1.lv, vi xx.1.right, .string xx.1.high, .bool xx.1.dead, .slice xx.2.2.1 xx.1.es.length xx.2.2.2, vi ((xx.1.free : Int))]), .a 10, .a 11, .n] (fun ix σ β X => match ix with | 0 => True | 1 => True | 2 => σ 10 = .slice ((some ⟨(pb' (β 10)), 0, none⟩)) 1 1 ∧ X 3 = eO 116 7 (.slice ((some ⟨(pb' (β 10)), 0, none⟩)) 1 1) 1 (ynC xx) | 3 => σ 11 = .slice (sA (β 11)) (n + 1) (sC (β 11)) ∧ X 4 = eO 116 7 (.slice (sA (β 11)) (n + 1) (sC (β 11))) (n + 1) ((pre ++ [xx]).flatMap ynC) | 4 => X 5 = eB B2_1 146 #[.slice (sA (β 11)) (n + 1) (sC (β 11))] | _ => True) [2, 3, 4, 5] [0, 1, 2, 3, 4] [(8, 0, 4, 12)] hst7 ?_ ?_ ?_)
    · exact fun ix _ _ _ _ _ _ hs hb hx h => match ix, h with
      | 2, h => by dsimp only; rw [← hs 10 rfl, ← hb 10 rfl, ← hx 3 rfl]; exact h
      | 3, h => by dsimp only; rw [← hs 11 rfl, ← hb 11 rfl, ← hx 4 rfl]; exact h
      | 4, h => by dsimp only; rw [← hb 11 rfl, ← hx 5 rfl]; exact h
      | 0, _ | 1, _ | _ + 5, _ => trivial
    · refine ⟨?_, ?_, ?_, ?_, ?_, trivial⟩
      · exact xs4 rfl id fun cx => run_load1 rfl (by kernel_rfl) (cx.ou 2) ((cx.bi 0 rfl).cell 0)
      · exact xs4 rfl id fun cx => run_loadB (n := 7) rfl (by kernel_rfl) (by kernel_rfl) (cx.ou 5) (cx.bi 2 rfl) (nle rfl) rfl
      · refine svA fun ρ β W X cx => ?_
        have fF9 : ρ (.tmp 9) = .agg #[vi xx.2.1, vi xx.1.lv, vi xx.1.right, .string xx.1.high, .bool xx.1.dead, .slice xx.2.2.1 xx.1.es.length xx.2.2.2, vi ((xx.1.free : Int))] := (cx.an 1)
        exact dv_litN (e := 116) (sz := 7) (xs := [vi xx.2.1, vi xx.1.lv, vi xx.1.right, .string xx.1.high, .bool xx.1.dead, .slice xx.2.2.1 xx.1.es.length xx.2.2.2, vi ((xx.1.free : Int))]) rfl (by simp [go_sem, fF9]) rfl (by decide) rfl rfl (fun σ β' X' hs hb hv hx => ⟨hv, hx⟩)
      · refine svA fun ρ β W X cx => ?_
        obtain ⟨i0, hi0, hz0, hz1, hz2⟩ := info_parts Try.infoNd
        refine dv_appendN (n := n) (m := 1) (nm := n + 1) (sz := 7) (xs := pre.flatMap ynC) (news := ynC xx) (xs' := (pre ++ [xx]).flatMap ynC) rfl (ty := 146) rfl (by kernel_rfl) hi0 hz0 hz1 hz2 rfl (by decide) (cx.an 0) cx (cx.init 1 _ rfl) rfl (dTn (cx.an 2)).1 (by rfl) (At.of_ownN (cx.row (dTn (cx.an 2)).2 rfl)) (by simp [ynC, Value.oneCell']) (by simp only [maxLen]; omega) (by omega) rfl rfl rfl (by omega) (yn_snoc _ _) (fun σ β' X' hs hb hv hx => ?_)
        exact ⟨hv, hx⟩
      · refine svA fun ρ β W X cx => ?_
        exact dv_store (n := 1) rfl (cx.ou 2) (dTn (cx.an 3)).1 (by kernel_rfl) (by kernel_rfl) (by kernel_rfl) cx (cx.init 0 _ rfl) rfl (nle rfl) (by kernel_rfl) rfl rfl rfl (fun σ β' X' hs hb hx => by rw [hb 11]; exact hx)
    intro σ β X W8 hD hst8 fr hfr
    obtain ⟨B10_8, hu_B10_8⟩ : ∃ z, pb' (β 10) = z := ⟨_, rfl⟩
    obtain ⟨A11_8, hu_A11_8⟩ : ∃ z, sA (β 11) = z := ⟨_, rfl⟩
    obtain ⟨c11_8, hu_c11_8⟩ : ∃ z, sC (β 11) = z := ⟨_, rfl⟩
    simp only [exq 3 ((dTn (hD 2 lq)).2), exq 4 ((dTn (hD 3 lq)).2), exq 5 ((dTn (hD 4 lq))), hu_B10_8, hu_A11_8, hu_c11_8] at hst8
    simp only [ed 10 ((dTn (hD 2 lq)).1), ed 11 ((dTn (hD 3 lq)).1), hu_B10_8, hu_A11_8, hu_c11_8] at hfr
    clear hD hu_B10_8 hu_A11_8 hu_c11_8; subst hfr; clear σ β X
    refine blk_normal ?_
    exact ⟨rfl, _, ⟨A11_8, (n + 1), c11_8, by rw [hn, List.length_append]; rfl, rfl⟩, hst8.pick [3, 2] (by decide) rfl⟩
  · rintro D4 W4d L4 XS_ E_ ⟨SA, n, sc, hn, rfl⟩ hZ_ hst4d
    simp only [List.cons_append, List.nil_append] at hst4d
    refine blk_normal (then_normal (wp_seq (wp_region_Z [0, 1] [[0]] [.c 12 (.slice SA n sc), .k 4 (.slice SA n sc)] [0, 1, 2, 3] [0] [(4, 1, 1, 5), (7, 0, 1, 8)] hst4d ?_ fun W9 hst9 => ?_)))
    · refine ⟨?_, trivial⟩
      · exact xs4 rfl id fun cx => run_load1 rfl (by kernel_rfl) (cx.ou 2) ((cx.bi 0 rfl).cell 0)
    refine then_normal (wp_ret ?_)
    refine bpm_take (L := [eB B2_1 146 #[.slice SA n sc], eO 116 7 (.slice SA n sc) n (XS_.flatMap ynC), E_]) (hst9.pick [0, 1, 2, 3] (by decide) rfl) fun Wt10 ht10 => ?_
    refine ⟨.slice SA n sc, (results_1 Try.results98 rpt), ?_⟩
    exact co_done hZ_ (ht10.pick [1, 2] (by decide) rfl) hn
theorem seqF_ext {α : Type} {P : Program} {gf : Nat} {lb : Array Value} {encs : α → Array Value} {N : Nat} {Z : List α → Ent → Prop} {w w1 : World} (h : SeqF P gf lb encs N Z w) (hx : Ext w w1) : SeqF P gf lb encs N Z w1 := fun l J W C0 hW hloc hC hJ hY => h l J W C0 (hx.trans hW) hloc (fun k hk => ⟨Nat.le_trans hx.size (hC k hk).1, (hC k hk).2⟩) hJ hY
set_option maxRecDepth 100000 in
set_option maxHeartbeats 2000000 in
theorem kcol_any (b1 b2 b3 : Nat) (root : Int) (nd : NoD) (w : World) (hseq : SeqF Try.prog 99 #[.pointer (some ⟨b1, 0, none⟩), .pointer (some ⟨b2, 0, none⟩), .pointer (some ⟨b3, 0, none⟩)] ynE 1 (OneZ root nd) w) :
    Calls Try.prog 71 #[.func (.func 99) #[] #[.pointer (some ⟨b1, 0, none⟩), .pointer (some ⟨b2, 0, none⟩), .pointer (some ⟨b3, 0, none⟩)]] w (CoPost nd root w) := by
  go_enter Try.func71, Try.ntmps71
  have hst0 := St.start w
  refine wp_seq (sqr (sqp [.k 2 (.slice none 0 0)] ?_))
  refine then_normal (wp_seq (sqr (sqp [.m 3 0] ?_)))
  refine sqk2s (fun A4_3 c4_3 => .slice A4_3 1 c4_3) (fun A4_3 c4_3 r0_3 => eCo A4_3 nd root r0_3) hst0 (fun cx => ⟨_, (kapp_any b1 b2 b3 root nd _ (seqF_ext hseq cx.upd.to_ext)).mono (by rintro e W1 ⟨A4, c4, fp4, rfl, hs4⟩; exact ⟨_, _, _, rfl, hs4⟩), (map2 (cx.co _) (cx.ou 3))⟩) fun A4_3 c4_3 r0_3 W3 hst3 => ?_
  refine sqp [.m 2 4] ?_
  refine then_normal (wp_ret ?_)
  refine bpr (.slice A4_3 1 c4_3) (results_1 Try.results71 rpt) ?_
  exact ⟨_, _, _, rfl, hst3.pick [0] (by decide) rfl⟩
def pcp (i : Nat) : Value → Nat
  | .func _ _ cs => pb (cs.getD i undef)
  | _ => 0
def RowPost (tt : TypeId) (tv : Value) (root lv : Int) (w : World) (e : Ending) (w' : World) : Prop := ∃ b1 b2 b3, e = .returned (.func (.func 99) #[] #[.pointer (some ⟨b1, 0, none⟩), .pointer (some ⟨b2, 0, none⟩), .pointer (some ⟨b3, 0, none⟩)]) ∧ St w [] [eB b1 113 #[.iface tt tv], eB b2 3 #[.int .i64 root], eB b3 3 #[.int .i64 lv]] w'
set_option maxRecDepth 100000 in
set_option maxHeartbeats 2000000 in
theorem krowc_any (tt : TypeId) (tv : Value) (root lv : Int) (w : World) :
    Calls Try.prog 72 #[.iface tt (tv), .int .i64 root, .int .i64 lv] w (RowPost tt tv root lv w) := by
  go_enter Try.func72, Try.ntmps72
  have hst0 := St.start w
  refine wp_seq (sqr ?_)
  refine sqbx #[.iface tt (tv)] hst0 fun B3_1 W1 hst1 => ?_
  refine sqbx #[vi root] hst1 fun B4_2 W2 hst2 => ?_
  refine sqbx #[vi lv] hst2 fun B5_3 W3 hst3 => ?_
  refine sqp [.k 6 (Go.Value.nilFunc)] ?_
  refine then_normal (wp_seq (sqr ?_))
  refine sqv (.func (.func 99) #[] #[vp B3_1, vp B4_2, vp B5_3]) hst3 (by
      exact sv0 rfl rfl rfl rfl rfl (fun _ _ _ h => h) fun ρ β W X cx => by
        have fF3 : ρ (.tmp 3) = vp B3_1 := (cx.ou 3)
        have fF4 : ρ (.tmp 4) = vp B4_2 := (cx.ou 4)
        have fF5 : ρ (.tmp 5) = vp B5_3 := (cx.ou 5)
        simp [go_sem, Instr.makeFunc, fF3, fF4, fF5]) fun W5 hst5 => ?_
  refine sqp [.m 6 7] ?_
  refine then_normal (wp_ret ?_)
  refine bpr (.func (.func 99) #[] #[vp B3_1, vp B4_2, vp B5_3]) (results_1 Try.results72 rpt) ?_
  exact ⟨_, _, _, rfl, hst5.pick [0, 1, 2] (by decide) rfl⟩
set_option maxRecDepth 100000 in
set_option maxHeartbeats 2000000 in
theorem ksorted_1 (pg fr : Int) (EA : Option Addr) (ec n : Nat) (es : List EnD) (w : World) (hE : At w EA (es.flatMap enC)) (hn : es.length = n) (hn1 : n ≤ 1) :
    Calls Try.prog 100 #[.agg #[.int .i64 pg, .int .i64 0, .int .i64 (-1), .string ((⟨#[]⟩ : ByteArray)), .bool false, .slice EA n ec, .int .i64 fr], .string ((⟨#[]⟩ : ByteArray))] w (Ret (.bool true) w) := by
  go_enter Try.func100, Try.ntmps100
  have hst0 := St.start w
  refine wp_seq (sqr ?_)
  refine sqbx #[vi pg, vi 0, vi (-1), .string ((⟨#[]⟩ : ByteArray)), .bool false, .slice EA n ec, vi fr] hst0 fun B2_1 W1 hst1 => ?_
  refine sqp [.k 4 (.bool false)] ?_
  refine then_normal (wp_seq (wp_seq (sqr (sqp [.k 7 (.pointer (some ⟨B2_1, 5, none⟩))] ?_))))
  refine sqld 0 hst1 ?_
  refine sqp [.k 9 (vi ((n : Int))), .k 10 (vi 0)] ?_
  refine then_normal (wp_block ?_)
  refine wp_loopT (fun t_ mz az W => ∃ i : Nat, i ≤ n ∧ mz = n - i ∧ az = ⟨(ovr (jv az) [(4, 4, 3, []), (3, 10, 0, [vi ((i : Int))]), (0, 11, 42, [])] t_).toArray, []⟩ ∧ St w [] [eB B2_1 116 #[vi pg, vi 0, vi (-1), .string ((⟨#[]⟩ : ByteArray)), .bool false, .slice EA n ec, vi fr]] W) (n - 0) ?_ ?_
  · -- the loop begins
    exact ⟨0, Nat.zero_le _, rfl, (by kernel_rfl), hst1.pk [0]⟩
  rintro n7 a7 W7 ⟨i, hi, rfl, hj_, hst7⟩
  refine ovz hj_ fun u7_ => ?_
  refine wp_seq (sqr (sqp [.k 11 (.bool (decide ((i : Int) < (n : Int))))] ?_))
  refine then_normal (wp_seq (wds (fun hs9 hs9p => ?_) fun hs9 hs9p => ?_))
  · refine wp_skip (then_normal (wp_seq (wp_block (wp_seq (sqr (sqp [.m 12 10] ?_))))))
    refine sql (.pointer (some ((ad EA).add (i * 3)))) hst7 (fun cx => run_indexSlM (e := 104) (m := i) (sz := 3) rfl (by kernel_rfl) (by kernel_rfl) (cx.ou 8) (cx.ou 10) (by omega) (by omega) (hE.ext cx.upd.to_ext) (flatPos (sz := 3) enC_len (by decide) (by omega))) ?_
    refine sql (.agg #[.string ((es.getD i en0).1), vi (((es.getD i en0).2.1 : Int)), vi ((es.getD i en0).2.2)]) hst7 (fun cx => run_loadElt (f := enC) (m := i) (sz := 3) (off := 0) (n := 3) rfl (by kernel_rfl) (by kernel_rfl) (cx.ou 13) rfl enC_len (hE.ext cx.upd.to_ext) (en_get (by omega)) (fun k hk => match k, hk with | 0, _ => rfl | 1, _ => rfl | 2, _ => rfl | k + 3, hk => absurd hk (by omega))) ?_
    refine sqal #[.string ByteArray.empty, vi 0, vi 0] hst7 fun B6_13 W13 hst13 => ?_
    refine sqp [.m 5 12] ?_
    refine sqst (n := 3) 1 #[.string ((es.getD i en0).1), vi (((es.getD i en0).2.1 : Int)), vi ((es.getD i en0).2.2)] hst13 fun W15 hst15 => ?_
    refine then_normal (wp_seq ?_)
    have hd17 : (!(((⟨#[]⟩ : ByteArray)).toList == ((⟨#[]⟩ : ByteArray)).toList)) = false := (by rw [beq_self_eq_true]; rfl)
    have hd18 : (decide (0 < (i : Int))) = false := (decide_eq_false (by omega))
    refine wp_region_Z [0, 1, 3, 7, 15, 7, 63, 127, 255, 511, 1023, 2047, 4095, 8191, 16383, 8191, 40959, 131071, 262143, 524287, 1048575, 2097151, 4194303, 8388607, 16777215, 33554431, 67108863, 33554431, 167772159, 33554431, 570425343, 2046820351, 4194303999, 8489271295, 17179869183, 34359738367, 68719476735] [[], [], [], [], [], [], [], [], [], [], [0]] [.k 15 (.string ((⟨#[]⟩ : ByteArray))), .e 16 (.bool (!(((⟨#[]⟩ : ByteArray)).toList == ((⟨#[]⟩ : ByteArray)).toList))) (.bool false) (congrArg Value.bool hd17), .k 17 (.bool false), .u 18, .u 19, .u 20, .u 21, .k 22 (.bool false), .k 23 (.bool false), .k 24 (.pointer (some ⟨B2_1, 3, none⟩)), .c 25 (.string ((⟨#[]⟩ : ByteArray))), .e 26 (.bool (!(((⟨#[]⟩ : ByteArray)).toList == ((⟨#[]⟩ : ByteArray)).toList))) (.bool false) (congrArg Value.bool hd17), .k 27 (.bool false), .u 28, .u 29, .u 30, .u 31, .u 32, .u 33, .k 34 (.bool false), .k 35 (.bool false), .k 36 (.bool false), .k 37 (vi ((i : Int))), .e 38 (.bool (decide (0 < (i : Int)))) (.bool false) (congrArg Value.bool hd18), .k 39 (.bool false), .u 40, .u 41, .u 42, .u 43, .u 44, .u 45, .u 46, .u 47, .u 48, .u 49, .k 50 (.bool false), .k 51 (.bool false)] [0, 1] [10] [(15, 0, 37, 52)] hst15 ?_ fun W16 hst16 => ?_
    · refine ⟨?_, trivial⟩
      · exact xs5 rfl id (fun cx => (cx.an 8)) fun cx => run_load1 rfl (by kernel_rfl) (cx.an 9) ((cx.bi 0 rfl).cell 3)
    refine then_normal (wcf rfl (wp_skip (blk_normal (then_normal (sqr (sqp [sI 52 ((i : Int) + 1) (by omega), .m 10 52] ?_))))))
    refine then_normal ?_
    refine ⟨n - ((i + 1)), by omega, ?_⟩
    exact ⟨(i + 1), by omega, rfl, (by kernel_rfl), hst16.pk [0]⟩
  refine wp_exit (then_exit (then_exit (blk_eq (then_normal (wp_seq (sqr (sqp [.k 4 (.bool true)] ?_)))))))
  refine then_normal (wp_ret ?_)
  refine bpr (.bool true) (results_1 Try.results100 rpt) ?_
  exact Ret.of rfl hst7.ext
def ny1 (pg fr : Int) (EA : Option Addr) (ec n : Nat) (u : Unit) : List Value := [.int .i64 pg, .int .i64 0, .int .i64 (-1), .string ((⟨#[]⟩ : ByteArray)), .bool false, .slice EA n ec, .int .i64 fr]
set_option maxRecDepth 100000 in
set_option maxHeartbeats 2000000 in
theorem kright_1 (pg fr : Int) (EA SA : Option Addr) (ec sc n : Nat) (es : List EnD) (w : World) (hE : At w EA (es.flatMap enC)) (hn : es.length = n) (hn1 : n ≤ 1) (hN : At w SA ([()].flatMap (ny1 pg fr EA ec n))) :
    Calls Try.prog 73 #[.slice SA 1 sc, .slice none 0 0] w (Ret (.bool true) w) := by
  go_enter Try.func73, Try.ntmps73
  have hst0 := St.start w
  refine wp_seq (sqr (sqp [.k 4 (.bool false)] ?_))
  refine then_normal (wp_seq (sqr (sqp [.k 5 (.string ⟨#[]⟩)] ?_)))
  refine then_normal (wp_seq (wp_seq (sqr (sqp [.m 9 0, .k 10 (vi 1), .k 11 (vi 0)] ?_))))
  refine then_normal (wp_block ?_)
  refine wp_loopT (fun t_ mz az W => ∃ i : Nat, i ≤ 1 ∧ mz = 1 - i ∧ az = ⟨(ovr (jv az) [(4, 4, 1, [.string ((⟨#[]⟩ : ByteArray))]), (0, 6, 3, []), (2, 11, 0, [vi ((i : Int))]), (0, 12, 73, [])] t_).toArray, []⟩ ∧ St w [] [] W) (1 - 0) ?_ ?_
  · -- the loop begins
    exact ⟨0, Nat.zero_le _, rfl, (by kernel_rfl), hst0.pk []⟩
  rintro n6 a6 W6 ⟨i, hi, rfl, hj_, hst6⟩
  refine ovz hj_ fun u6_ => ?_
  refine wp_seq (sqr (sqp [.k 12 (.bool (decide ((i : Int) < 1)))] ?_))
  refine then_normal (wp_seq (wds (fun hs8 hs8p => ?_) fun hs8 hs8p => ?_))
  · refine wp_skip (then_normal (wp_seq (wp_block (wp_seq ?_))))
    obtain rfl : i = 0 := by omega
    refine sqr (sqp [.m 13 11] ?_)
    refine sql (.pointer (some ((ad SA).add (0 * 7)))) hst6 (fun cx => run_indexSlM (e := 116) (m := 0) (sz := 7) rfl (by kernel_rfl) (by kernel_rfl) (cx.ou 9) (cx.ou 11) (by omega) (by omega) (hN.ext cx.upd.to_ext) (flatPos (sz := 7) (fun _ => rfl) (by decide) (by first | omega | decide))) ?_
    refine sql (.agg #[vi pg, vi 0, vi (-1), .string ((⟨#[]⟩ : ByteArray)), .bool false, .slice EA n ec, vi fr]) hst6 (fun cx => run_loadElt (f := (ny1 pg fr EA ec n)) (m := 0) (sz := 7) (off := 0) (n := 7) rfl (by kernel_rfl) (by kernel_rfl) (cx.ou 14) rfl (fun _ => rfl) (hN.ext cx.upd.to_ext) rfl (fun k hk => match k, hk with | 0, _ => rfl | 1, _ => rfl | 2, _ => rfl | 3, _ => rfl | 4, _ => rfl | 5, _ => rfl | 6, _ => rfl | k + 7, hk => absurd hk (by omega))) ?_
    refine sqal #[vi 0, vi 0, vi 0, .string ByteArray.empty, .bool false, .slice none 0 0, vi 0] hst6 fun B7_12 W12 hst12 => ?_
    refine sqp [.m 6 13] ?_
    refine sqst (n := 7) 0 #[vi pg, vi 0, vi (-1), .string ((⟨#[]⟩ : ByteArray)), .bool false, .slice EA n ec, vi fr] hst12 fun W14 hst14 => ?_
    refine then_normal (wp_seq (sqr ?_))
    have hd20 : ((0 : Int) == 0) = true := rfl
    refine sqp [.m 16 6, .m 17 0, .k 18 (vi 1), .k 19 (vi 0), .e 20 (.bool ((0 : Int) == 0)) (.bool true) (congrArg Value.bool hd20), .k 8 (.bool true)] ?_
    refine then_normal (wp_seq (wp_block (wp_seq (wp_seq (sqr (sqp [.k 22 (.pointer (some ⟨B7_12, 4, none⟩))] ?_))))))
    refine sqld 0 hst14 ?_
    refine sqp [.k 21 (.bool false)] ?_
    refine then_normal (wcf rfl (wp_seq (sqr (sqp [.k 24 (.pointer (some ⟨B7_12, 5, none⟩))] ?_))))
    refine sqld 0 hst14 ?_
    have hd29 : (decide (8 < (n : Int))) = false := (decide_eq_false (by omega))
    refine sqp [.k 26 (vi ((n : Int))), .e 27 (.bool (decide (8 < (n : Int)))) (.bool false) (congrArg Value.bool hd29), .k 21 (.bool false)] ?_
    refine then_normal (wcf rfl (wp_seq (sqr (sqp [.k 28 (.bool true), .k 29 (.pointer (some ⟨B7_12, 3, none⟩))] ?_))))
    refine sqld 0 hst14 ?_
    have hd35 : (((⟨#[]⟩ : ByteArray)).toList == ((⟨#[]⟩ : ByteArray)).toList) = true := beq_self_eq_true _
    have hd37 : (!(true == true)) = false := rfl
    refine sqp [.e 31 (.bool (((⟨#[]⟩ : ByteArray)).toList == ((⟨#[]⟩ : ByteArray)).toList)) (.bool true) (congrArg Value.bool hd35)] ?_
    refine sqv (.bool false) hst14 (by
        exact sv0 rfl rfl rfl rfl rfl (fun _ _ _ h => h.trans (congrArg Value.bool hd37)) fun ρ β W X cx => by
          have fF28 : ρ (.tmp 28) = .bool true := (cx.ou 28)
          have fF31 : ρ (.tmp 31) = .bool true := (cx.ou 31)
          simp [go_sem, fF28, fF31]) fun W36 hst36 => ?_
    refine sqp [.k 21 (.bool false)] ?_
    refine then_normal (wcf rfl (wp_seq (sqr (sqp [.k 33 (.bool true), .k 34 (.pointer (some ⟨B7_12, 2, none⟩))] ?_))))
    refine sqld 0 hst36 ?_
    refine sqp [.k 36 (.bool true)] ?_
    refine sqv (.bool false) hst36 (by
        exact sv0 rfl rfl rfl rfl rfl (fun _ _ _ h => h.trans (congrArg Value.bool hd37)) fun ρ β W X cx => by
          have fF33 : ρ (.tmp 33) = .bool true := (cx.ou 33)
          have fF36 : ρ (.tmp 36) = .bool true := (cx.ou 36)
          simp [go_sem, fF33, fF36]) fun W43 hst43 => ?_
    refine sqp [.k 21 (.bool false)] ?_
    refine then_normal (wcf rfl (sqr ?_))
    refine sqlb 0 7 hst43 ?_
    refine sqp [.m 39 5] ?_
    refine sqk (.bool true) hst43 (fun cx => ⟨_, ksorted_1 pg fr EA ec n es _ (hE.ext cx.upd.to_ext) hn hn1, (map2 (cx.ou 38) (cx.ou 39))⟩) fun W47 hst47 => ?_
    refine sqp [.k 41 (.bool false), .k 21 (.bool false)] ?_
    refine then_normal (wcf rfl (wp_seq (wp_region_Z [0, 1, 3, 7, 15, 15, 63, 127, 255, 511, 1023, 2047, 4095, 8191, 16383, 32767, 65535, 4095, 135167, 397311, 921599, 2097151, 4194303, 8388607, 16777215, 33554431] [[], [0]] [.k 43 (.pointer (some ⟨B7_12, 1, none⟩)), .c 44 (vi 0), .k 45 (.bool false), .k 46 (.bool false), .u 47, .u 48, .u 49, .u 50, .u 51, .u 52, .u 53, .u 54, .u 55, .u 56, .u 57, .u 58, .u 59, .u 60, .u 61, .u 62, .u 63, .u 64, .u 65, .u 66, .k 67 (.bool false), .k 42 (.bool false)] [0] [1] [(42, 25, 1, 43), (0, 0, 25, 25)] hst47 ?_ fun W50 hst50 => ?_)))
    · refine ⟨?_, trivial⟩
      · exact xs4 rfl id fun cx => run_load1 rfl (by kernel_rfl) (cx.an 0) ((cx.bi 0 rfl).cell 1)
    refine then_normal (wcf rfl (wp_seq (sqr (sqp [.m 69 5, .e 70 (.bool (!(((⟨#[]⟩ : ByteArray)).toList == ((⟨#[]⟩ : ByteArray)).toList))) (.bool false) (congrArg Value.bool (by rw [hd35]; rfl)), .k 71 (.bool false)] ?_))))
    refine sqgn 71 [72, 73, 74] rfl rfl ?_
    refine sqp [.k 75 (.bool false), .k 76 (.bool false)] ?_
    refine sqgn 76 [77, 78, 79, 80] rfl rfl ?_
    refine sqp [.k 81 (.bool false), .k 68 (.bool false)] ?_
    refine then_normal (wcf rfl (wp_skip (blk_normal (then_normal (sqr (sqp [.k 82 (.pointer (some ⟨B7_12, 3, none⟩))] ?_))))))
    refine sqld 0 hst50 ?_
    refine sqp [.m 5 83] ?_
    refine blk_normal (then_normal (sqr (sqp [sI 84 ((0 : Int) + 1) (by omega), .m 11 84] ?_)))
    refine then_normal ?_
    refine ⟨1 - 1, by omega, ?_⟩
    exact ⟨1, by omega, rfl, (by kernel_rfl), hst50.pk []⟩
  refine wp_exit (then_exit (then_exit (blk_eq (then_normal (wp_seq (sqr (sqp [.m 85 0, .k 86 (vi 1), .k 87 (.bool true), .k 88 (.bool true)] ?_)))))))
  refine sqgy 88 [89, 90, 91] rfl rfl ?_
  refine sqp [.m 89 0, .k 90 (vi 1), .k 91 (.bool true)] ?_
  refine sqp [.k 92 (.bool true), .k 4 (.bool true)] ?_
  refine then_normal (wp_ret ?_)
  refine bpr (.bool true) (results_1 Try.results73 rpt) ?_
  exact Ret.of rfl hst6.ext
/-- a root without a high key or a right neighbour, at most one entry -/
def Node1 (nd : NoD) : Prop := nd.lv = 0 ∧ nd.right = -1 ∧ nd.high = ⟨#[]⟩ ∧ nd.dead = false ∧ nd.es.length ≤ 1
theorem kright_co {SA : Option Addr} {sc : Nat} {nd : NoD} {pg : Int} {fp : List Nat} {w : World} (h : (eCo SA nd pg fp).holds w) (h1 : Node1 nd) : Calls Try.prog 73 #[.slice SA 1 sc, .slice none 0 0] w (Ret (.bool true) w) := by
  obtain ⟨EA, ec, _, _, hS, hE⟩ := h
  obtain ⟨lv, rt, hg, dd, es, fr⟩ := nd
  obtain ⟨rfl, rfl, rfl, rfl, h5⟩ := h1
  exact kright_1 pg fr EA SA ec sc _ es w hE rfl h5 hS
theorem ndAt_neg (ps : List PgS) : ndAt ps (-1) = none := by rw [ndAt, if_neg (by omega)]
set_option maxRecDepth 100000 in
set_option maxHeartbeats 2000000 in
theorem kcheck_1 (tt : TypeId) (tv : Value) (root : Int) (ps : List PgS) (nd : NoD) (w : World) (hS : PgsOk w tt tv ps) (hok : OkS ps) (hoc : OkC ps) (hnd : ndAt ps root = some nd) (h1 : Node1 nd) :
    Calls Try.prog 37 #[.iface tt (tv), .int .i64 root] w (Ret (.int .i64 0) w) := by
  have hlv0 : nd.lv = 0 := h1.1
  go_enter Try.func37, Try.ntmps37
  have hst0 := St.start w
  refine wp_seq (sqr (sqp [.k 4 (vi 0)] ?_))
  refine then_normal (wp_seq (sqr (sqp [.m 11 0, .m 12 1] ?_)))
  refine sqk2 (fun EA13_4 ec13_4 => .tuple #[.agg #[vi root, vi nd.lv, vi nd.right, .string nd.high, .bool nd.dead, .slice EA13_4 nd.es.length ec13_4, vi ((nd.free : Int))], .bool true]) (fun EA13_4 ec13_4 => eO 104 3 (.slice EA13_4 nd.es.length ec13_4) nd.es.length (nd.es.flatMap enC)) hst0 (fun cx => ⟨_, (kd_yes hnd (kat_any _ _ ps root _ (hS.ext cx.upd.to_ext) hok hoc)).mono (by rintro e W1 ⟨EA4, ec4, rfl, hs4⟩; exact ⟨_, _, rfl, hs4⟩), (map2 (cx.ou 11) (cx.ou 12))⟩) fun EA13_4 ec13_4 W4 hst4 => ?_
  refine sqp [.m 10 13, .k 14 (.agg #[vi root, vi nd.lv, vi nd.right, .string nd.high, .bool nd.dead, .slice EA13_4 nd.es.length ec13_4, vi ((nd.free : Int))]), .k 15 (.bool true)] ?_
  refine sqal #[vi 0, vi 0, vi 0, .string ByteArray.empty, .bool false, .slice none 0 0, vi 0] hst4 fun B5_8 W8 hst8 => ?_
  refine sqst (n := 7) 1 #[vi root, vi nd.lv, vi nd.right, .string nd.high, .bool nd.dead, .slice EA13_4 nd.es.length ec13_4, vi ((nd.free : Int))] hst8 fun W9 hst9 => ?_
  refine sqp [.k 6 (.bool true)] ?_
  refine then_normal (wp_seq (wp_seq (sqr (sqp [.k 16 (.bool true), .k 17 (.bool false)] ?_))))
  refine then_normal (wcf rfl (wp_skip (then_normal (wp_seq (sqr (sqp [.k 7 (.slice none 0 0)] ?_))))))
  refine then_normal (wp_seq (wp_seq (sqr (sqp [.k 18 (.pointer (some ⟨B5_8, 1, none⟩))] ?_))))
  refine sqld 1 hst9 ?_
  refine sqp [sI 20 (nd.lv + 1) (by omega), .k 21 (vi 0)] ?_
  refine then_normal (wp_block ?_)
  obtain ⟨z18_, hN_z18_⟩ : ∃ z, nd.lv + 1 = z := ⟨_, rfl⟩
  rw [hN_z18_]
  obtain rfl : z18_ = (1 : Int) := by have := h1.1; omega
  refine wp_loopT (fun t_ mz az W => ∃ k : Nat, ∃ BA : Option Addr, ∃ bn : Nat, ∃ bc : Nat, k ≤ 1 ∧ (k = 0 → BA = none ∧ bn = 0 ∧ bc = 0) ∧ mz = 1 - k ∧ az = ⟨(ovr (jv az) [(4, 4, 1, []), (2, 7, 0, [.slice BA bn bc]), (0, 8, 2, []), (11, 21, 0, [vi ((k : Int))]), (0, 22, 33, [])] t_).toArray, []⟩ ∧ St w [] [eB B5_8 116 #[vi root, vi nd.lv, vi nd.right, .string nd.high, .bool nd.dead, .slice EA13_4 nd.es.length ec13_4, vi ((nd.free : Int))]] W) (1 - 0) ?_ ?_
  · -- the loop begins
    exact ⟨0, none, 0, 0, Nat.zero_le _, (fun _ => ⟨rfl, rfl, rfl⟩), rfl, (by kernel_rfl), hst9.pk [1]⟩
  rintro n19 a19 W19 ⟨k, BA, bn, bc, hk, hb, rfl, hj_, hst19⟩
  refine ovz hj_ fun u19_ => ?_
  refine wp_seq (sqr (sqp [.k 22 (.bool (decide ((k : Int) < (1 : Int))))] ?_))
  refine then_normal (wp_seq (wds (fun hs21 hs21p => ?_) fun hs21 hs21p => ?_))
  · refine wp_skip (then_normal (wp_seq (wp_block (wp_seq ?_))))
    obtain rfl : k = 0 := by omega
    obtain ⟨rfl, rfl, rfl⟩ := hb rfl
    refine sqr (sqp [.m 23 21, .m 8 23] ?_)
    refine then_normal (wp_seq (wp_region_Y [0, 0, 0, 7, 15, 31] [[], [], [], [], [1, 2, 3]] [[], [], [], [1, 2, 3], [4]] [] [.k 24 (.iface tt (tv)), .k 25 (vi root), .k 26 (vi ((0 : Int))), .a 27, .a 28, .a 9] (fun ix σ β X => match ix with | 0 => True | 1 => True | 2 => True | 3 => σ 27 = .func (.func 99) #[] #[vp (pcp 0 (β 27)), vp (pcp 1 (β 27)), vp (pcp 2 (β 27))] ∧ X 1 = eB (pcp 0 (β 27)) 113 #[.iface tt (tv)] ∧ X 2 = eB (pcp 1 (β 27)) 3 #[vi root] ∧ X 3 = eB (pcp 2 (β 27)) 3 #[vi ((0 : Int))] | 4 => σ 28 = .slice (sA (β 28)) 1 (sC (β 28)) ∧ X 4 = eCo (sA (β 28)) nd root ((X 4).fp) | 5 => σ 9 = .slice (sA (β 28)) 1 (sC (β 28)) | _ => True) [0, 1, 2, 3, 4] [3, 4, 5] [(9, 5, 1, 10), (14, 0, 5, 19)] hst19 ?_ ?_ ?_))
    · exact fun ix _ _ _ _ _ _ hs hb hx h => match ix, h with
      | 3, h => by dsimp only; rw [← hs 27 rfl, ← hb 27 rfl, ← hx 1 rfl, ← hx 2 rfl, ← hx 3 rfl]; exact h
      | 4, h => by dsimp only; rw [← hs 28 rfl, ← hb 28 rfl, ← hx 4 rfl]; exact h
      | 5, h => by dsimp only; rw [← hs 9 rfl, ← hb 28 rfl]; exact h
      | 0, _ | 1, _ | 2, _ | _ + 6, _ => trivial
    · refine ⟨?_, ?_, ?_, trivial⟩
      · refine svA fun ρ β W X cx => ?_
        refine DoesU.call (run_callF (args := #[.iface tt (tv), vi root, vi ((0 : Int))]) rfl cx.sees rfl (by kernel_rfl) (map3 (cx.an 0) (cx.an 1) (cx.an 2))) ?_
        refine (krowc_any tt tv root (0 : Int) _).mono ?_
        rintro e W1 ⟨B4, B5, B6, rfl, hs4⟩
        refine ⟨_, rfl, post_st [eB B4 113 #[.iface tt (tv)], eB B5 3 #[vi root], eB B6 3 #[vi ((0 : Int))]] rfl rfl hs4 (fun σ β' X' hs hb hv hN => ?_)⟩
        have hv1 := (hv 27 rfl).1; have hv2 := (hv 27 rfl).2
        exact ⟨hv1.trans (by rw [hv2]; rfl), (by rw [hv2]; exact (List.cons.inj hN).1), (by rw [hv2]; exact (List.cons.inj (List.cons.inj hN).2).1), (by rw [hv2]; exact (List.cons.inj (List.cons.inj (List.cons.inj hN).2).2).1)⟩
      · refine svA fun ρ β W X cx => ?_
        refine DoesU.call (run_callF (args := #[.func (.func 99) #[] #[vp (pcp 0 (β 27)), vp (pcp 1 (β 27)), vp (pcp 2 (β 27))]]) rfl cx.sees rfl (by kernel_rfl) (map1 (dTn (cx.an 3)).1)) ?_
        refine (kcol_any _ _ _ root nd _ (krow_seq (cx.blk (dTn (cx.an 3)).2.1 rfl) (cx.blk (dTn (cx.an 3)).2.2.1 rfl) (cx.blk (dTn (cx.an 3)).2.2.2 rfl) (hS.ext cx.upd.to_ext) hok hoc hnd h1.1 (by rw [h1.2.1]; exact ndAt_neg ps))).mono ?_
        rintro e W1 ⟨A4, c4, fp4, rfl, hs4⟩
        refine ⟨_, rfl, post_st [eCo A4 nd root fp4] rfl rfl hs4 (fun σ β' X' hs hb hv hN => ?_)⟩
        have hv1 := (hv 28 rfl).1; have hv2 := (hv 28 rfl).2
        exact ⟨hv1.trans (by rw [hv2]; rfl), (by rw [hv2]; exact eCo_self ((List.cons.inj hN).1))⟩
      · exact sv rfl rfl rfl rfl rfl _ (fun _ _ _ h => h) (fun β β' h => by rw [h 28 (by decide)]) fun ρ β W X cx => run_assign' rfl (dTn (cx.an 4)).1
    intro σ β X W24 hD hst24 fr hfr
    obtain ⟨B27a_24, hu_B27a_24⟩ : ∃ z, pcp 0 (β 27) = z := ⟨_, rfl⟩
    obtain ⟨B27b_24, hu_B27b_24⟩ : ∃ z, pcp 1 (β 27) = z := ⟨_, rfl⟩
    obtain ⟨B27c_24, hu_B27c_24⟩ : ∃ z, pcp 2 (β 27) = z := ⟨_, rfl⟩
    obtain ⟨A28_24, hu_A28_24⟩ : ∃ z, sA (β 28) = z := ⟨_, rfl⟩
    obtain ⟨c28_24, hu_c28_24⟩ : ∃ z, sC (β 28) = z := ⟨_, rfl⟩
    have xX4 : X 4 = _ := (dTn (hD 4 lq)).2
    obtain ⟨r4_24, hu_r4_24⟩ : ∃ z, (X 4).fp = z := ⟨_, rfl⟩
    rw [hu_r4_24] at xX4
    clear hu_r4_24
    simp only [exq 1 ((dTn (hD 3 lq)).2.1), exq 2 ((dTn (hD 3 lq)).2.2.1), exq 3 ((dTn (hD 3 lq)).2.2.2), xX4, hu_B27a_24, hu_B27b_24, hu_B27c_24, hu_A28_24, hu_c28_24] at hst24
    simp only [ed 27 ((dTn (hD 3 lq)).1), ed 28 ((dTn (hD 4 lq)).1), ed 9 ((dTn (hD 5 lq))), hu_B27a_24, hu_B27b_24, hu_B27c_24, hu_A28_24, hu_c28_24] at hfr
    clear hD xX4 hu_B27a_24 hu_B27b_24 hu_B27c_24 hu_A28_24 hu_c28_24; subst hfr; clear σ β X
    refine then_normal (wp_seq (wp_seq (sqr (sqp [.m 29 8, .k 30 (.pointer (some ⟨B5_8, 1, none⟩))] ?_))))
    refine sqld 0 hst24 ?_
    have hd29 : ((0 : Int) == nd.lv) = true := (by rw [h1.1]; rfl)
    refine sqp [.e 32 (.bool ((0 : Int) == nd.lv)) (.bool true) (congrArg Value.bool hd29), .k 33 (.bool true)] ?_
    refine sqgy 33 [34, 35, 36] rfl rfl ?_
    refine sqp [.m 34 9, .k 35 (vi 1), .k 36 (.bool false)] ?_
    refine sqp [.k 37 (.bool false), .k 38 (.bool false)] ?_
    refine sqgy 38 [39, 40, 41, 42, 43, 44, 45] rfl rfl ?_
    have hd38 : (decide (0 < (0 : Int))) = false := rfl
    refine sqp [.m 39 8, .e 40 (.bool (decide (0 < (0 : Int)))) (.bool false) (congrArg Value.bool hd38), .k 41 (.bool false)] ?_
    refine sqgn 41 [42, 43, 44] rfl rfl ?_
    refine sqp [.k 45 (.bool false)] ?_
    refine sqp [.k 46 (.bool false), .k 47 (.bool false)] ?_
    refine sqgy 47 [48, 49, 50, 51] rfl rfl ?_
    refine sqp [.m 48 9, .m 49 7] ?_
    refine sqk (.bool true) hst24 (fun cx => ⟨_, kright_co (CtxV.holdF cx (cx.init 4 _ rfl) rfl) h1, (map2 (cx.ou 48) (cx.ou 49))⟩) fun W45 hst45 => ?_
    refine sqp [.k 51 (.bool false)] ?_
    refine sqp [.k 52 (.bool false)] ?_
    refine then_normal (wcf rfl (wp_skip (then_normal (sqr (sqp [.m 53 9, .m 7 53] ?_)))))
    refine blk_normal (then_normal (sqr (sqp [sI 54 ((0 : Int) + 1) (by omega), .m 21 54] ?_)))
    refine then_normal ?_
    refine ⟨1 - 1, by omega, ?_⟩
    exact ⟨1, A28_24, 1, c28_24, by omega, (fun h => absurd h (by decide)), rfl, (by kernel_rfl), hst45.pk [0]⟩
  refine wp_exit (then_exit (then_exit (blk_eq (then_normal (wp_seq (sqr (sqp [.k 4 (vi 0)] ?_)))))))
  refine then_normal (wp_ret ?_)
  refine bpr (vi 0) (results_1 Try.results37 rpt) ?_
  exact Ret.of rfl hst19.ext
end
end Go.Proofs.Ytjlcoglmjldjbaa
namespace Go.Proofs.Ytjlcoglmjldjbaa
section
open Go.RowKit
set_option linter.unusedVariables false
set_option linter.unusedSimpArgs false
theorem book_ok {b : Nat} {ps : List PgS} {w : World} (h : BkAt w b ps) (hl : ps.length ≤ 1000) : PgsOk w 24 (.pointer (some ⟨b, 0, none⟩)) ps :=
  ⟨⟨58, _, fun W => by kernel_rfl, by kernel_rfl, fun x => rpage_any b ps x w h hl⟩⟩
theorem kstep_pk {b bk : Nat} {ps : List PgS} {p : PuT} {fresh : Int} {fp : List Nat} {w : World} (h : (ePk b p fp).holds w) (hB : BkU fp w bk ps) (hne : p.left ≠ []) (hok : OkS ps) (hoc : OkC ps) (h10 : p.left.length ≤ 10000) (hte : ∀ t ∈ p.left, t.1.size ≤ 900000 ∧ 0 ≤ t.2.1 ∧ t.2.1 ≤ 90000) (h8 : ∀ nd, ndAt ps p.pos = some nd → nd.es.length < 8) :
    Calls Try.prog 16 #[.pointer (some ⟨b, 0, none⟩), .iface 24 (.pointer (some ⟨bk, 0, none⟩)), .int .i64 fresh] w (KtPost b (stepF ps p fresh) fp w) := by
  obtain ⟨A, c, g, hfp, hbg, hc, hAg, hlt, hb, hA⟩ := h
  obtain ⟨root, pos, leaf, left, fro, to, spl⟩ := p
  cases left with
  | nil => exact absurd rfl hne
  | cons t lf =>
    obtain ⟨te, tl, tk⟩ := t
    obtain ⟨la, rfl, _, _⟩ := hA 0 (.string te) rfl
    have hg := hAg la rfl (by simp)
    have ht := hte (te, tl, tk) (by simp)
    obtain ⟨LA, lcc, Ps, h1, h2⟩ := hB
    refine kstep_s b _ _ root pos leaf fro to spl la _ c te tl tk lf ps fresh fp g w hb (fun W hW => ?_) rfl hc h10 (fun W hW => book_ok ⟨LA, lcc, Ps, h1, h2 W (hW.mono fun k _ hk => by rw [hfp, List.mem_singleton.1 hk]; simp)⟩ hok.len) hok hoc hfp hbg hlt hg ht.1 ht.2 h8
    refine at_blocks hA fun ad e _ => ?_
    rw [← Option.some.inj e]
    exact hW.block _ (hlt _ hg) (fun hm => hbg (by rw [List.mem_singleton] at hm; exact hm ▸ hg))
theorem kdone_t {b : Nat} {p : PuT} {fp : List Nat} {w : World} (h : (ePk b p fp).holds w) (h0 : p.left = []) : Calls Try.prog 21 #[.pointer (some ⟨b, 0, none⟩)] w (Ret (.bool true) w) := by
  have h1 := kdone_pk h
  rw [h0] at h1
  exact h1
/-- the book of the example -/
def sanB : List PgS := doB (blankF 4) (begF 3)
def sanK : ByteArray := ⟨#[97, 98]⟩
def sanX : ByteArray := ⟨#[97, 98, 0, 1, 0, 2]⟩
theorem sanB_eq : sanB = [(2, 0, [⟨#[0, 0, 0, 0]⟩]), (0, 0, []), (0, 0, []), (2, 0, [⟨#[0, 0, 0, 0]⟩])] := by kernel_rfl
theorem sanB_ok : OkS sanB := by
  rw [sanB_eq]
  refine ⟨by decide, fun p hp => ?_, fun p hp s hs => ?_⟩
  · simp only [List.mem_cons, List.not_mem_nil, or_false] at hp
    rcases hp with rfl | rfl | rfl | rfl <;> decide
  · simp only [List.mem_cons, List.not_mem_nil, or_false] at hp
    rcases hp with rfl | rfl | rfl | rfl <;> simp at hs <;> subst hs <;> decide
theorem sanB_c : OkC sanB := by
  rw [sanB_eq]
  intro p hp
  simp only [List.mem_cons, List.not_mem_nil, or_false] at hp
  rcases hp with rfl | rfl | rfl | rfl <;> decide
def sanN : NoD := ⟨0, -1, ⟨#[]⟩, false, [], 1⟩
theorem sanB_nd : ndAt sanB 3 = some sanN := by kernel_rfl
theorem sanN_1 : Node1 sanN := ⟨rfl, rfl, rfl, rfl, by decide⟩
def sanP : PuT := ⟨3, 3, 3, [], 0, 0, false⟩
theorem san_step : stepF sanB (putT 3 sanK 1 2) (-1) = (sanP, ⟨[(3, 1, sanX)], false, 0⟩) := by kernel_rfl
theorem kt_to {P : Program} {f : FuncId} {args : Array Value} {w : World} {b : Nat} {fp : List Nat} {R R' : PuT × GoT} (hR : R = R') (hc : Calls P f args w (KtPost b R fp w)) : Calls P f args w (KtPost b R' fp w) := hR ▸ hc
theorem at_to {w : World} {A : Option Addr} {xs ys : List Value} (h : At w A xs) (e : xs = ys) : At w A ys := e ▸ h
set_option maxRecDepth 100000 in
set_option maxHeartbeats 2000000 in
theorem sanity10_any  (w : World) :
    Calls Try.prog 10 #[] w (Ret (.bool true) w) := by
  go_enter Try.func10, Try.ntmps10
  have hst0 := St.start w
  refine wp_seq (sqr (sqp [.k 0 (.bool false)] ?_))
  refine then_normal (wp_seq (sqr ?_))
  refine sqk1s (fun B9_2 => vp B9_2) (fun B9_2 r0_2 => eBk B9_2 (blankF 4) r0_2) hst0 (fun cx => ⟨_, (rblank_any 4 _ (by decide)).mono (by rintro e W1 ⟨B4, fp4, rfl, hs4⟩; exact ⟨_, _, rfl, hs4⟩), (map1 (cx.co _))⟩) fun B9_2 r0_2 W2 hst2 => ?_
  refine sqp [.m 1 9] ?_
  refine then_normal (wp_seq (wp_region_Y [0, 0, 2, 6, 0, 16, 48, 126, 255, 511] [[], [], [2], [], [], [3], [], [], [1, 4]] [[1], [2], [], [], [3], [], [], [4]] [] [.a 10, .a 11, .c 12 (.string (strOfNums ([2]))), .k 13 (.agg #[vi 3, vi (-1), .string (strOfNums ([2]))]), .a 14, .c 15 (.string (strOfNums ([0, 0, 0, 0]))), .k 16 (.agg #[vi 3, vi 0, .string (strOfNums ([0, 0, 0, 0]))]), .a 17, .c 18 (.bool true), .k 2 (.bool true)] (fun ix σ β X => match ix with | 0 => σ 10 = .slice (sA (β 10)) 2 (sC (β 10)) ∧ X 1 = eO 99 3 (.slice (sA (β 10)) 2 (sC (β 10))) 2 ((begF 3).flatMap edC) | 1 => σ 11 = .slice (sA (β 11)) 1 1 ∧ X 2 = eO 5 1 (.slice (sA (β 11)) 1 1) 1 ([.int .u8 2]) | 2 => True | 3 => True | 4 => σ 14 = .slice (sA (β 14)) 4 4 ∧ X 3 = eO 5 1 (.slice (sA (β 14)) 4 4) 4 ([.int .u8 0, .int .u8 0, .int .u8 0, .int .u8 0]) | 5 => True | 6 => True | 7 => σ 17 = .slice ((some ⟨(pb' (β 17)), 0, none⟩)) 2 2 ∧ X 4 = eO 99 3 (.slice ((some ⟨(pb' (β 17)), 0, none⟩)) 2 2) 2 ([vi 3, vi (-1), .string (strOfNums ([2])), vi 3, vi 0, .string (strOfNums ([0, 0, 0, 0]))]) | _ => True) [0, 1, 2, 3, 4] [0, 1, 2, 4, 5, 7, 8] [(2, 9, 1, 3), (7, 0, 9, 16)] hst2 ?_ ?_ ?_))
  · exact fun ix _ _ _ _ _ _ hs hb hx h => match ix, h with
    | 0, h => by dsimp only; rw [← hs 10 rfl, ← hb 10 rfl, ← hx 1 rfl]; exact h
    | 1, h => by dsimp only; rw [← hs 11 rfl, ← hb 11 rfl, ← hx 2 rfl]; exact h
    | 4, h => by dsimp only; rw [← hs 14 rfl, ← hb 14 rfl, ← hx 3 rfl]; exact h
    | 7, h => by dsimp only; rw [← hs 17 rfl, ← hb 17 rfl, ← hx 4 rfl]; exact h
    | 2, _ | 3, _ | 5, _ | 6, _ | _ + 8, _ => trivial
  · refine ⟨?_, ?_, ?_, ?_, ?_, ?_, ?_, trivial⟩
    · refine svA fun ρ β W X cx => ?_
      refine DoesU.call (run_callF (args := #[vi 3]) rfl cx.sees rfl (by kernel_rfl) (map1 (cx.co _))) ?_
      refine (kbegin_any 3 _).mono ?_
      rintro e W1 ⟨A4, c4, rfl, ho_, hx⟩
      refine ⟨_, rfl, post_call [eO 99 3 (.slice A4 2 c4) 2 ((begF 3).flatMap edC)] rfl rfl hx (one_new (eO_new (n := 2) (xs := (begF 3).flatMap edC) ho_)) (List.pairwise_singleton _ _) (fun σ β' X' hs hb hv hN => ?_)⟩
      have hv1 := (hv 10 rfl).1; have hv2 := (hv 10 rfl).2
      exact ⟨hv1.trans (by rw [hv2]; rfl), (by rw [hv2]; exact (List.cons.inj hN).1)⟩
    · refine svA fun ρ β W X cx => ?_
      exact dv_lit (e := 5) (xs := [.int .u8 2]) rfl (by simp [go_sem, cx.sees.const]) rfl (by decide) rfl rfl (fun σ β' X' hs hb hv hx => ⟨hv, hx⟩)
    · exact xs4 rfl id fun cx => run_convB (e := 5) rfl (by kernel_rfl) (by kernel_rfl) (by kernel_rfl) (dTn (cx.an 1)).1 (cx.row (dTn (cx.an 1)).2 rfl)
    · refine svA fun ρ β W X cx => ?_
      exact dv_lit (e := 5) (xs := [.int .u8 0, .int .u8 0, .int .u8 0, .int .u8 0]) rfl (by simp [go_sem, cx.sees.const]) rfl (by decide) rfl rfl (fun σ β' X' hs hb hv hx => ⟨hv, hx⟩)
    · exact xs4 rfl id fun cx => run_convB (e := 5) rfl (by kernel_rfl) (by kernel_rfl) (by kernel_rfl) (dTn (cx.an 4)).1 (cx.row (dTn (cx.an 4)).2 rfl)
    · refine svA fun ρ β W X cx => ?_
      have fF13 : ρ (.tmp 13) = .agg #[vi 3, vi (-1), .string (strOfNums ([2]))] := (cx.an 3)
      have fF16 : ρ (.tmp 16) = .agg #[vi 3, vi 0, .string (strOfNums ([0, 0, 0, 0]))] := (cx.an 6)
      exact dv_litN (e := 99) (sz := 3) (xs := [vi 3, vi (-1), .string (strOfNums ([2])), vi 3, vi 0, .string (strOfNums ([0, 0, 0, 0]))]) rfl (by simp [go_sem, fF13, fF16]) rfl (by decide) rfl rfl (fun σ β' X' hs hb hv hx => ⟨hv, hx⟩)
    · exact xsc rfl id rfl rfl fun cx => ⟨_, rsame_any _ _ _ _ (begF 3) _ (at_to (At.of_ownN (cx.row (dTn (cx.an 0)).2 rfl)) (by kernel_rfl)) (at_to (At.of_ownN (cx.row (dTn (cx.an 7)).2 rfl)) (by kernel_rfl)) (by decide), (map2 (dTn (cx.an 0)).1 (dTn (cx.an 7)).1)⟩
  intro σ β X W4 hD hst4 fr hfr
  obtain ⟨A10_4, hu_A10_4⟩ : ∃ z, sA (β 10) = z := ⟨_, rfl⟩
  obtain ⟨c10_4, hu_c10_4⟩ : ∃ z, sC (β 10) = z := ⟨_, rfl⟩
  obtain ⟨A11_4, hu_A11_4⟩ : ∃ z, sA (β 11) = z := ⟨_, rfl⟩
  obtain ⟨A14_4, hu_A14_4⟩ : ∃ z, sA (β 14) = z := ⟨_, rfl⟩
  obtain ⟨B17_4, hu_B17_4⟩ : ∃ z, pb' (β 17) = z := ⟨_, rfl⟩
  simp only [exq 1 ((dTn (hD 0 lq)).2), exq 2 ((dTn (hD 1 lq)).2), exq 3 ((dTn (hD 4 lq)).2), exq 4 ((dTn (hD 7 lq)).2), hu_A10_4, hu_c10_4, hu_A11_4, hu_A14_4, hu_B17_4] at hst4
  simp only [ed 10 ((dTn (hD 0 lq)).1), ed 11 ((dTn (hD 1 lq)).1), ed 14 ((dTn (hD 4 lq)).1), ed 17 ((dTn (hD 7 lq)).1), hu_A10_4, hu_c10_4, hu_A11_4, hu_A14_4, hu_B17_4] at hfr
  clear hD hu_A10_4 hu_c10_4 hu_A11_4 hu_A14_4 hu_B17_4; subst hfr; clear σ β X
  refine then_normal (wp_seq (sqr (sqp [.m 19 1] ?_)))
  refine sqk2 (fun A20_6 c20_6 => .slice A20_6 2 c20_6) (fun A20_6 c20_6 => eO 99 3 (.slice A20_6 2 c20_6) 2 ((begF 3).flatMap edC)) hst4 (fun cx => ⟨_, (kbegin_any 3 _).mono (by rintro e W1 ⟨A4, c4, rfl, ho_, hx⟩; exact ⟨_, _, rfl, St.one hx (eO_new (n := 2) (xs := (begF 3).flatMap edC) ho_)⟩), (map1 (cx.co _))⟩) fun A20_6 c20_6 W6 hst6 => ?_
  refine sqc0s (fun X_ => X_.fp) (.tuple #[]) (fun r6_7 => eBk B9_2 (doB (blankF 4) (begF 3)) r6_7) 0 hst6 (by
      refine svA fun ρ β W X cx => ?_
      refine DoesU.call (run_callF (args := #[vp B9_2, .slice A20_6 2 c20_6]) rfl cx.sees rfl (by kernel_rfl) (map2 (cx.ou 19) (cx.ou 20))) ?_
      refine (rdo_any B9_2 (blankF 4) _ 4 _ _ (begF 3) _ (CtxV.holdF cx (cx.init 0 _ rfl) rfl) (CtxV.ltF cx (cx.init 0 _ rfl) rfl) (CtxV.keepAt cx (cx.init 5 _ rfl) (cx.init 0 _ rfl) rfl rfl (by decide)) (by decide) (blank_sz 4).2 (by decide) (blank_sz 4).1.its).mono ?_
      rintro e W1 ⟨rfl, fp4, hs4⟩
      refine ⟨_, rfl, post_obj (E := eBk B9_2 (blankF 4) r0_2) [eBk B9_2 (doB (blankF 4) (begF 3)) fp4] (cx.init 0 _ rfl) rfl rfl hs4 (fun σ β' X' hs hb hv hN => ?_)⟩
      have hv1 := (hv 21 rfl).1; have hv2 := (hv 21 rfl).2
      exact ⟨hv1.trans rfl, eBk_self ((List.cons.inj hN).1)⟩) fun r6_7 W7 hst7 => ?_
  refine then_normal (wp_seq ?_)
  have hsb_ : doB (blankF 4) (begF 3) = sanB := rfl
  rw [hsb_] at hst7
  refine sqr (sqp [.k 22 (.agg #[vi 1, vi 2])] ?_)
  refine sqk1s (fun B23_9 => vp B23_9) (fun B23_9 r6_9 => ePk B23_9 (putT 3 (⟨#[97, 98]⟩ : ByteArray) 1 2) r6_9) hst7 (fun cx => ⟨_, (kgrowN_any 3 (⟨#[97, 98]⟩ : ByteArray) 1 2 _ (by decide)).mono (by rintro e W1 ⟨B4, fp4, rfl, hs4⟩; exact ⟨_, _, rfl, hs4⟩), (map3 (cx.co _) (cx.co _) (cx.ou 22))⟩) fun B23_9 r6_9 W9 hst9 => ?_
  refine sqp [.m 3 23] ?_
  refine then_normal (wp_seq (wp_seq (sqr (sqp [.m 24 3] ?_))))
  refine sqv (.bool false) hst9 (by
      exact sv0 rfl rfl rfl rfl rfl (fun _ _ _ h => h) fun ρ β W X cx => by
        have fF24 : ρ (.tmp 24) = vp B23_9 := (cx.ou 24)
        simp [go_sem, cx.sees.const, fF24]) fun W12 hst12 => ?_
  refine then_normal (wcf rfl (wp_skip (then_normal (wp_seq (wp_region_Y [0, 0, 2, 7, 15, 31, 31, 31, 63, 383, 1023] [[], [], [], [6, 0]] [[], [], [], [7, 8]] [[], [], [], [6]] [.k 27 (vp B23_9), .k 28 (vp B9_2), .c 29 (.iface 24 (vp B9_2)), .a 30, .a 26, .a 31, .c 32 (.bool false), .c 33 (vi 0), .a 4, .k 5 (.bool false), .k 6 (vi 0)] (fun ix σ β X => match ix with | 0 => True | 1 => True | 2 => True | 3 => σ 30 = .tuple #[.slice (sA (tg (β 30) 0)) 1 (sC (tg (β 30) 0)), .bool false, vi 0] ∧ X 7 = ePk B23_9 sanP ((X 7).fp) ∧ X 8 = eO 99 3 (.slice (sA (tg (β 30) 0)) 1 (sC (tg (β 30) 0))) 1 ([(3, 1, sanX)].flatMap edC) | 4 => σ 26 = .tuple #[.slice (sA (tg (β 30) 0)) 1 (sC (tg (β 30) 0)), .bool false, vi 0] | 5 => σ 31 = .slice (sA (tg (β 30) 0)) 1 (sC (tg (β 30) 0)) | 6 => True | 7 => True | 8 => σ 4 = .slice (sA (tg (β 30) 0)) 1 (sC (tg (β 30) 0)) | _ => True) [0, 1, 2, 3, 4, 5, 7, 8] [2, 3, 4, 5, 6, 7, 8] [(4, 8, 3, 7), (19, 4, 1, 20), (0, 0, 4, 4), (0, 5, 3, 3)] hst12 ?_ ?_ ?_)))))
  · exact fun ix _ _ _ _ _ _ hs hb hx h => match ix, h with
    | 3, h => by dsimp only; rw [← hs 30 rfl, ← hb 30 rfl, ← hx 7 rfl, ← hx 8 rfl]; exact h
    | 4, h => by dsimp only; rw [← hs 26 rfl, ← hb 30 rfl]; exact h
    | 5, h => by dsimp only; rw [← hs 31 rfl, ← hb 30 rfl]; exact h
    | 8, h => by dsimp only; rw [← hs 4 rfl, ← hb 30 rfl]; exact h
    | 0, _ | 1, _ | 2, _ | 6, _ | 7, _ | _ + 9, _ => trivial
  · refine ⟨?_, ?_, ?_, ?_, ?_, ?_, ?_, trivial⟩
    · exact sv0 rfl rfl rfl rfl rfl (fun _ _ _ h => h) fun ρ β W X cx => by
        have fF28 : ρ (.tmp 28) = vp B9_2 := (cx.an 1)
        simp [go_sem, fF28]
    · refine svA fun ρ β W X cx => ?_
      refine DoesU.call (run_callF (args := #[vp B23_9, .iface 24 (vp B9_2), vi (-1)]) rfl cx.sees rfl (by kernel_rfl) (map3 (cx.an 0) (cx.an 2) (cx.co _))) ?_
      refine (kt_to san_step (kstep_pk (fresh := -1) (CtxV.holdF cx (cx.init 6 _ rfl) rfl) (CtxV.bkU cx (cx.init 0 _ rfl) (cx.init 6 _ rfl) rfl rfl (by decide)) (by decide) sanB_ok sanB_c (by decide) (fun t ht => by rw [putT, List.mem_singleton] at ht; subst ht; decide) (fun nd h => by have h_ := sanB_nd.symm.trans h; rw [← Option.some.inj h_]; decide))).mono ?_
      rintro e W1 ⟨A4, c4, rfl, fp4, hs4⟩
      refine ⟨_, rfl, post_obj (E := ePk B23_9 (putT 3 (⟨#[97, 98]⟩ : ByteArray) 1 2) r6_9) [ePk B23_9 sanP fp4, eO 99 3 (.slice A4 1 c4) 1 ([(3, 1, sanX)].flatMap edC)] (cx.init 6 _ rfl) rfl rfl hs4 (fun σ β' X' hs hb hv hN => ?_)⟩
      have hv1 := (hv 30 rfl).1; have hv2 := (hv 30 rfl).2
      exact ⟨hv1.trans (by rw [hv2]; rfl), ePk_self ((List.cons.inj hN).1), (by rw [hv2]; exact (List.cons.inj (List.cons.inj hN).2).1)⟩
    · exact sv rfl rfl rfl rfl rfl _ (fun _ _ _ h => h) (fun β β' h => by rw [h 30 (by decide)]) fun ρ β W X cx => run_move' rfl (dTn (cx.an 3)).1
    · exact sv rfl rfl rfl rfl rfl _ (fun _ _ _ h => h) (fun β β' h => by rw [h 30 (by decide)]) fun ρ β W X cx => run_extract' rfl (dTn (cx.an 4)) rfl
    · exact xs4 rfl id fun cx => run_extract' rfl (dTn (cx.an 4)) rfl
    · exact xs4 rfl id fun cx => run_extract' rfl (dTn (cx.an 4)) rfl
    · exact sv rfl rfl rfl rfl rfl _ (fun _ _ _ h => h) (fun β β' h => by rw [h 30 (by decide)]) fun ρ β W X cx => run_assign' rfl (dTn (cx.an 5))
  intro σ β X W13 hD hst13 fr hfr
  obtain ⟨A30_13, hu_A30_13⟩ : ∃ z, sA (tg (β 30) 0) = z := ⟨_, rfl⟩
  obtain ⟨c30_13, hu_c30_13⟩ : ∃ z, sC (tg (β 30) 0) = z := ⟨_, rfl⟩
  have xX7 : X 7 = _ := (dTn (hD 3 lq)).2.1
  obtain ⟨r7_13, hu_r7_13⟩ : ∃ z, (X 7).fp = z := ⟨_, rfl⟩
  rw [hu_r7_13] at xX7
  clear hu_r7_13
  simp only [xX7, exq 8 ((dTn (hD 3 lq)).2.2), hu_A30_13, hu_c30_13] at hst13
  simp only [ed 30 ((dTn (hD 3 lq)).1), ed 26 ((dTn (hD 4 lq))), ed 31 ((dTn (hD 5 lq))), ed 4 ((dTn (hD 8 lq))), hu_A30_13, hu_c30_13] at hfr
  clear hD xX7 hu_A30_13 hu_c30_13; subst hfr; clear σ β X
  refine then_normal (wp_seq (sqr ?_))
  refine sqn1 (fun x_ => sA x_) (fun A34_14 => .slice A34_14 4 4) (fun A34_14 => eO 5 1 (.slice A34_14 4 4) 4 ([.int .u8 0, .int .u8 1, .int .u8 0, .int .u8 2])) hst13 (by
      refine svA fun ρ β W X cx => ?_
      exact dv_lit (e := 5) (xs := [.int .u8 0, .int .u8 1, .int .u8 0, .int .u8 2]) rfl (by simp [go_sem, cx.sees.const]) rfl (by decide) rfl rfl (fun σ β' X' hs hb hv hx => ⟨hv, hx⟩)) fun A34_14 W14 hst14 => ?_
  refine sql (.string (strOfNums ([0, 1, 0, 2]))) hst14 (fun cx => run_convB (e := 5) rfl (by kernel_rfl) (by kernel_rfl) (by kernel_rfl) (cx.ou 34) (cx.ri 8 rfl)) ?_
  refine sqp [sS 36 ((⟨#[97, 98]⟩ : ByteArray)) (strOfNums ([0, 1, 0, 2])) (by rw [strOfNums_size]; decide), .m 7 36] ?_
  refine then_normal (wp_seq (sqr (sqp [.m 37 4, .m 38 7, .k 39 (.agg #[vi 3, vi 1, .string (((⟨#[97, 98]⟩ : ByteArray)) ++ (strOfNums ([0, 1, 0, 2])))])] ?_)))
  refine sqli 99 3 1 [vi 3, vi 1, .string (((⟨#[97, 98]⟩ : ByteArray)) ++ (strOfNums ([0, 1, 0, 2])))] hst14 (@fun ρ β W X cx => by have fF39 : ρ (.tmp 39) = .agg #[vi 3, vi 1, .string (((⟨#[97, 98]⟩ : ByteArray)) ++ (strOfNums ([0, 1, 0, 2])))] := (cx.ou 39); simp [go_sem, fF39]) fun B40_21 W21 hst21 => ?_
  refine sqk (.bool true) hst21 (fun cx => ⟨_, rsame_any _ _ _ _ [(3, 1, sanX)] _ (at_to (At.of_ownN (cx.ri 7 rfl)) (by kernel_rfl)) (at_to (At.of_ownN (cx.ri 9 rfl)) (by kernel_rfl)) (by decide), (map2 (cx.ou 37) (cx.ou 40))⟩) fun W22 hst22 => ?_
  refine sqp [.k 8 (.bool true)] ?_
  refine then_normal (wp_seq (sqr (sqp [.k 42 (.bool true), .k 43 (.bool true)] ?_)))
  refine sqgy 43 [44] rfl rfl ?_
  refine sqp [.k 44 (.bool true)] ?_
  refine sqp [.k 45 (.bool true), .k 46 (.bool true)] ?_
  refine sqgy 46 [47, 48] rfl rfl ?_
  refine sqp [.k 47 (.bool false), .k 48 (.bool true)] ?_
  refine sqp [.k 49 (.bool true), .k 50 (.bool true)] ?_
  refine sqgy 50 [51, 52] rfl rfl ?_
  refine sqp [.m 51 6, .k 52 (.bool true)] ?_
  refine sqp [.k 53 (.bool true), .k 54 (.bool true)] ?_
  refine sqgy 54 [55, 56] rfl rfl ?_
  refine sqp [.m 55 3] ?_
  refine sqk (.bool true) hst22 (fun cx => ⟨_, kdone_t (CtxV.holdF cx (cx.init 6 _ rfl) rfl) rfl, (map1 (cx.ou 55))⟩) fun W38 hst38 => ?_
  refine sqp [.k 57 (.bool true), .k 58 (.bool true)] ?_
  refine sqgy 58 [59, 60, 61] rfl rfl ?_
  refine sqp [.m 59 3] ?_
  refine sqk (vi 3) hst38 (fun cx => ⟨_, kleaf_pk (CtxV.holdF cx (cx.init 6 _ rfl) rfl), (map1 (cx.ou 59))⟩) fun W42 hst42 => ?_
  refine sqp [.k 61 (.bool true)] ?_
  refine sqp [.k 62 (.bool true), .k 63 (.bool true)] ?_
  refine sqgy 63 [64, 65, 66, 67] rfl rfl ?_
  refine sqp [.k 64 (.agg #[vi 1, vi 2])] ?_
  refine sqk (.string ((entF sanK 1 2))) hst42 (fun cx => ⟨_, kentry_any sanK 1 2 _ (by decide), (map2 (cx.co _) (cx.ou 64))⟩) fun W47 hst47 => ?_
  have hd50 : (((entF sanK 1 2)).toList == (((⟨#[97, 98]⟩ : ByteArray)) ++ (strOfNums ([0, 1, 0, 2]))).toList) = true := (by kernel_rfl)
  refine sqp [.m 66 7, .e 67 (.bool (((entF sanK 1 2)).toList == (((⟨#[97, 98]⟩ : ByteArray)) ++ (strOfNums ([0, 1, 0, 2]))).toList)) (.bool true) (congrArg Value.bool hd50)] ?_
  refine sqp [.k 68 (.bool true), .k 69 (.bool true)] ?_
  refine sqgy 69 [70, 71, 72, 73] rfl rfl ?_
  refine sqp [.m 70 1] ?_
  refine sqv (.iface 24 (vp B9_2)) hst47 (by
      exact sv0 rfl rfl rfl rfl rfl (fun _ _ _ h => h) fun ρ β W X cx => by
        have fF70 : ρ (.tmp 70) = vp B9_2 := (cx.ou 70)
        simp [go_sem, fF70]) fun W54 hst54 => ?_
  refine sqk (vi 0) hst54 (fun cx => ⟨_, kcheck_1 _ _ 3 sanB sanN _ (book_ok (eBk_at (CtxV.holdF cx (cx.init 0 _ rfl) rfl)) sanB_ok.len) sanB_ok sanB_c sanB_nd sanN_1, (map2 (cx.ou 71) (cx.co _))⟩) fun W55 hst55 => ?_
  refine sqp [.k 73 (.bool true)] ?_
  refine sqp [.k 74 (.bool true), .k 0 (.bool true)] ?_
  refine then_normal (wp_ret ?_)
  refine bpr (.bool true) (results_1 Try.results10 rpt) ?_
  exact Ret.of rfl hst55.ext
end
end Go.Proofs.Ytjlcoglmjldjbaa
namespace Go.Proofs.Ytjlcoglmjldjbaa
section
open Go.RowKit
set_option linter.unusedVariables false
set_option linter.unusedSimpArgs false
section
variable {o : Oper} {ρ : Operand → Value} {W : World}
theorem run_eqT {x y : Operand} {a b c d : Int} {r : Bool} (h : o.op = .binOp .eql 31 x y 31) (hx : ρ x = .agg #[.int .i64 a, .int .i64 b]) (hy : ρ y = .agg #[.int .i64 c, .int .i64 d]) (hr : (a == c && b == d) = r) :
    (execOp ρ o).run Try.prog W = .ok (.value (.bool r)) W := by
  subst hr
  unfold execOp; rw [h]
  simp [go_sem, hx, hy]
  by_cases h1 : a = c <;> by_cases h2 : b = d <;> simp [h1, h2]
end
end
end Go.Proofs.Ytjlcoglmjldjbaa
namespace Go.Proofs.Ytjlcoglmjldjbaa
section
open Go.RowKit
set_option linter.unusedVariables false
set_option linter.unusedSimpArgs false
theorem kpart_ent (k : ByteArray) (p s : Int) (w : World) (hk : k.size ≤ 1000) (hp : 0 ≤ p ∧ p < 65536) (hs : 0 ≤ s ∧ s < 65536) : Calls Try.prog 27 #[.string (entF k p s)] w (Ret (.tuple #[.string k, .agg #[.int .i64 p, .int .i64 s], .bool true]) w) := by
  have hz := entF_size k p s
  have h := kpart_any (entF k p s) w (by omega)
  have h4 : ¬ (entF k p s).size < 4 := by omega
  rw [partV, qkF, opF, osF, if_neg h4, if_neg h4, if_neg h4, pkF_ent, ppF_ent, psF_ent, decide_eq_true (show 4 ≤ (entF k p s).size by omega), show p % 65536 = p by omega, show s % 65536 = s by omega] at h
  exact h
theorem entF_parts {x : ByteArray} (h : 4 ≤ x.size) : entF (qkF x) (opF x) (osF x) = x := by
  have h4 : ¬ x.size < 4 := by omega
  have e := entF_size (qkF x) (opF x) (osF x)
  have b1 := numS_two x (x.size - 4) (by omega)
  have b2 := numS_two x (x.size - 2) (by omega)
  have c1 := byteI_bd (bl x) (x.size - 4)
  have c2 := byteI_bd (bl x) (x.size - 4 + 1)
  have c3 := byteI_bd (bl x) (x.size - 2)
  have c4 := byteI_bd (bl x) (x.size - 2 + 1)
  refine ent_inj (by omega) h ?_ ?_ ?_
  · rw [pkF_ent, qkF, if_neg h4]
  · rw [ppF_ent, opF, if_neg h4, ppF]; omega
  · rw [psF_ent, osF, if_neg h4, psF]; omega
theorem order_two (x y : ByteArray) (hx : 4 ≤ x.size) (hy : 4 ≤ y.size) : ((x.toList == y.toList) || (lessF x y != lessF y x)) = true := by
  cases h1 : lessF x y with
  | true => rw [lessF_asym h1]; simp
  | false =>
    cases h2 : lessF y x with
    | true => simp
    | false => rw [lessF_total hx hy h1 h2]; simp
theorem bk_one {w0 W : World} {bor : List Nat} {b : Nat} {k : Int} {js : List ByteArray} {fp : List Nat} (h : St w0 bor [eBk b [(k, 0, js)] fp] W) : ∃ LA lc A c Qs, PgT.mk k 0 A c js ∈ Qs ∧
    St w0 bor [eB b 64 #[.slice LA 1 lc], eO 51 3 (.slice LA 1 lc) 1 ([PgT.mk k 0 A c js].flatMap ptC), ePt Qs] W := by
  obtain ⟨LA, lc, Ps, Qs, h1, h2, h3, h4, h5⟩ := (h.ok _ (List.mem_singleton.2 rfl)).holds
  have h6 := St.unpack h h3 h5 h4
  match Ps, h1 with
  | [⟨pk, pl, pA, pc, pits⟩], h1 =>
    have h7 : (pk, pl, pits) = (k, 0, js) := (List.cons.inj h1).1
    cases h7
    exact ⟨LA, lc, pA, pc, Qs, h2 _ (List.mem_singleton.2 rfl), h6⟩
theorem qkF_le (e : ByteArray) : (qkF e).size ≤ e.size := by
  unfold qkF pkF
  split
  · exact Nat.zero_le _
  · rw [ByteArray.size_extract]; omega
theorem tqS_get {S : List EnD} {k : Nat} (h : k < S.length) : (S.map tqS)[k]? = some (.string (qkF (S.getD k en0).1)) := by simp [tqS, h]
theorem tqR_get {l : List EnD} {i : Nat} (h : i < l.length) : l[i]? = some (l.getD i en0) := by rw [List.getD_eq_getElem?_getD, List.getElem?_eq_getElem h]; rfl
set_option maxRecDepth 100000 in
set_option maxHeartbeats 2000000 in
theorem treebytes_any (k0 k1 : ByteArray) (q0 q1 q2 q3 k lsn : Int) (A : Option Addr) (c : Nat) (its : List ByteArray) (w : World) (hA : At w A (its.map Value.string)) (hl : its.length ≤ 100000000000000) (hk0 : k0.size ≤ 140737488351232) (hk1 : k1.size ≤ 140737488351232) :
    Calls Try.prog 4 #[.agg #[.string k0, .string k1], .agg #[.int .i64 q0, .int .i64 q1, .int .i64 q2, .int .i64 q3], .agg #[.int .i64 k, .int .i64 lsn, .slice A its.length c]] w (Ret (.bool true) w) := by
  go_enter Try.func4, Try.ntmps4
  have hst0 := St.start w
  refine wp_seq (sqr ?_)
  refine sqbx #[.string k0, .string k1] hst0 fun B3_1 W1 hst1 => ?_
  refine sqbx #[vi q0, vi q1, vi q2, vi q3] hst1 fun B4_2 W2 hst2 => ?_
  refine sqbx #[vi k, vi lsn, .slice A its.length c] hst2 fun B5_3 W3 hst3 => ?_
  refine sqp [.k 6 (.bool false)] ?_
  refine then_normal (wp_seq (sqr (sqk (.bool true) hst3 (fun cx => ⟨_, sanity10_any _, map0⟩) fun W5 hst5 => ?_)))
  refine sqp [.k 7 (.bool true)] ?_
  refine then_normal (wp_seq (sqr ?_))
  refine sql (vp B3_1) hst5 (fun cx => run_indexArrB (n := 2) (sz := 1) (m := 0) (q := 0) rfl (by kernel_rfl) (cx.ou 3) (cx.co _) (by omega) (by omega) (by omega)) ?_
  refine sqld 0 hst5 ?_
  refine sql (vp B3_1) hst5 (fun cx => run_indexArrB (n := 2) (sz := 1) (m := 0) (q := 0) rfl (by kernel_rfl) (cx.ou 3) (cx.co _) (by omega) (by omega) (by omega)) ?_
  refine sqld 0 hst5 ?_
  refine sqp [.k 29 (vi ((k0.size : Int)))] ?_
  refine sql (vi (((min k0.size 20 : Nat) : Int))) hst5 (fun cx => run_min2 rfl (cx.ou 29) (cx.co _) (by omega)) ?_
  refine sql (.string (k0.extract 0 (((min k0.size 20 : Nat))))) hst5 (fun cx => run_slice_hi (l := ((min k0.size 20 : Nat))) rfl (by kernel_rfl) (cx.ou 26) (cx.ou 30) (by omega) (by omega)) ?_
  refine sqp [.m 8 31] ?_
  refine then_normal (wp_seq (sqr ?_))
  refine sql (.pointer (some ⟨B3_1, 1, none⟩)) hst5 (fun cx => run_indexArrB (n := 2) (sz := 1) (m := 1) (q := 1) rfl (by kernel_rfl) (cx.ou 3) (cx.co _) (by omega) (by omega) (by omega)) ?_
  refine sqld 0 hst5 ?_
  refine sql (.pointer (some ⟨B3_1, 1, none⟩)) hst5 (fun cx => run_indexArrB (n := 2) (sz := 1) (m := 1) (q := 1) rfl (by kernel_rfl) (cx.ou 3) (cx.co _) (by omega) (by omega) (by omega)) ?_
  refine sqld 0 hst5 ?_
  refine sqp [.k 36 (vi ((k1.size : Int)))] ?_
  refine sql (vi (((min k1.size 20 : Nat) : Int))) hst5 (fun cx => run_min2 rfl (cx.ou 36) (cx.co _) (by omega)) ?_
  refine sql (.string (k1.extract 0 (((min k1.size 20 : Nat))))) hst5 (fun cx => run_slice_hi (l := ((min k1.size 20 : Nat))) rfl (by kernel_rfl) (cx.ou 33) (cx.ou 37) (by omega) (by omega)) ?_
  refine sqp [.m 9 38] ?_
  refine then_normal (wp_seq ?_)
  obtain ⟨a, hN_a⟩ : ∃ z, k0.extract 0 (((min k0.size 20 : Nat))) = z := ⟨_, rfl⟩
  rw [hN_a]
  have hza : a.size ≤ 20 := by rw [← hN_a, ByteArray.size_extract]; omega
  obtain ⟨b, hN_b⟩ : ∃ z, k1.extract 0 (((min k1.size 20 : Nat))) = z := ⟨_, rfl⟩
  rw [hN_b]
  have hzb : b.size ≤ 20 := by rw [← hN_b, ByteArray.size_extract]; omega
  have hq01_ := Int.lt_tmod_of_pos q0 (b := 65536) (by decide)
  have hq02_ := Int.tmod_lt_of_pos q0 (b := 65536) (by decide)
  have hq11_ := Int.lt_tmod_of_pos q1 (b := 65536) (by decide)
  have hq12_ := Int.tmod_lt_of_pos q1 (b := 65536) (by decide)
  have hq21_ := Int.lt_tmod_of_pos q2 (b := 65536) (by decide)
  have hq22_ := Int.tmod_lt_of_pos q2 (b := 65536) (by decide)
  have hq31_ := Int.lt_tmod_of_pos q3 (b := 65536) (by decide)
  have hq32_ := Int.tmod_lt_of_pos q3 (b := 65536) (by decide)
  refine wp_region_Y [0, 1, 3, 0, 8, 31, 63, 0, 255] [[], [1], [], [], [1], [], [], [], [3]] [[], [], [], [], [], [], [], [3], [4]] [[], [], [], [], [], [], [], [], [3]] [.c 39 (vp B4_2), .c 40 (vi q0), .c 41 (vi ((q0.tmod 65536 + 65536) % 65536)), .c 42 (.pointer (some ⟨B4_2, 1, none⟩)), .c 43 (vi q1), .c 44 (vi ((q1.tmod 65536 + 65536) % 65536)), .k 45 (.agg #[vi ((q0.tmod 65536 + 65536) % 65536), vi ((q1.tmod 65536 + 65536) % 65536)]), .a 10, .n] (fun ix σ β X => match ix with | 0 => True | 1 => True | 2 => True | 3 => True | 4 => True | 5 => True | 6 => True | 7 => σ 10 = vp (pb (β 10)) ∧ X 3 = eB (pb (β 10)) 31 #[vi 0, vi 0] | 8 => X 4 = eB (pb (β 10)) 31 #[vi ((q0.tmod 65536 + 65536) % 65536), vi ((q1.tmod 65536 + 65536) % 65536)] | _ => True) [0, 1, 2, 4] [0, 1, 2, 3, 4, 5, 7, 8] [(10, 7, 1, 11), (28, 0, 7, 35)] hst5 ?_ ?_ ?_
  · exact fun ix _ _ _ _ _ _ hs hb hx h => match ix, h with
    | 7, h => by dsimp only; rw [← hs 10 rfl, ← hb 10 rfl, ← hx 3 rfl]; exact h
    | 8, h => by dsimp only; rw [← hb 10 rfl, ← hx 4 rfl]; exact h
    | 0, _ | 1, _ | 2, _ | 3, _ | 4, _ | 5, _ | 6, _ | _ + 9, _ => trivial
  · refine ⟨?_, ?_, ?_, ?_, ?_, ?_, ?_, ?_, trivial⟩
    · exact xs4 rfl id fun cx => run_indexArrB (n := 4) (sz := 1) (m := 0) (q := 0) rfl (by kernel_rfl) (cx.ou 4) (cx.co _) (by omega) (by omega) (by omega)
    · exact xs4 rfl id fun cx => run_load1 rfl (by kernel_rfl) (cx.an 0) ((cx.bi 1 rfl).cell 0)
    · exact xsc rfl id rfl rfl fun cx => ⟨_, lrest65536 q0 _, (map2 (cx.an 1) (cx.co _))⟩
    · exact xs4 rfl id fun cx => run_indexArrB (n := 4) (sz := 1) (m := 1) (q := 1) rfl (by kernel_rfl) (cx.ou 4) (cx.co _) (by omega) (by omega) (by omega)
    · exact xs4 rfl id fun cx => run_load1 rfl (by kernel_rfl) (cx.an 3) ((cx.bi 1 rfl).cell 1)
    · exact xsc rfl id rfl rfl fun cx => ⟨_, lrest65536 q1 _, (map2 (cx.an 4) (cx.co _))⟩
    · refine svA fun ρ β W X cx => ?_
      exact dv_alloc (cs := #[vi 0, vi 0]) rfl (by kernel_rfl) rfl rfl (fun σ β' X' hs hb hv hx => ⟨hv, hx⟩)
    · refine svA fun ρ β W X cx => ?_
      exact dv_store (n := 2) rfl (dTn (cx.an 7)).1 (cx.an 6) (by kernel_rfl) (by kernel_rfl) (by kernel_rfl) cx (dTn (cx.an 7)).2 rfl (nle rfl) (by kernel_rfl) rfl rfl rfl (fun σ β' X' hs hb hx => by rw [hb 10]; exact hx)
  intro σ β X W23 hD hst23 fr hfr
  obtain ⟨B10_23, hu_B10_23⟩ : ∃ z, pb (β 10) = z := ⟨_, rfl⟩
  simp only [exq 4 ((dTn (hD 8 lq))), hu_B10_23] at hst23
  simp only [ed 10 ((dTn (hD 7 lq)).1), hu_B10_23] at hfr
  clear hD hu_B10_23; subst hfr; clear σ β X
  refine then_normal (wp_seq (wp_region_Y [0, 1, 3, 0, 8, 31, 63, 0, 255] [[], [1], [], [], [1], [], [], [], [4]] [[], [], [], [], [], [], [], [4], [5]] [[], [], [], [], [], [], [], [], [4]] [.c 46 (.pointer (some ⟨B4_2, 2, none⟩)), .c 47 (vi q2), .c 48 (vi ((q2.tmod 65536 + 65536) % 65536)), .c 49 (.pointer (some ⟨B4_2, 3, none⟩)), .c 50 (vi q3), .c 51 (vi ((q3.tmod 65536 + 65536) % 65536)), .k 52 (.agg #[vi ((q2.tmod 65536 + 65536) % 65536), vi ((q3.tmod 65536 + 65536) % 65536)]), .a 11, .n] (fun ix σ β X => match ix with | 0 => True | 1 => True | 2 => True | 3 => True | 4 => True | 5 => True | 6 => True | 7 => σ 11 = vp (pb (β 11)) ∧ X 4 = eB (pb (β 11)) 31 #[vi 0, vi 0] | 8 => X 5 = eB (pb (β 11)) 31 #[vi ((q2.tmod 65536 + 65536) % 65536), vi ((q3.tmod 65536 + 65536) % 65536)] | _ => True) [0, 1, 2, 3, 5] [0, 1, 2, 3, 4, 5, 7, 8] [(11, 7, 1, 12), (34, 0, 7, 41)] hst23 ?_ ?_ ?_))
  · exact fun ix _ _ _ _ _ _ hs hb hx h => match ix, h with
    | 7, h => by dsimp only; rw [← hs 11 rfl, ← hb 11 rfl, ← hx 4 rfl]; exact h
    | 8, h => by dsimp only; rw [← hb 11 rfl, ← hx 5 rfl]; exact h
    | 0, _ | 1, _ | 2, _ | 3, _ | 4, _ | 5, _ | 6, _ | _ + 9, _ => trivial
  · refine ⟨?_, ?_, ?_, ?_, ?_, ?_, ?_, ?_, trivial⟩
    · exact xs4 rfl id fun cx => run_indexArrB (n := 4) (sz := 1) (m := 2) (q := 2) rfl (by kernel_rfl) (cx.ou 4) (cx.co _) (by omega) (by omega) (by omega)
    · exact xs4 rfl id fun cx => run_load1 rfl (by kernel_rfl) (cx.an 0) ((cx.bi 1 rfl).cell 2)
    · exact xsc rfl id rfl rfl fun cx => ⟨_, lrest65536 q2 _, (map2 (cx.an 1) (cx.co _))⟩
    · exact xs4 rfl id fun cx => run_indexArrB (n := 4) (sz := 1) (m := 3) (q := 3) rfl (by kernel_rfl) (cx.ou 4) (cx.co _) (by omega) (by omega) (by omega)
    · exact xs4 rfl id fun cx => run_load1 rfl (by kernel_rfl) (cx.an 3) ((cx.bi 1 rfl).cell 3)
    · exact xsc rfl id rfl rfl fun cx => ⟨_, lrest65536 q3 _, (map2 (cx.an 4) (cx.co _))⟩
    · refine svA fun ρ β W X cx => ?_
      exact dv_alloc (cs := #[vi 0, vi 0]) rfl (by kernel_rfl) rfl rfl (fun σ β' X' hs hb hv hx => ⟨hv, hx⟩)
    · refine svA fun ρ β W X cx => ?_
      exact dv_store (n := 2) rfl (dTn (cx.an 7)).1 (cx.an 6) (by kernel_rfl) (by kernel_rfl) (by kernel_rfl) cx (dTn (cx.an 7)).2 rfl (nle rfl) (by kernel_rfl) rfl rfl rfl (fun σ β' X' hs hb hx => by rw [hb 11]; exact hx)
  intro σ β X W24 hD hst24 fr hfr
  obtain ⟨B11_24, hu_B11_24⟩ : ∃ z, pb (β 11) = z := ⟨_, rfl⟩
  simp only [exq 5 ((dTn (hD 8 lq))), hu_B11_24] at hst24
  simp only [ed 11 ((dTn (hD 7 lq)).1), hu_B11_24] at hfr
  clear hD hu_B11_24; subst hfr; clear σ β X
  refine then_normal (wp_seq ?_)
  obtain ⟨p0, hN_p0⟩ : ∃ z, (q0.tmod 65536 + 65536) % 65536 = z := ⟨_, rfl⟩
  rw [hN_p0] at hst24 ⊢
  have hbp0_ : 0 ≤ p0 ∧ p0 < 65536 := by rw [← hN_p0]; omega
  obtain ⟨s0, hN_s0⟩ : ∃ z, (q1.tmod 65536 + 65536) % 65536 = z := ⟨_, rfl⟩
  rw [hN_s0] at hst24 ⊢
  have hbs0_ : 0 ≤ s0 ∧ s0 < 65536 := by rw [← hN_s0]; omega
  obtain ⟨p1, hN_p1⟩ : ∃ z, (q2.tmod 65536 + 65536) % 65536 = z := ⟨_, rfl⟩
  rw [hN_p1] at hst24 ⊢
  have hbp1_ : 0 ≤ p1 ∧ p1 < 65536 := by rw [← hN_p1]; omega
  obtain ⟨s1, hN_s1⟩ : ∃ z, (q3.tmod 65536 + 65536) % 65536 = z := ⟨_, rfl⟩
  rw [hN_s1] at hst24 ⊢
  have hbs1_ : 0 ≤ s1 ∧ s1 < 65536 := by rw [← hN_s1]; omega
  have hx4 := entF_size a p0 s0
  have hy4 := entF_size b p1 s1
  refine sqr (sqp [.m 53 8] ?_)
  refine sqlb 3 2 hst24 ?_
  refine sqk (.string (entF a p0 s0)) hst24 (fun cx => ⟨_, kentry_any a p0 s0 _ (by omega), (map2 (cx.ou 53) (cx.ou 54))⟩) fun W27 hst27 => ?_
  refine sqp [.m 12 55] ?_
  refine then_normal (wp_seq (sqr (sqp [.m 56 9] ?_)))
  refine sqlb 4 2 hst27 ?_
  refine sqk (.string (entF b p1 s1)) hst27 (fun cx => ⟨_, kentry_any b p1 s1 _ (by omega), (map2 (cx.ou 56) (cx.ou 57))⟩) fun W31 hst31 => ?_
  refine sqp [.m 13 58] ?_
  refine then_normal (wp_seq (sqr (sqp [.m 60 12] ?_)))
  refine sqk (.tuple #[.string a, .agg #[vi p0, vi s0], .bool true]) hst31 (fun cx => ⟨_, kpart_ent a p0 s0 _ (by omega) (by omega) (by omega), (map1 (cx.ou 60))⟩) fun W34 hst34 => ?_
  refine sqp [.m 59 61, .k 62 (.string a), .k 63 (.agg #[vi p0, vi s0]), .k 64 (.bool true)] ?_
  refine sqal #[vi 0, vi 0] hst34 fun B15_39 W39 hst39 => ?_
  refine sqp [.m 14 62] ?_
  refine sqst (n := 2) 5 #[vi p0, vi s0] hst39 fun W41 hst41 => ?_
  refine sqp [.k 16 (.bool true)] ?_
  refine then_normal (wp_seq (wp_region_Z [0, 0, 0, 6, 15, 31, 63, 63, 255, 511, 1023, 2047, 2047, 8191, 16383, 32767, 65535, 131071, 262143, 524287, 524287, 1572863, 524287, 4718591, 16252927, 33554431, 524287, 524287, 134742015, 524287, 537395199, 2013790207, 4294967295, 8589934591, 17179869183, 34359738367] [[], [], [3], [], [], [], [], [], [], [], [], [5], [3], [], [], [], [], [], [], [], [], [1], [], [1], [], [], [], [], [1], [], [1]] [.k 65 (.string (entF a p0 s0)), .k 66 (.string (a)), .c 67 (.agg #[vi (p0), vi (s0)]), .c 68 (.string (entF a p0 s0)), .k 69 (.bool ((entF a p0 s0).toList == (entF a p0 s0).toList)), .k 70 (.bool ((entF a p0 s0).toList == (entF a p0 s0).toList)), .z 71 ((entF a p0 s0).toList == (entF a p0 s0).toList) (.string a), .z 72 ((entF a p0 s0).toList == (entF a p0 s0).toList) (.string (a)), .y 73 ((entF a p0 s0).toList == (entF a p0 s0).toList) (.bool (a.toList == a.toList)), tA 74 ((entF a p0 s0).toList == (entF a p0 s0).toList) (a.toList == a.toList), .k 75 (.bool (((entF a p0 s0).toList == (entF a p0 s0).toList) && (a.toList == a.toList))), .y 76 (((entF a p0 s0).toList == (entF a p0 s0).toList) && (a.toList == a.toList)) (.agg #[vi p0, vi s0]), .y 77 (((entF a p0 s0).toList == (entF a p0 s0).toList) && (a.toList == a.toList)) (.agg #[vi (p0), vi (s0)]), .y 78 (((entF a p0 s0).toList == (entF a p0 s0).toList) && (a.toList == a.toList)) (.bool (p0 == p0 && s0 == s0)), tA 79 (((entF a p0 s0).toList == (entF a p0 s0).toList) && (a.toList == a.toList)) (p0 == p0 && s0 == s0), .k 80 (.bool ((((entF a p0 s0).toList == (entF a p0 s0).toList) && (a.toList == a.toList)) && (p0 == p0 && s0 == s0))), .z 81 ((((entF a p0 s0).toList == (entF a p0 s0).toList) && (a.toList == a.toList)) && (p0 == p0 && s0 == s0)) (.bool true), tA 82 ((((entF a p0 s0).toList == (entF a p0 s0).toList) && (a.toList == a.toList)) && (p0 == p0 && s0 == s0)) true, .k 83 (.bool (((((entF a p0 s0).toList == (entF a p0 s0).toList) && (a.toList == a.toList)) && (p0 == p0 && s0 == s0)) && true)), .z 84 (((((entF a p0 s0).toList == (entF a p0 s0).toList) && (a.toList == a.toList)) && (p0 == p0 && s0 == s0)) && true) (.string (a)), .y 85 (((((entF a p0 s0).toList == (entF a p0 s0).toList) && (a.toList == a.toList)) && (p0 == p0 && s0 == s0)) && true) (vp B4_2), .y 86 (((((entF a p0 s0).toList == (entF a p0 s0).toList) && (a.toList == a.toList)) && (p0 == p0 && s0 == s0)) && true) (vi q0), .y 87 (((((entF a p0 s0).toList == (entF a p0 s0).toList) && (a.toList == a.toList)) && (p0 == p0 && s0 == s0)) && true) (.pointer (some ⟨B4_2, 1, none⟩)), .y 88 (((((entF a p0 s0).toList == (entF a p0 s0).toList) && (a.toList == a.toList)) && (p0 == p0 && s0 == s0)) && true) (vi q1), .z 89 (((((entF a p0 s0).toList == (entF a p0 s0).toList) && (a.toList == a.toList)) && (p0 == p0 && s0 == s0)) && true) (.agg #[vi q0, vi q1]), .y 90 (((((entF a p0 s0).toList == (entF a p0 s0).toList) && (a.toList == a.toList)) && (p0 == p0 && s0 == s0)) && true) (.string (entF a q0 q1)), .z 91 (((((entF a p0 s0).toList == (entF a p0 s0).toList) && (a.toList == a.toList)) && (p0 == p0 && s0 == s0)) && true) (.string (a)), .y 92 (((((entF a p0 s0).toList == (entF a p0 s0).toList) && (a.toList == a.toList)) && (p0 == p0 && s0 == s0)) && true) (vp B4_2), .y 93 (((((entF a p0 s0).toList == (entF a p0 s0).toList) && (a.toList == a.toList)) && (p0 == p0 && s0 == s0)) && true) (vi q0), .y 94 (((((entF a p0 s0).toList == (entF a p0 s0).toList) && (a.toList == a.toList)) && (p0 == p0 && s0 == s0)) && true) (.pointer (some ⟨B4_2, 1, none⟩)), .y 95 (((((entF a p0 s0).toList == (entF a p0 s0).toList) && (a.toList == a.toList)) && (p0 == p0 && s0 == s0)) && true) (vi q1), .z 96 (((((entF a p0 s0).toList == (entF a p0 s0).toList) && (a.toList == a.toList)) && (p0 == p0 && s0 == s0)) && true) (.agg #[vi q0, vi q1]), .y 97 (((((entF a p0 s0).toList == (entF a p0 s0).toList) && (a.toList == a.toList)) && (p0 == p0 && s0 == s0)) && true) (.string (entF a q0 q1)), .y 98 (((((entF a p0 s0).toList == (entF a p0 s0).toList) && (a.toList == a.toList)) && (p0 == p0 && s0 == s0)) && true) (.bool ((entF a q0 q1).toList == (entF a q0 q1).toList)), tA 99 (((((entF a p0 s0).toList == (entF a p0 s0).toList) && (a.toList == a.toList)) && (p0 == p0 && s0 == s0)) && true) ((entF a q0 q1).toList == (entF a q0 q1).toList), .k 17 (.bool ((((((entF a p0 s0).toList == (entF a p0 s0).toList) && (a.toList == a.toList)) && (p0 == p0 && s0 == s0)) && true) && ((entF a q0 q1).toList == (entF a q0 q1).toList)))] [0, 1, 2, 3, 4, 5] [2, 3, 8, 11, 12, 13, 20, 21, 22, 23, 25, 27, 28, 29, 30, 32, 33] [(17, 35, 1, 18), (47, 0, 35, 82)] hst41 ?_ fun W43 hst43 => ?_))
  · refine ⟨?_, ?_, ?_, ?_, ?_, ?_, ?_, ?_, ?_, ?_, ?_, ?_, ?_, ?_, ?_, ?_, ?_, trivial⟩
    · exact xs4 rfl id fun cx => run_loadB (n := 2) rfl (by kernel_rfl) (by kernel_rfl) (cx.ou 10) (cx.bi 3 rfl) (nle rfl) rfl
    · exact xsc rfl id rfl rfl fun cx => ⟨_, rentry_any a p0 s0 _ (by omega), (map2 (cx.an 1) (cx.an 2))⟩
    · exact m2 rfl (fun _ _ _ h => h) (fun cx => (cx.an 5)) fun cx hq => run_streq rfl (mbv (cx.an 6) hq) (mbv (cx.an 7) hq)
    · exact m2 rfl (fun _ _ _ h => h) (fun cx => (cx.an 10)) fun cx hq => run_loadB (n := 2) rfl (by kernel_rfl) (by kernel_rfl) (cx.ou 15) (cx.bi 5 rfl) (nle rfl) rfl
    · exact m2 rfl (fun _ _ _ h => h) (fun cx => (cx.an 10)) fun cx hq => run_loadB (n := 2) rfl (by kernel_rfl) (by kernel_rfl) (cx.ou 10) (cx.bi 3 rfl) (nle rfl) rfl
    · exact m2 rfl (fun _ _ _ h => h) (fun cx => (cx.an 10)) fun cx hq => run_eqT rfl (mbv (cx.an 11) hq) (mbv (cx.an 12) hq) rfl
    · exact m2 rfl (fun _ _ _ h => h) (fun cx => (cx.an 18)) fun cx hq => run_indexArrB (n := 4) (sz := 1) (m := 0) (q := 0) rfl (by kernel_rfl) (cx.ou 4) (cx.co _) (by have hq_ := hq; simp only [zB] at hq_; omega) (by have hq_ := hq; simp only [zB] at hq_; omega) (by have hq_ := hq; simp only [zB] at hq_; omega)
    · exact m2 rfl (fun _ _ _ h => h) (fun cx => (cx.an 18)) fun cx hq => run_load1 rfl (by kernel_rfl) (mbv (cx.an 20) hq) ((cx.bi 1 rfl).cell 0)
    · exact m2 rfl (fun _ _ _ h => h) (fun cx => (cx.an 18)) fun cx hq => run_indexArrB (n := 4) (sz := 1) (m := 1) (q := 1) rfl (by kernel_rfl) (cx.ou 4) (cx.co _) (by have hq_ := hq; simp only [zB] at hq_; omega) (by have hq_ := hq; simp only [zB] at hq_; omega) (by have hq_ := hq; simp only [zB] at hq_; omega)
    · exact m2 rfl (fun _ _ _ h => h) (fun cx => (cx.an 18)) fun cx hq => run_load1 rfl (by kernel_rfl) (mbv (cx.an 22) hq) ((cx.bi 1 rfl).cell 1)
    · exact m3 rfl (fun _ _ _ h => h) (fun cx => (cx.an 18)) fun cx hq => ⟨_, _, run_callF (args := #[.string (a), .agg #[vi q0, vi q1]]) rfl cx.sees rfl (by kernel_rfl) (map2 (mbv (cx.an 19) hq) (mbv (cx.an 24) hq)), kentry_any a q0 q1 _ (by omega)⟩
    · exact m2 rfl (fun _ _ _ h => h) (fun cx => (cx.an 18)) fun cx hq => run_indexArrB (n := 4) (sz := 1) (m := 0) (q := 0) rfl (by kernel_rfl) (cx.ou 4) (cx.co _) (by have hq_ := hq; simp only [zB] at hq_; omega) (by have hq_ := hq; simp only [zB] at hq_; omega) (by have hq_ := hq; simp only [zB] at hq_; omega)
    · exact m2 rfl (fun _ _ _ h => h) (fun cx => (cx.an 18)) fun cx hq => run_load1 rfl (by kernel_rfl) (mbv (cx.an 27) hq) ((cx.bi 1 rfl).cell 0)
    · exact m2 rfl (fun _ _ _ h => h) (fun cx => (cx.an 18)) fun cx hq => run_indexArrB (n := 4) (sz := 1) (m := 1) (q := 1) rfl (by kernel_rfl) (cx.ou 4) (cx.co _) (by have hq_ := hq; simp only [zB] at hq_; omega) (by have hq_ := hq; simp only [zB] at hq_; omega) (by have hq_ := hq; simp only [zB] at hq_; omega)
    · exact m2 rfl (fun _ _ _ h => h) (fun cx => (cx.an 18)) fun cx hq => run_load1 rfl (by kernel_rfl) (mbv (cx.an 29) hq) ((cx.bi 1 rfl).cell 1)
    · exact m3 rfl (fun _ _ _ h => h) (fun cx => (cx.an 18)) fun cx hq => ⟨_, _, run_callF (args := #[.string (a), .agg #[vi q0, vi q1]]) rfl cx.sees rfl (by kernel_rfl) (map2 (mbv (cx.an 26) hq) (mbv (cx.an 31) hq)), rentry_any a q0 q1 _ (by omega)⟩
    · exact m2 rfl (fun _ _ _ h => h) (fun cx => (cx.an 18)) fun cx hq => run_streq rfl (mbv (cx.an 25) hq) (mbv (cx.an 32) hq)
  refine then_normal (wp_seq ?_)
  obtain ⟨one, hN_one⟩ : ∃ z, ((((((entF a p0 s0).toList == (entF a p0 s0).toList) && (a.toList == a.toList)) && (p0 == p0 && s0 == s0)) && true) && ((entF a q0 q1).toList == (entF a q0 q1).toList)) = z := ⟨_, rfl⟩
  rw [hN_one]
  obtain rfl : one = true := by rw [← hN_one]; simp
  refine sqr (sqp [.m 100 12, .m 101 13] ?_)
  refine sqk (.bool (lessF (entF a p0 s0) (entF b p1 s1))) hst43 (fun cx => ⟨_, kless_any (entF a p0 s0) (entF b p1 s1) _ (by omega) (by omega), (map2 (cx.ou 100) (cx.ou 101))⟩) fun W46 hst46 => ?_
  refine sqp [.m 103 12, .m 104 13] ?_
  refine sqk (.bool (lessF (entF a p0 s0) (entF b p1 s1))) hst46 (fun cx => ⟨_, rless_any (entF a p0 s0) (entF b p1 s1) _ (by omega) (by omega), (map2 (cx.ou 103) (cx.ou 104))⟩) fun W49 hst49 => ?_
  refine sqv (.bool ((lessF (entF a p0 s0) (entF b p1 s1)) == (lessF (entF a p0 s0) (entF b p1 s1)))) hst49 (by
      exact sv0 rfl rfl rfl rfl rfl (fun _ _ _ h => h) fun ρ β W X cx => by
        have fF102 : ρ (.tmp 102) = .bool (lessF (entF a p0 s0) (entF b p1 s1)) := (cx.ou 102)
        have fF105 : ρ (.tmp 105) = .bool (lessF (entF a p0 s0) (entF b p1 s1)) := (cx.ou 105)
        simp [go_sem, fF102, fF105]) fun W50 hst50 => ?_
  refine sqp [.m 107 106] ?_
  refine sqwW 107 [108, 109, 110, 111, 112, 113, 114] ?_ hst50 rfl (fun hq => ?_) fun W59 hst59 => ?_
  rotate_left
  · have hq_ := hq
    try simp only [zB] at hq_
    refine sqp [.m 108 8, .m 109 9] ?_
    refine sqk (.bool (lessF a b)) hst50 (fun cx => ⟨_, kless_any a b _ (by omega) (by omega), (map2 (cx.ou 108) (cx.ou 109))⟩) fun W54 hst54 => ?_
    refine sqp [.m 111 8, .m 112 9] ?_
    refine sqk (.bool (lessF a b)) hst54 (fun cx => ⟨_, rless_any a b _ (by omega) (by omega), (map2 (cx.ou 111) (cx.ou 112))⟩) fun W57 hst57 => ?_
    refine sqv (.bool ((lessF a b) == (lessF a b))) hst57 (by
        exact sv0 rfl rfl rfl rfl rfl (fun _ _ _ h => h) fun ρ β W X cx => by
          have fF110 : ρ (.tmp 110) = .bool (lessF a b) := (cx.ou 110)
          have fF113 : ρ (.tmp 113) = .bool (lessF a b) := (cx.ou 113)
          simp [go_sem, fF110, fF113]) fun W58 hst58 => ?_
    exact sqE hst58
  refine sqwx ?_
  refine sqp [sPa 115 ((lessF (entF a p0 s0) (entF b p1 s1)) == (lessF (entF a p0 s0) (entF b p1 s1))) ((lessF a b) == (lessF a b)), .m 116 115] ?_
  refine sqwW 116 [117, 118, 119, 120] ?_ hst59 rfl (fun hq => ?_) fun W66 hst66 => ?_
  rotate_left
  · have hq_ := hq
    try simp only [zB] at hq_
    refine sqp [.m 117 12, .m 118 12] ?_
    refine sqk (.bool (lessF (entF a p0 s0) (entF a p0 s0))) hst59 (fun cx => ⟨_, kless_any (entF a p0 s0) (entF a p0 s0) _ (by omega) (by omega), (map2 (cx.ou 117) (cx.ou 118))⟩) fun W64 hst64 => ?_
    refine sqp [.k 120 (.bool (!(lessF (entF a p0 s0) (entF a p0 s0))))] ?_
    exact sqE hst64
  refine sqwx ?_
  refine sqp [sPa 121 (((lessF (entF a p0 s0) (entF b p1 s1)) == (lessF (entF a p0 s0) (entF b p1 s1))) && ((lessF a b) == (lessF a b))) (!(lessF (entF a p0 s0) (entF a p0 s0))), .m 122 121] ?_
  refine sqwW 122 [123, 124, 125, 126, 127, 128, 129, 130, 131, 132, 133, 134] ?_ hst66 rfl (fun hq => ?_) fun W82 hst82 => ?_
  rotate_left
  · have hq_ := hq
    try simp only [zB] at hq_
    refine sqp [.m 123 12, .m 124 13, .k 125 (.bool ((entF a p0 s0).toList == (entF b p1 s1).toList)), .m 126 125] ?_
    refine sqwW 126 [127, 128, 129, 130, 131, 132, 133] ?_ hst66 rfl (fun hq => ?_) fun W80 hst80 => ?_
    rotate_left
    · have hq_ := hq
      try simp only [zB] at hq_
      refine sqp [.m 127 12, .m 128 13] ?_
      refine sqk (.bool (lessF (entF a p0 s0) (entF b p1 s1))) hst66 (fun cx => ⟨_, kless_any (entF a p0 s0) (entF b p1 s1) _ (by omega) (by omega), (map2 (cx.ou 127) (cx.ou 128))⟩) fun W75 hst75 => ?_
      refine sqp [.m 130 13, .m 131 12] ?_
      refine sqk (.bool (lessF (entF b p1 s1) (entF a p0 s0))) hst75 (fun cx => ⟨_, kless_any (entF b p1 s1) (entF a p0 s0) _ (by omega) (by omega), (map2 (cx.ou 130) (cx.ou 131))⟩) fun W78 hst78 => ?_
      refine sqv (.bool (!((lessF (entF a p0 s0) (entF b p1 s1)) == (lessF (entF b p1 s1) (entF a p0 s0))))) hst78 (by
          exact sv0 rfl rfl rfl rfl rfl (fun _ _ _ h => h) fun ρ β W X cx => by
            have fF129 : ρ (.tmp 129) = .bool (lessF (entF a p0 s0) (entF b p1 s1)) := (cx.ou 129)
            have fF132 : ρ (.tmp 132) = .bool (lessF (entF b p1 s1) (entF a p0 s0)) := (cx.ou 132)
            simp [go_sem, fF129, fF132]) fun W79 hst79 => ?_
      exact sqE hst79
    refine sqwx ?_
    refine sqp [sPo 134 ((entF a p0 s0).toList == (entF b p1 s1).toList) (!((lessF (entF a p0 s0) (entF b p1 s1)) == (lessF (entF b p1 s1) (entF a p0 s0))))] ?_
    exact sqE hst80
  refine sqwx ?_
  refine sqp [sPa 135 ((((lessF (entF a p0 s0) (entF b p1 s1)) == (lessF (entF a p0 s0) (entF b p1 s1))) && ((lessF a b) == (lessF a b))) && (!(lessF (entF a p0 s0) (entF a p0 s0)))) (((entF a p0 s0).toList == (entF b p1 s1).toList) || (!((lessF (entF a p0 s0) (entF b p1 s1)) == (lessF (entF b p1 s1) (entF a p0 s0))))), .m 18 135] ?_
  refine then_normal (wp_seq ?_)
  obtain ⟨two, hN_two⟩ : ∃ z, (((((lessF (entF a p0 s0) (entF b p1 s1)) == (lessF (entF a p0 s0) (entF b p1 s1))) && ((lessF a b) == (lessF a b))) && (!(lessF (entF a p0 s0) (entF a p0 s0)))) && (((entF a p0 s0).toList == (entF b p1 s1).toList) || (!((lessF (entF a p0 s0) (entF b p1 s1)) == (lessF (entF b p1 s1) (entF a p0 s0)))))) = z := ⟨_, rfl⟩
  rw [hN_two]
  obtain rfl : two = true := by rw [← hN_two]; have h_ := order_two (entF a p0 s0) (entF b p1 s1) (by omega) (by omega); simp [lessF_irr] at h_ ⊢; exact h_
  refine sqr ?_
  refine sqlb 2 3 hst82 ?_
  refine sqli 51 3 1 [vi k, vi lsn, .slice A its.length c] hst82 (@fun ρ β W X cx => by have fF136 : ρ (.tmp 136) = .agg #[vi k, vi lsn, .slice A its.length c] := (cx.ou 136); simp [go_sem, fF136]) fun B137_86 W86 hst86 => ?_
  refine sqk1s (fun B138_87 => vp B138_87) (fun B138_87 r7_87 => eBk B138_87 ([(k, 0, (its.take 10).map rawS)]) r7_87) hst86 (fun cx => ⟨_, (lraw_any _ _ 1 [PgT.mk k lsn A c its] _ (At.of_ownN (cx.ri 6 rfl)) rfl (fun p hp => by rw [List.mem_singleton] at hp; subst hp; exact hA.ext cx.upd.to_ext) (by decide) (fun p hp => by rw [List.mem_singleton] at hp; subst hp; exact hl)).mono (by rintro e W1 ⟨B4, fp4, rfl, hs4⟩; exact ⟨_, _, rfl, hs4⟩), (map1 (cx.ou 137))⟩) fun B138_87 r7_87 W87 hst87 => ?_
  refine sqp [.m 19 138] ?_
  refine then_normal (wp_seq ?_)
  obtain ⟨js, hjs⟩ : ∃ z, (its.take 10).map rawS = z := ⟨_, rfl⟩
  have hjl : js.length ≤ 10 := by rw [← hjs, List.length_map, List.length_take]; omega
  have hjz : ∀ s ∈ js, s.size ≤ 1000000 := fun s hs => by rw [← hjs] at hs; obtain ⟨y, _, rfl⟩ := List.mem_map.1 hs; exact Nat.le_trans (rawS_size y) (by decide)
  have hj19 : (rawE 1 js.tail).length ≤ 19 := by have h_ := rawE_len 1 js.tail; rw [List.length_tail] at h_; omega
  have hm89 := hst87.pick [7] (by decide) rfl
  rw [hjs] at hm89
  obtain ⟨LA, lc, A2, c2, Qs, hmem, hm89b⟩ := bk_one hm89
  rcases hnd : nodF k js with _ | nd
  · refine sqr (sqp [.m 140 19, .k 141 (vp B138_87), .k 142 (vp B138_87)] ?_)
    refine sqld 0 hm89b ?_
    refine sql (.pointer (some ((ad LA).add (0 * 3)))) hm89b (fun cx => run_indexSlM (e := 51) (m := 0) (sz := 3) rfl (by kernel_rfl) (by kernel_rfl) (cx.ou 143) (cx.co _) (by omega) (by omega) (At.of_ownN (cx.ri 1 rfl)) (flatPos (sz := 3) ptC_len (by decide) (by first | omega | exact Nat.zero_lt_one))) ?_
    refine sql (.agg #[vi k, vi 0, .slice A2 js.length c2]) hm89b (fun cx => run_loadElt (f := ptC) (m := 0) (sz := 3) (off := 0) (n := 3) rfl (by kernel_rfl) (by kernel_rfl) (cx.ou 144) rfl ptC_len (At.of_ownN (cx.ri 1 rfl)) rfl (fun k hk => match k, hk with | 0, _ => rfl | 1, _ => rfl | 2, _ => rfl | k + 3, hk => absurd hk (by omega))) ?_
    refine sqk (.tuple #[.agg #[vi 0, vi 0, .string ((⟨#[]⟩ : ByteArray)), .bool false, .slice none 0 0, .slice none 0 0, .slice none 0 0], .bool false]) hm89b (fun cx => ⟨_, td_no hnd (tread_any _ _ _ _ _ _ (ePt_at (CtxV.holdF cx (cx.init 2 _ rfl) rfl) hmem) (by omega) hjz hj19), (map1 (cx.ou 145))⟩) fun W96 hst96 => ?_
    refine sqp [.m 139 146, .k 147 (.agg #[vi 0, vi 0, .string ((⟨#[]⟩ : ByteArray)), .bool false, .slice none 0 0, .slice none 0 0, .slice none 0 0]), .k 148 (.bool false)] ?_
    refine sqal #[vi 0, vi 0, .string ByteArray.empty, .bool false, .slice none 0 0, .slice none 0 0, .slice none 0 0] hst96 fun B20_100 W100 hst100 => ?_
    refine sqst (n := 7) 3 #[vi 0, vi 0, .string ((⟨#[]⟩ : ByteArray)), .bool false, .slice none 0 0, .slice none 0 0, .slice none 0 0] hst100 fun W101 hst101 => ?_
    refine sqp [.k 21 (.bool false)] ?_
    refine then_normal (wp_seq (sqr (sqp [.m 149 19, .k 150 (vp B138_87), .k 151 (vp B138_87)] ?_)))
    refine sqld 0 hst101 ?_
    refine sql (.pointer (some ((ad LA).add (0 * 3)))) hst101 (fun cx => run_indexSlM (e := 51) (m := 0) (sz := 3) rfl (by kernel_rfl) (by kernel_rfl) (cx.ou 152) (cx.co _) (by omega) (by omega) (At.of_ownN (cx.ri 1 rfl)) (flatPos (sz := 3) ptC_len (by decide) (by first | omega | exact Nat.zero_lt_one))) ?_
    refine sql (.agg #[vi k, vi 0, .slice A2 js.length c2]) hst101 (fun cx => run_loadElt (f := ptC) (m := 0) (sz := 3) (off := 0) (n := 3) rfl (by kernel_rfl) (by kernel_rfl) (cx.ou 153) rfl ptC_len (At.of_ownN (cx.ri 1 rfl)) rfl (fun k hk => match k, hk with | 0, _ => rfl | 1, _ => rfl | 2, _ => rfl | k + 3, hk => absurd hk (by omega))) ?_
    refine sqk (.agg #[.bool false, .bool false, vi 0, vi 0, .string ((⟨#[]⟩ : ByteArray)), .slice none 0 0, .slice none 0 0, .slice none 0 0]) hst101 (fun cx => ⟨_, nd_no hnd (rread_any _ _ _ _ _ _ (ePt_at (CtxV.holdF cx (cx.init 2 _ rfl) rfl) hmem) (by omega) hjz), (map1 (cx.ou 154))⟩) fun W109 hst109 => ?_
    refine sqal #[.bool false, .bool false, vi 0, vi 0, .string ByteArray.empty, .slice none 0 0, .slice none 0 0, .slice none 0 0] hst109 fun B22_110 W110 hst110 => ?_
    refine sqst (n := 8) 4 #[.bool false, .bool false, vi 0, vi 0, .string ((⟨#[]⟩ : ByteArray)), .slice none 0 0, .slice none 0 0, .slice none 0 0] hst110 fun W111 hst111 => ?_
    refine then_normal (wp_seq (wp_seq (sqr (sqp [.k 156 (.bool false), .k 157 (vp B22_110)] ?_))))
    refine sqld 4 hst111 ?_
    refine sqv (.bool (!(false == false))) hst111 (by
        exact sv0 rfl rfl rfl rfl rfl (fun _ _ _ h => h) fun ρ β W X cx => by
          have fF156 : ρ (.tmp 156) = .bool false := (cx.ou 156)
          have fF158 : ρ (.tmp 158) = .bool false := (cx.ou 158)
          simp [go_sem, fF156, fF158]) fun W115 hst115 => ?_
    refine sqp [.m 160 159] ?_
    refine sqw 160 [161, 162] rfl (fun _ => sqp [.k 161 (.bool (true)), .k 162 (.bool false)] sqe) ?_
    refine sqp [sPo 163 (!(false == false)) false, .m 164 163] ?_
    refine sqw 164 [165, 166] rfl (fun _ => sqp [.k 165 (.bool (true)), .k 166 (.bool false)] sqe) ?_
    refine sqp [sPo 167 ((!(false == false)) || false) false, .m 168 167] ?_
    refine sqw' 168 [169, 170, 171, 172, 173] ?_ rfl (fun hq => ?_) ?_
    rotate_left
    · refine sqp [.k 169 (vp B20_100)] ?_
      refine sqld 3 hst115 ?_
      refine sqp [.k 171 (.pointer (some ⟨B22_110, 2, none⟩))] ?_
      refine sqld 4 hst115 ?_
      refine sqp [.k 173 (.bool false)] ?_
      exact sqe
    refine sqwx ?_
    refine sqp [sPo 174 (((!(false == false)) || false) || false) false, .m 175 174] ?_
    refine sqw' 175 [176, 177, 178, 179, 180] ?_ rfl (fun hq => ?_) ?_
    rotate_left
    · refine sqp [.k 176 (.pointer (some ⟨B20_100, 1, none⟩))] ?_
      refine sqld 3 hst115 ?_
      refine sqp [.k 178 (.pointer (some ⟨B22_110, 3, none⟩))] ?_
      refine sqld 4 hst115 ?_
      refine sqp [.k 180 (.bool false)] ?_
      exact sqe
    refine sqwx ?_
    refine sqp [sPo 181 ((((!(false == false)) || false) || false) || false) false, .m 182 181] ?_
    refine sqw' 182 [183, 184, 185, 186, 187] ?_ rfl (fun hq => ?_) ?_
    rotate_left
    · refine sqp [.k 183 (.pointer (some ⟨B20_100, 2, none⟩))] ?_
      refine sqld 3 hst115 ?_
      refine sqp [.k 185 (.pointer (some ⟨B22_110, 4, none⟩))] ?_
      refine sqld 4 hst115 ?_
      refine sqp [.k 187 (.bool (!(((⟨#[]⟩ : ByteArray)).toList == ((⟨#[]⟩ : ByteArray)).toList)))] ?_
      exact sqe
    refine sqwx ?_
    refine sqp [sPo 188 (((((!(false == false)) || false) || false) || false) || false) (!(((⟨#[]⟩ : ByteArray)).toList == ((⟨#[]⟩ : ByteArray)).toList)), .m 189 188] ?_
    refine sqwW 189 [190, 191, 192, 193, 194] ?_ hst115 rfl (fun hq => ?_) fun W151 hst151 => ?_
    rotate_left
    · refine sqp [.k 190 (.pointer (some ⟨B20_100, 3, none⟩))] ?_
      refine sqld 3 hst115 ?_
      refine sqp [.k 192 (.pointer (some ⟨B22_110, 1, none⟩))] ?_
      refine sqld 4 hst115 ?_
      refine sqv (.bool (!(false == false))) hst115 (by
          exact sv0 rfl rfl rfl rfl rfl (fun _ _ _ h => h) fun ρ β W X cx => by
            have fF191 : ρ (.tmp 191) = .bool false := (cx.ou 191)
            have fF193 : ρ (.tmp 193) = .bool false := (cx.ou 193)
            simp [go_sem, fF191, fF193]) fun W150 hst150 => ?_
      exact sqE hst150
    refine sqwx ?_
    refine sqp [sPo 195 ((((((!(false == false)) || false) || false) || false) || false) || (!(((⟨#[]⟩ : ByteArray)).toList == ((⟨#[]⟩ : ByteArray)).toList))) (!(false == false)), .m 196 195] ?_
    refine sqw' 196 [197, 198, 199, 200, 201, 202, 203] ?_ rfl (fun hq => ?_) ?_
    rotate_left
    · refine sqp [.k 197 (.pointer (some ⟨B20_100, 4, none⟩))] ?_
      refine sqld 3 hst151 ?_
      refine sqp [.k 199 (vi 0), .k 200 (.pointer (some ⟨B22_110, 5, none⟩))] ?_
      refine sqld 4 hst151 ?_
      refine sqp [.k 202 (vi 0), .k 203 (.bool false)] ?_
      exact sqe
    refine sqwx ?_
    refine sqp [sPo 204 (((((((!(false == false)) || false) || false) || false) || false) || (!(((⟨#[]⟩ : ByteArray)).toList == ((⟨#[]⟩ : ByteArray)).toList))) || (!(false == false))) false, .m 205 204] ?_
    refine sqw' 205 [206, 207, 208, 209, 210, 211, 212] ?_ rfl (fun hq => ?_) ?_
    rotate_left
    · refine sqp [.k 206 (.pointer (some ⟨B20_100, 5, none⟩))] ?_
      refine sqld 3 hst151 ?_
      refine sqp [.k 208 (vi 0), .k 209 (.pointer (some ⟨B20_100, 4, none⟩))] ?_
      refine sqld 3 hst151 ?_
      refine sqp [.k 211 (vi 0), .k 212 (.bool false)] ?_
      exact sqe
    refine sqwx ?_
    refine sqp [sPo 213 ((((((((!(false == false)) || false) || false) || false) || false) || (!(((⟨#[]⟩ : ByteArray)).toList == ((⟨#[]⟩ : ByteArray)).toList))) || (!(false == false))) || false) false] ?_
    refine then_normal (wbs (fun hs171 => ?_) fun hs171 => ?_)
    · have hs171p := hs171
      simp only [zB] at hs171p
      refine wp_seq (sqr (sqp [.k 6 (.bool false)] ?_))
      refine then_normal (wp_ret (then_ret ?_))
      refine bpr (.bool false) (results_1 Try.results4 rpt) ?_
      exfalso; have h_ := hs171; simp at h_
    have hs171p := hs171
    simp only [zB] at hs171p
    obtain ⟨⟨⟨⟨⟨⟨⟨⟨hs171p1, hs171p2⟩, hs171p3⟩, hs171p4⟩, hs171p5⟩, hs171p6⟩, hs171p7⟩, hs171p8⟩, hs171p9⟩ := hs171p
    refine wp_skip (then_normal (wp_seq (wp_seq (sqr (sqp [.k 23 (vi 0)] ?_)))))
    refine then_normal (wp_block ?_)
    refine wp_loopT (fun t_ mz az W => ∃ i : Nat, (i : Int) ≤ 0 ∧ mz = 0 - i ∧ az = ⟨(ovr (jv az) [(6, 6, 1, []), (16, 23, 0, [vi ((i : Int))]), (190, 214, 47, [])] t_).toArray, []⟩ ∧ St w [] [eB B138_87 64 #[.slice LA 1 lc], eO 51 3 (.slice LA 1 lc) 1 ([PgT.mk k 0 A2 c2 js].flatMap ptC), ePt Qs, eB B20_100 60 #[vi 0, vi 0, .string ((⟨#[]⟩ : ByteArray)), .bool false, .slice none 0 0, .slice none 0 0, .slice none 0 0], eB B22_110 66 #[.bool false, .bool false, vi 0, vi 0, .string ((⟨#[]⟩ : ByteArray)), .slice none 0 0, .slice none 0 0, .slice none 0 0]] W) (0 - 0) ?_ ?_
    · -- the loop begins
      exact ⟨0, by omega, rfl, (by kernel_rfl), hst151.pk [0, 1, 2, 3, 4]⟩
    rintro n174 a174 W174 ⟨i, hi, rfl, hj_, hst174⟩
    refine ovz hj_ fun u174_ => ?_
    refine wp_seq (wp_seq (sqr (sqp [.m 214 23, .k 215 (.pointer (some ⟨B20_100, 4, none⟩))] ?_)))
    refine sqld 3 hst174 ?_
    have hd180 : (decide ((i : Int) < 0)) = false := (decide_eq_false (by omega))
    refine sqp [.k 217 (vi 0), .e 218 (.bool (decide ((i : Int) < 0))) (.bool false) (congrArg Value.bool hd180)] ?_
    refine then_normal (wcf rfl (wp_exit (then_exit (then_exit (blk_eq (then_normal (wp_seq (sqr (sqp [.k 261 (.bool true), .k 262 (.bool true)] ?_)))))))))
    refine sqgy 262 [263, 264, 265, 266, 267, 268, 269, 270, 271] rfl rfl ?_
    refine sqp [.k 263 (vp B20_100)] ?_
    refine sqld 3 hst174 ?_
    refine sqp [.k 265 (.bool false), .k 266 (.bool false)] ?_
    refine sqgy 266 [267, 268, 269, 270] rfl rfl ?_
    refine sqp [.k 267 (.pointer (some ⟨B20_100, 6, none⟩))] ?_
    refine sqld 3 hst174 ?_
    refine sqp [.k 269 (vi 0), .k 270 (.bool true)] ?_
    refine sqp [.k 271 (.bool true)] ?_
    refine sqp [.k 272 (.bool true), .k 6 (.bool true)] ?_
    refine then_normal (wp_ret ?_)
    refine bpr (.bool true) (results_1 Try.results4 rpt) ?_
    exact Ret.bool (by simp) hst174.ext
  · have hnf := nf_ok hnd hjz
    have hez : ∀ e ∈ nd.es, e.1.size ≤ 1000000 := hnf.sz
    have hnl := hnf.len
    refine wp_region_Y [0, 1, 3, 7, 15, 31, 63, 127, 255, 255, 0, 1535, 4095] [[], [], [], [0], [1], [1], [2], [], [], [], [], [6]] [[], [], [], [], [], [], [3, 4, 5], [], [], [], [6], [7]] [[], [], [], [], [], [], [], [], [], [], [], [6]] [.k 140 (vp B138_87), .k 141 (vp B138_87), .k 142 (vp B138_87), .c 143 (.slice LA 1 lc), .c 144 (.pointer (some ((ad LA).add (0 * 3)))), .c 145 (.agg #[vi k, vi 0, .slice A2 js.length c2]), .a 146, .a 139, .a 147, .c 148 (.bool true), .a 20, .n, .k 21 (.bool true)] (fun ix σ β X => match ix with | 0 => True | 1 => True | 2 => True | 3 => True | 4 => True | 5 => True | 6 => σ 146 = .tuple #[.agg #[vi nd.lv, vi nd.right, .string nd.high, .bool nd.dead, .slice (sA (tg (tg (β 146) 0) 4)) nd.es.length (sC (tg (tg (β 146) 0) 4)), .slice (sA (tg (tg (β 146) 0) 5)) nd.es.length (sC (tg (tg (β 146) 0) 5)), .slice (sA (tg (tg (β 146) 0) 6)) ((tqK nd.lv nd.es).length) (sC (tg (tg (β 146) 0) 6))], .bool true] ∧ X 3 = eO 9 1 (.slice (sA (tg (tg (β 146) 0) 4)) nd.es.length (sC (tg (tg (β 146) 0) 4))) nd.es.length (nd.es.map tqS) ∧ X 4 = eO 31 2 (.slice (sA (tg (tg (β 146) 0) 5)) nd.es.length (sC (tg (tg (β 146) 0) 5))) nd.es.length (nd.es.flatMap tqR) ∧ X 5 = eO 3 1 (.slice (sA (tg (tg (β 146) 0) 6)) ((tqK nd.lv nd.es).length) (sC (tg (tg (β 146) 0) 6))) ((tqK nd.lv nd.es).length) ((tqK nd.lv nd.es).map kdv) | 7 => σ 139 = .tuple #[.agg #[vi nd.lv, vi nd.right, .string nd.high, .bool nd.dead, .slice (sA (tg (tg (β 146) 0) 4)) nd.es.length (sC (tg (tg (β 146) 0) 4)), .slice (sA (tg (tg (β 146) 0) 5)) nd.es.length (sC (tg (tg (β 146) 0) 5)), .slice (sA (tg (tg (β 146) 0) 6)) ((tqK nd.lv nd.es).length) (sC (tg (tg (β 146) 0) 6))], .bool true] | 8 => σ 147 = .agg #[vi nd.lv, vi nd.right, .string nd.high, .bool nd.dead, .slice (sA (tg (tg (β 146) 0) 4)) nd.es.length (sC (tg (tg (β 146) 0) 4)), .slice (sA (tg (tg (β 146) 0) 5)) nd.es.length (sC (tg (tg (β 146) 0) 5)), .slice (sA (tg (tg (β 146) 0) 6)) ((tqK nd.lv nd.es).length) (sC (tg (tg (β 146) 0) 6))] | 9 => True | 10 => σ 20 = vp (pb (β 20)) ∧ X 6 = eB (pb (β 20)) 60 #[vi 0, vi 0, .string ByteArray.empty, .bool false, .slice none 0 0, .slice none 0 0, .slice none 0 0] | 11 => X 7 = eB (pb (β 20)) 60 #[vi nd.lv, vi nd.right, .string nd.high, .bool nd.dead, .slice (sA (tg (tg (β 146) 0) 4)) nd.es.length (sC (tg (tg (β 146) 0) 4)), .slice (sA (tg (tg (β 146) 0) 5)) nd.es.length (sC (tg (tg (β 146) 0) 5)), .slice (sA (tg (tg (β 146) 0) 6)) ((tqK nd.lv nd.es).length) (sC (tg (tg (β 146) 0) 6))] | _ => True) [0, 1, 2, 3, 4, 5, 7] [3, 4, 5, 6, 7, 8, 9, 10, 11] [(20, 10, 3, 22), (117, 7, 1, 118), (0, 0, 7, 7), (0, 8, 2, 2)] hm89b ?_ ?_ ?_
    · exact fun ix _ _ _ _ _ _ hs hb hx h => match ix, h with
      | 6, h => by dsimp only; rw [← hs 146 rfl, ← hb 146 rfl, ← hx 3 rfl, ← hx 4 rfl, ← hx 5 rfl]; exact h
      | 7, h => by dsimp only; rw [← hs 139 rfl, ← hb 146 rfl]; exact h
      | 8, h => by dsimp only; rw [← hs 147 rfl, ← hb 146 rfl]; exact h
      | 10, h => by dsimp only; rw [← hs 20 rfl, ← hb 20 rfl, ← hx 6 rfl]; exact h
      | 11, h => by dsimp only; rw [← hb 20 rfl, ← hb 146 rfl, ← hx 7 rfl]; exact h
      | 0, _ | 1, _ | 2, _ | 3, _ | 4, _ | 5, _ | 9, _ | _ + 12, _ => trivial
    · refine ⟨?_, ?_, ?_, ?_, ?_, ?_, ?_, ?_, ?_, trivial⟩
      · exact xs4 rfl id fun cx => run_load1 rfl (by kernel_rfl) (cx.an 2) ((cx.bi 0 rfl).cell 0)
      · exact xs4 rfl id fun cx => run_indexSlM (e := 51) (m := 0) (sz := 3) rfl (by kernel_rfl) (by kernel_rfl) (cx.an 3) (cx.co _) (by omega) (by omega) (At.of_ownN (cx.ri 1 rfl)) (flatPos (sz := 3) ptC_len (by decide) (by first | omega | exact Nat.zero_lt_one))
      · exact xs4 rfl id fun cx => run_loadElt (f := ptC) (m := 0) (sz := 3) (off := 0) (n := 3) rfl (by kernel_rfl) (by kernel_rfl) (cx.an 4) rfl ptC_len (At.of_ownN (cx.ri 1 rfl)) rfl (fun k hk => match k, hk with | 0, _ => rfl | 1, _ => rfl | 2, _ => rfl | k + 3, hk => absurd hk (by omega))
      · refine svA fun ρ β W X cx => ?_
        refine DoesU.call (run_callF (args := #[.agg #[vi k, vi 0, .slice A2 js.length c2]]) rfl cx.sees rfl (by kernel_rfl) (map1 (cx.an 5))) ?_
        refine (td_yes hnd (tread_any _ _ _ _ _ _ (ePt_at (CtxV.holdF cx (cx.init 2 _ rfl) rfl) hmem) (by omega) hjz hj19)).mono ?_
        rintro e W1 ⟨KA4, kc4, RA4, rc4, CA4, cc4, rfl, hs4⟩
        refine ⟨_, rfl, post_st [eO 9 1 (.slice KA4 nd.es.length kc4) nd.es.length (nd.es.map tqS), eO 31 2 (.slice RA4 nd.es.length rc4) nd.es.length (nd.es.flatMap tqR), eO 3 1 (.slice CA4 (tqK nd.lv nd.es).length cc4) (tqK nd.lv nd.es).length ((tqK nd.lv nd.es).map kdv)] rfl rfl hs4 (fun σ β' X' hs hb hv hN => ?_)⟩
        have hv1 := (hv 146 rfl).1; have hv2 := (hv 146 rfl).2
        exact ⟨hv1.trans (by rw [hv2]; rfl), (by rw [hv2]; exact (List.cons.inj hN).1), (by rw [hv2]; exact (List.cons.inj (List.cons.inj hN).2).1), (by rw [hv2]; exact (List.cons.inj (List.cons.inj (List.cons.inj hN).2).2).1)⟩
      · exact sv rfl rfl rfl rfl rfl _ (fun _ _ _ h => h) (fun β β' h => by rw [h 146 (by decide)]) fun ρ β W X cx => run_move' rfl (dTn (cx.an 6)).1
      · exact sv rfl rfl rfl rfl rfl _ (fun _ _ _ h => h) (fun β β' h => by rw [h 146 (by decide)]) fun ρ β W X cx => run_extract' rfl (dTn (cx.an 7)) rfl
      · exact xs4 rfl id fun cx => run_extract' rfl (dTn (cx.an 7)) rfl
      · refine svA fun ρ β W X cx => ?_
        exact dv_alloc (cs := #[vi 0, vi 0, .string ByteArray.empty, .bool false, .slice none 0 0, .slice none 0 0, .slice none 0 0]) rfl (by kernel_rfl) rfl rfl (fun σ β' X' hs hb hv hx => ⟨hv, hx⟩)
      · refine svA fun ρ β W X cx => ?_
        exact dv_store (n := 7) rfl (dTn (cx.an 10)).1 (dTn (cx.an 8)) (by kernel_rfl) (by kernel_rfl) (by kernel_rfl) cx (dTn (cx.an 10)).2 rfl (nle rfl) (by kernel_rfl) rfl rfl rfl (fun σ β' X' hs hb hx => by rw [hb 20, hb 146]; exact hx)
    intro σ β X W194 hD hst194 fr hfr
    obtain ⟨KA146_194, hu_KA146_194⟩ : ∃ z, sA (tg (tg (β 146) 0) 4) = z := ⟨_, rfl⟩
    obtain ⟨cKA146_194, hu_cKA146_194⟩ : ∃ z, sC (tg (tg (β 146) 0) 4) = z := ⟨_, rfl⟩
    obtain ⟨RA146_194, hu_RA146_194⟩ : ∃ z, sA (tg (tg (β 146) 0) 5) = z := ⟨_, rfl⟩
    obtain ⟨cRA146_194, hu_cRA146_194⟩ : ∃ z, sC (tg (tg (β 146) 0) 5) = z := ⟨_, rfl⟩
    obtain ⟨CA146_194, hu_CA146_194⟩ : ∃ z, sA (tg (tg (β 146) 0) 6) = z := ⟨_, rfl⟩
    obtain ⟨cCA146_194, hu_cCA146_194⟩ : ∃ z, sC (tg (tg (β 146) 0) 6) = z := ⟨_, rfl⟩
    obtain ⟨B20_194, hu_B20_194⟩ : ∃ z, pb (β 20) = z := ⟨_, rfl⟩
    simp only [exq 3 ((dTn (hD 6 lq)).2.1), exq 4 ((dTn (hD 6 lq)).2.2.1), exq 5 ((dTn (hD 6 lq)).2.2.2), exq 7 ((dTn (hD 11 lq))), hu_KA146_194, hu_cKA146_194, hu_RA146_194, hu_cRA146_194, hu_CA146_194, hu_cCA146_194, hu_B20_194] at hst194
    simp only [ed 146 ((dTn (hD 6 lq)).1), ed 139 ((dTn (hD 7 lq))), ed 147 ((dTn (hD 8 lq))), ed 20 ((dTn (hD 10 lq)).1), hu_KA146_194, hu_cKA146_194, hu_RA146_194, hu_cRA146_194, hu_CA146_194, hu_cCA146_194, hu_B20_194] at hfr
    clear hD hu_KA146_194 hu_cKA146_194 hu_RA146_194 hu_cRA146_194 hu_CA146_194 hu_cCA146_194 hu_B20_194; subst hfr; clear σ β X
    refine then_normal (wp_seq (wp_region_Y [0, 1, 3, 7, 15, 31, 63, 0, 255] [[], [], [], [0], [1], [1], [2], [], [10]] [[], [], [], [], [], [], [7, 8, 9], [10], [11]] [[], [], [], [], [], [], [], [], [10]] [.k 149 (vp B138_87), .k 150 (vp B138_87), .k 151 (vp B138_87), .c 152 (.slice LA 1 lc), .c 153 (.pointer (some ((ad LA).add (0 * 3)))), .c 154 (.agg #[vi k, vi 0, .slice A2 js.length c2]), .a 155, .a 22, .n] (fun ix σ β X => match ix with | 0 => True | 1 => True | 2 => True | 3 => True | 4 => True | 5 => True | 6 => σ 155 = .agg #[.bool true, .bool nd.dead, vi nd.lv, vi nd.right, .string nd.high, .slice (sA (tg (β 155) 5)) nd.es.length (sC (tg (β 155) 5)), .slice (sA (tg (β 155) 6)) nd.es.length (sC (tg (β 155) 6)), .slice (sA (tg (β 155) 7)) nd.es.length (sC (tg (β 155) 7))] ∧ X 7 = eO 9 1 (.slice (sA (tg (β 155) 5)) nd.es.length (sC (tg (β 155) 5))) nd.es.length (nd.es.map stv) ∧ X 8 = eO 3 1 (.slice (sA (tg (β 155) 6)) nd.es.length (sC (tg (β 155) 6))) nd.es.length (nd.es.map slv) ∧ X 9 = eO 3 1 (.slice (sA (tg (β 155) 7)) nd.es.length (sC (tg (β 155) 7))) nd.es.length (nd.es.map kdv) | 7 => σ 22 = vp (pb (β 22)) ∧ X 10 = eB (pb (β 22)) 66 #[.bool false, .bool false, vi 0, vi 0, .string ByteArray.empty, .slice none 0 0, .slice none 0 0, .slice none 0 0] | 8 => X 11 = eB (pb (β 22)) 66 #[.bool true, .bool nd.dead, vi nd.lv, vi nd.right, .string nd.high, .slice (sA (tg (β 155) 5)) nd.es.length (sC (tg (β 155) 5)), .slice (sA (tg (β 155) 6)) nd.es.length (sC (tg (β 155) 6)), .slice (sA (tg (β 155) 7)) nd.es.length (sC (tg (β 155) 7))] | _ => True) [0, 1, 2, 3, 4, 5, 6, 7, 8, 9, 11] [3, 4, 5, 6, 7, 8] [(22, 7, 1, 23), (126, 0, 7, 133)] hst194 ?_ ?_ ?_))
    · exact fun ix _ _ _ _ _ _ hs hb hx h => match ix, h with
      | 6, h => by dsimp only; rw [← hs 155 rfl, ← hb 155 rfl, ← hx 7 rfl, ← hx 8 rfl, ← hx 9 rfl]; exact h
      | 7, h => by dsimp only; rw [← hs 22 rfl, ← hb 22 rfl, ← hx 10 rfl]; exact h
      | 8, h => by dsimp only; rw [← hb 22 rfl, ← hb 155 rfl, ← hx 11 rfl]; exact h
      | 0, _ | 1, _ | 2, _ | 3, _ | 4, _ | 5, _ | _ + 9, _ => trivial
    · refine ⟨?_, ?_, ?_, ?_, ?_, ?_, trivial⟩
      · exact xs4 rfl id fun cx => run_load1 rfl (by kernel_rfl) (cx.an 2) ((cx.bi 0 rfl).cell 0)
      · exact xs4 rfl id fun cx => run_indexSlM (e := 51) (m := 0) (sz := 3) rfl (by kernel_rfl) (by kernel_rfl) (cx.an 3) (cx.co _) (by omega) (by omega) (At.of_ownN (cx.ri 1 rfl)) (flatPos (sz := 3) ptC_len (by decide) (by first | omega | exact Nat.zero_lt_one))
      · exact xs4 rfl id fun cx => run_loadElt (f := ptC) (m := 0) (sz := 3) (off := 0) (n := 3) rfl (by kernel_rfl) (by kernel_rfl) (cx.an 4) rfl ptC_len (At.of_ownN (cx.ri 1 rfl)) rfl (fun k hk => match k, hk with | 0, _ => rfl | 1, _ => rfl | 2, _ => rfl | k + 3, hk => absurd hk (by omega))
      · refine svA fun ρ β W X cx => ?_
        refine DoesU.call (run_callF (args := #[.agg #[vi k, vi 0, .slice A2 js.length c2]]) rfl cx.sees rfl (by kernel_rfl) (map1 (cx.an 5))) ?_
        refine (nd_yes hnd (rread_any _ _ _ _ _ _ (ePt_at (CtxV.holdF cx (cx.init 2 _ rfl) rfl) hmem) (by omega) hjz)).mono ?_
        rintro e W1 ⟨EA4, ec4, SA4, sc4, KA4, kc4, rfl, hs4⟩
        refine ⟨_, rfl, post_st [eO 9 1 (.slice EA4 nd.es.length ec4) nd.es.length (nd.es.map stv), eO 3 1 (.slice SA4 nd.es.length sc4) nd.es.length (nd.es.map slv), eO 3 1 (.slice KA4 nd.es.length kc4) nd.es.length (nd.es.map kdv)] rfl rfl hs4 (fun σ β' X' hs hb hv hN => ?_)⟩
        have hv1 := (hv 155 rfl).1; have hv2 := (hv 155 rfl).2
        exact ⟨hv1.trans (by rw [hv2]; rfl), (by rw [hv2]; exact (List.cons.inj hN).1), (by rw [hv2]; exact (List.cons.inj (List.cons.inj hN).2).1), (by rw [hv2]; exact (List.cons.inj (List.cons.inj (List.cons.inj hN).2).2).1)⟩
      · refine svA fun ρ β W X cx => ?_
        exact dv_alloc (cs := #[.bool false, .bool false, vi 0, vi 0, .string ByteArray.empty, .slice none 0 0, .slice none 0 0, .slice none 0 0]) rfl (by kernel_rfl) rfl rfl (fun σ β' X' hs hb hv hx => ⟨hv, hx⟩)
      · refine svA fun ρ β W X cx => ?_
        exact dv_store (n := 8) rfl (dTn (cx.an 7)).1 (dTn (cx.an 6)).1 (by kernel_rfl) (by kernel_rfl) (by kernel_rfl) cx (dTn (cx.an 7)).2 rfl (nle rfl) (by kernel_rfl) rfl rfl rfl (fun σ β' X' hs hb hx => by rw [hb 22, hb 155]; exact hx)
    intro σ β X W195 hD hst195 fr hfr
    obtain ⟨EA155_195, hu_EA155_195⟩ : ∃ z, sA (tg (β 155) 5) = z := ⟨_, rfl⟩
    obtain ⟨cEA155_195, hu_cEA155_195⟩ : ∃ z, sC (tg (β 155) 5) = z := ⟨_, rfl⟩
    obtain ⟨SA155_195, hu_SA155_195⟩ : ∃ z, sA (tg (β 155) 6) = z := ⟨_, rfl⟩
    obtain ⟨cSA155_195, hu_cSA155_195⟩ : ∃ z, sC (tg (β 155) 6) = z := ⟨_, rfl⟩
    obtain ⟨KA155_195, hu_KA155_195⟩ : ∃ z, sA (tg (β 155) 7) = z := ⟨_, rfl⟩
    obtain ⟨cKA155_195, hu_cKA155_195⟩ : ∃ z, sC (tg (β 155) 7) = z := ⟨_, rfl⟩
    obtain ⟨B22_195, hu_B22_195⟩ : ∃ z, pb (β 22) = z := ⟨_, rfl⟩
    simp only [exq 7 ((dTn (hD 6 lq)).2.1), exq 8 ((dTn (hD 6 lq)).2.2.1), exq 9 ((dTn (hD 6 lq)).2.2.2), exq 11 ((dTn (hD 8 lq))), hu_EA155_195, hu_cEA155_195, hu_SA155_195, hu_cSA155_195, hu_KA155_195, hu_cKA155_195, hu_B22_195] at hst195
    simp only [ed 155 ((dTn (hD 6 lq)).1), ed 22 ((dTn (hD 7 lq)).1), hu_EA155_195, hu_cEA155_195, hu_SA155_195, hu_cSA155_195, hu_KA155_195, hu_cKA155_195, hu_B22_195] at hfr
    clear hD hu_EA155_195 hu_cEA155_195 hu_SA155_195 hu_cSA155_195 hu_KA155_195 hu_cKA155_195 hu_B22_195; subst hfr; clear σ β X
    refine then_normal (wp_seq (wp_seq (sqr (sqp [.k 156 (.bool true), .k 157 (vp B22_195)] ?_))))
    refine sqld 10 hst195 ?_
    refine sqv (.bool (!(true == true))) hst195 (by
        exact sv0 rfl rfl rfl rfl rfl (fun _ _ _ h => h) fun ρ β W X cx => by
          have fF156 : ρ (.tmp 156) = .bool true := (cx.ou 156)
          have fF158 : ρ (.tmp 158) = .bool true := (cx.ou 158)
          simp [go_sem, fF156, fF158]) fun W199 hst199 => ?_
    refine sqp [.m 160 159] ?_
    refine sqw 160 [161, 162] rfl (fun _ => sqp [.k 161 (.bool (true)), .k 162 (.bool false)] sqe) ?_
    refine sqp [sPo 163 (!(true == true)) false, .m 164 163] ?_
    refine sqw 164 [165, 166] rfl (fun _ => sqp [.k 165 (.bool (true)), .k 166 (.bool false)] sqe) ?_
    refine sqp [sPo 167 ((!(true == true)) || false) false, .m 168 167] ?_
    refine sqw' 168 [169, 170, 171, 172, 173] ?_ rfl (fun hq => ?_) ?_
    rotate_left
    · refine sqp [.k 169 (vp B20_194)] ?_
      refine sqld 6 hst199 ?_
      refine sqp [.k 171 (.pointer (some ⟨B22_195, 2, none⟩))] ?_
      refine sqld 10 hst199 ?_
      refine sqp [.k 173 (.bool (nd.lv != nd.lv))] ?_
      exact sqe
    refine sqwx ?_
    refine sqp [sPo 174 (((!(true == true)) || false) || false) (nd.lv != nd.lv), .m 175 174] ?_
    refine sqw' 175 [176, 177, 178, 179, 180] ?_ rfl (fun hq => ?_) ?_
    rotate_left
    · refine sqp [.k 176 (.pointer (some ⟨B20_194, 1, none⟩))] ?_
      refine sqld 6 hst199 ?_
      refine sqp [.k 178 (.pointer (some ⟨B22_195, 3, none⟩))] ?_
      refine sqld 10 hst199 ?_
      refine sqp [.k 180 (.bool (nd.right != nd.right))] ?_
      exact sqe
    refine sqwx ?_
    refine sqp [sPo 181 ((((!(true == true)) || false) || false) || (nd.lv != nd.lv)) (nd.right != nd.right), .m 182 181] ?_
    refine sqw' 182 [183, 184, 185, 186, 187] ?_ rfl (fun hq => ?_) ?_
    rotate_left
    · refine sqp [.k 183 (.pointer (some ⟨B20_194, 2, none⟩))] ?_
      refine sqld 6 hst199 ?_
      refine sqp [.k 185 (.pointer (some ⟨B22_195, 4, none⟩))] ?_
      refine sqld 10 hst199 ?_
      refine sqp [.k 187 (.bool (!(nd.high.toList == nd.high.toList)))] ?_
      exact sqe
    refine sqwx ?_
    refine sqp [sPo 188 (((((!(true == true)) || false) || false) || (nd.lv != nd.lv)) || (nd.right != nd.right)) (!(nd.high.toList == nd.high.toList)), .m 189 188] ?_
    refine sqwW 189 [190, 191, 192, 193, 194] ?_ hst199 rfl (fun hq => ?_) fun W235 hst235 => ?_
    rotate_left
    · refine sqp [.k 190 (.pointer (some ⟨B20_194, 3, none⟩))] ?_
      refine sqld 6 hst199 ?_
      refine sqp [.k 192 (.pointer (some ⟨B22_195, 1, none⟩))] ?_
      refine sqld 10 hst199 ?_
      refine sqv (.bool (!(nd.dead == nd.dead))) hst199 (by
          exact sv0 rfl rfl rfl rfl rfl (fun _ _ _ h => h) fun ρ β W X cx => by
            have fF191 : ρ (.tmp 191) = .bool nd.dead := (cx.ou 191)
            have fF193 : ρ (.tmp 193) = .bool nd.dead := (cx.ou 193)
            simp [go_sem, fF191, fF193]) fun W234 hst234 => ?_
      exact sqE hst234
    refine sqwx ?_
    refine sqp [sPo 195 ((((((!(true == true)) || false) || false) || (nd.lv != nd.lv)) || (nd.right != nd.right)) || (!(nd.high.toList == nd.high.toList))) (!(nd.dead == nd.dead)), .m 196 195] ?_
    refine sqw' 196 [197, 198, 199, 200, 201, 202, 203] ?_ rfl (fun hq => ?_) ?_
    rotate_left
    · refine sqp [.k 197 (.pointer (some ⟨B20_194, 4, none⟩))] ?_
      refine sqld 6 hst235 ?_
      refine sqp [.k 199 (vi ((nd.es.length : Int))), .k 200 (.pointer (some ⟨B22_195, 5, none⟩))] ?_
      refine sqld 10 hst235 ?_
      refine sqp [.k 202 (vi ((nd.es.length : Int))), .k 203 (.bool ((nd.es.length : Int) != (nd.es.length : Int)))] ?_
      exact sqe
    refine sqwx ?_
    refine sqp [sPo 204 (((((((!(true == true)) || false) || false) || (nd.lv != nd.lv)) || (nd.right != nd.right)) || (!(nd.high.toList == nd.high.toList))) || (!(nd.dead == nd.dead))) ((nd.es.length : Int) != (nd.es.length : Int)), .m 205 204] ?_
    refine sqw' 205 [206, 207, 208, 209, 210, 211, 212] ?_ rfl (fun hq => ?_) ?_
    rotate_left
    · refine sqp [.k 206 (.pointer (some ⟨B20_194, 5, none⟩))] ?_
      refine sqld 6 hst235 ?_
      refine sqp [.k 208 (vi ((nd.es.length : Int))), .k 209 (.pointer (some ⟨B20_194, 4, none⟩))] ?_
      refine sqld 6 hst235 ?_
      refine sqp [.k 211 (vi ((nd.es.length : Int))), .k 212 (.bool ((nd.es.length : Int) != (nd.es.length : Int)))] ?_
      exact sqe
    refine sqwx ?_
    refine sqp [sPo 213 ((((((((!(true == true)) || false) || false) || (nd.lv != nd.lv)) || (nd.right != nd.right)) || (!(nd.high.toList == nd.high.toList))) || (!(nd.dead == nd.dead))) || ((nd.es.length : Int) != (nd.es.length : Int))) ((nd.es.length : Int) != (nd.es.length : Int))] ?_
    refine then_normal (wbs (fun hs255 => ?_) fun hs255 => ?_)
    · have hs255p := hs255
      simp only [zB] at hs255p
      refine wp_seq (sqr (sqp [.k 6 (.bool false)] ?_))
      refine then_normal (wp_ret (then_ret ?_))
      refine bpr (.bool false) (results_1 Try.results4 rpt) ?_
      exfalso; have h_ := hs255; simp at h_
    have hs255p := hs255
    simp only [zB] at hs255p
    obtain ⟨⟨⟨⟨⟨⟨⟨⟨hs255p1, hs255p2⟩, hs255p3⟩, hs255p4⟩, hs255p5⟩, hs255p6⟩, hs255p7⟩, hs255p8⟩, hs255p9⟩ := hs255p
    refine wp_skip (then_normal (wp_seq (wp_seq (sqr (sqp [.k 23 (vi 0)] ?_)))))
    refine then_normal (wp_block ?_)
    refine wp_loopT (fun t_ mz az W => ∃ i : Nat, (i : Int) ≤ nd.es.length ∧ mz = nd.es.length - i ∧ az = ⟨(ovr (jv az) [(6, 6, 1, []), (16, 23, 0, [vi ((i : Int))]), (190, 214, 47, [])] t_).toArray, []⟩ ∧ St w [] [eB B138_87 64 #[.slice LA 1 lc], eO 51 3 (.slice LA 1 lc) 1 ([PgT.mk k 0 A2 c2 js].flatMap ptC), ePt Qs, eO 9 1 (.slice KA146_194 nd.es.length cKA146_194) nd.es.length (nd.es.map tqS), eO 31 2 (.slice RA146_194 nd.es.length cRA146_194) nd.es.length (nd.es.flatMap tqR), eO 3 1 (.slice CA146_194 ((tqK nd.lv nd.es).length) cCA146_194) ((tqK nd.lv nd.es).length) ((tqK nd.lv nd.es).map kdv), eB B20_194 60 #[vi nd.lv, vi nd.right, .string nd.high, .bool nd.dead, .slice KA146_194 nd.es.length cKA146_194, .slice RA146_194 nd.es.length cRA146_194, .slice CA146_194 ((tqK nd.lv nd.es).length) cCA146_194], eO 9 1 (.slice EA155_195 nd.es.length cEA155_195) nd.es.length (nd.es.map stv), eO 3 1 (.slice SA155_195 nd.es.length cSA155_195) nd.es.length (nd.es.map slv), eO 3 1 (.slice KA155_195 nd.es.length cKA155_195) nd.es.length (nd.es.map kdv), eB B22_195 66 #[.bool true, .bool nd.dead, vi nd.lv, vi nd.right, .string nd.high, .slice EA155_195 nd.es.length cEA155_195, .slice SA155_195 nd.es.length cSA155_195, .slice KA155_195 nd.es.length cKA155_195]] W) (nd.es.length - 0) ?_ ?_
    · -- the loop begins
      exact ⟨0, by omega, rfl, (by kernel_rfl), hst235.pk [0, 1, 2, 3, 4, 5, 6, 7, 8, 9, 10]⟩
    rintro n258 a258 W258 ⟨i, hi, rfl, hj_, hst258⟩
    refine ovz hj_ fun u258_ => ?_
    refine wp_seq (wp_seq (sqr (sqp [.m 214 23, .k 215 (.pointer (some ⟨B20_194, 4, none⟩))] ?_)))
    refine sqld 6 hst258 ?_
    refine sqp [.k 217 (vi ((nd.es.length : Int))), .k 218 (.bool (decide ((i : Int) < (nd.es.length : Int))))] ?_
    refine then_normal (wds (fun hs264 hs264p => ?_) fun hs264 hs264p => ?_)
    · refine wp_skip (then_normal (wp_seq (wp_block (wp_seq (wp_seq (wp_region_Z [0, 1, 0, 7, 15, 0, 32, 0, 224, 480, 1023, 0, 2048, 0, 14336, 30720, 65535] [[], [6], [], [3], [3], [], [6], [], [4], [4], [], [], [10], [], [7], [7]] [.k 221 (.pointer (some ⟨B20_194, 4, none⟩)), .c 222 (.slice KA146_194 nd.es.length cKA146_194), .k 223 (vi ((i : Int))), .c 224 (.pointer (some ((ad KA146_194).add i))), .c 225 (.string ((qkF (nd.es.getD i en0).1))), .k 226 (.pointer (some ⟨B20_194, 5, none⟩)), .c 227 (.slice RA146_194 nd.es.length cRA146_194), .k 228 (vi ((i : Int))), .c 229 (.pointer (some ((ad RA146_194).add (i * 2)))), .c 230 (.agg #[vi (opF (nd.es.getD i en0).1), vi (osF (nd.es.getD i en0).1)]), .c 231 (.string (entF (qkF (nd.es.getD i en0).1) (opF (nd.es.getD i en0).1) (osF (nd.es.getD i en0).1))), .k 232 (.pointer (some ⟨B22_195, 5, none⟩)), .c 233 (.slice EA155_195 nd.es.length cEA155_195), .k 234 (vi ((i : Int))), .c 235 (.pointer (some ((ad EA155_195).add i))), .c 236 (.string ((nd.es.getD i en0).1)), .k 237 (.bool (!((entF (qkF (nd.es.getD i en0).1) (opF (nd.es.getD i en0).1) (osF (nd.es.getD i en0).1)).toList == ((nd.es.getD i en0).1).toList)))] [0, 1, 2, 3, 4, 5, 6, 7, 8, 9, 10] [1, 3, 4, 6, 8, 9, 10, 12, 14, 15] [(221, 0, 17, 238)] hst258 ?_ fun W265 hst265 => ?_))))))
      · refine ⟨?_, ?_, ?_, ?_, ?_, ?_, ?_, ?_, ?_, ?_, trivial⟩
        · exact xs4 rfl id fun cx => run_load1 rfl (by kernel_rfl) (cx.an 0) ((cx.bi 6 rfl).cell 4)
        · exact xs4 rfl id fun cx => run_indexSl (e := 9) (m := i) rfl (by kernel_rfl) (by kernel_rfl) (cx.an 1) (cx.an 2) (by omega) (by omega) (At.of_own (cx.ri 3 rfl)) (by simp)
        · exact xs4 rfl id fun cx => run_load1 rfl (by kernel_rfl) (cx.an 3) (At.cellAd (At.of_own (cx.ri 3 rfl)) (tqS_get (by omega)))
        · exact xs4 rfl id fun cx => run_load1 rfl (by kernel_rfl) (cx.an 5) ((cx.bi 6 rfl).cell 5)
        · exact xs4 rfl id fun cx => run_indexSlM (e := 31) (m := i) (sz := 2) rfl (by kernel_rfl) (by kernel_rfl) (cx.an 6) (cx.an 7) (by omega) (by omega) (At.of_ownN (cx.ri 4 rfl)) (flatPos (sz := 2) tqR_len (by decide) (by first | omega | exact Nat.zero_lt_one))
        · exact xs4 rfl id fun cx => run_loadElt (f := tqR) (m := i) (sz := 2) (off := 0) (n := 2) rfl (by kernel_rfl) (by kernel_rfl) (cx.an 8) rfl tqR_len (At.of_ownN (cx.ri 4 rfl)) (tqR_get (by omega)) (fun k hk => match k, hk with | 0, _ => rfl | 1, _ => rfl | k + 2, hk => absurd hk (by omega))
        · exact xsc rfl id rfl rfl fun cx => ⟨_, kentry_any (qkF (nd.es.getD i en0).1) (opF (nd.es.getD i en0).1) (osF (nd.es.getD i en0).1) _ (Nat.le_trans (qkF_le _) (getD_size hez _)), (map2 (cx.an 4) (cx.an 9))⟩
        · exact xs4 rfl id fun cx => run_load1 rfl (by kernel_rfl) (cx.an 11) ((cx.bi 10 rfl).cell 5)
        · exact xs4 rfl id fun cx => run_indexSl (e := 9) (m := i) rfl (by kernel_rfl) (by kernel_rfl) (cx.an 12) (cx.an 13) (by omega) (by omega) (At.of_own (cx.ri 7 rfl)) (by simp)
        · exact xs4 rfl id fun cx => run_load1 rfl (by kernel_rfl) (cx.an 14) (At.cellAd (At.of_own (cx.ri 7 rfl)) (st_get (by omega)))
      refine then_normal ?_
      rcases Bool.eq_false_or_eq_true ((entF (qkF (nd.es.getD i en0).1) (opF (nd.es.getD i en0).1) (osF (nd.es.getD i en0).1)).toList == ((nd.es.getD i en0).1).toList) with hs266 | hs266
      · refine wp_cond_false (show Act.eval _ _ = .bool false from (congrArg Value.bool (by rw [hs266]; rfl))) (wp_skip (then_normal (wp_seq (wp_region_Z [0, 1, 3, 7, 15, 15, 47, 111, 255, 511, 1023, 2047, 1023, 8191, 16383, 1023, 33791, 1023, 230399, 492543, 1048575, 2097151, 4194303] [[], [6], [], [], [], [], [6], [], [], [], [], [6], [], [5], [5], [], [10], [], [9], [9]] [.k 238 (vp B20_194), .c 239 (vi nd.lv), .k 240 (.bool (decide (0 < nd.lv))), .k 241 (.bool (decide (0 < nd.lv))), .z 242 (decide (0 < nd.lv)) (vi ((i : Int))), .z 243 (decide (0 < nd.lv)) (.pointer (some ⟨B20_194, 6, none⟩)), .y 244 (decide (0 < nd.lv)) (.slice CA146_194 ((tqK nd.lv nd.es).length) cCA146_194), .z 245 (decide (0 < nd.lv)) (vi (((tqK nd.lv nd.es).length : Int))), .z 246 (decide (0 < nd.lv)) (.bool (decide (((tqK nd.lv nd.es).length : Int) ≤ (i : Int)))), .z 247 (decide (0 < nd.lv)) (.bool (decide (((tqK nd.lv nd.es).length : Int) ≤ (i : Int)))), .z 248 ((decide (0 < nd.lv)) && (!(decide (((tqK nd.lv nd.es).length : Int) ≤ (i : Int))))) (.pointer (some ⟨B20_194, 6, none⟩)), .y 249 ((decide (0 < nd.lv)) && (!(decide (((tqK nd.lv nd.es).length : Int) ≤ (i : Int))))) (.slice CA146_194 ((tqK nd.lv nd.es).length) cCA146_194), .z 250 ((decide (0 < nd.lv)) && (!(decide (((tqK nd.lv nd.es).length : Int) ≤ (i : Int))))) (vi ((i : Int))), .y 251 ((decide (0 < nd.lv)) && (!(decide (((tqK nd.lv nd.es).length : Int) ≤ (i : Int))))) (.pointer (some ((ad CA146_194).add i))), .y 252 ((decide (0 < nd.lv)) && (!(decide (((tqK nd.lv nd.es).length : Int) ≤ (i : Int))))) (vi (((tqK nd.lv nd.es).getD i en0).2.2)), .z 253 ((decide (0 < nd.lv)) && (!(decide (((tqK nd.lv nd.es).length : Int) ≤ (i : Int))))) (.pointer (some ⟨B22_195, 7, none⟩)), .y 254 ((decide (0 < nd.lv)) && (!(decide (((tqK nd.lv nd.es).length : Int) ≤ (i : Int))))) (.slice KA155_195 nd.es.length cKA155_195), .z 255 ((decide (0 < nd.lv)) && (!(decide (((tqK nd.lv nd.es).length : Int) ≤ (i : Int))))) (vi ((i : Int))), .y 256 ((decide (0 < nd.lv)) && (!(decide (((tqK nd.lv nd.es).length : Int) ≤ (i : Int))))) (.pointer (some ((ad KA155_195).add i))), .y 257 ((decide (0 < nd.lv)) && (!(decide (((tqK nd.lv nd.es).length : Int) ≤ (i : Int))))) (vi ((nd.es.getD i en0).2.2)), .z 258 ((decide (0 < nd.lv)) && (!(decide (((tqK nd.lv nd.es).length : Int) ≤ (i : Int))))) (.bool ((((tqK nd.lv nd.es).getD i en0).2.2) != ((nd.es.getD i en0).2.2))), .y 259 (decide (0 < nd.lv)) (.bool ((decide (((tqK nd.lv nd.es).length : Int) ≤ (i : Int))) || ((((tqK nd.lv nd.es).getD i en0).2.2) != ((nd.es.getD i en0).2.2)))), tA 260 (decide (0 < nd.lv)) ((decide (((tqK nd.lv nd.es).length : Int) ≤ (i : Int))) || ((((tqK nd.lv nd.es).getD i en0).2.2) != ((nd.es.getD i en0).2.2)))] [0, 1, 2, 3, 4, 5, 6, 7, 8, 9, 10] [1, 6, 11, 13, 14, 16, 18, 19, 21] [(238, 0, 23, 261)] hst265 ?_ fun W267 hst267 => ?_))))
        · refine ⟨?_, ?_, ?_, ?_, ?_, ?_, ?_, ?_, ?_, trivial⟩
          · exact xs4 rfl id fun cx => run_load1 rfl (by kernel_rfl) (cx.an 0) ((cx.bi 6 rfl).cell 0)
          · exact m2 rfl (fun _ _ _ h => h) (fun cx => (cx.an 3)) fun cx hq => run_load1 rfl (by kernel_rfl) (mbv (cx.an 5) hq) ((cx.bi 6 rfl).cell 6)
          · exact m0 rfl (fun _ _ _ h => h) (fun cx => (cx.an 9)) fun cx hq => run_load1 rfl (by kernel_rfl) (mbv (cx.an 10) hq) ((cx.bi 6 rfl).cell 6)
          · exact m0 rfl (fun _ _ _ h => h) (fun cx => (cx.an 9)) fun cx hq => run_indexSl (e := 3) (m := i) rfl (by kernel_rfl) (by kernel_rfl) (mbv (cx.an 11) hq) (mbv (cx.an 12) hq) (by have hq_ := hq; simp only [zB] at hq_; omega) (by have hq_ := hq; simp only [zB] at hq_; omega) (At.of_own (cx.ri 5 rfl)) (by simp)
          · exact m0 rfl (fun _ _ _ h => h) (fun cx => (cx.an 9)) fun cx hq => run_load1 rfl (by kernel_rfl) (mbv (cx.an 13) hq) (At.cellAd (At.of_own (cx.ri 5 rfl)) (kd_get (by have hq_ := hq; simp only [zB] at hq_; omega)))
          · exact m0 rfl (fun _ _ _ h => h) (fun cx => (cx.an 9)) fun cx hq => run_load1 rfl (by kernel_rfl) (mbv (cx.an 15) hq) ((cx.bi 10 rfl).cell 7)
          · exact m0 rfl (fun _ _ _ h => h) (fun cx => (cx.an 9)) fun cx hq => run_indexSl (e := 3) (m := i) rfl (by kernel_rfl) (by kernel_rfl) (mbv (cx.an 16) hq) (mbv (cx.an 17) hq) (by have hq_ := hq; simp only [zB] at hq_; omega) (by have hq_ := hq; simp only [zB] at hq_; omega) (At.of_own (cx.ri 9 rfl)) (by simp)
          · exact m0 rfl (fun _ _ _ h => h) (fun cx => (cx.an 9)) fun cx hq => run_load1 rfl (by kernel_rfl) (mbv (cx.an 18) hq) (At.cellAd (At.of_own (cx.ri 9 rfl)) (kd_get (by have hq_ := hq; simp only [zB] at hq_; omega)))
          · exact m2 rfl (fun _ _ _ h => h) (fun cx => (cx.an 3)) fun cx hq => run_pick_or rfl (mbv (cx.an 9) hq) (cx.co _) (cx.an 20) (fun e_ => by rw [hq, e_]; rfl)
        refine then_normal (wbs (fun hs268 => ?_) fun hs268 => ?_)
        · have hs268p := hs268
          simp only [zB] at hs268p
          obtain ⟨hs268p1, hs268p2⟩ := hs268p
          refine wp_seq (sqr (sqp [.k 6 (.bool false)] ?_))
          refine then_normal (wp_ret (blk_ret (then_ret (then_ret (blk_ret (then_ret ?_))))))
          refine bpr (.bool false) (results_1 Try.results4 rpt) ?_
          have hp_ := entF_parts (hnf.lo _ (getD_mem' (l := nd.es) (n := i) (d := en0) (by omega)).2)
          exfalso
          have h_ := hs268
          rcases Int.lt_or_le 0 nd.lv with h0_ | h0_
          · rw [tqK_yes h0_] at h_; simp at h_; omega
          · simp [show ¬ (0 < nd.lv) by omega] at h_
        have hs268p := hs268
        simp only [zB] at hs268p
        refine wp_skip (blk_normal (then_normal (sqr (sqp [.m 219 23, sI 220 ((i : Int) + 1) (by omega), .m 23 220] ?_))))
        refine then_normal ?_
        refine ⟨nd.es.length - ((i + 1)), by omega, ?_⟩
        exact ⟨(i + 1), by omega, rfl, (by kernel_rfl), hst267.pk [0, 1, 2, 3, 4, 5, 6, 7, 8, 9, 10]⟩
      refine wp_cond_true (show Act.eval _ _ = .bool true from (congrArg Value.bool (by rw [hs266]; rfl))) (wp_seq (sqr (sqp [.k 6 (.bool false)] ?_)))
      refine then_normal (wp_ret (then_ret (blk_ret (then_ret (then_ret (blk_ret (then_ret ?_)))))))
      refine bpr (.bool false) (results_1 Try.results4 rpt) ?_
      have hp_ := entF_parts (hnf.lo _ (getD_mem' (l := nd.es) (n := i) (d := en0) (by omega)).2)
      exfalso; have h_ := hs266; rw [hp_] at h_; simp at h_
    refine wp_exit (then_exit (then_exit (blk_eq (then_normal (wp_seq (sqr (sqp [.k 261 (.bool true), .k 262 (.bool true)] ?_)))))))
    refine sqgy 262 [263, 264, 265, 266, 267, 268, 269, 270, 271] rfl rfl ?_
    refine sqp [.k 263 (vp B20_194)] ?_
    refine sqld 6 hst258 ?_
    refine sqp [.k 265 (.bool (decide (0 < nd.lv))), .m 266 265] ?_
    refine sqw' 266 [267, 268, 269, 270] ?_ rfl (fun hq => ?_) ?_
    rotate_left
    · refine sqp [.k 267 (.pointer (some ⟨B20_194, 6, none⟩))] ?_
      refine sqld 6 hst258 ?_
      refine sqp [.k 269 (vi (((tqK nd.lv nd.es).length : Int))), .k 270 (.bool (((tqK nd.lv nd.es).length : Int) == 0))] ?_
      exact sqe
    refine sqwx ?_
    refine sqp [sPo 271 (decide (0 < nd.lv)) (((tqK nd.lv nd.es).length : Int) == 0)] ?_
    refine sqp [.k 272 (.bool ((decide (0 < nd.lv)) || (((tqK nd.lv nd.es).length : Int) == 0))), .m 6 272] ?_
    refine then_normal (wp_ret ?_)
    refine bpr (.bool ((decide (0 < nd.lv)) || (((tqK nd.lv nd.es).length : Int) == 0))) (results_1 Try.results4 rpt) ?_
    have hfin_ : ((decide (0 < nd.lv)) || (((tqK nd.lv nd.es).length : Int) == 0)) = true := by
      rcases Int.lt_or_le 0 nd.lv with h0_ | h0_
      · simp [h0_]
      · rw [tqK_off (show ¬ (0 < nd.lv) by omega)]; simp
    exact Ret.bool hfin_ hst258.ext
end
end Go.Proofs.Ytjlcoglmjldjbaa
namespace Go.Proofs.Ytjlcoglmjldjbaa
section
open Go.ChangeShapes Go.WideShapes Go.ChangeAt Go.RowKit Go.Deep Go.Joins
set_option linter.unusedVariables false
set_option linter.unusedSimpArgs false
theorem ownKnob_none : ownKnob Try.prog.godebug = none := by kernel_rfl
theorem laidOut : laidOutB Try.prog = true := by kernel_rfl
section
variable {H : Type} {enc : TypeId × Value → H} {P : Program}
theorem trodAll_stays (hl : laidOutB P = true) {W W' : World} {sp : Nat → Bool} : ∀ {ts : List TypeId} {vs : List Value} {ds : List (DataW H)} {ps : List MemPlace}, (∀ t ∈ ts, P.readableRec t = true ∧ t < P.types.size) →
    DataW.TrodAll enc P W 0 (fun _ => true) true ts vs ds ps → (∀ p ∈ ps, W.sameAt W' p) → (∀ p ∈ ps, sp p.block = true) → DataW.TrodAll enc P W' 0 sp true ts vs ds ps
  | [], [], [], _, _, h, _, _ => h
  | t :: _, _ :: _, _ :: _, _, hT, ⟨p, q, h1, h2, e⟩, hsm, hs =>
    ⟨p, q, WideElems.Trod_stays hl (hT t (by simp)).1 (hT t (by simp)).2 h1 (fun x hx => hsm x (by rw [e]; exact List.mem_append_left _ hx)) (fun x hx => hs x (by rw [e]; exact List.mem_append_left _ hx)),
      trodAll_stays hl (fun t ht => hT t (by simp [ht])) h2 (fun x hx => hsm x (by rw [e]; exact List.mem_append_right _ hx)) (fun x hx => hs x (by rw [e]; exact List.mem_append_right _ hx)), e⟩
/-- THE POST OF A LAW: true, and the input reads as it did, where the call wrote nothing that was there. -/
theorem law_post {f : Func} {s : ChangeSpec} {fresh handsOn again : Bool} {W W' : World} {args : Array Value} {ds gs : List (DataW H)} {before : List MemPlace} {tb : TypeId}
    (hl : laidOutB P = true) (hT : ∀ t ∈ f.params.toList, P.readableRec t = true ∧ t < P.types.size) (hr : f.resultTypes = #[tb]) (hb : P.underlying tb = some .bool)
    (hW : DataW.Whole enc P f.params.toList s.vars false W args.toList ds gs before) (hvs : s.vars = [])
    (hres : (s.fn H (ds ++ gs)).results = [.lit (.bool true)]) (hargs : (s.fn H (ds ++ gs)).args = ds) (hvars : (s.fn H (ds ++ gs)).vars = []) (hx : Ext W W') :
    s.post enc P f false fresh handsOn again W args (.bool true) W' := by
  have hlt : ∀ p ∈ before, p.block < W.heap.size := fun p hp => hW.lt p hp
  have hold : ∀ p ∈ before, (fun b => decide (b < W.heap.size)) p.block = true := fun p hp => by simpa using hlt p hp
  have hW0 := hW
  obtain ⟨p, q, hA, hV, rfl, hz, hn⟩ := hW
  rw [hvs] at hV
  obtain ⟨rfl, rfl⟩ := trodVars_none hV
  rw [List.append_nil] at hlt hold hz
  have HA : ∀ sp : Nat → Bool, (∀ x ∈ p, sp x.block = true) → DataW.TrodAll enc P W' 0 sp true f.params.toList args.toList (s.fn H (ds ++ [])).args p := fun sp hs => by
    rw [hargs]
    exact trodAll_stays hl hT hA (fun x hx' => hx.out.same (hlt x hx')) hs
  have HR : ∀ (b : Nat) (sp : Nat → Bool) (hd : Bool), DataW.TrodAll enc P W' b sp hd f.resultTypes.toList ((Value.bool true).resultList f.resultTypes.size) (s.fn H (ds ++ [])).results [] := fun b sp hd => by
    rw [hres, hr]
    exact trodAll_cons_mk (shut_bool hb _) trodAll_mk0
  have HV : ∀ sp : Nat → Bool, DataW.TrodVars enc P W' sp s.vars (s.fn H (ds ++ [])).vars [] := fun sp => by
    rw [hvs, hvars]
    rfl
  refine ⟨ds, [], p ++ [], [], p, [], hW0, HR _ _ _, HA _ hold, HV _, World.keptBut_mono (fun x hx' => ⟨hx', ?_⟩) (hx.out.frame (· ∈ p ++ [])), fun _ => ?_⟩
  · rw [List.append_nil] at hx'
    exact Or.inr (Or.inl hx')
  · refine ⟨?_, _, _, ([] ++ p) ++ [], ⟨[] ++ p, [], trodAll_append (HA _ (fun _ _ => rfl)) (HR _ _ _), HV _, rfl, ?_, fun ha => by cases ha⟩, ?_⟩
    · exact ok_one hr rfl (okWide_bool_mk hb _)
    · intro b off hp
      have hin : MemPlace.cell b off ∈ p := by simpa using hp
      rw [hx.out.frozen (hlt _ hin)]
      exact hz b off hin
    · intro x hx' _
      simpa using hx'
end
end
end Go.Proofs.Ytjlcoglmjldjbaa
namespace Go.Proofs.Ytjlcoglmjldjbaa
section
open Go.ChangeShapes Go.WideShapes Go.ChangeAt Go.RowKit Go.Deep Go.Joins
set_option linter.unusedVariables false
set_option linter.unusedSimpArgs false
/-- the shape of a type; 'sl e by': a slice, an element takes 'by' bytes; 'st': a struct or an array -/
inductive Sh where
  | int (k : IntKind)
  | bool
  | str
  | sl (e : Sh) (bs : Nat)
  | st (fs : List Sh)
mutual
def Sh.n : Sh → Nat
  | .st fs => Sh.ns fs
  | .int _ => 1
  | .bool => 1
  | .str => 1
  | .sl _ _ => 1
def Sh.ns : List Sh → Nat
  | [] => 0
  | f :: fs => f.n + Sh.ns fs
end
mutual
def Shows (w : World) : Sh → List Value → Prop
  | .int k, cs => ∃ z, cs = [.int k z] ∧ (Lit.int k z).wf = true
  | .bool, cs => ∃ b, cs = [.bool b]
  | .str, cs => ∃ s : ByteArray, cs = [.string s] ∧ s.size ≤ 140737488351232
  | .sl e bs, cs => ∃ (A : Option Addr) (n c : Nat) (xs : List Value), cs = [.slice A n c] ∧ At w A xs ∧ xs.length = n * e.n ∧ n ≤ c ∧ c * bs ≤ 140737488351232 ∧ ∀ i, i < n → Shows w e ((xs.drop (i * e.n)).take e.n)
  | .st fs, cs => ShowsL w fs cs
def ShowsL (w : World) : List Sh → List Value → Prop
  | [], cs => cs = []
  | f :: fs, cs => ∃ a b, cs = a ++ b ∧ Shows w f a ∧ ShowsL w fs b
end
mutual
def Sh.fits (P : Program) : Sh → TypeId → Bool
  | .int k, t => match P.underlying t with | some (.int k') => decide (k' = k) | _ => false
  | .bool, t => match P.underlying t with | some .bool => true | _ => false
  | .str, t => match P.underlying t with | some .string => true | _ => false
  | .sl e bs, t => match P.underlying t with | some (.slice u) => e.fits P u && decide (P.cellsOf u = e.n) && decide (P.bytesOf u = bs) && decide (0 < e.n) | _ => false
  | .st fs, t => match P.underlying t with
    | some (.struct gs) => decide (P.cellsOf t = Sh.ns fs) && Sh.fitsF P fs gs.toList 0
    | some (.array n u) => decide (P.cellsOf t = Sh.ns fs) && decide (fs.length = n) && Sh.fitsA P fs u
    | _ => false
def Sh.fitsF (P : Program) : List Sh → List Field → Nat → Bool
  | [], [], _ => true
  | f :: fs, g :: gs, off => decide (g.offset = off) && decide (P.cellsOf g.type = f.n) && f.fits P g.type && Sh.fitsF P fs gs (off + f.n)
  | _, _, _ => false
def Sh.fitsA (P : Program) : List Sh → TypeId → Bool
  | [], _ => true
  | f :: fs, u => decide (P.cellsOf u = f.n) && f.fits P u && Sh.fitsA P fs u
end
theorem mapM_at {α β : Type} {f : α → Option β} : ∀ {l : List α} {ys : List β}, l.mapM f = some ys → ys.length = l.length ∧ ∀ (i : Nat) (a : α), l[i]? = some a → f a = ys[i]?
  | [], ys, h => by simp at h; subst h; simp
  | a :: l, ys, h => by
    simp only [List.mapM_cons, Option.bind_eq_bind, Option.pure_def, Option.bind_eq_some_iff] at h
    obtain ⟨b, hb, bs, hbs, he⟩ := h
    obtain rfl : b :: bs = ys := by simpa using he
    obtain ⟨h1, h2⟩ := mapM_at hbs
    refine ⟨by simp [h1], fun i x hx => ?_⟩
    cases i with
    | zero => simp at hx; subst hx; simpa using hb
    | succ i => simpa using h2 i x (by simpa using hx)
section
variable {H : Type} {enc : TypeId × Value → H} {P : Program}
theorem weightsAll_at {e : TypeId} : ∀ {ds : List (DataW H)} (i : Nat) (d : DataW H), ds[i]? = some d → ∀ x ∈ d.weights P e, x ∈ DataW.weightsAll P e ds
  | [], i, d, h, x, hx => by simp at h
  | d0 :: ds, 0, d, h, x, hx => by
    simp at h; subst h
    simp only [DataW.weightsAll, List.mem_append]; exact .inl hx
  | d0 :: ds, i + 1, d, h, x, hx => by
    simp only [DataW.weightsAll, List.mem_append]
    exact .inr (weightsAll_at i d (by simpa using h) x hx)
/-- the cells of a slice's elements -/
theorem cells_row {w : World} {a : Addr} {m len : Nat} (hm : 0 < m) (h : ∀ i, i < len → ∃ csi, w.cells? 0 (a.add (i * m)) m = some csi) :
    ∃ xs : List Value, xs.length = len * m ∧ At w (some a) xs ∧ ∀ i, i < len → ∀ csi, w.cells? 0 (a.add (i * m)) m = some csi → (xs.drop (i * m)).take m = csi := by
  have key : ∀ i, i < len → ∀ csi, w.cells? 0 (a.add (i * m)) m = some csi → csi.length = m ∧ ∀ r, r < m → w.cell? (a.add (i * m + r)) = csi[r]? := by
    intro i hi csi hc
    unfold World.cells? at hc
    rw [if_pos (Nat.zero_le _)] at hc
    obtain ⟨h1, h2⟩ := mapM_at hc
    refine ⟨by simpa using h1, fun r hr => ?_⟩
    have := h2 r r (by simp [hr])
    rw [add_add'] at this
    exact this
  have each : ∀ j, j < len * m → ∃ u, w.cell? (a.add j) = some u := by
    intro j hj
    have hi : j / m < len := by rw [Nat.div_lt_iff_lt_mul hm]; exact hj
    obtain ⟨csi, hc⟩ := h _ hi
    obtain ⟨h1, h2⟩ := key _ hi _ hc
    have hr := Nat.mod_lt j hm
    have := h2 _ hr
    rw [show j / m * m + j % m = j by rw [Nat.mul_comm]; exact Nat.div_add_mod j m] at this
    rw [List.getElem?_eq_getElem (by omega)] at this
    exact ⟨_, this⟩
  refine ⟨(List.range (len * m)).map fun j => (w.cell? (a.add j)).getD undef, by simp, fun j u hu => ?_, fun i hi csi hc => ?_⟩
  · rw [List.getElem?_map] at hu
    rcases Nat.lt_or_ge j (len * m) with hj | hj
    · obtain ⟨v, hv⟩ := each j hj
      rw [List.getElem?_range hj] at hu
      simp only [Option.map_some, hv, Option.getD_some, Option.some.injEq] at hu
      subst hu
      have := World.block_lt_of_cell? _ _ hv
      rw [add_block] at this
      exact ⟨a, rfl, this, hv⟩
    · rw [List.getElem?_eq_none (by simpa using hj)] at hu; cases hu
  · obtain ⟨h1, h2⟩ := key i hi csi hc
    have hb : i * m + m ≤ len * m := by
      have : (i + 1) * m ≤ len * m := Nat.mul_le_mul_right m hi
      rw [Nat.add_mul, Nat.one_mul] at this
      exact this
    apply List.ext_getElem?
    intro r
    rw [List.getElem?_take]
    by_cases hr : r < m
    · rw [if_pos hr, List.getElem?_drop, List.getElem?_map, List.getElem?_range (by omega), Option.map_some, h2 r hr, List.getElem?_eq_getElem (by omega)]
      rfl
    · rw [if_neg hr, List.getElem?_eq_none (by omega)]
mutual
theorem sees_of {w : World} : ∀ (s : Sh) (t : TypeId) (fuel : Nat) (cs : List Value) (x : DataW H × List MemPlace), s.fits P t = true → DataW.trod enc P w 0 (fun _ => true) true fuel t cs = some x →
    (∀ n ∈ x.1.weights P t, n ≤ reachBytes) → Shows w s cs
  | .int k, t, fuel, cs, x, hf, h, hw => by
    simp only [Sh.fits] at hf
    split at hf
    · rename_i k' hu
      obtain rfl := of_decide_eq_true hf
      obtain ⟨z, hc, _, hz⟩ := DataW.trod_int hu h
      exact ⟨z, hc, hz⟩
    · cases hf
  | .bool, t, fuel, cs, x, hf, h, hw => by
    simp only [Sh.fits] at hf
    split at hf
    · rename_i hu
      obtain ⟨b, hc, _⟩ := DataW.trod_bool hu h
      exact ⟨b, hc⟩
    · cases hf
  | .str, t, fuel, cs, x, hf, h, hw => by
    simp only [Sh.fits] at hf
    split at hf
    · rename_i hu
      obtain ⟨s, hc, rfl, _⟩ := DataW.trod_string hu h
      refine ⟨s, hc, ?_⟩
      have := hw s.data.toList.length (by simp [DataW.weights])
      exact this
    · cases hf
  | .sl e bs, t, fuel, cs, x, hf, h, hw => by
    simp only [Sh.fits] at hf
    split at hf
    · rename_i u hu
      simp only [Bool.and_eq_true, decide_eq_true_eq] at hf
      obtain ⟨⟨⟨he, hm⟩, hb⟩, hp⟩ := hf
      rcases DataW.trod_slice hu h with ⟨rfl, rfl⟩ | ⟨a, len, cap, elems, rest, n, _, rfl, rfl, _, hl, _, hlen, hel, hsp, _⟩
      · exact ⟨none, 0, 0, [], rfl, At.nil _ _, by simp, by simp, by simp, fun i hi => by omega⟩
      · obtain ⟨hrl, _⟩ := hsp rfl
        rw [hm] at hel
        have hsz := hw ((elems.length + rest.length) * P.bytesOf u) (by simp [DataW.weights, hu])
        rw [hlen, hrl, hb] at hsz
        have hR : reachBytes = 140737488351232 := rfl
        rw [hR] at hsz
        have hex : ∀ i, i < len → ∃ csi y, w.cells? 0 (a.add (i * e.n)) e.n = some csi ∧ elems[i]? = some y ∧ DataW.trod enc P w 0 (fun _ => true) true n u csi = some y := by
          intro i hi
          have h1 := hel i hi
          rw [List.getElem?_eq_getElem (by omega), Option.bind_eq_some_iff] at h1
          obtain ⟨csi, hc, hy⟩ := h1
          exact ⟨csi, _, hc, List.getElem?_eq_getElem (by omega), hy⟩
        obtain ⟨xs, hxl, hxa, hxe⟩ := cells_row (w := w) (a := a) (len := len) hp (fun i hi => let ⟨csi, _, hc, _⟩ := hex i hi; ⟨csi, hc⟩)
        refine ⟨some a, len, cap, xs, rfl, hxa, hxl, hl, ?_, fun i hi => ?_⟩
        · rw [show len + (cap - len) = cap by omega] at hsz
          exact hsz
        · obtain ⟨csi, y, hc, hy, ht⟩ := hex i hi
          rw [hxe i hi csi hc]
          refine sees_of e u n csi y he ht fun z hz => hw z ?_
          simp only [DataW.weights, hu, List.mem_cons, List.mem_append]
          refine .inr (.inl ?_)
          exact weightsAll_at i y.1 (by rw [List.getElem?_map, hy]; rfl) z hz
    · cases hf
  | .st fs, t, fuel, cs, x, hf, h, hw => by
    simp only [Sh.fits] at hf
    split at hf
    · rename_i gs hu
      simp only [Bool.and_eq_true, decide_eq_true_eq] at hf
      obtain ⟨hc, hF⟩ := hf
      obtain ⟨xs, n, _, rfl, hcl, hxl, hat⟩ := DataW.trod_struct hu h
      have := seesF_of fs gs.toList 0 cs xs n hF (fun i g hg => hat i g (by rw [← hg]; exact (Array.getElem?_toList ..).symm)) (by simpa using hxl) (by omega) (fun z hz => hw z (by simp only [DataW.weights, hu]; exact hz))
      rw [List.drop_zero, List.take_of_length_le (by omega)] at this
      exact this
    · rename_i n u hu
      simp only [Bool.and_eq_true, decide_eq_true_eq] at hf
      obtain ⟨⟨hc, hn⟩, hF⟩ := hf
      obtain ⟨xs, m, _, rfl, hcl, hxl, hat⟩ := DataW.trod_array hu h
      have := seesA_of fs u 0 cs xs m hF (fun i hi => by rw [Nat.zero_add]; exact hat i (by omega)) (by omega) (by rw [Nat.zero_mul, Nat.zero_add]; omega) (fun z hz => hw z (by simp only [DataW.weights, hu]; exact hz))
      rw [Nat.zero_mul, List.drop_zero, List.take_of_length_le (by omega)] at this
      exact this
    · cases hf
theorem seesF_of {w : World} : ∀ (fs : List Sh) (gs : List Field) (off : Nat) (cs : List Value) (xs : List (DataW H × List MemPlace)) (m : Nat), Sh.fitsF P fs gs off = true →
    (∀ (i : Nat) (g : Field), gs[i]? = some g → DataW.trod enc P w 0 (fun _ => true) true m g.type ((cs.drop g.offset).take (P.cellsOf g.type)) = xs[i]?) → xs.length = gs.length → off + Sh.ns fs ≤ cs.length →
    (∀ n ∈ DataW.weightsEach P (gs.map (·.type)) (xs.map (·.1)), n ≤ reachBytes) → ShowsL w fs ((cs.drop off).take (Sh.ns fs))
  | [], [], off, cs, xs, m, hf, h, hx, hl, hw => by simp [ShowsL, Sh.ns]
  | f :: fs, g :: gs, off, cs, xs, m, hf, h, hx, hl, hw => by
    simp only [Sh.fitsF, Bool.and_eq_true, decide_eq_true_eq] at hf
    obtain ⟨⟨⟨ho, hc⟩, hff⟩, hF⟩ := hf
    simp only [Sh.ns] at hl
    match xs, hx with
    | y :: ys, hx =>
      have h0 := h 0 g rfl
      simp only [List.getElem?_cons_zero] at h0
      rw [ho, hc] at h0
      refine ⟨(cs.drop off).take f.n, (cs.drop (off + f.n)).take (Sh.ns fs), ?_, sees_of f g.type m _ y hff h0 (fun z hz => hw z ?_), seesF_of fs gs (off + f.n) cs ys m hF (fun i g' hg => ?_) (by simpa using hx) (by omega) (fun z hz => hw z ?_)⟩
      · rw [Sh.ns, ← List.drop_drop, List.take_add]
      · simp only [List.map_cons, DataW.weightsEach, List.mem_append]; exact .inl hz
      · simpa using h (i + 1) g' (by simpa using hg)
      · simp only [List.map_cons, DataW.weightsEach, List.mem_append]; exact .inr hz
  | [], _ :: _, off, cs, xs, m, hf, h, hx, hl, hw => by simp [Sh.fitsF] at hf
  | _ :: _, [], off, cs, xs, m, hf, h, hx, hl, hw => by simp [Sh.fitsF] at hf
theorem seesA_of {w : World} : ∀ (fs : List Sh) (u : TypeId) (k : Nat) (cs : List Value) (xs : List (DataW H × List MemPlace)) (m : Nat), Sh.fitsA P fs u = true →
    (∀ i, i < fs.length → DataW.trod enc P w 0 (fun _ => true) true m u ((cs.drop ((k + i) * P.cellsOf u)).take (P.cellsOf u)) = xs[i]?) → xs.length = fs.length → k * P.cellsOf u + Sh.ns fs ≤ cs.length →
    (∀ n ∈ DataW.weightsAll P u (xs.map (·.1)), n ≤ reachBytes) → ShowsL w fs ((cs.drop (k * P.cellsOf u)).take (Sh.ns fs))
  | [], u, k, cs, xs, m, hf, h, hx, hl, hw => by simp [ShowsL, Sh.ns]
  | f :: fs, u, k, cs, xs, m, hf, h, hx, hl, hw => by
    simp only [Sh.fitsA, Bool.and_eq_true, decide_eq_true_eq] at hf
    obtain ⟨⟨hc, hff⟩, hF⟩ := hf
    simp only [Sh.ns] at hl
    match xs, hx with
    | y :: ys, hx =>
      have h0 := h 0 (by simp)
      simp only [List.getElem?_cons_zero, Nat.add_zero] at h0
      have hk : (k + 1) * P.cellsOf u = k * P.cellsOf u + f.n := by rw [Nat.add_mul, Nat.one_mul, hc]
      refine ⟨(cs.drop (k * P.cellsOf u)).take f.n, (cs.drop ((k + 1) * P.cellsOf u)).take (Sh.ns fs), ?_, sees_of f u m _ y hff (by rw [← hc]; exact h0) (fun z hz => hw z ?_), seesA_of fs u (k + 1) cs ys m hF (fun i hi => ?_) (by simpa using hx) (by rw [hk]; omega) (fun z hz => hw z ?_)⟩
      · rw [Sh.ns, hk, ← List.drop_drop, List.take_add]
      · simp only [List.map_cons, DataW.weightsAll, List.mem_append]; exact .inl hz
      · rw [show k + 1 + i = k + (i + 1) by omega]
        simpa using h (i + 1) (by simp; omega)
      · simp only [List.map_cons, DataW.weightsAll, List.mem_append]; exact .inr hz
end
end
/-- an argument opened -/
theorem sees_arg {H : Type} {enc : TypeId × Value → H} {P : Program} {w : World} {ts : List TypeId} {ds : List (DataW H)} (hsz : (DataW.weightsEach P ts ds).all (· ≤ reachBytes) = true) (j : Nat) {t : TypeId} {v : Value} {d : DataW H} {p : List MemPlace} (s : Sh)
    (hf : s.fits P t = true) (ht : ts[j]? = some t) (hd : ds[j]? = some d) (h : DataW.Trod enc P w 0 (fun _ => true) true t v d p) : Shows w s v.cells.toList := by
  obtain ⟨fuel, h⟩ := h
  exact sees_of s t fuel _ (d, p) hf h fun n hn => of_decide_eq_true (List.all_eq_true.1 hsz n (DataW.weights_mem_each ht hd n hn))
/-- the elements of a slice as a list -/
theorem chunks {T : Type} (f : T → List Value) (p : T → Prop) (m : Nat) : ∀ (n : Nat) (xs : List Value), xs.length = n * m → (∀ i, i < n → ∃ t, (xs.drop (i * m)).take m = f t ∧ p t) →
    ∃ ts : List T, ts.length = n ∧ xs = ts.flatMap f ∧ ∀ t ∈ ts, p t
  | 0, xs, hl, h => ⟨[], rfl, by simpa using hl, by simp⟩
  | n + 1, xs, hl, h => by
    obtain ⟨t, ht, hp⟩ := h 0 (by omega)
    rw [Nat.zero_mul, List.drop_zero] at ht
    have hle : (n + 1) * m = m + n * m := by rw [Nat.add_mul, Nat.one_mul, Nat.add_comm]
    obtain ⟨ts, h1, h2, h3⟩ := chunks f p m n (xs.drop m) (by rw [List.length_drop]; omega) (fun i hi => by
      obtain ⟨t', ht', hp'⟩ := h (i + 1) (by omega)
      refine ⟨t', ?_, hp'⟩
      rw [List.drop_drop, show m + i * m = (i + 1) * m by rw [Nat.add_mul, Nat.one_mul, Nat.add_comm]]
      exact ht')
    refine ⟨t :: ts, by simp [h1], ?_, by simpa using ⟨hp, h3⟩⟩
    rw [List.flatMap_cons, ← h2, ← ht, List.take_append_drop]
theorem flatMap_one {T : Type} (f : T → Value) : ∀ ts : List T, (ts.flatMap fun t => [f t]) = ts.map f
  | [] => rfl
  | t :: ts => by simp [flatMap_one f ts]
/-- a slice of ints -/
theorem sees_ints {w : World} {k : IntKind} {bs : Nat} {cs : List Value} (h : Shows w (.sl (.int k) bs) cs) :
    ∃ (A : Option Addr) (c : Nat) (zs : List Int), cs = [.slice A zs.length c] ∧ At w A (zs.map (Value.int k)) ∧ zs.length ≤ c ∧ c * bs ≤ 140737488351232 ∧ ∀ z ∈ zs, (Lit.int k z).wf = true := by
  simp only [Shows, Sh.n, Nat.mul_one] at h
  obtain ⟨A, n, c, xs, rfl, hA, hl, hc, hb, he⟩ := h
  obtain ⟨zs, h1, h2, h3⟩ := chunks (fun z => [Value.int k z]) (fun z => (Lit.int k z).wf = true) 1 n xs (by omega) (fun i hi => by rw [Nat.mul_one]; exact he i hi)
  rw [flatMap_one] at h2
  subst h1 h2
  exact ⟨A, c, zs, rfl, hA, hc, hb, h3⟩
/-- a slice of strings -/
theorem sees_strs {w : World} {bs : Nat} {cs : List Value} (h : Shows w (.sl .str bs) cs) :
    ∃ (A : Option Addr) (c : Nat) (ss : List ByteArray), cs = [.slice A ss.length c] ∧ At w A (ss.map Value.string) ∧ ss.length ≤ c ∧ c * bs ≤ 140737488351232 ∧ ∀ s ∈ ss, s.size ≤ 140737488351232 := by
  simp only [Shows, Sh.n, Nat.mul_one] at h
  obtain ⟨A, n, c, xs, rfl, hA, hl, hc, hb, he⟩ := h
  obtain ⟨zs, h1, h2, h3⟩ := chunks (fun z => [Value.string z]) (fun z => z.size ≤ 140737488351232) 1 n xs (by omega) (fun i hi => by rw [Nat.mul_one]; exact he i hi)
  rw [flatMap_one] at h2
  subst h1 h2
  exact ⟨A, c, zs, rfl, hA, hc, hb, h3⟩
/-- what an argument is -/
def ShowsV (w : World) (s : Sh) (v : Value) : Prop := match s with
  | .st fs => ∃ cs : List Value, v = .agg ⟨cs⟩ ∧ ShowsL w fs cs
  | s => Shows w s [v]
theorem sees_val {P : Program} {W w : World} {r : Reach} {b0 : Nat} {t : TypeId} {v : Value} (s : Sh) (hf : s.fits P t = true) (hv : Value.okWide P W r b0 t v) (h : Shows w s v.cells.toList) : ShowsV w s v := by
  cases s with
  | int k =>
    simp only [Sh.fits] at hf
    split at hf
    · rename_i k' hu
      obtain ⟨n, rfl⟩ := okWide_int hu hv
      exact h
    · cases hf
  | bool =>
    simp only [Sh.fits] at hf
    split at hf
    · rename_i hu
      obtain ⟨n, rfl⟩ := okWide_bool hu hv
      exact h
    · cases hf
  | str =>
    simp only [Sh.fits] at hf
    split at hf
    · rename_i hu
      obtain ⟨n, rfl⟩ := okWide_string hu hv
      exact h
    · cases hf
  | sl e bs =>
    simp only [Sh.fits] at hf
    split at hf
    · rename_i u hu
      obtain ⟨a, l, c, rfl⟩ := okWide_slice hu hv
      exact h
    · cases hf
  | st fs =>
    simp only [Sh.fits] at hf
    split at hf
    · rename_i gs hu
      obtain ⟨cs, rfl, _⟩ := okWide_struct hu hv
      exact ⟨cs.toList, rfl, h⟩
    · rename_i n u hu
      simp only [Value.okWide, hu] at hv
      obtain ⟨cs, rfl, _⟩ := hv
      exact ⟨cs.toList, rfl, h⟩
    · cases hf
end
end Go.Proofs.Ytjlcoglmjldjbaa
namespace Go.Proofs.Ytjlcoglmjldjbaa.treeBytes
section
open Go.ChangeShapes Go.WideShapes Go.ChangeAt Go.RowKit Go.Deep Go.Joins
set_option linter.unusedVariables false
set_option maxRecDepth 100000 in
theorem lifted (os : Os) (started : os.Started) (H : Type) (enc : TypeId × Value → H) :
    ReturnsInHanded {} Try.checked os 4 .any (Rows.treeBytesSpec.pre6 enc Try.prog Try.f4 Rows.treeBytesRow.domain false) (Rows.treeBytesSpec.post enc Try.prog Try.f4 false true false false) := by
  refine returnsInHanded_of_change_sized (C := Try.checked) ownKnob_none started (by kernel_rfl) Try.func4
    (ChangeSpec.witness6 (enc := enc) (C := Try.checked) false ⟨#[], #[.agg #[.string ByteArray.empty, .string ByteArray.empty], .agg #[.int .i64 0, .int .i64 0, .int .i64 0, .int .i64 0], .agg #[.int .i64 0, .int .i64 0, .slice none 0 0]], []⟩ 8 (by kernel_rfl) (by kernel_rfl) (by kernel_rfl) (by kernel_rfl)) ?_
  intro W base args ds gs before hval0 hW hcnd hsz0 _
  have hval : ∀ (j : Nat) t v, Try.f4.params[j]? = some t → args[j]? = some v → Value.okWide Try.prog W .any base t v := hval0
  have hsz : (DataW.weightsEach Try.prog (Try.f4.params.toList ++ Rows.treeBytesSpec.plain.varTypes Try.prog) (ds ++ gs)).all (· ≤ reachBytes) = true := hsz0
  clear hsz0 hval0
  have hW' := hW
  obtain ⟨p, q, hA0, hV, rfl, hfz, hnd⟩ := hW
  have hA : DataW.TrodAll enc Try.prog W 0 (fun _ => true) true Try.f4.params.toList args.toList ds p := hA0
  clear hA0
  rw [Try.params4] at hA hval hsz
  obtain ⟨v0, vs0, d0, ds0, p0, q0, hargs, rfl, rfl, h0, r0⟩ := trodAll_cons hA
  obtain ⟨v1, vs1, d1, ds1, p1, q1, rfl, rfl, rfl, h1, r1⟩ := trodAll_cons r0
  obtain ⟨v2, vs2, d2, ds2, p2, q2, rfl, rfl, rfl, h2, r2⟩ := trodAll_cons r1
  obtain ⟨rfl, rfl, rfl⟩ := trodAll_nil r2
  obtain rfl : args = #[v0, v1, v2] := by cases args; simp_all
  obtain ⟨rfl, rfl⟩ := trodVars_none hV
  have s0 := sees_val (.st [.str, .str]) (by kernel_rfl) (hval 0 _ _ rfl rfl) (sees_arg hsz 0 (.st [.str, .str]) (by kernel_rfl) rfl rfl h0)
  have s1 := sees_val (.st [.int .i64, .int .i64, .int .i64, .int .i64]) (by kernel_rfl) (hval 1 _ _ rfl rfl) (sees_arg hsz 1 (.st [.int .i64, .int .i64, .int .i64, .int .i64]) (by kernel_rfl) rfl rfl h1)
  have s2 := sees_val (.st [.int .i64, .int .i64, .sl .str 16]) (by kernel_rfl) (hval 2 _ _ rfl rfl) (sees_arg hsz 2 (.st [.int .i64, .int .i64, .sl .str 16]) (by kernel_rfl) rfl rfl h2)
  clear hsz
  obtain ⟨cs_, hE, s0⟩ := s0
  cases hE
  obtain ⟨a_, b_, hE, s0_0, s0r⟩ := s0
  cases hE
  obtain ⟨a_, b_, hE, s0_1, s0r⟩ := s0r
  cases hE
  cases s0r
  obtain ⟨k0, hE, zk0⟩ := s0_0
  cases hE
  obtain ⟨k1, hE, zk1⟩ := s0_1
  cases hE
  obtain ⟨cs_, hE, s1⟩ := s1
  cases hE
  obtain ⟨a_, b_, hE, s1_0, s1r⟩ := s1
  cases hE
  obtain ⟨a_, b_, hE, s1_1, s1r⟩ := s1r
  cases hE
  obtain ⟨a_, b_, hE, s1_2, s1r⟩ := s1r
  cases hE
  obtain ⟨a_, b_, hE, s1_3, s1r⟩ := s1r
  cases hE
  cases s1r
  obtain ⟨q0, hE, wq0⟩ := s1_0
  cases hE
  obtain ⟨q1, hE, wq1⟩ := s1_1
  cases hE
  obtain ⟨q2, hE, wq2⟩ := s1_2
  cases hE
  obtain ⟨q3, hE, wq3⟩ := s1_3
  cases hE
  obtain ⟨cs_, hE, s2⟩ := s2
  cases hE
  obtain ⟨a_, b_, hE, s2_0, s2r⟩ := s2
  cases hE
  obtain ⟨a_, b_, hE, s2_1, s2r⟩ := s2r
  cases hE
  obtain ⟨a_, b_, hE, s2_2, s2r⟩ := s2r
  cases hE
  cases s2r
  obtain ⟨k, hE, wk⟩ := s2_0
  cases hE
  obtain ⟨lsn, hE, wlsn⟩ := s2_1
  cases hE
  obtain ⟨A, c, its, hE, atA, lA, bA, wA⟩ := sees_strs s2_2
  cases hE
  refine (treebytes_any k0 k1 q0 q1 q2 q3 k lsn A _ its W atA (by omega) (by omega) (by omega)).mono fun e W' ⟨he, hx⟩ => ?_
  subst he
  exact ⟨_, rfl, law_post laidOut (by rw [Try.params4]; exact (by decide +kernel)) rfl Try.underlying4 hW' rfl rfl rfl rfl hx⟩
theorem over : Rows.treeBytesRow.holds Try.pinned (OpenSpec.ofChange Rows.treeBytesSpec) :=
  OpenClaim.holds_of_wide 4 Try.f4 rfl rfl rfl rfl rfl rfl rfl ⟨rfl, rfl, rfl, rfl, rfl⟩ rfl rfl rfl rfl rfl (by kernel_rfl) Try.func4 (by kernel_rfl)
    (of_decide_eq_true (by kernel_rfl)) (by unfold Func.isWrapper; first | (rw [if_pos (by decide +kernel)]; kernel_rfl) | (rw [if_neg (by decide +kernel)]; exact ⟨rfl, rfl⟩))
    (fun os started H enc _ => lifted os started H enc)
theorem proved : Rows.TreeBytesSaid :=
  over
end
end Go.Proofs.Ytjlcoglmjldjbaa.treeBytes

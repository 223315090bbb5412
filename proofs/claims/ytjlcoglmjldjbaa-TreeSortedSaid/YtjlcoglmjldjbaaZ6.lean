/- TreeSortedRow: part 6 of the proof. -/
import Derived.Test.YtjlcoglmjldjbaaZ5
import Derived.Shelf.Abstract
import Derived.Maps.OwnSet
import Derived.Maps.Views
import Derived.Carry
import Derived.StringKeys
set_option linter.unusedVariables false
set_option linter.unusedSimpArgs false
set_option maxRecDepth 100000
set_option maxHeartbeats 16000000
namespace Go.Proofs.Ytjlcoglmjldjbaa
section
open Go.RowKit
theorem ynC_len (x:YnD):(ynC x).length=7:=rfl
/-- the nodes collected: one node, its entries -/
def eCo (SA:Option Addr) (nd:NoD) (pg:Int) (fp:List Nat):Ent:=⟨fp,fun W=>∃ EA ec,(∀ ad,SA=some ad→ad.block∈fp)∧(∀ ad,EA=some ad→ad.block∈fp)∧At W SA ([(nd,pg,EA,ec)].flatMap ynC)∧At W EA (nd.es.flatMap enC)⟩
theorem eCo_self {e:Ent} {SA:Option Addr} {nd:NoD} {pg:Int} {fp:List Nat} (h:e=eCo SA nd pg fp):e=eCo SA nd pg e.fp:=by subst h; rfl
theorem eCo_loc (SA:Option Addr) (nd:NoD) (pg:Int) (fp:List Nat):(eCo SA nd pg fp).loc:=fun W W' hk h=>by
 obtain ⟨EA,ec,h1,h2,h3,h4⟩:=h
 exact ⟨EA,ec,h1,h2,at_blocks h3 fun ad e _=>hk _ (h1 ad e),at_blocks h4 fun ad e _=>hk _ (h2 ad e)⟩
theorem own_blkN {W:World} {t sz m lc:Nat} {LA:Option Addr} {xs:List Value} (h:W.ownsRow 0 t sz (.slice LA m lc) m xs):∀ ad,LA=some ad→ad.block∈(Value.ownBlock (.slice LA m lc)).toList:=fun ad e=>by
 rcases h.2 with ⟨hv, _⟩ | ⟨g,cap,cur,hv, _⟩
 ·injection hv with h2; rw [e] at h2; cases h2
 ·subst e; injection hv with h5; injection h5 with h5; subst h5; simp [Value.ownBlock]
def CoPost (nd:NoD) (pg:Int) (w:World) (e:Ending) (w':World):Prop:=∃ SA sc fp,e= .returned (.slice SA 1 sc)∧St w [] [eCo SA nd pg fp] w'
theorem co_done {w W:World} {SA:Option Addr} {sc n:Nat} {nd:NoD} {pg:Int} {xs:List YnD} {E:Ent} (hz:OneZ pg nd xs E) (h:St w [] [eO 116 7 (.slice SA n sc) n (xs.flatMap ynC),E] W) (hn:n=xs.length):CoPost nd pg w (.returned (.slice SA n sc)) W:=by
 obtain ⟨EA,ec,rfl,rfl⟩:=hz
 subst hn
 have h1:=h.ok (eO 116 7 (.slice SA 1 sc) 1 ([(nd,pg,EA,ec)].flatMap ynC)) (by simp)
 have h2:=h.ok (ynR (nd,pg,EA,ec)) (by simp)
 have hO:W.ownsRow 0 116 7 (.slice SA 1 sc) 1 ([(nd,pg,EA,ec)].flatMap ynC):=h1.holds
 have hR:W.ownsRow 0 104 3 (.slice EA nd.es.length ec) nd.es.length (nd.es.flatMap enC):=h2.holds
 refine ⟨SA,sc,(Value.ownBlock (.slice SA 1 sc)).toList++(Value.ownBlock (.slice EA nd.es.length ec)).toList,rfl,h.upd,fun x hx=>?_,List.pairwise_singleton _ _⟩
 rw [List.mem_singleton] at hx
 subst hx
 refine ⟨⟨EA,ec,fun ad e=>List.mem_append_left _ (own_blkN hO ad e),fun ad e=>List.mem_append_right _ (own_blkN hR ad e),At.of_ownN hO,At.of_ownN hR⟩,eCo_loc _ _ _ _,fun k hk=>?_⟩
 rcases List.mem_append.1 hk with hk | hk
 ·exact h1.own k hk
 ·exact h2.own k hk
theorem yn_snoc (L:List YnD) (x:YnD):L.flatMap ynC++ynC x=(L++[x]).flatMap ynC:=by simp
theorem Try.infoNd:(Try.prog.info? 116).map (fun i=>(i.zero,i.size,i.bytes))=some (some (.agg #[.int .i64 0, .int .i64 0, .int .i64 0, .string ByteArray.empty, .bool false, .slice none 0 0, .int .i64 0]),7,80):=by kernel_rfl
theorem kapp_any (b1 b2 b3:Nat) (root:Int) (nd:NoD) (w:World) (hseq:SeqF Try.prog 99 #[.pointer (some ⟨b1,0,none⟩), .pointer (some ⟨b2,0,none⟩), .pointer (some ⟨b3,0,none⟩)] ynE 1 (OneZ root nd) w):
  Calls Try.prog 98 #[.slice none 0 0, .func (.func 99) #[] #[.pointer (some ⟨b1,0,none⟩), .pointer (some ⟨b2,0,none⟩), .pointer (some ⟨b3,0,none⟩)]] w (CoPost nd root w):=by
 refine (callsIn_wide (n:=3)).1 (callsIn_of_wp_marks Try.func98 rfl trivial (wpIn_wide.2 ?_) rfl)
 simp only [Try.ntmps98,List.size_toArray,List.length_cons,List.length_nil,Nat.reduceAdd,Nat.reduceSub,Array.replicate_succ,Array.replicate_zero,List.push_toArray,List.append_toArray,List.nil_append,List.cons_append]
 have hst0:=St.start w
 refine wp_seq (wp_region_Y [0,0] [] [[0]] [] [.a 2, .k 4 (.slice none 0 0)] (fun ix σ β X=>match ix with | 0=>σ 2=vp (pb (β 2))∧X 0=eB (pb (β 2)) 146 #[.slice none 0 0] | _=>True) [0] [0] [(2,0,1,3),(1,1,1,2)] hst0 ?_ ?_ ?_)
 ·exact fun ix _ _ _ _ _ _ hs hb hx h=>match ix,h with
  | 0,h=>by dsimp only; rw [← hs 2 rfl,← hb 2 rfl,← hx 0 rfl]; exact h
  | _+1, _=>trivial
 ·refine ⟨?_,trivial⟩
  ·refine svA fun ρ β W X cx=>?_
   exact dv_box (cs:=#[.slice none 0 0]) rfl (cx.ou 0) rfl rfl rfl (fun σ β' X' hs hb hv hx=>⟨hv,hx⟩)
 intro σ β X W1 hD hst1 fr hfr
 obtain ⟨B2_1,hu_B2_1⟩:∃ z,pb (β 2)=z:=⟨_,rfl⟩
 simp only [exq 0 ((dTn (hD 0 lq)).2),hu_B2_1] at hst1
 simp only [ed 2 ((dTn (hD 0 lq)).1),hu_B2_1] at hfr
 clear hD hu_B2_1; subst hfr; clear σ β X
 refine then_normal (wp_seq (wp_seq (wp_region_P [0] [.k 6 (.func (.func 99) #[] #[vp b1,vp b2,vp b3])] [(6,0,1,7)] hst1 fun W2 hst2=>?_)))
 refine then_normal (wp_block ?_)
 have hn3:=nilrowN hst2 116 7
 simp only [List.cons_append,List.nil_append] at hn3
 have hp5:=hn3.pick [0,1] (by decide) rfl
 refine wp_rangeSF (α:=YnD) hp5 rfl (enters_of Try.func99 (by kernel_rfl) rfl) (encs:=ynE) (N:=1) (Z:=OneZ root nd) (hseq) (fun _=>rfl) (fun pre L=>∃ SA:Option Addr,∃ n:Nat,∃ sc:Nat,n=pre.length∧L=[eB B2_1 146 #[.slice SA n sc],eO 116 7 (.slice SA n sc) n (pre.flatMap ynC)]) ⟨none,0,0,rfl,rfl⟩ (fun xx a_ E_=>∃ BV:Nat,a_=⟨([.slice none 0 0, .func (.func 99) #[] #[vp b1,vp b2,vp b3],vp B2_1,undef, .slice none 0 0,vp BV, .func (.func 99) #[] #[vp b1,vp b2,vp b3], .agg #[vi xx.2.1,vi xx.1.lv,vi xx.1.right, .string xx.1.high, .bool xx.1.dead, .slice xx.2.2.1 xx.1.es.length xx.2.2.2,vi ((xx.1.free:Int))],undef,undef,undef,undef,undef]).toArray,[]⟩∧E_=eB BV 116 #[vi xx.2.1,vi xx.1.lv,vi xx.1.right, .string xx.1.high, .bool xx.1.dead, .slice xx.2.2.1 xx.1.es.length xx.2.2.2,vi ((xx.1.free:Int))]) (fun xx=>[.slice none 0 0, .func (.func 99) #[] #[vp b1,vp b2,vp b3],vp B2_1,undef, .slice none 0 0,undef, .func (.func 99) #[] #[vp b1,vp b2,vp b3], .agg #[vi xx.2.1,vi xx.1.lv,vi xx.1.right, .string xx.1.high, .bool xx.1.dead, .slice xx.2.2.1 xx.1.es.length xx.2.2.2,vi ((xx.1.free:Int))],undef,undef,undef,undef,undef]) (fun xx=>by kernel_rfl) ?_ ?_ ?_
 ·intro rl xx W4 K hK
  have hst4:=St.start W4
  refine wpIn_region_Y [0,1] [[],[0]] [[0],[1]] [[],[0]] [.a 5, .n] (fun ix σ β X=>match ix with | 0=>σ 5=vp (pb (β 5))∧X 0=eB (pb (β 5)) 116 #[vi 0,vi 0,vi 0, .string ByteArray.empty, .bool false, .slice none 0 0,vi 0] | 1=>X 1=eB (pb (β 5)) 116 #[vi xx.2.1,vi xx.1.lv,vi xx.1.right, .string xx.1.high, .bool xx.1.dead, .slice xx.2.2.1 xx.1.es.length xx.2.2.2,vi ((xx.1.free:Int))] | _=>True) [1] [0,1] [(5,0,1,6)] hst4 ?_ ?_ ?_
  ·exact fun ix _ _ _ _ _ _ hs hb hx h=>match ix,h with
   | 0,h=>by dsimp only; rw [← hs 5 rfl,← hb 5 rfl,← hx 0 rfl]; exact h
   | 1,h=>by dsimp only; rw [← hb 5 rfl,← hx 1 rfl]; exact h
   | _+2, _=>trivial
  ·refine ⟨?_,?_,trivial⟩
   ·refine svA fun ρ β W X cx=>?_
    exact dv_alloc (cs:=#[vi 0,vi 0,vi 0, .string ByteArray.empty, .bool false, .slice none 0 0,vi 0]) rfl (by kernel_rfl) rfl rfl (fun σ β' X' hs hb hv hx=>⟨hv,hx⟩)
   ·refine svA fun ρ β W X cx=>?_
    exact dv_store (n:=7) rfl (dTn (cx.an 0)).1 (cx.ou 7) (by kernel_rfl) (by kernel_rfl) (by kernel_rfl) cx (dTn (cx.an 0)).2 rfl (nle rfl) (by kernel_rfl) rfl rfl rfl (fun σ β' X' hs hb hx=>by rw [hb 5]; exact hx)
  intro σ β X W6 hD hst6 fr hfr
  obtain ⟨B5_6,hu_B5_6⟩:∃ z,pb (β 5)=z:=⟨_,rfl⟩
  simp only [exq 1 ((dTn (hD 1 lq))),hu_B5_6] at hst6
  simp only [ed 5 ((dTn (hD 0 lq)).1),hu_B5_6] at hfr
  clear hD hu_B5_6; subst hfr; clear σ β X
  exact hK _ _ _ ⟨_,rfl,rfl⟩ (hst6.pick [0] (by decide) rfl)
 ·rintro rl pre xx W7 L7 a7 E7 ⟨SA,n,sc,hn,rfl⟩ hlen7 ⟨BV,rfl,rfl⟩ hst7r
  have hst7:St W7 (fps ([eB B2_1 146 #[.slice SA n sc],eO 116 7 (.slice SA n sc) n (pre.flatMap ynC)]++[eB BV 116 #[vi xx.2.1,vi xx.1.lv,vi xx.1.right, .string xx.1.high, .bool xx.1.dead, .slice xx.2.2.1 xx.1.es.length xx.2.2.2,vi ((xx.1.free:Int))]])) [eB B2_1 146 #[.slice SA n sc],eO 116 7 (.slice SA n sc) n (pre.flatMap ynC),eB BV 116 #[vi xx.2.1,vi xx.1.lv,vi xx.1.right, .string xx.1.high, .bool xx.1.dead, .slice xx.2.2.1 xx.1.es.length xx.2.2.2,vi ((xx.1.free:Int))]] W7:=hst7r
  clear hst7r
  refine wpIn_block (wpIn_region_Y [0,0,2,7,15] [[0],[2],[],[3,1],[0]] [[],[],[3],[4],[5]] [[],[],[],[1],[0]] [.c 8 (.slice SA n sc), .c 9 (.agg #[vi xx.2.1,vi xx.1.lv,vi xx.1.right, .string xx.1.high, .bool xx.1.dead, .slice xx.2.2.1 xx.1.es.length xx.2.2.2,vi ((xx.1.free:Int))]), .a 10, .a 11, .n] (fun ix σ β X=>match ix with | 0=>True | 1=>True | 2=>σ 10= .slice ((some ⟨(pb' (β 10)),0,none⟩)) 1 1∧X 3=eO 116 7 (.slice ((some ⟨(pb' (β 10)),0,none⟩)) 1 1) 1 (ynC xx) | 3=>σ 11= .slice (sA (β 11)) (n+1) (sC (β 11))∧X 4=eO 116 7 (.slice (sA (β 11)) (n+1) (sC (β 11))) (n+1) ((pre++[xx]).flatMap ynC) | 4=>X 5=eB B2_1 146 #[.slice (sA (β 11)) (n+1) (sC (β 11))] | _=>True) [2,3,4,5] [0,1,2,3,4] [(8,0,4,12)] hst7 ?_ ?_ ?_)
  ·exact fun ix _ _ _ _ _ _ hs hb hx h=>match ix,h with
   | 2,h=>by dsimp only; rw [← hs 10 rfl,← hb 10 rfl,← hx 3 rfl]; exact h
   | 3,h=>by dsimp only; rw [← hs 11 rfl,← hb 11 rfl,← hx 4 rfl]; exact h
   | 4,h=>by dsimp only; rw [← hb 11 rfl,← hx 5 rfl]; exact h
   | 0, _ | 1, _ | _+5, _=>trivial
  ·refine ⟨?_,?_,?_,?_,?_,trivial⟩
   ·exact xs4 rfl id fun cx=>run_load1 rfl (by kernel_rfl) (cx.ou 2) ((cx.bi 0 rfl).cell 0)
   ·exact xs4 rfl id fun cx=>run_loadB (n:=7) rfl (by kernel_rfl) (by kernel_rfl) (cx.ou 5) (cx.bi 2 rfl) (nle rfl) rfl
   ·refine svA fun ρ β W X cx=>?_
    have fF9:ρ (.tmp 9)= .agg #[vi xx.2.1,vi xx.1.lv,vi xx.1.right, .string xx.1.high, .bool xx.1.dead, .slice xx.2.2.1 xx.1.es.length xx.2.2.2,vi ((xx.1.free:Int))]:=(cx.an 1)
    exact dv_litN (e:=116) (sz:=7) (xs:=[vi xx.2.1,vi xx.1.lv,vi xx.1.right, .string xx.1.high, .bool xx.1.dead, .slice xx.2.2.1 xx.1.es.length xx.2.2.2,vi ((xx.1.free:Int))]) rfl (by simp [go_sem,fF9]) rfl (by decide) rfl rfl (fun σ β' X' hs hb hv hx=>⟨hv,hx⟩)
   ·refine svA fun ρ β W X cx=>?_
    obtain ⟨i0,hi0,hz0,hz1,hz2⟩:=info_parts Try.infoNd
    refine dv_appendN (n:=n) (m:=1) (nm:=n+1) (sz:=7) (xs:=pre.flatMap ynC) (news:=ynC xx) (xs':=(pre++[xx]).flatMap ynC) rfl (ty:=146) rfl (by kernel_rfl) hi0 hz0 hz1 hz2 rfl (by decide) (cx.an 0) cx (cx.init 1 _ rfl) rfl (dTn (cx.an 2)).1 (by rfl) (At.of_ownN (cx.row (dTn (cx.an 2)).2 rfl)) (by simp [ynC,Value.oneCell']) (by simp only [maxLen]; omega) (by omega) rfl rfl rfl (by omega) (yn_snoc _ _) (fun σ β' X' hs hb hv hx=>?_)
    exact ⟨hv,hx⟩
   ·refine svA fun ρ β W X cx=>?_
    exact dv_store (n:=1) rfl (cx.ou 2) (dTn (cx.an 3)).1 (by kernel_rfl) (by kernel_rfl) (by kernel_rfl) cx (cx.init 0 _ rfl) rfl (nle rfl) (by kernel_rfl) rfl rfl rfl (fun σ β' X' hs hb hx=>by rw [hb 11]; exact hx)
  intro σ β X W8 hD hst8 fr hfr
  obtain ⟨B10_8,hu_B10_8⟩:∃ z,pb' (β 10)=z:=⟨_,rfl⟩
  obtain ⟨A11_8,hu_A11_8⟩:∃ z,sA (β 11)=z:=⟨_,rfl⟩
  obtain ⟨c11_8,hu_c11_8⟩:∃ z,sC (β 11)=z:=⟨_,rfl⟩
  simp only [exq 3 ((dTn (hD 2 lq)).2),exq 4 ((dTn (hD 3 lq)).2),exq 5 ((dTn (hD 4 lq))),hu_B10_8,hu_A11_8,hu_c11_8] at hst8
  simp only [ed 10 ((dTn (hD 2 lq)).1),ed 11 ((dTn (hD 3 lq)).1),hu_B10_8,hu_A11_8,hu_c11_8] at hfr
  clear hD hu_B10_8 hu_A11_8 hu_c11_8; subst hfr; clear σ β X
  refine blk_normal ?_
  exact ⟨rfl, _,⟨A11_8,(n+1),c11_8,by rw [hn,List.length_append]; rfl,rfl⟩,hst8.pick [3,2] (by decide) rfl⟩
 ·rintro D4 W4d L4 XS_ E_ ⟨SA,n,sc,hn,rfl⟩ hZ_ hst4d
  simp only [List.cons_append,List.nil_append] at hst4d
  refine blk_normal (then_normal (wp_seq (wp_region_Z [0,1] [[0]] [.c 12 (.slice SA n sc), .k 4 (.slice SA n sc)] [0,1,2,3] [0] [(4,1,1,5),(7,0,1,8)] hst4d ?_ fun W9 hst9=>?_)))
  ·refine ⟨?_,trivial⟩
   ·exact xs4 rfl id fun cx=>run_load1 rfl (by kernel_rfl) (cx.ou 2) ((cx.bi 0 rfl).cell 0)
  refine then_normal (wp_ret ?_)
  refine bpm_take (L:=[eB B2_1 146 #[.slice SA n sc],eO 116 7 (.slice SA n sc) n (XS_.flatMap ynC),E_]) (hst9.pick [0,1,2,3] (by decide) rfl) fun Wt10 ht10=>?_
  refine ⟨.slice SA n sc,(results_1 Try.results98 rpt),?_⟩
  exact co_done hZ_ (ht10.pick [1,2] (by decide) rfl) hn
theorem seqF_ext {α:Type} {P:Program} {gf:Nat} {lb:Array Value} {encs:α→Array Value} {N:Nat} {Z:List α→Ent→Prop} {w w1:World} (h:SeqF P gf lb encs N Z w) (hx:Ext w w1):SeqF P gf lb encs N Z w1:=fun l J W C0 hW hloc hC hJ hY=>h l J W C0 (hx.trans hW) hloc (fun k hk=>⟨Nat.le_trans hx.size (hC k hk).1,(hC k hk).2⟩) hJ hY
theorem kcol_any (b1 b2 b3:Nat) (root:Int) (nd:NoD) (w:World) (hseq:SeqF Try.prog 99 #[.pointer (some ⟨b1,0,none⟩), .pointer (some ⟨b2,0,none⟩), .pointer (some ⟨b3,0,none⟩)] ynE 1 (OneZ root nd) w):
  Calls Try.prog 71 #[.func (.func 99) #[] #[.pointer (some ⟨b1,0,none⟩), .pointer (some ⟨b2,0,none⟩), .pointer (some ⟨b3,0,none⟩)]] w (CoPost nd root w):=by
 go_enter Try.func71,Try.ntmps71
 have hst0:=St.start w
 refine wp_seq (sqr (sqp [.k 2 (.slice none 0 0)] ?_))
 refine then_normal (wp_seq (sqr (sqp [.m 3 0] ?_)))
 refine sqk2s (fun A4_3 c4_3=> .slice A4_3 1 c4_3) (fun A4_3 c4_3 r0_3=>eCo A4_3 nd root r0_3) hst0 (fun cx=>⟨_,(kapp_any b1 b2 b3 root nd _ (seqF_ext hseq cx.upd.to_ext)).mono (by rintro e W1 ⟨A4,c4,fp4,rfl,hs4⟩; exact ⟨_, _, _,rfl,hs4⟩),(map2 (cx.co _) (cx.ou 3))⟩) fun A4_3 c4_3 r0_3 W3 hst3=>?_
 refine sqp [.m 2 4] ?_
 refine then_normal (wp_ret ?_)
 refine bpr (.slice A4_3 1 c4_3) (results_1 Try.results71 rpt) ?_
 exact ⟨_, _, _,rfl,hst3.pick [0] (by decide) rfl⟩
def pcp (i:Nat):Value→Nat
 | .func _ _ cs=>pb (cs.getD i undef)
 | _=>0
def RowPost (tt:TypeId) (tv:Value) (root lv:Int) (w:World) (e:Ending) (w':World):Prop:=∃ b1 b2 b3,e= .returned (.func (.func 99) #[] #[.pointer (some ⟨b1,0,none⟩), .pointer (some ⟨b2,0,none⟩), .pointer (some ⟨b3,0,none⟩)])∧St w [] [eB b1 113 #[.iface tt tv],eB b2 3 #[.int .i64 root],eB b3 3 #[.int .i64 lv]] w'
theorem krowc_any (tt:TypeId) (tv:Value) (root lv:Int) (w:World):
  Calls Try.prog 72 #[.iface tt (tv), .int .i64 root, .int .i64 lv] w (RowPost tt tv root lv w):=by
 go_enter Try.func72,Try.ntmps72
 have hst0:=St.start w
 refine wp_seq (sqr ?_)
 refine sqbx #[.iface tt (tv)] hst0 fun B3_1 W1 hst1=>?_
 refine sqbx #[vi root] hst1 fun B4_2 W2 hst2=>?_
 refine sqbx #[vi lv] hst2 fun B5_3 W3 hst3=>?_
 refine sqp [.k 6 (Go.Value.nilFunc)] ?_
 refine then_normal (wp_seq (sqr ?_))
 refine sqv (.func (.func 99) #[] #[vp B3_1,vp B4_2,vp B5_3]) hst3 (by
   exact sv0 rfl rfl rfl rfl rfl (fun _ _ _ h=>h) fun ρ β W X cx=>by
    have fF3:ρ (.tmp 3)=vp B3_1:=(cx.ou 3)
    have fF4:ρ (.tmp 4)=vp B4_2:=(cx.ou 4)
    have fF5:ρ (.tmp 5)=vp B5_3:=(cx.ou 5)
    simp [go_sem,Instr.makeFunc,fF3,fF4,fF5]) fun W5 hst5=>?_
 refine sqp [.m 6 7] ?_
 refine then_normal (wp_ret ?_)
 refine bpr (.func (.func 99) #[] #[vp B3_1,vp B4_2,vp B5_3]) (results_1 Try.results72 rpt) ?_
 exact ⟨_, _, _,rfl,hst5.pick [0,1,2] (by decide) rfl⟩
theorem ksorted_1 (pg fr:Int) (EA:Option Addr) (ec n:Nat) (es:List EnD) (w:World) (hE:At w EA (es.flatMap enC)) (hn:es.length=n) (hn1:n≤1):
  Calls Try.prog 100 #[.agg #[.int .i64 pg, .int .i64 0, .int .i64 (-1), .string ((⟨#[]⟩:ByteArray)), .bool false, .slice EA n ec, .int .i64 fr], .string ((⟨#[]⟩:ByteArray))] w (Ret (.bool true) w):=by
 go_enter Try.func100,Try.ntmps100
 have hst0:=St.start w
 refine wp_seq (sqr ?_)
 refine sqbx #[vi pg,vi 0,vi (-1), .string ((⟨#[]⟩:ByteArray)), .bool false, .slice EA n ec,vi fr] hst0 fun B2_1 W1 hst1=>?_
 refine sqp [.k 4 (.bool false)] ?_
 refine then_normal (wp_seq (wp_seq (sqr (sqp [.k 7 (.pointer (some ⟨B2_1,5,none⟩))] ?_))))
 refine sqld 0 hst1 ?_
 refine sqp [.k 9 (vi ((n:Int))), .k 10 (vi 0)] ?_
 refine then_normal (wp_block ?_)
 refine wp_loopT (fun t_ mz az W=>∃ i:Nat,i≤n∧mz=n - i∧az=⟨(ovr (jv az) [(4,4,3,[]),(3,10,0,[vi ((i:Int))]),(0,11,42,[])] t_).toArray,[]⟩∧St w [] [eB B2_1 116 #[vi pg,vi 0,vi (-1), .string ((⟨#[]⟩:ByteArray)), .bool false, .slice EA n ec,vi fr]] W) (n - 0) ?_ ?_
 · -- the loop begins
   exact ⟨0,Nat.zero_le _,rfl,(by kernel_rfl),hst1.pk [0]⟩
 rintro n7 a7 W7 ⟨i,hi,rfl,hj_,hst7⟩
 refine ovz hj_ fun u7_=>?_
 refine wp_seq (sqr (sqp [.k 11 (.bool (decide ((i:Int) < (n:Int))))] ?_))
 refine then_normal (wp_seq (wds (fun hs9 hs9p=>?_) fun hs9 hs9p=>?_))
 ·refine wp_skip (then_normal (wp_seq (wp_block (wp_seq (sqr (sqp [.m 12 10] ?_))))))
  refine sql (.pointer (some ((ad EA).add (i*3)))) hst7 (fun cx=>run_indexSlM (e:=104) (m:=i) (sz:=3) rfl (by kernel_rfl) (by kernel_rfl) (cx.ou 8) (cx.ou 10) (by omega) (by omega) (hE.ext cx.upd.to_ext) (flatPos (sz:=3) enC_len (by decide) (by omega))) ?_
  refine sql (.agg #[.string ((es.getD i en0).1),vi (((es.getD i en0).2.1:Int)),vi ((es.getD i en0).2.2)]) hst7 (fun cx=>run_loadElt (f:=enC) (m:=i) (sz:=3) (off:=0) (n:=3) rfl (by kernel_rfl) (by kernel_rfl) (cx.ou 13) rfl enC_len (hE.ext cx.upd.to_ext) (en_get (by omega)) (fun k hk=>match k,hk with | 0, _=>rfl | 1, _=>rfl | 2, _=>rfl | k+3,hk=>absurd hk (by omega))) ?_
  refine sqal #[.string ByteArray.empty,vi 0,vi 0] hst7 fun B6_13 W13 hst13=>?_
  refine sqp [.m 5 12] ?_
  refine sqst (n:=3) 1 #[.string ((es.getD i en0).1),vi (((es.getD i en0).2.1:Int)),vi ((es.getD i en0).2.2)] hst13 fun W15 hst15=>?_
  refine then_normal (wp_seq ?_)
  have hd17:(!(((⟨#[]⟩:ByteArray)).toList==((⟨#[]⟩:ByteArray)).toList))=false:=(by rw [beq_self_eq_true]; rfl)
  have hd18:(decide (0 < (i:Int)))=false:=(decide_eq_false (by omega))
  refine wp_region_Z [0,1,3,7,15,7,63,127,255,511,1023,2047,4095,8191,16383,8191,40959,131071,262143,524287,1048575,2097151,4194303,8388607,16777215,33554431,67108863,33554431,167772159,33554431,570425343,2046820351,4194303999,8489271295,17179869183,34359738367,68719476735] [[],[],[],[],[],[],[],[],[],[],[0]] [.k 15 (.string ((⟨#[]⟩:ByteArray))), .e 16 (.bool (!(((⟨#[]⟩:ByteArray)).toList==((⟨#[]⟩:ByteArray)).toList))) (.bool false) (congrArg Value.bool hd17), .k 17 (.bool false), .u 18, .u 19, .u 20, .u 21, .k 22 (.bool false), .k 23 (.bool false), .k 24 (.pointer (some ⟨B2_1,3,none⟩)), .c 25 (.string ((⟨#[]⟩:ByteArray))), .e 26 (.bool (!(((⟨#[]⟩:ByteArray)).toList==((⟨#[]⟩:ByteArray)).toList))) (.bool false) (congrArg Value.bool hd17), .k 27 (.bool false), .u 28, .u 29, .u 30, .u 31, .u 32, .u 33, .k 34 (.bool false), .k 35 (.bool false), .k 36 (.bool false), .k 37 (vi ((i:Int))), .e 38 (.bool (decide (0 < (i:Int)))) (.bool false) (congrArg Value.bool hd18), .k 39 (.bool false), .u 40, .u 41, .u 42, .u 43, .u 44, .u 45, .u 46, .u 47, .u 48, .u 49, .k 50 (.bool false), .k 51 (.bool false)] [0,1] [10] [(15,0,37,52)] hst15 ?_ fun W16 hst16=>?_
  ·refine ⟨?_,trivial⟩
   ·exact xs5 rfl id (fun cx=>(cx.an 8)) fun cx=>run_load1 rfl (by kernel_rfl) (cx.an 9) ((cx.bi 0 rfl).cell 3)
  refine then_normal (wcf rfl (wp_skip (blk_normal (then_normal (sqr (sqp [sI 52 ((i:Int)+1) (by omega), .m 10 52] ?_))))))
  refine then_normal ?_
  refine ⟨n - ((i+1)),by omega,?_⟩
  exact ⟨(i+1),by omega,rfl,(by kernel_rfl),hst16.pk [0]⟩
 refine wp_exit (then_exit (then_exit (blk_eq (then_normal (wp_seq (sqr (sqp [.k 4 (.bool true)] ?_)))))))
 refine then_normal (wp_ret ?_)
 refine bpr (.bool true) (results_1 Try.results100 rpt) ?_
 exact Ret.of rfl hst7.ext
def ny1 (pg fr:Int) (EA:Option Addr) (ec n:Nat) (u:Unit):List Value:=[.int .i64 pg, .int .i64 0, .int .i64 (-1), .string ((⟨#[]⟩:ByteArray)), .bool false, .slice EA n ec, .int .i64 fr]
theorem kright_1 (pg fr:Int) (EA SA:Option Addr) (ec sc n:Nat) (es:List EnD) (w:World) (hE:At w EA (es.flatMap enC)) (hn:es.length=n) (hn1:n≤1) (hN:At w SA ([()].flatMap (ny1 pg fr EA ec n))):
  Calls Try.prog 73 #[.slice SA 1 sc, .slice none 0 0] w (Ret (.bool true) w):=by
 go_enter Try.func73,Try.ntmps73
 have hst0:=St.start w
 refine wp_seq (sqr (sqp [.k 4 (.bool false)] ?_))
 refine then_normal (wp_seq (sqr (sqp [.k 5 (.string ⟨#[]⟩)] ?_)))
 refine then_normal (wp_seq (wp_seq (sqr (sqp [.m 9 0, .k 10 (vi 1), .k 11 (vi 0)] ?_))))
 refine then_normal (wp_block ?_)
 refine wp_loopT (fun t_ mz az W=>∃ i:Nat,i≤1∧mz=1 - i∧az=⟨(ovr (jv az) [(4,4,1,[.string ((⟨#[]⟩:ByteArray))]),(0,6,3,[]),(2,11,0,[vi ((i:Int))]),(0,12,73,[])] t_).toArray,[]⟩∧St w [] [] W) (1 - 0) ?_ ?_
 · -- the loop begins
   exact ⟨0,Nat.zero_le _,rfl,(by kernel_rfl),hst0.pk []⟩
 rintro n6 a6 W6 ⟨i,hi,rfl,hj_,hst6⟩
 refine ovz hj_ fun u6_=>?_
 refine wp_seq (sqr (sqp [.k 12 (.bool (decide ((i:Int) < 1)))] ?_))
 refine then_normal (wp_seq (wds (fun hs8 hs8p=>?_) fun hs8 hs8p=>?_))
 ·refine wp_skip (then_normal (wp_seq (wp_block (wp_seq ?_))))
  obtain rfl:i=0:=by omega
  refine sqr (sqp [.m 13 11] ?_)
  refine sql (.pointer (some ((ad SA).add (0*7)))) hst6 (fun cx=>run_indexSlM (e:=116) (m:=0) (sz:=7) rfl (by kernel_rfl) (by kernel_rfl) (cx.ou 9) (cx.ou 11) (by omega) (by omega) (hN.ext cx.upd.to_ext) (flatPos (sz:=7) (fun _=>rfl) (by decide) (by first | omega | decide))) ?_
  refine sql (.agg #[vi pg,vi 0,vi (-1), .string ((⟨#[]⟩:ByteArray)), .bool false, .slice EA n ec,vi fr]) hst6 (fun cx=>run_loadElt (f:=(ny1 pg fr EA ec n)) (m:=0) (sz:=7) (off:=0) (n:=7) rfl (by kernel_rfl) (by kernel_rfl) (cx.ou 14) rfl (fun _=>rfl) (hN.ext cx.upd.to_ext) rfl (fun k hk=>match k,hk with | 0, _=>rfl | 1, _=>rfl | 2, _=>rfl | 3, _=>rfl | 4, _=>rfl | 5, _=>rfl | 6, _=>rfl | k+7,hk=>absurd hk (by omega))) ?_
  refine sqal #[vi 0,vi 0,vi 0, .string ByteArray.empty, .bool false, .slice none 0 0,vi 0] hst6 fun B7_12 W12 hst12=>?_
  refine sqp [.m 6 13] ?_
  refine sqst (n:=7) 0 #[vi pg,vi 0,vi (-1), .string ((⟨#[]⟩:ByteArray)), .bool false, .slice EA n ec,vi fr] hst12 fun W14 hst14=>?_
  refine then_normal (wp_seq (sqr ?_))
  have hd20:((0:Int)==0)=true:=rfl
  refine sqp [.m 16 6, .m 17 0, .k 18 (vi 1), .k 19 (vi 0), .e 20 (.bool ((0:Int)==0)) (.bool true) (congrArg Value.bool hd20), .k 8 (.bool true)] ?_
  refine then_normal (wp_seq (wp_block (wp_seq (wp_seq (sqr (sqp [.k 22 (.pointer (some ⟨B7_12,4,none⟩))] ?_))))))
  refine sqld 0 hst14 ?_
  refine sqp [.k 21 (.bool false)] ?_
  refine then_normal (wcf rfl (wp_seq (sqr (sqp [.k 24 (.pointer (some ⟨B7_12,5,none⟩))] ?_))))
  refine sqld 0 hst14 ?_
  have hd29:(decide (8 < (n:Int)))=false:=(decide_eq_false (by omega))
  refine sqp [.k 26 (vi ((n:Int))), .e 27 (.bool (decide (8 < (n:Int)))) (.bool false) (congrArg Value.bool hd29), .k 21 (.bool false)] ?_
  refine then_normal (wcf rfl (wp_seq (sqr (sqp [.k 28 (.bool true), .k 29 (.pointer (some ⟨B7_12,3,none⟩))] ?_))))
  refine sqld 0 hst14 ?_
  have hd35:(((⟨#[]⟩:ByteArray)).toList==((⟨#[]⟩:ByteArray)).toList)=true:=beq_self_eq_true _
  have hd37:(!(true==true))=false:=rfl
  refine sqp [.e 31 (.bool (((⟨#[]⟩:ByteArray)).toList==((⟨#[]⟩:ByteArray)).toList)) (.bool true) (congrArg Value.bool hd35)] ?_
  refine sqv (.bool false) hst14 (by
    exact sv0 rfl rfl rfl rfl rfl (fun _ _ _ h=>h.trans (congrArg Value.bool hd37)) fun ρ β W X cx=>by
     have fF28:ρ (.tmp 28)= .bool true:=(cx.ou 28)
     have fF31:ρ (.tmp 31)= .bool true:=(cx.ou 31)
     simp [go_sem,fF28,fF31]) fun W36 hst36=>?_
  refine sqp [.k 21 (.bool false)] ?_
  refine then_normal (wcf rfl (wp_seq (sqr (sqp [.k 33 (.bool true), .k 34 (.pointer (some ⟨B7_12,2,none⟩))] ?_))))
  refine sqld 0 hst36 ?_
  refine sqp [.k 36 (.bool true)] ?_
  refine sqv (.bool false) hst36 (by
    exact sv0 rfl rfl rfl rfl rfl (fun _ _ _ h=>h.trans (congrArg Value.bool hd37)) fun ρ β W X cx=>by
     have fF33:ρ (.tmp 33)= .bool true:=(cx.ou 33)
     have fF36:ρ (.tmp 36)= .bool true:=(cx.ou 36)
     simp [go_sem,fF33,fF36]) fun W43 hst43=>?_
  refine sqp [.k 21 (.bool false)] ?_
  refine then_normal (wcf rfl (sqr ?_))
  refine sqlb 0 7 hst43 ?_
  refine sqp [.m 39 5] ?_
  refine sqk (.bool true) hst43 (fun cx=>⟨_,ksorted_1 pg fr EA ec n es _ (hE.ext cx.upd.to_ext) hn hn1,(map2 (cx.ou 38) (cx.ou 39))⟩) fun W47 hst47=>?_
  refine sqp [.k 41 (.bool false), .k 21 (.bool false)] ?_
  refine then_normal (wcf rfl (wp_seq (wp_region_Z [0,1,3,7,15,15,63,127,255,511,1023,2047,4095,8191,16383,32767,65535,4095,135167,397311,921599,2097151,4194303,8388607,16777215,33554431] [[],[0]] [.k 43 (.pointer (some ⟨B7_12,1,none⟩)), .c 44 (vi 0), .k 45 (.bool false), .k 46 (.bool false), .u 47, .u 48, .u 49, .u 50, .u 51, .u 52, .u 53, .u 54, .u 55, .u 56, .u 57, .u 58, .u 59, .u 60, .u 61, .u 62, .u 63, .u 64, .u 65, .u 66, .k 67 (.bool false), .k 42 (.bool false)] [0] [1] [(42,25,1,43),(0,0,25,25)] hst47 ?_ fun W50 hst50=>?_)))
  ·refine ⟨?_,trivial⟩
   ·exact xs4 rfl id fun cx=>run_load1 rfl (by kernel_rfl) (cx.an 0) ((cx.bi 0 rfl).cell 1)
  refine then_normal (wcf rfl (wp_seq (sqr (sqp [.m 69 5, .e 70 (.bool (!(((⟨#[]⟩:ByteArray)).toList==((⟨#[]⟩:ByteArray)).toList))) (.bool false) (congrArg Value.bool (by rw [hd35]; rfl)), .k 71 (.bool false)] ?_))))
  refine sqgn 71 [72,73,74] rfl rfl ?_
  refine sqp [.k 75 (.bool false), .k 76 (.bool false)] ?_
  refine sqgn 76 [77,78,79,80] rfl rfl ?_
  refine sqp [.k 81 (.bool false), .k 68 (.bool false)] ?_
  refine then_normal (wcf rfl (wp_skip (blk_normal (then_normal (sqr (sqp [.k 82 (.pointer (some ⟨B7_12,3,none⟩))] ?_))))))
  refine sqld 0 hst50 ?_
  refine sqp [.m 5 83] ?_
  refine blk_normal (then_normal (sqr (sqp [sI 84 ((0:Int)+1) (by omega), .m 11 84] ?_)))
  refine then_normal ?_
  refine ⟨1 - 1,by omega,?_⟩
  exact ⟨1,by omega,rfl,(by kernel_rfl),hst50.pk []⟩
 refine wp_exit (then_exit (then_exit (blk_eq (then_normal (wp_seq (sqr (sqp [.m 85 0, .k 86 (vi 1), .k 87 (.bool true), .k 88 (.bool true)] ?_)))))))
 refine sqgy 88 [89,90,91] rfl rfl ?_
 refine sqp [.m 89 0, .k 90 (vi 1), .k 91 (.bool true)] ?_
 refine sqp [.k 92 (.bool true), .k 4 (.bool true)] ?_
 refine then_normal (wp_ret ?_)
 refine bpr (.bool true) (results_1 Try.results73 rpt) ?_
 exact Ret.of rfl hst6.ext
/-- a root without a high key or a right neighbour, at most one entry -/
def Node1 (nd:NoD):Prop:=nd.lv=0∧nd.right= -1∧nd.high=⟨#[]⟩∧nd.dead=false∧nd.es.length≤1
theorem kright_co {SA:Option Addr} {sc:Nat} {nd:NoD} {pg:Int} {fp:List Nat} {w:World} (h:(eCo SA nd pg fp).holds w) (h1:Node1 nd):Calls Try.prog 73 #[.slice SA 1 sc, .slice none 0 0] w (Ret (.bool true) w):=by
 obtain ⟨EA,ec, _, _,hS,hE⟩:=h
 obtain ⟨lv,rt,hg,dd,es,fr⟩:=nd
 obtain ⟨rfl,rfl,rfl,rfl,h5⟩:=h1
 exact kright_1 pg fr EA SA ec sc _ es w hE rfl h5 hS
theorem ndAt_neg (ps:List PgS):ndAt ps (-1)=none:=by rw [ndAt,if_neg (by omega)]
theorem kcheck_1 (tt:TypeId) (tv:Value) (root:Int) (ps:List PgS) (nd:NoD) (w:World) (hS:PgsOk w tt tv ps) (hok:OkS ps) (hoc:OkC ps) (hnd:ndAt ps root=some nd) (h1:Node1 nd):
  Calls Try.prog 37 #[.iface tt (tv), .int .i64 root] w (Ret (.int .i64 0) w):=by
 have hlv0:nd.lv=0:=h1.1
 go_enter Try.func37,Try.ntmps37
 have hst0:=St.start w
 refine wp_seq (sqr (sqp [.k 4 (vi 0)] ?_))
 refine then_normal (wp_seq (sqr (sqp [.m 11 0, .m 12 1] ?_)))
 refine sqk2 (fun EA13_4 ec13_4=> .tuple #[.agg #[vi root,vi nd.lv,vi nd.right, .string nd.high, .bool nd.dead, .slice EA13_4 nd.es.length ec13_4,vi ((nd.free:Int))], .bool true]) (fun EA13_4 ec13_4=>eO 104 3 (.slice EA13_4 nd.es.length ec13_4) nd.es.length (nd.es.flatMap enC)) hst0 (fun cx=>⟨_,(kd_yes hnd (kat_any _ _ ps root _ (hS.ext cx.upd.to_ext) hok hoc)).mono (by rintro e W1 ⟨EA4,ec4,rfl,hs4⟩; exact ⟨_, _,rfl,hs4⟩),(map2 (cx.ou 11) (cx.ou 12))⟩) fun EA13_4 ec13_4 W4 hst4=>?_
 refine sqp [.m 10 13, .k 14 (.agg #[vi root,vi nd.lv,vi nd.right, .string nd.high, .bool nd.dead, .slice EA13_4 nd.es.length ec13_4,vi ((nd.free:Int))]), .k 15 (.bool true)] ?_
 refine sqal #[vi 0,vi 0,vi 0, .string ByteArray.empty, .bool false, .slice none 0 0,vi 0] hst4 fun B5_8 W8 hst8=>?_
 refine sqst (n:=7) 1 #[vi root,vi nd.lv,vi nd.right, .string nd.high, .bool nd.dead, .slice EA13_4 nd.es.length ec13_4,vi ((nd.free:Int))] hst8 fun W9 hst9=>?_
 refine sqp [.k 6 (.bool true)] ?_
 refine then_normal (wp_seq (wp_seq (sqr (sqp [.k 16 (.bool true), .k 17 (.bool false)] ?_))))
 refine then_normal (wcf rfl (wp_skip (then_normal (wp_seq (sqr (sqp [.k 7 (.slice none 0 0)] ?_))))))
 refine then_normal (wp_seq (wp_seq (sqr (sqp [.k 18 (.pointer (some ⟨B5_8,1,none⟩))] ?_))))
 refine sqld 1 hst9 ?_
 refine sqp [sI 20 (nd.lv+1) (by omega), .k 21 (vi 0)] ?_
 refine then_normal (wp_block ?_)
 obtain ⟨z18_,hN_z18_⟩:∃ z,nd.lv+1=z:=⟨_,rfl⟩
 rw [hN_z18_]
 obtain rfl:z18_=(1:Int):=by have:=h1.1; omega
 refine wp_loopT (fun t_ mz az W=>∃ k:Nat,∃ BA:Option Addr,∃ bn:Nat,∃ bc:Nat,k≤1∧(k=0→BA=none∧bn=0∧bc=0)∧mz=1 - k∧az=⟨(ovr (jv az) [(4,4,1,[]),(2,7,0,[.slice BA bn bc]),(0,8,2,[]),(11,21,0,[vi ((k:Int))]),(0,22,33,[])] t_).toArray,[]⟩∧St w [] [eB B5_8 116 #[vi root,vi nd.lv,vi nd.right, .string nd.high, .bool nd.dead, .slice EA13_4 nd.es.length ec13_4,vi ((nd.free:Int))]] W) (1 - 0) ?_ ?_
 · -- the loop begins
   exact ⟨0,none,0,0,Nat.zero_le _,(fun _=>⟨rfl,rfl,rfl⟩),rfl,(by kernel_rfl),hst9.pk [1]⟩
 rintro n19 a19 W19 ⟨k,BA,bn,bc,hk,hb,rfl,hj_,hst19⟩
 refine ovz hj_ fun u19_=>?_
 refine wp_seq (sqr (sqp [.k 22 (.bool (decide ((k:Int) < (1:Int))))] ?_))
 refine then_normal (wp_seq (wds (fun hs21 hs21p=>?_) fun hs21 hs21p=>?_))
 ·refine wp_skip (then_normal (wp_seq (wp_block (wp_seq ?_))))
  obtain rfl:k=0:=by omega
  obtain ⟨rfl,rfl,rfl⟩:=hb rfl
  refine sqr (sqp [.m 23 21, .m 8 23] ?_)
  refine then_normal (wp_seq (wp_region_Y [0,0,0,7,15,31] [[],[],[],[],[1,2,3]] [[],[],[],[1,2,3],[4]] [] [.k 24 (.iface tt (tv)), .k 25 (vi root), .k 26 (vi ((0:Int))), .a 27, .a 28, .a 9] (fun ix σ β X=>match ix with | 0=>True | 1=>True | 2=>True | 3=>σ 27= .func (.func 99) #[] #[vp (pcp 0 (β 27)),vp (pcp 1 (β 27)),vp (pcp 2 (β 27))]∧X 1=eB (pcp 0 (β 27)) 113 #[.iface tt (tv)]∧X 2=eB (pcp 1 (β 27)) 3 #[vi root]∧X 3=eB (pcp 2 (β 27)) 3 #[vi ((0:Int))] | 4=>σ 28= .slice (sA (β 28)) 1 (sC (β 28))∧X 4=eCo (sA (β 28)) nd root ((X 4).fp) | 5=>σ 9= .slice (sA (β 28)) 1 (sC (β 28)) | _=>True) [0,1,2,3,4] [3,4,5] [(9,5,1,10),(14,0,5,19)] hst19 ?_ ?_ ?_))
  ·exact fun ix _ _ _ _ _ _ hs hb hx h=>match ix,h with
   | 3,h=>by dsimp only; rw [← hs 27 rfl,← hb 27 rfl,← hx 1 rfl,← hx 2 rfl,← hx 3 rfl]; exact h
   | 4,h=>by dsimp only; rw [← hs 28 rfl,← hb 28 rfl,← hx 4 rfl]; exact h
   | 5,h=>by dsimp only; rw [← hs 9 rfl,← hb 28 rfl]; exact h
   | 0, _ | 1, _ | 2, _ | _+6, _=>trivial
  ·refine ⟨?_,?_,?_,trivial⟩
   ·refine svA fun ρ β W X cx=>?_
    refine DoesU.call (run_callF (args:=#[.iface tt (tv),vi root,vi ((0:Int))]) rfl cx.sees rfl (by kernel_rfl) (map3 (cx.an 0) (cx.an 1) (cx.an 2))) ?_
    refine (krowc_any tt tv root (0:Int) _).mono ?_
    rintro e W1 ⟨B4,B5,B6,rfl,hs4⟩
    refine ⟨_,rfl,post_st [eB B4 113 #[.iface tt (tv)],eB B5 3 #[vi root],eB B6 3 #[vi ((0:Int))]] rfl rfl hs4 (fun σ β' X' hs hb hv hN=>?_)⟩
    have hv1:=(hv 27 rfl).1; have hv2:=(hv 27 rfl).2
    exact ⟨hv1.trans (by rw [hv2]; rfl),(by rw [hv2]; exact (List.cons.inj hN).1),(by rw [hv2]; exact (List.cons.inj (List.cons.inj hN).2).1),(by rw [hv2]; exact (List.cons.inj (List.cons.inj (List.cons.inj hN).2).2).1)⟩
   ·refine svA fun ρ β W X cx=>?_
    refine DoesU.call (run_callF (args:=#[.func (.func 99) #[] #[vp (pcp 0 (β 27)),vp (pcp 1 (β 27)),vp (pcp 2 (β 27))]]) rfl cx.sees rfl (by kernel_rfl) (map1 (dTn (cx.an 3)).1)) ?_
    refine (kcol_any _ _ _ root nd _ (krow_seq (cx.blk (dTn (cx.an 3)).2.1 rfl) (cx.blk (dTn (cx.an 3)).2.2.1 rfl) (cx.blk (dTn (cx.an 3)).2.2.2 rfl) (hS.ext cx.upd.to_ext) hok hoc hnd h1.1 (by rw [h1.2.1]; exact ndAt_neg ps))).mono ?_
    rintro e W1 ⟨A4,c4,fp4,rfl,hs4⟩
    refine ⟨_,rfl,post_st [eCo A4 nd root fp4] rfl rfl hs4 (fun σ β' X' hs hb hv hN=>?_)⟩
    have hv1:=(hv 28 rfl).1; have hv2:=(hv 28 rfl).2
    exact ⟨hv1.trans (by rw [hv2]; rfl),(by rw [hv2]; exact eCo_self ((List.cons.inj hN).1))⟩
   ·exact sv rfl rfl rfl rfl rfl _ (fun _ _ _ h=>h) (fun β β' h=>by rw [h 28 (by decide)]) fun ρ β W X cx=>run_assign' rfl (dTn (cx.an 4)).1
  intro σ β X W24 hD hst24 fr hfr
  obtain ⟨B27a_24,hu_B27a_24⟩:∃ z,pcp 0 (β 27)=z:=⟨_,rfl⟩
  obtain ⟨B27b_24,hu_B27b_24⟩:∃ z,pcp 1 (β 27)=z:=⟨_,rfl⟩
  obtain ⟨B27c_24,hu_B27c_24⟩:∃ z,pcp 2 (β 27)=z:=⟨_,rfl⟩
  obtain ⟨A28_24,hu_A28_24⟩:∃ z,sA (β 28)=z:=⟨_,rfl⟩
  obtain ⟨c28_24,hu_c28_24⟩:∃ z,sC (β 28)=z:=⟨_,rfl⟩
  have xX4:X 4= _:=(dTn (hD 4 lq)).2
  obtain ⟨r4_24,hu_r4_24⟩:∃ z,(X 4).fp=z:=⟨_,rfl⟩
  rw [hu_r4_24] at xX4
  clear hu_r4_24
  simp only [exq 1 ((dTn (hD 3 lq)).2.1),exq 2 ((dTn (hD 3 lq)).2.2.1),exq 3 ((dTn (hD 3 lq)).2.2.2),xX4,hu_B27a_24,hu_B27b_24,hu_B27c_24,hu_A28_24,hu_c28_24] at hst24
  simp only [ed 27 ((dTn (hD 3 lq)).1),ed 28 ((dTn (hD 4 lq)).1),ed 9 ((dTn (hD 5 lq))),hu_B27a_24,hu_B27b_24,hu_B27c_24,hu_A28_24,hu_c28_24] at hfr
  clear hD xX4 hu_B27a_24 hu_B27b_24 hu_B27c_24 hu_A28_24 hu_c28_24; subst hfr; clear σ β X
  refine then_normal (wp_seq (wp_seq (sqr (sqp [.m 29 8, .k 30 (.pointer (some ⟨B5_8,1,none⟩))] ?_))))
  refine sqld 0 hst24 ?_
  have hd29:((0:Int)==nd.lv)=true:=(by rw [h1.1]; rfl)
  refine sqp [.e 32 (.bool ((0:Int)==nd.lv)) (.bool true) (congrArg Value.bool hd29), .k 33 (.bool true)] ?_
  refine sqgy 33 [34,35,36] rfl rfl ?_
  refine sqp [.m 34 9, .k 35 (vi 1), .k 36 (.bool false)] ?_
  refine sqp [.k 37 (.bool false), .k 38 (.bool false)] ?_
  refine sqgy 38 [39,40,41,42,43,44,45] rfl rfl ?_
  have hd38:(decide (0 < (0:Int)))=false:=rfl
  refine sqp [.m 39 8, .e 40 (.bool (decide (0 < (0:Int)))) (.bool false) (congrArg Value.bool hd38), .k 41 (.bool false)] ?_
  refine sqgn 41 [42,43,44] rfl rfl ?_
  refine sqp [.k 45 (.bool false)] ?_
  refine sqp [.k 46 (.bool false), .k 47 (.bool false)] ?_
  refine sqgy 47 [48,49,50,51] rfl rfl ?_
  refine sqp [.m 48 9, .m 49 7] ?_
  refine sqk (.bool true) hst24 (fun cx=>⟨_,kright_co (CtxV.holdF cx (cx.init 4 _ rfl) rfl) h1,(map2 (cx.ou 48) (cx.ou 49))⟩) fun W45 hst45=>?_
  refine sqp [.k 51 (.bool false)] ?_
  refine sqp [.k 52 (.bool false)] ?_
  refine then_normal (wcf rfl (wp_skip (then_normal (sqr (sqp [.m 53 9, .m 7 53] ?_)))))
  refine blk_normal (then_normal (sqr (sqp [sI 54 ((0:Int)+1) (by omega), .m 21 54] ?_)))
  refine then_normal ?_
  refine ⟨1 - 1,by omega,?_⟩
  exact ⟨1,A28_24,1,c28_24,by omega,(fun h=>absurd h (by decide)),rfl,(by kernel_rfl),hst45.pk [0]⟩
 refine wp_exit (then_exit (then_exit (blk_eq (then_normal (wp_seq (sqr (sqp [.k 4 (vi 0)] ?_)))))))
 refine then_normal (wp_ret ?_)
 refine bpr (vi 0) (results_1 Try.results37 rpt) ?_
 exact Ret.of rfl hst19.ext
end
section
open Go.RowKit
/-- nodes collected, each with its entries -/
def eCL (SA:Option Addr) (L:List (Int×NoD)) (fp:List Nat):Ent:=⟨fp,fun W=>∃ xs:List YnD,xs.map pgN=L∧(∀ ad,SA=some ad→ad.block∈fp)∧At W SA (xs.flatMap ynC)∧∀ y∈xs,(∀ ad,y.2.2.1=some ad→ad.block∈fp)∧At W y.2.2.1 (y.1.es.flatMap enC)⟩
theorem eCL_self {e:Ent} {SA:Option Addr} {L:List (Int×NoD)} {fp:List Nat} (h:e=eCL SA L fp):e=eCL SA L e.fp:=by subst h; rfl
theorem eCL_loc (SA:Option Addr) (L:List (Int×NoD)) (fp:List Nat):(eCL SA L fp).loc:=fun W W' hk h=>by
 obtain ⟨xs,h1,h2,h3,h4⟩:=h
 exact ⟨xs,h1,h2,at_blocks h3 fun ad e _=>hk _ (h2 ad e),fun y hy=>⟨(h4 y hy).1,at_blocks (h4 y hy).2 fun ad e _=>hk _ ((h4 y hy).1 ad e)⟩⟩
def CgPost (L:List (Int×NoD)) (w:World) (e:Ending) (w':World):Prop:=∃ SA sc fp,e= .returned (.slice SA L.length sc)∧St w [] [eCL SA L fp] w'
theorem cg_done {w W:World} {SA:Option Addr} {sc n:Nat} {L:List (Int×NoD)} {xs:List YnD} {E:Ent} (hz:YnZ L true xs E) (h:St w [] [eO 116 7 (.slice SA n sc) n (xs.flatMap ynC),E] W) (hn:n=xs.length):CgPost L w (.returned (.slice SA n sc)) W:=by
 obtain ⟨hE,hL, _⟩:=hz
 have hL:=hL rfl
 subst hn hL
 have h1:=h.ok (eO 116 7 (.slice SA xs.length sc) xs.length (xs.flatMap ynC)) (by simp)
 have h2:=h.ok E (by simp)
 have hO:W.ownsRow 0 116 7 (.slice SA xs.length sc) xs.length (xs.flatMap ynC):=h1.holds
 have hR:(eYs xs E.fp).holds W:=by rw [← hE]; exact h2.holds
 refine ⟨SA,sc,(Value.ownBlock (.slice SA xs.length sc)).toList++E.fp,by rw [List.length_map],h.upd,fun x hx=>?_,List.pairwise_singleton _ _⟩
 rw [List.mem_singleton] at hx
 subst hx
 refine ⟨⟨xs,rfl,fun ad e=>List.mem_append_left _ (row_blk hO ad e),At.of_ownN hO,fun y hy=>⟨fun ad e=>List.mem_append_right _ ((hR y hy).1 ad e),(hR y hy).2⟩⟩,eCL_loc _ _ _,fun k hk=>?_⟩
 rcases List.mem_append.1 hk with hk | hk
 ·exact h1.own k hk
 ·exact h2.own k hk
theorem kapp_g (b1 b2 b3:Nat) (L:List (Int×NoD)) (w:World) (Px:YnD→Prop) (Rd:World→Prop) (hseq:SeqG Try.prog 99 #[.pointer (some ⟨b1,0,none⟩), .pointer (some ⟨b2,0,none⟩), .pointer (some ⟨b3,0,none⟩)] ynE ynR Px 1000 (YnZ L) Rd) (hRd:∀ A,Ext w A→Rd A):
  Calls Try.prog 98 #[.slice none 0 0, .func (.func 99) #[] #[.pointer (some ⟨b1,0,none⟩), .pointer (some ⟨b2,0,none⟩), .pointer (some ⟨b3,0,none⟩)]] w (CgPost L w):=by
 refine (callsIn_wide (n:=3)).1 (callsIn_of_wp_marks Try.func98 rfl trivial (wpIn_wide.2 ?_) rfl)
 simp only [Try.ntmps98,List.size_toArray,List.length_cons,List.length_nil,Nat.reduceAdd,Nat.reduceSub,Array.replicate_succ,Array.replicate_zero,List.push_toArray,List.append_toArray,List.nil_append,List.cons_append]
 have hst0:=St.start w
 refine wp_seq (wp_region_Y [0,0] [] [[0]] [] [.a 2, .k 4 (.slice none 0 0)] (fun ix σ β X=>match ix with | 0=>σ 2=vp (pb (β 2))∧X 0=eB (pb (β 2)) 146 #[.slice none 0 0] | _=>True) [0] [0] [(2,0,1,3),(1,1,1,2)] hst0 ?_ ?_ ?_)
 ·exact fun ix _ _ _ _ _ _ hs hb hx h=>match ix,h with
  | 0,h=>by dsimp only; rw [← hs 2 rfl,← hb 2 rfl,← hx 0 rfl]; exact h
  | _+1, _=>trivial
 ·refine ⟨?_,trivial⟩
  ·refine svA fun ρ β W X cx=>?_
   exact dv_box (cs:=#[.slice none 0 0]) rfl (cx.ou 0) rfl rfl rfl (fun σ β' X' hs hb hv hx=>⟨hv,hx⟩)
 intro σ β X W1 hD hst1 fr hfr
 obtain ⟨B2_1,hu_B2_1⟩:∃ z,pb (β 2)=z:=⟨_,rfl⟩
 simp only [exq 0 ((dTn (hD 0 lq)).2),hu_B2_1] at hst1
 simp only [ed 2 ((dTn (hD 0 lq)).1),hu_B2_1] at hfr
 clear hD hu_B2_1; subst hfr; clear σ β X
 refine then_normal (wp_seq (wp_seq (wp_region_P [0] [.k 6 (.func (.func 99) #[] #[vp b1,vp b2,vp b3])] [(6,0,1,7)] hst1 fun W2 hst2=>?_)))
 refine then_normal (wp_block ?_)
 have hn3:=nilrowN hst2 116 7
 simp only [List.cons_append,List.nil_append] at hn3
 have hp5:=hn3.pick [0,1] (by decide) rfl
 refine wp_rangeSG (α:=YnD) hp5 rfl (enters_of Try.func99 (by kernel_rfl) rfl) (encs:=ynE) (Ex:=ynR) (N:=1000) (Z:=YnZ L) (hseq) (fun A hA=>hRd A (Upd.to_ext (hp5.upd.join hA fun i hi=>(hp5.fps_own hi).1))) (fun _=>rfl) (fun bb pre L=>cond bb (∃ SA:Option Addr,∃ n:Nat,∃ sc:Nat,n=pre.length∧L=[eB B2_1 146 #[.slice SA n sc],eO 116 7 (.slice SA n sc) n (pre.flatMap ynC)]) (False)) ⟨none,0,0,rfl,rfl⟩ (fun xx a_ E_=>∃ BV:Nat,a_=⟨([.slice none 0 0, .func (.func 99) #[] #[vp b1,vp b2,vp b3],vp B2_1,undef, .slice none 0 0,vp BV, .func (.func 99) #[] #[vp b1,vp b2,vp b3], .agg #[vi xx.2.1,vi xx.1.lv,vi xx.1.right, .string xx.1.high, .bool xx.1.dead, .slice xx.2.2.1 xx.1.es.length xx.2.2.2,vi ((xx.1.free:Int))],undef,undef,undef,undef,undef]).toArray,[]⟩∧E_=eB BV 116 #[vi xx.2.1,vi xx.1.lv,vi xx.1.right, .string xx.1.high, .bool xx.1.dead, .slice xx.2.2.1 xx.1.es.length xx.2.2.2,vi ((xx.1.free:Int))]) (fun xx=>[.slice none 0 0, .func (.func 99) #[] #[vp b1,vp b2,vp b3],vp B2_1,undef, .slice none 0 0,undef, .func (.func 99) #[] #[vp b1,vp b2,vp b3], .agg #[vi xx.2.1,vi xx.1.lv,vi xx.1.right, .string xx.1.high, .bool xx.1.dead, .slice xx.2.2.1 xx.1.es.length xx.2.2.2,vi ((xx.1.free:Int))],undef,undef,undef,undef,undef]) (fun xx=>by kernel_rfl) ?_ ?_ ?_ ?_
 ·intro rl xx W4 K hK
  have hst4:=St.start W4
  refine wpIn_region_Y [0,1] [[],[0]] [[0],[1]] [[],[0]] [.a 5, .n] (fun ix σ β X=>match ix with | 0=>σ 5=vp (pb (β 5))∧X 0=eB (pb (β 5)) 116 #[vi 0,vi 0,vi 0, .string ByteArray.empty, .bool false, .slice none 0 0,vi 0] | 1=>X 1=eB (pb (β 5)) 116 #[vi xx.2.1,vi xx.1.lv,vi xx.1.right, .string xx.1.high, .bool xx.1.dead, .slice xx.2.2.1 xx.1.es.length xx.2.2.2,vi ((xx.1.free:Int))] | _=>True) [1] [0,1] [(5,0,1,6)] hst4 ?_ ?_ ?_
  ·exact fun ix _ _ _ _ _ _ hs hb hx h=>match ix,h with
   | 0,h=>by dsimp only; rw [← hs 5 rfl,← hb 5 rfl,← hx 0 rfl]; exact h
   | 1,h=>by dsimp only; rw [← hb 5 rfl,← hx 1 rfl]; exact h
   | _+2, _=>trivial
  ·refine ⟨?_,?_,trivial⟩
   ·refine svA fun ρ β W X cx=>?_
    exact dv_alloc (cs:=#[vi 0,vi 0,vi 0, .string ByteArray.empty, .bool false, .slice none 0 0,vi 0]) rfl (by kernel_rfl) rfl rfl (fun σ β' X' hs hb hv hx=>⟨hv,hx⟩)
   ·refine svA fun ρ β W X cx=>?_
    exact dv_store (n:=7) rfl (dTn (cx.an 0)).1 (cx.ou 7) (by kernel_rfl) (by kernel_rfl) (by kernel_rfl) cx (dTn (cx.an 0)).2 rfl (nle rfl) (by kernel_rfl) rfl rfl rfl (fun σ β' X' hs hb hx=>by rw [hb 5]; exact hx)
  intro σ β X W6 hD hst6 fr hfr
  obtain ⟨B5_6,hu_B5_6⟩:∃ z,pb (β 5)=z:=⟨_,rfl⟩
  simp only [exq 1 ((dTn (hD 1 lq))),hu_B5_6] at hst6
  simp only [ed 5 ((dTn (hD 0 lq)).1),hu_B5_6] at hfr
  clear hD hu_B5_6; subst hfr; clear σ β X
  exact hK _ _ _ ⟨_,rfl,rfl⟩ (hst6.pick [0] (by decide) rfl)
 ·rintro rl pre xx W7 L7 a7 E7 ⟨SA,n,sc,hn,rfl⟩ hlen7 hPx7 ⟨BV,rfl,rfl⟩ hst7r
  have hst7:St W7 (fps ([eB B2_1 146 #[.slice SA n sc],eO 116 7 (.slice SA n sc) n (pre.flatMap ynC)]++[eO 104 3 (.slice xx.2.2.1 xx.1.es.length xx.2.2.2) xx.1.es.length (xx.1.es.flatMap enC),eB BV 116 #[vi xx.2.1,vi xx.1.lv,vi xx.1.right, .string xx.1.high, .bool xx.1.dead, .slice xx.2.2.1 xx.1.es.length xx.2.2.2,vi ((xx.1.free:Int))]])) [eB B2_1 146 #[.slice SA n sc],eO 116 7 (.slice SA n sc) n (pre.flatMap ynC),eO 104 3 (.slice xx.2.2.1 xx.1.es.length xx.2.2.2) xx.1.es.length (xx.1.es.flatMap enC),eB BV 116 #[vi xx.2.1,vi xx.1.lv,vi xx.1.right, .string xx.1.high, .bool xx.1.dead, .slice xx.2.2.1 xx.1.es.length xx.2.2.2,vi ((xx.1.free:Int))]] W7:=hst7r
  clear hst7r
  refine wpIn_block (wpIn_region_Y [0,0,2,7,15] [[0],[3],[],[4,1],[0]] [[],[],[4],[5],[6]] [[],[],[],[1],[0]] [.c 8 (.slice SA n sc), .c 9 (.agg #[vi xx.2.1,vi xx.1.lv,vi xx.1.right, .string xx.1.high, .bool xx.1.dead, .slice xx.2.2.1 xx.1.es.length xx.2.2.2,vi ((xx.1.free:Int))]), .a 10, .a 11, .n] (fun ix σ β X=>match ix with | 0=>True | 1=>True | 2=>σ 10= .slice ((some ⟨(pb' (β 10)),0,none⟩)) 1 1∧X 4=eO 116 7 (.slice ((some ⟨(pb' (β 10)),0,none⟩)) 1 1) 1 (ynC xx) | 3=>σ 11= .slice (sA (β 11)) (n+1) (sC (β 11))∧X 5=eO 116 7 (.slice (sA (β 11)) (n+1) (sC (β 11))) (n+1) ((pre++[xx]).flatMap ynC) | 4=>X 6=eB B2_1 146 #[.slice (sA (β 11)) (n+1) (sC (β 11))] | _=>True) [2,3,4,5,6] [0,1,2,3,4] [(8,0,4,12)] hst7 ?_ ?_ ?_)
  ·exact fun ix _ _ _ _ _ _ hs hb hx h=>match ix,h with
   | 2,h=>by dsimp only; rw [← hs 10 rfl,← hb 10 rfl,← hx 4 rfl]; exact h
   | 3,h=>by dsimp only; rw [← hs 11 rfl,← hb 11 rfl,← hx 5 rfl]; exact h
   | 4,h=>by dsimp only; rw [← hb 11 rfl,← hx 6 rfl]; exact h
   | 0, _ | 1, _ | _+5, _=>trivial
  ·refine ⟨?_,?_,?_,?_,?_,trivial⟩
   ·exact xs4 rfl id fun cx=>run_load1 rfl (by kernel_rfl) (cx.ou 2) ((cx.bi 0 rfl).cell 0)
   ·exact xs4 rfl id fun cx=>run_loadB (n:=7) rfl (by kernel_rfl) (by kernel_rfl) (cx.ou 5) (cx.bi 3 rfl) (nle rfl) rfl
   ·refine svA fun ρ β W X cx=>?_
    have fF9:ρ (.tmp 9)= .agg #[vi xx.2.1,vi xx.1.lv,vi xx.1.right, .string xx.1.high, .bool xx.1.dead, .slice xx.2.2.1 xx.1.es.length xx.2.2.2,vi ((xx.1.free:Int))]:=(cx.an 1)
    exact dv_litN (e:=116) (sz:=7) (xs:=[vi xx.2.1,vi xx.1.lv,vi xx.1.right, .string xx.1.high, .bool xx.1.dead, .slice xx.2.2.1 xx.1.es.length xx.2.2.2,vi ((xx.1.free:Int))]) rfl (by simp [go_sem,fF9]) rfl (by decide) rfl rfl (fun σ β' X' hs hb hv hx=>⟨hv,hx⟩)
   ·refine svA fun ρ β W X cx=>?_
    obtain ⟨i0,hi0,hz0,hz1,hz2⟩:=info_parts Try.infoNd
    refine dv_appendN (n:=n) (m:=1) (nm:=n+1) (sz:=7) (xs:=pre.flatMap ynC) (news:=ynC xx) (xs':=(pre++[xx]).flatMap ynC) rfl (ty:=146) rfl (by kernel_rfl) hi0 hz0 hz1 hz2 rfl (by decide) (cx.an 0) cx (cx.init 1 _ rfl) rfl (dTn (cx.an 2)).1 (by rfl) (At.of_ownN (cx.row (dTn (cx.an 2)).2 rfl)) (by simp [ynC,Value.oneCell']) (by simp only [maxLen]; omega) (by omega) rfl rfl rfl (by omega) (yn_snoc _ _) (fun σ β' X' hs hb hv hx=>?_)
    exact ⟨hv,hx⟩
   ·refine svA fun ρ β W X cx=>?_
    exact dv_store (n:=1) rfl (cx.ou 2) (dTn (cx.an 3)).1 (by kernel_rfl) (by kernel_rfl) (by kernel_rfl) cx (cx.init 0 _ rfl) rfl (nle rfl) (by kernel_rfl) rfl rfl rfl (fun σ β' X' hs hb hx=>by rw [hb 11]; exact hx)
  intro σ β X W8 hD hst8 fr hfr
  obtain ⟨B10_8,hu_B10_8⟩:∃ z,pb' (β 10)=z:=⟨_,rfl⟩
  obtain ⟨A11_8,hu_A11_8⟩:∃ z,sA (β 11)=z:=⟨_,rfl⟩
  obtain ⟨c11_8,hu_c11_8⟩:∃ z,sC (β 11)=z:=⟨_,rfl⟩
  simp only [exq 4 ((dTn (hD 2 lq)).2),exq 5 ((dTn (hD 3 lq)).2),exq 6 ((dTn (hD 4 lq))),hu_B10_8,hu_A11_8,hu_c11_8] at hst8
  simp only [ed 10 ((dTn (hD 2 lq)).1),ed 11 ((dTn (hD 3 lq)).1),hu_B10_8,hu_A11_8,hu_c11_8] at hfr
  clear hD hu_B10_8 hu_A11_8 hu_c11_8; subst hfr; clear σ β X
  refine blk_normal ?_
  exact ⟨true, .inl ⟨rfl,rfl⟩, _,⟨A11_8,(n+1),c11_8,by rw [hn,List.length_append]; rfl,rfl⟩,hst8.pick [4,3,0] (by decide) rfl⟩
 ·rintro D4 W4d L4 XS_ E_ ⟨SA,n,sc,hn,rfl⟩ hZ_ hst4r
  have hst4d:St w [] [eB B2_1 146 #[.slice SA n sc],eO 116 7 (.slice SA n sc) n (XS_.flatMap ynC),E_,eDfr D4] W4d:=hst4r
  clear hst4r
  refine blk_normal (then_normal (wp_seq (wp_region_Z [0,1] [[0]] [.c 12 (.slice SA n sc), .k 4 (.slice SA n sc)] [0,1,2,3] [0] [(4,1,1,5),(7,0,1,8)] hst4d ?_ fun W9 hst9=>?_)))
  ·refine ⟨?_,trivial⟩
   ·exact xs4 rfl id fun cx=>run_load1 rfl (by kernel_rfl) (cx.ou 2) ((cx.bi 0 rfl).cell 0)
  refine then_normal (wp_ret ?_)
  refine bpm_take (L:=[eB B2_1 146 #[.slice SA n sc],eO 116 7 (.slice SA n sc) n (XS_.flatMap ynC),E_]) (hst9.pick [0,1,2,3] (by decide) rfl) fun Wt10 ht10=>?_
  refine ⟨.slice SA n sc,(results_1 Try.results98 rpt),?_⟩
  exact cg_done hZ_ (ht10.pick [1,2] (by decide) rfl) hn
 ·exact fun D W L xs E h=>h.elim
theorem kcol_g (b1 b2 b3:Nat) (L:List (Int×NoD)) (w:World) (Px:YnD→Prop) (Rd:World→Prop) (hseq:SeqG Try.prog 99 #[.pointer (some ⟨b1,0,none⟩), .pointer (some ⟨b2,0,none⟩), .pointer (some ⟨b3,0,none⟩)] ynE ynR Px 1000 (YnZ L) Rd) (hRd:∀ A,Ext w A→Rd A):
  Calls Try.prog 71 #[.func (.func 99) #[] #[.pointer (some ⟨b1,0,none⟩), .pointer (some ⟨b2,0,none⟩), .pointer (some ⟨b3,0,none⟩)]] w (CgPost L w):=by
 go_enter Try.func71,Try.ntmps71
 have hst0:=St.start w
 refine wp_seq (sqr (sqp [.k 2 (.slice none 0 0)] ?_))
 refine then_normal (wp_seq (sqr (sqp [.m 3 0] ?_)))
 refine sqk2s (fun A4_3 c4_3=> .slice A4_3 L.length c4_3) (fun A4_3 c4_3 r0_3=>eCL A4_3 L r0_3) hst0 (fun cx=>⟨_,(kapp_g b1 b2 b3 L _ Px Rd hseq (fun A hA=>hRd A (cx.upd.to_ext.trans hA))).mono (by rintro e W1 ⟨A4,c4,fp4,rfl,hs4⟩; exact ⟨_, _, _,rfl,hs4⟩),(map2 (cx.co _) (cx.ou 3))⟩) fun A4_3 c4_3 r0_3 W3 hst3=>?_
 refine sqp [.m 2 4] ?_
 refine then_normal (wp_ret ?_)
 refine bpr (.slice A4_3 L.length c4_3) (results_1 Try.results71 rpt) ?_
 exact ⟨_, _, _,rfl,hst3.pick [0] (by decide) rfl⟩
end
section
open Go.RowKit
def neB (a:ByteArray):Bool:=!(a.toList==(⟨#[]⟩:ByteArray).toList)
/-- an entry that is not in its place -/
def srS (hi lo:ByteArray) (es:List EnD) (i:Nat):Bool:=(neB lo&&lessF (es.getD i en0).1 lo)||(neB hi&&!(lessF (es.getD i en0).1 hi))||(decide (0 < (i:Int))&&((es.getD i en0).1.toList==(es.getD ((i:Int) - 1).toNat en0).1.toList))
def srF (hi lo:ByteArray) (es:List EnD):Bool:=(List.range es.length).all fun i=>!srS hi lo es i
theorem all_step {p:Nat→Bool} {i:Nat} (h:(List.range i).all p=true) (hp:p i=true):(List.range (i+1)).all p=true:=by
 rw [List.range_succ,List.all_append,h]; simp [hp]
theorem all_fail {p:Nat→Bool} {i n:Nat} (hi:i < n) (hp:p i=false):(List.range n).all p=false:=by
 rw [List.all_eq_false]
 exact ⟨i,List.mem_range.2 hi,by rw [hp]; simp⟩
theorem ksorted_g (pg lv rt fr:Int) (hg:ByteArray) (dd:Bool) (EA:Option Addr) (ec n:Nat) (es:List EnD) (lo:ByteArray) (w:World) (hE:At w EA (es.flatMap enC)) (hn:es.length=n) (hn1:n≤100) (hez:∀ e∈es,e.1.size≤1000000) (hgz:hg.size≤1000000) (hlz:lo.size≤1000000):
  Calls Try.prog 100 #[.agg #[.int .i64 pg, .int .i64 lv, .int .i64 rt, .string hg, .bool dd, .slice EA n ec, .int .i64 fr], .string lo] w (Ret (.bool (srF hg lo es)) w):=by
 go_enter Try.func100,Try.ntmps100
 have hst0:=St.start w
 refine wp_seq (sqr ?_)
 refine sqbx #[vi pg,vi lv,vi rt, .string hg, .bool dd, .slice EA n ec,vi fr] hst0 fun B2_1 W1 hst1=>?_
 refine sqp [.k 4 (.bool false)] ?_
 refine then_normal (wp_seq (wp_seq (sqr (sqp [.k 7 (.pointer (some ⟨B2_1,5,none⟩))] ?_))))
 refine sqld 0 hst1 ?_
 refine sqp [.k 9 (vi ((n:Int))), .k 10 (vi 0)] ?_
 refine then_normal (wp_block ?_)
 refine wp_loopT (fun t_ mz az W=>∃ i:Nat,i≤n∧(List.range i).all (fun i=>!srS hg lo es i)=true∧mz=n - i∧az=⟨(ovr (jv az) [(4,4,3,[]),(3,10,0,[vi ((i:Int))]),(0,11,42,[])] t_).toArray,[]⟩∧St w [] [eB B2_1 116 #[vi pg,vi lv,vi rt, .string hg, .bool dd, .slice EA n ec,vi fr]] W) (n - 0) ?_ ?_
 · -- the loop begins
   exact ⟨0,Nat.zero_le _,rfl,rfl,(by kernel_rfl),hst1.pk [0]⟩
 rintro n7 a7 W7 ⟨i,hi,hall,rfl,hj_,hst7⟩
 refine ovz hj_ fun u7_=>?_
 refine wp_seq (sqr (sqp [.k 11 (.bool (decide ((i:Int) < (n:Int))))] ?_))
 refine then_normal (wp_seq (wds (fun hs9 hs9p=>?_) fun hs9 hs9p=>?_))
 ·refine wp_skip (then_normal (wp_seq (wp_block (wp_seq (sqr (sqp [.m 12 10] ?_))))))
  refine sql (.pointer (some ((ad EA).add (i*3)))) hst7 (fun cx=>run_indexSlM (e:=104) (m:=i) (sz:=3) rfl (by kernel_rfl) (by kernel_rfl) (cx.ou 8) (cx.ou 10) (by omega) (by omega) (hE.ext cx.upd.to_ext) (flatPos (sz:=3) enC_len (by decide) (by omega))) ?_
  refine sql (.agg #[.string ((es.getD i en0).1),vi (((es.getD i en0).2.1:Int)),vi ((es.getD i en0).2.2)]) hst7 (fun cx=>run_loadElt (f:=enC) (m:=i) (sz:=3) (off:=0) (n:=3) rfl (by kernel_rfl) (by kernel_rfl) (cx.ou 13) rfl enC_len (hE.ext cx.upd.to_ext) (en_get (by omega)) (fun k hk=>match k,hk with | 0, _=>rfl | 1, _=>rfl | 2, _=>rfl | k+3,hk=>absurd hk (by omega))) ?_
  refine sqal #[.string ByteArray.empty,vi 0,vi 0] hst7 fun B6_13 W13 hst13=>?_
  refine sqp [.m 5 12] ?_
  refine sqst (n:=3) 1 #[.string ((es.getD i en0).1),vi (((es.getD i en0).2.1:Int)),vi ((es.getD i en0).2.2)] hst13 fun W15 hst15=>?_
  refine then_normal (wp_seq (wp_region_Z [0,1,3,7,15,7,63,127,255,511,1023,2047,4095,8191,16383,8191,40959,131071,262143,524287,1048575,2097151,4194303,8388607,16777215,33554431,67108863,33554431,167772159,33554431,570425343,2046820351,4194303999,8489271295,17179869183,34359738367,68719476735] [[],[],[],[],[1],[],[],[],[],[],[0],[],[],[],[1],[],[0],[],[],[],[],[],[],[],[],[],[1],[],[0]] [.k 15 (.string lo), .k 16 (.bool (!(lo.toList==((⟨#[]⟩:ByteArray)).toList))), .k 17 (.bool (!(lo.toList==((⟨#[]⟩:ByteArray)).toList))), .z 18 (!(lo.toList==((⟨#[]⟩:ByteArray)).toList)) (vp B6_13), .y 19 (!(lo.toList==((⟨#[]⟩:ByteArray)).toList)) (.string ((es.getD i en0).1)), .z 20 (!(lo.toList==((⟨#[]⟩:ByteArray)).toList)) (.string lo), .y 21 (!(lo.toList==((⟨#[]⟩:ByteArray)).toList)) (.bool (lessF ((es.getD i en0).1) lo)),tA 22 (!(lo.toList==((⟨#[]⟩:ByteArray)).toList)) (lessF ((es.getD i en0).1) lo), .k 23 (.bool ((!(lo.toList==((⟨#[]⟩:ByteArray)).toList))&&(lessF ((es.getD i en0).1) lo))), .z 24 (!((!(lo.toList==((⟨#[]⟩:ByteArray)).toList))&&(lessF ((es.getD i en0).1) lo))) (.pointer (some ⟨B2_1,3,none⟩)), .y 25 (!((!(lo.toList==((⟨#[]⟩:ByteArray)).toList))&&(lessF ((es.getD i en0).1) lo))) (.string hg), .y 26 (!((!(lo.toList==((⟨#[]⟩:ByteArray)).toList))&&(lessF ((es.getD i en0).1) lo))) (.bool (!(hg.toList==((⟨#[]⟩:ByteArray)).toList))), .z 27 (!((!(lo.toList==((⟨#[]⟩:ByteArray)).toList))&&(lessF ((es.getD i en0).1) lo))) (.bool (!(hg.toList==((⟨#[]⟩:ByteArray)).toList))), .z 28 ((!((!(lo.toList==((⟨#[]⟩:ByteArray)).toList))&&(lessF ((es.getD i en0).1) lo)))&&(!(hg.toList==((⟨#[]⟩:ByteArray)).toList))) (vp B6_13), .y 29 ((!((!(lo.toList==((⟨#[]⟩:ByteArray)).toList))&&(lessF ((es.getD i en0).1) lo)))&&(!(hg.toList==((⟨#[]⟩:ByteArray)).toList))) (.string ((es.getD i en0).1)), .z 30 ((!((!(lo.toList==((⟨#[]⟩:ByteArray)).toList))&&(lessF ((es.getD i en0).1) lo)))&&(!(hg.toList==((⟨#[]⟩:ByteArray)).toList))) (.pointer (some ⟨B2_1,3,none⟩)), .y 31 ((!((!(lo.toList==((⟨#[]⟩:ByteArray)).toList))&&(lessF ((es.getD i en0).1) lo)))&&(!(hg.toList==((⟨#[]⟩:ByteArray)).toList))) (.string hg), .y 32 ((!((!(lo.toList==((⟨#[]⟩:ByteArray)).toList))&&(lessF ((es.getD i en0).1) lo)))&&(!(hg.toList==((⟨#[]⟩:ByteArray)).toList))) (.bool (lessF ((es.getD i en0).1) hg)), .z 33 ((!((!(lo.toList==((⟨#[]⟩:ByteArray)).toList))&&(lessF ((es.getD i en0).1) lo)))&&(!(hg.toList==((⟨#[]⟩:ByteArray)).toList))) (.bool (!(lessF ((es.getD i en0).1) hg))), .y 34 (!((!(lo.toList==((⟨#[]⟩:ByteArray)).toList))&&(lessF ((es.getD i en0).1) lo))) (.bool ((!(hg.toList==((⟨#[]⟩:ByteArray)).toList))&&(!(lessF ((es.getD i en0).1) hg)))),tO 35 ((!(lo.toList==((⟨#[]⟩:ByteArray)).toList))&&(lessF ((es.getD i en0).1) lo)) ((!(hg.toList==((⟨#[]⟩:ByteArray)).toList))&&(!(lessF ((es.getD i en0).1) hg))), .k 36 (.bool (((!(lo.toList==((⟨#[]⟩:ByteArray)).toList))&&(lessF ((es.getD i en0).1) lo))||((!(hg.toList==((⟨#[]⟩:ByteArray)).toList))&&(!(lessF ((es.getD i en0).1) hg))))), .z 37 (!(((!(lo.toList==((⟨#[]⟩:ByteArray)).toList))&&(lessF ((es.getD i en0).1) lo))||((!(hg.toList==((⟨#[]⟩:ByteArray)).toList))&&(!(lessF ((es.getD i en0).1) hg))))) (vi ((i:Int))), .z 38 (!(((!(lo.toList==((⟨#[]⟩:ByteArray)).toList))&&(lessF ((es.getD i en0).1) lo))||((!(hg.toList==((⟨#[]⟩:ByteArray)).toList))&&(!(lessF ((es.getD i en0).1) hg))))) (.bool (decide (0 < (i:Int)))), .z 39 (!(((!(lo.toList==((⟨#[]⟩:ByteArray)).toList))&&(lessF ((es.getD i en0).1) lo))||((!(hg.toList==((⟨#[]⟩:ByteArray)).toList))&&(!(lessF ((es.getD i en0).1) hg))))) (.bool (decide (0 < (i:Int)))), .z 40 ((!(((!(lo.toList==((⟨#[]⟩:ByteArray)).toList))&&(lessF ((es.getD i en0).1) lo))||((!(hg.toList==((⟨#[]⟩:ByteArray)).toList))&&(!(lessF ((es.getD i en0).1) hg)))))&&(decide (0 < (i:Int)))) (vp B6_13), .y 41 ((!(((!(lo.toList==((⟨#[]⟩:ByteArray)).toList))&&(lessF ((es.getD i en0).1) lo))||((!(hg.toList==((⟨#[]⟩:ByteArray)).toList))&&(!(lessF ((es.getD i en0).1) hg)))))&&(decide (0 < (i:Int)))) (.string ((es.getD i en0).1)), .z 42 ((!(((!(lo.toList==((⟨#[]⟩:ByteArray)).toList))&&(lessF ((es.getD i en0).1) lo))||((!(hg.toList==((⟨#[]⟩:ByteArray)).toList))&&(!(lessF ((es.getD i en0).1) hg)))))&&(decide (0 < (i:Int)))) (.pointer (some ⟨B2_1,5,none⟩)), .y 43 ((!(((!(lo.toList==((⟨#[]⟩:ByteArray)).toList))&&(lessF ((es.getD i en0).1) lo))||((!(hg.toList==((⟨#[]⟩:ByteArray)).toList))&&(!(lessF ((es.getD i en0).1) hg)))))&&(decide (0 < (i:Int)))) (.slice EA n ec), .z 44 ((!(((!(lo.toList==((⟨#[]⟩:ByteArray)).toList))&&(lessF ((es.getD i en0).1) lo))||((!(hg.toList==((⟨#[]⟩:ByteArray)).toList))&&(!(lessF ((es.getD i en0).1) hg)))))&&(decide (0 < (i:Int)))) (vi ((i:Int))), .y 45 ((!(((!(lo.toList==((⟨#[]⟩:ByteArray)).toList))&&(lessF ((es.getD i en0).1) lo))||((!(hg.toList==((⟨#[]⟩:ByteArray)).toList))&&(!(lessF ((es.getD i en0).1) hg)))))&&(decide (0 < (i:Int)))) (vi ((i:Int) - 1)), .y 46 ((!(((!(lo.toList==((⟨#[]⟩:ByteArray)).toList))&&(lessF ((es.getD i en0).1) lo))||((!(hg.toList==((⟨#[]⟩:ByteArray)).toList))&&(!(lessF ((es.getD i en0).1) hg)))))&&(decide (0 < (i:Int)))) (.pointer (some ((ad EA).add ((((i:Int) - 1).toNat)*3)))), .y 47 ((!(((!(lo.toList==((⟨#[]⟩:ByteArray)).toList))&&(lessF ((es.getD i en0).1) lo))||((!(hg.toList==((⟨#[]⟩:ByteArray)).toList))&&(!(lessF ((es.getD i en0).1) hg)))))&&(decide (0 < (i:Int)))) (.pointer (some ((ad EA).add ((((i:Int) - 1).toNat)*3+0)))), .y 48 ((!(((!(lo.toList==((⟨#[]⟩:ByteArray)).toList))&&(lessF ((es.getD i en0).1) lo))||((!(hg.toList==((⟨#[]⟩:ByteArray)).toList))&&(!(lessF ((es.getD i en0).1) hg)))))&&(decide (0 < (i:Int)))) (.string ((es.getD (((i:Int) - 1).toNat) en0).1)), .y 49 ((!(((!(lo.toList==((⟨#[]⟩:ByteArray)).toList))&&(lessF ((es.getD i en0).1) lo))||((!(hg.toList==((⟨#[]⟩:ByteArray)).toList))&&(!(lessF ((es.getD i en0).1) hg)))))&&(decide (0 < (i:Int)))) (.bool (((es.getD i en0).1).toList==((es.getD (((i:Int) - 1).toNat) en0).1).toList)), .y 50 (!(((!(lo.toList==((⟨#[]⟩:ByteArray)).toList))&&(lessF ((es.getD i en0).1) lo))||((!(hg.toList==((⟨#[]⟩:ByteArray)).toList))&&(!(lessF ((es.getD i en0).1) hg))))) (.bool ((decide (0 < (i:Int)))&&(((es.getD i en0).1).toList==((es.getD (((i:Int) - 1).toNat) en0).1).toList))),tO 51 (((!(lo.toList==((⟨#[]⟩:ByteArray)).toList))&&(lessF ((es.getD i en0).1) lo))||((!(hg.toList==((⟨#[]⟩:ByteArray)).toList))&&(!(lessF ((es.getD i en0).1) hg)))) ((decide (0 < (i:Int)))&&(((es.getD i en0).1).toList==((es.getD (((i:Int) - 1).toNat) en0).1).toList))] [0,1] [4,6,10,11,14,16,17,19,26,28,30,31,32,33,34,35] [(15,0,37,52)] hst15 ?_ fun W16 hst16=>?_))
  ·refine ⟨?_,?_,?_,?_,?_,?_,?_,?_,?_,?_,?_,?_,?_,?_,?_,?_,trivial⟩
   ·exact m2 rfl (fun _ _ _ h=>h) (fun cx=>(cx.an 2)) fun cx hq=>run_load1 rfl (by kernel_rfl) (mbv (cx.an 3) hq) ((cx.bi 1 rfl).cell 0)
   ·exact m3 rfl (fun _ _ _ h=>h) (fun cx=>(cx.an 2)) fun cx hq=>⟨_, _,run_callF (args:=#[.string ((es.getD i en0).1), .string lo]) rfl cx.sees rfl (by kernel_rfl) (map2 (mbv (cx.an 4) hq) (mbv (cx.an 5) hq)),kless_any ((es.getD i en0).1) lo _ (getD_size hez _) (by omega)⟩
   ·exact m2 rfl (fun _ _ _ h=>h) (fun cx=>(cx.an 8)) fun cx hq=>run_load1 rfl (by kernel_rfl) (mbv (cx.an 9) hq) ((cx.bi 0 rfl).cell 3)
   ·exact m2 rfl (fun _ _ _ h=>h) (fun cx=>(cx.an 8)) fun cx hq=>run_strne rfl (mbv (cx.an 10) hq) (cx.co _)
   ·exact m0 rfl (fun _ _ _ h=>h) (fun cx=>(cx.an 12)) fun cx hq=>run_load1 rfl (by kernel_rfl) (mbv (cx.an 13) hq) ((cx.bi 1 rfl).cell 0)
   ·exact m0 rfl (fun _ _ _ h=>h) (fun cx=>(cx.an 12)) fun cx hq=>run_load1 rfl (by kernel_rfl) (mbv (cx.an 15) hq) ((cx.bi 0 rfl).cell 3)
   ·exact m1 rfl (fun _ _ _ h=>h) (fun cx=>(cx.an 12)) fun cx hq=>⟨_, _,run_callF (args:=#[.string ((es.getD i en0).1), .string hg]) rfl cx.sees rfl (by kernel_rfl) (map2 (mbv (cx.an 14) hq) (mbv (cx.an 16) hq)),kless_any ((es.getD i en0).1) hg _ (getD_size hez _) (by omega)⟩
   ·exact m2 rfl (fun _ _ _ h=>h) (fun cx=>(cx.an 8)) fun cx hq=>run_pick_and rfl (mbv (cx.an 12) hq) (cx.an 18) (fun e_=>by rw [hq,e_]; rfl) (cx.co _)
   ·exact m0 rfl (fun _ _ _ h=>h) (fun cx=>(cx.an 24)) fun cx hq=>run_load1 rfl (by kernel_rfl) (mbv (cx.an 25) hq) ((cx.bi 1 rfl).cell 0)
   ·exact m0 rfl (fun _ _ _ h=>h) (fun cx=>(cx.an 24)) fun cx hq=>run_load1 rfl (by kernel_rfl) (mbv (cx.an 27) hq) ((cx.bi 0 rfl).cell 5)
   ·exact m0 rfl (fun _ _ _ h=>h) (fun cx=>(cx.an 24)) fun cx hq=>run_bin rfl (mbv (cx.an 29) hq) (cx.co _) (congrArg (fun z=>some (Value.int .i64 z)) ((IntWalk.i64_in _ (by have hq_:=hq; simp only [zB] at hq_; omega)).trans (by have hq_:=hq; simp only [zB] at hq_; omega)))
   ·exact m0 rfl (fun _ _ _ h=>h) (fun cx=>(cx.an 24)) fun cx hq=>run_indexSlM (e:=104) (m:=((i:Int) - 1).toNat) (sz:=3) rfl (by kernel_rfl) (by kernel_rfl) (mbv (cx.an 28) hq) (mbv (cx.an 30) hq) (by have hq_:=hq; simp only [zB] at hq_; omega) (by have hq_:=hq; simp only [zB] at hq_; omega) (hE.ext cx.upd.to_ext) (flatPos (sz:=3) enC_len (by decide) (by have hq_:=hq; simp only [zB] at hq_; omega))
   ·exact m0 rfl (fun _ _ _ h=>h) (fun cx=>(cx.an 24)) fun cx hq=>run_fieldAd rfl (by kernel_rfl) (mbv (cx.an 31) hq)
   ·exact m0 rfl (fun _ _ _ h=>h) (fun cx=>(cx.an 24)) fun cx hq=>run_load1 rfl (by kernel_rfl) (mbv (cx.an 32) hq) (At.eltc (f:=enC) (k:=0) enC_len (hE.ext cx.upd.to_ext) (en_get (by have hq_:=hq; simp only [zB] at hq_; omega)) rfl)
   ·exact m0 rfl (fun _ _ _ h=>h) (fun cx=>(cx.an 24)) fun cx hq=>run_streq rfl (mbv (cx.an 26) hq) (mbv (cx.an 33) hq)
   ·exact m2 rfl (fun _ _ _ h=>h) (fun cx=>(cx.an 21)) fun cx hq=>run_pick_and rfl (mbv (cx.an 24) hq) (cx.an 34) (fun e_=>by rw [hq,e_]; rfl) (cx.co _)
  refine then_normal (wbs (fun hs17=>?_) fun hs17=>?_)
  ·have hs17p:=hs17
   simp only [zB] at hs17p
   refine wp_seq (sqr (sqp [.k 4 (.bool false)] ?_))
   refine then_normal (wp_ret (blk_ret (then_ret (then_ret (blk_ret (then_ret ?_))))))
   refine bpr (.bool false) (results_1 Try.results100 rpt) ?_
   exact Ret.bool (by rw [srF,hn]; exact (all_fail (i:=i) (by omega) (by rw [show srS hg lo es i=true from hs17]; rfl)).symm) hst16.ext
  have hs17p:=hs17
  simp only [zB] at hs17p
  obtain ⟨⟨hs17p1,hs17p2⟩,hs17p3⟩:=hs17p
  refine wp_skip (blk_normal (then_normal (sqr (sqp [sI 52 ((i:Int)+1) (by omega), .m 10 52] ?_))))
  refine then_normal ?_
  refine ⟨n - ((i+1)),by omega,?_⟩
  exact ⟨(i+1),by omega,all_step hall (by rw [show srS hg lo es i=false from hs17]; rfl),rfl,(by kernel_rfl),hst16.pk [0]⟩
 refine wp_exit (then_exit (then_exit (blk_eq (then_normal (wp_seq (sqr (sqp [.k 4 (.bool true)] ?_)))))))
 refine then_normal (wp_ret ?_)
 refine bpr (.bool true) (results_1 Try.results100 rpt) ?_
 exact Ret.bool (by rw [srF,hn,show n=i by omega]; exact hall.symm) hst7.ext
def yn0:YnD:=(nodZ,0,none,0)
theorem yn_get {l:List YnD} {k:Nat} (h:k < l.length):l[k]? =some (l.getD k yn0):=by rw [List.getD_eq_getElem?_getD,List.getElem?_eq_getElem h]; rfl
/-- the node that leads to it is there, with the entry that it should have -/
def ldW (L:List (Int×NoD)) (k:Int):ByteArray:=if 0 < k then (L.getD (k - 1).toNat (0,nodZ)).2.high else leastB
def ldI (L:List (Int×NoD)) (kid:Int):Int:=idxP (fun m=>m.1==kid) 0 L
def ldS (L:List (Int×NoD)) (e:EnD):Bool:=decide (ldI L e.2.2 < 0)||!(e.1.toList==(ldW L (ldI L e.2.2)).toList)
def ldF (L:List (Int×NoD)) (es:List EnD):Bool:=((List.range es.length).all fun i=>!ldS L (es.getD i en0))&&decide (0 < (es.length:Int))
theorem idxP_map {α β:Type} (f:α→β) (p:β→Bool):∀ (l:List α) (k:Int),idxP p k (l.map f)=idxP (fun x=>p (f x)) k l
 | [], _=>rfl
 | x::l,k=>by rw [List.map_cons,idxP,idxP,idxP_map f p l]
theorem idxP_lt {α:Type} (p:α→Bool):∀ (l:List α) (k:Int),0≤k→ -1≤idxP p k l∧idxP p k l < k+l.length
 | [],k,h=>⟨Int.le_refl _,by rw [idxP,List.length_nil]; omega⟩
 | x::l,k,h=>by
   rw [idxP,List.length_cons]
   split
   ·exact ⟨by omega,by omega⟩
   ·have:=idxP_lt p l (k+1) (by omega)
    exact ⟨this.1,by omega⟩
theorem getD_pgN (xs:List YnD) (k:Nat):(xs.map pgN).getD k (0,nodZ)=pgN (xs.getD k yn0):=by
 rw [List.getD_eq_getElem?_getD,List.getD_eq_getElem?_getD,List.getElem?_map]
 cases xs[k]? <;>rfl
theorem kleads1_any (y:YnD) (eb:Nat) (x:ByteArray) (s kid:Int) (w:World) (h1:Blk w eb 104 #[.string x, .int .i64 s, .int .i64 kid]):
  Calls Try.prog 107 #[.agg #[.int .i64 y.2.1, .int .i64 y.1.lv, .int .i64 y.1.right, .string y.1.high, .bool y.1.dead, .slice y.2.2.1 y.1.es.length y.2.2.2, .int .i64 ((y.1.free:Int))], .pointer (some ⟨eb,0,none⟩)] w (Ret (.bool (y.2.1==kid)) w):=by
 go_enter Try.func107,Try.ntmps107
 have hst0:=St.start w
 refine wp_seq (sqr ?_)
 refine sqbx #[vi y.2.1,vi y.1.lv,vi y.1.right, .string y.1.high, .bool y.1.dead, .slice y.2.2.1 y.1.es.length y.2.2.2,vi ((y.1.free:Int))] hst0 fun B2_1 W1 hst1=>?_
 refine sqp [.k 3 (.bool false)] ?_
 refine then_normal (wp_seq (sqr (sqp [.k 4 (vp B2_1)] ?_)))
 refine sqld 0 hst1 ?_
 refine sqp [.k 6 (.pointer (some ⟨eb,2,none⟩))] ?_
 refine sql (vi kid) hst1 (fun cx=>run_load1 rfl (by kernel_rfl) (cx.ou 6) ((Blk.ext h1 cx.upd.to_ext).cell 2)) ?_
 refine sqp [.k 8 (.bool (y.2.1==kid)), .m 3 8] ?_
 refine then_normal (wp_ret ?_)
 refine bpr (.bool (y.2.1==kid)) (results_1 Try.results107 rpt) ?_
 exact Ret.bool rfl hst1.ext
theorem kidxn_any (FA:Option Addr) (fc:Nat) (ks:List YnD) (f0:FuncId) (cap:Array Value) (p:YnD→Bool) (w:World) (hF:At w FA (ks.flatMap ynC)) (hl:ks.length≤100000) (hcf:callP Try.prog f0=true) (hf:∀ (W:World) (k:YnD),Ext w W→Calls Try.prog f0 (#[.agg #[.int .i64 k.2.1, .int .i64 k.1.lv, .int .i64 k.1.right, .string k.1.high, .bool k.1.dead, .slice k.2.2.1 k.1.es.length k.2.2.2, .int .i64 ((k.1.free:Int))]]++cap) W (Ret (.bool (p k)) W)):
  Calls Try.prog 106 #[.slice FA ks.length fc, .func (.func f0) #[] cap] w (Ret (.int .i64 (idxP p 0 ks)) w):=by
 go_enter Try.func106,Try.ntmps106
 have hst0:=St.start w
 refine wp_seq (sqr (sqp [.k 4 (vi 0)] ?_))
 refine then_normal (wp_seq (wp_seq (sqr (sqp [.m 6 0, .k 7 (vi ((ks.length:Int))), .k 8 (vi 0)] ?_))))
 refine then_normal (wp_block ?_)
 refine wp_loopT (fun t_ mz az W=>∃ k:Nat,k≤ks.length∧idxP p 0 ks=idxP p (k:Int) (ks.drop k)∧mz=ks.length - k∧az=⟨(ovr (jv az) [(4,4,2,[]),(2,8,0,[vi ((k:Int))]),(0,9,10,[])] t_).toArray,[]⟩∧St w [] [] W) (ks.length - 0) ?_ ?_
 · -- the loop begins
   exact ⟨0,Nat.zero_le _,rfl,rfl,(by kernel_rfl),hst0.pk []⟩
 rintro n5 a5 W5 ⟨k,hk,hkr,rfl,hj_,hst5⟩
 refine ovz hj_ fun u5_=>?_
 refine wp_seq (sqr (sqp [.k 9 (.bool (decide ((k:Int) < (ks.length:Int))))] ?_))
 refine then_normal (wp_seq (wds (fun hs7 hs7p=>?_) fun hs7 hs7p=>?_))
 ·refine wp_skip (then_normal (wp_seq (wp_block (wp_seq (sqr (sqp [.m 10 8, .m 5 10] ?_))))))
  refine then_normal (wp_seq (sqr (sqp [.m 11 1, .m 12 0, .m 13 5] ?_)))
  refine sql (.pointer (some ((ad FA).add (k*7)))) hst5 (fun cx=>run_indexSlM (e:=116) (m:=k) (sz:=7) rfl (by kernel_rfl) (by kernel_rfl) (cx.ou 12) (cx.ou 13) (by omega) (by omega) (hF.ext cx.upd.to_ext) (flatPos (sz:=7) ynC_len (by decide) (by omega))) ?_
  refine sql (.agg #[vi ((ks.getD k yn0).2.1),vi ((ks.getD k yn0).1.lv),vi ((ks.getD k yn0).1.right), .string ((ks.getD k yn0).1.high), .bool ((ks.getD k yn0).1.dead), .slice ((ks.getD k yn0).2.2.1) ((ks.getD k yn0).1.es.length) ((ks.getD k yn0).2.2.2),vi (((ks.getD k yn0).1.free:Int))]) hst5 (fun cx=>run_loadElt (f:=ynC) (m:=k) (sz:=7) (off:=0) (n:=7) rfl (by kernel_rfl) (by kernel_rfl) (cx.ou 14) rfl ynC_len (hF.ext cx.upd.to_ext) (yn_get (by omega)) (fun k hk=>match k,hk with | 0, _=>rfl | 1, _=>rfl | 2, _=>rfl | 3, _=>rfl | 4, _=>rfl | 5, _=>rfl | 6, _=>rfl | k+7,hk=>absurd hk (by omega))) ?_
  refine sqv (.bool ((p (ks.getD k yn0)))) hst5 (sv_call rfl rfl rfl rfl rfl (fun _ _ _ h=>h) fun ρ β W X cx=>⟨_, _,run_callV (f:=f0) (args:=#[.agg #[vi ((ks.getD k yn0).2.1),vi ((ks.getD k yn0).1.lv),vi ((ks.getD k yn0).1.right), .string ((ks.getD k yn0).1.high), .bool ((ks.getD k yn0).1.dead), .slice ((ks.getD k yn0).2.2.1) ((ks.getD k yn0).1.es.length) ((ks.getD k yn0).2.2.2),vi (((ks.getD k yn0).1.free:Int))]]) (args':=#[.agg #[vi ((ks.getD k yn0).2.1),vi ((ks.getD k yn0).1.lv),vi ((ks.getD k yn0).1.right), .string ((ks.getD k yn0).1.high), .bool ((ks.getD k yn0).1.dead), .slice ((ks.getD k yn0).2.2.1) ((ks.getD k yn0).1.es.length) ((ks.getD k yn0).2.2.2),vi (((ks.getD k yn0).1.free:Int))]]++cap) rfl rfl (cx.ou 11) hcf (map1 (cx.ou 15)) (by rw [Array.empty_append]),(by have h9:=hf W (ks.getD k yn0) cx.upd.to_ext; exact h9)⟩) fun W15 hst15=>?_
  refine then_normal (wbs (fun hs16=>?_) fun hs16=>?_)
  ·refine wp_seq (sqr (sqp [.m 17 5, .m 4 17] ?_))
   refine then_normal (wp_ret (blk_ret (then_ret (then_ret (blk_ret (then_ret ?_))))))
   refine bpr (vi ((k:Int))) (results_1 Try.results106 rpt) ?_
   exact Ret.of (by rw [hkr,idxP_at (yn_get (l:=ks) (k:=k) (by omega)),hs16]; rfl) hst15.ext
  refine wp_skip (blk_normal (then_normal (sqr (sqp [sI 18 ((k:Int)+1) (by omega), .m 8 18] ?_))))
  refine then_normal ?_
  refine ⟨ks.length - ((k+1)),by omega,?_⟩
  exact ⟨(k+1),by omega,by rw [hkr,idxP_at (yn_get (l:=ks) (k:=k) (by omega)),hs16]; rfl,rfl,(by kernel_rfl),hst15.pk []⟩
 refine wp_exit (then_exit (then_exit (blk_eq (then_normal (wp_seq (sqr (sqp [.k 4 (vi (-1))] ?_)))))))
 refine then_normal (wp_ret ?_)
 refine bpr (vi (-1)) (results_1 Try.results106 rpt) ?_
 exact Ret.of (by rw [hkr,List.drop_of_length_le (by omega)]; rfl) hst5.ext
theorem kidxn_kid {A:Option Addr} {c:Nat} {xs:List YnD} {w:World} {eb:Nat} {x:ByteArray} {s kid:Int} (hF:At w A (xs.flatMap ynC)) (hl:xs.length≤100000) (h1:Blk w eb 104 #[.string x, .int .i64 s, .int .i64 kid]):
  Calls Try.prog 106 #[.slice A xs.length c, .func (.func 107) #[] #[.pointer (some ⟨eb,0,none⟩)]] w (Ret (.int .i64 (ldI (xs.map pgN) kid)) w):=by
 rw [ldI,idxP_map]
 exact kidxn_any A c xs 107 #[.pointer (some ⟨eb,0,none⟩)] (fun y=>y.2.1==kid) w hF hl (by kernel_rfl) (fun W k hW=>kleads1_any k eb x s kid W (h1.ext hW))
theorem kleads_g (pg lv rt fr:Int) (hg:ByteArray) (dd:Bool) (EA:Option Addr) (ec n:Nat) (es:List EnD) (BA:Option Addr) (bc:Nat) (xs:List YnD) (w:World) (hE:At w EA (es.flatMap enC)) (hn:es.length=n) (hn1:n≤100) (hB:At w BA (xs.flatMap ynC)) (hbl:xs.length≤100000):
  Calls Try.prog 101 #[.agg #[.int .i64 pg, .int .i64 lv, .int .i64 rt, .string hg, .bool dd, .slice EA n ec, .int .i64 fr], .slice BA xs.length bc] w (Ret (.bool (ldF (xs.map pgN) es)) w):=by
 go_enter Try.func101,Try.ntmps101
 have hst0:=St.start w
 refine wp_seq (sqr ?_)
 refine sqbx #[vi pg,vi lv,vi rt, .string hg, .bool dd, .slice EA n ec,vi fr] hst0 fun B2_1 W1 hst1=>?_
 refine sqp [.k 4 (.bool false)] ?_
 refine then_normal (wp_seq (wp_seq (sqr (sqp [.k 9 (.pointer (some ⟨B2_1,5,none⟩))] ?_))))
 refine sqld 0 hst1 ?_
 refine sqp [.k 11 (vi ((n:Int))), .k 12 (vi 0)] ?_
 refine then_normal (wp_block ?_)
 refine wp_loopT (fun t_ mz az W=>∃ i:Nat,i≤n∧(List.range i).all (fun i=>!ldS (xs.map pgN) (es.getD i en0))=true∧mz=n - i∧az=⟨(ovr (jv az) [(4,4,1,[]),(1,6,3,[]),(3,12,0,[vi ((i:Int))]),(0,13,24,[])] t_).toArray,[]⟩∧St w [] [eB B2_1 116 #[vi pg,vi lv,vi rt, .string hg, .bool dd, .slice EA n ec,vi fr]] W) (n - 0) ?_ ?_
 · -- the loop begins
   exact ⟨0,Nat.zero_le _,rfl,rfl,(by kernel_rfl),hst1.pk [0]⟩
 rintro n7 a7 W7 ⟨i,hi,hall,rfl,hj_,hst7⟩
 refine ovz hj_ fun u7_=>?_
 refine wp_seq (sqr (sqp [.k 13 (.bool (decide ((i:Int) < (n:Int))))] ?_))
 refine then_normal (wp_seq (wds (fun hs9 hs9p=>?_) fun hs9 hs9p=>?_))
 ·refine wp_skip (then_normal (wp_seq (wp_block (wp_seq (sqr ?_)))))
  refine sql (.pointer (some ((ad EA).add (i*3)))) hst7 (fun cx=>run_indexSlM (e:=104) (m:=i) (sz:=3) rfl (by kernel_rfl) (by kernel_rfl) (cx.ou 10) (cx.ou 12) (by omega) (by omega) (hE.ext cx.upd.to_ext) (flatPos (sz:=3) enC_len (by decide) (by omega))) ?_
  refine sql (.agg #[.string ((es.getD i en0).1),vi (((es.getD i en0).2.1:Int)),vi ((es.getD i en0).2.2)]) hst7 (fun cx=>run_loadElt (f:=enC) (m:=i) (sz:=3) (off:=0) (n:=3) rfl (by kernel_rfl) (by kernel_rfl) (cx.ou 14) rfl enC_len (hE.ext cx.upd.to_ext) (en_get (by omega)) (fun k hk=>match k,hk with | 0, _=>rfl | 1, _=>rfl | 2, _=>rfl | k+3,hk=>absurd hk (by omega))) ?_
  refine sqal #[.string ByteArray.empty,vi 0,vi 0] hst7 fun B6_12 W12 hst12=>?_
  refine sqst (n:=3) 1 #[.string ((es.getD i en0).1),vi (((es.getD i en0).2.1:Int)),vi ((es.getD i en0).2.2)] hst12 fun W13 hst13=>?_
  refine then_normal (wp_seq (sqr (sqp [.m 16 1] ?_)))
  refine sqv (.func (.func 107) #[] #[vp B6_12]) hst13 (by
    exact sv0 rfl rfl rfl rfl rfl (fun _ _ _ h=>h) fun ρ β W X cx=>by
     have fF6:ρ (.tmp 6)=vp B6_12:=(cx.ou 6)
     simp [go_sem,Instr.makeFunc,fF6]) fun W15 hst15=>?_
  refine sqk (vi ((ldI (xs.map pgN) ((es.getD i en0).2.2)))) hst15 (fun cx=>⟨_,kidxn_kid (hB.ext cx.upd.to_ext) hbl (cx.bi 1 rfl),(map2 (cx.ou 16) (cx.ou 17))⟩) fun W16 hst16=>?_
  refine sqp [.m 7 18] ?_
  refine then_normal (wp_seq ?_)
  obtain ⟨ix,hN_ix⟩:∃ z,(ldI (xs.map pgN) ((es.getD i en0).2.2))=z:=⟨_,rfl⟩
  rw [hN_ix]
  have hix:=idxP_lt (fun m:Int×NoD=>m.1==(es.getD i en0).2.2) (xs.map pgN) 0 (by omega)
  rw [show idxP (fun m:Int×NoD=>m.1==(es.getD i en0).2.2) 0 (xs.map pgN)=ix from hN_ix,List.length_map] at hix
  refine sqr (sqk (.string leastB) hst16 (fun cx=>⟨_,kleast_any _,map0⟩) fun W18 hst18=>?_)
  refine sqp [.m 8 19] ?_
  refine then_normal ?_
  refine wp_cutT (fun t_ az W=>∃ wt:ByteArray,wt=ldW (xs.map pgN) ix∧az=⟨(ovr (jv az) [(8,8,0,[.string wt]),(11,20,8,[])] t_).toArray,[]⟩∧St w [] [eB B2_1 116 #[vi pg,vi lv,vi rt, .string hg, .bool dd, .slice EA n ec,vi fr],eB B6_12 104 #[.string ((es.getD i en0).1),vi (((es.getD i en0).2.1:Int)),vi ((es.getD i en0).2.2)]] W) ?_ ?_
  ·refine wp_seq (sqr (sqp [.m 20 7, .k 21 (.bool (decide (0 < ix)))] ?_))
   refine then_normal (wds (fun hs23 hs23p=>?_) fun hs23 hs23p=>?_)
   ·refine sqr (sqp [.m 22 1, .m 23 7,sI 24 (ix - 1) (by omega)] ?_)
    refine sql (.pointer (some ((ad BA).add (((ix - 1).toNat)*7)))) hst18 (fun cx=>run_indexSlM (e:=116) (m:=(ix - 1).toNat) (sz:=7) rfl (by kernel_rfl) (by kernel_rfl) (cx.ou 22) (cx.ou 24) (by omega) (by omega) (hB.ext cx.upd.to_ext) (flatPos (sz:=7) ynC_len (by decide) (by omega))) ?_
    refine sql (.pointer (some ((ad BA).add (((ix - 1).toNat)*7+3)))) hst18 (fun cx=>run_fieldAd rfl (by kernel_rfl) (cx.ou 25)) ?_
    refine sql (.string ((xs.getD ((ix - 1).toNat) yn0).1.high)) hst18 (fun cx=>run_load1 rfl (by kernel_rfl) (cx.ou 26) (At.eltc (f:=ynC) (k:=3) ynC_len (hB.ext cx.upd.to_ext) (yn_get (by omega)) rfl)) ?_
    refine sqp [.m 8 27] ?_
    refine then_normal ?_
    exact ⟨((xs.getD ((ix - 1).toNat) yn0).1.high),by rw [ldW,if_pos (by omega)]; rw [getD_pgN]; rfl,(by kernel_rfl),hst18.pk [0,1]⟩
   refine wp_skip (then_normal ?_)
   exact ⟨leastB,by rw [ldW,if_neg (by omega)],(by kernel_rfl),hst18.pk [0,1]⟩
  rintro a20 W20 ⟨wt,hwt,hj_,hst20⟩
  refine ovz hj_ fun u20_=>?_
  refine wp_seq (sqr (sqp [.m 28 7, .k 29 (.bool (decide (ix < 0))), .m 30 29] ?_))
  refine sqw' 30 [31,32,33,34] ?_ rfl (fun hq=>?_) ?_
  rotate_left
  ·refine sqp [.k 31 (vp B6_12)] ?_
   refine sqld 1 hst20 ?_
   refine sqp [.m 33 8, .k 34 (.bool (!(((es.getD i en0).1).toList==wt.toList)))] ?_
   exact sqe
  refine sqwx ?_
  refine sqp [sPo 35 (decide (ix < 0)) (!(((es.getD i en0).1).toList==wt.toList))] ?_
  refine then_normal (wbs (fun hs39=>?_) fun hs39=>?_)
  ·have hs39p:=hs39
   simp only [zB] at hs39p
   refine wp_seq (sqr (sqp [.k 4 (.bool false)] ?_))
   refine then_normal (wp_ret (blk_ret (then_ret (then_ret (blk_ret (then_ret ?_))))))
   refine bpr (.bool false) (results_1 Try.results101 rpt) ?_
   exact Ret.bool (by rw [ldF,hn,all_fail (i:=i) (by omega) (by rw [show ldS (xs.map pgN) (es.getD i en0)=true by rw [ldS,hN_ix,← hwt]; exact hs39]; rfl),Bool.false_and]) hst20.ext
  have hs39p:=hs39
  simp only [zB] at hs39p
  obtain ⟨hs39p1,hs39p2⟩:=hs39p
  refine wp_skip (blk_normal (then_normal (sqr (sqp [sI 36 ((i:Int)+1) (by omega), .m 12 36] ?_))))
  refine then_normal ?_
  refine ⟨n - ((i+1)),by omega,?_⟩
  exact ⟨(i+1),by omega,all_step hall (by rw [show ldS (xs.map pgN) (es.getD i en0)=false by rw [ldS,hN_ix,← hwt]; exact hs39]; rfl),rfl,(by kernel_rfl),hst20.pk [0]⟩
 refine wp_exit (then_exit (then_exit (blk_eq (then_normal (wp_seq (sqr (sqp [.k 37 (.pointer (some ⟨B2_1,5,none⟩))] ?_)))))))
 refine sqld 0 hst7 ?_
 refine sqp [.k 39 (vi ((n:Int))), .k 40 (.bool (decide (0 < (n:Int)))), .m 4 40] ?_
 refine then_normal (wp_ret ?_)
 refine bpr (.bool (decide (0 < (n:Int)))) (results_1 Try.results101 rpt) ?_
 exact Ret.bool (by rw [ldF,hn,show n=i by omega,hall,Bool.true_and]) hst7.ext
/-- right: what fails at a node -/
def rgA (n:NoD) (last:Bool) (lo:ByteArray):Bool:=n.dead||decide (8 < (n.es.length:Int))||(last != (n.high.toList==(⟨#[]⟩:ByteArray).toList))||(last != decide (n.right < 0))||!(srF n.high lo n.es)
def rgB (n:NoD) (i:Nat) (Lb:List (Int×NoD)):Bool:=decide (0 < n.lv)&&(!(ldF Lb n.es)||(((i:Int)==0)&&((n.es.getD 0 en0).2.2 != (Lb.getD 0 (0,nodZ)).1)))
def rgC (n:NoD) (lo:ByteArray):Bool:=(neB lo&&neB n.high)&&lessF n.high lo
def lowF (L:List (Int×NoD)) (i:Nat):ByteArray:=if i=0 then ⟨#[]⟩ else (L.getD (i - 1) (0,nodZ)).2.high
def rgX (L Lb:List (Int×NoD)) (i:Nat):Bool:=rgA (L.getD i (0,nodZ)).2 ((i:Int)==(L.length:Int) - 1) (lowF L i)||rgB (L.getD i (0,nodZ)).2 i Lb||rgC (L.getD i (0,nodZ)).2 (lowF L i)
def rgF (L Lb:List (Int×NoD)):Bool:=((List.range L.length).all fun i=>!rgX L Lb i)&&(decide (0 < (L.length:Int))&&decide ((L.length:Int)≤400))
theorem ld_pos {L:List (Int×NoD)} {es:List EnD} (h:ldF L es=true):0 < L.length∧0 < es.length:=by
 rw [ldF,Bool.and_eq_true] at h
 have h2:0 < es.length:=by have:=of_decide_eq_true h.2; omega
 refine ⟨?_,h2⟩
 have h1:=List.all_eq_true.1 h.1 0 (List.mem_range.2 h2)
 have h3:ldS L (es.getD 0 en0)=false:=by simpa using h1
 rw [ldS,Bool.or_eq_false_iff] at h3
 have h4:=of_decide_eq_false h3.1
 have h5:=idxP_lt (fun m:Int×NoD=>m.1==(es.getD 0 en0).2.2) L 0 (by omega)
 rw [ldI] at h4
 omega
theorem rgx_eq {xs ys:List YnD} {i:Nat} {y:YnD} {lo:ByteArray} (h:(xs.map pgN).getD i (0,nodZ)=pgN y) (hl:lo=lowF (xs.map pgN) i):rgX (xs.map pgN) (ys.map pgN) i=(rgA y.1 ((i:Int)==(xs.length:Int) - 1) lo||rgB y.1 i (ys.map pgN)||rgC y.1 lo):=by rw [rgX,h,← hl,List.length_map]; rfl
theorem low_sz {xs:List YnD} (h:∀ y∈xs,NdOk y.1) (i:Nat):(lowF (xs.map pgN) i).size≤900000:=by
 unfold lowF; split
 ·exact Nat.zero_le _
 ·rw [getD_pgN,List.getD_eq_getElem?_getD]
  cases hx:xs[i - 1]? with
  | none=>exact Nat.zero_le _
  | some y=>exact (h y (List.mem_of_getElem? hx)).hi
theorem kright_g (SA BA:Option Addr) (sc bc:Nat) (xs ys:List YnD) (w:World) (hS:At w SA (xs.flatMap ynC)) (hR:∀ y∈xs,At w y.2.2.1 (y.1.es.flatMap enC)) (hB:At w BA (ys.flatMap ynC)) (hN:∀ y∈xs,NdOk y.1) (hxl:xs.length≤1000) (hyl:ys.length≤1000):
  Calls Try.prog 73 #[.slice SA xs.length sc, .slice BA ys.length bc] w (Ret (.bool (rgF (xs.map pgN) (ys.map pgN))) w):=by
 go_enter Try.func73,Try.ntmps73
 have hst0:=St.start w
 refine wp_seq (sqr (sqp [.k 4 (.bool false)] ?_))
 refine then_normal (wp_seq (sqr (sqp [.k 5 (.string ⟨#[]⟩)] ?_)))
 refine then_normal (wp_seq (wp_seq (sqr (sqp [.m 9 0, .k 10 (vi ((xs.length:Int))), .k 11 (vi 0)] ?_))))
 refine then_normal (wp_block ?_)
 refine wp_loopT (fun t_ mz az W=>∃ i:Nat,∃ lo:ByteArray,i≤xs.length∧lo=lowF (xs.map pgN) i∧(List.range i).all (fun i=>!rgX (xs.map pgN) (ys.map pgN) i)=true∧mz=xs.length - i∧az=⟨(ovr (jv az) [(4,4,1,[.string lo]),(0,6,3,[]),(2,11,0,[vi ((i:Int))]),(0,12,73,[])] t_).toArray,[]⟩∧St w [] [] W) (xs.length - 0) ?_ ?_
 · -- the loop begins
   exact ⟨0,(⟨#[]⟩:ByteArray),Nat.zero_le _,rfl,rfl,rfl,(by kernel_rfl),hst0.pk []⟩
 rintro n6 a6 W6 ⟨i,lo,hi,hlo,hall,rfl,hj_,hst6⟩
 refine ovz hj_ fun u6_=>?_
 refine wp_seq (sqr (sqp [.k 12 (.bool (decide ((i:Int) < (xs.length:Int))))] ?_))
 refine then_normal (wp_seq (wds (fun hs8 hs8p=>?_) fun hs8 hs8p=>?_))
 ·refine wp_skip (then_normal (wp_seq (wp_block (wp_seq ?_))))
  obtain ⟨y_,hy_⟩:∃ z,xs[i]? =some z:=⟨_,yn_get (by omega)⟩
  have hym_:=List.mem_of_getElem? hy_
  have hRy:=hR y_ hym_
  have hNy:=hN y_ hym_
  have hN1:=hNy.len
  have hN2:=hNy.lv
  have hN3:=hNy.rt
  have hN4:=hNy.hi
  have hNz:∀ e∈y_.1.es,e.1.size≤1000000:=fun e he=>Nat.le_trans (hNy.es e he) (by decide)
  have hloz:lo.size≤900000:=by rw [hlo]; exact low_sz hN i
  have hgd:(xs.map pgN).getD i (0,nodZ)=pgN y_:=by rw [getD_pgN,List.getD_eq_getElem?_getD,hy_]; rfl
  refine sqr (sqp [.m 13 11] ?_)
  refine sql (.pointer (some ((ad SA).add (i*7)))) hst6 (fun cx=>run_indexSlM (e:=116) (m:=i) (sz:=7) rfl (by kernel_rfl) (by kernel_rfl) (cx.ou 9) (cx.ou 11) (by omega) (by omega) (hS.ext cx.upd.to_ext) (flatPos (sz:=7) ynC_len (by decide) (by omega))) ?_
  refine sql (.agg #[vi y_.2.1,vi y_.1.lv,vi y_.1.right, .string y_.1.high, .bool y_.1.dead, .slice y_.2.2.1 y_.1.es.length y_.2.2.2,vi ((y_.1.free:Int))]) hst6 (fun cx=>run_loadElt (f:=ynC) (m:=i) (sz:=7) (off:=0) (n:=7) rfl (by kernel_rfl) (by kernel_rfl) (cx.ou 14) rfl ynC_len (hS.ext cx.upd.to_ext) hy_ (fun k hk=>match k,hk with | 0, _=>rfl | 1, _=>rfl | 2, _=>rfl | 3, _=>rfl | 4, _=>rfl | 5, _=>rfl | 6, _=>rfl | k+7,hk=>absurd hk (by omega))) ?_
  refine sqal #[vi 0,vi 0,vi 0, .string ByteArray.empty, .bool false, .slice none 0 0,vi 0] hst6 fun B7_12 W12 hst12=>?_
  refine sqp [.m 6 13] ?_
  refine sqst (n:=7) 0 #[vi y_.2.1,vi y_.1.lv,vi y_.1.right, .string y_.1.high, .bool y_.1.dead, .slice y_.2.2.1 y_.1.es.length y_.2.2.2,vi ((y_.1.free:Int))] hst12 fun W14 hst14=>?_
  refine then_normal (wp_seq (sqr (sqp [.m 16 6, .m 17 0, .k 18 (vi ((xs.length:Int))),sI 19 ((xs.length:Int) - 1) (by omega), .k 20 (.bool ((i:Int)==((xs.length:Int) - 1))), .m 8 20] ?_)))
  refine then_normal (wp_seq (wp_block (wp_seq (wp_seq (sqr (sqp [.k 22 (.pointer (some ⟨B7_12,4,none⟩))] ?_))))))
  refine sqld 0 hst14 ?_
  refine sqp [.m 21 23] ?_
  refine then_normal (wbs (fun hs24=>?_) fun hs24=>?_)
  ·refine wp_skip (then_normal (wct hs24 (wp_seq (sqr (sqp [.k 4 (.bool false)] ?_)))))
   refine then_normal (wp_ret (blk_ret (then_ret (blk_ret (then_ret (then_ret (blk_ret (then_ret ?_))))))))
   refine bpr (.bool false) (results_1 Try.results73 rpt) ?_
   exact Ret.bool (by rw [rgF,all_fail (i:=i) (by rw [List.length_map]; omega) (by rw [rgx_eq hgd hlo]; simp only [rgA,rgB,rgC,neB,bne,getD_pgN,pgN,hs24,Bool.or_false,Bool.false_or,Bool.not_true,Bool.not_false,Bool.or_true,Bool.true_or,Bool.and_true,Bool.true_and,Bool.and_false,Bool.false_and]),Bool.false_and]) hst14.ext
  refine wp_seq (sqr (sqp [.k 24 (.pointer (some ⟨B7_12,5,none⟩))] ?_))
  refine sqld 0 hst14 ?_
  refine sqp [.k 26 (vi ((y_.1.es.length:Int))), .k 27 (.bool (decide (8 < (y_.1.es.length:Int)))), .m 21 27] ?_
  refine then_normal (wds (fun hs31 hs31p=>?_) fun hs31 hs31p=>?_)
  ·refine wp_skip (then_normal (wct hs31 (wp_seq (sqr (sqp [.k 4 (.bool false)] ?_)))))
   refine then_normal (wp_ret (blk_ret (then_ret (blk_ret (then_ret (then_ret (blk_ret (then_ret ?_))))))))
   refine bpr (.bool false) (results_1 Try.results73 rpt) ?_
   exact Ret.bool (by rw [rgF,all_fail (i:=i) (by rw [List.length_map]; omega) (by rw [rgx_eq hgd hlo]; simp only [rgA,rgB,rgC,neB,bne,getD_pgN,pgN,hs24,hs31,Bool.or_false,Bool.false_or,Bool.not_true,Bool.not_false,Bool.or_true,Bool.true_or,Bool.and_true,Bool.true_and,Bool.and_false,Bool.false_and]),Bool.false_and]) hst14.ext
  refine wp_seq (sqr (sqp [.m 28 8, .k 29 (.pointer (some ⟨B7_12,3,none⟩))] ?_))
  refine sqld 0 hst14 ?_
  refine sqp [.k 31 (.bool (y_.1.high.toList==((⟨#[]⟩:ByteArray)).toList))] ?_
  refine sqv (.bool (!(((i:Int)==((xs.length:Int) - 1))==(y_.1.high.toList==((⟨#[]⟩:ByteArray)).toList)))) hst14 (by
    exact sv0 rfl rfl rfl rfl rfl (fun _ _ _ h=>h) fun ρ β W X cx=>by
     have fF28:ρ (.tmp 28)= .bool ((i:Int)==((xs.length:Int) - 1)):=(cx.ou 28)
     have fF31:ρ (.tmp 31)= .bool (y_.1.high.toList==((⟨#[]⟩:ByteArray)).toList):=(cx.ou 31)
     simp [go_sem,fF28,fF31]) fun W37 hst37=>?_
  refine sqp [.m 21 32] ?_
  refine then_normal ?_
  rcases Bool.eq_false_or_eq_true (((i:Int)==((xs.length:Int) - 1))==(y_.1.high.toList==((⟨#[]⟩:ByteArray)).toList)) with hs39 | hs39
  ·refine wp_cond_false (show Act.eval _ _= .bool false from (congrArg Value.bool (by rw [hs39]; rfl))) (wp_seq (sqr (sqp [.m 33 8, .k 34 (.pointer (some ⟨B7_12,2,none⟩))] ?_)))
   refine sqld 0 hst37 ?_
   refine sqp [.k 36 (.bool (decide (y_.1.right < 0)))] ?_
   refine sqv (.bool (!(((i:Int)==((xs.length:Int) - 1))==(decide (y_.1.right < 0))))) hst37 (by
     exact sv0 rfl rfl rfl rfl rfl (fun _ _ _ h=>h) fun ρ β W X cx=>by
      have fF33:ρ (.tmp 33)= .bool ((i:Int)==((xs.length:Int) - 1)):=(cx.ou 33)
      have fF36:ρ (.tmp 36)= .bool (decide (y_.1.right < 0)):=(cx.ou 36)
      simp [go_sem,fF33,fF36]) fun W44 hst44=>?_
   refine sqp [.m 21 37] ?_
   refine then_normal ?_
   rcases Bool.eq_false_or_eq_true (((i:Int)==((xs.length:Int) - 1))==(decide (y_.1.right < 0))) with hs46 | hs46
   ·have hs46p:=beq_iff_eq.1 hs46
    refine wp_cond_false (show Act.eval _ _= .bool false from (congrArg Value.bool (by rw [hs46]; rfl))) (sqr ?_)
    refine sqlb 0 7 hst44 ?_
    refine sqp [.m 39 5] ?_
    refine sqk (.bool (srF y_.1.high lo y_.1.es)) hst44 (fun cx=>⟨_,ksorted_g _ _ _ _ _ _ _ _ _ y_.1.es lo _ (hRy.ext cx.upd.to_ext) rfl (by omega) hNz (by omega) (by omega),(map2 (cx.ou 38) (cx.ou 39))⟩) fun W49 hst49=>?_
    refine sqp [.k 41 (.bool (!(srF y_.1.high lo y_.1.es))), .m 21 41] ?_
    refine then_normal ?_
    rcases Bool.eq_false_or_eq_true (srF y_.1.high lo y_.1.es) with hs52 | hs52
    ·refine wp_cond_false (show Act.eval _ _= .bool false from (congrArg Value.bool (by rw [hs52]; rfl))) (wp_seq ?_)
     rcases hlv_:decide (0 < y_.1.lv) with _ | _
     rotate_left
     rcases hlq_:ldF (ys.map pgN) y_.1.es with _ | _
     ·refine wp_region_Z [0,1,3,7,15,15,63,127,255,511,1023,2047,4095,8191,16383,32767,65535,4095,135167,397311,921599,2097151,4194303,8388607,16777215,33554431] [[],[0],[],[],[0]] [.k 43 (.pointer (some ⟨B7_12,1,none⟩)), .c 44 (vi y_.1.lv), .e 45 (.bool (decide (0 < y_.1.lv))) (.bool true) (congrArg Value.bool hlv_), .k 46 (.bool true), .c 47 (.agg #[vi y_.2.1,vi y_.1.lv,vi y_.1.right, .string y_.1.high, .bool y_.1.dead, .slice y_.2.2.1 y_.1.es.length y_.2.2.2,vi ((y_.1.free:Int))]), .k 48 (.slice BA ys.length bc), .c 49 (.bool false), .k 50 (.bool true), .k 51 (.bool true), .u 52, .u 53, .u 54, .u 55, .u 56, .u 57, .u 58, .u 59, .u 60, .u 61, .u 62, .u 63, .u 64, .u 65, .k 66 (.bool true), .k 67 (.bool true), .k 42 (.bool true)] [0] [1,4,6] [(42,25,1,43),(0,0,25,25)] hst49 ?_ fun W53 hst53=>?_
      ·refine ⟨?_,?_,?_,trivial⟩
       ·exact xs4 rfl id fun cx=>run_load1 rfl (by kernel_rfl) (cx.an 0) ((cx.bi 0 rfl).cell 1)
       ·exact xs5 rfl id (fun cx=>(cx.an 3)) fun cx=>run_loadB (n:=7) rfl (by kernel_rfl) (by kernel_rfl) (cx.ou 7) (cx.bi 0 rfl) (nle rfl) rfl
       ·exact sv_call_on rfl rfl rfl rfl rfl rfl (fun _ _ _ h=>h.trans (congrArg Value.bool hlq_)) (fun _ _ _ _ cx=>(cx.an 3)) fun ρ β W X cx=>⟨_, _,run_callF (args:=#[.agg #[vi y_.2.1,vi y_.1.lv,vi y_.1.right, .string y_.1.high, .bool y_.1.dead, .slice y_.2.2.1 y_.1.es.length y_.2.2.2,vi ((y_.1.free:Int))], .slice BA ys.length bc]) rfl cx.sees rfl (by kernel_rfl) (map2 (cx.an 4) (cx.an 5)),kleads_g _ _ _ _ _ _ _ _ _ y_.1.es BA bc ys _ (hRy.ext cx.upd.to_ext) rfl (by omega) (hB.ext cx.upd.to_ext) (by omega)⟩
      refine then_normal (wct rfl (wp_seq (sqr (sqp [.k 4 (.bool false)] ?_))))
      refine then_normal (wp_ret (blk_ret (then_ret (blk_ret (then_ret (then_ret (blk_ret (then_ret ?_))))))))
      refine bpr (.bool false) (results_1 Try.results73 rpt) ?_
      exact Ret.bool (by rw [rgF,all_fail (i:=i) (by rw [List.length_map]; omega) (by rw [rgx_eq hgd hlo]; simp only [rgA,rgB,rgC,neB,bne,getD_pgN,pgN,hs24,hs31,hs39,hs46,hs52,hlv_,hlq_,Bool.or_false,Bool.false_or,Bool.not_true,Bool.not_false,Bool.or_true,Bool.true_or,Bool.and_true,Bool.true_and,Bool.and_false,Bool.false_and]),Bool.false_and]) hst53.ext
     ·have hlp_:=ld_pos hlq_
      rw [List.length_map] at hlp_
      have hlp1_:=hlp_.1
      have hlp2_:=hlp_.2
      refine wp_region_Z [0,1,3,7,15,15,63,127,255,511,1023,2047,4095,8191,16383,32767,65535,4095,135167,397311,921599,2097151,4194303,8388607,16777215,33554431] [[],[0],[],[],[0],[],[],[],[],[],[],[],[],[0]] [.k 43 (.pointer (some ⟨B7_12,1,none⟩)), .c 44 (vi y_.1.lv), .e 45 (.bool (decide (0 < y_.1.lv))) (.bool true) (congrArg Value.bool hlv_), .k 46 (.bool true), .c 47 (.agg #[vi y_.2.1,vi y_.1.lv,vi y_.1.right, .string y_.1.high, .bool y_.1.dead, .slice y_.2.2.1 y_.1.es.length y_.2.2.2,vi ((y_.1.free:Int))]), .k 48 (.slice BA ys.length bc), .c 49 (.bool true), .k 50 (.bool false), .k 51 (.bool false), .k 52 (vi ((i:Int))), .k 53 (.bool ((i:Int)==0)), .k 54 (.bool ((i:Int)==0)), .z 55 ((i:Int)==0) (.pointer (some ⟨B7_12,5,none⟩)), .y 56 ((i:Int)==0) (.slice y_.2.2.1 y_.1.es.length y_.2.2.2), .y 57 ((i:Int)==0) (.pointer (some ((ad y_.2.2.1).add (0*3)))), .y 58 ((i:Int)==0) (.pointer (some ((ad y_.2.2.1).add (0*3+2)))), .y 59 ((i:Int)==0) (vi ((y_.1.es.getD 0 en0).2.2)), .z 60 ((i:Int)==0) (.slice BA ys.length bc), .y 61 ((i:Int)==0) (.pointer (some ((ad BA).add (0*7)))), .y 62 ((i:Int)==0) (.pointer (some ((ad BA).add (0*7+0)))), .y 63 ((i:Int)==0) (vi ((ys.getD 0 yn0).2.1)), .z 64 ((i:Int)==0) (.bool (((y_.1.es.getD 0 en0).2.2) != ((ys.getD 0 yn0).2.1))),tA 65 ((i:Int)==0) (((y_.1.es.getD 0 en0).2.2) != ((ys.getD 0 yn0).2.1)), .k 66 (.bool (((i:Int)==0)&&(((y_.1.es.getD 0 en0).2.2) != ((ys.getD 0 yn0).2.1)))), .k 67 (.bool (((i:Int)==0)&&(((y_.1.es.getD 0 en0).2.2) != ((ys.getD 0 yn0).2.1)))), .k 42 (.bool (((i:Int)==0)&&(((y_.1.es.getD 0 en0).2.2) != ((ys.getD 0 yn0).2.1))))] [0] [1,4,6,13,14,15,16,18,19,20] [(42,25,1,43),(0,0,25,25)] hst49 ?_ fun W55 hst55=>?_
      ·refine ⟨?_,?_,?_,?_,?_,?_,?_,?_,?_,?_,trivial⟩
       ·exact xs4 rfl id fun cx=>run_load1 rfl (by kernel_rfl) (cx.an 0) ((cx.bi 0 rfl).cell 1)
       ·exact xs5 rfl id (fun cx=>(cx.an 3)) fun cx=>run_loadB (n:=7) rfl (by kernel_rfl) (by kernel_rfl) (cx.ou 7) (cx.bi 0 rfl) (nle rfl) rfl
       ·exact sv_call_on rfl rfl rfl rfl rfl rfl (fun _ _ _ h=>h.trans (congrArg Value.bool hlq_)) (fun _ _ _ _ cx=>(cx.an 3)) fun ρ β W X cx=>⟨_, _,run_callF (args:=#[.agg #[vi y_.2.1,vi y_.1.lv,vi y_.1.right, .string y_.1.high, .bool y_.1.dead, .slice y_.2.2.1 y_.1.es.length y_.2.2.2,vi ((y_.1.free:Int))], .slice BA ys.length bc]) rfl cx.sees rfl (by kernel_rfl) (map2 (cx.an 4) (cx.an 5)),kleads_g _ _ _ _ _ _ _ _ _ y_.1.es BA bc ys _ (hRy.ext cx.upd.to_ext) rfl (by omega) (hB.ext cx.upd.to_ext) (by omega)⟩
       ·exact m2 rfl (fun _ _ _ h=>h) (fun cx=>(cx.an 11)) fun cx hq=>run_load1 rfl (by kernel_rfl) (mbv (cx.an 12) hq) ((cx.bi 0 rfl).cell 5)
       ·exact m2 rfl (fun _ _ _ h=>h) (fun cx=>(cx.an 11)) fun cx hq=>run_indexSlM (e:=104) (m:=0) (sz:=3) rfl (by kernel_rfl) (by kernel_rfl) (mbv (cx.an 13) hq) (cx.co _) (by have hq_:=hq; simp only [zB] at hq_; omega) (by have hq_:=hq; simp only [zB] at hq_; omega) (hRy.ext cx.upd.to_ext) (flatPos (sz:=3) enC_len (by decide) (by have hq_:=hq; simp only [zB] at hq_; omega))
       ·exact m2 rfl (fun _ _ _ h=>h) (fun cx=>(cx.an 11)) fun cx hq=>run_fieldAd rfl (by kernel_rfl) (mbv (cx.an 14) hq)
       ·exact m2 rfl (fun _ _ _ h=>h) (fun cx=>(cx.an 11)) fun cx hq=>run_load1 rfl (by kernel_rfl) (mbv (cx.an 15) hq) (At.eltc (f:=enC) (k:=2) enC_len (hRy.ext cx.upd.to_ext) (en_get (by have hq_:=hq; simp only [zB] at hq_; omega)) rfl)
       ·exact m2 rfl (fun _ _ _ h=>h) (fun cx=>(cx.an 11)) fun cx hq=>run_indexSlM (e:=116) (m:=0) (sz:=7) rfl (by kernel_rfl) (by kernel_rfl) (mbv (cx.an 17) hq) (cx.co _) (by have hq_:=hq; simp only [zB] at hq_; omega) (by have hq_:=hq; simp only [zB] at hq_; omega) (hB.ext cx.upd.to_ext) (flatPos (sz:=7) ynC_len (by decide) (by have hq_:=hq; simp only [zB] at hq_; omega))
       ·exact m2 rfl (fun _ _ _ h=>h) (fun cx=>(cx.an 11)) fun cx hq=>run_fieldAd rfl (by kernel_rfl) (mbv (cx.an 18) hq)
       ·exact m2 rfl (fun _ _ _ h=>h) (fun cx=>(cx.an 11)) fun cx hq=>run_load1 rfl (by kernel_rfl) (mbv (cx.an 19) hq) (At.eltc (f:=ynC) (k:=0) ynC_len (hB.ext cx.upd.to_ext) (yn_get (by have hq_:=hq; simp only [zB] at hq_; omega)) rfl)
      refine then_normal (wbs (fun hs56=>?_) fun hs56=>?_)
      ·have hs56p:=hs56
       simp only [zB] at hs56p
       obtain ⟨hs56p1,hs56p2⟩:=hs56p
       refine wp_seq (sqr (sqp [.k 4 (.bool false)] ?_))
       refine then_normal (wp_ret (blk_ret (then_ret (blk_ret (then_ret (then_ret (blk_ret (then_ret ?_))))))))
       refine bpr (.bool false) (results_1 Try.results73 rpt) ?_
       simp only [bne] at hs56
       exact Ret.bool (by rw [rgF,all_fail (i:=i) (by rw [List.length_map]; omega) (by rw [rgx_eq hgd hlo]; simp only [rgA,rgB,rgC,neB,bne,getD_pgN,pgN,hs24,hs31,hs39,hs46,hs52,hlv_,hlq_,hs56,Bool.or_false,Bool.false_or,Bool.not_true,Bool.not_false,Bool.or_true,Bool.true_or,Bool.and_true,Bool.true_and,Bool.and_false,Bool.false_and]),Bool.false_and]) hst55.ext
      have hs56p:=hs56
      simp only [zB] at hs56p
      refine wp_seq (sqr (sqp [.m 69 5, .k 70 (.bool (!(lo.toList==((⟨#[]⟩:ByteArray)).toList))), .m 71 70] ?_))
      refine sqw' 71 [72,73,74] ?_ rfl (fun hq=>?_) ?_
      rotate_left
      ·refine sqp [.k 72 (.pointer (some ⟨B7_12,3,none⟩))] ?_
       refine sqld 0 hst55 ?_
       refine sqp [.k 74 (.bool (!(y_.1.high.toList==((⟨#[]⟩:ByteArray)).toList)))] ?_
       exact sqe
      refine sqwx ?_
      refine sqp [sPa 75 (!(lo.toList==((⟨#[]⟩:ByteArray)).toList)) (!(y_.1.high.toList==((⟨#[]⟩:ByteArray)).toList)), .m 76 75] ?_
      refine sqwW 76 [77,78,79,80] ?_ hst55 rfl (fun hq=>?_) fun W70 hst70=>?_
      rotate_left
      ·have hq_:=hq
       try simp only [zB] at hq_
       refine sqp [.k 77 (.pointer (some ⟨B7_12,3,none⟩))] ?_
       refine sqld 0 hst55 ?_
       refine sqp [.m 79 5] ?_
       refine sqk (.bool (lessF y_.1.high lo)) hst55 (fun cx=>⟨_,kless_any y_.1.high lo _ (by omega) (by omega),(map2 (cx.ou 78) (cx.ou 79))⟩) fun W69 hst69=>?_
       exact sqE hst69
      refine sqwx ?_
      refine sqp [sPa 81 ((!(lo.toList==((⟨#[]⟩:ByteArray)).toList))&&(!(y_.1.high.toList==((⟨#[]⟩:ByteArray)).toList))) (lessF y_.1.high lo), .m 68 81] ?_
      refine then_normal (wbs (fun hs73=>?_) fun hs73=>?_)
      ·have hs73p:=hs73
       simp only [zB] at hs73p
       obtain ⟨⟨hs73p1,hs73p2⟩,hs73p3⟩:=hs73p
       refine wp_seq (sqr (sqp [.k 4 (.bool false)] ?_))
       refine then_normal (wp_ret (blk_ret (then_ret (blk_ret (then_ret (then_ret (blk_ret (then_ret ?_))))))))
       refine bpr (.bool false) (results_1 Try.results73 rpt) ?_
       simp only [bne] at hs56
       exact Ret.bool (by rw [rgF,all_fail (i:=i) (by rw [List.length_map]; omega) (by rw [rgx_eq hgd hlo]; simp only [rgA,rgB,rgC,neB,bne,getD_pgN,pgN,hs24,hs31,hs39,hs46,hs52,hlv_,hlq_,hs56,hs73,Bool.or_false,Bool.false_or,Bool.not_true,Bool.not_false,Bool.or_true,Bool.true_or,Bool.and_true,Bool.true_and,Bool.and_false,Bool.false_and]),Bool.false_and]) hst70.ext
      have hs73p:=hs73
      simp only [zB] at hs73p
      refine wp_skip (blk_normal (then_normal (sqr (sqp [.k 82 (.pointer (some ⟨B7_12,3,none⟩))] ?_))))
      refine sqld 0 hst70 ?_
      refine sqp [.m 5 83] ?_
      refine blk_normal (then_normal (sqr (sqp [sI 84 ((i:Int)+1) (by omega), .m 11 84] ?_)))
      refine then_normal ?_
      simp only [bne] at hs56
      refine ⟨xs.length - ((i+1)),by omega,?_⟩
      exact ⟨(i+1),y_.1.high,by omega,by rw [lowF,if_neg (by omega),Nat.add_sub_cancel,hgd]; rfl,all_step hall (by rw [rgx_eq hgd hlo]; simp only [rgA,rgB,rgC,neB,bne,getD_pgN,pgN,hs24,hs31,hs39,hs46,hs52,hlv_,hlq_,hs56,hs73,Bool.or_false,Bool.false_or,Bool.not_true,Bool.not_false,Bool.or_true,Bool.true_or,Bool.and_true,Bool.true_and,Bool.and_false,Bool.false_and]),rfl,(by kernel_rfl),hst70.pk []⟩
     ·refine wp_region_Z [0,1,3,7,15,15,63,127,255,511,1023,2047,4095,8191,16383,32767,65535,4095,135167,397311,921599,2097151,4194303,8388607,16777215,33554431] [[],[0]] [.k 43 (.pointer (some ⟨B7_12,1,none⟩)), .c 44 (vi y_.1.lv), .e 45 (.bool (decide (0 < y_.1.lv))) (.bool false) (congrArg Value.bool hlv_), .k 46 (.bool false), .u 47, .u 48, .u 49, .u 50, .u 51, .u 52, .u 53, .u 54, .u 55, .u 56, .u 57, .u 58, .u 59, .u 60, .u 61, .u 62, .u 63, .u 64, .u 65, .u 66, .k 67 (.bool false), .k 42 (.bool false)] [0] [1] [(42,25,1,43),(0,0,25,25)] hst49 ?_ fun W80 hst80=>?_
      ·refine ⟨?_,trivial⟩
       ·exact xs4 rfl id fun cx=>run_load1 rfl (by kernel_rfl) (cx.an 0) ((cx.bi 0 rfl).cell 1)
      refine then_normal (wcf rfl (wp_seq (sqr (sqp [.m 69 5, .k 70 (.bool (!(lo.toList==((⟨#[]⟩:ByteArray)).toList))), .m 71 70] ?_))))
      refine sqw' 71 [72,73,74] ?_ rfl (fun hq=>?_) ?_
      rotate_left
      ·refine sqp [.k 72 (.pointer (some ⟨B7_12,3,none⟩))] ?_
       refine sqld 0 hst80 ?_
       refine sqp [.k 74 (.bool (!(y_.1.high.toList==((⟨#[]⟩:ByteArray)).toList)))] ?_
       exact sqe
      refine sqwx ?_
      refine sqp [sPa 75 (!(lo.toList==((⟨#[]⟩:ByteArray)).toList)) (!(y_.1.high.toList==((⟨#[]⟩:ByteArray)).toList)), .m 76 75] ?_
      refine sqwW 76 [77,78,79,80] ?_ hst80 rfl (fun hq=>?_) fun W93 hst93=>?_
      rotate_left
      ·have hq_:=hq
       try simp only [zB] at hq_
       refine sqp [.k 77 (.pointer (some ⟨B7_12,3,none⟩))] ?_
       refine sqld 0 hst80 ?_
       refine sqp [.m 79 5] ?_
       refine sqk (.bool (lessF y_.1.high lo)) hst80 (fun cx=>⟨_,kless_any y_.1.high lo _ (by omega) (by omega),(map2 (cx.ou 78) (cx.ou 79))⟩) fun W92 hst92=>?_
       exact sqE hst92
      refine sqwx ?_
      refine sqp [sPa 81 ((!(lo.toList==((⟨#[]⟩:ByteArray)).toList))&&(!(y_.1.high.toList==((⟨#[]⟩:ByteArray)).toList))) (lessF y_.1.high lo), .m 68 81] ?_
      refine then_normal (wbs (fun hs96=>?_) fun hs96=>?_)
      ·have hs96p:=hs96
       simp only [zB] at hs96p
       obtain ⟨⟨hs96p1,hs96p2⟩,hs96p3⟩:=hs96p
       refine wp_seq (sqr (sqp [.k 4 (.bool false)] ?_))
       refine then_normal (wp_ret (blk_ret (then_ret (blk_ret (then_ret (then_ret (blk_ret (then_ret ?_))))))))
       refine bpr (.bool false) (results_1 Try.results73 rpt) ?_
       exact Ret.bool (by rw [rgF,all_fail (i:=i) (by rw [List.length_map]; omega) (by rw [rgx_eq hgd hlo]; simp only [rgA,rgB,rgC,neB,bne,getD_pgN,pgN,hs24,hs31,hs39,hs46,hs52,hlv_,hs96,Bool.or_false,Bool.false_or,Bool.not_true,Bool.not_false,Bool.or_true,Bool.true_or,Bool.and_true,Bool.true_and,Bool.and_false,Bool.false_and]),Bool.false_and]) hst93.ext
      have hs96p:=hs96
      simp only [zB] at hs96p
      refine wp_skip (blk_normal (then_normal (sqr (sqp [.k 82 (.pointer (some ⟨B7_12,3,none⟩))] ?_))))
      refine sqld 0 hst93 ?_
      refine sqp [.m 5 83] ?_
      refine blk_normal (then_normal (sqr (sqp [sI 84 ((i:Int)+1) (by omega), .m 11 84] ?_)))
      refine then_normal ?_
      refine ⟨xs.length - ((i+1)),by omega,?_⟩
      exact ⟨(i+1),y_.1.high,by omega,by rw [lowF,if_neg (by omega),Nat.add_sub_cancel,hgd]; rfl,all_step hall (by rw [rgx_eq hgd hlo]; simp only [rgA,rgB,rgC,neB,bne,getD_pgN,pgN,hs24,hs31,hs39,hs46,hs52,hlv_,hs96,Bool.or_false,Bool.false_or,Bool.not_true,Bool.not_false,Bool.or_true,Bool.true_or,Bool.and_true,Bool.true_and,Bool.and_false,Bool.false_and]),rfl,(by kernel_rfl),hst93.pk []⟩
    refine wp_cond_true (show Act.eval _ _= .bool true from (congrArg Value.bool (by rw [hs52]; rfl))) (wp_seq (sqr (sqp [.k 4 (.bool false)] ?_)))
    refine then_normal (wp_ret (blk_ret (then_ret (blk_ret (then_ret (then_ret (blk_ret (then_ret ?_))))))))
    refine bpr (.bool false) (results_1 Try.results73 rpt) ?_
    exact Ret.bool (by rw [rgF,all_fail (i:=i) (by rw [List.length_map]; omega) (by rw [rgx_eq hgd hlo]; simp only [rgA,rgB,rgC,neB,bne,getD_pgN,pgN,hs24,hs31,hs39,hs46,hs52,Bool.or_false,Bool.false_or,Bool.not_true,Bool.not_false,Bool.or_true,Bool.true_or,Bool.and_true,Bool.true_and,Bool.and_false,Bool.false_and]),Bool.false_and]) hst49.ext
   have hs46p:=beq_eq_false_iff_ne.1 hs46
   refine wp_cond_true (show Act.eval _ _= .bool true from (congrArg Value.bool (by rw [hs46]; rfl))) (wp_skip (then_normal (wp_cond_true (show Act.eval _ _= .bool true from (congrArg Value.bool (by rw [hs46]; rfl))) (wp_seq (sqr (sqp [.k 4 (.bool false)] ?_))))))
   refine then_normal (wp_ret (blk_ret (then_ret (blk_ret (then_ret (then_ret (blk_ret (then_ret ?_))))))))
   refine bpr (.bool false) (results_1 Try.results73 rpt) ?_
   exact Ret.bool (by rw [rgF,all_fail (i:=i) (by rw [List.length_map]; omega) (by rw [rgx_eq hgd hlo]; simp only [rgA,rgB,rgC,neB,bne,getD_pgN,pgN,hs24,hs31,hs39,hs46,Bool.or_false,Bool.false_or,Bool.not_true,Bool.not_false,Bool.or_true,Bool.true_or,Bool.and_true,Bool.true_and,Bool.and_false,Bool.false_and]),Bool.false_and]) hst44.ext
  refine wp_cond_true (show Act.eval _ _= .bool true from (congrArg Value.bool (by rw [hs39]; rfl))) (wp_skip (then_normal (wp_cond_true (show Act.eval _ _= .bool true from (congrArg Value.bool (by rw [hs39]; rfl))) (wp_seq (sqr (sqp [.k 4 (.bool false)] ?_))))))
  refine then_normal (wp_ret (blk_ret (then_ret (blk_ret (then_ret (then_ret (blk_ret (then_ret ?_))))))))
  refine bpr (.bool false) (results_1 Try.results73 rpt) ?_
  exact Ret.bool (by rw [rgF,all_fail (i:=i) (by rw [List.length_map]; omega) (by rw [rgx_eq hgd hlo]; simp only [rgA,rgB,rgC,neB,bne,getD_pgN,pgN,hs24,hs31,hs39,Bool.or_false,Bool.false_or,Bool.not_true,Bool.not_false,Bool.or_true,Bool.true_or,Bool.and_true,Bool.true_and,Bool.and_false,Bool.false_and]),Bool.false_and]) hst37.ext
 refine wp_exit (then_exit (then_exit (blk_eq (then_normal (wp_seq (sqr (sqp [.m 85 0, .k 86 (vi ((xs.length:Int))), .k 87 (.bool (decide (0 < (xs.length:Int)))), .m 88 87] ?_)))))))
 refine sqw 88 [89,90,91] rfl (fun _=>sqp [.m 89 0, .k 90 (vi ((xs.length:Int))), .k 91 (.bool (decide ((xs.length:Int)≤400)))] sqe) ?_
 refine sqp [sPa 92 (decide (0 < (xs.length:Int))) (decide ((xs.length:Int)≤400)), .m 4 92] ?_
 refine then_normal (wp_ret ?_)
 refine bpr (.bool ((decide (0 < (xs.length:Int)))&&(decide ((xs.length:Int)≤400)))) (results_1 Try.results73 rpt) ?_
 exact Ret.bool (by rw [rgF,List.length_map,show xs.length=i by omega,hall,Bool.true_and]) hst6.ext
end
section
open Go.RowKit
/-- the level below -/
def belowL (ps:List PgS) (root:Int):Nat→List (Int×NoD)
 | 0=>[]
 | k+1=>rowF ps root (k:Int)
/-- what fails at a level -/
def ckX (ps:List PgS) (root h:Int) (k:Nat):Bool:=(((k:Int)==h)&&(((rowF ps root (k:Int)).length:Int) != 1))||(decide (0 < (k:Int))&&(((belowL ps root k).length:Int)==0))||!(rgF (rowF ps root (k:Int)) (belowL ps root k))
def checkF (ps:List PgS) (root:Int):Int:=match ndAt ps root with
 | none=>22
 | some n=>if ((List.range (n.lv+1).toNat).all fun k=>!ckX ps root n.lv k) then 0 else 11
theorem row_nd {ps:List PgS} {root lv:Int}:∀ y∈rowF ps root lv,ndAt ps y.1=some y.2∧y.2.lv=lv:=fun y hy=>by
 unfold rowF at hy
 split at hy
 ·cases hy
 ·exact chn_at y hy
theorem below_len (ps:List PgS) (root:Int) (k:Nat):(belowL ps root k).length≤1000:=by
 cases k with
 | zero=>exact Nat.zero_le _
 | succ k=>exact row_len _ _ _
theorem kright_cl {SA BA:Option Addr} {sc bc:Nat} {L Lb:List (Int×NoD)} {fp fq:List Nat} {w:World} (h:(eCL SA L fp).holds w) (hb:(eCL BA Lb fq).holds w) (hN:∀ y∈L,NdOk y.2) (hl:L.length≤1000) (hlb:Lb.length≤1000):
  Calls Try.prog 73 #[.slice SA L.length sc, .slice BA Lb.length bc] w (Ret (.bool (rgF L Lb)) w):=by
 obtain ⟨xs,rfl, _,h1,h2⟩:=h
 obtain ⟨ys,rfl, _,h3, _⟩:=hb
 rw [List.length_map] at hl hlb ⊢
 rw [List.length_map]
 exact kright_g SA BA sc bc xs ys w h1 (fun y hy=>(h2 y hy).2) h3 (fun y hy=>hN (pgN y) (List.mem_map.2 ⟨y,hy,rfl⟩)) hl hlb
theorem St.cl0 {w W:World} {bor:List Nat} {L:List Ent} (h:St w bor L W):St w bor (L++[eCL none [] []]) W:=by
 refine ⟨h.upd,fun e he=>?_,List.pairwise_append.2 ⟨h.apart,List.pairwise_singleton _ _,fun a ha b hb k hk hkb=>?_⟩⟩
 ·rcases List.mem_append.1 he with he | he
  ·exact h.ok e he
  ·rw [List.mem_singleton] at he; subst he
   exact ⟨⟨[],rfl,(fun ad e=>nomatch e),At.nil _ _,fun y hy=>absurd hy (by simp)⟩,eCL_loc _ _ _,fun k hk=>by simp [eCL] at hk⟩
 ·rw [List.mem_singleton] at hb; subst hb; simp [eCL] at hkb
theorem ck_ok {ps:List PgS} {root:Int} {n:NoD} (h:ndAt ps root=some n) {k:Nat} (hk:(k:Int)=n.lv+1) (ha:(List.range k).all (fun k=>!ckX ps root n.lv k)=true):(0:Int)=checkF ps root:=by
 rw [checkF,h]
 dsimp only
 rw [show (n.lv+1).toNat=k by omega,if_pos ha]
theorem ck_bad {ps:List PgS} {root:Int} {n:NoD} (h:ndAt ps root=some n) {k:Nat} (hk:(k:Int) < n.lv+1) (ha:ckX ps root n.lv k=true):(11:Int)=checkF ps root:=by
 rw [checkF,h]
 dsimp only
 rw [all_fail (i:=k) (by omega) (by rw [ha]; rfl)]; rfl
theorem ck_none {ps:List PgS} {root:Int} (h:ndAt ps root=none):(22:Int)=checkF ps root:=by rw [checkF,h]
theorem kcheck_g (tt:TypeId) (tv:Value) (root:Int) (ps:List PgS) (w:World) (hS:PgsOk w tt tv ps) (hok:OkS ps) (hoc:OkC ps):
  Calls Try.prog 37 #[.iface tt (tv), .int .i64 root] w (Ret (.int .i64 (checkF ps root)) w):=by
 go_enter Try.func37,Try.ntmps37
 have hst0:=St.start w
 refine wp_seq (sqr (sqp [.k 4 (vi 0)] ?_))
 refine then_normal (wp_seq ?_)
 rcases hnd:ndAt ps root with _ | nd
 ·refine wp_region_Y [0,0,3,7,15,15,0,95,255] [[],[],[],[],[],[],[],[0]] [[],[],[],[],[],[],[0],[1]] [[],[],[],[],[],[],[],[0]] [.k 11 (.iface tt (tv)), .k 12 (vi root), .a 13, .a 10, .a 14, .c 15 (.bool false), .a 5, .n, .k 6 (.bool false)] (fun ix σ β X=>match ix with | 0=>True | 1=>True | 2=>σ 13= .tuple #[.agg #[vi (iv (tg (tg (β 13) 0) 0)),vi 0,vi 0, .string ((⟨#[]⟩:ByteArray)), .bool false, .slice none 0 0,vi 0], .bool false] | 3=>σ 10= .tuple #[.agg #[vi (iv (tg (tg (β 13) 0) 0)),vi 0,vi 0, .string ((⟨#[]⟩:ByteArray)), .bool false, .slice none 0 0,vi 0], .bool false] | 4=>σ 14= .agg #[vi (iv (tg (tg (β 13) 0) 0)),vi 0,vi 0, .string ((⟨#[]⟩:ByteArray)), .bool false, .slice none 0 0,vi 0] | 5=>True | 6=>σ 5=vp (pb (β 5))∧X 0=eB (pb (β 5)) 116 #[vi 0,vi 0,vi 0, .string ByteArray.empty, .bool false, .slice none 0 0,vi 0] | 7=>X 1=eB (pb (β 5)) 116 #[vi (iv (tg (tg (β 13) 0) 0)),vi 0,vi 0, .string ((⟨#[]⟩:ByteArray)), .bool false, .slice none 0 0,vi 0] | _=>True) [1] [2,3,4,5,6,7] [(5,6,3,7),(3,3,1,4),(0,0,3,3),(0,4,2,2)] hst0 ?_ ?_ ?_
  ·exact fun ix _ _ _ _ _ _ hs hb hx h=>match ix,h with
   | 2,h=>by dsimp only; rw [← hs 13 rfl,← hb 13 rfl]; exact h
   | 3,h=>by dsimp only; rw [← hs 10 rfl,← hb 13 rfl]; exact h
   | 4,h=>by dsimp only; rw [← hs 14 rfl,← hb 13 rfl]; exact h
   | 6,h=>by dsimp only; rw [← hs 5 rfl,← hb 5 rfl,← hx 0 rfl]; exact h
   | 7,h=>by dsimp only; rw [← hb 5 rfl,← hb 13 rfl,← hx 1 rfl]; exact h
   | 0, _ | 1, _ | 5, _ | _+8, _=>trivial
  ·refine ⟨?_,?_,?_,?_,?_,?_,trivial⟩
   ·refine svA fun ρ β W X cx=>?_
    refine DoesU.call (run_callF (args:=#[.iface tt (tv),vi root]) rfl cx.sees rfl (by kernel_rfl) (map2 (cx.an 0) (cx.an 1))) ?_
    refine (kd_no hnd (kat_any _ _ ps root _ (hS.ext cx.upd.to_ext) hok hoc)).mono ?_
    rintro e W1 ⟨p4,rfl,hx⟩
    refine ⟨_,rfl,post_call [] rfl rfl hx (by simp) List.Pairwise.nil (fun σ β' X' hs hb hv hN=>?_)⟩
    have hv1:=(hv 13 rfl).1; have hv2:=(hv 13 rfl).2
    exact hv1.trans (by rw [hv2]; rfl)
   ·exact sv rfl rfl rfl rfl rfl _ (fun _ _ _ h=>h) (fun β β' h=>by rw [h 13 (by decide)]) fun ρ β W X cx=>run_move' rfl (dTn (cx.an 2))
   ·exact sv rfl rfl rfl rfl rfl _ (fun _ _ _ h=>h) (fun β β' h=>by rw [h 13 (by decide)]) fun ρ β W X cx=>run_extract' rfl (dTn (cx.an 3)) rfl
   ·exact xs4 rfl id fun cx=>run_extract' rfl (dTn (cx.an 3)) rfl
   ·refine svA fun ρ β W X cx=>?_
    exact dv_alloc (cs:=#[vi 0,vi 0,vi 0, .string ByteArray.empty, .bool false, .slice none 0 0,vi 0]) rfl (by kernel_rfl) rfl rfl (fun σ β' X' hs hb hv hx=>⟨hv,hx⟩)
   ·refine svA fun ρ β W X cx=>?_
    exact dv_store (n:=7) rfl (dTn (cx.an 6)).1 (dTn (cx.an 4)) (by kernel_rfl) (by kernel_rfl) (by kernel_rfl) cx (dTn (cx.an 6)).2 rfl (nle rfl) (by kernel_rfl) rfl rfl rfl (fun σ β' X' hs hb hx=>by rw [hb 5,hb 13]; exact hx)
  intro σ β X W2 hD hst2 fr hfr
  obtain ⟨pg13_2,hu_pg13_2⟩:∃ z,iv (tg (tg (β 13) 0) 0)=z:=⟨_,rfl⟩
  obtain ⟨B5_2,hu_B5_2⟩:∃ z,pb (β 5)=z:=⟨_,rfl⟩
  simp only [exq 1 ((dTn (hD 7 lq))),hu_pg13_2,hu_B5_2] at hst2
  simp only [ed 13 ((dTn (hD 2 lq))),ed 10 ((dTn (hD 3 lq))),ed 14 ((dTn (hD 4 lq))),ed 5 ((dTn (hD 6 lq)).1),hu_pg13_2,hu_B5_2] at hfr
  clear hD hu_pg13_2 hu_B5_2; subst hfr; clear σ β X
  refine then_normal (wp_seq (wp_seq (sqr (sqp [.k 16 (.bool false), .k 17 (.bool true)] ?_))))
  refine then_normal (wct rfl (wp_seq (sqr (sqp [.k 4 (vi 22)] ?_))))
  refine then_normal (wp_ret (then_ret ?_))
  refine bpr (vi 22) (results_1 Try.results37 rpt) ?_
  exact Ret.of (by rw [← ck_none hnd]) hst2.ext
 ·have hN0:=nd_ok hok hnd
  have hN4:=hN0.lv
  refine sqr (sqp [.m 11 0, .m 12 1] ?_)
  refine sqk2 (fun EA13_8 ec13_8=> .tuple #[.agg #[vi root,vi nd.lv,vi nd.right, .string nd.high, .bool nd.dead, .slice EA13_8 nd.es.length ec13_8,vi ((nd.free:Int))], .bool true]) (fun EA13_8 ec13_8=>eO 104 3 (.slice EA13_8 nd.es.length ec13_8) nd.es.length (nd.es.flatMap enC)) hst0 (fun cx=>⟨_,(kd_yes hnd (kat_any _ _ ps root _ (hS.ext cx.upd.to_ext) hok hoc)).mono (by rintro e W1 ⟨EA4,ec4,rfl,hs4⟩; exact ⟨_, _,rfl,hs4⟩),(map2 (cx.ou 11) (cx.ou 12))⟩) fun EA13_8 ec13_8 W8 hst8=>?_
  refine sqp [.m 10 13, .k 14 (.agg #[vi root,vi nd.lv,vi nd.right, .string nd.high, .bool nd.dead, .slice EA13_8 nd.es.length ec13_8,vi ((nd.free:Int))]), .k 15 (.bool true)] ?_
  refine sqal #[vi 0,vi 0,vi 0, .string ByteArray.empty, .bool false, .slice none 0 0,vi 0] hst8 fun B5_12 W12 hst12=>?_
  refine sqst (n:=7) 1 #[vi root,vi nd.lv,vi nd.right, .string nd.high, .bool nd.dead, .slice EA13_8 nd.es.length ec13_8,vi ((nd.free:Int))] hst12 fun W13 hst13=>?_
  refine sqp [.k 6 (.bool true)] ?_
  refine then_normal (wp_seq (wp_seq (sqr (sqp [.k 16 (.bool true), .k 17 (.bool false)] ?_))))
  refine then_normal (wcf rfl (wp_skip (then_normal (wp_seq (sqr (sqp [.k 7 (.slice none 0 0)] ?_))))))
  refine then_normal (wp_seq (wp_seq (sqr (sqp [.k 18 (.pointer (some ⟨B5_12,1,none⟩))] ?_))))
  refine sqld 1 hst13 ?_
  refine sqp [sI 20 (nd.lv+1) (by omega), .k 21 (vi 0)] ?_
  refine then_normal (wp_block ?_)
  have hcl_:=hst13.cl0
  simp only [List.cons_append,List.nil_append] at hcl_
  refine wp_loopT (fun t_ mz az W=>∃ k:Nat,∃ BA:Option Addr,∃ bc:Nat,∃ fb:List Nat,(k:Int)≤nd.lv+1∧(List.range k).all (fun k=>!ckX ps root nd.lv k)=true∧mz=(nd.lv+1).toNat - k∧az=⟨(ovr (jv az) [(4,4,1,[]),(2,7,0,[.slice BA ((belowL ps root k).length) bc]),(0,8,2,[]),(11,21,0,[vi ((k:Int))]),(0,22,33,[])] t_).toArray,[]⟩∧St w [] [eB B5_12 116 #[vi root,vi nd.lv,vi nd.right, .string nd.high, .bool nd.dead, .slice EA13_8 nd.es.length ec13_8,vi ((nd.free:Int))],eCL BA (belowL ps root k) fb] W) ((nd.lv+1).toNat - 0) ?_ ?_
  · -- the loop begins
    exact ⟨0,none,0,[],by omega,rfl,rfl,(by kernel_rfl),hcl_.pk [1,2]⟩
  rintro n22 a22 W22 ⟨k,BA,bc,fb,hk,hall,rfl,hj_,hst22⟩
  refine ovz hj_ fun u22_=>?_
  have hbl_:=below_len ps root k
  have hrl_:=row_len ps root (k:Int)
  refine wp_seq (sqr (sqp [.k 22 (.bool (decide ((k:Int) < nd.lv+1)))] ?_))
  refine then_normal (wp_seq (wds (fun hs24 hs24p=>?_) fun hs24 hs24p=>?_))
  ·refine wp_skip (then_normal (wp_seq (wp_block (wp_seq (sqr (sqp [.m 23 21, .m 8 23] ?_))))))
   refine then_normal (wp_seq (wp_region_Y [0,0,0,7,15,31] [[],[],[],[],[2,3,4]] [[],[],[],[2,3,4],[5]] [] [.k 24 (.iface tt (tv)), .k 25 (vi root), .k 26 (vi ((k:Int))), .a 27, .a 28, .a 9] (fun ix σ β X=>match ix with | 0=>True | 1=>True | 2=>True | 3=>σ 27= .func (.func 99) #[] #[vp (pcp 0 (β 27)),vp (pcp 1 (β 27)),vp (pcp 2 (β 27))]∧X 2=eB (pcp 0 (β 27)) 113 #[.iface tt (tv)]∧X 3=eB (pcp 1 (β 27)) 3 #[vi root]∧X 4=eB (pcp 2 (β 27)) 3 #[vi ((k:Int))] | 4=>σ 28= .slice (sA (β 28)) (((rowF ps root (k:Int))).length) (sC (β 28))∧X 5=eCL (sA (β 28)) (rowF ps root (k:Int)) ((X 5).fp) | 5=>σ 9= .slice (sA (β 28)) (((rowF ps root (k:Int))).length) (sC (β 28)) | _=>True) [0,1,2,3,4,5] [3,4,5] [(9,5,1,10),(14,0,5,19)] hst22 ?_ ?_ ?_))
   ·exact fun ix _ _ _ _ _ _ hs hb hx h=>match ix,h with
    | 3,h=>by dsimp only; rw [← hs 27 rfl,← hb 27 rfl,← hx 2 rfl,← hx 3 rfl,← hx 4 rfl]; exact h
    | 4,h=>by dsimp only; rw [← hs 28 rfl,← hb 28 rfl,← hx 5 rfl]; exact h
    | 5,h=>by dsimp only; rw [← hs 9 rfl,← hb 28 rfl]; exact h
    | 0, _ | 1, _ | 2, _ | _+6, _=>trivial
   ·refine ⟨?_,?_,?_,trivial⟩
    ·refine svA fun ρ β W X cx=>?_
     refine DoesU.call (run_callF (args:=#[.iface tt (tv),vi root,vi ((k:Int))]) rfl cx.sees rfl (by kernel_rfl) (map3 (cx.an 0) (cx.an 1) (cx.an 2))) ?_
     refine (krowc_any tt tv root (k:Int) _).mono ?_
     rintro e W1 ⟨B4,B5,B6,rfl,hs4⟩
     refine ⟨_,rfl,post_st [eB B4 113 #[.iface tt (tv)],eB B5 3 #[vi root],eB B6 3 #[vi ((k:Int))]] rfl rfl hs4 (fun σ β' X' hs hb hv hN=>?_)⟩
     have hv1:=(hv 27 rfl).1; have hv2:=(hv 27 rfl).2
     exact ⟨hv1.trans (by rw [hv2]; rfl),(by rw [hv2]; exact (List.cons.inj hN).1),(by rw [hv2]; exact (List.cons.inj (List.cons.inj hN).2).1),(by rw [hv2]; exact (List.cons.inj (List.cons.inj (List.cons.inj hN).2).2).1)⟩
    ·refine svA fun ρ β W X cx=>?_
     refine DoesU.call (run_callF (args:=#[.func (.func 99) #[] #[vp (pcp 0 (β 27)),vp (pcp 1 (β 27)),vp (pcp 2 (β 27))]]) rfl cx.sees rfl (by kernel_rfl) (map1 (dTn (cx.an 3)).1)) ?_
     refine (kcol_g _ _ _ (rowF ps root (k:Int)) _ _ _ (krow_seqG _ _ _ _ _ _ _ hok hoc) (fun A hA=>⟨Blk.ext (cx.blk (dTn (cx.an 3)).2.1 rfl) hA,Blk.ext (cx.blk (dTn (cx.an 3)).2.2.1 rfl) hA,Blk.ext (cx.blk (dTn (cx.an 3)).2.2.2 rfl) hA,(hS.ext cx.upd.to_ext).ext hA⟩)).mono ?_
     rintro e W1 ⟨A4,c4,fp4,rfl,hs4⟩
     refine ⟨_,rfl,post_st [eCL A4 ((rowF ps root (k:Int))) fp4] rfl rfl hs4 (fun σ β' X' hs hb hv hN=>?_)⟩
     have hv1:=(hv 28 rfl).1; have hv2:=(hv 28 rfl).2
     exact ⟨hv1.trans (by rw [hv2]; rfl),(by rw [hv2]; exact eCL_self ((List.cons.inj hN).1))⟩
    ·exact sv rfl rfl rfl rfl rfl _ (fun _ _ _ h=>h) (fun β β' h=>by rw [h 28 (by decide)]) fun ρ β W X cx=>run_assign' rfl (dTn (cx.an 4)).1
   intro σ β X W27 hD hst27 fr hfr
   obtain ⟨B27a_27,hu_B27a_27⟩:∃ z,pcp 0 (β 27)=z:=⟨_,rfl⟩
   obtain ⟨B27b_27,hu_B27b_27⟩:∃ z,pcp 1 (β 27)=z:=⟨_,rfl⟩
   obtain ⟨B27c_27,hu_B27c_27⟩:∃ z,pcp 2 (β 27)=z:=⟨_,rfl⟩
   obtain ⟨A28_27,hu_A28_27⟩:∃ z,sA (β 28)=z:=⟨_,rfl⟩
   obtain ⟨c28_27,hu_c28_27⟩:∃ z,sC (β 28)=z:=⟨_,rfl⟩
   have xX5:X 5= _:=(dTn (hD 4 lq)).2
   obtain ⟨r5_27,hu_r5_27⟩:∃ z,(X 5).fp=z:=⟨_,rfl⟩
   rw [hu_r5_27] at xX5
   clear hu_r5_27
   simp only [exq 2 ((dTn (hD 3 lq)).2.1),exq 3 ((dTn (hD 3 lq)).2.2.1),exq 4 ((dTn (hD 3 lq)).2.2.2),xX5,hu_B27a_27,hu_B27b_27,hu_B27c_27,hu_A28_27,hu_c28_27] at hst27
   simp only [ed 27 ((dTn (hD 3 lq)).1),ed 28 ((dTn (hD 4 lq)).1),ed 9 ((dTn (hD 5 lq))),hu_B27a_27,hu_B27b_27,hu_B27c_27,hu_A28_27,hu_c28_27] at hfr
   clear hD xX5 hu_B27a_27 hu_B27b_27 hu_B27c_27 hu_A28_27 hu_c28_27; subst hfr; clear σ β X
   refine then_normal (wp_seq (wp_seq (sqr (sqp [.m 29 8, .k 30 (.pointer (some ⟨B5_12,1,none⟩))] ?_))))
   refine sqld 0 hst27 ?_
   refine sqp [.k 32 (.bool ((k:Int)==nd.lv)), .m 33 32] ?_
   refine sqw 33 [34,35,36] rfl (fun _=>sqp [.m 34 9, .k 35 (vi ((((rowF ps root (k:Int))).length:Int))), .k 36 (.bool ((((rowF ps root (k:Int))).length:Int) != 1))] sqe) ?_
   refine sqp [sPa 37 ((k:Int)==nd.lv) ((((rowF ps root (k:Int))).length:Int) != 1), .m 38 37] ?_
   refine sqw' 38 [39,40,41,42,43,44,45] ?_ rfl (fun hq=>?_) ?_
   rotate_left
   ·refine sqp [.m 39 8, .k 40 (.bool (decide (0 < (k:Int)))), .m 41 40] ?_
    refine sqw 41 [42,43,44] rfl (fun _=>sqp [.m 42 7, .k 43 (vi (((belowL ps root k).length:Int))), .k 44 (.bool (((belowL ps root k).length:Int)==0))] sqe) ?_
    refine sqp [sPa 45 (decide (0 < (k:Int))) (((belowL ps root k).length:Int)==0)] ?_
    exact sqe
   refine sqwx ?_
   refine sqp [sPo 46 (((k:Int)==nd.lv)&&((((rowF ps root (k:Int))).length:Int) != 1)) ((decide (0 < (k:Int)))&&(((belowL ps root k).length:Int)==0)), .m 47 46] ?_
   refine sqwW 47 [48,49,50,51] ?_ hst27 rfl (fun hq=>?_) fun W51 hst51=>?_
   rotate_left
   ·refine sqp [.m 48 9, .m 49 7] ?_
    refine sqk (.bool (rgF (rowF ps root (k:Int)) (belowL ps root k))) hst27 (fun cx=>⟨_,kright_cl (CtxV.holdF cx (cx.init 5 _ rfl) rfl) (CtxV.holdF cx (cx.init 1 _ rfl) rfl) (fun y hy=>nd_ok hok (row_nd y hy).1) (row_len _ _ _) (below_len _ _ _),(map2 (cx.ou 48) (cx.ou 49))⟩) fun W49 hst49=>?_
    refine sqp [.k 51 (.bool (!(rgF (rowF ps root (k:Int)) (belowL ps root k))))] ?_
    exact sqE hst49
   refine sqwx ?_
   refine sqp [sPo 52 ((((k:Int)==nd.lv)&&((((rowF ps root (k:Int))).length:Int) != 1))||((decide (0 < (k:Int)))&&(((belowL ps root k).length:Int)==0))) (!(rgF (rowF ps root (k:Int)) (belowL ps root k)))] ?_
   refine then_normal (wbs (fun hs53=>?_) fun hs53=>?_)
   ·have hs53p:=hs53
    simp only [zB] at hs53p
    refine wp_seq (sqr (sqp [.k 4 (vi 11)] ?_))
    refine then_normal (wp_ret (then_ret (blk_ret (then_ret (then_ret (blk_ret (then_ret ?_)))))))
    refine bpr (vi 11) (results_1 Try.results37 rpt) ?_
    exact Ret.of (by rw [← ck_bad hnd (k:=k) (by omega) hs53]) hst51.ext
   have hs53p:=hs53
   simp only [zB] at hs53p
   obtain ⟨⟨hs53p1,hs53p2⟩,hs53p3⟩:=hs53p
   refine wp_skip (then_normal (sqr (sqp [.m 53 9, .m 7 53] ?_)))
   refine blk_normal (then_normal (sqr (sqp [sI 54 ((k:Int)+1) (by omega), .m 21 54] ?_)))
   refine then_normal ?_
   refine ⟨(nd.lv+1).toNat - ((k+1)),by omega,?_⟩
   exact ⟨(k+1),A28_27,c28_27,r5_27,by omega,all_step hall (by rw [show ckX ps root nd.lv k=false from hs53]; rfl),rfl,(by kernel_rfl),hst51.pk [0,5]⟩
  refine wp_exit (then_exit (then_exit (blk_eq (then_normal (wp_seq (sqr (sqp [.k 4 (vi 0)] ?_)))))))
  refine then_normal (wp_ret ?_)
  refine bpr (vi 0) (results_1 Try.results37 rpt) ?_
  exact Ret.of (by rw [← ck_ok hnd (k:=k) (by omega) hall]) hst22.ext
end
section
open Go.RowKit
theorem neB_nil {a:ByteArray} (h:a.size=0):neB a=false:=by
 have:a=⟨#[]⟩:=by apply bl_inj; exact List.length_eq_zero_iff.1 (by rw [bl_len]; exact h)
 subst this; rw [neB,beq_self_eq_true]; rfl
theorem idxP_pos {α:Type} {p:α→Bool} {x:α} {B:List α} (hx:p x=true):∀ {A:List α} {k:Int},(∀ y∈A,p y=false)→idxP p k (A++x::B)=k+A.length
 | [],k, _=>by rw [List.nil_append,idxP,if_pos hx]; simp
 | y::A,k,h=>by
   rw [List.cons_append,idxP,if_neg (by rw [h y (by simp)]; decide),idxP_pos hx fun z hz=>h z (by simp [hz]),List.length_cons]
   omega
theorem getD_mid {α:Type} {A B:List α} {x d:α}:(A++x::B).getD A.length d=x:=by
 rw [List.getD_eq_getElem?_getD,List.getElem?_append_right (Nat.le_refl _),Nat.sub_self]; rfl
/-- the bound of the node ahead is the next node's least entry -/
theorem high_prev {ps:List PgS} {lv:Int} {A B:List AbN} {b c:AbN} (h:RepL ps lv (A++b::c::B)):(ndD ps b.pg).high=c.low:=by
 obtain ⟨⟨n,h1, _, _, _,h5, _⟩, _⟩:=RepL.mem h
 rw [ndD_some h1,h5]; rfl
theorem low_at {ps:List PgS} {lv:Int} {pre suf:List AbN} {a:AbN} (h:RepL ps lv (pre++a::suf)):lowF ((pre++a::suf).map (ndP ps)) pre.length=if pre=[] then ⟨#[]⟩ else a.low:=by
 rcases List.eq_nil_or_concat pre with rfl | ⟨A,b,rfl⟩
 ·rfl
 ·rw [lowF,if_neg (by simp),if_neg (by simp)]
  rw [List.concat_eq_append] at h ⊢
  have e:((A++[b])++a::suf).map (ndP ps)=A.map (ndP ps)++ndP ps b::(a::suf).map (ndP ps):=by simp
  have e2:(A++[b]).length - 1=(A.map (ndP ps)).length:=by simp
  rw [e,e2,getD_mid]
  exact high_prev (by simpa using h)
theorem low_idx {ps:List PgS} {lv:Int} {p s:List AbN} {m:AbN} (hL:LvOk (p++m::s)) (h:RepL ps lv (p++m::s)):ldW ((p++m::s).map (ndP ps)) (p.length:Int)=m.low:=by
 rcases List.eq_nil_or_concat p with rfl | ⟨A,b,rfl⟩
 ·rw [ldW,if_neg (by simp)]; exact hL.headlow.symm
 ·rw [ldW,if_pos (by simp)]
  rw [List.concat_eq_append] at h ⊢
  have e:((A++[b])++m::s).map (ndP ps)=A.map (ndP ps)++ndP ps b::(m::s).map (ndP ps):=by simp
  have e2:(((A++[b]).length:Int) - 1).toNat=(A.map (ndP ps)).length:=by simp
  have e3:ldW ((A++[b]++m::s).map (ndP ps)) ((A++[b]).length:Int)= _:=rfl
  rw [e,e2,show (0,nodZ)=((0,nodZ):Int×NoD) from rfl,getD_mid]
  exact high_prev (by simpa using h)
theorem ld_ok {ps:List PgS} {lv:Int} {below:List AbN} {es:List EnD} {a:AbN} (hL:LvOk below) (h:RepL ps lv below) (hd:(below.map AbN.pg).Nodup) (hes:es.map kv=a.es) (hne:0 < es.length) (hin:∀ e∈a.es,∃ m∈below,m.pg=e.2∧m.low=e.1):ldF (below.map (ndP ps)) es=true:=by
 rw [ldF,Bool.and_eq_true]
 refine ⟨List.all_eq_true.2 fun i hi=>?_,decide_eq_true (by omega)⟩
 have hi:=List.mem_range.1 hi
 obtain ⟨e,he⟩:∃ z,es.getD i en0=z:=⟨_,rfl⟩
 have hem:e∈es:=by rw [← he]; exact (getD_mem' hi).2
 rw [he]
 obtain ⟨m,hm,h1,h2⟩:=hin _ (kv_mem hes hem)
 obtain ⟨p,s,rfl⟩:=List.append_of_mem hm
 have hidx:ldI ((p++m::s).map (ndP ps)) e.2.2=(p.length:Int):=by
  rw [ldI,List.map_append,List.map_cons,idxP_pos (by show ((ndP ps m).1==e.2.2)=true; rw [beq_iff_eq]; exact h1),List.length_map]
  ·omega
  ·intro y hy
   obtain ⟨b,hb,rfl⟩:=List.mem_map.1 hy
   show ((ndP ps b).1==e.2.2)=false
   rw [beq_eq_false_iff_ne]
   intro e2
   have e2:b.pg=e.2.2:=e2
   rw [List.map_append] at hd
   exact (List.nodup_append.1 hd).2.2 b.pg (List.mem_map.2 ⟨b,hb,rfl⟩) m.pg (by simp) (e2.trans h1.symm)
 rw [ldS,hidx,low_idx hL h,h2,beq_self_eq_true,decide_eq_false (by omega)]; rfl
theorem sr_ok {n:NoD} {a:AbN} {suf:List AbN} {lo:ByteArray} (hv:NdV a) (hes:n.es.map kv=a.es) (hhi:n.high=hiA suf) (hlo:lo=⟨#[]⟩∨lo=a.low) (hlt:∀ c∈suf,LtA a c):srF n.high lo n.es=true:=by
 rw [srF]
 refine List.all_eq_true.2 fun i hi=>?_
 have hi:=List.mem_range.1 hi
 obtain ⟨e,he⟩:∃ z,n.es.getD i en0=z:=⟨_,rfl⟩
 have hem:e∈n.es:=by rw [← he]; exact (getD_mem' hi).2
 have hea:=kv_mem hes hem
 have h1:(neB lo&&lessF e.1 lo)=false:=by
  rcases hlo with rfl | rfl
  ·rw [neB_nil rfl]; rfl
  ·rw [hv.ge _ hea,Bool.and_false]
 have h2:(neB n.high&&!(lessF e.1 n.high))=false:=by
  rw [hhi]
  cases suf with
  | nil=>rw [show hiA []=ByteArray.empty from rfl,neB_nil rfl]; rfl
  | cons c s=>
    rw [show hiA (c::s)=c.low from rfl,(hlt c (by simp)).2 _ hea]
    simp
 have h3:(decide (0 < (i:Int))&&(e.1.toList==(n.es.getD ((i:Int) - 1).toNat en0).1.toList))=false:=by
  by_cases h0:0 < (i:Int)
  ·obtain ⟨j,rfl⟩:∃ j,i=j+1:=⟨i - 1,by omega⟩
   have hr:n.es.Pairwise (fun a b=>lessF a.1 b.1=true):=by have:=hv.ris; rw [← hes] at this; exact List.pairwise_map.1 this
   have hj:((((j+1:Nat):Int) - 1).toNat)=j:=by omega
   rw [hj]
   have h4:=List.pairwise_iff_getElem.1 hr j (j+1) (by omega) hi (by omega)
   have e1:n.es[j+1]=e:=by rw [← he,List.getD_eq_getElem?_getD,List.getElem?_eq_getElem hi]; rfl
   have e2:n.es.getD j en0=n.es[j]:=by rw [List.getD_eq_getElem?_getD,List.getElem?_eq_getElem (by omega)]; rfl
   rw [e1] at h4
   rw [e2]
   have:(e.1.toList==(n.es[j]).1.toList)=false:=by
    rw [beq_eq_false_iff_ne]
    intro e3
    rw [ByteArray.toList_eq,ByteArray.toList_eq] at e3
    rw [bl_inj e3,lessF_irr] at h4; cases h4
   rw [this,Bool.and_false]
  ·rw [decide_eq_false h0]; rfl
 rw [srS,he,h1,h2,h3]; rfl
theorem rg_ok {ps:List PgS} {T:List (List AbN)} {root:Int} (h:Tr ps T root) {k:Nat} {l:List AbN} (hk:T[k]? =some l) (hlen:l.length≤400) {Lb:List (Int×NoD)} (hb:∀ k0,k=k0+1→∃ below,T[k0]? =some below∧Lb=below.map (ndP ps)):rgF (l.map (ndP ps)) Lb=true:=by
 obtain ⟨hrep,hL⟩:=h.level hk
 have hpos:0 < l.length:=by obtain ⟨a,t,rfl, _⟩:=hL.hd; simp
 rw [rgF,Bool.and_eq_true,List.length_map]
 refine ⟨List.all_eq_true.2 fun i hi=>?_,by rw [decide_eq_true (by omega),decide_eq_true (by omega)]; rfl⟩
 have hi:=List.mem_range.1 hi
 obtain ⟨pre,a,suf,e,hpl⟩:∃ pre a suf,l=pre++a::suf∧pre.length=i:=⟨l.take i,l[i],l.drop (i+1),by rw [List.getElem_cons_drop,List.take_append_drop],by rw [List.length_take]; omega⟩
 subst e hpl
 obtain ⟨n,h1,h2,h3,h4,h5,h6⟩:=h.node hk
 have hA:=hL.nd a (by simp)
 obtain ⟨_,pp, _⟩:=List.pairwise_append.1 hL.pw
 have hlt:=(List.pairwise_cons.1 pp).1
 have hg:((pre++a::suf).map (ndP ps)).getD pre.length (0,nodZ)=(a.pg,n):=by
  have e:(pre++a::suf).map (ndP ps)=pre.map (ndP ps)++ndP ps a::suf.map (ndP ps):=by simp
  rw [e,show pre.length=(pre.map (ndP ps)).length by simp,getD_mid,ndP,ndD_some h1]
 have hlo:=low_at hrep
 obtain ⟨lo,hlo2⟩:∃ z,lowF ((pre++a::suf).map (ndP ps)) pre.length=z:=⟨_,rfl⟩
 rw [hlo2] at hlo
 have hlo3:lo=⟨#[]⟩∨lo=a.low:=by rw [hlo]; split; exact .inl rfl; exact .inr rfl
 rw [rgX,hg,hlo2,List.length_map]
 have lst:(((pre.length:Nat):Int)==((pre++a::suf).length:Int) - 1)=decide (suf=[]):=by
  rw [List.length_append,List.length_cons]
  cases suf with
  | nil=>simp
  | cons c s=>simp; omega
 have hA1:rgA n (((pre.length:Nat):Int)==((pre++a::suf).length:Int) - 1) lo=false:=by
  rw [rgA,h3,sr_ok hA h6 h5 hlo3 hlt,lst,decide_eq_false (show ¬ 8 < (n.es.length:Int) by have:=hA.len; rw [← h6,List.length_map] at this; omega),h4,h5]
  cases suf with
  | nil=>rw [show (hiA []).toList=(⟨#[]⟩:ByteArray).toList from rfl,beq_self_eq_true]; rfl
  | cons c s=>
    have hc:=h.pg_lt (pgs_mem hk (a:=c) (by simp))
    rw [show hiA (c::s)=c.low from rfl,ne_nil_size (hL.l4 c (by simp)),show rtA (c::s)=c.pg from rfl,decide_eq_false (show ¬ c.pg < 0 by omega)]; rfl
 have hB1:rgB n pre.length Lb=false:=by
  rw [rgB]
  by_cases h0:0 < n.lv
  ·obtain ⟨k0,rfl⟩:∃ k0,k=k0+1:=⟨k - 1,by omega⟩
   obtain ⟨below,hbl,rfl⟩:=hb k0 rfl
   obtain ⟨⟨k1,t,g1⟩,g2⟩:=h.inn k0 _ _ hk hbl a (by simp)
   obtain ⟨hrb,hLb⟩:=h.level hbl
   have hdist:(below.map AbN.pg).Nodup:=by
    obtain ⟨T1,T2,e2, _, _⟩:=lv_split hbl
    have hd:=h.dist
    rw [e2,pgs_app] at hd
    exact (List.nodup_append.1 (List.nodup_append.1 hd).2.1).1
   have hnl:0 < n.es.length:=by rw [← List.length_map (f:=kv),h6,g1]; simp
   rw [ld_ok hLb hrb hdist h6 hnl g2,decide_eq_true h0]
   by_cases hp:pre=[]
   ·subst hp
    obtain ⟨c,u,rfl,hcl⟩:=hLb.hd
    obtain ⟨m,hm,hm1,hm2⟩:=g2 (a.low,k1) (by rw [g1]; simp)
    have hmc:=hLb.first hm (by rw [hm2]; exact hL.headlow)
    have hx:(n.es.getD 0 en0).2.2=c.pg:=by
     obtain ⟨x,r,he⟩:=List.exists_cons_of_ne_nil (List.length_pos_iff.1 hnl)
     rw [he,g1] at h6
     injection h6 with h7 _
     have h7:kv x=(a.low,k1):=h7
     injection h7 with _ h8
     rw [he]
     show x.2.2=c.pg
     rw [h8,← hmc]; exact hm1.symm
    rw [hx]
    show (true&&(!true||((((0:Nat):Int)==0)&&(c.pg != (ndP ps c).1))))=false
    simp [ndP]
   ·have:(((pre.length:Nat):Int)==0)=false:=by
     rw [beq_eq_false_iff_ne]
     have:=List.length_pos_iff.2 hp
     omega
    rw [this]; rfl
  ·rw [decide_eq_false h0]; rfl
 have hC1:rgC n lo=false:=by
  rw [rgC]
  rcases hlo3 with rfl | rfl
  ·rw [neB_nil rfl]; rfl
  ·rw [h5]
   cases suf with
   | nil=>rw [show hiA []=ByteArray.empty from rfl,show neB ByteArray.empty=false from neB_nil rfl]; simp
   | cons c s=>rw [show hiA (c::s)=c.low from rfl,lessF_asym (hlt c (by simp)).1,Bool.and_false]
 rw [hA1,hB1,hC1]; rfl
theorem Tr.check {ps:List PgS} {T:List (List AbN)} {root:Int} (h:Tr ps T root) (hps:ps.length≤150):checkF ps root=0:=by
 obtain ⟨T0,r,e,h1,h2,h3⟩:=h.root
 obtain ⟨n,g1,g2, _⟩:=h.node (pre:=[]) h3
 rw [h1] at g1
 have hlT:T.length=T0.length+1:=by rw [e]; simp
 have hbd:=h.bd
 rw [checkF,g1]
 dsimp only
 rw [if_pos]
 refine List.all_eq_true.2 fun k hk=>?_
 have hk:=List.mem_range.1 hk
 have hkT:T[k]? =some (T[k]'(by omega)):=List.getElem?_eq_getElem (by omega)
 obtain ⟨l,hl⟩:∃ l,T[k]'(by omega)=l:=⟨_,rfl⟩
 rw [hl] at hkT
 have hrow:=h.row hps hkT
 have hll:l.length≤150:=by
  have:l.length≤(pgsA T).length:=by
   rw [pgs_flat]
   obtain ⟨T1,T2,e2, _, _⟩:=lv_split hkT
   rw [e2]; simp; omega
  omega
 have hbel:∀ k0,k=k0+1→∃ below,T[k0]? =some below∧belowL ps root k=below.map (ndP ps):=by
  rintro k0 rfl
  have hb:T[k0]? =some (T[k0]'(by omega)):=List.getElem?_eq_getElem (by omega)
  exact ⟨_,hb,h.row hps hb⟩
 have c1:(((k:Int)==n.lv)&&(((rowF ps root (k:Int)).length:Int) != 1))=false:=by
  by_cases hkn:k=T0.length
  ·subst hkn
   rw [h3] at hkT
   injection hkT with hkT
   rw [hrow,← hkT]; simp
  ·rw [show ((k:Int)==n.lv)=false by rw [beq_eq_false_iff_ne,g2]; omega]; rfl
 have c2:(decide (0 < (k:Int))&&(((belowL ps root k).length:Int)==0))=false:=by
  by_cases h0:0 < (k:Int)
  ·obtain ⟨k0,rfl⟩:∃ k0,k=k0+1:=⟨k - 1,by omega⟩
   obtain ⟨below,hb,hbe⟩:=hbel k0 rfl
   obtain ⟨c,u,rfl, _⟩:=(h.level hb).2.hd
   rw [hbe]
   rw [show ((((c::u).map (ndP ps)).length:Int)==0)=false by rw [beq_eq_false_iff_ne]; simp; omega,Bool.and_false]
  ·rw [decide_eq_false h0]; rfl
 have c3:rgF (rowF ps root (k:Int)) (belowL ps root k)=true:=by rw [hrow]; exact rg_ok h hkT (by omega) hbel
 rw [ckX,c1,c2,c3]; rfl
end
section
open Go.RowKit
theorem grown_gs (l:List Int):∃ T nx,GS 0 (grownF l) T nx∧(lfs T).Perm (entsG l (min l.length 90)):=by
 obtain ⟨T,h1,h2⟩:=grown_tr l (min l.length 90) (by omega)
 exact ⟨T, _,h1,h2⟩
end
section
open Go.RowKit
/-- the book holds a valid tree with the entries of the numbers S -/
def SortI (l:List Int) (ps:List PgS) (S:List Nat):Prop:=∃ T,Tr ps T 0∧(lfs T).Perm (S.map fun i=>(entG l i, -1))∧S.Nodup∧(∀ i∈S,i < 90)∧(∀ q∈ps,q.2.2.length≤101)∧ps.length=60
theorem sort_start (l:List Int):SortI l (grownF l) (List.range (min l.length 90)):=by
 obtain ⟨T,nx,h1,h2⟩:=grown_gs l
 exact ⟨T,h1.tr,h2,List.nodup_range,fun i hi=>by have:=List.mem_range.1 hi; omega,h1.its,h1.len⟩
def offS (S:List Nat) (k:Nat):List Nat:=S.filter fun i=>!(i==k)
theorem off_mem {S:List Nat} {k i:Nat}:i∈offS S k↔i∈S∧i≠k:=by simp [offS]
theorem sort_rm {l:List Int} {ps:List PgS} {S:List Nat} (h:SortI l ps S) {k:Nat} (hk:k < 90):(rmF ps 0 (entG l k)).2=decide (k∈S)∧SortI l (doB ps (rmF ps 0 (entG l k)).1) (offS S k):=by
 obtain ⟨T,h1,h2,h3,h4,h5,h6⟩:=h
 have hz:4≤(entG l k).size:=by rw [entG,entF_size]; omega
 obtain ⟨T',g1,g2,g3, _⟩:=h1.rm (x:=entG l k) hz (by omega) h5
 have hin:(∃ e∈lfs T,e.1=entG l k)↔k∈S:=by
  constructor
  ·rintro ⟨e,he,hx⟩
   obtain ⟨j,hj,rfl⟩:=List.mem_map.1 (h2.mem_iff.1 he)
   have:=entG_inj (by have:=h4 j hj; omega) (by omega) hx
   rwa [← this]
  ·intro hk
   exact ⟨_,h2.mem_iff.2 (List.mem_map.2 ⟨k,hk,rfl⟩),rfl⟩
 refine ⟨?_,T',g1,?_,h3.filter _,fun i hi=>h4 i (off_mem.1 hi).1,its_do h5,by rw [doB_len]; exact h6⟩
 ·cases hb:(rmF ps 0 (entG l k)).2 with
  | true=>rw [decide_eq_true (hin.1 (g3.1 hb))]
  | false=>rw [decide_eq_false]; intro hk; rw [g3.2 (hin.2 hk)] at hb; cases hb
 ·rw [g2,remA]
  refine (h2.filter _).trans (List.Perm.of_eq ?_)
  rw [List.filter_map,offS]
  congr 1
  refine List.filter_congr fun i hi=>?_
  show (!((entG l i).toList==(entG l k).toList))=!(i==k)
  congr 1
  by_cases e:i=k
  ·subst e; simp
  ·have:¬ entG l i=entG l k:=fun h=>e (entG_inj (by have:=h4 i hi; omega) (by omega) h)
   rw [show (i==k)=false by rw [beq_eq_false_iff_ne]; exact e]
   cases hc:((entG l i).toList==(entG l k).toList) with
   | true=>exact absurd (tl_eq.1 hc) this
   | false=>rfl
theorem sort_check {l:List Int} {ps:List PgS} {S:List Nat} (h:SortI l ps S):checkF ps 0=0:=by
 obtain ⟨T,h1, _, _, _, _,h6⟩:=h
 exact h1.check (by omega)
theorem sort_len {l:List Int} {ps:List PgS} {S:List Nat} (h:SortI l ps S):(allF ps 0).length=S.length∧S.Nodup∧S.length≤90:=by
 obtain ⟨T,h1,h2,h3,h4, _,h6⟩:=h
 refine ⟨by rw [← List.length_map (f:=kv),h1.all (by omega),h2.length_eq,List.length_map],h3,?_⟩
 have:=sub_len (m:=List.range 90) h3 fun i hi=>List.mem_range.2 (h4 i hi)
 rwa [List.length_range] at this
theorem sort_at {l:List Int} {ps:List PgS} {S:List Nat} (h:SortI l ps S) {i:Nat} (hi:i < (allF ps 0).length):∃ j∈S,j < 90∧((allF ps 0).getD i en0).1=entG l j:=by
 obtain ⟨T,h1,h2,h3,h4, _,h6⟩:=h
 obtain ⟨e,he⟩:∃ z,(allF ps 0).getD i en0=z:=⟨_,rfl⟩
 have hm:e∈allF ps 0:=by rw [← he]; exact (getD_mem' hi).2
 have hk:kv e∈lfs T:=by rw [← h1.all (by omega)]; exact List.mem_map.2 ⟨e,hm,rfl⟩
 obtain ⟨j,hj,hje⟩:=List.mem_map.1 (h2.mem_iff.1 hk)
 refine ⟨j,hj,h4 j hj,?_⟩
 rw [he]
 exact (congrArg Prod.fst hje).symm
theorem all_rises {ps:List PgS} {T:List (List AbN)} {root:Int} (h:Tr ps T root) (hps:ps.length≤150):(allF ps root).Pairwise (fun a b=>lessF a.1 b.1=true):=by
 have h2:=h.all hps
 obtain ⟨T0,r,e, _, _, _⟩:=h.root
 have h0:T[0]? =some (lvA T 0):=by
  have:0 < T.length:=by rw [e]; simp
  rw [lvA,List.getD_eq_getElem?_getD,List.getElem?_eq_getElem this]; rfl
 have h3:=(h.level h0).2.rises
 rw [show (lvA T 0).flatMap AbN.es=lfs T from rfl,← h2] at h3
 exact List.pairwise_map.1 h3
theorem sort_rise {l:List Int} {ps:List PgS} {S:List Nat} (h:SortI l ps S) {i j:Nat} (hi:i < (allF ps 0).length) (hj:j < i):lessF ((allF ps 0).getD j en0).1 ((allF ps 0).getD i en0).1=true:=by
 obtain ⟨T,h1, _, _, _, _,h6⟩:=h
 have h2:=List.pairwise_iff_getElem.1 (all_rises h1 (by omega)) j i (by omega) hi hj
 rw [List.getD_eq_getElem?_getD,List.getD_eq_getElem?_getD,List.getElem?_eq_getElem hi,List.getElem?_eq_getElem (show j < (allF ps 0).length by omega)]
 exact h2
theorem tot8:∀ {l:List AbN},(∀ a∈l,a.es.length≤8)→totA l≤8*l.length
 | [], _=>Nat.le_refl _
 | a::l,h=>by
   have h1:=tot8 (l:=l) fun b hb=>h b (by simp [hb])
   have h2:=h a (by simp)
   rw [totA_cons,List.length_cons]; omega
theorem sort_leaves {l:List Int} {ps:List PgS} {S:List Nat} (h:SortI l ps S):(allF ps 0).length≤8*(rowF ps 0 0).length:=by
 obtain ⟨T,h1, _, _, _, _,h6⟩:=h
 obtain ⟨T0,r,e, _, _, _⟩:=h1.root
 have h0:T[0]? =some (lvA T 0):=by
  have:0 < T.length:=by rw [e]; simp
  rw [lvA,List.getD_eq_getElem?_getD,List.getElem?_eq_getElem this]; rfl
 have hr:rowF ps 0 0=(lvA T 0).map (ndP ps):=h1.row (by omega) h0
 rw [hr,← List.length_map (f:=kv),h1.all (by omega),List.length_map,lfs,totA_len]
 exact tot8 fun a ha=>((h1.level h0).2.nd a ha).len
-- the set of the entries left, as a map
def mS (S:List Nat):Int→Option Bool:=fun x=>if x∈S.map (fun i:Nat=>(i:Int)) then some true else none
def mB (S:List Nat) (x:Int):Bool:=(mS S x).getD false
theorem mem_cast {S:List Nat} {k:Nat}:(k:Int)∈S.map (fun i:Nat=>(i:Int))↔k∈S:=by
 constructor
 ·intro h
  obtain ⟨j,hj,e⟩:=List.mem_map.1 h
  have:j=k:=by omega
  rwa [← this]
 ·intro h; exact List.mem_map.2 ⟨k,h,rfl⟩
theorem mB_at (S:List Nat) (k:Nat):mB S (k:Int)=decide (k∈S):=by
 unfold mB mS
 by_cases h:k∈S
 ·rw [if_pos (mem_cast.2 h),decide_eq_true h]; rfl
 ·rw [if_neg (fun h2=>h (mem_cast.1 h2)),decide_eq_false h]; rfl
end
section
open Go.RowKit Go.Maps Go.ChangeMaps
/-- how keys are written -/
structure Kc (κ:Type) where
 enc:κ→Value
 lit:κ→Lit
 ok:κ→Prop
 ty:Program→TypeId→Prop
 inj:∀ {x y},lit x=lit y→x=y
 isk:∀ x,WideAt.IsKeyLit (lit x)
 keyed:∀ {P k},ty P k→Keyed P k
 key:∀ {P k x},ty P k→ok x→keyOf P k (enc x)=some (lit x)
def kcI:Kc Int where
 enc:= .int .i64
 lit:= .int .i64
 ok x:= -9223372036854775808≤x∧x≤9223372036854775807
 ty P k:=P.underlying k=some (.int .i64)
 inj h:=by injection h
 isk _:=trivial
 keyed h:=int_keyed h
 key h hx:=keyOf_int_mk h (by
  show (decide (IntKind.i64.min≤ _)&&decide (_≤IntKind.i64.max))=true
  have h1:IntKind.i64.min= -9223372036854775808:=by decide
  have h2:IntKind.i64.max=9223372036854775807:=by decide
  rw [h1,h2,decide_eq_true hx.1,decide_eq_true hx.2]; rfl)
/-- how an element lies in a map and how it reads -/
structure Ec (ε:Type) where
 enc:ε→Value
 dat:ε→DataW Unit
 R:Value→Option (DataW Unit×List MemPlace)
 e0:ε
 okE:ε→Prop
 read:∀ e,okE e→R (enc e)=some (dat e,[])
 back:∀ v d ps e,R v=some (d,ps)→d=dat e→v=enc e
 ok0:okE e0
def MapX {κ ε:Type} (K:Kc κ) (C:Ec ε) (P:Program) (k b n:Nat) (m:κ→Option ε) (W:World):Prop:=
 ∃ D:DataW Unit,W.ownsMap P k C.R b n D∧Tidy D∧size D=n∧∀ x,K.ok x→has D (K.lit x)=(m x).isSome∧D.atKey (K.lit x) (C.dat C.e0)=C.dat ((m x).getD C.e0)
def eMx {κ ε:Type} (K:Kc κ) (C:Ec ε) (P:Program) (k b n:Nat) (m:κ→Option ε):Ent:=⟨[b],MapX K C P k b n m⟩
def putX {κ ε:Type} [DecidableEq κ] (m:κ→Option ε) (x:κ) (e:Option ε):κ→Option ε:=fun y=>if y=x then e else m y
theorem owns_size {H:Type} {P:Program} {k b n:Nat} {R:Value→Option (DataW H×List MemPlace)} {W:World} {D:DataW H} (h:W.ownsMap P k R b n D):W.ownsMap P k R b (size D) D:=by
 obtain ⟨es,clock,hb,F,hs,rfl⟩:=h
 refine ⟨es,clock,hb,F,?_,rfl⟩
 simp [Maps.size,length_sorted]
section
variable {κ ε:Type} {K:Kc κ} {C:Ec ε}
theorem eMx_loc (P:Program) (k b n:Nat) (m:κ→Option ε):(eMx K C P k b n m).loc:=fun W W' h hb=>by
 obtain ⟨D,⟨es,clock,h1,h2⟩,h3⟩:=hb
 exact ⟨D,⟨es,clock,(h b (by simp [eMx])).trans h1,h2⟩,h3⟩
variable {P:Program} {o:Oper} {ρ:Operand→Value} {W:World} {k e b n:Nat} {m:κ→Option ε}
theorem MapX.lt (h:MapX K C P k b n m W):b < W.heap.size:=by
 obtain ⟨D,hD, _⟩:=h
 exact hD.lt
theorem run_lookMx {t:TypeId} {y z:Operand} {x:κ} (h:o.op= .lookup t y z false) (hy:ρ y= .map (some b)) (hz:ρ z=K.enc x) (hb:MapX K C P k b n m W) (h0:(zeroValue e).run P W= .ok (C.enc C.e0) W) (hx:K.ok x)
  (hk:K.ty P k:=by kernel_rfl) (ht:P.underlying t=some (.map k e):=by kernel_rfl):(execOp ρ o).run P W= .ok (.value (C.enc ((m x).getD C.e0))) W:=by
 obtain ⟨D,hD, _, _,hm⟩:=hb
 obtain ⟨v,ps,hrun,hv⟩:=hD.lookup (K.keyed hk) ht h0 (C.read C.e0 C.ok0) (K.key hk hx)
 rw [C.back v _ ps _ hv (hm x hx).2] at hrun
 unfold execOp
 rw [h]
 simp [hy,hz,hrun]
theorem run_lenMx {c:Call} {y:Operand} {t:TypeId} (h:o.op= .call c) (hc:c.callee= .builtin .len) (ha:c.args=#[y]) (hat:c.argTypes=#[t]) (hy:ρ y= .map (some b)) (hb:MapX K C P k b n m W) (ht:P.underlying t=some (.map k e):=by kernel_rfl):
  (execOp ρ o).run P W= .ok (.value (.int .i64 (n:Int))) W:=by
 obtain ⟨D,hD, _,hs, _⟩:=hb
 have hl:=hD.len ht o.type
 rw [hs] at hl
 unfold execOp
 rw [h]
 obtain ⟨cal,args,tys⟩:=c
 simp only at hc ha hat
 subst hc ha hat
 simp [go_sem,hy,hl]
def mzP (m:κ→Option ε) (x:κ) (n:Nat):Nat:=if (m x).isSome then n else n+1
theorem run_setMx [DecidableEq κ] {t:TypeId} {y z u:Operand} {x:κ} {v:ε} (h:o.op= .mapUpdate t y z u∨o.op= .insert t y z u) (hy:ρ y= .map (some b)) (hz:ρ z=K.enc x) (hu:ρ u=C.enc v) (hb:MapX K C P k b n m W) (hv:C.okE v) (hn:n < 1000000) (hx:K.ok x)
  (hk:K.ty P k:=by kernel_rfl) (ht:P.underlying t=some (.map k e):=by kernel_rfl):
  ∃ W',(execOp ρ o).run P W= .ok .skip W'∧MapX K C P k b (mzP m x n) (putX m x (some v)) W'∧Upd [b] W W':=by
 obtain ⟨D,hD,hI,hs,hm⟩:=hb
 obtain ⟨W',hrun,hown,hg⟩:=hD.update (K.keyed hk) ht (by simp only [maxLen]; omega) (K.key hk hx) (C.read v hv)
 have hsz:size (D.put (K.lit x) (C.dat v))=mzP m x n:=by rw [size_put hI,(hm x hx).1,hs,mzP]
 refine ⟨W',?_,⟨_,by have h9:=owns_size hown; rwa [hsz] at h9,hI.put (K.isk x) _,hsz,fun y hy=>?_⟩,⟨hg.os,hg.tape,hg.output,hg.size,fun i hi hn=>hg.block i hi (fun e'=>hn (by cases e'; simp))⟩⟩
 ·unfold execOp
  rcases h with h | h<;>rw [h]<;>simp [hy,hz,hu,hrun]
 ·unfold putX
  by_cases e':y=x
  ·subst e'
   rw [if_pos rfl]
   exact ⟨has_put_same hI.isMap (K.isk y) _,atKey_put_same hI.isMap (K.isk y) _ _⟩
  ·have e2:K.lit y≠K.lit x:=fun h=>e' (K.inj h)
   rw [if_neg e',has_put_other e2,atKey_put_other e2]
   exact hm y hy
def mzD (m:κ→Option ε) (x:κ) (n:Nat):Nat:=if (m x).isSome then n - 1 else n
theorem run_delMx [DecidableEq κ] {c:Call} {y z:Operand} {x:κ} {t:TypeId} (h:o.op= .call c) (hc:c.callee= .builtin .delete) (ha:c.args=#[y,z]) (hat:c.argTypes=#[t,k]) (hy:ρ y= .map (some b)) (hz:ρ z=K.enc x) (hb:MapX K C P k b n m W) (hx:K.ok x)
  (hk:K.ty P k:=by kernel_rfl) (ht:P.underlying t=some (.map k e):=by kernel_rfl):
  ∃ W',(execOp ρ o).run P W= .ok (.value (.tuple #[])) W'∧MapX K C P k b (mzD m x n) (putX m x none) W'∧Upd [b] W W':=by
 obtain ⟨D,hD,hI,hs,hm⟩:=hb
 obtain ⟨W',hrun,hown,es,clock,es',clock',h1,h2⟩:=hD.drop (K.keyed hk) ht (K.key hk hx) o.type
 have hsz:size (D.del (K.lit x))=mzD m x n:=by
  have h9:=size_del (k:=K.lit x) hI
  rw [(hm x hx).1,hs] at h9
  unfold mzD
  split at h9
  ·rw [if_pos (by assumption)]; omega
  ·rw [if_neg (by assumption)]; omega
 refine ⟨W',?_,⟨_,by have h9:=owns_size hown; rwa [hsz] at h9,hI.del _,hsz,fun y hy=>?_⟩,?_⟩
 ·unfold execOp
  rw [h]
  obtain ⟨cal,args,tys⟩:=c
  simp only at hc ha hat
  subst hc ha hat
  simp [go_sem,hy,hz,hrun]
 ·unfold putX
  by_cases e':y=x
  ·subst e'
   rw [if_pos rfl]
   exact ⟨has_del_same,atKey_del_same _⟩
  ·have e2:K.lit y≠K.lit x:=fun h=>e' (K.inj h)
   rw [if_neg e',has_del_other e2,atKey_del_other e2]
   exact hm y hy
 ·subst h2
  exact ⟨rfl,rfl,rfl,by simp [setBlock],fun i hi hn=>heap_setBlock_other h1 _ (fun e'=>hn (by simp [e']))⟩
theorem MapX.made:MapX K C P k W.heap.size 0 (fun _=>none) (W.alloc (.map #[] 0)):=⟨.map [],World.ownsMap_made W P k C.R,tidy_empty,rfl,fun x hx=>⟨rfl,rfl⟩⟩
end
section
variable {κ ε:Type} {K:Kc κ} {C:Ec ε} {P:Program} {ops:Array Oper} {L:List Nat} {a0:Act} {w0:World} {bor:List Nat} {X0:List Ent} {us cr kl:List (List Nat)}
 {D:Nat→(Tmp→Value)→(Tmp→Value)→(Nat→Ent)→Prop} {i:Nat} {o:Oper} {ρ:Operand→Value} {β:Tmp→Value} {W:World} {X:Nat→Ent}
def pbx:Value→Nat
 | .map (some b)=>b
 | _=>0
theorem CtxV.mx {q k b n:Nat} {m:κ→Option ε} (cx:CtxV ops L a0 w0 bor X0 us D i ρ β W X) (hX:X q=eMx K C P k b n m) (hu:(atV us i).contains q=true):MapX K C P k b n m W:=by
 have h:=(cx.ok q hu).holds
 rw [hX] at h; exact h
theorem dv_makeMx {t d k q:Nat} (h:o.op= .makeMap t none) (hd:o.dst=some d) (hc:atV cr i=[q]) (hk:atV kl i=[])
  (hD:∀ (σ β':Tmp→Value) (X':Nat→Ent),(∀ t,t≠d→σ t=ρ (.tmp t))→(∀ t,t≠d→β' t=β t)→σ d= .map (some (pbx (β' d)))→X' q=eMx K C P k (pbx (β' d)) 0 (fun _=>none)→D i σ β' X'):DoesU P o ρ W (PostV cr kl D i o.dst ρ β W X):=by
 refine DoesU.value (v:= .map (some W.heap.size)) (w':=W.alloc (.map #[] 0)) (by unfold execOp; rw [h]; rfl) ?_
 refine post_call [eMx K C P k W.heap.size 0 (fun _=>none)] hk (by rw [hc]; rfl) ((Ext.refl W).alloc _) (one_new ⟨MapX.made,eMx_loc _ _ _ _ _,fun k' hk'=>?_⟩) (List.pairwise_singleton _ _) (fun σ β' X' hs hb hv hN=>?_)
 ·have:k'=W.heap.size:=by simpa [eMx] using hk'
  subst this
  exact ⟨Nat.le_refl _,by simp⟩
 ·have hv1:=(hv d hd).1; have hv2:=(hv d hd).2
  rw [hc] at hN
  refine hD σ β' X' (fun t ht=>hs t (by rw [hd]; simpa using ht.symm)) (fun t ht=>hb t (by rw [hd]; simpa using ht.symm)) ?_ ?_
  ·rw [hv1,hv2]; rfl
  ·rw [hv2]; exact (List.cons.inj hN).1
theorem post_mapX {k b n n' q q':Nat} {m m':κ→Option ε} {W':World} (hX:X q=eMx K C P k b n m) (h1:MapX K C P k b n' m' W') (h2:Upd [b] W W') (hc:atV cr i=[q']) (hkl:atV kl i=[q]):
  ([eMx K C P k b n' m'].length=(atV cr i).length)∧(Upd ((atV kl i).flatMap fun q=>(X q).fp) W W')∧∀ e'∈[eMx K C P k b n' m'],e'.holds W'∧e'.loc∧∀ k'∈e'.fp,(k'∈((atV kl i).flatMap fun q=>(X q).fp)∨W.heap.size≤k')∧k' < W'.heap.size:=by
 refine ⟨by rw [hc]; rfl,?_,fun e' he'=>?_⟩
 ·rw [hkl]
  simp only [List.flatMap_cons,List.flatMap_nil,List.append_nil,hX]
  exact h2
 ·rw [List.mem_singleton] at he'
  subst he'
  refine ⟨h1,eMx_loc _ _ _ _ _,fun k' hk'=>?_⟩
  have hkb:k'=b:=by simpa [eMx] using hk'
  subst hkb
  refine ⟨.inl ?_,h1.lt⟩
  rw [hkl]
  simp [hX,eMx]
theorem dv_setMx [DecidableEq κ] {t k e b n q q':Nat} {m:κ→Option ε} {y z u:Operand} {x:κ} {v:ε} (h:o.op= .mapUpdate t y z u∨o.op= .insert t y z u) (hy:ρ y= .map (some b)) (hz:ρ z=K.enc x) (hu:ρ u=C.enc v)
  (cx:CtxV ops L a0 w0 bor X0 us D i ρ β W X) (hX:X q=eMx K C P k b n m) (hq:(atV us i).contains q=true) (hv:C.okE v) (hn:n < 1000000) (hx:K.ok x) (hd:o.dst=none) (hc:atV cr i=[q']) (hkl:atV kl i=[q])
  (hD:∀ (σ β':Tmp→Value) (X':Nat→Ent),(∀ t,σ t=ρ (.tmp t))→(∀ t,β' t=β t)→X' q'=eMx K C P k b (mzP m x n) (putX m x (some v))→D i σ β' X')
  (hk:K.ty P k:=by kernel_rfl) (ht:P.underlying t=some (.map k e):=by kernel_rfl):DoesU P o ρ W (PostV cr kl D i o.dst ρ β W X):=by
 obtain ⟨W',hrun,h1,h2⟩:=run_setMx (v:=v) h hy hz hu (cx.mx hX hq) hv hn hx hk ht
 obtain ⟨a1,a2,a3⟩:=post_mapX (cr:=cr) (kl:=kl) (i:=i) hX h1 h2 hc hkl
 refine DoesU.skip hrun ⟨[eMx K C P k b (mzP m x n) (putX m x (some v))],a1,⟨a2,a3,List.pairwise_singleton _ _⟩,fun σ β' X' hs hv hb' hbv hx' hN=>hD σ β' X' (fun t=>hs t (by rw [hd]; simp)) (fun t=>hb' t (by rw [hd]; simp)) ?_⟩
 rw [hc] at hN
 exact (List.cons.inj hN).1
theorem dv_delMx [DecidableEq κ] {c:Call} {t k e b n q q':Nat} {m:κ→Option ε} {y z:Operand} {x:κ} (h:o.op= .call c) (hcc:c.callee= .builtin .delete) (ha:c.args=#[y,z]) (hat:c.argTypes=#[t,k]) (hy:ρ y= .map (some b)) (hz:ρ z=K.enc x)
  (cx:CtxV ops L a0 w0 bor X0 us D i ρ β W X) (hX:X q=eMx K C P k b n m) (hq:(atV us i).contains q=true) (hx:K.ok x) (hd:o.dst=none) (hc:atV cr i=[q']) (hkl:atV kl i=[q])
  (hD:∀ (σ β':Tmp→Value) (X':Nat→Ent),(∀ t,σ t=ρ (.tmp t))→(∀ t,β' t=β t)→X' q'=eMx K C P k b (mzD m x n) (putX m x none)→D i σ β' X')
  (hk:K.ty P k:=by kernel_rfl) (ht:P.underlying t=some (.map k e):=by kernel_rfl):DoesU P o ρ W (PostV cr kl D i o.dst ρ β W X):=by
 obtain ⟨W',hrun,h1,h2⟩:=run_delMx h hcc ha hat hy hz (cx.mx hX hq) hx hk ht
 obtain ⟨a1,a2,a3⟩:=post_mapX (cr:=cr) (kl:=kl) (i:=i) hX h1 h2 hc hkl
 refine DoesU.value hrun ⟨[eMx K C P k b (mzD m x n) (putX m x none)],a1,⟨a2,a3,List.pairwise_singleton _ _⟩,fun σ β' X' hs hv hb' hbv hx' hN=>hD σ β' X' (fun t=>hs t (by rw [hd]; simp)) (fun t=>hb' t (by rw [hd]; simp)) ?_⟩
 rw [hc] at hN
 exact (List.cons.inj hN).1
end
end
section
open Go.RowKit Go.Maps
theorem mS_nil:(fun _=>none:Int→Option Bool)=mS []:=by funext x; simp [mS]
theorem mS_put {S:List Nat} {i:Nat}:putX (mS S) (i:Int) (some true)=mS (S++[i]):=by
 funext x
 unfold putX mS
 by_cases h:x=(i:Int)
 ·subst h; rw [if_pos rfl,if_pos (by simp)]
 ·rw [if_neg h]
  by_cases h2:x∈S.map (fun i:Nat=>(i:Int))
  ·rw [if_pos h2,if_pos (by rw [List.map_append]; exact List.mem_append_left _ h2)]
  ·rw [if_neg h2,if_neg]
   rw [List.map_append]
   intro h3
   rcases List.mem_append.1 h3 with h3 | h3
   ·exact h2 h3
   ·exact h (List.mem_singleton.1 h3)
theorem mS_size {S:List Nat} {i:Nat} (h:i∉S):mzP (mS S) (i:Int) S.length=(S++[i]).length:=by
 rw [mzP,if_neg,List.length_append]; rfl
 unfold mS
 rw [if_neg (fun h2=>h (mem_cast.1 h2))]
 decide
theorem mS_del {S:List Nat} {k:Nat}:putX (mS S) (k:Int) none=mS (offS S k):=by
 funext x
 unfold putX mS
 by_cases h:x=(k:Int)
 ·subst h; rw [if_pos rfl,if_neg]
  rw [mem_cast]; intro h; exact (off_mem.1 h).2 rfl
 ·rw [if_neg h]
  by_cases h2:x∈S.map (fun i:Nat=>(i:Int))
  ·rw [if_pos h2,if_pos]
   obtain ⟨j,hj,rfl⟩:=List.mem_map.1 h2
   exact mem_cast.2 (off_mem.2 ⟨hj,fun e=>h (by rw [e])⟩)
  ·rw [if_neg h2,if_neg]
   intro h3
   obtain ⟨j,hj,rfl⟩:=List.mem_map.1 h3
   exact h2 (mem_cast.2 (off_mem.1 hj).1)
theorem off_len {S:List Nat} {k:Nat} (hd:S.Nodup):(offS S k).length=if k∈S then S.length - 1 else S.length:=by
 induction S with
 | nil=>rfl
 | cons x S ih=>
   obtain ⟨h1,h2⟩:=List.nodup_cons.1 hd
   have ih:=ih h2
   by_cases h:x=k
   ·subst h
    have e:offS (x::S) x=offS S x:=by simp [offS]
    rw [e,ih,if_neg h1,if_pos (by simp),List.length_cons]; omega
   ·have e:offS (x::S) k=x::offS S k:=by
     simp [offS,h]
    rw [e,List.length_cons,ih]
    by_cases hk:k∈S
    ·rw [if_pos hk,if_pos (by simp [hk]),List.length_cons]
     have:=List.length_pos_of_mem hk
     omega
    ·rw [if_neg hk,if_neg (by simp [hk]; exact fun e=>h e.symm),List.length_cons]
theorem mS_dsize {S:List Nat} {k:Nat} (hd:S.Nodup):mzD (mS S) (k:Int) S.length=(offS S k).length:=by
 rw [off_len hd,mzD]
 unfold mS
 by_cases h:k∈S
 ·rw [if_pos (mem_cast.2 h),if_pos h]; rfl
 ·rw [if_neg (fun h2=>h (mem_cast.1 h2)),if_neg h]; rfl
end
section
open Go.RowKit
theorem book_ok {b:Nat} {ps:List PgS} {w:World} (h:BkAt w b ps) (hl:ps.length≤1000):PgsOk w 24 (.pointer (some ⟨b,0,none⟩)) ps:=
 ⟨⟨58, _,fun W=>by kernel_rfl,by kernel_rfl,fun x=>rpage_any b ps x w h hl⟩⟩
theorem kstep_pk {b bk:Nat} {ps:List PgS} {p:PuT} {fresh:Int} {fp:List Nat} {w:World} (h:(ePk b p fp).holds w) (hB:BkU fp w bk ps) (hne:p.left≠[]) (hok:OkS ps) (hoc:OkC ps) (h10:p.left.length≤10000) (hte:∀ t∈p.left,t.1.size≤900000∧0≤t.2.1∧t.2.1≤90000) (h8:∀ nd,ndAt ps p.pos=some nd→nd.es.length < 8):
  Calls Try.prog 16 #[.pointer (some ⟨b,0,none⟩), .iface 24 (.pointer (some ⟨bk,0,none⟩)), .int .i64 fresh] w (KtPost b (stepF ps p fresh) fp w):=by
 obtain ⟨A,c,g,hfp,hbg,hc,hAg,hlt,hb,hA⟩:=h
 obtain ⟨root,pos,leaf,left,fro,to,spl⟩:=p
 cases left with
 | nil=>exact absurd rfl hne
 | cons t lf=>
   obtain ⟨te,tl,tk⟩:=t
   obtain ⟨la,rfl, _, _⟩:=hA 0 (.string te) rfl
   have hg:=hAg la rfl (by simp)
   have ht:=hte (te,tl,tk) (by simp)
   obtain ⟨LA,lcc,Ps,h1,h2⟩:=hB
   refine kstep_s b _ _ root pos leaf fro to spl la _ c te tl tk lf ps fresh fp g w hb (fun W hW=>?_) rfl hc h10 (fun W hW=>book_ok ⟨LA,lcc,Ps,h1,h2 W (hW.mono fun k _ hk=>by rw [hfp,List.mem_singleton.1 hk]; simp)⟩ hok.len) hok hoc hfp hbg hlt hg ht.1 ht.2 h8
   refine at_blocks hA fun ad e _=>?_
   rw [← Option.some.inj e]
   exact hW.block _ (hlt _ hg) (fun hm=>hbg (by rw [List.mem_singleton] at hm; exact hm ▸ hg))
theorem kdone_t {b:Nat} {p:PuT} {fp:List Nat} {w:World} (h:(ePk b p fp).holds w) (h0:p.left=[]):Calls Try.prog 21 #[.pointer (some ⟨b,0,none⟩)] w (Ret (.bool true) w):=by
 have h1:=kdone_pk h
 rw [h0] at h1
 exact h1
/-- the book of the example -/
def sanB:List PgS:=doB (blankF 4) (begF 3)
def sanK:ByteArray:=⟨#[97,98]⟩
def sanX:ByteArray:=⟨#[97,98,0,1,0,2]⟩
theorem sanB_eq:sanB=[(2,0,[⟨#[0,0,0,0]⟩]),(0,0,[]),(0,0,[]),(2,0,[⟨#[0,0,0,0]⟩])]:=by kernel_rfl
theorem sanB_ok:OkS sanB:=by
 rw [sanB_eq]
 refine ⟨by decide,fun p hp=>?_,fun p hp s hs=>?_⟩
 ·simp only [List.mem_cons,List.not_mem_nil,or_false] at hp
  rcases hp with rfl | rfl | rfl | rfl<;>decide
 ·simp only [List.mem_cons,List.not_mem_nil,or_false] at hp
  rcases hp with rfl | rfl | rfl | rfl<;>simp at hs<;>subst hs<;>decide
theorem sanB_c:OkC sanB:=by
 rw [sanB_eq]
 intro p hp
 simp only [List.mem_cons,List.not_mem_nil,or_false] at hp
 rcases hp with rfl | rfl | rfl | rfl<;>decide
def sanN:NoD:=⟨0, -1,⟨#[]⟩,false,[],1⟩
theorem sanB_nd:ndAt sanB 3=some sanN:=by kernel_rfl
theorem sanN_1:Node1 sanN:=⟨rfl,rfl,rfl,rfl,by decide⟩
def sanP:PuT:=⟨3,3,3,[],0,0,false⟩
theorem san_step:stepF sanB (putT 3 sanK 1 2) (-1)=(sanP,⟨[(3,1,sanX)],false,0⟩):=by kernel_rfl
theorem kt_to {P:Program} {f:FuncId} {args:Array Value} {w:World} {b:Nat} {fp:List Nat} {R R':PuT×GoT} (hR:R=R') (hc:Calls P f args w (KtPost b R fp w)):Calls P f args w (KtPost b R' fp w):=hR ▸ hc
theorem at_to {w:World} {A:Option Addr} {xs ys:List Value} (h:At w A xs) (e:xs=ys):At w A ys:=e ▸ h
theorem sanity10_any (w:World):
  Calls Try.prog 10 #[] w (Ret (.bool true) w):=by
 go_enter Try.func10,Try.ntmps10
 have hst0:=St.start w
 refine wp_seq (sqr (sqp [.k 0 (.bool false)] ?_))
 refine then_normal (wp_seq (sqr ?_))
 refine sqk1s (fun B9_2=>vp B9_2) (fun B9_2 r0_2=>eBk B9_2 (blankF 4) r0_2) hst0 (fun cx=>⟨_,(rblank_any 4 _ (by decide)).mono (by rintro e W1 ⟨B4,fp4,rfl,hs4⟩; exact ⟨_, _,rfl,hs4⟩),(map1 (cx.co _))⟩) fun B9_2 r0_2 W2 hst2=>?_
 refine sqp [.m 1 9] ?_
 refine then_normal (wp_seq (wp_region_Y [0,0,2,6,0,16,48,126,255,511] [[],[],[2],[],[],[3],[],[],[1,4]] [[1],[2],[],[],[3],[],[],[4]] [] [.a 10, .a 11, .c 12 (.string (strOfNums ([2]))), .k 13 (.agg #[vi 3,vi (-1), .string (strOfNums ([2]))]), .a 14, .c 15 (.string (strOfNums ([0,0,0,0]))), .k 16 (.agg #[vi 3,vi 0, .string (strOfNums ([0,0,0,0]))]), .a 17, .c 18 (.bool true), .k 2 (.bool true)] (fun ix σ β X=>match ix with | 0=>σ 10= .slice (sA (β 10)) 2 (sC (β 10))∧X 1=eO 99 3 (.slice (sA (β 10)) 2 (sC (β 10))) 2 ((begF 3).flatMap edC) | 1=>σ 11= .slice (sA (β 11)) 1 1∧X 2=eO 5 1 (.slice (sA (β 11)) 1 1) 1 ([.int .u8 2]) | 2=>True | 3=>True | 4=>σ 14= .slice (sA (β 14)) 4 4∧X 3=eO 5 1 (.slice (sA (β 14)) 4 4) 4 ([.int .u8 0, .int .u8 0, .int .u8 0, .int .u8 0]) | 5=>True | 6=>True | 7=>σ 17= .slice ((some ⟨(pb' (β 17)),0,none⟩)) 2 2∧X 4=eO 99 3 (.slice ((some ⟨(pb' (β 17)),0,none⟩)) 2 2) 2 ([vi 3,vi (-1), .string (strOfNums ([2])),vi 3,vi 0, .string (strOfNums ([0,0,0,0]))]) | _=>True) [0,1,2,3,4] [0,1,2,4,5,7,8] [(2,9,1,3),(7,0,9,16)] hst2 ?_ ?_ ?_))
 ·exact fun ix _ _ _ _ _ _ hs hb hx h=>match ix,h with
  | 0,h=>by dsimp only; rw [← hs 10 rfl,← hb 10 rfl,← hx 1 rfl]; exact h
  | 1,h=>by dsimp only; rw [← hs 11 rfl,← hb 11 rfl,← hx 2 rfl]; exact h
  | 4,h=>by dsimp only; rw [← hs 14 rfl,← hb 14 rfl,← hx 3 rfl]; exact h
  | 7,h=>by dsimp only; rw [← hs 17 rfl,← hb 17 rfl,← hx 4 rfl]; exact h
  | 2, _ | 3, _ | 5, _ | 6, _ | _+8, _=>trivial
 ·refine ⟨?_,?_,?_,?_,?_,?_,?_,trivial⟩
  ·refine svA fun ρ β W X cx=>?_
   refine DoesU.call (run_callF (args:=#[vi 3]) rfl cx.sees rfl (by kernel_rfl) (map1 (cx.co _))) ?_
   refine (kbegin_any 3 _).mono ?_
   rintro e W1 ⟨A4,c4,rfl,ho_,hx⟩
   refine ⟨_,rfl,post_call [eO 99 3 (.slice A4 2 c4) 2 ((begF 3).flatMap edC)] rfl rfl hx (one_new (eO_new (n:=2) (xs:=(begF 3).flatMap edC) ho_)) (List.pairwise_singleton _ _) (fun σ β' X' hs hb hv hN=>?_)⟩
   have hv1:=(hv 10 rfl).1; have hv2:=(hv 10 rfl).2
   exact ⟨hv1.trans (by rw [hv2]; rfl),(by rw [hv2]; exact (List.cons.inj hN).1)⟩
  ·refine svA fun ρ β W X cx=>?_
   exact dv_lit (e:=5) (xs:=[.int .u8 2]) rfl (by simp [go_sem,cx.sees.const]) rfl (by decide) rfl rfl (fun σ β' X' hs hb hv hx=>⟨hv,hx⟩)
  ·exact xs4 rfl id fun cx=>run_convB (e:=5) rfl (by kernel_rfl) (by kernel_rfl) (by kernel_rfl) (dTn (cx.an 1)).1 (cx.row (dTn (cx.an 1)).2 rfl)
  ·refine svA fun ρ β W X cx=>?_
   exact dv_lit (e:=5) (xs:=[.int .u8 0, .int .u8 0, .int .u8 0, .int .u8 0]) rfl (by simp [go_sem,cx.sees.const]) rfl (by decide) rfl rfl (fun σ β' X' hs hb hv hx=>⟨hv,hx⟩)
  ·exact xs4 rfl id fun cx=>run_convB (e:=5) rfl (by kernel_rfl) (by kernel_rfl) (by kernel_rfl) (dTn (cx.an 4)).1 (cx.row (dTn (cx.an 4)).2 rfl)
  ·refine svA fun ρ β W X cx=>?_
   have fF13:ρ (.tmp 13)= .agg #[vi 3,vi (-1), .string (strOfNums ([2]))]:=(cx.an 3)
   have fF16:ρ (.tmp 16)= .agg #[vi 3,vi 0, .string (strOfNums ([0,0,0,0]))]:=(cx.an 6)
   exact dv_litN (e:=99) (sz:=3) (xs:=[vi 3,vi (-1), .string (strOfNums ([2])),vi 3,vi 0, .string (strOfNums ([0,0,0,0]))]) rfl (by simp [go_sem,fF13,fF16]) rfl (by decide) rfl rfl (fun σ β' X' hs hb hv hx=>⟨hv,hx⟩)
  ·exact xsc rfl id rfl rfl fun cx=>⟨_,rsame_any _ _ _ _ (begF 3) _ (at_to (At.of_ownN (cx.row (dTn (cx.an 0)).2 rfl)) (by kernel_rfl)) (at_to (At.of_ownN (cx.row (dTn (cx.an 7)).2 rfl)) (by kernel_rfl)) (by decide),(map2 (dTn (cx.an 0)).1 (dTn (cx.an 7)).1)⟩
 intro σ β X W4 hD hst4 fr hfr
 obtain ⟨A10_4,hu_A10_4⟩:∃ z,sA (β 10)=z:=⟨_,rfl⟩
 obtain ⟨c10_4,hu_c10_4⟩:∃ z,sC (β 10)=z:=⟨_,rfl⟩
 obtain ⟨A11_4,hu_A11_4⟩:∃ z,sA (β 11)=z:=⟨_,rfl⟩
 obtain ⟨A14_4,hu_A14_4⟩:∃ z,sA (β 14)=z:=⟨_,rfl⟩
 obtain ⟨B17_4,hu_B17_4⟩:∃ z,pb' (β 17)=z:=⟨_,rfl⟩
 simp only [exq 1 ((dTn (hD 0 lq)).2),exq 2 ((dTn (hD 1 lq)).2),exq 3 ((dTn (hD 4 lq)).2),exq 4 ((dTn (hD 7 lq)).2),hu_A10_4,hu_c10_4,hu_A11_4,hu_A14_4,hu_B17_4] at hst4
 simp only [ed 10 ((dTn (hD 0 lq)).1),ed 11 ((dTn (hD 1 lq)).1),ed 14 ((dTn (hD 4 lq)).1),ed 17 ((dTn (hD 7 lq)).1),hu_A10_4,hu_c10_4,hu_A11_4,hu_A14_4,hu_B17_4] at hfr
 clear hD hu_A10_4 hu_c10_4 hu_A11_4 hu_A14_4 hu_B17_4; subst hfr; clear σ β X
 refine then_normal (wp_seq (sqr (sqp [.m 19 1] ?_)))
 refine sqk2 (fun A20_6 c20_6=> .slice A20_6 2 c20_6) (fun A20_6 c20_6=>eO 99 3 (.slice A20_6 2 c20_6) 2 ((begF 3).flatMap edC)) hst4 (fun cx=>⟨_,(kbegin_any 3 _).mono (by rintro e W1 ⟨A4,c4,rfl,ho_,hx⟩; exact ⟨_, _,rfl,St.one hx (eO_new (n:=2) (xs:=(begF 3).flatMap edC) ho_)⟩),(map1 (cx.co _))⟩) fun A20_6 c20_6 W6 hst6=>?_
 refine sqc0s (fun X_=>X_.fp) (.tuple #[]) (fun r6_7=>eBk B9_2 (doB (blankF 4) (begF 3)) r6_7) 0 hst6 (by
   refine svA fun ρ β W X cx=>?_
   refine DoesU.call (run_callF (args:=#[vp B9_2, .slice A20_6 2 c20_6]) rfl cx.sees rfl (by kernel_rfl) (map2 (cx.ou 19) (cx.ou 20))) ?_
   refine (rdo_any B9_2 (blankF 4) _ 4 _ _ (begF 3) _ (CtxV.holdF cx (cx.init 0 _ rfl) rfl) (CtxV.ltF cx (cx.init 0 _ rfl) rfl) (CtxV.keepAt cx (cx.init 5 _ rfl) (cx.init 0 _ rfl) rfl rfl (by decide)) (by decide) (blank_sz 4).2 (by decide) (blank_sz 4).1.its).mono ?_
   rintro e W1 ⟨rfl,fp4,hs4⟩
   refine ⟨_,rfl,post_obj (E:=eBk B9_2 (blankF 4) r0_2) [eBk B9_2 (doB (blankF 4) (begF 3)) fp4] (cx.init 0 _ rfl) rfl rfl hs4 (fun σ β' X' hs hb hv hN=>?_)⟩
   have hv1:=(hv 21 rfl).1; have hv2:=(hv 21 rfl).2
   exact ⟨hv1.trans rfl,eBk_self ((List.cons.inj hN).1)⟩) fun r6_7 W7 hst7=>?_
 refine then_normal (wp_seq ?_)
 have hsb_:doB (blankF 4) (begF 3)=sanB:=rfl
 rw [hsb_] at hst7
 refine sqr (sqp [.k 22 (.agg #[vi 1,vi 2])] ?_)
 refine sqk1s (fun B23_9=>vp B23_9) (fun B23_9 r6_9=>ePk B23_9 (putT 3 (⟨#[97,98]⟩:ByteArray) 1 2) r6_9) hst7 (fun cx=>⟨_,(kgrowN_any 3 (⟨#[97,98]⟩:ByteArray) 1 2 _ (by decide)).mono (by rintro e W1 ⟨B4,fp4,rfl,hs4⟩; exact ⟨_, _,rfl,hs4⟩),(map3 (cx.co _) (cx.co _) (cx.ou 22))⟩) fun B23_9 r6_9 W9 hst9=>?_
 refine sqp [.m 3 23] ?_
 refine then_normal (wp_seq (wp_seq (sqr (sqp [.m 24 3] ?_))))
 refine sqv (.bool false) hst9 (by
   exact sv0 rfl rfl rfl rfl rfl (fun _ _ _ h=>h) fun ρ β W X cx=>by
    have fF24:ρ (.tmp 24)=vp B23_9:=(cx.ou 24)
    simp [go_sem,cx.sees.const,fF24]) fun W12 hst12=>?_
 refine then_normal (wcf rfl (wp_skip (then_normal (wp_seq (wp_region_Y [0,0,2,7,15,31,31,31,63,383,1023] [[],[],[],[6,0]] [[],[],[],[7,8]] [[],[],[],[6]] [.k 27 (vp B23_9), .k 28 (vp B9_2), .c 29 (.iface 24 (vp B9_2)), .a 30, .a 26, .a 31, .c 32 (.bool false), .c 33 (vi 0), .a 4, .k 5 (.bool false), .k 6 (vi 0)] (fun ix σ β X=>match ix with | 0=>True | 1=>True | 2=>True | 3=>σ 30= .tuple #[.slice (sA (tg (β 30) 0)) 1 (sC (tg (β 30) 0)), .bool false,vi 0]∧X 7=ePk B23_9 sanP ((X 7).fp)∧X 8=eO 99 3 (.slice (sA (tg (β 30) 0)) 1 (sC (tg (β 30) 0))) 1 ([(3,1,sanX)].flatMap edC) | 4=>σ 26= .tuple #[.slice (sA (tg (β 30) 0)) 1 (sC (tg (β 30) 0)), .bool false,vi 0] | 5=>σ 31= .slice (sA (tg (β 30) 0)) 1 (sC (tg (β 30) 0)) | 6=>True | 7=>True | 8=>σ 4= .slice (sA (tg (β 30) 0)) 1 (sC (tg (β 30) 0)) | _=>True) [0,1,2,3,4,5,7,8] [2,3,4,5,6,7,8] [(4,8,3,7),(19,4,1,20),(0,0,4,4),(0,5,3,3)] hst12 ?_ ?_ ?_)))))
 ·exact fun ix _ _ _ _ _ _ hs hb hx h=>match ix,h with
  | 3,h=>by dsimp only; rw [← hs 30 rfl,← hb 30 rfl,← hx 7 rfl,← hx 8 rfl]; exact h
  | 4,h=>by dsimp only; rw [← hs 26 rfl,← hb 30 rfl]; exact h
  | 5,h=>by dsimp only; rw [← hs 31 rfl,← hb 30 rfl]; exact h
  | 8,h=>by dsimp only; rw [← hs 4 rfl,← hb 30 rfl]; exact h
  | 0, _ | 1, _ | 2, _ | 6, _ | 7, _ | _+9, _=>trivial
 ·refine ⟨?_,?_,?_,?_,?_,?_,?_,trivial⟩
  ·exact sv0 rfl rfl rfl rfl rfl (fun _ _ _ h=>h) fun ρ β W X cx=>by
    have fF28:ρ (.tmp 28)=vp B9_2:=(cx.an 1)
    simp [go_sem,fF28]
  ·refine svA fun ρ β W X cx=>?_
   refine DoesU.call (run_callF (args:=#[vp B23_9, .iface 24 (vp B9_2),vi (-1)]) rfl cx.sees rfl (by kernel_rfl) (map3 (cx.an 0) (cx.an 2) (cx.co _))) ?_
   refine (kt_to san_step (kstep_pk (fresh:= -1) (CtxV.holdF cx (cx.init 6 _ rfl) rfl) (CtxV.bkU cx (cx.init 0 _ rfl) (cx.init 6 _ rfl) rfl rfl (by decide)) (by decide) sanB_ok sanB_c (by decide) (fun t ht=>by rw [putT,List.mem_singleton] at ht; subst ht; decide) (fun nd h=>by have h_:=sanB_nd.symm.trans h; rw [← Option.some.inj h_]; decide))).mono ?_
   rintro e W1 ⟨A4,c4,rfl,fp4,hs4⟩
   refine ⟨_,rfl,post_obj (E:=ePk B23_9 (putT 3 (⟨#[97,98]⟩:ByteArray) 1 2) r6_9) [ePk B23_9 sanP fp4,eO 99 3 (.slice A4 1 c4) 1 ([(3,1,sanX)].flatMap edC)] (cx.init 6 _ rfl) rfl rfl hs4 (fun σ β' X' hs hb hv hN=>?_)⟩
   have hv1:=(hv 30 rfl).1; have hv2:=(hv 30 rfl).2
   exact ⟨hv1.trans (by rw [hv2]; rfl),ePk_self ((List.cons.inj hN).1),(by rw [hv2]; exact (List.cons.inj (List.cons.inj hN).2).1)⟩
  ·exact sv rfl rfl rfl rfl rfl _ (fun _ _ _ h=>h) (fun β β' h=>by rw [h 30 (by decide)]) fun ρ β W X cx=>run_move' rfl (dTn (cx.an 3)).1
  ·exact sv rfl rfl rfl rfl rfl _ (fun _ _ _ h=>h) (fun β β' h=>by rw [h 30 (by decide)]) fun ρ β W X cx=>run_extract' rfl (dTn (cx.an 4)) rfl
  ·exact xs4 rfl id fun cx=>run_extract' rfl (dTn (cx.an 4)) rfl
  ·exact xs4 rfl id fun cx=>run_extract' rfl (dTn (cx.an 4)) rfl
  ·exact sv rfl rfl rfl rfl rfl _ (fun _ _ _ h=>h) (fun β β' h=>by rw [h 30 (by decide)]) fun ρ β W X cx=>run_assign' rfl (dTn (cx.an 5))
 intro σ β X W13 hD hst13 fr hfr
 obtain ⟨A30_13,hu_A30_13⟩:∃ z,sA (tg (β 30) 0)=z:=⟨_,rfl⟩
 obtain ⟨c30_13,hu_c30_13⟩:∃ z,sC (tg (β 30) 0)=z:=⟨_,rfl⟩
 have xX7:X 7= _:=(dTn (hD 3 lq)).2.1
 obtain ⟨r7_13,hu_r7_13⟩:∃ z,(X 7).fp=z:=⟨_,rfl⟩
 rw [hu_r7_13] at xX7
 clear hu_r7_13
 simp only [xX7,exq 8 ((dTn (hD 3 lq)).2.2),hu_A30_13,hu_c30_13] at hst13
 simp only [ed 30 ((dTn (hD 3 lq)).1),ed 26 ((dTn (hD 4 lq))),ed 31 ((dTn (hD 5 lq))),ed 4 ((dTn (hD 8 lq))),hu_A30_13,hu_c30_13] at hfr
 clear hD xX7 hu_A30_13 hu_c30_13; subst hfr; clear σ β X
 refine then_normal (wp_seq (sqr ?_))
 refine sqn1 (fun x_=>sA x_) (fun A34_14=> .slice A34_14 4 4) (fun A34_14=>eO 5 1 (.slice A34_14 4 4) 4 ([.int .u8 0, .int .u8 1, .int .u8 0, .int .u8 2])) hst13 (by
   refine svA fun ρ β W X cx=>?_
   exact dv_lit (e:=5) (xs:=[.int .u8 0, .int .u8 1, .int .u8 0, .int .u8 2]) rfl (by simp [go_sem,cx.sees.const]) rfl (by decide) rfl rfl (fun σ β' X' hs hb hv hx=>⟨hv,hx⟩)) fun A34_14 W14 hst14=>?_
 refine sql (.string (strOfNums ([0,1,0,2]))) hst14 (fun cx=>run_convB (e:=5) rfl (by kernel_rfl) (by kernel_rfl) (by kernel_rfl) (cx.ou 34) (cx.ri 8 rfl)) ?_
 refine sqp [sS 36 ((⟨#[97,98]⟩:ByteArray)) (strOfNums ([0,1,0,2])) (by rw [strOfNums_size]; decide), .m 7 36] ?_
 refine then_normal (wp_seq (sqr (sqp [.m 37 4, .m 38 7, .k 39 (.agg #[vi 3,vi 1, .string (((⟨#[97,98]⟩:ByteArray))++(strOfNums ([0,1,0,2])))])] ?_)))
 refine sqli 99 3 1 [vi 3,vi 1, .string (((⟨#[97,98]⟩:ByteArray))++(strOfNums ([0,1,0,2])))] hst14 (@fun ρ β W X cx=>by have fF39:ρ (.tmp 39)= .agg #[vi 3,vi 1, .string (((⟨#[97,98]⟩:ByteArray))++(strOfNums ([0,1,0,2])))]:=(cx.ou 39); simp [go_sem,fF39]) fun B40_21 W21 hst21=>?_
 refine sqk (.bool true) hst21 (fun cx=>⟨_,rsame_any _ _ _ _ [(3,1,sanX)] _ (at_to (At.of_ownN (cx.ri 7 rfl)) (by kernel_rfl)) (at_to (At.of_ownN (cx.ri 9 rfl)) (by kernel_rfl)) (by decide),(map2 (cx.ou 37) (cx.ou 40))⟩) fun W22 hst22=>?_
 refine sqp [.k 8 (.bool true)] ?_
 refine then_normal (wp_seq (sqr (sqp [.k 42 (.bool true), .k 43 (.bool true)] ?_)))
 refine sqgy 43 [44] rfl rfl ?_
 refine sqp [.k 44 (.bool true)] ?_
 refine sqp [.k 45 (.bool true), .k 46 (.bool true)] ?_
 refine sqgy 46 [47,48] rfl rfl ?_
 refine sqp [.k 47 (.bool false), .k 48 (.bool true)] ?_
 refine sqp [.k 49 (.bool true), .k 50 (.bool true)] ?_
 refine sqgy 50 [51,52] rfl rfl ?_
 refine sqp [.m 51 6, .k 52 (.bool true)] ?_
 refine sqp [.k 53 (.bool true), .k 54 (.bool true)] ?_
 refine sqgy 54 [55,56] rfl rfl ?_
 refine sqp [.m 55 3] ?_
 refine sqk (.bool true) hst22 (fun cx=>⟨_,kdone_t (CtxV.holdF cx (cx.init 6 _ rfl) rfl) rfl,(map1 (cx.ou 55))⟩) fun W38 hst38=>?_
 refine sqp [.k 57 (.bool true), .k 58 (.bool true)] ?_
 refine sqgy 58 [59,60,61] rfl rfl ?_
 refine sqp [.m 59 3] ?_
 refine sqk (vi 3) hst38 (fun cx=>⟨_,kleaf_pk (CtxV.holdF cx (cx.init 6 _ rfl) rfl),(map1 (cx.ou 59))⟩) fun W42 hst42=>?_
 refine sqp [.k 61 (.bool true)] ?_
 refine sqp [.k 62 (.bool true), .k 63 (.bool true)] ?_
 refine sqgy 63 [64,65,66,67] rfl rfl ?_
 refine sqp [.k 64 (.agg #[vi 1,vi 2])] ?_
 refine sqk (.string ((entF sanK 1 2))) hst42 (fun cx=>⟨_,kentry_any sanK 1 2 _ (by decide),(map2 (cx.co _) (cx.ou 64))⟩) fun W47 hst47=>?_
 have hd50:(((entF sanK 1 2)).toList==(((⟨#[97,98]⟩:ByteArray))++(strOfNums ([0,1,0,2]))).toList)=true:=(by kernel_rfl)
 refine sqp [.m 66 7, .e 67 (.bool (((entF sanK 1 2)).toList==(((⟨#[97,98]⟩:ByteArray))++(strOfNums ([0,1,0,2]))).toList)) (.bool true) (congrArg Value.bool hd50)] ?_
 refine sqp [.k 68 (.bool true), .k 69 (.bool true)] ?_
 refine sqgy 69 [70,71,72,73] rfl rfl ?_
 refine sqp [.m 70 1] ?_
 refine sqv (.iface 24 (vp B9_2)) hst47 (by
   exact sv0 rfl rfl rfl rfl rfl (fun _ _ _ h=>h) fun ρ β W X cx=>by
    have fF70:ρ (.tmp 70)=vp B9_2:=(cx.ou 70)
    simp [go_sem,fF70]) fun W54 hst54=>?_
 refine sqk (vi 0) hst54 (fun cx=>⟨_,kcheck_1 _ _ 3 sanB sanN _ (book_ok (eBk_at (CtxV.holdF cx (cx.init 0 _ rfl) rfl)) sanB_ok.len) sanB_ok sanB_c sanB_nd sanN_1,(map2 (cx.ou 71) (cx.co _))⟩) fun W55 hst55=>?_
 refine sqp [.k 73 (.bool true)] ?_
 refine sqp [.k 74 (.bool true), .k 0 (.bool true)] ?_
 refine then_normal (wp_ret ?_)
 refine bpr (.bool true) (results_1 Try.results10 rpt) ?_
 exact Ret.of rfl hst55.ext
end
section
open Go.RowKit
theorem lseed_any (A:Option Addr) (n c k:Nat) (w:World) (hc:n≤c):
  Calls Try.prog 34 #[.slice A n c, .int .i64 ((k:Int))] w (Ret (.slice A (min n k) c) w):=by
 go_enter Try.func34,Try.ntmps34
 have hst0:=St.start w
 refine wp_seq (sqr (sqp [.k 4 (.slice none 0 0)] ?_))
 refine then_normal (wp_seq (wp_seq (sqr (sqp [.m 5 0, .k 6 (vi ((n:Int))), .m 7 1, .k 8 (.bool (decide ((k:Int) < (n:Int))))] ?_))))
 refine then_normal (wds (fun hs6 hs6p=>?_) fun hs6 hs6p=>?_)
 ·refine wp_seq (sqr (sqp [.m 9 0, .m 10 1] ?_))
  refine sql (.slice A k c) hst0 (fun cx=>run_sliceL_hi (e:=3) (sz:=1) (m:=k) rfl (by kernel_rfl) (by kernel_rfl) (cx.ou 9) (cx.ou 10) (by omega) (by omega)) ?_
  refine sqp [.m 4 11] ?_
  refine then_normal (wp_ret (then_ret ?_))
  refine bpr (.slice A k c) (results_1 Try.results34 rpt) ?_
  exact Ret.of (by rw [show min n k=k by omega]) hst0.ext
 refine wp_skip (then_normal (wp_seq (sqr (sqp [.m 12 0, .m 4 12] ?_))))
 refine then_normal (wp_ret ?_)
 refine bpr (.slice A n c) (results_1 Try.results34 rpt) ?_
 exact Ret.of (by rw [show min n k=n by omega]) hst0.ext
end
section
open Go.RowKit
theorem tqS_snoc (T:List EnD) (x:EnD):T.map tqS++[.string (qkF x.1)]=(T++[x]).map tqS:=by rw [List.map_append]; rfl
theorem tqR_snoc (T:List EnD) (x:EnD):T.flatMap tqR++[.int .i64 (opF x.1), .int .i64 (osF x.1)]=(T++[x]).flatMap tqR:=by rw [List.flatMap_append]; rfl
end
section
open Go.RowKit
def esY (xs:List YnD):List EnD:=xs.flatMap fun y=>y.1.es
theorem esY_all {xs:List YnD} {ps:List PgS} {root:Int} (h:xs.map pgN=rowF ps root 0):esY xs=allF ps root:=by
 rw [allF,← h,List.flatMap_map]; rfl
theorem esY_snoc (xs:List YnD) (y:YnD):esY (xs++[y])=esY xs++y.1.es:=by simp [esY]
def AlPost (es:List EnD) (w:World) (e:Ending) (w':World):Prop:=∃ KA kc RA rc,e= .returned (.tuple #[.slice KA es.length kc, .slice RA es.length rc])∧
 St w [] [eO 9 1 (.slice KA es.length kc) es.length (es.map tqS),eO 31 2 (.slice RA es.length rc) es.length (es.flatMap tqR)] w'
def lfI (y:YnD):Value:= .int .i64 y.2.1
def LfPost (L:List (Int×NoD)) (w:World) (e:Ending) (w':World):Prop:=∃ A c,e= .returned (.slice A L.length c)∧St w [] [eO 3 1 (.slice A L.length c) L.length (L.map fun y=> .int .i64 y.1)] w'
theorem lf_snoc (xs:List YnD) (y:YnD):xs.map lfI++[.int .i64 y.2.1]=(xs++[y]).map lfI:=by rw [List.map_append]; rfl
theorem lf_done {w W:World} {A:Option Addr} {c n:Nat} {L:List (Int×NoD)} {xs:List YnD} (h:xs.map pgN=L) (hn:n=xs.length) (hs:St w [] [eO 3 1 (.slice A n c) n (xs.map lfI)] W):LfPost L w (.returned (.slice A n c)) W:=by
 subst hn h
 exact ⟨A,c,by rw [List.length_map],by rw [List.length_map,List.map_map]; exact hs⟩
theorem al_done {w W:World} {KA RA:Option Addr} {kc rc m:Nat} {ps:List PgS} {root:Int} {xs:List YnD} (h:xs.map pgN=rowF ps root 0) (hm:m=(esY xs).length) (hs:St w [] [eO 9 1 (.slice KA m kc) m ((esY xs).map tqS),eO 31 2 (.slice RA m rc) m ((esY xs).flatMap tqR)] W):AlPost (allF ps root) w (.returned (.tuple #[.slice KA m kc, .slice RA m rc])) W:=by
 rw [esY_all h] at hm hs
 subst hm
 exact ⟨KA,kc,RA,rc,rfl,hs⟩
theorem kleaves_g (tt:TypeId) (tv:Value) (root:Int) (ps:List PgS) (w:World) (hS:PgsOk w tt tv ps) (hok:OkS ps) (hoc:OkC ps):
  Calls Try.prog 43 #[.iface tt (tv), .int .i64 root] w (LfPost (rowF ps root 0) w):=by
 refine (callsIn_wide (n:=3)).1 (callsIn_of_wp_marks Try.func43 rfl trivial (wpIn_wide.2 ?_) rfl)
 simp only [Try.ntmps43,List.size_toArray,List.length_cons,List.length_nil,Nat.reduceAdd,Nat.reduceSub,Array.replicate_succ,Array.replicate_zero,List.push_toArray,List.append_toArray,List.nil_append,List.cons_append]
 have hst0:=St.start w
 refine wp_seq (wp_region_P [0] [.k 4 (.slice none 0 0)] [(4,0,1,5)] hst0 fun W1 hst1=>?_)
 refine then_normal (wp_seq (wp_region_Y [0] [] [[0]] [] [.a 5] (fun ix σ β X=>match ix with | 0=>σ 5=vp (pb (β 5))∧X 0=eB (pb (β 5)) 22 #[.slice none 0 0] | _=>True) [0] [0] [(5,0,1,6)] hst1 ?_ ?_ ?_))
 ·exact fun ix _ _ _ _ _ _ hs hb hx h=>match ix,h with
  | 0,h=>by dsimp only; rw [← hs 5 rfl,← hb 5 rfl,← hx 0 rfl]; exact h
  | _+1, _=>trivial
 ·refine ⟨?_,trivial⟩
  ·refine svA fun ρ β W X cx=>?_
   exact dv_alloc (cs:=#[.slice none 0 0]) rfl (by kernel_rfl) rfl rfl (fun σ β' X' hs hb hv hx=>⟨hv,hx⟩)
 intro σ β X W2 hD hst2 fr hfr
 obtain ⟨B5_2,hu_B5_2⟩:∃ z,pb (β 5)=z:=⟨_,rfl⟩
 simp only [exq 0 ((dTn (hD 0 lq)).2),hu_B5_2] at hst2
 simp only [ed 5 ((dTn (hD 0 lq)).1),hu_B5_2] at hfr
 clear hD hu_B5_2; subst hfr; clear σ β X
 refine then_normal (wp_seq (wp_seq (wp_region_Y [0,0,3] [] [[],[],[1,2,3]] [] [.k 7 (.iface tt (tv)), .k 8 (vi root), .a 9] (fun ix σ β X=>match ix with | 0=>True | 1=>True | 2=>σ 9= .func (.func 99) #[] #[vp (pcp 0 (β 9)),vp (pcp 1 (β 9)),vp (pcp 2 (β 9))]∧X 1=eB (pcp 0 (β 9)) 113 #[.iface tt (tv)]∧X 2=eB (pcp 1 (β 9)) 3 #[vi root]∧X 3=eB (pcp 2 (β 9)) 3 #[vi 0] | _=>True) [0,1,2,3] [2] [(7,0,3,10)] hst2 ?_ ?_ ?_)))
 ·exact fun ix _ _ _ _ _ _ hs hb hx h=>match ix,h with
  | 2,h=>by dsimp only; rw [← hs 9 rfl,← hb 9 rfl,← hx 1 rfl,← hx 2 rfl,← hx 3 rfl]; exact h
  | 0, _ | 1, _ | _+3, _=>trivial
 ·refine ⟨?_,trivial⟩
  ·refine svA fun ρ β W X cx=>?_
   refine DoesU.call (run_callF (args:=#[.iface tt (tv),vi root,vi 0]) rfl cx.sees rfl (by kernel_rfl) (map3 (cx.an 0) (cx.an 1) (cx.co _))) ?_
   refine (krowc_any tt tv root 0 _).mono ?_
   rintro e W1 ⟨B4,B5,B6,rfl,hs4⟩
   refine ⟨_,rfl,post_st [eB B4 113 #[.iface tt (tv)],eB B5 3 #[vi root],eB B6 3 #[vi 0]] rfl rfl hs4 (fun σ β' X' hs hb hv hN=>?_)⟩
   have hv1:=(hv 9 rfl).1; have hv2:=(hv 9 rfl).2
   exact ⟨hv1.trans (by rw [hv2]; rfl),(by rw [hv2]; exact (List.cons.inj hN).1),(by rw [hv2]; exact (List.cons.inj (List.cons.inj hN).2).1),(by rw [hv2]; exact (List.cons.inj (List.cons.inj (List.cons.inj hN).2).2).1)⟩
 intro σ β X W3 hD hst3 fr hfr
 obtain ⟨B9a_3,hu_B9a_3⟩:∃ z,pcp 0 (β 9)=z:=⟨_,rfl⟩
 obtain ⟨B9b_3,hu_B9b_3⟩:∃ z,pcp 1 (β 9)=z:=⟨_,rfl⟩
 obtain ⟨B9c_3,hu_B9c_3⟩:∃ z,pcp 2 (β 9)=z:=⟨_,rfl⟩
 simp only [exq 1 ((dTn (hD 2 lq)).2.1),exq 2 ((dTn (hD 2 lq)).2.2.1),exq 3 ((dTn (hD 2 lq)).2.2.2),hu_B9a_3,hu_B9b_3,hu_B9c_3] at hst3
 simp only [ed 9 ((dTn (hD 2 lq)).1),hu_B9a_3,hu_B9b_3,hu_B9c_3] at hfr
 clear hD hu_B9a_3 hu_B9b_3 hu_B9c_3; subst hfr; clear σ β X
 refine then_normal (wp_block ?_)
 have hn4:=St.nilrow hst3 3
 simp only [List.cons_append,List.nil_append] at hn4
 have hp6:=hn4.pick [0,4] (by decide) rfl
 refine wp_rangeSG (α:=YnD) hp6 rfl (enters_of Try.func99 (by kernel_rfl) rfl) (encs:=ynE) (Ex:=ynR) (N:=1000) (Z:=YnZ (rowF ps root 0)) (krow_seqG _ _ _ _ _ _ _ hok hoc) (fun A hA=>RdR.keep (hn4.pick [1,2,3,0,4] (by decide) rfl) hS hA) (fun _=>rfl) (fun bb pre L=>cond bb (∃ SA:Option Addr,∃ n:Nat,∃ sc:Nat,n=pre.length∧L=[eB B5_2 22 #[.slice SA n sc],eO 3 1 (.slice SA n sc) n (pre.map lfI)]) (False)) ⟨none,0,0,rfl,rfl⟩ (fun xx a_ E_=>∃ BV:Nat,a_=⟨([.iface tt (tv),vi root,undef,undef, .slice none 0 0,vp B5_2,vp BV, .iface tt (tv),vi root, .func (.func 99) #[] #[vp B9a_3,vp B9b_3,vp B9c_3], .agg #[vi xx.2.1,vi xx.1.lv,vi xx.1.right, .string xx.1.high, .bool xx.1.dead, .slice xx.2.2.1 xx.1.es.length xx.2.2.2,vi ((xx.1.free:Int))],undef,undef,undef,undef,undef,undef]).toArray,[]⟩∧E_=eB BV 116 #[vi xx.2.1,vi xx.1.lv,vi xx.1.right, .string xx.1.high, .bool xx.1.dead, .slice xx.2.2.1 xx.1.es.length xx.2.2.2,vi ((xx.1.free:Int))]) (fun xx=>[.iface tt (tv),vi root,undef,undef, .slice none 0 0,vp B5_2,undef, .iface tt (tv),vi root, .func (.func 99) #[] #[vp B9a_3,vp B9b_3,vp B9c_3], .agg #[vi xx.2.1,vi xx.1.lv,vi xx.1.right, .string xx.1.high, .bool xx.1.dead, .slice xx.2.2.1 xx.1.es.length xx.2.2.2,vi ((xx.1.free:Int))],undef,undef,undef,undef,undef,undef]) (fun xx=>by kernel_rfl) ?_ ?_ ?_ ?_
 ·intro rl xx W5 K hK
  have hst5:=St.start W5
  refine wpIn_region_Y [0,1] [[],[0]] [[0],[1]] [[],[0]] [.a 6, .n] (fun ix σ β X=>match ix with | 0=>σ 6=vp (pb (β 6))∧X 0=eB (pb (β 6)) 116 #[vi 0,vi 0,vi 0, .string ByteArray.empty, .bool false, .slice none 0 0,vi 0] | 1=>X 1=eB (pb (β 6)) 116 #[vi xx.2.1,vi xx.1.lv,vi xx.1.right, .string xx.1.high, .bool xx.1.dead, .slice xx.2.2.1 xx.1.es.length xx.2.2.2,vi ((xx.1.free:Int))] | _=>True) [1] [0,1] [(6,0,1,7)] hst5 ?_ ?_ ?_
  ·exact fun ix _ _ _ _ _ _ hs hb hx h=>match ix,h with
   | 0,h=>by dsimp only; rw [← hs 6 rfl,← hb 6 rfl,← hx 0 rfl]; exact h
   | 1,h=>by dsimp only; rw [← hb 6 rfl,← hx 1 rfl]; exact h
   | _+2, _=>trivial
  ·refine ⟨?_,?_,trivial⟩
   ·refine svA fun ρ β W X cx=>?_
    exact dv_alloc (cs:=#[vi 0,vi 0,vi 0, .string ByteArray.empty, .bool false, .slice none 0 0,vi 0]) rfl (by kernel_rfl) rfl rfl (fun σ β' X' hs hb hv hx=>⟨hv,hx⟩)
   ·refine svA fun ρ β W X cx=>?_
    exact dv_store (n:=7) rfl (dTn (cx.an 0)).1 (cx.ou 10) (by kernel_rfl) (by kernel_rfl) (by kernel_rfl) cx (dTn (cx.an 0)).2 rfl (nle rfl) (by kernel_rfl) rfl rfl rfl (fun σ β' X' hs hb hx=>by rw [hb 6]; exact hx)
  intro σ β X W7 hD hst7 fr hfr
  obtain ⟨B6_7,hu_B6_7⟩:∃ z,pb (β 6)=z:=⟨_,rfl⟩
  simp only [exq 1 ((dTn (hD 1 lq))),hu_B6_7] at hst7
  simp only [ed 6 ((dTn (hD 0 lq)).1),hu_B6_7] at hfr
  clear hD hu_B6_7; subst hfr; clear σ β X
  exact hK _ _ _ ⟨_,rfl,rfl⟩ (hst7.pick [0] (by decide) rfl)
 ·rintro rl pre xx W8 L8 a8 E8 ⟨SA,n,sc,hn,rfl⟩ hlen8 hPx8 ⟨BV,rfl,rfl⟩ hst8r
  have hst8:St W8 (fps ([eB B5_2 22 #[.slice SA n sc],eO 3 1 (.slice SA n sc) n (pre.map lfI)]++[eO 104 3 (.slice xx.2.2.1 xx.1.es.length xx.2.2.2) xx.1.es.length (xx.1.es.flatMap enC),eB BV 116 #[vi xx.2.1,vi xx.1.lv,vi xx.1.right, .string xx.1.high, .bool xx.1.dead, .slice xx.2.2.1 xx.1.es.length xx.2.2.2,vi ((xx.1.free:Int))]])) [eB B5_2 22 #[.slice SA n sc],eO 3 1 (.slice SA n sc) n (pre.map lfI),eO 104 3 (.slice xx.2.2.1 xx.1.es.length xx.2.2.2) xx.1.es.length (xx.1.es.flatMap enC),eB BV 116 #[vi xx.2.1,vi xx.1.lv,vi xx.1.right, .string xx.1.high, .bool xx.1.dead, .slice xx.2.2.1 xx.1.es.length xx.2.2.2,vi ((xx.1.free:Int))]] W8:=hst8r
  clear hst8r
  refine wpIn_block (wpIn_region_Y [0,0,2,6,15,31] [[0],[],[3],[],[4,1],[0]] [[],[],[],[4],[5],[6]] [[],[],[],[],[1],[0]] [.c 11 (.slice SA n sc), .k 12 (vp BV), .c 13 (vi xx.2.1), .a 14, .a 15, .n] (fun ix σ β X=>match ix with | 0=>True | 1=>True | 2=>True | 3=>σ 14= .slice (sA (β 14)) 1 1∧X 4=eO 3 1 (.slice (sA (β 14)) 1 1) 1 ([vi xx.2.1]) | 4=>σ 15= .slice (sA (β 15)) (n+1) (sC (β 15))∧X 5=eO 3 1 (.slice (sA (β 15)) (n+1) (sC (β 15))) (n+1) ((pre++[xx]).map lfI) | 5=>X 6=eB B5_2 22 #[.slice (sA (β 15)) (n+1) (sC (β 15))] | _=>True) [2,3,4,5,6] [0,2,3,4,5] [(11,0,5,16)] hst8 ?_ ?_ ?_)
  ·exact fun ix _ _ _ _ _ _ hs hb hx h=>match ix,h with
   | 3,h=>by dsimp only; rw [← hs 14 rfl,← hb 14 rfl,← hx 4 rfl]; exact h
   | 4,h=>by dsimp only; rw [← hs 15 rfl,← hb 15 rfl,← hx 5 rfl]; exact h
   | 5,h=>by dsimp only; rw [← hb 15 rfl,← hx 6 rfl]; exact h
   | 0, _ | 1, _ | 2, _ | _+6, _=>trivial
  ·refine ⟨?_,?_,?_,?_,?_,trivial⟩
   ·exact xs4 rfl id fun cx=>run_load1 rfl (by kernel_rfl) (cx.ou 5) ((cx.bi 0 rfl).cell 0)
   ·exact xs4 rfl id fun cx=>run_load1 rfl (by kernel_rfl) (cx.an 1) ((cx.bi 3 rfl).cell 0)
   ·refine svA fun ρ β W X cx=>?_
    have fF13:ρ (.tmp 13)=vi xx.2.1:=(cx.an 2)
    exact dv_lit (e:=3) (xs:=[vi xx.2.1]) rfl (by simp [go_sem,fF13]) rfl (by decide) rfl rfl (fun σ β' X' hs hb hv hx=>⟨hv,hx⟩)
   ·refine svA fun ρ β W X cx=>?_
    obtain ⟨i0,hi0,hz0,hz1,hz2⟩:=info_parts Try.infoInt
    refine dv_append (n:=n) (m:=1) (nm:=n+1) (xs:=pre.map lfI) (news:=[vi xx.2.1]) (xs':=(pre++[xx]).map lfI) rfl (ty:=22) rfl (by kernel_rfl) hi0 hz0 hz1 hz2 rfl (cx.an 0) cx (cx.init 1 _ rfl) rfl (dTn (cx.an 3)).1 (by rfl) (At.of_own (cx.row (dTn (cx.an 3)).2 rfl)) (by simp [Value.oneCell']) (by simp only [maxLen]; omega) (by omega) rfl rfl rfl (by omega) (lf_snoc _ _) (fun σ β' X' hs hb hv hx=>?_)
    exact ⟨hv,hx⟩
   ·refine svA fun ρ β W X cx=>?_
    exact dv_store (n:=1) rfl (cx.ou 5) (dTn (cx.an 4)).1 (by kernel_rfl) (by kernel_rfl) (by kernel_rfl) cx (cx.init 0 _ rfl) rfl (nle rfl) (by kernel_rfl) rfl rfl rfl (fun σ β' X' hs hb hx=>by rw [hb 15]; exact hx)
  intro σ β X W9 hD hst9 fr hfr
  obtain ⟨A14_9,hu_A14_9⟩:∃ z,sA (β 14)=z:=⟨_,rfl⟩
  obtain ⟨A15_9,hu_A15_9⟩:∃ z,sA (β 15)=z:=⟨_,rfl⟩
  obtain ⟨c15_9,hu_c15_9⟩:∃ z,sC (β 15)=z:=⟨_,rfl⟩
  simp only [exq 4 ((dTn (hD 3 lq)).2),exq 5 ((dTn (hD 4 lq)).2),exq 6 ((dTn (hD 5 lq))),hu_A14_9,hu_A15_9,hu_c15_9] at hst9
  simp only [ed 14 ((dTn (hD 3 lq)).1),ed 15 ((dTn (hD 4 lq)).1),hu_A14_9,hu_A15_9,hu_c15_9] at hfr
  clear hD hu_A14_9 hu_A15_9 hu_c15_9; subst hfr; clear σ β X
  refine blk_normal ?_
  exact ⟨true, .inl ⟨rfl,rfl⟩, _,⟨A15_9,(n+1),c15_9,by rw [hn,List.length_append]; rfl,rfl⟩,hst9.pick [4,3,0] (by decide) rfl⟩
 ·rintro D5 W5d L5 XS_ E_ ⟨SA,n,sc,hn,rfl⟩ hZ_ hst5r
  have hst5d:St w [] [eB B5_2 22 #[.slice SA n sc],eO 3 1 (.slice SA n sc) n (XS_.map lfI),E_,eDfr D5] W5d:=hst5r
  clear hst5r
  refine blk_normal (then_normal (wp_seq (wp_region_Z [0,1] [[0]] [.c 16 (.slice SA n sc), .k 4 (.slice SA n sc)] [0,1,2,3] [0] [(4,1,1,5),(11,0,1,12)] hst5d ?_ fun W10 hst10=>?_)))
  ·refine ⟨?_,trivial⟩
   ·exact xs4 rfl id fun cx=>run_load1 rfl (by kernel_rfl) (cx.ou 5) ((cx.bi 0 rfl).cell 0)
  refine then_normal (wp_ret ?_)
  refine bpm_take (L:=[eB B5_2 22 #[.slice SA n sc],eO 3 1 (.slice SA n sc) n (XS_.map lfI),E_]) (hst10.pick [0,1,2,3] (by decide) rfl) fun Wt11 ht11=>?_
  refine ⟨.slice SA n sc,(results_1 Try.results43 rpt),?_⟩
  exact lf_done (hZ_.2.1 rfl) hn (ht11.pick [1] (by decide) rfl)
 ·exact fun D W L xs E h=>h.elim
theorem kall_g (tt:TypeId) (tv:Value) (root:Int) (ps:List PgS) (w:World) (hS:PgsOk w tt tv ps) (hok:OkS ps) (hoc:OkC ps):
  Calls Try.prog 42 #[.iface tt (tv), .int .i64 root] w (AlPost (allF ps root) w):=by
 refine (callsIn_wide (n:=3)).1 (callsIn_of_wp_marks Try.func42 rfl trivial (wpIn_wide.2 ?_) rfl)
 simp only [Try.ntmps42,List.size_toArray,List.length_cons,List.length_nil,Nat.reduceAdd,Nat.reduceSub,Array.replicate_succ,Array.replicate_zero,List.push_toArray,List.append_toArray,List.nil_append,List.cons_append]
 have hst0:=St.start w
 refine wp_seq (wp_region_Y [0,0] [] [[0],[1]] [] [.a 4, .a 5] (fun ix σ β X=>match ix with | 0=>σ 4=vp (pb (β 4))∧X 0=eB (pb (β 4)) 49 #[.slice none 0 0] | 1=>σ 5=vp (pb (β 5))∧X 1=eB (pb (β 5)) 58 #[.slice none 0 0] | _=>True) [0,1] [0,1] [(4,0,2,6)] hst0 ?_ ?_ ?_)
 ·exact fun ix _ _ _ _ _ _ hs hb hx h=>match ix,h with
  | 0,h=>by dsimp only; rw [← hs 4 rfl,← hb 4 rfl,← hx 0 rfl]; exact h
  | 1,h=>by dsimp only; rw [← hs 5 rfl,← hb 5 rfl,← hx 1 rfl]; exact h
  | _+2, _=>trivial
 ·refine ⟨?_,?_,trivial⟩
  ·refine svA fun ρ β W X cx=>?_
   exact dv_alloc (cs:=#[.slice none 0 0]) rfl (by kernel_rfl) rfl rfl (fun σ β' X' hs hb hv hx=>⟨hv,hx⟩)
  ·refine svA fun ρ β W X cx=>?_
   exact dv_alloc (cs:=#[.slice none 0 0]) rfl (by kernel_rfl) rfl rfl (fun σ β' X' hs hb hv hx=>⟨hv,hx⟩)
 intro σ β X W1 hD hst1 fr hfr
 obtain ⟨B4_1,hu_B4_1⟩:∃ z,pb (β 4)=z:=⟨_,rfl⟩
 obtain ⟨B5_1,hu_B5_1⟩:∃ z,pb (β 5)=z:=⟨_,rfl⟩
 simp only [exq 0 ((dTn (hD 0 lq)).2),exq 1 ((dTn (hD 1 lq)).2),hu_B4_1,hu_B5_1] at hst1
 simp only [ed 4 ((dTn (hD 0 lq)).1),ed 5 ((dTn (hD 1 lq)).1),hu_B4_1,hu_B5_1] at hfr
 clear hD hu_B4_1 hu_B5_1; subst hfr; clear σ β X
 refine then_normal (wp_seq (wp_seq (wp_region_Y [0,0,3] [] [[],[],[2,3,4]] [] [.k 12 (.iface tt (tv)), .k 13 (vi root), .a 14] (fun ix σ β X=>match ix with | 0=>True | 1=>True | 2=>σ 14= .func (.func 99) #[] #[vp (pcp 0 (β 14)),vp (pcp 1 (β 14)),vp (pcp 2 (β 14))]∧X 2=eB (pcp 0 (β 14)) 113 #[.iface tt (tv)]∧X 3=eB (pcp 1 (β 14)) 3 #[vi root]∧X 4=eB (pcp 2 (β 14)) 3 #[vi 0] | _=>True) [0,1,2,3,4] [2] [(12,0,3,15)] hst1 ?_ ?_ ?_)))
 ·exact fun ix _ _ _ _ _ _ hs hb hx h=>match ix,h with
  | 2,h=>by dsimp only; rw [← hs 14 rfl,← hb 14 rfl,← hx 2 rfl,← hx 3 rfl,← hx 4 rfl]; exact h
  | 0, _ | 1, _ | _+3, _=>trivial
 ·refine ⟨?_,trivial⟩
  ·refine svA fun ρ β W X cx=>?_
   refine DoesU.call (run_callF (args:=#[.iface tt (tv),vi root,vi 0]) rfl cx.sees rfl (by kernel_rfl) (map3 (cx.an 0) (cx.an 1) (cx.co _))) ?_
   refine (krowc_any tt tv root 0 _).mono ?_
   rintro e W1 ⟨B4,B5,B6,rfl,hs4⟩
   refine ⟨_,rfl,post_st [eB B4 113 #[.iface tt (tv)],eB B5 3 #[vi root],eB B6 3 #[vi 0]] rfl rfl hs4 (fun σ β' X' hs hb hv hN=>?_)⟩
   have hv1:=(hv 14 rfl).1; have hv2:=(hv 14 rfl).2
   exact ⟨hv1.trans (by rw [hv2]; rfl),(by rw [hv2]; exact (List.cons.inj hN).1),(by rw [hv2]; exact (List.cons.inj (List.cons.inj hN).2).1),(by rw [hv2]; exact (List.cons.inj (List.cons.inj (List.cons.inj hN).2).2).1)⟩
 intro σ β X W2 hD hst2 fr hfr
 obtain ⟨B14a_2,hu_B14a_2⟩:∃ z,pcp 0 (β 14)=z:=⟨_,rfl⟩
 obtain ⟨B14b_2,hu_B14b_2⟩:∃ z,pcp 1 (β 14)=z:=⟨_,rfl⟩
 obtain ⟨B14c_2,hu_B14c_2⟩:∃ z,pcp 2 (β 14)=z:=⟨_,rfl⟩
 simp only [exq 2 ((dTn (hD 2 lq)).2.1),exq 3 ((dTn (hD 2 lq)).2.2.1),exq 4 ((dTn (hD 2 lq)).2.2.2),hu_B14a_2,hu_B14b_2,hu_B14c_2] at hst2
 simp only [ed 14 ((dTn (hD 2 lq)).1),hu_B14a_2,hu_B14b_2,hu_B14c_2] at hfr
 clear hD hu_B14a_2 hu_B14b_2 hu_B14c_2; subst hfr; clear σ β X
 refine then_normal (wp_block ?_)
 have hn3:=St.nilrow hst2 9
 simp only [List.cons_append,List.nil_append] at hn3
 have hn4:=nilrowN hn3 31 2
 simp only [List.cons_append,List.nil_append] at hn4
 have hp6:=hn4.pick [0,1,5,6] (by decide) rfl
 refine wp_rangeSG (α:=YnD) hp6 rfl (enters_of Try.func99 (by kernel_rfl) rfl) (encs:=ynE) (Ex:=ynR) (N:=1000) (Z:=YnZ (rowF ps root 0)) (krow_seqG _ _ _ _ _ _ _ hok hoc) (fun A hA=>RdR.keep (hn4.pick [2,3,4,0,1,5,6] (by decide) rfl) hS hA) (fun _=>rfl) (fun bb pre L=>cond bb (∃ m:Nat,∃ KA:Option Addr,∃ kc:Nat,∃ RA:Option Addr,∃ rc:Nat,m=(esY pre).length∧m≤100*pre.length∧L=[eB B4_1 49 #[.slice KA m kc],eB B5_1 58 #[.slice RA m rc],eO 9 1 (.slice KA m kc) m ((esY pre).map tqS),eO 31 2 (.slice RA m rc) m ((esY pre).flatMap tqR)]) (False)) ⟨0,none,0,none,0,rfl,Nat.zero_le _,rfl⟩ (fun xx a_ E_=>∃ BV:Nat,a_=⟨([.iface tt (tv),vi root,undef,undef,vp B4_1,vp B5_1,vp BV,undef,undef,undef,undef,undef, .iface tt (tv),vi root, .func (.func 99) #[] #[vp B14a_2,vp B14b_2,vp B14c_2], .agg #[vi xx.2.1,vi xx.1.lv,vi xx.1.right, .string xx.1.high, .bool xx.1.dead, .slice xx.2.2.1 xx.1.es.length xx.2.2.2,vi ((xx.1.free:Int))],undef,undef,undef,undef,undef,undef,undef,undef,undef,undef,undef,undef,undef,undef,undef,undef,undef,undef,undef,undef,undef,undef,undef,undef,undef]).toArray,[]⟩∧E_=eB BV 116 #[vi xx.2.1,vi xx.1.lv,vi xx.1.right, .string xx.1.high, .bool xx.1.dead, .slice xx.2.2.1 xx.1.es.length xx.2.2.2,vi ((xx.1.free:Int))]) (fun xx=>[.iface tt (tv),vi root,undef,undef,vp B4_1,vp B5_1,undef,undef,undef,undef,undef,undef, .iface tt (tv),vi root, .func (.func 99) #[] #[vp B14a_2,vp B14b_2,vp B14c_2], .agg #[vi xx.2.1,vi xx.1.lv,vi xx.1.right, .string xx.1.high, .bool xx.1.dead, .slice xx.2.2.1 xx.1.es.length xx.2.2.2,vi ((xx.1.free:Int))],undef,undef,undef,undef,undef,undef,undef,undef,undef,undef,undef,undef,undef,undef,undef,undef,undef,undef,undef,undef,undef,undef,undef,undef,undef]) (fun xx=>by kernel_rfl) ?_ ?_ ?_ ?_
 ·intro rl xx W5 K hK
  have hst5:=St.start W5
  refine wpIn_region_Y [0,1] [[],[0]] [[0],[1]] [[],[0]] [.a 6, .n] (fun ix σ β X=>match ix with | 0=>σ 6=vp (pb (β 6))∧X 0=eB (pb (β 6)) 116 #[vi 0,vi 0,vi 0, .string ByteArray.empty, .bool false, .slice none 0 0,vi 0] | 1=>X 1=eB (pb (β 6)) 116 #[vi xx.2.1,vi xx.1.lv,vi xx.1.right, .string xx.1.high, .bool xx.1.dead, .slice xx.2.2.1 xx.1.es.length xx.2.2.2,vi ((xx.1.free:Int))] | _=>True) [1] [0,1] [(6,0,1,7)] hst5 ?_ ?_ ?_
  ·exact fun ix _ _ _ _ _ _ hs hb hx h=>match ix,h with
   | 0,h=>by dsimp only; rw [← hs 6 rfl,← hb 6 rfl,← hx 0 rfl]; exact h
   | 1,h=>by dsimp only; rw [← hb 6 rfl,← hx 1 rfl]; exact h
   | _+2, _=>trivial
  ·refine ⟨?_,?_,trivial⟩
   ·refine svA fun ρ β W X cx=>?_
    exact dv_alloc (cs:=#[vi 0,vi 0,vi 0, .string ByteArray.empty, .bool false, .slice none 0 0,vi 0]) rfl (by kernel_rfl) rfl rfl (fun σ β' X' hs hb hv hx=>⟨hv,hx⟩)
   ·refine svA fun ρ β W X cx=>?_
    exact dv_store (n:=7) rfl (dTn (cx.an 0)).1 (cx.ou 15) (by kernel_rfl) (by kernel_rfl) (by kernel_rfl) cx (dTn (cx.an 0)).2 rfl (nle rfl) (by kernel_rfl) rfl rfl rfl (fun σ β' X' hs hb hx=>by rw [hb 6]; exact hx)
  intro σ β X W7 hD hst7 fr hfr
  obtain ⟨B6_7,hu_B6_7⟩:∃ z,pb (β 6)=z:=⟨_,rfl⟩
  simp only [exq 1 ((dTn (hD 1 lq))),hu_B6_7] at hst7
  simp only [ed 6 ((dTn (hD 0 lq)).1),hu_B6_7] at hfr
  clear hD hu_B6_7; subst hfr; clear σ β X
  exact hK _ _ _ ⟨_,rfl,rfl⟩ (hst7.pick [0] (by decide) rfl)
 ·rintro rl pre xx W8 L8 a8 E8 ⟨m,KA,kc,RA,rc,hm,hmb,rfl⟩ hlen8 hPx8 ⟨BV,rfl,rfl⟩ hst8r
  have hst8:St W8 (fps ([eB B4_1 49 #[.slice KA m kc],eB B5_1 58 #[.slice RA m rc],eO 9 1 (.slice KA m kc) m ((esY pre).map tqS),eO 31 2 (.slice RA m rc) m ((esY pre).flatMap tqR)]++[eO 104 3 (.slice xx.2.2.1 xx.1.es.length xx.2.2.2) xx.1.es.length (xx.1.es.flatMap enC),eB BV 116 #[vi xx.2.1,vi xx.1.lv,vi xx.1.right, .string xx.1.high, .bool xx.1.dead, .slice xx.2.2.1 xx.1.es.length xx.2.2.2,vi ((xx.1.free:Int))]])) [eB B4_1 49 #[.slice KA m kc],eB B5_1 58 #[.slice RA m rc],eO 9 1 (.slice KA m kc) m ((esY pre).map tqS),eO 31 2 (.slice RA m rc) m ((esY pre).flatMap tqR),eO 104 3 (.slice xx.2.2.1 xx.1.es.length xx.2.2.2) xx.1.es.length (xx.1.es.flatMap enC),eB BV 116 #[vi xx.2.1,vi xx.1.lv,vi xx.1.right, .string xx.1.high, .bool xx.1.dead, .slice xx.2.2.1 xx.1.es.length xx.2.2.2,vi ((xx.1.free:Int))]] W8:=hst8r
  clear hst8r
  have hN0:=nd_ok hok hPx8
  have hez:∀ e∈xx.1.es,e.1.size≤1000000:=fun e he=>Nat.le_trans (hN0.es e he) (by decide)
  have hN1:=hN0.len
  refine wpIn_block (wpIn_seq (wpIn_region_Z [0,1,3,0] [[],[5]] [.k 16 (.pointer (some ⟨BV,5,none⟩)), .c 17 (.slice xx.2.2.1 xx.1.es.length xx.2.2.2), .k 18 (vi ((xx.1.es.length:Int))), .k 19 (vi 0)] [0,1,2,3,4,5] [1] [(16,0,4,20)] hst8 ?_ fun W9 hst9=>?_))
  ·refine ⟨?_,trivial⟩
   ·exact xs4 rfl id fun cx=>run_load1 rfl (by kernel_rfl) (cx.an 0) ((cx.bi 5 rfl).cell 5)
  refine then_normal (wpIn_block ?_)
  refine wpIn_loopN (fun mz az W=>∃ j:Nat,∃ q:Nat,∃ T:List EnD,∃ LA:Option Addr,∃ lc:Nat,∃ QA:Option Addr,∃ qc:Nat,j≤xx.1.es.length∧T=esY pre++xx.1.es.take j∧T.length=q∧q≤m+j∧mz=xx.1.es.length - j∧az=⟨#[.iface tt (tv),vi root,undef,undef,vp B4_1,vp B5_1,vp BV,undef,jv az 8,jv az 9,jv az 10,jv az 11, .iface tt (tv),vi root, .func (.func 99) #[] #[vp B14a_2,vp B14b_2,vp B14c_2], .agg #[vi xx.2.1,vi xx.1.lv,vi xx.1.right, .string xx.1.high, .bool xx.1.dead, .slice xx.2.2.1 xx.1.es.length xx.2.2.2,vi ((xx.1.free:Int))], .pointer (some ⟨BV,5,none⟩), .slice xx.2.2.1 xx.1.es.length xx.2.2.2,vi ((xx.1.es.length:Int)),vi ((j:Int)),jv az 20,jv az 21,jv az 22,jv az 23,jv az 24,jv az 25,jv az 26,jv az 27,jv az 28,jv az 29,jv az 30,jv az 31,jv az 32,jv az 33,jv az 34,jv az 35,jv az 36,jv az 37,jv az 38,undef,undef],[]⟩∧St W8 (fps ([eB B4_1 49 #[.slice KA m kc],eB B5_1 58 #[.slice RA m rc],eO 9 1 (.slice KA m kc) m ((esY pre).map tqS),eO 31 2 (.slice RA m rc) m ((esY pre).flatMap tqR)]++[eO 104 3 (.slice xx.2.2.1 xx.1.es.length xx.2.2.2) xx.1.es.length (xx.1.es.flatMap enC),eB BV 116 #[vi xx.2.1,vi xx.1.lv,vi xx.1.right, .string xx.1.high, .bool xx.1.dead, .slice xx.2.2.1 xx.1.es.length xx.2.2.2,vi ((xx.1.free:Int))]])) [eB B4_1 49 #[.slice LA q lc],eB B5_1 58 #[.slice QA q qc],eO 9 1 (.slice LA q lc) q (T.map tqS),eO 31 2 (.slice QA q qc) q (T.flatMap tqR),eO 104 3 (.slice xx.2.2.1 xx.1.es.length xx.2.2.2) xx.1.es.length (xx.1.es.flatMap enC),eB BV 116 #[vi xx.2.1,vi xx.1.lv,vi xx.1.right, .string xx.1.high, .bool xx.1.dead, .slice xx.2.2.1 xx.1.es.length xx.2.2.2,vi ((xx.1.free:Int))]] W) (xx.1.es.length - 0) ?_ ?_
  · -- the loop begins
    exact ⟨0,m,(esY pre),KA,kc,RA,rc,Nat.zero_le _,by rw [List.take_zero,List.append_nil],hm.symm,Nat.le_refl _,rfl,(by kernel_rfl),hst9.pk [0,1,2,3,4,5]⟩
  rintro n10 a10 W10 ⟨j,q,T,LA,lc,QA,qc,hj,hT,hTl,hqm,rfl,hj_,hst10⟩
  obtain ⟨u10_,hu_⟩:∃ z,jv a10=z:=⟨_,rfl⟩
  rw [hu_] at hj_; clear hu_; subst hj_
  refine wpIn_seq (wpIn_region_P [0] [.k 20 (.bool (decide ((j:Int) < (xx.1.es.length:Int))))] [(20,0,1,21)] hst10 fun W11 hst11=>?_)
  refine then_normal (wpIn_seq ?_)
  rcases Bool.eq_false_or_eq_true (decide ((j:Int) < (xx.1.es.length:Int))) with hs12 | hs12
  ·have hs12p:(j:Int) < (xx.1.es.length:Int):=by simpa using hs12
   refine wpIn_cond_true (show Act.eval _ _= .bool true from (congrArg Value.bool hs12)) (wpIn_skip (then_normal (wpIn_seq (wpIn_block (wpIn_seq (wpIn_region_Y [0,1,0,7] [[4],[4],[],[6]] [[],[],[6],[7]] [[],[],[],[6]] [.c 21 (.pointer (some ((ad xx.2.2.1).add (j*3)))), .c 22 (.agg #[.string ((xx.1.es.getD j en0).1),vi (((xx.1.es.getD j en0).2.1:Int)),vi ((xx.1.es.getD j en0).2.2)]), .a 8, .n] (fun ix σ β X=>match ix with | 0=>True | 1=>True | 2=>σ 8=vp (pb (β 8))∧X 6=eB (pb (β 8)) 104 #[.string ByteArray.empty,vi 0,vi 0] | 3=>X 7=eB (pb (β 8)) 104 #[.string ((xx.1.es.getD j en0).1),vi (((xx.1.es.getD j en0).2.1:Int)),vi ((xx.1.es.getD j en0).2.2)] | _=>True) [0,1,2,3,4,5,7] [0,1,2,3] [(8,2,1,9),(12,0,2,14)] hst11 ?_ ?_ ?_))))))
   ·exact fun ix _ _ _ _ _ _ hs hb hx h=>match ix,h with
    | 2,h=>by dsimp only; rw [← hs 8 rfl,← hb 8 rfl,← hx 6 rfl]; exact h
    | 3,h=>by dsimp only; rw [← hb 8 rfl,← hx 7 rfl]; exact h
    | 0, _ | 1, _ | _+4, _=>trivial
   ·refine ⟨?_,?_,?_,?_,trivial⟩
    ·exact xs4 rfl id fun cx=>run_indexSlM (e:=104) (m:=j) (sz:=3) rfl (by kernel_rfl) (by kernel_rfl) (cx.ou 17) (cx.ou 19) (by omega) (by omega) (At.of_ownN (cx.ri 4 rfl)) (by have h_:=flatLen (f:=enC) (sz:=3) enC_len xx.1.es; show 0 < (List.flatMap enC xx.1.es).length; omega)
    ·exact xs4 rfl id fun cx=>run_loadElt (f:=enC) (m:=j) (sz:=3) (off:=0) (n:=3) rfl (by kernel_rfl) (by kernel_rfl) (cx.an 0) rfl enC_len (At.of_ownN (cx.ri 4 rfl)) (en_get (by omega)) (fun k hk=>match k,hk with | 0, _=>rfl | 1, _=>rfl | 2, _=>rfl | k+3,hk=>absurd hk (by omega))
    ·refine svA fun ρ β W X cx=>?_
     exact dv_alloc (cs:=#[.string ByteArray.empty,vi 0,vi 0]) rfl (by kernel_rfl) rfl rfl (fun σ β' X' hs hb hv hx=>⟨hv,hx⟩)
    ·refine svA fun ρ β W X cx=>?_
     exact dv_store (n:=3) rfl (dTn (cx.an 2)).1 (cx.an 1) (by kernel_rfl) (by kernel_rfl) (by kernel_rfl) cx (dTn (cx.an 2)).2 rfl (nle rfl) (by kernel_rfl) rfl rfl rfl (fun σ β' X' hs hb hx=>by rw [hb 8]; exact hx)
   intro σ β X W13 hD hst13 fr hfr
   obtain ⟨B8_13,hu_B8_13⟩:∃ z,pb (β 8)=z:=⟨_,rfl⟩
   simp only [exq 7 ((dTn (hD 3 lq))),hu_B8_13] at hst13
   simp only [ed 8 ((dTn (hD 2 lq)).1),hu_B8_13] at hfr
   clear hD hu_B8_13; subst hfr; clear σ β X
   refine then_normal (wpIn_seq (wpIn_region_Y [0,1,3,7,15,15,15,0,159,447,1023] [[],[6],[],[],[],[],[],[],[],[7]] [[],[],[],[],[],[],[],[7],[],[8]] [[],[],[],[],[],[],[],[],[],[7]] [.k 24 (vp B8_13), .c 25 (.string ((xx.1.es.getD j en0).1)), .c 26 (.tuple #[.string (qkF ((xx.1.es.getD j en0).1)), .agg #[vi (opF ((xx.1.es.getD j en0).1)),vi (osF ((xx.1.es.getD j en0).1))], .bool (decide (4≤((xx.1.es.getD j en0).1).size))]), .k 23 (.tuple #[.string (qkF ((xx.1.es.getD j en0).1)), .agg #[vi (opF ((xx.1.es.getD j en0).1)),vi (osF ((xx.1.es.getD j en0).1))], .bool (decide (4≤((xx.1.es.getD j en0).1).size))]), .k 27 (.string (qkF ((xx.1.es.getD j en0).1))), .k 28 (.agg #[vi (opF ((xx.1.es.getD j en0).1)),vi (osF ((xx.1.es.getD j en0).1))]), .k 29 (.bool (decide (4≤((xx.1.es.getD j en0).1).size))), .a 10, .k 9 (.string (qkF ((xx.1.es.getD j en0).1))), .n, .k 11 (.bool (decide (4≤((xx.1.es.getD j en0).1).size)))] (fun ix σ β X=>match ix with | 0=>True | 1=>True | 2=>True | 3=>True | 4=>True | 5=>True | 6=>True | 7=>σ 10=vp (pb (β 10))∧X 7=eB (pb (β 10)) 31 #[vi 0,vi 0] | 8=>True | 9=>X 8=eB (pb (β 10)) 31 #[vi (opF ((xx.1.es.getD j en0).1)),vi (osF ((xx.1.es.getD j en0).1))] | _=>True) [0,1,2,3,4,5,6,8] [1,2,7,9] [(9,8,1,10),(0,7,1,1),(0,10,1,1),(11,3,1,12),(0,0,3,3),(0,4,3,3)] hst13 ?_ ?_ ?_))
   ·exact fun ix _ _ _ _ _ _ hs hb hx h=>match ix,h with
    | 7,h=>by dsimp only; rw [← hs 10 rfl,← hb 10 rfl,← hx 7 rfl]; exact h
    | 9,h=>by dsimp only; rw [← hb 10 rfl,← hx 8 rfl]; exact h
    | 0, _ | 1, _ | 2, _ | 3, _ | 4, _ | 5, _ | 6, _ | 8, _ | _+10, _=>trivial
   ·refine ⟨?_,?_,?_,?_,trivial⟩
    ·exact xs4 rfl id fun cx=>run_load1 rfl (by kernel_rfl) (cx.an 0) ((cx.bi 6 rfl).cell 0)
    ·exact xsc rfl id rfl rfl fun cx=>⟨_,kpart_any ((xx.1.es.getD j en0).1) _ (getD_size hez _),(map1 (cx.an 1))⟩
    ·refine svA fun ρ β W X cx=>?_
     exact dv_alloc (cs:=#[vi 0,vi 0]) rfl (by kernel_rfl) rfl rfl (fun σ β' X' hs hb hv hx=>⟨hv,hx⟩)
    ·refine svA fun ρ β W X cx=>?_
     exact dv_store (n:=2) rfl (dTn (cx.an 7)).1 (cx.an 5) (by kernel_rfl) (by kernel_rfl) (by kernel_rfl) cx (dTn (cx.an 7)).2 rfl (nle rfl) (by kernel_rfl) rfl rfl rfl (fun σ β' X' hs hb hx=>by rw [hb 10]; exact hx)
   intro σ β X W14 hD hst14 fr hfr
   obtain ⟨B10_14,hu_B10_14⟩:∃ z,pb (β 10)=z:=⟨_,rfl⟩
   simp only [exq 8 ((dTn (hD 9 lq))),hu_B10_14] at hst14
   simp only [ed 10 ((dTn (hD 7 lq)).1),hu_B10_14] at hfr
   clear hD hu_B10_14; subst hfr; clear σ β X
   refine then_normal (wpIn_region_Y [0,0,2,7,0,0,32,127,255,511] [[0],[],[],[8,2],[1],[7],[],[10,3],[0],[1]] [[],[],[8],[9],[],[],[10],[11],[12],[13]] [[],[],[],[2],[],[],[],[3],[0],[1]] [.c 30 (.slice LA q lc), .k 31 (.string (qkF ((xx.1.es.getD j en0).1))), .a 32, .a 33, .c 34 (.slice QA q qc), .c 35 (.agg #[vi (opF ((xx.1.es.getD j en0).1)),vi (osF ((xx.1.es.getD j en0).1))]), .a 36, .a 37, .n, .n] (fun ix σ β X=>match ix with | 0=>True | 1=>True | 2=>σ 32= .slice (sA (β 32)) 1 1∧X 8=eO 9 1 (.slice (sA (β 32)) 1 1) 1 ([.string (qkF ((xx.1.es.getD j en0).1))]) | 3=>σ 33= .slice (sA (β 33)) (q+1) (sC (β 33))∧X 9=eO 9 1 (.slice (sA (β 33)) (q+1) (sC (β 33))) (q+1) ((T++[(xx.1.es.getD j en0)]).map tqS) | 4=>True | 5=>True | 6=>σ 36= .slice ((some ⟨(pb' (β 36)),0,none⟩)) 1 1∧X 10=eO 31 2 (.slice ((some ⟨(pb' (β 36)),0,none⟩)) 1 1) 1 ([vi (opF ((xx.1.es.getD j en0).1)),vi (osF ((xx.1.es.getD j en0).1))]) | 7=>σ 37= .slice (sA (β 37)) (q+1) (sC (β 37))∧X 11=eO 31 2 (.slice (sA (β 37)) (q+1) (sC (β 37))) (q+1) ((T++[(xx.1.es.getD j en0)]).flatMap tqR) | 8=>X 12=eB B4_1 49 #[.slice (sA (β 33)) (q+1) (sC (β 33))] | 9=>X 13=eB B5_1 58 #[.slice (sA (β 37)) (q+1) (sC (β 37))] | _=>True) [4,5,6,7,8,9,10,11,12,13] [0,2,3,4,5,6,7,8,9] [(30,0,8,38)] hst14 ?_ ?_ ?_)
   ·exact fun ix _ _ _ _ _ _ hs hb hx h=>match ix,h with
    | 2,h=>by dsimp only; rw [← hs 32 rfl,← hb 32 rfl,← hx 8 rfl]; exact h
    | 3,h=>by dsimp only; rw [← hs 33 rfl,← hb 33 rfl,← hx 9 rfl]; exact h
    | 6,h=>by dsimp only; rw [← hs 36 rfl,← hb 36 rfl,← hx 10 rfl]; exact h
    | 7,h=>by dsimp only; rw [← hs 37 rfl,← hb 37 rfl,← hx 11 rfl]; exact h
    | 8,h=>by dsimp only; rw [← hb 33 rfl,← hx 12 rfl]; exact h
    | 9,h=>by dsimp only; rw [← hb 37 rfl,← hx 13 rfl]; exact h
    | 0, _ | 1, _ | 4, _ | 5, _ | _+10, _=>trivial
   ·refine ⟨?_,?_,?_,?_,?_,?_,?_,?_,?_,trivial⟩
    ·exact xs4 rfl id fun cx=>run_load1 rfl (by kernel_rfl) (cx.ou 4) ((cx.bi 0 rfl).cell 0)
    ·refine svA fun ρ β W X cx=>?_
     have fF31:ρ (.tmp 31)= .string (qkF ((xx.1.es.getD j en0).1)):=(cx.an 1)
     exact dv_lit (e:=9) (xs:=[.string (qkF ((xx.1.es.getD j en0).1))]) rfl (by simp [go_sem,fF31]) rfl (by decide) rfl rfl (fun σ β' X' hs hb hv hx=>⟨hv,hx⟩)
    ·refine svA fun ρ β W X cx=>?_
     obtain ⟨i0,hi0,hz0,hz1,hz2⟩:=info_parts Try.infoStr
     refine dv_append (n:=q) (m:=1) (nm:=q+1) (xs:=T.map tqS) (news:=[.string (qkF ((xx.1.es.getD j en0).1))]) (xs':=(T++[(xx.1.es.getD j en0)]).map tqS) rfl (ty:=49) rfl (by kernel_rfl) hi0 hz0 hz1 hz2 rfl (cx.an 0) cx (cx.init 2 _ rfl) rfl (dTn (cx.an 2)).1 (by rfl) (At.of_own (cx.row (dTn (cx.an 2)).2 rfl)) (by simp [Value.oneCell']) (by simp only [maxLen]; omega) (by omega) rfl rfl rfl (by omega) (tqS_snoc _ _) (fun σ β' X' hs hb hv hx=>?_)
     exact ⟨hv,hx⟩
    ·exact xs4 rfl id fun cx=>run_load1 rfl (by kernel_rfl) (cx.ou 5) ((cx.bi 1 rfl).cell 0)
    ·exact xs4 rfl id fun cx=>run_loadB (n:=2) rfl (by kernel_rfl) (by kernel_rfl) (cx.ou 10) (cx.bi 7 rfl) (nle rfl) rfl
    ·refine svA fun ρ β W X cx=>?_
     have fF35:ρ (.tmp 35)= .agg #[vi (opF ((xx.1.es.getD j en0).1)),vi (osF ((xx.1.es.getD j en0).1))]:=(cx.an 5)
     exact dv_litN (e:=31) (sz:=2) (xs:=[vi (opF ((xx.1.es.getD j en0).1)),vi (osF ((xx.1.es.getD j en0).1))]) rfl (by simp [go_sem,fF35]) rfl (by decide) rfl rfl (fun σ β' X' hs hb hv hx=>⟨hv,hx⟩)
    ·refine svA fun ρ β W X cx=>?_
     obtain ⟨i0,hi0,hz0,hz1,hz2⟩:=info_parts Try.infoTid
     refine dv_appendN (n:=q) (m:=1) (nm:=q+1) (sz:=2) (xs:=T.flatMap tqR) (news:=[vi (opF ((xx.1.es.getD j en0).1)),vi (osF ((xx.1.es.getD j en0).1))]) (xs':=(T++[(xx.1.es.getD j en0)]).flatMap tqR) rfl (ty:=58) rfl (by kernel_rfl) hi0 hz0 hz1 hz2 rfl (by decide) (cx.an 4) cx (cx.init 3 _ rfl) rfl (dTn (cx.an 6)).1 (by rfl) (At.of_ownN (cx.row (dTn (cx.an 6)).2 rfl)) (by simp [Value.oneCell']) (by simp only [maxLen]; omega) (by omega) rfl rfl rfl (by omega) (tqR_snoc _ _) (fun σ β' X' hs hb hv hx=>?_)
     exact ⟨hv,hx⟩
    ·refine svA fun ρ β W X cx=>?_
     exact dv_store (n:=1) rfl (cx.ou 4) (dTn (cx.an 3)).1 (by kernel_rfl) (by kernel_rfl) (by kernel_rfl) cx (cx.init 0 _ rfl) rfl (nle rfl) (by kernel_rfl) rfl rfl rfl (fun σ β' X' hs hb hx=>by rw [hb 33]; exact hx)
    ·refine svA fun ρ β W X cx=>?_
     exact dv_store (n:=1) rfl (cx.ou 5) (dTn (cx.an 7)).1 (by kernel_rfl) (by kernel_rfl) (by kernel_rfl) cx (cx.init 1 _ rfl) rfl (nle rfl) (by kernel_rfl) rfl rfl rfl (fun σ β' X' hs hb hx=>by rw [hb 37]; exact hx)
   intro σ β X W15 hD hst15 fr hfr
   obtain ⟨A32_15,hu_A32_15⟩:∃ z,sA (β 32)=z:=⟨_,rfl⟩
   obtain ⟨A33_15,hu_A33_15⟩:∃ z,sA (β 33)=z:=⟨_,rfl⟩
   obtain ⟨c33_15,hu_c33_15⟩:∃ z,sC (β 33)=z:=⟨_,rfl⟩
   obtain ⟨B36_15,hu_B36_15⟩:∃ z,pb' (β 36)=z:=⟨_,rfl⟩
   obtain ⟨A37_15,hu_A37_15⟩:∃ z,sA (β 37)=z:=⟨_,rfl⟩
   obtain ⟨c37_15,hu_c37_15⟩:∃ z,sC (β 37)=z:=⟨_,rfl⟩
   simp only [exq 8 ((dTn (hD 2 lq)).2),exq 9 ((dTn (hD 3 lq)).2),exq 10 ((dTn (hD 6 lq)).2),exq 11 ((dTn (hD 7 lq)).2),exq 12 ((dTn (hD 8 lq))),exq 13 ((dTn (hD 9 lq))),hu_A32_15,hu_A33_15,hu_c33_15,hu_B36_15,hu_A37_15,hu_c37_15] at hst15
   simp only [ed 32 ((dTn (hD 2 lq)).1),ed 33 ((dTn (hD 3 lq)).1),ed 36 ((dTn (hD 6 lq)).1),ed 37 ((dTn (hD 7 lq)).1),hu_A32_15,hu_A33_15,hu_c33_15,hu_B36_15,hu_A37_15,hu_c37_15] at hfr
   clear hD hu_A32_15 hu_A33_15 hu_c33_15 hu_B36_15 hu_A37_15 hu_c37_15; subst hfr; clear σ β X
   refine blk_normal (then_normal (wpIn_region_P [0,1] [tI 38 ((j:Int)+1) (by omega), .k 19 (vi ((j:Int)+1))] [(19,1,1,20),(18,0,1,19)] hst15 fun W16 hst16=>?_))
   refine then_normal ?_
   refine ⟨xx.1.es.length - ((j+1)),by omega,?_⟩
   exact ⟨(j+1),(q+1),(T++[(xx.1.es.getD j en0)]),A33_15,c33_15,A37_15,c37_15,by omega,by rw [hT,take_getD (by omega),List.append_assoc],by rw [List.length_append,hTl]; rfl,by omega,rfl,(by kernel_rfl),hst16.pk [8,9,5,7,0,1]⟩
  have hs12p:¬ ((j:Int) < (xx.1.es.length:Int)):=by simpa using hs12
  refine wpIn_cond_false (show Act.eval _ _= .bool false from (congrArg Value.bool hs12)) (wpIn_exit (then_exit (then_exit (blk_eq (blk_normal ?_)))))
  have hfin_:T=esY (pre++[xx]):=by rw [hT,esY_snoc,List.take_of_length_le (by omega)]
  rw [hfin_] at hst11 hTl
  exact ⟨true, .inl ⟨rfl,rfl⟩, _,⟨q,LA,lc,QA,qc,hTl.symm,by rw [List.length_append]; show q≤100*(pre.length+1); omega,rfl⟩,hst11.pick [0,1,2,3,4] (by decide) rfl⟩
 ·rintro D5 W5d L5 XS_ E_ ⟨m,KA,kc,RA,rc,hm,hmb,rfl⟩ hZ_ hst5r
  have hst5d:St w [] [eB B4_1 49 #[.slice KA m kc],eB B5_1 58 #[.slice RA m rc],eO 9 1 (.slice KA m kc) m ((esY XS_).map tqS),eO 31 2 (.slice RA m rc) m ((esY XS_).flatMap tqR),E_,eDfr D5] W5d:=hst5r
  clear hst5r
  refine blk_normal (then_normal (wp_seq (wp_region_Y [0,0,1,7] [[0],[1],[0],[1]] [[],[],[6],[7]] [[],[],[0],[1]] [.c 39 (.slice KA m kc), .c 40 (.slice RA m rc), .n, .n] (fun ix σ β X=>match ix with | 0=>True | 1=>True | 2=>X 6=eB B4_1 49 #[.slice KA m kc] | 3=>X 7=eB B5_1 58 #[.slice RA m rc] | _=>True) [2,3,4,5,6,7] [0,1,2,3] [(39,0,2,41)] hst5d ?_ ?_ ?_)))
  ·exact fun ix _ _ _ _ _ _ hs hb hx h=>match ix,h with
   | 2,h=>by dsimp only; rw [← hx 6 rfl]; exact h
   | 3,h=>by dsimp only; rw [← hx 7 rfl]; exact h
   | 0, _ | 1, _ | _+4, _=>trivial
  ·refine ⟨?_,?_,?_,?_,trivial⟩
   ·exact xs4 rfl id fun cx=>run_load1 rfl (by kernel_rfl) (cx.ou 4) ((cx.bi 0 rfl).cell 0)
   ·exact xs4 rfl id fun cx=>run_load1 rfl (by kernel_rfl) (cx.ou 5) ((cx.bi 1 rfl).cell 0)
   ·refine svA fun ρ β W X cx=>?_
    exact dv_store (n:=1) rfl (cx.ou 4) (cx.an 0) (by kernel_rfl) (by kernel_rfl) (by kernel_rfl) cx (cx.init 0 _ rfl) rfl (nle rfl) (by kernel_rfl) rfl rfl rfl (fun σ β' X' hs hb hx=>hx)
   ·refine svA fun ρ β W X cx=>?_
    exact dv_store (n:=1) rfl (cx.ou 5) (cx.an 1) (by kernel_rfl) (by kernel_rfl) (by kernel_rfl) cx (cx.init 1 _ rfl) rfl (nle rfl) (by kernel_rfl) rfl rfl rfl (fun σ β' X' hs hb hx=>hx)
  intro σ β X W17 hD hst17 fr hfr
  simp only [exq 6 ((dTn (hD 2 lq))),exq 7 ((dTn (hD 3 lq)))] at hst17
  clear hD; subst hfr; clear σ β X
  refine then_normal (wp_ret ?_)
  refine bpm_take (L:=[eO 9 1 (.slice KA m kc) m ((esY XS_).map tqS),eO 31 2 (.slice RA m rc) m ((esY XS_).flatMap tqR),E_,eB B4_1 49 #[.slice KA m kc],eB B5_1 58 #[.slice RA m rc]]) (hst17.pick [0,1,2,4,5,3] (by decide) rfl) fun Wt18 ht18=>?_
  refine ⟨.tuple #[.slice KA m kc, .slice RA m rc],(results_2 Try.results42 (rpc (ht18.blk 3 rfl) 0) (rpc (ht18.blk 4 rfl) 0)),?_⟩
  exact al_done (hZ_.2.1 rfl) hm (ht18.pick [0,1] (by decide) rfl)
 ·exact fun D W L xs E h=>h.elim
end
section
open Go.RowKit
theorem lref_any (i:Nat) (w:World) (hi:i≤1000000):
  Calls Try.prog 41 #[.int .i64 ((i:Int))] w (Ret (.agg #[.int .i64 (1+(i:Int) / 8), .int .i64 (1+(i:Int) % 8)]) w):=by
 go_enter Try.func41,Try.ntmps41
 have hst0:=St.start w
 refine wp_seq (sqr (sqal #[vi 0,vi 0] hst0 fun B2_1 W1 hst1=>?_))
 refine then_normal (wp_seq (sqr (sqp [.m 3 0,sQu 4 .i64 (i:Int) 8 ((i:Int) / 8) (by rw [Int.tdiv_eq_ediv_of_nonneg (by omega)]; exact IntWalk.i64_in _ (by omega)),sI 5 (1+((i:Int) / 8)) (by omega), .m 6 0,sRe 7 .i64 (i:Int) 8 ((i:Int) % 8) (Int.tmod_eq_emod_of_nonneg (by omega)),sI 8 (1+((i:Int) % 8)) (by omega), .k 9 (.agg #[vi (1+((i:Int) / 8)),vi (1+((i:Int) % 8))])] ?_)))
 refine sqst (n:=2) 0 #[vi (1+((i:Int) / 8)),vi (1+((i:Int) % 8))] hst1 fun W9 hst9=>?_
 refine then_normal (wp_ret ?_)
 refine bpr (.agg #[vi (1+((i:Int) / 8)),vi (1+((i:Int) % 8))]) (results_cell (n:=2) Try.results41 rfl (by kernel_rfl) (by kernel_rfl) (hst9.blk 0 rfl) rfl) ?_
 exact Ret.of rfl hst9.ext
end
section
open Go.RowKit Go.Maps
noncomputable def ecB:Ec Bool where
 enc:= .bool
 dat:=fun v=> .lit (.bool v)
 R:=plainElem Try.prog 4
 e0:=false
 okE:=fun _=>True
 read:=fun e _=>plainElem_bool (by kernel_rfl) e
 back:=fun v d ps e h1 h2=>by
  subst h2
  unfold plainElem at h1
  have hu:Try.prog.underlying 4=some .bool:=by kernel_rfl
  rw [hu] at h1
  cases v<;>simp at h1
  rw [h1.1]
 ok0:=trivial
theorem rm_to {r r':List EdT×Bool} {f:FuncId} {args:Array Value} {w:World} (h:r=r') (hc:Calls Try.prog f args w (RmPost r w)):Calls Try.prog f args w (RmPost r' w):=h ▸ hc
theorem ent_parts {x:ByteArray} {k:ByteArray} {p s:Int} (h:x=entF k p s) (hp:0≤p∧p < 65536) (hs:0≤s∧s < 65536):qkF x=k∧opF x=p∧osF x=s∧entF (qkF x) (opF x) (osF x)=x:=by
 have hz:¬ (entF k p s).size < 4:=by rw [entF_size]; omega
 have h1:qkF x=k:=by rw [h,qkF,if_neg hz,pkF_ent]
 have h2:opF x=p:=by rw [h,opF,if_neg hz,ppF_ent]; omega
 have h3:osF x=s:=by rw [h,osF,if_neg hz,psF_ent]; omega
 exact ⟨h1,h2,h3,by rw [h1,h2,h3,h]⟩
theorem rmG_is {ps:List PgS} {x:ByteArray} (hok:OkS ps):∀ (k:Nat) (w:WkT),∃ (pg:Int) (es:List EnD),es.length≤100000∧(rmG ps x k w).1=clearE pg es
 | 0,w=>⟨0,[],by simp,rfl⟩
 | k+1,w=>by
   obtain ⟨pos,st,fm,fin⟩:=w
   rcases hR:wkN ps ⟨pos,st,fm,fin⟩ with ⟨w1, _ | _ | nd⟩
   ·exact ⟨0,[],by simp,by rw [rm_off hR]; rfl⟩
   ·rw [rm_on hR]; exact rmG_is hok k w1
   ·have hN:=(nd_ok hok (wk_at2 hR)).len
    exact ⟨pos,onlyX x nd.es,Nat.le_trans (List.length_filter_le _ _) (by omega),by rw [rm_at hR]⟩
theorem rm_sz {ps:List PgS} (hok:OkS ps) (root:Int) (x:ByteArray) (M:Nat):EdM M (rmF ps root x).1:=by
 obtain ⟨pg,es, _,h⟩:=rmG_is (x:=x) hok 1000 ⟨root,0,x,false⟩
 rw [rmF,h]; exact clearE_sz _ _ _
theorem rm_len {ps:List PgS} (hok:OkS ps) (root:Int) (x:ByteArray):(rmF ps root x).1.length≤100000:=by
 obtain ⟨pg,es,h1,h⟩:=rmG_is (x:=x) hok 1000 ⟨root,0,x,false⟩
 rw [rmF,h,clearE_len]; exact h1
theorem rm_c8 {ps:List PgS} (hok:OkS ps) (hc:C8 ps) (root:Int) (x:ByteArray):C8 (doB ps (rmF ps root x).1):=by
 obtain ⟨pg,es, _,h⟩:=rmG_is (x:=x) hok 1000 ⟨root,0,x,false⟩
 rw [rmF,h]; exact fun i=>Nat.le_trans (cntAt_clr (clearE_no pg es i)) (hc i)
theorem sort_ent {l:List Int} {ps:List PgS} {S:List Nat} (h:SortI l ps S) {i:Nat} (hi:i < (allF ps 0).length):∃ j:Nat,j∈S∧j < 90∧qkF ((allF ps 0).getD i en0).1=keyF (l.getD j 0)∧opF ((allF ps 0).getD i en0).1=1+(j:Int) / 8∧osF ((allF ps 0).getD i en0).1=1+(j:Int) % 8∧(qkF ((allF ps 0).getD i en0).1).size≤2∧entF (qkF ((allF ps 0).getD i en0).1) (opF ((allF ps 0).getD i en0).1) (osF ((allF ps 0).getD i en0).1)=((allF ps 0).getD i en0).1∧((allF ps 0).getD i en0).1.size≤6:=by
 obtain ⟨j,h1,h2,h3⟩:=sort_at h hi
 obtain ⟨a,b,c,d⟩:=ent_parts (k:=keyF (l.getD j 0)) (p:=1+(j:Int) / 8) (s:=1+(j:Int) % 8) h3 ⟨by omega,by omega⟩ ⟨by omega,by omega⟩
 refine ⟨j,h1,h2,a,b,c,?_,d,?_⟩
 ·rw [a]; exact keyF_size _
 ·rw [h3,entG,entF_size]; have:=keyF_size (l.getD j 0); omega
theorem al_to {r r':List EnD} {f:FuncId} {args:Array Value} {w:World} (h:r=r') (hc:Calls Try.prog f args w (AlPost r w)):Calls Try.prog f args w (AlPost r' w):=h ▸ hc
theorem lrestn (x:Int) (n:Nat) (w:World) (hn0:0 < n) (hn9:n≤100000):
  Calls Try.prog 14 #[.int .i64 x, .int .i64 ((n:Int))] w (Ret (.int .i64 ((x.tmod (n:Int)+(n:Int)).tmod (n:Int))) w):=by
 have h1_:=Int.lt_tmod_of_pos x (b:=(n:Int)) (by omega)
 have h2_:=Int.tmod_lt_of_pos x (b:=(n:Int)) (by omega)
 go_enter Try.func14,Try.ntmps14
 have hst0:=St.start w
 refine wp_seq (sqr (sqp [.k 4 (vi 0)] ?_))
 refine then_normal (wp_seq (sqr (sqp [.m 5 0, .m 6 1] ?_)))
 refine sql (vi ((x.tmod (n:Int)))) hst0 (fun cx=>run_rem rfl (cx.ou 5) (cx.ou 6) (by omega) (rfl)) ?_
 refine sqp [.m 8 1,sI 9 ((x.tmod (n:Int))+(n:Int)) (by omega), .m 10 1] ?_
 refine sql (vi ((((x.tmod (n:Int))+(n:Int)).tmod (n:Int)))) hst0 (fun cx=>run_rem rfl (cx.ou 9) (cx.ou 10) (by omega) (rfl)) ?_
 refine sqp [.m 4 11] ?_
 refine then_normal (wp_ret ?_)
 refine bpr (vi ((((x.tmod (n:Int))+(n:Int)).tmod (n:Int)))) (results_1 Try.results14 rpt) ?_
 exact Ret.of rfl hst0.ext
theorem tqS_get {E:List EnD} {k:Nat} (h:k < E.length):(E.map tqS)[k]? =some (.string (qkF (E.getD k en0).1)):=by simp [tqS,h]
theorem treesorted_any (A G:Option Addr) (n0 c g0 gc:Nat) (l gone:List Int) (w:World) (hA:At w A (l.map (Value.int .i64))) (hn:l.length=n0) (hc:n0≤c) (hG:At w G (gone.map (Value.int .i64))) (hg:gone.length=g0):
  Calls Try.prog 8 #[.slice A n0 c, .slice G g0 gc] w (Ret (.bool true) w):=by
 go_enter Try.func8,Try.ntmps8
 have hst0:=St.start w
 refine wp_seq (sqr (sqp [.k 4 (.bool false)] ?_))
 refine then_normal (wp_seq (sqr (sqk (.bool true) hst0 (fun cx=>⟨_,sanity10_any _,map0⟩) fun W2 hst2=>?_)))
 refine sqp [.k 5 (.bool true)] ?_
 refine then_normal (wp_seq (sqr (sqp [.m 20 0] ?_)))
 refine sqk1s (fun B21_5=>vp B21_5) (fun B21_5 r0_5=>eBk B21_5 (grownF l) r0_5) hst2 (fun cx=>⟨_,(rgrown_any _ _ _ l _ (hA.ext cx.upd.to_ext) (by first | (rw [List.length_take]; omega) | omega)).mono (by rintro e W1 ⟨B4,fp4,rfl,hs4⟩; exact ⟨_, _,rfl,hs4⟩),(map1 (cx.ou 20))⟩) fun B21_5 r0_5 W5 hst5=>?_
 refine sqp [.m 6 21] ?_
 refine then_normal (wp_seq (sqr (sqp [.m 22 0] ?_)))
 refine sqk (.slice A ((min n0 90)) c) hst5 (fun cx=>⟨_,lseed_any A n0 c 90 _ hc,(map2 (cx.ou 22) (cx.co _))⟩) fun W8 hst8=>?_
 refine sqp [.m 7 23] ?_
 refine then_normal (wp_seq ?_)
 obtain ⟨mf,hN_mf⟩:∃ z,(min n0 90)=z:=⟨_,rfl⟩
 rw [hN_mf]
 refine sqr ?_
 refine sqn1 (fun x_=>pbx x_) (fun M24_10=> .map (some M24_10)) (fun M24_10=>eMx kcI ecB Try.prog 3 M24_10 0 (fun _=>none)) hst8 (by
   refine svA fun ρ β W X cx=>?_
   exact dv_makeMx rfl rfl rfl rfl (fun σ β' X' hs hb hv hx=>⟨hv,hx⟩)) fun M24_10 W10 hst10=>?_
 refine sqp [.m 8 24] ?_
 refine then_normal (wp_seq (wp_seq (sqr (sqp [.k 9 (vi 0)] ?_))))
 refine then_normal (wp_block ?_)
 rw [show (fun _=>none:Int→Option Bool)=mS (List.range 0) from mS_nil] at hst10
 refine wp_loopT (fun t_ mz az W=>∃ i:Nat,i≤mf∧mz=mf - i∧az=⟨(ovr (jv az) [(9,9,0,[vi ((i:Int))]),(15,25,8,[])] t_).toArray,[]⟩∧St w [] [eBk B21_5 (grownF l) r0_5,eMx kcI ecB Try.prog 3 M24_10 ((List.range i).length) (mS (List.range i))] W) (mf - 0) ?_ ?_
 · -- the loop begins
   exact ⟨0,Nat.zero_le _,rfl,(by kernel_rfl),hst10.pk [0,1]⟩
 rintro n13 a13 W13 ⟨i,hi,rfl,hj_,hst13⟩
 refine ovz hj_ fun u13_=>?_
 have hrl_:(List.range i).length=i:=List.length_range
 refine wp_seq (wp_seq (sqr (sqp [.m 25 9, .m 26 7, .k 27 (vi ((mf:Int))), .k 28 (.bool (decide ((i:Int) < (mf:Int))))] ?_)))
 refine then_normal (wds (fun hs18 hs18p=>?_) fun hs18 hs18p=>?_)
 ·refine wp_skip (then_normal (wp_seq (wp_block (sqr (sqp [.m 31 8, .m 32 9] ?_)))))
  refine sqc (eMx kcI ecB Try.prog 3 M24_10 ((mzP (mS (List.range i)) (i:Int) ((List.range i).length))) (putX (mS (List.range i)) (i:Int) (some true))) 1 hst13 (by
    refine svA fun ρ β W X cx=>?_
    exact dv_setMx (e:=4) (v:=true) (.inl rfl) (cx.ou 31) (show ρ _=Kc.enc kcI (i:Int) from (cx.ou 32)) (show ρ _=Ec.enc ecB true from (cx.co _)) cx (cx.init 1 _ rfl) rfl (trivial) (by omega) (show _∧ _ from ⟨by omega,by omega⟩) rfl rfl rfl (fun σ β' X' hs hb hx=>hx) (hk:=show Program.underlying _ _= _ from by kernel_rfl)) fun W21 hst21=>?_
  refine blk_normal (then_normal (sqr (sqp [.m 29 9,sI 30 ((i:Int)+1) (by omega), .m 9 30] ?_)))
  refine then_normal ?_
  rw [mS_size (S:=List.range i) (by simp),mS_put,← List.range_succ] at hst21
  refine ⟨mf - ((i+1)),by omega,?_⟩
  exact ⟨(i+1),by omega,rfl,(by kernel_rfl),hst21.pk [0,1]⟩
 refine wp_exit (then_exit (then_exit (blk_eq (then_normal (wp_seq (wp_seq ?_))))))
 obtain ⟨b0,hb0⟩:∃ z,grownF l=z:=⟨_,rfl⟩
 obtain rfl:i=mf:=by omega
 obtain ⟨S0,hS0⟩:∃ z,List.range i=z:=⟨_,rfl⟩
 rw [hb0,hS0] at hst13
 have htl_:(l.take i).length=i:=by rw [List.length_take]; omega
 have hgr0:=grown_ok l
 rw [hb0] at hgr0
 have hso0:SortI l b0 S0:=by rw [← hb0,← hS0,show i=min l.length 90 by omega]; exact sort_start l
 refine sqr (sqp [.k 10 (vi 0)] ?_)
 refine then_normal (wp_block ?_)
 refine wp_loopT (fun t_ mz az W=>∃ j:Nat,∃ ps:List PgS,∃ S:List Nat,∃ fb:List Nat,j≤g0∧BdM 54016 ps∧ps.length=60∧C8 ps∧SortI l ps S∧(∀ k∈S,k < i)∧mz=g0 - j∧az=⟨(ovr (jv az) [(4,4,1,[]),(5,10,0,[vi ((j:Int))]),(0,11,3,[]),(19,33,45,[])] t_).toArray,[]⟩∧St w [] [eBk B21_5 ps fb,eMx kcI ecB Try.prog 3 M24_10 S.length (mS S)] W) (g0 - 0) ?_ ?_
 · -- the loop begins
   exact ⟨0,b0,S0,r0_5,Nat.zero_le _,hgr0.1,hgr0.2.1,hgr0.2.2,hso0,fun k hk=>List.mem_range.1 (by rw [hS0]; exact hk),rfl,(by kernel_rfl),hst13.pk [0,1]⟩
 rintro n26 a26 W26 ⟨j,ps,S,fb,hj,hpb,hp60,hc8,hso,hsi,rfl,hj_,hst26⟩
 refine ovz hj_ fun u26_=>?_
 have hsl:=sort_len hso
 have hnd:=hsl.2.1
 have hsl9:=hsl.2.2
 have hok:=hpb.ok (by omega) (by omega)
 have hoc:=hc8.okc
 have hnk:ps.length≤1000:=by omega
 refine wp_seq (wp_seq (sqr (sqp [.m 33 10, .m 34 1, .k 35 (vi ((g0:Int))), .k 36 (.bool (decide ((j:Int) < (g0:Int)))), .m 37 36] ?_)))
 refine sqw 37 [38,39] rfl (fun _=>sqp [.m 38 10, .k 39 (.bool (decide ((j:Int) < 60)))] sqe) ?_
 refine sqp [sPa 40 (decide ((j:Int) < (g0:Int))) (decide ((j:Int) < 60)), .m 41 40] ?_
 refine sqw 41 [42,43,44] rfl (fun _=>sqp [.m 42 7, .k 43 (vi ((i:Int))), .k 44 (.bool (decide (0 < (i:Int))))] sqe) ?_
 refine sqp [sPa 45 ((decide ((j:Int) < (g0:Int)))&&(decide ((j:Int) < 60))) (decide (0 < (i:Int)))] ?_
 refine then_normal (wbs (fun hs40=>?_) fun hs40=>?_)
 ·have hs40p:=hs40
  simp only [zB] at hs40p
  obtain ⟨⟨hs40p1,hs40p2⟩,hs40p3⟩:=hs40p
  refine wp_skip (then_normal (wp_seq (wp_block (wp_seq (sqr (sqp [.m 48 1, .m 49 10] ?_))))))
  refine sql (.pointer (some ((ad G).add j))) hst26 (fun cx=>run_indexSl (e:=3) (m:=j) rfl (by kernel_rfl) (by kernel_rfl) (cx.ou 48) (cx.ou 49) (by omega) (by omega) (hG.ext cx.upd.to_ext) (by rw [List.length_map]<;>omega)) ?_
  refine sql (vi (gone.getD j 0)) hst26 (fun cx=>run_load1 rfl (by kernel_rfl) (cx.ou 50) (At.cellAd (hG.ext cx.upd.to_ext) (getD_int (by omega)))) ?_
  refine sqp [.m 52 7, .k 53 (vi ((i:Int)))] ?_
  refine sqk (vi ((((gone.getD j 0).tmod (i:Int)+(i:Int)).tmod (i:Int)))) hst26 (fun cx=>⟨_,lrestn (gone.getD j 0) i _ (by omega) (by omega),(map2 (cx.ou 51) (cx.ou 53))⟩) fun W47 hst47=>?_
  refine sqp [.m 11 54] ?_
  refine then_normal (wp_seq ?_)
  obtain ⟨kz,hN_kz⟩:∃ z,(((gone.getD j 0).tmod (i:Int)+(i:Int)).tmod (i:Int))=z:=⟨_,rfl⟩
  rw [hN_kz]
  have hk1_:=Int.tmod_nonneg (a:=(gone.getD j 0).tmod (i:Int)+(i:Int)) (i:Int) (by have h_:=Int.lt_tmod_of_pos (gone.getD j 0) (b:=(i:Int)) (by omega); omega)
  have hk2_:=Int.tmod_lt_of_pos ((gone.getD j 0).tmod (i:Int)+(i:Int)) (b:=(i:Int)) (by omega)
  rw [hN_kz] at hk1_ hk2_
  obtain ⟨kn,rfl⟩:∃ z:Nat,kz=(z:Int):=⟨kz.toNat,by omega⟩
  have hkn:kn < 90:=by omega
  have hsr:=sort_rm hso hkn
  have hgk:l.getD kn 0=(l.take i).getD kn 0:=by rw [List.getD_eq_getElem?_getD,List.getD_eq_getElem?_getD,List.getElem?_take,if_pos (by omega)]
  have hRe:entG l kn=entF (keyF ((l.take i).getD kn 0)) (1+(kn:Int) / 8) (1+(kn:Int) % 8):=by rw [entG,hgk]
  obtain ⟨R,hR⟩:∃ z,rmF ps 0 (entG l kn)=z:=⟨_,rfl⟩
  rw [hR] at hsr
  have hedl:R.1.length≤100000:=by rw [← hR]; exact rm_len hok _ _
  refine sqr (sqp [.m 56 6] ?_)
  refine sqv (.iface 24 (vp B21_5)) hst47 (by
    exact sv0 rfl rfl rfl rfl rfl (fun _ _ _ h=>h) fun ρ β W X cx=>by
     have fF56:ρ (.tmp 56)=vp B21_5:=(cx.ou 56)
     simp [go_sem,fF56]) fun W50 hst50=>?_
  refine sqp [.m 58 7, .m 59 11] ?_
  refine sql (.pointer (some ((ad A).add kn))) hst50 (fun cx=>run_indexSl (e:=3) (m:=kn) rfl (by kernel_rfl) (by kernel_rfl) (cx.ou 58) (cx.ou 59) (by omega) (by omega) (At.take_mapI (hA.ext cx.upd.to_ext) i) (by rw [List.length_map]<;>omega)) ?_
  refine sql (vi (((l.take i)).getD kn 0)) hst50 (fun cx=>run_load1 rfl (by kernel_rfl) (cx.ou 60) (At.cellAd (At.take_mapI (hA.ext cx.upd.to_ext) i) (getD_int (by omega)))) ?_
  refine sqk (.string (keyF (((l.take i)).getD kn 0))) hst50 (fun cx=>⟨_,rkey_any (((l.take i)).getD kn 0) _,(map1 (cx.ou 61))⟩) fun W55 hst55=>?_
  refine sqp [.m 63 11] ?_
  refine sqk (.agg #[vi (1+(kn:Int) / 8),vi (1+(kn:Int) % 8)]) hst55 (fun cx=>⟨_,lref_any kn _ (by omega),(map1 (cx.ou 63))⟩) fun W57 hst57=>?_
  refine sqk2 (fun A65_58 c65_58=> .tuple #[.slice A65_58 R.1.length c65_58, .bool R.2]) (fun A65_58 c65_58=>eO 99 3 (.slice A65_58 R.1.length c65_58) R.1.length (R.1.flatMap edC)) hst57 (fun cx=>⟨_,(rm_to (by rw [← hRe,hR]) (kremove_any _ _ 0 (keyF (((l.take i)).getD kn 0)) (1+(kn:Int) / 8) (1+(kn:Int) % 8) ps _ (book_ok (eBk_at (CtxV.holdF cx (cx.init 0 _ rfl) rfl)) hnk) hok hoc (Nat.le_trans (keyF_size _) (by decide)))).mono (by rintro e W1 ⟨A4,c4,rfl,hs4⟩; exact ⟨_, _,rfl,hs4⟩),(map4 (cx.ou 57) (cx.co _) (cx.ou 62) (cx.ou 64))⟩) fun A65_58 c65_58 W58 hst58=>?_
  refine sqp [.m 55 65, .k 66 (.slice A65_58 R.1.length c65_58), .k 67 (.bool R.2), .m 12 66, .m 13 67] ?_
  refine then_normal (wp_seq (wp_seq (sqr (sqp [.m 68 13, .m 69 8, .m 70 11] ?_))))
  refine sqv (.bool (decide (kn∈S))) hst58 (s4 rfl (fun _ _ _ h=>h.trans (congrArg Value.bool (mB_at S kn))) fun cx=>run_lookMx (e:=4) (C:=ecB) (K:=kcI) (x:=(kn:Int)) rfl (cx.ou 69) (cx.ou 70) (CtxV.mx cx (cx.init 1 _ rfl) rfl) (h0:=(by rfl)) (hx:=show _∧ _ from ⟨by omega,by omega⟩) (hk:=show Program.underlying _ _= _ from by kernel_rfl)) fun W67 hst67=>?_
  refine sqv (.bool (!(R.2==(decide (kn∈S))))) hst67 (by
    exact sv0 rfl rfl rfl rfl rfl (fun _ _ _ h=>h) fun ρ β W X cx=>by
     have fF68:ρ (.tmp 68)= .bool R.2:=(cx.ou 68)
     have fF71:ρ (.tmp 71)= .bool (decide (kn∈S)):=(cx.ou 71)
     simp [go_sem,fF68,fF71]) fun W68 hst68=>?_
  refine then_normal ?_
  rcases Bool.eq_false_or_eq_true (R.2==(decide (kn∈S))) with hs69 | hs69
  ·have hs69p:=beq_iff_eq.1 hs69
   refine wp_cond_false (show Act.eval _ _= .bool false from (congrArg Value.bool (by rw [hs69]; rfl))) (wp_skip (then_normal (wp_seq (sqr (sqp [.m 73 8, .m 74 11] ?_)))))
   refine sqc (eMx kcI ecB Try.prog 3 M24_10 ((mzD (mS S) (kn:Int) S.length)) (putX (mS S) (kn:Int) none)) 1 hst68 (by
     refine svA fun ρ β W X cx=>?_
     exact dv_delMx (e:=4) (x:=(kn:Int)) rfl rfl rfl rfl (cx.ou 73) (show ρ _=Kc.enc kcI _ from (cx.ou 74)) cx (cx.init 1 _ rfl) rfl (show _∧ _ from ⟨by omega,by omega⟩) rfl rfl rfl (fun σ β' X' hs hb hx=>hx) (hk:=show Program.underlying _ _= _ from by kernel_rfl)) fun W72 hst72=>?_
   refine then_normal (sqr (sqp [.m 75 6, .m 76 12] ?_))
   refine sqc0s (fun X_=>X_.fp) (.tuple #[]) (fun r3_75=>eBk B21_5 (doB ps R.1) r3_75) 0 hst72 (by
     refine svA fun ρ β W X cx=>?_
     refine DoesU.call (run_callF (args:=#[vp B21_5, .slice A65_58 R.1.length c65_58]) rfl cx.sees rfl (by kernel_rfl) (map2 (cx.ou 75) (cx.ou 76))) ?_
     refine (rdo_any B21_5 ps _ 60 _ _ R.1 _ (CtxV.holdF cx (cx.init 0 _ rfl) rfl) (CtxV.ltF cx (cx.init 0 _ rfl) rfl) (CtxV.keepAt cx (cx.init 2 _ rfl) (cx.init 0 _ rfl) rfl rfl (by decide)) hedl hp60 (by decide) hpb.its).mono ?_
     rintro e W1 ⟨rfl,fp4,hs4⟩
     refine ⟨_,rfl,post_obj (E:=eBk B21_5 ps fb) [eBk B21_5 (doB ps R.1) fp4] (cx.init 0 _ rfl) rfl rfl hs4 (fun σ β' X' hs hb hv hN=>?_)⟩
     have hv1:=(hv 77 rfl).1; have hv2:=(hv 77 rfl).2
     exact ⟨hv1.trans rfl,eBk_self ((List.cons.inj hN).1)⟩) fun r3_75 W75 hst75=>?_
   refine blk_normal (then_normal (sqr (sqp [.m 46 10,sI 47 ((j:Int)+1) (by omega), .m 10 47] ?_)))
   refine then_normal ?_
   rw [mS_del,mS_dsize hnd] at hst75
   refine ⟨g0 - ((j+1)),by omega,?_⟩
   exact ⟨(j+1),(doB ps R.1),(offS S kn),r3_75,by omega,hpb.do (by rw [← hR]; exact rm_sz hok _ _ _),by rw [doB_len]; exact hp60,by rw [← hR]; exact rm_c8 hok hc8 _ _,hsr.2,fun k hk=>hsi k (off_mem.1 hk).1,rfl,(by kernel_rfl),hst75.pk [0,1]⟩
  have hs69p:=beq_eq_false_iff_ne.1 hs69
  refine wp_cond_true (show Act.eval _ _= .bool true from (congrArg Value.bool (by rw [hs69]; rfl))) (wp_seq (sqr (sqp [.k 4 (.bool false)] ?_)))
  refine then_normal (wp_ret (then_ret (blk_ret (then_ret (then_ret (blk_ret (then_ret ?_)))))))
  refine bpr (.bool false) (results_1 Try.results8 rpt) ?_
  exact absurd hs69 (by rw [hsr.1]; simp)
 have hs40p:=hs40
 simp only [zB] at hs40p
 refine wp_exit (then_exit (then_exit (blk_eq (then_normal (wp_seq ?_)))))
 have hck:=sort_check hso
 obtain ⟨E,hE⟩:∃ z,allF ps 0=z:=⟨_,rfl⟩
 have hal:=hsl.1
 have hle_:=sort_leaves hso
 have hrl2_:=row_len ps 0 0
 rw [hE] at hal hle_
 refine wp_region_Y [0,1,3,7,15,15,31,127] [[],[],[0]] [[],[],[2,3]] [] [.k 79 (vp B21_5), .c 80 (.iface 24 (vp B21_5)), .a 81, .a 78, .a 82, .a 83, .a 14, .a 15] (fun ix σ β X=>match ix with | 0=>True | 1=>True | 2=>σ 81= .tuple #[.slice (sA (tg (β 81) 0)) E.length (sC (tg (β 81) 0)), .slice (sA (tg (β 81) 1)) E.length (sC (tg (β 81) 1))]∧X 2=eO 9 1 (.slice (sA (tg (β 81) 0)) E.length (sC (tg (β 81) 0))) E.length (E.map tqS)∧X 3=eO 31 2 (.slice (sA (tg (β 81) 1)) E.length (sC (tg (β 81) 1))) E.length (E.flatMap tqR) | 3=>σ 78= .tuple #[.slice (sA (tg (β 81) 0)) E.length (sC (tg (β 81) 0)), .slice (sA (tg (β 81) 1)) E.length (sC (tg (β 81) 1))] | 4=>σ 82= .slice (sA (tg (β 81) 0)) E.length (sC (tg (β 81) 0)) | 5=>σ 83= .slice (sA (tg (β 81) 1)) E.length (sC (tg (β 81) 1)) | 6=>σ 14= .slice (sA (tg (β 81) 0)) E.length (sC (tg (β 81) 0)) | 7=>σ 15= .slice (sA (tg (β 81) 1)) E.length (sC (tg (β 81) 1)) | _=>True) [0,1,2,3] [1,2,3,4,5,6,7] [(14,6,2,16),(62,3,1,63),(0,0,3,3),(0,4,2,2)] hst26 ?_ ?_ ?_
 ·exact fun ix _ _ _ _ _ _ hs hb hx h=>match ix,h with
  | 2,h=>by dsimp only; rw [← hs 81 rfl,← hb 81 rfl,← hx 2 rfl,← hx 3 rfl]; exact h
  | 3,h=>by dsimp only; rw [← hs 78 rfl,← hb 81 rfl]; exact h
  | 4,h=>by dsimp only; rw [← hs 82 rfl,← hb 81 rfl]; exact h
  | 5,h=>by dsimp only; rw [← hs 83 rfl,← hb 81 rfl]; exact h
  | 6,h=>by dsimp only; rw [← hs 14 rfl,← hb 81 rfl]; exact h
  | 7,h=>by dsimp only; rw [← hs 15 rfl,← hb 81 rfl]; exact h
  | 0, _ | 1, _ | _+8, _=>trivial
 ·refine ⟨?_,?_,?_,?_,?_,?_,?_,trivial⟩
  ·exact sv0 rfl rfl rfl rfl rfl (fun _ _ _ h=>h) fun ρ β W X cx=>by
    have fF79:ρ (.tmp 79)=vp B21_5:=(cx.an 0)
    simp [go_sem,fF79]
  ·refine svA fun ρ β W X cx=>?_
   refine DoesU.call (run_callF (args:=#[.iface 24 (vp B21_5),vi 0]) rfl cx.sees rfl (by kernel_rfl) (map2 (cx.an 1) (cx.co _))) ?_
   refine (al_to hE (kall_g _ _ 0 ps _ (book_ok (eBk_at (CtxV.holdF cx (cx.init 0 _ rfl) rfl)) hnk) hok hoc)).mono ?_
   rintro e W1 ⟨KA4,kc4,RA4,rc4,rfl,hs4⟩
   refine ⟨_,rfl,post_st [eO 9 1 (.slice KA4 E.length kc4) E.length (E.map tqS),eO 31 2 (.slice RA4 E.length rc4) E.length (E.flatMap tqR)] rfl rfl hs4 (fun σ β' X' hs hb hv hN=>?_)⟩
   have hv1:=(hv 81 rfl).1; have hv2:=(hv 81 rfl).2
   exact ⟨hv1.trans (by rw [hv2]; rfl),(by rw [hv2]; exact (List.cons.inj hN).1),(by rw [hv2]; exact (List.cons.inj (List.cons.inj hN).2).1)⟩
  ·exact sv rfl rfl rfl rfl rfl _ (fun _ _ _ h=>h) (fun β β' h=>by rw [h 81 (by decide)]) fun ρ β W X cx=>run_move' rfl (dTn (cx.an 2)).1
  ·exact sv rfl rfl rfl rfl rfl _ (fun _ _ _ h=>h) (fun β β' h=>by rw [h 81 (by decide)]) fun ρ β W X cx=>run_extract' rfl (dTn (cx.an 3)) rfl
  ·exact sv rfl rfl rfl rfl rfl _ (fun _ _ _ h=>h) (fun β β' h=>by rw [h 81 (by decide)]) fun ρ β W X cx=>run_extract' rfl (dTn (cx.an 3)) rfl
  ·exact sv rfl rfl rfl rfl rfl _ (fun _ _ _ h=>h) (fun β β' h=>by rw [h 81 (by decide)]) fun ρ β W X cx=>run_assign' rfl (dTn (cx.an 4))
  ·exact sv rfl rfl rfl rfl rfl _ (fun _ _ _ h=>h) (fun β β' h=>by rw [h 81 (by decide)]) fun ρ β W X cx=>run_assign' rfl (dTn (cx.an 5))
 intro σ β X W80 hD hst80 fr hfr
 obtain ⟨KA81_80,hu_KA81_80⟩:∃ z,sA (tg (β 81) 0)=z:=⟨_,rfl⟩
 obtain ⟨cKA81_80,hu_cKA81_80⟩:∃ z,sC (tg (β 81) 0)=z:=⟨_,rfl⟩
 obtain ⟨RA81_80,hu_RA81_80⟩:∃ z,sA (tg (β 81) 1)=z:=⟨_,rfl⟩
 obtain ⟨cRA81_80,hu_cRA81_80⟩:∃ z,sC (tg (β 81) 1)=z:=⟨_,rfl⟩
 simp only [exq 2 ((dTn (hD 2 lq)).2.1),exq 3 ((dTn (hD 2 lq)).2.2),hu_KA81_80,hu_cKA81_80,hu_RA81_80,hu_cRA81_80] at hst80
 simp only [ed 81 ((dTn (hD 2 lq)).1),ed 78 ((dTn (hD 3 lq))),ed 82 ((dTn (hD 4 lq))),ed 83 ((dTn (hD 5 lq))),ed 14 ((dTn (hD 6 lq))),ed 15 ((dTn (hD 7 lq))),hu_KA81_80,hu_cKA81_80,hu_RA81_80,hu_cRA81_80] at hfr
 clear hD hu_KA81_80 hu_cKA81_80 hu_RA81_80 hu_cRA81_80; subst hfr; clear σ β X
 refine then_normal (wp_seq (wp_seq (sqr (sqp [.m 84 14, .k 85 (vi ((E.length:Int))), .m 86 8] ?_))))
 refine sql (vi ((S.length:Int))) hst80 (fun cx=>run_lenMx (e:=4) (m:=(mS S)) (K:=kcI) (C:=ecB) rfl rfl rfl rfl (cx.ou 86) (CtxV.mx cx (cx.init 1 _ rfl) rfl)) ?_
 refine sqp [.k 88 (.bool ((E.length:Int) != (S.length:Int))), .m 89 88] ?_
 refine sqw 89 [90,91,92,93,94] rfl (fun _=>sqp [.m 90 15, .k 91 (vi ((E.length:Int))), .m 92 14, .k 93 (vi ((E.length:Int))), .k 94 (.bool ((E.length:Int) != (E.length:Int)))] sqe) ?_
 refine sqp [sPo 95 ((E.length:Int) != (S.length:Int)) ((E.length:Int) != (E.length:Int)), .m 96 95] ?_
 refine sqwW 96 [97,98,99,100] ?_ hst80 rfl (fun hq=>?_) fun W98 hst98=>?_
 rotate_left
 ·refine sqp [.m 97 6] ?_
  refine sqv (.iface 24 (vp B21_5)) hst80 (by
    exact sv0 rfl rfl rfl rfl rfl (fun _ _ _ h=>h) fun ρ β W X cx=>by
     have fF97:ρ (.tmp 97)=vp B21_5:=(cx.ou 97)
     simp [go_sem,fF97]) fun W95 hst95=>?_
  refine sqk (vi ((checkF ps 0))) hst95 (fun cx=>⟨_,kcheck_g _ _ 0 ps _ (book_ok (eBk_at (CtxV.holdF cx (cx.init 0 _ rfl) rfl)) hnk) hok hoc,(map2 (cx.ou 98) (cx.co _))⟩) fun W96 hst96=>?_
  refine sqp [.k 100 (.bool ((checkF ps 0) != 0))] ?_
  exact sqE hst96
 refine sqwx ?_
 refine sqp [sPo 101 (((E.length:Int) != (S.length:Int))||((E.length:Int) != (E.length:Int))) ((checkF ps 0) != 0)] ?_
 refine then_normal (wbs (fun hs100=>?_) fun hs100=>?_)
 ·have hs100p:=hs100
  simp only [zB] at hs100p
  refine wp_seq (sqr (sqp [.k 4 (.bool false)] ?_))
  refine then_normal (wp_ret (then_ret ?_))
  refine bpr (.bool false) (results_1 Try.results8 rpt) ?_
  exact absurd hs100 (by rw [hal,hck]; simp)
 have hs100p:=hs100
 simp only [zB] at hs100p
 obtain ⟨⟨hs100p1,hs100p2⟩,hs100p3⟩:=hs100p
 refine wp_skip (then_normal (wp_seq (wp_seq (sqr (sqp [.k 16 (vi 0)] ?_)))))
 refine then_normal (wp_block ?_)
 refine wp_loopT (fun t_ mz az W=>∃ q:Nat,q≤E.length∧mz=E.length - q∧az=⟨(ovr (jv az) [(4,4,1,[]),(11,16,0,[vi ((q:Int))]),(0,17,2,[]),(83,102,71,[])] t_).toArray,[]⟩∧St w [] [eBk B21_5 ps fb,eMx kcI ecB Try.prog 3 M24_10 S.length (mS S),eO 9 1 (.slice KA81_80 E.length cKA81_80) E.length (E.map tqS),eO 31 2 (.slice RA81_80 E.length cRA81_80) E.length (E.flatMap tqR)] W) (E.length - 0) ?_ ?_
 · -- the loop begins
   exact ⟨0,Nat.zero_le _,rfl,(by kernel_rfl),hst98.pk [0,1,2,3]⟩
 rintro n103 a103 W103 ⟨q,hq,rfl,hj_,hst103⟩
 refine ovz hj_ fun u103_=>?_
 refine wp_seq (wp_seq (sqr (sqp [.m 102 16, .m 103 14, .k 104 (vi ((E.length:Int))), .k 105 (.bool (decide ((q:Int) < (E.length:Int))))] ?_)))
 refine then_normal (wds (fun hs108 hs108p=>?_) fun hs108 hs108p=>?_)
 ·refine wp_skip (then_normal (wp_seq (wp_block (wp_seq ?_))))
  obtain ⟨jn,hjS,hj90,hp1_,hp2_,hp3_,hp4_,hp5_,hp6_⟩:=sort_ent hso (i:=q) (by rw [hE]; omega)
  rw [hE] at hp1_ hp2_ hp3_ hp4_ hp5_ hp6_
  have hji:=hsi jn hjS
  refine wp_region_Z [0,0,3,7,15,31,63,0,0,384,896,1920,4095,8191,16383] [[],[],[3],[],[3],[],[],[],[],[3],[],[3]] [.k 108 (.slice RA81_80 E.length cRA81_80), .k 109 (vi ((q:Int))), .c 110 (.pointer (some ((ad RA81_80).add (q*2)))), .c 111 (.pointer (some ((ad RA81_80).add (q*2+0)))), .c 112 (vi (opF (E.getD q en0).1)),tI 113 ((opF (E.getD q en0).1) - 1) (by omega),tI 114 ((opF (E.getD q en0).1 - 1)*8) (by omega), .k 115 (.slice RA81_80 E.length cRA81_80), .k 116 (vi ((q:Int))), .c 117 (.pointer (some ((ad RA81_80).add (q*2)))), .c 118 (.pointer (some ((ad RA81_80).add (q*2+1)))), .c 119 (vi (osF (E.getD q en0).1)),tI 120 (((opF (E.getD q en0).1 - 1)*8)+(osF (E.getD q en0).1)) (by omega),tI 121 ((((opF (E.getD q en0).1 - 1)*8)+(osF (E.getD q en0).1)) - 1) (by omega), .k 17 (vi ((((opF (E.getD q en0).1 - 1)*8)+(osF (E.getD q en0).1)) - 1))] [0,1,2,3] [2,3,4,9,10,11] [(17,14,1,18),(90,0,14,104)] hst103 ?_ fun W109 hst109=>?_
  ·refine ⟨?_,?_,?_,?_,?_,?_,trivial⟩
   ·exact xs4 rfl id fun cx=>run_indexSlM (e:=31) (m:=q) (sz:=2) rfl (by kernel_rfl) (by kernel_rfl) (cx.an 0) (cx.an 1) (by omega) (by omega) (At.of_ownN (cx.ri 3 rfl)) (flatPos (sz:=2) tqR_len (by decide) (by omega))
   ·exact xs4 rfl id fun cx=>run_fieldAd rfl (by kernel_rfl) (cx.an 2)
   ·exact xs4 rfl id fun cx=>run_load1 rfl (by kernel_rfl) (cx.an 3) (At.eltc (f:=tqR) (k:=0) tqR_len (At.of_ownN (cx.ri 3 rfl)) (en_get (by omega)) rfl)
   ·exact xs4 rfl id fun cx=>run_indexSlM (e:=31) (m:=q) (sz:=2) rfl (by kernel_rfl) (by kernel_rfl) (cx.an 7) (cx.an 8) (by omega) (by omega) (At.of_ownN (cx.ri 3 rfl)) (flatPos (sz:=2) tqR_len (by decide) (by omega))
   ·exact xs4 rfl id fun cx=>run_fieldAd rfl (by kernel_rfl) (cx.an 9)
   ·exact xs4 rfl id fun cx=>run_load1 rfl (by kernel_rfl) (cx.an 10) (At.eltc (f:=tqR) (k:=1) tqR_len (At.of_ownN (cx.ri 3 rfl)) (en_get (by omega)) rfl)
  refine then_normal (wp_seq (wp_seq ?_))
  obtain ⟨kk,hN_kk⟩:∃ z,(((opF (E.getD q en0).1 - 1)*8)+(osF (E.getD q en0).1)) - 1=z:=⟨_,rfl⟩
  rw [hN_kk]
  obtain rfl:kk=(jn:Int):=by omega
  refine wp_region_Z [0,0,3,7,15,31,31,95,255,511,1023,2047,4095,8191,16383,32767,32767,131071,262143,524287,32767,32767,3178495,7372799,16777215,33554431] [[],[],[1],[],[],[],[],[],[],[],[],[],[],[],[],[],[],[],[],[],[],[],[2],[2]] [.k 122 (.map (some M24_10)), .k 123 (vi ((jn:Int))), .c 124 (.bool true), .k 125 (.bool false), .k 126 (.bool false), .k 127 (vi ((jn:Int))), .k 128 (.slice A (i) c), .k 129 (vi ((i:Int))), .k 130 (.bool (decide ((i:Int)≤(jn:Int)))), .k 131 (.bool (decide ((i:Int)≤(jn:Int)))), .k 132 (.bool (decide ((i:Int)≤(jn:Int)))), .z 133 (!(decide ((i:Int)≤(jn:Int)))) (vi ((jn:Int))), .z 134 (!(decide ((i:Int)≤(jn:Int)))) (.bool (decide ((jn:Int) < 0))),tO 135 (decide ((i:Int)≤(jn:Int))) (decide ((jn:Int) < 0)), .k 136 (.bool ((decide ((i:Int)≤(jn:Int)))||(decide ((jn:Int) < 0)))), .z 137 (!((decide ((i:Int)≤(jn:Int)))||(decide ((jn:Int) < 0)))) (.slice A (i) c), .z 138 (!((decide ((i:Int)≤(jn:Int)))||(decide ((jn:Int) < 0)))) (vi ((jn:Int))), .y 139 (!((decide ((i:Int)≤(jn:Int)))||(decide ((jn:Int) < 0)))) (.pointer (some ((ad A).add jn))), .y 140 (!((decide ((i:Int)≤(jn:Int)))||(decide ((jn:Int) < 0)))) (vi (((l.take i)).getD jn 0)), .y 141 (!((decide ((i:Int)≤(jn:Int)))||(decide ((jn:Int) < 0)))) (.string (keyF (((l.take i)).getD jn 0))), .z 142 (!((decide ((i:Int)≤(jn:Int)))||(decide ((jn:Int) < 0)))) (.slice KA81_80 E.length cKA81_80), .z 143 (!((decide ((i:Int)≤(jn:Int)))||(decide ((jn:Int) < 0)))) (vi ((q:Int))), .y 144 (!((decide ((i:Int)≤(jn:Int)))||(decide ((jn:Int) < 0)))) (.pointer (some ((ad KA81_80).add q))), .y 145 (!((decide ((i:Int)≤(jn:Int)))||(decide ((jn:Int) < 0)))) (.string (qkF (E.getD q en0).1)), .y 146 (!((decide ((i:Int)≤(jn:Int)))||(decide ((jn:Int) < 0)))) (.bool (!((keyF (((l.take i)).getD jn 0)).toList==(qkF (E.getD q en0).1).toList))),tO 147 ((decide ((i:Int)≤(jn:Int)))||(decide ((jn:Int) < 0))) (!((keyF (((l.take i)).getD jn 0)).toList==(qkF (E.getD q en0).1).toList))] [0,1,2,3] [2,17,18,19,22,23,24] [(122,0,26,148)] hst109 ?_ fun W110 hst110=>?_
  ·refine ⟨?_,?_,?_,?_,?_,?_,?_,trivial⟩
   ·exact s4 rfl (fun _ _ _ h=>h.trans (congrArg Value.bool ((mB_at S jn).trans (decide_eq_true hjS)))) fun cx=>run_lookMx (e:=4) (C:=ecB) (K:=kcI) (x:=(jn:Int)) rfl (cx.an 0) (cx.an 1) (CtxV.mx cx (cx.init 1 _ rfl) rfl) (h0:=(by rfl)) (hx:=show _∧ _ from ⟨by omega,by omega⟩) (hk:=show Program.underlying _ _= _ from by kernel_rfl)
   ·exact m2 rfl (fun _ _ _ h=>h) (fun cx=>(cx.an 14)) fun cx hq=>run_indexSl (e:=3) (m:=jn) rfl (by kernel_rfl) (by kernel_rfl) (mbv (cx.an 15) hq) (mbv (cx.an 16) hq) (by have hq_:=hq; simp only [zB] at hq_; omega) (by have hq_:=hq; simp only [zB] at hq_; omega) (At.take_mapI (hA.ext cx.upd.to_ext) i) (by rw [List.length_map]<;>omega)
   ·exact m2 rfl (fun _ _ _ h=>h) (fun cx=>(cx.an 14)) fun cx hq=>run_load1 rfl (by kernel_rfl) (mbv (cx.an 17) hq) (At.cellAd (At.take_mapI (hA.ext cx.upd.to_ext) i) (getD_int (by have hq_:=hq; simp only [zB] at hq_; omega)))
   ·exact m3 rfl (fun _ _ _ h=>h) (fun cx=>(cx.an 14)) fun cx hq=>⟨_, _,run_callF (args:=#[vi (((l.take i)).getD jn 0)]) rfl cx.sees rfl (by kernel_rfl) (map1 (mbv (cx.an 18) hq)),rkey_any (((l.take i)).getD jn 0) _⟩
   ·exact m2 rfl (fun _ _ _ h=>h) (fun cx=>(cx.an 14)) fun cx hq=>run_indexSl (e:=9) (m:=q) rfl (by kernel_rfl) (by kernel_rfl) (mbv (cx.an 20) hq) (mbv (cx.an 21) hq) (by have hq_:=hq; simp only [zB] at hq_; omega) (by have hq_:=hq; simp only [zB] at hq_; omega) (At.of_own (cx.ri 2 rfl)) (by rw [List.length_map]<;>omega)
   ·exact m2 rfl (fun _ _ _ h=>h) (fun cx=>(cx.an 14)) fun cx hq=>run_load1 rfl (by kernel_rfl) (mbv (cx.an 22) hq) (At.cellAd (At.of_own (cx.ri 2 rfl)) (tqS_get (by have hq_:=hq; simp only [zB] at hq_; omega)))
   ·exact m2 rfl (fun _ _ _ h=>h) (fun cx=>(cx.an 14)) fun cx hq=>run_strne rfl (mbv (cx.an 19) hq) (mbv (cx.an 23) hq)
  refine then_normal (wbs (fun hs111=>?_) fun hs111=>?_)
  ·have hs111p:=hs111
   simp only [zB] at hs111p
   refine wp_seq (sqr (sqp [.k 4 (.bool false)] ?_))
   refine then_normal (wp_ret (then_ret (blk_ret (then_ret (then_ret (blk_ret (then_ret ?_)))))))
   refine bpr (.bool false) (results_1 Try.results8 rpt) ?_
   rw [show (l.take i).getD jn 0=l.getD jn 0 by rw [List.getD_eq_getElem?_getD,List.getD_eq_getElem?_getD,List.getElem?_take,if_pos (by omega)],hp1_] at hs111
   simp at hs111
   omega
  have hs111p:=hs111
  simp only [zB] at hs111p
  obtain ⟨⟨hs111p1,hs111p2⟩,hs111p3⟩:=hs111p
  refine wp_skip (then_normal (wp_seq (sqr (sqp [.m 148 16, .k 149 (.bool (decide (0 < (q:Int))))] ?_))))
  refine then_normal (wds (fun hs115 hs115p=>?_) fun hs115 hs115p=>?_)
  ·refine wp_seq ?_
   obtain ⟨jm,hmS,hm90,hm1_,hm2_,hm3_,hm4_,hm5_,hm6_⟩:=sort_ent hso (i:=((q:Int) - 1).toNat) (by rw [hE]; omega)
   rw [hE] at hm1_ hm2_ hm3_ hm4_ hm5_ hm6_
   have hle:=sort_rise hso (i:=q) (j:=((q:Int) - 1).toNat) (by rw [hE]; omega) (by omega)
   rw [hE] at hle
   have hz1_:=entF_size (qkF (E.getD ((q:Int) - 1).toNat en0).1) (opF (E.getD ((q:Int) - 1).toNat en0).1) (osF (E.getD ((q:Int) - 1).toNat en0).1)
   have hz2_:=entF_size (qkF (E.getD q en0).1) (opF (E.getD q en0).1) (osF (E.getD q en0).1)
   refine wp_region_Z [0,0,2,7,15,0,0,64,224,480,1023,0,0,6144,14336,0,0,98304,229376,524287,1048575,2097151] [[],[],[],[2],[2],[],[],[],[3],[3],[],[],[],[2],[2],[],[],[3],[3]] [.k 150 (.slice KA81_80 E.length cKA81_80), .k 151 (vi ((q:Int))),tI 152 ((q:Int) - 1) (by omega), .c 153 (.pointer (some ((ad KA81_80).add (((q:Int) - 1).toNat)))), .c 154 (.string (qkF (E.getD ((q:Int) - 1).toNat en0).1)), .k 155 (.slice RA81_80 E.length cRA81_80), .k 156 (vi ((q:Int))),tI 157 ((q:Int) - 1) (by omega), .c 158 (.pointer (some ((ad RA81_80).add ((((q:Int) - 1).toNat)*2)))), .c 159 (.agg #[vi (opF (E.getD (((q:Int) - 1).toNat) en0).1),vi (osF (E.getD (((q:Int) - 1).toNat) en0).1)]), .c 160 (.string (entF (qkF (E.getD ((q:Int) - 1).toNat en0).1) (opF (E.getD (((q:Int) - 1).toNat) en0).1) (osF (E.getD (((q:Int) - 1).toNat) en0).1))), .k 161 (.slice KA81_80 E.length cKA81_80), .k 162 (vi ((q:Int))), .c 163 (.pointer (some ((ad KA81_80).add q))), .c 164 (.string (qkF (E.getD q en0).1)), .k 165 (.slice RA81_80 E.length cRA81_80), .k 166 (vi ((q:Int))), .c 167 (.pointer (some ((ad RA81_80).add (q*2)))), .c 168 (.agg #[vi (opF (E.getD q en0).1),vi (osF (E.getD q en0).1)]), .c 169 (.string (entF (qkF (E.getD q en0).1) (opF (E.getD q en0).1) (osF (E.getD q en0).1))), .c 170 (.bool (lessF (entF (qkF (E.getD ((q:Int) - 1).toNat en0).1) (opF (E.getD (((q:Int) - 1).toNat) en0).1) (osF (E.getD (((q:Int) - 1).toNat) en0).1)) (entF (qkF (E.getD q en0).1) (opF (E.getD q en0).1) (osF (E.getD q en0).1)))), .k 18 (.bool (lessF (entF (qkF (E.getD ((q:Int) - 1).toNat en0).1) (opF (E.getD (((q:Int) - 1).toNat) en0).1) (osF (E.getD (((q:Int) - 1).toNat) en0).1)) (entF (qkF (E.getD q en0).1) (opF (E.getD q en0).1) (osF (E.getD q en0).1))))] [0,1,2,3] [3,4,8,9,10,13,14,17,18,19,20] [(18,21,1,19),(131,0,21,152)] hst110 ?_ fun W116 hst116=>?_
   ·refine ⟨?_,?_,?_,?_,?_,?_,?_,?_,?_,?_,?_,trivial⟩
    ·exact xs4 rfl id fun cx=>run_indexSl (e:=9) (m:=((q:Int) - 1).toNat) rfl (by kernel_rfl) (by kernel_rfl) (cx.an 0) (cx.an 2) (by omega) (by omega) (At.of_own (cx.ri 2 rfl)) (by rw [List.length_map]<;>omega)
    ·exact xs4 rfl id fun cx=>run_load1 rfl (by kernel_rfl) (cx.an 3) (At.cellAd (At.of_own (cx.ri 2 rfl)) (tqS_get (by omega)))
    ·exact xs4 rfl id fun cx=>run_indexSlM (e:=31) (m:=((q:Int) - 1).toNat) (sz:=2) rfl (by kernel_rfl) (by kernel_rfl) (cx.an 5) (cx.an 7) (by omega) (by omega) (At.of_ownN (cx.ri 3 rfl)) (flatPos (sz:=2) tqR_len (by decide) (by omega))
    ·exact xs4 rfl id fun cx=>run_loadElt (f:=tqR) (m:=(((q:Int) - 1).toNat)) (sz:=2) (off:=0) (n:=2) rfl (by kernel_rfl) (by kernel_rfl) (cx.an 8) rfl tqR_len (At.of_ownN (cx.ri 3 rfl)) (en_get (by omega)) (fun k hk=>match k,hk with | 0, _=>rfl | 1, _=>rfl | k+2,hk=>absurd hk (by omega))
    ·exact xsc rfl id rfl rfl fun cx=>⟨_,kentry_any (qkF (E.getD ((q:Int) - 1).toNat en0).1) (opF (E.getD (((q:Int) - 1).toNat) en0).1) (osF (E.getD (((q:Int) - 1).toNat) en0).1) _ (by omega),(map2 (cx.an 4) (cx.an 9))⟩
    ·exact xs4 rfl id fun cx=>run_indexSl (e:=9) (m:=q) rfl (by kernel_rfl) (by kernel_rfl) (cx.an 11) (cx.an 12) (by omega) (by omega) (At.of_own (cx.ri 2 rfl)) (by rw [List.length_map]<;>omega)
    ·exact xs4 rfl id fun cx=>run_load1 rfl (by kernel_rfl) (cx.an 13) (At.cellAd (At.of_own (cx.ri 2 rfl)) (tqS_get (by omega)))
    ·exact xs4 rfl id fun cx=>run_indexSlM (e:=31) (m:=q) (sz:=2) rfl (by kernel_rfl) (by kernel_rfl) (cx.an 15) (cx.an 16) (by omega) (by omega) (At.of_ownN (cx.ri 3 rfl)) (flatPos (sz:=2) tqR_len (by decide) (by omega))
    ·exact xs4 rfl id fun cx=>run_loadElt (f:=tqR) (m:=q) (sz:=2) (off:=0) (n:=2) rfl (by kernel_rfl) (by kernel_rfl) (cx.an 17) rfl tqR_len (At.of_ownN (cx.ri 3 rfl)) (en_get (by omega)) (fun k hk=>match k,hk with | 0, _=>rfl | 1, _=>rfl | k+2,hk=>absurd hk (by omega))
    ·exact xsc rfl id rfl rfl fun cx=>⟨_,kentry_any (qkF (E.getD q en0).1) (opF (E.getD q en0).1) (osF (E.getD q en0).1) _ (by omega),(map2 (cx.an 14) (cx.an 18))⟩
    ·exact xsc rfl id rfl rfl fun cx=>⟨_,kless_any (entF (qkF (E.getD ((q:Int) - 1).toNat en0).1) (opF (E.getD (((q:Int) - 1).toNat) en0).1) (osF (E.getD (((q:Int) - 1).toNat) en0).1)) (entF (qkF (E.getD q en0).1) (opF (E.getD q en0).1) (osF (E.getD q en0).1)) _ (by omega) (by omega),(map2 (cx.an 10) (cx.an 19))⟩
   refine then_normal (wp_seq (sqr (sqp [.m 171 18, .k 172 (.bool (!(lessF (entF (qkF (E.getD ((q:Int) - 1).toNat en0).1) (opF (E.getD (((q:Int) - 1).toNat) en0).1) (osF (E.getD (((q:Int) - 1).toNat) en0).1)) (entF (qkF (E.getD q en0).1) (opF (E.getD q en0).1) (osF (E.getD q en0).1)))))] ?_)))
   refine then_normal ?_
   rcases Bool.eq_false_or_eq_true (lessF (entF (qkF (E.getD ((q:Int) - 1).toNat en0).1) (opF (E.getD (((q:Int) - 1).toNat) en0).1) (osF (E.getD (((q:Int) - 1).toNat) en0).1)) (entF (qkF (E.getD q en0).1) (opF (E.getD q en0).1) (osF (E.getD q en0).1))) with hs119 | hs119
   ·refine wp_cond_false (show Act.eval _ _= .bool false from (congrArg Value.bool (by rw [hs119]; rfl))) (wp_skip (blk_normal (then_normal (sqr (sqp [.m 106 16,sI 107 ((q:Int)+1) (by omega), .m 16 107] ?_)))))
    refine then_normal ?_
    refine ⟨E.length - ((q+1)),by omega,?_⟩
    exact ⟨(q+1),by omega,rfl,(by kernel_rfl),hst116.pk [0,1,2,3]⟩
   refine wp_cond_true (show Act.eval _ _= .bool true from (congrArg Value.bool (by rw [hs119]; rfl))) (wp_seq (sqr (sqp [.k 4 (.bool false)] ?_)))
   refine then_normal (wp_ret (blk_ret (then_ret (then_ret (blk_ret (then_ret ?_))))))
   refine bpr (.bool false) (results_1 Try.results8 rpt) ?_
   exact absurd hs119 (by rw [hm5_,hp5_,hle]; simp)
  refine wp_skip (blk_normal (then_normal (sqr (sqp [.m 106 16,sI 107 ((q:Int)+1) (by omega), .m 16 107] ?_))))
  refine then_normal ?_
  refine ⟨E.length - ((q+1)),by omega,?_⟩
  exact ⟨(q+1),by omega,rfl,(by kernel_rfl),hst110.pk [0,1,2,3]⟩
 refine wp_exit (then_exit (then_exit (blk_eq (then_normal (wp_seq (sqr (sqp [.k 173 (.bool true), .k 174 (.bool true)] ?_)))))))
 refine sqgy 174 [175,176,177,178,179,180,181,182] rfl rfl ?_
 refine sqp [.m 175 6] ?_
 refine sqv (.iface 24 (vp B21_5)) hst103 (by
   exact sv0 rfl rfl rfl rfl rfl (fun _ _ _ h=>h) fun ρ β W X cx=>by
    have fF175:ρ (.tmp 175)=vp B21_5:=(cx.ou 175)
    simp [go_sem,fF175]) fun W130 hst130=>?_
 refine sqk2 (fun A177_131 c177_131=> .slice A177_131 ((rowF ps 0 0).length) c177_131) (fun A177_131 c177_131=>eO 3 1 (.slice A177_131 ((rowF ps 0 0).length) c177_131) ((rowF ps 0 0).length) ((rowF ps 0 0).map fun y=>vi y.1)) hst130 (fun cx=>⟨_,(kleaves_g _ _ 0 ps _ (book_ok (eBk_at (CtxV.holdF cx (cx.init 0 _ rfl) rfl)) hnk) hok hoc).mono (by rintro e W1 ⟨A4,c4,rfl,hs4⟩; exact ⟨_, _,rfl,hs4⟩),(map2 (cx.ou 176) (cx.co _))⟩) fun A177_131 c177_131 W131 hst131=>?_
 refine sqp [.k 178 (vi (((rowF ps 0 0).length:Int))),sI 179 (8*((rowF ps 0 0).length:Int)) (by omega), .m 180 14, .k 181 (vi ((E.length:Int))), .k 182 (.bool (decide ((E.length:Int)≤8*((rowF ps 0 0).length:Int))))] ?_
 refine sqp [.k 183 (.bool (decide ((E.length:Int)≤8*((rowF ps 0 0).length:Int)))), .m 4 183] ?_
 refine then_normal (wp_ret ?_)
 refine bpr (.bool (decide ((E.length:Int)≤8*((rowF ps 0 0).length:Int)))) (results_1 Try.results8 rpt) ?_
 exact Ret.bool (decide_eq_true (by omega)) hst131.ext
end
end Go.Proofs.Ytjlcoglmjldjbaa

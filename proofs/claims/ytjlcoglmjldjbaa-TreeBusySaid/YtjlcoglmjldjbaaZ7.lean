/- TreeBusyRow: part 7 of the proof. -/
import Derived.Test.YtjlcoglmjldjbaaZ6
import Derived.Maps.OwnSet
import Derived.Maps.Views
import Derived.Carry
import Derived.StringKeys
import Derived.Test.YtjlcoglmjldjbaaRows
import Derived.ProofKit
import Derived.OpenShut
import Derived.Below
import Derived.ChangeSame
import Derived.WideKeyArgs
import Derived.SliceStrings
import Derived.ChangeMaps5
import Derived.Lib.SmallJoins
import Derived.SizedLaws
import Derived.WalkKit
set_option linter.unusedVariables false
set_option linter.unusedSimpArgs false
set_option maxRecDepth 100000
set_option maxHeartbeats 16000000
namespace Go.Proofs.Ytjlcoglmjldjbaa
section
open Go.RowKit
def esY (xs:List YnD):List EnD:=xs.flatMap fun y=>y.1.es
theorem esY_all {xs:List YnD} {ps:List PgS} {root:Int} (h:xs.map pgN=rowF ps root 0):esY xs=allF ps root:=by
 rw [allF,← h,List.flatMap_map]; rfl
theorem esY_snoc (xs:List YnD) (y:YnD):esY (xs++[y])=esY xs++y.1.es:=by simp [esY]
def AlPost (es:List EnD) (w:World) (e:Ending) (w':World):Prop:=∃ KA kc RA rc,e= .returned (.tuple #[.slice KA es.length kc, .slice RA es.length rc])∧
 St w [] [eO 9 1 (.slice KA es.length kc) es.length (es.map tqS),eO 31 2 (.slice RA es.length rc) es.length (es.flatMap tqR)] w'
def lfI (y:YnD):Value:= .int .i64 y.2.1
def LfPost (L:List (Int×NoD)) (w:World) (e:Ending) (w':World):Prop:=∃ A c,e= .returned (.slice A L.length c)∧St w [] [eO 3 1 (.slice A L.length c) L.length (L.map fun y=> .int .i64 y.1)] w'
theorem lf_snoc (xs:List YnD) (y:YnD):xs.map lfI++[.int .i64 y.2.1]=(xs++[y]).map lfI:=by rw [List.map_append]; rfl
theorem lf_done {w W:World} {A:Option Addr} {c n:Nat} {L:List (Int×NoD)} {xs:List YnD} (h:xs.map pgN=L) (hn:n=xs.length) (hs:St w [] [eO 3 1 (.slice A n c) n (xs.map lfI)] W):LfPost L w (.returned (.slice A n c)) W:=by
 subst hn h
 exact ⟨A,c,by rw [List.length_map],by rw [List.length_map,List.map_map]; exact hs⟩
theorem al_done {w W:World} {KA RA:Option Addr} {kc rc m:Nat} {ps:List PgS} {root:Int} {xs:List YnD} (h:xs.map pgN=rowF ps root 0) (hm:m=(esY xs).length) (hs:St w [] [eO 9 1 (.slice KA m kc) m ((esY xs).map tqS),eO 31 2 (.slice RA m rc) m ((esY xs).flatMap tqR)] W):AlPost (allF ps root) w (.returned (.tuple #[.slice KA m kc, .slice RA m rc])) W:=by
 rw [esY_all h] at hm hs
 subst hm
 exact ⟨KA,kc,RA,rc,rfl,hs⟩
theorem kleaves_g (tt:TypeId) (tv:Value) (root:Int) (ps:List PgS) (w:World) (hS:PgsOk w tt tv ps) (hok:OkS ps) (hoc:OkC ps):
  Calls Try.prog 43 #[.iface tt (tv), .int .i64 root] w (LfPost (rowF ps root 0) w):=by
 refine (callsIn_wide (n:=3)).1 (callsIn_of_wp_marks Try.func43 rfl trivial (wpIn_wide.2 ?_) rfl)
 simp only [Try.ntmps43,List.size_toArray,List.length_cons,List.length_nil,Nat.reduceAdd,Nat.reduceSub,Array.replicate_succ,Array.replicate_zero,List.push_toArray,List.append_toArray,List.nil_append,List.cons_append]
 have hst0:=St.start w
 refine wp_seq (wp_region_P [0] [.k 4 (.slice none 0 0)] [(4,0,1,5)] hst0 fun W1 hst1=>?_)
 refine then_normal (wp_seq (wp_region_Y [0] [] [[0]] [] [.a 5] (fun ix σ β X=>match ix with | 0=>σ 5=vp (pb (β 5))∧X 0=eB (pb (β 5)) 22 #[.slice none 0 0] | _=>True) [0] [0] [(5,0,1,6)] hst1 ?_ ?_ ?_))
 ·exact fun ix _ _ _ _ _ _ hs hb hx h=>match ix,h with
  | 0,h=>by dsimp only; rw [← hs 5 rfl,← hb 5 rfl,← hx 0 rfl]; exact h
  | _+1, _=>trivial
 ·refine ⟨?_,trivial⟩
  ·refine svA fun ρ β W X cx=>?_
   exact dv_alloc (cs:=#[.slice none 0 0]) rfl (by kernel_rfl) rfl rfl (fun σ β' X' hs hb hv hx=>⟨hv,hx⟩)
 intro σ β X W2 hD hst2 fr hfr
 obtain ⟨B5_2,hu_B5_2⟩:∃ z,pb (β 5)=z:=⟨_,rfl⟩
 simp only [exq 0 ((dTn (hD 0 lq)).2),hu_B5_2] at hst2
 simp only [ed 5 ((dTn (hD 0 lq)).1),hu_B5_2] at hfr
 clear hD hu_B5_2; subst hfr; clear σ β X
 refine then_normal (wp_seq (wp_seq (wp_region_Y [0,0,3] [] [[],[],[1,2,3]] [] [.k 7 (.iface tt (tv)), .k 8 (vi root), .a 9] (fun ix σ β X=>match ix with | 0=>True | 1=>True | 2=>σ 9= .func (.func 99) #[] #[vp (pcp 0 (β 9)),vp (pcp 1 (β 9)),vp (pcp 2 (β 9))]∧X 1=eB (pcp 0 (β 9)) 113 #[.iface tt (tv)]∧X 2=eB (pcp 1 (β 9)) 3 #[vi root]∧X 3=eB (pcp 2 (β 9)) 3 #[vi 0] | _=>True) [0,1,2,3] [2] [(7,0,3,10)] hst2 ?_ ?_ ?_)))
 ·exact fun ix _ _ _ _ _ _ hs hb hx h=>match ix,h with
  | 2,h=>by dsimp only; rw [← hs 9 rfl,← hb 9 rfl,← hx 1 rfl,← hx 2 rfl,← hx 3 rfl]; exact h
  | 0, _ | 1, _ | _+3, _=>trivial
 ·refine ⟨?_,trivial⟩
  ·refine svA fun ρ β W X cx=>?_
   refine DoesU.call (run_callF (args:=#[.iface tt (tv),vi root,vi 0]) rfl cx.sees rfl (by kernel_rfl) (map3 (cx.an 0) (cx.an 1) (cx.co _))) ?_
   refine (krowc_any tt tv root 0 _).mono ?_
   rintro e W1 ⟨B4,B5,B6,rfl,hs4⟩
   refine ⟨_,rfl,post_st [eB B4 113 #[.iface tt (tv)],eB B5 3 #[vi root],eB B6 3 #[vi 0]] rfl rfl hs4 (fun σ β' X' hs hb hv hN=>?_)⟩
   have hv1:=(hv 9 rfl).1; have hv2:=(hv 9 rfl).2
   exact ⟨hv1.trans (by rw [hv2]; rfl),(by rw [hv2]; exact (List.cons.inj hN).1),(by rw [hv2]; exact (List.cons.inj (List.cons.inj hN).2).1),(by rw [hv2]; exact (List.cons.inj (List.cons.inj (List.cons.inj hN).2).2).1)⟩
 intro σ β X W3 hD hst3 fr hfr
 obtain ⟨B9a_3,hu_B9a_3⟩:∃ z,pcp 0 (β 9)=z:=⟨_,rfl⟩
 obtain ⟨B9b_3,hu_B9b_3⟩:∃ z,pcp 1 (β 9)=z:=⟨_,rfl⟩
 obtain ⟨B9c_3,hu_B9c_3⟩:∃ z,pcp 2 (β 9)=z:=⟨_,rfl⟩
 simp only [exq 1 ((dTn (hD 2 lq)).2.1),exq 2 ((dTn (hD 2 lq)).2.2.1),exq 3 ((dTn (hD 2 lq)).2.2.2),hu_B9a_3,hu_B9b_3,hu_B9c_3] at hst3
 simp only [ed 9 ((dTn (hD 2 lq)).1),hu_B9a_3,hu_B9b_3,hu_B9c_3] at hfr
 clear hD hu_B9a_3 hu_B9b_3 hu_B9c_3; subst hfr; clear σ β X
 refine then_normal (wp_block ?_)
 have hn4:=St.nilrow hst3 3
 simp only [List.cons_append,List.nil_append] at hn4
 have hp6:=hn4.pick [0,4] (by decide) rfl
 refine wp_rangeSG (α:=YnD) hp6 rfl (enters_of Try.func99 (by kernel_rfl) rfl) (encs:=ynE) (Ex:=ynR) (N:=1000) (Z:=YnZ (rowF ps root 0)) (krow_seqG _ _ _ _ _ _ _ hok hoc) (fun A hA=>RdR.keep (hn4.pick [1,2,3,0,4] (by decide) rfl) hS hA) (fun _=>rfl) (fun bb pre L=>cond bb (∃ SA:Option Addr,∃ n:Nat,∃ sc:Nat,n=pre.length∧L=[eB B5_2 22 #[.slice SA n sc],eO 3 1 (.slice SA n sc) n (pre.map lfI)]) (False)) ⟨none,0,0,rfl,rfl⟩ (fun xx a_ E_=>∃ BV:Nat,a_=⟨([.iface tt (tv),vi root,undef,undef, .slice none 0 0,vp B5_2,vp BV, .iface tt (tv),vi root, .func (.func 99) #[] #[vp B9a_3,vp B9b_3,vp B9c_3], .agg #[vi xx.2.1,vi xx.1.lv,vi xx.1.right, .string xx.1.high, .bool xx.1.dead, .slice xx.2.2.1 xx.1.es.length xx.2.2.2,vi ((xx.1.free:Int))],undef,undef,undef,undef,undef,undef]).toArray,[]⟩∧E_=eB BV 116 #[vi xx.2.1,vi xx.1.lv,vi xx.1.right, .string xx.1.high, .bool xx.1.dead, .slice xx.2.2.1 xx.1.es.length xx.2.2.2,vi ((xx.1.free:Int))]) (fun xx=>[.iface tt (tv),vi root,undef,undef, .slice none 0 0,vp B5_2,undef, .iface tt (tv),vi root, .func (.func 99) #[] #[vp B9a_3,vp B9b_3,vp B9c_3], .agg #[vi xx.2.1,vi xx.1.lv,vi xx.1.right, .string xx.1.high, .bool xx.1.dead, .slice xx.2.2.1 xx.1.es.length xx.2.2.2,vi ((xx.1.free:Int))],undef,undef,undef,undef,undef,undef]) (fun xx=>by kernel_rfl) ?_ ?_ ?_ ?_
 ·intro rl xx W5 K hK
  have hst5:=St.start W5
  refine wpIn_region_Y [0,1] [[],[0]] [[0],[1]] [[],[0]] [.a 6, .n] (fun ix σ β X=>match ix with | 0=>σ 6=vp (pb (β 6))∧X 0=eB (pb (β 6)) 116 #[vi 0,vi 0,vi 0, .string ByteArray.empty, .bool false, .slice none 0 0,vi 0] | 1=>X 1=eB (pb (β 6)) 116 #[vi xx.2.1,vi xx.1.lv,vi xx.1.right, .string xx.1.high, .bool xx.1.dead, .slice xx.2.2.1 xx.1.es.length xx.2.2.2,vi ((xx.1.free:Int))] | _=>True) [1] [0,1] [(6,0,1,7)] hst5 ?_ ?_ ?_
  ·exact fun ix _ _ _ _ _ _ hs hb hx h=>match ix,h with
   | 0,h=>by dsimp only; rw [← hs 6 rfl,← hb 6 rfl,← hx 0 rfl]; exact h
   | 1,h=>by dsimp only; rw [← hb 6 rfl,← hx 1 rfl]; exact h
   | _+2, _=>trivial
  ·refine ⟨?_,?_,trivial⟩
   ·refine svA fun ρ β W X cx=>?_
    exact dv_alloc (cs:=#[vi 0,vi 0,vi 0, .string ByteArray.empty, .bool false, .slice none 0 0,vi 0]) rfl (by kernel_rfl) rfl rfl (fun σ β' X' hs hb hv hx=>⟨hv,hx⟩)
   ·refine svA fun ρ β W X cx=>?_
    exact dv_store (n:=7) rfl (dTn (cx.an 0)).1 (cx.ou 10) (by kernel_rfl) (by kernel_rfl) (by kernel_rfl) cx (dTn (cx.an 0)).2 rfl (nle rfl) (by kernel_rfl) rfl rfl rfl (fun σ β' X' hs hb hx=>by rw [hb 6]; exact hx)
  intro σ β X W7 hD hst7 fr hfr
  obtain ⟨B6_7,hu_B6_7⟩:∃ z,pb (β 6)=z:=⟨_,rfl⟩
  simp only [exq 1 ((dTn (hD 1 lq))),hu_B6_7] at hst7
  simp only [ed 6 ((dTn (hD 0 lq)).1),hu_B6_7] at hfr
  clear hD hu_B6_7; subst hfr; clear σ β X
  exact hK _ _ _ ⟨_,rfl,rfl⟩ (hst7.pick [0] (by decide) rfl)
 ·rintro rl pre xx W8 L8 a8 E8 ⟨SA,n,sc,hn,rfl⟩ hlen8 hPx8 ⟨BV,rfl,rfl⟩ hst8r
  have hst8:St W8 (fps ([eB B5_2 22 #[.slice SA n sc],eO 3 1 (.slice SA n sc) n (pre.map lfI)]++[eO 104 3 (.slice xx.2.2.1 xx.1.es.length xx.2.2.2) xx.1.es.length (xx.1.es.flatMap enC),eB BV 116 #[vi xx.2.1,vi xx.1.lv,vi xx.1.right, .string xx.1.high, .bool xx.1.dead, .slice xx.2.2.1 xx.1.es.length xx.2.2.2,vi ((xx.1.free:Int))]])) [eB B5_2 22 #[.slice SA n sc],eO 3 1 (.slice SA n sc) n (pre.map lfI),eO 104 3 (.slice xx.2.2.1 xx.1.es.length xx.2.2.2) xx.1.es.length (xx.1.es.flatMap enC),eB BV 116 #[vi xx.2.1,vi xx.1.lv,vi xx.1.right, .string xx.1.high, .bool xx.1.dead, .slice xx.2.2.1 xx.1.es.length xx.2.2.2,vi ((xx.1.free:Int))]] W8:=hst8r
  clear hst8r
  refine wpIn_block (wpIn_region_Y [0,0,2,6,15,31] [[0],[],[3],[],[4,1],[0]] [[],[],[],[4],[5],[6]] [[],[],[],[],[1],[0]] [.c 11 (.slice SA n sc), .k 12 (vp BV), .c 13 (vi xx.2.1), .a 14, .a 15, .n] (fun ix σ β X=>match ix with | 0=>True | 1=>True | 2=>True | 3=>σ 14= .slice (sA (β 14)) 1 1∧X 4=eO 3 1 (.slice (sA (β 14)) 1 1) 1 ([vi xx.2.1]) | 4=>σ 15= .slice (sA (β 15)) (n+1) (sC (β 15))∧X 5=eO 3 1 (.slice (sA (β 15)) (n+1) (sC (β 15))) (n+1) ((pre++[xx]).map lfI) | 5=>X 6=eB B5_2 22 #[.slice (sA (β 15)) (n+1) (sC (β 15))] | _=>True) [2,3,4,5,6] [0,2,3,4,5] [(11,0,5,16)] hst8 ?_ ?_ ?_)
  ·exact fun ix _ _ _ _ _ _ hs hb hx h=>match ix,h with
   | 3,h=>by dsimp only; rw [← hs 14 rfl,← hb 14 rfl,← hx 4 rfl]; exact h
   | 4,h=>by dsimp only; rw [← hs 15 rfl,← hb 15 rfl,← hx 5 rfl]; exact h
   | 5,h=>by dsimp only; rw [← hb 15 rfl,← hx 6 rfl]; exact h
   | 0, _ | 1, _ | 2, _ | _+6, _=>trivial
  ·refine ⟨?_,?_,?_,?_,?_,trivial⟩
   ·exact xs4 rfl id fun cx=>run_load1 rfl (by kernel_rfl) (cx.ou 5) ((cx.bi 0 rfl).cell 0)
   ·exact xs4 rfl id fun cx=>run_load1 rfl (by kernel_rfl) (cx.an 1) ((cx.bi 3 rfl).cell 0)
   ·refine svA fun ρ β W X cx=>?_
    have fF13:ρ (.tmp 13)=vi xx.2.1:=(cx.an 2)
    exact dv_lit (e:=3) (xs:=[vi xx.2.1]) rfl (by simp [go_sem,fF13]) rfl (by decide) rfl rfl (fun σ β' X' hs hb hv hx=>⟨hv,hx⟩)
   ·refine svA fun ρ β W X cx=>?_
    obtain ⟨i0,hi0,hz0,hz1,hz2⟩:=info_parts Try.infoInt
    refine dv_append (n:=n) (m:=1) (nm:=n+1) (xs:=pre.map lfI) (news:=[vi xx.2.1]) (xs':=(pre++[xx]).map lfI) rfl (ty:=22) rfl (by kernel_rfl) hi0 hz0 hz1 hz2 rfl (cx.an 0) cx (cx.init 1 _ rfl) rfl (dTn (cx.an 3)).1 (by rfl) (At.of_own (cx.row (dTn (cx.an 3)).2 rfl)) (by simp [Value.oneCell']) (by simp only [maxLen]; omega) (by omega) rfl rfl rfl (by omega) (lf_snoc _ _) (fun σ β' X' hs hb hv hx=>?_)
    exact ⟨hv,hx⟩
   ·refine svA fun ρ β W X cx=>?_
    exact dv_store (n:=1) rfl (cx.ou 5) (dTn (cx.an 4)).1 (by kernel_rfl) (by kernel_rfl) (by kernel_rfl) cx (cx.init 0 _ rfl) rfl (nle rfl) (by kernel_rfl) rfl rfl rfl (fun σ β' X' hs hb hx=>by rw [hb 15]; exact hx)
  intro σ β X W9 hD hst9 fr hfr
  obtain ⟨A14_9,hu_A14_9⟩:∃ z,sA (β 14)=z:=⟨_,rfl⟩
  obtain ⟨A15_9,hu_A15_9⟩:∃ z,sA (β 15)=z:=⟨_,rfl⟩
  obtain ⟨c15_9,hu_c15_9⟩:∃ z,sC (β 15)=z:=⟨_,rfl⟩
  simp only [exq 4 ((dTn (hD 3 lq)).2),exq 5 ((dTn (hD 4 lq)).2),exq 6 ((dTn (hD 5 lq))),hu_A14_9,hu_A15_9,hu_c15_9] at hst9
  simp only [ed 14 ((dTn (hD 3 lq)).1),ed 15 ((dTn (hD 4 lq)).1),hu_A14_9,hu_A15_9,hu_c15_9] at hfr
  clear hD hu_A14_9 hu_A15_9 hu_c15_9; subst hfr; clear σ β X
  refine blk_normal ?_
  exact ⟨true, .inl ⟨rfl,rfl⟩, _,⟨A15_9,(n+1),c15_9,by rw [hn,List.length_append]; rfl,rfl⟩,hst9.pick [4,3,0] (by decide) rfl⟩
 ·rintro D5 W5d L5 XS_ E_ ⟨SA,n,sc,hn,rfl⟩ hZ_ hst5r
  have hst5d:St w [] [eB B5_2 22 #[.slice SA n sc],eO 3 1 (.slice SA n sc) n (XS_.map lfI),E_,eDfr D5] W5d:=hst5r
  clear hst5r
  refine blk_normal (then_normal (wp_seq (wp_region_Z [0,1] [[0]] [.c 16 (.slice SA n sc), .k 4 (.slice SA n sc)] [0,1,2,3] [0] [(4,1,1,5),(11,0,1,12)] hst5d ?_ fun W10 hst10=>?_)))
  ·refine ⟨?_,trivial⟩
   ·exact xs4 rfl id fun cx=>run_load1 rfl (by kernel_rfl) (cx.ou 5) ((cx.bi 0 rfl).cell 0)
  refine then_normal (wp_ret ?_)
  refine bpm_take (L:=[eB B5_2 22 #[.slice SA n sc],eO 3 1 (.slice SA n sc) n (XS_.map lfI),E_]) (hst10.pick [0,1,2,3] (by decide) rfl) fun Wt11 ht11=>?_
  refine ⟨.slice SA n sc,(results_1 Try.results43 rpt),?_⟩
  exact lf_done (hZ_.2.1 rfl) hn (ht11.pick [1] (by decide) rfl)
 ·exact fun D W L xs E h=>h.elim
theorem kall_g (tt:TypeId) (tv:Value) (root:Int) (ps:List PgS) (w:World) (hS:PgsOk w tt tv ps) (hok:OkS ps) (hoc:OkC ps):
  Calls Try.prog 42 #[.iface tt (tv), .int .i64 root] w (AlPost (allF ps root) w):=by
 refine (callsIn_wide (n:=3)).1 (callsIn_of_wp_marks Try.func42 rfl trivial (wpIn_wide.2 ?_) rfl)
 simp only [Try.ntmps42,List.size_toArray,List.length_cons,List.length_nil,Nat.reduceAdd,Nat.reduceSub,Array.replicate_succ,Array.replicate_zero,List.push_toArray,List.append_toArray,List.nil_append,List.cons_append]
 have hst0:=St.start w
 refine wp_seq (wp_region_Y [0,0] [] [[0],[1]] [] [.a 4, .a 5] (fun ix σ β X=>match ix with | 0=>σ 4=vp (pb (β 4))∧X 0=eB (pb (β 4)) 49 #[.slice none 0 0] | 1=>σ 5=vp (pb (β 5))∧X 1=eB (pb (β 5)) 58 #[.slice none 0 0] | _=>True) [0,1] [0,1] [(4,0,2,6)] hst0 ?_ ?_ ?_)
 ·exact fun ix _ _ _ _ _ _ hs hb hx h=>match ix,h with
  | 0,h=>by dsimp only; rw [← hs 4 rfl,← hb 4 rfl,← hx 0 rfl]; exact h
  | 1,h=>by dsimp only; rw [← hs 5 rfl,← hb 5 rfl,← hx 1 rfl]; exact h
  | _+2, _=>trivial
 ·refine ⟨?_,?_,trivial⟩
  ·refine svA fun ρ β W X cx=>?_
   exact dv_alloc (cs:=#[.slice none 0 0]) rfl (by kernel_rfl) rfl rfl (fun σ β' X' hs hb hv hx=>⟨hv,hx⟩)
  ·refine svA fun ρ β W X cx=>?_
   exact dv_alloc (cs:=#[.slice none 0 0]) rfl (by kernel_rfl) rfl rfl (fun σ β' X' hs hb hv hx=>⟨hv,hx⟩)
 intro σ β X W1 hD hst1 fr hfr
 obtain ⟨B4_1,hu_B4_1⟩:∃ z,pb (β 4)=z:=⟨_,rfl⟩
 obtain ⟨B5_1,hu_B5_1⟩:∃ z,pb (β 5)=z:=⟨_,rfl⟩
 simp only [exq 0 ((dTn (hD 0 lq)).2),exq 1 ((dTn (hD 1 lq)).2),hu_B4_1,hu_B5_1] at hst1
 simp only [ed 4 ((dTn (hD 0 lq)).1),ed 5 ((dTn (hD 1 lq)).1),hu_B4_1,hu_B5_1] at hfr
 clear hD hu_B4_1 hu_B5_1; subst hfr; clear σ β X
 refine then_normal (wp_seq (wp_seq (wp_region_Y [0,0,3] [] [[],[],[2,3,4]] [] [.k 12 (.iface tt (tv)), .k 13 (vi root), .a 14] (fun ix σ β X=>match ix with | 0=>True | 1=>True | 2=>σ 14= .func (.func 99) #[] #[vp (pcp 0 (β 14)),vp (pcp 1 (β 14)),vp (pcp 2 (β 14))]∧X 2=eB (pcp 0 (β 14)) 113 #[.iface tt (tv)]∧X 3=eB (pcp 1 (β 14)) 3 #[vi root]∧X 4=eB (pcp 2 (β 14)) 3 #[vi 0] | _=>True) [0,1,2,3,4] [2] [(12,0,3,15)] hst1 ?_ ?_ ?_)))
 ·exact fun ix _ _ _ _ _ _ hs hb hx h=>match ix,h with
  | 2,h=>by dsimp only; rw [← hs 14 rfl,← hb 14 rfl,← hx 2 rfl,← hx 3 rfl,← hx 4 rfl]; exact h
  | 0, _ | 1, _ | _+3, _=>trivial
 ·refine ⟨?_,trivial⟩
  ·refine svA fun ρ β W X cx=>?_
   refine DoesU.call (run_callF (args:=#[.iface tt (tv),vi root,vi 0]) rfl cx.sees rfl (by kernel_rfl) (map3 (cx.an 0) (cx.an 1) (cx.co _))) ?_
   refine (krowc_any tt tv root 0 _).mono ?_
   rintro e W1 ⟨B4,B5,B6,rfl,hs4⟩
   refine ⟨_,rfl,post_st [eB B4 113 #[.iface tt (tv)],eB B5 3 #[vi root],eB B6 3 #[vi 0]] rfl rfl hs4 (fun σ β' X' hs hb hv hN=>?_)⟩
   have hv1:=(hv 14 rfl).1; have hv2:=(hv 14 rfl).2
   exact ⟨hv1.trans (by rw [hv2]; rfl),(by rw [hv2]; exact (List.cons.inj hN).1),(by rw [hv2]; exact (List.cons.inj (List.cons.inj hN).2).1),(by rw [hv2]; exact (List.cons.inj (List.cons.inj (List.cons.inj hN).2).2).1)⟩
 intro σ β X W2 hD hst2 fr hfr
 obtain ⟨B14a_2,hu_B14a_2⟩:∃ z,pcp 0 (β 14)=z:=⟨_,rfl⟩
 obtain ⟨B14b_2,hu_B14b_2⟩:∃ z,pcp 1 (β 14)=z:=⟨_,rfl⟩
 obtain ⟨B14c_2,hu_B14c_2⟩:∃ z,pcp 2 (β 14)=z:=⟨_,rfl⟩
 simp only [exq 2 ((dTn (hD 2 lq)).2.1),exq 3 ((dTn (hD 2 lq)).2.2.1),exq 4 ((dTn (hD 2 lq)).2.2.2),hu_B14a_2,hu_B14b_2,hu_B14c_2] at hst2
 simp only [ed 14 ((dTn (hD 2 lq)).1),hu_B14a_2,hu_B14b_2,hu_B14c_2] at hfr
 clear hD hu_B14a_2 hu_B14b_2 hu_B14c_2; subst hfr; clear σ β X
 refine then_normal (wp_block ?_)
 have hn3:=St.nilrow hst2 9
 simp only [List.cons_append,List.nil_append] at hn3
 have hn4:=nilrowN hn3 31 2
 simp only [List.cons_append,List.nil_append] at hn4
 have hp6:=hn4.pick [0,1,5,6] (by decide) rfl
 refine wp_rangeSG (α:=YnD) hp6 rfl (enters_of Try.func99 (by kernel_rfl) rfl) (encs:=ynE) (Ex:=ynR) (N:=1000) (Z:=YnZ (rowF ps root 0)) (krow_seqG _ _ _ _ _ _ _ hok hoc) (fun A hA=>RdR.keep (hn4.pick [2,3,4,0,1,5,6] (by decide) rfl) hS hA) (fun _=>rfl) (fun bb pre L=>cond bb (∃ m:Nat,∃ KA:Option Addr,∃ kc:Nat,∃ RA:Option Addr,∃ rc:Nat,m=(esY pre).length∧m≤100*pre.length∧L=[eB B4_1 49 #[.slice KA m kc],eB B5_1 58 #[.slice RA m rc],eO 9 1 (.slice KA m kc) m ((esY pre).map tqS),eO 31 2 (.slice RA m rc) m ((esY pre).flatMap tqR)]) (False)) ⟨0,none,0,none,0,rfl,Nat.zero_le _,rfl⟩ (fun xx a_ E_=>∃ BV:Nat,a_=⟨([.iface tt (tv),vi root,undef,undef,vp B4_1,vp B5_1,vp BV,undef,undef,undef,undef,undef, .iface tt (tv),vi root, .func (.func 99) #[] #[vp B14a_2,vp B14b_2,vp B14c_2], .agg #[vi xx.2.1,vi xx.1.lv,vi xx.1.right, .string xx.1.high, .bool xx.1.dead, .slice xx.2.2.1 xx.1.es.length xx.2.2.2,vi ((xx.1.free:Int))],undef,undef,undef,undef,undef,undef,undef,undef,undef,undef,undef,undef,undef,undef,undef,undef,undef,undef,undef,undef,undef,undef,undef,undef,undef]).toArray,[]⟩∧E_=eB BV 116 #[vi xx.2.1,vi xx.1.lv,vi xx.1.right, .string xx.1.high, .bool xx.1.dead, .slice xx.2.2.1 xx.1.es.length xx.2.2.2,vi ((xx.1.free:Int))]) (fun xx=>[.iface tt (tv),vi root,undef,undef,vp B4_1,vp B5_1,undef,undef,undef,undef,undef,undef, .iface tt (tv),vi root, .func (.func 99) #[] #[vp B14a_2,vp B14b_2,vp B14c_2], .agg #[vi xx.2.1,vi xx.1.lv,vi xx.1.right, .string xx.1.high, .bool xx.1.dead, .slice xx.2.2.1 xx.1.es.length xx.2.2.2,vi ((xx.1.free:Int))],undef,undef,undef,undef,undef,undef,undef,undef,undef,undef,undef,undef,undef,undef,undef,undef,undef,undef,undef,undef,undef,undef,undef,undef,undef]) (fun xx=>by kernel_rfl) ?_ ?_ ?_ ?_
 ·intro rl xx W5 K hK
  have hst5:=St.start W5
  refine wpIn_region_Y [0,1] [[],[0]] [[0],[1]] [[],[0]] [.a 6, .n] (fun ix σ β X=>match ix with | 0=>σ 6=vp (pb (β 6))∧X 0=eB (pb (β 6)) 116 #[vi 0,vi 0,vi 0, .string ByteArray.empty, .bool false, .slice none 0 0,vi 0] | 1=>X 1=eB (pb (β 6)) 116 #[vi xx.2.1,vi xx.1.lv,vi xx.1.right, .string xx.1.high, .bool xx.1.dead, .slice xx.2.2.1 xx.1.es.length xx.2.2.2,vi ((xx.1.free:Int))] | _=>True) [1] [0,1] [(6,0,1,7)] hst5 ?_ ?_ ?_
  ·exact fun ix _ _ _ _ _ _ hs hb hx h=>match ix,h with
   | 0,h=>by dsimp only; rw [← hs 6 rfl,← hb 6 rfl,← hx 0 rfl]; exact h
   | 1,h=>by dsimp only; rw [← hb 6 rfl,← hx 1 rfl]; exact h
   | _+2, _=>trivial
  ·refine ⟨?_,?_,trivial⟩
   ·refine svA fun ρ β W X cx=>?_
    exact dv_alloc (cs:=#[vi 0,vi 0,vi 0, .string ByteArray.empty, .bool false, .slice none 0 0,vi 0]) rfl (by kernel_rfl) rfl rfl (fun σ β' X' hs hb hv hx=>⟨hv,hx⟩)
   ·refine svA fun ρ β W X cx=>?_
    exact dv_store (n:=7) rfl (dTn (cx.an 0)).1 (cx.ou 15) (by kernel_rfl) (by kernel_rfl) (by kernel_rfl) cx (dTn (cx.an 0)).2 rfl (nle rfl) (by kernel_rfl) rfl rfl rfl (fun σ β' X' hs hb hx=>by rw [hb 6]; exact hx)
  intro σ β X W7 hD hst7 fr hfr
  obtain ⟨B6_7,hu_B6_7⟩:∃ z,pb (β 6)=z:=⟨_,rfl⟩
  simp only [exq 1 ((dTn (hD 1 lq))),hu_B6_7] at hst7
  simp only [ed 6 ((dTn (hD 0 lq)).1),hu_B6_7] at hfr
  clear hD hu_B6_7; subst hfr; clear σ β X
  exact hK _ _ _ ⟨_,rfl,rfl⟩ (hst7.pick [0] (by decide) rfl)
 ·rintro rl pre xx W8 L8 a8 E8 ⟨m,KA,kc,RA,rc,hm,hmb,rfl⟩ hlen8 hPx8 ⟨BV,rfl,rfl⟩ hst8r
  have hst8:St W8 (fps ([eB B4_1 49 #[.slice KA m kc],eB B5_1 58 #[.slice RA m rc],eO 9 1 (.slice KA m kc) m ((esY pre).map tqS),eO 31 2 (.slice RA m rc) m ((esY pre).flatMap tqR)]++[eO 104 3 (.slice xx.2.2.1 xx.1.es.length xx.2.2.2) xx.1.es.length (xx.1.es.flatMap enC),eB BV 116 #[vi xx.2.1,vi xx.1.lv,vi xx.1.right, .string xx.1.high, .bool xx.1.dead, .slice xx.2.2.1 xx.1.es.length xx.2.2.2,vi ((xx.1.free:Int))]])) [eB B4_1 49 #[.slice KA m kc],eB B5_1 58 #[.slice RA m rc],eO 9 1 (.slice KA m kc) m ((esY pre).map tqS),eO 31 2 (.slice RA m rc) m ((esY pre).flatMap tqR),eO 104 3 (.slice xx.2.2.1 xx.1.es.length xx.2.2.2) xx.1.es.length (xx.1.es.flatMap enC),eB BV 116 #[vi xx.2.1,vi xx.1.lv,vi xx.1.right, .string xx.1.high, .bool xx.1.dead, .slice xx.2.2.1 xx.1.es.length xx.2.2.2,vi ((xx.1.free:Int))]] W8:=hst8r
  clear hst8r
  have hN0:=nd_ok hok hPx8
  have hez:∀ e∈xx.1.es,e.1.size≤1000000:=fun e he=>Nat.le_trans (hN0.es e he) (by decide)
  have hN1:=hN0.len
  refine wpIn_block (wpIn_seq (wpIn_region_Z [0,1,3,0] [[],[5]] [.k 16 (.pointer (some ⟨BV,5,none⟩)), .c 17 (.slice xx.2.2.1 xx.1.es.length xx.2.2.2), .k 18 (vi ((xx.1.es.length:Int))), .k 19 (vi 0)] [0,1,2,3,4,5] [1] [(16,0,4,20)] hst8 ?_ fun W9 hst9=>?_))
  ·refine ⟨?_,trivial⟩
   ·exact xs4 rfl id fun cx=>run_load1 rfl (by kernel_rfl) (cx.an 0) ((cx.bi 5 rfl).cell 5)
  refine then_normal (wpIn_block ?_)
  refine wpIn_loopN (fun mz az W=>∃ j:Nat,∃ q:Nat,∃ T:List EnD,∃ LA:Option Addr,∃ lc:Nat,∃ QA:Option Addr,∃ qc:Nat,j≤xx.1.es.length∧T=esY pre++xx.1.es.take j∧T.length=q∧q≤m+j∧mz=xx.1.es.length - j∧az=⟨#[.iface tt (tv),vi root,undef,undef,vp B4_1,vp B5_1,vp BV,undef,jv az 8,jv az 9,jv az 10,jv az 11, .iface tt (tv),vi root, .func (.func 99) #[] #[vp B14a_2,vp B14b_2,vp B14c_2], .agg #[vi xx.2.1,vi xx.1.lv,vi xx.1.right, .string xx.1.high, .bool xx.1.dead, .slice xx.2.2.1 xx.1.es.length xx.2.2.2,vi ((xx.1.free:Int))], .pointer (some ⟨BV,5,none⟩), .slice xx.2.2.1 xx.1.es.length xx.2.2.2,vi ((xx.1.es.length:Int)),vi ((j:Int)),jv az 20,jv az 21,jv az 22,jv az 23,jv az 24,jv az 25,jv az 26,jv az 27,jv az 28,jv az 29,jv az 30,jv az 31,jv az 32,jv az 33,jv az 34,jv az 35,jv az 36,jv az 37,jv az 38,undef,undef],[]⟩∧St W8 (fps ([eB B4_1 49 #[.slice KA m kc],eB B5_1 58 #[.slice RA m rc],eO 9 1 (.slice KA m kc) m ((esY pre).map tqS),eO 31 2 (.slice RA m rc) m ((esY pre).flatMap tqR)]++[eO 104 3 (.slice xx.2.2.1 xx.1.es.length xx.2.2.2) xx.1.es.length (xx.1.es.flatMap enC),eB BV 116 #[vi xx.2.1,vi xx.1.lv,vi xx.1.right, .string xx.1.high, .bool xx.1.dead, .slice xx.2.2.1 xx.1.es.length xx.2.2.2,vi ((xx.1.free:Int))]])) [eB B4_1 49 #[.slice LA q lc],eB B5_1 58 #[.slice QA q qc],eO 9 1 (.slice LA q lc) q (T.map tqS),eO 31 2 (.slice QA q qc) q (T.flatMap tqR),eO 104 3 (.slice xx.2.2.1 xx.1.es.length xx.2.2.2) xx.1.es.length (xx.1.es.flatMap enC),eB BV 116 #[vi xx.2.1,vi xx.1.lv,vi xx.1.right, .string xx.1.high, .bool xx.1.dead, .slice xx.2.2.1 xx.1.es.length xx.2.2.2,vi ((xx.1.free:Int))]] W) (xx.1.es.length - 0) ?_ ?_
  · -- the loop begins
    exact ⟨0,m,(esY pre),KA,kc,RA,rc,Nat.zero_le _,by rw [List.take_zero,List.append_nil],hm.symm,Nat.le_refl _,rfl,(by kernel_rfl),hst9.pk [0,1,2,3,4,5]⟩
  rintro n10 a10 W10 ⟨j,q,T,LA,lc,QA,qc,hj,hT,hTl,hqm,rfl,hj_,hst10⟩
  obtain ⟨u10_,hu_⟩:∃ z,jv a10=z:=⟨_,rfl⟩
  rw [hu_] at hj_; clear hu_; subst hj_
  refine wpIn_seq (wpIn_region_P [0] [.k 20 (.bool (decide ((j:Int) < (xx.1.es.length:Int))))] [(20,0,1,21)] hst10 fun W11 hst11=>?_)
  refine then_normal (wpIn_seq ?_)
  rcases Bool.eq_false_or_eq_true (decide ((j:Int) < (xx.1.es.length:Int))) with hs12 | hs12
  ·have hs12p:(j:Int) < (xx.1.es.length:Int):=by simpa using hs12
   refine wpIn_cond_true (show Act.eval _ _= .bool true from (congrArg Value.bool hs12)) (wpIn_skip (then_normal (wpIn_seq (wpIn_block (wpIn_seq (wpIn_region_Y [0,1,0,7] [[4],[4],[],[6]] [[],[],[6],[7]] [[],[],[],[6]] [.c 21 (.pointer (some ((ad xx.2.2.1).add (j*3)))), .c 22 (.agg #[.string ((xx.1.es.getD j en0).1),vi (((xx.1.es.getD j en0).2.1:Int)),vi ((xx.1.es.getD j en0).2.2)]), .a 8, .n] (fun ix σ β X=>match ix with | 0=>True | 1=>True | 2=>σ 8=vp (pb (β 8))∧X 6=eB (pb (β 8)) 104 #[.string ByteArray.empty,vi 0,vi 0] | 3=>X 7=eB (pb (β 8)) 104 #[.string ((xx.1.es.getD j en0).1),vi (((xx.1.es.getD j en0).2.1:Int)),vi ((xx.1.es.getD j en0).2.2)] | _=>True) [0,1,2,3,4,5,7] [0,1,2,3] [(8,2,1,9),(12,0,2,14)] hst11 ?_ ?_ ?_))))))
   ·exact fun ix _ _ _ _ _ _ hs hb hx h=>match ix,h with
    | 2,h=>by dsimp only; rw [← hs 8 rfl,← hb 8 rfl,← hx 6 rfl]; exact h
    | 3,h=>by dsimp only; rw [← hb 8 rfl,← hx 7 rfl]; exact h
    | 0, _ | 1, _ | _+4, _=>trivial
   ·refine ⟨?_,?_,?_,?_,trivial⟩
    ·exact xs4 rfl id fun cx=>run_indexSlM (e:=104) (m:=j) (sz:=3) rfl (by kernel_rfl) (by kernel_rfl) (cx.ou 17) (cx.ou 19) (by omega) (by omega) (At.of_ownN (cx.ri 4 rfl)) (by have h_:=flatLen (f:=enC) (sz:=3) enC_len xx.1.es; show 0 < (List.flatMap enC xx.1.es).length; omega)
    ·exact xs4 rfl id fun cx=>run_loadElt (f:=enC) (m:=j) (sz:=3) (off:=0) (n:=3) rfl (by kernel_rfl) (by kernel_rfl) (cx.an 0) rfl enC_len (At.of_ownN (cx.ri 4 rfl)) (en_get (by omega)) (fun k hk=>match k,hk with | 0, _=>rfl | 1, _=>rfl | 2, _=>rfl | k+3,hk=>absurd hk (by omega))
    ·refine svA fun ρ β W X cx=>?_
     exact dv_alloc (cs:=#[.string ByteArray.empty,vi 0,vi 0]) rfl (by kernel_rfl) rfl rfl (fun σ β' X' hs hb hv hx=>⟨hv,hx⟩)
    ·refine svA fun ρ β W X cx=>?_
     exact dv_store (n:=3) rfl (dTn (cx.an 2)).1 (cx.an 1) (by kernel_rfl) (by kernel_rfl) (by kernel_rfl) cx (dTn (cx.an 2)).2 rfl (nle rfl) (by kernel_rfl) rfl rfl rfl (fun σ β' X' hs hb hx=>by rw [hb 8]; exact hx)
   intro σ β X W13 hD hst13 fr hfr
   obtain ⟨B8_13,hu_B8_13⟩:∃ z,pb (β 8)=z:=⟨_,rfl⟩
   simp only [exq 7 ((dTn (hD 3 lq))),hu_B8_13] at hst13
   simp only [ed 8 ((dTn (hD 2 lq)).1),hu_B8_13] at hfr
   clear hD hu_B8_13; subst hfr; clear σ β X
   refine then_normal (wpIn_seq (wpIn_region_Y [0,1,3,7,15,15,15,0,159,447,1023] [[],[6],[],[],[],[],[],[],[],[7]] [[],[],[],[],[],[],[],[7],[],[8]] [[],[],[],[],[],[],[],[],[],[7]] [.k 24 (vp B8_13), .c 25 (.string ((xx.1.es.getD j en0).1)), .c 26 (.tuple #[.string (qkF ((xx.1.es.getD j en0).1)), .agg #[vi (opF ((xx.1.es.getD j en0).1)),vi (osF ((xx.1.es.getD j en0).1))], .bool (decide (4≤((xx.1.es.getD j en0).1).size))]), .k 23 (.tuple #[.string (qkF ((xx.1.es.getD j en0).1)), .agg #[vi (opF ((xx.1.es.getD j en0).1)),vi (osF ((xx.1.es.getD j en0).1))], .bool (decide (4≤((xx.1.es.getD j en0).1).size))]), .k 27 (.string (qkF ((xx.1.es.getD j en0).1))), .k 28 (.agg #[vi (opF ((xx.1.es.getD j en0).1)),vi (osF ((xx.1.es.getD j en0).1))]), .k 29 (.bool (decide (4≤((xx.1.es.getD j en0).1).size))), .a 10, .k 9 (.string (qkF ((xx.1.es.getD j en0).1))), .n, .k 11 (.bool (decide (4≤((xx.1.es.getD j en0).1).size)))] (fun ix σ β X=>match ix with | 0=>True | 1=>True | 2=>True | 3=>True | 4=>True | 5=>True | 6=>True | 7=>σ 10=vp (pb (β 10))∧X 7=eB (pb (β 10)) 31 #[vi 0,vi 0] | 8=>True | 9=>X 8=eB (pb (β 10)) 31 #[vi (opF ((xx.1.es.getD j en0).1)),vi (osF ((xx.1.es.getD j en0).1))] | _=>True) [0,1,2,3,4,5,6,8] [1,2,7,9] [(9,8,1,10),(0,7,1,1),(0,10,1,1),(11,3,1,12),(0,0,3,3),(0,4,3,3)] hst13 ?_ ?_ ?_))
   ·exact fun ix _ _ _ _ _ _ hs hb hx h=>match ix,h with
    | 7,h=>by dsimp only; rw [← hs 10 rfl,← hb 10 rfl,← hx 7 rfl]; exact h
    | 9,h=>by dsimp only; rw [← hb 10 rfl,← hx 8 rfl]; exact h
    | 0, _ | 1, _ | 2, _ | 3, _ | 4, _ | 5, _ | 6, _ | 8, _ | _+10, _=>trivial
   ·refine ⟨?_,?_,?_,?_,trivial⟩
    ·exact xs4 rfl id fun cx=>run_load1 rfl (by kernel_rfl) (cx.an 0) ((cx.bi 6 rfl).cell 0)
    ·exact xsc rfl id rfl rfl fun cx=>⟨_,kpart_any ((xx.1.es.getD j en0).1) _ (getD_size hez _),(map1 (cx.an 1))⟩
    ·refine svA fun ρ β W X cx=>?_
     exact dv_alloc (cs:=#[vi 0,vi 0]) rfl (by kernel_rfl) rfl rfl (fun σ β' X' hs hb hv hx=>⟨hv,hx⟩)
    ·refine svA fun ρ β W X cx=>?_
     exact dv_store (n:=2) rfl (dTn (cx.an 7)).1 (cx.an 5) (by kernel_rfl) (by kernel_rfl) (by kernel_rfl) cx (dTn (cx.an 7)).2 rfl (nle rfl) (by kernel_rfl) rfl rfl rfl (fun σ β' X' hs hb hx=>by rw [hb 10]; exact hx)
   intro σ β X W14 hD hst14 fr hfr
   obtain ⟨B10_14,hu_B10_14⟩:∃ z,pb (β 10)=z:=⟨_,rfl⟩
   simp only [exq 8 ((dTn (hD 9 lq))),hu_B10_14] at hst14
   simp only [ed 10 ((dTn (hD 7 lq)).1),hu_B10_14] at hfr
   clear hD hu_B10_14; subst hfr; clear σ β X
   refine then_normal (wpIn_region_Y [0,0,2,7,0,0,32,127,255,511] [[0],[],[],[8,2],[1],[7],[],[10,3],[0],[1]] [[],[],[8],[9],[],[],[10],[11],[12],[13]] [[],[],[],[2],[],[],[],[3],[0],[1]] [.c 30 (.slice LA q lc), .k 31 (.string (qkF ((xx.1.es.getD j en0).1))), .a 32, .a 33, .c 34 (.slice QA q qc), .c 35 (.agg #[vi (opF ((xx.1.es.getD j en0).1)),vi (osF ((xx.1.es.getD j en0).1))]), .a 36, .a 37, .n, .n] (fun ix σ β X=>match ix with | 0=>True | 1=>True | 2=>σ 32= .slice (sA (β 32)) 1 1∧X 8=eO 9 1 (.slice (sA (β 32)) 1 1) 1 ([.string (qkF ((xx.1.es.getD j en0).1))]) | 3=>σ 33= .slice (sA (β 33)) (q+1) (sC (β 33))∧X 9=eO 9 1 (.slice (sA (β 33)) (q+1) (sC (β 33))) (q+1) ((T++[(xx.1.es.getD j en0)]).map tqS) | 4=>True | 5=>True | 6=>σ 36= .slice ((some ⟨(pb' (β 36)),0,none⟩)) 1 1∧X 10=eO 31 2 (.slice ((some ⟨(pb' (β 36)),0,none⟩)) 1 1) 1 ([vi (opF ((xx.1.es.getD j en0).1)),vi (osF ((xx.1.es.getD j en0).1))]) | 7=>σ 37= .slice (sA (β 37)) (q+1) (sC (β 37))∧X 11=eO 31 2 (.slice (sA (β 37)) (q+1) (sC (β 37))) (q+1) ((T++[(xx.1.es.getD j en0)]).flatMap tqR) | 8=>X 12=eB B4_1 49 #[.slice (sA (β 33)) (q+1) (sC (β 33))] | 9=>X 13=eB B5_1 58 #[.slice (sA (β 37)) (q+1) (sC (β 37))] | _=>True) [4,5,6,7,8,9,10,11,12,13] [0,2,3,4,5,6,7,8,9] [(30,0,8,38)] hst14 ?_ ?_ ?_)
   ·exact fun ix _ _ _ _ _ _ hs hb hx h=>match ix,h with
    | 2,h=>by dsimp only; rw [← hs 32 rfl,← hb 32 rfl,← hx 8 rfl]; exact h
    | 3,h=>by dsimp only; rw [← hs 33 rfl,← hb 33 rfl,← hx 9 rfl]; exact h
    | 6,h=>by dsimp only; rw [← hs 36 rfl,← hb 36 rfl,← hx 10 rfl]; exact h
    | 7,h=>by dsimp only; rw [← hs 37 rfl,← hb 37 rfl,← hx 11 rfl]; exact h
    | 8,h=>by dsimp only; rw [← hb 33 rfl,← hx 12 rfl]; exact h
    | 9,h=>by dsimp only; rw [← hb 37 rfl,← hx 13 rfl]; exact h
    | 0, _ | 1, _ | 4, _ | 5, _ | _+10, _=>trivial
   ·refine ⟨?_,?_,?_,?_,?_,?_,?_,?_,?_,trivial⟩
    ·exact xs4 rfl id fun cx=>run_load1 rfl (by kernel_rfl) (cx.ou 4) ((cx.bi 0 rfl).cell 0)
    ·refine svA fun ρ β W X cx=>?_
     have fF31:ρ (.tmp 31)= .string (qkF ((xx.1.es.getD j en0).1)):=(cx.an 1)
     exact dv_lit (e:=9) (xs:=[.string (qkF ((xx.1.es.getD j en0).1))]) rfl (by simp [go_sem,fF31]) rfl (by decide) rfl rfl (fun σ β' X' hs hb hv hx=>⟨hv,hx⟩)
    ·refine svA fun ρ β W X cx=>?_
     obtain ⟨i0,hi0,hz0,hz1,hz2⟩:=info_parts Try.infoStr
     refine dv_append (n:=q) (m:=1) (nm:=q+1) (xs:=T.map tqS) (news:=[.string (qkF ((xx.1.es.getD j en0).1))]) (xs':=(T++[(xx.1.es.getD j en0)]).map tqS) rfl (ty:=49) rfl (by kernel_rfl) hi0 hz0 hz1 hz2 rfl (cx.an 0) cx (cx.init 2 _ rfl) rfl (dTn (cx.an 2)).1 (by rfl) (At.of_own (cx.row (dTn (cx.an 2)).2 rfl)) (by simp [Value.oneCell']) (by simp only [maxLen]; omega) (by omega) rfl rfl rfl (by omega) (tqS_snoc _ _) (fun σ β' X' hs hb hv hx=>?_)
     exact ⟨hv,hx⟩
    ·exact xs4 rfl id fun cx=>run_load1 rfl (by kernel_rfl) (cx.ou 5) ((cx.bi 1 rfl).cell 0)
    ·exact xs4 rfl id fun cx=>run_loadB (n:=2) rfl (by kernel_rfl) (by kernel_rfl) (cx.ou 10) (cx.bi 7 rfl) (nle rfl) rfl
    ·refine svA fun ρ β W X cx=>?_
     have fF35:ρ (.tmp 35)= .agg #[vi (opF ((xx.1.es.getD j en0).1)),vi (osF ((xx.1.es.getD j en0).1))]:=(cx.an 5)
     exact dv_litN (e:=31) (sz:=2) (xs:=[vi (opF ((xx.1.es.getD j en0).1)),vi (osF ((xx.1.es.getD j en0).1))]) rfl (by simp [go_sem,fF35]) rfl (by decide) rfl rfl (fun σ β' X' hs hb hv hx=>⟨hv,hx⟩)
    ·refine svA fun ρ β W X cx=>?_
     obtain ⟨i0,hi0,hz0,hz1,hz2⟩:=info_parts Try.infoTid
     refine dv_appendN (n:=q) (m:=1) (nm:=q+1) (sz:=2) (xs:=T.flatMap tqR) (news:=[vi (opF ((xx.1.es.getD j en0).1)),vi (osF ((xx.1.es.getD j en0).1))]) (xs':=(T++[(xx.1.es.getD j en0)]).flatMap tqR) rfl (ty:=58) rfl (by kernel_rfl) hi0 hz0 hz1 hz2 rfl (by decide) (cx.an 4) cx (cx.init 3 _ rfl) rfl (dTn (cx.an 6)).1 (by rfl) (At.of_ownN (cx.row (dTn (cx.an 6)).2 rfl)) (by simp [Value.oneCell']) (by simp only [maxLen]; omega) (by omega) rfl rfl rfl (by omega) (tqR_snoc _ _) (fun σ β' X' hs hb hv hx=>?_)
     exact ⟨hv,hx⟩
    ·refine svA fun ρ β W X cx=>?_
     exact dv_store (n:=1) rfl (cx.ou 4) (dTn (cx.an 3)).1 (by kernel_rfl) (by kernel_rfl) (by kernel_rfl) cx (cx.init 0 _ rfl) rfl (nle rfl) (by kernel_rfl) rfl rfl rfl (fun σ β' X' hs hb hx=>by rw [hb 33]; exact hx)
    ·refine svA fun ρ β W X cx=>?_
     exact dv_store (n:=1) rfl (cx.ou 5) (dTn (cx.an 7)).1 (by kernel_rfl) (by kernel_rfl) (by kernel_rfl) cx (cx.init 1 _ rfl) rfl (nle rfl) (by kernel_rfl) rfl rfl rfl (fun σ β' X' hs hb hx=>by rw [hb 37]; exact hx)
   intro σ β X W15 hD hst15 fr hfr
   obtain ⟨A32_15,hu_A32_15⟩:∃ z,sA (β 32)=z:=⟨_,rfl⟩
   obtain ⟨A33_15,hu_A33_15⟩:∃ z,sA (β 33)=z:=⟨_,rfl⟩
   obtain ⟨c33_15,hu_c33_15⟩:∃ z,sC (β 33)=z:=⟨_,rfl⟩
   obtain ⟨B36_15,hu_B36_15⟩:∃ z,pb' (β 36)=z:=⟨_,rfl⟩
   obtain ⟨A37_15,hu_A37_15⟩:∃ z,sA (β 37)=z:=⟨_,rfl⟩
   obtain ⟨c37_15,hu_c37_15⟩:∃ z,sC (β 37)=z:=⟨_,rfl⟩
   simp only [exq 8 ((dTn (hD 2 lq)).2),exq 9 ((dTn (hD 3 lq)).2),exq 10 ((dTn (hD 6 lq)).2),exq 11 ((dTn (hD 7 lq)).2),exq 12 ((dTn (hD 8 lq))),exq 13 ((dTn (hD 9 lq))),hu_A32_15,hu_A33_15,hu_c33_15,hu_B36_15,hu_A37_15,hu_c37_15] at hst15
   simp only [ed 32 ((dTn (hD 2 lq)).1),ed 33 ((dTn (hD 3 lq)).1),ed 36 ((dTn (hD 6 lq)).1),ed 37 ((dTn (hD 7 lq)).1),hu_A32_15,hu_A33_15,hu_c33_15,hu_B36_15,hu_A37_15,hu_c37_15] at hfr
   clear hD hu_A32_15 hu_A33_15 hu_c33_15 hu_B36_15 hu_A37_15 hu_c37_15; subst hfr; clear σ β X
   refine blk_normal (then_normal (wpIn_region_P [0,1] [tI 38 ((j:Int)+1) (by omega), .k 19 (vi ((j:Int)+1))] [(19,1,1,20),(18,0,1,19)] hst15 fun W16 hst16=>?_))
   refine then_normal ?_
   refine ⟨xx.1.es.length - ((j+1)),by omega,?_⟩
   exact ⟨(j+1),(q+1),(T++[(xx.1.es.getD j en0)]),A33_15,c33_15,A37_15,c37_15,by omega,by rw [hT,take_getD (by omega),List.append_assoc],by rw [List.length_append,hTl]; rfl,by omega,rfl,(by kernel_rfl),hst16.pk [8,9,5,7,0,1]⟩
  have hs12p:¬ ((j:Int) < (xx.1.es.length:Int)):=by simpa using hs12
  refine wpIn_cond_false (show Act.eval _ _= .bool false from (congrArg Value.bool hs12)) (wpIn_exit (then_exit (then_exit (blk_eq (blk_normal ?_)))))
  have hfin_:T=esY (pre++[xx]):=by rw [hT,esY_snoc,List.take_of_length_le (by omega)]
  rw [hfin_] at hst11 hTl
  exact ⟨true, .inl ⟨rfl,rfl⟩, _,⟨q,LA,lc,QA,qc,hTl.symm,by rw [List.length_append]; show q≤100*(pre.length+1); omega,rfl⟩,hst11.pick [0,1,2,3,4] (by decide) rfl⟩
 ·rintro D5 W5d L5 XS_ E_ ⟨m,KA,kc,RA,rc,hm,hmb,rfl⟩ hZ_ hst5r
  have hst5d:St w [] [eB B4_1 49 #[.slice KA m kc],eB B5_1 58 #[.slice RA m rc],eO 9 1 (.slice KA m kc) m ((esY XS_).map tqS),eO 31 2 (.slice RA m rc) m ((esY XS_).flatMap tqR),E_,eDfr D5] W5d:=hst5r
  clear hst5r
  refine blk_normal (then_normal (wp_seq (wp_region_Y [0,0,1,7] [[0],[1],[0],[1]] [[],[],[6],[7]] [[],[],[0],[1]] [.c 39 (.slice KA m kc), .c 40 (.slice RA m rc), .n, .n] (fun ix σ β X=>match ix with | 0=>True | 1=>True | 2=>X 6=eB B4_1 49 #[.slice KA m kc] | 3=>X 7=eB B5_1 58 #[.slice RA m rc] | _=>True) [2,3,4,5,6,7] [0,1,2,3] [(39,0,2,41)] hst5d ?_ ?_ ?_)))
  ·exact fun ix _ _ _ _ _ _ hs hb hx h=>match ix,h with
   | 2,h=>by dsimp only; rw [← hx 6 rfl]; exact h
   | 3,h=>by dsimp only; rw [← hx 7 rfl]; exact h
   | 0, _ | 1, _ | _+4, _=>trivial
  ·refine ⟨?_,?_,?_,?_,trivial⟩
   ·exact xs4 rfl id fun cx=>run_load1 rfl (by kernel_rfl) (cx.ou 4) ((cx.bi 0 rfl).cell 0)
   ·exact xs4 rfl id fun cx=>run_load1 rfl (by kernel_rfl) (cx.ou 5) ((cx.bi 1 rfl).cell 0)
   ·refine svA fun ρ β W X cx=>?_
    exact dv_store (n:=1) rfl (cx.ou 4) (cx.an 0) (by kernel_rfl) (by kernel_rfl) (by kernel_rfl) cx (cx.init 0 _ rfl) rfl (nle rfl) (by kernel_rfl) rfl rfl rfl (fun σ β' X' hs hb hx=>hx)
   ·refine svA fun ρ β W X cx=>?_
    exact dv_store (n:=1) rfl (cx.ou 5) (cx.an 1) (by kernel_rfl) (by kernel_rfl) (by kernel_rfl) cx (cx.init 1 _ rfl) rfl (nle rfl) (by kernel_rfl) rfl rfl rfl (fun σ β' X' hs hb hx=>hx)
  intro σ β X W17 hD hst17 fr hfr
  simp only [exq 6 ((dTn (hD 2 lq))),exq 7 ((dTn (hD 3 lq)))] at hst17
  clear hD; subst hfr; clear σ β X
  refine then_normal (wp_ret ?_)
  refine bpm_take (L:=[eO 9 1 (.slice KA m kc) m ((esY XS_).map tqS),eO 31 2 (.slice RA m rc) m ((esY XS_).flatMap tqR),E_,eB B4_1 49 #[.slice KA m kc],eB B5_1 58 #[.slice RA m rc]]) (hst17.pick [0,1,2,4,5,3] (by decide) rfl) fun Wt18 ht18=>?_
  refine ⟨.tuple #[.slice KA m kc, .slice RA m rc],(results_2 Try.results42 (rpc (ht18.blk 3 rfl) 0) (rpc (ht18.blk 4 rfl) 0)),?_⟩
  exact al_done (hZ_.2.1 rfl) hm (ht18.pick [0,1] (by decide) rfl)
 ·exact fun D W L xs E h=>h.elim
end
section
open Go.RowKit
theorem lref_any (i:Nat) (w:World) (hi:i≤1000000):
  Calls Try.prog 41 #[.int .i64 ((i:Int))] w (Ret (.agg #[.int .i64 (1+(i:Int) / 8), .int .i64 (1+(i:Int) % 8)]) w):=by
 go_enter Try.func41,Try.ntmps41
 have hst0:=St.start w
 refine wp_seq (sqr (sqal #[vi 0,vi 0] hst0 fun B2_1 W1 hst1=>?_))
 refine then_normal (wp_seq (sqr (sqp [.m 3 0,sQu 4 .i64 (i:Int) 8 ((i:Int) / 8) (by rw [Int.tdiv_eq_ediv_of_nonneg (by omega)]; exact IntWalk.i64_in _ (by omega)),sI 5 (1+((i:Int) / 8)) (by omega), .m 6 0,sRe 7 .i64 (i:Int) 8 ((i:Int) % 8) (Int.tmod_eq_emod_of_nonneg (by omega)),sI 8 (1+((i:Int) % 8)) (by omega), .k 9 (.agg #[vi (1+((i:Int) / 8)),vi (1+((i:Int) % 8))])] ?_)))
 refine sqst (n:=2) 0 #[vi (1+((i:Int) / 8)),vi (1+((i:Int) % 8))] hst1 fun W9 hst9=>?_
 refine then_normal (wp_ret ?_)
 refine bpr (.agg #[vi (1+((i:Int) / 8)),vi (1+((i:Int) % 8))]) (results_cell (n:=2) Try.results41 rfl (by kernel_rfl) (by kernel_rfl) (hst9.blk 0 rfl) rfl) ?_
 exact Ret.of rfl hst9.ext
end
section
open Go.RowKit Go.Maps Go.ChangeMaps
/-- how keys are written -/
structure Kc (κ:Type) where
 enc:κ→Value
 lit:κ→Lit
 ok:κ→Prop
 ty:Program→TypeId→Prop
 inj:∀ {x y},lit x=lit y→x=y
 isk:∀ x,WideAt.IsKeyLit (lit x)
 keyed:∀ {P k},ty P k→Keyed P k
 key:∀ {P k x},ty P k→ok x→keyOf P k (enc x)=some (lit x)
def kcS:Kc ByteArray where
 enc:= .string
 lit s:= .string s.data.toList
 ok s:=s.size≤100000000
 ty P k:=P.underlying k=some .string
 inj:=fun {x y} h=>by injection h with h; exact ByteArray.ext (Array.toList_inj.1 h)
 isk _:=trivial
 keyed h:=string_keyed h
 key h hx:=WideMaps.keyOf_string_mk h (by simp only [maxLen]; omega)
/-- how an element lies in a map and how it reads -/
structure Ec (ε:Type) where
 enc:ε→Value
 dat:ε→DataW Unit
 R:Value→Option (DataW Unit×List MemPlace)
 e0:ε
 okE:ε→Prop
 read:∀ e,okE e→R (enc e)=some (dat e,[])
 back:∀ v d ps e,R v=some (d,ps)→d=dat e→v=enc e
 ok0:okE e0
def MapX {κ ε:Type} (K:Kc κ) (C:Ec ε) (P:Program) (k b n:Nat) (m:κ→Option ε) (W:World):Prop:=
 ∃ D:DataW Unit,W.ownsMap P k C.R b n D∧Tidy D∧size D=n∧∀ x,K.ok x→has D (K.lit x)=(m x).isSome∧D.atKey (K.lit x) (C.dat C.e0)=C.dat ((m x).getD C.e0)
def eMx {κ ε:Type} (K:Kc κ) (C:Ec ε) (P:Program) (k b n:Nat) (m:κ→Option ε):Ent:=⟨[b],MapX K C P k b n m⟩
def putX {κ ε:Type} [DecidableEq κ] (m:κ→Option ε) (x:κ) (e:Option ε):κ→Option ε:=fun y=>if y=x then e else m y
theorem owns_size {H:Type} {P:Program} {k b n:Nat} {R:Value→Option (DataW H×List MemPlace)} {W:World} {D:DataW H} (h:W.ownsMap P k R b n D):W.ownsMap P k R b (size D) D:=by
 obtain ⟨es,clock,hb,F,hs,rfl⟩:=h
 refine ⟨es,clock,hb,F,?_,rfl⟩
 simp [Maps.size,length_sorted]
section
variable {κ ε:Type} {K:Kc κ} {C:Ec ε}
theorem eMx_loc (P:Program) (k b n:Nat) (m:κ→Option ε):(eMx K C P k b n m).loc:=fun W W' h hb=>by
 obtain ⟨D,⟨es,clock,h1,h2⟩,h3⟩:=hb
 exact ⟨D,⟨es,clock,(h b (by simp [eMx])).trans h1,h2⟩,h3⟩
variable {P:Program} {o:Oper} {ρ:Operand→Value} {W:World} {k e b n:Nat} {m:κ→Option ε}
theorem MapX.lt (h:MapX K C P k b n m W):b < W.heap.size:=by
 obtain ⟨D,hD, _⟩:=h
 exact hD.lt
theorem run_lookMx {t:TypeId} {y z:Operand} {x:κ} (h:o.op= .lookup t y z false) (hy:ρ y= .map (some b)) (hz:ρ z=K.enc x) (hb:MapX K C P k b n m W) (h0:(zeroValue e).run P W= .ok (C.enc C.e0) W) (hx:K.ok x)
  (hk:K.ty P k:=by kernel_rfl) (ht:P.underlying t=some (.map k e):=by kernel_rfl):(execOp ρ o).run P W= .ok (.value (C.enc ((m x).getD C.e0))) W:=by
 obtain ⟨D,hD, _, _,hm⟩:=hb
 obtain ⟨v,ps,hrun,hv⟩:=hD.lookup (K.keyed hk) ht h0 (C.read C.e0 C.ok0) (K.key hk hx)
 rw [C.back v _ ps _ hv (hm x hx).2] at hrun
 unfold execOp
 rw [h]
 simp [hy,hz,hrun]
theorem run_lenMx {c:Call} {y:Operand} {t:TypeId} (h:o.op= .call c) (hc:c.callee= .builtin .len) (ha:c.args=#[y]) (hat:c.argTypes=#[t]) (hy:ρ y= .map (some b)) (hb:MapX K C P k b n m W) (ht:P.underlying t=some (.map k e):=by kernel_rfl):
  (execOp ρ o).run P W= .ok (.value (.int .i64 (n:Int))) W:=by
 obtain ⟨D,hD, _,hs, _⟩:=hb
 have hl:=hD.len ht o.type
 rw [hs] at hl
 unfold execOp
 rw [h]
 obtain ⟨cal,args,tys⟩:=c
 simp only at hc ha hat
 subst hc ha hat
 simp [go_sem,hy,hl]
def mzP (m:κ→Option ε) (x:κ) (n:Nat):Nat:=if (m x).isSome then n else n+1
theorem run_setMx [DecidableEq κ] {t:TypeId} {y z u:Operand} {x:κ} {v:ε} (h:o.op= .mapUpdate t y z u∨o.op= .insert t y z u) (hy:ρ y= .map (some b)) (hz:ρ z=K.enc x) (hu:ρ u=C.enc v) (hb:MapX K C P k b n m W) (hv:C.okE v) (hn:n < 1000000) (hx:K.ok x)
  (hk:K.ty P k:=by kernel_rfl) (ht:P.underlying t=some (.map k e):=by kernel_rfl):
  ∃ W',(execOp ρ o).run P W= .ok .skip W'∧MapX K C P k b (mzP m x n) (putX m x (some v)) W'∧Upd [b] W W':=by
 obtain ⟨D,hD,hI,hs,hm⟩:=hb
 obtain ⟨W',hrun,hown,hg⟩:=hD.update (K.keyed hk) ht (by simp only [maxLen]; omega) (K.key hk hx) (C.read v hv)
 have hsz:size (D.put (K.lit x) (C.dat v))=mzP m x n:=by rw [size_put hI,(hm x hx).1,hs,mzP]
 refine ⟨W',?_,⟨_,by have h9:=owns_size hown; rwa [hsz] at h9,hI.put (K.isk x) _,hsz,fun y hy=>?_⟩,⟨hg.os,hg.tape,hg.output,hg.size,fun i hi hn=>hg.block i hi (fun e'=>hn (by cases e'; simp))⟩⟩
 ·unfold execOp
  rcases h with h | h<;>rw [h]<;>simp [hy,hz,hu,hrun]
 ·unfold putX
  by_cases e':y=x
  ·subst e'
   rw [if_pos rfl]
   exact ⟨has_put_same hI.isMap (K.isk y) _,atKey_put_same hI.isMap (K.isk y) _ _⟩
  ·have e2:K.lit y≠K.lit x:=fun h=>e' (K.inj h)
   rw [if_neg e',has_put_other e2,atKey_put_other e2]
   exact hm y hy
theorem MapX.made:MapX K C P k W.heap.size 0 (fun _=>none) (W.alloc (.map #[] 0)):=⟨.map [],World.ownsMap_made W P k C.R,tidy_empty,rfl,fun x hx=>⟨rfl,rfl⟩⟩
end
section
variable {κ ε:Type} {K:Kc κ} {C:Ec ε} {P:Program} {ops:Array Oper} {L:List Nat} {a0:Act} {w0:World} {bor:List Nat} {X0:List Ent} {us cr kl:List (List Nat)}
 {D:Nat→(Tmp→Value)→(Tmp→Value)→(Nat→Ent)→Prop} {i:Nat} {o:Oper} {ρ:Operand→Value} {β:Tmp→Value} {W:World} {X:Nat→Ent}
def pbx:Value→Nat
 | .map (some b)=>b
 | _=>0
theorem CtxV.mx {q k b n:Nat} {m:κ→Option ε} (cx:CtxV ops L a0 w0 bor X0 us D i ρ β W X) (hX:X q=eMx K C P k b n m) (hu:(atV us i).contains q=true):MapX K C P k b n m W:=by
 have h:=(cx.ok q hu).holds
 rw [hX] at h; exact h
theorem dv_makeMx {t d k q:Nat} (h:o.op= .makeMap t none) (hd:o.dst=some d) (hc:atV cr i=[q]) (hk:atV kl i=[])
  (hD:∀ (σ β':Tmp→Value) (X':Nat→Ent),(∀ t,t≠d→σ t=ρ (.tmp t))→(∀ t,t≠d→β' t=β t)→σ d= .map (some (pbx (β' d)))→X' q=eMx K C P k (pbx (β' d)) 0 (fun _=>none)→D i σ β' X'):DoesU P o ρ W (PostV cr kl D i o.dst ρ β W X):=by
 refine DoesU.value (v:= .map (some W.heap.size)) (w':=W.alloc (.map #[] 0)) (by unfold execOp; rw [h]; rfl) ?_
 refine post_call [eMx K C P k W.heap.size 0 (fun _=>none)] hk (by rw [hc]; rfl) ((Ext.refl W).alloc _) (one_new ⟨MapX.made,eMx_loc _ _ _ _ _,fun k' hk'=>?_⟩) (List.pairwise_singleton _ _) (fun σ β' X' hs hb hv hN=>?_)
 ·have:k'=W.heap.size:=by simpa [eMx] using hk'
  subst this
  exact ⟨Nat.le_refl _,by simp⟩
 ·have hv1:=(hv d hd).1; have hv2:=(hv d hd).2
  rw [hc] at hN
  refine hD σ β' X' (fun t ht=>hs t (by rw [hd]; simpa using ht.symm)) (fun t ht=>hb t (by rw [hd]; simpa using ht.symm)) ?_ ?_
  ·rw [hv1,hv2]; rfl
  ·rw [hv2]; exact (List.cons.inj hN).1
theorem post_mapX {k b n n' q q':Nat} {m m':κ→Option ε} {W':World} (hX:X q=eMx K C P k b n m) (h1:MapX K C P k b n' m' W') (h2:Upd [b] W W') (hc:atV cr i=[q']) (hkl:atV kl i=[q]):
  ([eMx K C P k b n' m'].length=(atV cr i).length)∧(Upd ((atV kl i).flatMap fun q=>(X q).fp) W W')∧∀ e'∈[eMx K C P k b n' m'],e'.holds W'∧e'.loc∧∀ k'∈e'.fp,(k'∈((atV kl i).flatMap fun q=>(X q).fp)∨W.heap.size≤k')∧k' < W'.heap.size:=by
 refine ⟨by rw [hc]; rfl,?_,fun e' he'=>?_⟩
 ·rw [hkl]
  simp only [List.flatMap_cons,List.flatMap_nil,List.append_nil,hX]
  exact h2
 ·rw [List.mem_singleton] at he'
  subst he'
  refine ⟨h1,eMx_loc _ _ _ _ _,fun k' hk'=>?_⟩
  have hkb:k'=b:=by simpa [eMx] using hk'
  subst hkb
  refine ⟨.inl ?_,h1.lt⟩
  rw [hkl]
  simp [hX,eMx]
theorem dv_setMx [DecidableEq κ] {t k e b n q q':Nat} {m:κ→Option ε} {y z u:Operand} {x:κ} {v:ε} (h:o.op= .mapUpdate t y z u∨o.op= .insert t y z u) (hy:ρ y= .map (some b)) (hz:ρ z=K.enc x) (hu:ρ u=C.enc v)
  (cx:CtxV ops L a0 w0 bor X0 us D i ρ β W X) (hX:X q=eMx K C P k b n m) (hq:(atV us i).contains q=true) (hv:C.okE v) (hn:n < 1000000) (hx:K.ok x) (hd:o.dst=none) (hc:atV cr i=[q']) (hkl:atV kl i=[q])
  (hD:∀ (σ β':Tmp→Value) (X':Nat→Ent),(∀ t,σ t=ρ (.tmp t))→(∀ t,β' t=β t)→X' q'=eMx K C P k b (mzP m x n) (putX m x (some v))→D i σ β' X')
  (hk:K.ty P k:=by kernel_rfl) (ht:P.underlying t=some (.map k e):=by kernel_rfl):DoesU P o ρ W (PostV cr kl D i o.dst ρ β W X):=by
 obtain ⟨W',hrun,h1,h2⟩:=run_setMx (v:=v) h hy hz hu (cx.mx hX hq) hv hn hx hk ht
 obtain ⟨a1,a2,a3⟩:=post_mapX (cr:=cr) (kl:=kl) (i:=i) hX h1 h2 hc hkl
 refine DoesU.skip hrun ⟨[eMx K C P k b (mzP m x n) (putX m x (some v))],a1,⟨a2,a3,List.pairwise_singleton _ _⟩,fun σ β' X' hs hv hb' hbv hx' hN=>hD σ β' X' (fun t=>hs t (by rw [hd]; simp)) (fun t=>hb' t (by rw [hd]; simp)) ?_⟩
 rw [hc] at hN
 exact (List.cons.inj hN).1
end
end
section
open Go.RowKit Go.Maps
noncomputable def ecI:Ec Int where
 enc:= .int .i64
 dat:=fun v=> .lit (.int .i64 v)
 R:=plainElem Try.prog 3
 e0:=0
 okE:=fun z=> -9223372036854775808≤z∧z≤9223372036854775807
 read:=fun e _=>by
  unfold plainElem
  have hu:Try.prog.underlying 3=some (.int .i64):=by kernel_rfl
  rw [hu]
  have h3:(Lit.int IntKind.i64 e).wf=true:=by
   show (decide (IntKind.i64.min≤e)&&decide (e≤IntKind.i64.max))=true
   have h1:IntKind.i64.min= -9223372036854775808:=by decide
   have h2:IntKind.i64.max=9223372036854775807:=by decide
   rw [h1,h2,decide_eq_true (by omega),decide_eq_true (by omega)]; rfl
  simp [h3]
 back:=fun v d ps e h1 h2=>by
  subst h2
  unfold plainElem at h1
  have hu:Try.prog.underlying 3=some (.int .i64):=by kernel_rfl
  rw [hu] at h1
  cases v<;>simp at h1
  obtain ⟨⟨h3, _⟩,h4, _⟩:=h1
  rw [h3,h4]
 ok0:=by decide
instance baDec:DecidableEq ByteArray:=fun a b=>decidable_of_iff (a.data=b.data) ⟨fun h=>by cases a; cases b; cases h; rfl,fun h=>by rw [h]⟩
noncomputable def mN (S:List ByteArray):ByteArray→Option Int:=fun x=>@ite _ (x∈S) (Classical.propDecidable _) (some 1) none
noncomputable def nB (S:List ByteArray) (x:ByteArray):Int:=(mN S x).getD 0
theorem nB_in {S:List ByteArray} {x:ByteArray} (h:x∈S):nB S x=1:=by rw [nB,mN,if_pos h]; rfl
theorem nB_no {S:List ByteArray} {x:ByteArray} (h:x∉S):nB S x=0:=by rw [nB,mN,if_neg h]; rfl
theorem mN_nil:(fun _=>none:ByteArray→Option Int)=mN []:=by funext x; simp [mN]
theorem mN_put {S:List ByteArray} {x:ByteArray}:putX (mN S) x (some 1)=mN (S++[x]):=by
 funext y
 unfold putX mN
 by_cases h:y=x
 ·simp [h]
 ·have e:y∈S++[x]↔y∈S:=by simp [h]
  rw [if_neg h]
  by_cases hy:y∈S
  ·rw [if_pos hy,if_pos (e.2 hy)]
  ·rw [if_neg hy,if_neg fun h2=>hy (e.1 h2)]
theorem mN_size {S:List ByteArray} {x:ByteArray} (h:x∉S):mzP (mN S) x S.length=(S++[x]).length:=by
 rw [mzP,mN,if_neg h]; simp
theorem al_toB {r r':List EnD} {f:FuncId} {args:Array Value} {w:World} (h:r=r') (hc:Calls Try.prog f args w (AlPost r w)):Calls Try.prog f args w (AlPost r' w):=h ▸ hc
theorem tqS_getB {E:List EnD} {k:Nat} (h:k < E.length):(E.map tqS)[k]? =some (.string (qkF (E.getD k en0).1)):=by simp [tqS,h]
theorem fst_take {E:List EnD} {i:Nat} (h:i < E.length):(E.take (i+1)).map (fun e=>e.1)=(E.take i).map (fun e=>e.1)++[(E.getD i en0).1]:=by rw [take_getD h,List.map_append]; rfl
theorem nodup_next {E:List EnD} {i:Nat} (hd:(E.map fun e=>e.1).Nodup) (h:i < E.length):(E.getD i en0).1∉(E.take i).map fun e=>e.1:=fun hm=>by
 have h2:=hd
 rw [← List.take_append_drop (i+1) E,List.map_append,fst_take h] at h2
 have h3:=(List.nodup_append.1 h2).1
 exact (List.nodup_append.1 h3).2.2 _ hm _ (by simp) rfl
theorem lall_any (bk:Nat) (A:Option Addr) (n c m:Nat) (l:List Int) (ps:List PgS) (w:World) (hB:BkAt w bk ps) (hps:ps.length≤1000) (hok:OkS ps) (hoc:OkC ps) (hA:At w A (l.map (Value.int .i64))) (hn:l.length=n) (hn9:n≤90) (hm9:m≤90) (hlen:(allF ps 0).length=n+m) (hnd:((allF ps 0).map fun e=>e.1).Nodup) (hin:∀ j,j < n→entG l j∈(allF ps 0).map fun e=>e.1) (hent:∀ i,i < (allF ps 0).length→entF (qkF ((allF ps 0).getD i en0).1) (opF ((allF ps 0).getD i en0).1) (osF ((allF ps 0).getD i en0).1)=((allF ps 0).getD i en0).1∧(qkF ((allF ps 0).getD i en0).1).size≤1000):
  Calls Try.prog 38 #[.pointer (some ⟨bk,0,none⟩), .slice A n c, .int .i64 ((m:Int))] w (Ret (.bool true) w):=by
 go_enter Try.func38,Try.ntmps38
 have hst0:=St.start w
 refine wp_seq (sqr (sqp [.k 6 (.bool false)] ?_))
 refine then_normal (wp_seq ?_)
 obtain ⟨E,hE⟩:∃ z,allF ps 0=z:=⟨_,rfl⟩
 rw [hE] at hent hnd hin hlen
 have hEl_:E.length≤1000:=by omega
 refine wp_region_Y [0,1,3,7,15,15,31,127] [] [[],[],[0,1]] [] [.k 13 (vp bk), .c 14 (.iface 24 (vp bk)), .a 15, .a 12, .a 16, .a 17, .a 7, .a 8] (fun ix σ β X=>match ix with | 0=>True | 1=>True | 2=>σ 15= .tuple #[.slice (sA (tg (β 15) 0)) E.length (sC (tg (β 15) 0)), .slice (sA (tg (β 15) 1)) E.length (sC (tg (β 15) 1))]∧X 0=eO 9 1 (.slice (sA (tg (β 15) 0)) E.length (sC (tg (β 15) 0))) E.length (E.map tqS)∧X 1=eO 31 2 (.slice (sA (tg (β 15) 1)) E.length (sC (tg (β 15) 1))) E.length (E.flatMap tqR) | 3=>σ 12= .tuple #[.slice (sA (tg (β 15) 0)) E.length (sC (tg (β 15) 0)), .slice (sA (tg (β 15) 1)) E.length (sC (tg (β 15) 1))] | 4=>σ 16= .slice (sA (tg (β 15) 0)) E.length (sC (tg (β 15) 0)) | 5=>σ 17= .slice (sA (tg (β 15) 1)) E.length (sC (tg (β 15) 1)) | 6=>σ 7= .slice (sA (tg (β 15) 0)) E.length (sC (tg (β 15) 0)) | 7=>σ 8= .slice (sA (tg (β 15) 1)) E.length (sC (tg (β 15) 1)) | _=>True) [0,1] [1,2,3,4,5,6,7] [(7,6,2,9),(3,3,1,4),(0,0,3,3),(0,4,2,2)] hst0 ?_ ?_ ?_
 ·exact fun ix _ _ _ _ _ _ hs hb hx h=>match ix,h with
  | 2,h=>by dsimp only; rw [← hs 15 rfl,← hb 15 rfl,← hx 0 rfl,← hx 1 rfl]; exact h
  | 3,h=>by dsimp only; rw [← hs 12 rfl,← hb 15 rfl]; exact h
  | 4,h=>by dsimp only; rw [← hs 16 rfl,← hb 15 rfl]; exact h
  | 5,h=>by dsimp only; rw [← hs 17 rfl,← hb 15 rfl]; exact h
  | 6,h=>by dsimp only; rw [← hs 7 rfl,← hb 15 rfl]; exact h
  | 7,h=>by dsimp only; rw [← hs 8 rfl,← hb 15 rfl]; exact h
  | 0, _ | 1, _ | _+8, _=>trivial
 ·refine ⟨?_,?_,?_,?_,?_,?_,?_,trivial⟩
  ·exact sv0 rfl rfl rfl rfl rfl (fun _ _ _ h=>h) fun ρ β W X cx=>by
    have fF13:ρ (.tmp 13)=vp bk:=(cx.an 0)
    simp [go_sem,fF13]
  ·refine svA fun ρ β W X cx=>?_
   refine DoesU.call (run_callF (args:=#[.iface 24 (vp bk),vi 0]) rfl cx.sees rfl (by kernel_rfl) (map2 (cx.an 1) (cx.co _))) ?_
   refine (al_toB hE (kall_g _ _ 0 ps _ (book_ok (hB.ext cx.upd.to_ext) hps) hok hoc)).mono ?_
   rintro e W1 ⟨KA4,kc4,RA4,rc4,rfl,hs4⟩
   refine ⟨_,rfl,post_st [eO 9 1 (.slice KA4 E.length kc4) E.length (E.map tqS),eO 31 2 (.slice RA4 E.length rc4) E.length (E.flatMap tqR)] rfl rfl hs4 (fun σ β' X' hs hb hv hN=>?_)⟩
   have hv1:=(hv 15 rfl).1; have hv2:=(hv 15 rfl).2
   exact ⟨hv1.trans (by rw [hv2]; rfl),(by rw [hv2]; exact (List.cons.inj hN).1),(by rw [hv2]; exact (List.cons.inj (List.cons.inj hN).2).1)⟩
  ·exact sv rfl rfl rfl rfl rfl _ (fun _ _ _ h=>h) (fun β β' h=>by rw [h 15 (by decide)]) fun ρ β W X cx=>run_move' rfl (dTn (cx.an 2)).1
  ·exact sv rfl rfl rfl rfl rfl _ (fun _ _ _ h=>h) (fun β β' h=>by rw [h 15 (by decide)]) fun ρ β W X cx=>run_extract' rfl (dTn (cx.an 3)) rfl
  ·exact sv rfl rfl rfl rfl rfl _ (fun _ _ _ h=>h) (fun β β' h=>by rw [h 15 (by decide)]) fun ρ β W X cx=>run_extract' rfl (dTn (cx.an 3)) rfl
  ·exact sv rfl rfl rfl rfl rfl _ (fun _ _ _ h=>h) (fun β β' h=>by rw [h 15 (by decide)]) fun ρ β W X cx=>run_assign' rfl (dTn (cx.an 4))
  ·exact sv rfl rfl rfl rfl rfl _ (fun _ _ _ h=>h) (fun β β' h=>by rw [h 15 (by decide)]) fun ρ β W X cx=>run_assign' rfl (dTn (cx.an 5))
 intro σ β X W2 hD hst2 fr hfr
 obtain ⟨KA15_2,hu_KA15_2⟩:∃ z,sA (tg (β 15) 0)=z:=⟨_,rfl⟩
 obtain ⟨cKA15_2,hu_cKA15_2⟩:∃ z,sC (tg (β 15) 0)=z:=⟨_,rfl⟩
 obtain ⟨RA15_2,hu_RA15_2⟩:∃ z,sA (tg (β 15) 1)=z:=⟨_,rfl⟩
 obtain ⟨cRA15_2,hu_cRA15_2⟩:∃ z,sC (tg (β 15) 1)=z:=⟨_,rfl⟩
 simp only [exq 0 ((dTn (hD 2 lq)).2.1),exq 1 ((dTn (hD 2 lq)).2.2),hu_KA15_2,hu_cKA15_2,hu_RA15_2,hu_cRA15_2] at hst2
 simp only [ed 15 ((dTn (hD 2 lq)).1),ed 12 ((dTn (hD 3 lq))),ed 16 ((dTn (hD 4 lq))),ed 17 ((dTn (hD 5 lq))),ed 7 ((dTn (hD 6 lq))),ed 8 ((dTn (hD 7 lq))),hu_KA15_2,hu_cKA15_2,hu_RA15_2,hu_cRA15_2] at hfr
 clear hD hu_KA15_2 hu_cKA15_2 hu_RA15_2 hu_cRA15_2; subst hfr; clear σ β X
 refine then_normal (wp_seq (sqr ?_))
 refine sqn1 (fun x_=>pbx x_) (fun M18_3=> .map (some M18_3)) (fun M18_3=>eMx kcS ecI Try.prog 9 M18_3 0 (fun _=>none)) hst2 (by
   refine svA fun ρ β W X cx=>?_
   exact dv_makeMx rfl rfl rfl rfl (fun σ β' X' hs hb hv hx=>⟨hv,hx⟩)) fun M18_3 W3 hst3=>?_
 refine sqp [.m 9 18] ?_
 refine then_normal (wp_seq (wp_seq (sqr (sqp [.k 10 (vi 0)] ?_))))
 refine then_normal (wp_block ?_)
 rw [mN_nil] at hst3
 refine wp_loopT (fun t_ mz az W=>∃ i:Nat,∃ S:List ByteArray,i≤E.length∧(S=(E.take i).map fun e=>e.1)∧mz=E.length - i∧az=⟨(ovr (jv az) [(10,10,0,[vi ((i:Int))]),(8,19,24,[])] t_).toArray,[]⟩∧St w [] [eO 9 1 (.slice KA15_2 E.length cKA15_2) E.length (E.map tqS),eO 31 2 (.slice RA15_2 E.length cRA15_2) E.length (E.flatMap tqR),eMx kcS ecI Try.prog 9 M18_3 S.length (mN S)] W) (E.length - 0) ?_ ?_
 · -- the loop begins
   exact ⟨0,[],Nat.zero_le _,rfl,rfl,(by kernel_rfl),hst3.pk [0,1,2]⟩
 rintro n6 a6 W6 ⟨i,S,hi,hS,rfl,hj_,hst6⟩
 refine ovz hj_ fun u6_=>?_
 refine wp_seq (wp_seq (sqr (sqp [.m 19 10, .m 20 7, .k 21 (vi ((E.length:Int))), .k 22 (.bool (decide ((i:Int) < (E.length:Int)))), .m 23 22] ?_)))
 refine sqw 23 [24,25,26,27] rfl (fun _=>sqp [.m 24 10, .m 25 8, .k 26 (vi ((E.length:Int))), .k 27 (.bool (decide ((i:Int) < (E.length:Int))))] sqe) ?_
 refine sqp [sPa 28 (decide ((i:Int) < (E.length:Int))) (decide ((i:Int) < (E.length:Int)))] ?_
 refine then_normal (wbs (fun hs17=>?_) fun hs17=>?_)
 ·have hs17p:=hs17
  simp only [zB] at hs17p
  obtain ⟨hs17p1,hs17p2⟩:=hs17p
  refine wp_skip (then_normal (wp_seq (wp_block ?_)))
  obtain ⟨he1_,he2_⟩:=hent i (by omega)
  have hxz_:kcS.ok (entF (qkF (E.getD i en0).1) (opF (E.getD i en0).1) (osF (E.getD i en0).1)):=by show (entF _ _ _).size≤100000000; rw [entF_size]; omega
  have hSl_:S.length≤1000:=by rw [hS,List.length_map,List.length_take]; omega
  have hn0_:nB S (entF (qkF (E.getD i en0).1) (opF (E.getD i en0).1) (osF (E.getD i en0).1))=0:=by rw [he1_]; exact nB_no (by rw [hS]; exact nodup_next hnd (by omega))
  refine wp_region_Y [0,0,0,6,14,0,0,96,224,510,1023,2047,4095] [[],[],[],[0],[0],[],[],[1],[1],[],[2],[],[2]] [[],[],[],[],[],[],[],[],[],[],[],[],[3]] [[],[],[],[],[],[],[],[],[],[],[],[],[2]] [.k 31 (.map (some M18_3)), .k 32 (.slice KA15_2 E.length cKA15_2), .k 33 (vi ((i:Int))), .c 34 (.pointer (some ((ad KA15_2).add i))), .c 35 (.string (qkF (E.getD i en0).1)), .k 36 (.slice RA15_2 E.length cRA15_2), .k 37 (vi ((i:Int))), .c 38 (.pointer (some ((ad RA15_2).add (i*2)))), .c 39 (.agg #[vi (opF (E.getD i en0).1),vi (osF (E.getD i en0).1)]), .c 40 (.string (entF (qkF (E.getD i en0).1) (opF (E.getD i en0).1) (osF (E.getD i en0).1))), .c 41 (vi (nB S (entF (qkF (E.getD i en0).1) (opF (E.getD i en0).1) (osF (E.getD i en0).1)))),tI 42 ((nB S (entF (qkF (E.getD i en0).1) (opF (E.getD i en0).1) (osF (E.getD i en0).1)))+1) (by omega), .n] (fun ix σ β X=>match ix with | 0=>True | 1=>True | 2=>True | 3=>True | 4=>True | 5=>True | 6=>True | 7=>True | 8=>True | 9=>True | 10=>True | 11=>True | 12=>X 3=eMx kcS ecI Try.prog 9 M18_3 ((mzP (mN S) (entF (qkF (E.getD i en0).1) (opF (E.getD i en0).1) (osF (E.getD i en0).1)) S.length)) (putX (mN S) (entF (qkF (E.getD i en0).1) (opF (E.getD i en0).1) (osF (E.getD i en0).1)) (some (nB S (entF (qkF (E.getD i en0).1) (opF (E.getD i en0).1) (osF (E.getD i en0).1))+1))) | _=>True) [0,1,3] [3,4,7,8,9,10,12] [(31,0,12,43)] hst6 ?_ ?_ ?_
  ·exact fun ix _ _ _ _ _ _ hs hb hx h=>match ix,h with
   | 12,h=>by dsimp only; rw [← hx 3 rfl]; exact h
   | 0, _ | 1, _ | 2, _ | 3, _ | 4, _ | 5, _ | 6, _ | 7, _ | 8, _ | 9, _ | 10, _ | 11, _ | _+13, _=>trivial
  ·refine ⟨?_,?_,?_,?_,?_,?_,?_,trivial⟩
   ·exact xs4 rfl id fun cx=>run_indexSl (e:=9) (m:=i) rfl (by kernel_rfl) (by kernel_rfl) (cx.an 1) (cx.an 2) (by omega) (by omega) (At.of_own (cx.ri 0 rfl)) (by rw [List.length_map]<;>omega)
   ·exact xs4 rfl id fun cx=>run_load1 rfl (by kernel_rfl) (cx.an 3) (At.cellAd (At.of_own (cx.ri 0 rfl)) (tqS_getB (by omega)))
   ·exact xs4 rfl id fun cx=>run_indexSlM (e:=31) (m:=i) (sz:=2) rfl (by kernel_rfl) (by kernel_rfl) (cx.an 5) (cx.an 6) (by omega) (by omega) (At.of_ownN (cx.ri 1 rfl)) (flatPos (sz:=2) tqR_len (by decide) (by omega))
   ·exact xs4 rfl id fun cx=>run_loadElt (f:=tqR) (m:=i) (sz:=2) (off:=0) (n:=2) rfl (by kernel_rfl) (by kernel_rfl) (cx.an 7) rfl tqR_len (At.of_ownN (cx.ri 1 rfl)) (en_get (by omega)) (fun k hk=>match k,hk with | 0, _=>rfl | 1, _=>rfl | k+2,hk=>absurd hk (by omega))
   ·exact xsc rfl id rfl rfl fun cx=>⟨_,kentry_any (qkF (E.getD i en0).1) (opF (E.getD i en0).1) (osF (E.getD i en0).1) _ (by omega),(map2 (cx.an 4) (cx.an 8))⟩
   ·exact xs4 rfl id fun cx=>run_lookMx (e:=3) (C:=ecI) (K:=kcS) (x:=(entF (qkF (E.getD i en0).1) (opF (E.getD i en0).1) (osF (E.getD i en0).1))) rfl (cx.an 0) (cx.an 9) (CtxV.mx cx (cx.init 2 _ rfl) rfl) (h0:=(by rfl)) (hx:=hxz_) (hk:=show Program.underlying _ _= _ from by kernel_rfl)
   ·refine svA fun ρ β W X cx=>?_
    exact dv_setMx (e:=3) (v:=(nB S (entF (qkF (E.getD i en0).1) (opF (E.getD i en0).1) (osF (E.getD i en0).1))+1)) (.inl rfl) (cx.an 0) (show ρ _=Kc.enc kcS (entF (qkF (E.getD i en0).1) (opF (E.getD i en0).1) (osF (E.getD i en0).1)) from (cx.an 9)) (show ρ _=Ec.enc ecI (nB S (entF (qkF (E.getD i en0).1) (opF (E.getD i en0).1) (osF (E.getD i en0).1))+1) from (cx.an 11)) cx (cx.init 2 _ rfl) rfl ((by constructor<;>omega)) (by omega) (hxz_) rfl rfl rfl (fun σ β' X' hs hb hx=>hx) (hk:=show Program.underlying _ _= _ from by kernel_rfl)
  intro σ β X W18 hD hst18 fr hfr
  simp only [exq 3 ((dTn (hD 12 lq)))] at hst18
  clear hD; subst hfr; clear σ β X
  refine blk_normal (then_normal (sqr (sqp [.m 29 10,sI 30 ((i:Int)+1) (by omega), .m 10 30] ?_)))
  refine then_normal ?_
  have hnx_:=nodup_next hnd (i:=i) (by omega)
  have hni_:S.length=i:=by rw [hS,List.length_map,List.length_take]; omega
  rw [← hS] at hnx_
  rw [he1_,nB_no hnx_,show (0:Int)+1=1 from rfl,mN_put,mN_size hnx_] at hst18
  refine ⟨E.length - ((i+1)),by omega,?_⟩
  exact ⟨(i+1),(S++[(E.getD i en0).1]),by omega,by rw [hS,fst_take (by omega)],rfl,(by kernel_rfl),hst18.pk [0,1,2]⟩
 have hs17p:=hs17
 simp only [zB] at hs17p
 refine wp_exit (then_exit (then_exit (blk_eq (then_normal (wp_seq (wp_seq (sqr (sqp [.k 11 (vi 0)] ?_))))))))
 refine then_normal (wp_block ?_)
 have hSf_:S=E.map fun e=>e.1:=by rw [hS,List.take_of_length_le (by omega)]
 refine wp_loopT (fun t_ mz az W=>∃ j:Nat,j≤n∧mz=n - j∧az=⟨(ovr (jv az) [(6,6,1,[]),(4,11,0,[vi ((j:Int))]),(31,43,17,[])] t_).toArray,[]⟩∧St w [] [eO 9 1 (.slice KA15_2 E.length cKA15_2) E.length (E.map tqS),eO 31 2 (.slice RA15_2 E.length cRA15_2) E.length (E.flatMap tqR),eMx kcS ecI Try.prog 9 M18_3 S.length (mN S)] W) (n - 0) ?_ ?_
 · -- the loop begins
   exact ⟨0,Nat.zero_le _,rfl,(by kernel_rfl),hst6.pk [0,1,2]⟩
 rintro n23 a23 W23 ⟨j,hj,rfl,hj_,hst23⟩
 refine ovz hj_ fun u23_=>?_
 refine wp_seq (wp_seq (sqr (sqp [.m 43 11, .m 44 1, .k 45 (vi ((n:Int))), .k 46 (.bool (decide ((j:Int) < (n:Int))))] ?_)))
 refine then_normal (wds (fun hs28 hs28p=>?_) fun hs28 hs28p=>?_)
 ·refine wp_skip (then_normal (wp_seq (wp_block (wp_seq ?_))))
  have hxz_:kcS.ok (entF (keyF (l.getD j 0)) (1+(j:Int) / 8) (1+(j:Int) % 8)):=by show (entF _ _ _).size≤100000000; rw [entF_size]; have:=keyF_size (l.getD j 0); omega
  have hin_:nB S (entF (keyF (l.getD j 0)) (1+(j:Int) / 8) (1+(j:Int) % 8))=1:=nB_in (by rw [hSf_]; exact hin j (by omega))
  refine sqr (sqp [.m 49 9, .m 50 1, .m 51 11] ?_)
  refine sql (.pointer (some ((ad A).add j))) hst23 (fun cx=>run_indexSl (e:=3) (m:=j) rfl (by kernel_rfl) (by kernel_rfl) (cx.ou 50) (cx.ou 51) (by omega) (by omega) (hA.ext cx.upd.to_ext) (by rw [List.length_map]<;>omega)) ?_
  refine sql (vi (l.getD j 0)) hst23 (fun cx=>run_load1 rfl (by kernel_rfl) (cx.ou 52) (At.cellAd (hA.ext cx.upd.to_ext) (getD_int (by omega)))) ?_
  refine sqk (.string (keyF (l.getD j 0))) hst23 (fun cx=>⟨_,rkey_any (l.getD j 0) _,(map1 (cx.ou 53))⟩) fun W34 hst34=>?_
  refine sqp [.m 55 11] ?_
  refine sqk (.agg #[vi (1+(j:Int) / 8),vi (1+(j:Int) % 8)]) hst34 (fun cx=>⟨_,lref_any j _ (by omega),(map1 (cx.ou 55))⟩) fun W36 hst36=>?_
  refine sqk (.string (entF (keyF (l.getD j 0)) (1+(j:Int) / 8) (1+(j:Int) % 8))) hst36 (fun cx=>⟨_,rentry_any (keyF (l.getD j 0)) (1+(j:Int) / 8) (1+(j:Int) % 8) _ (Nat.le_trans (keyF_size _) (by decide)),(map2 (cx.ou 54) (cx.ou 56))⟩) fun W37 hst37=>?_
  refine sql (vi (nB S (entF (keyF (l.getD j 0)) (1+(j:Int) / 8) (1+(j:Int) % 8)))) hst37 (fun cx=>run_lookMx (e:=3) (C:=ecI) (K:=kcS) (x:=(entF (keyF (l.getD j 0)) (1+(j:Int) / 8) (1+(j:Int) % 8))) rfl (cx.ou 49) (cx.ou 57) (CtxV.mx cx (cx.init 2 _ rfl) rfl) (h0:=(by rfl)) (hx:=hxz_) (hk:=show Program.underlying _ _= _ from by kernel_rfl)) ?_
  refine sqp [.k 59 (.bool ((nB S (entF (keyF (l.getD j 0)) (1+(j:Int) / 8) (1+(j:Int) % 8))) != 1))] ?_
  refine then_normal (wbs (fun hs40=>?_) fun hs40=>?_)
  ·have hs40p:=bne_iff_ne.1 hs40
   refine wp_seq (sqr (sqp [.k 6 (.bool false)] ?_))
   refine then_normal (wp_ret (blk_ret (then_ret (then_ret (blk_ret (then_ret ?_))))))
   refine bpr (.bool false) (results_1 Try.results38 rpt) ?_
   exfalso
   rw [hin_] at hs40
   simp at hs40
  have hs40p:=bne_eq_false_iff_eq.1 hs40
  refine wp_skip (blk_normal (then_normal (sqr (sqp [.m 47 11,sI 48 ((j:Int)+1) (by omega), .m 11 48] ?_))))
  refine then_normal ?_
  refine ⟨n - ((j+1)),by omega,?_⟩
  exact ⟨(j+1),by omega,rfl,(by kernel_rfl),hst37.pk [0,1,2]⟩
 refine wp_exit (then_exit (then_exit (blk_eq (then_normal (wp_seq (sqr (sqp [.m 60 7, .k 61 (vi ((E.length:Int))), .m 62 1, .k 63 (vi ((n:Int))), .m 64 2,sI 65 ((n:Int)+(m:Int)) (by omega), .k 66 (.bool ((E.length:Int)==((n:Int)+(m:Int)))), .m 67 66] ?_)))))))
 refine sqw' 67 [68,69,70,71,72] ?_ rfl (fun hq=>?_) ?_
 rotate_left
 ·refine sqp [.m 68 9] ?_
  refine sql (vi ((S.length:Int))) hst23 (fun cx=>run_lenMx (e:=3) (m:=(mN S)) (K:=kcS) (C:=ecI) rfl rfl rfl rfl (cx.ou 68) (CtxV.mx cx (cx.init 2 _ rfl) rfl)) ?_
  refine sqp [.m 70 7, .k 71 (vi ((E.length:Int))), .k 72 (.bool ((S.length:Int)==(E.length:Int)))] ?_
  exact sqe
 refine sqwx ?_
 refine sqp [sPa 73 ((E.length:Int)==((n:Int)+(m:Int))) ((S.length:Int)==(E.length:Int)), .m 6 73] ?_
 refine then_normal (wp_ret ?_)
 refine bpr (.bool (((E.length:Int)==((n:Int)+(m:Int)))&&((S.length:Int)==(E.length:Int)))) (results_1 Try.results38 rpt) ?_
 exact Ret.bool (by rw [hSf_,List.length_map]; simp; omega) hst23.ext
end
section
open Go.RowKit Go.Maps
theorem tk_take {E:List ByteArray} {i:Nat} (h:i < E.length):E.take (i+1)=E.take i++[E.getD i ByteArray.empty]:=by rw [List.take_add_one,List.getD_eq_getElem?_getD,List.getElem?_eq_getElem h]; rfl
theorem tk_next {E:List ByteArray} {i:Nat} (hd:E.Nodup) (h:i < E.length):E.getD i ByteArray.empty∉E.take i:=fun hm=>by
 have h2:=hd
 rw [← List.take_append_drop (i+1) E,tk_take h] at h2
 have h3:=(List.nodup_append.1 h2).1
 exact (List.nodup_append.1 h3).2.2 _ hm _ (by simp) rfl
theorem tk_rise {E:List ByteArray} (h:E.Pairwise fun a b=>lessF a b=true):E.Nodup:=h.imp fun {a b} hab e=>by subst e; rw [lessF_irr] at hab; cases hab
theorem tk_less {E:List ByteArray} (h:E.Pairwise fun a b=>lessF a b=true) {i j:Nat} (hij:i < j) (hj:j < E.length):lessF (E.getD i ByteArray.empty) (E.getD j ByteArray.empty)=true:=by
 rw [List.getD_eq_getElem?_getD,List.getD_eq_getElem?_getD,List.getElem?_eq_getElem (by omega),List.getElem?_eq_getElem hj]
 exact List.pairwise_iff_getElem.1 h i j (by omega) hj hij
theorem tk_mem {E:List ByteArray} {i:Nat} (h:i < E.length):E.getD i ByteArray.empty∈E:=by rw [List.getD_eq_getElem?_getD,List.getElem?_eq_getElem h]; exact List.getElem_mem h
theorem lcame_any (TA A:Option Addr) (tc n c:Nat) (told:List ByteArray) (l:List Int) (x:Int) (w:World) (hT:At w TA (told.map Value.string)) (hTl:told.length≤1000) (hA:At w A (l.map (Value.int .i64))) (hn:l.length=n) (hn9:n≤90) (htz:∀ t∈told,t.size≤1000) (hrise:told.Pairwise fun a b=>lessF a b=true) (hcnt:∀ j,j < n→(ltB (keyF (l.getD j 0)) (keyF x)=true→entG l j∉told)∧(ltB (keyF (l.getD j 0)) (keyF x)=false→entG l j∈told)):
  Calls Try.prog 39 #[.slice TA told.length tc, .slice A n c, .int .i64 x] w (Ret (.bool true) w):=by
 go_enter Try.func39,Try.ntmps39
 have hst0:=St.start w
 refine wp_seq (sqr (sqp [.k 6 (.bool false)] ?_))
 refine then_normal (wp_seq (sqr ?_))
 refine sqn1 (fun x_=>pbx x_) (fun M13_2=> .map (some M13_2)) (fun M13_2=>eMx kcS ecI Try.prog 9 M13_2 0 (fun _=>none)) hst0 (by
   refine svA fun ρ β W X cx=>?_
   exact dv_makeMx rfl rfl rfl rfl (fun σ β' X' hs hb hv hx=>⟨hv,hx⟩)) fun M13_2 W2 hst2=>?_
 refine sqp [.m 7 13] ?_
 refine then_normal (wp_seq (wp_seq (sqr (sqp [.k 8 (vi 0)] ?_))))
 refine then_normal (wp_block ?_)
 rw [mN_nil] at hst2
 have hnd:=tk_rise hrise
 refine wp_loopT (fun t_ mz az W=>∃ i:Nat,∃ S:List ByteArray,i≤told.length∧S=told.take i∧mz=told.length - i∧az=⟨(ovr (jv az) [(6,6,1,[]),(1,8,0,[vi ((i:Int))]),(0,9,1,[]),(4,14,27,[])] t_).toArray,[]⟩∧St w [] [eMx kcS ecI Try.prog 9 M13_2 S.length (mN S)] W) (told.length - 0) ?_ ?_
 · -- the loop begins
   exact ⟨0,[],Nat.zero_le _,rfl,rfl,(by kernel_rfl),hst2.pk [0]⟩
 rintro n5 a5 W5 ⟨i,S,hi,hS,rfl,hj_,hst5⟩
 refine ovz hj_ fun u5_=>?_
 refine wp_seq (wp_seq (sqr (sqp [.m 14 8, .m 15 0, .k 16 (vi ((told.length:Int))), .k 17 (.bool (decide ((i:Int) < (told.length:Int))))] ?_)))
 refine then_normal (wds (fun hs10 hs10p=>?_) fun hs10 hs10p=>?_)
 ·refine wp_skip (then_normal (wp_seq (wp_block (wp_seq ?_))))
  have htz_:=htz _ (tk_mem (E:=told) (i:=i) (by omega))
  have hxz_:kcS.ok (told.getD i ByteArray.empty):=by show _≤100000000; omega
  have hSl_:S.length≤1000:=by rw [hS,List.length_take]; omega
  have hnx_:(told.getD i ByteArray.empty)∉S:=by rw [hS]; exact tk_next hnd (by omega)
  have hn0_:=nB_no hnx_
  refine sqr (sqp [.m 20 7, .m 21 0, .m 22 8] ?_)
  refine sql (.pointer (some ((ad TA).add i))) hst5 (fun cx=>run_indexSl (e:=9) (m:=i) rfl (by kernel_rfl) (by kernel_rfl) (cx.ou 21) (cx.ou 22) (by omega) (by omega) (hT.ext cx.upd.to_ext) (by rw [List.length_map]<;>omega)) ?_
  refine sql (.string (told.getD i ByteArray.empty)) hst5 (fun cx=>run_load1 rfl (by kernel_rfl) (cx.ou 23) (At.cellAd (hT.ext cx.upd.to_ext) (getD_str (by omega)))) ?_
  refine sql (vi (nB S (told.getD i ByteArray.empty))) hst5 (fun cx=>run_lookMx (e:=3) (C:=ecI) (K:=kcS) (x:=(told.getD i ByteArray.empty)) rfl (cx.ou 20) (cx.ou 24) (CtxV.mx cx (cx.init 0 _ rfl) rfl) (h0:=(by rfl)) (hx:=hxz_) (hk:=show Program.underlying _ _= _ from by kernel_rfl)) ?_
  refine sqp [sI 26 ((nB S (told.getD i ByteArray.empty))+1) (by omega)] ?_
  refine sqc (eMx kcS ecI Try.prog 9 M13_2 ((mzP (mN S) (told.getD i ByteArray.empty) S.length)) (putX (mN S) (told.getD i ByteArray.empty) (some (nB S (told.getD i ByteArray.empty)+1)))) 0 hst5 (by
    refine svA fun ρ β W X cx=>?_
    exact dv_setMx (e:=3) (v:=(nB S (told.getD i ByteArray.empty)+1)) (.inl rfl) (cx.ou 20) (show ρ _=Kc.enc kcS (told.getD i ByteArray.empty) from (cx.ou 24)) (show ρ _=Ec.enc ecI (nB S (told.getD i ByteArray.empty)+1) from (cx.ou 26)) cx (cx.init 0 _ rfl) rfl ((by constructor<;>omega)) (by omega) (hxz_) rfl rfl rfl (fun σ β' X' hs hb hx=>hx) (hk:=show Program.underlying _ _= _ from by kernel_rfl)) fun W18 hst18=>?_
  refine then_normal (wp_seq ?_)
  rw [hn0_,show (0:Int)+1=1 from rfl,mN_put,mN_size hnx_] at hst18
  refine sqr (sqp [.m 27 8, .k 28 (.bool (decide (0 < (i:Int))))] ?_)
  refine then_normal (wds (fun hs21 hs21p=>?_) fun hs21 hs21p=>?_)
  ·refine wp_seq ?_
   have hle_:=tk_less hrise (i:=((i:Int) - 1).toNat) (j:=i) (by omega) (by omega)
   have htp_:=htz _ (tk_mem (E:=told) (i:=((i:Int) - 1).toNat) (by omega))
   refine wp_region_Z [0,0,2,7,15,0,0,96,224,511,1023] [] [.k 29 (.slice TA told.length tc), .k 30 (vi ((i:Int))),tI 31 ((i:Int) - 1) (by omega), .c 32 (.pointer (some ((ad TA).add (((i:Int) - 1).toNat)))), .c 33 (.string (told.getD (((i:Int) - 1).toNat) ByteArray.empty)), .k 34 (.slice TA told.length tc), .k 35 (vi ((i:Int))), .c 36 (.pointer (some ((ad TA).add i))), .c 37 (.string (told.getD i ByteArray.empty)), .c 38 (.bool (lessF (told.getD (((i:Int) - 1).toNat) ByteArray.empty) (told.getD i ByteArray.empty))), .k 9 (.bool (lessF (told.getD (((i:Int) - 1).toNat) ByteArray.empty) (told.getD i ByteArray.empty)))] [0] [3,4,7,8,9] [(9,10,1,10),(19,0,10,29)] hst18 ?_ fun W22 hst22=>?_
   ·refine ⟨?_,?_,?_,?_,?_,trivial⟩
    ·exact xs4 rfl id fun cx=>run_indexSl (e:=9) (m:=((i:Int) - 1).toNat) rfl (by kernel_rfl) (by kernel_rfl) (cx.an 0) (cx.an 2) (by omega) (by omega) (hT.ext cx.upd.to_ext) (by rw [List.length_map]<;>omega)
    ·exact xs4 rfl id fun cx=>run_load1 rfl (by kernel_rfl) (cx.an 3) (At.cellAd (hT.ext cx.upd.to_ext) (getD_str (by omega)))
    ·exact xs4 rfl id fun cx=>run_indexSl (e:=9) (m:=i) rfl (by kernel_rfl) (by kernel_rfl) (cx.an 5) (cx.an 6) (by omega) (by omega) (hT.ext cx.upd.to_ext) (by rw [List.length_map]<;>omega)
    ·exact xs4 rfl id fun cx=>run_load1 rfl (by kernel_rfl) (cx.an 7) (At.cellAd (hT.ext cx.upd.to_ext) (getD_str (by omega)))
    ·exact xsc rfl id rfl rfl fun cx=>⟨_,rless_any (told.getD (((i:Int) - 1).toNat) ByteArray.empty) (told.getD i ByteArray.empty) _ (by omega) (by omega),(map2 (cx.an 4) (cx.an 8))⟩
   refine then_normal (wp_seq (sqr (sqp [.m 39 9, .k 40 (.bool (!(lessF (told.getD (((i:Int) - 1).toNat) ByteArray.empty) (told.getD i ByteArray.empty))))] ?_)))
   refine then_normal ?_
   rcases Bool.eq_false_or_eq_true (lessF (told.getD (((i:Int) - 1).toNat) ByteArray.empty) (told.getD i ByteArray.empty)) with hs25 | hs25
   ·refine wp_cond_false (show Act.eval _ _= .bool false from (congrArg Value.bool (by rw [hs25]; rfl))) (wp_skip (blk_normal (then_normal (sqr (sqp [.m 18 8,sI 19 ((i:Int)+1) (by omega), .m 8 19] ?_)))))
    refine then_normal ?_
    refine ⟨told.length - ((i+1)),by omega,?_⟩
    exact ⟨(i+1),(S++[(told.getD i ByteArray.empty)]),by omega,by rw [hS,tk_take (by omega)],rfl,(by kernel_rfl),hst22.pk [0]⟩
   refine wp_cond_true (show Act.eval _ _= .bool true from (congrArg Value.bool (by rw [hs25]; rfl))) (wp_seq (sqr (sqp [.k 6 (.bool false)] ?_)))
   refine then_normal (wp_ret (blk_ret (then_ret (then_ret (blk_ret (then_ret ?_))))))
   refine bpr (.bool false) (results_1 Try.results39 rpt) ?_
   exfalso
   rw [hle_] at hs25
   simp at hs25
  refine wp_skip (blk_normal (then_normal (sqr (sqp [.m 18 8,sI 19 ((i:Int)+1) (by omega), .m 8 19] ?_))))
  refine then_normal ?_
  refine ⟨told.length - ((i+1)),by omega,?_⟩
  exact ⟨(i+1),(S++[(told.getD i ByteArray.empty)]),by omega,by rw [hS,tk_take (by omega)],rfl,(by kernel_rfl),hst18.pk [0]⟩
 refine wp_exit (then_exit (then_exit (blk_eq (then_normal (wp_seq (wp_seq (sqr (sqp [.k 10 (vi 0)] ?_))))))))
 refine then_normal (wp_block ?_)
 have hSf_:S=told:=by rw [hS,List.take_of_length_le (by omega)]
 refine wp_loopT (fun t_ mz az W=>∃ j:Nat,j≤n∧mz=n - j∧az=⟨(ovr (jv az) [(6,6,1,[]),(3,10,0,[vi ((j:Int))]),(0,11,2,[]),(28,41,27,[])] t_).toArray,[]⟩∧St w [] [eMx kcS ecI Try.prog 9 M13_2 S.length (mN S)] W) (n - 0) ?_ ?_
 · -- the loop begins
   exact ⟨0,Nat.zero_le _,rfl,(by kernel_rfl),hst5.pk [0]⟩
 rintro n34 a34 W34 ⟨j,hj,rfl,hj_,hst34⟩
 refine ovz hj_ fun u34_=>?_
 refine wp_seq (wp_seq (sqr (sqp [.m 41 10, .m 42 1, .k 43 (vi ((n:Int))), .k 44 (.bool (decide ((j:Int) < (n:Int))))] ?_)))
 refine then_normal (wds (fun hs39 hs39p=>?_) fun hs39 hs39p=>?_)
 ·refine wp_skip (then_normal (wp_seq (wp_block (wp_seq (sqr (sqp [.m 47 1, .m 48 10] ?_))))))
  refine sql (.pointer (some ((ad A).add j))) hst34 (fun cx=>run_indexSl (e:=3) (m:=j) rfl (by kernel_rfl) (by kernel_rfl) (cx.ou 47) (cx.ou 48) (by omega) (by omega) (hA.ext cx.upd.to_ext) (by rw [List.length_map]<;>omega)) ?_
  refine sql (vi (l.getD j 0)) hst34 (fun cx=>run_load1 rfl (by kernel_rfl) (cx.ou 49) (At.cellAd (hA.ext cx.upd.to_ext) (getD_int (by omega)))) ?_
  refine sqk (.string (keyF (l.getD j 0))) hst34 (fun cx=>⟨_,rkey_any (l.getD j 0) _,(map1 (cx.ou 50))⟩) fun W44 hst44=>?_
  refine sqp [.m 52 10] ?_
  refine sqk (.agg #[vi (1+(j:Int) / 8),vi (1+(j:Int) % 8)]) hst44 (fun cx=>⟨_,lref_any j _ (by omega),(map1 (cx.ou 52))⟩) fun W46 hst46=>?_
  refine sqk (.string (entF (keyF (l.getD j 0)) (1+(j:Int) / 8) (1+(j:Int) % 8))) hst46 (fun cx=>⟨_,rentry_any (keyF (l.getD j 0)) (1+(j:Int) / 8) (1+(j:Int) % 8) _ (Nat.le_trans (keyF_size _) (by decide)),(map2 (cx.ou 51) (cx.ou 53))⟩) fun W47 hst47=>?_
  refine sqp [.m 11 54] ?_
  refine then_normal (wp_seq (sqr (sqp [.k 12 (vi 1)] ?_)))
  refine then_normal (wp_seq (wp_seq (sqr (sqp [.m 55 1, .m 56 10] ?_))))
  refine sql (.pointer (some ((ad A).add j))) hst47 (fun cx=>run_indexSl (e:=3) (m:=j) rfl (by kernel_rfl) (by kernel_rfl) (cx.ou 55) (cx.ou 56) (by omega) (by omega) (hA.ext cx.upd.to_ext) (by rw [List.length_map]<;>omega)) ?_
  refine sql (vi (l.getD j 0)) hst47 (fun cx=>run_load1 rfl (by kernel_rfl) (cx.ou 57) (At.cellAd (hA.ext cx.upd.to_ext) (getD_int (by omega)))) ?_
  refine sqk (.string (keyF (l.getD j 0))) hst47 (fun cx=>⟨_,rkey_any (l.getD j 0) _,(map1 (cx.ou 58))⟩) fun W54 hst54=>?_
  refine sqp [.m 60 2] ?_
  refine sqk (.string (keyF x)) hst54 (fun cx=>⟨_,rkey_any x _,(map1 (cx.ou 60))⟩) fun W56 hst56=>?_
  refine sql (.bool (ltB (keyF (l.getD j 0)) (keyF x))) hst56 (fun cx=>run_strls rfl (cx.ou 59) (cx.ou 61)) ?_
  refine then_normal (wbs (fun hs58=>?_) fun hs58=>?_)
  ·refine sqr (sqp [.k 12 (vi 0)] ?_)
   refine then_normal (wp_seq ?_)
   have hxz_:kcS.ok (entF (keyF (l.getD j 0)) (1+(j:Int) / 8) (1+(j:Int) % 8)):=by show (entF _ _ _).size≤100000000; rw [entF_size]; have:=keyF_size (l.getD j 0); omega
   have hin_:nB S (entF (keyF (l.getD j 0)) (1+(j:Int) / 8) (1+(j:Int) % 8))=0:=nB_no (by rw [hSf_]; exact (hcnt j (by omega)).1 hs58)
   refine sqr (sqp [.m 63 7, .m 64 11] ?_)
   refine sql (vi (nB S (entF (keyF (l.getD j 0)) (1+(j:Int) / 8) (1+(j:Int) % 8)))) hst56 (fun cx=>run_lookMx (e:=3) (C:=ecI) (K:=kcS) (x:=(entF (keyF (l.getD j 0)) (1+(j:Int) / 8) (1+(j:Int) % 8))) rfl (cx.ou 63) (cx.ou 64) (CtxV.mx cx (cx.init 0 _ rfl) rfl) (h0:=(by rfl)) (hx:=hxz_) (hk:=show Program.underlying _ _= _ from by kernel_rfl)) ?_
   refine sqp [.m 66 12, .k 67 (.bool ((nB S (entF (keyF (l.getD j 0)) (1+(j:Int) / 8) (1+(j:Int) % 8))) != 0))] ?_
   refine then_normal (wbs (fun hs65=>?_) fun hs65=>?_)
   ·have hs65p:=bne_iff_ne.1 hs65
    refine wp_seq (sqr (sqp [.k 6 (.bool false)] ?_))
    refine then_normal (wp_ret (blk_ret (then_ret (then_ret (blk_ret (then_ret ?_))))))
    refine bpr (.bool false) (results_1 Try.results39 rpt) ?_
    exfalso
    rw [hin_] at hs65
    simp at hs65
   have hs65p:=bne_eq_false_iff_eq.1 hs65
   refine wp_skip (blk_normal (then_normal (sqr (sqp [.m 45 10,sI 46 ((j:Int)+1) (by omega), .m 10 46] ?_))))
   refine then_normal ?_
   refine ⟨n - ((j+1)),by omega,?_⟩
   exact ⟨(j+1),by omega,rfl,(by kernel_rfl),hst56.pk [0]⟩
  refine wp_skip (then_normal (wp_seq ?_))
  have hxz_:kcS.ok (entF (keyF (l.getD j 0)) (1+(j:Int) / 8) (1+(j:Int) % 8)):=by show (entF _ _ _).size≤100000000; rw [entF_size]; have:=keyF_size (l.getD j 0); omega
  have hin_:nB S (entF (keyF (l.getD j 0)) (1+(j:Int) / 8) (1+(j:Int) % 8))=1:=nB_in (by rw [hSf_]; exact (hcnt j (by omega)).2 hs58)
  refine sqr (sqp [.m 63 7, .m 64 11] ?_)
  refine sql (vi (nB S (entF (keyF (l.getD j 0)) (1+(j:Int) / 8) (1+(j:Int) % 8)))) hst56 (fun cx=>run_lookMx (e:=3) (C:=ecI) (K:=kcS) (x:=(entF (keyF (l.getD j 0)) (1+(j:Int) / 8) (1+(j:Int) % 8))) rfl (cx.ou 63) (cx.ou 64) (CtxV.mx cx (cx.init 0 _ rfl) rfl) (h0:=(by rfl)) (hx:=hxz_) (hk:=show Program.underlying _ _= _ from by kernel_rfl)) ?_
  refine sqp [.m 66 12, .k 67 (.bool ((nB S (entF (keyF (l.getD j 0)) (1+(j:Int) / 8) (1+(j:Int) % 8))) != 1))] ?_
  refine then_normal (wbs (fun hs75=>?_) fun hs75=>?_)
  ·have hs75p:=bne_iff_ne.1 hs75
   refine wp_seq (sqr (sqp [.k 6 (.bool false)] ?_))
   refine then_normal (wp_ret (blk_ret (then_ret (then_ret (blk_ret (then_ret ?_))))))
   refine bpr (.bool false) (results_1 Try.results39 rpt) ?_
   exfalso
   rw [hin_] at hs75
   simp at hs75
  have hs75p:=bne_eq_false_iff_eq.1 hs75
  refine wp_skip (blk_normal (then_normal (sqr (sqp [.m 45 10,sI 46 ((j:Int)+1) (by omega), .m 10 46] ?_))))
  refine then_normal ?_
  refine ⟨n - ((j+1)),by omega,?_⟩
  exact ⟨(j+1),by omega,rfl,(by kernel_rfl),hst56.pk [0]⟩
 refine wp_exit (then_exit (then_exit (blk_eq (then_normal (wp_seq (sqr (sqp [.k 6 (.bool true)] ?_)))))))
 refine then_normal (wp_ret ?_)
 refine bpr (.bool true) (results_1 Try.results39 rpt) ?_
 exact Ret.bool rfl hst34.ext
end
section
open Go.RowKit
/-- the insertions L (block, state), each on its own blocks -/
def sepL:List (Nat×PuT)→List Nat→World→Prop
 | [],fp, _=>fp=[]
 | x::L,fp,W=>∃ f g,fp=f++g∧(∀ k∈f,k∉g)∧(ePk x.1 x.2 f).holds W∧sepL L g W
theorem ePk_keep {b:Nat} {p:PuT} {f:List Nat} {W W':World} (h:(ePk b p f).holds W) (hk:∀ k∈f,W'.heap[k]? =W.heap[k]?):(ePk b p f).holds W':=ePk_loc b p f W W' hk h
theorem sepL_keep:∀ {L:List (Nat×PuT)} {fp:List Nat} {W W':World},sepL L fp W→(∀ k∈fp,W'.heap[k]? =W.heap[k]?)→sepL L fp W'
 | [], _, _, _,h, _=>h
 | x::L,fp,W,W',⟨f,g,h1,h2,h3,h4⟩,hk=>⟨f,g,h1,h2,ePk_keep h3 fun k hkf=>hk k (by simp [h1,hkf]),sepL_keep h4 fun k hkg=>hk k (by simp [h1,hkg])⟩
def ePks (L:List (Nat×PuT)) (fp:List Nat):Ent:=⟨fp,fun W=>sepL L fp W⟩
theorem ePks_loc (L:List (Nat×PuT)) (fp:List Nat):(ePks L fp).loc:=fun W W' hk h=>sepL_keep h hk
theorem ePks_self {e:Ent} {L:List (Nat×PuT)} {fp:List Nat} (h:e=ePks L fp):e=ePks L e.fp:=by subst h; rfl
/-- one of them: its blocks, and what the others are when it has changed -/
theorem sepL_at:∀ {L:List (Nat×PuT)} {fp:List Nat} {w:World} {j:Nat} {b:Nat} {p:PuT},sepL L fp w→L[j]? =some (b,p)→∃ f,(ePk b p f).holds w∧(∀ k∈f,k∈fp)∧
  ∀ (p':PuT) (f':List Nat) (W:World),(ePk b p' f').holds W→(∀ k∈f',k∈f∨k∉fp)→(∀ k∈fp,k∉f→W.heap[k]? =w.heap[k]?)→∃ fp',sepL (L.set j (b,p')) fp' W∧∀ k∈fp',(k∈fp∧k∉f)∨k∈f'
 | [], _, _, _, _, _, _,hj=>by cases hj
 | x::L,fp,w,0,b,p,⟨f,g,h1,h2,h3,h4⟩,hj=>by
   injection hj with hj
   subst hj
   refine ⟨f,h3,fun k hk=>by simp [h1,hk],fun p' f' W hp hf hW=>⟨f'++g,⟨f',g,rfl,fun k hk hkg=>?_,hp,sepL_keep h4 fun k hkg=>hW k (by simp [h1,hkg]) fun hkf=>h2 k hkf hkg⟩,fun k hk=>?_⟩⟩
   ·rcases hf k hk with hk | hk
    ·exact h2 k hk hkg
    ·exact hk (by simp [h1,hkg])
   ·rcases List.mem_append.1 hk with hk | hk
    ·exact .inr hk
    ·exact .inl ⟨by simp [h1,hk],fun hkf=>h2 k hkf hk⟩
 | x::L,fp,w,j+1,b,p,⟨f,g,h1,h2,h3,h4⟩,hj=>by
   obtain ⟨f0,g1,g2,g3⟩:=sepL_at (j:=j) h4 hj
   refine ⟨f0,g1,fun k hk=>by simp [h1,g2 k hk],fun p' f' W hp hf hW=>?_⟩
   obtain ⟨fp',e1,e2⟩:=g3 p' f' W hp (fun k hk=>(hf k hk).imp id fun h hg=>h (by simp [h1,hg])) (fun k hk hk2=>hW k (by simp [h1,hk]) hk2)
   refine ⟨f++fp',⟨f,fp',rfl,fun k hk hk'=>?_,ePk_keep h3 fun k hk=>hW k (by simp [h1,hk]) fun hk2=>h2 k hk (g2 k hk2),e1⟩,fun k hk=>?_⟩
   ·rcases e2 k hk' with ⟨hk2, _⟩ | hk2
    ·exact h2 k hk hk2
    ·rcases hf k hk2 with hk3 | hk3
     ·exact h2 k hk (g2 k hk3)
     ·exact hk3 (by simp [h1,hk])
   ·rcases List.mem_append.1 hk with hk | hk
    ·exact .inl ⟨by simp [h1,hk],fun hk2=>h2 k hk (g2 k hk2)⟩
    ·rcases e2 k hk with ⟨hk,hk2⟩ | hk
     ·exact .inl ⟨by simp [h1,hk],hk2⟩
     ·exact .inr hk
theorem sepL_add:∀ {L:List (Nat×PuT)} {fp f:List Nat} {b:Nat} {p:PuT} {w:World},sepL L fp w→(ePk b p f).holds w→(∀ k∈fp,k∉f)→sepL (L++[(b,p)]) (fp++f) w
 | [],fp,f,b,p,w,h,hp, _=>by
   have h:fp=[]:=h
   subst h
   exact ⟨f,[],by simp,(fun k _ hk=>nomatch hk),hp,rfl⟩
 | x::L,fp,f,b,p,w,⟨f0,g,h1,h2,h3,h4⟩,hp,hd=>by
   refine ⟨f0,g++f,by rw [h1,List.append_assoc],fun k hk hk2=>?_,h3,sepL_add h4 hp fun k hk=>hd k (by simp [h1,hk])⟩
   rcases List.mem_append.1 hk2 with hk2 | hk2
   ·exact h2 k hk hk2
   ·exact hd k (by simp [h1,hk]) hk2
/-- none yet -/
theorem St.pks0 {w0 W:World} {bor:List Nat} {L:List Ent} (h:St w0 bor L W):St w0 bor (L++[ePks [] []]) W:=by
 refine ⟨h.upd,fun x hx=>?_,?_⟩
 ·rcases List.mem_append.1 hx with hx | hx
  ·exact h.ok x hx
  ·rw [List.mem_singleton] at hx
   subst hx
   exact ⟨rfl,ePks_loc _ _,fun k hk=>(by cases hk)⟩
 ·rw [List.pairwise_append]
  refine ⟨h.apart,List.pairwise_singleton _ _,fun a _ b hb=>?_⟩
  rw [List.mem_singleton] at hb
  subst hb
  exact fun k _ hk=>by cases hk
/-- one more -/
theorem St.pksAdd {w0 W:World} {bor:List Nat} {R:List Ent} {L:List (Nat×PuT)} {fp f:List Nat} {b:Nat} {p:PuT} (h:St w0 bor (R++[ePks L fp,ePk b p f]) W):St w0 bor (R++[ePks (L++[(b,p)]) (fp++f)]) W:=by
 have hM:=h.ok (ePks L fp) (by simp)
 have hE:=h.ok (ePk b p f) (by simp)
 have ha:=h.apart
 rw [List.pairwise_append] at ha
 have hpe:=(List.pairwise_pair.1 ha.2.1)
 refine ⟨h.upd,fun x hx=>?_,List.pairwise_append.2 ⟨ha.1,List.pairwise_singleton _ _,fun a ha' c hc=>?_⟩⟩
 ·rcases List.mem_append.1 hx with hx | hx
  ·exact h.ok x (by simp [hx])
  ·rw [List.mem_singleton] at hx
   subst hx
   refine ⟨sepL_add hM.holds hE.holds (fun k hk hk2=>hpe k hk hk2),ePks_loc _ _,fun k hk=>?_⟩
   rcases List.mem_append.1 hk with hk | hk
   ·exact hM.own k hk
   ·exact hE.own k hk
 ·rw [List.mem_singleton] at hc
  subst hc
  intro k hk hkb
  rcases List.mem_append.1 hkb with hkb | hkb
  ·exact ha.2.2 a ha' (ePks L fp) (by simp) k hk hkb
  ·exact ha.2.2 a ha' (ePk b p f) (by simp) k hk hkb
def KqPost (L:List (Nat×PuT)) (j b:Nat) (r:PuT×GoT) (fp:List Nat) (w:World) (e:Ending) (w':World):Prop:=∃ A c,e= .returned (.tuple #[.slice A r.2.eds.length c, .bool r.2.used, .int .i64 r.2.err])∧∃ fp',St w fp [ePks (L.set j (b,r.1)) fp',eO 99 3 (.slice A r.2.eds.length c) r.2.eds.length (r.2.eds.flatMap edC)] w'
/-- a step of one of them -/
theorem kstep_q {L:List (Nat×PuT)} {j b bk:Nat} {ps:List PgS} {p:PuT} {fresh:Int} {fp:List Nat} {w:World} (h:(ePks L fp).holds w) (hfl:∀ k∈fp,k < w.heap.size) (hj:L[j]? =some (b,p)) (hB:BkU fp w bk ps) (hok:OkS ps) (hoc:OkC ps) (h10:p.left.length≤10000) (hte:∀ t∈p.left,t.1.size≤900000∧0≤t.2.1∧t.2.1≤90000) (hfr: -1≤fresh∧fresh≤1000000):
  Calls Try.prog 16 #[.pointer (some ⟨b,0,none⟩), .iface 24 (.pointer (some ⟨bk,0,none⟩)), .int .i64 fresh] w (KqPost L j b (stepF ps p fresh) fp w):=by
 obtain ⟨f,h1,h2,h3⟩:=sepL_at h hj
 have hBf:BkU f w bk ps:=by
  obtain ⟨LA,lc,Ps,e1,e2⟩:=hB
  exact ⟨LA,lc,Ps,e1,fun W hW=>e2 W (hW.mono fun k _ hk=>h2 k hk)⟩
 refine (kstep_a h1 hBf hok hoc h10 hte hfr).mono fun e w' ⟨A,c,g1,f',g2⟩=>⟨A,c,g1,?_⟩
 have hP:=g2.ok (ePk b (stepF ps p fresh).1 f') (by simp)
 have hO:=g2.ok (eO 99 3 (.slice A (stepF ps p fresh).2.eds.length c) (stepF ps p fresh).2.eds.length ((stepF ps p fresh).2.eds.flatMap edC)) (by simp)
 have hap:=List.pairwise_pair.1 g2.apart
 have hold:∀ k,k∈f'→k∈f∨k∉fp:=fun k hk=>by
  rcases (hP.own k hk).1 with h4 | h4
  ·exact .inl h4
  ·exact .inr fun h5=>absurd (hfl k h5) (by omega)
 obtain ⟨fp',e1,e2⟩:=h3 _ f' w' hP.holds hold (fun k hk hk2=>g2.upd.block k (hfl k hk) hk2)
 refine ⟨fp',g2.upd.mono fun k _ hk=>h2 k hk,fun x hx=>?_,List.pairwise_pair.2 fun k hk hk2=>?_⟩
 ·simp only [List.mem_cons,List.not_mem_nil,or_false] at hx
  rcases hx with rfl | rfl
  ·refine ⟨e1,ePks_loc _ _,fun k hk=>?_⟩
   rcases e2 k hk with ⟨h4, _⟩ | h4
   ·exact ⟨.inl h4,Nat.lt_of_lt_of_le (hfl k h4) g2.upd.size⟩
   ·exact ⟨(hP.own k h4).1.imp (h2 k) id,(hP.own k h4).2⟩
  ·exact ⟨hO.holds,hO.loc,fun k hk=>⟨(hO.own k hk).1.imp (h2 k) id,(hO.own k hk).2⟩⟩
 ·rcases e2 k hk with ⟨h4,h6⟩ | h4
  ·rcases (hO.own k hk2).1 with h5 | h5
   ·exact h6 h5
   ·exact absurd (hfl k h4) (by omega)
  ·exact hap k h4 hk2
/-- is one of them at its end -/
theorem kdone_q {L:List (Nat×PuT)} {j b:Nat} {p:PuT} {fp:List Nat} {w:World} (h:(ePks L fp).holds w) (hj:L[j]? =some (b,p)):Calls Try.prog 21 #[.pointer (some ⟨b,0,none⟩)] w (Ret (.bool ((p.left.length:Int)==0)) w):=by
 obtain ⟨f,h1, _⟩:=sepL_at h hj
 exact kdone_pk h1
theorem kq_to {L:List (Nat×PuT)} {j b:Nat} {fp:List Nat} {w:World} {R R':PuT×GoT} {f:FuncId} {args:Array Value} (hR:R=R') (hc:Calls Try.prog f args w (KqPost L j b R fp w)):Calls Try.prog f args w (KqPost L j b R' fp w):=hR ▸ hc
def qz:Nat×PuT:=(0,⟨0,0,0,[],0,0,false⟩)
theorem q_at {L:List (Nat×PuT)} {j:Nat} (h:j < L.length):L[j]? =some ((L.getD j qz).1,(L.getD j qz).2):=by rw [List.getD_eq_getElem?_getD,List.getElem?_eq_getElem h]; rfl
theorem q_snd {L:List (Nat×PuT)} {j:Nat} (h:j < L.length) (d:PuT):(L.map Prod.snd).getD j d=(L.getD j qz).2:=by rw [List.getD_eq_getElem?_getD,List.getD_eq_getElem?_getD,List.getElem?_map,List.getElem?_eq_getElem h]; rfl
theorem q_set {L:List (Nat×PuT)} {j:Nat} {p:PuT} (h:j < L.length):(L.set j ((L.getD j qz).1,p)).map Prod.snd=(L.map Prod.snd).set j p∧(L.set j ((L.getD j qz).1,p)).map Prod.fst=L.map Prod.fst:=by
 refine ⟨by rw [List.map_set],?_⟩
 rw [List.map_set]
 apply List.ext_getElem
 ·simp
 ·intro i h1 h2
  rw [List.getElem_set]
  split
  ·subst_vars; rw [List.getElem_map,List.getD_eq_getElem?_getD,List.getElem?_eq_getElem h]; rfl
  ·rfl
/-- a round's number by the law's rest -/
theorem rest_nat (i m:Nat) (hm:0 < m):(((i:Int).tmod (m:Int)+(m:Int)).tmod (m:Int))=((i % m:Nat):Int):=by
 have h1:(i:Int).tmod (m:Int)=((i % m:Nat):Int):=by rw [Int.tmod_eq_emod_of_nonneg (by omega)]; exact (Int.natCast_emod i m).symm
 rw [h1,Int.tmod_eq_emod_of_nonneg (by omega),Int.add_emod_right]
 exact (Int.natCast_emod (i % m) m).symm.trans (by rw [Nat.mod_mod])
end
section
open Go.RowKit Go.Maps
theorem Try.infoPut:(Try.prog.info? 26).map (fun i=>(i.zero,i.size,i.bytes))=some (some (.pointer none),1,8):=by kernel_rfl
def vpQ (y:Nat×PuT):Value:= .pointer (some ⟨y.1,0,none⟩)
theorem vpQ_snoc (L:List (Nat×PuT)) (b:Nat) (p:PuT):L.map vpQ++[.pointer (some ⟨b,0,none⟩)]=(L++[(b,p)]).map vpQ:=by rw [List.map_append]; rfl
def BdPost (ty:Nat) (cs:Array Value) (w:World) (e:Ending) (w':World):Prop:=∃ b,e= .returned (vp b)∧St w [] [eB b ty cs] w'
theorem few_ok {l:List Int} (hl:l.length≤40):BdM 24016 (grownF l)∧(grownF l).length=60∧C8 (grownF l):=by
 have h:=grw_ok l (min l.length 90) (by omega)
 exact ⟨h.1.mono (by omega),h.2.1,h.2.2.1⟩
theorem vpQ_get {L L2:List (Nat×PuT)} {k:Nat} (h:k < L.length) (hf:L2.map Prod.fst=L.map Prod.fst):(L.map vpQ)[k]? =some (.pointer (some ⟨(L2.getD k qz).1,0,none⟩)):=by
 have hl:L2.length=L.length:=by simpa using congrArg List.length hf
 have h1:(L2.map Prod.fst)[k]? =(L.map Prod.fst)[k]? :=by rw [hf]
 rw [List.getElem?_map,List.getElem?_map,List.getElem?_eq_getElem h,List.getElem?_eq_getElem (by omega)] at h1
 rw [List.getElem?_map,List.getElem?_eq_getElem h,List.getD_eq_getElem?_getD,List.getElem?_eq_getElem (by omega:k < L2.length)]
 have h2:L2[k].1=L[k].1:=Option.some.inj h1
 show some (Value.pointer (some ⟨L[k].1,0,none⟩))=some (Value.pointer (some ⟨L2[k].1,0,none⟩))
 rw [h2]
theorem BkU.at {S:List Nat} {w:World} {bk:Nat} {ps:List PgS} (h:BkU S w bk ps) {W:World} (hW:Upd S w W):BkAt W bk ps:=by
 obtain ⟨LA,lc,Ps,h1,h2⟩:=h
 exact ⟨LA,lc,Ps,h1,h2 W hW⟩
theorem lrestq (x:Int) (n:Nat) (w:World) (h:n≤1000):Calls Try.prog 14 #[.int .i64 x, .int .i64 ((n:Int)+1)] w (Ret (.int .i64 ((x.tmod ((n:Int)+1)+((n:Int)+1)).tmod ((n:Int)+1))) w):=lrestn x (n+1) w (by omega) (by omega)
theorem rest_k (x:Int) (i n:Nat) (h:i < 300∨x=(i:Int)):∃ z:Nat,((x.tmod ((n:Int)+1)+((n:Int)+1)).tmod ((n:Int)+1))=(z:Int)∧z≤n∧(i < 300∨z=i % (n+1)):=by
 rcases h with h | h
 ·have h1:=Int.lt_tmod_of_pos x (b:=(n:Int)+1) (by omega)
  have h2:=Int.tmod_nonneg (a:=x.tmod ((n:Int)+1)+((n:Int)+1)) ((n:Int)+1) (by omega)
  have h3:=Int.tmod_lt_of_pos (x.tmod ((n:Int)+1)+((n:Int)+1)) (b:=(n:Int)+1) (by omega)
  exact ⟨((x.tmod ((n:Int)+1)+((n:Int)+1)).tmod ((n:Int)+1)).toNat,by omega,by omega, .inl h⟩
 ·subst h
  exact ⟨i % (n+1),rest_nat i (n+1) (by omega),by have:=Nat.mod_lt i (by omega:0 < n+1); omega, .inr rfl⟩
theorem ws_toB {b:Nat} {pos:Int} {R R':WkT×WkR} {f:FuncId} {args:Array Value} {w:World} (hR:R=R') (hc:Calls Try.prog f args w (WsPost b pos R w)):Calls Try.prog f args w (WsPost b pos R' w):=hR ▸ hc
theorem wk_fmB {ps:List PgS} {w w1:WkT} {r:WkR} (h:wkN ps w=(w1,r)):w1.fm=w.fm:=by
 obtain ⟨pos,st,fm,fin⟩:=w
 by_cases h0:fin=true∨1000≤st+1
 ·rw [wk_end h0] at h; cases h; rfl
 ·rcases hn:ndAt ps pos with _ | n
  ·rw [wk_none hn] at h; cases h; rfl
  ·rw [wk_some h0 hn] at h
   split at h
   ·cases h; rfl
   ·split at h<;>cases h<;>rfl
theorem wk_ndB {ps:List PgS} {w w1:WkT} {nd:NoD} (h:wkN ps w=(w1, .at nd)):ndAt ps w.pos=some nd:=by
 obtain ⟨pos,st,fm,fin⟩:=w; exact (wk_at h).1
def WnPostB (b:Nat) (w1:WkT) (mo:Bool) (w:World) (e:Ending) (w':World):Prop:=e= .returned (.tuple #[.int .i64 (-1), .slice none 0 0, .slice none 0 0, .bool mo])∧St w [b] [eB b 145 (wkC w1)] w'
theorem ws_noB {b:Nat} {pos:Int} {w1:WkT} {mo:Bool} {f:FuncId} {args:Array Value} {w:World} (hc:Calls Try.prog f args w (WsPost b pos (w1,bif mo then .on else .off) w)):Calls Try.prog f args w (WnPostB b w1 mo w):=by cases mo<;>exact hc
theorem kentry_e {x:ByteArray} (w:World) (h:entF (qkF x) (opF x) (osF x)=x) (hk:(qkF x).size≤1000000):Calls Try.prog 26 #[.string (qkF x), .agg #[.int .i64 (opF x), .int .i64 (osF x)]] w (Ret (.string x) w):=by
 have h1:=kentry_any (qkF x) (opF x) (osF x) w hk
 rw [h] at h1
 exact h1
theorem tk_fst {E:List EnD} {i:Nat} (h:i < E.length):(E.take (i+1)).map (fun e=>e.1)=(E.take i).map (fun e=>e.1)++[(E.getD i en0).1]:=by rw [take_getD h,List.map_append]; rfl
theorem tqS_getW {E:List EnD} {k:Nat} (h:k < E.length):(E.map tqS)[k]? =some (.string (qkF (E.getD k en0).1)):=by simp [tqS,h]
theorem mem_getE {E:List EnD} {k:Nat} (h:k < E.length):(E.getD k en0).1∈E.map fun e=>e.1:=List.mem_map.2 ⟨_,by rw [List.getD_eq_getElem?_getD,List.getElem?_eq_getElem h]; exact List.getElem_mem h,rfl⟩
theorem getD_memE {E:List EnD} {k:Nat} (h:k < E.length):E.getD k en0∈E:=by rw [List.getD_eq_getElem?_getD,List.getElem?_eq_getElem h]; exact List.getElem_mem h
theorem PuM.more {i:Nat} {p:PuT} (h:PuM (24016+10*i) (i+1) p):PuM (24016+10*(i+1)) (i+1+1) p:=⟨fun t ht=>by have:=h.left t ht; exact ⟨by omega,by omega,by omega⟩,by have:=h.len; omega⟩
theorem mem_getq {L:List (Nat×PuT)} {k:Nat} (h:k < L.length):(L.getD k qz).2∈L.map Prod.snd:=List.mem_map.2 ⟨_,by rw [List.getD_eq_getElem?_getD,List.getElem?_eq_getElem h]; exact List.getElem_mem h,rfl⟩
theorem kdownB_any (root:Int) (key:ByteArray) (w:World) (hk:key.size≤800000):
  Calls Try.prog 36 #[.int .i64 root, .string key] w (BdPost 145 (wkC ⟨root,0,entF key 0 0,false⟩) w):=by
 go_enter Try.func36,Try.ntmps36
 have hst0:=St.start w
 refine wp_seq (sqr (sqp [.k 4 (.pointer none)] ?_))
 refine then_normal (wp_seq (sqr (sqp [.m 5 0, .m 6 1, .k 7 (.agg #[vi 0,vi 0])] ?_)))
 refine sqk (.string (entF key 0 0)) hst0 (fun cx=>⟨_,kentry_any key 0 0 _ (by omega),(map2 (cx.ou 6) (cx.ou 7))⟩) fun W5 hst5=>?_
 refine sqp [.k 9 (.agg #[vi root,vi 0, .string (entF key 0 0), .bool false])] ?_
 refine sqbx #[vi root,vi 0, .string (entF key 0 0), .bool false] hst5 fun B10_7 W7 hst7=>?_
 refine sqp [.m 4 10] ?_
 refine then_normal (wp_ret ?_)
 refine bpr (vp B10_7) (results_1 Try.results36 rpt) ?_
 exact ⟨_,rfl,hst7.pick [0] (by decide) rfl⟩
theorem treebusy_any (A M Kp:Option Addr) (n0 c m0 mc k0 kc:Nat) (l ms ks:List Int) (x:Int) (w:World) (hA:At w A (l.map (Value.int .i64))) (hn:l.length=n0) (hc:n0≤c) (hM:At w M (ms.map (Value.int .i64))) (hm:ms.length=m0) (hK:At w Kp (ks.map (Value.int .i64))) (hk:ks.length=k0):
  Calls Try.prog 6 #[.agg #[.slice A n0 c, .slice M m0 mc, .slice Kp k0 kc, .int .i64 x]] w (Ret (.bool true) w):=by
 go_enter Try.func6,Try.ntmps6
 have hst0:=St.start w
 refine wp_seq (sqr ?_)
 refine sqbx #[.slice A n0 c, .slice M m0 mc, .slice Kp k0 kc,vi x] hst0 fun B1_1 W1 hst1=>?_
 refine sqp [.k 2 (.bool false)] ?_
 refine then_normal (wp_seq (sqr (sqk (.bool true) hst1 (fun cx=>⟨_,sanity10_any _,map0⟩) fun W3 hst3=>?_)))
 refine sqp [.k 3 (.bool true)] ?_
 refine then_normal (wp_seq (sqr (sqp [.k 25 (vp B1_1)] ?_)))
 refine sqld 0 hst3 ?_
 refine sqk (.slice A ((min n0 40)) c) hst3 (fun cx=>⟨_,lseed_any A n0 c 40 _ hc,(map2 (cx.ou 26) (cx.co _))⟩) fun W7 hst7=>?_
 refine sqp [.m 4 27] ?_
 refine then_normal (wp_seq ?_)
 obtain ⟨nl,hN_nl⟩:∃ z,(min n0 40)=z:=⟨_,rfl⟩
 rw [hN_nl]
 have hnl_:nl≤40:=by omega
 have htl_:(l.take nl).length=nl:=by rw [List.length_take]; omega
 refine sqr (sqp [.m 28 4] ?_)
 refine sqk1s (fun B29_10=>vp B29_10) (fun B29_10 r1_10=>eBk B29_10 (grownF (l.take nl)) r1_10) hst7 (fun cx=>⟨_,(rgrown_any _ _ _ (l.take nl) _ (At.take_mapI (hA.ext cx.upd.to_ext) nl) (by first | (rw [List.length_take]; omega) | omega)).mono (by rintro e W1 ⟨B4,fp4,rfl,hs4⟩; exact ⟨_, _,rfl,hs4⟩),(map1 (cx.ou 28))⟩) fun B29_10 r1_10 W10 hst10=>?_
 refine sqp [.m 5 29] ?_
 refine then_normal (wp_seq (sqr (sqp [.k 6 (.slice none 0 0)] ?_)))
 refine then_normal (wp_seq (wp_seq (sqr (sqp [.k 7 (vi 0)] ?_))))
 refine then_normal (wp_block ?_)
 have hn14:=St.nilrow hst10 26
 simp only [List.cons_append,List.nil_append] at hn14
 have hq0_:=St.pks0 hn14
 simp only [List.cons_append,List.nil_append] at hq0_
 refine wp_loopT (fun t_ mz az W=>∃ j:Nat,∃ pn:Nat,∃ L:List (Nat×PuT),∃ fq:List Nat,∃ PA:Option Addr,∃ pc:Nat,(j≤m0∧j≤12)∧(L.map Prod.snd=(List.range j).map fun j=>(putT 0 (keyF (ms.getD j 0)) 30 (j:Int)))∧pn=j∧mz=12 - j∧az=⟨(ovr (jv az) [(6,6,0,[.slice PA pn pc,vi ((j:Int))]),(22,30,23,[])] t_).toArray,[]⟩∧St w [] [eB B1_1 75 #[.slice A n0 c, .slice M m0 mc, .slice Kp k0 kc,vi x],eBk B29_10 (grownF (l.take nl)) r1_10,eO 26 1 (.slice PA pn pc) pn (L.map vpQ),ePks L fq] W) (12 - 0) ?_ ?_
 · -- the loop begins
   exact ⟨0,0,[],[],none,0,by omega,rfl,rfl,rfl,(by kernel_rfl),hq0_.pk [0,1,2,3]⟩
 rintro n15 a15 W15 ⟨j,pn,L,fq,PA,pc,hj,hL,hpn,rfl,hj_,hst15⟩
 refine ovz hj_ fun u15_=>?_
 refine wp_seq (wp_seq (sqr (sqp [.m 30 7, .k 31 (.pointer (some ⟨B1_1,1,none⟩))] ?_)))
 refine sqld 0 hst15 ?_
 refine sqp [.k 33 (vi ((m0:Int))), .k 34 (.bool (decide ((j:Int) < (m0:Int)))), .m 35 34] ?_
 refine sqw 35 [36,37] rfl (fun _=>sqp [.m 36 7, .k 37 (.bool (decide ((j:Int) < 12)))] sqe) ?_
 refine sqp [sPa 38 (decide ((j:Int) < (m0:Int))) (decide ((j:Int) < 12))] ?_
 refine then_normal (wbs (fun hs25=>?_) fun hs25=>?_)
 ·have hs25p:=hs25
  simp only [zB] at hs25p
  obtain ⟨hs25p1,hs25p2⟩:=hs25p
  refine wp_skip (then_normal (wp_seq (wp_block (sqr (sqp [.m 41 6, .k 42 (.pointer (some ⟨B1_1,1,none⟩))] ?_)))))
  refine sqld 0 hst15 ?_
  refine sqp [.m 44 7] ?_
  refine sql (.pointer (some ((ad M).add j))) hst15 (fun cx=>run_indexSl (e:=3) (m:=j) rfl (by kernel_rfl) (by kernel_rfl) (cx.ou 43) (cx.ou 44) (by omega) (by omega) (hM.ext cx.upd.to_ext) (by rw [List.length_map]<;>omega)) ?_
  refine sql (vi (ms.getD j 0)) hst15 (fun cx=>run_load1 rfl (by kernel_rfl) (cx.ou 45) (At.cellAd (hM.ext cx.upd.to_ext) (getD_int (by omega)))) ?_
  refine sqk (.string (keyF (ms.getD j 0))) hst15 (fun cx=>⟨_,rkey_any (ms.getD j 0) _,(map1 (cx.ou 46))⟩) fun W32 hst32=>?_
  refine sqp [.m 48 7, .k 49 (.agg #[vi 30,vi ((j:Int))])] ?_
  refine sqk1s (fun B50_35=>vp B50_35) (fun B50_35 r4_35=>ePk B50_35 (putT 0 (keyF (ms.getD j 0)) 30 (j:Int)) r4_35) hst32 (fun cx=>⟨_,(kgrowN_any 0 (keyF (ms.getD j 0)) 30 (j:Int) _ (Nat.le_trans (keyF_size _) (by decide))).mono (by rintro e W1 ⟨B4,fp4,rfl,hs4⟩; exact ⟨_, _,rfl,hs4⟩),(map3 (cx.co _) (cx.ou 47) (cx.ou 49))⟩) fun B50_35 r4_35 W35 hst35=>?_
  refine sqn1 (fun x_=>sA x_) (fun A51_36=> .slice A51_36 1 1) (fun A51_36=>eO 26 1 (.slice A51_36 1 1) 1 ([vp B50_35])) hst35 (by
    refine svA fun ρ β W X cx=>?_
    have fF50:ρ (.tmp 50)=vp B50_35:=(cx.ou 50)
    exact dv_lit (e:=26) (xs:=[vp B50_35]) rfl (by simp [go_sem,fF50]) rfl (by decide) rfl rfl (fun σ β' X' hs hb hv hx=>⟨hv,hx⟩)) fun A51_36 W36 hst36=>?_
  refine sqc2 (fun x_=>sA x_) (fun x_=>sC x_) (fun A52_37 c52_37=> .slice A52_37 (pn+1) c52_37) (fun A52_37 c52_37=>eO 26 1 (.slice A52_37 (pn+1) c52_37) (pn+1) ((L++[(B50_35,(putT 0 (keyF (ms.getD j 0)) 30 (j:Int)))]).map vpQ)) 2 hst36 (by
    refine svA fun ρ β W X cx=>?_
    obtain ⟨i0,hi0,hz0,hz1,hz2⟩:=info_parts Try.infoPut
    refine dv_append (n:=pn) (m:=1) (nm:=pn+1) (xs:=L.map vpQ) (news:=[vp B50_35]) (xs':=(L++[(B50_35,(putT 0 (keyF (ms.getD j 0)) 30 (j:Int)))]).map vpQ) rfl (ty:=76) rfl (by kernel_rfl) hi0 hz0 hz1 hz2 rfl (cx.ou 41) cx (cx.init 2 _ rfl) rfl (cx.ou 51) (by rfl) (At.of_own (cx.ri 5 rfl)) (by simp [Value.oneCell']) (by simp only [maxLen]; omega) (by omega) rfl rfl rfl (by omega) (vpQ_snoc _ _ _) (fun σ β' X' hs hb hv hx=>?_)
    exact ⟨hv,hx⟩) fun A52_37 c52_37 W37 hst37=>?_
  refine sqp [.m 6 52] ?_
  refine blk_normal (then_normal (sqr (sqp [.m 39 7,sI 40 ((j:Int)+1) (by omega), .m 7 40] ?_)))
  refine then_normal ?_
  have hqa_:=St.pksAdd (R:=[eB B1_1 75 #[.slice A n0 c, .slice M m0 mc, .slice Kp k0 kc,vi x],eBk B29_10 (grownF (l.take nl)) r1_10,eO 26 1 (.slice A52_37 (pn+1) c52_37) (pn+1) ((L++[(B50_35,(putT 0 (keyF (ms.getD j 0)) 30 (j:Int)))]).map vpQ),eO 26 1 (.slice A51_36 1 1) 1 ([vp B50_35])]) (hst37.pick [0,1,2,5,3,4] (by decide) rfl)
  simp only [List.cons_append,List.nil_append] at hqa_
  refine ⟨12 - ((j+1)),by omega,?_⟩
  exact ⟨(j+1),(pn+1),(L++[(B50_35,(putT 0 (keyF (ms.getD j 0)) 30 (j:Int)))]),(fq++r4_35),A52_37,c52_37,by omega,by rw [List.map_append,hL,List.range_succ,List.map_append]; rfl,by omega,rfl,(by kernel_rfl),hqa_.pk [0,1,2,4]⟩
 have hs25p:=hs25
 simp only [zB] at hs25p
 refine wp_exit (then_exit (then_exit (blk_eq (then_normal (wp_seq (sqr (sqp [.k 53 (.pointer (some ⟨B1_1,3,none⟩))] ?_)))))))
 refine sqld 0 hst15 ?_
 refine sqk (.string (keyF x)) hst15 (fun cx=>⟨_,rkey_any x _,(map1 (cx.ou 54))⟩) fun W44 hst44=>?_
 refine sqk1 (fun B56_45=>vp B56_45) (fun B56_45=>eB B56_45 145 #[vi 0,vi 0, .string ((entF (keyF x) 0 0)), .bool false]) hst44 (fun cx=>⟨_,(kdownB_any 0 (keyF x) _ (Nat.le_trans (keyF_size _) (by decide))).mono (by rintro e W1 ⟨B4,rfl,hs4⟩; exact ⟨_,rfl,hs4⟩),(map2 (cx.co _) (cx.ou 55))⟩) fun B56_45 W45 hst45=>?_
 refine sqp [.m 8 56] ?_
 refine then_normal (wp_seq (sqr (sqp [.k 9 (vi 30)] ?_)))
 refine then_normal (wp_seq (sqr (sqp [.k 10 (.slice none 0 0)] ?_)))
 refine then_normal (wp_seq (sqr (sqp [.k 11 (.bool true)] ?_)))
 refine then_normal (wp_seq (wp_seq (sqr (sqp [.k 12 (vi 0)] ?_))))
 refine then_normal (wp_block ?_)
 obtain ⟨ms2,hms2⟩:∃ z,ms.take j=z:=⟨_,rfl⟩
 have hml:ms2.length=j:=by rw [← hms2,List.length_take]; omega
 obtain ⟨b0,hb0⟩:∃ z,grownF (l.take nl)=z:=⟨_,rfl⟩
 have hLl:L.length=j:=by have h_:=congrArg List.length hL; simpa using h_
 have hLq:L.map Prod.snd=bzQ ms2:=by rw [hL,bzQ,hml]; exact List.map_congr_left fun i hi=>by rw [← hms2,List.getD_eq_getElem?_getD,List.getD_eq_getElem?_getD,List.getElem?_take,if_pos (List.mem_range.1 hi)]
 have hgr0:=few_ok (l:=l.take nl) (by omega)
 rw [hb0] at hgr0 hst45
 have hbs0:BzS (l.take nl) ms2 x 0 b0 30 (L.map Prod.snd) ⟨0,0,entF (keyF x) 0 0,false⟩ true []:=by rw [hLq,← hb0]; exact bs_start (by omega) (by omega)
 have hpu0:∀ p∈L.map Prod.snd,PuM (24016+10*0) (0+1) p∧p.root=0:=fun p hp=>by rw [hLq] at hp; obtain ⟨k,hk,rfl⟩:=List.mem_map.1 hp; exact ⟨put_sz _ _ _ _ (by omega),rfl⟩
 have hn51:=St.nilrow hst45 9
 simp only [List.cons_append,List.nil_append] at hn51
 refine wp_loopT (fun t_ mz az W=>∃ i:Nat,∃ ps:List PgS,∃ fb:List Nat,∃ nx:Int,∃ L2:List (Nat×PuT),∃ f2:List Nat,∃ wk:WkT,∃ mo:Bool,∃ told:List ByteArray,∃ TA:Option Addr,∃ tn:Nat,∃ tc:Nat,i≤6000∧BdM (24016+10*i) ps∧C8 ps∧(30≤nx∧nx≤30+i)∧(∀ p∈L2.map Prod.snd,PuM (24016+10*i) (i+1) p∧p.root=0)∧L2.map Prod.fst=L.map Prod.fst∧wk.fm.size≤900000∧told.length=tn∧BzS (l.take nl) ms2 x i ps nx (L2.map Prod.snd) wk mo told∧mz=6000 - i∧az=⟨(ovr (jv az) [(2,2,1,[]),(6,9,0,[vi nx, .slice TA tn tc, .bool mo,vi ((i:Int))]),(0,13,10,[]),(34,57,91,[])] t_).toArray,[]⟩∧St w [] [eB B1_1 75 #[.slice A n0 c, .slice M m0 mc, .slice Kp k0 kc,vi x],eBk B29_10 ps fb,eO 26 1 (.slice PA pn pc) pn (L.map vpQ),ePks L2 f2,eB B56_45 145 #[vi wk.pos,vi wk.st, .string wk.fm, .bool wk.fin],eO 9 1 (.slice TA tn tc) tn (told.map Value.string)] W) (6000 - 0) ?_ ?_
 · -- the loop begins
   exact ⟨0,b0,r1_10,30,L,fq,⟨0,0,entF (keyF x) 0 0,false⟩,true,[],none,0,0,by omega,hgr0.1,hgr0.2.2,by omega,hpu0,rfl,by show (entF _ _ _).size≤900000; rw [entF_size]; have:=keyF_size x; omega,rfl,hbs0,rfl,(by kernel_rfl),hn51.pk [0,1,2,3,4,5]⟩
 rintro n52 a52 W52 ⟨i,ps,fb,nx,L2,f2,wk,mo,told,TA,tn,tc,hi6,hpb,hc8,hnx,hpu,hfst,hfz,htn,hbs,rfl,hj_,hst52⟩
 refine ovz hj_ fun u52_=>?_
 have hcs:=bs_check hbs
 have hp60:ps.length=60:=hcs.2.1
 have hok:=hpb.ok (by omega) (by omega)
 have hoc:=hc8.okc
 have hnk:ps.length≤1000:=by omega
 have hL2l:L2.length=L.length:=by simpa using congrArg List.length hfst
 have htkl:(l.take nl).length≤40:=by omega
 refine wp_seq (wp_seq (sqr (sqp [.m 57 12, .k 58 (.bool (decide ((i:Int) < 6000)))] ?_)))
 refine then_normal (wds (fun hs55 hs55p=>?_) fun hs55 hs55p=>?_)
 ·refine wp_skip (then_normal (wp_seq (wp_block (wp_seq (sqr (sqp [.m 61 12, .m 13 61] ?_))))))
  refine then_normal ?_
  refine wp_cutT (fun t_ az W=>∃ pk:Int,(i < 300∨pk=(i:Int))∧az=⟨(ovr (jv az) [(13,13,0,[vi pk]),(48,62,14,[])] t_).toArray,[]⟩∧St w [] [eB B1_1 75 #[.slice A n0 c, .slice M m0 mc, .slice Kp k0 kc,vi x],eBk B29_10 ps fb,eO 26 1 (.slice PA pn pc) pn (L.map vpQ),ePks L2 f2,eB B56_45 145 #[vi wk.pos,vi wk.st, .string wk.fm, .bool wk.fin],eO 9 1 (.slice TA tn tc) tn (told.map Value.string)] W) ?_ ?_
  ·refine wp_seq (sqr (sqp [.m 62 12, .k 63 (.pointer (some ⟨B1_1,2,none⟩))] ?_))
   refine sqld 0 hst52 ?_
   refine sqp [.k 65 (vi ((k0:Int))), .k 66 (.bool (decide ((i:Int) < (k0:Int)))), .m 67 66] ?_
   refine sqw 67 [68,69] rfl (fun _=>sqp [.m 68 12, .k 69 (.bool (decide ((i:Int) < 300)))] sqe) ?_
   refine sqp [sPa 70 (decide ((i:Int) < (k0:Int))) (decide ((i:Int) < 300))] ?_
   refine then_normal (wbs (fun hs68=>?_) fun hs68=>?_)
   ·have hs68p:=hs68
    simp only [zB] at hs68p
    obtain ⟨hs68p1,hs68p2⟩:=hs68p
    refine sqr (sqp [.k 71 (.pointer (some ⟨B1_1,2,none⟩))] ?_)
    refine sqld 0 hst52 ?_
    refine sqp [.m 73 12] ?_
    refine sql (.pointer (some ((ad Kp).add i))) hst52 (fun cx=>run_indexSl (e:=3) (m:=i) rfl (by kernel_rfl) (by kernel_rfl) (cx.ou 72) (cx.ou 73) (by omega) (by omega) (hK.ext cx.upd.to_ext) (by rw [List.length_map]<;>omega)) ?_
    refine sql (vi (ks.getD i 0)) hst52 (fun cx=>run_load1 rfl (by kernel_rfl) (cx.ou 74) (At.cellAd (hK.ext cx.upd.to_ext) (getD_int (by omega)))) ?_
    refine sqp [.m 13 75] ?_
    refine then_normal ?_
    exact ⟨ks.getD i 0, .inl (by omega),(by kernel_rfl),hst52.pk [0,1,2,3,4,5]⟩
   have hs68p:=hs68
   simp only [zB] at hs68p
   refine wp_skip (then_normal ?_)
   exact ⟨(i:Int), .inr rfl,(by kernel_rfl),hst52.pk [0,1,2,3,4,5]⟩
  rintro a58 W58 ⟨pk,hpk,hj_,hst58⟩
  refine ovz hj_ fun u58_=>?_
  refine wp_seq (sqr (sqp [.m 76 13, .m 77 6, .k 78 (vi ((pn:Int))),sI 79 ((pn:Int)+1) (by omega)] ?_))
  refine sqk (vi (((pk.tmod ((pn:Int)+1)+((pn:Int)+1)).tmod ((pn:Int)+1)))) hst58 (fun cx=>⟨_,lrestq pk pn _ (by omega),(map2 (cx.ou 76) (cx.ou 79))⟩) fun W79 hst79=>?_
  refine sqp [.m 14 80] ?_
  refine then_normal (wp_seq (wp_seq ?_))
  obtain ⟨kz,hN_kz⟩:∃ z,((pk.tmod ((pn:Int)+1)+((pn:Int)+1)).tmod ((pn:Int)+1))=z:=⟨_,rfl⟩
  rw [hN_kz]
  obtain ⟨kn,hk1,hk2,hk3⟩:=rest_k pk i pn hpk
  rw [hN_kz] at hk1
  clear hN_kz
  subst hk1
  refine sqr (sqp [.m 81 14, .m 82 6, .k 83 (vi ((pn:Int))), .k 84 (.bool ((kn:Int)==(pn:Int)))] ?_)
  refine then_normal (wbs (fun hs85=>?_) fun hs85=>?_)
  ·have hs85p:=beq_iff_eq.1 hs85
   refine wp_seq ?_
   have hsw:i < 300∨i % (ms2.length+1)=ms2.length:=by rcases hk3 with h_ | h_; exact .inl h_; exact .inr (by rw [hml,← hpn,← h_]; omega)
   have hpuM:∀ p∈L2.map Prod.snd,PuM (24016+10*(i+1)) (i+1+1) p∧p.root=0:=fun p hp=>⟨(hpu p hp).1.more,(hpu p hp).2⟩
   rcases hR:wkN ps wk with ⟨w1,r1⟩
   have hb2:=bs_walk hbs htkl (by omega) hsw hR
   rcases wr_two r1 with ⟨mq,rfl⟩ | ⟨nd,rfl⟩
   ·have hfm1:=wk_fmB hR
    have hbs2:BzS (l.take nl) ms2 x (i+1) ps nx (L2.map Prod.snd) w1 mq told:=by cases mq<;>exact hb2
    refine sqr (sqp [.m 86 8, .m 87 5] ?_)
    refine sqv (.iface 24 (vp B29_10)) hst79 (by
      exact sv0 rfl rfl rfl rfl rfl (fun _ _ _ h=>h) fun ρ β W X cx=>by
       have fF87:ρ (.tmp 87)=vp B29_10:=(cx.ou 87)
       simp [go_sem,fF87]) fun W88 hst88=>?_
    refine sqc0 (.tuple #[vi ((-1)), .slice none 0 0, .slice none 0 0, .bool mq]) (eB B56_45 145 #[vi w1.pos,vi w1.st, .string w1.fm, .bool w1.fin]) 4 hst88 (by
      refine svA fun ρ β W X cx=>?_
      refine DoesU.call (run_callF (args:=#[vp B56_45, .iface 24 (vp B29_10)]) rfl cx.sees rfl (by kernel_rfl) (map2 (cx.ou 86) (cx.ou 88))) ?_
      refine (ws_noB (ws_toB hR (kwstep_any _ _ _ wk.pos wk.st wk.fm wk.fin ps _ (cx.bi 4 rfl) (fun W hW=>book_ok (BkU.at (CtxV.bkU cx (cx.init 1 _ rfl) (cx.init 4 _ rfl) rfl rfl (by decide)) hW) hnk) hok hoc (by omega) hfz))).mono ?_
      rintro e W1 ⟨rfl,hs4⟩
      refine ⟨_,rfl,post_obj (E:=eB B56_45 145 #[vi wk.pos,vi wk.st, .string wk.fm, .bool wk.fin]) [eB B56_45 145 #[vi w1.pos,vi w1.st, .string w1.fm, .bool w1.fin]] (cx.init 4 _ rfl) rfl rfl hs4 (fun σ β' X' hs hb hv hN=>?_)⟩
      have hv1:=(hv 89 rfl).1; have hv2:=(hv 89 rfl).2
      exact ⟨hv1.trans rfl,(List.cons.inj hN).1⟩) fun W89 hst89=>?_
    refine sqp [.m 85 89, .k 90 (vi ((-1))), .k 91 (.slice none 0 0), .k 92 (.slice none 0 0), .k 93 (.bool mq), .m 15 90, .m 16 91, .m 17 92, .m 18 93] ?_
    refine then_normal (wp_seq (wp_seq (sqr (sqp [.k 19 (vi 0)] ?_))))
    refine then_normal (wp_block ?_)
    refine wp_loopT (fun t_ mz az W=>∃ j2:Nat,j2≤0∧mz=0 - j2∧az=⟨(ovr (jv az) [(19,19,0,[vi ((j2:Int))]),(74,94,24,[])] t_).toArray,[]⟩∧St w [] [eB B1_1 75 #[.slice A n0 c, .slice M m0 mc, .slice Kp k0 kc,vi x],eBk B29_10 ps fb,eO 26 1 (.slice PA pn pc) pn (L.map vpQ),ePks L2 f2,eB B56_45 145 #[vi w1.pos,vi w1.st, .string w1.fm, .bool w1.fin],eO 9 1 (.slice TA tn tc) tn (told.map Value.string)] W) (0 - 0) ?_ ?_
    · -- the loop begins
      exact ⟨0,Nat.zero_le _,rfl,(by kernel_rfl),hst89.pk [0,1,2,3,4,5]⟩
    rintro n100 a100 W100 ⟨j2,hj2,rfl,hj_,hst100⟩
    refine ovz hj_ fun u100_=>?_
    refine wp_seq (wp_seq (sqr ?_))
    have hd105:(decide ((j2:Int) < 0))=false:=(decide_eq_false (by omega))
    refine sqp [.m 94 19, .m 95 16, .k 96 (vi 0), .e 97 (.bool (decide ((j2:Int) < 0))) (.bool false) (congrArg Value.bool hd105), .k 98 (.bool false)] ?_
    refine sqgn 98 [99,100,101,102] rfl rfl ?_
    refine sqp [.k 103 (.bool false)] ?_
    refine then_normal (wcf rfl (wp_exit (then_exit (then_exit (blk_eq (then_normal (wp_seq (sqr (sqp [.m 118 18, .m 11 118] ?_)))))))))
    refine then_normal (wp_exit (then_exit (blk_eq (then_normal (sqr (sqp [.m 59 12,sI 60 ((i:Int)+1) (by omega), .m 12 60] ?_))))))
    refine then_normal ?_
    refine ⟨6000 - ((i+1)),by omega,?_⟩
    exact ⟨(i+1),ps,fb,nx,L2,f2,w1,mq,told,TA,tn,tc,by omega,hpb.mono (by omega),hc8,by omega,hpuM,hfst,by rw [hfm1]; exact hfz,htn,hbs2,rfl,(by kernel_rfl),hst100.pk [0,1,2,3,4,5]⟩
   ·have hfm1:=wk_fmB hR
    have hbs2:BzS (l.take nl) ms2 x (i+1) ps nx (L2.map Prod.snd) (wkL w1 nd) true (told++(keepW w1.fm nd.es).map fun e=>e.1):=hb2
    have hN0:=nd_ok hok (wk_ndB hR)
    have hN1:=hN0.len
    have hN3:=hN0.hi
    have hfz2:(wkL w1 nd).fm.size≤900000:=by show (if nd.high.size=0 then w1.fm else nd.high).size≤900000; split; (rw [hfm1]; exact hfz); omega
    have hkl_:(keepW w1.fm nd.es).length≤nd.es.length:=List.length_filter_le _ _
    have hen_:=bs_ent hbs2 htkl (by omega)
    have htl9:=hen_.2.2.2
    rw [List.length_append,List.length_map] at htl9
    refine wp_region_Y [0,0,2,7,15,31,31,31,31,63,639,1791,4095] [[],[],[],[4,1]] [[],[],[],[6,7,8]] [[],[],[],[4]] [.k 86 (vp B56_45), .k 87 (vp B29_10), .c 88 (.iface 24 (vp B29_10)), .a 89, .a 85, .c 90 (vi wk.pos), .a 91, .a 92, .c 93 (.bool true), .k 15 (vi wk.pos), .a 16, .a 17, .k 18 (.bool true)] (fun ix σ β X=>match ix with | 0=>True | 1=>True | 2=>True | 3=>σ 89= .tuple #[vi wk.pos, .slice (sA (tg (β 89) 1)) ((keepW w1.fm nd.es).length) (sC (tg (β 89) 1)), .slice (sA (tg (β 89) 2)) ((keepW w1.fm nd.es).length) (sC (tg (β 89) 2)), .bool true]∧X 6=eB B56_45 145 #[vi ((wkL w1 nd).pos),vi ((wkL w1 nd).st), .string ((wkL w1 nd).fm), .bool ((wkL w1 nd).fin)]∧X 7=eO 9 1 (.slice (sA (tg (β 89) 1)) ((keepW w1.fm nd.es).length) (sC (tg (β 89) 1))) ((keepW w1.fm nd.es).length) ((keepW w1.fm nd.es).map tqS)∧X 8=eO 31 2 (.slice (sA (tg (β 89) 2)) ((keepW w1.fm nd.es).length) (sC (tg (β 89) 2))) ((keepW w1.fm nd.es).length) ((keepW w1.fm nd.es).flatMap tqR) | 4=>σ 85= .tuple #[vi wk.pos, .slice (sA (tg (β 89) 1)) ((keepW w1.fm nd.es).length) (sC (tg (β 89) 1)), .slice (sA (tg (β 89) 2)) ((keepW w1.fm nd.es).length) (sC (tg (β 89) 2)), .bool true] | 5=>True | 6=>σ 91= .slice (sA (tg (β 89) 1)) ((keepW w1.fm nd.es).length) (sC (tg (β 89) 1)) | 7=>σ 92= .slice (sA (tg (β 89) 2)) ((keepW w1.fm nd.es).length) (sC (tg (β 89) 2)) | 8=>True | 9=>True | 10=>σ 16= .slice (sA (tg (β 89) 1)) ((keepW w1.fm nd.es).length) (sC (tg (β 89) 1)) | 11=>σ 17= .slice (sA (tg (β 89) 2)) ((keepW w1.fm nd.es).length) (sC (tg (β 89) 2)) | _=>True) [0,1,2,3,5,6,7,8] [2,3,4,5,6,7,8,10,11] [(15,9,4,19),(66,4,1,67),(0,0,4,4),(0,5,4,4)] hst79 ?_ ?_ ?_
    ·exact fun ix _ _ _ _ _ _ hs hb hx h=>match ix,h with
     | 3,h=>by dsimp only; rw [← hs 89 rfl,← hb 89 rfl,← hx 6 rfl,← hx 7 rfl,← hx 8 rfl]; exact h
     | 4,h=>by dsimp only; rw [← hs 85 rfl,← hb 89 rfl]; exact h
     | 6,h=>by dsimp only; rw [← hs 91 rfl,← hb 89 rfl]; exact h
     | 7,h=>by dsimp only; rw [← hs 92 rfl,← hb 89 rfl]; exact h
     | 10,h=>by dsimp only; rw [← hs 16 rfl,← hb 89 rfl]; exact h
     | 11,h=>by dsimp only; rw [← hs 17 rfl,← hb 89 rfl]; exact h
     | 0, _ | 1, _ | 2, _ | 5, _ | 8, _ | 9, _ | _+12, _=>trivial
    ·refine ⟨?_,?_,?_,?_,?_,?_,?_,?_,?_,trivial⟩
     ·exact sv0 rfl rfl rfl rfl rfl (fun _ _ _ h=>h) fun ρ β W X cx=>by
       have fF87:ρ (.tmp 87)=vp B29_10:=(cx.an 1)
       simp [go_sem,fF87]
     ·refine svA fun ρ β W X cx=>?_
      refine DoesU.call (run_callF (args:=#[vp B56_45, .iface 24 (vp B29_10)]) rfl cx.sees rfl (by kernel_rfl) (map2 (cx.an 0) (cx.an 2))) ?_
      refine (ws_toB hR (kwstep_any _ _ _ wk.pos wk.st wk.fm wk.fin ps _ (cx.bi 4 rfl) (fun W hW=>book_ok (BkU.at (CtxV.bkU cx (cx.init 1 _ rfl) (cx.init 4 _ rfl) rfl rfl (by decide)) hW) hnk) hok hoc (by omega) hfz)).mono ?_
      rintro e W1 ⟨KA4,kc4,RA4,rc4,rfl,hs4⟩
      refine ⟨_,rfl,post_obj (E:=eB B56_45 145 #[vi wk.pos,vi wk.st, .string wk.fm, .bool wk.fin]) [eB B56_45 145 #[vi ((wkL w1 nd).pos),vi ((wkL w1 nd).st), .string ((wkL w1 nd).fm), .bool ((wkL w1 nd).fin)],eO 9 1 (.slice KA4 (keepW w1.fm nd.es).length kc4) (keepW w1.fm nd.es).length ((keepW w1.fm nd.es).map tqS),eO 31 2 (.slice RA4 (keepW w1.fm nd.es).length rc4) (keepW w1.fm nd.es).length ((keepW w1.fm nd.es).flatMap tqR)] (cx.init 4 _ rfl) rfl rfl hs4 (fun σ β' X' hs hb hv hN=>?_)⟩
      have hv1:=(hv 89 rfl).1; have hv2:=(hv 89 rfl).2
      exact ⟨hv1.trans (by rw [hv2]; rfl),(List.cons.inj hN).1,(by rw [hv2]; exact (List.cons.inj (List.cons.inj hN).2).1),(by rw [hv2]; exact (List.cons.inj (List.cons.inj (List.cons.inj hN).2).2).1)⟩
     ·exact sv rfl rfl rfl rfl rfl _ (fun _ _ _ h=>h) (fun β β' h=>by rw [h 89 (by decide)]) fun ρ β W X cx=>run_move' rfl (dTn (cx.an 3)).1
     ·exact xs4 rfl id fun cx=>run_extract' rfl (dTn (cx.an 4)) rfl
     ·exact sv rfl rfl rfl rfl rfl _ (fun _ _ _ h=>h) (fun β β' h=>by rw [h 89 (by decide)]) fun ρ β W X cx=>run_extract' rfl (dTn (cx.an 4)) rfl
     ·exact sv rfl rfl rfl rfl rfl _ (fun _ _ _ h=>h) (fun β β' h=>by rw [h 89 (by decide)]) fun ρ β W X cx=>run_extract' rfl (dTn (cx.an 4)) rfl
     ·exact xs4 rfl id fun cx=>run_extract' rfl (dTn (cx.an 4)) rfl
     ·exact sv rfl rfl rfl rfl rfl _ (fun _ _ _ h=>h) (fun β β' h=>by rw [h 89 (by decide)]) fun ρ β W X cx=>run_assign' rfl (dTn (cx.an 6))
     ·exact sv rfl rfl rfl rfl rfl _ (fun _ _ _ h=>h) (fun β β' h=>by rw [h 89 (by decide)]) fun ρ β W X cx=>run_assign' rfl (dTn (cx.an 7))
    intro σ β X W113 hD hst113 fr hfr
    obtain ⟨KA89_113,hu_KA89_113⟩:∃ z,sA (tg (β 89) 1)=z:=⟨_,rfl⟩
    obtain ⟨cKA89_113,hu_cKA89_113⟩:∃ z,sC (tg (β 89) 1)=z:=⟨_,rfl⟩
    obtain ⟨RA89_113,hu_RA89_113⟩:∃ z,sA (tg (β 89) 2)=z:=⟨_,rfl⟩
    obtain ⟨cRA89_113,hu_cRA89_113⟩:∃ z,sC (tg (β 89) 2)=z:=⟨_,rfl⟩
    simp only [exq 6 ((dTn (hD 3 lq)).2.1),exq 7 ((dTn (hD 3 lq)).2.2.1),exq 8 ((dTn (hD 3 lq)).2.2.2),hu_KA89_113,hu_cKA89_113,hu_RA89_113,hu_cRA89_113] at hst113
    simp only [ed 89 ((dTn (hD 3 lq)).1),ed 85 ((dTn (hD 4 lq))),ed 91 ((dTn (hD 6 lq))),ed 92 ((dTn (hD 7 lq))),ed 16 ((dTn (hD 10 lq))),ed 17 ((dTn (hD 11 lq))),hu_KA89_113,hu_cKA89_113,hu_RA89_113,hu_cRA89_113] at hfr
    clear hD hu_KA89_113 hu_cKA89_113 hu_RA89_113 hu_cRA89_113; subst hfr; clear σ β X
    refine then_normal (wp_seq (wp_seq (sqr (sqp [.k 19 (vi 0)] ?_))))
    refine then_normal (wp_block ?_)
    refine wp_loopT (fun t_ mz az W=>∃ j2:Nat,∃ T:List ByteArray,∃ TB:Option Addr,∃ tm:Nat,∃ tcc:Nat,j2≤(keepW w1.fm nd.es).length∧(T=told++((keepW w1.fm nd.es).take j2).map fun e=>e.1)∧T.length=tm∧mz=(keepW w1.fm nd.es).length - j2∧az=⟨(ovr (jv az) [(10,10,0,[.slice TB tm tcc]),(8,19,0,[vi ((j2:Int))]),(74,94,24,[])] t_).toArray,[]⟩∧St w [] [eB B1_1 75 #[.slice A n0 c, .slice M m0 mc, .slice Kp k0 kc,vi x],eBk B29_10 ps fb,eO 26 1 (.slice PA pn pc) pn (L.map vpQ),ePks L2 f2,eO 9 1 (.slice TB tm tcc) tm (T.map Value.string),eB B56_45 145 #[vi ((wkL w1 nd).pos),vi ((wkL w1 nd).st), .string ((wkL w1 nd).fm), .bool ((wkL w1 nd).fin)],eO 9 1 (.slice KA89_113 ((keepW w1.fm nd.es).length) cKA89_113) ((keepW w1.fm nd.es).length) ((keepW w1.fm nd.es).map tqS),eO 31 2 (.slice RA89_113 ((keepW w1.fm nd.es).length) cRA89_113) ((keepW w1.fm nd.es).length) ((keepW w1.fm nd.es).flatMap tqR)] W) ((keepW w1.fm nd.es).length - 0) ?_ ?_
    · -- the loop begins
      exact ⟨0,told,TA,tn,tc,Nat.zero_le _,by simp,htn,rfl,(by kernel_rfl),hst113.pk [0,1,2,3,4,5,6,7]⟩
    rintro n115 a115 W115 ⟨j2,T,TB,tm,tcc,hj2,hT,hTl,rfl,hj_,hst115⟩
    refine ovz hj_ fun u115_=>?_
    refine wp_seq (wp_seq (sqr (sqp [.m 94 19, .m 95 16, .k 96 (vi (((keepW w1.fm nd.es).length:Int))), .k 97 (.bool (decide ((j2:Int) < ((keepW w1.fm nd.es).length:Int)))), .m 98 97] ?_)))
    refine sqw 98 [99,100,101,102] rfl (fun _=>sqp [.m 99 19, .m 100 17, .k 101 (vi (((keepW w1.fm nd.es).length:Int))), .k 102 (.bool (decide ((j2:Int) < ((keepW w1.fm nd.es).length:Int))))] sqe) ?_
    refine sqp [sPa 103 (decide ((j2:Int) < ((keepW w1.fm nd.es).length:Int))) (decide ((j2:Int) < ((keepW w1.fm nd.es).length:Int)))] ?_
    refine then_normal (wbs (fun hs126=>?_) fun hs126=>?_)
    ·have hs126p:=hs126
     simp only [zB] at hs126p
     obtain ⟨hs126p1,hs126p2⟩:=hs126p
     refine wp_skip (then_normal (wp_seq (wp_block ?_)))
     obtain ⟨he1_,he2_, _, _⟩:=(hen_.2.2.1 _ (List.mem_append_right told (mem_getE (E:=(keepW w1.fm nd.es)) (k:=j2) (by omega)))).parts
     have htm9_:tm≤200:=by rw [← hTl,hT,List.length_append,List.length_map,List.length_take]; omega
     refine wp_region_Y [0,0,0,6,14,0,0,96,224,510,1022,2047,4095] [[],[],[],[6],[6],[],[],[7],[7],[],[],[8,4]] [[],[],[],[],[],[],[],[],[],[],[8],[9]] [[],[],[],[],[],[],[],[],[],[],[],[4]] [.k 106 (.slice TB tm tcc), .k 107 (.slice KA89_113 ((keepW w1.fm nd.es).length) cKA89_113), .k 108 (vi ((j2:Int))), .c 109 (.pointer (some ((ad KA89_113).add j2))), .c 110 (.string (qkF ((keepW w1.fm nd.es).getD j2 en0).1)), .k 111 (.slice RA89_113 ((keepW w1.fm nd.es).length) cRA89_113), .k 112 (vi ((j2:Int))), .c 113 (.pointer (some ((ad RA89_113).add (j2*2)))), .c 114 (.agg #[vi (opF ((keepW w1.fm nd.es).getD j2 en0).1),vi (osF ((keepW w1.fm nd.es).getD j2 en0).1)]), .c 115 (.string (((keepW w1.fm nd.es).getD j2 en0).1)), .a 116, .a 117, .a 10] (fun ix σ β X=>match ix with | 0=>True | 1=>True | 2=>True | 3=>True | 4=>True | 5=>True | 6=>True | 7=>True | 8=>True | 9=>True | 10=>σ 116= .slice (sA (β 116)) 1 1∧X 8=eO 9 1 (.slice (sA (β 116)) 1 1) 1 ([.string (((keepW w1.fm nd.es).getD j2 en0).1)]) | 11=>σ 117= .slice (sA (β 117)) (tm+1) (sC (β 117))∧X 9=eO 9 1 (.slice (sA (β 117)) (tm+1) (sC (β 117))) (tm+1) ((T++[(((keepW w1.fm nd.es).getD j2 en0).1)]).map Value.string) | 12=>σ 10= .slice (sA (β 117)) (tm+1) (sC (β 117)) | _=>True) [0,1,2,3,5,6,7,8,9] [3,4,7,8,9,10,11,12] [(10,12,1,11),(95,0,12,107)] hst115 ?_ ?_ ?_
     ·exact fun ix _ _ _ _ _ _ hs hb hx h=>match ix,h with
      | 10,h=>by dsimp only; rw [← hs 116 rfl,← hb 116 rfl,← hx 8 rfl]; exact h
      | 11,h=>by dsimp only; rw [← hs 117 rfl,← hb 117 rfl,← hx 9 rfl]; exact h
      | 12,h=>by dsimp only; rw [← hs 10 rfl,← hb 117 rfl]; exact h
      | 0, _ | 1, _ | 2, _ | 3, _ | 4, _ | 5, _ | 6, _ | 7, _ | 8, _ | 9, _ | _+13, _=>trivial
     ·refine ⟨?_,?_,?_,?_,?_,?_,?_,?_,trivial⟩
      ·exact xs4 rfl id fun cx=>run_indexSl (e:=9) (m:=j2) rfl (by kernel_rfl) (by kernel_rfl) (cx.an 1) (cx.an 2) (by omega) (by omega) (At.of_own (cx.ri 6 rfl)) (by rw [List.length_map]<;>omega)
      ·exact xs4 rfl id fun cx=>run_load1 rfl (by kernel_rfl) (cx.an 3) (At.cellAd (At.of_own (cx.ri 6 rfl)) (tqS_getW (by omega)))
      ·exact xs4 rfl id fun cx=>run_indexSlM (e:=31) (m:=j2) (sz:=2) rfl (by kernel_rfl) (by kernel_rfl) (cx.an 5) (cx.an 6) (by omega) (by omega) (At.of_ownN (cx.ri 7 rfl)) (flatPos (sz:=2) tqR_len (by decide) (by omega))
      ·exact xs4 rfl id fun cx=>run_loadElt (f:=tqR) (m:=j2) (sz:=2) (off:=0) (n:=2) rfl (by kernel_rfl) (by kernel_rfl) (cx.an 7) rfl tqR_len (At.of_ownN (cx.ri 7 rfl)) (en_get (by omega)) (fun k hk=>match k,hk with | 0, _=>rfl | 1, _=>rfl | k+2,hk=>absurd hk (by omega))
      ·exact xsc rfl id rfl rfl fun cx=>⟨_,kentry_e _ he1_ (by omega),(map2 (cx.an 4) (cx.an 8))⟩
      ·refine svA fun ρ β W X cx=>?_
       have fF115:ρ (.tmp 115)= .string (((keepW w1.fm nd.es).getD j2 en0).1):=(cx.an 9)
       exact dv_lit (e:=9) (xs:=[.string (((keepW w1.fm nd.es).getD j2 en0).1)]) rfl (by simp [go_sem,fF115]) rfl (by decide) rfl rfl (fun σ β' X' hs hb hv hx=>⟨hv,hx⟩)
      ·refine svA fun ρ β W X cx=>?_
       obtain ⟨i0,hi0,hz0,hz1,hz2⟩:=info_parts Try.infoStr
       refine dv_append (n:=tm) (m:=1) (nm:=tm+1) (xs:=T.map Value.string) (news:=[.string (((keepW w1.fm nd.es).getD j2 en0).1)]) (xs':=(T++[(((keepW w1.fm nd.es).getD j2 en0).1)]).map Value.string) rfl (ty:=49) rfl (by kernel_rfl) hi0 hz0 hz1 hz2 rfl (cx.an 0) cx (cx.init 4 _ rfl) rfl (dTn (cx.an 10)).1 (by rfl) (At.of_own (cx.row (dTn (cx.an 10)).2 rfl)) (by simp [Value.oneCell']) (by simp only [maxLen]; omega) (by omega) rfl rfl rfl (by omega) (by simp) (fun σ β' X' hs hb hv hx=>?_)
       exact ⟨hv,hx⟩
      ·exact sv rfl rfl rfl rfl rfl _ (fun _ _ _ h=>h) (fun β β' h=>by rw [h 117 (by decide)]) fun ρ β W X cx=>run_assign' rfl (dTn (cx.an 11)).1
     intro σ β X W127 hD hst127 fr hfr
     obtain ⟨A116_127,hu_A116_127⟩:∃ z,sA (β 116)=z:=⟨_,rfl⟩
     obtain ⟨A117_127,hu_A117_127⟩:∃ z,sA (β 117)=z:=⟨_,rfl⟩
     obtain ⟨c117_127,hu_c117_127⟩:∃ z,sC (β 117)=z:=⟨_,rfl⟩
     simp only [exq 8 ((dTn (hD 10 lq)).2),exq 9 ((dTn (hD 11 lq)).2),hu_A116_127,hu_A117_127,hu_c117_127] at hst127
     simp only [ed 116 ((dTn (hD 10 lq)).1),ed 117 ((dTn (hD 11 lq)).1),ed 10 ((dTn (hD 12 lq))),hu_A116_127,hu_A117_127,hu_c117_127] at hfr
     clear hD hu_A116_127 hu_A117_127 hu_c117_127; subst hfr; clear σ β X
     refine blk_normal (then_normal (sqr (sqp [.m 104 19,sI 105 ((j2:Int)+1) (by omega), .m 19 105] ?_)))
     refine then_normal ?_
     refine ⟨(keepW w1.fm nd.es).length - ((j2+1)),by omega,?_⟩
     exact ⟨(j2+1),(T++[((keepW w1.fm nd.es).getD j2 en0).1]),A117_127,(tm+1),c117_127,by omega,by rw [hT,tk_fst (by omega),List.append_assoc],by rw [List.length_append,hTl]; rfl,rfl,(by kernel_rfl),hst127.pk [0,1,2,3,8,4,5,6]⟩
    have hs126p:=hs126
    simp only [zB] at hs126p
    refine wp_exit (then_exit (then_exit (blk_eq (then_normal (wp_seq (sqr (sqp [.k 118 (.bool true), .k 11 (.bool true)] ?_)))))))
    refine then_normal (wp_exit (then_exit (blk_eq (then_normal (sqr (sqp [.m 59 12,sI 60 ((i:Int)+1) (by omega), .m 12 60] ?_))))))
    refine then_normal ?_
    refine ⟨6000 - ((i+1)),by omega,?_⟩
    exact ⟨(i+1),ps,fb,nx,L2,f2,(wkL w1 nd),true,T,TB,tm,tcc,by omega,hpb.mono (by omega),hc8,by omega,hpuM,hfst,hfz2,hTl,by rw [hT,List.take_of_length_le (l:=(keepW w1.fm nd.es)) (by omega)]; exact hbs2,rfl,(by kernel_rfl),hst115.pk [0,1,2,3,5,4]⟩
  have hs85p:=beq_eq_false_iff_ne.1 hs85
  refine wp_skip (then_normal (wp_seq ?_))
  have hkL:kn < L2.length:=by omega
  have hmp_:=hpu _ (mem_getq hkL)
  obtain ⟨R,hR⟩:∃ z,stepF ps (L2.getD kn qz).2 nx=z:=⟨_,rfl⟩
  have hpu1:=hmp_.1
  have hpl:=hpu1.len
  have hte:∀ t∈(L2.getD kn qz).2.left,t.1.size≤900000∧0≤t.2.1∧t.2.1≤90000:=fun t ht=>by have h_:=hpu1.left t ht; omega
  have hss:=step_sz (fresh:=nx) hpb hpu1
  have hed9:=stepF_len (fresh:=nx) (p:=(L2.getD kn qz).2) hok
  have hc82:=step_c8 (p:=(L2.getD kn qz).2) (fresh:=nx) hc8 hok (by rw [hmp_.2]; omega)
  have hrt2:=(root_step ps (L2.getD kn qz).2 nx).trans hmp_.2
  have hsw:i < 300∨i % (ms2.length+1)=kn:=by rcases hk3 with h_ | h_; exact .inl h_; exact .inr (by rw [hml,← hpn,← h_])
  have hbp_:=bs_put hbs (j:=kn) (by omega) hsw (R:=R) (by rw [q_snd hkL]; exact hR)
  rw [hR] at hss hed9 hc82 hrt2
  have her:=hbp_.1
  have hbs2:=hbp_.2
  have hedm:=hss.1
  have hedl:R.2.eds.length≤100000:=by omega
  have hqs_:=q_set (p:=R.1) hkL
  have hpu2:∀ p∈(L2.set kn ((L2.getD kn qz).1,R.1)).map Prod.snd,PuM (24016+10*(i+1)) (i+1+1) p∧p.root=0:=fun p hp=>by rw [hqs_.1] at hp; rcases List.mem_or_eq_of_mem_set hp with hp | rfl; exact ⟨(hpu p hp).1.more,(hpu p hp).2⟩; exact ⟨hss.2,hrt2⟩
  refine wp_region_Y [0,0,3,7,0,16,0,127,255,511,511,511,1023,6143,16383] [[],[],[2],[2],[],[],[],[3,1]] [[],[],[],[],[],[],[],[6,7]] [[],[],[],[],[],[],[],[3]] [.k 120 (.slice PA pn pc), .k 121 (vi ((kn:Int))), .c 122 (.pointer (some ((ad PA).add kn))), .c 123 (.pointer (some ⟨(L2.getD kn qz).1,0,none⟩)), .k 124 (vp B29_10), .c 125 (.iface 24 (vp B29_10)), .k 126 (vi nx), .a 127, .a 119, .a 128, .c 129 (.bool R.2.used), .c 130 (vi R.2.err), .a 20, .k 21 (.bool R.2.used), .k 22 (vi R.2.err)] (fun ix σ β X=>match ix with | 0=>True | 1=>True | 2=>True | 3=>True | 4=>True | 5=>True | 6=>True | 7=>σ 127= .tuple #[.slice (sA (tg (β 127) 0)) R.2.eds.length (sC (tg (β 127) 0)), .bool R.2.used,vi R.2.err]∧X 6=ePks (L2.set kn ((L2.getD kn qz).1,R.1)) ((X 6).fp)∧X 7=eO 99 3 (.slice (sA (tg (β 127) 0)) R.2.eds.length (sC (tg (β 127) 0))) R.2.eds.length (R.2.eds.flatMap edC) | 8=>σ 119= .tuple #[.slice (sA (tg (β 127) 0)) R.2.eds.length (sC (tg (β 127) 0)), .bool R.2.used,vi R.2.err] | 9=>σ 128= .slice (sA (tg (β 127) 0)) R.2.eds.length (sC (tg (β 127) 0)) | 10=>True | 11=>True | 12=>σ 20= .slice (sA (tg (β 127) 0)) R.2.eds.length (sC (tg (β 127) 0)) | _=>True) [0,1,2,4,5,6,7] [2,3,5,7,8,9,10,11,12] [(20,12,3,23),(96,8,1,97),(0,0,8,8),(0,9,3,3)] hst79 ?_ ?_ ?_
  ·exact fun ix _ _ _ _ _ _ hs hb hx h=>match ix,h with
   | 7,h=>by dsimp only; rw [← hs 127 rfl,← hb 127 rfl,← hx 6 rfl,← hx 7 rfl]; exact h
   | 8,h=>by dsimp only; rw [← hs 119 rfl,← hb 127 rfl]; exact h
   | 9,h=>by dsimp only; rw [← hs 128 rfl,← hb 127 rfl]; exact h
   | 12,h=>by dsimp only; rw [← hs 20 rfl,← hb 127 rfl]; exact h
   | 0, _ | 1, _ | 2, _ | 3, _ | 4, _ | 5, _ | 6, _ | 10, _ | 11, _ | _+13, _=>trivial
  ·refine ⟨?_,?_,?_,?_,?_,?_,?_,?_,?_,trivial⟩
   ·exact xs4 rfl id fun cx=>run_indexSl (e:=26) (m:=kn) rfl (by kernel_rfl) (by kernel_rfl) (cx.an 0) (cx.an 1) (by omega) (by omega) (At.of_own (cx.ri 2 rfl)) (by rw [List.length_map]<;>omega)
   ·exact xs4 rfl id fun cx=>run_load1 rfl (by kernel_rfl) (cx.an 2) (At.cellAd (At.of_own (cx.ri 2 rfl)) (vpQ_get (by omega) hfst))
   ·exact sv0 rfl rfl rfl rfl rfl (fun _ _ _ h=>h) fun ρ β W X cx=>by
     have fF124:ρ (.tmp 124)=vp B29_10:=(cx.an 4)
     simp [go_sem,fF124]
   ·refine svA fun ρ β W X cx=>?_
    refine DoesU.call (run_callF (args:=#[.pointer (some ⟨(L2.getD kn qz).1,0,none⟩), .iface 24 (vp B29_10),vi nx]) rfl cx.sees rfl (by kernel_rfl) (map3 (cx.an 3) (cx.an 5) (cx.an 6))) ?_
    refine (kq_to hR (kstep_q (CtxV.holdF cx (cx.init 3 _ rfl) rfl) (CtxV.ltF cx (cx.init 3 _ rfl) rfl) (q_at hkL) (CtxV.bkU cx (cx.init 1 _ rfl) (cx.init 3 _ rfl) rfl rfl (by decide)) hok hoc (by omega) hte (by omega))).mono ?_
    rintro e W1 ⟨A4,c4,rfl,fp4,hs4⟩
    refine ⟨_,rfl,post_obj (E:=ePks L2 f2) [ePks (L2.set kn ((L2.getD kn qz).1,R.1)) fp4,eO 99 3 (.slice A4 R.2.eds.length c4) R.2.eds.length (R.2.eds.flatMap edC)] (cx.init 3 _ rfl) rfl rfl hs4 (fun σ β' X' hs hb hv hN=>?_)⟩
    have hv1:=(hv 127 rfl).1; have hv2:=(hv 127 rfl).2
    exact ⟨hv1.trans (by rw [hv2]; rfl),ePks_self ((List.cons.inj hN).1),(by rw [hv2]; exact (List.cons.inj (List.cons.inj hN).2).1)⟩
   ·exact sv rfl rfl rfl rfl rfl _ (fun _ _ _ h=>h) (fun β β' h=>by rw [h 127 (by decide)]) fun ρ β W X cx=>run_move' rfl (dTn (cx.an 7)).1
   ·exact sv rfl rfl rfl rfl rfl _ (fun _ _ _ h=>h) (fun β β' h=>by rw [h 127 (by decide)]) fun ρ β W X cx=>run_extract' rfl (dTn (cx.an 8)) rfl
   ·exact xs4 rfl id fun cx=>run_extract' rfl (dTn (cx.an 8)) rfl
   ·exact xs4 rfl id fun cx=>run_extract' rfl (dTn (cx.an 8)) rfl
   ·exact sv rfl rfl rfl rfl rfl _ (fun _ _ _ h=>h) (fun β β' h=>by rw [h 127 (by decide)]) fun ρ β W X cx=>run_assign' rfl (dTn (cx.an 9))
  intro σ β X W136 hD hst136 fr hfr
  obtain ⟨A127_136,hu_A127_136⟩:∃ z,sA (tg (β 127) 0)=z:=⟨_,rfl⟩
  obtain ⟨c127_136,hu_c127_136⟩:∃ z,sC (tg (β 127) 0)=z:=⟨_,rfl⟩
  have xX6:X 6= _:=(dTn (hD 7 lq)).2.1
  obtain ⟨r6_136,hu_r6_136⟩:∃ z,(X 6).fp=z:=⟨_,rfl⟩
  rw [hu_r6_136] at xX6
  clear hu_r6_136
  simp only [xX6,exq 7 ((dTn (hD 7 lq)).2.2),hu_A127_136,hu_c127_136] at hst136
  simp only [ed 127 ((dTn (hD 7 lq)).1),ed 119 ((dTn (hD 8 lq))),ed 128 ((dTn (hD 9 lq))),ed 20 ((dTn (hD 12 lq))),hu_A127_136,hu_c127_136] at hfr
  clear hD xX6 hu_A127_136 hu_c127_136; subst hfr; clear σ β X
  refine then_normal (wp_seq (wp_seq (sqr ?_)))
  have hd139:(R.2.err != 0)=false:=(by rw [her]; rfl)
  refine sqp [.m 131 22, .e 132 (.bool (R.2.err != 0)) (.bool false) (congrArg Value.bool hd139)] ?_
  refine then_normal (wcf rfl (wp_skip (then_normal ?_)))
  refine wp_cutT (fun t_ az W=>∃ nx2:Int,(nx2=if R.2.used then nx+1 else nx)∧az=⟨(ovr (jv az) [(9,9,0,[vi nx2]),(123,133,3,[])] t_).toArray,[]⟩∧St w [] [eB B1_1 75 #[.slice A n0 c, .slice M m0 mc, .slice Kp k0 kc,vi x],eBk B29_10 ps fb,eO 26 1 (.slice PA pn pc) pn (L.map vpQ),eB B56_45 145 #[vi wk.pos,vi wk.st, .string wk.fm, .bool wk.fin],eO 9 1 (.slice TA tn tc) tn (told.map Value.string),ePks (L2.set kn ((L2.getD kn qz).1,R.1)) r6_136,eO 99 3 (.slice A127_136 R.2.eds.length c127_136) R.2.eds.length (R.2.eds.flatMap edC)] W) ?_ ?_
  ·refine wp_seq (sqr (sqp [.m 133 21] ?_))
   refine then_normal (wbs (fun hs142=>?_) fun hs142=>?_)
   ·refine sqr (sqp [.m 134 9,sI 135 (nx+1) (by omega), .m 9 135] ?_)
    refine then_normal ?_
    exact ⟨(nx+1),by rw [hs142]; rfl,(by kernel_rfl),hst136.pk [0,1,2,3,4,5,6]⟩
   refine wp_skip (then_normal ?_)
   exact ⟨nx,by rw [hs142]; rfl,(by kernel_rfl),hst136.pk [0,1,2,3,4,5,6]⟩
  rintro a140 W140 ⟨nx2,hnx2,hj_,hst140⟩
  refine ovz hj_ fun u140_=>?_
  have hnx3:nx≤nx2∧nx2≤nx+1:=by rw [hnx2]; split<;>omega
  refine wp_seq (sqr (sqp [.m 136 5, .m 137 20] ?_))
  refine sqc0s (fun X_=>X_.fp) (.tuple #[]) (fun r7_148=>eBk B29_10 (doB ps R.2.eds) r7_148) 1 hst140 (by
    refine svA fun ρ β W X cx=>?_
    refine DoesU.call (run_callF (args:=#[vp B29_10, .slice A127_136 R.2.eds.length c127_136]) rfl cx.sees rfl (by kernel_rfl) (map2 (cx.ou 136) (cx.ou 137))) ?_
    refine (rdo_any B29_10 ps _ 60 _ _ R.2.eds _ (CtxV.holdF cx (cx.init 1 _ rfl) rfl) (CtxV.ltF cx (cx.init 1 _ rfl) rfl) (CtxV.keepAt cx (cx.init 6 _ rfl) (cx.init 1 _ rfl) rfl rfl (by decide)) hedl hp60 (by decide) hpb.its).mono ?_
    rintro e W1 ⟨rfl,fp4,hs4⟩
    refine ⟨_,rfl,post_obj (E:=eBk B29_10 ps fb) [eBk B29_10 (doB ps R.2.eds) fp4] (cx.init 1 _ rfl) rfl rfl hs4 (fun σ β' X' hs hb hv hN=>?_)⟩
    have hv1:=(hv 138 rfl).1; have hv2:=(hv 138 rfl).2
    exact ⟨hv1.trans rfl,eBk_self ((List.cons.inj hN).1)⟩) fun r7_148 W148 hst148=>?_
  refine then_normal (wp_seq ?_)
  have hck2:=(bs_check hbs2).1
  have hnk2:(doB ps R.2.eds).length≤1000:=by rw [doB_len]; exact hnk
  have hok2:=((hpb.mono (by omega:24016+10*i≤24016+10*i+10)).do hedm).ok (by omega) hnk2
  have hoc2:=hc82.okc
  refine sqr (sqp [.m 139 20, .k 140 (vi ((R.2.eds.length:Int))), .k 141 (.bool (decide (0 < (R.2.eds.length:Int)))), .m 142 141] ?_)
  refine sqwW 142 [143,144,145,146] ?_ hst148 rfl (fun hq=>?_) fun W157 hst157=>?_
  rotate_left
  ·refine sqp [.m 143 5] ?_
   refine sqv (.iface 24 (vp B29_10)) hst148 (by
     exact sv0 rfl rfl rfl rfl rfl (fun _ _ _ h=>h) fun ρ β W X cx=>by
      have fF143:ρ (.tmp 143)=vp B29_10:=(cx.ou 143)
      simp [go_sem,fF143]) fun W154 hst154=>?_
   refine sqk (vi ((checkF (doB ps R.2.eds) 0))) hst154 (fun cx=>⟨_,kcheck_g _ _ 0 (doB ps R.2.eds) _ (book_ok (eBk_at (CtxV.holdF cx (cx.init 1 _ rfl) rfl)) hnk2) hok2 hoc2,(map2 (cx.ou 144) (cx.co _))⟩) fun W155 hst155=>?_
   refine sqp [.k 146 (.bool ((checkF (doB ps R.2.eds) 0) != 0))] ?_
   exact sqE hst155
  refine sqwx ?_
  have hd159:((decide (0 < (R.2.eds.length:Int)))&&((checkF (doB ps R.2.eds) 0) != 0))=false:=(by rw [hck2]; simp)
  refine sqp [sPak 147 (decide (0 < (R.2.eds.length:Int))) ((checkF (doB ps R.2.eds) 0) != 0) false hd159] ?_
  refine then_normal (wcf rfl (wp_skip (blk_normal (then_normal (sqr (sqp [.m 59 12,sI 60 ((i:Int)+1) (by omega), .m 12 60] ?_))))))
  refine then_normal ?_
  refine ⟨6000 - ((i+1)),by omega,?_⟩
  exact ⟨(i+1),(doB ps R.2.eds),r7_148,nx2,(L2.set kn ((L2.getD kn qz).1,R.1)),r6_136,wk,mo,told,TA,tn,tc,by omega,(hpb.mono (by omega)).do hedm,hc82,by omega,hpu2,hqs_.2.trans hfst,hfz,htn,by rw [hqs_.1,hnx2]; exact hbs2,rfl,(by kernel_rfl),hst157.pk [0,1,2,5,3,4]⟩
 refine wp_exit (then_exit (then_exit (blk_eq (then_normal (wp_seq (wp_seq ?_))))))
 obtain rfl:i=6000:=by omega
 obtain ⟨hmo,hdn,hal,hin,hrs,hct⟩:=bs_end hbs htkl (by omega)
 have hen_:=bs_ent hbs htkl (by omega)
 have htl9:=hen_.2.2.2
 subst hmo
 subst htn
 refine sqr (sqp [.k 23 (vi 0)] ?_)
 refine then_normal (wp_block ?_)
 refine wp_loopT (fun t_ mz az W=>∃ j2:Nat,j2≤pn∧mz=pn - j2∧az=⟨(ovr (jv az) [(2,2,1,[]),(20,23,0,[vi ((j2:Int))]),(124,148,12,[])] t_).toArray,[]⟩∧St w [] [eB B1_1 75 #[.slice A n0 c, .slice M m0 mc, .slice Kp k0 kc,vi x],eBk B29_10 ps fb,eO 26 1 (.slice PA pn pc) pn (L.map vpQ),ePks L2 f2,eB B56_45 145 #[vi wk.pos,vi wk.st, .string wk.fm, .bool wk.fin],eO 9 1 (.slice TA told.length tc) told.length (told.map Value.string)] W) (pn - 0) ?_ ?_
 · -- the loop begins
   exact ⟨0,Nat.zero_le _,rfl,(by kernel_rfl),hst52.pk [0,1,2,3,4,5]⟩
 rintro n164 a164 W164 ⟨j2,hj2,rfl,hj_,hst164⟩
 refine ovz hj_ fun u164_=>?_
 refine wp_seq (wp_seq (sqr (sqp [.m 148 23, .m 149 6, .k 150 (vi ((pn:Int))), .k 151 (.bool (decide ((j2:Int) < (pn:Int))))] ?_)))
 refine then_normal (wds (fun hs169 hs169p=>?_) fun hs169 hs169p=>?_)
 ·refine wp_skip (then_normal (wp_seq (wp_block (wp_seq ?_))))
  have hd_:(L2.getD j2 qz).2.left=[]:=by rw [← q_snd (d:=pu0) (by omega)]; exact hdn j2 (by omega)
  refine sqr (sqp [.m 154 6, .m 155 23] ?_)
  refine sql (.pointer (some ((ad PA).add j2))) hst164 (fun cx=>run_indexSl (e:=26) (m:=j2) rfl (by kernel_rfl) (by kernel_rfl) (cx.ou 154) (cx.ou 155) (by omega) (by omega) (At.of_own (cx.ri 2 rfl)) (by rw [List.length_map]<;>omega)) ?_
  refine sql (.pointer (some ⟨(L2.getD j2 qz).1,0,none⟩)) hst164 (fun cx=>run_load1 rfl (by kernel_rfl) (cx.ou 156) (At.cellAd (At.of_own (cx.ri 2 rfl)) (vpQ_get (by omega) hfst))) ?_
  refine sqk (.bool (((L2.getD j2 qz).2.left.length:Int)==0)) hst164 (fun cx=>⟨_,kdone_q (CtxV.holdF cx (cx.init 3 _ rfl) rfl) (q_at (by omega)),(map1 (cx.ou 157))⟩) fun W174 hst174=>?_
  have hd176:(!(((L2.getD j2 qz).2.left.length:Int)==0))=false:=(by rw [hd_]; rfl)
  refine sqp [.e 159 (.bool (!(((L2.getD j2 qz).2.left.length:Int)==0))) (.bool false) (congrArg Value.bool hd176)] ?_
  refine then_normal (wcf rfl (wp_skip (blk_normal (then_normal (sqr (sqp [.m 152 23,sI 153 ((j2:Int)+1) (by omega), .m 23 153] ?_))))))
  refine then_normal ?_
  refine ⟨pn - ((j2+1)),by omega,?_⟩
  exact ⟨(j2+1),by omega,rfl,(by kernel_rfl),hst174.pk [0,1,2,3,4,5]⟩
 refine wp_exit (then_exit (then_exit (blk_eq (then_normal (wp_seq (sqr (sqp [.k 160 (.bool true), .k 161 (.bool true)] ?_)))))))
 refine sqgy 161 [162,163] rfl rfl ?_
 refine sqp [.k 162 (.bool false), .k 163 (.bool true)] ?_
 refine sqp [.k 164 (.bool true), .k 165 (.bool true)] ?_
 refine sqgy 165 [166,167,168,169,170] rfl rfl ?_
 refine sqp [.m 166 5, .m 167 4, .m 168 6, .k 169 (vi ((pn:Int)))] ?_
 refine sqk (.bool true) hst164 (fun cx=>⟨_,lall_any _ _ _ _ pn (l.take nl) ps _ (eBk_at (CtxV.holdF cx (cx.init 1 _ rfl) rfl)) hnk hok hoc (At.take_mapI (hA.ext cx.upd.to_ext) nl) htl_ (by omega) (by omega) (by rw [hal]; omega) hen_.2.1 (fun j_ hj_=>hin j_ (by omega)) (fun i_ hi_=>have h_:=(hen_.1 _ (getD_memE hi_)).parts; ⟨h_.1,h_.2.1⟩),(map3 (cx.ou 166) (cx.ou 167) (cx.ou 169))⟩) fun W190 hst190=>?_
 refine sqp [.k 171 (.bool true), .k 172 (.bool true)] ?_
 refine sqgy 172 [173,174,175,176,177] rfl rfl ?_
 refine sqp [.m 173 10, .m 174 4, .k 175 (.pointer (some ⟨B1_1,3,none⟩))] ?_
 refine sqld 0 hst190 ?_
 refine sqk (.bool true) hst190 (fun cx=>⟨_,lcame_any _ _ _ _ _ told (l.take nl) x _ (At.of_own (cx.ri 5 rfl)) (by omega) (At.take_mapI (hA.ext cx.upd.to_ext) nl) htl_ (by omega) (fun t ht=>(hen_.2.2.1 t ht).parts.2.2.2) hrs (fun j_ hj_=>hct j_ (by omega)),(map3 (cx.ou 173) (cx.ou 174) (cx.ou 176))⟩) fun W197 hst197=>?_
 refine sqp [.k 178 (.bool true), .k 2 (.bool true)] ?_
 refine then_normal (wp_ret ?_)
 refine bpr (.bool true) (results_1 Try.results6 rpt) ?_
 exact Ret.bool rfl hst197.ext
end
section
open Go.ChangeShapes Go.WideShapes Go.ChangeAt Go.RowKit Go.Deep Go.Joins
theorem ownKnob_none:ownKnob Try.prog.godebug=none:=by kernel_rfl
theorem laidOut:laidOutB Try.prog=true:=by kernel_rfl
section
variable {H:Type} {enc:TypeId×Value→H} {P:Program}
theorem trodAll_stays (hl:laidOutB P=true) {W W':World} {sp:Nat→Bool}:∀ {ts:List TypeId} {vs:List Value} {ds:List (DataW H)} {ps:List MemPlace},(∀ t∈ts,P.readableRec t=true∧t < P.types.size)→
  DataW.TrodAll enc P W 0 (fun _=>true) true ts vs ds ps→(∀ p∈ps,W.sameAt W' p)→(∀ p∈ps,sp p.block=true)→DataW.TrodAll enc P W' 0 sp true ts vs ds ps
 | [],[],[], _, _,h, _, _=>h
 | t:: _, _:: _, _:: _, _,hT,⟨p,q,h1,h2,e⟩,hsm,hs=>
   ⟨p,q,WideElems.Trod_stays hl (hT t (by simp)).1 (hT t (by simp)).2 h1 (fun x hx=>hsm x (by rw [e]; exact List.mem_append_left _ hx)) (fun x hx=>hs x (by rw [e]; exact List.mem_append_left _ hx)),
     trodAll_stays hl (fun t ht=>hT t (by simp [ht])) h2 (fun x hx=>hsm x (by rw [e]; exact List.mem_append_right _ hx)) (fun x hx=>hs x (by rw [e]; exact List.mem_append_right _ hx)),e⟩
/-- THE POST OF A LAW: true, and the input reads as it did, where the call wrote nothing that was there. -/
theorem law_post {f:Func} {s:ChangeSpec} {fresh handsOn again:Bool} {W W':World} {args:Array Value} {ds gs:List (DataW H)} {before:List MemPlace} {tb:TypeId}
  (hl:laidOutB P=true) (hT:∀ t∈f.params.toList,P.readableRec t=true∧t < P.types.size) (hr:f.resultTypes=#[tb]) (hb:P.underlying tb=some .bool)
  (hW:DataW.Whole enc P f.params.toList s.vars false W args.toList ds gs before) (hvs:s.vars=[])
  (hres:(s.fn H (ds++gs)).results=[.lit (.bool true)]) (hargs:(s.fn H (ds++gs)).args=ds) (hvars:(s.fn H (ds++gs)).vars=[]) (hx:Ext W W'):
  s.post enc P f false fresh handsOn again W args (.bool true) W':=by
 have hlt:∀ p∈before,p.block < W.heap.size:=fun p hp=>hW.lt p hp
 have hold:∀ p∈before,(fun b=>decide (b < W.heap.size)) p.block=true:=fun p hp=>by simpa using hlt p hp
 have hW0:=hW
 obtain ⟨p,q,hA,hV,rfl,hz,hn⟩:=hW
 rw [hvs] at hV
 obtain ⟨rfl,rfl⟩:=trodVars_none hV
 rw [List.append_nil] at hlt hold hz
 have HA:∀ sp:Nat→Bool,(∀ x∈p,sp x.block=true)→DataW.TrodAll enc P W' 0 sp true f.params.toList args.toList (s.fn H (ds++[])).args p:=fun sp hs=>by
  rw [hargs]
  exact trodAll_stays hl hT hA (fun x hx'=>hx.out.same (hlt x hx')) hs
 have HR:∀ (b:Nat) (sp:Nat→Bool) (hd:Bool),DataW.TrodAll enc P W' b sp hd f.resultTypes.toList ((Value.bool true).resultList f.resultTypes.size) (s.fn H (ds++[])).results []:=fun b sp hd=>by
  rw [hres,hr]
  exact trodAll_cons_mk (shut_bool hb _) trodAll_mk0
 have HV:∀ sp:Nat→Bool,DataW.TrodVars enc P W' sp s.vars (s.fn H (ds++[])).vars []:=fun sp=>by
  rw [hvs,hvars]
  rfl
 refine ⟨ds,[],p++[],[],p,[],hW0,HR _ _ _,HA _ hold,HV _,World.keptBut_mono (fun x hx'=>⟨hx',?_⟩) (hx.out.frame (·∈p++[])),fun _=>?_⟩
 ·rw [List.append_nil] at hx'
  exact Or.inr (Or.inl hx')
 ·refine ⟨?_, _, _,([]++p)++[],⟨[]++p,[],trodAll_append (HA _ (fun _ _=>rfl)) (HR _ _ _),HV _,rfl,?_,fun ha=>by cases ha⟩,?_⟩
  ·exact ok_one hr rfl (okWide_bool_mk hb _)
  ·intro b off hp
   have hin:MemPlace.cell b off∈p:=by simpa using hp
   rw [hx.out.frozen (hlt _ hin)]
   exact hz b off hin
  ·intro x hx' _
   simpa using hx'
end
end
section
open Go.ChangeShapes Go.WideShapes Go.ChangeAt Go.RowKit Go.Deep Go.Joins
/-- the shape of a type; 'sl e by': a slice, an element takes 'by' bytes; 'st': a struct or an array -/
inductive Sh where
 | int (k:IntKind)
 | bool
 | str
 | sl (e:Sh) (bs:Nat)
 | st (fs:List Sh)
mutual
def Sh.n:Sh→Nat
 | .st fs=>Sh.ns fs
 | .int _=>1
 | .bool=>1
 | .str=>1
 | .sl _ _=>1
def Sh.ns:List Sh→Nat
 | []=>0
 | f::fs=>f.n+Sh.ns fs
end
mutual
def Shows (w:World):Sh→List Value→Prop
 | .int k,cs=>∃ z,cs=[.int k z]∧(Lit.int k z).wf=true
 | .bool,cs=>∃ b,cs=[.bool b]
 | .str,cs=>∃ s:ByteArray,cs=[.string s]∧s.size≤140737488351232
 | .sl e bs,cs=>∃ (A:Option Addr) (n c:Nat) (xs:List Value),cs=[.slice A n c]∧At w A xs∧xs.length=n*e.n∧n≤c∧c*bs≤140737488351232∧∀ i,i < n→Shows w e ((xs.drop (i*e.n)).take e.n)
 | .st fs,cs=>ShowsL w fs cs
def ShowsL (w:World):List Sh→List Value→Prop
 | [],cs=>cs=[]
 | f::fs,cs=>∃ a b,cs=a++b∧Shows w f a∧ShowsL w fs b
end
mutual
def Sh.fits (P:Program):Sh→TypeId→Bool
 | .int k,t=>match P.underlying t with | some (.int k')=>decide (k'=k) | _=>false
 | .bool,t=>match P.underlying t with | some .bool=>true | _=>false
 | .str,t=>match P.underlying t with | some .string=>true | _=>false
 | .sl e bs,t=>match P.underlying t with | some (.slice u)=>e.fits P u&&decide (P.cellsOf u=e.n)&&decide (P.bytesOf u=bs)&&decide (0 < e.n) | _=>false
 | .st fs,t=>match P.underlying t with
   | some (.struct gs)=>decide (P.cellsOf t=Sh.ns fs)&&Sh.fitsF P fs gs.toList 0
   | some (.array n u)=>decide (P.cellsOf t=Sh.ns fs)&&decide (fs.length=n)&&Sh.fitsA P fs u
   | _=>false
def Sh.fitsF (P:Program):List Sh→List Field→Nat→Bool
 | [],[], _=>true
 | f::fs,g::gs,off=>decide (g.offset=off)&&decide (P.cellsOf g.type=f.n)&&f.fits P g.type&&Sh.fitsF P fs gs (off+f.n)
 | _, _, _=>false
def Sh.fitsA (P:Program):List Sh→TypeId→Bool
 | [], _=>true
 | f::fs,u=>decide (P.cellsOf u=f.n)&&f.fits P u&&Sh.fitsA P fs u
end
theorem mapM_at {α β:Type} {f:α→Option β}:∀ {l:List α} {ys:List β},l.mapM f=some ys→ys.length=l.length∧∀ (i:Nat) (a:α),l[i]? =some a→f a=ys[i]?
 | [],ys,h=>by simp at h; subst h; simp
 | a::l,ys,h=>by
   simp only [List.mapM_cons,Option.bind_eq_bind,Option.pure_def,Option.bind_eq_some_iff] at h
   obtain ⟨b,hb,bs,hbs,he⟩:=h
   obtain rfl:b::bs=ys:=by simpa using he
   obtain ⟨h1,h2⟩:=mapM_at hbs
   refine ⟨by simp [h1],fun i x hx=>?_⟩
   cases i with
   | zero=>simp at hx; subst hx; simpa using hb
   | succ i=>simpa using h2 i x (by simpa using hx)
section
variable {H:Type} {enc:TypeId×Value→H} {P:Program}
theorem weightsAll_at {e:TypeId}:∀ {ds:List (DataW H)} (i:Nat) (d:DataW H),ds[i]? =some d→∀ x∈d.weights P e,x∈DataW.weightsAll P e ds
 | [],i,d,h,x,hx=>by simp at h
 | d0::ds,0,d,h,x,hx=>by
   simp at h; subst h
   simp only [DataW.weightsAll,List.mem_append]; exact .inl hx
 | d0::ds,i+1,d,h,x,hx=>by
   simp only [DataW.weightsAll,List.mem_append]
   exact .inr (weightsAll_at i d (by simpa using h) x hx)
/-- the cells of a slice's elements -/
theorem cells_row {w:World} {a:Addr} {m len:Nat} (hm:0 < m) (h:∀ i,i < len→∃ csi,w.cells? 0 (a.add (i*m)) m=some csi):
  ∃ xs:List Value,xs.length=len*m∧At w (some a) xs∧∀ i,i < len→∀ csi,w.cells? 0 (a.add (i*m)) m=some csi→(xs.drop (i*m)).take m=csi:=by
 have key:∀ i,i < len→∀ csi,w.cells? 0 (a.add (i*m)) m=some csi→csi.length=m∧∀ r,r < m→w.cell? (a.add (i*m+r))=csi[r]? :=by
  intro i hi csi hc
  unfold World.cells? at hc
  rw [if_pos (Nat.zero_le _)] at hc
  obtain ⟨h1,h2⟩:=mapM_at hc
  refine ⟨by simpa using h1,fun r hr=>?_⟩
  have:=h2 r r (by simp [hr])
  rw [add_add'] at this
  exact this
 have each:∀ j,j < len*m→∃ u,w.cell? (a.add j)=some u:=by
  intro j hj
  have hi:j / m < len:=by rw [Nat.div_lt_iff_lt_mul hm]; exact hj
  obtain ⟨csi,hc⟩:=h _ hi
  obtain ⟨h1,h2⟩:=key _ hi _ hc
  have hr:=Nat.mod_lt j hm
  have:=h2 _ hr
  rw [show j / m*m+j % m=j by rw [Nat.mul_comm]; exact Nat.div_add_mod j m] at this
  rw [List.getElem?_eq_getElem (by omega)] at this
  exact ⟨_,this⟩
 refine ⟨(List.range (len*m)).map fun j=>(w.cell? (a.add j)).getD undef,by simp,fun j u hu=>?_,fun i hi csi hc=>?_⟩
 ·rw [List.getElem?_map] at hu
  rcases Nat.lt_or_ge j (len*m) with hj | hj
  ·obtain ⟨v,hv⟩:=each j hj
   rw [List.getElem?_range hj] at hu
   simp only [Option.map_some,hv,Option.getD_some,Option.some.injEq] at hu
   subst hu
   have:=World.block_lt_of_cell? _ _ hv
   rw [add_block] at this
   exact ⟨a,rfl,this,hv⟩
  ·rw [List.getElem?_eq_none (by simpa using hj)] at hu; cases hu
 ·obtain ⟨h1,h2⟩:=key i hi csi hc
  have hb:i*m+m≤len*m:=by
   have:(i+1)*m≤len*m:=Nat.mul_le_mul_right m hi
   rw [Nat.add_mul,Nat.one_mul] at this
   exact this
  apply List.ext_getElem?
  intro r
  rw [List.getElem?_take]
  by_cases hr:r < m
  ·rw [if_pos hr,List.getElem?_drop,List.getElem?_map,List.getElem?_range (by omega),Option.map_some,h2 r hr,List.getElem?_eq_getElem (by omega)]
   rfl
  ·rw [if_neg hr,List.getElem?_eq_none (by omega)]
mutual
theorem sees_of {w:World}:∀ (s:Sh) (t:TypeId) (fuel:Nat) (cs:List Value) (x:DataW H×List MemPlace),s.fits P t=true→DataW.trod enc P w 0 (fun _=>true) true fuel t cs=some x→
  (∀ n∈x.1.weights P t,n≤reachBytes)→Shows w s cs
 | .int k,t,fuel,cs,x,hf,h,hw=>by
   simp only [Sh.fits] at hf
   split at hf
   ·rename_i k' hu
    obtain rfl:=of_decide_eq_true hf
    obtain ⟨z,hc, _,hz⟩:=DataW.trod_int hu h
    exact ⟨z,hc,hz⟩
   ·cases hf
 | .bool,t,fuel,cs,x,hf,h,hw=>by
   simp only [Sh.fits] at hf
   split at hf
   ·rename_i hu
    obtain ⟨b,hc, _⟩:=DataW.trod_bool hu h
    exact ⟨b,hc⟩
   ·cases hf
 | .str,t,fuel,cs,x,hf,h,hw=>by
   simp only [Sh.fits] at hf
   split at hf
   ·rename_i hu
    obtain ⟨s,hc,rfl, _⟩:=DataW.trod_string hu h
    refine ⟨s,hc,?_⟩
    have:=hw s.data.toList.length (by simp [DataW.weights])
    exact this
   ·cases hf
 | .sl e bs,t,fuel,cs,x,hf,h,hw=>by
   simp only [Sh.fits] at hf
   split at hf
   ·rename_i u hu
    simp only [Bool.and_eq_true,decide_eq_true_eq] at hf
    obtain ⟨⟨⟨he,hm⟩,hb⟩,hp⟩:=hf
    rcases DataW.trod_slice hu h with ⟨rfl,rfl⟩ | ⟨a,len,cap,elems,rest,n, _,rfl,rfl, _,hl, _,hlen,hel,hsp, _⟩
    ·exact ⟨none,0,0,[],rfl,At.nil _ _,by simp,by simp,by simp,fun i hi=>by omega⟩
    ·obtain ⟨hrl, _⟩:=hsp rfl
     rw [hm] at hel
     have hsz:=hw ((elems.length+rest.length)*P.bytesOf u) (by simp [DataW.weights,hu])
     rw [hlen,hrl,hb] at hsz
     have hR:reachBytes=140737488351232:=rfl
     rw [hR] at hsz
     have hex:∀ i,i < len→∃ csi y,w.cells? 0 (a.add (i*e.n)) e.n=some csi∧elems[i]? =some y∧DataW.trod enc P w 0 (fun _=>true) true n u csi=some y:=by
      intro i hi
      have h1:=hel i hi
      rw [List.getElem?_eq_getElem (by omega),Option.bind_eq_some_iff] at h1
      obtain ⟨csi,hc,hy⟩:=h1
      exact ⟨csi, _,hc,List.getElem?_eq_getElem (by omega),hy⟩
     obtain ⟨xs,hxl,hxa,hxe⟩:=cells_row (w:=w) (a:=a) (len:=len) hp (fun i hi=>let ⟨csi, _,hc, _⟩:=hex i hi; ⟨csi,hc⟩)
     refine ⟨some a,len,cap,xs,rfl,hxa,hxl,hl,?_,fun i hi=>?_⟩
     ·rw [show len+(cap - len)=cap by omega] at hsz
      exact hsz
     ·obtain ⟨csi,y,hc,hy,ht⟩:=hex i hi
      rw [hxe i hi csi hc]
      refine sees_of e u n csi y he ht fun z hz=>hw z ?_
      simp only [DataW.weights,hu,List.mem_cons,List.mem_append]
      refine .inr (.inl ?_)
      exact weightsAll_at i y.1 (by rw [List.getElem?_map,hy]; rfl) z hz
   ·cases hf
 | .st fs,t,fuel,cs,x,hf,h,hw=>by
   simp only [Sh.fits] at hf
   split at hf
   ·rename_i gs hu
    simp only [Bool.and_eq_true,decide_eq_true_eq] at hf
    obtain ⟨hc,hF⟩:=hf
    obtain ⟨xs,n, _,rfl,hcl,hxl,hat⟩:=DataW.trod_struct hu h
    have:=seesF_of fs gs.toList 0 cs xs n hF (fun i g hg=>hat i g (by rw [← hg]; exact (Array.getElem?_toList ..).symm)) (by simpa using hxl) (by omega) (fun z hz=>hw z (by simp only [DataW.weights,hu]; exact hz))
    rw [List.drop_zero,List.take_of_length_le (by omega)] at this
    exact this
   ·rename_i n u hu
    simp only [Bool.and_eq_true,decide_eq_true_eq] at hf
    obtain ⟨⟨hc,hn⟩,hF⟩:=hf
    obtain ⟨xs,m, _,rfl,hcl,hxl,hat⟩:=DataW.trod_array hu h
    have:=seesA_of fs u 0 cs xs m hF (fun i hi=>by rw [Nat.zero_add]; exact hat i (by omega)) (by omega) (by rw [Nat.zero_mul,Nat.zero_add]; omega) (fun z hz=>hw z (by simp only [DataW.weights,hu]; exact hz))
    rw [Nat.zero_mul,List.drop_zero,List.take_of_length_le (by omega)] at this
    exact this
   ·cases hf
theorem seesF_of {w:World}:∀ (fs:List Sh) (gs:List Field) (off:Nat) (cs:List Value) (xs:List (DataW H×List MemPlace)) (m:Nat),Sh.fitsF P fs gs off=true→
  (∀ (i:Nat) (g:Field),gs[i]? =some g→DataW.trod enc P w 0 (fun _=>true) true m g.type ((cs.drop g.offset).take (P.cellsOf g.type))=xs[i]?)→xs.length=gs.length→off+Sh.ns fs≤cs.length→
  (∀ n∈DataW.weightsEach P (gs.map (·.type)) (xs.map (·.1)),n≤reachBytes)→ShowsL w fs ((cs.drop off).take (Sh.ns fs))
 | [],[],off,cs,xs,m,hf,h,hx,hl,hw=>by simp [ShowsL,Sh.ns]
 | f::fs,g::gs,off,cs,xs,m,hf,h,hx,hl,hw=>by
   simp only [Sh.fitsF,Bool.and_eq_true,decide_eq_true_eq] at hf
   obtain ⟨⟨⟨ho,hc⟩,hff⟩,hF⟩:=hf
   simp only [Sh.ns] at hl
   match xs,hx with
   | y::ys,hx=>
     have h0:=h 0 g rfl
     simp only [List.getElem?_cons_zero] at h0
     rw [ho,hc] at h0
     refine ⟨(cs.drop off).take f.n,(cs.drop (off+f.n)).take (Sh.ns fs),?_,sees_of f g.type m _ y hff h0 (fun z hz=>hw z ?_),seesF_of fs gs (off+f.n) cs ys m hF (fun i g' hg=>?_) (by simpa using hx) (by omega) (fun z hz=>hw z ?_)⟩
     ·rw [Sh.ns,← List.drop_drop,List.take_add]
     ·simp only [List.map_cons,DataW.weightsEach,List.mem_append]; exact .inl hz
     ·simpa using h (i+1) g' (by simpa using hg)
     ·simp only [List.map_cons,DataW.weightsEach,List.mem_append]; exact .inr hz
 | [], _:: _,off,cs,xs,m,hf,h,hx,hl,hw=>by simp [Sh.fitsF] at hf
 | _:: _,[],off,cs,xs,m,hf,h,hx,hl,hw=>by simp [Sh.fitsF] at hf
theorem seesA_of {w:World}:∀ (fs:List Sh) (u:TypeId) (k:Nat) (cs:List Value) (xs:List (DataW H×List MemPlace)) (m:Nat),Sh.fitsA P fs u=true→
  (∀ i,i < fs.length→DataW.trod enc P w 0 (fun _=>true) true m u ((cs.drop ((k+i)*P.cellsOf u)).take (P.cellsOf u))=xs[i]?)→xs.length=fs.length→k*P.cellsOf u+Sh.ns fs≤cs.length→
  (∀ n∈DataW.weightsAll P u (xs.map (·.1)),n≤reachBytes)→ShowsL w fs ((cs.drop (k*P.cellsOf u)).take (Sh.ns fs))
 | [],u,k,cs,xs,m,hf,h,hx,hl,hw=>by simp [ShowsL,Sh.ns]
 | f::fs,u,k,cs,xs,m,hf,h,hx,hl,hw=>by
   simp only [Sh.fitsA,Bool.and_eq_true,decide_eq_true_eq] at hf
   obtain ⟨⟨hc,hff⟩,hF⟩:=hf
   simp only [Sh.ns] at hl
   match xs,hx with
   | y::ys,hx=>
     have h0:=h 0 (by simp)
     simp only [List.getElem?_cons_zero,Nat.add_zero] at h0
     have hk:(k+1)*P.cellsOf u=k*P.cellsOf u+f.n:=by rw [Nat.add_mul,Nat.one_mul,hc]
     refine ⟨(cs.drop (k*P.cellsOf u)).take f.n,(cs.drop ((k+1)*P.cellsOf u)).take (Sh.ns fs),?_,sees_of f u m _ y hff (by rw [← hc]; exact h0) (fun z hz=>hw z ?_),seesA_of fs u (k+1) cs ys m hF (fun i hi=>?_) (by simpa using hx) (by rw [hk]; omega) (fun z hz=>hw z ?_)⟩
     ·rw [Sh.ns,hk,← List.drop_drop,List.take_add]
     ·simp only [List.map_cons,DataW.weightsAll,List.mem_append]; exact .inl hz
     ·rw [show k+1+i=k+(i+1) by omega]
      simpa using h (i+1) (by simp; omega)
     ·simp only [List.map_cons,DataW.weightsAll,List.mem_append]; exact .inr hz
end
end
/-- an argument opened -/
theorem sees_arg {H:Type} {enc:TypeId×Value→H} {P:Program} {w:World} {ts:List TypeId} {ds:List (DataW H)} (hsz:(DataW.weightsEach P ts ds).all (·≤reachBytes)=true) (j:Nat) {t:TypeId} {v:Value} {d:DataW H} {p:List MemPlace} (s:Sh)
  (hf:s.fits P t=true) (ht:ts[j]? =some t) (hd:ds[j]? =some d) (h:DataW.Trod enc P w 0 (fun _=>true) true t v d p):Shows w s v.cells.toList:=by
 obtain ⟨fuel,h⟩:=h
 exact sees_of s t fuel _ (d,p) hf h fun n hn=>of_decide_eq_true (List.all_eq_true.1 hsz n (DataW.weights_mem_each ht hd n hn))
/-- the elements of a slice as a list -/
theorem chunks {T:Type} (f:T→List Value) (p:T→Prop) (m:Nat):∀ (n:Nat) (xs:List Value),xs.length=n*m→(∀ i,i < n→∃ t,(xs.drop (i*m)).take m=f t∧p t)→
  ∃ ts:List T,ts.length=n∧xs=ts.flatMap f∧∀ t∈ts,p t
 | 0,xs,hl,h=>⟨[],rfl,by simpa using hl,by simp⟩
 | n+1,xs,hl,h=>by
   obtain ⟨t,ht,hp⟩:=h 0 (by omega)
   rw [Nat.zero_mul,List.drop_zero] at ht
   have hle:(n+1)*m=m+n*m:=by rw [Nat.add_mul,Nat.one_mul,Nat.add_comm]
   obtain ⟨ts,h1,h2,h3⟩:=chunks f p m n (xs.drop m) (by rw [List.length_drop]; omega) (fun i hi=>by
    obtain ⟨t',ht',hp'⟩:=h (i+1) (by omega)
    refine ⟨t',?_,hp'⟩
    rw [List.drop_drop,show m+i*m=(i+1)*m by rw [Nat.add_mul,Nat.one_mul,Nat.add_comm]]
    exact ht')
   refine ⟨t::ts,by simp [h1],?_,by simpa using ⟨hp,h3⟩⟩
   rw [List.flatMap_cons,← h2,← ht,List.take_append_drop]
theorem flatMap_one {T:Type} (f:T→Value):∀ ts:List T,(ts.flatMap fun t=>[f t])=ts.map f
 | []=>rfl
 | t::ts=>by simp [flatMap_one f ts]
/-- a slice of ints -/
theorem sees_ints {w:World} {k:IntKind} {bs:Nat} {cs:List Value} (h:Shows w (.sl (.int k) bs) cs):
  ∃ (A:Option Addr) (c:Nat) (zs:List Int),cs=[.slice A zs.length c]∧At w A (zs.map (Value.int k))∧zs.length≤c∧c*bs≤140737488351232∧∀ z∈zs,(Lit.int k z).wf=true:=by
 simp only [Shows,Sh.n,Nat.mul_one] at h
 obtain ⟨A,n,c,xs,rfl,hA,hl,hc,hb,he⟩:=h
 obtain ⟨zs,h1,h2,h3⟩:=chunks (fun z=>[Value.int k z]) (fun z=>(Lit.int k z).wf=true) 1 n xs (by omega) (fun i hi=>by rw [Nat.mul_one]; exact he i hi)
 rw [flatMap_one] at h2
 subst h1 h2
 exact ⟨A,c,zs,rfl,hA,hc,hb,h3⟩
/-- what an argument is -/
def ShowsV (w:World) (s:Sh) (v:Value):Prop:=match s with
 | .st fs=>∃ cs:List Value,v= .agg ⟨cs⟩∧ShowsL w fs cs
 | s=>Shows w s [v]
theorem sees_val {P:Program} {W w:World} {r:Reach} {b0:Nat} {t:TypeId} {v:Value} (s:Sh) (hf:s.fits P t=true) (hv:Value.okWide P W r b0 t v) (h:Shows w s v.cells.toList):ShowsV w s v:=by
 cases s with
 | int k=>
   simp only [Sh.fits] at hf
   split at hf
   ·rename_i k' hu
    obtain ⟨n,rfl⟩:=okWide_int hu hv
    exact h
   ·cases hf
 | bool=>
   simp only [Sh.fits] at hf
   split at hf
   ·rename_i hu
    obtain ⟨n,rfl⟩:=okWide_bool hu hv
    exact h
   ·cases hf
 | str=>
   simp only [Sh.fits] at hf
   split at hf
   ·rename_i hu
    obtain ⟨n,rfl⟩:=okWide_string hu hv
    exact h
   ·cases hf
 | sl e bs=>
   simp only [Sh.fits] at hf
   split at hf
   ·rename_i u hu
    obtain ⟨a,l,c,rfl⟩:=okWide_slice hu hv
    exact h
   ·cases hf
 | st fs=>
   simp only [Sh.fits] at hf
   split at hf
   ·rename_i gs hu
    obtain ⟨cs,rfl, _⟩:=okWide_struct hu hv
    exact ⟨cs.toList,rfl,h⟩
   ·rename_i n u hu
    simp only [Value.okWide,hu] at hv
    obtain ⟨cs,rfl, _⟩:=hv
    exact ⟨cs.toList,rfl,h⟩
   ·cases hf
end
end Go.Proofs.Ytjlcoglmjldjbaa
namespace Go.Proofs.Ytjlcoglmjldjbaa.treeBusy
section
open Go.ChangeShapes Go.WideShapes Go.ChangeAt Go.RowKit Go.Deep Go.Joins
theorem lifted (os:Os) (started:os.Started) (H:Type) (enc:TypeId×Value→H):
  ReturnsInHanded {} Try.checked os 6 .any (Rows.treeBusySpec.pre6 enc Try.prog Try.f6 Rows.treeBusyRow.domain false) (Rows.treeBusySpec.post enc Try.prog Try.f6 false true false false):=by
 refine returnsInHanded_of_change_sized (C:=Try.checked) ownKnob_none started (by kernel_rfl) Try.func6
  (ChangeSpec.witness6 (enc:=enc) (C:=Try.checked) false ⟨#[],#[.agg #[.slice none 0 0, .slice none 0 0, .slice none 0 0, .int .i64 0]],[]⟩ 8 (by kernel_rfl) (by kernel_rfl) (by kernel_rfl) (by kernel_rfl)) ?_
 intro W base args ds gs before hval0 hW hcnd hsz0 _
 have hval:∀ (j:Nat) t v,Try.f6.params[j]? =some t→args[j]? =some v→Value.okWide Try.prog W .any base t v:=hval0
 have hsz:(DataW.weightsEach Try.prog (Try.f6.params.toList++Rows.treeBusySpec.plain.varTypes Try.prog) (ds++gs)).all (·≤reachBytes)=true:=hsz0
 clear hsz0 hval0
 have hW':=hW
 obtain ⟨p,q,hA0,hV,rfl,hfz,hnd⟩:=hW
 have hA:DataW.TrodAll enc Try.prog W 0 (fun _=>true) true Try.f6.params.toList args.toList ds p:=hA0
 clear hA0
 rw [Try.params6] at hA hval hsz
 obtain ⟨v0,vs0,d0,ds0,p0,q0,hargs,rfl,rfl,h0,r0⟩:=trodAll_cons hA
 obtain ⟨rfl,rfl,rfl⟩:=trodAll_nil r0
 obtain rfl:args=#[v0]:=by cases args; simp_all
 obtain ⟨rfl,rfl⟩:=trodVars_none hV
 have s0:=sees_val (.st [.sl (.int .i64) 8, .sl (.int .i64) 8, .sl (.int .i64) 8, .int .i64]) (by kernel_rfl) (hval 0 _ _ rfl rfl) (sees_arg hsz 0 (.st [.sl (.int .i64) 8, .sl (.int .i64) 8, .sl (.int .i64) 8, .int .i64]) (by kernel_rfl) rfl rfl h0)
 clear hsz
 obtain ⟨cs_,hE,s0⟩:=s0
 cases hE
 obtain ⟨a_,b_,hE,s0_0,s0r⟩:=s0
 cases hE
 obtain ⟨a_,b_,hE,s0_1,s0r⟩:=s0r
 cases hE
 obtain ⟨a_,b_,hE,s0_2,s0r⟩:=s0r
 cases hE
 obtain ⟨a_,b_,hE,s0_3,s0r⟩:=s0r
 cases hE
 cases s0r
 obtain ⟨A,c,l,hE,atA,lA,bA,wA⟩:=sees_ints s0_0
 cases hE
 obtain ⟨M,mc,ms,hE,atM,lM,bM,wM⟩:=sees_ints s0_1
 cases hE
 obtain ⟨Kp,kc,ks,hE,atKp,lKp,bKp,wKp⟩:=sees_ints s0_2
 cases hE
 obtain ⟨x,hE,wx⟩:=s0_3
 cases hE
 refine (treebusy_any A M Kp _ c _ mc _ kc l ms ks x W atA rfl (by omega) atM rfl atKp rfl).mono fun e W' ⟨he,hx⟩=>?_
 subst he
 exact ⟨_,rfl,law_post laidOut (by rw [Try.params6]; exact (by decide+kernel)) rfl Try.underlying4 hW' rfl rfl rfl rfl hx⟩
theorem over:Rows.treeBusyRow.holds Try.pinned (OpenSpec.ofChange Rows.treeBusySpec):=
 OpenClaim.holds_of_wide 6 Try.f6 rfl rfl rfl rfl rfl rfl rfl ⟨rfl,rfl,rfl,rfl,rfl⟩ rfl rfl rfl rfl rfl (by kernel_rfl) Try.func6 (by kernel_rfl)
  (of_decide_eq_true (by kernel_rfl)) (by unfold Func.isWrapper; first | (rw [if_pos (by decide+kernel)]; kernel_rfl) | (rw [if_neg (by decide+kernel)]; exact ⟨rfl,rfl⟩))
  (fun os started H enc _=>lifted os started H enc)
theorem proved:Rows.TreeBusySaid:=
 over
end
end Go.Proofs.Ytjlcoglmjldjbaa.treeBusy

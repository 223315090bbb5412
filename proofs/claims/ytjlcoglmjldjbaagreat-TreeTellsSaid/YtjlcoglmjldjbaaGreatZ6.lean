import Derived.Test.YtjlcoglmjldjbaaGreatZ5
set_option linter.unusedVariables false
set_option linter.unusedSimpArgs false
set_option maxRecDepth 100000
set_option maxHeartbeats 16000000
namespace Go.Proofs.YtjlcoglmjldjbaaGreat
section
open Go.RowKit
def esY(xs:List YnD):List EnD:=xs.flatMap fun y=>y.1.es
theorem F9{xs:List YnD}{ps:List PgS}{root:Int}(h:xs.map pgN=bo ps root 0):esY xs=cu ps root:=by
 rw[cu,<-h,List.flatMap_map];rfl
theorem Ee(xs:List YnD)(y:YnD):esY (xs++[y])=esY xs++y.1.es:=by simp[esY]
def rS(es:List EnD)(w:World)(e:Ending)(w':World):Prop:=∃KA kc RA rc,e= .returned (.tuple #[.slice KA es.length kc,.slice RA es.length rc])/\
 St w [] [eO 9 1 (.slice KA es.length kc) es.length (es.map tqS),eO 33 2 (.slice RA es.length rc) es.length (es.flatMap tqR)] w'
def lfI(y:YnD):Value:= .int .i64 y.2.1
def wY(L:List (Int×NoD))(w:World)(e:Ending)(w':World):Prop:=∃A c,e= .returned (.slice A L.length c)/\St w [] [eO 3 1 (.slice A L.length c) L.length (L.map fun y=> .int .i64 y.1)] w'
theorem GD(xs:List YnD)(y:YnD):xs.map lfI++[.int .i64 y.2.1]=(xs++[y]).map lfI:=by rw[List.map_append];rfl
theorem Gq{w W:World}{A:Option Addr}{c n:Nat}{L:List (Int×NoD)}{xs:List YnD}(h:xs.map pgN=L)(hn:n=xs.length)(hs:St w [] [eO 3 1 (.slice A n c) n (xs.map lfI)] W):wY L w (.returned (.slice A n c)) W:=by
 subst hn h
 exact⟨A,c,by rw[List.length_map],by rw[List.length_map,List.map_map];exact hs⟩
theorem Gb{w W:World}{KA RA:Option Addr}{kc rc m:Nat}{ps:List PgS}{root:Int}{xs:List YnD}(h:xs.map pgN=bo ps root 0)(hm:m=(esY xs).length)(hs:St w [] [eO 9 1 (.slice KA m kc) m ((esY xs).map tqS),eO 33 2 (.slice RA m rc) m ((esY xs).flatMap tqR)] W):rS (cu ps root) w (.returned (.tuple #[.slice KA m kc,.slice RA m rc])) W:=by
 rw[F9 h] at hm hs
 subst hm
 exact⟨KA,kc,RA,rc,rfl,hs⟩
theorem Ba(tt:TypeId)(tv:Value)(root:Int)(ps:List PgS)(w:World)(hS:PgsOk w tt tv ps)(hok:OkS ps)(hoc:OkC ps):
  Calls Tryz.prog 40 #[.iface tt (tv),.int .i64 root] w (wY (bo ps root 0) w):=by
 refine(callsIn_wide (n:=3)).1 (callsIn_of_wp_marks Tryz.func40 rfl trivial (wpIn_wide.2 ?_) rfl)
 simp only[Tryz.ntmps40,List.size_toArray,List.length_cons,List.length_nil,Nat.reduceAdd,Nat.reduceSub,Array.replicate_succ,Array.replicate_zero,List.push_toArray,List.append_toArray,List.nil_append,List.cons_append]
 have ar:=St.start w
 refine wp_seq (qg [0] [.k 4 (.slice none 0 0)] [(4,0,1,5)] ar fun W1 aE=>?_)
 refine aa (wp_seq (ak [0] [] [[0]] [] [.a 5] (fun ix d b X=>match ix with|0=>d 5=vp (pb (b 5))/\X 0=eB (pb (b 5)) 22 #[.slice none 0 0]|_=>True) [0] [0] [(5,0,1,6)] aE ?_ ?_ ?_))
 exact fun ix _ _ _ _ _ _ hs hb hx h=>match ix,h with
 |0,h=>by dsimp only;rw[<-hs 5 rfl,<-hb 5 rfl,<-hx 0 rfl];exact h
 |_+1,_=>trivial
 refine⟨?_,trivial⟩
 refine svA fun f b W X cx=>?_
 exact aX (cs:=#[.slice none 0 0]) rfl (by kernel_rfl) rfl rfl (fun _ _ _ _ _=> .intro)
 intro d b X W2 hD aN fr ag
 simp only[exq 0 ((dTn (hD 0 lq)).2)] at aN
 simp only[ed 5 ((dTn (hD 0 lq)).1)] at ag
 generalize pb (b 5)=eX at aN ag
 clear hD;subst ag;clear d b X
 refine aa (wp_seq (wp_seq (ak [0,0,3] [] [[],[],[1,2,3]] [] [.k 7 (.iface tt (tv)),.k 8 (vi root),.a 9] (fun ix d b X=>match ix with|0|1=>True|2=>d 9= .func (.func 101) #[] #[vp (pcp 0 (b 9)),vp (pcp 1 (b 9)),vp (pcp 2 (b 9))]/\X 1=eB (pcp 0 (b 9)) 78 #[.iface tt (tv)]/\X 2=eB (pcp 1 (b 9)) 3 #[vi root]/\X 3=eB (pcp 2 (b 9)) 3 #[vi 0]|_=>True) [0,1,2,3] [2] [(7,0,3,10)] aN ?_ ?_ ?_)))
 exact fun ix _ _ _ _ _ _ hs hb hx h=>match ix,h with
 |2,h=>by dsimp only;rw[<-hs 9 rfl,<-hb 9 rfl,<-hx 1 rfl,<-hx 2 rfl,<-hx 3 rfl];exact h
 |0,_|1,_|_+3,_=>trivial
 refine⟨?_,trivial⟩
 refine svA fun f b W X cx=>?_
 refine aC.call (aB (args:=#[.iface tt (tv),vi root,vi 0]) rfl cx.sees rfl (by kernel_rfl) (dH (cx.an 0) (cx.an 1) (cx.co _))) ?_
 refine(j2 tt tv root 0 _).mono ?_
 rintro e W1 ⟨B4,B5,B6,rfl,aM⟩
 refine⟨_,rfl,cl [eB B4 78 #[.iface tt (tv)],eB B5 3 #[vi root],eB B6 3 #[vi 0]] rfl rfl aM (fun d g X' hs hb hv hN=>?_)⟩
 have aW:=(hv 9 rfl).1;have aG:=(hv 9 rfl).2
 exact⟨aW.trans (by rw[aG];rfl),(by rw[aG];exact(List.cons.inj hN).1),(by rw[aG];exact(List.cons.inj (List.cons.inj hN).2).1),(by rw[aG];exact(List.cons.inj (List.cons.inj (List.cons.inj hN).2).2).1)⟩
 intro d b X W3 hD bB fr ag
 simp only[exq 1 ((dTn (hD 2 lq)).2.1),exq 2 ((dTn (hD 2 lq)).2.2.1),exq 3 ((dTn (hD 2 lq)).2.2.2)] at bB
 simp only[ed 9 ((dTn (hD 2 lq)).1)] at ag
 generalize pcp 0 (b 9)=B9a_3,pcp 1 (b 9)=B9b_3,pcp 2 (b 9)=B9c_3 at bB ag
 clear hD;subst ag;clear d b X
 refine aa (wp_block ?_)
 have hn4:=St.nilrow bB 3
 simp only[List.cons_append,List.nil_append] at hn4
 have CK:=hn4.pick [0,4] (by decide) rfl
 refine kw (α:=YnD) CK rfl (enters_of Tryz.func101 (by kernel_rfl) rfl) (encs:=ynE) (Ex:=ynR) (N:=1000) (Z:=YnZ (bo ps root 0)) (j6 _ _ _ _ _ _ _ hok hoc) (fun A hA=>RdR.keep (hn4.pick [1,2,3,0,4] (by decide) rfl) hS hA) (fun _=>rfl) (fun bb pre L=>cond bb (∃SA:Option Addr,∃n:Nat,∃sc:Nat,n=pre.length/\L=[eB eX 22 #[.slice SA n sc],eO 3 1 (.slice SA n sc) n (pre.map lfI)]) (False)) ⟨none,0,0,rfl,rfl⟩ (fun xx a_ E_=>∃BV:Nat,a_=⟨([.iface tt (tv),vi root,undef,undef,.slice none 0 0,vp eX,vp BV,.iface tt (tv),vi root,.func (.func 101) #[] #[vp B9a_3,vp B9b_3,vp B9c_3],.agg #[vi xx.2.1,vi xx.1.lv,vi xx.1.right,.string xx.1.high,.bool xx.1.dead,.slice xx.2.2.1 xx.1.es.length xx.2.2.2,vi ((xx.1.free:Int))],undef,undef,undef,undef,undef,undef]).toArray,[]⟩/\E_=eB BV 84 #[vi xx.2.1,vi xx.1.lv,vi xx.1.right,.string xx.1.high,.bool xx.1.dead,.slice xx.2.2.1 xx.1.es.length xx.2.2.2,vi ((xx.1.free:Int))]) (fun xx=>[.iface tt (tv),vi root,undef,undef,.slice none 0 0,vp eX,undef,.iface tt (tv),vi root,.func (.func 101) #[] #[vp B9a_3,vp B9b_3,vp B9c_3],.agg #[vi xx.2.1,vi xx.1.lv,vi xx.1.right,.string xx.1.high,.bool xx.1.dead,.slice xx.2.2.1 xx.1.es.length xx.2.2.2,vi ((xx.1.free:Int))],undef,undef,undef,undef,undef,undef]) (fun xx=>by kernel_rfl) ?_ ?_ ?_ ?_
 intro rl xx W5 K hK
 have bw:=St.start W5
 refine bh [0,1] [[],[0]] [[0],[1]] [[],[0]] [.a 6,.n] (fun ix d b X=>match ix with|0=>d 6=vp (pb (b 6))/\X 0=eB (pb (b 6)) 84 #[vi 0,vi 0,vi 0,.string ByteArray.empty,.bool false,.slice none 0 0,vi 0]|1=>X 1=eB (pb (b 6)) 84 #[vi xx.2.1,vi xx.1.lv,vi xx.1.right,.string xx.1.high,.bool xx.1.dead,.slice xx.2.2.1 xx.1.es.length xx.2.2.2,vi ((xx.1.free:Int))]|_=>True) [1] [0,1] [(6,0,1,7)] bw ?_ ?_ ?_
 exact fun ix _ _ _ _ _ _ hs hb hx h=>match ix,h with
 |0,h=>by dsimp only;rw[<-hs 6 rfl,<-hb 6 rfl,<-hx 0 rfl];exact h
 |1,h=>by dsimp only;rw[<-hb 6 rfl,<-hx 1 rfl];exact h
 |_+2,_=>trivial
 refine⟨?_,?_,trivial⟩
 refine svA fun f b W X cx=>?_
 exact aX (cs:=#[vi 0,vi 0,vi 0,.string ByteArray.empty,.bool false,.slice none 0 0,vi 0]) rfl (by kernel_rfl) rfl rfl (fun _ _ _ _ _=> .intro)
 refine svA fun f b W X cx=>?_
 exact aw (n:=7) rfl (dTn (cx.an 0)).1 (cx.ou 10) (by kernel_rfl) (by kernel_rfl) (by kernel_rfl) cx (dTn (cx.an 0)).2 rfl (nle rfl) (by kernel_rfl) rfl rfl rfl (fun d g X' hs hb hx=>by rw[hb 6];exact hx)
 intro d b X W7 hD bD fr ag
 simp only[exq 1 ((dTn (hD 1 lq)))] at bD
 simp only[ed 6 ((dTn (hD 0 lq)).1)] at ag
 generalize pb (b 6)=Ni at bD ag
 clear hD;subst ag;clear d b X
 exact hK _ _ _ ⟨_,rfl,rfl⟩ (bD.pick [0] (by decide) rfl)
 rintro rl pre xx W8 L8 a8 E8 ⟨SA,n,sc,hn,rfl⟩ hlen8 hPx8 ⟨BV,rfl,rfl⟩ l9
 have bj:St W8 (fps ([eB eX 22 #[.slice SA n sc],eO 3 1 (.slice SA n sc) n (pre.map lfI)]++[eO 89 3 (.slice xx.2.2.1 xx.1.es.length xx.2.2.2) xx.1.es.length (xx.1.es.flatMap enC),eB BV 84 #[vi xx.2.1,vi xx.1.lv,vi xx.1.right,.string xx.1.high,.bool xx.1.dead,.slice xx.2.2.1 xx.1.es.length xx.2.2.2,vi ((xx.1.free:Int))]])) [eB eX 22 #[.slice SA n sc],eO 3 1 (.slice SA n sc) n (pre.map lfI),eO 89 3 (.slice xx.2.2.1 xx.1.es.length xx.2.2.2) xx.1.es.length (xx.1.es.flatMap enC),eB BV 84 #[vi xx.2.1,vi xx.1.lv,vi xx.1.right,.string xx.1.high,.bool xx.1.dead,.slice xx.2.2.1 xx.1.es.length xx.2.2.2,vi ((xx.1.free:Int))]] W8:=l9
 clear l9
 refine wpIn_block (bh [0,0,2,6,15,31] [[0],[],[3],[],[4,1],[0]] [[],[],[],[4],[5],[6]] [[],[],[],[],[1],[0]] [.c 11 (.slice SA n sc),.k 12 (vp BV),.c 13 (vi xx.2.1),.a 14,.a 15,.n] (fun ix d b X=>match ix with|0|1|2=>True|3=>d 14= .slice (sA (b 14)) 1 1/\X 4=eO 3 1 (.slice (sA (b 14)) 1 1) 1 ([vi xx.2.1])|4=>d 15= .slice (sA (b 15)) (n+1) (sC (b 15))/\X 5=eO 3 1 (.slice (sA (b 15)) (n+1) (sC (b 15))) (n+1) ((pre++[xx]).map lfI)|5=>X 6=eB eX 22 #[.slice (sA (b 15)) (n+1) (sC (b 15))]|_=>True) [2,3,4,5,6] [0,2,3,4,5] [(11,0,5,16)] bj ?_ ?_ ?_)
 exact fun ix _ _ _ _ _ _ hs hb hx h=>match ix,h with
 |3,h=>by dsimp only;rw[<-hs 14 rfl,<-hb 14 rfl,<-hx 4 rfl];exact h
 |4,h=>by dsimp only;rw[<-hs 15 rfl,<-hb 15 rfl,<-hx 5 rfl];exact h
 |5,h=>by dsimp only;rw[<-hb 15 rfl,<-hx 6 rfl];exact h
 |0,_|1,_|2,_|_+6,_=>trivial
 refine⟨?_,?_,?_,?_,?_,trivial⟩
 exact xs4 rfl id fun cx=>ae rfl (by kernel_rfl) (cx.ou 5) ((cx.bi 0 rfl).cell 0)
 exact xs4 rfl id fun cx=>ae rfl (by kernel_rfl) (cx.an 1) ((cx.bi 3 rfl).cell 0)
 refine svA fun f b W X cx=>?_
 have qS:f (.tmp 13)=vi xx.2.1:=(cx.an 2)
 exact bV (e:=3) (xs:=[vi xx.2.1]) rfl (by simp[go_sem,qS]) rfl (by decide) rfl rfl (fun _ _ _ _ _=> .intro)
 refine svA fun f b W X cx=>?_
 obtain⟨i0,hi0,hz0,hz1,hz2⟩:=info_parts Tryz.infoInt
 refine cq (n:=n) (m:=1) (nm:=n+1) (xs:=pre.map lfI) (news:=[vi xx.2.1]) (xs':=(pre++[xx]).map lfI) rfl (ty:=22) rfl (by kernel_rfl) hi0 hz0 hz1 hz2 rfl (cx.an 0) cx (cx.init 1 _ rfl) rfl (dTn (cx.an 3)).1 (by rfl) (At.of_own (cx.row (dTn (cx.an 3)).2 rfl)) (by simp[Value.oneCell']) (by simp only[maxLen];omega) (by omega) rfl rfl rfl (by omega) (GD _ _) (fun d g X' hs hb hv hx=>?_)
 exact⟨hv,hx⟩
 refine svA fun f b W X cx=>?_
 exact aw (n:=1) rfl (cx.ou 5) (dTn (cx.an 4)).1 (by kernel_rfl) (by kernel_rfl) (by kernel_rfl) cx (cx.init 0 _ rfl) rfl (nle rfl) (by kernel_rfl) rfl rfl rfl (fun d g X' hs hb hx=>by rw[hb 15];exact hx)
 intro d b X W9 hD be fr ag
 simp only[exq 4 ((dTn (hD 3 lq)).2),exq 5 ((dTn (hD 4 lq)).2),exq 6 ((dTn (hD 5 lq)))] at be
 simp only[ed 14 ((dTn (hD 3 lq)).1),ed 15 ((dTn (hD 4 lq)).1)] at ag
 generalize sA (b 14)=PQ,sA (b 15)=Lv,sC (b 15)=Lw at be ag
 clear hD;subst ag;clear d b X
 refine ax ?_
 exact⟨true,.inl ⟨rfl,rfl⟩,_,⟨Lv,(n+1),Lw,by rw[hn,List.length_append];rfl,rfl⟩,be.pick [4,3,0] (by decide) rfl⟩
 rintro D5 xL L5 XS_ E_ ⟨SA,n,sc,hn,rfl⟩ hZ_ jg
 have nK:St w [] [eB eX 22 #[.slice SA n sc],eO 3 1 (.slice SA n sc) n (XS_.map lfI),E_,fg D5] xL:=jg
 clear jg
 refine ax (aa (wp_seq (br [0,1] [[0]] [.c 16 (.slice SA n sc),.k 4 (.slice SA n sc)] [0,1,2,3] [0] [(4,1,1,5),(11,0,1,12)] nK ?_ fun so cF=>?_)))
 refine⟨?_,trivial⟩
 exact xs4 rfl id fun cx=>ae rfl (by kernel_rfl) (cx.ou 5) ((cx.bi 0 rfl).cell 0)
 refine aa (wp_ret ?_)
 refine lg (L:=[eB eX 22 #[.slice SA n sc],eO 3 1 (.slice SA n sc) n (XS_.map lfI),E_]) (cF.pick [0,1,2,3] (by decide) rfl) fun Wt11 ht11=>?_
 refine⟨.slice SA n sc,(ai Tryz.results40 rpt),?_⟩
 exact Gq (hZ_.2.1 rfl) hn (ht11.pick [1] (by decide) rfl)
 exact fun D W L xs E h=>h.elim
theorem Ij(tt:TypeId)(tv:Value)(root:Int)(ps:List PgS)(w:World)(hS:PgsOk w tt tv ps)(hok:OkS ps)(hoc:OkC ps):
  Calls Tryz.prog 23 #[.iface tt (tv),.int .i64 root] w (rS (cu ps root) w):=by
 refine(callsIn_wide (n:=3)).1 (callsIn_of_wp_marks Tryz.func23 rfl trivial (wpIn_wide.2 ?_) rfl)
 simp only[Tryz.ntmps23,List.size_toArray,List.length_cons,List.length_nil,Nat.reduceAdd,Nat.reduceSub,Array.replicate_succ,Array.replicate_zero,List.push_toArray,List.append_toArray,List.nil_append,List.cons_append]
 have ar:=St.start w
 refine wp_seq (ak [0,0] [] [[0],[1]] [] [.a 4,.a 5] (fun ix d b X=>match ix with|0=>d 4=vp (pb (b 4))/\X 0=eB (pb (b 4)) 56 #[.slice none 0 0]|1=>d 5=vp (pb (b 5))/\X 1=eB (pb (b 5)) 57 #[.slice none 0 0]|_=>True) [0,1] [0,1] [(4,0,2,6)] ar ?_ ?_ ?_)
 exact fun ix _ _ _ _ _ _ hs hb hx h=>match ix,h with
 |0,h=>by dsimp only;rw[<-hs 4 rfl,<-hb 4 rfl,<-hx 0 rfl];exact h
 |1,h=>by dsimp only;rw[<-hs 5 rfl,<-hb 5 rfl,<-hx 1 rfl];exact h
 |_+2,_=>trivial
 refine⟨?_,?_,trivial⟩
 refine svA fun g b W X cx=>?_
 exact aX (cs:=#[.slice none 0 0]) rfl (by kernel_rfl) rfl rfl (fun _ _ _ _ _=> .intro)
 refine svA fun g b W X cx=>?_
 exact aX (cs:=#[.slice none 0 0]) rfl (by kernel_rfl) rfl rfl (fun _ _ _ _ _=> .intro)
 intro d b X W1 hD aE fr ag
 simp only[exq 0 ((dTn (hD 0 lq)).2),exq 1 ((dTn (hD 1 lq)).2)] at aE
 simp only[ed 4 ((dTn (hD 0 lq)).1),ed 5 ((dTn (hD 1 lq)).1)] at ag
 generalize pb (b 4)=bx,pb (b 5)=bv at aE ag
 clear hD;subst ag;clear d b X
 refine aa (wp_seq (wp_seq (ak [0,0,3] [] [[],[],[2,3,4]] [] [.k 12 (.iface tt (tv)),.k 13 (vi root),.a 14] (fun ix d b X=>match ix with|0|1=>True|2=>d 14= .func (.func 101) #[] #[vp (pcp 0 (b 14)),vp (pcp 1 (b 14)),vp (pcp 2 (b 14))]/\X 2=eB (pcp 0 (b 14)) 78 #[.iface tt (tv)]/\X 3=eB (pcp 1 (b 14)) 3 #[vi root]/\X 4=eB (pcp 2 (b 14)) 3 #[vi 0]|_=>True) [0,1,2,3,4] [2] [(12,0,3,15)] aE ?_ ?_ ?_)))
 exact fun ix _ _ _ _ _ _ hs hb hx h=>match ix,h with
 |2,h=>by dsimp only;rw[<-hs 14 rfl,<-hb 14 rfl,<-hx 2 rfl,<-hx 3 rfl,<-hx 4 rfl];exact h
 |0,_|1,_|_+3,_=>trivial
 refine⟨?_,trivial⟩
 refine svA fun g b W X cx=>?_
 refine aC.call (aB (args:=#[.iface tt (tv),vi root,vi 0]) rfl cx.sees rfl (by kernel_rfl) (dH (cx.an 0) (cx.an 1) (cx.co _))) ?_
 refine(j2 tt tv root 0 _).mono ?_
 rintro e W1 ⟨B4,B5,B6,rfl,aM⟩
 refine⟨_,rfl,cl [eB B4 78 #[.iface tt (tv)],eB B5 3 #[vi root],eB B6 3 #[vi 0]] rfl rfl aM (fun d i X' hs hb hv hN=>?_)⟩
 have aW:=(hv 14 rfl).1;have aG:=(hv 14 rfl).2
 exact⟨aW.trans (by rw[aG];rfl),(by rw[aG];exact(List.cons.inj hN).1),(by rw[aG];exact(List.cons.inj (List.cons.inj hN).2).1),(by rw[aG];exact(List.cons.inj (List.cons.inj (List.cons.inj hN).2).2).1)⟩
 intro d b X W2 hD aN fr ag
 simp only[exq 2 ((dTn (hD 2 lq)).2.1),exq 3 ((dTn (hD 2 lq)).2.2.1),exq 4 ((dTn (hD 2 lq)).2.2.2)] at aN
 simp only[ed 14 ((dTn (hD 2 lq)).1)] at ag
 generalize pcp 0 (b 14)=B14a_2,pcp 1 (b 14)=B14b_2,pcp 2 (b 14)=B14c_2 at aN ag
 clear hD;subst ag;clear d b X
 refine aa (wp_block ?_)
 have hn3:=St.nilrow aN 9
 simp only[List.cons_append,List.nil_append] at hn3
 have hn4:=bT hn3 33 2
 simp only[List.cons_append,List.nil_append] at hn4
 have CK:=hn4.pick [0,1,5,6] (by decide) rfl
 refine kw (α:=YnD) CK rfl (enters_of Tryz.func101 (by kernel_rfl) rfl) (encs:=ynE) (Ex:=ynR) (N:=1000) (Z:=YnZ (bo ps root 0)) (j6 _ _ _ _ _ _ _ hok hoc) (fun A hA=>RdR.keep (hn4.pick [2,3,4,0,1,5,6] (by decide) rfl) hS hA) (fun _=>rfl) (fun bb pre L=>cond bb (∃m:Nat,∃KA:Option Addr,∃kc:Nat,∃RA:Option Addr,∃rc:Nat,m=(esY pre).length/\m<=100*pre.length/\L=[eB bx 56 #[.slice KA m kc],eB bv 57 #[.slice RA m rc],eO 9 1 (.slice KA m kc) m ((esY pre).map tqS),eO 33 2 (.slice RA m rc) m ((esY pre).flatMap tqR)]) (False)) ⟨0,none,0,none,0,rfl,Nat.zero_le _,rfl⟩ (fun xx a_ E_=>∃BV:Nat,a_=⟨([.iface tt (tv),vi root,undef,undef,vp bx,vp bv,vp BV,undef,undef,undef,undef,undef,.iface tt (tv),vi root,.func (.func 101) #[] #[vp B14a_2,vp B14b_2,vp B14c_2],.agg #[vi xx.2.1,vi xx.1.lv,vi xx.1.right,.string xx.1.high,.bool xx.1.dead,.slice xx.2.2.1 xx.1.es.length xx.2.2.2,vi ((xx.1.free:Int))],undef,undef,undef,undef,undef,undef,undef,undef,undef,undef,undef,undef,undef,undef,undef,undef,undef,undef,undef,undef,undef,undef,undef,undef,undef]).toArray,[]⟩/\E_=eB BV 84 #[vi xx.2.1,vi xx.1.lv,vi xx.1.right,.string xx.1.high,.bool xx.1.dead,.slice xx.2.2.1 xx.1.es.length xx.2.2.2,vi ((xx.1.free:Int))]) (fun xx=>[.iface tt (tv),vi root,undef,undef,vp bx,vp bv,undef,undef,undef,undef,undef,undef,.iface tt (tv),vi root,.func (.func 101) #[] #[vp B14a_2,vp B14b_2,vp B14c_2],.agg #[vi xx.2.1,vi xx.1.lv,vi xx.1.right,.string xx.1.high,.bool xx.1.dead,.slice xx.2.2.1 xx.1.es.length xx.2.2.2,vi ((xx.1.free:Int))],undef,undef,undef,undef,undef,undef,undef,undef,undef,undef,undef,undef,undef,undef,undef,undef,undef,undef,undef,undef,undef,undef,undef,undef,undef]) (fun xx=>by kernel_rfl) ?_ ?_ ?_ ?_
 intro rl xx W5 K hK
 have bw:=St.start W5
 refine bh [0,1] [[],[0]] [[0],[1]] [[],[0]] [.a 6,.n] (fun ix d b X=>match ix with|0=>d 6=vp (pb (b 6))/\X 0=eB (pb (b 6)) 84 #[vi 0,vi 0,vi 0,.string ByteArray.empty,.bool false,.slice none 0 0,vi 0]|1=>X 1=eB (pb (b 6)) 84 #[vi xx.2.1,vi xx.1.lv,vi xx.1.right,.string xx.1.high,.bool xx.1.dead,.slice xx.2.2.1 xx.1.es.length xx.2.2.2,vi ((xx.1.free:Int))]|_=>True) [1] [0,1] [(6,0,1,7)] bw ?_ ?_ ?_
 exact fun ix _ _ _ _ _ _ hs hb hx h=>match ix,h with
 |0,h=>by dsimp only;rw[<-hs 6 rfl,<-hb 6 rfl,<-hx 0 rfl];exact h
 |1,h=>by dsimp only;rw[<-hb 6 rfl,<-hx 1 rfl];exact h
 |_+2,_=>trivial
 refine⟨?_,?_,trivial⟩
 refine svA fun g b W X cx=>?_
 exact aX (cs:=#[vi 0,vi 0,vi 0,.string ByteArray.empty,.bool false,.slice none 0 0,vi 0]) rfl (by kernel_rfl) rfl rfl (fun _ _ _ _ _=> .intro)
 refine svA fun g b W X cx=>?_
 exact aw (n:=7) rfl (dTn (cx.an 0)).1 (cx.ou 15) (by kernel_rfl) (by kernel_rfl) (by kernel_rfl) cx (dTn (cx.an 0)).2 rfl (nle rfl) (by kernel_rfl) rfl rfl rfl (fun d i X' hs hb hx=>by rw[hb 6];exact hx)
 intro d b X W7 hD bD fr ag
 simp only[exq 1 ((dTn (hD 1 lq)))] at bD
 simp only[ed 6 ((dTn (hD 0 lq)).1)] at ag
 generalize pb (b 6)=Ni at bD ag
 clear hD;subst ag;clear d b X
 exact hK _ _ _ ⟨_,rfl,rfl⟩ (bD.pick [0] (by decide) rfl)
 rintro rl pre xx W8 L8 a8 E8 ⟨m,KA,kc,RA,rc,hm,hmb,rfl⟩ hlen8 hPx8 ⟨BV,rfl,rfl⟩ l9
 have bj:St W8 (fps ([eB bx 56 #[.slice KA m kc],eB bv 57 #[.slice RA m rc],eO 9 1 (.slice KA m kc) m ((esY pre).map tqS),eO 33 2 (.slice RA m rc) m ((esY pre).flatMap tqR)]++[eO 89 3 (.slice xx.2.2.1 xx.1.es.length xx.2.2.2) xx.1.es.length (xx.1.es.flatMap enC),eB BV 84 #[vi xx.2.1,vi xx.1.lv,vi xx.1.right,.string xx.1.high,.bool xx.1.dead,.slice xx.2.2.1 xx.1.es.length xx.2.2.2,vi ((xx.1.free:Int))]])) [eB bx 56 #[.slice KA m kc],eB bv 57 #[.slice RA m rc],eO 9 1 (.slice KA m kc) m ((esY pre).map tqS),eO 33 2 (.slice RA m rc) m ((esY pre).flatMap tqR),eO 89 3 (.slice xx.2.2.1 xx.1.es.length xx.2.2.2) xx.1.es.length (xx.1.es.flatMap enC),eB BV 84 #[vi xx.2.1,vi xx.1.lv,vi xx.1.right,.string xx.1.high,.bool xx.1.dead,.slice xx.2.2.1 xx.1.es.length xx.2.2.2,vi ((xx.1.free:Int))]] W8:=l9
 clear l9
 have hN0:=cO hok hPx8
 have hez:∀e∈xx.1.es,e.1.size<=1000000:=fun e he=>Nat.le_trans (hN0.es e he) (by decide)
 have hN1:=hN0.len
 refine wpIn_block (wpIn_seq (g9 [0,1,3,0] [[],[5]] [.k 16 (.pointer (some ⟨BV,5,none⟩)),.c 17 (.slice xx.2.2.1 xx.1.es.length xx.2.2.2),.k 18 (vi ((xx.1.es.length:Int))),.k 19 (vi 0)] [0,1,2,3,4,5] [1] [(16,0,4,20)] bj ?_ fun W9 be=>?_))
 refine⟨?_,trivial⟩
 exact xs4 rfl id fun cx=>ae rfl (by kernel_rfl) (cx.an 0) ((cx.bi 5 rfl).cell 5)
 refine aa (wpIn_block ?_)
 refine zK (fun mz az W=>∃j:Nat,∃q:Nat,∃T:List EnD,∃LA:Option Addr,∃lc:Nat,∃QA:Option Addr,∃qc:Nat,j<=xx.1.es.length/\T=esY pre++xx.1.es.take j/\T.length=q/\q<=m+j/\mz=xx.1.es.length-j/\az=⟨#[.iface tt (tv),vi root,undef,undef,vp bx,vp bv,vp BV,undef,jv az 8,jv az 9,jv az 10,jv az 11,.iface tt (tv),vi root,.func (.func 101) #[] #[vp B14a_2,vp B14b_2,vp B14c_2],.agg #[vi xx.2.1,vi xx.1.lv,vi xx.1.right,.string xx.1.high,.bool xx.1.dead,.slice xx.2.2.1 xx.1.es.length xx.2.2.2,vi ((xx.1.free:Int))],.pointer (some ⟨BV,5,none⟩),.slice xx.2.2.1 xx.1.es.length xx.2.2.2,vi ((xx.1.es.length:Int)),vi ((j:Int)),jv az 20,jv az 21,jv az 22,jv az 23,jv az 24,jv az 25,jv az 26,jv az 27,jv az 28,jv az 29,jv az 30,jv az 31,jv az 32,jv az 33,jv az 34,jv az 35,jv az 36,jv az 37,jv az 38,undef,undef],[]⟩/\St W8 (fps ([eB bx 56 #[.slice KA m kc],eB bv 57 #[.slice RA m rc],eO 9 1 (.slice KA m kc) m ((esY pre).map tqS),eO 33 2 (.slice RA m rc) m ((esY pre).flatMap tqR)]++[eO 89 3 (.slice xx.2.2.1 xx.1.es.length xx.2.2.2) xx.1.es.length (xx.1.es.flatMap enC),eB BV 84 #[vi xx.2.1,vi xx.1.lv,vi xx.1.right,.string xx.1.high,.bool xx.1.dead,.slice xx.2.2.1 xx.1.es.length xx.2.2.2,vi ((xx.1.free:Int))]])) [eB bx 56 #[.slice LA q lc],eB bv 57 #[.slice QA q qc],eO 9 1 (.slice LA q lc) q (T.map tqS),eO 33 2 (.slice QA q qc) q (T.flatMap tqR),eO 89 3 (.slice xx.2.2.1 xx.1.es.length xx.2.2.2) xx.1.es.length (xx.1.es.flatMap enC),eB BV 84 #[vi xx.2.1,vi xx.1.lv,vi xx.1.right,.string xx.1.high,.bool xx.1.dead,.slice xx.2.2.1 xx.1.es.length xx.2.2.2,vi ((xx.1.free:Int))]] W) (xx.1.es.length-0) ?_ ?_
 exact⟨0,m,(esY pre),KA,kc,RA,rc,Nat.zero_le _,by rw[List.take_zero,List.append_nil],hm.symm,Nat.le_refl _,rfl,(by kernel_rfl),be.pk [0,1,2,3,4,5]⟩
 rintro Rw a10 so ⟨j,q,T,LA,lc,QA,qc,hj,hT,hTl,hqm,rfl,hj_,cF⟩
 obtain⟨QW,hu_⟩:∃z,jv a10=z:=⟨_,rfl⟩
 rw[hu_] at hj_;clear hu_;subst hj_
 refine wpIn_seq (nO [0] [.k 20 (.bool (decide ((j:Int)<(xx.1.es.length:Int))))] [(20,0,1,21)] cF fun oK bY=>?_)
 refine aa (wpIn_seq ?_)
 rcases Bool.eq_false_or_eq_true (decide ((j:Int)<(xx.1.es.length:Int))) with kp|kp
 have lP:(j:Int)<(xx.1.es.length:Int):=by simpa using kp
 refine wpIn_cond_true (show Act.eval _ _= .bool true from(congrArg Value.bool kp)) (wpIn_skip (aa (wpIn_seq (wpIn_block (wpIn_seq (bh [0,1,0,7] [[4],[4],[],[6]] [[],[],[6],[7]] [[],[],[],[6]] [.c 21 (.pointer (some ((ad xx.2.2.1).add (j*3)))),.c 22 (.agg #[.string ((xx.1.es.getD j en0).1),vi (((xx.1.es.getD j en0).2.1:Int)),vi ((xx.1.es.getD j en0).2.2)]),.a 8,.n] (fun ix d b X=>match ix with|0|1=>True|2=>d 8=vp (pb (b 8))/\X 6=eB (pb (b 8)) 89 #[.string ByteArray.empty,vi 0,vi 0]|3=>X 7=eB (pb (b 8)) 89 #[.string ((xx.1.es.getD j en0).1),vi (((xx.1.es.getD j en0).2.1:Int)),vi ((xx.1.es.getD j en0).2.2)]|_=>True) [0,1,2,3,4,5,7] [0,1,2,3] [(8,2,1,9),(12,0,2,14)] bY ?_ ?_ ?_))))))
 exact fun ix _ _ _ _ _ _ hs hb hx h=>match ix,h with
 |2,h=>by dsimp only;rw[<-hs 8 rfl,<-hb 8 rfl,<-hx 6 rfl];exact h
 |3,h=>by dsimp only;rw[<-hb 8 rfl,<-hx 7 rfl];exact h
 |0,_|1,_|_+4,_=>trivial
 refine⟨?_,?_,?_,?_,trivial⟩
 exact xs4 rfl id fun cx=>aH (e:=89) (m:=j) (sz:=3) rfl (by kernel_rfl) (by kernel_rfl) (cx.ou 17) (cx.ou 19) (by omega) (by omega) (At.of_ownN (cx.ri 4 rfl)) (by have h_:=iK (f:=enC) (sz:=3) aQ xx.1.es;show 0<(List.flatMap enC xx.1.es).length;omega)
 exact xs4 rfl id fun cx=>aZ (f:=enC) (m:=j) (sz:=3) (off:=0) (n:=3) rfl (by kernel_rfl) (by kernel_rfl) (cx.an 0) rfl aQ (At.of_ownN (cx.ri 4 rfl)) (cR (by omega)) (fun k hk=>match k,hk with|0,_=>rfl|1,_=>rfl|2,_=>rfl|k+3,hk=>absurd hk (by omega))
 refine svA fun g b W X cx=>?_
 exact aX (cs:=#[.string ByteArray.empty,vi 0,vi 0]) rfl (by kernel_rfl) rfl rfl (fun _ _ _ _ _=> .intro)
 refine svA fun g b W X cx=>?_
 exact aw (n:=3) rfl (dTn (cx.an 2)).1 (cx.an 1) (by kernel_rfl) (by kernel_rfl) (by kernel_rfl) cx (dTn (cx.an 2)).2 rfl (nle rfl) (by kernel_rfl) rfl rfl rfl (fun d i X' hs hb hx=>by rw[hb 8];exact hx)
 intro d b X lk hD bH fr ag
 simp only[exq 7 ((dTn (hD 3 lq)))] at bH
 simp only[ed 8 ((dTn (hD 2 lq)).1)] at ag
 generalize pb (b 8)=nL at bH ag
 clear hD;subst ag;clear d b X
 refine aa (wpIn_seq (bh [0,1,3,7,15,15,15,0,159,447,1023] [[],[6],[],[],[],[],[],[],[],[7]] [[],[],[],[],[],[],[],[7],[],[8]] [[],[],[],[],[],[],[],[],[],[7]] [.k 24 (vp nL),.c 25 (.string ((xx.1.es.getD j en0).1)),.c 26 (.tuple #[.string (qkF ((xx.1.es.getD j en0).1)),.agg #[vi (opF ((xx.1.es.getD j en0).1)),vi (osF ((xx.1.es.getD j en0).1))],.bool (decide (4<=((xx.1.es.getD j en0).1).size))]),.k 23 (.tuple #[.string (qkF ((xx.1.es.getD j en0).1)),.agg #[vi (opF ((xx.1.es.getD j en0).1)),vi (osF ((xx.1.es.getD j en0).1))],.bool (decide (4<=((xx.1.es.getD j en0).1).size))]),.k 27 (.string (qkF ((xx.1.es.getD j en0).1))),.k 28 (.agg #[vi (opF ((xx.1.es.getD j en0).1)),vi (osF ((xx.1.es.getD j en0).1))]),.k 29 (.bool (decide (4<=((xx.1.es.getD j en0).1).size))),.a 10,.k 9 (.string (qkF ((xx.1.es.getD j en0).1))),.n,.k 11 (.bool (decide (4<=((xx.1.es.getD j en0).1).size)))] (fun ix d b X=>match ix with|0|1|2|3|4|5|6=>True|7=>d 10=vp (pb (b 10))/\X 7=eB (pb (b 10)) 33 #[vi 0,vi 0]|8=>True|9=>X 8=eB (pb (b 10)) 33 #[vi (opF ((xx.1.es.getD j en0).1)),vi (osF ((xx.1.es.getD j en0).1))]|_=>True) [0,1,2,3,4,5,6,8] [1,2,7,9] [(9,8,1,10),(0,7,1,1),(0,10,1,1),(11,3,1,12),(0,0,3,3),(0,4,3,3)] bH ?_ ?_ ?_))
 exact fun ix _ _ _ _ _ _ hs hb hx h=>match ix,h with
 |7,h=>by dsimp only;rw[<-hs 10 rfl,<-hb 10 rfl,<-hx 7 rfl];exact h
 |9,h=>by dsimp only;rw[<-hb 10 rfl,<-hx 8 rfl];exact h
 |0,_|1,_|2,_|3,_|4,_|5,_|6,_|8,_|_+10,_=>trivial
 refine⟨?_,?_,?_,?_,trivial⟩
 exact xs4 rfl id fun cx=>ae rfl (by kernel_rfl) (cx.an 0) ((cx.bi 6 rfl).cell 0)
 exact xsc rfl id rfl rfl fun cx=>⟨_,ol ((xx.1.es.getD j en0).1) _ (b7 hez _),(bp (cx.an 1))⟩
 refine svA fun g b W X cx=>?_
 exact aX (cs:=#[vi 0,vi 0]) rfl (by kernel_rfl) rfl rfl (fun _ _ _ _ _=> .intro)
 refine svA fun g b W X cx=>?_
 exact aw (n:=2) rfl (dTn (cx.an 7)).1 (cx.an 5) (by kernel_rfl) (by kernel_rfl) (by kernel_rfl) cx (dTn (cx.an 7)).2 rfl (nle rfl) (by kernel_rfl) rfl rfl rfl (fun d i X' hs hb hx=>by rw[hb 10];exact hx)
 intro d b X kb hD bm fr ag
 simp only[exq 8 ((dTn (hD 9 lq)))] at bm
 simp only[ed 10 ((dTn (hD 7 lq)).1)] at ag
 generalize pb (b 10)=Pe at bm ag
 clear hD;subst ag;clear d b X
 refine aa (bh [0,0,2,7,0,0,32,127,255,511] [[0],[],[],[8,2],[1],[7],[],[10,3],[0],[1]] [[],[],[8],[9],[],[],[10],[11],[12],[13]] [[],[],[],[2],[],[],[],[3],[0],[1]] [.c 30 (.slice LA q lc),.k 31 (.string (qkF ((xx.1.es.getD j en0).1))),.a 32,.a 33,.c 34 (.slice QA q qc),.c 35 (.agg #[vi (opF ((xx.1.es.getD j en0).1)),vi (osF ((xx.1.es.getD j en0).1))]),.a 36,.a 37,.n,.n] (fun ix d b X=>match ix with|0|1=>True|2=>d 32= .slice (sA (b 32)) 1 1/\X 8=eO 9 1 (.slice (sA (b 32)) 1 1) 1 ([.string (qkF ((xx.1.es.getD j en0).1))])|3=>d 33= .slice (sA (b 33)) (q+1) (sC (b 33))/\X 9=eO 9 1 (.slice (sA (b 33)) (q+1) (sC (b 33))) (q+1) ((T++[(xx.1.es.getD j en0)]).map tqS)|4|5=>True|6=>d 36= .slice ((some ⟨(pb' (b 36)),0,none⟩)) 1 1/\X 10=eO 33 2 (.slice ((some ⟨(pb' (b 36)),0,none⟩)) 1 1) 1 ([vi (opF ((xx.1.es.getD j en0).1)),vi (osF ((xx.1.es.getD j en0).1))])|7=>d 37= .slice (sA (b 37)) (q+1) (sC (b 37))/\X 11=eO 33 2 (.slice (sA (b 37)) (q+1) (sC (b 37))) (q+1) ((T++[(xx.1.es.getD j en0)]).flatMap tqR)|8=>X 12=eB bx 56 #[.slice (sA (b 33)) (q+1) (sC (b 33))]|9=>X 13=eB bv 57 #[.slice (sA (b 37)) (q+1) (sC (b 37))]|_=>True) [4,5,6,7,8,9,10,11,12,13] [0,2,3,4,5,6,7,8,9] [(30,0,8,38)] bm ?_ ?_ ?_)
 exact fun ix _ _ _ _ _ _ hs hb hx h=>match ix,h with
 |2,h=>by dsimp only;rw[<-hs 32 rfl,<-hb 32 rfl,<-hx 8 rfl];exact h
 |3,h=>by dsimp only;rw[<-hs 33 rfl,<-hb 33 rfl,<-hx 9 rfl];exact h
 |6,h=>by dsimp only;rw[<-hs 36 rfl,<-hb 36 rfl,<-hx 10 rfl];exact h
 |7,h=>by dsimp only;rw[<-hs 37 rfl,<-hb 37 rfl,<-hx 11 rfl];exact h
 |8,h=>by dsimp only;rw[<-hb 33 rfl,<-hx 12 rfl];exact h
 |9,h=>by dsimp only;rw[<-hb 37 rfl,<-hx 13 rfl];exact h
 |0,_|1,_|4,_|5,_|_+10,_=>trivial
 refine⟨?_,?_,?_,?_,?_,?_,?_,?_,?_,trivial⟩
 exact xs4 rfl id fun cx=>ae rfl (by kernel_rfl) (cx.ou 4) ((cx.bi 0 rfl).cell 0)
 refine svA fun g b W X cx=>?_
 have EF:g (.tmp 31)= .string (qkF ((xx.1.es.getD j en0).1)):=(cx.an 1)
 exact bV (e:=9) (xs:=[.string (qkF ((xx.1.es.getD j en0).1))]) rfl (by simp[go_sem,EF]) rfl (by decide) rfl rfl (fun _ _ _ _ _=> .intro)
 refine svA fun g b W X cx=>?_
 obtain⟨i0,hi0,hz0,hz1,hz2⟩:=info_parts Tryz.infoStr
 refine cq (n:=q) (m:=1) (nm:=q+1) (xs:=T.map tqS) (news:=[.string (qkF ((xx.1.es.getD j en0).1))]) (xs':=(T++[(xx.1.es.getD j en0)]).map tqS) rfl (ty:=56) rfl (by kernel_rfl) hi0 hz0 hz1 hz2 rfl (cx.an 0) cx (cx.init 2 _ rfl) rfl (dTn (cx.an 2)).1 (by rfl) (At.of_own (cx.row (dTn (cx.an 2)).2 rfl)) (by simp[Value.oneCell']) (by simp only[maxLen];omega) (by omega) rfl rfl rfl (by omega) (qu _ _) (fun d i X' hs hb hv hx=>?_)
 exact⟨hv,hx⟩
 exact xs4 rfl id fun cx=>ae rfl (by kernel_rfl) (cx.ou 5) ((cx.bi 1 rfl).cell 0)
 exact xs4 rfl id fun cx=>aV (n:=2) rfl (by kernel_rfl) (by kernel_rfl) (cx.ou 10) (cx.bi 7 rfl) (nle rfl) rfl
 refine svA fun g b W X cx=>?_
 have Nj:g (.tmp 35)= .agg #[vi (opF ((xx.1.es.getD j en0).1)),vi (osF ((xx.1.es.getD j en0).1))]:=(cx.an 5)
 exact bS (e:=33) (sz:=2) (xs:=[vi (opF ((xx.1.es.getD j en0).1)),vi (osF ((xx.1.es.getD j en0).1))]) rfl (by simp[go_sem,Nj]) rfl (by decide) rfl rfl (fun _ _ _ _ _=> .intro)
 refine svA fun g b W X cx=>?_
 obtain⟨i0,hi0,hz0,hz1,hz2⟩:=info_parts Tryz.infoTid
 refine bN (n:=q) (m:=1) (nm:=q+1) (sz:=2) (xs:=T.flatMap tqR) (news:=[vi (opF ((xx.1.es.getD j en0).1)),vi (osF ((xx.1.es.getD j en0).1))]) (xs':=(T++[(xx.1.es.getD j en0)]).flatMap tqR) rfl (ty:=57) rfl (by kernel_rfl) hi0 hz0 hz1 hz2 rfl (by decide) (cx.an 4) cx (cx.init 3 _ rfl) rfl (dTn (cx.an 6)).1 (by rfl) (At.of_ownN (cx.row (dTn (cx.an 6)).2 rfl)) (by simp[Value.oneCell']) (by simp only[maxLen];omega) (by omega) rfl rfl rfl (by omega) (qz _ _) (fun d i X' hs hb hv hx=>?_)
 exact⟨hv,hx⟩
 refine svA fun g b W X cx=>?_
 exact aw (n:=1) rfl (cx.ou 4) (dTn (cx.an 3)).1 (by kernel_rfl) (by kernel_rfl) (by kernel_rfl) cx (cx.init 0 _ rfl) rfl (nle rfl) (by kernel_rfl) rfl rfl rfl (fun d i X' hs hb hx=>by rw[hb 33];exact hx)
 refine svA fun g b W X cx=>?_
 exact aw (n:=1) rfl (cx.ou 5) (dTn (cx.an 7)).1 (by kernel_rfl) (by kernel_rfl) (by kernel_rfl) cx (cx.init 1 _ rfl) rfl (nle rfl) (by kernel_rfl) rfl rfl rfl (fun d i X' hs hb hx=>by rw[hb 37];exact hx)
 intro d b X oM hD cc fr ag
 simp only[exq 8 ((dTn (hD 2 lq)).2),exq 9 ((dTn (hD 3 lq)).2),exq 10 ((dTn (hD 6 lq)).2),exq 11 ((dTn (hD 7 lq)).2),exq 12 ((dTn (hD 8 lq))),exq 13 ((dTn (hD 9 lq)))] at cc
 simp only[ed 32 ((dTn (hD 2 lq)).1),ed 33 ((dTn (hD 3 lq)).1),ed 36 ((dTn (hD 6 lq)).1),ed 37 ((dTn (hD 7 lq)).1)] at ag
 generalize sA (b 32)=Pf,sA (b 33)=J5,sC (b 33)=J6,pb' (b 36)=Pg,sA (b 37)=J7,sC (b 37)=J8 at cc ag
 clear hD;subst ag;clear d b X
 refine ax (aa (nO [0,1] [tI 38 ((j:Int)+1) (by omega),.k 19 (vi ((j:Int)+1))] [(19,1,1,20),(18,0,1,19)] cc fun nS bM=>?_))
 refine aa ?_
 refine⟨xx.1.es.length-((j+1)),by omega,?_⟩
 exact⟨(j+1),(q+1),(T++[(xx.1.es.getD j en0)]),J5,J6,J7,J8,by omega,by rw[hT,lJ (by omega),List.append_assoc],by rw[List.length_append,hTl];rfl,by omega,rfl,(by kernel_rfl),bM.pk [8,9,5,7,0,1]⟩
 have lP:¬((j:Int)<(xx.1.es.length:Int)):=by simpa using kp
 refine wpIn_cond_false (show Act.eval _ _= .bool false from(congrArg Value.bool kp)) (wpIn_exit (aj (aj (aO (ax ?_)))))
 have hfin_:T=esY (pre++[xx]):=by rw[hT,Ee,List.take_of_length_le (by omega)]
 rw[hfin_] at bY hTl
 exact⟨true,.inl ⟨rfl,rfl⟩,_,⟨q,LA,lc,QA,qc,hTl.symm,by rw[List.length_append];show q<=100*(pre.length+1);omega,rfl⟩,bY.pick [0,1,2,3,4] (by decide) rfl⟩
 rintro D5 xL L5 XS_ E_ ⟨m,KA,kc,RA,rc,hm,hmb,rfl⟩ hZ_ jg
 have nK:St w [] [eB bx 56 #[.slice KA m kc],eB bv 57 #[.slice RA m rc],eO 9 1 (.slice KA m kc) m ((esY XS_).map tqS),eO 33 2 (.slice RA m rc) m ((esY XS_).flatMap tqR),E_,fg D5] xL:=jg
 clear jg
 refine ax (aa (wp_seq (ak [0,0,1,7] [[0],[1],[0],[1]] [[],[],[6],[7]] [[],[],[0],[1]] [.c 39 (.slice KA m kc),.c 40 (.slice RA m rc),.n,.n] (fun ix d b X=>match ix with|0|1=>True|2=>X 6=eB bx 56 #[.slice KA m kc]|3=>X 7=eB bv 57 #[.slice RA m rc]|_=>True) [2,3,4,5,6,7] [0,1,2,3] [(39,0,2,41)] nK ?_ ?_ ?_)))
 exact fun ix _ _ _ _ _ _ hs hb hx h=>match ix,h with
 |2,h=>by dsimp only;rw[<-hx 6 rfl];exact h
 |3,h=>by dsimp only;rw[<-hx 7 rfl];exact h
 |0,_|1,_|_+4,_=>trivial
 refine⟨?_,?_,?_,?_,trivial⟩
 exact xs4 rfl id fun cx=>ae rfl (by kernel_rfl) (cx.ou 4) ((cx.bi 0 rfl).cell 0)
 exact xs4 rfl id fun cx=>ae rfl (by kernel_rfl) (cx.ou 5) ((cx.bi 1 rfl).cell 0)
 refine svA fun g b W X cx=>?_
 exact aw (n:=1) rfl (cx.ou 4) (cx.an 0) (by kernel_rfl) (by kernel_rfl) (by kernel_rfl) cx (cx.init 0 _ rfl) rfl (nle rfl) (by kernel_rfl) rfl rfl rfl (fun _ _ _ _ _=>id)
 refine svA fun g b W X cx=>?_
 exact aw (n:=1) rfl (cx.ou 5) (cx.an 1) (by kernel_rfl) (by kernel_rfl) (by kernel_rfl) cx (cx.init 1 _ rfl) rfl (nle rfl) (by kernel_rfl) rfl rfl rfl (fun _ _ _ _ _=>id)
 intro d b X su hD b6 fr ag
 simp only[exq 6 ((dTn (hD 2 lq))),exq 7 ((dTn (hD 3 lq)))] at b6
 clear hD;subst ag;clear d b X
 refine aa (wp_ret ?_)
 refine lg (L:=[eO 9 1 (.slice KA m kc) m ((esY XS_).map tqS),eO 33 2 (.slice RA m rc) m ((esY XS_).flatMap tqR),E_,eB bx 56 #[.slice KA m kc],eB bv 57 #[.slice RA m rc]]) (b6.pick [0,1,2,4,5,3] (by decide) rfl) fun Wt18 ht18=>?_
 refine⟨.tuple #[.slice KA m kc,.slice RA m rc],(cA Tryz.results23 (rpc (ht18.blk 3 rfl) 0) (rpc (ht18.blk 4 rfl) 0)),?_⟩
 exact Gb (hZ_.2.1 rfl) hm (ht18.pick [0,1] (by decide) rfl)
 exact fun D W L xs E h=>h.elim
end
section
open Go.RowKit
def ao(ps:List PgS)(root lv:Int):List Int:=(bo ps root lv).map Prod.fst
def dsI(ps:List PgS)(lv:Int)(k:Nat)(x:Int):List Int:=match dA ps lv k x with
 |none=>[]
 |some (y,_)=>(dG ps lv 1000 y).map Prod.fst
theorem Ht(ps:List PgS)(root lv:Int):ao ps root lv=dsI ps lv 1000 root:=by
 rw[ao,bo,dsI]
 cases dA ps lv 1000 root<;>rfl
theorem FS{ps:List PgS}{lv x:Int}{k:Nat}(h:av ps x=none):dsI ps lv k x=[]:=by rw[dsI,wZ h]
theorem yr{ps:List PgS}{lv x:Int}{k:Nat}{n:NoD}(h:av ps x=some n)(hl:n.lv≠lv)(h2:n.lv<lv\/n.es.length=0):dsI ps lv k x=[]:=by rw[dsI,vN h hl h2]
theorem Hu{ps:List PgS}{lv x:Int}{k:Nat}{n:NoD}(h:av ps x=some n)(hl:n.lv=lv):dsI ps lv (k+1) x=(dG ps lv 1000 x).map Prod.fst:=by rw[dsI,tj h hl]
theorem GK{ps:List PgS}{lv x:Int}{k:Nat}{n:NoD}(h:av ps x=some n)(hl:lv<n.lv)(h2:n.es.length≠0):dsI ps lv (k+1) x=dsI ps lv k (n.es.getD 0 en0).2.2:=by rw[dsI,mY h hl h2];rfl
def chI(ps:List PgS)(lv:Int)(k:Nat)(x:Int):List Int:=(dG ps lv k x).map Prod.fst
theorem FM{ps:List PgS}{lv x:Int}{k:Nat}(h:av ps x=none):chI ps lv k x=[]:=by rw[chI,qF h];rfl
theorem Ft{ps:List PgS}{lv x:Int}{k:Nat}{n:NoD}(h:av ps x=some n)(hl:n.lv≠lv):chI ps lv k x=[]:=by rw[chI,vZ h hl];rfl
theorem H4{ps:List PgS}{lv x:Int}{k:Nat}{n:NoD}(h:av ps x=some n)(hl:n.lv=lv):chI ps lv (k+1) x=x::chI ps lv k n.right:=by rw[chI,pR h hl];rfl
theorem DC(l:List Int)(x:Int):l.map (Value.int .i64)++[.int .i64 x]=(l++[x]).map (Value.int .i64):=by simp
def AD(L:List Int)(w:World)(e:Ending)(w':World):Prop:=∃A c,e= .returned (.slice A L.length c)/\St w [] [eO 3 1 (.slice A L.length c) L.length (L.map (Value.int .i64))] w'
theorem jj(bk:Nat)(root lv:Int)(ps:List PgS)(w:World)(hB:fZ w bk ps)(hok:OkS ps):
  Calls Tryz.prog 41 #[.pointer (some ⟨bk,0,none⟩),.int .i64 root,.int .i64 lv] w (AD (ao ps root lv) w):=by
 go_enter Tryz.func41,Tryz.ntmps41
 have ar:=St.start w
 refine wp_seq (sqr (sqp [.k 6 (.slice none 0 0)] ?_))
 refine aa (wp_seq (sqr (sqp [.m 13 1,.m 7 13] ?_)))
 refine aa (wp_seq (sqr (sqp [.k 8 (.bool false)] ?_)))
 refine aa ?_
 refine ju (fun t_ az W=>∃fnd:Bool,∃y:Int,(ao ps root lv=bif fnd then chI ps lv 1000 y else [])/\az=⟨(ovr (jv az) [(6,6,1,[vi y,.bool fnd]),(0,9,2,[]),(3,14,32,[])] t_).toArray,[]⟩/\St w [] [] W) ?_ ?_
 refine wp_seq (sqr (sqp [.k 9 (vi 0)] ?_))
 refine aa (wp_block ?_)
 refine aL (fun t_ mz az W=>∃i:Nat,∃x:Int,i<=1000/\ao ps root lv=dsI ps lv (1000-i) x/\mz=1000-i/\az=⟨(ovr (jv az) [(6,6,1,[vi x]),(1,9,0,[vi ((i:Int))]),(0,10,1,[]),(3,14,32,[])] t_).toArray,[]⟩/\St w [] [] W) (1000-0) ?_ ?_
 exact⟨0,root,Nat.zero_le _,Ht _ _ _,rfl,(by kernel_rfl),ar.pk []⟩
 rintro n7 a7 W7 ⟨i,x,hi,hds,rfl,hj_,bD⟩
 refine ovz hj_ fun E5=>?_
 refine wp_seq (wp_seq (sqr (sqp [.m 14 9,.k 15 (.bool (decide ((i:Int)<1000))),.m 16 15] ?_)))
 refine sqw 16 [17,18] rfl (fun _=>sqp [.k 17 (.bool false),.k 18 (.bool true)] sqe) ?_
 refine sqp [sPa 19 (decide ((i:Int)<1000)) true] ?_
 refine aa (wbs (fun dQ=>?_) fun dQ=>?_)
 have fC:=dQ
 simp only[zB] at fC
 obtain⟨IN,IP⟩:=fC
 refine wp_skip (aa (wp_seq (wp_block (wp_seq ?_))))
 rcases hnd:av ps x with _|nd
 refine sqr (sqp [.m 22 0,.m 23 7] ?_)
 refine sqk (.agg #[.bool false,.bool false,vi 0,vi 0,.string ((⟨#[]⟩:ByteArray)),.slice none 0 0,.slice none 0 0,.slice none 0 0]) bD (fun cx=>⟨_,rE hnd (dF bk ps x _ (hB.ext cx.upd.to_ext) hok),(aI (cx.ou 22) (cx.ou 23))⟩) fun su b6=>?_
 refine bF #[.bool false,.bool false,vi 0,vi 0,.string ByteArray.empty,.slice none 0 0,.slice none 0 0,.slice none 0 0] b6 fun J9 qi b5=>?_
 refine aD (n:=8) 0 #[.bool false,.bool false,vi 0,vi 0,.string ((⟨#[]⟩:ByteArray)),.slice none 0 0,.slice none 0 0,.slice none 0 0] b5 fun w5 cU=>?_
 refine aa (wp_seq (wp_seq (sqr (sqp [.k 25 (vp J9)] ?_))))
 refine am 0 cU ?_
 refine sqp [.k 27 (.bool true),.k 28 (.bool true)] ?_
 refine tm 28 [29,30,31,32] rfl rfl ?_
 refine sqp [.k 33 (.bool true)] ?_
 refine aa (wct rfl (wp_seq (sqr (sqp [.k 6 (.slice none 0 0)] ?_))))
 refine aa (wp_ret (af (aq (af (af (aq (af ?_)))))))
 refine bpr (.slice none 0 0) (ai Tryz.results41 rpt) ?_
 have hn26:=St.nilrow cU 3
 simp only[List.cons_append,List.nil_append] at hn26
 rw[show ao ps root lv=[] by rw[hds,FS hnd]]
 exact⟨_,_,rfl,hn26.pick [1] (by decide) rfl⟩
 have hN0:=cO hok hnd
 have hN1:=hN0.len
 have hN2:=hN0.rt
 have hN4:=hN0.lv
 refine ak [0,0,3,0,15] [[],[],[],[],[3]] [[],[],[0,1,2],[3],[4]] [[],[],[],[],[3]] [.k 22 (vp bk),.k 23 (vi x),.a 24,.a 10,.n] (fun ix c b X=>match ix with|0|1=>True|2=>c 24= .agg #[.bool true,.bool nd.dead,vi nd.lv,vi nd.right,.string nd.high,.slice (sA (tg (b 24) 5)) nd.es.length (sC (tg (b 24) 5)),.slice (sA (tg (b 24) 6)) nd.es.length (sC (tg (b 24) 6)),.slice (sA (tg (b 24) 7)) nd.es.length (sC (tg (b 24) 7))]/\X 0=eO 9 1 (.slice (sA (tg (b 24) 5)) nd.es.length (sC (tg (b 24) 5))) nd.es.length (nd.es.map stv)/\X 1=eO 3 1 (.slice (sA (tg (b 24) 6)) nd.es.length (sC (tg (b 24) 6))) nd.es.length (nd.es.map slv)/\X 2=eO 3 1 (.slice (sA (tg (b 24) 7)) nd.es.length (sC (tg (b 24) 7))) nd.es.length (nd.es.map kdv)|3=>c 10=vp (pb (b 10))/\X 3=eB (pb (b 10)) 95 #[.bool false,.bool false,vi 0,vi 0,.string ByteArray.empty,.slice none 0 0,.slice none 0 0,.slice none 0 0]|4=>X 4=eB (pb (b 10)) 95 #[.bool true,.bool nd.dead,vi nd.lv,vi nd.right,.string nd.high,.slice (sA (tg (b 24) 5)) nd.es.length (sC (tg (b 24) 5)),.slice (sA (tg (b 24) 6)) nd.es.length (sC (tg (b 24) 6)),.slice (sA (tg (b 24) 7)) nd.es.length (sC (tg (b 24) 7))]|_=>True) [0,1,2,4] [2,3,4] [(10,3,1,11),(11,0,3,14)] bD ?_ ?_ ?_
 exact fun ix _ _ _ _ _ _ hs hb hx h=>match ix,h with
 |2,h=>by dsimp only;rw[<-hs 24 rfl,<-hb 24 rfl,<-hx 0 rfl,<-hx 1 rfl,<-hx 2 rfl];exact h
 |3,h=>by dsimp only;rw[<-hs 10 rfl,<-hb 10 rfl,<-hx 3 rfl];exact h
 |4,h=>by dsimp only;rw[<-hb 10 rfl,<-hb 24 rfl,<-hx 4 rfl];exact h
 |0,_|1,_|_+5,_=>trivial
 refine⟨?_,?_,?_,trivial⟩
 refine svA fun d b W X cx=>?_
 refine aC.call (aB (args:=#[vp bk,vi x]) rfl cx.sees rfl (by kernel_rfl) (aI (cx.an 0) (cx.an 1))) ?_
 refine(fF hnd (dF bk ps x _ (hB.ext cx.upd.to_ext) hok)).mono ?_
 rintro e W1 ⟨EA4,ec4,SA4,sc4,KA4,kc4,rfl,aM⟩
 refine⟨_,rfl,cl [eO 9 1 (.slice EA4 nd.es.length ec4) nd.es.length (nd.es.map stv),eO 3 1 (.slice SA4 nd.es.length sc4) nd.es.length (nd.es.map slv),eO 3 1 (.slice KA4 nd.es.length kc4) nd.es.length (nd.es.map kdv)] rfl rfl aM (fun c f X' hs hb hv hN=>?_)⟩
 have aW:=(hv 24 rfl).1;have aG:=(hv 24 rfl).2
 exact⟨aW.trans (by rw[aG];rfl),(by rw[aG];exact(List.cons.inj hN).1),(by rw[aG];exact(List.cons.inj (List.cons.inj hN).2).1),(by rw[aG];exact(List.cons.inj (List.cons.inj (List.cons.inj hN).2).2).1)⟩
 refine svA fun d b W X cx=>?_
 exact aX (cs:=#[.bool false,.bool false,vi 0,vi 0,.string ByteArray.empty,.slice none 0 0,.slice none 0 0,.slice none 0 0]) rfl (by kernel_rfl) rfl rfl (fun _ _ _ _ _=> .intro)
 refine svA fun d b W X cx=>?_
 exact aw (n:=8) rfl (dTn (cx.an 3)).1 (dTn (cx.an 2)).1 (by kernel_rfl) (by kernel_rfl) (by kernel_rfl) cx (dTn (cx.an 3)).2 rfl (nle rfl) (by kernel_rfl) rfl rfl rfl (fun c f X' hs hb hx=>by rw[hb 10,hb 24];exact hx)
 intro c b X y6 hD cd fr ag
 simp only[exq 0 ((dTn (hD 2 lq)).2.1),exq 1 ((dTn (hD 2 lq)).2.2.1),exq 2 ((dTn (hD 2 lq)).2.2.2),exq 4 ((dTn (hD 4 lq)))] at cd
 simp only[ed 24 ((dTn (hD 2 lq)).1),ed 10 ((dTn (hD 3 lq)).1)] at ag
 generalize sA (tg (b 24) 5)=EA24_27,sC (tg (b 24) 5)=cEA24_27,sA (tg (b 24) 6)=SA24_27,sC (tg (b 24) 6)=cSA24_27,sA (tg (b 24) 7)=KA24_27,sC (tg (b 24) 7)=cKA24_27,pb (b 10)=pa at cd ag
 clear hD;subst ag;clear c b X
 refine aa (wp_seq (wp_seq (sqr (sqp [.k 25 (vp pa)] ?_))))
 refine am 3 cd ?_
 refine sqp [.k 27 (.bool false),.k 28 (.bool false)] ?_
 refine il 28 [29,30,31,32] rfl rfl ?_
 refine sqp [.k 29 (.pointer (some ⟨pa,2,none⟩))] ?_
 refine am 3 cd ?_
 refine sqp [.m 31 2,.k 32 (.bool (decide (nd.lv<lv)))] ?_
 refine sqp [.k 33 (.bool (decide (nd.lv<lv)))] ?_
 refine aa (wds (fun Nk Lx=>?_) fun Nk Lx=>?_)
 refine wp_seq (sqr (sqp [.k 6 (.slice none 0 0)] ?_))
 refine aa (wp_ret (af (aq (af (af (aq (af ?_)))))))
 refine bpr (.slice none 0 0) (ai Tryz.results41 rpt) ?_
 have hn39:=St.nilrow cd 3
 simp only[List.cons_append,List.nil_append] at hn39
 rw[show ao ps root lv=[] by rw[hds,yr hnd (by omega) (by omega)]]
 exact⟨_,_,rfl,hn39.pick [4] (by decide) rfl⟩
 refine wp_skip (aa (wp_seq (wp_seq (sqr (sqp [.k 34 (.pointer (some ⟨pa,2,none⟩))] ?_)))))
 refine am 3 cd ?_
 refine sqp [.m 36 2,.k 37 (.bool (nd.lv==lv))] ?_
 refine aa (wbs (fun xM=>?_) fun xM=>?_)
 have Aq:=beq_iff_eq.1 xM
 refine wp_seq (sqr (sqp [.k 8 (.bool true)] ?_))
 refine aa (wp_exit (aj (w4 (by decide) (aj (aj (aO (aa ?_)))))))
 exact⟨true,x,by rw[hds,show 1000-i=999-i+1 by omega,Hu hnd (by omega)];rfl,(by kernel_rfl),cd.pk []⟩
 have Aq:=beq_eq_false_iff_ne.1 xM
 refine wp_skip (aa (wp_seq (wp_seq (sqr (sqp [.k 38 (.pointer (some ⟨pa,5,none⟩))] ?_)))))
 refine am 3 cd ?_
 refine sqp [.k 40 (vi ((nd.es.length:Int))),.k 41 (.bool ((nd.es.length:Int)==0))] ?_
 refine aa (wbs (fun mq=>?_) fun mq=>?_)
 have lV:=beq_iff_eq.1 mq
 refine wp_seq (sqr (sqp [.k 6 (.slice none 0 0)] ?_))
 refine aa (wp_ret (af (aq (af (af (aq (af ?_)))))))
 refine bpr (.slice none 0 0) (ai Tryz.results41 rpt) ?_
 have hn52:=St.nilrow cd 3
 simp only[List.cons_append,List.nil_append] at hn52
 rw[show ao ps root lv=[] by rw[hds,yr hnd (by omega) (by omega)]]
 exact⟨_,_,rfl,hn52.pick [4] (by decide) rfl⟩
 have lV:=beq_eq_false_iff_ne.1 mq
 refine wp_skip (aa (sqr (sqp [.k 42 (.pointer (some ⟨pa,7,none⟩))] ?_)))
 refine am 3 cd ?_
 refine sql (.pointer (some ((ad KA24_27).add 0))) cd (fun cx=>ay (e:=3) (m:=0) rfl (by kernel_rfl) (by kernel_rfl) (cx.ou 43) (cx.co _) (by omega) (by omega) (At.of_own (cx.ri 2 rfl)) (by simp)) ?_
 refine sql (vi ((nd.es.getD 0 en0).2.2)) cd (fun cx=>ae rfl (by kernel_rfl) (cx.ou 44) (At.cellAd (At.of_own (cx.ri 2 rfl)) (j1 (by omega)))) ?_
 refine sqp [.m 7 45] ?_
 refine ax (aa (sqr (sqp [.m 20 9,sI 21 ((i:Int)+1) (by omega),.m 9 21] ?_)))
 refine aa ?_
 refine⟨1000-((i+1)),by omega,?_⟩
 exact⟨(i+1),(nd.es.getD 0 en0).2.2,by omega,by rw[hds,show 1000-i=1000-(i+1)+1 by omega,GK hnd (by omega) (by omega)],rfl,(by kernel_rfl),cd.pk []⟩
 have fC:=dQ
 simp only[zB] at fC
 refine wp_exit (aj (aj (aO (aa ?_))))
 have hi0_:1000-i=0:=by have h_:=dQ;simp at h_;omega
 exact⟨false,x,by rw[hds,hi0_];rfl,(by kernel_rfl),bD.pk []⟩
 rintro a5 W5 ⟨fnd,y,hfd,hj_,bw⟩
 refine ovz hj_ fun Cf=>?_
 refine wp_seq (sqr (sqp [.k 11 (.slice none 0 0)] ?_))
 refine aa (wp_seq (wp_block ?_))
 have hn62:=St.nilrow bw 3
 simp only[List.cons_append,List.nil_append] at hn62
 refine aL (fun t_ mz az W=>∃nn:Nat,∃O:List Int,∃OA:Option Addr,∃OC:Nat,∃z:Int,(ao ps root lv=O++bif fnd then chI ps lv (1000-nn) z else [])/\O.length=nn/\nn<=1000/\mz=1000-nn/\az=⟨(ovr (jv az) [(7,7,0,[vi z]),(3,11,0,[.slice OA nn OC]),(0,12,1,[]),(33,46,24,[])] t_).toArray,[]⟩/\St w [] [eO 3 1 (.slice OA nn OC) nn (O.map (Value.int .i64))] W) (1000-0) ?_ ?_
 exact⟨0,[],none,0,y,hfd,rfl,Nat.zero_le _,rfl,(by kernel_rfl),hn62.pk [0]⟩
 rintro Ph a63 JK ⟨nn,O,OA,OC,z,hO,hOl,hnn,rfl,hj_,je⟩
 refine ovz hj_ fun Nl=>?_
 refine wp_seq (wp_seq (sqr (sqp [.m 46 8,.m 47 46] ?_)))
 refine sqw 47 [48,49,50] rfl (fun _=>sqp [.m 48 11,.k 49 (vi ((nn:Int))),.k 50 (.bool (decide ((nn:Int)<1000)))] sqe) ?_
 refine sqp [sPa 51 fnd (decide ((nn:Int)<1000))] ?_
 refine aa (wbs (fun gw=>?_) fun gw=>?_)
 have jM:=gw
 simp only[zB] at jM
 obtain⟨xN,Pi⟩:=jM
 refine wp_skip (aa (wp_block (wp_seq ?_)))
 rcases hnd:av ps z with _|nd
 refine sqr (sqp [.m 52 0,.m 53 7] ?_)
 refine sqk (.agg #[.bool false,.bool false,vi 0,vi 0,.string ((⟨#[]⟩:ByteArray)),.slice none 0 0,.slice none 0 0,.slice none 0 0]) je (fun cx=>⟨_,rE hnd (dF bk ps z _ (hB.ext cx.upd.to_ext) hok),(aI (cx.ou 52) (cx.ou 53))⟩) fun L2 jR=>?_
 refine bF #[.bool false,.bool false,vi 0,vi 0,.string ByteArray.empty,.slice none 0 0,.slice none 0 0,.slice none 0 0] jR fun Ka Pj Ar=>?_
 refine aD (n:=8) 1 #[.bool false,.bool false,vi 0,vi 0,.string ((⟨#[]⟩:ByteArray)),.slice none 0 0,.slice none 0 0,.slice none 0 0] Ar fun LY pW=>?_
 refine aa (wp_seq (wp_seq (sqr (sqp [.k 55 (vp Ka)] ?_))))
 refine am 1 pW ?_
 refine sqp [.k 57 (.bool true),.k 58 (.bool true)] ?_
 refine tm 58 [59,60,61,62] rfl rfl ?_
 refine sqp [.k 63 (.bool true)] ?_
 refine aa (wct rfl (wp_exit (aj (w4 (by decide) (aj (aO (aa (wp_seq (sqr (sqp [.m 70 11,.m 6 70] ?_))))))))))
 refine aa (wp_ret ?_)
 refine bpr (.slice OA nn OC) (ai Tryz.results41 rpt) ?_
 have hfin:ao ps root lv=O:=by rw[hO,xN];dsimp only[cond];rw[FM hnd,List.append_nil]
 rw[hfin]
 subst hOl
 exact⟨_,_,rfl,pW.pick [0] (by decide) rfl⟩
 have hN0:=cO hok hnd
 have hN1:=hN0.len
 have hN2:=hN0.rt
 have hN4:=hN0.lv
 refine ak [0,0,3,0,15] [[],[],[],[],[4]] [[],[],[1,2,3],[4],[5]] [[],[],[],[],[4]] [.k 52 (vp bk),.k 53 (vi z),.a 54,.a 12,.n] (fun ix c b X=>match ix with|0|1=>True|2=>c 54= .agg #[.bool true,.bool nd.dead,vi nd.lv,vi nd.right,.string nd.high,.slice (sA (tg (b 54) 5)) nd.es.length (sC (tg (b 54) 5)),.slice (sA (tg (b 54) 6)) nd.es.length (sC (tg (b 54) 6)),.slice (sA (tg (b 54) 7)) nd.es.length (sC (tg (b 54) 7))]/\X 1=eO 9 1 (.slice (sA (tg (b 54) 5)) nd.es.length (sC (tg (b 54) 5))) nd.es.length (nd.es.map stv)/\X 2=eO 3 1 (.slice (sA (tg (b 54) 6)) nd.es.length (sC (tg (b 54) 6))) nd.es.length (nd.es.map slv)/\X 3=eO 3 1 (.slice (sA (tg (b 54) 7)) nd.es.length (sC (tg (b 54) 7))) nd.es.length (nd.es.map kdv)|3=>c 12=vp (pb (b 12))/\X 4=eB (pb (b 12)) 95 #[.bool false,.bool false,vi 0,vi 0,.string ByteArray.empty,.slice none 0 0,.slice none 0 0,.slice none 0 0]|4=>X 5=eB (pb (b 12)) 95 #[.bool true,.bool nd.dead,vi nd.lv,vi nd.right,.string nd.high,.slice (sA (tg (b 54) 5)) nd.es.length (sC (tg (b 54) 5)),.slice (sA (tg (b 54) 6)) nd.es.length (sC (tg (b 54) 6)),.slice (sA (tg (b 54) 7)) nd.es.length (sC (tg (b 54) 7))]|_=>True) [0,1,2,3,5] [2,3,4] [(12,3,1,13),(39,0,3,42)] je ?_ ?_ ?_
 exact fun ix _ _ _ _ _ _ hs hb hx h=>match ix,h with
 |2,h=>by dsimp only;rw[<-hs 54 rfl,<-hb 54 rfl,<-hx 1 rfl,<-hx 2 rfl,<-hx 3 rfl];exact h
 |3,h=>by dsimp only;rw[<-hs 12 rfl,<-hb 12 rfl,<-hx 4 rfl];exact h
 |4,h=>by dsimp only;rw[<-hb 12 rfl,<-hb 54 rfl,<-hx 5 rfl];exact h
 |0,_|1,_|_+5,_=>trivial
 refine⟨?_,?_,?_,trivial⟩
 refine svA fun d b W X cx=>?_
 refine aC.call (aB (args:=#[vp bk,vi z]) rfl cx.sees rfl (by kernel_rfl) (aI (cx.an 0) (cx.an 1))) ?_
 refine(fF hnd (dF bk ps z _ (hB.ext cx.upd.to_ext) hok)).mono ?_
 rintro e W1 ⟨EA4,ec4,SA4,sc4,KA4,kc4,rfl,aM⟩
 refine⟨_,rfl,cl [eO 9 1 (.slice EA4 nd.es.length ec4) nd.es.length (nd.es.map stv),eO 3 1 (.slice SA4 nd.es.length sc4) nd.es.length (nd.es.map slv),eO 3 1 (.slice KA4 nd.es.length kc4) nd.es.length (nd.es.map kdv)] rfl rfl aM (fun c f X' hs hb hv hN=>?_)⟩
 have aW:=(hv 54 rfl).1;have aG:=(hv 54 rfl).2
 exact⟨aW.trans (by rw[aG];rfl),(by rw[aG];exact(List.cons.inj hN).1),(by rw[aG];exact(List.cons.inj (List.cons.inj hN).2).1),(by rw[aG];exact(List.cons.inj (List.cons.inj (List.cons.inj hN).2).2).1)⟩
 refine svA fun d b W X cx=>?_
 exact aX (cs:=#[.bool false,.bool false,vi 0,vi 0,.string ByteArray.empty,.slice none 0 0,.slice none 0 0,.slice none 0 0]) rfl (by kernel_rfl) rfl rfl (fun _ _ _ _ _=> .intro)
 refine svA fun d b W X cx=>?_
 exact aw (n:=8) rfl (dTn (cx.an 3)).1 (dTn (cx.an 2)).1 (by kernel_rfl) (by kernel_rfl) (by kernel_rfl) cx (dTn (cx.an 3)).2 rfl (nle rfl) (by kernel_rfl) rfl rfl rfl (fun c f X' hs hb hx=>by rw[hb 12,hb 54];exact hx)
 intro c b X Jh hD gI fr ag
 simp only[exq 1 ((dTn (hD 2 lq)).2.1),exq 2 ((dTn (hD 2 lq)).2.2.1),exq 3 ((dTn (hD 2 lq)).2.2.2),exq 5 ((dTn (hD 4 lq)))] at gI
 simp only[ed 54 ((dTn (hD 2 lq)).1),ed 12 ((dTn (hD 3 lq)).1)] at ag
 generalize sA (tg (b 54) 5)=EA54_83,sC (tg (b 54) 5)=cEA54_83,sA (tg (b 54) 6)=SA54_83,sC (tg (b 54) 6)=cSA54_83,sA (tg (b 54) 7)=KA54_83,sC (tg (b 54) 7)=cKA54_83,pb (b 12)=xO at gI ag
 clear hD;subst ag;clear c b X
 refine aa (wp_seq (wp_seq (sqr (sqp [.k 55 (vp xO)] ?_))))
 refine am 4 gI ?_
 refine sqp [.k 57 (.bool false),.k 58 (.bool false)] ?_
 refine il 58 [59,60,61,62] rfl rfl ?_
 refine sqp [.k 59 (.pointer (some ⟨xO,2,none⟩))] ?_
 refine am 4 gI ?_
 refine sqp [.m 61 2,.k 62 (.bool (nd.lv != lv))] ?_
 refine sqp [.k 63 (.bool (nd.lv != lv))] ?_
 refine aa (wbs (fun Au=>?_) fun Au=>?_)
 have Ly:=bne_iff_ne.1 Au
 refine wp_exit (aj (w4 (by decide) (aj (aO (aa (wp_seq (sqr (sqp [.m 70 11,.m 6 70] ?_))))))))
 refine aa (wp_ret ?_)
 refine bpr (.slice OA nn OC) (ai Tryz.results41 rpt) ?_
 have hfin:ao ps root lv=O:=by rw[hO,xN];dsimp only[cond];rw[Ft hnd (by have h_:=Au;simpa using h_),List.append_nil]
 rw[hfin]
 subst hOl
 exact⟨_,_,rfl,gI.pick [0] (by decide) rfl⟩
 have Ly:=bne_eq_false_iff_eq.1 Au
 refine wp_skip (aa (wp_seq (sqr (sqp [.m 64 11,.m 65 7] ?_))))
 refine kW (fun x_=>sA x_) (fun sX=> .slice sX 1 1) (fun sX=>eO 3 1 (.slice sX 1 1) 1 ([vi z])) gI (by
   refine svA fun d b W X cx=>?_
   have Nm:d (.tmp 65)=vi z:=(cx.ou 65)
   exact bV (e:=3) (xs:=[vi z]) rfl (by simp[go_sem,Nm]) rfl (by decide) rfl rfl (fun _ _ _ _ _=> .intro)) fun sX LV dC=>?_
 refine zj (fun x_=>sA x_) (fun x_=>sC x_) (fun pd pe=> .slice pd (nn+1) pe) (fun pd pe=>eO 3 1 (.slice pd (nn+1) pe) (nn+1) ((O++[z]).map (Value.int .i64))) 0 dC (by
   refine svA fun d b W X cx=>?_
   obtain⟨i0,hi0,hz0,hz1,hz2⟩:=info_parts Tryz.infoInt
   refine cq (n:=nn) (m:=1) (nm:=nn+1) (xs:=O.map (Value.int .i64)) (news:=[vi z]) (xs':=(O++[z]).map (Value.int .i64)) rfl (ty:=22) rfl (by kernel_rfl) hi0 hz0 hz1 hz2 rfl (cx.ou 64) cx (cx.init 0 _ rfl) rfl (cx.ou 66) (by rfl) (At.of_own (cx.ri 5 rfl)) (by simp[Value.oneCell']) (by simp only[maxLen];omega) (by omega) rfl rfl rfl (by omega) (DC _ _) (fun c f X' hs hb hv hx=>?_)
   exact⟨hv,hx⟩) fun pd pe Rx Fp=>?_
 refine sqp [.m 11 67] ?_
 refine aa (sqr (sqp [.k 68 (.pointer (some ⟨xO,3,none⟩))] ?_))
 refine am 4 Fp ?_
 refine sqp [.m 7 69] ?_
 refine ax (aa ?_)
 refine⟨1000-((nn+1)),by omega,?_⟩
 exact⟨(nn+1),(O++[z]),pd,pe,nd.right,by rw[hO,xN,show 1000-nn=1000-(nn+1)+1 by omega];dsimp only[cond];rw[H4 hnd (by omega),List.append_assoc];rfl,by rw[List.length_append,hOl];rfl,by omega,rfl,(by kernel_rfl),Fp.pk [0]⟩
 have jM:=gw
 simp only[zB] at jM
 refine wp_exit (aj (aj (aO (aa (wp_seq (sqr (sqp [.m 70 11,.m 6 70] ?_)))))))
 refine aa (wp_ret ?_)
 refine bpr (.slice OA nn OC) (ai Tryz.results41 rpt) ?_
 have hfin:ao ps root lv=O:=by rw[hO];have h_:=gw;cases fnd with|false=>exact List.append_nil _|true=>rw[show 1000-nn=0 by simp at h_;omega];exact List.append_nil _
 rw[hfin]
 subst hOl
 exact⟨_,_,rfl,je.pick [0] (by decide) rfl⟩
end
section
open Go.RowKit
theorem rB{P:Program}{o:Oper}{a:Operand->Value}{W:World}{t:TypeId}{x:Operand}{f:Nat}{v r:Value}(h:o.op= .field t x f)(hx:a x=v)(hf:∀w,(Instr.field t v f).run P w= .ok r w):(execOp a o).run P W= .ok (.value r) W:=by
 unfold execOp;rw[h];simp[hx,hf]
theorem rT{ps:List PgS}{root lv:Int}{i:Nat}(h:i<(ao ps root lv).length):∃nd,av ps ((ao ps root lv).getD i 0)=some nd/\nd.lv=lv/\(bo ps root lv)[i]? =some ((ao ps root lv).getD i 0,nd):=by
 rw[ao,List.length_map] at h
 have h1:(ao ps root lv).getD i 0=((bo ps root lv)[i]'h).1:=by
  rw[ao,List.getD_eq_getElem?_getD,List.getElem?_map,List.getElem?_eq_getElem h];rfl
 have h2:=nV (ps:=ps) _ (List.getElem_mem h)
 rw[h1]
 exact⟨_,h2.1,h2.2,by rw[List.getElem?_eq_getElem h]⟩
theorem wK(ps:List PgS)(root lv:Int):(ao ps root lv).length<=1000:=by rw[ao,List.length_map];exact jz _ _ _
def qw(ps:List PgS)(root:Int)(i:Nat):List EnD:=((bo ps root 0).take i).flatMap fun x=>x.2.es
theorem BX{ps:List PgS}{root x:Int}{i:Nat}{nd:NoD}(h:(bo ps root 0)[i]? =some (x,nd)):qw ps root (i+1)=qw ps root i++nd.es:=by
 rw[qw,List.take_add_one,h,List.flatMap_append]
 simp[qw]
theorem DI{ps:List PgS}{root:Int}{i:Nat}(h:(ao ps root 0).length<=i):qw ps root i=cu ps root:=by
 rw[ao,List.length_map] at h
 rw[qw,List.take_of_length_le h,cu]
def wn(L:List EnD)(w:World)(e:Ending)(w':World):Prop:=∃A c,e= .returned (.slice A L.length c)/\St w [] [eO 9 1 (.slice A L.length c) L.length (L.map stv)] w'
theorem Dn(bk:Nat)(root:Int)(ps:List PgS)(w:World)(hB:fZ w bk ps)(hok:OkS ps):
  Calls Tryz.prog 38 #[.pointer (some ⟨bk,0,none⟩),.int .i64 root] w (wn (cu ps root) w):=by
 go_enter Tryz.func38,Tryz.ntmps38
 have ar:=St.start w
 refine wp_seq (sqr (sqp [.k 4 (.slice none 0 0)] ?_))
 refine aa (wp_seq (sqr (sqp [.k 5 (.slice none 0 0)] ?_)))
 refine aa (wp_seq (sqr (sqp [.m 8 0,.m 9 1] ?_)))
 refine ff (fun nM p9=> .slice nM ((ao ps root 0).length) p9) (fun nM p9=>eO 3 1 (.slice nM ((ao ps root 0).length) p9) ((ao ps root 0).length) ((ao ps root 0).map (Value.int .i64))) ar (fun cx=>⟨_,(jj bk root 0 ps _ (hB.ext cx.upd.to_ext) hok).mono (by rintro e W1 ⟨A4,c4,rfl,aM⟩;exact⟨_,_,rfl,aM⟩),(dH (cx.ou 8) (cx.ou 9) (cx.co _))⟩) fun nM p9 W5 bw=>?_
 refine sqp [.m 6 10] ?_
 refine aa (wp_seq (wp_seq (sqr (sqp [.k 7 (vi 0)] ?_))))
 refine aa (wp_block ?_)
 have hn8:=St.nilrow bw 9
 simp only[List.cons_append,List.nil_append] at hn8
 have hrl_:=wK ps root 0
 refine aL (fun t_ mz az W=>∃i:Nat,∃nn:Nat,∃O:List EnD,∃OA:Option Addr,∃OC:Nat,i<=(ao ps root 0).length/\O=qw ps root i/\O.length=nn/\nn<=100*i/\mz=(ao ps root 0).length-i/\az=⟨(ovr (jv az) [(5,5,0,[.slice OA nn OC]),(1,7,0,[vi ((i:Int))]),(3,11,15,[])] t_).toArray,[]⟩/\St w [] [eO 3 1 (.slice nM ((ao ps root 0).length) p9) ((ao ps root 0).length) ((ao ps root 0).map (Value.int .i64)),eO 9 1 (.slice OA nn OC) nn (O.map stv)] W) ((ao ps root 0).length-0) ?_ ?_
 exact⟨0,0,[],none,0,Nat.zero_le _,rfl,rfl,Nat.le_refl _,rfl,(by kernel_rfl),hn8.pk [0,1]⟩
 rintro n9 a9 W9 ⟨i,nn,O,OA,OC,hi,hO,hOl,hnn,rfl,hj_,be⟩
 refine ovz hj_ fun Pk=>?_
 refine wp_seq (wp_seq (sqr (sqp [.m 11 7,.m 12 6,.k 13 (vi (((ao ps root 0).length:Int))),.k 14 (.bool (decide ((i:Int)<((ao ps root 0).length:Int))))] ?_)))
 refine aa (wds (fun dQ fC=>?_) fun dQ fC=>?_)
 refine wp_skip (aa (wp_seq (wp_block ?_)))
 obtain⟨nd,hnd,hnl,hni⟩:=rT (ps:=ps) (root:=root) (lv:=0) (i:=i) (by omega)
 have hN0:=cO hok hnd
 have hN1:=hN0.len
 refine ak [0,0,0,0,12,28,62,126,255,511] [[],[],[],[],[0],[0],[],[],[2,1]] [[],[],[],[],[],[],[2,3,4],[],[5]] [[],[],[],[],[],[],[],[],[1]] [.k 17 (.slice OA nn OC),.k 18 (vp bk),.k 19 (.slice nM ((ao ps root 0).length) p9),.k 20 (vi ((i:Int))),.c 21 (.pointer (some ((ad nM).add i))),.c 22 (vi (((ao ps root 0)).getD i 0)),.a 23,.a 24,.a 25,.a 5] (fun ix d b X=>match ix with|0|1|2|3|4|5=>True|6=>d 23= .agg #[.bool true,.bool nd.dead,vi nd.lv,vi nd.right,.string nd.high,.slice (sA (tg (b 23) 5)) nd.es.length (sC (tg (b 23) 5)),.slice (sA (tg (b 23) 6)) nd.es.length (sC (tg (b 23) 6)),.slice (sA (tg (b 23) 7)) nd.es.length (sC (tg (b 23) 7))]/\X 2=eO 9 1 (.slice (sA (tg (b 23) 5)) nd.es.length (sC (tg (b 23) 5))) nd.es.length (nd.es.map stv)/\X 3=eO 3 1 (.slice (sA (tg (b 23) 6)) nd.es.length (sC (tg (b 23) 6))) nd.es.length (nd.es.map slv)/\X 4=eO 3 1 (.slice (sA (tg (b 23) 7)) nd.es.length (sC (tg (b 23) 7))) nd.es.length (nd.es.map kdv)|7=>d 24= .slice (sA (tg (b 23) 5)) nd.es.length (sC (tg (b 23) 5))|8=>d 25= .slice (sA (b 25)) (nn+nd.es.length) (sC (b 25))/\X 5=eO 9 1 (.slice (sA (b 25)) (nn+nd.es.length) (sC (b 25))) (nn+nd.es.length) ((O++nd.es).map stv)|9=>d 5= .slice (sA (b 25)) (nn+nd.es.length) (sC (b 25))|_=>True) [0,2,3,4,5] [4,5,6,7,8,9] [(5,9,1,6),(11,0,9,20)] be ?_ ?_ ?_
 exact fun ix _ _ _ _ _ _ hs hb hx h=>match ix,h with
 |6,h=>by dsimp only;rw[<-hs 23 rfl,<-hb 23 rfl,<-hx 2 rfl,<-hx 3 rfl,<-hx 4 rfl];exact h
 |7,h=>by dsimp only;rw[<-hs 24 rfl,<-hb 23 rfl];exact h
 |8,h=>by dsimp only;rw[<-hs 25 rfl,<-hb 25 rfl,<-hx 5 rfl];exact h
 |9,h=>by dsimp only;rw[<-hs 5 rfl,<-hb 25 rfl];exact h
 |0,_|1,_|2,_|3,_|4,_|5,_|_+10,_=>trivial
 refine⟨?_,?_,?_,?_,?_,?_,trivial⟩
 exact xs4 rfl id fun cx=>ay (e:=3) (m:=i) rfl (by kernel_rfl) (by kernel_rfl) (cx.an 2) (cx.an 3) (by omega) (by omega) (At.of_own (cx.ri 0 rfl)) (by simp)
 exact xs4 rfl id fun cx=>ae rfl (by kernel_rfl) (cx.an 4) (At.cellAd (At.of_own (cx.ri 0 rfl)) (bX (by omega)))
 refine svA fun g b W X cx=>?_
 refine aC.call (aB (args:=#[vp bk,vi (((ao ps root 0)).getD i 0)]) rfl cx.sees rfl (by kernel_rfl) (aI (cx.an 1) (cx.an 5))) ?_
 refine(fF hnd (dF bk ps (((ao ps root 0)).getD i 0) _ (hB.ext cx.upd.to_ext) hok)).mono ?_
 rintro e W1 ⟨EA4,ec4,SA4,sc4,KA4,kc4,rfl,aM⟩
 refine⟨_,rfl,cl [eO 9 1 (.slice EA4 nd.es.length ec4) nd.es.length (nd.es.map stv),eO 3 1 (.slice SA4 nd.es.length sc4) nd.es.length (nd.es.map slv),eO 3 1 (.slice KA4 nd.es.length kc4) nd.es.length (nd.es.map kdv)] rfl rfl aM (fun d f X' hs hb hv hN=>?_)⟩
 have aW:=(hv 23 rfl).1;have aG:=(hv 23 rfl).2
 exact⟨aW.trans (by rw[aG];rfl),(by rw[aG];exact(List.cons.inj hN).1),(by rw[aG];exact(List.cons.inj (List.cons.inj hN).2).1),(by rw[aG];exact(List.cons.inj (List.cons.inj (List.cons.inj hN).2).2).1)⟩
 exact sv rfl rfl rfl rfl rfl _ (fun _ _ _ h=>h) (fun b f h=>by rw[h 23 (by decide)]) fun g b W X cx=>rB rfl (dTn (cx.an 6)).1 (fun _=>by kernel_rfl)
 refine svA fun g b W X cx=>?_
 obtain⟨i0,hi0,hz0,hz1,hz2⟩:=info_parts Tryz.infoStr
 refine cq (n:=nn) (m:=nd.es.length) (nm:=nn+nd.es.length) (xs:=O.map stv) (news:=nd.es.map stv) (xs':=(O++nd.es).map stv) rfl (ty:=56) rfl (by kernel_rfl) hi0 hz0 hz1 hz2 rfl (cx.an 0) cx (cx.init 1 _ rfl) rfl (dTn (cx.an 7)) (List.length_map _) (At.of_own (cx.row (dTn (cx.an 6)).2.1 rfl)) (fun u hu=>by obtain⟨x,_,rfl⟩:=List.mem_map.1 hu;rfl) (by simp only[maxLen];omega) (by omega) rfl rfl rfl (by omega) ((List.map_append ..).symm) (fun d f X' hs hb hv hx=>?_)
 exact⟨hv,hx⟩
 exact sv rfl rfl rfl rfl rfl _ (fun _ _ _ h=>h) (fun b f h=>by rw[h 25 (by decide)]) fun g b W X cx=>bt rfl (dTn (cx.an 8)).1
 intro d b X oM hD cc fr ag
 simp only[exq 2 ((dTn (hD 6 lq)).2.1),exq 3 ((dTn (hD 6 lq)).2.2.1),exq 4 ((dTn (hD 6 lq)).2.2.2),exq 5 ((dTn (hD 8 lq)).2)] at cc
 simp only[ed 23 ((dTn (hD 6 lq)).1),ed 24 ((dTn (hD 7 lq))),ed 25 ((dTn (hD 8 lq)).1),ed 5 ((dTn (hD 9 lq)))] at ag
 generalize sA (tg (b 23) 5)=EA23_15,sC (tg (b 23) 5)=cEA23_15,sA (tg (b 23) 6)=SA23_15,sC (tg (b 23) 6)=cSA23_15,sA (tg (b 23) 7)=KA23_15,sC (tg (b 23) 7)=cKA23_15,sA (b 25)=Kb,sC (b 25)=Kc at cc ag
 clear hD;subst ag;clear d b X
 refine ax (aa (sqr (sqp [.m 15 7,sI 16 ((i:Int)+1) (by omega),.m 7 16] ?_)))
 refine aa ?_
 refine⟨(ao ps root 0).length-((i+1)),by omega,?_⟩
 exact⟨(i+1),(nn+nd.es.length),(O++nd.es),Kb,Kc,by omega,by rw[hO,BX hni],by rw[List.length_append,hOl],by omega,rfl,(by kernel_rfl),cc.pk [0,4]⟩
 refine wp_exit (aj (aj (aO (aa (wp_seq (sqr (sqp [.m 26 5,.m 4 26] ?_)))))))
 refine aa (wp_ret ?_)
 refine bpr (.slice OA nn OC) (ai Tryz.results38 rpt) ?_
 have hfin:O=cu ps root:=by rw[hO,DI (by omega)]
 subst hfin
 subst hOl
 exact⟨_,_,rfl,be.pick [1] (by decide) rfl⟩
end
section
open Go.RowKit
theorem Dv(bk:Nat)(e:ByteArray)(pg:Int)(A:Option Addr)(n c:Nat)(L:List Int)(ps:List PgS)(im:Nat)(w:World)(hB:fZ w bk ps)(hok:OkS ps)(hA:At w A (L.map (Value.int .i64)))(hn:L.length=n)(h9:n<=100000)(h1:im<n)(h2:L.getD im 0=pg)(h3:∀i,i<im->L.getD i 0≠pg)(h4:im=0->e=aF)(h5:∀j,im=j+1->∃nd,av ps (L.getD j 0)=some nd/\nd.high=e):
  Calls Tryz.prog 110 #[.pointer (some ⟨bk,0,none⟩),.string e,.int .i64 pg,.slice A n c] w (Ret (.bool true) w):=by
 go_enter Tryz.func110,Tryz.ntmps110
 have ar:=St.start w
 refine wp_seq (sqr (sqp [.k 8 (.bool false)] ?_))
 refine aa (wp_seq (wp_seq (sqr (sqp [.k 9 (vi 0)] ?_))))
 refine aa (wp_block ?_)
 refine aL (fun t_ mz az W=>∃i:Nat,i<=im/\mz=im-i/\az=⟨(ovr (jv az) [(8,8,1,[vi ((i:Int))]),(0,10,27,[])] t_).toArray,[]⟩/\St w [] [] W) (im-0) ?_ ?_
 exact⟨0,Nat.zero_le _,rfl,(by kernel_rfl),ar.pk []⟩
 rintro n3 a3 W3 ⟨i,hi,rfl,hj_,bB⟩
 refine ovz hj_ fun fI=>?_
 refine wp_seq (wp_seq (sqr (sqp [.m 10 9,.m 11 3,.k 12 (vi ((n:Int))),.k 13 (.bool (decide ((i:Int)<(n:Int))))] ?_)))
 refine aa (wds (fun sm nu=>?_) fun sm nu=>?_)
 refine wp_skip (aa (wp_seq (wp_block (wp_seq (sqr (sqp [.m 16 3,.m 17 9] ?_))))))
 refine sql (.pointer (some ((ad A).add i))) bB (fun cx=>ay (e:=3) (m:=i) rfl (by kernel_rfl) (by kernel_rfl) (cx.ou 16) (cx.ou 17) (by omega) (by omega) (hA.ext cx.upd.to_ext) (by rw[List.length_map]<;>omega)) ?_
 refine sql (vi (L.getD i 0)) bB (fun cx=>ae rfl (by kernel_rfl) (cx.ou 18) (At.cellAd (hA.ext cx.upd.to_ext) (bX (by omega)))) ?_
 refine sqp [.m 20 2,.k 21 (.bool ((L.getD i 0)==pg))] ?_
 refine aa (wbs (fun cH=>?_) fun cH=>?_)
 have dB:=beq_iff_eq.1 cH
 refine wp_seq (wp_seq ?_)
 have heq_:L.getD i 0=pg:=by have h_:=cH;simpa using h_
 have him_:¬i<im:=fun h_=>h3 i h_ heq_
 have him2_:i=im:=by omega
 refine sqr (sqp [.m 22 9,.k 23 (.bool ((i:Int)==0))] ?_)
 refine aa (wbs (fun qN=>?_) fun qN=>?_)
 have zY:=beq_iff_eq.1 qN
 refine wp_seq (sqr (sqp [.m 24 1] ?_))
 refine sqk (.string aF) bB (fun cx=>⟨_,rf _,zx⟩) fun qj cb=>?_
 refine sqp [.k 26 (.bool (e.toList==aF.toList)),.m 8 26] ?_
 refine aa (wp_ret (af (aq (af (af (aq (af ?_)))))))
 refine bpr (.bool (e.toList==aF.toList)) (ai Tryz.results110 rpt) ?_
 exact Ret.bool (by rw[h4 (by omega)];exact beq_self_eq_true _) cb.ext
 have zY:=beq_eq_false_iff_ne.1 qN
 refine wp_skip (aa (wp_seq ?_))
 obtain⟨nd,hnd,hnh⟩:=h5 ((i:Int)-1).toNat (by omega)
 refine ak [0,0,0,4,14,30,63,127,0,511,1023] [] [[],[],[],[],[],[],[0,1,2]] [] [.k 27 (vp bk),.k 28 (.slice A n c),.k 29 (vi ((i:Int))),tI 30 ((i:Int)-1) (by omega),.c 31 (.pointer (some ((ad A).add (((i:Int)-1).toNat)))),.c 32 (vi (L.getD (((i:Int)-1).toNat) 0)),.a 33,.c 34 (.string nd.high),.k 35 (.string e),.k 36 (.bool (nd.high.toList==e.toList)),.k 8 (.bool (nd.high.toList==e.toList))] (fun ix d b X=>match ix with|0|1|2|3|4|5=>True|6=>d 33= .agg #[.bool true,.bool nd.dead,vi nd.lv,vi nd.right,.string nd.high,.slice (sA (tg (b 33) 5)) nd.es.length (sC (tg (b 33) 5)),.slice (sA (tg (b 33) 6)) nd.es.length (sC (tg (b 33) 6)),.slice (sA (tg (b 33) 7)) nd.es.length (sC (tg (b 33) 7))]/\X 0=eO 9 1 (.slice (sA (tg (b 33) 5)) nd.es.length (sC (tg (b 33) 5))) nd.es.length (nd.es.map stv)/\X 1=eO 3 1 (.slice (sA (tg (b 33) 6)) nd.es.length (sC (tg (b 33) 6))) nd.es.length (nd.es.map slv)/\X 2=eO 3 1 (.slice (sA (tg (b 33) 7)) nd.es.length (sC (tg (b 33) 7))) nd.es.length (nd.es.map kdv)|_=>True) [0,1,2] [4,5,6,7] [(8,10,1,9),(18,0,10,28)] bB ?_ ?_ ?_
 exact fun ix _ _ _ _ _ _ hs hb hx h=>match ix,h with
 |6,h=>by dsimp only;rw[<-hs 33 rfl,<-hb 33 rfl,<-hx 0 rfl,<-hx 1 rfl,<-hx 2 rfl];exact h
 |0,_|1,_|2,_|3,_|4,_|5,_|_+7,_=>trivial
 refine⟨?_,?_,?_,?_,trivial⟩
 exact xs4 rfl id fun cx=>ay (e:=3) (m:=((i:Int)-1).toNat) rfl (by kernel_rfl) (by kernel_rfl) (cx.an 1) (cx.an 3) (by omega) (by omega) (hA.ext cx.upd.to_ext) (by rw[List.length_map]<;>omega)
 exact xs4 rfl id fun cx=>ae rfl (by kernel_rfl) (cx.an 4) (At.cellAd (hA.ext cx.upd.to_ext) (bX (by omega)))
 refine svA fun g b W X cx=>?_
 refine aC.call (aB (args:=#[vp bk,vi (L.getD (((i:Int)-1).toNat) 0)]) rfl cx.sees rfl (by kernel_rfl) (aI (cx.an 0) (cx.an 5))) ?_
 refine(fF hnd (dF bk ps (L.getD (((i:Int)-1).toNat) 0) _ (hB.ext cx.upd.to_ext) hok)).mono ?_
 rintro e W1 ⟨EA4,ec4,SA4,sc4,KA4,kc4,rfl,aM⟩
 refine⟨_,rfl,cl [eO 9 1 (.slice EA4 nd.es.length ec4) nd.es.length (nd.es.map stv),eO 3 1 (.slice SA4 nd.es.length sc4) nd.es.length (nd.es.map slv),eO 3 1 (.slice KA4 nd.es.length kc4) nd.es.length (nd.es.map kdv)] rfl rfl aM (fun d f X' hs hb hv hN=>?_)⟩
 have aW:=(hv 33 rfl).1;have aG:=(hv 33 rfl).2
 exact⟨aW.trans (by rw[aG];rfl),(by rw[aG];exact(List.cons.inj hN).1),(by rw[aG];exact(List.cons.inj (List.cons.inj hN).2).1),(by rw[aG];exact(List.cons.inj (List.cons.inj (List.cons.inj hN).2).2).1)⟩
 exact xs4 rfl id fun cx=>rB rfl (dTn (cx.an 6)).1 (fun _=>by kernel_rfl)
 intro d b X uL hD cE fr ag
 simp only[exq 0 ((dTn (hD 6 lq)).2.1),exq 1 ((dTn (hD 6 lq)).2.2.1),exq 2 ((dTn (hD 6 lq)).2.2.2)] at cE
 simp only[ed 33 ((dTn (hD 6 lq)).1)] at ag
 generalize sA (tg (b 33) 5)=EA33_23,sC (tg (b 33) 5)=cEA33_23,sA (tg (b 33) 6)=SA33_23,sC (tg (b 33) 6)=cSA33_23,sA (tg (b 33) 7)=KA33_23,sC (tg (b 33) 7)=cKA33_23 at cE ag
 clear hD;subst ag;clear d b X
 refine aa (wp_ret (aq (af (af (aq (af ?_))))))
 refine bpr (.bool (nd.high.toList==e.toList)) (ai Tryz.results110 rpt) ?_
 exact Ret.bool (by rw[hnh];exact beq_self_eq_true _) cE.ext
 have dB:=beq_eq_false_iff_ne.1 cH
 refine wp_skip (ax (aa (sqr (sqp [.m 14 9,sI 15 ((i:Int)+1) (by omega),.m 9 15] ?_))))
 refine aa ?_
 have hne_:i≠im:=fun h_=>by subst h_;have h_:=cH;rw[h2] at h_;simp at h_
 refine⟨im-((i+1)),by omega,?_⟩
 exact⟨(i+1),by omega,rfl,(by kernel_rfl),bB.pk []⟩
 refine wp_exit (aj (aj (aO (aa (wp_seq (sqr (sqp [.k 8 (.bool false)] ?_)))))))
 refine aa (wp_ret ?_)
 refine bpr (.bool false) (ai Tryz.results110 rpt) ?_
 exfalso
 omega
end
section
open Go.RowKit
theorem HI{α:Type}{p:α->Bool}:∀{l:List α}{k:Int},0<=k->0<=cj p k l->∃i,i<l.length/\cj p k l=k+(i:Int)/\(∃x,l[i]? =some x/\p x=true)/\∀j,j<i->∀y,l[j]? =some y->p y=false
 | [],k,_,h=>by rw[cj] at h;omega
 |x::l,k,h0,h=>by
  rw[cj] at h |-
  by_cases hx:p x=true
  rw[if_pos hx]
  exact⟨0,by simp,by omega,⟨x,rfl,hx⟩,fun j hj=>by omega⟩
  rw[if_neg hx] at h |-
  obtain⟨i,h1,h2,h3,h4⟩:=HI (l:=l) (k:=k+1) (by omega) h
  refine⟨i+1,by rw[List.length_cons];omega,by omega,h3,fun j hj y hy=>?_⟩
  cases j with
  |zero=>cases hy;simpa using hx
  |succ j=>exact h4 j (by omega) y hy
theorem k8{L:List (Int×NoD)}{i:Nat}{y:Int×NoD}(h:L[i]? =some y):(L.map Prod.fst).getD i 0=y.1:=by rw[List.getD_eq_getElem?_getD,List.getElem?_map,h];rfl
theorem Ic{ps:List PgS}{Lb:List (Int×NoD)}{es:List EnD}{j:Nat}(h:ldF Lb es=true)(hj:j<es.length)(hLb:∀y∈Lb,av ps y.1=some y.2):∃im,im<(Lb.map Prod.fst).length/\(Lb.map Prod.fst).getD im 0=(es.getD j en0).2.2/\(∀i,i<im->(Lb.map Prod.fst).getD i 0≠(es.getD j en0).2.2)/\(im=0->(es.getD j en0).1=aF)/\∀i,im=i+1->∃nd,av ps ((Lb.map Prod.fst).getD i 0)=some nd/\nd.high=(es.getD j en0).1:=by
 rw[ldF,Bool.and_eq_true] at h
 have h1:=List.all_eq_true.1 h.1 j (List.mem_range.2 hj)
 have h2:ldS Lb (es.getD j en0)=false:=by simpa using h1
 obtain⟨e,he⟩:∃z,es.getD j en0=z:=⟨_,rfl⟩
 rw[he] at h2 |-
 rw[ldS,Bool.or_eq_false_iff] at h2
 have h3:=of_decide_eq_false h2.1
 have h4:e.1=ldW Lb (ldI Lb e.2.2):=by
  have h5:=h2.2
  simp only[Bool.not_eq_false',beq_iff_eq] at h5
  rw[ByteArray.toList_eq,ByteArray.toList_eq] at h5
  exact d6 h5
 obtain⟨i,i1,i2,⟨x,i3,i4⟩,i5⟩:=HI (p:=fun m:Int×NoD=>m.1==e.2.2) (l:=Lb) (k:=0) (Int.le_refl _) (show 0<=cj _ 0 Lb by have h6:¬cj (fun m:Int×NoD=>m.1==e.2.2) 0 Lb<0:=h3;omega)
 have h6:ldI Lb e.2.2=(i:Int):=by rw[ldI,i2];omega
 rw[h6] at h4
 refine⟨i,by rw[List.length_map];exact i1,by rw[k8 i3];exact beq_iff_eq.1 i4,fun k hk h7=>?_,fun h0=>?_,fun k hk=>?_⟩
 have h8:Lb[k]? =some (Lb[k]'(by omega)):=List.getElem?_eq_getElem _
 have h9:=i5 k hk _ h8
 rw[k8 h8] at h7
 rw[beq_eq_false_iff_ne] at h9
 exact h9 h7
 rw[h4,h0];rfl
 subst hk
 have h8:Lb[k]? =some (Lb[k]'(by omega)):=List.getElem?_eq_getElem _
 refine⟨_,by rw[k8 h8];exact hLb _ (List.getElem_mem _),?_⟩
 rw[h4,ldW,if_pos (by omega),show (((k+1:Nat):Int)-1).toNat=k by omega,List.getD_eq_getElem?_getD,h8];rfl
theorem H6{ps:List PgS}{L Lb:List (Int×NoD)}{i:Nat}(hg:rgF L Lb=true)(hL:∀y∈L,av ps y.1=some y.2)(hi:i<L.length):∃nd,av ps ((L.map Prod.fst).getD i 0)=some nd/\nd.dead=false/\nd.es.length<=8/\(nd.high.toList==(⟨#[]⟩:ByteArray).toList)=((i:Int)+1==(L.length:Int))/\decide (nd.right<0)=((i:Int)+1==(L.length:Int))/\(∀j,j<nd.es.length->srS nd.high (fP L i) nd.es j=false)/\(0<nd.lv->ldF Lb nd.es=true)/\(nd.lv<=0\/0<nd.es.length)/\(nd.lv<=0\/0<Lb.length)/\(0<nd.lv->i=0->(nd.es.getD 0 en0).2.2=(Lb.map Prod.fst).getD 0 0)/\rgC nd (fP L i)=false/\fP L (i+1)=nd.high:=by
 rw[rgF,Bool.and_eq_true] at hg
 have h1:=List.all_eq_true.1 hg.1 i (List.mem_range.2 hi)
 have h2:rgX L Lb i=false:=by simpa using h1
 have hx:L[i]? =some L[i]:=List.getElem?_eq_getElem hi
 have hd:L.getD i (0,cg)=L[i]:=by rw[List.getD_eq_getElem?_getD,hx];rfl
 have hls:((i:Int)==(L.length:Int)-1)=((i:Int)+1==(L.length:Int)):=by rw[Bool.eq_iff_iff,beq_iff_eq,beq_iff_eq];omega
 rw[rgX,hd,hls,Bool.or_eq_false_iff,Bool.or_eq_false_iff] at h2
 obtain⟨⟨hA,hB⟩,hC⟩:=h2
 rw[rgA] at hA
 simp only[Bool.or_eq_false_iff,bne_eq_false_iff_eq,Bool.not_eq_false'] at hA
 obtain⟨⟨⟨⟨a1,a2⟩,a3⟩,a4⟩,a5⟩:=hA
 have a2:=of_decide_eq_false a2
 rw[rgB] at hB
 have b0:0<(L[i]).2.lv->ldF Lb (L[i]).2.es=true/\((((i:Int)==0)&&(((L[i]).2.es.getD 0 en0).2.2 != (Lb.getD 0 (0,cg)).1))=false):=fun hl=>by
  rw[decide_eq_true hl,Bool.true_and,Bool.or_eq_false_iff] at hB
  exact⟨by simpa using hB.1,hB.2⟩
 refine⟨(L[i]).2,by rw[k8 hx];exact hL _ (List.getElem_mem _),a1,by omega,a3.symm,a4.symm,fun j hj=>?_,fun hl=>(b0 hl).1,?_,?_,fun hl h0=>?_,hC,?_⟩
 rw[srF] at a5
 have:=List.all_eq_true.1 a5 j (List.mem_range.2 hj)
 simpa using this
 rcases Int.lt_or_le 0 (L[i]).2.lv with hl|hl
 exact .inr (ra (b0 hl).1).2
 exact .inl hl
 rcases Int.lt_or_le 0 (L[i]).2.lv with hl|hl
 exact .inr (ra (b0 hl).1).1
 exact .inl hl
 have h3:=(b0 hl).2
 have h4:=(ra (b0 hl).1).1
 subst h0
 rw[show (((0:Nat):Int)==0)=true from rfl,Bool.true_and,bne_eq_false_iff_eq] at h3
 have h5:Lb[0]? =some Lb[0]:=List.getElem?_eq_getElem h4
 rw[k8 h5]
 have h6:Lb.getD 0 (0,cg)=Lb[0]:=by rw[List.getD_eq_getElem?_getD,h5];rfl
 rw[h6] at h3
 exact h3
 rw[fP,if_neg (by omega),Nat.add_sub_cancel,hd]
theorem Bb{L Lb:List (Int×NoD)}(hg:rgF L Lb=true):0<L.length/\L.length<=400:=by
 rw[rgF,Bool.and_eq_true,Bool.and_eq_true] at hg
 have h1:=of_decide_eq_true hg.2.1
 have h2:=of_decide_eq_true hg.2.2
 omega
theorem FX{ps:List PgS}{L:List (Int×NoD)}{i:Nat}(hok:OkS ps)(hL:∀y∈L,av ps y.1=some y.2):(fP L i).size<=1000000:=by
 rw[fP]
 split
 exact Nat.zero_le _
 rcases Nat.lt_or_ge (i-1) L.length with h|h
 rw[List.getD_eq_getElem?_getD,List.getElem?_eq_getElem h];exact Nat.le_trans (cO hok (hL _ (List.getElem_mem h))).hi (by decide)
 rw[List.getD_eq_getElem?_getD,List.getElem?_eq_none h];exact Nat.zero_le _
theorem zE(bk:Nat)(A A2:Option Addr)(n n2 c c2:Nat)(P Q:List Int)(L Lb:List (Int×NoD))(ps:List PgS)(w:World)(hB:fZ w bk ps)(hok:OkS ps)(hA:At w A (P.map (Value.int .i64)))(hB2:At w A2 (Q.map (Value.int .i64)))(hP:P=L.map Prod.fst)(hQ:Q=Lb.map Prod.fst)(hLn:L.length=n)(hLbn:Lb.length=n2)(hn2:Q.length=n2)(h29:n2<=1000)(hL:∀y∈L,av ps y.1=some y.2)(hLb:∀y∈Lb,av ps y.1=some y.2)(hg:rgF L Lb=true):
  Calls Tryz.prog 80 #[.pointer (some ⟨bk,0,none⟩),.slice A n c,.slice A2 n2 c2] w (Ret (.bool true) w):=by
 have hnl_:=Bb hg
 have hPn:P.length=n:=by rw[hP,List.length_map];exact hLn
 go_enter Tryz.func80,Tryz.ntmps80
 have ar:=St.start w
 refine wp_seq (sqr (sqp [.k 6 (.bool false)] ?_))
 refine aa (wp_seq (wp_seq (sqr (sqp [.m 17 1,.k 18 (vi ((n:Int))),.k 19 (.bool ((n:Int)==0)),.m 20 19] ?_))))
 refine sqw 20 [21,22,23] rfl (fun _=>sqp [.m 21 1,.k 22 (vi ((n:Int))),.k 23 (.bool (decide (400<(n:Int))))] sqe) ?_
 refine sqp [sPo 24 ((n:Int)==0) (decide (400<(n:Int)))] ?_
 refine aa (wbs (fun ey=>?_) fun ey=>?_)
 have fT:=ey
 simp only[zB] at fT
 refine wp_seq (sqr (sqp [.k 6 (.bool false)] ?_))
 refine aa (wp_ret (af ?_))
 refine bpr (.bool false) (ai Tryz.results80 rpt) ?_
 exfalso
 simp at ey
 omega
 have fT:=ey
 simp only[zB] at fT
 obtain⟨Pl,Pm⟩:=fT
 refine wp_skip (aa (wp_seq (sqr (sqp [.k 7 (.string ⟨#[]⟩)] ?_))))
 refine aa (wp_seq (wp_seq (sqr (sqp [.k 8 (vi 0)] ?_))))
 refine aa (wp_block ?_)
 refine aL (fun t_ mz az W=>∃i:Nat,∃lo:ByteArray,i<=n/\lo=fP L i/\mz=n-i/\az=⟨(ovr (jv az) [(6,6,1,[.string lo,vi ((i:Int))]),(0,9,8,[]),(8,25,144,[])] t_).toArray,[]⟩/\St w [] [] W) (n-0) ?_ ?_
 exact⟨0,(⟨#[]⟩:ByteArray),Nat.zero_le _,rfl,rfl,(by kernel_rfl),ar.pk []⟩
 rintro OO a14 kb ⟨i,lo,hi,hlo,rfl,hj_,bm⟩
 refine ovz hj_ fun Nd=>?_
 refine wp_seq (wp_seq (sqr (sqp [.m 25 8,.m 26 1,.k 27 (vi ((n:Int))),.k 28 (.bool (decide ((i:Int)<(n:Int))))] ?_)))
 refine aa (wds (fun Eo Aa=>?_) fun Eo Aa=>?_)
 ·refine wp_skip (aa (wp_seq (wp_block (wp_seq ?_))))
  obtain⟨nd,hnd,ha1,ha2,ha3,ha4,ha5,ha6,ha7,ha8,ha9,ha10,ha12⟩:=H6 (i:=i) hg hL (by omega)
  rw[<-hP] at hnd
  rw[<-hlo] at ha5 ha10
  rw[<-hQ] at ha9
  rw[hLn] at ha3 ha4
  rw[hLbn] at ha8
  have hN0:=cO hok hnd
  have hN1:=hN0.len
  have hN2:=hN0.rt
  have hN3:=hN0.hi
  have hN4:=hN0.lv
  have hez:∀e∈nd.es,e.1.size<=1000000:=fun e he=>Nat.le_trans (hN0.es e he) (by decide)
  have hloz:lo.size<=1000000:=by rw[hlo];exact FX hok hL
  refine ak [0,0,0,6,14,31,0,127] [[],[],[],[],[],[],[],[3]] [[],[],[],[],[],[0,1,2],[3],[4]] [[],[],[],[],[],[],[],[3]] [.k 31 (vp bk),.k 32 (.slice A n c),.k 33 (vi ((i:Int))),.c 34 (.pointer (some ((ad A).add i))),.c 35 (vi (P.getD i 0)),.a 36,.a 9,.n] (fun ix f b X=>match ix with|0|1|2|3|4=>True|5=>f 36= .agg #[.bool true,.bool nd.dead,vi nd.lv,vi nd.right,.string nd.high,.slice (sA (tg (b 36) 5)) nd.es.length (sC (tg (b 36) 5)),.slice (sA (tg (b 36) 6)) nd.es.length (sC (tg (b 36) 6)),.slice (sA (tg (b 36) 7)) nd.es.length (sC (tg (b 36) 7))]/\X 0=eO 9 1 (.slice (sA (tg (b 36) 5)) nd.es.length (sC (tg (b 36) 5))) nd.es.length (nd.es.map stv)/\X 1=eO 3 1 (.slice (sA (tg (b 36) 6)) nd.es.length (sC (tg (b 36) 6))) nd.es.length (nd.es.map slv)/\X 2=eO 3 1 (.slice (sA (tg (b 36) 7)) nd.es.length (sC (tg (b 36) 7))) nd.es.length (nd.es.map kdv)|6=>f 9=vp (pb (b 9))/\X 3=eB (pb (b 9)) 95 #[.bool false,.bool false,vi 0,vi 0,.string ByteArray.empty,.slice none 0 0,.slice none 0 0,.slice none 0 0]|7=>X 4=eB (pb (b 9)) 95 #[.bool true,.bool nd.dead,vi nd.lv,vi nd.right,.string nd.high,.slice (sA (tg (b 36) 5)) nd.es.length (sC (tg (b 36) 5)),.slice (sA (tg (b 36) 6)) nd.es.length (sC (tg (b 36) 6)),.slice (sA (tg (b 36) 7)) nd.es.length (sC (tg (b 36) 7))]|_=>True) [0,1,2,4] [3,4,5,6,7] [(9,6,1,10),(21,0,6,27)] bm ?_ ?_ ?_
  exact fun ix _ _ _ _ _ _ hs hb hx h=>match ix,h with
  |5,h=>by dsimp only;rw[<-hs 36 rfl,<-hb 36 rfl,<-hx 0 rfl,<-hx 1 rfl,<-hx 2 rfl];exact h
  |6,h=>by dsimp only;rw[<-hs 9 rfl,<-hb 9 rfl,<-hx 3 rfl];exact h
  |7,h=>by dsimp only;rw[<-hb 9 rfl,<-hb 36 rfl,<-hx 4 rfl];exact h
  |0,_|1,_|2,_|3,_|4,_|_+8,_=>trivial
  refine⟨?_,?_,?_,?_,?_,trivial⟩
  exact xs4 rfl id fun cx=>ay (e:=3) (m:=i) rfl (by kernel_rfl) (by kernel_rfl) (cx.an 1) (cx.an 2) (by omega) (by omega) (hA.ext cx.upd.to_ext) (by rw[List.length_map]<;>omega)
  exact xs4 rfl id fun cx=>ae rfl (by kernel_rfl) (cx.an 3) (At.cellAd (hA.ext cx.upd.to_ext) (bX (by omega)))
  refine svA fun d b W X cx=>?_
  refine aC.call (aB (args:=#[vp bk,vi (P.getD i 0)]) rfl cx.sees rfl (by kernel_rfl) (aI (cx.an 0) (cx.an 4))) ?_
  refine(fF hnd (dF bk ps (P.getD i 0) _ (hB.ext cx.upd.to_ext) hok)).mono ?_
  rintro e W1 ⟨EA4,ec4,SA4,sc4,KA4,kc4,rfl,aM⟩
  refine⟨_,rfl,cl [eO 9 1 (.slice EA4 nd.es.length ec4) nd.es.length (nd.es.map stv),eO 3 1 (.slice SA4 nd.es.length sc4) nd.es.length (nd.es.map slv),eO 3 1 (.slice KA4 nd.es.length kc4) nd.es.length (nd.es.map kdv)] rfl rfl aM (fun f g X' hs hb hv hN=>?_)⟩
  have aW:=(hv 36 rfl).1;have aG:=(hv 36 rfl).2
  exact⟨aW.trans (by rw[aG];rfl),(by rw[aG];exact(List.cons.inj hN).1),(by rw[aG];exact(List.cons.inj (List.cons.inj hN).2).1),(by rw[aG];exact(List.cons.inj (List.cons.inj (List.cons.inj hN).2).2).1)⟩
  refine svA fun d b W X cx=>?_
  exact aX (cs:=#[.bool false,.bool false,vi 0,vi 0,.string ByteArray.empty,.slice none 0 0,.slice none 0 0,.slice none 0 0]) rfl (by kernel_rfl) rfl rfl (fun _ _ _ _ _=> .intro)
  refine svA fun d b W X cx=>?_
  exact aw (n:=8) rfl (dTn (cx.an 6)).1 (dTn (cx.an 5)).1 (by kernel_rfl) (by kernel_rfl) (by kernel_rfl) cx (dTn (cx.an 6)).2 rfl (nle rfl) (by kernel_rfl) rfl rfl rfl (fun f g X' hs hb hx=>by rw[hb 9,hb 36];exact hx)
  intro f b X qj hD cb fr ag
  simp only[exq 0 ((dTn (hD 5 lq)).2.1),exq 1 ((dTn (hD 5 lq)).2.2.1),exq 2 ((dTn (hD 5 lq)).2.2.2),exq 4 ((dTn (hD 7 lq)))] at cb
  simp only[ed 36 ((dTn (hD 5 lq)).1),ed 9 ((dTn (hD 6 lq)).1)] at ag
  generalize sA (tg (b 36) 5)=EA36_20,sC (tg (b 36) 5)=cEA36_20,sA (tg (b 36) 6)=SA36_20,sC (tg (b 36) 6)=cSA36_20,sA (tg (b 36) 7)=KA36_20,sC (tg (b 36) 7)=cKA36_20,pb (b 9)=dY at cb ag
  clear hD;subst ag;clear f b X
  refine aa (wp_seq (sqr (sqp [.m 37 8,sI 38 ((i:Int)+1) (by omega),.m 39 1,.k 40 (vi ((n:Int))),.k 41 (.bool (((i:Int)+1)==(n:Int))),.m 10 41] ?_)))
  refine aa (wp_seq (wp_seq (sqr (sqp [.k 42 (.pointer (some ⟨dY,1,none⟩))] ?_))))
  refine am 3 cb ?_
  refine sqp [.m 44 43] ?_
  refine cv 44 [45,46,47,48] ?_ rfl (fun hq=>?_) ?_
  rotate_left
  refine sqp [.k 45 (.pointer (some ⟨dY,5,none⟩))] ?_
  refine am 3 cb ?_
  refine sqp [.k 47 (vi ((nd.es.length:Int))),.k 48 (.bool (decide (8<(nd.es.length:Int))))] ?_
  exact sqe
  refine bQ ?_
  refine sqp [sPo 49 nd.dead (decide (8<(nd.es.length:Int))),.m 50 49] ?_
  refine ii 50 [51,52,53,54,55] ?_ cb rfl (fun hq=>?_) fun Ce cZ=>?_
  rotate_left
  refine sqp [.m 51 10,.k 52 (.pointer (some ⟨dY,4,none⟩))] ?_
  refine am 3 cb ?_
  refine sqp [.k 54 (.bool (nd.high.toList==((⟨#[]⟩:ByteArray)).toList))] ?_
  refine sqv (.bool (!((((i:Int)+1)==(n:Int))==(nd.high.toList==((⟨#[]⟩:ByteArray)).toList)))) cb (by
    exact sv0 rfl rfl rfl rfl rfl (fun _ _ _ h=>h) fun d b W X cx=>by
     have Nn:d (.tmp 51)= .bool (((i:Int)+1)==(n:Int)):=(cx.ou 51)
     have No:d (.tmp 54)= .bool (nd.high.toList==((⟨#[]⟩:ByteArray)).toList):=(cx.ou 54)
     simp[go_sem,Nn,No]) fun Cd eL=>?_
  exact sqE eL
  refine bQ ?_
  refine sqp [sPo 56 (nd.dead||(decide (8<(nd.es.length:Int)))) (!((((i:Int)+1)==(n:Int))==(nd.high.toList==((⟨#[]⟩:ByteArray)).toList))),.m 57 56] ?_
  refine ii 57 [58,59,60,61,62] ?_ cZ rfl (fun hq=>?_) fun JS eR=>?_
  rotate_left
  refine sqp [.m 58 10,.k 59 (.pointer (some ⟨dY,3,none⟩))] ?_
  refine am 3 cZ ?_
  refine sqp [.k 61 (.bool (decide (nd.right<0)))] ?_
  refine sqv (.bool (!((((i:Int)+1)==(n:Int))==(decide (nd.right<0))))) cZ (by
    exact sv0 rfl rfl rfl rfl rfl (fun _ _ _ h=>h) fun d b W X cx=>by
     have En:d (.tmp 58)= .bool (((i:Int)+1)==(n:Int)):=(cx.ou 58)
     have ED:d (.tmp 61)= .bool (decide (nd.right<0)):=(cx.ou 61)
     simp[go_sem,En,ED]) fun OD Ah=>?_
  exact sqE Ah
  refine bQ ?_
  refine sqp [sPo 63 ((nd.dead||(decide (8<(nd.es.length:Int))))||(!((((i:Int)+1)==(n:Int))==(nd.high.toList==((⟨#[]⟩:ByteArray)).toList)))) (!((((i:Int)+1)==(n:Int))==(decide (nd.right<0))))] ?_
  refine aa (wbs (fun xP=>?_) fun xP=>?_)
  have u7:=xP
  simp only[zB] at u7
  refine wp_seq (sqr (sqp [.k 6 (.bool false)] ?_))
  refine aa (wp_ret (af (aq (af (af (aq (af ?_)))))))
  refine bpr (.bool false) (ai Tryz.results80 rpt) ?_
  exfalso
  rw[ha1,ha3,ha4,decide_eq_false (show ¬ 8<(nd.es.length:Int) by omega)] at xP
  simp at xP
  have u7:=xP
  simp only[zB] at u7
  obtain⟨⟨⟨Pn,Po⟩,Pp⟩,Pq⟩:=u7
  refine wp_skip (aa (wp_seq (wp_seq (sqr (sqp [.k 11 (vi 0)] ?_)))))
  refine aa (wp_block ?_)
  refine aL (fun t_ mz az W=>∃j:Nat,j<=nd.es.length/\mz=nd.es.length-j/\az=⟨(ovr (jv az) [(6,6,1,[]),(4,11,0,[vi ((j:Int))]),(0,12,4,[]),(48,64,61,[])] t_).toArray,[]⟩/\St w [] [eO 9 1 (.slice EA36_20 nd.es.length cEA36_20) nd.es.length (nd.es.map stv),eO 3 1 (.slice SA36_20 nd.es.length cSA36_20) nd.es.length (nd.es.map slv),eO 3 1 (.slice KA36_20 nd.es.length cKA36_20) nd.es.length (nd.es.map kdv),eB dY 95 #[.bool true,.bool nd.dead,vi nd.lv,vi nd.right,.string nd.high,.slice EA36_20 nd.es.length cEA36_20,.slice SA36_20 nd.es.length cSA36_20,.slice KA36_20 nd.es.length cKA36_20]] W) (nd.es.length-0) ?_ ?_
  exact⟨0,Nat.zero_le _,rfl,(by kernel_rfl),eR.pk [0,1,2,3]⟩
  rintro Ry a54 JF ⟨j,hj,rfl,hj_,fE⟩
  refine ovz hj_ fun QX=>?_
  refine wp_seq (wp_seq (sqr (sqp [.m 64 11,.k 65 (.pointer (some ⟨dY,5,none⟩))] ?_)))
  refine am 3 fE ?_
  refine sqp [.k 67 (vi ((nd.es.length:Int))),.k 68 (.bool (decide ((j:Int)<(nd.es.length:Int))))] ?_
  refine aa (wds (fun fk jc=>?_) fun fk jc=>?_)
  ·refine wp_skip (aa (wp_seq (wp_block (wp_seq (sqr (sqp [.k 71 (.pointer (some ⟨dY,5,none⟩))] ?_))))))
   refine am 3 fE ?_
   refine sqp [.m 73 11] ?_
   refine sql (.pointer (some ((ad EA36_20).add j))) fE (fun cx=>ay (e:=9) (m:=j) rfl (by kernel_rfl) (by kernel_rfl) (cx.ou 72) (cx.ou 73) (by omega) (by omega) (At.of_own (cx.ri 0 rfl)) (by rw[List.length_map]<;>omega)) ?_
   refine sql (.string ((nd.es.getD j en0).1)) fE (fun cx=>ae rfl (by kernel_rfl) (cx.ou 74) (At.cellAd (At.of_own (cx.ri 0 rfl)) (eD (by omega)))) ?_
   refine sqp [.m 12 75] ?_
   refine aa (wp_seq (sqr (sqp [.m 76 7,.k 77 (.bool (!(lo.toList==((⟨#[]⟩:ByteArray)).toList))),.m 78 77] ?_)))
   refine ii 78 [79,80,81] ?_ fE rfl (fun hq=>?_) fun L2 jR=>?_
   rotate_left
   refine sqp [.m 79 12,.m 80 7] ?_
   refine sqk (.bool (al ((nd.es.getD j en0).1) lo)) fE (fun cx=>⟨_,gr ((nd.es.getD j en0).1) lo _ (b7 hez _) hloz,(aI (cx.ou 79) (cx.ou 80))⟩) fun LW lZ=>?_
   exact sqE lZ
   refine bQ ?_
   refine sqp [sPa 82 (!(lo.toList==((⟨#[]⟩:ByteArray)).toList)) (al ((nd.es.getD j en0).1) lo),.m 13 82] ?_
   refine aa (wp_seq (sqr (sqp [.k 83 (.pointer (some ⟨dY,4,none⟩))] ?_)))
   refine am 3 jR ?_
   refine sqp [.k 85 (.bool (!(nd.high.toList==((⟨#[]⟩:ByteArray)).toList))),.m 86 85] ?_
   refine ii 86 [87,88,89,90,91] ?_ jR rfl (fun hq=>?_) fun Ou ib=>?_
   rotate_left
   have hq_:=hq
   try simp only[zB] at hq_
   refine sqp [.m 87 12,.k 88 (.pointer (some ⟨dY,4,none⟩))] ?_
   refine am 3 jR ?_
   refine sqk (.bool (al ((nd.es.getD j en0).1) nd.high)) jR (fun cx=>⟨_,gr ((nd.es.getD j en0).1) nd.high _ (b7 hez _) (by omega),(aI (cx.ou 87) (cx.ou 89))⟩) fun Jh gI=>?_
   refine sqp [.k 91 (.bool (!(al ((nd.es.getD j en0).1) nd.high)))] ?_
   exact sqE gI
   refine bQ ?_
   refine sqp [sPa 92 (!(nd.high.toList==((⟨#[]⟩:ByteArray)).toList)) (!(al ((nd.es.getD j en0).1) nd.high)),.m 14 92] ?_
   refine aa (wp_seq (wp_seq (sqr (sqp [.m 93 13,.m 94 93] ?_))))
   refine sqw 94 [95] rfl (fun _=>sqp [.m 95 14] sqe) ?_
   refine sqp [sPo 96 ((!(lo.toList==((⟨#[]⟩:ByteArray)).toList))&&(al ((nd.es.getD j en0).1) lo)) ((!(nd.high.toList==((⟨#[]⟩:ByteArray)).toList))&&(!(al ((nd.es.getD j en0).1) nd.high))),.m 97 96] ?_
   refine cv 97 [98,99,100,101,102,103,104,105,106,107,108,109] ?_ rfl (fun hq=>?_) ?_
   rotate_left
   ·have hq_:=hq
    try simp only[zB] at hq_
    refine sqp [.m 98 11,.k 99 (.bool (decide (0<(j:Int)))),.m 100 99] ?_
    refine cv 100 [101,102,103,104,105,106,107,108] ?_ rfl (fun hq=>?_) ?_
    rotate_left
    have hq_:=of_decide_eq_true hq
    refine sqp [.m 101 12,.k 102 (.pointer (some ⟨dY,5,none⟩))] ?_
    refine am 3 ib ?_
    refine sqp [.m 104 11,sI 105 ((j:Int)-1) (by omega)] ?_
    refine sql (.pointer (some ((ad EA36_20).add (((j:Int)-1).toNat)))) ib (fun cx=>ay (e:=9) (m:=((j:Int)-1).toNat) rfl (by kernel_rfl) (by kernel_rfl) (cx.ou 103) (cx.ou 105) (by omega) (by omega) (At.of_own (cx.ri 0 rfl)) (by rw[List.length_map]<;>omega)) ?_
    refine sql (.string ((nd.es.getD ((j:Int)-1).toNat en0).1)) ib (fun cx=>ae rfl (by kernel_rfl) (cx.ou 106) (At.cellAd (At.of_own (cx.ri 0 rfl)) (eD (by omega)))) ?_
    refine sqp [.k 108 (.bool (((nd.es.getD j en0).1).toList==((nd.es.getD ((j:Int)-1).toNat en0).1).toList))] ?_
    exact sqe
    refine bQ ?_
    refine sqp [sPa 109 (decide (0<(j:Int))) (((nd.es.getD j en0).1).toList==((nd.es.getD ((j:Int)-1).toNat en0).1).toList)] ?_
    exact sqe
   refine bQ ?_
   refine sqp [sPo 110 (((!(lo.toList==((⟨#[]⟩:ByteArray)).toList))&&(al ((nd.es.getD j en0).1) lo))||((!(nd.high.toList==((⟨#[]⟩:ByteArray)).toList))&&(!(al ((nd.es.getD j en0).1) nd.high)))) ((decide (0<(j:Int)))&&(((nd.es.getD j en0).1).toList==((nd.es.getD ((j:Int)-1).toNat en0).1).toList))] ?_
   refine aa (wbs (fun u9=>?_) fun u9=>?_)
   have sY:=u9
   simp only[zB] at sY
   refine wp_seq (sqr (sqp [.k 6 (.bool false)] ?_))
   refine aa (wp_ret (af (aq (af (af (aq (af (aq (af (af (aq (af ?_))))))))))))
   refine bpr (.bool false) (ai Tryz.results80 rpt) ?_
   have hq_:=ha5 j (by omega)
   rw[srS] at hq_
   unfold neB at hq_
   exact absurd (u9.symm.trans hq_) (by decide)
   have sY:=u9
   simp only[zB] at sY
   obtain⟨⟨NK,NL⟩,NM⟩:=sY
   refine wp_skip (aa (wp_seq (sqr (sqp [.k 111 (.pointer (some ⟨dY,2,none⟩))] ?_))))
   refine am 3 ib ?_
   refine sqp [.k 113 (.bool (decide (0<nd.lv)))] ?_
   refine aa (wds (fun Ai xz=>?_) fun Ai xz=>?_)
   refine wp_seq ?_
   obtain⟨im,k1,k2,k3,k4,k5⟩:=Ic (ha6 (by omega)) (j:=j) (by omega) hLb
   rw[<-hQ] at k1 k2 k3 k5
   refine sqr (sqp [.m 114 0,.m 115 12,.k 116 (.pointer (some ⟨dY,7,none⟩))] ?_)
   refine am 3 ib ?_
   refine sqp [.m 118 11] ?_
   refine sql (.pointer (some ((ad KA36_20).add j))) ib (fun cx=>ay (e:=3) (m:=j) rfl (by kernel_rfl) (by kernel_rfl) (cx.ou 117) (cx.ou 118) (by omega) (by omega) (At.of_own (cx.ri 2 rfl)) (by rw[List.length_map]<;>omega)) ?_
   refine sql (vi ((nd.es.getD j en0).2.2)) ib (fun cx=>ae rfl (by kernel_rfl) (cx.ou 119) (At.cellAd (At.of_own (cx.ri 2 rfl)) (j1 (by omega)))) ?_
   refine sqp [.m 121 2] ?_
   refine sqk (.bool true) ib (fun cx=>⟨_,Dv bk _ _ A2 n2 c2 Q ps im _ (hB.ext cx.upd.to_ext) hok (hB2.ext cx.upd.to_ext) hn2 (by omega) (by omega) k2 k3 k4 k5,(vY (cx.ou 114) (cx.ou 115) (cx.ou 120) (cx.ou 121))⟩) fun MJ sE=>?_
   refine sqp [.k 15 (.bool true)] ?_
   refine aa (wp_seq (sqr (sqp [.k 123 (.bool true),.k 124 (.bool false)] ?_)))
   refine aa (wcf rfl (wp_skip (ax (aa (sqr (sqp [.m 69 11,sI 70 ((j:Int)+1) (by omega),.m 11 70] ?_))))))
   refine aa ?_
   refine⟨nd.es.length-((j+1)),by omega,?_⟩
   exact⟨(j+1),by omega,rfl,(by kernel_rfl),sE.pk [0,1,2,3]⟩
   refine wp_skip (ax (aa (sqr (sqp [.m 69 11,sI 70 ((j:Int)+1) (by omega),.m 11 70] ?_))))
   refine aa ?_
   refine⟨nd.es.length-((j+1)),by omega,?_⟩
   exact⟨(j+1),by omega,rfl,(by kernel_rfl),ib.pk [0,1,2,3]⟩
  refine wp_exit (aj (aj (aO (aa (wp_seq (wp_seq (br [0,1,3,7,15,31,63,127,255,511,1023,2047,4095,8191,16383,32767,65535,131071,262143,524287,1048575,2097151,262143,4456447,12845055,33554431,67108863,134217727] [[],[3],[],[],[],[3],[],[],[],[],[],[3],[],[],[],[],[],[],[],[3],[2],[2]] [.k 125 (.pointer (some ⟨dY,2,none⟩)),.c 126 (vi nd.lv),.k 127 (.bool (decide (0<nd.lv))),.k 128 (.bool (decide (0<nd.lv))),.z 129 (decide (0<nd.lv)) (.pointer (some ⟨dY,5,none⟩)),.y 130 (decide (0<nd.lv)) (.slice EA36_20 nd.es.length cEA36_20),.z 131 (decide (0<nd.lv)) (vi ((nd.es.length:Int))),.z 132 (decide (0<nd.lv)) (.bool ((nd.es.length:Int)==0)),tA 133 (decide (0<nd.lv)) ((nd.es.length:Int)==0),.k 134 (.bool ((decide (0<nd.lv))&&((nd.es.length:Int)==0))),.z 135 (!((decide (0<nd.lv))&&((nd.es.length:Int)==0))) (.pointer (some ⟨dY,2,none⟩)),.y 136 (!((decide (0<nd.lv))&&((nd.es.length:Int)==0))) (vi nd.lv),.z 137 (!((decide (0<nd.lv))&&((nd.es.length:Int)==0))) (.bool (decide (0<nd.lv))),.z 138 (!((decide (0<nd.lv))&&((nd.es.length:Int)==0))) (.bool (decide (0<nd.lv))),.z 139 ((!((decide (0<nd.lv))&&((nd.es.length:Int)==0)))&&(decide (0<nd.lv))) (vi ((i:Int))),.z 140 ((!((decide (0<nd.lv))&&((nd.es.length:Int)==0)))&&(decide (0<nd.lv))) (.bool ((i:Int)==0)),.y 141 (!((decide (0<nd.lv))&&((nd.es.length:Int)==0))) (.bool ((decide (0<nd.lv))&&((i:Int)==0))),.z 142 (!((decide (0<nd.lv))&&((nd.es.length:Int)==0))) (.bool ((decide (0<nd.lv))&&((i:Int)==0))),.z 143 ((!((decide (0<nd.lv))&&((nd.es.length:Int)==0)))&&((decide (0<nd.lv))&&((i:Int)==0))) (.pointer (some ⟨dY,7,none⟩)),.y 144 ((!((decide (0<nd.lv))&&((nd.es.length:Int)==0)))&&((decide (0<nd.lv))&&((i:Int)==0))) (.slice KA36_20 nd.es.length cKA36_20),.y 145 ((!((decide (0<nd.lv))&&((nd.es.length:Int)==0)))&&((decide (0<nd.lv))&&((i:Int)==0))) (.pointer (some ((ad KA36_20).add 0))),.y 146 ((!((decide (0<nd.lv))&&((nd.es.length:Int)==0)))&&((decide (0<nd.lv))&&((i:Int)==0))) (vi ((nd.es.getD 0 en0).2.2)),.z 147 ((!((decide (0<nd.lv))&&((nd.es.length:Int)==0)))&&((decide (0<nd.lv))&&((i:Int)==0))) (.slice A2 n2 c2),.y 148 ((!((decide (0<nd.lv))&&((nd.es.length:Int)==0)))&&((decide (0<nd.lv))&&((i:Int)==0))) (.pointer (some ((ad A2).add 0))),.y 149 ((!((decide (0<nd.lv))&&((nd.es.length:Int)==0)))&&((decide (0<nd.lv))&&((i:Int)==0))) (vi (Q.getD 0 0)),.z 150 ((!((decide (0<nd.lv))&&((nd.es.length:Int)==0)))&&((decide (0<nd.lv))&&((i:Int)==0))) (.bool (((nd.es.getD 0 en0).2.2) != (Q.getD 0 0))),.y 151 (!((decide (0<nd.lv))&&((nd.es.length:Int)==0))) (.bool (((decide (0<nd.lv))&&((i:Int)==0))&&(((nd.es.getD 0 en0).2.2) != (Q.getD 0 0)))),tO 152 ((decide (0<nd.lv))&&((nd.es.length:Int)==0)) (((decide (0<nd.lv))&&((i:Int)==0))&&(((nd.es.getD 0 en0).2.2) != (Q.getD 0 0)))] [0,1,2,3] [1,5,11,16,19,20,21,23,24,26] [(125,0,28,153)] fE ?_ fun QY sZ=>?_)))))))
  refine⟨?_,?_,?_,?_,?_,?_,?_,?_,?_,?_,trivial⟩
  exact xs4 rfl id fun cx=>ae rfl (by kernel_rfl) (cx.an 0) ((cx.bi 3 rfl).cell 2)
  exact m2 rfl (fun _ _ _ h=>h) (fun cx=>(cx.an 3)) fun cx hq=>ae rfl (by kernel_rfl) (mbv (cx.an 4) hq) ((cx.bi 3 rfl).cell 5)
  exact m2 rfl (fun _ _ _ h=>h) (fun cx=>(cx.an 9)) fun cx hq=>ae rfl (by kernel_rfl) (mbv (cx.an 10) hq) ((cx.bi 3 rfl).cell 2)
  exact m2 rfl (fun _ _ _ h=>h) (fun cx=>(cx.an 9)) fun cx hq=>iU rfl (mbv (cx.an 13) hq) (cx.an 15) (fun e_=>by rw[hq,e_];rfl) (cx.co _)
  exact m0 rfl (fun _ _ _ h=>h) (fun cx=>(cx.an 17)) fun cx hq=>ae rfl (by kernel_rfl) (mbv (cx.an 18) hq) ((cx.bi 3 rfl).cell 7)
  exact m0 rfl (fun _ _ _ h=>h) (fun cx=>(cx.an 17)) fun cx hq=>ay (e:=3) (m:=0) rfl (by kernel_rfl) (by kernel_rfl) (mbv (cx.an 19) hq) (cx.co _) (by have hq_:=hq;simp only[zB] at hq_;omega) (by have hq_:=hq;simp only[zB] at hq_;omega) (At.of_own (cx.ri 2 rfl)) (by rw[List.length_map]<;>omega)
  exact m0 rfl (fun _ _ _ h=>h) (fun cx=>(cx.an 17)) fun cx hq=>ae rfl (by kernel_rfl) (mbv (cx.an 20) hq) (At.cellAd (At.of_own (cx.ri 2 rfl)) (j1 (by have hq_:=hq;simp only[zB] at hq_;omega)))
  exact m0 rfl (fun _ _ _ h=>h) (fun cx=>(cx.an 17)) fun cx hq=>ay (e:=3) (m:=0) rfl (by kernel_rfl) (by kernel_rfl) (mbv (cx.an 22) hq) (cx.co _) (by have hq_:=hq;simp only[zB] at hq_;omega) (by have hq_:=hq;simp only[zB] at hq_;omega) (hB2.ext cx.upd.to_ext) (by rw[List.length_map]<;>omega)
  exact m0 rfl (fun _ _ _ h=>h) (fun cx=>(cx.an 17)) fun cx hq=>ae rfl (by kernel_rfl) (mbv (cx.an 23) hq) (At.cellAd (hB2.ext cx.upd.to_ext) (bX (by have hq_:=hq;simp only[zB] at hq_;omega)))
  exact m2 rfl (fun _ _ _ h=>h) (fun cx=>(cx.an 9)) fun cx hq=>iU rfl (mbv (cx.an 17) hq) (cx.an 25) (fun e_=>by rw[hq,e_];rfl) (cx.co _)
  refine aa (wbs (fun ma=>?_) fun ma=>?_)
  have s3:=ma
  simp only[zB] at s3
  refine wp_seq (sqr (sqp [.k 6 (.bool false)] ?_))
  refine aa (wp_ret (af (aq (af (af (aq (af ?_)))))))
  refine bpr (.bool false) (ai Tryz.results80 rpt) ?_
  exfalso
  rcases Int.lt_or_le 0 nd.lv with hl_|hl_
  rcases Nat.eq_zero_or_pos i with rfl|h0_
  rw[ha9 hl_ rfl] at ma;simp at ma;omega
  simp at ma;omega
  rw[decide_eq_false (show ¬ 0<nd.lv by omega)] at ma;simp at ma
  have s3:=ma
  simp only[zB] at s3
  obtain⟨NN,NO⟩:=s3
  refine wp_skip (aa (wp_seq (sqr (sqp [.m 153 7,.k 154 (.bool (!(lo.toList==((⟨#[]⟩:ByteArray)).toList))),.m 155 154] ?_))))
  refine cv 155 [156,157,158] ?_ rfl (fun hq=>?_) ?_
  rotate_left
  refine sqp [.k 156 (.pointer (some ⟨dY,4,none⟩))] ?_
  refine am 3 sZ ?_
  refine sqp [.k 158 (.bool (!(nd.high.toList==((⟨#[]⟩:ByteArray)).toList)))] ?_
  exact sqe
  refine bQ ?_
  refine sqp [sPa 159 (!(lo.toList==((⟨#[]⟩:ByteArray)).toList)) (!(nd.high.toList==((⟨#[]⟩:ByteArray)).toList)),.m 160 159] ?_
  refine ii 160 [161,162,163,164] ?_ sZ rfl (fun hq=>?_) fun QZ CL=>?_
  rotate_left
  have hq_:=hq
  try simp only[zB] at hq_
  refine sqp [.k 161 (.pointer (some ⟨dY,4,none⟩))] ?_
  refine am 3 sZ ?_
  refine sqp [.m 163 7] ?_
  refine sqk (.bool (al nd.high lo)) sZ (fun cx=>⟨_,gr nd.high lo _ (by omega) hloz,(aI (cx.ou 162) (cx.ou 163))⟩) fun Q0 Kd=>?_
  exact sqE Kd
  refine bQ ?_
  refine sqp [sPa 165 ((!(lo.toList==((⟨#[]⟩:ByteArray)).toList))&&(!(nd.high.toList==((⟨#[]⟩:ByteArray)).toList))) (al nd.high lo),.m 16 165] ?_
  refine aa (wp_seq (wp_seq (sqr (sqp [.m 166 16] ?_))))
  refine aa (wbs (fun va=>?_) fun va=>?_)
  have s4:=va
  simp only[zB] at s4
  obtain⟨⟨NP,NQ⟩,NR⟩:=s4
  refine wp_seq (sqr (sqp [.k 6 (.bool false)] ?_))
  refine aa (wp_ret (af (aq (af (af (aq (af ?_)))))))
  refine bpr (.bool false) (ai Tryz.results80 rpt) ?_
  have hq_:=ha10
  rw[rgC] at hq_
  unfold neB at hq_
  exact absurd (va.symm.trans hq_) (by decide)
  have s4:=va
  simp only[zB] at s4
  refine wp_skip (aa (sqr (sqp [.k 167 (.pointer (some ⟨dY,4,none⟩))] ?_)))
  refine am 3 CL ?_
  refine sqp [.m 7 168] ?_
  refine ax (aa (sqr (sqp [.m 29 8,sI 30 ((i:Int)+1) (by omega),.m 8 30] ?_)))
  refine aa ?_
  refine⟨n-((i+1)),by omega,?_⟩
  exact⟨(i+1),nd.high,by omega,ha12.symm,rfl,(by kernel_rfl),CL.pk []⟩
 refine wp_exit (aj (aj (aO (aa (wp_seq (sqr (sqp [.k 6 (.bool true)] ?_)))))))
 refine aa (wp_ret ?_)
 refine bpr (.bool true) (ai Tryz.results80 rpt) ?_
 exact Ret.bool rfl bm.ext
end
section
open Go.RowKit
theorem CY{ps:List PgS}{root:Int}{n:NoD}{k:Nat}(h:av ps root=some n)(hc:d7 ps root=0)(hk:(k:Int)<=n.lv):((k:Int)≠n.lv\/(ao ps root (k:Int)).length=1)/\(k=0\/0<(cX ps root k).length)/\rgF (bo ps root (k:Int)) (cX ps root k)=true:=by
 have hx:ckX ps root n.lv k=false:=by
  cases hq:ckX ps root n.lv k with
  |false=>rfl
  |true=>exact absurd ((By h (by omega) hq).trans hc) (by decide)
 rw[ckX,Bool.or_eq_false_iff,Bool.or_eq_false_iff] at hx
 obtain⟨⟨h1,h2⟩,h3⟩:=hx
 refine⟨?_,?_,by simpa using h3⟩
 by_cases h4:(k:Int)=n.lv
 refine .inr ?_
 rw[ao,List.length_map]
 simp[h4] at h1
 rw[h4];omega
 exact .inl h4
 by_cases h4:k=0
 exact .inl h4
 refine .inr ?_
 rw[decide_eq_true (show (0:Int)<(k:Int) by omega),Bool.true_and,beq_eq_false_iff_ne] at h2
 omega
theorem Gd{ps:List PgS}{root:Int}(hc:d7 ps root=0):∃n,av ps root=some n:=by
 rcases h:av ps root with _|n
 exact absurd ((yW h).trans hc) (by decide)
 exact⟨n,rfl⟩
theorem zq{ps:List PgS}{root:Int}{k:Nat}(h:0<(k:Int)):bo ps root ((k:Int)-1)=cX ps root k:=by
 obtain⟨j,rfl⟩:∃j,k=j+1:=⟨k-1,by omega⟩
 rw[show ((j+1:Nat):Int)-1=(j:Int) by omega];rfl
theorem Bg{ps:List PgS}{root:Int}{k:Nat}:∀y∈cX ps root k,av ps y.1=some y.2:=by
 cases k with
 |zero=>intro y hy;cases hy
 |succ k=>intro y hy;exact(nV y hy).1
theorem B0(bk:Nat)(root:Int)(ps:List PgS)(w:World)(hB:fZ w bk ps)(hok:OkS ps)(hck:d7 ps root=0):
  Calls Tryz.prog 39 #[.pointer (some ⟨bk,0,none⟩),.int .i64 root] w (Ret (.int .i64 0) w):=by
 go_enter Tryz.func39,Tryz.ntmps39
 have ar:=St.start w
 refine wp_seq (sqr (sqp [.k 4 (vi 0)] ?_))
 refine aa (wp_seq ?_)
 obtain⟨nd,hnd⟩:=Gd hck
 have hN0:=cO hok hnd
 have hN1:=hN0.len
 have hN2:=hN0.rt
 have hN3:=hN0.hi
 have hN4:=hN0.lv
 refine ak [0,0,3,0,15] [[],[],[],[],[3]] [[],[],[0,1,2],[3],[4]] [[],[],[],[],[3]] [.k 10 (vp bk),.k 11 (vi root),.a 12,.a 5,.n] (fun ix c b X=>match ix with|0|1=>True|2=>c 12= .agg #[.bool true,.bool nd.dead,vi nd.lv,vi nd.right,.string nd.high,.slice (sA (tg (b 12) 5)) nd.es.length (sC (tg (b 12) 5)),.slice (sA (tg (b 12) 6)) nd.es.length (sC (tg (b 12) 6)),.slice (sA (tg (b 12) 7)) nd.es.length (sC (tg (b 12) 7))]/\X 0=eO 9 1 (.slice (sA (tg (b 12) 5)) nd.es.length (sC (tg (b 12) 5))) nd.es.length (nd.es.map stv)/\X 1=eO 3 1 (.slice (sA (tg (b 12) 6)) nd.es.length (sC (tg (b 12) 6))) nd.es.length (nd.es.map slv)/\X 2=eO 3 1 (.slice (sA (tg (b 12) 7)) nd.es.length (sC (tg (b 12) 7))) nd.es.length (nd.es.map kdv)|3=>c 5=vp (pb (b 5))/\X 3=eB (pb (b 5)) 95 #[.bool false,.bool false,vi 0,vi 0,.string ByteArray.empty,.slice none 0 0,.slice none 0 0,.slice none 0 0]|4=>X 4=eB (pb (b 5)) 95 #[.bool true,.bool nd.dead,vi nd.lv,vi nd.right,.string nd.high,.slice (sA (tg (b 12) 5)) nd.es.length (sC (tg (b 12) 5)),.slice (sA (tg (b 12) 6)) nd.es.length (sC (tg (b 12) 6)),.slice (sA (tg (b 12) 7)) nd.es.length (sC (tg (b 12) 7))]|_=>True) [0,1,2,4] [2,3,4] [(5,3,1,6),(4,0,3,7)] ar ?_ ?_ ?_
 exact fun ix _ _ _ _ _ _ hs hb hx h=>match ix,h with
 |2,h=>by dsimp only;rw[<-hs 12 rfl,<-hb 12 rfl,<-hx 0 rfl,<-hx 1 rfl,<-hx 2 rfl];exact h
 |3,h=>by dsimp only;rw[<-hs 5 rfl,<-hb 5 rfl,<-hx 3 rfl];exact h
 |4,h=>by dsimp only;rw[<-hb 5 rfl,<-hb 12 rfl,<-hx 4 rfl];exact h
 |0,_|1,_|_+5,_=>trivial
 refine⟨?_,?_,?_,trivial⟩
 refine svA fun d b W X cx=>?_
 refine aC.call (aB (args:=#[vp bk,vi root]) rfl cx.sees rfl (by kernel_rfl) (aI (cx.an 0) (cx.an 1))) ?_
 refine(fF hnd (dF bk ps root _ (hB.ext cx.upd.to_ext) hok)).mono ?_
 rintro e W1 ⟨EA4,ec4,SA4,sc4,KA4,kc4,rfl,aM⟩
 refine⟨_,rfl,cl [eO 9 1 (.slice EA4 nd.es.length ec4) nd.es.length (nd.es.map stv),eO 3 1 (.slice SA4 nd.es.length sc4) nd.es.length (nd.es.map slv),eO 3 1 (.slice KA4 nd.es.length kc4) nd.es.length (nd.es.map kdv)] rfl rfl aM (fun c f X' hs hb hv hN=>?_)⟩
 have aW:=(hv 12 rfl).1;have aG:=(hv 12 rfl).2
 exact⟨aW.trans (by rw[aG];rfl),(by rw[aG];exact(List.cons.inj hN).1),(by rw[aG];exact(List.cons.inj (List.cons.inj hN).2).1),(by rw[aG];exact(List.cons.inj (List.cons.inj (List.cons.inj hN).2).2).1)⟩
 refine svA fun d b W X cx=>?_
 exact aX (cs:=#[.bool false,.bool false,vi 0,vi 0,.string ByteArray.empty,.slice none 0 0,.slice none 0 0,.slice none 0 0]) rfl (by kernel_rfl) rfl rfl (fun _ _ _ _ _=> .intro)
 refine svA fun d b W X cx=>?_
 exact aw (n:=8) rfl (dTn (cx.an 3)).1 (dTn (cx.an 2)).1 (by kernel_rfl) (by kernel_rfl) (by kernel_rfl) cx (dTn (cx.an 3)).2 rfl (nle rfl) (by kernel_rfl) rfl rfl rfl (fun c f X' hs hb hx=>by rw[hb 5,hb 12];exact hx)
 intro c b X W2 hD aN fr ag
 simp only[exq 0 ((dTn (hD 2 lq)).2.1),exq 1 ((dTn (hD 2 lq)).2.2.1),exq 2 ((dTn (hD 2 lq)).2.2.2),exq 4 ((dTn (hD 4 lq)))] at aN
 simp only[ed 12 ((dTn (hD 2 lq)).1),ed 5 ((dTn (hD 3 lq)).1)] at ag
 generalize sA (tg (b 12) 5)=EA12_2,sC (tg (b 12) 5)=cEA12_2,sA (tg (b 12) 6)=SA12_2,sC (tg (b 12) 6)=cSA12_2,sA (tg (b 12) 7)=KA12_2,sC (tg (b 12) 7)=cKA12_2,pb (b 5)=eX at aN ag
 clear hD;subst ag;clear c b X
 refine aa (wp_seq (wp_seq (sqr (sqp [.k 13 (vp eX)] ?_))))
 refine am 3 aN ?_
 refine sqp [.k 15 (.bool false)] ?_
 refine aa (wcf rfl (wp_skip (aa (wp_seq (wp_seq (sqr (sqp [.k 16 (.pointer (some ⟨eX,2,none⟩))] ?_)))))))
 refine am 3 aN ?_
 refine sqp [.m 6 17] ?_
 refine aa (wp_block ?_)
 refine aL (fun t_ mz az W=>∃v:Int,(-1<=v/\v<=nd.lv)/\mz=(v+1).toNat/\az=⟨(ovr (jv az) [(4,4,1,[]),(1,6,0,[vi v]),(0,7,3,[]),(8,18,44,[])] t_).toArray,[]⟩/\St w [] [eB eX 95 #[.bool true,.bool nd.dead,vi nd.lv,vi nd.right,.string nd.high,.slice EA12_2 nd.es.length cEA12_2,.slice SA12_2 nd.es.length cSA12_2,.slice KA12_2 nd.es.length cKA12_2]] W) ((nd.lv+1).toNat) ?_ ?_
 exact⟨nd.lv,by omega,rfl,(by kernel_rfl),aN.pk [3]⟩
 rintro n9 a9 W9 ⟨v,hv,rfl,hj_,be⟩
 refine ovz hj_ fun Pk=>?_
 refine wp_seq (wp_seq (sqr (sqp [.m 18 6,.k 19 (.bool (decide (0<=v)))] ?_)))
 refine aa (wds (fun kp lP=>?_) fun kp lP=>?_)
 ·refine wp_skip (aa (wp_seq (wp_block (wp_seq ?_))))
  obtain⟨k,rfl⟩:∃k:Nat,v=(k:Int):=⟨v.toNat,by omega⟩
  obtain⟨hc1,hc2,hc3⟩:=CY hnd hck (show (k:Int)<=nd.lv by omega)
  have hl1_:=Bb hc3
  have hl2_:(ao ps root (k:Int)).length=(bo ps root (k:Int)).length:=List.length_map _
  have hl3_:=oC ps root k
  refine sqr (sqp [.m 22 0,.m 23 1,.m 24 6] ?_)
  refine ff (fun pf ph=> .slice pf ((ao ps root (k:Int)).length) ph) (fun pf ph=>eO 3 1 (.slice pf ((ao ps root (k:Int)).length) ph) ((ao ps root (k:Int)).length) ((ao ps root (k:Int)).map (Value.int .i64))) be (fun cx=>⟨_,(jj bk root (k:Int) ps _ (hB.ext cx.upd.to_ext) hok).mono (by rintro e W1 ⟨A4,c4,rfl,aM⟩;exact⟨_,_,rfl,aM⟩),(dH (cx.ou 22) (cx.ou 23) (cx.ou 24))⟩) fun pf ph nS bM=>?_
  refine sqp [.m 7 25] ?_
  refine aa (wp_seq (sqr (sqp [.k 8 (.slice none 0 0)] ?_)))
  refine aa ?_
  refine ju (fun t_ az W=>∃BA:Option Addr,∃bn:Nat,∃bc:Nat,∃Q:List Int,∃Lb:List (Int×NoD),Lb=cX ps root k/\Q=Lb.map Prod.fst/\bn=Q.length/\az=⟨(ovr (jv az) [(8,8,0,[.slice BA bn bc]),(17,26,7,[])] t_).toArray,[]⟩/\St w [] [eB eX 95 #[.bool true,.bool nd.dead,vi nd.lv,vi nd.right,.string nd.high,.slice EA12_2 nd.es.length cEA12_2,.slice SA12_2 nd.es.length cSA12_2,.slice KA12_2 nd.es.length cKA12_2],eO 3 1 (.slice pf ((ao ps root (k:Int)).length) ph) ((ao ps root (k:Int)).length) ((ao ps root (k:Int)).map (Value.int .i64)),eO 3 1 (.slice BA bn bc) bn (Q.map (Value.int .i64))] W) ?_ ?_
  refine wp_seq (sqr (sqp [.m 26 6,.k 27 (.bool (decide (0<(k:Int))))] ?_))
  refine aa (wds (fun Np Lz=>?_) fun Np Lz=>?_)
  refine sqr (sqp [.m 28 0,.m 29 1,.m 30 6,sI 31 ((k:Int)-1) (by omega)] ?_)
  refine ff (fun pi pj=> .slice pi ((ao ps root ((k:Int)-1)).length) pj) (fun pi pj=>eO 3 1 (.slice pi ((ao ps root ((k:Int)-1)).length) pj) ((ao ps root ((k:Int)-1)).length) ((ao ps root ((k:Int)-1)).map (Value.int .i64))) bM (fun cx=>⟨_,(jj bk root ((k:Int)-1) ps _ (hB.ext cx.upd.to_ext) hok).mono (by rintro e W1 ⟨A4,c4,rfl,aM⟩;exact⟨_,_,rfl,aM⟩),(dH (cx.ou 28) (cx.ou 29) (cx.ou 31))⟩) fun pi pj y6 cd=>?_
  refine sqp [.m 8 32] ?_
  refine aa ?_
  exact⟨pi,(ao ps root ((k:Int)-1)).length,pj,(ao ps root ((k:Int)-1)),(bo ps root ((k:Int)-1)),zq (by omega),rfl,rfl,(by kernel_rfl),cd.pk [0,1,2]⟩
  refine wp_skip (aa ?_)
  have hn29:=St.nilrow bM 3
  simp only[List.cons_append,List.nil_append] at hn29
  exact⟨none,0,0,[],[],(by rw[show k=0 by omega];rfl),rfl,rfl,(by kernel_rfl),hn29.pk [0,1,2]⟩
  rintro a19 w5 ⟨BA,bn,bc,Q,Lb,hLb,hQ,hbn,hj_,cU⟩
  refine ovz hj_ fun Q1=>?_
  have hbl_:Q.length=Lb.length:=by rw[hQ,List.length_map]
  rw[<-hLb] at hc2 hc3 hl3_
  refine wp_seq (wp_seq (sqr (sqp [.m 33 7,.k 34 (vi (((ao ps root (k:Int)).length:Int))),.k 35 (.bool (((ao ps root (k:Int)).length:Int)==0)),.m 36 35] ?_)))
  refine cv 36 [37,38,39,40,41,42,43] ?_ rfl (fun hq=>?_) ?_
  rotate_left
  refine sqp [.m 37 6,.k 38 (.bool (decide (0<(k:Int)))),.m 39 38] ?_
  refine sqw 39 [40,41,42] rfl (fun _=>sqp [.m 40 8,.k 41 (vi ((bn:Int))),.k 42 (.bool ((bn:Int)==0))] sqe) ?_
  refine sqp [sPa 43 (decide (0<(k:Int))) ((bn:Int)==0)] ?_
  exact sqe
  refine bQ ?_
  refine sqp [sPo 44 (((ao ps root (k:Int)).length:Int)==0) ((decide (0<(k:Int)))&&((bn:Int)==0)),.m 45 44] ?_
  refine cv 45 [46,47,48,49,50,51,52,53,54] ?_ rfl (fun hq=>?_) ?_
  rotate_left
  refine sqp [.m 46 6,.k 47 (.pointer (some ⟨eX,2,none⟩))] ?_
  refine am 0 cU ?_
  refine sqp [.k 49 (.bool ((k:Int)==nd.lv)),.m 50 49] ?_
  refine sqw 50 [51,52,53] rfl (fun _=>sqp [.m 51 7,.k 52 (vi (((ao ps root (k:Int)).length:Int))),.k 53 (.bool (((ao ps root (k:Int)).length:Int) != 1))] sqe) ?_
  refine sqp [sPa 54 ((k:Int)==nd.lv) (((ao ps root (k:Int)).length:Int) != 1)] ?_
  exact sqe
  refine bQ ?_
  refine sqp [sPo 55 ((((ao ps root (k:Int)).length:Int)==0)||((decide (0<(k:Int)))&&((bn:Int)==0))) (((k:Int)==nd.lv)&&(((ao ps root (k:Int)).length:Int) != 1))] ?_
  refine aa (wbs (fun ea=>?_) fun ea=>?_)
  have kH:=ea
  simp only[zB] at kH
  refine wp_seq (sqr (sqp [.k 4 (vi 11)] ?_))
  refine aa (wp_ret (af (aq (af (af (aq (af ?_)))))))
  refine bpr (vi 11) (ai Tryz.results39 rpt) ?_
  exfalso
  simp at ea
  omega
  have kH:=ea
  simp only[zB] at kH
  obtain⟨⟨J2,J3⟩,J4⟩:=kH
  refine wp_skip (aa (wp_seq (sqr (sqp [.m 56 0,.m 57 7,.m 58 8] ?_))))
  refine sqk (.bool true) cU (fun cx=>⟨_,zE bk _ _ _ _ _ _ (ao ps root (k:Int)) Q (bo ps root (k:Int)) Lb ps _ (hB.ext cx.upd.to_ext) hok (At.of_own (cx.ri 1 rfl)) (At.of_own (cx.ri 2 rfl)) rfl hQ hl2_.symm (by omega) (by omega) (by omega) (fun y hy=>(nV y hy).1) (fun y hy=>Bg y (hLb ▸ hy)) hc3,(dH (cx.ou 56) (cx.ou 57) (cx.ou 58))⟩) fun Pr Av=>?_
  refine sqp [.k 9 (.bool true)] ?_
  refine aa (wp_seq (sqr (sqp [.k 60 (.bool true),.k 61 (.bool false)] ?_)))
  refine aa (wcf rfl (wp_skip (ax (aa (sqr (sqp [.m 20 6,sI 21 ((k:Int)-1) (by omega),.m 6 21] ?_))))))
  refine aa ?_
  refine⟨((((k:Int)-1))+1).toNat,by omega,?_⟩
  exact⟨((k:Int)-1),by omega,rfl,(by kernel_rfl),Av.pk [0]⟩
 refine wp_exit (aj (aj (aO (aa (wp_seq (sqr (sqp [.k 4 (vi 0)] ?_)))))))
 refine aa (wp_ret ?_)
 refine bpr (vi 0) (ai Tryz.results39 rpt) ?_
 exact Ret.of rfl be.ext
end
section
open Go.RowKit
theorem lM:∀{a b c:List UInt8},Op.bytesLess a b=true->Op.bytesLess b c=true->Op.bytesLess a c=true
 | [],[],_,h,_=>by simp[Op.bytesLess] at h
 | [],_:: _,[],_,h=>by simp[Op.bytesLess] at h
 | [],_:: _,_:: _,_,_=>by simp[Op.bytesLess]
 |_:: _,[],_,h,_=>by simp[Op.bytesLess] at h
 |_:: _,_:: _,[],_,h=>by simp[Op.bytesLess] at h
 |x::a,y::b,z::c,h1,h2=>by
  simp only[Op.bytesLess,Bool.or_eq_true,Bool.and_eq_true,decide_eq_true_eq,beq_iff_eq] at h1 h2 |-
  rcases h1 with h1|⟨rfl,h1⟩
  rcases h2 with h2|⟨rfl,h2⟩
  exact .inl (UInt8.lt_trans h1 h2)
  exact .inl h1
  rcases h2 with h2|⟨rfl,h2⟩
  exact .inl h2
  exact .inr ⟨rfl,lM h1 h2⟩
theorem Bp{a b c:ByteArray}(h1:ltB a b=true)(h2:ltB b c=true):ltB a c=true:=lM h1 h2
theorem Bl(a b:ByteArray):al a b=true<->ltB (okF a) (okF b)=true\/(okF a=okF b/\(opF a<opF b\/(opF a=opF b/\osF a<osF b))):=by
 rw[lL]
 by_cases hk:okF a=okF b
 rw[if_neg (by simp[hk])]
 by_cases hp:opF a=opF b
 rw[if_neg (by simp[hp]),hk,mD]
 simp[hp]
 rw[if_pos hp,hk,mD]
 simp[hp]
 rw[if_pos hk]
 simp[hk]
theorem gZ{a b c:ByteArray}(h1:al a b=true)(h2:al b c=true):al a c=true:=by
 rw[Bl] at h1 h2 |-
 rcases h1 with h1|⟨k1,h1⟩
 rcases h2 with h2|⟨k2,h2⟩
 exact .inl (Bp h1 h2)
 exact .inl (k2 ▸ h1)
 rcases h2 with h2|⟨k2,h2⟩
 exact .inl (k1 ▸ h2)
 refine .inr ⟨k1.trans k2,?_⟩
 omega
theorem yc{a b c:ByteArray}(ha:4<=a.size)(hb:4<=b.size)(h1:al b a=false)(h2:al b c=true):al a c=true:=by
 cases h3:al a b with
 |true=>exact gZ h3 h2
 |false=>rw[jK ha hb h3 h1];exact h2
theorem mf{a b c:ByteArray}(hb:4<=b.size)(hc:4<=c.size)(h1:al a b=true)(h2:al c b=false):al a c=true:=by
 cases h3:al b c with
 |true=>exact gZ h1 h3
 |false=>rw[<-jK hb hc h3 h2];exact h1
theorem yd{a b c:ByteArray}(ha:4<=a.size)(hb:4<=b.size)(h1:al b a=false)(h2:al c b=false):al c a=false:=by
 cases h3:al c a with
 |false=>rfl
 |true=>
  cases h4:al a b with
  |true=>rw[gZ h3 h4] at h2;exact h2
  |false=>rw[jK ha hb h4 h1] at h3;rw[h3] at h2;exact h2
theorem sg{x:ByteArray}{d:Int}(hd:0<=d):∀{l:List EnD},(∀e∈l,al x e.1=true)->cm x l d=d
 | [],_=>rfl
 |e::l,h=>by
  rw[cm,if_neg (by rw[h e (by simp)];simp;omega)]
  exact sg hd (fun y hy=>h y (by simp[hy]))
theorem ub{x:ByteArray}{e:EnD}{l2:List EnD}(hk:0<=e.2.2)(he:al x e.1=false)(h2:∀y∈l2,al x y.1=true):∀{l1:List EnD}{d:Int},cm x (l1++e::l2) d=e.2.2
 | [],d=>by
   rw[List.nil_append,cm,if_pos (.inr he)]
   exact sg hk h2
 |y::l1,d=>by
  rw[List.cons_append,cm]
  exact ub hk he h2
theorem lD(y:ByteArray)(l:List ByteArray)(k:Nat)(x:ByteArray):bO (y::l) (k+1) x=y::bO l k x:=by
 rw[bO,bO,List.length_cons,Nat.add_sub_add_right,List.cons_append,List.set_cons_succ]
theorem uo(y:ByteArray)(l:List ByteArray)(x:ByteArray):bO (y::l) 0 x=x::l:=by
 rw[bO,List.length_cons,show 0+1-(l.length+1)=0 by omega,List.replicate_zero,List.append_nil];rfl
theorem Ec(k:Nat)(x:ByteArray):bO [] (k+1) x=ByteArray.empty::bO [] k x:=by
 rw[bO,bO];rfl
theorem j0{i:Nat}{x:ByteArray}{l:List ByteArray}(h:x.size=0):bu i (x::l)=bu (i+1) l:=by rw[bu,if_pos h]
theorem kQ{i:Nat}{x:ByteArray}{l:List ByteArray}(h:x.size≠0):bu i (x::l)=(i,x)::bu (i+1) l:=by rw[bu,if_neg h]
theorem jr{x:ByteArray}(hx:x.size≠0):∀(l:List ByteArray) (k i:Nat),(l.getD k ByteArray.empty).size=0->(bu i (bO l k x)).Perm ((i+k,x)::bu i l)
 | [],0,i,_=>by
   rw[show bO [] 0 x=[x] from rfl,kQ hx];exact List.Perm.refl _
 | [],k+1,i,_=>by
   rw[Ec,j0 rfl,show i+(k+1)=(i+1)+k by omega]
   exact jr hx [] k (i+1) rfl
 |y::l,0,i,h=>by
  rw[uo,kQ hx,j0 (x:=y) h];exact List.Perm.refl _
 |y::l,k+1,i,h=>by
  rw[List.getD_cons_succ] at h
  rw[lD,show i+(k+1)=(i+1)+k by omega]
  by_cases hy:y.size=0
  rw[j0 hy,j0 hy];exact jr hx l k (i+1) h
  ·rw[kQ hy,kQ hy]
   exact((jr hx l k (i+1) h).cons _).trans (List.Perm.swap _ _ _)
theorem A9{l:List ByteArray}{k:Nat}{y x:ByteArray}(h:l[k]? =some y):bO (bO l k x) k y=l:=by
 obtain⟨hk,rfl⟩:=List.getElem?_eq_some_iff.1 h
 have e:∀z,bO l k z=l.set k z:=fun z=>by rw[bO,show k+1-l.length=0 by omega,List.replicate_zero,List.append_nil]
 rw[e,bO,List.length_set,show k+1-l.length=0 by omega,List.replicate_zero,List.append_nil,List.set_set]
 exact List.set_getElem_self hk
theorem qK(l:List ByteArray)(k:Nat)(x:ByteArray):(bO l k x).getD k ByteArray.empty=x:=by
 rw[bO,List.getD_eq_getElem?_getD,List.getElem?_set_self (td l k)];rfl
theorem C6{l:List ByteArray}{k i:Nat}{y:ByteArray}(h:l[k]? =some y)(hy:y.size≠0):(bu i l).Perm ((i+k,y)::bu i (bO l k ByteArray.empty)):=by
 have h1:=jr hy (bO l k ByteArray.empty) k i (by rw[qK];rfl)
 rwa [A9 h] at h1
theorem t7(x:EnD):∀l,(gQ x l).Perm (x::l)
 | []=>List.Perm.refl _
 |y::l=>by
  rw[gQ]
  split
  ·exact((t7 x l).cons y).trans (List.Perm.swap _ _ _)
  exact List.Perm.refl _
theorem rN:∀l,(cY l).Perm l
 | []=>List.Perm.refl _
 |x::l=>(t7 x (cY l)).trans ((rN l).cons x)
theorem fw(lv:Int)(l:List (Nat×ByteArray)):(srt lv l).Perm (l.map (b8 lv)):=by
 rw[srt]
 exact(List.reverse_perm _).trans ((rN _).trans (List.reverse_perm _))
theorem qe{x:EnD}:∀{l:List EnD},(∀e∈l,4<=e.1.size)->l.Pairwise (fun a b=>al a.1 b.1=false)->(gQ x l).Pairwise (fun a b=>al a.1 b.1=false)
 | [],_,_=>List.pairwise_singleton _ _
 |y::l,h4,hp=>by
  obtain⟨h1,h2⟩:=List.pairwise_cons.1 hp
  rw[gQ]
  split
  rename_i hx
  refine List.pairwise_cons.2 ⟨fun z hz=>?_,qe (fun e he=>h4 e (by simp[he])) h2⟩
  rcases qA hz with rfl|hz
  exact m5 hx
  exact h1 z hz
  rename_i hx
  have hx:al x.1 y.1=false:=by simpa using hx
  refine List.pairwise_cons.2 ⟨fun z hz=>?_,hp⟩
  rcases List.mem_cons.1 hz with rfl|hz
  exact hx
  exact yd (h4 z (by simp[hz])) (h4 y (by simp)) (h1 z hz) hx
theorem oe:∀{l:List EnD},(∀e∈l,4<=e.1.size)->(cY l).Pairwise (fun a b=>al a.1 b.1=false)
 | [],_=>List.Pairwise.nil
 |x::l,h4=>qe (fun e he=>h4 e (by simp[j3 he])) (oe fun e he=>h4 e (by simp[he]))
theorem zr{lv:Int}{l:List (Nat×ByteArray)}(h4:∀e∈l.map (b8 lv),4<=e.1.size):(srt lv l).Pairwise (fun a b=>al b.1 a.1=false):=by
 rw[srt,List.pairwise_reverse]
 exact oe fun e he=>h4 e (List.mem_reverse.1 he)
theorem me{k:Int}{its:List ByteArray}{n:NoD}(h:cn k its=some n):n.es.Pairwise (fun a b=>al b.1 a.1=false)/\∀e∈n.es,4<=e.1.size:=by
 have h0:=h
 unfold cn at h
 split at h
 cases h
 split at h
 cases h
 rename_i x l
 split at h
 cases h
 split at h
 cases h
 rename_i hb
 injection h with h
 subst h
 have h4:∀e∈(bu 1 l).map (b8 (aK x 0 1)),4<=e.1.size:=fun e he=>by
  obtain⟨p,hp,rfl⟩:=List.mem_map.1 he
  have hbp:cB (aK x 0 1) p=false:=by
   cases hq:cB (aK x 0 1) p with
   |false=>rfl
   |true=>exact absurd (List.any_eq_true.2 ⟨p,hp,hq⟩) hb
  unfold cB at hbp
  unfold b8
  split at hbp
  rw[if_pos (by assumption)]
  have:=of_decide_eq_false hbp
  show 4<=(p.2.extract 0 (p.2.size-2)).size
  rw[ByteArray.size_extract];omega
  rw[if_neg (by assumption)]
  have:=of_decide_eq_false hbp
  show 4<=p.2.size
  omega
 refine⟨zr h4,fun e he=>h4 e ?_⟩
 exact(fw _ _).mem_iff.1 he
theorem rV(lv kid:Int)(x:ByteArray):(itB lv kid x).size=x.size+(if 0<lv then 2 else 0):=by
 unfold itB;split
 rw[ByteArray.size_append,bf]
 rfl
theorem qy{lv kid:Int}{x:ByteArray}{k:Nat}(hk:0<lv->0<=kid/\kid<65536):b8 lv (k,itB lv kid x)=(x,k,if 0<lv then kid else -1):=by
 unfold b8 itB
 by_cases h:0<lv
 simp only[if_pos h]
 have e1:(x++aR kid).extract 0 ((x++aR kid).size-2)=x:=by
  apply d6
  rw[dp,ByteArray.size_append,bf,List.drop_zero,Nat.sub_zero,Nat.add_sub_cancel,cT,<-cK,List.take_left']
  rfl
 have e0:(aK (x++aR kid) x.size 2:Int)=kid % 65536:=by
  rw[<-mV]
  congr 1
  exact kK (a:=bl x) (b:=bl (aR kid)) (c:=[]) (by rw[cT,List.append_nil]) (cK _) (jL _)
 have e2:(aK (x++aR kid) ((x++aR kid).size-2) 2:Int)=kid:=by
  rw[ByteArray.size_append,bf,Nat.add_sub_cancel,e0];have:=hk h;omega
 rw[e1,e2]
 simp only[if_neg h]
theorem qB{lv kid:Int}{x:ByteArray}{k:Nat}(h4:4<=x.size):cB lv (k,itB lv kid x)=false:=by
 have:=rV lv kid x
 unfold cB
 by_cases h:0<lv
 rw[if_pos h] at this |-;exact decide_eq_false (by dsimp only;omega)
 rw[if_neg h] at this |-;exact decide_eq_false (by dsimp only;omega)
theorem DT{kd:Int}{its:List ByteArray}{n:NoD}{s:Nat}{kid:Int}{x:ByteArray}(h:cn kd its=some n)(hs:(its.getD (s+1) ByteArray.empty).size=0)(hk:0<n.lv->0<=kid/\kid<65536)(h4:4<=x.size):
  ∃n',cn kd (bO its (s+1) (itB n.lv kid x))=some n'/\n'.lv=n.lv/\n'.right=n.right/\n'.high=n.high/\n'.dead=n.dead/\n'.es.Perm ((x,s+1,if 0<n.lv then kid else -1)::n.es):=by
 obtain⟨y,l,rfl,rfl,hok,rfl⟩:=d8 h
 have hz:(itB (aK y 0 1) kid x).size≠0:=by have:=rV (aK y 0 1) kid x;omega
 rw[List.getD_cons_succ] at hs
 have hp:=jr hz l s 1 hs
 have hbad:(bu 1 l).any (cB (aK y 0 1))=false:=by
  cases hb:(bu 1 l).any (cB (aK y 0 1)) with
  |false=>rfl
  |true=>simp[cn,hok,hb] at h
 have hbad2:(bu 1 (bO l s (itB (aK y 0 1) kid x))).any (cB (aK y 0 1))=false:=by
  rw[List.any_eq_false] at hbad |-
  intro p hpm
  rcases List.mem_cons.1 (hp.mem_iff.1 hpm) with rfl|hm
  rw[qB h4];decide
  exact hbad p hm
 dsimp only
 rw[lD,go hok hbad2]
 refine⟨_,rfl,rfl,rfl,rfl,rfl,?_⟩
 show (srt _ _).Perm (_::srt _ _)
 refine(fw _ _).trans (((hp.map (b8 (aK y 0 1))).trans ?_).trans ((fw _ _).symm.cons _))
 rw[List.map_cons,qy hk,Nat.add_comm 1 s]
theorem Eg{kd:Int}{its:List ByteArray}{n:NoD}{e:EnD}(h:cn kd its=some n)(he:e∈n.es):
  ∃n',cn kd (bO its e.2.1 ByteArray.empty)=some n'/\n'.lv=n.lv/\n'.right=n.right/\n'.high=n.high/\n'.dead=n.dead/\n.es.Perm (e::n'.es):=by
 obtain⟨y,l,rfl,rfl,hok,rfl⟩:=d8 h
 have hm:∃p∈bu 1 l,e=b8 (aK y 0 1) p:=by
  obtain⟨p,hp,rfl⟩:=List.mem_map.1 ((fw _ _).mem_iff.1 he)
  exact⟨p,hp,rfl⟩
 obtain⟨⟨s,z⟩,hpz,rfl⟩:=hm
 obtain⟨lj,hg,hz⟩:=th hpz
 have hsl:(b8 (aK y 0 1) (s,z)).2.1=s:=by unfold b8;split<;>rfl
 obtain⟨t,rfl⟩:∃t,s=t+1:=⟨s-1,by omega⟩
 rw[Nat.add_sub_cancel] at hg
 have hp:=C6 (i:=1) hg hz
 have hbad:(bu 1 l).any (cB (aK y 0 1))=false:=by
  cases hb:(bu 1 l).any (cB (aK y 0 1)) with
  |false=>rfl
  |true=>simp[cn,hok,hb] at h
 have hbad2:(bu 1 (bO l t ByteArray.empty)).any (cB (aK y 0 1))=false:=by
  rw[List.any_eq_false] at hbad |-
  intro p hpm
  exact hbad p (hp.mem_iff.2 (List.mem_cons_of_mem _ hpm))
 rw[hsl,lD,go hok hbad2]
 refine⟨_,rfl,rfl,rfl,rfl,rfl,?_⟩
 show (srt _ _).Perm (_::srt _ _)
 refine(fw _ _).trans ((hp.map (b8 (aK y 0 1))).trans ?_)
 rw[List.map_cons,Nat.add_comm 1 t]
 exact(fw _ _).symm.cons _
theorem AN(a b:Int):bl (strOfNums [a,b])=bl (strOfNums [a])++bl (strOfNums [b]):=rfl
theorem wc{lv rt:Int}{d:Bool}{hi:ByteArray}(h:0<=lv/\lv<=255):(aK (hdB lv rt d hi) 0 1:Int)=lv:=by
 rw[kK (s:=hdB lv rt d hi) (p:=0) (k:=1) (a:=[]) (b:=bl (strOfNums [lv])) (c:=bl (strOfNums [if d then 1 else 0])++bl (aR (rt+1))++bl hi) (by rw[hdB,cT,cT,AN];simp) rfl (by rw[cK,strOfNums_size];rfl)]
 obtain⟨m,rfl⟩:=Int.eq_ofNat_of_zero_le h.1
 simp[strOfNums,bl,dn]
 omega
theorem uT{lv rt:Int}{d:Bool}{hi:ByteArray}:aK (hdB lv rt d hi) 1 1=if d then 1 else 0:=by
 rw[kK (s:=hdB lv rt d hi) (a:=bl (strOfNums [lv])) (b:=bl (strOfNums [if d then 1 else 0])) (c:=bl (aR (rt+1))++bl hi) (by rw[hdB,cT,cT,AN];simp) (by rw[cK,strOfNums_size];rfl) (by rw[cK,strOfNums_size];rfl)]
 cases d<;>rfl
theorem wU{lv rt:Int}{d:Bool}{hi:ByteArray}(h: -1<=rt/\rt<=65534):(aK (hdB lv rt d hi) 2 2:Int)-1=rt:=by
 rw[kK (s:=hdB lv rt d hi) (a:=bl (strOfNums [lv,if d then 1 else 0])) (b:=bl (aR (rt+1))) (c:=bl hi) (by rw[hdB,cT,cT,List.append_assoc]) (by rw[cK,cW]) (jL _),mV]
 omega
theorem v5(lv rt:Int)(d:Bool)(hi:ByteArray):(hdB lv rt d hi).extract 4 (hdB lv rt d hi).size=hi:=by
 apply d6
 rw[dp,ir,Nat.add_sub_cancel,hdB,cT]
 rw[List.drop_left' (by rw[cK,ByteArray.size_append,cW,bf]),List.take_of_length_le (by rw[cK];exact Nat.le_refl _)]
theorem vh{lv rt:Int}{d:Bool}{hi:ByteArray}(h:hi.size=0\/4<=hi.size):iW (hdB lv rt d hi)=true:=by
 have h1:aK (hdB lv rt d hi) 1 1<=1:=by rw[uT];cases d<;>decide
 rw[iW,ir,decide_eq_true h1,decide_eq_true (show 4<=hi.size+4 by omega)]
 rcases h with h|h
 rw[decide_eq_true (show hi.size+4<=4 by omega)];rfl
 rw[decide_eq_true (show 8<=hi.size+4 by omega),Bool.or_true];rfl
theorem BO{kd:Int}{its:List ByteArray}{n:NoD}{rt:Int}{d:Bool}{hi:ByteArray}(h:cn kd its=some n)(hlv:n.lv<=255)(hrt: -1<=rt/\rt<=65534)(hhi:hi.size=0\/4<=hi.size):cn kd (bO its 0 (hdB n.lv rt d hi))=some ⟨n.lv,rt,hi,d,n.es,n.free⟩:=by
 obtain⟨y,l,rfl,rfl,hok,rfl⟩:=d8 h
 have hbad:(bu 1 l).any (cB (aK y 0 1))=false:=by
  cases hb:(bu 1 l).any (cB (aK y 0 1)) with
  |false=>rfl
  |true=>simp[cn,hok,hb] at h
 dsimp only at hlv |-
 have e1:=wc (lv:=(aK y 0 1:Int)) (rt:=rt) (d:=d) (hi:=hi) ⟨by omega,hlv⟩
 rw[uo,go (vh hhi) (by rw[e1];exact hbad),e1,wU hrt,v5,uT]
 cases d<;>rfl
theorem DE(l:List ByteArray)(x:ByteArray):bO l l.length x=l++[x]:=by
 rw[bO,show l.length+1-l.length=1 by omega,List.set_append_right _ _ (Nat.le_refl _),Nat.sub_self];rfl
def itI(lv:Int)(es:List EnD):List ByteArray:=es.map fun e=>itB lv e.2.2 e.1
theorem wr{lv:Int}{i:Nat}:∀{es:List EnD}{k:Nat}{ps:List PgS}{L:List ByteArray},ps.getD i aT=(2,0,L)->L.length=k->k+es.length<=101->i<ps.length->(doB ps (dS (i:Int) lv k es)).getD i aT=(2,0,L++itI lv es)
 | [],k,ps,L,h,_,_,_=>by rw[itI,List.map_nil,List.append_nil];exact h
 |e::es,k,ps,L,h,hk,hl,hi=>by
  rw[List.length_cons] at hl
  have h1:(bP ps ((i:Int),(k:Int),itB lv e.2.2 e.1)).getD i aT=(2,0,L++[itB lv e.2.2 e.1]):=by
   rw[j8 (decide_eq_true (by dsimp only;omega)) rfl,h,edP,if_neg (by dsimp only;omega)]
   dsimp only
   rw[Int.toNat_natCast,<-hk,DE]
  have h2:=wr (lv:=lv) (es:=es) (k:=k+1) h1 (by rw[List.length_append,hk];rfl) (by omega) (by rw[gg];exact hi)
  rw[dS]
  show (doB (bP ps _) _).getD i aT= _
  rw[h2,List.append_assoc];rfl
theorem zV{lv rt:Int}{hi:ByteArray}{es:List EnD}{ps:List PgS}{i:Nat}(h:i<ps.length)(hl:es.length<=100):(doB ps (cD (i:Int) lv rt hi es)).getD i aT=(2,0,hdB lv rt false hi::itI lv es):=by
 rw[cD,eA]
 have h1:(bP ps ((i:Int),-1,strOfNums [2])).getD i aT=(2,0,[]):=by
  rw[j8 (decide_eq_true (by dsimp only;omega)) rfl];rfl
 have h2:(bP (bP ps ((i:Int),-1,strOfNums [2])) ((i:Int),0,hdB lv rt false hi)).getD i aT=(2,0,[hdB lv rt false hi]):=by
  rw[j8 (decide_eq_true (by rw[gg];dsimp only;omega)) rfl,h1];rfl
 exact wr h2 rfl (by omega) (by rw[gg,gg];exact h)
def nW(lv:Int):Nat->List EnD->List EnD
 |_,[]=>[]
 |k,e::l=>(e.1,k,if 0<lv then e.2.2 else -1)::nW lv (k+1) l
theorem vO{lv:Int}:∀{es:List EnD}{k:Nat},(∀e∈es,4<=e.1.size/\(0<lv->0<=e.2.2/\e.2.2<65536))->(bu k (itI lv es)).map (b8 lv)=nW lv k es/\(bu k (itI lv es)).any (cB lv)=false
 | [],_,_=>⟨rfl,rfl⟩
 |e::es,k,h=>by
  have he:=h e (by simp)
  have hz:(itB lv e.2.2 e.1).size≠0:=by have:=rV lv e.2.2 e.1;omega
  obtain⟨h1,h2⟩:=vO (es:=es) (k:=k+1) (fun y hy=>h y (by simp[hy]))
  rw[show itI lv (e::es)=itB lv e.2.2 e.1::itI lv es from rfl,kQ hz,List.map_cons,List.any_cons,qy he.2,qB he.1,h1,h2]
  exact⟨rfl,rfl⟩
theorem zz{lv rt:Int}{hi:ByteArray}{es:List EnD}(hlv:0<=lv/\lv<=255)(hrt: -1<=rt/\rt<=65534)(hhi:hi.size=0\/4<=hi.size)(h:∀e∈es,4<=e.1.size/\(0<lv->0<=e.2.2/\e.2.2<65536)):
  ∃n,cn 2 (hdB lv rt false hi::itI lv es)=some n/\n.lv=lv/\n.right=rt/\n.high=hi/\n.dead=false/\n.es.Perm (nW lv 1 es):=by
 obtain⟨h1,h2⟩:=vO (k:=1) h
 have e1:=wc (rt:=rt) (d:=false) (hi:=hi) hlv
 rw[go (vh hhi) (by rw[e1];exact h2)]
 refine⟨_,rfl,e1,wU hrt,v5 _ _ _ _,by dsimp only;rw[uT];rfl,?_⟩
 dsimp only
 rw[e1,<-h1]
 exact fw _ _
end
section
open Go.RowKit
def kv(e:EnD):ByteArray×Int:=(e.1,e.2.2)
def EL(a b:NoD):Prop:=a.lv=b.lv/\a.right=b.right/\a.high=b.high/\a.dead=b.dead
theorem gB{ps:List PgS}{x:Int}{n:NoD}(h:av ps x=some n):0<=x/\x<ps.length/\cn (ps.getD x.toNat aT).1 (ps.getD x.toNat aT).2.2=some n:=by
 unfold av at h
 split at h
 rename_i hx;exact⟨hx.1,hx.2,h⟩
 cases h
theorem rA{ps:List PgS}{x:Int}{n:NoD}(h0:0<=x)(h1:x<ps.length)(h:cn (ps.getD x.toNat aT).1 (ps.getD x.toNat aT).2.2=some n):av ps x=some n:=by rw[av,if_pos ⟨h0,h1⟩];exact h
theorem de{ps:List PgS}{L:List EdT}{x:Int}(h:∀e∈L,e.1≠x):av (doB ps L) x=av ps x:=by
 by_cases hx:0<=x
 unfold av
 rw[ct,iG fun e he=>by have:=h e he;omega]
 unfold av;rw[if_neg (by omega),if_neg (by omega)]
theorem ed1{ps:List PgS}{x s:Int}{y:ByteArray}(h0:0<=x)(h1:x<ps.length)(h2:0<=s)(h3:s<=100):(bP ps (x,s,y)).getD x.toNat aT=((ps.getD x.toNat aT).1,(ps.getD x.toNat aT).2.1,bO (ps.getD x.toNat aT).2.2 s.toNat y):=by
 rw[j8 (decide_eq_true (by dsimp only;omega)) (by dsimp only;omega),edP,if_neg (by dsimp only;omega)]
theorem rx:∀(l:List ByteArray) (i d:Nat),d=i+l.length->i<=cy i l d/\(l.getD (cy i l d-i) ByteArray.empty).size=0/\cy i l d<=i+l.countP nz
 | [],i,d,h=>by
   rw[cy,h]
   exact⟨Nat.le_add_right _ _,rfl,Nat.le_refl _⟩
 |x::l,i,d,h=>by
  rw[cy]
  by_cases hx:x.size=0
  rw[if_pos hx]
  exact⟨Nat.le_refl _,by rw[Nat.sub_self];exact hx,Nat.le_add_right _ _⟩
  rw[if_neg hx]
  obtain⟨h1,h2,h3⟩:=rx l (i+1) d (by rw[h,List.length_cons];omega)
  refine⟨by omega,?_,?_⟩
  rw[show cy (i+1) l d-i=(cy (i+1) l d-(i+1))+1 by omega,List.getD_cons_succ];exact h2
  rw[List.countP_cons_of_pos (by simp[nz,hx])];omega
theorem FD{k:Int}{its:List ByteArray}{n:NoD}(h:cn k its=some n):∃s,n.free=s+1/\(its.getD (s+1) ByteArray.empty).size=0/\s<=n.es.length:=by
 obtain⟨y,l,rfl,rfl,hok,rfl⟩:=d8 h
 obtain⟨h1,h2,h3⟩:=rx l 1 (l.length+1) (by omega)
 refine⟨cy 1 l (l.length+1)-1,by dsimp only;omega,?_,?_⟩
 rw[List.getD_cons_succ];exact h2
 dsimp only
 rw[mv,k9];omega
theorem uU{k:Int}{its:List ByteArray}{n:NoD}(h:cn k its=some n):(0<=n.lv/\n.lv<=255)/\(-1<=n.right/\n.right<=65534)/\(n.high.size=0\/4<=n.high.size)/\∀e∈n.es,(0<n.lv->0<=e.2.2/\e.2.2<65536)/\(¬ 0<n.lv->e.2.2= -1):=by
 obtain⟨y,l,rfl,rfl,hok,rfl⟩:=d8 h
 have num:∀(s:ByteArray) (p k:Nat),aK s p k<256^k:=fun s p k=>by have h:=yE (s.extract p (p+k)).data.toList;have h2:(s.extract p (p+k)).data.toList.length<=k:=by {have h4:(s.extract p (p+k)).size<=k:=by {rw[ByteArray.size_extract];omega};show (bl (s.extract p (p+k))).length<=k;rw[cK];exact h4};have h3:(256:Nat)^(s.extract p (p+k)).data.toList.length<=256^k:=Nat.pow_le_pow_right (by omega) h2;unfold aK;omega
 refine⟨⟨by dsimp only;omega,?_⟩,⟨by dsimp only;omega,?_⟩,?_,fun e he=>?_⟩
 have:=num y 0 1;dsimp only;omega
 have:=num y 2 2;dsimp only;omega
 dsimp only
 simp only[iW,Bool.and_eq_true,Bool.or_eq_true,decide_eq_true_eq] at hok
 rw[ByteArray.size_extract];omega
 obtain⟨⟨s,z⟩,hp,rfl⟩:∃p∈bu 1 l,e=b8 (aK y 0 1) p:=by
  obtain⟨p,hp,rfl⟩:=List.mem_map.1 ((fw _ _).mem_iff.1 he)
  exact⟨p,hp,rfl⟩
 dsimp only
 unfold b8
 by_cases hl:0<(aK y 0 1:Int)
 rw[if_pos hl]
 have:=num z (z.size-2) 2
 exact⟨fun _=>by dsimp only;omega,fun h=>absurd hl h⟩
 rw[if_neg hl];exact⟨fun h=>absurd h hl,fun _=>rfl⟩
theorem If{ps:List PgS}{pos kid:Int}{x:ByteArray}{n:NoD}(h:av ps pos=some n)(h8:n.es.length<=90)(hk:0<n.lv->0<=kid/\kid<65536)(h4:4<=x.size):
  ∃n',av (doB ps [(pos,(n.free:Int),itB n.lv kid x)]) pos=some n'/\EL n' n/\n'.es.Perm ((x,n.free,if 0<n.lv then kid else -1)::n.es):=by
 obtain⟨h0,h1,hn⟩:=gB h
 obtain⟨s,hs,hz,hl⟩:=FD hn
 obtain⟨n',h2,h3,h5,h6,h7,h8⟩:=DT hn hz hk h4
 refine⟨n',rA h0 (by rw[ct];exact h1) ?_,⟨h3,h5,h6,h7⟩,by rw[hs];exact h8⟩
 show cn ((bP ps (pos,(n.free:Int),itB n.lv kid x)).getD pos.toNat aT).1 ((bP ps (pos,(n.free:Int),itB n.lv kid x)).getD pos.toNat aT).2.2=some n'
 rw[ed1 h0 h1 (by omega) (by omega)]
 dsimp only
 rw[Int.toNat_natCast,hs];exact h2
theorem GA{ps:List PgS}{pos rt:Int}{d:Bool}{hi:ByteArray}{n:NoD}(h:av ps pos=some n)(hrt: -1<=rt/\rt<=65534)(hhi:hi.size=0\/4<=hi.size):
  av (doB ps [(pos,0,hdB n.lv rt d hi)]) pos=some ⟨n.lv,rt,hi,d,n.es,n.free⟩:=by
 obtain⟨h0,h1,hn⟩:=gB h
 refine rA h0 (by rw[ct];exact h1) ?_
 show cn ((bP ps (pos,0,hdB n.lv rt d hi)).getD pos.toNat aT).1 ((bP ps (pos,0,hdB n.lv rt d hi)).getD pos.toNat aT).2.2= _
 rw[ed1 h0 h1 (by omega) (by omega)]
 exact BO hn (uU hn).1.2 hrt hhi
theorem tP{ps:List PgS}{pos:Int}{n:NoD}{e:EnD}(h:av ps pos=some n)(hits:(ps.getD pos.toNat aT).2.2.length<=101)(he:e∈n.es):1<=e.2.1/\e.2.1<(ps.getD pos.toNat aT).2.2.length/\e.2.1<=100:=by
 obtain⟨_,_,_,h3⟩:=rM h
 obtain⟨h4,y,hy,_⟩:=h3 e he
 have:=(List.getElem?_eq_some_iff.1 hy).1
 exact⟨h4,this,by omega⟩
theorem wM{pos:Int}:∀{L R:List EnD}{ps:List PgS}{n:NoD},av ps pos=some n->(ps.getD pos.toNat aT).2.2.length<=101->n.es.Perm (L++R)->
  ∃n',av (doB ps (ba pos L)) pos=some n'/\EL n' n/\n'.es.Perm R
 | [],R,ps,n,h,_,hp=>⟨n,h,⟨rfl,rfl,rfl,rfl⟩,hp⟩
 |e::L,R,ps,n,h,hits,hp=>by
  obtain⟨h0,h1,hn⟩:=gB h
  have he:e∈n.es:=hp.mem_iff.2 (by simp)
  obtain⟨lj,y1,Rz⟩:=tP h hits he
  obtain⟨n1,h2,h3,h4,h5,h6,h7⟩:=Eg hn he
  have hg:(bP ps (pos,(e.2.1:Int),ByteArray.empty)).getD pos.toNat aT= _:=ed1 h0 h1 (by omega) (by omega)
  have hn1:av (bP ps (pos,(e.2.1:Int),ByteArray.empty)) pos=some n1:=by
   refine rA h0 (by rw[gg];exact h1) ?_
   rw[hg]
   dsimp only
   rw[Int.toNat_natCast];exact h2
  have hit1:((bP ps (pos,(e.2.1:Int),ByteArray.empty)).getD pos.toNat aT).2.2.length<=101:=by
   rw[hg]
   dsimp only
   rw[Int.toNat_natCast,jA];omega
  have g7:n1.es.Perm (L++R):=(List.perm_cons e).1 (h7.symm.trans hp)
  obtain⟨n2,h8,h9,h10⟩:=wM (L:=L) hn1 hit1 g7
  refine⟨n2,h8,?_,h10⟩
  obtain⟨a,b,c,d⟩:=h9
  exact⟨a.trans h3,b.trans h4,c.trans h5,d.trans h6⟩
theorem uv{lv:Int}:∀{es:List EnD}{k:Nat},(nW lv k es).map kv=es.map fun e=>(e.1,if 0<lv then e.2.2 else -1)
 | [],_=>rfl
 |e::l,k=>by rw[nW,List.map_cons,List.map_cons,uv];rfl
theorem qv{ps:List PgS}{pg lv rt:Int}{hi:ByteArray}{es:List EnD}(h0:0<=pg)(h1:pg<ps.length)(hlv:0<=lv/\lv<=255)(hrt: -1<=rt/\rt<=65534)(hhi:hi.size=0\/4<=hi.size)
  (h:∀e∈es,4<=e.1.size/\(0<lv->0<=e.2.2/\e.2.2<65536)/\(¬ 0<lv->e.2.2= -1)) (hl:es.length<=100):
  ∃n,av (doB ps (cD pg lv rt hi es)) pg=some n/\n.lv=lv/\n.right=rt/\n.high=hi/\n.dead=false/\(n.es.map kv).Perm (es.map kv):=by
 obtain⟨i,rfl⟩:=Int.eq_ofNat_of_zero_le h0
 have hp:=zV (ps:=ps) (lv:=lv) (rt:=rt) (hi:=hi) (es:=es) (i:=i) (by omega) hl
 obtain⟨n,h2,h3,h4,h5,h6,h7⟩:=zz (rt:=rt) (hi:=hi) (es:=es) hlv hrt hhi fun e he=>⟨(h e he).1,(h e he).2.1⟩
 refine⟨n,rA h0 (by rw[ct];exact h1) ?_,h3,h4,h5,h6,?_⟩
 show cn ((doB ps (cD (i:Int) lv rt hi es)).getD (Int.ofNat i).toNat aT).1 ((doB ps (cD (i:Int) lv rt hi es)).getD (Int.ofNat i).toNat aT).2.2= _
 rw[show (Int.ofNat i).toNat=i from rfl,hp];exact h2
 refine(h7.map kv).trans ?_
 rw[uv]
 refine List.Perm.of_eq (List.map_congr_left fun e he=>?_)
 have:=(h e he).2.2
 by_cases hc:0<lv
 rw[if_pos hc];rfl
 rw[if_neg hc,<-this hc];rfl
theorem HL{ps:List PgS}{pos pg:Int}{n:NoD}(h:av ps pos=some n)(hits:(ps.getD pos.toNat aT).2.2.length<=101)(h0:0<=pg)(h1:pg<ps.length)(hps:ps.length<=60000)(hne:pg≠pos)(hlen:n.es.length<=100)(hmid:4<=(cf n).size):
  (∃n1,av (doB ps (db pos n pg)) pg=some n1/\n1.lv=n.lv/\n1.right=n.right/\n1.high=n.high/\n1.dead=false/\(n1.es.map kv).Perm ((n.es.drop (n.es.length / 2)).map kv))/\
  (∃n2,av (doB ps (db pos n pg)) pos=some n2/\n2.lv=n.lv/\n2.right=pg/\n2.high=cf n/\n2.dead=false/\n2.es.Perm (n.es.take (n.es.length / 2)))/\
  ∀q,q≠pg->q≠pos->av (doB ps (db pos n pg)) q=av ps q:=by
 obtain⟨mI,g7,hn⟩:=gB h
 obtain⟨a1,a2,a3,a4⟩:=uU hn
 have hso:=me hn
 obtain⟨n1,f1,f2,f3,f4,f5,f6⟩:=qv (ps:=ps) (pg:=pg) (lv:=n.lv) (rt:=n.right) (hi:=n.high) (es:=eG n) h0 h1 a1 a2 a3 (fun e he=>⟨hso.2 e (List.mem_of_mem_drop he),a4 e (List.mem_of_mem_drop he)⟩) (by rw[eG,List.length_drop];omega)
 have hcl:∀e∈ba pos (eG n),e.1=pos:=fun e he=>by obtain⟨x,_,rfl⟩:=List.mem_map.1 he;rfl
 obtain⟨ps1,hps1⟩:∃z,doB ps (cD pg n.lv n.right n.high (eG n))=z:=⟨_,rfl⟩
 have hE:doB ps (db pos n pg)=doB (doB ps1 [(pos,0,hdB n.lv pg false (cf n))]) (ba pos (eG n)):=by rw[db,eA,eA,hps1]
 rw[hps1] at f1
 have hn1:av ps1 pos=some n:=by rw[<-hps1,de (fun e he=>by rw[ga e he];exact hne)];exact h
 have hit1:(ps1.getD pos.toNat aT).2.2.length<=101:=by
  rw[<-hps1,iG (fun e he=>by rw[ga e he];omega)];exact hits
 have hl1:ps1.length=ps.length:=by rw[<-hps1,ct]
 have hh:=GA (rt:=pg) (d:=false) (hi:=cf n) hn1 ⟨by omega,by omega⟩ (.inr hmid)
 have hit2:((doB ps1 [(pos,0,hdB n.lv pg false (cf n))]).getD pos.toNat aT).2.2.length<=101:=by
  show ((bP ps1 (pos,0,hdB n.lv pg false (cf n))).getD pos.toNat aT).2.2.length<=101
  rw[ed1 mI (by rw[hl1];exact g7) (by omega) (by omega)]
  dsimp only
  rw[jA]
  show max _ 1<=101
  omega
 obtain⟨n2,c1,⟨c2,c3,c4,c5⟩,c6⟩:=wM (L:=eG n) (R:=n.es.take (n.es.length / 2)) hh hit2 (by dsimp only;exact(List.Perm.of_eq (List.take_append_drop (n.es.length / 2) n.es).symm).trans List.perm_append_comm)
 rw[hE]
 refine⟨⟨n1,?_,f2,f3,f4,f5,f6⟩,⟨n2,c1,c2,c3,c4,c5,c6⟩,fun q hq1 hq2=>?_⟩
 rw[de (fun e he=>by rw[hcl e he];exact fun e=>hne e.symm),de (fun e he=>by rw[List.mem_singleton.1 he];exact fun e=>hne e.symm)];exact f1
 rw[de (fun e he=>by rw[hcl e he];exact fun e=>hq2 e.symm),de (fun e he=>by rw[List.mem_singleton.1 he];exact fun e=>hq2 e.symm),<-hps1,de (fun e he=>by rw[ga e he];exact fun e=>hq1 e.symm)]
theorem vz:∀{l:List ByteArray}{i:Nat},(∀k,(l.getD k ByteArray.empty).size=0)->bu i l=[]
 | [],_,_=>rfl
 |x::l,i,h=>by rw[j0 (x:=x) (h 0),vz fun k=>h (k+1)]
theorem uw(l:List ByteArray)(k j:Nat)(x:ByteArray):(bO l k x).getD j ByteArray.empty=if j=k then x else l.getD j ByteArray.empty:=by
 by_cases h:j=k
 subst h;rw[if_pos rfl,qK]
 rw[if_neg h,bO,List.getD_eq_getElem?_getD,List.getElem?_set_ne (fun e=>h e.symm),List.getD_eq_getElem?_getD]
 by_cases hj:j<l.length
 rw[List.getElem?_append_left hj]
 rw[List.getElem?_append_right (by omega),List.getElem?_eq_none (l:=l) (by omega)]
 cases hq:(List.replicate (k+1-l.length) ByteArray.empty)[j-l.length]? with
 |none=>rfl
 |some y=>rw[(List.mem_replicate.1 (List.mem_of_getElem? hq)).2];rfl
theorem yX{pos:Int}:∀{L:List EnD}{ps:List PgS},0<=pos->pos<ps.length->(∀e∈L,e.2.1<=100)->
  ((doB ps (ba pos L)).getD pos.toNat aT).1=(ps.getD pos.toNat aT).1/\∀k,((doB ps (ba pos L)).getD pos.toNat aT).2.2.getD k ByteArray.empty=if (∃e∈L,e.2.1=k) then ByteArray.empty else (ps.getD pos.toNat aT).2.2.getD k ByteArray.empty
 | [],ps,_,_,_=>⟨rfl,fun k=>by rw[if_neg (by simp)];rfl⟩
 |e::L,ps,h0,h1,h=>by
  have hg:(bP ps (pos,(e.2.1:Int),ByteArray.empty)).getD pos.toNat aT= _:=ed1 h0 h1 (by omega) (by have:=h e (by simp);omega)
  obtain⟨h2,h3⟩:=yX (L:=L) (ps:=bP ps (pos,(e.2.1:Int),ByteArray.empty)) h0 (by rw[gg];exact h1) fun x hx=>h x (by simp[hx])
  rw[hg] at h2 h3
  refine⟨h2,fun k=>(h3 k).trans ?_⟩
  dsimp only
  rw[Int.toNat_natCast,uw]
  by_cases hc:∃x∈L,x.2.1=k
  obtain⟨x,hx,hxk⟩:=hc
  rw[if_pos ⟨x,hx,hxk⟩,if_pos ⟨x,by simp[hx],hxk⟩]
  rw[if_neg hc]
  by_cases hk:k=e.2.1
  rw[if_pos hk,if_pos ⟨e,by simp,hk.symm⟩]
  rw[if_neg hk,if_neg]
  rintro⟨x,hx,hxk⟩
  rcases List.mem_cons.1 hx with rfl|hx
  exact hk hxk.symm
  exact hc ⟨x,hx,hxk⟩
theorem FC{k:Int}{its:List ByteArray}{n:NoD}(h:cn k its=some n){s:Nat}(hs:1<=s)(hz:(its.getD s ByteArray.empty).size≠0):∃e∈n.es,e.2.1=s:=by
 obtain⟨y,l,rfl,rfl,hok,rfl⟩:=d8 h
 have key:∀(l:List ByteArray) (i j:Nat),(l.getD j ByteArray.empty).size≠0->(i+j,l.getD j ByteArray.empty)∈bu i l:=by
  intro l
  induction l with
  |nil=>intro i j hj;exact absurd rfl hj
  |cons x l ih=>
   intro i j hj
   rw[bu]
   cases j with
   |zero=>
    have hx:x.size≠0:=hj
    rw[if_neg hx];exact List.mem_cons_self ..
   |succ j=>
    rw[List.getD_cons_succ] at hj |-
    have:=ih (i+1) j hj
    rw[show i+1+j=i+(j+1) by omega] at this
    split
    exact this
    exact List.mem_cons_of_mem _ this
 obtain⟨j,rfl⟩:∃j,s=j+1:=⟨s-1,by omega⟩
 rw[List.getD_cons_succ] at hz
 have hm:=key l 1 j hz
 rw[Nat.add_comm 1 j] at hm
 refine⟨b8 (aK y 0 1) (j+1,l.getD j ByteArray.empty),(fw _ _).mem_iff.2 (List.mem_map.2 ⟨_,hm,rfl⟩),?_⟩
 unfold b8;split<;>rfl
theorem jH:aF.size=4:=by decide
theorem FF{ps:List PgS}{pos pg:Int}{n:NoD}(h:av ps pos=some n)(hits:(ps.getD pos.toNat aT).2.2.length<=101)(h0:0<=pg)(h1:pg<ps.length)(hps:ps.length<=60000)(hne:pg≠pos)(hlen:n.es.length<=100)(hlv:n.lv<=254):
  (∃n1,av (doB ps (dj pos n pg)) pg=some n1/\n1.lv=n.lv/\n1.right= -1/\n1.high=ByteArray.empty/\n1.dead=false/\(n1.es.map kv).Perm (n.es.map kv))/\
  (∃n2,av (doB ps (dj pos n pg)) pos=some n2/\n2.lv=n.lv+1/\n2.right= -1/\n2.high=ByteArray.empty/\n2.dead=false/\n2.es.map kv=[(aF,pg)])/\
  ∀q,q≠pg->q≠pos->av (doB ps (dj pos n pg)) q=av ps q:=by
 obtain⟨mI,g7,hn⟩:=gB h
 obtain⟨a1,a2,a3,a4⟩:=uU hn
 have hso:=me hn
 obtain⟨n1,f1,f2,f3,f4,f5,f6⟩:=qv (ps:=ps) (pg:=pg) (lv:=n.lv) (rt:= -1) (hi:=ByteArray.empty) (es:=n.es) h0 h1 a1 ⟨by omega,by omega⟩ (.inl rfl) (fun e he=>⟨hso.2 e he,a4 e he⟩) hlen
 have hcl:∀e∈ba pos n.es,e.1=pos:=fun e he=>by obtain⟨x,_,rfl⟩:=List.mem_map.1 he;rfl
 obtain⟨ps1,hps1⟩:∃z,doB ps (cD pg n.lv (-1) ByteArray.empty n.es)=z:=⟨_,rfl⟩
 have hl1:ps1.length=ps.length:=by rw[<-hps1,ct]
 have hg1:ps1.getD pos.toNat aT=ps.getD pos.toNat aT:=by rw[<-hps1];exact iG fun e he=>by rw[ga e he];omega
 obtain⟨ps2,hps2⟩:∃z,doB ps1 [(pos,0,hdB (n.lv+1) (-1) false ByteArray.empty)]=z:=⟨_,rfl⟩
 have hl2:ps2.length=ps.length:=by rw[<-hps2,ct,hl1]
 have hg2:ps2.getD pos.toNat aT=((ps.getD pos.toNat aT).1,(ps.getD pos.toNat aT).2.1,bO (ps.getD pos.toNat aT).2.2 0 (hdB (n.lv+1) (-1) false ByteArray.empty)):=by
  rw[<-hps2]
  show (bP ps1 (pos,0,hdB (n.lv+1) (-1) false ByteArray.empty)).getD pos.toNat aT= _
  rw[ed1 mI (by rw[hl1];exact g7) (by omega) (by omega),hg1];rfl
 obtain⟨ps3,hps3⟩:∃z,doB ps2 (ba pos n.es)=z:=⟨_,rfl⟩
 have hl3:ps3.length=ps.length:=by rw[<-hps3,ct,hl2]
 obtain⟨g3,g4⟩:=yX (L:=n.es) (ps:=ps2) mI (by rw[hl2];exact g7) fun e he=>(tP h hits he).2.2
 rw[hps3,hg2] at g3 g4
 have hE:doB ps (dj pos n pg)=doB ps3 [(pos,1,itB 1 pg aF)]:=by rw[dj,eA,eA,eA,hps1,hps2,hps3]
 have hk2:(ps.getD pos.toNat aT).1=2:=(d8 hn).elim fun y hy=>hy.elim fun l hl=>hl.2.1
 obtain⟨its3,hi3⟩:∃z,(ps3.getD pos.toNat aT).2.2=z:=⟨_,rfl⟩
 rw[hi3] at g4
 dsimp only at g3 g4
 have hz0:its3.getD 0 ByteArray.empty=hdB (n.lv+1) (-1) false ByteArray.empty:=by
  rw[g4 0,if_neg,qK]
  rintro⟨e,he,hes⟩
  have:=(tP h hits he).1;omega
 have hzk:∀k,(its3.getD (k+1) ByteArray.empty).size=0:=fun k=>by
  rw[g4 (k+1)]
  by_cases hc:∃e∈n.es,e.2.1=k+1
  rw[if_pos hc];rfl
  rw[if_neg hc,uw,if_neg (by omega)]
  cases hq:decide (((ps.getD pos.toNat aT).2.2.getD (k+1) ByteArray.empty).size=0) with
  |true=>exact of_decide_eq_true hq
  |false=>exact absurd (FC hn (by omega) (of_decide_eq_false hq)) hc
 have hdz:(hdB (n.lv+1) (-1) false ByteArray.empty).size=4:=by rw[ir];rfl
 cases hit:its3 with
 |nil=>rw[hit] at hz0;have:=congrArg ByteArray.size hz0;rw[hdz] at this;exact absurd this (by decide)
 |cons y l=>
  rw[hit] at hz0 hzk
  have hy:y=hdB (n.lv+1) (-1) false ByteArray.empty:=hz0
  have hl:bu 1 l=[]:=vz fun k=>hzk k
  have hlz:(l.getD 0 ByteArray.empty).size=0:=hzk 0
  have e1:=wc (lv:=n.lv+1) (rt:= -1) (d:=false) (hi:=ByteArray.empty) ⟨by omega,by omega⟩
  have hiz:(itB 1 pg aF).size≠0:=by rw[rV,jH];decide
  have hpr:=jr hiz l 0 1 hlz
  rw[hl] at hpr
  have hpr:bu 1 (bO l 0 (itB 1 pg aF))=[(1,itB 1 pg aF)]:=List.perm_singleton.1 hpr
  have hpos:(0:Int)<n.lv+1:=by omega
  have hb:(bu 1 (bO l 0 (itB 1 pg aF))).any (cB (n.lv+1))=false:=by
   rw[hpr]
   have:cB 1 (1,itB 1 pg aF)=false:=qB (by rw[jH];decide)
   have e2:cB (n.lv+1) (1,itB 1 pg aF)=cB 1 (1,itB 1 pg aF):=by unfold cB;rw[if_pos hpos,if_pos (by decide)]
   simp[e2,this]
  have e3:b8 (n.lv+1) (1,itB 1 pg aF)=(aF,1,pg):=by
   have e4:b8 (n.lv+1) (1,itB 1 pg aF)=b8 1 (1,itB 1 pg aF):=by unfold b8;rw[if_pos hpos,if_pos (by decide)]
   rw[e4,qy (fun _=>⟨h0,by omega⟩),if_pos (by decide)]
  have hfin:cn 2 (bO its3 1 (itB 1 pg aF))=some ⟨n.lv+1,-1,ByteArray.empty,false,[(aF,1,pg)],cy 1 (bO l 0 (itB 1 pg aF)) ((bO l 0 (itB 1 pg aF)).length+1)⟩:=by
   rw[hit,lD,hy,go (vh (.inl rfl)) (by rw[e1];exact hb),e1,wU ⟨by omega,by omega⟩,v5,uT,hpr]
   simp only[srt,List.map_cons,List.map_nil,e3]
   rfl
  rw[hE]
  refine⟨⟨n1,?_,f2,f3,f4,f5,f6⟩,⟨⟨n.lv+1,-1,ByteArray.empty,false,[(aF,1,pg)],cy 1 (bO l 0 (itB 1 pg aF)) ((bO l 0 (itB 1 pg aF)).length+1)⟩,rA mI (by rw[ct,hl3];exact g7) ?_,rfl,rfl,rfl,rfl,rfl⟩,fun q hq1 hq2=>?_⟩
  rw[de (fun e he=>by rw[List.mem_singleton.1 he];exact fun e=>hne e.symm),<-hps3,de (fun e he=>by rw[hcl e he];exact fun e=>hne e.symm),<-hps2,de (fun e he=>by rw[List.mem_singleton.1 he];exact fun e=>hne e.symm),<-hps1];exact f1
  show cn ((bP ps3 (pos,1,itB 1 pg aF)).getD pos.toNat aT).1 ((bP ps3 (pos,1,itB 1 pg aF)).getD pos.toNat aT).2.2= _
  rw[ed1 mI (by rw[hl3];exact g7) (by omega) (by omega),g3,hk2,hi3]
  exact hfin
  rw[de (fun e he=>by rw[List.mem_singleton.1 he];exact fun e=>hq2 e.symm),<-hps3,de (fun e he=>by rw[hcl e he];exact fun e=>hq2 e.symm),<-hps2,de (fun e he=>by rw[List.mem_singleton.1 he];exact fun e=>hq2 e.symm),<-hps1,de (fun e he=>by rw[ga e he];exact fun e=>hq1 e.symm)]
end
section
open Go.RowKit
def gN(es:List EnD)(pg rt:Int)(j:Nat):Bool:=((es.getD j en0).2.2==pg)&&((es.getD (j+1) en0).2.2==rt)
def gM(m:NoD)(pg rt:Int):Option Nat:=if m.dead then none else (List.range (m.es.length-1)).find? (gN m.es pg rt)
def iN(L:List (Int×NoD))(pg rt:Int):Option (Nat×Nat):=(List.range L.length).findSome? fun i=>(gM (L.getD i (0,cg)).2 pg rt).map fun j=>(i,j)
theorem Bq{p:Nat->Bool}{n j:Nat}(hj:j<n)(h0:∀k<j,p k=false)(h1:p j=true):(List.range n).find? p=some j:=by
 rw[List.find?_range_eq_some]
 exact⟨h1,List.mem_range.2 hj,fun k hk=>by rw[h0 k hk];rfl⟩
theorem GH{p:Nat->Bool}{n:Nat}(h0:∀k<n,p k=false):(List.range n).find? p=none:=by
 rw[List.find?_eq_none]
 intro k hk
 rw[h0 k (List.mem_range.1 hk)];decide
theorem yi{α:Type}{f:Nat->Option α}{n:Nat}(h0:∀k<n,f k=none):(List.range n).findSome? f=none:=by
 rw[List.findSome?_eq_none_iff]
 exact fun k hk=>h0 k (List.mem_range.1 hk)
theorem AJ{α:Type}{f:Nat->Option α}{n i:Nat}{a:α}(hi:i<n)(h0:∀k<i,f k=none)(h1:f i=some a):(List.range n).findSome? f=some a:=by
 rw[List.findSome?_eq_some_iff]
 refine⟨List.range i,i,(List.range (n-(i+1))).map (·+(i+1)),?_,h1,fun k hk=>h0 k (List.mem_range.1 hk)⟩
 apply List.ext_getElem
 simp;omega
 intro k h2 h3
 simp only[List.getElem_range]
 rcases Nat.lt_trichotomy k i with h|h|h
 rw[List.getElem_append_left (by simpa using h)];simp
 subst h;rw[List.getElem_append_right (by simp)];simp
 rw[List.getElem_append_right (by simp;omega)]
 simp only[List.length_range]
 rw[List.getElem_cons,dif_neg (by omega)]
 simp;omega
theorem C4{L:List (Int×NoD)}{pg rt:Int}{i j:Nat}(h:iN L pg rt=some (i,j)):i<L.length/\(L.getD i (0,cg)).2.dead=false/\j+1<(L.getD i (0,cg)).2.es.length/\gN (L.getD i (0,cg)).2.es pg rt j=true:=by
 obtain⟨k,hk,hf⟩:=List.exists_of_findSome?_eq_some h
 have hk:=List.mem_range.1 hk
 cases hm:gM (L.getD k (0,cg)).2 pg rt with
 |none=>rw[hm] at hf;cases hf
 |some q=>
  rw[hm] at hf
  injection hf with hf
  injection hf with h1 h2
  subst h1 h2
  unfold gM at hm
  split at hm
  cases hm
  rename_i hd
  have h2:=List.find?_some hm
  have h3:=List.mem_range.1 (List.mem_of_find?_eq_some hm)
  exact⟨hk,by simpa using hd,by omega,h2⟩
def eCX(SA:Option Addr)(xs:List YnD)(fp:List Nat):Ent:=⟨fp,fun W=>(∀ad,SA=some ad->ad.block∈fp)/\At W SA (xs.flatMap ynC)/\∀y∈xs,(∀ad,y.2.2.1=some ad->ad.block∈fp)/\At W y.2.2.1 (y.1.es.flatMap enC)⟩
theorem GC(SA:Option Addr)(xs:List YnD)(fp:List Nat):(eCX SA xs fp).loc:=fun W W' hk h=>⟨h.1,eC h.2.1 fun ad e _=>hk _ (h.1 ad e),fun y hy=>⟨(h.2.2 y hy).1,eC (h.2.2 y hy).2 fun ad e _=>hk _ ((h.2.2 y hy).1 ad e)⟩⟩
theorem St.openCL{w W:World}{bor:List Nat}{SA:Option Addr}{L:List (Int×NoD)}{fp:List Nat}{R:List Ent}(h:St w bor (eCL SA L fp::R) W):∃xs:List YnD,xs.map pgN=L/\St w bor (eCX SA xs fp::R) W:=by
 have h1:=h.ok (eCL SA L fp) (by simp)
 obtain⟨xs,hx,h2⟩:=h1.holds
 refine⟨xs,hx,h.upd,fun e he=>?_,List.pairwise_cons.2 ⟨fun e he=>(List.pairwise_cons.1 h.apart).1 e he,(List.pairwise_cons.1 h.apart).2⟩⟩
 rcases List.mem_cons.1 he with rfl|he
 exact⟨h2,GC _ _ _,h1.own⟩
 exact h.ok e (by simp[he])
def ev(ab:List (Int×NoD))(root:Int)(n:Int×NoD):Option (Nat×Nat):=if decide (0<(n.2.es.length:Int))||(n.1==root)||n.2.dead then none else iN ab n.1 n.2.right
def unE(ah:Option (Int×NoD))(n m:Int×NoD)(j:Nat):List EdT:=
 ([(m.1,((m.2.es.getD j en0).2.1:Int),itB m.2.lv n.2.right (m.2.es.getD j en0).1),(m.1,((m.2.es.getD (j+1) en0).2.1:Int),ByteArray.empty)]:List EdT)++(match ah with|none=>([]:List EdT)|some a=>[(a.1,(0:Int),hdB a.2.lv n.2.right a.2.dead a.2.high)])++([(n.1,(0:Int),hdB n.2.lv n.2.right true n.2.high)]:List EdT)
def fu(ab:List (Int×NoD))(root:Int):Option (Int×NoD)->List (Int×NoD)->List EdT×Int×Int
 |_,[]=>([],-1,-1)
 |ah,n::l=>match ev ab root n with
  |none=>fu ab root (some n) l
  |some (i,j)=>(unE ah n (ab.getD i (0,cg)) j,n.1,n.2.right)
def oI(ps:List PgS)(root:Int):List EdT×Int×Int:=fu (bo ps root 1) root none (bo ps root 0)
def ahd(ah:Option (Int×NoD))(pre:List (Int×NoD)):Option (Int×NoD):=match pre.getLast? with|some a=>some a|none=>ah
theorem kN{ab:List (Int×NoD)}{root:Int}:∀{pre r:List (Int×NoD)}{ah:Option (Int×NoD)},(∀y∈pre,ev ab root y=none)->fu ab root ah (pre++r)=fu ab root (ahd ah pre) r
 | [],_,_,_=>rfl
 |n::pre,r,ah,h=>by
  rw[List.cons_append,fu,h n (by simp)]
  dsimp only
  rw[kN fun y hy=>h y (by simp[hy])]
  congr 1
  unfold ahd
  cases pre with
  |nil=>rfl
  |cons a l=>rw[List.getLast?_cons_cons];cases h2:(a::l).getLast? with
   |none=>simp at h2
   |some b=>rfl
theorem yg{ab:List (Int×NoD)}{root:Int}{ah:Option (Int×NoD)}{n:Int×NoD}{l:List (Int×NoD)}{i j:Nat}(h:ev ab root n=some (i,j)):fu ab root ah (n::l)=(unE ah n (ab.getD i (0,cg)) j,n.1,n.2.right):=by rw[fu,h]
def ynV(y:YnD):Value:= .agg #[.int .i64 y.2.1,.int .i64 y.1.lv,.int .i64 y.1.right,.string y.1.high,.bool y.1.dead,.slice y.2.2.1 y.1.es.length y.2.2.2,.int .i64 ((y.1.free:Int))]
def tM(xs:List YnD)(pg rt:Int):Value:=match iN (xs.map pgN) pg rt with
 |none=> .tuple #[kn0 0,.int .i64 0,.bool false]
 |some (i,j)=> .tuple #[ynV (xs.getD i yn0),.int .i64 (j:Int),.bool true]
theorem EM{xs:List YnD}{pg rt:Int}{i j:Nat}(h:iN (xs.map pgN) pg rt=some (i,j)):tM xs pg rt= .tuple #[ynV (xs.getD i yn0),.int .i64 (j:Int),.bool true]:=by rw[tM,h]
theorem BD{xs:List YnD}{pg rt:Int}(h:iN (xs.map pgN) pg rt=none):tM xs pg rt= .tuple #[kn0 0,.int .i64 0,.bool false]:=by rw[tM,h]
theorem Ga{xs:List YnD}{pg rt:Int}{i j:Nat}(hi:i<xs.length)(h0:∀k<i,gM (xs.getD k yn0).1 pg rt=none)(hd:(xs.getD i yn0).1.dead=false)(hj:j+1<(xs.getD i yn0).1.es.length)(h1:∀k<j,gN (xs.getD i yn0).1.es pg rt k=false)(h2:gN (xs.getD i yn0).1.es pg rt j=true):iN (xs.map pgN) pg rt=some (i,j):=by
 refine AJ (i:=i) (by rw[List.length_map];exact hi) (fun k hk=>?_) ?_
 rw[ci];show (gM (xs.getD k yn0).1 pg rt).map _=none;rw[h0 k hk];rfl
 rw[ci];show (gM (xs.getD i yn0).1 pg rt).map _= _
 rw[gM,if_neg (by rw[hd];decide),Bq (j:=j) (by omega) h1 h2];rfl
theorem Fx{xs:List YnD}{pg rt:Int}(h0:∀k<xs.length,gM (xs.getD k yn0).1 pg rt=none):iN (xs.map pgN) pg rt=none:=by
 refine yi fun k hk=>?_
 rw[List.length_map] at hk
 rw[ci];show (gM (xs.getD k yn0).1 pg rt).map _=none;rw[h0 k hk];rfl
theorem yP{m:NoD}{pg rt:Int}{j:Nat}(h1:∀k<j,gN m.es pg rt k=false)(hj:¬((j:Int)+1<(m.es.length:Int))\/m.dead=true):gM m pg rt=none:=by
 unfold gM;split
 rfl
 rename_i hd
 rcases hj with hj|hj
 exact GH fun k hk=>h1 k (by omega)
 exact absurd hj hd
theorem pI{p:Nat->Prop}{i:Nat}(h:∀k<i,p k)(hi:p i):∀k<i+1,p k:=fun k hk=>by
 rcases Nat.lt_or_ge k i with h1|h1
 exact h k h1
 rwa [show k=i by omega]
theorem Dk(SA:Option Addr)(sc:Nat)(xs:List YnD)(pg lv rt fr:Int)(hg:ByteArray)(dd:Bool)(EA:Option Addr)(en ec:Nat)(w:World)(hS:At w SA (xs.flatMap ynC))(hR:∀y∈xs,At w y.2.2.1 (y.1.es.flatMap enC))(hN:∀y∈xs,y.1.es.length<=100)(hxl:xs.length<=1000):
  Calls Tryz.prog 60 #[.slice SA xs.length sc,.agg #[.int .i64 pg,.int .i64 lv,.int .i64 rt,.string hg,.bool dd,.slice EA en ec,.int .i64 fr]] w (Ret (tM xs pg rt) w):=by
 go_enter Tryz.func60,Tryz.ntmps60
 have ar:=St.start w
 refine wp_seq (sqr ?_)
 refine bZ #[vi pg,vi lv,vi rt,.string hg,.bool dd,.slice EA en ec,vi fr] ar fun dK W1 aE=>?_
 refine bF #[vi 0,vi 0,vi 0,.string ByteArray.empty,.bool false,.slice none 0 0,vi 0] aE fun t4 W2 aN=>?_
 refine sqp [.k 5 (vi 0),.k 6 (.bool false)] ?_
 refine aa (wp_seq (wp_seq (sqr (sqp [.m 10 0,.k 11 (vi ((xs.length:Int))),.k 12 (vi 0)] ?_))))
 refine aa (wp_block ?_)
 refine aL (fun t_ mz az W=>∃i:Nat,i<=xs.length/\(∀k<i,gM (xs.getD k yn0).1 pg rt=none)/\mz=xs.length-i/\az=⟨(ovr (jv az) [(5,5,2,[]),(1,8,2,[]),(2,12,0,[vi ((i:Int))]),(0,13,40,[])] t_).toArray,[]⟩/\St w [] [eB dK 84 #[vi pg,vi lv,vi rt,.string hg,.bool dd,.slice EA en ec,vi fr],eB t4 84 #[vi 0,vi 0,vi 0,.string ByteArray.empty,.bool false,.slice none 0 0,vi 0]] W) (xs.length-0) ?_ ?_
 exact⟨0,Nat.zero_le _,(fun k hk=>absurd hk (Nat.not_lt_zero k)),rfl,(by kernel_rfl),aN.pk [0,1]⟩
 rintro n8 a8 W8 ⟨i,hi,hno,rfl,hj_,bj⟩
 refine ovz hj_ fun Iz=>?_
 refine wp_seq (sqr (sqp [.k 13 (.bool (decide ((i:Int)<(xs.length:Int))))] ?_))
 refine aa (wp_seq (wds (fun ey fT=>?_) fun ey fT=>?_))
 ·refine wp_skip (aa (wp_seq (wp_block (wp_seq ?_))))
  obtain⟨y_,hy_⟩:∃z,xs[i]? =some z:=⟨_,jY (by omega)⟩
  have hym_:=List.mem_of_getElem? hy_
  have hRy:=hR y_ hym_
  have hN1:=hN y_ hym_
  have hgd:xs.getD i yn0=y_:=by rw[List.getD_eq_getElem?_getD,hy_];rfl
  refine sqr ?_
  refine sql (.pointer (some ((ad SA).add (i*7)))) bj (fun cx=>aH (e:=84) (m:=i) (sz:=7) rfl (by kernel_rfl) (by kernel_rfl) (cx.ou 10) (cx.ou 12) (by omega) (by omega) (hS.ext cx.upd.to_ext) (bq (sz:=7) fL (by decide) (by omega))) ?_
  refine sql (.agg #[vi y_.2.1,vi y_.1.lv,vi y_.1.right,.string y_.1.high,.bool y_.1.dead,.slice y_.2.2.1 y_.1.es.length y_.2.2.2,vi ((y_.1.free:Int))]) bj (fun cx=>aZ (f:=ynC) (m:=i) (sz:=7) (off:=0) (n:=7) rfl (by kernel_rfl) (by kernel_rfl) (cx.ou 14) rfl fL (hS.ext cx.upd.to_ext) hy_ (fun k hk=>match k,hk with|0,_=>rfl|1,_=>rfl|2,_=>rfl|3,_=>rfl|4,_=>rfl|5,_=>rfl|6,_=>rfl|k+7,hk=>absurd hk (by omega))) ?_
  refine bF #[vi 0,vi 0,vi 0,.string ByteArray.empty,.bool false,.slice none 0 0,vi 0] bj fun nL lk bH=>?_
  refine aD (n:=7) 2 #[vi y_.2.1,vi y_.1.lv,vi y_.1.right,.string y_.1.high,.bool y_.1.dead,.slice y_.2.2.1 y_.1.es.length y_.2.2.2,vi ((y_.1.free:Int))] bH fun kb bm=>?_
  refine aa (wp_seq (sqr (sqp [.k 9 (vi 0)] ?_)))
  refine aa (wp_block ?_)
  refine aL (fun t_ mz az W=>∃j:Nat,j<=y_.1.es.length/\(∀k<j,gN y_.1.es pg rt k=false)/\mz=y_.1.es.length-j/\az=⟨(ovr (jv az) [(5,5,2,[]),(2,9,0,[vi ((j:Int))]),(6,16,36,[])] t_).toArray,[]⟩/\St w [] [eB dK 84 #[vi pg,vi lv,vi rt,.string hg,.bool dd,.slice EA en ec,vi fr],eB t4 84 #[vi 0,vi 0,vi 0,.string ByteArray.empty,.bool false,.slice none 0 0,vi 0],eB nL 84 #[vi y_.2.1,vi y_.1.lv,vi y_.1.right,.string y_.1.high,.bool y_.1.dead,.slice y_.2.2.1 y_.1.es.length y_.2.2.2,vi ((y_.1.free:Int))]] W) (y_.1.es.length-0) ?_ ?_
  exact⟨0,Nat.zero_le _,(fun k hk=>absurd hk (Nat.not_lt_zero k)),rfl,(by kernel_rfl),bm.pk [0,1,2]⟩
  rintro OM a16 nS ⟨j,hj,hnj,rfl,hj_,bM⟩
  refine ovz hj_ fun Nb=>?_
  refine wp_seq (wp_seq (sqr (sqp [.m 16 9,sI 17 ((j:Int)+1) (by omega),.k 18 (.pointer (some ⟨nL,5,none⟩))] ?_)))
  refine am 2 bM ?_
  refine sqp [.k 20 (vi ((y_.1.es.length:Int))),.k 21 (.bool (decide ((j:Int)+1<(y_.1.es.length:Int)))),.m 22 21] ?_
  refine cv 22 [23,24,25] ?_ rfl (fun hq=>?_) ?_
  rotate_left
  refine sqp [.k 23 (.pointer (some ⟨nL,4,none⟩))] ?_
  refine am 2 bM ?_
  refine sqp [.k 25 (.bool (!(y_.1.dead)))] ?_
  exact sqe
  refine bQ ?_
  refine sqp [sPa 26 (decide ((j:Int)+1<(y_.1.es.length:Int))) (!(y_.1.dead))] ?_
  refine aa (wbs (fun Aw=>?_) fun Aw=>?_)
  have vb:=Aw
  simp only[zB] at vb
  obtain⟨Pt,Ke⟩:=vb
  refine wp_skip (aa (wp_seq (wp_block (wp_seq (br [0,1,0,7,15,31,0,64,255,511,1023,2047,1023,5119,16383,32767,65535,1023,132095,524287,1048575] [[],[2],[],[],[],[],[],[0],[],[],[],[2],[],[],[],[],[],[],[0]] [.k 29 (.pointer (some ⟨nL,5,none⟩)),.c 30 (.slice y_.2.2.1 y_.1.es.length y_.2.2.2),.k 31 (vi ((j:Int))),.c 32 (.pointer (some ((ad y_.2.2.1).add (j*3)))),.c 33 (.pointer (some ((ad y_.2.2.1).add (j*3+2)))),.c 34 (vi ((y_.1.es.getD j en0).2.2)),.k 35 (vp dK),.c 36 (vi pg),.k 37 (.bool (((y_.1.es.getD j en0).2.2)==pg)),.k 38 (.bool (((y_.1.es.getD j en0).2.2)==pg)),.z 39 (((y_.1.es.getD j en0).2.2)==pg) (.pointer (some ⟨nL,5,none⟩)),.y 40 (((y_.1.es.getD j en0).2.2)==pg) (.slice y_.2.2.1 y_.1.es.length y_.2.2.2),.z 41 (((y_.1.es.getD j en0).2.2)==pg) (vi ((j:Int))),.y 42 (((y_.1.es.getD j en0).2.2)==pg) (vi ((j:Int)+1)),.y 43 (((y_.1.es.getD j en0).2.2)==pg) (.pointer (some ((ad y_.2.2.1).add ((j+1)*3)))),.y 44 (((y_.1.es.getD j en0).2.2)==pg) (.pointer (some ((ad y_.2.2.1).add ((j+1)*3+2)))),.y 45 (((y_.1.es.getD j en0).2.2)==pg) (vi ((y_.1.es.getD (j+1) en0).2.2)),.z 46 (((y_.1.es.getD j en0).2.2)==pg) (.pointer (some ⟨dK,2,none⟩)),.y 47 (((y_.1.es.getD j en0).2.2)==pg) (vi rt),.z 48 (((y_.1.es.getD j en0).2.2)==pg) (.bool (((y_.1.es.getD (j+1) en0).2.2)==rt)),tA 49 (((y_.1.es.getD j en0).2.2)==pg) (((y_.1.es.getD (j+1) en0).2.2)==rt)] [0,1,2] [1,3,4,5,7,11,13,14,15,16,18] [(29,0,21,50)] bM ?_ fun Ci dO=>?_)))))
  refine⟨?_,?_,?_,?_,?_,?_,?_,?_,?_,?_,?_,trivial⟩
  exact xs4 rfl id fun cx=>ae rfl (by kernel_rfl) (cx.an 0) ((cx.bi 2 rfl).cell 5)
  exact xs4 rfl id fun cx=>aH (e:=89) (m:=j) (sz:=3) rfl (by kernel_rfl) (by kernel_rfl) (cx.an 1) (cx.an 2) (by omega) (by omega) (hRy.ext cx.upd.to_ext) (bq (sz:=3) aQ (by decide) (by omega))
  exact xs4 rfl id fun cx=>dZ rfl (by kernel_rfl) (cx.an 3)
  exact xs4 rfl id fun cx=>ae rfl (by kernel_rfl) (cx.an 4) (At.eltc (f:=enC) (k:=2) aQ (hRy.ext cx.upd.to_ext) (cR (by omega)) rfl)
  exact xs4 rfl id fun cx=>ae rfl (by kernel_rfl) (cx.an 6) ((cx.bi 0 rfl).cell 0)
  exact m2 rfl (fun _ _ _ h=>h) (fun cx=>(cx.an 9)) fun cx hq=>ae rfl (by kernel_rfl) (mbv (cx.an 10) hq) ((cx.bi 2 rfl).cell 5)
  exact m2 rfl (fun _ _ _ h=>h) (fun cx=>(cx.an 9)) fun cx hq=>ji rfl (mbv (cx.an 12) hq) (cx.co _) (congrArg (fun z=>some (Value.int .i64 z)) ((IntWalk.i64_in _ (by have hq_:=hq;simp only[zB] at hq_;omega)).trans (by have hq_:=hq;simp only[zB] at hq_;omega)))
  exact m2 rfl (fun _ _ _ h=>h) (fun cx=>(cx.an 9)) fun cx hq=>aH (e:=89) (m:=j+1) (sz:=3) rfl (by kernel_rfl) (by kernel_rfl) (mbv (cx.an 11) hq) (mbv (cx.an 13) hq) (by have hq_:=hq;simp only[zB] at hq_;omega) (by have hq_:=hq;simp only[zB] at hq_;omega) (hRy.ext cx.upd.to_ext) (bq (sz:=3) aQ (by decide) (by have hq_:=hq;simp only[zB] at hq_;omega))
  exact m2 rfl (fun _ _ _ h=>h) (fun cx=>(cx.an 9)) fun cx hq=>dZ rfl (by kernel_rfl) (mbv (cx.an 14) hq)
  exact m2 rfl (fun _ _ _ h=>h) (fun cx=>(cx.an 9)) fun cx hq=>ae rfl (by kernel_rfl) (mbv (cx.an 15) hq) (At.eltc (f:=enC) (k:=2) aQ (hRy.ext cx.upd.to_ext) (cR (by have hq_:=hq;simp only[zB] at hq_;omega)) rfl)
  exact m2 rfl (fun _ _ _ h=>h) (fun cx=>(cx.an 9)) fun cx hq=>ae rfl (by kernel_rfl) (mbv (cx.an 17) hq) ((cx.bi 0 rfl).cell 2)
  refine aa (wbs (fun gW=>?_) fun gW=>?_)
  have kI:=gW
  simp only[zB] at kI
  obtain⟨Kf,Kg⟩:=kI
  refine wp_seq (sqr ?_)
  refine dz 2 7 dO ?_
  refine sqp [.m 51 9] ?_
  refine aD (n:=7) 1 #[vi y_.2.1,vi y_.1.lv,vi y_.1.right,.string y_.1.high,.bool y_.1.dead,.slice y_.2.2.1 y_.1.es.length y_.2.2.2,vi ((y_.1.free:Int))] dO fun Fb fV=>?_
  refine sqp [.m 5 51,.k 6 (.bool true)] ?_
  refine aa (wp_ret (aq (af (af (aq (aq (af (af (aq (af ?_))))))))))
  refine bpr (.tuple #[.agg #[vi y_.2.1,vi y_.1.lv,vi y_.1.right,.string y_.1.high,.bool y_.1.dead,.slice y_.2.2.1 y_.1.es.length y_.2.2.2,vi ((y_.1.free:Int))],vi ((j:Int)),.bool true]) (b9 Tryz.results60 (rpa (fV.blk 1 rfl) 0 7) rpt rpt) ?_
  exact Ret.of (by rw[EM (Ga (i:=i) (j:=j) (by omega) hno (by rw[hgd];have h_:=Ke;simpa using h_) (by rw[hgd];omega) (by rw[hgd];exact hnj) (by rw[hgd,gN];exact gW)),hgd];rfl) fV.ext
  have kI:=gW
  simp only[zB] at kI
  refine wp_skip (ax (aa (sqr (sqp [.m 27 9,sI 28 ((j:Int)+1) (by omega),.m 9 28] ?_))))
  refine aa ?_
  refine⟨y_.1.es.length-((j+1)),by omega,?_⟩
  exact⟨(j+1),by omega,pI hnj (show gN y_.1.es pg rt j=false from by rw[gN];exact gW),rfl,(by kernel_rfl),dO.pk [0,1,2]⟩
  have vb:=Aw
  simp only[zB] at vb
  refine wp_exit (aj (aj (aO (ax (aa (sqr (sqp [sI 52 ((i:Int)+1) (by omega),.m 12 52] ?_)))))))
  refine aa ?_
  have hend_:¬((j:Int)+1<(y_.1.es.length:Int))\/y_.1.dead=true:=by have h_:=Aw;simp only[zB] at h_;simpa using h_
  refine⟨xs.length-((i+1)),by omega,?_⟩
  exact⟨(i+1),by omega,pI hno (by rw[hgd];exact yP hnj hend_),rfl,(by kernel_rfl),bM.pk [0,1]⟩
 refine wp_exit (aj (aj (aO (aa (wp_seq (sqr (sqp [.k 53 (.agg #[vi 0,vi 0,vi 0,.string ByteArray.empty,.bool false,.slice none 0 0,vi 0])] ?_)))))))
 refine aD (n:=7) 1 #[vi 0,vi 0,vi 0,.string ByteArray.empty,.bool false,.slice none 0 0,vi 0] bj fun y4 dl=>?_
 refine sqp [.k 5 (vi 0),.k 6 (.bool false)] ?_
 refine aa (wp_ret ?_)
 refine bpr (.tuple #[.agg #[vi 0,vi 0,vi 0,.string ByteArray.empty,.bool false,.slice none 0 0,vi 0],vi 0,.bool false]) (b9 Tryz.results60 (rpa (dl.blk 1 rfl) 0 7) rpt rpt) ?_
 exact Ret.of (by rw[BD (Fx fun k hk=>hno k (by omega))];rfl) dl.ext
theorem BZ{SA:Option Addr}{sc:Nat}{xs:List YnD}{fp:List Nat}{pg lv rt fr:Int}{hg:ByteArray}{dd:Bool}{EA:Option Addr}{en ec:Nat}{w:World}(h:(eCX SA xs fp).holds w)(hN:∀y∈xs,NdOk y.1)(hxl:xs.length<=1000):
  Calls Tryz.prog 60 #[.slice SA xs.length sc,.agg #[.int .i64 pg,.int .i64 lv,.int .i64 rt,.string hg,.bool dd,.slice EA en ec,.int .i64 fr]] w (Ret (tM xs pg rt) w):=
 Dk SA sc xs pg lv rt fr hg dd EA en ec w h.2.1 (fun y hy=>(h.2.2 y hy).2) (fun y hy=>(hN y hy).len) hxl
theorem vg{v v':Value}{f:FuncId}{args:Array Value}{w:World}(h:v=v')(hc:Calls Tryz.prog f args w (Ret v w)):Calls Tryz.prog f args w (Ret v' w):=h ▸ hc
theorem yN{ab:List (Int×NoD)}{root:Int}{n:Int×NoD}(h:iN ab n.1 n.2.right=none):ev ab root n=none:=by unfold ev;split<;>first|rfl|exact h
theorem vl{ab:List (Int×NoD)}{root:Int}{n:Int×NoD}(h:(decide (0<(n.2.es.length:Int))||(n.1==root)||n.2.dead)=true):ev ab root n=none:=if_pos h
theorem pC{ab:List (Int×NoD)}{root:Int}{n:Int×NoD}{q:Nat×Nat}(h:(decide (0<(n.2.es.length:Int))||(n.1==root)||n.2.dead)=false)(h2:iN ab n.1 n.2.right=some q):ev ab root n=some q:=by unfold ev;rw[if_neg (by rw[h];decide)];exact h2
theorem yV{ab:List (Int×NoD)}{root:Int}{pre:List YnD}{xx:YnD}(h:∀y∈pre.map pgN,ev ab root y=none)(hx:ev ab root (pgN xx)=none):∀y∈(pre++[xx]).map pgN,ev ab root y=none:=fun y hy=>by
 rw[List.map_append] at hy
 rcases List.mem_append.1 hy with hy|hy
 exact h y hy
 rw[List.map_singleton,List.mem_singleton] at hy;subst hy;exact hx
theorem wa(pre:List YnD)(xx:YnD):ahd none ((pre++[xx]).map pgN)=some (pgN xx):=by simp[ahd]
theorem BQ{ab r:List (Int×NoD)}{root:Int}{pre:List YnD}{xx:YnD}{i j:Nat}(h:∀y∈pre.map pgN,ev ab root y=none)(hx:ev ab root (pgN xx)=some (i,j)):fu ab root none ((pre++[xx]).map pgN++r)=(unE (ahd none (pre.map pgN)) (pgN xx) (ab.getD i (0,cg)) j,xx.2.1,xx.1.right):=by
 rw[List.map_append,List.append_assoc,kN h];exact yg hx
def ru(r:List EdT×Int×Int)(w:World)(e:Ending)(w':World):Prop:=∃A c,e= .returned (.tuple #[.slice A r.1.length c,.int .i64 r.2.1,.int .i64 r.2.2])/\St w [] [eO 67 3 (.slice A r.1.length c) r.1.length (r.1.flatMap edC)] w'
theorem BG{w W:World}{A:Option Addr}{c:Nat}{O:List EdT}{lf rt:Int}{r:List EdT×Int×Int}(h:r=(O,lf,rt))(hs:St w [] [eO 67 3 (.slice A O.length c) O.length (O.flatMap edC)] W):ru r w (.returned (.tuple #[.slice A O.length c,.int .i64 lf,.int .i64 rt])) W:=by subst h;exact⟨A,c,rfl,hs⟩
theorem HM:NdOk cg:=⟨by decide,by decide,by decide,by decide,(fun e he=>absurd he (by simp[cg])),by decide⟩
theorem B8{l:List YnD}{i:Nat}(h:i<l.length):l.getD i yn0∈l:=List.mem_of_getElem? (jY h)
theorem AP(tt:TypeId)(tv:Value)(root:Int)(ps:List PgS)(w:World)(hS:PgsOk w tt tv ps)(hok:OkS ps)(hoc:OkC ps):
  Calls Tryz.prog 22 #[.iface tt (tv),.int .i64 root] w (ru (oI ps root) w):=by
 refine(callsIn_wide (n:=3)).1 (callsIn_of_wp_marks Tryz.func22 rfl trivial (wpIn_wide.2 ?_) rfl)
 simp only[Tryz.ntmps22,List.size_toArray,List.length_cons,List.length_nil,Nat.reduceAdd,Nat.reduceSub,Array.replicate_succ,Array.replicate_zero,List.push_toArray,List.append_toArray,List.nil_append,List.cons_append]
 have ar:=St.start w
 refine wp_seq (ak [0,0,0,0] [] [[0],[1],[2],[3]] [] [.a 3,.a 4,.a 5,.a 6] (fun ix d b X=>match ix with|0=>d 3=vp (pb (b 3))/\X 0=eB (pb (b 3)) 3 #[vi root]|1=>d 4=vp (pb (b 4))/\X 1=eB (pb (b 4)) 28 #[.slice none 0 0]|2=>d 5=vp (pb (b 5))/\X 2=eB (pb (b 5)) 3 #[vi 0]|3=>d 6=vp (pb (b 6))/\X 3=eB (pb (b 6)) 3 #[vi 0]|_=>True) [0,1,2,3] [0,1,2,3] [(3,0,4,7)] ar ?_ ?_ ?_)
 exact fun ix _ _ _ _ _ _ hs hb hx h=>match ix,h with
 |0,h=>by dsimp only;rw[<-hs 3 rfl,<-hb 3 rfl,<-hx 0 rfl];exact h
 |1,h=>by dsimp only;rw[<-hs 4 rfl,<-hb 4 rfl,<-hx 1 rfl];exact h
 |2,h=>by dsimp only;rw[<-hs 5 rfl,<-hb 5 rfl,<-hx 2 rfl];exact h
 |3,h=>by dsimp only;rw[<-hs 6 rfl,<-hb 6 rfl,<-hx 3 rfl];exact h
 |_+4,_=>trivial
 refine⟨?_,?_,?_,?_,trivial⟩
 refine svA fun g b W X cx=>?_
 exact wm (cs:=#[vi root]) rfl (cx.ou 1) rfl rfl rfl (fun _ _ _ _ _=> .intro)
 refine svA fun g b W X cx=>?_
 exact aX (cs:=#[.slice none 0 0]) rfl (by kernel_rfl) rfl rfl (fun _ _ _ _ _=> .intro)
 refine svA fun g b W X cx=>?_
 exact aX (cs:=#[vi 0]) rfl (by kernel_rfl) rfl rfl (fun _ _ _ _ _=> .intro)
 refine svA fun g b W X cx=>?_
 exact aX (cs:=#[vi 0]) rfl (by kernel_rfl) rfl rfl (fun _ _ _ _ _=> .intro)
 intro d b X W1 hD aE fr ag
 simp only[exq 0 ((dTn (hD 0 lq)).2),exq 1 ((dTn (hD 1 lq)).2),exq 2 ((dTn (hD 2 lq)).2),exq 3 ((dTn (hD 3 lq)).2)] at aE
 simp only[ed 3 ((dTn (hD 0 lq)).1),ed 4 ((dTn (hD 1 lq)).1),ed 5 ((dTn (hD 2 lq)).1),ed 6 ((dTn (hD 3 lq)).1)] at ag
 generalize pb (b 3)=dK,pb (b 4)=bx,pb (b 5)=bv,pb (b 6)=fR at aE ag
 clear hD;subst ag;clear d b X
 refine aa (wp_seq (ak [0,0,3,7,0,31] [[],[0],[],[4,5,6],[],[8]] [[],[],[4,5,6],[7],[8],[9]] [[],[],[],[],[],[8]] [.k 14 (.iface tt (tv)),.c 15 (vi root),.a 16,.a 17,.a 7,.n] (fun ix d b X=>match ix with|0|1=>True|2=>d 16= .func (.func 101) #[] #[vp (pcp 0 (b 16)),vp (pcp 1 (b 16)),vp (pcp 2 (b 16))]/\X 4=eB (pcp 0 (b 16)) 78 #[.iface tt (tv)]/\X 5=eB (pcp 1 (b 16)) 3 #[vi root]/\X 6=eB (pcp 2 (b 16)) 3 #[vi 1]|3=>d 17= .slice (sA (b 17)) (((bo ps root 1)).length) (sC (b 17))/\X 7=eCL (sA (b 17)) (bo ps root 1) ((X 7).fp)|4=>d 7=vp (pb (b 7))/\X 8=eB (pb (b 7)) 131 #[.slice none 0 0]|5=>X 9=eB (pb (b 7)) 131 #[.slice (sA (b 17)) (((bo ps root 1)).length) (sC (b 17))]|_=>True) [0,1,2,3,4,5,6,7,9] [1,2,3,4,5] [(7,4,1,8),(6,0,4,10)] aE ?_ ?_ ?_))
 exact fun ix _ _ _ _ _ _ hs hb hx h=>match ix,h with
 |2,h=>by dsimp only;rw[<-hs 16 rfl,<-hb 16 rfl,<-hx 4 rfl,<-hx 5 rfl,<-hx 6 rfl];exact h
 |3,h=>by dsimp only;rw[<-hs 17 rfl,<-hb 17 rfl,<-hx 7 rfl];exact h
 |4,h=>by dsimp only;rw[<-hs 7 rfl,<-hb 7 rfl,<-hx 8 rfl];exact h
 |5,h=>by dsimp only;rw[<-hb 7 rfl,<-hb 17 rfl,<-hx 9 rfl];exact h
 |0,_|1,_|_+6,_=>trivial
 refine⟨?_,?_,?_,?_,?_,trivial⟩
 exact xs4 rfl id fun cx=>ae rfl (by kernel_rfl) (cx.ou 3) ((cx.bi 0 rfl).cell 0)
 refine svA fun g b W X cx=>?_
 refine aC.call (aB (args:=#[.iface tt (tv),vi root,vi 1]) rfl cx.sees rfl (by kernel_rfl) (dH (cx.an 0) (cx.an 1) (cx.co _))) ?_
 refine(j2 tt tv root 1 _).mono ?_
 rintro e W1 ⟨B4,B5,B6,rfl,aM⟩
 refine⟨_,rfl,cl [eB B4 78 #[.iface tt (tv)],eB B5 3 #[vi root],eB B6 3 #[vi 1]] rfl rfl aM (fun d l X' hs hb hv hN=>?_)⟩
 have aW:=(hv 16 rfl).1;have aG:=(hv 16 rfl).2
 exact⟨aW.trans (by rw[aG];rfl),(by rw[aG];exact(List.cons.inj hN).1),(by rw[aG];exact(List.cons.inj (List.cons.inj hN).2).1),(by rw[aG];exact(List.cons.inj (List.cons.inj (List.cons.inj hN).2).2).1)⟩
 refine svA fun g b W X cx=>?_
 refine aC.call (aB (args:=#[.func (.func 101) #[] #[vp (pcp 0 (b 16)),vp (pcp 1 (b 16)),vp (pcp 2 (b 16))]]) rfl cx.sees rfl (by kernel_rfl) (bp (dTn (cx.an 2)).1)) ?_
 refine(BF _ _ _ (bo ps root 1) _ _ _ (j6 _ _ _ _ _ _ _ hok hoc) (fun A hA=>⟨Blk.ext (cx.blk (dTn (cx.an 2)).2.1 rfl) hA,Blk.ext (cx.blk (dTn (cx.an 2)).2.2.1 rfl) hA,Blk.ext (cx.blk (dTn (cx.an 2)).2.2.2 rfl) hA,(hS.ext cx.upd.to_ext).ext hA⟩)).mono ?_
 rintro e W1 ⟨A4,c4,fp4,rfl,aM⟩
 refine⟨_,rfl,cl [eCL A4 ((bo ps root 1)) fp4] rfl rfl aM (fun d l X' hs hb hv hN=>?_)⟩
 have aW:=(hv 17 rfl).1;have aG:=(hv 17 rfl).2
 exact⟨aW.trans (by rw[aG];rfl),(by rw[aG];exact v6 ((List.cons.inj hN).1))⟩
 refine svA fun g b W X cx=>?_
 exact aX (cs:=#[.slice none 0 0]) rfl (by kernel_rfl) rfl rfl (fun _ _ _ _ _=> .intro)
 refine svA fun g b W X cx=>?_
 exact aw (n:=1) rfl (dTn (cx.an 4)).1 (dTn (cx.an 3)).1 (by kernel_rfl) (by kernel_rfl) (by kernel_rfl) cx (dTn (cx.an 4)).2 rfl (nle rfl) (by kernel_rfl) rfl rfl rfl (fun d l X' hs hb hx=>by rw[hb 7,hb 17];exact hx)
 intro d b X W2 hD aN fr ag
 obtain⟨B16a_2,pm⟩:∃z,pcp 0 (b 16)=z:=⟨_,rfl⟩
 obtain⟨B16b_2,pn⟩:∃z,pcp 1 (b 16)=z:=⟨_,rfl⟩
 obtain⟨B16c_2,po⟩:∃z,pcp 2 (b 16)=z:=⟨_,rfl⟩
 obtain⟨e8,qW⟩:∃z,sA (b 17)=z:=⟨_,rfl⟩
 obtain⟨jS,qX⟩:∃z,sC (b 17)=z:=⟨_,rfl⟩
 obtain⟨pq,t5⟩:∃z,pb (b 7)=z:=⟨_,rfl⟩
 have oX:X 7= _:=(dTn (hD 3 lq)).2
 obtain⟨t6,y8⟩:∃z,(X 7).fp=z:=⟨_,rfl⟩
 rw[y8] at oX
 clear y8
 simp only[exq 4 ((dTn (hD 2 lq)).2.1),exq 5 ((dTn (hD 2 lq)).2.2.1),exq 6 ((dTn (hD 2 lq)).2.2.2),oX,exq 9 ((dTn (hD 5 lq))),pm,pn,po,qW,qX,t5] at aN
 simp only[ed 16 ((dTn (hD 2 lq)).1),ed 17 ((dTn (hD 3 lq)).1),ed 7 ((dTn (hD 4 lq)).1),pm,pn,po,qW,qX,t5] at ag
 clear hD oX pm pn po qW qX t5;subst ag;clear d b X
 refine aa (wp_seq ?_)
 obtain⟨ln,Ay⟩:∃z,((bo ps root 1)).length=z:=⟨_,rfl⟩
 rw[Ay] at aN |-
 obtain⟨xs,iL,hsx_⟩:=St.openCL (aN.pick [7,0,1,2,3,4,5,6,8] (by decide) rfl)
 have hsx2_:St w [] [eCX e8 xs t6,eB dK 3 #[vi root],eB bx 28 #[.slice none 0 0],eB bv 3 #[vi 0],eB fR 3 #[vi 0],eB B16a_2 78 #[.iface tt (tv)],eB B16b_2 3 #[vi root],eB B16c_2 3 #[vi 1],eB pq 131 #[.slice e8 (ln) jS]] _:=hsx_
 obtain rfl:ln=xs.length:=by rw[<-Ay,<-iL,List.length_map]
 have hxl_:xs.length<=1000:=by rw[<-Ay];exact jz _ _ _
 have hXN:∀y∈xs,NdOk y.1:=fun y hy=>cO hok (nV (pgN y) (by rw[<-iL];exact List.mem_map.2 ⟨y,hy,rfl⟩)).1
 clear hsx_ aN
 refine ak [0,0,3] [[],[],[9]] [[],[9],[10]] [[],[],[9]] [.k 18 (.agg #[vi (-1),vi 0,vi 0,.string ByteArray.empty,.bool false,.slice none 0 0,vi 0]),.a 8,.n] (fun ix d b X=>match ix with|0=>True|1=>d 8=vp (pb (b 8))/\X 9=eB (pb (b 8)) 84 #[vi 0,vi 0,vi 0,.string ByteArray.empty,.bool false,.slice none 0 0,vi 0]|2=>X 10=eB (pb (b 8)) 84 #[vi (-1),vi 0,vi 0,.string ByteArray.empty,.bool false,.slice none 0 0,vi 0]|_=>True) [0,1,2,3,4,5,6,7,8,10] [1,2] [(8,1,1,9),(9,0,1,10)] hsx2_ ?_ ?_ ?_
 exact fun ix _ _ _ _ _ _ hs hb hx h=>match ix,h with
 |1,h=>by dsimp only;rw[<-hs 8 rfl,<-hb 8 rfl,<-hx 9 rfl];exact h
 |2,h=>by dsimp only;rw[<-hb 8 rfl,<-hx 10 rfl];exact h
 |0,_|_+3,_=>trivial
 refine⟨?_,?_,trivial⟩
 refine svA fun g b W X cx=>?_
 exact aX (cs:=#[vi 0,vi 0,vi 0,.string ByteArray.empty,.bool false,.slice none 0 0,vi 0]) rfl (by kernel_rfl) rfl rfl (fun _ _ _ _ _=> .intro)
 refine svA fun g b W X cx=>?_
 exact aw (n:=7) rfl (dTn (cx.an 1)).1 (cx.an 0) (by kernel_rfl) (by kernel_rfl) (by kernel_rfl) cx (dTn (cx.an 1)).2 rfl (nle rfl) (by kernel_rfl) rfl rfl rfl (fun d l X' hs hb hx=>by rw[hb 8];exact hx)
 intro d b X W3 hD bB fr ag
 simp only[exq 10 ((dTn (hD 2 lq)))] at bB
 simp only[ed 8 ((dTn (hD 1 lq)).1)] at ag
 generalize pb (b 8)=gX at bB ag
 clear hD;subst ag;clear d b X
 refine aa (wp_seq (wp_seq (ak [0,0,3] [[],[1]] [[],[],[10,11,12]] [] [.k 19 (.iface tt (tv)),.c 20 (vi root),.a 21] (fun ix d b X=>match ix with|0|1=>True|2=>d 21= .func (.func 101) #[] #[vp (pcp 0 (b 21)),vp (pcp 1 (b 21)),vp (pcp 2 (b 21))]/\X 10=eB (pcp 0 (b 21)) 78 #[.iface tt (tv)]/\X 11=eB (pcp 1 (b 21)) 3 #[vi root]/\X 12=eB (pcp 2 (b 21)) 3 #[vi 0]|_=>True) [0,1,2,3,4,5,6,7,8,9,10,11,12] [1,2] [(19,0,3,22)] bB ?_ ?_ ?_)))
 exact fun ix _ _ _ _ _ _ hs hb hx h=>match ix,h with
 |2,h=>by dsimp only;rw[<-hs 21 rfl,<-hb 21 rfl,<-hx 10 rfl,<-hx 11 rfl,<-hx 12 rfl];exact h
 |0,_|1,_|_+3,_=>trivial
 refine⟨?_,?_,trivial⟩
 exact xs4 rfl id fun cx=>ae rfl (by kernel_rfl) (cx.ou 3) ((cx.bi 1 rfl).cell 0)
 refine svA fun g b W X cx=>?_
 refine aC.call (aB (args:=#[.iface tt (tv),vi root,vi 0]) rfl cx.sees rfl (by kernel_rfl) (dH (cx.an 0) (cx.an 1) (cx.co _))) ?_
 refine(j2 tt tv root 0 _).mono ?_
 rintro e W1 ⟨B4,B5,B6,rfl,aM⟩
 refine⟨_,rfl,cl [eB B4 78 #[.iface tt (tv)],eB B5 3 #[vi root],eB B6 3 #[vi 0]] rfl rfl aM (fun d l X' hs hb hv hN=>?_)⟩
 have aW:=(hv 21 rfl).1;have aG:=(hv 21 rfl).2
 exact⟨aW.trans (by rw[aG];rfl),(by rw[aG];exact(List.cons.inj hN).1),(by rw[aG];exact(List.cons.inj (List.cons.inj hN).2).1),(by rw[aG];exact(List.cons.inj (List.cons.inj (List.cons.inj hN).2).2).1)⟩
 intro d b X W4 hD bR fr ag
 simp only[exq 10 ((dTn (hD 2 lq)).2.1),exq 11 ((dTn (hD 2 lq)).2.2.1),exq 12 ((dTn (hD 2 lq)).2.2.2)] at bR
 simp only[ed 21 ((dTn (hD 2 lq)).1)] at ag
 generalize pcp 0 (b 21)=B21a_4,pcp 1 (b 21)=B21b_4,pcp 2 (b 21)=B21c_4 at bR ag
 clear hD;subst ag;clear d b X
 refine aa (wp_block ?_)
 have CK:=bR.pick [1,2,3,4,8,9,0] (by decide) rfl
 refine kw (α:=YnD) CK rfl (enters_of Tryz.func101 (by kernel_rfl) rfl) (encs:=ynE) (Ex:=ynR) (N:=1000) (Z:=YnZ (bo ps root 0)) (j6 _ _ _ _ _ _ _ hok hoc) (fun A hA=>RdR.keep (bR.pick [10,11,12,1,2,3,4,8,9,0] (by decide) rfl) hS hA) (fun _=>rfl) (fun bb pre L=>cond bb (∃apg:Int,∃an:NoD,∃AA:Option Addr,∃ac:Nat,(∀y∈pre.map pgN,ev (xs.map pgN) root y=none)/\ahd none (pre.map pgN)=(if apg<0 then none else some (apg,an))/\  -1<=apg/\NdOk an/\L=[eB dK 3 #[vi root],eB bx 28 #[.slice none 0 0],eB bv 3 #[vi 0],eB fR 3 #[vi 0],eB pq 131 #[.slice e8 (xs.length) jS],eB gX 84 #[vi apg,vi an.lv,vi an.right,.string an.high,.bool an.dead,.slice AA an.es.length ac,vi ((an.free:Int))],eCX e8 xs t6]) (∃O:List EdT,∃lf:Int,∃rt:Int,∃on:Nat,∃OA:Option Addr,∃oc:Nat,on=O.length/\(∀r,fu (xs.map pgN) root none (pre.map pgN++r)=(O,lf,rt))/\L=[eB bx 28 #[.slice OA on oc],eB bv 3 #[vi lf],eB fR 3 #[vi rt],eO 67 3 (.slice OA on oc) on (O.flatMap edC)])) ⟨(-1),cg,none,0,(fun y hy=>absurd hy (by simp)),rfl,Int.le_refl _,HM,rfl⟩ (fun xx a_ E_=>∃BV:Nat,a_=⟨([.iface tt (tv),vi root,undef,vp dK,vp bx,vp bv,vp fR,vp pq,vp gX,vp BV,undef,undef,undef,undef,.iface tt (tv),vi root,.func (.func 101) #[] #[vp B16a_2,vp B16b_2,vp B16c_2],.slice e8 (xs.length) jS,.agg #[vi (-1),vi 0,vi 0,.string ByteArray.empty,.bool false,.slice none 0 0,vi 0],.iface tt (tv),vi root,.func (.func 101) #[] #[vp B21a_4,vp B21b_4,vp B21c_4],.agg #[vi xx.2.1,vi xx.1.lv,vi xx.1.right,.string xx.1.high,.bool xx.1.dead,.slice xx.2.2.1 xx.1.es.length xx.2.2.2,vi ((xx.1.free:Int))],undef,undef,undef,undef,undef,undef,undef,undef,undef,undef,undef,undef,undef,undef,undef,undef,undef,undef,undef,undef,undef,undef,undef,undef,undef,undef,undef,undef,undef,undef,undef,undef,undef,undef,undef,undef,undef,undef,undef,undef,undef,undef,undef,undef,undef,undef,undef,undef,undef,undef,undef,undef,undef,undef,undef,undef,undef,undef,undef,undef,undef,undef,undef,undef,undef,undef,undef,undef,undef,undef,undef,undef,undef,undef,undef,undef,undef,undef,undef,undef]).toArray,[]⟩/\E_=eB BV 84 #[vi xx.2.1,vi xx.1.lv,vi xx.1.right,.string xx.1.high,.bool xx.1.dead,.slice xx.2.2.1 xx.1.es.length xx.2.2.2,vi ((xx.1.free:Int))]) (fun xx=>[.iface tt (tv),vi root,undef,vp dK,vp bx,vp bv,vp fR,vp pq,vp gX,undef,undef,undef,undef,undef,.iface tt (tv),vi root,.func (.func 101) #[] #[vp B16a_2,vp B16b_2,vp B16c_2],.slice e8 (xs.length) jS,.agg #[vi (-1),vi 0,vi 0,.string ByteArray.empty,.bool false,.slice none 0 0,vi 0],.iface tt (tv),vi root,.func (.func 101) #[] #[vp B21a_4,vp B21b_4,vp B21c_4],.agg #[vi xx.2.1,vi xx.1.lv,vi xx.1.right,.string xx.1.high,.bool xx.1.dead,.slice xx.2.2.1 xx.1.es.length xx.2.2.2,vi ((xx.1.free:Int))],undef,undef,undef,undef,undef,undef,undef,undef,undef,undef,undef,undef,undef,undef,undef,undef,undef,undef,undef,undef,undef,undef,undef,undef,undef,undef,undef,undef,undef,undef,undef,undef,undef,undef,undef,undef,undef,undef,undef,undef,undef,undef,undef,undef,undef,undef,undef,undef,undef,undef,undef,undef,undef,undef,undef,undef,undef,undef,undef,undef,undef,undef,undef,undef,undef,undef,undef,undef,undef,undef,undef,undef,undef,undef,undef,undef,undef,undef,undef,undef]) (fun xx=>by kernel_rfl) ?_ ?_ ?_ ?_
 intro rl xx W5 K hK
 have bw:=St.start W5
 refine bh [0,1] [[],[0]] [[0],[1]] [[],[0]] [.a 9,.n] (fun ix d b X=>match ix with|0=>d 9=vp (pb (b 9))/\X 0=eB (pb (b 9)) 84 #[vi 0,vi 0,vi 0,.string ByteArray.empty,.bool false,.slice none 0 0,vi 0]|1=>X 1=eB (pb (b 9)) 84 #[vi xx.2.1,vi xx.1.lv,vi xx.1.right,.string xx.1.high,.bool xx.1.dead,.slice xx.2.2.1 xx.1.es.length xx.2.2.2,vi ((xx.1.free:Int))]|_=>True) [1] [0,1] [(9,0,1,10)] bw ?_ ?_ ?_
 exact fun ix _ _ _ _ _ _ hs hb hx h=>match ix,h with
 |0,h=>by dsimp only;rw[<-hs 9 rfl,<-hb 9 rfl,<-hx 0 rfl];exact h
 |1,h=>by dsimp only;rw[<-hb 9 rfl,<-hx 1 rfl];exact h
 |_+2,_=>trivial
 refine⟨?_,?_,trivial⟩
 refine svA fun g b W X cx=>?_
 exact aX (cs:=#[vi 0,vi 0,vi 0,.string ByteArray.empty,.bool false,.slice none 0 0,vi 0]) rfl (by kernel_rfl) rfl rfl (fun _ _ _ _ _=> .intro)
 refine svA fun g b W X cx=>?_
 exact aw (n:=7) rfl (dTn (cx.an 0)).1 (cx.ou 22) (by kernel_rfl) (by kernel_rfl) (by kernel_rfl) cx (dTn (cx.an 0)).2 rfl (nle rfl) (by kernel_rfl) rfl rfl rfl (fun d l X' hs hb hx=>by rw[hb 9];exact hx)
 intro d b X W7 hD bD fr ag
 simp only[exq 1 ((dTn (hD 1 lq)))] at bD
 simp only[ed 9 ((dTn (hD 0 lq)).1)] at ag
 generalize pb (b 9)=Q2 at bD ag
 clear hD;subst ag;clear d b X
 exact hK _ _ _ ⟨_,rfl,rfl⟩ (bD.pick [0] (by decide) rfl)
 rintro rl pre xx W8 L8 a8 E8 ⟨apg,an,AA,ac,hall,hah,hap,han,rfl⟩ hlen8 hPx8 ⟨BV,rfl,rfl⟩ l9
 have bj:St W8 (fps ([eB dK 3 #[vi root],eB bx 28 #[.slice none 0 0],eB bv 3 #[vi 0],eB fR 3 #[vi 0],eB pq 131 #[.slice e8 (xs.length) jS],eB gX 84 #[vi apg,vi an.lv,vi an.right,.string an.high,.bool an.dead,.slice AA an.es.length ac,vi ((an.free:Int))],eCX e8 xs t6]++[eO 89 3 (.slice xx.2.2.1 xx.1.es.length xx.2.2.2) xx.1.es.length (xx.1.es.flatMap enC),eB BV 84 #[vi xx.2.1,vi xx.1.lv,vi xx.1.right,.string xx.1.high,.bool xx.1.dead,.slice xx.2.2.1 xx.1.es.length xx.2.2.2,vi ((xx.1.free:Int))]])) [eB dK 3 #[vi root],eB bx 28 #[.slice none 0 0],eB bv 3 #[vi 0],eB fR 3 #[vi 0],eB pq 131 #[.slice e8 (xs.length) jS],eB gX 84 #[vi apg,vi an.lv,vi an.right,.string an.high,.bool an.dead,.slice AA an.es.length ac,vi ((an.free:Int))],eCX e8 xs t6,eO 89 3 (.slice xx.2.2.1 xx.1.es.length xx.2.2.2) xx.1.es.length (xx.1.es.flatMap enC),eB BV 84 #[vi xx.2.1,vi xx.1.lv,vi xx.1.right,.string xx.1.high,.bool xx.1.dead,.slice xx.2.2.1 xx.1.es.length xx.2.2.2,vi ((xx.1.free:Int))]] W8:=l9
 clear l9
 have hN0:=cO hok hPx8
 have hN1:=hN0.len
 have hN2:=hN0.rt
 have hN3:=hN0.hi
 have hN4:=hN0.lv
 have hN5:=(gB hPx8).1
 have hA1:=han.len
 have hA2:=han.rt
 have hA3:=han.hi
 have hA4:=han.lv
 refine wpIn_block (wpIn_seq ?_)
 rcases hld:iN (xs.map pgN) xx.2.1 xx.1.right with _|⟨i,j⟩
 refine bh [0,0,3,7,15,15,15,0,159,447,1023] [[4],[8],[6],[],[],[],[],[],[9]] [[],[],[],[],[],[],[],[9],[10]] [[],[],[],[],[],[],[],[],[9]] [.c 24 (.slice e8 (xs.length) jS),.c 25 (.agg #[vi xx.2.1,vi xx.1.lv,vi xx.1.right,.string xx.1.high,.bool xx.1.dead,.slice xx.2.2.1 xx.1.es.length xx.2.2.2,vi ((xx.1.free:Int))]),.c 26 (.tuple #[.agg #[vi 0,vi 0,vi 0,.string ((⟨#[]⟩:ByteArray)),.bool false,.slice none 0 0,vi 0],vi 0,.bool false]),.k 23 (.tuple #[.agg #[vi 0,vi 0,vi 0,.string ((⟨#[]⟩:ByteArray)),.bool false,.slice none 0 0,vi 0],vi 0,.bool false]),.k 27 (.agg #[vi 0,vi 0,vi 0,.string ((⟨#[]⟩:ByteArray)),.bool false,.slice none 0 0,vi 0]),.k 28 (vi 0),.k 29 (.bool false),.a 10,.n,.k 11 (vi 0),.k 12 (.bool false)] (fun ix d b X=>match ix with|0|1|2|3|4|5|6=>True|7=>d 10=vp (pb (b 10))/\X 9=eB (pb (b 10)) 84 #[vi 0,vi 0,vi 0,.string ByteArray.empty,.bool false,.slice none 0 0,vi 0]|8=>X 10=eB (pb (b 10)) 84 #[vi 0,vi 0,vi 0,.string ((⟨#[]⟩:ByteArray)),.bool false,.slice none 0 0,vi 0]|_=>True) [0,1,2,3,4,5,6,7,8,10] [0,1,2,7,8] [(10,7,4,13),(10,3,1,11),(0,0,3,3),(0,4,3,3)] bj ?_ ?_ ?_
 exact fun ix _ _ _ _ _ _ hs hb hx h=>match ix,h with
 |7,h=>by dsimp only;rw[<-hs 10 rfl,<-hb 10 rfl,<-hx 9 rfl];exact h
 |8,h=>by dsimp only;rw[<-hb 10 rfl,<-hx 10 rfl];exact h
 |0,_|1,_|2,_|3,_|4,_|5,_|6,_|_+9,_=>trivial
 refine⟨?_,?_,?_,?_,?_,trivial⟩
 exact xs4 rfl id fun cx=>ae rfl (by kernel_rfl) (cx.ou 7) ((cx.bi 4 rfl).cell 0)
 exact xs4 rfl id fun cx=>aV (n:=7) rfl (by kernel_rfl) (by kernel_rfl) (cx.ou 9) (cx.bi 8 rfl) (nle rfl) rfl
 exact xsc rfl id rfl rfl fun cx=>⟨_,vg (BD hld) (BZ (CtxV.holdF cx (cx.init 6 _ rfl) rfl) hXN hxl_),(aI (cx.an 0) (cx.an 1))⟩
 refine svA fun g b W X cx=>?_
 exact aX (cs:=#[vi 0,vi 0,vi 0,.string ByteArray.empty,.bool false,.slice none 0 0,vi 0]) rfl (by kernel_rfl) rfl rfl (fun _ _ _ _ _=> .intro)
 refine svA fun g b W X cx=>?_
 exact aw (n:=7) rfl (dTn (cx.an 7)).1 (cx.an 4) (by kernel_rfl) (by kernel_rfl) (by kernel_rfl) cx (dTn (cx.an 7)).2 rfl (nle rfl) (by kernel_rfl) rfl rfl rfl (fun d l X' hs hb hx=>by rw[hb 10];exact hx)
 intro d b X W9 hD be fr ag
 simp only[exq 10 ((dTn (hD 8 lq)))] at be
 simp only[ed 10 ((dTn (hD 7 lq)).1)] at ag
 generalize pb (b 10)=PR at be ag
 clear hD;subst ag;clear d b X
 refine aa (wpIn_seq (wpIn_seq ?_))
 have hd11:((((decide (0<(xx.1.es.length:Int)))||(xx.2.1==root))||xx.1.dead)||true)=true:=Bool.or_true _
 refine g9 [0,1,3,7,15,31,63,31,255,511,1023,2047,4095,8191,16383,32767,65535,131071] [[],[8],[],[],[],[],[8],[0],[],[],[],[],[8]] [.k 30 (.pointer (some ⟨BV,5,none⟩)),.c 31 (.slice xx.2.2.1 xx.1.es.length xx.2.2.2),.k 32 (vi ((xx.1.es.length:Int))),.k 33 (.bool (decide (0<(xx.1.es.length:Int)))),.k 34 (.bool (decide (0<(xx.1.es.length:Int)))),.z 35 (!(decide (0<(xx.1.es.length:Int)))) (vp BV),.y 36 (!(decide (0<(xx.1.es.length:Int)))) (vi xx.2.1),.y 37 (!(decide (0<(xx.1.es.length:Int)))) (vi root),.z 38 (!(decide (0<(xx.1.es.length:Int)))) (.bool (xx.2.1==root)),tO 39 (decide (0<(xx.1.es.length:Int))) (xx.2.1==root),.k 40 (.bool ((decide (0<(xx.1.es.length:Int)))||(xx.2.1==root))),.z 41 (!((decide (0<(xx.1.es.length:Int)))||(xx.2.1==root))) (.pointer (some ⟨BV,4,none⟩)),.y 42 (!((decide (0<(xx.1.es.length:Int)))||(xx.2.1==root))) (.bool xx.1.dead),tO 43 ((decide (0<(xx.1.es.length:Int)))||(xx.2.1==root)) xx.1.dead,.k 44 (.bool (((decide (0<(xx.1.es.length:Int)))||(xx.2.1==root))||xx.1.dead)),.z 45 (!(((decide (0<(xx.1.es.length:Int)))||(xx.2.1==root))||xx.1.dead)) (.bool false),.z 46 (!(((decide (0<(xx.1.es.length:Int)))||(xx.2.1==root))||xx.1.dead)) (.bool true),Ma 47 (((decide (0<(xx.1.es.length:Int)))||(xx.2.1==root))||xx.1.dead) true true hd11] [0,1,2,3,4,5,6,7,8,9] [1,6,7,12] [(30,0,18,48)] be ?_ fun so cF=>?_
 refine⟨?_,?_,?_,?_,trivial⟩
 exact xs4 rfl id fun cx=>ae rfl (by kernel_rfl) (cx.an 0) ((cx.bi 8 rfl).cell 5)
 exact m2 rfl (fun _ _ _ h=>h) (fun cx=>(cx.an 4)) fun cx hq=>ae rfl (by kernel_rfl) (mbv (cx.an 5) hq) ((cx.bi 8 rfl).cell 0)
 exact m2 rfl (fun _ _ _ h=>h) (fun cx=>(cx.an 4)) fun cx hq=>ae rfl (by kernel_rfl) (cx.ou 3) ((cx.bi 0 rfl).cell 0)
 exact m2 rfl (fun _ _ _ h=>h) (fun cx=>(cx.an 10)) fun cx hq=>ae rfl (by kernel_rfl) (mbv (cx.an 11) hq) ((cx.bi 8 rfl).cell 4)
 refine aa (wpIn_cond_true (show Act.eval _ _= .bool true from rfl) (wpIn_seq (bh [0,1] [[8],[5]] [[],[10]] [[],[5]] [.c 48 (.agg #[vi xx.2.1,vi xx.1.lv,vi xx.1.right,.string xx.1.high,.bool xx.1.dead,.slice xx.2.2.1 xx.1.es.length xx.2.2.2,vi ((xx.1.free:Int))]),.n] (fun ix d b X=>match ix with|0=>True|1=>X 10=eB gX 84 #[vi xx.2.1,vi xx.1.lv,vi xx.1.right,.string xx.1.high,.bool xx.1.dead,.slice xx.2.2.1 xx.1.es.length xx.2.2.2,vi ((xx.1.free:Int))]|_=>True) [0,1,2,3,4,6,7,8,9,10] [0,1] [(48,0,1,49)] cF ?_ ?_ ?_)))
 exact fun ix _ _ _ _ _ _ hs hb hx h=>match ix,h with
 |1,h=>by dsimp only;rw[<-hx 10 rfl];exact h
 |0,_|_+2,_=>trivial
 refine⟨?_,?_,trivial⟩
 exact xs4 rfl id fun cx=>aV (n:=7) rfl (by kernel_rfl) (by kernel_rfl) (cx.ou 9) (cx.bi 8 rfl) (nle rfl) rfl
 refine svA fun g b W X cx=>?_
 exact aw (n:=7) rfl (cx.ou 8) (cx.an 0) (by kernel_rfl) (by kernel_rfl) (by kernel_rfl) cx (cx.init 5 _ rfl) rfl (nle rfl) (by kernel_rfl) rfl rfl rfl (fun _ _ _ _ _=>id)
 intro d b X mH hD bU fr ag
 simp only[exq 10 ((dTn (hD 1 lq)))] at bU
 clear hD;subst ag;clear d b X
 refine aa (wpIn_exit (aj (aO ?_)))
 exact⟨true,.inl ⟨rfl,rfl⟩,_,⟨xx.2.1,xx.1,xx.2.2.1,xx.2.2.2,yV hall (yN hld),by rw[wa,if_neg (by omega)];rfl,by omega,hN0,rfl⟩,bU.pick [0,1,2,3,4,9,5,6] (by decide) rfl⟩
 obtain⟨hi_,hd_,hj_,hlc_⟩:=C4 hld
 rw[List.length_map] at hi_
 rw[ci] at hd_ hj_ hlc_
 obtain⟨m_,hm_⟩:∃z,xs.getD i yn0=z:=⟨_,rfl⟩
 rw[hm_] at hd_ hj_ hlc_
 have hj_:j+1<m_.1.es.length:=hj_
 have hmm_:m_∈xs:=by rw[<-hm_];exact(B8 hi_)
 have hM0:=hXN m_ hmm_
 have hM1:=hM0.len
 have hM4:=hM0.lv
 have hmz:∀e∈m_.1.es,e.1.size<=1000000:=fun e he=>Nat.le_trans (hM0.es e he) (by decide)
 refine bh [0,0,3,7,15,15,15,0,159,447,1023] [[4],[8],[6],[],[],[],[],[],[9]] [[],[],[],[],[],[],[],[9],[10]] [[],[],[],[],[],[],[],[],[9]] [.c 24 (.slice e8 (xs.length) jS),.c 25 (.agg #[vi xx.2.1,vi xx.1.lv,vi xx.1.right,.string xx.1.high,.bool xx.1.dead,.slice xx.2.2.1 xx.1.es.length xx.2.2.2,vi ((xx.1.free:Int))]),.c 26 (.tuple #[.agg #[vi m_.2.1,vi m_.1.lv,vi m_.1.right,.string m_.1.high,.bool m_.1.dead,.slice m_.2.2.1 m_.1.es.length m_.2.2.2,vi ((m_.1.free:Int))],vi ((j:Int)),.bool true]),.k 23 (.tuple #[.agg #[vi m_.2.1,vi m_.1.lv,vi m_.1.right,.string m_.1.high,.bool m_.1.dead,.slice m_.2.2.1 m_.1.es.length m_.2.2.2,vi ((m_.1.free:Int))],vi ((j:Int)),.bool true]),.k 27 (.agg #[vi m_.2.1,vi m_.1.lv,vi m_.1.right,.string m_.1.high,.bool m_.1.dead,.slice m_.2.2.1 m_.1.es.length m_.2.2.2,vi ((m_.1.free:Int))]),.k 28 (vi ((j:Int))),.k 29 (.bool true),.a 10,.n,.k 11 (vi ((j:Int))),.k 12 (.bool true)] (fun ix d b X=>match ix with|0|1|2|3|4|5|6=>True|7=>d 10=vp (pb (b 10))/\X 9=eB (pb (b 10)) 84 #[vi 0,vi 0,vi 0,.string ByteArray.empty,.bool false,.slice none 0 0,vi 0]|8=>X 10=eB (pb (b 10)) 84 #[vi m_.2.1,vi m_.1.lv,vi m_.1.right,.string m_.1.high,.bool m_.1.dead,.slice m_.2.2.1 m_.1.es.length m_.2.2.2,vi ((m_.1.free:Int))]|_=>True) [0,1,2,3,4,5,6,7,8,10] [0,1,2,7,8] [(10,7,4,13),(10,3,1,11),(0,0,3,3),(0,4,3,3)] bj ?_ ?_ ?_
 exact fun ix _ _ _ _ _ _ hs hb hx h=>match ix,h with
 |7,h=>by dsimp only;rw[<-hs 10 rfl,<-hb 10 rfl,<-hx 9 rfl];exact h
 |8,h=>by dsimp only;rw[<-hb 10 rfl,<-hx 10 rfl];exact h
 |0,_|1,_|2,_|3,_|4,_|5,_|6,_|_+9,_=>trivial
 refine⟨?_,?_,?_,?_,?_,trivial⟩
 exact xs4 rfl id fun cx=>ae rfl (by kernel_rfl) (cx.ou 7) ((cx.bi 4 rfl).cell 0)
 exact xs4 rfl id fun cx=>aV (n:=7) rfl (by kernel_rfl) (by kernel_rfl) (cx.ou 9) (cx.bi 8 rfl) (nle rfl) rfl
 exact xsc rfl id rfl rfl fun cx=>⟨_,vg ((EM hld).trans (by rw[hm_];rfl)) (BZ (CtxV.holdF cx (cx.init 6 _ rfl) rfl) hXN hxl_),(aI (cx.an 0) (cx.an 1))⟩
 refine svA fun g b W X cx=>?_
 exact aX (cs:=#[vi 0,vi 0,vi 0,.string ByteArray.empty,.bool false,.slice none 0 0,vi 0]) rfl (by kernel_rfl) rfl rfl (fun _ _ _ _ _=> .intro)
 refine svA fun g b W X cx=>?_
 exact aw (n:=7) rfl (dTn (cx.an 7)).1 (cx.an 4) (by kernel_rfl) (by kernel_rfl) (by kernel_rfl) cx (dTn (cx.an 7)).2 rfl (nle rfl) (by kernel_rfl) rfl rfl rfl (fun d l X' hs hb hx=>by rw[hb 10];exact hx)
 intro d b X lk hD bH fr ag
 simp only[exq 10 ((dTn (hD 8 lq)))] at bH
 simp only[ed 10 ((dTn (hD 7 lq)).1)] at ag
 generalize pb (b 10)=s5 at bH ag
 clear hD;subst ag;clear d b X
 refine aa (wpIn_seq (wpIn_seq (g9 [0,1,3,7,15,31,63,31,255,511,1023,2047,4095,8191,16383,32767,65535,131071] [[],[8],[],[],[],[],[8],[0],[],[],[],[],[8]] [.k 30 (.pointer (some ⟨BV,5,none⟩)),.c 31 (.slice xx.2.2.1 xx.1.es.length xx.2.2.2),.k 32 (vi ((xx.1.es.length:Int))),.k 33 (.bool (decide (0<(xx.1.es.length:Int)))),.k 34 (.bool (decide (0<(xx.1.es.length:Int)))),.z 35 (!(decide (0<(xx.1.es.length:Int)))) (vp BV),.y 36 (!(decide (0<(xx.1.es.length:Int)))) (vi xx.2.1),.y 37 (!(decide (0<(xx.1.es.length:Int)))) (vi root),.z 38 (!(decide (0<(xx.1.es.length:Int)))) (.bool (xx.2.1==root)),tO 39 (decide (0<(xx.1.es.length:Int))) (xx.2.1==root),.k 40 (.bool ((decide (0<(xx.1.es.length:Int)))||(xx.2.1==root))),.z 41 (!((decide (0<(xx.1.es.length:Int)))||(xx.2.1==root))) (.pointer (some ⟨BV,4,none⟩)),.y 42 (!((decide (0<(xx.1.es.length:Int)))||(xx.2.1==root))) (.bool xx.1.dead),tO 43 ((decide (0<(xx.1.es.length:Int)))||(xx.2.1==root)) xx.1.dead,.k 44 (.bool (((decide (0<(xx.1.es.length:Int)))||(xx.2.1==root))||xx.1.dead)),.z 45 (!(((decide (0<(xx.1.es.length:Int)))||(xx.2.1==root))||xx.1.dead)) (.bool true),.z 46 (!(((decide (0<(xx.1.es.length:Int)))||(xx.2.1==root))||xx.1.dead)) (.bool false),tO 47 (((decide (0<(xx.1.es.length:Int)))||(xx.2.1==root))||xx.1.dead) false] [0,1,2,3,4,5,6,7,8,9] [1,6,7,12] [(30,0,18,48)] bH ?_ fun kb bm=>?_)))
 refine⟨?_,?_,?_,?_,trivial⟩
 exact xs4 rfl id fun cx=>ae rfl (by kernel_rfl) (cx.an 0) ((cx.bi 8 rfl).cell 5)
 exact m2 rfl (fun _ _ _ h=>h) (fun cx=>(cx.an 4)) fun cx hq=>ae rfl (by kernel_rfl) (mbv (cx.an 5) hq) ((cx.bi 8 rfl).cell 0)
 exact m2 rfl (fun _ _ _ h=>h) (fun cx=>(cx.an 4)) fun cx hq=>ae rfl (by kernel_rfl) (cx.ou 3) ((cx.bi 0 rfl).cell 0)
 exact m2 rfl (fun _ _ _ h=>h) (fun cx=>(cx.an 10)) fun cx hq=>ae rfl (by kernel_rfl) (mbv (cx.an 11) hq) ((cx.bi 8 rfl).cell 4)
 refine aa ?_
 rcases Bool.eq_false_or_eq_true ((((decide (0<(xx.1.es.length:Int)))||(xx.2.1==root))||xx.1.dead)||false) with cH|cH
 have dB:=cH
 simp only[zB] at dB
 refine wpIn_cond_true (show Act.eval _ _= .bool true from(congrArg Value.bool cH)) (wpIn_seq (bh [0,1] [[8],[5]] [[],[10]] [[],[5]] [.c 48 (.agg #[vi xx.2.1,vi xx.1.lv,vi xx.1.right,.string xx.1.high,.bool xx.1.dead,.slice xx.2.2.1 xx.1.es.length xx.2.2.2,vi ((xx.1.free:Int))]),.n] (fun ix d b X=>match ix with|0=>True|1=>X 10=eB gX 84 #[vi xx.2.1,vi xx.1.lv,vi xx.1.right,.string xx.1.high,.bool xx.1.dead,.slice xx.2.2.1 xx.1.es.length xx.2.2.2,vi ((xx.1.free:Int))]|_=>True) [0,1,2,3,4,6,7,8,9,10] [0,1] [(48,0,1,49)] bm ?_ ?_ ?_))
 exact fun ix _ _ _ _ _ _ hs hb hx h=>match ix,h with
 |1,h=>by dsimp only;rw[<-hx 10 rfl];exact h
 |0,_|_+2,_=>trivial
 refine⟨?_,?_,trivial⟩
 exact xs4 rfl id fun cx=>aV (n:=7) rfl (by kernel_rfl) (by kernel_rfl) (cx.ou 9) (cx.bi 8 rfl) (nle rfl) rfl
 refine svA fun g b W X cx=>?_
 exact aw (n:=7) rfl (cx.ou 8) (cx.an 0) (by kernel_rfl) (by kernel_rfl) (by kernel_rfl) cx (cx.init 5 _ rfl) rfl (nle rfl) (by kernel_rfl) rfl rfl rfl (fun _ _ _ _ _=>id)
 intro d b X nS hD bM fr ag
 simp only[exq 10 ((dTn (hD 1 lq)))] at bM
 clear hD;subst ag;clear d b X
 refine aa (wpIn_exit (aj (aO ?_)))
 exact⟨true,.inl ⟨rfl,rfl⟩,_,⟨xx.2.1,xx.1,xx.2.2.1,xx.2.2.2,yV hall (vl (by have h_:=cH;first|exact h_|(rw[Bool.or_false] at h_;exact h_))),by rw[wa,if_neg (by omega)];rfl,by omega,hN0,rfl⟩,bM.pick [0,1,2,3,4,9,5,6] (by decide) rfl⟩
 have dB:=cH
 simp only[zB] at dB
 obtain⟨⟨⟨Cj,Ck⟩,IT⟩,IU⟩:=dB
 refine wpIn_cond_false (show Act.eval _ _= .bool false from(congrArg Value.bool cH)) (wpIn_skip (aa (wpIn_seq (bh [0,1,0,7,15,0,63] [[],[9],[],[6],[6],[],[10]] [[],[],[],[],[],[10],[11]] [[],[],[],[],[],[],[10]] [.k 49 (.pointer (some ⟨s5,5,none⟩)),.c 50 (.slice m_.2.2.1 m_.1.es.length m_.2.2.2),.k 51 (vi ((j:Int))),.c 52 (.pointer (some ((ad m_.2.2.1).add (j*3)))),.c 53 (.agg #[.string ((m_.1.es.getD j en0).1),vi (((m_.1.es.getD j en0).2.1:Int)),vi ((m_.1.es.getD j en0).2.2)]),.a 13,.n] (fun ix d b X=>match ix with|0|1|2|3|4=>True|5=>d 13=vp (pb (b 13))/\X 10=eB (pb (b 13)) 89 #[.string ByteArray.empty,vi 0,vi 0]|6=>X 11=eB (pb (b 13)) 89 #[.string ((m_.1.es.getD j en0).1),vi (((m_.1.es.getD j en0).2.1:Int)),vi ((m_.1.es.getD j en0).2.2)]|_=>True) [0,1,2,3,4,5,6,7,8,9,11] [1,3,4,5,6] [(13,5,1,14),(35,0,5,40)] bm ?_ ?_ ?_))))
 exact fun ix _ _ _ _ _ _ hs hb hx h=>match ix,h with
 |5,h=>by dsimp only;rw[<-hs 13 rfl,<-hb 13 rfl,<-hx 10 rfl];exact h
 |6,h=>by dsimp only;rw[<-hb 13 rfl,<-hx 11 rfl];exact h
 |0,_|1,_|2,_|3,_|4,_|_+7,_=>trivial
 refine⟨?_,?_,?_,?_,?_,trivial⟩
 exact xs4 rfl id fun cx=>ae rfl (by kernel_rfl) (cx.an 0) ((cx.bi 9 rfl).cell 5)
 exact xs4 rfl id fun cx=>aH (e:=89) (m:=j) (sz:=3) rfl (by kernel_rfl) (by kernel_rfl) (cx.an 1) (cx.an 2) (by omega) (by omega) ((CtxV.holdF cx (cx.init 6 _ rfl) rfl).2.2 m_ hmm_).2 (by have h_:=iK (f:=enC) (sz:=3) aQ m_.1.es;show 0<(List.flatMap enC m_.1.es).length;omega)
 exact xs4 rfl id fun cx=>aZ (f:=enC) (m:=j) (sz:=3) (off:=0) (n:=3) rfl (by kernel_rfl) (by kernel_rfl) (cx.an 3) rfl aQ ((CtxV.holdF cx (cx.init 6 _ rfl) rfl).2.2 m_ hmm_).2 (cR (by omega)) (fun k hk=>match k,hk with|0,_=>rfl|1,_=>rfl|2,_=>rfl|k+3,hk=>absurd hk (by omega))
 refine svA fun g b W X cx=>?_
 exact aX (cs:=#[.string ByteArray.empty,vi 0,vi 0]) rfl (by kernel_rfl) rfl rfl (fun _ _ _ _ _=> .intro)
 refine svA fun g b W X cx=>?_
 exact aw (n:=3) rfl (dTn (cx.an 5)).1 (cx.an 4) (by kernel_rfl) (by kernel_rfl) (by kernel_rfl) cx (dTn (cx.an 5)).2 rfl (nle rfl) (by kernel_rfl) rfl rfl rfl (fun d l X' hs hb hx=>by rw[hb 13];exact hx)
 intro d b X su hD b6 fr ag
 simp only[exq 11 ((dTn (hD 6 lq)))] at b6
 simp only[ed 13 ((dTn (hD 5 lq)).1)] at ag
 generalize pb (b 13)=xQ at b6 ag
 clear hD;subst ag;clear d b X
 refine aa (wpIn_seq (bh [0,1,3,7] [[],[8],[],[10]] [[],[],[],[11]] [[],[],[],[10]] [.k 54 (.pointer (some ⟨BV,2,none⟩)),.c 55 (vi xx.1.right),.k 56 (.pointer (some ⟨xQ,2,none⟩)),.n] (fun ix d b X=>match ix with|0|1|2=>True|3=>X 11=eB xQ 89 #[.string ((m_.1.es.getD j en0).1),vi (((m_.1.es.getD j en0).2.1:Int)),vi xx.1.right]|_=>True) [0,1,2,3,4,5,6,7,8,9,11] [1,3] [(54,0,3,57)] b6 ?_ ?_ ?_))
 exact fun ix _ _ _ _ _ _ hs hb hx h=>match ix,h with
 |3,h=>by dsimp only;rw[<-hx 11 rfl];exact h
 |0,_|1,_|2,_|_+4,_=>trivial
 refine⟨?_,?_,trivial⟩
 exact xs4 rfl id fun cx=>ae rfl (by kernel_rfl) (cx.an 0) ((cx.bi 8 rfl).cell 2)
 refine svA fun g b W X cx=>?_
 exact aw (n:=1) rfl (cx.an 2) (cx.an 1) (by kernel_rfl) (by kernel_rfl) (by kernel_rfl) cx (cx.init 10 _ rfl) rfl (nle rfl) (by kernel_rfl) rfl rfl rfl (fun _ _ _ _ _=>id)
 intro d b X qi hD b5 fr ag
 simp only[exq 11 ((dTn (hD 3 lq)))] at b5
 clear hD;subst ag;clear d b X
 refine aa (wpIn_seq (bh [0,1,0,4,0,0,48,127,0,256,0,1024,0,4096,15360,31744,64512,130816,262143,524287] [[],[9],[],[10],[9],[10],[],[],[],[9],[],[9],[],[],[6],[],[6],[],[],[1]] [[],[],[],[],[],[],[],[],[],[],[],[],[],[],[],[],[],[],[11],[12]] [[],[],[],[],[],[],[],[],[],[],[],[],[],[],[],[],[],[],[],[1]] [.k 57 (vp s5),.c 58 (vi m_.2.1),.k 59 (.pointer (some ⟨xQ,1,none⟩)),.c 60 (vi (((m_.1.es.getD j en0).2.1:Int))),.c 61 (.agg #[vi m_.2.1,vi m_.1.lv,vi m_.1.right,.string m_.1.high,.bool m_.1.dead,.slice m_.2.2.1 m_.1.es.length m_.2.2.2,vi ((m_.1.free:Int))]),.c 62 (.agg #[.string ((m_.1.es.getD j en0).1),vi (((m_.1.es.getD j en0).2.1:Int)),vi xx.1.right]),.c 63 (.string (itB m_.1.lv xx.1.right ((m_.1.es.getD j en0).1))),.k 64 (.agg #[vi m_.2.1,vi (((m_.1.es.getD j en0).2.1:Int)),.string (itB m_.1.lv xx.1.right ((m_.1.es.getD j en0).1))]),.k 65 (vp s5),.c 66 (vi m_.2.1),.k 67 (.pointer (some ⟨s5,5,none⟩)),.c 68 (.slice m_.2.2.1 m_.1.es.length m_.2.2.2),.k 69 (vi ((j:Int))),tI 70 ((j:Int)+1) (by omega),.c 71 (.pointer (some ((ad m_.2.2.1).add ((j+1)*3)))),.c 72 (.pointer (some ((ad m_.2.2.1).add ((j+1)*3+1)))),.c 73 (vi (((m_.1.es.getD (j+1) en0).2.1:Int))),.k 74 (.agg #[vi m_.2.1,vi (((m_.1.es.getD (j+1) en0).2.1:Int)),.string ByteArray.empty]),.a 75,.n] (fun ix d b X=>match ix with|0|1|2|3|4|5|6|7|8|9|10|11|12|13|14|15|16|17=>True|18=>d 75= .slice ((some ⟨(pb' (b 75)),0,none⟩)) 2 2/\X 11=eO 67 3 (.slice ((some ⟨(pb' (b 75)),0,none⟩)) 2 2) 2 (([(m_.2.1,((m_.1.es.getD j en0).2.1:Int),itB m_.1.lv xx.1.right ((m_.1.es.getD j en0).1)),(m_.2.1,((m_.1.es.getD (j+1) en0).2.1:Int),ByteArray.empty)]:List EdT).flatMap edC)|19=>X 12=eB bx 28 #[.slice ((some ⟨(pb' (b 75)),0,none⟩)) 2 2]|_=>True) [0,2,3,4,5,6,7,8,9,10,11,12] [1,3,4,5,6,9,11,14,15,16,18,19] [(57,0,19,76)] b5 ?_ ?_ ?_))
 exact fun ix _ _ _ _ _ _ hs hb hx h=>match ix,h with
 |18,h=>by dsimp only;rw[<-hs 75 rfl,<-hb 75 rfl,<-hx 11 rfl];exact h
 |19,h=>by dsimp only;rw[<-hb 75 rfl,<-hx 12 rfl];exact h
 |0,_|1,_|2,_|3,_|4,_|5,_|6,_|7,_|8,_|9,_|10,_|11,_|12,_|13,_|14,_|15,_|16,_|17,_|_+20,_=>trivial
 refine⟨?_,?_,?_,?_,?_,?_,?_,?_,?_,?_,?_,?_,trivial⟩
 exact xs4 rfl id fun cx=>ae rfl (by kernel_rfl) (cx.an 0) ((cx.bi 9 rfl).cell 0)
 exact xs4 rfl id fun cx=>ae rfl (by kernel_rfl) (cx.an 2) ((cx.bi 10 rfl).cell 1)
 exact xs4 rfl id fun cx=>aV (n:=7) rfl (by kernel_rfl) (by kernel_rfl) (cx.ou 10) (cx.bi 9 rfl) (nle rfl) rfl
 exact xs4 rfl id fun cx=>aV (n:=3) rfl (by kernel_rfl) (by kernel_rfl) (cx.ou 13) (cx.bi 10 rfl) (nle rfl) rfl
 exact xsc rfl id rfl rfl fun cx=>⟨_,oz m_.2.1 m_.1.lv m_.1.right (m_.1.free:Int) m_.1.high m_.1.dead _ _ _ ((m_.1.es.getD j en0).1) ((m_.1.es.getD j en0).2.1:Int) xx.1.right _ (b7 hmz _),(aI (cx.an 4) (cx.an 5))⟩
 exact xs4 rfl id fun cx=>ae rfl (by kernel_rfl) (cx.an 8) ((cx.bi 9 rfl).cell 0)
 exact xs4 rfl id fun cx=>ae rfl (by kernel_rfl) (cx.an 10) ((cx.bi 9 rfl).cell 5)
 exact xs4 rfl id fun cx=>aH (e:=89) (m:=j+1) (sz:=3) rfl (by kernel_rfl) (by kernel_rfl) (cx.an 11) (cx.an 13) (by omega) (by omega) ((CtxV.holdF cx (cx.init 6 _ rfl) rfl).2.2 m_ hmm_).2 (by have h_:=iK (f:=enC) (sz:=3) aQ m_.1.es;show 0<(List.flatMap enC m_.1.es).length;omega)
 exact xs4 rfl id fun cx=>dZ rfl (by kernel_rfl) (cx.an 14)
 exact xs4 rfl id fun cx=>ae rfl (by kernel_rfl) (cx.an 15) (At.eltc (f:=enC) (k:=1) aQ ((CtxV.holdF cx (cx.init 6 _ rfl) rfl).2.2 m_ hmm_).2 (cR (by omega)) rfl)
 refine svA fun g b W X cx=>?_
 have Nq:g (.tmp 64)= .agg #[vi m_.2.1,vi (((m_.1.es.getD j en0).2.1:Int)),.string (itB m_.1.lv xx.1.right ((m_.1.es.getD j en0).1))]:=(cx.an 7)
 have EG:g (.tmp 74)= .agg #[vi m_.2.1,vi (((m_.1.es.getD (j+1) en0).2.1:Int)),.string ByteArray.empty]:=(cx.an 17)
 exact bS (e:=67) (sz:=3) (xs:=[vi m_.2.1,vi (((m_.1.es.getD j en0).2.1:Int)),.string (itB m_.1.lv xx.1.right ((m_.1.es.getD j en0).1)),vi m_.2.1,vi (((m_.1.es.getD (j+1) en0).2.1:Int)),.string ByteArray.empty]) rfl (by simp[go_sem,Nq,EG]) rfl (by decide) rfl rfl (fun _ _ _ _ _=> .intro)
 refine svA fun g b W X cx=>?_
 exact aw (n:=1) rfl (cx.ou 4) (dTn (cx.an 18)).1 (by kernel_rfl) (by kernel_rfl) (by kernel_rfl) cx (cx.init 1 _ rfl) rfl (nle rfl) (by kernel_rfl) rfl rfl rfl (fun d l X' hs hb hx=>by rw[hb 75];exact hx)
 intro d b X w5 hD cU fr ag
 simp only[exq 11 ((dTn (hD 18 lq)).2),exq 12 ((dTn (hD 19 lq)))] at cU
 simp only[ed 75 ((dTn (hD 18 lq)).1)] at ag
 generalize pb' (b 75)=CM at cU ag
 clear hD;subst ag;clear d b X
 refine aa (wpIn_seq (wpIn_seq (g9 [0,1,3] [[],[4]] [.k 76 (vp gX),.c 77 (vi apg),.k 78 (.bool (decide (0<=apg)))] [0,1,2,3,4,5,6,7,8,9,10,11] [1] [(76,0,3,79)] cU ?_ fun qj cb=>?_)))
 refine⟨?_,trivial⟩
 exact xs4 rfl id fun cx=>ae rfl (by kernel_rfl) (cx.an 0) ((cx.bi 4 rfl).cell 0)
 refine aa ?_
 rcases Bool.eq_false_or_eq_true (decide (0<=apg)) with kr|kr
 have l6:0<=apg:=by simpa using kr
 refine wpIn_cond_true (show Act.eval _ _= .bool true from(congrArg Value.bool kr)) (wpIn_seq (bh [0,1,3,7] [[],[7],[],[4]] [[],[],[],[12]] [[],[],[],[4]] [.k 79 (.pointer (some ⟨BV,2,none⟩)),.c 80 (vi xx.1.right),.k 81 (.pointer (some ⟨gX,2,none⟩)),.n] (fun ix d b X=>match ix with|0|1|2=>True|3=>X 12=eB gX 84 #[vi apg,vi an.lv,vi xx.1.right,.string an.high,.bool an.dead,.slice AA an.es.length ac,vi ((an.free:Int))]|_=>True) [0,1,2,3,5,6,7,8,9,10,11,12] [1,3] [(79,0,3,82)] cb ?_ ?_ ?_))
 exact fun ix _ _ _ _ _ _ hs hb hx h=>match ix,h with
 |3,h=>by dsimp only;rw[<-hx 12 rfl];exact h
 |0,_|1,_|2,_|_+4,_=>trivial
 refine⟨?_,?_,trivial⟩
 exact xs4 rfl id fun cx=>ae rfl (by kernel_rfl) (cx.an 0) ((cx.bi 7 rfl).cell 2)
 refine svA fun g b W X cx=>?_
 exact aw (n:=1) rfl (cx.an 2) (cx.an 1) (by kernel_rfl) (by kernel_rfl) (by kernel_rfl) cx (cx.init 4 _ rfl) rfl (nle rfl) (by kernel_rfl) rfl rfl rfl (fun _ _ _ _ _=>id)
 intro d b X Fl hD fX fr ag
 simp only[exq 12 ((dTn (hD 3 lq)))] at fX
 clear hD;subst ag;clear d b X
 refine aa (bh [0,0,2,0,8,30,62,127,255] [[10],[],[11],[11],[],[],[],[12,9],[10]] [[],[],[],[],[],[],[12],[13],[14]] [[],[],[],[],[],[],[],[9],[10]] [.c 82 (.slice ((some ⟨CM,0,none⟩)) 2 2),.k 83 (vp gX),.c 84 (vi apg),.c 85 (.agg #[vi apg,vi an.lv,vi xx.1.right,.string an.high,.bool an.dead,.slice AA an.es.length ac,vi ((an.free:Int))]),.c 86 (.string (hdB an.lv xx.1.right an.dead an.high)),.k 87 (.agg #[vi apg,vi 0,.string (hdB an.lv xx.1.right an.dead an.high)]),.a 88,.a 89,.n] (fun ix d b X=>match ix with|0|1|2|3|4|5=>True|6=>d 88= .slice ((some ⟨(pb' (b 88)),0,none⟩)) 1 1/\X 12=eO 67 3 (.slice ((some ⟨(pb' (b 88)),0,none⟩)) 1 1) 1 (edC (apg,0,hdB an.lv xx.1.right an.dead an.high))|7=>d 89= .slice (sA (b 89)) 3 (sC (b 89))/\X 13=eO 67 3 (.slice (sA (b 89)) 3 (sC (b 89))) 3 ((([(m_.2.1,((m_.1.es.getD j en0).2.1:Int),itB m_.1.lv xx.1.right ((m_.1.es.getD j en0).1)),(m_.2.1,((m_.1.es.getD (j+1) en0).2.1:Int),ByteArray.empty)]:List EdT)++[(apg,0,hdB an.lv xx.1.right an.dead an.high)]).flatMap edC)|8=>X 14=eB bx 28 #[.slice (sA (b 89)) 3 (sC (b 89))]|_=>True) [0,1,2,3,4,5,6,7,8,11,12,13,14] [0,2,3,4,6,7,8] [(82,0,8,90)] fX ?_ ?_ ?_)
 exact fun ix _ _ _ _ _ _ hs hb hx h=>match ix,h with
 |6,h=>by dsimp only;rw[<-hs 88 rfl,<-hb 88 rfl,<-hx 12 rfl];exact h
 |7,h=>by dsimp only;rw[<-hs 89 rfl,<-hb 89 rfl,<-hx 13 rfl];exact h
 |8,h=>by dsimp only;rw[<-hb 89 rfl,<-hx 14 rfl];exact h
 |0,_|1,_|2,_|3,_|4,_|5,_|_+9,_=>trivial
 refine⟨?_,?_,?_,?_,?_,?_,?_,trivial⟩
 exact xs4 rfl id fun cx=>ae rfl (by kernel_rfl) (cx.ou 4) ((cx.bi 10 rfl).cell 0)
 exact xs4 rfl id fun cx=>ae rfl (by kernel_rfl) (cx.an 1) ((cx.bi 11 rfl).cell 0)
 exact xs4 rfl id fun cx=>aV (n:=7) rfl (by kernel_rfl) (by kernel_rfl) (cx.ou 8) (cx.bi 11 rfl) (nle rfl) rfl
 exact xsc rfl id rfl rfl fun cx=>⟨_,nl apg an.lv xx.1.right (an.free:Int) an.high an.dead _ _ _ _ (by omega) (by omega) (by first|omega|decide),(bp (cx.an 3))⟩
 refine svA fun g b W X cx=>?_
 have Nr:g (.tmp 87)= .agg #[vi apg,vi 0,.string (hdB an.lv xx.1.right an.dead an.high)]:=(cx.an 5)
 exact bS (e:=67) (sz:=3) (xs:=[vi apg,vi 0,.string (hdB an.lv xx.1.right an.dead an.high)]) rfl (by simp[go_sem,Nr]) rfl (by decide) rfl rfl (fun _ _ _ _ _=> .intro)
 refine svA fun g b W X cx=>?_
 obtain⟨i0,hi0,hz0,hz1,hz2⟩:=info_parts Tryz.infoEdit
 refine bN (n:=2) (m:=1) (nm:=3) (sz:=3) (xs:=([(m_.2.1,((m_.1.es.getD j en0).2.1:Int),itB m_.1.lv xx.1.right ((m_.1.es.getD j en0).1)),(m_.2.1,((m_.1.es.getD (j+1) en0).2.1:Int),ByteArray.empty)]:List EdT).flatMap edC) (news:=edC (apg,0,hdB an.lv xx.1.right an.dead an.high)) (xs':=(([(m_.2.1,((m_.1.es.getD j en0).2.1:Int),itB m_.1.lv xx.1.right ((m_.1.es.getD j en0).1)),(m_.2.1,((m_.1.es.getD (j+1) en0).2.1:Int),ByteArray.empty)]:List EdT)++[(apg,0,hdB an.lv xx.1.right an.dead an.high)]).flatMap edC) rfl (ty:=28) rfl (by kernel_rfl) hi0 hz0 hz1 hz2 rfl (by decide) (cx.an 0) cx (cx.init 9 _ rfl) rfl (dTn (cx.an 6)).1 (by rfl) (At.of_ownN (cx.row (dTn (cx.an 6)).2 rfl)) (by simp[edC,Value.oneCell']) (by simp only[maxLen];omega) (by omega) rfl rfl rfl (by omega) (dw _ _) (fun d l X' hs hb hv hx=>?_)
 exact⟨hv,hx⟩
 refine svA fun g b W X cx=>?_
 exact aw (n:=1) rfl (cx.ou 4) (dTn (cx.an 7)).1 (by kernel_rfl) (by kernel_rfl) (by kernel_rfl) cx (cx.init 10 _ rfl) rfl (nle rfl) (by kernel_rfl) rfl rfl rfl (fun d l X' hs hb hx=>by rw[hb 89];exact hx)
 intro d b X uL hD cE fr ag
 simp only[exq 12 ((dTn (hD 6 lq)).2),exq 13 ((dTn (hD 7 lq)).2),exq 14 ((dTn (hD 8 lq)))] at cE
 simp only[ed 88 ((dTn (hD 6 lq)).1),ed 89 ((dTn (hD 7 lq)).1)] at ag
 generalize pb' (b 88)=Pu,sA (b 89)=Kh,sC (b 89)=Ki at cE ag
 clear hD;subst ag;clear d b X
 refine aa (wpIn_seq (bh [0,1] [[],[6]] [[],[13]] [[],[6]] [.k 90 (.pointer (some ⟨BV,4,none⟩)),.n] (fun ix d b X=>match ix with|0=>True|1=>X 13=eB BV 84 #[vi xx.2.1,vi xx.1.lv,vi xx.1.right,.string xx.1.high,.bool true,.slice xx.2.2.1 xx.1.es.length xx.2.2.2,vi ((xx.1.free:Int))]|_=>True) [0,1,2,3,4,5,7,8,9,10,11,12,13] [1] [(90,0,1,91)] cE ?_ ?_ ?_))
 exact fun ix _ _ _ _ _ _ hs hb hx h=>match ix,h with
 |1,h=>by dsimp only;rw[<-hx 13 rfl];exact h
 |0,_|_+2,_=>trivial
 refine⟨?_,trivial⟩
 refine svA fun g b W X cx=>?_
 exact aw (n:=1) rfl (cx.an 0) (cx.co _) (by kernel_rfl) (by kernel_rfl) (by kernel_rfl) cx (cx.init 6 _ rfl) rfl (nle rfl) (by kernel_rfl) rfl rfl rfl (fun _ _ _ _ _=>id)
 intro d b X LP hD lU fr ag
 simp only[exq 13 ((dTn (hD 1 lq)))] at lU
 clear hD;subst ag;clear d b X
 refine aa (wpIn_seq (bh [0,0,2,0,8,30,62,127,0,256,0,1024,255,5119,16383] [[11],[],[12],[12],[],[],[],[13,10],[],[12],[],[12],[11],[1],[2]] [[],[],[],[],[],[],[13],[14],[],[],[],[],[15],[16],[17]] [[],[],[],[],[],[],[],[10],[],[],[],[],[11],[1],[2]] [.c 91 (.slice Kh 3 Ki),.k 92 (vp BV),.c 93 (vi xx.2.1),.c 94 (.agg #[vi xx.2.1,vi xx.1.lv,vi xx.1.right,.string xx.1.high,.bool true,.slice xx.2.2.1 xx.1.es.length xx.2.2.2,vi ((xx.1.free:Int))]),.c 95 (.string (hdB xx.1.lv xx.1.right true xx.1.high)),.k 96 (.agg #[vi xx.2.1,vi 0,.string (hdB xx.1.lv xx.1.right true xx.1.high)]),.a 97,.a 98,.k 99 (vp BV),.c 100 (vi xx.2.1),.k 101 (.pointer (some ⟨BV,2,none⟩)),.c 102 (vi xx.1.right),.n,.n,.n] (fun ix d b X=>match ix with|0|1|2|3|4|5=>True|6=>d 97= .slice ((some ⟨(pb' (b 97)),0,none⟩)) 1 1/\X 13=eO 67 3 (.slice ((some ⟨(pb' (b 97)),0,none⟩)) 1 1) 1 (edC (xx.2.1,0,hdB xx.1.lv xx.1.right true xx.1.high))|7=>d 98= .slice (sA (b 98)) 4 (sC (b 98))/\X 14=eO 67 3 (.slice (sA (b 98)) 4 (sC (b 98))) 4 (((([(m_.2.1,((m_.1.es.getD j en0).2.1:Int),itB m_.1.lv xx.1.right ((m_.1.es.getD j en0).1)),(m_.2.1,((m_.1.es.getD (j+1) en0).2.1:Int),ByteArray.empty)]:List EdT)++[(apg,0,hdB an.lv xx.1.right an.dead an.high)])++[(xx.2.1,0,hdB xx.1.lv xx.1.right true xx.1.high)]).flatMap edC)|8|9|10|11=>True|12=>X 15=eB bx 28 #[.slice (sA (b 98)) 4 (sC (b 98))]|13=>X 16=eB bv 3 #[vi xx.2.1]|14=>X 17=eB fR 3 #[vi xx.1.right]|_=>True) [0,3,4,5,6,7,8,9,12,13,14,15,16,17] [0,2,3,4,6,7,9,11,12,13,14] [(91,0,12,103)] lU ?_ ?_ ?_))
 exact fun ix _ _ _ _ _ _ hs hb hx h=>match ix,h with
 |6,h=>by dsimp only;rw[<-hs 97 rfl,<-hb 97 rfl,<-hx 13 rfl];exact h
 |7,h=>by dsimp only;rw[<-hs 98 rfl,<-hb 98 rfl,<-hx 14 rfl];exact h
 |12,h=>by dsimp only;rw[<-hb 98 rfl,<-hx 15 rfl];exact h
 |13,h=>by dsimp only;rw[<-hx 16 rfl];exact h
 |14,h=>by dsimp only;rw[<-hx 17 rfl];exact h
 |0,_|1,_|2,_|3,_|4,_|5,_|8,_|9,_|10,_|11,_|_+15,_=>trivial
 refine⟨?_,?_,?_,?_,?_,?_,?_,?_,?_,?_,?_,trivial⟩
 exact xs4 rfl id fun cx=>ae rfl (by kernel_rfl) (cx.ou 4) ((cx.bi 11 rfl).cell 0)
 exact xs4 rfl id fun cx=>ae rfl (by kernel_rfl) (cx.an 1) ((cx.bi 12 rfl).cell 0)
 exact xs4 rfl id fun cx=>aV (n:=7) rfl (by kernel_rfl) (by kernel_rfl) (cx.ou 9) (cx.bi 12 rfl) (nle rfl) rfl
 exact xsc rfl id rfl rfl fun cx=>⟨_,nl xx.2.1 xx.1.lv xx.1.right (xx.1.free:Int) xx.1.high true _ _ _ _ (by omega) (by omega) (by first|omega|decide),(bp (cx.an 3))⟩
 refine svA fun g b W X cx=>?_
 have xR:g (.tmp 96)= .agg #[vi xx.2.1,vi 0,.string (hdB xx.1.lv xx.1.right true xx.1.high)]:=(cx.an 5)
 exact bS (e:=67) (sz:=3) (xs:=[vi xx.2.1,vi 0,.string (hdB xx.1.lv xx.1.right true xx.1.high)]) rfl (by simp[go_sem,xR]) rfl (by decide) rfl rfl (fun _ _ _ _ _=> .intro)
 refine svA fun g b W X cx=>?_
 obtain⟨i0,hi0,hz0,hz1,hz2⟩:=info_parts Tryz.infoEdit
 refine bN (n:=3) (m:=1) (nm:=4) (sz:=3) (xs:=(([(m_.2.1,((m_.1.es.getD j en0).2.1:Int),itB m_.1.lv xx.1.right ((m_.1.es.getD j en0).1)),(m_.2.1,((m_.1.es.getD (j+1) en0).2.1:Int),ByteArray.empty)]:List EdT)++[(apg,0,hdB an.lv xx.1.right an.dead an.high)]).flatMap edC) (news:=edC (xx.2.1,0,hdB xx.1.lv xx.1.right true xx.1.high)) (xs':=((([(m_.2.1,((m_.1.es.getD j en0).2.1:Int),itB m_.1.lv xx.1.right ((m_.1.es.getD j en0).1)),(m_.2.1,((m_.1.es.getD (j+1) en0).2.1:Int),ByteArray.empty)]:List EdT)++[(apg,0,hdB an.lv xx.1.right an.dead an.high)])++[(xx.2.1,0,hdB xx.1.lv xx.1.right true xx.1.high)]).flatMap edC) rfl (ty:=28) rfl (by kernel_rfl) hi0 hz0 hz1 hz2 rfl (by decide) (cx.an 0) cx (cx.init 10 _ rfl) rfl (dTn (cx.an 6)).1 (by rfl) (At.of_ownN (cx.row (dTn (cx.an 6)).2 rfl)) (by simp[edC,Value.oneCell']) (by simp only[maxLen];omega) (by omega) rfl rfl rfl (by omega) (dw _ _) (fun d l X' hs hb hv hx=>?_)
 exact⟨hv,hx⟩
 exact xs4 rfl id fun cx=>ae rfl (by kernel_rfl) (cx.an 8) ((cx.bi 12 rfl).cell 0)
 exact xs4 rfl id fun cx=>ae rfl (by kernel_rfl) (cx.an 10) ((cx.bi 12 rfl).cell 2)
 refine svA fun g b W X cx=>?_
 exact aw (n:=1) rfl (cx.ou 4) (dTn (cx.an 7)).1 (by kernel_rfl) (by kernel_rfl) (by kernel_rfl) cx (cx.init 11 _ rfl) rfl (nle rfl) (by kernel_rfl) rfl rfl rfl (fun d l X' hs hb hx=>by rw[hb 98];exact hx)
 refine svA fun g b W X cx=>?_
 exact aw (n:=1) rfl (cx.ou 5) (cx.an 9) (by kernel_rfl) (by kernel_rfl) (by kernel_rfl) cx (cx.init 1 _ rfl) rfl (nle rfl) (by kernel_rfl) rfl rfl rfl (fun _ _ _ _ _=>id)
 refine svA fun g b W X cx=>?_
 exact aw (n:=1) rfl (cx.ou 6) (cx.an 11) (by kernel_rfl) (by kernel_rfl) (by kernel_rfl) cx (cx.init 2 _ rfl) rfl (nle rfl) (by kernel_rfl) rfl rfl rfl (fun _ _ _ _ _=>id)
 intro d b X Ch hD ej fr ag
 simp only[exq 13 ((dTn (hD 6 lq)).2),exq 14 ((dTn (hD 7 lq)).2),exq 15 ((dTn (hD 12 lq))),exq 16 ((dTn (hD 13 lq))),exq 17 ((dTn (hD 14 lq)))] at ej
 simp only[ed 97 ((dTn (hD 6 lq)).1),ed 98 ((dTn (hD 7 lq)).1)] at ag
 generalize pb' (b 97)=Pv,sA (b 98)=Kj,sC (b 98)=Kk at ej ag
 clear hD;subst ag;clear d b X
 refine aa (wpIn_ret (aq ?_))
 exact⟨false,.inr ⟨rfl,rfl⟩,_,⟨((([(m_.2.1,((m_.1.es.getD j en0).2.1:Int),itB m_.1.lv xx.1.right ((m_.1.es.getD j en0).1)),(m_.2.1,((m_.1.es.getD (j+1) en0).2.1:Int),ByteArray.empty)]:List EdT)++[(apg,0,hdB an.lv xx.1.right an.dead an.high)])++[(xx.2.1,0,hdB xx.1.lv xx.1.right true xx.1.high)]),xx.2.1,xx.1.right,4,Kj,Kk,rfl,(fun r=>by rw[BQ hall (pC (by have h_:=cH;first|exact h_|(rw[Bool.or_false] at h_;exact h_)) hld),hah,if_neg (by omega),ci,hm_];rfl),rfl⟩,ej.pick [11,12,13,10,3] (by decide) rfl⟩
 have l6:¬(0<=apg):=by simpa using kr
 refine wpIn_cond_false (show Act.eval _ _= .bool false from(congrArg Value.bool kr)) (wpIn_skip (aa (wpIn_seq (bh [0,1] [[],[7]] [[],[12]] [[],[7]] [.k 90 (.pointer (some ⟨BV,4,none⟩)),.n] (fun ix d b X=>match ix with|0=>True|1=>X 12=eB BV 84 #[vi xx.2.1,vi xx.1.lv,vi xx.1.right,.string xx.1.high,.bool true,.slice xx.2.2.1 xx.1.es.length xx.2.2.2,vi ((xx.1.free:Int))]|_=>True) [0,1,2,3,4,5,6,8,9,10,11,12] [1] [(90,0,1,91)] cb ?_ ?_ ?_))))
 exact fun ix _ _ _ _ _ _ hs hb hx h=>match ix,h with
 |1,h=>by dsimp only;rw[<-hx 12 rfl];exact h
 |0,_|_+2,_=>trivial
 refine⟨?_,trivial⟩
 refine svA fun g b W X cx=>?_
 exact aw (n:=1) rfl (cx.an 0) (cx.co _) (by kernel_rfl) (by kernel_rfl) (by kernel_rfl) cx (cx.init 7 _ rfl) rfl (nle rfl) (by kernel_rfl) rfl rfl rfl (fun _ _ _ _ _=>id)
 intro d b X Fd hD fW fr ag
 simp only[exq 12 ((dTn (hD 1 lq)))] at fW
 clear hD;subst ag;clear d b X
 refine aa (wpIn_seq (bh [0,0,2,0,8,30,62,127,0,256,0,1024,255,5119,16383] [[10],[],[11],[11],[],[],[],[12,9],[],[11],[],[11],[10],[1],[2]] [[],[],[],[],[],[],[12],[13],[],[],[],[],[14],[15],[16]] [[],[],[],[],[],[],[],[9],[],[],[],[],[10],[1],[2]] [.c 91 (.slice ((some ⟨CM,0,none⟩)) 2 2),.k 92 (vp BV),.c 93 (vi xx.2.1),.c 94 (.agg #[vi xx.2.1,vi xx.1.lv,vi xx.1.right,.string xx.1.high,.bool true,.slice xx.2.2.1 xx.1.es.length xx.2.2.2,vi ((xx.1.free:Int))]),.c 95 (.string (hdB xx.1.lv xx.1.right true xx.1.high)),.k 96 (.agg #[vi xx.2.1,vi 0,.string (hdB xx.1.lv xx.1.right true xx.1.high)]),.a 97,.a 98,.k 99 (vp BV),.c 100 (vi xx.2.1),.k 101 (.pointer (some ⟨BV,2,none⟩)),.c 102 (vi xx.1.right),.n,.n,.n] (fun ix d b X=>match ix with|0|1|2|3|4|5=>True|6=>d 97= .slice ((some ⟨(pb' (b 97)),0,none⟩)) 1 1/\X 12=eO 67 3 (.slice ((some ⟨(pb' (b 97)),0,none⟩)) 1 1) 1 (edC (xx.2.1,0,hdB xx.1.lv xx.1.right true xx.1.high))|7=>d 98= .slice (sA (b 98)) 3 (sC (b 98))/\X 13=eO 67 3 (.slice (sA (b 98)) 3 (sC (b 98))) 3 ((([(m_.2.1,((m_.1.es.getD j en0).2.1:Int),itB m_.1.lv xx.1.right ((m_.1.es.getD j en0).1)),(m_.2.1,((m_.1.es.getD (j+1) en0).2.1:Int),ByteArray.empty)]:List EdT)++[(xx.2.1,0,hdB xx.1.lv xx.1.right true xx.1.high)]).flatMap edC)|8|9|10|11=>True|12=>X 14=eB bx 28 #[.slice (sA (b 98)) 3 (sC (b 98))]|13=>X 15=eB bv 3 #[vi xx.2.1]|14=>X 16=eB fR 3 #[vi xx.1.right]|_=>True) [0,3,4,5,6,7,8,11,12,13,14,15,16] [0,2,3,4,6,7,9,11,12,13,14] [(91,0,12,103)] fW ?_ ?_ ?_))
 exact fun ix _ _ _ _ _ _ hs hb hx h=>match ix,h with
 |6,h=>by dsimp only;rw[<-hs 97 rfl,<-hb 97 rfl,<-hx 12 rfl];exact h
 |7,h=>by dsimp only;rw[<-hs 98 rfl,<-hb 98 rfl,<-hx 13 rfl];exact h
 |12,h=>by dsimp only;rw[<-hb 98 rfl,<-hx 14 rfl];exact h
 |13,h=>by dsimp only;rw[<-hx 15 rfl];exact h
 |14,h=>by dsimp only;rw[<-hx 16 rfl];exact h
 |0,_|1,_|2,_|3,_|4,_|5,_|8,_|9,_|10,_|11,_|_+15,_=>trivial
 refine⟨?_,?_,?_,?_,?_,?_,?_,?_,?_,?_,?_,trivial⟩
 exact xs4 rfl id fun cx=>ae rfl (by kernel_rfl) (cx.ou 4) ((cx.bi 10 rfl).cell 0)
 exact xs4 rfl id fun cx=>ae rfl (by kernel_rfl) (cx.an 1) ((cx.bi 11 rfl).cell 0)
 exact xs4 rfl id fun cx=>aV (n:=7) rfl (by kernel_rfl) (by kernel_rfl) (cx.ou 9) (cx.bi 11 rfl) (nle rfl) rfl
 exact xsc rfl id rfl rfl fun cx=>⟨_,nl xx.2.1 xx.1.lv xx.1.right (xx.1.free:Int) xx.1.high true _ _ _ _ (by omega) (by omega) (by first|omega|decide),(bp (cx.an 3))⟩
 refine svA fun g b W X cx=>?_
 have xR:g (.tmp 96)= .agg #[vi xx.2.1,vi 0,.string (hdB xx.1.lv xx.1.right true xx.1.high)]:=(cx.an 5)
 exact bS (e:=67) (sz:=3) (xs:=[vi xx.2.1,vi 0,.string (hdB xx.1.lv xx.1.right true xx.1.high)]) rfl (by simp[go_sem,xR]) rfl (by decide) rfl rfl (fun _ _ _ _ _=> .intro)
 refine svA fun g b W X cx=>?_
 obtain⟨i0,hi0,hz0,hz1,hz2⟩:=info_parts Tryz.infoEdit
 refine bN (n:=2) (m:=1) (nm:=3) (sz:=3) (xs:=([(m_.2.1,((m_.1.es.getD j en0).2.1:Int),itB m_.1.lv xx.1.right ((m_.1.es.getD j en0).1)),(m_.2.1,((m_.1.es.getD (j+1) en0).2.1:Int),ByteArray.empty)]:List EdT).flatMap edC) (news:=edC (xx.2.1,0,hdB xx.1.lv xx.1.right true xx.1.high)) (xs':=(([(m_.2.1,((m_.1.es.getD j en0).2.1:Int),itB m_.1.lv xx.1.right ((m_.1.es.getD j en0).1)),(m_.2.1,((m_.1.es.getD (j+1) en0).2.1:Int),ByteArray.empty)]:List EdT)++[(xx.2.1,0,hdB xx.1.lv xx.1.right true xx.1.high)]).flatMap edC) rfl (ty:=28) rfl (by kernel_rfl) hi0 hz0 hz1 hz2 rfl (by decide) (cx.an 0) cx (cx.init 9 _ rfl) rfl (dTn (cx.an 6)).1 (by rfl) (At.of_ownN (cx.row (dTn (cx.an 6)).2 rfl)) (by simp[edC,Value.oneCell']) (by simp only[maxLen];omega) (by omega) rfl rfl rfl (by omega) (dw _ _) (fun d l X' hs hb hv hx=>?_)
 exact⟨hv,hx⟩
 exact xs4 rfl id fun cx=>ae rfl (by kernel_rfl) (cx.an 8) ((cx.bi 11 rfl).cell 0)
 exact xs4 rfl id fun cx=>ae rfl (by kernel_rfl) (cx.an 10) ((cx.bi 11 rfl).cell 2)
 refine svA fun g b W X cx=>?_
 exact aw (n:=1) rfl (cx.ou 4) (dTn (cx.an 7)).1 (by kernel_rfl) (by kernel_rfl) (by kernel_rfl) cx (cx.init 10 _ rfl) rfl (nle rfl) (by kernel_rfl) rfl rfl rfl (fun d l X' hs hb hx=>by rw[hb 98];exact hx)
 refine svA fun g b W X cx=>?_
 exact aw (n:=1) rfl (cx.ou 5) (cx.an 9) (by kernel_rfl) (by kernel_rfl) (by kernel_rfl) cx (cx.init 1 _ rfl) rfl (nle rfl) (by kernel_rfl) rfl rfl rfl (fun _ _ _ _ _=>id)
 refine svA fun g b W X cx=>?_
 exact aw (n:=1) rfl (cx.ou 6) (cx.an 11) (by kernel_rfl) (by kernel_rfl) (by kernel_rfl) cx (cx.init 2 _ rfl) rfl (nle rfl) (by kernel_rfl) rfl rfl rfl (fun _ _ _ _ _=>id)
 intro d b X y6 hD cd fr ag
 simp only[exq 12 ((dTn (hD 6 lq)).2),exq 13 ((dTn (hD 7 lq)).2),exq 14 ((dTn (hD 12 lq))),exq 15 ((dTn (hD 13 lq))),exq 16 ((dTn (hD 14 lq)))] at cd
 simp only[ed 97 ((dTn (hD 6 lq)).1),ed 98 ((dTn (hD 7 lq)).1)] at ag
 generalize pb' (b 97)=Pw,sA (b 98)=Kl,sC (b 98)=Km at cd ag
 clear hD;subst ag;clear d b X
 refine aa (wpIn_ret (aq ?_))
 exact⟨false,.inr ⟨rfl,rfl⟩,_,⟨(([(m_.2.1,((m_.1.es.getD j en0).2.1:Int),itB m_.1.lv xx.1.right ((m_.1.es.getD j en0).1)),(m_.2.1,((m_.1.es.getD (j+1) en0).2.1:Int),ByteArray.empty)]:List EdT)++[(xx.2.1,0,hdB xx.1.lv xx.1.right true xx.1.high)]),xx.2.1,xx.1.right,3,Kl,Km,rfl,(fun r=>by rw[BQ hall (pC (by have h_:=cH;first|exact h_|(rw[Bool.or_false] at h_;exact h_)) hld),hah,if_pos (by omega),ci,hm_];rfl),rfl⟩,cd.pick [10,11,12,9,4] (by decide) rfl⟩
 rintro D5 xL L5 XS_ E_ ⟨apg,an,AA,ac,hall,hah,hap,han,rfl⟩ hZ_ jg
 have nK:St w [] [eB dK 3 #[vi root],eB bx 28 #[.slice none 0 0],eB bv 3 #[vi 0],eB fR 3 #[vi 0],eB pq 131 #[.slice e8 (xs.length) jS],eB gX 84 #[vi apg,vi an.lv,vi an.right,.string an.high,.bool an.dead,.slice AA an.es.length ac,vi ((an.free:Int))],eCX e8 xs t6,E_,fg D5] xL:=jg
 clear jg
 refine ax (aa (wp_seq (ak [0,1,3] [[1],[2],[3]] [[9],[10],[11]] [[1],[2],[3]] [.n,.n,.n] (fun ix d b X=>match ix with|0=>X 9=eB bx 28 #[.slice none 0 0]|1=>X 10=eB bv 3 #[vi (-1)]|2=>X 11=eB fR 3 #[vi (-1)]|_=>True) [0,4,5,6,7,8,9,10,11] [0,1,2] [] nK ?_ ?_ ?_)))
 exact fun ix _ _ _ _ _ _ hs hb hx h=>match ix,h with
 |0,h=>by dsimp only;rw[<-hx 9 rfl];exact h
 |1,h=>by dsimp only;rw[<-hx 10 rfl];exact h
 |2,h=>by dsimp only;rw[<-hx 11 rfl];exact h
 |_+3,_=>trivial
 refine⟨?_,?_,?_,trivial⟩
 refine svA fun g b W X cx=>?_
 exact aw (n:=1) rfl (cx.ou 4) (cx.co _) (by kernel_rfl) (by kernel_rfl) (by kernel_rfl) cx (cx.init 1 _ rfl) rfl (nle rfl) (by kernel_rfl) rfl rfl rfl (fun _ _ _ _ _=>id)
 refine svA fun g b W X cx=>?_
 exact aw (n:=1) rfl (cx.ou 5) (cx.co _) (by kernel_rfl) (by kernel_rfl) (by kernel_rfl) cx (cx.init 2 _ rfl) rfl (nle rfl) (by kernel_rfl) rfl rfl rfl (fun _ _ _ _ _=>id)
 refine svA fun g b W X cx=>?_
 exact aw (n:=1) rfl (cx.ou 6) (cx.co _) (by kernel_rfl) (by kernel_rfl) (by kernel_rfl) cx (cx.init 3 _ rfl) rfl (nle rfl) (by kernel_rfl) rfl rfl rfl (fun _ _ _ _ _=>id)
 intro d b X Fa hD gG fr ag
 simp only[exq 9 ((dTn (hD 0 lq))),exq 10 ((dTn (hD 1 lq))),exq 11 ((dTn (hD 2 lq)))] at gG
 clear hD;subst ag;clear d b X
 refine aa (wp_ret ?_)
 refine lg (L:=[eB dK 3 #[vi root],eB pq 131 #[.slice e8 (xs.length) jS],eB gX 84 #[vi apg,vi an.lv,vi an.right,.string an.high,.bool an.dead,.slice AA an.es.length ac,vi ((an.free:Int))],eCX e8 xs t6,E_,eB bx 28 #[.slice none 0 0],eB bv 3 #[vi (-1)],eB fR 3 #[vi (-1)]]) (gG.pick [0,1,2,3,4,6,7,8,5] (by decide) rfl) fun Wt29 ht29=>?_
 refine⟨.tuple #[.slice none 0 0,vi (-1),vi (-1)],(b9 Tryz.results22 (rpc (ht29.blk 5 rfl) 0) (rpc (ht29.blk 6 rfl) 0) (rpc (ht29.blk 7 rfl) 0)),?_⟩
 have hn30:=bT ht29 67 3
 simp only[List.cons_append,List.nil_append] at hn30
 exact BG (O:=[]) (by rw[oI,<-hZ_.2.1 rfl,<-iL,show (XS_.map pgN)=XS_.map pgN++[] from(List.append_nil _).symm,kN hall];rfl) (hn30.pick [8] (by decide) rfl)
 rintro D5 xL L5 XS_ E_ ⟨O,lf,rt,on,OA,oc,hon,hun,rfl⟩ hZ_ jg
 have nK:St w [] [eB bx 28 #[.slice OA on oc],eB bv 3 #[vi lf],eB fR 3 #[vi rt],eO 67 3 (.slice OA on oc) on (O.flatMap edC),E_,fg D5] xL:=jg
 clear jg
 refine aq (af ?_)
 refine lg (L:=[eB bx 28 #[.slice OA on oc],eB bv 3 #[vi lf],eB fR 3 #[vi rt],eO 67 3 (.slice OA on oc) on (O.flatMap edC),E_]) (nK.pick [0,1,2,3,4,5] (by decide) rfl) fun Wt31 ht31=>?_
 refine⟨.tuple #[.slice OA on oc,vi lf,vi rt],(b9 Tryz.results22 (rpc (ht31.blk 0 rfl) 0) (rpc (ht31.blk 1 rfl) 0) (rpc (ht31.blk 2 rfl) 0)),?_⟩
 subst hon;obtain⟨r_,hr_⟩:=hZ_.2.2;exact BG (by rw[oI,<-hr_,<-iL];exact hun r_) (ht31.pick [3] (by decide) rfl)
end
end Go.Proofs.YtjlcoglmjldjbaaGreat
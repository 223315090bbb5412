import Derived.Test.YtcdjaepgahbhfaaGreatZ2
import Derived.Maps.OwnSet
import Derived.Maps.Views
import Derived.Carry
import Derived.StringKeys
import Derived.Maps.RangeWalk
import Derived.Laws.IdiomRangeMap
import Derived.Laws.RangeString
import Derived.Recover
set_option linter.unusedVariables false
set_option linter.unusedSimpArgs false
set_option maxRecDepth 100000
set_option maxHeartbeats 16000000
namespace Go.Proofs.YtcdjaepgahbhfaaGreat
section
open Go.RowKit
theorem wm:(⟨#[]⟩:ByteArray).toList=[]:=by rw[ByteArray.toList_eq]
theorem KA{ss:List ByteArray}{k:Nat}(h0:0<k)(he:((ss.getD (k-1) ByteArray.empty).toList==(⟨#[]⟩:ByteArray).toList)=true):fS ss (k-1)=fS ss k:=by
 obtain⟨j,rfl⟩:∃j,k=j+1:=⟨k-1,by omega⟩
 rw[iY,Nat.add_sub_cancel,if_pos]
 have h1:=eq_of_beq he
 rw[Nat.add_sub_cancel] at h1
 rw[h1,wm];rfl
theorem Jp{ss:List ByteArray}{k:Nat}(he:(decide (0<(k:Int))&&((ss.getD (k-1) ByteArray.empty).toList==(⟨#[]⟩:ByteArray).toList))=false):fS ss k=k:=by
 cases k with
 |zero=>rfl
 |succ j=>
  rw[decide_eq_true (by omega),Bool.true_and,Nat.add_sub_cancel] at he
  rw[iY,if_neg]
  intro h2
  rw[List.isEmpty_iff.1 h2] at he
  rw[wm] at he;exact absurd he (by decide)
theorem At.take_mapS{w:World}{A:Option Addr}{ls:List ByteArray}(h:At w A (ls.map Value.string))(m:Nat):At w A ((ls.take m).map Value.string):=by rw[List.map_take];exact h.take m
theorem BR{ss:List ByteArray}{i:Nat}(h:i<ss.length):aU (ss.take (i+1))=aU (ss.take i)+(2+(ss.getD i ByteArray.empty).size):=by rw[ng ss i h,List.getD_eq_getElem?_getD,List.getElem?_eq_getElem h];rfl
theorem DM{ss:List ByteArray}(h:dO ss)(i:Nat):(ss.getD i ByteArray.empty).size<=1000000:=by
 rw[List.getD_eq_getElem?_getD]
 rcases e:ss[i]? with _|s
 exact Nat.zero_le _
 exact h.2 s (List.mem_of_getElem? e)
theorem Dk{ss:List ByteArray}(h:∀s∈ss,s.size<=400)(i:Nat):(ss.getD i ByteArray.empty).size<=400:=by
 rw[List.getD_eq_getElem?_getD]
 rcases e:ss[i]? with _|s
 exact Nat.zero_le _
 exact h s (List.mem_of_getElem? e)
theorem sa(ss:List ByteArray):cO (af ss)=cO ss:=by rw[cO,cO,oJ]
theorem Cx(ss:List ByteArray):ss.take (af ss).length=af ss:=by rw[ct];rfl
def fQ(p:PgS)(er:Int)(w:World)(e:Ending)(w':World):Prop:=∃A c,e= .returned (.agg #[.int .i64 p.1,.int .i64 p.2.1,.slice A p.2.2.length c,.int .i64 er])/\w'.ownsRow w.heap.size 9 1 (.slice A p.2.2.length c) p.2.2.length (p.2.2.map Value.string)/\Ext w w'
def o8(p:PgS)(w:World)(e:Ending)(w':World):Prop:=∃A c,e= .returned (.agg #[.int .i64 p.1,.int .i64 p.2.1,.slice A p.2.2.length c])/\w'.ownsRow w.heap.size 9 1 (.slice A p.2.2.length c) p.2.2.length (p.2.2.map Value.string)/\Ext w w'
theorem fQ.zero{er:Int}{w w':World}(h:Ext w w'):fQ br er w (.returned (.agg #[.int .i64 0,.int .i64 0,sn,.int .i64 er])) w':=⟨none,0,rfl,World.ownsRow_nil _ _ _ _,h⟩
def eu(p:PgS)(e:EdT)(n:Int)(w:World):Ending->World->Prop:=if doE p e n=0 then fQ (doV p e n) 0 w else fQ br (doE p e n) w
theorem eu.bad{p:PgS}{e:EdT}{n er:Int}{w w':World}{e':Ending}(h:doE p e n=er)(h0:er≠0)(hp:fQ br er w e' w'):eu p e n w e' w':=by
 subst h;rw[eu,if_neg h0];exact hp
theorem eu.good{p:PgS}{e:EdT}{n:Int}{w w':World}{e':Ending}{q:PgS}(h:doE p e n=0)(hq:doV p e n=q)(hp:fQ q 0 w e' w'):eu p e n w e' w':=by
 subst hq;rw[eu,if_pos h];exact hp
def jQ(p:PgS)(sl:Int)(s:ByteArray)(w:World):Ending->World->Prop:=if dh p.1 p.2.1 p.2.2 sl s=0 then fQ (p.1,p.2.1,af (ba p.2.2 sl.toNat s)) 0 w else fQ br (dh p.1 p.2.1 p.2.2 sl s) w
theorem jQ.bad{p:PgS}{sl:Int}{s:ByteArray}{er:Int}{w w':World}{e':Ending}(h:dh p.1 p.2.1 p.2.2 sl s=er)(h0:er≠0)(hp:fQ br er w e' w'):jQ p sl s w e' w':=by
 subst h;rw[jQ,if_neg h0];exact hp
theorem jQ.good{k l:Int}{ss:List ByteArray}{m:Nat}{s:ByteArray}{w w':World}{e':Ending}(h:dh k l ss (m:Int) s=0)(hp:fQ (k,l,af (ba ss m s)) 0 w e' w'):jQ (k,l,ss) (m:Int) s w e' w':=by
 rw[jQ,if_pos h,Int.toNat_natCast];exact hp
theorem HH{p:PgS}{sl:Int}{s:ByteArray}{f:FuncId}{args:Array Value}{w:World}(he:dh p.1 p.2.1 p.2.2 sl s=0)(hc:Calls Tryz.prog f args w (jQ p sl s w)):Calls Tryz.prog f args w (fQ (p.1,p.2.1,af (ba p.2.2 sl.toNat s)) 0 w):=by
 rw[jQ,if_pos he] at hc;exact hc
theorem F5{p:PgS}{sl:Int}{s:ByteArray}{f:FuncId}{args:Array Value}{w:World}{er:Int}(he:dh p.1 p.2.1 p.2.2 sl s=er)(h0:er≠0)(hc:Calls Tryz.prog f args w (jQ p sl s w)):Calls Tryz.prog f args w (fQ br er w):=by
 subst he;rw[jQ,if_neg h0] at hc;exact hc
theorem lI(k l:Int)(A:Option Addr)(c:Nat)(ss:List ByteArray)(w:World)(hA:At w A (ss.map Value.string))(hl:ss.length<=100000)(hc:ss.length<=c):
  Calls Tryz.prog 93 #[.agg #[.int .i64 k,.int .i64 l,.slice A ss.length c]] w (o8 (k,l,af ss) w):=by
 go_enter Tryz.func93,Tryz.ntmps93
 have ak:=St.start w
 refine wq (sqr ?_)
 refine b9 #[vi k,vi l,.slice A ss.length c] ak fun aA W1 aB=>?_
 refine cf #[vi 0,vi 0,sn] aB fun kx W2 bE=>?_
 refine aa (wq (sqr (sqp [.k 4 (po aA 2)] ?_)))
 refine au 0 bE ?_
 refine sqp [.k 6 (vi ((ss.length:Int))),.m 3 6] ?_
 refine aa (wq (wp_block ?_))
 refine aM (fun t_ mz az W=>∃k1:Nat,k1<=ss.length/\fS ss k1=fS ss ss.length/\mz=k1+1/\az=⟨(ovr (jv az) [(3,3,0,[vi ((k1:Int))]),(3,7,13,[])] t_).toArray,[]⟩/\St w [] [eB aA 48 #[vi k,vi l,.slice A ss.length c],eB kx 48 #[vi 0,vi 0,sn]] W) (ss.length+1) ?_ ?_
 exact⟨ss.length,Nat.le_refl _,rfl,rfl,(by kernel_rfl),bE.pk [0,1]⟩
 rintro n7 a7 W7 ⟨k1,hk,ht,rfl,hj_,aZ⟩
 refine ovz hj_ fun Fr=>?_
 refine wq (wq (sqr (sqp [.m 7 3,.k 8 (.bool (decide (0<(k1:Int)))),.m 9 8] ?_)))
 refine d5 9 [10,11,12,13,14,15,16] ?_ rfl (fun hq=>?_) ?_
 rotate_left
 have hq_:=of_decide_eq_true hq
 refine sqp [.k 10 (po aA 2)] ?_
 refine au 0 aZ ?_
 refine sqp [.m 12 3,sI 13 ((k1:Int)-1) (by omega)] ?_
 refine sql (.pointer (some ((ad A).add ((k1-1))))) aZ (fun cx=>bG (e:=9) (m:=(k1-1)) rfl (by kernel_rfl) (by kernel_rfl) (cx.ou 11) (cx.ou 13) (by omega) (by omega) (hA.ext cx.upd.to_ext) (by simp)) ?_
 refine sql (.string (ss.getD (k1-1) ByteArray.empty)) aZ (fun cx=>ae rfl (by kernel_rfl) (cx.ou 14) (At.cellAd (hA.ext cx.upd.to_ext) (js (by omega)))) ?_
 refine sqp [.k 16 (.bool ((ss.getD (k1-1) ByteArray.empty).toList==((⟨#[]⟩:ByteArray)).toList))] ?_
 exact sqe
 refine c8 ?_
 refine sqp [sPa 17 (decide (0<(k1:Int))) ((ss.getD (k1-1) ByteArray.empty).toList==((⟨#[]⟩:ByteArray)).toList)] ?_
 refine aa (wbs (fun j7=>?_) fun j7=>?_)
 have j8:=j7
 simp only[zB] at j8
 obtain⟨LR,LS⟩:=j8
 refine wp_skip (aa (wp_block (sqr (sqp [.m 18 3,sI 19 ((k1:Int)-1) (by omega),.m 3 19] ?_))))
 refine av (aa ?_)
 rw[show ((k1:Int)-1)=((k1-1:Nat):Int) by omega]
 refine⟨((k1-1))+1,by omega,?_⟩
 exact⟨(k1-1),by omega,(KA (by omega) (by assumption)).trans ht,rfl,(by kernel_rfl),aZ.pk [0,1]⟩
 have j8:=j7
 simp only[zB] at j8
 refine wp_exit (al (al (bh (aa (wq ?_)))))
 obtain rfl:k1=(af ss).length:=by rw[ct,<-ht,Jp j7]
 refine aE [0,1,0,4,0,0,32,0,224,496,1023,2047] [[],[0],[],[0],[],[],[0],[],[],[2],[],[1]] [[],[],[],[],[2],[],[],[],[],[3],[],[4]] [[],[],[],[],[],[],[],[],[],[2],[],[1]] [.k 20 (vp aA),.c 21 (vi k),.k 22 (po aA 1),.c 23 (vi l),.a 24,.k 25 (po aA 2),.c 26 (.slice A ss.length c),.k 27 (vi (((af ss).length:Int))),.c 28 (.slice A (((af ss).length)) c),.a 29,.a 30,.n] (fun ix d b X=>match ix with|0|1|2|3=>True|4=>d 24= .slice (sA (b 24)) 0 0/\X 2=eO 9 1 (.slice (sA (b 24)) 0 0) 0 ([])|5|6|7|8=>True|9=>d 29= .slice (sA (b 29)) (((af ss).length)) (sC (b 29))/\X 3=eO 9 1 (.slice (sA (b 29)) (((af ss).length)) (sC (b 29))) (((af ss).length)) ((af ss).map Value.string)|10=>d 30= .agg #[vi k,vi l,.slice (sA (b 29)) (((af ss).length)) (sC (b 29))]|11=>X 4=eB kx 48 #[vi k,vi l,.slice (sA (b 29)) (((af ss).length)) (sC (b 29))]|_=>True) [0,3,4] [1,3,4,6,8,9,10,11] [(20,0,11,31)] aZ ?_ ?_ ?_
 exact fun ix _ _ _ _ _ _ hs hb hx h=>match ix,h with
 |4,h=>by dsimp only;rw[<-hs 24 rfl,<-hb 24 rfl,<-hx 2 rfl];exact h
 |9,h=>by dsimp only;rw[<-hs 29 rfl,<-hb 29 rfl,<-hx 3 rfl];exact h
 |10,h=>by dsimp only;rw[<-hs 30 rfl,<-hb 29 rfl];exact h
 |11,h=>by dsimp only;rw[<-hb 29 rfl,<-hx 4 rfl];exact h
 |0,_|1,_|2,_|3,_|5,_|6,_|7,_|8,_|_+12,_=>trivial
 refine⟨?_,?_,?_,?_,?_,?_,?_,?_,trivial⟩
 exact xs4 rfl id fun cx=>ae rfl (by kernel_rfl) (cx.an 0) ((cx.bi 0 rfl).cell 0)
 exact xs4 rfl id fun cx=>ae rfl (by kernel_rfl) (cx.an 2) ((cx.bi 0 rfl).cell 1)
 refine svA fun f b W X cx=>?_
 exact dz (e:=9) (xs:=[]) rfl (by simp[go_sem]) rfl (by decide) rfl rfl (fun _ _ _ _ _=> .intro)
 exact xs4 rfl id fun cx=>ae rfl (by kernel_rfl) (cx.an 5) ((cx.bi 0 rfl).cell 2)
 exact xs4 rfl id fun cx=>pT (e:=9) (sz:=1) (m:=((af ss).length)) rfl (by kernel_rfl) (by kernel_rfl) (cx.an 6) (cx.an 7) (by omega) (by omega)
 refine svA fun f b W X cx=>?_
 obtain⟨i0,hi0,hz0,hz1,hz2⟩:=info_parts Tryz.infoStr
 refine fg (n:=0) (m:=((af ss).length)) (nm:=((af ss).length)) (xs:=[]) (news:=(ss.take ((af ss).length)).map Value.string) (xs':=(af ss).map Value.string) rfl (ty:=46) rfl (by kernel_rfl) hi0 hz0 hz1 hz2 rfl (dTn (cx.an 4)).1 cx (dTn (cx.an 4)).2 rfl (cx.an 8) (by first|(simp;done)|(simp;omega)) (At.take_mapS (hA.ext cx.upd.to_ext) ((af ss).length)) (vy _) (by simp only[maxLen];omega) (by omega) rfl rfl rfl (by omega) ((by rw[List.nil_append,Cx])) (fun d g X' hs hb hv hx=>?_)
 exact⟨hv,hx⟩
 exact sv rfl rfl rfl rfl rfl _ (fun _ _ _ h=>h) (fun b g h=>by rw[h 29 (by decide)]) fun f b W X cx=>jP rfl (pmc (cx.an 1) (pmc (cx.an 3) (pmc (dTn (cx.an 9)).1 pmn))) (by kernel_rfl)
 refine svA fun f b W X cx=>?_
 exact bv (n:=3) rfl (cx.ou 2) (dTn (cx.an 10)) (by kernel_rfl) (by kernel_rfl) (by kernel_rfl) cx (cx.init 1 _ rfl) rfl (nle rfl) (by kernel_rfl) rfl rfl rfl (fun d g X' hs hb hx=>by rw[hb 29];exact hx)
 intro d b X sk hD cv fr aD
 simp only[exq 3 ((dTn (hD 9 lq)).2),exq 4 ((dTn (hD 11 lq)))] at cv
 simp only[ed 24 ((dTn (hD 4 lq)).1),ed 29 ((dTn (hD 9 lq)).1),ed 30 ((dTn (hD 10 lq)))] at aD
 generalize sA (b 24)=Qp,sA (b 29)=L8,sC (b 29)=Ma at cv aD
 clear hD;subst aD;clear d b X
 refine aa (wp_ret ?_)
 refine bpr (.agg #[vi k,vi l,.slice L8 (((af ss).length)) Ma]) (bF (n:=3) Tryz.results93 rfl (by kernel_rfl) (by kernel_rfl) (cv.blk 2 rfl) rfl) ?_
 exact⟨_,_,rfl,cv.own' 1 rfl,cv.ext⟩
theorem w3(k l:Int)(A:Option Addr)(c:Nat)(ss:List ByteArray)(w:World)(hA:At w A (ss.map Value.string))(hS:dO ss)(hc:ss.length<=c):
  Calls Tryz.prog 172 #[.agg #[.int .i64 k,.int .i64 l,.slice A ss.length c]] w (Ret (.int .i64 (cO ss:Int)) w):=by
 go_enter Tryz.func172,Tryz.ntmps172
 have ak:=St.start w
 refine wq (sqr ?_)
 refine b9 #[vi k,vi l,.slice A ss.length c] ak fun aA W1 aB=>?_
 refine sqp [.k 2 (vi 0)] ?_
 refine aa (wq (sqr (sqp [.k 3 (vi 14)] ?_)))
 refine aa (wq (sqr ?_))
 refine bJ 0 3 aB ?_
 refine iC (fun qN tk=> .agg #[vi k,vi l,.slice qN ((af ss).length) tk]) (fun qN tk=>eO 9 1 (.slice qN ((af ss).length) tk) ((af ss).length) ((af ss).map Value.string)) aB (fun cx=>⟨_,(lI k l _ _ ss _ (hA.ext cx.upd.to_ext) (by have:=hS.1;omega) (by omega)).mono (by rintro e W1 ⟨A4,c4,rfl,ho,hx⟩;exact⟨_,_,rfl,St.one hx (cg ho)⟩),(aw (cx.ou 6))⟩) fun qN tk W5 aP=>?_
 refine cf #[vi 0,vi 0,sn] aP fun H9 W6 bP=>?_
 refine aY (n:=3) 2 #[vi k,vi l,.slice qN ((af ss).length) tk] bP fun W7 aZ=>?_
 refine aa (wq (wq (sqr (sqp [.k 5 (vi 0)] ?_))))
 refine aa (wp_block ?_)
 obtain⟨pl,hpl⟩:∃z,af ss=z:=⟨_,rfl⟩
 have hps:dO pl:=hpl ▸ nG hS
 have hpz:=hps.1
 rw[hpl] at aZ
 refine aM (fun t_ mz az W=>∃j:Nat,j<=pl.length/\mz=pl.length-j/\az=⟨(ovr (jv az) [(3,3,0,[vi (14+(aU (pl.take j):Int))]),(1,5,0,[vi ((j:Int))]),(2,8,16,[])] t_).toArray,[]⟩/\St w [] [eB aA 48 #[vi k,vi l,.slice A ss.length c],eO 9 1 (.slice qN pl.length tk) pl.length (pl.map Value.string),eB H9 48 #[vi k,vi l,.slice qN pl.length tk]] W) (pl.length-0) ?_ ?_
 exact⟨0,Nat.zero_le _,rfl,(by kernel_rfl),aZ.pk [0,1,2]⟩
 rintro n9 a9 W9 ⟨j,hj,rfl,hj_,cG⟩
 refine ovz hj_ fun Qq=>?_
 refine wq (wq (sqr (sqp [.m 8 5,.k 9 (po H9 2)] ?_)))
 refine au 2 cG ?_
 refine sqp [.k 11 (vi ((pl.length:Int))),.k 12 (.bool (decide ((j:Int)<(pl.length:Int))))] ?_
 refine aa (wds (fun dJ kL=>?_) fun dJ kL=>?_)
 refine wp_skip (aa (wq (wp_block ?_)))
 have hs1_:=DM hps j
 have hs2_:=hps.take j
 refine sqr (sqp [.m 15 3,sI 16 ((14+(aU (pl.take j):Int))+2) (by omega),.k 17 (po H9 2)] ?_)
 refine au 2 cG ?_
 refine sqp [.m 19 5] ?_
 refine sql (.pointer (some ((ad qN).add j))) cG (fun cx=>bG (e:=9) (m:=j) rfl (by kernel_rfl) (by kernel_rfl) (cx.ou 18) (cx.ou 19) (by omega) (by omega) (At.of_own (cx.ri 1 rfl)) (by simp)) ?_
 refine sql (.string (pl.getD j ByteArray.empty)) cG (fun cx=>ae rfl (by kernel_rfl) (cx.ou 20) (At.cellAd (At.of_own (cx.ri 1 rfl)) (js (by omega)))) ?_
 refine sqp [.k 22 (vi (((pl.getD j ByteArray.empty).size:Int))),sI 23 ((14+(aU (pl.take j):Int)+2)+((pl.getD j ByteArray.empty).size:Int)) (by omega),.m 3 23] ?_
 refine av (aa (sqr (sqp [.m 13 5,sI 14 ((j:Int)+1) (by omega),.m 5 14] ?_)))
 refine aa ?_
 rw[show ((14:Int)+(aU (pl.take j):Int)+2+((pl.getD j ByteArray.empty).size:Int))=((14:Int)+(aU (pl.take (j+1)):Int)) by rw[BR (by omega)];omega]
 refine⟨pl.length-((j+1)),by omega,?_⟩
 exact⟨(j+1),by omega,rfl,(by kernel_rfl),cG.pk [0,1,2]⟩
 refine wp_exit (al (al (bh (aa (wq (sqr (sqp [.m 24 3,.m 2 24] ?_)))))))
 refine aa (wp_ret ?_)
 refine bpr (vi (14+(aU (pl.take j):Int))) (ag Tryz.results172 rpt) ?_
 exact Ret.of (by rw[cO,hpl,List.take_of_length_le (by omega)];rfl) cG.ext
theorem s6(k l:Int)(A:Option Addr)(c:Nat)(ss:List ByteArray)(w:World)(hA:At w A (ss.map Value.string))(hr:bw k l ss=true)(hc:ss.length<=c):
  Calls Tryz.prog 143 #[.agg #[.int .i64 k,.int .i64 l,.slice A ss.length c]] w (Ret (.bool true) w):=by
 obtain⟨hk2,hl2,⟨hn24,hb4⟩,hz5⟩:=cR hr
 have hS:=dW hr
 go_enter Tryz.func143,Tryz.ntmps143
 have ak:=St.start w
 refine wq (sqr ?_)
 refine b9 #[vi k,vi l,.slice A ss.length c] ak fun aA W1 aB=>?_
 refine sqp [.k 2 (.bool false)] ?_
 refine aa (wq (wq (sqr (sqp [.k 4 (vp aA)] ?_))))
 refine au 0 aB ?_
 have hd6:(decide (k<0))=false:=(decide_eq_false (by omega))
 refine sqp [.e 6 (.bool (decide (k<0))) (.bool false) (congrArg Value.bool hd6),.k 7 (.bool false)] ?_
 refine dF 7 [8,9,10] rfl rfl ?_
 refine sqp [.k 8 (vp aA)] ?_
 refine au 0 aB ?_
 have hd11:(decide (2<k))=false:=(decide_eq_false (by omega))
 refine sqp [.e 10 (.bool (decide (2<k))) (.bool false) (congrArg Value.bool hd11)] ?_
 refine sqp [.k 11 (.bool false),.k 12 (.bool false)] ?_
 refine dF 12 [13,14,15] rfl rfl ?_
 refine sqp [.k 13 (po aA 1)] ?_
 refine au 0 aB ?_
 have hd17:(decide (l<0))=false:=(decide_eq_false (by omega))
 refine sqp [.e 15 (.bool (decide (l<0))) (.bool false) (congrArg Value.bool hd17)] ?_
 refine sqp [.k 16 (.bool false),.k 17 (.bool false)] ?_
 refine dF 17 [18,19,20] rfl rfl ?_
 refine sqp [.k 18 (po aA 1)] ?_
 refine au 0 aB ?_
 have hd23:(decide (2147483647<l))=false:=(decide_eq_false (by omega))
 refine sqp [.e 20 (.bool (decide (2147483647<l))) (.bool false) (congrArg Value.bool hd23)] ?_
 refine sqp [.k 21 (.bool false),.k 22 (.bool false)] ?_
 refine dF 22 [23,24,25,26] rfl rfl ?_
 refine sqp [.k 23 (po aA 2)] ?_
 refine au 0 aB ?_
 have hd30:(decide (24<(ss.length:Int)))=false:=(decide_eq_false (by omega))
 refine sqp [.k 25 (vi ((ss.length:Int))),.e 26 (.bool (decide (24<(ss.length:Int)))) (.bool false) (congrArg Value.bool hd30)] ?_
 refine sqp [.k 27 (.bool false),.k 28 (.bool false)] ?_
 refine dF 28 [29,30,31] rfl rfl ?_
 refine bJ 0 3 aB ?_
 refine sqk (vi ((cO ss:Int))) aB (fun cx=>⟨_,w3 k l _ _ ss _ (hA.ext cx.upd.to_ext) hS (by omega),(aw (cx.ou 29))⟩) fun w6 ej=>?_
 have hd36:(decide (512<(cO ss:Int)))=false:=(decide_eq_false (by omega))
 refine sqp [.e 31 (.bool (decide (512<(cO ss:Int)))) (.bool false) (congrArg Value.bool hd36)] ?_
 refine sqp [.k 32 (.bool false)] ?_
 refine aa (wcf rfl (wp_skip (aa (wq (wq (sqr (sqp [.k 3 (vi 0)] ?_)))))))
 refine aa (wp_block ?_)
 refine aM (fun t_ mz az W=>∃j:Nat,j<=ss.length/\mz=ss.length-j/\az=⟨(ovr (jv az) [(2,2,1,[vi ((j:Int))]),(29,33,14,[])] t_).toArray,[]⟩/\St w [] [eB aA 48 #[vi k,vi l,.slice A ss.length c]] W) (ss.length-0) ?_ ?_
 exact⟨0,Nat.zero_le _,rfl,(by kernel_rfl),ej.pk [0]⟩
 rintro TM a39 qM ⟨j,hj,rfl,hj_,du⟩
 refine ovz hj_ fun Pa=>?_
 refine wq (wq (sqr (sqp [.m 33 3,.k 34 (po aA 2)] ?_)))
 refine au 0 du ?_
 refine sqp [.k 36 (vi ((ss.length:Int))),.k 37 (.bool (decide ((j:Int)<(ss.length:Int))))] ?_
 refine aa (wds (fun H3 CI=>?_) fun H3 CI=>?_)
 refine wp_skip (aa (wq (wp_block (wq ?_))))
 have hs1_:=Dk hb4 j
 refine sqr (sqp [.k 40 (po aA 2)] ?_)
 refine au 0 du ?_
 refine sqp [.m 42 3] ?_
 refine sql (.pointer (some ((ad A).add j))) du (fun cx=>bG (e:=9) (m:=j) rfl (by kernel_rfl) (by kernel_rfl) (cx.ou 41) (cx.ou 42) (by omega) (by omega) (hA.ext cx.upd.to_ext) (by simp)) ?_
 refine sql (.string (ss.getD j ByteArray.empty)) du (fun cx=>ae rfl (by kernel_rfl) (cx.ou 43) (At.cellAd (hA.ext cx.upd.to_ext) (js (by omega)))) ?_
 have hd53:(decide (400<((ss.getD j ByteArray.empty).size:Int)))=false:=(decide_eq_false (by omega))
 refine sqp [.k 45 (vi (((ss.getD j ByteArray.empty).size:Int))),.e 46 (.bool (decide (400<((ss.getD j ByteArray.empty).size:Int)))) (.bool false) (congrArg Value.bool hd53)] ?_
 refine aa (wcf rfl (wp_skip (av (aa (sqr (sqp [.m 38 3,sI 39 ((j:Int)+1) (by omega),.m 3 39] ?_))))))
 refine aa ?_
 refine⟨ss.length-((j+1)),by omega,?_⟩
 exact⟨(j+1),by omega,rfl,(by kernel_rfl),du.pk [0]⟩
 refine wp_exit (al (al (bh (aa (wq (sqr (sqp [.k 2 (.bool true)] ?_)))))))
 refine aa (wp_ret ?_)
 refine bpr (.bool true) (ag Tryz.results143 rpt) ?_
 exact Ret.of rfl du.ext
theorem E8(k l:Int)(A:Option Addr)(c:Nat)(ss:List ByteArray)(K:Nat)(s:ByteArray)(w:World)(hA:At w A (ss.map Value.string))(hS:dO ss)(h24:ss.length<=24)(hc:ss.length<=c)(hK:K<24)(hs:s.size<=400):
  Calls Tryz.prog 173 #[.agg #[.int .i64 k,.int .i64 l,.slice A ss.length c],.int .i64 ((K:Int)),.string s] w (o8 (k,l,af (ba ss K s)) w):=by
 go_enter Tryz.func173,Tryz.ntmps173
 have ak:=St.start w
 refine wq (sqr ?_)
 refine b9 #[vi k,vi l,.slice A ss.length c] ak fun cQ W1 aB=>?_
 refine cf #[vi 0,vi 0,sn] aB fun zg W2 bE=>?_
 refine aa (wq (sqr ?_))
 refine bJ 0 3 bE ?_
 refine iC (fun qO qP=> .agg #[vi k,vi l,.slice qO ((af ss).length) qP]) (fun qO qP=>eO 9 1 (.slice qO ((af ss).length) qP) ((af ss).length) ((af ss).map Value.string)) bE (fun cx=>⟨_,(lI k l _ _ ss _ (hA.ext cx.upd.to_ext) (by first|omega|(have:=hwS.1;omega)) (by omega)).mono (by rintro e W1 ⟨A4,c4,rfl,ho,hx⟩;exact⟨_,_,rfl,St.one hx (cg ho)⟩),(aw (cx.ou 8))⟩) fun qO qP W4 bb=>?_
 refine cf #[vi 0,vi 0,sn] bb fun zt W5 aP=>?_
 refine aY (n:=3) 3 #[vi k,vi l,.slice qO ((af ss).length) qP] aP fun W6 bP=>?_
 refine aa (wq (wp_block ?_))
 obtain⟨pl,hpl⟩:∃z,af ss=z:=⟨_,rfl⟩
 have hpl24:pl.length<=24:=by rw[<-hpl,ct];exact Nat.le_trans (d4 ss _) h24
 rw[hpl] at bP
 rw[show eO 9 1 (.slice qO pl.length qP) pl.length (pl.map Value.string)=eO 9 1 (.slice qO pl.length qP) pl.length ((dN pl pl.length).map Value.string) from by rw[uf]] at bP
 refine aM (fun t_ mz az W=>∃j:Nat,∃RA:Option Addr,∃RC:Nat,pl.length<=j/\(j<=K+1\/j=pl.length)/\mz=K+1-j/\az=⟨(ovr (jv az) [(10,10,10,[])] t_).toArray,[]⟩/\St w [] [eB cQ 48 #[vi k,vi l,.slice A ss.length c],eB zg 48 #[vi 0,vi 0,sn],eB zt 48 #[vi k,vi l,.slice RA j RC],eO 9 1 (.slice RA j RC) j ((dN pl j).map Value.string)] W) (K+1-pl.length) ?_ ?_
 exact⟨pl.length,qO,qP,Nat.le_refl _,.inr rfl,rfl,(by kernel_rfl),bP.pk [0,1,3,2]⟩
 rintro n7 a7 W7 ⟨j,RA,RC,hj,hj2,rfl,hj_,aZ⟩
 refine ovz hj_ fun Fr=>?_
 refine wq (wq (sqr (sqp [.k 10 (po zt 2)] ?_)))
 refine au 2 aZ ?_
 refine sqp [.k 12 (vi ((j:Int))),.m 13 1,.k 14 (.bool (decide ((j:Int)<=(K:Int))))] ?_
 refine aa (wds (fun f6 i8=>?_) fun f6 i8=>?_)
 refine wp_skip (aa (wp_block (sqr (sqp [.k 15 (po zt 2)] ?_))))
 refine au 2 aZ ?_
 refine d3 (fun x_=>sA x_) (fun uJ=> .slice uJ 1 1) (fun uJ=>eO 9 1 (.slice uJ 1 1) 1 ([.string ⟨#[]⟩])) aZ (by
   refine svA fun b a W X cx=>?_
   exact dz (e:=9) (xs:=[.string ⟨#[]⟩]) rfl (by simp[go_sem,cx.sees.const]) rfl (by decide) rfl rfl (fun _ _ _ _ _=> .intro)) fun uJ qQ dx=>?_
 refine tf (fun x_=>sA x_) (fun x_=>sC x_) (fun ot ov=> .slice ot (j+1) ov) (fun ot ov=>eO 9 1 (.slice ot (j+1) ov) (j+1) ((dN pl (j+1)).map Value.string)) 3 dx (by
   refine svA fun b a W X cx=>?_
   obtain⟨i0,hi0,hz0,hz1,hz2⟩:=info_parts Tryz.infoStr
   refine fg (n:=j) (m:=1) (nm:=j+1) (xs:=(dN pl j).map Value.string) (news:=[.string ⟨#[]⟩]) (xs':=(dN pl (j+1)).map Value.string) rfl (ty:=46) rfl (by kernel_rfl) hi0 hz0 hz1 hz2 rfl (cx.ou 16) cx (cx.init 3 _ rfl) rfl (cx.ou 17) (by first|(simp;done)|(simp;omega)) (At.of_own (cx.ri 4 rfl)) (by simp[Value.oneCell']) (by simp only[maxLen];omega) (by omega) rfl rfl rfl (by omega) (tP hj) (fun d f X' hs hb hv hx=>?_)
   exact⟨hv,hx⟩) fun ot ov sg dt=>?_
 refine sqp [.k 19 (po zt 2)] ?_
 refine aY (n:=1) 2 #[vi k,vi l,.slice ot (j+1) ov] dt fun si dl=>?_
 refine av (aa ?_)
 refine⟨K+1-((j+1)),by omega,?_⟩
 exact⟨(j+1),ot,ov,by omega,by omega,rfl,(by kernel_rfl),dl.pk [0,1,2,3]⟩
 refine wp_exit (al (al (bh (aa (wq ?_)))))
 have hje:=wU hj (show K<j by omega) hj2
 have hjl:=wk hj
 rw[hje] at aZ
 rw[hje] at hjl
 have hwS:=oL hS hK hs h24
 refine sqr (sqp [.k 20 (po zt 2)] ?_)
 refine au 2 aZ ?_
 refine sqp [.m 22 1,.m 23 2] ?_
 refine sql (.pointer (some ((ad RA).add K))) aZ (fun cx=>bG (e:=9) (m:=K) rfl (by kernel_rfl) (by kernel_rfl) (cx.ou 21) (cx.ou 22) (by omega) (by omega) (At.of_own (cx.ri 3 rfl)) ((by simp only[List.length_map];exact hjl))) ?_
 refine sqc (eO 9 1 (.slice RA j RC) j ((ba ss K s).map Value.string)) 3 aZ (by
   refine svA fun b a W X cx=>?_
   exact kI (m:=K) (n:=j) rfl (cx.ou 24) (show _=Value.string s from(cx.ou 23)) (by kernel_rfl) rfl rfl cx (cx.init 3 _ rfl) rfl (by omega) rfl (by rw[<-List.map_set,<-hpl];rfl) rfl rfl (fun _ _ _ _ _=>id)) fun w5 dQ=>?_
 refine aa (wq ?_)
 have hcp26_:=la (dQ.own' 3 rfl)
 have hwl:(ba ss K s).length=j:=by rw[wa,hpl];exact hjl
 subst hwl
 refine sqr ?_
 refine bJ 2 3 dQ ?_
 refine iC (fun iK iL=> .agg #[vi k,vi l,.slice iK ((af (ba ss K s)).length) iL]) (fun iK iL=>eO 9 1 (.slice iK ((af (ba ss K s)).length) iL) ((af (ba ss K s)).length) ((af (ba ss K s)).map Value.string)) dQ (fun cx=>⟨_,(lI k l _ _ (ba ss K s) _ (At.of_own (cx.ri 3 rfl)) (by first|omega|(have:=hwS.1;omega)) (by omega)).mono (by rintro e W1 ⟨A4,c4,rfl,ho,hx⟩;exact⟨_,_,rfl,St.one hx (cg ho)⟩),(aw (cx.ou 25))⟩) fun iK iL zu dR=>?_
 refine aY (n:=3) 1 #[vi k,vi l,.slice iK ((af (ba ss K s)).length) iL] dR fun Fl gl=>?_
 refine aa (wp_ret ?_)
 refine bpr (.agg #[vi k,vi l,.slice iK ((af (ba ss K s)).length) iL]) (bF (n:=3) Tryz.results173 rfl (by kernel_rfl) (by kernel_rfl) (gl.blk 1 rfl) rfl) ?_
 exact⟨_,_,rfl,gl.own' 4 rfl,gl.ext⟩
theorem DR(k l:Int)(A:Option Addr)(c:Nat)(ss:List ByteArray)(slot:Int)(s:ByteArray)(w:World)(hA:At w A (ss.map Value.string))(hr:bw k l ss=true)(hc:ss.length<=c)(hss:s.size<=9223372036854775807):
  Calls Tryz.prog 144 #[.agg #[.int .i64 k,.int .i64 l,.slice A ss.length c],.int .i64 slot,.string s] w (jQ (k,l,ss) slot s w):=by
 obtain⟨hk2,hl2,⟨hn24,hb4⟩,hz5⟩:=cR hr
 have hS:=dW hr
 go_enter Tryz.func144,Tryz.ntmps144
 have ak:=St.start w
 refine wq (sqr ?_)
 refine b9 #[vi k,vi l,.slice A ss.length c] ak fun cQ W1 aB=>?_
 refine cf #[vi 0,vi 0,sn,vi 0] aB fun zg W2 bE=>?_
 refine aa (wq (wq (sqr ?_)))
 refine bJ 0 3 bE ?_
 refine sqk (.bool true) bE (fun cx=>⟨_,s6 k l _ _ ss _ (hA.ext cx.upd.to_ext) hr (by omega),(aw (cx.ou 8))⟩) fun W4 bb=>?_
 refine sqp [.k 10 (.bool false)] ?_
 refine aa (wcf rfl (wp_skip (aa (wq (wq (sqr (sqp [.m 12 1,.k 13 (.bool (decide (slot<0))),.m 14 13] ?_)))))))
 refine sqw 14 [15,16] rfl (fun _=>sqp [.m 15 1,.k 16 (.bool (decide (24<=slot)))] sqe) ?_
 refine sqp [sPo 17 (decide (slot<0)) (decide (24<=slot)),.m 18 17] ?_
 refine sqw 18 [19,20,21] rfl (fun _=>sqp [.m 19 2,.k 20 (vi ((s.size:Int))),.k 21 (.bool (decide (400<(s.size:Int))))] sqe) ?_
 refine sqp [sPo 22 ((decide (slot<0))||(decide (24<=slot))) (decide (400<(s.size:Int)))] ?_
 refine aa (wbs (fun nO=>?_) fun nO=>?_)
 have xr:=nO
 simp only[zB] at xr
 refine wq (sqr (sqp [.k 23 (.agg #[vi 0,vi 0,sn,vi 21])] ?_))
 refine aY (n:=4) 1 #[vi 0,vi 0,sn,vi 21] bb fun si dl=>?_
 refine aa (wp_ret (ai ?_))
 refine bpr (.agg #[vi 0,vi 0,sn,vi 21]) (bF (n:=4) Tryz.results144 rfl (by kernel_rfl) (by kernel_rfl) (dl.blk 1 rfl) rfl) ?_
 exact jQ.bad (by rw[dh,if_neg (by rw[hr];decide),if_pos (by have h_:=nO;simp at h_;omega)]) (by decide) (fQ.zero dl.ext)
 have xr:=nO
 simp only[zB] at xr
 obtain⟨⟨Qr,Qt⟩,Qu⟩:=xr
 refine wp_skip (aa (wq ?_))
 have hbd_:¬(slot<0\/24<=slot\/400<s.size):=by have h_:=nO;simp at h_;omega
 obtain⟨m,rfl⟩:∃m:Nat,slot=(m:Int):=⟨slot.toNat,by omega⟩
 have hm24:m<24:=by omega
 have aQ:s.size<=400:=by omega
 have hws:=oL hS hm24 aQ hn24
 refine sqr ?_
 refine bJ 0 3 bb ?_
 refine sqp [.m 25 1,.m 26 2] ?_
 refine iC (fun ll lm=> .agg #[vi k,vi l,.slice ll ((af (ba ss m s)).length) lm]) (fun ll lm=>eO 9 1 (.slice ll ((af (ba ss m s)).length) lm) ((af (ba ss m s)).length) ((af (ba ss m s)).map Value.string)) bb (fun cx=>⟨_,(E8 k l _ _ ss m s _ (hA.ext cx.upd.to_ext) hS hn24 (by omega) hm24 aQ).mono (by rintro e W1 ⟨A4,c4,rfl,ho,hx⟩;exact⟨_,_,rfl,St.one hx (cg ho)⟩),(dG (cx.ou 24) (cx.ou 25) (cx.ou 26))⟩) fun ll lm sk cv=>?_
 refine cf #[vi 0,vi 0,sn] cv fun RF zm fb=>?_
 refine aY (n:=3) 3 #[vi k,vi l,.slice ll ((af (ba ss m s)).length) lm] fb fun w5 dQ=>?_
 refine aa (wq (wq ?_))
 have hcp26_:=la (dQ.own' 2 rfl)
 refine sqr ?_
 refine bJ 3 3 dQ ?_
 refine sqk (vi ((cO (af (ba ss m s)):Int))) dQ (fun cx=>⟨_,w3 k l _ _ (af (ba ss m s)) _ (At.of_own (cx.ri 2 rfl)) (nG hws) (by omega),(aw (cx.ou 28))⟩) fun zu dR=>?_
 refine sqp [.k 30 (.bool (decide (512<(cO (af (ba ss m s)):Int))))] ?_
 refine aa (wds (fun jB ja=>?_) fun jB ja=>?_)
 refine wq (sqr (sqp [.k 31 (.agg #[vi 0,vi 0,sn,vi 20])] ?_))
 refine aY (n:=4) 1 #[vi 0,vi 0,sn,vi 20] dR fun zn dc=>?_
 refine aa (wp_ret (ai ?_))
 refine bpr (.agg #[vi 0,vi 0,sn,vi 20]) (bF (n:=4) Tryz.results144 rfl (by kernel_rfl) (by kernel_rfl) (dc.blk 1 rfl) rfl) ?_
 exact jQ.bad (by rw[dh,if_neg (by rw[hr];decide),if_neg hbd_,if_pos (by show 512<cO (ba ss (m:Int).toNat s);rw[Int.toNat_natCast,<-sa];omega)]) (by decide) (fQ.zero dc.ext)
 refine wp_skip (aa (wq (sqr ?_)))
 refine bJ 3 3 dR ?_
 refine sqp [.k 33 (.agg #[vi k,vi l,.slice ll ((af (ba ss m s)).length) lm,vi 0])] ?_
 refine aY (n:=4) 1 #[vi k,vi l,.slice ll ((af (ba ss m s)).length) lm,vi 0] dR fun zi ek=>?_
 refine aa (wp_ret ?_)
 refine bpr (.agg #[vi k,vi l,.slice ll ((af (ba ss m s)).length) lm,vi 0]) (bF (n:=4) Tryz.results144 rfl (by kernel_rfl) (by kernel_rfl) (ek.blk 1 rfl) rfl) ?_
 exact jQ.good (by rw[dh,if_neg (by rw[hr];decide),if_neg hbd_,if_neg (by rw[Int.toNat_natCast,<-sa];omega)]) ⟨_,_,rfl,ek.own' 2 rfl,ek.ext⟩
theorem rG(k l:Int)(A:Option Addr)(c:Nat)(ss:List ByteArray)(x sl:Int)(s:ByteArray)(n:Int)(w:World)(hA:At w A (ss.map Value.string))(hr:bw k l ss=true)(hc:ss.length<=c)(hss:s.size<=9223372036854775807):
  Calls Tryz.prog 86 #[.agg #[.int .i64 k,.int .i64 l,.slice A ss.length c],.agg #[.int .i64 x,.int .i64 sl,.string s],.int .i64 n] w (eu (k,l,ss) (x,sl,s) n w):=by
 go_enter Tryz.func86,Tryz.ntmps86
 have ak:=St.start w
 refine wq (sqr ?_)
 refine b9 #[vi k,vi l,.slice A ss.length c] ak fun cQ W1 aB=>?_
 refine b9 #[vi x,vi sl,.string s] aB fun dI W2 bE=>?_
 refine cf #[vi 0,vi 0,sn,vi 0] bE fun O9 W3 aW=>?_
 refine aa (wq (wq ?_))
 have hbb_:=sX (bl s) 0
 refine sqr ?_
 refine bJ 0 3 aW ?_
 refine sqk (.bool true) aW (fun cx=>⟨_,s6 k l _ _ ss _ (hA.ext cx.upd.to_ext) hr (by omega),(aw (cx.ou 8))⟩) fun W5 aP=>?_
 refine sqp [.k 10 (.bool false)] ?_
 refine aa (wcf rfl (wp_skip (aa (wq (wq (sqr (sqp [.m 12 2,.k 13 (.bool (decide (n<0))),.m 14 13] ?_)))))))
 refine sqw 14 [15,16] rfl (fun _=>sqp [.m 15 2,.k 16 (.bool (decide (2147483647<n)))] sqe) ?_
 refine sqp [sPo 17 (decide (n<0)) (decide (2147483647<n))] ?_
 refine aa (wbs (fun f6=>?_) fun f6=>?_)
 have i8:=f6
 simp only[zB] at i8
 refine wq (sqr (sqp [.k 18 (.agg #[vi 0,vi 0,sn,vi 1])] ?_))
 refine aY (n:=4) 2 #[vi 0,vi 0,sn,vi 1] aP fun BC gn=>?_
 refine aa (wp_ret (ai ?_))
 refine bpr (.agg #[vi 0,vi 0,sn,vi 1]) (bF (n:=4) Tryz.results86 rfl (by kernel_rfl) (by kernel_rfl) (gn.blk 2 rfl) rfl) ?_
 exact eu.bad (by rw[doE,if_neg (by rw[hr];decide),if_pos (by have h_:=f6;simp at h_;omega)]) (by decide) (fQ.zero gn.ext)
 have i8:=f6
 simp only[zB] at i8
 obtain⟨Mb,Mc⟩:=i8
 refine wp_skip (aa (wq (wq ?_)))
 by_cases hs1_:sl= -1
 ·refine sqr (sqp [.k 19 (po dI 1)] ?_)
  refine au 1 aP ?_
  have hd19:(sl==(-1))=true:=(beq_iff_eq.2 hs1_)
  refine sqp [.e 21 (.bool (sl==(-1))) (.bool true) (congrArg Value.bool hd19)] ?_
  refine aa (wct rfl (wq (wq (sqr (sqp [.k 22 (po dI 2)] ?_)))))
  refine au 1 aP ?_
  refine sqp [.k 24 (vi ((s.size:Int))),.k 25 (.bool ((s.size:Int) != 1)),.m 26 25] ?_
  refine d5 26 [27,28,29,30] ?_ rfl (fun hq=>?_) ?_
  rotate_left
  have hq_:=hq
  try simp only[zB] at hq_
  refine sqp [.k 27 (po dI 2)] ?_
  refine au 1 aP ?_
  refine sql (.int .u8 (bW (bl s) 0)) aP (fun cx=>jW (m:=0) rfl (by kernel_rfl) (cx.ou 28) (cx.co _) (by omega) (by omega)) ?_
  refine sqp [.k 30 (.bool (decide (2<bW (bl s) 0)))] ?_
  exact sqe
  refine c8 ?_
  refine sqp [sPo 31 ((s.size:Int) != 1) (decide (2<bW (bl s) 0))] ?_
  refine aa (wbs (fun jB=>?_) fun jB=>?_)
  have ja:=jB
  simp only[zB] at ja
  refine wq (sqr (sqp [.k 32 (.agg #[vi 0,vi 0,sn,vi 21])] ?_))
  refine aY (n:=4) 2 #[vi 0,vi 0,sn,vi 21] aP fun zn dc=>?_
  refine aa (wp_ret (ai (ai ?_)))
  refine bpr (.agg #[vi 0,vi 0,sn,vi 21]) (bF (n:=4) Tryz.results86 rfl (by kernel_rfl) (by kernel_rfl) (dc.blk 2 rfl) rfl) ?_
  exact eu.bad (by rw[doE,if_neg (by rw[hr];decide),if_neg (by have h_:=f6;simp at h_;omega),if_pos hs1_,if_pos (by have h_:=jB;simp at h_;simp only[eR,Bool.or_eq_true,decide_eq_true_eq];omega)]) (by decide) (fQ.zero dc.ext)
  have ja:=jB
  simp only[zB] at ja
  obtain⟨Md,Me⟩:=ja
  refine wp_skip (aa (wq (sqr (sqp [.k 33 (po dI 2)] ?_))))
  refine au 1 aP ?_
  refine sql (.int .u8 (bW (bl s) 0)) aP (fun cx=>jW (m:=0) rfl (by kernel_rfl) (cx.ou 34) (cx.co _) (by omega) (by omega)) ?_
  refine sqp [sW 36 .i64 (bW (bl s) 0) (bW (bl s) 0) (IntWalk.i64_in _ (by omega)),.m 37 2,.k 38 (.agg #[vi (bW (bl s) 0),vi n,sn]),.k 39 (.agg #[vi (bW (bl s) 0),vi n,sn,vi 0])] ?_
  refine aY (n:=4) 2 #[vi (bW (bl s) 0),vi n,sn,vi 0] aP fun w7 ee=>?_
  refine aa (wp_ret (ai ?_))
  refine bpr (.agg #[vi (bW (bl s) 0),vi n,sn,vi 0]) (bF (n:=4) Tryz.results86 rfl (by kernel_rfl) (by kernel_rfl) (ee.blk 2 rfl) rfl) ?_
  exact eu.good (q:=(bW (bl s) 0,n,[])) (by rw[doE,if_neg (by rw[hr];decide),if_neg (by have h_:=f6;simp at h_;omega),if_pos hs1_,if_neg (by have h_:=jB;simp at h_;simp only[eR,Bool.or_eq_true,decide_eq_true_eq];omega)]) (by rw[doV,if_pos hs1_]) ⟨none,0,rfl,World.ownsRow_nil _ _ _ _,ee.ext⟩
 refine sqr (sqp [.k 19 (po dI 1)] ?_)
 refine au 1 aP ?_
 have hd44:(sl==(-1))=false:=(beq_eq_false_iff_ne.2 hs1_)
 refine sqp [.e 21 (.bool (sl==(-1))) (.bool false) (congrArg Value.bool hd44)] ?_
 refine aa (wcf rfl (wp_skip (aa (wq ?_))))
 obtain⟨er,hpe⟩:∃z,dh k l ss sl s=z:=⟨_,rfl⟩
 by_cases hpn:er=0
 subst hpn
 refine sqr ?_
 refine bJ 0 3 aP ?_
 refine sqp [.k 41 (po dI 1)] ?_
 refine au 1 aP ?_
 refine sqp [.k 43 (po dI 2)] ?_
 refine au 1 aP ?_
 refine iC (fun ln lp=> .agg #[vi k,vi l,.slice ln (((k,l,af (ba ss sl.toNat s)):PgS).2.2.length) lp,vi 0]) (fun ln lp=>eO 9 1 (.slice ln (((k,l,af (ba ss sl.toNat s)):PgS).2.2.length) lp) (((k,l,af (ba ss sl.toNat s)):PgS).2.2.length) (((k,l,af (ba ss sl.toNat s)):PgS).2.2.map Value.string)) aP (fun cx=>⟨_,(HH (p:=(k,l,ss)) hpe (DR k l _ _ ss sl s _ (hA.ext cx.upd.to_ext) hr hc hss)).mono (by rintro e W1 ⟨A4,c4,rfl,ho,hx⟩;exact⟨_,_,rfl,St.one hx (cg ho)⟩),(dG (cx.ou 40) (cx.ou 42) (cx.ou 44))⟩) fun ln lp Mf lY=>?_
 refine cf #[vi 0,vi 0,sn,vi 0] lY fun CL IT kK=>?_
 refine aY (n:=4) 4 #[vi k,vi l,.slice ln (((k,l,af (ba ss sl.toNat s)):PgS).2.2.length) lp,vi 0] kK fun BD cL=>?_
 refine aa (wq (wq (sqr (sqp [.k 46 (po CL 3)] ?_))))
 refine au 4 cL ?_
 refine sqp [.k 48 (.bool true)] ?_
 refine aa (wct rfl (sqr (sqp [.m 49 2,.k 50 (vp CL),.k 51 (po CL 1)] ?_)))
 refine aY (n:=1) 4 #[vi k,vi n,.slice ln (((k,l,af (ba ss sl.toNat s)):PgS).2.2.length) lp,vi 0] cL fun Fp fW=>?_
 refine aa (wq (sqr ?_))
 refine bJ 4 4 fW ?_
 refine aY (n:=4) 2 #[vi k,vi n,.slice ln (((k,l,af (ba ss sl.toNat s)):PgS).2.2.length) lp,vi 0] fW fun BB fq=>?_
 refine aa (wp_ret ?_)
 refine bpr (.agg #[vi k,vi n,.slice ln (((k,l,af (ba ss sl.toNat s)):PgS).2.2.length) lp,vi 0]) (bF (n:=4) Tryz.results86 rfl (by kernel_rfl) (by kernel_rfl) (fq.blk 2 rfl) rfl) ?_
 exact eu.good (q:=(k,n,af (ba ss sl.toNat s))) (by rw[doE,if_neg (by rw[hr];decide),if_neg (by have h_:=f6;simp at h_;omega),if_neg hs1_];exact hpe) (by rw[doV,if_neg hs1_]) ⟨_,_,rfl,fq.own' 3 rfl,fq.ext⟩
 refine sqr ?_
 refine bJ 0 3 aP ?_
 refine sqp [.k 41 (po dI 1)] ?_
 refine au 1 aP ?_
 refine sqp [.k 43 (po dI 2)] ?_
 refine au 1 aP ?_
 refine iC (fun mM mO=> .agg #[vi 0,vi 0,.slice mM br.2.2.length mO,vi er]) (fun mM mO=>eO 9 1 (.slice mM br.2.2.length mO) br.2.2.length (br.2.2.map Value.string)) aP (fun cx=>⟨_,(F5 (p:=(k,l,ss)) hpe hpn (DR k l _ _ ss sl s _ (hA.ext cx.upd.to_ext) hr hc hss)).mono (by rintro e W1 ⟨A4,c4,rfl,ho,hx⟩;exact⟨_,_,rfl,St.one hx (cg ho)⟩),(dG (cx.ou 40) (cx.ou 42) (cx.ou 44))⟩) fun mM mO OS px=>?_
 refine cf #[vi 0,vi 0,sn,vi 0] px fun NS Fq gy=>?_
 refine aY (n:=4) 4 #[vi 0,vi 0,.slice mM br.2.2.length mO,vi er] gy fun TN CM=>?_
 refine aa (wq (wq (sqr (sqp [.k 46 (po NS 3)] ?_))))
 refine au 4 CM ?_
 have hd73:(er==0)=false:=(beq_eq_false_iff_ne.2 hpn)
 refine sqp [.e 48 (.bool (er==0)) (.bool false) (congrArg Value.bool hd73)] ?_
 refine aa (wcf rfl (wp_skip (aa (wq (sqr ?_)))))
 refine bJ 4 4 CM ?_
 refine aY (n:=4) 2 #[vi 0,vi 0,.slice mM br.2.2.length mO,vi er] CM fun L6 kM=>?_
 refine aa (wp_ret ?_)
 refine bpr (.agg #[vi 0,vi 0,.slice mM br.2.2.length mO,vi er]) (bF (n:=4) Tryz.results86 rfl (by kernel_rfl) (by kernel_rfl) (kM.blk 2 rfl) rfl) ?_
 exact eu.bad (by rw[doE,if_neg (by rw[hr];decide),if_neg (by have h_:=f6;simp at h_;omega),if_neg hs1_];exact hpe) hpn ⟨_,_,rfl,kM.own' 3 rfl,kM.ext⟩
end
section
open Go.RowKit Go.Maps Go.ChangeMaps
structure Kc (κ:Type) where
 enc:κ->Value
 lit:κ->Lit
 ok:κ->Prop
 ty:Program->TypeId->Prop
 inj:∀{x y},lit x=lit y->x=y
 isk:∀x,WideAt.IsKeyLit (lit x)
 keyed:∀{P k},ty P k->Keyed P k
 key:∀{P k x},ty P k->ok x->keyOf P k (enc x)=some (lit x)
def kcI:Kc Int where
 enc:= .int .i64
 lit:= .int .i64
 ok x:= -9223372036854775808<=x/\x<=9223372036854775807
 ty P k:=P.underlying k=some (.int .i64)
 inj h:=by injection h
 isk _:=trivial
 keyed h:=int_keyed h
 key h hx:=keyOf_int_mk h (by
  show (decide (IntKind.i64.min<= _)&&decide (_<=IntKind.i64.max))=true
  have h1:IntKind.i64.min= -9223372036854775808:=by decide
  have h2:IntKind.i64.max=9223372036854775807:=by decide
  rw[h1,h2,decide_eq_true hx.1,decide_eq_true hx.2];rfl)
structure Ec (ε:Type) where
 enc:ε->Value
 dat:ε->DataW Unit
 R:Value->Option (DataW Unit×List MemPlace)
 e0:ε
 okE:ε->Prop
 read:∀e,okE e->R (enc e)=some (dat e,[])
 back:∀v d ps e,R v=some (d,ps)->d=dat e->v=enc e
 ok0:okE e0
def gp{a c:Type}(K:Kc a)(C:Ec c)(P:Program)(k b n:Nat)(m:a->Option c)(W:World):Prop:=
 ∃D:DataW Unit,W.ownsMap P k C.R b n D/\Tidy D/\size D=n/\∀x,K.ok x->has D (K.lit x)=(m x).isSome/\D.atKey (K.lit x) (C.dat C.e0)=C.dat ((m x).getD C.e0)
def eMx{a c:Type}(K:Kc a)(C:Ec c)(P:Program)(k b n:Nat)(m:a->Option c):Ent:=⟨[b],gp K C P k b n m⟩
def ce{a b:Type}[DecidableEq a](m:a->Option b)(x:a)(e:Option b):a->Option b:=fun y=>if y=x then e else m y
theorem wx{H:Type}{P:Program}{k b n:Nat}{R:Value->Option (DataW H×List MemPlace)}{W:World}{D:DataW H}(h:W.ownsMap P k R b n D):W.ownsMap P k R b (size D) D:=by
 obtain⟨es,clock,hb,F,hs,rfl⟩:=h
 refine⟨es,clock,hb,F,?_,rfl⟩
 simp[Maps.size,length_sorted]
section
variable{κ ε:Type}{K:Kc κ}{C:Ec ε}
theorem l4(P:Program)(k b n:Nat)(m:κ->Option ε):(eMx K C P k b n m).loc:=fun W W' h hb=>by
 obtain⟨D,⟨es,clock,h1,h2⟩,h3⟩:=hb
 exact⟨D,⟨es,clock,(h b (by simp[eMx])).trans h1,h2⟩,h3⟩
variable{P:Program}{o:Oper}{ρ:Operand->Value}{W:World}{k e b n:Nat}{m:κ->Option ε}
theorem gp.lt(h:gp K C P k b n m W):b<W.heap.size:=by
 obtain⟨D,hD,_⟩:=h
 exact hD.lt
theorem c9{t:TypeId}{y z:Operand}{x:κ}(h:o.op= .lookup t y z false)(hy:ρ y= .map (some b))(hz:ρ z=K.enc x)(hb:gp K C P k b n m W)(h0:(zeroValue e).run P W= .ok (C.enc C.e0) W)(hx:K.ok x)
  (hk:K.ty P k:=by kernel_rfl) (ht:P.underlying t=some (.map k e):=by kernel_rfl):(execOp ρ o).run P W= .ok (.value (C.enc ((m x).getD C.e0))) W:=by
 obtain⟨D,hD,_,_,hm⟩:=hb
 obtain⟨v,ps,hrun,hv⟩:=hD.lookup (K.keyed hk) ht h0 (C.read C.e0 C.ok0) (K.key hk hx)
 rw[C.back v _ ps _ hv (hm x hx).2] at hrun
 unfold execOp
 rw[h]
 simp[hy,hz,hrun]
theorem DA{c:Call}{y:Operand}{t:TypeId}(h:o.op= .call c)(hc:c.callee= .builtin .len)(ha:c.args=#[y])(hat:c.argTypes=#[t])(hy:ρ y= .map (some b))(hb:gp K C P k b n m W)(ht:P.underlying t=some (.map k e):=by kernel_rfl):
  (execOp ρ o).run P W= .ok (.value (.int .i64 (n:Int))) W:=by
 obtain⟨D,hD,_,hs,_⟩:=hb
 have hl:=hD.len ht o.type
 rw[hs] at hl
 unfold execOp
 rw[h]
 obtain⟨cal,args,tys⟩:=c
 simp only at hc ha hat
 subst hc ha hat
 simp[go_sem,hy,hl]
def mzP(m:κ->Option ε)(x:κ)(n:Nat):Nat:=if (m x).isSome then n else n+1
theorem Er [DecidableEq κ]{t:TypeId}{y z u:Operand}{x:κ}{v:ε}(h:o.op= .mapUpdate t y z u\/o.op= .insert t y z u)(hy:ρ y= .map (some b))(hz:ρ z=K.enc x)(hu:ρ u=C.enc v)(hb:gp K C P k b n m W)(hv:C.okE v)(hn:n<1000000)(hx:K.ok x)
  (hk:K.ty P k:=by kernel_rfl) (ht:P.underlying t=some (.map k e):=by kernel_rfl):
  ∃W',(execOp ρ o).run P W= .ok .skip W'/\gp K C P k b (mzP m x n) (ce m x (some v)) W'/\Upd [b] W W':=by
 obtain⟨D,hD,hI,hs,hm⟩:=hb
 obtain⟨W',hrun,hown,hg⟩:=hD.update (K.keyed hk) ht (by simp only[maxLen];omega) (K.key hk hx) (C.read v hv)
 have hsz:size (D.put (K.lit x) (C.dat v))=mzP m x n:=by rw[size_put hI,(hm x hx).1,hs,mzP]
 refine⟨W',?_,⟨_,by have h9:=wx hown;rwa [hsz] at h9,hI.put (K.isk x) _,hsz,fun y hy=>?_⟩,⟨hg.os,hg.tape,hg.output,hg.size,fun i hi hn=>hg.block i hi (fun e'=>hn (by cases e';simp))⟩⟩
 unfold execOp
 rcases h with h|h<;>rw[h]<;>simp[hy,hz,hu,hrun]
 unfold ce
 by_cases e':y=x
 subst e'
 rw[if_pos rfl]
 exact⟨has_put_same hI.isMap (K.isk y) _,atKey_put_same hI.isMap (K.isk y) _ _⟩
 have e2:K.lit y≠K.lit x:=fun h=>e' (K.inj h)
 rw[if_neg e',has_put_other e2,atKey_put_other e2]
 exact hm y hy
def mzD(m:κ->Option ε)(x:κ)(n:Nat):Nat:=if (m x).isSome then n-1 else n
theorem Du [DecidableEq κ]{c:Call}{y z:Operand}{x:κ}{t:TypeId}(h:o.op= .call c)(hc:c.callee= .builtin .delete)(ha:c.args=#[y,z])(hat:c.argTypes=#[t,k])(hy:ρ y= .map (some b))(hz:ρ z=K.enc x)(hb:gp K C P k b n m W)(hx:K.ok x)
  (hk:K.ty P k:=by kernel_rfl) (ht:P.underlying t=some (.map k e):=by kernel_rfl):
  ∃W',(execOp ρ o).run P W= .ok (.value (.tuple #[])) W'/\gp K C P k b (mzD m x n) (ce m x none) W'/\Upd [b] W W':=by
 obtain⟨D,hD,hI,hs,hm⟩:=hb
 obtain⟨W',hrun,hown,es,clock,es',clock',h1,h2⟩:=hD.drop (K.keyed hk) ht (K.key hk hx) o.type
 have hsz:size (D.del (K.lit x))=mzD m x n:=by
  have h9:=size_del (k:=K.lit x) hI
  rw[(hm x hx).1,hs] at h9
  unfold mzD
  split at h9
  rw[if_pos (by assumption)];omega
  rw[if_neg (by assumption)];omega
 refine⟨W',?_,⟨_,by have h9:=wx hown;rwa [hsz] at h9,hI.del _,hsz,fun y hy=>?_⟩,?_⟩
 unfold execOp
 rw[h]
 obtain⟨cal,args,tys⟩:=c
 simp only at hc ha hat
 subst hc ha hat
 simp[go_sem,hy,hz,hrun]
 unfold ce
 by_cases e':y=x
 subst e'
 rw[if_pos rfl]
 exact⟨has_del_same,atKey_del_same _⟩
 have e2:K.lit y≠K.lit x:=fun h=>e' (K.inj h)
 rw[if_neg e',has_del_other e2,atKey_del_other e2]
 exact hm y hy
 subst h2
 exact⟨rfl,rfl,rfl,by simp[setBlock],fun i hi hn=>heap_setBlock_other h1 _ (fun e'=>hn (by simp[e']))⟩
theorem gp.made:gp K C P k W.heap.size 0 (fun _=>none) (W.alloc (.map #[] 0)):=⟨.map [],World.ownsMap_made W P k C.R,tidy_empty,rfl,fun x hx=>⟨rfl,rfl⟩⟩
end
section
variable{κ ε:Type}{K:Kc κ}{C:Ec ε}{P:Program}{ops:Array Oper}{L:List Nat}{a0:Act}{w0:World}{bor:List Nat}{X0:List Ent}{us cr kl:List (List Nat)}
 {D:Nat->(Tmp->Value)->(Tmp->Value)->(Nat->Ent)->Prop}{i:Nat}{o:Oper}{ρ:Operand->Value}{β:Tmp->Value}{W:World}{X:Nat->Ent}
def pbx:Value->Nat
 | .map (some b)=>b
 |_=>0
theorem CtxV.mx{q k b n:Nat}{m:κ->Option ε}(cx:CtxV ops L a0 w0 bor X0 us D i ρ β W X)(hX:X q=eMx K C P k b n m)(hu:(atV us i).contains q=true):gp K C P k b n m W:=by
 have h:=(cx.ok q hu).holds
 rw[hX] at h;exact h
theorem kR{t d k q:Nat}(h:o.op= .makeMap t none)(hd:o.dst=some d)(hc:atV cr i=[q])(hk:atV kl i=[])
  (hD:∀(b a:Tmp->Value) (X':Nat->Ent),(∀t,t≠d->b t=ρ (.tmp t))->(∀t,t≠d->a t=β t)->b d= .map (some (pbx (a d)))->X' q=eMx K C P k (pbx (a d)) 0 (fun _=>none)->D i b a X'):am P o ρ W (bV cr kl D i o.dst ρ β W X):=by
 refine am.value (v:= .map (some W.heap.size)) (w':=W.alloc (.map #[] 0)) (by unfold execOp;rw[h];rfl) ?_
 refine bM [eMx K C P k W.heap.size 0 (fun _=>none)] hk (by rw[hc];rfl) ((Ext.refl W).alloc _) (one_new ⟨gp.made,l4 _ _ _ _ _,fun k' hk'=>?_⟩) (List.pairwise_singleton _ _) (fun b a X' hs hb hv hN=>?_)
 have:k'=W.heap.size:=by simpa[eMx] using hk'
 subst this
 exact⟨Nat.le_refl _,by simp⟩
 have aJ:=(hv d hd).1;have aR:=(hv d hd).2
 rw[hc] at hN
 refine hD b a X' (fun t ht=>hs t (by rw[hd];simpa using ht.symm)) (fun t ht=>hb t (by rw[hd];simpa using ht.symm)) ?_ ?_
 rw[aJ,aR];rfl
 rw[aR];exact(List.cons.inj hN).1
theorem qd{k b n n' q q':Nat}{m m':κ->Option ε}{W':World}(hX:X q=eMx K C P k b n m)(h1:gp K C P k b n' m' W')(h2:Upd [b] W W')(hc:atV cr i=[q'])(hkl:atV kl i=[q]):
  ([eMx K C P k b n' m'].length=(atV cr i).length)/\(Upd ((atV kl i).flatMap fun q=>(X q).fp) W W')/\∀e'∈[eMx K C P k b n' m'],e'.holds W'/\e'.loc/\∀k'∈e'.fp,(k'∈((atV kl i).flatMap fun q=>(X q).fp)\/W.heap.size<=k')/\k'<W'.heap.size:=by
 refine⟨by rw[hc];rfl,?_,fun e' he'=>?_⟩
 rw[hkl]
 simp only[List.flatMap_cons,List.flatMap_nil,List.append_nil,hX]
 exact h2
 rw[List.mem_singleton] at he'
 subst he'
 refine⟨h1,l4 _ _ _ _ _,fun k' hk'=>?_⟩
 have hkb:k'=b:=by simpa[eMx] using hk'
 subst hkb
 refine⟨.inl ?_,h1.lt⟩
 rw[hkl]
 simp[hX,eMx]
theorem gv [DecidableEq κ]{t k e b n q q':Nat}{m:κ->Option ε}{y z u:Operand}{x:κ}{v:ε}(h:o.op= .mapUpdate t y z u\/o.op= .insert t y z u)(hy:ρ y= .map (some b))(hz:ρ z=K.enc x)(hu:ρ u=C.enc v)
  (cx:CtxV ops L a0 w0 bor X0 us D i ρ β W X) (hX:X q=eMx K C P k b n m) (hq:(atV us i).contains q=true) (hv:C.okE v) (hn:n<1000000) (hx:K.ok x) (hd:o.dst=none) (hc:atV cr i=[q']) (hkl:atV kl i=[q])
  (hD:∀(a c:Tmp->Value) (X':Nat->Ent),(∀t,a t=ρ (.tmp t))->(∀t,c t=β t)->X' q'=eMx K C P k b (mzP m x n) (ce m x (some v))->D i a c X')
  (hk:K.ty P k:=by kernel_rfl) (ht:P.underlying t=some (.map k e):=by kernel_rfl):am P o ρ W (bV cr kl D i o.dst ρ β W X):=by
 obtain⟨W',hrun,h1,h2⟩:=Er (v:=v) h hy hz hu (cx.mx hX hq) hv hn hx hk ht
 obtain⟨a1,a2,a3⟩:=qd (cr:=cr) (kl:=kl) (i:=i) hX h1 h2 hc hkl
 refine am.skip hrun ⟨[eMx K C P k b (mzP m x n) (ce m x (some v))],a1,⟨a2,a3,List.pairwise_singleton _ _⟩,fun a c X' hs hv hb' hbv hx' hN=>hD a c X' (fun t=>hs t (by rw[hd];simp)) (fun t=>hb' t (by rw[hd];simp)) ?_⟩
 rw[hc] at hN
 exact(List.cons.inj hN).1
theorem GB [DecidableEq κ]{c:Call}{t k e b n q q':Nat}{m:κ->Option ε}{y z:Operand}{x:κ}(h:o.op= .call c)(hcc:c.callee= .builtin .delete)(ha:c.args=#[y,z])(hat:c.argTypes=#[t,k])(hy:ρ y= .map (some b))(hz:ρ z=K.enc x)
  (cx:CtxV ops L a0 w0 bor X0 us D i ρ β W X) (hX:X q=eMx K C P k b n m) (hq:(atV us i).contains q=true) (hx:K.ok x) (hd:o.dst=none) (hc:atV cr i=[q']) (hkl:atV kl i=[q])
  (hD:∀(a d:Tmp->Value) (X':Nat->Ent),(∀t,a t=ρ (.tmp t))->(∀t,d t=β t)->X' q'=eMx K C P k b (mzD m x n) (ce m x none)->D i a d X')
  (hk:K.ty P k:=by kernel_rfl) (ht:P.underlying t=some (.map k e):=by kernel_rfl):am P o ρ W (bV cr kl D i o.dst ρ β W X):=by
 obtain⟨W',hrun,h1,h2⟩:=Du h hcc ha hat hy hz (cx.mx hX hq) hx hk ht
 obtain⟨a1,a2,a3⟩:=qd (cr:=cr) (kl:=kl) (i:=i) hX h1 h2 hc hkl
 refine am.value hrun ⟨[eMx K C P k b (mzD m x n) (ce m x none)],a1,⟨a2,a3,List.pairwise_singleton _ _⟩,fun a d X' hs hv hb' hbv hx' hN=>hD a d X' (fun t=>hs t (by rw[hd];simp)) (fun t=>hb' t (by rw[hd];simp)) ?_⟩
 rw[hc] at hN
 exact(List.cons.inj hN).1
end
end
section
open Go.RowKit Go.Maps Go.ChangeMaps
structure Cod (E:Type) where
 enc:E->Value
 dat:E->DataW Unit
 R:Value->Option (DataW Unit×List MemPlace)
 e0:E
 read:∀e,R (enc e)=some (dat e,[])
 back:∀v d ps e,R v=some (d,ps)->d=dat e->v=enc e
def O4{E:Type}(C:Cod E)(P:Program)(k b n:Nat)(m:Int->Option E)(W:World):Prop:=
 ∃D:DataW Unit,W.ownsMap P k C.R b n D/\IsMap D/\∀x:Int,(Lit.int .i64 x).wf=true->has D (.int .i64 x)=(m x).isSome/\D.atKey (.int .i64 x) (C.dat C.e0)=C.dat ((m x).getD C.e0)
theorem O7{x:Int}(h: -9223372036854775808<=x/\x<=9223372036854775807):(Lit.int .i64 x).wf=true:=by
 show (decide (IntKind.i64.min<=x)&&decide (x<=IntKind.i64.max))=true
 have h1:IntKind.i64.min= -9223372036854775808:=by decide
 have h2:IntKind.i64.max=9223372036854775807:=by decide
 rw[h1,h2,decide_eq_true h.1,decide_eq_true h.2];rfl
section
variable{E:Type}{C:Cod E}
variable{P:Program}{o:Oper}{ρ:Operand->Value}{W:World}{k e b n:Nat}{m:Int->Option E}
theorem lU{t:TypeId}{x:Operand}{f:Nat}{v r:Value}(h:o.op= .field t x f)(hx:ρ x=v)(hf:∀w,(Instr.field t v f).run P w= .ok r w):(execOp ρ o).run P W= .ok (.value r) W:=by
 unfold execOp;rw[h];simp[hx,hf]
end
section
variable{E:Type}{C:Cod E}{P:Program}{ops:Array Oper}{L:List Nat}{a0:Act}{w0:World}{bor:List Nat}{X0:List Ent}{us cr kl:List (List Nat)}
 {D:Nat->(Tmp->Value)->(Tmp->Value)->(Nat->Ent)->Prop}{i:Nat}{o:Oper}{ρ:Operand->Value}{β:Tmp->Value}{W:World}{X:Nat->Ent}
end
theorem CtxV.holdE{ops:Array Oper}{L:List Nat}{a0:Act}{w0:World}{bor:List Nat}{X0:List Ent}{us:List (List Nat)}{D:Nat->(Tmp->Value)->(Tmp->Value)->(Nat->Ent)->Prop}{i:Nat}{b:Operand->Value}{a:Tmp->Value}{W:World}{X:Nat->Ent}{q:Nat}{E:Ent}(cx:CtxV ops L a0 w0 bor X0 us D i b a W X)(hX:X q=E)(hu:(atV us i).contains q=true):E.holds W:=by
 have h:=(cx.ok q hu).holds
 rw[hX] at h;exact h
end
section
open Go.RowKit Go.Maps Go.ChangeMaps
def eRg{E:Type}(C:Cod E)(P:Program)(k b r n:Nat)(m:Int->Option E)(left:Int->Bool)(cnt:Nat)(cur:Option (Int×E)):Ent:=⟨[b,r],fun W=>
 ∃(D:DataW Unit) (lf:Lit->Bool) (c0:Nat),W.ranges P k C.R b r n D lf c0/\c0<=cnt/\(∀x:Int,(Lit.int .i64 x).wf=true->lf (.int .i64 x)=left x)/\IsMap D/\
  (∀x:Int,(Lit.int .i64 x).wf=true->has D (.int .i64 x)=(m x).isSome/\D.atKey (.int .i64 x) (C.dat C.e0)=C.dat ((m x).getD C.e0))/\
  (∀x:Int,left x=true->(m x).isSome=true)/\
  ∀x c,cur=some (x,c)->∀W':World,W'.heap[b]? =W.heap[b]? ->W'.heap[r]? =W.heap[r]? ->(Instr.entry (po r 0)).run P W'= .ok (.tuple #[.int .i64 x,C.enc c]) W'⟩
def nxB:Value->Bool
 | .tuple a=>match (a[0]? :Option Value) with
   |some (.bool true)=>true
   |_=>false
 |_=>false
section
variable{E:Type}{C:Cod E}{P:Program}{k b r n cnt:Nat}{m:Int->Option E}{left:Int->Bool}{cur:Option (Int×E)}
theorem KM:(eRg C P k b r n m left cnt cur).loc:=fun W W' h hb=>by
 obtain⟨D,lf,c0,⟨es,clock,since,seen,c1,h1,h2,h3,h4,h5,h6⟩,hc,h7,h8,h9,hs,h10⟩:=hb
 have eb:W'.heap[b]? =W.heap[b]? :=h b (by simp[eRg])
 have er:W'.heap[r]? =W.heap[r]? :=h r (by simp[eRg])
 exact⟨D,lf,c0,⟨es,clock,since,seen,c1,eb.trans h1,h2,h3,h4,er.trans h5,h6⟩,hc,h7,h8,h9,hs,fun x c hc W2 e1 e2=>h10 x c hc W2 (e1.trans eb) (e2.trans er)⟩
theorem Ar{W W':World}{H:Type}{R:Value->Option (DataW H×List MemPlace)}{D:DataW H}{lf:Lit->Bool}{v:Value}(h:W.ranges P k R b r n D lf cnt)(hen:(Instr.entry (po r 0)).run P W= .ok v W)(eb:W'.heap[b]? =W.heap[b]?)(er:W'.heap[r]? =W.heap[r]?):
  (Instr.entry (po r 0)).run P W'= .ok v W':=by
 obtain⟨es,clock,since,seen,c0,hb,_,_,_,hr,_⟩:=h
 have hb':=eb.trans hb
 have hr':=er.trans hr
 simp only[Instr.entry,getObj,Sem.run_bind,Sem.run,hr,hb,Result.andThen] at hen
 simp only[Instr.entry,getObj,Sem.run_bind,Sem.run,hr',hb',Result.andThen]
 cases hs:seen.back? with
 |none=>rw[hs] at hen;simp[go_sem] at hen
 |some q=>
  rw[hs] at hen
  simp only[getObj,Sem.run_bind,Sem.run,hb,Result.andThen] at hen
  simp only[getObj,Sem.run_bind,Sem.run,hb',Result.andThen]
  by_cases hc:(clock != c0)=true
  rw[if_pos hc] at hen
  simp[go_sem] at hen
  rw[if_neg hc] at hen |-
  cases hf:es.find? (·.born==q) with
  |none=>rw[hf] at hen;simp[go_sem] at hen
  |some x=>
   rw[hf] at hen
   simp[go_sem] at hen |-
   exact hen
theorem EP{W:World}{H:Type}{R:Value->Option (DataW H×List MemPlace)}{D:DataW H}{lf:Lit->Bool}(h:W.ranges P k R b r n D lf cnt):cnt<=n:=by
 obtain⟨es,clock,since,seen,c0,_,_,hs,_,_,_,hc,_⟩:=h
 rw[<-hc,leftOf]
 exact Nat.le_trans Array.size_filter_le hs
end
section
variable{E:Type}{C:Cod E}{P:Program}{ops:Array Oper}{L:List Nat}{a0:Act}{w0:World}{bor:List Nat}{X0:List Ent}{us cr kl:List (List Nat)}
 {D:Nat->(Tmp->Value)->(Tmp->Value)->(Nat->Ent)->Prop}{i:Nat}{o:Oper}{ρ:Operand->Value}{β:Tmp->Value}{W:World}{X:Nat->Ent}
theorem Ct{k b r n cnt:Nat}{m:Int->Option E}{left:Int->Bool}{x0:Int}{c:E}{x:Operand}(h:o.op= .entry x)(hx:ρ x=po r 0)(hE:(eRg C P k b r n m left cnt (some (x0,c))).holds W):(execOp ρ o).run P W= .ok (.value (.tuple #[.int .i64 x0,C.enc c])) W:=by
 obtain⟨D0,lf,c0,hr,hle,hl,hI,hm,hls,hcur⟩:=hE
 have h1:=hcur x0 c rfl W rfl rfl
 unfold execOp;rw[h];simp[hx,h1]
theorem NH(x y:Value):nxB (.tuple #[.bool true,x,y])=true:=rfl
theorem Nw:nxB (.tuple #[.bool false])=false:=rfl
end
end
section
open Go.RowKit
def eIs(b:Nat)(s:ByteArray)(p:Nat):Ent:=⟨[b],fun W=>W.heap[b]? =some (.stringIter s p)⟩
theorem Bg(b:Nat)(s:ByteArray)(p:Nat):(eIs b s p).loc:=fun W W' hk h=>(hk b (by simp[eIs])).trans h
theorem Upd.setIfIn{b:Nat}{W:World}(o:Obj):Upd [b] W {W with heap:=W.heap.setIfInBounds b o}:=by
 refine⟨rfl,rfl,rfl,by simp,fun k hk hn=>?_⟩
 have:b≠k:=fun e=>hn (by simp[e])
 simp[Array.getElem?_setIfInBounds,this]
section
variable{P:Program}{ops:Array Oper}{L:List Nat}{a0:Act}{w0:World}{bor:List Nat}{X0:List Ent}{us cr kl:List (List Nat)}
 {D:Nat->(Tmp->Value)->(Tmp->Value)->(Nat->Ent)->Prop}{i:Nat}{o:Oper}{ρ:Operand->Value}{β:Tmp->Value}{W:World}{X:Nat->Ent}
theorem CtxV.holdJ{q:Nat}{E:Ent}(cx:CtxV ops L a0 w0 bor X0 us D i ρ β W X)(hX:X q=E)(hu:(atV us i).contains q=true):E.holds W:=by
 have h:=(cx.ok q hu).holds
 rw[hX] at h;exact h
theorem Fh{t:TypeId}{d q':Nat}{x:Operand}{s:ByteArray}(h:o.op= .range t x)(hx:ρ x= .string s)(hd:o.dst=some d)(hc:atV cr i=[q'])(hkl:atV kl i=[])
  (hD:∀(b a:Tmp->Value) (X':Nat->Ent),(∀t,t≠d->b t=ρ (.tmp t))->(∀t,t≠d->a t=β t)->b d= .pointer (some ⟨pb (a d),0,none⟩)->X' q'=eIs (pb (a d)) s 0->D i b a X')
  (ht:P.underlying t=some .string:=by kernel_rfl):am P o ρ W (bV cr kl D i o.dst ρ β W X):=by
 refine am.value (v:=po W.heap.size 0) (w':=W.iter s 0) (by unfold execOp;rw[h];simp[hx,run_range_string W t s ht]) ?_
 refine bM [eIs W.heap.size s 0] hkl (by rw[hc];rfl) ((Ext.refl W).alloc _) (one_new ⟨W.iter_heap s 0,Bg _ _ _,fun k' hk'=>?_⟩) (List.pairwise_singleton _ _) (fun b a X' hs hb hv hN=>?_)
 have:k'=W.heap.size:=by simpa[eIs] using hk'
 subst this
 exact⟨Nat.le_refl _,by show W.heap.size<(W.heap.push _).size;simp⟩
 have aJ:=(hv d hd).1;have aR:=(hv d hd).2
 rw[hc] at hN
 refine hD b a X' (fun t ht=>hs t (by rw[hd];simpa using ht.symm)) (fun t ht=>hb t (by rw[hd];simpa using ht.symm)) ?_ ?_
 rw[aJ,aR];rfl
 rw[aR];exact(List.cons.inj hN).1
theorem sB{b p d q q':Nat}{x:Operand}{s:ByteArray}{c:Nat}(h:o.op= .next x true)(hx:ρ x=po b 0)(cx:CtxV ops L a0 w0 bor X0 us D i ρ β W X)(hX:X q=eIs b s p)(hq:(atV us i).contains q=true)(hp:p<s.size)(hcc:(s[p]'hp).toNat=c)(hc8:c<128)(hd:o.dst=some d)(hc:atV cr i=[q'])(hkl:atV kl i=[q])
  (hD:∀(a e:Tmp->Value) (X':Nat->Ent),(∀t,t≠d->a t=ρ (.tmp t))->(∀t,t≠d->e t=β t)->a d= .tuple #[.bool true,.int .i64 (p:Int),.int .i32 (c:Int)]->X' q'=eIs b s (p+1)->D i a e X'):am P o ρ W (bV cr kl D i o.dst ρ β W X):=by
 subst hcc
 have hok:=cx.ok q hq
 rw[hX] at hok
 have hb:W.heap[b]? =some (.stringIter s p):=hok.holds
 have hlt:b<W.heap.size:=(hok.own b (by simp[eIs])).2
 refine am.value (v:= .tuple #[.bool true,.int .i64 (p:Int),.int .i32 ((s[p]'hp).toNat:Int)]) (w':={W with heap:=W.heap.setIfInBounds b (.stringIter s (p+1))}) ?_ ?_
 ·unfold execOp;rw[h]
  simp only[hx]
  simp only[Instr.next,getObj,setObj,Sem.run_bind,Sem.run,hb,Result.andThen,hp,if_true,decode_ascii s p hp hc8]
  simp[goInt,Sem.run,hb]
 refine o4 (E:=eIs b s p) (E':=eIs b s (p+1)) hX hc hkl (Upd.setIfIn _) ?_ (Bg _ _ _) (fun k hk=>⟨hk,by simp[eIs] at hk;subst hk;simpa using hlt⟩) fun a e X' hs hb hv hX'=>hD a e X' (fun t ht=>hs t (by rw[hd];simpa using ht.symm)) (fun t ht=>hb t (by rw[hd];simpa using ht.symm)) (hv d hd).1 hX'
 show (W.heap.setIfInBounds b _)[b]? = _
 simp[hlt]
theorem BV{b p:Nat}{x:Operand}{s:ByteArray}(h:o.op= .next x true)(hx:ρ x=po b 0)(hE:(eIs b s p).holds W)(hp:¬p<s.size):(execOp ρ o).run P W= .ok (.value (.tuple #[.bool false])) W:=by
 have hb:W.heap[b]? =some (.stringIter s p):=hE
 unfold execOp;rw[h]
 simp only[hx]
 simp[Instr.next,getObj,Sem.run,hb,hp]
theorem oT{t t':TypeId}{x:Operand}{k:IntKind}{n:Int}{r:ByteArray}(h:o.op= .convert t t' x)(ht:(P.underlying t).isSome=true)(ht':P.underlying t'=some .string)(hx:ρ x= .int k n)(hr:Utf8.encode n=r):(execOp ρ o).run P W= .ok (.value (.string r)) W:=by
 subst hr
 obtain⟨d,hd⟩:=Option.isSome_iff_exists.1 ht
 unfold execOp;rw[h]
 simp[hx,convert,run_underlying hd,run_underlying ht',Conv.intToString]
end
end
section
open Go.RowKit
structure RecM where
 kind:Int
 xid:Int
 tbl:Int
 eds:List EdT
 note:ByteArray
def inB(n a b:Int):Bool:=decide (a<=n)&&decide (n<=b)
def edR(e:EdT):Bool:=inB e.1 0 399&&(if e.2.1= -1 then !eR e.2.2 else (inB e.2.1 0 23&&decide ((e.2.2.size:Int)<=400)))
def bz(r:RecM):Bool:=inB r.kind 1 10&&(inB r.xid 0 127&&(inB r.tbl 0 65535&&(decide ((r.eds.length:Int)<=64)&&(r.eds.all edR&&decide ((r.note.size:Int)<=60000)))))
theorem BK{s:ByteArray}{m:UInt8}(h:s=⟨#[m]⟩)(hm:m<=2):eR s=false:=by
 subst h
 simp only[eR,Bool.or_eq_false_iff,decide_eq_false_iff_not]
 refine⟨fun h=>h rfl,?_⟩
 show ¬(2:Int)<(m.toNat:Int)
 have:m.toNat<=2:=hm
 omega
theorem Lz{s:ByteArray}(h:∀m:Nat,m<3->s≠⟨#[UInt8.ofNat m]⟩):eR s=true:=by
 rcases hk:eR s with _|_
 exfalso
 simp only[eR,Bool.or_eq_false_iff,decide_eq_false_iff_not] at hk
 obtain⟨h1,h2⟩:=hk
 have h1:s.size=1:=by omega
 obtain⟨⟨l⟩⟩:=s
 have hl:l.length=1:=h1
 match l,hl with
 | [c],_=>
   have h3:¬(2:Int)<(c.toNat:Int):=h2
   refine h c.toNat (by omega) ?_
   have:UInt8.ofNat c.toNat=c:=by simp
   rw[this]
 rfl
theorem B5{a b:ByteArray}(h:(a.toList==b.toList)=true):a=b:=yx (by simpa using h)
theorem Cc{a b:ByteArray}(h:(a.toList==b.toList)=false):a≠b:=fun e=>by rw[e] at h;simp at h
theorem vL{s:ByteArray}{p:Nat}(h:∀m:Nat,m<p->s≠⟨#[UInt8.ofNat m]⟩)(h2:s≠⟨#[UInt8.ofNat p]⟩):∀m:Nat,m<p+1->s≠⟨#[UInt8.ofNat m]⟩:=fun m hm=>by
 by_cases e:m=p
 subst e;exact h2
 exact h m (by omega)
theorem k9{x sl:Int}{s:ByteArray}:edR (x,sl,s)=(inB x 0 399&&(if sl= -1 then !eR s else (inB sl 0 23&&decide ((s.size:Int)<=400)))):=rfl
theorem fy(n a b:Int)(w:World):
  Calls Tryz.prog 108 #[.int .i64 n,.int .i64 a,.int .i64 b] w (Ret (.bool (inB n a b)) w):=by
 go_enter Tryz.func108,Tryz.ntmps108
 have ak:=St.start w
 refine wq (sqr (sqp [.k 6 (.bool false)] ?_))
 refine aa (wq (sqr (sqp [.m 7 0,.m 8 1,.k 9 (.bool (decide (a<=n))),.m 10 9] ?_)))
 refine sqw 10 [11,12,13] rfl (fun _=>sqp [.m 11 0,.m 12 2,.k 13 (.bool (decide (n<=b)))] sqe) ?_
 refine sqp [sPa 14 (decide (a<=n)) (decide (n<=b)),.m 6 14] ?_
 refine aa (wp_ret ?_)
 refine bpr (.bool ((decide (a<=n))&&(decide (n<=b)))) (ag Tryz.results108 rpt) ?_
 exact Ret.of rfl ak.ext
theorem Fi(x sl:Int)(s:ByteArray)(w:World)(hs:s.size<=9223372036854775807):
  Calls Tryz.prog 110 #[.agg #[.int .i64 x,.int .i64 sl,.string s]] w (Ret (.bool (edR (x,sl,s))) w):=by
 go_enter Tryz.func110,Tryz.ntmps110
 have ak:=St.start w
 refine wq (sqr ?_)
 refine b9 #[vi x,vi sl,.string s] ak fun aA W1 aB=>?_
 refine sqp [.k 2 (.bool false)] ?_
 refine aa (wq (wq (sqr (sqp [.k 5 (po aA 1)] ?_))))
 refine au 0 aB ?_
 refine sqp [.k 7 (.bool (sl==(-1)))] ?_
 refine aa (wbs (fun dB=>?_) fun dB=>?_)
 have ti:=beq_iff_eq.1 dB
 refine wq (wq (sqr ?_))
 refine d3 (fun x_=>pb x_) (fun qR=>vp qR) (fun qR=>eIs qR ((⟨#[0,1,2]⟩:ByteArray)) 0) aB (by
   refine svA fun b a W X cx=>?_
   exact Fh rfl (cx.co _) rfl rfl rfl (fun _ _ _ _ _=> .intro)) fun qR W7 aZ=>?_
 refine aa (wp_block ?_)
 refine aM (fun t_ mz az W=>∃p:Nat,p<=3/\(∀m:Nat,m<p->s≠⟨#[UInt8.ofNat m]⟩)/\mz=3-p/\az=⟨(ovr (jv az) [(2,2,1,[]),(1,4,1,[]),(4,9,11,[])] t_).toArray,[]⟩/\St w [] [eB aA 84 #[vi x,vi sl,.string s],eIs qR ((⟨#[0,1,2]⟩:ByteArray)) p] W) (3-0) ?_ ?_
 exact⟨0,by decide,fun m hm=>absurd hm (Nat.not_lt_zero m),rfl,(by kernel_rfl),aZ.pk [0,1]⟩
 rintro n8 a8 W8 ⟨p,hp,hno,rfl,hj_,dM⟩
 refine ovz hj_ fun TO=>?_
 refine wq ?_
 rcases(by omega:p=0\/p=1\/p=2\/p=3) with rfl|rfl|rfl|rfl
 refine sqr ?_
 refine gB (.tuple #[.bool true,vi 0,.int .i32 0]) (eIs qR ((⟨#[0,1,2]⟩:ByteArray)) 1) 1 dM (by
   refine svA fun b a W X cx=>?_
   exact sB (c:=0) rfl (cx.ou 8) cx (cx.init 1 _ rfl) rfl (by decide) (by decide) (by decide) rfl rfl rfl (fun _ _ _ _ _=> .intro)) fun W9 cG=>?_
 refine sqp [.k 10 (.bool true)] ?_
 refine aa (wq (wct rfl (wp_skip (aa (wp_block (wq (sqr (sqp [.k 11 (.int .i32 0),.m 4 11] ?_))))))))
 refine aa (wq (sqr (sqp [.k 12 (po aA 2)] ?_)))
 refine au 0 cG ?_
 refine sqp [.m 14 4] ?_
 refine sql (.string ((⟨#[0]⟩:ByteArray))) cG (fun cx=>oT rfl (by kernel_rfl) (by kernel_rfl) (cx.ou 14) (by decide)) ?_
 refine sqp [.k 16 (.bool (s.toList==((⟨#[0]⟩:ByteArray)).toList))] ?_
 refine aa (wbs (fun mP=>?_) fun mP=>?_)
 refine wq (sqr (sqp [.k 17 (vp aA)] ?_))
 refine au 0 cG ?_
 refine sqk (.bool (inB x 0 399)) cG (fun cx=>⟨_,fy x 0 399 _,(dG (cx.ou 18) (cx.co _) (cx.co _))⟩) fun sf dY=>?_
 refine sqp [.m 2 19] ?_
 refine aa (wp_ret (aV (ai (aV (ai (ai ?_))))))
 refine bpr (.bool (inB x 0 399)) (ag Tryz.results110 rpt) ?_
 exact Ret.bool (by rw[k9,if_pos (by simpa using dB),BK (B5 mP) (by decide)];simp) dY.ext
 refine wp_skip (av (aa ?_))
 refine⟨3-1,by decide,?_⟩
 exact⟨1,by decide,vL hno (Cc mP),rfl,(by kernel_rfl),cG.pk [0,1]⟩
 refine sqr ?_
 refine gB (.tuple #[.bool true,vi 1,.int .i32 1]) (eIs qR ((⟨#[0,1,2]⟩:ByteArray)) 2) 1 dM (by
   refine svA fun b a W X cx=>?_
   exact sB (c:=1) rfl (cx.ou 8) cx (cx.init 1 _ rfl) rfl (by decide) (by decide) (by decide) rfl rfl rfl (fun _ _ _ _ _=> .intro)) fun sk cv=>?_
 refine sqp [.k 10 (.bool true)] ?_
 refine aa (wq (wct rfl (wp_skip (aa (wp_block (wq (sqr (sqp [.k 11 (.int .i32 1),.m 4 11] ?_))))))))
 refine aa (wq (sqr (sqp [.k 12 (po aA 2)] ?_)))
 refine au 0 cv ?_
 refine sqp [.m 14 4] ?_
 refine sql (.string ((⟨#[1]⟩:ByteArray))) cv (fun cx=>oT rfl (by kernel_rfl) (by kernel_rfl) (cx.ou 14) (by decide)) ?_
 refine sqp [.k 16 (.bool (s.toList==((⟨#[1]⟩:ByteArray)).toList))] ?_
 refine aa (wbs (fun gV=>?_) fun gV=>?_)
 refine wq (sqr (sqp [.k 17 (vp aA)] ?_))
 refine au 0 cv ?_
 refine sqk (.bool (inB x 0 399)) cv (fun cx=>⟨_,fy x 0 399 _,(dG (cx.ou 18) (cx.co _) (cx.co _))⟩) fun zi ek=>?_
 refine sqp [.m 2 19] ?_
 refine aa (wp_ret (aV (ai (aV (ai (ai ?_))))))
 refine bpr (.bool (inB x 0 399)) (ag Tryz.results110 rpt) ?_
 exact Ret.bool (by rw[k9,if_pos (by simpa using dB),BK (B5 gV) (by decide)];simp) ek.ext
 refine wp_skip (av (aa ?_))
 refine⟨3-2,by decide,?_⟩
 exact⟨2,by decide,vL hno (Cc gV),rfl,(by kernel_rfl),cv.pk [0,1]⟩
 refine sqr ?_
 refine gB (.tuple #[.bool true,vi 2,.int .i32 2]) (eIs qR ((⟨#[0,1,2]⟩:ByteArray)) 3) 1 dM (by
   refine svA fun b a W X cx=>?_
   exact sB (c:=2) rfl (cx.ou 8) cx (cx.init 1 _ rfl) rfl (by decide) (by decide) (by decide) rfl rfl rfl (fun _ _ _ _ _=> .intro)) fun IV gW=>?_
 refine sqp [.k 10 (.bool true)] ?_
 refine aa (wq (wct rfl (wp_skip (aa (wp_block (wq (sqr (sqp [.k 11 (.int .i32 2),.m 4 11] ?_))))))))
 refine aa (wq (sqr (sqp [.k 12 (po aA 2)] ?_)))
 refine au 0 gW ?_
 refine sqp [.m 14 4] ?_
 refine sql (.string ((⟨#[2]⟩:ByteArray))) gW (fun cx=>oT rfl (by kernel_rfl) (by kernel_rfl) (cx.ou 14) (by decide)) ?_
 refine sqp [.k 16 (.bool (s.toList==((⟨#[2]⟩:ByteArray)).toList))] ?_
 refine aa (wbs (fun Ia=>?_) fun Ia=>?_)
 refine wq (sqr (sqp [.k 17 (vp aA)] ?_))
 refine au 0 gW ?_
 refine sqk (.bool (inB x 0 399)) gW (fun cx=>⟨_,fy x 0 399 _,(dG (cx.ou 18) (cx.co _) (cx.co _))⟩) fun LW em=>?_
 refine sqp [.m 2 19] ?_
 refine aa (wp_ret (aV (ai (aV (ai (ai ?_))))))
 refine bpr (.bool (inB x 0 399)) (ag Tryz.results110 rpt) ?_
 exact Ret.bool (by rw[k9,if_pos (by simpa using dB),BK (B5 Ia) (by decide)];simp) em.ext
 refine wp_skip (av (aa ?_))
 refine⟨3-3,by decide,?_⟩
 exact⟨3,by decide,vL hno (Cc Ia),rfl,(by kernel_rfl),gW.pk [0,1]⟩
 refine sqr ?_
 refine sql (.tuple #[.bool false]) dM (fun cx=>BV rfl (cx.ou 8) (CtxV.holdJ cx (cx.init 1 _ rfl) rfl) (by decide)) ?_
 refine sqp [.k 10 (.bool false)] ?_
 refine aa (wq (wcf rfl (wp_exit (al (al (bh (aa (wq (sqr (sqp [.k 2 (.bool false)] ?_))))))))))
 refine aa (wp_ret (ai ?_))
 refine bpr (.bool false) (ag Tryz.results110 rpt) ?_
 exact Ret.bool (by rw[k9,if_pos (by simpa using dB),Lz hno];simp) dM.ext
 have ti:=beq_eq_false_iff_ne.1 dB
 refine wp_skip (aa (wq (sqr (sqp [.k 20 (vp aA)] ?_))))
 refine au 0 aB ?_
 refine sqk (.bool (inB x 0 399)) aB (fun cx=>⟨_,fy x 0 399 _,(dG (cx.ou 21) (cx.co _) (cx.co _))⟩) fun OT py=>?_
 refine sqp [.m 23 22] ?_
 refine qF 23 [24,25,26] ?_ py rfl (fun hq=>?_) fun BB fq=>?_
 rotate_left
 refine sqp [.k 24 (po aA 1)] ?_
 refine au 0 py ?_
 refine sqk (.bool (inB sl 0 23)) py (fun cx=>⟨_,fy sl 0 23 _,(dG (cx.ou 25) (cx.co _) (cx.co _))⟩) fun TP NT=>?_
 exact sqE NT
 refine c8 ?_
 refine sqp [sPa 27 (inB x 0 399) (inB sl 0 23),.m 28 27] ?_
 refine d5 28 [29,30,31,32] ?_ rfl (fun hq=>?_) ?_
 rotate_left
 refine sqp [.k 29 (po aA 2)] ?_
 refine au 0 fq ?_
 refine sqp [.k 31 (vi ((s.size:Int))),.k 32 (.bool (decide ((s.size:Int)<=400)))] ?_
 exact sqe
 refine c8 ?_
 refine sqp [sPa 33 ((inB x 0 399)&&(inB sl 0 23)) (decide ((s.size:Int)<=400)),.m 2 33] ?_
 refine aa (wp_ret ?_)
 refine bpr (.bool (((inB x 0 399)&&(inB sl 0 23))&&(decide ((s.size:Int)<=400)))) (ag Tryz.results110 rpt) ?_
 exact Ret.bool (by rw[k9,if_neg (by simpa using dB),Bool.and_assoc]) fq.ext
end
section
open Go.RowKit
def edC(e:EdT):List Value:=[.int .i64 e.1,.int .i64 e.2.1,.string e.2.2]
theorem bA(e:EdT):(edC e).length=3:=rfl
theorem kU{l:List EdT}{k:Nat}(h:k<l.length):∃ep es eb,l[k]? =some (ep,es,eb):=⟨_,_,_,List.getElem?_eq_getElem h⟩
def kG(l:List EdT):Int:=if l.all edR=true then -1 else ((l.findIdx fun e=>!edR e:Nat):Int)
theorem JF{l:List EdT}:decide ((0:Int)<=kG l)=!l.all edR:=by
 unfold kG
 rcases h:l.all edR with _|_
 rw[if_neg (by decide)];exact decide_eq_true (Int.natCast_nonneg _)
 rw[if_pos rfl];rfl
theorem K4{l:List EdT}{j:Nat}{e:EdT}(he:l[j]? =some e)(h:edR e=false)(ha:∀i x,i<j->l[i]? =some x->edR x=true):kG l=(j:Int):=by
 obtain⟨hj,rfl⟩:=List.getElem?_eq_some_iff.1 he
 have h1:l.all edR=false:=by
  rw[List.all_eq_false]
  exact⟨l[j],List.getElem_mem hj,by rw[h];decide⟩
 rw[kG,h1,if_neg (by decide)]
 congr 1
 rw[List.findIdx_eq hj]
 exact⟨by rw[h];rfl,fun i hi=>by rw[ha i _ hi (List.getElem?_eq_getElem (by omega))];rfl⟩
theorem G7{l:List EdT}{j:Nat}(hj:¬((j:Int)<(l.length:Int)))(ha:∀i x,i<j->l[i]? =some x->edR x=true):kG l= -1:=by
 have h1:l.all edR=true:=by
  rw[List.all_eq_true]
  intro x hx
  obtain⟨i,hi,rfl⟩:=List.mem_iff_getElem.1 hx
  exact ha i _ (by omega) (List.getElem?_eq_getElem hi)
 rw[kG,if_pos h1]
theorem xK{l:List EdT}{j:Nat}{e:EdT}(ha:∀i x,i<j->l[i]? =some x->edR x=true)(he:l[j]? =some e)(h:edR e=true):∀i x,i<j+1->l[i]? =some x->edR x=true:=fun i x hi hx=>by
 by_cases e2:i=j
 subst e2
 rw[he] at hx
 injection hx with hx
 subst hx;exact h
 exact ha i x (by omega) hx
theorem AH(x sl:Int)(s:ByteArray)(w:World)(hs:s.size<=9223372036854775807):
  Calls Tryz.prog 109 #[.agg #[.int .i64 x,.int .i64 sl,.string s]] w (Ret (.bool (!edR (x,sl,s))) w):=by
 go_enter Tryz.func109,Tryz.ntmps109
 have ak:=St.start w
 refine wq (sqr ?_)
 refine b9 #[vi x,vi sl,.string s] ak fun aA W1 aB=>?_
 refine sqp [.k 2 (.bool false)] ?_
 refine aa (wq (sqr ?_))
 refine bJ 0 3 aB ?_
 refine sqk (.bool (edR (x,sl,s))) aB (fun cx=>⟨_,Fi x sl s _ (by omega),(aw (cx.ou 3))⟩) fun W4 bb=>?_
 refine sqp [.k 5 (.bool (!(edR (x,sl,s)))),.m 2 5] ?_
 refine aa (wp_ret ?_)
 refine bpr (.bool (!(edR (x,sl,s)))) (ag Tryz.results109 rpt) ?_
 exact Ret.of rfl bb.ext
theorem GZ(A:Option Addr)(c:Nat)(l:List EdT)(w:World)(hA:At w A (l.flatMap edC))(hl:l.length<=1000000)(hz:∀e∈l,e.2.2.size<=9223372036854775807):
  Calls Tryz.prog 117 #[.slice A l.length c,.func (.func 109) #[] #[]] w (Ret (.int .i64 (kG l)) w):=by
 go_enter Tryz.func117,Tryz.ntmps117
 have ak:=St.start w
 refine wq (sqr (sqp [.k 4 (vi 0)] ?_))
 refine aa (wq (wq (sqr (sqp [.m 6 0,.k 7 (vi ((l.length:Int))),.k 8 (vi 0)] ?_))))
 refine aa (wp_block ?_)
 refine aM (fun t_ mz az W=>∃j:Nat,j<=l.length/\(∀i x,i<j->l[i]? =some x->edR x=true)/\mz=l.length-j/\az=⟨(ovr (jv az) [(4,4,2,[]),(2,8,0,[vi ((j:Int))]),(0,9,10,[])] t_).toArray,[]⟩/\St w [] [] W) (l.length-0) ?_ ?_
 exact⟨0,Nat.zero_le _,fun i x h=>absurd h (Nat.not_lt_zero i),rfl,(by kernel_rfl),ak.pk []⟩
 rintro n5 a5 W5 ⟨j,hj,ha,rfl,hj_,aP⟩
 refine ovz hj_ fun xa=>?_
 refine wq (sqr (sqp [.k 9 (.bool (decide ((j:Int)<(l.length:Int))))] ?_))
 refine aa (wq (wds (fun fD nP=>?_) fun fD nP=>?_))
 refine wp_skip (aa (wq (wp_block (wq (sqr (sqp [.m 10 8,.m 5 10] ?_))))))
 refine aa (wq ?_)
 obtain⟨ep,es,eb,hek⟩:=kU (l:=l) (k:=j) (by omega)
 have hez:eb.size<=9223372036854775807:=hz _ (List.mem_of_getElem? hek)
 refine sqr (sqp [.m 11 1,.m 12 0,.m 13 5] ?_)
 refine sql (.pointer (some ((ad A).add (j*3)))) aP (fun cx=>ay (e:=84) (m:=j) (sz:=3) rfl (by kernel_rfl) (by kernel_rfl) (cx.ou 12) (cx.ou 13) (by omega) (by omega) (hA.ext cx.upd.to_ext) (be (sz:=3) bA (by decide) (by omega))) ?_
 refine sql (.agg #[vi ep,vi es,.string eb]) aP (fun cx=>bH (f:=edC) (m:=j) (sz:=3) (off:=0) (n:=3) rfl (by kernel_rfl) (by kernel_rfl) (cx.ou 14) rfl bA (hA.ext cx.upd.to_ext) hek (fun k hk=>match k,hk with|0,_=>rfl|1,_=>rfl|2,_=>rfl|k+3,hk=>absurd hk (by omega))) ?_
 refine sqv (.bool (!(edR (ep,es,eb)))) aP (ik rfl rfl rfl rfl rfl (fun _ _ _ h=>h) fun b a W X cx=>⟨_,_,cN (f:=109) (args:=#[.agg #[vi ep,vi es,.string eb]]) (args':=#[.agg #[vi ep,vi es,.string eb]]) rfl rfl (cx.ou 11) (by kernel_rfl) (aw (cx.ou 15)) rfl,AH ep es eb _ hez⟩) fun BC gn=>?_
 refine aa ?_
 rcases Bool.eq_false_or_eq_true (edR (ep,es,eb)) with dj|dj
 refine wp_cond_false (show Act.eval _ _= .bool false from(congrArg Value.bool (by rw[dj];rfl))) (wp_skip (av (aa (sqr (sqp [sI 18 ((j:Int)+1) (by omega),.m 8 18] ?_)))))
 refine aa ?_
 refine⟨l.length-((j+1)),by omega,?_⟩
 exact⟨(j+1),by omega,xK ha hek (by simpa using dj),rfl,(by kernel_rfl),gn.pk []⟩
 refine wp_cond_true (show Act.eval _ _= .bool true from(congrArg Value.bool (by rw[dj];rfl))) (wq (sqr (sqp [.m 17 5,.m 4 17] ?_)))
 refine aa (wp_ret (aV (ai (ai (aV (ai ?_))))))
 refine bpr (vi ((j:Int))) (ag Tryz.results117 rpt) ?_
 exact Ret.int (K4 hek (by simpa using dj) ha).symm gn.ext
 refine wp_exit (al (al (bh (aa (wq (sqr (sqp [.k 4 (vi (-1))] ?_)))))))
 refine aa (wp_ret ?_)
 refine bpr (vi (-1)) (ag Tryz.results117 rpt) ?_
 exact Ret.int (G7 (of_decide_eq_false fD) ha).symm aP.ext
theorem Kx(A:Option Addr)(c:Nat)(l:List EdT)(w:World)(hA:At w A (l.flatMap edC))(hl:l.length<=1000000)(hz:∀e∈l,e.2.2.size<=9223372036854775807):
  Calls Tryz.prog 53 #[.slice A l.length c,.func (.func 109) #[] #[]] w (Ret (.bool (!l.all edR)) w):=by
 go_enter Tryz.func53,Tryz.ntmps53
 have ak:=St.start w
 refine wq (sqr (sqp [.k 4 (.bool false)] ?_))
 refine aa (wq (sqr (sqp [.m 5 0,.m 6 1] ?_)))
 refine sqk (vi ((kG l))) ak (fun cx=>⟨_,GZ _ _ l _ (hA.ext cx.upd.to_ext) hl hz,(aT (cx.ou 5) (cx.ou 6))⟩) fun W4 bb=>?_
 refine sqp [.k 8 (.bool (decide (0<=(kG l)))),.m 4 8] ?_
 refine aa (wp_ret ?_)
 refine bpr (.bool (decide (0<=(kG l)))) (ag Tryz.results53 rpt) ?_
 exact Ret.bool JF bb.ext
end
section
open Go.RowKit
def Lx(r:RecM)(A:Option Addr)(c:Nat):Value:= .agg #[.int .i64 r.kind,.int .i64 r.xid,.int .i64 r.tbl,.slice none 0 0,.slice none 0 0,.slice A r.eds.length c,.slice none 0 0,.string r.note]
theorem Nu(w:World):
  Calls Tryz.prog 156 #[sn,.func (.func 112) #[] #[]] w (Ret (.int .i64 (-1)) w):=by
 go_enter Tryz.func156,Tryz.ntmps156
 have ak:=St.start w
 refine wq (sqr (sqp [.k 4 (vi 0)] ?_))
 refine aa (wq (wq (sqr (sqp [.m 6 0,.k 7 (vi 0),.k 8 (vi 0)] ?_))))
 refine aa (wp_block ?_)
 refine aM (fun t_ mz az W=>∃j:Nat,j<=0/\mz=0-j/\az=⟨(ovr (jv az) [(4,4,2,[]),(2,8,0,[vi ((j:Int))]),(0,9,10,[])] t_).toArray,[]⟩/\St w [] [] W) (0-0) ?_ ?_
 exact⟨0,Nat.zero_le _,rfl,(by kernel_rfl),ak.pk []⟩
 rintro n5 a5 W5 ⟨j,hj,rfl,hj_,aP⟩
 refine ovz hj_ fun xa=>?_
 refine wq (sqr ?_)
 have hd7:(decide ((j:Int)<0))=false:=(decide_eq_false (by omega))
 refine sqp [.e 9 (.bool (decide ((j:Int)<0))) (.bool false) (congrArg Value.bool hd7)] ?_
 refine aa (wq (wcf rfl (wp_exit (al (al (bh (aa (wq (sqr (sqp [.k 4 (vi (-1))] ?_))))))))))
 refine aa (wp_ret ?_)
 refine bpr (vi (-1)) (ag Tryz.results156 rpt) ?_
 exact Ret.of rfl aP.ext
theorem Lu(w:World):
  Calls Tryz.prog 111 #[sn,.func (.func 112) #[] #[]] w (Ret (.bool false) w):=by
 go_enter Tryz.func111,Tryz.ntmps111
 have ak:=St.start w
 refine wq (sqr (sqp [.k 4 (.bool false)] ?_))
 refine aa (wq (sqr (sqp [.m 5 0,.m 6 1] ?_)))
 refine sqk (vi ((-1))) ak (fun cx=>⟨_,Nu _,(aT (cx.ou 5) (cx.ou 6))⟩) fun W4 bb=>?_
 refine sqp [.k 8 (.bool (decide (0<=(-1)))),.m 4 8] ?_
 refine aa (wp_ret ?_)
 refine bpr (.bool (decide (0<=(-1)))) (ag Tryz.results111 rpt) ?_
 exact Ret.bool (by decide) bb.ext
theorem NN(w:World):
  Calls Tryz.prog 180 #[sn,.func (.func 158) #[] #[]] w (Ret (.int .i64 (-1)) w):=by
 go_enter Tryz.func180,Tryz.ntmps180
 have ak:=St.start w
 refine wq (sqr (sqp [.k 4 (vi 0)] ?_))
 refine aa (wq (wq (sqr (sqp [.m 6 0,.k 7 (vi 0),.k 8 (vi 0)] ?_))))
 refine aa (wp_block ?_)
 refine aM (fun t_ mz az W=>∃j:Nat,j<=0/\mz=0-j/\az=⟨(ovr (jv az) [(4,4,2,[]),(2,8,0,[vi ((j:Int))]),(0,9,10,[])] t_).toArray,[]⟩/\St w [] [] W) (0-0) ?_ ?_
 exact⟨0,Nat.zero_le _,rfl,(by kernel_rfl),ak.pk []⟩
 rintro n5 a5 W5 ⟨j,hj,rfl,hj_,aP⟩
 refine ovz hj_ fun xa=>?_
 refine wq (sqr ?_)
 have hd7:(decide ((j:Int)<0))=false:=(decide_eq_false (by omega))
 refine sqp [.e 9 (.bool (decide ((j:Int)<0))) (.bool false) (congrArg Value.bool hd7)] ?_
 refine aa (wq (wcf rfl (wp_exit (al (al (bh (aa (wq (sqr (sqp [.k 4 (vi (-1))] ?_))))))))))
 refine aa (wp_ret ?_)
 refine bpr (vi (-1)) (ag Tryz.results180 rpt) ?_
 exact Ret.of rfl aP.ext
theorem La(w:World):
  Calls Tryz.prog 157 #[sn,.func (.func 158) #[] #[]] w (Ret (.bool false) w):=by
 go_enter Tryz.func157,Tryz.ntmps157
 have ak:=St.start w
 refine wq (sqr (sqp [.k 4 (.bool false)] ?_))
 refine aa (wq (sqr (sqp [.m 5 0,.m 6 1] ?_)))
 refine sqk (vi ((-1))) ak (fun cx=>⟨_,NN _,(aT (cx.ou 5) (cx.ou 6))⟩) fun W4 bb=>?_
 refine sqp [.k 8 (.bool (decide (0<=(-1)))),.m 4 8] ?_
 refine aa (wp_ret ?_)
 refine bpr (.bool (decide (0<=(-1)))) (ag Tryz.results157 rpt) ?_
 exact Ret.bool (by decide) bb.ext
theorem DN(w:World):
  Calls Tryz.prog 113 #[sn] w (Ret (.bool true) w):=by
 go_enter Tryz.func113,Tryz.ntmps113
 have ak:=St.start w
 refine wq (sqr (sqp [.k 2 (.bool false)] ?_))
 refine aa (wq (sqr (sqp [.m 3 0,.k 4 (vi 0),.k 5 (.bool true),.k 6 (.bool true)] ?_)))
 refine dF 6 [7,8,9] rfl rfl ?_
 refine sqp [.m 7 0] ?_
 refine sqk (.bool false) ak (fun cx=>⟨_,La _,(aT (cx.ou 7) (cx.sees.func _))⟩) fun W7 aZ=>?_
 refine sqp [.k 9 (.bool true)] ?_
 refine sqp [.k 10 (.bool true),.k 2 (.bool true)] ?_
 refine aa (wp_ret ?_)
 refine bpr (.bool true) (ag Tryz.results113 rpt) ?_
 exact Ret.bool (by decide) aZ.ext
theorem lK(k x t:Int)(A:Option Addr)(c:Nat)(l:List EdT)(note:ByteArray)(w:World)(hA:At w A (l.flatMap edC))(hl:l.length<=1000000)(hz:∀e∈l,e.2.2.size<=9223372036854775807)(hns:note.size<=9223372036854775807):
  Calls Tryz.prog 51 #[.agg #[.int .i64 k,.int .i64 x,.int .i64 t,sn,sn,.slice A l.length c,sn,.string note]] w (Ret (.bool (bz ⟨k,x,t,l,note⟩)) w):=by
 go_enter Tryz.func51,Tryz.ntmps51
 have ak:=St.start w
 refine wq (sqr ?_)
 refine b9 #[vi k,vi x,vi t,sn,sn,.slice A l.length c,sn,.string note] ak fun aA W1 aB=>?_
 refine sqp [.k 2 (.bool false)] ?_
 refine aa (wq (sqr (sqp [.k 6 (vp aA)] ?_)))
 refine au 0 aB ?_
 refine sqk (.bool (inB k 1 10)) aB (fun cx=>⟨_,fy k 1 10 _,(dG (cx.ou 7) (cx.co _) (cx.co _))⟩) fun W5 aP=>?_
 refine sqp [.m 9 8] ?_
 refine qF 9 [10,11,12] ?_ aP rfl (fun hq=>?_) fun w4 dP=>?_
 rotate_left
 refine sqp [.k 10 (po aA 1)] ?_
 refine au 0 aP ?_
 refine sqk (.bool (inB x 0 127)) aP (fun cx=>⟨_,fy x 0 127 _,(dG (cx.ou 11) (cx.co _) (cx.co _))⟩) fun W9 cG=>?_
 exact sqE cG
 refine c8 ?_
 refine sqp [sPa 13 (inB k 1 10) (inB x 0 127),.m 14 13] ?_
 refine qF 14 [15,16,17] ?_ dP rfl (fun hq=>?_) fun qQ dx=>?_
 rotate_left
 refine sqp [.k 15 (po aA 2)] ?_
 refine au 0 dP ?_
 refine sqk (.bool (inB t 0 65535)) dP (fun cx=>⟨_,fy t 0 65535 _,(dG (cx.ou 16) (cx.co _) (cx.co _))⟩) fun BC gn=>?_
 exact sqE gn
 refine c8 ?_
 refine sqp [sPa 18 ((inB k 1 10)&&(inB x 0 127)) (inB t 0 65535),.m 3 18] ?_
 refine aa (wq (sqr (sqp [.k 19 (po aA 5)] ?_)))
 refine au 0 dx ?_
 refine sqp [.k 21 (vi ((l.length:Int))),.k 22 (.bool (decide ((l.length:Int)<=64))),.m 23 22] ?_
 refine qF 23 [24,25,26,27] ?_ dx rfl (fun hq=>?_) fun zu dR=>?_
 rotate_left
 refine sqp [.k 24 (po aA 5)] ?_
 refine au 0 dx ?_
 refine sqk (.bool (!(l.all edR))) dx (fun cx=>⟨_,Kx _ _ l _ (hA.ext cx.upd.to_ext) hl hz,(aT (cx.ou 25) (cx.sees.func _))⟩) fun w9 fw=>?_
 refine sqp [.k 27 (.bool (!(!(l.all edR))))] ?_
 exact sqE fw
 refine c8 ?_
 refine sqp [sPa 28 (decide ((l.length:Int)<=64)) (!(!(l.all edR))),.m 4 28] ?_
 refine aa (wq (sqr (sqp [.k 29 (po aA 6)] ?_)))
 refine au 0 dR ?_
 refine sqp [.k 31 (vi 0),.k 32 (.bool true),.k 33 (.bool true)] ?_
 refine dF 33 [34,35,36,37] rfl rfl ?_
 refine sqp [.k 34 (po aA 6)] ?_
 refine au 0 dR ?_
 refine sqk (.bool false) dR (fun cx=>⟨_,Lu _,(aT (cx.ou 35) (cx.sees.func _))⟩) fun Fs iw=>?_
 refine sqp [.k 37 (.bool true)] ?_
 refine sqp [.k 38 (.bool true),.k 5 (.bool true)] ?_
 refine aa (wq (sqr (sqp [.m 39 3,.m 40 39] ?_)))
 refine sqw 40 [41] rfl (fun _=>sqp [.m 41 4] sqe) ?_
 refine sqp [sPa 42 (((inB k 1 10)&&(inB x 0 127))&&(inB t 0 65535)) ((decide ((l.length:Int)<=64))&&(!(!(l.all edR)))),.m 43 42] ?_
 refine sqw 43 [44] rfl (fun _=>sqp [.k 44 (.bool true)] sqe) ?_
 refine sqp [sPa 45 ((((inB k 1 10)&&(inB x 0 127))&&(inB t 0 65535))&&((decide ((l.length:Int)<=64))&&(!(!(l.all edR))))) true,.m 46 45] ?_
 refine qF 46 [47,48,49] ?_ iw rfl (fun hq=>?_) fun OU kO=>?_
 rotate_left
 refine sqp [.k 47 (po aA 3)] ?_
 refine au 0 iw ?_
 refine sqk (.bool true) iw (fun cx=>⟨_,DN _,(aw (cx.ou 48))⟩) fun BD cL=>?_
 exact sqE cL
 refine c8 ?_
 refine sqp [sPa 50 (((((inB k 1 10)&&(inB x 0 127))&&(inB t 0 65535))&&((decide ((l.length:Int)<=64))&&(!(!(l.all edR)))))&&true) true,.m 51 50] ?_
 refine qF 51 [52,53,54] ?_ kO rfl (fun hq=>?_) fun Fp fW=>?_
 rotate_left
 refine sqp [.k 52 (po aA 4)] ?_
 refine au 0 kO ?_
 refine sqk (.bool true) kO (fun cx=>⟨_,DN _,(aw (cx.ou 53))⟩) fun IW kc=>?_
 exact sqE kc
 refine c8 ?_
 refine sqp [sPa 55 ((((((inB k 1 10)&&(inB x 0 127))&&(inB t 0 65535))&&((decide ((l.length:Int)<=64))&&(!(!(l.all edR)))))&&true)&&true) true,.m 56 55] ?_
 refine d5 56 [57,58,59,60] ?_ rfl (fun hq=>?_) ?_
 rotate_left
 refine sqp [.k 57 (po aA 7)] ?_
 refine au 0 fW ?_
 refine sqp [.k 59 (vi ((note.size:Int))),.k 60 (.bool (decide ((note.size:Int)<=60000)))] ?_
 exact sqe
 refine c8 ?_
 refine sqp [sPa 61 (((((((inB k 1 10)&&(inB x 0 127))&&(inB t 0 65535))&&((decide ((l.length:Int)<=64))&&(!(!(l.all edR)))))&&true)&&true)&&true) (decide ((note.size:Int)<=60000)),.m 2 61] ?_
 refine aa (wp_ret ?_)
 refine bpr (.bool ((((((((inB k 1 10)&&(inB x 0 127))&&(inB t 0 65535))&&((decide ((l.length:Int)<=64))&&(!(!(l.all edR)))))&&true)&&true)&&true)&&(decide ((note.size:Int)<=60000)))) (ag Tryz.results51 rpt) ?_
 exact Ret.bool (by simp[bz,Bool.and_assoc]) fW.ext
end
section
open Go.RowKit
theorem Ext.below_{x z:World}(k:Below x.heap.size x z):Ext x z:=⟨k.os,k.tape,k.output,k.size,fun i hi=>k.block i hi⟩
def cd(l:List ByteArray):ByteArray:=bI (l.flatMap fun s=>s.data.toList)
theorem fL:cd []=⟨#[]⟩:=rfl
theorem bD(a:ByteArray)(l:List ByteArray):cd (a::l)=a++cd l:=by
 rw[cd,List.flatMap_cons,nI];congr 1
theorem iz(l:List ByteArray):(cd l).size=(l.map (·.size)).sum:=by
 induction l with
 |nil=>rfl
 |cons a l ih=>rw[bD,ByteArray.size_append,ih,List.map_cons,List.sum_cons]
theorem Ks(g cap:Nat)(xs:List ByteArray)(w:World)(hA:At w (some ⟨g,0,none⟩) (xs.map Value.string))(hg:g<w.heap.size)(hc:xs.length<=cap)(hlen:(cd xs).size<=2000000)(hN:xs.length<=100):
  Calls Tryz.prog 163 #[.slice (some ⟨g,0,none⟩) xs.length cap,.string ⟨#[]⟩] w (Ret (.string (cd xs)) w):=by
 have hj:Lib.join (xs.map (·.data.toList)) []=xs.flatMap fun s=>s.data.toList:=by
  rw[Lib.join,List.intercalate]
  have:∀l:List (List UInt8),(List.intersperse [] l).flatten=l.flatten:=by
   intro l
   induction l with
   |nil=>rfl
   |cons a l ih=>
    cases l with
    |nil=>rfl
    |cons b l=>rw[List.intersperse_cons_cons,List.flatten_cons,List.flatten_cons,ih];simp
  rw[this,List.flatMap_def]
 refine(Tryz.strings_Join g 0 cap xs ⟨#[]⟩ w (fun j x hx=>?_) hg (by omega) hc ?_).mono ?_
 obtain⟨ad,h1,h2,h3⟩:=hA j (.string x) (by simp[hx])
 injection h1 with h1
 subst h1
 have e:(⟨g,0+j,none⟩:Addr)=(⟨g,0,none⟩:Addr).add j:=by simp[Addr.add]
 rw[e];exact h3
 show (Lib.join (xs.map (·.data.toList)) []).length<= _
 rw[hj]
 have:(xs.flatMap fun s=>s.data.toList).length=(cd xs).size:=(lg _).symm
 omega
 rintro e w' ⟨rfl,hb⟩
 refine⟨?_,Ext.below_ hb⟩
 show Ending.returned (.string ⟨(Lib.join (xs.map (·.data.toList)) []).toArray⟩)= _
 rw[hj]
 rfl
theorem Hx(g cap:Nat)(xs:List ByteArray)(w:World)(hA:At w (some ⟨g,0,none⟩) (xs.map Value.string))(hg:g<w.heap.size)(hcp:xs.length<=cap)(hlen:(cd xs).size<=2000000)(hN:xs.length<=100):
  Calls Tryz.prog 119 #[.slice ((some ⟨g,0,none⟩)) xs.length cap] w (Ret (.string (cd xs)) w):=by
 go_enter Tryz.func119,Tryz.ntmps119
 have ak:=St.start w
 refine wq (sqr (sqp [.k 2 (.string ⟨#[]⟩)] ?_))
 refine aa (wq (sqr (sqp [.m 3 0] ?_)))
 refine sqk (.string ((cd xs))) ak (fun cx=>⟨_,Ks g cap xs _ (hA.ext cx.upd.to_ext) (Nat.lt_of_lt_of_le hg cx.upd.size) hcp hlen hN,(aT (cx.ou 3) (cx.co _))⟩) fun W3 aW=>?_
 refine sqp [.m 2 4] ?_
 refine aa (wp_ret ?_)
 refine bpr (.string ((cd xs))) (ag Tryz.results119 rpt) ?_
 exact Ret.of rfl aW.ext
theorem mn(v:Value)(xs:List ByteArray)(w:World)(hown:w.ownsRow 0 9 1 v xs.length (xs.map Value.string))(hne:0<xs.length)(hlen:(cd xs).size<=2000000)(hN:xs.length<=100):Calls Tryz.prog 119 #[v] w (Ret (.string (cd xs)) w):=by
 have hlt:=hown.lt
 rcases hown.2 with ⟨hv,h0⟩|⟨g,cap,cur,hv,hb,hg,hle,hmx,hcs,htk⟩
 omega
 subst hv
 exact Hx g cap xs w (At.of_own hown) (hlt g rfl).2 (by omega) hlen hN
theorem lh(n:Int)(w:World):
  Calls Tryz.prog 160 #[.int .i64 n] w (Ret (.string (aj n 1)) w):=by
 go_enter Tryz.func160,Tryz.ntmps160
 have ak:=St.start w
 refine wq (sqr (sqp [.k 2 (.string ⟨#[]⟩)] ?_))
 refine aa (wq (sqr (sqp [.m 3 0] ?_)))
 refine sqk (.string (aj n 1)) ak (fun cx=>⟨_,p9 n _,(aT (cx.ou 3) (cx.co _))⟩) fun W3 aW=>?_
 refine sqp [.m 2 4] ?_
 refine aa (wp_ret ?_)
 refine bpr (.string (aj n 1)) (ag Tryz.results160 rpt) ?_
 exact Ret.of rfl aW.ext
theorem wg(n:Int)(w:World):
  Calls Tryz.prog 161 #[.int .i64 n] w (Ret (.string (aj n 2)) w):=by
 go_enter Tryz.func161,Tryz.ntmps161
 have ak:=St.start w
 refine wq (sqr (sqp [.k 2 (.string ⟨#[]⟩)] ?_))
 refine aa (wq (sqr (sqp [.m 3 0] ?_)))
 refine sqk (.string (aj n 2)) ak (fun cx=>⟨_,wV n _,(aT (cx.ou 3) (cx.co _))⟩) fun W3 aW=>?_
 refine sqp [.m 2 4] ?_
 refine aa (wp_ret ?_)
 refine bpr (.string (aj n 2)) (ag Tryz.results161 rpt) ?_
 exact Ret.of rfl aW.ext
end
section
open Go.RowKit
def de(l:List UInt8):ByteArray:=⟨l.toArray⟩
def iE:ByteArray:=aX ⟨#[0]⟩
def hdB(r:RecM):ByteArray:=cd [aj r.kind 1,aj r.xid 1,aj r.tbl 2,iE,iE,aj (r.eds.length:Int) 1]
def edB(s:ByteArray)(e:EdT):ByteArray:=cd [s,aj e.1 2,aj (e.2.1+1) 1,aX e.2.2]
def cU(s:ByteArray)(l:List EdT):ByteArray:=l.foldl edB s
def ax(r:RecM):ByteArray:=if bz r=true then cd [cd [cU (hdB r) r.eds,aj 0 1],aX r.note] else ⟨#[]⟩
def aC(r:RecM):ByteArray:=if bz r=true then cd [aj ((ax r).size:Int) 4,aj (bj (ax r):Int) 4,ax r] else ⟨#[]⟩
theorem gN(s:ByteArray):(aX s).size=2+s.size:=by rw[aX,ByteArray.size_append,aF _ _ (by decide)]
theorem vZ:iE.size=3:=gN _
theorem iF(r:RecM):(hdB r).size=11:=by
 rw[hdB,iz]
 simp only[List.map_cons,List.map_nil,List.sum_cons,List.sum_nil,vZ,aF _ 1 (by decide),aF _ 2 (by decide)]
 rfl
theorem qr(a b:ByteArray):(cd [a,b]).size=a.size+b.size:=by
 rw[iz];simp only[List.map_cons,List.map_nil,List.sum_cons,List.sum_nil];omega
theorem v6(a b c:ByteArray):(cd [a,b,c]).size=a.size+b.size+c.size:=by
 rw[iz];simp only[List.map_cons,List.map_nil,List.sum_cons,List.sum_nil];omega
theorem sZ(s:ByteArray)(e:EdT):(edB s e).size=s.size+5+e.2.2.size:=by
 rw[edB,iz]
 simp only[List.map_cons,List.map_nil,List.sum_cons,List.sum_nil,gN,aF _ 1 (by decide),aF _ 2 (by decide)]
 omega
theorem wh{s:ByteArray}{l:List EdT}{j:Nat}{e:EdT}(he:l[j]? =some e):cU s (l.take (j+1))=edB (cU s (l.take j)) e:=by
 obtain⟨hj,rfl⟩:=List.getElem?_eq_some_iff.1 he
 rw[cU,List.take_succ_eq_append_getElem hj,List.foldl_append];rfl
theorem kX{l:List EdT}(h:∀e∈l,e.2.2.size<=400):∀s:ByteArray,(cU s l).size<=s.size+l.length*405:=by
 induction l with
 |nil=>intro s;exact Nat.le_refl _
 |cons e l ih=>
  intro s
  have h1:=ih (fun x hx=>h x (by simp[hx])) (edB s e)
  rw[sZ] at h1
  have h2:=h e (by simp)
  show (cU (edB s e) l).size<= _
  rw[List.length_cons,Nat.add_mul]
  omega
theorem dn{e:EdT}(h:edR e=true):e.2.2.size<=400:=by
 simp only[edR,Bool.and_eq_true] at h
 have h2:=h.2
 split at h2
 simp only[eR,Bool.not_eq_true',Bool.or_eq_false_iff,decide_eq_false_iff_not] at h2
 omega
 simp only[Bool.and_eq_true,decide_eq_true_eq] at h2
 omega
theorem jL{e:EdT}(h:edR e=true):(0<=e.1/\e.1<=399)/\  -1<=e.2.1/\e.2.1<=23:=by
 simp only[edR,inB,Bool.and_eq_true,decide_eq_true_eq] at h
 refine⟨h.1,?_⟩
 have h2:=h.2
 split at h2
 omega
 simp only[Bool.and_eq_true,decide_eq_true_eq] at h2
 omega
structure RecOk (r:RecM):Prop where
 kind:1<=r.kind/\r.kind<=10
 xid:0<=r.xid/\r.xid<=127
 tbl:0<=r.tbl/\r.tbl<=65535
 many:r.eds.length<=64
 eds:∀e∈r.eds,edR e=true
 note:r.note.size<=60000
theorem d9{r:RecM}(h:bz r=true):RecOk r:=by
 simp only[bz,inB,Bool.and_eq_true,decide_eq_true_eq,List.all_eq_true] at h
 exact⟨h.1,h.2.1,h.2.2.1,by omega,h.2.2.2.2.1,by omega⟩
theorem jg(r:RecM):(ax r).size<=100000:=by
 unfold ax
 split
 rename_i h
 have h1:=d9 h
 have h2:=kX (fun e he=>dn (h1.eds e he)) (hdB r)
 have h3:r.eds.length*405<=64*405:=Nat.mul_le_mul_right _ h1.many
 have h4:=h1.note
 rw[iF] at h2
 rw[iz]
 simp only[List.map_cons,List.map_nil,List.sum_cons,List.sum_nil,gN,iz,aF _ 1 (by decide)]
 omega
 exact Nat.zero_le _
theorem ER(w:World):
  Calls Tryz.prog 181 #[sn] w (Ret (.bool true) w):=by
 go_enter Tryz.func181,Tryz.ntmps181
 have ak:=St.start w
 refine wq (sqr (sqp [.k 2 (.bool false)] ?_))
 refine aa (wq (wq (sqr (sqp [.m 5 0,.k 6 (vi 0),.k 7 (vi 0)] ?_))))
 refine aa (wp_block ?_)
 refine aM (fun t_ mz az W=>∃j:Nat,j<=0/\mz=0-j/\az=⟨(ovr (jv az) [(2,2,1,[]),(1,4,1,[]),(2,7,0,[vi ((j:Int))]),(0,8,7,[])] t_).toArray,[]⟩/\St w [] [] W) (0-0) ?_ ?_
 exact⟨0,Nat.zero_le _,rfl,(by kernel_rfl),ak.pk []⟩
 rintro n5 a5 W5 ⟨j,hj,rfl,hj_,aP⟩
 refine ovz hj_ fun xa=>?_
 refine wq (sqr ?_)
 have hd7:(decide ((j:Int)<0))=false:=(decide_eq_false (by omega))
 refine sqp [.e 8 (.bool (decide ((j:Int)<0))) (.bool false) (congrArg Value.bool hd7)] ?_
 refine aa (wq (wcf rfl (wp_exit (al (al (bh (aa (wq (sqr (sqp [.m 15 0,.k 16 (vi 0),.k 17 (.bool true),.k 2 (.bool true)] ?_))))))))))
 refine aa (wp_ret ?_)
 refine bpr (.bool true) (ag Tryz.results181 rpt) ?_
 exact Ret.bool (by decide) aP.ext
theorem wW(w:World):
  Calls Tryz.prog 162 #[sn] w (Ret (.string ⟨#[0]⟩) w):=by
 go_enter Tryz.func162,Tryz.ntmps162
 have ak:=St.start w
 refine wq (sqr (sqp [.k 2 (.string ⟨#[]⟩)] ?_))
 refine aa (wq (wq (sqr (sqp [.m 6 0] ?_))))
 refine sqk (.bool true) ak (fun cx=>⟨_,ER _,(aw (cx.ou 6))⟩) fun W3 aW=>?_
 refine sqp [.k 8 (.bool false)] ?_
 refine aa (wcf rfl (wp_skip (aa (wq (sqr (cf #[.pointer none,sn] aW fun CN W5 aP=>?_))))))
 refine aa (wq (sqr (sqp [.m 9 0,.k 10 (vi 0),sW 11 .u8 0 0 (by decide)] ?_)))
 refine bN (fun X_=>rO X_) (.nilIface) (fun Ib=>eBu CN Ib [UInt8.ofNat (0:Int).toNat]) 0 aP (by
   refine svA fun g d W X cx=>?_
   refine am.call (aq (args:=#[vp CN,.int .u8 0]) rfl cx.sees rfl (by kernel_rfl) (aT (cx.ou 3) (cx.ou 11))) ?_
   refine(NB _ _ [] 0 _ (gA.fresh (cx.bi 0 rfl)) (by omega) (by decide)).mono ?_
   rintro e W1 ⟨rfl,hu⟩
   refine⟨_,rfl,oo (by rw[(cx.init 0 _ rfl)];rfl) rfl rfl hu (fun b f X' hs hb hv hx=>?_)⟩
   exact⟨(hv 12 rfl).1,hx⟩) fun Ib W9 cG=>?_
 refine aa (wq (wq (sqr (sqp [.m 13 0,.k 14 (vi 0),.k 15 (vi 0)] ?_))))
 refine aa (wp_block ?_)
 refine aM (fun t_ mz az W=>∃j:Nat,j<=0/\mz=0-j/\az=⟨(ovr (jv az) [(5,5,1,[]),(9,15,0,[vi ((j:Int))]),(0,16,27,[])] t_).toArray,[]⟩/\St w [] [eBu CN Ib [UInt8.ofNat (0:Int).toNat]] W) (0-0) ?_ ?_
 exact⟨0,Nat.zero_le _,rfl,(by kernel_rfl),cG.pk [0]⟩
 rintro TQ a13 IU ⟨j,hj,rfl,hj_,i7⟩
 refine ovz hj_ fun R4=>?_
 refine wq (sqr ?_)
 have hd15:(decide ((j:Int)<0))=false:=(decide_eq_false (by omega))
 refine sqp [.e 16 (.bool (decide ((j:Int)<0))) (.bool false) (congrArg Value.bool hd15)] ?_
 refine aa (wq (wcf rfl (wp_exit (al (al (bh (aa (wq (aE [0,1] [[0]] [] [[0]] [.a 43,.c 2 (.string (de ([UInt8.ofNat (0:Int).toNat])))] (fun ix b d X=>match ix with|0=>b 43= .string (de ([UInt8.ofNat (0:Int).toNat]))|_=>True) [] [0,1] [(2,1,1,3),(40,0,1,41)] i7 ?_ ?_ ?_)))))))))
 exact fun ix _ _ _ _ _ _ hs hb hx h=>match ix,h with
 |0,h=>(hs _ rfl).symm.trans h
 |_+1,_=>trivial
 refine⟨?_,?_,trivial⟩
 refine svA fun g d W X cx=>?_
 refine am.call (aq (args:=#[vp CN]) rfl cx.sees rfl (by kernel_rfl) (aw (cx.ou 3))) ?_
 refine(Jt _ _ ([UInt8.ofNat (0:Int).toNat]) _ (cx.sb (cx.init 0 _ rfl) rfl) (by simp) (by(try simp only[List.length_append,List.length_cons,List.length_nil]);omega)).mono ?_
 rintro e W1 ⟨rfl,hu⟩
 refine⟨_,rfl,wj (by rw[(cx.init 0 _ rfl)];rfl) rfl rfl hu (fun b f X' hs hb hv=>?_)⟩
 exact(hv 43 rfl).1
 exact xs4 rfl id fun cx=>cJ rfl (dTn (cx.an 0))
 intro b d X qQ hD dx fr aD
 simp only[ed 43 ((dTn (hD 0 lq)))] at aD
 clear hD;subst aD;clear b d X
 refine aa (wp_ret ?_)
 refine bpr (.string (de ([UInt8.ofNat (0:Int).toNat]))) (ag Tryz.results162 rpt) ?_
 exact Ret.of rfl dx.ext
theorem Cp(k x t:Int)(A:Option Addr)(c:Nat)(l:List EdT)(note:ByteArray)(w:World)(hA:At w A (l.flatMap edC))(hl:l.length<=1000000)(hz:∀e∈l,e.2.2.size<=9223372036854775807)(hns:note.size<=9223372036854775807):
  Calls Tryz.prog 118 #[.agg #[.int .i64 k,.int .i64 x,.int .i64 t,sn,sn,.slice A l.length c,sn,.string note]] w (Ret (.string (ax ⟨k,x,t,l,note⟩)) w):=by
 go_enter Tryz.func118,Tryz.ntmps118
 have ak:=St.start w
 refine wq (sqr ?_)
 refine b9 #[vi k,vi x,vi t,sn,sn,.slice A l.length c,sn,.string note] ak fun aA W1 aB=>?_
 refine sqp [.k 2 (.string ⟨#[]⟩)] ?_
 refine aa (wq (wq (sqr ?_)))
 refine bJ 0 8 aB ?_
 refine sqk (.bool (bz ⟨k,x,t,l,note⟩)) aB (fun cx=>⟨_,lK k x t _ _ l note _ (hA.ext cx.upd.to_ext) hl hz hns,(aw (cx.ou 8))⟩) fun W4 bb=>?_
 refine sqp [.k 10 (.bool (!(bz ⟨k,x,t,l,note⟩)))] ?_
 refine aa ?_
 rcases Bool.eq_false_or_eq_true (bz ⟨k,x,t,l,note⟩) with dB|dB
 refine wp_cond_false (show Act.eval _ _= .bool false from(congrArg Value.bool (by rw[dB];rfl))) (wp_skip (aa (wq ?_)))
 have hrr:=dB
 have hro:=d9 hrr
 have hrm:l.length<=64:=hro.many
 have hrn:note.size<=60000:=hro.note
 refine aE [0,1,3,0,8,31,0,64,255,0,512,2047,4095,0,8192,32767,65535,0,131072,393216,1048575,2097151,4194303,8388607] [[],[0],[],[],[0],[],[],[0],[],[],[0],[],[],[],[0],[],[],[],[0],[],[],[],[1]] [[],[],[],[],[],[],[],[],[],[],[],[],[],[],[],[],[],[],[],[],[],[1]] [] [.k 11 (vp aA),.c 12 (vi k),.c 13 (.string (aj k 1)),.k 14 (po aA 1),.c 15 (vi x),.c 16 (.string (aj x 1)),.k 17 (po aA 2),.c 18 (vi t),.c 19 (.string (aj t 2)),.k 20 (po aA 3),.c 21 (sn),.c 22 (.string ((⟨#[0]⟩:ByteArray))),.c 23 (.string (aX (⟨#[0]⟩:ByteArray))),.k 24 (po aA 4),.c 25 (sn),.c 26 (.string ((⟨#[0]⟩:ByteArray))),.c 27 (.string (aX (⟨#[0]⟩:ByteArray))),.k 28 (po aA 5),.c 29 (.slice A l.length c),.k 30 (vi ((l.length:Int))),.c 31 (.string (aj (l.length:Int) 1)),.a 32,.c 33 (.string ((cd [(aj k 1),(aj x 1),(aj t 2),(aX (⟨#[0]⟩:ByteArray)),(aX (⟨#[0]⟩:ByteArray)),(aj (l.length:Int) 1)]))),.k 3 (.string ((cd [(aj k 1),(aj x 1),(aj t 2),(aX (⟨#[0]⟩:ByteArray)),(aX (⟨#[0]⟩:ByteArray)),(aj (l.length:Int) 1)])))] (fun ix g d X=>match ix with|0|1|2|3|4|5|6|7|8|9|10|11|12|13|14|15|16|17|18|19|20=>True|21=>g 32= .slice (sA (d 32)) 6 6/\X 1=eO 9 1 (.slice (sA (d 32)) 6 6) 6 ([.string (aj k 1),.string (aj x 1),.string (aj t 2),.string (aX (⟨#[0]⟩:ByteArray)),.string (aX (⟨#[0]⟩:ByteArray)),.string (aj (l.length:Int) 1)])|_=>True) [0,1] [1,2,4,5,7,8,10,11,12,14,15,16,18,20,21,22] [(3,23,1,4),(7,0,23,30)] bb ?_ ?_ ?_
 exact fun ix _ _ _ _ _ _ hs hb hx h=>match ix,h with
 |21,h=>by dsimp only;rw[<-hs 32 rfl,<-hb 32 rfl,<-hx 1 rfl];exact h
 |0,_|1,_|2,_|3,_|4,_|5,_|6,_|7,_|8,_|9,_|10,_|11,_|12,_|13,_|14,_|15,_|16,_|17,_|18,_|19,_|20,_|_+22,_=>trivial
 refine⟨?_,?_,?_,?_,?_,?_,?_,?_,?_,?_,?_,?_,?_,?_,?_,?_,trivial⟩
 exact xs4 rfl id fun cx=>ae rfl (by kernel_rfl) (cx.an 0) ((cx.bi 0 rfl).cell 0)
 exact xsc rfl id rfl rfl fun cx=>⟨_,lh k _,(aw (cx.an 1))⟩
 exact xs4 rfl id fun cx=>ae rfl (by kernel_rfl) (cx.an 3) ((cx.bi 0 rfl).cell 1)
 exact xsc rfl id rfl rfl fun cx=>⟨_,lh x _,(aw (cx.an 4))⟩
 exact xs4 rfl id fun cx=>ae rfl (by kernel_rfl) (cx.an 6) ((cx.bi 0 rfl).cell 2)
 exact xsc rfl id rfl rfl fun cx=>⟨_,wg t _,(aw (cx.an 7))⟩
 exact xs4 rfl id fun cx=>ae rfl (by kernel_rfl) (cx.an 9) ((cx.bi 0 rfl).cell 3)
 exact xsc rfl id rfl rfl fun cx=>⟨_,wW _,(aw (cx.an 10))⟩
 exact xsc rfl id rfl rfl fun cx=>⟨_,k0 (⟨#[0]⟩:ByteArray) _ (by decide),(aw (cx.an 11))⟩
 exact xs4 rfl id fun cx=>ae rfl (by kernel_rfl) (cx.an 13) ((cx.bi 0 rfl).cell 4)
 exact xsc rfl id rfl rfl fun cx=>⟨_,wW _,(aw (cx.an 14))⟩
 exact xsc rfl id rfl rfl fun cx=>⟨_,k0 (⟨#[0]⟩:ByteArray) _ (by decide),(aw (cx.an 15))⟩
 exact xs4 rfl id fun cx=>ae rfl (by kernel_rfl) (cx.an 17) ((cx.bi 0 rfl).cell 5)
 exact xsc rfl id rfl rfl fun cx=>⟨_,lh (l.length:Int) _,(aw (cx.an 19))⟩
 refine svA fun b d W X cx=>?_
 have Pb:b (.tmp 13)= .string (aj k 1):=(cx.an 2)
 have Ic:b (.tmp 16)= .string (aj x 1):=(cx.an 5)
 have Pe:b (.tmp 19)= .string (aj t 2):=(cx.an 8)
 have Ie:b (.tmp 23)= .string (aX (⟨#[0]⟩:ByteArray)):=(cx.an 12)
 have Pf:b (.tmp 27)= .string (aX (⟨#[0]⟩:ByteArray)):=(cx.an 16)
 have Pg:b (.tmp 31)= .string (aj (l.length:Int) 1):=(cx.an 20)
 exact dz (e:=9) (xs:=[.string (aj k 1),.string (aj x 1),.string (aj t 2),.string (aX (⟨#[0]⟩:ByteArray)),.string (aX (⟨#[0]⟩:ByteArray)),.string (aj (l.length:Int) 1)]) rfl (by simp[go_sem,Pb,Ic,Pe,Ie,Pf,Pg]) rfl (by decide) rfl rfl (fun _ _ _ _ _=> .intro)
 exact xsc rfl id rfl rfl fun cx=>⟨_,mn _ [(aj k 1),(aj x 1),(aj t 2),(aX (⟨#[0]⟩:ByteArray)),(aX (⟨#[0]⟩:ByteArray)),(aj (l.length:Int) 1)] _ (cx.row (dTn (cx.an 21)).2 rfl) (by simp) (Nat.le_trans (Nat.le_of_eq (iF ⟨k,x,t,l,note⟩)) (by decide)) (by simp),(aw (dTn (cx.an 21)).1)⟩
 intro g d X W7 hD aZ fr aD
 simp only[exq 1 ((dTn (hD 21 lq)).2)] at aZ
 simp only[ed 32 ((dTn (hD 21 lq)).1)] at aD
 generalize sA (d 32)=IX at aZ aD
 clear hD;subst aD;clear g d X
 refine aa (wq (wq (sqr (sqp [.k 34 (po aA 5)] ?_))))
 refine au 0 aZ ?_
 refine sqp [.k 36 (vi ((l.length:Int))),.k 37 (vi 0)] ?_
 refine aa (wp_block ?_)
 refine aM (fun t_ mz az W=>∃j:Nat,∃sj:ByteArray,j<=l.length/\sj=cU (hdB ⟨k,x,t,l,note⟩) (l.take j)/\mz=l.length-j/\az=⟨(ovr (jv az) [(3,3,0,[.string sj]),(1,5,1,[]),(31,37,0,[vi ((j:Int))]),(0,38,17,[])] t_).toArray,[]⟩/\St w [] [eB aA 27 #[vi k,vi x,vi t,sn,sn,.slice A l.length c,sn,.string note],eO 9 1 (.slice IX 6 6) 6 ([.string (aj k 1),.string (aj x 1),.string (aj t 2),.string (aX (⟨#[0]⟩:ByteArray)),.string (aX (⟨#[0]⟩:ByteArray)),.string (aj (l.length:Int) 1)])] W) (l.length-0) ?_ ?_
 exact⟨0,(cd [(aj k 1),(aj x 1),(aj t 2),(aX (⟨#[0]⟩:ByteArray)),(aX (⟨#[0]⟩:ByteArray)),(aj (l.length:Int) 1)]),Nat.zero_le _,rfl,rfl,(by kernel_rfl),aZ.pk [0,1]⟩
 rintro OV a12 zv ⟨j,sj,hj,hsj,rfl,hj_,cT⟩
 refine ovz hj_ fun Mg=>?_
 refine wq (sqr (sqp [.k 38 (.bool (decide ((j:Int)<(l.length:Int))))] ?_))
 refine aa (wq (wds (fun gJ pz=>?_) fun gJ pz=>?_))
 refine wp_skip (aa (wq (wp_block (wq ?_))))
 obtain⟨ep,es,eb,hek⟩:=kU (l:=l) (k:=j) (by omega)
 have her:edR (ep,es,eb)=true:=hro.eds _ (List.mem_of_getElem? hek)
 have hez:eb.size<=400:=dn her
 obtain⟨hep_,hes_⟩:=jL her
 have hes_: -1<=es/\es<=23:=hes_
 have hsz:=kX (l:=l.take j) (fun e he=>dn (hro.eds e (List.mem_of_mem_take he))) (hdB ⟨k,x,t,l,note⟩)
 rw[<-hsj,iF,List.length_take] at hsz
 have hszb:(edB sj (ep,es,eb)).size<=2000000:=by rw[sZ];show sj.size+5+eb.size<= _;omega
 refine sqr ?_
 refine sql (.pointer (some ((ad A).add (j*3)))) cT (fun cx=>ay (e:=84) (m:=j) (sz:=3) rfl (by kernel_rfl) (by kernel_rfl) (cx.ou 35) (cx.ou 37) (by omega) (by omega) (hA.ext cx.upd.to_ext) (be (sz:=3) bA (by decide) (by omega))) ?_
 refine sql (.agg #[vi ep,vi es,.string eb]) cT (fun cx=>bH (f:=edC) (m:=j) (sz:=3) (off:=0) (n:=3) rfl (by kernel_rfl) (by kernel_rfl) (cx.ou 39) rfl bA (hA.ext cx.upd.to_ext) hek (fun k hk=>match k,hk with|0,_=>rfl|1,_=>rfl|2,_=>rfl|k+3,hk=>absurd hk (by omega))) ?_
 refine cf #[vi 0,vi 0,.string ByteArray.empty] cT fun CO sg dt=>?_
 refine aY (n:=3) 2 #[vi ep,vi es,.string eb] dt fun Mh np=>?_
 refine aa (aE [0,0,2,6,0,16,48,126,0,256,1022,2047,4095,8191] [[],[],[2],[],[],[2],[],[],[],[2],[],[],[3]] [[],[],[],[],[],[],[],[],[],[],[],[3]] [] [.k 41 (.string sj),.k 42 (vp CO),.c 43 (vi ep),.c 44 (.string (aj ep 2)),.k 45 (po CO 1),.c 46 (vi es),tI 47 (es+1) (by omega),.c 48 (.string (aj (es+1) 1)),.k 49 (po CO 2),.c 50 (.string eb),.c 51 (.string (aX eb)),.a 52,.c 53 (.string ((cd [sj,(aj ep 2),(aj (es+1) 1),(aX eb)]))),.k 3 (.string ((cd [sj,(aj ep 2),(aj (es+1) 1),(aX eb)])))] (fun ix g d X=>match ix with|0|1|2|3|4|5|6|7|8|9|10=>True|11=>g 52= .slice (sA (d 52)) 4 4/\X 3=eO 9 1 (.slice (sA (d 52)) 4 4) 4 ([.string sj,.string (aj ep 2),.string (aj (es+1) 1),.string (aX eb)])|_=>True) [0,1,2,3] [2,3,5,7,9,10,11,12] [(3,13,1,4),(37,0,13,50)] np ?_ ?_ ?_)
 exact fun ix _ _ _ _ _ _ hs hb hx h=>match ix,h with
 |11,h=>by dsimp only;rw[<-hs 52 rfl,<-hb 52 rfl,<-hx 3 rfl];exact h
 |0,_|1,_|2,_|3,_|4,_|5,_|6,_|7,_|8,_|9,_|10,_|_+12,_=>trivial
 refine⟨?_,?_,?_,?_,?_,?_,?_,?_,trivial⟩
 exact xs4 rfl id fun cx=>ae rfl (by kernel_rfl) (cx.an 1) ((cx.bi 2 rfl).cell 0)
 exact xsc rfl id rfl rfl fun cx=>⟨_,wg ep _,(aw (cx.an 2))⟩
 exact xs4 rfl id fun cx=>ae rfl (by kernel_rfl) (cx.an 4) ((cx.bi 2 rfl).cell 1)
 exact xsc rfl id rfl rfl fun cx=>⟨_,lh (es+1) _,(aw (cx.an 6))⟩
 exact xs4 rfl id fun cx=>ae rfl (by kernel_rfl) (cx.an 8) ((cx.bi 2 rfl).cell 2)
 exact xsc rfl id rfl rfl fun cx=>⟨_,k0 eb _ (by omega),(aw (cx.an 9))⟩
 refine svA fun b d W X cx=>?_
 have zw:b (.tmp 41)= .string sj:=(cx.an 0)
 have Ph:b (.tmp 44)= .string (aj ep 2):=(cx.an 3)
 have If:b (.tmp 48)= .string (aj (es+1) 1):=(cx.an 7)
 have Pi:b (.tmp 51)= .string (aX eb):=(cx.an 10)
 exact dz (e:=9) (xs:=[.string sj,.string (aj ep 2),.string (aj (es+1) 1),.string (aX eb)]) rfl (by simp[go_sem,zw,Ph,If,Pi]) rfl (by decide) rfl rfl (fun _ _ _ _ _=> .intro)
 exact xsc rfl id rfl rfl fun cx=>⟨_,mn _ [sj,(aj ep 2),(aj (es+1) 1),(aX eb)] _ (cx.row (dTn (cx.an 11)).2 rfl) (by simp) hszb (by simp),(aw (dTn (cx.an 11)).1)⟩
 intro g d X si hD dl fr aD
 simp only[exq 3 ((dTn (hD 11 lq)).2)] at dl
 simp only[ed 52 ((dTn (hD 11 lq)).1)] at aD
 generalize sA (d 52)=Qv at dl aD
 clear hD;subst aD;clear g d X
 refine av (aa (sqr (sqp [sI 54 ((j:Int)+1) (by omega),.m 37 54] ?_)))
 refine aa ?_
 refine⟨l.length-((j+1)),by omega,?_⟩
 exact⟨(j+1),(cd [sj,(aj ep 2),(aj (es+1) 1),(aX eb)]),by omega,by rw[wh hek,<-hsj];rfl,rfl,(by kernel_rfl),dl.pk [0,1]⟩
 refine wp_exit (al (al (bh (aa (wq ?_)))))
 obtain rfl:j=l.length:=by omega
 rw[List.take_length] at hsj
 have hsz:=kX (l:=l) (fun e he=>dn (hro.eds e he)) (hdB ⟨k,x,t,l,note⟩)
 rw[<-hsj,iF] at hsz
 have hz9:(cd [sj,aj 0 1]).size<=2000000:=by rw[qr,aF _ _ (by decide)];omega
 have hz15:(cd [cd [sj,aj 0 1],aX note]).size<=2000000:=by rw[qr,qr,gN,aF _ _ (by decide)];omega
 refine sqr (sqp [.m 55 3,.k 56 (po aA 6)] ?_)
 refine au 0 cT ?_
 refine sqp [.k 58 (vi 0)] ?_
 refine sqk (.string (aj 0 1)) cT (fun cx=>⟨_,lh 0 _,(aw (cx.ou 58))⟩) fun w9 fw=>?_
 refine d3 (fun x_=>sA x_) (fun qS=> .slice qS 2 2) (fun qS=>eO 9 1 (.slice qS 2 2) 2 ([.string sj,.string (aj 0 1)])) fw (by
   refine svA fun b d W X cx=>?_
   have Ig:b (.tmp 55)= .string sj:=(cx.ou 55)
   have Pj:b (.tmp 59)= .string (aj 0 1):=(cx.ou 59)
   exact dz (e:=9) (xs:=[.string sj,.string (aj 0 1)]) rfl (by simp[go_sem,Ig,Pj]) rfl (by decide) rfl rfl (fun _ _ _ _ _=> .intro)) fun qS zh fa=>?_
 refine sqk (.string ((cd [sj,(aj 0 1)]))) fa (fun cx=>⟨_,mn _ [sj,(aj 0 1)] _ (cx.ri 2 rfl) (by simp) hz9 (by simp),(aw (cx.ou 60))⟩) fun zu dR=>?_
 refine sqp [.m 3 61] ?_
 refine aa (wq (wq (sqr (sqp [.k 62 (po aA 6)] ?_))))
 refine au 0 dR ?_
 refine sqp [.k 64 (vi 0),.k 65 (vi 0)] ?_
 refine aa (wp_block ?_)
 refine aM (fun t_ mz az W=>∃j:Nat,j<=0/\mz=0-j/\az=⟨(ovr (jv az) [(7,7,1,[]),(57,65,0,[vi ((j:Int))]),(0,66,9,[])] t_).toArray,[]⟩/\St w [] [eB aA 27 #[vi k,vi x,vi t,sn,sn,.slice A l.length c,sn,.string note],eO 9 1 (.slice IX 6 6) 6 ([.string (aj k 1),.string (aj x 1),.string (aj t 2),.string (aX (⟨#[0]⟩:ByteArray)),.string (aX (⟨#[0]⟩:ByteArray)),.string (aj (l.length:Int) 1)]),eO 9 1 (.slice qS 2 2) 2 ([.string sj,.string (aj 0 1)])] W) (0-0) ?_ ?_
 exact⟨0,Nat.zero_le _,rfl,(by kernel_rfl),dR.pk [0,1,2]⟩
 rintro TR a34 w6 ⟨j,hj,rfl,hj_,ej⟩
 refine ovz hj_ fun R5=>?_
 refine wq (sqr ?_)
 have hd36:(decide ((j:Int)<0))=false:=(decide_eq_false (by omega))
 refine sqp [.e 66 (.bool (decide ((j:Int)<0))) (.bool false) (congrArg Value.bool hd36)] ?_
 refine aa (wq (wcf rfl (wp_exit (al (al (bh (aa (wq (sqr (sqp [.m 75 3,.k 76 (po aA 7)] ?_))))))))))
 refine au 0 ej ?_
 refine sqk (.string (aX note)) ej (fun cx=>⟨_,k0 note _ (by omega),(aw (cx.ou 77))⟩) fun w7 ee=>?_
 refine d3 (fun x_=>sA x_) (fun uK=> .slice uK 2 2) (fun uK=>eO 9 1 (.slice uK 2 2) 2 ([.string ((cd [sj,(aj 0 1)])),.string (aX note)])) ee (by
   refine svA fun b d W X cx=>?_
   have Pk:b (.tmp 75)= .string ((cd [sj,(aj 0 1)])):=(cx.ou 75)
   have Pl:b (.tmp 78)= .string (aX note):=(cx.ou 78)
   exact dz (e:=9) (xs:=[.string ((cd [sj,(aj 0 1)])),.string (aX note)]) rfl (by simp[go_sem,Pk,Pl]) rfl (by decide) rfl rfl (fun _ _ _ _ _=> .intro)) fun uK IR j9=>?_
 refine sqk (.string ((cd [((cd [sj,(aj 0 1)])),(aX note)]))) j9 (fun cx=>⟨_,mn _ [((cd [sj,(aj 0 1)])),(aX note)] _ (cx.ri 3 rfl) (by simp) hz15 (by simp),(aw (cx.ou 79))⟩) fun sh cS=>?_
 refine sqp [.m 2 80] ?_
 refine aa (wp_ret ?_)
 refine bpr (.string ((cd [((cd [sj,(aj 0 1)])),(aX note)]))) (ag Tryz.results118 rpt) ?_
 exact Ret.of (by rw[ax,if_pos hrr,<-hsj]) cS.ext
 refine wp_cond_true (show Act.eval _ _= .bool true from(congrArg Value.bool (by rw[dB];rfl))) (wq (sqr (sqp [.k 2 (.string ⟨#[]⟩)] ?_)))
 refine aa (wp_ret (ai ?_))
 refine bpr (.string ⟨#[]⟩) (ag Tryz.results118 rpt) ?_
 exact Ret.of (by rw[ax,dB];rfl) bb.ext
theorem jT(k x t:Int)(A:Option Addr)(c:Nat)(l:List EdT)(note:ByteArray)(w:World)(hA:At w A (l.flatMap edC))(hl:l.length<=1000000)(hz:∀e∈l,e.2.2.size<=9223372036854775807)(hns:note.size<=9223372036854775807):
  Calls Tryz.prog 55 #[.agg #[.int .i64 k,.int .i64 x,.int .i64 t,sn,sn,.slice A l.length c,sn,.string note]] w (Ret (.string (aC ⟨k,x,t,l,note⟩)) w):=by
 go_enter Tryz.func55,Tryz.ntmps55
 have ak:=St.start w
 refine wq (sqr ?_)
 refine b9 #[vi k,vi x,vi t,sn,sn,.slice A l.length c,sn,.string note] ak fun aA W1 aB=>?_
 refine sqp [.k 2 (.string ⟨#[]⟩)] ?_
 refine aa (wq (wq (sqr ?_)))
 refine bJ 0 8 aB ?_
 refine sqk (.bool (bz ⟨k,x,t,l,note⟩)) aB (fun cx=>⟨_,lK k x t _ _ l note _ (hA.ext cx.upd.to_ext) hl hz hns,(aw (cx.ou 4))⟩) fun W4 bb=>?_
 refine sqp [.k 6 (.bool (!(bz ⟨k,x,t,l,note⟩)))] ?_
 refine aa ?_
 rcases Bool.eq_false_or_eq_true (bz ⟨k,x,t,l,note⟩) with dB|dB
 refine wp_cond_false (show Act.eval _ _= .bool false from(congrArg Value.bool (by rw[dB];rfl))) (wp_skip (aa (wq (sqr ?_))))
 refine bJ 0 8 bb ?_
 refine sqk (.string ((ax ⟨k,x,t,l,note⟩))) bb (fun cx=>⟨_,Cp k x t _ _ l note _ (hA.ext cx.upd.to_ext) hl hz hns,(aw (cx.ou 7))⟩) fun W8 dM=>?_
 refine sqp [.m 3 8] ?_
 refine aa (wq ?_)
 have hbz:=jg ⟨k,x,t,l,note⟩
 have hsl:=kt (ax ⟨k,x,t,l,note⟩)
 have hz4:(cd [aj ((ax ⟨k,x,t,l,note⟩).size:Int) 4,aj (bj (ax ⟨k,x,t,l,note⟩):Int) 4,ax ⟨k,x,t,l,note⟩]).size<=2000000:=by rw[v6,aF _ _ (by decide),aF _ _ (by decide)];omega
 refine sqr (sqp [.m 9 3,.k 10 (vi ((((ax ⟨k,x,t,l,note⟩)).size:Int)))] ?_)
 refine sqk (.string (aj (((ax ⟨k,x,t,l,note⟩)).size:Int) 4)) dM (fun cx=>⟨_,ld (((ax ⟨k,x,t,l,note⟩)).size:Int) _,(aT (cx.ou 10) (cx.co _))⟩) fun zv cT=>?_
 refine sqp [.m 12 3] ?_
 refine sqk (.int .u32 ((bj (ax ⟨k,x,t,l,note⟩):Int))) cT (fun cx=>⟨_,mv (ax ⟨k,x,t,l,note⟩) _ (by omega),(aw (cx.ou 12))⟩) fun zp cF=>?_
 refine sqp [sW 14 .i64 (bj (ax ⟨k,x,t,l,note⟩):Int) (bj (ax ⟨k,x,t,l,note⟩):Int) (IntWalk.i64_in _ (by omega))] ?_
 refine sqk (.string (aj (bj (ax ⟨k,x,t,l,note⟩):Int) 4)) cF (fun cx=>⟨_,ld (bj (ax ⟨k,x,t,l,note⟩):Int) _,(aT (cx.ou 14) (cx.co _))⟩) fun qQ dx=>?_
 refine sqp [.m 16 3] ?_
 refine d3 (fun x_=>sA x_) (fun uL=> .slice uL 3 3) (fun uL=>eO 9 1 (.slice uL 3 3) 3 ([.string (aj (((ax ⟨k,x,t,l,note⟩)).size:Int) 4),.string (aj (bj (ax ⟨k,x,t,l,note⟩):Int) 4),.string ((ax ⟨k,x,t,l,note⟩))])) dx (by
   refine svA fun a b W X cx=>?_
   have Ih:a (.tmp 11)= .string (aj (((ax ⟨k,x,t,l,note⟩)).size:Int) 4):=(cx.ou 11)
   have Pm:a (.tmp 15)= .string (aj (bj (ax ⟨k,x,t,l,note⟩):Int) 4):=(cx.ou 15)
   have Ic:a (.tmp 16)= .string ((ax ⟨k,x,t,l,note⟩)):=(cx.ou 16)
   exact dz (e:=9) (xs:=[.string (aj (((ax ⟨k,x,t,l,note⟩)).size:Int) 4),.string (aj (bj (ax ⟨k,x,t,l,note⟩):Int) 4),.string ((ax ⟨k,x,t,l,note⟩))]) rfl (by simp[go_sem,Ih,Pm,Ic]) rfl (by decide) rfl rfl (fun _ _ _ _ _=> .intro)) fun uL Mh np=>?_
 refine sqk (.string ((cd [(aj (((ax ⟨k,x,t,l,note⟩)).size:Int) 4),(aj (bj (ax ⟨k,x,t,l,note⟩):Int) 4),((ax ⟨k,x,t,l,note⟩))]))) np (fun cx=>⟨_,mn _ [(aj (((ax ⟨k,x,t,l,note⟩)).size:Int) 4),(aj (bj (ax ⟨k,x,t,l,note⟩):Int) 4),((ax ⟨k,x,t,l,note⟩))] _ (cx.ri 1 rfl) (by simp) hz4 (by simp),(aw (cx.ou 17))⟩) fun si dl=>?_
 refine sqp [.m 2 18] ?_
 refine aa (wp_ret ?_)
 refine bpr (.string ((cd [(aj (((ax ⟨k,x,t,l,note⟩)).size:Int) 4),(aj (bj (ax ⟨k,x,t,l,note⟩):Int) 4),((ax ⟨k,x,t,l,note⟩))]))) (ag Tryz.results55 rpt) ?_
 exact Ret.of (by rw[aC,if_pos dB]) dl.ext
 refine wp_cond_true (show Act.eval _ _= .bool true from(congrArg Value.bool (by rw[dB];rfl))) (wq (sqr (sqp [.k 2 (.string ⟨#[]⟩)] ?_)))
 refine aa (wp_ret (ai ?_))
 refine bpr (.string ⟨#[]⟩) (ag Tryz.results55 rpt) ?_
 exact Ret.of (by rw[aC,dB];rfl) bb.ext
end
section
open Go.RowKit
theorem kV(l:List UInt8):(de l).size=l.length:=by show l.toArray.size= _;simp
theorem zd(l:List UInt8)(a b:Nat):(de l).extract a b=de ((l.drop a).take (b-a)):=by
 apply ByteArray.ext
 rw[ByteArray.data_extract]
 apply Array.ext'
 simp[de,List.extract_eq_take_drop]
theorem EF(l:List UInt8)(n:Nat):(de l).extract 0 n=de (l.take n):=by rw[zd];simp
theorem Et(l:List UInt8)(n:Nat):(de l).extract n (de l).size=de (l.drop n):=by
 rw[zd,kV,List.take_of_length_le (by simp)]
theorem Upd.less{b c:Nat}{w W:World}(h:Upd [b,c] w W)(hc:W.heap[c]? =w.heap[c]?):Upd [b] w W:=⟨h.os,h.tape,h.output,h.size,fun k hk hn=>by
 by_cases e:k=c
 rw[e];exact hc
 exact h.block k hk (by simp at hn |-;exact⟨hn,e⟩)⟩
theorem St.lent1{w:World}{b t:Nat}{cs:Array Value}(hb:Blk w b t cs):St w [b] [eB b t cs] w:=by
 refine⟨Upd.refl _ _,fun x hx=>?_,List.pairwise_singleton _ _⟩
 simp only[List.mem_cons,List.not_mem_nil,or_false] at hx
 subst hx
 exact⟨hb,d7 _ _ _,fun k hk=>⟨.inl (by simp[eB] at hk;simp[hk]),by simp[eB] at hk;subst hk;exact hb.lt⟩⟩
theorem St.lentB2{w:World}{b t c u:Nat}{cs ds:Array Value}(hb:Blk w b t cs)(hc:Blk w c u ds)(hne:b≠c):St w [b,c] [eB b t cs,eB c u ds] w:=by
 refine⟨Upd.refl _ _,fun x hx=>?_,List.pairwise_pair.2 fun k hk hk'=>by simp[eB] at hk hk';omega⟩
 simp only[List.mem_cons,List.not_mem_nil,or_false] at hx
 rcases hx with rfl|rfl
 exact⟨hb,d7 _ _ _,fun k hk=>⟨.inl (by simp[eB] at hk;simp[hk]),by simp[eB] at hk;subst hk;exact hb.lt⟩⟩
 exact⟨hc,d7 _ _ _,fun k hk=>⟨.inl (by simp[eB] at hk;simp[hk]),by simp[eB] at hk;subst hk;exact hc.lt⟩⟩
section
variable{P:Program}{o:Oper}{ρ:Operand->Value}{W:World}
theorem y7{t:TypeId}{x y:Operand}{l:List UInt8}{k:IntKind}{j:Int}{m:Nat}(h:o.op= .index t x y)(ht:P.underlying t=some .string)(hx:ρ x= .string (de l))(hy:ρ y= .int k j)(hj:j=(m:Int))(hm:m<l.length):
  (execOp ρ o).run P W= .ok (.value (.int .u8 (bW l m))) W:=by
 subst hj
 unfold execOp;rw[h]
 have h1:(0:Int)<=(m:Int):=by omega
 have h2:(de l)[m]? =some (l.getD m 0):=by
  rw[getElem?_pos (de l) m (by rw[kV];exact hm)]
  simp[de,ByteArray.getElem_eq_getElem_data,hm]
 simp only[hx,hy,Instr.index,asIntOf,Sem.run_bind,Sem.run_pure,Result.andThen_ok,run_underlying ht,h1,if_true,Int.toNat_natCast,h2]
 rfl
end
theorem qH(e:Int)(w:World):
  Calls Tryz.prog 176 #[.bool true,.int .i64 e] w (Ret (.tuple #[]) w):=by
 go_enter Tryz.func176,Tryz.ntmps176
 have ak:=St.start w
 refine wq (sqr (sqp [.k 4 (.bool true),.k 5 (.bool false)] ?_))
 refine aa (wcf rfl (wp_skip ?_))
 refine bpe (.tuple #[]) (by simp[results,Tryz.results176,go_sem]) ?_
 exact Ret.of rfl ak.ext
def ye(b:Nat)(v:Value)(l:List UInt8)(w:World)(e:Ending)(w':World):Prop:=e= .returned v/\Blk w' b 9 #[.string (de l)]/\Upd [b] w w'
theorem Gm(n:Nat)(b:Nat)(l:List UInt8)(w:World)(hb:Blk w b 9 #[.string (de l)])(hn:n<=l.length):
  Calls Tryz.prog 175 #[.int .i64 ((n:Int)),po b 0] w (ye b (.string (de (l.take n))) (l.drop n) w):=by
 have st0:=St.lent1 hb
 have hsl:=kV l
 go_enter Tryz.func175,Tryz.ntmps175
 have ak:=st0
 refine wq (sqr (sqp [.k 3 (.string ⟨#[]⟩)] ?_))
 refine aa (wq (sqr (au 0 ak ?_)))
 have hd6:(decide ((n:Int)<=((de l).size:Int)))=true:=by rw[decide_eq_true_eq];omega
 refine sqp [.k 6 (vi (((de l).size:Int))),.m 7 0,.e 8 (.bool (decide ((n:Int)<=((de l).size:Int)))) (.bool true) (congrArg Value.bool hd6)] ?_
 refine sqk (.tuple #[]) ak (fun cx=>⟨_,qH _ _,(aT (cx.ou 8) (cx.co _))⟩) fun W7 aZ=>?_
 refine aa (wq (sqr (au 0 aZ ?_)))
 refine sqp [.m 11 0] ?_
 refine sql (.string (de (l.take n))) aZ (fun cx=>(by rw[<-EF];exact gD (l:=n) rfl (by kernel_rfl) (cx.ou 10) (cx.ou 11) (by omega) (by rw[kV];omega))) ?_
 refine sqp [.m 4 12] ?_
 refine aa (wq (sqr (au 0 aZ ?_)))
 refine sqp [.m 14 0] ?_
 refine sql (.string (de (l.drop n))) aZ (fun cx=>(by rw[<-Et];exact gF (l:=n) rfl (by kernel_rfl) (cx.ou 13) (cx.ou 14) (by omega) (by rw[kV];omega))) ?_
 refine aY (n:=1) 0 #[.string (de (l.drop n))] aZ fun BC gn=>?_
 refine aa (wq (sqr (sqp [.m 16 4,.m 3 16] ?_)))
 refine aa (wp_ret ?_)
 refine bpr (.string (de (l.take n))) (ag Tryz.results175 rpt) ?_
 exact⟨rfl,gn.blk 0 rfl,gn.upd⟩
theorem Jj(l:List UInt8)(m:Nat):0<=bW l m/\bW l m<256:=by
 have:=(l.getD m 0).toNat_lt
 unfold bW;omega
theorem DW(l:List UInt8)(h:1<=l.length):bW (l.take 1) 0=bW l 0:=by
 cases l with
 |nil=>simp at h
 |cons a l=>rfl
theorem GG(b c:Nat)(l:List UInt8)(w:World)(hb:Blk w b 9 #[.string (de l)])(hc:Blk w c 155 #[.func (.func 175) #[] #[po b 0]])(hne:b≠c)(hn:1<=l.length):
  Calls Tryz.prog 177 #[po c 0] w (ye b (.int .i64 (bW l 0)) (l.drop 1) w):=by
 have st0:=St.lentB2 hb hc hne
 have hb256:=Jj (l.take 1) 0
 go_enter Tryz.func177,Tryz.ntmps177
 have ak:=st0
 refine wq (sqr (sqp [.k 1 (vi 0)] ?_))
 refine aa (wq (sqr (au 1 ak ?_)))
 refine gB (.string (de (l.take 1))) (eB b 9 #[.string (de (l.drop 1))]) 0 ak (by
   refine svA fun h a W X cx=>?_
   refine am.call (cN (f:=175) (args:=#[vi 1]) (args':=#[vi 1,vp b]) rfl rfl (cx.ou 2) (by kernel_rfl) (aw (cx.co _)) rfl) ?_
   refine(Gm 1 b l _ (cx.bi 0 rfl) (by omega)).mono ?_
   rintro e W1 ⟨rfl,hb1,hu⟩
   refine⟨_,rfl,cn (cx.init 0 _ rfl) rfl rfl hu hb1 (fun d g X' hs hb hv hx=>?_)⟩
   exact⟨(hv 3 rfl).1.trans rfl,hx⟩) fun W3 aW=>?_
 refine sql (.int .u8 (bW (l.take 1) 0)) aW (fun cx=>y7 (m:=0) rfl (by kernel_rfl) (cx.ou 3) (cx.co _) (by omega) (by rw[List.length_take];omega)) ?_
 refine sqp [sW 5 .i64 (bW (l.take 1) 0) (bW (l.take 1) 0) (IntWalk.i64_in _ (by omega)),.m 1 5] ?_
 refine aa (wp_ret ?_)
 refine bpr (vi (bW (l.take 1) 0)) (ag Tryz.results177 rpt) ?_
 exact⟨by rw[DW l hn],aW.blk 0 rfl,aW.upd.less ((aW.blk 1 rfl).trans hc.symm)⟩
end
section
open Go.RowKit
theorem B9{P:Program}{id:Nat}{o1 o2:Oper}{a:Act}{w:World}{Q:Exit->Act->World->Prop}{v:Value}{d:Deferred}(h1:o1.guard=none)(h2:o2.guard=none)(r1:(execOp a.eval o1).run P w= .ok (.value v) w)
  (r2:(execOp (a.put o1.dst v).eval o2).run P w= .ok (.defer d) w) (hd2:o2.dst=none) (h:Q .normal {a.put o1.dst v with defers:=d::(a.put o1.dst v).defers} w):(Code.region id #[o1,o2] false).wp P Q a w:=by
 refine wp_region ?_
 show wpOps P #[o1,o2] Q [0,1] a w
 have w1:∀y,Region.wanted o1 y=true:=fun y=>by simp[Region.wanted,h1]
 have w2:∀y,Region.wanted o2 y=true:=fun y=>by simp[Region.wanted,h2]
 simp only[wpOps]
 show (if Region.wanted o1 _=true then _ else _)
 rw[if_pos (w1 _)]
 left
 unfold Oper.wp Oper.upon
 rw[show (#[o1,o2]:Array Oper)[0]=o1 from rfl,r1]
 show (if Region.wanted o2 _=true then _ else _)
 rw[if_pos (w2 _)]
 left
 rw[show (#[o1,o2]:Array Oper)[1]=o2 from rfl,r2]
 rw[hd2]
 exact h
theorem CE(p q:Addr)(w:World):
  CallsD Tryz.prog 174 #[.pointer (some p),.pointer (some q)] .returning w fun e u' w'=>e= .returned (.tuple #[])/\u'= .returning/\w'=w:=by
 refine callsD_of_wpS Tryz.func174 rfl fun c₀ cs hu=>?_
 apply wpS_seq
 apply wpS_region
 simp[wpOpsS,go_sem,recoverD,hu,Tryz.ntmps174,Exit.thenS]
 refine wpS_of_wp ?_
 go_wp2
 cases c₀
 simp_all [bodyPostS,results,Tryz.results174]
theorem DC(w:World):
  Calls Tryz.prog 152 #[.string (de [0])] w (Ret (.tuple #[sn,.int .i64 0]) w):=by
 go_enter_defers Tryz.func152,Tryz.ntmps152
 have ak:=St.start w
 refine wq (sqr ?_)
 refine b9 #[.string (de [0])] ak fun aA W1 aB=>?_
 refine cf #[sn] aB fun kx W2 bE=>?_
 refine cf #[vi 0] bE fun zx W3 aW=>?_
 refine aa (wq ?_)
 refine B9 (v:= .func (.func 174) #[] #[vp kx,vp zx]) (d:={target:= .fn (.func 174) #[vp kx,vp zx],args:=#[]}) rfl rfl (by simp[go_sem,Instr.makeFunc,Act.eval]) (by simp[go_sem,Act.eval,Act.put]) rfl ?_
 simp only[Act.put,List.setIfInBounds_toArray,List.set_cons_succ,List.set_cons_zero]
 refine aa (wq (sqr ?_))
 refine sqv (.func (.func 175) #[] #[vp aA]) aW (by
   exact sv0 rfl rfl rfl rfl rfl (fun _ _ _ h=>h) fun a b W X cx=>by
    have zy:a (.tmp 1)=vp aA:=(cx.ou 1)
    simp[go_sem,Instr.makeFunc,zy]) fun W4 bb=>?_
 refine cf #[.nilFunc] bb fun mQ W5 aP=>?_
 refine aY (n:=1) 3 #[.func (.func 175) #[] #[vp aA]] aP fun W6 bP=>?_
 refine aa (wq (sqr ?_))
 refine sqv (.func (.func 177) #[] #[vp mQ]) bP (by
   exact sv0 rfl rfl rfl rfl rfl (fun _ _ _ h=>h) fun a b W X cx=>by
    have uM:a (.tmp 4)=vp mQ:=(cx.ou 4)
    simp[go_sem,Instr.makeFunc,uM]) fun W7 aZ=>?_
 refine sqp [.m 5 13] ?_
 refine aa (wq (sqr (sqp [.m 14 5] ?_)))
 refine gB (vi 0) (eB aA 9 #[.string (de [])]) 0 aZ (by
   refine svA fun a b W X cx=>?_
   refine am.call (cN (f:=177) (args:=#[]) (args':=#[vp mQ]) rfl rfl (cx.ou 14) (by kernel_rfl) jc rfl) ?_
   refine(GG _ _ [0] _ (cx.bi 0 rfl) (cx.bi 3 rfl) (by have h_:=cx.ap 0 3 rfl rfl (by decide);rw[(cx.init 0 _ rfl),(cx.init 3 _ rfl)] at h_;intro e_;exact h_ _ (List.mem_singleton.2 rfl) (List.mem_singleton.2 e_)) (by simp)).mono ?_
   rintro e W1 ⟨rfl,hb1,hu⟩
   refine⟨_,rfl,cn (cx.init 0 _ rfl) rfl rfl hu hb1 (fun c g X' hs hb hv hx=>?_)⟩
   exact⟨(hv 15 rfl).1.trans rfl,hx⟩) fun w4 dP=>?_
 refine sqp [.m 6 15] ?_
 refine aa (wq (sqr (sqp [.m 16 6,.k 17 (.bool true)] ?_)))
 refine sqk (.tuple #[]) dP (fun cx=>⟨_,qH _ _,(aT (cx.ou 17) (cx.co _))⟩) fun zp cF=>?_
 refine aa (wq (wq (sqr (sqp [.m 19 6,.k 20 (vi 0)] ?_))))
 refine aa (wp_block ?_)
 refine aM (fun t_ mz az W=>True/\mz=0/\az=⟨(ovr (jv az) [(7,7,1,[]),(1,9,2,[]),(10,21,44,[])] t_).toArray,[{target:= .fn (.func 174) #[vp kx,vp zx],args:=#[]}]⟩/\St w [] [eB aA 9 #[.string (de [])],eB kx 23 #[sn],eB zx 38 #[vi 0],eB mQ 155 #[.func (.func 175) #[] #[vp aA]]] W) (0) ?_ ?_
 exact⟨trivial,rfl,(by kernel_rfl),cF.pk [0,1,2,3]⟩
 rintro Qi a17 sg ⟨-,rfl,hj_,dt⟩
 refine ovz hj_ fun O8=>?_
 refine wq (sqr (sqp [.k 21 (.bool false)] ?_))
 refine aa (wq (wcf rfl (wp_exit (al (al (bh (aa (wq (sqr (au 0 dt ?_))))))))))
 have hd21:((de []).toList==((⟨#[]⟩:ByteArray)).toList)=true:=beq_self_eq_true (de []).toList
 refine sqp [.e 66 (.bool ((de []).toList==((⟨#[]⟩:ByteArray)).toList)) (.bool true) (congrArg Value.bool hd21)] ?_
 refine sqk (.tuple #[]) dt (fun cx=>⟨_,qH _ _,(aT (cx.ou 66) (cx.co _))⟩) fun w8 dH=>?_
 refine aa (wq (sqr (au 1 dH ?_)))
 refine aY (n:=1) 1 #[sn] dH fun zm fb=>?_
 refine aY (n:=1) 2 #[vi 0] fb fun w5 dQ=>?_
 refine aa (wp_ret ?_)
 have c2:=(dQ.blk 1 rfl).cell 0
 have c3:=(dQ.blk 2 rfl).cell 0
 refine leaves_cons (f:=174) (args:=#[vp kx,vp zx]) (by simp) (by simp[go_sem]) ?_
 refine(CE _ _ _).mono ?_
 rintro e u' w'' ⟨rfl,rfl,rfl⟩
 refine⟨.tuple #[sn,vi 0],?_,rfl,dQ.ext⟩
 simp at c2 c3
 simp[results,Tryz.results152,go_sem,c2,c3]
end
section
open Go.RowKit
theorem kW(s:ByteArray):s++(⟨#[]⟩:ByteArray)=s:=by apply g9;rw[cY];exact List.append_nil _
theorem qi(s:ByteArray):(⟨#[]⟩:ByteArray)++s=s:=by apply g9;rw[cY];rfl
theorem ip{s a x c:ByteArray}(h:s=a++(x++c)){p k:Nat}(hp:a.size=p)(hk:x.size=k):aO s p k=gH (bl x):=
 l7 (a:=bl a) (b:=bl x) (c:=bl c) (by rw[h,cY,cY]) (by rw[bS];exact hp) (by rw[bS];exact hk)
theorem oS{s a t c:ByteArray}(h:s=a++(aX t++c)){p:Nat}(hp:a.size=p)(ht:t.size<=65535):aO s p 2=t.size/\fi s p=t/\p+2+t.size<=s.size:=by
 have h1:s=a++(aj (t.size:Int) 2++(t++c)):=by rw[h,aX];simp[ByteArray.append_assoc]
 have h2:aO s p 2=t.size:=by
  have h3:=ip h1 hp (aF _ _ (by decide))
  have h4:=na (t.size:Int) (by omega) (by omega)
  omega
 have hz:s.size=a.size+(2+t.size+c.size):=by rw[h,ByteArray.size_append,ByteArray.size_append,gN]
 refine⟨h2,?_,by omega⟩
 rw[fi,h2]
 have h5:bl s=(bl a++bl (aj (t.size:Int) 2))++(bl t++bl c):=by rw[h1];simp[cY,List.append_assoc]
 rw[ku h5 (p:=p+2) (q:=p+2+t.size) (by rw[List.length_append,bS,bS,aF _ _ (by decide),hp]) (by rw[bS]),il]
def eD(l:List EdT):Nat:=(l.map fun e=>5+e.2.2.size).sum
theorem Eh{l:List EdT}{j:Nat}{e:EdT}(he:l[j]? =some e):eD (l.take (j+1))=eD (l.take j)+(5+e.2.2.size):=by
 obtain⟨hj,rfl⟩:=List.getElem?_eq_some_iff.1 he
 rw[eD,List.take_succ_eq_append_getElem hj,List.map_append,List.sum_append];simp[eD]
theorem Kh(s:ByteArray)(e:EdT):edB s e=s++edB ⟨#[]⟩ e:=by
 rw[edB,edB,bD,bD]
 congr 1
theorem xH(s:ByteArray)(l:List EdT):cU s l=s++cU ⟨#[]⟩ l:=by
 induction l generalizing s with
 |nil=>show s=s++(⟨#[]⟩:ByteArray);exact(kW s).symm
 |cons e l ih=>
  show cU (edB s e) l=s++cU (edB ⟨#[]⟩ e) l
  rw[ih,ih (edB ⟨#[]⟩ e),Kh s e,ByteArray.append_assoc]
theorem By(s:ByteArray)(l:List EdT):(cU s l).size=s.size+eD l:=by
 induction l generalizing s with
 |nil=>rfl
 |cons e l ih=>
  show (cU (edB s e) l).size= _
  rw[ih,sZ,eD,eD,List.map_cons,List.sum_cons];omega
theorem K6(a:ByteArray):cd [a]=a:=by rw[bD,fL,kW]
structure RecSays (s:ByteArray) (r:RecM):Prop where
 size:s.size=14+eD r.eds+r.note.size
 kind:(aO s 0 1:Int)=r.kind
 xid:(aO s 1 1:Int)=r.xid
 tbl:(aO s 2 2:Int)=r.tbl
 row1:aO s 4 2=1/\fi s 4=⟨#[0]⟩
 row2:aO s 7 2=1/\fi s 7=⟨#[0]⟩
 many:aO s 10 1=r.eds.length
 ed:∀j e,r.eds[j]? =some e->(aO s (11+eD (r.eds.take j)) 2:Int)=e.1/\(aO s (11+eD (r.eds.take j)+2) 1:Int)=e.2.1+1/\aO s (11+eD (r.eds.take j)+3) 2=e.2.2.size/\fi s (11+eD (r.eds.take j)+3)=e.2.2/\11+eD (r.eds.take j)+5+e.2.2.size<=s.size
 xids:aO s (11+eD r.eds) 1=0
 note:aO s (12+eD r.eds) 2=r.note.size/\fi s (12+eD r.eds)=r.note
theorem H1{r:RecM}(h:bz r=true):RecSays (ax r) r:=by
 have hk:=d9 h
 have hb:ax r=cU (hdB r) r.eds++(aj 0 1++aX r.note):=by
  rw[ax,if_pos h,bD,bD,K6,K6,ByteArray.append_assoc]
 have hd:∀t:ByteArray,hdB r++t=aj r.kind 1++(aj r.xid 1++(aj r.tbl 2++(iE++(iE++(aj (r.eds.length:Int) 1++t))))):=fun t=>by
  rw[hdB]
  simp only[bD,fL,ByteArray.append_assoc,qi]
 have hE:cU (hdB r) r.eds=hdB r++cU ⟨#[]⟩ r.eds:=xH _ _
 have h0:ax r=aj r.kind 1++(aj r.xid 1++(aj r.tbl 2++(iE++(iE++(aj (r.eds.length:Int) 1++(cU ⟨#[]⟩ r.eds++(aj 0 1++aX r.note))))))):=by
  rw[hb,hE,ByteArray.append_assoc,hd]
 have p1:=fun n=>aF n 1 (by decide)
 have p2:=fun n=>aF n 2 (by decide)
 have hsz:(cU (hdB r) r.eds).size=11+eD r.eds:=by rw[By,iF]
 have hz:(ax r).size=14+eD r.eds+r.note.size:=by
  rw[hb,ByteArray.size_append,ByteArray.size_append,hsz,p1,gN];omega
 generalize hs:ax r=s at*
 have e0:s=(⟨#[]⟩:ByteArray)++(aj r.kind 1++(aj r.xid 1++(aj r.tbl 2++(iE++(iE++(aj (r.eds.length:Int) 1++(cU ⟨#[]⟩ r.eds++(aj 0 1++aX r.note)))))))):=by rw[h0,qi]
 have e1:s=aj r.kind 1++(aj r.xid 1++(aj r.tbl 2++(iE++(iE++(aj (r.eds.length:Int) 1++(cU ⟨#[]⟩ r.eds++(aj 0 1++aX r.note))))))):=h0
 have e2:s=(aj r.kind 1++aj r.xid 1)++(aj r.tbl 2++(iE++(iE++(aj (r.eds.length:Int) 1++(cU ⟨#[]⟩ r.eds++(aj 0 1++aX r.note)))))):=by rw[h0,ByteArray.append_assoc]
 have e4:s=(aj r.kind 1++(aj r.xid 1++aj r.tbl 2))++(aX ⟨#[0]⟩++(iE++(aj (r.eds.length:Int) 1++(cU ⟨#[]⟩ r.eds++(aj 0 1++aX r.note))))):=by rw[h0];simp only[ByteArray.append_assoc];rfl
 have e7:s=(aj r.kind 1++(aj r.xid 1++(aj r.tbl 2++iE)))++(aX ⟨#[0]⟩++(aj (r.eds.length:Int) 1++(cU ⟨#[]⟩ r.eds++(aj 0 1++aX r.note)))):=by rw[h0];simp only[ByteArray.append_assoc];rfl
 have e10:s=(aj r.kind 1++(aj r.xid 1++(aj r.tbl 2++(iE++iE))))++(aj (r.eds.length:Int) 1++(cU ⟨#[]⟩ r.eds++(aj 0 1++aX r.note))):=by rw[h0];simp only[ByteArray.append_assoc]
 have en:s=(cU (hdB r) r.eds++aj 0 1)++(aX r.note++⟨#[]⟩):=by rw[hb,ByteArray.append_assoc,kW]
 have r3:=vZ
 have t4:=oS e4 (p:=4) (by rw[ByteArray.size_append,ByteArray.size_append,p1,p1,p2]) (by decide)
 have t7:=oS e7 (p:=7) (by rw[ByteArray.size_append,ByteArray.size_append,ByteArray.size_append,p1,p1,p2,r3]) (by decide)
 have tn:=oS en (p:=12+eD r.eds) (by rw[ByteArray.size_append,hsz,p1];omega) (by have:=hk.note;omega)
 refine⟨hz,?_,?_,?_,⟨t4.1,t4.2.1⟩,⟨t7.1,t7.2.1⟩,?_,fun j e he=>?_,?_,⟨tn.1,tn.2.1⟩⟩
 rw[ip e0 (p:=0) rfl (p1 _)];exact iB _ (by have:=hk.kind;omega) (by have:=hk.kind;omega)
 rw[ip e1 (p:=1) (p1 _) (p1 _)];exact iB _ (by have:=hk.xid;omega) (by have:=hk.xid;omega)
 rw[ip e2 (p:=2) (by rw[ByteArray.size_append,p1,p1]) (p2 _)];exact na _ (by have:=hk.tbl;omega) (by have:=hk.tbl;omega)
 have:=hk.many
 have h1:=ip e10 (p:=10) (by rw[ByteArray.size_append,ByteArray.size_append,ByteArray.size_append,ByteArray.size_append,p1,p1,p2,r3]) (p1 _)
 have h2:=iB (r.eds.length:Int) (by omega) (by omega)
 omega
 obtain⟨hj,rfl⟩:=List.getElem?_eq_some_iff.1 he
 have hl:r.eds=r.eds.take j++r.eds[j]::r.eds.drop (j+1):=by rw[List.getElem_cons_drop,List.take_append_drop]
 have hed:=jL (hk.eds _ (List.getElem_mem hj))
 have hit:=dn (hk.eds _ (List.getElem_mem hj))
 generalize r.eds[j]=e at*
 generalize r.eds.take j=l1 at*
 generalize r.eds.drop (j+1)=l2 at*
 have hF:cU (hdB r) r.eds=cU (hdB r) l1++(aj e.1 2++(aj (e.2.1+1) 1++(aX e.2.2++cU ⟨#[]⟩ l2))):=by
  have h1:cU (hdB r) r.eds=cU (edB (cU (hdB r) l1) e) l2:=by
   conv=>lhs;rw[hl]
   rw[cU,List.foldl_append];rfl
  rw[h1,xH,edB]
  simp only[bD,fL,ByteArray.append_assoc,qi]
 have hsl:(cU (hdB r) l1).size=11+eD l1:=by rw[By,iF]
 have f0:s=cU (hdB r) l1++(aj e.1 2++(aj (e.2.1+1) 1++(aX e.2.2++(cU ⟨#[]⟩ l2++(aj 0 1++aX r.note))))):=by rw[hb,hF];simp only[ByteArray.append_assoc]
 have f2:s=(cU (hdB r) l1++aj e.1 2)++(aj (e.2.1+1) 1++(aX e.2.2++(cU ⟨#[]⟩ l2++(aj 0 1++aX r.note)))):=by rw[f0];simp only[ByteArray.append_assoc]
 have f3:s=(cU (hdB r) l1++(aj e.1 2++aj (e.2.1+1) 1))++(aX e.2.2++(cU ⟨#[]⟩ l2++(aj 0 1++aX r.note))):=by rw[f0];simp only[ByteArray.append_assoc]
 have t3:=oS f3 (p:=11+eD l1+3) (by rw[ByteArray.size_append,ByteArray.size_append,hsl,p2,p1]) (by omega)
 refine⟨?_,?_,t3.1,t3.2.1,by have:=t3.2.2;omega⟩
 rw[ip f0 hsl (p2 _)];exact na _ (by omega) (by omega)
 rw[ip f2 (p:=11+eD l1+2) (by rw[ByteArray.size_append,hsl,p2]) (p1 _)];exact iB _ (by omega) (by omega)
 have h1:=ip hb hsz (p1 0)
 have h2:=iB 0 (by decide) (by decide)
 omega
end
section
open Go.RowKit
theorem St.lentB3{w:World}{a ta b tb c tc:Nat}{ca cb cc:Array Value}(ha:Blk w a ta ca)(hb:Blk w b tb cb)(hc:Blk w c tc cc)(n1:a≠b)(n2:a≠c)(n3:b≠c):St w [a,b,c] [eB a ta ca,eB b tb cb,eB c tc cc] w:=by
 refine⟨Upd.refl _ _,fun x hx=>?_,?_⟩
 simp only[List.mem_cons,List.not_mem_nil,or_false] at hx
 rcases hx with rfl|rfl|rfl
 exact⟨ha,d7 _ _ _,fun k hk=>⟨.inl (by simp[eB] at hk;simp[hk]),by simp[eB] at hk;subst hk;exact ha.lt⟩⟩
 exact⟨hb,d7 _ _ _,fun k hk=>⟨.inl (by simp[eB] at hk;simp[hk]),by simp[eB] at hk;subst hk;exact hb.lt⟩⟩
 exact⟨hc,d7 _ _ _,fun k hk=>⟨.inl (by simp[eB] at hk;simp[hk]),by simp[eB] at hk;subst hk;exact hc.lt⟩⟩
 refine List.Pairwise.cons (fun x hx=>?_) (List.pairwise_pair.2 fun k hk hk'=>by simp[eB] at hk hk';omega)
 simp only[List.mem_cons,List.not_mem_nil,or_false] at hx
 rcases hx with rfl|rfl
 exact fun k hk hk'=>by simp[eB] at hk hk';omega
 exact fun k hk hk'=>by simp[eB] at hk hk';omega
theorem Upd.less3{a b c:Nat}{w W:World}(h:Upd [a,b,c] w W)(ha:W.heap[a]? =w.heap[a]?)(hc:W.heap[c]? =w.heap[c]?):Upd [b] w W:=⟨h.os,h.tape,h.output,h.size,fun k hk hn=>by
 by_cases e:k=a
 rw[e];exact ha
 by_cases e2:k=c
 rw[e2];exact hc
 exact h.block k hk (by simp at hn |-;exact⟨e,hn,e2⟩)⟩
def Gd(b:Nat)(s:ByteArray)(p:Nat)(w:World)(e:Ending)(w':World):Prop:=e= .returned (.slice none 0 0)/\Blk w' b 193 #[.string s,.int .i64 (p:Int),.bool false]/\Upd [b] w w'
def KX(r:RecM)(w:World)(e:Ending)(w':World):Prop:=∃A c,e= .returned (.tuple #[Lx r A c,.int .i64 0])/\w'.ownsRow w.heap.size 84 3 (.slice A r.eds.length c) r.eds.length (r.eds.flatMap edC)/\Ext w w'
theorem Jy{l:List EdT}{j:Nat}{e:EdT}(h:l[j]? =some e):(l.take j).flatMap edC++edC e=(l.take (j+1)).flatMap edC:=by
 obtain⟨hj,rfl⟩:=List.getElem?_eq_some_iff.1 h
 rw[List.take_succ_eq_append_getElem hj,List.flatMap_append];simp
theorem wK(b4 rb b5:Nat)(s:ByteArray)(p:Nat)(w:World)(h4:Blk w b4 153 #[po rb 0])(hr:Blk w rb 193 #[.string s,.int .i64 (p:Int),.bool false])(h5:Blk w b5 4 #[.bool true])(n1:b4≠rb)(n2:b4≠b5)(n3:rb≠b5)(hs:s.size<=1000000)(hp:p+3<=s.size)(hn:aO s p 2=1)(ht:fi s p=de [0]):
  Calls Tryz.prog 151 #[po b4 0,po b5 0] w (Gd rb s (p+3) w):=by
 have st0:=St.lentB3 h4 hr h5 n1 n2 n3
 go_enter Tryz.func151,Tryz.ntmps151
 have ak:=st0
 refine wq (sqr (sqp [.k 2 (sn)] ?_))
 refine aa (wq (sqr (au 0 ak ?_)))
 refine gB (.string ((de [0]))) (eB rb 193 #[.string s,vi (((p+2+aO s p 2:Nat):Int)),.bool false]) 1 ak (by
   refine svA fun d a W X cx=>?_
   refine am.call (aq (args:=#[vp rb]) rfl cx.sees rfl (by kernel_rfl) (aw (cx.ou 6))) ?_
   refine(ob _ s p _ ⟨(cx.bi 1 rfl),by omega,by omega⟩ (by omega) (by omega)).mono ?_
   rintro e W1 ⟨rfl,bX,hu⟩
   refine⟨_,rfl,cn (cx.init 1 _ rfl) rfl rfl hu bX.1 (fun b c X' hs hb hv hx=>?_)⟩
   exact⟨(hv 7 rfl).1.trans (congrArg Value.string ht),hx⟩) fun W3 aW=>?_
 refine sqp [.m 3 7] ?_
 refine aa (wq (wq (sqr (au 0 aW ?_))))
 refine sqv (.bool false) aW (by
   refine svA fun d a W X cx=>?_
   refine am.call (aq (args:=#[vp rb]) rfl cx.sees rfl (by kernel_rfl) (aw (cx.ou 8))) ?_
   refine(fu _ s ((p+2+aO s p 2:Nat)) false _ ⟨(cx.bi 1 rfl),by omega,by omega⟩).mono ?_
   rintro e W1 ⟨rfl,rfl⟩
   refine⟨_,rfl,bM [] rfl rfl (Ext.refl _) (by simp) List.Pairwise.nil (fun b c X' hs hb hv hN=>?_)⟩
   have aJ:=(hv 9 rfl).1;have aR:=(hv 9 rfl).2
   exact aJ.trans rfl) fun W6 bP=>?_
 refine aa (wcf rfl (wp_skip (aa (wq (sqr (sqp [.m 11 3] ?_))))))
 refine sqk (.tuple #[sn,vi 0]) bP (fun cx=>⟨_,DC _,(aw (cx.ou 11))⟩) fun W8 dM=>?_
 refine sqp [.m 10 12,.k 13 (sn),.k 14 (vi 0),.m 4 13,.m 5 14] ?_
 refine aa (wq (sqr (au 2 dM ?_)))
 refine sqp [.k 16 (.bool true)] ?_
 refine dF 16 [17,18] rfl rfl ?_
 refine sqp [.m 17 5,.k 18 (.bool true)] ?_
 refine sqp [.k 19 (.bool true)] ?_
 refine aY (n:=1) 2 #[.bool true] dM fun si dl=>?_
 refine aa (wq (wq (sqr (sqp [.m 20 4,.k 21 (vi 0),.k 22 (.bool true)] ?_))))
 refine aa (wct rfl (wq (sqr (sqp [.k 2 (sn)] ?_))))
 refine aa (wp_ret (ai ?_))
 refine bpr (sn) (ag Tryz.results151 rpt) ?_
 exact⟨rfl,by rw[show p+3=p+2+aO s p 2 by omega];exact dl.blk 1 rfl,dl.upd.less3 ((dl.blk 0 rfl).trans h4.symm) ((dl.blk 2 rfl).trans h5.symm)⟩
end
section
open Go.RowKit
theorem fm{w0 W:World}{bor:List Nat}{L:List Ent}(h:St w0 bor L W)(e sz:Nat):St w0 bor (L++[eO e sz (sn) 0 []]) W:=by
 refine⟨h.upd,fun x hx=>?_,?_⟩
 rcases List.mem_append.1 hx with hx|hx
 exact h.ok x hx
 rw[List.mem_singleton] at hx
 subst hx
 exact⟨World.ownsRow_nil _ _ _ _,ga _ _ _ _ _,fun k hk=>by cases hk⟩
 rw[List.pairwise_append]
 refine⟨h.apart,List.pairwise_singleton _ _,fun a _ b hb=>?_⟩
 rw[List.mem_singleton] at hb
 subst hb
 exact fun k _ hk=>by cases hk
theorem Jq{B:Nat}{s:ByteArray}{p:Nat}{w:World}{v:Int}(hv:v=((s.size-p:Nat):Int))(h:Rd 193 w B s p false):Calls Tryz.prog 149 #[po B 0] w (Ret (.int .i64 v) w):=by
 subst hv;exact sU B s p false w h
theorem Tryz.infoEditJ:(Tryz.prog.info? 84).map (fun i=>(i.zero,i.size,i.bytes))=some (some (.agg #[.int .i64 0,.int .i64 0,.string ⟨#[]⟩]),3,32):=by kernel_rfl
theorem JV(s:ByteArray)(r:RecM)(w:World)(hh:RecSays s r)(hrr:bz r=true)(hs:s.size<=1000000):
  Calls Tryz.prog 99 #[.string s] w (KX r w):=by
 have hro:=d9 hrr
 have hrm:=hro.many
 have hsz:=hh.size
 have hez:∀e∈r.eds,e.2.2.size<=9223372036854775807:=fun e he=>by have h_:=dn (hro.eds e he);omega
 have hkb:=hro.kind
 have hxb:=hro.xid
 have htb:=hro.tbl
 go_enter Tryz.func99,Tryz.ntmps99
 have ak:=St.start w
 refine wq (sqr (cf #[vi 0,vi 0,vi 0,sn,sn,sn,sn,.string ByteArray.empty] ak fun bB W1 aB=>?_))
 refine sqp [.k 3 (vi 0)] ?_
 refine aa (wq (sqr (sqp [.m 10 0] ?_)))
 refine s7 (fun cw=>vp cw) (fun cw=>eB cw 193 #[.string s,vi 0,.bool false]) aB (fun cx=>⟨_,(rH s _).mono (by rintro e W1 ⟨B4,rfl,⟨hb4,hw4⟩,hx⟩;exact⟨_,rfl,St.one hx ⟨hb4,d7 _ _ _,fun k hk=>by simp[eB] at hk;subst hk;exact⟨hw4,hb4.lt⟩⟩⟩),(aw (cx.ou 10))⟩) fun cw W4 bb=>?_
 refine cf #[.pointer none] bb fun mQ W5 aP=>?_
 refine aY (n:=1) 2 #[vp cw] aP fun W6 bP=>?_
 refine aa (wq (sqr (cf #[.bool false] bP fun tm W7 aZ=>?_)))
 refine aY (n:=1) 3 #[.bool true] aZ fun W8 dM=>?_
 refine aa (wq (sqr ?_))
 refine sqv (.func (.func 151) #[] #[vp mQ,vp tm]) dM (by
   exact sv0 rfl rfl rfl rfl rfl (fun _ _ _ h=>h) fun g b W X cx=>by
    have uM:g (.tmp 4)=vp mQ:=(cx.ou 4)
    have qT:g (.tmp 5)=vp tm:=(cx.ou 5)
    simp[go_sem,Instr.makeFunc,uM,qT]) fun W9 cG=>?_
 refine sqp [.m 6 12] ?_
 refine aa (wq (aE [0,1,0,7,0,31,63,0,255] [[2],[1],[2],[4],[2],[5],[],[],[7]] [[],[4],[],[5],[],[6],[],[7],[8]] [[],[1],[],[4],[],[5],[],[],[7]] [.c 13 (vp cw),.a 14,.c 15 (vp cw),.a 16,.c 17 (vp cw),.a 18,.c 19 (.agg #[vi r.kind,vi r.xid,vi r.tbl,sn,sn,sn,sn,.string ByteArray.empty]),.a 7,.n] (fun ix d b X=>match ix with|0=>True|1=>d 14=vi r.kind/\X 4=eB cw 193 #[.string s,vi 1,.bool false]|2=>True|3=>d 16=vi r.xid/\X 5=eB cw 193 #[.string s,vi 2,.bool false]|4=>True|5=>d 18=vi r.tbl/\X 6=eB cw 193 #[.string s,vi 4,.bool false]|6=>True|7=>d 7=vp (pb (b 7))/\X 7=eB (pb (b 7)) 27 #[vi 0,vi 0,vi 0,sn,sn,sn,sn,.string ByteArray.empty]|8=>X 8=eB (pb (b 7)) 27 #[vi r.kind,vi r.xid,vi r.tbl,sn,sn,sn,sn,.string ByteArray.empty]|_=>True) [0,2,3,6,8] [0,1,2,3,4,5,6,7,8] [(7,7,1,8),(5,0,7,12)] cG ?_ ?_ ?_))
 exact fun ix _ _ _ _ _ _ hs hb hx h=>match ix,h with
 |1,h=>by dsimp only;rw[<-hs 14 rfl,<-hx 4 rfl];exact h
 |3,h=>by dsimp only;rw[<-hs 16 rfl,<-hx 5 rfl];exact h
 |5,h=>by dsimp only;rw[<-hs 18 rfl,<-hx 6 rfl];exact h
 |7,h=>by dsimp only;rw[<-hs 7 rfl,<-hb 7 rfl,<-hx 7 rfl];exact h
 |8,h=>by dsimp only;rw[<-hb 7 rfl,<-hx 8 rfl];exact h
 |0,_|2,_|4,_|6,_|_+9,_=>trivial
 refine⟨?_,?_,?_,?_,?_,?_,?_,?_,?_,trivial⟩
 exact xs4 rfl id fun cx=>ae rfl (by kernel_rfl) (cx.ou 4) ((cx.bi 2 rfl).cell 0)
 refine svA fun g b W X cx=>?_
 refine am.call (aq (args:=#[vp cw,vi 1]) rfl cx.sees rfl (by kernel_rfl) (aT (cx.an 0) (cx.co _))) ?_
 refine(dK _ s 0 1 _ ⟨(cx.bi 1 rfl),by omega,by omega⟩ (by omega) (by omega)).mono ?_
 rintro e W1 ⟨rfl,bX,hu⟩
 refine⟨_,rfl,cn (cx.init 1 _ rfl) rfl rfl hu bX.1 (fun d i X' hs hb hv hx=>?_)⟩
 exact⟨(hv 14 rfl).1.trans (congrArg (Value.int .i64) hh.kind),hx⟩
 exact xs4 rfl id fun cx=>ae rfl (by kernel_rfl) (cx.ou 4) ((cx.bi 2 rfl).cell 0)
 refine svA fun g b W X cx=>?_
 refine am.call (aq (args:=#[vp cw,vi 1]) rfl cx.sees rfl (by kernel_rfl) (aT (cx.an 2) (cx.co _))) ?_
 refine(dK _ s 1 1 _ ⟨(cx.blk (dTn (cx.an 1)).2 rfl),by omega,by omega⟩ (by omega) (by omega)).mono ?_
 rintro e W1 ⟨rfl,bX,hu⟩
 refine⟨_,rfl,cn (dTn (cx.an 1)).2 rfl rfl hu bX.1 (fun d i X' hs hb hv hx=>?_)⟩
 exact⟨(hv 16 rfl).1.trans (congrArg (Value.int .i64) hh.xid),hx⟩
 exact xs4 rfl id fun cx=>ae rfl (by kernel_rfl) (cx.ou 4) ((cx.bi 2 rfl).cell 0)
 refine svA fun g b W X cx=>?_
 refine am.call (aq (args:=#[vp cw,vi 2]) rfl cx.sees rfl (by kernel_rfl) (aT (cx.an 4) (cx.co _))) ?_
 refine(dK _ s 2 2 _ ⟨(cx.blk (dTn (cx.an 3)).2 rfl),by omega,by omega⟩ (by omega) (by omega)).mono ?_
 rintro e W1 ⟨rfl,bX,hu⟩
 refine⟨_,rfl,cn (dTn (cx.an 3)).2 rfl rfl hu bX.1 (fun d i X' hs hb hv hx=>?_)⟩
 exact⟨(hv 18 rfl).1.trans (congrArg (Value.int .i64) hh.tbl),hx⟩
 exact xs4 rfl id fun cx=>jP rfl (pmc (dTn (cx.an 1)).1 (pmc (dTn (cx.an 3)).1 (pmc (dTn (cx.an 5)).1 pmn))) (by kernel_rfl)
 refine svA fun g b W X cx=>?_
 exact c7 (cs:=#[vi 0,vi 0,vi 0,sn,sn,sn,sn,.string ByteArray.empty]) rfl (by kernel_rfl) rfl rfl (fun _ _ _ _ _=> .intro)
 refine svA fun g b W X cx=>?_
 exact bv (n:=8) rfl (dTn (cx.an 7)).1 (cx.an 6) (by kernel_rfl) (by kernel_rfl) (by kernel_rfl) cx (dTn (cx.an 7)).2 rfl (nle rfl) (by kernel_rfl) rfl rfl rfl (fun d i X' hs hb hx=>by rw[hb 7];exact hx)
 intro d b X Fj hD fV fr aD
 simp only[exq 6 ((dTn (hD 5 lq)).2),exq 8 ((dTn (hD 8 lq)))] at fV
 simp only[ed 14 ((dTn (hD 1 lq)).1),ed 16 ((dTn (hD 3 lq)).1),ed 18 ((dTn (hD 5 lq)).1),ed 7 ((dTn (hD 7 lq)).1)] at aD
 generalize pb (b 7)=pA at fV aD
 clear hD;subst aD;clear d b X
 refine aa (wq (sqr (sqp [.m 20 6] ?_)))
 refine gB (sn) (eB cw 193 #[.string s,vi 7,.bool false]) 3 fV (by
   refine svA fun g b W X cx=>?_
   refine am.call (cN (f:=151) (args:=#[]) (args':=#[vp mQ,vp tm]) rfl rfl (cx.ou 20) (by kernel_rfl) jc rfl) ?_
   refine(wK _ _ _ s 4 _ (cx.bi 1 rfl) (cx.bi 3 rfl) (cx.bi 2 rfl) (by have h_:=cx.ap 1 3 rfl rfl (by decide);rw[(cx.init 1 _ rfl),(cx.init 3 _ rfl)] at h_;intro e_;exact h_ _ (List.mem_singleton.2 rfl) (List.mem_singleton.2 e_)) (by have h_:=cx.ap 1 2 rfl rfl (by decide);rw[(cx.init 1 _ rfl),(cx.init 2 _ rfl)] at h_;intro e_;exact h_ _ (List.mem_singleton.2 rfl) (List.mem_singleton.2 e_)) (by have h_:=cx.ap 3 2 rfl rfl (by decide);rw[(cx.init 3 _ rfl),(cx.init 2 _ rfl)] at h_;intro e_;exact h_ _ (List.mem_singleton.2 rfl) (List.mem_singleton.2 e_)) hs (by omega) hh.row1.1 hh.row1.2).mono ?_
   rintro e W1 ⟨rfl,bX,hu⟩
   refine⟨_,rfl,cn (cx.init 3 _ rfl) rfl rfl hu bX (fun d i X' hs hb hv hx=>?_)⟩
   exact⟨(hv 21 rfl).1.trans rfl,hx⟩) fun IU i7=>?_
 refine sqp [.k 22 (po pA 3)] ?_
 refine aY (n:=1) 4 #[vi r.kind,vi r.xid,vi r.tbl,sn,sn,sn,sn,.string ByteArray.empty] i7 fun BC gn=>?_
 refine aa (wq (sqr (sqp [.m 23 6] ?_)))
 refine gB (sn) (eB cw 193 #[.string s,vi 10,.bool false]) 3 gn (by
   refine svA fun g b W X cx=>?_
   refine am.call (cN (f:=151) (args:=#[]) (args':=#[vp mQ,vp tm]) rfl rfl (cx.ou 23) (by kernel_rfl) jc rfl) ?_
   refine(wK _ _ _ s 7 _ (cx.bi 1 rfl) (cx.bi 3 rfl) (cx.bi 2 rfl) (by have h_:=cx.ap 1 3 rfl rfl (by decide);rw[(cx.init 1 _ rfl),(cx.init 3 _ rfl)] at h_;intro e_;exact h_ _ (List.mem_singleton.2 rfl) (List.mem_singleton.2 e_)) (by have h_:=cx.ap 1 2 rfl rfl (by decide);rw[(cx.init 1 _ rfl),(cx.init 2 _ rfl)] at h_;intro e_;exact h_ _ (List.mem_singleton.2 rfl) (List.mem_singleton.2 e_)) (by have h_:=cx.ap 3 2 rfl rfl (by decide);rw[(cx.init 3 _ rfl),(cx.init 2 _ rfl)] at h_;intro e_;exact h_ _ (List.mem_singleton.2 rfl) (List.mem_singleton.2 e_)) hs (by omega) hh.row2.1 hh.row2.2).mono ?_
   rintro e W1 ⟨rfl,bX,hu⟩
   refine⟨_,rfl,cn (cx.init 3 _ rfl) rfl rfl hu bX (fun d i X' hs hb hv hx=>?_)⟩
   exact⟨(hv 24 rfl).1.trans rfl,hx⟩) fun sg dt=>?_
 refine sqp [.k 25 (po pA 4)] ?_
 refine aY (n:=1) 4 #[vi r.kind,vi r.xid,vi r.tbl,sn,sn,sn,sn,.string ByteArray.empty] dt fun si dl=>?_
 refine aa (wq (wq (sqr (au 1 dl ?_))))
 refine gB (vi ((r.eds.length:Int))) (eB cw 193 #[.string s,vi 11,.bool false]) 3 dl (by
   refine svA fun g b W X cx=>?_
   refine am.call (aq (args:=#[vp cw,vi 1]) rfl cx.sees rfl (by kernel_rfl) (aT (cx.ou 26) (cx.co _))) ?_
   refine(dK _ s 10 1 _ ⟨(cx.bi 3 rfl),by omega,by omega⟩ (by omega) (by omega)).mono ?_
   rintro e W1 ⟨rfl,bX,hu⟩
   refine⟨_,rfl,cn (cx.init 3 _ rfl) rfl rfl hu bX.1 (fun d i X' hs hb hv hx=>?_)⟩
   exact⟨(hv 27 rfl).1.trans (congrArg (fun n:Nat=>Value.int .i64 (n:Int)) hh.many),hx⟩) fun sf dY=>?_
 refine sqp [.k 28 (vi 0)] ?_
 refine aa (wp_block ?_)
 have hn23:=fm dY 84 3
 simp only[List.cons_append,List.nil_append] at hn23
 refine aM (fun t_ mz az W=>∃j:Nat,∃q:Nat,∃EA:Option Addr,∃Ec:Nat,j<=r.eds.length/\q=11+eD (r.eds.take j)/\mz=r.eds.length-j/\az=⟨(ovr (jv az) [(8,8,1,[]),(19,28,0,[vi ((j:Int))]),(0,29,16,[])] t_).toArray,[]⟩/\St w [] [eB bB 27 #[vi 0,vi 0,vi 0,sn,sn,sn,sn,.string ByteArray.empty],eB mQ 153 #[vp cw],eB tm 4 #[.bool true],eB cw 193 #[.string s,vi ((q:Int)),.bool false],eB pA 27 #[vi r.kind,vi r.xid,vi r.tbl,sn,sn,.slice EA j Ec,sn,.string ByteArray.empty],eO 84 3 (.slice EA j Ec) j ((r.eds.take j).flatMap edC)] W) (r.eds.length-0) ?_ ?_
 exact⟨0,11,none,0,Nat.zero_le _,rfl,rfl,(by kernel_rfl),hn23.pk [0,1,2,3,4,5]⟩
 rintro Qw a24 zm ⟨j,q,EA,Ec,hj,hq,rfl,hj_,fb⟩
 refine ovz hj_ fun Pn=>?_
 refine wq (sqr (sqp [.k 29 (.bool (decide ((j:Int)<(r.eds.length:Int))))] ?_))
 refine aa (wq (wds (fun fh fc=>?_) fun fh fc=>?_))
 refine wp_skip (aa (wq (wp_block (wq ?_))))
 obtain⟨ep,es,eb,hek⟩:=kU (l:=r.eds) (k:=j) (by omega)
 obtain⟨g1,g2,g3,g4,g5⟩:=hh.ed j _ hek
 rw[<-hq] at g1 g2 g3 g4 g5
 have g3:aO s (q+2+1) 2=eb.size:=g3
 have g4:fi s (q+2+1)=eb:=g4
 have g5:q+5+eb.size<=s.size:=g5
 have g1:(aO s q 2:Int)=ep:=g1
 have g2:(aO s (q+2) 1:Int)=es+1:=g2
 obtain⟨he1_,he2_⟩:=jL (hro.eds _ (List.mem_of_getElem? hek))
 have he2_: -1<=es/\es<=23:=he2_
 obtain⟨es1,hes1⟩:∃z,es+1=z:=⟨_,rfl⟩
 rw[hes1] at g2
 refine aE [0,1,0,4,0,28,60,0,188,508,1020,2047,4095] [[],[4],[1],[3],[1],[6],[],[1],[7],[],[],[9,5]] [[],[],[],[6],[],[7],[],[],[8],[],[9],[10]] [[],[],[],[3],[],[6],[],[],[7],[],[],[5]] [.k 30 (po pA 5),.c 31 (.slice EA j Ec),.c 32 (vp cw),.a 33,.c 34 (vp cw),.a 35,.c 36 (vi (es1-1)),.c 37 (vp cw),.a 38,.c 39 (.agg #[vi ep,vi (es1-1),.string eb]),.a 40,.a 41,.a 8] (fun ix d b X=>match ix with|0|1|2=>True|3=>d 33=vi ep/\X 6=eB cw 193 #[.string s,vi (((q+2:Nat):Int)),.bool false]|4=>True|5=>d 35=vi es1/\X 7=eB cw 193 #[.string s,vi (((q+2+1:Nat):Int)),.bool false]|6|7=>True|8=>d 38= .string eb/\X 8=eB cw 193 #[.string s,vi (((q+2+1+2+aO s (q+2+1) 2:Nat):Int)),.bool false]|9=>True|10=>d 40= .slice ((some ⟨(pb' (b 40)),0,none⟩)) 1 1/\X 9=eO 84 3 (.slice ((some ⟨(pb' (b 40)),0,none⟩)) 1 1) 1 ([vi ep,vi (es1-1),.string eb])|11=>d 41= .slice (sA (b 41)) (j+1) (sC (b 41))/\X 10=eO 84 3 (.slice (sA (b 41)) (j+1) (sC (b 41))) (j+1) ((r.eds.take (j+1)).flatMap edC)|12=>d 8= .slice (sA (b 41)) (j+1) (sC (b 41))|_=>True) [0,1,2,4,8,9,10] [1,2,3,4,5,6,7,8,9,10,11,12] [(8,12,1,9),(21,0,12,33)] fb ?_ ?_ ?_
 exact fun ix _ _ _ _ _ _ hs hb hx h=>match ix,h with
 |3,h=>by dsimp only;rw[<-hs 33 rfl,<-hx 6 rfl];exact h
 |5,h=>by dsimp only;rw[<-hs 35 rfl,<-hx 7 rfl];exact h
 |8,h=>by dsimp only;rw[<-hs 38 rfl,<-hx 8 rfl];exact h
 |10,h=>by dsimp only;rw[<-hs 40 rfl,<-hb 40 rfl,<-hx 9 rfl];exact h
 |11,h=>by dsimp only;rw[<-hs 41 rfl,<-hb 41 rfl,<-hx 10 rfl];exact h
 |12,h=>by dsimp only;rw[<-hs 8 rfl,<-hb 41 rfl];exact h
 |0,_|1,_|2,_|4,_|6,_|7,_|9,_|_+13,_=>trivial
 refine⟨?_,?_,?_,?_,?_,?_,?_,?_,?_,?_,?_,?_,trivial⟩
 exact xs4 rfl id fun cx=>ae rfl (by kernel_rfl) (cx.an 0) ((cx.bi 4 rfl).cell 5)
 exact xs4 rfl id fun cx=>ae rfl (by kernel_rfl) (cx.ou 4) ((cx.bi 1 rfl).cell 0)
 refine svA fun g b W X cx=>?_
 refine am.call (aq (args:=#[vp cw,vi 2]) rfl cx.sees rfl (by kernel_rfl) (aT (cx.an 2) (cx.co _))) ?_
 refine(dK _ s q 2 _ ⟨(cx.bi 3 rfl),by omega,by omega⟩ (by omega) (by omega)).mono ?_
 rintro e W1 ⟨rfl,bX,hu⟩
 refine⟨_,rfl,cn (cx.init 3 _ rfl) rfl rfl hu bX.1 (fun d i X' hs hb hv hx=>?_)⟩
 exact⟨(hv 33 rfl).1.trans (congrArg (Value.int .i64) g1),hx⟩
 exact xs4 rfl id fun cx=>ae rfl (by kernel_rfl) (cx.ou 4) ((cx.bi 1 rfl).cell 0)
 refine svA fun g b W X cx=>?_
 refine am.call (aq (args:=#[vp cw,vi 1]) rfl cx.sees rfl (by kernel_rfl) (aT (cx.an 4) (cx.co _))) ?_
 refine(dK _ s (q+2) 1 _ ⟨(cx.blk (dTn (cx.an 3)).2 rfl),by omega,by omega⟩ (by omega) (by omega)).mono ?_
 rintro e W1 ⟨rfl,bX,hu⟩
 refine⟨_,rfl,cn (dTn (cx.an 3)).2 rfl rfl hu bX.1 (fun d i X' hs hb hv hx=>?_)⟩
 exact⟨(hv 35 rfl).1.trans (congrArg (Value.int .i64) g2),hx⟩
 exact xs4 rfl id fun cx=>rF rfl (dTn (cx.an 5)).1 (cx.co _) (congrArg (fun z=>some (Value.int .i64 z)) ((IntWalk.i64_in _ (by omega)).trans (by omega)))
 exact xs4 rfl id fun cx=>ae rfl (by kernel_rfl) (cx.ou 4) ((cx.bi 1 rfl).cell 0)
 refine svA fun g b W X cx=>?_
 refine am.call (aq (args:=#[vp cw]) rfl cx.sees rfl (by kernel_rfl) (aw (cx.an 7))) ?_
 refine(ob _ s (q+2+1) _ ⟨(cx.blk (dTn (cx.an 5)).2 rfl),by omega,by omega⟩ (by omega) (by omega)).mono ?_
 rintro e W1 ⟨rfl,bX,hu⟩
 refine⟨_,rfl,cn (dTn (cx.an 5)).2 rfl rfl hu bX.1 (fun d i X' hs hb hv hx=>?_)⟩
 exact⟨(hv 38 rfl).1.trans (congrArg Value.string g4),hx⟩
 exact xs4 rfl id fun cx=>jP rfl (pmc (dTn (cx.an 3)).1 (pmc (cx.an 6) (pmc (dTn (cx.an 8)).1 pmn))) (by kernel_rfl)
 refine svA fun g b W X cx=>?_
 have Po:g (.tmp 39)= .agg #[vi ep,vi (es1-1),.string eb]:=(cx.an 9)
 exact l3 (e:=84) (sz:=3) (xs:=[vi ep,vi (es1-1),.string eb]) rfl (by simp[go_sem,Po]) rfl (by decide) rfl rfl (fun _ _ _ _ _=> .intro)
 refine svA fun g b W X cx=>?_
 obtain⟨i0,hi0,hz0,hz1,hz2⟩:=info_parts Tryz.infoEditJ
 refine iX (n:=j) (m:=1) (nm:=j+1) (sz:=3) (xs:=(r.eds.take j).flatMap edC) (news:=[vi ep,vi (es1-1),.string eb]) (xs':=(r.eds.take (j+1)).flatMap edC) rfl (ty:=24) rfl (by kernel_rfl) hi0 hz0 hz1 hz2 rfl (by decide) (cx.an 1) cx (cx.init 5 _ rfl) rfl (dTn (cx.an 10)).1 (by rfl) (At.of_ownN (cx.row (dTn (cx.an 10)).2 rfl)) (by simp[edC,Value.oneCell']) (by simp only[maxLen];omega) (by omega) rfl rfl rfl (by omega) ((by rw[<-Jy hek,show es=es1-1 by omega];rfl)) (fun d i X' hs hb hv hx=>?_)
 exact⟨hv,hx⟩
 exact sv rfl rfl rfl rfl rfl _ (fun _ _ _ h=>h) (fun b i h=>by rw[h 41 (by decide)]) fun g b W X cx=>cJ rfl (dTn (cx.an 11)).1
 intro d b X zh hD fa fr aD
 simp only[exq 8 ((dTn (hD 8 lq)).2),exq 9 ((dTn (hD 10 lq)).2),exq 10 ((dTn (hD 11 lq)).2)] at fa
 simp only[ed 33 ((dTn (hD 3 lq)).1),ed 35 ((dTn (hD 5 lq)).1),ed 38 ((dTn (hD 8 lq)).1),ed 40 ((dTn (hD 10 lq)).1),ed 41 ((dTn (hD 11 lq)).1),ed 8 ((dTn (hD 12 lq)))] at aD
 generalize pb' (b 40)=Qx,sA (b 41)=Ft,sC (b 41)=Fu at fa aD
 clear hD;subst aD;clear d b X
 refine aa (sqr (sqp [.m 42 8,.k 43 (po pA 5)] ?_))
 refine aY (n:=1) 3 #[vi r.kind,vi r.xid,vi r.tbl,sn,sn,.slice Ft (j+1) Fu,sn,.string ByteArray.empty] fa fun Fk jp=>?_
 refine av (aa (sqr (sqp [sI 44 ((j:Int)+1) (by omega),.m 28 44] ?_)))
 refine aa ?_
 refine⟨r.eds.length-((j+1)),by omega,?_⟩
 exact⟨(j+1),q+2+1+2+aO s (q+2+1) 2,Ft,Fu,by omega,by rw[Eh hek];show _=11+(eD (r.eds.take j)+(5+eb.size));omega,rfl,(by kernel_rfl),jp.pk [0,1,2,4,3,6]⟩
 refine wp_exit (al (al (bh (aa (wq (wq ?_))))))
 obtain rfl:j=r.eds.length:=by omega
 rw[List.take_length] at hq fb
 have g6:(aO s q 1:Int)=0:=by rw[hq,hh.xids];rfl
 have g7:aO s (q+1) 2=r.note.size:=by rw[hq,show 11+eD r.eds+1=12+eD r.eds by omega];exact hh.note.1
 have g8:fi s (q+1)=r.note:=by rw[hq,show 11+eD r.eds+1=12+eD r.eds by omega];exact hh.note.2
 have hsz:=hh.size
 have hrn:=hro.note
 refine sqr (au 1 fb ?_)
 refine gB (vi 0) (eB cw 193 #[.string s,vi (((q+1:Nat):Int)),.bool false]) 3 fb (by
   refine svA fun g b W X cx=>?_
   refine am.call (aq (args:=#[vp cw,vi 1]) rfl cx.sees rfl (by kernel_rfl) (aT (cx.ou 45) (cx.co _))) ?_
   refine(dK _ s q 1 _ ⟨(cx.bi 3 rfl),by omega,by omega⟩ (by omega) (by omega)).mono ?_
   rintro e W1 ⟨rfl,bX,hu⟩
   refine⟨_,rfl,cn (cx.init 3 _ rfl) rfl rfl hu bX.1 (fun d i X' hs hb hv hx=>?_)⟩
   exact⟨(hv 46 rfl).1.trans (congrArg (Value.int .i64) g6),hx⟩) fun w6 ej=>?_
 refine sqp [.k 47 (vi 0)] ?_
 refine aa (wp_block ?_)
 refine aM (fun t_ mz az W=>∃k:Nat,k<=0/\mz=0-k/\az=⟨(ovr (jv az) [(9,9,1,[]),(37,47,0,[vi ((k:Int))]),(0,48,10,[])] t_).toArray,[]⟩/\St w [] [eB bB 27 #[vi 0,vi 0,vi 0,sn,sn,sn,sn,.string ByteArray.empty],eB mQ 153 #[vp cw],eB tm 4 #[.bool true],eB cw 193 #[.string s,vi (((q+1:Nat):Int)),.bool false],eB pA 27 #[vi r.kind,vi r.xid,vi r.tbl,sn,sn,.slice EA r.eds.length Ec,sn,.string ByteArray.empty],eO 84 3 (.slice EA r.eds.length Ec) r.eds.length (r.eds.flatMap edC)] W) (0-0) ?_ ?_
 exact⟨0,Nat.zero_le _,rfl,(by kernel_rfl),ej.pk [0,1,2,3,4,5]⟩
 rintro TS a36 zo ⟨k,hk,rfl,hj_,eN⟩
 refine ovz hj_ fun R6=>?_
 refine wq (sqr ?_)
 have hd38:(decide ((k:Int)<0))=false:=(decide_eq_false (by omega))
 refine sqp [.e 48 (.bool (decide ((k:Int)<0))) (.bool false) (congrArg Value.bool hd38)] ?_
 refine aa (wq (wcf rfl (wp_exit (al (al (bh (aa (wq (sqr (au 1 eN ?_))))))))))
 refine gB (.string r.note) (eB cw 193 #[.string s,vi (((q+1+2+aO s (q+1) 2:Nat):Int)),.bool false]) 3 eN (by
   refine svA fun g b W X cx=>?_
   refine am.call (aq (args:=#[vp cw]) rfl cx.sees rfl (by kernel_rfl) (aw (cx.ou 58))) ?_
   refine(ob _ s (q+1) _ ⟨(cx.bi 3 rfl),by omega,by omega⟩ (by omega) (by omega)).mono ?_
   rintro e W1 ⟨rfl,bX,hu⟩
   refine⟨_,rfl,cn (cx.init 3 _ rfl) rfl rfl hu bX.1 (fun d i X' hs hb hv hx=>?_)⟩
   exact⟨(hv 59 rfl).1.trans (congrArg Value.string g8),hx⟩) fun w7 ee=>?_
 refine sqp [.k 60 (po pA 7)] ?_
 refine aY (n:=1) 4 #[vi r.kind,vi r.xid,vi r.tbl,sn,sn,.slice EA r.eds.length Ec,sn,.string r.note] ee fun sh cS=>?_
 refine aa (wq (wp_block (wq (sqr (au 1 cS ?_)))))
 refine sqv (.bool false) cS (by
   refine svA fun g b W X cx=>?_
   refine am.call (aq (args:=#[vp cw]) rfl cx.sees rfl (by kernel_rfl) (aw (cx.ou 62))) ?_
   refine(fu _ s (q+1+2+aO s (q+1) 2) false _ ⟨(cx.bi 3 rfl),by omega,by omega⟩).mono ?_
   rintro e W1 ⟨rfl,rfl⟩
   refine⟨_,rfl,bM [] rfl rfl (Ext.refl _) (by simp) List.Pairwise.nil (fun d i X' hs hb hv hN=>?_)⟩
   have aJ:=(hv 63 rfl).1;have aR:=(hv 63 rfl).2
   exact aJ.trans rfl) fun Qy uN=>?_
 refine sqp [.k 61 (.bool false)] ?_
 refine aa (wcf rfl (wq (sqr (au 2 uN ?_))))
 refine sqp [.k 67 (.bool false),.k 68 (.bool false)] ?_
 refine dF 68 [69,70,71] rfl rfl ?_
 refine au 1 uN ?_
 refine sqk (vi 0) uN (fun cx=>⟨_,Jq (p:=(q+1+2+aO s (q+1) 2)) (by omega:(0:Int)= _) ⟨(cx.bi 3 rfl),by omega,by omega⟩,(aw (cx.ou 69))⟩) fun Mf lY=>?_
 refine sqp [.k 71 (.bool false)] ?_
 refine sqp [.k 72 (.bool false),.k 73 (.bool false)] ?_
 refine dF 73 [74,75,76] rfl rfl ?_
 refine bJ 4 8 lY ?_
 have hd56:((bz r))=true:=hrr
 refine sqv (.bool true) lY (ik rfl rfl rfl rfl rfl (fun _ _ _ h=>h.trans (congrArg Value.bool hd56)) fun g b W X cx=>⟨_,_,aq (args:=#[.agg #[vi r.kind,vi r.xid,vi r.tbl,sn,sn,.slice EA r.eds.length Ec,sn,.string r.note]]) rfl cx.sees rfl (by kernel_rfl) (aw (cx.ou 74)),lK r.kind r.xid r.tbl _ _ r.eds r.note _ (At.of_ownN (cx.ri 5 rfl)) (by omega) hez (by omega)⟩) fun Qz rM=>?_
 refine sqp [.k 76 (.bool false)] ?_
 refine sqp [.k 77 (.bool false),.k 65 (.bool false)] ?_
 refine aa (wcf rfl (wp_skip (av (aa (wq (sqr ?_))))))
 refine bJ 4 8 rM ?_
 refine aY (n:=8) 0 #[vi r.kind,vi r.xid,vi r.tbl,sn,sn,.slice EA r.eds.length Ec,sn,.string r.note] rM fun BB fq=>?_
 refine sqp [.k 3 (vi 0)] ?_
 refine aa (wp_ret ?_)
 refine bpr (.tuple #[.agg #[vi r.kind,vi r.xid,vi r.tbl,sn,sn,.slice EA r.eds.length Ec,sn,.string r.note],vi 0]) (aN Tryz.results99 (rpa (fq.blk 0 rfl) 0 8) rpt) ?_
 exact⟨_,_,rfl,fq.own' 5 rfl,fq.ext⟩
end
section
open Go.RowKit
def eM(R:List Ent):Ent:=⟨R.flatMap (·.fp),fun W=>∀e∈R,e.holds W/\e.loc⟩
theorem DV(R:List Ent):(eM R).loc:=fun W W' hk h e he=>
 ⟨(h e he).2 W W' (fun k hk'=>hk k (List.mem_flatMap.2 ⟨e,he,hk'⟩)) (h e he).1,(h e he).2⟩
theorem St.emNil{w0 W:World}{bor:List Nat}{L:List Ent}(h:St w0 bor L W):St w0 bor (L++[eM []]) W:=by
 refine⟨h.upd,fun x hx=>?_,?_⟩
 rcases List.mem_append.1 hx with hx|hx
 exact h.ok x hx
 rw[List.mem_singleton] at hx
 subst hx
 exact⟨fun e he=>(by cases he),DV _,fun k hk=>(by cases hk)⟩
 rw[List.pairwise_append]
 refine⟨h.apart,List.pairwise_singleton _ _,fun a _ b hb=>?_⟩
 rw[List.mem_singleton] at hb
 subst hb
 exact fun k _ hk=>by cases hk
theorem St.merge{w0 W:World}{bor:List Nat}{L R:List Ent}{e:Ent}(h:St w0 bor (L++[eM R,e]) W):St w0 bor (L++[eM (R++[e])]) W:=by
 have hM:=h.ok (eM R) (by simp)
 have hE:=h.ok e (by simp)
 have hfp:∀k,k∈(eM (R++[e])).fp<->k∈(eM R).fp\/k∈e.fp:=fun k=>by simp[eM]
 refine⟨h.upd,fun x hx=>?_,?_⟩
 rcases List.mem_append.1 hx with hx|hx
 exact h.ok x (by simp[hx])
 rw[List.mem_singleton] at hx
 subst hx
 refine⟨fun x hx=>?_,DV _,fun k hk=>?_⟩
 rcases List.mem_append.1 hx with hx|hx
 exact hM.holds x hx
 rw[List.mem_singleton] at hx
 subst hx
 exact⟨hE.holds,hE.loc⟩
 rcases(hfp k).1 hk with hk|hk
 exact hM.own k hk
 exact hE.own k hk
 have ha:=h.apart
 rw[List.pairwise_append] at ha |-
 refine⟨ha.1,List.pairwise_singleton _ _,fun a ha' b hb=>?_⟩
 rw[List.mem_singleton] at hb
 subst hb
 intro k hk hkb
 rcases(hfp k).1 hkb with hkb|hkb
 exact ha.2.2 a ha' (eM R) (by simp) k hk hkb
 exact ha.2.2 a ha' e (by simp) k hk hkb
theorem St.repl{w0 W:World}{bor:List Nat}{L1 L2:List Ent}{E E':Ent}(h:St w0 bor (L1++E::L2) W)(hfp:E'.fp=E.fp)(hh:E.holds W->E'.holds W)(hl:E'.loc):St w0 bor (L1++E'::L2) W:=by
 refine⟨h.upd,fun x hx=>?_,?_⟩
 rcases List.mem_append.1 hx with hx|hx
 exact h.ok x (List.mem_append_left _ hx)
 rcases List.mem_cons.1 hx with e|hx
 rw[e]
 have h1:=h.ok E (by simp)
 exact⟨hh h1.holds,hl,fun k hk=>h1.own k (hfp ▸ hk)⟩
 exact h.ok x (by simp[hx])
 have ha:=h.apart
 rw[List.pairwise_append,List.pairwise_cons] at ha |-
 refine⟨ha.1,⟨fun b hb k hk hk'=>ha.2.1.1 b hb k (hfp ▸ hk) hk',ha.2.1.2⟩,fun a ha' b hb=>?_⟩
 rcases List.mem_cons.1 hb with e|hb
 rw[e]
 exact fun k hk hk'=>ha.2.2 a ha' E (by simp) k hk (hfp ▸ hk')
 exact ha.2.2 a ha' b (by simp[hb])
section
variable{P:Program}{ops:Array Oper}{L:List Nat}{a0:Act}{w0:World}{bor:List Nat}{X0:List Ent}{us cr kl:List (List Nat)}
 {D:Nat->(Tmp->Value)->(Tmp->Value)->(Nat->Ent)->Prop}{i:Nat}{o:Oper}{ρ:Operand->Value}{β:Tmp->Value}{W:World}{X:Nat->Ent}
theorem aK{v:Value}{W':World}{q:Nat}{E:Ent}(N:List Ent)(hX:X q=E)(hk:atV kl i=[q])(hl:N.length=(atV cr i).length)(hs:St W E.fp N W')
  (hD:∀(b c:Tmp->Value) (X':Nat->Ent),(∀t,o.dst≠some t->b t=ρ (.tmp t))->(∀t,o.dst≠some t->c t=β t)->(∀d,o.dst=some d->b d=v/\c d=v)->(atV cr i).map X'=N->D i b c X'):bV cr kl D i o.dst ρ β W X v W':=by
 subst hX
 have e1:(atV kl i).flatMap (fun q=>(X q).fp)=(X q).fp:=by rw[hk];simp
 exact⟨N,hl,⟨by rw[e1];exact hs.upd,fun e he=>⟨(hs.ok e he).holds,(hs.ok e he).loc,fun k hk'=>by rw[e1];exact(hs.ok e he).own k hk'⟩,hs.apart⟩,
  fun b c X' hs' hv hb' hbv hx' hN=>hD b c X' hs' hb' (fun d hd=>⟨hv d hd,hbv d hd⟩) hN⟩
end
theorem St.lend{w:World}{E:Ent}(h:E.holds w)(hl:E.loc)(hb:∀k∈E.fp,k<w.heap.size):St w E.fp [E] w:=
 ⟨Upd.refl _ _,fun x hx=>by rw[List.mem_singleton] at hx;subst hx;exact⟨h,hl,fun k hk=>⟨.inl hk,hb k hk⟩⟩,List.pairwise_singleton _ _⟩
end
section
open Go.RowKit
structure RcT where
 r:RecM
 A:Option Addr
 c:Nat
def rcC(t:RcT):List Value:=[.int .i64 t.r.kind,.int .i64 t.r.xid,.int .i64 t.r.tbl,.slice none 0 0,.slice none 0 0,.slice t.A t.r.eds.length t.c,.slice none 0 0,.string t.r.note]
theorem bY(t:RcT):(rcC t).length=8:=rfl
def gR(t:RcT):Ent:=eO 84 3 (.slice t.A t.r.eds.length t.c) t.r.eds.length (t.r.eds.flatMap edC)
def eRc(Qs:List RcT):Ent:=eM (Qs.map gR)
theorem di{Qs:List RcT}{W:World}(h:(eRc Qs).holds W){t:RcT}(ht:t∈Qs):At W t.A (t.r.eds.flatMap edC):=At.of_ownN (h (gR t) (List.mem_map.2 ⟨_,ht,rfl⟩)).1
theorem St.mergeR{w0 W:World}{bor:List Nat}{L:List Ent}{Qs:List RcT}{t:RcT}(h:St w0 bor (L++[eRc Qs,gR t]) W):St w0 bor (L++[eRc (Qs++[t])]) W:=by
 have h1:=St.merge (L:=L) (R:=Qs.map gR) (e:=gR t) h
 rw[eRc,List.map_append]
 exact h1
def szF(L:List RecM):Nat:=(L.map fun r=>(aC r).size).sum
def da(L:List RecM):ByteArray:=cd (L.map aC)
def cy(L:List RecM)(j:Nat):List Int:=(List.range j).map fun i=>(szF (L.take (i+1)):Int)
theorem kk(L:List RecM)(j:Nat):(cy L j).length=j:=by simp[cy]
theorem wC(L:List RecM)(j:Nat):(cy L j).map (Value.int .i64)++[.int .i64 (szF (L.take (j+1)):Int)]=(cy L (j+1)).map (Value.int .i64):=by
 rw[cy,cy,List.range_succ,List.map_append,List.map_append];rfl
theorem ck(L:List RecM):(da L).size=szF L:=by rw[da,iz,szF,List.map_map];rfl
theorem yn{L:List RecM}{j:Nat}{r:RecM}(h:L[j]? =some r):szF (L.take (j+1))=szF (L.take j)+(aC r).size:=by
 obtain⟨hj,rfl⟩:=List.getElem?_eq_some_iff.1 h
 rw[szF,szF,List.take_succ_eq_append_getElem hj,List.map_append,List.sum_append];simp
theorem yu(a b:List ByteArray):cd (a++b)=cd a++cd b:=by
 induction a with
 |nil=>rw[List.nil_append,fL,qi]
 |cons x a ih=>rw[List.cons_append,bD,bD,ih,ByteArray.append_assoc]
theorem kF{r:RecM}(h:bz r=true):(aC r).size=8+(ax r).size:=by
 rw[aC,if_pos h,v6,aF _ _ (by decide),aF _ _ (by decide)]
theorem od{L:List RecM}(h:∀r∈L,bz r=true):8*L.length<=szF L:=by
 induction L with
 |nil=>exact Nat.zero_le _
 |cons r L ih=>
  have h1:=ih fun x hx=>h x (by simp[hx])
  have h2:=kF (h r (by simp))
  have h3:szF (r::L)=(aC r).size+szF L:=by simp[szF]
  rw[List.length_cons,h3];omega
theorem LP{L:List RecM}{j:Nat}{r:RecM}(hj:L[j]? =some r)(hr:bz r=true){s t:ByteArray}(hs:s=da L++t):aO s (szF (L.take j)) 4=(ax r).size/\aO s (szF (L.take j)+4) 4=bj (ax r)/\s.extract (szF (L.take j)+4+4) (szF (L.take j)+4+4+(ax r).size)=ax r/\szF (L.take j)+8+(ax r).size<=s.size:=by
 obtain⟨hjl,rfl⟩:=List.getElem?_eq_some_iff.1 hj
 have hl:L=L.take j++L[j]::L.drop (j+1):=by rw[List.getElem_cons_drop,List.take_append_drop]
 have hz:=ck (L.take j)
 have hb:=jg L[j]
 have hsl:=kt (ax L[j])
 generalize L[j]=r at*
 generalize L.take j=l1 at*
 generalize L.drop (j+1)=l2 at*
 have e:s=da l1++(aj ((ax r).size:Int) 4++(aj (bj (ax r):Int) 4++(ax r++(da l2++t)))):=by
  rw[hs,hl,da,List.map_append,yu,List.map_cons,bD,aC,if_pos hr]
  simp only[bD,fL,ByteArray.append_assoc,qi,kW]
  rfl
 have p4:=fun n=>aF n 4 (by decide)
 have e2:s=(da l1++aj ((ax r).size:Int) 4)++(aj (bj (ax r):Int) 4++(ax r++(da l2++t))):=by rw[e];simp only[ByteArray.append_assoc]
 have e3:bl s=(bl (da l1)++(bl (aj ((ax r).size:Int) 4)++bl (aj (bj (ax r):Int) 4)))++(bl (ax r)++bl (da l2++t)):=by rw[e];simp only[cY,List.append_assoc]
 have h1:=ip e hz (p4 _)
 have h2:=ip e2 (p:=szF l1+4) (by rw[ByteArray.size_append,hz,p4]) (p4 _)
 have h3:=nh ((ax r).size:Int) (by omega) (by omega)
 have h4:=nh (bj (ax r):Int) (by omega) (by omega)
 refine⟨by omega,by omega,?_,?_⟩
 rw[ku e3 (p:=szF l1+4+4) (q:=szF l1+4+4+(ax r).size) (by simp only[List.length_append,bS,hz,p4]) (by rw[bS]),il]
 rw[e];simp only[ByteArray.size_append,hz,p4];omega
def ua(s:ByteArray)(p:Nat):Prop:=s.size<p+8\/s.size<p+8+aO s p 4
theorem Hz{s:ByteArray}{L:List RecM}{j q:Nat}(hj:j<=L.length)(hq:q=szF (L.take j))(ht:ua s (szF L)):j<L.length\/(j=L.length/\s.size<q+4)\/(j=L.length/\q+4<=s.size/\s.size<q+4+4)\/(j=L.length/\q+4+4<=s.size/\s.size<q+4+4+aO s q 4):=by
 rcases Nat.lt_or_ge j L.length with h|h
 exact .inl h
 obtain rfl:j=L.length:=by omega
 rw[List.take_length] at hq
 subst hq
 unfold ua at ht
 omega
def DJ(L:List RecM)(w:World)(e:Ending)(w':World):Prop:=∃LA lc EA ec Ps,Ps.map RcT.r=L/\e= .returned (.tuple #[.slice LA L.length lc,.slice EA L.length ec])/\St w [] [eO 27 8 (.slice LA L.length lc) L.length (Ps.flatMap rcC),eO 3 1 (.slice EA L.length ec) L.length ((cy L L.length).map (Value.int .i64)),eRc Ps] w'
theorem Tryz.infoRecJ:(Tryz.prog.info? 27).map (fun i=>(i.zero,i.size,i.bytes))=some (some (.agg #[.int .i64 0,.int .i64 0,.int .i64 0,sn,sn,sn,sn,.string ⟨#[]⟩]),8,136):=by kernel_rfl
theorem Tryz.infoIntJ:(Tryz.prog.info? 3).map (fun i=>(i.zero,i.size,i.bytes))=some (some (.int .i64 0),1,8):=by kernel_rfl
theorem Bs(Ps:List RcT)(t:RcT):Ps.flatMap rcC++rcC t=(Ps++[t]).flatMap rcC:=by simp
theorem KB(B:Nat)(s:ByteArray)(p:Nat)(f:Bool)(w:World)(h:Rd 193 w B s p f):
  Calls Tryz.prog 100 #[po B 0] w (Ret (.int .i64 (p:Int)) w):=by
 go_enter Tryz.func100,Tryz.ntmps100
 have ak:=St.start w
 refine wq (sqr (sqp [.k 2 (vi 0)] ?_))
 refine aa (wq (wq (sqr (sqp [.m 3 0] ?_))))
 refine sqv (.bool false) ak (by
   exact sv0 rfl rfl rfl rfl rfl (fun _ _ _ h=>h) fun a b W X cx=>by
    have fN:a (.tmp 3)=vp B:=(cx.ou 3)
    simp[go_sem,cx.sees.const,fN]) fun W3 aW=>?_
 refine aa (wcf rfl (wp_skip (aa (wq (sqr (sqp [.m 5 0,.k 6 (vp B),.k 7 (po B 1)] ?_))))))
 refine sql (vi ((p:Int))) aW (fun cx=>ae rfl (by kernel_rfl) (cx.ou 7) ((Blk.ext h.1 cx.upd.to_ext).cell 1)) ?_
 refine sqp [.m 2 8] ?_
 refine aa (wp_ret ?_)
 refine bpr (vi ((p:Int))) (ag Tryz.results100 rpt) ?_
 exact Ret.of rfl aW.ext
theorem wZ(s t:ByteArray)(L:List RecM)(w:World)(hsl:s=da L++t)(hL:∀r∈L,bz r=true)(ht:ua s (szF L))(hs:s.size<=2000000):
  Calls Tryz.prog 39 #[.string s] w (DJ L w):=by
 have hsz:(da L).size<=s.size:=by rw[hsl,ByteArray.size_append];omega
 rw[ck] at hsz
 have hLl:=od hL
 go_enter Tryz.func39,Tryz.ntmps39
 have ak:=St.start w
 refine wq (sqr (sqp [.k 2 (sn),.k 3 (sn)] ?_))
 refine aa (wq (sqr (sqp [.k 4 (sn)] ?_)))
 refine aa (wq (sqr (sqp [.k 5 (sn)] ?_)))
 refine aa (wq (sqr (sqp [.m 12 0] ?_)))
 refine s7 (fun gz=>vp gz) (fun gz=>eB gz 193 #[.string s,vi 0,.bool false]) ak (fun cx=>⟨_,(rH s _).mono (by rintro e W1 ⟨B4,rfl,⟨hb4,hw4⟩,hx⟩;exact⟨_,rfl,St.one hx ⟨hb4,d7 _ _ _,fun k hk=>by simp[eB] at hk;subst hk;exact⟨hw4,hb4.lt⟩⟩⟩),(aw (cx.ou 12))⟩) fun gz W6 bP=>?_
 refine sqp [.m 6 13] ?_
 refine aa (wp_block ?_)
 have hn8:=fm bP 27 8
 simp only[List.cons_append,List.nil_append] at hn8
 have hn9:=St.nilrow hn8 3
 simp only[List.cons_append,List.nil_append] at hn9
 have hn10:=St.emNil (hn9.pick [0,1,2] (by decide) rfl)
 have hn11:=hn10.pick [0,1,2,3] (by decide) rfl
 refine aM (fun t_ mz az W=>∃j:Nat,∃q:Nat,∃Ps:List RcT,∃LA:Option Addr,∃lc:Nat,∃EA:Option Addr,∃ec:Nat,j<=L.length/\q=szF (L.take j)/\Ps.map RcT.r=L.take j/\mz=L.length-j/\az=⟨(ovr (jv az) [(2,2,2,[.slice LA j lc,.slice EA j ec]),(1,7,5,[]),(2,14,36,[])] t_).toArray,[]⟩/\St w [] [eB gz 193 #[.string s,vi ((q:Int)),.bool false],eO 27 8 (.slice LA j lc) j (Ps.flatMap rcC),eO 3 1 (.slice EA j ec) j ((cy L j).map (Value.int .i64)),eRc Ps] W) (L.length-0) ?_ ?_
 exact⟨0,0,[],none,0,none,0,Nat.zero_le _,rfl,rfl,rfl,(by kernel_rfl),hn11.pk [0,1,2,3]⟩
 rintro OV a12 zv ⟨j,q,Ps,LA,lc,EA,ec,hj,hq,hPs,rfl,hj_,cT⟩
 refine ovz hj_ fun Mg=>?_
 refine wp_block (wq ?_)
 have hsc:=Hz hj hq ht
 rcases hsc with hjl|⟨hje,fM⟩|⟨hje,fM,pU⟩|⟨hje,fM,pU⟩
 obtain⟨rc,hrj⟩:∃z,L[j]? =some z:=⟨_,List.getElem?_eq_getElem hjl⟩
 have hrc:bz rc=true:=hL rc (List.mem_of_getElem? hrj)
 obtain⟨g1,g2,g3,g4⟩:=LP hrj hrc hsl
 rw[<-hq] at g1 g2 g3 g4
 have hbz:=jg rc
 have hsm:=kt (ax rc)
 refine sqr (sqp [.m 14 6] ?_)
 refine gB (vi (((ax rc).size:Int))) (eB gz 193 #[.string s,vi (((q+4:Nat):Int)),.bool false]) 0 cT (by
   refine svA fun a b W X cx=>?_
   refine am.call (aq (args:=#[vp gz,vi 4]) rfl cx.sees rfl (by kernel_rfl) (aT (cx.ou 14) (cx.co _))) ?_
   refine(dK _ s q 4 _ ⟨(cx.bi 0 rfl),by omega,by omega⟩ (by omega) (by omega)).mono ?_
   rintro e W1 ⟨rfl,bX,hu⟩
   refine⟨_,rfl,cn (cx.init 0 _ rfl) rfl rfl hu bX.1 (fun c d X' hs hb hv hx=>?_)⟩
   exact⟨(hv 15 rfl).1.trans (congrArg (fun n:Nat=>Value.int .i64 (n:Int)) g1),hx⟩) fun zp cF=>?_
 refine sqp [.m 16 6] ?_
 refine gB (vi ((bj (ax rc):Int))) (eB gz 193 #[.string s,vi (((q+4+4:Nat):Int)),.bool false]) 0 cF (by
   refine svA fun a b W X cx=>?_
   refine am.call (aq (args:=#[vp gz,vi 4]) rfl cx.sees rfl (by kernel_rfl) (aT (cx.ou 16) (cx.co _))) ?_
   refine(dK _ s (q+4) 4 _ ⟨(cx.bi 0 rfl),by omega,by omega⟩ (by omega) (by omega)).mono ?_
   rintro e W1 ⟨rfl,bX,hu⟩
   refine⟨_,rfl,cn (cx.init 0 _ rfl) rfl rfl hu bX.1 (fun c d X' hs hb hv hx=>?_)⟩
   exact⟨(hv 17 rfl).1.trans (congrArg (fun n:Nat=>Value.int .i64 (n:Int)) g2),hx⟩) fun qQ dx=>?_
 refine sqp [.m 7 15,.m 8 17] ?_
 refine aa (wq (sqr (sqp [.m 18 6,.m 19 7] ?_)))
 refine gB (.string ((ax rc))) (eB gz 193 #[.string s,vi (((q+4+4+(ax rc).size:Nat):Int)),.bool false]) 0 dx (by
   refine svA fun a b W X cx=>?_
   refine am.call (aq (args:=#[vp gz,vi (((ax rc).size:Int))]) rfl cx.sees rfl (by kernel_rfl) (aT (cx.ou 18) (cx.ou 19))) ?_
   refine(vw _ s (q+4+4) (ax rc).size _ ⟨(cx.bi 0 rfl),by omega,by omega⟩ (by omega)).mono ?_
   rintro e W1 ⟨rfl,bX,hu⟩
   refine⟨_,rfl,cn (cx.init 0 _ rfl) rfl rfl hu bX.1 (fun c d X' hs hb hv hx=>?_)⟩
   exact⟨(hv 20 rfl).1.trans (congrArg Value.string g3),hx⟩) fun sf dY=>?_
 refine sqp [.m 9 20] ?_
 refine aa (wq (wq (sqr (sqp [.m 21 6] ?_))))
 refine sqv (.bool false) dY (by
   refine svA fun a b W X cx=>?_
   refine am.call (aq (args:=#[vp gz]) rfl cx.sees rfl (by kernel_rfl) (aw (cx.ou 21))) ?_
   refine(fu _ s (q+4+4+(ax rc).size) false _ ⟨(cx.bi 0 rfl),by omega,by omega⟩).mono ?_
   rintro e W1 ⟨rfl,rfl⟩
   refine⟨_,rfl,bM [] rfl rfl (Ext.refl _) (by simp) List.Pairwise.nil (fun c d X' hs hb hv hN=>?_)⟩
   have aJ:=(hv 22 rfl).1;have aR:=(hv 22 rfl).2
   exact aJ.trans rfl) fun zm fb=>?_
 refine sqp [.k 23 (.bool false)] ?_
 refine dF 23 [24,25,26,27,28] rfl rfl ?_
 refine sqp [.m 24 9] ?_
 refine sqk (.int .u32 ((bj (ax rc):Int))) fb (fun cx=>⟨_,mv (ax rc) _ (by omega),(aw (cx.ou 24))⟩) fun zh fa=>?_
 have hd31:((bj (ax rc):Int) != (bj (ax rc):Int))=false:=(by simp)
 refine sqp [sW 26 .i64 (bj (ax rc):Int) (bj (ax rc):Int) (IntWalk.i64_in _ (by omega)),.m 27 8,.e 28 (.bool ((bj (ax rc):Int) != (bj (ax rc):Int))) (.bool false) (congrArg Value.bool hd31)] ?_
 refine sqp [.k 29 (.bool false)] ?_
 refine aa (wcf rfl (wp_skip (aa (wq (sqr (sqp [.m 33 9] ?_))))))
 refine iC (fun gK gL=> .tuple #[.agg #[vi rc.kind,vi rc.xid,vi rc.tbl,sn,sn,.slice gK rc.eds.length gL,sn,.string rc.note],vi 0]) (fun gK gL=>eO 84 3 (.slice gK rc.eds.length gL) rc.eds.length (rc.eds.flatMap edC)) fa (fun cx=>⟨_,(JV (ax rc) rc _ (H1 hrc) hrc (by omega)).mono (by rintro e W1 ⟨A4,c4,rfl,ho,hx⟩;exact⟨_,_,rfl,St.one hx (cg ho)⟩),(aw (cx.ou 33))⟩) fun gK gL w6 ej=>?_
 refine sqp [.m 32 34,.k 35 (.agg #[vi rc.kind,vi rc.xid,vi rc.tbl,sn,sn,.slice gK rc.eds.length gL,sn,.string rc.note]),.k 36 (vi 0)] ?_
 refine cf #[vi 0,vi 0,vi 0,sn,sn,sn,sn,.string ByteArray.empty] ej fun QB Fs iw=>?_
 refine aY (n:=8) 5 #[vi rc.kind,vi rc.xid,vi rc.tbl,sn,sn,.slice gK rc.eds.length gL,sn,.string rc.note] iw fun qM du=>?_
 refine sqp [.m 11 36] ?_
 refine aa (wq (wq (sqr (sqp [.m 37 11,.k 38 (.bool false)] ?_))))
 refine aa (wcf rfl (wp_skip (aa (wq (sqr (sqp [.m 41 4] ?_))))))
 refine bJ 5 8 du ?_
 refine ms 27 8 1 [vi rc.kind,vi rc.xid,vi rc.tbl,sn,sn,.slice gK rc.eds.length gL,sn,.string rc.note] du (@fun a b W X cx=>by have Pp:a (.tmp 42)= .agg #[vi rc.kind,vi rc.xid,vi rc.tbl,sn,sn,.slice gK rc.eds.length gL,sn,.string rc.note]:=(cx.ou 42);simp[go_sem,Pp]) fun QC QD CP=>?_
 refine vP (j+1) ((Ps++[RcT.mk rc gK gL]).flatMap rcC) 1 CP Tryz.infoRecJ (fun cx=>(At.of_ownN (cx.ri 6 rfl))) (h1:=by simp[rcC,Value.oneCell']) (jG:=(Bs Ps (RcT.mk rc gK gL))) fun Fv Fw Fo gm=>?_
 refine sqp [.m 4 44] ?_
 refine aa (sqr (sqp [.m 45 5,.m 46 6] ?_))
 refine sqk (vi (((q+4+4+(ax rc).size:Nat):Int))) gm (fun cx=>⟨_,KB _ s (q+4+4+(ax rc).size) false _ ⟨(cx.bi 0 rfl),by omega,by omega⟩,(aw (cx.ou 46))⟩) fun Mf lY=>?_
 refine d3 (fun x_=>sA x_) (fun uO=> .slice uO 1 1) (fun uO=>eO 3 1 (.slice uO 1 1) 1 ([vi (((q+4+4+(ax rc).size:Nat):Int))])) lY (by
   refine svA fun a b W X cx=>?_
   have Pq:a (.tmp 47)=vi (((q+4+4+(ax rc).size:Nat):Int)):=(cx.ou 47)
   exact dz (e:=3) (xs:=[vi (((q+4+4+(ax rc).size:Nat):Int))]) rfl (by simp[go_sem,Pq]) rfl (by decide) rfl rfl (fun _ _ _ _ _=> .intro)) fun uO IT kK=>?_
 refine tf (fun x_=>sA x_) (fun x_=>sC x_) (fun ow ox=> .slice ow (j+1) ox) (fun ow ox=>eO 3 1 (.slice ow (j+1) ox) (j+1) ((cy L (j+1)).map (Value.int .i64))) 2 kK (by
   refine svA fun a b W X cx=>?_
   obtain⟨i0,hi0,hz0,hz1,hz2⟩:=info_parts Tryz.infoIntJ
   refine fg (n:=j) (m:=1) (nm:=j+1) (xs:=(cy L j).map (Value.int .i64)) (news:=[vi (((q+4+4+(ax rc).size:Nat):Int))]) (xs':=(cy L (j+1)).map (Value.int .i64)) rfl (ty:=25) rfl (by kernel_rfl) hi0 hz0 hz1 hz2 rfl (cx.ou 45) cx (cx.init 2 _ rfl) rfl (cx.ou 48) (by first|(simp;done)|(simp;omega)) (At.of_own (cx.ri 7 rfl)) (by simp[rcC,Value.oneCell']) (by simp only[maxLen];omega) (by omega) rfl rfl rfl (by omega) ((by rw[<-wC,yn hrj,kF hrc,<-hq,show q+4+4+(ax rc).size=q+(8+(ax rc).size) by omega])) (fun c d X' hs hb hv hx=>?_)
   exact⟨hv,hx⟩) fun ow ox BD cL=>?_
 refine sqp [.m 5 49] ?_
 refine av (aa ?_)
 have hm54:=St.mergeR (Qs:=Ps) (t:=(RcT.mk rc gK gL)) (L:=[eB gz 193 #[.string s,vi (((q+4+4+(ax rc).size:Nat):Int)),.bool false],eO 27 8 (.slice Fv (j+1) Fw) (j+1) ((Ps++[RcT.mk rc gK gL]).flatMap rcC),eO 3 1 (.slice ow (j+1) ox) (j+1) ((cy L (j+1)).map (Value.int .i64))]) (cL.pick [0,1,2,3,4] (by decide) rfl)
 refine⟨L.length-((j+1)),by omega,?_⟩
 exact⟨(j+1),q+4+4+(ax rc).size,(Ps++[(RcT.mk rc gK gL)]),Fv,Fw,ow,ox,by omega,by rw[yn hrj,kF hrc,<-hq];omega,by rw[List.map_append,hPs,List.take_succ_eq_append_getElem (List.getElem?_eq_some_iff.1 hrj).1,(List.getElem?_eq_some_iff.1 hrj).2];rfl,rfl,(by kernel_rfl),hm54.pk [0,1,2,3]⟩
 have hqs:q<=s.size:=by rw[hq,hje,List.take_length];exact hsz
 refine sqr (sqp [.m 14 6] ?_)
 refine jR (vi 0) 0 #[.string s,vi ((q:Int)),.bool true] cT (fun cx=>⟨_,(ry _ s q 4 false _ ⟨(cx.bi 0 rfl),by omega,by omega⟩ (by omega) (.inr (by omega))).mono (by rintro e W1 ⟨rfl,bX,hu⟩;exact⟨rfl,hu,bX.1⟩),(aT (cx.ou 14) (cx.co _))⟩) fun OT py=>?_
 refine sqp [.m 16 6] ?_
 refine jR (vi 0) 0 #[.string s,vi ((q:Int)),.bool true] py (fun cx=>⟨_,(ry _ s q 4 true _ ⟨(cx.bi 0 rfl),by omega,by omega⟩ (by omega) (.inl rfl)).mono (by rintro e W1 ⟨rfl,bX,hu⟩;exact⟨rfl,hu,bX.1⟩),(aT (cx.ou 16) (cx.co _))⟩) fun IW kc=>?_
 refine sqp [.m 7 15,.m 8 17] ?_
 refine aa (wq (sqr (sqp [.m 18 6,.m 19 7] ?_)))
 refine jR (.string ByteArray.empty) 0 #[.string s,vi ((q:Int)),.bool true] kc (fun cx=>⟨_,(kq _ s q true 0 _ ⟨(cx.bi 0 rfl),by omega,by omega⟩ (.inl rfl)).mono (by rintro e W1 ⟨rfl,bX,hu⟩;exact⟨rfl,hu,bX.1⟩),(aT (cx.ou 18) (cx.ou 19))⟩) fun Qj uH=>?_
 refine sqp [.m 9 20] ?_
 refine aa (wq (wq (sqr (sqp [.m 21 6] ?_))))
 refine sqv (.bool true) uH (by
   refine svA fun a b W X cx=>?_
   refine am.call (aq (args:=#[vp gz]) rfl cx.sees rfl (by kernel_rfl) (aw (cx.ou 21))) ?_
   refine(fu _ s q true _ ⟨(cx.bi 0 rfl),by omega,by omega⟩).mono ?_
   rintro e W1 ⟨rfl,rfl⟩
   refine⟨_,rfl,bM [] rfl rfl (Ext.refl _) (by simp) List.Pairwise.nil (fun c d X' hs hb hv hN=>?_)⟩
   have aJ:=(hv 22 rfl).1;have aR:=(hv 22 rfl).2
   exact aJ.trans rfl) fun OO uI=>?_
 refine xR [.k 23 (.bool true)] 23 [24,25,26,27,28] ?_
 refine sqp [.k 29 (.bool true)] ?_
 refine aa (wct rfl (wq (sqr (sqp [.m 30 4,.m 31 5,.m 2 30,.m 3 31] ?_))))
 refine aa (wp_ret (ai (aV (ai (aV ?_)))))
 refine bpr (.tuple #[.slice LA j lc,.slice EA j ec]) (aN Tryz.results39 rpt rpt) ?_
 subst hje;rw[List.take_length] at hPs;exact⟨_,_,_,_,Ps,hPs,rfl,uI.pick [1,2,3] (by decide) rfl⟩
 have hqs:q<=s.size:=by rw[hq,hje,List.take_length];exact hsz
 have hn4:=mq s q
 refine sqr (sqp [.m 14 6] ?_)
 refine jR (vi ((aO s q 4:Int))) 0 #[.string s,vi (((q+4:Nat):Int)),.bool false] cT (fun cx=>⟨_,(dK _ s q 4 _ ⟨(cx.bi 0 rfl),by omega,by omega⟩ (by omega) (by omega)).mono (by rintro e W1 ⟨rfl,bX,hu⟩;exact⟨rfl,hu,bX.1⟩),(aT (cx.ou 14) (cx.co _))⟩) fun IY gX=>?_
 refine sqp [.m 16 6] ?_
 refine jR (vi 0) 0 #[.string s,vi (((q+4:Nat):Int)),.bool true] gX (fun cx=>⟨_,(ry _ s (q+4) 4 false _ ⟨(cx.bi 0 rfl),by omega,by omega⟩ (by omega) (.inr (by omega))).mono (by rintro e W1 ⟨rfl,bX,hu⟩;exact⟨rfl,hu,bX.1⟩),(aT (cx.ou 16) (cx.co _))⟩) fun QE CQ=>?_
 refine sqp [.m 7 15,.m 8 17] ?_
 refine aa (wq (sqr (sqp [.m 18 6,.m 19 7] ?_)))
 refine jR (.string ByteArray.empty) 0 #[.string s,vi (((q+4:Nat):Int)),.bool true] CQ (fun cx=>⟨_,(kq _ s (q+4) true (aO s q 4:Int) _ ⟨(cx.bi 0 rfl),by omega,by omega⟩ (.inl rfl)).mono (by rintro e W1 ⟨rfl,bX,hu⟩;exact⟨rfl,hu,bX.1⟩),(aT (cx.ou 18) (cx.ou 19))⟩) fun QF xt=>?_
 refine sqp [.m 9 20] ?_
 refine aa (wq (wq (sqr (sqp [.m 21 6] ?_))))
 refine sqv (.bool true) xt (by
   refine svA fun a b W X cx=>?_
   refine am.call (aq (args:=#[vp gz]) rfl cx.sees rfl (by kernel_rfl) (aw (cx.ou 21))) ?_
   refine(fu _ s (q+4) true _ ⟨(cx.bi 0 rfl),by omega,by omega⟩).mono ?_
   rintro e W1 ⟨rfl,rfl⟩
   refine⟨_,rfl,bM [] rfl rfl (Ext.refl _) (by simp) List.Pairwise.nil (fun c d X' hs hb hv hN=>?_)⟩
   have aJ:=(hv 22 rfl).1;have aR:=(hv 22 rfl).2
   exact aJ.trans rfl) fun TT NU=>?_
 refine xR [.k 23 (.bool true)] 23 [24,25,26,27,28] ?_
 refine sqp [.k 29 (.bool true)] ?_
 refine aa (wct rfl (wq (sqr (sqp [.m 30 4,.m 31 5,.m 2 30,.m 3 31] ?_))))
 refine aa (wp_ret (ai (aV (ai (aV ?_)))))
 refine bpr (.tuple #[.slice LA j lc,.slice EA j ec]) (aN Tryz.results39 rpt rpt) ?_
 subst hje;rw[List.take_length] at hPs;exact⟨_,_,_,_,Ps,hPs,rfl,NU.pick [1,2,3] (by decide) rfl⟩
 have hqs:q<=s.size:=by rw[hq,hje,List.take_length];exact hsz
 have hn4:=mq s q
 have hn5:=mq s (q+4)
 refine sqr (sqp [.m 14 6] ?_)
 refine jR (vi ((aO s q 4:Int))) 0 #[.string s,vi (((q+4:Nat):Int)),.bool false] cT (fun cx=>⟨_,(dK _ s q 4 _ ⟨(cx.bi 0 rfl),by omega,by omega⟩ (by omega) (by omega)).mono (by rintro e W1 ⟨rfl,bX,hu⟩;exact⟨rfl,hu,bX.1⟩),(aT (cx.ou 14) (cx.co _))⟩) fun IZ kd=>?_
 refine sqp [.m 16 6] ?_
 refine jR (vi ((aO s (q+4) 4:Int))) 0 #[.string s,vi (((q+4+4:Nat):Int)),.bool false] kd (fun cx=>⟨_,(dK _ s (q+4) 4 _ ⟨(cx.bi 0 rfl),by omega,by omega⟩ (by omega) (by omega)).mono (by rintro e W1 ⟨rfl,bX,hu⟩;exact⟨rfl,hu,bX.1⟩),(aT (cx.ou 16) (cx.co _))⟩) fun OW uQ=>?_
 refine sqp [.m 7 15,.m 8 17] ?_
 refine aa (wq (sqr (sqp [.m 18 6,.m 19 7] ?_)))
 refine jR (.string ByteArray.empty) 0 #[.string s,vi (((q+4+4:Nat):Int)),.bool true] uQ (fun cx=>⟨_,(kq _ s (q+4+4) false (aO s q 4:Int) _ ⟨(cx.bi 0 rfl),by omega,by omega⟩ (.inr (.inr (by omega)))).mono (by rintro e W1 ⟨rfl,bX,hu⟩;exact⟨rfl,hu,bX.1⟩),(aT (cx.ou 18) (cx.ou 19))⟩) fun TU NV=>?_
 refine sqp [.m 9 20] ?_
 refine aa (wq (wq (sqr (sqp [.m 21 6] ?_))))
 refine sqv (.bool true) NV (by
   refine svA fun a b W X cx=>?_
   refine am.call (aq (args:=#[vp gz]) rfl cx.sees rfl (by kernel_rfl) (aw (cx.ou 21))) ?_
   refine(fu _ s (q+4+4) true _ ⟨(cx.bi 0 rfl),by omega,by omega⟩).mono ?_
   rintro e W1 ⟨rfl,rfl⟩
   refine⟨_,rfl,bM [] rfl rfl (Ext.refl _) (by simp) List.Pairwise.nil (fun c d X' hs hb hv hN=>?_)⟩
   have aJ:=(hv 22 rfl).1;have aR:=(hv 22 rfl).2
   exact aJ.trans rfl) fun R7 Mi=>?_
 refine xR [.k 23 (.bool true)] 23 [24,25,26,27,28] ?_
 refine sqp [.k 29 (.bool true)] ?_
 refine aa (wct rfl (wq (sqr (sqp [.m 30 4,.m 31 5,.m 2 30,.m 3 31] ?_))))
 refine aa (wp_ret (ai (aV (ai (aV ?_)))))
 refine bpr (.tuple #[.slice LA j lc,.slice EA j ec]) (aN Tryz.results39 rpt rpt) ?_
 subst hje;rw[List.take_length] at hPs;exact⟨_,_,_,_,Ps,hPs,rfl,Mi.pick [1,2,3] (by decide) rfl⟩
end
section
open Go.RowKit
theorem vM(z:Array Value)(hz:0<z.size)(n:Nat):(madeCells z ((n+1)*z.size)).toList=z.toList++(madeCells z (n*z.size)).toList:=by
 apply List.ext_getElem?
 intro j
 have e:∀m j,(madeCells z m).toList[j]? =if j<m then some (z[j % z.size]!) else none:=fun m j=>by
  by_cases h:j<m
  rw[if_pos h];simp[madeCells,h]
  rw[if_neg h];simp[madeCells,h]
 have hm:(n+1)*z.size=z.size+n*z.size:=by rw[Nat.add_mul];omega
 rw[e,hm]
 by_cases h:j<z.size
 rw[if_pos (by omega),List.getElem?_append_left (by simpa using h),Nat.mod_eq_of_lt h]
 simp[h]
 rw[List.getElem?_append_right (by simpa using h),Array.length_toList,e]
 by_cases h2:j<z.size+n*z.size
 rw[if_pos h2,if_pos (by omega),Nat.mod_eq_sub_mod (by omega)]
 rw[if_neg h2,if_neg (by omega)]
theorem oh{T:Type}(f:T->List Value)(t:T)(z:Array Value)(hz:z.toList=f t)(h0:0<z.size)(n:Nat):(madeCells z (n*z.size)).toList=(List.replicate n t).flatMap f:=by
 induction n with
 |zero=>
  rw[Nat.zero_mul]
  have:(madeCells z 0).toList.length=0:=by rw[Array.length_toList,size_madeCells]
  rw[List.eq_nil_of_length_eq_zero this];rfl
 |succ n ih=>rw[vM z h0,ih,List.replicate_succ,List.flatMap_cons,hz]
section
variable{P:Program}{ops:Array Oper}{L:List Nat}{a0:Act}{w0:World}{bor:List Nat}{X0:List Ent}{us cr kl:List (List Nat)}
 {D:Nat->(Tmp->Value)->(Tmp->Value)->(Nat->Ent)->Prop}{i:Nat}{o:Oper}{ρ:Operand->Value}{β:Tmp->Value}{W:World}{X:Nat->Ent}
theorem yU{t e:TypeId}{x y:Operand}{k k':IntKind}{n sz:Nat}{j j':Int}{d:Tmp}{q:Nat}{inf:TypeInfo}{z:Value}{bytes:Nat}{xs:List Value}(h:o.op= .makeSlice t x y)(ht:P.underlying t=some (.slice e))(hi:P.info? e=some inf)(hz:inf.zero=some z)(hsize:inf.size=sz)(hby:inf.bytes=bytes)
  (hx:ρ x= .int k j) (hy:ρ y= .int k' j') (hj:j=(n:Int)) (hj':j'=(n:Int)) (hn:n*sz<=16777216) (hb:bytes*n<=281474976710656) (hml:n<=maxLen) (jG:(madeCells z.cells (n*sz)).toList=xs) (hd:o.dst=some d) (hc:atV cr i=[q])
  (hD:∀(b a:Tmp->Value) (X':Nat->Ent),(∀t,t≠d->b t=ρ (.tmp t))->(∀t,t≠d->a t=β t)->b d= .slice (sA (a d)) n n->X' q=eO e sz (.slice (sA (a d)) n n) n xs->D i b a X'):
  am P o ρ W (bV cr kl D i o.dst ρ β W X):=by
 subst hj;subst hj';subst hby;subst hsize;subst jG
 obtain⟨W',hrun,ho,hg⟩:=run_makeSlice_full (P:=P) W W.heap.size t e inf z inf.size ht hi hz rfl k k' n hn hb hml (Nat.le_refl _)
 have hr:(execOp ρ o).run P W= .ok (.value (.slice (some ⟨W.heap.size,0,none⟩) n n)) W':=by
  unfold execOp;rw[h]
  simp only[hx,hy,Sem.run_bind,hrun,Result.andThen_ok,Sem.run_pure]
 refine am.value hr ⟨[eO e inf.size (.slice (some ⟨W.heap.size,0,none⟩) n n) n (madeCells z.cells (n*inf.size)).toList],by rw[hc];rfl,⟨(Upd.refl _ W).grown hg (fun k hk=>by cases hk),fun e' he=>?_,List.pairwise_singleton _ _⟩,fun b a X' hs' hv hb hbv hx' hN=>hD b a X' (fun t ht=>hs' t (by rw[hd];simpa using ht.symm)) (fun t ht=>hb t (by rw[hd];simpa using ht.symm)) ?_ ?_⟩
 rw[List.mem_singleton] at he
 subst he
 obtain⟨h1,h2,h3⟩:=cg ho
 exact⟨h1,h2,fun k hk=>⟨.inr (h3 k hk).1,(h3 k hk).2⟩⟩
 rw[hv d hd,hbv d hd];rfl
 rw[hbv d hd]
 rw[hc] at hN
 exact(List.cons.inj hN).1
end
theorem CtxV.holdF{ops:Array Oper}{L:List Nat}{a0:Act}{w0:World}{bor:List Nat}{X0:List Ent}{us:List (List Nat)}{D:Nat->(Tmp->Value)->(Tmp->Value)->(Nat->Ent)->Prop}{i:Nat}{b:Operand->Value}{a:Tmp->Value}{W:World}{X:Nat->Ent}{q:Nat}{E:Ent}(cx:CtxV ops L a0 w0 bor X0 us D i b a W X)(hX:X q=E)(hu:(atV us i).contains q=true):E.holds W:=by
 have h:=(cx.ok q hu).holds
 rw[hX] at h;exact h
theorem CtxV.ltF{ops:Array Oper}{L:List Nat}{a0:Act}{w0:World}{bor:List Nat}{X0:List Ent}{us:List (List Nat)}{D:Nat->(Tmp->Value)->(Tmp->Value)->(Nat->Ent)->Prop}{i:Nat}{b:Operand->Value}{a:Tmp->Value}{W:World}{X:Nat->Ent}{q:Nat}{E:Ent}(cx:CtxV ops L a0 w0 bor X0 us D i b a W X)(hX:X q=E)(hu:(atV us i).contains q=true):∀k∈E.fp,k<W.heap.size:=fun k hk=>by
 subst hX;exact((cx.ok q hu).own k hk).2
theorem CtxV.keepF{ops:Array Oper}{L:List Nat}{a0:Act}{w0:World}{bor:List Nat}{X0:List Ent}{us:List (List Nat)}{D:Nat->(Tmp->Value)->(Tmp->Value)->(Nat->Ent)->Prop}{i:Nat}{b:Operand->Value}{a:Tmp->Value}{W:World}{X:Nat->Ent}{q q':Nat}{E F:Ent}(cx:CtxV ops L a0 w0 bor X0 us D i b a W X)(hX:X q=E)(hX':X q'=F)(hu:(atV us i).contains q=true)(hu':(atV us i).contains q'=true)(hne:q≠q'):∀W',Upd F.fp W W'->E.holds W':=fun W' hU=>by
 subst hX hX'
 have h1:=cx.ok q hu
 exact h1.loc W W' (fun k hk=>hU.block k (h1.own k hk).2 (cx.ap q q' hu hu' hne k hk)) h1.holds
theorem St.pack{w0 W:World}{bor:List Nat}{L S:List Ent}{E:Ent}(h:St w0 bor (L++S) W)(hfp:E.fp=S.flatMap (·.fp))(hh:E.holds W)(hl:E.loc):St w0 bor (L++[E]) W:=by
 have hin:∀k,k∈E.fp->∃e∈S,k∈e.fp:=fun k hk=>by rw[hfp] at hk;exact List.mem_flatMap.1 hk
 refine⟨h.upd,fun x hx=>?_,?_⟩
 rcases List.mem_append.1 hx with hx|hx
 exact h.ok x (List.mem_append_left _ hx)
 rw[List.mem_singleton] at hx
 subst hx
 exact⟨hh,hl,fun k hk=>let ⟨e,he,hke⟩:=hin k hk;(h.ok e (List.mem_append_right _ he)).own k hke⟩
 have ha:=h.apart
 rw[List.pairwise_append] at ha |-
 refine⟨ha.1,List.pairwise_singleton _ _,fun a ha' b hb k hk hkb=>?_⟩
 rw[List.mem_singleton] at hb
 subst hb
 obtain⟨e,he,hke⟩:=hin k hkb
 exact ha.2.2 a ha' e he k hk hke
theorem St.unpack{w0 W:World}{bor:List Nat}{S:List Ent}{E:Ent}(h:St w0 bor [E] W)(hfp:E.fp=S.flatMap (·.fp))(hS:∀e∈S,e.holds W/\e.loc)(ha:S.Pairwise Ent.apart):St w0 bor S W:=
 ⟨h.upd,fun x hx=>⟨(hS x hx).1,(hS x hx).2,fun k hk=>(h.ok E (List.mem_singleton.2 rfl)).own k (by rw[hfp];exact List.mem_flatMap.2 ⟨x,hx,hk⟩)⟩,ha⟩
theorem CtxV.keepAt{ops:Array Oper}{L:List Nat}{a0:Act}{w0:World}{bor:List Nat}{X0:List Ent}{us:List (List Nat)}{D:Nat->(Tmp->Value)->(Tmp->Value)->(Nat->Ent)->Prop}{i:Nat}{b:Operand->Value}{a:Tmp->Value}{W:World}{X:Nat->Ent}{q q' e sz n m c:Nat}{A:Option Addr}{xs:List Value}{F:Ent}(cx:CtxV ops L a0 w0 bor X0 us D i b a W X)(hX:X q=eO e sz (.slice A n c) m xs)(hX':X q'=F)(hu:(atV us i).contains q=true)(hu':(atV us i).contains q'=true)(hne:q≠q'):∀W',Upd F.fp W W'->At W' A xs:=fun W' hU=>
 At.of_ownN (cx.keepF hX hX' hu hu' hne W' hU)
end
section
open Go.RowKit
def eA(R:List Ent):Ent:=⟨R.flatMap (·.fp),fun W=>(∀e∈R,e.holds W/\e.loc)/\R.Pairwise Ent.apart⟩
theorem KY(R:List Ent):(eA R).loc:=fun W W' hk h=>
 ⟨fun e he=>⟨(h.1 e he).2 W W' (fun k hk'=>hk k (List.mem_flatMap.2 ⟨e,he,hk'⟩)) (h.1 e he).1,(h.1 e he).2⟩,h.2⟩
theorem St.unpackL{w0 W:World}{bor:List Nat}{L S:List Ent}{E:Ent}(h:St w0 bor (L++[E]) W)(hfp:E.fp=S.flatMap (·.fp))(hS:∀e∈S,e.holds W/\e.loc)(ha:S.Pairwise Ent.apart):St w0 bor (L++S) W:=by
 refine⟨h.upd,fun x hx=>?_,?_⟩
 rcases List.mem_append.1 hx with hx|hx
 exact h.ok x (List.mem_append_left _ hx)
 exact⟨(hS x hx).1,(hS x hx).2,fun k hk=>(h.ok E (by simp)).own k (by rw[hfp];exact List.mem_flatMap.2 ⟨x,hx,hk⟩)⟩
 have h1:=List.pairwise_append.1 h.apart
 refine List.pairwise_append.2 ⟨h1.1,ha,fun a ha' b hb k hk hkb=>?_⟩
 exact h1.2.2 a ha' E (by simp) k hk (by rw[hfp];exact List.mem_flatMap.2 ⟨b,hb,hkb⟩)
theorem St.packA{w0 W:World}{bor:List Nat}{L R:List Ent}(h:St w0 bor (L++R) W):St w0 bor (L++[eA R]) W:=
 St.pack h rfl ⟨fun e he=>have h1:=h.ok e (List.mem_append_right _ he);⟨h1.holds,h1.loc⟩,(List.pairwise_append.1 h.apart).2.1⟩ (KY R)
theorem St.unpackA{w0 W:World}{bor:List Nat}{L R:List Ent}(h:St w0 bor (L++[eA R]) W):St w0 bor (L++R) W:=by
 have h1:=(h.ok (eA R) (by simp)).holds
 exact h.unpackL rfl h1.1 h1.2
theorem St.outA{w0 W:World}{bor:List Nat}{L A B:List Ent}{e:Ent}(h:St w0 bor (L++[eA (A++e::B)]) W):St w0 bor (L++[eA (A++B),e]) W:=by
 have h1:St w0 bor (L++[e]++(A++B)) W:=h.unpackA.perm (by
  rw[List.append_assoc]
  refine List.Perm.append_left L ?_
  exact List.perm_middle)
 have h2:=h1.packA
 exact h2.perm (by
  rw[List.append_assoc]
  exact List.Perm.append_left L (List.Perm.swap ..))
theorem St.inA{w0 W:World}{bor:List Nat}{L A B:List Ent}{e:Ent}(h:St w0 bor (L++[eA (A++B),e]) W):St w0 bor (L++[eA (A++e::B)]) W:=by
 have h1:St w0 bor (L++[e]++[eA (A++B)]) W:=h.perm (by
  rw[List.append_assoc]
  exact List.Perm.append_left L (List.Perm.swap ..))
 have h2:St w0 bor (L++(A++e::B)) W:=h1.unpackA.perm (by
  rw[List.append_assoc]
  exact List.Perm.append_left L (List.perm_middle (a:=e) (l₁:=A) (l₂:=B)).symm)
 exact h2.packA
theorem St.addE{w0 W:World}{bor:List Nat}{L R:List Ent}(h:St w0 bor L W)(hR:∀e∈R,e.fp=[]/\e.holds W/\e.loc):St w0 bor (L++R) W:=by
 refine⟨h.upd,fun x hx=>?_,?_⟩
 rcases List.mem_append.1 hx with hx|hx
 exact h.ok x hx
 have h1:=hR x hx
 exact⟨h1.2.1,h1.2.2,fun k hk=>by rw[h1.1] at hk;cases hk⟩
 refine List.pairwise_append.2 ⟨h.apart,?_,fun a _ b hb k _ hkb=>by rw[(hR b hb).1] at hkb;cases hkb⟩
 exact List.pairwise_of_forall_mem_list fun a ha b hb k hk=>by rw[(hR a ha).1] at hk;cases hk
end
section
open Go.RowKit
abbrev H5:={s:ByteArray // s.size=512}
structure ShD where
 safe:H5
 ws:List H5
structure DkM where
 pgs:List ShD
 log:ByteArray
 fl:Nat
 off:Bool
 armed:Bool
 left:Int
structure ShT where
 s:H5
 A:Option Addr
 c:Nat
 ws:List H5
def ef(t:ShT):ShD:=⟨t.s,t.ws⟩
def bq(s:ByteArray):List Int:=(bl s).map fun c=>(c.toNat:Int)
theorem gO(s:ByteArray):(bq s).length=s.size:=by rw[bq,List.length_map,bS]
theorem xO(a b:ByteArray):bq (a++b)=bq a++bq b:=by rw[bq,cY,List.map_append];rfl
theorem BO(s:ByteArray):Lib.strCells s=(bq s).map (Value.int .u8):=by rw[bq,List.map_map];rfl
theorem su(s:ByteArray):strOfNums (bq s)=s:=by
 apply g9
 show (strOfNums (bq s)).data.toList=bl s
 rw[strOfNums_data,bq,List.map_map]
 have:(fun x:Int=>UInt8.ofNat x.toNat) ∘ (fun c:UInt8=>(c.toNat:Int))=id:=by funext c;simp
 first
  |rw[this,List.map_id]
  |(conv=>rhs;rw[<-List.map_id (bl s)]
    apply List.map_congr_left
    intro c _
    simp)
def hvC(h:H5):List Value:=(bq h.1).map (Value.int .u8)
theorem c5(h:H5):(hvC h).length=512:=by rw[hvC,List.length_map,gO,h.2]
def shC(t:ShT):List Value:=hvC t.s++[.slice t.A t.ws.length t.c]
theorem dw(t:ShT):(shC t).length=513:=by rw[shC,List.length_append,c5];rfl
def nx(t:ShT):Ent:=eO 142 512 (.slice t.A t.ws.length t.c) t.ws.length (t.ws.flatMap hvC)
def eWs(Qs:List ShT):Ent:=eA (Qs.map nx)
theorem DX{Qs:List ShT}{W:World}(h:(eWs Qs).holds W){t:ShT}(ht:t∈Qs):At W t.A (t.ws.flatMap hvC):=At.of_ownN (h.1 (nx t) (List.mem_map.2 ⟨_,ht,rfl⟩)).1
def dkC(D:DkM)(PA:Option Addr)(Pc:Nat)(GA:Option Addr)(gc:Nat):Array Value:=#[.slice PA D.pgs.length Pc,.slice GA D.log.size gc,.int .i64 (D.fl:Int),.bool D.off,.bool D.armed,.int .i64 D.left]
def dkL(b:Nat)(D:DkM)(PA:Option Addr)(Pc:Nat)(GA:Option Addr)(gc:Nat)(Ps Qs:List ShT):List Ent:=
 [eB b 100 (dkC D PA Pc GA gc),eO 144 513 (.slice PA D.pgs.length Pc) D.pgs.length (Ps.flatMap shC),eO 5 1 (.slice GA D.log.size gc) D.log.size ((bq D.log).map (Value.int .u8)),eWs Qs]
def eDk(b:Nat)(D:DkM)(fp:List Nat):Ent:=⟨fp,fun W=>∃PA Pc GA gc Ps Qs,Ps.map ef=D.pgs/\Qs=Ps/\fp=(dkL b D PA Pc GA gc Ps Qs).flatMap (·.fp)/\(dkL b D PA Pc GA gc Ps Qs).Pairwise Ent.apart/\∀e∈dkL b D PA Pc GA gc Ps Qs,e.holds W/\e.loc⟩
theorem dS(b:Nat)(D:DkM)(fp:List Nat):(eDk b D fp).loc:=fun W W' hk h=>by
 obtain⟨PA,Pc,GA,gc,Ps,Qs,h1,h2,h3,h4,h5⟩:=h
 exact⟨PA,Pc,GA,gc,Ps,Qs,h1,h2,h3,h4,fun e he=>⟨(h5 e he).2 W W' (fun k hk'=>hk k (by rw[eDk,h3];exact List.mem_flatMap.2 ⟨e,he,hk'⟩)) (h5 e he).1,(h5 e he).2⟩⟩
theorem cK{e:Ent}{b:Nat}{D:DkM}{fp:List Nat}(h:e=eDk b D fp):e=eDk b D e.fp:=by subst h;rfl
theorem St.dk{w0 W:World}{bor:List Nat}{L:List Ent}{b:Nat}{D:DkM}{PA:Option Addr}{Pc:Nat}{GA:Option Addr}{gc:Nat}{Ps Qs:List ShT}(h:St w0 bor (L++dkL b D PA Pc GA gc Ps Qs) W)(h1:Ps.map ef=D.pgs)(h2:Qs=Ps):∃fp,St w0 bor (L++[eDk b D fp]) W:=by
 refine⟨_,St.pack (E:=eDk b D ((dkL b D PA Pc GA gc Ps Qs).flatMap (·.fp))) h rfl ⟨PA,Pc,GA,gc,Ps,Qs,h1,h2,rfl,(List.pairwise_append.1 h.apart).2.1,fun e he=>?_⟩ (dS _ _ _)⟩
 have h3:=h.ok e (List.mem_append_right _ he)
 exact⟨h3.holds,h3.loc⟩
def lH(W:World)(A:Option Addr)(s:ByteArray):Prop:=(A=none/\s=⟨#[]⟩)\/∃g,A=some ⟨g,0,none⟩/\g<W.heap.size/\At W A ((bq s).map (Value.int .u8))
structure DkO (W:World) (b:Nat) (D:DkM) (PA:Option Addr) (Pc:Nat) (GA:Option Addr) (gc:Nat) (Ps:List ShT):Prop where
 blk:Blk W b 100 (dkC D PA Pc GA gc)
 at_:At W PA (Ps.flatMap shC)
 ab:Ps.map ef=D.pgs
 log:lH W GA D.log
 ws:∀p∈Ps,At W p.A (p.ws.flatMap hvC)
def jt(W:World)(b:Nat)(D:DkM):Prop:=∃PA Pc GA gc Ps,DkO W b D PA Pc GA gc Ps
theorem lH.ext{W W':World}{A:Option Addr}{s:ByteArray}(h:lH W A s)(hx:Ext W W'):lH W' A s:=h.imp id fun⟨g,h1,h2,h3⟩=>⟨g,h1,Nat.lt_of_lt_of_le h2 hx.size,h3.ext hx⟩
theorem DkO.ext{W W':World}{b:Nat}{D:DkM}{PA:Option Addr}{Pc:Nat}{GA:Option Addr}{gc:Nat}{Ps:List ShT}(h:DkO W b D PA Pc GA gc Ps)(hx:Ext W W'):DkO W' b D PA Pc GA gc Ps:=⟨h.blk.ext hx,h.at_.ext hx,h.ab,h.log.ext hx,fun p hp=>(h.ws p hp).ext hx⟩
theorem lH.own{W:World}{A:Option Addr}{c:Nat}{s:ByteArray}{base:Nat}{e:TypeId}(h:W.ownsRow base e 1 (.slice A s.size c) s.size ((bq s).map (Value.int .u8))):lH W A s:=by
 have hlt:=h.lt
 rcases h.2 with ⟨hv,h0⟩|⟨g,cap,cur,hv,_⟩
 injection hv with h1 h2 h3
 refine .inl ⟨h1,g9 ?_⟩
 have:(bl s).length=0:=by rw[bS];omega
 rw[List.eq_nil_of_length_eq_zero this];rfl
 injection hv with h1 h2 h3
 exact .inr ⟨g,h1,(hlt g (by rw[h1];rfl)).2,At.of_own h⟩
theorem fe{b:Nat}{D:DkM}{fp:List Nat}{W:World}(h:(eDk b D fp).holds W):jt W b D:=by
 obtain⟨PA,Pc,GA,gc,Ps,Qs,h1,h2,h3,h4,h5⟩:=h
 refine⟨PA,Pc,GA,gc,Ps,(h5 (eB b 100 (dkC D PA Pc GA gc)) (List.mem_cons_self ..)).1,?_,h1,?_,fun p hp=>DX (h5 (eWs Qs) (by simp[dkL])).1 (by rw[h2];exact hp)⟩
 exact At.of_ownN (h5 (eO 144 513 (.slice PA D.pgs.length Pc) D.pgs.length (Ps.flatMap shC)) (by simp[dkL])).1
 exact lH.own (h5 (eO 5 1 (.slice GA D.log.size gc) D.log.size ((bq D.log).map (Value.int .u8))) (by simp[dkL])).1
section
variable{P:Program}{o:Oper}{ρ:Operand->Value}{W:World}
theorem Ao{t t' e:TypeId}{x:Operand}{A:Option Addr}{c:Nat}{s:ByteArray}(h:o.op= .convert t t' x)(ht:P.underlying t=some (.slice e))(he:P.underlying e=some (.int .u8))(ht':P.underlying t'=some .string)
  (hx:ρ x= .slice A s.size c) (hA:lH W A s):(execOp ρ o).run P W= .ok (.value (.string s)) W:=by
 have hr:(convert t t' (.slice A s.size c)).run P W= .ok (.string s) W:=by
  rcases hA with ⟨rfl,rfl⟩|⟨g,rfl,hg,hA⟩
  exact run_convert_bytes_nil W t e ht he _ c t' ht'
  have h1:=run_convert_bytes_arg W t e ht he g 0 s.size c (bq s) (gO s) (fun i hi=>?_) t' ht'
  rw[su] at h1;exact h1
  obtain⟨ad,a1,a2,a3⟩:=hA i (.int .u8 ((bq s).getD i 0)) (by
   rw[List.getElem?_map,List.getD_eq_getElem?_getD,List.getElem?_eq_getElem (by rw[gO];exact hi)];rfl)
  injection a1 with a1
  subst a1
  have e2:(⟨g,0+i,none⟩:Addr)=(⟨g,0,none⟩:Addr).add i:=by simp[Addr.add]
  rw[e2];exact a3
 unfold execOp;rw[h]
 simp only[hx,Sem.run_bind,hr,Result.andThen_ok,Sem.run_pure]
end
end
section
open Go.RowKit
theorem DkO.blkL{W:World}{b:Nat}{D:DkM}{PA:Option Addr}{Pc:Nat}{GA:Option Addr}{gc:Nat}{Ps:List ShT}(h:DkO W b D PA Pc GA gc Ps):Blk W b 100 #[.slice PA D.pgs.length Pc,.slice GA D.log.size gc,.int .i64 (D.fl:Int),.bool D.off,.bool D.armed,.int .i64 D.left]:=h.blk
theorem II(b:Nat)(D:DkM)(PA:Option Addr)(Pc:Nat)(GA:Option Addr)(gc:Nat)(Ps:List ShT)(w:World)(hB:DkO w b D PA Pc GA gc Ps):
  Calls Tryz.prog 59 #[po b 0] w (Ret (.bool (!D.off)) w):=by
 go_enter Tryz.func59,Tryz.ntmps59
 have ak:=St.start w
 refine wq (sqr (sqp [.k 2 (.bool false)] ?_))
 refine aa (wq (sqr (sqp [.m 3 0] ?_)))
 refine sqv (.bool true) ak (by
   exact sv0 rfl rfl rfl rfl rfl (fun _ _ _ h=>h) fun a c W X cx=>by
    have fN:a (.tmp 3)=vp b:=(cx.ou 3)
    simp[go_sem,cx.sees.const,fN]) fun W3 aW=>?_
 refine sqp [.k 5 (.bool true)] ?_
 refine dF 5 [6,7,8,9,10] rfl rfl ?_
 refine sqp [.m 6 0,.k 7 (vp b),.k 8 (po b 3)] ?_
 refine sql (.bool D.off) aW (fun cx=>ae rfl (by kernel_rfl) (cx.ou 8) ((Blk.ext hB.blkL cx.upd.to_ext).cell 3)) ?_
 refine sqp [.k 10 (.bool (!(D.off)))] ?_
 refine sqp [.k 11 (.bool (!(D.off))),.m 2 11] ?_
 refine aa (wp_ret ?_)
 refine bpr (.bool (!(D.off))) (ag Tryz.results59 rpt) ?_
 exact Ret.bool (by simp) aW.ext
theorem IQ(b:Nat)(D:DkM)(PA:Option Addr)(Pc:Nat)(GA:Option Addr)(gc:Nat)(Ps:List ShT)(n:Int)(w:World)(hB:DkO w b D PA Pc GA gc Ps):
  Calls Tryz.prog 87 #[po b 0,.int .i64 n] w (Ret (.bool (decide (0<=n)&&decide (n<(D.pgs.length:Int)))) w):=by
 go_enter Tryz.func87,Tryz.ntmps87
 have ak:=St.start w
 refine wq (sqr (sqp [.k 4 (.bool false)] ?_))
 refine aa (wq (sqr (sqp [.m 5 0] ?_)))
 refine sqv (.bool true) ak (by
   exact sv0 rfl rfl rfl rfl rfl (fun _ _ _ h=>h) fun a c W X cx=>by
    have qT:a (.tmp 5)=vp b:=(cx.ou 5)
    simp[go_sem,cx.sees.const,qT]) fun W3 aW=>?_
 refine sqp [.k 7 (.bool true)] ?_
 refine dF 7 [8,9] rfl rfl ?_
 refine sqp [.m 8 1,.k 9 (.bool (decide (0<=n)))] ?_
 refine sqp [.k 10 (.bool (decide (0<=n))),.m 11 10] ?_
 refine d5 11 [12,13,14,15,16,17,18] ?_ rfl (fun hq=>?_) ?_
 rotate_left
 refine sqp [.m 12 1,.m 13 0,.k 14 (vp b),.k 15 (vp b)] ?_
 refine sql (.slice PA D.pgs.length Pc) aW (fun cx=>ae rfl (by kernel_rfl) (cx.ou 15) ((Blk.ext hB.blkL cx.upd.to_ext).cell 0)) ?_
 refine sqp [.k 17 (vi ((D.pgs.length:Int))),.k 18 (.bool (decide (n<(D.pgs.length:Int))))] ?_
 exact sqe
 refine c8 ?_
 refine sqp [sPa 19 (decide (0<=n)) (decide (n<(D.pgs.length:Int))),.m 4 19] ?_
 refine aa (wp_ret ?_)
 refine bpr (.bool ((decide (0<=n))&&(decide (n<(D.pgs.length:Int))))) (ag Tryz.results87 rpt) ?_
 exact Ret.bool (by simp) aW.ext
theorem Gw(b:Nat)(D:DkM)(PA:Option Addr)(Pc:Nat)(GA:Option Addr)(gc:Nat)(Ps:List ShT)(w:World)(hB:DkO w b D PA Pc GA gc Ps):
  Calls Tryz.prog 66 #[po b 0] w (Ret (.int .i64 (D.pgs.length:Int)) w):=by
 go_enter Tryz.func66,Tryz.ntmps66
 have ak:=St.start w
 refine wq (sqr (sqp [.k 2 (vi 0)] ?_))
 refine aa (wq (wq (sqr (sqp [.m 3 0] ?_))))
 refine sqv (.bool false) ak (by
   exact sv0 rfl rfl rfl rfl rfl (fun _ _ _ h=>h) fun a c W X cx=>by
    have fN:a (.tmp 3)=vp b:=(cx.ou 3)
    simp[go_sem,cx.sees.const,fN]) fun W3 aW=>?_
 refine aa (wcf rfl (wp_skip (aa (wq (sqr (sqp [.m 5 0,.k 6 (vp b),.k 7 (vp b)] ?_))))))
 refine sql (.slice PA D.pgs.length Pc) aW (fun cx=>ae rfl (by kernel_rfl) (cx.ou 7) ((Blk.ext hB.blkL cx.upd.to_ext).cell 0)) ?_
 refine sqp [.k 9 (vi ((D.pgs.length:Int))),.m 2 9] ?_
 refine aa (wp_ret ?_)
 refine bpr (vi ((D.pgs.length:Int))) (ag Tryz.results66 rpt) ?_
 exact Ret.of rfl aW.ext
theorem Ch(b:Nat)(D:DkM)(PA:Option Addr)(Pc:Nat)(GA:Option Addr)(gc:Nat)(Ps:List ShT)(w:World)(hB:DkO w b D PA Pc GA gc Ps):
  Calls Tryz.prog 68 #[po b 0] w (Ret (.int .i64 (D.fl:Int)) w):=by
 go_enter Tryz.func68,Tryz.ntmps68
 have ak:=St.start w
 refine wq (sqr (sqp [.k 2 (vi 0)] ?_))
 refine aa (wq (wq (sqr (sqp [.m 3 0] ?_))))
 refine sqv (.bool false) ak (by
   exact sv0 rfl rfl rfl rfl rfl (fun _ _ _ h=>h) fun a c W X cx=>by
    have fN:a (.tmp 3)=vp b:=(cx.ou 3)
    simp[go_sem,cx.sees.const,fN]) fun W3 aW=>?_
 refine aa (wcf rfl (wp_skip (aa (wq (sqr (sqp [.m 5 0,.k 6 (vp b),.k 7 (po b 2)] ?_))))))
 refine sql (vi ((D.fl:Int))) aW (fun cx=>ae rfl (by kernel_rfl) (cx.ou 7) ((Blk.ext hB.blkL cx.upd.to_ext).cell 2)) ?_
 refine sqp [.m 2 8] ?_
 refine aa (wp_ret ?_)
 refine bpr (vi ((D.fl:Int))) (ag Tryz.results68 rpt) ?_
 exact Ret.of rfl aW.ext
theorem KR(b:Nat)(D:DkM)(PA:Option Addr)(Pc:Nat)(GA:Option Addr)(gc:Nat)(Ps:List ShT)(w:World)(hB:DkO w b D PA Pc GA gc Ps):
  Calls Tryz.prog 15 #[po b 0] w (Ret (.string D.log) w):=by
 go_enter Tryz.func15,Tryz.ntmps15
 have ak:=St.start w
 refine wq (sqr (sqp [.k 2 (.string ⟨#[]⟩)] ?_))
 refine aa (wq (wq (sqr (sqp [.m 3 0] ?_))))
 refine sqv (.bool false) ak (by
   exact sv0 rfl rfl rfl rfl rfl (fun _ _ _ h=>h) fun a c W X cx=>by
    have fN:a (.tmp 3)=vp b:=(cx.ou 3)
    simp[go_sem,cx.sees.const,fN]) fun W3 aW=>?_
 refine aa (wcf rfl (wp_skip (aa (wq (sqr (sqp [.m 5 0,.k 6 (vp b),.k 7 (po b 1)] ?_))))))
 refine sql (.slice GA D.log.size gc) aW (fun cx=>ae rfl (by kernel_rfl) (cx.ou 7) ((Blk.ext hB.blkL cx.upd.to_ext).cell 1)) ?_
 refine sql (.string D.log) aW (fun cx=>Ao (e:=5) rfl (by kernel_rfl) (by kernel_rfl) (by kernel_rfl) (cx.ou 8) (hB.log.ext cx.upd.to_ext)) ?_
 refine sqp [.m 2 9] ?_
 refine aa (wp_ret ?_)
 refine bpr (.string D.log) (ag Tryz.results15 rpt) ?_
 exact Ret.of rfl aW.ext
theorem l9(b:Nat)(D:DkM)(w:World)(h:jt w b D):Calls Tryz.prog 59 #[po b 0] w (Ret (.bool (!D.off)) w):=by
 obtain⟨PA,Pc,GA,gc,Ps,h1⟩:=h
 exact II b D PA Pc GA gc Ps w h1
theorem JS(b:Nat)(D:DkM)(n:Int)(w:World)(h:jt w b D):Calls Tryz.prog 87 #[po b 0,.int .i64 n] w (Ret (.bool (decide (0<=n)&&decide (n<(D.pgs.length:Int)))) w):=by
 obtain⟨PA,Pc,GA,gc,Ps,h1⟩:=h
 exact IQ b D PA Pc GA gc Ps n w h1
theorem B7(b:Nat)(D:DkM)(w:World)(h:jt w b D):Calls Tryz.prog 66 #[po b 0] w (Ret (.int .i64 (D.pgs.length:Int)) w):=by
 obtain⟨PA,Pc,GA,gc,Ps,h1⟩:=h
 exact Gw b D PA Pc GA gc Ps w h1
theorem xM(b:Nat)(D:DkM)(w:World)(h:jt w b D):Calls Tryz.prog 68 #[po b 0] w (Ret (.int .i64 (D.fl:Int)) w):=by
 obtain⟨PA,Pc,GA,gc,Ps,h1⟩:=h
 exact Ch b D PA Pc GA gc Ps w h1
theorem jz(b:Nat)(D:DkM)(w:World)(h:jt w b D):Calls Tryz.prog 15 #[po b 0] w (Ret (.string D.log) w):=by
 obtain⟨PA,Pc,GA,gc,Ps,h1⟩:=h
 exact KR b D PA Pc GA gc Ps w h1
end
section
open Go.RowKit
def cV(n:Int):Int:=IntKind.i64.wrap (n-1)
def opD(D:DkM)(er:Int)(D2:DkM->DkM):DkM×Int:=if D.off=true then (D,24) else if er≠0 then (D,er) else if D.armed=true/\D.left<=0 then ({D with off:=true},24) else (D2 {D with left:=cV D.left},0)
def apE(D:DkM)(s:ByteArray):Int:=if 1048576<(D.log.size:Int)+(s.size:Int) then 31 else 0
def apD(s:ByteArray)(D:DkM):DkM:={D with log:=D.log++s}
def flD(D:DkM):DkM:={D with fl:=D.log.size}
def bU(b:Nat)(R:DkM×Int)(fp:List Nat)(w:World)(e:Ending)(w':World):Prop:=e= .returned (.int .i64 R.2)/\∃fp',St w fp [eDk b R.1 fp'] w'
def mc(b:Nat)(D:DkM)(fp:List Nat)(w:World)(e:Ending)(w':World):Prop:=e= .returned (.tuple #[])/\∃fp',St w fp [eDk b D fp'] w'
theorem rB{v v':Bool}{f:FuncId}{args:Array Value}{w:World}(h:v=v')(hc:Calls Tryz.prog f args w (Ret (.bool v) w)):Calls Tryz.prog f args w (Ret (.bool v') w):=h ▸ hc
theorem bU.of{b:Nat}{R R':DkM×Int}{fp fp':List Nat}{w w':World}(h:R=R')(hs:St w fp [eDk b R'.1 fp'] w'):bU b R fp w (.returned (.int .i64 R'.2)) w':=by
 subst h;exact⟨rfl,_,hs⟩
section
variable{ops:Array Oper}{L:List Nat}{a0:Act}{w0:World}{bor:List Nat}{X0:List Ent}{us:List (List Nat)}
 {D:Nat->(Tmp->Value)->(Tmp->Value)->(Nat->Ent)->Prop}{i:Nat}{ρ:Operand->Value}{β:Tmp->Value}{W:World}{X:Nat->Ent}
theorem CtxV.notin{q k:Nat}{E:Ent}(cx:CtxV ops L a0 w0 bor X0 us D i ρ β W X)(hX:X q=E)(hu:(atV us i).contains q=true)(hn:k∉bor)(hlt:k<w0.heap.size):k∉E.fp:=fun hk=>by
 have h:=((cx.ok q hu).own k (by rw[hX];exact hk)).1
 rcases h with h|h
 exact hn h
 omega
end
theorem Tryz.infoU8J:(Tryz.prog.info? 5).map (fun i=>(i.zero,i.size,i.bytes))=some (some (.int .u8 0),1,1):=by kernel_rfl
theorem Kw(a s:ByteArray):(bq a).map (Value.int .u8)++Lib.strCells s=(bq (a++s)).map (Value.int .u8):=by rw[BO,xO,List.map_append]
theorem St.with2{w:World}{bor:List Nat}{L:List Ent}{b2 t2 b3 t3:Nat}{c2 c3:Array Value}(h:St w bor L w)(h2:Blk w b2 t2 c2)(h3:Blk w b3 t3 c3)(n2:b2∉bor)(n3:b3∉bor)(uR:b2≠b3)(hL:∀e∈L,∀k∈e.fp,k∈bor):St w (b2::b3::bor) (L++[eB b2 t2 c2,eB b3 t3 c3]) w:=by
 refine⟨Upd.refl _ _,fun x hx=>?_,?_⟩
 rcases List.mem_append.1 hx with hx|hx
 have h4:=h.ok x hx
 exact⟨h4.holds,h4.loc,fun k hk=>⟨(h4.own k hk).1.imp (fun z=>by simp[z]) id,(h4.own k hk).2⟩⟩
 simp only[List.mem_cons,List.not_mem_nil,or_false] at hx
 rcases hx with rfl|rfl
 exact⟨h2,d7 _ _ _,fun k hk=>⟨.inl (by simp[eB] at hk;simp[hk]),by simp[eB] at hk;subst hk;exact h2.lt⟩⟩
 exact⟨h3,d7 _ _ _,fun k hk=>⟨.inl (by simp[eB] at hk;simp[hk]),by simp[eB] at hk;subst hk;exact h3.lt⟩⟩
 refine List.pairwise_append.2 ⟨h.apart,List.pairwise_pair.2 fun k hk hk2=>by simp[eB] at hk hk2;omega,fun x hx y hy k hk hk2=>?_⟩
 have h5:=hL x hx k hk
 simp only[List.mem_cons,List.not_mem_nil,or_false] at hy
 rcases hy with rfl|rfl
 simp[eB] at hk2;subst hk2;exact n2 h5
 simp[eB] at hk2;subst hk2;exact n3 h5
theorem St.less2{w W:World}{bor:List Nat}{L:List Ent}{b2 t2 b3 t3:Nat}{c2 c3:Array Value}(h:St w (b2::b3::bor) (L++[eB b2 t2 c2,eB b3 t3 c3]) W)(h2:Blk w b2 t2 c2)(h3:Blk w b3 t3 c3):St w bor L W:=by
 have k2:Blk W b2 t2 c2:=(h.ok (eB b2 t2 c2) (by simp)).holds
 have k3:Blk W b3 t3 c3:=(h.ok (eB b3 t3 c3) (by simp)).holds
 have ha:=List.pairwise_append.1 h.apart
 refine⟨⟨h.upd.os,h.upd.tape,h.upd.output,h.upd.size,fun k hk hn=>?_⟩,fun x hx=>?_,ha.1⟩
 by_cases e2:k=b2
 subst e2;exact k2.trans h2.symm
 by_cases e3:k=b3
 subst e3;exact k3.trans h3.symm
 exact h.upd.block k hk (by simp;exact⟨e2,e3,hn⟩)
 have h4:=h.ok x (List.mem_append_left _ hx)
 refine⟨h4.holds,h4.loc,fun k hk=>⟨?_,(h4.own k hk).2⟩⟩
 have n2:k≠b2:=fun e=>ha.2.2 x hx (eB b2 t2 c2) (by simp) k hk (by simp[eB,e])
 have n3:k≠b3:=fun e=>ha.2.2 x hx (eB b3 t3 c3) (by simp) k hk (by simp[eB,e])
 rcases(h4.own k hk).1 with h5|h5
 simp only[List.mem_cons] at h5
 rcases h5 with h5|h5|h5
 exact absurd h5 n2
 exact absurd h5 n3
 exact .inl h5
 exact .inr h5
theorem Lv(b b2 b3:Nat)(D:DkM)(s:ByteArray)(PA:Option Addr)(Pc:Nat)(GA:Option Addr)(gc:Nat)(Ps:List ShT)(w:World)(hB:DkO w b D PA Pc GA gc Ps)(h2:Blk w b2 30 #[po b 0])(h3:Blk w b3 9 #[.string s])(hz:D.log.size<=10000000)(hz2:s.size<=10000000):
  Calls Tryz.prog 129 #[po b2 0,po b3 0] w (Ret (.int .i64 (apE D s)) w):=by
 go_enter Tryz.func129,Tryz.ntmps129
 have ak:=St.start w
 refine wq (sqr (sqp [.k 2 (vi 0)] ?_))
 refine aa (wq (wq (bL [0,1,3,7,15,0,32,127,255] [] [.c 3 (vp b),.k 4 (vp b),.k 5 (po b 1),.c 6 (.slice GA D.log.size gc),.k 7 (vi ((D.log.size:Int))),.c 8 (.string s),.k 9 (vi ((s.size:Int))),tI 10 ((D.log.size:Int)+(s.size:Int)) (by omega),.k 11 (.bool (decide (1048576<(D.log.size:Int)+(s.size:Int))))] [] [0,3,5] [(3,0,9,12)] ak ?_ fun W2 bE=>?_)))
 refine⟨?_,?_,?_,trivial⟩
 exact xs4 rfl id fun cx=>ae rfl (by kernel_rfl) (cx.ou 0) ((Blk.ext h2 cx.upd.to_ext).cell 0)
 exact xs4 rfl id fun cx=>ae rfl (by kernel_rfl) (cx.an 2) ((Blk.ext hB.blkL cx.upd.to_ext).cell 1)
 exact xs4 rfl id fun cx=>ae rfl (by kernel_rfl) (cx.ou 1) ((Blk.ext h3 cx.upd.to_ext).cell 0)
 refine aa (wds (fun uS vT=>?_) fun uS vT=>?_)
 refine wq (sqr (sqp [.k 2 (vi 31)] ?_))
 refine aa (wp_ret (ai ?_))
 refine bpr (vi 31) (ag Tryz.results129 rpt) ?_
 exact Ret.int (by rw[apE,if_pos (of_decide_eq_true uS)]) bE.ext
 refine wp_skip (aa (wq (sqr (sqp [.k 2 (vi 0)] ?_))))
 refine aa (wp_ret ?_)
 refine bpr (vi 0) (ag Tryz.results129 rpt) ?_
 exact Ret.int (by rw[apE,if_neg (of_decide_eq_false uS)]) bE.ext
theorem Gb(b b2 b3:Nat)(D:DkM)(s:ByteArray)(fp:List Nat)(w:World)(hB:(eDk b D fp).holds w)(hlt:∀k∈fp,k<w.heap.size)(h2:Blk w b2 30 #[po b 0])(h3:Blk w b3 9 #[.string s])(n2:b2∉fp)(n3:b3∉fp)(uR:b2≠b3)(hz:D.log.size<=10000000)(hz2:s.size<=10000000):
  Calls Tryz.prog 130 #[po b2 0,po b3 0] w (mc b (apD s D) fp w):=by
 have st1:=St.lend hB (dS _ _ _) hlt
 obtain⟨PA,Pc,GA,gc,Ps,Qs,hps,hsub,hfp,hap,hall⟩:=hB
 have st0:=St.unpack st1 hfp hall hap
 have st2:St w (b2::b3::fp) [eB b 100 #[.slice PA D.pgs.length Pc,.slice GA D.log.size gc,.int .i64 ((D.fl:Int)),.bool D.off,.bool D.armed,.int .i64 D.left],eO 144 513 (.slice PA D.pgs.length Pc) D.pgs.length (Ps.flatMap shC),eO 5 1 (.slice GA D.log.size gc) D.log.size ((bq D.log).map (Value.int .u8)),eWs Qs,eB b2 30 #[po b 0],eB b3 9 #[.string s]] w:=St.with2 st0 h2 h3 n2 n3 uR (fun e he k hk=>by rw[show fp=(eDk b D fp).fp from rfl,show (eDk b D fp).fp= _ from hfp];exact List.mem_flatMap.2 ⟨e,he,hk⟩)
 go_enter Tryz.func130,Tryz.ntmps130
 have ak:=st2
 refine aE [0,0,2,6,14,0,62,127,255,511] [[4],[4],[],[],[0],[5],[2],[],[],[0]] [[],[],[],[],[],[],[6],[],[],[7]] [[],[],[],[],[],[],[2],[],[],[0]] [.c 2 (vp b),.c 3 (vp b),.k 4 (vp b),.k 5 (po b 1),.c 6 (.slice GA D.log.size gc),.c 7 (.string s),.a 8,.k 9 (vp b),.k 10 (po b 1),.n] (fun ix f d X=>match ix with|0|1|2|3|4|5=>True|6=>f 8= .slice (sA (d 8)) (D.log.size+s.size) (sC (d 8))/\X 6=eO 5 1 (.slice (sA (d 8)) (D.log.size+s.size) (sC (d 8))) (D.log.size+s.size) ((bq (D.log++s)).map (Value.int .u8))|7|8=>True|9=>X 7=eB b 100 #[.slice PA D.pgs.length Pc,.slice (sA (d 8)) (D.log.size+s.size) (sC (d 8)),vi ((D.fl:Int)),.bool D.off,.bool D.armed,vi D.left]|_=>True) [1,3,4,5,6,7] [0,1,4,5,6,9] [(2,0,9,11)] ak ?_ ?_ ?_
 exact fun ix _ _ _ _ _ _ hs hb hx h=>match ix,h with
 |6,h=>by dsimp only;rw[<-hs 8 rfl,<-hb 8 rfl,<-hx 6 rfl];exact h
 |9,h=>by dsimp only;rw[<-hb 8 rfl,<-hx 7 rfl];exact h
 |0,_|1,_|2,_|3,_|4,_|5,_|7,_|8,_|_+10,_=>trivial
 refine⟨?_,?_,?_,?_,?_,?_,trivial⟩
 exact xs4 rfl id fun cx=>ae rfl (by kernel_rfl) (cx.ou 0) ((cx.bi 4 rfl).cell 0)
 exact xs4 rfl id fun cx=>ae rfl (by kernel_rfl) (cx.ou 0) ((cx.bi 4 rfl).cell 0)
 exact xs4 rfl id fun cx=>ae rfl (by kernel_rfl) (cx.an 3) ((cx.bi 0 rfl).cell 1)
 exact xs4 rfl id fun cx=>ae rfl (by kernel_rfl) (cx.ou 1) ((cx.bi 5 rfl).cell 0)
 refine svA fun i d W X cx=>?_
 obtain⟨i0,hi0,hz0,hz1,hz2⟩:=info_parts Tryz.infoU8J
 refine yj (n:=D.log.size) (nm:=D.log.size+s.size) (xs:=(bq D.log).map (Value.int .u8)) (xs':=(bq (D.log++s)).map (Value.int .u8)) rfl (by kernel_rfl) (by kernel_rfl) hi0 hz0 hz1 hz2 (cx.an 4) cx (cx.init 2 _ rfl) rfl (cx.an 5) (by simp only[maxLen];omega) (by omega) rfl rfl rfl (by omega) ((Kw D.log s)) (fun f g X' hs hb hv hx=>?_)
 exact⟨hv,hx⟩
 refine svA fun i d W X cx=>?_
 exact bv (n:=1) rfl (cx.an 8) (dTn (cx.an 6)).1 (by kernel_rfl) (by kernel_rfl) (by kernel_rfl) cx (cx.init 0 _ rfl) rfl (nle rfl) (by kernel_rfl) rfl rfl rfl (fun f g X' hs hb hx=>by rw[hb 8];exact hx)
 intro f d X W1 hD aB fr aD
 simp only[exq 6 ((dTn (hD 6 lq)).2),exq 7 ((dTn (hD 9 lq)))] at aB
 simp only[ed 8 ((dTn (hD 6 lq)).1)] at aD
 generalize sA (d 8)=Ii,sC (d 8)=Ij at aB aD
 clear hD;subst aD;clear f d X
 refine bpe (.tuple #[]) (by simp[results,Tryz.results130,go_sem]) ?_
 have hl_:=St.less2 (L:=[eB b 100 #[.slice PA D.pgs.length Pc,.slice Ii (D.log.size+s.size) Ij,vi ((D.fl:Int)),.bool D.off,.bool D.armed,vi D.left],eO 144 513 (.slice PA D.pgs.length Pc) D.pgs.length (Ps.flatMap shC),eO 5 1 (.slice Ii (D.log.size+s.size) Ij) (D.log.size+s.size) ((bq (D.log++s)).map (Value.int .u8)),eWs Qs]) (aB.pick [5,0,4,1,2,3] (by decide) rfl) h2 h3
 rw[show D.log.size+s.size=(D.log++s).size from ByteArray.size_append.symm] at hl_
 exact⟨rfl,St.dk (L:=[]) (D:=apD s D) (PA:=PA) (Pc:=Pc) (GA:=Ii) (gc:=Ij) hl_ hps hsub⟩
theorem Gg(b b2 b3:Nat)(D:DkM)(s:ByteArray)(w:World)(hB:jt w b D)(h2:Blk w b2 30 #[po b 0])(h3:Blk w b3 9 #[.string s])(hz:D.log.size<=10000000)(hz2:s.size<=10000000):Calls Tryz.prog 129 #[po b2 0,po b3 0] w (Ret (.int .i64 (apE D s)) w):=by
 obtain⟨PA,Pc,GA,gc,Ps,h1⟩:=hB
 exact Lv b b2 b3 D s PA Pc GA gc Ps w h1 h2 h3 hz hz2
theorem Ei(b b2 b3:Nat)(D:DkM)(s:ByteArray)(fp:List Nat)(w:World)(hB:(eDk b D fp).holds w)(hlt:∀k∈fp,k<w.heap.size)(h2:Blk w b2 30 #[po b 0])(h3:Blk w b3 9 #[.string s])(n2:b2∉fp)(n3:b3∉fp)(uR:b2≠b3)(hz:D.log.size<=10000000)(hz2:s.size<=10000000):
  Calls Tryz.prog 126 #[po b 0,.func (.func 129) #[] #[po b2 0,po b3 0],.func (.func 130) #[] #[po b2 0,po b3 0]] w (bU b (opD D (apE D s) (apD s)) fp w):=by
 have st1:St w fp [eDk b D fp] w:=St.lend hB (dS _ _ _) hlt
 go_enter Tryz.func126,Tryz.ntmps126
 have ak:=st1
 refine wq (sqr (sqp [.k 6 (vi 0)] ?_))
 refine aa (wq (wq ?_))
 obtain⟨onv,hon⟩:∃z,(!D.off)=z:=⟨_,rfl⟩
 refine sqr (sqp [.m 8 0] ?_)
 refine sqk (.bool onv) ak (fun cx=>⟨_,rB hon (l9 b D _ (fe (CtxV.holdF cx (cx.init 0 _ rfl) rfl))),(aw (cx.ou 8))⟩) fun W3 aW=>?_
 refine sqp [.k 10 (.bool (!(onv)))] ?_
 refine aa ?_
 rcases Bool.eq_false_or_eq_true (onv) with eX|eX
 ·refine wp_cond_false (show Act.eval _ _= .bool false from(congrArg Value.bool (by rw[eX];rfl))) (wp_skip (aa (wq (wq (sqr (sqp [.m 11 1] ?_))))))
  refine sqv (vi ((apE D s))) aW (ik rfl rfl rfl rfl rfl (fun _ _ _ h=>h) fun c a W X cx=>⟨_,_,cN (f:=129) (args:=#[]) (args':=#[vp b2,vp b3]) rfl rfl (cx.ou 11) (by kernel_rfl) jc rfl,Gg b b2 b3 D s _ (fe (CtxV.holdF cx (cx.init 0 _ rfl) rfl)) (h2.upd cx.upd n2) (h3.upd cx.upd n3) hz hz2⟩) fun W7 aZ=>?_
  refine sqp [.m 7 12] ?_
  refine aa (wq (sqr (sqp [.m 13 7,.k 14 (.bool ((apE D s) != 0))] ?_)))
  refine aa (wbs (fun dq=>?_) fun dq=>?_)
  have gY:=bne_iff_ne.1 dq
  refine wq (sqr (sqp [.m 15 7,.m 6 15] ?_))
  refine aa (wp_ret (ai ?_))
  refine bpr (vi ((apE D s))) (ag Tryz.results126 rpt) ?_
  exact bU.of (R':=(D,apE D s)) (by rw[opD,if_neg (by have h_:=hon.trans eX;simpa using h_),if_pos (by simpa using dq)]) aZ
  have gY:=bne_eq_false_iff_eq.1 dq
  refine wp_skip (aa (wq (wq ?_)))
  have hD_:(eDk b D fp).holds W7:=(aZ.ok _ (List.mem_singleton.2 rfl)).holds
  obtain⟨PA,Pc,GA,gc,Ps,Qs,hps,hsub,hfp,hap,hall⟩:=hD_
  have go:St w fp [eB b 100 #[.slice PA D.pgs.length Pc,.slice GA D.log.size gc,vi ((D.fl:Int)),.bool D.off,.bool D.armed,vi D.left],eO 144 513 (.slice PA D.pgs.length Pc) D.pgs.length (Ps.flatMap shC),eO 5 1 (.slice GA D.log.size gc) D.log.size ((bq D.log).map (Value.int .u8)),eWs Qs] W7:=St.unpack aZ hfp hall hap
  refine sqr (sqp [.m 16 0,.k 17 (vp b),.k 18 (po b 4)] ?_)
  refine au 0 go ?_
  refine sqp [.m 20 19] ?_
  refine d5 20 [21,22,23,24,25] ?_ rfl (fun hq=>?_) ?_
  rotate_left
  refine sqp [.m 21 0,.k 22 (vp b),.k 23 (po b 5)] ?_
  refine au 0 go ?_
  refine sqp [.k 25 (.bool (decide (D.left<=0)))] ?_
  exact sqe
  refine c8 ?_
  refine sqp [sPa 26 D.armed (decide (D.left<=0))] ?_
  refine aa (wbs (fun fh=>?_) fun fh=>?_)
  have fc:=fh
  simp only[zB] at fc
  obtain⟨zz,zA⟩:=fc
  refine wq (sqr (sqp [.m 27 0,.k 28 (vp b),.k 29 (po b 3)] ?_))
  refine aY (n:=1) 0 #[.slice PA D.pgs.length Pc,.slice GA D.log.size gc,vi ((D.fl:Int)),.bool true,.bool D.armed,vi D.left] go fun Fk jp=>?_
  refine aa (wq (sqr (sqp [.k 6 (vi 24)] ?_)))
  refine aa (wp_ret (ai ?_))
  refine bpr (vi 24) (ag Tryz.results126 rpt) ?_
  obtain⟨fp2,hk_⟩:=St.dk (L:=[]) (D:={D with off:=true}) (PA:=PA) (Pc:=Pc) (GA:=GA) (gc:=gc) (jp.pick [0,1,2,3] (by decide) rfl) hps hsub
  exact bU.of (R':=({D with off:=true},24)) (by rw[opD,if_neg (by have h_:=hon.trans eX;simpa using h_),if_neg (by simpa using dq),if_pos (by simpa using fh)]) hk_
  have fc:=fh
  simp only[zB] at fc
  refine wp_skip (aa (wq (sqr (sqp [.m 30 0,.k 31 (vp b),.k 32 (po b 5)] ?_))))
  refine au 0 go ?_
  refine sqp [.k 34 (vi ((cV D.left))),.k 35 (vp b),.k 36 (po b 5)] ?_
  refine aY (n:=1) 0 #[.slice PA D.pgs.length Pc,.slice GA D.log.size gc,vi ((D.fl:Int)),.bool D.off,.bool D.armed,vi ((cV D.left))] go fun qM du=>?_
  refine aa (wq ?_)
  obtain⟨D1,hD1⟩:∃z,({D with left:=cV D.left}:DkM)=z:=⟨_,rfl⟩
  obtain⟨fp2,hk_40⟩:=St.dk (L:=[]) (D:={D with left:=cV D.left}) (PA:=PA) (Pc:=Pc) (GA:=GA) (gc:=gc) (du.pick [0,1,2,3] (by decide) rfl) hps hsub
  simp only[List.nil_append] at hk_40
  rw[hD1] at hk_40
  have hz1:D1.log.size<=10000000:=by rw[<-hD1];exact hz
  refine sqr (sqp [.m 37 2] ?_)
  refine bN (fun X_=>X_.fp) (.tuple #[]) (fun nq=>eDk b (apD s D1) nq) 0 hk_40 (by
    refine svA fun c a W X cx=>?_
    refine am.call (cN (f:=130) (args:=#[]) (args':=#[vp b2,vp b3]) rfl rfl (cx.ou 37) (by kernel_rfl) jc rfl) ?_
    refine(Gb b b2 b3 D1 s _ _ (CtxV.holdF cx (cx.init 0 _ rfl) rfl) (CtxV.ltF cx (cx.init 0 _ rfl) rfl) (h2.upd cx.upd n2) (h3.upd cx.upd n3) (CtxV.notin cx (cx.init 0 _ rfl) rfl n2 h2.lt) (CtxV.notin cx (cx.init 0 _ rfl) rfl n3 h3.lt) uR hz1 hz2).mono ?_
    rintro e W1 ⟨rfl,fp4,aQ⟩
    refine⟨_,rfl,aK (E:=eDk b D1 fp2) [eDk b (apD s D1) fp4] (cx.init 0 _ rfl) rfl rfl aQ (fun d g X' hs hb hv hN=>?_)⟩
    have aJ:=(hv 38 rfl).1;have aR:=(hv 38 rfl).2
    exact⟨aJ.trans rfl,cK ((List.cons.inj hN).1)⟩) fun nq sh cS=>?_
  refine aa (wq (sqr (sqp [.k 6 (vi 0)] ?_)))
  refine aa (wp_ret ?_)
  refine bpr (vi 0) (ag Tryz.results126 rpt) ?_
  exact bU.of (R':=(apD s D1,0)) (by rw[opD,if_neg (by have h_:=hon.trans eX;simpa using h_),if_neg (by simpa using dq),if_neg (by have h_:=fh;intro h2_;simp[h2_.1,h2_.2] at h_),hD1]) cS
 refine wp_cond_true (show Act.eval _ _= .bool true from(congrArg Value.bool (by rw[eX];rfl))) (wq (sqr (sqp [.k 6 (vi 24)] ?_)))
 refine aa (wp_ret (ai ?_))
 refine bpr (vi 24) (ag Tryz.results126 rpt) ?_
 exact bU.of (R':=(D,24)) (by rw[opD,if_pos (by simpa using hon.trans eX)]) aW
theorem r6(b:Nat)(D:DkM)(s:ByteArray)(fp:List Nat)(w:World)(hB:(eDk b D fp).holds w)(hlt:∀k∈fp,k<w.heap.size)(hz:D.log.size<=10000000)(hz2:s.size<=10000000):
  Calls Tryz.prog 62 #[po b 0,.string s] w (bU b (opD D (apE D s) (apD s)) fp w):=by
 have st1:St w fp [eDk b D fp] w:=St.lend hB (dS _ _ _) hlt
 go_enter Tryz.func62,Tryz.ntmps62
 have ak:=st1
 refine wq (sqr ?_)
 refine b9 #[vp b] ak fun bB W1 aB=>?_
 refine b9 #[.string s] aB fun cX W2 bE=>?_
 refine sqp [.k 4 (vi 0)] ?_
 refine aa (wq (sqr (au 1 bE ?_)))
 refine sqv (.func (.func 129) #[] #[vp bB,vp cX]) bE (by
   exact sv0 rfl rfl rfl rfl rfl (fun _ _ _ h=>h) fun a c W X cx=>by
    have oy:a (.tmp 2)=vp bB:=(cx.ou 2)
    have fN:a (.tmp 3)=vp cX:=(cx.ou 3)
    simp[go_sem,Instr.makeFunc,oy,fN]) fun W5 aP=>?_
 refine sqv (.func (.func 130) #[] #[vp bB,vp cX]) aP (by
   exact sv0 rfl rfl rfl rfl rfl (fun _ _ _ h=>h) fun a c W X cx=>by
    have oy:a (.tmp 2)=vp bB:=(cx.ou 2)
    have fN:a (.tmp 3)=vp cX:=(cx.ou 3)
    simp[go_sem,Instr.makeFunc,oy,fN]) fun W6 bP=>?_
 refine bN (fun X_=>X_.fp) (vi ((opD D (apE D s) (apD s)).2)) (fun zC=>eDk b ((opD D (apE D s) (apD s)).1) zC) 0 bP (by
   refine svA fun a c W X cx=>?_
   refine am.call (aq (args:=#[vp b,.func (.func 129) #[] #[vp bB,vp cX],.func (.func 130) #[] #[vp bB,vp cX]]) rfl cx.sees rfl (by kernel_rfl) (dG (cx.ou 5) (cx.ou 6) (cx.ou 7))) ?_
   refine(Ei b _ _ D s _ _ (CtxV.holdF cx (cx.init 0 _ rfl) rfl) (CtxV.ltF cx (cx.init 0 _ rfl) rfl) (cx.bi 1 rfl) (cx.bi 2 rfl) (by have h_:=cx.ap 1 0 rfl rfl (by decide);rw[(cx.init 1 _ rfl),(cx.init 0 _ rfl)] at h_;exact h_ _ (List.mem_singleton.2 rfl)) (by have h_:=cx.ap 2 0 rfl rfl (by decide);rw[(cx.init 2 _ rfl),(cx.init 0 _ rfl)] at h_;exact h_ _ (List.mem_singleton.2 rfl)) (by have h_:=cx.ap 1 2 rfl rfl (by decide);rw[(cx.init 1 _ rfl),(cx.init 2 _ rfl)] at h_;intro e_;exact h_ _ (List.mem_singleton.2 rfl) (List.mem_singleton.2 e_)) hz hz2).mono ?_
   rintro e W1 ⟨rfl,fp4,aQ⟩
   refine⟨_,rfl,aK (E:=eDk b D fp) [eDk b (opD D (apE D s) (apD s)).1 fp4] (cx.init 0 _ rfl) rfl rfl aQ (fun d f X' hs hb hv hN=>?_)⟩
   have aJ:=(hv 8 rfl).1;have aR:=(hv 8 rfl).2
   exact⟨aJ.trans rfl,cK ((List.cons.inj hN).1)⟩) fun zC W7 aZ=>?_
 refine sqp [.m 4 8] ?_
 refine aa (wp_ret ?_)
 refine bpr (vi ((opD D (apE D s) (apD s)).2)) (ag Tryz.results62 rpt) ?_
 exact bU.of rfl (aZ.pick [0] (by decide) rfl)
end
end Go.Proofs.YtcdjaepgahbhfaaGreat
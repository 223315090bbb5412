import Derived.Test.YtcdjaepgahbhfaaGreatZ6
set_option linter.unusedVariables false
set_option linter.unusedSimpArgs false
set_option maxRecDepth 100000
set_option maxHeartbeats 16000000
open Go.Proofs.Tryz
open Go.Proofs.Tryz renaming prog->P_
namespace Go.Proofs.YtcdjaepgahbhfaaGreat
variable{A:Option Addr}{L:List RecM}{W w w' w0:World}{args:Array Value}{bor fp:List Nat}{bufs ep er n sl:Int}{c db i j k m sb:Nat}{cur:Int->PgS}{e:EdT}{e':Ending}{f:FuncId}{l:List EdT}{os:List Int}{p:PgS}{rs:List RcT}{rt:RcT}{s:ByteArray}{ss:List ByteArray}{told:Int->Bool}
section
open Go.RowKit
theorem wL:(⟨#[]⟩:ByteArray).toList=[]:=by rw[ByteArray.toList_eq]
theorem KI(h0:0<k)(he:((ss.getD (k-1) ByteArray.empty).toList==(⟨#[]⟩:ByteArray).toList)=true):fU ss (k-1)=fU ss k:=by
 obtain⟨j,rfl⟩:∃j,k=j+1:=⟨k-1,by omega⟩
 rw[iZ,Nat.add_sub_cancel,if_pos]
 have h1:=eq_of_beq he
 rw[Nat.add_sub_cancel] at h1
 rw[h1,wL];rfl
theorem Lo(he:(decide (0<(k:Int))&&((ss.getD (k-1) ByteArray.empty).toList==(⟨#[]⟩:ByteArray).toList))=false):fU ss k=k:=by
 cases k with
 |zero=>rfl
 |succ j=>
  rw[decide_eq_true (by omega),Bool.true_and,Nat.add_sub_cancel] at he
  rw[iZ,if_neg]
  intro h2
  rw[List.isEmpty_iff.1 h2] at he
  rw[wL] at he;exact absurd he (by decide)
theorem At.take_mapS{ls:List ByteArray}(h:At w A (ls.map Value.string))(m:Nat):At w A ((ls.take m).map Value.string):=by rw[List.map_take];exact h.take m
theorem B9(h:i<ss.length):aR (ss.take (i+1))=aR (ss.take i)+(2+(ss.getD i ByteArray.empty).size):=by rw[nB ss i h,List.getD_eq_getElem?_getD,List.getElem?_eq_getElem h];rfl
theorem Ew(h:dJ ss)(i:Nat):(ss.getD i ByteArray.empty).size<=1000000:=by
 rw[List.getD_eq_getElem?_getD]
 rcases e:ss[i]? with _|s
 exact Nat.zero_le _
 exact h.2 s (List.mem_of_getElem? e)
theorem Ek{ss:List ByteArray}(h:∀s∈ss,s.size<=400)(i:Nat):(ss.getD i ByteArray.empty).size<=400:=by
 rw[List.getD_eq_getElem?_getD]
 rcases e:ss[i]? with _|s
 exact Nat.zero_le _
 exact h s (List.mem_of_getElem? e)
theorem sy(ss:List ByteArray):cO (ae ss)=cO ss:=by rw[cO,cO,pf]
theorem C3(ss:List ByteArray):ss.take (ae ss).length=ae ss:=by rw[cn];rfl
def fX(p:PgS)(er:Int)(w:World)(e:Ending)(w':World):Prop:=∃A c,e= .returned (.agg #[.int .i64 p.1,.int .i64 p.2.1,.slice A p.2.2.length c,.int .i64 er])/\w'.ownsRow w.heap.size 9 1 (.slice A p.2.2.length c) p.2.2.length (p.2.2.map Value.string)/\Ext w w'
def pB(p:PgS)(w:World)(e:Ending)(w':World):Prop:=∃A c,e= .returned (.agg #[.int .i64 p.1,.int .i64 p.2.1,.slice A p.2.2.length c])/\w'.ownsRow w.heap.size 9 1 (.slice A p.2.2.length c) p.2.2.length (p.2.2.map Value.string)/\Ext w w'
theorem fX.zero(h:Ext w w'):fX bp er w (.returned (.agg #[.int .i64 0,.int .i64 0,sn,.int .i64 er])) w':=⟨none,0,rfl,World.ownsRow_nil _ _ _ _,h⟩
def ew(p:PgS)(e:EdT)(n:Int)(w:World):Ending->World->Prop:=if doE p e n=0 then fX (doV p e n) 0 w else fX bp (doE p e n) w
theorem ew.bad(h:doE p e n=er)(h0:er≠0)(hp:fX bp er w e' w'):ew p e n w e' w':=by
 subst h;rw[ew,if_neg h0];exact hp
theorem ew.good{q:PgS}(h:doE p e n=0)(hq:doV p e n=q)(hp:fX q 0 w e' w'):ew p e n w e' w':=by
 subst hq;rw[ew,if_pos h];exact hp
def jO(p:PgS)(sl:Int)(s:ByteArray)(w:World):Ending->World->Prop:=if di p.1 p.2.1 p.2.2 sl s=0 then fX (p.1,p.2.1,ae (aX p.2.2 sl.toNat s)) 0 w else fX bp (di p.1 p.2.1 p.2.2 sl s) w
theorem jO.bad(h:di p.1 p.2.1 p.2.2 sl s=er)(h0:er≠0)(hp:fX bp er w e' w'):jO p sl s w e' w':=by
 subst h;rw[jO,if_neg h0];exact hp
theorem jO.good{k l:Int}(h:di k l ss (m:Int) s=0)(hp:fX (k,l,ae (aX ss m s)) 0 w e' w'):jO (k,l,ss) (m:Int) s w e' w':=by
 rw[jO,if_pos h,Int.toNat_natCast];exact hp
theorem GF(he:di p.1 p.2.1 p.2.2 sl s=0)(hc:Calls P_ f args w (jO p sl s w)):Calls P_ f args w (fX (p.1,p.2.1,ae (aX p.2.2 sl.toNat s)) 0 w):=by
 rw[jO,if_pos he] at hc;exact hc
theorem Gw(he:di p.1 p.2.1 p.2.2 sl s=er)(h0:er≠0)(hc:Calls P_ f args w (jO p sl s w)):Calls P_ f args w (fX bp er w):=by
 subst he;rw[jO,if_neg h0] at hc;exact hc
theorem l3(k l:Int)(A:Option Addr)(c:Nat)(ss:List ByteArray)(w:World)(hA:At w A (ss.map Value.string))(hl:ss.length<=100000)(hc:ss.length<=c):
  Calls P_ 93 #[.agg #[.int .i64 k,.int .i64 l,.slice A ss.length c]] w (pB (k,l,ae ss) w):=by
 go_enter func93,ntmps93
 have aj:=St.start w
 refine wq (sqr ?_)
 refine bX #[vi k,vi l,.slice A ss.length c] aj fun ay W1 ax=>?_
 refine bW #[vi 0,vi 0,sn] ax fun kI W2 bA=>?_
 refine aa (wsq [.k 4 (po ay 2)] ?_)
 refine am 0 bA ?_
 refine sqp [.k 6 (vi ((ss.length:Int))),.m 3 6] ?_
 refine aa (wq (wp_block ?_))
 refine aQ (fun t_ mz az W=>∃k1:Nat,k1<=ss.length/\fU ss k1=fU ss ss.length/\mz=k1+1/\az=⟨(ovr (jv az) [(3,3,0,[vi ((k1:Int))]),(3,7,13,[])] t_).toArray,[]⟩/\St w [] [eB ay 48 #[vi k,vi l,.slice A ss.length c],eB kI 48 #[vi 0,vi 0,sn]] W) (ss.length+1) ?_ ?_
 exact⟨ss.length,Nat.le_refl _,rfl,rfl,(by kernel_rfl),bA.pk [0,1]⟩
 rintro n7 a7 W7 ⟨k1,hk,ht,rfl,hj_,aW⟩
 refine ovz hj_ fun FU=>?_
 refine wq (wsq [.m 7 3,.k 8 (.bool (decide (0<(k1:Int)))),.m 9 8] ?_)
 refine d3 9 [10,11,12,13,14,15,16] ?_ rfl (fun hq=>?_) ?_
 rotate_left
 have hq_:=of_decide_eq_true hq
 refine sqp [.k 10 (po ay 2)] ?_
 refine am 0 aW ?_
 refine sqp [.m 12 3,sI 13 ((k1:Int)-1) (by omega)] ?_
 refine sql (.pointer (some ((ad A).add ((k1-1))))) aW (fun cx=>bz (e:=9) (m:=(k1-1)) rfl (by kernel_rfl) (by kernel_rfl) (cx.ou 11) (cx.ou 13) (by omega) (by omega) (hA.ext cx.upd.to_ext) (by simp)) ?_
 refine sql (.string (ss.getD (k1-1) ByteArray.empty)) aW (fun cx=>ce rfl (by kernel_rfl) (cx.ou 14) (At.cellAd (hA.ext cx.upd.to_ext) (jz (by omega)))) ?_
 refine sqp [.k 16 (.bool ((ss.getD (k1-1) ByteArray.empty).toList==((⟨#[]⟩:ByteArray)).toList))] ?_
 exact sqe
 refine c7 ?_
 refine sqp [sPa 17 (decide (0<(k1:Int))) ((ss.getD (k1-1) ByteArray.empty).toList==((⟨#[]⟩:ByteArray)).toList)] ?_
 refine aa (wbs (fun kc=>?_) fun kc=>?_)
 have kd:=kc
 simp only[zB] at kd
 obtain⟨MM,MN⟩:=kd
 refine wp_skip (aa (wp_block (sqs [.m 18 3,sI 19 ((k1:Int)-1) (by omega),.m 3 19] ?_)))
 refine aq (aa ?_)
 rw[show ((k1:Int)-1)=((k1-1:Nat):Int) by omega]
 refine⟨((k1-1))+1,by omega,?_⟩
 exact⟨(k1-1),by omega,(KI (by omega) (by assumption)).trans ht,rfl,(by kernel_rfl),aW.pk [0,1]⟩
 have kd:=kc
 simp only[zB] at kd
 refine wp_exit (al (al (bf (aa (wq ?_)))))
 obtain rfl:k1=(ae ss).length:=by rw[cn,<-ht,Lo kc]
 refine aB [0,1,0,4,0,0,32,0,224,496,1023,2047] [[],[0],[],[0],[],[],[0],[],[],[2],[],[1]] [[],[],[],[],[2],[],[],[],[],[3],[],[4]] [[],[],[],[],[],[],[],[],[],[2],[],[1]] [.k 20 (vp ay),.c 21 (vi k),.k 22 (po ay 1),.c 23 (vi l),.a 24,.k 25 (po ay 2),.c 26 (.slice A ss.length c),.k 27 (vi (((ae ss).length:Int))),.c 28 (.slice A (((ae ss).length)) c),.a 29,.a 30,.n] (fun ix d b X=>match ix with|0|1|2|3=>True|4=>d 24= .slice (sA (b 24)) 0 0/\X 2=eO 9 1 (.slice (sA (b 24)) 0 0) 0 ([])|5|6|7|8=>True|9=>d 29= .slice (sA (b 29)) (((ae ss).length)) (sC (b 29))/\X 3=eO 9 1 (.slice (sA (b 29)) (((ae ss).length)) (sC (b 29))) (((ae ss).length)) ((ae ss).map Value.string)|10=>d 30= .agg #[vi k,vi l,.slice (sA (b 29)) (((ae ss).length)) (sC (b 29))]|11=>X 4=eB kI 48 #[vi k,vi l,.slice (sA (b 29)) (((ae ss).length)) (sC (b 29))]|_=>True) [0,3,4] [1,3,4,6,8,9,10,11] [(20,0,11,31)] aW ?_ ?_ ?_
 exact fun ix _ _ _ _ _ _ hs hb hx h=>match ix,h with
 |4,h=>by dsimp only;rw[<-hs 24 rfl,<-hb 24 rfl,<-hx 2 rfl];exact h
 |9,h=>by dsimp only;rw[<-hs 29 rfl,<-hb 29 rfl,<-hx 3 rfl];exact h
 |10,h=>by dsimp only;rw[<-hs 30 rfl,<-hb 29 rfl];exact h
 |11,h=>by dsimp only;rw[<-hb 29 rfl,<-hx 4 rfl];exact h
 |0,_|1,_|2,_|3,_|5,_|6,_|7,_|8,_|_+12,_=>trivial
 refine⟨?_,?_,?_,?_,?_,?_,?_,?_,trivial⟩
 exact xs4 rfl id fun cx=>rL1 (cx.an 0) ((cx.bi 0 rfl).cell 0)
 exact xs4 rfl id fun cx=>rL1 (cx.an 2) ((cx.bi 0 rfl).cell 1)
 refine svA fun g b W X cx=>?_
 exact dA (e:=9) (xs:=[]) rfl (by simp[go_sem]) rfl (by decide) rfl rfl (fun _ _ _ _ _=> .intro)
 exact xs4 rfl id fun cx=>rL1 (cx.an 5) ((cx.bi 0 rfl).cell 2)
 exact xs4 rfl id fun cx=>lQ (e:=9) (sz:=1) (m:=((ae ss).length)) rfl (by kernel_rfl) (by kernel_rfl) (cx.an 6) (cx.an 7) (by omega) (by omega)
 refine svA fun g b W X cx=>?_
 obtain⟨i0,hi0,hz0,hz1,hz2⟩:=info_parts Tryz.infoStr
 refine fj (n:=0) (m:=((ae ss).length)) (nm:=((ae ss).length)) (xs:=[]) (news:=(ss.take ((ae ss).length)).map Value.string) (xs':=(ae ss).map Value.string) rfl (ty:=46) rfl (by kernel_rfl) hi0 hz0 hz1 hz2 rfl (dTn (cx.an 4)).1 cx (dTn (cx.an 4)).2 rfl (cx.an 8) (by first|(simp;done)|(simp;omega)) (At.take_mapS (hA.ext cx.upd.to_ext) ((ae ss).length)) (wk _) (by simp only[maxLen];omega) (by omega) rfl rfl rfl (by omega) ((by rw[List.nil_append,C3])) (fun d o X' hs hb hv hx=>?_)
 exact⟨hv,hx⟩
 exact sv rfl rfl rfl rfl rfl _ (fun _ _ _ h=>h) (fun b o h=>by rw[h 29 (by decide)]) fun g b W X cx=>jX rfl (pmc (cx.an 1) (pmc (cx.an 3) (pmc (dTn (cx.an 9)).1 pmn))) (by kernel_rfl)
 refine svA fun g b W X cx=>?_
 exact dVS (n:=3) rfl (cx.ou 2) (dTn (cx.an 10)) cx (cx.init 1 _ rfl) rfl (nle rfl) rfl rfl rfl (fun d o X' hs hb hx=>by rw[hb 29];exact hx)
 intro d b X sE hD cu fr aC
 simp only[exq 3 ((dTn (hD 9 lq)).2),exq 4 ((dTn (hD 11 lq)))] at cu
 simp only[ed 24 ((dTn (hD 4 lq)).1),ed 29 ((dTn (hD 9 lq)).1),ed 30 ((dTn (hD 10 lq)))] at aC
 generalize sA (b 24)=Sb,sA (b 29)=NQ,sC (b 29)=NR at cu aC
 clear hD;subst aC;clear d b X
 exact aa (wp_ret (bpr (.agg #[vi k,vi l,.slice NQ (((ae ss).length)) NR]) (bB (n:=3) results93 rfl (by kernel_rfl) (by kernel_rfl) (cu.blk 2 rfl) rfl) (⟨_,_,rfl,cu.own' 1 rfl,cu.ext⟩)))
theorem w7(k l:Int)(A:Option Addr)(c:Nat)(ss:List ByteArray)(w:World)(hA:At w A (ss.map Value.string))(hS:dJ ss)(hc:ss.length<=c):
  Calls P_ 172 #[.agg #[.int .i64 k,.int .i64 l,.slice A ss.length c]] w (Ret (.int .i64 (cO ss:Int)) w):=by
 go_enter func172,ntmps172
 have aj:=St.start w
 refine wq (sqr ?_)
 refine bX #[vi k,vi l,.slice A ss.length c] aj fun ay W1 ax=>?_
 refine sqp [.k 2 (vi 0)] ?_
 refine aa (wsq [.k 3 (vi 14)] ?_)
 refine aa (wq (sqr ?_))
 refine bD 0 3 ax ?_
 refine iz (fun rz tM=> .agg #[vi k,vi l,.slice rz ((ae ss).length) tM]) (fun rz tM=>eO 9 1 (.slice rz ((ae ss).length) tM) ((ae ss).length) ((ae ss).map Value.string)) ax (fun cx=>⟨_,(l3 k l _ _ ss _ (hA.ext cx.upd.to_ext) (by have:=hS.1;omega) (by omega)).mono (by rintro e W1 ⟨A4,c4,rfl,ho,hx⟩;exact⟨_,_,rfl,St.one hx (cf ho)⟩),(av (cx.ou 6))⟩) fun rz tM W5 aK=>?_
 refine bW #[vi 0,vi 0,sn] aK fun oh W6 bJ=>?_
 refine aT (n:=3) 2 #[vi k,vi l,.slice rz ((ae ss).length) tM] bJ fun W7 aW=>?_
 refine aa (wq (wsq [.k 5 (vi 0)] ?_))
 refine aa (wp_block ?_)
 obtain⟨pl,hpl⟩:∃z,ae ss=z:=⟨_,rfl⟩
 have hps:dJ pl:=hpl ▸ nZ hS
 have hpz:=hps.1
 rw[hpl] at aW
 refine aQ (fun t_ mz az W=>∃j:Nat,j<=pl.length/\mz=pl.length-j/\az=⟨(ovr (jv az) [(3,3,0,[vi (14+(aR (pl.take j):Int))]),(1,5,0,[vi ((j:Int))]),(2,8,16,[])] t_).toArray,[]⟩/\St w [] [eB ay 48 #[vi k,vi l,.slice A ss.length c],eO 9 1 (.slice rz pl.length tM) pl.length (pl.map Value.string),eB oh 48 #[vi k,vi l,.slice rz pl.length tM]] W) (pl.length-0) ?_ ?_
 exact⟨0,Nat.zero_le _,rfl,(by kernel_rfl),aW.pk [0,1,2]⟩
 rintro n9 a9 W9 ⟨j,hj,rfl,hj_,cw⟩
 refine ovz hj_ fun Sa=>?_
 refine wq (wsq [.m 8 5,.k 9 (po oh 2)] ?_)
 refine am 2 cw ?_
 refine sqp [.k 11 (vi ((pl.length:Int))),.k 12 (.bool (decide ((j:Int)<(pl.length:Int))))] ?_
 refine aa (wds (fun dF kW=>?_) fun dF kW=>?_)
 refine wp_skip (aa (wq (wp_block ?_)))
 have hs1_:=Ew hps j
 have hs2_:=hps.take j
 refine sqs [.m 15 3,sI 16 ((14+(aR (pl.take j):Int))+2) (by omega),.k 17 (po oh 2)] ?_
 refine am 2 cw ?_
 refine sqp [.m 19 5] ?_
 refine sql (.pointer (some ((ad rz).add j))) cw (fun cx=>bz (e:=9) (m:=j) rfl (by kernel_rfl) (by kernel_rfl) (cx.ou 18) (cx.ou 19) (by omega) (by omega) (At.of_own (cx.ri 1 rfl)) (by simp)) ?_
 refine sql (.string (pl.getD j ByteArray.empty)) cw (fun cx=>ce rfl (by kernel_rfl) (cx.ou 20) (At.cellAd (At.of_own (cx.ri 1 rfl)) (jz (by omega)))) ?_
 refine sqp [.k 22 (vi (((pl.getD j ByteArray.empty).size:Int))),sI 23 ((14+(aR (pl.take j):Int)+2)+((pl.getD j ByteArray.empty).size:Int)) (by omega),.m 3 23] ?_
 refine aq (aa (sqs [.m 13 5,sI 14 ((j:Int)+1) (by omega),.m 5 14] ?_))
 refine aa ?_
 rw[show ((14:Int)+(aR (pl.take j):Int)+2+((pl.getD j ByteArray.empty).size:Int))=((14:Int)+(aR (pl.take (j+1)):Int)) by rw[B9 (by omega)];omega]
 refine⟨pl.length-((j+1)),by omega,?_⟩
 exact⟨(j+1),by omega,rfl,(by kernel_rfl),cw.pk [0,1,2]⟩
 refine wp_exit (al (al (bf (aa (wsq [.m 24 3,.m 2 24] ?_)))))
 exact aa (wp_ret (bpr (vi (14+(aR (pl.take j):Int))) (ag results172 rpt) (Ret.of (by rw[cO,hpl,List.take_of_length_le (by omega)];rfl) cw.ext)))
theorem tp(k l:Int)(A:Option Addr)(c:Nat)(ss:List ByteArray)(w:World)(hA:At w A (ss.map Value.string))(hr:bu k l ss=true)(hc:ss.length<=c):
  Calls P_ 143 #[.agg #[.int .i64 k,.int .i64 l,.slice A ss.length c]] w (Ret (.bool true) w):=by
 obtain⟨hk2,hl2,⟨hn24,hb4⟩,hz5⟩:=cT hr
 have hS:=ef hr
 go_enter func143,ntmps143
 have aj:=St.start w
 refine wq (sqr ?_)
 refine bX #[vi k,vi l,.slice A ss.length c] aj fun ay W1 ax=>?_
 refine sqp [.k 2 (.bool false)] ?_
 refine aa (wq (wsq [.k 4 (vp ay)] ?_))
 refine am 0 ax ?_
 have hd6:(decide (k<0))=false:=(decide_eq_false (by omega))
 refine sqp [.e 6 (.bool (decide (k<0))) (.bool false) (congrArg Value.bool hd6),.k 7 (.bool false)] ?_
 refine de 7 [8,9,10] rfl rfl ?_
 refine sqp [.k 8 (vp ay)] ?_
 refine am 0 ax ?_
 have hd11:(decide (2<k))=false:=(decide_eq_false (by omega))
 refine sqp [.e 10 (.bool (decide (2<k))) (.bool false) (congrArg Value.bool hd11)] ?_
 refine sqp [.k 11 (.bool false),.k 12 (.bool false)] ?_
 refine de 12 [13,14,15] rfl rfl ?_
 refine sqp [.k 13 (po ay 1)] ?_
 refine am 0 ax ?_
 have hd17:(decide (l<0))=false:=(decide_eq_false (by omega))
 refine sqp [.e 15 (.bool (decide (l<0))) (.bool false) (congrArg Value.bool hd17)] ?_
 refine sqp [.k 16 (.bool false),.k 17 (.bool false)] ?_
 refine de 17 [18,19,20] rfl rfl ?_
 refine sqp [.k 18 (po ay 1)] ?_
 refine am 0 ax ?_
 have hd23:(decide (2147483647<l))=false:=(decide_eq_false (by omega))
 refine sqp [.e 20 (.bool (decide (2147483647<l))) (.bool false) (congrArg Value.bool hd23)] ?_
 refine sqp [.k 21 (.bool false),.k 22 (.bool false)] ?_
 refine de 22 [23,24,25,26] rfl rfl ?_
 refine sqp [.k 23 (po ay 2)] ?_
 refine am 0 ax ?_
 have hd30:(decide (24<(ss.length:Int)))=false:=(decide_eq_false (by omega))
 refine sqp [.k 25 (vi ((ss.length:Int))),.e 26 (.bool (decide (24<(ss.length:Int)))) (.bool false) (congrArg Value.bool hd30)] ?_
 refine sqp [.k 27 (.bool false),.k 28 (.bool false)] ?_
 refine de 28 [29,30,31] rfl rfl ?_
 refine bD 0 3 ax ?_
 refine sqk (vi ((cO ss:Int))) ax (fun cx=>⟨_,w7 k l _ _ ss _ (hA.ext cx.upd.to_ext) hS (by omega),(av (cx.ou 29))⟩) fun xA ek=>?_
 have hd36:(decide (512<(cO ss:Int)))=false:=(decide_eq_false (by omega))
 refine sqp [.e 31 (.bool (decide (512<(cO ss:Int)))) (.bool false) (congrArg Value.bool hd36)] ?_
 refine sqp [.k 32 (.bool false)] ?_
 refine aa (wcf rfl (wp_skip (aa (wq (wsq [.k 3 (vi 0)] ?_)))))
 refine aa (wp_block ?_)
 refine aQ (fun t_ mz az W=>∃j:Nat,j<=ss.length/\mz=ss.length-j/\az=⟨(ovr (jv az) [(2,2,1,[vi ((j:Int))]),(29,33,14,[])] t_).toArray,[]⟩/\St w [] [eB ay 48 #[vi k,vi l,.slice A ss.length c]] W) (ss.length-0) ?_ ?_
 exact⟨0,Nat.zero_le _,rfl,(by kernel_rfl),ek.pk [0]⟩
 rintro UX a39 qU ⟨j,hj,rfl,hj_,du⟩
 refine ovz hj_ fun Qy=>?_
 refine wq (wsq [.m 33 3,.k 34 (po ay 2)] ?_)
 refine am 0 du ?_
 refine sqp [.k 36 (vi ((ss.length:Int))),.k 37 (.bool (decide ((j:Int)<(ss.length:Int))))] ?_
 refine aa (wds (fun IE Db=>?_) fun IE Db=>?_)
 refine wp_skip (aa (wq (wp_block (wq ?_))))
 have hs1_:=Ek hb4 j
 refine sqs [.k 40 (po ay 2)] ?_
 refine am 0 du ?_
 refine sqp [.m 42 3] ?_
 refine sql (.pointer (some ((ad A).add j))) du (fun cx=>bz (e:=9) (m:=j) rfl (by kernel_rfl) (by kernel_rfl) (cx.ou 41) (cx.ou 42) (by omega) (by omega) (hA.ext cx.upd.to_ext) (by simp)) ?_
 refine sql (.string (ss.getD j ByteArray.empty)) du (fun cx=>ce rfl (by kernel_rfl) (cx.ou 43) (At.cellAd (hA.ext cx.upd.to_ext) (jz (by omega)))) ?_
 have hd53:(decide (400<((ss.getD j ByteArray.empty).size:Int)))=false:=(decide_eq_false (by omega))
 refine sqp [.k 45 (vi (((ss.getD j ByteArray.empty).size:Int))),.e 46 (.bool (decide (400<((ss.getD j ByteArray.empty).size:Int)))) (.bool false) (congrArg Value.bool hd53)] ?_
 refine aa (wcf rfl (wp_skip (aq (aa (sqs [.m 38 3,sI 39 ((j:Int)+1) (by omega),.m 3 39] ?_)))))
 refine aa ?_
 refine⟨ss.length-((j+1)),by omega,?_⟩
 exact⟨(j+1),by omega,rfl,(by kernel_rfl),du.pk [0]⟩
 refine wp_exit (al (al (bf (aa (wsq [.k 2 (.bool true)] ?_)))))
 exact aa (wp_ret (bpr (.bool true) (ag results143 rpt) (Ret.of rfl du.ext)))
theorem FJ(k l:Int)(A:Option Addr)(c:Nat)(ss:List ByteArray)(K:Nat)(s:ByteArray)(w:World)(hA:At w A (ss.map Value.string))(hS:dJ ss)(h24:ss.length<=24)(hc:ss.length<=c)(hK:K<24)(hs:s.size<=400):
  Calls P_ 173 #[.agg #[.int .i64 k,.int .i64 l,.slice A ss.length c],.int .i64 ((K:Int)),.string s] w (pB (k,l,ae (aX ss K s)) w):=by
 go_enter func173,ntmps173
 have aj:=St.start w
 refine wq (sqr ?_)
 refine bX #[vi k,vi l,.slice A ss.length c] aj fun bP W1 ax=>?_
 refine bW #[vi 0,vi 0,sn] ax fun zG W2 bA=>?_
 refine aa (wq (sqr ?_))
 refine bD 0 3 bA ?_
 refine iz (fun rA rB=> .agg #[vi k,vi l,.slice rA ((ae ss).length) rB]) (fun rA rB=>eO 9 1 (.slice rA ((ae ss).length) rB) ((ae ss).length) ((ae ss).map Value.string)) bA (fun cx=>⟨_,(l3 k l _ _ ss _ (hA.ext cx.upd.to_ext) (by first|omega|(have:=hwS.1;omega)) (by omega)).mono (by rintro e W1 ⟨A4,c4,rfl,ho,hx⟩;exact⟨_,_,rfl,St.one hx (cf ho)⟩),(av (cx.ou 8))⟩) fun rA rB W4 aZ=>?_
 refine bW #[vi 0,vi 0,sn] aZ fun Ao W5 aK=>?_
 refine aT (n:=3) 3 #[vi k,vi l,.slice rA ((ae ss).length) rB] aK fun W6 bJ=>?_
 refine aa (wq (wp_block ?_))
 obtain⟨pl,hpl⟩:∃z,ae ss=z:=⟨_,rfl⟩
 have hpl24:pl.length<=24:=by rw[<-hpl,cn];exact Nat.le_trans (dY ss _) h24
 rw[hpl] at bJ
 rw[show eO 9 1 (.slice rA pl.length rB) pl.length (pl.map Value.string)=eO 9 1 (.slice rA pl.length rB) pl.length ((dK pl pl.length).map Value.string) from by rw[uA]] at bJ
 refine aQ (fun t_ mz az W=>∃j:Nat,∃RA:Option Addr,∃RC:Nat,pl.length<=j/\(j<=K+1\/j=pl.length)/\mz=K+1-j/\az=⟨(ovr (jv az) [(10,10,10,[])] t_).toArray,[]⟩/\St w [] [eB bP 48 #[vi k,vi l,.slice A ss.length c],eB zG 48 #[vi 0,vi 0,sn],eB Ao 48 #[vi k,vi l,.slice RA j RC],eO 9 1 (.slice RA j RC) j ((dK pl j).map Value.string)] W) (K+1-pl.length) ?_ ?_
 exact⟨pl.length,rA,rB,Nat.le_refl _,.inr rfl,rfl,(by kernel_rfl),bJ.pk [0,1,3,2]⟩
 rintro n7 a7 W7 ⟨j,RA,RC,hj,hj2,rfl,hj_,aW⟩
 refine ovz hj_ fun FU=>?_
 refine wq (wsq [.k 10 (po Ao 2)] ?_)
 refine am 2 aW ?_
 refine sqp [.k 12 (vi ((j:Int))),.m 13 1,.k 14 (.bool (decide ((j:Int)<=(K:Int))))] ?_
 refine aa (wds (fun f9 i8=>?_) fun f9 i8=>?_)
 refine wp_skip (aa (wp_block (sqs [.k 15 (po Ao 2)] ?_)))
 refine am 2 aW ?_
 refine d9 (fun x_=>sA x_) (fun vH=> .slice vH 1 1) (fun vH=>eO 9 1 (.slice vH 1 1) 1 ([.string ⟨#[]⟩])) aW (by
   refine svA fun a b W X cx=>?_
   exact dA (e:=9) (xs:=[.string ⟨#[]⟩]) rfl (by simp[go_sem,cx.sees.const]) rfl (by decide) rfl rfl (fun _ _ _ _ _=> .intro)) fun vH p5 dl=>?_
 refine ti (fun x_=>sA x_) (fun x_=>sC x_) (fun oM oN=> .slice oM (j+1) oN) (fun oM oN=>eO 9 1 (.slice oM (j+1) oN) (j+1) ((dK pl (j+1)).map Value.string)) 3 dl (by
   refine svA fun a b W X cx=>?_
   obtain⟨i0,hi0,hz0,hz1,hz2⟩:=info_parts Tryz.infoStr
   refine fj (n:=j) (m:=1) (nm:=j+1) (xs:=(dK pl j).map Value.string) (news:=[.string ⟨#[]⟩]) (xs':=(dK pl (j+1)).map Value.string) rfl (ty:=46) rfl (by kernel_rfl) hi0 hz0 hz1 hz2 rfl (cx.ou 16) cx (cx.init 3 _ rfl) rfl (cx.ou 17) (by first|(simp;done)|(simp;omega)) (At.of_own (cx.ri 4 rfl)) (by simp[Value.oneCell']) (by simp only[maxLen];omega) (by omega) rfl rfl rfl (by omega) (uz hj) (fun g d X' hs hb hv hx=>?_)
   exact⟨hv,hx⟩) fun oM oN qT dt=>?_
 refine sqp [.k 19 (po Ao 2)] ?_
 refine aT (n:=1) 2 #[vi k,vi l,.slice oM (j+1) oN] dt fun qV cU=>?_
 refine aq (aa ?_)
 refine⟨K+1-((j+1)),by omega,?_⟩
 exact⟨(j+1),oM,oN,by omega,by omega,rfl,(by kernel_rfl),cU.pk [0,1,2,3]⟩
 refine wp_exit (al (al (bf (aa (wq ?_)))))
 have hje:=wO hj (show K<j by omega) hj2
 have hjl:=xl hj
 rw[hje] at aW
 rw[hje] at hjl
 have hwS:=o5 hS hK hs h24
 refine sqs [.k 20 (po Ao 2)] ?_
 refine am 2 aW ?_
 refine sqp [.m 22 1,.m 23 2] ?_
 refine sql (.pointer (some ((ad RA).add K))) aW (fun cx=>bz (e:=9) (m:=K) rfl (by kernel_rfl) (by kernel_rfl) (cx.ou 21) (cx.ou 22) (by omega) (by omega) (At.of_own (cx.ri 3 rfl)) ((by simp only[List.length_map];exact hjl))) ?_
 refine sqc (eO 9 1 (.slice RA j RC) j ((aX ss K s).map Value.string)) 3 aW (by
   refine svA fun a b W X cx=>?_
   exact kR (m:=K) (n:=j) rfl (cx.ou 24) (show _=Value.string s from(cx.ou 23)) (by kernel_rfl) rfl rfl cx (cx.init 3 _ rfl) rfl (by omega) rfl (by rw[<-List.map_set,<-hpl];rfl) rfl rfl (fun _ _ _ _ _=>id)) fun xy dM=>?_
 refine aa (wq ?_)
 have hcp26_:=lh (dM.own' 3 rfl)
 have hwl:(aX ss K s).length=j:=by rw[wH,hpl];exact hjl
 subst hwl
 refine sqr ?_
 refine bD 2 3 dM ?_
 refine iz (fun iQ iR=> .agg #[vi k,vi l,.slice iQ ((ae (aX ss K s)).length) iR]) (fun iQ iR=>eO 9 1 (.slice iQ ((ae (aX ss K s)).length) iR) ((ae (aX ss K s)).length) ((ae (aX ss K s)).map Value.string)) dM (fun cx=>⟨_,(l3 k l _ _ (aX ss K s) _ (At.of_own (cx.ri 3 rfl)) (by first|omega|(have:=hwS.1;omega)) (by omega)).mono (by rintro e W1 ⟨A4,c4,rfl,ho,hx⟩;exact⟨_,_,rfl,St.one hx (cf ho)⟩),(av (cx.ou 25))⟩) fun iQ iR zN dN=>?_
 refine aT (n:=3) 1 #[vi k,vi l,.slice iQ ((ae (aX ss K s)).length) iR] dN fun Jo iB=>?_
 exact aa (wp_ret (bpr (.agg #[vi k,vi l,.slice iQ ((ae (aX ss K s)).length) iR]) (bB (n:=3) results173 rfl (by kernel_rfl) (by kernel_rfl) (iB.blk 1 rfl) rfl) (⟨_,_,rfl,iB.own' 4 rfl,iB.ext⟩)))
theorem EO(k l:Int)(A:Option Addr)(c:Nat)(ss:List ByteArray)(slot:Int)(s:ByteArray)(w:World)(hA:At w A (ss.map Value.string))(hr:bu k l ss=true)(hc:ss.length<=c)(hss:s.size<=9223372036854775807):
  Calls P_ 144 #[.agg #[.int .i64 k,.int .i64 l,.slice A ss.length c],.int .i64 slot,.string s] w (jO (k,l,ss) slot s w):=by
 obtain⟨hk2,hl2,⟨hn24,hb4⟩,hz5⟩:=cT hr
 have hS:=ef hr
 go_enter func144,ntmps144
 have aj:=St.start w
 refine wq (sqr ?_)
 refine bX #[vi k,vi l,.slice A ss.length c] aj fun bP W1 ax=>?_
 refine bW #[vi 0,vi 0,sn,vi 0] ax fun zG W2 bA=>?_
 refine aa (wq (wq (sqr ?_)))
 refine bD 0 3 bA ?_
 refine sqk (.bool true) bA (fun cx=>⟨_,tp k l _ _ ss _ (hA.ext cx.upd.to_ext) hr (by omega),(av (cx.ou 8))⟩) fun W4 aZ=>?_
 refine sqp [.k 10 (.bool false)] ?_
 refine aa (wcf rfl (wp_skip (aa (wq (wsq [.m 12 1,.k 13 (.bool (decide (slot<0))),.m 14 13] ?_)))))
 refine sqw 14 [15,16] rfl (fun _=>sqp [.m 15 1,.k 16 (.bool (decide (24<=slot)))] sqe) ?_
 refine sqp [sPo 17 (decide (slot<0)) (decide (24<=slot)),.m 18 17] ?_
 refine sqw 18 [19,20,21] rfl (fun _=>sqp [.m 19 2,.k 20 (vi ((s.size:Int))),.k 21 (.bool (decide (400<(s.size:Int))))] sqe) ?_
 refine sqp [sPo 22 ((decide (slot<0))||(decide (24<=slot))) (decide (400<(s.size:Int)))] ?_
 refine aa (wbs (fun og=>?_) fun og=>?_)
 have x4:=og
 simp only[zB] at x4
 refine wsq [.k 23 (.agg #[vi 0,vi 0,sn,vi 21])] ?_
 refine aT (n:=4) 1 #[vi 0,vi 0,sn,vi 21] aZ fun qV cU=>?_
 refine aa (wp_ret (ai ?_))
 exact bpr (.agg #[vi 0,vi 0,sn,vi 21]) (bB (n:=4) results144 rfl (by kernel_rfl) (by kernel_rfl) (cU.blk 1 rfl) rfl) (jO.bad (by rw[di,if_neg (by rw[hr];decide),if_pos (by have h_:=og;simp at h_;omega)]) (by decide) (fX.zero cU.ext))
 have x4:=og
 simp only[zB] at x4
 obtain⟨⟨Sc,Sd⟩,Se⟩:=x4
 refine wp_skip (aa (wq ?_))
 have hbd_:¬(slot<0\/24<=slot\/400<s.size):=by have h_:=og;simp at h_;omega
 obtain⟨m,rfl⟩:∃m:Nat,slot=(m:Int):=⟨slot.toNat,by omega⟩
 have hm24:m<24:=by omega
 have aM:s.size<=400:=by omega
 have hws:=o5 hS hm24 aM hn24
 refine sqr ?_
 refine bD 0 3 aZ ?_
 refine sqp [.m 25 1,.m 26 2] ?_
 refine iz (fun ly lz=> .agg #[vi k,vi l,.slice ly ((ae (aX ss m s)).length) lz]) (fun ly lz=>eO 9 1 (.slice ly ((ae (aX ss m s)).length) lz) ((ae (aX ss m s)).length) ((ae (aX ss m s)).map Value.string)) aZ (fun cx=>⟨_,(FJ k l _ _ ss m s _ (hA.ext cx.upd.to_ext) hS hn24 (by omega) hm24 aM).mono (by rintro e W1 ⟨A4,c4,rfl,ho,hx⟩;exact⟨_,_,rfl,St.one hx (cf ho)⟩),(dH (cx.ou 24) (cx.ou 25) (cx.ou 26))⟩) fun ly lz sE cu=>?_
 refine bW #[vi 0,vi 0,sn] cu fun SY uV et=>?_
 refine aT (n:=3) 3 #[vi k,vi l,.slice ly ((ae (aX ss m s)).length) lz] et fun xy dM=>?_
 refine aa (wq (wq ?_))
 have hcp26_:=lh (dM.own' 2 rfl)
 refine sqr ?_
 refine bD 3 3 dM ?_
 refine sqk (vi ((cO (ae (aX ss m s)):Int))) dM (fun cx=>⟨_,w7 k l _ _ (ae (aX ss m s)) _ (At.of_own (cx.ri 2 rfl)) (nZ hws) (by omega),(av (cx.ou 28))⟩) fun zN dN=>?_
 refine sqp [.k 30 (.bool (decide (512<(cO (ae (aX ss m s)):Int))))] ?_
 refine aa (wds (fun iN g9=>?_) fun iN g9=>?_)
 refine wsq [.k 31 (.agg #[vi 0,vi 0,sn,vi 20])] ?_
 refine aT (n:=4) 1 #[vi 0,vi 0,sn,vi 20] dN fun zK dc=>?_
 refine aa (wp_ret (ai ?_))
 exact bpr (.agg #[vi 0,vi 0,sn,vi 20]) (bB (n:=4) results144 rfl (by kernel_rfl) (by kernel_rfl) (dc.blk 1 rfl) rfl) (jO.bad (by rw[di,if_neg (by rw[hr];decide),if_neg hbd_,if_pos (by show 512<cO (aX ss (m:Int).toNat s);rw[Int.toNat_natCast,<-sy];omega)]) (by decide) (fX.zero dc.ext))
 refine wp_skip (aa (wq (sqr ?_)))
 refine bD 3 3 dN ?_
 refine sqp [.k 33 (.agg #[vi k,vi l,.slice ly ((ae (aX ss m s)).length) lz,vi 0])] ?_
 refine aT (n:=4) 1 #[vi k,vi l,.slice ly ((ae (aX ss m s)).length) lz,vi 0] dN fun zH em=>?_
 exact aa (wp_ret (bpr (.agg #[vi k,vi l,.slice ly ((ae (aX ss m s)).length) lz,vi 0]) (bB (n:=4) results144 rfl (by kernel_rfl) (by kernel_rfl) (em.blk 1 rfl) rfl) (jO.good (by rw[di,if_neg (by rw[hr];decide),if_neg hbd_,if_neg (by rw[Int.toNat_natCast,<-sy];omega)]) ⟨_,_,rfl,em.own' 2 rfl,em.ext⟩)))
theorem rL(k l:Int)(A:Option Addr)(c:Nat)(ss:List ByteArray)(x sl:Int)(s:ByteArray)(n:Int)(w:World)(hA:At w A (ss.map Value.string))(hr:bu k l ss=true)(hc:ss.length<=c)(hss:s.size<=9223372036854775807):
  Calls P_ 86 #[.agg #[.int .i64 k,.int .i64 l,.slice A ss.length c],.agg #[.int .i64 x,.int .i64 sl,.string s],.int .i64 n] w (ew (k,l,ss) (x,sl,s) n w):=by
 go_enter func86,ntmps86
 have aj:=St.start w
 refine wq (sqr ?_)
 refine bX #[vi k,vi l,.slice A ss.length c] aj fun bP W1 ax=>?_
 refine bX #[vi x,vi sl,.string s] ax fun dE W2 bA=>?_
 refine bW #[vi 0,vi 0,sn,vi 0] bA fun Qw W3 aU=>?_
 refine aa (wq (wq ?_))
 have hbb_:=s5 (bl s) 0
 refine sqr ?_
 refine bD 0 3 aU ?_
 refine sqk (.bool true) aU (fun cx=>⟨_,tp k l _ _ ss _ (hA.ext cx.upd.to_ext) hr (by omega),(av (cx.ou 8))⟩) fun W5 aK=>?_
 refine sqp [.k 10 (.bool false)] ?_
 refine aa (wcf rfl (wp_skip (aa (wq (wsq [.m 12 2,.k 13 (.bool (decide (n<0))),.m 14 13] ?_)))))
 refine sqw 14 [15,16] rfl (fun _=>sqp [.m 15 2,.k 16 (.bool (decide (2147483647<n)))] sqe) ?_
 refine sqp [sPo 17 (decide (n<0)) (decide (2147483647<n))] ?_
 refine aa (wbs (fun f9=>?_) fun f9=>?_)
 have i8:=f9
 simp only[zB] at i8
 refine wsq [.k 18 (.agg #[vi 0,vi 0,sn,vi 1])] ?_
 refine aT (n:=4) 2 #[vi 0,vi 0,sn,vi 1] aK fun B0 gv=>?_
 refine aa (wp_ret (ai ?_))
 exact bpr (.agg #[vi 0,vi 0,sn,vi 1]) (bB (n:=4) results86 rfl (by kernel_rfl) (by kernel_rfl) (gv.blk 2 rfl) rfl) (ew.bad (by rw[doE,if_neg (by rw[hr];decide),if_pos (by have h_:=f9;simp at h_;omega)]) (by decide) (fX.zero gv.ext))
 have i8:=f9
 simp only[zB] at i8
 obtain⟨M3,M4⟩:=i8
 refine wp_skip (aa (wq (wq ?_)))
 by_cases hs1_:sl= -1
 ·refine sqs [.k 19 (po dE 1)] ?_
  refine am 1 aK ?_
  have hd19:(sl==(-1))=true:=(beq_iff_eq.2 hs1_)
  refine sqp [.e 21 (.bool (sl==(-1))) (.bool true) (congrArg Value.bool hd19)] ?_
  refine aa (wct rfl (wq (wsq [.k 22 (po dE 2)] ?_)))
  refine am 1 aK ?_
  refine sqp [.k 24 (vi ((s.size:Int))),.k 25 (.bool ((s.size:Int) != 1)),.m 26 25] ?_
  refine d3 26 [27,28,29,30] ?_ rfl (fun hq=>?_) ?_
  rotate_left
  have hq_:=hq
  try simp only[zB] at hq_
  refine sqp [.k 27 (po dE 2)] ?_
  refine am 1 aK ?_
  refine sql (.int .u8 (bU (bl s) 0)) aK (fun cx=>jS (m:=0) rfl (by kernel_rfl) (cx.ou 28) (cx.co _) (by omega) (by omega)) ?_
  refine sqp [.k 30 (.bool (decide (2<bU (bl s) 0)))] ?_
  exact sqe
  refine c7 ?_
  refine sqp [sPo 31 ((s.size:Int) != 1) (decide (2<bU (bl s) 0))] ?_
  refine aa (wbs (fun iN=>?_) fun iN=>?_)
  have g9:=iN
  simp only[zB] at g9
  refine wsq [.k 32 (.agg #[vi 0,vi 0,sn,vi 21])] ?_
  refine aT (n:=4) 2 #[vi 0,vi 0,sn,vi 21] aK fun zK dc=>?_
  refine aa (wp_ret (ai (ai ?_)))
  exact bpr (.agg #[vi 0,vi 0,sn,vi 21]) (bB (n:=4) results86 rfl (by kernel_rfl) (by kernel_rfl) (dc.blk 2 rfl) rfl) (ew.bad (by rw[doE,if_neg (by rw[hr];decide),if_neg (by have h_:=f9;simp at h_;omega),if_pos hs1_,if_pos (by have h_:=iN;simp at h_;simp only[eX,Bool.or_eq_true,decide_eq_true_eq];omega)]) (by decide) (fX.zero dc.ext))
  have g9:=iN
  simp only[zB] at g9
  obtain⟨No,Np⟩:=g9
  refine wp_skip (aa (wsq [.k 33 (po dE 2)] ?_))
  refine am 1 aK ?_
  refine sql (.int .u8 (bU (bl s) 0)) aK (fun cx=>jS (m:=0) rfl (by kernel_rfl) (cx.ou 34) (cx.co _) (by omega) (by omega)) ?_
  refine sqp [sW 36 .i64 (bU (bl s) 0) (bU (bl s) 0) (IntWalk.i64_in _ (by omega)),.m 37 2,.k 38 (.agg #[vi (bU (bl s) 0),vi n,sn]),.k 39 (.agg #[vi (bU (bl s) 0),vi n,sn,vi 0])] ?_
  refine aT (n:=4) 2 #[vi (bU (bl s) 0),vi n,sn,vi 0] aK fun xC d7=>?_
  refine aa (wp_ret (ai ?_))
  exact bpr (.agg #[vi (bU (bl s) 0),vi n,sn,vi 0]) (bB (n:=4) results86 rfl (by kernel_rfl) (by kernel_rfl) (d7.blk 2 rfl) rfl) (ew.good (q:=(bU (bl s) 0,n,[])) (by rw[doE,if_neg (by rw[hr];decide),if_neg (by have h_:=f9;simp at h_;omega),if_pos hs1_,if_neg (by have h_:=iN;simp at h_;simp only[eX,Bool.or_eq_true,decide_eq_true_eq];omega)]) (by rw[doV,if_pos hs1_]) ⟨none,0,rfl,World.ownsRow_nil _ _ _ _,d7.ext⟩)
 refine sqs [.k 19 (po dE 1)] ?_
 refine am 1 aK ?_
 have hd44:(sl==(-1))=false:=(beq_eq_false_iff_ne.2 hs1_)
 refine sqp [.e 21 (.bool (sl==(-1))) (.bool false) (congrArg Value.bool hd44)] ?_
 refine aa (wcf rfl (wp_skip (aa (wq ?_))))
 obtain⟨er,hpe⟩:∃z,di k l ss sl s=z:=⟨_,rfl⟩
 by_cases hpn:er=0
 subst hpn
 refine sqr ?_
 refine bD 0 3 aK ?_
 refine sqp [.k 41 (po dE 1)] ?_
 refine am 1 aK ?_
 refine sqp [.k 43 (po dE 2)] ?_
 refine am 1 aK ?_
 refine iz (fun lC lD=> .agg #[vi k,vi l,.slice lC (((k,l,ae (aX ss sl.toNat s)):PgS).2.2.length) lD,vi 0]) (fun lC lD=>eO 9 1 (.slice lC (((k,l,ae (aX ss sl.toNat s)):PgS).2.2.length) lD) (((k,l,ae (aX ss sl.toNat s)):PgS).2.2.length) (((k,l,ae (aX ss sl.toNat s)):PgS).2.2.map Value.string)) aK (fun cx=>⟨_,(GF (p:=(k,l,ss)) hpe (EO k l _ _ ss sl s _ (hA.ext cx.upd.to_ext) hr hc hss)).mono (by rintro e W1 ⟨A4,c4,rfl,ho,hx⟩;exact⟨_,_,rfl,St.one hx (cf ho)⟩),(dH (cx.ou 40) (cx.ou 42) (cx.ou 44))⟩) fun lC lD MZ mc=>?_
 refine bW #[vi 0,vi 0,sn,vi 0] mc fun Dw Jm kU=>?_
 refine aT (n:=4) 4 #[vi k,vi l,.slice lC (((k,l,ae (aX ss sl.toNat s)):PgS).2.2.length) lD,vi 0] kU fun B1 cJ=>?_
 refine aa (wq (wsq [.k 46 (po Dw 3)] ?_))
 refine am 4 cJ ?_
 refine sqp [.k 48 (.bool true)] ?_
 refine aa (wct rfl (sqs [.m 49 2,.k 50 (vp Dw),.k 51 (po Dw 1)] ?_))
 refine aT (n:=1) 4 #[vi k,vi n,.slice lC (((k,l,ae (aX ss sl.toNat s)):PgS).2.2.length) lD,vi 0] cJ fun FO f6=>?_
 refine aa (wq (sqr ?_))
 refine bD 4 4 f6 ?_
 refine aT (n:=4) 2 #[vi k,vi n,.slice lC (((k,l,ae (aX ss sl.toNat s)):PgS).2.2.length) lD,vi 0] f6 fun BZ fw=>?_
 exact aa (wp_ret (bpr (.agg #[vi k,vi n,.slice lC (((k,l,ae (aX ss sl.toNat s)):PgS).2.2.length) lD,vi 0]) (bB (n:=4) results86 rfl (by kernel_rfl) (by kernel_rfl) (fw.blk 2 rfl) rfl) (ew.good (q:=(k,n,ae (aX ss sl.toNat s))) (by rw[doE,if_neg (by rw[hr];decide),if_neg (by have h_:=f9;simp at h_;omega),if_neg hs1_];exact hpe) (by rw[doV,if_neg hs1_]) ⟨_,_,rfl,fw.own' 3 rfl,fw.ext⟩)))
 refine sqr ?_
 refine bD 0 3 aK ?_
 refine sqp [.k 41 (po dE 1)] ?_
 refine am 1 aK ?_
 refine sqp [.k 43 (po dE 2)] ?_
 refine am 1 aK ?_
 refine iz (fun na nb=> .agg #[vi 0,vi 0,.slice na bp.2.2.length nb,vi er]) (fun na nb=>eO 9 1 (.slice na bp.2.2.length nb) bp.2.2.length (bp.2.2.map Value.string)) aK (fun cx=>⟨_,(Gw (p:=(k,l,ss)) hpe hpn (EO k l _ _ ss sl s _ (hA.ext cx.upd.to_ext) hr hc hss)).mono (by rintro e W1 ⟨A4,c4,rfl,ho,hx⟩;exact⟨_,_,rfl,St.one hx (cf ho)⟩),(dH (cx.ou 40) (cx.ou 42) (cx.ou 44))⟩) fun na nb P4 pS=>?_
 refine bW #[vi 0,vi 0,sn,vi 0] pS fun Pl B2 f7=>?_
 refine aT (n:=4) 4 #[vi 0,vi 0,.slice na bp.2.2.length nb,vi er] f7 fun Sf vI=>?_
 refine aa (wq (wsq [.k 46 (po Pl 3)] ?_))
 refine am 4 vI ?_
 have hd73:(er==0)=false:=(beq_eq_false_iff_ne.2 hpn)
 refine sqp [.e 48 (.bool (er==0)) (.bool false) (congrArg Value.bool hd73)] ?_
 refine aa (wcf rfl (wp_skip (aa (wq (sqr ?_)))))
 refine bD 4 4 vI ?_
 refine aT (n:=4) 2 #[vi 0,vi 0,.slice na bp.2.2.length nb,vi er] vI fun M6 kX=>?_
 exact aa (wp_ret (bpr (.agg #[vi 0,vi 0,.slice na bp.2.2.length nb,vi er]) (bB (n:=4) results86 rfl (by kernel_rfl) (by kernel_rfl) (kX.blk 2 rfl) rfl) (ew.bad (by rw[doE,if_neg (by rw[hr];decide),if_neg (by have h_:=f9;simp at h_;omega),if_neg hs1_];exact hpe) hpn ⟨_,_,rfl,kX.own' 3 rfl,kX.ext⟩)))
end
section
open Go.RowKit
structure RAt (w:World) (RA:Option Addr) (rs:List RcT):Prop where
 row:At w RA (rs.flatMap rcC)
 eds:∀t∈rs,At w t.A (t.r.eds.flatMap edC)
theorem RAt.ext{RA:Option Addr}(h:RAt w RA rs)(hx:Ext w w'):RAt w' RA rs:=⟨h.row.ext hx,fun t ht=>(h.eds t ht).ext hx⟩
theorem wv(h:rs[i]? =some rt):(rs.map RcT.r).take (i+1)=(rs.map RcT.r).take i++[rt.r]:=by
 rw[List.take_add_one,List.getElem?_map,h];rfl
theorem EH(h:rs[i]? =some rt):af ((rs.map RcT.r).take (i+1)) n=bj n ((i:Int)+1) (af ((rs.map RcT.r).take i) n) rt.r.eds:=by
 have hi:i<rs.length:=(List.getElem?_eq_some_iff.1 h).1
 rw[wv h,gk,List.length_take,List.length_map,Nat.min_eq_left (by omega)]
theorem pu{lsn:Int}(h:l[j]? =some e):bj n lsn p (l.take (j+1))=edA n lsn (bj n lsn p (l.take j)) e:=by
 rw[List.take_add_one,h,bj,bj,List.foldl_append];rfl
theorem CW(h:j<l.length):∃ep es eb,l[j]? =some ((ep,es,eb):EdT):=⟨_,_,_,List.getElem?_eq_getElem h⟩
theorem Bo(he:doE p e n=0)(hc:Calls P_ f args w (ew p e n w)):Calls P_ f args w (fX (doV p e n) 0 w):=by
 rw[ew,if_pos he] at hc;exact hc
theorem BD(he:doE p e n=er)(h0:er≠0)(hc:Calls P_ f args w (ew p e n w)):Calls P_ f args w (fX bp er w):=by
 subst he;rw[ew,if_neg h0] at hc;exact hc
theorem GY(h:rs[i]? =some rt)(hk:¬rt.r.kind=9):be ((rs.map RcT.r).take (i+1))=be ((rs.map RcT.r).take i):=by rw[wv h,fc,if_neg hk]
theorem EF(h:rs[i]? =some rt)(hk:rt.r.kind=9):be ((rs.map RcT.r).take (i+1))=i+1:=by
 have hi:i<rs.length:=(List.getElem?_eq_some_iff.1 h).1
 rw[wv h,fc,if_pos hk,List.length_take,List.length_map,Nat.min_eq_left (by omega)]
def imN(L:List RecM)(n:Int)(i:Nat):Bool:=(L.drop i).any fun r=>r.kind==8&&r.tbl==n
theorem Hu(L:List RecM)(n:Int):imN L n (be L)=eT L n:=by
 refine oS (P:=fun L=>imN L n (be L)=eT L n) rfl ?_ L
 intro L r ih
 rw[nz,fc]
 split
 rw[imN,List.drop_of_length_le (by simp)];rfl
 have hf:be L<=L.length:=o7 L
 rw[<-ih,imN,imN,List.drop_append_of_le_length hf,List.any_append];simp
theorem yc(h:rs[i]? =some rt):imN (rs.map RcT.r) n i=((rt.r.kind==8&&rt.r.tbl==n)||imN (rs.map RcT.r) n (i+1)):=by
 have hi:i<rs.length:=(List.getElem?_eq_some_iff.1 h).1
 have e:(rs.map RcT.r).drop i=rt.r::(rs.map RcT.r).drop (i+1):=by
  rw[List.drop_eq_getElem_cons (by rw[List.length_map];exact hi),List.getElem_map,(List.getElem?_eq_some_iff.1 h).2]
 rw[imN,e,List.any_cons];rfl
theorem kP(RA:Option Addr)(rc:Nat)(rs:List RcT)(n:Int)(w:World)(hR:RAt w RA rs)(hl:rs.length<=1000000)(hL:∀t∈rs,bt t.r=true):
  Calls P_ 36 #[.slice RA rs.length rc,.int .i64 n] w (pB (af (rs.map RcT.r) n) w):=by
 go_enter func36,ntmps36
 have aj:=St.start w
 refine wq (sqr (bW #[vi 0,vi 0,sn] aj fun Dn W1 ax=>?_))
 refine aa (wsq [.k 9 (.agg #[vi 0,vi 0,sn])] ?_)
 refine bW #[vi 0,vi 0,sn] ax fun pI W3 aU=>?_
 refine aT (n:=3) 1 #[vi 0,vi 0,sn] aU fun W4 aZ=>?_
 refine aa (wq (wsq [.k 6 (vi 0)] ?_))
 refine aa (wp_block ?_)
 have hn6:=St.nilrow aZ 9
 simp only[List.cons_append,List.nil_append] at hn6
 refine aQ (fun t_ mz az W=>∃i:Nat,∃PA:Option Addr,∃Pc:Nat,i<=rs.length/\mz=rs.length-i/\az=⟨(ovr (jv az) [(6,6,0,[vi ((i:Int))]),(0,7,2,[]),(1,10,44,[])] t_).toArray,[]⟩/\St w [] [eB Dn 48 #[vi 0,vi 0,sn],eB pI 48 #[vi ((af ((rs.map RcT.r).take i) n).1),vi ((af ((rs.map RcT.r).take i) n).2.1),.slice PA ((af ((rs.map RcT.r).take i) n).2.2.length) Pc],eO 9 1 (.slice PA ((af ((rs.map RcT.r).take i) n).2.2.length) Pc) ((af ((rs.map RcT.r).take i) n).2.2.length) ((af ((rs.map RcT.r).take i) n).2.2.map Value.string)] W) (rs.length-0) ?_ ?_
 exact⟨0,none,0,Nat.zero_le _,rfl,(by kernel_rfl),hn6.pk [0,1,2]⟩
 rintro n7 a7 W7 ⟨i,PA,Pc,hi,rfl,hj_,aW⟩
 refine ovz hj_ fun FU=>?_
 refine wq (wsq [.m 10 6,.m 11 0,.k 12 (vi ((rs.length:Int))),.k 13 (.bool (decide ((i:Int)<(rs.length:Int))))] ?_)
 refine aa (wds (fun jf js=>?_) fun jf js=>?_)
 refine wp_skip (aa (wq (wp_block (wsq [.k 7 (vi 0)] ?_))))
 refine aa (wp_block ?_)
 obtain⟨rt,hrt⟩:∃rt,rs[i]? =some rt:=⟨_,List.getElem?_eq_getElem (by omega)⟩
 have hrm:=List.mem_of_getElem? hrt
 have hro:=d4 (hL rt hrm)
 have hml:=hro.many
 refine aQ (fun t_ mz az W=>∃j:Nat,∃PB:Option Addr,∃Pd:Nat,j<=rt.r.eds.length/\mz=rt.r.eds.length-j/\az=⟨(ovr (jv az) [(7,7,0,[vi ((j:Int))]),(0,8,1,[]),(7,16,38,[])] t_).toArray,[]⟩/\St w [] [eB Dn 48 #[vi 0,vi 0,sn],eB pI 48 #[vi ((bj n ((i:Int)+1) (af ((rs.map RcT.r).take i) n) (rt.r.eds.take j)).1),vi ((bj n ((i:Int)+1) (af ((rs.map RcT.r).take i) n) (rt.r.eds.take j)).2.1),.slice PB ((bj n ((i:Int)+1) (af ((rs.map RcT.r).take i) n) (rt.r.eds.take j)).2.2.length) Pd],eO 9 1 (.slice PB ((bj n ((i:Int)+1) (af ((rs.map RcT.r).take i) n) (rt.r.eds.take j)).2.2.length) Pd) ((bj n ((i:Int)+1) (af ((rs.map RcT.r).take i) n) (rt.r.eds.take j)).2.2.length) ((bj n ((i:Int)+1) (af ((rs.map RcT.r).take i) n) (rt.r.eds.take j)).2.2.map Value.string)] W) (rt.r.eds.length-0) ?_ ?_
 exact⟨0,PA,Pc,Nat.zero_le _,rfl,(by kernel_rfl),aW.pk [0,1,2]⟩
 rintro UY a14 uY ⟨j,PB,Pd,hj,rfl,hj_,bZ⟩
 refine ovz hj_ fun TV=>?_
 refine wq (wsq [.m 16 7,.m 17 0,.m 18 6] ?_)
 refine sql (.pointer (some ((ad RA).add (i*8)))) bZ (fun cx=>aD (e:=27) (m:=i) (sz:=8) rfl (by kernel_rfl) (by kernel_rfl) (cx.ou 17) (cx.ou 18) (by omega) (by omega) (hR.row.ext cx.upd.to_ext) (bm (sz:=8) cG (by decide) (by omega))) ?_
 refine sql (.pointer (some ((ad RA).add (i*8+5)))) bZ (fun cx=>bn rfl (by kernel_rfl) (cx.ou 19)) ?_
 refine sql (.slice rt.A rt.r.eds.length rt.c) bZ (fun cx=>rL1 (cx.ou 20) (At.eltc (f:=rcC) (k:=5) cG (hR.row.ext cx.upd.to_ext) hrt rfl)) ?_
 refine sqp [.k 22 (vi ((rt.r.eds.length:Int))),.k 23 (.bool (decide ((j:Int)<(rt.r.eds.length:Int))))] ?_
 refine aa (wds (fun tA r5=>?_) fun tA r5=>?_)
 refine wp_skip (aa (wq (wp_block (wq ?_))))
 obtain⟨ep,es,eb,hek⟩:=CW (l:=rt.r.eds) (j:=j) (by omega)
 have hke:edR (ep,es,eb)=true:=hro.eds _ (List.mem_of_getElem? hek)
 have hez:eb.size<=9223372036854775807:=by have:=dn hke;dsimp only at this;omega
 have hri:bI (bj n ((i:Int)+1) (af ((rs.map RcT.r).take i) n) (rt.r.eds.take j)):=sq (fa _ _)
 by_cases hen:ep=n
 refine sqs [.m 26 0,.m 27 6] ?_
 refine sql (.pointer (some ((ad RA).add (i*8)))) bZ (fun cx=>aD (e:=27) (m:=i) (sz:=8) rfl (by kernel_rfl) (by kernel_rfl) (cx.ou 26) (cx.ou 27) (by omega) (by omega) (hR.row.ext cx.upd.to_ext) (bm (sz:=8) cG (by decide) (by omega))) ?_
 refine sql (.pointer (some ((ad RA).add (i*8+5)))) bZ (fun cx=>bn rfl (by kernel_rfl) (cx.ou 28)) ?_
 refine sql (.slice rt.A rt.r.eds.length rt.c) bZ (fun cx=>rL1 (cx.ou 29) (At.eltc (f:=rcC) (k:=5) cG (hR.row.ext cx.upd.to_ext) hrt rfl)) ?_
 refine sqp [.m 31 7] ?_
 refine sql (.pointer (some ((ad rt.A).add (j*3)))) bZ (fun cx=>aD (e:=84) (m:=j) (sz:=3) rfl (by kernel_rfl) (by kernel_rfl) (cx.ou 30) (cx.ou 31) (by omega) (by omega) ((hR.eds rt hrm).ext cx.upd.to_ext) (bm (sz:=3) bE (by decide) (by omega))) ?_
 refine sql (.pointer (some ((ad rt.A).add (j*3+0)))) bZ (fun cx=>bn rfl (by kernel_rfl) (cx.ou 32)) ?_
 refine sql (vi ep) bZ (fun cx=>rL1 (cx.ou 33) (At.eltc (f:=edC) (k:=0) bE ((hR.eds rt hrm).ext cx.upd.to_ext) hek rfl)) ?_
 have hd35:(ep==n)=true:=(beq_iff_eq.2 hen)
 refine sqp [.m 35 1,.e 36 (.bool (ep==n)) (.bool true) (congrArg Value.bool hd35)] ?_
 refine aa (wct rfl (wq ?_))
 obtain⟨er,hde⟩:∃z,doE (bj n ((i:Int)+1) (af ((rs.map RcT.r).take i) n) (rt.r.eds.take j)) (ep,es,eb) ((i:Int)+1)=z:=⟨_,rfl⟩
 by_cases hd0:er=0
 subst hd0
 have hd:=hde
 refine aB [0,0,0,6,14,30,0,126,254,0,512,2047,0,8191] [[1],[],[],[],[],[],[],[],[],[],[],[2],[],[4]] [[],[],[],[],[],[],[],[],[],[],[],[3],[4],[5]] [[],[],[],[],[],[],[],[],[],[],[],[],[],[4]] [.c 37 (.agg #[vi ((bj n ((i:Int)+1) (af ((rs.map RcT.r).take i) n) (rt.r.eds.take j)).1),vi ((bj n ((i:Int)+1) (af ((rs.map RcT.r).take i) n) (rt.r.eds.take j)).2.1),.slice PB ((bj n ((i:Int)+1) (af ((rs.map RcT.r).take i) n) (rt.r.eds.take j)).2.2.length) Pd]),.k 38 (.slice RA rs.length rc),.k 39 (vi ((i:Int))),.c 40 (.pointer (some ((ad RA).add (i*8)))),.c 41 (.pointer (some ((ad RA).add (i*8+5)))),.c 42 (.slice rt.A rt.r.eds.length rt.c),.k 43 (vi ((j:Int))),.c 44 (.pointer (some ((ad rt.A).add (j*3)))),.c 45 (.agg #[vi ep,vi es,.string eb]),.k 46 (vi ((i:Int))),tI 47 ((i:Int)+1) (by omega),.a 48,.a 8,.n] (fun ix d b X=>match ix with|0|1|2|3|4|5|6|7|8|9|10=>True|11=>d 48= .agg #[vi ((doV (bj n ((i:Int)+1) (af ((rs.map RcT.r).take i) n) (rt.r.eds.take j)) (ep,es,eb) ((i:Int)+1)).1),vi ((doV (bj n ((i:Int)+1) (af ((rs.map RcT.r).take i) n) (rt.r.eds.take j)) (ep,es,eb) ((i:Int)+1)).2.1),.slice (sA (tg (b 48) 2)) ((doV (bj n ((i:Int)+1) (af ((rs.map RcT.r).take i) n) (rt.r.eds.take j)) (ep,es,eb) ((i:Int)+1)).2.2.length) (sC (tg (b 48) 2)),vi 0]/\X 3=eO 9 1 (.slice (sA (tg (b 48) 2)) ((doV (bj n ((i:Int)+1) (af ((rs.map RcT.r).take i) n) (rt.r.eds.take j)) (ep,es,eb) ((i:Int)+1)).2.2.length) (sC (tg (b 48) 2))) ((doV (bj n ((i:Int)+1) (af ((rs.map RcT.r).take i) n) (rt.r.eds.take j)) (ep,es,eb) ((i:Int)+1)).2.2.length) ((doV (bj n ((i:Int)+1) (af ((rs.map RcT.r).take i) n) (rt.r.eds.take j)) (ep,es,eb) ((i:Int)+1)).2.2.map Value.string)|12=>d 8=vp (pb (b 8))/\X 4=eB (pb (b 8)) 78 #[vi 0,vi 0,sn,vi 0]|13=>X 5=eB (pb (b 8)) 78 #[vi ((doV (bj n ((i:Int)+1) (af ((rs.map RcT.r).take i) n) (rt.r.eds.take j)) (ep,es,eb) ((i:Int)+1)).1),vi ((doV (bj n ((i:Int)+1) (af ((rs.map RcT.r).take i) n) (rt.r.eds.take j)) (ep,es,eb) ((i:Int)+1)).2.1),.slice (sA (tg (b 48) 2)) ((doV (bj n ((i:Int)+1) (af ((rs.map RcT.r).take i) n) (rt.r.eds.take j)) (ep,es,eb) ((i:Int)+1)).2.2.length) (sC (tg (b 48) 2)),vi 0]|_=>True) [0,1,2,3,5] [0,3,4,5,7,8,11,12,13] [(8,12,1,9),(28,0,12,40)] bZ ?_ ?_ ?_
 exact fun ix _ _ _ _ _ _ hs hb hx h=>match ix,h with
 |11,h=>by dsimp only;rw[<-hs 48 rfl,<-hb 48 rfl,<-hx 3 rfl];exact h
 |12,h=>by dsimp only;rw[<-hs 8 rfl,<-hb 8 rfl,<-hx 4 rfl];exact h
 |13,h=>by dsimp only;rw[<-hb 8 rfl,<-hb 48 rfl,<-hx 5 rfl];exact h
 |0,_|1,_|2,_|3,_|4,_|5,_|6,_|7,_|8,_|9,_|10,_|_+14,_=>trivial
 refine⟨?_,?_,?_,?_,?_,?_,?_,?_,?_,trivial⟩
 exact xs4 rfl id fun cx=>rLB (n:=3) (cx.ou 5) (cx.bi 1 rfl) (nle rfl) rfl
 exact xs4 rfl id fun cx=>aD (e:=27) (m:=i) (sz:=8) rfl (by kernel_rfl) (by kernel_rfl) (cx.an 1) (cx.an 2) (by omega) (by omega) (hR.row.ext cx.upd.to_ext) (bm (sz:=8) cG (by decide) (by omega))
 exact xs4 rfl id fun cx=>bn rfl (by kernel_rfl) (cx.an 3)
 exact xs4 rfl id fun cx=>rL1 (cx.an 4) (At.eltc (f:=rcC) (k:=5) cG (hR.row.ext cx.upd.to_ext) hrt rfl)
 exact xs4 rfl id fun cx=>aD (e:=84) (m:=j) (sz:=3) rfl (by kernel_rfl) (by kernel_rfl) (cx.an 5) (cx.an 6) (by omega) (by omega) ((hR.eds rt hrm).ext cx.upd.to_ext) (bm (sz:=3) bE (by decide) (by omega))
 exact xs4 rfl id fun cx=>bS (f:=edC) (m:=j) (sz:=3) (off:=0) (n:=3) rfl (by kernel_rfl) (by kernel_rfl) (cx.an 7) rfl bE ((hR.eds rt hrm).ext cx.upd.to_ext) hek (fun k hk=>match k,hk with|0,_=>rfl|1,_=>rfl|2,_=>rfl|k+3,hk=>absurd hk (by omega))
 refine svA fun g b W X cx=>?_
 refine ak.call (rCF (args:=#[.agg #[vi ((bj n ((i:Int)+1) (af ((rs.map RcT.r).take i) n) (rt.r.eds.take j)).1),vi ((bj n ((i:Int)+1) (af ((rs.map RcT.r).take i) n) (rt.r.eds.take j)).2.1),.slice PB ((bj n ((i:Int)+1) (af ((rs.map RcT.r).take i) n) (rt.r.eds.take j)).2.2.length) Pd],.agg #[vi ep,vi es,.string eb],vi ((i:Int)+1)]) cx.sees (dH (cx.an 0) (cx.an 8) (cx.an 10))) ?_
 refine(Bo hde (rL (bj n ((i:Int)+1) (af ((rs.map RcT.r).take i) n) (rt.r.eds.take j)).1 (bj n ((i:Int)+1) (af ((rs.map RcT.r).take i) n) (rt.r.eds.take j)).2.1 _ _ (bj n ((i:Int)+1) (af ((rs.map RcT.r).take i) n) (rt.r.eds.take j)).2.2 ep es eb ((i:Int)+1) _ (At.of_own (cx.ri 2 rfl)) hri.1 (lh (cx.ri 2 rfl)) hez)).mono ?_
 rintro e W1 ⟨A4,c4,rfl,ho,hx⟩
 refine⟨_,rfl,bK [eO 9 1 (.slice A4 (doV (bj n ((i:Int)+1) (af ((rs.map RcT.r).take i) n) (rt.r.eds.take j)) (ep,es,eb) ((i:Int)+1)).2.2.length c4) (doV (bj n ((i:Int)+1) (af ((rs.map RcT.r).take i) n) (rt.r.eds.take j)) (ep,es,eb) ((i:Int)+1)).2.2.length ((doV (bj n ((i:Int)+1) (af ((rs.map RcT.r).take i) n) (rt.r.eds.take j)) (ep,es,eb) ((i:Int)+1)).2.2.map Value.string)] rfl rfl hx (one_new (cf ho)) (List.pairwise_singleton _ _) (fun d o X' hs hb hv hN=>?_)⟩
 have aH:=(hv 48 rfl).1;have aO:=(hv 48 rfl).2
 exact⟨aH.trans (by rw[aO];exact rfl),(by rw[aO];exact(List.cons.inj hN).1)⟩
 refine svA fun g b W X cx=>?_
 exact dVA (cs:=#[vi 0,vi 0,sn,vi 0]) rfl rfl rfl (fun _ _ _ _ _=> .intro)
 refine svA fun g b W X cx=>?_
 exact dVS (n:=4) rfl (dTn (cx.an 12)).1 (dTn (cx.an 11)).1 cx (dTn (cx.an 12)).2 rfl (nle rfl) rfl rfl rfl (fun d o X' hs hb hx=>by rw[hb 8,hb 48];exact hx)
 intro d b X xB hD dX fr aC
 simp only[exq 3 ((dTn (hD 11 lq)).2),exq 5 ((dTn (hD 13 lq)))] at dX
 simp only[ed 48 ((dTn (hD 11 lq)).1),ed 8 ((dTn (hD 12 lq)).1)] at aC
 generalize sA (tg (b 48) 2)=F4,sC (tg (b 48) 2)=F5,pb (b 8)=JF at dX aC
 clear hD;subst aC;clear d b X
 refine aa (wsq [.k 49 (po JF 3)] ?_)
 refine am 4 dX ?_
 refine sqp [.k 51 (.bool true)] ?_
 refine aa (wct rfl (sqs [.k 52 (vp JF)] ?_))
 refine bD 4 3 dX ?_
 refine aT (n:=3) 1 #[vi ((doV (bj n ((i:Int)+1) (af ((rs.map RcT.r).take i) n) (rt.r.eds.take j)) (ep,es,eb) ((i:Int)+1)).1),vi ((doV (bj n ((i:Int)+1) (af ((rs.map RcT.r).take i) n) (rt.r.eds.take j)) (ep,es,eb) ((i:Int)+1)).2.1),.slice F4 ((doV (bj n ((i:Int)+1) (af ((rs.map RcT.r).take i) n) (rt.r.eds.take j)) (ep,es,eb) ((i:Int)+1)).2.2.length) F5] dX fun uX fu=>?_
 refine aq (aa (sqs [.m 24 7,sI 25 ((j:Int)+1) (by omega),.m 7 25] ?_))
 refine aa ?_
 have hf46_:=fu.u2.c0
 have hee:(doV (bj n ((i:Int)+1) (af ((rs.map RcT.r).take i) n) (rt.r.eds.take j)) (ep,es,eb) ((i:Int)+1))=bj n ((i:Int)+1) (af ((rs.map RcT.r).take i) n) (rt.r.eds.take (j+1)):=by rw[pu hek];rw[edA,if_pos ⟨hen,hd⟩]
 rw[hee] at hf46_
 refine⟨rt.r.eds.length-((j+1)),by omega,?_⟩
 exact⟨(j+1),F4,F5,by omega,rfl,(by kernel_rfl),hf46_.pk [0,1,2]⟩
 have hdn:¬doE (bj n ((i:Int)+1) (af ((rs.map RcT.r).take i) n) (rt.r.eds.take j)) (ep,es,eb) ((i:Int)+1)=0:=fun h=>hd0 (hde.symm.trans h)
 refine aB [0,0,0,6,14,30,0,126,254,0,512,2047,0,8191] [[1],[],[],[],[],[],[],[],[],[],[],[2],[],[4]] [[],[],[],[],[],[],[],[],[],[],[],[3],[4],[5]] [[],[],[],[],[],[],[],[],[],[],[],[],[],[4]] [.c 37 (.agg #[vi ((bj n ((i:Int)+1) (af ((rs.map RcT.r).take i) n) (rt.r.eds.take j)).1),vi ((bj n ((i:Int)+1) (af ((rs.map RcT.r).take i) n) (rt.r.eds.take j)).2.1),.slice PB ((bj n ((i:Int)+1) (af ((rs.map RcT.r).take i) n) (rt.r.eds.take j)).2.2.length) Pd]),.k 38 (.slice RA rs.length rc),.k 39 (vi ((i:Int))),.c 40 (.pointer (some ((ad RA).add (i*8)))),.c 41 (.pointer (some ((ad RA).add (i*8+5)))),.c 42 (.slice rt.A rt.r.eds.length rt.c),.k 43 (vi ((j:Int))),.c 44 (.pointer (some ((ad rt.A).add (j*3)))),.c 45 (.agg #[vi ep,vi es,.string eb]),.k 46 (vi ((i:Int))),tI 47 ((i:Int)+1) (by omega),.a 48,.a 8,.n] (fun ix d b X=>match ix with|0|1|2|3|4|5|6|7|8|9|10=>True|11=>d 48= .agg #[vi bp.1,vi bp.2.1,.slice (sA (tg (b 48) 2)) bp.2.2.length (sC (tg (b 48) 2)),vi er]/\X 3=eO 9 1 (.slice (sA (tg (b 48) 2)) bp.2.2.length (sC (tg (b 48) 2))) bp.2.2.length (bp.2.2.map Value.string)|12=>d 8=vp (pb (b 8))/\X 4=eB (pb (b 8)) 78 #[vi 0,vi 0,sn,vi 0]|13=>X 5=eB (pb (b 8)) 78 #[vi bp.1,vi bp.2.1,.slice (sA (tg (b 48) 2)) bp.2.2.length (sC (tg (b 48) 2)),vi er]|_=>True) [0,1,2,3,5] [0,3,4,5,7,8,11,12,13] [(8,12,1,9),(28,0,12,40)] bZ ?_ ?_ ?_
 exact fun ix _ _ _ _ _ _ hs hb hx h=>match ix,h with
 |11,h=>by dsimp only;rw[<-hs 48 rfl,<-hb 48 rfl,<-hx 3 rfl];exact h
 |12,h=>by dsimp only;rw[<-hs 8 rfl,<-hb 8 rfl,<-hx 4 rfl];exact h
 |13,h=>by dsimp only;rw[<-hb 8 rfl,<-hb 48 rfl,<-hx 5 rfl];exact h
 |0,_|1,_|2,_|3,_|4,_|5,_|6,_|7,_|8,_|9,_|10,_|_+14,_=>trivial
 refine⟨?_,?_,?_,?_,?_,?_,?_,?_,?_,trivial⟩
 exact xs4 rfl id fun cx=>rLB (n:=3) (cx.ou 5) (cx.bi 1 rfl) (nle rfl) rfl
 exact xs4 rfl id fun cx=>aD (e:=27) (m:=i) (sz:=8) rfl (by kernel_rfl) (by kernel_rfl) (cx.an 1) (cx.an 2) (by omega) (by omega) (hR.row.ext cx.upd.to_ext) (bm (sz:=8) cG (by decide) (by omega))
 exact xs4 rfl id fun cx=>bn rfl (by kernel_rfl) (cx.an 3)
 exact xs4 rfl id fun cx=>rL1 (cx.an 4) (At.eltc (f:=rcC) (k:=5) cG (hR.row.ext cx.upd.to_ext) hrt rfl)
 exact xs4 rfl id fun cx=>aD (e:=84) (m:=j) (sz:=3) rfl (by kernel_rfl) (by kernel_rfl) (cx.an 5) (cx.an 6) (by omega) (by omega) ((hR.eds rt hrm).ext cx.upd.to_ext) (bm (sz:=3) bE (by decide) (by omega))
 exact xs4 rfl id fun cx=>bS (f:=edC) (m:=j) (sz:=3) (off:=0) (n:=3) rfl (by kernel_rfl) (by kernel_rfl) (cx.an 7) rfl bE ((hR.eds rt hrm).ext cx.upd.to_ext) hek (fun k hk=>match k,hk with|0,_=>rfl|1,_=>rfl|2,_=>rfl|k+3,hk=>absurd hk (by omega))
 refine svA fun g b W X cx=>?_
 refine ak.call (rCF (args:=#[.agg #[vi ((bj n ((i:Int)+1) (af ((rs.map RcT.r).take i) n) (rt.r.eds.take j)).1),vi ((bj n ((i:Int)+1) (af ((rs.map RcT.r).take i) n) (rt.r.eds.take j)).2.1),.slice PB ((bj n ((i:Int)+1) (af ((rs.map RcT.r).take i) n) (rt.r.eds.take j)).2.2.length) Pd],.agg #[vi ep,vi es,.string eb],vi ((i:Int)+1)]) cx.sees (dH (cx.an 0) (cx.an 8) (cx.an 10))) ?_
 refine(BD hde hd0 (rL (bj n ((i:Int)+1) (af ((rs.map RcT.r).take i) n) (rt.r.eds.take j)).1 (bj n ((i:Int)+1) (af ((rs.map RcT.r).take i) n) (rt.r.eds.take j)).2.1 _ _ (bj n ((i:Int)+1) (af ((rs.map RcT.r).take i) n) (rt.r.eds.take j)).2.2 ep es eb ((i:Int)+1) _ (At.of_own (cx.ri 2 rfl)) hri.1 (lh (cx.ri 2 rfl)) hez)).mono ?_
 rintro e W1 ⟨A4,c4,rfl,ho,hx⟩
 refine⟨_,rfl,bK [eO 9 1 (.slice A4 bp.2.2.length c4) bp.2.2.length (bp.2.2.map Value.string)] rfl rfl hx (one_new (cf ho)) (List.pairwise_singleton _ _) (fun d o X' hs hb hv hN=>?_)⟩
 have aH:=(hv 48 rfl).1;have aO:=(hv 48 rfl).2
 exact⟨aH.trans (by rw[aO];exact rfl),(by rw[aO];exact(List.cons.inj hN).1)⟩
 refine svA fun g b W X cx=>?_
 exact dVA (cs:=#[vi 0,vi 0,sn,vi 0]) rfl rfl rfl (fun _ _ _ _ _=> .intro)
 refine svA fun g b W X cx=>?_
 exact dVS (n:=4) rfl (dTn (cx.an 12)).1 (dTn (cx.an 11)).1 cx (dTn (cx.an 12)).2 rfl (nle rfl) rfl rfl rfl (fun d o X' hs hb hx=>by rw[hb 8,hb 48];exact hx)
 intro d b X MP hD gp fr aC
 simp only[exq 3 ((dTn (hD 11 lq)).2),exq 5 ((dTn (hD 13 lq)))] at gp
 simp only[ed 48 ((dTn (hD 11 lq)).1),ed 8 ((dTn (hD 12 lq)).1)] at aC
 generalize sA (tg (b 48) 2)=Sg,sC (tg (b 48) 2)=Sm,pb (b 8)=Pm at gp aC
 clear hD;subst aC;clear d b X
 refine aa (wsq [.k 49 (po Pm 3)] ?_)
 refine am 4 gp ?_
 have hd51:(er==0)=false:=(beq_eq_false_iff_ne.2 hd0)
 refine sqp [.e 51 (.bool (er==0)) (.bool false) (congrArg Value.bool hd51)] ?_
 refine aa (wcf rfl (wp_skip (aq (aa (sqs [.m 24 7,sI 25 ((j:Int)+1) (by omega),.m 7 25] ?_)))))
 refine aa ?_
 have hee:(bj n ((i:Int)+1) (af ((rs.map RcT.r).take i) n) (rt.r.eds.take j))=bj n ((i:Int)+1) (af ((rs.map RcT.r).take i) n) (rt.r.eds.take (j+1)):=by rw[pu hek];rw[edA,if_neg (fun h=>hdn h.2)]
 rw[hee] at gp
 refine⟨rt.r.eds.length-((j+1)),by omega,?_⟩
 exact⟨(j+1),PB,Pd,by omega,rfl,(by kernel_rfl),gp.pk [0,1,2]⟩
 have hne:¬(ep,es,eb).1=n:=hen
 refine sqs [.m 26 0,.m 27 6] ?_
 refine sql (.pointer (some ((ad RA).add (i*8)))) bZ (fun cx=>aD (e:=27) (m:=i) (sz:=8) rfl (by kernel_rfl) (by kernel_rfl) (cx.ou 26) (cx.ou 27) (by omega) (by omega) (hR.row.ext cx.upd.to_ext) (bm (sz:=8) cG (by decide) (by omega))) ?_
 refine sql (.pointer (some ((ad RA).add (i*8+5)))) bZ (fun cx=>bn rfl (by kernel_rfl) (cx.ou 28)) ?_
 refine sql (.slice rt.A rt.r.eds.length rt.c) bZ (fun cx=>rL1 (cx.ou 29) (At.eltc (f:=rcC) (k:=5) cG (hR.row.ext cx.upd.to_ext) hrt rfl)) ?_
 refine sqp [.m 31 7] ?_
 refine sql (.pointer (some ((ad rt.A).add (j*3)))) bZ (fun cx=>aD (e:=84) (m:=j) (sz:=3) rfl (by kernel_rfl) (by kernel_rfl) (cx.ou 30) (cx.ou 31) (by omega) (by omega) ((hR.eds rt hrm).ext cx.upd.to_ext) (bm (sz:=3) bE (by decide) (by omega))) ?_
 refine sql (.pointer (some ((ad rt.A).add (j*3+0)))) bZ (fun cx=>bn rfl (by kernel_rfl) (cx.ou 32)) ?_
 refine sql (vi ep) bZ (fun cx=>rL1 (cx.ou 33) (At.eltc (f:=edC) (k:=0) bE ((hR.eds rt hrm).ext cx.upd.to_ext) hek rfl)) ?_
 have hd66:(ep==n)=false:=(beq_eq_false_iff_ne.2 hen)
 refine sqp [.m 35 1,.e 36 (.bool (ep==n)) (.bool false) (congrArg Value.bool hd66)] ?_
 refine aa (wcf rfl (wp_skip (aq (aa (sqs [.m 24 7,sI 25 ((j:Int)+1) (by omega),.m 7 25] ?_)))))
 refine aa ?_
 have hee:(bj n ((i:Int)+1) (af ((rs.map RcT.r).take i) n) (rt.r.eds.take j))=bj n ((i:Int)+1) (af ((rs.map RcT.r).take i) n) (rt.r.eds.take (j+1)):=by rw[pu hek];rw[edA,if_neg (fun h=>hne h.1)]
 rw[hee] at bZ
 refine⟨rt.r.eds.length-((j+1)),by omega,?_⟩
 exact⟨(j+1),PB,Pd,by omega,rfl,(by kernel_rfl),bZ.pk [0,1,2]⟩
 refine wp_exit (al (al (bf (aq (aa (sqs [.m 14 6,sI 15 ((i:Int)+1) (by omega),.m 6 15] ?_))))))
 refine aa ?_
 have hje:j=rt.r.eds.length:=by omega
 have hce:bj n ((i:Int)+1) (af ((rs.map RcT.r).take i) n) (rt.r.eds.take j)=af ((rs.map RcT.r).take (i+1)) n:=by rw[EH hrt,hje,List.take_length]
 rw[hce] at bZ
 refine⟨rs.length-((i+1)),by omega,?_⟩
 exact⟨(i+1),PB,Pd,by omega,rfl,(by kernel_rfl),bZ.pk [0,1,2]⟩
 refine wp_exit (al (al (bf (aa (wq ?_)))))
 have hct:(af ((rs.map RcT.r).take i) n)=af (rs.map RcT.r) n:=by rw[List.take_of_length_le (by rw[List.length_map];omega)]
 rw[hct] at aW
 refine sqr ?_
 refine bD 1 3 aW ?_
 refine aT (n:=3) 0 #[vi ((af (rs.map RcT.r) n).1),vi ((af (rs.map RcT.r) n).2.1),.slice PA ((af (rs.map RcT.r) n).2.2.length) Pc] aW fun Jr gZ=>?_
 exact aa (wp_ret (bpr (.agg #[vi ((af (rs.map RcT.r) n).1),vi ((af (rs.map RcT.r) n).2.1),.slice PA ((af (rs.map RcT.r) n).2.2.length) Pc]) (bB (n:=3) results36 rfl (by kernel_rfl) (by kernel_rfl) (gZ.blk 0 rfl) rfl) (⟨_,_,rfl,gZ.own' 2 rfl,gZ.ext⟩)))
theorem AR(RA:Option Addr)(rc:Nat)(rs:List RcT)(w:World)(hR:RAt w RA rs)(hl:rs.length<=1000000):
  Calls P_ 82 #[.slice RA rs.length rc] w (Ret (.int .i64 (be (rs.map RcT.r):Int)) w):=by
 go_enter func82,ntmps82
 have aj:=St.start w
 refine wsq [.k 2 (vi 0)] ?_
 refine aa (wq (wsq [.m 4 0,.k 5 (vi ((rs.length:Int))),.m 3 5] ?_))
 refine aa (wp_block ?_)
 refine aQ (fun t_ mz az W=>∃k:Nat,k<=rs.length/\be ((rs.map RcT.r).take k)=be (rs.map RcT.r)/\mz=k+1/\az=⟨(ovr (jv az) [(2,2,1,[vi ((k:Int))]),(2,6,12,[])] t_).toArray,[]⟩/\St w [] [] W) (rs.length+1) ?_ ?_
 exact⟨rs.length,Nat.le_refl _,by rw[List.take_of_length_le (by rw[List.length_map];omega)],rfl,(by kernel_rfl),aj.pk []⟩
 rintro n5 a5 W5 ⟨k,hk,hft,rfl,hj_,aK⟩
 refine ovz hj_ fun xE=>?_
 refine wq (wsq [.m 6 3,.k 7 (.bool (decide (0<(k:Int))))] ?_)
 refine aa (wds (fun NP I3=>?_) fun NP I3=>?_)
 refine wp_skip (aa (wq (wp_block (wq ?_))))
 have hk0:0<k:=by omega
 obtain⟨rt,hrt⟩:∃rt,rs[k-1]? =some rt:=⟨_,List.getElem?_eq_getElem (by omega)⟩
 have hrm:=List.mem_of_getElem? hrt
 refine sqs [.m 10 0,.m 11 3,sI 12 ((k:Int)-1) (by omega)] ?_
 refine sql (.pointer (some ((ad RA).add ((k-1)*8)))) aK (fun cx=>aD (e:=27) (m:=(k-1)) (sz:=8) rfl (by kernel_rfl) (by kernel_rfl) (cx.ou 10) (cx.ou 12) (by omega) (by omega) (hR.row.ext cx.upd.to_ext) (bm (sz:=8) cG (by decide) (by omega))) ?_
 refine sql (.pointer (some ((ad RA).add ((k-1)*8+0)))) aK (fun cx=>bn rfl (by kernel_rfl) (cx.ou 13)) ?_
 refine sql (vi rt.r.kind) aK (fun cx=>rL1 (cx.ou 14) (At.eltc (f:=rcC) (k:=0) cG (hR.row.ext cx.upd.to_ext) hrt rfl)) ?_
 refine sqp [.k 16 (.bool (rt.r.kind==9))] ?_
 refine aa (wbs (fun dj=>?_) fun dj=>?_)
 have mf:=beq_iff_eq.1 dj
 refine wsq [.m 17 3,.m 2 17] ?_
 refine aa (wp_ret (aY (ai (ai (aY (ai ?_))))))
 exact bpr (vi ((k:Int))) (ag results82 rpt) (Ret.of (by rw[<-hft];have h_:=EF (i:=k-1) hrt (by simpa using dj);rw[show k-1+1=k by omega] at h_;rw[h_]) aK.ext)
 have mf:=beq_eq_false_iff_ne.1 dj
 refine wp_skip (aq (aa (sqs [.m 8 3,sI 9 ((k:Int)-1) (by omega),.m 3 9] ?_)))
 refine aa ?_
 rw[show ((k:Int)-1)=((k-1:Nat):Int) by omega]
 refine⟨((k-1))+1,by omega,?_⟩
 exact⟨(k-1),by omega,((GY (i:=k-1) hrt (by simpa using dj)).symm.trans (by rw[show k-1+1=k by omega])).trans hft,rfl,(by kernel_rfl),aK.pk []⟩
 refine wp_exit (al (al (bf (aa (wsq [.k 2 (vi 0)] ?_)))))
 exact aa (wp_ret (bpr (vi 0) (ag results82 rpt) (Ret.of (by rw[<-hft,show k=0 by omega];rfl) aK.ext)))
theorem x7(RA:Option Addr)(rc:Nat)(rs:List RcT)(n:Int)(w:World)(hR:RAt w RA rs)(hl:rs.length<=1000000):
  Calls P_ 141 #[.slice RA rs.length rc,.int .i64 n] w (Ret (.bool (eT (rs.map RcT.r) n)) w):=by
 go_enter func141,ntmps141
 have aj:=St.start w
 refine wsq [.k 4 (.bool false)] ?_
 refine aa (wq (wsq [.m 6 0] ?_))
 refine sqk (vi ((be (rs.map RcT.r):Int))) aj (fun cx=>⟨_,AR _ _ rs _ (hR.ext cx.upd.to_ext) hl,(av (cx.ou 6))⟩) fun W3 aU=>?_
 refine sqp [.m 5 7] ?_
 refine aa (wp_block ?_)
 have hfl:=o7 (rs.map RcT.r)
 rw[List.length_map] at hfl
 refine aQ (fun t_ mz az W=>∃i:Nat,i<=rs.length/\imN (rs.map RcT.r) n i=eT (rs.map RcT.r) n/\mz=rs.length-i/\az=⟨(ovr (jv az) [(4,4,1,[vi ((i:Int))]),(2,8,21,[])] t_).toArray,[]⟩/\St w [] [] W) (rs.length-((be (rs.map RcT.r)))) ?_ ?_
 exact⟨(be (rs.map RcT.r)),hfl,Hu _ _,rfl,(by kernel_rfl),aU.pk []⟩
 rintro n5 a5 W5 ⟨i,hi,him,rfl,hj_,aK⟩
 refine ovz hj_ fun xE=>?_
 refine wq (wsq [.m 8 5,.m 9 0,.k 10 (vi ((rs.length:Int))),.k 11 (.bool (decide ((i:Int)<(rs.length:Int))))] ?_)
 refine aa (wds (fun kK pU=>?_) fun kK pU=>?_)
 ·refine wp_skip (aa (wq (wp_block (wq ?_))))
  obtain⟨rt,hrt⟩:∃rt,rs[i]? =some rt:=⟨_,List.getElem?_eq_getElem (by omega)⟩
  have hrm:=List.mem_of_getElem? hrt
  refine sqs [.m 14 0,.m 15 5] ?_
  refine sql (.pointer (some ((ad RA).add (i*8)))) aK (fun cx=>aD (e:=27) (m:=i) (sz:=8) rfl (by kernel_rfl) (by kernel_rfl) (cx.ou 14) (cx.ou 15) (by omega) (by omega) (hR.row.ext cx.upd.to_ext) (bm (sz:=8) cG (by decide) (by omega))) ?_
  refine sql (.pointer (some ((ad RA).add (i*8+0)))) aK (fun cx=>bn rfl (by kernel_rfl) (cx.ou 16)) ?_
  refine sql (vi rt.r.kind) aK (fun cx=>rL1 (cx.ou 17) (At.eltc (f:=rcC) (k:=0) cG (hR.row.ext cx.upd.to_ext) hrt rfl)) ?_
  refine sqp [.k 19 (.bool (rt.r.kind==8)),.m 20 19] ?_
  refine d3 20 [21,22,23,24,25,26,27] ?_ rfl (fun hq=>?_) ?_
  rotate_left
  have hq_:=hq
  try simp only[zB] at hq_
  refine sqp [.m 21 0,.m 22 5] ?_
  refine sql (.pointer (some ((ad RA).add (i*8)))) aK (fun cx=>aD (e:=27) (m:=i) (sz:=8) rfl (by kernel_rfl) (by kernel_rfl) (cx.ou 21) (cx.ou 22) (by omega) (by omega) (hR.row.ext cx.upd.to_ext) (bm (sz:=8) cG (by decide) (by omega))) ?_
  refine sql (.pointer (some ((ad RA).add (i*8+2)))) aK (fun cx=>bn rfl (by kernel_rfl) (cx.ou 23)) ?_
  refine sql (vi rt.r.tbl) aK (fun cx=>rL1 (cx.ou 24) (At.eltc (f:=rcC) (k:=2) cG (hR.row.ext cx.upd.to_ext) hrt rfl)) ?_
  refine sqp [.m 26 1,.k 27 (.bool (rt.r.tbl==n))] ?_
  exact sqe
  refine c7 ?_
  refine sqp [sPa 28 (rt.r.kind==8) (rt.r.tbl==n)] ?_
  refine aa (wbs (fun fk=>?_) fun fk=>?_)
  have fi:=fk
  simp only[zB] at fi
  obtain⟨zR,zS⟩:=fi
  refine wsq [.k 4 (.bool true)] ?_
  refine aa (wp_ret (aY (ai (ai (aY (ai ?_))))))
  exact bpr (.bool true) (ag results141 rpt) (Ret.of (by rw[<-him,yc hrt];have h_:=fk;rw[h_];rfl) aK.ext)
  have fi:=fk
  simp only[zB] at fi
  refine wp_skip (aq (aa (sqs [.m 12 5,sI 13 ((i:Int)+1) (by omega),.m 5 13] ?_)))
  refine aa ?_
  refine⟨rs.length-((i+1)),by omega,?_⟩
  exact⟨(i+1),by omega,by rw[<-him,yc hrt];have h_:=fk;rw[h_];rfl,rfl,(by kernel_rfl),aK.pk []⟩
 refine wp_exit (al (al (bf (aa (wsq [.k 4 (.bool false)] ?_)))))
 exact aa (wp_ret (bpr (.bool false) (ag results141 rpt) (Ret.of (by rw[<-him,imN,List.drop_of_length_le (by rw[List.length_map];omega)];rfl) aK.ext)))
end
section
open Go.RowKit
theorem Tryz.infoBoolR:(Tryz.prog.info? 4).map (fun i=>(i.zero,i.size,i.bytes))=some (some (.bool false),1,1):=by kernel_rfl
def tB(told:Int->Bool)(p:Nat):List Value:=(List.range p).map fun k:Nat=>Value.bool (told (k:Int))
theorem oB(told:Int->Bool)(p:Nat):(tB told p).length=p:=by simp[tB]
theorem uC{p:Nat}(h:k<p):(tB told p)[k]? =some (.bool (told (k:Int))):=by simp[tB,h]
theorem EN{p:Nat}(b:Bool):(tB told p).set k (.bool b)=tB (fun x=>if x=(k:Int) then b else told x) p:=by
 refine List.ext_getElem? fun i=>?_
 rw[List.getElem?_set,oB]
 by_cases hi:i<p
 rw[uC hi,uC hi]
 by_cases hk:k=i
 subst hk;rw[if_pos rfl,if_pos hi,if_pos rfl]
 rw[if_neg hk,if_neg (fun h=>hk (by omega))]
 have h2:∀f,(tB f p)[i]? =none:=fun f=>List.getElem?_eq_none (by rw[oB];omega)
 rw[h2,h2]
 by_cases hk:k=i
 rw[if_pos hk,if_neg (by omega)]
 rw[if_neg hk]
def rqL(rb:Nat)(rs:List RcT)(told:Int->Bool)(p:Nat)(rr:List RcT)(RA:Option Addr)(rc:Nat)(TA:Option Addr)(tc:Nat):List Ent:=
 [eB rb 69 #[vi p,.slice RA rs.length rc,vi (szF (rs.map RcT.r):Int),.slice TA p tc],eO 27 8 (.slice RA rs.length rc) rs.length (rs.flatMap rcC),eO 4 1 (.slice TA p tc) p (tB told p),eRc rr]
def eRq(rb:Nat)(rs:List RcT)(told:Int->Bool)(p:Nat)(rr:List RcT)(fp:List Nat):Ent:=⟨fp,fun W=>∃RA rc TA tc,fp=(rqL rb rs told p rr RA rc TA tc).flatMap (·.fp)/\(rqL rb rs told p rr RA rc TA tc).Pairwise Ent.apart/\∀e∈rqL rb rs told p rr RA rc TA tc,e.holds W/\e.loc⟩
theorem mi(rb:Nat)(rs:List RcT)(told:Int->Bool)(p:Nat)(rr:List RcT)(fp:List Nat):(eRq rb rs told p rr fp).loc:=fun W W' hk h=>by
 obtain⟨RA,rc,TA,tc,h1,h2,h3⟩:=h
 exact⟨RA,rc,TA,tc,h1,h2,fun e he=>⟨(h3 e he).2 W W' (fun k hk'=>hk k (by rw[eRq,h1];exact List.mem_flatMap.2 ⟨e,he,hk'⟩)) (h3 e he).1,(h3 e he).2⟩⟩
theorem oV{e:Ent}{rb:Nat}{p:Nat}{rr:List RcT}(h:e=eRq rb rs told p rr fp):e=eRq rb rs told p rr e.fp:=by subst h;rfl
section
variable{w0 W:World}{bor:List Nat}{L:List Ent}{rb:Nat}{rs:List RcT}{told:Int->Bool}{p:Nat}{rr:List RcT}{fp:List Nat}
theorem St.unrq(h:St w0 bor (eRq rb rs told p rr fp::L) W):∃RA rc TA tc,St w0 bor (eB rb 69 #[vi p,.slice RA rs.length rc,vi (szF (rs.map RcT.r):Int),.slice TA p tc]::eO 27 8 (.slice RA rs.length rc) rs.length (rs.flatMap rcC)::eO 4 1 (.slice TA p tc) p (tB told p)::eRc rr::L) W:=by
 obtain⟨RA,rc,TA,tc,h1,h2,h3⟩:=(h.ok (eRq rb rs told p rr fp) (by simp)).holds
 exact⟨RA,rc,TA,tc,((h.perm (List.perm_append_singleton _ L).symm).unpackL h1 h3 h2).perm List.perm_append_comm⟩
theorem St.rq{RA:Option Addr}{rc:Nat}{TA:Option Addr}{tc:Nat}(h:St w0 bor (rqL rb rs told p rr RA rc TA tc++L) W):∃fp,St w0 bor (eRq rb rs told p rr fp::L) W:=by
 have h':=h.perm List.perm_append_comm
 have h4:=St.pack (E:=eRq rb rs told p rr ((rqL rb rs told p rr RA rc TA tc).flatMap (·.fp))) h' rfl ⟨RA,rc,TA,tc,rfl,(List.pairwise_append.1 h'.apart).2.1,fun e he=>⟨(h'.ok e (List.mem_append_right _ he)).holds,(h'.ok e (List.mem_append_right _ he)).loc⟩⟩ (mi _ _ _ _ _ _)
 exact⟨_,h4.perm (List.perm_append_singleton _ _)⟩
theorem St.rqR{t:RcT}(h:St w0 bor (gW t::eRq rb rs told p rr fp::L) W):∃fp',St w0 bor (eRq rb rs told p (rr++[t]) fp'::L) W:=by
 obtain⟨RA,rc,TA,tc,h1⟩:=(h.u1).unrq
 have h2:St w0 bor (eRc rr::gW t:: _:: _:: _::L) W:=h1.u4.u4
 have h3:St w0 bor (eRc (rr++[t]):: _:: _:: _::L) W:=St.fr (R:=[_,_]) h2 St.mergeR
 exact St.rq h3.u3.u3.u3
end
def eRf(rb:Nat)(L:List RecM)(told:Int->Bool)(p:Nat)(fp:List Nat):Ent:=⟨fp,fun W=>∃rs rr,rs.map RcT.r=L/\(∀t∈rs,t∈rr)/\(eRq rb rs told p rr fp).holds W⟩
theorem vW(rb:Nat)(L:List RecM)(told:Int->Bool)(p:Nat)(fp:List Nat):(eRf rb L told p fp).loc:=fun W W' hk h=>let ⟨rs,rr,h1,h2,h3⟩:=h;⟨rs,rr,h1,h2,mi rb rs told p rr fp W W' hk h3⟩
theorem sK{e:Ent}{rb:Nat}{p:Nat}(h:e=eRf rb L told p fp):e=eRf rb L told p e.fp:=by subst h;rfl
section
variable{w0 W:World}{bor:List Nat}{R:List Ent}{rb:Nat}{rs:List RcT}{L:List RecM}{told:Int->Bool}{p:Nat}{rr:List RcT}{fp:List Nat}
theorem St.unrf(h:St w0 bor (eRf rb L told p fp::R) W):∃rs rr,rs.map RcT.r=L/\(∀t∈rs,t∈rr)/\St w0 bor (eRq rb rs told p rr fp::R) W:=by
 obtain⟨rs,rr,h1,h2,h3⟩:=(h.ok (eRf rb L told p fp) (by simp)).holds
 exact⟨rs,rr,h1,h2,St.repl (L1:=[]) h rfl (fun _=>h3) (mi _ _ _ _ _ _)⟩
theorem St.rf(h:St w0 bor (eRq rb rs told p rr fp::R) W)(h1:rs.map RcT.r=L)(h2:∀t∈rs,t∈rr):St w0 bor (eRf rb L told p fp::R) W:=St.repl (L1:=[]) h rfl (fun h3=>⟨rs,rr,h1,h2,h3⟩) (vW _ _ _ _ _)
theorem St.nRc(note:ByteArray)(h:St w0 bor R W):St w0 bor (eRc [rcI (au note)]::R) W:=by
 have h1:=(fm (h.nM (f:=gW)) 84 3).perm (List.perm_append_singleton _ _)
 have h2:St w0 bor (eRc []::gW (rcI (au note))::R) W:=h1.u1
 exact St.fr (R:=[_,_]) h2 St.mergeR
end
theorem uw{L:List RecM}(h:∀r∈L,bt r=true)(hz:szF L<=1048576):L.length<=131072:=by have:=om h;omega
theorem GO(rs:List RcT)(t:RcT):rs.flatMap rcC++rcC t=(rs++[t]).flatMap rcC:=by rw[List.flatMap_append];simp
theorem ph(rb:Nat)(rs:List RcT)(told:Int->Bool)(p:Nat)(rr:List RcT)(t:RcT)(fp:List Nat)(w:World)(hB:(eRq rb rs told p rr fp).holds w)(hlt:∀k∈fp,k<w.heap.size)(ht:t∈rr)(hrt:bt t.r=true)(hl:rs.length<=200000)(hsz:szF (rs.map RcT.r)<=100000000):
  Calls P_ 85 #[po rb 0,.agg #[.int .i64 t.r.kind,.int .i64 t.r.xid,.int .i64 t.r.tbl,sn,sn,.slice t.A t.r.eds.length t.c,sn,.string t.r.note]] w ((fun e w2=>e= .returned (.tuple #[])/\∃fp2,St w fp [eRq rb (rs++[t]) told p rr fp2] w2)):=by
 have st1:St w fp [eRq rb rs told p rr fp] w:=St.lend hB (mi _ _ _ _ _ _) hlt
 have hfz:=eV hrt
 have hro:=d4 hrt
 go_enter func85,ntmps85
 have aj:=st1
 refine wq (sqr ?_)
 refine bX #[vi t.r.kind,vi t.r.xid,vi t.r.tbl,sn,sn,.slice t.A t.r.eds.length t.c,sn,.string t.r.note] aj fun bP W1 ax=>?_
 refine aa (wq ?_)
 obtain⟨QA,qc,TA,tc,hq2_⟩:=ax.unrq
 refine aB [0,0,2,6,14,0,32,126,255,511,1023] [[],[],[],[],[0],[4],[],[5,1],[],[],[0]] [[],[],[],[],[],[],[5],[6],[],[],[7]] [[],[],[],[],[],[],[],[1],[],[],[0]] [.k 4 (vp rb),.k 5 (vp rb),.k 6 (vp rb),.k 7 (po rb 1),.c 8 (.slice QA rs.length qc),.c 9 (.agg #[vi t.r.kind,vi t.r.xid,vi t.r.tbl,sn,sn,.slice t.A t.r.eds.length t.c,sn,.string t.r.note]),.a 10,.a 11,.k 12 (vp rb),.k 13 (po rb 1),.n] (fun ix d b X=>match ix with|0|1|2|3|4|5=>True|6=>d 10= .slice ((some ⟨(pb' (b 10)),0,none⟩)) 1 1/\X 5=eO 27 8 (.slice ((some ⟨(pb' (b 10)),0,none⟩)) 1 1) 1 ([vi t.r.kind,vi t.r.xid,vi t.r.tbl,sn,sn,.slice t.A t.r.eds.length t.c,sn,.string t.r.note])|7=>d 11= .slice (sA (b 11)) (rs.length+1) (sC (b 11))/\X 6=eO 27 8 (.slice (sA (b 11)) (rs.length+1) (sC (b 11))) (rs.length+1) ((rs++[t]).flatMap rcC)|8|9=>True|10=>X 7=eB rb 69 #[vi ((p:Int)),.slice (sA (b 11)) (rs.length+1) (sC (b 11)),vi ((szF (rs.map RcT.r):Int)),.slice TA p tc]|_=>True) [2,3,4,5,6,7] [4,5,6,7,10] [(4,0,10,14)] hq2_ ?_ ?_ ?_
 exact fun ix _ _ _ _ _ _ hs hb hx h=>match ix,h with
 |6,h=>by dsimp only;rw[<-hs 10 rfl,<-hb 10 rfl,<-hx 5 rfl];exact h
 |7,h=>by dsimp only;rw[<-hs 11 rfl,<-hb 11 rfl,<-hx 6 rfl];exact h
 |10,h=>by dsimp only;rw[<-hb 11 rfl,<-hx 7 rfl];exact h
 |0,_|1,_|2,_|3,_|4,_|5,_|8,_|9,_|_+11,_=>trivial
 refine⟨?_,?_,?_,?_,?_,trivial⟩
 exact xs4 rfl id fun cx=>rL1 (cx.an 3) ((cx.bi 0 rfl).cell 1)
 exact xs4 rfl id fun cx=>rLB (n:=8) (cx.ou 3) (cx.bi 4 rfl) (nle rfl) rfl
 refine svA fun g b W X cx=>?_
 have NS:g (.tmp 9)= .agg #[vi t.r.kind,vi t.r.xid,vi t.r.tbl,sn,sn,.slice t.A t.r.eds.length t.c,sn,.string t.r.note]:=(cx.an 5)
 exact ml (e:=27) (sz:=8) (xs:=[vi t.r.kind,vi t.r.xid,vi t.r.tbl,sn,sn,.slice t.A t.r.eds.length t.c,sn,.string t.r.note]) rfl (by simp[go_sem,NS]) rfl (by decide) rfl rfl (fun _ _ _ _ _=> .intro)
 refine svA fun g b W X cx=>?_
 obtain⟨i0,hi0,hz0,hz1,hz2⟩:=info_parts Tryz.infoRecJ
 refine i6 (n:=rs.length) (m:=1) (nm:=rs.length+1) (sz:=8) (xs:=rs.flatMap rcC) (news:=[vi t.r.kind,vi t.r.xid,vi t.r.tbl,sn,sn,.slice t.A t.r.eds.length t.c,sn,.string t.r.note]) (xs':=(rs++[t]).flatMap rcC) rfl (ty:=66) rfl (by kernel_rfl) hi0 hz0 hz1 hz2 rfl (by decide) (cx.an 4) cx (cx.init 1 _ rfl) rfl (dTn (cx.an 6)).1 (by simp) (At.of_ownN (cx.row (dTn (cx.an 6)).2 rfl)) (by simp[Value.oneCell']) (by simp only[maxLen];omega) (by omega) rfl rfl rfl (by omega) ((GO rs t)) (fun d o X' hs hb hv hx=>?_)
 exact⟨hv,hx⟩
 refine svA fun g b W X cx=>?_
 exact dVS (n:=1) rfl (cx.an 9) (dTn (cx.an 7)).1 cx (cx.init 0 _ rfl) rfl (nle rfl) rfl rfl rfl (fun d o X' hs hb hx=>by rw[hb 11];exact hx)
 intro d b X W3 hD aU fr aC
 simp only[exq 5 ((dTn (hD 6 lq)).2),exq 6 ((dTn (hD 7 lq)).2),exq 7 ((dTn (hD 10 lq)))] at aU
 simp only[ed 10 ((dTn (hD 6 lq)).1),ed 11 ((dTn (hD 7 lq)).1)] at aC
 generalize pb' (b 10)=SZ,sA (b 11)=xZ,sC (b 11)=x1 at aU aC
 clear hD;subst aC;clear d b X
 refine aa (aB [0,0,2,6,14,0,32,96,254,511,1023,2047] [[],[],[],[],[5],[2],[1],[],[],[],[],[5]] [[],[],[],[],[],[],[],[],[],[],[],[6]] [[],[],[],[],[],[],[],[],[],[],[],[5]] [.k 14 (vp rb),.k 15 (vp rb),.k 16 (vp rb),.k 17 (po rb 2),.c 18 (vi ((szF (rs.map RcT.r):Int))),.c 19 (.agg #[vi t.r.kind,vi t.r.xid,vi t.r.tbl,sn,sn,.slice t.A t.r.eds.length t.c,sn,.string t.r.note]),.c 20 (.string ((aA t.r))),.k 21 (vi ((((aA t.r)).size:Int))),tI 22 ((szF (rs.map RcT.r):Int)+(((aA t.r)).size:Int)) (by omega),.k 23 (vp rb),.k 24 (po rb 2),.n] (fun ix d b X=>match ix with|0|1|2|3|4|5|6|7|8|9|10=>True|11=>X 6=eB rb 69 #[vi ((p:Int)),.slice xZ (rs.length+1) x1,vi ((szF (rs.map RcT.r):Int)+(((aA t.r)).size:Int)),.slice TA p tc]|_=>True) [0,1,2,3,4,6] [4,5,6,11] [(14,0,11,25)] aU ?_ ?_ ?_)
 exact fun ix _ _ _ _ _ _ hs hb hx h=>match ix,h with
 |11,h=>by dsimp only;rw[<-hx 6 rfl];exact h
 |0,_|1,_|2,_|3,_|4,_|5,_|6,_|7,_|8,_|9,_|10,_|_+12,_=>trivial
 refine⟨?_,?_,?_,?_,trivial⟩
 exact xs4 rfl id fun cx=>rL1 (cx.an 3) ((cx.bi 5 rfl).cell 2)
 exact xs4 rfl id fun cx=>rLB (n:=8) (cx.ou 3) (cx.bi 2 rfl) (nle rfl) rfl
 exact xsc rfl id rfl rfl fun cx=>⟨_,jQ t.r.kind t.r.xid t.r.tbl t.A t.c t.r.eds t.r.note _ (dP (CtxV.holdF cx (cx.init 1 _ rfl) rfl) ht) (by have h_:=hro.many;omega) (fun e he=>by have h_:=dn (hro.eds e he);omega) (by have h_:=hro.note;omega),(av (cx.an 5))⟩
 refine svA fun g b W X cx=>?_
 exact dVS (n:=1) rfl (cx.an 10) (cx.an 8) cx (cx.init 5 _ rfl) rfl (nle rfl) rfl rfl rfl (fun _ _ _ _ _=>id)
 intro d b X W4 hD aZ fr aC
 simp only[exq 6 ((dTn (hD 11 lq)))] at aZ
 clear hD;subst aC;clear d b X
 refine bpe (.tuple #[]) (by simp[results,results85,go_sem]) ?_
 obtain⟨fp5_,hr5_⟩:=St.rq (rs:=(rs++[t])) (told:=told) (p:=p) (rr:=rr) (by have h_:=aZ.u2.c0.u2.c0.u2.u3;rw[rqL,show (rs++[t]).length=rs.length+1 by simp,show (szF ((rs++[t]).map RcT.r):Int)=(szF (rs.map RcT.r):Int)+((aA t.r).size:Int) by rw[List.map_append,List.map_singleton,kA];omega];exact h_)
 exact⟨rfl,_,hr5_⟩
theorem CB(note:ByteArray)(w:World)(hnt:note.size<=60000):
  Calls P_ 48 #[.int .i64 5,.string note] w ((fun e w2=>∃rb,e= .returned (po rb 0)/\∃fp2,St w [] [eRf rb [au note] (fun _=>false) 5 fp2] w2)):=by
 go_enter func48,ntmps48
 have aj:=St.start w
 refine wsq [.k 4 (.pointer none)] ?_
 refine aa (wsq [.m 6 0,.m 7 0] ?_)
 refine d9 (fun x_=>sA x_) (fun wE=> .slice wE 5 5) (fun wE=>eO 4 1 (.slice wE 5 5) 5 (List.replicate 5 (.bool false))) aj (by
   refine svA fun a b W X cx=>?_
   obtain⟨i0,hi0,hz0,hz1,hz2⟩:=info_parts Tryz.infoBoolR
   exact K1 (n:=5) rfl (by kernel_rfl) hi0 hz0 hz1 hz2 rfl (cx.ou 7) (cx.ou 7) (by omega) (by omega) (by omega) (by omega) rfl rfl (fun _ _ _ _ _=> .intro)) fun wE W4 aZ=>?_
 refine sqp [.k 9 (.agg #[vi 5,sn,vi 0,.slice wE 5 5])] ?_
 refine bX #[vi 5,sn,vi 0,.slice wE 5 5] aZ fun sf W6 bJ=>?_
 refine sqp [.m 5 10] ?_
 refine aa (wq ?_)
 have hn9:=fm bJ 27 8
 simp only[List.cons_append,List.nil_append] at hn9
 have hn8_:=St.nRc note hn9
 obtain⟨fp10_,hr10_⟩:=St.rq (rs:=[]) (told:=(fun _=>false)) (p:=5) (rr:=[rcI (au note)]) (hn8_.u1.u3.u3)
 refine sqs [.m 11 5,.m 12 1,.k 13 (.agg #[vi 9,vi 0,vi 0,sn,sn,sn,sn,.string note])] ?_
 refine bF (fun X_=>X_.fp) (.tuple #[]) (fun JG=>eRq sf ([]++[(rcI (au note))]) (fun _=>false) 5 ([rcI (au note)]) JG) 0 hr10_ (by
   refine svA fun a b W X cx=>?_
   refine ak.call (rCF (args:=#[vp sf,.agg #[vi 9,vi 0,vi 0,sn,sn,sn,sn,.string note]]) cx.sees (aN (cx.ou 11) (cx.ou 13))) ?_
   refine(ph sf ([]) (fun _=>false) 5 ([rcI (au note)]) (rcI (au note)) _ _ (CtxV.holdF cx (cx.init 0 _ rfl) rfl) (CtxV.ltF cx (cx.init 0 _ rfl) rfl) (by simp) (dz hnt) (by decide) (by decide)).mono ?_
   rintro e W1 ⟨rfl,fp4,aM⟩
   refine⟨_,rfl,aI (E:=eRq sf ([]) (fun _=>false) 5 ([rcI (au note)]) fp10_) [eRq sf ([]++[(rcI (au note))]) (fun _=>false) 5 ([rcI (au note)]) fp4] (cx.init 0 _ rfl) rfl rfl aM (fun g d X' hs hb hv hN=>?_)⟩
   have aH:=(hv 14 rfl).1;have aO:=(hv 14 rfl).2
   exact⟨aH.trans rfl,oV ((List.cons.inj hN).1)⟩) fun JG uY bZ=>?_
 refine aa (wsq [.m 15 5,.m 4 15] ?_)
 refine aa (wp_ret ?_)
 refine bpr (vp sf) (ag results48 rpt) ?_
 have Dx:=St.rf (L:=[au note]) bZ (rfl) (fun t h=>h)
 exact⟨_,rfl,_,Dx⟩
theorem yw(rb:Nat)(L:List RecM)(told:Int->Bool)(p:Nat)(note:ByteArray)(fp:List Nat)(w:World)(hB:(eRf rb L told p fp).holds w)(hlt:∀k∈fp,k<w.heap.size)(hL:∀r∈L,bt r=true)(hz:szF L<=1048576)(hnt:note.size<=9000000):
  Calls P_ 80 #[po rb 0,.string note] w ((fun e w2=>e= .returned (.int .i64 (eG L note))/\∃fp2,St w fp [eRf rb (ckL L note) told p fp2] w2)):=by
 have st1:St w fp [eRf rb L told p fp] w:=St.lend hB (vW _ _ _ _ _) hlt
 have hll:=uw hL hz
 go_enter func80,ntmps80
 have aj:=st1
 refine wsq [.k 4 (vi 0)] ?_
 refine aa (wsq [.m 6 1,.k 7 (.agg #[vi 9,vi 0,vi 0,sn,sn,sn,sn,.string note])] ?_)
 refine bW #[vi 0,vi 0,vi 0,sn,sn,sn,sn,.string ByteArray.empty] aj fun ML W4 aZ=>?_
 refine aT (n:=8) 1 #[vi 9,vi 0,vi 0,sn,sn,sn,sn,.string note] aZ fun W5 aK=>?_
 refine aa (wq (wsq [.m 8 1,.k 9 (vi ((note.size:Int))),.k 10 (.bool (decide (60000<(note.size:Int))))] ?_))
 refine aa (wds (fun p6 q6=>?_) fun p6 q6=>?_)
 refine wsq [.k 4 (vi 1)] ?_
 refine aa (wp_ret (ai ?_))
 exact bpr (vi 1) (ag results80 rpt) (⟨by rw[eG,if_pos (by have h_:=p6;simp at h_;omega)],_,by rw[ckL,if_neg (by rw[eG,if_pos (by have h_:=p6;simp at h_;omega)];decide)];exact aK.u1.c0⟩)
 refine wp_skip (aa (wq (wq ?_)))
 have hn6:note.size<=60000:=by have h_:=p6;simp at h_;omega
 have hfs:=eV (dz hn6)
 obtain⟨rs,rr,hrs,hsub,ho11_⟩:=aK.unrf
 have hzs:szF (rs.map RcT.r)<=1048576:=hrs ▸ hz
 have hls_:rs.length<=200000:=by have h_:=congrArg List.length hrs;rw[List.length_map] at h_;omega
 obtain⟨QA,qc,TA,tc,hq12_⟩:=ho11_.unrq
 refine bG [0,1,3,7,0,16,48,127,255] [[],[],[],[0],[4]] [.k 11 (vp rb),.k 12 (vp rb),.k 13 (po rb 2),.c 14 (vi ((szF (rs.map RcT.r):Int))),.c 15 (.agg #[vi 9,vi 0,vi 0,sn,sn,sn,sn,.string note]),.c 16 (.string ((aA (au note)))),.k 17 (vi ((((aA (au note))).size:Int))),tI 18 ((szF (rs.map RcT.r):Int)+(((aA (au note))).size:Int)) (by omega),.k 19 (.bool (decide (1048576<(szF (rs.map RcT.r):Int)+(((aA (au note))).size:Int))))] [0,1,2,3,4] [3,4,5] [(11,0,9,20)] hq12_ ?_ fun FL fZ=>?_
 refine⟨?_,?_,?_,trivial⟩
 exact xs4 rfl id fun cx=>rL1 (cx.an 2) ((cx.bi 0 rfl).cell 2)
 exact xs4 rfl id fun cx=>rLB (n:=8) (cx.ou 5) (cx.bi 4 rfl) (nle rfl) rfl
 exact xsc rfl id rfl rfl fun cx=>⟨_,jQ 9 0 0 none 0 [] note _ (fun j u h=>by cases j<;>cases h) (by decide) (fun e he=>by cases he) (by omega),(av (cx.an 4))⟩
 refine aa (wds (fun gO pF=>?_) fun gO pF=>?_)
 refine wsq [.k 4 (vi 31)] ?_
 refine aa (wp_ret (ai ?_))
 refine bpr (vi 31) (ag results80 rpt) ?_
 obtain⟨fp16_,hr16_⟩:=St.rq (rs:=rs) (told:=told) (p:=p) (rr:=rr) (fZ)
 have Dx:=St.rf (L:=L) hr16_ (hrs) (hsub)
 have he_:eG L note=31:=by rw[eG,if_neg (by omega:¬ 60000<note.size),if_pos (by rw[hrs] at gO;have h_:=gO;simp at h_;omega)]
 exact⟨by rw[he_],_,by rw[ckL,if_neg (by rw[he_];decide)];exact Dx.u1.c0⟩
 refine wp_skip (aa (wq ?_))
 obtain⟨fp18_,hr18_⟩:=St.rq (rs:=rs) (told:=told) (p:=p) (rr:=rr) (fZ)
 have hn19:=fm hr18_ 84 3
 simp only[List.cons_append,List.nil_append] at hn19
 have htm_:rcI (au note)∈rr++[rcI (au note)]:=by simp
 obtain⟨fp20_,hx20_⟩:=St.rqR (t:=rcI (au note)) hn19.u2
 refine sqs [.m 20 0] ?_
 refine bD 1 8 hx20_ ?_
 refine bF (fun X_=>X_.fp) (.tuple #[]) (fun vJ=>eRq rb (rs++[(rcI (au note))]) told p (rr++[rcI (au note)]) vJ) 0 hx20_ (by
   refine svA fun d g W X cx=>?_
   refine ak.call (rCF (args:=#[vp rb,.agg #[vi 9,vi 0,vi 0,sn,sn,sn,sn,.string note]]) cx.sees (aN (cx.ou 20) (cx.ou 21))) ?_
   refine(ph rb rs told p (rr++[rcI (au note)]) (rcI (au note)) _ _ (CtxV.holdF cx (cx.init 0 _ rfl) rfl) (CtxV.ltF cx (cx.init 0 _ rfl) rfl) htm_ (dz hn6) hls_ (Nat.le_trans hzs (by decide))).mono ?_
   rintro e W1 ⟨rfl,fp4,aM⟩
   refine⟨_,rfl,aI (E:=eRq rb rs told p (rr++[rcI (au note)]) fp20_) [eRq rb (rs++[(rcI (au note))]) told p (rr++[rcI (au note)]) fp4] (cx.init 0 _ rfl) rfl rfl aM (fun b a X' hs hb hv hN=>?_)⟩
   have aH:=(hv 22 rfl).1;have aO:=(hv 22 rfl).2
   exact⟨aH.trans rfl,oV ((List.cons.inj hN).1)⟩) fun vJ sE cu=>?_
 refine aa (wsq [.k 4 (vi 0)] ?_)
 refine aa (wp_ret ?_)
 refine bpr (vi 0) (ag results80 rpt) ?_
 have he_:eG L note=0:=by rw[eG,if_neg (by omega:¬ 60000<note.size),if_neg (by rw[hrs] at gO;have h_:=gO;simp at h_;omega)]
 have Pn:=St.rf (L:=(L++[au note])) cu (by rw[List.map_append,hrs];rfl) (fun t h=>(List.mem_append.1 h).elim (fun h=>List.mem_append_left _ (hsub t h)) fun h=>List.mem_append_right _ h)
 exact⟨by rw[he_],_,by rw[ckL,if_pos he_];exact Pn.u1.c0⟩
theorem ze(rb:Nat)(L:List RecM)(told:Int->Bool)(p:Nat)(fp:List Nat)(w:World)(hB:(eRf rb L told p fp).holds w)(hlt:∀k∈fp,k<w.heap.size)(hL:∀r∈L,bt r=true)(hz:szF L<=1048576)(hp:p<=400):
  Calls P_ 78 #[po rb 0] w ((fun e w2=>e= .returned (.int .i64 (frF p L told))/\∃fp2,St w fp [eRf rb L (frT p L told) p fp2] w2)):=by
 have st1:St w fp [eRf rb L told p fp] w:=St.lend hB (vW _ _ _ _ _) hlt
 have hll:=uw hL hz
 go_enter func78,ntmps78
 have aj:=st1
 refine wsq [.k 2 (vi 0)] ?_
 refine aa (wq (wq ?_))
 obtain⟨rs,rr,hrs,hsub,ho2_⟩:=aj.unrf
 have hzs:szF (rs.map RcT.r)<=1048576:=hrs ▸ hz
 have hrl:rs.length<=1000000:=by have h_:=congrArg List.length hrs;rw[List.length_map] at h_;omega
 have hrL:∀t∈rs,bt t.r=true:=fun t ht=>hL _ (hrs ▸ List.mem_map.2 ⟨t,ht,rfl⟩)
 obtain⟨QA,qc,TA,tc,hq3_⟩:=ho2_.unrq
 refine sqs [.k 3 (vi 0)] ?_
 refine aa (wp_block ?_)
 refine aQ (fun t_ mz az W=>∃k:Nat,k<=p/\(∀m:Nat,0<=m->m<k->told (m:Int)=true\/(af L (m:Int)).1≠0)/\mz=p-k/\az=⟨(ovr (jv az) [(2,2,1,[vi ((k:Int))]),(0,4,33,[])] t_).toArray,[]⟩/\St w fp [eB rb 69 #[vi ((p:Int)),.slice QA rs.length qc,vi ((szF (rs.map RcT.r):Int)),.slice TA p tc],eO 27 8 (.slice QA rs.length qc) rs.length (rs.flatMap rcC),eO 4 1 (.slice TA p tc) p (tB told p),eRc rr] W) (p-0) ?_ ?_
 exact⟨0,Nat.zero_le _,fun m h0 h1=>absurd h1 (by omega),rfl,(by kernel_rfl),hq3_.pk [0,1,2,3]⟩
 rintro n5 a5 W5 ⟨k,hk,hno,rfl,hj_,aK⟩
 refine ovz hj_ fun xE=>?_
 refine wq (wsq [.m 4 3,.m 5 0,.k 6 (vp rb),.k 7 (vp rb)] ?_)
 refine am 0 aK ?_
 refine sqp [.k 9 (.bool (decide ((k:Int)<(p:Int))))] ?_
 refine aa (wds (fun jf js=>?_) fun jf js=>?_)
 refine wp_skip (aa (wq (wp_block (wq ?_))))
 rcases htk:told (k:Int) with _|_
 refine sqs [.m 12 0,.k 13 (vp rb),.k 14 (po rb 3)] ?_
 refine am 0 aK ?_
 refine sqp [.m 16 3] ?_
 refine sql (.pointer (some ((ad TA).add k))) aK (fun cx=>bz (e:=4) (m:=k) rfl (by kernel_rfl) (by kernel_rfl) (cx.ou 15) (cx.ou 16) (by omega) (by omega) (At.of_own (cx.ri 2 rfl)) ((oB _ _))) ?_
 have hd20:((told (k:Int)))=false:=htk
 refine sqv (.bool false) aK (s4 rfl (fun _ _ _ h=>h.trans (congrArg Value.bool hd20)) fun cx=>ce rfl (by kernel_rfl) (cx.ou 17) (At.cellAd (At.of_own (cx.ri 2 rfl)) (uC (by omega)))) fun qV cU=>?_
 refine sqp [.k 19 (.bool true),.k 20 (.bool true)] ?_
 refine de 20 [21,22,23,24,25,26,27,28] rfl rfl ?_
 refine sqp [.m 21 0,.k 22 (vp rb),.k 23 (po rb 1)] ?_
 refine am 0 cU ?_
 refine sqp [.m 25 3] ?_
 refine iz (fun iQ iR=> .agg #[vi ((af (rs.map RcT.r) (k:Int)).1),vi ((af (rs.map RcT.r) (k:Int)).2.1),.slice iQ ((af (rs.map RcT.r) (k:Int)).2.2.length) iR]) (fun iQ iR=>eO 9 1 (.slice iQ ((af (rs.map RcT.r) (k:Int)).2.2.length) iR) ((af (rs.map RcT.r) (k:Int)).2.2.length) ((af (rs.map RcT.r) (k:Int)).2.2.map Value.string)) cU (fun cx=>⟨_,(kP _ _ rs (k:Int) _ ⟨At.of_ownN (cx.ri 1 rfl),fun t ht=>dP (CtxV.holdF cx (cx.init 3 _ rfl) rfl) (hsub t ht)⟩ hrl hrL).mono (by rintro e W1 ⟨A4,c4,rfl,ho,hx⟩;exact⟨_,_,rfl,St.one hx (cf ho)⟩),(aN (cx.ou 24) (cx.ou 25))⟩) fun iQ iR zN dN=>?_
 refine sql (vi ((af (rs.map RcT.r) (k:Int)).1)) dN (fun cx=>l5 rfl (cx.ou 26) (fun _=>by kernel_rfl)) ?_
 refine sqp [.k 28 (.bool (((af (rs.map RcT.r) (k:Int)).1)==0))] ?_
 refine sqp [.k 29 (.bool (((af (rs.map RcT.r) (k:Int)).1)==0))] ?_
 refine aa (wbs (fun gX=>?_) fun gX=>?_)
 have kT:=beq_iff_eq.1 gX
 refine wsq [.m 30 0,.k 31 (vp rb),.k 32 (po rb 3)] ?_
 refine am 0 dN ?_
 refine sqp [.m 34 3] ?_
 refine sql (.pointer (some ((ad TA).add k))) dN (fun cx=>bz (e:=4) (m:=k) rfl (by kernel_rfl) (by kernel_rfl) (cx.ou 33) (cx.ou 34) (by omega) (by omega) (At.of_own (cx.ri 2 rfl)) ((oB _ _))) ?_
 refine sqc (eO 4 1 (.slice TA p tc) p (tB (fun x=>if x=(k:Int) then true else told x) p)) 2 dN (by
   refine svA fun a b W X cx=>?_
   exact kR (m:=k) (n:=p) rfl (cx.ou 35) (show _=Value.bool true from(cx.co _)) (by kernel_rfl) rfl rfl cx (cx.init 2 _ rfl) rfl (by omega) rfl ((EN true)) rfl rfl (fun _ _ _ _ _=>id)) fun qU du=>?_
 refine aa (wsq [.m 36 3,.m 2 36] ?_)
 refine aa (wp_ret (aY (ai (ai (aY (ai ?_))))))
 refine bpr (vi ((k:Int))) (ag results78 rpt) ?_
 have hfo:=yK (p:=p) (L:=L) (told:=told) (k:=k) (by omega) htk (by have h_:=gX;rw[hrs] at h_;simpa using h_) hno
 obtain⟨fp42_,hr42_⟩:=St.rq (rs:=rs) (told:=(fun x=>if x=(k:Int) then true else told x)) (p:=p) (rr:=rr) (du.u4.c0)
 have Po:=St.rf (L:=L) hr42_ (hrs) (hsub)
 exact⟨by rw[frF,hfo],_,by rw[frT,hfo];exact Po⟩
 have kT:=beq_eq_false_iff_ne.1 gX
 refine wp_skip (aq (aa (sqs [.m 10 3,sI 11 ((k:Int)+1) (by omega),.m 3 11] ?_)))
 refine aa ?_
 refine⟨p-((k+1)),by omega,?_⟩
 exact⟨(k+1),by omega,fun m h0 h1=>(Nat.lt_or_ge m k).elim (fun h2=>hno m h0 h2) fun h2=>by have hmk:m=k:=(by omega);subst hmk;exact .inr (by have h_:=gX;rw[hrs] at h_;simpa using h_),rfl,(by kernel_rfl),dN.pk [0,1,2,3]⟩
 refine sqs [.m 12 0,.k 13 (vp rb),.k 14 (po rb 3)] ?_
 refine am 0 aK ?_
 refine sqp [.m 16 3] ?_
 refine sql (.pointer (some ((ad TA).add k))) aK (fun cx=>bz (e:=4) (m:=k) rfl (by kernel_rfl) (by kernel_rfl) (cx.ou 15) (cx.ou 16) (by omega) (by omega) (At.of_own (cx.ri 2 rfl)) ((oB _ _))) ?_
 have hd54:((told (k:Int)))=true:=htk
 refine sqv (.bool true) aK (s4 rfl (fun _ _ _ h=>h.trans (congrArg Value.bool hd54)) fun cx=>ce rfl (by kernel_rfl) (cx.ou 17) (At.cellAd (At.of_own (cx.ri 2 rfl)) (uC (by omega)))) fun PS kV=>?_
 refine yA [.k 19 (.bool false),.k 20 (.bool false)] 20 [21,22,23,24,25,26,27,28] ?_
 refine sqp [.k 29 (.bool false)] ?_
 refine aa (wcf rfl (wp_skip (aq (aa (sqs [.m 10 3,sI 11 ((k:Int)+1) (by omega),.m 3 11] ?_)))))
 refine aa ?_
 refine⟨p-((k+1)),by omega,?_⟩
 exact⟨(k+1),by omega,fun m h0 h1=>(Nat.lt_or_ge m k).elim (fun h2=>hno m h0 h2) fun h2=>by have hmk:m=k:=(by omega);subst hmk;exact .inl htk,rfl,(by kernel_rfl),kV.pk [0,1,2,3]⟩
 refine wp_exit (al (al (bf (aa (wsq [.k 2 (vi (-1))] ?_)))))
 refine aa (wp_ret ?_)
 refine bpr (vi (-1)) (ag results78 rpt) ?_
 have hfo:=yy (p:=p) (L:=L) (told:=told) (fun m h0 h1=>hno m h0 (by omega))
 obtain⟨fp62_,hr62_⟩:=St.rq (rs:=rs) (told:=told) (p:=p) (rr:=rr) (aK)
 have Pp:=St.rf (L:=L) hr62_ (hrs) (hsub)
 exact⟨by rw[frF,hfo],_,by rw[frT,hfo];exact Pp⟩
end
section
open Go.RowKit
theorem A3(s:ByteArray):s.extract 0 s.size=s:=by
 apply ByteArray.ext
 rw[ByteArray.data_extract]
 simp
theorem Ms{N:Int}(h:0<=N/\N<=9223372036854775807)(k:Nat):0<=shN N k/\shN N k<=9223372036854775807:=by
 have h1:(0:Int)<256^k:=Int.pow_pos (by decide)
 exact⟨Int.ediv_nonneg h.1 (by omega),Int.le_trans (Int.ediv_le_self _ h.1) h.2⟩
theorem J1(N:Int)(k:Nat):shN N k / 256=shN N (k+1):=by
 rw[shN,shN,Int.pow_succ]
 exact Int.ediv_ediv_of_nonneg (Int.le_of_lt (Int.pow_pos (by decide)))
theorem yV(a b:List UInt8):bC a++bC b=bC (a++b):=(nP a b).symm
theorem E7{X:List UInt8}:bC (X++List.replicate m (0:UInt8))++(⟨#[0]⟩:ByteArray)=bC (X++List.replicate (m+1) (0:UInt8)):=by
 rw[show (⟨#[0]⟩:ByteArray)=bC [0] from rfl,yV,List.append_assoc,List.replicate_succ']
theorem DP(k l:Int)(pl:List ByteArray)(m:Nat):(bC (bY k l pl.length++bg pl++List.replicate m (0:UInt8))).size=6+aR pl+m:=by
 rw[la,List.length_append,List.length_append,gn,dD,List.length_replicate]
theorem CV{k l:Int}{pl:List ByteArray}(h:j<pl.length):bC (bY k l pl.length++bg (pl.take j))++jq (pl.getD j ByteArray.empty)=bC (bY k l pl.length++bg (pl.take (j+1))):=by
 rw[n6 pl j h,<-List.append_assoc,nP (bY k l pl.length++bg (pl.take j)),iv,List.getD_eq_getElem?_getD,List.getElem?_eq_getElem h];rfl
theorem Ef(k l:Int)(pl:List ByteArray)(j:Nat)(h:6+aR pl<=504):(bC (bY k l pl.length++bg (pl.take j))).size<=504:=by
 have h1:=lJ pl j
 rw[<-bO,rM,List.length_append,gn,dD];omega
theorem Iq(m:Nat)(w:World)(hm:m<=8):
  Calls P_ 145 #[.int .i64 ((m:Int))] w (Ret (.int .i64 (m:Int)) w):=by
 go_enter func145,ntmps145
 have aj:=St.start w
 refine wsq [.k 2 (vi 0)] ?_
 refine aa (wsq [.m 3 0] ?_)
 refine sql (vi (min (m:Int) 8)) aj (fun cx=>jA rfl (cx.ou 3) (cx.co _) (rfl)) ?_
 refine sql (vi (max 0 (min (m:Int) 8))) aj (fun cx=>sQ rfl (cx.co _) (cx.ou 4) rfl) ?_
 refine sqp [.m 2 5] ?_
 exact aa (wp_ret (bpr (vi (max 0 (min (m:Int) 8))) (ag results145 rpt) (Ret.of (by congr 1;omega) aj.ext)))
theorem iY(N:Int)(m:Nat)(w:World)(hm:m<=8)(hN:0<=N/\N<=9223372036854775807):
  Calls P_ 89 #[.int .i64 N,.int .i64 ((m:Int))] w (Ret (.string (ah N m)) w):=by
 go_enter func89,ntmps89
 have aj:=St.start w
 refine wsq [.k 4 (.string ⟨#[]⟩)] ?_
 refine aa (wsq [.k 5 (.string ⟨#[]⟩)] ?_)
 refine aa (wsq [.m 8 0,sW 9 .u64 N N (IntWalk.u64_in _ (by omega)),.m 6 9] ?_)
 refine aa (wq (wsq [.k 7 (vi 0)] ?_))
 refine aa (wp_block ?_)
 refine aQ (fun t_ mz az W=>∃k:Nat,k<=m/\mz=m-k/\az=⟨(ovr (jv az) [(5,5,0,[.string ((ah N k)),.int .u64 ((shN N k)),vi ((k:Int))]),(2,10,15,[])] t_).toArray,[]⟩/\St w [] [] W) (m-0) ?_ ?_
 exact⟨0,Nat.zero_le _,rfl,(by rw[Jf,DV];rfl),aj.pk []⟩
 rintro n7 a7 W7 ⟨k,hk,rfl,hj_,aW⟩
 refine ovz hj_ fun FU=>?_
 refine wq (wsq [.m 10 7,.m 11 1] ?_)
 refine sqk (vi ((m:Int))) aW (fun cx=>⟨_,Iq m _ hm,(av (cx.ou 11))⟩) fun xw dL=>?_
 refine sqp [.k 13 (.bool (decide ((k:Int)<(m:Int))))] ?_
 refine aa (wds (fun jf js=>?_) fun jf js=>?_)
 refine wp_skip (aa (wq (wp_block (wq ?_))))
 have hz_:=aE N k (by omega)
 have hs_:(strOfNums [shN N k % 256]).size=1:=by rw[strOfNums_size];rfl
 have hb_:=Ms hN k
 refine sqs [.m 16 6,sRe 17 .u64 (shN N k) 256 ((shN N k) % 256) (Int.tmod_eq_emod_of_nonneg (by omega)),sW 18 .u8 ((shN N k) % 256) ((shN N k) % 256) (IntWalk.u8_in _ (by omega))] ?_
 refine d9 (fun x_=>sA x_) (fun vK=> .slice vK 1 1) (fun vK=>eO 5 1 (.slice vK 1 1) 1 ([.int .u8 ((shN N k) % 256)])) dL (by
   refine svA fun a b W X cx=>?_
   have QW:a (.tmp 18)= .int .u8 ((shN N k) % 256):=(cx.ou 18)
   exact dA (e:=5) (xs:=[.int .u8 ((shN N k) % 256)]) rfl (by simp[go_sem,QW]) rfl (by decide) rfl rfl (fun _ _ _ _ _=> .intro)) fun vK p5 dl=>?_
 refine sql (.string (strOfNums ([((shN N k) % 256)]))) dl (fun cx=>k8 (e:=5) rfl (by kernel_rfl) (by kernel_rfl) (by kernel_rfl) (cx.ou 19) (cx.ri 0 rfl)) ?_
 refine sqp [.m 21 5,sS 22 (strOfNums ([((shN N k) % 256)])) ((ah N k)) (by omega),.m 5 22] ?_
 refine aa (sqs [.m 23 6,sQu 24 .u64 (shN N k) 256 ((shN N k) / 256) (by rw[Int.tdiv_eq_ediv_of_nonneg (by omega)];exact IntWalk.u64_in _ (by omega)),.m 6 24] ?_)
 refine aq (aa (sqs [.m 14 7,sI 15 ((k:Int)+1) (by omega),.m 7 15] ?_))
 refine aa ?_
 rw[show strOfNums [shN N k % 256]++ah N k=ah N (k+1) from(w5 N (by omega)).symm,J1]
 refine⟨m-((k+1)),by omega,?_⟩
 exact⟨(k+1),by omega,rfl,(by kernel_rfl),dl.pk []⟩
 refine wp_exit (al (al (bf (aa (wsq [.m 25 5,.m 4 25] ?_)))))
 exact aa (wp_ret (bpr (.string ((ah N k))) (ag results89 rpt) (Ret.of (by rw[show k=m by omega]) dL.ext)))
theorem Be(s:ByteArray)(w:World)(hs:s.size<=65535):
  Calls P_ 147 #[.string s] w (Ret (.string (jq s)) w):=by
 go_enter func147,ntmps147
 have aj:=St.start w
 refine wsq [.k 2 (.string ⟨#[]⟩)] ?_
 refine aa (wsq [.m 4 0,.m 5 0,.k 6 (vi ((s.size:Int)))] ?_)
 refine sql (vi ((s.size:Int))) aj (fun cx=>jA rfl (cx.ou 6) (cx.co _) (by omega)) ?_
 refine sql (.string s) aj (fun cx=>by rw[<-A3 s];exact gJ (l:=s.size) rfl (by kernel_rfl) (cx.ou 4) (cx.ou 7) (by omega) (by omega)) ?_
 refine sqp [.m 3 8] ?_
 refine aa (wq ?_)
 have hp_:=aE (s.size:Int) 2 (by omega)
 refine sqs [.m 9 3,.k 10 (vi ((s.size:Int)))] ?_
 refine sqk (.string ((ah (s.size:Int) 2))) aj (fun cx=>⟨_,iY (s.size:Int) 2 _ (by decide) (by omega),(aN (cx.ou 10) (cx.co _))⟩) fun xw dL=>?_
 refine sqp [.m 12 3,sS 13 ((ah (s.size:Int) 2)) s (by omega),.m 2 13] ?_
 exact aa (wp_ret (bpr (.string (((ah (s.size:Int) 2))++s)) (ag results147 rpt) (Ret.of rfl dL.ext)))
theorem CX(k l:Int)(A:Option Addr)(c:Nat)(ss:List ByteArray)(w:World)(hA:At w A (ss.map Value.string))(hr:bu k l ss=true)(hc:ss.length<=c):
  Calls P_ 92 #[.agg #[.int .i64 k,.int .i64 l,.slice A ss.length c]] w (Ret (.agg #[.string (bN k l (ae ss)),.int .i64 0]) w):=by
 obtain⟨hk2,hl2,⟨hn24,hb4⟩,hz5⟩:=cT hr
 have hS:=ef hr
 go_enter func92,ntmps92
 have aj:=St.start w
 refine wq (sqr ?_)
 refine bX #[vi k,vi l,.slice A ss.length c] aj fun ay W1 ax=>?_
 refine bW #[.string ByteArray.empty,vi 0] ax fun kI W2 bA=>?_
 refine aa (wq (wq (sqr ?_)))
 refine bD 0 3 bA ?_
 refine sqk (.bool true) bA (fun cx=>⟨_,tp k l _ _ ss _ (hA.ext cx.upd.to_ext) hr (by omega),(av (cx.ou 6))⟩) fun W4 aZ=>?_
 refine sqp [.k 8 (.bool false)] ?_
 refine aa (wcf rfl (wp_skip (aa (wq (sqr ?_)))))
 refine bD 0 3 aZ ?_
 refine iz (fun kn kY=> .agg #[vi k,vi l,.slice kn ((ae ss).length) kY]) (fun kn kY=>eO 9 1 (.slice kn ((ae ss).length) kY) ((ae ss).length) ((ae ss).map Value.string)) aZ (fun cx=>⟨_,(l3 k l _ _ ss _ (hA.ext cx.upd.to_ext) (by have:=hS.1;omega) (by omega)).mono (by rintro e W1 ⟨A4,c4,rfl,ho,hx⟩;exact⟨_,_,rfl,St.one hx (cf ho)⟩),(av (cx.ou 10))⟩) fun kn kY W7 aW=>?_
 refine bW #[vi 0,vi 0,sn] aW fun rC W8 dI=>?_
 refine aT (n:=3) 3 #[vi k,vi l,.slice kn ((ae ss).length) kY] dI fun W9 cw=>?_
 refine aa (wq ?_)
 obtain⟨pl,hpl⟩:∃z,ae ss=z:=⟨_,rfl⟩
 have TW:pl.length<=24:=by rw[<-hpl,cn];exact Nat.le_trans (dY ss _) hn24
 have zI:∀s∈pl,s.size<=400:=fun s hs=>hb4 s (by rw[<-hpl] at hs;exact List.mem_of_mem_take hs)
 have hpz:6+aR pl<=504:=by rw[cO,hpl] at hz5;omega
 rw[hpl] at cw
 have q1_:=aE k 1 (by omega)
 have q2_:=aE l 4 (by omega)
 have q3_:=aE (pl.length:Int) 1 (by omega)
 refine bG [0,1,3,0,8,31,63,0,128,384,959,2047,4095] [[],[3],[],[],[3],[],[],[],[3]] [.k 12 (vp rC),.c 13 (vi k),.c 14 (.string ((ah k 1))),.k 15 (po rC 1),.c 16 (vi l),.c 17 (.string ((ah l 4))),tS 18 ((ah k 1)) ((ah l 4)) (by first|omega|(simp only[ByteArray.size_append];omega)),.k 19 (po rC 2),.c 20 (.slice kn pl.length kY),.k 21 (vi ((pl.length:Int))),.c 22 (.string ((ah (pl.length:Int) 1))),tS 23 (((ah k 1))++((ah l 4))) ((ah (pl.length:Int) 1)) (by first|omega|(simp only[ByteArray.size_append];omega)),.k 4 (.string ((((ah k 1))++((ah l 4)))++((ah (pl.length:Int) 1))))] [0,1,2,3] [1,2,4,5,8,10] [(4,12,1,5),(7,0,12,19)] cw ?_ fun xw dL=>?_
 refine⟨?_,?_,?_,?_,?_,?_,trivial⟩
 exact xs4 rfl id fun cx=>rL1 (cx.an 0) ((cx.bi 3 rfl).cell 0)
 exact xsc rfl id rfl rfl fun cx=>⟨_,iY k 1 _ (by decide) (by omega),(aN (cx.an 1) (cx.co _))⟩
 exact xs4 rfl id fun cx=>rL1 (cx.an 3) ((cx.bi 3 rfl).cell 1)
 exact xsc rfl id rfl rfl fun cx=>⟨_,iY l 4 _ (by decide) (by omega),(aN (cx.an 4) (cx.co _))⟩
 exact xs4 rfl id fun cx=>rL1 (cx.an 7) ((cx.bi 3 rfl).cell 2)
 exact xsc rfl id rfl rfl fun cx=>⟨_,iY (pl.length:Int) 1 _ (by decide) (by omega),(aN (cx.an 9) (cx.co _))⟩
 refine aa (wq (wsq [.k 5 (vi 0)] ?_))
 refine aa (wp_block ?_)
 have hhd:(ah k 1++ah l 4)++ah (pl.length:Int) 1=bC (bY k l pl.length++bg (pl.take 0)):=by rw[bY,List.take_zero];show _=bC (_++[]);rw[List.append_nil,iv]
 refine aQ (fun t_ mz az W=>∃j:Nat,j<=pl.length/\mz=pl.length-j/\az=⟨(ovr (jv az) [(4,4,0,[.string ((bC (bY k l pl.length++bg (pl.take j)))),vi ((j:Int))]),(18,24,15,[])] t_).toArray,[]⟩/\St w [] [eB ay 48 #[vi k,vi l,.slice A ss.length c],eB kI 151 #[.string ByteArray.empty,vi 0],eO 9 1 (.slice kn pl.length kY) pl.length (pl.map Value.string),eB rC 48 #[vi k,vi l,.slice kn pl.length kY]] W) (pl.length-0) ?_ ?_
 exact⟨0,Nat.zero_le _,rfl,(by rw[<-hhd];rfl),dL.pk [0,1,2,3]⟩
 rintro PT a12 sF ⟨j,hj,rfl,hj_,cP⟩
 refine ovz hj_ fun MX=>?_
 refine wq (wsq [.m 24 5,.k 25 (po rC 2)] ?_)
 refine am 3 cP ?_
 refine sqp [.k 27 (vi ((pl.length:Int))),.k 28 (.bool (decide ((j:Int)<(pl.length:Int))))] ?_
 refine aa (wds (fun m5 sg=>?_) fun m5 sg=>?_)
 refine wp_skip (aa (wq (wp_block ?_)))
 have hjl:j<pl.length:=by omega
 have hg4:=Ek zI j
 have hsz_:=Ef k l pl j hpz
 have htz_:=o8 (pl.getD j ByteArray.empty)
 refine sqs [.m 31 4,.k 32 (po rC 2)] ?_
 refine am 3 cP ?_
 refine sqp [.m 34 5] ?_
 refine sql (.pointer (some ((ad kn).add j))) cP (fun cx=>bz (e:=9) (m:=j) rfl (by kernel_rfl) (by kernel_rfl) (cx.ou 33) (cx.ou 34) (by omega) (by omega) (At.of_own (cx.ri 2 rfl)) (by simp)) ?_
 refine sql (.string (pl.getD j ByteArray.empty)) cP (fun cx=>ce rfl (by kernel_rfl) (cx.ou 35) (At.cellAd (At.of_own (cx.ri 2 rfl)) (jz (by omega)))) ?_
 refine sqk (.string ((jq (pl.getD j ByteArray.empty)))) cP (fun cx=>⟨_,Be (pl.getD j ByteArray.empty) _ (by omega),(av (cx.ou 36))⟩) fun xy dM=>?_
 refine sqp [sS 38 ((bC (bY k l pl.length++bg (pl.take j)))) ((jq (pl.getD j ByteArray.empty))) (by first|omega|(simp only[ByteArray.size_append];omega)),.m 4 38] ?_
 refine aq (aa (sqs [.m 29 5,sI 30 ((j:Int)+1) (by omega),.m 5 30] ?_))
 refine aa ?_
 rw[show bC (bY k l pl.length++bg (pl.take j))++jq (pl.getD j ByteArray.empty)=bC (bY k l pl.length++bg (pl.take (j+1))) from CV hjl]
 refine⟨pl.length-((j+1)),by omega,?_⟩
 exact⟨(j+1),by omega,rfl,(by kernel_rfl),dM.pk [0,1,2,3]⟩
 refine wp_exit (al (al (bf (aa (wq (wp_block ?_))))))
 have hje:j=pl.length:=by omega
 refine aQ (fun t_ mz az W=>∃m:Nat,6+aR pl+m<=504/\mz=504-(6+aR pl+m)/\az=⟨(ovr (jv az) [(4,4,0,[.string ((bC (bY k l pl.length++bg pl++List.replicate m (0:UInt8))))]),(34,39,5,[])] t_).toArray,[]⟩/\St w [] [eB ay 48 #[vi k,vi l,.slice A ss.length c],eB kI 151 #[.string ByteArray.empty,vi 0],eO 9 1 (.slice kn pl.length kY) pl.length (pl.map Value.string),eB rC 48 #[vi k,vi l,.slice kn pl.length kY]] W) (504-(6+aR pl+0)) ?_ ?_
 exact⟨0,by omega,rfl,(by rw[hje,List.take_length,List.replicate_zero,List.append_nil];rfl),cP.pk [0,1,2,3]⟩
 rintro UZ a31 Nq ⟨m,hm,rfl,hj_,km⟩
 refine ovz hj_ fun TX=>?_
 refine wq (wq ?_)
 have hbz_:=DP k l pl m
 have hz1_:(⟨#[0]⟩:ByteArray).size=1:=rfl
 refine sqs [.m 39 4,.k 40 (vi ((((bC (bY k l pl.length++bg pl++List.replicate m (0:UInt8)))).size:Int))),.k 41 (.bool (decide ((((bC (bY k l pl.length++bg pl++List.replicate m (0:UInt8)))).size:Int)<504)))] ?_
 refine aa (wds (fun tN vL=>?_) fun tN vL=>?_)
 refine wp_skip (aa (wp_block (sqs [.m 42 4,sS 43 ((bC (bY k l pl.length++bg pl++List.replicate m (0:UInt8)))) ((⟨#[0]⟩:ByteArray)) (by first|omega|(simp only[ByteArray.size_append];omega)),.m 4 43] ?_)))
 refine aq (aa ?_)
 rw[E7]
 refine⟨504-(6+aR pl+((m+1))),by omega,?_⟩
 exact⟨(m+1),by omega,rfl,(by kernel_rfl),km.pk [0,1,2,3]⟩
 refine wp_exit (al (al (bf (aa (wq ?_)))))
 obtain rfl:m=504-(6+aR pl):=by omega
 refine sqs [.m 44 4,.k 45 (po rC 1)] ?_
 refine am 3 km ?_
 refine sqk (.string ((ah l 4))) km (fun cx=>⟨_,iY l 4 _ (by decide) (by omega),(aN (cx.ou 46) (cx.co _))⟩) fun uX fu=>?_
 refine sqp [sS 48 ((bC (bY k l pl.length++bg pl++List.replicate (504-(6+aR pl)) (0:UInt8)))) ((ah l 4)) (by first|omega|(simp only[ByteArray.size_append];omega)),.m 4 48] ?_
 refine aa (wq ?_)
 have hbd:bC (bY k l pl.length++bg pl++List.replicate (504-(6+aR pl)) (0:UInt8))++ah l 4=bC (bR k l pl):=by rw[bR,<-yV _ (bl (ah l 4)),iv]
 have hba_:(bC (bY k l pl.length++bg pl++List.replicate (504-(6+aR pl)) (0:UInt8))++ah l 4).size=508:=by rw[ByteArray.size_append,hbz_,q2_];omega
 obtain⟨bd,hbde⟩:∃z,bC (bY k l pl.length++bg pl++List.replicate (504-(6+aR pl)) (0:UInt8))++ah l 4=z:=⟨_,rfl⟩
 rw[hbde] at hbd hba_ |-
 have hsl_:=kD bd
 have q4_:=aE (bc bd:Int) 4 (by omega)
 refine sqs [.m 49 4] ?_
 refine sqk (.int .u32 ((bc bd:Int))) fu (fun cx=>⟨_,yP bd _ (by omega),(av (cx.ou 49))⟩) fun FN gr=>?_
 refine sqp [sW 51 .i64 (bc bd:Int) (bc bd:Int) (IntWalk.i64_in _ (by omega))] ?_
 refine sqk (.string ((ah (bc bd:Int) 4))) gr (fun cx=>⟨_,iY (bc bd:Int) 4 _ (by decide) (by omega),(aN (cx.ou 51) (cx.co _))⟩) fun P1 nK=>?_
 refine sqp [.m 53 4,sS 54 ((ah (bc bd:Int) 4)) bd (by first|omega|(simp only[ByteArray.size_append];omega)),.k 55 (.agg #[.string (((ah (bc bd:Int) 4))++bd),vi 0])] ?_
 refine aT (n:=2) 1 #[.string (((ah (bc bd:Int) 4))++bd),vi 0] nK fun B1 cJ=>?_
 exact aa (wp_ret (bpr (.agg #[.string (((ah (bc bd:Int) 4))++bd),vi 0]) (bB (n:=2) results92 rfl (by kernel_rfl) (by kernel_rfl) (cJ.blk 1 rfl) rfl) (Ret.of (by rw[hpl,hbd];rfl) cJ.ext)))
end
section
open Go.RowKit
theorem Tryz.infoPgJ:(Tryz.prog.info? 48).map (fun i=>(i.zero,i.size,i.bytes))=some (some (.agg #[.int .i64 0,.int .i64 0,sn]),3,40):=by kernel_rfl
def pgQ(q:PgR):List Value:=[.int .i64 q.p.1,.int .i64 q.p.2.1,.slice q.A q.p.2.2.length q.c]
theorem eU(q:PgR):(pgQ q).length=3:=rfl
def fT(L:List RecM)(os:List Int):List Int:=os.filter fun n=>!eT L n
noncomputable def imR(L:List RecM)(n:Int):RecM:=⟨8,0,n,[],aG (af L n)⟩
noncomputable def icL(L:List RecM)(n:Int):List Value:=rcC (rcI (imR L n))
theorem Bn(L:List RecM)(n:Int):(icL L n).length=8:=rfl
theorem uy(L:List RecM)(os:List Int)(n:Int):fT L (os++[n])=if eT L n=true then fT L os else fT L os++[n]:=by
 rw[fT,List.filter_append,<-fT]
 rcases h:eT L n with _|_<;>simp[h]
theorem DH(h:n∈fT L os):n∈os:=(List.mem_filter.1 h).1
theorem wR(L:List RecM)(os:List Int):(fT L os).length<=os.length:=List.length_filter_le _ _
theorem Ih(L:List RecM)(os:List Int)(n:Int):os.flatMap (icL L)++icL L n=(os++[n]).flatMap (icL L):=by rw[List.flatMap_append];simp
theorem zD(ps:List PgR)(q:PgR):ps.flatMap pgQ++pgQ q=(ps++[q]).flatMap pgQ:=by rw[List.flatMap_append];simp
theorem L7(ps:List PgR)(p:PgS)(A:Option Addr)(c:Nat):ps.flatMap pgQ++[.int .i64 p.1,.int .i64 p.2.1,.slice A p.2.2.length c]=(ps++[(⟨p,A,c⟩:PgR)]).flatMap pgQ:=zD ps ⟨p,A,c⟩
theorem uO(L:List RecM)(os:List Int):szF (dy L os)=szF ((fT L os).map (imR L)):=rfl
theorem qq(hn:0<=n/\n<=65535):bt (imR L n)=true:=by
 have h1:=cR (fa L n)
 have a1:inB n 0 65535=true:=by unfold inB;rw[Bool.and_eq_true,decide_eq_true_eq,decide_eq_true_eq];omega
 have a2:decide (((aG (af L n)).size:Int)<=60000)=true:=decide_eq_true (by omega)
 show (inB 8 1 10&&(inB 0 0 127&&(inB n 0 65535&&(decide ((([]:List EdT).length:Int)<=64)&&((([]:List EdT).all edR)&&decide (((aG (af L n)).size:Int)<=60000))))))=true
 rw[a1,a2];decide
theorem BW:∀{l:List EdT},n∉ck l->bo cur l n=cur n:=by
 intro l h
 have h2:∀e∈l,e.1≠n:=fun e he hn=>h (kr.2 ⟨e,he,hn⟩)
 clear h
 induction l generalizing cur with
 |nil=>rfl
 |cons e l ih=>
  rw[show bo cur (e::l)=bo (eW cur e) l from rfl,ih (fun x hx=>h2 x (by simp[hx]))]
  exact if_neg (fun h=>h2 e (by simp) h.symm)
theorem KP{ps:List PgR}{q:PgR}(hnd:os.Nodup)(hk:os[k]? =some e.1)(hps:ps.map PgR.p=os.map (bo cur l))(hq:q.p=doV (bo cur l e.1) e 1):
  (ps.set k q).map PgR.p=os.map (bo cur (l++[e])):=by
 rw[List.map_set,hps,yI]
 refine List.ext_getElem? fun i=>?_
 have hkl:k<os.length:=(List.getElem?_eq_some_iff.1 hk).1
 rw[List.getElem?_set,List.length_map,List.getElem?_map,List.getElem?_map]
 by_cases hi:k=i
 subst hi
 rw[if_pos rfl,if_pos hkl,hk,hq]
 show _=some (eW (bo cur l) e e.1)
 rw[eW,if_pos rfl]
 rw[if_neg hi]
 rcases h:os[i]? with _|n
 rfl
 show some _=some (eW (bo cur l) e n)
 rw[eW,if_neg (fun hn=>hi (by
  subst hn
  exact(List.getElem?_inj hkl hnd).1 (hk.trans h.symm)))]
noncomputable def tlF(L:List RecM)(told:Int->Bool)(eds:List EdT)(os:List Int):Int->Bool:=fun n=>if n∈os/\(af L n).1≠0/\(bo (af L) eds n).1=0 then false else told n
theorem Lc{eds:List EdT}(h1:(af L n).1≠0)(h2:(bo (af L) eds n).1=0):(fun x=>if x=n then false else tlF L told eds os x)=tlF L told eds (os++[n]):=by
 funext x
 by_cases hx:x=n
 subst hx;rw[if_pos rfl,tlF,if_pos ⟨by simp,h1,h2⟩]
 rw[if_neg hx,tlF,tlF];simp[hx]
theorem LP{eds:List EdT}(h:¬((af L n).1≠0/\(bo (af L) eds n).1=0)):tlF L told eds os=tlF L told eds (os++[n]):=by
 funext x
 rw[tlF,tlF]
 by_cases hx:x=n
 subst hx;rw[if_neg (fun h1=>h h1.2),if_neg (fun h1=>h h1.2)]
 simp[hx]
def eRh(rb:Nat)(L:List RecM)(told:Int->Bool)(p:Nat)(t:RcT)(fp:List Nat):Ent:=⟨fp,fun W=>∃rs rr,rs.map RcT.r=L/\((∀t∈rs,t∈rr)/\t∈rr)/\(eRq rb rs told p rr fp).holds W⟩
theorem BR(rb:Nat)(L:List RecM)(told:Int->Bool)(p:Nat)(t:RcT)(fp:List Nat):(eRh rb L told p t fp).loc:=fun W W' hk h=>let ⟨rs,rr,h1,h2,h3⟩:=h;⟨rs,rr,h1,h2,mi rb rs told p rr fp W W' hk h3⟩
section
variable{w0 W:World}{bor:List Nat}{R:List Ent}{rb:Nat}{L:List RecM}{told:Int->Bool}{p:Nat}{t:RcT}{fp:List Nat}
theorem St.unrh(h:St w0 bor (eRh rb L told p t fp::R) W):∃rs rr,rs.map RcT.r=L/\((∀t∈rs,t∈rr)/\t∈rr)/\St w0 bor (eRq rb rs told p rr fp::R) W:=by
 obtain⟨rs,rr,h1,h2,h3⟩:=(h.ok (eRh rb L told p t fp) (by simp)).holds
 exact⟨rs,rr,h1,h2,St.repl (L1:=[]) h rfl (fun _=>h3) (mi _ _ _ _ _ _)⟩
theorem St.rh(h:St w0 bor (gW t::eRf rb L told p fp::R) W):∃fp',St w0 bor (eRh rb L told p t fp'::R) W:=by
 obtain⟨rs,rr,h1,h2,h3⟩:=h.u1.unrf
 obtain⟨fp',h4⟩:=h3.u1.rqR
 exact⟨fp',St.repl (L1:=[]) h4 rfl (fun h5=>⟨rs,rr++[t],h1,⟨fun x hx=>List.mem_append_left _ (h2 x hx),by simp⟩,h5⟩) (BR _ _ _ _ _ _)⟩
end
theorem La(h:rs.map RcT.r=L)(hc:Calls P_ f args w (pB (af (rs.map RcT.r) n) w)):Calls P_ f args w (pB (af L n) w):=h ▸ hc
theorem GG(h:rs.map RcT.r=L)(hc:Calls P_ f args w (Ret (.bool (eT (rs.map RcT.r) n)) w)):Calls P_ f args w (Ret (.bool (eT L n)) w):=h ▸ hc
theorem CE(hA:At w A (p.2.2.map Value.string))(hr:bI p)(hc:p.2.2.length<=c):Calls P_ 92 #[.agg #[.int .i64 p.1,.int .i64 p.2.1,.slice A p.2.2.length c]] w (Ret (.agg #[.string (aG p),.int .i64 0]) w):=by
 have h:=CX p.1 p.2.1 A c p.2.2 w hA hr.1 hc
 rw[hr.2] at h;exact h
theorem sM{rows:List PgR}(h:(eM (rows.map dw)).holds W){r:PgR}(hr:r∈rows):r.p.2.2.length<=r.c:=lh (h (dw r) (List.mem_map.2 ⟨_,hr,rfl⟩)).1
theorem Gy(hm:m=os.length)(h:(decide ((k:Int)<(m:Int))&&(os.getD k 0 != ep))=true)(hne:∀i,i<k->os[i]? ≠some ep):∀i,i<k+1->os[i]? ≠some ep:=fun i hi=>by
 rw[Bool.and_eq_true,decide_eq_true_eq,bne_iff_ne] at h
 rcases Nat.lt_or_ge i k with h1|h1
 exact hne i h1
 have e:i=k:=by omega
 subst e
 intro h2
 exact h.2 (by rw[List.getD_eq_getElem?_getD,h2];rfl)
theorem If(hm:m=os.length)(hk:k<=m)(h:(decide ((k:Int)<(m:Int))&&(os.getD k 0 != ep))=false):k=m\/os[k]? =some ep:=by
 rcases Nat.lt_or_ge k m with h1|h1
 right
 rw[decide_eq_true (by omega),Bool.true_and,bne_eq_false_iff_eq,List.getD_eq_getElem?_getD,List.getElem?_eq_getElem (by omega)] at h
 rw[List.getElem?_eq_getElem (by omega),<-h];rfl
 left;omega
theorem KZ(hk:k=os.length)(hne:∀i,i<k->os[i]? ≠some ep):ep∉os:=fun h=>by
 obtain⟨i,hi,he⟩:=List.mem_iff_getElem.1 h
 exact hne i (by omega) (by rw[List.getElem?_eq_getElem hi,he])
theorem yt{ps:List PgR}(h:ps.map PgR.p=os.map cur)(hk:os[k]? =some n):∃q,ps[k]? =some q/\q.p=cur n:=by
 have h1:=congrArg (fun l=>l[k]?) h
 simp only[List.getElem?_map,hk] at h1
 rcases e:ps[k]? with _|q
 rw[e] at h1;cases h1
 rw[e] at h1;exact⟨q,rfl,Option.some.inj h1⟩
theorem GM{ims:List RecM}(h:rs.map RcT.r=L++ims)(hi:∀r∈ims,r.eds=[])(hc:Calls P_ f args w (pB (af (rs.map RcT.r) n) w)):Calls P_ f args w (pB (af L n) w):=by
 rw[h,uk hi] at hc;exact hc
theorem wA(a b:List RecM):szF (a++b)=szF a+szF b:=by simp[szF]
theorem Ca(l:List RecM)(i:Nat):szF (l.take i)<=szF l:=by
 conv=>rhs;rw[<-List.take_append_drop i l,wA]
 omega
theorem K7{eds:List EdT}:tlF L told eds []=told:=by funext x;rw[tlF,if_neg (by simp)]
theorem HL(h:(fT L os)[i]? =some n):(dy L os).take (i+1)=(dy L os).take i++[imR L n]:=by
 have e:(dy L os)[i]? =some (imR L n):=by
  show ((fT L os).map _)[i]? = _
  rw[List.getElem?_map,h];rfl
 rw[List.take_add_one,e];rfl
theorem sN(L:List RecM)(os:List Int):(dy L os).length=(fT L os).length:=List.length_map ..
theorem Ez(rb:Nat)(L:List RecM)(told:Int->Bool)(p:Nat)(t:RcT)(fp:List Nat)(w:World)(hB:(eRh rb L told p t fp).holds w)(hlt:∀k∈fp,k<w.heap.size)(hL:∀r∈L,bt r=true)(hz:szF L<=1048576)(hp:p<=400)(hI:t.r.eds.length<=100000)(hze:∀e∈t.r.eds,e.2.2.size<=9223372036854775807)(hzn:t.r.note.size<=9223372036854775807):
  Calls P_ 77 #[po rb 0,.agg #[.int .i64 t.r.kind,.int .i64 t.r.xid,.int .i64 t.r.tbl,sn,sn,.slice t.A t.r.eds.length t.c,sn,.string t.r.note]] w ((fun e w2=>e= .returned (.agg #[.int .i64 (rfD p L told t.r).2.1,.int .i64 (rfE p L t.r)])/\∃fp2,St w fp [eRf rb (rfD p L told t.r).1 (rfD p L told t.r).2.2.2 p fp2] w2)):=by
 have st1:St w fp [eRh rb L told p t fp] w:=St.lend hB (BR _ _ _ _ _ _) hlt
 have hll:=uw hL hz
 go_enter func77,ntmps77
 have aj:=st1
 refine wq (sqr ?_)
 refine bX #[vi t.r.kind,vi t.r.xid,vi t.r.tbl,sn,sn,.slice t.A t.r.eds.length t.c,sn,.string t.r.note] aj fun bP W1 ax=>?_
 refine bW #[vi 0,vi 0] ax fun dE W2 bA=>?_
 refine aa (wq (wq ?_))
 obtain⟨rs,rr,hrs,⟨hsub,htr⟩,ho3_⟩:=bA.unrh
 have hzs:szF (rs.map RcT.r)<=1048576:=hrs ▸ hz
 have hrl:rs.length<=1000000:=by have h_:=congrArg List.length hrs;rw[List.length_map] at h_;omega
 have hrL:∀t∈rs,bt t.r=true:=fun t ht=>hL _ (hrs ▸ List.mem_map.2 ⟨t,ht,rfl⟩)
 obtain⟨QA,qc,TA,tc,hq4_⟩:=ho3_.unrq
 refine sqr ?_
 refine bD 4 8 hq4_ ?_
 refine sqk (.bool ((bt t.r))) hq4_ (fun cx=>⟨_,mB t.r.kind t.r.xid t.r.tbl t.A t.c t.r.eds t.r.note _ (dP (CtxV.holdF cx (cx.init 3 _ rfl) rfl) htr) (by omega) hze hzn,(av (cx.ou 20))⟩) fun W6 bJ=>?_
 refine sqp [.k 22 (.bool (!((bt t.r)))),.m 23 22] ?_
 refine d3 23 [24,25,26] ?_ rfl (fun hq=>?_) ?_
 rotate_left
 refine sqp [.k 24 (vp bP)] ?_
 refine am 4 bJ ?_
 refine sqp [.k 26 (.bool (t.r.kind==8))] ?_
 exact sqe
 refine c7 ?_
 refine sqp [sPo 27 (!((bt t.r))) (t.r.kind==8),.m 28 27] ?_
 refine d3 28 [29,30,31] ?_ rfl (fun hq=>?_) ?_
 rotate_left
 refine sqp [.k 29 (vp bP)] ?_
 refine am 4 bJ ?_
 refine sqp [.k 31 (.bool (t.r.kind==9))] ?_
 exact sqe
 refine c7 ?_
 refine sqp [sPo 32 ((!((bt t.r)))||(t.r.kind==8)) (t.r.kind==9)] ?_
 refine aa (wbs (fun m5=>?_) fun m5=>?_)
 have sg:=m5
 simp only[zB] at sg
 refine wsq [.k 33 (.agg #[vi 0,vi 1])] ?_
 refine aT (n:=2) 5 #[vi 0,vi 1] bJ fun M7 ki=>?_
 refine aa (wp_ret (ai ?_))
 refine bpr (.agg #[vi 0,vi 1]) (bB (n:=2) results77 rfl (by kernel_rfl) (by kernel_rfl) (ki.blk 5 rfl) rfl) ?_
 have hE_:rfE p L t.r=1:=Jk (fun hh=>by have h_:=m5;have h1:=hh.1;have h2:=hh.2.1;have h3:=hh.2.2;simp_all)
 obtain⟨fp21_,hr21_⟩:=St.rq (rs:=rs) (told:=told) (p:=p) (rr:=rr) (ki.u4.c0.u4.c0)
 have Pq:=St.rf (L:=L) hr21_ (hrs) (hsub)
 exact⟨by rw[jV (told:=told) hE_ (by first|decide|assumption),hE_],_,by rw[jV (told:=told) hE_ (by first|decide|assumption)];exact Pq⟩
 have sg:=m5
 simp only[zB] at sg
 obtain⟨⟨Sn,So⟩,Sp⟩:=sg
 refine wp_skip (aa (wq (wq ?_)))
 have hda:DoA t.r:=by have h_:=m5;simp at h_;exact⟨h_.1.1,h_.1.2,h_.2⟩
 have hro:=d4 hda.1
 have hml:=hro.many
 refine sqs [.k 5 (vi 0)] ?_
 refine aa (wp_block ?_)
 refine aQ (fun t_ mz az W=>∃i:Nat,i<=t.r.eds.length/\(∀e∈t.r.eds.take i,d8 p e=false)/\mz=t.r.eds.length-i/\az=⟨(ovr (jv az) [(5,5,0,[vi ((i:Int))]),(28,34,28,[])] t_).toArray,[]⟩/\St w fp [eB rb 69 #[vi ((p:Int)),.slice QA rs.length qc,vi ((szF (rs.map RcT.r):Int)),.slice TA p tc],eO 27 8 (.slice QA rs.length qc) rs.length (rs.flatMap rcC),eO 4 1 (.slice TA p tc) p (tB told p),eRc rr,eB bP 27 #[vi t.r.kind,vi t.r.xid,vi t.r.tbl,sn,sn,.slice t.A t.r.eds.length t.c,sn,.string t.r.note],eB dE 129 #[vi 0,vi 0]] W) (t.r.eds.length-0) ?_ ?_
 exact⟨0,Nat.zero_le _,(fun e he=>by cases he),rfl,(by kernel_rfl),bJ.pk [0,1,2,3,4,5]⟩
 rintro Rq a24 uV ⟨i,hi,hno,rfl,hj_,et⟩
 refine ovz hj_ fun Qq=>?_
 refine wq (wsq [.m 34 5,.k 35 (po bP 5)] ?_)
 refine am 4 et ?_
 refine sqp [.k 37 (vi ((t.r.eds.length:Int))),.k 38 (.bool (decide ((i:Int)<(t.r.eds.length:Int))))] ?_
 refine aa (wds (fun iN g9=>?_) fun iN g9=>?_)
 refine wp_skip (aa (wq (wp_block (wq ?_))))
 obtain⟨ep,es,eb,hek⟩:=CW (l:=t.r.eds) (j:=i) (by omega)
 have hke:edR (ep,es,eb)=true:=hro.eds _ (List.mem_of_getElem? hek)
 have hez:eb.size<=9223372036854775807:=by have:=dn hke;dsimp only at this;omega
 have hebd:=ll hke
 dsimp only at hebd
 refine bG [0,1,0,7,15,31,63,127,255,511,255,2047,4095,8191,255,16639,49407,114943,262143,524287] [[],[4],[],[3],[],[3],[],[],[],[4],[],[3],[],[3],[],[],[],[0]] [.k 41 (po bP 5),.c 42 (.slice t.A t.r.eds.length t.c),.k 43 (vi ((i:Int))),.c 44 (.pointer (some ((ad t.A).add (i*3)))),.c 45 (.pointer (some ((ad t.A).add (i*3+0)))),.c 46 (vi ep),.k 47 (.bool (decide (ep<0))),.k 48 (.bool (decide (ep<0))),.z 49 (!(decide (ep<0))) (po bP 5),.y 50 (!(decide (ep<0))) (.slice t.A t.r.eds.length t.c),.z 51 (!(decide (ep<0))) (vi ((i:Int))),.y 52 (!(decide (ep<0))) (.pointer (some ((ad t.A).add (i*3)))),.y 53 (!(decide (ep<0))) (.pointer (some ((ad t.A).add (i*3+0)))),.y 54 (!(decide (ep<0))) (vi ep),.z 55 (!(decide (ep<0))) (vp rb),.z 56 (!(decide (ep<0))) (vp rb),.z 57 (!(decide (ep<0))) (vp rb),.y 58 (!(decide (ep<0))) (vi ((p:Int))),.z 59 (!(decide (ep<0))) (.bool (decide ((p:Int)<=ep))),tO 60 (decide (ep<0)) (decide ((p:Int)<=ep))] [0,1,2,3,4,5] [1,3,4,5,9,11,12,13,17] [(41,0,20,61)] et ?_ fun Nq km=>?_
 refine⟨?_,?_,?_,?_,?_,?_,?_,?_,?_,trivial⟩
 exact xs4 rfl id fun cx=>rL1 (cx.an 0) ((cx.bi 4 rfl).cell 5)
 exact xs4 rfl id fun cx=>aD (e:=84) (m:=i) (sz:=3) rfl (by kernel_rfl) (by kernel_rfl) (cx.an 1) (cx.an 2) (by omega) (by omega) (dP (CtxV.holdF cx (cx.init 3 _ rfl) rfl) htr) (bm (sz:=3) bE (by decide) (by omega))
 exact xs4 rfl id fun cx=>bn rfl (by kernel_rfl) (cx.an 3)
 exact xs4 rfl id fun cx=>rL1 (cx.an 4) (At.eltc (f:=edC) (k:=0) bE (dP (CtxV.holdF cx (cx.init 3 _ rfl) rfl) htr) hek rfl)
 exact m2 rfl (fun _ _ _ h=>h) (fun cx=>(cx.an 7)) fun cx hq=>rL1 (mbv (cx.an 8) hq) ((cx.bi 4 rfl).cell 5)
 exact m2 rfl (fun _ _ _ h=>h) (fun cx=>(cx.an 7)) fun cx hq=>aD (e:=84) (m:=i) (sz:=3) rfl (by kernel_rfl) (by kernel_rfl) (mbv (cx.an 9) hq) (mbv (cx.an 10) hq) (by have hq_:=hq;simp only[zB] at hq_;omega) (by have hq_:=hq;simp only[zB] at hq_;omega) (dP (CtxV.holdF cx (cx.init 3 _ rfl) rfl) htr) (bm (sz:=3) bE (by decide) (by have hq_:=hq;simp only[zB] at hq_;omega))
 exact m2 rfl (fun _ _ _ h=>h) (fun cx=>(cx.an 7)) fun cx hq=>bn rfl (by kernel_rfl) (mbv (cx.an 11) hq)
 exact m2 rfl (fun _ _ _ h=>h) (fun cx=>(cx.an 7)) fun cx hq=>rL1 (mbv (cx.an 12) hq) (At.eltc (f:=edC) (k:=0) bE (dP (CtxV.holdF cx (cx.init 3 _ rfl) rfl) htr) hek rfl)
 exact m2 rfl (fun _ _ _ h=>h) (fun cx=>(cx.an 7)) fun cx hq=>rL1 (mbv (cx.an 16) hq) ((cx.bi 0 rfl).cell 0)
 refine aa (wbs (fun gX=>?_) fun gX=>?_)
 have kT:=gX
 simp only[zB] at kT
 refine wsq [.k 61 (.agg #[vi 0,vi 22])] ?_
 refine aT (n:=2) 5 #[vi 0,vi 22] km fun xA ek=>?_
 refine aa (wp_ret (aY (ai (ai (aY (ai ?_))))))
 refine bpr (.agg #[vi 0,vi 22]) (bB (n:=2) results77 rfl (by kernel_rfl) (by kernel_rfl) (ek.blk 5 rfl) rfl) ?_
 have hE_:rfE p L t.r=22:=Fk hda (List.any_eq_true.2 ⟨_,List.mem_of_getElem? hek,by have h_:=gX;unfold d8;simpa using h_⟩)
 obtain⟨fp35_,hr35_⟩:=St.rq (rs:=rs) (told:=told) (p:=p) (rr:=rr) (ek.u4.c0.u4.c0)
 have Pr:=St.rf (L:=L) hr35_ (hrs) (hsub)
 exact⟨by rw[jV (told:=told) hE_ (by first|decide|assumption),hE_],_,by rw[jV (told:=told) hE_ (by first|decide|assumption)];exact Pr⟩
 have kT:=gX
 simp only[zB] at kT
 obtain⟨Sr,Ss⟩:=kT
 refine wp_skip (aq (aa (sqs [.m 39 5,sI 40 ((i:Int)+1) (by omega),.m 5 40] ?_)))
 refine aa ?_
 refine⟨t.r.eds.length-((i+1)),by omega,?_⟩
 exact⟨(i+1),by omega,(fun e he=>by rw[List.take_add_one,hek] at he;rcases List.mem_append.1 he with h|h;exact hno e h;rw[show e=(ep,es,eb) by simpa using h];have h_:=gX;unfold d8;simpa using h_),rfl,(by kernel_rfl),km.pk [0,1,2,3,4,5]⟩
 refine wp_exit (al (al (bf (aa (wq ?_)))))
 have hin:t.r.eds.any (d8 p)=false:=List.any_eq_false.2 fun e he=>by rw[hno e (by rw[List.take_of_length_le (by omega)];exact he)];decide
 have hfz:=eV hda.1
 refine sqr ?_
 refine d9 (fun x_=>sA x_) (fun rD=> .slice rD 0 0) (fun rD=>eO 3 1 (.slice rD 0 0) 0 ([])) et (by
   refine svA fun o b W X cx=>?_
   exact dA (e:=3) (xs:=[]) rfl (by simp[go_sem]) rfl (by decide) rfl rfl (fun _ _ _ _ _=> .intro)) fun rD xC d7=>?_
 refine sqp [.m 6 62] ?_
 refine aa (wq (sqr ?_))
 refine mX 48 3 0 [] d7 (@fun o b W X cx=>by simp[go_sem]) fun NT uX fu=>?_
 refine sqp [.m 7 63] ?_
 refine aa (wq (sqr ?_))
 refine mX 27 8 0 [] fu (@fun o b W X cx=>by simp[go_sem]) fun NU Rs vf=>?_
 refine sqp [.m 8 64] ?_
 refine aa (wq ?_)
 have hzl:szF L<=1048576:=hz
 have hzq:(szF (rs.map RcT.r):Int)=(szF L:Int):=by rw[hrs]
 refine bG [0,1,3,7,0,16,48,127,255] [[],[],[],[0],[4],[3]] [.k 65 (vp rb),.k 66 (vp rb),.k 67 (po rb 2),.c 68 (vi ((szF (rs.map RcT.r):Int))),.c 69 (.agg #[vi t.r.kind,vi t.r.xid,vi t.r.tbl,sn,sn,.slice t.A t.r.eds.length t.c,sn,.string t.r.note]),.c 70 (.string ((aA t.r))),.k 71 (vi ((((aA t.r)).size:Int))),tI 72 ((szF (rs.map RcT.r):Int)+(((aA t.r)).size:Int)) (by omega),.k 9 (vi ((szF (rs.map RcT.r):Int)+(((aA t.r)).size:Int)))] [0,1,2,3,4,5,6,7,8] [3,4,5] [(9,8,1,10),(55,0,8,63)] vf ?_ fun FN gr=>?_
 refine⟨?_,?_,?_,trivial⟩
 exact xs4 rfl id fun cx=>rL1 (cx.an 2) ((cx.bi 0 rfl).cell 2)
 exact xs4 rfl id fun cx=>rLB (n:=8) (cx.ou 3) (cx.bi 4 rfl) (nle rfl) rfl
 exact xsc rfl id rfl rfl fun cx=>⟨_,jQ t.r.kind t.r.xid t.r.tbl t.A t.c t.r.eds t.r.note _ (dP (CtxV.holdF cx (cx.init 3 _ rfl) rfl) htr) (by have h_:=hml;omega) (fun e he=>by have h_:=dn (hro.eds e he);omega) (by have h_:=hro.note;omega),(av (cx.an 4))⟩
 refine aa (wq (wsq [.k 10 (vi 0)] ?_))
 refine aa (wp_block ?_)
 have hn48_:=gr.nM dw
 refine aQ (fun t_ mz az W=>∃j:Nat,∃os:List Int,∃m:Nat,∃OA:Option Addr,∃oc:Nat,∃ps:List PgR,∃NA:Option Addr,∃nc:Nat,∃rws:List PgR,∃nl:List Int,∃g:Nat,∃IA:Option Addr,∃ic:Nat,∃z:Int,j<=t.r.eds.length/\os=ck (t.r.eds.take j)/\m=os.length/\cV (af L) (t.r.eds.take j)=0/\ps.map PgR.p=os.map (bo (af L) (t.r.eds.take j))/\(∀q∈ps,q∈rws)/\nl=fT L os/\g=nl.length/\z=(szF L:Int)+((aA t.r).size:Int)+(szF (dy L os):Int)/\(0<=z/\z<=2000000+200000*(j:Int))/\mz=t.r.eds.length-j/\az=⟨(ovr (jv az) [(6,6,0,[.slice OA m oc,.slice NA m nc,.slice IA g ic,vi z,vi ((j:Int))]),(0,11,5,[]),(57,73,87,[])] t_).toArray,[]⟩/\St w fp [eB rb 69 #[vi ((p:Int)),.slice QA rs.length qc,vi ((szF (rs.map RcT.r):Int)),.slice TA p tc],eO 27 8 (.slice QA rs.length qc) rs.length (rs.flatMap rcC),eO 4 1 (.slice TA p tc) p (tB told p),eRc rr,eB bP 27 #[vi t.r.kind,vi t.r.xid,vi t.r.tbl,sn,sn,.slice t.A t.r.eds.length t.c,sn,.string t.r.note],eB dE 129 #[vi 0,vi 0],eO 3 1 (.slice OA m oc) m (os.map (Value.int .i64)),eO 48 3 (.slice NA m nc) m (ps.flatMap pgQ),eO 27 8 (.slice IA g ic) g (nl.flatMap (icL L)),eM (List.map dw rws)] W) (t.r.eds.length-0) ?_ ?_
 exact⟨0,[],0,rD,0,[],(some ⟨NT,0,none⟩),0,[],[],0,(some ⟨NU,0,none⟩),0,(szF (rs.map RcT.r):Int)+(((aA t.r)).size:Int),Nat.zero_le _,rfl,rfl,rfl,rfl,(fun q hq=>by cases hq),rfl,rfl,(by rw[hrs];show _= _+((0:Nat):Int);omega),(by rw[hrs];omega),rfl,(by kernel_rfl),hn48_.pk [1,2,3,4,5,6,7,8,9,0]⟩
 rintro U0 a49 MQ ⟨j,os,m,OA,oc,ps,NA,nc,rws,nl,g,IA,ic,z,hj,hos,hm,herr,hps,hpr,hnl,hg,hz1,hzb,rfl,hj_,eo⟩
 refine ovz hj_ fun TY=>?_
 refine wq (wsq [.m 73 10,.k 74 (po bP 5)] ?_)
 refine am 4 eo ?_
 refine sqp [.k 76 (vi ((t.r.eds.length:Int))),.k 77 (.bool (decide ((j:Int)<(t.r.eds.length:Int))))] ?_
 refine aa (wds (fun QX Pt=>?_) fun QX Pt=>?_)
 ·refine wp_skip (aa (wq (wp_block (wq ?_))))
  obtain⟨ep,es,eb,hek⟩:=CW (l:=t.r.eds) (j:=j) (by omega)
  have hke:edR (ep,es,eb)=true:=hro.eds _ (List.mem_of_getElem? hek)
  have hez:eb.size<=9223372036854775807:=by have:=dn hke;dsimp only at this;omega
  have hebd:=ll hke
  dsimp only at hebd
  have hpe:=ld hin (List.mem_of_getElem? hek)
  have hj64:j<=64:=by omega
  have hmj:m<=j:=by rw[hm,hos];have h1:=jE (t.r.eds.take j);rw[List.length_take] at h1;omega
  refine sqs [.k 80 (po bP 5)] ?_
  refine am 4 eo ?_
  refine sqp [.m 82 10] ?_
  refine sql (.pointer (some ((ad t.A).add (j*3)))) eo (fun cx=>aD (e:=84) (m:=j) (sz:=3) rfl (by kernel_rfl) (by kernel_rfl) (cx.ou 81) (cx.ou 82) (by omega) (by omega) (dP (CtxV.holdF cx (cx.init 3 _ rfl) rfl) htr) (bm (sz:=3) bE (by decide) (by omega))) ?_
  refine sql (.pointer (some ((ad t.A).add (j*3+0)))) eo (fun cx=>bn rfl (by kernel_rfl) (cx.ou 83)) ?_
  refine sql (vi ep) eo (fun cx=>rL1 (cx.ou 84) (At.eltc (f:=edC) (k:=0) bE (dP (CtxV.holdF cx (cx.init 3 _ rfl) rfl) htr) hek rfl)) ?_
  refine sqp [.m 11 85] ?_
  refine aa (wsq [.k 12 (vi 0)] ?_)
  refine aa (wq (wp_block ?_))
  refine aQ (fun t_ mz az W=>∃k:Nat,k<=m/\(∀i,i<k->os[i]? ≠some ep)/\mz=m-k/\az=⟨(ovr (jv az) [(12,12,0,[vi ((k:Int))]),(73,86,14,[])] t_).toArray,[]⟩/\St w fp [eB rb 69 #[vi ((p:Int)),.slice QA rs.length qc,vi ((szF (rs.map RcT.r):Int)),.slice TA p tc],eO 27 8 (.slice QA rs.length qc) rs.length (rs.flatMap rcC),eO 4 1 (.slice TA p tc) p (tB told p),eRc rr,eB bP 27 #[vi t.r.kind,vi t.r.xid,vi t.r.tbl,sn,sn,.slice t.A t.r.eds.length t.c,sn,.string t.r.note],eB dE 129 #[vi 0,vi 0],eO 3 1 (.slice OA m oc) m (os.map (Value.int .i64)),eO 48 3 (.slice NA m nc) m (ps.flatMap pgQ),eO 27 8 (.slice IA g ic) g (nl.flatMap (icL L)),eM (List.map dw rws)] W) (m-0) ?_ ?_
  exact⟨0,Nat.zero_le _,(fun i hi=>absurd hi (by omega)),rfl,(by kernel_rfl),eo.pk [0,1,2,3,4,5,6,7,8,9]⟩
  rintro U1 a64 JD ⟨k,hk,hne,rfl,hj_,gG⟩
  refine ovz hj_ fun TZ=>?_
  refine wq (wsq [.m 86 12,.m 87 6,.k 88 (vi ((m:Int))),.k 89 (.bool (decide ((k:Int)<(m:Int)))),.m 90 89] ?_)
  refine d3 90 [91,92,93,94,95,96] ?_ rfl (fun hq=>?_) ?_
  rotate_left
  have hq_:=of_decide_eq_true hq
  refine sqp [.m 91 6,.m 92 12] ?_
  refine sql (.pointer (some ((ad OA).add k))) gG (fun cx=>bz (e:=3) (m:=k) rfl (by kernel_rfl) (by kernel_rfl) (cx.ou 91) (cx.ou 92) (by omega) (by omega) (At.of_own (cx.ri 6 rfl)) (by rw[List.length_map];omega)) ?_
  refine sql (vi (os.getD k 0)) gG (fun cx=>ce rfl (by kernel_rfl) (cx.ou 93) (At.cellAd (At.of_own (cx.ri 6 rfl)) (zx (by omega)))) ?_
  refine sqp [.m 95 11,.k 96 (.bool ((os.getD k 0) != ep))] ?_
  exact sqe
  refine c7 ?_
  refine sqp [sPa 97 (decide ((k:Int)<(m:Int))) ((os.getD k 0) != ep)] ?_
  refine aa (wbs (fun Ap=>?_) fun Ap=>?_)
  have x5:=Ap
  simp only[zB] at x5
  obtain⟨Su,Sv⟩:=x5
  refine wp_skip (aa (wp_block (sqs [.m 98 12,sI 99 ((k:Int)+1) (by omega),.m 12 99] ?_)))
  refine aq (aa ?_)
  refine⟨m-((k+1)),by omega,?_⟩
  exact⟨(k+1),by omega,Gy hm Ap hne,rfl,(by kernel_rfl),gG.pk [0,1,2,3,4,5,6,7,8,9]⟩
  have x5:=Ap
  simp only[zB] at x5
  refine wp_exit (al (al (bf (aa ?_))))
  refine mu (fun t_ az W=>∃os2:List Int,∃m2:Nat,∃OA2:Option Addr,∃oc2:Nat,∃ps2:List PgR,∃NA2:Option Addr,∃nc2:Nat,∃rws2:List PgR,∃nl2:List Int,∃g2:Nat,∃IA2:Option Addr,∃ic2:Nat,∃z2:Int,os2=ju os (ep,es,eb)/\m2=os2.length/\ps2.map PgR.p=os2.map (bo (af L) (t.r.eds.take j))/\(∀q∈ps2,q∈rws2)/\nl2=fT L os2/\g2=nl2.length/\z2=(szF L:Int)+((aA t.r).size:Int)+(szF (dy L os2):Int)/\(0<=z2/\z2<=2000000+200000*((j:Int)+1))/\os2[k]? =some ep/\az=⟨(ovr (jv az) [(6,6,0,[.slice OA2 m2 oc2,.slice NA2 m2 nc2,.slice IA2 g2 ic2,vi z2]),(3,13,2,[]),(85,100,39,[])] t_).toArray,[]⟩/\St w fp [eB rb 69 #[vi ((p:Int)),.slice QA rs.length qc,vi ((szF (rs.map RcT.r):Int)),.slice TA p tc],eO 27 8 (.slice QA rs.length qc) rs.length (rs.flatMap rcC),eO 4 1 (.slice TA p tc) p (tB told p),eRc rr,eB bP 27 #[vi t.r.kind,vi t.r.xid,vi t.r.tbl,sn,sn,.slice t.A t.r.eds.length t.c,sn,.string t.r.note],eB dE 129 #[vi 0,vi 0],eO 3 1 (.slice OA2 m2 oc2) m2 (os2.map (Value.int .i64)),eO 48 3 (.slice NA2 m2 nc2) m2 (ps2.flatMap pgQ),eO 27 8 (.slice IA2 g2 ic2) g2 (nl2.flatMap (icL L)),eM (List.map dw rws2)] W) ?_ ?_
  refine wq ?_
  have hix:=If hm hk Ap
  by_cases hkm:k=m
  have hnew:=KZ (hkm.trans hm) hne
  have hcr:=fa L ep
  refine sqr ?_
  have hd86:((k:Int)==(m:Int))=true:=(beq_iff_eq.2 (by omega))
  refine sqp [.m 100 12,.m 101 6,.k 102 (vi ((m:Int))),.e 103 (.bool ((k:Int)==(m:Int))) (.bool true) (congrArg Value.bool hd86)] ?_
  refine aa (wct rfl (wsq [.m 104 0,.k 105 (vp rb),.k 106 (po rb 1)] ?_))
  refine am 0 gG ?_
  refine sqp [.m 108 11] ?_
  refine iz (fun eC eD=> .agg #[vi ((af L ep).1),vi ((af L ep).2.1),.slice eC ((af L ep).2.2.length) eD]) (fun eC eD=>eO 9 1 (.slice eC ((af L ep).2.2.length) eD) ((af L ep).2.2.length) ((af L ep).2.2.map Value.string)) gG (fun cx=>⟨_,(La hrs (kP _ _ rs ep _ ⟨At.of_ownN (cx.ri 1 rfl),fun t ht=>dP (CtxV.holdF cx (cx.init 3 _ rfl) rfl) (hsub t ht)⟩ hrl hrL)).mono (by rintro e W1 ⟨A4,c4,rfl,ho,hx⟩;exact⟨_,_,rfl,St.one hx (cf ho)⟩),(aN (cx.ou 107) (cx.ou 108))⟩) fun eC eD M0 md=>?_
  refine bW #[vi 0,vi 0,sn] md fun Sw RK Dk=>?_
  refine aT (n:=3) 11 #[vi ((af L ep).1),vi ((af L ep).2.1),.slice eC ((af L ep).2.2.length) eD] Dk fun PW vj=>?_
  refine aa (wsq [.m 110 6,.m 111 11] ?_)
  refine d9 (fun x_=>sA x_) (fun sh=> .slice sh 1 1) (fun sh=>eO 3 1 (.slice sh 1 1) 1 ([vi ep])) vj (by
    refine svA fun o b W X cx=>?_
    have Pu:o (.tmp 111)=vi ep:=(cx.ou 111)
    exact dA (e:=3) (xs:=[vi ep]) rfl (by simp[go_sem,Pu]) rfl (by decide) rfl rfl (fun _ _ _ _ _=> .intro)) fun sh U2 Pv=>?_
  refine ti (fun x_=>sA x_) (fun x_=>sC x_) (fun mv mw=> .slice mv (m+1) mw) (fun mv mw=>eO 3 1 (.slice mv (m+1) mw) (m+1) ((os++[ep]).map (Value.int .i64))) 6 Pv (by
    refine svA fun o b W X cx=>?_
    obtain⟨i0,hi0,hz0,hz1,hz2⟩:=info_parts Tryz.infoIntJ
    refine fj (n:=m) (m:=1) (nm:=m+1) (xs:=os.map (Value.int .i64)) (news:=[vi ep]) (xs':=(os++[ep]).map (Value.int .i64)) rfl (ty:=25) rfl (by kernel_rfl) hi0 hz0 hz1 hz2 rfl (cx.ou 110) cx (cx.init 6 _ rfl) rfl (cx.ou 112) (by first|(simp;done)|(simp;omega)) (At.of_own (cx.ri 12 rfl)) (by simp[Value.oneCell']) (by simp only[maxLen];omega) (by omega) rfl rfl rfl (by omega) ((BU _ _)) (fun d v X' hs hb hv hx=>?_)
    exact⟨hv,hx⟩) fun mv mw U3 Pw=>?_
  refine sqp [.m 6 113] ?_
  refine aa (wq ?_)
  have hg100_:=St.apf (r:=(⟨af L ep,eC,eD⟩:PgR)) Pw.u10.u10
  have hpn:(⟨af L ep,eC,eD⟩:PgR)∈rws++[(⟨af L ep,eC,eD⟩:PgR)]:=by simp
  refine sqs [.m 114 7] ?_
  refine bD 10 3 hg100_ ?_
  refine mX 48 3 1 [vi ((af L ep).1),vi ((af L ep).2.1),.slice eC ((af L ep).2.2.length) eD] hg100_ (@fun o b W X cx=>by have Py:o (.tmp 115)= .agg #[vi ((af L ep).1),vi ((af L ep).2.1),.slice eC ((af L ep).2.2.length) eD]:=(cx.ou 115);simp[go_sem,Py]) fun QY QZ Aq=>?_
  refine v8 (m+1) ((ps++[(⟨af L ep,eC,eD⟩:PgR)]).flatMap pgQ) 8 Aq Tryz.infoPgJ (fun cx=>(At.of_ownN (cx.ri 12 rfl))) (jJ:=(zD ps (⟨af L ep,eC,eD⟩:PgR))) fun Ar Au T0 F6=>?_
  refine sqp [.m 7 117] ?_
  refine aa (wsq [.m 118 0,.k 119 (vp rb),.k 120 (po rb 1)] ?_)
  refine am 1 F6 ?_
  refine sqp [.m 122 11] ?_
  refine sqk (.bool ((eT L ep))) F6 (fun cx=>⟨_,GG hrs (x7 _ _ rs ep _ ⟨At.of_ownN (cx.ri 2 rfl),fun t ht=>dP (CtxV.holdF cx (cx.init 4 _ rfl) rfl) (hsub t ht)⟩ hrl),(aN (cx.ou 121) (cx.ou 122))⟩) fun Q0 rE=>?_
  refine sqp [.k 124 (.bool (!((eT L ep))))] ?_
  refine aa ?_
  rcases Bool.eq_false_or_eq_true ((eT L ep)) with vM|vM
  refine wp_cond_false (show Act.eval _ _= .bool false from(congrArg Value.bool (by rw[vM];rfl))) (wp_skip (aa ?_))
  have hnd_:fT L (os++[ep])=fT L os:=by rw[uy,if_pos (by simpa using vM)]
  exact⟨(os++[ep]),(m+1),mv,mw,(ps++[(⟨af L ep,eC,eD⟩:PgR)]),Ar,Au,(rws++[(⟨af L ep,eC,eD⟩:PgR)]),nl,g,IA,ic,z,(kv (e:=(ep,es,eb)) hnew).symm,(by rw[List.length_append,List.length_singleton];omega),(by rw[List.map_append,List.map_append,hps];show _++[af L ep]= _++[bo (af L) (t.r.eds.take j) ep];rw[BW (by rw[<-hos];exact hnew)]),(fun q hq=>(List.mem_append.1 hq).elim (fun h=>List.mem_append_left _ (hpr q h)) fun h=>List.mem_append_right _ h),(by rw[hnd_,hnl]),hg,(by rw[uO,hnd_,<-uO];exact hz1),(by omega),(by rw[List.getElem?_append_right (by omega)];rw[show k-os.length=0 by omega];rfl),(by kernel_rfl),rE.pk [1,2,3,4,5,6,7,8,9,0]⟩
  refine wp_cond_true (show Act.eval _ _= .bool true from(congrArg Value.bool (by rw[vM];rfl))) (wq ?_)
  have hgb:g<=64:=by rw[hg,hnl];have h1:=wR L os;omega
  have him:eT L ep=false:=by simpa using vM
  have hbz:=cR hcr
  have hfi:=eV (qq (L:=L) (n:=ep) (by omega))
  refine sqs [.m 125 11] ?_
  refine bD 10 3 rE ?_
  refine sqk (.agg #[.string (aG (af L ep)),vi 0]) rE (fun cx=>⟨_,CE (p:=af L ep) (iw (CtxV.holdF cx (cx.init 0 _ rfl) rfl) hpn) hcr (sM (CtxV.holdF cx (cx.init 0 _ rfl) rfl) hpn),(av (cx.ou 126))⟩) fun T1 F7=>?_
  refine sql (.string (aG (af L ep))) F7 (fun cx=>l5 rfl (cx.ou 127) (fun _=>by kernel_rfl)) ?_
  refine sqp [.k 129 (.agg #[vi 8,vi 0,vi ep,sn,sn,sn,sn,.string (aG (af L ep))])] ?_
  refine bW #[vi 0,vi 0,vi 0,sn,sn,sn,sn,.string ByteArray.empty] F7 fun Rh T2 NV=>?_
  refine aT (n:=8) 13 #[vi 8,vi 0,vi ep,sn,sn,sn,sn,.string (aG (af L ep))] NV fun QC vq=>?_
  refine aa (wsq [.m 130 8] ?_)
  refine bD 13 8 vq ?_
  refine mX 27 8 1 [vi 8,vi 0,vi ep,sn,sn,sn,sn,.string (aG (af L ep))] vq (@fun o b W X cx=>by have Pz:o (.tmp 131)= .agg #[vi 8,vi 0,vi ep,sn,sn,sn,sn,.string (aG (af L ep))]:=(cx.ou 131);simp[go_sem,Pz]) fun Q1 T3 NW=>?_
  refine v8 (g+1) ((nl++[ep]).flatMap (icL L)) 9 NW Tryz.infoRecJ (fun cx=>(At.of_ownN (cx.ri 14 rfl))) (jJ:=(Ih L nl ep)) fun I4 I5 QD vr=>?_
  refine sqp [.m 8 133] ?_
  refine aa (sqs [.m 134 9] ?_)
  refine bD 13 8 vr ?_
  refine sqk (.string ((aA (imR L ep)))) vr (fun cx=>⟨_,jQ 8 0 ep none 0 [] (aG (af L ep)) _ (fun j u h=>by cases j<;>cases h) (by decide) (fun e he=>by cases he) (by omega),(av (cx.ou 135))⟩) fun T4 NX=>?_
  refine sqp [.k 137 (vi ((((aA (imR L ep))).size:Int))),sI 138 (z+(((aA (imR L ep))).size:Int)) (by omega),.m 9 138] ?_
  refine aa ?_
  have hnd_:fT L (os++[ep])=fT L os++[ep]:=by rw[uy,if_neg (by rw[him];decide)]
  exact⟨(os++[ep]),(m+1),mv,mw,(ps++[(⟨af L ep,eC,eD⟩:PgR)]),Ar,Au,(rws++[(⟨af L ep,eC,eD⟩:PgR)]),(nl++[ep]),(g+1),I4,I5,z+(((aA (imR L ep))).size:Int),(kv (e:=(ep,es,eb)) hnew).symm,(by rw[List.length_append,List.length_singleton];omega),(by rw[List.map_append,List.map_append,hps];show _++[af L ep]= _++[bo (af L) (t.r.eds.take j) ep];rw[BW (by rw[<-hos];exact hnew)]),(fun q hq=>(List.mem_append.1 hq).elim (fun h=>List.mem_append_left _ (hpr q h)) fun h=>List.mem_append_right _ h),(by rw[hnd_,hnl]),(by rw[List.length_append,List.length_singleton];omega),(by rw[uO,hnd_,List.map_append,List.map_singleton,kA,<-uO];omega),(by omega),(by rw[List.getElem?_append_right (by omega)];rw[show k-os.length=0 by omega];rfl),(by kernel_rfl),NX.pk [1,2,3,4,5,6,7,8,9,0]⟩
  have hko:os[k]? =some ep:=hix.resolve_left hkm
  refine sqr ?_
  have hd136:((k:Int)==(m:Int))=false:=(beq_eq_false_iff_ne.2 (by omega))
  refine sqp [.m 100 12,.m 101 6,.k 102 (vi ((m:Int))),.e 103 (.bool ((k:Int)==(m:Int))) (.bool false) (congrArg Value.bool hd136)] ?_
  refine aa (wcf rfl (wp_skip (aa ?_)))
  exact⟨os,m,OA,oc,ps,NA,nc,rws,nl,g,IA,ic,z,(mJ (e:=(ep,es,eb)) (List.mem_of_getElem? hko)).symm,hm,hps,hpr,hnl,hg,hz1,(by omega),hko,(by kernel_rfl),gG.pk [0,1,2,3,4,5,6,7,8,9]⟩
  rintro a81 Rw ⟨os2,m2,OA2,oc2,ps2,NA2,nc2,rws2,nl2,g2,IA2,ic2,z2,hos2,hm2,hps2,hpr2,hnl2,hg2,hz2,hzb2,hk2,hj_,xU⟩
  refine ovz hj_ fun T5=>?_
  refine wq ?_
  obtain⟨pq,hpk,hpq⟩:=yt hps2 hk2
  have hpm:=hpr2 pq (List.mem_of_getElem? hpk)
  have hkl:k<m2:=by rw[hm2];exact(List.getElem?_eq_some_iff.1 hk2).1
  have hpl:ps2.length=m2:=by have h_:=congrArg List.length hps2;rw[List.length_map,List.length_map] at h_;omega
  have hri:bI pq.p:=by rw[hpq];exact jI (fa L) herr ep
  obtain⟨er,hde⟩:∃z,doE pq.p (ep,es,eb) 1=z:=⟨_,rfl⟩
  by_cases hd0:er=0
  subst hd0
  have hd:=hde
  refine aB [0,0,3,7,0,16,0,112,240,511,0,2047] [[],[],[7],[7],[],[4],[],[3],[3],[9],[],[11]] [[],[],[],[],[],[],[],[],[],[10],[11],[12]] [[],[],[],[],[],[],[],[],[],[],[],[11]] [.k 139 (.slice NA2 m2 nc2),.k 140 (vi ((k:Int))),.c 141 (.pointer (some ((ad NA2).add (k*3)))),.c 142 (.agg #[vi pq.p.1,vi pq.p.2.1,.slice pq.A pq.p.2.2.length pq.c]),.k 143 (po bP 5),.c 144 (.slice t.A t.r.eds.length t.c),.k 145 (vi ((j:Int))),.c 146 (.pointer (some ((ad t.A).add (j*3)))),.c 147 (.agg #[vi ep,vi es,.string eb]),.a 148,.a 15,.n] (fun ix d b X=>match ix with|0|1|2|3|4|5|6|7|8=>True|9=>d 148= .agg #[vi ((doV pq.p (ep,es,eb) 1).1),vi ((doV pq.p (ep,es,eb) 1).2.1),.slice (sA (tg (b 148) 2)) ((doV pq.p (ep,es,eb) 1).2.2.length) (sC (tg (b 148) 2)),vi 0]/\X 10=eO 9 1 (.slice (sA (tg (b 148) 2)) ((doV pq.p (ep,es,eb) 1).2.2.length) (sC (tg (b 148) 2))) ((doV pq.p (ep,es,eb) 1).2.2.length) ((doV pq.p (ep,es,eb) 1).2.2.map Value.string)|10=>d 15=vp (pb (b 15))/\X 11=eB (pb (b 15)) 78 #[vi 0,vi 0,sn,vi 0]|11=>X 12=eB (pb (b 15)) 78 #[vi ((doV pq.p (ep,es,eb) 1).1),vi ((doV pq.p (ep,es,eb) 1).2.1),.slice (sA (tg (b 148) 2)) ((doV pq.p (ep,es,eb) 1).2.2.length) (sC (tg (b 148) 2)),vi 0]|_=>True) [0,1,2,3,4,5,6,7,8,9,10,12] [2,3,5,7,8,9,10,11] [(15,10,1,16),(123,0,10,133)] xU ?_ ?_ ?_
  exact fun ix _ _ _ _ _ _ hs hb hx h=>match ix,h with
  |9,h=>by dsimp only;rw[<-hs 148 rfl,<-hb 148 rfl,<-hx 10 rfl];exact h
  |10,h=>by dsimp only;rw[<-hs 15 rfl,<-hb 15 rfl,<-hx 11 rfl];exact h
  |11,h=>by dsimp only;rw[<-hb 15 rfl,<-hb 148 rfl,<-hx 12 rfl];exact h
  |0,_|1,_|2,_|3,_|4,_|5,_|6,_|7,_|8,_|_+12,_=>trivial
  refine⟨?_,?_,?_,?_,?_,?_,?_,?_,trivial⟩
  exact xs4 rfl id fun cx=>aD (e:=48) (m:=k) (sz:=3) rfl (by kernel_rfl) (by kernel_rfl) (cx.an 0) (cx.an 1) (by omega) (by omega) (At.of_ownN (cx.ri 7 rfl)) (bm (sz:=3) eU (by decide) (by omega))
  exact xs4 rfl id fun cx=>bS (f:=pgQ) (m:=k) (sz:=3) (off:=0) (n:=3) rfl (by kernel_rfl) (by kernel_rfl) (cx.an 2) rfl eU (At.of_ownN (cx.ri 7 rfl)) hpk (fun k hk=>match k,hk with|0,_=>rfl|1,_=>rfl|2,_=>rfl|k+3,hk=>absurd hk (by omega))
  exact xs4 rfl id fun cx=>rL1 (cx.an 4) ((cx.bi 4 rfl).cell 5)
  exact xs4 rfl id fun cx=>aD (e:=84) (m:=j) (sz:=3) rfl (by kernel_rfl) (by kernel_rfl) (cx.an 5) (cx.an 6) (by omega) (by omega) (dP (CtxV.holdF cx (cx.init 3 _ rfl) rfl) htr) (bm (sz:=3) bE (by decide) (by omega))
  exact xs4 rfl id fun cx=>bS (f:=edC) (m:=j) (sz:=3) (off:=0) (n:=3) rfl (by kernel_rfl) (by kernel_rfl) (cx.an 7) rfl bE (dP (CtxV.holdF cx (cx.init 3 _ rfl) rfl) htr) hek (fun k hk=>match k,hk with|0,_=>rfl|1,_=>rfl|2,_=>rfl|k+3,hk=>absurd hk (by omega))
  refine svA fun o b W X cx=>?_
  refine ak.call (rCF (args:=#[.agg #[vi pq.p.1,vi pq.p.2.1,.slice pq.A pq.p.2.2.length pq.c],.agg #[vi ep,vi es,.string eb],vi 1]) cx.sees (dH (cx.an 3) (cx.an 8) (cx.co _))) ?_
  refine(Bo hde (rL pq.p.1 pq.p.2.1 _ _ pq.p.2.2 ep es eb 1 _ (iw (CtxV.holdF cx (cx.init 9 _ rfl) rfl) hpm) hri.1 (sM (CtxV.holdF cx (cx.init 9 _ rfl) rfl) hpm) hez)).mono ?_
  rintro e W1 ⟨A4,c4,rfl,ho,hx⟩
  refine⟨_,rfl,bK [eO 9 1 (.slice A4 (doV pq.p (ep,es,eb) 1).2.2.length c4) (doV pq.p (ep,es,eb) 1).2.2.length ((doV pq.p (ep,es,eb) 1).2.2.map Value.string)] rfl rfl hx (one_new (cf ho)) (List.pairwise_singleton _ _) (fun d v X' hs hb hv hN=>?_)⟩
  have aH:=(hv 148 rfl).1;have aO:=(hv 148 rfl).2
  exact⟨aH.trans (by rw[aO];exact rfl),(by rw[aO];exact(List.cons.inj hN).1)⟩
  refine svA fun o b W X cx=>?_
  exact dVA (cs:=#[vi 0,vi 0,sn,vi 0]) rfl rfl rfl (fun _ _ _ _ _=> .intro)
  refine svA fun o b W X cx=>?_
  exact dVS (n:=4) rfl (dTn (cx.an 10)).1 (dTn (cx.an 9)).1 cx (dTn (cx.an 10)).2 rfl (nle rfl) rfl rfl rfl (fun d v X' hs hb hx=>by rw[hb 15,hb 148];exact hx)
  intro d b X T6 hD oO fr aC
  simp only[exq 10 ((dTn (hD 9 lq)).2),exq 12 ((dTn (hD 11 lq)))] at oO
  simp only[ed 148 ((dTn (hD 9 lq)).1),ed 15 ((dTn (hD 10 lq)).1)] at aC
  generalize sA (tg (b 148) 2)=kL,sC (tg (b 148) 2)=kM,pb (b 15)=B6 at oO aC
  clear hD;subst aC;clear d b X
  refine aa (wq (wsq [.k 149 (po B6 3)] ?_))
  refine am 11 oO ?_
  refine sqp [.k 151 (.bool false)] ?_
  refine aa (wcf rfl (wp_skip (aa (sqs [.m 155 7,.m 156 12,.k 157 (vp B6)] ?_))))
  refine bD 11 3 oO ?_
  refine sql (.pointer (some ((ad NA2).add (k*3)))) oO (fun cx=>aD (e:=48) (m:=k) (sz:=3) rfl (by kernel_rfl) (by kernel_rfl) (cx.ou 155) (cx.ou 156) (by omega) (by omega) (At.of_ownN (cx.ri 7 rfl)) (bm (sz:=3) eU (by decide) (by omega))) ?_
  refine sqc (eO 48 3 (.slice NA2 m2 nc2) m2 ((ps2.set k (⟨doV pq.p (ep,es,eb) 1,kL,kM⟩:PgR)).flatMap pgQ)) 7 oO (by
    refine svA fun o b W X cx=>?_
    exact sD (m:=k*3) (n:=m2) (sz:=3) (k:=3) rfl (cx.ou 159) (show _=Value.agg #[vi ((doV pq.p (ep,es,eb) 1).1),vi ((doV pq.p (ep,es,eb) 1).2.1),.slice kL ((doV pq.p (ep,es,eb) 1).2.2.length) kM] from(cx.ou 158)) (by kernel_rfl) (by kernel_rfl) (by kernel_rfl) cx (cx.init 7 _ rfl) rfl (by omega) (by decide) rfl (Ee eU (ts:=ps2) (m:=k) (by omega) (⟨doV pq.p (ep,es,eb) 1,kL,kM⟩:PgR)) rfl rfl (fun _ _ _ _ _=>id)) fun T7 NY=>?_
  refine aq (aa (sqs [.m 78 10,sI 79 ((j:Int)+1) (by omega),.m 10 79] ?_))
  refine aa ?_
  have hg150_:=St.apf (r:=(⟨doV pq.p (ep,es,eb) 1,kL,kM⟩:PgR)) NY.u10.u10
  have hnd2:os2.Nodup:=by rw[hos2,hos,<-tq,<-iq hek];exact Fz _
  refine⟨t.r.eds.length-((j+1)),by omega,?_⟩
  exact⟨(j+1),os2,m2,OA2,oc2,(ps2.set k (⟨doV pq.p (ep,es,eb) 1,kL,kM⟩:PgR)),NA2,nc2,(rws2++[(⟨doV pq.p (ep,es,eb) 1,kL,kM⟩:PgR)]),nl2,g2,IA2,ic2,z2,by omega,(by rw[iq hek,tq,<-hos];exact hos2),hm2,(yz hek herr (by rw[<-hpq];exact hd)),(by rw[iq hek];exact KP hnd2 hk2 hps2 (by rw[<-hpq])),(fun q hq=>(List.mem_or_eq_of_mem_set hq).elim (fun h=>List.mem_append_left _ (hpr2 q h)) fun h=>by rw[h];simp),hnl2,hg2,hz2,(by omega),rfl,(by kernel_rfl),hg150_.pk [1,2,3,4,5,6,7,8,9,0]⟩
  refine aB [0,0,3,7,0,16,0,112,240,511,0,2047] [[],[],[7],[7],[],[4],[],[3],[3],[9],[],[11]] [[],[],[],[],[],[],[],[],[],[10],[11],[12]] [[],[],[],[],[],[],[],[],[],[],[],[11]] [.k 139 (.slice NA2 m2 nc2),.k 140 (vi ((k:Int))),.c 141 (.pointer (some ((ad NA2).add (k*3)))),.c 142 (.agg #[vi pq.p.1,vi pq.p.2.1,.slice pq.A pq.p.2.2.length pq.c]),.k 143 (po bP 5),.c 144 (.slice t.A t.r.eds.length t.c),.k 145 (vi ((j:Int))),.c 146 (.pointer (some ((ad t.A).add (j*3)))),.c 147 (.agg #[vi ep,vi es,.string eb]),.a 148,.a 15,.n] (fun ix d b X=>match ix with|0|1|2|3|4|5|6|7|8=>True|9=>d 148= .agg #[vi bp.1,vi bp.2.1,.slice (sA (tg (b 148) 2)) bp.2.2.length (sC (tg (b 148) 2)),vi er]/\X 10=eO 9 1 (.slice (sA (tg (b 148) 2)) bp.2.2.length (sC (tg (b 148) 2))) bp.2.2.length (bp.2.2.map Value.string)|10=>d 15=vp (pb (b 15))/\X 11=eB (pb (b 15)) 78 #[vi 0,vi 0,sn,vi 0]|11=>X 12=eB (pb (b 15)) 78 #[vi bp.1,vi bp.2.1,.slice (sA (tg (b 148) 2)) bp.2.2.length (sC (tg (b 148) 2)),vi er]|_=>True) [0,1,2,3,4,5,6,7,8,9,10,12] [2,3,5,7,8,9,10,11] [(15,10,1,16),(123,0,10,133)] xU ?_ ?_ ?_
  exact fun ix _ _ _ _ _ _ hs hb hx h=>match ix,h with
  |9,h=>by dsimp only;rw[<-hs 148 rfl,<-hb 148 rfl,<-hx 10 rfl];exact h
  |10,h=>by dsimp only;rw[<-hs 15 rfl,<-hb 15 rfl,<-hx 11 rfl];exact h
  |11,h=>by dsimp only;rw[<-hb 15 rfl,<-hb 148 rfl,<-hx 12 rfl];exact h
  |0,_|1,_|2,_|3,_|4,_|5,_|6,_|7,_|8,_|_+12,_=>trivial
  refine⟨?_,?_,?_,?_,?_,?_,?_,?_,trivial⟩
  exact xs4 rfl id fun cx=>aD (e:=48) (m:=k) (sz:=3) rfl (by kernel_rfl) (by kernel_rfl) (cx.an 0) (cx.an 1) (by omega) (by omega) (At.of_ownN (cx.ri 7 rfl)) (bm (sz:=3) eU (by decide) (by omega))
  exact xs4 rfl id fun cx=>bS (f:=pgQ) (m:=k) (sz:=3) (off:=0) (n:=3) rfl (by kernel_rfl) (by kernel_rfl) (cx.an 2) rfl eU (At.of_ownN (cx.ri 7 rfl)) hpk (fun k hk=>match k,hk with|0,_=>rfl|1,_=>rfl|2,_=>rfl|k+3,hk=>absurd hk (by omega))
  exact xs4 rfl id fun cx=>rL1 (cx.an 4) ((cx.bi 4 rfl).cell 5)
  exact xs4 rfl id fun cx=>aD (e:=84) (m:=j) (sz:=3) rfl (by kernel_rfl) (by kernel_rfl) (cx.an 5) (cx.an 6) (by omega) (by omega) (dP (CtxV.holdF cx (cx.init 3 _ rfl) rfl) htr) (bm (sz:=3) bE (by decide) (by omega))
  exact xs4 rfl id fun cx=>bS (f:=edC) (m:=j) (sz:=3) (off:=0) (n:=3) rfl (by kernel_rfl) (by kernel_rfl) (cx.an 7) rfl bE (dP (CtxV.holdF cx (cx.init 3 _ rfl) rfl) htr) hek (fun k hk=>match k,hk with|0,_=>rfl|1,_=>rfl|2,_=>rfl|k+3,hk=>absurd hk (by omega))
  refine svA fun o b W X cx=>?_
  refine ak.call (rCF (args:=#[.agg #[vi pq.p.1,vi pq.p.2.1,.slice pq.A pq.p.2.2.length pq.c],.agg #[vi ep,vi es,.string eb],vi 1]) cx.sees (dH (cx.an 3) (cx.an 8) (cx.co _))) ?_
  refine(BD hde hd0 (rL pq.p.1 pq.p.2.1 _ _ pq.p.2.2 ep es eb 1 _ (iw (CtxV.holdF cx (cx.init 9 _ rfl) rfl) hpm) hri.1 (sM (CtxV.holdF cx (cx.init 9 _ rfl) rfl) hpm) hez)).mono ?_
  rintro e W1 ⟨A4,c4,rfl,ho,hx⟩
  refine⟨_,rfl,bK [eO 9 1 (.slice A4 bp.2.2.length c4) bp.2.2.length (bp.2.2.map Value.string)] rfl rfl hx (one_new (cf ho)) (List.pairwise_singleton _ _) (fun d v X' hs hb hv hN=>?_)⟩
  have aH:=(hv 148 rfl).1;have aO:=(hv 148 rfl).2
  exact⟨aH.trans (by rw[aO];exact rfl),(by rw[aO];exact(List.cons.inj hN).1)⟩
  refine svA fun o b W X cx=>?_
  exact dVA (cs:=#[vi 0,vi 0,sn,vi 0]) rfl rfl rfl (fun _ _ _ _ _=> .intro)
  refine svA fun o b W X cx=>?_
  exact dVS (n:=4) rfl (dTn (cx.an 10)).1 (dTn (cx.an 9)).1 cx (dTn (cx.an 10)).2 rfl (nle rfl) rfl rfl rfl (fun d v X' hs hb hx=>by rw[hb 15,hb 148];exact hx)
  intro d b X QN hD m8 fr aC
  simp only[exq 10 ((dTn (hD 9 lq)).2),exq 12 ((dTn (hD 11 lq)))] at m8
  simp only[ed 148 ((dTn (hD 9 lq)).1),ed 15 ((dTn (hD 10 lq)).1)] at aC
  generalize sA (tg (b 148) 2)=Q2,sC (tg (b 148) 2)=Q3,pb (b 15)=B7 at m8 aC
  clear hD;subst aC;clear d b X
  refine aa (wq (wsq [.k 149 (po B7 3)] ?_))
  refine am 11 m8 ?_
  have hd155:(er != 0)=true:=(bne_iff_ne.2 hd0)
  refine sqp [.e 151 (.bool (er != 0)) (.bool true) (congrArg Value.bool hd155)] ?_
  refine aa (wct rfl (wsq [.k 152 (po B7 3)] ?_))
  refine am 11 m8 ?_
  refine sqp [.k 154 (.agg #[vi 0,vi er])] ?_
  refine aT (n:=2) 5 #[vi 0,vi er] m8 fun T8 F8=>?_
  refine aa (wp_ret (ai (aY (ai (ai (aY (ai ?_)))))))
  refine bpr (.agg #[vi 0,vi er]) (bB (n:=2) results77 rfl (by kernel_rfl) (by kernel_rfl) (F8.blk 5 rfl) rfl) ?_
  have NZ:=tu hek herr (by rw[<-hpq,hde];exact hd0)
  have hE_:rfE p L t.r=er:=by rw[Jh hda hin (by rw[NZ,<-hpq,hde];exact hd0),NZ,<-hpq];exact hde
  obtain⟨fp160_,hr160_⟩:=St.rq (rs:=rs) (told:=told) (p:=p) (rr:=rr) (F8.u4.c0.u4.c0.u4.c0.u4.c0.u4.c0.u4.c0.u4.c0.u4.c0)
  have N0:=St.rf (L:=L) hr160_ (hrs) (hsub)
  exact⟨by rw[jV (told:=told) hE_ (by first|decide|assumption),hE_],_,by rw[jV (told:=told) hE_ (by first|decide|assumption)];exact N0⟩
 refine wp_exit (al (al (bf (aa (wq (wq ?_))))))
 have hje:j=t.r.eds.length:=by omega
 have her9:cV (af L) t.r.eds=0:=by have h_:=herr;rw[hje,List.take_length] at h_;exact h_
 have hosF:os=ck t.r.eds:=by rw[hos,hje,List.take_length]
 have hps9:ps.map PgR.p=os.map (bo (af L) t.r.eds):=by rw[hps,hje,List.take_length]
 have hm64:m<=64:=by have h1:=jE t.r.eds;rw[hm,hosF];omega
 have hpro:∀n∈os,0<=n/\n<(p:Int):=fun n hn=>by rw[hosF] at hn;obtain⟨x,hx,rfl⟩:=kr.1 hn;exact ld hin hx
 have hgb:g<=64:=by rw[hg,hnl];have h1:=wR L os;omega
 have hpl:ps.length=m:=by have h_:=congrArg List.length hps9;rw[List.length_map,List.length_map] at h_;omega
 refine sqs [.m 160 9,.k 161 (.bool (decide (1048576<z)))] ?_
 refine aa (wds (fun Dy N1=>?_) fun Dy N1=>?_)
 refine wsq [.k 162 (.agg #[vi 0,vi 31])] ?_
 refine aT (n:=2) 5 #[vi 0,vi 31] eo fun T9 F9=>?_
 refine aa (wp_ret (ai ?_))
 refine bpr (.agg #[vi 0,vi 31]) (bB (n:=2) results77 rfl (by kernel_rfl) (by kernel_rfl) (F9.blk 5 rfl) rfl) ?_
 have hE_:rfE p L t.r=31:=Fh hda hin her9 (by rw[<-hosF];have h_:=Dy;simp at h_;omega)
 obtain⟨fp167_,hr167_⟩:=St.rq (rs:=rs) (told:=told) (p:=p) (rr:=rr) (F9.u4.c0.u4.c0.u4.c0.u4.c0.u4.c0.u4.c0)
 have N2:=St.rf (L:=L) hr167_ (hrs) (hsub)
 exact⟨by rw[jV (told:=told) hE_ (by first|decide|assumption),hE_],_,by rw[jV (told:=told) hE_ (by first|decide|assumption)];exact N2⟩
 refine wp_skip (aa (wq (wq ?_)))
 have hfit:szF L+((aA t.r).size+szF (dy L os))<=1048576:=by have h_:=Dy;simp at h_;omega
 have hE0:rfE p L t.r=0:=xR hda hin her9 (by rw[<-hosF];exact hfit)
 refine sqs [.k 16 (vi 0)] ?_
 refine aa (wp_block ?_)
 obtain⟨fp170_,hr170_⟩:=St.rq (rs:=rs) (told:=told) (p:=p) (rr:=rr) (eo)
 refine aQ (fun t_ mz az W=>∃i:Nat,∃rs1:List RcT,∃rr1:List RcT,∃fp1:List Nat,i<=g/\rs1.map RcT.r=L++(dy L os).take i/\((∀x∈rs1,x∈rr1)/\t∈rr1)/\mz=g-i/\az=⟨(ovr (jv az) [(16,16,0,[vi ((i:Int))]),(146,163,12,[])] t_).toArray,[]⟩/\St w fp [eRq rb rs1 told p rr1 fp1,eB bP 27 #[vi t.r.kind,vi t.r.xid,vi t.r.tbl,sn,sn,.slice t.A t.r.eds.length t.c,sn,.string t.r.note],eB dE 129 #[vi 0,vi 0],eO 3 1 (.slice OA m oc) m (os.map (Value.int .i64)),eO 48 3 (.slice NA m nc) m (ps.flatMap pgQ),eO 27 8 (.slice IA g ic) g (nl.flatMap (icL L)),eM (List.map dw rws)] W) (g-0) ?_ ?_
 exact⟨0,rs,rr,fp170_,Nat.zero_le _,(by rw[hrs,List.take_zero,List.append_nil]),⟨hsub,htr⟩,rfl,(by kernel_rfl),hr170_.pk [0,1,2,3,4,5,6]⟩
 rintro Ua a171 Ub ⟨i,rs1,rr1,fp1,hi1,hr1,fQ,rfl,hj_,Ga⟩
 refine ovz hj_ fun S4=>?_
 refine wq (wsq [.m 163 16,.m 164 8,.k 165 (vi ((g:Int))),.k 166 (.bool (decide ((i:Int)<(g:Int))))] ?_)
 refine aa (wds (fun PC N3=>?_) fun PC N3=>?_)
 refine wp_skip (aa (wq (wp_block ?_)))
 obtain⟨nn,hnn⟩:∃n,nl[i]? =some n:=⟨_,List.getElem?_eq_getElem (by omega)⟩
 have hnn2:(fT L os)[i]? =some nn:=by rw[<-hnl];exact hnn
 have hpn2:=hpro nn (DH (List.mem_of_getElem? hnn2))
 have hit:=HL hnn2
 have hl1_:rs1.length<=200000:=by have h_:=congrArg List.length hr1;rw[List.length_map,List.length_append,List.length_take,sN,<-hnl] at h_;omega
 have hz1_:szF (rs1.map RcT.r)<=100000000:=by rw[hr1,wA];have h_:=Ca (dy L os) i;omega
 have hir:=qq (L:=L) (n:=nn) (by omega)
 have hn177:=fm Ga 84 3
 simp only[List.cons_append,List.nil_append] at hn177
 obtain⟨fp178_,hx178_⟩:=St.rqR (t:=rcI (imR L nn)) hn177.u7
 have htm_:rcI (imR L nn)∈rr1++[rcI (imR L nn)]:=by simp
 refine sqs [.m 169 0,.m 170 8,.m 171 16] ?_
 refine sql (.pointer (some ((ad IA).add (i*8)))) hx178_ (fun cx=>aD (e:=27) (m:=i) (sz:=8) rfl (by kernel_rfl) (by kernel_rfl) (cx.ou 170) (cx.ou 171) (by omega) (by omega) (At.of_ownN (cx.ri 5 rfl)) (bm (sz:=8) (Bn L) (by decide) (by omega))) ?_
 refine sql (.agg #[vi 8,vi 0,vi nn,sn,sn,sn,sn,.string ((aG (af L nn)))]) hx178_ (fun cx=>bS (f:=(icL L)) (m:=i) (sz:=8) (off:=0) (n:=8) rfl (by kernel_rfl) (by kernel_rfl) (cx.ou 172) rfl (Bn L) (At.of_ownN (cx.ri 5 rfl)) hnn (fun k hk=>match k,hk with|0,_=>rfl|1,_=>rfl|2,_=>rfl|3,_=>rfl|4,_=>rfl|5,_=>rfl|6,_=>rfl|7,_=>rfl|k+8,hk=>absurd hk (by omega))) ?_
 refine bF (fun X_=>X_.fp) (.tuple #[]) (fun Av=>eRq rb (rs1++[(rcI (imR L nn))]) told p (rr1++[rcI (imR L nn)]) Av) 0 hx178_ (by
   refine svA fun o b W X cx=>?_
   refine ak.call (gl (args:=#[vp rb,.agg #[vi 8,vi 0,vi nn,sn,sn,sn,sn,.string ((aG (af L nn)))]]) rfl cx.sees rfl (by kernel_rfl) (aN (cx.ou 169) (cx.ou 173))) ?_
   refine(ph rb rs1 told p (rr1++[rcI (imR L nn)]) (rcI (imR L nn)) _ _ (CtxV.holdF cx (cx.init 0 _ rfl) rfl) (CtxV.ltF cx (cx.init 0 _ rfl) rfl) htm_ hir hl1_ hz1_).mono ?_
   rintro e W1 ⟨rfl,fp4,aM⟩
   refine⟨_,rfl,aI (E:=eRq rb rs1 told p (rr1++[rcI (imR L nn)]) fp178_) [eRq rb (rs1++[(rcI (imR L nn))]) told p (rr1++[rcI (imR L nn)]) fp4] (cx.init 0 _ rfl) rfl rfl aM (fun d v X' hs hb hv hN=>?_)⟩
   have aH:=(hv 174 rfl).1;have aO:=(hv 174 rfl).2
   exact⟨aH.trans rfl,oV ((List.cons.inj hN).1)⟩) fun Av Uc N4=>?_
 refine aq (aa (sqs [.m 167 16,sI 168 ((i:Int)+1) (by omega),.m 16 168] ?_))
 refine aa ?_
 refine⟨g-((i+1)),by omega,?_⟩
 exact⟨(i+1),(rs1++[(rcI (imR L nn))]),(rr1++[rcI (imR L nn)]),Av,by omega,(by rw[List.map_append,hr1,hit,List.append_assoc];rfl),⟨fun x hx=>(List.mem_append.1 hx).elim (fun h=>List.mem_append_left _ (fQ.1 x h)) fun h=>List.mem_append_right _ h,List.mem_append_left _ fQ.2⟩,rfl,(by kernel_rfl),N4.pk [0,1,2,3,4,5,6]⟩
 refine wp_exit (al (al (bf (aa (wq ?_)))))
 have hr9:rs1.map RcT.r=L++dy L os:=by rw[hr1,List.take_of_length_le (by rw[sN,<-hnl];omega)]
 have hie9:∀r∈dy L os,r.eds=[]:=fun r hr=>(rR r hr).1
 have hz9_:szF (rs1.map RcT.r)<=100000000:=by rw[hr9,wA];omega
 have hl9_:rs1.length<=200000:=by have h_:=congrArg List.length hr9;rw[List.length_map,List.length_append,sN,<-hnl] at h_;omega
 have hrL9:∀x∈rs1,bt x.r=true:=fun x hx=>by have h_:=hr9 ▸ List.mem_map.2 ⟨x,hx,rfl⟩;exact(List.mem_append.1 h_).elim (hL _) fun h=>by obtain⟨_,_,n,hn,_,hne⟩:=rR _ h;rw[hne];exact qq (L:=L) (n:=n) (by have:=hpro n hn;omega)
 obtain⟨QA3,qc3,TA3,tc3,hq188_⟩:=Ga.unrq
 refine sqr ?_
 refine mX 48 3 0 [] hq188_ (@fun o b W X cx=>by simp[go_sem]) fun I6 Ud N5=>?_
 refine sqp [.m 17 175] ?_
 refine aa (wq (wsq [.k 18 (vi 0)] ?_))
 refine aa (wp_block ?_)
 refine aQ (fun t_ mz az W=>∃i9:Nat,∃ws:List PgR,∃WA:Option Addr,∃wc:Nat,∃rws3:List PgR,i9<=m/\ws.map PgR.p=(os.take i9).map (af L)/\(∀q∈ps,q∈rws3)/\mz=m-i9/\az=⟨(ovr (jv az) [(17,17,0,[.slice WA i9 wc,vi ((i9:Int))]),(157,176,18,[])] t_).toArray,[]⟩/\St w fp [eB rb 69 #[vi ((p:Int)),.slice QA3 rs1.length qc3,vi ((szF (rs1.map RcT.r):Int)),.slice TA3 p tc3],eO 27 8 (.slice QA3 rs1.length qc3) rs1.length (rs1.flatMap rcC),eO 4 1 (.slice TA3 p tc3) p (tB told p),eRc rr1,eB bP 27 #[vi t.r.kind,vi t.r.xid,vi t.r.tbl,sn,sn,.slice t.A t.r.eds.length t.c,sn,.string t.r.note],eB dE 129 #[vi 0,vi 0],eO 3 1 (.slice OA m oc) m (os.map (Value.int .i64)),eO 48 3 (.slice NA m nc) m (ps.flatMap pgQ),eO 27 8 (.slice IA g ic) g (nl.flatMap (icL L)),eO 48 3 (.slice WA i9 wc) i9 (ws.flatMap pgQ),eM (List.map dw rws3)] W) (m-0) ?_ ?_
 exact⟨0,[],(some ⟨I6,0,none⟩),0,rws,Nat.zero_le _,rfl,hpr,rfl,(by kernel_rfl),N5.pk [0,1,2,3,4,5,6,7,8,10,9]⟩
 rintro Ue a192 QP ⟨i9,ws,WA,wc,rws3,hi2,hws,hpr3,rfl,hj_,oL⟩
 refine ovz hj_ fun S6=>?_
 refine wq (wsq [.m 176 18,.m 177 6,.k 178 (vi ((m:Int))),.k 179 (.bool (decide ((i9:Int)<(m:Int))))] ?_)
 refine aa (wds (fun PD N6=>?_) fun PD N6=>?_)
 refine wp_skip (aa (wq (wp_block ?_)))
 obtain⟨nn,hnn⟩:∃n,os[i9]? =some n:=⟨_,List.getElem?_eq_getElem (by omega)⟩
 refine aB [0,0,2,6,14,0,0,96,224,510,1022,2047,4095] [[],[],[],[],[0],[],[],[6],[6],[1,3],[],[12,9]] [[],[],[],[],[],[],[],[],[],[11],[12],[13]] [[],[],[],[],[],[],[],[],[],[],[],[9]] [.k 182 (.slice WA i9 wc),.k 183 (vp rb),.k 184 (vp rb),.k 185 (po rb 1),.c 186 (.slice QA3 rs1.length qc3),.k 187 (.slice OA m oc),.k 188 (vi ((i9:Int))),.c 189 (.pointer (some ((ad OA).add i9))),.c 190 (vi nn),.a 191,.a 192,.a 193,.a 17] (fun ix d b X=>match ix with|0|1|2|3|4|5|6|7|8=>True|9=>d 191= .agg #[vi ((af L nn).1),vi ((af L nn).2.1),.slice (sA (tg (b 191) 2)) ((af L nn).2.2.length) (sC (tg (b 191) 2))]/\X 11=eO 9 1 (.slice (sA (tg (b 191) 2)) ((af L nn).2.2.length) (sC (tg (b 191) 2))) ((af L nn).2.2.length) ((af L nn).2.2.map Value.string)|10=>d 192= .slice ((some ⟨(pb' (b 192)),0,none⟩)) 1 1/\X 12=eO 48 3 (.slice ((some ⟨(pb' (b 192)),0,none⟩)) 1 1) 1 ([vi ((af L nn).1),vi ((af L nn).2.1),.slice (sA (tg (b 191) 2)) ((af L nn).2.2.length) (sC (tg (b 191) 2))])|11=>d 193= .slice (sA (b 193)) (i9+1) (sC (b 193))/\X 13=eO 48 3 (.slice (sA (b 193)) (i9+1) (sC (b 193))) (i9+1) ((ws++[(⟨af L nn,(sA (tg (b 191) 2)),(sC (tg (b 191) 2))⟩:PgR)]).flatMap pgQ)|12=>d 17= .slice (sA (b 193)) (i9+1) (sC (b 193))|_=>True) [0,1,2,3,4,5,6,7,8,10,11,12,13] [4,7,8,9,10,11,12] [(17,12,1,18),(164,0,12,176)] oL ?_ ?_ ?_
 exact fun ix _ _ _ _ _ _ hs hb hx h=>match ix,h with
 |9,h=>by dsimp only;rw[<-hs 191 rfl,<-hb 191 rfl,<-hx 11 rfl];exact h
 |10,h=>by dsimp only;rw[<-hs 192 rfl,<-hb 191 rfl,<-hb 192 rfl,<-hx 12 rfl];exact h
 |11,h=>by dsimp only;rw[<-hs 193 rfl,<-hb 191 rfl,<-hb 193 rfl,<-hx 13 rfl];exact h
 |12,h=>by dsimp only;rw[<-hs 17 rfl,<-hb 193 rfl];exact h
 |0,_|1,_|2,_|3,_|4,_|5,_|6,_|7,_|8,_|_+13,_=>trivial
 refine⟨?_,?_,?_,?_,?_,?_,?_,trivial⟩
 exact xs4 rfl id fun cx=>rL1 (cx.an 3) ((cx.bi 0 rfl).cell 1)
 exact xs4 rfl id fun cx=>bz (e:=3) (m:=i9) rfl (by kernel_rfl) (by kernel_rfl) (cx.an 5) (cx.an 6) (by omega) (by omega) (At.of_own (cx.ri 6 rfl)) (by rw[List.length_map];omega)
 exact xs4 rfl id fun cx=>ce rfl (by kernel_rfl) (cx.an 7) (At.cellAd (At.of_own (cx.ri 6 rfl)) ((List.getElem?_map ..).trans (by rw[hnn];rfl)))
 refine svA fun o b W X cx=>?_
 refine ak.call (rCF (args:=#[.slice QA3 rs1.length qc3,vi nn]) cx.sees (aN (cx.an 4) (cx.an 8))) ?_
 refine(GM hr9 hie9 (kP _ _ rs1 nn _ ⟨At.of_ownN (cx.ri 1 rfl),fun t ht=>dP (CtxV.holdF cx (cx.init 3 _ rfl) rfl) (fQ.1 t ht)⟩ (by omega) hrL9)).mono ?_
 rintro e W1 ⟨A4,c4,rfl,ho,hx⟩
 refine⟨_,rfl,bK [eO 9 1 (.slice A4 (af L nn).2.2.length c4) (af L nn).2.2.length ((af L nn).2.2.map Value.string)] rfl rfl hx (one_new (cf ho)) (List.pairwise_singleton _ _) (fun d v X' hs hb hv hN=>?_)⟩
 have aH:=(hv 191 rfl).1;have aO:=(hv 191 rfl).2
 exact⟨aH.trans (by rw[aO];exact rfl),(by rw[aO];exact(List.cons.inj hN).1)⟩
 refine svA fun o b W X cx=>?_
 have PE:o (.tmp 191)= .agg #[vi ((af L nn).1),vi ((af L nn).2.1),.slice (sA (tg (b 191) 2)) ((af L nn).2.2.length) (sC (tg (b 191) 2))]:=(dTn (cx.an 9)).1
 exact ml (e:=48) (sz:=3) (xs:=[vi ((af L nn).1),vi ((af L nn).2.1),.slice (sA (tg (b 191) 2)) ((af L nn).2.2.length) (sC (tg (b 191) 2))]) rfl (by simp[go_sem,PE]) rfl (by decide) rfl rfl (fun d v X' hs hb hv hx=>⟨hv,by rw[hb 191 (by decide)];exact hx⟩)
 refine svA fun o b W X cx=>?_
 obtain⟨i0,hi0,hz0,hz1,hz2⟩:=info_parts Tryz.infoPgJ
 refine i6 (n:=i9) (m:=1) (nm:=i9+1) (sz:=3) (xs:=ws.flatMap pgQ) (news:=[vi ((af L nn).1),vi ((af L nn).2.1),.slice (sA (tg (b 191) 2)) ((af L nn).2.2.length) (sC (tg (b 191) 2))]) (xs':=(ws++[(⟨af L nn,(sA (tg (b 191) 2)),(sC (tg (b 191) 2))⟩:PgR)]).flatMap pgQ) rfl (ty:=82) rfl (by kernel_rfl) hi0 hz0 hz1 hz2 rfl (by decide) (cx.an 0) cx (cx.init 9 _ rfl) rfl (dTn (cx.an 10)).1 (by rfl) (At.of_ownN (cx.row (dTn (cx.an 10)).2 rfl)) (by simp[Value.oneCell']) (by simp only[maxLen];omega) (by omega) rfl rfl rfl (by omega) ((L7 ws (af L nn) _ _)) (fun d v X' hs hb hv hx=>?_)
 rw[<-hb 191 (by decide)] at*;exact⟨hv,hx⟩
 exact sv rfl rfl rfl rfl rfl _ (fun _ _ _ h=>h) (fun b v h=>by rw[h 193 (by decide)]) fun o b W X cx=>cS rfl (dTn (cx.an 11)).1
 intro d b X Uf hD Aw fr aC
 simp only[exq 11 ((dTn (hD 9 lq)).2),exq 12 ((dTn (hD 10 lq)).2),exq 13 ((dTn (hD 11 lq)).2)] at Aw
 simp only[ed 191 ((dTn (hD 9 lq)).1),ed 192 ((dTn (hD 10 lq)).1),ed 193 ((dTn (hD 11 lq)).1),ed 17 ((dTn (hD 12 lq)))] at aC
 generalize sA (tg (b 191) 2)=tP,sC (tg (b 191) 2)=tQ,pb' (b 192)=Q4,sA (b 193)=I7,sC (b 193)=I8 at Aw aC
 clear hD;subst aC;clear d b X
 refine aq (aa (sqs [.m 180 18,sI 181 ((i9:Int)+1) (by omega),.m 18 181] ?_))
 refine aa ?_
 have hg202_:=St.apf (r:=(⟨af L nn,tP,tQ⟩:PgR)) Aw.u10.u10
 refine⟨m-((i9+1)),by omega,?_⟩
 exact⟨(i9+1),(ws++[(⟨af L nn,tP,tQ⟩:PgR)]),I7,I8,(rws3++[(⟨af L nn,tP,tQ⟩:PgR)]),by omega,(by rw[List.map_append,hws,List.take_add_one,hnn,List.map_append];rfl),(fun q hq=>List.mem_append_left _ (hpr3 q hq)),rfl,(by kernel_rfl),hg202_.pk [1,2,3,4,5,6,7,8,9,11,0]⟩
 refine wp_exit (al (al (bf (aa (wq ?_)))))
 have hi9:i9=m:=by omega
 have hws9:ws.map PgR.p=os.map (af L):=by rw[hws,List.take_of_length_le (by omega)]
 obtain⟨fp203_,hr203_⟩:=St.rq (rs:=rs1) (told:=told) (p:=p) (rr:=rr1) (oL)
 refine sqs [.m 194 0] ?_
 refine bD 1 8 hr203_ ?_
 refine bF (fun X_=>X_.fp) (.tuple #[]) (fun Gb=>eRq rb (rs1++[t]) told p rr1 Gb) 0 hr203_ (by
   refine svA fun o b W X cx=>?_
   refine ak.call (rCF (args:=#[vp rb,.agg #[vi t.r.kind,vi t.r.xid,vi t.r.tbl,sn,sn,.slice t.A t.r.eds.length t.c,sn,.string t.r.note]]) cx.sees (aN (cx.ou 194) (cx.ou 195))) ?_
   refine(ph rb rs1 told p rr1 t _ _ (CtxV.holdF cx (cx.init 0 _ rfl) rfl) (CtxV.ltF cx (cx.init 0 _ rfl) rfl) fQ.2 hda.1 hl9_ hz9_).mono ?_
   rintro e W1 ⟨rfl,fp4,aM⟩
   refine⟨_,rfl,aI (E:=eRq rb rs1 told p rr1 fp203_) [eRq rb (rs1++[t]) told p rr1 fp4] (cx.init 0 _ rfl) rfl rfl aM (fun d v X' hs hb hv hN=>?_)⟩
   have aH:=(hv 196 rfl).1;have aO:=(hv 196 rfl).2
   exact⟨aH.trans rfl,oV ((List.cons.inj hN).1)⟩) fun Gb Ug N7=>?_
 refine aa (wq (wsq [.k 19 (vi 0)] ?_))
 refine aa (wp_block ?_)
 obtain⟨QA4,qc4,TA4,tc4,hq208_⟩:=N7.unrq
 rw[show tB told p=tB (tlF L told t.r.eds (os.take 0)) p by rw[List.take_zero,K7]] at hq208_
 refine aQ (fun t_ mz az W=>∃i4:Nat,i4<=m/\mz=m-i4/\az=⟨(ovr (jv az) [(19,19,0,[vi ((i4:Int))]),(177,197,29,[])] t_).toArray,[]⟩/\St w fp [eB rb 69 #[vi ((p:Int)),.slice QA4 ((rs1++[t]).length) qc4,vi ((szF ((rs1++[t]).map RcT.r):Int)),.slice TA4 p tc4],eO 27 8 (.slice QA4 ((rs1++[t]).length) qc4) ((rs1++[t]).length) ((rs1++[t]).flatMap rcC),eO 4 1 (.slice TA4 p tc4) p (tB (tlF L told t.r.eds (os.take i4)) p),eRc rr1,eB bP 27 #[vi t.r.kind,vi t.r.xid,vi t.r.tbl,sn,sn,.slice t.A t.r.eds.length t.c,sn,.string t.r.note],eB dE 129 #[vi 0,vi 0],eO 3 1 (.slice OA m oc) m (os.map (Value.int .i64)),eO 48 3 (.slice NA m nc) m (ps.flatMap pgQ),eO 27 8 (.slice IA g ic) g (nl.flatMap (icL L)),eO 48 3 (.slice WA i9 wc) i9 (ws.flatMap pgQ),eM (List.map dw rws3)] W) (m-0) ?_ ?_
 exact⟨0,Nat.zero_le _,rfl,(by kernel_rfl),hq208_.pk [0,1,2,3,4,5,6,7,8,9,10]⟩
 rintro Uh a209 Ui ⟨i4,hi4,rfl,hj_,iT⟩
 refine ovz hj_ fun S8=>?_
 refine wq (wsq [.m 197 19,.m 198 6,.k 199 (vi ((m:Int))),.k 200 (.bool (decide ((i4:Int)<(m:Int))))] ?_)
 refine aa (wds (fun PF N8=>?_) fun PF N8=>?_)
 ·refine wp_skip (aa (wq (wp_block (wq ?_))))
  obtain⟨n4,hnn4⟩:∃n,os[i4]? =some n:=⟨_,List.getElem?_eq_getElem (by omega)⟩
  have zI:=hpro n4 (List.mem_of_getElem? hnn4)
  obtain⟨nk,rfl⟩:∃nk:Nat,n4=(nk:Int):=⟨n4.toNat,by omega⟩
  have hnn:os[i4]? =some (nk:Int):=hnn4
  obtain⟨pw,hpw,hpw2⟩:=yt hws9 hnn
  obtain⟨pn,hpn,hpn2⟩:=yt hps9 hnn
  have hwl:ws.length=m:=by have h_:=congrArg List.length hws9;rw[List.length_map,List.length_map] at h_;omega
  refine sqs [.m 203 17,.m 204 19] ?_
  refine sql (.pointer (some ((ad WA).add (i4*3)))) iT (fun cx=>aD (e:=48) (m:=i4) (sz:=3) rfl (by kernel_rfl) (by kernel_rfl) (cx.ou 203) (cx.ou 204) (by omega) (by omega) (At.of_ownN (cx.ri 9 rfl)) (bm (sz:=3) eU (by decide) (by omega))) ?_
  refine sql (.pointer (some ((ad WA).add (i4*3+0)))) iT (fun cx=>bn rfl (by kernel_rfl) (cx.ou 205)) ?_
  refine sql (vi pw.p.1) iT (fun cx=>rL1 (cx.ou 206) (At.eltc (f:=pgQ) (k:=0) eU (At.of_ownN (cx.ri 9 rfl)) hpw rfl)) ?_
  refine sqp [.k 208 (.bool (pw.p.1 != 0)),.m 209 208] ?_
  refine d3 209 [210,211,212,213,214,215] ?_ rfl (fun hq=>?_) ?_
  rotate_left
  have hq_:=hq
  try simp only[zB] at hq_
  refine sqp [.m 210 7,.m 211 19] ?_
  refine sql (.pointer (some ((ad NA).add (i4*3)))) iT (fun cx=>aD (e:=48) (m:=i4) (sz:=3) rfl (by kernel_rfl) (by kernel_rfl) (cx.ou 210) (cx.ou 211) (by omega) (by omega) (At.of_ownN (cx.ri 7 rfl)) (bm (sz:=3) eU (by decide) (by omega))) ?_
  refine sql (.pointer (some ((ad NA).add (i4*3+0)))) iT (fun cx=>bn rfl (by kernel_rfl) (cx.ou 212)) ?_
  refine sql (vi pn.p.1) iT (fun cx=>rL1 (cx.ou 213) (At.eltc (f:=pgQ) (k:=0) eU (At.of_ownN (cx.ri 7 rfl)) hpn rfl)) ?_
  refine sqp [.k 215 (.bool (pn.p.1==0))] ?_
  exact sqe
  refine c7 ?_
  refine sqp [sPa 216 (pw.p.1 != 0) (pn.p.1==0)] ?_
  refine aa (wbs (fun vN=>?_) fun vN=>?_)
  have vO:=vN
  simp only[zB] at vO
  obtain⟨Ri,Rj⟩:=vO
  refine aB [0,1,3,7,0,0,48,112,255,511] [[],[],[],[0],[],[],[6],[6],[2],[2]] [[],[],[],[],[],[],[],[],[],[11]] [[],[],[],[],[],[],[],[],[],[2]] [.k 217 (vp rb),.k 218 (vp rb),.k 219 (po rb 3),.c 220 (.slice TA4 p tc4),.k 221 (.slice OA m oc),.k 222 (vi ((i4:Int))),.c 223 (.pointer (some ((ad OA).add i4))),.c 224 (vi ((nk:Int))),.c 225 (.pointer (some ((ad TA4).add nk))),.n] (fun ix d b X=>match ix with|0|1|2|3|4|5|6|7|8=>True|9=>X 11=eO 4 1 (.slice TA4 p tc4) p (tB (fun x=>if x=(nk:Int) then false else (tlF L told t.r.eds (os.take i4)) x) p)|_=>True) [0,1,3,4,5,6,7,8,9,10,11] [3,6,7,8,9] [(217,0,9,226)] iT ?_ ?_ ?_
  exact fun ix _ _ _ _ _ _ hs hb hx h=>match ix,h with
  |9,h=>by dsimp only;rw[<-hx 11 rfl];exact h
  |0,_|1,_|2,_|3,_|4,_|5,_|6,_|7,_|8,_|_+10,_=>trivial
  refine⟨?_,?_,?_,?_,?_,trivial⟩
  exact xs4 rfl id fun cx=>rL1 (cx.an 2) ((cx.bi 0 rfl).cell 3)
  exact xs4 rfl id fun cx=>bz (e:=3) (m:=i4) rfl (by kernel_rfl) (by kernel_rfl) (cx.an 4) (cx.an 5) (by omega) (by omega) (At.of_own (cx.ri 6 rfl)) (by rw[List.length_map];omega)
  exact xs4 rfl id fun cx=>ce rfl (by kernel_rfl) (cx.an 6) (At.cellAd (At.of_own (cx.ri 6 rfl)) ((List.getElem?_map ..).trans (by rw[hnn];rfl)))
  exact xs4 rfl id fun cx=>bz (e:=4) (m:=nk) rfl (by kernel_rfl) (by kernel_rfl) (cx.an 3) (cx.an 7) (by omega) (by omega) (At.of_own (cx.ri 2 rfl)) ((oB _ _))
  refine svA fun o b W X cx=>?_
  exact kR (m:=nk) (n:=p) rfl (cx.an 8) (show _=Value.bool false from(cx.co _)) (by kernel_rfl) rfl rfl cx (cx.init 2 _ rfl) rfl (by omega) rfl ((EN false)) rfl rfl (fun _ _ _ _ _=>id)
  intro d b X Uj hD Ay fr aC
  simp only[exq 11 ((dTn (hD 9 lq)))] at Ay
  clear hD;subst aC;clear d b X
  refine aq (aa (sqs [.m 201 19,sI 202 ((i4:Int)+1) (by omega),.m 19 202] ?_))
  refine aa ?_
  have htk:os.take (i4+1)=os.take i4++[(nk:Int)]:=by rw[List.take_add_one,hnn];rfl
  have hyn:(af L (nk:Int)).1≠0/\(bo (af L) t.r.eds (nk:Int)).1=0:=by have h_:=vN;rw[hpw2,hpn2] at h_;simpa using h_
  rw[Lc hyn.1 hyn.2,<-htk] at Ay
  refine⟨m-((i4+1)),by omega,?_⟩
  exact⟨(i4+1),by omega,rfl,(by kernel_rfl),Ay.pk [0,1,10,2,3,4,5,6,7,8,9]⟩
  have vO:=vN
  simp only[zB] at vO
  refine wp_skip (aq (aa (sqs [.m 201 19,sI 202 ((i4:Int)+1) (by omega),.m 19 202] ?_)))
  refine aa ?_
  have htk:os.take (i4+1)=os.take i4++[(nk:Int)]:=by rw[List.take_add_one,hnn];rfl
  rw[LP (L:=L) (told:=told) (eds:=t.r.eds) (os:=os.take i4) (n:=(nk:Int)) (by have h_:=vN;rw[hpw2,hpn2] at h_;simpa using h_),<-htk] at iT
  refine⟨m-((i4+1)),by omega,?_⟩
  exact⟨(i4+1),by omega,rfl,(by kernel_rfl),iT.pk [0,1,2,3,4,5,6,7,8,9,10]⟩
 refine wp_exit (al (al (bf (aa (wsq [.m 226 0,.k 227 (vp rb),.k 228 (po rb 1)] ?_)))))
 refine am 0 iT ?_
 refine sqp [.k 230 (vi (((rs1++[t]).length:Int))),.k 231 (.agg #[vi (((rs1++[t]).length:Int)),vi 0])] ?_
 refine aT (n:=2) 5 #[vi (((rs1++[t]).length:Int)),vi 0] iT fun Uk Az=>?_
 refine aa (wp_ret ?_)
 refine bpr (.agg #[vi (((rs1++[t]).length:Int)),vi 0]) (bB (n:=2) results77 rfl (by kernel_rfl) (by kernel_rfl) (Az.blk 5 rfl) rfl) ?_
 have hi9b:i4=m:=by omega
 have htl:(tlF L told t.r.eds (os.take i4))=rfT told L t.r:=by rw[List.take_of_length_le (by omega),hosF];rfl
 have hrD:=qE (told:=told) hE0
 have hrL9b:(rs1++[t]).map RcT.r=rfL L t.r:=by rw[List.map_append,hr9,rfL,<-hosF];rfl
 have hlen9:(rs1++[t]).length=(rfL L t.r).length:=by rw[<-hrL9b,List.length_map]
 rw[htl] at Az
 obtain⟨fp244_,hr244_⟩:=St.rq (rs:=(rs1++[t])) (told:=(rfT told L t.r)) (p:=p) (rr:=rr1) (Az.u4.c0.u4.c0.u4.c0.u4.c0.u4.c0.u4.c0.u4.c0)
 have N9:=St.rf (L:=(rfL L t.r)) hr244_ (hrL9b) (fun x hx=>(List.mem_append.1 hx).elim (fQ.1 x) fun h=>by rw[List.mem_singleton.1 h];exact fQ.2)
 exact⟨by rw[hrD,hE0];show Ending.returned (.agg #[vi ((rs1++[t]).length:Int),vi 0])= _;rw[hlen9],_,by rw[hrD];exact N9⟩
end
section
open Go.RowKit
section
variable{S S2:StM}{c p:Nat}{told:Int->Bool}{L:List RecM}{er:Int}
structure NiceX (S:StM) (L:List RecM) (told:Int->Bool) (p c:Nat):Prop extends Nice S L told p c where
 xt:True
end
section
variable{S S2:StM}{L:List RecM}{told:Int->Bool}{p c c':Nat}{n er:Int}
theorem NewS.niceX{n:Nat}{note:ByteArray}(h:NewS S n note bufs):NiceX S [au note] (fun _=>false) n 0:=⟨h.nice,trivial⟩
theorem NiceX.mono(h:NiceX S L told p c)(hc:c<=c'):NiceX S L told p c':=⟨h.toNice.mono hc,trivial⟩
theorem NiceX.do{r:RecM}(h:NiceX S L told p c)(hq:DoQ S r S2 n er)(ho:SOk S2 c'):n=(rfD p L told r).2.1/\er=rfE p L r/\NiceX S2 (rfD p L told r).1 (rfD p L told r).2.2.2 p c':=by
 obtain⟨a,b,d⟩:=h.toNice.do hq ho
 exact⟨a,b,d,trivial⟩
theorem NiceX.page{ok:Bool}(h:NiceX S L told p c)(hq:PaQ S n S2 ok):ok=decide (0<=n/\n<(p:Int))/\pgF S n ok=(if 0<=n/\n<(p:Int) then af L n else bp)/\NiceX S2 L told p (c+3):=by
 obtain⟨a,b,d⟩:=h.toNice.page hq
 exact⟨a,b,d,trivial⟩
theorem NiceX.fresh{r:Int}(h:NiceX S L told p c)(hq:FrR S 0 S2 r):r=frF p L told/\NiceX S2 L (frT p L told) p (c+3*p+1):=by
 obtain⟨a,b⟩:=h.toNice.fresh hq
 exact⟨a,b,trivial⟩
theorem NiceX.flush(h:NiceX S L told p c):(opD S.D 0 flD).2=0/\NiceX (dB S (opD S.D 0 flD).1) L told p c:=by
 obtain⟨a,b⟩:=h.toNice.flush
 exact⟨a,b,trivial⟩
theorem NiceX.write(h:NiceX S L told p c)(hq:WrQ S n S2 er):er=(if 0<=n/\n<(p:Int) then 0 else 22)/\NiceX S2 L told p (c+4):=by
 obtain⟨a,b⟩:=h.toNice.write hq
 exact⟨a,b,trivial⟩
theorem NiceX.check{note:ByteArray}(h:NiceX S L told p c)(hq:CkQ S note S2 er)(ho:SOk S2 c'):er=eG L note/\NiceX S2 (ckL L note) told p c':=by
 obtain⟨a,b⟩:=h.toNice.check hq ho
 exact⟨a,b,trivial⟩
end
end
section
open Go.RowKit
def eNi(sb db:Nat)(L:List RecM)(told:Int->Bool)(p c:Nat)(fp:List Nat):Ent:=eSx sb db (fun S=>NiceX S L told p c) fp
theorem KO(sb db:Nat)(L:List RecM)(told:Int->Bool)(p c:Nat)(fp:List Nat):(eNi sb db L told p c fp).loc:=rV _ _ _ _
theorem eR{e:Ent}{p:Nat}(h:e=eNi sb db L told p c fp):e=eNi sb db L told p c e.fp:=by subst h;rfl
theorem St.sxm{L1 L2:List Ent}{Φ Ψ:StM->Prop}(h:St w0 bor (L1++eSx sb db Φ fp::L2) W)(hi:∀S,Φ S->Ψ S):St w0 bor (L1++eSx sb db Ψ fp::L2) W:=St.repl h rfl (fun⟨S,a,b⟩=>⟨S,hi S a,b⟩) (rV _ _ _ _)
theorem St.sxe{L1 L2:List Ent}{Φ:StM->Prop}(h:St w0 bor (L1++eSx sb db Φ fp::L2) W):∃S,Φ S:=let ⟨S,a,_⟩:=(h.ok (eSx sb db Φ fp) (by simp)).holds;⟨S,a⟩
section
variable{sb db:Nat}{L:List RecM}{told:Int->Bool}{p c:Nat}{fp:List Nat}{w:World}
theorem Bq(r:RecM)(A:Option Addr)(rc:Nat)(hB:(eNi sb db L told p c fp).holds w)(hlt:∀k∈fp,k<w.heap.size)(hc:c<=800000)(hA:∀W,Upd fp w W->At W A (r.eds.flatMap edC))(hI:r.eds.length<=100000)(hz:∀e∈r.eds,e.2.2.size<=9223372036854775807)(hns:r.note.size<=9223372036854775807):
  Calls P_ 17 #[po sb 0,.agg #[.int .i64 r.kind,.int .i64 r.xid,.int .i64 r.tbl,sn,sn,.slice A r.eds.length rc,sn,.string r.note]] w
   (fun e w'=>e= .returned (.tuple #[.int .i64 (rfD p L told r).2.1,.int .i64 (rfE p L r)])/\∃fp',St w fp [eNi sb db (rfD p L told r).1 (rfD p L told r).2.2.2 p (c+700) fp'] w'):=by
 obtain⟨S,hN,hS⟩:=hB
 refine(KA sb db S r A rc c fp w hS hlt hN.ok hc hA hI hz hns).mono ?_
 rintro e w' ⟨n,er,rfl,fp',hs⟩
 obtain⟨S2,h1,h2⟩:=St.sxe (L1:=[]) (L2:=[]) hs
 obtain⟨rfl,rfl,_⟩:=hN.do h1 h2
 exact⟨rfl,fp',St.sxm (L1:=[]) (L2:=[]) hs fun S2 h=>(hN.do h.1 h.2).2.2⟩
noncomputable def pgC(L:List RecM)(p:Nat)(n:Int):PgS:=if 0<=n/\n<(p:Int) then af L n else bp
theorem xr(n:Int)(hB:(eNi sb db L told p c fp).holds w)(hlt:∀k∈fp,k<w.heap.size)(hc:c<=800000)(hn:kcI.ok n):
  Calls P_ 21 #[po sb 0,.int .i64 n] w
   (fun e w'=>∃A cc,e= .returned (.tuple #[.agg #[.int .i64 (pgC L p n).1,.int .i64 (pgC L p n).2.1,.slice A (pgC L p n).2.2.length cc],.bool (decide (0<=n/\n<(p:Int)))])/\∃fp',St w fp [eNi sb db L told p (c+3) fp',eO 9 1 (.slice A (pgC L p n).2.2.length cc) (pgC L p n).2.2.length ((pgC L p n).2.2.map Value.string)] w'):=by
 obtain⟨S,hN,hS⟩:=hB
 refine(qi sb db S n c fp w hS hlt hN.ok (by omega) hn).mono ?_
 rintro e w' ⟨ok,A,cc,rfl,fp',hs⟩
 obtain⟨S2,h1⟩:=St.sxe (L1:=[]) hs
 obtain⟨e1,e2,_⟩:=hN.page h1
 have pY:=St.sxm (L1:=[]) (Ψ:=fun S=>NiceX S L told p (c+3)) hs fun S2 h=>(hN.page h).2.2
 subst e1
 rw[show pgF S n _=pgC L p n from e2] at pY |-
 exact⟨A,cc,rfl,fp',pY⟩
theorem pe(hB:(eNi sb db L told p c fp).holds w)(hlt:∀k∈fp,k<w.heap.size)(hc:c<=800000):
  Calls P_ 22 #[po sb 0] w
   (fun e w'=>e= .returned (.int .i64 (frF p L told))/\∃fp',St w fp [eNi sb db L (frT p L told) p (c+3*p+1) fp'] w'):=by
 obtain⟨S,hN,hS⟩:=hB
 refine(Cp sb db S c fp w hS hlt hN.ok (by omega)).mono ?_
 rintro e w' ⟨r,rfl,fp',hs⟩
 obtain⟨S2,h1⟩:=St.sxe (L1:=[]) (L2:=[]) hs
 obtain⟨rfl,_⟩:=hN.fresh h1
 exact⟨rfl,fp',St.sxm (L1:=[]) (L2:=[]) hs fun S2 h=>(hN.fresh h).2⟩
theorem Da(hB:(eNi sb db L told p c fp).holds w)(hlt:∀k∈fp,k<w.heap.size):
  Calls P_ 27 #[po sb 0] w
   (fun e w'=>e= .returned (.int .i64 0)/\∃fp',St w fp [eNi sb db L told p c fp'] w'):=by
 obtain⟨S,hN,hS⟩:=hB
 refine(Cy sb db S fp w hS hlt (Nat.le_trans hN.ok.lsz (by decide))).mono ?_
 rintro e w' ⟨rfl,fp',hs⟩
 obtain⟨a,b⟩:=hN.flush
 refine⟨by rw[a],fp',St.sx (L:=[]) hs b⟩
theorem uj(n:Int)(hB:(eNi sb db L told p c fp).holds w)(hlt:∀k∈fp,k<w.heap.size)(hc:c<=800000)(hn:kcI.ok n):
  Calls P_ 79 #[po sb 0,.int .i64 n] w
   (fun e w'=>e= .returned (.int .i64 (if 0<=n/\n<(p:Int) then 0 else 22))/\∃fp',St w fp [eNi sb db L told p (c+4) fp'] w'):=by
 obtain⟨S,hN,hS⟩:=hB
 refine(Bc sb db S n c fp w hS hlt hN.ok (by omega) hn).mono ?_
 rintro e w' ⟨er,rfl,fp',hs⟩
 obtain⟨S2,h1⟩:=St.sxe (L1:=[]) (L2:=[]) hs
 obtain⟨rfl,_⟩:=hN.write h1
 exact⟨rfl,fp',St.sxm (L1:=[]) (L2:=[]) hs fun S2 h=>(hN.write h).2⟩
theorem CH(note:ByteArray)(hB:(eNi sb db L told p c fp).holds w)(hlt:∀k∈fp,k<w.heap.size)(hc:c<=800000)(hn:note.size<=9000000):
  Calls P_ 28 #[po sb 0,.string note] w
   (fun e w'=>e= .returned (.int .i64 (eG L note))/\∃fp',St w fp [eNi sb db (ckL L note) told p (c+500) fp'] w'):=by
 obtain⟨S,hN,hS⟩:=hB
 refine(tU sb db S note c fp w hS hlt hN.ok hc hn).mono ?_
 rintro e w' ⟨er,rfl,fp',hs⟩
 obtain⟨S2,h1,h2⟩:=St.sxe (L1:=[]) (L2:=[]) hs
 obtain⟨rfl,_⟩:=hN.check h1 h2
 exact⟨rfl,fp',St.sxm (L1:=[]) (L2:=[]) hs fun S2 h=>(hN.check h.1 h.2).2⟩
end
end
section
open Go.RowKit
section
variable{sb db:Nat}{L:List RecM}{told:Int->Bool}{p c:Nat}{fp:List Nat}{w:World}
theorem zr(hB:(eNi sb db L told p c fp).holds w):∃S,Nice S L told p c/\kE w sb db S:=let ⟨S,a,b⟩:=hB;⟨S,a.toNice,j7 b⟩
theorem Nice.len{S:StM}(h:Nice S L told p c):S.recs.length=L.length:=by rw[<-h.eL];exact(List.length_map ..).symm
theorem DJ(hB:(eNi sb db L told p c fp).holds w):Calls P_ 45 #[po sb 0] w (Ret (.int .i64 (be L:Int)) w):=by
 obtain⟨S,h,hs⟩:=zr hB
 have e:=h.wi.frm
 rw[h.eL] at e
 rw[<-e];exact wK sb db S w hs
def xN(L:List RecM):ByteArray:=(L[be L-1]?.map RecM.note).getD ⟨#[]⟩
theorem Eb(hB:(eNi sb db L told p c fp).holds w)(h0:0<be L):Calls P_ 25 #[po sb 0] w (Ret (.string (xN L)) w):=by
 obtain⟨S,h,hs⟩:=zr hB
 have hl:=h.len
 have hb:=h.ok.recs_len
 have hf:=o7 L
 have e:=h.wi.frm
 rw[h.eL] at e
 obtain⟨rt,hrt⟩:∃rt,S.recs[be L-1]? =some rt:=⟨_,List.getElem?_eq_getElem (by omega)⟩
 have e2:xN L=rt.r.note:=by
  have:L[be L-1]? =some rt.r:=by rw[<-h.eL];exact(List.getElem?_map ..).trans (by rw[h.eL,hrt];rfl)
  rw[xN,this];rfl
 rw[e2]
 exact xv sb db S (be L-1) rt w hs (by rw[e];omega) hrt (by omega)
theorem so(n:Nat)(note:ByteArray)(hB:(eDk db (kz n) fp).holds w)(hlt:∀k∈fp,k<w.heap.size)(hn:note.size<=60000):
  Calls P_ 20 #[po db 0,.string note] w (fun e w'=>e= .returned (.int .i64 0)/\∃fp',St w fp [eDk db (bgD n note) fp'] w'):=by
 refine(Bf db (kz n) note fp w hB hlt (Nat.zero_le _) (by omega)).mono ?_
 rintro e w' ⟨rfl,fp',hs⟩
 rw[JX n hn] at hs |-
 exact⟨rfl,fp',hs⟩
theorem wS(n:Nat)(note:ByteArray)(bufs:Int)(hB:(eDk db (bgD n note) fp).holds w)(hlt:∀k∈fp,k<w.heap.size)(hn:note.size<=60000)(hp:n<=400)(hb:1<=bufs/\bufs<=64):
  Calls P_ 18 #[po db 0,.int .i64 bufs] w (fun e w'=>∃sb,e= .returned (.tuple #[po sb 0,.int .i64 0])/\∃fp',St w fp [eNi sb db [au note] (fun _=>false) n 0 fp'] w'):=by
 have hf:=eV (dz hn)
 have hl:(bgD n note).log=dZ [au note]:=(BA note).symm
 have hz:(bgD n note).log.size=(aA (au note)).size:=rfl
 have hL:∀r∈[au note],bt r=true:=fun r hr=>by rw[List.mem_singleton.1 hr];exact dz hn
 refine(wT db (bgD n note) bufs [au note] ⟨#[]⟩ 0 fp w hB hlt (LQ hl) hL (yB hl) (by omega) (Nat.le_refl _) (by show (List.replicate n _).length<= _;rw[List.length_replicate];exact hp) (fun x hx=>by rw[List.eq_of_mem_replicate hx];exact Nat.le_refl _) (by show 0+200*1<=900000;decide) (fun r hr h8=>by rw[List.mem_singleton.1 hr] at h8;cases h8)).mono ?_
 rintro e w' ⟨v,er,rfl,fp',hs⟩
 obtain⟨sb,S,rfl,rfl,hN,pY⟩:=St.opnN (L:=[]) hs hp hn hb
 exact⟨sb,rfl,fp',St.sx (L:=[]) pY hN.niceX⟩
end
theorem Qc:rfD 2 [au nS] (fun _=>false) r1=(rfL [au nS] r1,3,0,rfT (fun _=>false) [au nS] r1):=by rw[qE ME,P8];rfl
def t1:Int->Bool:=rfT (fun _=>false) [au nS] r1
def L1:List RecM:=rfL [au nS] r1
theorem OI:frF 2 L1 t1=0:=by decide+kernel
theorem OF:frF 2 L1 (frT 2 L1 t1)= -1:=by decide+kernel
theorem Kv:xN L1=nS:=by decide+kernel
theorem Ov:pgC L1 2 1=(1,3,[]):=by rw[pgC,if_pos (by decide)];exact LH
section
variable{sb db c:Nat}{fp:List Nat}{w:World}
theorem LY(A:Option Addr)(rc:Nat)(hB:(eNi sb db [au nS] (fun _=>false) 2 0 fp).holds w)(hlt:∀k∈fp,k<w.heap.size)(hA:∀W,Upd fp w W->At W A (r1.eds.flatMap edC)):
  Calls P_ 17 #[po sb 0,.agg #[.int .i64 1,.int .i64 0,.int .i64 0,sn,sn,.slice A 1 rc,sn,.string ⟨#[]⟩]] w
   (fun e w'=>e= .returned (.tuple #[.int .i64 3,.int .i64 0])/\∃fp',St w fp [eNi sb db L1 t1 2 700 fp'] w'):=by
 have h:=Bq r1 A rc hB hlt (by decide) hA (by decide) (by decide) (by decide)
 rw[Qc,ME] at h
 exact h
theorem Gz(hB:(eNi sb db L1 t1 2 c fp).holds w)(hlt:∀k∈fp,k<w.heap.size)(hc:c<=800000):
  Calls P_ 21 #[po sb 0,.int .i64 1] w
   (fun e w'=>∃A cc,e= .returned (.tuple #[.agg #[.int .i64 1,.int .i64 3,.slice A 0 cc],.bool true])/\∃fp',St w fp [eNi sb db L1 t1 2 (c+3) fp',eO 9 1 (.slice A 0 cc) 0 []] w'):=by
 have h:=xr 1 hB hlt hc (by constructor<;>decide)
 rw[Ov] at h
 exact h
theorem El(hB:(eNi sb db L1 t1 2 c fp).holds w)(hlt:∀k∈fp,k<w.heap.size)(hc:c<=800000):
  Calls P_ 22 #[po sb 0] w (fun e w'=>e= .returned (.int .i64 0)/\∃fp',St w fp [eNi sb db L1 (frT 2 L1 t1) 2 (c+7) fp'] w'):=by
 have h:=pe hB hlt hc
 rw[OI] at h
 exact h
theorem DT(hB:(eNi sb db L1 (frT 2 L1 t1) 2 c fp).holds w)(hlt:∀k∈fp,k<w.heap.size)(hc:c<=800000):
  Calls P_ 22 #[po sb 0] w (fun e w'=>e= .returned (.int .i64 (-1))/\∃fp',St w fp [eNi sb db L1 (frT 2 L1 (frT 2 L1 t1)) 2 (c+7) fp'] w'):=by
 have h:=pe hB hlt hc
 rw[OF] at h
 exact h
theorem Hw(hB:(eNi sb db L1 told 2 c fp).holds w):Calls P_ 25 #[po sb 0] w (Ret (.string ⟨#[110]⟩) w):=by
 have h:=Eb hB (by decide+kernel)
 rw[Kv] at h
 exact h
theorem H2(hB:(eNi sb db L1 told 2 c fp).holds w):Calls P_ 45 #[po sb 0] w (Ret (.int .i64 1) w):=by
 have h:=DJ hB
 rw[show be L1=1 from Lr] at h
 exact h
end
end
section
open Go.RowKit
theorem CZ(w:World):
  Calls P_ 13 #[] w (Ret (.bool true) w):=by
 go_enter func13,ntmps13
 have aj:=St.start w
 refine wsq [.k 0 (.bool false)] ?_
 refine aa (wq (sqr ?_))
 refine C4 (fun fE=>vp fE) (fun fE I9=>eDk fE (kz 2) I9) aj (fun cx=>⟨_,(yf 2 _ (by decide)).mono (by rintro e W1 ⟨b4,rfl,fp4,aM⟩;exact⟨_,_,rfl,aM⟩),(av (cx.co _))⟩) fun fE I9 W2 bA=>?_
 refine sqp [.m 1 9] ?_
 refine aa (wsq [.m 10 1] ?_)
 refine bF (fun X_=>X_.fp) (vi 0) (fun Ja=>eDk fE (bgD 2 (⟨#[110]⟩:ByteArray)) Ja) 0 bA (by
   refine svA fun g b W X cx=>?_
   refine ak.call (rCF (args:=#[vp fE,.string ⟨#[110]⟩]) cx.sees (aN (cx.ou 10) (cx.co _))) ?_
   refine(so 2 (⟨#[110]⟩:ByteArray) (CtxV.holdF cx (cx.init 0 _ rfl) rfl) (CtxV.ltF cx (cx.init 0 _ rfl) rfl) (by decide)).mono ?_
   rintro e W1 ⟨rfl,fp4,aM⟩
   refine⟨_,rfl,aI (E:=eDk fE (kz 2) I9) [eDk fE (bgD 2 (⟨#[110]⟩:ByteArray)) fp4] (cx.init 0 _ rfl) rfl rfl aM (fun d o X' hs hb hv hN=>?_)⟩
   have aH:=(hv 11 rfl).1;have aO:=(hv 11 rfl).2
   exact⟨aH.trans rfl,cF ((List.cons.inj hN).1)⟩) fun Ja W5 aK=>?_
 refine sqp [.m 2 11] ?_
 refine aa (wsq [.m 13 1] ?_)
 refine nv (fun x_=>pb (tg x_ 0)) (fun X_=>X_.fp) (fun eu=> .tuple #[vp eu,vi 0]) (fun eu Jb=>eNi eu fE ([au (⟨#[110]⟩:ByteArray)]) (fun _=>false) 2 0 Jb) 0 aK (by
   refine svA fun g b W X cx=>?_
   refine ak.call (rCF (args:=#[vp fE,vi 1]) cx.sees (aN (cx.ou 13) (cx.co _))) ?_
   refine(wS 2 (⟨#[110]⟩:ByteArray) 1 (CtxV.holdF cx (cx.init 0 _ rfl) rfl) (CtxV.ltF cx (cx.init 0 _ rfl) rfl) (by decide) (by decide) (by decide)).mono ?_
   rintro e W1 ⟨sb4,rfl,fp4,aM⟩
   refine⟨_,rfl,aI (E:=eDk fE (bgD 2 (⟨#[110]⟩:ByteArray)) Ja) [eNi sb4 fE [au (⟨#[110]⟩:ByteArray)] (fun _=>false) 2 0 fp4] (cx.init 0 _ rfl) rfl rfl aM (fun d o X' hs hb hv hN=>?_)⟩
   have aH:=(hv 14 rfl).1;have aO:=(hv 14 rfl).2
   exact⟨aH.trans (by rw[aO];exact rfl),(by rw[aO];exact eR ((List.cons.inj hN).1))⟩) fun eu Jb W8 dI=>?_
 refine sqp [.m 12 14,.k 15 (vp eu),.k 16 (vi 0),.m 3 15,.m 4 16] ?_
 refine aa (wq (wsq [.m 17 2,.k 18 (.bool false),.k 19 (.bool false)] ?_))
 refine de 19 [20,21] rfl rfl ?_
 refine sqp [.m 20 4,.k 21 (.bool false)] ?_
 refine sqp [.k 22 (.bool false),.k 23 (.bool false)] ?_
 refine de 23 [24,25] rfl rfl ?_
 refine sqp [.m 24 3] ?_
 refine sqv (.bool false) dI (by
   exact sv0 rfl rfl rfl rfl rfl (fun _ _ _ h=>h) fun g b W X cx=>by
    have Q5:g (.tmp 24)=vp eu:=(cx.ou 24)
    simp[go_sem,cx.sees.const,Q5]) fun uZ dv=>?_
 refine sqp [.k 26 (.bool false)] ?_
 refine aa (wcf rfl (wp_skip (aa (wsq [.m 28 3] ?_))))
 refine sqk (.agg #[vi 1,vi ((-1)),.string ((kS 1))]) dv (fun cx=>⟨_,yp 1 1 _ (by decide),(aN (cx.co _) (cx.co _))⟩) fun xy dM=>?_
 refine mX 84 3 1 [vi 1,vi ((-1)),.string ((kS 1))] dM (@fun g b W X cx=>by have Q6:g (.tmp 29)= .agg #[vi 1,vi ((-1)),.string ((kS 1))]:=(cx.ou 29);simp[go_sem,Q6]) fun Gc xD fD=>?_
 refine sqp [.k 31 (.agg #[vi 1,vi 0,vi 0,sn,sn,.slice ((some ⟨Gc,0,none⟩)) 1 1,sn,.string ByteArray.empty])] ?_
 refine bF (fun X_=>X_.fp) (.tuple #[vi 3,vi 0]) (fun Dz=>eNi eu fE L1 t1 2 700 Dz) 0 fD (by
   refine svA fun g b W X cx=>?_
   refine ak.call (rCF (args:=#[vp eu,.agg #[vi 1,vi 0,vi 0,sn,sn,.slice ((some ⟨Gc,0,none⟩)) 1 1,sn,.string ByteArray.empty]]) cx.sees (aN (cx.ou 28) (cx.ou 31))) ?_
   refine(LY _ _ (CtxV.holdF cx (cx.init 0 _ rfl) rfl) (CtxV.ltF cx (cx.init 0 _ rfl) rfl) (CtxV.keepAt cx (cx.init 1 _ rfl) (cx.init 0 _ rfl) rfl rfl (by decide))).mono ?_
   rintro e W1 ⟨rfl,fp4,aM⟩
   refine⟨_,rfl,aI (E:=eNi eu fE ([au (⟨#[110]⟩:ByteArray)]) (fun _=>false) 2 0 Jb) [eNi eu fE L1 t1 2 700 fp4] (cx.init 0 _ rfl) rfl rfl aM (fun d o X' hs hb hv hN=>?_)⟩
   have aH:=(hv 32 rfl).1;have aO:=(hv 32 rfl).2
   exact⟨aH.trans rfl,eR ((List.cons.inj hN).1)⟩) fun Dz zN dN=>?_
 refine sqp [.m 27 32,.k 33 (vi 3),.k 34 (vi 0),.m 5 33,.m 6 34] ?_
 refine aa (wq (aB [0,1,3,7,7,0,47,127] [[],[0],[],[],[],[],[4]] [[],[2,3],[],[],[],[4],[5]] [[],[0],[],[],[],[],[4]] [.k 36 (vp eu),.a 37,.a 35,.a 38,.c 39 (.bool true),.a 7,.n,.k 8 (.bool true)] (fun ix d b X=>match ix with|0=>True|1=>d 37= .tuple #[.agg #[vi 1,vi 3,.slice (sA (tg (tg (b 37) 0) 2)) 0 (sC (tg (tg (b 37) 0) 2))],.bool true]/\X 2=eNi eu fE L1 t1 2 (700+3) ((X 2).fp)/\X 3=eO 9 1 (.slice (sA (tg (tg (b 37) 0) 2)) 0 (sC (tg (tg (b 37) 0) 2))) 0 ([])|2=>d 35= .tuple #[.agg #[vi 1,vi 3,.slice (sA (tg (tg (b 37) 0) 2)) 0 (sC (tg (tg (b 37) 0) 2))],.bool true]|3=>d 38= .agg #[vi 1,vi 3,.slice (sA (tg (tg (b 37) 0) 2)) 0 (sC (tg (tg (b 37) 0) 2))]|4=>True|5=>d 7=vp (pb (b 7))/\X 4=eB (pb (b 7)) 48 #[vi 0,vi 0,sn]|6=>X 5=eB (pb (b 7)) 48 #[vi 1,vi 3,.slice (sA (tg (tg (b 37) 0) 2)) 0 (sC (tg (tg (b 37) 0) 2))]|_=>True) [1,2,3,5] [1,2,3,4,5,6] [(7,5,3,9),(26,2,1,27),(0,0,2,2),(0,3,2,2)] dN ?_ ?_ ?_))
 exact fun ix _ _ _ _ _ _ hs hb hx h=>match ix,h with
 |1,h=>by dsimp only;rw[<-hs 37 rfl,<-hb 37 rfl,<-hx 2 rfl,<-hx 3 rfl];exact h
 |2,h=>by dsimp only;rw[<-hs 35 rfl,<-hb 37 rfl];exact h
 |3,h=>by dsimp only;rw[<-hs 38 rfl,<-hb 37 rfl];exact h
 |5,h=>by dsimp only;rw[<-hs 7 rfl,<-hb 7 rfl,<-hx 4 rfl];exact h
 |6,h=>by dsimp only;rw[<-hb 7 rfl,<-hb 37 rfl,<-hx 5 rfl];exact h
 |0,_|4,_|_+7,_=>trivial
 refine⟨?_,?_,?_,?_,?_,?_,trivial⟩
 refine svA fun g b W X cx=>?_
 refine ak.call (rCF (args:=#[vp eu,vi 1]) cx.sees (aN (cx.an 0) (cx.co _))) ?_
 refine(Gz (CtxV.holdF cx (cx.init 0 _ rfl) rfl) (CtxV.ltF cx (cx.init 0 _ rfl) rfl) (by decide)).mono ?_
 rintro e W1 ⟨A4,c4,rfl,fp4,aM⟩
 refine⟨_,rfl,aI (E:=eNi eu fE L1 t1 2 700 Dz) [eNi eu fE L1 t1 2 (700+3) fp4,eO 9 1 (.slice A4 0 c4) 0 []] (cx.init 0 _ rfl) rfl rfl aM (fun d o X' hs hb hv hN=>?_)⟩
 have aH:=(hv 37 rfl).1;have aO:=(hv 37 rfl).2
 exact⟨aH.trans (by rw[aO];exact rfl),eR ((List.cons.inj hN).1),(by rw[aO];exact(List.cons.inj (List.cons.inj hN).2).1)⟩
 exact sv rfl rfl rfl rfl rfl _ (fun _ _ _ h=>h) (fun b o h=>by rw[h 37 (by decide)]) fun g b W X cx=>cM rfl (dTn (cx.an 1)).1
 exact sv rfl rfl rfl rfl rfl _ (fun _ _ _ h=>h) (fun b o h=>by rw[h 37 (by decide)]) fun g b W X cx=>bH rfl (dTn (cx.an 2)) rfl
 exact xs4 rfl id fun cx=>bH rfl (dTn (cx.an 2)) rfl
 refine svA fun g b W X cx=>?_
 exact dVA (cs:=#[vi 0,vi 0,sn]) rfl rfl rfl (fun _ _ _ _ _=> .intro)
 refine svA fun g b W X cx=>?_
 exact dVS (n:=3) rfl (dTn (cx.an 5)).1 (dTn (cx.an 3)) cx (dTn (cx.an 5)).2 rfl (nle rfl) rfl rfl rfl (fun d o X' hs hb hx=>by rw[hb 7,hb 37];exact hx)
 intro d b X xA hD ek fr aC
 obtain⟨Sy,rF⟩:∃z,sA (tg (tg (b 37) 0) 2)=z:=⟨_,rfl⟩
 obtain⟨Sz,rG⟩:∃z,sC (tg (tg (b 37) 0) 2)=z:=⟨_,rfl⟩
 obtain⟨ja,tR⟩:∃z,pb (b 7)=z:=⟨_,rfl⟩
 have Oa:X 2= _:=(dTn (hD 1 lq)).2.1
 obtain⟨PG,AB⟩:∃z,(X 2).fp=z:=⟨_,rfl⟩
 rw[AB] at Oa
 clear AB
 simp only[Oa,exq 3 ((dTn (hD 1 lq)).2.2),exq 5 ((dTn (hD 6 lq))),rF,rG,tR] at ek
 simp only[ed 37 ((dTn (hD 1 lq)).1),ed 35 ((dTn (hD 2 lq))),ed 38 ((dTn (hD 3 lq))),ed 7 ((dTn (hD 5 lq)).1),rF,rG,tR] at aC
 clear hD Oa rF rG tR;subst aC;clear d b X
 refine aa (wsq [.m 40 5,.k 41 (.bool true),.k 42 (.bool true)] ?_)
 refine de 42 [43,44] rfl rfl ?_
 refine sqp [.m 43 6,.k 44 (.bool true)] ?_
 refine sqp [.k 45 (.bool true),.k 46 (.bool true)] ?_
 refine de 46 [47] rfl rfl ?_
 refine sqp [.k 47 (.bool true)] ?_
 refine sqp [.k 48 (.bool true),.k 49 (.bool true)] ?_
 refine de 49 [50,51,52] rfl rfl ?_
 refine sqp [.k 50 (vp ja)] ?_
 refine am 3 ek ?_
 refine sqp [.k 52 (.bool true)] ?_
 refine sqp [.k 53 (.bool true),.k 54 (.bool true)] ?_
 refine de 54 [55,56,57] rfl rfl ?_
 refine sqp [.k 55 (po ja 1)] ?_
 refine am 3 ek ?_
 refine sqp [.k 57 (.bool true)] ?_
 refine sqp [.k 58 (.bool true),.k 59 (.bool true)] ?_
 refine de 59 [60,61,62] rfl rfl ?_
 refine sqp [.m 60 3] ?_
 refine bF (fun X_=>X_.fp) (vi 0) (fun DA=>eNi eu fE L1 (frT 2 L1 t1) 2 ((700+3)+7) DA) 1 ek (by
   refine svA fun g b W X cx=>?_
   refine ak.call (rCF (args:=#[vp eu]) cx.sees (av (cx.ou 60))) ?_
   refine(El (CtxV.holdF cx (cx.init 1 _ rfl) rfl) (CtxV.ltF cx (cx.init 1 _ rfl) rfl) (by decide)).mono ?_
   rintro e W1 ⟨rfl,fp4,aM⟩
   refine⟨_,rfl,aI (E:=eNi eu fE L1 t1 2 (700+3) PG) [eNi eu fE L1 (frT 2 L1 t1) 2 ((700+3)+7) fp4] (cx.init 1 _ rfl) rfl rfl aM (fun d o X' hs hb hv hN=>?_)⟩
   have aH:=(hv 61 rfl).1;have aO:=(hv 61 rfl).2
   exact⟨aH.trans rfl,eR ((List.cons.inj hN).1)⟩) fun DA PR pE=>?_
 refine sqp [.k 62 (.bool true)] ?_
 refine sqp [.k 63 (.bool true),.k 64 (.bool true)] ?_
 refine de 64 [65,66,67] rfl rfl ?_
 refine sqp [.m 65 3] ?_
 refine bF (fun X_=>X_.fp) (vi ((-1))) (fun JH=>eNi eu fE L1 (frT 2 L1 (frT 2 L1 t1)) 2 (((700+3)+7)+7) JH) 1 pE (by
   refine svA fun g b W X cx=>?_
   refine ak.call (rCF (args:=#[vp eu]) cx.sees (av (cx.ou 65))) ?_
   refine(DT (CtxV.holdF cx (cx.init 1 _ rfl) rfl) (CtxV.ltF cx (cx.init 1 _ rfl) rfl) (by decide)).mono ?_
   rintro e W1 ⟨rfl,fp4,aM⟩
   refine⟨_,rfl,aI (E:=eNi eu fE L1 (frT 2 L1 t1) 2 ((700+3)+7) DA) [eNi eu fE L1 (frT 2 L1 (frT 2 L1 t1)) 2 (((700+3)+7)+7) fp4] (cx.init 1 _ rfl) rfl rfl aM (fun d o X' hs hb hv hN=>?_)⟩
   have aH:=(hv 66 rfl).1;have aO:=(hv 66 rfl).2
   exact⟨aH.trans rfl,eR ((List.cons.inj hN).1)⟩) fun JH BZ fw=>?_
 refine sqp [.k 67 (.bool ((-1)==(-1)))] ?_
 refine sqp [.k 68 (.bool ((-1)==(-1))),.m 69 68] ?_
 refine qO 69 [70,71,72] ?_ fw rfl (fun hq=>?_) fun B2 f7=>?_
 rotate_left
 refine sqp [.m 70 3] ?_
 refine sqk (.string ((⟨#[110]⟩:ByteArray))) fw (fun cx=>⟨_,Hw (CtxV.holdF cx (cx.init 1 _ rfl) rfl),(av (cx.ou 70))⟩) fun PQ vb=>?_
 refine sqp [.k 72 (.bool (((⟨#[110]⟩:ByteArray)).toList==((⟨#[110]⟩:ByteArray)).toList))] ?_
 exact sqE vb
 refine c7 ?_
 refine sqp [sPa 73 ((-1)==(-1)) (((⟨#[110]⟩:ByteArray)).toList==((⟨#[110]⟩:ByteArray)).toList),.m 74 73] ?_
 refine qO 74 [75,76,77] ?_ f7 rfl (fun hq=>?_) fun Jr gZ=>?_
 rotate_left
 refine sqp [.m 75 3] ?_
 refine sqk (vi 1) f7 (fun cx=>⟨_,H2 (CtxV.holdF cx (cx.init 1 _ rfl) rfl),(av (cx.ou 75))⟩) fun RH xY=>?_
 refine sqp [.k 77 (.bool true)] ?_
 exact sqE xY
 refine c7 ?_
 refine sqp [sPa 78 (((-1)==(-1))&&(((⟨#[110]⟩:ByteArray)).toList==((⟨#[110]⟩:ByteArray)).toList)) true,.m 0 78] ?_
 exact aa (wp_ret (bpr (.bool ((((-1)==(-1))&&(((⟨#[110]⟩:ByteArray)).toList==((⟨#[110]⟩:ByteArray)).toList))&&true)) (ag results13 rpt) (Ret.of (by first|rfl|simp) gZ.ext)))
end
section
open Go.RowKit
def bgS:ByteArray:=⟨#[98,101,103,117,110]⟩
end
section
open Go.RowKit
section
variable{sb db:Nat}{L:List RecM}{told:Int->Bool}{p c:Nat}{fp:List Nat}{w:World}{note:ByteArray}
end
theorem MK{x:Int}(h:(Lit.int .u8 x).wf=true):0<=x/\x<=255:=by
 have h1:(decide (IntKind.u8.min<=x)&&decide (x<=IntKind.u8.max))=true:=h
 rw[Bool.and_eq_true,decide_eq_true_eq,decide_eq_true_eq] at h1
 have e1:IntKind.u8.min=0:=by decide
 have e2:IntKind.u8.max=255:=by decide
 rw[e1,e2] at h1
 exact h1
section
variable{sb db:Nat}{told:Int->Bool}{p c:Nat}{fp:List Nat}{w:World}
end
end
section
open Go.RowKit
theorem CtxV.oldAt{ops:Array Oper}{L:List Nat}{a0:Act}{X0:List Ent}{us:List (List Nat)}{D:Nat->(Tmp->Value)->(Tmp->Value)->(Nat->Ent)->Prop}{a:Operand->Value}{b:Tmp->Value}{X:Nat->Ent}{q:Nat}{E:Ent}{xs:List Value}(cx:CtxV ops L a0 w0 bor X0 us D i a b W X)(hX:X q=E)(hu:(atV us i).contains q=true)(hb:bor=[])(hA:At w0 A xs):∀W',Upd E.fp W W'->At W' A xs:=fun W' hU=>by
 subst hb
 exact hA.ext (cx.upd.join hU (fun k hk=>((cx.ok q hu).own k (by rw[hX];exact hk)).1)).to_ext
end
section
open Go.RowKit
structure ActT where
 what:Int
 page:Int
 slot:Int
 item:ByteArray
 QA:Option Addr
 qn:Nat
 qc:Nat
def acC(a:ActT):List Value:=[.int .u8 a.what,.int .i64 a.page,.int .i64 a.slot,.string a.item,.slice a.QA a.qn a.qc]
theorem mp(a:ActT):(acC a).length=5:=rfl
structure ActOk (a:ActT):Prop where
 what:0<=a.what/\a.what<=255
 page: -9223372036854775808<=a.page/\a.page<=9223372036854775807
 slot: -9223372036854775808<=a.slot/\a.slot<=9223372036854775807
 item:a.item.size<=9223372036854775807
 q:(a.qn:Int)<=9223372036854775807
def pgA(a:ActT):Int:=if a.what<128 then (a.page.tmod 5+5) % 5 else a.page
def slA(a:ActT):Int:=(a.slot.tmod 26+26) % 26-1
def it0(a:ActT):ByteArray:=a.item.extract 0 (min (a.item.size:Int) 401).toNat
def itA(a:ActT):ByteArray:=if slA a<0 then strOfNums [((it0 a).size:Int) % 4] else it0 a
def dR(a:ActT):List EdT:=if a.what % 2=1 then [((a.slot.tmod 5+5) % 5,-1,kS (1+a.qn % 2)),(pgA a,slA a,itA a)] else [(pgA a,slA a,itA a)]
theorem yL(a:ActT):(it0 a).size<=401:=by rw[it0,ByteArray.size_extract];omega
theorem G1(a:ActT):(itA a).size<=401:=by
 unfold itA
 split
 rw[strOfNums_size];exact(by decide:1<=401)
 exact yL a
theorem x8(a:ActT):(dR a).length<=2:=by unfold dR;split<;>simp
theorem xi(a:ActT):∀e∈dR a,e.2.2.size<=9223372036854775807:=fun e he=>by
 have h1:=G1 a
 unfold dR at he
 split at he
 rcases List.mem_cons.1 he with rfl|he
 exact(by decide:1<=9223372036854775807)
 rw[List.mem_singleton.1 he];show (itA a).size<= _;omega
 rw[List.mem_singleton.1 he];show (itA a).size<= _;omega
theorem Mq(p:Int)(q:Nat)(w:World):Calls P_ 42 #[.int .i64 p,.int .i64 (1+(q:Int) % 2)] w (Ret (.agg #[.int .i64 p,.int .i64 (-1),.string (kS (1+q % 2))]) w):=by
 have h:=yp p (1+q % 2) w (by omega)
 rw[show ((1+q % 2:Nat):Int)=1+(q:Int) % 2 by omega] at h;exact h
def LB(a:ActT)(w:World)(e:Ending)(w':World):Prop:=∃A c,e= .returned (.slice A (dR a).length c)/\w'.ownsRow w.heap.size 84 3 (.slice A (dR a).length c) (dR a).length ((dR a).flatMap edC)/\Ext w w'
theorem Ce(a:ActT)(w:World)(ha:ActOk a):
  Calls P_ 76 #[.agg #[.int .u8 a.what,.int .i64 a.page,.int .i64 a.slot,.string a.item,.slice a.QA a.qn a.qc]] w (LB a w):=by
 obtain⟨hw,hpg,hsl,hit,hq⟩:=ha
 have Rm:=Int.lt_tmod_of_pos a.page (b:=5) (by decide)
 have Ul:=Int.tmod_lt_of_pos a.page (b:=5) (by decide)
 have ee:=Int.lt_tmod_of_pos a.slot (b:=5) (by decide)
 have hs5b:=Int.tmod_lt_of_pos a.slot (b:=5) (by decide)
 have fk:=Int.lt_tmod_of_pos a.slot (b:=26) (by decide)
 have hs26b:=Int.tmod_lt_of_pos a.slot (b:=26) (by decide)
 go_enter func76,ntmps76
 have aj:=St.start w
 refine wq (sqr ?_)
 refine bX #[.int .u8 a.what,vi a.page,vi a.slot,.string a.item,.slice a.QA a.qn a.qc] aj fun ay W1 ax=>?_
 refine sqp [.k 2 (sn)] ?_
 refine aa (wsq [.k 7 (po ay 1)] ?_)
 refine am 0 ax ?_
 refine sqp [.m 3 8] ?_
 refine aa ?_
 refine mu (fun t_ az W=>∃pg:Int,pg=pgA a/\az=⟨(ovr (jv az) [(3,3,0,[vi pg]),(5,9,8,[])] t_).toArray,[]⟩/\St w [] [eB ay 60 #[.int .u8 a.what,vi a.page,vi a.slot,.string a.item,.slice a.QA a.qn a.qc]] W) ?_ ?_
 refine wsq [.k 9 (vp ay)] ?_
 refine am 0 ax ?_
 refine sqp [.k 11 (.bool (decide (a.what<128)))] ?_
 refine aa (wds (fun kK pU=>?_) fun kK pU=>?_)
 refine sqs [.k 12 (po ay 1)] ?_
 refine am 0 ax ?_
 refine sqp [sRe 14 .i64 a.page 5 (a.page.tmod 5) (rfl),sI 15 ((a.page.tmod 5)+5) (by omega),sRe 16 .i64 (a.page.tmod 5+5) 5 ((a.page.tmod 5+5) % 5) (Int.tmod_eq_emod_of_nonneg (by omega)),.m 3 16] ?_
 refine aa ?_
 exact⟨(a.page.tmod 5+5) % 5,(by rw[pgA,if_pos (by have h_:=kK;simpa using h_)]),(by kernel_rfl),ax.pk [0]⟩
 refine wp_skip (aa ?_)
 exact⟨a.page,(by rw[pgA,if_neg (by have h_:=kK;simpa using h_)]),(by kernel_rfl),ax.pk [0]⟩
 rintro a6 W6 ⟨pg,hpgA,hj_,bJ⟩
 refine ovz hj_ fun U4=>?_
 refine wsq [.k 17 (po ay 2)] ?_
 refine am 0 bJ ?_
 refine sqp [sRe 19 .i64 a.slot 26 (a.slot.tmod 26) (rfl),sI 20 ((a.slot.tmod 26)+26) (by omega),sRe 21 .i64 (a.slot.tmod 26+26) 26 ((a.slot.tmod 26+26) % 26) (Int.tmod_eq_emod_of_nonneg (by omega)),sI 22 (((a.slot.tmod 26+26) % 26)-1) (by omega),.m 4 22] ?_
 refine aa (wsq [.k 23 (po ay 3)] ?_)
 refine am 0 bJ ?_
 refine sqp [.k 25 (po ay 3)] ?_
 refine am 0 bJ ?_
 refine sqp [.k 27 (vi ((a.item.size:Int)))] ?_
 refine sql (vi (min (a.item.size:Int) 401)) bJ (fun cx=>jA rfl (cx.ou 27) (cx.co _) (rfl)) ?_
 refine sql (.string (a.item.extract 0 ((min (a.item.size:Int) 401).toNat))) bJ (fun cx=>gJ (l:=(min (a.item.size:Int) 401).toNat) rfl (by kernel_rfl) (cx.ou 24) (cx.ou 28) (by omega) (by omega)) ?_
 refine sqp [.m 5 29] ?_
 refine aa ?_
 refine mu (fun t_ az W=>∃it:ByteArray,it=itA a/\az=⟨(ovr (jv az) [(5,5,0,[.string it]),(24,30,8,[])] t_).toArray,[]⟩/\St w [] [eB ay 60 #[.int .u8 a.what,vi a.page,vi a.slot,.string a.item,.slice a.QA a.qn a.qc]] W) ?_ ?_
 refine wq ?_
 obtain⟨s0,P5⟩:∃z,a.item.extract 0 ((min (a.item.size:Int) 401).toNat)=z:=⟨_,rfl⟩
 have hs0a:it0 a=s0:=P5
 have hs0z:s0.size<=401:=hs0a ▸ yL a
 simp only[P5]
 refine sqs [.m 30 4,.k 31 (.bool (decide ((a.slot.tmod 26+26) % 26-1<0)))] ?_
 refine aa (wds (fun tN vL=>?_) fun tN vL=>?_)
 refine sqs [.m 32 5,.k 33 (vi ((s0.size:Int))),sRe 34 .i64 (s0.size:Int) 4 ((s0.size:Int) % 4) (Int.tmod_eq_emod_of_nonneg (by omega)),sW 35 .u8 ((s0.size:Int) % 4) ((s0.size:Int) % 4) (IntWalk.u8_in _ (by omega))] ?_
 refine d9 (fun x_=>sA x_) (fun vP=> .slice vP 1 1) (fun vP=>eO 5 1 (.slice vP 1 1) 1 ([.int .u8 ((s0.size:Int) % 4)])) bJ (by
   refine svA fun d g W X cx=>?_
   have I1:d (.tmp 35)= .int .u8 ((s0.size:Int) % 4):=(cx.ou 35)
   exact dA (e:=5) (xs:=[.int .u8 ((s0.size:Int) % 4)]) rfl (by simp[go_sem,I1]) rfl (by decide) rfl rfl (fun _ _ _ _ _=> .intro)) fun vP xC d7=>?_
 refine sql (.string (strOfNums ([((s0.size:Int) % 4)]))) d7 (fun cx=>k8 (e:=5) rfl (by kernel_rfl) (by kernel_rfl) (by kernel_rfl) (cx.ou 36) (cx.ri 1 rfl)) ?_
 refine sqp [.m 5 37] ?_
 refine aa ?_
 exact⟨strOfNums ([((s0.size:Int) % 4)]),(by rw[itA,if_pos (by have h_:=tN;simpa[slA] using h_),hs0a]),(by kernel_rfl),d7.pk [0]⟩
 refine wp_skip (aa ?_)
 exact⟨s0,(by rw[itA,if_neg (by have h_:=tN;simpa[slA] using h_),hs0a]),(by kernel_rfl),bJ.pk [0]⟩
 rintro a32 zK ⟨it,hitA,hj_,dc⟩
 refine ovz hj_ fun IF=>?_
 refine wsq [.m 38 3,.m 39 4,.m 40 5,.k 41 (.agg #[vi pg,vi ((a.slot.tmod 26+26) % 26-1),.string it])] ?_
 refine mX 84 3 1 [vi pg,vi ((a.slot.tmod 26+26) % 26-1),.string it] dc (@fun d g W X cx=>by have zO:d (.tmp 41)= .agg #[vi pg,vi ((a.slot.tmod 26+26) % 26-1),.string it]:=(cx.ou 41);simp[go_sem,zO]) fun Ob MP gp=>?_
 refine sqp [.m 6 42] ?_
 refine aa (wq (wsq [.k 43 (vp ay)] ?_))
 refine am 0 gp ?_
 refine sqp [sRe 45 .u8 a.what 2 (a.what % 2) (Int.tmod_eq_emod_of_nonneg (by omega)),.k 46 (.bool ((a.what % 2)==1))] ?_
 refine aa (wbs (fun AC=>?_) fun AC=>?_)
 have PH:=beq_iff_eq.1 AC
 refine sqs [.k 47 (po ay 2)] ?_
 refine am 0 gp ?_
 refine sqp [sRe 49 .i64 a.slot 5 (a.slot.tmod 5) (rfl),sI 50 ((a.slot.tmod 5)+5) (by omega),sRe 51 .i64 (a.slot.tmod 5+5) 5 ((a.slot.tmod 5+5) % 5) (Int.tmod_eq_emod_of_nonneg (by omega)),.k 52 (po ay 4)] ?_
 refine am 0 gp ?_
 refine sqp [.k 54 (vi ((a.qn:Int))),sRe 55 .i64 (a.qn:Int) 2 ((a.qn:Int) % 2) (Int.tmod_eq_emod_of_nonneg (by omega)),sI 56 (1+((a.qn:Int) % 2)) (by omega)] ?_
 refine sqk (.agg #[vi ((a.slot.tmod 5+5) % 5),vi ((-1)),.string ((kS (1+a.qn % 2)))]) gp (fun cx=>⟨_,Mq ((a.slot.tmod 5+5) % 5) a.qn _,(aN (cx.ou 51) (cx.ou 56))⟩) fun JD gG=>?_
 refine mX 84 3 1 [vi ((a.slot.tmod 5+5) % 5),vi ((-1)),.string ((kS (1+a.qn % 2)))] gG (@fun d g W X cx=>by have Q7:d (.tmp 57)= .agg #[vi ((a.slot.tmod 5+5) % 5),vi ((-1)),.string ((kS (1+a.qn % 2)))]:=(cx.ou 57);simp[go_sem,Q7]) fun SB PX r6=>?_
 refine sqp [.m 59 6] ?_
 refine v8 2 (([((a.slot.tmod 5+5) % 5,(-1:Int),kS (1+a.qn % 2)),(pg,slA a,it)]:List EdT).flatMap edC) 2 r6 Tryz.infoEdJ (fun cx=>(At.of_ownN (cx.ri 1 rfl))) (jJ:=(by rfl)) fun Oc Od P4 pS=>?_
 refine sqp [.m 6 60] ?_
 refine aa (wsq [.m 61 6,.m 2 61] ?_)
 refine aa (wp_ret ?_)
 refine bpr (.slice Oc 2 Od) (ag results76 rpt) ?_
 have hE_:dR a=([((a.slot.tmod 5+5) % 5,(-1:Int),kS (1+a.qn % 2)),(pg,slA a,it)]:List EdT):=by rw[dR,if_pos (by have h_:=AC;simpa using h_),<-hpgA,<-hitA]
 exact⟨_,_,by rw[hE_];rfl,by rw[hE_];exact pS.own' 2 rfl,pS.ext⟩
 have PH:=beq_eq_false_iff_ne.1 AC
 refine wp_skip (aa (wsq [.m 61 6,.m 2 61] ?_))
 refine aa (wp_ret ?_)
 refine bpr (.slice ((some ⟨Ob,0,none⟩)) 1 1) (ag results76 rpt) ?_
 have hE_:dR a=([(pg,slA a,it)]:List EdT):=by rw[dR,if_neg (by have h_:=AC;simpa using h_),<-hpgA,<-hitA]
 exact⟨_,_,by rw[hE_];rfl,by rw[hE_];exact gp.own' 1 rfl,gp.ext⟩
end
section
open Go.RowKit
def wdL(xb:Nat)(bufs safe:Int)(db sb rb:Nat)(L:List RecM)(told:Int->Bool)(c:Nat)(fps fpr:List Nat):List Ent:=[eB xb 34 #[vp db,vp sb,vp rb,vi bufs,vi safe],eNi sb db L told 5 c fps,eRf rb L told 5 fpr]
def eWd(xb:Nat)(bufs:Int)(L:List RecM)(told:Int->Bool)(c:Nat)(fp:List Nat):Ent:=⟨fp,fun W=>∃safe db sb rb fps fpr,fp=(wdL xb bufs safe db sb rb L told c fps fpr).flatMap (·.fp)/\(wdL xb bufs safe db sb rb L told c fps fpr).Pairwise Ent.apart/\∀e∈wdL xb bufs safe db sb rb L told c fps fpr,e.holds W/\e.loc⟩
theorem vX(xb:Nat)(bufs:Int)(L:List RecM)(told:Int->Bool)(c:Nat)(fp:List Nat):(eWd xb bufs L told c fp).loc:=fun W W' hk h=>by
 obtain⟨safe,db,sb,rb,fps,fpr,h1,h2,h3⟩:=h
 exact⟨safe,db,sb,rb,fps,fpr,h1,h2,fun e he=>⟨(h3 e he).2 W W' (fun k hk'=>hk k (by rw[eWd,h1];exact List.mem_flatMap.2 ⟨e,he,hk'⟩)) (h3 e he).1,(h3 e he).2⟩⟩
theorem th{e:Ent}{xb:Nat}(h:e=eWd xb bufs L told c fp):e=eWd xb bufs L told c e.fp:=by subst h;rfl
section
variable{w0 W:World}{bor:List Nat}{R:List Ent}{xb:Nat}{bufs safe:Int}{db sb rb:Nat}{L:List RecM}{told:Int->Bool}{c:Nat}{fp fps fpr:List Nat}
theorem St.unwd(h:St w0 bor (eWd xb bufs L told c fp::R) W):∃safe db sb rb fps fpr,St w0 bor (eB xb 34 #[vp db,vp sb,vp rb,vi bufs,vi safe]::eNi sb db L told 5 c fps::eRf rb L told 5 fpr::R) W:=by
 obtain⟨safe,db,sb,rb,fps,fpr,h1,h2,h3⟩:=(h.ok (eWd xb bufs L told c fp) (by simp)).holds
 exact⟨safe,db,sb,rb,fps,fpr,((h.perm (List.perm_append_singleton _ R).symm).unpackL h1 h3 h2).perm List.perm_append_comm⟩
theorem St.wd(h:St w0 bor (eB xb 34 #[vp db,vp sb,vp rb,vi bufs,vi safe]::eNi sb db L told 5 c fps::eRf rb L told 5 fpr::R) W):∃fp,St w0 bor (eWd xb bufs L told c fp::R) W:=by
 have h':St w0 bor (R++wdL xb bufs safe db sb rb L told c fps fpr) W:=h.perm (List.perm_append_comm (l₁:=[_,_,_]))
 have h4:=St.pack (E:=eWd xb bufs L told c ((wdL xb bufs safe db sb rb L told c fps fpr).flatMap (·.fp))) h' rfl ⟨safe,db,sb,rb,fps,fpr,rfl,(List.pairwise_append.1 h'.apart).2.1,fun e he=>⟨(h'.ok e (List.mem_append_right _ he)).holds,(h'.ok e (List.mem_append_right _ he)).loc⟩⟩ (vX _ _ _ _ _ _)
 exact⟨_,h4.perm (List.perm_append_singleton _ _)⟩
end
theorem Hv{p c2:Nat}(h:(eNi sb db L told p c fp).holds W)(hc:c<=c2):(eNi sb db L told p c2 fp).holds W:=let ⟨S,a,b⟩:=h;⟨S,NiceX.mono a hc,b⟩
theorem St.wdm{R:List Ent}{xb:Nat}{c2:Nat}{fp:List Nat}(h:St w0 bor (eWd xb bufs L told c fp::R) W)(hc:c<=c2):∃fp,St w0 bor (eWd xb bufs L told c2 fp::R) W:=by
 obtain⟨safe,db,sb,rb,fps,fpr,h1⟩:=h.unwd
 have h2:=St.repl (L1:=[eB xb 34 #[vp db,vp sb,vp rb,vi bufs,vi safe]]) (E':=eNi sb db L told 5 c2 fps) h1 rfl (fun h=>Hv h hc) (KO _ _ _ _ _ _ _)
 exact St.wd h2
theorem mo{p:Nat}(hB:(eNi sb db L told p c fp).holds w):Calls P_ 59 #[po db 0] w (Ret (.bool true) w):=by
 obtain⟨S,h,mb,RA,rc,EA,ec,ib,tb,hs⟩:=zr hB
 have h1:=mj db S.D w hs.dk
 rw[h.on] at h1;exact h1
theorem Oq{L:List RecM}{p:Nat}(hB:(eNi sb db L told p c fp).holds w):(∀r∈L,bt r=true)/\szF L<=1048576:=by
 obtain⟨S,h,_⟩:=hB
 have e:=h.ok.log
 have z:=h.ok.lsz
 rw[e,cj,h.eL] at z
 exact⟨fun r hr=>h.ok.recs r (h.eL ▸ hr),z⟩
def ntA(a:ActT):ByteArray:=a.item.extract 0 (min (a.item.size:Int) 50).toNat
theorem yk(a:ActT):(ntA a).size<=50:=by rw[ntA,ByteArray.size_extract];omega
def b9(a:ActT):RecM:=⟨1,a.page % 128,0,dR a,⟨#[]⟩⟩
noncomputable def dU(s:List RecM×(Int->Bool))(a:ActT):List RecM×(Int->Bool):=
 if a.what % 10<=3 then ((rfD 5 s.1 s.2 (b9 a)).1,(rfD 5 s.1 s.2 (b9 a)).2.2.2) else if a.what % 10=4 then (s.1,frT 5 s.1 s.2) else if a.what % 10<=6 then s else (ckL s.1 (ntA a),s.2)
theorem Cl(xb:Nat)(bufs:Int)(w:World)(hB:(eB xb 34 #[.pointer none,.pointer none,.pointer none,.int .i64 0,.int .i64 0]).holds w)(hlt:xb<w.heap.size)(hb:1<=bufs/\bufs<=64):
  Calls P_ 14 #[po xb 0,.int .i64 bufs] w ((fun e w2=>e= .returned (.bool true)/\∃fp2,St w [xb] [eWd xb bufs [au bgS] (fun _=>false) 0 fp2] w2)):=by
 have st1:St w [xb] [eB xb 34 #[.pointer none,.pointer none,.pointer none,.int .i64 0,.int .i64 0]] w:=St.lend hB (dW _ _ _) (fun k hk=>by rw[List.mem_singleton.1 hk];exact hlt)
 go_enter func14,ntmps14
 have aj:=st1
 refine wsq [.k 4 (.bool false)] ?_
 refine aa (wsq [.m 8 0] ?_)
 refine C4 (fun iU=>vp iU) (fun iU Jc=>eDk iU (kz 5) Jc) aj (fun cx=>⟨_,(yf 5 _ (by decide)).mono (by rintro e W1 ⟨b4,rfl,fp4,aM⟩;exact⟨_,_,rfl,aM⟩),(av (cx.co _))⟩) fun iU Jc W3 aU=>?_
 refine sqp [.k 10 (vp xb),.k 11 (vp xb)] ?_
 refine aT (n:=1) 0 #[vp iU,.pointer none,.pointer none,vi 0,vi 0] aU fun W6 bJ=>?_
 refine aa (wsq [.m 12 0,.m 13 1,.k 14 (vp xb),.k 15 (po xb 3)] ?_)
 refine aT (n:=1) 0 #[vp iU,.pointer none,.pointer none,vi bufs,vi 0] bJ fun FK fY=>?_
 refine aa (wsq [.m 16 0,.k 17 (vp xb),.k 18 (vp xb)] ?_)
 refine am 0 fY ?_
 refine bF (fun X_=>X_.fp) (vi 0) (fun DB=>eDk iU (bgD 5 (⟨#[98,101,103,117,110]⟩:ByteArray)) DB) 1 fY (by
   refine svA fun a b W X cx=>?_
   refine ak.call (rCF (args:=#[vp iU,.string ⟨#[98,101,103,117,110]⟩]) cx.sees (aN (cx.ou 19) (cx.co _))) ?_
   refine(so 5 (⟨#[98,101,103,117,110]⟩:ByteArray) (CtxV.holdF cx (cx.init 1 _ rfl) rfl) (CtxV.ltF cx (cx.init 1 _ rfl) rfl) (by decide)).mono ?_
   rintro e W1 ⟨rfl,fp4,aM⟩
   refine⟨_,rfl,aI (E:=eDk iU (kz 5) Jc) [eDk iU (bgD 5 (⟨#[98,101,103,117,110]⟩:ByteArray)) fp4] (cx.init 1 _ rfl) rfl rfl aM (fun g d X' hs hb hv hN=>?_)⟩
   have aH:=(hv 20 rfl).1;have aO:=(hv 20 rfl).2
   exact⟨aH.trans rfl,cF ((List.cons.inj hN).1)⟩) fun DB p5 dl=>?_
 refine sqp [.m 5 20] ?_
 refine aa (wsq [.m 22 0,.k 23 (vp xb),.k 24 (vp xb)] ?_)
 refine am 0 dl ?_
 refine sqp [.m 26 1] ?_
 refine nv (fun x_=>pb (tg x_ 0)) (fun X_=>X_.fp) (fun ko=> .tuple #[vp ko,vi 0]) (fun ko vJ=>eNi ko iU ([au (⟨#[98,101,103,117,110]⟩:ByteArray)]) (fun _=>false) 5 0 vJ) 1 dl (by
   refine svA fun a b W X cx=>?_
   refine ak.call (rCF (args:=#[vp iU,vi bufs]) cx.sees (aN (cx.ou 25) (cx.ou 26))) ?_
   refine(wS 5 (⟨#[98,101,103,117,110]⟩:ByteArray) bufs (CtxV.holdF cx (cx.init 1 _ rfl) rfl) (CtxV.ltF cx (cx.init 1 _ rfl) rfl) (by decide) (by decide) hb).mono ?_
   rintro e W1 ⟨sb4,rfl,fp4,aM⟩
   refine⟨_,rfl,aI (E:=eDk iU (bgD 5 (⟨#[98,101,103,117,110]⟩:ByteArray)) DB) [eNi sb4 iU [au (⟨#[98,101,103,117,110]⟩:ByteArray)] (fun _=>false) 5 0 fp4] (cx.init 1 _ rfl) rfl rfl aM (fun g d X' hs hb hv hN=>?_)⟩
   have aH:=(hv 27 rfl).1;have aO:=(hv 27 rfl).2
   exact⟨aH.trans (by rw[aO];exact rfl),(by rw[aO];exact eR ((List.cons.inj hN).1))⟩) fun ko vJ sE cu=>?_
 refine sqp [.m 21 27,.k 28 (vp ko),.k 29 (vi 0),.m 6 28,.m 7 29] ?_
 refine aa (wsq [.m 30 0,.m 31 6,.k 32 (vp xb),.k 33 (po xb 1)] ?_)
 refine aT (n:=1) 0 #[vp iU,vp ko,.pointer none,vi bufs,vi 0] cu fun PO rY=>?_
 refine aa (wsq [.m 34 0] ?_)
 refine C4 (fun oP=>vp oP) (fun oP JI=>eRf oP ([au bgS]) (fun _=>false) 5 JI) rY (fun cx=>⟨_,(CB bgS _ (by decide)).mono (by rintro e W1 ⟨b4,rfl,fp4,aM⟩;exact⟨_,_,rfl,aM⟩),(aN (cx.co _) (cx.co _))⟩) fun oP JI zH em=>?_
 refine sqp [.k 36 (vp xb),.k 37 (po xb 2)] ?_
 refine aT (n:=1) 0 #[vp iU,vp ko,vp oP,vi bufs,vi 0] em fun FP iC=>?_
 refine aa (wsq [.m 38 0,.k 39 (vp xb),.k 40 (po xb 4)] ?_)
 refine aT (n:=1) 0 #[vp iU,vp ko,vp oP,vi bufs,vi 1] iC fun uX fu=>?_
 refine aa (wsq [.m 41 5,.k 42 (.bool true),.k 43 (.bool true)] ?_)
 refine de 43 [44,45] rfl rfl ?_
 refine sqp [.m 44 7,.k 45 (.bool true)] ?_
 refine sqp [.k 46 (.bool true),.k 47 (.bool true)] ?_
 refine de 47 [48,49] rfl rfl ?_
 refine sqp [.m 48 6] ?_
 refine sqv (.bool true) fu (by
   exact sv0 rfl rfl rfl rfl rfl (fun _ _ _ h=>h) fun a b W X cx=>by
    have IM:a (.tmp 48)=vp ko:=(cx.ou 48)
    simp[go_sem,cx.sees.const,IM]) fun Jm kU=>?_
 refine sqp [.k 50 (.bool true),.k 4 (.bool true)] ?_
 refine aa (wp_ret ?_)
 refine bpr (.bool true) (ag results14 rpt) ?_
 obtain⟨fw54_,hw54_⟩:=St.wd kU
 exact⟨rfl,_,hw54_⟩
end
end Go.Proofs.YtcdjaepgahbhfaaGreat
import Derived.Test.YtcdjaepgahbhfaaGreatZ2
import Derived.Maps.OwnSet
import Derived.Maps.Views
import Derived.Carry
import Derived.StringKeys
import Derived.Maps.RangeWalk
import Derived.Laws.IdiomRangeMap
import Derived.Laws.RangeString
import Derived.Recover
set_option linter.unusedVariables false
set_option linter.unusedSimpArgs false
set_option maxRecDepth 100000
set_option maxHeartbeats 16000000
namespace Go.Proofs.YtcdjaepgahbhfaaGreat
variable{D:Nat->(Tmp->Value)->(Tmp->Value)->(Nat->Ent)->Prop}{E:Ent}{GA PA:Option Addr}{L X0:List Ent}{Pc b d gc i j k m n p q q':Nat}{W W' w w' w0:World}{X:Nat->Ent}{a:ByteArray}{a0:Act}{args:Array Value}{bor fp:List Nat}{e:EdT}{e':Ending}{er sl:Int}{f:FuncId}{l:List EdT}{ops:Array Oper}{ss:List ByteArray}{us:List (List Nat)}{v:Value}{x y z:Operand}{β:Tmp->Value}{ρ:Operand->Value}
section
open Go.RowKit
theorem v6:(⟨#[]⟩:ByteArray).toList=[]:=by rw[ByteArray.toList_eq]
theorem JA(h0:0<k)(he:((ss.getD (k-1) ByteArray.empty).toList==(⟨#[]⟩:ByteArray).toList)=true):fW ss (k-1)=fW ss k:=by
 obtain⟨j,rfl⟩:∃j,k=j+1:=⟨k-1,by omega⟩
 rw[ja,Nat.add_sub_cancel,if_pos]
 have h1:=eq_of_beq he
 rw[Nat.add_sub_cancel] at h1
 rw[h1,v6];rfl
theorem Js(he:(decide (0<(k:Int))&&((ss.getD (k-1) ByteArray.empty).toList==(⟨#[]⟩:ByteArray).toList))=false):fW ss k=k:=by
 cases k with
 |zero=>rfl
 |succ j=>
  rw[decide_eq_true (by omega),Bool.true_and,Nat.add_sub_cancel] at he
  rw[ja,if_neg]
  intro h2
  rw[List.isEmpty_iff.1 h2] at he
  rw[v6] at he;exact absurd he (by decide)
theorem At.take_mapS{A:Option Addr}{ls:List ByteArray}(h:At w A (ls.map Value.string))(m:Nat):At w A ((ls.take m).map Value.string):=by rw[List.map_take];exact h.take m
theorem BC(h:i<ss.length):aO (ss.take (i+1))=aO (ss.take i)+(2+(ss.getD i ByteArray.empty).size):=by rw[nv ss i h,List.getD_eq_getElem?_getD,List.getElem?_eq_getElem h];rfl
theorem EG(h:dP ss)(i:Nat):(ss.getD i ByteArray.empty).size<=1000000:=by
 rw[List.getD_eq_getElem?_getD]
 rcases e:ss[i]? with _|s
 exact Nat.zero_le _
 exact h.2 s (List.mem_of_getElem? e)
theorem Du{ss:List ByteArray}(h:∀s∈ss,s.size<=400)(i:Nat):(ss.getD i ByteArray.empty).size<=400:=by
 rw[List.getD_eq_getElem?_getD]
 rcases e:ss[i]? with _|s
 exact Nat.zero_le _
 exact h s (List.mem_of_getElem? e)
theorem rV(ss:List ByteArray):cK (af ss)=cK ss:=by rw[cK,cK,pf]
theorem Cs(ss:List ByteArray):ss.take (af ss).length=af ss:=by rw[cu];rfl
def fT(p:PgS)(er:Int)(w:World)(e:Ending)(w':World):Prop:=∃A c,e= .returned (.agg #[.int .i64 p.1,.int .i64 p.2.1,.slice A p.2.2.length c,.int .i64 er])/\w'.ownsRow w.heap.size 9 1 (.slice A p.2.2.length c) p.2.2.length (p.2.2.map Value.string)/\Ext w w'
def o0(p:PgS)(w:World)(e:Ending)(w':World):Prop:=∃A c,e= .returned (.agg #[.int .i64 p.1,.int .i64 p.2.1,.slice A p.2.2.length c])/\w'.ownsRow w.heap.size 9 1 (.slice A p.2.2.length c) p.2.2.length (p.2.2.map Value.string)/\Ext w w'
theorem fT.zero(h:Ext w w'):fT bu er w (.returned (.agg #[.int .i64 0,.int .i64 0,sn,.int .i64 er])) w':=⟨none,0,rfl,World.ownsRow_nil _ _ _ _,h⟩
def eC(p:PgS)(e:EdT)(n:Int)(w:World):Ending->World->Prop:=if doE p e n=0 then fT (doV p e n) 0 w else fT bu (doE p e n) w
theorem eC.bad{p:PgS}{n:Int}(h:doE p e n=er)(h0:er≠0)(hp:fT bu er w e' w'):eC p e n w e' w':=by
 subst h;rw[eC,if_neg h0];exact hp
theorem eC.good{p:PgS}{n:Int}{q:PgS}(h:doE p e n=0)(hq:doV p e n=q)(hp:fT q 0 w e' w'):eC p e n w e' w':=by
 subst hq;rw[eC,if_pos h];exact hp
def kc(p:PgS)(sl:Int)(s:ByteArray)(w:World):Ending->World->Prop:=if di p.1 p.2.1 p.2.2 sl s=0 then fT (p.1,p.2.1,af (ba p.2.2 sl.toNat s)) 0 w else fT bu (di p.1 p.2.1 p.2.2 sl s) w
theorem kc.bad{p:PgS}{s:ByteArray}(h:di p.1 p.2.1 p.2.2 sl s=er)(h0:er≠0)(hp:fT bu er w e' w'):kc p sl s w e' w':=by
 subst h;rw[kc,if_neg h0];exact hp
theorem kc.good{k l:Int}{s:ByteArray}(h:di k l ss (m:Int) s=0)(hp:fT (k,l,af (ba ss m s)) 0 w e' w'):kc (k,l,ss) (m:Int) s w e' w':=by
 rw[kc,if_pos h,Int.toNat_natCast];exact hp
theorem GI{p:PgS}{s:ByteArray}(he:di p.1 p.2.1 p.2.2 sl s=0)(hc:Calls Tryz.prog f args w (kc p sl s w)):Calls Tryz.prog f args w (fT (p.1,p.2.1,af (ba p.2.2 sl.toNat s)) 0 w):=by
 rw[kc,if_pos he] at hc;exact hc
theorem He{p:PgS}{s:ByteArray}(he:di p.1 p.2.1 p.2.2 sl s=er)(h0:er≠0)(hc:Calls Tryz.prog f args w (kc p sl s w)):Calls Tryz.prog f args w (fT bu er w):=by
 subst he;rw[kc,if_neg h0] at hc;exact hc
theorem j7(k l:Int)(A:Option Addr)(c:Nat)(ss:List ByteArray)(w:World)(hA:At w A (ss.map Value.string))(hl:ss.length<=100000)(hc:ss.length<=c):
  Calls Tryz.prog 93 #[.agg #[.int .i64 k,.int .i64 l,.slice A ss.length c]] w (o0 (k,l,af ss) w):=by
 go_enter Tryz.func93,Tryz.ntmps93
 have al:=St.start w
 refine wq (sqr ?_)
 refine ce #[vi k,vi l,.slice A ss.length c] al fun aB W1 aA=>?_
 refine bY #[vi 0,vi 0,sn] aA fun kH W2 bQ=>?_
 refine aa (wq (sqr (sqp [.k 4 (po aB 2)] ?_)))
 refine av 0 bQ ?_
 refine sqp [.k 6 (vi ((ss.length:Int))),.m 3 6] ?_
 refine aa (wq (wp_block ?_))
 refine aT (fun t_ mz az W=>∃k1:Nat,k1<=ss.length/\fW ss k1=fW ss ss.length/\mz=k1+1/\az=⟨(ovr (jv az) [(3,3,0,[vi ((k1:Int))]),(3,7,13,[])] t_).toArray,[]⟩/\St w [] [eB aB 48 #[vi k,vi l,.slice A ss.length c],eB kH 48 #[vi 0,vi 0,sn]] W) (ss.length+1) ?_ ?_
 exact⟨ss.length,Nat.le_refl _,rfl,rfl,(by kernel_rfl),bQ.pk [0,1]⟩
 rintro n7 a7 W7 ⟨k1,hk,ht,rfl,hj_,aZ⟩
 refine ovz hj_ fun Fk=>?_
 refine wq (wq (sqr (sqp [.m 7 3,.k 8 (.bool (decide (0<(k1:Int)))),.m 9 8] ?_)))
 refine d6 9 [10,11,12,13,14,15,16] ?_ rfl (fun hq=>?_) ?_
 rotate_left
 have hq_:=of_decide_eq_true hq
 refine sqp [.k 10 (po aB 2)] ?_
 refine av 0 aZ ?_
 refine sqp [.m 12 3,sI 13 ((k1:Int)-1) (by omega)] ?_
 refine sql (.pointer (some ((ad A).add ((k1-1))))) aZ (fun cx=>bS (e:=9) (m:=(k1-1)) rfl (by kernel_rfl) (by kernel_rfl) (cx.ou 11) (cx.ou 13) (by omega) (by omega) (hA.ext cx.upd.to_ext) (by simp)) ?_
 refine sql (.string (ss.getD (k1-1) ByteArray.empty)) aZ (fun cx=>ae rfl (by kernel_rfl) (cx.ou 14) (At.cellAd (hA.ext cx.upd.to_ext) (mH (by omega)))) ?_
 refine sqp [.k 16 (.bool ((ss.getD (k1-1) ByteArray.empty).toList==((⟨#[]⟩:ByteArray)).toList))] ?_
 exact sqe
 refine c8 ?_
 refine sqp [sPa 17 (decide (0<(k1:Int))) ((ss.getD (k1-1) ByteArray.empty).toList==((⟨#[]⟩:ByteArray)).toList)] ?_
 refine aa (wbs (fun kd=>?_) fun kd=>?_)
 have ke:=kd
 simp only[zB] at ke
 obtain⟨LO,LP⟩:=ke
 refine wp_skip (aa (wp_block (sqr (sqp [.m 18 3,sI 19 ((k1:Int)-1) (by omega),.m 3 19] ?_))))
 refine aw (aa ?_)
 rw[show ((k1:Int)-1)=((k1-1:Nat):Int) by omega]
 refine⟨((k1-1))+1,by omega,?_⟩
 exact⟨(k1-1),by omega,(JA (by omega) (by assumption)).trans ht,rfl,(by kernel_rfl),aZ.pk [0,1]⟩
 have ke:=kd
 simp only[zB] at ke
 refine wp_exit (au (au (bh (aa (wq ?_)))))
 obtain rfl:k1=(af ss).length:=by rw[cu,<-ht,Js kd]
 refine aH [0,1,0,4,0,0,32,0,224,496,1023,2047] [[],[0],[],[0],[],[],[0],[],[],[2],[],[1]] [[],[],[],[],[2],[],[],[],[],[3],[],[4]] [[],[],[],[],[],[],[],[],[],[2],[],[1]] [.k 20 (vp aB),.c 21 (vi k),.k 22 (po aB 1),.c 23 (vi l),.a 24,.k 25 (po aB 2),.c 26 (.slice A ss.length c),.k 27 (vi (((af ss).length:Int))),.c 28 (.slice A (((af ss).length)) c),.a 29,.a 30,.n] (fun ix g β X=>match ix with|0|1|2|3=>True|4=>g 24= .slice (sA (β 24)) 0 0/\X 2=eO 9 1 (.slice (sA (β 24)) 0 0) 0 ([])|5|6|7|8=>True|9=>g 29= .slice (sA (β 29)) (((af ss).length)) (sC (β 29))/\X 3=eO 9 1 (.slice (sA (β 29)) (((af ss).length)) (sC (β 29))) (((af ss).length)) ((af ss).map Value.string)|10=>g 30= .agg #[vi k,vi l,.slice (sA (β 29)) (((af ss).length)) (sC (β 29))]|11=>X 4=eB kH 48 #[vi k,vi l,.slice (sA (β 29)) (((af ss).length)) (sC (β 29))]|_=>True) [0,3,4] [1,3,4,6,8,9,10,11] [(20,0,11,31)] aZ ?_ ?_ ?_
 exact fun ix _ _ _ _ _ _ hs hb hx h=>match ix,h with
 |4,h=>by dsimp only;rw[<-hs 24 rfl,<-hb 24 rfl,<-hx 2 rfl];exact h
 |9,h=>by dsimp only;rw[<-hs 29 rfl,<-hb 29 rfl,<-hx 3 rfl];exact h
 |10,h=>by dsimp only;rw[<-hs 30 rfl,<-hb 29 rfl];exact h
 |11,h=>by dsimp only;rw[<-hb 29 rfl,<-hx 4 rfl];exact h
 |0,_|1,_|2,_|3,_|5,_|6,_|7,_|8,_|_+12,_=>trivial
 refine⟨?_,?_,?_,?_,?_,?_,?_,?_,trivial⟩
 exact xs4 rfl id fun cx=>ae rfl (by kernel_rfl) (cx.an 0) ((cx.bi 0 rfl).cell 0)
 exact xs4 rfl id fun cx=>ae rfl (by kernel_rfl) (cx.an 2) ((cx.bi 0 rfl).cell 1)
 refine svA fun ρ β W X cx=>?_
 exact du (e:=9) (xs:=[]) rfl (by simp[go_sem]) rfl (by decide) rfl rfl (fun _ _ _ _ _=> .intro)
 exact xs4 rfl id fun cx=>ae rfl (by kernel_rfl) (cx.an 5) ((cx.bi 0 rfl).cell 2)
 exact xs4 rfl id fun cx=>pP (e:=9) (sz:=1) (m:=((af ss).length)) rfl (by kernel_rfl) (by kernel_rfl) (cx.an 6) (cx.an 7) (by omega) (by omega)
 refine svA fun ρ β W X cx=>?_
 obtain⟨i0,hi0,hz0,hz1,hz2⟩:=info_parts Tryz.infoStr
 refine eH (n:=0) (m:=((af ss).length)) (nm:=((af ss).length)) (xs:=[]) (news:=(ss.take ((af ss).length)).map Value.string) (xs':=(af ss).map Value.string) rfl (ty:=46) rfl (by kernel_rfl) hi0 hz0 hz1 hz2 rfl (dTn (cx.an 4)).1 cx (dTn (cx.an 4)).2 rfl (cx.an 8) (by first|(simp;done)|(simp;omega)) (At.take_mapS (hA.ext cx.upd.to_ext) ((af ss).length)) (vA _) (by simp only[maxLen];omega) (by omega) rfl rfl rfl (by omega) ((by rw[List.nil_append,Cs])) (fun g o X' hs hb hv hx=>?_)
 exact⟨hv,hx⟩
 exact sv rfl rfl rfl rfl rfl _ (fun _ _ _ h=>h) (fun β o h=>by rw[h 29 (by decide)]) fun ρ β W X cx=>jX rfl (pmc (cx.an 1) (pmc (cx.an 3) (pmc (dTn (cx.an 9)).1 pmn))) (by kernel_rfl)
 refine svA fun ρ β W X cx=>?_
 exact bx (n:=3) rfl (cx.ou 2) (dTn (cx.an 10)) (by kernel_rfl) (by kernel_rfl) (by kernel_rfl) cx (cx.init 1 _ rfl) rfl (nle rfl) (by kernel_rfl) rfl rfl rfl (fun g o X' hs hb hx=>by rw[hb 29];exact hx)
 intro g β X uF hD cG fr aG
 simp only[exq 3 ((dTn (hD 9 lq)).2),exq 4 ((dTn (hD 11 lq)))] at cG
 simp only[ed 24 ((dTn (hD 4 lq)).1),ed 29 ((dTn (hD 9 lq)).1),ed 30 ((dTn (hD 10 lq)))] at aG
 generalize sA (β 24)=Qm,sA (β 29)=L8,sC (β 29)=L9 at cG aG
 clear hD;subst aG;clear g β X
 refine aa (wp_ret ?_)
 refine bpr (.agg #[vi k,vi l,.slice L8 (((af ss).length)) L9]) (bA (n:=3) Tryz.results93 rfl (by kernel_rfl) (by kernel_rfl) (cG.blk 2 rfl) rfl) ?_
 exact⟨_,_,rfl,cG.own' 1 rfl,cG.ext⟩
theorem wV(k l:Int)(A:Option Addr)(c:Nat)(ss:List ByteArray)(w:World)(hA:At w A (ss.map Value.string))(hS:dP ss)(hc:ss.length<=c):
  Calls Tryz.prog 172 #[.agg #[.int .i64 k,.int .i64 l,.slice A ss.length c]] w (Ret (.int .i64 (cK ss:Int)) w):=by
 go_enter Tryz.func172,Tryz.ntmps172
 have al:=St.start w
 refine wq (sqr ?_)
 refine ce #[vi k,vi l,.slice A ss.length c] al fun aB W1 aA=>?_
 refine sqp [.k 2 (vi 0)] ?_
 refine aa (wq (sqr (sqp [.k 3 (vi 14)] ?_)))
 refine aa (wq (sqr ?_))
 refine bE 0 3 aA ?_
 refine iC (fun qJ s8=> .agg #[vi k,vi l,.slice qJ ((af ss).length) s8]) (fun qJ s8=>eO 9 1 (.slice qJ ((af ss).length) s8) ((af ss).length) ((af ss).map Value.string)) aA (fun cx=>⟨_,(j7 k l _ _ ss _ (hA.ext cx.upd.to_ext) (by have:=hS.1;omega) (by omega)).mono (by rintro e W1 ⟨A4,c4,rfl,ho,hx⟩;exact⟨_,_,rfl,St.one hx (cm ho)⟩),(ax (cx.ou 6))⟩) fun qJ s8 W5 aR=>?_
 refine bY #[vi 0,vi 0,sn] aR fun H8 W6 bI=>?_
 refine aV (n:=3) 2 #[vi k,vi l,.slice qJ ((af ss).length) s8] bI fun W7 aZ=>?_
 refine aa (wq (wq (sqr (sqp [.k 5 (vi 0)] ?_))))
 refine aa (wp_block ?_)
 obtain⟨pl,hpl⟩:∃z,af ss=z:=⟨_,rfl⟩
 have hps:dP pl:=hpl ▸ nY hS
 have hpz:=hps.1
 rw[hpl] at aZ
 refine aT (fun t_ mz az W=>∃j:Nat,j<=pl.length/\mz=pl.length-j/\az=⟨(ovr (jv az) [(3,3,0,[vi (14+(aO (pl.take j):Int))]),(1,5,0,[vi ((j:Int))]),(2,8,16,[])] t_).toArray,[]⟩/\St w [] [eB aB 48 #[vi k,vi l,.slice A ss.length c],eO 9 1 (.slice qJ pl.length s8) pl.length (pl.map Value.string),eB H8 48 #[vi k,vi l,.slice qJ pl.length s8]] W) (pl.length-0) ?_ ?_
 exact⟨0,Nat.zero_le _,rfl,(by kernel_rfl),aZ.pk [0,1,2]⟩
 rintro n9 a9 W9 ⟨j,hj,rfl,hj_,cq⟩
 refine ovz hj_ fun Qn=>?_
 refine wq (wq (sqr (sqp [.m 8 5,.k 9 (po H8 2)] ?_)))
 refine av 2 cq ?_
 refine sqp [.k 11 (vi ((pl.length:Int))),.k 12 (.bool (decide ((j:Int)<(pl.length:Int))))] ?_
 refine aa (wds (fun dJ kV=>?_) fun dJ kV=>?_)
 refine wp_skip (aa (wq (wp_block ?_)))
 have hs1_:=EG hps j
 have hs2_:=hps.take j
 refine sqr (sqp [.m 15 3,sI 16 ((14+(aO (pl.take j):Int))+2) (by omega),.k 17 (po H8 2)] ?_)
 refine av 2 cq ?_
 refine sqp [.m 19 5] ?_
 refine sql (.pointer (some ((ad qJ).add j))) cq (fun cx=>bS (e:=9) (m:=j) rfl (by kernel_rfl) (by kernel_rfl) (cx.ou 18) (cx.ou 19) (by omega) (by omega) (At.of_own (cx.ri 1 rfl)) (by simp)) ?_
 refine sql (.string (pl.getD j ByteArray.empty)) cq (fun cx=>ae rfl (by kernel_rfl) (cx.ou 20) (At.cellAd (At.of_own (cx.ri 1 rfl)) (mH (by omega)))) ?_
 refine sqp [.k 22 (vi (((pl.getD j ByteArray.empty).size:Int))),sI 23 ((14+(aO (pl.take j):Int)+2)+((pl.getD j ByteArray.empty).size:Int)) (by omega),.m 3 23] ?_
 refine aw (aa (sqr (sqp [.m 13 5,sI 14 ((j:Int)+1) (by omega),.m 5 14] ?_)))
 refine aa ?_
 rw[show ((14:Int)+(aO (pl.take j):Int)+2+((pl.getD j ByteArray.empty).size:Int))=((14:Int)+(aO (pl.take (j+1)):Int)) by rw[BC (by omega)];omega]
 refine⟨pl.length-((j+1)),by omega,?_⟩
 exact⟨(j+1),by omega,rfl,(by kernel_rfl),cq.pk [0,1,2]⟩
 refine wp_exit (au (au (bh (aa (wq (sqr (sqp [.m 24 3,.m 2 24] ?_)))))))
 refine aa (wp_ret ?_)
 refine bpr (vi (14+(aO (pl.take j):Int))) (ai Tryz.results172 rpt) ?_
 exact Ret.of (by rw[cK,hpl,List.take_of_length_le (by omega)];rfl) cq.ext
theorem sh(k l:Int)(A:Option Addr)(c:Nat)(ss:List ByteArray)(w:World)(hA:At w A (ss.map Value.string))(hr:bz k l ss=true)(hc:ss.length<=c):
  Calls Tryz.prog 143 #[.agg #[.int .i64 k,.int .i64 l,.slice A ss.length c]] w (Ret (.bool true) w):=by
 obtain⟨hk2,hl2,⟨hn24,hb4⟩,hz5⟩:=cC hr
 have hS:=ek hr
 go_enter Tryz.func143,Tryz.ntmps143
 have al:=St.start w
 refine wq (sqr ?_)
 refine ce #[vi k,vi l,.slice A ss.length c] al fun aB W1 aA=>?_
 refine sqp [.k 2 (.bool false)] ?_
 refine aa (wq (wq (sqr (sqp [.k 4 (vp aB)] ?_))))
 refine av 0 aA ?_
 have hd6:(decide (k<0))=false:=(decide_eq_false (by omega))
 refine sqp [.e 6 (.bool (decide (k<0))) (.bool false) (congrArg Value.bool hd6),.k 7 (.bool false)] ?_
 refine dE 7 [8,9,10] rfl rfl ?_
 refine sqp [.k 8 (vp aB)] ?_
 refine av 0 aA ?_
 have hd11:(decide (2<k))=false:=(decide_eq_false (by omega))
 refine sqp [.e 10 (.bool (decide (2<k))) (.bool false) (congrArg Value.bool hd11)] ?_
 refine sqp [.k 11 (.bool false),.k 12 (.bool false)] ?_
 refine dE 12 [13,14,15] rfl rfl ?_
 refine sqp [.k 13 (po aB 1)] ?_
 refine av 0 aA ?_
 have hd17:(decide (l<0))=false:=(decide_eq_false (by omega))
 refine sqp [.e 15 (.bool (decide (l<0))) (.bool false) (congrArg Value.bool hd17)] ?_
 refine sqp [.k 16 (.bool false),.k 17 (.bool false)] ?_
 refine dE 17 [18,19,20] rfl rfl ?_
 refine sqp [.k 18 (po aB 1)] ?_
 refine av 0 aA ?_
 have hd23:(decide (2147483647<l))=false:=(decide_eq_false (by omega))
 refine sqp [.e 20 (.bool (decide (2147483647<l))) (.bool false) (congrArg Value.bool hd23)] ?_
 refine sqp [.k 21 (.bool false),.k 22 (.bool false)] ?_
 refine dE 22 [23,24,25,26] rfl rfl ?_
 refine sqp [.k 23 (po aB 2)] ?_
 refine av 0 aA ?_
 have hd30:(decide (24<(ss.length:Int)))=false:=(decide_eq_false (by omega))
 refine sqp [.k 25 (vi ((ss.length:Int))),.e 26 (.bool (decide (24<(ss.length:Int)))) (.bool false) (congrArg Value.bool hd30)] ?_
 refine sqp [.k 27 (.bool false),.k 28 (.bool false)] ?_
 refine dE 28 [29,30,31] rfl rfl ?_
 refine bE 0 3 aA ?_
 refine sqk (vi ((cK ss:Int))) aA (fun cx=>⟨_,wV k l _ _ ss _ (hA.ext cx.upd.to_ext) hS (by omega),(ax (cx.ou 29))⟩) fun uB dG=>?_
 have hd36:(decide (512<(cK ss:Int)))=false:=(decide_eq_false (by omega))
 refine sqp [.e 31 (.bool (decide (512<(cK ss:Int)))) (.bool false) (congrArg Value.bool hd36)] ?_
 refine sqp [.k 32 (.bool false)] ?_
 refine aa (wcf rfl (wp_skip (aa (wq (wq (sqr (sqp [.k 3 (vi 0)] ?_)))))))
 refine aa (wp_block ?_)
 refine aT (fun t_ mz az W=>∃j:Nat,j<=ss.length/\mz=ss.length-j/\az=⟨(ovr (jv az) [(2,2,1,[vi ((j:Int))]),(29,33,14,[])] t_).toArray,[]⟩/\St w [] [eB aB 48 #[vi k,vi l,.slice A ss.length c]] W) (ss.length-0) ?_ ?_
 exact⟨0,Nat.zero_le _,rfl,(by kernel_rfl),dG.pk [0]⟩
 rintro Tw a39 pT ⟨j,hj,rfl,hj_,dd⟩
 refine ovz hj_ fun Pa=>?_
 refine wq (wq (sqr (sqp [.m 33 3,.k 34 (po aB 2)] ?_)))
 refine av 0 dd ?_
 refine sqp [.k 36 (vi ((ss.length:Int))),.k 37 (.bool (decide ((j:Int)<(ss.length:Int))))] ?_
 refine aa (wds (fun H2 CA=>?_) fun H2 CA=>?_)
 refine wp_skip (aa (wq (wp_block (wq ?_))))
 have hs1_:=Du hb4 j
 refine sqr (sqp [.k 40 (po aB 2)] ?_)
 refine av 0 dd ?_
 refine sqp [.m 42 3] ?_
 refine sql (.pointer (some ((ad A).add j))) dd (fun cx=>bS (e:=9) (m:=j) rfl (by kernel_rfl) (by kernel_rfl) (cx.ou 41) (cx.ou 42) (by omega) (by omega) (hA.ext cx.upd.to_ext) (by simp)) ?_
 refine sql (.string (ss.getD j ByteArray.empty)) dd (fun cx=>ae rfl (by kernel_rfl) (cx.ou 43) (At.cellAd (hA.ext cx.upd.to_ext) (mH (by omega)))) ?_
 have hd53:(decide (400<((ss.getD j ByteArray.empty).size:Int)))=false:=(decide_eq_false (by omega))
 refine sqp [.k 45 (vi (((ss.getD j ByteArray.empty).size:Int))),.e 46 (.bool (decide (400<((ss.getD j ByteArray.empty).size:Int)))) (.bool false) (congrArg Value.bool hd53)] ?_
 refine aa (wcf rfl (wp_skip (aw (aa (sqr (sqp [.m 38 3,sI 39 ((j:Int)+1) (by omega),.m 3 39] ?_))))))
 refine aa ?_
 refine⟨ss.length-((j+1)),by omega,?_⟩
 exact⟨(j+1),by omega,rfl,(by kernel_rfl),dd.pk [0]⟩
 refine wp_exit (au (au (bh (aa (wq (sqr (sqp [.k 2 (.bool true)] ?_)))))))
 refine aa (wp_ret ?_)
 refine bpr (.bool true) (ai Tryz.results143 rpt) ?_
 exact Ret.of rfl dd.ext
theorem Ek(k l:Int)(A:Option Addr)(c:Nat)(ss:List ByteArray)(K:Nat)(s:ByteArray)(w:World)(hA:At w A (ss.map Value.string))(hS:dP ss)(h24:ss.length<=24)(hc:ss.length<=c)(hK:K<24)(hs:s.size<=400):
  Calls Tryz.prog 173 #[.agg #[.int .i64 k,.int .i64 l,.slice A ss.length c],.int .i64 ((K:Int)),.string s] w (o0 (k,l,af (ba ss K s)) w):=by
 go_enter Tryz.func173,Tryz.ntmps173
 have al:=St.start w
 refine wq (sqr ?_)
 refine ce #[vi k,vi l,.slice A ss.length c] al fun cT W1 aA=>?_
 refine bY #[vi 0,vi 0,sn] aA fun y0 W2 bQ=>?_
 refine aa (wq (sqr ?_))
 refine bE 0 3 bQ ?_
 refine iC (fun qK qL=> .agg #[vi k,vi l,.slice qK ((af ss).length) qL]) (fun qK qL=>eO 9 1 (.slice qK ((af ss).length) qL) ((af ss).length) ((af ss).map Value.string)) bQ (fun cx=>⟨_,(j7 k l _ _ ss _ (hA.ext cx.upd.to_ext) (by first|omega|(have:=hwS.1;omega)) (by omega)).mono (by rintro e W1 ⟨A4,c4,rfl,ho,hx⟩;exact⟨_,_,rfl,St.one hx (cm ho)⟩),(ax (cx.ou 8))⟩) fun qK qL W4 be=>?_
 refine bY #[vi 0,vi 0,sn] be fun za W5 aR=>?_
 refine aV (n:=3) 3 #[vi k,vi l,.slice qK ((af ss).length) qL] aR fun W6 bI=>?_
 refine aa (wq (wp_block ?_))
 obtain⟨pl,hpl⟩:∃z,af ss=z:=⟨_,rfl⟩
 have hpl24:pl.length<=24:=by rw[<-hpl,cu];exact Nat.le_trans (d3 ss _) h24
 rw[hpl] at bI
 rw[show eO 9 1 (.slice qK pl.length qL) pl.length (pl.map Value.string)=eO 9 1 (.slice qK pl.length qL) pl.length ((dQ pl pl.length).map Value.string) from by rw[tv]] at bI
 refine aT (fun t_ mz az W=>∃j:Nat,∃RA:Option Addr,∃RC:Nat,pl.length<=j/\(j<=K+1\/j=pl.length)/\mz=K+1-j/\az=⟨(ovr (jv az) [(10,10,10,[])] t_).toArray,[]⟩/\St w [] [eB cT 48 #[vi k,vi l,.slice A ss.length c],eB y0 48 #[vi 0,vi 0,sn],eB za 48 #[vi k,vi l,.slice RA j RC],eO 9 1 (.slice RA j RC) j ((dQ pl j).map Value.string)] W) (K+1-pl.length) ?_ ?_
 exact⟨pl.length,qK,qL,Nat.le_refl _,.inr rfl,rfl,(by kernel_rfl),bI.pk [0,1,3,2]⟩
 rintro n7 a7 W7 ⟨j,RA,RC,hj,hj2,rfl,hj_,aZ⟩
 refine ovz hj_ fun Fk=>?_
 refine wq (wq (sqr (sqp [.k 10 (po za 2)] ?_)))
 refine av 2 aZ ?_
 refine sqp [.k 12 (vi ((j:Int))),.m 13 1,.k 14 (.bool (decide ((j:Int)<=(K:Int))))] ?_
 refine aa (wds (fun f9 jf=>?_) fun f9 jf=>?_)
 refine wp_skip (aa (wp_block (sqr (sqp [.k 15 (po za 2)] ?_))))
 refine av 2 aZ ?_
 refine ej (fun x_=>sA x_) (fun uH=> .slice uH 1 1) (fun uH=>eO 9 1 (.slice uH 1 1) 1 ([.string ⟨#[]⟩])) aZ (by
   refine svA fun ρ β W X cx=>?_
   exact du (e:=9) (xs:=[.string ⟨#[]⟩]) rfl (by simp[go_sem,cx.sees.const]) rfl (by decide) rfl rfl (fun _ _ _ _ _=> .intro)) fun uH pU dl=>?_
 refine sQ (fun x_=>sA x_) (fun x_=>sC x_) (fun oB oC=> .slice oB (j+1) oC) (fun oB oC=>eO 9 1 (.slice oB (j+1) oC) (j+1) ((dQ pl (j+1)).map Value.string)) 3 dl (by
   refine svA fun ρ β W X cx=>?_
   obtain⟨i0,hi0,hz0,hz1,hz2⟩:=info_parts Tryz.infoStr
   refine eH (n:=j) (m:=1) (nm:=j+1) (xs:=(dQ pl j).map Value.string) (news:=[.string ⟨#[]⟩]) (xs':=(dQ pl (j+1)).map Value.string) rfl (ty:=46) rfl (by kernel_rfl) hi0 hz0 hz1 hz2 rfl (cx.ou 16) cx (cx.init 3 _ rfl) rfl (cx.ou 17) (by first|(simp;done)|(simp;omega)) (At.of_own (cx.ri 4 rfl)) (by simp[Value.oneCell']) (by simp only[maxLen];omega) (by omega) rfl rfl rfl (by omega) (tK hj) (fun g h X' hs hb hv hx=>?_)
   exact⟨hv,hx⟩) fun oB oC uC dS=>?_
 refine sqp [.k 19 (po za 2)] ?_
 refine aV (n:=1) 2 #[vi k,vi l,.slice oB (j+1) oC] dS fun qI cU=>?_
 refine aw (aa ?_)
 refine⟨K+1-((j+1)),by omega,?_⟩
 exact⟨(j+1),oB,oC,by omega,by omega,rfl,(by kernel_rfl),cU.pk [0,1,2,3]⟩
 refine wp_exit (au (au (bh (aa (wq ?_)))))
 have hje:=wn hj (show K<j by omega) hj2
 have hjl:=vZ hj
 rw[hje] at aZ
 rw[hje] at hjl
 have hwS:=pj hS hK hs h24
 refine sqr (sqp [.k 20 (po za 2)] ?_)
 refine av 2 aZ ?_
 refine sqp [.m 22 1,.m 23 2] ?_
 refine sql (.pointer (some ((ad RA).add K))) aZ (fun cx=>bS (e:=9) (m:=K) rfl (by kernel_rfl) (by kernel_rfl) (cx.ou 21) (cx.ou 22) (by omega) (by omega) (At.of_own (cx.ri 3 rfl)) ((by simp only[List.length_map];exact hjl))) ?_
 refine sqc (eO 9 1 (.slice RA j RC) j ((ba ss K s).map Value.string)) 3 aZ (by
   refine svA fun ρ β W X cx=>?_
   exact kO (m:=K) (n:=j) rfl (cx.ou 24) (show _=Value.string s from(cx.ou 23)) (by kernel_rfl) rfl rfl cx (cx.init 3 _ rfl) rfl (by omega) rfl (by rw[<-List.map_set,<-hpl];rfl) rfl rfl (fun _ _ _ _ _=>id)) fun sd cM=>?_
 refine aa (wq ?_)
 have hcp26_:=lk (cM.own' 3 rfl)
 have hwl:(ba ss K s).length=j:=by rw[wI,hpl];exact hjl
 subst hwl
 refine sqr ?_
 refine bE 2 3 cM ?_
 refine iC (fun iQ iR=> .agg #[vi k,vi l,.slice iQ ((af (ba ss K s)).length) iR]) (fun iQ iR=>eO 9 1 (.slice iQ ((af (ba ss K s)).length) iR) ((af (ba ss K s)).length) ((af (ba ss K s)).map Value.string)) cM (fun cx=>⟨_,(j7 k l _ _ (ba ss K s) _ (At.of_own (cx.ri 3 rfl)) (by first|omega|(have:=hwS.1;omega)) (by omega)).mono (by rintro e W1 ⟨A4,c4,rfl,ho,hx⟩;exact⟨_,_,rfl,St.one hx (cm ho)⟩),(ax (cx.ou 25))⟩) fun iQ iR zb dU=>?_
 refine aV (n:=3) 1 #[vi k,vi l,.slice iQ ((af (ba ss K s)).length) iR] dU fun LX kU=>?_
 refine aa (wp_ret ?_)
 refine bpr (.agg #[vi k,vi l,.slice iQ ((af (ba ss K s)).length) iR]) (bA (n:=3) Tryz.results173 rfl (by kernel_rfl) (by kernel_rfl) (kU.blk 1 rfl) rfl) ?_
 exact⟨_,_,rfl,kU.own' 4 rfl,kU.ext⟩
theorem Fa(k l:Int)(A:Option Addr)(c:Nat)(ss:List ByteArray)(slot:Int)(s:ByteArray)(w:World)(hA:At w A (ss.map Value.string))(hr:bz k l ss=true)(hc:ss.length<=c)(hss:s.size<=9223372036854775807):
  Calls Tryz.prog 144 #[.agg #[.int .i64 k,.int .i64 l,.slice A ss.length c],.int .i64 slot,.string s] w (kc (k,l,ss) slot s w):=by
 obtain⟨hk2,hl2,⟨hn24,hb4⟩,hz5⟩:=cC hr
 have hS:=ek hr
 go_enter Tryz.func144,Tryz.ntmps144
 have al:=St.start w
 refine wq (sqr ?_)
 refine ce #[vi k,vi l,.slice A ss.length c] al fun cT W1 aA=>?_
 refine bY #[vi 0,vi 0,sn,vi 0] aA fun y0 W2 bQ=>?_
 refine aa (wq (wq (sqr ?_)))
 refine bE 0 3 bQ ?_
 refine sqk (.bool true) bQ (fun cx=>⟨_,sh k l _ _ ss _ (hA.ext cx.upd.to_ext) hr (by omega),(ax (cx.ou 8))⟩) fun W4 be=>?_
 refine sqp [.k 10 (.bool false)] ?_
 refine aa (wcf rfl (wp_skip (aa (wq (wq (sqr (sqp [.m 12 1,.k 13 (.bool (decide (slot<0))),.m 14 13] ?_)))))))
 refine sqw 14 [15,16] rfl (fun _=>sqp [.m 15 1,.k 16 (.bool (decide (24<=slot)))] sqe) ?_
 refine sqp [sPo 17 (decide (slot<0)) (decide (24<=slot)),.m 18 17] ?_
 refine sqw 18 [19,20,21] rfl (fun _=>sqp [.m 19 2,.k 20 (vi ((s.size:Int))),.k 21 (.bool (decide (400<(s.size:Int))))] sqe) ?_
 refine sqp [sPo 22 ((decide (slot<0))||(decide (24<=slot))) (decide (400<(s.size:Int)))] ?_
 refine aa (wbs (fun n6=>?_) fun n6=>?_)
 have xk:=n6
 simp only[zB] at xk
 refine wq (sqr (sqp [.k 23 (.agg #[vi 0,vi 0,sn,vi 21])] ?_))
 refine aV (n:=4) 1 #[vi 0,vi 0,sn,vi 21] be fun qI cU=>?_
 refine aa (wp_ret (aj ?_))
 refine bpr (.agg #[vi 0,vi 0,sn,vi 21]) (bA (n:=4) Tryz.results144 rfl (by kernel_rfl) (by kernel_rfl) (cU.blk 1 rfl) rfl) ?_
 exact kc.bad (by rw[di,if_neg (by rw[hr];decide),if_pos (by have h_:=n6;simp at h_;omega)]) (by decide) (fT.zero cU.ext)
 have xk:=n6
 simp only[zB] at xk
 obtain⟨⟨Qo,Qp⟩,Qq⟩:=xk
 refine wp_skip (aa (wq ?_))
 have hbd_:¬(slot<0\/24<=slot\/400<s.size):=by have h_:=n6;simp at h_;omega
 obtain⟨m,rfl⟩:∃m:Nat,slot=(m:Int):=⟨slot.toNat,by omega⟩
 have hm24:m<24:=by omega
 have aU:s.size<=400:=by omega
 have hws:=pj hS hm24 aU hn24
 refine sqr ?_
 refine bE 0 3 be ?_
 refine sqp [.m 25 1,.m 26 2] ?_
 refine iC (fun lC lD=> .agg #[vi k,vi l,.slice lC ((af (ba ss m s)).length) lD]) (fun lC lD=>eO 9 1 (.slice lC ((af (ba ss m s)).length) lD) ((af (ba ss m s)).length) ((af (ba ss m s)).map Value.string)) be (fun cx=>⟨_,(Ek k l _ _ ss m s _ (hA.ext cx.upd.to_ext) hS hn24 (by omega) hm24 aU).mono (by rintro e W1 ⟨A4,c4,rfl,ho,hx⟩;exact⟨_,_,rfl,St.one hx (cm ho)⟩),(dN (cx.ou 24) (cx.ou 25) (cx.ou 26))⟩) fun lC lD uF cG=>?_
 refine bY #[vi 0,vi 0,sn] cG fun Rq y6 e9=>?_
 refine aV (n:=3) 3 #[vi k,vi l,.slice lC ((af (ba ss m s)).length) lD] e9 fun sd cM=>?_
 refine aa (wq (wq ?_))
 have hcp26_:=lk (cM.own' 2 rfl)
 refine sqr ?_
 refine bE 3 3 cM ?_
 refine sqk (vi ((cK (af (ba ss m s)):Int))) cM (fun cx=>⟨_,wV k l _ _ (af (ba ss m s)) _ (At.of_own (cx.ri 2 rfl)) (nY hws) (by omega),(ax (cx.ou 28))⟩) fun zb dU=>?_
 refine sqp [.k 30 (.bool (decide (512<(cK (af (ba ss m s)):Int))))] ?_
 refine aa (wds (fun jF jg=>?_) fun jF jg=>?_)
 refine wq (sqr (sqp [.k 31 (.agg #[vi 0,vi 0,sn,vi 20])] ?_))
 refine aV (n:=4) 1 #[vi 0,vi 0,sn,vi 20] dU fun y7 dc=>?_
 refine aa (wp_ret (aj ?_))
 refine bpr (.agg #[vi 0,vi 0,sn,vi 20]) (bA (n:=4) Tryz.results144 rfl (by kernel_rfl) (by kernel_rfl) (dc.blk 1 rfl) rfl) ?_
 exact kc.bad (by rw[di,if_neg (by rw[hr];decide),if_neg hbd_,if_pos (by show 512<cK (ba ss (m:Int).toNat s);rw[Int.toNat_natCast,<-rV];omega)]) (by decide) (fT.zero dc.ext)
 refine wp_skip (aa (wq (sqr ?_)))
 refine bE 3 3 dU ?_
 refine sqp [.k 33 (.agg #[vi k,vi l,.slice lC ((af (ba ss m s)).length) lD,vi 0])] ?_
 refine aV (n:=4) 1 #[vi k,vi l,.slice lC ((af (ba ss m s)).length) lD,vi 0] dU fun y3 ew=>?_
 refine aa (wp_ret ?_)
 refine bpr (.agg #[vi k,vi l,.slice lC ((af (ba ss m s)).length) lD,vi 0]) (bA (n:=4) Tryz.results144 rfl (by kernel_rfl) (by kernel_rfl) (ew.blk 1 rfl) rfl) ?_
 exact kc.good (by rw[di,if_neg (by rw[hr];decide),if_neg hbd_,if_neg (by rw[Int.toNat_natCast,<-rV];omega)]) ⟨_,_,rfl,ew.own' 2 rfl,ew.ext⟩
theorem rC(k l:Int)(A:Option Addr)(c:Nat)(ss:List ByteArray)(x sl:Int)(s:ByteArray)(n:Int)(w:World)(hA:At w A (ss.map Value.string))(hr:bz k l ss=true)(hc:ss.length<=c)(hss:s.size<=9223372036854775807):
  Calls Tryz.prog 86 #[.agg #[.int .i64 k,.int .i64 l,.slice A ss.length c],.agg #[.int .i64 x,.int .i64 sl,.string s],.int .i64 n] w (eC (k,l,ss) (x,sl,s) n w):=by
 go_enter Tryz.func86,Tryz.ntmps86
 have al:=St.start w
 refine wq (sqr ?_)
 refine ce #[vi k,vi l,.slice A ss.length c] al fun cT W1 aA=>?_
 refine ce #[vi x,vi sl,.string s] aA fun dI W2 bQ=>?_
 refine bY #[vi 0,vi 0,sn,vi 0] bQ fun O9 W3 bc=>?_
 refine aa (wq (wq ?_))
 have hbb_:=sG (bl s) 0
 refine sqr ?_
 refine bE 0 3 bc ?_
 refine sqk (.bool true) bc (fun cx=>⟨_,sh k l _ _ ss _ (hA.ext cx.upd.to_ext) hr (by omega),(ax (cx.ou 8))⟩) fun W5 aR=>?_
 refine sqp [.k 10 (.bool false)] ?_
 refine aa (wcf rfl (wp_skip (aa (wq (wq (sqr (sqp [.m 12 2,.k 13 (.bool (decide (n<0))),.m 14 13] ?_)))))))
 refine sqw 14 [15,16] rfl (fun _=>sqp [.m 15 2,.k 16 (.bool (decide (2147483647<n)))] sqe) ?_
 refine sqp [sPo 17 (decide (n<0)) (decide (2147483647<n))] ?_
 refine aa (wbs (fun f9=>?_) fun f9=>?_)
 have jf:=f9
 simp only[zB] at jf
 refine wq (sqr (sqp [.k 18 (.agg #[vi 0,vi 0,sn,vi 1])] ?_))
 refine aV (n:=4) 2 #[vi 0,vi 0,sn,vi 1] aR fun zd dv=>?_
 refine aa (wp_ret (aj ?_))
 refine bpr (.agg #[vi 0,vi 0,sn,vi 1]) (bA (n:=4) Tryz.results86 rfl (by kernel_rfl) (by kernel_rfl) (dv.blk 2 rfl) rfl) ?_
 exact eC.bad (by rw[doE,if_neg (by rw[hr];decide),if_pos (by have h_:=f9;simp at h_;omega)]) (by decide) (fT.zero dv.ext)
 have jf:=f9
 simp only[zB] at jf
 obtain⟨Ma,Mb⟩:=jf
 refine wp_skip (aa (wq (wq ?_)))
 by_cases hs1_:sl= -1
 ·refine sqr (sqp [.k 19 (po dI 1)] ?_)
  refine av 1 aR ?_
  have hd19:(sl==(-1))=true:=(beq_iff_eq.2 hs1_)
  refine sqp [.e 21 (.bool (sl==(-1))) (.bool true) (congrArg Value.bool hd19)] ?_
  refine aa (wct rfl (wq (wq (sqr (sqp [.k 22 (po dI 2)] ?_)))))
  refine av 1 aR ?_
  refine sqp [.k 24 (vi ((s.size:Int))),.k 25 (.bool ((s.size:Int) != 1)),.m 26 25] ?_
  refine d6 26 [27,28,29,30] ?_ rfl (fun hq=>?_) ?_
  rotate_left
  have hq_:=hq
  try simp only[zB] at hq_
  refine sqp [.k 27 (po dI 2)] ?_
  refine av 1 aR ?_
  refine sql (.int .u8 (bW (bl s) 0)) aR (fun cx=>jY (m:=0) rfl (by kernel_rfl) (cx.ou 28) (cx.co _) (by omega) (by omega)) ?_
  refine sqp [.k 30 (.bool (decide (2<bW (bl s) 0)))] ?_
  exact sqe
  refine c8 ?_
  refine sqp [sPo 31 ((s.size:Int) != 1) (decide (2<bW (bl s) 0))] ?_
  refine aa (wbs (fun jF=>?_) fun jF=>?_)
  have jg:=jF
  simp only[zB] at jg
  refine wq (sqr (sqp [.k 32 (.agg #[vi 0,vi 0,sn,vi 21])] ?_))
  refine aV (n:=4) 2 #[vi 0,vi 0,sn,vi 21] aR fun y7 dc=>?_
  refine aa (wp_ret (aj (aj ?_)))
  refine bpr (.agg #[vi 0,vi 0,sn,vi 21]) (bA (n:=4) Tryz.results86 rfl (by kernel_rfl) (by kernel_rfl) (dc.blk 2 rfl) rfl) ?_
  exact eC.bad (by rw[doE,if_neg (by rw[hr];decide),if_neg (by have h_:=f9;simp at h_;omega),if_pos hs1_,if_pos (by have h_:=jF;simp at h_;simp only[eT,Bool.or_eq_true,decide_eq_true_eq];omega)]) (by decide) (fT.zero dc.ext)
  have jg:=jF
  simp only[zB] at jg
  obtain⟨Mc,Md⟩:=jg
  refine wp_skip (aa (wq (sqr (sqp [.k 33 (po dI 2)] ?_))))
  refine av 1 aR ?_
  refine sql (.int .u8 (bW (bl s) 0)) aR (fun cx=>jY (m:=0) rfl (by kernel_rfl) (cx.ou 34) (cx.co _) (by omega) (by omega)) ?_
  refine sqp [sW 36 .i64 (bW (bl s) 0) (bW (bl s) 0) (IntWalk.i64_in _ (by omega)),.m 37 2,.k 38 (.agg #[vi (bW (bl s) 0),vi n,sn]),.k 39 (.agg #[vi (bW (bl s) 0),vi n,sn,vi 0])] ?_
  refine aV (n:=4) 2 #[vi (bW (bl s) 0),vi n,sn,vi 0] aR fun se dz=>?_
  refine aa (wp_ret (aj ?_))
  refine bpr (.agg #[vi (bW (bl s) 0),vi n,sn,vi 0]) (bA (n:=4) Tryz.results86 rfl (by kernel_rfl) (by kernel_rfl) (dz.blk 2 rfl) rfl) ?_
  exact eC.good (q:=(bW (bl s) 0,n,[])) (by rw[doE,if_neg (by rw[hr];decide),if_neg (by have h_:=f9;simp at h_;omega),if_pos hs1_,if_neg (by have h_:=jF;simp at h_;simp only[eT,Bool.or_eq_true,decide_eq_true_eq];omega)]) (by rw[doV,if_pos hs1_]) ⟨none,0,rfl,World.ownsRow_nil _ _ _ _,dz.ext⟩
 refine sqr (sqp [.k 19 (po dI 1)] ?_)
 refine av 1 aR ?_
 have hd44:(sl==(-1))=false:=(beq_eq_false_iff_ne.2 hs1_)
 refine sqp [.e 21 (.bool (sl==(-1))) (.bool false) (congrArg Value.bool hd44)] ?_
 refine aa (wcf rfl (wp_skip (aa (wq ?_))))
 obtain⟨er,hpe⟩:∃z,di k l ss sl s=z:=⟨_,rfl⟩
 by_cases hpn:er=0
 subst hpn
 refine sqr ?_
 refine bE 0 3 aR ?_
 refine sqp [.k 41 (po dI 1)] ?_
 refine av 1 aR ?_
 refine sqp [.k 43 (po dI 2)] ?_
 refine av 1 aR ?_
 refine iC (fun lF lG=> .agg #[vi k,vi l,.slice lF (((k,l,af (ba ss sl.toNat s)):PgS).2.2.length) lG,vi 0]) (fun lF lG=>eO 9 1 (.slice lF (((k,l,af (ba ss sl.toNat s)):PgS).2.2.length) lG) (((k,l,af (ba ss sl.toNat s)):PgS).2.2.length) (((k,l,af (ba ss sl.toNat s)):PgS).2.2.map Value.string)) aR (fun cx=>⟨_,(GI (p:=(k,l,ss)) hpe (Fa k l _ _ ss sl s _ (hA.ext cx.upd.to_ext) hr hc hss)).mono (by rintro e W1 ⟨A4,c4,rfl,ho,hx⟩;exact⟨_,_,rfl,St.one hx (cm ho)⟩),(dN (cx.ou 40) (cx.ou 42) (cx.ou 44))⟩) fun lF lG Me l7=>?_
 refine bY #[vi 0,vi 0,sn,vi 0] l7 fun CD IP kT=>?_
 refine aV (n:=4) 4 #[vi k,vi l,.slice lF (((k,l,af (ba ss sl.toNat s)):PgS).2.2.length) lG,vi 0] kT fun Bt cN=>?_
 refine aa (wq (wq (sqr (sqp [.k 46 (po CD 3)] ?_))))
 refine av 4 cN ?_
 refine sqp [.k 48 (.bool true)] ?_
 refine aa (wct rfl (sqr (sqp [.m 49 2,.k 50 (vp CD),.k 51 (po CD 1)] ?_)))
 refine aV (n:=1) 4 #[vi k,vi n,.slice lF (((k,l,af (ba ss sl.toNat s)):PgS).2.2.length) lG,vi 0] cN fun Fi fY=>?_
 refine aa (wq (sqr ?_))
 refine bE 4 4 fY ?_
 refine aV (n:=4) 2 #[vi k,vi n,.slice lF (((k,l,af (ba ss sl.toNat s)):PgS).2.2.length) lG,vi 0] fY fun Bs fo=>?_
 refine aa (wp_ret ?_)
 refine bpr (.agg #[vi k,vi n,.slice lF (((k,l,af (ba ss sl.toNat s)):PgS).2.2.length) lG,vi 0]) (bA (n:=4) Tryz.results86 rfl (by kernel_rfl) (by kernel_rfl) (fo.blk 2 rfl) rfl) ?_
 exact eC.good (q:=(k,n,af (ba ss sl.toNat s))) (by rw[doE,if_neg (by rw[hr];decide),if_neg (by have h_:=f9;simp at h_;omega),if_neg hs1_];exact hpe) (by rw[doV,if_neg hs1_]) ⟨_,_,rfl,fo.own' 3 rfl,fo.ext⟩
 refine sqr ?_
 refine bE 0 3 aR ?_
 refine sqp [.k 41 (po dI 1)] ?_
 refine av 1 aR ?_
 refine sqp [.k 43 (po dI 2)] ?_
 refine av 1 aR ?_
 refine iC (fun mV mX=> .agg #[vi 0,vi 0,.slice mV bu.2.2.length mX,vi er]) (fun mV mX=>eO 9 1 (.slice mV bu.2.2.length mX) bu.2.2.length (bu.2.2.map Value.string)) aR (fun cx=>⟨_,(He (p:=(k,l,ss)) hpe hpn (Fa k l _ _ ss sl s _ (hA.ext cx.upd.to_ext) hr hc hss)).mono (by rintro e W1 ⟨A4,c4,rfl,ho,hx⟩;exact⟨_,_,rfl,St.one hx (cm ho)⟩),(dN (cx.ou 40) (cx.ou 42) (cx.ou 44))⟩) fun mV mX OQ pB=>?_
 refine bY #[vi 0,vi 0,sn,vi 0] pB fun NV Fj gG=>?_
 refine aV (n:=4) 4 #[vi 0,vi 0,.slice mV bu.2.2.length mX,vi er] gG fun Tx CE=>?_
 refine aa (wq (wq (sqr (sqp [.k 46 (po NV 3)] ?_))))
 refine av 4 CE ?_
 have hd73:(er==0)=false:=(beq_eq_false_iff_ne.2 hpn)
 refine sqp [.e 48 (.bool (er==0)) (.bool false) (congrArg Value.bool hd73)] ?_
 refine aa (wcf rfl (wp_skip (aa (wq (sqr ?_)))))
 refine bE 4 4 CE ?_
 refine aV (n:=4) 2 #[vi 0,vi 0,.slice mV bu.2.2.length mX,vi er] CE fun L7 kW=>?_
 refine aa (wp_ret ?_)
 refine bpr (.agg #[vi 0,vi 0,.slice mV bu.2.2.length mX,vi er]) (bA (n:=4) Tryz.results86 rfl (by kernel_rfl) (by kernel_rfl) (kW.blk 2 rfl) rfl) ?_
 exact eC.bad (by rw[doE,if_neg (by rw[hr];decide),if_neg (by have h_:=f9;simp at h_;omega),if_neg hs1_];exact hpe) hpn ⟨_,_,rfl,kW.own' 3 rfl,kW.ext⟩
end
section
open Go.RowKit Go.Maps Go.ChangeMaps
structure Kc (κ:Type) where
 enc:κ->Value
 lit:κ->Lit
 ok:κ->Prop
 ty:Program->TypeId->Prop
 inj:∀{x y},lit x=lit y->x=y
 isk:∀x,WideAt.IsKeyLit (lit x)
 keyed:∀{P k},ty P k->Keyed P k
 key:∀{P k x},ty P k->ok x->keyOf P k (enc x)=some (lit x)
def kcI:Kc Int where
 enc:= .int .i64
 lit:= .int .i64
 ok x:= -9223372036854775808<=x/\x<=9223372036854775807
 ty P k:=P.underlying k=some (.int .i64)
 inj h:=by injection h
 isk _:=trivial
 keyed h:=int_keyed h
 key h hx:=keyOf_int_mk h (by
  show (decide (IntKind.i64.min<= _)&&decide (_<=IntKind.i64.max))=true
  have h1:IntKind.i64.min= -9223372036854775808:=by decide
  have h2:IntKind.i64.max=9223372036854775807:=by decide
  rw[h1,h2,decide_eq_true hx.1,decide_eq_true hx.2];rfl)
structure Ec (ε:Type) where
 enc:ε->Value
 dat:ε->DataW Unit
 R:Value->Option (DataW Unit×List MemPlace)
 e0:ε
 okE:ε->Prop
 read:∀e,okE e->R (enc e)=some (dat e,[])
 back:∀v d ps e,R v=some (d,ps)->d=dat e->v=enc e
 ok0:okE e0
def gC{g c:Type}(K:Kc g)(C:Ec c)(P:Program)(k b n:Nat)(m:g->Option c)(W:World):Prop:=
 ∃D:DataW Unit,W.ownsMap P k C.R b n D/\Tidy D/\size D=n/\∀x,K.ok x->has D (K.lit x)=(m x).isSome/\D.atKey (K.lit x) (C.dat C.e0)=C.dat ((m x).getD C.e0)
def eMx{g c:Type}(K:Kc g)(C:Ec c)(P:Program)(k b n:Nat)(m:g->Option c):Ent:=⟨[b],gC K C P k b n m⟩
def cf{c g:Type}[DecidableEq c](m:c->Option g)(x:c)(e:Option g):c->Option g:=fun y=>if y=x then e else m y
theorem wu{H:Type}{P:Program}{R:Value->Option (DataW H×List MemPlace)}{D:DataW H}(h:W.ownsMap P k R b n D):W.ownsMap P k R b (size D) D:=by
 obtain⟨es,clock,hb,F,hs,rfl⟩:=h
 refine⟨es,clock,hb,F,?_,rfl⟩
 simp[Maps.size,length_sorted]
section
variable{κ ε:Type}{K:Kc κ}{C:Ec ε}
theorem ml(P:Program)(k b n:Nat)(m:κ->Option ε):(eMx K C P k b n m).loc:=fun W W' h hb=>by
 obtain⟨D,⟨es,clock,h1,h2⟩,h3⟩:=hb
 exact⟨D,⟨es,clock,(h b (by simp[eMx])).trans h1,h2⟩,h3⟩
variable{P:Program}{o:Oper}{ρ:Operand->Value}{W:World}{k e b n:Nat}{m:κ->Option ε}
theorem gC.lt(h:gC K C P k b n m W):b<W.heap.size:=by
 obtain⟨D,hD,_⟩:=h
 exact hD.lt
theorem da{t:TypeId}{x:κ}(h:o.op= .lookup t y z false)(hy:ρ y= .map (some b))(hz:ρ z=K.enc x)(hb:gC K C P k b n m W)(h0:(zeroValue e).run P W= .ok (C.enc C.e0) W)(hx:K.ok x)
  (hk:K.ty P k:=by kernel_rfl) (ht:P.underlying t=some (.map k e):=by kernel_rfl):(execOp ρ o).run P W= .ok (.value (C.enc ((m x).getD C.e0))) W:=by
 obtain⟨D,hD,_,_,hm⟩:=hb
 obtain⟨v,ps,hrun,hv⟩:=hD.lookup (K.keyed hk) ht h0 (C.read C.e0 C.ok0) (K.key hk hx)
 rw[C.back v _ ps _ hv (hm x hx).2] at hrun
 unfold execOp
 rw[h]
 simp[hy,hz,hrun]
theorem EX{c:Call}{t:TypeId}(h:o.op= .call c)(hc:c.callee= .builtin .len)(ha:c.args=#[y])(hat:c.argTypes=#[t])(hy:ρ y= .map (some b))(hb:gC K C P k b n m W)(ht:P.underlying t=some (.map k e):=by kernel_rfl):
  (execOp ρ o).run P W= .ok (.value (.int .i64 (n:Int))) W:=by
 obtain⟨D,hD,_,hs,_⟩:=hb
 have hl:=hD.len ht o.type
 rw[hs] at hl
 unfold execOp
 rw[h]
 obtain⟨cal,args,tys⟩:=c
 simp only at hc ha hat
 subst hc ha hat
 simp[go_sem,hy,hl]
def mzP(m:κ->Option ε)(x:κ)(n:Nat):Nat:=if (m x).isSome then n else n+1
theorem DT [DecidableEq κ]{t:TypeId}{u:Operand}{x:κ}{v:ε}(h:o.op= .mapUpdate t y z u\/o.op= .insert t y z u)(hy:ρ y= .map (some b))(hz:ρ z=K.enc x)(hu:ρ u=C.enc v)(hb:gC K C P k b n m W)(hv:C.okE v)(hn:n<1000000)(hx:K.ok x)
  (hk:K.ty P k:=by kernel_rfl) (ht:P.underlying t=some (.map k e):=by kernel_rfl):
  ∃W',(execOp ρ o).run P W= .ok .skip W'/\gC K C P k b (mzP m x n) (cf m x (some v)) W'/\Upd [b] W W':=by
 obtain⟨D,hD,hI,hs,hm⟩:=hb
 obtain⟨W',hrun,hown,hg⟩:=hD.update (K.keyed hk) ht (by simp only[maxLen];omega) (K.key hk hx) (C.read v hv)
 have hsz:size (D.put (K.lit x) (C.dat v))=mzP m x n:=by rw[size_put hI,(hm x hx).1,hs,mzP]
 refine⟨W',?_,⟨_,by have h9:=wu hown;rwa [hsz] at h9,hI.put (K.isk x) _,hsz,fun y hy=>?_⟩,⟨hg.os,hg.tape,hg.output,hg.size,fun i hi hn=>hg.block i hi (fun e'=>hn (by cases e';simp))⟩⟩
 unfold execOp
 rcases h with h|h<;>rw[h]<;>simp[hy,hz,hu,hrun]
 unfold cf
 by_cases e':y=x
 subst e'
 rw[if_pos rfl]
 exact⟨has_put_same hI.isMap (K.isk y) _,atKey_put_same hI.isMap (K.isk y) _ _⟩
 have e2:K.lit y≠K.lit x:=fun h=>e' (K.inj h)
 rw[if_neg e',has_put_other e2,atKey_put_other e2]
 exact hm y hy
def mzD(m:κ->Option ε)(x:κ)(n:Nat):Nat:=if (m x).isSome then n-1 else n
theorem Eh [DecidableEq κ]{c:Call}{x:κ}{t:TypeId}(h:o.op= .call c)(hc:c.callee= .builtin .delete)(ha:c.args=#[y,z])(hat:c.argTypes=#[t,k])(hy:ρ y= .map (some b))(hz:ρ z=K.enc x)(hb:gC K C P k b n m W)(hx:K.ok x)
  (hk:K.ty P k:=by kernel_rfl) (ht:P.underlying t=some (.map k e):=by kernel_rfl):
  ∃W',(execOp ρ o).run P W= .ok (.value (.tuple #[])) W'/\gC K C P k b (mzD m x n) (cf m x none) W'/\Upd [b] W W':=by
 obtain⟨D,hD,hI,hs,hm⟩:=hb
 obtain⟨W',hrun,hown,es,clock,es',clock',h1,h2⟩:=hD.drop (K.keyed hk) ht (K.key hk hx) o.type
 have hsz:size (D.del (K.lit x))=mzD m x n:=by
  have h9:=size_del (k:=K.lit x) hI
  rw[(hm x hx).1,hs] at h9
  unfold mzD
  split at h9
  rw[if_pos (by assumption)];omega
  rw[if_neg (by assumption)];omega
 refine⟨W',?_,⟨_,by have h9:=wu hown;rwa [hsz] at h9,hI.del _,hsz,fun y hy=>?_⟩,?_⟩
 unfold execOp
 rw[h]
 obtain⟨cal,args,tys⟩:=c
 simp only at hc ha hat
 subst hc ha hat
 simp[go_sem,hy,hz,hrun]
 unfold cf
 by_cases e':y=x
 subst e'
 rw[if_pos rfl]
 exact⟨has_del_same,atKey_del_same _⟩
 have e2:K.lit y≠K.lit x:=fun h=>e' (K.inj h)
 rw[if_neg e',has_del_other e2,atKey_del_other e2]
 exact hm y hy
 subst h2
 exact⟨rfl,rfl,rfl,by simp[setBlock],fun i hi hn=>heap_setBlock_other h1 _ (fun e'=>hn (by simp[e']))⟩
theorem gC.made:gC K C P k W.heap.size 0 (fun _=>none) (W.alloc (.map #[] 0)):=⟨.map [],World.ownsMap_made W P k C.R,tidy_empty,rfl,fun x hx=>⟨rfl,rfl⟩⟩
end
section
variable{κ ε:Type}{K:Kc κ}{C:Ec ε}{P:Program}{ops:Array Oper}{L:List Nat}{a0:Act}{w0:World}{bor:List Nat}{X0:List Ent}{us cr kl:List (List Nat)}
 {D:Nat->(Tmp->Value)->(Tmp->Value)->(Nat->Ent)->Prop}{i:Nat}{o:Oper}{ρ:Operand->Value}{β:Tmp->Value}{W:World}{X:Nat->Ent}
def pbx:Value->Nat
 | .map (some b)=>b
 |_=>0
theorem CtxV.mx{m:κ->Option ε}(cx:CtxV ops L a0 w0 bor X0 us D i ρ β W X)(hX:X q=eMx K C P k b n m)(hu:(atV us i).contains q=true):gC K C P k b n m W:=by
 have h:=(cx.ok q hu).holds
 rw[hX] at h;exact h
theorem lm{t:Nat}(h:o.op= .makeMap t none)(hd:o.dst=some d)(hc:atV cr i=[q])(hk:atV kl i=[])
  (hD:∀(g c:Tmp->Value) (X':Nat->Ent),(∀t,t≠d->g t=ρ (.tmp t))->(∀t,t≠d->c t=β t)->g d= .map (some (pbx (c d)))->X' q=eMx K C P k (pbx (c d)) 0 (fun _=>none)->D i g c X'):am P o ρ W (bX cr kl D i o.dst ρ β W X):=by
 refine am.value (v:= .map (some W.heap.size)) (w':=W.alloc (.map #[] 0)) (by unfold execOp;rw[h];rfl) ?_
 refine bL [eMx K C P k W.heap.size 0 (fun _=>none)] hk (by rw[hc];rfl) ((Ext.refl W).alloc _) (one_new ⟨gC.made,ml _ _ _ _ _,fun k' hk'=>?_⟩) (List.pairwise_singleton _ _) (fun g c X' hs hb hv hN=>?_)
 have:k'=W.heap.size:=by simpa[eMx] using hk'
 subst this
 exact⟨Nat.le_refl _,by simp⟩
 have aK:=(hv d hd).1;have aW:=(hv d hd).2
 rw[hc] at hN
 refine hD g c X' (fun t ht=>hs t (by rw[hd];simpa using ht.symm)) (fun t ht=>hb t (by rw[hd];simpa using ht.symm)) ?_ ?_
 rw[aK,aW];rfl
 rw[aW];exact(List.cons.inj hN).1
theorem p5{k b n' q:Nat}{m m':κ->Option ε}(hX:X q=eMx K C P k b n m)(h1:gC K C P k b n' m' W')(h2:Upd [b] W W')(hc:atV cr i=[q'])(hkl:atV kl i=[q]):
  ([eMx K C P k b n' m'].length=(atV cr i).length)/\(Upd ((atV kl i).flatMap fun q=>(X q).fp) W W')/\∀e'∈[eMx K C P k b n' m'],e'.holds W'/\e'.loc/\∀k'∈e'.fp,(k'∈((atV kl i).flatMap fun q=>(X q).fp)\/W.heap.size<=k')/\k'<W'.heap.size:=by
 refine⟨by rw[hc];rfl,?_,fun e' he'=>?_⟩
 rw[hkl]
 simp only[List.flatMap_cons,List.flatMap_nil,List.append_nil,hX]
 exact h2
 rw[List.mem_singleton] at he'
 subst he'
 refine⟨h1,ml _ _ _ _ _,fun k' hk'=>?_⟩
 have hkb:k'=b:=by simpa[eMx] using hk'
 subst hkb
 refine⟨.inl ?_,h1.lt⟩
 rw[hkl]
 simp[hX,eMx]
theorem gA [DecidableEq κ]{t e:Nat}{m:κ->Option ε}{u:Operand}{x:κ}{v:ε}(h:o.op= .mapUpdate t y z u\/o.op= .insert t y z u)(hy:ρ y= .map (some b))(hz:ρ z=K.enc x)(hu:ρ u=C.enc v)
  (cx:CtxV ops L a0 w0 bor X0 us D i ρ β W X) (hX:X q=eMx K C P k b n m) (hq:(atV us i).contains q=true) (hv:C.okE v) (hn:n<1000000) (hx:K.ok x) (hd:o.dst=none) (hc:atV cr i=[q']) (hkl:atV kl i=[q])
  (hD:∀(c g:Tmp->Value) (X':Nat->Ent),(∀t,c t=ρ (.tmp t))->(∀t,g t=β t)->X' q'=eMx K C P k b (mzP m x n) (cf m x (some v))->D i c g X')
  (hk:K.ty P k:=by kernel_rfl) (ht:P.underlying t=some (.map k e):=by kernel_rfl):am P o ρ W (bX cr kl D i o.dst ρ β W X):=by
 obtain⟨W',hrun,h1,h2⟩:=DT (v:=v) h hy hz hu (cx.mx hX hq) hv hn hx hk ht
 obtain⟨a1,a2,a3⟩:=p5 (cr:=cr) (kl:=kl) (i:=i) hX h1 h2 hc hkl
 refine am.skip hrun ⟨[eMx K C P k b (mzP m x n) (cf m x (some v))],a1,⟨a2,a3,List.pairwise_singleton _ _⟩,fun c g X' hs hv hb' hbv hx' hN=>hD c g X' (fun t=>hs t (by rw[hd];simp)) (fun t=>hb' t (by rw[hd];simp)) ?_⟩
 rw[hc] at hN
 exact(List.cons.inj hN).1
theorem GW [DecidableEq κ]{c:Call}{t e:Nat}{m:κ->Option ε}{x:κ}(h:o.op= .call c)(hcc:c.callee= .builtin .delete)(ha:c.args=#[y,z])(hat:c.argTypes=#[t,k])(hy:ρ y= .map (some b))(hz:ρ z=K.enc x)
  (cx:CtxV ops L a0 w0 bor X0 us D i ρ β W X) (hX:X q=eMx K C P k b n m) (hq:(atV us i).contains q=true) (hx:K.ok x) (hd:o.dst=none) (hc:atV cr i=[q']) (hkl:atV kl i=[q])
  (hD:∀(g r:Tmp->Value) (X':Nat->Ent),(∀t,g t=ρ (.tmp t))->(∀t,r t=β t)->X' q'=eMx K C P k b (mzD m x n) (cf m x none)->D i g r X')
  (hk:K.ty P k:=by kernel_rfl) (ht:P.underlying t=some (.map k e):=by kernel_rfl):am P o ρ W (bX cr kl D i o.dst ρ β W X):=by
 obtain⟨W',hrun,h1,h2⟩:=Eh h hcc ha hat hy hz (cx.mx hX hq) hx hk ht
 obtain⟨a1,a2,a3⟩:=p5 (cr:=cr) (kl:=kl) (i:=i) hX h1 h2 hc hkl
 refine am.value hrun ⟨[eMx K C P k b (mzD m x n) (cf m x none)],a1,⟨a2,a3,List.pairwise_singleton _ _⟩,fun g r X' hs hv hb' hbv hx' hN=>hD g r X' (fun t=>hs t (by rw[hd];simp)) (fun t=>hb' t (by rw[hd];simp)) ?_⟩
 rw[hc] at hN
 exact(List.cons.inj hN).1
end
end
section
open Go.RowKit Go.Maps Go.ChangeMaps
structure Cod (E:Type) where
 enc:E->Value
 dat:E->DataW Unit
 R:Value->Option (DataW Unit×List MemPlace)
 e0:E
 read:∀e,R (enc e)=some (dat e,[])
 back:∀v d ps e,R v=some (d,ps)->d=dat e->v=enc e
def O3{E:Type}(C:Cod E)(P:Program)(k b n:Nat)(m:Int->Option E)(W:World):Prop:=
 ∃D:DataW Unit,W.ownsMap P k C.R b n D/\IsMap D/\∀x:Int,(Lit.int .i64 x).wf=true->has D (.int .i64 x)=(m x).isSome/\D.atKey (.int .i64 x) (C.dat C.e0)=C.dat ((m x).getD C.e0)
theorem O5{x:Int}(h: -9223372036854775808<=x/\x<=9223372036854775807):(Lit.int .i64 x).wf=true:=by
 show (decide (IntKind.i64.min<=x)&&decide (x<=IntKind.i64.max))=true
 have h1:IntKind.i64.min= -9223372036854775808:=by decide
 have h2:IntKind.i64.max=9223372036854775807:=by decide
 rw[h1,h2,decide_eq_true h.1,decide_eq_true h.2];rfl
section
variable{E:Type}{C:Cod E}
variable{P:Program}{o:Oper}{ρ:Operand->Value}{W:World}{k e b n:Nat}{m:Int->Option E}
theorem lU{t:TypeId}{f:Nat}{r:Value}(h:o.op= .field t x f)(hx:ρ x=v)(hf:∀w,(Instr.field t v f).run P w= .ok r w):(execOp ρ o).run P W= .ok (.value r) W:=by
 unfold execOp;rw[h];simp[hx,hf]
end
section
variable{E:Type}{C:Cod E}{P:Program}{ops:Array Oper}{L:List Nat}{a0:Act}{w0:World}{bor:List Nat}{X0:List Ent}{us cr kl:List (List Nat)}
 {D:Nat->(Tmp->Value)->(Tmp->Value)->(Nat->Ent)->Prop}{i:Nat}{o:Oper}{ρ:Operand->Value}{β:Tmp->Value}{W:World}{X:Nat->Ent}
end
theorem CtxV.holdE{L:List Nat}(cx:CtxV ops L a0 w0 bor X0 us D i ρ β W X)(hX:X q=E)(hu:(atV us i).contains q=true):E.holds W:=by
 have h:=(cx.ok q hu).holds
 rw[hX] at h;exact h
end
section
open Go.RowKit Go.Maps Go.ChangeMaps
def eRg{E:Type}(C:Cod E)(P:Program)(k b r n:Nat)(m:Int->Option E)(left:Int->Bool)(cnt:Nat)(cur:Option (Int×E)):Ent:=⟨[b,r],fun W=>
 ∃(D:DataW Unit) (lf:Lit->Bool) (c0:Nat),W.ranges P k C.R b r n D lf c0/\c0<=cnt/\(∀x:Int,(Lit.int .i64 x).wf=true->lf (.int .i64 x)=left x)/\IsMap D/\
  (∀x:Int,(Lit.int .i64 x).wf=true->has D (.int .i64 x)=(m x).isSome/\D.atKey (.int .i64 x) (C.dat C.e0)=C.dat ((m x).getD C.e0))/\
  (∀x:Int,left x=true->(m x).isSome=true)/\
  ∀x c,cur=some (x,c)->∀W':World,W'.heap[b]? =W.heap[b]? ->W'.heap[r]? =W.heap[r]? ->(Instr.entry (po r 0)).run P W'= .ok (.tuple #[.int .i64 x,C.enc c]) W'⟩
def nxB:Value->Bool
 | .tuple a=>match (a[0]? :Option Value) with
   |some (.bool true)=>true
   |_=>false
 |_=>false
section
variable{E:Type}{C:Cod E}{P:Program}{k b r n cnt:Nat}{m:Int->Option E}{left:Int->Bool}{cur:Option (Int×E)}
theorem Kb:(eRg C P k b r n m left cnt cur).loc:=fun W W' h hb=>by
 obtain⟨D,lf,c0,⟨es,clock,since,seen,c1,h1,h2,h3,h4,h5,h6⟩,hc,h7,h8,h9,hs,h10⟩:=hb
 have eb:W'.heap[b]? =W.heap[b]? :=h b (by simp[eRg])
 have er:W'.heap[r]? =W.heap[r]? :=h r (by simp[eRg])
 exact⟨D,lf,c0,⟨es,clock,since,seen,c1,eb.trans h1,h2,h3,h4,er.trans h5,h6⟩,hc,h7,h8,h9,hs,fun x c hc W2 e1 e2=>h10 x c hc W2 (e1.trans eb) (e2.trans er)⟩
theorem z6{H:Type}{R:Value->Option (DataW H×List MemPlace)}{D:DataW H}{lf:Lit->Bool}(h:W.ranges P k R b r n D lf cnt)(hen:(Instr.entry (po r 0)).run P W= .ok v W)(eb:W'.heap[b]? =W.heap[b]?)(er:W'.heap[r]? =W.heap[r]?):
  (Instr.entry (po r 0)).run P W'= .ok v W':=by
 obtain⟨es,clock,since,seen,c0,hb,_,_,_,hr,_⟩:=h
 have hb':=eb.trans hb
 have hr':=er.trans hr
 simp only[Instr.entry,getObj,Sem.run_bind,Sem.run,hr,hb,Result.andThen] at hen
 simp only[Instr.entry,getObj,Sem.run_bind,Sem.run,hr',hb',Result.andThen]
 cases hs:seen.back? with
 |none=>rw[hs] at hen;simp[go_sem] at hen
 |some q=>
  rw[hs] at hen
  simp only[getObj,Sem.run_bind,Sem.run,hb,Result.andThen] at hen
  simp only[getObj,Sem.run_bind,Sem.run,hb',Result.andThen]
  by_cases hc:(clock != c0)=true
  rw[if_pos hc] at hen
  simp[go_sem] at hen
  rw[if_neg hc] at hen |-
  cases hf:es.find? (·.born==q) with
  |none=>rw[hf] at hen;simp[go_sem] at hen
  |some x=>
   rw[hf] at hen
   simp[go_sem] at hen |-
   exact hen
theorem Dd{H:Type}{R:Value->Option (DataW H×List MemPlace)}{D:DataW H}{lf:Lit->Bool}(h:W.ranges P k R b r n D lf cnt):cnt<=n:=by
 obtain⟨es,clock,since,seen,c0,_,_,hs,_,_,_,hc,_⟩:=h
 rw[<-hc,leftOf]
 exact Nat.le_trans Array.size_filter_le hs
end
section
variable{E:Type}{C:Cod E}{P:Program}{ops:Array Oper}{L:List Nat}{a0:Act}{w0:World}{bor:List Nat}{X0:List Ent}{us cr kl:List (List Nat)}
 {D:Nat->(Tmp->Value)->(Tmp->Value)->(Nat->Ent)->Prop}{i:Nat}{o:Oper}{ρ:Operand->Value}{β:Tmp->Value}{W:World}{X:Nat->Ent}
theorem Cl{r cnt:Nat}{m:Int->Option E}{left:Int->Bool}{x0:Int}{c:E}(h:o.op= .entry x)(hx:ρ x=po r 0)(hE:(eRg C P k b r n m left cnt (some (x0,c))).holds W):(execOp ρ o).run P W= .ok (.value (.tuple #[.int .i64 x0,C.enc c])) W:=by
 obtain⟨D0,lf,c0,hr,hle,hl,hI,hm,hls,hcur⟩:=hE
 have h1:=hcur x0 c rfl W rfl rfl
 unfold execOp;rw[h];simp[hx,h1]
theorem NQ(x y:Value):nxB (.tuple #[.bool true,x,y])=true:=rfl
theorem NC:nxB (.tuple #[.bool false])=false:=rfl
end
end
section
open Go.RowKit
def eIs(b:Nat)(s:ByteArray)(p:Nat):Ent:=⟨[b],fun W=>W.heap[b]? =some (.stringIter s p)⟩
theorem Aw(b:Nat)(s:ByteArray)(p:Nat):(eIs b s p).loc:=fun W W' hk h=>(hk b (by simp[eIs])).trans h
theorem Upd.setIfIn(o:Obj):Upd [b] W {W with heap:=W.heap.setIfInBounds b o}:=by
 refine⟨rfl,rfl,rfl,by simp,fun k hk hn=>?_⟩
 have:b≠k:=fun e=>hn (by simp[e])
 simp[Array.getElem?_setIfInBounds,this]
section
variable{P:Program}{ops:Array Oper}{L:List Nat}{a0:Act}{w0:World}{bor:List Nat}{X0:List Ent}{us cr kl:List (List Nat)}
 {D:Nat->(Tmp->Value)->(Tmp->Value)->(Nat->Ent)->Prop}{i:Nat}{o:Oper}{ρ:Operand->Value}{β:Tmp->Value}{W:World}{X:Nat->Ent}
theorem CtxV.holdJ(cx:CtxV ops L a0 w0 bor X0 us D i ρ β W X)(hX:X q=E)(hu:(atV us i).contains q=true):E.holds W:=by
 have h:=(cx.ok q hu).holds
 rw[hX] at h;exact h
theorem Dp{t:TypeId}{s:ByteArray}(h:o.op= .range t x)(hx:ρ x= .string s)(hd:o.dst=some d)(hc:atV cr i=[q'])(hkl:atV kl i=[])
  (hD:∀(g c:Tmp->Value) (X':Nat->Ent),(∀t,t≠d->g t=ρ (.tmp t))->(∀t,t≠d->c t=β t)->g d= .pointer (some ⟨pb (c d),0,none⟩)->X' q'=eIs (pb (c d)) s 0->D i g c X')
  (ht:P.underlying t=some .string:=by kernel_rfl):am P o ρ W (bX cr kl D i o.dst ρ β W X):=by
 refine am.value (v:=po W.heap.size 0) (w':=W.iter s 0) (by unfold execOp;rw[h];simp[hx,run_range_string W t s ht]) ?_
 refine bL [eIs W.heap.size s 0] hkl (by rw[hc];rfl) ((Ext.refl W).alloc _) (one_new ⟨W.iter_heap s 0,Aw _ _ _,fun k' hk'=>?_⟩) (List.pairwise_singleton _ _) (fun g c X' hs hb hv hN=>?_)
 have:k'=W.heap.size:=by simpa[eIs] using hk'
 subst this
 exact⟨Nat.le_refl _,by show W.heap.size<(W.heap.push _).size;simp⟩
 have aK:=(hv d hd).1;have aW:=(hv d hd).2
 rw[hc] at hN
 refine hD g c X' (fun t ht=>hs t (by rw[hd];simpa using ht.symm)) (fun t ht=>hb t (by rw[hd];simpa using ht.symm)) ?_ ?_
 rw[aK,aW];rfl
 rw[aW];exact(List.cons.inj hN).1
theorem sP{s:ByteArray}{c:Nat}(h:o.op= .next x true)(hx:ρ x=po b 0)(cx:CtxV ops L a0 w0 bor X0 us D i ρ β W X)(hX:X q=eIs b s p)(hq:(atV us i).contains q=true)(hp:p<s.size)(hcc:(s[p]'hp).toNat=c)(hc8:c<128)(hd:o.dst=some d)(hc:atV cr i=[q'])(hkl:atV kl i=[q])
  (hD:∀(g r:Tmp->Value) (X':Nat->Ent),(∀t,t≠d->g t=ρ (.tmp t))->(∀t,t≠d->r t=β t)->g d= .tuple #[.bool true,.int .i64 (p:Int),.int .i32 (c:Int)]->X' q'=eIs b s (p+1)->D i g r X'):am P o ρ W (bX cr kl D i o.dst ρ β W X):=by
 subst hcc
 have hok:=cx.ok q hq
 rw[hX] at hok
 have hb:W.heap[b]? =some (.stringIter s p):=hok.holds
 have hlt:b<W.heap.size:=(hok.own b (by simp[eIs])).2
 refine am.value (v:= .tuple #[.bool true,.int .i64 (p:Int),.int .i32 ((s[p]'hp).toNat:Int)]) (w':={W with heap:=W.heap.setIfInBounds b (.stringIter s (p+1))}) ?_ ?_
 ·unfold execOp;rw[h]
  simp only[hx]
  simp only[Instr.next,getObj,setObj,Sem.run_bind,Sem.run,hb,Result.andThen,hp,if_true,decode_ascii s p hp hc8]
  simp[goInt,Sem.run,hb]
 refine o6 (E:=eIs b s p) (E':=eIs b s (p+1)) hX hc hkl (Upd.setIfIn _) ?_ (Aw _ _ _) (fun k hk=>⟨hk,by simp[eIs] at hk;subst hk;simpa using hlt⟩) fun g r X' hs hb hv hX'=>hD g r X' (fun t ht=>hs t (by rw[hd];simpa using ht.symm)) (fun t ht=>hb t (by rw[hd];simpa using ht.symm)) (hv d hd).1 hX'
 show (W.heap.setIfInBounds b _)[b]? = _
 simp[hlt]
theorem Cz{s:ByteArray}(h:o.op= .next x true)(hx:ρ x=po b 0)(hE:(eIs b s p).holds W)(hp:¬p<s.size):(execOp ρ o).run P W= .ok (.value (.tuple #[.bool false])) W:=by
 have hb:W.heap[b]? =some (.stringIter s p):=hE
 unfold execOp;rw[h]
 simp only[hx]
 simp[Instr.next,getObj,Sem.run,hb,hp]
theorem o8{t t':TypeId}{k:IntKind}{n:Int}{r:ByteArray}(h:o.op= .convert t t' x)(ht:(P.underlying t).isSome=true)(ht':P.underlying t'=some .string)(hx:ρ x= .int k n)(hr:Utf8.encode n=r):(execOp ρ o).run P W= .ok (.value (.string r)) W:=by
 subst hr
 obtain⟨d,hd⟩:=Option.isSome_iff_exists.1 ht
 unfold execOp;rw[h]
 simp[hx,convert,run_underlying hd,run_underlying ht',Conv.intToString]
end
end
section
open Go.RowKit
structure RecM where
 kind:Int
 xid:Int
 tbl:Int
 eds:List EdT
 note:ByteArray
def inB(n a b:Int):Bool:=decide (a<=n)&&decide (n<=b)
def edR(e:EdT):Bool:=inB e.1 0 399&&(if e.2.1= -1 then !eT e.2.2 else (inB e.2.1 0 23&&decide ((e.2.2.size:Int)<=400)))
def bv(r:RecM):Bool:=inB r.kind 1 10&&(inB r.xid 0 127&&(inB r.tbl 0 65535&&(decide ((r.eds.length:Int)<=64)&&(r.eds.all edR&&decide ((r.note.size:Int)<=60000)))))
theorem Cm{s:ByteArray}{m:UInt8}(h:s=⟨#[m]⟩)(hm:m<=2):eT s=false:=by
 subst h
 simp only[eT,Bool.or_eq_false_iff,decide_eq_false_iff_not]
 refine⟨fun h=>h rfl,?_⟩
 show ¬(2:Int)<(m.toNat:Int)
 have:m.toNat<=2:=hm
 omega
theorem KS{s:ByteArray}(h:∀m:Nat,m<3->s≠⟨#[UInt8.ofNat m]⟩):eT s=true:=by
 rcases hk:eT s with _|_
 exfalso
 simp only[eT,Bool.or_eq_false_iff,decide_eq_false_iff_not] at hk
 obtain⟨h1,h2⟩:=hk
 have h1:s.size=1:=by omega
 obtain⟨⟨l⟩⟩:=s
 have hl:l.length=1:=h1
 match l,hl with
 | [c],_=>
   have h3:¬(2:Int)<(c.toNat:Int):=h2
   refine h c.toNat (by omega) ?_
   have:UInt8.ofNat c.toNat=c:=by simp
   rw[this]
 rfl
theorem BP{b:ByteArray}(h:(a.toList==b.toList)=true):a=b:=tU (by simpa using h)
theorem Ck{b:ByteArray}(h:(a.toList==b.toList)=false):a≠b:=fun e=>by rw[e] at h;simp at h
theorem vJ{s:ByteArray}(h:∀m:Nat,m<p->s≠⟨#[UInt8.ofNat m]⟩)(h2:s≠⟨#[UInt8.ofNat p]⟩):∀m:Nat,m<p+1->s≠⟨#[UInt8.ofNat m]⟩:=fun m hm=>by
 by_cases e:m=p
 subst e;exact h2
 exact h m (by omega)
theorem ln{x:Int}{s:ByteArray}:edR (x,sl,s)=(inB x 0 399&&(if sl= -1 then !eT s else (inB sl 0 23&&decide ((s.size:Int)<=400)))):=rfl
theorem fD(n a b:Int)(w:World):
  Calls Tryz.prog 108 #[.int .i64 n,.int .i64 a,.int .i64 b] w (Ret (.bool (inB n a b)) w):=by
 go_enter Tryz.func108,Tryz.ntmps108
 have al:=St.start w
 refine wq (sqr (sqp [.k 6 (.bool false)] ?_))
 refine aa (wq (sqr (sqp [.m 7 0,.m 8 1,.k 9 (.bool (decide (a<=n))),.m 10 9] ?_)))
 refine sqw 10 [11,12,13] rfl (fun _=>sqp [.m 11 0,.m 12 2,.k 13 (.bool (decide (n<=b)))] sqe) ?_
 refine sqp [sPa 14 (decide (a<=n)) (decide (n<=b)),.m 6 14] ?_
 refine aa (wp_ret ?_)
 refine bpr (.bool ((decide (a<=n))&&(decide (n<=b)))) (ai Tryz.results108 rpt) ?_
 exact Ret.of rfl al.ext
theorem DK(x sl:Int)(s:ByteArray)(w:World)(hs:s.size<=9223372036854775807):
  Calls Tryz.prog 110 #[.agg #[.int .i64 x,.int .i64 sl,.string s]] w (Ret (.bool (edR (x,sl,s))) w):=by
 go_enter Tryz.func110,Tryz.ntmps110
 have al:=St.start w
 refine wq (sqr ?_)
 refine ce #[vi x,vi sl,.string s] al fun aB W1 aA=>?_
 refine sqp [.k 2 (.bool false)] ?_
 refine aa (wq (wq (sqr (sqp [.k 5 (po aB 1)] ?_))))
 refine av 0 aA ?_
 refine sqp [.k 7 (.bool (sl==(-1)))] ?_
 refine aa (wbs (fun dC=>?_) fun dC=>?_)
 have s7:=beq_iff_eq.1 dC
 refine wq (wq (sqr ?_))
 refine ej (fun x_=>pb x_) (fun qM=>vp qM) (fun qM=>eIs qM ((⟨#[0,1,2]⟩:ByteArray)) 0) aA (by
   refine svA fun ρ β W X cx=>?_
   exact Dp rfl (cx.co _) rfl rfl rfl (fun _ _ _ _ _=> .intro)) fun qM W7 aZ=>?_
 refine aa (wp_block ?_)
 refine aT (fun t_ mz az W=>∃p:Nat,p<=3/\(∀m:Nat,m<p->s≠⟨#[UInt8.ofNat m]⟩)/\mz=3-p/\az=⟨(ovr (jv az) [(2,2,1,[]),(1,4,1,[]),(4,9,11,[])] t_).toArray,[]⟩/\St w [] [eB aB 84 #[vi x,vi sl,.string s],eIs qM ((⟨#[0,1,2]⟩:ByteArray)) p] W) (3-0) ?_ ?_
 exact⟨0,by decide,fun m hm=>absurd hm (Nat.not_lt_zero m),rfl,(by kernel_rfl),aZ.pk [0,1]⟩
 rintro n8 a8 W8 ⟨p,hp,hno,rfl,hj_,dO⟩
 refine ovz hj_ fun Ty=>?_
 refine wq ?_
 rcases(by omega:p=0\/p=1\/p=2\/p=3) with rfl|rfl|rfl|rfl
 refine sqr ?_
 refine fO (.tuple #[.bool true,vi 0,.int .i32 0]) (eIs qM ((⟨#[0,1,2]⟩:ByteArray)) 1) 1 dO (by
   refine svA fun ρ β W X cx=>?_
   exact sP (c:=0) rfl (cx.ou 8) cx (cx.init 1 _ rfl) rfl (by decide) (by decide) (by decide) rfl rfl rfl (fun _ _ _ _ _=> .intro)) fun W9 cq=>?_
 refine sqp [.k 10 (.bool true)] ?_
 refine aa (wq (wct rfl (wp_skip (aa (wp_block (wq (sqr (sqp [.k 11 (.int .i32 0),.m 4 11] ?_))))))))
 refine aa (wq (sqr (sqp [.k 12 (po aB 2)] ?_)))
 refine av 0 cq ?_
 refine sqp [.m 14 4] ?_
 refine sql (.string ((⟨#[0]⟩:ByteArray))) cq (fun cx=>o8 rfl (by kernel_rfl) (by kernel_rfl) (cx.ou 14) (by decide)) ?_
 refine sqp [.k 16 (.bool (s.toList==((⟨#[0]⟩:ByteArray)).toList))] ?_
 refine aa (wbs (fun mY=>?_) fun mY=>?_)
 refine wq (sqr (sqp [.k 17 (vp aB)] ?_))
 refine av 0 cq ?_
 refine sqk (.bool (inB x 0 399)) cq (fun cx=>⟨_,fD x 0 399 _,(dN (cx.ou 18) (cx.co _) (cx.co _))⟩) fun sa ef=>?_
 refine sqp [.m 2 19] ?_
 refine aa (wp_ret (bb (aj (bb (aj (aj ?_))))))
 refine bpr (.bool (inB x 0 399)) (ai Tryz.results110 rpt) ?_
 exact Ret.bool (by rw[ln,if_pos (by simpa using dC),Cm (BP mY) (by decide)];simp) ef.ext
 refine wp_skip (aw (aa ?_))
 refine⟨3-1,by decide,?_⟩
 exact⟨1,by decide,vJ hno (Ck mY),rfl,(by kernel_rfl),cq.pk [0,1]⟩
 refine sqr ?_
 refine fO (.tuple #[.bool true,vi 1,.int .i32 1]) (eIs qM ((⟨#[0,1,2]⟩:ByteArray)) 2) 1 dO (by
   refine svA fun ρ β W X cx=>?_
   exact sP (c:=1) rfl (cx.ou 8) cx (cx.init 1 _ rfl) rfl (by decide) (by decide) (by decide) rfl rfl rfl (fun _ _ _ _ _=> .intro)) fun uF cG=>?_
 refine sqp [.k 10 (.bool true)] ?_
 refine aa (wq (wct rfl (wp_skip (aa (wp_block (wq (sqr (sqp [.k 11 (.int .i32 1),.m 4 11] ?_))))))))
 refine aa (wq (sqr (sqp [.k 12 (po aB 2)] ?_)))
 refine av 0 cG ?_
 refine sqp [.m 14 4] ?_
 refine sql (.string ((⟨#[1]⟩:ByteArray))) cG (fun cx=>o8 rfl (by kernel_rfl) (by kernel_rfl) (cx.ou 14) (by decide)) ?_
 refine sqp [.k 16 (.bool (s.toList==((⟨#[1]⟩:ByteArray)).toList))] ?_
 refine aa (wbs (fun g0=>?_) fun g0=>?_)
 refine wq (sqr (sqp [.k 17 (vp aB)] ?_))
 refine av 0 cG ?_
 refine sqk (.bool (inB x 0 399)) cG (fun cx=>⟨_,fD x 0 399 _,(dN (cx.ou 18) (cx.co _) (cx.co _))⟩) fun y3 ew=>?_
 refine sqp [.m 2 19] ?_
 refine aa (wp_ret (bb (aj (bb (aj (aj ?_))))))
 refine bpr (.bool (inB x 0 399)) (ai Tryz.results110 rpt) ?_
 exact Ret.bool (by rw[ln,if_pos (by simpa using dC),Cm (BP g0) (by decide)];simp) ew.ext
 refine wp_skip (aw (aa ?_))
 refine⟨3-2,by decide,?_⟩
 exact⟨2,by decide,vJ hno (Ck g0),rfl,(by kernel_rfl),cG.pk [0,1]⟩
 refine sqr ?_
 refine fO (.tuple #[.bool true,vi 2,.int .i32 2]) (eIs qM ((⟨#[0,1,2]⟩:ByteArray)) 3) 1 dO (by
   refine svA fun ρ β W X cx=>?_
   exact sP (c:=2) rfl (cx.ou 8) cx (cx.init 1 _ rfl) rfl (by decide) (by decide) (by decide) rfl rfl rfl (fun _ _ _ _ _=> .intro)) fun IR g9=>?_
 refine sqp [.k 10 (.bool true)] ?_
 refine aa (wq (wct rfl (wp_skip (aa (wp_block (wq (sqr (sqp [.k 11 (.int .i32 2),.m 4 11] ?_))))))))
 refine aa (wq (sqr (sqp [.k 12 (po aB 2)] ?_)))
 refine av 0 g9 ?_
 refine sqp [.m 14 4] ?_
 refine sql (.string ((⟨#[2]⟩:ByteArray))) g9 (fun cx=>o8 rfl (by kernel_rfl) (by kernel_rfl) (cx.ou 14) (by decide)) ?_
 refine sqp [.k 16 (.bool (s.toList==((⟨#[2]⟩:ByteArray)).toList))] ?_
 refine aa (wbs (fun H9=>?_) fun H9=>?_)
 refine wq (sqr (sqp [.k 17 (vp aB)] ?_))
 refine av 0 g9 ?_
 refine sqk (.bool (inB x 0 399)) g9 (fun cx=>⟨_,fD x 0 399 _,(dN (cx.ou 18) (cx.co _) (cx.co _))⟩) fun LS ey=>?_
 refine sqp [.m 2 19] ?_
 refine aa (wp_ret (bb (aj (bb (aj (aj ?_))))))
 refine bpr (.bool (inB x 0 399)) (ai Tryz.results110 rpt) ?_
 exact Ret.bool (by rw[ln,if_pos (by simpa using dC),Cm (BP H9) (by decide)];simp) ey.ext
 refine wp_skip (aw (aa ?_))
 refine⟨3-3,by decide,?_⟩
 exact⟨3,by decide,vJ hno (Ck H9),rfl,(by kernel_rfl),g9.pk [0,1]⟩
 refine sqr ?_
 refine sql (.tuple #[.bool false]) dO (fun cx=>Cz rfl (cx.ou 8) (CtxV.holdJ cx (cx.init 1 _ rfl) rfl) (by decide)) ?_
 refine sqp [.k 10 (.bool false)] ?_
 refine aa (wq (wcf rfl (wp_exit (au (au (bh (aa (wq (sqr (sqp [.k 2 (.bool false)] ?_))))))))))
 refine aa (wp_ret (aj ?_))
 refine bpr (.bool false) (ai Tryz.results110 rpt) ?_
 exact Ret.bool (by rw[ln,if_pos (by simpa using dC),KS hno];simp) dO.ext
 have s7:=beq_eq_false_iff_ne.1 dC
 refine wp_skip (aa (wq (sqr (sqp [.k 20 (vp aB)] ?_))))
 refine av 0 aA ?_
 refine sqk (.bool (inB x 0 399)) aA (fun cx=>⟨_,fD x 0 399 _,(dN (cx.ou 21) (cx.co _) (cx.co _))⟩) fun Mf ki=>?_
 refine sqp [.m 23 22] ?_
 refine p8 23 [24,25,26] ?_ ki rfl (fun hq=>?_) fun Bs fo=>?_
 rotate_left
 refine sqp [.k 24 (po aB 1)] ?_
 refine av 0 ki ?_
 refine sqk (.bool (inB sl 0 23)) ki (fun cx=>⟨_,fD sl 0 23 _,(dN (cx.ou 25) (cx.co _) (cx.co _))⟩) fun Tz NW=>?_
 exact sqE NW
 refine c8 ?_
 refine sqp [sPa 27 (inB x 0 399) (inB sl 0 23),.m 28 27] ?_
 refine d6 28 [29,30,31,32] ?_ rfl (fun hq=>?_) ?_
 rotate_left
 refine sqp [.k 29 (po aB 2)] ?_
 refine av 0 fo ?_
 refine sqp [.k 31 (vi ((s.size:Int))),.k 32 (.bool (decide ((s.size:Int)<=400)))] ?_
 exact sqe
 refine c8 ?_
 refine sqp [sPa 33 ((inB x 0 399)&&(inB sl 0 23)) (decide ((s.size:Int)<=400)),.m 2 33] ?_
 refine aa (wp_ret ?_)
 refine bpr (.bool (((inB x 0 399)&&(inB sl 0 23))&&(decide ((s.size:Int)<=400)))) (ai Tryz.results110 rpt) ?_
 exact Ret.bool (by rw[ln,if_neg (by simpa using dC),Bool.and_assoc]) fo.ext
end
section
open Go.RowKit
def edC(e:EdT):List Value:=[.int .i64 e.1,.int .i64 e.2.1,.string e.2.2]
theorem bJ(e:EdT):(edC e).length=3:=rfl
theorem k8(h:k<l.length):∃ep es eb,l[k]? =some (ep,es,eb):=⟨_,_,_,List.getElem?_eq_getElem h⟩
def kM(l:List EdT):Int:=if l.all edR=true then -1 else ((l.findIdx fun e=>!edR e:Nat):Int)
theorem Kf:decide ((0:Int)<=kM l)=!l.all edR:=by
 unfold kM
 rcases h:l.all edR with _|_
 rw[if_neg (by decide)];exact decide_eq_true (Int.natCast_nonneg _)
 rw[if_pos rfl];rfl
theorem KK(he:l[j]? =some e)(h:edR e=false)(ha:∀i x,i<j->l[i]? =some x->edR x=true):kM l=(j:Int):=by
 obtain⟨hj,rfl⟩:=List.getElem?_eq_some_iff.1 he
 have h1:l.all edR=false:=by
  rw[List.all_eq_false]
  exact⟨l[j],List.getElem_mem hj,by rw[h];decide⟩
 rw[kM,h1,if_neg (by decide)]
 congr 1
 rw[List.findIdx_eq hj]
 exact⟨by rw[h];rfl,fun i hi=>by rw[ha i _ hi (List.getElem?_eq_getElem (by omega))];rfl⟩
theorem GZ(hj:¬((j:Int)<(l.length:Int)))(ha:∀i x,i<j->l[i]? =some x->edR x=true):kM l= -1:=by
 have h1:l.all edR=true:=by
  rw[List.all_eq_true]
  intro x hx
  obtain⟨i,hi,rfl⟩:=List.mem_iff_getElem.1 hx
  exact ha i _ (by omega) (List.getElem?_eq_getElem hi)
 rw[kM,if_pos h1]
theorem x5(ha:∀i x,i<j->l[i]? =some x->edR x=true)(he:l[j]? =some e)(h:edR e=true):∀i x,i<j+1->l[i]? =some x->edR x=true:=fun i x hi hx=>by
 by_cases e2:i=j
 subst e2
 rw[he] at hx
 injection hx with hx
 subst hx;exact h
 exact ha i x (by omega) hx
theorem zZ(x sl:Int)(s:ByteArray)(w:World)(hs:s.size<=9223372036854775807):
  Calls Tryz.prog 109 #[.agg #[.int .i64 x,.int .i64 sl,.string s]] w (Ret (.bool (!edR (x,sl,s))) w):=by
 go_enter Tryz.func109,Tryz.ntmps109
 have al:=St.start w
 refine wq (sqr ?_)
 refine ce #[vi x,vi sl,.string s] al fun aB W1 aA=>?_
 refine sqp [.k 2 (.bool false)] ?_
 refine aa (wq (sqr ?_))
 refine bE 0 3 aA ?_
 refine sqk (.bool (edR (x,sl,s))) aA (fun cx=>⟨_,DK x sl s _ (by omega),(ax (cx.ou 3))⟩) fun W4 be=>?_
 refine sqp [.k 5 (.bool (!(edR (x,sl,s)))),.m 2 5] ?_
 refine aa (wp_ret ?_)
 refine bpr (.bool (!(edR (x,sl,s)))) (ai Tryz.results109 rpt) ?_
 exact Ret.of rfl be.ext
theorem Hf(A:Option Addr)(c:Nat)(l:List EdT)(w:World)(hA:At w A (l.flatMap edC))(hl:l.length<=1000000)(hz:∀e∈l,e.2.2.size<=9223372036854775807):
  Calls Tryz.prog 117 #[.slice A l.length c,.func (.func 109) #[] #[]] w (Ret (.int .i64 (kM l)) w):=by
 go_enter Tryz.func117,Tryz.ntmps117
 have al:=St.start w
 refine wq (sqr (sqp [.k 4 (vi 0)] ?_))
 refine aa (wq (wq (sqr (sqp [.m 6 0,.k 7 (vi ((l.length:Int))),.k 8 (vi 0)] ?_))))
 refine aa (wp_block ?_)
 refine aT (fun t_ mz az W=>∃j:Nat,j<=l.length/\(∀i x,i<j->l[i]? =some x->edR x=true)/\mz=l.length-j/\az=⟨(ovr (jv az) [(4,4,2,[]),(2,8,0,[vi ((j:Int))]),(0,9,10,[])] t_).toArray,[]⟩/\St w [] [] W) (l.length-0) ?_ ?_
 exact⟨0,Nat.zero_le _,fun i x h=>absurd h (Nat.not_lt_zero i),rfl,(by kernel_rfl),al.pk []⟩
 rintro n5 a5 W5 ⟨j,hj,ha,rfl,hj_,aR⟩
 refine ovz hj_ fun w5=>?_
 refine wq (sqr (sqp [.k 9 (.bool (decide ((j:Int)<(l.length:Int))))] ?_))
 refine aa (wq (wds (fun fF oa=>?_) fun fF oa=>?_))
 refine wp_skip (aa (wq (wp_block (wq (sqr (sqp [.m 10 8,.m 5 10] ?_))))))
 refine aa (wq ?_)
 obtain⟨ep,es,eb,hek⟩:=k8 (l:=l) (k:=j) (by omega)
 have hez:eb.size<=9223372036854775807:=hz _ (List.mem_of_getElem? hek)
 refine sqr (sqp [.m 11 1,.m 12 0,.m 13 5] ?_)
 refine sql (.pointer (some ((ad A).add (j*3)))) aR (fun cx=>aI (e:=84) (m:=j) (sz:=3) rfl (by kernel_rfl) (by kernel_rfl) (cx.ou 12) (cx.ou 13) (by omega) (by omega) (hA.ext cx.upd.to_ext) (bq (sz:=3) bJ (by decide) (by omega))) ?_
 refine sql (.agg #[vi ep,vi es,.string eb]) aR (fun cx=>bT (f:=edC) (m:=j) (sz:=3) (off:=0) (n:=3) rfl (by kernel_rfl) (by kernel_rfl) (cx.ou 14) rfl bJ (hA.ext cx.upd.to_ext) hek (fun k hk=>match k,hk with|0,_=>rfl|1,_=>rfl|2,_=>rfl|k+3,hk=>absurd hk (by omega))) ?_
 refine sqv (.bool (!(edR (ep,es,eb)))) aR (iq rfl rfl rfl rfl rfl (fun _ _ _ h=>h) fun ρ β W X cx=>⟨_,_,cQ (f:=109) (args:=#[.agg #[vi ep,vi es,.string eb]]) (args':=#[.agg #[vi ep,vi es,.string eb]]) rfl rfl (cx.ou 11) (by kernel_rfl) (ax (cx.ou 15)) rfl,zZ ep es eb _ hez⟩) fun zd dv=>?_
 refine aa ?_
 rcases Bool.eq_false_or_eq_true (edR (ep,es,eb)) with dj|dj
 refine wp_cond_false (show Act.eval _ _= .bool false from(congrArg Value.bool (by rw[dj];rfl))) (wp_skip (aw (aa (sqr (sqp [sI 18 ((j:Int)+1) (by omega),.m 8 18] ?_)))))
 refine aa ?_
 refine⟨l.length-((j+1)),by omega,?_⟩
 exact⟨(j+1),by omega,x5 ha hek (by simpa using dj),rfl,(by kernel_rfl),dv.pk []⟩
 refine wp_cond_true (show Act.eval _ _= .bool true from(congrArg Value.bool (by rw[dj];rfl))) (wq (sqr (sqp [.m 17 5,.m 4 17] ?_)))
 refine aa (wp_ret (bb (aj (aj (bb (aj ?_))))))
 refine bpr (vi ((j:Int))) (ai Tryz.results117 rpt) ?_
 exact Ret.int (KK hek (by simpa using dj) ha).symm dv.ext
 refine wp_exit (au (au (bh (aa (wq (sqr (sqp [.k 4 (vi (-1))] ?_)))))))
 refine aa (wp_ret ?_)
 refine bpr (vi (-1)) (ai Tryz.results117 rpt) ?_
 exact Ret.int (GZ (of_decide_eq_false fF) ha).symm aR.ext
theorem JC(A:Option Addr)(c:Nat)(l:List EdT)(w:World)(hA:At w A (l.flatMap edC))(hl:l.length<=1000000)(hz:∀e∈l,e.2.2.size<=9223372036854775807):
  Calls Tryz.prog 53 #[.slice A l.length c,.func (.func 109) #[] #[]] w (Ret (.bool (!l.all edR)) w):=by
 go_enter Tryz.func53,Tryz.ntmps53
 have al:=St.start w
 refine wq (sqr (sqp [.k 4 (.bool false)] ?_))
 refine aa (wq (sqr (sqp [.m 5 0,.m 6 1] ?_)))
 refine sqk (vi ((kM l))) al (fun cx=>⟨_,Hf _ _ l _ (hA.ext cx.upd.to_ext) hl hz,(aP (cx.ou 5) (cx.ou 6))⟩) fun W4 be=>?_
 refine sqp [.k 8 (.bool (decide (0<=(kM l)))),.m 4 8] ?_
 refine aa (wp_ret ?_)
 refine bpr (.bool (decide (0<=(kM l)))) (ai Tryz.results53 rpt) ?_
 exact Ret.bool Kf be.ext
end
section
open Go.RowKit
def Ly(r:RecM)(A:Option Addr)(c:Nat):Value:= .agg #[.int .i64 r.kind,.int .i64 r.xid,.int .i64 r.tbl,.slice none 0 0,.slice none 0 0,.slice A r.eds.length c,.slice none 0 0,.string r.note]
theorem NJ(w:World):
  Calls Tryz.prog 156 #[sn,.func (.func 112) #[] #[]] w (Ret (.int .i64 (-1)) w):=by
 go_enter Tryz.func156,Tryz.ntmps156
 have al:=St.start w
 refine wq (sqr (sqp [.k 4 (vi 0)] ?_))
 refine aa (wq (wq (sqr (sqp [.m 6 0,.k 7 (vi 0),.k 8 (vi 0)] ?_))))
 refine aa (wp_block ?_)
 refine aT (fun t_ mz az W=>∃j:Nat,j<=0/\mz=0-j/\az=⟨(ovr (jv az) [(4,4,2,[]),(2,8,0,[vi ((j:Int))]),(0,9,10,[])] t_).toArray,[]⟩/\St w [] [] W) (0-0) ?_ ?_
 exact⟨0,Nat.zero_le _,rfl,(by kernel_rfl),al.pk []⟩
 rintro n5 a5 W5 ⟨j,hj,rfl,hj_,aR⟩
 refine ovz hj_ fun w5=>?_
 refine wq (sqr ?_)
 have hd7:(decide ((j:Int)<0))=false:=(decide_eq_false (by omega))
 refine sqp [.e 9 (.bool (decide ((j:Int)<0))) (.bool false) (congrArg Value.bool hd7)] ?_
 refine aa (wq (wcf rfl (wp_exit (au (au (bh (aa (wq (sqr (sqp [.k 4 (vi (-1))] ?_))))))))))
 refine aa (wp_ret ?_)
 refine bpr (vi (-1)) (ai Tryz.results156 rpt) ?_
 exact Ret.of rfl aR.ext
theorem Lc(w:World):
  Calls Tryz.prog 111 #[sn,.func (.func 112) #[] #[]] w (Ret (.bool false) w):=by
 go_enter Tryz.func111,Tryz.ntmps111
 have al:=St.start w
 refine wq (sqr (sqp [.k 4 (.bool false)] ?_))
 refine aa (wq (sqr (sqp [.m 5 0,.m 6 1] ?_)))
 refine sqk (vi ((-1))) al (fun cx=>⟨_,NJ _,(aP (cx.ou 5) (cx.ou 6))⟩) fun W4 be=>?_
 refine sqp [.k 8 (.bool (decide (0<=(-1)))),.m 4 8] ?_
 refine aa (wp_ret ?_)
 refine bpr (.bool (decide (0<=(-1)))) (ai Tryz.results111 rpt) ?_
 exact Ret.bool (by decide) be.ext
theorem NH(w:World):
  Calls Tryz.prog 180 #[sn,.func (.func 158) #[] #[]] w (Ret (.int .i64 (-1)) w):=by
 go_enter Tryz.func180,Tryz.ntmps180
 have al:=St.start w
 refine wq (sqr (sqp [.k 4 (vi 0)] ?_))
 refine aa (wq (wq (sqr (sqp [.m 6 0,.k 7 (vi 0),.k 8 (vi 0)] ?_))))
 refine aa (wp_block ?_)
 refine aT (fun t_ mz az W=>∃j:Nat,j<=0/\mz=0-j/\az=⟨(ovr (jv az) [(4,4,2,[]),(2,8,0,[vi ((j:Int))]),(0,9,10,[])] t_).toArray,[]⟩/\St w [] [] W) (0-0) ?_ ?_
 exact⟨0,Nat.zero_le _,rfl,(by kernel_rfl),al.pk []⟩
 rintro n5 a5 W5 ⟨j,hj,rfl,hj_,aR⟩
 refine ovz hj_ fun w5=>?_
 refine wq (sqr ?_)
 have hd7:(decide ((j:Int)<0))=false:=(decide_eq_false (by omega))
 refine sqp [.e 9 (.bool (decide ((j:Int)<0))) (.bool false) (congrArg Value.bool hd7)] ?_
 refine aa (wq (wcf rfl (wp_exit (au (au (bh (aa (wq (sqr (sqp [.k 4 (vi (-1))] ?_))))))))))
 refine aa (wp_ret ?_)
 refine bpr (vi (-1)) (ai Tryz.results180 rpt) ?_
 exact Ret.of rfl aR.ext
theorem KL(w:World):
  Calls Tryz.prog 157 #[sn,.func (.func 158) #[] #[]] w (Ret (.bool false) w):=by
 go_enter Tryz.func157,Tryz.ntmps157
 have al:=St.start w
 refine wq (sqr (sqp [.k 4 (.bool false)] ?_))
 refine aa (wq (sqr (sqp [.m 5 0,.m 6 1] ?_)))
 refine sqk (vi ((-1))) al (fun cx=>⟨_,NH _,(aP (cx.ou 5) (cx.ou 6))⟩) fun W4 be=>?_
 refine sqp [.k 8 (.bool (decide (0<=(-1)))),.m 4 8] ?_
 refine aa (wp_ret ?_)
 refine bpr (.bool (decide (0<=(-1)))) (ai Tryz.results157 rpt) ?_
 exact Ret.bool (by decide) be.ext
theorem Eo(w:World):
  Calls Tryz.prog 113 #[sn] w (Ret (.bool true) w):=by
 go_enter Tryz.func113,Tryz.ntmps113
 have al:=St.start w
 refine wq (sqr (sqp [.k 2 (.bool false)] ?_))
 refine aa (wq (sqr (sqp [.m 3 0,.k 4 (vi 0),.k 5 (.bool true),.k 6 (.bool true)] ?_)))
 refine dE 6 [7,8,9] rfl rfl ?_
 refine sqp [.m 7 0] ?_
 refine sqk (.bool false) al (fun cx=>⟨_,KL _,(aP (cx.ou 7) (cx.sees.func _))⟩) fun W7 aZ=>?_
 refine sqp [.k 9 (.bool true)] ?_
 refine sqp [.k 10 (.bool true),.k 2 (.bool true)] ?_
 refine aa (wp_ret ?_)
 refine bpr (.bool true) (ai Tryz.results113 rpt) ?_
 exact Ret.bool (by decide) aZ.ext
theorem l3(k x t:Int)(A:Option Addr)(c:Nat)(l:List EdT)(note:ByteArray)(w:World)(hA:At w A (l.flatMap edC))(hl:l.length<=1000000)(hz:∀e∈l,e.2.2.size<=9223372036854775807)(hns:note.size<=9223372036854775807):
  Calls Tryz.prog 51 #[.agg #[.int .i64 k,.int .i64 x,.int .i64 t,sn,sn,.slice A l.length c,sn,.string note]] w (Ret (.bool (bv ⟨k,x,t,l,note⟩)) w):=by
 go_enter Tryz.func51,Tryz.ntmps51
 have al:=St.start w
 refine wq (sqr ?_)
 refine ce #[vi k,vi x,vi t,sn,sn,.slice A l.length c,sn,.string note] al fun aB W1 aA=>?_
 refine sqp [.k 2 (.bool false)] ?_
 refine aa (wq (sqr (sqp [.k 6 (vp aB)] ?_)))
 refine av 0 aA ?_
 refine sqk (.bool (inB k 1 10)) aA (fun cx=>⟨_,fD k 1 10 _,(dN (cx.ou 7) (cx.co _) (cx.co _))⟩) fun W5 aR=>?_
 refine sqp [.m 9 8] ?_
 refine p8 9 [10,11,12] ?_ aR rfl (fun hq=>?_) fun wY dR=>?_
 rotate_left
 refine sqp [.k 10 (po aB 1)] ?_
 refine av 0 aR ?_
 refine sqk (.bool (inB x 0 127)) aR (fun cx=>⟨_,fD x 0 127 _,(dN (cx.ou 11) (cx.co _) (cx.co _))⟩) fun W9 cq=>?_
 exact sqE cq
 refine c8 ?_
 refine sqp [sPa 13 (inB k 1 10) (inB x 0 127),.m 14 13] ?_
 refine p8 14 [15,16,17] ?_ dR rfl (fun hq=>?_) fun pU dl=>?_
 rotate_left
 refine sqp [.k 15 (po aB 2)] ?_
 refine av 0 dR ?_
 refine sqk (.bool (inB t 0 65535)) dR (fun cx=>⟨_,fD t 0 65535 _,(dN (cx.ou 16) (cx.co _) (cx.co _))⟩) fun zd dv=>?_
 exact sqE dv
 refine c8 ?_
 refine sqp [sPa 18 ((inB k 1 10)&&(inB x 0 127)) (inB t 0 65535),.m 3 18] ?_
 refine aa (wq (sqr (sqp [.k 19 (po aB 5)] ?_)))
 refine av 0 dl ?_
 refine sqp [.k 21 (vi ((l.length:Int))),.k 22 (.bool (decide ((l.length:Int)<=64))),.m 23 22] ?_
 refine p8 23 [24,25,26,27] ?_ dl rfl (fun hq=>?_) fun zb dU=>?_
 rotate_left
 refine sqp [.k 24 (po aB 5)] ?_
 refine av 0 dl ?_
 refine sqk (.bool (!(l.all edR))) dl (fun cx=>⟨_,JC _ _ l _ (hA.ext cx.upd.to_ext) hl hz,(aP (cx.ou 25) (cx.sees.func _))⟩) fun w4 fy=>?_
 refine sqp [.k 27 (.bool (!(!(l.all edR))))] ?_
 exact sqE fy
 refine c8 ?_
 refine sqp [sPa 28 (decide ((l.length:Int)<=64)) (!(!(l.all edR))),.m 4 28] ?_
 refine aa (wq (sqr (sqp [.k 29 (po aB 6)] ?_)))
 refine av 0 dU ?_
 refine sqp [.k 31 (vi 0),.k 32 (.bool true),.k 33 (.bool true)] ?_
 refine dE 33 [34,35,36,37] rfl rfl ?_
 refine sqp [.k 34 (po aB 6)] ?_
 refine av 0 dU ?_
 refine sqk (.bool false) dU (fun cx=>⟨_,Lc _,(aP (cx.ou 35) (cx.sees.func _))⟩) fun Fl iG=>?_
 refine sqp [.k 37 (.bool true)] ?_
 refine sqp [.k 38 (.bool true),.k 5 (.bool true)] ?_
 refine aa (wq (sqr (sqp [.m 39 3,.m 40 39] ?_)))
 refine sqw 40 [41] rfl (fun _=>sqp [.m 41 4] sqe) ?_
 refine sqp [sPa 42 (((inB k 1 10)&&(inB x 0 127))&&(inB t 0 65535)) ((decide ((l.length:Int)<=64))&&(!(!(l.all edR)))),.m 43 42] ?_
 refine sqw 43 [44] rfl (fun _=>sqp [.k 44 (.bool true)] sqe) ?_
 refine sqp [sPa 45 ((((inB k 1 10)&&(inB x 0 127))&&(inB t 0 65535))&&((decide ((l.length:Int)<=64))&&(!(!(l.all edR))))) true,.m 46 45] ?_
 refine p8 46 [47,48,49] ?_ iG rfl (fun hq=>?_) fun OS kX=>?_
 rotate_left
 refine sqp [.k 47 (po aB 3)] ?_
 refine av 0 iG ?_
 refine sqk (.bool true) iG (fun cx=>⟨_,Eo _,(ax (cx.ou 48))⟩) fun Bt cN=>?_
 exact sqE cN
 refine c8 ?_
 refine sqp [sPa 50 (((((inB k 1 10)&&(inB x 0 127))&&(inB t 0 65535))&&((decide ((l.length:Int)<=64))&&(!(!(l.all edR)))))&&true) true,.m 51 50] ?_
 refine p8 51 [52,53,54] ?_ kX rfl (fun hq=>?_) fun Fi fY=>?_
 rotate_left
 refine sqp [.k 52 (po aB 4)] ?_
 refine av 0 kX ?_
 refine sqk (.bool true) kX (fun cx=>⟨_,Eo _,(ax (cx.ou 53))⟩) fun IT kh=>?_
 exact sqE kh
 refine c8 ?_
 refine sqp [sPa 55 ((((((inB k 1 10)&&(inB x 0 127))&&(inB t 0 65535))&&((decide ((l.length:Int)<=64))&&(!(!(l.all edR)))))&&true)&&true) true,.m 56 55] ?_
 refine d6 56 [57,58,59,60] ?_ rfl (fun hq=>?_) ?_
 rotate_left
 refine sqp [.k 57 (po aB 7)] ?_
 refine av 0 fY ?_
 refine sqp [.k 59 (vi ((note.size:Int))),.k 60 (.bool (decide ((note.size:Int)<=60000)))] ?_
 exact sqe
 refine c8 ?_
 refine sqp [sPa 61 (((((((inB k 1 10)&&(inB x 0 127))&&(inB t 0 65535))&&((decide ((l.length:Int)<=64))&&(!(!(l.all edR)))))&&true)&&true)&&true) (decide ((note.size:Int)<=60000)),.m 2 61] ?_
 refine aa (wp_ret ?_)
 refine bpr (.bool ((((((((inB k 1 10)&&(inB x 0 127))&&(inB t 0 65535))&&((decide ((l.length:Int)<=64))&&(!(!(l.all edR)))))&&true)&&true)&&true)&&(decide ((note.size:Int)<=60000)))) (ai Tryz.results51 rpt) ?_
 exact Ret.bool (by simp[bv,Bool.and_assoc]) fY.ext
end
section
open Go.RowKit
theorem Ext.below_{x z:World}(k:Below x.heap.size x z):Ext x z:=⟨k.os,k.tape,k.output,k.size,fun i hi=>k.block i hi⟩
def cd(l:List ByteArray):ByteArray:=bH (l.flatMap fun s=>s.data.toList)
theorem fP:cd []=⟨#[]⟩:=rfl
theorem bD(a:ByteArray)(l:List ByteArray):cd (a::l)=a++cd l:=by
 rw[cd,List.flatMap_cons,nO];congr 1
theorem iH(l:List ByteArray):(cd l).size=(l.map (·.size)).sum:=by
 induction l with
 |nil=>rfl
 |cons a l ih=>rw[bD,ByteArray.size_append,ih,List.map_cons,List.sum_cons]
theorem JQ(g cap:Nat)(xs:List ByteArray)(w:World)(hA:At w (some ⟨g,0,none⟩) (xs.map Value.string))(hg:g<w.heap.size)(hc:xs.length<=cap)(hlen:(cd xs).size<=2000000)(hN:xs.length<=100):
  Calls Tryz.prog 163 #[.slice (some ⟨g,0,none⟩) xs.length cap,.string ⟨#[]⟩] w (Ret (.string (cd xs)) w):=by
 have hj:Lib.join (xs.map (·.data.toList)) []=xs.flatMap fun s=>s.data.toList:=by
  rw[Lib.join,List.intercalate]
  have:∀l:List (List UInt8),(List.intersperse [] l).flatten=l.flatten:=by
   intro l
   induction l with
   |nil=>rfl
   |cons a l ih=>
    cases l with
    |nil=>rfl
    |cons b l=>rw[List.intersperse_cons_cons,List.flatten_cons,List.flatten_cons,ih];simp
  rw[this,List.flatMap_def]
 refine(Tryz.strings_Join g 0 cap xs ⟨#[]⟩ w (fun j x hx=>?_) hg (by omega) hc ?_).mono ?_
 obtain⟨ad,h1,h2,h3⟩:=hA j (.string x) (by simp[hx])
 injection h1 with h1
 subst h1
 have e:(⟨g,0+j,none⟩:Addr)=(⟨g,0,none⟩:Addr).add j:=by simp[Addr.add]
 rw[e];exact h3
 show (Lib.join (xs.map (·.data.toList)) []).length<= _
 rw[hj]
 have:(xs.flatMap fun s=>s.data.toList).length=(cd xs).size:=(lv _).symm
 omega
 rintro e w' ⟨rfl,hb⟩
 refine⟨?_,Ext.below_ hb⟩
 show Ending.returned (.string ⟨(Lib.join (xs.map (·.data.toList)) []).toArray⟩)= _
 rw[hj]
 rfl
theorem Gm(g cap:Nat)(xs:List ByteArray)(w:World)(hA:At w (some ⟨g,0,none⟩) (xs.map Value.string))(hg:g<w.heap.size)(hcp:xs.length<=cap)(hlen:(cd xs).size<=2000000)(hN:xs.length<=100):
  Calls Tryz.prog 119 #[.slice ((some ⟨g,0,none⟩)) xs.length cap] w (Ret (.string (cd xs)) w):=by
 go_enter Tryz.func119,Tryz.ntmps119
 have al:=St.start w
 refine wq (sqr (sqp [.k 2 (.string ⟨#[]⟩)] ?_))
 refine aa (wq (sqr (sqp [.m 3 0] ?_)))
 refine sqk (.string ((cd xs))) al (fun cx=>⟨_,JQ g cap xs _ (hA.ext cx.upd.to_ext) (Nat.lt_of_lt_of_le hg cx.upd.size) hcp hlen hN,(aP (cx.ou 3) (cx.co _))⟩) fun W3 bc=>?_
 refine sqp [.m 2 4] ?_
 refine aa (wp_ret ?_)
 refine bpr (.string ((cd xs))) (ai Tryz.results119 rpt) ?_
 exact Ret.of rfl bc.ext
theorem mI(v:Value)(xs:List ByteArray)(w:World)(hown:w.ownsRow 0 9 1 v xs.length (xs.map Value.string))(hne:0<xs.length)(hlen:(cd xs).size<=2000000)(hN:xs.length<=100):Calls Tryz.prog 119 #[v] w (Ret (.string (cd xs)) w):=by
 have hlt:=hown.lt
 rcases hown.2 with ⟨hv,h0⟩|⟨g,cap,cur,hv,hb,hg,hle,hmx,hcs,htk⟩
 omega
 subst hv
 exact Gm g cap xs w (At.of_own hown) (hlt g rfl).2 (by omega) hlen hN
theorem lr(n:Int)(w:World):
  Calls Tryz.prog 160 #[.int .i64 n] w (Ret (.string (ag n 1)) w):=by
 go_enter Tryz.func160,Tryz.ntmps160
 have al:=St.start w
 refine wq (sqr (sqp [.k 2 (.string ⟨#[]⟩)] ?_))
 refine aa (wq (sqr (sqp [.m 3 0] ?_)))
 refine sqk (.string (ag n 1)) al (fun cx=>⟨_,qy n _,(aP (cx.ou 3) (cx.co _))⟩) fun W3 bc=>?_
 refine sqp [.m 2 4] ?_
 refine aa (wp_ret ?_)
 refine bpr (.string (ag n 1)) (ai Tryz.results160 rpt) ?_
 exact Ret.of rfl bc.ext
theorem wj(n:Int)(w:World):
  Calls Tryz.prog 161 #[.int .i64 n] w (Ret (.string (ag n 2)) w):=by
 go_enter Tryz.func161,Tryz.ntmps161
 have al:=St.start w
 refine wq (sqr (sqp [.k 2 (.string ⟨#[]⟩)] ?_))
 refine aa (wq (sqr (sqp [.m 3 0] ?_)))
 refine sqk (.string (ag n 2)) al (fun cx=>⟨_,wK n _,(aP (cx.ou 3) (cx.co _))⟩) fun W3 bc=>?_
 refine sqp [.m 2 4] ?_
 refine aa (wp_ret ?_)
 refine bpr (.string (ag n 2)) (ai Tryz.results161 rpt) ?_
 exact Ret.of rfl bc.ext
end
section
open Go.RowKit
def dh(l:List UInt8):ByteArray:=⟨l.toArray⟩
def iN:ByteArray:=aX ⟨#[0]⟩
def hdB(r:RecM):ByteArray:=cd [ag r.kind 1,ag r.xid 1,ag r.tbl 2,iN,iN,ag (r.eds.length:Int) 1]
def edB(s:ByteArray)(e:EdT):ByteArray:=cd [s,ag e.1 2,ag (e.2.1+1) 1,aX e.2.2]
def cW(s:ByteArray)(l:List EdT):ByteArray:=l.foldl edB s
def ay(r:RecM):ByteArray:=if bv r=true then cd [cd [cW (hdB r) r.eds,ag 0 1],aX r.note] else ⟨#[]⟩
def aC(r:RecM):ByteArray:=if bv r=true then cd [ag ((ay r).size:Int) 4,ag (aY (ay r):Int) 4,ay r] else ⟨#[]⟩
theorem gZ(s:ByteArray):(aX s).size=2+s.size:=by rw[aX,ByteArray.size_append,aF _ _ (by decide)]
theorem wy:iN.size=3:=gZ _
theorem iK(r:RecM):(hdB r).size=11:=by
 rw[hdB,iH]
 simp only[List.map_cons,List.map_nil,List.sum_cons,List.sum_nil,wy,aF _ 1 (by decide),aF _ 2 (by decide)]
 rfl
theorem p7(a b:ByteArray):(cd [a,b]).size=a.size+b.size:=by
 rw[iH];simp only[List.map_cons,List.map_nil,List.sum_cons,List.sum_nil];omega
theorem wT(a b c:ByteArray):(cd [a,b,c]).size=a.size+b.size+c.size:=by
 rw[iH];simp only[List.map_cons,List.map_nil,List.sum_cons,List.sum_nil];omega
theorem sX(s:ByteArray)(e:EdT):(edB s e).size=s.size+5+e.2.2.size:=by
 rw[edB,iH]
 simp only[List.map_cons,List.map_nil,List.sum_cons,List.sum_nil,gZ,aF _ 1 (by decide),aF _ 2 (by decide)]
 omega
theorem wS{s:ByteArray}(he:l[j]? =some e):cW s (l.take (j+1))=edB (cW s (l.take j)) e:=by
 obtain⟨hj,rfl⟩:=List.getElem?_eq_some_iff.1 he
 rw[cW,List.take_succ_eq_append_getElem hj,List.foldl_append];rfl
theorem k9{l:List EdT}(h:∀e∈l,e.2.2.size<=400):∀s:ByteArray,(cW s l).size<=s.size+l.length*405:=by
 induction l with
 |nil=>intro s;exact Nat.le_refl _
 |cons e l ih=>
  intro s
  have h1:=ih (fun x hx=>h x (by simp[hx])) (edB s e)
  rw[sX] at h1
  have h2:=h e (by simp)
  show (cW (edB s e) l).size<= _
  rw[List.length_cons,Nat.add_mul]
  omega
theorem dA(h:edR e=true):e.2.2.size<=400:=by
 simp only[edR,Bool.and_eq_true] at h
 have h2:=h.2
 split at h2
 simp only[eT,Bool.not_eq_true',Bool.or_eq_false_iff,decide_eq_false_iff_not] at h2
 omega
 simp only[Bool.and_eq_true,decide_eq_true_eq] at h2
 omega
theorem ld(h:edR e=true):(0<=e.1/\e.1<=399)/\  -1<=e.2.1/\e.2.1<=23:=by
 simp only[edR,inB,Bool.and_eq_true,decide_eq_true_eq] at h
 refine⟨h.1,?_⟩
 have h2:=h.2
 split at h2
 omega
 simp only[Bool.and_eq_true,decide_eq_true_eq] at h2
 omega
structure RecOk (r:RecM):Prop where
 kind:1<=r.kind/\r.kind<=10
 xid:0<=r.xid/\r.xid<=127
 tbl:0<=r.tbl/\r.tbl<=65535
 many:r.eds.length<=64
 eds:∀e∈r.eds,edR e=true
 note:r.note.size<=60000
theorem d8{r:RecM}(h:bv r=true):RecOk r:=by
 simp only[bv,inB,Bool.and_eq_true,decide_eq_true_eq,List.all_eq_true] at h
 exact⟨h.1,h.2.1,h.2.2.1,by omega,h.2.2.2.2.1,by omega⟩
theorem jo(r:RecM):(ay r).size<=100000:=by
 unfold ay
 split
 rename_i h
 have h1:=d8 h
 have h2:=k9 (fun e he=>dA (h1.eds e he)) (hdB r)
 have h3:r.eds.length*405<=64*405:=Nat.mul_le_mul_right _ h1.many
 have h4:=h1.note
 rw[iK] at h2
 rw[iH]
 simp only[List.map_cons,List.map_nil,List.sum_cons,List.sum_nil,gZ,iH,aF _ 1 (by decide)]
 omega
 exact Nat.zero_le _
theorem Dk(w:World):
  Calls Tryz.prog 181 #[sn] w (Ret (.bool true) w):=by
 go_enter Tryz.func181,Tryz.ntmps181
 have al:=St.start w
 refine wq (sqr (sqp [.k 2 (.bool false)] ?_))
 refine aa (wq (wq (sqr (sqp [.m 5 0,.k 6 (vi 0),.k 7 (vi 0)] ?_))))
 refine aa (wp_block ?_)
 refine aT (fun t_ mz az W=>∃j:Nat,j<=0/\mz=0-j/\az=⟨(ovr (jv az) [(2,2,1,[]),(1,4,1,[]),(2,7,0,[vi ((j:Int))]),(0,8,7,[])] t_).toArray,[]⟩/\St w [] [] W) (0-0) ?_ ?_
 exact⟨0,Nat.zero_le _,rfl,(by kernel_rfl),al.pk []⟩
 rintro n5 a5 W5 ⟨j,hj,rfl,hj_,aR⟩
 refine ovz hj_ fun w5=>?_
 refine wq (sqr ?_)
 have hd7:(decide ((j:Int)<0))=false:=(decide_eq_false (by omega))
 refine sqp [.e 8 (.bool (decide ((j:Int)<0))) (.bool false) (congrArg Value.bool hd7)] ?_
 refine aa (wq (wcf rfl (wp_exit (au (au (bh (aa (wq (sqr (sqp [.m 15 0,.k 16 (vi 0),.k 17 (.bool true),.k 2 (.bool true)] ?_))))))))))
 refine aa (wp_ret ?_)
 refine bpr (.bool true) (ai Tryz.results181 rpt) ?_
 exact Ret.bool (by decide) aR.ext
theorem wB(w:World):
  Calls Tryz.prog 162 #[sn] w (Ret (.string ⟨#[0]⟩) w):=by
 go_enter Tryz.func162,Tryz.ntmps162
 have al:=St.start w
 refine wq (sqr (sqp [.k 2 (.string ⟨#[]⟩)] ?_))
 refine aa (wq (wq (sqr (sqp [.m 6 0] ?_))))
 refine sqk (.bool true) al (fun cx=>⟨_,Dk _,(ax (cx.ou 6))⟩) fun W3 bc=>?_
 refine sqp [.k 8 (.bool false)] ?_
 refine aa (wcf rfl (wp_skip (aa (wq (sqr (bY #[.pointer none,sn] bc fun CF W5 aR=>?_))))))
 refine aa (wq (sqr (sqp [.m 9 0,.k 10 (vi 0),sW 11 .u8 0 0 (by decide)] ?_)))
 refine bN (fun X_=>rO X_) (.nilIface) (fun Ia=>eBu CF Ia [UInt8.ofNat (0:Int).toNat]) 0 aR (by
   refine svA fun ρ β W X cx=>?_
   refine am.call (aq (args:=#[vp CF,.int .u8 0]) rfl cx.sees rfl (by kernel_rfl) (aP (cx.ou 3) (cx.ou 11))) ?_
   refine(Ny _ _ [] 0 _ (gK.fresh (cx.bi 0 rfl)) (by omega) (by decide)).mono ?_
   rintro e W1 ⟨rfl,hu⟩
   refine⟨_,rfl,oq (by rw[(cx.init 0 _ rfl)];rfl) rfl rfl hu (fun g o X' hs hb hv hx=>?_)⟩
   exact⟨(hv 12 rfl).1,hx⟩) fun Ia W9 cq=>?_
 refine aa (wq (wq (sqr (sqp [.m 13 0,.k 14 (vi 0),.k 15 (vi 0)] ?_))))
 refine aa (wp_block ?_)
 refine aT (fun t_ mz az W=>∃j:Nat,j<=0/\mz=0-j/\az=⟨(ovr (jv az) [(5,5,1,[]),(9,15,0,[vi ((j:Int))]),(0,16,27,[])] t_).toArray,[]⟩/\St w [] [eBu CF Ia [UInt8.ofNat (0:Int).toNat]] W) (0-0) ?_ ?_
 exact⟨0,Nat.zero_le _,rfl,(by kernel_rfl),cq.pk [0]⟩
 rintro TB a13 IQ ⟨j,hj,rfl,hj_,je⟩
 refine ovz hj_ fun RQ=>?_
 refine wq (sqr ?_)
 have hd15:(decide ((j:Int)<0))=false:=(decide_eq_false (by omega))
 refine sqp [.e 16 (.bool (decide ((j:Int)<0))) (.bool false) (congrArg Value.bool hd15)] ?_
 refine aa (wq (wcf rfl (wp_exit (au (au (bh (aa (wq (aH [0,1] [[0]] [] [[0]] [.a 43,.c 2 (.string (dh ([UInt8.ofNat (0:Int).toNat])))] (fun ix g β X=>match ix with|0=>g 43= .string (dh ([UInt8.ofNat (0:Int).toNat]))|_=>True) [] [0,1] [(2,1,1,3),(40,0,1,41)] je ?_ ?_ ?_)))))))))
 exact fun ix _ _ _ _ _ _ hs hb hx h=>match ix,h with
 |0,h=>(hs _ rfl).symm.trans h
 |_+1,_=>trivial
 refine⟨?_,?_,trivial⟩
 refine svA fun ρ β W X cx=>?_
 refine am.call (aq (args:=#[vp CF]) rfl cx.sees rfl (by kernel_rfl) (ax (cx.ou 3))) ?_
 refine(Jy _ _ ([UInt8.ofNat (0:Int).toNat]) _ (cx.sb (cx.init 0 _ rfl) rfl) (by simp) (by(try simp only[List.length_append,List.length_cons,List.length_nil]);omega)).mono ?_
 rintro e W1 ⟨rfl,hu⟩
 refine⟨_,rfl,wM (by rw[(cx.init 0 _ rfl)];rfl) rfl rfl hu (fun g o X' hs hb hv=>?_)⟩
 exact(hv 43 rfl).1
 exact xs4 rfl id fun cx=>dm rfl (dTn (cx.an 0))
 intro g β X pU hD dl fr aG
 simp only[ed 43 ((dTn (hD 0 lq)))] at aG
 clear hD;subst aG;clear g β X
 refine aa (wp_ret ?_)
 refine bpr (.string (dh ([UInt8.ofNat (0:Int).toNat]))) (ai Tryz.results162 rpt) ?_
 exact Ret.of rfl dl.ext
theorem Cb(k x t:Int)(A:Option Addr)(c:Nat)(l:List EdT)(note:ByteArray)(w:World)(hA:At w A (l.flatMap edC))(hl:l.length<=1000000)(hz:∀e∈l,e.2.2.size<=9223372036854775807)(hns:note.size<=9223372036854775807):
  Calls Tryz.prog 118 #[.agg #[.int .i64 k,.int .i64 x,.int .i64 t,sn,sn,.slice A l.length c,sn,.string note]] w (Ret (.string (ay ⟨k,x,t,l,note⟩)) w):=by
 go_enter Tryz.func118,Tryz.ntmps118
 have al:=St.start w
 refine wq (sqr ?_)
 refine ce #[vi k,vi x,vi t,sn,sn,.slice A l.length c,sn,.string note] al fun aB W1 aA=>?_
 refine sqp [.k 2 (.string ⟨#[]⟩)] ?_
 refine aa (wq (wq (sqr ?_)))
 refine bE 0 8 aA ?_
 refine sqk (.bool (bv ⟨k,x,t,l,note⟩)) aA (fun cx=>⟨_,l3 k x t _ _ l note _ (hA.ext cx.upd.to_ext) hl hz hns,(ax (cx.ou 8))⟩) fun W4 be=>?_
 refine sqp [.k 10 (.bool (!(bv ⟨k,x,t,l,note⟩)))] ?_
 refine aa ?_
 rcases Bool.eq_false_or_eq_true (bv ⟨k,x,t,l,note⟩) with dC|dC
 refine wp_cond_false (show Act.eval _ _= .bool false from(congrArg Value.bool (by rw[dC];rfl))) (wp_skip (aa (wq ?_)))
 have hrr:=dC
 have hro:=d8 hrr
 have hrm:l.length<=64:=hro.many
 have hrn:note.size<=60000:=hro.note
 refine aH [0,1,3,0,8,31,0,64,255,0,512,2047,4095,0,8192,32767,65535,0,131072,393216,1048575,2097151,4194303,8388607] [[],[0],[],[],[0],[],[],[0],[],[],[0],[],[],[],[0],[],[],[],[0],[],[],[],[1]] [[],[],[],[],[],[],[],[],[],[],[],[],[],[],[],[],[],[],[],[],[],[1]] [] [.k 11 (vp aB),.c 12 (vi k),.c 13 (.string (ag k 1)),.k 14 (po aB 1),.c 15 (vi x),.c 16 (.string (ag x 1)),.k 17 (po aB 2),.c 18 (vi t),.c 19 (.string (ag t 2)),.k 20 (po aB 3),.c 21 (sn),.c 22 (.string ((⟨#[0]⟩:ByteArray))),.c 23 (.string (aX (⟨#[0]⟩:ByteArray))),.k 24 (po aB 4),.c 25 (sn),.c 26 (.string ((⟨#[0]⟩:ByteArray))),.c 27 (.string (aX (⟨#[0]⟩:ByteArray))),.k 28 (po aB 5),.c 29 (.slice A l.length c),.k 30 (vi ((l.length:Int))),.c 31 (.string (ag (l.length:Int) 1)),.a 32,.c 33 (.string ((cd [(ag k 1),(ag x 1),(ag t 2),(aX (⟨#[0]⟩:ByteArray)),(aX (⟨#[0]⟩:ByteArray)),(ag (l.length:Int) 1)]))),.k 3 (.string ((cd [(ag k 1),(ag x 1),(ag t 2),(aX (⟨#[0]⟩:ByteArray)),(aX (⟨#[0]⟩:ByteArray)),(ag (l.length:Int) 1)])))] (fun ix g β X=>match ix with|0|1|2|3|4|5|6|7|8|9|10|11|12|13|14|15|16|17|18|19|20=>True|21=>g 32= .slice (sA (β 32)) 6 6/\X 1=eO 9 1 (.slice (sA (β 32)) 6 6) 6 ([.string (ag k 1),.string (ag x 1),.string (ag t 2),.string (aX (⟨#[0]⟩:ByteArray)),.string (aX (⟨#[0]⟩:ByteArray)),.string (ag (l.length:Int) 1)])|_=>True) [0,1] [1,2,4,5,7,8,10,11,12,14,15,16,18,20,21,22] [(3,23,1,4),(7,0,23,30)] be ?_ ?_ ?_
 exact fun ix _ _ _ _ _ _ hs hb hx h=>match ix,h with
 |21,h=>by dsimp only;rw[<-hs 32 rfl,<-hb 32 rfl,<-hx 1 rfl];exact h
 |0,_|1,_|2,_|3,_|4,_|5,_|6,_|7,_|8,_|9,_|10,_|11,_|12,_|13,_|14,_|15,_|16,_|17,_|18,_|19,_|20,_|_+22,_=>trivial
 refine⟨?_,?_,?_,?_,?_,?_,?_,?_,?_,?_,?_,?_,?_,?_,?_,?_,trivial⟩
 exact xs4 rfl id fun cx=>ae rfl (by kernel_rfl) (cx.an 0) ((cx.bi 0 rfl).cell 0)
 exact xsc rfl id rfl rfl fun cx=>⟨_,lr k _,(ax (cx.an 1))⟩
 exact xs4 rfl id fun cx=>ae rfl (by kernel_rfl) (cx.an 3) ((cx.bi 0 rfl).cell 1)
 exact xsc rfl id rfl rfl fun cx=>⟨_,lr x _,(ax (cx.an 4))⟩
 exact xs4 rfl id fun cx=>ae rfl (by kernel_rfl) (cx.an 6) ((cx.bi 0 rfl).cell 2)
 exact xsc rfl id rfl rfl fun cx=>⟨_,wj t _,(ax (cx.an 7))⟩
 exact xs4 rfl id fun cx=>ae rfl (by kernel_rfl) (cx.an 9) ((cx.bi 0 rfl).cell 3)
 exact xsc rfl id rfl rfl fun cx=>⟨_,wB _,(ax (cx.an 10))⟩
 exact xsc rfl id rfl rfl fun cx=>⟨_,lj (⟨#[0]⟩:ByteArray) _ (by decide),(ax (cx.an 11))⟩
 exact xs4 rfl id fun cx=>ae rfl (by kernel_rfl) (cx.an 13) ((cx.bi 0 rfl).cell 4)
 exact xsc rfl id rfl rfl fun cx=>⟨_,wB _,(ax (cx.an 14))⟩
 exact xsc rfl id rfl rfl fun cx=>⟨_,lj (⟨#[0]⟩:ByteArray) _ (by decide),(ax (cx.an 15))⟩
 exact xs4 rfl id fun cx=>ae rfl (by kernel_rfl) (cx.an 17) ((cx.bi 0 rfl).cell 5)
 exact xsc rfl id rfl rfl fun cx=>⟨_,lr (l.length:Int) _,(ax (cx.an 19))⟩
 refine svA fun ρ β W X cx=>?_
 have Pb:ρ (.tmp 13)= .string (ag k 1):=(cx.an 2)
 have Ib:ρ (.tmp 16)= .string (ag x 1):=(cx.an 5)
 have Pe:ρ (.tmp 19)= .string (ag t 2):=(cx.an 8)
 have Ic:ρ (.tmp 23)= .string (aX (⟨#[0]⟩:ByteArray)):=(cx.an 12)
 have Pf:ρ (.tmp 27)= .string (aX (⟨#[0]⟩:ByteArray)):=(cx.an 16)
 have Pg:ρ (.tmp 31)= .string (ag (l.length:Int) 1):=(cx.an 20)
 exact du (e:=9) (xs:=[.string (ag k 1),.string (ag x 1),.string (ag t 2),.string (aX (⟨#[0]⟩:ByteArray)),.string (aX (⟨#[0]⟩:ByteArray)),.string (ag (l.length:Int) 1)]) rfl (by simp[go_sem,Pb,Ib,Pe,Ic,Pf,Pg]) rfl (by decide) rfl rfl (fun _ _ _ _ _=> .intro)
 exact xsc rfl id rfl rfl fun cx=>⟨_,mI _ [(ag k 1),(ag x 1),(ag t 2),(aX (⟨#[0]⟩:ByteArray)),(aX (⟨#[0]⟩:ByteArray)),(ag (l.length:Int) 1)] _ (cx.row (dTn (cx.an 21)).2 rfl) (by simp) (Nat.le_trans (Nat.le_of_eq (iK ⟨k,x,t,l,note⟩)) (by decide)) (by simp),(ax (dTn (cx.an 21)).1)⟩
 intro g β X W7 hD aZ fr aG
 simp only[exq 1 ((dTn (hD 21 lq)).2)] at aZ
 simp only[ed 32 ((dTn (hD 21 lq)).1)] at aG
 generalize sA (β 32)=IU at aZ aG
 clear hD;subst aG;clear g β X
 refine aa (wq (wq (sqr (sqp [.k 34 (po aB 5)] ?_))))
 refine av 0 aZ ?_
 refine sqp [.k 36 (vi ((l.length:Int))),.k 37 (vi 0)] ?_
 refine aa (wp_block ?_)
 refine aT (fun t_ mz az W=>∃j:Nat,∃sj:ByteArray,j<=l.length/\sj=cW (hdB ⟨k,x,t,l,note⟩) (l.take j)/\mz=l.length-j/\az=⟨(ovr (jv az) [(3,3,0,[.string sj]),(1,5,1,[]),(31,37,0,[vi ((j:Int))]),(0,38,17,[])] t_).toArray,[]⟩/\St w [] [eB aB 27 #[vi k,vi x,vi t,sn,sn,.slice A l.length c,sn,.string note],eO 9 1 (.slice IU 6 6) 6 ([.string (ag k 1),.string (ag x 1),.string (ag t 2),.string (aX (⟨#[0]⟩:ByteArray)),.string (aX (⟨#[0]⟩:ByteArray)),.string (ag (l.length:Int) 1)])] W) (l.length-0) ?_ ?_
 exact⟨0,(cd [(ag k 1),(ag x 1),(ag t 2),(aX (⟨#[0]⟩:ByteArray)),(aX (⟨#[0]⟩:ByteArray)),(ag (l.length:Int) 1)]),Nat.zero_le _,rfl,rfl,(by kernel_rfl),aZ.pk [0,1]⟩
 rintro OT a12 ze ⟨j,sj,hj,hsj,rfl,hj_,cV⟩
 refine ovz hj_ fun Mg=>?_
 refine wq (sqr (sqp [.k 38 (.bool (decide ((j:Int)<(l.length:Int))))] ?_))
 refine aa (wq (wds (fun gN pC=>?_) fun gN pC=>?_))
 refine wp_skip (aa (wq (wp_block (wq ?_))))
 obtain⟨ep,es,eb,hek⟩:=k8 (l:=l) (k:=j) (by omega)
 have her:edR (ep,es,eb)=true:=hro.eds _ (List.mem_of_getElem? hek)
 have hez:eb.size<=400:=dA her
 obtain⟨hep_,hes_⟩:=ld her
 have hes_: -1<=es/\es<=23:=hes_
 have hsz:=k9 (l:=l.take j) (fun e he=>dA (hro.eds e (List.mem_of_mem_take he))) (hdB ⟨k,x,t,l,note⟩)
 rw[<-hsj,iK,List.length_take] at hsz
 have hszb:(edB sj (ep,es,eb)).size<=2000000:=by rw[sX];show sj.size+5+eb.size<= _;omega
 refine sqr ?_
 refine sql (.pointer (some ((ad A).add (j*3)))) cV (fun cx=>aI (e:=84) (m:=j) (sz:=3) rfl (by kernel_rfl) (by kernel_rfl) (cx.ou 35) (cx.ou 37) (by omega) (by omega) (hA.ext cx.upd.to_ext) (bq (sz:=3) bJ (by decide) (by omega))) ?_
 refine sql (.agg #[vi ep,vi es,.string eb]) cV (fun cx=>bT (f:=edC) (m:=j) (sz:=3) (off:=0) (n:=3) rfl (by kernel_rfl) (by kernel_rfl) (cx.ou 39) rfl bJ (hA.ext cx.upd.to_ext) hek (fun k hk=>match k,hk with|0,_=>rfl|1,_=>rfl|2,_=>rfl|k+3,hk=>absurd hk (by omega))) ?_
 refine bY #[vi 0,vi 0,.string ByteArray.empty] cV fun CG uC dS=>?_
 refine aV (n:=3) 2 #[vi ep,vi es,.string eb] dS fun IV kY=>?_
 refine aa (aH [0,0,2,6,0,16,48,126,0,256,1022,2047,4095,8191] [[],[],[2],[],[],[2],[],[],[],[2],[],[],[3]] [[],[],[],[],[],[],[],[],[],[],[],[3]] [] [.k 41 (.string sj),.k 42 (vp CG),.c 43 (vi ep),.c 44 (.string (ag ep 2)),.k 45 (po CG 1),.c 46 (vi es),tI 47 (es+1) (by omega),.c 48 (.string (ag (es+1) 1)),.k 49 (po CG 2),.c 50 (.string eb),.c 51 (.string (aX eb)),.a 52,.c 53 (.string ((cd [sj,(ag ep 2),(ag (es+1) 1),(aX eb)]))),.k 3 (.string ((cd [sj,(ag ep 2),(ag (es+1) 1),(aX eb)])))] (fun ix g β X=>match ix with|0|1|2|3|4|5|6|7|8|9|10=>True|11=>g 52= .slice (sA (β 52)) 4 4/\X 3=eO 9 1 (.slice (sA (β 52)) 4 4) 4 ([.string sj,.string (ag ep 2),.string (ag (es+1) 1),.string (aX eb)])|_=>True) [0,1,2,3] [2,3,5,7,9,10,11,12] [(3,13,1,4),(37,0,13,50)] kY ?_ ?_ ?_)
 exact fun ix _ _ _ _ _ _ hs hb hx h=>match ix,h with
 |11,h=>by dsimp only;rw[<-hs 52 rfl,<-hb 52 rfl,<-hx 3 rfl];exact h
 |0,_|1,_|2,_|3,_|4,_|5,_|6,_|7,_|8,_|9,_|10,_|_+12,_=>trivial
 refine⟨?_,?_,?_,?_,?_,?_,?_,?_,trivial⟩
 exact xs4 rfl id fun cx=>ae rfl (by kernel_rfl) (cx.an 1) ((cx.bi 2 rfl).cell 0)
 exact xsc rfl id rfl rfl fun cx=>⟨_,wj ep _,(ax (cx.an 2))⟩
 exact xs4 rfl id fun cx=>ae rfl (by kernel_rfl) (cx.an 4) ((cx.bi 2 rfl).cell 1)
 exact xsc rfl id rfl rfl fun cx=>⟨_,lr (es+1) _,(ax (cx.an 6))⟩
 exact xs4 rfl id fun cx=>ae rfl (by kernel_rfl) (cx.an 8) ((cx.bi 2 rfl).cell 2)
 exact xsc rfl id rfl rfl fun cx=>⟨_,lj eb _ (by omega),(ax (cx.an 9))⟩
 refine svA fun ρ β W X cx=>?_
 have zf:ρ (.tmp 41)= .string sj:=(cx.an 0)
 have Ph:ρ (.tmp 44)= .string (ag ep 2):=(cx.an 3)
 have Ie:ρ (.tmp 48)= .string (ag (es+1) 1):=(cx.an 7)
 have Pi:ρ (.tmp 51)= .string (aX eb):=(cx.an 10)
 exact du (e:=9) (xs:=[.string sj,.string (ag ep 2),.string (ag (es+1) 1),.string (aX eb)]) rfl (by simp[go_sem,zf,Ph,Ie,Pi]) rfl (by decide) rfl rfl (fun _ _ _ _ _=> .intro)
 exact xsc rfl id rfl rfl fun cx=>⟨_,mI _ [sj,(ag ep 2),(ag (es+1) 1),(aX eb)] _ (cx.row (dTn (cx.an 11)).2 rfl) (by simp) hszb (by simp),(ax (dTn (cx.an 11)).1)⟩
 intro g β X qI hD cU fr aG
 simp only[exq 3 ((dTn (hD 11 lq)).2)] at cU
 simp only[ed 52 ((dTn (hD 11 lq)).1)] at aG
 generalize sA (β 52)=Qr at cU aG
 clear hD;subst aG;clear g β X
 refine aw (aa (sqr (sqp [sI 54 ((j:Int)+1) (by omega),.m 37 54] ?_)))
 refine aa ?_
 refine⟨l.length-((j+1)),by omega,?_⟩
 exact⟨(j+1),(cd [sj,(ag ep 2),(ag (es+1) 1),(aX eb)]),by omega,by rw[wS hek,<-hsj];rfl,rfl,(by kernel_rfl),cU.pk [0,1]⟩
 refine wp_exit (au (au (bh (aa (wq ?_)))))
 obtain rfl:j=l.length:=by omega
 rw[List.take_length] at hsj
 have hsz:=k9 (l:=l) (fun e he=>dA (hro.eds e he)) (hdB ⟨k,x,t,l,note⟩)
 rw[<-hsj,iK] at hsz
 have hz9:(cd [sj,ag 0 1]).size<=2000000:=by rw[p7,aF _ _ (by decide)];omega
 have hz15:(cd [cd [sj,ag 0 1],aX note]).size<=2000000:=by rw[p7,p7,gZ,aF _ _ (by decide)];omega
 refine sqr (sqp [.m 55 3,.k 56 (po aB 6)] ?_)
 refine av 0 cV ?_
 refine sqp [.k 58 (vi 0)] ?_
 refine sqk (.string (ag 0 1)) cV (fun cx=>⟨_,lr 0 _,(ax (cx.ou 58))⟩) fun w4 fy=>?_
 refine ej (fun x_=>sA x_) (fun qN=> .slice qN 2 2) (fun qN=>eO 9 1 (.slice qN 2 2) 2 ([.string sj,.string (ag 0 1)])) fy (by
   refine svA fun ρ β W X cx=>?_
   have If:ρ (.tmp 55)= .string sj:=(cx.ou 55)
   have Pj:ρ (.tmp 59)= .string (ag 0 1):=(cx.ou 59)
   exact du (e:=9) (xs:=[.string sj,.string (ag 0 1)]) rfl (by simp[go_sem,If,Pj]) rfl (by decide) rfl rfl (fun _ _ _ _ _=> .intro)) fun qN Bp fx=>?_
 refine sqk (.string ((cd [sj,(ag 0 1)]))) fx (fun cx=>⟨_,mI _ [sj,(ag 0 1)] _ (cx.ri 2 rfl) (by simp) hz9 (by simp),(ax (cx.ou 60))⟩) fun zb dU=>?_
 refine sqp [.m 3 61] ?_
 refine aa (wq (wq (sqr (sqp [.k 62 (po aB 6)] ?_))))
 refine av 0 dU ?_
 refine sqp [.k 64 (vi 0),.k 65 (vi 0)] ?_
 refine aa (wp_block ?_)
 refine aT (fun t_ mz az W=>∃j:Nat,j<=0/\mz=0-j/\az=⟨(ovr (jv az) [(7,7,1,[]),(57,65,0,[vi ((j:Int))]),(0,66,9,[])] t_).toArray,[]⟩/\St w [] [eB aB 27 #[vi k,vi x,vi t,sn,sn,.slice A l.length c,sn,.string note],eO 9 1 (.slice IU 6 6) 6 ([.string (ag k 1),.string (ag x 1),.string (ag t 2),.string (aX (⟨#[0]⟩:ByteArray)),.string (aX (⟨#[0]⟩:ByteArray)),.string (ag (l.length:Int) 1)]),eO 9 1 (.slice qN 2 2) 2 ([.string sj,.string (ag 0 1)])] W) (0-0) ?_ ?_
 exact⟨0,Nat.zero_le _,rfl,(by kernel_rfl),dU.pk [0,1,2]⟩
 rintro TC a34 uB ⟨j,hj,rfl,hj_,dG⟩
 refine ovz hj_ fun RR=>?_
 refine wq (sqr ?_)
 have hd36:(decide ((j:Int)<0))=false:=(decide_eq_false (by omega))
 refine sqp [.e 66 (.bool (decide ((j:Int)<0))) (.bool false) (congrArg Value.bool hd36)] ?_
 refine aa (wq (wcf rfl (wp_exit (au (au (bh (aa (wq (sqr (sqp [.m 75 3,.k 76 (po aB 7)] ?_))))))))))
 refine av 0 dG ?_
 refine sqk (.string (aX note)) dG (fun cx=>⟨_,lj note _ (by omega),(ax (cx.ou 77))⟩) fun se dz=>?_
 refine ej (fun x_=>sA x_) (fun uI=> .slice uI 2 2) (fun uI=>eO 9 1 (.slice uI 2 2) 2 ([.string ((cd [sj,(ag 0 1)])),.string (aX note)])) dz (by
   refine svA fun ρ β W X cx=>?_
   have Pk:ρ (.tmp 75)= .string ((cd [sj,(ag 0 1)])):=(cx.ou 75)
   have Pl:ρ (.tmp 78)= .string (aX note):=(cx.ou 78)
   exact du (e:=9) (xs:=[.string ((cd [sj,(ag 0 1)])),.string (aX note)]) rfl (by simp[go_sem,Pk,Pl]) rfl (by decide) rfl rfl (fun _ _ _ _ _=> .intro)) fun uI Fd gp=>?_
 refine sqk (.string ((cd [((cd [sj,(ag 0 1)])),(aX note)]))) gp (fun cx=>⟨_,mI _ [((cd [sj,(ag 0 1)])),(aX note)] _ (cx.ri 3 rfl) (by simp) hz15 (by simp),(ax (cx.ou 79))⟩) fun uE fk=>?_
 refine sqp [.m 2 80] ?_
 refine aa (wp_ret ?_)
 refine bpr (.string ((cd [((cd [sj,(ag 0 1)])),(aX note)]))) (ai Tryz.results118 rpt) ?_
 exact Ret.of (by rw[ay,if_pos hrr,<-hsj]) fk.ext
 refine wp_cond_true (show Act.eval _ _= .bool true from(congrArg Value.bool (by rw[dC];rfl))) (wq (sqr (sqp [.k 2 (.string ⟨#[]⟩)] ?_)))
 refine aa (wp_ret (aj ?_))
 refine bpr (.string ⟨#[]⟩) (ai Tryz.results118 rpt) ?_
 exact Ret.of (by rw[ay,dC];rfl) be.ext
theorem j9(k x t:Int)(A:Option Addr)(c:Nat)(l:List EdT)(note:ByteArray)(w:World)(hA:At w A (l.flatMap edC))(hl:l.length<=1000000)(hz:∀e∈l,e.2.2.size<=9223372036854775807)(hns:note.size<=9223372036854775807):
  Calls Tryz.prog 55 #[.agg #[.int .i64 k,.int .i64 x,.int .i64 t,sn,sn,.slice A l.length c,sn,.string note]] w (Ret (.string (aC ⟨k,x,t,l,note⟩)) w):=by
 go_enter Tryz.func55,Tryz.ntmps55
 have al:=St.start w
 refine wq (sqr ?_)
 refine ce #[vi k,vi x,vi t,sn,sn,.slice A l.length c,sn,.string note] al fun aB W1 aA=>?_
 refine sqp [.k 2 (.string ⟨#[]⟩)] ?_
 refine aa (wq (wq (sqr ?_)))
 refine bE 0 8 aA ?_
 refine sqk (.bool (bv ⟨k,x,t,l,note⟩)) aA (fun cx=>⟨_,l3 k x t _ _ l note _ (hA.ext cx.upd.to_ext) hl hz hns,(ax (cx.ou 4))⟩) fun W4 be=>?_
 refine sqp [.k 6 (.bool (!(bv ⟨k,x,t,l,note⟩)))] ?_
 refine aa ?_
 rcases Bool.eq_false_or_eq_true (bv ⟨k,x,t,l,note⟩) with dC|dC
 refine wp_cond_false (show Act.eval _ _= .bool false from(congrArg Value.bool (by rw[dC];rfl))) (wp_skip (aa (wq (sqr ?_))))
 refine bE 0 8 be ?_
 refine sqk (.string ((ay ⟨k,x,t,l,note⟩))) be (fun cx=>⟨_,Cb k x t _ _ l note _ (hA.ext cx.upd.to_ext) hl hz hns,(ax (cx.ou 7))⟩) fun W8 dO=>?_
 refine sqp [.m 3 8] ?_
 refine aa (wq ?_)
 have hbz:=jo ⟨k,x,t,l,note⟩
 have hsl:=ir (ay ⟨k,x,t,l,note⟩)
 have hz4:(cd [ag ((ay ⟨k,x,t,l,note⟩).size:Int) 4,ag (aY (ay ⟨k,x,t,l,note⟩):Int) 4,ay ⟨k,x,t,l,note⟩]).size<=2000000:=by rw[wT,aF _ _ (by decide),aF _ _ (by decide)];omega
 refine sqr (sqp [.m 9 3,.k 10 (vi ((((ay ⟨k,x,t,l,note⟩)).size:Int)))] ?_)
 refine sqk (.string (ag (((ay ⟨k,x,t,l,note⟩)).size:Int) 4)) dO (fun cx=>⟨_,lg (((ay ⟨k,x,t,l,note⟩)).size:Int) _,(aP (cx.ou 10) (cx.co _))⟩) fun ze cV=>?_
 refine sqp [.m 12 3] ?_
 refine sqk (.int .u32 ((aY (ay ⟨k,x,t,l,note⟩):Int))) cV (fun cx=>⟨_,mP (ay ⟨k,x,t,l,note⟩) _ (by omega),(ax (cx.ou 12))⟩) fun wZ cw=>?_
 refine sqp [sW 14 .i64 (aY (ay ⟨k,x,t,l,note⟩):Int) (aY (ay ⟨k,x,t,l,note⟩):Int) (IntWalk.i64_in _ (by omega))] ?_
 refine sqk (.string (ag (aY (ay ⟨k,x,t,l,note⟩):Int) 4)) cw (fun cx=>⟨_,lg (aY (ay ⟨k,x,t,l,note⟩):Int) _,(aP (cx.ou 14) (cx.co _))⟩) fun pU dl=>?_
 refine sqp [.m 16 3] ?_
 refine ej (fun x_=>sA x_) (fun uJ=> .slice uJ 3 3) (fun uJ=>eO 9 1 (.slice uJ 3 3) 3 ([.string (ag (((ay ⟨k,x,t,l,note⟩)).size:Int) 4),.string (ag (aY (ay ⟨k,x,t,l,note⟩):Int) 4),.string ((ay ⟨k,x,t,l,note⟩))])) dl (by
   refine svA fun ρ β W X cx=>?_
   have Ig:ρ (.tmp 11)= .string (ag (((ay ⟨k,x,t,l,note⟩)).size:Int) 4):=(cx.ou 11)
   have Pm:ρ (.tmp 15)= .string (ag (aY (ay ⟨k,x,t,l,note⟩):Int) 4):=(cx.ou 15)
   have Ib:ρ (.tmp 16)= .string ((ay ⟨k,x,t,l,note⟩)):=(cx.ou 16)
   exact du (e:=9) (xs:=[.string (ag (((ay ⟨k,x,t,l,note⟩)).size:Int) 4),.string (ag (aY (ay ⟨k,x,t,l,note⟩):Int) 4),.string ((ay ⟨k,x,t,l,note⟩))]) rfl (by simp[go_sem,Ig,Pm,Ib]) rfl (by decide) rfl rfl (fun _ _ _ _ _=> .intro)) fun uJ IV kY=>?_
 refine sqk (.string ((cd [(ag (((ay ⟨k,x,t,l,note⟩)).size:Int) 4),(ag (aY (ay ⟨k,x,t,l,note⟩):Int) 4),((ay ⟨k,x,t,l,note⟩))]))) kY (fun cx=>⟨_,mI _ [(ag (((ay ⟨k,x,t,l,note⟩)).size:Int) 4),(ag (aY (ay ⟨k,x,t,l,note⟩):Int) 4),((ay ⟨k,x,t,l,note⟩))] _ (cx.ri 1 rfl) (by simp) hz4 (by simp),(ax (cx.ou 17))⟩) fun qI cU=>?_
 refine sqp [.m 2 18] ?_
 refine aa (wp_ret ?_)
 refine bpr (.string ((cd [(ag (((ay ⟨k,x,t,l,note⟩)).size:Int) 4),(ag (aY (ay ⟨k,x,t,l,note⟩):Int) 4),((ay ⟨k,x,t,l,note⟩))]))) (ai Tryz.results55 rpt) ?_
 exact Ret.of (by rw[aC,if_pos dC]) cU.ext
 refine wp_cond_true (show Act.eval _ _= .bool true from(congrArg Value.bool (by rw[dC];rfl))) (wq (sqr (sqp [.k 2 (.string ⟨#[]⟩)] ?_)))
 refine aa (wp_ret (aj ?_))
 refine bpr (.string ⟨#[]⟩) (ai Tryz.results55 rpt) ?_
 exact Ret.of (by rw[aC,dC];rfl) be.ext
end
section
open Go.RowKit
theorem k7(l:List UInt8):(dh l).size=l.length:=by show l.toArray.size= _;simp
theorem x1(l:List UInt8)(a b:Nat):(dh l).extract a b=dh ((l.drop a).take (b-a)):=by
 apply ByteArray.ext
 rw[ByteArray.data_extract]
 apply Array.ext'
 simp[dh,List.extract_eq_take_drop]
theorem EK(l:List UInt8)(n:Nat):(dh l).extract 0 n=dh (l.take n):=by rw[x1];simp
theorem E8(l:List UInt8)(n:Nat):(dh l).extract n (dh l).size=dh (l.drop n):=by
 rw[x1,k7,List.take_of_length_le (by simp)]
theorem Upd.less{c:Nat}(h:Upd [b,c] w W)(hc:W.heap[c]? =w.heap[c]?):Upd [b] w W:=⟨h.os,h.tape,h.output,h.size,fun k hk hn=>by
 by_cases e:k=c
 rw[e];exact hc
 exact h.block k hk (by simp at hn |-;exact⟨hn,e⟩)⟩
theorem St.lent1{t:Nat}{cs:Array Value}(hb:Blk w b t cs):St w [b] [eB b t cs] w:=by
 refine⟨Upd.refl _ _,fun x hx=>?_,List.pairwise_singleton _ _⟩
 simp only[List.mem_cons,List.not_mem_nil,or_false] at hx
 subst hx
 exact⟨hb,d7 _ _ _,fun k hk=>⟨.inl (by simp[eB] at hk;simp[hk]),by simp[eB] at hk;subst hk;exact hb.lt⟩⟩
theorem St.lentB2{t c u:Nat}{cs ds:Array Value}(hb:Blk w b t cs)(hc:Blk w c u ds)(hne:b≠c):St w [b,c] [eB b t cs,eB c u ds] w:=by
 refine⟨Upd.refl _ _,fun x hx=>?_,List.pairwise_pair.2 fun k hk hk'=>by simp[eB] at hk hk';omega⟩
 simp only[List.mem_cons,List.not_mem_nil,or_false] at hx
 rcases hx with rfl|rfl
 exact⟨hb,d7 _ _ _,fun k hk=>⟨.inl (by simp[eB] at hk;simp[hk]),by simp[eB] at hk;subst hk;exact hb.lt⟩⟩
 exact⟨hc,d7 _ _ _,fun k hk=>⟨.inl (by simp[eB] at hk;simp[hk]),by simp[eB] at hk;subst hk;exact hc.lt⟩⟩
section
variable{P:Program}{o:Oper}{ρ:Operand->Value}{W:World}
theorem xN{t:TypeId}{l:List UInt8}{k:IntKind}{j:Int}(h:o.op= .index t x y)(ht:P.underlying t=some .string)(hx:ρ x= .string (dh l))(hy:ρ y= .int k j)(hj:j=(m:Int))(hm:m<l.length):
  (execOp ρ o).run P W= .ok (.value (.int .u8 (bW l m))) W:=by
 subst hj
 unfold execOp;rw[h]
 have h1:(0:Int)<=(m:Int):=by omega
 have h2:(dh l)[m]? =some (l.getD m 0):=by
  rw[getElem?_pos (dh l) m (by rw[k7];exact hm)]
  simp[dh,ByteArray.getElem_eq_getElem_data,hm]
 simp only[hx,hy,Instr.index,asIntOf,Sem.run_bind,Sem.run_pure,Result.andThen_ok,run_underlying ht,h1,if_true,Int.toNat_natCast,h2]
 rfl
end
theorem qw(e:Int)(w:World):
  Calls Tryz.prog 176 #[.bool true,.int .i64 e] w (Ret (.tuple #[]) w):=by
 go_enter Tryz.func176,Tryz.ntmps176
 have al:=St.start w
 refine wq (sqr (sqp [.k 4 (.bool true),.k 5 (.bool false)] ?_))
 refine aa (wcf rfl (wp_skip ?_))
 refine bpe (.tuple #[]) (by simp[results,Tryz.results176,go_sem]) ?_
 exact Ret.of rfl al.ext
def yP(b:Nat)(v:Value)(l:List UInt8)(w:World)(e:Ending)(w':World):Prop:=e= .returned v/\Blk w' b 9 #[.string (dh l)]/\Upd [b] w w'
theorem Hx(n:Nat)(b:Nat)(l:List UInt8)(w:World)(hb:Blk w b 9 #[.string (dh l)])(hn:n<=l.length):
  Calls Tryz.prog 175 #[.int .i64 ((n:Int)),po b 0] w (yP b (.string (dh (l.take n))) (l.drop n) w):=by
 have st0:=St.lent1 hb
 have hsl:=k7 l
 go_enter Tryz.func175,Tryz.ntmps175
 have al:=st0
 refine wq (sqr (sqp [.k 3 (.string ⟨#[]⟩)] ?_))
 refine aa (wq (sqr (av 0 al ?_)))
 have hd6:(decide ((n:Int)<=((dh l).size:Int)))=true:=by rw[decide_eq_true_eq];omega
 refine sqp [.k 6 (vi (((dh l).size:Int))),.m 7 0,.e 8 (.bool (decide ((n:Int)<=((dh l).size:Int)))) (.bool true) (congrArg Value.bool hd6)] ?_
 refine sqk (.tuple #[]) al (fun cx=>⟨_,qw _ _,(aP (cx.ou 8) (cx.co _))⟩) fun W7 aZ=>?_
 refine aa (wq (sqr (av 0 aZ ?_)))
 refine sqp [.m 11 0] ?_
 refine sql (.string (dh (l.take n))) aZ (fun cx=>(by rw[<-EK];exact fc (l:=n) rfl (by kernel_rfl) (cx.ou 10) (cx.ou 11) (by omega) (by rw[k7];omega))) ?_
 refine sqp [.m 4 12] ?_
 refine aa (wq (sqr (av 0 aZ ?_)))
 refine sqp [.m 14 0] ?_
 refine sql (.string (dh (l.drop n))) aZ (fun cx=>(by rw[<-E8];exact em (l:=n) rfl (by kernel_rfl) (cx.ou 13) (cx.ou 14) (by omega) (by rw[k7];omega))) ?_
 refine aV (n:=1) 0 #[.string (dh (l.drop n))] aZ fun zd dv=>?_
 refine aa (wq (sqr (sqp [.m 16 4,.m 3 16] ?_)))
 refine aa (wp_ret ?_)
 refine bpr (.string (dh (l.take n))) (ai Tryz.results175 rpt) ?_
 exact⟨rfl,dv.blk 0 rfl,dv.upd⟩
theorem Km(l:List UInt8)(m:Nat):0<=bW l m/\bW l m<256:=by
 have:=(l.getD m 0).toNat_lt
 unfold bW;omega
theorem Db(l:List UInt8)(h:1<=l.length):bW (l.take 1) 0=bW l 0:=by
 cases l with
 |nil=>simp at h
 |cons a l=>rfl
theorem GR(b c:Nat)(l:List UInt8)(w:World)(hb:Blk w b 9 #[.string (dh l)])(hc:Blk w c 155 #[.func (.func 175) #[] #[po b 0]])(hne:b≠c)(hn:1<=l.length):
  Calls Tryz.prog 177 #[po c 0] w (yP b (.int .i64 (bW l 0)) (l.drop 1) w):=by
 have st0:=St.lentB2 hb hc hne
 have hb256:=Km (l.take 1) 0
 go_enter Tryz.func177,Tryz.ntmps177
 have al:=st0
 refine wq (sqr (sqp [.k 1 (vi 0)] ?_))
 refine aa (wq (sqr (av 1 al ?_)))
 refine fO (.string (dh (l.take 1))) (eB b 9 #[.string (dh (l.drop 1))]) 0 al (by
   refine svA fun ρ β W X cx=>?_
   refine am.call (cQ (f:=175) (args:=#[vi 1]) (args':=#[vi 1,vp b]) rfl rfl (cx.ou 2) (by kernel_rfl) (ax (cx.co _)) rfl) ?_
   refine(Hx 1 b l _ (cx.bi 0 rfl) (by omega)).mono ?_
   rintro e W1 ⟨rfl,hb1,hu⟩
   refine⟨_,rfl,bZ (cx.init 0 _ rfl) rfl rfl hu hb1 (fun g h X' hs hb hv hx=>?_)⟩
   exact⟨(hv 3 rfl).1.trans rfl,hx⟩) fun W3 bc=>?_
 refine sql (.int .u8 (bW (l.take 1) 0)) bc (fun cx=>xN (m:=0) rfl (by kernel_rfl) (cx.ou 3) (cx.co _) (by omega) (by rw[List.length_take];omega)) ?_
 refine sqp [sW 5 .i64 (bW (l.take 1) 0) (bW (l.take 1) 0) (IntWalk.i64_in _ (by omega)),.m 1 5] ?_
 refine aa (wp_ret ?_)
 refine bpr (vi (bW (l.take 1) 0)) (ai Tryz.results177 rpt) ?_
 exact⟨by rw[Db l hn],bc.blk 0 rfl,bc.upd.less ((bc.blk 1 rfl).trans hc.symm)⟩
end
section
open Go.RowKit
theorem Ci{P:Program}{id:Nat}{o1 o2:Oper}{a:Act}{Q:Exit->Act->World->Prop}{d:Deferred}(h1:o1.guard=none)(h2:o2.guard=none)(r1:(execOp a.eval o1).run P w= .ok (.value v) w)
  (r2:(execOp (a.put o1.dst v).eval o2).run P w= .ok (.defer d) w) (hd2:o2.dst=none) (h:Q .normal {a.put o1.dst v with defers:=d::(a.put o1.dst v).defers} w):(Code.region id #[o1,o2] false).wp P Q a w:=by
 refine wp_region ?_
 show wpOps P #[o1,o2] Q [0,1] a w
 have w1:∀y,Region.wanted o1 y=true:=fun y=>by simp[Region.wanted,h1]
 have w2:∀y,Region.wanted o2 y=true:=fun y=>by simp[Region.wanted,h2]
 simp only[wpOps]
 show (if Region.wanted o1 _=true then _ else _)
 rw[if_pos (w1 _)]
 left
 unfold Oper.wp Oper.upon
 rw[show (#[o1,o2]:Array Oper)[0]=o1 from rfl,r1]
 show (if Region.wanted o2 _=true then _ else _)
 rw[if_pos (w2 _)]
 left
 rw[show (#[o1,o2]:Array Oper)[1]=o2 from rfl,r2]
 rw[hd2]
 exact h
theorem Cf(p q:Addr)(w:World):
  CallsD Tryz.prog 174 #[.pointer (some p),.pointer (some q)] .returning w fun e u' w'=>e= .returned (.tuple #[])/\u'= .returning/\w'=w:=by
 refine callsD_of_wpS Tryz.func174 rfl fun c₀ cs hu=>?_
 apply wpS_seq
 apply wpS_region
 simp[wpOpsS,go_sem,recoverD,hu,Tryz.ntmps174,Exit.thenS]
 refine wpS_of_wp ?_
 go_wp2
 cases c₀
 simp_all [bodyPostS,results,Tryz.results174]
theorem D6(w:World):
  Calls Tryz.prog 152 #[.string (dh [0])] w (Ret (.tuple #[sn,.int .i64 0]) w):=by
 go_enter_defers Tryz.func152,Tryz.ntmps152
 have al:=St.start w
 refine wq (sqr ?_)
 refine ce #[.string (dh [0])] al fun aB W1 aA=>?_
 refine bY #[sn] aA fun kH W2 bQ=>?_
 refine bY #[vi 0] bQ fun zg W3 bc=>?_
 refine aa (wq ?_)
 refine Ci (v:= .func (.func 174) #[] #[vp kH,vp zg]) (d:={target:= .fn (.func 174) #[vp kH,vp zg],args:=#[]}) rfl rfl (by simp[go_sem,Instr.makeFunc,Act.eval]) (by simp[go_sem,Act.eval,Act.put]) rfl ?_
 simp only[Act.put,List.setIfInBounds_toArray,List.set_cons_succ,List.set_cons_zero]
 refine aa (wq (sqr ?_))
 refine sqv (.func (.func 175) #[] #[vp aB]) bc (by
   exact sv0 rfl rfl rfl rfl rfl (fun _ _ _ h=>h) fun ρ β W X cx=>by
    have zh:ρ (.tmp 1)=vp aB:=(cx.ou 1)
    simp[go_sem,Instr.makeFunc,zh]) fun W4 be=>?_
 refine bY #[.nilFunc] be fun mZ W5 aR=>?_
 refine aV (n:=1) 3 #[.func (.func 175) #[] #[vp aB]] aR fun W6 bI=>?_
 refine aa (wq (sqr ?_))
 refine sqv (.func (.func 177) #[] #[vp mZ]) bI (by
   exact sv0 rfl rfl rfl rfl rfl (fun _ _ _ h=>h) fun ρ β W X cx=>by
    have uK:ρ (.tmp 4)=vp mZ:=(cx.ou 4)
    simp[go_sem,Instr.makeFunc,uK]) fun W7 aZ=>?_
 refine sqp [.m 5 13] ?_
 refine aa (wq (sqr (sqp [.m 14 5] ?_)))
 refine fO (vi 0) (eB aB 9 #[.string (dh [])]) 0 aZ (by
   refine svA fun ρ β W X cx=>?_
   refine am.call (cQ (f:=177) (args:=#[]) (args':=#[vp mZ]) rfl rfl (cx.ou 14) (by kernel_rfl) ji rfl) ?_
   refine(GR _ _ [0] _ (cx.bi 0 rfl) (cx.bi 3 rfl) (by have h_:=cx.ap 0 3 rfl rfl (by decide);rw[(cx.init 0 _ rfl),(cx.init 3 _ rfl)] at h_;intro e_;exact h_ _ (List.mem_singleton.2 rfl) (List.mem_singleton.2 e_)) (by simp)).mono ?_
   rintro e W1 ⟨rfl,hb1,hu⟩
   refine⟨_,rfl,bZ (cx.init 0 _ rfl) rfl rfl hu hb1 (fun c g X' hs hb hv hx=>?_)⟩
   exact⟨(hv 15 rfl).1.trans rfl,hx⟩) fun wY dR=>?_
 refine sqp [.m 6 15] ?_
 refine aa (wq (sqr (sqp [.m 16 6,.k 17 (.bool true)] ?_)))
 refine sqk (.tuple #[]) dR (fun cx=>⟨_,qw _ _,(aP (cx.ou 17) (cx.co _))⟩) fun wZ cw=>?_
 refine aa (wq (wq (sqr (sqp [.m 19 6,.k 20 (vi 0)] ?_))))
 refine aa (wp_block ?_)
 refine aT (fun t_ mz az W=>True/\mz=0/\az=⟨(ovr (jv az) [(7,7,1,[]),(1,9,2,[]),(10,21,44,[])] t_).toArray,[{target:= .fn (.func 174) #[vp kH,vp zg],args:=#[]}]⟩/\St w [] [eB aB 9 #[.string (dh [])],eB kH 23 #[sn],eB zg 38 #[vi 0],eB mZ 155 #[.func (.func 175) #[] #[vp aB]]] W) (0) ?_ ?_
 exact⟨trivial,rfl,(by kernel_rfl),cw.pk [0,1,2,3]⟩
 rintro Qh a17 uC ⟨-,rfl,hj_,dS⟩
 refine ovz hj_ fun O8=>?_
 refine wq (sqr (sqp [.k 21 (.bool false)] ?_))
 refine aa (wq (wcf rfl (wp_exit (au (au (bh (aa (wq (sqr (av 0 dS ?_))))))))))
 have hd21:((dh []).toList==((⟨#[]⟩:ByteArray)).toList)=true:=beq_self_eq_true (dh []).toList
 refine sqp [.e 66 (.bool ((dh []).toList==((⟨#[]⟩:ByteArray)).toList)) (.bool true) (congrArg Value.bool hd21)] ?_
 refine sqk (.tuple #[]) dS (fun cx=>⟨_,qw _ _,(aP (cx.ou 66) (cx.co _))⟩) fun w3 dH=>?_
 refine aa (wq (sqr (av 1 dH ?_)))
 refine aV (n:=1) 1 #[sn] dH fun y6 e9=>?_
 refine aV (n:=1) 2 #[vi 0] e9 fun sd cM=>?_
 refine aa (wp_ret ?_)
 have c2:=(cM.blk 1 rfl).cell 0
 have c3:=(cM.blk 2 rfl).cell 0
 refine leaves_cons (f:=174) (args:=#[vp kH,vp zg]) (by simp) (by simp[go_sem]) ?_
 refine(Cf _ _ _).mono ?_
 rintro e u' w'' ⟨rfl,rfl,rfl⟩
 refine⟨.tuple #[sn,vi 0],?_,rfl,cM.ext⟩
 simp at c2 c3
 simp[results,Tryz.results152,go_sem,c2,c3]
end
section
open Go.RowKit
theorem lu(s:ByteArray):s++(⟨#[]⟩:ByteArray)=s:=by apply gM;rw[cZ];exact List.append_nil _
theorem p9(s:ByteArray):(⟨#[]⟩:ByteArray)++s=s:=by apply gM;rw[cZ];rfl
theorem iv{s x c:ByteArray}(h:s=a++(x++c))(hp:a.size=p)(hk:x.size=k):aL s p k=d5 (bl x):=
 mg (a:=bl a) (b:=bl x) (c:=bl c) (by rw[h,cZ,cZ]) (by rw[bO];exact hp) (by rw[bO];exact hk)
theorem o7{s t c:ByteArray}(h:s=a++(aX t++c))(hp:a.size=p)(ht:t.size<=65535):aL s p 2=t.size/\eN s p=t/\p+2+t.size<=s.size:=by
 have h1:s=a++(ag (t.size:Int) 2++(t++c)):=by rw[h,aX];simp[ByteArray.append_assoc]
 have h2:aL s p 2=t.size:=by
  have h3:=iv h1 hp (aF _ _ (by decide))
  have h4:=ny (t.size:Int) (by omega) (by omega)
  omega
 have hz:s.size=a.size+(2+t.size+c.size):=by rw[h,ByteArray.size_append,ByteArray.size_append,gZ]
 refine⟨h2,?_,by omega⟩
 rw[eN,h2]
 have h5:bl s=(bl a++bl (ag (t.size:Int) 2))++(bl t++bl c):=by rw[h1];simp[cZ,List.append_assoc]
 rw[kE h5 (p:=p+2) (q:=p+2+t.size) (by rw[List.length_append,bO,bO,aF _ _ (by decide),hp]) (by rw[bO]),iB]
def eI(l:List EdT):Nat:=(l.map fun e=>5+e.2.2.size).sum
theorem DA(he:l[j]? =some e):eI (l.take (j+1))=eI (l.take j)+(5+e.2.2.size):=by
 obtain⟨hj,rfl⟩:=List.getElem?_eq_some_iff.1 he
 rw[eI,List.take_succ_eq_append_getElem hj,List.map_append,List.sum_append];simp[eI]
theorem JX(s:ByteArray)(e:EdT):edB s e=s++edB ⟨#[]⟩ e:=by
 rw[edB,edB,bD,bD]
 congr 1
theorem yT(s:ByteArray)(l:List EdT):cW s l=s++cW ⟨#[]⟩ l:=by
 induction l generalizing s with
 |nil=>show s=s++(⟨#[]⟩:ByteArray);exact(lu s).symm
 |cons e l ih=>
  show cW (edB s e) l=s++cW (edB ⟨#[]⟩ e) l
  rw[ih,ih (edB ⟨#[]⟩ e),JX s e,ByteArray.append_assoc]
theorem A8(s:ByteArray)(l:List EdT):(cW s l).size=s.size+eI l:=by
 induction l generalizing s with
 |nil=>rfl
 |cons e l ih=>
  show (cW (edB s e) l).size= _
  rw[ih,sX,eI,eI,List.map_cons,List.sum_cons];omega
theorem LD(a:ByteArray):cd [a]=a:=by rw[bD,fP,lu]
structure RecSays (s:ByteArray) (r:RecM):Prop where
 size:s.size=14+eI r.eds+r.note.size
 kind:(aL s 0 1:Int)=r.kind
 xid:(aL s 1 1:Int)=r.xid
 tbl:(aL s 2 2:Int)=r.tbl
 row1:aL s 4 2=1/\eN s 4=⟨#[0]⟩
 row2:aL s 7 2=1/\eN s 7=⟨#[0]⟩
 many:aL s 10 1=r.eds.length
 ed:∀j e,r.eds[j]? =some e->(aL s (11+eI (r.eds.take j)) 2:Int)=e.1/\(aL s (11+eI (r.eds.take j)+2) 1:Int)=e.2.1+1/\aL s (11+eI (r.eds.take j)+3) 2=e.2.2.size/\eN s (11+eI (r.eds.take j)+3)=e.2.2/\11+eI (r.eds.take j)+5+e.2.2.size<=s.size
 xids:aL s (11+eI r.eds) 1=0
 note:aL s (12+eI r.eds) 2=r.note.size/\eN s (12+eI r.eds)=r.note
theorem G5{r:RecM}(h:bv r=true):RecSays (ay r) r:=by
 have hk:=d8 h
 have hb:ay r=cW (hdB r) r.eds++(ag 0 1++aX r.note):=by
  rw[ay,if_pos h,bD,bD,LD,LD,ByteArray.append_assoc]
 have hd:∀t:ByteArray,hdB r++t=ag r.kind 1++(ag r.xid 1++(ag r.tbl 2++(iN++(iN++(ag (r.eds.length:Int) 1++t))))):=fun t=>by
  rw[hdB]
  simp only[bD,fP,ByteArray.append_assoc,p9]
 have hE:cW (hdB r) r.eds=hdB r++cW ⟨#[]⟩ r.eds:=yT _ _
 have h0:ay r=ag r.kind 1++(ag r.xid 1++(ag r.tbl 2++(iN++(iN++(ag (r.eds.length:Int) 1++(cW ⟨#[]⟩ r.eds++(ag 0 1++aX r.note))))))):=by
  rw[hb,hE,ByteArray.append_assoc,hd]
 have p1:=fun n=>aF n 1 (by decide)
 have p2:=fun n=>aF n 2 (by decide)
 have hsz:(cW (hdB r) r.eds).size=11+eI r.eds:=by rw[A8,iK]
 have hz:(ay r).size=14+eI r.eds+r.note.size:=by
  rw[hb,ByteArray.size_append,ByteArray.size_append,hsz,p1,gZ];omega
 generalize hs:ay r=s at*
 have e0:s=(⟨#[]⟩:ByteArray)++(ag r.kind 1++(ag r.xid 1++(ag r.tbl 2++(iN++(iN++(ag (r.eds.length:Int) 1++(cW ⟨#[]⟩ r.eds++(ag 0 1++aX r.note)))))))):=by rw[h0,p9]
 have e1:s=ag r.kind 1++(ag r.xid 1++(ag r.tbl 2++(iN++(iN++(ag (r.eds.length:Int) 1++(cW ⟨#[]⟩ r.eds++(ag 0 1++aX r.note))))))):=h0
 have e2:s=(ag r.kind 1++ag r.xid 1)++(ag r.tbl 2++(iN++(iN++(ag (r.eds.length:Int) 1++(cW ⟨#[]⟩ r.eds++(ag 0 1++aX r.note)))))):=by rw[h0,ByteArray.append_assoc]
 have e4:s=(ag r.kind 1++(ag r.xid 1++ag r.tbl 2))++(aX ⟨#[0]⟩++(iN++(ag (r.eds.length:Int) 1++(cW ⟨#[]⟩ r.eds++(ag 0 1++aX r.note))))):=by rw[h0];simp only[ByteArray.append_assoc];rfl
 have e7:s=(ag r.kind 1++(ag r.xid 1++(ag r.tbl 2++iN)))++(aX ⟨#[0]⟩++(ag (r.eds.length:Int) 1++(cW ⟨#[]⟩ r.eds++(ag 0 1++aX r.note)))):=by rw[h0];simp only[ByteArray.append_assoc];rfl
 have e10:s=(ag r.kind 1++(ag r.xid 1++(ag r.tbl 2++(iN++iN))))++(ag (r.eds.length:Int) 1++(cW ⟨#[]⟩ r.eds++(ag 0 1++aX r.note))):=by rw[h0];simp only[ByteArray.append_assoc]
 have en:s=(cW (hdB r) r.eds++ag 0 1)++(aX r.note++⟨#[]⟩):=by rw[hb,ByteArray.append_assoc,lu]
 have r3:=wy
 have t4:=o7 e4 (p:=4) (by rw[ByteArray.size_append,ByteArray.size_append,p1,p1,p2]) (by decide)
 have t7:=o7 e7 (p:=7) (by rw[ByteArray.size_append,ByteArray.size_append,ByteArray.size_append,p1,p1,p2,r3]) (by decide)
 have tn:=o7 en (p:=12+eI r.eds) (by rw[ByteArray.size_append,hsz,p1];omega) (by have:=hk.note;omega)
 refine⟨hz,?_,?_,?_,⟨t4.1,t4.2.1⟩,⟨t7.1,t7.2.1⟩,?_,fun j e he=>?_,?_,⟨tn.1,tn.2.1⟩⟩
 rw[iv e0 (p:=0) rfl (p1 _)];exact iJ _ (by have:=hk.kind;omega) (by have:=hk.kind;omega)
 rw[iv e1 (p:=1) (p1 _) (p1 _)];exact iJ _ (by have:=hk.xid;omega) (by have:=hk.xid;omega)
 rw[iv e2 (p:=2) (by rw[ByteArray.size_append,p1,p1]) (p2 _)];exact ny _ (by have:=hk.tbl;omega) (by have:=hk.tbl;omega)
 have:=hk.many
 have h1:=iv e10 (p:=10) (by rw[ByteArray.size_append,ByteArray.size_append,ByteArray.size_append,ByteArray.size_append,p1,p1,p2,r3]) (p1 _)
 have h2:=iJ (r.eds.length:Int) (by omega) (by omega)
 omega
 obtain⟨hj,rfl⟩:=List.getElem?_eq_some_iff.1 he
 have hl:r.eds=r.eds.take j++r.eds[j]::r.eds.drop (j+1):=by rw[List.getElem_cons_drop,List.take_append_drop]
 have hed:=ld (hk.eds _ (List.getElem_mem hj))
 have hit:=dA (hk.eds _ (List.getElem_mem hj))
 generalize r.eds[j]=e at*
 generalize r.eds.take j=l1 at*
 generalize r.eds.drop (j+1)=l2 at*
 have hF:cW (hdB r) r.eds=cW (hdB r) l1++(ag e.1 2++(ag (e.2.1+1) 1++(aX e.2.2++cW ⟨#[]⟩ l2))):=by
  have h1:cW (hdB r) r.eds=cW (edB (cW (hdB r) l1) e) l2:=by
   conv=>lhs;rw[hl]
   rw[cW,List.foldl_append];rfl
  rw[h1,yT,edB]
  simp only[bD,fP,ByteArray.append_assoc,p9]
 have hsl:(cW (hdB r) l1).size=11+eI l1:=by rw[A8,iK]
 have f0:s=cW (hdB r) l1++(ag e.1 2++(ag (e.2.1+1) 1++(aX e.2.2++(cW ⟨#[]⟩ l2++(ag 0 1++aX r.note))))):=by rw[hb,hF];simp only[ByteArray.append_assoc]
 have f2:s=(cW (hdB r) l1++ag e.1 2)++(ag (e.2.1+1) 1++(aX e.2.2++(cW ⟨#[]⟩ l2++(ag 0 1++aX r.note)))):=by rw[f0];simp only[ByteArray.append_assoc]
 have f3:s=(cW (hdB r) l1++(ag e.1 2++ag (e.2.1+1) 1))++(aX e.2.2++(cW ⟨#[]⟩ l2++(ag 0 1++aX r.note))):=by rw[f0];simp only[ByteArray.append_assoc]
 have t3:=o7 f3 (p:=11+eI l1+3) (by rw[ByteArray.size_append,ByteArray.size_append,hsl,p2,p1]) (by omega)
 refine⟨?_,?_,t3.1,t3.2.1,by have:=t3.2.2;omega⟩
 rw[iv f0 hsl (p2 _)];exact ny _ (by omega) (by omega)
 rw[iv f2 (p:=11+eI l1+2) (by rw[ByteArray.size_append,hsl,p2]) (p1 _)];exact iJ _ (by omega) (by omega)
 have h1:=iv hb hsz (p1 0)
 have h2:=iJ 0 (by decide) (by decide)
 omega
end
section
open Go.RowKit
theorem St.lentB3{a ta tb c tc:Nat}{ca cb cc:Array Value}(ha:Blk w a ta ca)(hb:Blk w b tb cb)(hc:Blk w c tc cc)(n1:a≠b)(n2:a≠c)(n3:b≠c):St w [a,b,c] [eB a ta ca,eB b tb cb,eB c tc cc] w:=by
 refine⟨Upd.refl _ _,fun x hx=>?_,?_⟩
 simp only[List.mem_cons,List.not_mem_nil,or_false] at hx
 rcases hx with rfl|rfl|rfl
 exact⟨ha,d7 _ _ _,fun k hk=>⟨.inl (by simp[eB] at hk;simp[hk]),by simp[eB] at hk;subst hk;exact ha.lt⟩⟩
 exact⟨hb,d7 _ _ _,fun k hk=>⟨.inl (by simp[eB] at hk;simp[hk]),by simp[eB] at hk;subst hk;exact hb.lt⟩⟩
 exact⟨hc,d7 _ _ _,fun k hk=>⟨.inl (by simp[eB] at hk;simp[hk]),by simp[eB] at hk;subst hk;exact hc.lt⟩⟩
 refine List.Pairwise.cons (fun x hx=>?_) (List.pairwise_pair.2 fun k hk hk'=>by simp[eB] at hk hk';omega)
 simp only[List.mem_cons,List.not_mem_nil,or_false] at hx
 rcases hx with rfl|rfl
 exact fun k hk hk'=>by simp[eB] at hk hk';omega
 exact fun k hk hk'=>by simp[eB] at hk hk';omega
theorem Upd.less3{a c:Nat}(h:Upd [a,b,c] w W)(ha:W.heap[a]? =w.heap[a]?)(hc:W.heap[c]? =w.heap[c]?):Upd [b] w W:=⟨h.os,h.tape,h.output,h.size,fun k hk hn=>by
 by_cases e:k=a
 rw[e];exact ha
 by_cases e2:k=c
 rw[e2];exact hc
 exact h.block k hk (by simp at hn |-;exact⟨e,hn,e2⟩)⟩
def FZ(b:Nat)(s:ByteArray)(p:Nat)(w:World)(e:Ending)(w':World):Prop:=e= .returned (.slice none 0 0)/\Blk w' b 193 #[.string s,.int .i64 (p:Int),.bool false]/\Upd [b] w w'
def LB(r:RecM)(w:World)(e:Ending)(w':World):Prop:=∃A c,e= .returned (.tuple #[Ly r A c,.int .i64 0])/\w'.ownsRow w.heap.size 84 3 (.slice A r.eds.length c) r.eds.length (r.eds.flatMap edC)/\Ext w w'
theorem JI(h:l[j]? =some e):(l.take j).flatMap edC++edC e=(l.take (j+1)).flatMap edC:=by
 obtain⟨hj,rfl⟩:=List.getElem?_eq_some_iff.1 h
 rw[List.take_succ_eq_append_getElem hj,List.flatMap_append];simp
theorem wD(b4 rb b5:Nat)(s:ByteArray)(p:Nat)(w:World)(h4:Blk w b4 153 #[po rb 0])(hr:Blk w rb 193 #[.string s,.int .i64 (p:Int),.bool false])(h5:Blk w b5 4 #[.bool true])(n1:b4≠rb)(n2:b4≠b5)(n3:rb≠b5)(hs:s.size<=1000000)(hp:p+3<=s.size)(hn:aL s p 2=1)(ht:eN s p=dh [0]):
  Calls Tryz.prog 151 #[po b4 0,po b5 0] w (FZ rb s (p+3) w):=by
 have st0:=St.lentB3 h4 hr h5 n1 n2 n3
 go_enter Tryz.func151,Tryz.ntmps151
 have al:=st0
 refine wq (sqr (sqp [.k 2 (sn)] ?_))
 refine aa (wq (sqr (av 0 al ?_)))
 refine fO (.string ((dh [0]))) (eB rb 193 #[.string s,vi (((p+2+aL s p 2:Nat):Int)),.bool false]) 1 al (by
   refine svA fun ρ β W X cx=>?_
   refine am.call (aq (args:=#[vp rb]) rfl cx.sees rfl (by kernel_rfl) (ax (cx.ou 6))) ?_
   refine(oe _ s p _ ⟨(cx.bi 1 rfl),by omega,by omega⟩ (by omega) (by omega)).mono ?_
   rintro e W1 ⟨rfl,bR,hu⟩
   refine⟨_,rfl,bZ (cx.init 1 _ rfl) rfl rfl hu bR.1 (fun c g X' hs hb hv hx=>?_)⟩
   exact⟨(hv 7 rfl).1.trans (congrArg Value.string ht),hx⟩) fun W3 bc=>?_
 refine sqp [.m 3 7] ?_
 refine aa (wq (wq (sqr (av 0 bc ?_))))
 refine sqv (.bool false) bc (by
   refine svA fun ρ β W X cx=>?_
   refine am.call (aq (args:=#[vp rb]) rfl cx.sees rfl (by kernel_rfl) (ax (cx.ou 8))) ?_
   refine(fv _ s ((p+2+aL s p 2:Nat)) false _ ⟨(cx.bi 1 rfl),by omega,by omega⟩).mono ?_
   rintro e W1 ⟨rfl,rfl⟩
   refine⟨_,rfl,bL [] rfl rfl (Ext.refl _) (by simp) List.Pairwise.nil (fun c g X' hs hb hv hN=>?_)⟩
   have aK:=(hv 9 rfl).1;have aW:=(hv 9 rfl).2
   exact aK.trans rfl) fun W6 bI=>?_
 refine aa (wcf rfl (wp_skip (aa (wq (sqr (sqp [.m 11 3] ?_))))))
 refine sqk (.tuple #[sn,vi 0]) bI (fun cx=>⟨_,D6 _,(ax (cx.ou 11))⟩) fun W8 dO=>?_
 refine sqp [.m 10 12,.k 13 (sn),.k 14 (vi 0),.m 4 13,.m 5 14] ?_
 refine aa (wq (sqr (av 2 dO ?_)))
 refine sqp [.k 16 (.bool true)] ?_
 refine dE 16 [17,18] rfl rfl ?_
 refine sqp [.m 17 5,.k 18 (.bool true)] ?_
 refine sqp [.k 19 (.bool true)] ?_
 refine aV (n:=1) 2 #[.bool true] dO fun qI cU=>?_
 refine aa (wq (wq (sqr (sqp [.m 20 4,.k 21 (vi 0),.k 22 (.bool true)] ?_))))
 refine aa (wct rfl (wq (sqr (sqp [.k 2 (sn)] ?_))))
 refine aa (wp_ret (aj ?_))
 refine bpr (sn) (ai Tryz.results151 rpt) ?_
 exact⟨rfl,by rw[show p+3=p+2+aL s p 2 by omega];exact cU.blk 1 rfl,cU.upd.less3 ((cU.blk 0 rfl).trans h4.symm) ((cU.blk 2 rfl).trans h5.symm)⟩
end
section
open Go.RowKit
theorem fh(h:St w0 bor L W)(e sz:Nat):St w0 bor (L++[eO e sz (sn) 0 []]) W:=by
 refine⟨h.upd,fun x hx=>?_,?_⟩
 rcases List.mem_append.1 hx with hx|hx
 exact h.ok x hx
 rw[List.mem_singleton] at hx
 subst hx
 exact⟨World.ownsRow_nil _ _ _ _,go _ _ _ _ _,fun k hk=>by cases hk⟩
 rw[List.pairwise_append]
 refine⟨h.apart,List.pairwise_singleton _ _,fun a _ b hb=>?_⟩
 rw[List.mem_singleton] at hb
 subst hb
 exact fun k _ hk=>by cases hk
theorem JU{B:Nat}{s:ByteArray}{v:Int}(hv:v=((s.size-p:Nat):Int))(h:Rd 193 w B s p false):Calls Tryz.prog 149 #[po B 0] w (Ret (.int .i64 v) w):=by
 subst hv;exact sD B s p false w h
theorem Tryz.infoEditJ:(Tryz.prog.info? 84).map (fun i=>(i.zero,i.size,i.bytes))=some (some (.agg #[.int .i64 0,.int .i64 0,.string ⟨#[]⟩]),3,32):=by kernel_rfl
theorem KE(s:ByteArray)(r:RecM)(w:World)(hh:RecSays s r)(hrr:bv r=true)(hs:s.size<=1000000):
  Calls Tryz.prog 99 #[.string s] w (LB r w):=by
 have hro:=d8 hrr
 have hrm:=hro.many
 have hsz:=hh.size
 have hez:∀e∈r.eds,e.2.2.size<=9223372036854775807:=fun e he=>by have h_:=dA (hro.eds e he);omega
 have hkb:=hro.kind
 have hxb:=hro.xid
 have htb:=hro.tbl
 go_enter Tryz.func99,Tryz.ntmps99
 have al:=St.start w
 refine wq (sqr (bY #[vi 0,vi 0,vi 0,sn,sn,sn,sn,.string ByteArray.empty] al fun bF W1 aA=>?_))
 refine sqp [.k 3 (vi 0)] ?_
 refine aa (wq (sqr (sqp [.m 10 0] ?_)))
 refine sy (fun cD=>vp cD) (fun cD=>eB cD 193 #[.string s,vi 0,.bool false]) aA (fun cx=>⟨_,(ru s _).mono (by rintro e W1 ⟨B4,rfl,⟨hb4,hw4⟩,hx⟩;exact⟨_,rfl,St.one hx ⟨hb4,d7 _ _ _,fun k hk=>by simp[eB] at hk;subst hk;exact⟨hw4,hb4.lt⟩⟩⟩),(ax (cx.ou 10))⟩) fun cD W4 be=>?_
 refine bY #[.pointer none] be fun mZ W5 aR=>?_
 refine aV (n:=1) 2 #[vp cD] aR fun W6 bI=>?_
 refine aa (wq (sqr (bY #[.bool false] bI fun s9 W7 aZ=>?_)))
 refine aV (n:=1) 3 #[.bool true] aZ fun W8 dO=>?_
 refine aa (wq (sqr ?_))
 refine sqv (.func (.func 151) #[] #[vp mZ,vp s9]) dO (by
   exact sv0 rfl rfl rfl rfl rfl (fun _ _ _ h=>h) fun ρ β W X cx=>by
    have uK:ρ (.tmp 4)=vp mZ:=(cx.ou 4)
    have qO:ρ (.tmp 5)=vp s9:=(cx.ou 5)
    simp[go_sem,Instr.makeFunc,uK,qO]) fun W9 cq=>?_
 refine sqp [.m 6 12] ?_
 refine aa (wq (aH [0,1,0,7,0,31,63,0,255] [[2],[1],[2],[4],[2],[5],[],[],[7]] [[],[4],[],[5],[],[6],[],[7],[8]] [[],[1],[],[4],[],[5],[],[],[7]] [.c 13 (vp cD),.a 14,.c 15 (vp cD),.a 16,.c 17 (vp cD),.a 18,.c 19 (.agg #[vi r.kind,vi r.xid,vi r.tbl,sn,sn,sn,sn,.string ByteArray.empty]),.a 7,.n] (fun ix g β X=>match ix with|0=>True|1=>g 14=vi r.kind/\X 4=eB cD 193 #[.string s,vi 1,.bool false]|2=>True|3=>g 16=vi r.xid/\X 5=eB cD 193 #[.string s,vi 2,.bool false]|4=>True|5=>g 18=vi r.tbl/\X 6=eB cD 193 #[.string s,vi 4,.bool false]|6=>True|7=>g 7=vp (pb (β 7))/\X 7=eB (pb (β 7)) 27 #[vi 0,vi 0,vi 0,sn,sn,sn,sn,.string ByteArray.empty]|8=>X 8=eB (pb (β 7)) 27 #[vi r.kind,vi r.xid,vi r.tbl,sn,sn,sn,sn,.string ByteArray.empty]|_=>True) [0,2,3,6,8] [0,1,2,3,4,5,6,7,8] [(7,7,1,8),(5,0,7,12)] cq ?_ ?_ ?_))
 exact fun ix _ _ _ _ _ _ hs hb hx h=>match ix,h with
 |1,h=>by dsimp only;rw[<-hs 14 rfl,<-hx 4 rfl];exact h
 |3,h=>by dsimp only;rw[<-hs 16 rfl,<-hx 5 rfl];exact h
 |5,h=>by dsimp only;rw[<-hs 18 rfl,<-hx 6 rfl];exact h
 |7,h=>by dsimp only;rw[<-hs 7 rfl,<-hb 7 rfl,<-hx 7 rfl];exact h
 |8,h=>by dsimp only;rw[<-hb 7 rfl,<-hx 8 rfl];exact h
 |0,_|2,_|4,_|6,_|_+9,_=>trivial
 refine⟨?_,?_,?_,?_,?_,?_,?_,?_,?_,trivial⟩
 exact xs4 rfl id fun cx=>ae rfl (by kernel_rfl) (cx.ou 4) ((cx.bi 2 rfl).cell 0)
 refine svA fun ρ β W X cx=>?_
 refine am.call (aq (args:=#[vp cD,vi 1]) rfl cx.sees rfl (by kernel_rfl) (aP (cx.an 0) (cx.co _))) ?_
 refine(dL _ s 0 1 _ ⟨(cx.bi 1 rfl),by omega,by omega⟩ (by omega) (by omega)).mono ?_
 rintro e W1 ⟨rfl,bR,hu⟩
 refine⟨_,rfl,bZ (cx.init 1 _ rfl) rfl rfl hu bR.1 (fun g o X' hs hb hv hx=>?_)⟩
 exact⟨(hv 14 rfl).1.trans (congrArg (Value.int .i64) hh.kind),hx⟩
 exact xs4 rfl id fun cx=>ae rfl (by kernel_rfl) (cx.ou 4) ((cx.bi 2 rfl).cell 0)
 refine svA fun ρ β W X cx=>?_
 refine am.call (aq (args:=#[vp cD,vi 1]) rfl cx.sees rfl (by kernel_rfl) (aP (cx.an 2) (cx.co _))) ?_
 refine(dL _ s 1 1 _ ⟨(cx.blk (dTn (cx.an 1)).2 rfl),by omega,by omega⟩ (by omega) (by omega)).mono ?_
 rintro e W1 ⟨rfl,bR,hu⟩
 refine⟨_,rfl,bZ (dTn (cx.an 1)).2 rfl rfl hu bR.1 (fun g o X' hs hb hv hx=>?_)⟩
 exact⟨(hv 16 rfl).1.trans (congrArg (Value.int .i64) hh.xid),hx⟩
 exact xs4 rfl id fun cx=>ae rfl (by kernel_rfl) (cx.ou 4) ((cx.bi 2 rfl).cell 0)
 refine svA fun ρ β W X cx=>?_
 refine am.call (aq (args:=#[vp cD,vi 2]) rfl cx.sees rfl (by kernel_rfl) (aP (cx.an 4) (cx.co _))) ?_
 refine(dL _ s 2 2 _ ⟨(cx.blk (dTn (cx.an 3)).2 rfl),by omega,by omega⟩ (by omega) (by omega)).mono ?_
 rintro e W1 ⟨rfl,bR,hu⟩
 refine⟨_,rfl,bZ (dTn (cx.an 3)).2 rfl rfl hu bR.1 (fun g o X' hs hb hv hx=>?_)⟩
 exact⟨(hv 18 rfl).1.trans (congrArg (Value.int .i64) hh.tbl),hx⟩
 exact xs4 rfl id fun cx=>jX rfl (pmc (dTn (cx.an 1)).1 (pmc (dTn (cx.an 3)).1 (pmc (dTn (cx.an 5)).1 pmn))) (by kernel_rfl)
 refine svA fun ρ β W X cx=>?_
 exact dp (cs:=#[vi 0,vi 0,vi 0,sn,sn,sn,sn,.string ByteArray.empty]) rfl (by kernel_rfl) rfl rfl (fun _ _ _ _ _=> .intro)
 refine svA fun ρ β W X cx=>?_
 exact bx (n:=8) rfl (dTn (cx.an 7)).1 (cx.an 6) (by kernel_rfl) (by kernel_rfl) (by kernel_rfl) cx (dTn (cx.an 7)).2 rfl (nle rfl) (by kernel_rfl) rfl rfl rfl (fun g o X' hs hb hx=>by rw[hb 7];exact hx)
 intro g β X Bq hD fi fr aG
 simp only[exq 6 ((dTn (hD 5 lq)).2),exq 8 ((dTn (hD 8 lq)))] at fi
 simp only[ed 14 ((dTn (hD 1 lq)).1),ed 16 ((dTn (hD 3 lq)).1),ed 18 ((dTn (hD 5 lq)).1),ed 7 ((dTn (hD 7 lq)).1)] at aG
 generalize pb (β 7)=pD at fi aG
 clear hD;subst aG;clear g β X
 refine aa (wq (sqr (sqp [.m 20 6] ?_)))
 refine fO (sn) (eB cD 193 #[.string s,vi 7,.bool false]) 3 fi (by
   refine svA fun ρ β W X cx=>?_
   refine am.call (cQ (f:=151) (args:=#[]) (args':=#[vp mZ,vp s9]) rfl rfl (cx.ou 20) (by kernel_rfl) ji rfl) ?_
   refine(wD _ _ _ s 4 _ (cx.bi 1 rfl) (cx.bi 3 rfl) (cx.bi 2 rfl) (by have h_:=cx.ap 1 3 rfl rfl (by decide);rw[(cx.init 1 _ rfl),(cx.init 3 _ rfl)] at h_;intro e_;exact h_ _ (List.mem_singleton.2 rfl) (List.mem_singleton.2 e_)) (by have h_:=cx.ap 1 2 rfl rfl (by decide);rw[(cx.init 1 _ rfl),(cx.init 2 _ rfl)] at h_;intro e_;exact h_ _ (List.mem_singleton.2 rfl) (List.mem_singleton.2 e_)) (by have h_:=cx.ap 3 2 rfl rfl (by decide);rw[(cx.init 3 _ rfl),(cx.init 2 _ rfl)] at h_;intro e_;exact h_ _ (List.mem_singleton.2 rfl) (List.mem_singleton.2 e_)) hs (by omega) hh.row1.1 hh.row1.2).mono ?_
   rintro e W1 ⟨rfl,bR,hu⟩
   refine⟨_,rfl,bZ (cx.init 3 _ rfl) rfl rfl hu bR (fun g o X' hs hb hv hx=>?_)⟩
   exact⟨(hv 21 rfl).1.trans rfl,hx⟩) fun IQ je=>?_
 refine sqp [.k 22 (po pD 3)] ?_
 refine aV (n:=1) 4 #[vi r.kind,vi r.xid,vi r.tbl,sn,sn,sn,sn,.string ByteArray.empty] je fun zd dv=>?_
 refine aa (wq (sqr (sqp [.m 23 6] ?_)))
 refine fO (sn) (eB cD 193 #[.string s,vi 10,.bool false]) 3 dv (by
   refine svA fun ρ β W X cx=>?_
   refine am.call (cQ (f:=151) (args:=#[]) (args':=#[vp mZ,vp s9]) rfl rfl (cx.ou 23) (by kernel_rfl) ji rfl) ?_
   refine(wD _ _ _ s 7 _ (cx.bi 1 rfl) (cx.bi 3 rfl) (cx.bi 2 rfl) (by have h_:=cx.ap 1 3 rfl rfl (by decide);rw[(cx.init 1 _ rfl),(cx.init 3 _ rfl)] at h_;intro e_;exact h_ _ (List.mem_singleton.2 rfl) (List.mem_singleton.2 e_)) (by have h_:=cx.ap 1 2 rfl rfl (by decide);rw[(cx.init 1 _ rfl),(cx.init 2 _ rfl)] at h_;intro e_;exact h_ _ (List.mem_singleton.2 rfl) (List.mem_singleton.2 e_)) (by have h_:=cx.ap 3 2 rfl rfl (by decide);rw[(cx.init 3 _ rfl),(cx.init 2 _ rfl)] at h_;intro e_;exact h_ _ (List.mem_singleton.2 rfl) (List.mem_singleton.2 e_)) hs (by omega) hh.row2.1 hh.row2.2).mono ?_
   rintro e W1 ⟨rfl,bR,hu⟩
   refine⟨_,rfl,bZ (cx.init 3 _ rfl) rfl rfl hu bR (fun g o X' hs hb hv hx=>?_)⟩
   exact⟨(hv 24 rfl).1.trans rfl,hx⟩) fun uC dS=>?_
 refine sqp [.k 25 (po pD 4)] ?_
 refine aV (n:=1) 4 #[vi r.kind,vi r.xid,vi r.tbl,sn,sn,sn,sn,.string ByteArray.empty] dS fun qI cU=>?_
 refine aa (wq (wq (sqr (av 1 cU ?_))))
 refine fO (vi ((r.eds.length:Int))) (eB cD 193 #[.string s,vi 11,.bool false]) 3 cU (by
   refine svA fun ρ β W X cx=>?_
   refine am.call (aq (args:=#[vp cD,vi 1]) rfl cx.sees rfl (by kernel_rfl) (aP (cx.ou 26) (cx.co _))) ?_
   refine(dL _ s 10 1 _ ⟨(cx.bi 3 rfl),by omega,by omega⟩ (by omega) (by omega)).mono ?_
   rintro e W1 ⟨rfl,bR,hu⟩
   refine⟨_,rfl,bZ (cx.init 3 _ rfl) rfl rfl hu bR.1 (fun g o X' hs hb hv hx=>?_)⟩
   exact⟨(hv 27 rfl).1.trans (congrArg (fun n:Nat=>Value.int .i64 (n:Int)) hh.many),hx⟩) fun sa ef=>?_
 refine sqp [.k 28 (vi 0)] ?_
 refine aa (wp_block ?_)
 have hn23:=fh ef 84 3
 simp only[List.cons_append,List.nil_append] at hn23
 refine aT (fun t_ mz az W=>∃j:Nat,∃q:Nat,∃EA:Option Addr,∃Ec:Nat,j<=r.eds.length/\q=11+eI (r.eds.take j)/\mz=r.eds.length-j/\az=⟨(ovr (jv az) [(8,8,1,[]),(19,28,0,[vi ((j:Int))]),(0,29,16,[])] t_).toArray,[]⟩/\St w [] [eB bF 27 #[vi 0,vi 0,vi 0,sn,sn,sn,sn,.string ByteArray.empty],eB mZ 153 #[vp cD],eB s9 4 #[.bool true],eB cD 193 #[.string s,vi ((q:Int)),.bool false],eB pD 27 #[vi r.kind,vi r.xid,vi r.tbl,sn,sn,.slice EA j Ec,sn,.string ByteArray.empty],eO 84 3 (.slice EA j Ec) j ((r.eds.take j).flatMap edC)] W) (r.eds.length-0) ?_ ?_
 exact⟨0,11,none,0,Nat.zero_le _,rfl,rfl,(by kernel_rfl),hn23.pk [0,1,2,3,4,5]⟩
 rintro Qt a24 y6 ⟨j,q,EA,Ec,hj,hq,rfl,hj_,e9⟩
 refine ovz hj_ fun Pn=>?_
 refine wq (sqr (sqp [.k 29 (.bool (decide ((j:Int)<(r.eds.length:Int))))] ?_))
 refine aa (wq (wds (fun fe fa=>?_) fun fe fa=>?_))
 refine wp_skip (aa (wq (wp_block (wq ?_))))
 obtain⟨ep,es,eb,hek⟩:=k8 (l:=r.eds) (k:=j) (by omega)
 obtain⟨g1,g2,g3,g4,g5⟩:=hh.ed j _ hek
 rw[<-hq] at g1 g2 g3 g4 g5
 have g3:aL s (q+2+1) 2=eb.size:=g3
 have g4:eN s (q+2+1)=eb:=g4
 have g5:q+5+eb.size<=s.size:=g5
 have g1:(aL s q 2:Int)=ep:=g1
 have g2:(aL s (q+2) 1:Int)=es+1:=g2
 obtain⟨he1_,he2_⟩:=ld (hro.eds _ (List.mem_of_getElem? hek))
 have he2_: -1<=es/\es<=23:=he2_
 obtain⟨es1,hes1⟩:∃z,es+1=z:=⟨_,rfl⟩
 rw[hes1] at g2
 refine aH [0,1,0,4,0,28,60,0,188,508,1020,2047,4095] [[],[4],[1],[3],[1],[6],[],[1],[7],[],[],[9,5]] [[],[],[],[6],[],[7],[],[],[8],[],[9],[10]] [[],[],[],[3],[],[6],[],[],[7],[],[],[5]] [.k 30 (po pD 5),.c 31 (.slice EA j Ec),.c 32 (vp cD),.a 33,.c 34 (vp cD),.a 35,.c 36 (vi (es1-1)),.c 37 (vp cD),.a 38,.c 39 (.agg #[vi ep,vi (es1-1),.string eb]),.a 40,.a 41,.a 8] (fun ix g β X=>match ix with|0|1|2=>True|3=>g 33=vi ep/\X 6=eB cD 193 #[.string s,vi (((q+2:Nat):Int)),.bool false]|4=>True|5=>g 35=vi es1/\X 7=eB cD 193 #[.string s,vi (((q+2+1:Nat):Int)),.bool false]|6|7=>True|8=>g 38= .string eb/\X 8=eB cD 193 #[.string s,vi (((q+2+1+2+aL s (q+2+1) 2:Nat):Int)),.bool false]|9=>True|10=>g 40= .slice ((some ⟨(pb' (β 40)),0,none⟩)) 1 1/\X 9=eO 84 3 (.slice ((some ⟨(pb' (β 40)),0,none⟩)) 1 1) 1 ([vi ep,vi (es1-1),.string eb])|11=>g 41= .slice (sA (β 41)) (j+1) (sC (β 41))/\X 10=eO 84 3 (.slice (sA (β 41)) (j+1) (sC (β 41))) (j+1) ((r.eds.take (j+1)).flatMap edC)|12=>g 8= .slice (sA (β 41)) (j+1) (sC (β 41))|_=>True) [0,1,2,4,8,9,10] [1,2,3,4,5,6,7,8,9,10,11,12] [(8,12,1,9),(21,0,12,33)] e9 ?_ ?_ ?_
 exact fun ix _ _ _ _ _ _ hs hb hx h=>match ix,h with
 |3,h=>by dsimp only;rw[<-hs 33 rfl,<-hx 6 rfl];exact h
 |5,h=>by dsimp only;rw[<-hs 35 rfl,<-hx 7 rfl];exact h
 |8,h=>by dsimp only;rw[<-hs 38 rfl,<-hx 8 rfl];exact h
 |10,h=>by dsimp only;rw[<-hs 40 rfl,<-hb 40 rfl,<-hx 9 rfl];exact h
 |11,h=>by dsimp only;rw[<-hs 41 rfl,<-hb 41 rfl,<-hx 10 rfl];exact h
 |12,h=>by dsimp only;rw[<-hs 8 rfl,<-hb 41 rfl];exact h
 |0,_|1,_|2,_|4,_|6,_|7,_|9,_|_+13,_=>trivial
 refine⟨?_,?_,?_,?_,?_,?_,?_,?_,?_,?_,?_,?_,trivial⟩
 exact xs4 rfl id fun cx=>ae rfl (by kernel_rfl) (cx.an 0) ((cx.bi 4 rfl).cell 5)
 exact xs4 rfl id fun cx=>ae rfl (by kernel_rfl) (cx.ou 4) ((cx.bi 1 rfl).cell 0)
 refine svA fun ρ β W X cx=>?_
 refine am.call (aq (args:=#[vp cD,vi 2]) rfl cx.sees rfl (by kernel_rfl) (aP (cx.an 2) (cx.co _))) ?_
 refine(dL _ s q 2 _ ⟨(cx.bi 3 rfl),by omega,by omega⟩ (by omega) (by omega)).mono ?_
 rintro e W1 ⟨rfl,bR,hu⟩
 refine⟨_,rfl,bZ (cx.init 3 _ rfl) rfl rfl hu bR.1 (fun g o X' hs hb hv hx=>?_)⟩
 exact⟨(hv 33 rfl).1.trans (congrArg (Value.int .i64) g1),hx⟩
 exact xs4 rfl id fun cx=>ae rfl (by kernel_rfl) (cx.ou 4) ((cx.bi 1 rfl).cell 0)
 refine svA fun ρ β W X cx=>?_
 refine am.call (aq (args:=#[vp cD,vi 1]) rfl cx.sees rfl (by kernel_rfl) (aP (cx.an 4) (cx.co _))) ?_
 refine(dL _ s (q+2) 1 _ ⟨(cx.blk (dTn (cx.an 3)).2 rfl),by omega,by omega⟩ (by omega) (by omega)).mono ?_
 rintro e W1 ⟨rfl,bR,hu⟩
 refine⟨_,rfl,bZ (dTn (cx.an 3)).2 rfl rfl hu bR.1 (fun g o X' hs hb hv hx=>?_)⟩
 exact⟨(hv 35 rfl).1.trans (congrArg (Value.int .i64) g2),hx⟩
 exact xs4 rfl id fun cx=>ry rfl (dTn (cx.an 5)).1 (cx.co _) (congrArg (fun z=>some (Value.int .i64 z)) ((IntWalk.i64_in _ (by omega)).trans (by omega)))
 exact xs4 rfl id fun cx=>ae rfl (by kernel_rfl) (cx.ou 4) ((cx.bi 1 rfl).cell 0)
 refine svA fun ρ β W X cx=>?_
 refine am.call (aq (args:=#[vp cD]) rfl cx.sees rfl (by kernel_rfl) (ax (cx.an 7))) ?_
 refine(oe _ s (q+2+1) _ ⟨(cx.blk (dTn (cx.an 5)).2 rfl),by omega,by omega⟩ (by omega) (by omega)).mono ?_
 rintro e W1 ⟨rfl,bR,hu⟩
 refine⟨_,rfl,bZ (dTn (cx.an 5)).2 rfl rfl hu bR.1 (fun g o X' hs hb hv hx=>?_)⟩
 exact⟨(hv 38 rfl).1.trans (congrArg Value.string g4),hx⟩
 exact xs4 rfl id fun cx=>jX rfl (pmc (dTn (cx.an 3)).1 (pmc (cx.an 6) (pmc (dTn (cx.an 8)).1 pmn))) (by kernel_rfl)
 refine svA fun ρ β W X cx=>?_
 have Po:ρ (.tmp 39)= .agg #[vi ep,vi (es1-1),.string eb]:=(cx.an 9)
 exact mn (e:=84) (sz:=3) (xs:=[vi ep,vi (es1-1),.string eb]) rfl (by simp[go_sem,Po]) rfl (by decide) rfl rfl (fun _ _ _ _ _=> .intro)
 refine svA fun ρ β W X cx=>?_
 obtain⟨i0,hi0,hz0,hz1,hz2⟩:=info_parts Tryz.infoEditJ
 refine jc (n:=j) (m:=1) (nm:=j+1) (sz:=3) (xs:=(r.eds.take j).flatMap edC) (news:=[vi ep,vi (es1-1),.string eb]) (xs':=(r.eds.take (j+1)).flatMap edC) rfl (ty:=24) rfl (by kernel_rfl) hi0 hz0 hz1 hz2 rfl (by decide) (cx.an 1) cx (cx.init 5 _ rfl) rfl (dTn (cx.an 10)).1 (by rfl) (At.of_ownN (cx.row (dTn (cx.an 10)).2 rfl)) (by simp[edC,Value.oneCell']) (by simp only[maxLen];omega) (by omega) rfl rfl rfl (by omega) ((by rw[<-JI hek,show es=es1-1 by omega];rfl)) (fun g o X' hs hb hv hx=>?_)
 exact⟨hv,hx⟩
 exact sv rfl rfl rfl rfl rfl _ (fun _ _ _ h=>h) (fun β o h=>by rw[h 41 (by decide)]) fun ρ β W X cx=>dm rfl (dTn (cx.an 11)).1
 intro g β X Bp hD fx fr aG
 simp only[exq 8 ((dTn (hD 8 lq)).2),exq 9 ((dTn (hD 10 lq)).2),exq 10 ((dTn (hD 11 lq)).2)] at fx
 simp only[ed 33 ((dTn (hD 3 lq)).1),ed 35 ((dTn (hD 5 lq)).1),ed 38 ((dTn (hD 8 lq)).1),ed 40 ((dTn (hD 10 lq)).1),ed 41 ((dTn (hD 11 lq)).1),ed 8 ((dTn (hD 12 lq)))] at aG
 generalize pb' (β 40)=Qu,sA (β 41)=Fo,sC (β 41)=Fp at fx aG
 clear hD;subst aG;clear g β X
 refine aa (sqr (sqp [.m 42 8,.k 43 (po pD 5)] ?_))
 refine aV (n:=1) 3 #[vi r.kind,vi r.xid,vi r.tbl,sn,sn,.slice Fo (j+1) Fp,sn,.string ByteArray.empty] fx fun Fe jx=>?_
 refine aw (aa (sqr (sqp [sI 44 ((j:Int)+1) (by omega),.m 28 44] ?_)))
 refine aa ?_
 refine⟨r.eds.length-((j+1)),by omega,?_⟩
 exact⟨(j+1),q+2+1+2+aL s (q+2+1) 2,Fo,Fp,by omega,by rw[DA hek];show _=11+(eI (r.eds.take j)+(5+eb.size));omega,rfl,(by kernel_rfl),jx.pk [0,1,2,4,3,6]⟩
 refine wp_exit (au (au (bh (aa (wq (wq ?_))))))
 obtain rfl:j=r.eds.length:=by omega
 rw[List.take_length] at hq e9
 have g6:(aL s q 1:Int)=0:=by rw[hq,hh.xids];rfl
 have g7:aL s (q+1) 2=r.note.size:=by rw[hq,show 11+eI r.eds+1=12+eI r.eds by omega];exact hh.note.1
 have g8:eN s (q+1)=r.note:=by rw[hq,show 11+eI r.eds+1=12+eI r.eds by omega];exact hh.note.2
 have hsz:=hh.size
 have hrn:=hro.note
 refine sqr (av 1 e9 ?_)
 refine fO (vi 0) (eB cD 193 #[.string s,vi (((q+1:Nat):Int)),.bool false]) 3 e9 (by
   refine svA fun ρ β W X cx=>?_
   refine am.call (aq (args:=#[vp cD,vi 1]) rfl cx.sees rfl (by kernel_rfl) (aP (cx.ou 45) (cx.co _))) ?_
   refine(dL _ s q 1 _ ⟨(cx.bi 3 rfl),by omega,by omega⟩ (by omega) (by omega)).mono ?_
   rintro e W1 ⟨rfl,bR,hu⟩
   refine⟨_,rfl,bZ (cx.init 3 _ rfl) rfl rfl hu bR.1 (fun g o X' hs hb hv hx=>?_)⟩
   exact⟨(hv 46 rfl).1.trans (congrArg (Value.int .i64) g6),hx⟩) fun uB dG=>?_
 refine sqp [.k 47 (vi 0)] ?_
 refine aa (wp_block ?_)
 refine aT (fun t_ mz az W=>∃k:Nat,k<=0/\mz=0-k/\az=⟨(ovr (jv az) [(9,9,1,[]),(37,47,0,[vi ((k:Int))]),(0,48,10,[])] t_).toArray,[]⟩/\St w [] [eB bF 27 #[vi 0,vi 0,vi 0,sn,sn,sn,sn,.string ByteArray.empty],eB mZ 153 #[vp cD],eB s9 4 #[.bool true],eB cD 193 #[.string s,vi (((q+1:Nat):Int)),.bool false],eB pD 27 #[vi r.kind,vi r.xid,vi r.tbl,sn,sn,.slice EA r.eds.length Ec,sn,.string ByteArray.empty],eO 84 3 (.slice EA r.eds.length Ec) r.eds.length (r.eds.flatMap edC)] W) (0-0) ?_ ?_
 exact⟨0,Nat.zero_le _,rfl,(by kernel_rfl),dG.pk [0,1,2,3,4,5]⟩
 rintro TD a36 Br ⟨k,hk,rfl,hj_,fj⟩
 refine ovz hj_ fun RS=>?_
 refine wq (sqr ?_)
 have hd38:(decide ((k:Int)<0))=false:=(decide_eq_false (by omega))
 refine sqp [.e 48 (.bool (decide ((k:Int)<0))) (.bool false) (congrArg Value.bool hd38)] ?_
 refine aa (wq (wcf rfl (wp_exit (au (au (bh (aa (wq (sqr (av 1 fj ?_))))))))))
 refine fO (.string r.note) (eB cD 193 #[.string s,vi (((q+1+2+aL s (q+1) 2:Nat):Int)),.bool false]) 3 fj (by
   refine svA fun ρ β W X cx=>?_
   refine am.call (aq (args:=#[vp cD]) rfl cx.sees rfl (by kernel_rfl) (ax (cx.ou 58))) ?_
   refine(oe _ s (q+1) _ ⟨(cx.bi 3 rfl),by omega,by omega⟩ (by omega) (by omega)).mono ?_
   rintro e W1 ⟨rfl,bR,hu⟩
   refine⟨_,rfl,bZ (cx.init 3 _ rfl) rfl rfl hu bR.1 (fun g o X' hs hb hv hx=>?_)⟩
   exact⟨(hv 59 rfl).1.trans (congrArg Value.string g8),hx⟩) fun se dz=>?_
 refine sqp [.k 60 (po pD 7)] ?_
 refine aV (n:=1) 4 #[vi r.kind,vi r.xid,vi r.tbl,sn,sn,.slice EA r.eds.length Ec,sn,.string r.note] dz fun uE fk=>?_
 refine aa (wq (wp_block (wq (sqr (av 1 fk ?_)))))
 refine sqv (.bool false) fk (by
   refine svA fun ρ β W X cx=>?_
   refine am.call (aq (args:=#[vp cD]) rfl cx.sees rfl (by kernel_rfl) (ax (cx.ou 62))) ?_
   refine(fv _ s (q+1+2+aL s (q+1) 2) false _ ⟨(cx.bi 3 rfl),by omega,by omega⟩).mono ?_
   rintro e W1 ⟨rfl,rfl⟩
   refine⟨_,rfl,bL [] rfl rfl (Ext.refl _) (by simp) List.Pairwise.nil (fun g o X' hs hb hv hN=>?_)⟩
   have aK:=(hv 63 rfl).1;have aW:=(hv 63 rfl).2
   exact aK.trans rfl) fun Qv uL=>?_
 refine sqp [.k 61 (.bool false)] ?_
 refine aa (wcf rfl (wq (sqr (av 2 uL ?_))))
 refine sqp [.k 67 (.bool false),.k 68 (.bool false)] ?_
 refine dE 68 [69,70,71] rfl rfl ?_
 refine av 1 uL ?_
 refine sqk (vi 0) uL (fun cx=>⟨_,JU (p:=(q+1+2+aL s (q+1) 2)) (by omega:(0:Int)= _) ⟨(cx.bi 3 rfl),by omega,by omega⟩,(ax (cx.ou 69))⟩) fun Me l7=>?_
 refine sqp [.k 71 (.bool false)] ?_
 refine sqp [.k 72 (.bool false),.k 73 (.bool false)] ?_
 refine dE 73 [74,75,76] rfl rfl ?_
 refine bE 4 8 l7 ?_
 have hd56:((bv r))=true:=hrr
 refine sqv (.bool true) l7 (iq rfl rfl rfl rfl rfl (fun _ _ _ h=>h.trans (congrArg Value.bool hd56)) fun ρ β W X cx=>⟨_,_,aq (args:=#[.agg #[vi r.kind,vi r.xid,vi r.tbl,sn,sn,.slice EA r.eds.length Ec,sn,.string r.note]]) rfl cx.sees rfl (by kernel_rfl) (ax (cx.ou 74)),l3 r.kind r.xid r.tbl _ _ r.eds r.note _ (At.of_ownN (cx.ri 5 rfl)) (by omega) hez (by omega)⟩) fun Qw rH=>?_
 refine sqp [.k 76 (.bool false)] ?_
 refine sqp [.k 77 (.bool false),.k 65 (.bool false)] ?_
 refine aa (wcf rfl (wp_skip (aw (aa (wq (sqr ?_))))))
 refine bE 4 8 rH ?_
 refine aV (n:=8) 0 #[vi r.kind,vi r.xid,vi r.tbl,sn,sn,.slice EA r.eds.length Ec,sn,.string r.note] rH fun Bs fo=>?_
 refine sqp [.k 3 (vi 0)] ?_
 refine aa (wp_ret ?_)
 refine bpr (.tuple #[.agg #[vi r.kind,vi r.xid,vi r.tbl,sn,sn,.slice EA r.eds.length Ec,sn,.string r.note],vi 0]) (aQ Tryz.results99 (rpa (fo.blk 0 rfl) 0 8) rpt) ?_
 exact⟨_,_,rfl,fo.own' 5 rfl,fo.ext⟩
end
section
open Go.RowKit
def eM(R:List Ent):Ent:=⟨R.flatMap (·.fp),fun W=>∀e∈R,e.holds W/\e.loc⟩
theorem DU(R:List Ent):(eM R).loc:=fun W W' hk h e he=>
 ⟨(h e he).2 W W' (fun k hk'=>hk k (List.mem_flatMap.2 ⟨e,he,hk'⟩)) (h e he).1,(h e he).2⟩
theorem St.emNil(h:St w0 bor L W):St w0 bor (L++[eM []]) W:=by
 refine⟨h.upd,fun x hx=>?_,?_⟩
 rcases List.mem_append.1 hx with hx|hx
 exact h.ok x hx
 rw[List.mem_singleton] at hx
 subst hx
 exact⟨fun e he=>(by cases he),DU _,fun k hk=>(by cases hk)⟩
 rw[List.pairwise_append]
 refine⟨h.apart,List.pairwise_singleton _ _,fun a _ b hb=>?_⟩
 rw[List.mem_singleton] at hb
 subst hb
 exact fun k _ hk=>by cases hk
theorem St.merge{R:List Ent}{e:Ent}(h:St w0 bor (L++[eM R,e]) W):St w0 bor (L++[eM (R++[e])]) W:=by
 have hM:=h.ok (eM R) (by simp)
 have hE:=h.ok e (by simp)
 have hfp:∀k,k∈(eM (R++[e])).fp<->k∈(eM R).fp\/k∈e.fp:=fun k=>by simp[eM]
 refine⟨h.upd,fun x hx=>?_,?_⟩
 rcases List.mem_append.1 hx with hx|hx
 exact h.ok x (by simp[hx])
 rw[List.mem_singleton] at hx
 subst hx
 refine⟨fun x hx=>?_,DU _,fun k hk=>?_⟩
 rcases List.mem_append.1 hx with hx|hx
 exact hM.holds x hx
 rw[List.mem_singleton] at hx
 subst hx
 exact⟨hE.holds,hE.loc⟩
 rcases(hfp k).1 hk with hk|hk
 exact hM.own k hk
 exact hE.own k hk
 have ha:=h.apart
 rw[List.pairwise_append] at ha |-
 refine⟨ha.1,List.pairwise_singleton _ _,fun a ha' b hb=>?_⟩
 rw[List.mem_singleton] at hb
 subst hb
 intro k hk hkb
 rcases(hfp k).1 hkb with hkb|hkb
 exact ha.2.2 a ha' (eM R) (by simp) k hk hkb
 exact ha.2.2 a ha' e (by simp) k hk hkb
theorem St.repl{L1 L2:List Ent}{E':Ent}(h:St w0 bor (L1++E::L2) W)(hfp:E'.fp=E.fp)(hh:E.holds W->E'.holds W)(hl:E'.loc):St w0 bor (L1++E'::L2) W:=by
 refine⟨h.upd,fun x hx=>?_,?_⟩
 rcases List.mem_append.1 hx with hx|hx
 exact h.ok x (List.mem_append_left _ hx)
 rcases List.mem_cons.1 hx with e|hx
 rw[e]
 have h1:=h.ok E (by simp)
 exact⟨hh h1.holds,hl,fun k hk=>h1.own k (hfp ▸ hk)⟩
 exact h.ok x (by simp[hx])
 have ha:=h.apart
 rw[List.pairwise_append,List.pairwise_cons] at ha |-
 refine⟨ha.1,⟨fun b hb k hk hk'=>ha.2.1.1 b hb k (hfp ▸ hk) hk',ha.2.1.2⟩,fun a ha' b hb=>?_⟩
 rcases List.mem_cons.1 hb with e|hb
 rw[e]
 exact fun k hk hk'=>ha.2.2 a ha' E (by simp) k hk (hfp ▸ hk')
 exact ha.2.2 a ha' b (by simp[hb])
section
variable{P:Program}{ops:Array Oper}{L:List Nat}{a0:Act}{w0:World}{bor:List Nat}{X0:List Ent}{us cr kl:List (List Nat)}
 {D:Nat->(Tmp->Value)->(Tmp->Value)->(Nat->Ent)->Prop}{i:Nat}{o:Oper}{ρ:Operand->Value}{β:Tmp->Value}{W:World}{X:Nat->Ent}
theorem aN(N:List Ent)(hX:X q=E)(hk:atV kl i=[q])(hl:N.length=(atV cr i).length)(hs:St W E.fp N W')
  (hD:∀(c g:Tmp->Value) (X':Nat->Ent),(∀t,o.dst≠some t->c t=ρ (.tmp t))->(∀t,o.dst≠some t->g t=β t)->(∀d,o.dst=some d->c d=v/\g d=v)->(atV cr i).map X'=N->D i c g X'):bX cr kl D i o.dst ρ β W X v W':=by
 subst hX
 have e1:(atV kl i).flatMap (fun q=>(X q).fp)=(X q).fp:=by rw[hk];simp
 exact⟨N,hl,⟨by rw[e1];exact hs.upd,fun e he=>⟨(hs.ok e he).holds,(hs.ok e he).loc,fun k hk'=>by rw[e1];exact(hs.ok e he).own k hk'⟩,hs.apart⟩,
  fun c g X' hs' hv hb' hbv hx' hN=>hD c g X' hs' hb' (fun d hd=>⟨hv d hd,hbv d hd⟩) hN⟩
end
theorem St.lend{E:Ent}(h:E.holds w)(hl:E.loc)(hb:∀k∈E.fp,k<w.heap.size):St w E.fp [E] w:=
 ⟨Upd.refl _ _,fun x hx=>by rw[List.mem_singleton] at hx;subst hx;exact⟨h,hl,fun k hk=>⟨.inl hk,hb k hk⟩⟩,List.pairwise_singleton _ _⟩
end
section
open Go.RowKit
structure RcT where
 r:RecM
 A:Option Addr
 c:Nat
def rcC(t:RcT):List Value:=[.int .i64 t.r.kind,.int .i64 t.r.xid,.int .i64 t.r.tbl,.slice none 0 0,.slice none 0 0,.slice t.A t.r.eds.length t.c,.slice none 0 0,.string t.r.note]
theorem cL(t:RcT):(rcC t).length=8:=rfl
def gU(t:RcT):Ent:=eO 84 3 (.slice t.A t.r.eds.length t.c) t.r.eds.length (t.r.eds.flatMap edC)
def eRc(Qs:List RcT):Ent:=eM (Qs.map gU)
theorem dW{Qs:List RcT}(h:(eRc Qs).holds W){t:RcT}(ht:t∈Qs):At W t.A (t.r.eds.flatMap edC):=At.of_ownN (h (gU t) (List.mem_map.2 ⟨_,ht,rfl⟩)).1
theorem St.mergeR{Qs:List RcT}{t:RcT}(h:St w0 bor (L++[eRc Qs,gU t]) W):St w0 bor (L++[eRc (Qs++[t])]) W:=by
 have h1:=St.merge (L:=L) (R:=Qs.map gU) (e:=gU t) h
 rw[eRc,List.map_append]
 exact h1
def szF(L:List RecM):Nat:=(L.map fun r=>(aC r).size).sum
def ei(L:List RecM):ByteArray:=cd (L.map aC)
def cy(L:List RecM)(j:Nat):List Int:=(List.range j).map fun i=>(szF (L.take (i+1)):Int)
theorem ku(L:List RecM)(j:Nat):(cy L j).length=j:=by simp[cy]
theorem wU(L:List RecM)(j:Nat):(cy L j).map (Value.int .i64)++[.int .i64 (szF (L.take (j+1)):Int)]=(cy L (j+1)).map (Value.int .i64):=by
 rw[cy,cy,List.range_succ,List.map_append,List.map_append];rfl
theorem ck(L:List RecM):(ei L).size=szF L:=by rw[ei,iH,szF,List.map_map];rfl
theorem xP{L:List RecM}{r:RecM}(h:L[j]? =some r):szF (L.take (j+1))=szF (L.take j)+(aC r).size:=by
 obtain⟨hj,rfl⟩:=List.getElem?_eq_some_iff.1 h
 rw[szF,szF,List.take_succ_eq_append_getElem hj,List.map_append,List.sum_append];simp
theorem yZ(a b:List ByteArray):cd (a++b)=cd a++cd b:=by
 induction a with
 |nil=>rw[List.nil_append,fP,p9]
 |cons x a ih=>rw[List.cons_append,bD,bD,ih,ByteArray.append_assoc]
theorem jk{r:RecM}(h:bv r=true):(aC r).size=8+(ay r).size:=by
 rw[aC,if_pos h,wT,aF _ _ (by decide),aF _ _ (by decide)]
theorem oz{L:List RecM}(h:∀r∈L,bv r=true):8*L.length<=szF L:=by
 induction L with
 |nil=>exact Nat.zero_le _
 |cons r L ih=>
  have h1:=ih fun x hx=>h x (by simp[hx])
  have h2:=jk (h r (by simp))
  have h3:szF (r::L)=(aC r).size+szF L:=by simp[szF]
  rw[List.length_cons,h3];omega
theorem KZ{L:List RecM}{r:RecM}(hj:L[j]? =some r)(hr:bv r=true){s t:ByteArray}(hs:s=ei L++t):aL s (szF (L.take j)) 4=(ay r).size/\aL s (szF (L.take j)+4) 4=aY (ay r)/\s.extract (szF (L.take j)+4+4) (szF (L.take j)+4+4+(ay r).size)=ay r/\szF (L.take j)+8+(ay r).size<=s.size:=by
 obtain⟨hjl,rfl⟩:=List.getElem?_eq_some_iff.1 hj
 have hl:L=L.take j++L[j]::L.drop (j+1):=by rw[List.getElem_cons_drop,List.take_append_drop]
 have hz:=ck (L.take j)
 have hb:=jo L[j]
 have hsl:=ir (ay L[j])
 generalize L[j]=r at*
 generalize L.take j=l1 at*
 generalize L.drop (j+1)=l2 at*
 have e:s=ei l1++(ag ((ay r).size:Int) 4++(ag (aY (ay r):Int) 4++(ay r++(ei l2++t)))):=by
  rw[hs,hl,ei,List.map_append,yZ,List.map_cons,bD,aC,if_pos hr]
  simp only[bD,fP,ByteArray.append_assoc,p9,lu]
  rfl
 have p4:=fun n=>aF n 4 (by decide)
 have e2:s=(ei l1++ag ((ay r).size:Int) 4)++(ag (aY (ay r):Int) 4++(ay r++(ei l2++t))):=by rw[e];simp only[ByteArray.append_assoc]
 have e3:bl s=(bl (ei l1)++(bl (ag ((ay r).size:Int) 4)++bl (ag (aY (ay r):Int) 4)))++(bl (ay r)++bl (ei l2++t)):=by rw[e];simp only[cZ,List.append_assoc]
 have h1:=iv e hz (p4 _)
 have h2:=iv e2 (p:=szF l1+4) (by rw[ByteArray.size_append,hz,p4]) (p4 _)
 have h3:=jH ((ay r).size:Int) (by omega) (by omega)
 have h4:=jH (aY (ay r):Int) (by omega) (by omega)
 refine⟨by omega,by omega,?_,?_⟩
 rw[kE e3 (p:=szF l1+4+4) (q:=szF l1+4+4+(ay r).size) (by simp only[List.length_append,bO,hz,p4]) (by rw[bO]),iB]
 rw[e];simp only[ByteArray.size_append,hz,p4];omega
def ug(s:ByteArray)(p:Nat):Prop:=s.size<p+8\/s.size<p+8+aL s p 4
theorem HP{s:ByteArray}{L:List RecM}(hj:j<=L.length)(hq:q=szF (L.take j))(ht:ug s (szF L)):j<L.length\/(j=L.length/\s.size<q+4)\/(j=L.length/\q+4<=s.size/\s.size<q+4+4)\/(j=L.length/\q+4+4<=s.size/\s.size<q+4+4+aL s q 4):=by
 rcases Nat.lt_or_ge j L.length with h|h
 exact .inl h
 obtain rfl:j=L.length:=by omega
 rw[List.take_length] at hq
 subst hq
 unfold ug at ht
 omega
def Fb(L:List RecM)(w:World)(e:Ending)(w':World):Prop:=∃LA lc EA ec Ps,Ps.map RcT.r=L/\e= .returned (.tuple #[.slice LA L.length lc,.slice EA L.length ec])/\St w [] [eO 27 8 (.slice LA L.length lc) L.length (Ps.flatMap rcC),eO 3 1 (.slice EA L.length ec) L.length ((cy L L.length).map (Value.int .i64)),eRc Ps] w'
theorem Tryz.infoRecJ:(Tryz.prog.info? 27).map (fun i=>(i.zero,i.size,i.bytes))=some (some (.agg #[.int .i64 0,.int .i64 0,.int .i64 0,sn,sn,sn,sn,.string ⟨#[]⟩]),8,136):=by kernel_rfl
theorem Tryz.infoIntJ:(Tryz.prog.info? 3).map (fun i=>(i.zero,i.size,i.bytes))=some (some (.int .i64 0),1,8):=by kernel_rfl
theorem Bo(Ps:List RcT)(t:RcT):Ps.flatMap rcC++rcC t=(Ps++[t]).flatMap rcC:=by simp
theorem Jk(B:Nat)(s:ByteArray)(p:Nat)(f:Bool)(w:World)(h:Rd 193 w B s p f):
  Calls Tryz.prog 100 #[po B 0] w (Ret (.int .i64 (p:Int)) w):=by
 go_enter Tryz.func100,Tryz.ntmps100
 have al:=St.start w
 refine wq (sqr (sqp [.k 2 (vi 0)] ?_))
 refine aa (wq (wq (sqr (sqp [.m 3 0] ?_))))
 refine sqv (.bool false) al (by
   exact sv0 rfl rfl rfl rfl rfl (fun _ _ _ h=>h) fun ρ β W X cx=>by
    have gw:ρ (.tmp 3)=vp B:=(cx.ou 3)
    simp[go_sem,cx.sees.const,gw]) fun W3 bc=>?_
 refine aa (wcf rfl (wp_skip (aa (wq (sqr (sqp [.m 5 0,.k 6 (vp B),.k 7 (po B 1)] ?_))))))
 refine sql (vi ((p:Int))) bc (fun cx=>ae rfl (by kernel_rfl) (cx.ou 7) ((Blk.ext h.1 cx.upd.to_ext).cell 1)) ?_
 refine sqp [.m 2 8] ?_
 refine aa (wp_ret ?_)
 refine bpr (vi ((p:Int))) (ai Tryz.results100 rpt) ?_
 exact Ret.of rfl bc.ext
theorem De(s t:ByteArray)(L:List RecM)(w:World)(hsl:s=ei L++t)(hL:∀r∈L,bv r=true)(ht:ug s (szF L))(hs:s.size<=2000000):
  Calls Tryz.prog 39 #[.string s] w (Fb L w):=by
 have hsz:(ei L).size<=s.size:=by rw[hsl,ByteArray.size_append];omega
 rw[ck] at hsz
 have hLl:=oz hL
 go_enter Tryz.func39,Tryz.ntmps39
 have al:=St.start w
 refine wq (sqr (sqp [.k 2 (sn),.k 3 (sn)] ?_))
 refine aa (wq (sqr (sqp [.k 4 (sn)] ?_)))
 refine aa (wq (sqr (sqp [.k 5 (sn)] ?_)))
 refine aa (wq (sqr (sqp [.m 12 0] ?_)))
 refine sy (fun gH=>vp gH) (fun gH=>eB gH 193 #[.string s,vi 0,.bool false]) al (fun cx=>⟨_,(ru s _).mono (by rintro e W1 ⟨B4,rfl,⟨hb4,hw4⟩,hx⟩;exact⟨_,rfl,St.one hx ⟨hb4,d7 _ _ _,fun k hk=>by simp[eB] at hk;subst hk;exact⟨hw4,hb4.lt⟩⟩⟩),(ax (cx.ou 12))⟩) fun gH W6 bI=>?_
 refine sqp [.m 6 13] ?_
 refine aa (wp_block ?_)
 have hn8:=fh bI 27 8
 simp only[List.cons_append,List.nil_append] at hn8
 have hn9:=St.nilrow hn8 3
 simp only[List.cons_append,List.nil_append] at hn9
 have hn10:=St.emNil (hn9.pick [0,1,2] (by decide) rfl)
 have hn11:=hn10.pick [0,1,2,3] (by decide) rfl
 refine aT (fun t_ mz az W=>∃j:Nat,∃q:Nat,∃Ps:List RcT,∃LA:Option Addr,∃lc:Nat,∃EA:Option Addr,∃ec:Nat,j<=L.length/\q=szF (L.take j)/\Ps.map RcT.r=L.take j/\mz=L.length-j/\az=⟨(ovr (jv az) [(2,2,2,[.slice LA j lc,.slice EA j ec]),(1,7,5,[]),(2,14,36,[])] t_).toArray,[]⟩/\St w [] [eB gH 193 #[.string s,vi ((q:Int)),.bool false],eO 27 8 (.slice LA j lc) j (Ps.flatMap rcC),eO 3 1 (.slice EA j ec) j ((cy L j).map (Value.int .i64)),eRc Ps] W) (L.length-0) ?_ ?_
 exact⟨0,0,[],none,0,none,0,Nat.zero_le _,rfl,rfl,rfl,(by kernel_rfl),hn11.pk [0,1,2,3]⟩
 rintro OT a12 ze ⟨j,q,Ps,LA,lc,EA,ec,hj,hq,hPs,rfl,hj_,cV⟩
 refine ovz hj_ fun Mg=>?_
 refine wp_block (wq ?_)
 have hsc:=HP hj hq ht
 rcases hsc with hjl|⟨hje,fQ⟩|⟨hje,fQ,pR⟩|⟨hje,fQ,pR⟩
 obtain⟨rc,hrj⟩:∃z,L[j]? =some z:=⟨_,List.getElem?_eq_getElem hjl⟩
 have hrc:bv rc=true:=hL rc (List.mem_of_getElem? hrj)
 obtain⟨g1,g2,g3,g4⟩:=KZ hrj hrc hsl
 rw[<-hq] at g1 g2 g3 g4
 have hbz:=jo rc
 have hsm:=ir (ay rc)
 refine sqr (sqp [.m 14 6] ?_)
 refine fO (vi (((ay rc).size:Int))) (eB gH 193 #[.string s,vi (((q+4:Nat):Int)),.bool false]) 0 cV (by
   refine svA fun ρ β W X cx=>?_
   refine am.call (aq (args:=#[vp gH,vi 4]) rfl cx.sees rfl (by kernel_rfl) (aP (cx.ou 14) (cx.co _))) ?_
   refine(dL _ s q 4 _ ⟨(cx.bi 0 rfl),by omega,by omega⟩ (by omega) (by omega)).mono ?_
   rintro e W1 ⟨rfl,bR,hu⟩
   refine⟨_,rfl,bZ (cx.init 0 _ rfl) rfl rfl hu bR.1 (fun c g X' hs hb hv hx=>?_)⟩
   exact⟨(hv 15 rfl).1.trans (congrArg (fun n:Nat=>Value.int .i64 (n:Int)) g1),hx⟩) fun wZ cw=>?_
 refine sqp [.m 16 6] ?_
 refine fO (vi ((aY (ay rc):Int))) (eB gH 193 #[.string s,vi (((q+4+4:Nat):Int)),.bool false]) 0 cw (by
   refine svA fun ρ β W X cx=>?_
   refine am.call (aq (args:=#[vp gH,vi 4]) rfl cx.sees rfl (by kernel_rfl) (aP (cx.ou 16) (cx.co _))) ?_
   refine(dL _ s (q+4) 4 _ ⟨(cx.bi 0 rfl),by omega,by omega⟩ (by omega) (by omega)).mono ?_
   rintro e W1 ⟨rfl,bR,hu⟩
   refine⟨_,rfl,bZ (cx.init 0 _ rfl) rfl rfl hu bR.1 (fun c g X' hs hb hv hx=>?_)⟩
   exact⟨(hv 17 rfl).1.trans (congrArg (fun n:Nat=>Value.int .i64 (n:Int)) g2),hx⟩) fun pU dl=>?_
 refine sqp [.m 7 15,.m 8 17] ?_
 refine aa (wq (sqr (sqp [.m 18 6,.m 19 7] ?_)))
 refine fO (.string ((ay rc))) (eB gH 193 #[.string s,vi (((q+4+4+(ay rc).size:Nat):Int)),.bool false]) 0 dl (by
   refine svA fun ρ β W X cx=>?_
   refine am.call (aq (args:=#[vp gH,vi (((ay rc).size:Int))]) rfl cx.sees rfl (by kernel_rfl) (aP (cx.ou 18) (cx.ou 19))) ?_
   refine(vr _ s (q+4+4) (ay rc).size _ ⟨(cx.bi 0 rfl),by omega,by omega⟩ (by omega)).mono ?_
   rintro e W1 ⟨rfl,bR,hu⟩
   refine⟨_,rfl,bZ (cx.init 0 _ rfl) rfl rfl hu bR.1 (fun c g X' hs hb hv hx=>?_)⟩
   exact⟨(hv 20 rfl).1.trans (congrArg Value.string g3),hx⟩) fun sa ef=>?_
 refine sqp [.m 9 20] ?_
 refine aa (wq (wq (sqr (sqp [.m 21 6] ?_))))
 refine sqv (.bool false) ef (by
   refine svA fun ρ β W X cx=>?_
   refine am.call (aq (args:=#[vp gH]) rfl cx.sees rfl (by kernel_rfl) (ax (cx.ou 21))) ?_
   refine(fv _ s (q+4+4+(ay rc).size) false _ ⟨(cx.bi 0 rfl),by omega,by omega⟩).mono ?_
   rintro e W1 ⟨rfl,rfl⟩
   refine⟨_,rfl,bL [] rfl rfl (Ext.refl _) (by simp) List.Pairwise.nil (fun c g X' hs hb hv hN=>?_)⟩
   have aK:=(hv 22 rfl).1;have aW:=(hv 22 rfl).2
   exact aK.trans rfl) fun y6 e9=>?_
 refine sqp [.k 23 (.bool false)] ?_
 refine dE 23 [24,25,26,27,28] rfl rfl ?_
 refine sqp [.m 24 9] ?_
 refine sqk (.int .u32 ((aY (ay rc):Int))) e9 (fun cx=>⟨_,mP (ay rc) _ (by omega),(ax (cx.ou 24))⟩) fun Bp fx=>?_
 have hd31:((aY (ay rc):Int) != (aY (ay rc):Int))=false:=(by simp)
 refine sqp [sW 26 .i64 (aY (ay rc):Int) (aY (ay rc):Int) (IntWalk.i64_in _ (by omega)),.m 27 8,.e 28 (.bool ((aY (ay rc):Int) != (aY (ay rc):Int))) (.bool false) (congrArg Value.bool hd31)] ?_
 refine sqp [.k 29 (.bool false)] ?_
 refine aa (wcf rfl (wp_skip (aa (wq (sqr (sqp [.m 33 9] ?_))))))
 refine iC (fun gO gP=> .tuple #[.agg #[vi rc.kind,vi rc.xid,vi rc.tbl,sn,sn,.slice gO rc.eds.length gP,sn,.string rc.note],vi 0]) (fun gO gP=>eO 84 3 (.slice gO rc.eds.length gP) rc.eds.length (rc.eds.flatMap edC)) fx (fun cx=>⟨_,(KE (ay rc) rc _ (G5 hrc) hrc (by omega)).mono (by rintro e W1 ⟨A4,c4,rfl,ho,hx⟩;exact⟨_,_,rfl,St.one hx (cm ho)⟩),(ax (cx.ou 33))⟩) fun gO gP uB dG=>?_
 refine sqp [.m 32 34,.k 35 (.agg #[vi rc.kind,vi rc.xid,vi rc.tbl,sn,sn,.slice gO rc.eds.length gP,sn,.string rc.note]),.k 36 (vi 0)] ?_
 refine bY #[vi 0,vi 0,vi 0,sn,sn,sn,sn,.string ByteArray.empty] dG fun Qx Fl iG=>?_
 refine aV (n:=8) 5 #[vi rc.kind,vi rc.xid,vi rc.tbl,sn,sn,.slice gO rc.eds.length gP,sn,.string rc.note] iG fun pT dd=>?_
 refine sqp [.m 11 36] ?_
 refine aa (wq (wq (sqr (sqp [.m 37 11,.k 38 (.bool false)] ?_))))
 refine aa (wcf rfl (wp_skip (aa (wq (sqr (sqp [.m 41 4] ?_))))))
 refine bE 5 8 dd ?_
 refine mJ 27 8 1 [vi rc.kind,vi rc.xid,vi rc.tbl,sn,sn,.slice gO rc.eds.length gP,sn,.string rc.note] dd (@fun ρ β W X cx=>by have Pp:ρ (.tmp 42)= .agg #[vi rc.kind,vi rc.xid,vi rc.tbl,sn,sn,.slice gO rc.eds.length gP,sn,.string rc.note]:=(cx.ou 42);simp[go_sem,Pp]) fun Qy Qz CH=>?_
 refine vE (j+1) ((Ps++[RcT.mk rc gO gP]).flatMap rcC) 1 CH Tryz.infoRecJ (fun cx=>(At.of_ownN (cx.ri 6 rfl))) (h1:=by simp[rcC,Value.oneCell']) (jM:=(Bo Ps (RcT.mk rc gO gP))) fun Fq Fr Fh gv=>?_
 refine sqp [.m 4 44] ?_
 refine aa (sqr (sqp [.m 45 5,.m 46 6] ?_))
 refine sqk (vi (((q+4+4+(ay rc).size:Nat):Int))) gv (fun cx=>⟨_,Jk _ s (q+4+4+(ay rc).size) false _ ⟨(cx.bi 0 rfl),by omega,by omega⟩,(ax (cx.ou 46))⟩) fun Me l7=>?_
 refine ej (fun x_=>sA x_) (fun uM=> .slice uM 1 1) (fun uM=>eO 3 1 (.slice uM 1 1) 1 ([vi (((q+4+4+(ay rc).size:Nat):Int))])) l7 (by
   refine svA fun ρ β W X cx=>?_
   have Pq:ρ (.tmp 47)=vi (((q+4+4+(ay rc).size:Nat):Int)):=(cx.ou 47)
   exact du (e:=3) (xs:=[vi (((q+4+4+(ay rc).size:Nat):Int))]) rfl (by simp[go_sem,Pq]) rfl (by decide) rfl rfl (fun _ _ _ _ _=> .intro)) fun uM IP kT=>?_
 refine sQ (fun x_=>sA x_) (fun x_=>sC x_) (fun oD oE=> .slice oD (j+1) oE) (fun oD oE=>eO 3 1 (.slice oD (j+1) oE) (j+1) ((cy L (j+1)).map (Value.int .i64))) 2 kT (by
   refine svA fun ρ β W X cx=>?_
   obtain⟨i0,hi0,hz0,hz1,hz2⟩:=info_parts Tryz.infoIntJ
   refine eH (n:=j) (m:=1) (nm:=j+1) (xs:=(cy L j).map (Value.int .i64)) (news:=[vi (((q+4+4+(ay rc).size:Nat):Int))]) (xs':=(cy L (j+1)).map (Value.int .i64)) rfl (ty:=25) rfl (by kernel_rfl) hi0 hz0 hz1 hz2 rfl (cx.ou 45) cx (cx.init 2 _ rfl) rfl (cx.ou 48) (by first|(simp;done)|(simp;omega)) (At.of_own (cx.ri 7 rfl)) (by simp[rcC,Value.oneCell']) (by simp only[maxLen];omega) (by omega) rfl rfl rfl (by omega) ((by rw[<-wU,xP hrj,jk hrc,<-hq,show q+4+4+(ay rc).size=q+(8+(ay rc).size) by omega])) (fun c g X' hs hb hv hx=>?_)
   exact⟨hv,hx⟩) fun oD oE Bt cN=>?_
 refine sqp [.m 5 49] ?_
 refine aw (aa ?_)
 have hm54:=St.mergeR (Qs:=Ps) (t:=(RcT.mk rc gO gP)) (L:=[eB gH 193 #[.string s,vi (((q+4+4+(ay rc).size:Nat):Int)),.bool false],eO 27 8 (.slice Fq (j+1) Fr) (j+1) ((Ps++[RcT.mk rc gO gP]).flatMap rcC),eO 3 1 (.slice oD (j+1) oE) (j+1) ((cy L (j+1)).map (Value.int .i64))]) (cN.pick [0,1,2,3,4] (by decide) rfl)
 refine⟨L.length-((j+1)),by omega,?_⟩
 exact⟨(j+1),q+4+4+(ay rc).size,(Ps++[(RcT.mk rc gO gP)]),Fq,Fr,oD,oE,by omega,by rw[xP hrj,jk hrc,<-hq];omega,by rw[List.map_append,hPs,List.take_succ_eq_append_getElem (List.getElem?_eq_some_iff.1 hrj).1,(List.getElem?_eq_some_iff.1 hrj).2];rfl,rfl,(by kernel_rfl),hm54.pk [0,1,2,3]⟩
 have hqs:q<=s.size:=by rw[hq,hje,List.take_length];exact hsz
 refine sqr (sqp [.m 14 6] ?_)
 refine kb (vi 0) 0 #[.string s,vi ((q:Int)),.bool true] cV (fun cx=>⟨_,(rE _ s q 4 false _ ⟨(cx.bi 0 rfl),by omega,by omega⟩ (by omega) (.inr (by omega))).mono (by rintro e W1 ⟨rfl,bR,hu⟩;exact⟨rfl,hu,bR.1⟩),(aP (cx.ou 14) (cx.co _))⟩) fun Mf ki=>?_
 refine sqp [.m 16 6] ?_
 refine kb (vi 0) 0 #[.string s,vi ((q:Int)),.bool true] ki (fun cx=>⟨_,(rE _ s q 4 true _ ⟨(cx.bi 0 rfl),by omega,by omega⟩ (by omega) (.inl rfl)).mono (by rintro e W1 ⟨rfl,bR,hu⟩;exact⟨rfl,hu,bR.1⟩),(aP (cx.ou 16) (cx.co _))⟩) fun IT kh=>?_
 refine sqp [.m 7 15,.m 8 17] ?_
 refine aa (wq (sqr (sqp [.m 18 6,.m 19 7] ?_)))
 refine kb (.string ByteArray.empty) 0 #[.string s,vi ((q:Int)),.bool true] kh (fun cx=>⟨_,(kB _ s q true 0 _ ⟨(cx.bi 0 rfl),by omega,by omega⟩ (.inl rfl)).mono (by rintro e W1 ⟨rfl,bR,hu⟩;exact⟨rfl,hu,bR.1⟩),(aP (cx.ou 18) (cx.ou 19))⟩) fun Qi uG=>?_
 refine sqp [.m 9 20] ?_
 refine aa (wq (wq (sqr (sqp [.m 21 6] ?_))))
 refine sqv (.bool true) uG (by
   refine svA fun ρ β W X cx=>?_
   refine am.call (aq (args:=#[vp gH]) rfl cx.sees rfl (by kernel_rfl) (ax (cx.ou 21))) ?_
   refine(fv _ s q true _ ⟨(cx.bi 0 rfl),by omega,by omega⟩).mono ?_
   rintro e W1 ⟨rfl,rfl⟩
   refine⟨_,rfl,bL [] rfl rfl (Ext.refl _) (by simp) List.Pairwise.nil (fun c g X' hs hb hv hN=>?_)⟩
   have aK:=(hv 22 rfl).1;have aW:=(hv 22 rfl).2
   exact aK.trans rfl) fun LZ nF=>?_
 refine yv [.k 23 (.bool true)] 23 [24,25,26,27,28] ?_
 refine sqp [.k 29 (.bool true)] ?_
 refine aa (wct rfl (wq (sqr (sqp [.m 30 4,.m 31 5,.m 2 30,.m 3 31] ?_))))
 refine aa (wp_ret (aj (bb (aj (bb ?_)))))
 refine bpr (.tuple #[.slice LA j lc,.slice EA j ec]) (aQ Tryz.results39 rpt rpt) ?_
 subst hje;rw[List.take_length] at hPs;exact⟨_,_,_,_,Ps,hPs,rfl,nF.pick [1,2,3] (by decide) rfl⟩
 have hqs:q<=s.size:=by rw[hq,hje,List.take_length];exact hsz
 have hn4:=jC s q
 refine sqr (sqp [.m 14 6] ?_)
 refine kb (vi ((aL s q 4:Int))) 0 #[.string s,vi (((q+4:Nat):Int)),.bool false] cV (fun cx=>⟨_,(dL _ s q 4 _ ⟨(cx.bi 0 rfl),by omega,by omega⟩ (by omega) (by omega)).mono (by rintro e W1 ⟨rfl,bR,hu⟩;exact⟨rfl,hu,bR.1⟩),(aP (cx.ou 14) (cx.co _))⟩) fun IW hG=>?_
 refine sqp [.m 16 6] ?_
 refine kb (vi 0) 0 #[.string s,vi (((q+4:Nat):Int)),.bool true] hG (fun cx=>⟨_,(rE _ s (q+4) 4 false _ ⟨(cx.bi 0 rfl),by omega,by omega⟩ (by omega) (.inr (by omega))).mono (by rintro e W1 ⟨rfl,bR,hu⟩;exact⟨rfl,hu,bR.1⟩),(aP (cx.ou 16) (cx.co _))⟩) fun QB CI=>?_
 refine sqp [.m 7 15,.m 8 17] ?_
 refine aa (wq (sqr (sqp [.m 18 6,.m 19 7] ?_)))
 refine kb (.string ByteArray.empty) 0 #[.string s,vi (((q+4:Nat):Int)),.bool true] CI (fun cx=>⟨_,(kB _ s (q+4) true (aL s q 4:Int) _ ⟨(cx.bi 0 rfl),by omega,by omega⟩ (.inl rfl)).mono (by rintro e W1 ⟨rfl,bR,hu⟩;exact⟨rfl,hu,bR.1⟩),(aP (cx.ou 18) (cx.ou 19))⟩) fun QC xl=>?_
 refine sqp [.m 9 20] ?_
 refine aa (wq (wq (sqr (sqp [.m 21 6] ?_))))
 refine sqv (.bool true) xl (by
   refine svA fun ρ β W X cx=>?_
   refine am.call (aq (args:=#[vp gH]) rfl cx.sees rfl (by kernel_rfl) (ax (cx.ou 21))) ?_
   refine(fv _ s (q+4) true _ ⟨(cx.bi 0 rfl),by omega,by omega⟩).mono ?_
   rintro e W1 ⟨rfl,rfl⟩
   refine⟨_,rfl,bL [] rfl rfl (Ext.refl _) (by simp) List.Pairwise.nil (fun c g X' hs hb hv hN=>?_)⟩
   have aK:=(hv 22 rfl).1;have aW:=(hv 22 rfl).2
   exact aK.trans rfl) fun TF NX=>?_
 refine yv [.k 23 (.bool true)] 23 [24,25,26,27,28] ?_
 refine sqp [.k 29 (.bool true)] ?_
 refine aa (wct rfl (wq (sqr (sqp [.m 30 4,.m 31 5,.m 2 30,.m 3 31] ?_))))
 refine aa (wp_ret (aj (bb (aj (bb ?_)))))
 refine bpr (.tuple #[.slice LA j lc,.slice EA j ec]) (aQ Tryz.results39 rpt rpt) ?_
 subst hje;rw[List.take_length] at hPs;exact⟨_,_,_,_,Ps,hPs,rfl,NX.pick [1,2,3] (by decide) rfl⟩
 have hqs:q<=s.size:=by rw[hq,hje,List.take_length];exact hsz
 have hn4:=jC s q
 have hn5:=jC s (q+4)
 refine sqr (sqp [.m 14 6] ?_)
 refine kb (vi ((aL s q 4:Int))) 0 #[.string s,vi (((q+4:Nat):Int)),.bool false] cV (fun cx=>⟨_,(dL _ s q 4 _ ⟨(cx.bi 0 rfl),by omega,by omega⟩ (by omega) (by omega)).mono (by rintro e W1 ⟨rfl,bR,hu⟩;exact⟨rfl,hu,bR.1⟩),(aP (cx.ou 14) (cx.co _))⟩) fun Mh l8=>?_
 refine sqp [.m 16 6] ?_
 refine kb (vi ((aL s (q+4) 4:Int))) 0 #[.string s,vi (((q+4+4:Nat):Int)),.bool false] l8 (fun cx=>⟨_,(dL _ s (q+4) 4 _ ⟨(cx.bi 0 rfl),by omega,by omega⟩ (by omega) (by omega)).mono (by rintro e W1 ⟨rfl,bR,hu⟩;exact⟨rfl,hu,bR.1⟩),(aP (cx.ou 16) (cx.co _))⟩) fun OU uN=>?_
 refine sqp [.m 7 15,.m 8 17] ?_
 refine aa (wq (sqr (sqp [.m 18 6,.m 19 7] ?_)))
 refine kb (.string ByteArray.empty) 0 #[.string s,vi (((q+4+4:Nat):Int)),.bool true] uN (fun cx=>⟨_,(kB _ s (q+4+4) false (aL s q 4:Int) _ ⟨(cx.bi 0 rfl),by omega,by omega⟩ (.inr (.inr (by omega)))).mono (by rintro e W1 ⟨rfl,bR,hu⟩;exact⟨rfl,hu,bR.1⟩),(aP (cx.ou 18) (cx.ou 19))⟩) fun TG NY=>?_
 refine sqp [.m 9 20] ?_
 refine aa (wq (wq (sqr (sqp [.m 21 6] ?_))))
 refine sqv (.bool true) NY (by
   refine svA fun ρ β W X cx=>?_
   refine am.call (aq (args:=#[vp gH]) rfl cx.sees rfl (by kernel_rfl) (ax (cx.ou 21))) ?_
   refine(fv _ s (q+4+4) true _ ⟨(cx.bi 0 rfl),by omega,by omega⟩).mono ?_
   rintro e W1 ⟨rfl,rfl⟩
   refine⟨_,rfl,bL [] rfl rfl (Ext.refl _) (by simp) List.Pairwise.nil (fun c g X' hs hb hv hN=>?_)⟩
   have aK:=(hv 22 rfl).1;have aW:=(hv 22 rfl).2
   exact aK.trans rfl) fun RT Mi=>?_
 refine yv [.k 23 (.bool true)] 23 [24,25,26,27,28] ?_
 refine sqp [.k 29 (.bool true)] ?_
 refine aa (wct rfl (wq (sqr (sqp [.m 30 4,.m 31 5,.m 2 30,.m 3 31] ?_))))
 refine aa (wp_ret (aj (bb (aj (bb ?_)))))
 refine bpr (.tuple #[.slice LA j lc,.slice EA j ec]) (aQ Tryz.results39 rpt rpt) ?_
 subst hje;rw[List.take_length] at hPs;exact⟨_,_,_,_,Ps,hPs,rfl,Mi.pick [1,2,3] (by decide) rfl⟩
end
section
open Go.RowKit
theorem vx(z:Array Value)(hz:0<z.size)(n:Nat):(madeCells z ((n+1)*z.size)).toList=z.toList++(madeCells z (n*z.size)).toList:=by
 apply List.ext_getElem?
 intro j
 have e:∀m j,(madeCells z m).toList[j]? =if j<m then some (z[j % z.size]!) else none:=fun m j=>by
  by_cases h:j<m
  rw[if_pos h];simp[madeCells,h]
  rw[if_neg h];simp[madeCells,h]
 have hm:(n+1)*z.size=z.size+n*z.size:=by rw[Nat.add_mul];omega
 rw[e,hm]
 by_cases h:j<z.size
 rw[if_pos (by omega),List.getElem?_append_left (by simpa using h),Nat.mod_eq_of_lt h]
 simp[h]
 rw[List.getElem?_append_right (by simpa using h),Array.length_toList,e]
 by_cases h2:j<z.size+n*z.size
 rw[if_pos h2,if_pos (by omega),Nat.mod_eq_sub_mod (by omega)]
 rw[if_neg h2,if_neg (by omega)]
theorem vR{T:Type}(f:T->List Value)(t:T)(z:Array Value)(hz:z.toList=f t)(h0:0<z.size)(n:Nat):(madeCells z (n*z.size)).toList=(List.replicate n t).flatMap f:=by
 induction n with
 |zero=>
  rw[Nat.zero_mul]
  have:(madeCells z 0).toList.length=0:=by rw[Array.length_toList,size_madeCells]
  rw[List.eq_nil_of_length_eq_zero this];rfl
 |succ n ih=>rw[vx z h0,ih,List.replicate_succ,List.flatMap_cons,hz]
section
variable{P:Program}{ops:Array Oper}{L:List Nat}{a0:Act}{w0:World}{bor:List Nat}{X0:List Ent}{us cr kl:List (List Nat)}
 {D:Nat->(Tmp->Value)->(Tmp->Value)->(Nat->Ent)->Prop}{i:Nat}{o:Oper}{ρ:Operand->Value}{β:Tmp->Value}{W:World}{X:Nat->Ent}
theorem Hu{t e:TypeId}{k k':IntKind}{sz:Nat}{j j':Int}{d:Tmp}{inf:TypeInfo}{z:Value}{bytes:Nat}{xs:List Value}(h:o.op= .makeSlice t x y)(ht:P.underlying t=some (.slice e))(hi:P.info? e=some inf)(hz:inf.zero=some z)(hsize:inf.size=sz)(hby:inf.bytes=bytes)
  (hx:ρ x= .int k j) (hy:ρ y= .int k' j') (hj:j=(n:Int)) (hj':j'=(n:Int)) (hn:n*sz<=16777216) (hb:bytes*n<=281474976710656) (hml:n<=maxLen) (jM:(madeCells z.cells (n*sz)).toList=xs) (hd:o.dst=some d) (hc:atV cr i=[q])
  (hD:∀(g c:Tmp->Value) (X':Nat->Ent),(∀t,t≠d->g t=ρ (.tmp t))->(∀t,t≠d->c t=β t)->g d= .slice (sA (c d)) n n->X' q=eO e sz (.slice (sA (c d)) n n) n xs->D i g c X'):
  am P o ρ W (bX cr kl D i o.dst ρ β W X):=by
 subst hj;subst hj';subst hby;subst hsize;subst jM
 obtain⟨W',hrun,ho,hg⟩:=run_makeSlice_full (P:=P) W W.heap.size t e inf z inf.size ht hi hz rfl k k' n hn hb hml (Nat.le_refl _)
 have hr:(execOp ρ o).run P W= .ok (.value (.slice (some ⟨W.heap.size,0,none⟩) n n)) W':=by
  unfold execOp;rw[h]
  simp only[hx,hy,Sem.run_bind,hrun,Result.andThen_ok,Sem.run_pure]
 refine am.value hr ⟨[eO e inf.size (.slice (some ⟨W.heap.size,0,none⟩) n n) n (madeCells z.cells (n*inf.size)).toList],by rw[hc];rfl,⟨(Upd.refl _ W).grown hg (fun k hk=>by cases hk),fun e' he=>?_,List.pairwise_singleton _ _⟩,fun g c X' hs' hv hb hbv hx' hN=>hD g c X' (fun t ht=>hs' t (by rw[hd];simpa using ht.symm)) (fun t ht=>hb t (by rw[hd];simpa using ht.symm)) ?_ ?_⟩
 rw[List.mem_singleton] at he
 subst he
 obtain⟨h1,h2,h3⟩:=cm ho
 exact⟨h1,h2,fun k hk=>⟨.inr (h3 k hk).1,(h3 k hk).2⟩⟩
 rw[hv d hd,hbv d hd];rfl
 rw[hbv d hd]
 rw[hc] at hN
 exact(List.cons.inj hN).1
end
theorem CtxV.holdF{L:List Nat}(cx:CtxV ops L a0 w0 bor X0 us D i ρ β W X)(hX:X q=E)(hu:(atV us i).contains q=true):E.holds W:=by
 have h:=(cx.ok q hu).holds
 rw[hX] at h;exact h
theorem CtxV.ltF{L:List Nat}{E:Ent}(cx:CtxV ops L a0 w0 bor X0 us D i ρ β W X)(hX:X q=E)(hu:(atV us i).contains q=true):∀k∈E.fp,k<W.heap.size:=fun k hk=>by
 subst hX;exact((cx.ok q hu).own k hk).2
theorem CtxV.keepF{L:List Nat}{F:Ent}(cx:CtxV ops L a0 w0 bor X0 us D i ρ β W X)(hX:X q=E)(hX':X q'=F)(hu:(atV us i).contains q=true)(hu':(atV us i).contains q'=true)(hne:q≠q'):∀W',Upd F.fp W W'->E.holds W':=fun W' hU=>by
 subst hX hX'
 have h1:=cx.ok q hu
 exact h1.loc W W' (fun k hk=>hU.block k (h1.own k hk).2 (cx.ap q q' hu hu' hne k hk)) h1.holds
theorem St.pack{S:List Ent}(h:St w0 bor (L++S) W)(hfp:E.fp=S.flatMap (·.fp))(hh:E.holds W)(hl:E.loc):St w0 bor (L++[E]) W:=by
 have hin:∀k,k∈E.fp->∃e∈S,k∈e.fp:=fun k hk=>by rw[hfp] at hk;exact List.mem_flatMap.1 hk
 refine⟨h.upd,fun x hx=>?_,?_⟩
 rcases List.mem_append.1 hx with hx|hx
 exact h.ok x (List.mem_append_left _ hx)
 rw[List.mem_singleton] at hx
 subst hx
 exact⟨hh,hl,fun k hk=>let ⟨e,he,hke⟩:=hin k hk;(h.ok e (List.mem_append_right _ he)).own k hke⟩
 have ha:=h.apart
 rw[List.pairwise_append] at ha |-
 refine⟨ha.1,List.pairwise_singleton _ _,fun a ha' b hb k hk hkb=>?_⟩
 rw[List.mem_singleton] at hb
 subst hb
 obtain⟨e,he,hke⟩:=hin k hkb
 exact ha.2.2 a ha' e he k hk hke
theorem St.unpack{S:List Ent}(h:St w0 bor [E] W)(hfp:E.fp=S.flatMap (·.fp))(hS:∀e∈S,e.holds W/\e.loc)(ha:S.Pairwise Ent.apart):St w0 bor S W:=
 ⟨h.upd,fun x hx=>⟨(hS x hx).1,(hS x hx).2,fun k hk=>(h.ok E (List.mem_singleton.2 rfl)).own k (by rw[hfp];exact List.mem_flatMap.2 ⟨x,hx,hk⟩)⟩,ha⟩
theorem CtxV.keepAt{L:List Nat}{e sz c:Nat}{A:Option Addr}{xs:List Value}{F:Ent}(cx:CtxV ops L a0 w0 bor X0 us D i ρ β W X)(hX:X q=eO e sz (.slice A n c) m xs)(hX':X q'=F)(hu:(atV us i).contains q=true)(hu':(atV us i).contains q'=true)(hne:q≠q'):∀W',Upd F.fp W W'->At W' A xs:=fun W' hU=>
 At.of_ownN (cx.keepF hX hX' hu hu' hne W' hU)
end
section
open Go.RowKit
def eA(R:List Ent):Ent:=⟨R.flatMap (·.fp),fun W=>(∀e∈R,e.holds W/\e.loc)/\R.Pairwise Ent.apart⟩
theorem KY(R:List Ent):(eA R).loc:=fun W W' hk h=>
 ⟨fun e he=>⟨(h.1 e he).2 W W' (fun k hk'=>hk k (List.mem_flatMap.2 ⟨e,he,hk'⟩)) (h.1 e he).1,(h.1 e he).2⟩,h.2⟩
theorem St.unpackL{S:List Ent}(h:St w0 bor (L++[E]) W)(hfp:E.fp=S.flatMap (·.fp))(hS:∀e∈S,e.holds W/\e.loc)(ha:S.Pairwise Ent.apart):St w0 bor (L++S) W:=by
 refine⟨h.upd,fun x hx=>?_,?_⟩
 rcases List.mem_append.1 hx with hx|hx
 exact h.ok x (List.mem_append_left _ hx)
 exact⟨(hS x hx).1,(hS x hx).2,fun k hk=>(h.ok E (by simp)).own k (by rw[hfp];exact List.mem_flatMap.2 ⟨x,hx,hk⟩)⟩
 have h1:=List.pairwise_append.1 h.apart
 refine List.pairwise_append.2 ⟨h1.1,ha,fun a ha' b hb k hk hkb=>?_⟩
 exact h1.2.2 a ha' E (by simp) k hk (by rw[hfp];exact List.mem_flatMap.2 ⟨b,hb,hkb⟩)
theorem St.packA{R:List Ent}(h:St w0 bor (L++R) W):St w0 bor (L++[eA R]) W:=
 St.pack h rfl ⟨fun e he=>have h1:=h.ok e (List.mem_append_right _ he);⟨h1.holds,h1.loc⟩,(List.pairwise_append.1 h.apart).2.1⟩ (KY R)
theorem St.unpackA{R:List Ent}(h:St w0 bor (L++[eA R]) W):St w0 bor (L++R) W:=by
 have h1:=(h.ok (eA R) (by simp)).holds
 exact h.unpackL rfl h1.1 h1.2
theorem St.outA{A B:List Ent}{e:Ent}(h:St w0 bor (L++[eA (A++e::B)]) W):St w0 bor (L++[eA (A++B),e]) W:=by
 have h1:St w0 bor (L++[e]++(A++B)) W:=h.unpackA.perm (by
  rw[List.append_assoc]
  refine List.Perm.append_left L ?_
  exact List.perm_middle)
 have h2:=h1.packA
 exact h2.perm (by
  rw[List.append_assoc]
  exact List.Perm.append_left L (List.Perm.swap ..))
theorem St.inA{A B:List Ent}{e:Ent}(h:St w0 bor (L++[eA (A++B),e]) W):St w0 bor (L++[eA (A++e::B)]) W:=by
 have h1:St w0 bor (L++[e]++[eA (A++B)]) W:=h.perm (by
  rw[List.append_assoc]
  exact List.Perm.append_left L (List.Perm.swap ..))
 have h2:St w0 bor (L++(A++e::B)) W:=h1.unpackA.perm (by
  rw[List.append_assoc]
  exact List.Perm.append_left L (List.perm_middle (a:=e) (l₁:=A) (l₂:=B)).symm)
 exact h2.packA
theorem St.addE{R:List Ent}(h:St w0 bor L W)(hR:∀e∈R,e.fp=[]/\e.holds W/\e.loc):St w0 bor (L++R) W:=by
 refine⟨h.upd,fun x hx=>?_,?_⟩
 rcases List.mem_append.1 hx with hx|hx
 exact h.ok x hx
 have h1:=hR x hx
 exact⟨h1.2.1,h1.2.2,fun k hk=>by rw[h1.1] at hk;cases hk⟩
 refine List.pairwise_append.2 ⟨h.apart,?_,fun a _ b hb k _ hkb=>by rw[(hR b hb).1] at hkb;cases hkb⟩
 exact List.pairwise_of_forall_mem_list fun a ha b hb k hk=>by rw[(hR a ha).1] at hk;cases hk
end
section
open Go.RowKit
abbrev H5:={s:ByteArray // s.size=512}
structure ShD where
 safe:H5
 ws:List H5
structure DkM where
 pgs:List ShD
 log:ByteArray
 fl:Nat
 off:Bool
 armed:Bool
 left:Int
structure ShT where
 s:H5
 A:Option Addr
 c:Nat
 ws:List H5
def eh(t:ShT):ShD:=⟨t.s,t.ws⟩
def bo(s:ByteArray):List Int:=(bl s).map fun c=>(c.toNat:Int)
theorem gV(s:ByteArray):(bo s).length=s.size:=by rw[bo,List.length_map,bO]
theorem xU(a b:ByteArray):bo (a++b)=bo a++bo b:=by rw[bo,cZ,List.map_append];rfl
theorem BZ(s:ByteArray):Lib.strCells s=(bo s).map (Value.int .u8):=by rw[bo,List.map_map];rfl
theorem si(s:ByteArray):strOfNums (bo s)=s:=by
 apply gM
 show (strOfNums (bo s)).data.toList=bl s
 rw[strOfNums_data,bo,List.map_map]
 have:(fun x:Int=>UInt8.ofNat x.toNat) ∘ (fun c:UInt8=>(c.toNat:Int))=id:=by funext c;simp
 first
  |rw[this,List.map_id]
  |(conv=>rhs;rw[<-List.map_id (bl s)]
    apply List.map_congr_left
    intro c _
    simp)
def hvC(h:H5):List Value:=(bo h.1).map (Value.int .u8)
theorem c7(h:H5):(hvC h).length=512:=by rw[hvC,List.length_map,gV,h.2]
def shC(t:ShT):List Value:=hvC t.s++[.slice t.A t.ws.length t.c]
theorem dy(t:ShT):(shC t).length=513:=by rw[shC,List.length_append,c7];rfl
def nX(t:ShT):Ent:=eO 142 512 (.slice t.A t.ws.length t.c) t.ws.length (t.ws.flatMap hvC)
def eWs(Qs:List ShT):Ent:=eA (Qs.map nX)
theorem Eb{Qs:List ShT}(h:(eWs Qs).holds W){t:ShT}(ht:t∈Qs):At W t.A (t.ws.flatMap hvC):=At.of_ownN (h.1 (nX t) (List.mem_map.2 ⟨_,ht,rfl⟩)).1
def dkC(D:DkM)(PA:Option Addr)(Pc:Nat)(GA:Option Addr)(gc:Nat):Array Value:=#[.slice PA D.pgs.length Pc,.slice GA D.log.size gc,.int .i64 (D.fl:Int),.bool D.off,.bool D.armed,.int .i64 D.left]
def dkL(b:Nat)(D:DkM)(PA:Option Addr)(Pc:Nat)(GA:Option Addr)(gc:Nat)(Ps Qs:List ShT):List Ent:=
 [eB b 100 (dkC D PA Pc GA gc),eO 144 513 (.slice PA D.pgs.length Pc) D.pgs.length (Ps.flatMap shC),eO 5 1 (.slice GA D.log.size gc) D.log.size ((bo D.log).map (Value.int .u8)),eWs Qs]
def eDk(b:Nat)(D:DkM)(fp:List Nat):Ent:=⟨fp,fun W=>∃PA Pc GA gc Ps Qs,Ps.map eh=D.pgs/\Qs=Ps/\fp=(dkL b D PA Pc GA gc Ps Qs).flatMap (·.fp)/\(dkL b D PA Pc GA gc Ps Qs).Pairwise Ent.apart/\∀e∈dkL b D PA Pc GA gc Ps Qs,e.holds W/\e.loc⟩
theorem dV(b:Nat)(D:DkM)(fp:List Nat):(eDk b D fp).loc:=fun W W' hk h=>by
 obtain⟨PA,Pc,GA,gc,Ps,Qs,h1,h2,h3,h4,h5⟩:=h
 exact⟨PA,Pc,GA,gc,Ps,Qs,h1,h2,h3,h4,fun e he=>⟨(h5 e he).2 W W' (fun k hk'=>hk k (by rw[eDk,h3];exact List.mem_flatMap.2 ⟨e,he,hk'⟩)) (h5 e he).1,(h5 e he).2⟩⟩
theorem cJ{e:Ent}{D:DkM}(h:e=eDk b D fp):e=eDk b D e.fp:=by subst h;rfl
theorem St.dk{D:DkM}{Ps Qs:List ShT}(h:St w0 bor (L++dkL b D PA Pc GA gc Ps Qs) W)(h1:Ps.map eh=D.pgs)(h2:Qs=Ps):∃fp,St w0 bor (L++[eDk b D fp]) W:=by
 refine⟨_,St.pack (E:=eDk b D ((dkL b D PA Pc GA gc Ps Qs).flatMap (·.fp))) h rfl ⟨PA,Pc,GA,gc,Ps,Qs,h1,h2,rfl,(List.pairwise_append.1 h.apart).2.1,fun e he=>?_⟩ (dV _ _ _)⟩
 have h3:=h.ok e (List.mem_append_right _ he)
 exact⟨h3.holds,h3.loc⟩
def lV(W:World)(A:Option Addr)(s:ByteArray):Prop:=(A=none/\s=⟨#[]⟩)\/∃g,A=some ⟨g,0,none⟩/\g<W.heap.size/\At W A ((bo s).map (Value.int .u8))
structure DkO (W:World) (b:Nat) (D:DkM) (PA:Option Addr) (Pc:Nat) (GA:Option Addr) (gc:Nat) (Ps:List ShT):Prop where
 blk:Blk W b 100 (dkC D PA Pc GA gc)
 at_:At W PA (Ps.flatMap shC)
 ab:Ps.map eh=D.pgs
 log:lV W GA D.log
 ws:∀p∈Ps,At W p.A (p.ws.flatMap hvC)
def jz(W:World)(b:Nat)(D:DkM):Prop:=∃PA Pc GA gc Ps,DkO W b D PA Pc GA gc Ps
theorem lV.ext{A:Option Addr}{s:ByteArray}(h:lV W A s)(hx:Ext W W'):lV W' A s:=h.imp id fun⟨g,h1,h2,h3⟩=>⟨g,h1,Nat.lt_of_lt_of_le h2 hx.size,h3.ext hx⟩
theorem DkO.ext{D:DkM}{Ps:List ShT}(h:DkO W b D PA Pc GA gc Ps)(hx:Ext W W'):DkO W' b D PA Pc GA gc Ps:=⟨h.blk.ext hx,h.at_.ext hx,h.ab,h.log.ext hx,fun p hp=>(h.ws p hp).ext hx⟩
theorem lV.own{A:Option Addr}{c:Nat}{s:ByteArray}{base:Nat}{e:TypeId}(h:W.ownsRow base e 1 (.slice A s.size c) s.size ((bo s).map (Value.int .u8))):lV W A s:=by
 have hlt:=h.lt
 rcases h.2 with ⟨hv,h0⟩|⟨g,cap,cur,hv,_⟩
 injection hv with h1 h2 h3
 refine .inl ⟨h1,gM ?_⟩
 have:(bl s).length=0:=by rw[bO];omega
 rw[List.eq_nil_of_length_eq_zero this];rfl
 injection hv with h1 h2 h3
 exact .inr ⟨g,h1,(hlt g (by rw[h1];rfl)).2,At.of_own h⟩
theorem fb{D:DkM}(h:(eDk b D fp).holds W):jz W b D:=by
 obtain⟨PA,Pc,GA,gc,Ps,Qs,h1,h2,h3,h4,h5⟩:=h
 refine⟨PA,Pc,GA,gc,Ps,(h5 (eB b 100 (dkC D PA Pc GA gc)) (List.mem_cons_self ..)).1,?_,h1,?_,fun p hp=>Eb (h5 (eWs Qs) (by simp[dkL])).1 (by rw[h2];exact hp)⟩
 exact At.of_ownN (h5 (eO 144 513 (.slice PA D.pgs.length Pc) D.pgs.length (Ps.flatMap shC)) (by simp[dkL])).1
 exact lV.own (h5 (eO 5 1 (.slice GA D.log.size gc) D.log.size ((bo D.log).map (Value.int .u8))) (by simp[dkL])).1
section
variable{P:Program}{o:Oper}{ρ:Operand->Value}{W:World}
theorem Ai{t t' e:TypeId}{A:Option Addr}{c:Nat}{s:ByteArray}(h:o.op= .convert t t' x)(ht:P.underlying t=some (.slice e))(he:P.underlying e=some (.int .u8))(ht':P.underlying t'=some .string)
  (hx:ρ x= .slice A s.size c) (hA:lV W A s):(execOp ρ o).run P W= .ok (.value (.string s)) W:=by
 have hr:(convert t t' (.slice A s.size c)).run P W= .ok (.string s) W:=by
  rcases hA with ⟨rfl,rfl⟩|⟨g,rfl,hg,hA⟩
  exact run_convert_bytes_nil W t e ht he _ c t' ht'
  have h1:=run_convert_bytes_arg W t e ht he g 0 s.size c (bo s) (gV s) (fun i hi=>?_) t' ht'
  rw[si] at h1;exact h1
  obtain⟨ad,a1,a2,a3⟩:=hA i (.int .u8 ((bo s).getD i 0)) (by
   rw[List.getElem?_map,List.getD_eq_getElem?_getD,List.getElem?_eq_getElem (by rw[gV];exact hi)];rfl)
  injection a1 with a1
  subst a1
  have e2:(⟨g,0+i,none⟩:Addr)=(⟨g,0,none⟩:Addr).add i:=by simp[Addr.add]
  rw[e2];exact a3
 unfold execOp;rw[h]
 simp only[hx,Sem.run_bind,hr,Result.andThen_ok,Sem.run_pure]
end
end
section
open Go.RowKit
theorem DkO.blkL{D:DkM}{Ps:List ShT}(h:DkO W b D PA Pc GA gc Ps):Blk W b 100 #[.slice PA D.pgs.length Pc,.slice GA D.log.size gc,.int .i64 (D.fl:Int),.bool D.off,.bool D.armed,.int .i64 D.left]:=h.blk
theorem IM(b:Nat)(D:DkM)(PA:Option Addr)(Pc:Nat)(GA:Option Addr)(gc:Nat)(Ps:List ShT)(w:World)(hB:DkO w b D PA Pc GA gc Ps):
  Calls Tryz.prog 59 #[po b 0] w (Ret (.bool (!D.off)) w):=by
 go_enter Tryz.func59,Tryz.ntmps59
 have al:=St.start w
 refine wq (sqr (sqp [.k 2 (.bool false)] ?_))
 refine aa (wq (sqr (sqp [.m 3 0] ?_)))
 refine sqv (.bool true) al (by
   exact sv0 rfl rfl rfl rfl rfl (fun _ _ _ h=>h) fun ρ β W X cx=>by
    have gw:ρ (.tmp 3)=vp b:=(cx.ou 3)
    simp[go_sem,cx.sees.const,gw]) fun W3 bc=>?_
 refine sqp [.k 5 (.bool true)] ?_
 refine dE 5 [6,7,8,9,10] rfl rfl ?_
 refine sqp [.m 6 0,.k 7 (vp b),.k 8 (po b 3)] ?_
 refine sql (.bool D.off) bc (fun cx=>ae rfl (by kernel_rfl) (cx.ou 8) ((Blk.ext hB.blkL cx.upd.to_ext).cell 3)) ?_
 refine sqp [.k 10 (.bool (!(D.off)))] ?_
 refine sqp [.k 11 (.bool (!(D.off))),.m 2 11] ?_
 refine aa (wp_ret ?_)
 refine bpr (.bool (!(D.off))) (ai Tryz.results59 rpt) ?_
 exact Ret.bool (by simp) bc.ext
theorem II(b:Nat)(D:DkM)(PA:Option Addr)(Pc:Nat)(GA:Option Addr)(gc:Nat)(Ps:List ShT)(n:Int)(w:World)(hB:DkO w b D PA Pc GA gc Ps):
  Calls Tryz.prog 87 #[po b 0,.int .i64 n] w (Ret (.bool (decide (0<=n)&&decide (n<(D.pgs.length:Int)))) w):=by
 go_enter Tryz.func87,Tryz.ntmps87
 have al:=St.start w
 refine wq (sqr (sqp [.k 4 (.bool false)] ?_))
 refine aa (wq (sqr (sqp [.m 5 0] ?_)))
 refine sqv (.bool true) al (by
   exact sv0 rfl rfl rfl rfl rfl (fun _ _ _ h=>h) fun ρ β W X cx=>by
    have qO:ρ (.tmp 5)=vp b:=(cx.ou 5)
    simp[go_sem,cx.sees.const,qO]) fun W3 bc=>?_
 refine sqp [.k 7 (.bool true)] ?_
 refine dE 7 [8,9] rfl rfl ?_
 refine sqp [.m 8 1,.k 9 (.bool (decide (0<=n)))] ?_
 refine sqp [.k 10 (.bool (decide (0<=n))),.m 11 10] ?_
 refine d6 11 [12,13,14,15,16,17,18] ?_ rfl (fun hq=>?_) ?_
 rotate_left
 refine sqp [.m 12 1,.m 13 0,.k 14 (vp b),.k 15 (vp b)] ?_
 refine sql (.slice PA D.pgs.length Pc) bc (fun cx=>ae rfl (by kernel_rfl) (cx.ou 15) ((Blk.ext hB.blkL cx.upd.to_ext).cell 0)) ?_
 refine sqp [.k 17 (vi ((D.pgs.length:Int))),.k 18 (.bool (decide (n<(D.pgs.length:Int))))] ?_
 exact sqe
 refine c8 ?_
 refine sqp [sPa 19 (decide (0<=n)) (decide (n<(D.pgs.length:Int))),.m 4 19] ?_
 refine aa (wp_ret ?_)
 refine bpr (.bool ((decide (0<=n))&&(decide (n<(D.pgs.length:Int))))) (ai Tryz.results87 rpt) ?_
 exact Ret.bool (by simp) bc.ext
theorem GB(b:Nat)(D:DkM)(PA:Option Addr)(Pc:Nat)(GA:Option Addr)(gc:Nat)(Ps:List ShT)(w:World)(hB:DkO w b D PA Pc GA gc Ps):
  Calls Tryz.prog 66 #[po b 0] w (Ret (.int .i64 (D.pgs.length:Int)) w):=by
 go_enter Tryz.func66,Tryz.ntmps66
 have al:=St.start w
 refine wq (sqr (sqp [.k 2 (vi 0)] ?_))
 refine aa (wq (wq (sqr (sqp [.m 3 0] ?_))))
 refine sqv (.bool false) al (by
   exact sv0 rfl rfl rfl rfl rfl (fun _ _ _ h=>h) fun ρ β W X cx=>by
    have gw:ρ (.tmp 3)=vp b:=(cx.ou 3)
    simp[go_sem,cx.sees.const,gw]) fun W3 bc=>?_
 refine aa (wcf rfl (wp_skip (aa (wq (sqr (sqp [.m 5 0,.k 6 (vp b),.k 7 (vp b)] ?_))))))
 refine sql (.slice PA D.pgs.length Pc) bc (fun cx=>ae rfl (by kernel_rfl) (cx.ou 7) ((Blk.ext hB.blkL cx.upd.to_ext).cell 0)) ?_
 refine sqp [.k 9 (vi ((D.pgs.length:Int))),.m 2 9] ?_
 refine aa (wp_ret ?_)
 refine bpr (vi ((D.pgs.length:Int))) (ai Tryz.results66 rpt) ?_
 exact Ret.of rfl bc.ext
theorem BG(b:Nat)(D:DkM)(PA:Option Addr)(Pc:Nat)(GA:Option Addr)(gc:Nat)(Ps:List ShT)(w:World)(hB:DkO w b D PA Pc GA gc Ps):
  Calls Tryz.prog 68 #[po b 0] w (Ret (.int .i64 (D.fl:Int)) w):=by
 go_enter Tryz.func68,Tryz.ntmps68
 have al:=St.start w
 refine wq (sqr (sqp [.k 2 (vi 0)] ?_))
 refine aa (wq (wq (sqr (sqp [.m 3 0] ?_))))
 refine sqv (.bool false) al (by
   exact sv0 rfl rfl rfl rfl rfl (fun _ _ _ h=>h) fun ρ β W X cx=>by
    have gw:ρ (.tmp 3)=vp b:=(cx.ou 3)
    simp[go_sem,cx.sees.const,gw]) fun W3 bc=>?_
 refine aa (wcf rfl (wp_skip (aa (wq (sqr (sqp [.m 5 0,.k 6 (vp b),.k 7 (po b 2)] ?_))))))
 refine sql (vi ((D.fl:Int))) bc (fun cx=>ae rfl (by kernel_rfl) (cx.ou 7) ((Blk.ext hB.blkL cx.upd.to_ext).cell 2)) ?_
 refine sqp [.m 2 8] ?_
 refine aa (wp_ret ?_)
 refine bpr (vi ((D.fl:Int))) (ai Tryz.results68 rpt) ?_
 exact Ret.of rfl bc.ext
theorem K3(b:Nat)(D:DkM)(PA:Option Addr)(Pc:Nat)(GA:Option Addr)(gc:Nat)(Ps:List ShT)(w:World)(hB:DkO w b D PA Pc GA gc Ps):
  Calls Tryz.prog 15 #[po b 0] w (Ret (.string D.log) w):=by
 go_enter Tryz.func15,Tryz.ntmps15
 have al:=St.start w
 refine wq (sqr (sqp [.k 2 (.string ⟨#[]⟩)] ?_))
 refine aa (wq (wq (sqr (sqp [.m 3 0] ?_))))
 refine sqv (.bool false) al (by
   exact sv0 rfl rfl rfl rfl rfl (fun _ _ _ h=>h) fun ρ β W X cx=>by
    have gw:ρ (.tmp 3)=vp b:=(cx.ou 3)
    simp[go_sem,cx.sees.const,gw]) fun W3 bc=>?_
 refine aa (wcf rfl (wp_skip (aa (wq (sqr (sqp [.m 5 0,.k 6 (vp b),.k 7 (po b 1)] ?_))))))
 refine sql (.slice GA D.log.size gc) bc (fun cx=>ae rfl (by kernel_rfl) (cx.ou 7) ((Blk.ext hB.blkL cx.upd.to_ext).cell 1)) ?_
 refine sql (.string D.log) bc (fun cx=>Ai (e:=5) rfl (by kernel_rfl) (by kernel_rfl) (by kernel_rfl) (cx.ou 8) (hB.log.ext cx.upd.to_ext)) ?_
 refine sqp [.m 2 9] ?_
 refine aa (wp_ret ?_)
 refine bpr (.string D.log) (ai Tryz.results15 rpt) ?_
 exact Ret.of rfl bc.ext
theorem mj(b:Nat)(D:DkM)(w:World)(h:jz w b D):Calls Tryz.prog 59 #[po b 0] w (Ret (.bool (!D.off)) w):=by
 obtain⟨PA,Pc,GA,gc,Ps,h1⟩:=h
 exact IM b D PA Pc GA gc Ps w h1
theorem Ky(b:Nat)(D:DkM)(n:Int)(w:World)(h:jz w b D):Calls Tryz.prog 87 #[po b 0,.int .i64 n] w (Ret (.bool (decide (0<=n)&&decide (n<(D.pgs.length:Int)))) w):=by
 obtain⟨PA,Pc,GA,gc,Ps,h1⟩:=h
 exact II b D PA Pc GA gc Ps n w h1
theorem BI(b:Nat)(D:DkM)(w:World)(h:jz w b D):Calls Tryz.prog 66 #[po b 0] w (Ret (.int .i64 (D.pgs.length:Int)) w):=by
 obtain⟨PA,Pc,GA,gc,Ps,h1⟩:=h
 exact GB b D PA Pc GA gc Ps w h1
theorem xR(b:Nat)(D:DkM)(w:World)(h:jz w b D):Calls Tryz.prog 68 #[po b 0] w (Ret (.int .i64 (D.fl:Int)) w):=by
 obtain⟨PA,Pc,GA,gc,Ps,h1⟩:=h
 exact BG b D PA Pc GA gc Ps w h1
theorem kz(b:Nat)(D:DkM)(w:World)(h:jz w b D):Calls Tryz.prog 15 #[po b 0] w (Ret (.string D.log) w):=by
 obtain⟨PA,Pc,GA,gc,Ps,h1⟩:=h
 exact K3 b D PA Pc GA gc Ps w h1
end
section
open Go.RowKit
def cX(n:Int):Int:=IntKind.i64.wrap (n-1)
def opD(D:DkM)(er:Int)(D2:DkM->DkM):DkM×Int:=if D.off=true then (D,24) else if er≠0 then (D,er) else if D.armed=true/\D.left<=0 then ({D with off:=true},24) else (D2 {D with left:=cX D.left},0)
def apE(D:DkM)(s:ByteArray):Int:=if 1048576<(D.log.size:Int)+(s.size:Int) then 31 else 0
def apD(s:ByteArray)(D:DkM):DkM:={D with log:=D.log++s}
def flD(D:DkM):DkM:={D with fl:=D.log.size}
def bV(b:Nat)(R:DkM×Int)(fp:List Nat)(w:World)(e:Ending)(w':World):Prop:=e= .returned (.int .i64 R.2)/\∃fp',St w fp [eDk b R.1 fp'] w'
def mi(b:Nat)(D:DkM)(fp:List Nat)(w:World)(e:Ending)(w':World):Prop:=e= .returned (.tuple #[])/\∃fp',St w fp [eDk b D fp'] w'
theorem rD{v v':Bool}(h:v=v')(hc:Calls Tryz.prog f args w (Ret (.bool v) w)):Calls Tryz.prog f args w (Ret (.bool v') w):=h ▸ hc
theorem bV.of{R R':DkM×Int}{fp':List Nat}(h:R=R')(hs:St w fp [eDk b R'.1 fp'] w'):bV b R fp w (.returned (.int .i64 R'.2)) w':=by
 subst h;exact⟨rfl,_,hs⟩
section
variable{ops:Array Oper}{L:List Nat}{a0:Act}{w0:World}{bor:List Nat}{X0:List Ent}{us:List (List Nat)}
 {D:Nat->(Tmp->Value)->(Tmp->Value)->(Nat->Ent)->Prop}{i:Nat}{ρ:Operand->Value}{β:Tmp->Value}{W:World}{X:Nat->Ent}
theorem CtxV.notin(cx:CtxV ops L a0 w0 bor X0 us D i ρ β W X)(hX:X q=E)(hu:(atV us i).contains q=true)(hn:k∉bor)(hlt:k<w0.heap.size):k∉E.fp:=fun hk=>by
 have h:=((cx.ok q hu).own k (by rw[hX];exact hk)).1
 rcases h with h|h
 exact hn h
 omega
end
theorem Tryz.infoU8J:(Tryz.prog.info? 5).map (fun i=>(i.zero,i.size,i.bytes))=some (some (.int .u8 0),1,1):=by kernel_rfl
theorem JK(a s:ByteArray):(bo a).map (Value.int .u8)++Lib.strCells s=(bo (a++s)).map (Value.int .u8):=by rw[BZ,xU,List.map_append]
theorem St.with2{L:List Ent}{b2 t2 b3 t3:Nat}{c2 c3:Array Value}(h:St w bor L w)(h2:Blk w b2 t2 c2)(h3:Blk w b3 t3 c3)(n2:b2∉bor)(n3:b3∉bor)(uO:b2≠b3)(hL:∀e∈L,∀k∈e.fp,k∈bor):St w (b2::b3::bor) (L++[eB b2 t2 c2,eB b3 t3 c3]) w:=by
 refine⟨Upd.refl _ _,fun x hx=>?_,?_⟩
 rcases List.mem_append.1 hx with hx|hx
 have h4:=h.ok x hx
 exact⟨h4.holds,h4.loc,fun k hk=>⟨(h4.own k hk).1.imp (fun z=>by simp[z]) id,(h4.own k hk).2⟩⟩
 simp only[List.mem_cons,List.not_mem_nil,or_false] at hx
 rcases hx with rfl|rfl
 exact⟨h2,d7 _ _ _,fun k hk=>⟨.inl (by simp[eB] at hk;simp[hk]),by simp[eB] at hk;subst hk;exact h2.lt⟩⟩
 exact⟨h3,d7 _ _ _,fun k hk=>⟨.inl (by simp[eB] at hk;simp[hk]),by simp[eB] at hk;subst hk;exact h3.lt⟩⟩
 refine List.pairwise_append.2 ⟨h.apart,List.pairwise_pair.2 fun k hk hk2=>by simp[eB] at hk hk2;omega,fun x hx y hy k hk hk2=>?_⟩
 have h5:=hL x hx k hk
 simp only[List.mem_cons,List.not_mem_nil,or_false] at hy
 rcases hy with rfl|rfl
 simp[eB] at hk2;subst hk2;exact n2 h5
 simp[eB] at hk2;subst hk2;exact n3 h5
theorem St.less2{b2 t2 b3 t3:Nat}{c2 c3:Array Value}(h:St w (b2::b3::bor) (L++[eB b2 t2 c2,eB b3 t3 c3]) W)(h2:Blk w b2 t2 c2)(h3:Blk w b3 t3 c3):St w bor L W:=by
 have k2:Blk W b2 t2 c2:=(h.ok (eB b2 t2 c2) (by simp)).holds
 have k3:Blk W b3 t3 c3:=(h.ok (eB b3 t3 c3) (by simp)).holds
 have ha:=List.pairwise_append.1 h.apart
 refine⟨⟨h.upd.os,h.upd.tape,h.upd.output,h.upd.size,fun k hk hn=>?_⟩,fun x hx=>?_,ha.1⟩
 by_cases e2:k=b2
 subst e2;exact k2.trans h2.symm
 by_cases e3:k=b3
 subst e3;exact k3.trans h3.symm
 exact h.upd.block k hk (by simp;exact⟨e2,e3,hn⟩)
 have h4:=h.ok x (List.mem_append_left _ hx)
 refine⟨h4.holds,h4.loc,fun k hk=>⟨?_,(h4.own k hk).2⟩⟩
 have n2:k≠b2:=fun e=>ha.2.2 x hx (eB b2 t2 c2) (by simp) k hk (by simp[eB,e])
 have n3:k≠b3:=fun e=>ha.2.2 x hx (eB b3 t3 c3) (by simp) k hk (by simp[eB,e])
 rcases(h4.own k hk).1 with h5|h5
 simp only[List.mem_cons] at h5
 rcases h5 with h5|h5|h5
 exact absurd h5 n2
 exact absurd h5 n3
 exact .inl h5
 exact .inr h5
theorem K0(b b2 b3:Nat)(D:DkM)(s:ByteArray)(PA:Option Addr)(Pc:Nat)(GA:Option Addr)(gc:Nat)(Ps:List ShT)(w:World)(hB:DkO w b D PA Pc GA gc Ps)(h2:Blk w b2 30 #[po b 0])(h3:Blk w b3 9 #[.string s])(hz:D.log.size<=10000000)(hz2:s.size<=10000000):
  Calls Tryz.prog 129 #[po b2 0,po b3 0] w (Ret (.int .i64 (apE D s)) w):=by
 go_enter Tryz.func129,Tryz.ntmps129
 have al:=St.start w
 refine wq (sqr (sqp [.k 2 (vi 0)] ?_))
 refine aa (wq (wq (bG [0,1,3,7,15,0,32,127,255] [] [.c 3 (vp b),.k 4 (vp b),.k 5 (po b 1),.c 6 (.slice GA D.log.size gc),.k 7 (vi ((D.log.size:Int))),.c 8 (.string s),.k 9 (vi ((s.size:Int))),tI 10 ((D.log.size:Int)+(s.size:Int)) (by omega),.k 11 (.bool (decide (1048576<(D.log.size:Int)+(s.size:Int))))] [] [0,3,5] [(3,0,9,12)] al ?_ fun W2 bQ=>?_)))
 refine⟨?_,?_,?_,trivial⟩
 exact xs4 rfl id fun cx=>ae rfl (by kernel_rfl) (cx.ou 0) ((Blk.ext h2 cx.upd.to_ext).cell 0)
 exact xs4 rfl id fun cx=>ae rfl (by kernel_rfl) (cx.an 2) ((Blk.ext hB.blkL cx.upd.to_ext).cell 1)
 exact xs4 rfl id fun cx=>ae rfl (by kernel_rfl) (cx.ou 1) ((Blk.ext h3 cx.upd.to_ext).cell 0)
 refine aa (wds (fun uQ vU=>?_) fun uQ vU=>?_)
 refine wq (sqr (sqp [.k 2 (vi 31)] ?_))
 refine aa (wp_ret (aj ?_))
 refine bpr (vi 31) (ai Tryz.results129 rpt) ?_
 exact Ret.int (by rw[apE,if_pos (of_decide_eq_true uQ)]) bQ.ext
 refine wp_skip (aa (wq (sqr (sqp [.k 2 (vi 0)] ?_))))
 refine aa (wp_ret ?_)
 refine bpr (vi 0) (ai Tryz.results129 rpt) ?_
 exact Ret.int (by rw[apE,if_neg (of_decide_eq_false uQ)]) bQ.ext
theorem Hy(b b2 b3:Nat)(D:DkM)(s:ByteArray)(fp:List Nat)(w:World)(hB:(eDk b D fp).holds w)(hlt:∀k∈fp,k<w.heap.size)(h2:Blk w b2 30 #[po b 0])(h3:Blk w b3 9 #[.string s])(n2:b2∉fp)(n3:b3∉fp)(uO:b2≠b3)(hz:D.log.size<=10000000)(hz2:s.size<=10000000):
  Calls Tryz.prog 130 #[po b2 0,po b3 0] w (mi b (apD s D) fp w):=by
 have st1:=St.lend hB (dV _ _ _) hlt
 obtain⟨PA,Pc,GA,gc,Ps,Qs,hps,hsub,hfp,hap,hall⟩:=hB
 have st0:=St.unpack st1 hfp hall hap
 have st2:St w (b2::b3::fp) [eB b 100 #[.slice PA D.pgs.length Pc,.slice GA D.log.size gc,.int .i64 ((D.fl:Int)),.bool D.off,.bool D.armed,.int .i64 D.left],eO 144 513 (.slice PA D.pgs.length Pc) D.pgs.length (Ps.flatMap shC),eO 5 1 (.slice GA D.log.size gc) D.log.size ((bo D.log).map (Value.int .u8)),eWs Qs,eB b2 30 #[po b 0],eB b3 9 #[.string s]] w:=St.with2 st0 h2 h3 n2 n3 uO (fun e he k hk=>by rw[show fp=(eDk b D fp).fp from rfl,show (eDk b D fp).fp= _ from hfp];exact List.mem_flatMap.2 ⟨e,he,hk⟩)
 go_enter Tryz.func130,Tryz.ntmps130
 have al:=st2
 refine aH [0,0,2,6,14,0,62,127,255,511] [[4],[4],[],[],[0],[5],[2],[],[],[0]] [[],[],[],[],[],[],[6],[],[],[7]] [[],[],[],[],[],[],[2],[],[],[0]] [.c 2 (vp b),.c 3 (vp b),.k 4 (vp b),.k 5 (po b 1),.c 6 (.slice GA D.log.size gc),.c 7 (.string s),.a 8,.k 9 (vp b),.k 10 (po b 1),.n] (fun ix g β X=>match ix with|0|1|2|3|4|5=>True|6=>g 8= .slice (sA (β 8)) (D.log.size+s.size) (sC (β 8))/\X 6=eO 5 1 (.slice (sA (β 8)) (D.log.size+s.size) (sC (β 8))) (D.log.size+s.size) ((bo (D.log++s)).map (Value.int .u8))|7|8=>True|9=>X 7=eB b 100 #[.slice PA D.pgs.length Pc,.slice (sA (β 8)) (D.log.size+s.size) (sC (β 8)),vi ((D.fl:Int)),.bool D.off,.bool D.armed,vi D.left]|_=>True) [1,3,4,5,6,7] [0,1,4,5,6,9] [(2,0,9,11)] al ?_ ?_ ?_
 exact fun ix _ _ _ _ _ _ hs hb hx h=>match ix,h with
 |6,h=>by dsimp only;rw[<-hs 8 rfl,<-hb 8 rfl,<-hx 6 rfl];exact h
 |9,h=>by dsimp only;rw[<-hb 8 rfl,<-hx 7 rfl];exact h
 |0,_|1,_|2,_|3,_|4,_|5,_|7,_|8,_|_+10,_=>trivial
 refine⟨?_,?_,?_,?_,?_,?_,trivial⟩
 exact xs4 rfl id fun cx=>ae rfl (by kernel_rfl) (cx.ou 0) ((cx.bi 4 rfl).cell 0)
 exact xs4 rfl id fun cx=>ae rfl (by kernel_rfl) (cx.ou 0) ((cx.bi 4 rfl).cell 0)
 exact xs4 rfl id fun cx=>ae rfl (by kernel_rfl) (cx.an 3) ((cx.bi 0 rfl).cell 1)
 exact xs4 rfl id fun cx=>ae rfl (by kernel_rfl) (cx.ou 1) ((cx.bi 5 rfl).cell 0)
 refine svA fun ρ β W X cx=>?_
 obtain⟨i0,hi0,hz0,hz1,hz2⟩:=info_parts Tryz.infoU8J
 refine xJ (n:=D.log.size) (nm:=D.log.size+s.size) (xs:=(bo D.log).map (Value.int .u8)) (xs':=(bo (D.log++s)).map (Value.int .u8)) rfl (by kernel_rfl) (by kernel_rfl) hi0 hz0 hz1 hz2 (cx.an 4) cx (cx.init 2 _ rfl) rfl (cx.an 5) (by simp only[maxLen];omega) (by omega) rfl rfl rfl (by omega) ((JK D.log s)) (fun g o X' hs hb hv hx=>?_)
 exact⟨hv,hx⟩
 refine svA fun ρ β W X cx=>?_
 exact bx (n:=1) rfl (cx.an 8) (dTn (cx.an 6)).1 (by kernel_rfl) (by kernel_rfl) (by kernel_rfl) cx (cx.init 0 _ rfl) rfl (nle rfl) (by kernel_rfl) rfl rfl rfl (fun g o X' hs hb hx=>by rw[hb 8];exact hx)
 intro g β X W1 hD aA fr aG
 simp only[exq 6 ((dTn (hD 6 lq)).2),exq 7 ((dTn (hD 9 lq)))] at aA
 simp only[ed 8 ((dTn (hD 6 lq)).1)] at aG
 generalize sA (β 8)=Ih,sC (β 8)=Ii at aA aG
 clear hD;subst aG;clear g β X
 refine bpe (.tuple #[]) (by simp[results,Tryz.results130,go_sem]) ?_
 have hl_:=St.less2 (L:=[eB b 100 #[.slice PA D.pgs.length Pc,.slice Ih (D.log.size+s.size) Ii,vi ((D.fl:Int)),.bool D.off,.bool D.armed,vi D.left],eO 144 513 (.slice PA D.pgs.length Pc) D.pgs.length (Ps.flatMap shC),eO 5 1 (.slice Ih (D.log.size+s.size) Ii) (D.log.size+s.size) ((bo (D.log++s)).map (Value.int .u8)),eWs Qs]) (aA.pick [5,0,4,1,2,3] (by decide) rfl) h2 h3
 rw[show D.log.size+s.size=(D.log++s).size from ByteArray.size_append.symm] at hl_
 exact⟨rfl,St.dk (L:=[]) (D:=apD s D) (PA:=PA) (Pc:=Pc) (GA:=Ih) (gc:=Ii) hl_ hps hsub⟩
theorem GV(b b2 b3:Nat)(D:DkM)(s:ByteArray)(w:World)(hB:jz w b D)(h2:Blk w b2 30 #[po b 0])(h3:Blk w b3 9 #[.string s])(hz:D.log.size<=10000000)(hz2:s.size<=10000000):Calls Tryz.prog 129 #[po b2 0,po b3 0] w (Ret (.int .i64 (apE D s)) w):=by
 obtain⟨PA,Pc,GA,gc,Ps,h1⟩:=hB
 exact K0 b b2 b3 D s PA Pc GA gc Ps w h1 h2 h3 hz hz2
theorem E6(b b2 b3:Nat)(D:DkM)(s:ByteArray)(fp:List Nat)(w:World)(hB:(eDk b D fp).holds w)(hlt:∀k∈fp,k<w.heap.size)(h2:Blk w b2 30 #[po b 0])(h3:Blk w b3 9 #[.string s])(n2:b2∉fp)(n3:b3∉fp)(uO:b2≠b3)(hz:D.log.size<=10000000)(hz2:s.size<=10000000):
  Calls Tryz.prog 126 #[po b 0,.func (.func 129) #[] #[po b2 0,po b3 0],.func (.func 130) #[] #[po b2 0,po b3 0]] w (bV b (opD D (apE D s) (apD s)) fp w):=by
 have st1:St w fp [eDk b D fp] w:=St.lend hB (dV _ _ _) hlt
 go_enter Tryz.func126,Tryz.ntmps126
 have al:=st1
 refine wq (sqr (sqp [.k 6 (vi 0)] ?_))
 refine aa (wq (wq ?_))
 obtain⟨onv,hon⟩:∃z,(!D.off)=z:=⟨_,rfl⟩
 refine sqr (sqp [.m 8 0] ?_)
 refine sqk (.bool onv) al (fun cx=>⟨_,rD hon (mj b D _ (fb (CtxV.holdF cx (cx.init 0 _ rfl) rfl))),(ax (cx.ou 8))⟩) fun W3 bc=>?_
 refine sqp [.k 10 (.bool (!(onv)))] ?_
 refine aa ?_
 rcases Bool.eq_false_or_eq_true (onv) with eX|eX
 ·refine wp_cond_false (show Act.eval _ _= .bool false from(congrArg Value.bool (by rw[eX];rfl))) (wp_skip (aa (wq (wq (sqr (sqp [.m 11 1] ?_))))))
  refine sqv (vi ((apE D s))) bc (iq rfl rfl rfl rfl rfl (fun _ _ _ h=>h) fun ρ β W X cx=>⟨_,_,cQ (f:=129) (args:=#[]) (args':=#[vp b2,vp b3]) rfl rfl (cx.ou 11) (by kernel_rfl) ji rfl,GV b b2 b3 D s _ (fb (CtxV.holdF cx (cx.init 0 _ rfl) rfl)) (h2.upd cx.upd n2) (h3.upd cx.upd n3) hz hz2⟩) fun W7 aZ=>?_
  refine sqp [.m 7 12] ?_
  refine aa (wq (sqr (sqp [.m 13 7,.k 14 (.bool ((apE D s) != 0))] ?_)))
  refine aa (wbs (fun dt=>?_) fun dt=>?_)
  have hH:=bne_iff_ne.1 dt
  refine wq (sqr (sqp [.m 15 7,.m 6 15] ?_))
  refine aa (wp_ret (aj ?_))
  refine bpr (vi ((apE D s))) (ai Tryz.results126 rpt) ?_
  exact bV.of (R':=(D,apE D s)) (by rw[opD,if_neg (by have h_:=hon.trans eX;simpa using h_),if_pos (by simpa using dt)]) aZ
  have hH:=bne_eq_false_iff_eq.1 dt
  refine wp_skip (aa (wq (wq ?_)))
  have hD_:(eDk b D fp).holds W7:=(aZ.ok _ (List.mem_singleton.2 rfl)).holds
  obtain⟨PA,Pc,GA,gc,Ps,Qs,hps,hsub,hfp,hap,hall⟩:=hD_
  have gx:St w fp [eB b 100 #[.slice PA D.pgs.length Pc,.slice GA D.log.size gc,vi ((D.fl:Int)),.bool D.off,.bool D.armed,vi D.left],eO 144 513 (.slice PA D.pgs.length Pc) D.pgs.length (Ps.flatMap shC),eO 5 1 (.slice GA D.log.size gc) D.log.size ((bo D.log).map (Value.int .u8)),eWs Qs] W7:=St.unpack aZ hfp hall hap
  refine sqr (sqp [.m 16 0,.k 17 (vp b),.k 18 (po b 4)] ?_)
  refine av 0 gx ?_
  refine sqp [.m 20 19] ?_
  refine d6 20 [21,22,23,24,25] ?_ rfl (fun hq=>?_) ?_
  rotate_left
  refine sqp [.m 21 0,.k 22 (vp b),.k 23 (po b 5)] ?_
  refine av 0 gx ?_
  refine sqp [.k 25 (.bool (decide (D.left<=0)))] ?_
  exact sqe
  refine c8 ?_
  refine sqp [sPa 26 D.armed (decide (D.left<=0))] ?_
  refine aa (wbs (fun fe=>?_) fun fe=>?_)
  have fa:=fe
  simp only[zB] at fa
  obtain⟨zi,zj⟩:=fa
  refine wq (sqr (sqp [.m 27 0,.k 28 (vp b),.k 29 (po b 3)] ?_))
  refine aV (n:=1) 0 #[.slice PA D.pgs.length Pc,.slice GA D.log.size gc,vi ((D.fl:Int)),.bool true,.bool D.armed,vi D.left] gx fun Fe jx=>?_
  refine aa (wq (sqr (sqp [.k 6 (vi 24)] ?_)))
  refine aa (wp_ret (aj ?_))
  refine bpr (vi 24) (ai Tryz.results126 rpt) ?_
  obtain⟨fp2,hk_⟩:=St.dk (L:=[]) (D:={D with off:=true}) (PA:=PA) (Pc:=Pc) (GA:=GA) (gc:=gc) (jx.pick [0,1,2,3] (by decide) rfl) hps hsub
  exact bV.of (R':=({D with off:=true},24)) (by rw[opD,if_neg (by have h_:=hon.trans eX;simpa using h_),if_neg (by simpa using dt),if_pos (by simpa using fe)]) hk_
  have fa:=fe
  simp only[zB] at fa
  refine wp_skip (aa (wq (sqr (sqp [.m 30 0,.k 31 (vp b),.k 32 (po b 5)] ?_))))
  refine av 0 gx ?_
  refine sqp [.k 34 (vi ((cX D.left))),.k 35 (vp b),.k 36 (po b 5)] ?_
  refine aV (n:=1) 0 #[.slice PA D.pgs.length Pc,.slice GA D.log.size gc,vi ((D.fl:Int)),.bool D.off,.bool D.armed,vi ((cX D.left))] gx fun pT dd=>?_
  refine aa (wq ?_)
  obtain⟨D1,hD1⟩:∃z,({D with left:=cX D.left}:DkM)=z:=⟨_,rfl⟩
  obtain⟨fp2,hk_40⟩:=St.dk (L:=[]) (D:={D with left:=cX D.left}) (PA:=PA) (Pc:=Pc) (GA:=GA) (gc:=gc) (dd.pick [0,1,2,3] (by decide) rfl) hps hsub
  simp only[List.nil_append] at hk_40
  rw[hD1] at hk_40
  have hz1:D1.log.size<=10000000:=by rw[<-hD1];exact hz
  refine sqr (sqp [.m 37 2] ?_)
  refine bN (fun X_=>X_.fp) (.tuple #[]) (fun nH=>eDk b (apD s D1) nH) 0 hk_40 (by
    refine svA fun ρ β W X cx=>?_
    refine am.call (cQ (f:=130) (args:=#[]) (args':=#[vp b2,vp b3]) rfl rfl (cx.ou 37) (by kernel_rfl) ji rfl) ?_
    refine(Hy b b2 b3 D1 s _ _ (CtxV.holdF cx (cx.init 0 _ rfl) rfl) (CtxV.ltF cx (cx.init 0 _ rfl) rfl) (h2.upd cx.upd n2) (h3.upd cx.upd n3) (CtxV.notin cx (cx.init 0 _ rfl) rfl n2 h2.lt) (CtxV.notin cx (cx.init 0 _ rfl) rfl n3 h3.lt) uO hz1 hz2).mono ?_
    rintro e W1 ⟨rfl,fp4,aU⟩
    refine⟨_,rfl,aN (E:=eDk b D1 fp2) [eDk b (apD s D1) fp4] (cx.init 0 _ rfl) rfl rfl aU (fun c g X' hs hb hv hN=>?_)⟩
    have aK:=(hv 38 rfl).1;have aW:=(hv 38 rfl).2
    exact⟨aK.trans rfl,cJ ((List.cons.inj hN).1)⟩) fun nH uE fk=>?_
  refine aa (wq (sqr (sqp [.k 6 (vi 0)] ?_)))
  refine aa (wp_ret ?_)
  refine bpr (vi 0) (ai Tryz.results126 rpt) ?_
  exact bV.of (R':=(apD s D1,0)) (by rw[opD,if_neg (by have h_:=hon.trans eX;simpa using h_),if_neg (by simpa using dt),if_neg (by have h_:=fe;intro h2_;simp[h2_.1,h2_.2] at h_),hD1]) fk
 refine wp_cond_true (show Act.eval _ _= .bool true from(congrArg Value.bool (by rw[eX];rfl))) (wq (sqr (sqp [.k 6 (vi 24)] ?_)))
 refine aa (wp_ret (aj ?_))
 refine bpr (vi 24) (ai Tryz.results126 rpt) ?_
 exact bV.of (R':=(D,24)) (by rw[opD,if_pos (by simpa using hon.trans eX)]) bc
theorem r5(b:Nat)(D:DkM)(s:ByteArray)(fp:List Nat)(w:World)(hB:(eDk b D fp).holds w)(hlt:∀k∈fp,k<w.heap.size)(hz:D.log.size<=10000000)(hz2:s.size<=10000000):
  Calls Tryz.prog 62 #[po b 0,.string s] w (bV b (opD D (apE D s) (apD s)) fp w):=by
 have st1:St w fp [eDk b D fp] w:=St.lend hB (dV _ _ _) hlt
 go_enter Tryz.func62,Tryz.ntmps62
 have al:=st1
 refine wq (sqr ?_)
 refine ce #[vp b] al fun bF W1 aA=>?_
 refine ce #[.string s] aA fun dK W2 bQ=>?_
 refine sqp [.k 4 (vi 0)] ?_
 refine aa (wq (sqr (av 1 bQ ?_)))
 refine sqv (.func (.func 129) #[] #[vp bF,vp dK]) bQ (by
   exact sv0 rfl rfl rfl rfl rfl (fun _ _ _ h=>h) fun ρ β W X cx=>by
    have oF:ρ (.tmp 2)=vp bF:=(cx.ou 2)
    have gw:ρ (.tmp 3)=vp dK:=(cx.ou 3)
    simp[go_sem,Instr.makeFunc,oF,gw]) fun W5 aR=>?_
 refine sqv (.func (.func 130) #[] #[vp bF,vp dK]) aR (by
   exact sv0 rfl rfl rfl rfl rfl (fun _ _ _ h=>h) fun ρ β W X cx=>by
    have oF:ρ (.tmp 2)=vp bF:=(cx.ou 2)
    have gw:ρ (.tmp 3)=vp dK:=(cx.ou 3)
    simp[go_sem,Instr.makeFunc,oF,gw]) fun W6 bI=>?_
 refine bN (fun X_=>X_.fp) (vi ((opD D (apE D s) (apD s)).2)) (fun zk=>eDk b ((opD D (apE D s) (apD s)).1) zk) 0 bI (by
   refine svA fun ρ β W X cx=>?_
   refine am.call (aq (args:=#[vp b,.func (.func 129) #[] #[vp bF,vp dK],.func (.func 130) #[] #[vp bF,vp dK]]) rfl cx.sees rfl (by kernel_rfl) (dN (cx.ou 5) (cx.ou 6) (cx.ou 7))) ?_
   refine(E6 b _ _ D s _ _ (CtxV.holdF cx (cx.init 0 _ rfl) rfl) (CtxV.ltF cx (cx.init 0 _ rfl) rfl) (cx.bi 1 rfl) (cx.bi 2 rfl) (by have h_:=cx.ap 1 0 rfl rfl (by decide);rw[(cx.init 1 _ rfl),(cx.init 0 _ rfl)] at h_;exact h_ _ (List.mem_singleton.2 rfl)) (by have h_:=cx.ap 2 0 rfl rfl (by decide);rw[(cx.init 2 _ rfl),(cx.init 0 _ rfl)] at h_;exact h_ _ (List.mem_singleton.2 rfl)) (by have h_:=cx.ap 1 2 rfl rfl (by decide);rw[(cx.init 1 _ rfl),(cx.init 2 _ rfl)] at h_;intro e_;exact h_ _ (List.mem_singleton.2 rfl) (List.mem_singleton.2 e_)) hz hz2).mono ?_
   rintro e W1 ⟨rfl,fp4,aU⟩
   refine⟨_,rfl,aN (E:=eDk b D fp) [eDk b (opD D (apE D s) (apD s)).1 fp4] (cx.init 0 _ rfl) rfl rfl aU (fun c g X' hs hb hv hN=>?_)⟩
   have aK:=(hv 8 rfl).1;have aW:=(hv 8 rfl).2
   exact⟨aK.trans rfl,cJ ((List.cons.inj hN).1)⟩) fun zk W7 aZ=>?_
 refine sqp [.m 4 8] ?_
 refine aa (wp_ret ?_)
 refine bpr (vi ((opD D (apE D s) (apD s)).2)) (ai Tryz.results62 rpt) ?_
 exact bV.of rfl (aZ.pick [0] (by decide) rfl)
end
end Go.Proofs.YtcdjaepgahbhfaaGreat
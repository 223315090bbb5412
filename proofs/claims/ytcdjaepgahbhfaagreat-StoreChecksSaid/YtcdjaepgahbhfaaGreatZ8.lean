import Derived.Test.YtcdjaepgahbhfaaGreatZ7
import Derived.Test.YtcdjaepgahbhfaaGreatRows
import Derived.ProofKit
import Derived.OpenShut
import Derived.Below
import Derived.ChangeSame
import Derived.WideKeyArgs
import Derived.SliceStrings
import Derived.ChangeMaps5
import Derived.Lib.SmallJoins
import Derived.SizedLaws
import Derived.WalkKit
set_option linter.unusedVariables false
set_option linter.unusedSimpArgs false
set_option maxRecDepth 100000
set_option maxHeartbeats 16000000
open Go.Proofs.Tryz
open Go.Proofs.Tryz renaming prog->P_
namespace Go.Proofs.YtcdjaepgahbhfaaGreat
variable{D:DkM}{L:List RecM}{W w w0:World}{args:Array Value}{c db p sb:Nat}{fp:List Nat}{told:Int->Bool}
section
open Go.RowKit
theorem Eh{fp:List Nat}{n:Int}(h:0<=n/\n<(p:Int))(hB:(eNi sb db L told p c fp).holds w)(hlt:∀k∈fp,k<w.heap.size)(hc:c<=800000):
  Calls P_ 79 #[po sb 0,.int .i64 n] w (fun e w'=>e= .returned (.int .i64 0)/\∃fp',St w fp [eNi sb db L told p (c+4) fp'] w'):=by
 have hp:(p:Int)<=400:=by obtain⟨S,hN,_⟩:=hB;have:=hN.ok.pgs;rw[hN.ep] at this;omega
 have h1:=uj n hB hlt hc (by constructor<;>omega)
 rw[if_pos h] at h1;exact h1
theorem CF{fp:List Nat}{n:Int}(hn: -100<=n/\n<=100)(h:¬(0<=n/\n<(p:Int)))(hB:(eNi sb db L told p c fp).holds w)(hlt:∀k∈fp,k<w.heap.size)(hc:c<=800000):
  Calls P_ 79 #[po sb 0,.int .i64 n] w (fun e w'=>e= .returned (.int .i64 22)/\∃fp',St w fp [eNi sb db L told p (c+4) fp'] w'):=by
 have h1:=uj n hB hlt hc (by constructor<;>omega)
 rw[if_neg h] at h1;exact h1
theorem J9(xb:Nat)(bufs:Int)(L:List RecM)(told:Int->Bool)(c:Nat)(a:ActT)(fp:List Nat)(w:World)(hB:(eWd xb bufs L told c fp).holds w)(hlt:∀k∈fp,k<w.heap.size)(ha:ActOk a)(hc:c<=700000)(hwh:a.what % 10<8):
  Calls P_ 30 #[po xb 0,.agg #[.int .u8 a.what,.int .i64 a.page,.int .i64 a.slot,.string a.item,.slice a.QA a.qn a.qc]] w ((fun e w2=>e= .returned (.bool true)/\∃fp2,St w fp [eWd xb bufs (dU (L,told) a).1 (dU (L,told) a).2 (c+700) fp2] w2)):=by
 have st1:St w fp [eWd xb bufs L told c fp] w:=St.lend hB (vX _ _ _ _ _ _) hlt
 obtain⟨hw,hpg,hsl,hit,hq⟩:=id ha
 have hc:c<=800000:=by omega
 have U5:=Int.lt_tmod_of_pos a.page (b:=7) (by decide)
 have Um:=Int.tmod_lt_of_pos a.page (b:=7) (by decide)
 go_enter func30,ntmps30
 have aj:=st1
 refine wq (sqr ?_)
 refine bX #[.int .u8 a.what,vi a.page,vi a.slot,.string a.item,.slice a.QA a.qn a.qc] aj fun bP W1 ax=>?_
 refine sqp [.k 4 (.bool false)] ?_
 refine aa (wq (wq ?_))
 obtain⟨safe,db,sb,rb,fps,fpr,hw3_⟩:=ax.unwd
 obtain⟨hL,hz⟩:=Oq (hw3_.get 1 rfl).holds
 refine sqs [.k 17 (vp bP)] ?_
 refine am 3 hw3_ ?_
 refine sqp [sRe 19 .u8 a.what 10 (a.what % 10) (Int.tmod_eq_emod_of_nonneg (by omega))] ?_
 refine aa (wp_block ?_)
 refine mu (fun t_ az W=>∃b30:Bool,b30=decide (a.what % 10<=3)/\az=⟨(ovr (jv az) [(30,30,0,[.bool b30]),(0,31,4,[])] t_).toArray,[]⟩/\St w fp [eB xb 34 #[vp db,vp sb,vp rb,vi bufs,vi safe],eNi sb db L told 5 c fps,eRf rb L told 5 fpr,eB bP 60 #[.int .u8 a.what,vi a.page,vi a.slot,.string a.item,.slice a.QA a.qn a.qc]] W) ?_ ?_
 refine wsq [.k 31 (.bool ((a.what % 10)==0)),.m 30 31] ?_
 refine aa (wbs (fun kK=>?_) fun kK=>?_)
 have pU:=beq_iff_eq.1 kK
 refine wp_skip (aa ?_)
 exact⟨(a.what % 10)==0,(by rw[Bool.eq_iff_iff];simp only[beq_iff_eq,decide_eq_true_eq];omega),(by kernel_rfl),hw3_.pk [0,1,2,3]⟩
 have pU:=beq_eq_false_iff_ne.1 kK
 refine wsq [.k 32 (.bool ((a.what % 10)==1)),.m 30 32] ?_
 refine aa (wbs (fun f9=>?_) fun f9=>?_)
 have i8:=beq_iff_eq.1 f9
 refine wp_skip (aa ?_)
 exact⟨(a.what % 10)==1,(by rw[Bool.eq_iff_iff];simp only[beq_iff_eq,decide_eq_true_eq];omega),(by kernel_rfl),hw3_.pk [0,1,2,3]⟩
 have i8:=beq_eq_false_iff_ne.1 f9
 refine wsq [.k 33 (.bool ((a.what % 10)==2)),.m 30 33] ?_
 refine aa (wbs (fun dj=>?_) fun dj=>?_)
 have mf:=beq_iff_eq.1 dj
 refine wp_skip (aa ?_)
 exact⟨(a.what % 10)==2,(by rw[Bool.eq_iff_iff];simp only[beq_iff_eq,decide_eq_true_eq];omega),(by kernel_rfl),hw3_.pk [0,1,2,3]⟩
 have mf:=beq_eq_false_iff_ne.1 dj
 refine sqs [.k 34 (.bool ((a.what % 10)==3)),.m 30 34] ?_
 refine aa ?_
 exact⟨(a.what % 10)==3,(by rw[Bool.eq_iff_iff];simp only[beq_iff_eq,decide_eq_true_eq];omega),(by kernel_rfl),hw3_.pk [0,1,2,3]⟩
 rintro a7 W7 ⟨b30,hb30,hj_,aW⟩
 refine ovz hj_ fun FU=>?_
 refine wbs (fun kc=>?_) fun kc=>?_
 refine wq (aB [0,1,3,0,8,31,0,127] [[],[3],[],[3],[],[],[],[5]] [[],[],[],[],[4],[],[5],[6]] [[],[],[],[],[],[],[],[5]] [.k 35 (po bP 1),.c 36 (vi a.page),tAn 37 .i64 a.page 127 (a.page % 128) (w9 a.page 7 (by decide)),.c 38 (.agg #[.int .u8 a.what,vi a.page,vi a.slot,.string a.item,.slice a.QA a.qn a.qc]),.a 39,.a 40,.a 5,.n] (fun ix f d X=>match ix with|0|1|2|3=>True|4=>f 39= .slice (sA (d 39)) ((dR a).length) (sC (d 39))/\X 4=eO 84 3 (.slice (sA (d 39)) ((dR a).length) (sC (d 39))) ((dR a).length) ((dR a).flatMap edC)|5=>f 40= .agg #[vi 1,vi (a.page % 128),vi 0,sn,sn,.slice (sA (d 39)) ((dR a).length) (sC (d 39)),sn,.string ByteArray.empty]|6=>f 5=vp (pb (d 5))/\X 5=eB (pb (d 5)) 27 #[vi 0,vi 0,vi 0,sn,sn,sn,sn,.string ByteArray.empty]|7=>X 6=eB (pb (d 5)) 27 #[vi 1,vi (a.page % 128),vi 0,sn,sn,.slice (sA (d 39)) ((dR a).length) (sC (d 39)),sn,.string ByteArray.empty]|_=>True) [0,1,2,3,4,6] [1,3,4,5,6,7] [(5,6,1,6),(29,0,6,35)] aW ?_ ?_ ?_)
 exact fun ix _ _ _ _ _ _ hs hb hx h=>match ix,h with
 |4,h=>by dsimp only;rw[<-hs 39 rfl,<-hb 39 rfl,<-hx 4 rfl];exact h
 |5,h=>by dsimp only;rw[<-hs 40 rfl,<-hb 39 rfl];exact h
 |6,h=>by dsimp only;rw[<-hs 5 rfl,<-hb 5 rfl,<-hx 5 rfl];exact h
 |7,h=>by dsimp only;rw[<-hb 5 rfl,<-hb 39 rfl,<-hx 6 rfl];exact h
 |0,_|1,_|2,_|3,_|_+8,_=>trivial
 refine⟨?_,?_,?_,?_,?_,?_,trivial⟩
 exact xs4 rfl id fun cx=>rL1 (cx.an 0) ((cx.bi 3 rfl).cell 1)
 exact xs4 rfl id fun cx=>rLB (n:=5) (cx.ou 3) (cx.bi 3 rfl) (nle rfl) rfl
 refine svA fun g d W X cx=>?_
 refine ak.call (rCF (args:=#[.agg #[.int .u8 a.what,vi a.page,vi a.slot,.string a.item,.slice a.QA a.qn a.qc]]) cx.sees (av (cx.an 3))) ?_
 refine(Ce a _ ha).mono ?_
 rintro e W1 ⟨A4,c4,rfl,ho,hx⟩
 refine⟨_,rfl,bK [eO 84 3 (.slice A4 (dR a).length c4) (dR a).length ((dR a).flatMap edC)] rfl rfl hx (one_new (cf ho)) (List.pairwise_singleton _ _) (fun f i X' hs hb hv hN=>?_)⟩
 have aH:=(hv 39 rfl).1;have aO:=(hv 39 rfl).2
 exact⟨aH.trans (by rw[aO];exact rfl),(by rw[aO];exact(List.cons.inj hN).1)⟩
 exact sv rfl rfl rfl rfl rfl _ (fun _ _ _ h=>h) (fun d i h=>by rw[h 39 (by decide)]) fun g d W X cx=>jX rfl (pmc (cx.co _) (pmc (cx.an 2) (pmc (dTn (cx.an 4)).1 pmn))) (by kernel_rfl)
 refine svA fun g d W X cx=>?_
 exact dVA (cs:=#[vi 0,vi 0,vi 0,sn,sn,sn,sn,.string ByteArray.empty]) rfl rfl rfl (fun _ _ _ _ _=> .intro)
 refine svA fun g d W X cx=>?_
 exact dVS (n:=8) rfl (dTn (cx.an 6)).1 (dTn (cx.an 5)) cx (dTn (cx.an 6)).2 rfl (nle rfl) rfl rfl rfl (fun f i X' hs hb hx=>by rw[hb 5,hb 39];exact hx)
 intro f d X M7 hD ki fr aC
 simp only[exq 4 ((dTn (hD 4 lq)).2),exq 6 ((dTn (hD 7 lq)))] at ki
 simp only[ed 39 ((dTn (hD 4 lq)).1),ed 40 ((dTn (hD 5 lq))),ed 5 ((dTn (hD 6 lq)).1)] at aC
 generalize sA (d 39)=nd,sC (d 39)=nf,pb (d 5)=Ta at ki aC
 clear hD;subst aC;clear f d X
 refine aa (wq ?_)
 have hw3:a.what % 10<=3:=by have h_:=kc;rw[hb30] at h_;exact of_decide_eq_true h_
 obtain⟨rs,rr,hrs,hsub,ho21_⟩:=ki.u2.unrf
 obtain⟨QA,qc,TA,tc,hq22_⟩:=ho21_.unrq
 refine sqs [.m 41 0,.k 42 (vp xb),.k 43 (po xb 2)] ?_
 refine am 4 hq22_ ?_
 refine sqp [.k 45 (vp rb),.k 46 (po rb 1)] ?_
 refine am 0 hq22_ ?_
 refine sqp [.k 48 (vi ((rs.length:Int))),.m 6 48] ?_
 refine aa (wq ?_)
 obtain⟨fp32_,hr32_⟩:=St.rq (rs:=rs) (told:=told) (p:=5) (rr:=rr) (hq22_)
 have PI:=St.rf (L:=L) hr32_ (hrs) (hsub)
 refine aB [0,1,3,7,0,31,63,127,127,255,1023] [[],[],[],[1],[5],[2,4]] [[],[],[],[],[],[6]] [[],[],[],[],[],[2]] [.k 50 (vp xb),.k 51 (vp xb),.k 52 (po xb 1),.c 53 (vp sb),.c 54 (.agg #[vi 1,vi (a.page % 128),vi 0,sn,sn,.slice nd ((dR a).length) nf,sn,.string ByteArray.empty]),.a 55,.c 49 (.tuple #[vi ((rfD 5 L told (b9 a)).2.1),vi ((rfE 5 L (b9 a)))]),.k 56 (vi ((rfD 5 L told (b9 a)).2.1)),.k 57 (vi ((rfE 5 L (b9 a)))),.k 7 (vi ((rfD 5 L told (b9 a)).2.1)),.k 8 (vi ((rfE 5 L (b9 a))))] (fun ix f d X=>match ix with|0|1|2|3|4=>True|5=>f 55= .tuple #[vi ((rfD 5 L told (b9 a)).2.1),vi ((rfE 5 L (b9 a)))]/\X 6=eNi sb db ((rfD 5 L told (b9 a)).1) ((rfD 5 L told (b9 a)).2.2.2) 5 (c+700) ((X 6).fp)|_=>True) [0,1,3,4,5,6] [3,4,5,6] [(7,9,2,9),(40,6,1,41),(0,0,6,6),(0,7,2,2)] PI ?_ ?_ ?_
 exact fun ix _ _ _ _ _ _ hs hb hx h=>match ix,h with
 |5,h=>by dsimp only;rw[<-hs 55 rfl,<-hx 6 rfl];exact h
 |0,_|1,_|2,_|3,_|4,_|_+6,_=>trivial
 refine⟨?_,?_,?_,?_,trivial⟩
 exact xs4 rfl id fun cx=>rL1 (cx.an 2) ((cx.bi 1 rfl).cell 1)
 exact xs4 rfl id fun cx=>rLB (n:=8) (cx.ou 5) (cx.bi 5 rfl) (nle rfl) rfl
 refine svA fun g d W X cx=>?_
 refine ak.call (rCF (args:=#[vp sb,.agg #[vi 1,vi (a.page % 128),vi 0,sn,sn,.slice nd ((dR a).length) nf,sn,.string ByteArray.empty]]) cx.sees (aN (cx.an 3) (cx.an 4))) ?_
 refine(Bq (L:=L) (b9 a) _ _ (CtxV.holdF cx (cx.init 2 _ rfl) rfl) (CtxV.ltF cx (cx.init 2 _ rfl) rfl) hc (cx.keepAt (cx.init 4 _ rfl) (cx.init 2 _ rfl) rfl rfl (by decide)) (by show (dR a).length<= _;have:=x8 a;omega) (xi a) (by show (0:Nat)<= _;omega)).mono ?_
 rintro e W1 ⟨rfl,fp4,aM⟩
 refine⟨_,rfl,aI (E:=eNi sb db L told 5 c fps) [eNi sb db ((rfD 5 L told (b9 a)).1) ((rfD 5 L told (b9 a)).2.2.2) 5 (c+700) fp4] (cx.init 2 _ rfl) rfl rfl aM (fun f i X' hs hb hv hN=>?_)⟩
 have aH:=(hv 55 rfl).1;have aO:=(hv 55 rfl).2
 exact⟨aH.trans rfl,eR ((List.cons.inj hN).1)⟩
 exact xs4 rfl id fun cx=>cM rfl (dTn (cx.an 5)).1
 intro f d X xA hD ek fr aC
 have Oe:X 6= _:=(dTn (hD 5 lq)).2
 obtain⟨Tb,AD⟩:∃z,(X 6).fp=z:=⟨_,rfl⟩
 rw[AD] at Oe
 clear AD
 simp only[Oe] at ek
 simp only[ed 55 ((dTn (hD 5 lq)).1)] at aC
 clear hD Oe;subst aC;clear f d X
 refine aa (wq ?_)
 obtain⟨fg35_,hg35_⟩:=St.rh (t:=(⟨b9 a,nd,nf⟩:RcT)) ek.u3
 refine aB [0,1,3,7,0,31,0,127] [[],[],[],[1],[3],[0],[],[6]] [[],[],[],[],[],[5],[6],[7]] [[],[],[],[],[],[0],[],[6]] [.k 58 (vp xb),.k 59 (vp xb),.k 60 (po xb 2),.c 61 (vp rb),.c 62 (.agg #[vi 1,vi (a.page % 128),vi 0,sn,sn,.slice nd ((dR a).length) nf,sn,.string ByteArray.empty]),.a 63,.a 9,.n] (fun ix f d X=>match ix with|0|1|2|3|4=>True|5=>f 63= .agg #[vi ((rfD 5 L told (b9 a)).2.1),vi ((rfE 5 L (b9 a)))]/\X 5=eRf rb ((rfD 5 L told (b9 a)).1) ((rfD 5 L told (b9 a)).2.2.2) 5 ((X 5).fp)|6=>f 9=vp (pb (d 9))/\X 6=eB (pb (d 9)) 129 #[vi 0,vi 0]|7=>X 7=eB (pb (d 9)) 129 #[vi ((rfD 5 L told (b9 a)).2.1),vi ((rfE 5 L (b9 a)))]|_=>True) [1,2,3,4,5,7] [3,4,5,6,7] [(9,6,1,10),(48,0,6,54)] hg35_ ?_ ?_ ?_
 exact fun ix _ _ _ _ _ _ hs hb hx h=>match ix,h with
 |5,h=>by dsimp only;rw[<-hs 63 rfl,<-hx 5 rfl];exact h
 |6,h=>by dsimp only;rw[<-hs 9 rfl,<-hb 9 rfl,<-hx 6 rfl];exact h
 |7,h=>by dsimp only;rw[<-hb 9 rfl,<-hx 7 rfl];exact h
 |0,_|1,_|2,_|3,_|4,_|_+8,_=>trivial
 refine⟨?_,?_,?_,?_,?_,trivial⟩
 exact xs4 rfl id fun cx=>rL1 (cx.an 2) ((cx.bi 1 rfl).cell 2)
 exact xs4 rfl id fun cx=>rLB (n:=8) (cx.ou 5) (cx.bi 3 rfl) (nle rfl) rfl
 refine svA fun g d W X cx=>?_
 refine ak.call (rCF (args:=#[vp rb,.agg #[vi 1,vi (a.page % 128),vi 0,sn,sn,.slice nd ((dR a).length) nf,sn,.string ByteArray.empty]]) cx.sees (aN (cx.an 3) (cx.an 4))) ?_
 refine(Ez rb L told 5 (⟨b9 a,nd,nf⟩:RcT) _ _ (CtxV.holdF cx (cx.init 0 _ rfl) rfl) (CtxV.ltF cx (cx.init 0 _ rfl) rfl) hL hz (by decide) (by show (dR a).length<= _;have:=x8 a;omega) (xi a) (by show (0:Nat)<= _;omega)).mono ?_
 rintro e W1 ⟨rfl,fp4,aM⟩
 refine⟨_,rfl,aI (E:=eRh rb L told 5 (⟨b9 a,nd,nf⟩:RcT) fg35_) [eRf rb ((rfD 5 L told (b9 a)).1) ((rfD 5 L told (b9 a)).2.2.2) 5 fp4] (cx.init 0 _ rfl) rfl rfl aM (fun f i X' hs hb hv hN=>?_)⟩
 have aH:=(hv 63 rfl).1;have aO:=(hv 63 rfl).2
 exact⟨aH.trans rfl,sK ((List.cons.inj hN).1)⟩
 refine svA fun g d W X cx=>?_
 exact dVA (cs:=#[vi 0,vi 0]) rfl rfl rfl (fun _ _ _ _ _=> .intro)
 refine svA fun g d W X cx=>?_
 exact dVS (n:=2) rfl (dTn (cx.an 6)).1 (dTn (cx.an 5)).1 cx (dTn (cx.an 6)).2 rfl (nle rfl) rfl rfl rfl (fun f i X' hs hb hx=>by rw[hb 9];exact hx)
 intro f d X xB hD dX fr aC
 obtain⟨JJ,tT⟩:∃z,pb (d 9)=z:=⟨_,rfl⟩
 have zY:X 5= _:=(dTn (hD 5 lq)).2
 obtain⟨Tc,AE⟩:∃z,(X 5).fp=z:=⟨_,rfl⟩
 rw[AE] at zY
 clear AE
 simp only[zY,exq 7 ((dTn (hD 7 lq))),tT] at dX
 simp only[ed 63 ((dTn (hD 5 lq)).1),ed 9 ((dTn (hD 6 lq)).1),tT] at aC
 clear hD zY tT;subst aC;clear f d X
 refine aa (wq (wsq [.m 64 0,.k 65 (vp xb),.k 66 (vp xb)] ?_))
 refine am 0 dX ?_
 refine sqk (.bool true) dX (fun cx=>⟨_,mo (CtxV.holdF cx (cx.init 3 _ rfl) rfl),(av (cx.ou 67))⟩) fun Jl ke=>?_
 refine sqp [.k 69 (.bool false)] ?_
 refine aa (wcf rfl (wp_skip (aa (wsq [.m 96 8,.k 97 (po JJ 1)] ?_))))
 refine am 5 ke ?_
 have hd47:((rfE 5 L (b9 a)) != (rfE 5 L (b9 a)))=false:=(by simp)
 refine sqp [.e 99 (.bool ((rfE 5 L (b9 a)) != (rfE 5 L (b9 a)))) (.bool false) (congrArg Value.bool hd47),.k 100 (.bool false)] ?_
 refine de 100 [101,102,103,104] rfl rfl ?_
 refine sqp [.m 101 7,.k 102 (vp JJ)] ?_
 refine am 5 ke ?_
 have hd53:(((rfD 5 L told (b9 a)).2.1) != ((rfD 5 L told (b9 a)).2.1))=false:=(by simp)
 refine sqp [.e 104 (.bool (((rfD 5 L told (b9 a)).2.1) != ((rfD 5 L told (b9 a)).2.1))) (.bool false) (congrArg Value.bool hd53)] ?_
 refine sqp [.k 105 (.bool false)] ?_
 refine aa (wcf rfl (wp_skip (aq (aa (wsq [.k 4 (.bool true)] ?_)))))
 refine aa (wp_ret ?_)
 refine bpr (.bool true) (ag results30 rpt) ?_
 obtain⟨fw56_,hw56_⟩:=St.wd ke.u1.c0.u1.c0.u3.c0
 have hE_:dU (L,told) a=((rfD 5 L told (b9 a)).1,(rfD 5 L told (b9 a)).2.2.2):=if_pos hw3
 obtain⟨fz_,hz_⟩:=hw56_.wdm (c2:=c+700) (by omega)
 exact⟨rfl,_,by rw[hE_];exact hz_⟩
 refine wq ?_
 have hw3n:¬a.what % 10<=3:=by have h_:=kc;rw[hb30] at h_;exact of_decide_eq_false h_
 refine sqs [.k 107 (.bool ((a.what % 10)==4)),.m 106 107] ?_
 refine aa (wbs (fun pM=>?_) fun pM=>?_)
 have Di:=beq_iff_eq.1 pM
 refine wsq [.m 108 0,.k 109 (vp xb),.k 110 (po xb 1)] ?_
 refine am 0 aW ?_
 refine bF (fun X_=>X_.fp) (vi ((frF 5 L told))) (fun JK=>eNi sb db L (frT 5 L told) 5 (c+3*5+1) JK) 1 aW (by
   refine svA fun g d W X cx=>?_
   refine ak.call (rCF (args:=#[vp sb]) cx.sees (av (cx.ou 111))) ?_
   refine(pe (CtxV.holdF cx (cx.init 1 _ rfl) rfl) (CtxV.ltF cx (cx.init 1 _ rfl) rfl) hc).mono ?_
   rintro e W1 ⟨rfl,fp4,aM⟩
   refine⟨_,rfl,aI (E:=eNi sb db L told 5 c fps) [eNi sb db L (frT 5 L told) 5 (c+3*5+1) fp4] (cx.init 1 _ rfl) rfl rfl aM (fun f i X' hs hb hv hN=>?_)⟩
   have aH:=(hv 112 rfl).1;have aO:=(hv 112 rfl).2
   exact⟨aH.trans rfl,eR ((List.cons.inj hN).1)⟩) fun JK JD gG=>?_
 refine sqp [.m 10 112] ?_
 refine aa (wq (wsq [.m 113 0,.k 114 (vp xb),.k 115 (vp xb)] ?_))
 refine am 0 gG ?_
 refine sqk (.bool true) gG (fun cx=>⟨_,mo (CtxV.holdF cx (cx.init 1 _ rfl) rfl),(av (cx.ou 116))⟩) fun U6 JL=>?_
 refine sqp [.k 118 (.bool false)] ?_
 refine aa (wcf rfl (wp_skip (aa (wsq [.m 123 10,.m 124 0,.k 125 (vp xb),.k 126 (po xb 2)] ?_))))
 refine am 0 JL ?_
 refine bF (fun X_=>X_.fp) (vi ((frF 5 L told))) (fun JM=>eRf rb L (frT 5 L told) 5 JM) 2 JL (by
   refine svA fun g d W X cx=>?_
   refine ak.call (rCF (args:=#[vp rb]) cx.sees (av (cx.ou 127))) ?_
   refine(ze rb L told 5 _ _ (CtxV.holdF cx (cx.init 2 _ rfl) rfl) (CtxV.ltF cx (cx.init 2 _ rfl) rfl) hL hz (by decide)).mono ?_
   rintro e W1 ⟨rfl,fp4,aM⟩
   refine⟨_,rfl,aI (E:=eRf rb L told 5 fpr) [eRf rb L (frT 5 L told) 5 fp4] (cx.init 2 _ rfl) rfl rfl aM (fun f i X' hs hb hv hN=>?_)⟩
   have aH:=(hv 128 rfl).1;have aO:=(hv 128 rfl).2
   exact⟨aH.trans rfl,sK ((List.cons.inj hN).1)⟩) fun JM SC DC=>?_
 have hd79:((frF 5 L told) != (frF 5 L told))=false:=(by simp)
 refine sqp [.e 129 (.bool ((frF 5 L told) != (frF 5 L told))) (.bool false) (congrArg Value.bool hd79)] ?_
 refine aa (wcf rfl (wp_skip (aq (aa (wsq [.k 4 (.bool true)] ?_)))))
 refine aa (wp_ret ?_)
 refine bpr (.bool true) (ag results30 rpt) ?_
 obtain⟨fw81_,hw81_⟩:=St.wd DC.u3.c0
 have hE_:dU (L,told) a=(L,frT 5 L told):=by rw[dU,if_neg (by omega),if_pos (by omega)]
 obtain⟨fz_,hz_⟩:=hw81_.wdm (c2:=c+700) (by omega)
 exact⟨rfl,_,by rw[hE_];exact hz_⟩
 have Di:=beq_eq_false_iff_ne.1 pM
 refine wsq [.k 131 (.bool ((a.what % 10)==5)),.m 130 131] ?_
 refine aa (wbs (fun zW=>?_) fun zW=>?_)
 have Dj:=beq_iff_eq.1 zW
 refine wsq [.m 132 0,.k 133 (vp xb),.k 134 (po xb 1)] ?_
 refine am 0 aW ?_
 refine bF (fun X_=>X_.fp) (vi 0) (fun JN=>eNi sb db L told 5 c JN) 1 aW (by
   refine svA fun g d W X cx=>?_
   refine ak.call (rCF (args:=#[vp sb]) cx.sees (av (cx.ou 135))) ?_
   refine(Da (CtxV.holdF cx (cx.init 1 _ rfl) rfl) (CtxV.ltF cx (cx.init 1 _ rfl) rfl)).mono ?_
   rintro e W1 ⟨rfl,fp4,aM⟩
   refine⟨_,rfl,aI (E:=eNi sb db L told 5 c fps) [eNi sb db L told 5 c fp4] (cx.init 1 _ rfl) rfl rfl aM (fun f i X' hs hb hv hN=>?_)⟩
   have aH:=(hv 136 rfl).1;have aO:=(hv 136 rfl).2
   exact⟨aH.trans rfl,eR ((List.cons.inj hN).1)⟩) fun JN M8 me=>?_
 refine sqp [.m 11 136] ?_
 refine aa (wq (wsq [.m 137 0,.k 138 (vp xb),.k 139 (vp xb)] ?_))
 refine am 0 me ?_
 refine sqk (.bool true) me (fun cx=>⟨_,mo (CtxV.holdF cx (cx.init 1 _ rfl) rfl),(av (cx.ou 140))⟩) fun U7 PJ=>?_
 refine sqp [.k 142 (.bool false)] ?_
 refine aa (wcf rfl (wp_skip (aa (wq ?_))))
 obtain⟨rs,rr,hrs,hsub,ho97_⟩:=PJ.u2.unrf
 obtain⟨QA,qc,TA,tc,hq98_⟩:=ho97_.unrq
 refine sqs [.m 151 0,.m 152 0,.k 153 (vp xb),.k 154 (po xb 2)] ?_
 refine am 4 hq98_ ?_
 refine sqp [.k 156 (vp rb),.k 157 (po rb 1)] ?_
 refine am 0 hq98_ ?_
 refine sqp [.k 159 (vi ((rs.length:Int))),.k 160 (vp xb),.k 161 (po xb 4)] ?_
 refine aT (n:=1) 4 #[vp db,vp sb,vp rb,vi bufs,vi ((rs.length:Int))] hq98_ fun Un Of=>?_
 refine aa (wsq [.m 162 11,.k 163 (.bool false)] ?_)
 refine aa (wcf rfl (wp_skip (aq (aa (wsq [.k 4 (.bool true)] ?_)))))
 refine aa (wp_ret ?_)
 refine bpr (.bool true) (ag results30 rpt) ?_
 obtain⟨fp114_,hr114_⟩:=St.rq (rs:=rs) (told:=told) (p:=5) (rr:=rr) (Of)
 have Og:=St.rf (L:=L) hr114_ (hrs) (hsub)
 obtain⟨fw116_,hw116_⟩:=St.wd Og.u3.c0.u2.u2
 have hE_:dU (L,told) a=(L,told):=by rw[dU,if_neg (by omega),if_neg (by omega),if_pos (by omega)]
 obtain⟨fz_,hz_⟩:=hw116_.wdm (c2:=c+700) (by omega)
 exact⟨rfl,_,by rw[hE_];exact hz_⟩
 have Dj:=beq_eq_false_iff_ne.1 zW
 refine wsq [.k 165 (.bool ((a.what % 10)==6)),.m 164 165] ?_
 refine aa (wbs (fun vw=>?_) fun vw=>?_)
 have Af:=beq_iff_eq.1 vw
 refine wsq [.k 166 (po bP 1)] ?_
 refine am 3 aW ?_
 refine sqp [sRe 168 .i64 a.page 7 (a.page.tmod 7) (rfl),sI 169 ((a.page.tmod 7)+5) (by omega),sJ 170 ((a.page.tmod 7+5)+2) (a.page.tmod 7+7) (by omega) (by omega),sRe 171 .i64 (a.page.tmod 7+7) 7 ((a.page.tmod 7+7) % 7) (Int.tmod_eq_emod_of_nonneg (by omega)),sI 172 (((a.page.tmod 7+7) % 7)-1) (by omega),.m 12 172] ?_
 refine aa (wq ?_)
 obtain⟨nW,hnW⟩:∃z,(a.page.tmod 7+7) % 7-1=z:=⟨_,rfl⟩
 rw[hnW]
 have hnb: -100<=nW/\nW<=100:=by omega
 by_cases hnr:0<=nW/\nW<((5:Nat):Int)
 refine sqs [.m 173 0,.k 174 (vp xb),.k 175 (po xb 1)] ?_
 refine am 0 aW ?_
 refine sqp [.m 177 12] ?_
 refine bF (fun X_=>X_.fp) (vi 0) (fun Gd=>eNi sb db L told 5 (c+4) Gd) 1 aW (by
   refine svA fun g d W X cx=>?_
   refine ak.call (rCF (args:=#[vp sb,vi nW]) cx.sees (aN (cx.ou 176) (cx.ou 177))) ?_
   refine(Eh hnr (CtxV.holdF cx (cx.init 1 _ rfl) rfl) (CtxV.ltF cx (cx.init 1 _ rfl) rfl) hc).mono ?_
   rintro e W1 ⟨rfl,fp4,aM⟩
   refine⟨_,rfl,aI (E:=eNi sb db L told 5 c fps) [eNi sb db L told 5 (c+4) fp4] (cx.init 1 _ rfl) rfl rfl aM (fun f i X' hs hb hv hN=>?_)⟩
   have aH:=(hv 178 rfl).1;have aO:=(hv 178 rfl).2
   exact⟨aH.trans rfl,eR ((List.cons.inj hN).1)⟩) fun Gd Uo Gf=>?_
 refine sqp [.m 13 178] ?_
 refine aa (wq (wsq [.m 179 0,.k 180 (vp xb),.k 181 (vp xb)] ?_))
 refine am 0 Gf ?_
 refine sqk (.bool true) Gf (fun cx=>⟨_,mo (CtxV.holdF cx (cx.init 1 _ rfl) rfl),(av (cx.ou 182))⟩) fun Uq Oh=>?_
 refine sqp [.k 184 (.bool false)] ?_
 refine aa (wcf rfl (wp_skip (aa (wq (wsq [.m 189 12,.k 190 (.bool (decide (nW<0))),.m 191 190] ?_)))))
 refine sqw 191 [192,193] rfl (fun _=>sqp [.m 192 12,.k 193 (.bool (decide (5<=nW)))] sqe) ?_
 have hd147:((decide (nW<0))||(decide (5<=nW)))=false:=(by simp;omega)
 refine sqp [C8 194 (decide (nW<0)) (decide (5<=nW)) false hd147] ?_
 refine aa (wcf rfl (wp_skip (aa (wq ?_))))
 obtain⟨rs,rr,hrs,hsub,ho148_⟩:=Oh.u2.unrf
 obtain⟨QA,qc,TA,tc,hq149_⟩:=ho148_.unrq
 have hrl:rs.length<=1000000:=by have h_:=congrArg List.length hrs;rw[List.length_map] at h_;have:=uw hL hz;omega
 have hrL:∀t∈rs,bt t.r=true:=fun t ht=>hL _ (hrs ▸ List.mem_map.2 ⟨t,ht,rfl⟩)
 refine aB [0,0,2,6,14,0,32,96,224,480,992,2016,0,8160,16352,32766,65535,131071,262143] [[],[],[],[],[4],[],[],[],[4],[],[],[0],[],[1,3],[],[],[],[],[4]] [[],[],[],[],[],[],[],[],[],[],[],[],[],[7],[],[],[],[],[8]] [[],[],[],[],[],[],[],[],[],[],[],[],[],[],[],[],[],[],[4]] [.k 197 (vp xb),.k 198 (vp xb),.k 199 (vp xb),.k 200 (po xb 4),.c 201 (vi safe),.k 202 (vp xb),.k 203 (vp xb),.k 204 (po xb 2),.c 205 (vp rb),.k 206 (vp rb),.k 207 (po rb 1),.c 208 (.slice QA rs.length qc),.k 209 (vi nW),.a 210,.c 211 (vi ((af (rs.map RcT.r) nW).2.1)),.c 212 (vi (max safe ((af (rs.map RcT.r) nW).2.1))),.k 213 (vp xb),.k 214 (po xb 4),.n] (fun ix f d X=>match ix with|0|1|2|3|4|5|6|7|8|9|10|11|12=>True|13=>f 210= .agg #[vi ((af (rs.map RcT.r) nW).1),vi ((af (rs.map RcT.r) nW).2.1),.slice (sA (tg (d 210) 2)) ((af (rs.map RcT.r) nW).2.2.length) (sC (tg (d 210) 2))]/\X 7=eO 9 1 (.slice (sA (tg (d 210) 2)) ((af (rs.map RcT.r) nW).2.2.length) (sC (tg (d 210) 2))) ((af (rs.map RcT.r) nW).2.2.length) ((af (rs.map RcT.r) nW).2.2.map Value.string)|14|15|16|17=>True|18=>X 8=eB xb 34 #[vp db,vp sb,vp rb,vi bufs,vi (max safe ((af (rs.map RcT.r) nW).2.1))]|_=>True) [0,1,2,3,5,6,7,8] [4,8,11,13,14,15,18] [(197,0,18,215)] hq149_ ?_ ?_ ?_
 exact fun ix _ _ _ _ _ _ hs hb hx h=>match ix,h with
 |13,h=>by dsimp only;rw[<-hs 210 rfl,<-hb 210 rfl,<-hx 7 rfl];exact h
 |18,h=>by dsimp only;rw[<-hx 8 rfl];exact h
 |0,_|1,_|2,_|3,_|4,_|5,_|6,_|7,_|8,_|9,_|10,_|11,_|12,_|14,_|15,_|16,_|17,_|_+19,_=>trivial
 refine⟨?_,?_,?_,?_,?_,?_,?_,trivial⟩
 exact xs4 rfl id fun cx=>rL1 (cx.an 3) ((cx.bi 4 rfl).cell 4)
 exact xs4 rfl id fun cx=>rL1 (cx.an 7) ((cx.bi 4 rfl).cell 2)
 exact xs4 rfl id fun cx=>rL1 (cx.an 10) ((cx.bi 0 rfl).cell 1)
 refine svA fun g d W X cx=>?_
 refine ak.call (rCF (args:=#[.slice QA rs.length qc,vi nW]) cx.sees (aN (cx.an 11) (cx.an 12))) ?_
 refine(kP _ _ rs nW _ ⟨At.of_ownN (cx.ri 1 rfl),fun t ht=>dP (CtxV.holdF cx (cx.init 3 _ rfl) rfl) (hsub t ht)⟩ hrl hrL).mono ?_
 rintro e W1 ⟨A4,c4,rfl,ho,hx⟩
 refine⟨_,rfl,bK [eO 9 1 (.slice A4 (af (rs.map RcT.r) nW).2.2.length c4) (af (rs.map RcT.r) nW).2.2.length ((af (rs.map RcT.r) nW).2.2.map Value.string)] rfl rfl hx (one_new (cf ho)) (List.pairwise_singleton _ _) (fun f i X' hs hb hv hN=>?_)⟩
 have aH:=(hv 210 rfl).1;have aO:=(hv 210 rfl).2
 exact⟨aH.trans (by rw[aO];exact rfl),(by rw[aO];exact(List.cons.inj hN).1)⟩
 exact xs4 rfl id fun cx=>l5 rfl (dTn (cx.an 13)).1 (fun _=>by kernel_rfl)
 exact xs4 rfl id fun cx=>sQ rfl (cx.an 4) (cx.an 14) rfl
 refine svA fun g d W X cx=>?_
 exact dVS (n:=1) rfl (cx.an 17) (cx.an 15) cx (cx.init 4 _ rfl) rfl (nle rfl) rfl rfl rfl (fun _ _ _ _ _=>id)
 intro f d X Ur hD AF fr aC
 simp only[exq 7 ((dTn (hD 13 lq)).2),exq 8 ((dTn (hD 18 lq)))] at AF
 simp only[ed 210 ((dTn (hD 13 lq)).1)] at aC
 generalize sA (tg (d 210) 2)=Q8,sC (tg (d 210) 2)=Q9 at AF aC
 clear hD;subst aC;clear f d X
 refine aa (wsq [.m 215 13,.k 216 (.bool false)] ?_)
 refine aa (wcf rfl (wp_skip (aq (aa (wsq [.k 4 (.bool true)] ?_)))))
 refine aa (wp_ret ?_)
 refine bpr (.bool true) (ag results30 rpt) ?_
 obtain⟨fp154_,hr154_⟩:=St.rq (rs:=rs) (told:=told) (p:=5) (rr:=rr) (AF)
 have Oi:=St.rf (L:=L) hr154_ (hrs) (hsub)
 obtain⟨fw156_,hw156_⟩:=St.wd Oi.u2.c0.u2.c0.u1.u2
 have hE_:dU (L,told) a=(L,told):=by rw[dU,if_neg (by omega),if_neg (by omega),if_pos (by omega)]
 obtain⟨fz_,hz_⟩:=hw156_.wdm (c2:=c+700) (by omega)
 exact⟨rfl,_,by rw[hE_];exact hz_⟩
 refine sqs [.m 173 0,.k 174 (vp xb),.k 175 (po xb 1)] ?_
 refine am 0 aW ?_
 refine sqp [.m 177 12] ?_
 refine bF (fun X_=>X_.fp) (vi 22) (fun Gg=>eNi sb db L told 5 (c+4) Gg) 1 aW (by
   refine svA fun g d W X cx=>?_
   refine ak.call (rCF (args:=#[vp sb,vi nW]) cx.sees (aN (cx.ou 176) (cx.ou 177))) ?_
   refine(CF hnb hnr (CtxV.holdF cx (cx.init 1 _ rfl) rfl) (CtxV.ltF cx (cx.init 1 _ rfl) rfl) hc).mono ?_
   rintro e W1 ⟨rfl,fp4,aM⟩
   refine⟨_,rfl,aI (E:=eNi sb db L told 5 c fps) [eNi sb db L told 5 (c+4) fp4] (cx.init 1 _ rfl) rfl rfl aM (fun f i X' hs hb hv hN=>?_)⟩
   have aH:=(hv 178 rfl).1;have aO:=(hv 178 rfl).2
   exact⟨aH.trans rfl,eR ((List.cons.inj hN).1)⟩) fun Gg Us Gh=>?_
 refine sqp [.m 13 178] ?_
 refine aa (wq (wsq [.m 179 0,.k 180 (vp xb),.k 181 (vp xb)] ?_))
 refine am 0 Gh ?_
 refine sqk (.bool true) Gh (fun cx=>⟨_,mo (CtxV.holdF cx (cx.init 1 _ rfl) rfl),(av (cx.ou 182))⟩) fun QO vy=>?_
 refine sqp [.k 184 (.bool false)] ?_
 refine aa (wcf rfl (wp_skip (aa (wq (wsq [.m 189 12,.k 190 (.bool (decide (nW<0))),.m 191 190] ?_)))))
 refine sqw 191 [192,193] rfl (fun _=>sqp [.m 192 12,.k 193 (.bool (decide (5<=nW)))] sqe) ?_
 have hd176:((decide (nW<0))||(decide (5<=nW)))=true:=(by simp;omega)
 refine sqp [C8 194 (decide (nW<0)) (decide (5<=nW)) true hd176] ?_
 refine aa (wct rfl (wsq [.m 195 13,.k 196 (.bool true),.k 4 (.bool true)] ?_))
 refine aa (wp_ret (ai (aY (ai ?_))))
 refine bpr (.bool true) (ag results30 rpt) ?_
 obtain⟨fw180_,hw180_⟩:=St.wd vy.u3.c0
 have hE_:dU (L,told) a=(L,told):=by rw[dU,if_neg (by omega),if_neg (by omega),if_pos (by omega)]
 obtain⟨fz_,hz_⟩:=hw180_.wdm (c2:=c+700) (by omega)
 exact⟨rfl,_,by rw[hE_];exact hz_⟩
 have Af:=beq_eq_false_iff_ne.1 vw
 refine wq (sqr ?_)
 have hd182:((a.what % 10)==7)=true:=(beq_iff_eq.2 (by omega))
 refine sqp [.e 218 (.bool ((a.what % 10)==7)) (.bool true) (congrArg Value.bool hd182),.k 217 (.bool true)] ?_
 refine aa (wct rfl (wsq [.k 219 (po bP 3)] ?_))
 refine am 3 aW ?_
 refine sqp [.k 221 (po bP 3)] ?_
 refine am 3 aW ?_
 refine sqp [.k 223 (vi ((a.item.size:Int)))] ?_
 refine sql (vi (min (a.item.size:Int) 50)) aW (fun cx=>jA rfl (cx.ou 223) (cx.co _) (rfl)) ?_
 refine sql (.string (a.item.extract 0 ((min (a.item.size:Int) 50).toNat))) aW (fun cx=>gJ (l:=(min (a.item.size:Int) 50).toNat) rfl (by kernel_rfl) (cx.ou 220) (cx.ou 224) (by omega) (by omega)) ?_
 refine sqp [.m 14 225] ?_
 refine aa (wq ?_)
 obtain⟨nt,hnt⟩:∃z,ntA a=z:=⟨_,rfl⟩
 have hnz:nt.size<=50:=hnt ▸ yk a
 have hnt2:a.item.extract 0 ((min (a.item.size:Int) 50).toNat)=nt:=hnt
 rw[hnt2]
 refine sqs [.m 226 0,.k 227 (vp xb),.k 228 (po xb 1)] ?_
 refine am 0 aW ?_
 refine sqp [.m 230 14] ?_
 refine bF (fun X_=>X_.fp) (vi ((eG L nt))) (fun Gi=>eNi sb db (ckL L nt) told 5 (c+500) Gi) 1 aW (by
   refine svA fun g d W X cx=>?_
   refine ak.call (rCF (args:=#[vp sb,.string nt]) cx.sees (aN (cx.ou 229) (cx.ou 230))) ?_
   refine(CH nt (CtxV.holdF cx (cx.init 1 _ rfl) rfl) (CtxV.ltF cx (cx.init 1 _ rfl) rfl) hc (by omega)).mono ?_
   rintro e W1 ⟨rfl,fp4,aM⟩
   refine⟨_,rfl,aI (E:=eNi sb db L told 5 c fps) [eNi sb db (ckL L nt) told 5 (c+500) fp4] (cx.init 1 _ rfl) rfl rfl aM (fun f i X' hs hb hv hN=>?_)⟩
   have aH:=(hv 231 rfl).1;have aO:=(hv 231 rfl).2
   exact⟨aH.trans rfl,eR ((List.cons.inj hN).1)⟩) fun Gi Ut Gj=>?_
 refine sqp [.m 15 231] ?_
 refine aa (wsq [.m 232 0,.k 233 (vp xb),.k 234 (po xb 2)] ?_)
 refine am 0 Gj ?_
 refine sqp [.m 236 14] ?_
 refine bF (fun X_=>X_.fp) (vi ((eG L nt))) (fun Gk=>eRf rb (ckL L nt) told 5 Gk) 2 Gj (by
   refine svA fun g d W X cx=>?_
   refine ak.call (rCF (args:=#[vp rb,.string nt]) cx.sees (aN (cx.ou 235) (cx.ou 236))) ?_
   refine(yw rb L told 5 nt _ _ (CtxV.holdF cx (cx.init 2 _ rfl) rfl) (CtxV.ltF cx (cx.init 2 _ rfl) rfl) hL hz (by omega)).mono ?_
   rintro e W1 ⟨rfl,fp4,aM⟩
   refine⟨_,rfl,aI (E:=eRf rb L told 5 fpr) [eRf rb (ckL L nt) told 5 fp4] (cx.init 2 _ rfl) rfl rfl aM (fun f i X' hs hb hv hN=>?_)⟩
   have aH:=(hv 237 rfl).1;have aO:=(hv 237 rfl).2
   exact⟨aH.trans rfl,sK ((List.cons.inj hN).1)⟩) fun Gk Uu Gl=>?_
 refine sqp [.m 16 237] ?_
 refine aa (wq (wsq [.m 238 0,.k 239 (vp xb),.k 240 (vp xb)] ?_))
 refine am 0 Gl ?_
 refine sqk (.bool true) Gl (fun cx=>⟨_,mo (CtxV.holdF cx (cx.init 1 _ rfl) rfl),(av (cx.ou 241))⟩) fun Uv Oj=>?_
 refine sqp [.k 243 (.bool false)] ?_
 refine aa (wcf rfl (wp_skip (aa (wq (wq (sqr ?_))))))
 have hd215:((eG L nt) != (eG L nt))=false:=(by simp)
 refine sqp [.m 252 15,.m 253 16,.e 254 (.bool ((eG L nt) != (eG L nt))) (.bool false) (congrArg Value.bool hd215)] ?_
 refine aa (wcf rfl (wp_skip (aa ?_)))
 obtain⟨rs,rr,hrs,hsub,ho216_⟩:=Oj.u2.unrf
 obtain⟨QA,qc,TA,tc,hq217_⟩:=ho216_.unrq
 refine sqs [.m 255 0,.m 256 0,.k 257 (vp xb),.k 258 (po xb 2)] ?_
 refine am 4 hq217_ ?_
 refine sqp [.k 260 (vp rb),.k 261 (po rb 1)] ?_
 refine am 0 hq217_ ?_
 refine sqp [.k 263 (vi ((rs.length:Int))),.k 264 (vp xb),.k 265 (po xb 4)] ?_
 refine aT (n:=1) 4 #[vp db,vp sb,vp rb,vi bufs,vi ((rs.length:Int))] hq217_ fun Uw Ok=>?_
 refine aq (aa (wsq [.k 4 (.bool true)] ?_))
 refine aa (wp_ret ?_)
 refine bpr (.bool true) (ag results30 rpt) ?_
 obtain⟨fp231_,hr231_⟩:=St.rq (rs:=rs) (told:=told) (p:=5) (rr:=rr) (Ok)
 have Ol:=St.rf (L:=(ckL L nt)) hr231_ (hrs) (hsub)
 obtain⟨fw233_,hw233_⟩:=St.wd Ol.u3.c0.u2.u2
 have hE_:dU (L,told) a=(ckL L nt,told):=by rw[dU,if_neg (by omega),if_neg (by omega),if_neg (by omega),hnt]
 obtain⟨fz_,hz_⟩:=hw233_.wdm (c2:=c+700) (by omega)
 exact⟨rfl,_,by rw[hE_];exact hz_⟩
end
section
open Go.RowKit
noncomputable def jT(s:List RecM×(Int->Bool))(acs:List ActT):List RecM×(Int->Bool):=acs.foldl (fun s a=>if a.what % 10<8 then dU s a else s) s
noncomputable def kq(s:List RecM×(Int->Bool))(acs:List ActT):List RecM×(Int->Bool):=jT s (acs.take 25)
theorem xp{s:List RecM×(Int->Bool)}{acs:List ActT}{i:Nat}{a:ActT}(h:acs[i]? =some a):jT s (acs.take (i+1))=if a.what % 10<8 then dU (jT s (acs.take i)) a else jT s (acs.take i):=by
 rw[List.take_add_one,h,jT,jT,List.foldl_append];rfl
def a0:ActT:=⟨0,0,0,⟨#[]⟩,none,0,0⟩
theorem CC(xb:Nat)(bufs:Int)(L:List RecM)(told:Int->Bool)(c:Nat)(AA:Option Addr)(ac:Nat)(acs:List ActT)(fp:List Nat)(w:World)(hB:(eWd xb bufs L told c fp).holds w)(hlt:∀k∈fp,k<w.heap.size)(hA:∀W,Upd fp w W->At W AA (acs.flatMap acC))(hok:∀a∈acs,ActOk a)(hal:acs.length<=100000000000000)(hc:c<=600000):
  Calls P_ 32 #[po xb 0,.slice AA acs.length ac] w ((fun e w2=>e= .returned (.bool true)/\∃fp2,St w fp [eWd xb bufs (kq (L,told) acs).1 (kq (L,told) acs).2 (c+17500) fp2] w2)):=by
 have st1:St w fp [eWd xb bufs L told c fp] w:=St.lend hB (vX _ _ _ _ _ _) hlt
 go_enter func32,ntmps32
 have aj:=st1
 refine wsq [.k 4 (.bool false)] ?_
 refine aa (wq (wsq [.k 5 (vi 0)] ?_))
 refine aa (wp_block ?_)
 refine aQ (fun t_ mz az W=>∃i:Nat,∃sL:List RecM,∃sT:Int->Bool,∃ci:Nat,∃fpi:List Nat,i<=acs.length/\i<=25/\(sL,sT)=jT (L,told) (acs.take i)/\ci<=c+700*i/\mz=acs.length-i/\az=⟨(ovr (jv az) [(4,4,1,[vi ((i:Int))]),(0,6,26,[])] t_).toArray,[]⟩/\St w fp [eWd xb bufs sL sT ci fpi] W) (acs.length-0) ?_ ?_
 exact⟨0,L,told,c,fp,Nat.zero_le _,Nat.zero_le _,rfl,by omega,rfl,(by kernel_rfl),aj.pk [0]⟩
 rintro n3 a3 W3 ⟨i,sL,sT,ci,fpi,hi,hi25,hsr,hci,rfl,hj_,aU⟩
 refine ovz hj_ fun R0=>?_
 refine wq (wsq [.m 6 5,.m 7 1,.k 8 (vi ((acs.length:Int))),.k 9 (.bool (decide ((i:Int)<(acs.length:Int)))),.m 10 9] ?_)
 refine sqw 10 [11,12] rfl (fun _=>sqp [.m 11 5,.k 12 (.bool (decide ((i:Int)<25)))] sqe) ?_
 refine sqp [sPa 13 (decide ((i:Int)<(acs.length:Int))) (decide ((i:Int)<25))] ?_
 refine aa (wbs (fun jf=>?_) fun jf=>?_)
 have js:=jf
 simp only[zB] at js
 obtain⟨SD,SF⟩:=js
 refine wp_skip (aa (wq (wp_block (wq ?_))))
 obtain⟨a,hai⟩:∃a,acs[i]? =some a:=⟨_,List.getElem?_eq_getElem (by omega)⟩
 have hao:=hok a (List.mem_of_getElem? hai)
 have haw:=hao.what
 by_cases hlt8:a.what % 10<8
 refine sqs [.m 16 1,.m 17 5] ?_
 refine sql (.pointer (some ((ad AA).add (i*5)))) aU (fun cx=>aD (e:=60) (m:=i) (sz:=5) rfl (by kernel_rfl) (by kernel_rfl) (cx.ou 16) (cx.ou 17) (by omega) (by omega) (hA _ cx.upd) (bm (sz:=5) mp (by decide) (by omega))) ?_
 refine sql (.pointer (some ((ad AA).add (i*5+0)))) aU (fun cx=>bn rfl (by kernel_rfl) (cx.ou 18)) ?_
 refine sql (.int .u8 a.what) aU (fun cx=>rL1 (cx.ou 19) (At.eltc (f:=acC) (k:=0) mp (hA _ cx.upd) hai rfl)) ?_
 have hd20:(decide (a.what % 10<8))=true:=(decide_eq_true hlt8)
 refine sqp [sRe 21 .u8 a.what 10 (a.what % 10) (Int.tmod_eq_emod_of_nonneg (by omega)),.e 22 (.bool (decide (a.what % 10<8))) (.bool true) (congrArg Value.bool hd20),.k 23 (.bool true)] ?_
 refine de 23 [24,25,26,27,28,29,30] rfl rfl ?_
 refine sqp [.m 24 0,.m 25 1,.m 26 5] ?_
 refine sql (.pointer (some ((ad AA).add (i*5)))) aU (fun cx=>aD (e:=60) (m:=i) (sz:=5) rfl (by kernel_rfl) (by kernel_rfl) (cx.ou 25) (cx.ou 26) (by omega) (by omega) (hA _ cx.upd) (bm (sz:=5) mp (by decide) (by omega))) ?_
 refine sql (.agg #[.int .u8 a.what,vi a.page,vi a.slot,.string a.item,.slice a.QA a.qn a.qc]) aU (fun cx=>bS (f:=acC) (m:=i) (sz:=5) (off:=0) (n:=5) rfl (by kernel_rfl) (by kernel_rfl) (cx.ou 27) rfl mp (hA _ cx.upd) hai (fun k hk=>match k,hk with|0,_=>rfl|1,_=>rfl|2,_=>rfl|3,_=>rfl|4,_=>rfl|k+5,hk=>absurd hk (by omega))) ?_
 refine bF (fun X_=>X_.fp) (.bool true) (fun DD=>eWd xb bufs ((dU (sL,sT) a).1) ((dU (sL,sT) a).2) (ci+700) DD) 0 aU (by
   refine svA fun g h W X cx=>?_
   refine ak.call (rCF (args:=#[vp xb,.agg #[.int .u8 a.what,vi a.page,vi a.slot,.string a.item,.slice a.QA a.qn a.qc]]) cx.sees (aN (cx.ou 24) (cx.ou 28))) ?_
   refine(J9 xb bufs sL sT ci a _ _ (CtxV.holdF cx (cx.init 0 _ rfl) rfl) (CtxV.ltF cx (cx.init 0 _ rfl) rfl) hao (by omega) hlt8).mono ?_
   rintro e W1 ⟨rfl,fp4,aM⟩
   refine⟨_,rfl,aI (E:=eWd xb bufs sL sT ci fpi) [eWd xb bufs ((dU (sL,sT) a).1) ((dU (sL,sT) a).2) (ci+700) fp4] (cx.init 0 _ rfl) rfl rfl aM (fun d b X' hs hb hv hN=>?_)⟩
   have aH:=(hv 29 rfl).1;have aO:=(hv 29 rfl).2
   exact⟨aH.trans rfl,th ((List.cons.inj hN).1)⟩) fun DD xz d6=>?_
 refine sqp [.k 30 (.bool false)] ?_
 refine sqp [.k 31 (.bool false)] ?_
 refine aa (wcf rfl (wp_skip (aq (aa (sqs [.m 14 5,sI 15 ((i:Int)+1) (by omega),.m 5 15] ?_)))))
 refine aa ?_
 refine⟨acs.length-((i+1)),by omega,?_⟩
 exact⟨(i+1),(dU (sL,sT) a).1,(dU (sL,sT) a).2,(ci+700),DD,by omega,by omega,(by rw[xp hai,if_pos hlt8,<-hsr]),by omega,rfl,(by kernel_rfl),d6.pk [0]⟩
 refine sqs [.m 16 1,.m 17 5] ?_
 refine sql (.pointer (some ((ad AA).add (i*5)))) aU (fun cx=>aD (e:=60) (m:=i) (sz:=5) rfl (by kernel_rfl) (by kernel_rfl) (cx.ou 16) (cx.ou 17) (by omega) (by omega) (hA _ cx.upd) (bm (sz:=5) mp (by decide) (by omega))) ?_
 refine sql (.pointer (some ((ad AA).add (i*5+0)))) aU (fun cx=>bn rfl (by kernel_rfl) (cx.ou 18)) ?_
 refine sql (.int .u8 a.what) aU (fun cx=>rL1 (cx.ou 19) (At.eltc (f:=acC) (k:=0) mp (hA _ cx.upd) hai rfl)) ?_
 have hd40:(decide (a.what % 10<8))=false:=(decide_eq_false hlt8)
 refine yA [sRe 21 .u8 a.what 10 (a.what % 10) (Int.tmod_eq_emod_of_nonneg (by omega)),.e 22 (.bool (decide (a.what % 10<8))) (.bool false) (congrArg Value.bool hd40),.k 23 (.bool false)] 23 [24,25,26,27,28,29,30] ?_
 refine sqp [.k 31 (.bool false)] ?_
 refine aa (wcf rfl (wp_skip (aq (aa (sqs [.m 14 5,sI 15 ((i:Int)+1) (by omega),.m 5 15] ?_)))))
 refine aa ?_
 refine⟨acs.length-((i+1)),by omega,?_⟩
 exact⟨(i+1),sL,sT,ci,fpi,by omega,by omega,(by rw[xp hai,if_neg hlt8,<-hsr]),by omega,rfl,(by kernel_rfl),aU.pk [0]⟩
 have js:=jf
 simp only[zB] at js
 refine wp_exit (al (al (bf (aa (wsq [.k 4 (.bool true)] ?_)))))
 refine aa (wp_ret ?_)
 refine bpr (.bool true) (ag results32 rpt) ?_
 have hr9:kq (L,told) acs=(sL,sT):=by rw[hsr,kq];congr 1;have h_:=jf;simp at h_;by_cases h25:i=25;rw[h25];rw[List.take_of_length_le (by omega),List.take_of_length_le (by omega)]
 obtain⟨fz_,hz_⟩:=aU.wdm (c2:=c+17500) (by omega)
 exact⟨rfl,_,by rw[hr9];exact hz_⟩
theorem FC(q:PgS)(A B:Option Addr)(c d:Nat)(w:World)(hA:At w A (q.2.2.map Value.string))(hB:At w B (q.2.2.map Value.string))(hl:q.2.2.length<=100000):
  Calls P_ 35 #[.agg #[.int .i64 q.1,.int .i64 q.2.1,.slice A q.2.2.length c],.agg #[.int .i64 q.1,.int .i64 q.2.1,.slice B q.2.2.length d]] w (Ret (.bool true) w):=by
 go_enter func35,ntmps35
 have aj:=St.start w
 refine wq (sqr ?_)
 refine bX #[vi q.1,vi q.2.1,.slice A q.2.2.length c] aj fun bw W1 ax=>?_
 refine bX #[vi q.1,vi q.2.1,.slice B q.2.2.length d] ax fun cY W2 bA=>?_
 refine sqp [.k 4 (.bool false)] ?_
 refine aa (wq (wsq [.k 6 (vp bw)] ?_))
 refine am 0 bA ?_
 refine sqp [.k 8 (vp cY)] ?_
 refine am 1 bA ?_
 have hd9:(q.1 != q.1)=false:=(by simp)
 refine sqp [.e 10 (.bool (q.1 != q.1)) (.bool false) (congrArg Value.bool hd9),.k 11 (.bool false)] ?_
 refine de 11 [12,13,14,15,16] rfl rfl ?_
 refine sqp [.k 12 (po bw 1)] ?_
 refine am 0 bA ?_
 refine sqp [.k 14 (po cY 1)] ?_
 refine am 1 bA ?_
 have hd16:(q.2.1 != q.2.1)=false:=(by simp)
 refine sqp [.e 16 (.bool (q.2.1 != q.2.1)) (.bool false) (congrArg Value.bool hd16)] ?_
 refine sqp [.k 17 (.bool false),.k 18 (.bool false)] ?_
 refine de 18 [19,20,21,22,23,24,25] rfl rfl ?_
 refine sqp [.k 19 (po bw 2)] ?_
 refine am 0 bA ?_
 refine sqp [.k 21 (vi ((q.2.2.length:Int))),.k 22 (po cY 2)] ?_
 refine am 1 bA ?_
 have hd26:((q.2.2.length:Int) != (q.2.2.length:Int))=false:=(by simp)
 refine sqp [.k 24 (vi ((q.2.2.length:Int))),.e 25 (.bool ((q.2.2.length:Int) != (q.2.2.length:Int))) (.bool false) (congrArg Value.bool hd26)] ?_
 refine sqp [.k 26 (.bool false)] ?_
 refine aa (wcf rfl (wp_skip (aa (wq (wsq [.k 5 (vi 0)] ?_)))))
 refine aa (wp_block ?_)
 refine aQ (fun t_ mz az W=>∃j:Nat,j<=q.2.2.length/\mz=q.2.2.length-j/\az=⟨(ovr (jv az) [(4,4,1,[vi ((j:Int))]),(21,27,18,[])] t_).toArray,[]⟩/\St w [] [eB bw 48 #[vi q.1,vi q.2.1,.slice A q.2.2.length c],eB cY 48 #[vi q.1,vi q.2.1,.slice B q.2.2.length d]] W) (q.2.2.length-0) ?_ ?_
 exact⟨0,Nat.zero_le _,rfl,(by kernel_rfl),bA.pk [0,1]⟩
 rintro U8 a29 Jo ⟨j,hj,rfl,hj_,iB⟩
 refine ovz hj_ fun Ux=>?_
 refine wq (wsq [.m 27 5,.k 28 (po bw 2)] ?_)
 refine am 0 iB ?_
 refine sqp [.k 30 (vi ((q.2.2.length:Int))),.k 31 (.bool (decide ((j:Int)<(q.2.2.length:Int))))] ?_
 refine aa (wds (fun tN vL=>?_) fun tN vL=>?_)
 refine wp_skip (aa (wq (wp_block (wq ?_))))
 have hd37:(!((q.2.2.getD j ByteArray.empty).toList==(q.2.2.getD j ByteArray.empty).toList))=false:=(by simp)
 refine bG [0,1,0,7,15,0,32,0,224,480,1023] [[],[0],[],[],[],[],[1]] [.k 34 (po bw 2),.c 35 (.slice A q.2.2.length c),.k 36 (vi ((j:Int))),.c 37 (.pointer (some ((ad A).add j))),.c 38 (.string (q.2.2.getD j ByteArray.empty)),.k 39 (po cY 2),.c 40 (.slice B q.2.2.length d),.k 41 (vi ((j:Int))),.c 42 (.pointer (some ((ad B).add j))),.c 43 (.string (q.2.2.getD j ByteArray.empty)),.e 44 (.bool (!((q.2.2.getD j ByteArray.empty).toList==(q.2.2.getD j ByteArray.empty).toList))) (.bool false) (congrArg Value.bool hd37)] [0,1] [1,3,4,6,8,9] [(34,0,11,45)] iB ?_ fun xB dX=>?_
 refine⟨?_,?_,?_,?_,?_,?_,trivial⟩
 exact xs4 rfl id fun cx=>rL1 (cx.an 0) ((cx.bi 0 rfl).cell 2)
 exact xs4 rfl id fun cx=>bz (e:=9) (m:=j) rfl (by kernel_rfl) (by kernel_rfl) (cx.an 1) (cx.an 2) (by omega) (by omega) (hA.ext cx.upd.to_ext) (by simp)
 exact xs4 rfl id fun cx=>ce rfl (by kernel_rfl) (cx.an 3) (At.cellAd (hA.ext cx.upd.to_ext) (jz (by omega)))
 exact xs4 rfl id fun cx=>rL1 (cx.an 5) ((cx.bi 1 rfl).cell 2)
 exact xs4 rfl id fun cx=>bz (e:=9) (m:=j) rfl (by kernel_rfl) (by kernel_rfl) (cx.an 6) (cx.an 7) (by omega) (by omega) (hB.ext cx.upd.to_ext) (by simp)
 exact xs4 rfl id fun cx=>ce rfl (by kernel_rfl) (cx.an 8) (At.cellAd (hB.ext cx.upd.to_ext) (jz (by omega)))
 refine aa (wcf rfl (wp_skip (aq (aa (sqs [.m 32 5,sI 33 ((j:Int)+1) (by omega),.m 5 33] ?_)))))
 refine aa ?_
 refine⟨q.2.2.length-((j+1)),by omega,?_⟩
 exact⟨(j+1),by omega,rfl,(by kernel_rfl),dX.pk [0,1]⟩
 refine wp_exit (al (al (bf (aa (wsq [.k 4 (.bool true)] ?_)))))
 exact aa (wp_ret (bpr (.bool true) (ag results35 rpt) (Ret.of rfl iB.ext)))
end
section
open Go.RowKit
section
variable{S S2:StM}{L:List RecM}{told:Int->Bool}{p c:Nat}{note:ByteArray}
structure CkS (S:StM) (L:List RecM) (told:Int->Bool) (p c:Nat):Prop where
 ni:Nice S L told p c
 wh:Whole S
 fl:S.D.fl=S.D.log.size
theorem CkQ.cks{c':Nat}(h:CkQ S note S2 0)(hN:Nice S L told p c)(ho:SOk S2 c'):eG L note=0/\CkS S2 (L++[au note]) told p c':=by
 obtain⟨a,b⟩:=hN.check h ho
 have a:=a.symm
 have e:ckL L note=L++[au note]:=if_pos a
 rw[e] at b
 suffices h9:Whole S2/\S2.D.fl=S2.D.log.size from⟨a,b,h9.1,h9.2⟩
 generalize he:(0:Int)=er at h
 cases h with
 |arg h1=>cases he
 |full h1 hf=>cases he
 |cl h1 hf hns hc h2=>exact absurd he.symm h2
 |sync h1 hf hns hc h2=>exact absurd he.symm h2
 |app h1 hf hns hc h2 h3=>exact absurd he.symm h3
 |flush h1 hf hns hc h2 h3 h4=>exact absurd he.symm h4
 |ok h1 hf hns hc h2 h3 h4=>
  rename_i q ns S1 S3
  obtain⟨_,_,_,_,w1⟩:=CM hN.ok hN.wi hns hc h2
  have s:=jn (dB S1 (opD S1.D 0 syD).1) (rcI (au note))
  rw[h3] at s
  obtain⟨_,s2,_⟩:=s.ok rfl
  have e3:S3.L=S1.L++[au note]:=by show S3.recs.map RcT.r= _;rw[s2,List.map_append];rfl
  have e4:=(mL h4).2.2
  refine⟨fun n x hx=>?_,by show (opD S3.D 0 flD).1.fl=(opD S3.D 0 flD).1.log.size;rw[e4];rfl⟩
  have hx:(opD S3.D 0 flD).1.pgs[n]? =some x:=hx
  rw[show (opD S3.D 0 flD).1.pgs=S3.D.pgs by rw[e4];rfl,s.pgs] at hx
  obtain⟨g1,g2⟩:=w1 n x hx
  have g2:rdP x.safe.1=af S1.L (n:Int):=g2
  refine⟨g1,?_⟩
  show _=af S3.L (n:Int)
  rw[e3,gk,g2];rfl
structure DkC (D:DkM) (L:List RecM) (p:Nat):Prop where
 len:D.pgs.length=p
 pgs:∀(n:Nat) x,D.pgs[n]? =some x->x.ws=[]/\rdP x.safe.1=af L (n:Int)
 log:D.log=dZ L
 fl:D.fl=D.log.size
 off:D.off=false
 recs:∀r∈L,bt r=true
 lsz:D.log.size<=1048576
theorem CkS.crash(h:CkS S L told p c)(hc:CrD S.D D):DkC D L p:=by
 have eL:=h.ni.eL
 obtain⟨k,k1,k2,k3,k4⟩:=hc.log
 have hk:k=S.D.log.size:=by have:=h.fl;omega
 have e:D.log=S.D.log:=by
  rw[k3,hk];apply go
  rw[eh,List.drop_zero,Nat.sub_zero,List.take_of_length_le (by rw[bO];exact Nat.le_refl _)]
 refine⟨hc.len.trans h.ni.ep,fun n y hy=>?_,by rw[e,h.ni.ok.log,eL],by rw[k4,hk,e],hc.off,fun r hr=>h.ni.ok.recs r (by rw[eL];exact hr),by rw[e];exact h.ni.ok.lsz⟩
 obtain⟨x,hx⟩:∃x,S.D.pgs[n]? =some x:=⟨_,List.getElem?_eq_getElem (by rw[<-hc.len];exact(List.getElem?_eq_some_iff.1 hy).1)⟩
 obtain⟨r1,u,v,hu,hv,e1,e2⟩:=hc.pgs n x y hx hy
 obtain⟨w1,w2⟩:=h.wh n x hx
 have hu:u=x.safe:=by simpa[w1] using hu
 have hv:v=x.safe:=by simpa[w1] using hv
 subst hu hv
 refine⟨r1,?_⟩
 rw[LJ y.safe.2 x.safe.2 e1 e2,w2,eL]
theorem DkC.open{bufs:Int}{R:StM ⊕ DkM}{er:Int}{L0:List RecM}(h:DkC D (L0++[au note]) p)(ho:OpnR D bufs (L0++[au note]) R er)(hb:1<=bufs/\bufs<=64):er=0/\∃S,R= .inl S/\S.L=L0++[au note]/\S.frm=(L0.length:Int)+1:=by
 have hs:¬szF (L0++[au note])<D.log.size:=by rw[h.log,cj];exact Nat.lt_irrefl _
 have h1:fN D (L0++[au note])=(D,0):=if_neg hs
 have hf:be (L0++[au note])=L0.length+1:=by rw[fc,if_pos (show (au note).kind=9 from rfl)]
 have hd:(L0++[au note]).drop (be (L0++[au note]))=[]:=List.drop_of_length_le (by rw[hf,List.length_append];exact Nat.le_refl _)
 cases ho with
 |bufs h2=>exact absurd hb h2
 |off _ h2=>rw[h.off] at h2;cases h2
 |form _ _ h2=>rw[hf] at h2;omega
 |cut _ _ _ h2=>rw[h1] at h2;exact absurd rfl h2
 |bad _ _ _ _ rs hrs hr he=>
  rw[hd] at hr
  cases hr with
  |nil=>exact absurd rfl he
 |ok _ _ _ _ rs hrs hr=>
  rw[hd] at hr
  refine⟨rfl,_,rfl,?_⟩
  cases hr with
  |nil=>exact⟨hrs,by show ((be _:Nat):Int)= _;rw[hf];omega⟩
end
theorem ue(r:RecM):(aA r).size<=30+405*r.eds.length+r.note.size:=by
 by_cases h:bt r=true
 rw[jj h,aw,if_pos h]
 have h1:=d4 h
 have h2:=jG (fun e he=>dn (h1.eds e he)) (hdB r)
 rw[gU] at h2
 rw[gm]
 simp only[List.map_cons,List.map_nil,List.sum_cons,List.sum_nil,gA,gm,aE _ 1 (by decide)]
 omega
 rw[aA,if_neg h];exact Nat.zero_le _
theorem Iw(L:List RecM)(os:List Int):szF (dy L os)<=542*os.length:=by
 have h:∀ns:List Int,szF (ns.map fun n=>(⟨8,0,n,[],aG (af L n)⟩:RecM))<=542*ns.length:=by
  intro ns
  induction ns with
  |nil=>exact Nat.zero_le _
  |cons n ns ih=>
   rw[List.map_cons,mF,List.length_cons]
   have h1:=ue ⟨8,0,n,[],aG (af L n)⟩
   have h2:=cR (fa L n)
   dsimp only[List.length_nil] at h1
   omega
 have h2:=h (os.filter fun n=>!eT L n)
 have h3:=List.length_filter_le (fun n=>!eT L n) os
 unfold dy
 omega
theorem MC(s:List RecM×(Int->Bool))(a:ActT):szF (dU s a).1<=szF s.1+2200:=by
 have he:(b9 a).eds.length<=2:=by
  show (dR a).length<=2
  unfold dR
  split<;>simp
 unfold dU
 split
 show szF (rfD 5 s.1 s.2 (b9 a)).1<= _
 unfold rfD
 split
 show szF (rfL s.1 (b9 a))<= _
 have h1:=Iw s.1 (ck (b9 a).eds)
 have h2:=jE (b9 a).eds
 have h3:=ue (b9 a)
 have h4:(b9 a).note.size=0:=rfl
 rw[rfL,kA]
 have h5:szF (s.1++dy s.1 (ck (b9 a).eds))=szF s.1+szF (dy s.1 (ck (b9 a).eds)):=by simp[szF]
 omega
 exact Nat.le_add_right _ _
 split
 exact Nat.le_add_right _ _
 split
 exact Nat.le_add_right _ _
 show szF (ckL s.1 (ntA a))<= _
 unfold ckL
 split
 rw[kA]
 have h1:=ue (au (ntA a))
 have h2:=yk a
 have h3:(au (ntA a)).eds.length=0:=rfl
 have h4:(au (ntA a)).note.size=(ntA a).size:=rfl
 omega
 exact Nat.le_add_right _ _
theorem LF(l:List ActT):∀s:List RecM×(Int->Bool),szF (jT s l).1<=szF s.1+2200*l.length:=by
 induction l with
 |nil=>intro s;exact Nat.le_refl _
 |cons a l ih=>
  intro s
  have h:=ih (if a.what % 10<8 then dU s a else s)
  have h2:szF (if a.what % 10<8 then dU s a else s).1<=szF s.1+2200:=by
   split
   exact MC s a
   exact Nat.le_add_right _ _
  have h3:jT s (a::l)=jT (if a.what % 10<8 then dU s a else s) l:=rfl
  rw[h3,List.length_cons]
  omega
theorem Kh(acs:List ActT){note:ByteArray}(h:note.size<=100):eG (kq ([au bgS],fun _=>false) acs).1 note=0:=by
 have h1:=LF (acs.take 25) ([au bgS],fun _=>false)
 have h2:(acs.take 25).length<=25:=by rw[List.length_take];omega
 have h3:=ue (au note)
 have h4:=ue (au bgS)
 have h5:szF [au bgS]=(aA (au bgS)).size:=y8 _
 have h6:(au bgS).note.size=5:=rfl
 have h7:(au bgS).eds.length=0:=rfl
 have h8:(au note).eds.length=0:=rfl
 have h9:(au note).note.size=note.size:=rfl
 have h1:szF (kq ([au bgS],fun _=>false) acs).1<=szF [au bgS]+2200*(acs.take 25).length:=h1
 rw[eG,if_neg (by omega),if_neg (by omega)]
end
section
open Go.RowKit
def fg:ByteArray:=⟨#[110,111,119]⟩
theorem LI(l:List ActT):∀s:List RecM×(Int->Bool),(∀r∈s.1,r.kind=8->r.note.size=512)->(jT s l).1.length<=s.1.length+3*l.length/\∀r∈(jT s l).1,r.kind=8->r.note.size=512:=by
 have hs:∀(s:List RecM×(Int->Bool)) (a:ActT),(∀r∈s.1,r.kind=8->r.note.size=512)->(dU s a).1.length<=s.1.length+3/\∀r∈(dU s a).1,r.kind=8->r.note.size=512:=fun s a h=>by
  unfold dU
  split
  show (rfD 5 s.1 s.2 (b9 a)).1.length<= _/\∀r∈(rfD 5 s.1 s.2 (b9 a)).1,_
  unfold rfD
  split
  show (rfL s.1 (b9 a)).length<= _/\∀r∈rfL s.1 (b9 a),_
  have he:(b9 a).eds.length<=2:=by
   show (dR a).length<=2
   unfold dR
   split<;>simp
  have h2:=jE (b9 a).eds
  have h3:=List.length_filter_le (fun n=>!eT s.1 n) (ck (b9 a).eds)
  refine⟨?_,fun r hr h8=>?_⟩
  rw[rfL,dy,List.length_append,List.length_append,List.length_map,List.length_singleton];omega
  rw[rfL] at hr
  rcases List.mem_append.1 hr with hr|hr
  rcases List.mem_append.1 hr with hr|hr
  exact h r hr h8
  obtain⟨_,_,n,_,_,rfl⟩:=rR r hr
  exact cR (fa _ _)
  rw[List.mem_singleton.1 hr] at h8;cases h8
  exact⟨Nat.le_add_right _ _,h⟩
  split
  exact⟨Nat.le_add_right _ _,h⟩
  split
  exact⟨Nat.le_add_right _ _,h⟩
  show (ckL s.1 (ntA a)).length<= _/\∀r∈ckL s.1 (ntA a),_
  unfold ckL
  split
  refine⟨by rw[List.length_append,List.length_singleton];omega,fun r hr h8=>?_⟩
  rcases List.mem_append.1 hr with hr|hr
  exact h r hr h8
  rw[List.mem_singleton.1 hr] at h8;cases h8
  exact⟨Nat.le_add_right _ _,h⟩
 induction l with
 |nil=>intro s h;exact⟨Nat.le_refl _,h⟩
 |cons a l ih=>
  intro s h
  have h1:(if a.what % 10<8 then dU s a else s).1.length<=s.1.length+3/\∀r∈(if a.what % 10<8 then dU s a else s).1,r.kind=8->r.note.size=512:=by
   split
   exact hs s a h
   exact⟨Nat.le_add_right _ _,h⟩
  obtain⟨a1,a2⟩:=ih _ h1.2
  exact⟨by rw[List.length_cons];have:(jT s (a::l)).1.length=(jT (if a.what % 10<8 then dU s a else s) l).1.length:=rfl;omega,a2⟩
theorem Ma(acs:List ActT):(kq ([au bgS],fun _=>false) acs).1.length<=76/\∀r∈(kq ([au bgS],fun _=>false) acs).1,r.kind=8->r.note.size=512:=by
 have h:=LI (acs.take 25) ([au bgS],fun _=>false) fun r hr h8=>by rw[List.mem_singleton.1 hr] at h8;cases h8
 have h2:(acs.take 25).length<=25:=by rw[List.length_take];omega
 refine⟨Nat.le_trans h.1 ?_,h.2⟩
 show 1+3*(acs.take 25).length<=76
 omega
def LsS(L:List RecM)(note:ByteArray)(S:StM):Prop:=S.L=L++[au note]/\S.frm=(L.length:Int)+1
theorem CkS.ls{S:StM}{note:ByteArray}(h:CkS S (L++[au note]) told p c):LsS L note S:=⟨h.ni.eL,by rw[h.ni.wi.frm,h.ni.eL,fc,if_pos (show (au note).kind=9 from rfl)];omega⟩
section
variable{sb db:Nat}{L:List RecM}{note:ByteArray}{told:Int->Bool}{p c:Nat}{fp:List Nat}{w:World}{Φ:StM->Prop}
theorem Lj(hB:(eNi sb db L told p c fp).holds w)(hlt:∀k∈fp,k<w.heap.size)(hc:c<=800000)(hn:note.size<=9000000)(h0:eG L note=0):
  Calls P_ 28 #[po sb 0,.string note] w
   (fun e w'=>e= .returned (.int .i64 0)/\∃fp',St w fp [eSx sb db (fun S=>CkS S (L++[au note]) told p (c+500)) fp'] w'):=by
 obtain⟨S,hN,hS⟩:=hB
 refine(tU sb db S note c fp w hS hlt hN.ok hc hn).mono ?_
 rintro e w' ⟨er,rfl,fp',hs⟩
 obtain⟨S2,h1,h2⟩:=St.sxe (L1:=[]) (L2:=[]) hs
 have h3:=(hN.toNice.check h1 h2).1
 rw[h0] at h3
 subst h3
 exact⟨rfl,fp',St.sxm (L1:=[]) (L2:=[]) hs fun S2 h=>(h.1.cks hN.toNice h.2).2⟩
theorem Bg(hB:(eSx sb db Φ fp).holds w)(hi:∀S,Φ S->LsS L note S)(hl:L.length<=1000000):Calls P_ 25 #[po sb 0] w (Ret (.string note) w):=by
 obtain⟨S,h,hS⟩:=hB
 obtain⟨h1,h2⟩:=hi S h
 have h3:(S.recs.map RcT.r)[L.length]? =some (au note):=by
  have:S.recs.map RcT.r=L++[au note]:=h1
  rw[this,List.getElem?_append_right (Nat.le_refl _),Nat.sub_self];rfl
 rw[List.getElem?_map] at h3
 obtain⟨rt,h4,h5⟩:=Option.map_eq_some_iff.1 h3
 have h6:=xv sb db S L.length rt w (j7 hS) h2 h4 (by have:=congrArg List.length h1;rw[List.length_append] at this;have h7:S.L.length=S.recs.length:=List.length_map ..;simp only[List.length_singleton] at this;omega)
 rw[h5] at h6;exact h6
theorem KM(hB:(eSx sb db Φ fp).holds w)(hi:∀S,Φ S->LsS L note S):Calls P_ 45 #[po sb 0] w (Ret (.int .i64 ((L.length:Int)+1)) w):=by
 obtain⟨S,h,hS⟩:=hB
 have h1:=wK sb db S w (j7 hS)
 rw[(hi S h).2] at h1;exact h1
theorem BH(hB:(eSx sb db Φ fp).holds w)(hi:∀S,Φ S->LsS L note S):Calls P_ 23 #[po sb 0] w (Ret (.int .i64 ((L.length:Int)+1)) w):=by
 obtain⟨S,h,hS⟩:=hB
 have h1:=Fo sb db S w (j7 hS)
 have e:(S.recs.length:Int)=(L.length:Int)+1:=by
  have:=congrArg List.length (hi S h).1
  rw[List.length_append] at this
  have h7:S.L.length=S.recs.length:=List.length_map ..
  simp only[List.length_singleton] at this;omega
 rw[e] at h1;exact h1
theorem CY(hB:(eSx sb db (fun S=>CkS S (L++[au note]) told p c) fp).holds w):Calls P_ 26 #[po sb 0] w (Ret (.int .i64 ((L.length:Int)+1)) w):=by
 obtain⟨S,h,hS⟩:=hB
 have hr:=h.ni.ok.recs_len
 have h7:S.L.length=S.recs.length:=List.length_map ..
 have h1:=qA sb db S w (j7 hS) (by omega) (by have:=h.ni.ok.fl;have:=h.ni.ok.lsz;omega)
 have e:(S.F:Int)=(L.length:Int)+1:=by
  have h2:S.F=S.L.length:=H1 _ (by rw[h.fl,h.ni.ok.log,cj];exact Nat.le_refl _)
  rw[h2,h.ni.eL,List.length_append,List.length_singleton];omega
 rw[e] at h1;exact h1
def eDc(db:Nat)(Ψ:DkM->Prop)(fp:List Nat):Ent:=⟨fp,fun W=>∃D,Ψ D/\(eDk db D fp).holds W⟩
theorem J3(db:Nat)(Ψ:DkM->Prop)(fp:List Nat):(eDc db Ψ fp).loc:=fun W W' hk h=>let ⟨D,a,b⟩:=h;⟨D,a,dm db D fp W W' hk b⟩
theorem St.ckD{bor:List Nat}{R:List Ent}(h:St w0 bor (eSx sb db Φ fp::R) W):∃S fpd,Φ S/\St w0 bor (eDk db S.D fpd::R) W:=by
 have h1:=St.unsx (h.perm (List.perm_append_singleton _ R).symm)
 obtain⟨S,hS,h2⟩:=h1
 obtain⟨fpd,h3⟩:=h2.dkOf
 exact⟨S,fpd,hS,h3.perm (List.perm_append_singleton _ R)⟩
theorem Fs{bufs:Int}(hB:(eDk db D fp).holds w)(hlt:∀k∈fp,k<w.heap.size)(hD:DkC D (L++[au note]) p)(hp:p<=400)(hl:L.length<=1000)(h8:∀r∈L,r.kind=8->r.note.size=512)(hb:1<=bufs/\bufs<=64):
  Calls P_ 18 #[po db 0,.int .i64 bufs] w (fun e w'=>∃sb,e= .returned (.tuple #[po sb 0,.int .i64 0])/\∃fp',St w fp [eSx sb db (LsS L note) fp'] w'):=by
 refine(wT db D bufs (L++[au note]) ⟨#[]⟩ 0 fp w hB hlt (by rw[jW];exact hD.log) hD.recs (yB hD.log) hD.lsz (by rw[hD.fl];exact Nat.le_refl _) (by rw[hD.len];exact hp) (fun x hx=>by
  obtain⟨n,hn,rfl⟩:=List.mem_iff_getElem.1 hx
  rw[(hD.pgs n _ (List.getElem?_eq_getElem hn)).1];exact Nat.le_refl _) (by rw[List.length_append,List.length_singleton];omega) (fun r hr hk=>(List.mem_append.1 hr).elim (fun h=>h8 r h hk) fun h=>by rw[List.mem_singleton.1 h] at hk;cases hk)).mono ?_
 rintro e w' ⟨v,er,rfl,fp',hs⟩
 obtain⟨sb,R,h1,h2,h3⟩:=(hs.ok (eOx db D bufs (L++[au note]) v er fp') (by simp)).holds
 obtain⟨rfl,S,rfl,h4,h5⟩:=hD.open h1 hb
 subst h2
 exact⟨sb,rfl,fp',St.repl (L1:=[]) (L2:=[]) hs rfl (fun _=>⟨S,⟨h4,h5⟩,h3⟩) (rV _ _ _ _)⟩
end
theorem OC{A:Option Addr}{l:List Int}(h:At w0 A (l.map (Value.int .i64))):∃G:KpG,(∀x∈G,w0.heap[x.1]? =some x.2)/\qf G A (l.map (Value.int .i64)):=by
 cases A with
 |none=>exact⟨[],(fun x hx=>by cases hx),fun W _=>by have:=wa h;rw[this];exact fun j u hj=>by cases hj⟩
 |some ad=>
  cases l with
  |nil=>exact⟨[],(fun x hx=>by cases hx),fun W _ j u hj=>by cases hj⟩
  |cons x l=>
   obtain⟨a,e,hlt,_⟩:=h 0 _ rfl
   injection e with e;subst e
   refine⟨[(ad.block,w0.heap[ad.block])],fun y hy=>by rw[List.mem_singleton.1 hy];exact Array.getElem?_eq_getElem hlt,fun W hW j u hj=>?_⟩
   have h1:=hW (ad.block,w0.heap[ad.block]) (by simp)
   obtain⟨b,e2,h2,h3⟩:=h j u hj
   injection e2 with e2;subst e2
   refine⟨ad,rfl,(Array.getElem?_eq_some_iff.1 h1).1,?_⟩
   unfold World.cell? at h3 |-
   rw[nF] at h3 |-
   rw[h1]
   rw[Array.getElem?_eq_getElem hlt] at h3
   exact h3
end
section
open Go.RowKit
theorem Hb{fp:List Nat}{n:Nat}(h:n<p)(hp:p<=400)(hB:(eNi sb db L told p c fp).holds w)(hlt:∀k∈fp,k<w.heap.size)(hc:c<=800000):
  Calls P_ 21 #[po sb 0,.int .i64 (n:Int)] w
   (fun e w'=>∃A cc,e= .returned (.tuple #[.agg #[.int .i64 (af L (n:Int)).1,.int .i64 (af L (n:Int)).2.1,.slice A (af L (n:Int)).2.2.length cc],.bool true])/\∃fp',St w fp [eNi sb db L told p (c+3) fp',eO 9 1 (.slice A (af L (n:Int)).2.2.length cc) (af L (n:Int)).2.2.length ((af L (n:Int)).2.2.map Value.string)] w'):=by
 have h1:=xr (n:Int) hB hlt hc (by constructor<;>omega)
 have e1:pgC L p (n:Int)=af L (n:Int):=if_pos ⟨by omega,by omega⟩
 rw[e1,decide_eq_true (show 0<=(n:Int)/\(n:Int)<(p:Int) by omega)] at h1
 exact h1
theorem GU(L:List RecM)(n:Int):(af L n).2.2.length<=100000:=by have:=(cT (fa L n).1).2.2.1.1;omega
end
section
open Go.RowKit
theorem HE(b:Nat)(D:DkM)(QA:Option Addr)(qs:List Int)(qc:Nat)(G:KpG)(fp:List Nat)(w:World)(hB:(eDk b D fp).holds w)(hlt:∀k∈fp,k<w.heap.size)(hws:∀x∈D.pgs,x.ws=[])(hn:D.pgs.length<=400)(hfl:D.fl<=D.log.size)(hz:D.log.size<=10000000)(hG:∀x∈G,w.heap[x.1]? =some x.2)(hGn:∀x∈G,x.1∉fp)(hq:qf G QA (qs.map (Value.int .i64)))(hqc:qs.length<=qc):
  Calls P_ 33 #[po b 0,.slice QA qs.length qc] w (EX b D fp w):=by
 have st1:=St.lend hB (dm _ _ _) hlt
 obtain⟨PA,Pc,GA,gc,Ps,Qs,hps,hsub,hfp,hap,hall⟩:=hB
 have st0:=St.unpack st1 hfp hall hap
 have hgc:D.log.size<=gc:=Et (hall (eO 5 1 (.slice GA D.log.size gc) D.log.size ((ba D.log).map (Value.int .u8))) (by simp[dkL])).1
 subst hsub
 have hPl:Qs.length=D.pgs.length:=by rw[<-hps,List.length_map]
 obtain⟨Ps,rfl⟩:∃z,z=Qs:=⟨_,rfl⟩
 have hw0:∀t∈Ps,t.ws=[]:=fun t ht=>hws (dV t) (by rw[<-hps];exact List.mem_map.2 ⟨t,ht,rfl⟩)
 have st2:St w (G.map Prod.fst++fp) [eB b 100 #[.slice PA D.pgs.length Pc,.slice GA D.log.size gc,.int .i64 ((D.fl:Int)),.bool D.off,.bool D.armed,.int .i64 D.left],eO 144 513 (.slice PA D.pgs.length Pc) D.pgs.length (Ps.flatMap shC),eO 5 1 (.slice GA D.log.size gc) D.log.size ((ba D.log).map (Value.int .u8)),eWs Ps,eKp G] w:=St.withKp st0 hG (fun e he k hk=>by rw[show fp=(eDk b D fp).fp from rfl,show (eDk b D fp).fp= _ from hfp];exact List.mem_flatMap.2 ⟨e,he,hk⟩) hGn
 refine(callsIn_wide (n:=3)).1 (callsIn_of_wp_marks func33 rfl trivial (wpIn_wide.2 ?_) rfl)
 simp only[ntmps33,List.size_toArray,List.length_cons,List.length_nil,Nat.reduceAdd,Nat.reduceSub,Array.replicate_succ,Array.replicate_zero,List.push_toArray,List.append_toArray,List.nil_append,List.cons_append]
 have aj:=st2
 refine wq (sqr ?_)
 refine bX #[.slice QA qs.length qc] aj fun bP W1 ax=>?_
 refine aa (wq (wq ?_))
 have ht2_:=St.tk (L:=[eB b 100 #[.slice PA D.pgs.length Pc,.slice GA D.log.size gc,vi ((D.fl:Int)),.bool D.off,.bool D.armed,vi D.left],eO 144 513 (.slice PA D.pgs.length Pc) D.pgs.length (Ps.flatMap shC),eO 5 1 (.slice GA D.log.size gc) D.log.size ((ba D.log).map (Value.int .u8)),eWs Ps]) (ax.pick [0,1,2,3,5,4] (by decide) rfl) rfl hqc hq
 simp only[List.cons_append,List.nil_append] at ht2_
 refine sqs [.m 9 0] ?_
 refine sqv (.bool false) ht2_ (by
   exact sv0 rfl rfl rfl rfl rfl (fun _ _ _ h=>h) fun i d W X cx=>by
    have NS:i (.tmp 9)=vp b:=(cx.ou 9)
    simp[go_sem,cx.sees.const,NS]) fun W4 aZ=>?_
 refine aa (wp_cond_false (show Act.eval _ _= .bool false from rfl) (wp_skip (aa (wq (sqr ?_)))))
 refine sqv (.func (.func 83) #[] #[vp bP]) aZ (by
   exact sv0 rfl rfl rfl rfl rfl (fun _ _ _ h=>h) fun i d W X cx=>by
    have fy:i (.tmp 3)=vp bP:=(cx.ou 3)
    simp[go_sem,Instr.makeFunc,fy]) fun W5 aK=>?_
 refine bW #[.nilFunc] aK fun oh W6 bJ=>?_
 refine aT (n:=1) 5 #[.func (.func 83) #[] #[vp bP]] bJ fun W7 aW=>?_
 refine aa (wq (wsq [.m 12 0] ?_))
 refine qe (fun jt=> .func (.func 142) #[] #[vp jt]) (fun jt=>eB jt 30 #[vp b]) aW (fun cx=>⟨_,(qF b _).mono (by rintro e W1 ⟨q4,rfl,aM⟩;exact⟨_,rfl,aM⟩),(av (cx.ou 12))⟩) fun jt W9 cw=>?_
 refine aa (wp_block ?_)
 have Ra:=cw.pick [0,1,2,3,6,4,5] (by decide) rfl
 refine uc (α:=Nat) Ra rfl (enters_of func142 (by kernel_rfl) rfl) (encs:=wrA PA) (qJ jt b PA Pc Ps (by omega)) (fun _=>rfl) (fun pre L=>True/\L=[eB b 100 #[.slice PA D.pgs.length Pc,.slice GA D.log.size gc,vi ((D.fl:Int)),.bool D.off,.bool D.armed,vi D.left],eO 144 513 (.slice PA D.pgs.length Pc) D.pgs.length (Ps.flatMap shC),eO 5 1 (.slice GA D.log.size gc) D.log.size ((ba D.log).map (Value.int .u8)),eWs Ps,eB jt 30 #[vp b],eTk G bP,eB oh 133 #[.func (.func 83) #[] #[vp bP]]]) ⟨trivial,rfl⟩ ?_ (fun xx a_ E_=>a_=⟨([vp b,.slice QA qs.length qc,undef,vp bP,vp oh,.pointer (some ((ad PA).add (xx*513))),undef,undef,undef,vp b,.bool false,.func (.func 83) #[] #[vp bP],vp b,.func (.func 142) #[] #[vp jt],.pointer (some ((ad PA).add (xx*513))),undef,undef,undef,undef,undef,undef,undef,undef,undef,undef,undef,undef,undef,undef,undef,undef,undef,undef,undef,undef,undef,undef,undef,undef,undef,undef,undef,undef,undef,undef,undef,undef,undef,undef,undef,undef,undef,undef,undef,undef,undef,undef,undef,undef,undef,undef,undef,undef,undef,undef,undef,undef,undef,undef,undef,undef,undef,undef,undef,undef,undef,undef,undef,undef,undef,undef,undef,undef,undef,undef]).toArray,[]⟩/\E_=e00) (fun xx=>[vp b,.slice QA qs.length qc,undef,vp bP,vp oh,undef,undef,undef,undef,vp b,.bool false,.func (.func 83) #[] #[vp bP],vp b,.func (.func 142) #[] #[vp jt],.pointer (some ((ad PA).add (xx*513))),undef,undef,undef,undef,undef,undef,undef,undef,undef,undef,undef,undef,undef,undef,undef,undef,undef,undef,undef,undef,undef,undef,undef,undef,undef,undef,undef,undef,undef,undef,undef,undef,undef,undef,undef,undef,undef,undef,undef,undef,undef,undef,undef,undef,undef,undef,undef,undef,undef,undef,undef,undef,undef,undef,undef,undef,undef,undef,undef,undef,undef,undef,undef,undef,undef,undef,undef,undef,undef,undef]) (fun xx=>by kernel_rfl) ?_ ?_ ?_
 rintro pre L A ⟨-,rfl⟩ hA_
 exact⟨hA_ (eB jt 30 #[vp b]) (by simp),_,GA,gc,Ps,DkO.ofE hPl (hA_ (eB b 100 #[.slice PA D.pgs.length Pc,.slice GA D.log.size gc,vi ((D.fl:Int)),.bool D.off,.bool D.armed,vi D.left]) (by simp)) (hA_ (eO 144 513 (.slice PA D.pgs.length Pc) D.pgs.length (Ps.flatMap shC)) (by simp)) (hA_ (eO 5 1 (.slice GA D.log.size gc) D.log.size ((ba D.log).map (Value.int .u8))) (by simp)) (hA_ (eWs Ps) (by simp)),rfl,fun j _=>rfl⟩
 intro rl xx W K hK;exact uo rfl rfl rfl (hK _ _ e00 ⟨rfl,rfl⟩ (St.e00 W)) (by kernel_rfl)
 rintro rl pre xx sF L12 a12 E12 ⟨-,rfl⟩ hPx ⟨rfl,rfl⟩ Gm
 have cP:St sF (fps ([eB b 100 #[.slice PA D.pgs.length Pc,.slice GA D.log.size gc,vi ((D.fl:Int)),.bool D.off,.bool D.armed,vi D.left],eO 144 513 (.slice PA D.pgs.length Pc) D.pgs.length (Ps.flatMap shC),eO 5 1 (.slice GA D.log.size gc) D.log.size ((ba D.log).map (Value.int .u8)),eWs Ps,eB jt 30 #[vp b],eTk G bP,eB oh 133 #[.func (.func 83) #[] #[vp bP]]]++[e00])) [eB b 100 #[.slice PA D.pgs.length Pc,.slice GA D.log.size gc,vi ((D.fl:Int)),.bool D.off,.bool D.armed,vi D.left],eO 144 513 (.slice PA D.pgs.length Pc) D.pgs.length (Ps.flatMap shC),eO 5 1 (.slice GA D.log.size gc) D.log.size ((ba D.log).map (Value.int .u8)),eWs Ps,eB jt 30 #[vp b],eTk G bP,eB oh 133 #[.func (.func 83) #[] #[vp bP]],e00] sF:=Gm
 clear Gm
 obtain⟨⟨t_,ht_,hn_⟩,_⟩:=hPx;exact absurd (hw0 t_ (List.mem_of_getElem? ht_)) hn_
 rintro D10 Uy L10 XS_ ⟨-,rfl⟩ hZ_ Gn
 simp only[List.cons_append,List.nil_append] at Gn
 refine aq (aa (wq (aB [0,1,3,7,0,0,32,96,224,480,0,1024,3072,7168,16352,32736,65520,131071,262143,524287,1048575] [[],[],[],[0],[6],[],[],[],[0],[],[],[],[],[0],[],[],[5],[],[],[],[0]] [[],[],[],[],[],[],[],[],[],[],[],[],[],[],[],[],[8],[],[],[],[9]] [[],[],[],[],[],[],[],[],[],[],[],[],[],[],[],[],[5],[],[],[],[0]] [.k 47 (vp b),.k 48 (vp b),.k 49 (po b 2),.c 50 (vi ((D.fl:Int))),.c 51 (.func (.func 83) #[] #[vp bP]),.k 52 (vp b),.k 53 (vp b),.k 54 (po b 1),.c 55 (.slice GA D.log.size gc),.k 56 (vi ((D.log.size:Int))),.k 57 (vp b),.k 58 (vp b),.k 59 (po b 2),.c 60 (vi ((D.fl:Int))),tJ 61 ((D.log.size:Int)-(D.fl:Int)) ((D.log.size-D.fl:Nat):Int) (by omega) (by omega),tJ 62 (((D.log.size-D.fl:Nat):Int)+1) ((D.log.size-D.fl+1:Nat):Int) (by omega) (by omega),.a 63,.a 64,.k 65 (vp b),.k 66 (po b 2),.n] (fun ix g d X=>match ix with|0|1|2|3|4|5|6|7|8|9|10|11|12|13|14|15=>True|16=>g 63=vi ((((rN (d 63)) % ((D.log.size-D.fl+1:Nat)):Nat):Int))/\X 8=eTk G bP|17=>g 64=vi (((D.fl+((rN (d 63)) % ((D.log.size-D.fl+1:Nat)):Nat):Nat):Int))|18|19=>True|20=>X 9=eB b 100 #[.slice PA D.pgs.length Pc,.slice GA D.log.size gc,vi (((D.fl+((rN (d 63)) % ((D.log.size-D.fl+1:Nat)):Nat):Nat):Int)),.bool D.off,.bool D.armed,vi D.left]|_=>True) [1,2,3,4,6,7,8,9] [3,4,8,13,16,17,20] [(47,0,20,67)] Gn ?_ ?_ ?_)))
 exact fun ix _ _ _ _ _ _ hs hb hx h=>match ix,h with
 |16,h=>by dsimp only;rw[<-hs 63 rfl,<-hb 63 rfl,<-hx 8 rfl];exact h
 |17,h=>by dsimp only;rw[<-hs 64 rfl,<-hb 63 rfl];exact h
 |20,h=>by dsimp only;rw[<-hb 63 rfl,<-hx 9 rfl];exact h
 |0,_|1,_|2,_|3,_|4,_|5,_|6,_|7,_|8,_|9,_|10,_|11,_|12,_|13,_|14,_|15,_|18,_|19,_|_+21,_=>trivial
 refine⟨?_,?_,?_,?_,?_,?_,?_,trivial⟩
 exact xs4 rfl id fun cx=>rL1 (cx.an 2) ((cx.bi 0 rfl).cell 2)
 exact xs4 rfl id fun cx=>rL1 (cx.ou 4) ((cx.bi 6 rfl).cell 0)
 exact xs4 rfl id fun cx=>rL1 (cx.an 7) ((cx.bi 0 rfl).cell 1)
 exact xs4 rfl id fun cx=>rL1 (cx.an 12) ((cx.bi 0 rfl).cell 2)
 refine svA fun i d W X cx=>?_
 refine ak.call (cD (f:=83) (args:=#[vi (((D.log.size-D.fl+1:Nat):Int))]) (args':=#[vi (((D.log.size-D.fl+1:Nat):Int)),vp bP]) rfl rfl (cx.an 4) (by kernel_rfl) (av (cx.an 15)) rfl) ?_
 refine(DE _ ((D.log.size-D.fl+1:Nat)) G _ (by omega) (by omega) (CtxV.holdF cx (cx.init 5 _ rfl) rfl) (CtxV.ltF cx (cx.init 5 _ rfl) rfl)).mono ?_
 rintro e W1 ⟨r4,rfl,aM⟩
 refine⟨_,rfl,aI (E:=eTk G bP) [eTk G bP] (cx.init 5 _ rfl) rfl rfl aM (fun g l X' hs hb hv hN=>?_)⟩
 have aH:=(hv 63 rfl).1;have aO:=(hv 63 rfl).2
 exact⟨aH.trans (by rw[aO];exact congrArg (fun z:Nat=>Value.int .i64 (z:Int)) (by rw[rN,Int.toNat_natCast,Nat.mod_mod])),(List.cons.inj hN).1⟩
 exact sv rfl rfl rfl rfl rfl _ (fun _ _ _ h=>h) (fun d l h=>by rw[h 63 (by decide)]) fun i d W X cx=>mg rfl (cx.an 3) (dTn (cx.an 16)).1 (congrArg (fun z=>some (Value.int .i64 z)) ((IntWalk.i64_in _ (by have h_:=Nat.mod_lt (rN (d 63)) (show 0<D.log.size-D.fl+1 by omega);omega)).trans (by omega)))
 refine svA fun i d W X cx=>?_
 exact dVS (n:=1) rfl (cx.an 19) (dTn (cx.an 17)) cx (cx.init 0 _ rfl) rfl (nle rfl) rfl rfl rfl (fun g l X' hs hb hx=>by rw[hb 63];exact hx)
 intro g d X FL hD fZ fr aC
 simp only[exq 8 ((dTn (hD 16 lq)).2),exq 9 ((dTn (hD 20 lq)))] at fZ
 simp only[ed 63 ((dTn (hD 16 lq)).1),ed 64 ((dTn (hD 17 lq)))] at aC
 generalize rN (d 63)=Gp at fZ aC
 clear hD;subst aC;clear g d X
 refine aa (wq ?_)
 obtain⟨kF,JO⟩:∃z,(D.fl+(Gp % ((D.log.size-D.fl+1:Nat)):Nat):Nat)=z:=⟨_,rfl⟩
 rw[JO] at fZ |-
 have hk_:D.fl<=kF/\kF<=D.log.size:=by rw[<-JO];have h_:=Nat.mod_lt Gp (show 0<D.log.size-D.fl+1 by omega);omega
 refine aB [0,0,2,6,14,0,32,96,224,510,1023,2047,4095] [[],[],[],[],[7],[],[],[],[7],[],[],[],[7]] [[],[],[],[],[],[],[],[],[],[],[],[],[8]] [[],[],[],[],[],[],[],[],[],[],[],[],[7]] [.k 67 (vp b),.k 68 (vp b),.k 69 (vp b),.k 70 (po b 1),.c 71 (.slice GA D.log.size gc),.k 72 (vp b),.k 73 (vp b),.k 74 (po b 2),.c 75 (vi ((kF:Int))),.c 76 (.slice GA kF gc),.k 77 (vp b),.k 78 (po b 1),.n] (fun ix g d X=>match ix with|0|1|2|3|4|5|6|7|8|9|10|11=>True|12=>X 8=eB b 100 #[.slice PA D.pgs.length Pc,.slice GA kF gc,vi ((kF:Int)),.bool D.off,.bool D.armed,vi D.left]|_=>True) [0,1,2,3,4,5,6,8] [4,8,9,12] [(67,0,12,79)] fZ ?_ ?_ ?_
 exact fun ix _ _ _ _ _ _ hs hb hx h=>match ix,h with
 |12,h=>by dsimp only;rw[<-hx 8 rfl];exact h
 |0,_|1,_|2,_|3,_|4,_|5,_|6,_|7,_|8,_|9,_|10,_|11,_|_+13,_=>trivial
 refine⟨?_,?_,?_,?_,trivial⟩
 exact xs4 rfl id fun cx=>rL1 (cx.an 3) ((cx.bi 7 rfl).cell 1)
 exact xs4 rfl id fun cx=>rL1 (cx.an 7) ((cx.bi 7 rfl).cell 2)
 exact xs4 rfl id fun cx=>lQ (e:=5) (sz:=1) (m:=kF) rfl (by kernel_rfl) (by kernel_rfl) (cx.an 4) (cx.an 8) (by omega) (by omega)
 refine svA fun i d W X cx=>?_
 exact dVS (n:=1) rfl (cx.an 11) (cx.an 9) cx (cx.init 7 _ rfl) rfl (nle rfl) rfl rfl rfl (fun _ _ _ _ _=>id)
 intro g d X uY hD bZ fr aC
 simp only[exq 8 ((dTn (hD 12 lq)))] at bZ
 clear hD;subst aC;clear g d X
 refine aa (sqs [.m 79 0,.m 80 0,.k 81 (vp b),.k 82 (po b 3)] ?_)
 refine aT (n:=1) 7 #[.slice PA D.pgs.length Pc,.slice GA kF gc,vi ((kF:Int)),.bool false,.bool D.armed,vi D.left] bZ fun qV cU=>?_
 refine sqp [.k 83 (vp b),.k 84 (po b 4)] ?_
 refine aT (n:=1) 7 #[.slice PA D.pgs.length Pc,.slice GA kF gc,vi ((kF:Int)),.bool false,.bool false,vi D.left] cU fun uZ dv=>?_
 refine zl (L:=[eO 144 513 (.slice PA D.pgs.length Pc) D.pgs.length (Ps.flatMap shC),eO 5 1 (.slice GA D.log.size gc) D.log.size ((ba D.log).map (Value.int .u8)),eWs Ps,eB jt 30 #[vp b],eB oh 133 #[.func (.func 83) #[] #[vp bP]],eTk G bP,eB b 100 #[.slice PA D.pgs.length Pc,.slice GA kF gc,vi ((kF:Int)),.bool false,.bool false,vi D.left]]) (dv.pick [0,1,2,3,4,6,7,5] (by decide) rfl) fun Wt23 ht23=>?_
 refine⟨.tuple #[],(by simp[results,results33,go_sem]),?_⟩
 have hl_:=St.lessKp (L:=[eB b 100 #[.slice PA D.pgs.length Pc,.slice GA kF gc,vi ((kF:Int)),.bool false,.bool false,vi D.left],eO 144 513 (.slice PA D.pgs.length Pc) D.pgs.length (Ps.flatMap shC),eO 5 1 (.slice GA D.log.size gc) D.log.size ((ba D.log).map (Value.int .u8)),eWs Ps]) (St.untk (L:=[eB b 100 #[.slice PA D.pgs.length Pc,.slice GA kF gc,vi ((kF:Int)),.bool false,.bool false,vi D.left],eO 144 513 (.slice PA D.pgs.length Pc) D.pgs.length (Ps.flatMap shC),eO 5 1 (.slice GA D.log.size gc) D.log.size ((ba D.log).map (Value.int .u8)),eWs Ps]) (ht23.pick [6,0,1,2,5] (by decide) rfl)) hG
 have hl2_:=St.trunc (L1:=[eB b 100 #[.slice PA D.pgs.length Pc,.slice GA kF gc,vi ((kF:Int)),.bool false,.bool false,vi D.left],eO 144 513 (.slice PA D.pgs.length Pc) D.pgs.length (Ps.flatMap shC)]) (L2:=[eWs Ps]) (m:=kF) hl_ hk_.2
 have hz_:(D.log.extract 0 kF).size=kF:=by rw[ByteArray.size_extract];omega
 exact⟨rfl,⟨D.pgs,D.log.extract 0 kF,kF,false,false,D.left⟩,⟨rfl,fun j x y hx hy=>by have hy:D.pgs[j]? =some y:=hy;rw[hx] at hy;cases hy;exact CrR.nil x (hws x (List.mem_of_getElem? hx)),⟨kF,hk_.1,hk_.2,rfl,rfl⟩,rfl,rfl⟩,St.dk (L:=[]) (PA:=PA) (Pc:=Pc) (GA:=GA) (gc:=gc) (Ps:=Ps) (Qs:=Ps) (by rw[dkL,dkC];dsimp only;rw[hz_];rw[hz_] at hl2_;exact hl2_) hps rfl⟩
end
section
open Go.RowKit
theorem y3(b o n:Nat):(⟨b,o,none⟩:Addr).add n=⟨b,o+n,none⟩:=by
 unfold Addr.add
 split
 rename_i h;subst h;rfl
 rfl
theorem zy{b:Nat}{t:TypeId}{xs:List Value}(h:Blk W b t xs.toArray):At W (some ⟨b,0,none⟩) xs:=fun j u hj=>⟨⟨b,0,none⟩,rfl,(Array.getElem?_eq_some_iff.1 h).1,by
 rw[y3,h.cell,Nat.zero_add,List.getElem?_toArray];exact hj⟩
section
variable{P:Program}{o:Oper}{ρ:Operand->Value}{W:World}{t ty:TypeId}{x:Operand}{b m:Nat}{ps:List PgR}{u:PgR}
theorem J2(h:o.op= .load t x)(ht:jd P t=some true)(hn:szP P t=some 3)(hx:ρ x= .pointer (some ⟨b,0+m*3,none⟩))(hB:Blk W b ty (ps.flatMap pgQ).toArray)(hm:ps[m]? =some u):(execOp ρ o).run P W= .ok (.value (.agg #[.int .i64 u.p.1,.int .i64 u.p.2.1,.slice u.A u.p.2.2.length u.c])) W:=
 bS (f:=pgQ) (A:=some ⟨b,0,none⟩) (m:=m) (sz:=3) (off:=0) h ht hn (by show _=Value.pointer (some ((⟨b,0,none⟩:Addr).add (m*3+0)));rw[y3];exact hx) rfl eU (zy hB) hm fun k hk=>match k,hk with
  |0,_=>rfl
  |1,_=>rfl
  |2,_=>rfl
  |k+3,hk=>absurd hk (by omega)
theorem Br(h:o.op= .load t x)(ht:jd P t=some false)(hx:ρ x= .pointer (some ⟨b,0+m*3+1,none⟩))(hB:Blk W b ty (ps.flatMap pgQ).toArray)(hm:ps[m]? =some u):(execOp ρ o).run P W= .ok (.value (.int .i64 u.p.2.1)) W:=
 ce h ht hx (by
  have h1:=At.eltc (A:=some ⟨b,0,none⟩) (f:=pgQ) (k:=1) eU (zy hB) hm rfl
  have h1:W.cell? ((⟨b,0,none⟩:Addr).add (m*3+1))= _:=h1
  rw[y3] at h1
  exact h1)
end
theorem Il{ps:List PgR}{m:Nat}(h:m<ps.length)(u:PgR):(ps.flatMap pgQ).take (0+m*3)++(pgQ u++(ps.flatMap pgQ).drop (0+m*3+3))=(ps.set m u).flatMap pgQ:=by
 have e:ps=ps.take m++ps[m]::ps.drop (m+1):=by rw[List.getElem_cons_drop,List.take_append_drop]
 have hl:∀l:List PgR,(l.flatMap pgQ).length=l.length*3:=fun l=>kt eU l
 have ht:((ps.take m).flatMap pgQ).length=m*3:=by rw[hl,List.length_take,Nat.min_eq_left (by omega)]
 have h1:ps.flatMap pgQ=(ps.take m).flatMap pgQ++(pgQ ps[m]++(ps.drop (m+1)).flatMap pgQ):=by
  conv=>lhs;rw[e]
  rw[List.flatMap_append,List.flatMap_cons]
 have h2:ps.set m u=ps.take m++u::ps.drop (m+1):=by rw[List.set_eq_take_append_cons_drop,if_pos h]
 rw[h2,List.flatMap_append,List.flatMap_cons,h1,Nat.zero_add,List.take_left' ht,<-List.drop_drop,List.drop_left' ht,List.drop_left' (eU _)]
def psC(L:List RecM)(n:Nat)(ps rws:List PgR):Prop:=ps.length=5/\∀m:Nat,m<n->∃A c,ps[m]? =some ⟨af L (m:Int),A,c⟩/\(⟨af L (m:Int),A,c⟩:PgR)∈rws
theorem psC.step{n:Nat}{ps rws:List PgR}(h:psC L n ps rws)(hn:n<5)(A:Option Addr)(c:Nat):psC L (n+1) (ps.set n ⟨af L (n:Int),A,c⟩) (rws++[⟨af L (n:Int),A,c⟩]):=by
 refine⟨by rw[List.length_set];exact h.1,fun m hm=>?_⟩
 by_cases e:m=n
 subst e
 exact⟨A,c,List.getElem?_set_self (by rw[h.1];exact hn),by simp⟩
 obtain⟨A2,c2,h1,h2⟩:=h.2 m (by omega)
 exact⟨A2,c2,by rw[List.getElem?_set_ne (fun h=>e h.symm)];exact h1,List.mem_append_left _ h2⟩
theorem K8(u:PgR):∀v∈pgQ u,v.oneCell'=true:=fun v hv=>by
 simp only[pgQ,List.mem_cons,List.not_mem_nil,or_false] at hv
 rcases hv with rfl|rfl|rfl<;>rfl
theorem Lh{n:Int}{z:ByteArray}{f:FuncId}(h:sfS D n=(z,0))(hc:Calls P_ f args w (Ret (.tuple #[.string (sfS D n).1,.int .i64 (sfS D n).2]) w)):Calls P_ f args w (Ret (.tuple #[.string z,.int .i64 0]) w):=by
 rw[h] at hc;exact hc
theorem DkC.safe{n:Nat}(h:DkC D L p)(hn:n<p):∃z,sfS D (n:Int)=(z,0)/\z.size=512/\rdP z=af L (n:Int):=by
 have hp:=h.len
 obtain⟨x,hx⟩:∃x,D.pgs[n]? =some x:=⟨_,List.getElem?_eq_getElem (by omega)⟩
 refine⟨x.safe.1,?_,x.safe.2,(h.pgs n x hx).2⟩
 rw[sfS,if_pos (by omega)]
 show ((D.pgs.getD n fO).safe.1,(0:Int))= _
 rw[List.getD_eq_getElem?_getD,hx];rfl
theorem OE{z:ByteArray}{c:PgS}(hz:z.size=512)(h:rdP z=c)(h0:0<c.2.1):Calls P_ 44 #[.string z] w (dS c.1 c.2.1 c.2.2 0 w):=by
 have h1:=mG z w hz
 unfold j8 at h1
 rcases hx:rdX z with _|q
 rw[o9 hx] at h
 subst h
 exact absurd h0 (by decide)
 rw[hx] at h1
 rw[pm hx] at h
 subst h
 exact h1
theorem Ik{e:Ent}{Ψ:DkM->Prop}(h:e=eDc db Ψ fp):e=eDc db Ψ e.fp:=by subst h;rfl
theorem C6{f:FuncId}(h:Calls P_ f args w (EX db D fp w)):Calls P_ f args w (fun e w'=>e= .returned (.tuple #[])/\∃fp',St w fp [eDc db (CrD D) fp'] w'):=by
 refine h.mono ?_
 rintro e w' ⟨rfl,D',hc,fp',hs⟩
 exact⟨rfl,fp',St.repl (L1:=[]) (L2:=[]) hs rfl (fun h1=>⟨D',hc,h1⟩) (J3 _ _ _)⟩
theorem St.undc{bor:List Nat}{R:List Ent}{Ψ:DkM->Prop}(h:St w0 bor (eDc db Ψ fp::R) W):∃D,Ψ D/\St w0 bor (eDk db D fp::R) W:=by
 obtain⟨D,a,b⟩:=(h.ok (eDc db Ψ fp) (by simp)).holds
 exact⟨D,a,St.repl (L1:=[]) h rfl (fun _=>b) (dm _ _ _)⟩
theorem Ext.block_get(h:Ext w W){k:Nat}{b:Obj}(hb:w.heap[k]? =some b):W.heap[k]? =some b:=(h.block (Array.getElem?_eq_some_iff.1 hb).1).trans hb
theorem LW{fp:List Nat}{k:Nat}{b:Obj}(hb:w.heap[k]? =some b)(ho:∀j∈fp,(j∈([]:List Nat)\/w.heap.size<=j)/\j<W.heap.size)(hm:k∈fp):False:=by
 have h1:=(Array.getElem?_eq_some_iff.1 hb).1
 rcases(ho k hm).1 with h2|h2
 cases h2
 omega
theorem tY(AA QA:Option Addr)(ac qc:Nat)(acs:List ActT)(qs:List Int)(b:Int)(w:World)(hA:At w AA (acs.flatMap acC))(hok:∀a∈acs,ActOk a)(hal:acs.length<=100000000000000)(hQ:At w QA (qs.map (Value.int .i64)))(hqc:qs.length<=qc)(hb:0<=b/\b<=255):
  Calls P_ 11 #[.slice AA acs.length ac,.slice QA qs.length qc,.int .u8 b] w (Ret (.bool true) w):=by
 obtain⟨G,hG,hKp⟩:=OC hQ
 go_enter func11,ntmps11
 have aj:=St.start w
 refine wsq [.k 6 (.bool false)] ?_
 refine aa (wq (sqr (sqk (.bool true) aj (fun cx=>⟨_,CZ _,jc⟩) fun W2 bA=>?_)))
 refine sqp [.k 7 (.bool true)] ?_
 refine aa (wsq [.k 19 (.agg #[.pointer none,.pointer none,.pointer none,vi 0,vi 0])] ?_)
 refine bX #[.pointer none,.pointer none,.pointer none,vi 0,vi 0] bA fun cv W5 aK=>?_
 refine sqp [.m 8 20] ?_
 refine aa (wq (wsq [.m 21 8,.m 22 2,sRe 23 .u8 b 6 (b % 6) (Int.tmod_eq_emod_of_nonneg (by omega)),sW 24 .i64 (b % 6) (b % 6) (IntWalk.i64_in _ (by omega)),sI 25 (1+(b % 6)) (by omega)] ?_))
 refine bF (fun X_=>X_.fp) (.bool true) (fun vQ=>eWd cv (1+(b % 6)) ([au bgS]) (fun _=>false) 0 vQ) 0 aK (by
   refine svA fun g d W X cx=>?_
   refine ak.call (rCF (args:=#[vp cv,vi (1+(b % 6))]) cx.sees (aN (cx.ou 21) (cx.ou 25))) ?_
   refine(Cl cv (1+(b % 6)) _ (CtxV.holdF cx (cx.init 0 _ rfl) rfl) ((cx.bi 0 rfl)).lt (by omega)).mono ?_
   rintro e W1 ⟨rfl,fp4,aM⟩
   refine⟨_,rfl,aI (E:=eB cv 34 #[.pointer none,.pointer none,.pointer none,vi 0,vi 0]) [eWd cv (1+(b % 6)) ([au bgS]) (fun _=>false) 0 fp4] (cx.init 0 _ rfl) rfl rfl aM (fun f i X' hs hb hv hN=>?_)⟩
   have aH:=(hv 26 rfl).1;have aO:=(hv 26 rfl).2
   exact⟨aH.trans rfl,th ((List.cons.inj hN).1)⟩) fun vQ sF cP=>?_
 refine sqp [.k 27 (.bool false),.k 28 (.bool false)] ?_
 refine de 28 [29,30,31,32] rfl rfl ?_
 refine sqp [.m 29 8,.m 30 0] ?_
 refine bF (fun X_=>X_.fp) (.bool true) (fun r9=>eWd cv (1+(b % 6)) ((kq ([au bgS],fun _=>false) acs).1) ((kq ([au bgS],fun _=>false) acs).2) (0+17500) r9) 0 cP (by
   refine svA fun g d W X cx=>?_
   refine ak.call (rCF (args:=#[vp cv,.slice AA acs.length ac]) cx.sees (aN (cx.ou 29) (cx.ou 30))) ?_
   refine(CC cv (1+(b % 6)) [au bgS] (fun _=>false) 0 AA ac acs _ _ (CtxV.holdF cx (cx.init 0 _ rfl) rfl) (CtxV.ltF (q:=0) (E:=eWd cv (1+(b % 6)) ([au bgS]) (fun _=>false) 0 vQ) cx (cx.init 0 _ rfl) rfl) (cx.oldAt (q:=0) (E:=eWd cv (1+(b % 6)) ([au bgS]) (fun _=>false) 0 vQ) (cx.init 0 _ rfl) rfl rfl hA) hok hal (by decide)).mono ?_
   rintro e W1 ⟨rfl,fp4,aM⟩
   refine⟨_,rfl,aI (E:=eWd cv (1+(b % 6)) ([au bgS]) (fun _=>false) 0 vQ) [eWd cv (1+(b % 6)) ((kq ([au bgS],fun _=>false) acs).1) ((kq ([au bgS],fun _=>false) acs).2) (0+17500) fp4] (cx.init 0 _ rfl) rfl rfl aM (fun f i X' hs hb hv hN=>?_)⟩
   have aH:=(hv 31 rfl).1;have aO:=(hv 31 rfl).2
   exact⟨aH.trans rfl,th ((List.cons.inj hN).1)⟩) fun r9 qT dt=>?_
 refine sqp [.k 32 (.bool false)] ?_
 refine sqp [.k 33 (.bool false)] ?_
 refine aa (wcf rfl (wp_skip (aa (wq ?_))))
 obtain⟨⟨L9,t9⟩,hr9⟩:∃z,kq ([au bgS],fun _=>false) acs=z:=⟨_,rfl⟩
 have hck:eG L9 fg=0:=by have h_:=Kh acs (note:=fg) (by decide);rw[hr9] at h_;exact h_
 have hll:=Ma acs
 rw[hr9] at hll
 obtain⟨hll1,hll8⟩:=hll
 dsimp only at hll1
 simp only[hr9] at dt
 obtain⟨safe,db,sb,rb,fps,fpr,hw20_⟩:=dt.unwd
 have hk21_:St w [] [eB cv 34 #[vp db,vp sb,vp rb,vi (1+(b % 6)),vi safe],eNi sb db L9 t9 5 (0+17500) fps] qT:=hw20_.pick [0,1] (by decide) rfl
 refine sqs [.k 34 (.agg #[vi 0,vi 0,sn,vi 0,vi 0,sn,vi 0,vi 0,sn,vi 0,vi 0,sn,vi 0,vi 0,sn])] ?_
 refine bW #[vi 0,vi 0,sn,vi 0,vi 0,sn,vi 0,vi 0,sn,vi 0,vi 0,sn,vi 0,vi 0,sn] hk21_ fun kZ sE cu=>?_
 refine aT (n:=15) 2 #[vi 0,vi 0,sn,vi 0,vi 0,sn,vi 0,vi 0,sn,vi 0,vi 0,sn,vi 0,vi 0,sn] cu fun uV et=>?_
 have hv25_:St w [] [eB cv 34 #[vp db,vp sb,vp rb,vi (1+(b % 6)),vi safe],eNi sb db L9 t9 5 (0+17500) fps,eB kZ 89 ((List.replicate 5 (⟨bp,none,0⟩:PgR)).flatMap pgQ).toArray] uV:=et
 have hn25_:=hv25_.nM dw
 refine aa (wq (wsq [.k 10 (vi 0)] ?_))
 refine aa (wp_block ?_)
 refine aQ (fun t_ mz az W=>∃n:Nat,∃ps:List PgR,∃rws:List PgR,∃c1:Nat,∃fq1:List Nat,n<=5/\psC L9 n ps rws/\c1<=20000+3*n/\mz=5-n/\az=⟨(ovr (jv az) [(10,10,0,[vi ((n:Int))]),(24,35,15,[])] t_).toArray,[]⟩/\St w [] [eM (List.map dw rws),eB cv 34 #[vp db,vp sb,vp rb,vi (1+(b % 6)),vi safe],eNi sb db L9 t9 5 c1 fq1,eB kZ 89 (ps.flatMap pgQ).toArray] W) (5-0) ?_ ?_
 exact⟨0,(List.replicate 5 (⟨bp,none,0⟩:PgR)),[],(0+17500),fps,Nat.zero_le _,⟨rfl,fun m hm=>absurd hm (Nat.not_lt_zero _)⟩,(by omega),rfl,(by kernel_rfl),hn25_.pk [0,1,2,3]⟩
 rintro Rl a27 xz ⟨n,ps,rws,c1,fq1,hn5,hps,hc1,rfl,hj_,d6⟩
 refine ovz hj_ fun Qe=>?_
 refine wq (wsq [.m 35 10,.k 36 (.bool (decide ((n:Int)<5)))] ?_)
 refine aa (wds (fun iN g9=>?_) fun iN g9=>?_)
 refine wp_skip (aa (wq (wp_block (aB [0,0,2,6,14,0,62,126,254,254,511,1535] [[],[],[],[],[1],[],[2],[],[],[],[],[3]] [[],[],[],[],[],[],[4,5],[],[],[],[],[6]] [[],[],[],[],[],[],[2],[],[],[],[],[3]] [.k 40 (vi ((n:Int))),.k 41 (vp cv),.k 42 (vp cv),.k 43 (po cv 1),.c 44 (vp sb),.k 45 (vi ((n:Int))),.a 46,.a 39,.a 47,.c 48 (.bool true),.c 49 (.pointer (some ⟨kZ,0+n*3,none⟩)),.n] (fun ix f d X=>match ix with|0|1|2|3|4|5=>True|6=>f 46= .tuple #[.agg #[vi ((af L9 (n:Int)).1),vi ((af L9 (n:Int)).2.1),.slice (sA (tg (tg (d 46) 0) 2)) ((af L9 (n:Int)).2.2.length) (sC (tg (tg (d 46) 0) 2))],.bool true]/\X 4=eNi sb db L9 t9 5 (c1+3) ((X 4).fp)/\X 5=eO 9 1 (.slice (sA (tg (tg (d 46) 0) 2)) ((af L9 (n:Int)).2.2.length) (sC (tg (tg (d 46) 0) 2))) ((af L9 (n:Int)).2.2.length) ((af L9 (n:Int)).2.2.map Value.string)|7=>f 39= .tuple #[.agg #[vi ((af L9 (n:Int)).1),vi ((af L9 (n:Int)).2.1),.slice (sA (tg (tg (d 46) 0) 2)) ((af L9 (n:Int)).2.2.length) (sC (tg (tg (d 46) 0) 2))],.bool true]|8=>f 47= .agg #[vi ((af L9 (n:Int)).1),vi ((af L9 (n:Int)).2.1),.slice (sA (tg (tg (d 46) 0) 2)) ((af L9 (n:Int)).2.2.length) (sC (tg (tg (d 46) 0) 2))]|9|10=>True|11=>X 6=eB kZ 89 ((ps.set n (⟨af L9 (n:Int),(sA (tg (tg (d 46) 0) 2)),(sC (tg (tg (d 46) 0) 2))⟩:PgR)).flatMap pgQ).toArray|_=>True) [0,1,4,5,6] [4,6,7,8,9,10,11] [(39,7,1,40),(0,0,7,7),(0,8,3,3)] d6 ?_ ?_ ?_))))
 exact fun ix _ _ _ _ _ _ hs hb hx h=>match ix,h with
 |6,h=>by dsimp only;rw[<-hs 46 rfl,<-hb 46 rfl,<-hx 4 rfl,<-hx 5 rfl];exact h
 |7,h=>by dsimp only;rw[<-hs 39 rfl,<-hb 46 rfl];exact h
 |8,h=>by dsimp only;rw[<-hs 47 rfl,<-hb 46 rfl];exact h
 |11,h=>by dsimp only;rw[<-hb 46 rfl,<-hx 6 rfl];exact h
 |0,_|1,_|2,_|3,_|4,_|5,_|9,_|10,_|_+12,_=>trivial
 refine⟨?_,?_,?_,?_,?_,?_,?_,trivial⟩
 exact xs4 rfl id fun cx=>rL1 (cx.an 3) ((cx.bi 1 rfl).cell 1)
 refine svA fun g d W X cx=>?_
 refine ak.call (rCF (args:=#[vp sb,vi ((n:Int))]) cx.sees (aN (cx.an 4) (cx.an 5))) ?_
 refine(Hb (by omega) (by decide) (CtxV.holdF cx (cx.init 2 _ rfl) rfl) (CtxV.ltF cx (cx.init 2 _ rfl) rfl) (by omega)).mono ?_
 rintro e W1 ⟨A4,c4,rfl,fp4,aM⟩
 refine⟨_,rfl,aI (E:=eNi sb db L9 t9 5 c1 fq1) [eNi sb db L9 t9 5 (c1+3) fp4,eO 9 1 (.slice A4 (af L9 (n:Int)).2.2.length c4) (af L9 (n:Int)).2.2.length ((af L9 (n:Int)).2.2.map Value.string)] (cx.init 2 _ rfl) rfl rfl aM (fun f i X' hs hb hv hN=>?_)⟩
 have aH:=(hv 46 rfl).1;have aO:=(hv 46 rfl).2
 exact⟨aH.trans (by rw[aO];exact rfl),eR ((List.cons.inj hN).1),(by rw[aO];exact(List.cons.inj (List.cons.inj hN).2).1)⟩
 exact sv rfl rfl rfl rfl rfl _ (fun _ _ _ h=>h) (fun d i h=>by rw[h 46 (by decide)]) fun g d W X cx=>cM rfl (dTn (cx.an 6)).1
 exact sv rfl rfl rfl rfl rfl _ (fun _ _ _ h=>h) (fun d i h=>by rw[h 46 (by decide)]) fun g d W X cx=>bH rfl (dTn (cx.an 7)) rfl
 exact xs4 rfl id fun cx=>bH rfl (dTn (cx.an 7)) rfl
 exact xs4 rfl id fun cx=>eE (n:=5) (sz:=3) (m:=n) (q:=0+n*3) rfl (by kernel_rfl) (cx.ou 9) (cx.an 0) (by omega) (by omega) (by omega)
 refine svA fun g d W X cx=>?_
 exact A6 (off:=0+n*3) (n:=3) (ys:=pgQ (⟨af L9 (n:Int),(sA (tg (tg (d 46) 0) 2)),(sC (tg (tg (d 46) 0) 2))⟩:PgR)) rfl (cx.an 10) (dTn (cx.an 8)) (by kernel_rfl) rfl (by rw[kt eU,hps.1];omega) (K8 _) (Il (by rw[hps.1];omega) _) cx (cx.init 3 _ rfl) rfl rfl rfl rfl (fun f i X' hs hb hx=>by rw[hb 46];exact hx)
 intro f d X Nq hD km fr aC
 obtain⟨AG,rH⟩:∃z,sA (tg (tg (d 46) 0) 2)=z:=⟨_,rfl⟩
 obtain⟨AH,rI⟩:∃z,sC (tg (tg (d 46) 0) 2)=z:=⟨_,rfl⟩
 have AJ:X 4= _:=(dTn (hD 6 lq)).2.1
 obtain⟨PK,AK⟩:∃z,(X 4).fp=z:=⟨_,rfl⟩
 rw[AK] at AJ
 clear AK
 simp only[AJ,exq 5 ((dTn (hD 6 lq)).2.2),exq 6 ((dTn (hD 11 lq))),rH,rI] at km
 simp only[ed 46 ((dTn (hD 6 lq)).1),ed 39 ((dTn (hD 7 lq))),ed 47 ((dTn (hD 8 lq))),rH,rI] at aC
 clear hD AJ rH rI;subst aC;clear f d X
 refine aq (aa (sqs [.m 37 10,sI 38 ((n:Int)+1) (by omega),.m 10 38] ?_))
 refine aa ?_
 have hg35_:=St.apf (r:=(⟨af L9 (n:Int),AG,AH⟩:PgR)) km.u3.u1
 refine⟨5-((n+1)),by omega,?_⟩
 exact⟨(n+1),(ps.set n (⟨af L9 (n:Int),AG,AH⟩:PgR)),(rws++[(⟨af L9 (n:Int),AG,AH⟩:PgR)]),(c1+3),PK,by omega,(hps.step (by omega) _ _),by omega,rfl,(by kernel_rfl),hg35_.pk [0,1,2,3]⟩
 refine wp_exit (al (al (bf (aa (wq (wq ?_))))))
 obtain rfl:n=5:=by omega
 have hd37:(!(fg.toList==((⟨#[110,111,119]⟩:ByteArray)).toList))=false:=(by rw[fg];simp)
 have hd38:(((L9.length:Int)+1) != ((L9.length:Int)+1))=false:=(by simp)
 refine aB [0,1,3,7,15,31,63,127,255,511,1023,2047,4095,8191,16383,32767,65535,131071,262143,524287,32767,1081343,3178495,7372799,16777215,33554431,67108863] [[],[],[],[1],[2],[],[],[],[],[],[1],[4],[],[],[],[],[],[],[1],[4],[],[],[],[1],[4]] [[],[],[],[],[4]] [[],[],[],[],[2]] [.k 50 (vp cv),.k 51 (vp cv),.k 52 (po cv 1),.c 53 (vp sb),.a 54,.c 55 (.bool false),.k 56 (.bool false),.k 57 (vp cv),.k 58 (vp cv),.k 59 (po cv 1),.c 60 (vp sb),.c 61 (.string fg),.e 62 (.bool (!(fg.toList==((⟨#[110,111,119]⟩:ByteArray)).toList))) (.bool false) (congrArg Value.bool hd37),.k 63 (.bool false),.k 64 (.bool false),.k 65 (vp cv),.k 66 (vp cv),.k 67 (po cv 1),.c 68 (vp sb),.c 69 (vi ((L9.length:Int)+1)),.k 70 (vp cv),.k 71 (vp cv),.k 72 (po cv 1),.c 73 (vp sb),.c 74 (vi ((L9.length:Int)+1)),.e 75 (.bool (((L9.length:Int)+1) != ((L9.length:Int)+1))) (.bool false) (congrArg Value.bool hd38),.k 76 (.bool false)] (fun ix f d X=>match ix with|0|1|2|3=>True|4=>f 54=vi 0/\X 4=eSx sb db (fun S=>CkS S (L9++[au fg]) t9 5 (c1+500)) ((X 4).fp)|_=>True) [0,1,3,4] [3,4,5,10,11,18,19,23,24] [(50,0,27,77)] d6 ?_ ?_ ?_
 exact fun ix _ _ _ _ _ _ hs hb hx h=>match ix,h with
 |4,h=>by dsimp only;rw[<-hs 54 rfl,<-hx 4 rfl];exact h
 |0,_|1,_|2,_|3,_|_+5,_=>trivial
 refine⟨?_,?_,?_,?_,?_,?_,?_,?_,?_,trivial⟩
 exact xs4 rfl id fun cx=>rL1 (cx.an 2) ((cx.bi 1 rfl).cell 1)
 refine svA fun g d W X cx=>?_
 refine ak.call (rCF (args:=#[vp sb,.string ⟨#[110,111,119]⟩]) cx.sees (aN (cx.an 3) (cx.co _))) ?_
 refine(Lj (note:=fg) (CtxV.holdF (q:=2) cx (cx.init 2 _ rfl) rfl) (CtxV.ltF (q:=2) (E:=eNi sb db L9 t9 5 c1 fq1) cx (cx.init 2 _ rfl) rfl) (by omega) (by decide) hck).mono ?_
 rintro e W1 ⟨rfl,fp4,aM⟩
 refine⟨_,rfl,aI (E:=eNi sb db L9 t9 5 c1 fq1) [eSx sb db (fun S=>CkS S (L9++[au fg]) t9 5 (c1+500)) fp4] (cx.init 2 _ rfl) rfl rfl aM (fun f i X' hs hb hv hN=>?_)⟩
 have aH:=(hv 54 rfl).1;have aO:=(hv 54 rfl).2
 exact⟨aH.trans rfl,eY ((List.cons.inj hN).1)⟩
 exact xs4 rfl id fun cx=>mg rfl (dTn (cx.an 4)).1 (cx.co _) rfl
 exact xs5 rfl id (fun cx=>(cx.an 6)) fun cx=>rL1 (cx.an 9) ((cx.bi 1 rfl).cell 1)
 exact l4 rfl rfl rfl rfl rfl rfl (fun _ _ _ h=>h) (fun _ _ _ _ cx=>(cx.an 6)) fun g d W X cx=>⟨_,_,rCF (args:=#[vp sb]) cx.sees (av (cx.an 10)),Bg (L:=L9) (note:=fg) (CtxV.holdF (q:=4) cx (dTn (cx.an 4)).2 rfl) (fun S h=>h.ls) (by omega)⟩
 exact xs5 rfl id (fun cx=>(cx.an 14)) fun cx=>rL1 (cx.an 17) ((cx.bi 1 rfl).cell 1)
 exact l4 rfl rfl rfl rfl rfl rfl (fun _ _ _ h=>h) (fun _ _ _ _ cx=>(cx.an 14)) fun g d W X cx=>⟨_,_,rCF (args:=#[vp sb]) cx.sees (av (cx.an 18)),CY (L:=L9) (note:=fg) (CtxV.holdF (q:=4) cx (dTn (cx.an 4)).2 rfl)⟩
 exact xs5 rfl id (fun cx=>(cx.an 14)) fun cx=>rL1 (cx.an 22) ((cx.bi 1 rfl).cell 1)
 exact l4 rfl rfl rfl rfl rfl rfl (fun _ _ _ h=>h) (fun _ _ _ _ cx=>(cx.an 14)) fun g d W X cx=>⟨_,_,rCF (args:=#[vp sb]) cx.sees (av (cx.an 23)),BH (L:=L9) (note:=fg) (CtxV.holdF (q:=4) cx (dTn (cx.an 4)).2 rfl) (fun S h=>h.ls)⟩
 intro f d X xB hD dX fr aC
 have AJ:X 4= _:=(dTn (hD 4 lq)).2
 obtain⟨Td,AL⟩:∃z,(X 4).fp=z:=⟨_,rfl⟩
 rw[AL] at AJ
 clear AL
 simp only[AJ] at dX
 simp only[ed 54 ((dTn (hD 4 lq)).1)] at aC
 clear hD AJ;subst aC;clear f d X
 refine aa (wcf rfl (wp_skip (aa (wq ?_))))
 obtain⟨S9,fpd,hCk,hd39_⟩:=St.ckD dX.u3
 have hbk9:=hCk.ni.ok
 have hpg9:S9.D.pgs.length=5:=hCk.ni.ep
 have hdl_:=(hd39_.get 0 rfl).own
 have hwsn:∀x∈S9.D.pgs,x.ws=[]:=fun x hx=>by obtain⟨n_,hn_,rfl⟩:=List.mem_iff_getElem.1 hx;exact(hCk.wh n_ _ (List.getElem?_eq_getElem hn_)).1
 refine sqs [.m 77 8,.k 78 (vp cv),.k 79 (vp cv)] ?_
 refine am 2 hd39_ ?_
 refine sqp [.m 81 1] ?_
 refine bF (fun X_=>X_.fp) (.tuple #[]) (fun x6=>eDc db (CrD S9.D) x6) 0 hd39_ (by
   refine svA fun g d W X cx=>?_
   refine ak.call (rCF (args:=#[vp db,.slice QA qs.length qc]) cx.sees (aN (cx.ou 80) (cx.ou 81))) ?_
   refine(C6 (HE db S9.D QA qs qc G _ _ (CtxV.holdF cx (cx.init 0 _ rfl) rfl) (CtxV.ltF cx (cx.init 0 _ rfl) rfl) hwsn (by omega) hbk9.fl (Nat.le_trans hbk9.lsz (by decide)) (fun x hx=>cx.upd.to_ext.block_get (hG x hx)) (fun x hx hm=>LW (hG x hx) hdl_ hm) hKp hqc)).mono ?_
   rintro e W1 ⟨rfl,fp4,aM⟩
   refine⟨_,rfl,aI (E:=eDk db S9.D fpd) [eDc db (CrD S9.D) fp4] (cx.init 0 _ rfl) rfl rfl aM (fun f i X' hs hb hv hN=>?_)⟩
   have aH:=(hv 82 rfl).1;have aO:=(hv 82 rfl).2
   exact⟨aH.trans rfl,Ik ((List.cons.inj hN).1)⟩) fun x6 PU vg=>?_
 refine aa (wq (wq ?_))
 obtain⟨D2,hCr,hd46_⟩:=St.undc vg
 have hDk:=hCk.crash hCr
 have hpg2:=hDk.len
 refine sqs [.k 11 (vi 0)] ?_
 refine aa (wp_block ?_)
 refine aQ (fun t_ mz az W=>∃n:Nat,n<=5/\mz=5-n/\az=⟨(ovr (jv az) [(6,6,1,[]),(4,11,0,[vi ((n:Int))]),(0,12,4,[]),(67,83,39,[])] t_).toArray,[]⟩/\St w [] [eDk db D2 x6,eM (List.map dw rws),eB cv 34 #[vp db,vp sb,vp rb,vi (1+(b % 6)),vi safe],eB kZ 89 (ps.flatMap pgQ).toArray] W) (5-0) ?_ ?_
 exact⟨0,Nat.zero_le _,rfl,(by kernel_rfl),hd46_.pk [0,1,2,3]⟩
 rintro RI a48 P1 ⟨n,hn5,rfl,hj_,nK⟩
 refine ovz hj_ fun Qx=>?_
 refine wq (wsq [.m 83 11,.k 84 (.bool (decide ((n:Int)<5)))] ?_)
 refine aa (wds (fun Rb PL=>?_) fun Rb PL=>?_)
 refine wp_skip (aa (wq (wp_block (wq ?_))))
 obtain⟨z,hzs,hzz,hzr⟩:=hDk.safe (show n<5 by omega)
 have hzr:rdP z=af L9 (n:Int):=by rw[hzr,gk];rfl
 obtain⟨A9,c9,hq9,hm9⟩:=hps.2 n (by omega)
 refine sqs [.m 88 8,.k 89 (vp cv),.k 90 (vp cv)] ?_
 refine am 2 nK ?_
 refine sqp [.m 92 11] ?_
 refine sqk (.tuple #[.string z,vi 0]) nK (fun cx=>⟨_,Lh hzs (Eg db D2 (n:Int) _ (eP (CtxV.holdF cx (cx.init 0 _ rfl) rfl))),(aN (cx.ou 91) (cx.ou 92))⟩) fun U9 JP=>?_
 refine sqp [.m 87 93,.k 94 (.string z),.k 95 (vi 0),.m 12 94,.m 13 95] ?_
 refine aa (wq ?_)
 by_cases hL9:0<(af L9 (n:Int)).2.1
 refine sqs [.m 97 12] ?_
 refine iz (fun lF lG=> .tuple #[.agg #[vi ((af L9 (n:Int)).1),vi ((af L9 (n:Int)).2.1),.slice lF ((af L9 (n:Int)).2.2.length) lG],vi 0]) (fun lF lG=>eO 9 1 (.slice lF ((af L9 (n:Int)).2.2.length) lG) ((af L9 (n:Int)).2.2.length) ((af L9 (n:Int)).2.2.map Value.string)) JP (fun cx=>⟨_,(OE hzz hzr hL9).mono (by rintro e W1 ⟨A4,c4,rfl,ho,hx⟩;exact⟨_,_,rfl,St.one hx (cf ho)⟩),(av (cx.ou 97))⟩) fun lF lG JD gG=>?_
 refine sqp [.m 96 98,.k 99 (.agg #[vi ((af L9 (n:Int)).1),vi ((af L9 (n:Int)).2.1),.slice lF ((af L9 (n:Int)).2.2.length) lG]),.k 100 (vi 0)] ?_
 refine bW #[vi 0,vi 0,sn] gG fun SG B2 f7=>?_
 refine aT (n:=3) 5 #[vi ((af L9 (n:Int)).1),vi ((af L9 (n:Int)).2.1),.slice lF ((af L9 (n:Int)).2.2.length) lG] f7 fun Sf vI=>?_
 refine sqp [.m 15 100] ?_
 refine aa (wq ?_)
 have hd72:(decide (0<(af L9 (n:Int)).2.1))=true:=(decide_eq_true hL9)
 refine bG [0,1,3,7,15,31,63,127,255,511,1023,2047,4095,4095,12287,28671,65535,131071,262143,524287,1048575] [[],[],[],[],[],[],[3],[],[],[],[],[],[5],[],[],[3],[4,1]] [.k 101 (vi 0),.k 102 (.bool false),.k 103 (.bool false),.k 104 (vi ((n:Int))),.c 105 (.pointer (some ⟨kZ,0+n*3,none⟩)),.k 106 (.pointer (some ⟨kZ,0+n*3+1,none⟩)),.c 107 (vi ((af L9 (n:Int)).2.1)),.e 108 (.bool (decide (0<(af L9 (n:Int)).2.1))) (.bool true) (congrArg Value.bool hd72),.k 109 (.bool true),.k 110 (vi 0),.k 111 (.bool false),.k 112 (.bool false),.c 113 (.agg #[vi ((af L9 (n:Int)).1),vi ((af L9 (n:Int)).2.1),.slice lF ((af L9 (n:Int)).2.2.length) lG]),.k 114 (vi ((n:Int))),.c 115 (.pointer (some ⟨kZ,0+n*3,none⟩)),.c 116 (.agg #[vi ((af L9 (n:Int)).1),vi ((af L9 (n:Int)).2.1),.slice A9 ((af L9 (n:Int)).2.2.length) c9]),.c 117 (.bool true),.k 118 (.bool false),.k 119 (.bool false),.k 120 (.bool false),.k 121 (.bool false)] [0,1,2,3,4,5] [4,6,12,14,15,16] [(101,0,21,122)] vI ?_ fun P2 vo=>?_
 refine⟨?_,?_,?_,?_,?_,?_,trivial⟩
 exact xs5 rfl id (fun cx=>(cx.an 2)) fun cx=>eE (n:=5) (sz:=3) (m:=n) (q:=0+n*3) rfl (by kernel_rfl) (cx.ou 9) (cx.an 3) (by omega) (by omega) (by omega)
 exact xs5 rfl id (fun cx=>(cx.an 2)) fun cx=>Br rfl (by kernel_rfl) (cx.an 5) (CtxV.holdF cx (cx.init 3 _ rfl) rfl) hq9
 exact xs5 rfl id (fun cx=>(cx.an 11)) fun cx=>rLB (n:=3) (cx.ou 14) (cx.bi 5 rfl) (nle rfl) rfl
 exact xs5 rfl id (fun cx=>(cx.an 11)) fun cx=>eE (n:=5) (sz:=3) (m:=n) (q:=0+n*3) rfl (by kernel_rfl) (cx.ou 9) (cx.an 13) (by omega) (by omega) (by omega)
 exact xs5 rfl id (fun cx=>(cx.an 11)) fun cx=>J2 rfl (by kernel_rfl) (by kernel_rfl) (cx.an 14) (CtxV.holdF cx (cx.init 3 _ rfl) rfl) hq9
 exact l4 rfl rfl rfl rfl rfl rfl (fun _ _ _ h=>h) (fun _ _ _ _ cx=>(cx.an 11)) fun g d W X cx=>⟨_,_,rCF (args:=#[.agg #[vi ((af L9 (n:Int)).1),vi ((af L9 (n:Int)).2.1),.slice lF ((af L9 (n:Int)).2.2.length) lG],.agg #[vi ((af L9 (n:Int)).1),vi ((af L9 (n:Int)).2.1),.slice A9 ((af L9 (n:Int)).2.2.length) c9]]) cx.sees (aN (cx.an 12) (cx.an 15)),FC (af L9 (n:Int)) _ _ _ _ _ (At.of_own (cx.ri 4 rfl)) (iw (CtxV.holdF cx (cx.init 1 _ rfl) rfl) hm9) (GU _ _)⟩
 refine aa (wcf rfl (wp_skip (aq (aa (sqs [.m 85 11,sI 86 ((n:Int)+1) (by omega),.m 11 86] ?_)))))
 refine aa ?_
 refine⟨5-((n+1)),by omega,?_⟩
 exact⟨(n+1),by omega,rfl,(by kernel_rfl),vo.pk [0,1,2,3]⟩
 refine aB [0,1,3,7,7,0,47,127] [[],[],[],[],[],[],[5]] [[],[4],[],[],[],[5],[6]] [[],[],[],[],[],[],[5]] [.k 97 (.string z),.a 98,.a 96,.a 99,.a 100,.a 14,.n,.a 15] (fun ix f d X=>match ix with|0=>True|1=>f 98= .tuple #[.agg #[vi ((rdP z).1),vi ((rdP z).2.1),.slice (sA (tg (tg (d 98) 0) 2)) ((rdP z).2.2.length) (sC (tg (tg (d 98) 0) 2))],vi (tZ (tg (d 98) 1))]/\X 4=eO 9 1 (.slice (sA (tg (tg (d 98) 0) 2)) ((rdP z).2.2.length) (sC (tg (tg (d 98) 0) 2))) ((rdP z).2.2.length) ((rdP z).2.2.map Value.string)|2=>f 96= .tuple #[.agg #[vi ((rdP z).1),vi ((rdP z).2.1),.slice (sA (tg (tg (d 98) 0) 2)) ((rdP z).2.2.length) (sC (tg (tg (d 98) 0) 2))],vi (tZ (tg (d 98) 1))]|3=>f 99= .agg #[vi ((rdP z).1),vi ((rdP z).2.1),.slice (sA (tg (tg (d 98) 0) 2)) ((rdP z).2.2.length) (sC (tg (tg (d 98) 0) 2))]|4=>f 100=vi (tZ (tg (d 98) 1))|5=>f 14=vp (pb (d 14))/\X 5=eB (pb (d 14)) 48 #[vi 0,vi 0,sn]|6=>X 6=eB (pb (d 14)) 48 #[vi ((rdP z).1),vi ((rdP z).2.1),.slice (sA (tg (tg (d 98) 0) 2)) ((rdP z).2.2.length) (sC (tg (tg (d 98) 0) 2))]|7=>f 15=vi (tZ (tg (d 98) 1))|_=>True) [0,1,2,3,4,6] [1,2,3,4,5,6,7] [(14,5,3,16),(80,2,1,81),(0,0,2,2),(0,3,2,2)] JP ?_ ?_ ?_
 exact fun ix _ _ _ _ _ _ hs hb hx h=>match ix,h with
 |1,h=>by dsimp only;rw[<-hs 98 rfl,<-hb 98 rfl,<-hx 4 rfl];exact h
 |2,h=>by dsimp only;rw[<-hs 96 rfl,<-hb 98 rfl];exact h
 |3,h=>by dsimp only;rw[<-hs 99 rfl,<-hb 98 rfl];exact h
 |4,h=>by dsimp only;rw[<-hs 100 rfl,<-hb 98 rfl];exact h
 |5,h=>by dsimp only;rw[<-hs 14 rfl,<-hb 14 rfl,<-hx 5 rfl];exact h
 |6,h=>by dsimp only;rw[<-hb 14 rfl,<-hb 98 rfl,<-hx 6 rfl];exact h
 |7,h=>by dsimp only;rw[<-hs 15 rfl,<-hb 98 rfl];exact h
 |0,_|_+8,_=>trivial
 refine⟨?_,?_,?_,?_,?_,?_,?_,trivial⟩
 refine svA fun g d W X cx=>?_
 refine ak.call (rCF (args:=#[.string z]) cx.sees (av (cx.an 0))) ?_
 refine(DW (mG z _ hzz)).mono ?_
 rintro e W1 ⟨er4,A4,c4,rfl,ho,hx⟩
 refine⟨_,rfl,bK [eO 9 1 (.slice A4 (rdP z).2.2.length c4) (rdP z).2.2.length ((rdP z).2.2.map Value.string)] rfl rfl hx (one_new (cf ho)) (List.pairwise_singleton _ _) (fun f i X' hs hb hv hN=>?_)⟩
 have aH:=(hv 98 rfl).1;have aO:=(hv 98 rfl).2
 exact⟨aH.trans (by rw[aO];exact rfl),(by rw[aO];exact(List.cons.inj hN).1)⟩
 exact sv rfl rfl rfl rfl rfl _ (fun _ _ _ h=>h) (fun d i h=>by rw[h 98 (by decide)]) fun g d W X cx=>cM rfl (dTn (cx.an 1)).1
 exact sv rfl rfl rfl rfl rfl _ (fun _ _ _ h=>h) (fun d i h=>by rw[h 98 (by decide)]) fun g d W X cx=>bH rfl (dTn (cx.an 2)) rfl
 exact sv rfl rfl rfl rfl rfl _ (fun _ _ _ h=>h) (fun d i h=>by rw[h 98 (by decide)]) fun g d W X cx=>bH rfl (dTn (cx.an 2)) rfl
 refine svA fun g d W X cx=>?_
 exact dVA (cs:=#[vi 0,vi 0,sn]) rfl rfl rfl (fun _ _ _ _ _=> .intro)
 refine svA fun g d W X cx=>?_
 exact dVS (n:=3) rfl (dTn (cx.an 5)).1 (dTn (cx.an 3)) cx (dTn (cx.an 5)).2 rfl (nle rfl) rfl rfl rfl (fun f i X' hs hb hx=>by rw[hb 14,hb 98];exact hx)
 exact sv rfl rfl rfl rfl rfl _ (fun _ _ _ h=>h) (fun d i h=>by rw[h 98 (by decide)]) fun g d W X cx=>cS rfl (dTn (cx.an 4))
 intro f d X PV hD pH fr aC
 simp only[exq 4 ((dTn (hD 1 lq)).2),exq 6 ((dTn (hD 6 lq)))] at pH
 simp only[ed 98 ((dTn (hD 1 lq)).1),ed 96 ((dTn (hD 2 lq))),ed 99 ((dTn (hD 3 lq))),ed 100 ((dTn (hD 4 lq))),ed 14 ((dTn (hD 5 lq)).1),ed 15 ((dTn (hD 7 lq)))] at aC
 generalize tZ (tg (d 98) 1)=er98_76,sA (tg (tg (d 98) 0) 2)=SH,sC (tg (tg (d 98) 0) 2)=SI,pb (d 14)=SJ at pH aC
 clear hD;subst aC;clear f d X
 refine aa (wq ?_)
 have hd78:(decide (0<(af L9 (n:Int)).2.1))=false:=(decide_eq_false hL9)
 refine bG [0,1,3,7,15,31,63,127,255,511,1023,2047,4095,4095,12287,28671,65535,131071,262143,524287,1048575] [[],[],[],[],[],[],[3]] [.k 101 (vi 0),.k 102 (.bool false),.k 103 (.bool false),.k 104 (vi ((n:Int))),.c 105 (.pointer (some ⟨kZ,0+n*3,none⟩)),.k 106 (.pointer (some ⟨kZ,0+n*3+1,none⟩)),.c 107 (vi ((af L9 (n:Int)).2.1)),.e 108 (.bool (decide (0<(af L9 (n:Int)).2.1))) (.bool false) (congrArg Value.bool hd78),.k 109 (.bool false),.u 110,.u 111,.u 112,.u 113,.u 114,.u 115,.u 116,.u 117,.u 118,.u 119,.k 120 (.bool false),.k 121 (.bool false)] [0,1,2,3,4,5] [4,6] [(101,0,21,122)] pH ?_ fun SC DC=>?_
 refine⟨?_,?_,trivial⟩
 exact xs5 rfl id (fun cx=>(cx.an 2)) fun cx=>eE (n:=5) (sz:=3) (m:=n) (q:=0+n*3) rfl (by kernel_rfl) (cx.ou 9) (cx.an 3) (by omega) (by omega) (by omega)
 exact xs5 rfl id (fun cx=>(cx.an 2)) fun cx=>Br rfl (by kernel_rfl) (cx.an 5) (CtxV.holdF cx (cx.init 3 _ rfl) rfl) hq9
 refine aa (wcf rfl (wp_skip (aq (aa (sqs [.m 85 11,sI 86 ((n:Int)+1) (by omega),.m 11 86] ?_)))))
 refine aa ?_
 refine⟨5-((n+1)),by omega,?_⟩
 exact⟨(n+1),by omega,rfl,(by kernel_rfl),DC.pk [0,1,2,3]⟩
 refine wp_exit (al (al (bf (aa (wsq [.m 123 8,.k 124 (vp cv),.k 125 (vp cv)] ?_)))))
 refine am 2 nK ?_
 refine nv (fun x_=>pb (tg x_ 0)) (fun X_=>X_.fp) (fun sb127_86=> .tuple #[vp sb127_86,vi 0]) (fun sb127_86 JQ=>eSx sb127_86 db (LsS L9 fg) JQ) 0 nK (by
   refine svA fun g d W X cx=>?_
   refine ak.call (rCF (args:=#[vp db,vi 2]) cx.sees (aN (cx.ou 126) (cx.co _))) ?_
   refine(Fs (CtxV.holdF cx (cx.init 0 _ rfl) rfl) (CtxV.ltF cx (cx.init 0 _ rfl) rfl) hDk (by decide) (by omega) hll8 (by decide)).mono ?_
   rintro e W1 ⟨sb4,rfl,fp4,aM⟩
   refine⟨_,rfl,aI (E:=eDk db D2 x6) [eSx sb4 db (LsS L9 fg) fp4] (cx.init 0 _ rfl) rfl rfl aM (fun f i X' hs hb hv hN=>?_)⟩
   have aH:=(hv 127 rfl).1;have aO:=(hv 127 rfl).2
   exact⟨aH.trans (by rw[aO];exact rfl),(by rw[aO];exact eY ((List.cons.inj hN).1))⟩) fun sb127_86 JQ Va PM=>?_
 refine sqp [.m 122 127,.k 128 (vp sb127_86),.k 129 (vi 0),.m 16 128,.m 17 129] ?_
 refine aa (wsq [.k 130 (.bool true),.k 131 (.bool true)] ?_)
 refine de 131 [132,133] rfl rfl ?_
 refine sqp [.m 132 17,.k 133 (.bool true)] ?_
 refine sqp [.k 134 (.bool true),.k 135 (.bool true)] ?_
 refine de 135 [136,137] rfl rfl ?_
 refine sqp [.m 136 16] ?_
 refine sqv (.bool true) PM (by
   exact sv0 rfl rfl rfl rfl rfl (fun _ _ _ h=>h) fun g d W X cx=>by
    have PN:g (.tmp 136)=vp sb127_86:=(cx.ou 136)
    simp[go_sem,cx.sees.const,PN]) fun Rx Df=>?_
 refine sqp [.k 138 (.bool true),.k 139 (.bool true)] ?_
 refine de 139 [140,141,142] rfl rfl ?_
 refine sqp [.m 140 16] ?_
 refine sqk (.string fg) Df (fun cx=>⟨_,Bg (L:=L9) (note:=fg) (CtxV.holdF (q:=0) cx (cx.init 0 _ rfl) rfl) (fun S h=>h) (by omega),(av (cx.ou 140))⟩) fun QZ Aq=>?_
 have hd105:(fg.toList==((⟨#[110,111,119]⟩:ByteArray)).toList)=true:=(by rw[fg];simp)
 refine sqp [.e 142 (.bool (fg.toList==((⟨#[110,111,119]⟩:ByteArray)).toList)) (.bool true) (congrArg Value.bool hd105)] ?_
 refine sqp [.k 143 (.bool true),.k 144 (.bool true)] ?_
 refine de 144 [145,146,147,148,149] rfl rfl ?_
 refine sqp [.m 145 16] ?_
 refine sqk (vi ((L9.length:Int)+1)) Aq (fun cx=>⟨_,KM (L:=L9) (note:=fg) (CtxV.holdF (q:=0) cx (cx.init 0 _ rfl) rfl) (fun S h=>h),(av (cx.ou 145))⟩) fun Ng q8=>?_
 refine sqp [.m 147 16] ?_
 refine sqk (vi ((L9.length:Int)+1)) q8 (fun cx=>⟨_,BH (L:=L9) (note:=fg) (CtxV.holdF (q:=0) cx (cx.init 0 _ rfl) rfl) (fun S h=>h),(av (cx.ou 147))⟩) fun Q0 rE=>?_
 have hd113:(((L9.length:Int)+1)==((L9.length:Int)+1))=true:=(by simp)
 refine sqp [.e 149 (.bool (((L9.length:Int)+1)==((L9.length:Int)+1))) (.bool true) (congrArg Value.bool hd113)] ?_
 refine sqp [.k 150 (.bool true),.k 6 (.bool true)] ?_
 exact aa (wp_ret (bpr (.bool true) (ag results11 rpt) (Ret.of rfl rE.ext)))
end
section
open Go.ChangeShapes Go.WideShapes Go.ChangeAt Go.RowKit Go.Deep Go.Joins
theorem zh:ownKnob Tryz.prog.godebug=none:=by kernel_rfl
theorem KR:laidOutB P_=true:=by kernel_rfl
section
variable{H:Type}{enc:TypeId×Value->H}{P:Program}
theorem pV(hl:laidOutB P=true){W':World}{sp:Nat->Bool}:∀{ts:List TypeId}{vs:List Value}{ds:List (DataW H)}{ps:List MemPlace},(∀t∈ts,P.readableRec t=true/\t<P.types.size)->
  DataW.TrodAll enc P W 0 (fun _=>true) true ts vs ds ps->(∀p∈ps,W.sameAt W' p)->(∀p∈ps,sp p.block=true)->DataW.TrodAll enc P W' 0 sp true ts vs ds ps
 | [],[],[],_,_,h,_,_=>h
 |t:: _,_:: _,_:: _,_,hT,⟨p,q,h1,h2,e⟩,hsm,hs=>
  ⟨p,q,WideElems.Trod_stays hl (hT t (by simp)).1 (hT t (by simp)).2 h1 (fun x hx=>hsm x (by rw[e];exact List.mem_append_left _ hx)) (fun x hx=>hs x (by rw[e];exact List.mem_append_left _ hx)),
    pV hl (fun t ht=>hT t (by simp[ht])) h2 (fun x hx=>hsm x (by rw[e];exact List.mem_append_right _ hx)) (fun x hx=>hs x (by rw[e];exact List.mem_append_right _ hx)),e⟩
theorem Hx{f:Func}{s:ChangeSpec}{fresh handsOn again:Bool}{W':World}{ds gs:List (DataW H)}{before:List MemPlace}{tb:TypeId}
  (hl:laidOutB P=true) (hT:∀t∈f.params.toList,P.readableRec t=true/\t<P.types.size) (hr:f.resultTypes=#[tb]) (hb:P.underlying tb=some .bool)
  (hW:DataW.Whole enc P f.params.toList s.vars false W args.toList ds gs before) (hvs:s.vars=[])
  (hres:(s.fn H (ds++gs)).results=[.lit (.bool true)]) (hargs:(s.fn H (ds++gs)).args=ds) (hvars:(s.fn H (ds++gs)).vars=[]) (hx:Ext W W'):
  s.post enc P f false fresh handsOn again W args (.bool true) W':=by
 have hlt:∀p∈before,p.block<W.heap.size:=fun p hp=>hW.lt p hp
 have hold:∀p∈before,(fun b=>decide (b<W.heap.size)) p.block=true:=fun p hp=>by simpa using hlt p hp
 have hW0:=hW
 obtain⟨p,q,hA,hV,rfl,hz,hn⟩:=hW
 rw[hvs] at hV
 obtain⟨rfl,rfl⟩:=trodVars_none hV
 rw[List.append_nil] at hlt hold hz
 have HA:∀sp:Nat->Bool,(∀x∈p,sp x.block=true)->DataW.TrodAll enc P W' 0 sp true f.params.toList args.toList (s.fn H (ds++[])).args p:=fun sp hs=>by
  rw[hargs]
  exact pV hl hT hA (fun x hx'=>hx.out.same (hlt x hx')) hs
 have HR:∀(b:Nat) (sp:Nat->Bool) (hd:Bool),DataW.TrodAll enc P W' b sp hd f.resultTypes.toList ((Value.bool true).resultList f.resultTypes.size) (s.fn H (ds++[])).results []:=fun b sp hd=>by
  rw[hres,hr]
  exact trodAll_cons_mk (shut_bool hb _) trodAll_mk0
 have HV:∀sp:Nat->Bool,DataW.TrodVars enc P W' sp s.vars (s.fn H (ds++[])).vars []:=fun sp=>by
  rw[hvs,hvars]
  rfl
 refine⟨ds,[],p++[],[],p,[],hW0,HR _ _ _,HA _ hold,HV _,World.keptBut_mono (fun x hx'=>⟨hx',?_⟩) (hx.out.frame (·∈p++[])),fun _=>?_⟩
 rw[List.append_nil] at hx'
 exact Or.inr (Or.inl hx')
 refine⟨?_,_,_,([]++p)++[],⟨[]++p,[],trodAll_append (HA _ (fun _ _=>rfl)) (HR _ _ _),HV _,rfl,?_,fun ha=>by cases ha⟩,?_⟩
 exact ok_one hr rfl (okWide_bool_mk hb _)
 intro b off hp
 have hin:MemPlace.cell b off∈p:=by simpa using hp
 rw[hx.out.frozen (hlt _ hin)]
 exact hz b off hin
 intro x hx' _
 simpa using hx'
end
end
section
open Go.ChangeShapes Go.WideShapes Go.ChangeAt Go.RowKit Go.Deep Go.Joins
inductive Sh where
 |int (k:IntKind)
 |bool
 |str
 |sl (e:Sh) (bs:Nat)
 |st (fs:List Sh)
mutual
def Sh.n:Sh->Nat
 | .st fs=>Sh.ns fs
 | .int _=>1
 | .bool=>1
 | .str=>1
 | .sl _ _=>1
def Sh.ns:List Sh->Nat
 | []=>0
 |f::fs=>f.n+Sh.ns fs
end
mutual
def nj(w:World):Sh->List Value->Prop
 | .int k,cs=>∃z,cs=[.int k z]/\(Lit.int k z).wf=true
 | .bool,cs=>∃b,cs=[.bool b]
 | .str,cs=>∃s:ByteArray,cs=[.string s]/\s.size<=140737488351232
 | .sl e bs,cs=>∃(A:Option Addr) (n c:Nat) (xs:List Value),cs=[.slice A n c]/\At w A xs/\xs.length=n*e.n/\n<=c/\c*bs<=140737488351232/\∀i,i<n->nj w e ((xs.drop (i*e.n)).take e.n)
 | .st fs,cs=>mU w fs cs
def mU(w:World):List Sh->List Value->Prop
 | [],cs=>cs=[]
 |f::fs,cs=>∃a b,cs=a++b/\nj w f a/\mU w fs b
end
mutual
def Sh.fits(P:Program):Sh->TypeId->Bool
 | .int k,t=>match P.underlying t with|some (.int k')=>decide (k'=k)|_=>false
 | .bool,t=>match P.underlying t with|some .bool=>true|_=>false
 | .str,t=>match P.underlying t with|some .string=>true|_=>false
 | .sl e bs,t=>match P.underlying t with|some (.slice u)=>e.fits P u&&decide (P.cellsOf u=e.n)&&decide (P.bytesOf u=bs)&&decide (0<e.n)|_=>false
 | .st fs,t=>match P.underlying t with
   |some (.struct gs)=>decide (P.cellsOf t=Sh.ns fs)&&Sh.fitsF P fs gs.toList 0
   |some (.array n u)=>decide (P.cellsOf t=Sh.ns fs)&&decide (fs.length=n)&&Sh.fitsA P fs u
   |_=>false
def Sh.fitsF(P:Program):List Sh->List Field->Nat->Bool
 | [],[],_=>true
 |f::fs,g::gs,off=>decide (g.offset=off)&&decide (P.cellsOf g.type=f.n)&&f.fits P g.type&&Sh.fitsF P fs gs (off+f.n)
 |_,_,_=>false
def Sh.fitsA(P:Program):List Sh->TypeId->Bool
 | [],_=>true
 |f::fs,u=>decide (P.cellsOf u=f.n)&&f.fits P u&&Sh.fitsA P fs u
end
theorem BF{α c:Type}{f:α->Option c}:∀{l:List α}{ys:List c},l.mapM f=some ys->ys.length=l.length/\∀(i:Nat) (a:α),l[i]? =some a->f a=ys[i]?
 | [],ys,h=>by simp at h;subst h;simp
 |a::l,ys,h=>by
  simp only[List.mapM_cons,Option.bind_eq_bind,Option.pure_def,Option.bind_eq_some_iff] at h
  obtain⟨b,hb,bs,hbs,he⟩:=h
  obtain rfl:b::bs=ys:=by simpa using he
  obtain⟨h1,h2⟩:=BF hbs
  refine⟨by simp[h1],fun i x hx=>?_⟩
  cases i with
  |zero=>simp at hx;subst hx;simpa using hb
  |succ i=>simpa using h2 i x (by simpa using hx)
section
variable{H:Type}{enc:TypeId×Value->H}{P:Program}
theorem pX{e:TypeId}:∀{ds:List (DataW H)}(i:Nat) (d:DataW H),ds[i]? =some d->∀x∈d.weights P e,x∈DataW.weightsAll P e ds
 | [],i,d,h,x,hx=>by simp at h
 |d0::ds,0,d,h,x,hx=>by
  simp at h;subst h
  simp only[DataW.weightsAll,List.mem_append];exact .inl hx
 |d0::ds,i+1,d,h,x,hx=>by
  simp only[DataW.weightsAll,List.mem_append]
  exact .inr (pX i d (by simpa using h) x hx)
theorem EG{a:Addr}{m len:Nat}(hm:0<m)(h:∀i,i<len->∃csi,w.cells? 0 (a.add (i*m)) m=some csi):
  ∃xs:List Value,xs.length=len*m/\At w (some a) xs/\∀i,i<len->∀csi,w.cells? 0 (a.add (i*m)) m=some csi->(xs.drop (i*m)).take m=csi:=by
 have key:∀i,i<len->∀csi,w.cells? 0 (a.add (i*m)) m=some csi->csi.length=m/\∀r,r<m->w.cell? (a.add (i*m+r))=csi[r]? :=by
  intro i hi csi hc
  unfold World.cells? at hc
  rw[if_pos (Nat.zero_le _)] at hc
  obtain⟨h1,h2⟩:=BF hc
  refine⟨by simpa using h1,fun r hr=>?_⟩
  have:=h2 r r (by simp[hr])
  rw[pz] at this
  exact this
 have each:∀j,j<len*m->∃u,w.cell? (a.add j)=some u:=by
  intro j hj
  have hi:j / m<len:=by rw[Nat.div_lt_iff_lt_mul hm];exact hj
  obtain⟨csi,hc⟩:=h _ hi
  obtain⟨h1,h2⟩:=key _ hi _ hc
  have hr:=Nat.mod_lt j hm
  have:=h2 _ hr
  rw[show j / m*m+j % m=j by rw[Nat.mul_comm];exact Nat.div_add_mod j m] at this
  rw[List.getElem?_eq_getElem (by omega)] at this
  exact⟨_,this⟩
 refine⟨(List.range (len*m)).map fun j=>(w.cell? (a.add j)).getD undef,by simp,fun j u hu=>?_,fun i hi csi hc=>?_⟩
 rw[List.getElem?_map] at hu
 rcases Nat.lt_or_ge j (len*m) with hj|hj
 obtain⟨v,hv⟩:=each j hj
 rw[List.getElem?_range hj] at hu
 simp only[Option.map_some,hv,Option.getD_some,Option.some.injEq] at hu
 subst hu
 have:=World.block_lt_of_cell? _ _ hv
 rw[nF] at this
 exact⟨a,rfl,this,hv⟩
 rw[List.getElem?_eq_none (by simpa using hj)] at hu;cases hu
 obtain⟨h1,h2⟩:=key i hi csi hc
 have hb:i*m+m<=len*m:=by
  have:(i+1)*m<=len*m:=Nat.mul_le_mul_right m hi
  rw[Nat.add_mul,Nat.one_mul] at this
  exact this
 apply List.ext_getElem?
 intro r
 rw[List.getElem?_take]
 by_cases hr:r<m
 rw[if_pos hr,List.getElem?_drop,List.getElem?_map,List.getElem?_range (by omega),Option.map_some,h2 r hr,List.getElem?_eq_getElem (by omega)]
 rfl
 rw[if_neg hr,List.getElem?_eq_none (by omega)]
mutual
theorem rQ:∀(s:Sh) (t:TypeId) (fuel:Nat) (cs:List Value) (x:DataW H×List MemPlace),s.fits P t=true->DataW.trod enc P w 0 (fun _=>true) true fuel t cs=some x->
  (∀n∈x.1.weights P t,n<=reachBytes)->nj w s cs
 | .int k,t,fuel,cs,x,hf,h,hw=>by
   simp only[Sh.fits] at hf
   split at hf
   rename_i k' hu
   obtain rfl:=of_decide_eq_true hf
   obtain⟨z,hc,_,hz⟩:=DataW.trod_int hu h
   exact⟨z,hc,hz⟩
   cases hf
 | .bool,t,fuel,cs,x,hf,h,hw=>by
   simp only[Sh.fits] at hf
   split at hf
   rename_i hu
   obtain⟨b,hc,_⟩:=DataW.trod_bool hu h
   exact⟨b,hc⟩
   cases hf
 | .str,t,fuel,cs,x,hf,h,hw=>by
   simp only[Sh.fits] at hf
   split at hf
   rename_i hu
   obtain⟨s,hc,rfl,_⟩:=DataW.trod_string hu h
   refine⟨s,hc,?_⟩
   have:=hw s.data.toList.length (by simp[DataW.weights])
   exact this
   cases hf
 | .sl e bs,t,fuel,cs,x,hf,h,hw=>by
   simp only[Sh.fits] at hf
   split at hf
   rename_i u hu
   simp only[Bool.and_eq_true,decide_eq_true_eq] at hf
   obtain⟨⟨⟨he,hm⟩,hb⟩,hp⟩:=hf
   rcases DataW.trod_slice hu h with ⟨rfl,rfl⟩|⟨a,len,cap,elems,rest,n,_,rfl,rfl,_,hl,_,hlen,hel,hsp,_⟩
   exact⟨none,0,0,[],rfl,At.nil _ _,by simp,by simp,by simp,fun i hi=>by omega⟩
   obtain⟨hrl,_⟩:=hsp rfl
   rw[hm] at hel
   have hsz:=hw ((elems.length+rest.length)*P.bytesOf u) (by simp[DataW.weights,hu])
   rw[hlen,hrl,hb] at hsz
   have hR:reachBytes=140737488351232:=rfl
   rw[hR] at hsz
   have hex:∀i,i<len->∃csi y,w.cells? 0 (a.add (i*e.n)) e.n=some csi/\elems[i]? =some y/\DataW.trod enc P w 0 (fun _=>true) true n u csi=some y:=by
    intro i hi
    have h1:=hel i hi
    rw[List.getElem?_eq_getElem (by omega),Option.bind_eq_some_iff] at h1
    obtain⟨csi,hc,hy⟩:=h1
    exact⟨csi,_,hc,List.getElem?_eq_getElem (by omega),hy⟩
   obtain⟨xs,hxl,hxa,hxe⟩:=EG (w:=w) (a:=a) (len:=len) hp (fun i hi=>let ⟨csi,_,hc,_⟩:=hex i hi;⟨csi,hc⟩)
   refine⟨some a,len,cap,xs,rfl,hxa,hxl,hl,?_,fun i hi=>?_⟩
   rw[show len+(cap-len)=cap by omega] at hsz
   exact hsz
   obtain⟨csi,y,hc,hy,ht⟩:=hex i hi
   rw[hxe i hi csi hc]
   refine rQ e u n csi y he ht fun z hz=>hw z ?_
   simp only[DataW.weights,hu,List.mem_cons,List.mem_append]
   refine .inr (.inl ?_)
   exact pX i y.1 (by rw[List.getElem?_map,hy];rfl) z hz
   cases hf
 | .st fs,t,fuel,cs,x,hf,h,hw=>by
   simp only[Sh.fits] at hf
   split at hf
   rename_i gs hu
   simp only[Bool.and_eq_true,decide_eq_true_eq] at hf
   obtain⟨hc,hF⟩:=hf
   obtain⟨xs,n,_,rfl,hcl,hxl,hat⟩:=DataW.trod_struct hu h
   have:=za fs gs.toList 0 cs xs n hF (fun i g hg=>hat i g (by rw[<-hg];exact(Array.getElem?_toList ..).symm)) (by simpa using hxl) (by omega) (fun z hz=>hw z (by simp only[DataW.weights,hu];exact hz))
   rw[List.drop_zero,List.take_of_length_le (by omega)] at this
   exact this
   rename_i n u hu
   simp only[Bool.and_eq_true,decide_eq_true_eq] at hf
   obtain⟨⟨hc,hn⟩,hF⟩:=hf
   obtain⟨xs,m,_,rfl,hcl,hxl,hat⟩:=DataW.trod_array hu h
   have:=y4 fs u 0 cs xs m hF (fun i hi=>by rw[Nat.zero_add];exact hat i (by omega)) (by omega) (by rw[Nat.zero_mul,Nat.zero_add];omega) (fun z hz=>hw z (by simp only[DataW.weights,hu];exact hz))
   rw[Nat.zero_mul,List.drop_zero,List.take_of_length_le (by omega)] at this
   exact this
   cases hf
theorem za:∀(fs:List Sh) (gs:List Field) (off:Nat) (cs:List Value) (xs:List (DataW H×List MemPlace)) (m:Nat),Sh.fitsF P fs gs off=true->
  (∀(i:Nat) (g:Field),gs[i]? =some g->DataW.trod enc P w 0 (fun _=>true) true m g.type ((cs.drop g.offset).take (P.cellsOf g.type))=xs[i]?)->xs.length=gs.length->off+Sh.ns fs<=cs.length->
  (∀n∈DataW.weightsEach P (gs.map (·.type)) (xs.map (·.1)),n<=reachBytes)->mU w fs ((cs.drop off).take (Sh.ns fs))
 | [],[],off,cs,xs,m,hf,h,hx,hl,hw=>by simp[mU,Sh.ns]
 |f::fs,g::gs,off,cs,xs,m,hf,h,hx,hl,hw=>by
  simp only[Sh.fitsF,Bool.and_eq_true,decide_eq_true_eq] at hf
  obtain⟨⟨⟨ho,hc⟩,hff⟩,hF⟩:=hf
  simp only[Sh.ns] at hl
  match xs,hx with
  |y::ys,hx=>
   have h0:=h 0 g rfl
   simp only[List.getElem?_cons_zero] at h0
   rw[ho,hc] at h0
   refine⟨(cs.drop off).take f.n,(cs.drop (off+f.n)).take (Sh.ns fs),?_,rQ f g.type m _ y hff h0 (fun z hz=>hw z ?_),za fs gs (off+f.n) cs ys m hF (fun i g' hg=>?_) (by simpa using hx) (by omega) (fun z hz=>hw z ?_)⟩
   rw[Sh.ns,<-List.drop_drop,List.take_add]
   simp only[List.map_cons,DataW.weightsEach,List.mem_append];exact .inl hz
   simpa using h (i+1) g' (by simpa using hg)
   simp only[List.map_cons,DataW.weightsEach,List.mem_append];exact .inr hz
 | [],_:: _,off,cs,xs,m,hf,h,hx,hl,hw=>by simp[Sh.fitsF] at hf
 |_:: _,[],off,cs,xs,m,hf,h,hx,hl,hw=>by simp[Sh.fitsF] at hf
theorem y4:∀(fs:List Sh) (u:TypeId) (k:Nat) (cs:List Value) (xs:List (DataW H×List MemPlace)) (m:Nat),Sh.fitsA P fs u=true->
  (∀i,i<fs.length->DataW.trod enc P w 0 (fun _=>true) true m u ((cs.drop ((k+i)*P.cellsOf u)).take (P.cellsOf u))=xs[i]?)->xs.length=fs.length->k*P.cellsOf u+Sh.ns fs<=cs.length->
  (∀n∈DataW.weightsAll P u (xs.map (·.1)),n<=reachBytes)->mU w fs ((cs.drop (k*P.cellsOf u)).take (Sh.ns fs))
 | [],u,k,cs,xs,m,hf,h,hx,hl,hw=>by simp[mU,Sh.ns]
 |f::fs,u,k,cs,xs,m,hf,h,hx,hl,hw=>by
  simp only[Sh.fitsA,Bool.and_eq_true,decide_eq_true_eq] at hf
  obtain⟨⟨hc,hff⟩,hF⟩:=hf
  simp only[Sh.ns] at hl
  match xs,hx with
  |y::ys,hx=>
   have h0:=h 0 (by simp)
   simp only[List.getElem?_cons_zero,Nat.add_zero] at h0
   have hk:(k+1)*P.cellsOf u=k*P.cellsOf u+f.n:=by rw[Nat.add_mul,Nat.one_mul,hc]
   refine⟨(cs.drop (k*P.cellsOf u)).take f.n,(cs.drop ((k+1)*P.cellsOf u)).take (Sh.ns fs),?_,rQ f u m _ y hff (by rw[<-hc];exact h0) (fun z hz=>hw z ?_),y4 fs u (k+1) cs ys m hF (fun i hi=>?_) (by simpa using hx) (by rw[hk];omega) (fun z hz=>hw z ?_)⟩
   rw[Sh.ns,hk,<-List.drop_drop,List.take_add]
   simp only[List.map_cons,DataW.weightsAll,List.mem_append];exact .inl hz
   rw[show k+1+i=k+(i+1) by omega]
   simpa using h (i+1) (by simp;omega)
   simp only[List.map_cons,DataW.weightsAll,List.mem_append];exact .inr hz
end
end
theorem s7{H:Type}{enc:TypeId×Value->H}{P:Program}{ts:List TypeId}{ds:List (DataW H)}(hsz:(DataW.weightsEach P ts ds).all (·<=reachBytes)=true)(j:Nat){t:TypeId}{v:Value}{d:DataW H}{p:List MemPlace}(s:Sh)
  (hf:s.fits P t=true) (ht:ts[j]? =some t) (hd:ds[j]? =some d) (h:DataW.Trod enc P w 0 (fun _=>true) true t v d p):nj w s v.cells.toList:=by
 obtain⟨fuel,h⟩:=h
 exact rQ s t fuel _ (d,p) hf h fun n hn=>of_decide_eq_true (List.all_eq_true.1 hsz n (DataW.weights_mem_each ht hd n hn))
theorem yN{T:Type}(f:T->List Value)(p:T->Prop)(m:Nat):∀(n:Nat) (xs:List Value),xs.length=n*m->(∀i,i<n->∃t,(xs.drop (i*m)).take m=f t/\p t)->
  ∃ts:List T,ts.length=n/\xs=ts.flatMap f/\∀t∈ts,p t
 |0,xs,hl,h=>⟨[],rfl,by simpa using hl,by simp⟩
 |n+1,xs,hl,h=>by
  obtain⟨t,ht,hp⟩:=h 0 (by omega)
  rw[Nat.zero_mul,List.drop_zero] at ht
  have hle:(n+1)*m=m+n*m:=by rw[Nat.add_mul,Nat.one_mul,Nat.add_comm]
  obtain⟨ts,h1,h2,h3⟩:=yN f p m n (xs.drop m) (by rw[List.length_drop];omega) (fun i hi=>by
   obtain⟨t',ht',hp'⟩:=h (i+1) (by omega)
   refine⟨t',?_,hp'⟩
   rw[List.drop_drop,show m+i*m=(i+1)*m by rw[Nat.add_mul,Nat.one_mul,Nat.add_comm]]
   exact ht')
  refine⟨t::ts,by simp[h1],?_,by simpa using ⟨hp,h3⟩⟩
  rw[List.flatMap_cons,<-h2,<-ht,List.take_append_drop]
theorem sr{T:Type}(f:T->Value):∀ts:List T,(ts.flatMap fun t=>[f t])=ts.map f
 | []=>rfl
 |t::ts=>by simp[sr f ts]
theorem xk{k:IntKind}{bs:Nat}{cs:List Value}(h:nj w (.sl (.int k) bs) cs):
  ∃(A:Option Addr) (c:Nat) (zs:List Int),cs=[.slice A zs.length c]/\At w A (zs.map (Value.int k))/\zs.length<=c/\c*bs<=140737488351232/\∀z∈zs,(Lit.int k z).wf=true:=by
 simp only[nj,Sh.n,Nat.mul_one] at h
 obtain⟨A,n,c,xs,rfl,hA,hl,hc,hb,he⟩:=h
 obtain⟨zs,h1,h2,h3⟩:=yN (fun z=>[Value.int k z]) (fun z=>(Lit.int k z).wf=true) 1 n xs (by omega) (fun i hi=>by rw[Nat.mul_one];exact he i hi)
 rw[sr] at h2
 subst h1 h2
 exact⟨A,c,zs,rfl,hA,hc,hb,h3⟩
def LN(w:World)(s:Sh)(v:Value):Prop:=match s with
 | .st fs=>∃cs:List Value,v= .agg ⟨cs⟩/\mU w fs cs
 |s=>nj w s [v]
theorem s9{P:Program}{r:Reach}{b0:Nat}{t:TypeId}{v:Value}(s:Sh)(hf:s.fits P t=true)(hv:Value.okWide P W r b0 t v)(h:nj w s v.cells.toList):LN w s v:=by
 cases s with
 |int k=>
  simp only[Sh.fits] at hf
  split at hf
  rename_i k' hu
  obtain⟨n,rfl⟩:=okWide_int hu hv
  exact h
  cases hf
 |bool=>
  simp only[Sh.fits] at hf
  split at hf
  rename_i hu
  obtain⟨n,rfl⟩:=okWide_bool hu hv
  exact h
  cases hf
 |str=>
  simp only[Sh.fits] at hf
  split at hf
  rename_i hu
  obtain⟨n,rfl⟩:=okWide_string hu hv
  exact h
  cases hf
 |sl e bs=>
  simp only[Sh.fits] at hf
  split at hf
  rename_i u hu
  obtain⟨a,l,c,rfl⟩:=okWide_slice hu hv
  exact h
  cases hf
 |st fs=>
  simp only[Sh.fits] at hf
  split at hf
  rename_i gs hu
  obtain⟨cs,rfl,_⟩:=okWide_struct hu hv
  exact⟨cs.toList,rfl,h⟩
  rename_i n u hu
  simp only[Value.okWide,hu] at hv
  obtain⟨cs,rfl,_⟩:=hv
  exact⟨cs.toList,rfl,h⟩
  cases hf
end
end Go.Proofs.YtcdjaepgahbhfaaGreat
namespace Go.Proofs.YtcdjaepgahbhfaaGreat.storeChecks
section
open Go.ChangeShapes Go.WideShapes Go.ChangeAt Go.RowKit Go.Deep Go.Joins
theorem lifted(os:Os)(started:os.Started)(H:Type)(enc:TypeId×Value->H):
  ReturnsInHanded {} Tryz.checked os 11 .any (Rows.storeChecksSpec.pre6 enc P_ Tryz.f11 Rows.storeChecksRow.domain false) (Rows.storeChecksSpec.post enc P_ Tryz.f11 false true false false):=by
 refine returnsInHanded_of_change_sized (C:=Tryz.checked) zh started (by kernel_rfl) func11
  (ChangeSpec.witness6 (enc:=enc) (C:=Tryz.checked) false ⟨#[],#[sn,sn,.int .u8 0],[]⟩ 8 (by kernel_rfl) (by kernel_rfl) (by kernel_rfl) (by kernel_rfl)) ?_
 intro W base args ds gs before hval0 hW hcnd hsz0 _
 have hval:∀(j:Nat) t v,Tryz.f11.params[j]? =some t->args[j]? =some v->Value.okWide P_ W .any base t v:=hval0
 have hsz:(DataW.weightsEach P_ (Tryz.f11.params.toList++Rows.storeChecksSpec.plain.varTypes P_) (ds++gs)).all (·<=reachBytes)=true:=hsz0
 clear hsz0 hval0
 have hW':=hW
 obtain⟨p,q,hA0,hV,rfl,hfz,hnd⟩:=hW
 have hA:DataW.TrodAll enc P_ W 0 (fun _=>true) true Tryz.f11.params.toList args.toList ds p:=hA0
 clear hA0
 rw[params11] at hA hval hsz
 obtain⟨v0,vs0,d0,ds0,p0,q0,hargs,rfl,rfl,h0,r0⟩:=trodAll_cons hA
 obtain⟨v1,vs1,d1,ds1,p1,q1,rfl,rfl,rfl,h1,r1⟩:=trodAll_cons r0
 obtain⟨v2,vs2,d2,ds2,p2,q2,rfl,rfl,rfl,h2,r2⟩:=trodAll_cons r1
 obtain⟨rfl,rfl,rfl⟩:=trodAll_nil r2
 obtain rfl:args=#[v0,v1,v2]:=by cases args;simp_all
 obtain⟨rfl,rfl⟩:=trodVars_none hV
 have s0:=s9 (.sl (.st [.int .u8,.int .i64,.int .i64,.str,.sl (.int .i64) 8]) 64) (by kernel_rfl) (hval 0 _ _ rfl rfl) (s7 hsz 0 (.sl (.st [.int .u8,.int .i64,.int .i64,.str,.sl (.int .i64) 8]) 64) (by kernel_rfl) rfl rfl h0)
 have s1:=s9 (.sl (.int .i64) 8) (by kernel_rfl) (hval 1 _ _ rfl rfl) (s7 hsz 1 (.sl (.int .i64) 8) (by kernel_rfl) rfl rfl h1)
 have s2:=s9 (.int .u8) (by kernel_rfl) (hval 2 _ _ rfl rfl) (s7 hsz 2 (.int .u8) (by kernel_rfl) rfl rfl h2)
 clear hsz
 obtain⟨AA,n_,ac,xs_,hE,atAA,e_,lAA,bAA,p_⟩:=s0
 cases hE
 obtain⟨acs,e1_,e2_,wAA⟩:=yN (T:=ActT) acC (fun t=>ActOk t) 5 n_ xs_ e_ (fun i_ hi_=>by
  have g_:=p_ i_ hi_
  obtain⟨a0_,b0_,e0_,s0_,g_⟩:=g_
  obtain⟨a1_,b1_,e1_,s1_,g_⟩:=g_
  obtain⟨a2_,b2_,e2_,s2_,g_⟩:=g_
  obtain⟨a3_,b3_,e3_,s3_,g_⟩:=g_
  obtain⟨a4_,b4_,e4_,s4_,g0_⟩:=g_
  obtain⟨wt,f0_,wwt⟩:=s0_
  obtain⟨pg,f1_,wpg⟩:=s1_
  obtain⟨sl,f2_,wsl⟩:=s2_
  obtain⟨itm,f3_,zitm⟩:=s3_
  obtain⟨QA,qc,qs,f4_,atQA,lQA,bQA,wQA⟩:=xk s4_
  have g_: _= _:=e0_
  rw[f0_,e1_,f1_,e2_,f2_,e3_,f3_,e4_,f4_,show b4_=[] from g0_] at g_
  exact⟨(⟨wt,pg,sl,itm,QA,qs.length,qc⟩:ActT),g_,⟨MK wwt,xS wpg,xS wsl,(by show itm.size<= _;omega),(by show (qs.length:Int)<= _;omega)⟩⟩)
 subst e1_ e2_
 obtain⟨QB,qb,qz,hE,atQB,lQB,bQB,wQB⟩:=xk s1
 cases hE
 obtain⟨b,hE,wb⟩:=s2
 cases hE
 refine(tY AA QB ac qb acs qz b W atAA wAA (by omega) atQB (by omega) (MK wb)).mono fun e W' ⟨he,hx⟩=>?_
 subst he
 exact⟨_,rfl,Hx KR (by rw[params11];exact(by decide+kernel)) rfl underlying4 hW' rfl rfl rfl rfl hx⟩
theorem over:Rows.storeChecksRow.holds Tryz.pinned (OpenSpec.ofChange Rows.storeChecksSpec):=
 OpenClaim.holds_of_wide 11 Tryz.f11 rfl rfl rfl rfl rfl rfl rfl ⟨rfl,rfl,rfl,rfl,rfl⟩ rfl rfl rfl rfl rfl (by kernel_rfl) func11 (by kernel_rfl)
  (of_decide_eq_true (by kernel_rfl)) (by unfold Func.isWrapper;first|(rw[if_pos (by decide+kernel)];kernel_rfl)|(rw[if_neg (by decide+kernel)];exact⟨rfl,rfl⟩))
  (fun os started H enc _=>lifted os started H enc)
theorem proved:Rows.StoreChecksSaid:=
 over
end
end Go.Proofs.YtcdjaepgahbhfaaGreat.storeChecks
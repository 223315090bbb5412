import Derived.Test.YtcdjaepgahbhfaaGreatZ7
import Derived.Test.YtcdjaepgahbhfaaGreatRows
import Derived.ProofKit
import Derived.OpenShut
import Derived.Below
import Derived.ChangeSame
import Derived.WideKeyArgs
import Derived.SliceStrings
import Derived.ChangeMaps5
import Derived.Lib.SmallJoins
import Derived.SizedLaws
import Derived.WalkKit
set_option linter.unusedVariables false
set_option linter.unusedSimpArgs false
set_option maxRecDepth 100000
set_option maxHeartbeats 16000000
namespace Go.Proofs.YtcdjaepgahbhfaaGreat
section
open Go.RowKit
theorem EM{sb db:Nat}{L:List RecM}{told:Int->Bool}{p c:Nat}{fp:List Nat}{w:World}{n:Int}(h:0<=n/\n<(p:Int))(hB:(eNi sb db L told p c fp).holds w)(hlt:∀k∈fp,k<w.heap.size)(hc:c<=800000):
  Calls Tryz.prog 79 #[po sb 0,.int .i64 n] w (fun e w'=>e= .returned (.int .i64 0)/\∃fp',St w fp [eNi sb db L told p (c+4) fp'] w'):=by
 have hp:(p:Int)<=400:=by obtain⟨S,hN,_⟩:=hB;have:=hN.ok.pgs;rw[hN.ep] at this;omega
 have h1:=uv n hB hlt hc (by constructor<;>omega)
 rw[if_pos h] at h1;exact h1
theorem Cq{sb db:Nat}{L:List RecM}{told:Int->Bool}{p c:Nat}{fp:List Nat}{w:World}{n:Int}(hn: -100<=n/\n<=100)(h:¬(0<=n/\n<(p:Int)))(hB:(eNi sb db L told p c fp).holds w)(hlt:∀k∈fp,k<w.heap.size)(hc:c<=800000):
  Calls Tryz.prog 79 #[po sb 0,.int .i64 n] w (fun e w'=>e= .returned (.int .i64 22)/\∃fp',St w fp [eNi sb db L told p (c+4) fp'] w'):=by
 have h1:=uv n hB hlt hc (by constructor<;>omega)
 rw[if_neg h] at h1;exact h1
theorem J1(xb:Nat)(bufs:Int)(L:List RecM)(told:Int->Bool)(c:Nat)(a:ActT)(fp:List Nat)(w:World)(hB:(eWd xb bufs L told c fp).holds w)(hlt:∀k∈fp,k<w.heap.size)(ha:ActOk a)(hc:c<=700000)(hwh:a.what % 10<8):
  Calls Tryz.prog 30 #[po xb 0,.agg #[.int .u8 a.what,.int .i64 a.page,.int .i64 a.slot,.string a.item,.slice a.QA a.qn a.qc]] w ((fun e w2=>e= .returned (.bool true)/\∃fp2,St w fp [eWd xb bufs (eP (L,told) a).1 (eP (L,told) a).2 (c+700) fp2] w2)):=by
 have st1:St w fp [eWd xb bufs L told c fp] w:=St.lend hB (vx _ _ _ _ _ _) hlt
 obtain⟨hw,hpg,hsl,hit,hq⟩:=id ha
 have hc:c<=800000:=by omega
 have Ue:=Int.lt_tmod_of_pos a.page (b:=7) (by decide)
 have Tu:=Int.tmod_lt_of_pos a.page (b:=7) (by decide)
 go_enter Tryz.func30,Tryz.ntmps30
 have ak:=st1
 refine wq (sqr ?_)
 refine b9 #[.int .u8 a.what,vi a.page,vi a.slot,.string a.item,.slice a.QA a.qn a.qc] ak fun cQ W1 aB=>?_
 refine sqp [.k 4 (.bool false)] ?_
 refine aa (wq (wq ?_))
 obtain⟨safe,db,sb,rb,fps,fpr,hw3_⟩:=aB.unwd
 obtain⟨hL,hz⟩:=IK (hw3_.get 1 rfl).holds
 refine sqr (sqp [.k 17 (vp cQ)] ?_)
 refine au 3 hw3_ ?_
 refine sqp [sRe 19 .u8 a.what 10 (a.what % 10) (Int.tmod_eq_emod_of_nonneg (by omega))] ?_
 refine aa (wp_block ?_)
 refine l8 (fun t_ az W=>∃b30:Bool,b30=decide (a.what % 10<=3)/\az=⟨(ovr (jv az) [(30,30,0,[.bool b30]),(0,31,4,[])] t_).toArray,[]⟩/\St w fp [eB xb 34 #[vp db,vp sb,vp rb,vi bufs,vi safe],eNi sb db L told 5 c fps,eRf rb L told 5 fpr,eB cQ 60 #[.int .u8 a.what,vi a.page,vi a.slot,.string a.item,.slice a.QA a.qn a.qc]] W) ?_ ?_
 refine wq (sqr (sqp [.k 31 (.bool ((a.what % 10)==0)),.m 30 31] ?_))
 refine aa (wbs (fun ky=>?_) fun ky=>?_)
 have pD:=beq_iff_eq.1 ky
 refine wp_skip (aa ?_)
 exact⟨(a.what % 10)==0,(by rw[Bool.eq_iff_iff];simp only[beq_iff_eq,decide_eq_true_eq];omega),(by kernel_rfl),hw3_.pk [0,1,2,3]⟩
 have pD:=beq_eq_false_iff_ne.1 ky
 refine wq (sqr (sqp [.k 32 (.bool ((a.what % 10)==1)),.m 30 32] ?_))
 refine aa (wbs (fun f6=>?_) fun f6=>?_)
 have i8:=beq_iff_eq.1 f6
 refine wp_skip (aa ?_)
 exact⟨(a.what % 10)==1,(by rw[Bool.eq_iff_iff];simp only[beq_iff_eq,decide_eq_true_eq];omega),(by kernel_rfl),hw3_.pk [0,1,2,3]⟩
 have i8:=beq_eq_false_iff_ne.1 f6
 refine wq (sqr (sqp [.k 33 (.bool ((a.what % 10)==2)),.m 30 33] ?_))
 refine aa (wbs (fun dj=>?_) fun dj=>?_)
 have l0:=beq_iff_eq.1 dj
 refine wp_skip (aa ?_)
 exact⟨(a.what % 10)==2,(by rw[Bool.eq_iff_iff];simp only[beq_iff_eq,decide_eq_true_eq];omega),(by kernel_rfl),hw3_.pk [0,1,2,3]⟩
 have l0:=beq_eq_false_iff_ne.1 dj
 refine sqr (sqp [.k 34 (.bool ((a.what % 10)==3)),.m 30 34] ?_)
 refine aa ?_
 exact⟨(a.what % 10)==3,(by rw[Bool.eq_iff_iff];simp only[beq_iff_eq,decide_eq_true_eq];omega),(by kernel_rfl),hw3_.pk [0,1,2,3]⟩
 rintro a7 W7 ⟨b30,hb30,hj_,aZ⟩
 refine ovz hj_ fun Fr=>?_
 refine wbs (fun j7=>?_) fun j7=>?_
 refine wq (aE [0,1,3,0,8,31,0,127] [[],[3],[],[3],[],[],[],[5]] [[],[],[],[],[4],[],[5],[6]] [[],[],[],[],[],[],[],[5]] [.k 35 (po cQ 1),.c 36 (vi a.page),tAn 37 .i64 a.page 127 (a.page % 128) (wH a.page 7 (by decide)),.c 38 (.agg #[.int .u8 a.what,vi a.page,vi a.slot,.string a.item,.slice a.QA a.qn a.qc]),.a 39,.a 40,.a 5,.n] (fun ix f d X=>match ix with|0|1|2|3=>True|4=>f 39= .slice (sA (d 39)) ((eF a).length) (sC (d 39))/\X 4=eO 84 3 (.slice (sA (d 39)) ((eF a).length) (sC (d 39))) ((eF a).length) ((eF a).flatMap edC)|5=>f 40= .agg #[vi 1,vi (a.page % 128),vi 0,sn,sn,.slice (sA (d 39)) ((eF a).length) (sC (d 39)),sn,.string ByteArray.empty]|6=>f 5=vp (pb (d 5))/\X 5=eB (pb (d 5)) 27 #[vi 0,vi 0,vi 0,sn,sn,sn,sn,.string ByteArray.empty]|7=>X 6=eB (pb (d 5)) 27 #[vi 1,vi (a.page % 128),vi 0,sn,sn,.slice (sA (d 39)) ((eF a).length) (sC (d 39)),sn,.string ByteArray.empty]|_=>True) [0,1,2,3,4,6] [1,3,4,5,6,7] [(5,6,1,6),(29,0,6,35)] aZ ?_ ?_ ?_)
 exact fun ix _ _ _ _ _ _ hs hb hx h=>match ix,h with
 |4,h=>by dsimp only;rw[<-hs 39 rfl,<-hb 39 rfl,<-hx 4 rfl];exact h
 |5,h=>by dsimp only;rw[<-hs 40 rfl,<-hb 39 rfl];exact h
 |6,h=>by dsimp only;rw[<-hs 5 rfl,<-hb 5 rfl,<-hx 5 rfl];exact h
 |7,h=>by dsimp only;rw[<-hb 5 rfl,<-hb 39 rfl,<-hx 6 rfl];exact h
 |0,_|1,_|2,_|3,_|_+8,_=>trivial
 refine⟨?_,?_,?_,?_,?_,?_,trivial⟩
 exact xs4 rfl id fun cx=>ae rfl (by kernel_rfl) (cx.an 0) ((cx.bi 3 rfl).cell 1)
 exact xs4 rfl id fun cx=>bZ (n:=5) rfl (by kernel_rfl) (by kernel_rfl) (cx.ou 3) (cx.bi 3 rfl) (nle rfl) rfl
 refine svA fun g d W X cx=>?_
 refine am.call (aq (args:=#[.agg #[.int .u8 a.what,vi a.page,vi a.slot,.string a.item,.slice a.QA a.qn a.qc]]) rfl cx.sees rfl (by kernel_rfl) (aw (cx.an 3))) ?_
 refine(Cf a _ ha).mono ?_
 rintro e W1 ⟨A4,c4,rfl,ho,hx⟩
 refine⟨_,rfl,bM [eO 84 3 (.slice A4 (eF a).length c4) (eF a).length ((eF a).flatMap edC)] rfl rfl hx (one_new (cg ho)) (List.pairwise_singleton _ _) (fun f i X' hs hb hv hN=>?_)⟩
 have aJ:=(hv 39 rfl).1;have aR:=(hv 39 rfl).2
 exact⟨aJ.trans (by rw[aR];exact rfl),(by rw[aR];exact(List.cons.inj hN).1)⟩
 exact sv rfl rfl rfl rfl rfl _ (fun _ _ _ h=>h) (fun d i h=>by rw[h 39 (by decide)]) fun g d W X cx=>jP rfl (pmc (cx.co _) (pmc (cx.an 2) (pmc (dTn (cx.an 4)).1 pmn))) (by kernel_rfl)
 refine svA fun g d W X cx=>?_
 exact c7 (cs:=#[vi 0,vi 0,vi 0,sn,sn,sn,sn,.string ByteArray.empty]) rfl (by kernel_rfl) rfl rfl (fun _ _ _ _ _=> .intro)
 refine svA fun g d W X cx=>?_
 exact bv (n:=8) rfl (dTn (cx.an 6)).1 (dTn (cx.an 5)) (by kernel_rfl) (by kernel_rfl) (by kernel_rfl) cx (dTn (cx.an 6)).2 rfl (nle rfl) (by kernel_rfl) rfl rfl rfl (fun f i X' hs hb hx=>by rw[hb 5,hb 39];exact hx)
 intro f d X Ml hD ke fr aD
 simp only[exq 4 ((dTn (hD 4 lq)).2),exq 6 ((dTn (hD 7 lq)))] at ke
 simp only[ed 39 ((dTn (hD 4 lq)).1),ed 40 ((dTn (hD 5 lq))),ed 5 ((dTn (hD 6 lq)).1)] at aD
 generalize sA (d 39)=mU,sC (d 39)=mV,pb (d 5)=RZ at ke aD
 clear hD;subst aD;clear f d X
 refine aa (wq ?_)
 have hw3:a.what % 10<=3:=by have h_:=j7;rw[hb30] at h_;exact of_decide_eq_true h_
 obtain⟨rs,rr,hrs,hsub,ho21_⟩:=ke.u2.unrf
 obtain⟨QA,qc,TA,tc,hq22_⟩:=ho21_.unrq
 refine sqr (sqp [.m 41 0,.k 42 (vp xb),.k 43 (po xb 2)] ?_)
 refine au 4 hq22_ ?_
 refine sqp [.k 45 (vp rb),.k 46 (po rb 1)] ?_
 refine au 0 hq22_ ?_
 refine sqp [.k 48 (vi ((rs.length:Int))),.m 6 48] ?_
 refine aa (wq ?_)
 obtain⟨fp32_,hr32_⟩:=St.rq (rs:=rs) (told:=told) (p:=5) (rr:=rr) (hq22_)
 have OF:=St.rf (L:=L) hr32_ (hrs) (hsub)
 refine aE [0,1,3,7,0,31,63,127,127,255,1023] [[],[],[],[1],[5],[2,4]] [[],[],[],[],[],[6]] [[],[],[],[],[],[2]] [.k 50 (vp xb),.k 51 (vp xb),.k 52 (po xb 1),.c 53 (vp sb),.c 54 (.agg #[vi 1,vi (a.page % 128),vi 0,sn,sn,.slice mU ((eF a).length) mV,sn,.string ByteArray.empty]),.a 55,.c 49 (.tuple #[vi ((rfD 5 L told (cW a)).2.1),vi ((rfE 5 L (cW a)))]),.k 56 (vi ((rfD 5 L told (cW a)).2.1)),.k 57 (vi ((rfE 5 L (cW a)))),.k 7 (vi ((rfD 5 L told (cW a)).2.1)),.k 8 (vi ((rfE 5 L (cW a))))] (fun ix f d X=>match ix with|0|1|2|3|4=>True|5=>f 55= .tuple #[vi ((rfD 5 L told (cW a)).2.1),vi ((rfE 5 L (cW a)))]/\X 6=eNi sb db ((rfD 5 L told (cW a)).1) ((rfD 5 L told (cW a)).2.2.2) 5 (c+700) ((X 6).fp)|_=>True) [0,1,3,4,5,6] [3,4,5,6] [(7,9,2,9),(40,6,1,41),(0,0,6,6),(0,7,2,2)] OF ?_ ?_ ?_
 exact fun ix _ _ _ _ _ _ hs hb hx h=>match ix,h with
 |5,h=>by dsimp only;rw[<-hs 55 rfl,<-hx 6 rfl];exact h
 |0,_|1,_|2,_|3,_|4,_|_+6,_=>trivial
 refine⟨?_,?_,?_,?_,trivial⟩
 exact xs4 rfl id fun cx=>ae rfl (by kernel_rfl) (cx.an 2) ((cx.bi 1 rfl).cell 1)
 exact xs4 rfl id fun cx=>bZ (n:=8) rfl (by kernel_rfl) (by kernel_rfl) (cx.ou 5) (cx.bi 5 rfl) (nle rfl) rfl
 refine svA fun g d W X cx=>?_
 refine am.call (aq (args:=#[vp sb,.agg #[vi 1,vi (a.page % 128),vi 0,sn,sn,.slice mU ((eF a).length) mV,sn,.string ByteArray.empty]]) rfl cx.sees rfl (by kernel_rfl) (aT (cx.an 3) (cx.an 4))) ?_
 refine(Bl (L:=L) (cW a) _ _ (CtxV.holdF cx (cx.init 2 _ rfl) rfl) (CtxV.ltF cx (cx.init 2 _ rfl) rfl) hc (cx.keepAt (cx.init 4 _ rfl) (cx.init 2 _ rfl) rfl rfl (by decide)) (by show (eF a).length<= _;have:=yR a;omega) (we a) (by show (0:Nat)<= _;omega)).mono ?_
 rintro e W1 ⟨rfl,fp4,aQ⟩
 refine⟨_,rfl,aK (E:=eNi sb db L told 5 c fps) [eNi sb db ((rfD 5 L told (cW a)).1) ((rfD 5 L told (cW a)).2.2.2) 5 (c+700) fp4] (cx.init 2 _ rfl) rfl rfl aQ (fun f i X' hs hb hv hN=>?_)⟩
 have aJ:=(hv 55 rfl).1;have aR:=(hv 55 rfl).2
 exact⟨aJ.trans rfl,eT ((List.cons.inj hN).1)⟩
 exact xs4 rfl id fun cx=>cD rfl (dTn (cx.an 5)).1
 intro f d X w6 hD ej fr aD
 have Nk:X 6= _:=(dTn (hD 5 lq)).2
 obtain⟨R0,Ai⟩:∃z,(X 6).fp=z:=⟨_,rfl⟩
 rw[Ai] at Nk
 clear Ai
 simp only[Nk] at ej
 simp only[ed 55 ((dTn (hD 5 lq)).1)] at aD
 clear hD Nk;subst aD;clear f d X
 refine aa (wq ?_)
 obtain⟨fg35_,hg35_⟩:=St.rh (t:=(⟨cW a,mU,mV⟩:RcT)) ej.u3
 refine aE [0,1,3,7,0,31,0,127] [[],[],[],[1],[3],[0],[],[6]] [[],[],[],[],[],[5],[6],[7]] [[],[],[],[],[],[0],[],[6]] [.k 58 (vp xb),.k 59 (vp xb),.k 60 (po xb 2),.c 61 (vp rb),.c 62 (.agg #[vi 1,vi (a.page % 128),vi 0,sn,sn,.slice mU ((eF a).length) mV,sn,.string ByteArray.empty]),.a 63,.a 9,.n] (fun ix f d X=>match ix with|0|1|2|3|4=>True|5=>f 63= .agg #[vi ((rfD 5 L told (cW a)).2.1),vi ((rfE 5 L (cW a)))]/\X 5=eRf rb ((rfD 5 L told (cW a)).1) ((rfD 5 L told (cW a)).2.2.2) 5 ((X 5).fp)|6=>f 9=vp (pb (d 9))/\X 6=eB (pb (d 9)) 129 #[vi 0,vi 0]|7=>X 7=eB (pb (d 9)) 129 #[vi ((rfD 5 L told (cW a)).2.1),vi ((rfE 5 L (cW a)))]|_=>True) [1,2,3,4,5,7] [3,4,5,6,7] [(9,6,1,10),(48,0,6,54)] hg35_ ?_ ?_ ?_
 exact fun ix _ _ _ _ _ _ hs hb hx h=>match ix,h with
 |5,h=>by dsimp only;rw[<-hs 63 rfl,<-hx 5 rfl];exact h
 |6,h=>by dsimp only;rw[<-hs 9 rfl,<-hb 9 rfl,<-hx 6 rfl];exact h
 |7,h=>by dsimp only;rw[<-hb 9 rfl,<-hx 7 rfl];exact h
 |0,_|1,_|2,_|3,_|4,_|_+8,_=>trivial
 refine⟨?_,?_,?_,?_,?_,trivial⟩
 exact xs4 rfl id fun cx=>ae rfl (by kernel_rfl) (cx.an 2) ((cx.bi 1 rfl).cell 2)
 exact xs4 rfl id fun cx=>bZ (n:=8) rfl (by kernel_rfl) (by kernel_rfl) (cx.ou 5) (cx.bi 3 rfl) (nle rfl) rfl
 refine svA fun g d W X cx=>?_
 refine am.call (aq (args:=#[vp rb,.agg #[vi 1,vi (a.page % 128),vi 0,sn,sn,.slice mU ((eF a).length) mV,sn,.string ByteArray.empty]]) rfl cx.sees rfl (by kernel_rfl) (aT (cx.an 3) (cx.an 4))) ?_
 refine(Dx rb L told 5 (⟨cW a,mU,mV⟩:RcT) _ _ (CtxV.holdF cx (cx.init 0 _ rfl) rfl) (CtxV.ltF cx (cx.init 0 _ rfl) rfl) hL hz (by decide) (by show (eF a).length<= _;have:=yR a;omega) (we a) (by show (0:Nat)<= _;omega)).mono ?_
 rintro e W1 ⟨rfl,fp4,aQ⟩
 refine⟨_,rfl,aK (E:=eRh rb L told 5 (⟨cW a,mU,mV⟩:RcT) fg35_) [eRf rb ((rfD 5 L told (cW a)).1) ((rfD 5 L told (cW a)).2.2.2) 5 fp4] (cx.init 0 _ rfl) rfl rfl aQ (fun f i X' hs hb hv hN=>?_)⟩
 have aJ:=(hv 63 rfl).1;have aR:=(hv 63 rfl).2
 exact⟨aJ.trans rfl,td ((List.cons.inj hN).1)⟩
 refine svA fun g d W X cx=>?_
 exact c7 (cs:=#[vi 0,vi 0]) rfl (by kernel_rfl) rfl rfl (fun _ _ _ _ _=> .intro)
 refine svA fun g d W X cx=>?_
 exact bv (n:=2) rfl (dTn (cx.an 6)).1 (dTn (cx.an 5)).1 (by kernel_rfl) (by kernel_rfl) (by kernel_rfl) cx (dTn (cx.an 6)).2 rfl (nle rfl) (by kernel_rfl) rfl rfl rfl (fun f i X' hs hb hx=>by rw[hb 9];exact hx)
 intro f d X zo hD eN fr aD
 obtain⟨Jf,tG⟩:∃z,pb (d 9)=z:=⟨_,rfl⟩
 have zI:X 5= _:=(dTn (hD 5 lq)).2
 obtain⟨R1,Aj⟩:∃z,(X 5).fp=z:=⟨_,rfl⟩
 rw[Aj] at zI
 clear Aj
 simp only[zI,exq 7 ((dTn (hD 7 lq))),tG] at eN
 simp only[ed 63 ((dTn (hD 5 lq)).1),ed 9 ((dTn (hD 6 lq)).1),tG] at aD
 clear hD zI tG;subst aD;clear f d X
 refine aa (wq (wq (sqr (sqp [.m 64 0,.k 65 (vp xb),.k 66 (vp xb)] ?_))))
 refine au 0 eN ?_
 refine sqk (.bool true) eN (fun cx=>⟨_,md (CtxV.holdF cx (cx.init 3 _ rfl) rfl),(aw (cx.ou 67))⟩) fun IR j9=>?_
 refine sqp [.k 69 (.bool false)] ?_
 refine aa (wcf rfl (wp_skip (aa (wq (sqr (sqp [.m 96 8,.k 97 (po Jf 1)] ?_))))))
 refine au 5 j9 ?_
 have hd47:((rfE 5 L (cW a)) != (rfE 5 L (cW a)))=false:=(by simp)
 refine sqp [.e 99 (.bool ((rfE 5 L (cW a)) != (rfE 5 L (cW a)))) (.bool false) (congrArg Value.bool hd47),.k 100 (.bool false)] ?_
 refine dF 100 [101,102,103,104] rfl rfl ?_
 refine sqp [.m 101 7,.k 102 (vp Jf)] ?_
 refine au 5 j9 ?_
 have hd53:(((rfD 5 L told (cW a)).2.1) != ((rfD 5 L told (cW a)).2.1))=false:=(by simp)
 refine sqp [.e 104 (.bool (((rfD 5 L told (cW a)).2.1) != ((rfD 5 L told (cW a)).2.1))) (.bool false) (congrArg Value.bool hd53)] ?_
 refine sqp [.k 105 (.bool false)] ?_
 refine aa (wcf rfl (wp_skip (av (aa (wq (sqr (sqp [.k 4 (.bool true)] ?_)))))))
 refine aa (wp_ret ?_)
 refine bpr (.bool true) (ag Tryz.results30 rpt) ?_
 obtain⟨fw56_,hw56_⟩:=St.wd j9.u1.c0.u1.c0.u3.c0
 have hE_:eP (L,told) a=((rfD 5 L told (cW a)).1,(rfD 5 L told (cW a)).2.2.2):=if_pos hw3
 obtain⟨fz_,hz_⟩:=hw56_.wdm (c2:=c+700) (by omega)
 exact⟨rfl,_,by rw[hE_];exact hz_⟩
 refine wq ?_
 have hw3n:¬a.what % 10<=3:=by have h_:=j7;rw[hb30] at h_;exact of_decide_eq_false h_
 refine sqr (sqp [.k 107 (.bool ((a.what % 10)==4)),.m 106 107] ?_)
 refine aa (wbs (fun pC=>?_) fun pC=>?_)
 have CT:=beq_iff_eq.1 pC
 refine wq (sqr (sqp [.m 108 0,.k 109 (vp xb),.k 110 (po xb 1)] ?_))
 refine au 0 aZ ?_
 refine bN (fun X_=>X_.fp) (vi ((frF 5 L told))) (fun Jg=>eNi sb db L (frT 5 L told) 5 (c+3*5+1) Jg) 1 aZ (by
   refine svA fun g d W X cx=>?_
   refine am.call (aq (args:=#[vp sb]) rfl cx.sees rfl (by kernel_rfl) (aw (cx.ou 111))) ?_
   refine(oY (CtxV.holdF cx (cx.init 1 _ rfl) rfl) (CtxV.ltF cx (cx.init 1 _ rfl) rfl) hc).mono ?_
   rintro e W1 ⟨rfl,fp4,aQ⟩
   refine⟨_,rfl,aK (E:=eNi sb db L told 5 c fps) [eNi sb db L (frT 5 L told) 5 (c+3*5+1) fp4] (cx.init 1 _ rfl) rfl rfl aQ (fun f i X' hs hb hv hN=>?_)⟩
   have aJ:=(hv 112 rfl).1;have aR:=(hv 112 rfl).2
   exact⟨aJ.trans rfl,eT ((List.cons.inj hN).1)⟩) fun Jg Mw iy=>?_
 refine sqp [.m 10 112] ?_
 refine aa (wq (wq (sqr (sqp [.m 113 0,.k 114 (vp xb),.k 115 (vp xb)] ?_))))
 refine au 0 iy ?_
 refine sqk (.bool true) iy (fun cx=>⟨_,md (CtxV.holdF cx (cx.init 1 _ rfl) rfl),(aw (cx.ou 116))⟩) fun Ru nu=>?_
 refine sqp [.k 118 (.bool false)] ?_
 refine aa (wcf rfl (wp_skip (aa (wq (sqr (sqp [.m 123 10,.m 124 0,.k 125 (vp xb),.k 126 (po xb 2)] ?_))))))
 refine au 0 nu ?_
 refine bN (fun X_=>X_.fp) (vi ((frF 5 L told))) (fun Jh=>eRf rb L (frT 5 L told) 5 Jh) 2 nu (by
   refine svA fun g d W X cx=>?_
   refine am.call (aq (args:=#[vp rb]) rfl cx.sees rfl (by kernel_rfl) (aw (cx.ou 127))) ?_
   refine(yY rb L told 5 _ _ (CtxV.holdF cx (cx.init 2 _ rfl) rfl) (CtxV.ltF cx (cx.init 2 _ rfl) rfl) hL hz (by decide)).mono ?_
   rintro e W1 ⟨rfl,fp4,aQ⟩
   refine⟨_,rfl,aK (E:=eRf rb L told 5 fpr) [eRf rb L (frT 5 L told) 5 fp4] (cx.init 2 _ rfl) rfl rfl aQ (fun f i X' hs hb hv hN=>?_)⟩
   have aJ:=(hv 128 rfl).1;have aR:=(hv 128 rfl).2
   exact⟨aJ.trans rfl,td ((List.cons.inj hN).1)⟩) fun Jh Uf OG=>?_
 have hd79:((frF 5 L told) != (frF 5 L told))=false:=(by simp)
 refine sqp [.e 129 (.bool ((frF 5 L told) != (frF 5 L told))) (.bool false) (congrArg Value.bool hd79)] ?_
 refine aa (wcf rfl (wp_skip (av (aa (wq (sqr (sqp [.k 4 (.bool true)] ?_)))))))
 refine aa (wp_ret ?_)
 refine bpr (.bool true) (ag Tryz.results30 rpt) ?_
 obtain⟨fw81_,hw81_⟩:=St.wd OG.u3.c0
 have hE_:eP (L,told) a=(L,frT 5 L told):=by rw[eP,if_neg (by omega),if_pos (by omega)]
 obtain⟨fz_,hz_⟩:=hw81_.wdm (c2:=c+700) (by omega)
 exact⟨rfl,_,by rw[hE_];exact hz_⟩
 have CT:=beq_eq_false_iff_ne.1 pC
 refine wq (sqr (sqp [.k 131 (.bool ((a.what % 10)==5)),.m 130 131] ?_))
 refine aa (wbs (fun zF=>?_) fun zF=>?_)
 have CV:=beq_iff_eq.1 zF
 refine wq (sqr (sqp [.m 132 0,.k 133 (vp xb),.k 134 (po xb 1)] ?_))
 refine au 0 aZ ?_
 refine bN (fun X_=>X_.fp) (vi 0) (fun Ji=>eNi sb db L told 5 c Ji) 1 aZ (by
   refine svA fun g d W X cx=>?_
   refine am.call (aq (args:=#[vp sb]) rfl cx.sees rfl (by kernel_rfl) (aw (cx.ou 135))) ?_
   refine(Cw (CtxV.holdF cx (cx.init 1 _ rfl) rfl) (CtxV.ltF cx (cx.init 1 _ rfl) rfl)).mono ?_
   rintro e W1 ⟨rfl,fp4,aQ⟩
   refine⟨_,rfl,aK (E:=eNi sb db L told 5 c fps) [eNi sb db L told 5 c fp4] (cx.init 1 _ rfl) rfl rfl aQ (fun f i X' hs hb hv hN=>?_)⟩
   have aJ:=(hv 136 rfl).1;have aR:=(hv 136 rfl).2
   exact⟨aJ.trans rfl,eT ((List.cons.inj hN).1)⟩) fun Ji Mm lZ=>?_
 refine sqp [.m 11 136] ?_
 refine aa (wq (wq (sqr (sqp [.m 137 0,.k 138 (vp xb),.k 139 (vp xb)] ?_))))
 refine au 0 lZ ?_
 refine sqk (.bool true) lZ (fun cx=>⟨_,md (CtxV.holdF cx (cx.init 1 _ rfl) rfl),(aw (cx.ou 140))⟩) fun Ug OH=>?_
 refine sqp [.k 142 (.bool false)] ?_
 refine aa (wcf rfl (wp_skip (aa (wq ?_))))
 obtain⟨rs,rr,hrs,hsub,ho97_⟩:=OH.u2.unrf
 obtain⟨QA,qc,TA,tc,hq98_⟩:=ho97_.unrq
 refine sqr (sqp [.m 151 0,.m 152 0,.k 153 (vp xb),.k 154 (po xb 2)] ?_)
 refine au 4 hq98_ ?_
 refine sqp [.k 156 (vp rb),.k 157 (po rb 1)] ?_
 refine au 0 hq98_ ?_
 refine sqp [.k 159 (vi ((rs.length:Int))),.k 160 (vp xb),.k 161 (po xb 4)] ?_
 refine aY (n:=1) 4 #[vp db,vp sb,vp rb,vi bufs,vi ((rs.length:Int))] hq98_ fun Tv Nl=>?_
 refine aa (wq (sqr (sqp [.m 162 11,.k 163 (.bool false)] ?_)))
 refine aa (wcf rfl (wp_skip (av (aa (wq (sqr (sqp [.k 4 (.bool true)] ?_)))))))
 refine aa (wp_ret ?_)
 refine bpr (.bool true) (ag Tryz.results30 rpt) ?_
 obtain⟨fp114_,hr114_⟩:=St.rq (rs:=rs) (told:=told) (p:=5) (rr:=rr) (Nl)
 have Nm:=St.rf (L:=L) hr114_ (hrs) (hsub)
 obtain⟨fw116_,hw116_⟩:=St.wd Nm.u3.c0.u2.u2
 have hE_:eP (L,told) a=(L,told):=by rw[eP,if_neg (by omega),if_neg (by omega),if_pos (by omega)]
 obtain⟨fz_,hz_⟩:=hw116_.wdm (c2:=c+700) (by omega)
 exact⟨rfl,_,by rw[hE_];exact hz_⟩
 have CV:=beq_eq_false_iff_ne.1 zF
 refine wq (sqr (sqp [.k 165 (.bool ((a.what % 10)==6)),.m 164 165] ?_))
 refine aa (wbs (fun vb=>?_) fun vb=>?_)
 have zU:=beq_iff_eq.1 vb
 refine wq (sqr (sqp [.k 166 (po cQ 1)] ?_))
 refine au 3 aZ ?_
 refine sqp [sRe 168 .i64 a.page 7 (a.page.tmod 7) (rfl),sI 169 ((a.page.tmod 7)+5) (by omega),sJ 170 ((a.page.tmod 7+5)+2) (a.page.tmod 7+7) (by omega) (by omega),sRe 171 .i64 (a.page.tmod 7+7) 7 ((a.page.tmod 7+7) % 7) (Int.tmod_eq_emod_of_nonneg (by omega)),sI 172 (((a.page.tmod 7+7) % 7)-1) (by omega),.m 12 172] ?_
 refine aa (wq ?_)
 obtain⟨nW,hnW⟩:∃z,(a.page.tmod 7+7) % 7-1=z:=⟨_,rfl⟩
 rw[hnW]
 have hnb: -100<=nW/\nW<=100:=by omega
 by_cases hnr:0<=nW/\nW<((5:Nat):Int)
 refine sqr (sqp [.m 173 0,.k 174 (vp xb),.k 175 (po xb 1)] ?_)
 refine au 0 aZ ?_
 refine sqp [.m 177 12] ?_
 refine bN (fun X_=>X_.fp) (vi 0) (fun FP=>eNi sb db L told 5 (c+4) FP) 1 aZ (by
   refine svA fun g d W X cx=>?_
   refine am.call (aq (args:=#[vp sb,vi nW]) rfl cx.sees rfl (by kernel_rfl) (aT (cx.ou 176) (cx.ou 177))) ?_
   refine(EM hnr (CtxV.holdF cx (cx.init 1 _ rfl) rfl) (CtxV.ltF cx (cx.init 1 _ rfl) rfl) hc).mono ?_
   rintro e W1 ⟨rfl,fp4,aQ⟩
   refine⟨_,rfl,aK (E:=eNi sb db L told 5 c fps) [eNi sb db L told 5 (c+4) fp4] (cx.init 1 _ rfl) rfl rfl aQ (fun f i X' hs hb hv hN=>?_)⟩
   have aJ:=(hv 178 rfl).1;have aR:=(hv 178 rfl).2
   exact⟨aJ.trans rfl,eT ((List.cons.inj hN).1)⟩) fun FP Tw FQ=>?_
 refine sqp [.m 13 178] ?_
 refine aa (wq (wq (sqr (sqp [.m 179 0,.k 180 (vp xb),.k 181 (vp xb)] ?_))))
 refine au 0 FQ ?_
 refine sqk (.bool true) FQ (fun cx=>⟨_,md (CtxV.holdF cx (cx.init 1 _ rfl) rfl),(aw (cx.ou 182))⟩) fun Tx Nn=>?_
 refine sqp [.k 184 (.bool false)] ?_
 refine aa (wcf rfl (wp_skip (aa (wq (wq (sqr (sqp [.m 189 12,.k 190 (.bool (decide (nW<0))),.m 191 190] ?_)))))))
 refine sqw 191 [192,193] rfl (fun _=>sqp [.m 192 12,.k 193 (.bool (decide (5<=nW)))] sqe) ?_
 have hd147:((decide (nW<0))||(decide (5<=nW)))=false:=(by simp;omega)
 refine sqp [Ci 194 (decide (nW<0)) (decide (5<=nW)) false hd147] ?_
 refine aa (wcf rfl (wp_skip (aa (wq ?_))))
 obtain⟨rs,rr,hrs,hsub,ho148_⟩:=Nn.u2.unrf
 obtain⟨QA,qc,TA,tc,hq149_⟩:=ho148_.unrq
 have hrl:rs.length<=1000000:=by have h_:=congrArg List.length hrs;rw[List.length_map] at h_;have:=qx hL hz;omega
 have hrL:∀t∈rs,bz t.r=true:=fun t ht=>hL _ (hrs ▸ List.mem_map.2 ⟨t,ht,rfl⟩)
 refine aE [0,0,2,6,14,0,32,96,224,480,992,2016,0,8160,16352,32766,65535,131071,262143] [[],[],[],[],[4],[],[],[],[4],[],[],[0],[],[1,3],[],[],[],[],[4]] [[],[],[],[],[],[],[],[],[],[],[],[],[],[7],[],[],[],[],[8]] [[],[],[],[],[],[],[],[],[],[],[],[],[],[],[],[],[],[],[4]] [.k 197 (vp xb),.k 198 (vp xb),.k 199 (vp xb),.k 200 (po xb 4),.c 201 (vi safe),.k 202 (vp xb),.k 203 (vp xb),.k 204 (po xb 2),.c 205 (vp rb),.k 206 (vp rb),.k 207 (po rb 1),.c 208 (.slice QA rs.length qc),.k 209 (vi nW),.a 210,.c 211 (vi ((ah (rs.map RcT.r) nW).2.1)),.c 212 (vi (max safe ((ah (rs.map RcT.r) nW).2.1))),.k 213 (vp xb),.k 214 (po xb 4),.n] (fun ix f d X=>match ix with|0|1|2|3|4|5|6|7|8|9|10|11|12=>True|13=>f 210= .agg #[vi ((ah (rs.map RcT.r) nW).1),vi ((ah (rs.map RcT.r) nW).2.1),.slice (sA (tg (d 210) 2)) ((ah (rs.map RcT.r) nW).2.2.length) (sC (tg (d 210) 2))]/\X 7=eO 9 1 (.slice (sA (tg (d 210) 2)) ((ah (rs.map RcT.r) nW).2.2.length) (sC (tg (d 210) 2))) ((ah (rs.map RcT.r) nW).2.2.length) ((ah (rs.map RcT.r) nW).2.2.map Value.string)|14|15|16|17=>True|18=>X 8=eB xb 34 #[vp db,vp sb,vp rb,vi bufs,vi (max safe ((ah (rs.map RcT.r) nW).2.1))]|_=>True) [0,1,2,3,5,6,7,8] [4,8,11,13,14,15,18] [(197,0,18,215)] hq149_ ?_ ?_ ?_
 exact fun ix _ _ _ _ _ _ hs hb hx h=>match ix,h with
 |13,h=>by dsimp only;rw[<-hs 210 rfl,<-hb 210 rfl,<-hx 7 rfl];exact h
 |18,h=>by dsimp only;rw[<-hx 8 rfl];exact h
 |0,_|1,_|2,_|3,_|4,_|5,_|6,_|7,_|8,_|9,_|10,_|11,_|12,_|14,_|15,_|16,_|17,_|_+19,_=>trivial
 refine⟨?_,?_,?_,?_,?_,?_,?_,trivial⟩
 exact xs4 rfl id fun cx=>ae rfl (by kernel_rfl) (cx.an 3) ((cx.bi 4 rfl).cell 4)
 exact xs4 rfl id fun cx=>ae rfl (by kernel_rfl) (cx.an 7) ((cx.bi 4 rfl).cell 2)
 exact xs4 rfl id fun cx=>ae rfl (by kernel_rfl) (cx.an 10) ((cx.bi 0 rfl).cell 1)
 refine svA fun g d W X cx=>?_
 refine am.call (aq (args:=#[.slice QA rs.length qc,vi nW]) rfl cx.sees rfl (by kernel_rfl) (aT (cx.an 11) (cx.an 12))) ?_
 refine(kD _ _ rs nW _ ⟨At.of_ownN (cx.ri 1 rfl),fun t ht=>di (CtxV.holdF cx (cx.init 3 _ rfl) rfl) (hsub t ht)⟩ hrl hrL).mono ?_
 rintro e W1 ⟨A4,c4,rfl,ho,hx⟩
 refine⟨_,rfl,bM [eO 9 1 (.slice A4 (ah (rs.map RcT.r) nW).2.2.length c4) (ah (rs.map RcT.r) nW).2.2.length ((ah (rs.map RcT.r) nW).2.2.map Value.string)] rfl rfl hx (one_new (cg ho)) (List.pairwise_singleton _ _) (fun f i X' hs hb hv hN=>?_)⟩
 have aJ:=(hv 210 rfl).1;have aR:=(hv 210 rfl).2
 exact⟨aJ.trans (by rw[aR];exact rfl),(by rw[aR];exact(List.cons.inj hN).1)⟩
 exact xs4 rfl id fun cx=>lU rfl (dTn (cx.an 13)).1 (fun _=>by kernel_rfl)
 exact xs4 rfl id fun cx=>sO rfl (cx.an 4) (cx.an 14) rfl
 refine svA fun g d W X cx=>?_
 exact bv (n:=1) rfl (cx.an 17) (cx.an 15) (by kernel_rfl) (by kernel_rfl) (by kernel_rfl) cx (cx.init 4 _ rfl) rfl (nle rfl) (by kernel_rfl) rfl rfl rfl (fun _ _ _ _ _=>id)
 intro f d X Ty hD Ak fr aD
 simp only[exq 7 ((dTn (hD 13 lq)).2),exq 8 ((dTn (hD 18 lq)))] at Ak
 simp only[ed 210 ((dTn (hD 13 lq)).1)] at aD
 generalize sA (tg (d 210) 2)=P4,sC (tg (d 210) 2)=P5 at Ak aD
 clear hD;subst aD;clear f d X
 refine aa (wq (sqr (sqp [.m 215 13,.k 216 (.bool false)] ?_)))
 refine aa (wcf rfl (wp_skip (av (aa (wq (sqr (sqp [.k 4 (.bool true)] ?_)))))))
 refine aa (wp_ret ?_)
 refine bpr (.bool true) (ag Tryz.results30 rpt) ?_
 obtain⟨fp154_,hr154_⟩:=St.rq (rs:=rs) (told:=told) (p:=5) (rr:=rr) (Ak)
 have No:=St.rf (L:=L) hr154_ (hrs) (hsub)
 obtain⟨fw156_,hw156_⟩:=St.wd No.u2.c0.u2.c0.u1.u2
 have hE_:eP (L,told) a=(L,told):=by rw[eP,if_neg (by omega),if_neg (by omega),if_pos (by omega)]
 obtain⟨fz_,hz_⟩:=hw156_.wdm (c2:=c+700) (by omega)
 exact⟨rfl,_,by rw[hE_];exact hz_⟩
 refine sqr (sqp [.m 173 0,.k 174 (vp xb),.k 175 (po xb 1)] ?_)
 refine au 0 aZ ?_
 refine sqp [.m 177 12] ?_
 refine bN (fun X_=>X_.fp) (vi 22) (fun FR=>eNi sb db L told 5 (c+4) FR) 1 aZ (by
   refine svA fun g d W X cx=>?_
   refine am.call (aq (args:=#[vp sb,vi nW]) rfl cx.sees rfl (by kernel_rfl) (aT (cx.ou 176) (cx.ou 177))) ?_
   refine(Cq hnb hnr (CtxV.holdF cx (cx.init 1 _ rfl) rfl) (CtxV.ltF cx (cx.init 1 _ rfl) rfl) hc).mono ?_
   rintro e W1 ⟨rfl,fp4,aQ⟩
   refine⟨_,rfl,aK (E:=eNi sb db L told 5 c fps) [eNi sb db L told 5 (c+4) fp4] (cx.init 1 _ rfl) rfl rfl aQ (fun f i X' hs hb hv hN=>?_)⟩
   have aJ:=(hv 178 rfl).1;have aR:=(hv 178 rfl).2
   exact⟨aJ.trans rfl,eT ((List.cons.inj hN).1)⟩) fun FR Tz FS=>?_
 refine sqp [.m 13 178] ?_
 refine aa (wq (wq (sqr (sqp [.m 179 0,.k 180 (vp xb),.k 181 (vp xb)] ?_))))
 refine au 0 FS ?_
 refine sqk (.bool true) FS (fun cx=>⟨_,md (CtxV.holdF cx (cx.init 1 _ rfl) rfl),(aw (cx.ou 182))⟩) fun PO vd=>?_
 refine sqp [.k 184 (.bool false)] ?_
 refine aa (wcf rfl (wp_skip (aa (wq (wq (sqr (sqp [.m 189 12,.k 190 (.bool (decide (nW<0))),.m 191 190] ?_)))))))
 refine sqw 191 [192,193] rfl (fun _=>sqp [.m 192 12,.k 193 (.bool (decide (5<=nW)))] sqe) ?_
 have hd176:((decide (nW<0))||(decide (5<=nW)))=true:=(by simp;omega)
 refine sqp [Ci 194 (decide (nW<0)) (decide (5<=nW)) true hd176] ?_
 refine aa (wct rfl (wq (sqr (sqp [.m 195 13,.k 196 (.bool true),.k 4 (.bool true)] ?_))))
 refine aa (wp_ret (ai (aV (ai ?_))))
 refine bpr (.bool true) (ag Tryz.results30 rpt) ?_
 obtain⟨fw180_,hw180_⟩:=St.wd vd.u3.c0
 have hE_:eP (L,told) a=(L,told):=by rw[eP,if_neg (by omega),if_neg (by omega),if_pos (by omega)]
 obtain⟨fz_,hz_⟩:=hw180_.wdm (c2:=c+700) (by omega)
 exact⟨rfl,_,by rw[hE_];exact hz_⟩
 have zU:=beq_eq_false_iff_ne.1 vb
 refine wq (sqr ?_)
 have hd182:((a.what % 10)==7)=true:=(beq_iff_eq.2 (by omega))
 refine sqp [.e 218 (.bool ((a.what % 10)==7)) (.bool true) (congrArg Value.bool hd182),.k 217 (.bool true)] ?_
 refine aa (wct rfl (wq (sqr (sqp [.k 219 (po cQ 3)] ?_))))
 refine au 3 aZ ?_
 refine sqp [.k 221 (po cQ 3)] ?_
 refine au 3 aZ ?_
 refine sqp [.k 223 (vi ((a.item.size:Int)))] ?_
 refine sql (vi (min (a.item.size:Int) 50)) aZ (fun cx=>jx rfl (cx.ou 223) (cx.co _) (rfl)) ?_
 refine sql (.string (a.item.extract 0 ((min (a.item.size:Int) 50).toNat))) aZ (fun cx=>gD (l:=(min (a.item.size:Int) 50).toNat) rfl (by kernel_rfl) (cx.ou 220) (cx.ou 224) (by omega) (by omega)) ?_
 refine sqp [.m 14 225] ?_
 refine aa (wq ?_)
 obtain⟨nt,hnt⟩:∃z,ntA a=z:=⟨_,rfl⟩
 have hnz:nt.size<=50:=hnt ▸ Gs a
 have hnt2:a.item.extract 0 ((min (a.item.size:Int) 50).toNat)=nt:=hnt
 rw[hnt2]
 refine sqr (sqp [.m 226 0,.k 227 (vp xb),.k 228 (po xb 1)] ?_)
 refine au 0 aZ ?_
 refine sqp [.m 230 14] ?_
 refine bN (fun X_=>X_.fp) (vi ((fX L nt))) (fun FT=>eNi sb db (ckL L nt) told 5 (c+500) FT) 1 aZ (by
   refine svA fun g d W X cx=>?_
   refine am.call (aq (args:=#[vp sb,.string nt]) rfl cx.sees rfl (by kernel_rfl) (aT (cx.ou 229) (cx.ou 230))) ?_
   refine(Cu nt (CtxV.holdF cx (cx.init 1 _ rfl) rfl) (CtxV.ltF cx (cx.init 1 _ rfl) rfl) hc (by omega)).mono ?_
   rintro e W1 ⟨rfl,fp4,aQ⟩
   refine⟨_,rfl,aK (E:=eNi sb db L told 5 c fps) [eNi sb db (ckL L nt) told 5 (c+500) fp4] (cx.init 1 _ rfl) rfl rfl aQ (fun f i X' hs hb hv hN=>?_)⟩
   have aJ:=(hv 231 rfl).1;have aR:=(hv 231 rfl).2
   exact⟨aJ.trans rfl,eT ((List.cons.inj hN).1)⟩) fun FT TB FU=>?_
 refine sqp [.m 15 231] ?_
 refine aa (wq (sqr (sqp [.m 232 0,.k 233 (vp xb),.k 234 (po xb 2)] ?_)))
 refine au 0 FU ?_
 refine sqp [.m 236 14] ?_
 refine bN (fun X_=>X_.fp) (vi ((fX L nt))) (fun FV=>eRf rb (ckL L nt) told 5 FV) 2 FU (by
   refine svA fun g d W X cx=>?_
   refine am.call (aq (args:=#[vp rb,.string nt]) rfl cx.sees rfl (by kernel_rfl) (aT (cx.ou 235) (cx.ou 236))) ?_
   refine(y5 rb L told 5 nt _ _ (CtxV.holdF cx (cx.init 2 _ rfl) rfl) (CtxV.ltF cx (cx.init 2 _ rfl) rfl) hL hz (by omega)).mono ?_
   rintro e W1 ⟨rfl,fp4,aQ⟩
   refine⟨_,rfl,aK (E:=eRf rb L told 5 fpr) [eRf rb (ckL L nt) told 5 fp4] (cx.init 2 _ rfl) rfl rfl aQ (fun f i X' hs hb hv hN=>?_)⟩
   have aJ:=(hv 237 rfl).1;have aR:=(hv 237 rfl).2
   exact⟨aJ.trans rfl,td ((List.cons.inj hN).1)⟩) fun FV TC FW=>?_
 refine sqp [.m 16 237] ?_
 refine aa (wq (wq (sqr (sqp [.m 238 0,.k 239 (vp xb),.k 240 (vp xb)] ?_))))
 refine au 0 FW ?_
 refine sqk (.bool true) FW (fun cx=>⟨_,md (CtxV.holdF cx (cx.init 1 _ rfl) rfl),(aw (cx.ou 241))⟩) fun TD Np=>?_
 refine sqp [.k 243 (.bool false)] ?_
 refine aa (wcf rfl (wp_skip (aa (wq (wq (sqr ?_))))))
 have hd215:((fX L nt) != (fX L nt))=false:=(by simp)
 refine sqp [.m 252 15,.m 253 16,.e 254 (.bool ((fX L nt) != (fX L nt))) (.bool false) (congrArg Value.bool hd215)] ?_
 refine aa (wcf rfl (wp_skip (aa ?_)))
 obtain⟨rs,rr,hrs,hsub,ho216_⟩:=Np.u2.unrf
 obtain⟨QA,qc,TA,tc,hq217_⟩:=ho216_.unrq
 refine sqr (sqp [.m 255 0,.m 256 0,.k 257 (vp xb),.k 258 (po xb 2)] ?_)
 refine au 4 hq217_ ?_
 refine sqp [.k 260 (vp rb),.k 261 (po rb 1)] ?_
 refine au 0 hq217_ ?_
 refine sqp [.k 263 (vi ((rs.length:Int))),.k 264 (vp xb),.k 265 (po xb 4)] ?_
 refine aY (n:=1) 4 #[vp db,vp sb,vp rb,vi bufs,vi ((rs.length:Int))] hq217_ fun TF Nq=>?_
 refine av (aa (wq (sqr (sqp [.k 4 (.bool true)] ?_))))
 refine aa (wp_ret ?_)
 refine bpr (.bool true) (ag Tryz.results30 rpt) ?_
 obtain⟨fp231_,hr231_⟩:=St.rq (rs:=rs) (told:=told) (p:=5) (rr:=rr) (Nq)
 have Nr:=St.rf (L:=(ckL L nt)) hr231_ (hrs) (hsub)
 obtain⟨fw233_,hw233_⟩:=St.wd Nr.u3.c0.u2.u2
 have hE_:eP (L,told) a=(ckL L nt,told):=by rw[eP,if_neg (by omega),if_neg (by omega),if_neg (by omega),hnt]
 obtain⟨fz_,hz_⟩:=hw233_.wdm (c2:=c+700) (by omega)
 exact⟨rfl,_,by rw[hE_];exact hz_⟩
end
section
open Go.RowKit
noncomputable def nB(s:List RecM×(Int->Bool))(acs:List ActT):List RecM×(Int->Bool):=acs.foldl (fun s a=>if a.what % 10<8 then eP s a else s) s
noncomputable def o0(s:List RecM×(Int->Bool))(acs:List ActT):List RecM×(Int->Bool):=nB s (acs.take 25)
theorem wo{s:List RecM×(Int->Bool)}{acs:List ActT}{i:Nat}{a:ActT}(h:acs[i]? =some a):nB s (acs.take (i+1))=if a.what % 10<8 then eP (nB s (acs.take i)) a else nB s (acs.take i):=by
 rw[List.take_add_one,h,nB,nB,List.foldl_append];rfl
def a0:ActT:=⟨0,0,0,⟨#[]⟩,none,0,0⟩
theorem CB(xb:Nat)(bufs:Int)(L:List RecM)(told:Int->Bool)(c:Nat)(AA:Option Addr)(ac:Nat)(acs:List ActT)(fp:List Nat)(w:World)(hB:(eWd xb bufs L told c fp).holds w)(hlt:∀k∈fp,k<w.heap.size)(hA:∀W,Upd fp w W->At W AA (acs.flatMap acC))(hok:∀a∈acs,ActOk a)(hal:acs.length<=100000000000000)(hc:c<=600000):
  Calls Tryz.prog 32 #[po xb 0,.slice AA acs.length ac] w ((fun e w2=>e= .returned (.bool true)/\∃fp2,St w fp [eWd xb bufs (o0 (L,told) acs).1 (o0 (L,told) acs).2 (c+17500) fp2] w2)):=by
 have st1:St w fp [eWd xb bufs L told c fp] w:=St.lend hB (vx _ _ _ _ _ _) hlt
 go_enter Tryz.func32,Tryz.ntmps32
 have ak:=st1
 refine wq (sqr (sqp [.k 4 (.bool false)] ?_))
 refine aa (wq (wq (sqr (sqp [.k 5 (vi 0)] ?_))))
 refine aa (wp_block ?_)
 refine aM (fun t_ mz az W=>∃i:Nat,∃sL:List RecM,∃sT:Int->Bool,∃ci:Nat,∃fpi:List Nat,i<=acs.length/\i<=25/\(sL,sT)=nB (L,told) (acs.take i)/\ci<=c+700*i/\mz=acs.length-i/\az=⟨(ovr (jv az) [(4,4,1,[vi ((i:Int))]),(0,6,26,[])] t_).toArray,[]⟩/\St w fp [eWd xb bufs sL sT ci fpi] W) (acs.length-0) ?_ ?_
 exact⟨0,L,told,c,fp,Nat.zero_le _,Nat.zero_le _,rfl,by omega,rfl,(by kernel_rfl),ak.pk [0]⟩
 rintro n3 a3 W3 ⟨i,sL,sT,ci,fpi,hi,hi25,hsr,hci,rfl,hj_,aW⟩
 refine ovz hj_ fun QW=>?_
 refine wq (wq (sqr (sqp [.m 6 5,.m 7 1,.k 8 (vi ((acs.length:Int))),.k 9 (.bool (decide ((i:Int)<(acs.length:Int)))),.m 10 9] ?_)))
 refine sqw 10 [11,12] rfl (fun _=>sqp [.m 11 5,.k 12 (.bool (decide ((i:Int)<25)))] sqe) ?_
 refine sqp [sPa 13 (decide ((i:Int)<(acs.length:Int))) (decide ((i:Int)<25))] ?_
 refine aa (wbs (fun je=>?_) fun je=>?_)
 have jq:=je
 simp only[zB] at jq
 obtain⟨Rv,Rw⟩:=jq
 refine wp_skip (aa (wq (wp_block (wq ?_))))
 obtain⟨a,hai⟩:∃a,acs[i]? =some a:=⟨_,List.getElem?_eq_getElem (by omega)⟩
 have hao:=hok a (List.mem_of_getElem? hai)
 have haw:=hao.what
 by_cases hlt8:a.what % 10<8
 refine sqr (sqp [.m 16 1,.m 17 5] ?_)
 refine sql (.pointer (some ((ad AA).add (i*5)))) aW (fun cx=>ay (e:=60) (m:=i) (sz:=5) rfl (by kernel_rfl) (by kernel_rfl) (cx.ou 16) (cx.ou 17) (by omega) (by omega) (hA _ cx.upd) (be (sz:=5) ma (by decide) (by omega))) ?_
 refine sql (.pointer (some ((ad AA).add (i*5+0)))) aW (fun cx=>bg rfl (by kernel_rfl) (cx.ou 18)) ?_
 refine sql (.int .u8 a.what) aW (fun cx=>ae rfl (by kernel_rfl) (cx.ou 19) (At.eltc (f:=acC) (k:=0) ma (hA _ cx.upd) hai rfl)) ?_
 have hd20:(decide (a.what % 10<8))=true:=(decide_eq_true hlt8)
 refine sqp [sRe 21 .u8 a.what 10 (a.what % 10) (Int.tmod_eq_emod_of_nonneg (by omega)),.e 22 (.bool (decide (a.what % 10<8))) (.bool true) (congrArg Value.bool hd20),.k 23 (.bool true)] ?_
 refine dF 23 [24,25,26,27,28,29,30] rfl rfl ?_
 refine sqp [.m 24 0,.m 25 1,.m 26 5] ?_
 refine sql (.pointer (some ((ad AA).add (i*5)))) aW (fun cx=>ay (e:=60) (m:=i) (sz:=5) rfl (by kernel_rfl) (by kernel_rfl) (cx.ou 25) (cx.ou 26) (by omega) (by omega) (hA _ cx.upd) (be (sz:=5) ma (by decide) (by omega))) ?_
 refine sql (.agg #[.int .u8 a.what,vi a.page,vi a.slot,.string a.item,.slice a.QA a.qn a.qc]) aW (fun cx=>bH (f:=acC) (m:=i) (sz:=5) (off:=0) (n:=5) rfl (by kernel_rfl) (by kernel_rfl) (cx.ou 27) rfl ma (hA _ cx.upd) hai (fun k hk=>match k,hk with|0,_=>rfl|1,_=>rfl|2,_=>rfl|3,_=>rfl|4,_=>rfl|k+5,hk=>absurd hk (by omega))) ?_
 refine bN (fun X_=>X_.fp) (.bool true) (fun De=>eWd xb bufs ((eP (sL,sT) a).1) ((eP (sL,sT) a).2) (ci+700) De) 0 aW (by
   refine svA fun h b W X cx=>?_
   refine am.call (aq (args:=#[vp xb,.agg #[.int .u8 a.what,vi a.page,vi a.slot,.string a.item,.slice a.QA a.qn a.qc]]) rfl cx.sees rfl (by kernel_rfl) (aT (cx.ou 24) (cx.ou 28))) ?_
   refine(J1 xb bufs sL sT ci a _ _ (CtxV.holdF cx (cx.init 0 _ rfl) rfl) (CtxV.ltF cx (cx.init 0 _ rfl) rfl) hao (by omega) hlt8).mono ?_
   rintro e W1 ⟨rfl,fp4,aQ⟩
   refine⟨_,rfl,aK (E:=eWd xb bufs sL sT ci fpi) [eWd xb bufs ((eP (sL,sT) a).1) ((eP (sL,sT) a).2) (ci+700) fp4] (cx.init 0 _ rfl) rfl rfl aQ (fun d g X' hs hb hv hN=>?_)⟩
   have aJ:=(hv 29 rfl).1;have aR:=(hv 29 rfl).2
   exact⟨aJ.trans rfl,sy ((List.cons.inj hN).1)⟩) fun De zh fa=>?_
 refine sqp [.k 30 (.bool false)] ?_
 refine sqp [.k 31 (.bool false)] ?_
 refine aa (wcf rfl (wp_skip (av (aa (sqr (sqp [.m 14 5,sI 15 ((i:Int)+1) (by omega),.m 5 15] ?_))))))
 refine aa ?_
 refine⟨acs.length-((i+1)),by omega,?_⟩
 exact⟨(i+1),(eP (sL,sT) a).1,(eP (sL,sT) a).2,(ci+700),De,by omega,by omega,(by rw[wo hai,if_pos hlt8,<-hsr]),by omega,rfl,(by kernel_rfl),fa.pk [0]⟩
 refine sqr (sqp [.m 16 1,.m 17 5] ?_)
 refine sql (.pointer (some ((ad AA).add (i*5)))) aW (fun cx=>ay (e:=60) (m:=i) (sz:=5) rfl (by kernel_rfl) (by kernel_rfl) (cx.ou 16) (cx.ou 17) (by omega) (by omega) (hA _ cx.upd) (be (sz:=5) ma (by decide) (by omega))) ?_
 refine sql (.pointer (some ((ad AA).add (i*5+0)))) aW (fun cx=>bg rfl (by kernel_rfl) (cx.ou 18)) ?_
 refine sql (.int .u8 a.what) aW (fun cx=>ae rfl (by kernel_rfl) (cx.ou 19) (At.eltc (f:=acC) (k:=0) ma (hA _ cx.upd) hai rfl)) ?_
 have hd40:(decide (a.what % 10<8))=false:=(decide_eq_false hlt8)
 refine xR [sRe 21 .u8 a.what 10 (a.what % 10) (Int.tmod_eq_emod_of_nonneg (by omega)),.e 22 (.bool (decide (a.what % 10<8))) (.bool false) (congrArg Value.bool hd40),.k 23 (.bool false)] 23 [24,25,26,27,28,29,30] ?_
 refine sqp [.k 31 (.bool false)] ?_
 refine aa (wcf rfl (wp_skip (av (aa (sqr (sqp [.m 14 5,sI 15 ((i:Int)+1) (by omega),.m 5 15] ?_))))))
 refine aa ?_
 refine⟨acs.length-((i+1)),by omega,?_⟩
 exact⟨(i+1),sL,sT,ci,fpi,by omega,by omega,(by rw[wo hai,if_neg hlt8,<-hsr]),by omega,rfl,(by kernel_rfl),aW.pk [0]⟩
 have jq:=je
 simp only[zB] at jq
 refine wp_exit (al (al (bh (aa (wq (sqr (sqp [.k 4 (.bool true)] ?_)))))))
 refine aa (wp_ret ?_)
 refine bpr (.bool true) (ag Tryz.results32 rpt) ?_
 have hr9:o0 (L,told) acs=(sL,sT):=by rw[hsr,o0];congr 1;have h_:=je;simp at h_;by_cases h25:i=25;rw[h25];rw[List.take_of_length_le (by omega),List.take_of_length_le (by omega)]
 obtain⟨fz_,hz_⟩:=aW.wdm (c2:=c+17500) (by omega)
 exact⟨rfl,_,by rw[hr9];exact hz_⟩
theorem EZ(q:PgS)(A B:Option Addr)(c d:Nat)(w:World)(hA:At w A (q.2.2.map Value.string))(hB:At w B (q.2.2.map Value.string))(hl:q.2.2.length<=100000):
  Calls Tryz.prog 35 #[.agg #[.int .i64 q.1,.int .i64 q.2.1,.slice A q.2.2.length c],.agg #[.int .i64 q.1,.int .i64 q.2.1,.slice B q.2.2.length d]] w (Ret (.bool true) w):=by
 go_enter Tryz.func35,Tryz.ntmps35
 have ak:=St.start w
 refine wq (sqr ?_)
 refine b9 #[vi q.1,vi q.2.1,.slice A q.2.2.length c] ak fun bB W1 aB=>?_
 refine b9 #[vi q.1,vi q.2.1,.slice B q.2.2.length d] aB fun cX W2 bE=>?_
 refine sqp [.k 4 (.bool false)] ?_
 refine aa (wq (wq (sqr (sqp [.k 6 (vp bB)] ?_))))
 refine au 0 bE ?_
 refine sqp [.k 8 (vp cX)] ?_
 refine au 1 bE ?_
 have hd9:(q.1 != q.1)=false:=(by simp)
 refine sqp [.e 10 (.bool (q.1 != q.1)) (.bool false) (congrArg Value.bool hd9),.k 11 (.bool false)] ?_
 refine dF 11 [12,13,14,15,16] rfl rfl ?_
 refine sqp [.k 12 (po bB 1)] ?_
 refine au 0 bE ?_
 refine sqp [.k 14 (po cX 1)] ?_
 refine au 1 bE ?_
 have hd16:(q.2.1 != q.2.1)=false:=(by simp)
 refine sqp [.e 16 (.bool (q.2.1 != q.2.1)) (.bool false) (congrArg Value.bool hd16)] ?_
 refine sqp [.k 17 (.bool false),.k 18 (.bool false)] ?_
 refine dF 18 [19,20,21,22,23,24,25] rfl rfl ?_
 refine sqp [.k 19 (po bB 2)] ?_
 refine au 0 bE ?_
 refine sqp [.k 21 (vi ((q.2.2.length:Int))),.k 22 (po cX 2)] ?_
 refine au 1 bE ?_
 have hd26:((q.2.2.length:Int) != (q.2.2.length:Int))=false:=(by simp)
 refine sqp [.k 24 (vi ((q.2.2.length:Int))),.e 25 (.bool ((q.2.2.length:Int) != (q.2.2.length:Int))) (.bool false) (congrArg Value.bool hd26)] ?_
 refine sqp [.k 26 (.bool false)] ?_
 refine aa (wcf rfl (wp_skip (aa (wq (wq (sqr (sqp [.k 5 (vi 0)] ?_)))))))
 refine aa (wp_block ?_)
 refine aM (fun t_ mz az W=>∃j:Nat,j<=q.2.2.length/\mz=q.2.2.length-j/\az=⟨(ovr (jv az) [(4,4,1,[vi ((j:Int))]),(21,27,18,[])] t_).toArray,[]⟩/\St w [] [eB bB 48 #[vi q.1,vi q.2.1,.slice A q.2.2.length c],eB cX 48 #[vi q.1,vi q.2.1,.slice B q.2.2.length d]] W) (q.2.2.length-0) ?_ ?_
 exact⟨0,Nat.zero_le _,rfl,(by kernel_rfl),bE.pk [0,1]⟩
 rintro Rx a29 Fl ⟨j,hj,rfl,hj_,gl⟩
 refine ovz hj_ fun P6=>?_
 refine wq (wq (sqr (sqp [.m 27 5,.k 28 (po bB 2)] ?_)))
 refine au 0 gl ?_
 refine sqp [.k 30 (vi ((q.2.2.length:Int))),.k 31 (.bool (decide ((j:Int)<(q.2.2.length:Int))))] ?_
 refine aa (wds (fun tz vn=>?_) fun tz vn=>?_)
 refine wp_skip (aa (wq (wp_block (wq ?_))))
 have hd37:(!((q.2.2.getD j ByteArray.empty).toList==(q.2.2.getD j ByteArray.empty).toList))=false:=(by simp)
 refine bL [0,1,0,7,15,0,32,0,224,480,1023] [[],[0],[],[],[],[],[1]] [.k 34 (po bB 2),.c 35 (.slice A q.2.2.length c),.k 36 (vi ((j:Int))),.c 37 (.pointer (some ((ad A).add j))),.c 38 (.string (q.2.2.getD j ByteArray.empty)),.k 39 (po cX 2),.c 40 (.slice B q.2.2.length d),.k 41 (vi ((j:Int))),.c 42 (.pointer (some ((ad B).add j))),.c 43 (.string (q.2.2.getD j ByteArray.empty)),.e 44 (.bool (!((q.2.2.getD j ByteArray.empty).toList==(q.2.2.getD j ByteArray.empty).toList))) (.bool false) (congrArg Value.bool hd37)] [0,1] [1,3,4,6,8,9] [(34,0,11,45)] gl ?_ fun zo eN=>?_
 refine⟨?_,?_,?_,?_,?_,?_,trivial⟩
 exact xs4 rfl id fun cx=>ae rfl (by kernel_rfl) (cx.an 0) ((cx.bi 0 rfl).cell 2)
 exact xs4 rfl id fun cx=>bG (e:=9) (m:=j) rfl (by kernel_rfl) (by kernel_rfl) (cx.an 1) (cx.an 2) (by omega) (by omega) (hA.ext cx.upd.to_ext) (by simp)
 exact xs4 rfl id fun cx=>ae rfl (by kernel_rfl) (cx.an 3) (At.cellAd (hA.ext cx.upd.to_ext) (js (by omega)))
 exact xs4 rfl id fun cx=>ae rfl (by kernel_rfl) (cx.an 5) ((cx.bi 1 rfl).cell 2)
 exact xs4 rfl id fun cx=>bG (e:=9) (m:=j) rfl (by kernel_rfl) (by kernel_rfl) (cx.an 6) (cx.an 7) (by omega) (by omega) (hB.ext cx.upd.to_ext) (by simp)
 exact xs4 rfl id fun cx=>ae rfl (by kernel_rfl) (cx.an 8) (At.cellAd (hB.ext cx.upd.to_ext) (js (by omega)))
 refine aa (wcf rfl (wp_skip (av (aa (sqr (sqp [.m 32 5,sI 33 ((j:Int)+1) (by omega),.m 5 33] ?_))))))
 refine aa ?_
 refine⟨q.2.2.length-((j+1)),by omega,?_⟩
 exact⟨(j+1),by omega,rfl,(by kernel_rfl),eN.pk [0,1]⟩
 refine wp_exit (al (al (bh (aa (wq (sqr (sqp [.k 4 (.bool true)] ?_)))))))
 refine aa (wp_ret ?_)
 refine bpr (.bool true) (ag Tryz.results35 rpt) ?_
 exact Ret.of rfl gl.ext
end
section
open Go.RowKit
theorem F8{s:List RecM×(Int->Bool)}{a:ActT}(h:0<bc s.1):0<bc (eP s a).1:=by
 unfold eP
 split
 show 0<bc (rfD 5 s.1 s.2 (cW a)).1
 unfold rfD
 split
 show 0<bc (rfL s.1 (cW a))
 rw[rfL,e8,if_neg (by show ¬(1:Int)=9;decide),uA _ (fun r hr=>by rw[(ol r hr).2.1];decide)];exact h
 exact h
 split
 exact h
 split
 exact h
 show 0<bc (ckL s.1 (ntA a))
 unfold ckL
 split
 rw[e8,if_pos (show (aI (ntA a)).kind=9 from rfl)];omega
 exact h
theorem GI{l:List ActT}:∀{s:List RecM×(Int->Bool)},0<bc s.1->0<bc (nB s l).1:=by
 induction l with
 |nil=>intro s h;exact h
 |cons a l ih=>
  intro s h
  refine ih (s:=if a.what % 10<8 then eP s a else s) ?_
  split
  exact F8 h
  exact h
theorem FX{sb db:Nat}{L:List RecM}{told:Int->Bool}{p c:Nat}{fp:List Nat}{w:World}{n:Nat}(h:n<p)(hp:p<=400)(hB:(eNi sb db L told p c fp).holds w)(hlt:∀k∈fp,k<w.heap.size)(hc:c<=800000):
  Calls Tryz.prog 21 #[po sb 0,.int .i64 (n:Int)] w
   (fun e w'=>∃A cc,e= .returned (.tuple #[.agg #[.int .i64 (ah L (n:Int)).1,.int .i64 (ah L (n:Int)).2.1,.slice A (ah L (n:Int)).2.2.length cc],.bool true])/\∃fp',St w fp [eNi sb db L told p (c+3) fp',eO 9 1 (.slice A (ah L (n:Int)).2.2.length cc) (ah L (n:Int)).2.2.length ((ah L (n:Int)).2.2.map Value.string)] w'):=by
 have h1:=wJ (n:Int) hB hlt hc (by constructor<;>omega)
 have e1:pgC L p (n:Int)=ah L (n:Int):=if_pos ⟨by omega,by omega⟩
 rw[e1,decide_eq_true (show 0<=(n:Int)/\(n:Int)<(p:Int) by omega)] at h1
 exact h1
theorem Gh(L:List RecM)(n:Int):(ah L n).2.2.length<=100000:=by have:=(cR (dC L n).1).2.2.1.1;omega
end
section
open Go.RowKit
def eH(p:Nat)(L:List RecM):Prop:=∀i r,L[i]? =some r->r.eds.any (dL p)=false/\cm (ah (L.take i)) r.eds=0
theorem eH.snoc{p:Nat}{L:List RecM}{r:RecM}(h:eH p L)(h1:r.eds.any (dL p)=false)(h2:cm (ah L) r.eds=0):eH p (L++[r]):=fun i x hx=>by
 have hi:=(List.getElem?_eq_some_iff.1 hx).1
 rw[List.length_append,List.length_singleton] at hi
 by_cases he:i<L.length
 rw[List.getElem?_append_left he] at hx
 rw[List.take_append_of_le_length (by omega)]
 exact h i x hx
 have:i=L.length:=by omega
 subst this
 rw[List.getElem?_concat_length] at hx
 cases hx
 rw[List.take_append_of_le_length (Nat.le_refl _),List.take_length]
 exact⟨h1,h2⟩
theorem eH.imgs{p:Nat}{ims:List RecM}:∀{L:List RecM},eH p L->(∀r∈ims,r.eds=[])->eH p (L++ims):=by
 induction ims with
 |nil=>intro L h _;rw[List.append_nil];exact h
 |cons r ims ih=>
  intro L h hi
  rw[show L++r::ims=(L++[r])++ims by simp]
  refine ih (h.snoc ?_ ?_) fun x hx=>hi x (by simp[hx])
  rw[hi r (by simp)];rfl
  rw[hi r (by simp)];rfl
theorem EV{p:Nat}{L:List RecM}{r:RecM}(h:rfE p L r=0):r.eds.any (dL p)=false/\cm (ah L) r.eds=0:=by
 unfold rfE at h
 split at h
 cases h
 split at h
 cases h
 rename_i h2
 split at h
 rename_i h3;exact absurd h h3
 rename_i h3
 exact⟨by simpa using h2,Classical.not_not.1 h3⟩
theorem eH.stp{s:List RecM×(Int->Bool)}{a:ActT}(h:eH 5 s.1):eH 5 (eP s a).1:=by
 unfold eP
 split
 show eH 5 (rfD 5 s.1 s.2 (cW a)).1
 unfold rfD
 split
 rename_i h0
 obtain⟨h1,h2⟩:=EV h0
 have hi:∀r∈ea s.1 (cE (cW a).eds),r.eds=[]:=fun r hr=>(ol r hr).1
 refine eH.snoc (h.imgs hi) h1 ?_
 rw[tH _ _ (ah s.1) (fun e _=>pa hi e.1)];exact h2
 exact h
 split
 exact h
 split
 exact h
 show eH 5 (ckL s.1 (ntA a))
 unfold ckL
 split
 exact h.snoc rfl rfl
 exact h
theorem eH.run{l:List ActT}:∀{s:List RecM×(Int->Bool)},eH 5 s.1->eH 5 (nB s l).1:=by
 induction l with
 |nil=>intro s h;exact h
 |cons a l ih=>
  intro s h
  refine ih (s:=if a.what % 10<8 then eP s a else s) ?_
  split
  exact h.stp
  exact h
theorem eH.beg:eH 5 [aI bgS]:=fun i r h=>by
 cases i with
 |zero=>cases h;exact⟨rfl,rfl⟩
 |succ i=>cases h
theorem eH.ed{p:Nat}{L:List RecM}{r:RecM}{i k:Nat}{e:EdT}(h:eH p L)(hi:L[i]? =some r)(hk:r.eds[k]? =some e)(hl:(i:Int)+1<=2147483647):doE (bm e.1 ((i:Int)+1) (ah (L.take i) e.1) (r.eds.take k)) e ((i:Int)+1)=0:=by
 obtain⟨_,h2⟩:=h i r hi
 have h3:cm (ah (L.take i)) (r.eds.take k)=0/\doE (bp (ah (L.take i)) (r.eds.take k) e.1) e 1=0:=by
  have hh:∀(l:List EdT) (N:Int->PgS) (k:Nat),cm N l=0->l[k]? =some e->cm N (l.take k)=0/\doE (bp N (l.take k) e.1) e 1=0:=by
   intro l
   induction l with
   |nil=>intro N k _ hx;cases hx
   |cons x l ih=>
    intro N k h0 hx
    rw[cm] at h0
    split at h0
    rename_i hd
    cases k with
    |zero=>cases hx;exact⟨rfl,hd⟩
    |succ k=>
     obtain⟨a,b⟩:=ih (eE N x) k h0 hx
     refine⟨?_,b⟩
     rw[List.take_succ_cons,cm,if_pos hd];exact a
    rename_i hd;exact absurd h0 hd
  exact hh r.eds _ k h2 hk
 obtain⟨a,b,_⟩:=DB (n:=e.1) (lsn:=(i:Int)+1) (by omega) (r.eds.take k) (ah (L.take i)) (ah (L.take i) e.1) (dC _) (dC _ _) rfl rfl h3.1
 rw[yJ (kH (dC _ _)) (iH (dC _) h3.1 e.1) a b (by omega) (b:=1) (by omega)]
 exact h3.2
end
section
open Go.RowKit
theorem Gq(n:Nat):(madeCells (Value.agg #[.int .i64 0,.int .i64 0,sn]).cells (n*3)).toList=(List.replicate n (⟨br,none,0⟩:PgR)).flatMap pgQ:=oh pgQ (⟨br,none,0⟩:PgR) #[.int .i64 0,.int .i64 0,sn] rfl (by decide) n
def psI(L:List RecM)(i:Nat)(l:List EdT)(ps:List PgR):Prop:=ps.length=5/\∀(n:Nat) (q:PgR),ps[n]? =some q->q.p=bm (n:Int) ((i:Int)+1) (ah (L.take i) (n:Int)) l
theorem psI.zero(L:List RecM):psI L 0 [] (List.replicate 5 ⟨br,none,0⟩):=⟨rfl,fun n q h=>by
 rw[List.getElem?_replicate] at h
 split at h
 cases h;rfl
 cases h⟩
theorem psI.step{L:List RecM}{i k m:Nat}{eds:List EdT}{e:EdT}{ps:List PgR}{q:PgR}(h:psI L i (eds.take k) ps)(he:eds[k]? =some e)(hm:e.1=(m:Int))(hd:doE (bm (m:Int) ((i:Int)+1) (ah (L.take i) (m:Int)) (eds.take k)) e ((i:Int)+1)=0)(hq:q.p=doV (bm (m:Int) ((i:Int)+1) (ah (L.take i) (m:Int)) (eds.take k)) e ((i:Int)+1)):psI L i (eds.take (k+1)) (ps.set m q):=⟨by rw[List.length_set];exact h.1,fun n x hx=>by
 rw[lQ he]
 rw[List.getElem?_set] at hx
 split at hx
 rename_i hn
 subst hn
 split at hx
 cases hx
 rw[hq,edA,if_pos ⟨hm,hd⟩]
 cases hx
 rename_i hn
 rw[edA,if_neg (fun hh=>hn (by have h1:=hh.1;omega))]
 exact h.2 n x hx⟩
theorem psI.done{L:List RecM}{i:Nat}{r:RecM}{ps:List PgR}(h:psI L i r.eds ps)(hi:L[i]? =some r):psI L (i+1) [] ps:=⟨h.1,fun n q hq=>by
 have hl:=(List.getElem?_eq_some_iff.1 hi).1
 rw[h.2 n q hq,List.take_add_one,hi]
 show _=ah (L.take i++[r]) (n:Int)
 rw[gQ,List.length_take,Nat.min_eq_left (by omega)]⟩
theorem psI.last{L:List RecM}{ps:List PgR}(h:psI L L.length [] ps){n:Nat}(hn:n<5):∃A c,ps[n]? =some ⟨ah L (n:Int),A,c⟩:=by
 have h5:=h.1
 obtain⟨⟨p,A,c⟩,hq⟩:∃q,ps[n]? =some q:=⟨_,List.getElem?_eq_getElem (by omega)⟩
 have h1:=h.2 n _ hq
 rw[List.take_length] at h1
 have h2:p=ah L (n:Int):=h1
 exact⟨A,c,by rw[hq,h2]⟩
theorem yb(AA:Option Addr)(ac:Nat)(acs:List ActT)(b:Int)(w:World)(hA:At w AA (acs.flatMap acC))(hok:∀a∈acs,ActOk a)(hal:acs.length<=100000000000000)(hb:0<=b/\b<=255):
  Calls Tryz.prog 9 #[.slice AA acs.length ac,.int .u8 b] w (Ret (.bool true) w):=by
 go_enter Tryz.func9,Tryz.ntmps9
 have ak:=St.start w
 refine wq (sqr (sqp [.k 4 (.bool false)] ?_))
 refine aa (wq (sqr (sqk (.bool true) ak (fun cx=>⟨_,BP _,jc⟩) fun W2 bE=>?_)))
 refine sqp [.k 5 (.bool true)] ?_
 refine aa (wq (sqr (sqp [.k 19 (.agg #[.pointer none,.pointer none,.pointer none,vi 0,vi 0])] ?_)))
 refine b9 #[.pointer none,.pointer none,.pointer none,vi 0,vi 0] bE fun dZ W5 aP=>?_
 refine sqp [.m 6 20] ?_
 refine aa (wq (wq (sqr (sqp [.m 21 6,.m 22 1,sRe 23 .u8 b 6 (b % 6) (Int.tmod_eq_emod_of_nonneg (by omega)),sW 24 .i64 (b % 6) (b % 6) (IntWalk.i64_in _ (by omega)),sI 25 (1+(b % 6)) (by omega)] ?_))))
 refine bN (fun X_=>X_.fp) (.bool true) (fun Df=>eWd dZ (1+(b % 6)) ([aI bgS]) (fun _=>false) 0 Df) 0 aP (by
   refine svA fun o d W X cx=>?_
   refine am.call (aq (args:=#[vp dZ,vi (1+(b % 6))]) rfl cx.sees rfl (by kernel_rfl) (aT (cx.ou 21) (cx.ou 25))) ?_
   refine(BU dZ (1+(b % 6)) _ (CtxV.holdF cx (cx.init 0 _ rfl) rfl) ((cx.bi 0 rfl)).lt (by omega)).mono ?_
   rintro e W1 ⟨rfl,fp4,aQ⟩
   refine⟨_,rfl,aK (E:=eB dZ 34 #[.pointer none,.pointer none,.pointer none,vi 0,vi 0]) [eWd dZ (1+(b % 6)) ([aI bgS]) (fun _=>false) 0 fp4] (cx.init 0 _ rfl) rfl rfl aQ (fun g t X' hs hb hv hN=>?_)⟩
   have aJ:=(hv 26 rfl).1;have aR:=(hv 26 rfl).2
   exact⟨aJ.trans rfl,sy ((List.cons.inj hN).1)⟩) fun Df zv cT=>?_
 refine sqp [.k 27 (.bool false),.k 28 (.bool false)] ?_
 refine dF 28 [29,30,31,32] rfl rfl ?_
 refine sqp [.m 29 6,.m 30 0] ?_
 refine bN (fun X_=>X_.fp) (.bool true) (fun rR=>eWd dZ (1+(b % 6)) ((o0 ([aI bgS],fun _=>false) acs).1) ((o0 ([aI bgS],fun _=>false) acs).2) (0+17500) rR) 0 cT (by
   refine svA fun o d W X cx=>?_
   refine am.call (aq (args:=#[vp dZ,.slice AA acs.length ac]) rfl cx.sees rfl (by kernel_rfl) (aT (cx.ou 29) (cx.ou 30))) ?_
   refine(CB dZ (1+(b % 6)) [aI bgS] (fun _=>false) 0 AA ac acs _ _ (CtxV.holdF cx (cx.init 0 _ rfl) rfl) (CtxV.ltF cx (cx.init 0 _ rfl) rfl) (cx.oldAt (cx.init 0 _ rfl) rfl rfl hA) hok hal (by decide)).mono ?_
   rintro e W1 ⟨rfl,fp4,aQ⟩
   refine⟨_,rfl,aK (E:=eWd dZ (1+(b % 6)) ([aI bgS]) (fun _=>false) 0 Df) [eWd dZ (1+(b % 6)) ((o0 ([aI bgS],fun _=>false) acs).1) ((o0 ([aI bgS],fun _=>false) acs).2) (0+17500) fp4] (cx.init 0 _ rfl) rfl rfl aQ (fun g t X' hs hb hv hN=>?_)⟩
   have aJ:=(hv 31 rfl).1;have aR:=(hv 31 rfl).2
   exact⟨aJ.trans rfl,sy ((List.cons.inj hN).1)⟩) fun rR sg dt=>?_
 refine sqp [.k 32 (.bool false)] ?_
 refine sqp [.k 33 (.bool false)] ?_
 refine aa (wcf rfl (wp_skip (aa (wq ?_))))
 obtain⟨⟨L9,t9⟩,hr9⟩:∃z,o0 ([aI bgS],fun _=>false) acs=z:=⟨_,rfl⟩
 have hrn:nB ([aI bgS],fun _=>false) (acs.take 25)=(L9,t9):=hr9
 have aD:0<bc L9:=by have h_:=GI (l:=acs.take 25) (s:=([aI bgS],fun _=>false)) (by decide);rw[hrn] at h_;exact h_
 have hgl:eH 5 L9:=by have h_:=eH.run (l:=acs.take 25) (s:=([aI bgS],fun _=>false)) eH.beg;rw[hrn] at h_;exact h_
 simp only[hr9] at dt
 obtain⟨safe,db,sb,rb,fps,fpr,hw20_⟩:=dt.unwd
 obtain⟨hL9,hz9⟩:=IK (hw20_.get 1 rfl).holds
 have hll:=qx hL9 hz9
 have hfl9:=my L9
 obtain⟨nl,hnl⟩:∃n,L9.length=n+1:=⟨L9.length-1,by omega⟩
 have hz6:(da L9).size<=2000000:=by rw[ck];omega
 refine aE [0,1,3,7,15,31,63,127,127,255,1023] [[],[],[],[0],[1]] [[],[],[],[],[],[3]] [] [.k 35 (vp dZ),.k 36 (vp dZ),.k 37 (vp dZ),.c 38 (vp db),.c 39 (.string ((da L9))),.a 40,.a 34,.a 41,.a 42,.a 7,.a 8] (fun ix g d X=>match ix with|0|1|2|3|4=>True|5=>g 40= .tuple #[.slice (sA (tg (d 40) 0)) L9.length (sC (tg (d 40) 0)),.slice (sA (tg (d 40) 1)) L9.length (sC (tg (d 40) 1))]/\X 3=eSc L9 (sA (tg (d 40) 0)) (sC (tg (d 40) 0)) (sA (tg (d 40) 1)) (sC (tg (d 40) 1)) ((X 3).fp)|6=>g 34= .tuple #[.slice (sA (tg (d 40) 0)) L9.length (sC (tg (d 40) 0)),.slice (sA (tg (d 40) 1)) L9.length (sC (tg (d 40) 1))]|7=>g 41= .slice (sA (tg (d 40) 0)) L9.length (sC (tg (d 40) 0))|8=>g 42= .slice (sA (tg (d 40) 1)) L9.length (sC (tg (d 40) 1))|9=>g 7= .slice (sA (tg (d 40) 0)) L9.length (sC (tg (d 40) 0))|10=>g 8= .slice (sA (tg (d 40) 1)) L9.length (sC (tg (d 40) 1))|_=>True) [0,1,2,3] [3,4,5,6,7,8,9,10] [(7,9,2,9),(25,6,1,26),(0,0,6,6),(0,7,2,2)] hw20_ ?_ ?_ ?_
 exact fun ix _ _ _ _ _ _ hs hb hx h=>match ix,h with
 |5,h=>by dsimp only;rw[<-hs 40 rfl,<-hb 40 rfl,<-hx 3 rfl];exact h
 |6,h=>by dsimp only;rw[<-hs 34 rfl,<-hb 40 rfl];exact h
 |7,h=>by dsimp only;rw[<-hs 41 rfl,<-hb 40 rfl];exact h
 |8,h=>by dsimp only;rw[<-hs 42 rfl,<-hb 40 rfl];exact h
 |9,h=>by dsimp only;rw[<-hs 7 rfl,<-hb 40 rfl];exact h
 |10,h=>by dsimp only;rw[<-hs 8 rfl,<-hb 40 rfl];exact h
 |0,_|1,_|2,_|3,_|4,_|_+11,_=>trivial
 refine⟨?_,?_,?_,?_,?_,?_,?_,?_,trivial⟩
 exact xs4 rfl id fun cx=>ae rfl (by kernel_rfl) (cx.an 2) ((cx.bi 0 rfl).cell 0)
 exact xsc rfl id rfl rfl fun cx=>⟨_,yz (CtxV.holdF cx (cx.init 1 _ rfl) rfl),(aw (cx.an 3))⟩
 refine svA fun o d W X cx=>?_
 refine am.call (aq (args:=#[.string ((da L9))]) rfl cx.sees rfl (by kernel_rfl) (aw (cx.an 4))) ?_
 refine(yi (wZ (da L9) ⟨#[]⟩ L9 _ (Dj rfl) hL9 (yI rfl) hz6)).mono ?_
 rintro e W1 ⟨LA4,lc4,EA4,ec4,fp4,rfl,aQ⟩
 refine⟨_,rfl,rE [eSc L9 LA4 lc4 EA4 ec4 fp4] rfl rfl aQ (fun g t X' hs hb hv hN=>?_)⟩
 have aJ:=(hv 40 rfl).1;have aR:=(hv 40 rfl).2
 exact⟨aJ.trans (by rw[aR];rfl),(by rw[aR];exact y0 ((List.cons.inj hN).1))⟩
 exact sv rfl rfl rfl rfl rfl _ (fun _ _ _ h=>h) (fun d t h=>by rw[h 40 (by decide)]) fun o d W X cx=>cD rfl (dTn (cx.an 5)).1
 exact sv rfl rfl rfl rfl rfl _ (fun _ _ _ h=>h) (fun d t h=>by rw[h 40 (by decide)]) fun o d W X cx=>bC rfl (dTn (cx.an 6)) rfl
 exact sv rfl rfl rfl rfl rfl _ (fun _ _ _ h=>h) (fun d t h=>by rw[h 40 (by decide)]) fun o d W X cx=>bC rfl (dTn (cx.an 6)) rfl
 exact sv rfl rfl rfl rfl rfl _ (fun _ _ _ h=>h) (fun d t h=>by rw[h 40 (by decide)]) fun o d W X cx=>cJ rfl (dTn (cx.an 7))
 exact sv rfl rfl rfl rfl rfl _ (fun _ _ _ h=>h) (fun d t h=>by rw[h 40 (by decide)]) fun o d W X cx=>cJ rfl (dTn (cx.an 8))
 intro g d X sf hD dY fr aD
 obtain⟨LA40_21,pK⟩:∃z,sA (tg (d 40) 0)=z:=⟨_,rfl⟩
 obtain⟨lc40_21,pL⟩:∃z,sC (tg (d 40) 0)=z:=⟨_,rfl⟩
 obtain⟨EA40_21,pM⟩:∃z,sA (tg (d 40) 1)=z:=⟨_,rfl⟩
 obtain⟨ec40_21,pN⟩:∃z,sC (tg (d 40) 1)=z:=⟨_,rfl⟩
 have zk:X 3= _:=(dTn (hD 5 lq)).2
 obtain⟨R2,Al⟩:∃z,(X 3).fp=z:=⟨_,rfl⟩
 rw[Al] at zk
 clear Al
 simp only[zk,pK,pL,pM,pN] at dY
 simp only[ed 40 ((dTn (hD 5 lq)).1),ed 34 ((dTn (hD 6 lq))),ed 41 ((dTn (hD 7 lq))),ed 42 ((dTn (hD 8 lq))),ed 7 ((dTn (hD 9 lq))),ed 8 ((dTn (hD 10 lq))),pK,pL,pM,pN] at aD
 clear hD zk pK pL pM pN;subst aD;clear g d X
 refine aa (wq ?_)
 obtain⟨rs,hrs,ht22_⟩:=dY.u3.unscf
 have hrl:rs.length=L9.length:=by rw[<-hrs,List.length_map]
 refine sqr ?_
 refine d3 (fun x_=>sA x_) (fun gM=> .slice gM 5 5) (fun gM=>eO 48 3 (.slice gM 5 5) 5 ((List.replicate 5 (⟨br,none,0⟩:PgR)).flatMap pgQ)) ht22_ (by
   refine svA fun o d W X cx=>?_
   obtain⟨i0,hi0,hz0,hz1,hz2⟩:=info_parts Tryz.infoPgJ
   exact yU (n:=5) (sz:=3) rfl (by kernel_rfl) hi0 hz0 hz1 hz2 (cx.co _) (cx.co _) (by decide) (by decide) (by decide) (by decide) (by decide) (Gq 5) rfl rfl (fun _ _ _ _ _=> .intro)) fun gM sk cv=>?_
 refine sqp [.m 9 43] ?_
 refine aa (wq (wq (sqr (sqp [.k 10 (vi 0)] ?_))))
 refine aa (wp_block ?_)
 have hn26_:=cv.nM dm
 have hn27:=St.nilrow hn26_ 9
 simp only[List.cons_append,List.nil_append] at hn27
 have hg28_:=St.apf (r:=(⟨br,none,0⟩:PgR)) hn27.u8.u1
 refine aM (fun t_ mz az W=>∃i:Nat,∃ps:List PgR,∃rws:List PgR,i<=L9.length/\psI L9 i [] ps/\(∀q∈ps,q∈rws)/\mz=L9.length-i/\az=⟨(ovr (jv az) [(4,4,1,[]),(5,10,0,[vi ((i:Int))]),(0,11,4,[]),(29,44,59,[])] t_).toArray,[]⟩/\St w [] [eM (List.map dm rws),eO 27 8 (.slice LA40_21 L9.length lc40_21) L9.length (rs.flatMap rcC),eO 3 1 (.slice EA40_21 L9.length ec40_21) L9.length ((cy L9 L9.length).map (Value.int .i64)),eRc rs,eB dZ 34 #[vp db,vp sb,vp rb,vi (1+(b % 6)),vi safe],eNi sb db L9 t9 5 (0+17500) fps,eRf rb L9 t9 5 fpr,eO 48 3 (.slice gM 5 5) 5 (ps.flatMap pgQ)] W) (L9.length-0) ?_ ?_
 exact⟨0,(List.replicate 5 (⟨br,none,0⟩:PgR)),([]++[(⟨br,none,0⟩:PgR)]),Nat.zero_le _,(psI.zero L9),(fun q hq=>by rw[List.eq_of_mem_replicate hq];simp),rfl,(by kernel_rfl),hg28_.pk [0,1,2,3,4,5,6,7]⟩
 rintro Rx a29 Fl ⟨i,ps,rws,hi,hps,hpr,rfl,hj_,gl⟩
 refine ovz hj_ fun P6=>?_
 refine wq (wq (sqr (sqp [.m 44 10,.m 45 7,.k 46 (vi ((L9.length:Int))),.k 47 (.bool (decide ((i:Int)<(L9.length:Int))))] ?_)))
 refine aa (wds (fun jA lX=>?_) fun jA lX=>?_)
 refine wp_skip (aa (wq (wp_block (wq (wq (sqr (sqp [.m 50 10,.m 51 8,.k 52 (vi ((L9.length:Int))),.k 53 (.bool (decide ((L9.length:Int)<=(i:Int))))] ?_)))))))
 refine aa (wds (fun Ns OI=>?_) fun Ns OI=>?_)
 refine wq (sqr (sqp [.k 4 (.bool false)] ?_))
 refine aa (wp_ret (ai (aV (ai (ai (aV (ai ?_)))))))
 refine bpr (.bool false) (ag Tryz.results9 rpt) ?_
 exfalso;have h_:=Ns;simp at h_;omega
 refine wp_skip (aa (wq ?_))
 obtain⟨rt,hrt⟩:∃rt,rs[i]? =some rt:=⟨_,List.getElem?_eq_getElem (by omega)⟩
 have hlj:L9[i]? =some rt.r:=by rw[<-hrs,List.getElem?_map,hrt];rfl
 have hro:=d9 (hL9 _ (List.mem_of_getElem? hlj))
 have hml:=hro.many
 have hgi:=hgl i _ hlj
 refine sqr (sqp [.k 11 (vi 0)] ?_)
 refine aa (wp_block ?_)
 refine aM (fun t_ mz az W=>∃k:Nat,∃ps2:List PgR,∃rws2:List PgR,k<=rt.r.eds.length/\psI L9 i (rt.r.eds.take k) ps2/\(∀q∈ps2,q∈rws2)/\mz=rt.r.eds.length-k/\az=⟨(ovr (jv az) [(4,4,1,[]),(6,11,0,[vi ((k:Int))]),(0,12,3,[]),(39,54,49,[])] t_).toArray,[]⟩/\St w [] [eM (List.map dm rws2),eO 27 8 (.slice LA40_21 L9.length lc40_21) L9.length (rs.flatMap rcC),eO 3 1 (.slice EA40_21 L9.length ec40_21) L9.length ((cy L9 L9.length).map (Value.int .i64)),eRc rs,eB dZ 34 #[vp db,vp sb,vp rb,vi (1+(b % 6)),vi safe],eNi sb db L9 t9 5 (0+17500) fps,eRf rb L9 t9 5 fpr,eO 48 3 (.slice gM 5 5) 5 (ps2.flatMap pgQ)] W) (rt.r.eds.length-0) ?_ ?_
 exact⟨0,ps,rws,Nat.zero_le _,hps,hpr,rfl,(by kernel_rfl),gl.pk [0,1,2,3,4,5,6,7]⟩
 rintro Uh a42 sh ⟨k,ps2,rws2,hk,hps2,hpr2,rfl,hj_,cS⟩
 refine ovz hj_ fun TG=>?_
 refine wq (wq (sqr (sqp [.m 54 11,.m 55 7,.m 56 10] ?_)))
 refine sql (.pointer (some ((ad LA40_21).add (i*8)))) cS (fun cx=>ay (e:=27) (m:=i) (sz:=8) rfl (by kernel_rfl) (by kernel_rfl) (cx.ou 55) (cx.ou 56) (by omega) (by omega) (At.of_ownN (cx.ri 1 rfl)) (be (sz:=8) bY (by decide) (by omega))) ?_
 refine sql (.pointer (some ((ad LA40_21).add (i*8+5)))) cS (fun cx=>bg rfl (by kernel_rfl) (cx.ou 57)) ?_
 refine sql (.slice rt.A rt.r.eds.length rt.c) cS (fun cx=>ae rfl (by kernel_rfl) (cx.ou 58) (At.eltc (f:=rcC) (k:=5) bY (At.of_ownN (cx.ri 1 rfl)) hrt rfl)) ?_
 refine sqp [.k 60 (vi ((rt.r.eds.length:Int))),.k 61 (.bool (decide ((k:Int)<(rt.r.eds.length:Int))))] ?_
 refine aa (wds (fun P7 OJ=>?_) fun P7 OJ=>?_)
 refine wp_skip (aa (wq (wp_block (wq ?_))))
 obtain⟨ep,es,eb,hek⟩:=xo (l:=rt.r.eds) (j:=k) (by omega)
 have hke:edR (ep,es,eb)=true:=hro.eds _ (List.mem_of_getElem? hek)
 have hez:eb.size<=9223372036854775807:=by have:=dn hke;dsimp only at this;omega
 have hebd:=jL hke
 dsimp only at hebd
 have hpe:=jO hgi.1 (List.mem_of_getElem? hek)
 dsimp only at hpe
 obtain⟨m,rfl⟩:∃m:Nat,ep=(m:Int):=⟨ep.toNat,by omega⟩
 have hm5:m<5:=by omega
 have hpl:=hps2.1
 obtain⟨pq,hpk⟩:∃q,ps2[m]? =some q:=⟨_,List.getElem?_eq_getElem (by omega)⟩
 have hpq:=hps2.2 m pq hpk
 have hde:=hgl.ed hlj hek (by omega)
 dsimp only at hde
 have hd:doE pq.p ((m:Int),es,eb) ((i:Int)+1)=0:=by rw[hpq];exact hde
 have hri:bK pq.p:=by rw[hpq];exact kH (dC _ _)
 have hpm:=hpr2 pq (List.mem_of_getElem? hpk)
 refine sqr (sqp [.m 64 7,.m 65 10] ?_)
 refine sql (.pointer (some ((ad LA40_21).add (i*8)))) cS (fun cx=>ay (e:=27) (m:=i) (sz:=8) rfl (by kernel_rfl) (by kernel_rfl) (cx.ou 64) (cx.ou 65) (by omega) (by omega) (At.of_ownN (cx.ri 1 rfl)) (be (sz:=8) bY (by decide) (by omega))) ?_
 refine sql (.pointer (some ((ad LA40_21).add (i*8+5)))) cS (fun cx=>bg rfl (by kernel_rfl) (cx.ou 66)) ?_
 refine sql (.slice rt.A rt.r.eds.length rt.c) cS (fun cx=>ae rfl (by kernel_rfl) (cx.ou 67) (At.eltc (f:=rcC) (k:=5) bY (At.of_ownN (cx.ri 1 rfl)) hrt rfl)) ?_
 refine sqp [.m 69 11] ?_
 refine sql (.pointer (some ((ad rt.A).add (k*3)))) cS (fun cx=>ay (e:=84) (m:=k) (sz:=3) rfl (by kernel_rfl) (by kernel_rfl) (cx.ou 68) (cx.ou 69) (by omega) (by omega) (di (CtxV.holdF cx (cx.init 3 _ rfl) rfl) (List.mem_of_getElem? hrt)) (be (sz:=3) bA (by decide) (by omega))) ?_
 refine sql (.pointer (some ((ad rt.A).add (k*3+0)))) cS (fun cx=>bg rfl (by kernel_rfl) (cx.ou 70)) ?_
 refine sql (vi ((m:Int))) cS (fun cx=>ae rfl (by kernel_rfl) (cx.ou 71) (At.eltc (f:=edC) (k:=0) bA (di (CtxV.holdF cx (cx.init 3 _ rfl) rfl) (List.mem_of_getElem? hrt)) hek rfl)) ?_
 refine sqp [.m 12 72] ?_
 refine aa (wq (wq (sqr (sqp [.m 73 12,.k 74 (.bool (decide ((m:Int)<0))),.m 75 74] ?_))))
 refine sqw 75 [76,77] rfl (fun _=>sqp [.m 76 12,.k 77 (.bool (decide (5<=(m:Int))))] sqe) ?_
 refine sqp [sPo 78 (decide ((m:Int)<0)) (decide (5<=(m:Int)))] ?_
 refine aa (wbs (fun nR=>?_) fun nR=>?_)
 have xF:=nR
 simp only[zB] at xF
 refine wq (sqr (sqp [.k 4 (.bool false)] ?_))
 refine aa (wp_ret (ai (aV (ai (ai (aV (aV (ai (ai (aV (ai ?_)))))))))))
 refine bpr (.bool false) (ag Tryz.results9 rpt) ?_
 exfalso;have h_:=nR;simp at h_;omega
 have xF:=nR
 simp only[zB] at xF
 obtain⟨Ry,Rz⟩:=xF
 refine wp_skip (aa (wq (aE [0,0,3,7,0,0,48,112,240,0,1008,2032,0,4096,16383,32767,65535,65535,0,393215,1048575] [[],[],[7],[7],[],[],[1],[],[1],[],[3],[3],[],[],[0],[],[],[],[],[9]] [[],[],[],[],[],[],[],[],[],[],[],[],[],[],[8],[],[],[],[9],[10]] [[],[],[],[],[],[],[],[],[],[],[],[],[],[],[],[],[],[],[],[9]] [.k 80 (.slice gM 5 5),.k 81 (vi ((m:Int))),.c 82 (.pointer (some ((ad gM).add (m*3)))),.c 83 (.agg #[vi pq.p.1,vi pq.p.2.1,.slice pq.A pq.p.2.2.length pq.c]),.k 84 (.slice LA40_21 L9.length lc40_21),.k 85 (vi ((i:Int))),.c 86 (.pointer (some ((ad LA40_21).add (i*8)))),.c 87 (.pointer (some ((ad LA40_21).add (i*8+5)))),.c 88 (.slice rt.A rt.r.eds.length rt.c),.k 89 (vi ((k:Int))),.c 90 (.pointer (some ((ad rt.A).add (k*3)))),.c 91 (.agg #[vi ((m:Int)),vi es,.string eb]),.k 92 (vi ((i:Int))),tI 93 ((i:Int)+1) (by omega),.a 94,.a 79,.a 95,.c 96 (vi ((doE pq.p ((m:Int),es,eb) ((i:Int)+1)))),.a 13,.n,.k 14 (vi ((doE pq.p ((m:Int),es,eb) ((i:Int)+1))))] (fun ix g d X=>match ix with|0|1|2|3|4|5|6|7|8|9|10|11|12|13=>True|14=>g 94= .tuple #[.agg #[vi ((doR pq.p ((m:Int),es,eb) ((i:Int)+1)).1),vi ((doR pq.p ((m:Int),es,eb) ((i:Int)+1)).2.1),.slice (sA (tg (tg (d 94) 0) 2)) ((doR pq.p ((m:Int),es,eb) ((i:Int)+1)).2.2.length) (sC (tg (tg (d 94) 0) 2))],vi ((doE pq.p ((m:Int),es,eb) ((i:Int)+1)))]/\X 8=eO 9 1 (.slice (sA (tg (tg (d 94) 0) 2)) ((doR pq.p ((m:Int),es,eb) ((i:Int)+1)).2.2.length) (sC (tg (tg (d 94) 0) 2))) ((doR pq.p ((m:Int),es,eb) ((i:Int)+1)).2.2.length) ((doR pq.p ((m:Int),es,eb) ((i:Int)+1)).2.2.map Value.string)|15=>g 79= .tuple #[.agg #[vi ((doR pq.p ((m:Int),es,eb) ((i:Int)+1)).1),vi ((doR pq.p ((m:Int),es,eb) ((i:Int)+1)).2.1),.slice (sA (tg (tg (d 94) 0) 2)) ((doR pq.p ((m:Int),es,eb) ((i:Int)+1)).2.2.length) (sC (tg (tg (d 94) 0) 2))],vi ((doE pq.p ((m:Int),es,eb) ((i:Int)+1)))]|16=>g 95= .agg #[vi ((doR pq.p ((m:Int),es,eb) ((i:Int)+1)).1),vi ((doR pq.p ((m:Int),es,eb) ((i:Int)+1)).2.1),.slice (sA (tg (tg (d 94) 0) 2)) ((doR pq.p ((m:Int),es,eb) ((i:Int)+1)).2.2.length) (sC (tg (tg (d 94) 0) 2))]|17=>True|18=>g 13=vp (pb (d 13))/\X 9=eB (pb (d 13)) 48 #[vi 0,vi 0,sn]|19=>X 10=eB (pb (d 13)) 48 #[vi ((doR pq.p ((m:Int),es,eb) ((i:Int)+1)).1),vi ((doR pq.p ((m:Int),es,eb) ((i:Int)+1)).2.1),.slice (sA (tg (tg (d 94) 0) 2)) ((doR pq.p ((m:Int),es,eb) ((i:Int)+1)).2.2.length) (sC (tg (tg (d 94) 0) 2))]|_=>True) [0,1,2,3,4,5,6,7,8,10] [2,3,6,7,8,10,11,14,15,16,17,18,19] [(13,18,3,15),(64,15,1,65),(0,0,15,15),(0,16,2,2)] cS ?_ ?_ ?_)))
 exact fun ix _ _ _ _ _ _ hs hb hx h=>match ix,h with
 |14,h=>by dsimp only;rw[<-hs 94 rfl,<-hb 94 rfl,<-hx 8 rfl];exact h
 |15,h=>by dsimp only;rw[<-hs 79 rfl,<-hb 94 rfl];exact h
 |16,h=>by dsimp only;rw[<-hs 95 rfl,<-hb 94 rfl];exact h
 |18,h=>by dsimp only;rw[<-hs 13 rfl,<-hb 13 rfl,<-hx 9 rfl];exact h
 |19,h=>by dsimp only;rw[<-hb 13 rfl,<-hb 94 rfl,<-hx 10 rfl];exact h
 |0,_|1,_|2,_|3,_|4,_|5,_|6,_|7,_|8,_|9,_|10,_|11,_|12,_|13,_|17,_|_+20,_=>trivial
 refine⟨?_,?_,?_,?_,?_,?_,?_,?_,?_,?_,?_,?_,?_,trivial⟩
 exact xs4 rfl id fun cx=>ay (e:=48) (m:=m) (sz:=3) rfl (by kernel_rfl) (by kernel_rfl) (cx.an 0) (cx.an 1) (by omega) (by omega) (At.of_ownN (cx.ri 7 rfl)) (be (sz:=3) et (by decide) (by omega))
 exact xs4 rfl id fun cx=>bH (f:=pgQ) (m:=m) (sz:=3) (off:=0) (n:=3) rfl (by kernel_rfl) (by kernel_rfl) (cx.an 2) rfl et (At.of_ownN (cx.ri 7 rfl)) hpk (fun k hk=>match k,hk with|0,_=>rfl|1,_=>rfl|2,_=>rfl|k+3,hk=>absurd hk (by omega))
 exact xs4 rfl id fun cx=>ay (e:=27) (m:=i) (sz:=8) rfl (by kernel_rfl) (by kernel_rfl) (cx.an 4) (cx.an 5) (by omega) (by omega) (At.of_ownN (cx.ri 1 rfl)) (be (sz:=8) bY (by decide) (by omega))
 exact xs4 rfl id fun cx=>bg rfl (by kernel_rfl) (cx.an 6)
 exact xs4 rfl id fun cx=>ae rfl (by kernel_rfl) (cx.an 7) (At.eltc (f:=rcC) (k:=5) bY (At.of_ownN (cx.ri 1 rfl)) hrt rfl)
 exact xs4 rfl id fun cx=>ay (e:=84) (m:=k) (sz:=3) rfl (by kernel_rfl) (by kernel_rfl) (cx.an 8) (cx.an 9) (by omega) (by omega) (di (CtxV.holdF cx (cx.init 3 _ rfl) rfl) (List.mem_of_getElem? hrt)) (be (sz:=3) bA (by decide) (by omega))
 exact xs4 rfl id fun cx=>bH (f:=edC) (m:=k) (sz:=3) (off:=0) (n:=3) rfl (by kernel_rfl) (by kernel_rfl) (cx.an 10) rfl bA (di (CtxV.holdF cx (cx.init 3 _ rfl) rfl) (List.mem_of_getElem? hrt)) hek (fun k hk=>match k,hk with|0,_=>rfl|1,_=>rfl|2,_=>rfl|k+3,hk=>absurd hk (by omega))
 refine svA fun o d W X cx=>?_
 refine am.call (aq (args:=#[.agg #[vi pq.p.1,vi pq.p.2.1,.slice pq.A pq.p.2.2.length pq.c],.agg #[vi ((m:Int)),vi es,.string eb],vi ((i:Int)+1)]) rfl cx.sees rfl (by kernel_rfl) (dG (cx.an 3) (cx.an 11) (cx.an 13))) ?_
 refine(x4 (s5 pq.p.1 pq.p.2.1 _ _ pq.p.2.2 (m:Int) es eb ((i:Int)+1) _ (gC (CtxV.holdF cx (cx.init 0 _ rfl) rfl) hpm) hri.1 (dW hri.1) hez)).mono ?_
 rintro e W1 ⟨A4,c4,rfl,ho,hx⟩
 refine⟨_,rfl,bM [eO 9 1 (.slice A4 (doR pq.p ((m:Int),es,eb) ((i:Int)+1)).2.2.length c4) (doR pq.p ((m:Int),es,eb) ((i:Int)+1)).2.2.length ((doR pq.p ((m:Int),es,eb) ((i:Int)+1)).2.2.map Value.string)] rfl rfl hx (one_new (cg ho)) (List.pairwise_singleton _ _) (fun g t X' hs hb hv hN=>?_)⟩
 have aJ:=(hv 94 rfl).1;have aR:=(hv 94 rfl).2
 exact⟨aJ.trans (by rw[aR];exact rfl),(by rw[aR];exact(List.cons.inj hN).1)⟩
 exact sv rfl rfl rfl rfl rfl _ (fun _ _ _ h=>h) (fun d t h=>by rw[h 94 (by decide)]) fun o d W X cx=>cD rfl (dTn (cx.an 14)).1
 exact sv rfl rfl rfl rfl rfl _ (fun _ _ _ h=>h) (fun d t h=>by rw[h 94 (by decide)]) fun o d W X cx=>bC rfl (dTn (cx.an 15)) rfl
 exact xs4 rfl id fun cx=>bC rfl (dTn (cx.an 15)) rfl
 refine svA fun o d W X cx=>?_
 exact c7 (cs:=#[vi 0,vi 0,sn]) rfl (by kernel_rfl) rfl rfl (fun _ _ _ _ _=> .intro)
 refine svA fun o d W X cx=>?_
 exact bv (n:=3) rfl (dTn (cx.an 18)).1 (dTn (cx.an 16)) (by kernel_rfl) (by kernel_rfl) (by kernel_rfl) cx (dTn (cx.an 18)).2 rfl (nle rfl) (by kernel_rfl) rfl rfl rfl (fun g t X' hs hb hx=>by rw[hb 13,hb 94];exact hx)
 intro g d X Ru hD nu fr aD
 simp only[exq 8 ((dTn (hD 14 lq)).2),exq 10 ((dTn (hD 19 lq)))] at nu
 simp only[ed 94 ((dTn (hD 14 lq)).1),ed 79 ((dTn (hD 15 lq))),ed 95 ((dTn (hD 16 lq))),ed 13 ((dTn (hD 18 lq)).1)] at aD
 generalize sA (tg (tg (d 94) 0) 2)=oH,sC (tg (tg (d 94) 0) 2)=oI,pb (d 13)=RB at nu aD
 clear hD;subst aD;clear g d X
 refine aa (wq (wq (sqr ?_)))
 have hd73:((doE pq.p ((m:Int),es,eb) ((i:Int)+1)) != 0)=false:=(by rw[hd];rfl)
 refine sqp [.m 97 14,.e 98 (.bool ((doE pq.p ((m:Int),es,eb) ((i:Int)+1)) != 0)) (.bool false) (congrArg Value.bool hd73)] ?_
 refine aa (wcf rfl (wp_skip (aa (sqr (sqp [.m 99 9,.m 100 12] ?_)))))
 refine bJ 9 3 nu ?_
 refine sql (.pointer (some ((ad gM).add (m*3)))) nu (fun cx=>ay (e:=48) (m:=m) (sz:=3) rfl (by kernel_rfl) (by kernel_rfl) (cx.ou 99) (cx.ou 100) (by omega) (by omega) (At.of_ownN (cx.ri 7 rfl)) (be (sz:=3) et (by decide) (by omega))) ?_
 refine sqc (eO 48 3 (.slice gM 5 5) 5 ((ps2.set m (⟨doR pq.p ((m:Int),es,eb) ((i:Int)+1),oH,oI⟩:PgR)).flatMap pgQ)) 7 nu (by
   refine svA fun o d W X cx=>?_
   exact nC (m:=m*3) (n:=5) (sz:=3) (k:=3) rfl (cx.ou 102) (show _=Value.agg #[vi ((doR pq.p ((m:Int),es,eb) ((i:Int)+1)).1),vi ((doR pq.p ((m:Int),es,eb) ((i:Int)+1)).2.1),.slice oH ((doR pq.p ((m:Int),es,eb) ((i:Int)+1)).2.2.length) oI] from(cx.ou 101)) (by kernel_rfl) (by kernel_rfl) (by kernel_rfl) cx (cx.init 7 _ rfl) rfl (by omega) (by decide) rfl (wM et (ts:=ps2) (m:=m) (by omega) (⟨doR pq.p ((m:Int),es,eb) ((i:Int)+1),oH,oI⟩:PgR)) rfl rfl (fun _ _ _ _ _=>id)) fun Rf xC=>?_
 refine av (aa (sqr (sqp [.m 62 11,sI 63 ((k:Int)+1) (by omega),.m 11 63] ?_)))
 refine aa ?_
 have hg82_:=St.apf (r:=(⟨doR pq.p ((m:Int),es,eb) ((i:Int)+1),oH,oI⟩:PgR)) xC.u8.u1
 refine⟨rt.r.eds.length-((k+1)),by omega,?_⟩
 exact⟨(k+1),(ps2.set m (⟨doR pq.p ((m:Int),es,eb) ((i:Int)+1),oH,oI⟩:PgR)),(rws2++[(⟨doR pq.p ((m:Int),es,eb) ((i:Int)+1),oH,oI⟩:PgR)]),by omega,(hps2.step hek rfl hde (by show doR _ _ _= _;rw[nX hd,hpq])),(fun q hq=>(List.mem_or_eq_of_mem_set hq).elim (fun h=>List.mem_append_left _ (hpr2 q h)) fun h=>by rw[h];simp),rfl,(by kernel_rfl),hg82_.pk [0,1,2,3,4,5,6,7]⟩
 refine wp_exit (al (al (bh (av (aa (sqr (sqp [.m 48 10,sI 49 ((i:Int)+1) (by omega),.m 10 49] ?_)))))))
 refine aa ?_
 refine⟨L9.length-((i+1)),by omega,?_⟩
 exact⟨(i+1),ps2,rws2,by omega,(psI.done (by have h_:=hps2;rw[List.take_of_length_le (by omega)] at h_;exact h_) hlj),hpr2,rfl,(by kernel_rfl),cS.pk [0,1,2,3,4,5,6,7]⟩
 refine wp_exit (al (al (bh (aa (wq (wq ?_))))))
 have hil:i=L9.length:=by omega
 have hps9:psI L9 L9.length [] ps:=by have h_:=hps;rw[hil] at h_;exact h_
 have hpl9:=hps9.1
 refine sqr (sqp [.k 15 (vi 0)] ?_)
 refine aa (wp_block ?_)
 refine aM (fun t_ mz az W=>∃n:Nat,∃c1:Nat,∃fq1:List Nat,n<=5/\c1<=20000+3*n/\mz=5-n/\az=⟨(ovr (jv az) [(4,4,1,[]),(10,15,0,[vi ((n:Int))]),(0,16,2,[]),(85,103,24,[])] t_).toArray,[]⟩/\St w [] [eM (List.map dm rws),eO 27 8 (.slice LA40_21 L9.length lc40_21) L9.length (rs.flatMap rcC),eO 3 1 (.slice EA40_21 L9.length ec40_21) L9.length ((cy L9 L9.length).map (Value.int .i64)),eRc rs,eB dZ 34 #[vp db,vp sb,vp rb,vi (1+(b % 6)),vi safe],eNi sb db L9 t9 5 c1 fq1,eRf rb L9 t9 5 fpr,eO 48 3 (.slice gM 5 5) 5 (ps.flatMap pgQ)] W) (5-0) ?_ ?_
 exact⟨0,(0+17500),fps,Nat.zero_le _,(by omega),rfl,(by kernel_rfl),gl.pk [0,1,2,3,4,5,6,7]⟩
 rintro Ui a87 L7 ⟨n,c1,fq1,hn5,hc1,rfl,hj_,kN⟩
 refine ovz hj_ fun TH=>?_
 refine wq (wq (sqr (sqp [.m 103 15,.k 104 (.bool (decide ((n:Int)<5)))] ?_)))
 refine aa (wds (fun P8 OK=>?_) fun P8 OK=>?_)
 refine wp_skip (aa (wq (wp_block (wq ?_))))
 obtain⟨PA9,pc9,hpk9⟩:=hps9.last (n:=n) (by omega)
 have hpm9:=hpr _ (List.mem_of_getElem? hpk9)
 refine aE [0,1,3,7,0,31,63,127,127,0,767,2047] [[],[],[],[4],[],[5],[],[],[],[],[10]] [[],[],[],[],[],[8,9],[],[],[],[10],[11]] [[],[],[],[],[],[5],[],[],[],[],[10]] [.k 108 (vp dZ),.k 109 (vp dZ),.k 110 (po dZ 1),.c 111 (vp sb),.k 112 (vi ((n:Int))),.a 113,.a 107,.a 114,.c 115 (.bool true),.a 16,.n,.k 17 (.bool true)] (fun ix g d X=>match ix with|0|1|2|3|4=>True|5=>g 113= .tuple #[.agg #[vi ((ah L9 (n:Int)).1),vi ((ah L9 (n:Int)).2.1),.slice (sA (tg (tg (d 113) 0) 2)) ((ah L9 (n:Int)).2.2.length) (sC (tg (tg (d 113) 0) 2))],.bool true]/\X 8=eNi sb db L9 t9 5 (c1+3) ((X 8).fp)/\X 9=eO 9 1 (.slice (sA (tg (tg (d 113) 0) 2)) ((ah L9 (n:Int)).2.2.length) (sC (tg (tg (d 113) 0) 2))) ((ah L9 (n:Int)).2.2.length) ((ah L9 (n:Int)).2.2.map Value.string)|6=>g 107= .tuple #[.agg #[vi ((ah L9 (n:Int)).1),vi ((ah L9 (n:Int)).2.1),.slice (sA (tg (tg (d 113) 0) 2)) ((ah L9 (n:Int)).2.2.length) (sC (tg (tg (d 113) 0) 2))],.bool true]|7=>g 114= .agg #[vi ((ah L9 (n:Int)).1),vi ((ah L9 (n:Int)).2.1),.slice (sA (tg (tg (d 113) 0) 2)) ((ah L9 (n:Int)).2.2.length) (sC (tg (tg (d 113) 0) 2))]|8=>True|9=>g 16=vp (pb (d 16))/\X 10=eB (pb (d 16)) 48 #[vi 0,vi 0,sn]|10=>X 11=eB (pb (d 16)) 48 #[vi ((ah L9 (n:Int)).1),vi ((ah L9 (n:Int)).2.1),.slice (sA (tg (tg (d 113) 0) 2)) ((ah L9 (n:Int)).2.2.length) (sC (tg (tg (d 113) 0) 2))]|_=>True) [0,1,2,3,4,6,7,8,9,11] [3,5,6,7,8,9,10] [(16,9,3,18),(89,6,1,90),(0,0,6,6),(0,7,2,2)] kN ?_ ?_ ?_
 exact fun ix _ _ _ _ _ _ hs hb hx h=>match ix,h with
 |5,h=>by dsimp only;rw[<-hs 113 rfl,<-hb 113 rfl,<-hx 8 rfl,<-hx 9 rfl];exact h
 |6,h=>by dsimp only;rw[<-hs 107 rfl,<-hb 113 rfl];exact h
 |7,h=>by dsimp only;rw[<-hs 114 rfl,<-hb 113 rfl];exact h
 |9,h=>by dsimp only;rw[<-hs 16 rfl,<-hb 16 rfl,<-hx 10 rfl];exact h
 |10,h=>by dsimp only;rw[<-hb 16 rfl,<-hb 113 rfl,<-hx 11 rfl];exact h
 |0,_|1,_|2,_|3,_|4,_|8,_|_+11,_=>trivial
 refine⟨?_,?_,?_,?_,?_,?_,?_,trivial⟩
 exact xs4 rfl id fun cx=>ae rfl (by kernel_rfl) (cx.an 2) ((cx.bi 4 rfl).cell 1)
 refine svA fun o d W X cx=>?_
 refine am.call (aq (args:=#[vp sb,vi ((n:Int))]) rfl cx.sees rfl (by kernel_rfl) (aT (cx.an 3) (cx.an 4))) ?_
 refine(FX (by omega) (by decide) (CtxV.holdF cx (cx.init 5 _ rfl) rfl) (CtxV.ltF cx (cx.init 5 _ rfl) rfl) (by omega)).mono ?_
 rintro e W1 ⟨A4,c4,rfl,fp4,aQ⟩
 refine⟨_,rfl,aK (E:=eNi sb db L9 t9 5 c1 fq1) [eNi sb db L9 t9 5 (c1+3) fp4,eO 9 1 (.slice A4 (ah L9 (n:Int)).2.2.length c4) (ah L9 (n:Int)).2.2.length ((ah L9 (n:Int)).2.2.map Value.string)] (cx.init 5 _ rfl) rfl rfl aQ (fun g t X' hs hb hv hN=>?_)⟩
 have aJ:=(hv 113 rfl).1;have aR:=(hv 113 rfl).2
 exact⟨aJ.trans (by rw[aR];exact rfl),eT ((List.cons.inj hN).1),(by rw[aR];exact(List.cons.inj (List.cons.inj hN).2).1)⟩
 exact sv rfl rfl rfl rfl rfl _ (fun _ _ _ h=>h) (fun d t h=>by rw[h 113 (by decide)]) fun o d W X cx=>cD rfl (dTn (cx.an 5)).1
 exact sv rfl rfl rfl rfl rfl _ (fun _ _ _ h=>h) (fun d t h=>by rw[h 113 (by decide)]) fun o d W X cx=>bC rfl (dTn (cx.an 6)) rfl
 exact xs4 rfl id fun cx=>bC rfl (dTn (cx.an 6)) rfl
 refine svA fun o d W X cx=>?_
 exact c7 (cs:=#[vi 0,vi 0,sn]) rfl (by kernel_rfl) rfl rfl (fun _ _ _ _ _=> .intro)
 refine svA fun o d W X cx=>?_
 exact bv (n:=3) rfl (dTn (cx.an 9)).1 (dTn (cx.an 7)) (by kernel_rfl) (by kernel_rfl) (by kernel_rfl) cx (dTn (cx.an 9)).2 rfl (nle rfl) (by kernel_rfl) rfl rfl rfl (fun g t X' hs hb hx=>by rw[hb 16,hb 113];exact hx)
 intro g d X Rh hD xD fr aD
 obtain⟨BI,pO⟩:∃z,sA (tg (tg (d 113) 0) 2)=z:=⟨_,rfl⟩
 obtain⟨BJ,pP⟩:∃z,sC (tg (tg (d 113) 0) 2)=z:=⟨_,rfl⟩
 obtain⟨RD,rv⟩:∃z,pb (d 16)=z:=⟨_,rfl⟩
 have zS:X 8= _:=(dTn (hD 5 lq)).2.1
 obtain⟨OL,Am⟩:∃z,(X 8).fp=z:=⟨_,rfl⟩
 rw[Am] at zS
 clear Am
 simp only[zS,exq 9 ((dTn (hD 5 lq)).2.2),exq 11 ((dTn (hD 10 lq))),pO,pP,rv] at xD
 simp only[ed 113 ((dTn (hD 5 lq)).1),ed 107 ((dTn (hD 6 lq))),ed 114 ((dTn (hD 7 lq))),ed 16 ((dTn (hD 9 lq)).1),pO,pP,rv] at aD
 clear hD zS pO pP rv;subst aD;clear g d X
 refine aa (wq (bL [0,1,3,7,7,7,55,119,255,511,1023] [[],[],[],[9],[],[],[6],[6],[8,0]] [.k 116 (.bool true),.k 117 (.bool false),.k 118 (.bool false),.c 119 (.agg #[vi ((ah L9 (n:Int)).1),vi ((ah L9 (n:Int)).2.1),.slice BI ((ah L9 (n:Int)).2.2.length) BJ]),.k 120 (.slice gM 5 5),.k 121 (vi ((n:Int))),.c 122 (.pointer (some ((ad gM).add (n*3)))),.c 123 (.agg #[vi ((ah L9 (n:Int)).1),vi ((ah L9 (n:Int)).2.1),.slice PA9 ((ah L9 (n:Int)).2.2.length) pc9]),.c 124 (.bool true),.k 125 (.bool false),.k 126 (.bool false)] [0,1,2,3,4,5,6,7,8,9] [3,6,7,8] [(116,0,11,127)] xD ?_ fun IZ kd=>?_))
 refine⟨?_,?_,?_,?_,trivial⟩
 exact xs5 rfl id (fun cx=>(cx.an 2)) fun cx=>bZ (n:=3) rfl (by kernel_rfl) (by kernel_rfl) (cx.ou 16) (cx.bi 9 rfl) (nle rfl) rfl
 exact xs5 rfl id (fun cx=>(cx.an 2)) fun cx=>ay (e:=48) (m:=n) (sz:=3) rfl (by kernel_rfl) (by kernel_rfl) (cx.an 4) (cx.an 5) (by omega) (by omega) (At.of_ownN (cx.ri 6 rfl)) (be (sz:=3) et (by decide) (by omega))
 exact xs5 rfl id (fun cx=>(cx.an 2)) fun cx=>bH (f:=pgQ) (m:=n) (sz:=3) (off:=0) (n:=3) rfl (by kernel_rfl) (by kernel_rfl) (cx.an 6) rfl et (At.of_ownN (cx.ri 6 rfl)) hpk9 (fun k hk=>match k,hk with|0,_=>rfl|1,_=>rfl|2,_=>rfl|k+3,hk=>absurd hk (by omega))
 exact oN rfl rfl rfl rfl rfl rfl (fun _ _ _ h=>h) (fun _ _ _ _ cx=>(cx.an 2)) fun o d W X cx=>⟨_,_,aq (args:=#[.agg #[vi ((ah L9 (n:Int)).1),vi ((ah L9 (n:Int)).2.1),.slice BI ((ah L9 (n:Int)).2.2.length) BJ],.agg #[vi ((ah L9 (n:Int)).1),vi ((ah L9 (n:Int)).2.1),.slice PA9 ((ah L9 (n:Int)).2.2.length) pc9]]) rfl cx.sees rfl (by kernel_rfl) (aT (cx.an 3) (cx.an 7)),EZ (ah L9 (n:Int)) _ _ _ _ _ (At.of_own (cx.ri 8 rfl)) (gC (CtxV.holdF cx (cx.init 0 _ rfl) rfl) hpm9) (Gh _ _)⟩
 refine aa (wcf rfl (wp_skip (av (aa (sqr (sqp [.m 105 15,sI 106 ((n:Int)+1) (by omega),.m 15 106] ?_))))))
 refine aa ?_
 refine⟨5-((n+1)),by omega,?_⟩
 exact⟨(n+1),(c1+3),OL,by omega,by omega,rfl,(by kernel_rfl),kd.pk [0,1,2,3,4,7,5,6]⟩
 refine wp_exit (al (al (bh (aa (wq ?_)))))
 have hd97:((L9.length:Int)==(L9.length:Int))=true:=(by simp)
 have hd98:((L9.length:Int)==0)=false:=(beq_eq_false_iff_ne.2 (by omega))
 have hd99:((szF L9:Int)==(((da L9)).size:Int))=true:=(beq_iff_eq.2 (by rw[ck]))
 refine bL [0,1,3,7,3,19,51,115,243,511,1023,2047,4095,8191,16383,32767,65535,65535,196607,458751,1048575,2097151,65535,4259839,12648447,29425663,62980095,130088959,268435455,536870911,1073741823,2147483647] [[],[],[],[],[],[],[],[4],[5],[],[],[],[],[],[],[],[],[],[],[],[2],[2],[],[],[],[4],[5]] [.k 127 (.bool true),.k 128 (.bool true),.k 129 (.slice LA40_21 L9.length lc40_21),.k 130 (vi ((L9.length:Int))),.k 131 (vp dZ),.k 132 (vp dZ),.k 133 (po dZ 1),.c 134 (vp sb),.c 135 (vi ((L9.length:Int))),.e 136 (.bool ((L9.length:Int)==(L9.length:Int))) (.bool true) (congrArg Value.bool hd97),.k 137 (.bool true),.k 138 (.bool true),.k 139 (.slice EA40_21 L9.length ec40_21),.k 140 (vi ((L9.length:Int))),.e 141 (.bool ((L9.length:Int)==0)) (.bool false) (congrArg Value.bool hd98),.k 142 (.bool false),.k 143 (.slice EA40_21 L9.length ec40_21),.k 144 (.slice EA40_21 L9.length ec40_21),.k 145 (vi ((L9.length:Int))),tJ 146 ((L9.length:Int)-1) (nl:Int) (by omega) (by omega),.c 147 (.pointer (some ((ad EA40_21).add nl))),.c 148 (vi ((szF L9:Int))),.k 149 (vp dZ),.k 150 (vp dZ),.k 151 (vp dZ),.c 152 (vp db),.c 153 (.string ((da L9))),.k 154 (vi ((((da L9)).size:Int))),.e 155 (.bool ((szF L9:Int)==(((da L9)).size:Int))) (.bool true) (congrArg Value.bool hd99),.k 156 (.bool true),.k 157 (.bool true),.k 4 (.bool true)] [0,1,2,3,4,5,6,7] [7,8,20,21,25,26] [(4,31,1,5),(122,0,31,153)] kN ?_ fun QN uV=>?_
 refine⟨?_,?_,?_,?_,?_,?_,trivial⟩
 exact xs5 rfl id (fun cx=>(cx.an 1)) fun cx=>ae rfl (by kernel_rfl) (cx.an 6) ((cx.bi 4 rfl).cell 1)
 exact oN rfl rfl rfl rfl rfl rfl (fun _ _ _ h=>h) (fun _ _ _ _ cx=>(cx.an 1)) fun o d W X cx=>⟨_,_,aq (args:=#[vp sb]) rfl cx.sees rfl (by kernel_rfl) (aw (cx.an 7)),ED (CtxV.holdF cx (cx.init 5 _ rfl) rfl)⟩
 exact xs5 rfl id (fun cx=>(cx.an 15)) fun cx=>bG (e:=3) (m:=nl) rfl (by kernel_rfl) (by kernel_rfl) (cx.an 16) (cx.an 19) (by omega) (by omega) (At.of_own (cx.ri 2 rfl)) (by rw[List.length_map,kk]<;>omega)
 exact xs5 rfl id (fun cx=>(cx.an 15)) fun cx=>ae rfl (by kernel_rfl) (cx.an 20) (At.cellAd (At.of_own (cx.ri 2 rfl)) ((List.getElem?_map ..).trans (by rw[wu hnl];rfl)))
 exact xs5 rfl id (fun cx=>(cx.an 15)) fun cx=>ae rfl (by kernel_rfl) (cx.an 24) ((cx.bi 4 rfl).cell 0)
 exact oN rfl rfl rfl rfl rfl rfl (fun _ _ _ h=>h) (fun _ _ _ _ cx=>(cx.an 15)) fun o d W X cx=>⟨_,_,aq (args:=#[vp db]) rfl cx.sees rfl (by kernel_rfl) (aw (cx.an 25)),yz (CtxV.holdF cx (cx.init 5 _ rfl) rfl)⟩
 refine aa (wp_ret ?_)
 refine bpr (.bool true) (ag Tryz.results9 rpt) ?_
 exact Ret.of rfl uV.ext
end
section
open Go.ChangeShapes Go.WideShapes Go.ChangeAt Go.RowKit Go.Deep Go.Joins
theorem yv:ownKnob Tryz.prog.godebug=none:=by kernel_rfl
theorem JX:laidOutB Tryz.prog=true:=by kernel_rfl
section
variable{H:Type}{enc:TypeId×Value->H}{P:Program}
theorem pQ(hl:laidOutB P=true){W W':World}{sp:Nat->Bool}:∀{ts:List TypeId}{vs:List Value}{ds:List (DataW H)}{ps:List MemPlace},(∀t∈ts,P.readableRec t=true/\t<P.types.size)->
  DataW.TrodAll enc P W 0 (fun _=>true) true ts vs ds ps->(∀p∈ps,W.sameAt W' p)->(∀p∈ps,sp p.block=true)->DataW.TrodAll enc P W' 0 sp true ts vs ds ps
 | [],[],[],_,_,h,_,_=>h
 |t:: _,_:: _,_:: _,_,hT,⟨p,q,h1,h2,e⟩,hsm,hs=>
  ⟨p,q,WideElems.Trod_stays hl (hT t (by simp)).1 (hT t (by simp)).2 h1 (fun x hx=>hsm x (by rw[e];exact List.mem_append_left _ hx)) (fun x hx=>hs x (by rw[e];exact List.mem_append_left _ hx)),
    pQ hl (fun t ht=>hT t (by simp[ht])) h2 (fun x hx=>hsm x (by rw[e];exact List.mem_append_right _ hx)) (fun x hx=>hs x (by rw[e];exact List.mem_append_right _ hx)),e⟩
theorem HX{f:Func}{s:ChangeSpec}{fresh handsOn again:Bool}{W W':World}{args:Array Value}{ds gs:List (DataW H)}{before:List MemPlace}{tb:TypeId}
  (hl:laidOutB P=true) (hT:∀t∈f.params.toList,P.readableRec t=true/\t<P.types.size) (hr:f.resultTypes=#[tb]) (hb:P.underlying tb=some .bool)
  (hW:DataW.Whole enc P f.params.toList s.vars false W args.toList ds gs before) (hvs:s.vars=[])
  (hres:(s.fn H (ds++gs)).results=[.lit (.bool true)]) (hargs:(s.fn H (ds++gs)).args=ds) (hvars:(s.fn H (ds++gs)).vars=[]) (hx:Ext W W'):
  s.post enc P f false fresh handsOn again W args (.bool true) W':=by
 have hlt:∀p∈before,p.block<W.heap.size:=fun p hp=>hW.lt p hp
 have hold:∀p∈before,(fun b=>decide (b<W.heap.size)) p.block=true:=fun p hp=>by simpa using hlt p hp
 have hW0:=hW
 obtain⟨p,q,hA,hV,rfl,hz,hn⟩:=hW
 rw[hvs] at hV
 obtain⟨rfl,rfl⟩:=trodVars_none hV
 rw[List.append_nil] at hlt hold hz
 have HA:∀sp:Nat->Bool,(∀x∈p,sp x.block=true)->DataW.TrodAll enc P W' 0 sp true f.params.toList args.toList (s.fn H (ds++[])).args p:=fun sp hs=>by
  rw[hargs]
  exact pQ hl hT hA (fun x hx'=>hx.out.same (hlt x hx')) hs
 have HR:∀(b:Nat) (sp:Nat->Bool) (hd:Bool),DataW.TrodAll enc P W' b sp hd f.resultTypes.toList ((Value.bool true).resultList f.resultTypes.size) (s.fn H (ds++[])).results []:=fun b sp hd=>by
  rw[hres,hr]
  exact trodAll_cons_mk (shut_bool hb _) trodAll_mk0
 have HV:∀sp:Nat->Bool,DataW.TrodVars enc P W' sp s.vars (s.fn H (ds++[])).vars []:=fun sp=>by
  rw[hvs,hvars]
  rfl
 refine⟨ds,[],p++[],[],p,[],hW0,HR _ _ _,HA _ hold,HV _,World.keptBut_mono (fun x hx'=>⟨hx',?_⟩) (hx.out.frame (·∈p++[])),fun _=>?_⟩
 rw[List.append_nil] at hx'
 exact Or.inr (Or.inl hx')
 refine⟨?_,_,_,([]++p)++[],⟨[]++p,[],trodAll_append (HA _ (fun _ _=>rfl)) (HR _ _ _),HV _,rfl,?_,fun ha=>by cases ha⟩,?_⟩
 exact ok_one hr rfl (okWide_bool_mk hb _)
 intro b off hp
 have hin:MemPlace.cell b off∈p:=by simpa using hp
 rw[hx.out.frozen (hlt _ hin)]
 exact hz b off hin
 intro x hx' _
 simpa using hx'
end
end
section
open Go.ChangeShapes Go.WideShapes Go.ChangeAt Go.RowKit Go.Deep Go.Joins
inductive Sh where
 |int (k:IntKind)
 |bool
 |str
 |sl (e:Sh) (bs:Nat)
 |st (fs:List Sh)
mutual
def Sh.n:Sh->Nat
 | .st fs=>Sh.ns fs
 | .int _=>1
 | .bool=>1
 | .str=>1
 | .sl _ _=>1
def Sh.ns:List Sh->Nat
 | []=>0
 |f::fs=>f.n+Sh.ns fs
end
mutual
def mY(w:World):Sh->List Value->Prop
 | .int k,cs=>∃z,cs=[.int k z]/\(Lit.int k z).wf=true
 | .bool,cs=>∃b,cs=[.bool b]
 | .str,cs=>∃s:ByteArray,cs=[.string s]/\s.size<=140737488351232
 | .sl e bs,cs=>∃(A:Option Addr) (n c:Nat) (xs:List Value),cs=[.slice A n c]/\At w A xs/\xs.length=n*e.n/\n<=c/\c*bs<=140737488351232/\∀i,i<n->mY w e ((xs.drop (i*e.n)).take e.n)
 | .st fs,cs=>ml w fs cs
def ml(w:World):List Sh->List Value->Prop
 | [],cs=>cs=[]
 |f::fs,cs=>∃a b,cs=a++b/\mY w f a/\ml w fs b
end
mutual
def Sh.fits(P:Program):Sh->TypeId->Bool
 | .int k,t=>match P.underlying t with|some (.int k')=>decide (k'=k)|_=>false
 | .bool,t=>match P.underlying t with|some .bool=>true|_=>false
 | .str,t=>match P.underlying t with|some .string=>true|_=>false
 | .sl e bs,t=>match P.underlying t with|some (.slice u)=>e.fits P u&&decide (P.cellsOf u=e.n)&&decide (P.bytesOf u=bs)&&decide (0<e.n)|_=>false
 | .st fs,t=>match P.underlying t with
   |some (.struct gs)=>decide (P.cellsOf t=Sh.ns fs)&&Sh.fitsF P fs gs.toList 0
   |some (.array n u)=>decide (P.cellsOf t=Sh.ns fs)&&decide (fs.length=n)&&Sh.fitsA P fs u
   |_=>false
def Sh.fitsF(P:Program):List Sh->List Field->Nat->Bool
 | [],[],_=>true
 |f::fs,g::gs,off=>decide (g.offset=off)&&decide (P.cellsOf g.type=f.n)&&f.fits P g.type&&Sh.fitsF P fs gs (off+f.n)
 |_,_,_=>false
def Sh.fitsA(P:Program):List Sh->TypeId->Bool
 | [],_=>true
 |f::fs,u=>decide (P.cellsOf u=f.n)&&f.fits P u&&Sh.fitsA P fs u
end
theorem Bh{α c:Type}{f:α->Option c}:∀{l:List α}{ys:List c},l.mapM f=some ys->ys.length=l.length/\∀(i:Nat) (a:α),l[i]? =some a->f a=ys[i]?
 | [],ys,h=>by simp at h;subst h;simp
 |a::l,ys,h=>by
  simp only[List.mapM_cons,Option.bind_eq_bind,Option.pure_def,Option.bind_eq_some_iff] at h
  obtain⟨b,hb,bs,hbs,he⟩:=h
  obtain rfl:b::bs=ys:=by simpa using he
  obtain⟨h1,h2⟩:=Bh hbs
  refine⟨by simp[h1],fun i x hx=>?_⟩
  cases i with
  |zero=>simp at hx;subst hx;simpa using hb
  |succ i=>simpa using h2 i x (by simpa using hx)
section
variable{H:Type}{enc:TypeId×Value->H}{P:Program}
theorem pR{e:TypeId}:∀{ds:List (DataW H)}(i:Nat) (d:DataW H),ds[i]? =some d->∀x∈d.weights P e,x∈DataW.weightsAll P e ds
 | [],i,d,h,x,hx=>by simp at h
 |d0::ds,0,d,h,x,hx=>by
  simp at h;subst h
  simp only[DataW.weightsAll,List.mem_append];exact .inl hx
 |d0::ds,i+1,d,h,x,hx=>by
  simp only[DataW.weightsAll,List.mem_append]
  exact .inr (pR i d (by simpa using h) x hx)
theorem D6{w:World}{a:Addr}{m len:Nat}(hm:0<m)(h:∀i,i<len->∃csi,w.cells? 0 (a.add (i*m)) m=some csi):
  ∃xs:List Value,xs.length=len*m/\At w (some a) xs/\∀i,i<len->∀csi,w.cells? 0 (a.add (i*m)) m=some csi->(xs.drop (i*m)).take m=csi:=by
 have key:∀i,i<len->∀csi,w.cells? 0 (a.add (i*m)) m=some csi->csi.length=m/\∀r,r<m->w.cell? (a.add (i*m+r))=csi[r]? :=by
  intro i hi csi hc
  unfold World.cells? at hc
  rw[if_pos (Nat.zero_le _)] at hc
  obtain⟨h1,h2⟩:=Bh hc
  refine⟨by simpa using h1,fun r hr=>?_⟩
  have:=h2 r r (by simp[hr])
  rw[sQ] at this
  exact this
 have each:∀j,j<len*m->∃u,w.cell? (a.add j)=some u:=by
  intro j hj
  have hi:j / m<len:=by rw[Nat.div_lt_iff_lt_mul hm];exact hj
  obtain⟨csi,hc⟩:=h _ hi
  obtain⟨h1,h2⟩:=key _ hi _ hc
  have hr:=Nat.mod_lt j hm
  have:=h2 _ hr
  rw[show j / m*m+j % m=j by rw[Nat.mul_comm];exact Nat.div_add_mod j m] at this
  rw[List.getElem?_eq_getElem (by omega)] at this
  exact⟨_,this⟩
 refine⟨(List.range (len*m)).map fun j=>(w.cell? (a.add j)).getD undef,by simp,fun j u hu=>?_,fun i hi csi hc=>?_⟩
 rw[List.getElem?_map] at hu
 rcases Nat.lt_or_ge j (len*m) with hj|hj
 obtain⟨v,hv⟩:=each j hj
 rw[List.getElem?_range hj] at hu
 simp only[Option.map_some,hv,Option.getD_some,Option.some.injEq] at hu
 subst hu
 have:=World.block_lt_of_cell? _ _ hv
 rw[wY] at this
 exact⟨a,rfl,this,hv⟩
 rw[List.getElem?_eq_none (by simpa using hj)] at hu;cases hu
 obtain⟨h1,h2⟩:=key i hi csi hc
 have hb:i*m+m<=len*m:=by
  have:(i+1)*m<=len*m:=Nat.mul_le_mul_right m hi
  rw[Nat.add_mul,Nat.one_mul] at this
  exact this
 apply List.ext_getElem?
 intro r
 rw[List.getElem?_take]
 by_cases hr:r<m
 rw[if_pos hr,List.getElem?_drop,List.getElem?_map,List.getElem?_range (by omega),Option.map_some,h2 r hr,List.getElem?_eq_getElem (by omega)]
 rfl
 rw[if_neg hr,List.getElem?_eq_none (by omega)]
mutual
theorem rz{w:World}:∀(s:Sh) (t:TypeId) (fuel:Nat) (cs:List Value) (x:DataW H×List MemPlace),s.fits P t=true->DataW.trod enc P w 0 (fun _=>true) true fuel t cs=some x->
  (∀n∈x.1.weights P t,n<=reachBytes)->mY w s cs
 | .int k,t,fuel,cs,x,hf,h,hw=>by
   simp only[Sh.fits] at hf
   split at hf
   rename_i k' hu
   obtain rfl:=of_decide_eq_true hf
   obtain⟨z,hc,_,hz⟩:=DataW.trod_int hu h
   exact⟨z,hc,hz⟩
   cases hf
 | .bool,t,fuel,cs,x,hf,h,hw=>by
   simp only[Sh.fits] at hf
   split at hf
   rename_i hu
   obtain⟨b,hc,_⟩:=DataW.trod_bool hu h
   exact⟨b,hc⟩
   cases hf
 | .str,t,fuel,cs,x,hf,h,hw=>by
   simp only[Sh.fits] at hf
   split at hf
   rename_i hu
   obtain⟨s,hc,rfl,_⟩:=DataW.trod_string hu h
   refine⟨s,hc,?_⟩
   have:=hw s.data.toList.length (by simp[DataW.weights])
   exact this
   cases hf
 | .sl e bs,t,fuel,cs,x,hf,h,hw=>by
   simp only[Sh.fits] at hf
   split at hf
   rename_i u hu
   simp only[Bool.and_eq_true,decide_eq_true_eq] at hf
   obtain⟨⟨⟨he,hm⟩,hb⟩,hp⟩:=hf
   rcases DataW.trod_slice hu h with ⟨rfl,rfl⟩|⟨a,len,cap,elems,rest,n,_,rfl,rfl,_,hl,_,hlen,hel,hsp,_⟩
   exact⟨none,0,0,[],rfl,At.nil _ _,by simp,by simp,by simp,fun i hi=>by omega⟩
   obtain⟨hrl,_⟩:=hsp rfl
   rw[hm] at hel
   have hsz:=hw ((elems.length+rest.length)*P.bytesOf u) (by simp[DataW.weights,hu])
   rw[hlen,hrl,hb] at hsz
   have hR:reachBytes=140737488351232:=rfl
   rw[hR] at hsz
   have hex:∀i,i<len->∃csi y,w.cells? 0 (a.add (i*e.n)) e.n=some csi/\elems[i]? =some y/\DataW.trod enc P w 0 (fun _=>true) true n u csi=some y:=by
    intro i hi
    have h1:=hel i hi
    rw[List.getElem?_eq_getElem (by omega),Option.bind_eq_some_iff] at h1
    obtain⟨csi,hc,hy⟩:=h1
    exact⟨csi,_,hc,List.getElem?_eq_getElem (by omega),hy⟩
   obtain⟨xs,hxl,hxa,hxe⟩:=D6 (w:=w) (a:=a) (len:=len) hp (fun i hi=>let ⟨csi,_,hc,_⟩:=hex i hi;⟨csi,hc⟩)
   refine⟨some a,len,cap,xs,rfl,hxa,hxl,hl,?_,fun i hi=>?_⟩
   rw[show len+(cap-len)=cap by omega] at hsz
   exact hsz
   obtain⟨csi,y,hc,hy,ht⟩:=hex i hi
   rw[hxe i hi csi hc]
   refine rz e u n csi y he ht fun z hz=>hw z ?_
   simp only[DataW.weights,hu,List.mem_cons,List.mem_append]
   refine .inr (.inl ?_)
   exact pR i y.1 (by rw[List.getElem?_map,hy];rfl) z hz
   cases hf
 | .st fs,t,fuel,cs,x,hf,h,hw=>by
   simp only[Sh.fits] at hf
   split at hf
   rename_i gs hu
   simp only[Bool.and_eq_true,decide_eq_true_eq] at hf
   obtain⟨hc,hF⟩:=hf
   obtain⟨xs,n,_,rfl,hcl,hxl,hat⟩:=DataW.trod_struct hu h
   have:=x2 fs gs.toList 0 cs xs n hF (fun i g hg=>hat i g (by rw[<-hg];exact(Array.getElem?_toList ..).symm)) (by simpa using hxl) (by omega) (fun z hz=>hw z (by simp only[DataW.weights,hu];exact hz))
   rw[List.drop_zero,List.take_of_length_le (by omega)] at this
   exact this
   rename_i n u hu
   simp only[Bool.and_eq_true,decide_eq_true_eq] at hf
   obtain⟨⟨hc,hn⟩,hF⟩:=hf
   obtain⟨xs,m,_,rfl,hcl,hxl,hat⟩:=DataW.trod_array hu h
   have:=za fs u 0 cs xs m hF (fun i hi=>by rw[Nat.zero_add];exact hat i (by omega)) (by omega) (by rw[Nat.zero_mul,Nat.zero_add];omega) (fun z hz=>hw z (by simp only[DataW.weights,hu];exact hz))
   rw[Nat.zero_mul,List.drop_zero,List.take_of_length_le (by omega)] at this
   exact this
   cases hf
theorem x2{w:World}:∀(fs:List Sh) (gs:List Field) (off:Nat) (cs:List Value) (xs:List (DataW H×List MemPlace)) (m:Nat),Sh.fitsF P fs gs off=true->
  (∀(i:Nat) (g:Field),gs[i]? =some g->DataW.trod enc P w 0 (fun _=>true) true m g.type ((cs.drop g.offset).take (P.cellsOf g.type))=xs[i]?)->xs.length=gs.length->off+Sh.ns fs<=cs.length->
  (∀n∈DataW.weightsEach P (gs.map (·.type)) (xs.map (·.1)),n<=reachBytes)->ml w fs ((cs.drop off).take (Sh.ns fs))
 | [],[],off,cs,xs,m,hf,h,hx,hl,hw=>by simp[ml,Sh.ns]
 |f::fs,g::gs,off,cs,xs,m,hf,h,hx,hl,hw=>by
  simp only[Sh.fitsF,Bool.and_eq_true,decide_eq_true_eq] at hf
  obtain⟨⟨⟨ho,hc⟩,hff⟩,hF⟩:=hf
  simp only[Sh.ns] at hl
  match xs,hx with
  |y::ys,hx=>
   have h0:=h 0 g rfl
   simp only[List.getElem?_cons_zero] at h0
   rw[ho,hc] at h0
   refine⟨(cs.drop off).take f.n,(cs.drop (off+f.n)).take (Sh.ns fs),?_,rz f g.type m _ y hff h0 (fun z hz=>hw z ?_),x2 fs gs (off+f.n) cs ys m hF (fun i g' hg=>?_) (by simpa using hx) (by omega) (fun z hz=>hw z ?_)⟩
   rw[Sh.ns,<-List.drop_drop,List.take_add]
   simp only[List.map_cons,DataW.weightsEach,List.mem_append];exact .inl hz
   simpa using h (i+1) g' (by simpa using hg)
   simp only[List.map_cons,DataW.weightsEach,List.mem_append];exact .inr hz
 | [],_:: _,off,cs,xs,m,hf,h,hx,hl,hw=>by simp[Sh.fitsF] at hf
 |_:: _,[],off,cs,xs,m,hf,h,hx,hl,hw=>by simp[Sh.fitsF] at hf
theorem za{w:World}:∀(fs:List Sh) (u:TypeId) (k:Nat) (cs:List Value) (xs:List (DataW H×List MemPlace)) (m:Nat),Sh.fitsA P fs u=true->
  (∀i,i<fs.length->DataW.trod enc P w 0 (fun _=>true) true m u ((cs.drop ((k+i)*P.cellsOf u)).take (P.cellsOf u))=xs[i]?)->xs.length=fs.length->k*P.cellsOf u+Sh.ns fs<=cs.length->
  (∀n∈DataW.weightsAll P u (xs.map (·.1)),n<=reachBytes)->ml w fs ((cs.drop (k*P.cellsOf u)).take (Sh.ns fs))
 | [],u,k,cs,xs,m,hf,h,hx,hl,hw=>by simp[ml,Sh.ns]
 |f::fs,u,k,cs,xs,m,hf,h,hx,hl,hw=>by
  simp only[Sh.fitsA,Bool.and_eq_true,decide_eq_true_eq] at hf
  obtain⟨⟨hc,hff⟩,hF⟩:=hf
  simp only[Sh.ns] at hl
  match xs,hx with
  |y::ys,hx=>
   have h0:=h 0 (by simp)
   simp only[List.getElem?_cons_zero,Nat.add_zero] at h0
   have hk:(k+1)*P.cellsOf u=k*P.cellsOf u+f.n:=by rw[Nat.add_mul,Nat.one_mul,hc]
   refine⟨(cs.drop (k*P.cellsOf u)).take f.n,(cs.drop ((k+1)*P.cellsOf u)).take (Sh.ns fs),?_,rz f u m _ y hff (by rw[<-hc];exact h0) (fun z hz=>hw z ?_),za fs u (k+1) cs ys m hF (fun i hi=>?_) (by simpa using hx) (by rw[hk];omega) (fun z hz=>hw z ?_)⟩
   rw[Sh.ns,hk,<-List.drop_drop,List.take_add]
   simp only[List.map_cons,DataW.weightsAll,List.mem_append];exact .inl hz
   rw[show k+1+i=k+(i+1) by omega]
   simpa using h (i+1) (by simp;omega)
   simp only[List.map_cons,DataW.weightsAll,List.mem_append];exact .inr hz
end
end
theorem yd{H:Type}{enc:TypeId×Value->H}{P:Program}{w:World}{ts:List TypeId}{ds:List (DataW H)}(hsz:(DataW.weightsEach P ts ds).all (·<=reachBytes)=true)(j:Nat){t:TypeId}{v:Value}{d:DataW H}{p:List MemPlace}(s:Sh)
  (hf:s.fits P t=true) (ht:ts[j]? =some t) (hd:ds[j]? =some d) (h:DataW.Trod enc P w 0 (fun _=>true) true t v d p):mY w s v.cells.toList:=by
 obtain⟨fuel,h⟩:=h
 exact rz s t fuel _ (d,p) hf h fun n hn=>of_decide_eq_true (List.all_eq_true.1 hsz n (DataW.weights_mem_each ht hd n hn))
theorem xJ{T:Type}(f:T->List Value)(p:T->Prop)(m:Nat):∀(n:Nat) (xs:List Value),xs.length=n*m->(∀i,i<n->∃t,(xs.drop (i*m)).take m=f t/\p t)->
  ∃ts:List T,ts.length=n/\xs=ts.flatMap f/\∀t∈ts,p t
 |0,xs,hl,h=>⟨[],rfl,by simpa using hl,by simp⟩
 |n+1,xs,hl,h=>by
  obtain⟨t,ht,hp⟩:=h 0 (by omega)
  rw[Nat.zero_mul,List.drop_zero] at ht
  have hle:(n+1)*m=m+n*m:=by rw[Nat.add_mul,Nat.one_mul,Nat.add_comm]
  obtain⟨ts,h1,h2,h3⟩:=xJ f p m n (xs.drop m) (by rw[List.length_drop];omega) (fun i hi=>by
   obtain⟨t',ht',hp'⟩:=h (i+1) (by omega)
   refine⟨t',?_,hp'⟩
   rw[List.drop_drop,show m+i*m=(i+1)*m by rw[Nat.add_mul,Nat.one_mul,Nat.add_comm]]
   exact ht')
  refine⟨t::ts,by simp[h1],?_,by simpa using ⟨hp,h3⟩⟩
  rw[List.flatMap_cons,<-h2,<-ht,List.take_append_drop]
theorem se{T:Type}(f:T->Value):∀ts:List T,(ts.flatMap fun t=>[f t])=ts.map f
 | []=>rfl
 |t::ts=>by simp[se f ts]
theorem Ee{w:World}{k:IntKind}{bs:Nat}{cs:List Value}(h:mY w (.sl (.int k) bs) cs):
  ∃(A:Option Addr) (c:Nat) (zs:List Int),cs=[.slice A zs.length c]/\At w A (zs.map (Value.int k))/\zs.length<=c/\c*bs<=140737488351232/\∀z∈zs,(Lit.int k z).wf=true:=by
 simp only[mY,Sh.n,Nat.mul_one] at h
 obtain⟨A,n,c,xs,rfl,hA,hl,hc,hb,he⟩:=h
 obtain⟨zs,h1,h2,h3⟩:=xJ (fun z=>[Value.int k z]) (fun z=>(Lit.int k z).wf=true) 1 n xs (by omega) (fun i hi=>by rw[Nat.mul_one];exact he i hi)
 rw[se] at h2
 subst h1 h2
 exact⟨A,c,zs,rfl,hA,hc,hb,h3⟩
def K5(w:World)(s:Sh)(v:Value):Prop:=match s with
 | .st fs=>∃cs:List Value,v= .agg ⟨cs⟩/\ml w fs cs
 |s=>mY w s [v]
theorem yg{P:Program}{W w:World}{r:Reach}{b0:Nat}{t:TypeId}{v:Value}(s:Sh)(hf:s.fits P t=true)(hv:Value.okWide P W r b0 t v)(h:mY w s v.cells.toList):K5 w s v:=by
 cases s with
 |int k=>
  simp only[Sh.fits] at hf
  split at hf
  rename_i k' hu
  obtain⟨n,rfl⟩:=okWide_int hu hv
  exact h
  cases hf
 |bool=>
  simp only[Sh.fits] at hf
  split at hf
  rename_i hu
  obtain⟨n,rfl⟩:=okWide_bool hu hv
  exact h
  cases hf
 |str=>
  simp only[Sh.fits] at hf
  split at hf
  rename_i hu
  obtain⟨n,rfl⟩:=okWide_string hu hv
  exact h
  cases hf
 |sl e bs=>
  simp only[Sh.fits] at hf
  split at hf
  rename_i u hu
  obtain⟨a,l,c,rfl⟩:=okWide_slice hu hv
  exact h
  cases hf
 |st fs=>
  simp only[Sh.fits] at hf
  split at hf
  rename_i gs hu
  obtain⟨cs,rfl,_⟩:=okWide_struct hu hv
  exact⟨cs.toList,rfl,h⟩
  rename_i n u hu
  simp only[Value.okWide,hu] at hv
  obtain⟨cs,rfl,_⟩:=hv
  exact⟨cs.toList,rfl,h⟩
  cases hf
end
end Go.Proofs.YtcdjaepgahbhfaaGreat
namespace Go.Proofs.YtcdjaepgahbhfaaGreat.storeLog
section
open Go.ChangeShapes Go.WideShapes Go.ChangeAt Go.RowKit Go.Deep Go.Joins
theorem lifted(os:Os)(started:os.Started)(H:Type)(enc:TypeId×Value->H):
  ReturnsInHanded {} Tryz.checked os 9 .any (Rows.storeLogSpec.pre6 enc Tryz.prog Tryz.f9 Rows.storeLogRow.domain false) (Rows.storeLogSpec.post enc Tryz.prog Tryz.f9 false true false false):=by
 refine returnsInHanded_of_change_sized (C:=Tryz.checked) yv started (by kernel_rfl) Tryz.func9
  (ChangeSpec.witness6 (enc:=enc) (C:=Tryz.checked) false ⟨#[],#[sn,.int .u8 0],[]⟩ 8 (by kernel_rfl) (by kernel_rfl) (by kernel_rfl) (by kernel_rfl)) ?_
 intro W base args ds gs before hval0 hW hcnd hsz0 _
 have hval:∀(j:Nat) t v,Tryz.f9.params[j]? =some t->args[j]? =some v->Value.okWide Tryz.prog W .any base t v:=hval0
 have hsz:(DataW.weightsEach Tryz.prog (Tryz.f9.params.toList++Rows.storeLogSpec.plain.varTypes Tryz.prog) (ds++gs)).all (·<=reachBytes)=true:=hsz0
 clear hsz0 hval0
 have hW':=hW
 obtain⟨p,q,hA0,hV,rfl,hfz,hnd⟩:=hW
 have hA:DataW.TrodAll enc Tryz.prog W 0 (fun _=>true) true Tryz.f9.params.toList args.toList ds p:=hA0
 clear hA0
 rw[Tryz.params9] at hA hval hsz
 obtain⟨v0,vs0,d0,ds0,p0,q0,hargs,rfl,rfl,h0,r0⟩:=trodAll_cons hA
 obtain⟨v1,vs1,d1,ds1,p1,q1,rfl,rfl,rfl,h1,r1⟩:=trodAll_cons r0
 obtain⟨rfl,rfl,rfl⟩:=trodAll_nil r1
 obtain rfl:args=#[v0,v1]:=by cases args;simp_all
 obtain⟨rfl,rfl⟩:=trodVars_none hV
 have s0:=yg (.sl (.st [.int .u8,.int .i64,.int .i64,.str,.sl (.int .i64) 8]) 64) (by kernel_rfl) (hval 0 _ _ rfl rfl) (yd hsz 0 (.sl (.st [.int .u8,.int .i64,.int .i64,.str,.sl (.int .i64) 8]) 64) (by kernel_rfl) rfl rfl h0)
 have s1:=yg (.int .u8) (by kernel_rfl) (hval 1 _ _ rfl rfl) (yd hsz 1 (.int .u8) (by kernel_rfl) rfl rfl h1)
 clear hsz
 obtain⟨AA,n_,ac,xs_,hE,atAA,e_,lAA,bAA,p_⟩:=s0
 cases hE
 obtain⟨acs,e1_,e2_,wAA⟩:=xJ (T:=ActT) acC (fun t=>ActOk t) 5 n_ xs_ e_ (fun i_ hi_=>by
  have g_:=p_ i_ hi_
  obtain⟨a0_,b0_,e0_,s0_,g_⟩:=g_
  obtain⟨a1_,b1_,e1_,s1_,g_⟩:=g_
  obtain⟨a2_,b2_,e2_,s2_,g_⟩:=g_
  obtain⟨a3_,b3_,e3_,s3_,g_⟩:=g_
  obtain⟨a4_,b4_,e4_,s4_,g0_⟩:=g_
  obtain⟨wt,f0_,wwt⟩:=s0_
  obtain⟨pg,f1_,wpg⟩:=s1_
  obtain⟨sl,f2_,wsl⟩:=s2_
  obtain⟨itm,f3_,zitm⟩:=s3_
  obtain⟨QA,qc,qs,f4_,atQA,lQA,bQA,wQA⟩:=Ee s4_
  have g_: _= _:=e0_
  rw[f0_,e1_,f1_,e2_,f2_,e3_,f3_,e4_,f4_,show b4_=[] from g0_] at g_
  exact⟨(⟨wt,pg,sl,itm,QA,qs.length,qc⟩:ActT),g_,⟨LO wwt,xl wpg,xl wsl,(by show itm.size<= _;omega),(by show (qs.length:Int)<= _;omega)⟩⟩)
 subst e1_ e2_
 obtain⟨b,hE,wb⟩:=s1
 cases hE
 refine(yb AA ac acs b W atAA wAA (by omega) (LO wb)).mono fun e W' ⟨he,hx⟩=>?_
 subst he
 exact⟨_,rfl,HX JX (by rw[Tryz.params9];exact(by decide+kernel)) rfl Tryz.underlying4 hW' rfl rfl rfl rfl hx⟩
theorem over:Rows.storeLogRow.holds Tryz.pinned (OpenSpec.ofChange Rows.storeLogSpec):=
 OpenClaim.holds_of_wide 9 Tryz.f9 rfl rfl rfl rfl rfl rfl rfl ⟨rfl,rfl,rfl,rfl,rfl⟩ rfl rfl rfl rfl rfl (by kernel_rfl) Tryz.func9 (by kernel_rfl)
  (of_decide_eq_true (by kernel_rfl)) (by unfold Func.isWrapper;first|(rw[if_pos (by decide+kernel)];kernel_rfl)|(rw[if_neg (by decide+kernel)];exact⟨rfl,rfl⟩))
  (fun os started H enc _=>lifted os started H enc)
theorem proved:Rows.StoreLogSaid:=
 over
end
end Go.Proofs.YtcdjaepgahbhfaaGreat.storeLog
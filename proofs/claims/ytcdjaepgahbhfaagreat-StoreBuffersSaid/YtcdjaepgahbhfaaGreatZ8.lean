import Derived.Test.YtcdjaepgahbhfaaGreatZ7
import Derived.Test.YtcdjaepgahbhfaaGreatRows
import Derived.ProofKit
import Derived.OpenShut
import Derived.Below
import Derived.ChangeSame
import Derived.WideKeyArgs
import Derived.SliceStrings
import Derived.ChangeMaps5
import Derived.Lib.SmallJoins
import Derived.SizedLaws
import Derived.WalkKit
set_option linter.unusedVariables false
set_option linter.unusedSimpArgs false
set_option maxRecDepth 100000
set_option maxHeartbeats 16000000
namespace Go.Proofs.YtcdjaepgahbhfaaGreat
section
open Go.RowKit
theorem DI{sb db:Nat}{L:List RecM}{told:Int->Bool}{p c:Nat}{fp:List Nat}{w:World}{n:Int}(h:0<=n/\n<(p:Int))(hB:(eNi sb db L told p c fp).holds w)(hlt:∀k∈fp,k<w.heap.size)(hc:c<=800000):
  Calls Tryz.prog 79 #[po sb 0,.int .i64 n] w (fun e w'=>e= .returned (.int .i64 0)/\∃fp',St w fp [eNi sb db L told p (c+4) fp'] w'):=by
 have hp:(p:Int)<=400:=by obtain⟨S,hN,_⟩:=hB;have:=hN.ok.pgs;rw[hN.ep] at this;omega
 have h1:=uc n hB hlt hc (by constructor<;>omega)
 rw[if_pos h] at h1;exact h1
theorem Cg{sb db:Nat}{L:List RecM}{told:Int->Bool}{p c:Nat}{fp:List Nat}{w:World}{n:Int}(hn: -100<=n/\n<=100)(h:¬(0<=n/\n<(p:Int)))(hB:(eNi sb db L told p c fp).holds w)(hlt:∀k∈fp,k<w.heap.size)(hc:c<=800000):
  Calls Tryz.prog 79 #[po sb 0,.int .i64 n] w (fun e w'=>e= .returned (.int .i64 22)/\∃fp',St w fp [eNi sb db L told p (c+4) fp'] w'):=by
 have h1:=uc n hB hlt hc (by constructor<;>omega)
 rw[if_neg h] at h1;exact h1
theorem Jm(xb:Nat)(bufs:Int)(L:List RecM)(told:Int->Bool)(c:Nat)(a:ActT)(fp:List Nat)(w:World)(hB:(eWd xb bufs L told c fp).holds w)(hlt:∀k∈fp,k<w.heap.size)(ha:ActOk a)(hc:c<=700000)(hwh:a.what % 10<8):
  Calls Tryz.prog 30 #[po xb 0,.agg #[.int .u8 a.what,.int .i64 a.page,.int .i64 a.slot,.string a.item,.slice a.QA a.qn a.qc]] w ((fun e w2=>e= .returned (.bool true)/\∃fp2,St w fp [eWd xb bufs (fq (L,told) a).1 (fq (L,told) a).2 (c+700) fp2] w2)):=by
 have st1:St w fp [eWd xb bufs L told c fp] w:=St.lend hB (vF _ _ _ _ _ _) hlt
 obtain⟨hw,hpg,hsl,hit,hq⟩:=id ha
 have hc:c<=800000:=by omega
 have T5:=Int.lt_tmod_of_pos a.page (b:=7) (by decide)
 have Tj:=Int.tmod_lt_of_pos a.page (b:=7) (by decide)
 go_enter Tryz.func30,Tryz.ntmps30
 have ak:=st1
 refine wq (sqr ?_)
 refine bY #[.int .u8 a.what,vi a.page,vi a.slot,.string a.item,.slice a.QA a.qn a.qc] ak fun cO W1 aA=>?_
 refine sqp [.k 4 (.bool false)] ?_
 refine aa (wq (wq ?_))
 obtain⟨safe,db,sb,rb,fps,fpr,hw3_⟩:=aA.unwd
 obtain⟨hL,hz⟩:=Nw (hw3_.get 1 rfl).holds
 refine sqr (sqp [.k 17 (vp cO)] ?_)
 refine au 3 hw3_ ?_
 refine sqp [sRe 19 .u8 a.what 10 (a.what % 10) (Int.tmod_eq_emod_of_nonneg (by omega))] ?_
 refine aa (wp_block ?_)
 refine l9 (fun t_ az W=>∃b30:Bool,b30=decide (a.what % 10<=3)/\az=⟨(ovr (jv az) [(30,30,0,[.bool b30]),(0,31,4,[])] t_).toArray,[]⟩/\St w fp [eB xb 34 #[vp db,vp sb,vp rb,vi bufs,vi safe],eNi sb db L told 5 c fps,eRf rb L told 5 fpr,eB cO 60 #[.int .u8 a.what,vi a.page,vi a.slot,.string a.item,.slice a.QA a.qn a.qc]] W) ?_ ?_
 refine wq (sqr (sqp [.k 31 (.bool ((a.what % 10)==0)),.m 30 31] ?_))
 refine aa (wbs (fun kw=>?_) fun kw=>?_)
 have pv:=beq_iff_eq.1 kw
 refine wp_skip (aa ?_)
 exact⟨(a.what % 10)==0,(by rw[Bool.eq_iff_iff];simp only[beq_iff_eq,decide_eq_true_eq];omega),(by kernel_rfl),hw3_.pk [0,1,2,3]⟩
 have pv:=beq_eq_false_iff_ne.1 kw
 refine wq (sqr (sqp [.k 32 (.bool ((a.what % 10)==1)),.m 30 32] ?_))
 refine aa (wbs (fun f6=>?_) fun f6=>?_)
 have i8:=beq_iff_eq.1 f6
 refine wp_skip (aa ?_)
 exact⟨(a.what % 10)==1,(by rw[Bool.eq_iff_iff];simp only[beq_iff_eq,decide_eq_true_eq];omega),(by kernel_rfl),hw3_.pk [0,1,2,3]⟩
 have i8:=beq_eq_false_iff_ne.1 f6
 refine wq (sqr (sqp [.k 33 (.bool ((a.what % 10)==2)),.m 30 33] ?_))
 refine aa (wbs (fun dd=>?_) fun dd=>?_)
 have lZ:=beq_iff_eq.1 dd
 refine wp_skip (aa ?_)
 exact⟨(a.what % 10)==2,(by rw[Bool.eq_iff_iff];simp only[beq_iff_eq,decide_eq_true_eq];omega),(by kernel_rfl),hw3_.pk [0,1,2,3]⟩
 have lZ:=beq_eq_false_iff_ne.1 dd
 refine sqr (sqp [.k 34 (.bool ((a.what % 10)==3)),.m 30 34] ?_)
 refine aa ?_
 exact⟨(a.what % 10)==3,(by rw[Bool.eq_iff_iff];simp only[beq_iff_eq,decide_eq_true_eq];omega),(by kernel_rfl),hw3_.pk [0,1,2,3]⟩
 rintro a7 W7 ⟨b30,hb30,hj_,aY⟩
 refine ovz hj_ fun Ff=>?_
 refine wbs (fun j6=>?_) fun j6=>?_
 refine wq (aD [0,1,3,0,8,31,0,127] [[],[3],[],[3],[],[],[],[5]] [[],[],[],[],[4],[],[5],[6]] [[],[],[],[],[],[],[],[5]] [.k 35 (po cO 1),.c 36 (vi a.page),tAn 37 .i64 a.page 127 (a.page % 128) (wo a.page 7 (by decide)),.c 38 (.agg #[.int .u8 a.what,vi a.page,vi a.slot,.string a.item,.slice a.QA a.qn a.qc]),.a 39,.a 40,.a 5,.n] (fun ix f d X=>match ix with|0|1|2|3=>True|4=>f 39= .slice (sA (d 39)) ((eD a).length) (sC (d 39))/\X 4=eO 84 3 (.slice (sA (d 39)) ((eD a).length) (sC (d 39))) ((eD a).length) ((eD a).flatMap edC)|5=>f 40= .agg #[vi 1,vi (a.page % 128),vi 0,sn,sn,.slice (sA (d 39)) ((eD a).length) (sC (d 39)),sn,.string ByteArray.empty]|6=>f 5=vp (pb (d 5))/\X 5=eB (pb (d 5)) 27 #[vi 0,vi 0,vi 0,sn,sn,sn,sn,.string ByteArray.empty]|7=>X 6=eB (pb (d 5)) 27 #[vi 1,vi (a.page % 128),vi 0,sn,sn,.slice (sA (d 39)) ((eD a).length) (sC (d 39)),sn,.string ByteArray.empty]|_=>True) [0,1,2,3,4,6] [1,3,4,5,6,7] [(5,6,1,6),(29,0,6,35)] aY ?_ ?_ ?_)
 exact fun ix _ _ _ _ _ _ hs hb hx h=>match ix,h with
 |4,h=>by dsimp only;rw[<-hs 39 rfl,<-hb 39 rfl,<-hx 4 rfl];exact h
 |5,h=>by dsimp only;rw[<-hs 40 rfl,<-hb 39 rfl];exact h
 |6,h=>by dsimp only;rw[<-hs 5 rfl,<-hb 5 rfl,<-hx 5 rfl];exact h
 |7,h=>by dsimp only;rw[<-hb 5 rfl,<-hb 39 rfl,<-hx 6 rfl];exact h
 |0,_|1,_|2,_|3,_|_+8,_=>trivial
 refine⟨?_,?_,?_,?_,?_,?_,trivial⟩
 exact xs4 rfl id fun cx=>ae rfl (by kernel_rfl) (cx.an 0) ((cx.bi 3 rfl).cell 1)
 exact xs4 rfl id fun cx=>ce (n:=5) rfl (by kernel_rfl) (by kernel_rfl) (cx.ou 3) (cx.bi 3 rfl) (nle rfl) rfl
 refine svA fun g d W X cx=>?_
 refine am.call (al (args:=#[.agg #[.int .u8 a.what,vi a.page,vi a.slot,.string a.item,.slice a.QA a.qn a.qc]]) rfl cx.sees rfl (by kernel_rfl) (aw (cx.an 3))) ?_
 refine(Co a _ ha).mono ?_
 rintro e W1 ⟨A4,c4,rfl,ho,hx⟩
 refine⟨_,rfl,bO [eO 84 3 (.slice A4 (eD a).length c4) (eD a).length ((eD a).flatMap edC)] rfl rfl hx (one_new (cj ho)) (List.pairwise_singleton _ _) (fun f i X' hs hb hv hN=>?_)⟩
 have aJ:=(hv 39 rfl).1;have aQ:=(hv 39 rfl).2
 exact⟨aJ.trans (by rw[aQ];exact rfl),(by rw[aQ];exact(List.cons.inj hN).1)⟩
 exact sv rfl rfl rfl rfl rfl _ (fun _ _ _ h=>h) (fun d i h=>by rw[h 39 (by decide)]) fun g d W X cx=>jU rfl (pmc (cx.co _) (pmc (cx.an 2) (pmc (dTn (cx.an 4)).1 pmn))) (by kernel_rfl)
 refine svA fun g d W X cx=>?_
 exact cZ (cs:=#[vi 0,vi 0,vi 0,sn,sn,sn,sn,.string ByteArray.empty]) rfl (by kernel_rfl) rfl rfl (fun _ _ _ _ _=> .intro)
 refine svA fun g d W X cx=>?_
 exact bu (n:=8) rfl (dTn (cx.an 6)).1 (dTn (cx.an 5)) (by kernel_rfl) (by kernel_rfl) (by kernel_rfl) cx (dTn (cx.an 6)).2 rfl (nle rfl) (by kernel_rfl) rfl rfl rfl (fun f i X' hs hb hx=>by rw[hb 5,hb 39];exact hx)
 intro f d X Mh hD kb fr aC
 simp only[exq 4 ((dTn (hD 4 lq)).2),exq 6 ((dTn (hD 7 lq)))] at kb
 simp only[ed 39 ((dTn (hD 4 lq)).1),ed 40 ((dTn (hD 5 lq))),ed 5 ((dTn (hD 6 lq)).1)] at aC
 generalize sA (d 39)=mV,sC (d 39)=mX,pb (d 5)=RN at kb aC
 clear hD;subst aC;clear f d X
 refine aa (wq ?_)
 have hw3:a.what % 10<=3:=by have h_:=j6;rw[hb30] at h_;exact of_decide_eq_true h_
 obtain⟨rs,rr,hrs,hsub,ho21_⟩:=kb.u2.unrf
 obtain⟨QA,qc,TA,tc,hq22_⟩:=ho21_.unrq
 refine sqr (sqp [.m 41 0,.k 42 (vp xb),.k 43 (po xb 2)] ?_)
 refine au 4 hq22_ ?_
 refine sqp [.k 45 (vp rb),.k 46 (po rb 1)] ?_
 refine au 0 hq22_ ?_
 refine sqp [.k 48 (vi ((rs.length:Int))),.m 6 48] ?_
 refine aa (wq ?_)
 obtain⟨fp32_,hr32_⟩:=St.rq (rs:=rs) (told:=told) (p:=5) (rr:=rr) (hq22_)
 have OB:=St.rf (L:=L) hr32_ (hrs) (hsub)
 refine aD [0,1,3,7,0,31,63,127,127,255,1023] [[],[],[],[1],[5],[2,4]] [[],[],[],[],[],[6]] [[],[],[],[],[],[2]] [.k 50 (vp xb),.k 51 (vp xb),.k 52 (po xb 1),.c 53 (vp sb),.c 54 (.agg #[vi 1,vi (a.page % 128),vi 0,sn,sn,.slice mV ((eD a).length) mX,sn,.string ByteArray.empty]),.a 55,.c 49 (.tuple #[vi ((rfD 5 L told (c8 a)).2.1),vi ((rfE 5 L (c8 a)))]),.k 56 (vi ((rfD 5 L told (c8 a)).2.1)),.k 57 (vi ((rfE 5 L (c8 a)))),.k 7 (vi ((rfD 5 L told (c8 a)).2.1)),.k 8 (vi ((rfE 5 L (c8 a))))] (fun ix f d X=>match ix with|0|1|2|3|4=>True|5=>f 55= .tuple #[vi ((rfD 5 L told (c8 a)).2.1),vi ((rfE 5 L (c8 a)))]/\X 6=eNi sb db ((rfD 5 L told (c8 a)).1) ((rfD 5 L told (c8 a)).2.2.2) 5 (c+700) ((X 6).fp)|_=>True) [0,1,3,4,5,6] [3,4,5,6] [(7,9,2,9),(40,6,1,41),(0,0,6,6),(0,7,2,2)] OB ?_ ?_ ?_
 exact fun ix _ _ _ _ _ _ hs hb hx h=>match ix,h with
 |5,h=>by dsimp only;rw[<-hs 55 rfl,<-hx 6 rfl];exact h
 |0,_|1,_|2,_|3,_|4,_|_+6,_=>trivial
 refine⟨?_,?_,?_,?_,trivial⟩
 exact xs4 rfl id fun cx=>ae rfl (by kernel_rfl) (cx.an 2) ((cx.bi 1 rfl).cell 1)
 exact xs4 rfl id fun cx=>ce (n:=8) rfl (by kernel_rfl) (by kernel_rfl) (cx.ou 5) (cx.bi 5 rfl) (nle rfl) rfl
 refine svA fun g d W X cx=>?_
 refine am.call (al (args:=#[vp sb,.agg #[vi 1,vi (a.page % 128),vi 0,sn,sn,.slice mV ((eD a).length) mX,sn,.string ByteArray.empty]]) rfl cx.sees rfl (by kernel_rfl) (aN (cx.an 3) (cx.an 4))) ?_
 refine(AM (L:=L) (c8 a) _ _ (CtxV.holdF cx (cx.init 2 _ rfl) rfl) (CtxV.ltF cx (cx.init 2 _ rfl) rfl) hc (cx.keepAt (cx.init 4 _ rfl) (cx.init 2 _ rfl) rfl rfl (by decide)) (by show (eD a).length<= _;have:=y4 a;omega) (wM a) (by show (0:Nat)<= _;omega)).mono ?_
 rintro e W1 ⟨rfl,fp4,aM⟩
 refine⟨_,rfl,aK (E:=eNi sb db L told 5 c fps) [eNi sb db ((rfD 5 L told (c8 a)).1) ((rfD 5 L told (c8 a)).2.2.2) 5 (c+700) fp4] (cx.init 2 _ rfl) rfl rfl aM (fun f i X' hs hb hv hN=>?_)⟩
 have aJ:=(hv 55 rfl).1;have aQ:=(hv 55 rfl).2
 exact⟨aJ.trans rfl,dI ((List.cons.inj hN).1)⟩
 exact xs4 rfl id fun cx=>cK rfl (dTn (cx.an 5)).1
 intro f d X w8 hD ei fr aC
 have q6:X 6= _:=(dTn (hD 5 lq)).2
 obtain⟨RO,z6⟩:∃z,(X 6).fp=z:=⟨_,rfl⟩
 rw[z6] at q6
 clear z6
 simp only[q6] at ei
 simp only[ed 55 ((dTn (hD 5 lq)).1)] at aC
 clear hD q6;subst aC;clear f d X
 refine aa (wq ?_)
 obtain⟨fg35_,hg35_⟩:=St.rh (t:=(⟨c8 a,mV,mX⟩:RcT)) ei.u3
 refine aD [0,1,3,7,0,31,0,127] [[],[],[],[1],[3],[0],[],[6]] [[],[],[],[],[],[5],[6],[7]] [[],[],[],[],[],[0],[],[6]] [.k 58 (vp xb),.k 59 (vp xb),.k 60 (po xb 2),.c 61 (vp rb),.c 62 (.agg #[vi 1,vi (a.page % 128),vi 0,sn,sn,.slice mV ((eD a).length) mX,sn,.string ByteArray.empty]),.a 63,.a 9,.n] (fun ix f d X=>match ix with|0|1|2|3|4=>True|5=>f 63= .agg #[vi ((rfD 5 L told (c8 a)).2.1),vi ((rfE 5 L (c8 a)))]/\X 5=eRf rb ((rfD 5 L told (c8 a)).1) ((rfD 5 L told (c8 a)).2.2.2) 5 ((X 5).fp)|6=>f 9=vp (pb (d 9))/\X 6=eB (pb (d 9)) 129 #[vi 0,vi 0]|7=>X 7=eB (pb (d 9)) 129 #[vi ((rfD 5 L told (c8 a)).2.1),vi ((rfE 5 L (c8 a)))]|_=>True) [1,2,3,4,5,7] [3,4,5,6,7] [(9,6,1,10),(48,0,6,54)] hg35_ ?_ ?_ ?_
 exact fun ix _ _ _ _ _ _ hs hb hx h=>match ix,h with
 |5,h=>by dsimp only;rw[<-hs 63 rfl,<-hx 5 rfl];exact h
 |6,h=>by dsimp only;rw[<-hs 9 rfl,<-hb 9 rfl,<-hx 6 rfl];exact h
 |7,h=>by dsimp only;rw[<-hb 9 rfl,<-hx 7 rfl];exact h
 |0,_|1,_|2,_|3,_|4,_|_+8,_=>trivial
 refine⟨?_,?_,?_,?_,?_,trivial⟩
 exact xs4 rfl id fun cx=>ae rfl (by kernel_rfl) (cx.an 2) ((cx.bi 1 rfl).cell 2)
 exact xs4 rfl id fun cx=>ce (n:=8) rfl (by kernel_rfl) (by kernel_rfl) (cx.ou 5) (cx.bi 3 rfl) (nle rfl) rfl
 refine svA fun g d W X cx=>?_
 refine am.call (al (args:=#[vp rb,.agg #[vi 1,vi (a.page % 128),vi 0,sn,sn,.slice mV ((eD a).length) mX,sn,.string ByteArray.empty]]) rfl cx.sees rfl (by kernel_rfl) (aN (cx.an 3) (cx.an 4))) ?_
 refine(Dk rb L told 5 (⟨c8 a,mV,mX⟩:RcT) _ _ (CtxV.holdF cx (cx.init 0 _ rfl) rfl) (CtxV.ltF cx (cx.init 0 _ rfl) rfl) hL hz (by decide) (by show (eD a).length<= _;have:=y4 a;omega) (wM a) (by show (0:Nat)<= _;omega)).mono ?_
 rintro e W1 ⟨rfl,fp4,aM⟩
 refine⟨_,rfl,aK (E:=eRh rb L told 5 (⟨c8 a,mV,mX⟩:RcT) fg35_) [eRf rb ((rfD 5 L told (c8 a)).1) ((rfD 5 L told (c8 a)).2.2.2) 5 fp4] (cx.init 0 _ rfl) rfl rfl aM (fun f i X' hs hb hv hN=>?_)⟩
 have aJ:=(hv 63 rfl).1;have aQ:=(hv 63 rfl).2
 exact⟨aJ.trans rfl,sN ((List.cons.inj hN).1)⟩
 refine svA fun g d W X cx=>?_
 exact cZ (cs:=#[vi 0,vi 0]) rfl (by kernel_rfl) rfl rfl (fun _ _ _ _ _=> .intro)
 refine svA fun g d W X cx=>?_
 exact bu (n:=2) rfl (dTn (cx.an 6)).1 (dTn (cx.an 5)).1 (by kernel_rfl) (by kernel_rfl) (by kernel_rfl) cx (dTn (cx.an 6)).2 rfl (nle rfl) (by kernel_rfl) rfl rfl rfl (fun f i X' hs hb hx=>by rw[hb 9];exact hx)
 intro f d X zd hD eH fr aC
 obtain⟨I5,tx⟩:∃z,pb (d 9)=z:=⟨_,rfl⟩
 have zx:X 5= _:=(dTn (hD 5 lq)).2
 obtain⟨RP,z7⟩:∃z,(X 5).fp=z:=⟨_,rfl⟩
 rw[z7] at zx
 clear z7
 simp only[zx,exq 7 ((dTn (hD 7 lq))),tx] at eH
 simp only[ed 63 ((dTn (hD 5 lq)).1),ed 9 ((dTn (hD 6 lq)).1),tx] at aC
 clear hD zx tx;subst aC;clear f d X
 refine aa (wq (wq (sqr (sqp [.m 64 0,.k 65 (vp xb),.k 66 (vp xb)] ?_))))
 refine au 0 eH ?_
 refine sqk (.bool true) eH (fun cx=>⟨_,ma (CtxV.holdF cx (cx.init 3 _ rfl) rfl),(aw (cx.ou 67))⟩) fun E9 ir=>?_
 refine sqp [.k 69 (.bool false)] ?_
 refine aa (wcf rfl (wp_skip (aa (wq (sqr (sqp [.m 96 8,.k 97 (po I5 1)] ?_))))))
 refine au 5 ir ?_
 have hd47:((rfE 5 L (c8 a)) != (rfE 5 L (c8 a)))=false:=(by simp)
 refine sqp [.e 99 (.bool ((rfE 5 L (c8 a)) != (rfE 5 L (c8 a)))) (.bool false) (congrArg Value.bool hd47),.k 100 (.bool false)] ?_
 refine c9 100 [101,102,103,104] rfl rfl ?_
 refine sqp [.m 101 7,.k 102 (vp I5)] ?_
 refine au 5 ir ?_
 have hd53:(((rfD 5 L told (c8 a)).2.1) != ((rfD 5 L told (c8 a)).2.1))=false:=(by simp)
 refine sqp [.e 104 (.bool (((rfD 5 L told (c8 a)).2.1) != ((rfD 5 L told (c8 a)).2.1))) (.bool false) (congrArg Value.bool hd53)] ?_
 refine sqp [.k 105 (.bool false)] ?_
 refine aa (wcf rfl (wp_skip (av (aa (wq (sqr (sqp [.k 4 (.bool true)] ?_)))))))
 refine aa (wp_ret ?_)
 refine bpr (.bool true) (ag Tryz.results30 rpt) ?_
 obtain⟨fw56_,hw56_⟩:=St.wd ir.u1.c0.u1.c0.u3.c0
 have hE_:fq (L,told) a=((rfD 5 L told (c8 a)).1,(rfD 5 L told (c8 a)).2.2.2):=if_pos hw3
 obtain⟨fz_,hz_⟩:=hw56_.wdm (c2:=c+700) (by omega)
 exact⟨rfl,_,by rw[hE_];exact hz_⟩
 refine wq ?_
 have hw3n:¬a.what % 10<=3:=by have h_:=j6;rw[hb30] at h_;exact of_decide_eq_false h_
 refine sqr (sqp [.k 107 (.bool ((a.what % 10)==4)),.m 106 107] ?_)
 refine aa (wbs (fun pu=>?_) fun pu=>?_)
 have CJ:=beq_iff_eq.1 pu
 refine wq (sqr (sqp [.m 108 0,.k 109 (vp xb),.k 110 (po xb 1)] ?_))
 refine au 0 aY ?_
 refine bG (fun X_=>X_.fp) (vi ((frF 5 L told))) (fun I6=>eNi sb db L (frT 5 L told) 5 (c+3*5+1) I6) 1 aY (by
   refine svA fun g d W X cx=>?_
   refine am.call (al (args:=#[vp sb]) rfl cx.sees rfl (by kernel_rfl) (aw (cx.ou 111))) ?_
   refine(jM (CtxV.holdF cx (cx.init 1 _ rfl) rfl) (CtxV.ltF cx (cx.init 1 _ rfl) rfl) hc).mono ?_
   rintro e W1 ⟨rfl,fp4,aM⟩
   refine⟨_,rfl,aK (E:=eNi sb db L told 5 c fps) [eNi sb db L (frT 5 L told) 5 (c+3*5+1) fp4] (cx.init 1 _ rfl) rfl rfl aM (fun f i X' hs hb hv hN=>?_)⟩
   have aJ:=(hv 112 rfl).1;have aQ:=(hv 112 rfl).2
   exact⟨aJ.trans rfl,dI ((List.cons.inj hN).1)⟩) fun I6 Ms iv=>?_
 refine sqp [.m 10 112] ?_
 refine aa (wq (wq (sqr (sqp [.m 113 0,.k 114 (vp xb),.k 115 (vp xb)] ?_))))
 refine au 0 iv ?_
 refine sqk (.bool true) iv (fun cx=>⟨_,ma (CtxV.holdF cx (cx.init 1 _ rfl) rfl),(aw (cx.ou 116))⟩) fun T6 I7=>?_
 refine sqp [.k 118 (.bool false)] ?_
 refine aa (wcf rfl (wp_skip (aa (wq (sqr (sqp [.m 123 10,.m 124 0,.k 125 (vp xb),.k 126 (po xb 2)] ?_))))))
 refine au 0 I7 ?_
 refine bG (fun X_=>X_.fp) (vi ((frF 5 L told))) (fun I8=>eRf rb L (frT 5 L told) 5 I8) 2 I7 (by
   refine svA fun g d W X cx=>?_
   refine am.call (al (args:=#[vp rb]) rfl cx.sees rfl (by kernel_rfl) (aw (cx.ou 127))) ?_
   refine(yT rb L told 5 _ _ (CtxV.holdF cx (cx.init 2 _ rfl) rfl) (CtxV.ltF cx (cx.init 2 _ rfl) rfl) hL hz (by decide)).mono ?_
   rintro e W1 ⟨rfl,fp4,aM⟩
   refine⟨_,rfl,aK (E:=eRf rb L told 5 fpr) [eRf rb L (frT 5 L told) 5 fp4] (cx.init 2 _ rfl) rfl rfl aM (fun f i X' hs hb hv hN=>?_)⟩
   have aJ:=(hv 128 rfl).1;have aQ:=(hv 128 rfl).2
   exact⟨aJ.trans rfl,sN ((List.cons.inj hN).1)⟩) fun I8 T7 OC=>?_
 have hd79:((frF 5 L told) != (frF 5 L told))=false:=(by simp)
 refine sqp [.e 129 (.bool ((frF 5 L told) != (frF 5 L told))) (.bool false) (congrArg Value.bool hd79)] ?_
 refine aa (wcf rfl (wp_skip (av (aa (wq (sqr (sqp [.k 4 (.bool true)] ?_)))))))
 refine aa (wp_ret ?_)
 refine bpr (.bool true) (ag Tryz.results30 rpt) ?_
 obtain⟨fw81_,hw81_⟩:=St.wd OC.u3.c0
 have hE_:fq (L,told) a=(L,frT 5 L told):=by rw[fq,if_neg (by omega),if_pos (by omega)]
 obtain⟨fz_,hz_⟩:=hw81_.wdm (c2:=c+700) (by omega)
 exact⟨rfl,_,by rw[hE_];exact hz_⟩
 have CJ:=beq_eq_false_iff_ne.1 pu
 refine wq (sqr (sqp [.k 131 (.bool ((a.what % 10)==5)),.m 130 131] ?_))
 refine aa (wbs (fun zt=>?_) fun zt=>?_)
 have CL:=beq_iff_eq.1 zt
 refine wq (sqr (sqp [.m 132 0,.k 133 (vp xb),.k 134 (po xb 1)] ?_))
 refine au 0 aY ?_
 refine bG (fun X_=>X_.fp) (vi 0) (fun I9=>eNi sb db L told 5 c I9) 1 aY (by
   refine svA fun g d W X cx=>?_
   refine am.call (al (args:=#[vp sb]) rfl cx.sees rfl (by kernel_rfl) (aw (cx.ou 135))) ?_
   refine(Ce (CtxV.holdF cx (cx.init 1 _ rfl) rfl) (CtxV.ltF cx (cx.init 1 _ rfl) rfl)).mono ?_
   rintro e W1 ⟨rfl,fp4,aM⟩
   refine⟨_,rfl,aK (E:=eNi sb db L told 5 c fps) [eNi sb db L told 5 c fp4] (cx.init 1 _ rfl) rfl rfl aM (fun f i X' hs hb hv hN=>?_)⟩
   have aJ:=(hv 136 rfl).1;have aQ:=(hv 136 rfl).2
   exact⟨aJ.trans rfl,dI ((List.cons.inj hN).1)⟩) fun I9 Mi lY=>?_
 refine sqp [.m 11 136] ?_
 refine aa (wq (wq (sqr (sqp [.m 137 0,.k 138 (vp xb),.k 139 (vp xb)] ?_))))
 refine au 0 lY ?_
 refine sqk (.bool true) lY (fun cx=>⟨_,ma (CtxV.holdF cx (cx.init 1 _ rfl) rfl),(aw (cx.ou 140))⟩) fun T8 OD=>?_
 refine sqp [.k 142 (.bool false)] ?_
 refine aa (wcf rfl (wp_skip (aa (wq ?_))))
 obtain⟨rs,rr,hrs,hsub,ho97_⟩:=OD.u2.unrf
 obtain⟨QA,qc,TA,tc,hq98_⟩:=ho97_.unrq
 refine sqr (sqp [.m 151 0,.m 152 0,.k 153 (vp xb),.k 154 (po xb 2)] ?_)
 refine au 4 hq98_ ?_
 refine sqp [.k 156 (vp rb),.k 157 (po rb 1)] ?_
 refine au 0 hq98_ ?_
 refine sqp [.k 159 (vi ((rs.length:Int))),.k 160 (vp xb),.k 161 (po xb 4)] ?_
 refine aX (n:=1) 4 #[vp db,vp sb,vp rb,vi bufs,vi ((rs.length:Int))] hq98_ fun Tk Ng=>?_
 refine aa (wq (sqr (sqp [.m 162 11,.k 163 (.bool false)] ?_)))
 refine aa (wcf rfl (wp_skip (av (aa (wq (sqr (sqp [.k 4 (.bool true)] ?_)))))))
 refine aa (wp_ret ?_)
 refine bpr (.bool true) (ag Tryz.results30 rpt) ?_
 obtain⟨fp114_,hr114_⟩:=St.rq (rs:=rs) (told:=told) (p:=5) (rr:=rr) (Ng)
 have Nh:=St.rf (L:=L) hr114_ (hrs) (hsub)
 obtain⟨fw116_,hw116_⟩:=St.wd Nh.u3.c0.u2.u2
 have hE_:fq (L,told) a=(L,told):=by rw[fq,if_neg (by omega),if_neg (by omega),if_pos (by omega)]
 obtain⟨fz_,hz_⟩:=hw116_.wdm (c2:=c+700) (by omega)
 exact⟨rfl,_,by rw[hE_];exact hz_⟩
 have CL:=beq_eq_false_iff_ne.1 zt
 refine wq (sqr (sqp [.k 165 (.bool ((a.what % 10)==6)),.m 164 165] ?_))
 refine aa (wbs (fun vc=>?_) fun vc=>?_)
 have zJ:=beq_iff_eq.1 vc
 refine wq (sqr (sqp [.k 166 (po cO 1)] ?_))
 refine au 3 aY ?_
 refine sqp [sRe 168 .i64 a.page 7 (a.page.tmod 7) (rfl),sI 169 ((a.page.tmod 7)+5) (by omega),sJ 170 ((a.page.tmod 7+5)+2) (a.page.tmod 7+7) (by omega) (by omega),sRe 171 .i64 (a.page.tmod 7+7) 7 ((a.page.tmod 7+7) % 7) (Int.tmod_eq_emod_of_nonneg (by omega)),sI 172 (((a.page.tmod 7+7) % 7)-1) (by omega),.m 12 172] ?_
 refine aa (wq ?_)
 obtain⟨nW,hnW⟩:∃z,(a.page.tmod 7+7) % 7-1=z:=⟨_,rfl⟩
 rw[hnW]
 have hnb: -100<=nW/\nW<=100:=by omega
 by_cases hnr:0<=nW/\nW<((5:Nat):Int)
 refine sqr (sqp [.m 173 0,.k 174 (vp xb),.k 175 (po xb 1)] ?_)
 refine au 0 aY ?_
 refine sqp [.m 177 12] ?_
 refine bG (fun X_=>X_.fp) (vi 0) (fun FF=>eNi sb db L told 5 (c+4) FF) 1 aY (by
   refine svA fun g d W X cx=>?_
   refine am.call (al (args:=#[vp sb,vi nW]) rfl cx.sees rfl (by kernel_rfl) (aN (cx.ou 176) (cx.ou 177))) ?_
   refine(DI hnr (CtxV.holdF cx (cx.init 1 _ rfl) rfl) (CtxV.ltF cx (cx.init 1 _ rfl) rfl) hc).mono ?_
   rintro e W1 ⟨rfl,fp4,aM⟩
   refine⟨_,rfl,aK (E:=eNi sb db L told 5 c fps) [eNi sb db L told 5 (c+4) fp4] (cx.init 1 _ rfl) rfl rfl aM (fun f i X' hs hb hv hN=>?_)⟩
   have aJ:=(hv 178 rfl).1;have aQ:=(hv 178 rfl).2
   exact⟨aJ.trans rfl,dI ((List.cons.inj hN).1)⟩) fun FF Tl FG=>?_
 refine sqp [.m 13 178] ?_
 refine aa (wq (wq (sqr (sqp [.m 179 0,.k 180 (vp xb),.k 181 (vp xb)] ?_))))
 refine au 0 FG ?_
 refine sqk (.bool true) FG (fun cx=>⟨_,ma (CtxV.holdF cx (cx.init 1 _ rfl) rfl),(aw (cx.ou 182))⟩) fun Tm Ni=>?_
 refine sqp [.k 184 (.bool false)] ?_
 refine aa (wcf rfl (wp_skip (aa (wq (wq (sqr (sqp [.m 189 12,.k 190 (.bool (decide (nW<0))),.m 191 190] ?_)))))))
 refine sqw 191 [192,193] rfl (fun _=>sqp [.m 192 12,.k 193 (.bool (decide (5<=nW)))] sqe) ?_
 have hd147:((decide (nW<0))||(decide (5<=nW)))=false:=(by simp;omega)
 refine sqp [B5 194 (decide (nW<0)) (decide (5<=nW)) false hd147] ?_
 refine aa (wcf rfl (wp_skip (aa (wq ?_))))
 obtain⟨rs,rr,hrs,hsub,ho148_⟩:=Ni.u2.unrf
 obtain⟨QA,qc,TA,tc,hq149_⟩:=ho148_.unrq
 have hrl:rs.length<=1000000:=by have h_:=congrArg List.length hrs;rw[List.length_map] at h_;have:=tN hL hz;omega
 have hrL:∀t∈rs,bz t.r=true:=fun t ht=>hL _ (hrs ▸ List.mem_map.2 ⟨t,ht,rfl⟩)
 refine aD [0,0,2,6,14,0,32,96,224,480,992,2016,0,8160,16352,32766,65535,131071,262143] [[],[],[],[],[4],[],[],[],[4],[],[],[0],[],[1,3],[],[],[],[],[4]] [[],[],[],[],[],[],[],[],[],[],[],[],[],[7],[],[],[],[],[8]] [[],[],[],[],[],[],[],[],[],[],[],[],[],[],[],[],[],[],[4]] [.k 197 (vp xb),.k 198 (vp xb),.k 199 (vp xb),.k 200 (po xb 4),.c 201 (vi safe),.k 202 (vp xb),.k 203 (vp xb),.k 204 (po xb 2),.c 205 (vp rb),.k 206 (vp rb),.k 207 (po rb 1),.c 208 (.slice QA rs.length qc),.k 209 (vi nW),.a 210,.c 211 (vi ((ai (rs.map RcT.r) nW).2.1)),.c 212 (vi (max safe ((ai (rs.map RcT.r) nW).2.1))),.k 213 (vp xb),.k 214 (po xb 4),.n] (fun ix f d X=>match ix with|0|1|2|3|4|5|6|7|8|9|10|11|12=>True|13=>f 210= .agg #[vi ((ai (rs.map RcT.r) nW).1),vi ((ai (rs.map RcT.r) nW).2.1),.slice (sA (tg (d 210) 2)) ((ai (rs.map RcT.r) nW).2.2.length) (sC (tg (d 210) 2))]/\X 7=eO 9 1 (.slice (sA (tg (d 210) 2)) ((ai (rs.map RcT.r) nW).2.2.length) (sC (tg (d 210) 2))) ((ai (rs.map RcT.r) nW).2.2.length) ((ai (rs.map RcT.r) nW).2.2.map Value.string)|14|15|16|17=>True|18=>X 8=eB xb 34 #[vp db,vp sb,vp rb,vi bufs,vi (max safe ((ai (rs.map RcT.r) nW).2.1))]|_=>True) [0,1,2,3,5,6,7,8] [4,8,11,13,14,15,18] [(197,0,18,215)] hq149_ ?_ ?_ ?_
 exact fun ix _ _ _ _ _ _ hs hb hx h=>match ix,h with
 |13,h=>by dsimp only;rw[<-hs 210 rfl,<-hb 210 rfl,<-hx 7 rfl];exact h
 |18,h=>by dsimp only;rw[<-hx 8 rfl];exact h
 |0,_|1,_|2,_|3,_|4,_|5,_|6,_|7,_|8,_|9,_|10,_|11,_|12,_|14,_|15,_|16,_|17,_|_+19,_=>trivial
 refine⟨?_,?_,?_,?_,?_,?_,?_,trivial⟩
 exact xs4 rfl id fun cx=>ae rfl (by kernel_rfl) (cx.an 3) ((cx.bi 4 rfl).cell 4)
 exact xs4 rfl id fun cx=>ae rfl (by kernel_rfl) (cx.an 7) ((cx.bi 4 rfl).cell 2)
 exact xs4 rfl id fun cx=>ae rfl (by kernel_rfl) (cx.an 10) ((cx.bi 0 rfl).cell 1)
 refine svA fun g d W X cx=>?_
 refine am.call (al (args:=#[.slice QA rs.length qc,vi nW]) rfl cx.sees rfl (by kernel_rfl) (aN (cx.an 11) (cx.an 12))) ?_
 refine(kF _ _ rs nW _ ⟨At.of_ownN (cx.ri 1 rfl),fun t ht=>dW (CtxV.holdF cx (cx.init 3 _ rfl) rfl) (hsub t ht)⟩ hrl hrL).mono ?_
 rintro e W1 ⟨A4,c4,rfl,ho,hx⟩
 refine⟨_,rfl,bO [eO 9 1 (.slice A4 (ai (rs.map RcT.r) nW).2.2.length c4) (ai (rs.map RcT.r) nW).2.2.length ((ai (rs.map RcT.r) nW).2.2.map Value.string)] rfl rfl hx (one_new (cj ho)) (List.pairwise_singleton _ _) (fun f i X' hs hb hv hN=>?_)⟩
 have aJ:=(hv 210 rfl).1;have aQ:=(hv 210 rfl).2
 exact⟨aJ.trans (by rw[aQ];exact rfl),(by rw[aQ];exact(List.cons.inj hN).1)⟩
 exact xs4 rfl id fun cx=>lH rfl (dTn (cx.an 13)).1 (fun _=>by kernel_rfl)
 exact xs4 rfl id fun cx=>sU rfl (cx.an 4) (cx.an 14) rfl
 refine svA fun g d W X cx=>?_
 exact bu (n:=1) rfl (cx.an 17) (cx.an 15) (by kernel_rfl) (by kernel_rfl) (by kernel_rfl) cx (cx.init 4 _ rfl) rfl (nle rfl) (by kernel_rfl) rfl rfl rfl (fun _ _ _ _ _=>id)
 intro f d X Tn hD z8 fr aC
 simp only[exq 7 ((dTn (hD 13 lq)).2),exq 8 ((dTn (hD 18 lq)))] at z8
 simp only[ed 210 ((dTn (hD 13 lq)).1)] at aC
 generalize sA (tg (d 210) 2)=PX,sC (tg (d 210) 2)=PY at z8 aC
 clear hD;subst aC;clear f d X
 refine aa (wq (sqr (sqp [.m 215 13,.k 216 (.bool false)] ?_)))
 refine aa (wcf rfl (wp_skip (av (aa (wq (sqr (sqp [.k 4 (.bool true)] ?_)))))))
 refine aa (wp_ret ?_)
 refine bpr (.bool true) (ag Tryz.results30 rpt) ?_
 obtain⟨fp154_,hr154_⟩:=St.rq (rs:=rs) (told:=told) (p:=5) (rr:=rr) (z8)
 have Nj:=St.rf (L:=L) hr154_ (hrs) (hsub)
 obtain⟨fw156_,hw156_⟩:=St.wd Nj.u2.c0.u2.c0.u1.u2
 have hE_:fq (L,told) a=(L,told):=by rw[fq,if_neg (by omega),if_neg (by omega),if_pos (by omega)]
 obtain⟨fz_,hz_⟩:=hw156_.wdm (c2:=c+700) (by omega)
 exact⟨rfl,_,by rw[hE_];exact hz_⟩
 refine sqr (sqp [.m 173 0,.k 174 (vp xb),.k 175 (po xb 1)] ?_)
 refine au 0 aY ?_
 refine sqp [.m 177 12] ?_
 refine bG (fun X_=>X_.fp) (vi 22) (fun FH=>eNi sb db L told 5 (c+4) FH) 1 aY (by
   refine svA fun g d W X cx=>?_
   refine am.call (al (args:=#[vp sb,vi nW]) rfl cx.sees rfl (by kernel_rfl) (aN (cx.ou 176) (cx.ou 177))) ?_
   refine(Cg hnb hnr (CtxV.holdF cx (cx.init 1 _ rfl) rfl) (CtxV.ltF cx (cx.init 1 _ rfl) rfl) hc).mono ?_
   rintro e W1 ⟨rfl,fp4,aM⟩
   refine⟨_,rfl,aK (E:=eNi sb db L told 5 c fps) [eNi sb db L told 5 (c+4) fp4] (cx.init 1 _ rfl) rfl rfl aM (fun f i X' hs hb hv hN=>?_)⟩
   have aJ:=(hv 178 rfl).1;have aQ:=(hv 178 rfl).2
   exact⟨aJ.trans rfl,dI ((List.cons.inj hN).1)⟩) fun FH To FI=>?_
 refine sqp [.m 13 178] ?_
 refine aa (wq (wq (sqr (sqp [.m 179 0,.k 180 (vp xb),.k 181 (vp xb)] ?_))))
 refine au 0 FI ?_
 refine sqk (.bool true) FI (fun cx=>⟨_,ma (CtxV.holdF cx (cx.init 1 _ rfl) rfl),(aw (cx.ou 182))⟩) fun PI ve=>?_
 refine sqp [.k 184 (.bool false)] ?_
 refine aa (wcf rfl (wp_skip (aa (wq (wq (sqr (sqp [.m 189 12,.k 190 (.bool (decide (nW<0))),.m 191 190] ?_)))))))
 refine sqw 191 [192,193] rfl (fun _=>sqp [.m 192 12,.k 193 (.bool (decide (5<=nW)))] sqe) ?_
 have hd176:((decide (nW<0))||(decide (5<=nW)))=true:=(by simp;omega)
 refine sqp [B5 194 (decide (nW<0)) (decide (5<=nW)) true hd176] ?_
 refine aa (wct rfl (wq (sqr (sqp [.m 195 13,.k 196 (.bool true),.k 4 (.bool true)] ?_))))
 refine aa (wp_ret (aj (ba (aj ?_))))
 refine bpr (.bool true) (ag Tryz.results30 rpt) ?_
 obtain⟨fw180_,hw180_⟩:=St.wd ve.u3.c0
 have hE_:fq (L,told) a=(L,told):=by rw[fq,if_neg (by omega),if_neg (by omega),if_pos (by omega)]
 obtain⟨fz_,hz_⟩:=hw180_.wdm (c2:=c+700) (by omega)
 exact⟨rfl,_,by rw[hE_];exact hz_⟩
 have zJ:=beq_eq_false_iff_ne.1 vc
 refine wq (sqr ?_)
 have hd182:((a.what % 10)==7)=true:=(beq_iff_eq.2 (by omega))
 refine sqp [.e 218 (.bool ((a.what % 10)==7)) (.bool true) (congrArg Value.bool hd182),.k 217 (.bool true)] ?_
 refine aa (wct rfl (wq (sqr (sqp [.k 219 (po cO 3)] ?_))))
 refine au 3 aY ?_
 refine sqp [.k 221 (po cO 3)] ?_
 refine au 3 aY ?_
 refine sqp [.k 223 (vi ((a.item.size:Int)))] ?_
 refine sql (vi (min (a.item.size:Int) 50)) aY (fun cx=>jt rfl (cx.ou 223) (cx.co _) (rfl)) ?_
 refine sql (.string (a.item.extract 0 ((min (a.item.size:Int) 50).toNat))) aY (fun cx=>gG (l:=(min (a.item.size:Int) 50).toNat) rfl (by kernel_rfl) (cx.ou 220) (cx.ou 224) (by omega) (by omega)) ?_
 refine sqp [.m 14 225] ?_
 refine aa (wq ?_)
 obtain⟨nt,hnt⟩:∃z,ntA a=z:=⟨_,rfl⟩
 have hnz:nt.size<=50:=hnt ▸ F4 a
 have hnt2:a.item.extract 0 ((min (a.item.size:Int) 50).toNat)=nt:=hnt
 rw[hnt2]
 refine sqr (sqp [.m 226 0,.k 227 (vp xb),.k 228 (po xb 1)] ?_)
 refine au 0 aY ?_
 refine sqp [.m 230 14] ?_
 refine bG (fun X_=>X_.fp) (vi ((fZ L nt))) (fun FJ=>eNi sb db (ckL L nt) told 5 (c+500) FJ) 1 aY (by
   refine svA fun g d W X cx=>?_
   refine am.call (al (args:=#[vp sb,.string nt]) rfl cx.sees rfl (by kernel_rfl) (aN (cx.ou 229) (cx.ou 230))) ?_
   refine(BV nt (CtxV.holdF cx (cx.init 1 _ rfl) rfl) (CtxV.ltF cx (cx.init 1 _ rfl) rfl) hc (by omega)).mono ?_
   rintro e W1 ⟨rfl,fp4,aM⟩
   refine⟨_,rfl,aK (E:=eNi sb db L told 5 c fps) [eNi sb db (ckL L nt) told 5 (c+500) fp4] (cx.init 1 _ rfl) rfl rfl aM (fun f i X' hs hb hv hN=>?_)⟩
   have aJ:=(hv 231 rfl).1;have aQ:=(hv 231 rfl).2
   exact⟨aJ.trans rfl,dI ((List.cons.inj hN).1)⟩) fun FJ Tp FK=>?_
 refine sqp [.m 15 231] ?_
 refine aa (wq (sqr (sqp [.m 232 0,.k 233 (vp xb),.k 234 (po xb 2)] ?_)))
 refine au 0 FK ?_
 refine sqp [.m 236 14] ?_
 refine bG (fun X_=>X_.fp) (vi ((fZ L nt))) (fun FL=>eRf rb (ckL L nt) told 5 FL) 2 FK (by
   refine svA fun g d W X cx=>?_
   refine am.call (al (args:=#[vp rb,.string nt]) rfl cx.sees rfl (by kernel_rfl) (aN (cx.ou 235) (cx.ou 236))) ?_
   refine(yJ rb L told 5 nt _ _ (CtxV.holdF cx (cx.init 2 _ rfl) rfl) (CtxV.ltF cx (cx.init 2 _ rfl) rfl) hL hz (by omega)).mono ?_
   rintro e W1 ⟨rfl,fp4,aM⟩
   refine⟨_,rfl,aK (E:=eRf rb L told 5 fpr) [eRf rb (ckL L nt) told 5 fp4] (cx.init 2 _ rfl) rfl rfl aM (fun f i X' hs hb hv hN=>?_)⟩
   have aJ:=(hv 237 rfl).1;have aQ:=(hv 237 rfl).2
   exact⟨aJ.trans rfl,sN ((List.cons.inj hN).1)⟩) fun FL Tq FM=>?_
 refine sqp [.m 16 237] ?_
 refine aa (wq (wq (sqr (sqp [.m 238 0,.k 239 (vp xb),.k 240 (vp xb)] ?_))))
 refine au 0 FM ?_
 refine sqk (.bool true) FM (fun cx=>⟨_,ma (CtxV.holdF cx (cx.init 1 _ rfl) rfl),(aw (cx.ou 241))⟩) fun Tr Nk=>?_
 refine sqp [.k 243 (.bool false)] ?_
 refine aa (wcf rfl (wp_skip (aa (wq (wq (sqr ?_))))))
 have hd215:((fZ L nt) != (fZ L nt))=false:=(by simp)
 refine sqp [.m 252 15,.m 253 16,.e 254 (.bool ((fZ L nt) != (fZ L nt))) (.bool false) (congrArg Value.bool hd215)] ?_
 refine aa (wcf rfl (wp_skip (aa ?_)))
 obtain⟨rs,rr,hrs,hsub,ho216_⟩:=Nk.u2.unrf
 obtain⟨QA,qc,TA,tc,hq217_⟩:=ho216_.unrq
 refine sqr (sqp [.m 255 0,.m 256 0,.k 257 (vp xb),.k 258 (po xb 2)] ?_)
 refine au 4 hq217_ ?_
 refine sqp [.k 260 (vp rb),.k 261 (po rb 1)] ?_
 refine au 0 hq217_ ?_
 refine sqp [.k 263 (vi ((rs.length:Int))),.k 264 (vp xb),.k 265 (po xb 4)] ?_
 refine aX (n:=1) 4 #[vp db,vp sb,vp rb,vi bufs,vi ((rs.length:Int))] hq217_ fun Ts Nl=>?_
 refine av (aa (wq (sqr (sqp [.k 4 (.bool true)] ?_))))
 refine aa (wp_ret ?_)
 refine bpr (.bool true) (ag Tryz.results30 rpt) ?_
 obtain⟨fp231_,hr231_⟩:=St.rq (rs:=rs) (told:=told) (p:=5) (rr:=rr) (Nl)
 have Nm:=St.rf (L:=(ckL L nt)) hr231_ (hrs) (hsub)
 obtain⟨fw233_,hw233_⟩:=St.wd Nm.u3.c0.u2.u2
 have hE_:fq (L,told) a=(ckL L nt,told):=by rw[fq,if_neg (by omega),if_neg (by omega),if_neg (by omega),hnt]
 obtain⟨fz_,hz_⟩:=hw233_.wdm (c2:=c+700) (by omega)
 exact⟨rfl,_,by rw[hE_];exact hz_⟩
end
section
open Go.RowKit
noncomputable def oV(s:List RecM×(Int->Bool))(acs:List ActT):List RecM×(Int->Bool):=acs.foldl (fun s a=>if a.what % 10<8 then fq s a else s) s
noncomputable def kj(s:List RecM×(Int->Bool))(acs:List ActT):List RecM×(Int->Bool):=oV s (acs.take 25)
theorem wm{s:List RecM×(Int->Bool)}{acs:List ActT}{i:Nat}{a:ActT}(h:acs[i]? =some a):oV s (acs.take (i+1))=if a.what % 10<8 then fq (oV s (acs.take i)) a else oV s (acs.take i):=by
 rw[List.take_add_one,h,oV,oV,List.foldl_append];rfl
def a0:ActT:=⟨0,0,0,⟨#[]⟩,none,0,0⟩
theorem t8(xb:Nat)(bufs:Int)(L:List RecM)(told:Int->Bool)(c:Nat)(AA:Option Addr)(ac:Nat)(acs:List ActT)(fp:List Nat)(w:World)(hB:(eWd xb bufs L told c fp).holds w)(hlt:∀k∈fp,k<w.heap.size)(hA:∀W,Upd fp w W->At W AA (acs.flatMap acC))(hok:∀a∈acs,ActOk a)(hal:acs.length<=100000000000000)(hc:c<=600000):
  Calls Tryz.prog 32 #[po xb 0,.slice AA acs.length ac] w ((fun e w2=>e= .returned (.bool true)/\∃fp2,St w fp [eWd xb bufs (kj (L,told) acs).1 (kj (L,told) acs).2 (c+17500) fp2] w2)):=by
 have st1:St w fp [eWd xb bufs L told c fp] w:=St.lend hB (vF _ _ _ _ _ _) hlt
 go_enter Tryz.func32,Tryz.ntmps32
 have ak:=st1
 refine wq (sqr (sqp [.k 4 (.bool false)] ?_))
 refine aa (wq (wq (sqr (sqp [.k 5 (vi 0)] ?_))))
 refine aa (wp_block ?_)
 refine aT (fun t_ mz az W=>∃i:Nat,∃sL:List RecM,∃sT:Int->Bool,∃ci:Nat,∃fpi:List Nat,i<=acs.length/\i<=25/\(sL,sT)=oV (L,told) (acs.take i)/\ci<=c+700*i/\mz=acs.length-i/\az=⟨(ovr (jv az) [(4,4,1,[vi ((i:Int))]),(0,6,26,[])] t_).toArray,[]⟩/\St w fp [eWd xb bufs sL sT ci fpi] W) (acs.length-0) ?_ ?_
 exact⟨0,L,told,c,fp,Nat.zero_le _,Nat.zero_le _,rfl,by omega,rfl,(by kernel_rfl),ak.pk [0]⟩
 rintro n3 a3 W3 ⟨i,sL,sT,ci,fpi,hi,hi25,hsr,hci,rfl,hj_,aV⟩
 refine ovz hj_ fun QL=>?_
 refine wq (wq (sqr (sqp [.m 6 5,.m 7 1,.k 8 (vi ((acs.length:Int))),.k 9 (.bool (decide ((i:Int)<(acs.length:Int)))),.m 10 9] ?_)))
 refine sqw 10 [11,12] rfl (fun _=>sqp [.m 11 5,.k 12 (.bool (decide ((i:Int)<25)))] sqe) ?_
 refine sqp [sPa 13 (decide ((i:Int)<(acs.length:Int))) (decide ((i:Int)<25))] ?_
 refine aa (wbs (fun je=>?_) fun je=>?_)
 have jq:=je
 simp only[zB] at jq
 obtain⟨Ri,Rj⟩:=jq
 refine wp_skip (aa (wq (wp_block (wq ?_))))
 obtain⟨a,hai⟩:∃a,acs[i]? =some a:=⟨_,List.getElem?_eq_getElem (by omega)⟩
 have hao:=hok a (List.mem_of_getElem? hai)
 have haw:=hao.what
 by_cases hlt8:a.what % 10<8
 refine sqr (sqp [.m 16 1,.m 17 5] ?_)
 refine sql (.pointer (some ((ad AA).add (i*5)))) aV (fun cx=>aG (e:=60) (m:=i) (sz:=5) rfl (by kernel_rfl) (by kernel_rfl) (cx.ou 16) (cx.ou 17) (by omega) (by omega) (hA _ cx.upd) (bp (sz:=5) me (by decide) (by omega))) ?_
 refine sql (.pointer (some ((ad AA).add (i*5+0)))) aV (fun cx=>bq rfl (by kernel_rfl) (cx.ou 18)) ?_
 refine sql (.int .u8 a.what) aV (fun cx=>ae rfl (by kernel_rfl) (cx.ou 19) (At.eltc (f:=acC) (k:=0) me (hA _ cx.upd) hai rfl)) ?_
 have hd20:(decide (a.what % 10<8))=true:=(decide_eq_true hlt8)
 refine sqp [sRe 21 .u8 a.what 10 (a.what % 10) (Int.tmod_eq_emod_of_nonneg (by omega)),.e 22 (.bool (decide (a.what % 10<8))) (.bool true) (congrArg Value.bool hd20),.k 23 (.bool true)] ?_
 refine c9 23 [24,25,26,27,28,29,30] rfl rfl ?_
 refine sqp [.m 24 0,.m 25 1,.m 26 5] ?_
 refine sql (.pointer (some ((ad AA).add (i*5)))) aV (fun cx=>aG (e:=60) (m:=i) (sz:=5) rfl (by kernel_rfl) (by kernel_rfl) (cx.ou 25) (cx.ou 26) (by omega) (by omega) (hA _ cx.upd) (bp (sz:=5) me (by decide) (by omega))) ?_
 refine sql (.agg #[.int .u8 a.what,vi a.page,vi a.slot,.string a.item,.slice a.QA a.qn a.qc]) aV (fun cx=>bQ (f:=acC) (m:=i) (sz:=5) (off:=0) (n:=5) rfl (by kernel_rfl) (by kernel_rfl) (cx.ou 27) rfl me (hA _ cx.upd) hai (fun k hk=>match k,hk with|0,_=>rfl|1,_=>rfl|2,_=>rfl|3,_=>rfl|4,_=>rfl|k+5,hk=>absurd hk (by omega))) ?_
 refine bG (fun X_=>X_.fp) (.bool true) (fun C7=>eWd xb bufs ((fq (sL,sT) a).1) ((fq (sL,sT) a).2) (ci+700) C7) 0 aV (by
   refine svA fun g b W X cx=>?_
   refine am.call (al (args:=#[vp xb,.agg #[.int .u8 a.what,vi a.page,vi a.slot,.string a.item,.slice a.QA a.qn a.qc]]) rfl cx.sees rfl (by kernel_rfl) (aN (cx.ou 24) (cx.ou 28))) ?_
   refine(Jm xb bufs sL sT ci a _ _ (CtxV.holdF cx (cx.init 0 _ rfl) rfl) (CtxV.ltF cx (cx.init 0 _ rfl) rfl) hao (by omega) hlt8).mono ?_
   rintro e W1 ⟨rfl,fp4,aM⟩
   refine⟨_,rfl,aK (E:=eWd xb bufs sL sT ci fpi) [eWd xb bufs ((fq (sL,sT) a).1) ((fq (sL,sT) a).2) (ci+700) fp4] (cx.init 0 _ rfl) rfl rfl aM (fun d h X' hs hb hv hN=>?_)⟩
   have aJ:=(hv 29 rfl).1;have aQ:=(hv 29 rfl).2
   exact⟨aJ.trans rfl,mJ ((List.cons.inj hN).1)⟩) fun C7 y7 e6=>?_
 refine sqp [.k 30 (.bool false)] ?_
 refine sqp [.k 31 (.bool false)] ?_
 refine aa (wcf rfl (wp_skip (av (aa (sqr (sqp [.m 14 5,sI 15 ((i:Int)+1) (by omega),.m 5 15] ?_))))))
 refine aa ?_
 refine⟨acs.length-((i+1)),by omega,?_⟩
 exact⟨(i+1),(fq (sL,sT) a).1,(fq (sL,sT) a).2,(ci+700),C7,by omega,by omega,(by rw[wm hai,if_pos hlt8,<-hsr]),by omega,rfl,(by kernel_rfl),e6.pk [0]⟩
 refine sqr (sqp [.m 16 1,.m 17 5] ?_)
 refine sql (.pointer (some ((ad AA).add (i*5)))) aV (fun cx=>aG (e:=60) (m:=i) (sz:=5) rfl (by kernel_rfl) (by kernel_rfl) (cx.ou 16) (cx.ou 17) (by omega) (by omega) (hA _ cx.upd) (bp (sz:=5) me (by decide) (by omega))) ?_
 refine sql (.pointer (some ((ad AA).add (i*5+0)))) aV (fun cx=>bq rfl (by kernel_rfl) (cx.ou 18)) ?_
 refine sql (.int .u8 a.what) aV (fun cx=>ae rfl (by kernel_rfl) (cx.ou 19) (At.eltc (f:=acC) (k:=0) me (hA _ cx.upd) hai rfl)) ?_
 have hd40:(decide (a.what % 10<8))=false:=(decide_eq_false hlt8)
 refine K6 [sRe 21 .u8 a.what 10 (a.what % 10) (Int.tmod_eq_emod_of_nonneg (by omega)),.e 22 (.bool (decide (a.what % 10<8))) (.bool false) (congrArg Value.bool hd40),.k 23 (.bool false)] 23 [24,25,26,27,28,29,30] ?_
 refine sqp [.k 31 (.bool false)] ?_
 refine aa (wcf rfl (wp_skip (av (aa (sqr (sqp [.m 14 5,sI 15 ((i:Int)+1) (by omega),.m 5 15] ?_))))))
 refine aa ?_
 refine⟨acs.length-((i+1)),by omega,?_⟩
 exact⟨(i+1),sL,sT,ci,fpi,by omega,by omega,(by rw[wm hai,if_neg hlt8,<-hsr]),by omega,rfl,(by kernel_rfl),aV.pk [0]⟩
 have jq:=je
 simp only[zB] at jq
 refine wp_exit (aq (aq (bj (aa (wq (sqr (sqp [.k 4 (.bool true)] ?_)))))))
 refine aa (wp_ret ?_)
 refine bpr (.bool true) (ag Tryz.results32 rpt) ?_
 have hr9:kj (L,told) acs=(sL,sT):=by rw[hsr,kj];congr 1;have h_:=je;simp at h_;by_cases h25:i=25;rw[h25];rw[List.take_of_length_le (by omega),List.take_of_length_le (by omega)]
 obtain⟨fz_,hz_⟩:=aV.wdm (c2:=c+17500) (by omega)
 exact⟨rfl,_,by rw[hr9];exact hz_⟩
theorem C9(q:PgS)(A B:Option Addr)(c d:Nat)(w:World)(hA:At w A (q.2.2.map Value.string))(hB:At w B (q.2.2.map Value.string))(hl:q.2.2.length<=100000):
  Calls Tryz.prog 35 #[.agg #[.int .i64 q.1,.int .i64 q.2.1,.slice A q.2.2.length c],.agg #[.int .i64 q.1,.int .i64 q.2.1,.slice B q.2.2.length d]] w (Ret (.bool true) w):=by
 go_enter Tryz.func35,Tryz.ntmps35
 have ak:=St.start w
 refine wq (sqr ?_)
 refine bY #[vi q.1,vi q.2.1,.slice A q.2.2.length c] ak fun bA W1 aA=>?_
 refine bY #[vi q.1,vi q.2.1,.slice B q.2.2.length d] aA fun cT W2 bC=>?_
 refine sqp [.k 4 (.bool false)] ?_
 refine aa (wq (wq (sqr (sqp [.k 6 (vp bA)] ?_))))
 refine au 0 bC ?_
 refine sqp [.k 8 (vp cT)] ?_
 refine au 1 bC ?_
 have hd9:(q.1 != q.1)=false:=(by simp)
 refine sqp [.e 10 (.bool (q.1 != q.1)) (.bool false) (congrArg Value.bool hd9),.k 11 (.bool false)] ?_
 refine c9 11 [12,13,14,15,16] rfl rfl ?_
 refine sqp [.k 12 (po bA 1)] ?_
 refine au 0 bC ?_
 refine sqp [.k 14 (po cT 1)] ?_
 refine au 1 bC ?_
 have hd16:(q.2.1 != q.2.1)=false:=(by simp)
 refine sqp [.e 16 (.bool (q.2.1 != q.2.1)) (.bool false) (congrArg Value.bool hd16)] ?_
 refine sqp [.k 17 (.bool false),.k 18 (.bool false)] ?_
 refine c9 18 [19,20,21,22,23,24,25] rfl rfl ?_
 refine sqp [.k 19 (po bA 2)] ?_
 refine au 0 bC ?_
 refine sqp [.k 21 (vi ((q.2.2.length:Int))),.k 22 (po cT 2)] ?_
 refine au 1 bC ?_
 have hd26:((q.2.2.length:Int) != (q.2.2.length:Int))=false:=(by simp)
 refine sqp [.k 24 (vi ((q.2.2.length:Int))),.e 25 (.bool ((q.2.2.length:Int) != (q.2.2.length:Int))) (.bool false) (congrArg Value.bool hd26)] ?_
 refine sqp [.k 26 (.bool false)] ?_
 refine aa (wcf rfl (wp_skip (aa (wq (wq (sqr (sqp [.k 5 (vi 0)] ?_)))))))
 refine aa (wp_block ?_)
 refine aT (fun t_ mz az W=>∃j:Nat,j<=q.2.2.length/\mz=q.2.2.length-j/\az=⟨(ovr (jv az) [(4,4,1,[vi ((j:Int))]),(21,27,18,[])] t_).toArray,[]⟩/\St w [] [eB bA 48 #[vi q.1,vi q.2.1,.slice A q.2.2.length c],eB cT 48 #[vi q.1,vi q.2.1,.slice B q.2.2.length d]] W) (q.2.2.length-0) ?_ ?_
 exact⟨0,Nat.zero_le _,rfl,(by kernel_rfl),bC.pk [0,1]⟩
 rintro T9 a29 Fc ⟨j,hj,rfl,hj_,gw⟩
 refine ovz hj_ fun Tt=>?_
 refine wq (wq (sqr (sqp [.m 27 5,.k 28 (po bA 2)] ?_)))
 refine au 0 gw ?_
 refine sqp [.k 30 (vi ((q.2.2.length:Int))),.k 31 (.bool (decide ((j:Int)<(q.2.2.length:Int))))] ?_
 refine aa (wds (fun tr vn=>?_) fun tr vn=>?_)
 refine wp_skip (aa (wq (wp_block (wq ?_))))
 have hd37:(!((q.2.2.getD j ByteArray.empty).toList==(q.2.2.getD j ByteArray.empty).toList))=false:=(by simp)
 refine bR [0,1,0,7,15,0,32,0,224,480,1023] [[],[0],[],[],[],[],[1]] [.k 34 (po bA 2),.c 35 (.slice A q.2.2.length c),.k 36 (vi ((j:Int))),.c 37 (.pointer (some ((ad A).add j))),.c 38 (.string (q.2.2.getD j ByteArray.empty)),.k 39 (po cT 2),.c 40 (.slice B q.2.2.length d),.k 41 (vi ((j:Int))),.c 42 (.pointer (some ((ad B).add j))),.c 43 (.string (q.2.2.getD j ByteArray.empty)),.e 44 (.bool (!((q.2.2.getD j ByteArray.empty).toList==(q.2.2.getD j ByteArray.empty).toList))) (.bool false) (congrArg Value.bool hd37)] [0,1] [1,3,4,6,8,9] [(34,0,11,45)] gw ?_ fun zd eH=>?_
 refine⟨?_,?_,?_,?_,?_,?_,trivial⟩
 exact xs4 rfl id fun cx=>ae rfl (by kernel_rfl) (cx.an 0) ((cx.bi 0 rfl).cell 2)
 exact xs4 rfl id fun cx=>bK (e:=9) (m:=j) rfl (by kernel_rfl) (by kernel_rfl) (cx.an 1) (cx.an 2) (by omega) (by omega) (hA.ext cx.upd.to_ext) (by simp)
 exact xs4 rfl id fun cx=>ae rfl (by kernel_rfl) (cx.an 3) (At.cellAd (hA.ext cx.upd.to_ext) (jy (by omega)))
 exact xs4 rfl id fun cx=>ae rfl (by kernel_rfl) (cx.an 5) ((cx.bi 1 rfl).cell 2)
 exact xs4 rfl id fun cx=>bK (e:=9) (m:=j) rfl (by kernel_rfl) (by kernel_rfl) (cx.an 6) (cx.an 7) (by omega) (by omega) (hB.ext cx.upd.to_ext) (by simp)
 exact xs4 rfl id fun cx=>ae rfl (by kernel_rfl) (cx.an 8) (At.cellAd (hB.ext cx.upd.to_ext) (jy (by omega)))
 refine aa (wcf rfl (wp_skip (av (aa (sqr (sqp [.m 32 5,sI 33 ((j:Int)+1) (by omega),.m 5 33] ?_))))))
 refine aa ?_
 refine⟨q.2.2.length-((j+1)),by omega,?_⟩
 exact⟨(j+1),by omega,rfl,(by kernel_rfl),eH.pk [0,1]⟩
 refine wp_exit (aq (aq (bj (aa (wq (sqr (sqp [.k 4 (.bool true)] ?_)))))))
 refine aa (wp_ret ?_)
 refine bpr (.bool true) (ag Tryz.results35 rpt) ?_
 exact Ret.of rfl gw.ext
end
section
open Go.RowKit
theorem Hk{s:List RecM×(Int->Bool)}{a:ActT}(h:0<bc s.1):0<bc (fq s a).1:=by
 unfold fq
 split
 show 0<bc (rfD 5 s.1 s.2 (c8 a)).1
 unfold rfD
 split
 show 0<bc (rfL s.1 (c8 a))
 rw[rfL,eW,if_neg (by show ¬(1:Int)=9;decide),ut _ (fun r hr=>by rw[(ro r hr).2.1];decide)];exact h
 exact h
 split
 exact h
 split
 exact h
 show 0<bc (ckL s.1 (ntA a))
 unfold ckL
 split
 rw[eW,if_pos (show (aE (ntA a)).kind=9 from rfl)];omega
 exact h
theorem Hv{l:List ActT}:∀{s:List RecM×(Int->Bool)},0<bc s.1->0<bc (oV s l).1:=by
 induction l with
 |nil=>intro s h;exact h
 |cons a l ih=>
  intro s h
  refine ih (s:=if a.what % 10<8 then fq s a else s) ?_
  split
  exact Hk h
  exact h
theorem xJ{sb db:Nat}{L:List RecM}{told:Int->Bool}{p c:Nat}{fp:List Nat}{w:World}{n:Nat}(h:n<p)(hp:p<=400)(hB:(eNi sb db L told p c fp).holds w)(hlt:∀k∈fp,k<w.heap.size)(hc:c<=800000):
  Calls Tryz.prog 21 #[po sb 0,.int .i64 (n:Int)] w
   (fun e w'=>∃A cc,e= .returned (.tuple #[.agg #[.int .i64 (ai L (n:Int)).1,.int .i64 (ai L (n:Int)).2.1,.slice A (ai L (n:Int)).2.2.length cc],.bool true])/\∃fp',St w fp [eNi sb db L told p (c+3) fp',eO 9 1 (.slice A (ai L (n:Int)).2.2.length cc) (ai L (n:Int)).2.2.length ((ai L (n:Int)).2.2.map Value.string)] w'):=by
 have h1:=wQ (n:Int) hB hlt hc (by constructor<;>omega)
 have e1:pgC L p (n:Int)=ai L (n:Int):=if_pos ⟨by omega,by omega⟩
 rw[e1,decide_eq_true (show 0<=(n:Int)/\(n:Int)<(p:Int) by omega)] at h1
 exact h1
theorem GN(L:List RecM)(n:Int):(ai L n).2.2.length<=100000:=by have:=(cP (gm L n).1).2.2.1.1;omega
theorem so(AA:Option Addr)(ac:Nat)(acs:List ActT)(a b:Int)(w:World)(hA:At w AA (acs.flatMap acC))(hok:∀a∈acs,ActOk a)(hal:acs.length<=100000000000000)(ha:0<=a/\a<=255)(hb:0<=b/\b<=255):
  Calls Tryz.prog 7 #[.slice AA acs.length ac,.int .u8 a,.int .u8 b] w (Ret (.bool true) w):=by
 go_enter Tryz.func7,Tryz.ntmps7
 have ak:=St.start w
 refine wq (sqr (sqp [.k 6 (.bool false)] ?_))
 refine aa (wq (sqr (sqk (.bool true) ak (fun cx=>⟨_,Cu _,jc⟩) fun W2 bC=>?_)))
 refine sqp [.k 7 (.bool true)] ?_
 refine aa (wq (sqr (sqp [.k 16 (.agg #[.pointer none,.pointer none,.pointer none,vi 0,vi 0])] ?_)))
 refine bY #[.pointer none,.pointer none,.pointer none,vi 0,vi 0] bC fun dQ W5 aR=>?_
 refine sqp [.m 8 17] ?_
 refine aa (wq (sqr (sqp [.k 18 (.agg #[.pointer none,.pointer none,.pointer none,vi 0,vi 0])] ?_)))
 refine bY #[.pointer none,.pointer none,.pointer none,vi 0,vi 0] aR fun dR W8 dy=>?_
 refine sqp [.m 9 19] ?_
 refine aa (wq (wq (sqr (sqp [.m 20 8,.m 21 1,sRe 22 .u8 a 6 (a % 6) (Int.tmod_eq_emod_of_nonneg (by omega)),sW 23 .i64 (a % 6) (a % 6) (IntWalk.i64_in _ (by omega)),sI 24 (1+(a % 6)) (by omega)] ?_))))
 refine bG (fun X_=>X_.fp) (.bool true) (fun C8=>eWd dQ (1+(a % 6)) ([aE bgS]) (fun _=>false) 0 C8) 0 dy (by
   refine svA fun g d W X cx=>?_
   refine am.call (al (args:=#[vp dQ,vi (1+(a % 6))]) rfl cx.sees rfl (by kernel_rfl) (aN (cx.ou 20) (cx.ou 24))) ?_
   refine(uC dQ (1+(a % 6)) _ (CtxV.holdF cx (cx.init 0 _ rfl) rfl) ((cx.bi 0 rfl)).lt (by omega)).mono ?_
   rintro e W1 ⟨rfl,fp4,aM⟩
   refine⟨_,rfl,aK (E:=eB dQ 34 #[.pointer none,.pointer none,.pointer none,vi 0,vi 0]) [eWd dQ (1+(a % 6)) ([aE bgS]) (fun _=>false) 0 fp4] (cx.init 0 _ rfl) rfl rfl aM (fun f j X' hs hb hv hN=>?_)⟩
   have aJ:=(hv 25 rfl).1;have aQ:=(hv 25 rfl).2
   exact⟨aJ.trans rfl,mJ ((List.cons.inj hN).1)⟩) fun C8 zj fw=>?_
 refine sqp [.k 26 (.bool false),.k 27 (.bool false)] ?_
 refine c9 27 [28,29,30,31,32,33,34] rfl rfl ?_
 refine sqp [.m 28 9,.m 29 2,sRe 30 .u8 b 6 (b % 6) (Int.tmod_eq_emod_of_nonneg (by omega)),sW 31 .i64 (b % 6) (b % 6) (IntWalk.i64_in _ (by omega)),sI 32 (1+(b % 6)) (by omega)] ?_
 refine bG (fun X_=>X_.fp) (.bool true) (fun l0=>eWd dR (1+(b % 6)) ([aE bgS]) (fun _=>false) 0 l0) 1 fw (by
   refine svA fun g d W X cx=>?_
   refine am.call (al (args:=#[vp dR,vi (1+(b % 6))]) rfl cx.sees rfl (by kernel_rfl) (aN (cx.ou 28) (cx.ou 32))) ?_
   refine(uC dR (1+(b % 6)) _ (CtxV.holdF cx (cx.init 1 _ rfl) rfl) ((cx.bi 1 rfl)).lt (by omega)).mono ?_
   rintro e W1 ⟨rfl,fp4,aM⟩
   refine⟨_,rfl,aK (E:=eB dR 34 #[.pointer none,.pointer none,.pointer none,vi 0,vi 0]) [eWd dR (1+(b % 6)) ([aE bgS]) (fun _=>false) 0 fp4] (cx.init 1 _ rfl) rfl rfl aM (fun f j X' hs hb hv hN=>?_)⟩
   have aJ:=(hv 33 rfl).1;have aQ:=(hv 33 rfl).2
   exact⟨aJ.trans rfl,mJ ((List.cons.inj hN).1)⟩) fun l0 sa cq=>?_
 refine sqp [.k 34 (.bool false)] ?_
 refine sqp [.k 35 (.bool false),.k 36 (.bool false)] ?_
 refine c9 36 [37,38,39,40] rfl rfl ?_
 refine sqp [.m 37 8,.m 38 0] ?_
 refine bG (fun X_=>X_.fp) (.bool true) (fun Ja=>eWd dQ (1+(a % 6)) ((kj ([aE bgS],fun _=>false) acs).1) ((kj ([aE bgS],fun _=>false) acs).2) (0+17500) Ja) 0 cq (by
   refine svA fun g d W X cx=>?_
   refine am.call (al (args:=#[vp dQ,.slice AA acs.length ac]) rfl cx.sees rfl (by kernel_rfl) (aN (cx.ou 37) (cx.ou 38))) ?_
   refine(t8 dQ (1+(a % 6)) [aE bgS] (fun _=>false) 0 AA ac acs _ _ (CtxV.holdF cx (cx.init 0 _ rfl) rfl) (CtxV.ltF cx (cx.init 0 _ rfl) rfl) (cx.oldAt (cx.init 0 _ rfl) rfl rfl hA) hok hal (by decide)).mono ?_
   rintro e W1 ⟨rfl,fp4,aM⟩
   refine⟨_,rfl,aK (E:=eWd dQ (1+(a % 6)) ([aE bgS]) (fun _=>false) 0 C8) [eWd dQ (1+(a % 6)) ((kj ([aE bgS],fun _=>false) acs).1) ((kj ([aE bgS],fun _=>false) acs).2) (0+17500) fp4] (cx.init 0 _ rfl) rfl rfl aM (fun f j X' hs hb hv hN=>?_)⟩
   have aJ:=(hv 39 rfl).1;have aQ:=(hv 39 rfl).2
   exact⟨aJ.trans rfl,mJ ((List.cons.inj hN).1)⟩) fun Ja Fc gw=>?_
 refine sqp [.k 40 (.bool false)] ?_
 refine sqp [.k 41 (.bool false),.k 42 (.bool false)] ?_
 refine c9 42 [43,44,45,46] rfl rfl ?_
 refine sqp [.m 43 9,.m 44 0] ?_
 refine bG (fun X_=>X_.fp) (.bool true) (fun vu=>eWd dR (1+(b % 6)) ((kj ([aE bgS],fun _=>false) acs).1) ((kj ([aE bgS],fun _=>false) acs).2) (0+17500) vu) 1 gw (by
   refine svA fun g d W X cx=>?_
   refine am.call (al (args:=#[vp dR,.slice AA acs.length ac]) rfl cx.sees rfl (by kernel_rfl) (aN (cx.ou 43) (cx.ou 44))) ?_
   refine(t8 dR (1+(b % 6)) [aE bgS] (fun _=>false) 0 AA ac acs _ _ (CtxV.holdF cx (cx.init 1 _ rfl) rfl) (CtxV.ltF cx (cx.init 1 _ rfl) rfl) (cx.oldAt (cx.init 1 _ rfl) rfl rfl hA) hok hal (by decide)).mono ?_
   rintro e W1 ⟨rfl,fp4,aM⟩
   refine⟨_,rfl,aK (E:=eWd dR (1+(b % 6)) ([aE bgS]) (fun _=>false) 0 l0) [eWd dR (1+(b % 6)) ((kj ([aE bgS],fun _=>false) acs).1) ((kj ([aE bgS],fun _=>false) acs).2) (0+17500) fp4] (cx.init 1 _ rfl) rfl rfl aM (fun f j X' hs hb hv hN=>?_)⟩
   have aJ:=(hv 45 rfl).1;have aQ:=(hv 45 rfl).2
   exact⟨aJ.trans rfl,mJ ((List.cons.inj hN).1)⟩) fun vu w9 dN=>?_
 refine sqp [.k 46 (.bool false)] ?_
 refine sqp [.k 47 (.bool false)] ?_
 refine aa (wcf rfl (wp_skip (aa (wq (wq ?_)))))
 obtain⟨⟨L9,t9⟩,hr9⟩:∃z,kj ([aE bgS],fun _=>false) acs=z:=⟨_,rfl⟩
 have aC:0<bc L9:=by have h_:=Hv (l:=acs.take 25) (s:=([aE bgS],fun _=>false)) (by decide);rw[show oV ([aE bgS],fun _=>false) (acs.take 25)=(L9,t9) from hr9] at h_;exact h_
 simp only[hr9] at dN
 refine sqr (sqp [.k 10 (vi 0)] ?_)
 refine aa (wp_block ?_)
 obtain⟨safe1,db1,sb1,rb1,fps1,fpr1,hw39_⟩:=dN.unwd
 obtain⟨safe2,db2,sb2,rb2,fps2,fpr2,hw40_⟩:=hw39_.u3.unwd
 refine aT (fun t_ mz az W=>∃i:Nat,∃c1:Nat,∃fq1:List Nat,∃c2:Nat,∃fq2:List Nat,i<=5/\c1<=20000+3*i/\c2<=20000+3*i/\mz=5-i/\az=⟨(ovr (jv az) [(6,6,1,[]),(3,10,0,[vi ((i:Int))]),(0,11,4,[]),(33,48,34,[])] t_).toArray,[]⟩/\St w [] [eB dR 34 #[vp db2,vp sb2,vp rb2,vi (1+(b % 6)),vi safe2],eNi sb2 db2 L9 t9 5 c1 fq1,eRf rb2 L9 t9 5 fpr2,eB dQ 34 #[vp db1,vp sb1,vp rb1,vi (1+(a % 6)),vi safe1],eNi sb1 db1 L9 t9 5 c2 fq2,eRf rb1 L9 t9 5 fpr1] W) (5-0) ?_ ?_
 exact⟨0,(0+17500),fps2,(0+17500),fps1,Nat.zero_le _,(by omega),(by omega),rfl,(by kernel_rfl),hw40_.pk [0,1,2,3,4,5]⟩
 rintro Ua a41 E9 ⟨i,c1,fq1,c2,fq2,hi,hc1,hc2,rfl,hj_,ir⟩
 refine ovz hj_ fun Tu=>?_
 refine wq (wq (sqr (sqp [.m 48 10,.k 49 (.bool (decide ((i:Int)<5)))] ?_)))
 refine aa (wds (fun tp CT=>?_) fun tp CT=>?_)
 refine wp_skip (aa (wq (wp_block (wq (aD [0,1,3,7,0,31,63,127,127,0,767,2047] [[],[],[],[3],[],[4],[],[],[],[],[8]] [[],[],[],[],[],[6,7],[],[],[],[8],[9]] [[],[],[],[],[],[4],[],[],[],[],[8]] [.k 53 (vp dQ),.k 54 (vp dQ),.k 55 (po dQ 1),.c 56 (vp sb1),.k 57 (vi ((i:Int))),.a 58,.a 52,.a 59,.c 60 (.bool true),.a 11,.n,.k 12 (.bool true)] (fun ix f d X=>match ix with|0|1|2|3|4=>True|5=>f 58= .tuple #[.agg #[vi ((ai L9 (i:Int)).1),vi ((ai L9 (i:Int)).2.1),.slice (sA (tg (tg (d 58) 0) 2)) ((ai L9 (i:Int)).2.2.length) (sC (tg (tg (d 58) 0) 2))],.bool true]/\X 6=eNi sb1 db1 L9 t9 5 (c2+3) ((X 6).fp)/\X 7=eO 9 1 (.slice (sA (tg (tg (d 58) 0) 2)) ((ai L9 (i:Int)).2.2.length) (sC (tg (tg (d 58) 0) 2))) ((ai L9 (i:Int)).2.2.length) ((ai L9 (i:Int)).2.2.map Value.string)|6=>f 52= .tuple #[.agg #[vi ((ai L9 (i:Int)).1),vi ((ai L9 (i:Int)).2.1),.slice (sA (tg (tg (d 58) 0) 2)) ((ai L9 (i:Int)).2.2.length) (sC (tg (tg (d 58) 0) 2))],.bool true]|7=>f 59= .agg #[vi ((ai L9 (i:Int)).1),vi ((ai L9 (i:Int)).2.1),.slice (sA (tg (tg (d 58) 0) 2)) ((ai L9 (i:Int)).2.2.length) (sC (tg (tg (d 58) 0) 2))]|8=>True|9=>f 11=vp (pb (d 11))/\X 8=eB (pb (d 11)) 48 #[vi 0,vi 0,sn]|10=>X 9=eB (pb (d 11)) 48 #[vi ((ai L9 (i:Int)).1),vi ((ai L9 (i:Int)).2.1),.slice (sA (tg (tg (d 58) 0) 2)) ((ai L9 (i:Int)).2.2.length) (sC (tg (tg (d 58) 0) 2))]|_=>True) [0,1,2,3,5,6,7,9] [3,5,6,7,8,9,10] [(11,9,3,13),(39,6,1,40),(0,0,6,6),(0,7,2,2)] ir ?_ ?_ ?_)))))
 exact fun ix _ _ _ _ _ _ hs hb hx h=>match ix,h with
 |5,h=>by dsimp only;rw[<-hs 58 rfl,<-hb 58 rfl,<-hx 6 rfl,<-hx 7 rfl];exact h
 |6,h=>by dsimp only;rw[<-hs 52 rfl,<-hb 58 rfl];exact h
 |7,h=>by dsimp only;rw[<-hs 59 rfl,<-hb 58 rfl];exact h
 |9,h=>by dsimp only;rw[<-hs 11 rfl,<-hb 11 rfl,<-hx 8 rfl];exact h
 |10,h=>by dsimp only;rw[<-hb 11 rfl,<-hb 58 rfl,<-hx 9 rfl];exact h
 |0,_|1,_|2,_|3,_|4,_|8,_|_+11,_=>trivial
 refine⟨?_,?_,?_,?_,?_,?_,?_,trivial⟩
 exact xs4 rfl id fun cx=>ae rfl (by kernel_rfl) (cx.an 2) ((cx.bi 3 rfl).cell 1)
 refine svA fun g d W X cx=>?_
 refine am.call (al (args:=#[vp sb1,vi ((i:Int))]) rfl cx.sees rfl (by kernel_rfl) (aN (cx.an 3) (cx.an 4))) ?_
 refine(xJ (by omega) (by decide) (CtxV.holdF cx (cx.init 4 _ rfl) rfl) (CtxV.ltF cx (cx.init 4 _ rfl) rfl) (by omega)).mono ?_
 rintro e W1 ⟨A4,c4,rfl,fp4,aM⟩
 refine⟨_,rfl,aK (E:=eNi sb1 db1 L9 t9 5 c2 fq2) [eNi sb1 db1 L9 t9 5 (c2+3) fp4,eO 9 1 (.slice A4 (ai L9 (i:Int)).2.2.length c4) (ai L9 (i:Int)).2.2.length ((ai L9 (i:Int)).2.2.map Value.string)] (cx.init 4 _ rfl) rfl rfl aM (fun f j X' hs hb hv hN=>?_)⟩
 have aJ:=(hv 58 rfl).1;have aQ:=(hv 58 rfl).2
 exact⟨aJ.trans (by rw[aQ];exact rfl),dI ((List.cons.inj hN).1),(by rw[aQ];exact(List.cons.inj (List.cons.inj hN).2).1)⟩
 exact sv rfl rfl rfl rfl rfl _ (fun _ _ _ h=>h) (fun d j h=>by rw[h 58 (by decide)]) fun g d W X cx=>cK rfl (dTn (cx.an 5)).1
 exact sv rfl rfl rfl rfl rfl _ (fun _ _ _ h=>h) (fun d j h=>by rw[h 58 (by decide)]) fun g d W X cx=>bJ rfl (dTn (cx.an 6)) rfl
 exact xs4 rfl id fun cx=>bJ rfl (dTn (cx.an 6)) rfl
 refine svA fun g d W X cx=>?_
 exact cZ (cs:=#[vi 0,vi 0,sn]) rfl (by kernel_rfl) rfl rfl (fun _ _ _ _ _=> .intro)
 refine svA fun g d W X cx=>?_
 exact bu (n:=3) rfl (dTn (cx.an 9)).1 (dTn (cx.an 7)) (by kernel_rfl) (by kernel_rfl) (by kernel_rfl) cx (dTn (cx.an 9)).2 rfl (nle rfl) (by kernel_rfl) rfl rfl rfl (fun f j X' hs hb hx=>by rw[hb 11,hb 58];exact hx)
 intro f d X OP hD rH fr aC
 obtain⟨Rk,q8⟩:∃z,sA (tg (tg (d 58) 0) 2)=z:=⟨_,rfl⟩
 obtain⟨Rl,q9⟩:∃z,sC (tg (tg (d 58) 0) 2)=z:=⟨_,rfl⟩
 obtain⟨Rm,ra⟩:∃z,pb (d 11)=z:=⟨_,rfl⟩
 have q6:X 6= _:=(dTn (hD 5 lq)).2.1
 obtain⟨OE,Aa⟩:∃z,(X 6).fp=z:=⟨_,rfl⟩
 rw[Aa] at q6
 clear Aa
 simp only[q6,exq 7 ((dTn (hD 5 lq)).2.2),exq 9 ((dTn (hD 10 lq))),q8,q9,ra] at rH
 simp only[ed 58 ((dTn (hD 5 lq)).1),ed 52 ((dTn (hD 6 lq))),ed 59 ((dTn (hD 7 lq))),ed 11 ((dTn (hD 9 lq)).1),q8,q9,ra] at aC
 clear hD q6 q8 q9 ra;subst aC;clear f d X
 refine aa (wq (aD [0,1,3,7,0,31,63,127,127,0,767,2047] [[],[],[],[0],[],[1],[],[],[],[],[10]] [[],[],[],[],[],[8,9],[],[],[],[10],[11]] [[],[],[],[],[],[1],[],[],[],[],[10]] [.k 62 (vp dR),.k 63 (vp dR),.k 64 (po dR 1),.c 65 (vp sb2),.k 66 (vi ((i:Int))),.a 67,.a 61,.a 68,.c 69 (.bool true),.a 13,.n,.k 14 (.bool true)] (fun ix f d X=>match ix with|0|1|2|3|4=>True|5=>f 67= .tuple #[.agg #[vi ((ai L9 (i:Int)).1),vi ((ai L9 (i:Int)).2.1),.slice (sA (tg (tg (d 67) 0) 2)) ((ai L9 (i:Int)).2.2.length) (sC (tg (tg (d 67) 0) 2))],.bool true]/\X 8=eNi sb2 db2 L9 t9 5 (c1+3) ((X 8).fp)/\X 9=eO 9 1 (.slice (sA (tg (tg (d 67) 0) 2)) ((ai L9 (i:Int)).2.2.length) (sC (tg (tg (d 67) 0) 2))) ((ai L9 (i:Int)).2.2.length) ((ai L9 (i:Int)).2.2.map Value.string)|6=>f 61= .tuple #[.agg #[vi ((ai L9 (i:Int)).1),vi ((ai L9 (i:Int)).2.1),.slice (sA (tg (tg (d 67) 0) 2)) ((ai L9 (i:Int)).2.2.length) (sC (tg (tg (d 67) 0) 2))],.bool true]|7=>f 68= .agg #[vi ((ai L9 (i:Int)).1),vi ((ai L9 (i:Int)).2.1),.slice (sA (tg (tg (d 67) 0) 2)) ((ai L9 (i:Int)).2.2.length) (sC (tg (tg (d 67) 0) 2))]|8=>True|9=>f 13=vp (pb (d 13))/\X 10=eB (pb (d 13)) 48 #[vi 0,vi 0,sn]|10=>X 11=eB (pb (d 13)) 48 #[vi ((ai L9 (i:Int)).1),vi ((ai L9 (i:Int)).2.1),.slice (sA (tg (tg (d 67) 0) 2)) ((ai L9 (i:Int)).2.2.length) (sC (tg (tg (d 67) 0) 2))]|_=>True) [0,2,3,4,5,6,7,8,9,11] [3,5,6,7,8,9,10] [(13,9,3,15),(46,6,1,47),(0,0,6,6),(0,7,2,2)] rH ?_ ?_ ?_))
 exact fun ix _ _ _ _ _ _ hs hb hx h=>match ix,h with
 |5,h=>by dsimp only;rw[<-hs 67 rfl,<-hb 67 rfl,<-hx 8 rfl,<-hx 9 rfl];exact h
 |6,h=>by dsimp only;rw[<-hs 61 rfl,<-hb 67 rfl];exact h
 |7,h=>by dsimp only;rw[<-hs 68 rfl,<-hb 67 rfl];exact h
 |9,h=>by dsimp only;rw[<-hs 13 rfl,<-hb 13 rfl,<-hx 10 rfl];exact h
 |10,h=>by dsimp only;rw[<-hb 13 rfl,<-hb 67 rfl,<-hx 11 rfl];exact h
 |0,_|1,_|2,_|3,_|4,_|8,_|_+11,_=>trivial
 refine⟨?_,?_,?_,?_,?_,?_,?_,trivial⟩
 exact xs4 rfl id fun cx=>ae rfl (by kernel_rfl) (cx.an 2) ((cx.bi 0 rfl).cell 1)
 refine svA fun g d W X cx=>?_
 refine am.call (al (args:=#[vp sb2,vi ((i:Int))]) rfl cx.sees rfl (by kernel_rfl) (aN (cx.an 3) (cx.an 4))) ?_
 refine(xJ (by omega) (by decide) (CtxV.holdF cx (cx.init 1 _ rfl) rfl) (CtxV.ltF cx (cx.init 1 _ rfl) rfl) (by omega)).mono ?_
 rintro e W1 ⟨A4,c4,rfl,fp4,aM⟩
 refine⟨_,rfl,aK (E:=eNi sb2 db2 L9 t9 5 c1 fq1) [eNi sb2 db2 L9 t9 5 (c1+3) fp4,eO 9 1 (.slice A4 (ai L9 (i:Int)).2.2.length c4) (ai L9 (i:Int)).2.2.length ((ai L9 (i:Int)).2.2.map Value.string)] (cx.init 1 _ rfl) rfl rfl aM (fun f j X' hs hb hv hN=>?_)⟩
 have aJ:=(hv 67 rfl).1;have aQ:=(hv 67 rfl).2
 exact⟨aJ.trans (by rw[aQ];exact rfl),dI ((List.cons.inj hN).1),(by rw[aQ];exact(List.cons.inj (List.cons.inj hN).2).1)⟩
 exact sv rfl rfl rfl rfl rfl _ (fun _ _ _ h=>h) (fun d j h=>by rw[h 67 (by decide)]) fun g d W X cx=>cK rfl (dTn (cx.an 5)).1
 exact sv rfl rfl rfl rfl rfl _ (fun _ _ _ h=>h) (fun d j h=>by rw[h 67 (by decide)]) fun g d W X cx=>bJ rfl (dTn (cx.an 6)) rfl
 exact xs4 rfl id fun cx=>bJ rfl (dTn (cx.an 6)) rfl
 refine svA fun g d W X cx=>?_
 exact cZ (cs:=#[vi 0,vi 0,sn]) rfl (by kernel_rfl) rfl rfl (fun _ _ _ _ _=> .intro)
 refine svA fun g d W X cx=>?_
 exact bu (n:=3) rfl (dTn (cx.an 9)).1 (dTn (cx.an 7)) (by kernel_rfl) (by kernel_rfl) (by kernel_rfl) cx (dTn (cx.an 9)).2 rfl (nle rfl) (by kernel_rfl) rfl rfl rfl (fun f j X' hs hb hx=>by rw[hb 13,hb 67];exact hx)
 intro f d X Bs hD eI fr aC
 obtain⟨Rn,rd⟩:∃z,sA (tg (tg (d 67) 0) 2)=z:=⟨_,rfl⟩
 obtain⟨Ro,re⟩:∃z,sC (tg (tg (d 67) 0) 2)=z:=⟨_,rfl⟩
 obtain⟨Rp,rj⟩:∃z,pb (d 13)=z:=⟨_,rfl⟩
 have zH:X 8= _:=(dTn (hD 5 lq)).2.1
 obtain⟨OF,Ab⟩:∃z,(X 8).fp=z:=⟨_,rfl⟩
 rw[Ab] at zH
 clear Ab
 simp only[zH,exq 9 ((dTn (hD 5 lq)).2.2),exq 11 ((dTn (hD 10 lq))),rd,re,rj] at eI
 simp only[ed 67 ((dTn (hD 5 lq)).1),ed 61 ((dTn (hD 6 lq))),ed 68 ((dTn (hD 7 lq))),ed 13 ((dTn (hD 9 lq)).1),rd,re,rj] at aC
 clear hD zH rd re rj;subst aC;clear f d X
 refine aa (wq (sqr (sqp [.k 70 (.bool true),.k 71 (.bool false),.k 72 (.bool false)] ?_)))
 refine c9 72 [73,74] rfl rfl ?_
 refine sqp [.k 73 (.bool true),.k 74 (.bool false)] ?_
 refine sqp [.k 75 (.bool false),.k 76 (.bool false)] ?_
 refine c9 76 [77,78,79,80] rfl rfl ?_
 refine bE 6 3 eI ?_
 refine bE 9 3 eI ?_
 refine sqk (.bool true) eI (fun cx=>⟨_,C9 (ai L9 (i:Int)) _ _ _ _ _ (At.of_own (cx.ri 5 rfl)) (At.of_own (cx.ri 8 rfl)) (GN _ _),(aN (cx.ou 77) (cx.ou 78))⟩) fun Ma lW=>?_
 refine sqp [.k 80 (.bool false)] ?_
 refine sqp [.k 81 (.bool false)] ?_
 refine aa (wcf rfl (wp_skip (av (aa (sqr (sqp [.m 50 10,sI 51 ((i:Int)+1) (by omega),.m 10 51] ?_))))))
 refine aa ?_
 refine⟨5-((i+1)),by omega,?_⟩
 exact⟨(i+1),(c1+3),OF,(c2+3),OE,by omega,by omega,by omega,rfl,(by kernel_rfl),lW.pk [0,7,1,2,4,3]⟩
 refine wp_exit (aq (aq (bj (aa (wq ?_)))))
 have hd63:((L9.length:Int)==(L9.length:Int))=true:=(by simp)
 have hd64:((frF 5 L9 t9)==(frF 5 L9 t9))=true:=(by simp)
 have hd65:(((kA L9)).toList==((kA L9)).toList)=true:=(by simp)
 have hd66:(((dj L9)).toList==((dj L9)).toList)=true:=(by simp)
 refine aD [0,1,3,7,15,31,63,3,131,387,899,2047,4095,8191,16383,32767,65535,131071,262143,524287,32767,1081343,3178495,7372799,16777215,33554431,67108863,134217727,268435455,536870911,1073741823,2147483647,4294967295,268435455,8858370047,26038239231,60397977599,137438953471,274877906943,549755813887,1099511627775,2199023255551,4398046511103,8796093022207,17592186044415,35184372088831,2199023255551,72567767433215,213305255788543,494780232499199,1125899906842623,2251799813685247,4503599627370495,9007199254740991] [[],[],[],[],[],[3],[4],[],[],[],[0],[1],[],[],[],[],[],[],[3],[4],[],[],[],[0],[1],[],[],[],[],[],[],[3],[6],[],[],[],[0],[7],[],[],[],[],[],[],[3],[6],[],[],[],[0],[7]] [[],[],[],[],[],[],[],[],[],[],[],[],[],[],[],[],[],[],[],[6],[],[],[],[],[7]] [[],[],[],[],[],[],[],[],[],[],[],[],[],[],[],[],[],[],[],[4],[],[],[],[],[1]] [.k 82 (.bool true),.k 83 (.bool true),.k 84 (vp dQ),.k 85 (vp dQ),.k 86 (po dQ 1),.c 87 (vp sb1),.c 88 (vi ((L9.length:Int))),.k 89 (vp dR),.k 90 (vp dR),.k 91 (po dR 1),.c 92 (vp sb2),.c 93 (vi ((L9.length:Int))),.e 94 (.bool ((L9.length:Int)==(L9.length:Int))) (.bool true) (congrArg Value.bool hd63),.k 95 (.bool true),.k 96 (.bool true),.k 97 (vp dQ),.k 98 (vp dQ),.k 99 (po dQ 1),.c 100 (vp sb1),.a 101,.k 102 (vp dR),.k 103 (vp dR),.k 104 (po dR 1),.c 105 (vp sb2),.a 106,.c 107 (.bool true),.k 108 (.bool true),.k 109 (.bool true),.k 110 (vp dQ),.k 111 (vp dQ),.k 112 (po dQ 1),.c 113 (vp sb1),.c 114 (.string ((kA L9))),.k 115 (vp dR),.k 116 (vp dR),.k 117 (po dR 1),.c 118 (vp sb2),.c 119 (.string ((kA L9))),.e 120 (.bool (((kA L9)).toList==((kA L9)).toList)) (.bool true) (congrArg Value.bool hd65),.k 121 (.bool true),.k 122 (.bool true),.k 123 (vp dQ),.k 124 (vp dQ),.k 125 (vp dQ),.c 126 (vp db1),.c 127 (.string ((dj L9))),.k 128 (vp dR),.k 129 (vp dR),.k 130 (vp dR),.c 131 (vp db2),.c 132 (.string ((dj L9))),.e 133 (.bool (((dj L9)).toList==((dj L9)).toList)) (.bool true) (congrArg Value.bool hd66),.k 134 (.bool true),.k 6 (.bool true)] (fun ix f d X=>match ix with|0|1|2|3|4|5|6|7|8|9|10|11|12|13|14|15|16|17|18=>True|19=>f 101=vi ((frF 5 L9 t9))/\X 6=eNi sb1 db1 L9 (frT 5 L9 t9) 5 (c2+3*5+1) ((X 6).fp)|20|21|22|23=>True|24=>f 106=vi ((frF 5 L9 t9))/\X 7=eNi sb2 db2 L9 (frT 5 L9 t9) 5 (c1+3*5+1) ((X 7).fp)|_=>True) [0,2,3,5,6,7] [5,6,10,11,18,19,23,24,25,31,32,36,37,44,45,49,50] [(6,53,1,7),(75,0,53,128)] ir ?_ ?_ ?_
 exact fun ix _ _ _ _ _ _ hs hb hx h=>match ix,h with
 |19,h=>by dsimp only;rw[<-hs 101 rfl,<-hx 6 rfl];exact h
 |24,h=>by dsimp only;rw[<-hs 106 rfl,<-hx 7 rfl];exact h
 |0,_|1,_|2,_|3,_|4,_|5,_|6,_|7,_|8,_|9,_|10,_|11,_|12,_|13,_|14,_|15,_|16,_|17,_|18,_|20,_|21,_|22,_|23,_|_+25,_=>trivial
 refine⟨?_,?_,?_,?_,?_,?_,?_,?_,?_,?_,?_,?_,?_,?_,?_,?_,?_,trivial⟩
 exact xs5 rfl id (fun cx=>(cx.an 1)) fun cx=>ae rfl (by kernel_rfl) (cx.an 4) ((cx.bi 3 rfl).cell 1)
 exact iZ rfl rfl rfl rfl rfl rfl (fun _ _ _ h=>h) (fun _ _ _ _ cx=>(cx.an 1)) fun g d W X cx=>⟨_,_,al (args:=#[vp sb1]) rfl cx.sees rfl (by kernel_rfl) (aw (cx.an 5)),ww (CtxV.holdF cx (cx.init 4 _ rfl) rfl)⟩
 exact xs5 rfl id (fun cx=>(cx.an 1)) fun cx=>ae rfl (by kernel_rfl) (cx.an 9) ((cx.bi 0 rfl).cell 1)
 exact iZ rfl rfl rfl rfl rfl rfl (fun _ _ _ h=>h) (fun _ _ _ _ cx=>(cx.an 1)) fun g d W X cx=>⟨_,_,al (args:=#[vp sb2]) rfl cx.sees rfl (by kernel_rfl) (aw (cx.an 10)),ww (CtxV.holdF cx (cx.init 1 _ rfl) rfl)⟩
 exact xs5 rfl id (fun cx=>(cx.an 14)) fun cx=>ae rfl (by kernel_rfl) (cx.an 17) ((cx.bi 3 rfl).cell 1)
 refine qj rfl rfl rfl (fun _ _ _ _ cx=>(cx.an 14)) fun g d W X cx=>?_
 refine am.call (al (args:=#[vp sb1]) rfl cx.sees rfl (by kernel_rfl) (aw (cx.an 18))) ?_
 refine(jM (CtxV.holdF cx (cx.init 4 _ rfl) rfl) (CtxV.ltF cx (cx.init 4 _ rfl) rfl) (by omega)).mono ?_
 rintro e W1 ⟨rfl,fp4,aM⟩
 refine⟨_,rfl,aK (E:=eNi sb1 db1 L9 t9 5 c2 fq2) [eNi sb1 db1 L9 (frT 5 L9 t9) 5 (c2+3*5+1) fp4] (cx.init 4 _ rfl) rfl rfl aM (fun f j X' hs hb hv hN=>?_)⟩
 have aJ:=(hv 101 rfl).1;have aQ:=(hv 101 rfl).2
 exact⟨aJ.trans rfl,dI ((List.cons.inj hN).1)⟩
 exact xs5 rfl id (fun cx=>(cx.an 14)) fun cx=>ae rfl (by kernel_rfl) (cx.an 22) ((cx.bi 0 rfl).cell 1)
 refine qj rfl rfl rfl (fun _ _ _ _ cx=>(cx.an 14)) fun g d W X cx=>?_
 refine am.call (al (args:=#[vp sb2]) rfl cx.sees rfl (by kernel_rfl) (aw (cx.an 23))) ?_
 refine(jM (CtxV.holdF cx (cx.init 1 _ rfl) rfl) (CtxV.ltF cx (cx.init 1 _ rfl) rfl) (by omega)).mono ?_
 rintro e W1 ⟨rfl,fp4,aM⟩
 refine⟨_,rfl,aK (E:=eNi sb2 db2 L9 t9 5 c1 fq1) [eNi sb2 db2 L9 (frT 5 L9 t9) 5 (c1+3*5+1) fp4] (cx.init 1 _ rfl) rfl rfl aM (fun f j X' hs hb hv hN=>?_)⟩
 have aJ:=(hv 106 rfl).1;have aQ:=(hv 106 rfl).2
 exact⟨aJ.trans rfl,dI ((List.cons.inj hN).1)⟩
 exact s5 rfl (fun _ _ _ h=>h.trans (congrArg Value.bool hd64)) (fun cx=>(cx.an 14)) fun cx=>od rfl (dTn (cx.an 19)).1 (dTn (cx.an 24)).1 rfl
 exact xs5 rfl id (fun cx=>(cx.an 27)) fun cx=>ae rfl (by kernel_rfl) (cx.an 30) ((cx.bi 3 rfl).cell 1)
 exact iZ rfl rfl rfl rfl rfl rfl (fun _ _ _ h=>h) (fun _ _ _ _ cx=>(cx.an 27)) fun g d W X cx=>⟨_,_,al (args:=#[vp sb1]) rfl cx.sees rfl (by kernel_rfl) (aw (cx.an 31)),qv (CtxV.holdF cx (dTn (cx.an 19)).2 rfl) aC⟩
 exact xs5 rfl id (fun cx=>(cx.an 27)) fun cx=>ae rfl (by kernel_rfl) (cx.an 35) ((cx.bi 0 rfl).cell 1)
 exact iZ rfl rfl rfl rfl rfl rfl (fun _ _ _ h=>h) (fun _ _ _ _ cx=>(cx.an 27)) fun g d W X cx=>⟨_,_,al (args:=#[vp sb2]) rfl cx.sees rfl (by kernel_rfl) (aw (cx.an 36)),qv (CtxV.holdF cx (dTn (cx.an 24)).2 rfl) aC⟩
 exact xs5 rfl id (fun cx=>(cx.an 40)) fun cx=>ae rfl (by kernel_rfl) (cx.an 43) ((cx.bi 3 rfl).cell 0)
 exact iZ rfl rfl rfl rfl rfl rfl (fun _ _ _ h=>h) (fun _ _ _ _ cx=>(cx.an 40)) fun g d W X cx=>⟨_,_,al (args:=#[vp db1]) rfl cx.sees rfl (by kernel_rfl) (aw (cx.an 44)),xL (CtxV.holdF cx (dTn (cx.an 19)).2 rfl)⟩
 exact xs5 rfl id (fun cx=>(cx.an 40)) fun cx=>ae rfl (by kernel_rfl) (cx.an 48) ((cx.bi 0 rfl).cell 0)
 exact iZ rfl rfl rfl rfl rfl rfl (fun _ _ _ h=>h) (fun _ _ _ _ cx=>(cx.an 40)) fun g d W X cx=>⟨_,_,al (args:=#[vp db2]) rfl cx.sees rfl (by kernel_rfl) (aw (cx.an 49)),xL (CtxV.holdF cx (dTn (cx.an 24)).2 rfl)⟩
 intro f d X Q2 hD va fr aC
 have q6:X 6= _:=(dTn (hD 19 lq)).2
 obtain⟨RQ,Ac⟩:∃z,(X 6).fp=z:=⟨_,rfl⟩
 rw[Ac] at q6
 clear Ac
 have Nn:X 7= _:=(dTn (hD 24 lq)).2
 obtain⟨RR,Ad⟩:∃z,(X 7).fp=z:=⟨_,rfl⟩
 rw[Ad] at Nn
 clear Ad
 simp only[q6,Nn] at va
 simp only[ed 101 ((dTn (hD 19 lq)).1),ed 106 ((dTn (hD 24 lq)).1)] at aC
 clear hD q6 Nn;subst aC;clear f d X
 refine aa (wp_ret ?_)
 refine bpr (.bool true) (ag Tryz.results7 rpt) ?_
 exact Ret.of rfl va.ext
end
section
open Go.ChangeShapes Go.WideShapes Go.ChangeAt Go.RowKit Go.Deep Go.Joins
theorem yb:ownKnob Tryz.prog.godebug=none:=by kernel_rfl
theorem Ju:laidOutB Tryz.prog=true:=by kernel_rfl
section
variable{H:Type}{enc:TypeId×Value->H}{P:Program}
theorem pG(hl:laidOutB P=true){W W':World}{sp:Nat->Bool}:∀{ts:List TypeId}{vs:List Value}{ds:List (DataW H)}{ps:List MemPlace},(∀t∈ts,P.readableRec t=true/\t<P.types.size)->
  DataW.TrodAll enc P W 0 (fun _=>true) true ts vs ds ps->(∀p∈ps,W.sameAt W' p)->(∀p∈ps,sp p.block=true)->DataW.TrodAll enc P W' 0 sp true ts vs ds ps
 | [],[],[],_,_,h,_,_=>h
 |t:: _,_:: _,_:: _,_,hT,⟨p,q,h1,h2,e⟩,hsm,hs=>
  ⟨p,q,WideElems.Trod_stays hl (hT t (by simp)).1 (hT t (by simp)).2 h1 (fun x hx=>hsm x (by rw[e];exact List.mem_append_left _ hx)) (fun x hx=>hs x (by rw[e];exact List.mem_append_left _ hx)),
    pG hl (fun t ht=>hT t (by simp[ht])) h2 (fun x hx=>hsm x (by rw[e];exact List.mem_append_right _ hx)) (fun x hx=>hs x (by rw[e];exact List.mem_append_right _ hx)),e⟩
theorem GH{f:Func}{s:ChangeSpec}{fresh handsOn again:Bool}{W W':World}{args:Array Value}{ds gs:List (DataW H)}{before:List MemPlace}{tb:TypeId}
  (hl:laidOutB P=true) (hT:∀t∈f.params.toList,P.readableRec t=true/\t<P.types.size) (hr:f.resultTypes=#[tb]) (hb:P.underlying tb=some .bool)
  (hW:DataW.Whole enc P f.params.toList s.vars false W args.toList ds gs before) (hvs:s.vars=[])
  (hres:(s.fn H (ds++gs)).results=[.lit (.bool true)]) (hargs:(s.fn H (ds++gs)).args=ds) (hvars:(s.fn H (ds++gs)).vars=[]) (hx:Ext W W'):
  s.post enc P f false fresh handsOn again W args (.bool true) W':=by
 have hlt:∀p∈before,p.block<W.heap.size:=fun p hp=>hW.lt p hp
 have hold:∀p∈before,(fun b=>decide (b<W.heap.size)) p.block=true:=fun p hp=>by simpa using hlt p hp
 have hW0:=hW
 obtain⟨p,q,hA,hV,rfl,hz,hn⟩:=hW
 rw[hvs] at hV
 obtain⟨rfl,rfl⟩:=trodVars_none hV
 rw[List.append_nil] at hlt hold hz
 have HA:∀sp:Nat->Bool,(∀x∈p,sp x.block=true)->DataW.TrodAll enc P W' 0 sp true f.params.toList args.toList (s.fn H (ds++[])).args p:=fun sp hs=>by
  rw[hargs]
  exact pG hl hT hA (fun x hx'=>hx.out.same (hlt x hx')) hs
 have HR:∀(b:Nat) (sp:Nat->Bool) (hd:Bool),DataW.TrodAll enc P W' b sp hd f.resultTypes.toList ((Value.bool true).resultList f.resultTypes.size) (s.fn H (ds++[])).results []:=fun b sp hd=>by
  rw[hres,hr]
  exact trodAll_cons_mk (shut_bool hb _) trodAll_mk0
 have HV:∀sp:Nat->Bool,DataW.TrodVars enc P W' sp s.vars (s.fn H (ds++[])).vars []:=fun sp=>by
  rw[hvs,hvars]
  rfl
 refine⟨ds,[],p++[],[],p,[],hW0,HR _ _ _,HA _ hold,HV _,World.keptBut_mono (fun x hx'=>⟨hx',?_⟩) (hx.out.frame (·∈p++[])),fun _=>?_⟩
 rw[List.append_nil] at hx'
 exact Or.inr (Or.inl hx')
 refine⟨?_,_,_,([]++p)++[],⟨[]++p,[],trodAll_append (HA _ (fun _ _=>rfl)) (HR _ _ _),HV _,rfl,?_,fun ha=>by cases ha⟩,?_⟩
 exact ok_one hr rfl (okWide_bool_mk hb _)
 intro b off hp
 have hin:MemPlace.cell b off∈p:=by simpa using hp
 rw[hx.out.frozen (hlt _ hin)]
 exact hz b off hin
 intro x hx' _
 simpa using hx'
end
end
section
open Go.ChangeShapes Go.WideShapes Go.ChangeAt Go.RowKit Go.Deep Go.Joins
inductive Sh where
 |int (k:IntKind)
 |bool
 |str
 |sl (e:Sh) (bs:Nat)
 |st (fs:List Sh)
mutual
def Sh.n:Sh->Nat
 | .st fs=>Sh.ns fs
 | .int _=>1
 | .bool=>1
 | .str=>1
 | .sl _ _=>1
def Sh.ns:List Sh->Nat
 | []=>0
 |f::fs=>f.n+Sh.ns fs
end
mutual
def m6(w:World):Sh->List Value->Prop
 | .int k,cs=>∃z,cs=[.int k z]/\(Lit.int k z).wf=true
 | .bool,cs=>∃b,cs=[.bool b]
 | .str,cs=>∃s:ByteArray,cs=[.string s]/\s.size<=140737488351232
 | .sl e bs,cs=>∃(A:Option Addr) (n c:Nat) (xs:List Value),cs=[.slice A n c]/\At w A xs/\xs.length=n*e.n/\n<=c/\c*bs<=140737488351232/\∀i,i<n->m6 w e ((xs.drop (i*e.n)).take e.n)
 | .st fs,cs=>mp w fs cs
def mp(w:World):List Sh->List Value->Prop
 | [],cs=>cs=[]
 |f::fs,cs=>∃a b,cs=a++b/\m6 w f a/\mp w fs b
end
mutual
def Sh.fits(P:Program):Sh->TypeId->Bool
 | .int k,t=>match P.underlying t with|some (.int k')=>decide (k'=k)|_=>false
 | .bool,t=>match P.underlying t with|some .bool=>true|_=>false
 | .str,t=>match P.underlying t with|some .string=>true|_=>false
 | .sl e bs,t=>match P.underlying t with|some (.slice u)=>e.fits P u&&decide (P.cellsOf u=e.n)&&decide (P.bytesOf u=bs)&&decide (0<e.n)|_=>false
 | .st fs,t=>match P.underlying t with
   |some (.struct gs)=>decide (P.cellsOf t=Sh.ns fs)&&Sh.fitsF P fs gs.toList 0
   |some (.array n u)=>decide (P.cellsOf t=Sh.ns fs)&&decide (fs.length=n)&&Sh.fitsA P fs u
   |_=>false
def Sh.fitsF(P:Program):List Sh->List Field->Nat->Bool
 | [],[],_=>true
 |f::fs,g::gs,off=>decide (g.offset=off)&&decide (P.cellsOf g.type=f.n)&&f.fits P g.type&&Sh.fitsF P fs gs (off+f.n)
 |_,_,_=>false
def Sh.fitsA(P:Program):List Sh->TypeId->Bool
 | [],_=>true
 |f::fs,u=>decide (P.cellsOf u=f.n)&&f.fits P u&&Sh.fitsA P fs u
end
theorem AG{α c:Type}{f:α->Option c}:∀{l:List α}{ys:List c},l.mapM f=some ys->ys.length=l.length/\∀(i:Nat) (a:α),l[i]? =some a->f a=ys[i]?
 | [],ys,h=>by simp at h;subst h;simp
 |a::l,ys,h=>by
  simp only[List.mapM_cons,Option.bind_eq_bind,Option.pure_def,Option.bind_eq_some_iff] at h
  obtain⟨b,hb,bs,hbs,he⟩:=h
  obtain rfl:b::bs=ys:=by simpa using he
  obtain⟨h1,h2⟩:=AG hbs
  refine⟨by simp[h1],fun i x hx=>?_⟩
  cases i with
  |zero=>simp at hx;subst hx;simpa using hb
  |succ i=>simpa using h2 i x (by simpa using hx)
section
variable{H:Type}{enc:TypeId×Value->H}{P:Program}
theorem pD{e:TypeId}:∀{ds:List (DataW H)}(i:Nat) (d:DataW H),ds[i]? =some d->∀x∈d.weights P e,x∈DataW.weightsAll P e ds
 | [],i,d,h,x,hx=>by simp at h
 |d0::ds,0,d,h,x,hx=>by
  simp at h;subst h
  simp only[DataW.weightsAll,List.mem_append];exact .inl hx
 |d0::ds,i+1,d,h,x,hx=>by
  simp only[DataW.weightsAll,List.mem_append]
  exact .inr (pD i d (by simpa using h) x hx)
theorem EL{w:World}{a:Addr}{m len:Nat}(hm:0<m)(h:∀i,i<len->∃csi,w.cells? 0 (a.add (i*m)) m=some csi):
  ∃xs:List Value,xs.length=len*m/\At w (some a) xs/\∀i,i<len->∀csi,w.cells? 0 (a.add (i*m)) m=some csi->(xs.drop (i*m)).take m=csi:=by
 have key:∀i,i<len->∀csi,w.cells? 0 (a.add (i*m)) m=some csi->csi.length=m/\∀r,r<m->w.cell? (a.add (i*m+r))=csi[r]? :=by
  intro i hi csi hc
  unfold World.cells? at hc
  rw[if_pos (Nat.zero_le _)] at hc
  obtain⟨h1,h2⟩:=AG hc
  refine⟨by simpa using h1,fun r hr=>?_⟩
  have:=h2 r r (by simp[hr])
  rw[sd] at this
  exact this
 have each:∀j,j<len*m->∃u,w.cell? (a.add j)=some u:=by
  intro j hj
  have hi:j / m<len:=by rw[Nat.div_lt_iff_lt_mul hm];exact hj
  obtain⟨csi,hc⟩:=h _ hi
  obtain⟨h1,h2⟩:=key _ hi _ hc
  have hr:=Nat.mod_lt j hm
  have:=h2 _ hr
  rw[show j / m*m+j % m=j by rw[Nat.mul_comm];exact Nat.div_add_mod j m] at this
  rw[List.getElem?_eq_getElem (by omega)] at this
  exact⟨_,this⟩
 refine⟨(List.range (len*m)).map fun j=>(w.cell? (a.add j)).getD undef,by simp,fun j u hu=>?_,fun i hi csi hc=>?_⟩
 rw[List.getElem?_map] at hu
 rcases Nat.lt_or_ge j (len*m) with hj|hj
 obtain⟨v,hv⟩:=each j hj
 rw[List.getElem?_range hj] at hu
 simp only[Option.map_some,hv,Option.getD_some,Option.some.injEq] at hu
 subst hu
 have:=World.block_lt_of_cell? _ _ hv
 rw[w3] at this
 exact⟨a,rfl,this,hv⟩
 rw[List.getElem?_eq_none (by simpa using hj)] at hu;cases hu
 obtain⟨h1,h2⟩:=key i hi csi hc
 have hb:i*m+m<=len*m:=by
  have:(i+1)*m<=len*m:=Nat.mul_le_mul_right m hi
  rw[Nat.add_mul,Nat.one_mul] at this
  exact this
 apply List.ext_getElem?
 intro r
 rw[List.getElem?_take]
 by_cases hr:r<m
 rw[if_pos hr,List.getElem?_drop,List.getElem?_map,List.getElem?_range (by omega),Option.map_some,h2 r hr,List.getElem?_eq_getElem (by omega)]
 rfl
 rw[if_neg hr,List.getElem?_eq_none (by omega)]
mutual
theorem rv{w:World}:∀(s:Sh) (t:TypeId) (fuel:Nat) (cs:List Value) (x:DataW H×List MemPlace),s.fits P t=true->DataW.trod enc P w 0 (fun _=>true) true fuel t cs=some x->
  (∀n∈x.1.weights P t,n<=reachBytes)->m6 w s cs
 | .int k,t,fuel,cs,x,hf,h,hw=>by
   simp only[Sh.fits] at hf
   split at hf
   rename_i k' hu
   obtain rfl:=of_decide_eq_true hf
   obtain⟨z,hc,_,hz⟩:=DataW.trod_int hu h
   exact⟨z,hc,hz⟩
   cases hf
 | .bool,t,fuel,cs,x,hf,h,hw=>by
   simp only[Sh.fits] at hf
   split at hf
   rename_i hu
   obtain⟨b,hc,_⟩:=DataW.trod_bool hu h
   exact⟨b,hc⟩
   cases hf
 | .str,t,fuel,cs,x,hf,h,hw=>by
   simp only[Sh.fits] at hf
   split at hf
   rename_i hu
   obtain⟨s,hc,rfl,_⟩:=DataW.trod_string hu h
   refine⟨s,hc,?_⟩
   have:=hw s.data.toList.length (by simp[DataW.weights])
   exact this
   cases hf
 | .sl e bs,t,fuel,cs,x,hf,h,hw=>by
   simp only[Sh.fits] at hf
   split at hf
   rename_i u hu
   simp only[Bool.and_eq_true,decide_eq_true_eq] at hf
   obtain⟨⟨⟨he,hm⟩,hb⟩,hp⟩:=hf
   rcases DataW.trod_slice hu h with ⟨rfl,rfl⟩|⟨a,len,cap,elems,rest,n,_,rfl,rfl,_,hl,_,hlen,hel,hsp,_⟩
   exact⟨none,0,0,[],rfl,At.nil _ _,by simp,by simp,by simp,fun i hi=>by omega⟩
   obtain⟨hrl,_⟩:=hsp rfl
   rw[hm] at hel
   have hsz:=hw ((elems.length+rest.length)*P.bytesOf u) (by simp[DataW.weights,hu])
   rw[hlen,hrl,hb] at hsz
   have hR:reachBytes=140737488351232:=rfl
   rw[hR] at hsz
   have hex:∀i,i<len->∃csi y,w.cells? 0 (a.add (i*e.n)) e.n=some csi/\elems[i]? =some y/\DataW.trod enc P w 0 (fun _=>true) true n u csi=some y:=by
    intro i hi
    have h1:=hel i hi
    rw[List.getElem?_eq_getElem (by omega),Option.bind_eq_some_iff] at h1
    obtain⟨csi,hc,hy⟩:=h1
    exact⟨csi,_,hc,List.getElem?_eq_getElem (by omega),hy⟩
   obtain⟨xs,hxl,hxa,hxe⟩:=EL (w:=w) (a:=a) (len:=len) hp (fun i hi=>let ⟨csi,_,hc,_⟩:=hex i hi;⟨csi,hc⟩)
   refine⟨some a,len,cap,xs,rfl,hxa,hxl,hl,?_,fun i hi=>?_⟩
   rw[show len+(cap-len)=cap by omega] at hsz
   exact hsz
   obtain⟨csi,y,hc,hy,ht⟩:=hex i hi
   rw[hxe i hi csi hc]
   refine rv e u n csi y he ht fun z hz=>hw z ?_
   simp only[DataW.weights,hu,List.mem_cons,List.mem_append]
   refine .inr (.inl ?_)
   exact pD i y.1 (by rw[List.getElem?_map,hy];rfl) z hz
   cases hf
 | .st fs,t,fuel,cs,x,hf,h,hw=>by
   simp only[Sh.fits] at hf
   split at hf
   rename_i gs hu
   simp only[Bool.and_eq_true,decide_eq_true_eq] at hf
   obtain⟨hc,hF⟩:=hf
   obtain⟨xs,n,_,rfl,hcl,hxl,hat⟩:=DataW.trod_struct hu h
   have:=yt fs gs.toList 0 cs xs n hF (fun i g hg=>hat i g (by rw[<-hg];exact(Array.getElem?_toList ..).symm)) (by simpa using hxl) (by omega) (fun z hz=>hw z (by simp only[DataW.weights,hu];exact hz))
   rw[List.drop_zero,List.take_of_length_le (by omega)] at this
   exact this
   rename_i n u hu
   simp only[Bool.and_eq_true,decide_eq_true_eq] at hf
   obtain⟨⟨hc,hn⟩,hF⟩:=hf
   obtain⟨xs,m,_,rfl,hcl,hxl,hat⟩:=DataW.trod_array hu h
   have:=xH fs u 0 cs xs m hF (fun i hi=>by rw[Nat.zero_add];exact hat i (by omega)) (by omega) (by rw[Nat.zero_mul,Nat.zero_add];omega) (fun z hz=>hw z (by simp only[DataW.weights,hu];exact hz))
   rw[Nat.zero_mul,List.drop_zero,List.take_of_length_le (by omega)] at this
   exact this
   cases hf
theorem yt{w:World}:∀(fs:List Sh) (gs:List Field) (off:Nat) (cs:List Value) (xs:List (DataW H×List MemPlace)) (m:Nat),Sh.fitsF P fs gs off=true->
  (∀(i:Nat) (g:Field),gs[i]? =some g->DataW.trod enc P w 0 (fun _=>true) true m g.type ((cs.drop g.offset).take (P.cellsOf g.type))=xs[i]?)->xs.length=gs.length->off+Sh.ns fs<=cs.length->
  (∀n∈DataW.weightsEach P (gs.map (·.type)) (xs.map (·.1)),n<=reachBytes)->mp w fs ((cs.drop off).take (Sh.ns fs))
 | [],[],off,cs,xs,m,hf,h,hx,hl,hw=>by simp[mp,Sh.ns]
 |f::fs,g::gs,off,cs,xs,m,hf,h,hx,hl,hw=>by
  simp only[Sh.fitsF,Bool.and_eq_true,decide_eq_true_eq] at hf
  obtain⟨⟨⟨ho,hc⟩,hff⟩,hF⟩:=hf
  simp only[Sh.ns] at hl
  match xs,hx with
  |y::ys,hx=>
   have h0:=h 0 g rfl
   simp only[List.getElem?_cons_zero] at h0
   rw[ho,hc] at h0
   refine⟨(cs.drop off).take f.n,(cs.drop (off+f.n)).take (Sh.ns fs),?_,rv f g.type m _ y hff h0 (fun z hz=>hw z ?_),yt fs gs (off+f.n) cs ys m hF (fun i g' hg=>?_) (by simpa using hx) (by omega) (fun z hz=>hw z ?_)⟩
   rw[Sh.ns,<-List.drop_drop,List.take_add]
   simp only[List.map_cons,DataW.weightsEach,List.mem_append];exact .inl hz
   simpa using h (i+1) g' (by simpa using hg)
   simp only[List.map_cons,DataW.weightsEach,List.mem_append];exact .inr hz
 | [],_:: _,off,cs,xs,m,hf,h,hx,hl,hw=>by simp[Sh.fitsF] at hf
 |_:: _,[],off,cs,xs,m,hf,h,hx,hl,hw=>by simp[Sh.fitsF] at hf
theorem xH{w:World}:∀(fs:List Sh) (u:TypeId) (k:Nat) (cs:List Value) (xs:List (DataW H×List MemPlace)) (m:Nat),Sh.fitsA P fs u=true->
  (∀i,i<fs.length->DataW.trod enc P w 0 (fun _=>true) true m u ((cs.drop ((k+i)*P.cellsOf u)).take (P.cellsOf u))=xs[i]?)->xs.length=fs.length->k*P.cellsOf u+Sh.ns fs<=cs.length->
  (∀n∈DataW.weightsAll P u (xs.map (·.1)),n<=reachBytes)->mp w fs ((cs.drop (k*P.cellsOf u)).take (Sh.ns fs))
 | [],u,k,cs,xs,m,hf,h,hx,hl,hw=>by simp[mp,Sh.ns]
 |f::fs,u,k,cs,xs,m,hf,h,hx,hl,hw=>by
  simp only[Sh.fitsA,Bool.and_eq_true,decide_eq_true_eq] at hf
  obtain⟨⟨hc,hff⟩,hF⟩:=hf
  simp only[Sh.ns] at hl
  match xs,hx with
  |y::ys,hx=>
   have h0:=h 0 (by simp)
   simp only[List.getElem?_cons_zero,Nat.add_zero] at h0
   have hk:(k+1)*P.cellsOf u=k*P.cellsOf u+f.n:=by rw[Nat.add_mul,Nat.one_mul,hc]
   refine⟨(cs.drop (k*P.cellsOf u)).take f.n,(cs.drop ((k+1)*P.cellsOf u)).take (Sh.ns fs),?_,rv f u m _ y hff (by rw[<-hc];exact h0) (fun z hz=>hw z ?_),xH fs u (k+1) cs ys m hF (fun i hi=>?_) (by simpa using hx) (by rw[hk];omega) (fun z hz=>hw z ?_)⟩
   rw[Sh.ns,hk,<-List.drop_drop,List.take_add]
   simp only[List.map_cons,DataW.weightsAll,List.mem_append];exact .inl hz
   rw[show k+1+i=k+(i+1) by omega]
   simpa using h (i+1) (by simp;omega)
   simp only[List.map_cons,DataW.weightsAll,List.mem_append];exact .inr hz
end
end
theorem sO{H:Type}{enc:TypeId×Value->H}{P:Program}{w:World}{ts:List TypeId}{ds:List (DataW H)}(hsz:(DataW.weightsEach P ts ds).all (·<=reachBytes)=true)(j:Nat){t:TypeId}{v:Value}{d:DataW H}{p:List MemPlace}(s:Sh)
  (hf:s.fits P t=true) (ht:ts[j]? =some t) (hd:ds[j]? =some d) (h:DataW.Trod enc P w 0 (fun _=>true) true t v d p):m6 w s v.cells.toList:=by
 obtain⟨fuel,h⟩:=h
 exact rv s t fuel _ (d,p) hf h fun n hn=>of_decide_eq_true (List.all_eq_true.1 hsz n (DataW.weights_mem_each ht hd n hn))
theorem xN{T:Type}(f:T->List Value)(p:T->Prop)(m:Nat):∀(n:Nat) (xs:List Value),xs.length=n*m->(∀i,i<n->∃t,(xs.drop (i*m)).take m=f t/\p t)->
  ∃ts:List T,ts.length=n/\xs=ts.flatMap f/\∀t∈ts,p t
 |0,xs,hl,h=>⟨[],rfl,by simpa using hl,by simp⟩
 |n+1,xs,hl,h=>by
  obtain⟨t,ht,hp⟩:=h 0 (by omega)
  rw[Nat.zero_mul,List.drop_zero] at ht
  have hle:(n+1)*m=m+n*m:=by rw[Nat.add_mul,Nat.one_mul,Nat.add_comm]
  obtain⟨ts,h1,h2,h3⟩:=xN f p m n (xs.drop m) (by rw[List.length_drop];omega) (fun i hi=>by
   obtain⟨t',ht',hp'⟩:=h (i+1) (by omega)
   refine⟨t',?_,hp'⟩
   rw[List.drop_drop,show m+i*m=(i+1)*m by rw[Nat.add_mul,Nat.one_mul,Nat.add_comm]]
   exact ht')
  refine⟨t::ts,by simp[h1],?_,by simpa using ⟨hp,h3⟩⟩
  rw[List.flatMap_cons,<-h2,<-ht,List.take_append_drop]
theorem r8{T:Type}(f:T->Value):∀ts:List T,(ts.flatMap fun t=>[f t])=ts.map f
 | []=>rfl
 |t::ts=>by simp[r8 f ts]
theorem D4{w:World}{k:IntKind}{bs:Nat}{cs:List Value}(h:m6 w (.sl (.int k) bs) cs):
  ∃(A:Option Addr) (c:Nat) (zs:List Int),cs=[.slice A zs.length c]/\At w A (zs.map (Value.int k))/\zs.length<=c/\c*bs<=140737488351232/\∀z∈zs,(Lit.int k z).wf=true:=by
 simp only[m6,Sh.n,Nat.mul_one] at h
 obtain⟨A,n,c,xs,rfl,hA,hl,hc,hb,he⟩:=h
 obtain⟨zs,h1,h2,h3⟩:=xN (fun z=>[Value.int k z]) (fun z=>(Lit.int k z).wf=true) 1 n xs (by omega) (fun i hi=>by rw[Nat.mul_one];exact he i hi)
 rw[r8] at h2
 subst h1 h2
 exact⟨A,c,zs,rfl,hA,hc,hb,h3⟩
def LG(w:World)(s:Sh)(v:Value):Prop:=match s with
 | .st fs=>∃cs:List Value,v= .agg ⟨cs⟩/\mp w fs cs
 |s=>m6 w s [v]
theorem s7{P:Program}{W w:World}{r:Reach}{b0:Nat}{t:TypeId}{v:Value}(s:Sh)(hf:s.fits P t=true)(hv:Value.okWide P W r b0 t v)(h:m6 w s v.cells.toList):LG w s v:=by
 cases s with
 |int k=>
  simp only[Sh.fits] at hf
  split at hf
  rename_i k' hu
  obtain⟨n,rfl⟩:=okWide_int hu hv
  exact h
  cases hf
 |bool=>
  simp only[Sh.fits] at hf
  split at hf
  rename_i hu
  obtain⟨n,rfl⟩:=okWide_bool hu hv
  exact h
  cases hf
 |str=>
  simp only[Sh.fits] at hf
  split at hf
  rename_i hu
  obtain⟨n,rfl⟩:=okWide_string hu hv
  exact h
  cases hf
 |sl e bs=>
  simp only[Sh.fits] at hf
  split at hf
  rename_i u hu
  obtain⟨a,l,c,rfl⟩:=okWide_slice hu hv
  exact h
  cases hf
 |st fs=>
  simp only[Sh.fits] at hf
  split at hf
  rename_i gs hu
  obtain⟨cs,rfl,_⟩:=okWide_struct hu hv
  exact⟨cs.toList,rfl,h⟩
  rename_i n u hu
  simp only[Value.okWide,hu] at hv
  obtain⟨cs,rfl,_⟩:=hv
  exact⟨cs.toList,rfl,h⟩
  cases hf
end
end Go.Proofs.YtcdjaepgahbhfaaGreat
namespace Go.Proofs.YtcdjaepgahbhfaaGreat.storeBuffers
section
open Go.ChangeShapes Go.WideShapes Go.ChangeAt Go.RowKit Go.Deep Go.Joins
theorem lifted(os:Os)(started:os.Started)(H:Type)(enc:TypeId×Value->H):
  ReturnsInHanded {} Tryz.checked os 7 .any (Rows.storeBuffersSpec.pre6 enc Tryz.prog Tryz.f7 Rows.storeBuffersRow.domain false) (Rows.storeBuffersSpec.post enc Tryz.prog Tryz.f7 false true false false):=by
 refine returnsInHanded_of_change_sized (C:=Tryz.checked) yb started (by kernel_rfl) Tryz.func7
  (ChangeSpec.witness6 (enc:=enc) (C:=Tryz.checked) false ⟨#[],#[sn,.int .u8 0,.int .u8 0],[]⟩ 8 (by kernel_rfl) (by kernel_rfl) (by kernel_rfl) (by kernel_rfl)) ?_
 intro W base args ds gs before hval0 hW hcnd hsz0 _
 have hval:∀(j:Nat) t v,Tryz.f7.params[j]? =some t->args[j]? =some v->Value.okWide Tryz.prog W .any base t v:=hval0
 have hsz:(DataW.weightsEach Tryz.prog (Tryz.f7.params.toList++Rows.storeBuffersSpec.plain.varTypes Tryz.prog) (ds++gs)).all (·<=reachBytes)=true:=hsz0
 clear hsz0 hval0
 have hW':=hW
 obtain⟨p,q,hA0,hV,rfl,hfz,hnd⟩:=hW
 have hA:DataW.TrodAll enc Tryz.prog W 0 (fun _=>true) true Tryz.f7.params.toList args.toList ds p:=hA0
 clear hA0
 rw[Tryz.params7] at hA hval hsz
 obtain⟨v0,vs0,d0,ds0,p0,q0,hargs,rfl,rfl,h0,r0⟩:=trodAll_cons hA
 obtain⟨v1,vs1,d1,ds1,p1,q1,rfl,rfl,rfl,h1,r1⟩:=trodAll_cons r0
 obtain⟨v2,vs2,d2,ds2,p2,q2,rfl,rfl,rfl,h2,r2⟩:=trodAll_cons r1
 obtain⟨rfl,rfl,rfl⟩:=trodAll_nil r2
 obtain rfl:args=#[v0,v1,v2]:=by cases args;simp_all
 obtain⟨rfl,rfl⟩:=trodVars_none hV
 have s0:=s7 (.sl (.st [.int .u8,.int .i64,.int .i64,.str,.sl (.int .i64) 8]) 64) (by kernel_rfl) (hval 0 _ _ rfl rfl) (sO hsz 0 (.sl (.st [.int .u8,.int .i64,.int .i64,.str,.sl (.int .i64) 8]) 64) (by kernel_rfl) rfl rfl h0)
 have s1:=s7 (.int .u8) (by kernel_rfl) (hval 1 _ _ rfl rfl) (sO hsz 1 (.int .u8) (by kernel_rfl) rfl rfl h1)
 have s2:=s7 (.int .u8) (by kernel_rfl) (hval 2 _ _ rfl rfl) (sO hsz 2 (.int .u8) (by kernel_rfl) rfl rfl h2)
 clear hsz
 obtain⟨AA,n_,ac,xs_,hE,atAA,e_,lAA,bAA,p_⟩:=s0
 cases hE
 obtain⟨acs,e1_,e2_,wAA⟩:=xN (T:=ActT) acC (fun t=>ActOk t) 5 n_ xs_ e_ (fun i_ hi_=>by
  have g_:=p_ i_ hi_
  obtain⟨a0_,b0_,e0_,s0_,g_⟩:=g_
  obtain⟨a1_,b1_,e1_,s1_,g_⟩:=g_
  obtain⟨a2_,b2_,e2_,s2_,g_⟩:=g_
  obtain⟨a3_,b3_,e3_,s3_,g_⟩:=g_
  obtain⟨a4_,b4_,e4_,s4_,g0_⟩:=g_
  obtain⟨wt,f0_,wwt⟩:=s0_
  obtain⟨pg,f1_,wpg⟩:=s1_
  obtain⟨sl,f2_,wsl⟩:=s2_
  obtain⟨itm,f3_,zitm⟩:=s3_
  obtain⟨QA,qc,qs,f4_,atQA,lQA,bQA,wQA⟩:=D4 s4_
  have g_: _= _:=e0_
  rw[f0_,e1_,f1_,e2_,f2_,e3_,f3_,e4_,f4_,show b4_=[] from g0_] at g_
  exact⟨(⟨wt,pg,sl,itm,QA,qs.length,qc⟩:ActT),g_,⟨HM wwt,xq wpg,xq wsl,(by show itm.size<= _;omega),(by show (qs.length:Int)<= _;omega)⟩⟩)
 subst e1_ e2_
 obtain⟨a,hE,wa⟩:=s1
 cases hE
 obtain⟨b,hE,wb⟩:=s2
 cases hE
 refine(so AA ac acs a b W atAA wAA (by omega) (HM wa) (HM wb)).mono fun e W' ⟨he,hx⟩=>?_
 subst he
 exact⟨_,rfl,GH Ju (by rw[Tryz.params7];exact(by decide+kernel)) rfl Tryz.underlying4 hW' rfl rfl rfl rfl hx⟩
theorem over:Rows.storeBuffersRow.holds Tryz.pinned (OpenSpec.ofChange Rows.storeBuffersSpec):=
 OpenClaim.holds_of_wide 7 Tryz.f7 rfl rfl rfl rfl rfl rfl rfl ⟨rfl,rfl,rfl,rfl,rfl⟩ rfl rfl rfl rfl rfl (by kernel_rfl) Tryz.func7 (by kernel_rfl)
  (of_decide_eq_true (by kernel_rfl)) (by unfold Func.isWrapper;first|(rw[if_pos (by decide+kernel)];kernel_rfl)|(rw[if_neg (by decide+kernel)];exact⟨rfl,rfl⟩))
  (fun os started H enc _=>lifted os started H enc)
theorem proved:Rows.StoreBuffersSaid:=
 over
end
end Go.Proofs.YtcdjaepgahbhfaaGreat.storeBuffers
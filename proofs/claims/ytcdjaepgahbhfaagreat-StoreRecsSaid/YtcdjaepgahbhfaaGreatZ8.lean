import Derived.Test.YtcdjaepgahbhfaaGreatZ7
import Derived.Test.YtcdjaepgahbhfaaGreatRows
import Derived.ProofKit
import Derived.OpenShut
import Derived.Below
import Derived.ChangeSame
import Derived.WideKeyArgs
import Derived.SliceStrings
import Derived.ChangeMaps5
import Derived.Lib.SmallJoins
import Derived.SizedLaws
import Derived.WalkKit
set_option linter.unusedVariables false
set_option linter.unusedSimpArgs false
set_option maxRecDepth 100000
set_option maxHeartbeats 16000000
namespace Go.Proofs.YtcdjaepgahbhfaaGreat
variable{L:List RecM}{P:Program}{Q:Exit->Act->World->Prop}{W W' w w0:World}{bor:List Nat}{c db m p sb:Nat}{told:Int->Bool}{v:Value}
section
open Go.RowKit
theorem D7{fp:List Nat}{n:Int}(h:0<=n/\n<(p:Int))(hB:(eNi sb db L told p c fp).holds w)(hlt:∀k∈fp,k<w.heap.size)(hc:c<=800000):
  Calls Tryz.prog 79 #[po sb 0,.int .i64 n] w (fun e w'=>e= .returned (.int .i64 0)/\∃fp',St w fp [eNi sb db L told p (c+4) fp'] w'):=by
 have hp:(p:Int)<=400:=by obtain⟨S,hN,_⟩:=hB;have:=hN.ok.pgs;rw[hN.ep] at this;omega
 have h1:=ui n hB hlt hc (by constructor<;>omega)
 rw[if_pos h] at h1;exact h1
theorem BS{fp:List Nat}{n:Int}(hn: -100<=n/\n<=100)(h:¬(0<=n/\n<(p:Int)))(hB:(eNi sb db L told p c fp).holds w)(hlt:∀k∈fp,k<w.heap.size)(hc:c<=800000):
  Calls Tryz.prog 79 #[po sb 0,.int .i64 n] w (fun e w'=>e= .returned (.int .i64 22)/\∃fp',St w fp [eNi sb db L told p (c+4) fp'] w'):=by
 have h1:=ui n hB hlt hc (by constructor<;>omega)
 rw[if_neg h] at h1;exact h1
theorem JZ(xb:Nat)(bufs:Int)(L:List RecM)(told:Int->Bool)(c:Nat)(a:ActT)(fp:List Nat)(w:World)(hB:(eWd xb bufs L told c fp).holds w)(hlt:∀k∈fp,k<w.heap.size)(ha:ActOk a)(hc:c<=700000)(hwh:a.what % 10<8):
  Calls Tryz.prog 30 #[po xb 0,.agg #[.int .u8 a.what,.int .i64 a.page,.int .i64 a.slot,.string a.item,.slice a.QA a.qn a.qc]] w ((fun e w2=>e= .returned (.bool true)/\∃fp2,St w fp [eWd xb bufs (gB (L,told) a).1 (gB (L,told) a).2 (c+700) fp2] w2)):=by
 have st1:St w fp [eWd xb bufs L told c fp] w:=St.lend hB (vo _ _ _ _ _ _) hlt
 obtain⟨hw,hpg,hsl,hit,hq⟩:=id ha
 have hc:c<=800000:=by omega
 have Ug:=Int.lt_tmod_of_pos a.page (b:=7) (by decide)
 have Tu:=Int.tmod_lt_of_pos a.page (b:=7) (by decide)
 go_enter Tryz.func30,Tryz.ntmps30
 have aj:=st1
 refine wq (sqr ?_)
 refine b9 #[.int .u8 a.what,vi a.page,vi a.slot,.string a.item,.slice a.QA a.qn a.qc] aj fun cR W1 ay=>?_
 refine sqp [.k 4 (.bool false)] ?_
 refine aa (wq (wq ?_))
 obtain⟨safe,db,sb,rb,fps,fpr,hw3_⟩:=ay.unwd
 obtain⟨hL,hz⟩:=NF (hw3_.get 1 rfl).holds
 refine sqr (sqp [.k 17 (vp cR)] ?_)
 refine aq 3 hw3_ ?_
 refine sqp [sRe 19 .u8 a.what 10 (a.what % 10) (Int.tmod_eq_emod_of_nonneg (by omega))] ?_
 refine aa (wp_block ?_)
 refine ma (fun t_ az W=>∃b30:Bool,b30=decide (a.what % 10<=3)/\az=⟨(ovr (jv az) [(30,30,0,[.bool b30]),(0,31,4,[])] t_).toArray,[]⟩/\St w fp [eB xb 34 #[vp db,vp sb,vp rb,vi bufs,vi safe],eNi sb db L told 5 c fps,eRf rb L told 5 fpr,eB cR 60 #[.int .u8 a.what,vi a.page,vi a.slot,.string a.item,.slice a.QA a.qn a.qc]] W) ?_ ?_
 refine wq (sqr (sqp [.k 31 (.bool ((a.what % 10)==0)),.m 30 31] ?_))
 refine aa (wbs (fun kE=>?_) fun kE=>?_)
 have pC:=beq_iff_eq.1 kE
 refine wp_skip (aa ?_)
 exact⟨(a.what % 10)==0,(by rw[Bool.eq_iff_iff];simp only[beq_iff_eq,decide_eq_true_eq];omega),(by kernel_rfl),hw3_.pk [0,1,2,3]⟩
 have pC:=beq_eq_false_iff_ne.1 kE
 refine wq (sqr (sqp [.k 32 (.bool ((a.what % 10)==1)),.m 30 32] ?_))
 refine aa (wbs (fun gl=>?_) fun gl=>?_)
 have jk:=beq_iff_eq.1 gl
 refine wp_skip (aa ?_)
 exact⟨(a.what % 10)==1,(by rw[Bool.eq_iff_iff];simp only[beq_iff_eq,decide_eq_true_eq];omega),(by kernel_rfl),hw3_.pk [0,1,2,3]⟩
 have jk:=beq_eq_false_iff_ne.1 gl
 refine wq (sqr (sqp [.k 33 (.bool ((a.what % 10)==2)),.m 30 33] ?_))
 refine aa (wbs (fun dc=>?_) fun dc=>?_)
 have l9:=beq_iff_eq.1 dc
 refine wp_skip (aa ?_)
 exact⟨(a.what % 10)==2,(by rw[Bool.eq_iff_iff];simp only[beq_iff_eq,decide_eq_true_eq];omega),(by kernel_rfl),hw3_.pk [0,1,2,3]⟩
 have l9:=beq_eq_false_iff_ne.1 dc
 refine sqr (sqp [.k 34 (.bool ((a.what % 10)==3)),.m 30 34] ?_)
 refine aa ?_
 exact⟨(a.what % 10)==3,(by rw[Bool.eq_iff_iff];simp only[beq_iff_eq,decide_eq_true_eq];omega),(by kernel_rfl),hw3_.pk [0,1,2,3]⟩
 rintro a7 W7 ⟨b30,hb30,hj_,aQ⟩
 refine ovz hj_ fun Fk=>?_
 refine wbs (fun kf=>?_) fun kf=>?_
 refine wq (aG [0,1,3,0,8,31,0,127] [[],[3],[],[3],[],[],[],[5]] [[],[],[],[],[4],[],[5],[6]] [[],[],[],[],[],[],[],[5]] [.k 35 (po cR 1),.c 36 (vi a.page),tAn 37 .i64 a.page 127 (a.page % 128) (vW a.page 7 (by decide)),.c 38 (.agg #[.int .u8 a.what,vi a.page,vi a.slot,.string a.item,.slice a.QA a.qn a.qc]),.a 39,.a 40,.a 5,.n] (fun ix f d X=>match ix with|0|1|2|3=>True|4=>f 39= .slice (sA (d 39)) ((eF a).length) (sC (d 39))/\X 4=eO 84 3 (.slice (sA (d 39)) ((eF a).length) (sC (d 39))) ((eF a).length) ((eF a).flatMap edC)|5=>f 40= .agg #[vi 1,vi (a.page % 128),vi 0,sn,sn,.slice (sA (d 39)) ((eF a).length) (sC (d 39)),sn,.string ByteArray.empty]|6=>f 5=vp (pb (d 5))/\X 5=eB (pb (d 5)) 27 #[vi 0,vi 0,vi 0,sn,sn,sn,sn,.string ByteArray.empty]|7=>X 6=eB (pb (d 5)) 27 #[vi 1,vi (a.page % 128),vi 0,sn,sn,.slice (sA (d 39)) ((eF a).length) (sC (d 39)),sn,.string ByteArray.empty]|_=>True) [0,1,2,3,4,6] [1,3,4,5,6,7] [(5,6,1,6),(29,0,6,35)] aQ ?_ ?_ ?_)
 exact fun ix _ _ _ _ _ _ hs hb hx h=>match ix,h with
 |4,h=>by dsimp only;rw[<-hs 39 rfl,<-hb 39 rfl,<-hx 4 rfl];exact h
 |5,h=>by dsimp only;rw[<-hs 40 rfl,<-hb 39 rfl];exact h
 |6,h=>by dsimp only;rw[<-hs 5 rfl,<-hb 5 rfl,<-hx 5 rfl];exact h
 |7,h=>by dsimp only;rw[<-hb 5 rfl,<-hb 39 rfl,<-hx 6 rfl];exact h
 |0,_|1,_|2,_|3,_|_+8,_=>trivial
 refine⟨?_,?_,?_,?_,?_,?_,trivial⟩
 exact xs4 rfl id fun cx=>ae rfl (by kernel_rfl) (cx.an 0) ((cx.bi 3 rfl).cell 1)
 exact xs4 rfl id fun cx=>ce (n:=5) rfl (by kernel_rfl) (by kernel_rfl) (cx.ou 3) (cx.bi 3 rfl) (nle rfl) rfl
 refine svA fun g d W X cx=>?_
 refine am.call (au (args:=#[.agg #[.int .u8 a.what,vi a.page,vi a.slot,.string a.item,.slice a.QA a.qn a.qc]]) rfl cx.sees rfl (by kernel_rfl) (ax (cx.an 3))) ?_
 refine(Ca a _ ha).mono ?_
 rintro e W1 ⟨A4,c4,rfl,ho,hx⟩
 refine⟨_,rfl,bR [eO 84 3 (.slice A4 (eF a).length c4) (eF a).length ((eF a).flatMap edC)] rfl rfl hx (one_new (cu ho)) (List.pairwise_singleton _ _) (fun f i X' hs hb hv hN=>?_)⟩
 have aJ:=(hv 39 rfl).1;have aV:=(hv 39 rfl).2
 exact⟨aJ.trans (by rw[aV];exact rfl),(by rw[aV];exact(List.cons.inj hN).1)⟩
 exact sv rfl rfl rfl rfl rfl _ (fun _ _ _ h=>h) (fun d i h=>by rw[h 39 (by decide)]) fun g d W X cx=>ke rfl (pmc (cx.co _) (pmc (cx.an 2) (pmc (dTn (cx.an 4)).1 pmn))) (by kernel_rfl)
 refine svA fun g d W X cx=>?_
 exact dm (cs:=#[vi 0,vi 0,vi 0,sn,sn,sn,sn,.string ByteArray.empty]) rfl (by kernel_rfl) rfl rfl (fun _ _ _ _ _=> .intro)
 refine svA fun g d W X cx=>?_
 exact bx (n:=8) rfl (dTn (cx.an 6)).1 (dTn (cx.an 5)) (by kernel_rfl) (by kernel_rfl) (by kernel_rfl) cx (dTn (cx.an 6)).2 rfl (nle rfl) (by kernel_rfl) rfl rfl rfl (fun f i X' hs hb hx=>by rw[hb 5,hb 39];exact hx)
 intro f d X IZ hD iI fr aD
 simp only[exq 4 ((dTn (hD 4 lq)).2),exq 6 ((dTn (hD 7 lq)))] at iI
 simp only[ed 39 ((dTn (hD 4 lq)).1),ed 40 ((dTn (hD 5 lq))),ed 5 ((dTn (hD 6 lq)).1)] at aD
 generalize sA (d 39)=m8,sC (d 39)=m9,pb (d 5)=R0 at iI aD
 clear hD;subst aD;clear f d X
 refine aa (wq ?_)
 have hw3:a.what % 10<=3:=by have h_:=kf;rw[hb30] at h_;exact of_decide_eq_true h_
 obtain⟨rs,rr,hrs,hsub,ho21_⟩:=iI.u2.unrf
 obtain⟨QA,qc,TA,tc,hq22_⟩:=ho21_.unrq
 refine sqr (sqp [.m 41 0,.k 42 (vp xb),.k 43 (po xb 2)] ?_)
 refine aq 4 hq22_ ?_
 refine sqp [.k 45 (vp rb),.k 46 (po rb 1)] ?_
 refine aq 0 hq22_ ?_
 refine sqp [.k 48 (vi ((rs.length:Int))),.m 6 48] ?_
 refine aa (wq ?_)
 obtain⟨fp32_,hr32_⟩:=St.rq (rs:=rs) (told:=told) (p:=5) (rr:=rr) (hq22_)
 have OO:=St.rf (L:=L) hr32_ (hrs) (hsub)
 refine aG [0,1,3,7,0,31,63,127,127,255,1023] [[],[],[],[1],[5],[2,4]] [[],[],[],[],[],[6]] [[],[],[],[],[],[2]] [.k 50 (vp xb),.k 51 (vp xb),.k 52 (po xb 1),.c 53 (vp sb),.c 54 (.agg #[vi 1,vi (a.page % 128),vi 0,sn,sn,.slice m8 ((eF a).length) m9,sn,.string ByteArray.empty]),.a 55,.c 49 (.tuple #[vi ((rfD 5 L told (dt a)).2.1),vi ((rfE 5 L (dt a)))]),.k 56 (vi ((rfD 5 L told (dt a)).2.1)),.k 57 (vi ((rfE 5 L (dt a)))),.k 7 (vi ((rfD 5 L told (dt a)).2.1)),.k 8 (vi ((rfE 5 L (dt a))))] (fun ix f d X=>match ix with|0|1|2|3|4=>True|5=>f 55= .tuple #[vi ((rfD 5 L told (dt a)).2.1),vi ((rfE 5 L (dt a)))]/\X 6=eNi sb db ((rfD 5 L told (dt a)).1) ((rfD 5 L told (dt a)).2.2.2) 5 (c+700) ((X 6).fp)|_=>True) [0,1,3,4,5,6] [3,4,5,6] [(7,9,2,9),(40,6,1,41),(0,0,6,6),(0,7,2,2)] OO ?_ ?_ ?_
 exact fun ix _ _ _ _ _ _ hs hb hx h=>match ix,h with
 |5,h=>by dsimp only;rw[<-hs 55 rfl,<-hx 6 rfl];exact h
 |0,_|1,_|2,_|3,_|4,_|_+6,_=>trivial
 refine⟨?_,?_,?_,?_,trivial⟩
 exact xs4 rfl id fun cx=>ae rfl (by kernel_rfl) (cx.an 2) ((cx.bi 1 rfl).cell 1)
 exact xs4 rfl id fun cx=>ce (n:=8) rfl (by kernel_rfl) (by kernel_rfl) (cx.ou 5) (cx.bi 5 rfl) (nle rfl) rfl
 refine svA fun g d W X cx=>?_
 refine am.call (au (args:=#[vp sb,.agg #[vi 1,vi (a.page % 128),vi 0,sn,sn,.slice m8 ((eF a).length) m9,sn,.string ByteArray.empty]]) rfl cx.sees rfl (by kernel_rfl) (aM (cx.an 3) (cx.an 4))) ?_
 refine(A5 (L:=L) (dt a) _ _ (CtxV.holdF cx (cx.init 2 _ rfl) rfl) (CtxV.ltF cx (cx.init 2 _ rfl) rfl) hc (cx.keepAt (cx.init 4 _ rfl) (cx.init 2 _ rfl) rfl rfl (by decide)) (by show (eF a).length<= _;have:=yh a;omega) (wI a) (by show (0:Nat)<= _;omega)).mono ?_
 rintro e W1 ⟨rfl,fp4,aT⟩
 refine⟨_,rfl,aK (E:=eNi sb db L told 5 c fps) [eNi sb db ((rfD 5 L told (dt a)).1) ((rfD 5 L told (dt a)).2.2.2) 5 (c+700) fp4] (cx.init 2 _ rfl) rfl rfl aT (fun f i X' hs hb hv hN=>?_)⟩
 have aJ:=(hv 55 rfl).1;have aV:=(hv 55 rfl).2
 exact⟨aJ.trans rfl,fu ((List.cons.inj hN).1)⟩
 exact xs4 rfl id fun cx=>dj rfl (dTn (cx.an 5)).1
 intro f d X wW hD eo fr aD
 have Ns:X 6= _:=(dTn (hD 5 lq)).2
 obtain⟨R1,z6⟩:∃z,(X 6).fp=z:=⟨_,rfl⟩
 rw[z6] at Ns
 clear z6
 simp only[Ns] at eo
 simp only[ed 55 ((dTn (hD 5 lq)).1)] at aD
 clear hD Ns;subst aD;clear f d X
 refine aa (wq ?_)
 obtain⟨fg35_,hg35_⟩:=St.rh (t:=(⟨dt a,m8,m9⟩:RcT)) eo.u3
 refine aG [0,1,3,7,0,31,0,127] [[],[],[],[1],[3],[0],[],[6]] [[],[],[],[],[],[5],[6],[7]] [[],[],[],[],[],[0],[],[6]] [.k 58 (vp xb),.k 59 (vp xb),.k 60 (po xb 2),.c 61 (vp rb),.c 62 (.agg #[vi 1,vi (a.page % 128),vi 0,sn,sn,.slice m8 ((eF a).length) m9,sn,.string ByteArray.empty]),.a 63,.a 9,.n] (fun ix f d X=>match ix with|0|1|2|3|4=>True|5=>f 63= .agg #[vi ((rfD 5 L told (dt a)).2.1),vi ((rfE 5 L (dt a)))]/\X 5=eRf rb ((rfD 5 L told (dt a)).1) ((rfD 5 L told (dt a)).2.2.2) 5 ((X 5).fp)|6=>f 9=vp (pb (d 9))/\X 6=eB (pb (d 9)) 129 #[vi 0,vi 0]|7=>X 7=eB (pb (d 9)) 129 #[vi ((rfD 5 L told (dt a)).2.1),vi ((rfE 5 L (dt a)))]|_=>True) [1,2,3,4,5,7] [3,4,5,6,7] [(9,6,1,10),(48,0,6,54)] hg35_ ?_ ?_ ?_
 exact fun ix _ _ _ _ _ _ hs hb hx h=>match ix,h with
 |5,h=>by dsimp only;rw[<-hs 63 rfl,<-hx 5 rfl];exact h
 |6,h=>by dsimp only;rw[<-hs 9 rfl,<-hb 9 rfl,<-hx 6 rfl];exact h
 |7,h=>by dsimp only;rw[<-hb 9 rfl,<-hx 7 rfl];exact h
 |0,_|1,_|2,_|3,_|4,_|_+8,_=>trivial
 refine⟨?_,?_,?_,?_,?_,trivial⟩
 exact xs4 rfl id fun cx=>ae rfl (by kernel_rfl) (cx.an 2) ((cx.bi 1 rfl).cell 2)
 exact xs4 rfl id fun cx=>ce (n:=8) rfl (by kernel_rfl) (by kernel_rfl) (cx.ou 5) (cx.bi 3 rfl) (nle rfl) rfl
 refine svA fun g d W X cx=>?_
 refine am.call (au (args:=#[vp rb,.agg #[vi 1,vi (a.page % 128),vi 0,sn,sn,.slice m8 ((eF a).length) m9,sn,.string ByteArray.empty]]) rfl cx.sees rfl (by kernel_rfl) (aM (cx.an 3) (cx.an 4))) ?_
 refine(DT rb L told 5 (⟨dt a,m8,m9⟩:RcT) _ _ (CtxV.holdF cx (cx.init 0 _ rfl) rfl) (CtxV.ltF cx (cx.init 0 _ rfl) rfl) hL hz (by decide) (by show (eF a).length<= _;have:=yh a;omega) (wI a) (by show (0:Nat)<= _;omega)).mono ?_
 rintro e W1 ⟨rfl,fp4,aT⟩
 refine⟨_,rfl,aK (E:=eRh rb L told 5 (⟨dt a,m8,m9⟩:RcT) fg35_) [eRf rb ((rfD 5 L told (dt a)).1) ((rfD 5 L told (dt a)).2.2.2) 5 fp4] (cx.init 0 _ rfl) rfl rfl aT (fun f i X' hs hb hv hN=>?_)⟩
 have aJ:=(hv 63 rfl).1;have aV:=(hv 63 rfl).2
 exact⟨aJ.trans rfl,sY ((List.cons.inj hN).1)⟩
 refine svA fun g d W X cx=>?_
 exact dm (cs:=#[vi 0,vi 0]) rfl (by kernel_rfl) rfl rfl (fun _ _ _ _ _=> .intro)
 refine svA fun g d W X cx=>?_
 exact bx (n:=2) rfl (dTn (cx.an 6)).1 (dTn (cx.an 5)).1 (by kernel_rfl) (by kernel_rfl) (by kernel_rfl) cx (dTn (cx.an 6)).2 rfl (nle rfl) (by kernel_rfl) rfl rfl rfl (fun f i X' hs hb hx=>by rw[hb 9];exact hx)
 intro f d X zb hD eK fr aD
 obtain⟨Jc,tq⟩:∃z,pb (d 9)=z:=⟨_,rfl⟩
 have zw:X 5= _:=(dTn (hD 5 lq)).2
 obtain⟨R2,z7⟩:∃z,(X 5).fp=z:=⟨_,rfl⟩
 rw[z7] at zw
 clear z7
 simp only[zw,exq 7 ((dTn (hD 7 lq))),tq] at eK
 simp only[ed 63 ((dTn (hD 5 lq)).1),ed 9 ((dTn (hD 6 lq)).1),tq] at aD
 clear hD zw tq;subst aD;clear f d X
 refine aa (wq (wq (sqr (sqp [.m 64 0,.k 65 (vp xb),.k 66 (vp xb)] ?_))))
 refine aq 0 eK ?_
 refine sqk (.bool true) eK (fun cx=>⟨_,mg (CtxV.holdF cx (cx.init 3 _ rfl) rfl),(ax (cx.ou 67))⟩) fun Fe gZ=>?_
 refine sqp [.k 69 (.bool false)] ?_
 refine aa (wcf rfl (wp_skip (aa (wq (sqr (sqp [.m 96 8,.k 97 (po Jc 1)] ?_))))))
 refine aq 5 gZ ?_
 have hd47:((rfE 5 L (dt a)) != (rfE 5 L (dt a)))=false:=(by simp)
 refine sqp [.e 99 (.bool ((rfE 5 L (dt a)) != (rfE 5 L (dt a)))) (.bool false) (congrArg Value.bool hd47),.k 100 (.bool false)] ?_
 refine c7 100 [101,102,103,104] rfl rfl ?_
 refine sqp [.m 101 7,.k 102 (vp Jc)] ?_
 refine aq 5 gZ ?_
 have hd53:(((rfD 5 L told (dt a)).2.1) != ((rfD 5 L told (dt a)).2.1))=false:=(by simp)
 refine sqp [.e 104 (.bool (((rfD 5 L told (dt a)).2.1) != ((rfD 5 L told (dt a)).2.1))) (.bool false) (congrArg Value.bool hd53)] ?_
 refine sqp [.k 105 (.bool false)] ?_
 refine aa (wcf rfl (wp_skip (av (aa (wq (sqr (sqp [.k 4 (.bool true)] ?_)))))))
 refine aa (wp_ret ?_)
 refine bpr (.bool true) (ag Tryz.results30 rpt) ?_
 obtain⟨fw56_,hw56_⟩:=St.wd gZ.u1.c0.u1.c0.u3.c0
 have hE_:gB (L,told) a=((rfD 5 L told (dt a)).1,(rfD 5 L told (dt a)).2.2.2):=if_pos hw3
 obtain⟨fz_,hz_⟩:=hw56_.wdm (c2:=c+700) (by omega)
 exact⟨rfl,_,by rw[hE_];exact hz_⟩
 refine wq ?_
 have hw3n:¬a.what % 10<=3:=by have h_:=kf;rw[hb30] at h_;exact of_decide_eq_false h_
 refine sqr (sqp [.k 107 (.bool ((a.what % 10)==4)),.m 106 107] ?_)
 refine aa (wbs (fun pB=>?_) fun pB=>?_)
 have CJ:=beq_iff_eq.1 pB
 refine wq (sqr (sqp [.m 108 0,.k 109 (vp xb),.k 110 (po xb 1)] ?_))
 refine aq 0 aQ ?_
 refine bM (fun X_=>X_.fp) (vi ((frF 5 L told))) (fun Jd=>eNi sb db L (frT 5 L told) 5 (c+3*5+1) Jd) 1 aQ (by
   refine svA fun g d W X cx=>?_
   refine am.call (au (args:=#[vp sb]) rfl cx.sees rfl (by kernel_rfl) (ax (cx.ou 111))) ?_
   refine(oQ (CtxV.holdF cx (cx.init 1 _ rfl) rfl) (CtxV.ltF cx (cx.init 1 _ rfl) rfl) hc).mono ?_
   rintro e W1 ⟨rfl,fp4,aT⟩
   refine⟨_,rfl,aK (E:=eNi sb db L told 5 c fps) [eNi sb db L (frT 5 L told) 5 (c+3*5+1) fp4] (cx.init 1 _ rfl) rfl rfl aT (fun f i X' hs hb hv hN=>?_)⟩
   have aJ:=(hv 112 rfl).1;have aV:=(hv 112 rfl).2
   exact⟨aJ.trans rfl,fu ((List.cons.inj hN).1)⟩) fun Jd MD iJ=>?_
 refine sqp [.m 10 112] ?_
 refine aa (wq (wq (sqr (sqp [.m 113 0,.k 114 (vp xb),.k 115 (vp xb)] ?_))))
 refine aq 0 iJ ?_
 refine sqk (.bool true) iJ (fun cx=>⟨_,mg (CtxV.holdF cx (cx.init 1 _ rfl) rfl),(ax (cx.ou 116))⟩) fun Uh Je=>?_
 refine sqp [.k 118 (.bool false)] ?_
 refine aa (wcf rfl (wp_skip (aa (wq (sqr (sqp [.m 123 10,.m 124 0,.k 125 (vp xb),.k 126 (po xb 2)] ?_))))))
 refine aq 0 Je ?_
 refine bM (fun X_=>X_.fp) (vi ((frF 5 L told))) (fun Jf=>eRf rb L (frT 5 L told) 5 Jf) 2 Je (by
   refine svA fun g d W X cx=>?_
   refine am.call (au (args:=#[vp rb]) rfl cx.sees rfl (by kernel_rfl) (ax (cx.ou 127))) ?_
   refine(x7 rb L told 5 _ _ (CtxV.holdF cx (cx.init 2 _ rfl) rfl) (CtxV.ltF cx (cx.init 2 _ rfl) rfl) hL hz (by decide)).mono ?_
   rintro e W1 ⟨rfl,fp4,aT⟩
   refine⟨_,rfl,aK (E:=eRf rb L told 5 fpr) [eRf rb L (frT 5 L told) 5 fp4] (cx.init 2 _ rfl) rfl rfl aT (fun f i X' hs hb hv hN=>?_)⟩
   have aJ:=(hv 128 rfl).1;have aV:=(hv 128 rfl).2
   exact⟨aJ.trans rfl,sY ((List.cons.inj hN).1)⟩) fun Jf Rz vl=>?_
 have hd79:((frF 5 L told) != (frF 5 L told))=false:=(by simp)
 refine sqp [.e 129 (.bool ((frF 5 L told) != (frF 5 L told))) (.bool false) (congrArg Value.bool hd79)] ?_
 refine aa (wcf rfl (wp_skip (av (aa (wq (sqr (sqp [.k 4 (.bool true)] ?_)))))))
 refine aa (wp_ret ?_)
 refine bpr (.bool true) (ag Tryz.results30 rpt) ?_
 obtain⟨fw81_,hw81_⟩:=St.wd vl.u3.c0
 have hE_:gB (L,told) a=(L,frT 5 L told):=by rw[gB,if_neg (by omega),if_pos (by omega)]
 obtain⟨fz_,hz_⟩:=hw81_.wdm (c2:=c+700) (by omega)
 exact⟨rfl,_,by rw[hE_];exact hz_⟩
 have CJ:=beq_eq_false_iff_ne.1 pB
 refine wq (sqr (sqp [.k 131 (.bool ((a.what % 10)==5)),.m 130 131] ?_))
 refine aa (wbs (fun zr=>?_) fun zr=>?_)
 have CL:=beq_iff_eq.1 zr
 refine wq (sqr (sqp [.m 132 0,.k 133 (vp xb),.k 134 (po xb 1)] ?_))
 refine aq 0 aQ ?_
 refine bM (fun X_=>X_.fp) (vi 0) (fun Jg=>eNi sb db L told 5 c Jg) 1 aQ (by
   refine svA fun g d W X cx=>?_
   refine am.call (au (args:=#[vp sb]) rfl cx.sees rfl (by kernel_rfl) (ax (cx.ou 135))) ?_
   refine(BG (CtxV.holdF cx (cx.init 1 _ rfl) rfl) (CtxV.ltF cx (cx.init 1 _ rfl) rfl)).mono ?_
   rintro e W1 ⟨rfl,fp4,aT⟩
   refine⟨_,rfl,aK (E:=eNi sb db L told 5 c fps) [eNi sb db L told 5 c fp4] (cx.init 1 _ rfl) rfl rfl aT (fun f i X' hs hb hv hN=>?_)⟩
   have aJ:=(hv 136 rfl).1;have aV:=(hv 136 rfl).2
   exact⟨aJ.trans rfl,fu ((List.cons.inj hN).1)⟩) fun Jg Mt l8=>?_
 refine sqp [.m 11 136] ?_
 refine aa (wq (wq (sqr (sqp [.m 137 0,.k 138 (vp xb),.k 139 (vp xb)] ?_))))
 refine aq 0 l8 ?_
 refine sqk (.bool true) l8 (fun cx=>⟨_,mg (CtxV.holdF cx (cx.init 1 _ rfl) rfl),(ax (cx.ou 140))⟩) fun Ui OP=>?_
 refine sqp [.k 142 (.bool false)] ?_
 refine aa (wcf rfl (wp_skip (aa (wq ?_))))
 obtain⟨rs,rr,hrs,hsub,ho97_⟩:=OP.u2.unrf
 obtain⟨QA,qc,TA,tc,hq98_⟩:=ho97_.unrq
 refine sqr (sqp [.m 151 0,.m 152 0,.k 153 (vp xb),.k 154 (po xb 2)] ?_)
 refine aq 4 hq98_ ?_
 refine sqp [.k 156 (vp rb),.k 157 (po rb 1)] ?_
 refine aq 0 hq98_ ?_
 refine sqp [.k 159 (vi ((rs.length:Int))),.k 160 (vp xb),.k 161 (po xb 4)] ?_
 refine aX (n:=1) 4 #[vp db,vp sb,vp rb,vi bufs,vi ((rs.length:Int))] hq98_ fun Tv Nt=>?_
 refine aa (wq (sqr (sqp [.m 162 11,.k 163 (.bool false)] ?_)))
 refine aa (wcf rfl (wp_skip (av (aa (wq (sqr (sqp [.k 4 (.bool true)] ?_)))))))
 refine aa (wp_ret ?_)
 refine bpr (.bool true) (ag Tryz.results30 rpt) ?_
 obtain⟨fp114_,hr114_⟩:=St.rq (rs:=rs) (told:=told) (p:=5) (rr:=rr) (Nt)
 have Nu:=St.rf (L:=L) hr114_ (hrs) (hsub)
 obtain⟨fw116_,hw116_⟩:=St.wd Nu.u3.c0.u2.u2
 have hE_:gB (L,told) a=(L,told):=by rw[gB,if_neg (by omega),if_neg (by omega),if_pos (by omega)]
 obtain⟨fz_,hz_⟩:=hw116_.wdm (c2:=c+700) (by omega)
 exact⟨rfl,_,by rw[hE_];exact hz_⟩
 have CL:=beq_eq_false_iff_ne.1 zr
 refine wq (sqr (sqp [.k 165 (.bool ((a.what % 10)==6)),.m 164 165] ?_))
 refine aa (wbs (fun uV=>?_) fun uV=>?_)
 have zI:=beq_iff_eq.1 uV
 refine wq (sqr (sqp [.k 166 (po cR 1)] ?_))
 refine aq 3 aQ ?_
 refine sqp [sRe 168 .i64 a.page 7 (a.page.tmod 7) (rfl),sI 169 ((a.page.tmod 7)+5) (by omega),sJ 170 ((a.page.tmod 7+5)+2) (a.page.tmod 7+7) (by omega) (by omega),sRe 171 .i64 (a.page.tmod 7+7) 7 ((a.page.tmod 7+7) % 7) (Int.tmod_eq_emod_of_nonneg (by omega)),sI 172 (((a.page.tmod 7+7) % 7)-1) (by omega),.m 12 172] ?_
 refine aa (wq ?_)
 obtain⟨nW,hnW⟩:∃z,(a.page.tmod 7+7) % 7-1=z:=⟨_,rfl⟩
 rw[hnW]
 have hnb: -100<=nW/\nW<=100:=by omega
 by_cases hnr:0<=nW/\nW<((5:Nat):Int)
 refine sqr (sqp [.m 173 0,.k 174 (vp xb),.k 175 (po xb 1)] ?_)
 refine aq 0 aQ ?_
 refine sqp [.m 177 12] ?_
 refine bM (fun X_=>X_.fp) (vi 0) (fun FJ=>eNi sb db L told 5 (c+4) FJ) 1 aQ (by
   refine svA fun g d W X cx=>?_
   refine am.call (au (args:=#[vp sb,vi nW]) rfl cx.sees rfl (by kernel_rfl) (aM (cx.ou 176) (cx.ou 177))) ?_
   refine(D7 hnr (CtxV.holdF cx (cx.init 1 _ rfl) rfl) (CtxV.ltF cx (cx.init 1 _ rfl) rfl) hc).mono ?_
   rintro e W1 ⟨rfl,fp4,aT⟩
   refine⟨_,rfl,aK (E:=eNi sb db L told 5 c fps) [eNi sb db L told 5 (c+4) fp4] (cx.init 1 _ rfl) rfl rfl aT (fun f i X' hs hb hv hN=>?_)⟩
   have aJ:=(hv 178 rfl).1;have aV:=(hv 178 rfl).2
   exact⟨aJ.trans rfl,fu ((List.cons.inj hN).1)⟩) fun FJ Tw FK=>?_
 refine sqp [.m 13 178] ?_
 refine aa (wq (wq (sqr (sqp [.m 179 0,.k 180 (vp xb),.k 181 (vp xb)] ?_))))
 refine aq 0 FK ?_
 refine sqk (.bool true) FK (fun cx=>⟨_,mg (CtxV.holdF cx (cx.init 1 _ rfl) rfl),(ax (cx.ou 182))⟩) fun Tx Nv=>?_
 refine sqp [.k 184 (.bool false)] ?_
 refine aa (wcf rfl (wp_skip (aa (wq (wq (sqr (sqp [.m 189 12,.k 190 (.bool (decide (nW<0))),.m 191 190] ?_)))))))
 refine sqw 191 [192,193] rfl (fun _=>sqp [.m 192 12,.k 193 (.bool (decide (5<=nW)))] sqe) ?_
 have hd147:((decide (nW<0))||(decide (5<=nW)))=false:=(by simp;omega)
 refine sqp [BX 194 (decide (nW<0)) (decide (5<=nW)) false hd147] ?_
 refine aa (wcf rfl (wp_skip (aa (wq ?_))))
 obtain⟨rs,rr,hrs,hsub,ho148_⟩:=Nv.u2.unrf
 obtain⟨QA,qc,TA,tc,hq149_⟩:=ho148_.unrq
 have hrl:rs.length<=1000000:=by have h_:=congrArg List.length hrs;rw[List.length_map] at h_;have:=tT hL hz;omega
 have hrL:∀t∈rs,bC t.r=true:=fun t ht=>hL _ (hrs ▸ List.mem_map.2 ⟨t,ht,rfl⟩)
 refine aG [0,0,2,6,14,0,32,96,224,480,992,2016,0,8160,16352,32766,65535,131071,262143] [[],[],[],[],[4],[],[],[],[4],[],[],[0],[],[1,3],[],[],[],[],[4]] [[],[],[],[],[],[],[],[],[],[],[],[],[],[7],[],[],[],[],[8]] [[],[],[],[],[],[],[],[],[],[],[],[],[],[],[],[],[],[],[4]] [.k 197 (vp xb),.k 198 (vp xb),.k 199 (vp xb),.k 200 (po xb 4),.c 201 (vi safe),.k 202 (vp xb),.k 203 (vp xb),.k 204 (po xb 2),.c 205 (vp rb),.k 206 (vp rb),.k 207 (po rb 1),.c 208 (.slice QA rs.length qc),.k 209 (vi nW),.a 210,.c 211 (vi ((ak (rs.map RcT.r) nW).2.1)),.c 212 (vi (max safe ((ak (rs.map RcT.r) nW).2.1))),.k 213 (vp xb),.k 214 (po xb 4),.n] (fun ix f d X=>match ix with|0|1|2|3|4|5|6|7|8|9|10|11|12=>True|13=>f 210= .agg #[vi ((ak (rs.map RcT.r) nW).1),vi ((ak (rs.map RcT.r) nW).2.1),.slice (sA (tg (d 210) 2)) ((ak (rs.map RcT.r) nW).2.2.length) (sC (tg (d 210) 2))]/\X 7=eO 9 1 (.slice (sA (tg (d 210) 2)) ((ak (rs.map RcT.r) nW).2.2.length) (sC (tg (d 210) 2))) ((ak (rs.map RcT.r) nW).2.2.length) ((ak (rs.map RcT.r) nW).2.2.map Value.string)|14|15|16|17=>True|18=>X 8=eB xb 34 #[vp db,vp sb,vp rb,vi bufs,vi (max safe ((ak (rs.map RcT.r) nW).2.1))]|_=>True) [0,1,2,3,5,6,7,8] [4,8,11,13,14,15,18] [(197,0,18,215)] hq149_ ?_ ?_ ?_
 exact fun ix _ _ _ _ _ _ hs hb hx h=>match ix,h with
 |13,h=>by dsimp only;rw[<-hs 210 rfl,<-hb 210 rfl,<-hx 7 rfl];exact h
 |18,h=>by dsimp only;rw[<-hx 8 rfl];exact h
 |0,_|1,_|2,_|3,_|4,_|5,_|6,_|7,_|8,_|9,_|10,_|11,_|12,_|14,_|15,_|16,_|17,_|_+19,_=>trivial
 refine⟨?_,?_,?_,?_,?_,?_,?_,trivial⟩
 exact xs4 rfl id fun cx=>ae rfl (by kernel_rfl) (cx.an 3) ((cx.bi 4 rfl).cell 4)
 exact xs4 rfl id fun cx=>ae rfl (by kernel_rfl) (cx.an 7) ((cx.bi 4 rfl).cell 2)
 exact xs4 rfl id fun cx=>ae rfl (by kernel_rfl) (cx.an 10) ((cx.bi 0 rfl).cell 1)
 refine svA fun g d W X cx=>?_
 refine am.call (au (args:=#[.slice QA rs.length qc,vi nW]) rfl cx.sees rfl (by kernel_rfl) (aM (cx.an 11) (cx.an 12))) ?_
 refine(kL _ _ rs nW _ ⟨At.of_ownN (cx.ri 1 rfl),fun t ht=>dI (CtxV.holdF cx (cx.init 3 _ rfl) rfl) (hsub t ht)⟩ hrl hrL).mono ?_
 rintro e W1 ⟨A4,c4,rfl,ho,hx⟩
 refine⟨_,rfl,bR [eO 9 1 (.slice A4 (ak (rs.map RcT.r) nW).2.2.length c4) (ak (rs.map RcT.r) nW).2.2.length ((ak (rs.map RcT.r) nW).2.2.map Value.string)] rfl rfl hx (one_new (cu ho)) (List.pairwise_singleton _ _) (fun f i X' hs hb hv hN=>?_)⟩
 have aJ:=(hv 210 rfl).1;have aV:=(hv 210 rfl).2
 exact⟨aJ.trans (by rw[aV];exact rfl),(by rw[aV];exact(List.cons.inj hN).1)⟩
 exact xs4 rfl id fun cx=>lR rfl (dTn (cx.an 13)).1 (fun _=>by kernel_rfl)
 exact xs4 rfl id fun cx=>jG rfl (cx.an 4) (cx.an 14) rfl
 refine svA fun g d W X cx=>?_
 exact bx (n:=1) rfl (cx.an 17) (cx.an 15) (by kernel_rfl) (by kernel_rfl) (by kernel_rfl) cx (cx.init 4 _ rfl) rfl (nle rfl) (by kernel_rfl) rfl rfl rfl (fun _ _ _ _ _=>id)
 intro f d X Ty hD z8 fr aD
 simp only[exq 7 ((dTn (hD 13 lq)).2),exq 8 ((dTn (hD 18 lq)))] at z8
 simp only[ed 210 ((dTn (hD 13 lq)).1)] at aD
 generalize sA (tg (d 210) 2)=Qa,sC (tg (d 210) 2)=Qb at z8 aD
 clear hD;subst aD;clear f d X
 refine aa (wq (sqr (sqp [.m 215 13,.k 216 (.bool false)] ?_)))
 refine aa (wcf rfl (wp_skip (av (aa (wq (sqr (sqp [.k 4 (.bool true)] ?_)))))))
 refine aa (wp_ret ?_)
 refine bpr (.bool true) (ag Tryz.results30 rpt) ?_
 obtain⟨fp154_,hr154_⟩:=St.rq (rs:=rs) (told:=told) (p:=5) (rr:=rr) (z8)
 have Nw:=St.rf (L:=L) hr154_ (hrs) (hsub)
 obtain⟨fw156_,hw156_⟩:=St.wd Nw.u2.c0.u2.c0.u1.u2
 have hE_:gB (L,told) a=(L,told):=by rw[gB,if_neg (by omega),if_neg (by omega),if_pos (by omega)]
 obtain⟨fz_,hz_⟩:=hw156_.wdm (c2:=c+700) (by omega)
 exact⟨rfl,_,by rw[hE_];exact hz_⟩
 refine sqr (sqp [.m 173 0,.k 174 (vp xb),.k 175 (po xb 1)] ?_)
 refine aq 0 aQ ?_
 refine sqp [.m 177 12] ?_
 refine bM (fun X_=>X_.fp) (vi 22) (fun FL=>eNi sb db L told 5 (c+4) FL) 1 aQ (by
   refine svA fun g d W X cx=>?_
   refine am.call (au (args:=#[vp sb,vi nW]) rfl cx.sees rfl (by kernel_rfl) (aM (cx.ou 176) (cx.ou 177))) ?_
   refine(BS hnb hnr (CtxV.holdF cx (cx.init 1 _ rfl) rfl) (CtxV.ltF cx (cx.init 1 _ rfl) rfl) hc).mono ?_
   rintro e W1 ⟨rfl,fp4,aT⟩
   refine⟨_,rfl,aK (E:=eNi sb db L told 5 c fps) [eNi sb db L told 5 (c+4) fp4] (cx.init 1 _ rfl) rfl rfl aT (fun f i X' hs hb hv hN=>?_)⟩
   have aJ:=(hv 178 rfl).1;have aV:=(hv 178 rfl).2
   exact⟨aJ.trans rfl,fu ((List.cons.inj hN).1)⟩) fun FL Tz FM=>?_
 refine sqp [.m 13 178] ?_
 refine aa (wq (wq (sqr (sqp [.m 179 0,.k 180 (vp xb),.k 181 (vp xb)] ?_))))
 refine aq 0 FM ?_
 refine sqk (.bool true) FM (fun cx=>⟨_,mg (CtxV.holdF cx (cx.init 1 _ rfl) rfl),(ax (cx.ou 182))⟩) fun PU uX=>?_
 refine sqp [.k 184 (.bool false)] ?_
 refine aa (wcf rfl (wp_skip (aa (wq (wq (sqr (sqp [.m 189 12,.k 190 (.bool (decide (nW<0))),.m 191 190] ?_)))))))
 refine sqw 191 [192,193] rfl (fun _=>sqp [.m 192 12,.k 193 (.bool (decide (5<=nW)))] sqe) ?_
 have hd176:((decide (nW<0))||(decide (5<=nW)))=true:=(by simp;omega)
 refine sqp [BX 194 (decide (nW<0)) (decide (5<=nW)) true hd176] ?_
 refine aa (wct rfl (wq (sqr (sqp [.m 195 13,.k 196 (.bool true),.k 4 (.bool true)] ?_))))
 refine aa (wp_ret (ai (bb (ai ?_))))
 refine bpr (.bool true) (ag Tryz.results30 rpt) ?_
 obtain⟨fw180_,hw180_⟩:=St.wd uX.u3.c0
 have hE_:gB (L,told) a=(L,told):=by rw[gB,if_neg (by omega),if_neg (by omega),if_pos (by omega)]
 obtain⟨fz_,hz_⟩:=hw180_.wdm (c2:=c+700) (by omega)
 exact⟨rfl,_,by rw[hE_];exact hz_⟩
 have zI:=beq_eq_false_iff_ne.1 uV
 refine wq (sqr ?_)
 have hd182:((a.what % 10)==7)=true:=(beq_iff_eq.2 (by omega))
 refine sqp [.e 218 (.bool ((a.what % 10)==7)) (.bool true) (congrArg Value.bool hd182),.k 217 (.bool true)] ?_
 refine aa (wct rfl (wq (sqr (sqp [.k 219 (po cR 3)] ?_))))
 refine aq 3 aQ ?_
 refine sqp [.k 221 (po cR 3)] ?_
 refine aq 3 aQ ?_
 refine sqp [.k 223 (vi ((a.item.size:Int)))] ?_
 refine sql (vi (min (a.item.size:Int) 50)) aQ (fun cx=>jI rfl (cx.ou 223) (cx.co _) (rfl)) ?_
 refine sql (.string (a.item.extract 0 ((min (a.item.size:Int) 50).toNat))) aQ (fun cx=>gO (l:=(min (a.item.size:Int) 50).toNat) rfl (by kernel_rfl) (cx.ou 220) (cx.ou 224) (by omega) (by omega)) ?_
 refine sqp [.m 14 225] ?_
 refine aa (wq ?_)
 obtain⟨nt,hnt⟩:∃z,ntA a=z:=⟨_,rfl⟩
 have hnz:nt.size<=50:=hnt ▸ HY a
 have hnt2:a.item.extract 0 ((min (a.item.size:Int) 50).toNat)=nt:=hnt
 rw[hnt2]
 refine sqr (sqp [.m 226 0,.k 227 (vp xb),.k 228 (po xb 1)] ?_)
 refine aq 0 aQ ?_
 refine sqp [.m 230 14] ?_
 refine bM (fun X_=>X_.fp) (vi ((ga L nt))) (fun FN=>eNi sb db (ckL L nt) told 5 (c+500) FN) 1 aQ (by
   refine svA fun g d W X cx=>?_
   refine am.call (au (args:=#[vp sb,.string nt]) rfl cx.sees rfl (by kernel_rfl) (aM (cx.ou 229) (cx.ou 230))) ?_
   refine(B0 nt (CtxV.holdF cx (cx.init 1 _ rfl) rfl) (CtxV.ltF cx (cx.init 1 _ rfl) rfl) hc (by omega)).mono ?_
   rintro e W1 ⟨rfl,fp4,aT⟩
   refine⟨_,rfl,aK (E:=eNi sb db L told 5 c fps) [eNi sb db (ckL L nt) told 5 (c+500) fp4] (cx.init 1 _ rfl) rfl rfl aT (fun f i X' hs hb hv hN=>?_)⟩
   have aJ:=(hv 231 rfl).1;have aV:=(hv 231 rfl).2
   exact⟨aJ.trans rfl,fu ((List.cons.inj hN).1)⟩) fun FN TB FO=>?_
 refine sqp [.m 15 231] ?_
 refine aa (wq (sqr (sqp [.m 232 0,.k 233 (vp xb),.k 234 (po xb 2)] ?_)))
 refine aq 0 FO ?_
 refine sqp [.m 236 14] ?_
 refine bM (fun X_=>X_.fp) (vi ((ga L nt))) (fun FP=>eRf rb (ckL L nt) told 5 FP) 2 FO (by
   refine svA fun g d W X cx=>?_
   refine am.call (au (args:=#[vp rb,.string nt]) rfl cx.sees rfl (by kernel_rfl) (aM (cx.ou 235) (cx.ou 236))) ?_
   refine(yp rb L told 5 nt _ _ (CtxV.holdF cx (cx.init 2 _ rfl) rfl) (CtxV.ltF cx (cx.init 2 _ rfl) rfl) hL hz (by omega)).mono ?_
   rintro e W1 ⟨rfl,fp4,aT⟩
   refine⟨_,rfl,aK (E:=eRf rb L told 5 fpr) [eRf rb (ckL L nt) told 5 fp4] (cx.init 2 _ rfl) rfl rfl aT (fun f i X' hs hb hv hN=>?_)⟩
   have aJ:=(hv 237 rfl).1;have aV:=(hv 237 rfl).2
   exact⟨aJ.trans rfl,sY ((List.cons.inj hN).1)⟩) fun FP TC FQ=>?_
 refine sqp [.m 16 237] ?_
 refine aa (wq (wq (sqr (sqp [.m 238 0,.k 239 (vp xb),.k 240 (vp xb)] ?_))))
 refine aq 0 FQ ?_
 refine sqk (.bool true) FQ (fun cx=>⟨_,mg (CtxV.holdF cx (cx.init 1 _ rfl) rfl),(ax (cx.ou 241))⟩) fun TD Nx=>?_
 refine sqp [.k 243 (.bool false)] ?_
 refine aa (wcf rfl (wp_skip (aa (wq (wq (sqr ?_))))))
 have hd215:((ga L nt) != (ga L nt))=false:=(by simp)
 refine sqp [.m 252 15,.m 253 16,.e 254 (.bool ((ga L nt) != (ga L nt))) (.bool false) (congrArg Value.bool hd215)] ?_
 refine aa (wcf rfl (wp_skip (aa ?_)))
 obtain⟨rs,rr,hrs,hsub,ho216_⟩:=Nx.u2.unrf
 obtain⟨QA,qc,TA,tc,hq217_⟩:=ho216_.unrq
 refine sqr (sqp [.m 255 0,.m 256 0,.k 257 (vp xb),.k 258 (po xb 2)] ?_)
 refine aq 4 hq217_ ?_
 refine sqp [.k 260 (vp rb),.k 261 (po rb 1)] ?_
 refine aq 0 hq217_ ?_
 refine sqp [.k 263 (vi ((rs.length:Int))),.k 264 (vp xb),.k 265 (po xb 4)] ?_
 refine aX (n:=1) 4 #[vp db,vp sb,vp rb,vi bufs,vi ((rs.length:Int))] hq217_ fun TF Ny=>?_
 refine av (aa (wq (sqr (sqp [.k 4 (.bool true)] ?_))))
 refine aa (wp_ret ?_)
 refine bpr (.bool true) (ag Tryz.results30 rpt) ?_
 obtain⟨fp231_,hr231_⟩:=St.rq (rs:=rs) (told:=told) (p:=5) (rr:=rr) (Ny)
 have Nz:=St.rf (L:=(ckL L nt)) hr231_ (hrs) (hsub)
 obtain⟨fw233_,hw233_⟩:=St.wd Nz.u3.c0.u2.u2
 have hE_:gB (L,told) a=(ckL L nt,told):=by rw[gB,if_neg (by omega),if_neg (by omega),if_neg (by omega),hnt]
 obtain⟨fz_,hz_⟩:=hw233_.wdm (c2:=c+700) (by omega)
 exact⟨rfl,_,by rw[hE_];exact hz_⟩
end
section
open Go.RowKit
noncomputable def sd(s:List RecM×(Int->Bool))(acs:List ActT):List RecM×(Int->Bool):=acs.foldl (fun s a=>if a.what % 10<8 then gB s a else s) s
noncomputable def pa(s:List RecM×(Int->Bool))(acs:List ActT):List RecM×(Int->Bool):=sd s (acs.take 25)
theorem wK{s:List RecM×(Int->Bool)}{acs:List ActT}{i:Nat}{a:ActT}(h:acs[i]? =some a):sd s (acs.take (i+1))=if a.what % 10<8 then gB (sd s (acs.take i)) a else sd s (acs.take i):=by
 rw[List.take_add_one,h,sd,sd,List.foldl_append];rfl
def a0:ActT:=⟨0,0,0,⟨#[]⟩,none,0,0⟩
theorem BC(xb:Nat)(bufs:Int)(L:List RecM)(told:Int->Bool)(c:Nat)(AA:Option Addr)(ac:Nat)(acs:List ActT)(fp:List Nat)(w:World)(hB:(eWd xb bufs L told c fp).holds w)(hlt:∀k∈fp,k<w.heap.size)(hA:∀W,Upd fp w W->At W AA (acs.flatMap acC))(hok:∀a∈acs,ActOk a)(hal:acs.length<=100000000000000)(hc:c<=600000):
  Calls Tryz.prog 32 #[po xb 0,.slice AA acs.length ac] w ((fun e w2=>e= .returned (.bool true)/\∃fp2,St w fp [eWd xb bufs (pa (L,told) acs).1 (pa (L,told) acs).2 (c+17500) fp2] w2)):=by
 have st1:St w fp [eWd xb bufs L told c fp] w:=St.lend hB (vo _ _ _ _ _ _) hlt
 go_enter Tryz.func32,Tryz.ntmps32
 have aj:=st1
 refine wq (sqr (sqp [.k 4 (.bool false)] ?_))
 refine aa (wq (wq (sqr (sqp [.k 5 (vi 0)] ?_))))
 refine aa (wp_block ?_)
 refine aN (fun t_ mz az W=>∃i:Nat,∃sL:List RecM,∃sT:Int->Bool,∃ci:Nat,∃fpi:List Nat,i<=acs.length/\i<=25/\(sL,sT)=sd (L,told) (acs.take i)/\ci<=c+700*i/\mz=acs.length-i/\az=⟨(ovr (jv az) [(4,4,1,[vi ((i:Int))]),(0,6,26,[])] t_).toArray,[]⟩/\St w fp [eWd xb bufs sL sT ci fpi] W) (acs.length-0) ?_ ?_
 exact⟨0,L,told,c,fp,Nat.zero_le _,Nat.zero_le _,rfl,by omega,rfl,(by kernel_rfl),aj.pk [0]⟩
 rintro n3 a3 W3 ⟨i,sL,sT,ci,fpi,hi,hi25,hsr,hci,rfl,hj_,aW⟩
 refine ovz hj_ fun Q2=>?_
 refine wq (wq (sqr (sqp [.m 6 5,.m 7 1,.k 8 (vi ((acs.length:Int))),.k 9 (.bool (decide ((i:Int)<(acs.length:Int)))),.m 10 9] ?_)))
 refine sqw 10 [11,12] rfl (fun _=>sqp [.m 11 5,.k 12 (.bool (decide ((i:Int)<25)))] sqe) ?_
 refine sqp [sPa 13 (decide ((i:Int)<(acs.length:Int))) (decide ((i:Int)<25))] ?_
 refine aa (wbs (fun jp=>?_) fun jp=>?_)
 have jC:=jp
 simp only[zB] at jC
 obtain⟨RB,RD⟩:=jC
 refine wp_skip (aa (wq (wp_block (wq ?_))))
 obtain⟨a,hai⟩:∃a,acs[i]? =some a:=⟨_,List.getElem?_eq_getElem (by omega)⟩
 have hao:=hok a (List.mem_of_getElem? hai)
 have haw:=hao.what
 by_cases hlt8:a.what % 10<8
 refine sqr (sqp [.m 16 1,.m 17 5] ?_)
 refine sql (.pointer (some ((ad AA).add (i*5)))) aW (fun cx=>aB (e:=60) (m:=i) (sz:=5) rfl (by kernel_rfl) (by kernel_rfl) (cx.ou 16) (cx.ou 17) (by omega) (by omega) (hA _ cx.upd) (bj (sz:=5) mn (by decide) (by omega))) ?_
 refine sql (.pointer (some ((ad AA).add (i*5+0)))) aW (fun cx=>bt rfl (by kernel_rfl) (cx.ou 18)) ?_
 refine sql (.int .u8 a.what) aW (fun cx=>ae rfl (by kernel_rfl) (cx.ou 19) (At.eltc (f:=acC) (k:=0) mn (hA _ cx.upd) hai rfl)) ?_
 have hd20:(decide (a.what % 10<8))=true:=(decide_eq_true hlt8)
 refine sqp [sRe 21 .u8 a.what 10 (a.what % 10) (Int.tmod_eq_emod_of_nonneg (by omega)),.e 22 (.bool (decide (a.what % 10<8))) (.bool true) (congrArg Value.bool hd20),.k 23 (.bool true)] ?_
 refine c7 23 [24,25,26,27,28,29,30] rfl rfl ?_
 refine sqp [.m 24 0,.m 25 1,.m 26 5] ?_
 refine sql (.pointer (some ((ad AA).add (i*5)))) aW (fun cx=>aB (e:=60) (m:=i) (sz:=5) rfl (by kernel_rfl) (by kernel_rfl) (cx.ou 25) (cx.ou 26) (by omega) (by omega) (hA _ cx.upd) (bj (sz:=5) mn (by decide) (by omega))) ?_
 refine sql (.agg #[.int .u8 a.what,vi a.page,vi a.slot,.string a.item,.slice a.QA a.qn a.qc]) aW (fun cx=>bF (f:=acC) (m:=i) (sz:=5) (off:=0) (n:=5) rfl (by kernel_rfl) (by kernel_rfl) (cx.ou 27) rfl mn (hA _ cx.upd) hai (fun k hk=>match k,hk with|0,_=>rfl|1,_=>rfl|2,_=>rfl|3,_=>rfl|4,_=>rfl|k+5,hk=>absurd hk (by omega))) ?_
 refine bM (fun X_=>X_.fp) (.bool true) (fun C6=>eWd xb bufs ((gB (sL,sT) a).1) ((gB (sL,sT) a).2) (ci+700) C6) 0 aW (by
   refine svA fun h b W X cx=>?_
   refine am.call (au (args:=#[vp xb,.agg #[.int .u8 a.what,vi a.page,vi a.slot,.string a.item,.slice a.QA a.qn a.qc]]) rfl cx.sees rfl (by kernel_rfl) (aM (cx.ou 24) (cx.ou 28))) ?_
   refine(JZ xb bufs sL sT ci a _ _ (CtxV.holdF cx (cx.init 0 _ rfl) rfl) (CtxV.ltF cx (cx.init 0 _ rfl) rfl) hao (by omega) hlt8).mono ?_
   rintro e W1 ⟨rfl,fp4,aT⟩
   refine⟨_,rfl,aK (E:=eWd xb bufs sL sT ci fpi) [eWd xb bufs ((gB (sL,sT) a).1) ((gB (sL,sT) a).2) (ci+700) fp4] (cx.init 0 _ rfl) rfl rfl aT (fun d g X' hs hb hv hN=>?_)⟩
   have aJ:=(hv 29 rfl).1;have aV:=(hv 29 rfl).2
   exact⟨aJ.trans rfl,sG ((List.cons.inj hN).1)⟩) fun C6 y6 e9=>?_
 refine sqp [.k 30 (.bool false)] ?_
 refine sqp [.k 31 (.bool false)] ?_
 refine aa (wcf rfl (wp_skip (av (aa (sqr (sqp [.m 14 5,sI 15 ((i:Int)+1) (by omega),.m 5 15] ?_))))))
 refine aa ?_
 refine⟨acs.length-((i+1)),by omega,?_⟩
 exact⟨(i+1),(gB (sL,sT) a).1,(gB (sL,sT) a).2,(ci+700),C6,by omega,by omega,(by rw[wK hai,if_pos hlt8,<-hsr]),by omega,rfl,(by kernel_rfl),e9.pk [0]⟩
 refine sqr (sqp [.m 16 1,.m 17 5] ?_)
 refine sql (.pointer (some ((ad AA).add (i*5)))) aW (fun cx=>aB (e:=60) (m:=i) (sz:=5) rfl (by kernel_rfl) (by kernel_rfl) (cx.ou 16) (cx.ou 17) (by omega) (by omega) (hA _ cx.upd) (bj (sz:=5) mn (by decide) (by omega))) ?_
 refine sql (.pointer (some ((ad AA).add (i*5+0)))) aW (fun cx=>bt rfl (by kernel_rfl) (cx.ou 18)) ?_
 refine sql (.int .u8 a.what) aW (fun cx=>ae rfl (by kernel_rfl) (cx.ou 19) (At.eltc (f:=acC) (k:=0) mn (hA _ cx.upd) hai rfl)) ?_
 have hd40:(decide (a.what % 10<8))=false:=(decide_eq_false hlt8)
 refine yI [sRe 21 .u8 a.what 10 (a.what % 10) (Int.tmod_eq_emod_of_nonneg (by omega)),.e 22 (.bool (decide (a.what % 10<8))) (.bool false) (congrArg Value.bool hd40),.k 23 (.bool false)] 23 [24,25,26,27,28,29,30] ?_
 refine sqp [.k 31 (.bool false)] ?_
 refine aa (wcf rfl (wp_skip (av (aa (sqr (sqp [.m 14 5,sI 15 ((i:Int)+1) (by omega),.m 5 15] ?_))))))
 refine aa ?_
 refine⟨acs.length-((i+1)),by omega,?_⟩
 exact⟨(i+1),sL,sT,ci,fpi,by omega,by omega,(by rw[wK hai,if_neg hlt8,<-hsr]),by omega,rfl,(by kernel_rfl),aW.pk [0]⟩
 have jC:=jp
 simp only[zB] at jC
 refine wp_exit (al (al (bf (aa (wq (sqr (sqp [.k 4 (.bool true)] ?_)))))))
 refine aa (wp_ret ?_)
 refine bpr (.bool true) (ag Tryz.results32 rpt) ?_
 have hr9:pa (L,told) acs=(sL,sT):=by rw[hsr,pa];congr 1;have h_:=jp;simp at h_;by_cases h25:i=25;rw[h25];rw[List.take_of_length_le (by omega),List.take_of_length_le (by omega)]
 obtain⟨fz_,hz_⟩:=aW.wdm (c2:=c+17500) (by omega)
 exact⟨rfl,_,by rw[hr9];exact hz_⟩
end
section
open Go.RowKit
section
variable{o:Oper}{ρ:Operand->Value}{W:World}
theorem FV{x y:Operand}{a b:Int}{s:ByteArray}(h:o.op= .binOp .neq 84 x y 84)(hx:ρ x= .agg #[.int .i64 a,.int .i64 b,.string s])(hy:ρ y= .agg #[.int .i64 a,.int .i64 b,.string s]):
  (execOp ρ o).run Tryz.prog W= .ok (.value (.bool false)) W:=by
 unfold execOp;rw[h]
 simp[go_sem,hx,hy]
end
theorem r7(w:World):
  Calls Tryz.prog 106 #[sn,sn] w (Ret (.bool true) w):=by
 go_enter Tryz.func106,Tryz.ntmps106
 have aj:=St.start w
 refine wq (sqr (sqp [.k 4 (.bool false)] ?_))
 refine aa (wq (wq (sqr (sqp [.m 6 0,.k 7 (vi 0),.m 8 1,.k 9 (vi 0),.k 10 (.bool false)] ?_))))
 refine aa (wcf rfl (wp_skip (aa (wq (wq (sqr (sqp [.k 5 (vi 0)] ?_)))))))
 refine aa (wp_block ?_)
 refine aN (fun t_ mz az W=>∃j:Nat,j<=0/\mz=0-j/\az=⟨(ovr (jv az) [(4,4,1,[vi ((j:Int))]),(5,11,15,[])] t_).toArray,[]⟩/\St w [] [] W) (0-0) ?_ ?_
 exact⟨0,Nat.le_refl _,rfl,(by kernel_rfl),aj.pk []⟩
 rintro n8 a8 W8 ⟨j,hj,rfl,hj_,dB⟩
 refine ovz hj_ fun QC=>?_
 refine wq (wq (sqr ?_))
 have hd13:(decide ((j:Int)<0))=false:=(decide_eq_false (by omega))
 refine sqp [.m 11 5,.m 12 0,.k 13 (vi 0),.e 14 (.bool (decide ((j:Int)<0))) (.bool false) (congrArg Value.bool hd13)] ?_
 refine aa (wcf rfl (wp_exit (al (al (bf (aa (wq (sqr (sqp [.k 4 (.bool true)] ?_)))))))))
 refine aa (wp_ret ?_)
 refine bpr (.bool true) (ag Tryz.results106 rpt) ?_
 exact Ret.of rfl dB.ext
theorem EC(q:RecM)(A B:Option Addr)(c d:Nat)(w:World)(hA:At w A (q.eds.flatMap edC))(hB:At w B (q.eds.flatMap edC))(hl:q.eds.length<=100000):
  Calls Tryz.prog 47 #[.agg #[.int .i64 q.kind,.int .i64 q.xid,.int .i64 q.tbl,sn,sn,.slice A q.eds.length c,sn,.string q.note],.agg #[.int .i64 q.kind,.int .i64 q.xid,.int .i64 q.tbl,sn,sn,.slice B q.eds.length d,sn,.string q.note]] w (Ret (.bool true) w):=by
 go_enter Tryz.func47,Tryz.ntmps47
 have aj:=St.start w
 refine wq (sqr ?_)
 refine b9 #[vi q.kind,vi q.xid,vi q.tbl,sn,sn,.slice A q.eds.length c,sn,.string q.note] aj fun br W1 ay=>?_
 refine b9 #[vi q.kind,vi q.xid,vi q.tbl,sn,sn,.slice B q.eds.length d,sn,.string q.note] ay fun ck W2 bu=>?_
 refine sqp [.k 4 (.bool false)] ?_
 refine aa (wq (wq (sqr (sqp [.k 7 (vp br)] ?_))))
 refine aq 0 bu ?_
 refine sqp [.k 9 (vp ck)] ?_
 refine aq 1 bu ?_
 have hd9:(q.kind != q.kind)=false:=(by simp)
 refine sqp [.e 11 (.bool (q.kind != q.kind)) (.bool false) (congrArg Value.bool hd9),.k 12 (.bool false)] ?_
 refine c7 12 [13,14,15,16,17] rfl rfl ?_
 refine sqp [.k 13 (po br 1)] ?_
 refine aq 0 bu ?_
 refine sqp [.k 15 (po ck 1)] ?_
 refine aq 1 bu ?_
 have hd16:(q.xid != q.xid)=false:=(by simp)
 refine sqp [.e 17 (.bool (q.xid != q.xid)) (.bool false) (congrArg Value.bool hd16)] ?_
 refine sqp [.k 18 (.bool false),.k 19 (.bool false)] ?_
 refine c7 19 [20,21,22,23,24] rfl rfl ?_
 refine sqp [.k 20 (po br 2)] ?_
 refine aq 0 bu ?_
 refine sqp [.k 22 (po ck 2)] ?_
 refine aq 1 bu ?_
 have hd24:(q.tbl != q.tbl)=false:=(by simp)
 refine sqp [.e 24 (.bool (q.tbl != q.tbl)) (.bool false) (congrArg Value.bool hd24)] ?_
 refine sqp [.k 25 (.bool false),.k 26 (.bool false)] ?_
 refine c7 26 [27,28,29,30,31,32,33] rfl rfl ?_
 refine sqp [.k 27 (po br 5)] ?_
 refine aq 0 bu ?_
 refine sqp [.k 29 (vi ((q.eds.length:Int))),.k 30 (po ck 5)] ?_
 refine aq 1 bu ?_
 have hd34:((q.eds.length:Int) != (q.eds.length:Int))=false:=(by simp)
 refine sqp [.k 32 (vi ((q.eds.length:Int))),.e 33 (.bool ((q.eds.length:Int) != (q.eds.length:Int))) (.bool false) (congrArg Value.bool hd34)] ?_
 refine sqp [.k 34 (.bool false),.k 35 (.bool false)] ?_
 refine c7 35 [36,37,38,39,40,41,42] rfl rfl ?_
 refine sqp [.k 36 (po br 6)] ?_
 refine aq 0 bu ?_
 refine sqp [.k 38 (vi 0),.k 39 (po ck 6)] ?_
 refine aq 1 bu ?_
 refine sqp [.k 41 (vi 0),.k 42 (.bool false)] ?_
 refine sqp [.k 43 (.bool false),.k 44 (.bool false)] ?_
 refine c7 44 [45,46,47,48,49] rfl rfl ?_
 refine sqp [.k 45 (po br 7)] ?_
 refine aq 0 bu ?_
 refine sqp [.k 47 (po ck 7)] ?_
 refine aq 1 bu ?_
 have hd51:(!(q.note.toList==q.note.toList))=false:=(by simp)
 refine sqp [.e 49 (.bool (!(q.note.toList==q.note.toList))) (.bool false) (congrArg Value.bool hd51)] ?_
 refine sqp [.k 50 (.bool false)] ?_
 refine aa (wcf rfl (wp_skip (aa (wq (wq (sqr (sqp [.k 5 (vi 0)] ?_)))))))
 refine aa (wp_block ?_)
 refine aN (fun t_ mz az W=>∃j:Nat,j<=q.eds.length/\mz=q.eds.length-j/\az=⟨(ovr (jv az) [(4,4,1,[vi ((j:Int))]),(45,51,18,[])] t_).toArray,[]⟩/\St w [] [eB br 27 #[vi q.kind,vi q.xid,vi q.tbl,sn,sn,.slice A q.eds.length c,sn,.string q.note],eB ck 27 #[vi q.kind,vi q.xid,vi q.tbl,sn,sn,.slice B q.eds.length d,sn,.string q.note]] W) (q.eds.length-0) ?_ ?_
 exact⟨0,Nat.zero_le _,rfl,(by kernel_rfl),bu.pk [0,1]⟩
 rintro Uj a54 Qu ⟨j,hj,rfl,hj_,uC⟩
 refine ovz hj_ fun TG=>?_
 refine wq (wq (sqr (sqp [.m 51 5,.k 52 (po br 5)] ?_)))
 refine aq 0 uC ?_
 refine sqp [.k 54 (vi ((q.eds.length:Int))),.k 55 (.bool (decide ((j:Int)<(q.eds.length:Int))))] ?_
 refine aa (wds (fun Qc OQ=>?_) fun Qc OQ=>?_)
 refine wp_skip (aa (wq (wp_block (wq ?_))))
 obtain⟨ep,es,eb,hek⟩:=xe (l:=q.eds) (j:=j) (by omega)
 refine bP [0,1,0,7,15,0,32,0,224,480,1023] [[],[0],[],[],[],[],[1]] [.k 58 (po br 5),.c 59 (.slice A q.eds.length c),.k 60 (vi ((j:Int))),.c 61 (.pointer (some ((ad A).add (j*3)))),.c 62 (.agg #[vi ep,vi es,.string eb]),.k 63 (po ck 5),.c 64 (.slice B q.eds.length d),.k 65 (vi ((j:Int))),.c 66 (.pointer (some ((ad B).add (j*3)))),.c 67 (.agg #[vi ep,vi es,.string eb]),.c 68 (.bool false)] [0,1] [1,3,4,6,8,9,10] [(58,0,11,69)] uC ?_ fun zf eP=>?_
 refine⟨?_,?_,?_,?_,?_,?_,?_,trivial⟩
 exact xs4 rfl id fun cx=>ae rfl (by kernel_rfl) (cx.an 0) ((cx.bi 0 rfl).cell 5)
 exact xs4 rfl id fun cx=>aB (e:=84) (m:=j) (sz:=3) rfl (by kernel_rfl) (by kernel_rfl) (cx.an 1) (cx.an 2) (by omega) (by omega) (hA.ext cx.upd.to_ext) (bj (sz:=3) bD (by decide) (by omega))
 exact xs4 rfl id fun cx=>bF (f:=edC) (m:=j) (sz:=3) (off:=0) (n:=3) rfl (by kernel_rfl) (by kernel_rfl) (cx.an 3) rfl bD (hA.ext cx.upd.to_ext) hek (fun k hk=>match k,hk with|0,_=>rfl|1,_=>rfl|2,_=>rfl|k+3,hk=>absurd hk (by omega))
 exact xs4 rfl id fun cx=>ae rfl (by kernel_rfl) (cx.an 5) ((cx.bi 1 rfl).cell 5)
 exact xs4 rfl id fun cx=>aB (e:=84) (m:=j) (sz:=3) rfl (by kernel_rfl) (by kernel_rfl) (cx.an 6) (cx.an 7) (by omega) (by omega) (hB.ext cx.upd.to_ext) (bj (sz:=3) bD (by decide) (by omega))
 exact xs4 rfl id fun cx=>bF (f:=edC) (m:=j) (sz:=3) (off:=0) (n:=3) rfl (by kernel_rfl) (by kernel_rfl) (cx.an 8) rfl bD (hB.ext cx.upd.to_ext) hek (fun k hk=>match k,hk with|0,_=>rfl|1,_=>rfl|2,_=>rfl|k+3,hk=>absurd hk (by omega))
 exact xs4 rfl id fun cx=>FV rfl (cx.an 4) (cx.an 9)
 refine aa (wcf rfl (wp_skip (av (aa (sqr (sqp [.m 56 5,sI 57 ((j:Int)+1) (by omega),.m 5 57] ?_))))))
 refine aa ?_
 refine⟨q.eds.length-((j+1)),by omega,?_⟩
 exact⟨(j+1),by omega,rfl,(by kernel_rfl),eP.pk [0,1]⟩
 refine wp_exit (al (al (bf (aa (wq (wq (sqr (sqp [.k 6 (vi 0)] ?_))))))))
 refine aa (wp_block ?_)
 refine aN (fun t_ mz az W=>∃j2:Nat,j2<=0/\mz=0-j2/\az=⟨(ovr (jv az) [(4,4,1,[]),(1,6,0,[vi ((j2:Int))]),(62,69,18,[])] t_).toArray,[]⟩/\St w [] [eB br 27 #[vi q.kind,vi q.xid,vi q.tbl,sn,sn,.slice A q.eds.length c,sn,.string q.note],eB ck 27 #[vi q.kind,vi q.xid,vi q.tbl,sn,sn,.slice B q.eds.length d,sn,.string q.note]] W) (0-0) ?_ ?_
 exact⟨0,Nat.le_refl _,rfl,(by kernel_rfl),uC.pk [0,1]⟩
 rintro Uk a66 Md ⟨j2,hj2,rfl,hj_,kP⟩
 refine ovz hj_ fun TH=>?_
 refine wq (wq (sqr (sqp [.m 69 6,.k 70 (po br 6)] ?_)))
 refine aq 0 kP ?_
 have hd72:(decide ((j2:Int)<0))=false:=(decide_eq_false (by omega))
 refine sqp [.k 72 (vi 0),.e 73 (.bool (decide ((j2:Int)<0))) (.bool false) (congrArg Value.bool hd72)] ?_
 refine aa (wcf rfl (wp_exit (al (al (bf (aa (wq (sqr (sqp [.k 87 (po br 3)] ?_)))))))))
 refine aq 0 kP ?_
 refine sqp [.k 89 (po ck 3)] ?_
 refine aq 1 kP ?_
 refine sqk (.bool true) kP (fun cx=>⟨_,r7 _,(aM (cx.ou 88) (cx.ou 90))⟩) fun Rz vl=>?_
 refine sqp [.k 92 (.bool true)] ?_
 refine c7 92 [93,94,95,96,97] rfl rfl ?_
 refine sqp [.k 93 (po br 4)] ?_
 refine aq 0 vl ?_
 refine sqp [.k 95 (po ck 4)] ?_
 refine aq 1 vl ?_
 refine sqk (.bool true) vl (fun cx=>⟨_,r7 _,(aM (cx.ou 94) (cx.ou 96))⟩) fun Re xu=>?_
 refine sqp [.k 98 (.bool true),.k 4 (.bool true)] ?_
 refine aa (wp_ret ?_)
 refine bpr (.bool true) (ag Tryz.results47 rpt) ?_
 exact Ret.of rfl xu.ext
end
section
open Go.RowKit
def KW{α:Type}(P:Program)(gf:Nat)(lb:Array Value)(encs:α->Array Value)(Px:List α->α->Prop)(eX:α->List Nat->Ent)(Rd:List α->World->Prop)(Z:List α->Prop):Prop:=
 ∀(l:Nat) (J:List Nat->List α->World->Prop) (W:World) (C0:List Nat),(∀C pre,(eJ J C pre).loc)->(∀k∈C0,k<W.heap.size)->J C0 [] W->(∀C pre A,J C pre A->Rd pre A)->
  (∀C pre x A F,J C pre A->(∀k∈C,k<A.heap.size)->Px pre x->(eX x F).holds A->(eX x F).loc->(eX x F).fp=F->(∀k∈F,k<A.heap.size/\k∉C)->YieldAt Fence.wide 1 P l (encs x) A fun e B=>e= .returned (.bool true)/\∃C',St A C [eJ J C' (pre++[x])] B)->
  CallsIn Fence.wide 2 P gf (#[.func (.yield l) #[] #[]]++lb) W fun e B=>(∃v,e= .returned v)/\∃C xs,St W C0 [eJ J C xs] B/\Z xs
theorem Cc{α:Type}{g:Operand}{ps:Array Tmp}{assign body:Code}{t0:Array Value}{d0:List Deferred}{w:World}{L0:List Ent}(aZ:St w0 bor L0 w)
  {gf:Nat}{lb:Array Value}(hg:Act.eval ⟨t0,d0⟩ g= .func (.func gf) #[] lb) (eg:∀args w,(callFunc gf args).run P w= .ok (.enter gf args) w)
  {encs:α->Array Value}{Px:List α->α->Prop}{eX:α->List Nat->Ent}{Rd:List α->World->Prop}{Z:List α->Prop}(hseq:KW P gf lb encs Px eX Rd Z) (hps:∀x,(encs x).size=ps.size) (I:List α->List Ent->Prop) (h0:I [] L0) (hRd:∀pre L A,I pre L->(∀e∈L,e.holds A)->Rd pre A) (Ax:α->Act->Ent->Prop) (t1:α->List Value) (ht1:∀x,(ps.zip (encs x)).foldl (fun t (p,v)=>t.setIfInBounds p v) t0=(t1 x).toArray)
  (hassign:∀(l:Nat) (x:α) (W:World) (K:Act->World->Prop),(∀a' W' E,Ax x a' E->St W [] [E] W'->K a' W')->assign.wpIn (Rnd l) 1 P (Exit.then K (fun _ _ _=>False)) ⟨(t1 x).toArray,[]⟩ W)
  (hbody:∀(l:Nat) (pre:List α) (x:α) (W:World) (L:List Ent) (a':Act) (E:Ent),I pre L->Px pre x->Ax x a' E->(∃F,(eX x F).holds W/\∀k∈F,k<W.heap.size/\k∉fps (L++[E]))->St W (fps (L++[E])) (L++[E]) W->body.wpIn (Rnd l) 1 P (fun e _ W'=>e= .normal/\∃L',I (pre++[x]) L'/\St W (fps (L++[E])) L' W') a' W)
  (hdone:∀(D:Nat) (W:World) (L:List Ent) (xs:List α),I xs L->Z xs->St w0 bor (L++[ft D]) W->Q .normal ⟨t0,{target:= .collected D,args:=#[]}::d0⟩ W):
  (Code.rangeFunc g ps assign body).wp P Q ⟨t0,d0⟩ w:=by
 refine(wpIn_wide (n:=3)).1 (wpIn_rangeFunc fun fn hfn=>?_)
 obtain⟨D,hD⟩:∃D,w.heap.size=D:=⟨_,rfl⟩
 obtain⟨rec,hrec⟩:∃rec:LoopState->Loop,rec=fun s=>{state:=s,pending:=none,fn,tmps:=t0,params:=ps,assign,body,defers:=D}:=⟨_,rfl⟩
 obtain⟨W1,hW1⟩:∃W1,(w.alloc (.deferred (some []))).alloc (.loop (rec .ready))=W1:=⟨_,rfl⟩
 have hL1:W1.heap[D+1]? =some (.loop (rec .ready)):=by
  rw[<-hW1,<-hD];have:=World.alloc_heap_new (w.alloc (.deferred (some []))) (.loop (rec .ready));rwa [World.size_alloc] at this
 have hK1:W1.heap[D]? =some (.deferred (some [])):=by
  rw[<-hW1,<-hD];exact(Below.heap_alloc _ _ _ (by simp)).trans (World.alloc_heap_new w _)
 have hx1:Ext w W1:=by rw[<-hW1];exact((Below.refl _ w).alloc (Nat.le_refl _) _).alloc (by simp) _
 have fK:W1.heap.size=D+2:=by rw[<-hW1,World.size_alloc,World.size_alloc,hD]
 have h0w:=aZ.upd.size
 obtain⟨J,hJ⟩:∃J:List Nat->List α->World->Prop,J=fun C pre A=>∃L,I pre L/\C=(D+1)::D::fps L/\(∀e∈L,e.holds A/\e.loc)/\L.Pairwise Ent.apart/\(∀k∈fps L,k≠D+1/\k≠D)/\A.heap[D+1]? =some (.loop (rec .ready))/\A.heap[D]? =some (.deferred (some [])):=⟨_,rfl⟩
 have hloc:∀C pre,(eJ J C pre).loc:=fun C pre A B hk h=>by
  subst hJ
  obtain⟨L,h1,rfl,h2,h3,h4,h5,h6⟩:=h
  refine⟨L,h1,rfl,fun e he=>⟨(h2 e he).2 A B (fun k hk'=>hk k ?_) (h2 e he).1,(h2 e he).2⟩,h3,h4,(hk (D+1) (by simp[eJ])).trans h5,(hk D (by simp[eJ])).trans h6⟩
  exact List.mem_cons_of_mem _ (List.mem_cons_of_mem _ (cQ.2 ⟨e,he,hk'⟩))
 have hC0:∀k∈(D+1)::D::fps L0,(k∈bor\/w0.heap.size<=k)/\k<W1.heap.size:=fun k hk=>by
  rcases List.mem_cons.1 hk with rfl|hk
  exact⟨.inr (by omega),by omega⟩
  rcases List.mem_cons.1 hk with rfl|hk
  exact⟨.inr (by omega),by omega⟩
  have:=aZ.fps_own hk
  exact⟨this.1,by omega⟩
 have hJ0:J ((D+1)::D::fps L0) [] W1:=by
  subst hJ
  refine⟨L0,h0,rfl,fun e he=>⟨(aZ.ok e he).loc w W1 (fun k hk=>hx1.block ((aZ.ok e he).own k hk).2) (aZ.ok e he).holds,(aZ.ok e he).loc⟩,aZ.apart,fun k hk=>?_,hL1,hK1⟩
  have:=(aZ.fps_own hk).2
  exact⟨by omega,by omega⟩
 refine⟨D+1,[{target:= .collected D,args:=#[]}],W1,{target:= .fn (.func gf) lb,args:=#[.func (.yield (D+1)) #[] #[]]},W1,gf,#[.func (.yield (D+1)) #[] #[]]++lb,W1,?_,?_,?_,?_,fun _=>by omega,?_⟩
 rw[<-hW1,hrec,<-hD];exact run_enterLoop_outer _ _ _ _ _
 simp only[resolve,hg]
 simp[go_sem]
 intro f' hf';trivial
 simp[invoke,go_sem,eg]
 refine(hseq (D+1) J W1 _ hloc (fun k hk=>(hC0 k hk).2) hJ0 (fun C pre A hj=>by subst hJ;obtain⟨L,hi,rfl,hall,_⟩:=hj;exact hRd pre L A hi fun e he=>(hall e he).1) ?_).mono ?_
 intro C pre x A F hj hlt hlen hFh hFl hFe hFC
 subst hJ
 obtain⟨L,hi,rfl,hall,hap,hne,hl,hk⟩:=hj
 have hlA:D+1<A.heap.size:=hlt _ (by simp)
 have hDA:D<A.heap.size:=hlt _ (by simp)
 have hy:=run_yield (P:=P) (args:=encs x) hl (by rw[hrec];exact hps x)
 rw[hrec] at hy
 refine⟨fn,_,assign,body,hy,roundIn_of_wpIn hfn ?_⟩
 rw[ht1 x]
 refine hassign _ x A _ fun a' A1 E1 hAx hE1=>?_
 have hxA:=hE1.ext
 have hl1:A1.heap[D+1]? =some (.loop (rec .ready)):=(hxA.block hlA).trans hl
 have hk1:A1.heap[D]? =some (.deferred (some [])):=(hxA.block hDA).trans hk
 have hEo:=hE1.ok E1 (by simp)
 have hEn:∀k∈E1.fp,A.heap.size<=k/\k<A1.heap.size:=fun k hk'=>⟨(hEo.own k hk').1.resolve_left (by simp),(hEo.own k hk').2⟩
 have hsA1:=hxA.size
 refine⟨_,run_beginRound hl1 (by rw[hrec]),?_⟩
 obtain⟨A2,hA2⟩:∃A2,A1.putObj (D+1) (.loop {rec .ready with state:= .busy})=A2:=⟨_,rfl⟩
 have hsz:A2.heap.size=A1.heap.size:=by rw[<-hA2];exact fH _ _ _
 have hoth:∀k,k≠D+1->A2.heap[k]? =A1.heap[k]? :=fun k hk'=>by rw[<-hA2];exact World.putObj_heap_other hk'
 have hbusy:A2.heap[D+1]? =some (.loop {rec .ready with state:= .busy}):=by rw[<-hA2];exact World.putObj_heap_same (by omega)
 have hLlt:∀k∈fps L,k<A.heap.size:=fun k hk'=>hlt k (List.mem_cons_of_mem _ (List.mem_cons_of_mem _ hk'))
 have bu:St A2 (fps (L++[E1])) (L++[E1]) A2:=by
  refine⟨Upd.refl _ _,fun e he=>?_,?_⟩
  have hin:∀k∈e.fp,k∈fps (L++[E1]):=fun k hk'=>cQ.2 ⟨e,he,hk'⟩
  rcases List.mem_append.1 he with he|he
  refine⟨(hall e he).2 A A2 (fun k hk'=>?_) (hall e he).1,(hall e he).2,fun k hk'=>⟨.inl (hin k hk'),?_⟩⟩
  have h1:=cQ.2 ⟨e,he,hk'⟩
  exact(hoth k (hne k h1).1).trans (hxA.block (hLlt k h1))
  have:=hLlt k (cQ.2 ⟨e,he,hk'⟩);omega
  rw[List.mem_singleton] at he
  subst he
  exact⟨hEo.loc A1 A2 (fun k hk'=>hoth k (by have:=(hEn k hk').1;omega)) hEo.holds,hEo.loc,fun k hk'=>⟨.inl (hin k hk'),by have:=(hEn k hk').2;omega⟩⟩
  rw[List.pairwise_append]
  refine⟨hap,List.pairwise_singleton _ _,fun a ha b hb k hk' hkb=>?_⟩
  rw[List.mem_singleton] at hb
  subst hb
  have h1:=hLlt k (cQ.2 ⟨a,ha,hk'⟩)
  have h2:=(hEn k hkb).1
  omega
 rw[hA2]
 have hfin:∀k∈fps (L++[E1]),k∈fps L\/A.heap.size<=k:=fun k hk'=>by
  obtain⟨e,he,hke⟩:=cQ.1 hk'
  rcases List.mem_append.1 he with he|he
  exact .inl (cQ.2 ⟨e,he,hke⟩)
  rw[List.mem_singleton] at he;subst he;exact .inr (hEn k hke).1
 refine wpIn_mono (hbody _ pre x A2 L a' E1 hi hlen hAx ⟨F,hFl A A2 (fun k hk'=>by rw[hFe] at hk';have h9:=hFC k hk';exact(hoth k (fun h8=>h9.2 (by rw[h8];simp))).trans (hxA.block h9.1)) hFh,fun k hk'=>⟨by have h9:=(hFC k hk').1;omega,fun h8=>by rcases hfin k h8 with h7|h7;exact(hFC k hk').2 (List.mem_cons_of_mem _ (List.mem_cons_of_mem _ h7));have h9:=(hFC k hk').1;omega⟩⟩ bu) ?_
 rintro e a W3 ⟨rfl,L',hi',hs'⟩
 have hno:∀m,m=D+1\/m=D->m∉fps (L++[E1]):=fun m hm hmm=>by
  rcases hfin m hmm with h1|h1
  have:=hne m h1;rcases hm with rfl|rfl<;>simp at this
  omega
 have hl3:W3.heap[D+1]? =some (.loop {rec .ready with state:= .busy}):=(hs'.upd.block _ (by omega) (hno _ (.inl rfl))).trans hbusy
 have hk3:W3.heap[D]? =some (.deferred (some [])):=(hs'.upd.block _ (by omega) (hno _ (.inr rfl))).trans ((hoth D (by omega)).trans hk1)
 have hsz3:=hs'.upd.size
 have hne':∀k∈fps L',k≠D+1/\k≠D:=fun k hk'=>by
  rcases(hs'.fps_own hk').1 with h1|h1
  rcases hfin k h1 with h2|h2
  exact hne k h2
  exact⟨by omega,by omega⟩
  exact⟨by omega,by omega⟩
 refine⟨_,_,run_endRound none hl3,rfl,(D+1)::D::fps L',?_⟩
 have hupA:Upd ((D+1)::D::fps L) A A2:=by rw[<-hA2];exact(Upd.mono (S:=[]) (Upd.of_ext hxA) (fun k _ hk'=>by simp at hk')).putObj (.inl (List.mem_cons_self ..))
 have hup:Upd ((D+1)::D::fps L) A W3:=hupA.join hs'.upd (fun i hi=>by
  rcases hfin i hi with h1|h1
  exact Or.inl (List.mem_cons_of_mem _ (List.mem_cons_of_mem _ h1))
  exact .inr h1)
 have h3l:D+1<W3.heap.size:=by omega
 refine⟨hup.putObj (.inl (by simp)),fun e he=>?_,List.pairwise_singleton _ _⟩
 rw[List.mem_singleton] at he
 subst he
 refine⟨⟨L',hi',rfl,fun e he=>⟨(hs'.ok e he).loc W3 _ (fun k hk'=>World.putObj_heap_other (hne' k (cQ.2 ⟨e,he,hk'⟩)).1) (hs'.ok e he).holds,(hs'.ok e he).loc⟩,hs'.apart,hne',?_,?_⟩,hloc _ _,fun k hk'=>?_⟩
 rw[hrec];exact World.putObj_heap_same h3l
 exact(World.putObj_heap_other (by omega)).trans hk3
 rw[fH]
 have hk':k∈(D+1)::D::fps L':=hk'
 rcases List.mem_cons.1 hk' with rfl|hk'
 exact⟨.inl (by simp),h3l⟩
 rcases List.mem_cons.1 hk' with rfl|hk'
 exact⟨.inl (by simp),by omega⟩
 have h6:=hs'.fps_own hk'
 refine⟨?_,h6.2⟩
 rcases h6.1 with h7|h7
 rcases hfin k h7 with h8|h8
 exact .inl (List.mem_cons_of_mem _ (List.mem_cons_of_mem _ h8))
 exact .inr h8
 exact .inr (by omega)
 rintro e W2 ⟨⟨v,rfl⟩,C,xs,hs,hz⟩
 have hjo:=hs.ok (eJ J C xs) (by simp)
 have hj:=hjo.holds
 subst hJ
 obtain⟨L,hi,rfl,hall,hap,hne,hl,hk⟩:=hj
 have hend:=run_endLoop (P:=P) hl (by rw[hrec];simp)
 have hpend:(rec .ready).pending=none:=by rw[hrec]
 rw[hpend] at hend
 refine⟨none,_,hend,hdone D _ L xs hi hz ?_⟩
 have hCo:∀k∈(D+1)::D::fps L,((k∈bor\/w0.heap.size<=k)/\k<W2.heap.size):=fun k hk'=>by
  have h5:=hjo.own k hk'
  refine⟨?_,h5.2⟩
  rcases h5.1 with h6|h6
  exact(hC0 k h6).1
  exact .inr (by omega)
 have hup:Upd bor w0 W2:=(aZ.upd.join (show Upd [] w W1 from Upd.of_ext hx1) (fun i hi=>by cases hi)).join hs.upd (fun i hi=>(hC0 i hi).1)
 have hlA:=(hCo (D+1) (by simp)).2
 have hw0D:w0.heap.size<=D+1:=by omega
 refine⟨hup.putObj (.inr hw0D),fun e he=>?_,?_⟩
 rcases List.mem_append.1 he with he|he
 refine⟨(hall e he).2 W2 _ (fun k hk'=>World.putObj_heap_other (hne k (cQ.2 ⟨e,he,hk'⟩)).1) (hall e he).1,(hall e he).2,fun k hk'=>?_⟩
 rw[fH]
 exact hCo k (List.mem_cons_of_mem _ (List.mem_cons_of_mem _ (cQ.2 ⟨e,he,hk'⟩)))
 rw[List.mem_singleton] at he
 subst he
 refine⟨(World.putObj_heap_other (by omega)).trans hk,yy D,fun k hk'=>?_⟩
 have:k=D:=by simpa[ft] using hk'
 subst this
 rw[fH]
 exact⟨.inr (by omega),by have:=(hCo k (by simp)).2;omega⟩
 rw[List.pairwise_append]
 refine⟨hap,List.pairwise_singleton _ _,fun a ha b hb k hk' hkb=>?_⟩
 rw[List.mem_singleton] at hb
 subst hb
 have:k=D:=by simpa[ft] using hkb
 exact(hne k (cQ.2 ⟨a,ha,hk'⟩)).2 this
end
section
open Go.RowKit
theorem Dj(sb:Nat)(frm:Int)(w:World):
  Calls Tryz.prog 46 #[po sb 0,.int .i64 frm] w ((fun w (e:Ending) (w':World)=>∃q1 q2,e= .returned (.func (.func 105) #[] #[po q1 0,po q2 0])/\St w [] [eB q1 3 #[.int .i64 frm],eB q2 31 #[po sb 0]] w') w):=by
 go_enter Tryz.func46,Tryz.ntmps46
 have aj:=St.start w
 refine wq (sqr ?_)
 refine b9 #[vp sb] aj fun br W1 ay=>?_
 refine b9 #[vi frm] ay fun ck W2 bu=>?_
 refine sqp [.k 4 (Go.Value.nilFunc)] ?_
 refine aa (wq (sqr ?_))
 refine sqv (.func (.func 105) #[] #[vp ck,vp br]) bu (by
   exact sv0 rfl rfl rfl rfl rfl (fun _ _ _ h=>h) fun a b W X cx=>by
    have fy:a (.tmp 3)=vp ck:=(cx.ou 3)
    have m4:a (.tmp 2)=vp br:=(cx.ou 2)
    simp[go_sem,Instr.makeFunc,fy,m4]) fun W4 bc=>?_
 refine sqp [.m 4 5] ?_
 refine aa (wp_ret ?_)
 refine bpr (.func (.func 105) #[] #[vp ck,vp br]) (ag Tryz.results46 rpt) ?_
 exact⟨_,_,rfl,bc.pick [1,0] (by decide) rfl⟩
end
section
open Go.RowKit
theorem E7{o:Oper}{a:Act}{n1 n2:Act->World->Prop}{X:Act->World->Prop}{r:Result Next}(h:o.upon P a n1 (fun e a w=>e= .normal/\X a w) r)(hn:∀a w,n1 a w->n2 a w):o.uponIn Fence.wide 2 P a n2 Q r:=by
 unfold Oper.upon at h
 split at h
 exact hn _ _ h
 exact hn _ _ h
 exact hn _ _ h
 refine⟨fun h=>by simp[Fence.wide] at h,callsIn_wide.2 (h.mono fun e w h=>?_)⟩
 cases e with
 |returned v=>exact hn _ _ h
 |panicked c=>exact absurd h.1 (by simp)
 |outgrown=>obtain⟨_,_,h,_⟩:=h;cases h
 refine⟨fun h=>by simp[Fence.wide] at h,fun c cs _=>?_⟩
 obtain⟨v,w',h1,h2⟩:=h c cs
 exact⟨v,w',hn _ _ h1,stepsIn_wide.2 h2⟩
 exact absurd h.1 (by simp)
 exact h.elim
theorem r5{ops ops0:Array Oper}{l2:List Oper}:∀(l1:List Oper),(l1.all fun o=>o.guard.isNone)=true->∀(a:Act) (w:World),wpList P ops0 (fun e a w=>e= .normal/\wpListIn Fence.wide 2 P ops Q l2 a w) l1 a w->wpListIn Fence.wide 2 P ops Q (l1++l2) a w
 | [],_,a,w,h=>by unfold wpList at h;exact h.2
 |o::l1,hg,a,w,h=>by
  rw[List.all_cons,Bool.and_eq_true] at hg
  have hw:∀y,Region.wanted o y=true:=fun y=>by unfold Region.wanted;rw[Option.isNone_iff_eq_none.1 hg.1]
  unfold wpList at h
  rw[if_pos (hw _)] at h
  show wpListIn _ _ _ _ _ (o::(l1++l2)) a w
  unfold wpListIn
  rw[if_pos (hw _)]
  refine⟨fun _ _=>trivial,?_⟩
  show o.uponIn Fence.wide 2 P a _ Q ((execOp a.eval o).run P w)
  rcases h with h|⟨_,_,_,h,_⟩
  exact E7 h fun a w=>r5 l1 hg.2 a w
  cases h
theorem Ky{id:Nat}{l:List Oper}{a:Act}(n:Nat)(hg:((l.take n).all fun o=>o.guard.isNone)=true)(h:wpList P l.toArray (fun e a w=>e= .normal/\wpListIn Fence.wide 2 P l.toArray Q (l.drop n) a w) (l.take n) a W):(Code.region id l.toArray false).wp P Q a W:=
 (wpIn_wide (n:=2)).1 (wpIn_region_lit (by have h1:=r5 _ hg _ _ h;rwa [List.take_append_drop] at h1))
section
variable{P:Program}{ops:Array Oper}{Q:Exit->Act->World->Prop}{o:Oper}{rest:List Oper}{t t':List Value}{d0:List Deferred}{W:World}{d:Tmp}
theorem K3(hg:o.guard=none)(hd:o.dst=some d)(hr:(execOp (Act.eval ⟨t.toArray,d0⟩) o).run P W= .ok (.value v) W)(ht:t.set d v=t')(h:wpListIn Fence.wide 2 P ops Q rest ⟨t'.toArray,d0⟩ W):wpListIn Fence.wide 2 P ops Q (o::rest) ⟨t.toArray,d0⟩ W:=by
 unfold wpListIn
 rw[if_pos (show Region.wanted o _=true by unfold Region.wanted;rw[hg])]
 refine⟨fun _ _=>trivial,?_⟩
 show o.uponIn Fence.wide 2 P _ _ Q ((execOp (Act.eval ⟨t.toArray,d0⟩) o).run P W)
 rw[hr,Oper.uponIn_value,hd]
 show wpListIn Fence.wide 2 P ops Q rest ⟨t.toArray.setIfInBounds d v,d0⟩ W
 rw[List.setIfInBounds_toArray,ht]
 exact h
theorem K1{l:Nat}{args:Array Value}{R:World->Prop}(hg:o.guard=none)(hd:o.dst=some d)
  (hr:∀r,(Instr.yield l args).run P W=r->(execOp (Act.eval ⟨t.toArray,d0⟩) o).run P W=r) (hy:YieldAt Fence.wide 1 P l args W fun e B=>e= .returned (.bool true)/\R B) (ht:t.set d (.bool true)=t') (h:∀B,R B->wpListIn Fence.wide 2 P ops Q rest ⟨t'.toArray,d0⟩ B):wpListIn Fence.wide 2 P ops Q (o::rest) ⟨t.toArray,d0⟩ W:=by
 obtain⟨fn,tmps,assign,body,h1,h2⟩:=hy
 unfold wpListIn
 rw[if_pos (show Region.wanted o _=true by unfold Region.wanted;rw[hg])]
 refine⟨fun _ _=>trivial,?_⟩
 show o.uponIn Fence.wide 2 P _ _ Q ((execOp (Act.eval ⟨t.toArray,d0⟩) o).run P W)
 rw[hr _ h1,Oper.uponIn_round]
 refine⟨fun hh=>by simp[Fence.wide] at hh,h2.mono ?_⟩
 rintro e B ⟨rfl,hB⟩
 show wpListIn Fence.wide 2 P ops Q rest (Act.put ⟨t.toArray,d0⟩ o.dst (.bool true)) B
 rw[hd]
 show wpListIn Fence.wide 2 P ops Q rest ⟨t.toArray.setIfInBounds d (.bool true),d0⟩ B
 rw[List.setIfInBounds_toArray,ht]
 exact h B hB
end
theorem AH{T:Type}{A:Option Addr}{f:T->List Value}{l:List T}(h:At W A (l.flatMap f))(hk:∀ad,A=some ad->l≠[]->W'.heap[ad.block]? =W.heap[ad.block]?):At W' A (l.flatMap f):=fun j u hj=>by
 have hl:l≠[]:=by rintro rfl;simp at hj
 obtain⟨ad,rfl,h1,h2⟩:=h j u hj
 have h3:=hk ad rfl hl
 refine⟨ad,rfl,?_,?_⟩
 rcases Nat.lt_or_ge ad.block W'.heap.size with h4|h4
 exact h4
 rw[Array.getElem?_eq_none h4,Array.getElem?_eq_getElem h1] at h3;cases h3
 unfold World.cell? at h2 |-
 rw[qf] at h2 |-
 rw[h3];exact h2
abbrev RyT:=Int×RcT
def ryE(x:RyT):Array Value:=#[.int .i64 x.1,G3 x.2.r x.2.A x.2.c]
def ryX(x:RyT)(F:List Nat):Ent:=⟨F,fun W=>(∀ad,x.2.A=some ad->ad.block∈F)/\At W x.2.A (x.2.r.eds.flatMap edC)⟩
theorem Jp(x:RyT)(F:List Nat):(ryX x F).loc:=fun W W' hk h=>⟨h.1,AH h.2 fun ad e _=>hk _ (h.1 ad e)⟩
def RyP(L:List RecM)(m0:Nat)(pre:List RyT)(x:RyT):Prop:=∃m:Nat,x.1=(m:Int)+1/\m=m0+pre.length/\L[m]? =some x.2.r
structure RyR (q1 q2:Nat) (frm:Int) (sb db:Nat) (S:StM) (mb:Nat) (RA:Option Addr) (rc:Nat) (EA:Option Addr) (ec ib tb:Nat) (A:World):Prop where
 b1:Blk A q1 3 #[.int .i64 frm]
 b2:Blk A q2 31 #[po sb 0]
 st:StO A sb db S mb RA rc EA ec ib tb
def RyZ(L:List RecM)(m0:Nat)(xs:List RyT):Prop:=m0+xs.length=max L.length m0
def NL(L:List RecM)(m0:Nat)(C0:List Nat)(J:List Nat->List RyT->World->Prop)(w:World)(e:Ending)(B:World):Prop:=(∃v,e= .returned v)/\∃C xs,St w C0 [eJ J C xs] B/\RyZ L m0 xs
theorem JU{t sz lc:Nat}{LA:Option Addr}{xs:List Value}(h:W.ownsRow 0 t sz (.slice LA m lc) m xs):∀ad,LA=some ad->ad.block∈(Value.ownBlock (.slice LA m lc)).toList:=fun ad e=>by
 rcases h.2 with ⟨hv,_⟩|⟨g,cap,cur,hv,_⟩
 injection hv with h2;rw[e] at h2;cases h2
 subst e;injection hv with h5;injection h5 with h5;subst h5;simp[Value.ownBlock]
theorem St.ry{C:List Nat}{pre:List RyT}{J:List Nat->List RyT->World->Prop}{x:RyT}(h:St w bor [eJ J C pre,fR x.2] W):(ryX x (fR x.2).fp).holds W/\∀k∈(fR x.2).fp,k<W.heap.size/\k∉C:=by
 have h2:=h.ok (fR x.2) (by simp)
 have hR:W.ownsRow 0 84 3 (.slice x.2.A x.2.r.eds.length x.2.c) x.2.r.eds.length (x.2.r.eds.flatMap edC):=h2.holds
 exact⟨⟨JU hR,At.of_ownN hR⟩,fun k hk=>⟨(h2.own k hk).2,fun hc=>(List.pairwise_pair.1 h.apart) k hc hk⟩⟩
theorem Ef(l q1 q2:Nat)(frm:Int)(m0:Nat)(sb db:Nat)(S:StM)(mb:Nat)(RA:Option Addr)(rc:Nat)(EA:Option Addr)(ec ib tb:Nat)(J:List Nat->List RyT->World->Prop)(C0:List Nat)(w:World)(hloc:∀C pre,(eJ J C pre).loc)(hlt:∀k∈C0,k<w.heap.size)(hJ0:J C0 [] w)(hRd:∀C pre A,J C pre A->RyR q1 q2 frm sb db S mb RA rc EA ec ib tb A)(hY:∀C pre x A F,J C pre A->(∀k∈C,k<A.heap.size)->RyP S.L m0 pre x->(ryX x F).holds A->(ryX x F).loc->(ryX x F).fp=F->(∀k∈F,k<A.heap.size/\k∉C)->YieldAt Fence.wide 1 Tryz.prog l (ryE x) A fun e B=>e= .returned (.bool true)/\∃C',St A C [eJ J C' (pre++[x])] B)(hm0:max frm 1=(m0:Int)+1)(hsub:∀t∈S.recs,t∈S.rr)(hed:∀t∈S.recs,t.r.eds.length<=100000)(hll:S.recs.length<=1048576):
  Calls Tryz.prog 105 #[.func (.yield l) #[] #[],po q1 0,po q2 0] w (NL S.L m0 C0 J w):=by
 have st0:St w C0 [eJ J C0 []] w:=St.lend (E:=eJ J C0 []) hJ0 (hloc _ _) hlt
 go_enter Tryz.func105,Tryz.ntmps105
 have aj:=st0
 refine wq (sqr ?_)
 refine sql (vi frm) aj (fun cx=>ae rfl (by kernel_rfl) (cx.ou 1) (Blk.cell (hRd _ _ _ (CtxV.holdF cx (cx.init 0 _ rfl) rfl)).b1 0)) ?_
 refine sql (vi ((m0:Int)+1)) aj (fun cx=>jG rfl (cx.ou 5) (cx.co _) hm0) ?_
 refine sqp [.m 4 6] ?_
 refine aa (wp_block ?_)
 refine aN (fun t_ mz az W=>∃m:Nat,∃Cj:List Nat,∃pre:List RyT,m=m0+pre.length/\m<=max S.recs.length m0/\mz=S.recs.length-m/\az=⟨(ovr (jv az) [(4,4,0,[vi ((m:Int)+1)]),(2,7,19,[])] t_).toArray,[]⟩/\St w C0 [eJ J Cj pre] W) (S.recs.length-m0) ?_ ?_
 exact⟨m0,C0,[],rfl,Nat.le_max_right _ _,rfl,(by kernel_rfl),aj.pk [0]⟩
 rintro n4 a4 W4 ⟨m,Cj,pre,hm,hmx,rfl,hj_,bc⟩
 refine ovz hj_ fun Q1=>?_
 refine wq (wq (sqr (sqp [.m 7 4] ?_)))
 refine sql (vp sb) bc (fun cx=>ae rfl (by kernel_rfl) (cx.ou 2) (Blk.cell (hRd _ _ _ (CtxV.holdF cx (cx.init 0 _ rfl) rfl)).b2 0)) ?_
 refine sqk (vi ((S.recs.length:Int))) bc (fun cx=>⟨_,Jx sb db S mb RA rc EA ec ib tb _ (hRd _ _ _ (CtxV.holdF cx (cx.init 0 _ rfl) rfl)).st,(ax (cx.ou 8))⟩) fun W7 aQ=>?_
 refine sqp [.k 10 (.bool (decide ((m:Int)+1<=(S.recs.length:Int))))] ?_
 refine aa (wds (fun nB nU=>?_) fun nB nU=>?_)
 refine wp_skip (aa (wq (wp_block (wq ?_))))
 have hml:m<S.recs.length:=by omega
 obtain⟨rt,hrt⟩:∃rt,S.recs[m]? =some rt:=⟨_,List.getElem?_eq_getElem hml⟩
 have hrr:=hsub rt (List.mem_of_getElem? hrt)
 have hI:=hed rt (List.mem_of_getElem? hrt)
 refine Ky 11 rfl ?_
 dsimp only[List.take,List.drop]
 refine sqp [.m 13 0,.m 14 4] ?_
 refine sql (vp sb) aQ (fun cx=>ae rfl (by kernel_rfl) (cx.ou 2) (Blk.cell (hRd _ _ _ (CtxV.holdF cx (cx.init 0 _ rfl) rfl)).b2 0)) ?_
 refine sqp [.k 16 (vp sb),.k 17 (po sb 4)] ?_
 refine sql (.slice RA S.recs.length rc) aQ (fun cx=>ae rfl (by kernel_rfl) (cx.ou 17) (Blk.cell (hRd _ _ _ (CtxV.holdF cx (cx.init 0 _ rfl) rfl)).st.blkL 4)) ?_
 refine sqp [.m 19 4,sI 20 (((m:Int)+1)-1) (by omega)] ?_
 refine sql (.pointer (some ((ad RA).add ((((m:Int)+1-1).toNat)*8)))) aQ (fun cx=>aB (e:=27) (m:=((m:Int)+1-1).toNat) (sz:=8) rfl (by kernel_rfl) (by kernel_rfl) (cx.ou 18) (cx.ou 20) (by omega) (by omega) (hRd _ _ _ (CtxV.holdF cx (cx.init 0 _ rfl) rfl)).st.recs (bj (sz:=8) cm (by decide) (by omega))) ?_
 refine sql (.agg #[vi rt.r.kind,vi rt.r.xid,vi rt.r.tbl,sn,sn,.slice rt.A rt.r.eds.length rt.c,sn,.string rt.r.note]) aQ (fun cx=>bF (f:=rcC) (m:=(((m:Int)+1-1).toNat)) (sz:=8) (off:=0) (n:=8) rfl (by kernel_rfl) (by kernel_rfl) (cx.ou 21) rfl cm (hRd _ _ _ (CtxV.holdF cx (cx.init 0 _ rfl) rfl)).st.recs (show S.recs[((m:Int)+1-1).toNat]? =some rt by rw[show ((m:Int)+1-1).toNat=m by omega];exact hrt) (fun k hk=>match k,hk with|0,_=>rfl|1,_=>rfl|2,_=>rfl|3,_=>rfl|4,_=>rfl|5,_=>rfl|6,_=>rfl|7,_=>rfl|k+8,hk=>absurd hk (by omega))) ?_
 refine iE (fun jw jx=> .agg #[vi rt.r.kind,vi rt.r.xid,vi rt.r.tbl,sn,sn,.slice jw rt.r.eds.length jx,sn,.string rt.r.note]) (fun jw jx=>eO 84 3 (.slice jw rt.r.eds.length jx) rt.r.eds.length (rt.r.eds.flatMap edC)) aQ (fun cx=>⟨_,(tD rt.A rt.c rt.r _ ((hRd _ _ _ (CtxV.holdF cx (cx.init 0 _ rfl) rfl)).st.own rt hrr) hI).mono (by rintro e W1 ⟨A4,c4,rfl,aT⟩;exact⟨_,_,rfl,aT⟩),(ax (cx.ou 22))⟩) fun jw jx IZ iI=>?_
 refine wpList_nil ⟨rfl,?_⟩
 have hpk_:=iI.pick [0,1] (by decide) rfl
 have hry_:=St.ry (x:=((m:Int)+1,(⟨rt.r,jw,jx⟩:RcT))) hpk_
 have hjj_:=hpk_.get 0 rfl
 have hyy_:=hY Cj pre ((m:Int)+1,(⟨rt.r,jw,jx⟩:RcT)) _ _ hjj_.holds (fun k hk=>(hjj_.own k hk).2) ⟨m,rfl,hm,by show (S.recs.map RcT.r)[m]? = _;rw[List.getElem?_map,hrt];rfl⟩ hry_.1 (Jp _ _) rfl hry_.2
 refine K1 (args:=ryE ((m:Int)+1,(⟨rt.r,jw,jx⟩:RcT))) (R:=fun B=>∃C',St _ Cj [eJ J C' (pre++[((m:Int)+1,(⟨rt.r,jw,jx⟩:RcT))])] B) rfl rfl (fun r hr=>yG (args:=ryE ((m:Int)+1,(⟨rt.r,jw,jx⟩:RcT))) rfl rfl rfl (aM rfl rfl) hr) hyy_ (by dsimp only[List.set]) fun r8 ⟨C2,hJ2⟩=>?_
 have d8:=IM (L:=[]) (iI.pick [0] (by decide) rfl) hJ2
 refine K3 rfl rfl (vu rfl rfl rfl) (by dsimp only[List.set]) ?_
 refine wpListIn_nil ?_
 refine aa (wcf rfl (wp_skip (av (aa (sqr (sqp [.m 11 4,sJ 12 (((m:Int)+1)+1) ((m:Int)+2) (by omega) (by omega),.m 4 12] ?_))))))
 refine aa ?_
 refine⟨S.recs.length-((m+1)),by omega,?_⟩
 exact⟨(m+1),C2,(pre++[((m:Int)+1,(⟨rt.r,jw,jx⟩:RcT))]),by rw[List.length_append,hm];rfl,by omega,rfl,(by kernel_rfl),d8.pk [0]⟩
 refine wp_exit (al (al (bf ?_)))
 refine bpe (.tuple #[]) (by simp[results,Tryz.results105,go_sem]) ?_
 exact⟨⟨_,rfl⟩,Cj,pre,aQ,by show m0+pre.length=max (S.recs.map RcT.r).length m0;rw[List.length_map];omega⟩
theorem Ea(q1 q2:Nat)(frm:Int)(m0:Nat)(sb db:Nat)(S:StM)(mb:Nat)(RA:Option Addr)(rc:Nat)(EA:Option Addr)(ec ib tb:Nat)(hm0:max frm 1=(m0:Int)+1)(hsub:∀t∈S.recs,t∈S.rr)(hed:∀t∈S.recs,t.r.eds.length<=100000)(hll:S.recs.length<=1048576):
  KW Tryz.prog 105 #[po q1 0,po q2 0] ryE (RyP S.L m0) ryX (fun _=>RyR q1 q2 frm sb db S mb RA rc EA ec ib tb) (RyZ S.L m0):=fun l J W C0 hloc hlt hJ0 hRd hY=>
 callsIn_wide.2 (Ef l q1 q2 frm m0 sb db S mb RA rc EA ec ib tb J C0 W hloc hlt hJ0 hRd hY hm0 hsub hed hll)
end
section
open Go.RowKit
def pbd:Value->Nat
 | .func _ _ cap=>pb (cap.getD 0 undef)
 |_=>0
def pbe:Value->Nat
 | .func _ _ cap=>pb (cap.getD 1 undef)
 |_=>0
theorem St.unniA{R:List Ent}{fp:List Nat}(h:St w0 bor (eNi sb db L told p c fp::R) W):∃S mb RA rc EA ec ib tb fpd,Nice S L told p c/\(∀t∈S.recs,t∈S.rr)/\St w0 bor (iQ sb db S mb RA rc EA ec ib tb fpd fp::R) W:=by
 obtain⟨S,hN,h0,mb,RA,rc,EA,ec,ib,tb,fpd,h1⟩:=(h.ok (eNi sb db L told p c fp) (by simp)).holds
 exact⟨S,mb,RA,rc,EA,ec,ib,tb,fpd,hN,h0.2,St.repl (L1:=[]) h rfl (fun _=>⟨h0,h1⟩) (x4 _ _ _ _ _ _ _ _ _ _ _ _)⟩
def dcl(ds:List Nat):List Deferred:=ds.map fun D=>{target:= .collected D,args:=#[]}
def eDl(ds:List Nat):Ent:=⟨ds,fun W=>ds.Nodup/\∀D∈ds,W.heap[D]? =some (.deferred (some []))⟩
theorem vC(ds:List Nat):(eDl ds).loc:=fun W W' hk h=>⟨h.1,fun D hD=>(hk D hD).trans (h.2 D hD)⟩
theorem St.dl0{L:List Ent}(h:St w0 bor L W):St w0 bor (L++[eDl []]) W:=St.pack (E:=eDl []) (h.perm (by rw[List.append_nil]):St w0 bor (L++[]) W) rfl ⟨List.nodup_nil,fun D hD=>(nomatch hD)⟩ (vC _)
theorem St.dlc{L:List Ent}{D:Nat}{ds:List Nat}(h:St w0 bor (ft D::eDl ds::L) W):St w0 bor (eDl (D::ds)::L) W:=by
 have h1:=h.ok (ft D) (by simp)
 have h2:=h.ok (eDl ds) (by simp)
 have hp:=(List.pairwise_cons.1 h.apart).1 (eDl ds) (by simp)
 have h3:=St.pack (L:=L) (E:=eDl (D::ds)) (h.perm (List.perm_append_comm (l₁:=[_,_]))) (by simp[eDl,ft]) ⟨List.nodup_cons.2 ⟨fun hd=>hp D (by simp[ft]) hd,h2.holds.1⟩,fun E hE=>?_⟩ (vC _)
 exact h3.perm (List.perm_append_singleton _ _)
 rcases List.mem_cons.1 hE with rfl|hE
 exact h1.holds
 exact h2.holds.2 E hE
theorem St.dlu{L:List Ent}{D:Nat}{ds:List Nat}(h:St w0 bor (L++[eDl (D::ds)]) W):St w0 bor (L++[eDl ds,ft D]) W:=by
 refine St.perm (L:=L++[ft D,eDl ds]) ?_ (List.Perm.append_left L (List.Perm.swap _ _ _))
 have h1:=(h.ok (eDl (D::ds)) (by simp)).holds
 have h2:=List.nodup_cons.1 h1.1
 exact h.unpackL (by simp[eDl,ft]) (fun e he=>by
  simp only[List.mem_cons,List.not_mem_nil,or_false] at he
  rcases he with rfl|rfl
  exact⟨h1.2 D (by simp),yy D⟩
  exact⟨⟨h2.2,fun E hE=>h1.2 E (List.mem_cons_of_mem _ hE)⟩,vC _⟩) (List.pairwise_pair.2 fun k hkD hk=>h2.1 ((show k=D by simpa[ft] using hkD) ▸ hk))
theorem we{n:Nat}{fn:Func}{R:Ending->World->Prop}{t0:Array Value}{L:List Ent}:∀(ds:List Nat){w:World},St w0 bor (L++[eDl ds]) w->
  (∀W,St w0 bor L W->∃v,(results fn t0).run P W= .ok v W/\R (.returned v) W)->bodyPostM Fence.wide n P fn R .ret ⟨t0,dcl ds⟩ w
 | [],w,aZ,h=>h w ⟨aZ.upd,fun e he=>aZ.ok e (List.mem_append_left _ he),(List.pairwise_append.1 aZ.apart).1⟩
 |D::ds,w,aZ,h=>by
  have h0:St w0 bor ((L++[eDl ds])++[ft D]) w:=by rw[List.append_assoc];exact aZ.dlu
  have hK:w.heap[D]? =some (.deferred (some [])):=(h0.ok (ft D) (by simp)).holds
  exact⟨by simp,.inl ⟨_,_,rfl,run_takeDeferred hK,we ds h0.takeD h⟩⟩
theorem K8{rs:List RcT}(h:rs.map RcT.r=L){r:RecM}(hr:L[m]? =some r):∃A c,rs[m]? =some ⟨r,A,c⟩:=by
 rw[<-h,List.getElem?_map] at hr
 obtain⟨t,h1,h2⟩:=Option.map_eq_some_iff.1 hr
 exact⟨t.A,t.c,by rw[h1,<-h2]⟩
theorem JJ{x:RyT}{F:List Nat}(h:(ryX x F).holds W)(hk:∀k∈F,k<W.heap.size/\k∉bor):∀W',Upd bor W W'->At W' x.2.A (x.2.r.eds.flatMap edC):=fun W' hu=>AH h.2 fun ad e _=>hu.block _ (hk _ (h.1 ad e)).1 (hk _ (h.1 ad e)).2
theorem w5(AA:Option Addr)(ac:Nat)(acs:List ActT)(frm:Int)(w:World)(hA:At w AA (acs.flatMap acC))(hok:∀a∈acs,ActOk a)(hal:acs.length<=100000000000000)(hf:kcI.ok frm):
  Calls Tryz.prog 12 #[.slice AA acs.length ac,.int .i64 frm] w (Ret (.bool true) w):=by
 refine(callsIn_wide (n:=3)).1 (callsIn_of_wp_marks Tryz.func12 rfl trivial (wpIn_wide.2 ?_) rfl)
 simp only[Tryz.ntmps12,List.size_toArray,List.length_cons,List.length_nil,Nat.reduceAdd,Nat.reduceSub,Array.replicate_succ,Array.replicate_zero,List.push_toArray,List.append_toArray,List.nil_append,List.cons_append]
 have aj:=St.start w
 refine wq (sqr (b8 #[.bool false] aj fun kD W1 ay=>?_))
 refine aa (wq (sqr (sqk (.bool true) ay (fun cx=>⟨_,BB _,jo⟩) fun W2 bu=>?_)))
 refine sqp [.k 5 (.bool true)] ?_
 refine aa (wq (sqr (sqp [.k 13 (.agg #[.pointer none,.pointer none,.pointer none,vi 0,vi 0])] ?_)))
 refine b9 #[.pointer none,.pointer none,.pointer none,vi 0,vi 0] bu fun bO W5 aR=>?_
 refine b8 #[.pointer none] aR fun q9 W6 bK=>?_
 refine aX (n:=1) 2 #[vp bO] bK fun W7 aQ=>?_
 refine aa (wq (wq (sqr (aq 2 aQ ?_))))
 refine bM (fun X_=>X_.fp) (.bool true) (fun Aa=>eWd bO 3 ([aI bgS]) (fun _=>false) 0 Aa) 1 aQ (by
   refine svA fun g b W X cx=>?_
   refine am.call (au (args:=#[vp bO,vi 3]) rfl cx.sees rfl (by kernel_rfl) (aM (cx.ou 15) (cx.co _))) ?_
   refine(Cs bO 3 _ (CtxV.holdF cx (cx.init 1 _ rfl) rfl) ((cx.bi 1 rfl)).lt (by omega)).mono ?_
   rintro e W1 ⟨rfl,fp4,aT⟩
   refine⟨_,rfl,aK (E:=eB bO 34 #[.pointer none,.pointer none,.pointer none,vi 0,vi 0]) [eWd bO 3 ([aI bgS]) (fun _=>false) 0 fp4] (cx.init 1 _ rfl) rfl rfl aT (fun d j X' hs hb hv hN=>?_)⟩
   have aJ:=(hv 16 rfl).1;have aV:=(hv 16 rfl).2
   exact⟨aJ.trans rfl,sG ((List.cons.inj hN).1)⟩) fun Aa W9 cv=>?_
 refine sqp [.k 17 (.bool false),.k 18 (.bool false)] ?_
 refine c7 18 [19,20,21,22] rfl rfl ?_
 refine aq 2 cv ?_
 refine sqp [.m 20 0] ?_
 refine bM (fun X_=>X_.fp) (.bool true) (fun Jh=>eWd bO 3 ((pa ([aI bgS],fun _=>false) acs).1) ((pa ([aI bgS],fun _=>false) acs).2) (0+17500) Jh) 1 cv (by
   refine svA fun g b W X cx=>?_
   refine am.call (au (args:=#[vp bO,.slice AA acs.length ac]) rfl cx.sees rfl (by kernel_rfl) (aM (cx.ou 19) (cx.ou 20))) ?_
   refine(BC bO 3 [aI bgS] (fun _=>false) 0 AA ac acs _ _ (CtxV.holdF cx (cx.init 1 _ rfl) rfl) (CtxV.ltF (q:=1) (E:=eWd bO 3 ([aI bgS]) (fun _=>false) 0 Aa) cx (cx.init 1 _ rfl) rfl) (cx.oldAt (q:=1) (E:=eWd bO 3 ([aI bgS]) (fun _=>false) 0 Aa) (cx.init 1 _ rfl) rfl rfl hA) hok hal (by decide)).mono ?_
   rintro e W1 ⟨rfl,fp4,aT⟩
   refine⟨_,rfl,aK (E:=eWd bO 3 ([aI bgS]) (fun _=>false) 0 Aa) [eWd bO 3 ((pa ([aI bgS],fun _=>false) acs).1) ((pa ([aI bgS],fun _=>false) acs).2) (0+17500) fp4] (cx.init 1 _ rfl) rfl rfl aT (fun d j X' hs hb hv hN=>?_)⟩
   have aJ:=(hv 21 rfl).1;have aV:=(hv 21 rfl).2
   exact⟨aJ.trans rfl,sG ((List.cons.inj hN).1)⟩) fun Jh wY cq=>?_
 refine sqp [.k 22 (.bool false)] ?_
 refine sqp [.k 23 (.bool false)] ?_
 refine aa (wp_cond_false (show Act.eval _ _= .bool false from rfl) (wp_skip (aa (wq ?_))))
 obtain⟨⟨L9,t9⟩,hr9⟩:∃z,pa ([aI bgS],fun _=>false) acs=z:=⟨_,rfl⟩
 simp only[hr9] at cq
 obtain⟨safe,db,sb,rb,fps,fpr,hw17_⟩:=cq.u1.unwd
 obtain⟨fpW,hfpW⟩:∃z,z=fps:=⟨_,rfl⟩
 subst hfpW
 obtain⟨S,mb,RA,rc,EA,ec,ib,tb,fpd,hN,hsubS,hS18_⟩:=hw17_.u1.unniA
 have hllS:=hN.ok.recs_len
 have heL:S.L=L9:=hN.eL
 have heS:S.recs.length=L9.length:=by rw[<-heL];exact(List.length_map ..).symm
 have hedS:∀t∈S.recs,t.r.eds.length<=100000:=fun t ht=>by have:=(dU (hN.ok.recs _ (List.mem_map.2 ⟨t,ht,rfl⟩))).many;omega
 obtain⟨rs,rr,hrs,hsub,ho19_⟩:=hS18_.u2.unrf
 obtain⟨QA,qc,TA,tc,hq20_⟩:=ho19_.unrq
 have hrl:rs.length=L9.length:=by rw[<-hrs,List.length_map]
 have TI:=IL frm (n:=30) (by decide)
 have TJ:=NO frm (n:=30) (by decide)
 refine sqr (sqp [.m 24 1,sRe 25 .i64 frm 30 (frm.tmod 30) (rfl),sI 26 ((frm.tmod 30)+30) (by omega),sRe 27 .i64 ((frm.tmod 30)+30) 30 (((frm.tmod 30)+30).tmod 30) (rfl),sI 28 ((((frm.tmod 30)+30).tmod 30)-3) (by omega),.m 7 28] ?_)
 refine aa (wq (wq (sqr (sqp [.k 8 (vi 0)] ?_))))
 refine aa (wp_block ?_)
 have hz28_:=hq20_.dl0
 refine ye (fun mz az W=>∃i:Nat,∃k:Int,∃ds:List Nat,i<=2/\mz=2-i/\az=⟨#[.slice AA acs.length ac,vi frm,undef,undef,vp kD,.bool true,vp q9,vi k,vi ((i:Int)),jv az 9,jv az 10,jv az 11,.bool true,.agg #[.pointer none,.pointer none,.pointer none,vi 0,vi 0],vp bO,vp bO,.bool true,.bool false,.bool false,vp bO,.slice AA acs.length ac,.bool true,.bool false,.bool false,vi frm,vi ((frm.tmod 30)),vi ((frm.tmod 30)+30),vi ((((frm.tmod 30)+30).tmod 30)),vi ((((frm.tmod 30)+30).tmod 30)-3),jv az 29,jv az 30,jv az 31,jv az 32,jv az 33,jv az 34,jv az 35,jv az 36,jv az 37,jv az 38,jv az 39,jv az 40,undef,undef,jv az 43,jv az 44,jv az 45,jv az 46,jv az 47,jv az 48,jv az 49,jv az 50,jv az 51,jv az 52,jv az 53,jv az 54,jv az 55,jv az 56,jv az 57,jv az 58,jv az 59,jv az 60,jv az 61,jv az 62,jv az 63,jv az 64,jv az 65,jv az 66,jv az 67,jv az 68,jv az 69,jv az 70,jv az 71,jv az 72,jv az 73,jv az 74,jv az 75,jv az 76,jv az 77,jv az 78,jv az 79,jv az 80,jv az 81,jv az 82,jv az 83,jv az 84,jv az 85,jv az 86,jv az 87,jv az 88,jv az 89,jv az 90,undef],dcl ds⟩/\St w [] [eB rb 69 #[vi ((5:Int)),.slice QA rs.length qc,vi ((szF (rs.map RcT.r):Int)),.slice TA 5 tc],eO 27 8 (.slice QA rs.length qc) rs.length (rs.flatMap rcC),eO 4 1 (.slice TA 5 tc) 5 (tB t9 5),eRc rr,iQ sb db S mb RA rc EA ec ib tb fpd fpW,eB bO 34 #[vp db,vp sb,vp rb,vi 3,vi safe],eB kD 4 #[.bool false],eB q9 29 #[vp bO],eDl ds] W) (2-0) ?_ ?_
 exact⟨0,(((frm.tmod 30)+30).tmod 30)-3,[],Nat.zero_le _,rfl,(by kernel_rfl),hz28_.pk [0,1,2,3,4,5,6,7,8]⟩
 rintro Ul a29 IR ⟨i,k,ds,hi,rfl,hj_,iH⟩
 obtain⟨be,hu_⟩:∃z,jv a29=z:=⟨_,rfl⟩
 rw[hu_] at hj_;clear hu_;subst hj_
 refine wq (wq (sqr (sqp [.m 29 8,.k 30 (.bool (decide ((i:Int)<2)))] ?_)))
 refine aa ?_
 rcases Bool.eq_false_or_eq_true (decide ((i:Int)<2)) with fw|fw
 have jA:(i:Int)<2:=by simpa using fw
 refine wp_cond_true (show Act.eval _ _= .bool true from(congrArg Value.bool fw)) (wp_skip (aa (wq (wp_block (wq ?_)))))
 obtain⟨m0,hm0⟩:∃m0:Nat,max k 1=(m0:Int)+1:=⟨(max k 1-1).toNat,by omega⟩
 refine sqr (sqp [.m 33 7] ?_)
 refine sql (vi ((m0:Int)+1)) iH (fun cx=>jG rfl (cx.ou 33) (cx.co _) hm0) ?_
 refine b8 #[vi 0] iH fun rN wX dY=>?_
 refine aX (n:=1) 9 #[vi ((m0:Int)+1)] dY fun zb eK=>?_
 refine aa (wq (wq (aG [0,1,3,7,0,31] [[7],[],[],[5]] [[],[],[],[],[],[10,11]] [] [.c 35 (vp bO),.k 36 (vp bO),.k 37 (po bO 1),.c 38 (vp sb),.k 39 (vi k),.a 40] (fun ix d b X=>match ix with|0|1|2|3|4=>True|5=>d 40= .func (.func 105) #[] #[vp (pbd (b 40)),vp (pbe (b 40))]/\X 10=eB (pbd (b 40)) 3 #[vi k]/\X 11=eB (pbe (b 40)) 31 #[vp sb]|_=>True) [0,1,2,3,4,5,6,7,8,9,10,11] [0,3,5] [(35,0,6,41)] eK ?_ ?_ ?_)))
 exact fun ix _ _ _ _ _ _ hs hb hx h=>match ix,h with
 |5,h=>by dsimp only;rw[<-hs 40 rfl,<-hb 40 rfl,<-hx 10 rfl,<-hx 11 rfl];exact h
 |0,_|1,_|2,_|3,_|4,_|_+6,_=>trivial
 refine⟨?_,?_,?_,trivial⟩
 exact xs4 rfl id fun cx=>ae rfl (by kernel_rfl) (cx.ou 6) ((cx.bi 7 rfl).cell 0)
 exact xs4 rfl id fun cx=>ae rfl (by kernel_rfl) (cx.an 2) ((cx.bi 5 rfl).cell 1)
 refine svA fun g b W X cx=>?_
 refine am.call (au (args:=#[vp sb,vi k]) rfl cx.sees rfl (by kernel_rfl) (aM (cx.an 3) (cx.an 4))) ?_
 refine(Dj sb k _).mono ?_
 rintro e W1 ⟨q4,q5,rfl,aT⟩
 refine⟨_,rfl,rk [eB q4 3 #[vi k],eB q5 31 #[vp sb]] rfl rfl aT (fun d j X' hs hb hv hN=>?_)⟩
 have aJ:=(hv 40 rfl).1;have aV:=(hv 40 rfl).2
 exact⟨aJ.trans (by rw[aV];rfl),(by rw[aV];exact(List.cons.inj hN).1),(by rw[aV];exact(List.cons.inj (List.cons.inj hN).2).1)⟩
 intro d b X Fh hD fE fr aD
 simp only[exq 10 ((dTn (hD 5 lq)).2.1),exq 11 ((dTn (hD 5 lq)).2.2)] at fE
 simp only[ed 40 ((dTn (hD 5 lq)).1)] at aD
 generalize pbd (b 40)=q1_40_37,pbe (b 40)=q2_40_37 at fE aD
 clear hD;subst aD;clear d b X
 refine aa (wp_block ?_)
 have Qd:=fE.pick [0,1,2,3,4,5,6,7,8,9,10,11] (by decide) rfl
 refine Cc (α:=RyT) Qd rfl (enters_of Tryz.func105 (by kernel_rfl) rfl) (encs:=ryE) (Ea q1_40_37 q2_40_37 k m0 sb db S mb RA rc EA ec ib tb hm0 hsubS hedS hllS) (fun _=>rfl) (fun pre L=>∃n:Nat,n=m0+1+pre.length/\L=[eB rb 69 #[vi ((5:Int)),.slice QA rs.length qc,vi ((szF (rs.map RcT.r):Int)),.slice TA 5 tc],eO 27 8 (.slice QA rs.length qc) rs.length (rs.flatMap rcC),eO 4 1 (.slice TA 5 tc) 5 (tB t9 5),eRc rr,iQ sb db S mb RA rc EA ec ib tb fpd fpW,eB bO 34 #[vp db,vp sb,vp rb,vi 3,vi safe],eB kD 4 #[.bool false],eB q9 29 #[vp bO],eDl ds,eB rN 3 #[vi ((n:Int))],eB q1_40_37 3 #[vi k],eB q2_40_37 31 #[vp sb]]) ⟨m0+1,rfl,rfl⟩ ?_ (fun xx a_ E_=>∃BV:Nat,a_=⟨([.slice AA acs.length ac,vi frm,undef,undef,vp kD,.bool true,vp q9,vi k,vi ((i:Int)),vp rN,vi xx.1,vp BV,.bool true,.agg #[.pointer none,.pointer none,.pointer none,vi 0,vi 0],vp bO,vp bO,.bool true,.bool false,.bool false,vp bO,.slice AA acs.length ac,.bool true,.bool false,.bool false,vi frm,vi ((frm.tmod 30)),vi ((frm.tmod 30)+30),vi ((((frm.tmod 30)+30).tmod 30)),vi ((((frm.tmod 30)+30).tmod 30)-3),vi ((i:Int)),.bool (decide ((i:Int)<2)),be 31,be 32,vi k,vi ((m0:Int)+1),vp bO,vp bO,po bO 1,vp sb,vi k,.func (.func 105) #[] #[vp q1_40_37,vp q2_40_37],vi xx.1,.agg #[vi xx.2.r.kind,vi xx.2.r.xid,vi xx.2.r.tbl,sn,sn,.slice xx.2.A xx.2.r.eds.length xx.2.c,sn,.string xx.2.r.note],be 43,be 44,be 45,be 46,be 47,be 48,be 49,be 50,be 51,be 52,be 53,be 54,be 55,be 56,be 57,be 58,be 59,be 60,be 61,be 62,be 63,be 64,be 65,be 66,be 67,be 68,be 69,be 70,be 71,be 72,be 73,be 74,be 75,be 76,be 77,be 78,be 79,be 80,be 81,be 82,be 83,be 84,be 85,be 86,be 87,be 88,be 89,be 90,undef]).toArray,[]⟩/\E_=eB BV 27 #[vi xx.2.r.kind,vi xx.2.r.xid,vi xx.2.r.tbl,sn,sn,.slice xx.2.A xx.2.r.eds.length xx.2.c,sn,.string xx.2.r.note]) (fun xx=>[.slice AA acs.length ac,vi frm,undef,undef,vp kD,.bool true,vp q9,vi k,vi ((i:Int)),vp rN,be 10,be 11,.bool true,.agg #[.pointer none,.pointer none,.pointer none,vi 0,vi 0],vp bO,vp bO,.bool true,.bool false,.bool false,vp bO,.slice AA acs.length ac,.bool true,.bool false,.bool false,vi frm,vi ((frm.tmod 30)),vi ((frm.tmod 30)+30),vi ((((frm.tmod 30)+30).tmod 30)),vi ((((frm.tmod 30)+30).tmod 30)-3),vi ((i:Int)),.bool (decide ((i:Int)<2)),be 31,be 32,vi k,vi ((m0:Int)+1),vp bO,vp bO,po bO 1,vp sb,vi k,.func (.func 105) #[] #[vp q1_40_37,vp q2_40_37],vi xx.1,.agg #[vi xx.2.r.kind,vi xx.2.r.xid,vi xx.2.r.tbl,sn,sn,.slice xx.2.A xx.2.r.eds.length xx.2.c,sn,.string xx.2.r.note],be 43,be 44,be 45,be 46,be 47,be 48,be 49,be 50,be 51,be 52,be 53,be 54,be 55,be 56,be 57,be 58,be 59,be 60,be 61,be 62,be 63,be 64,be 65,be 66,be 67,be 68,be 69,be 70,be 71,be 72,be 73,be 74,be 75,be 76,be 77,be 78,be 79,be 80,be 81,be 82,be 83,be 84,be 85,be 86,be 87,be 88,be 89,be 90,undef]) (fun xx=>by kernel_rfl) ?_ ?_ ?_
 rintro pre L A ⟨n,hn,rfl⟩ hA_
 exact⟨hA_ (eB q1_40_37 3 #[vi k]) (by simp),hA_ (eB q2_40_37 31 #[vp sb]) (by simp),kd (hA_ (iQ sb db S mb RA rc EA ec ib tb fpd fpW) (by simp))⟩
 intro rl xx zi K hK
 have gG:=St.start zi
 refine wpIn_seq (w8 [0] [.k 10 (vi xx.1)] [(10,0,1,11)] gG fun uz dR=>?_)
 refine aa (lM [0,1] [[],[0]] [[0],[1]] [[],[0]] [.a 11,.n] (fun ix d b X=>match ix with|0=>d 11=vp (pb (b 11))/\X 0=eB (pb (b 11)) 27 #[vi 0,vi 0,vi 0,sn,sn,sn,sn,.string ByteArray.empty]|1=>X 1=eB (pb (b 11)) 27 #[vi xx.2.r.kind,vi xx.2.r.xid,vi xx.2.r.tbl,sn,sn,.slice xx.2.A xx.2.r.eds.length xx.2.c,sn,.string xx.2.r.note]|_=>True) [1] [0,1] [(11,0,1,12)] dR ?_ ?_ ?_)
 exact fun ix _ _ _ _ _ _ hs hb hx h=>match ix,h with
 |0,h=>by dsimp only;rw[<-hs 11 rfl,<-hb 11 rfl,<-hx 0 rfl];exact h
 |1,h=>by dsimp only;rw[<-hb 11 rfl,<-hx 1 rfl];exact h
 |_+2,_=>trivial
 refine⟨?_,?_,trivial⟩
 refine svA fun g b W X cx=>?_
 exact dm (cs:=#[vi 0,vi 0,vi 0,sn,sn,sn,sn,.string ByteArray.empty]) rfl (by kernel_rfl) rfl rfl (fun _ _ _ _ _=> .intro)
 refine svA fun g b W X cx=>?_
 exact bx (n:=8) rfl (dTn (cx.an 0)).1 (cx.ou 42) (by kernel_rfl) (by kernel_rfl) (by kernel_rfl) cx (dTn (cx.an 0)).2 rfl (nle rfl) (by kernel_rfl) rfl rfl rfl (fun d j X' hs hb hx=>by rw[hb 11];exact hx)
 intro d b X Fe hD gZ fr aD
 simp only[exq 1 ((dTn (hD 1 lq)))] at gZ
 simp only[ed 11 ((dTn (hD 0 lq)).1)] at aD
 generalize pb (b 11)=RE at gZ aD
 clear hD;subst aD;clear d b X
 exact hK _ _ _ ⟨_,rfl,rfl⟩ (gZ.pick [0] (by decide) rfl)
 rintro rl pre xx pP L42 a42 E42 ⟨n,hn,rfl⟩ hPx ⟨BV,rfl,rfl⟩ ⟨FX,hX_,hXk_⟩ FR
 have eN:St pP (fps ([eB rb 69 #[vi ((5:Int)),.slice QA rs.length qc,vi ((szF (rs.map RcT.r):Int)),.slice TA 5 tc],eO 27 8 (.slice QA rs.length qc) rs.length (rs.flatMap rcC),eO 4 1 (.slice TA 5 tc) 5 (tB t9 5),eRc rr,iQ sb db S mb RA rc EA ec ib tb fpd fpW,eB bO 34 #[vp db,vp sb,vp rb,vi 3,vi safe],eB kD 4 #[.bool false],eB q9 29 #[vp bO],eDl ds,eB rN 3 #[vi ((n:Int))],eB q1_40_37 3 #[vi k],eB q2_40_37 31 #[vp sb]]++[eB BV 27 #[vi xx.2.r.kind,vi xx.2.r.xid,vi xx.2.r.tbl,sn,sn,.slice xx.2.A xx.2.r.eds.length xx.2.c,sn,.string xx.2.r.note]])) [eB rb 69 #[vi ((5:Int)),.slice QA rs.length qc,vi ((szF (rs.map RcT.r):Int)),.slice TA 5 tc],eO 27 8 (.slice QA rs.length qc) rs.length (rs.flatMap rcC),eO 4 1 (.slice TA 5 tc) 5 (tB t9 5),eRc rr,iQ sb db S mb RA rc EA ec ib tb fpd fpW,eB bO 34 #[vp db,vp sb,vp rb,vi 3,vi safe],eB kD 4 #[.bool false],eB q9 29 #[vp bO],eDl ds,eB rN 3 #[vi ((n:Int))],eB q1_40_37 3 #[vi k],eB q2_40_37 31 #[vp sb],eB BV 27 #[vi xx.2.r.kind,vi xx.2.r.xid,vi xx.2.r.tbl,sn,sn,.slice xx.2.A xx.2.r.eds.length xx.2.c,sn,.string xx.2.r.note]] pP:=FR
 clear FR
 obtain⟨m,hx1_,hmp_,hxr_⟩:=hPx
 rw[heL] at hxr_
 have hml:=(List.getElem?_eq_some_iff.1 hxr_).1
 obtain⟨QA9,qc9,hq9⟩:=K8 hrs hxr_
 have hX2_:=JJ hX_ hXk_
 have hed9:=hedS
 have hmany:xx.2.r.eds.length<=100000:=by rw[<-heL] at hxr_;have:=(dU (hN.ok.recs _ (List.mem_of_getElem? hxr_))).many;omega
 rw[hx1_]
 refine wpIn_block (wpIn_seq (wpIn_seq ?_))
 have hd44:(((m:Int)+1) != (n:Int))=false:=(bne_eq_false_iff_eq.2 (by omega))
 have hd45:(decide ((rs.length:Int)<(m:Int)+1))=false:=(decide_eq_false (by omega))
 refine xc [0,0,3,7,15,15,47,111,239,495,1007,2031,4079,8191,16383,32767,65535,65535,196607,458751,983039,2031615,4128767,8323071,65535,16842751,67043327,134152191,268435455,536870911,1073741823] [[],[9],[],[],[],[7],[],[],[5],[],[],[0],[],[],[],[],[12],[7],[],[],[5],[],[],[0],[],[],[1],[1],[3]] [.k 43 (vi ((m:Int)+1)),.c 44 (vi ((n:Int))),.e 45 (.bool (((m:Int)+1) != (n:Int))) (.bool false) (congrArg Value.bool hd44),.k 46 (.bool false),.k 47 (vi ((m:Int)+1)),.c 48 (vp bO),.k 49 (vp bO),.k 50 (po bO 2),.c 51 (vp rb),.k 52 (vp rb),.k 53 (po rb 1),.c 54 (.slice QA rs.length qc),.k 55 (vi ((rs.length:Int))),.e 56 (.bool (decide ((rs.length:Int)<(m:Int)+1))) (.bool false) (congrArg Value.bool hd45),.k 57 (.bool false),.k 58 (.bool false),.c 59 (.agg #[vi xx.2.r.kind,vi xx.2.r.xid,vi xx.2.r.tbl,sn,sn,.slice xx.2.A xx.2.r.eds.length xx.2.c,sn,.string xx.2.r.note]),.c 60 (vp bO),.k 61 (vp bO),.k 62 (po bO 2),.c 63 (vp rb),.k 64 (vp rb),.k 65 (po rb 1),.c 66 (.slice QA rs.length qc),.k 67 (vi ((m:Int)+1)),tI 68 (((m:Int)+1)-1) (by omega),.c 69 (.pointer (some ((ad QA).add ((((m:Int)+1-1).toNat)*8)))),.c 70 (.agg #[vi xx.2.r.kind,vi xx.2.r.xid,vi xx.2.r.tbl,sn,sn,.slice QA9 xx.2.r.eds.length qc9,sn,.string xx.2.r.note]),.c 71 (.bool true),.k 72 (.bool false),.k 73 (.bool false)] [0,1,2,3,4,5,6,7,8,9,10,11,12] [1,5,8,11,16,17,20,23,26,27,28] [(43,0,31,74)] eN ?_ fun IN kh=>?_
 refine⟨?_,?_,?_,?_,?_,?_,?_,?_,?_,?_,?_,trivial⟩
 exact xs4 rfl id fun cx=>ae rfl (by kernel_rfl) (cx.ou 9) ((cx.bi 9 rfl).cell 0)
 exact xs5 rfl id (fun cx=>(cx.an 3)) fun cx=>ae rfl (by kernel_rfl) (cx.ou 6) ((cx.bi 7 rfl).cell 0)
 exact xs5 rfl id (fun cx=>(cx.an 3)) fun cx=>ae rfl (by kernel_rfl) (cx.an 7) ((cx.bi 5 rfl).cell 2)
 exact xs5 rfl id (fun cx=>(cx.an 3)) fun cx=>ae rfl (by kernel_rfl) (cx.an 10) ((cx.bi 0 rfl).cell 1)
 exact xs5 rfl id (fun cx=>(cx.an 15)) fun cx=>ce (n:=8) rfl (by kernel_rfl) (by kernel_rfl) (cx.ou 11) (cx.bi 12 rfl) (nle rfl) rfl
 exact xs5 rfl id (fun cx=>(cx.an 15)) fun cx=>ae rfl (by kernel_rfl) (cx.ou 6) ((cx.bi 7 rfl).cell 0)
 exact xs5 rfl id (fun cx=>(cx.an 15)) fun cx=>ae rfl (by kernel_rfl) (cx.an 19) ((cx.bi 5 rfl).cell 2)
 exact xs5 rfl id (fun cx=>(cx.an 15)) fun cx=>ae rfl (by kernel_rfl) (cx.an 22) ((cx.bi 0 rfl).cell 1)
 exact xs5 rfl id (fun cx=>(cx.an 15)) fun cx=>aB (e:=27) (m:=((m:Int)+1-1).toNat) (sz:=8) rfl (by kernel_rfl) (by kernel_rfl) (cx.an 23) (cx.an 25) (by omega) (by omega) (At.of_ownN (cx.ri 1 rfl)) (by have h_:=me (f:=rcC) (sz:=8) cm rs;show 0<(List.flatMap rcC rs).length;omega)
 exact xs5 rfl id (fun cx=>(cx.an 15)) fun cx=>bF (f:=rcC) (m:=(((m:Int)+1-1).toNat)) (sz:=8) (off:=0) (n:=8) rfl (by kernel_rfl) (by kernel_rfl) (cx.an 26) rfl cm (At.of_ownN (cx.ri 1 rfl)) (show rs[((m:Int)+1-1).toNat]? =some ⟨xx.2.r,QA9,qc9⟩ by rw[show ((m:Int)+1-1).toNat=m by omega];exact hq9) (fun k hk=>match k,hk with|0,_=>rfl|1,_=>rfl|2,_=>rfl|3,_=>rfl|4,_=>rfl|5,_=>rfl|6,_=>rfl|7,_=>rfl|k+8,hk=>absurd hk (by omega))
 exact BF rfl rfl rfl rfl rfl rfl (fun _ _ _ h=>h) (fun _ _ _ _ cx=>(cx.an 15)) fun g b W X cx=>⟨_,_,au (args:=#[.agg #[vi xx.2.r.kind,vi xx.2.r.xid,vi xx.2.r.tbl,sn,sn,.slice xx.2.A xx.2.r.eds.length xx.2.c,sn,.string xx.2.r.note],.agg #[vi xx.2.r.kind,vi xx.2.r.xid,vi xx.2.r.tbl,sn,sn,.slice QA9 xx.2.r.eds.length qc9,sn,.string xx.2.r.note]]) rfl cx.sees rfl (by kernel_rfl) (aM (cx.an 16) (cx.an 27)),EC xx.2.r _ _ _ _ _ (hX2_ _ cx.upd) (dI (CtxV.holdF cx (cx.init 3 _ rfl) rfl) (hsub _ (List.mem_of_getElem? hq9))) hmany⟩
 refine aa (wpIn_cond_false (show Act.eval _ _= .bool false from rfl) (wpIn_skip (aa (lM [0,1,3] [[9],[],[9]] [[],[],[13]] [[],[],[9]] [.c 74 (vi ((n:Int))),tI 75 ((n:Int)+1) (by omega),.n] (fun ix d b X=>match ix with|0|1=>True|2=>X 13=eB rN 3 #[vi ((n:Int)+1)]|_=>True) [0,1,2,3,4,5,6,7,8,10,11,12,13] [0,2] [(74,0,2,76)] kh ?_ ?_ ?_))))
 exact fun ix _ _ _ _ _ _ hs hb hx h=>match ix,h with
 |2,h=>by dsimp only;rw[<-hx 13 rfl];exact h
 |0,_|1,_|_+3,_=>trivial
 refine⟨?_,?_,trivial⟩
 exact xs4 rfl id fun cx=>ae rfl (by kernel_rfl) (cx.ou 9) ((cx.bi 9 rfl).cell 0)
 refine svA fun g b W X cx=>?_
 exact bx (n:=1) rfl (cx.ou 9) (cx.an 1) (by kernel_rfl) (by kernel_rfl) (by kernel_rfl) cx (cx.init 9 _ rfl) rfl (nle rfl) (by kernel_rfl) rfl rfl rfl (fun _ _ _ _ _=>id)
 intro d b X Bp hD fq fr aD
 simp only[exq 13 ((dTn (hD 2 lq)))] at fq
 clear hD;subst aD;clear d b X
 refine av ?_
 exact⟨rfl,_,⟨(n+1),by rw[List.length_append,hn];rfl,rfl⟩,fq.pick [0,1,2,3,4,5,6,7,8,12,9,10] (by decide) rfl⟩
 rintro D38 TK L38 XS_ ⟨n,hn,rfl⟩ hZ_ FS
 simp only[List.cons_append,List.nil_append] at FS
 have hd47_:=St.dlc FS.u8.u12
 have hZ2_:m0+XS_.length=max L9.length m0:=by rw[<-heL];exact hZ_
 refine av (aa (wq (wq ?_)))
 have hd49:((n:Int) != (max ((rs.length:Int)+1) (max k 1)))=false:=(bne_eq_false_iff_eq.2 (by omega))
 refine bP [0,0,2,6,14,30,62,126,254,510,0,1024,4094,8191] [[9],[8],[],[],[6],[],[],[1]] [.c 76 (vi ((n:Int))),.c 77 (vp bO),.k 78 (vp bO),.k 79 (po bO 2),.c 80 (vp rb),.k 81 (vp rb),.k 82 (po rb 1),.c 83 (.slice QA rs.length qc),.k 84 (vi ((rs.length:Int))),tI 85 ((rs.length:Int)+1) (by omega),.k 86 (vi k),.c 87 (vi (max k 1)),.c 88 (vi (max ((rs.length:Int)+1) (max k 1))),.e 89 (.bool ((n:Int) != (max ((rs.length:Int)+1) (max k 1)))) (.bool false) (congrArg Value.bool hd49)] [0,1,2,3,4,5,6,7,8,9,10,11] [0,1,4,7,11,12] [(76,0,14,90)] hd47_ ?_ fun O1 uO=>?_
 refine⟨?_,?_,?_,?_,?_,?_,trivial⟩
 exact xs4 rfl id fun cx=>ae rfl (by kernel_rfl) (cx.ou 9) ((cx.bi 9 rfl).cell 0)
 exact xs4 rfl id fun cx=>ae rfl (by kernel_rfl) (cx.ou 6) ((cx.bi 8 rfl).cell 0)
 exact xs4 rfl id fun cx=>ae rfl (by kernel_rfl) (cx.an 3) ((cx.bi 6 rfl).cell 2)
 exact xs4 rfl id fun cx=>ae rfl (by kernel_rfl) (cx.an 6) ((cx.bi 1 rfl).cell 1)
 exact xs4 rfl id fun cx=>jG rfl (cx.an 10) (cx.co _) rfl
 exact xs4 rfl id fun cx=>jG rfl (cx.an 9) (cx.an 11) rfl
 refine aa (wp_cond_false (show Act.eval _ _= .bool false from rfl) (wp_skip (aa (sqr (sqp [.m 90 1,.m 7 90] ?_)))))
 refine av (aa (sqr (sqp [.m 31 8,sI 32 ((i:Int)+1) (by omega),.m 8 32] ?_)))
 refine aa ?_
 refine⟨2-((i+1)),by omega,?_⟩
 exact⟨(i+1),frm,(D38::ds),by omega,rfl,(by kernel_rfl),uO.pk [1,2,3,4,5,6,7,8,0]⟩
 have jA:¬((i:Int)<2):=by simpa using fw
 refine wp_cond_false (show Act.eval _ _= .bool false from(congrArg Value.bool fw)) (wp_exit (al (al (bf (aa (wq (sqr (sqp [.k 91 (.bool true)] ?_))))))))
 refine aX (n:=1) 6 #[.bool true] iH fun Mm l6=>?_
 refine aa (wp_ret ?_)
 refine we _ (L:=[eB rb 69 #[vi ((5:Int)),.slice QA rs.length qc,vi ((szF (rs.map RcT.r):Int)),.slice TA 5 tc],eO 27 8 (.slice QA rs.length qc) rs.length (rs.flatMap rcC),eO 4 1 (.slice TA 5 tc) 5 (tB t9 5),eRc rr,iQ sb db S mb RA rc EA ec ib tb fpd fpW,eB bO 34 #[vp db,vp sb,vp rb,vi 3,vi safe],eB kD 4 #[.bool true],eB q9 29 #[vp bO]]) (l6.pick [0,1,2,3,4,5,6,7,8] (by decide) rfl) fun Wt57 ht57=>?_
 refine⟨.bool true,(ag Tryz.results12 (rpc (ht57.blk 6 rfl) 0)),?_⟩
 exact Ret.of rfl ht57.ext
end
section
open Go.ChangeShapes Go.WideShapes Go.ChangeAt Go.RowKit Go.Deep Go.Joins
theorem y3:ownKnob Tryz.prog.godebug=none:=by kernel_rfl
theorem Ko:laidOutB Tryz.prog=true:=by kernel_rfl
section
variable{H:Type}{enc:TypeId×Value->H}{P:Program}
theorem pM(hl:laidOutB P=true){sp:Nat->Bool}:∀{ts:List TypeId}{vs:List Value}{ds:List (DataW H)}{ps:List MemPlace},(∀t∈ts,P.readableRec t=true/\t<P.types.size)->
  DataW.TrodAll enc P W 0 (fun _=>true) true ts vs ds ps->(∀p∈ps,W.sameAt W' p)->(∀p∈ps,sp p.block=true)->DataW.TrodAll enc P W' 0 sp true ts vs ds ps
 | [],[],[],_,_,h,_,_=>h
 |t:: _,_:: _,_:: _,_,hT,⟨p,q,h1,h2,e⟩,hsm,hs=>
  ⟨p,q,WideElems.Trod_stays hl (hT t (by simp)).1 (hT t (by simp)).2 h1 (fun x hx=>hsm x (by rw[e];exact List.mem_append_left _ hx)) (fun x hx=>hs x (by rw[e];exact List.mem_append_left _ hx)),
    pM hl (fun t ht=>hT t (by simp[ht])) h2 (fun x hx=>hsm x (by rw[e];exact List.mem_append_right _ hx)) (fun x hx=>hs x (by rw[e];exact List.mem_append_right _ hx)),e⟩
theorem F4{f:Func}{s:ChangeSpec}{fresh handsOn again:Bool}{args:Array Value}{ds gs:List (DataW H)}{before:List MemPlace}{tb:TypeId}
  (hl:laidOutB P=true) (hT:∀t∈f.params.toList,P.readableRec t=true/\t<P.types.size) (hr:f.resultTypes=#[tb]) (hb:P.underlying tb=some .bool)
  (hW:DataW.Whole enc P f.params.toList s.vars false W args.toList ds gs before) (hvs:s.vars=[])
  (hres:(s.fn H (ds++gs)).results=[.lit (.bool true)]) (hargs:(s.fn H (ds++gs)).args=ds) (hvars:(s.fn H (ds++gs)).vars=[]) (hx:Ext W W'):
  s.post enc P f false fresh handsOn again W args (.bool true) W':=by
 have hlt:∀p∈before,p.block<W.heap.size:=fun p hp=>hW.lt p hp
 have hold:∀p∈before,(fun b=>decide (b<W.heap.size)) p.block=true:=fun p hp=>by simpa using hlt p hp
 have hW0:=hW
 obtain⟨p,q,hA,hV,rfl,hz,hn⟩:=hW
 rw[hvs] at hV
 obtain⟨rfl,rfl⟩:=trodVars_none hV
 rw[List.append_nil] at hlt hold hz
 have HA:∀sp:Nat->Bool,(∀x∈p,sp x.block=true)->DataW.TrodAll enc P W' 0 sp true f.params.toList args.toList (s.fn H (ds++[])).args p:=fun sp hs=>by
  rw[hargs]
  exact pM hl hT hA (fun x hx'=>hx.out.same (hlt x hx')) hs
 have HR:∀(b:Nat) (sp:Nat->Bool) (hd:Bool),DataW.TrodAll enc P W' b sp hd f.resultTypes.toList ((Value.bool true).resultList f.resultTypes.size) (s.fn H (ds++[])).results []:=fun b sp hd=>by
  rw[hres,hr]
  exact trodAll_cons_mk (shut_bool hb _) trodAll_mk0
 have HV:∀sp:Nat->Bool,DataW.TrodVars enc P W' sp s.vars (s.fn H (ds++[])).vars []:=fun sp=>by
  rw[hvs,hvars]
  rfl
 refine⟨ds,[],p++[],[],p,[],hW0,HR _ _ _,HA _ hold,HV _,World.keptBut_mono (fun x hx'=>⟨hx',?_⟩) (hx.out.frame (·∈p++[])),fun _=>?_⟩
 rw[List.append_nil] at hx'
 exact Or.inr (Or.inl hx')
 refine⟨?_,_,_,([]++p)++[],⟨[]++p,[],trodAll_append (HA _ (fun _ _=>rfl)) (HR _ _ _),HV _,rfl,?_,fun ha=>by cases ha⟩,?_⟩
 exact ok_one hr rfl (okWide_bool_mk hb _)
 intro b off hp
 have hin:MemPlace.cell b off∈p:=by simpa using hp
 rw[hx.out.frozen (hlt _ hin)]
 exact hz b off hin
 intro x hx' _
 simpa using hx'
end
end
section
open Go.ChangeShapes Go.WideShapes Go.ChangeAt Go.RowKit Go.Deep Go.Joins
inductive Sh where
 |int (k:IntKind)
 |bool
 |str
 |sl (e:Sh) (bs:Nat)
 |st (fs:List Sh)
mutual
def Sh.n:Sh->Nat
 | .st fs=>Sh.ns fs
 | .int _=>1
 | .bool=>1
 | .str=>1
 | .sl _ _=>1
def Sh.ns:List Sh->Nat
 | []=>0
 |f::fs=>f.n+Sh.ns fs
end
mutual
def np(w:World):Sh->List Value->Prop
 | .int k,cs=>∃z,cs=[.int k z]/\(Lit.int k z).wf=true
 | .bool,cs=>∃b,cs=[.bool b]
 | .str,cs=>∃s:ByteArray,cs=[.string s]/\s.size<=140737488351232
 | .sl e bs,cs=>∃(A:Option Addr) (n c:Nat) (xs:List Value),cs=[.slice A n c]/\At w A xs/\xs.length=n*e.n/\n<=c/\c*bs<=140737488351232/\∀i,i<n->np w e ((xs.drop (i*e.n)).take e.n)
 | .st fs,cs=>mP w fs cs
def mP(w:World):List Sh->List Value->Prop
 | [],cs=>cs=[]
 |f::fs,cs=>∃a b,cs=a++b/\np w f a/\mP w fs b
end
mutual
def Sh.fits(P:Program):Sh->TypeId->Bool
 | .int k,t=>match P.underlying t with|some (.int k')=>decide (k'=k)|_=>false
 | .bool,t=>match P.underlying t with|some .bool=>true|_=>false
 | .str,t=>match P.underlying t with|some .string=>true|_=>false
 | .sl e bs,t=>match P.underlying t with|some (.slice u)=>e.fits P u&&decide (P.cellsOf u=e.n)&&decide (P.bytesOf u=bs)&&decide (0<e.n)|_=>false
 | .st fs,t=>match P.underlying t with
   |some (.struct gs)=>decide (P.cellsOf t=Sh.ns fs)&&Sh.fitsF P fs gs.toList 0
   |some (.array n u)=>decide (P.cellsOf t=Sh.ns fs)&&decide (fs.length=n)&&Sh.fitsA P fs u
   |_=>false
def Sh.fitsF(P:Program):List Sh->List Field->Nat->Bool
 | [],[],_=>true
 |f::fs,g::gs,off=>decide (g.offset=off)&&decide (P.cellsOf g.type=f.n)&&f.fits P g.type&&Sh.fitsF P fs gs (off+f.n)
 |_,_,_=>false
def Sh.fitsA(P:Program):List Sh->TypeId->Bool
 | [],_=>true
 |f::fs,u=>decide (P.cellsOf u=f.n)&&f.fits P u&&Sh.fitsA P fs u
end
theorem AN{α c:Type}{f:α->Option c}:∀{l:List α}{ys:List c},l.mapM f=some ys->ys.length=l.length/\∀(i:Nat) (a:α),l[i]? =some a->f a=ys[i]?
 | [],ys,h=>by simp at h;subst h;simp
 |a::l,ys,h=>by
  simp only[List.mapM_cons,Option.bind_eq_bind,Option.pure_def,Option.bind_eq_some_iff] at h
  obtain⟨b,hb,bs,hbs,he⟩:=h
  obtain rfl:b::bs=ys:=by simpa using he
  obtain⟨h1,h2⟩:=AN hbs
  refine⟨by simp[h1],fun i x hx=>?_⟩
  cases i with
  |zero=>simp at hx;subst hx;simpa using hb
  |succ i=>simpa using h2 i x (by simpa using hx)
section
variable{H:Type}{enc:TypeId×Value->H}{P:Program}
theorem pJ{e:TypeId}:∀{ds:List (DataW H)}(i:Nat) (d:DataW H),ds[i]? =some d->∀x∈d.weights P e,x∈DataW.weightsAll P e ds
 | [],i,d,h,x,hx=>by simp at h
 |d0::ds,0,d,h,x,hx=>by
  simp at h;subst h
  simp only[DataW.weightsAll,List.mem_append];exact .inl hx
 |d0::ds,i+1,d,h,x,hx=>by
  simp only[DataW.weightsAll,List.mem_append]
  exact .inr (pJ i d (by simpa using h) x hx)
theorem Dk{a:Addr}{len:Nat}(hm:0<m)(h:∀i,i<len->∃csi,w.cells? 0 (a.add (i*m)) m=some csi):
  ∃xs:List Value,xs.length=len*m/\At w (some a) xs/\∀i,i<len->∀csi,w.cells? 0 (a.add (i*m)) m=some csi->(xs.drop (i*m)).take m=csi:=by
 have key:∀i,i<len->∀csi,w.cells? 0 (a.add (i*m)) m=some csi->csi.length=m/\∀r,r<m->w.cell? (a.add (i*m+r))=csi[r]? :=by
  intro i hi csi hc
  unfold World.cells? at hc
  rw[if_pos (Nat.zero_le _)] at hc
  obtain⟨h1,h2⟩:=AN hc
  refine⟨by simpa using h1,fun r hr=>?_⟩
  have:=h2 r r (by simp[hr])
  rw[sD] at this
  exact this
 have each:∀j,j<len*m->∃u,w.cell? (a.add j)=some u:=by
  intro j hj
  have hi:j / m<len:=by rw[Nat.div_lt_iff_lt_mul hm];exact hj
  obtain⟨csi,hc⟩:=h _ hi
  obtain⟨h1,h2⟩:=key _ hi _ hc
  have hr:=Nat.mod_lt j hm
  have:=h2 _ hr
  rw[show j / m*m+j % m=j by rw[Nat.mul_comm];exact Nat.div_add_mod j m] at this
  rw[List.getElem?_eq_getElem (by omega)] at this
  exact⟨_,this⟩
 refine⟨(List.range (len*m)).map fun j=>(w.cell? (a.add j)).getD undef,by simp,fun j u hu=>?_,fun i hi csi hc=>?_⟩
 rw[List.getElem?_map] at hu
 rcases Nat.lt_or_ge j (len*m) with hj|hj
 obtain⟨v,hv⟩:=each j hj
 rw[List.getElem?_range hj] at hu
 simp only[Option.map_some,hv,Option.getD_some,Option.some.injEq] at hu
 subst hu
 have:=World.block_lt_of_cell? _ _ hv
 rw[qf] at this
 exact⟨a,rfl,this,hv⟩
 rw[List.getElem?_eq_none (by simpa using hj)] at hu;cases hu
 obtain⟨h1,h2⟩:=key i hi csi hc
 have hb:i*m+m<=len*m:=by
  have:(i+1)*m<=len*m:=Nat.mul_le_mul_right m hi
  rw[Nat.add_mul,Nat.one_mul] at this
  exact this
 apply List.ext_getElem?
 intro r
 rw[List.getElem?_take]
 by_cases hr:r<m
 rw[if_pos hr,List.getElem?_drop,List.getElem?_map,List.getElem?_range (by omega),Option.map_some,h2 r hr,List.getElem?_eq_getElem (by omega)]
 rfl
 rw[if_neg hr,List.getElem?_eq_none (by omega)]
mutual
theorem rd:∀(s:Sh) (t:TypeId) (fuel:Nat) (cs:List Value) (x:DataW H×List MemPlace),s.fits P t=true->DataW.trod enc P w 0 (fun _=>true) true fuel t cs=some x->
  (∀n∈x.1.weights P t,n<=reachBytes)->np w s cs
 | .int k,t,fuel,cs,x,hf,h,hw=>by
   simp only[Sh.fits] at hf
   split at hf
   rename_i k' hu
   obtain rfl:=of_decide_eq_true hf
   obtain⟨z,hc,_,hz⟩:=DataW.trod_int hu h
   exact⟨z,hc,hz⟩
   cases hf
 | .bool,t,fuel,cs,x,hf,h,hw=>by
   simp only[Sh.fits] at hf
   split at hf
   rename_i hu
   obtain⟨b,hc,_⟩:=DataW.trod_bool hu h
   exact⟨b,hc⟩
   cases hf
 | .str,t,fuel,cs,x,hf,h,hw=>by
   simp only[Sh.fits] at hf
   split at hf
   rename_i hu
   obtain⟨s,hc,rfl,_⟩:=DataW.trod_string hu h
   refine⟨s,hc,?_⟩
   have:=hw s.data.toList.length (by simp[DataW.weights])
   exact this
   cases hf
 | .sl e bs,t,fuel,cs,x,hf,h,hw=>by
   simp only[Sh.fits] at hf
   split at hf
   rename_i u hu
   simp only[Bool.and_eq_true,decide_eq_true_eq] at hf
   obtain⟨⟨⟨he,hm⟩,hb⟩,hp⟩:=hf
   rcases DataW.trod_slice hu h with ⟨rfl,rfl⟩|⟨a,len,cap,elems,rest,n,_,rfl,rfl,_,hl,_,hlen,hel,hsp,_⟩
   exact⟨none,0,0,[],rfl,At.nil _ _,by simp,by simp,by simp,fun i hi=>by omega⟩
   obtain⟨hrl,_⟩:=hsp rfl
   rw[hm] at hel
   have hsz:=hw ((elems.length+rest.length)*P.bytesOf u) (by simp[DataW.weights,hu])
   rw[hlen,hrl,hb] at hsz
   have hR:reachBytes=140737488351232:=rfl
   rw[hR] at hsz
   have hex:∀i,i<len->∃csi y,w.cells? 0 (a.add (i*e.n)) e.n=some csi/\elems[i]? =some y/\DataW.trod enc P w 0 (fun _=>true) true n u csi=some y:=by
    intro i hi
    have h1:=hel i hi
    rw[List.getElem?_eq_getElem (by omega),Option.bind_eq_some_iff] at h1
    obtain⟨csi,hc,hy⟩:=h1
    exact⟨csi,_,hc,List.getElem?_eq_getElem (by omega),hy⟩
   obtain⟨xs,hxl,hxa,hxe⟩:=Dk (w:=w) (a:=a) (len:=len) hp (fun i hi=>let ⟨csi,_,hc,_⟩:=hex i hi;⟨csi,hc⟩)
   refine⟨some a,len,cap,xs,rfl,hxa,hxl,hl,?_,fun i hi=>?_⟩
   rw[show len+(cap-len)=cap by omega] at hsz
   exact hsz
   obtain⟨csi,y,hc,hy,ht⟩:=hex i hi
   rw[hxe i hi csi hc]
   refine rd e u n csi y he ht fun z hz=>hw z ?_
   simp only[DataW.weights,hu,List.mem_cons,List.mem_append]
   refine .inr (.inl ?_)
   exact pJ i y.1 (by rw[List.getElem?_map,hy];rfl) z hz
   cases hf
 | .st fs,t,fuel,cs,x,hf,h,hw=>by
   simp only[Sh.fits] at hf
   split at hf
   rename_i gs hu
   simp only[Bool.and_eq_true,decide_eq_true_eq] at hf
   obtain⟨hc,hF⟩:=hf
   obtain⟨xs,n,_,rfl,hcl,hxl,hat⟩:=DataW.trod_struct hu h
   have:=yb fs gs.toList 0 cs xs n hF (fun i g hg=>hat i g (by rw[<-hg];exact(Array.getElem?_toList ..).symm)) (by simpa using hxl) (by omega) (fun z hz=>hw z (by simp only[DataW.weights,hu];exact hz))
   rw[List.drop_zero,List.take_of_length_le (by omega)] at this
   exact this
   rename_i n u hu
   simp only[Bool.and_eq_true,decide_eq_true_eq] at hf
   obtain⟨⟨hc,hn⟩,hF⟩:=hf
   obtain⟨xs,m,_,rfl,hcl,hxl,hat⟩:=DataW.trod_array hu h
   have:=x5 fs u 0 cs xs m hF (fun i hi=>by rw[Nat.zero_add];exact hat i (by omega)) (by omega) (by rw[Nat.zero_mul,Nat.zero_add];omega) (fun z hz=>hw z (by simp only[DataW.weights,hu];exact hz))
   rw[Nat.zero_mul,List.drop_zero,List.take_of_length_le (by omega)] at this
   exact this
   cases hf
theorem yb:∀(fs:List Sh) (gs:List Field) (off:Nat) (cs:List Value) (xs:List (DataW H×List MemPlace)) (m:Nat),Sh.fitsF P fs gs off=true->
  (∀(i:Nat) (g:Field),gs[i]? =some g->DataW.trod enc P w 0 (fun _=>true) true m g.type ((cs.drop g.offset).take (P.cellsOf g.type))=xs[i]?)->xs.length=gs.length->off+Sh.ns fs<=cs.length->
  (∀n∈DataW.weightsEach P (gs.map (·.type)) (xs.map (·.1)),n<=reachBytes)->mP w fs ((cs.drop off).take (Sh.ns fs))
 | [],[],off,cs,xs,m,hf,h,hx,hl,hw=>by simp[mP,Sh.ns]
 |f::fs,g::gs,off,cs,xs,m,hf,h,hx,hl,hw=>by
  simp only[Sh.fitsF,Bool.and_eq_true,decide_eq_true_eq] at hf
  obtain⟨⟨⟨ho,hc⟩,hff⟩,hF⟩:=hf
  simp only[Sh.ns] at hl
  match xs,hx with
  |y::ys,hx=>
   have h0:=h 0 g rfl
   simp only[List.getElem?_cons_zero] at h0
   rw[ho,hc] at h0
   refine⟨(cs.drop off).take f.n,(cs.drop (off+f.n)).take (Sh.ns fs),?_,rd f g.type m _ y hff h0 (fun z hz=>hw z ?_),yb fs gs (off+f.n) cs ys m hF (fun i g' hg=>?_) (by simpa using hx) (by omega) (fun z hz=>hw z ?_)⟩
   rw[Sh.ns,<-List.drop_drop,List.take_add]
   simp only[List.map_cons,DataW.weightsEach,List.mem_append];exact .inl hz
   simpa using h (i+1) g' (by simpa using hg)
   simp only[List.map_cons,DataW.weightsEach,List.mem_append];exact .inr hz
 | [],_:: _,off,cs,xs,m,hf,h,hx,hl,hw=>by simp[Sh.fitsF] at hf
 |_:: _,[],off,cs,xs,m,hf,h,hx,hl,hw=>by simp[Sh.fitsF] at hf
theorem x5:∀(fs:List Sh) (u:TypeId) (k:Nat) (cs:List Value) (xs:List (DataW H×List MemPlace)) (m:Nat),Sh.fitsA P fs u=true->
  (∀i,i<fs.length->DataW.trod enc P w 0 (fun _=>true) true m u ((cs.drop ((k+i)*P.cellsOf u)).take (P.cellsOf u))=xs[i]?)->xs.length=fs.length->k*P.cellsOf u+Sh.ns fs<=cs.length->
  (∀n∈DataW.weightsAll P u (xs.map (·.1)),n<=reachBytes)->mP w fs ((cs.drop (k*P.cellsOf u)).take (Sh.ns fs))
 | [],u,k,cs,xs,m,hf,h,hx,hl,hw=>by simp[mP,Sh.ns]
 |f::fs,u,k,cs,xs,m,hf,h,hx,hl,hw=>by
  simp only[Sh.fitsA,Bool.and_eq_true,decide_eq_true_eq] at hf
  obtain⟨⟨hc,hff⟩,hF⟩:=hf
  simp only[Sh.ns] at hl
  match xs,hx with
  |y::ys,hx=>
   have h0:=h 0 (by simp)
   simp only[List.getElem?_cons_zero,Nat.add_zero] at h0
   have hk:(k+1)*P.cellsOf u=k*P.cellsOf u+f.n:=by rw[Nat.add_mul,Nat.one_mul,hc]
   refine⟨(cs.drop (k*P.cellsOf u)).take f.n,(cs.drop ((k+1)*P.cellsOf u)).take (Sh.ns fs),?_,rd f u m _ y hff (by rw[<-hc];exact h0) (fun z hz=>hw z ?_),x5 fs u (k+1) cs ys m hF (fun i hi=>?_) (by simpa using hx) (by rw[hk];omega) (fun z hz=>hw z ?_)⟩
   rw[Sh.ns,hk,<-List.drop_drop,List.take_add]
   simp only[List.map_cons,DataW.weightsAll,List.mem_append];exact .inl hz
   rw[show k+1+i=k+(i+1) by omega]
   simpa using h (i+1) (by simp;omega)
   simp only[List.map_cons,DataW.weightsAll,List.mem_append];exact .inr hz
end
end
theorem xI{H:Type}{enc:TypeId×Value->H}{ts:List TypeId}{ds:List (DataW H)}(hsz:(DataW.weightsEach P ts ds).all (·<=reachBytes)=true)(j:Nat){t:TypeId}{d:DataW H}{p:List MemPlace}(s:Sh)
  (hf:s.fits P t=true) (ht:ts[j]? =some t) (hd:ds[j]? =some d) (h:DataW.Trod enc P w 0 (fun _=>true) true t v d p):np w s v.cells.toList:=by
 obtain⟨fuel,h⟩:=h
 exact rd s t fuel _ (d,p) hf h fun n hn=>of_decide_eq_true (List.all_eq_true.1 hsz n (DataW.weights_mem_each ht hd n hn))
theorem xU{T:Type}(f:T->List Value)(p:T->Prop)(m:Nat):∀(n:Nat) (xs:List Value),xs.length=n*m->(∀i,i<n->∃t,(xs.drop (i*m)).take m=f t/\p t)->
  ∃ts:List T,ts.length=n/\xs=ts.flatMap f/\∀t∈ts,p t
 |0,xs,hl,h=>⟨[],rfl,by simpa using hl,by simp⟩
 |n+1,xs,hl,h=>by
  obtain⟨t,ht,hp⟩:=h 0 (by omega)
  rw[Nat.zero_mul,List.drop_zero] at ht
  have hle:(n+1)*m=m+n*m:=by rw[Nat.add_mul,Nat.one_mul,Nat.add_comm]
  obtain⟨ts,h1,h2,h3⟩:=xU f p m n (xs.drop m) (by rw[List.length_drop];omega) (fun i hi=>by
   obtain⟨t',ht',hp'⟩:=h (i+1) (by omega)
   refine⟨t',?_,hp'⟩
   rw[List.drop_drop,show m+i*m=(i+1)*m by rw[Nat.add_mul,Nat.one_mul,Nat.add_comm]]
   exact ht')
  refine⟨t::ts,by simp[h1],?_,by simpa using ⟨hp,h3⟩⟩
  rw[List.flatMap_cons,<-h2,<-ht,List.take_append_drop]
theorem r6{T:Type}(f:T->Value):∀ts:List T,(ts.flatMap fun t=>[f t])=ts.map f
 | []=>rfl
 |t::ts=>by simp[r6 f ts]
theorem Dm{k:IntKind}{bs:Nat}{cs:List Value}(h:np w (.sl (.int k) bs) cs):
  ∃(A:Option Addr) (c:Nat) (zs:List Int),cs=[.slice A zs.length c]/\At w A (zs.map (Value.int k))/\zs.length<=c/\c*bs<=140737488351232/\∀z∈zs,(Lit.int k z).wf=true:=by
 simp only[np,Sh.n,Nat.mul_one] at h
 obtain⟨A,n,c,xs,rfl,hA,hl,hc,hb,he⟩:=h
 obtain⟨zs,h1,h2,h3⟩:=xU (fun z=>[Value.int k z]) (fun z=>(Lit.int k z).wf=true) 1 n xs (by omega) (fun i hi=>by rw[Nat.mul_one];exact he i hi)
 rw[r6] at h2
 subst h1 h2
 exact⟨A,c,zs,rfl,hA,hc,hb,h3⟩
def Lf(w:World)(s:Sh)(v:Value):Prop:=match s with
 | .st fs=>∃cs:List Value,v= .agg ⟨cs⟩/\mP w fs cs
 |s=>np w s [v]
theorem xB{r:Reach}{b0:Nat}{t:TypeId}(s:Sh)(hf:s.fits P t=true)(hv:Value.okWide P W r b0 t v)(h:np w s v.cells.toList):Lf w s v:=by
 cases s with
 |int k=>
  simp only[Sh.fits] at hf
  split at hf
  rename_i k' hu
  obtain⟨n,rfl⟩:=okWide_int hu hv
  exact h
  cases hf
 |bool=>
  simp only[Sh.fits] at hf
  split at hf
  rename_i hu
  obtain⟨n,rfl⟩:=okWide_bool hu hv
  exact h
  cases hf
 |str=>
  simp only[Sh.fits] at hf
  split at hf
  rename_i hu
  obtain⟨n,rfl⟩:=okWide_string hu hv
  exact h
  cases hf
 |sl e bs=>
  simp only[Sh.fits] at hf
  split at hf
  rename_i u hu
  obtain⟨a,l,c,rfl⟩:=okWide_slice hu hv
  exact h
  cases hf
 |st fs=>
  simp only[Sh.fits] at hf
  split at hf
  rename_i gs hu
  obtain⟨cs,rfl,_⟩:=okWide_struct hu hv
  exact⟨cs.toList,rfl,h⟩
  rename_i n u hu
  simp only[Value.okWide,hu] at hv
  obtain⟨cs,rfl,_⟩:=hv
  exact⟨cs.toList,rfl,h⟩
  cases hf
end
end Go.Proofs.YtcdjaepgahbhfaaGreat
namespace Go.Proofs.YtcdjaepgahbhfaaGreat.storeRecs
section
open Go.ChangeShapes Go.WideShapes Go.ChangeAt Go.RowKit Go.Deep Go.Joins
theorem lifted(os:Os)(started:os.Started)(H:Type)(enc:TypeId×Value->H):
  ReturnsInHanded {} Tryz.checked os 12 .any (Rows.storeRecsSpec.pre6 enc Tryz.prog Tryz.f12 Rows.storeRecsRow.domain false) (Rows.storeRecsSpec.post enc Tryz.prog Tryz.f12 false true false false):=by
 refine returnsInHanded_of_change_sized (C:=Tryz.checked) y3 started (by kernel_rfl) Tryz.func12
  (ChangeSpec.witness6 (enc:=enc) (C:=Tryz.checked) false ⟨#[],#[sn,.int .i64 0],[]⟩ 8 (by kernel_rfl) (by kernel_rfl) (by kernel_rfl) (by kernel_rfl)) ?_
 intro W base args ds gs before hval0 hW hcnd hsz0 _
 have hval:∀(j:Nat) t v,Tryz.f12.params[j]? =some t->args[j]? =some v->Value.okWide Tryz.prog W .any base t v:=hval0
 have hsz:(DataW.weightsEach Tryz.prog (Tryz.f12.params.toList++Rows.storeRecsSpec.plain.varTypes Tryz.prog) (ds++gs)).all (·<=reachBytes)=true:=hsz0
 clear hsz0 hval0
 have hW':=hW
 obtain⟨p,q,hA0,hV,rfl,hfz,hnd⟩:=hW
 have hA:DataW.TrodAll enc Tryz.prog W 0 (fun _=>true) true Tryz.f12.params.toList args.toList ds p:=hA0
 clear hA0
 rw[Tryz.params12] at hA hval hsz
 obtain⟨v0,vs0,d0,ds0,p0,q0,hargs,rfl,rfl,h0,r0⟩:=trodAll_cons hA
 obtain⟨v1,vs1,d1,ds1,p1,q1,rfl,rfl,rfl,h1,r1⟩:=trodAll_cons r0
 obtain⟨rfl,rfl,rfl⟩:=trodAll_nil r1
 obtain rfl:args=#[v0,v1]:=by cases args;simp_all
 obtain⟨rfl,rfl⟩:=trodVars_none hV
 have s0:=xB (.sl (.st [.int .u8,.int .i64,.int .i64,.str,.sl (.int .i64) 8]) 64) (by kernel_rfl) (hval 0 _ _ rfl rfl) (xI hsz 0 (.sl (.st [.int .u8,.int .i64,.int .i64,.str,.sl (.int .i64) 8]) 64) (by kernel_rfl) rfl rfl h0)
 have s1:=xB (.int .i64) (by kernel_rfl) (hval 1 _ _ rfl rfl) (xI hsz 1 (.int .i64) (by kernel_rfl) rfl rfl h1)
 clear hsz
 obtain⟨AA,n_,ac,xs_,hE,atAA,e_,lAA,bAA,p_⟩:=s0
 cases hE
 obtain⟨acs,e1_,e2_,wAA⟩:=xU (T:=ActT) acC (fun t=>ActOk t) 5 n_ xs_ e_ (fun i_ hi_=>by
  have g_:=p_ i_ hi_
  obtain⟨a0_,b0_,e0_,s0_,g_⟩:=g_
  obtain⟨a1_,b1_,e1_,s1_,g_⟩:=g_
  obtain⟨a2_,b2_,e2_,s2_,g_⟩:=g_
  obtain⟨a3_,b3_,e3_,s3_,g_⟩:=g_
  obtain⟨a4_,b4_,e4_,s4_,g0_⟩:=g_
  obtain⟨wt,f0_,wwt⟩:=s0_
  obtain⟨pg,f1_,wpg⟩:=s1_
  obtain⟨sl,f2_,wsl⟩:=s2_
  obtain⟨itm,f3_,zitm⟩:=s3_
  obtain⟨QA,qc,qs,f4_,atQA,lQA,bQA,wQA⟩:=Dm s4_
  have g_: _= _:=e0_
  rw[f0_,e1_,f1_,e2_,f2_,e3_,f3_,e4_,f4_,show b4_=[] from g0_] at g_
  exact⟨(⟨wt,pg,sl,itm,QA,qs.length,qc⟩:ActT),g_,⟨O8 wwt,ut wpg,ut wsl,(by show itm.size<= _;omega),(by show (qs.length:Int)<= _;omega)⟩⟩)
 subst e1_ e2_
 obtain⟨frm,hE,wfrm⟩:=s1
 cases hE
 refine(w5 AA ac acs frm W atAA wAA (by omega) (ut wfrm)).mono fun e W' ⟨he,hx⟩=>?_
 subst he
 exact⟨_,rfl,F4 Ko (by rw[Tryz.params12];exact(by decide+kernel)) rfl Tryz.underlying4 hW' rfl rfl rfl rfl hx⟩
theorem over:Rows.storeRecsRow.holds Tryz.pinned (OpenSpec.ofChange Rows.storeRecsSpec):=
 OpenClaim.holds_of_wide 12 Tryz.f12 rfl rfl rfl rfl rfl rfl rfl ⟨rfl,rfl,rfl,rfl,rfl⟩ rfl rfl rfl rfl rfl (by kernel_rfl) Tryz.func12 (by kernel_rfl)
  (of_decide_eq_true (by kernel_rfl)) (by unfold Func.isWrapper;first|(rw[if_pos (by decide+kernel)];kernel_rfl)|(rw[if_neg (by decide+kernel)];exact⟨rfl,rfl⟩))
  (fun os started H enc _=>lifted os started H enc)
theorem proved:Rows.StoreRecsSaid:=
 over
end
end Go.Proofs.YtcdjaepgahbhfaaGreat.storeRecs
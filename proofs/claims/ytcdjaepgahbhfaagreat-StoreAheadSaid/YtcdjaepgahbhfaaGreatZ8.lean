import Derived.Test.YtcdjaepgahbhfaaGreatZ7
import Derived.Test.YtcdjaepgahbhfaaGreatRows
import Derived.ProofKit
import Derived.OpenShut
import Derived.Below
import Derived.ChangeSame
import Derived.WideKeyArgs
import Derived.SliceStrings
import Derived.ChangeMaps5
import Derived.Lib.SmallJoins
import Derived.SizedLaws
import Derived.WalkKit
set_option linter.unusedVariables false
set_option linter.unusedSimpArgs false
set_option maxRecDepth 100000
set_option maxHeartbeats 16000000
namespace Go.Proofs.YtcdjaepgahbhfaaGreat
variable{L:List RecM}{W w:World}{c p:Nat}{told:Int->Bool}{z:ByteArray}
section
open Go.RowKit
theorem St.unniX{w0:World}{bor:List Nat}{R:List Ent}{sb db:Nat}{fp:List Nat}(h:St w0 bor (eNi sb db L told p c fp::R) W):∃S mb RA rc EA ec ib tb fpd,NiceX S L told p c/\St w0 bor (ky sb db S mb RA rc EA ec ib tb fpd fp::R) W:=by
 obtain⟨S,hN,h0,mb,RA,rc,EA,ec,ib,tb,fpd,h1⟩:=(h.ok (eNi sb db L told p c fp) (by simp)).holds
 exact⟨S,mb,RA,rc,EA,ec,ib,tb,fpd,hN,St.repl (L1:=[]) h rfl (fun _=>⟨h0,h1⟩) (yq _ _ _ _ _ _ _ _ _ _ _ _)⟩
theorem St.niX{w0:World}{bor:List Nat}{R:List Ent}{sb db:Nat}{S:StM}{mb:Nat}{RA:Option Addr}{rc:Nat}{EA:Option Addr}{ec ib tb:Nat}{fpd:List Nat}{fp:List Nat}(h:St w0 bor (ky sb db S mb RA rc EA ec ib tb fpd fp::R) W)(hN:NiceX S L told p c):St w0 bor (eNi sb db L told p c fp::R) W:=St.repl (L1:=[]) h rfl (fun h1=>⟨S,hN,rv h1⟩) (AU _ _ _ _ _ _ _)
noncomputable def erZ(z:ByteArray):Int:=match rdX z with|some _=>0|none=>12
def AhZ(F:Nat)(z:ByteArray):Prop:=z=cO 512\/∃c,bC c/\z=aE c/\c.2.1<=(F:Int)
theorem AhZ.le{F:Nat}(h:AhZ F z)(h0:erZ z=0):(rdP z).2.1<=(F:Int):=by
 rcases h with rfl|⟨c,h1,rfl,h2⟩
 rw[vD];exact Int.natCast_nonneg _
 rw[pr h1];exact h2
theorem B0{F:Nat}(h:AhZ F z):Calls Tryz.prog 38 #[.string z] w (fun e w'=>∃A c,e= .returned (.agg #[.int .i64 (rdP z).1,.int .i64 (rdP z).2.1,.slice A (rdP z).2.2.length c,.int .i64 (erZ z)])/\Ext w w'):=by
 rcases h with rfl|⟨p,h1,rfl,_⟩
 have e:erZ (cO 512)=12:=by
  unfold erZ
  rcases hx:rdX (cO 512) with _|q
  rfl
  exact absurd (ks hx).2 (AC q (ks hx).1)
 rw[e,vD]
 refine(Ex _ w rfl).mono ?_
 rintro e w' ⟨rfl,hx⟩
 exact⟨none,0,rfl,hx⟩
 have e:erZ (aE p)=0:=by
  unfold erZ
  rcases hx:rdX (aE p) with _|q
  exact absurd rfl (sr hx p h1)
  rfl
 rw[e,pr h1]
 refine(Dq _ _ _ _ w (lx h1)).mono ?_
 rintro e w' ⟨A,c,rfl,hs⟩
 exact⟨A,c,rfl,hs.ext⟩
theorem LM{S:StM}{j:Nat}(h:NiceX S L told p c)(hj:j<p):∃z,rdS S.D (j:Int)=(z,0)/\AhZ S.F z:=by
 have hp:=h.ep
 obtain⟨x,hx⟩:∃x,S.D.pgs[j]? =some x:=⟨_,List.getElem?_eq_getElem (by omega)⟩
 refine⟨(rdT x).1,?_,h.xt j x hx _ ?_⟩
 have ho:=h.on
 rw[rdS,if_neg (by rw[ho];decide),if_pos (by omega)]
 show ((rdT (S.D.pgs.getD j gB)).1,(0:Int))= _
 rw[List.getD_eq_getElem?_getD,hx];rfl
 unfold rdT
 rcases hl:x.ws.getLast? with _|w
 exact List.mem_cons_self
 exact List.mem_cons_of_mem _ (List.mem_of_getLast? hl)
theorem Jp{D:DkM}{n:Int}{f:FuncId}{args:Array Value}(h:rdS D n=(z,0))(hc:Calls Tryz.prog f args w (Ret (.tuple #[.string (rdS D n).1,.int .i64 (rdS D n).2]) w)):Calls Tryz.prog f args w (Ret (.tuple #[.string z,.int .i64 0]) w):=by
 rw[h] at hc;exact hc
theorem vy(AA:Option Addr)(ac:Nat)(acs:List ActT)(b:Int)(w:World)(hA:At w AA (acs.flatMap acC))(hok:∀a∈acs,ActOk a)(hal:acs.length<=100000000000000)(hb:0<=b/\b<=255):
  Calls Tryz.prog 8 #[.slice AA acs.length ac,.int .u8 b] w (Ret (.bool true) w):=by
 go_enter Tryz.func8,Tryz.ntmps8
 have al:=St.start w
 refine wq (sqr (sqp [.k 4 (.bool false)] ?_))
 refine aa (wq (sqr (sqk (.bool true) al (fun cx=>⟨_,Cc _,ji⟩) fun W2 bQ=>?_)))
 refine sqp [.k 5 (.bool true)] ?_
 refine aa (wq (sqr (sqp [.k 13 (.agg #[.pointer none,.pointer none,.pointer none,vi 0,vi 0])] ?_)))
 refine ce #[.pointer none,.pointer none,.pointer none,vi 0,vi 0] bQ fun fZ W5 aR=>?_
 refine sqp [.m 6 14] ?_
 refine aa (wq (wq (sqr (sqp [.m 15 6,.m 16 1,sRe 17 .u8 b 6 (b % 6) (Int.tmod_eq_emod_of_nonneg (by omega)),sW 18 .i64 (b % 6) (b % 6) (IntWalk.i64_in _ (by omega)),sI 19 (1+(b % 6)) (by omega)] ?_))))
 refine bN (fun X_=>X_.fp) (.bool true) (fun C7=>eWd fZ (1+(b % 6)) ([aJ bgS]) (fun _=>false) 0 C7) 0 aR (by
   refine svA fun l d W X cx=>?_
   refine am.call (aq (args:=#[vp fZ,vi (1+(b % 6))]) rfl cx.sees rfl (by kernel_rfl) (aP (cx.ou 15) (cx.ou 19))) ?_
   refine(BD fZ (1+(b % 6)) _ (CtxV.holdF cx (cx.init 0 _ rfl) rfl) ((cx.bi 0 rfl)).lt (by omega)).mono ?_
   rintro e W1 ⟨rfl,fp4,aU⟩
   refine⟨_,rfl,aN (E:=eB fZ 34 #[.pointer none,.pointer none,.pointer none,vi 0,vi 0]) [eWd fZ (1+(b % 6)) ([aJ bgS]) (fun _=>false) 0 fp4] (cx.init 0 _ rfl) rfl rfl aU (fun g o X' hs hb hv hN=>?_)⟩
   have aK:=(hv 20 rfl).1;have aW:=(hv 20 rfl).2
   exact⟨aK.trans rfl,xI ((List.cons.inj hN).1)⟩) fun C7 ze cV=>?_
 refine sqp [.k 21 (.bool false)] ?_
 refine aa (wcf rfl (wp_skip (aa (wq (wq (sqr (sqp [.k 7 (vi 0)] ?_)))))))
 refine aa (wp_block ?_)
 refine aT (fun t_ mz az W=>∃i:Nat,∃sL:List RecM,∃sT:Int->Bool,∃ci:Nat,∃fpi:List Nat,i<=acs.length/\i<=25/\ci<=700*i/\mz=acs.length-i/\az=⟨(ovr (jv az) [(4,4,1,[]),(2,7,0,[vi ((i:Int))]),(0,8,4,[]),(10,22,59,[])] t_).toArray,[]⟩/\St w [] [eWd fZ (1+(b % 6)) sL sT ci fpi] W) (acs.length-0) ?_ ?_
 exact⟨0,[aJ bgS],(fun _=>false),0,C7,Nat.zero_le _,Nat.zero_le _,Nat.zero_le _,rfl,(by kernel_rfl),cV.pk [0]⟩
 rintro T7 a15 zd ⟨i,sL,sT,ci,fpi,hi,hi25,hci,rfl,hj_,dv⟩
 refine ovz hj_ fun Tq=>?_
 refine wq (wq (sqr (sqp [.m 22 7,.m 23 0,.k 24 (vi ((acs.length:Int))),.k 25 (.bool (decide ((i:Int)<(acs.length:Int)))),.m 26 25] ?_)))
 refine sqw 26 [27,28] rfl (fun _=>sqp [.m 27 7,.k 28 (.bool (decide ((i:Int)<25)))] sqe) ?_
 refine sqp [sPa 29 (decide ((i:Int)<(acs.length:Int))) (decide ((i:Int)<25))] ?_
 refine aa (wbs (fun mT=>?_) fun mT=>?_)
 have iF:=mT
 simp only[zB] at iF
 obtain⟨Ff,Fg⟩:=iF
 refine wp_skip (aa (wq (wp_block ?_)))
 refine kC (fun t_ az W=>∃sL2:List RecM,∃sT2:Int->Bool,∃cj:Nat,∃fpj:List Nat,cj<=700*(i+1)/\az=⟨(ovr (jv az) [(4,4,1,[]),(27,32,16,[])] t_).toArray,[]⟩/\St w [] [eWd fZ (1+(b % 6)) sL2 sT2 cj fpj] W) ?_ ?_
 refine wq ?_
 obtain⟨a,hai⟩:∃a,acs[i]? =some a:=⟨_,List.getElem?_eq_getElem (by omega)⟩
 have hao:=hok a (List.mem_of_getElem? hai)
 have haw:=hao.what
 by_cases hlt8:a.what % 10<8
 refine sqr (sqp [.m 32 0,.m 33 7] ?_)
 refine sql (.pointer (some ((ad AA).add (i*5)))) dv (fun cx=>aI (e:=60) (m:=i) (sz:=5) rfl (by kernel_rfl) (by kernel_rfl) (cx.ou 32) (cx.ou 33) (by omega) (by omega) (hA.ext cx.upd.to_ext) (bq (sz:=5) me (by decide) (by omega))) ?_
 refine sql (.pointer (some ((ad AA).add (i*5+0)))) dv (fun cx=>br rfl (by kernel_rfl) (cx.ou 34)) ?_
 refine sql (.int .u8 a.what) dv (fun cx=>ae rfl (by kernel_rfl) (cx.ou 35) (At.eltc (f:=acC) (k:=0) me (hA.ext cx.upd.to_ext) hai rfl)) ?_
 have hd33:(decide (a.what % 10<8))=true:=(decide_eq_true hlt8)
 refine sqp [sRe 37 .u8 a.what 10 (a.what % 10) (Int.tmod_eq_emod_of_nonneg (by omega)),.e 38 (.bool (decide (a.what % 10<8))) (.bool true) (congrArg Value.bool hd33),.k 39 (.bool true)] ?_
 refine dE 39 [40,41,42,43,44,45,46] rfl rfl ?_
 refine sqp [.m 40 6,.m 41 0,.m 42 7] ?_
 refine sql (.pointer (some ((ad AA).add (i*5)))) dv (fun cx=>aI (e:=60) (m:=i) (sz:=5) rfl (by kernel_rfl) (by kernel_rfl) (cx.ou 41) (cx.ou 42) (by omega) (by omega) (hA.ext cx.upd.to_ext) (bq (sz:=5) me (by decide) (by omega))) ?_
 refine sql (.agg #[.int .u8 a.what,vi a.page,vi a.slot,.string a.item,.slice a.QA a.qn a.qc]) dv (fun cx=>bT (f:=acC) (m:=i) (sz:=5) (off:=0) (n:=5) rfl (by kernel_rfl) (by kernel_rfl) (cx.ou 43) rfl me (hA.ext cx.upd.to_ext) hai (fun k hk=>match k,hk with|0,_=>rfl|1,_=>rfl|2,_=>rfl|3,_=>rfl|4,_=>rfl|k+5,hk=>absurd hk (by omega))) ?_
 refine bN (fun X_=>X_.fp) (.bool true) (fun C8=>eWd fZ (1+(b % 6)) ((gR (sL,sT) a).1) ((gR (sL,sT) a).2) (ci+700) C8) 0 dv (by
   refine svA fun l d W X cx=>?_
   refine am.call (aq (args:=#[vp fZ,.agg #[.int .u8 a.what,vi a.page,vi a.slot,.string a.item,.slice a.QA a.qn a.qc]]) rfl cx.sees rfl (by kernel_rfl) (aP (cx.ou 40) (cx.ou 44))) ?_
   refine(JJ fZ (1+(b % 6)) sL sT ci a _ _ (CtxV.holdF cx (cx.init 0 _ rfl) rfl) (CtxV.ltF cx (cx.init 0 _ rfl) rfl) hao (by omega) hlt8).mono ?_
   rintro e W1 ⟨rfl,fp4,aU⟩
   refine⟨_,rfl,aN (E:=eWd fZ (1+(b % 6)) sL sT ci fpi) [eWd fZ (1+(b % 6)) ((gR (sL,sT) a).1) ((gR (sL,sT) a).2) (ci+700) fp4] (cx.init 0 _ rfl) rfl rfl aU (fun g o X' hs hb hv hN=>?_)⟩
   have aK:=(hv 45 rfl).1;have aW:=(hv 45 rfl).2
   exact⟨aK.trans rfl,xI ((List.cons.inj hN).1)⟩) fun C8 se dz=>?_
 refine sqp [.k 46 (.bool false)] ?_
 refine sqp [.k 47 (.bool false)] ?_
 refine aa (wcf rfl (wp_skip (aa ?_)))
 exact⟨(gR (sL,sT) a).1,(gR (sL,sT) a).2,(ci+700),C8,by omega,(by kernel_rfl),dz.pk [0]⟩
 refine sqr (sqp [.m 32 0,.m 33 7] ?_)
 refine sql (.pointer (some ((ad AA).add (i*5)))) dv (fun cx=>aI (e:=60) (m:=i) (sz:=5) rfl (by kernel_rfl) (by kernel_rfl) (cx.ou 32) (cx.ou 33) (by omega) (by omega) (hA.ext cx.upd.to_ext) (bq (sz:=5) me (by decide) (by omega))) ?_
 refine sql (.pointer (some ((ad AA).add (i*5+0)))) dv (fun cx=>br rfl (by kernel_rfl) (cx.ou 34)) ?_
 refine sql (.int .u8 a.what) dv (fun cx=>ae rfl (by kernel_rfl) (cx.ou 35) (At.eltc (f:=acC) (k:=0) me (hA.ext cx.upd.to_ext) hai rfl)) ?_
 have hd50:(decide (a.what % 10<8))=false:=(decide_eq_false hlt8)
 refine yv [sRe 37 .u8 a.what 10 (a.what % 10) (Int.tmod_eq_emod_of_nonneg (by omega)),.e 38 (.bool (decide (a.what % 10<8))) (.bool false) (congrArg Value.bool hd50),.k 39 (.bool false)] 39 [40,41,42,43,44,45,46] ?_
 refine sqp [.k 47 (.bool false)] ?_
 refine aa (wcf rfl (wp_skip (aa ?_)))
 exact⟨sL,sT,ci,fpi,by omega,(by kernel_rfl),dv.pk [0]⟩
 rintro a25 sd ⟨sL2,sT2,cj,fpj,hcj,hj_,cM⟩
 refine ovz hj_ fun P6=>?_
 refine wq ?_
 obtain⟨safe,db,sb,rb,fps,fpr,hw53_⟩:=cM.unwd
 obtain⟨fpW,hfpW⟩:∃z,z=fps:=⟨_,rfl⟩
 subst hfpW
 obtain⟨S,mb,RA,rc,EA,ec,ib,tb,fpd,hN,hS54_⟩:=hw53_.u1.unniX
 have hllS:=hN.ok.recs_len
 have hL0:S.L.length<4611686018427387904:=by have:S.L.length=S.recs.length:=List.length_map ..;omega
 have hfl:S.D.fl<=10000000:=by have:=hN.ok.fl;have:=hN.ok.lsz;omega
 have hws:∀x∈S.D.pgs,x.ws.length<=1000000000:=fun x hx=>by have:=hN.ok.ws x hx;omega
 refine sqr (sqp [.k 8 (vi 0)] ?_)
 refine aa (wp_block ?_)
 refine aT (fun t_ mz az W=>∃j:Nat,j<=5/\mz=5-j/\az=⟨(ovr (jv az) [(4,4,1,[]),(3,8,0,[vi ((j:Int))]),(0,9,3,[]),(36,48,33,[])] t_).toArray,[]⟩/\St w [] [ky sb db S mb RA rc EA ec ib tb fpd fpW,eB fZ 34 #[vp db,vp sb,vp rb,vi (1+(b % 6)),vi safe],eRf rb sL2 sT2 5 fpr] W) (5-0) ?_ ?_
 exact⟨0,Nat.zero_le _,rfl,(by kernel_rfl),hS54_.pk [0,1,2]⟩
 rintro T8 a56 Mf ⟨j,hj,rfl,hj_,ki⟩
 refine ovz hj_ fun Tr=>?_
 refine wq (wq (sqr (sqp [.m 48 8,.k 49 (.bool (decide ((j:Int)<5)))] ?_)))
 refine aa (wds (fun m5 uT=>?_) fun m5 uT=>?_)
 refine wp_skip (aa (wq (wp_block (wq ?_))))
 obtain⟨z,hzr,hz⟩:=LM hN (show j<5 by omega)
 refine sqr (sqp [.m 53 6,.k 54 (vp fZ),.k 55 (vp fZ)] ?_)
 refine av 1 ki ?_
 refine sqp [.m 57 8] ?_
 refine sqk (.tuple #[.string z,vi 0]) ki (fun cx=>⟨_,Jp hzr (wW db S.D (j:Int) _ (jr (CtxV.holdF cx (cx.init 0 _ rfl) rfl)).dk hws),(aP (cx.ou 56) (cx.ou 57))⟩) fun L6 nG=>?_
 refine sqp [.m 52 58,.k 59 (.string z),.k 60 (vi 0),.m 9 59,.m 10 60] ?_
 refine aa (wq (aH [0,1,0,7] [[],[],[],[3]] [[],[],[3],[4]] [[],[],[],[3]] [.k 61 (.string z),.a 62,.a 11,.n] (fun ix g d X=>match ix with|0=>True|1=>g 62= .agg #[vi ((rdP z).1),vi ((rdP z).2.1),.slice (sA (tg (d 62) 2)) ((rdP z).2.2.length) (sC (tg (d 62) 2)),vi ((erZ z))]|2=>g 11=vp (pb (d 11))/\X 3=eB (pb (d 11)) 78 #[vi 0,vi 0,sn,vi 0]|3=>X 4=eB (pb (d 11)) 78 #[vi ((rdP z).1),vi ((rdP z).2.1),.slice (sA (tg (d 62) 2)) ((rdP z).2.2.length) (sC (tg (d 62) 2)),vi ((erZ z))]|_=>True) [0,1,2,4] [1,2,3] [(11,2,1,12),(49,0,2,51)] nG ?_ ?_ ?_))
 exact fun ix _ _ _ _ _ _ hs hb hx h=>match ix,h with
 |1,h=>by dsimp only;rw[<-hs 62 rfl,<-hb 62 rfl];exact h
 |2,h=>by dsimp only;rw[<-hs 11 rfl,<-hb 11 rfl,<-hx 3 rfl];exact h
 |3,h=>by dsimp only;rw[<-hb 11 rfl,<-hb 62 rfl,<-hx 4 rfl];exact h
 |0,_|_+4,_=>trivial
 refine⟨?_,?_,?_,trivial⟩
 refine svA fun l d W X cx=>?_
 refine am.call (aq (args:=#[.string z]) rfl cx.sees rfl (by kernel_rfl) (ax (cx.an 0))) ?_
 refine(B0 hz).mono ?_
 rintro e W1 ⟨A4,c4,rfl,hx⟩
 refine⟨_,rfl,bL [] rfl rfl hx (by simp) List.Pairwise.nil (fun g o X' hs hb hv hN=>?_)⟩
 have aK:=(hv 62 rfl).1;have aW:=(hv 62 rfl).2
 exact aK.trans (by rw[aW];exact rfl)
 refine svA fun l d W X cx=>?_
 exact dp (cs:=#[vi 0,vi 0,sn,vi 0]) rfl (by kernel_rfl) rfl rfl (fun _ _ _ _ _=> .intro)
 refine svA fun l d W X cx=>?_
 exact bx (n:=4) rfl (dTn (cx.an 2)).1 (dTn (cx.an 1)) (by kernel_rfl) (by kernel_rfl) (by kernel_rfl) cx (dTn (cx.an 2)).2 rfl (nle rfl) (by kernel_rfl) rfl rfl rfl (fun g o X' hs hb hx=>by rw[hb 11,hb 62];exact hx)
 intro g d X OW hD nI fr aG
 simp only[exq 4 ((dTn (hD 3 lq)))] at nI
 simp only[ed 62 ((dTn (hD 1 lq))),ed 11 ((dTn (hD 2 lq)).1)] at aG
 generalize sA (tg (d 62) 2)=Rn,sC (tg (d 62) 2)=Ro,pb (d 11)=vq at nI aG
 clear hD;subst aG;clear g d X
 refine aa (wq ?_)
 by_cases hE:erZ z=0
 have hd73:((erZ z)==0)=true:=(beq_iff_eq.2 hE)
 have hd74:(decide ((S.F:Int)<(rdP z).2.1))=false:=(decide_eq_false (Int.not_lt.2 (hz.le hE)))
 refine bG [0,1,3,7,15,31,63,127,255,511,127,1151,3199,7295,15487,32767,65535,131071] [[],[],[],[],[3],[],[],[],[],[3],[],[],[],[1],[0]] [.k 63 (vi 0),.k 64 (.bool false),.k 65 (.bool false),.k 66 (po vq 3),.c 67 (vi ((erZ z))),.e 68 (.bool ((erZ z)==0)) (.bool true) (congrArg Value.bool hd73),.k 69 (.bool true),.k 70 (vp vq),.k 71 (po vq 1),.c 72 (vi ((rdP z).2.1)),.k 73 (vp fZ),.k 74 (vp fZ),.k 75 (po fZ 1),.c 76 (vp sb),.c 77 (vi ((S.F:Int))),.e 78 (.bool (decide ((S.F:Int)<(rdP z).2.1))) (.bool false) (congrArg Value.bool hd74),.k 79 (.bool false),.k 80 (.bool false)] [0,1,2,3] [4,9,13,14] [(63,0,18,81)] nI ?_ fun OV rJ=>?_
 refine⟨?_,?_,?_,?_,trivial⟩
 exact xs5 rfl id (fun cx=>(cx.an 2)) fun cx=>ae rfl (by kernel_rfl) (cx.an 3) ((cx.bi 3 rfl).cell 3)
 exact xs5 rfl id (fun cx=>(cx.an 6)) fun cx=>ae rfl (by kernel_rfl) (cx.an 8) ((cx.bi 3 rfl).cell 1)
 exact xs5 rfl id (fun cx=>(cx.an 6)) fun cx=>ae rfl (by kernel_rfl) (cx.an 12) ((cx.bi 1 rfl).cell 1)
 exact BN rfl rfl rfl rfl rfl rfl (fun _ _ _ h=>h) (fun _ _ _ _ cx=>(cx.an 6)) fun l d W X cx=>⟨_,_,aq (args:=#[vp sb]) rfl cx.sees rfl (by kernel_rfl) (ax (cx.an 13)),tD sb db S mb RA rc EA ec ib tb _ (jr (CtxV.holdF cx (cx.init 0 _ rfl) rfl)) hL0 hfl⟩
 refine aa (wcf rfl (wp_skip (aw (aa (sqr (sqp [.m 50 8,sI 51 ((j:Int)+1) (by omega),.m 8 51] ?_))))))
 refine aa ?_
 refine⟨5-((j+1)),by omega,?_⟩
 exact⟨(j+1),by omega,rfl,(by kernel_rfl),rJ.pk [0,1,2]⟩
 have hd79:((erZ z)==0)=false:=(beq_eq_false_iff_ne.2 hE)
 refine bG [0,1,3,7,15,31,63,127,255,511,127,1151,3199,7295,15487,32767,65535,131071] [[],[],[],[],[3]] [.k 63 (vi 0),.k 64 (.bool false),.k 65 (.bool false),.k 66 (po vq 3),.c 67 (vi ((erZ z))),.e 68 (.bool ((erZ z)==0)) (.bool false) (congrArg Value.bool hd79),.k 69 (.bool false),.u 70,.u 71,.u 72,.u 73,.u 74,.u 75,.u 76,.u 77,.u 78,.k 79 (.bool false),.k 80 (.bool false)] [0,1,2,3] [4] [(63,0,18,81)] nI ?_ fun Q7 xu=>?_
 refine⟨?_,trivial⟩
 exact xs5 rfl id (fun cx=>(cx.an 2)) fun cx=>ae rfl (by kernel_rfl) (cx.an 3) ((cx.bi 3 rfl).cell 3)
 refine aa (wcf rfl (wp_skip (aw (aa (sqr (sqp [.m 50 8,sI 51 ((j:Int)+1) (by omega),.m 8 51] ?_))))))
 refine aa ?_
 refine⟨5-((j+1)),by omega,?_⟩
 exact⟨(j+1),by omega,rfl,(by kernel_rfl),xu.pk [0,1,2]⟩
 refine wp_exit (au (au (bh (aw (aa ?_)))))
 have hn83_:=St.niX ki hN
 obtain⟨fw84_,hw84_⟩:=St.wd hn83_.u1
 refine sqr (sqp [.m 30 7,sI 31 ((i:Int)+1) (by omega),.m 7 31] ?_)
 refine aa ?_
 refine⟨acs.length-((i+1)),by omega,?_⟩
 exact⟨(i+1),sL2,sT2,cj,fw84_,by omega,by omega,by omega,rfl,(by kernel_rfl),hw84_.pk [0]⟩
 have iF:=mT
 simp only[zB] at iF
 refine wp_exit (au (au (bh (aa (wq (sqr (sqp [.k 81 (.bool true),.k 4 (.bool true)] ?_)))))))
 refine aa (wp_ret ?_)
 refine bpr (.bool true) (ai Tryz.results8 rpt) ?_
 exact Ret.of rfl dv.ext
end
section
open Go.ChangeShapes Go.WideShapes Go.ChangeAt Go.RowKit Go.Deep Go.Joins
theorem yM:ownKnob Tryz.prog.godebug=none:=by kernel_rfl
theorem KB:laidOutB Tryz.prog=true:=by kernel_rfl
section
variable{H:Type}{enc:TypeId×Value->H}{P:Program}
theorem pQ(hl:laidOutB P=true){W':World}{sp:Nat->Bool}:∀{ts:List TypeId}{vs:List Value}{ds:List (DataW H)}{ps:List MemPlace},(∀t∈ts,P.readableRec t=true/\t<P.types.size)->
  DataW.TrodAll enc P W 0 (fun _=>true) true ts vs ds ps->(∀p∈ps,W.sameAt W' p)->(∀p∈ps,sp p.block=true)->DataW.TrodAll enc P W' 0 sp true ts vs ds ps
 | [],[],[],_,_,h,_,_=>h
 |t:: _,_:: _,_:: _,_,hT,⟨p,q,h1,h2,e⟩,hsm,hs=>
  ⟨p,q,WideElems.Trod_stays hl (hT t (by simp)).1 (hT t (by simp)).2 h1 (fun x hx=>hsm x (by rw[e];exact List.mem_append_left _ hx)) (fun x hx=>hs x (by rw[e];exact List.mem_append_left _ hx)),
    pQ hl (fun t ht=>hT t (by simp[ht])) h2 (fun x hx=>hsm x (by rw[e];exact List.mem_append_right _ hx)) (fun x hx=>hs x (by rw[e];exact List.mem_append_right _ hx)),e⟩
theorem H1{f:Func}{s:ChangeSpec}{fresh handsOn again:Bool}{W':World}{args:Array Value}{ds gs:List (DataW H)}{before:List MemPlace}{tb:TypeId}
  (hl:laidOutB P=true) (hT:∀t∈f.params.toList,P.readableRec t=true/\t<P.types.size) (hr:f.resultTypes=#[tb]) (hb:P.underlying tb=some .bool)
  (hW:DataW.Whole enc P f.params.toList s.vars false W args.toList ds gs before) (hvs:s.vars=[])
  (hres:(s.fn H (ds++gs)).results=[.lit (.bool true)]) (hargs:(s.fn H (ds++gs)).args=ds) (hvars:(s.fn H (ds++gs)).vars=[]) (hx:Ext W W'):
  s.post enc P f false fresh handsOn again W args (.bool true) W':=by
 have hlt:∀p∈before,p.block<W.heap.size:=fun p hp=>hW.lt p hp
 have hold:∀p∈before,(fun b=>decide (b<W.heap.size)) p.block=true:=fun p hp=>by simpa using hlt p hp
 have hW0:=hW
 obtain⟨p,q,hA,hV,rfl,hz,hn⟩:=hW
 rw[hvs] at hV
 obtain⟨rfl,rfl⟩:=trodVars_none hV
 rw[List.append_nil] at hlt hold hz
 have HA:∀sp:Nat->Bool,(∀x∈p,sp x.block=true)->DataW.TrodAll enc P W' 0 sp true f.params.toList args.toList (s.fn H (ds++[])).args p:=fun sp hs=>by
  rw[hargs]
  exact pQ hl hT hA (fun x hx'=>hx.out.same (hlt x hx')) hs
 have HR:∀(b:Nat) (sp:Nat->Bool) (hd:Bool),DataW.TrodAll enc P W' b sp hd f.resultTypes.toList ((Value.bool true).resultList f.resultTypes.size) (s.fn H (ds++[])).results []:=fun b sp hd=>by
  rw[hres,hr]
  exact trodAll_cons_mk (shut_bool hb _) trodAll_mk0
 have HV:∀sp:Nat->Bool,DataW.TrodVars enc P W' sp s.vars (s.fn H (ds++[])).vars []:=fun sp=>by
  rw[hvs,hvars]
  rfl
 refine⟨ds,[],p++[],[],p,[],hW0,HR _ _ _,HA _ hold,HV _,World.keptBut_mono (fun x hx'=>⟨hx',?_⟩) (hx.out.frame (·∈p++[])),fun _=>?_⟩
 rw[List.append_nil] at hx'
 exact Or.inr (Or.inl hx')
 refine⟨?_,_,_,([]++p)++[],⟨[]++p,[],trodAll_append (HA _ (fun _ _=>rfl)) (HR _ _ _),HV _,rfl,?_,fun ha=>by cases ha⟩,?_⟩
 exact ok_one hr rfl (okWide_bool_mk hb _)
 intro b off hp
 have hin:MemPlace.cell b off∈p:=by simpa using hp
 rw[hx.out.frozen (hlt _ hin)]
 exact hz b off hin
 intro x hx' _
 simpa using hx'
end
end
section
open Go.ChangeShapes Go.WideShapes Go.ChangeAt Go.RowKit Go.Deep Go.Joins
inductive Sh where
 |int (k:IntKind)
 |bool
 |str
 |sl (e:Sh) (bs:Nat)
 |st (fs:List Sh)
mutual
def Sh.n:Sh->Nat
 | .st fs=>Sh.ns fs
 | .int _=>1
 | .bool=>1
 | .str=>1
 | .sl _ _=>1
def Sh.ns:List Sh->Nat
 | []=>0
 |f::fs=>f.n+Sh.ns fs
end
mutual
def nB(w:World):Sh->List Value->Prop
 | .int k,cs=>∃z,cs=[.int k z]/\(Lit.int k z).wf=true
 | .bool,cs=>∃b,cs=[.bool b]
 | .str,cs=>∃s:ByteArray,cs=[.string s]/\s.size<=140737488351232
 | .sl e bs,cs=>∃(A:Option Addr) (n c:Nat) (xs:List Value),cs=[.slice A n c]/\At w A xs/\xs.length=n*e.n/\n<=c/\c*bs<=140737488351232/\∀i,i<n->nB w e ((xs.drop (i*e.n)).take e.n)
 | .st fs,cs=>mE w fs cs
def mE(w:World):List Sh->List Value->Prop
 | [],cs=>cs=[]
 |f::fs,cs=>∃a b,cs=a++b/\nB w f a/\mE w fs b
end
mutual
def Sh.fits(P:Program):Sh->TypeId->Bool
 | .int k,t=>match P.underlying t with|some (.int k')=>decide (k'=k)|_=>false
 | .bool,t=>match P.underlying t with|some .bool=>true|_=>false
 | .str,t=>match P.underlying t with|some .string=>true|_=>false
 | .sl e bs,t=>match P.underlying t with|some (.slice u)=>e.fits P u&&decide (P.cellsOf u=e.n)&&decide (P.bytesOf u=bs)&&decide (0<e.n)|_=>false
 | .st fs,t=>match P.underlying t with
   |some (.struct gs)=>decide (P.cellsOf t=Sh.ns fs)&&Sh.fitsF P fs gs.toList 0
   |some (.array n u)=>decide (P.cellsOf t=Sh.ns fs)&&decide (fs.length=n)&&Sh.fitsA P fs u
   |_=>false
def Sh.fitsF(P:Program):List Sh->List Field->Nat->Bool
 | [],[],_=>true
 |f::fs,g::gs,off=>decide (g.offset=off)&&decide (P.cellsOf g.type=f.n)&&f.fits P g.type&&Sh.fitsF P fs gs (off+f.n)
 |_,_,_=>false
def Sh.fitsA(P:Program):List Sh->TypeId->Bool
 | [],_=>true
 |f::fs,u=>decide (P.cellsOf u=f.n)&&f.fits P u&&Sh.fitsA P fs u
end
theorem AB{α c:Type}{f:α->Option c}:∀{l:List α}{ys:List c},l.mapM f=some ys->ys.length=l.length/\∀(i:Nat) (a:α),l[i]? =some a->f a=ys[i]?
 | [],ys,h=>by simp at h;subst h;simp
 |a::l,ys,h=>by
  simp only[List.mapM_cons,Option.bind_eq_bind,Option.pure_def,Option.bind_eq_some_iff] at h
  obtain⟨b,hb,bs,hbs,he⟩:=h
  obtain rfl:b::bs=ys:=by simpa using he
  obtain⟨h1,h2⟩:=AB hbs
  refine⟨by simp[h1],fun i x hx=>?_⟩
  cases i with
  |zero=>simp at hx;subst hx;simpa using hb
  |succ i=>simpa using h2 i x (by simpa using hx)
section
variable{H:Type}{enc:TypeId×Value->H}{P:Program}
theorem pO{e:TypeId}:∀{ds:List (DataW H)}(i:Nat) (d:DataW H),ds[i]? =some d->∀x∈d.weights P e,x∈DataW.weightsAll P e ds
 | [],i,d,h,x,hx=>by simp at h
 |d0::ds,0,d,h,x,hx=>by
  simp at h;subst h
  simp only[DataW.weightsAll,List.mem_append];exact .inl hx
 |d0::ds,i+1,d,h,x,hx=>by
  simp only[DataW.weightsAll,List.mem_append]
  exact .inr (pO i d (by simpa using h) x hx)
theorem Dr{a:Addr}{m len:Nat}(hm:0<m)(h:∀i,i<len->∃csi,w.cells? 0 (a.add (i*m)) m=some csi):
  ∃xs:List Value,xs.length=len*m/\At w (some a) xs/\∀i,i<len->∀csi,w.cells? 0 (a.add (i*m)) m=some csi->(xs.drop (i*m)).take m=csi:=by
 have key:∀i,i<len->∀csi,w.cells? 0 (a.add (i*m)) m=some csi->csi.length=m/\∀r,r<m->w.cell? (a.add (i*m+r))=csi[r]? :=by
  intro i hi csi hc
  unfold World.cells? at hc
  rw[if_pos (Nat.zero_le _)] at hc
  obtain⟨h1,h2⟩:=AB hc
  refine⟨by simpa using h1,fun r hr=>?_⟩
  have:=h2 r r (by simp[hr])
  rw[su] at this
  exact this
 have each:∀j,j<len*m->∃u,w.cell? (a.add j)=some u:=by
  intro j hj
  have hi:j / m<len:=by rw[Nat.div_lt_iff_lt_mul hm];exact hj
  obtain⟨csi,hc⟩:=h _ hi
  obtain⟨h1,h2⟩:=key _ hi _ hc
  have hr:=Nat.mod_lt j hm
  have:=h2 _ hr
  rw[show j / m*m+j % m=j by rw[Nat.mul_comm];exact Nat.div_add_mod j m] at this
  rw[List.getElem?_eq_getElem (by omega)] at this
  exact⟨_,this⟩
 refine⟨(List.range (len*m)).map fun j=>(w.cell? (a.add j)).getD undef,by simp,fun j u hu=>?_,fun i hi csi hc=>?_⟩
 rw[List.getElem?_map] at hu
 rcases Nat.lt_or_ge j (len*m) with hj|hj
 obtain⟨v,hv⟩:=each j hj
 rw[List.getElem?_range hj] at hu
 simp only[Option.map_some,hv,Option.getD_some,Option.some.injEq] at hu
 subst hu
 have:=World.block_lt_of_cell? _ _ hv
 rw[wk] at this
 exact⟨a,rfl,this,hv⟩
 rw[List.getElem?_eq_none (by simpa using hj)] at hu;cases hu
 obtain⟨h1,h2⟩:=key i hi csi hc
 have hb:i*m+m<=len*m:=by
  have:(i+1)*m<=len*m:=Nat.mul_le_mul_right m hi
  rw[Nat.add_mul,Nat.one_mul] at this
  exact this
 apply List.ext_getElem?
 intro r
 rw[List.getElem?_take]
 by_cases hr:r<m
 rw[if_pos hr,List.getElem?_drop,List.getElem?_map,List.getElem?_range (by omega),Option.map_some,h2 r hr,List.getElem?_eq_getElem (by omega)]
 rfl
 rw[if_neg hr,List.getElem?_eq_none (by omega)]
mutual
theorem rz:∀(s:Sh) (t:TypeId) (fuel:Nat) (cs:List Value) (x:DataW H×List MemPlace),s.fits P t=true->DataW.trod enc P w 0 (fun _=>true) true fuel t cs=some x->
  (∀n∈x.1.weights P t,n<=reachBytes)->nB w s cs
 | .int k,t,fuel,cs,x,hf,h,hw=>by
   simp only[Sh.fits] at hf
   split at hf
   rename_i k' hu
   obtain rfl:=of_decide_eq_true hf
   obtain⟨z,hc,_,hz⟩:=DataW.trod_int hu h
   exact⟨z,hc,hz⟩
   cases hf
 | .bool,t,fuel,cs,x,hf,h,hw=>by
   simp only[Sh.fits] at hf
   split at hf
   rename_i hu
   obtain⟨b,hc,_⟩:=DataW.trod_bool hu h
   exact⟨b,hc⟩
   cases hf
 | .str,t,fuel,cs,x,hf,h,hw=>by
   simp only[Sh.fits] at hf
   split at hf
   rename_i hu
   obtain⟨s,hc,rfl,_⟩:=DataW.trod_string hu h
   refine⟨s,hc,?_⟩
   have:=hw s.data.toList.length (by simp[DataW.weights])
   exact this
   cases hf
 | .sl e bs,t,fuel,cs,x,hf,h,hw=>by
   simp only[Sh.fits] at hf
   split at hf
   rename_i u hu
   simp only[Bool.and_eq_true,decide_eq_true_eq] at hf
   obtain⟨⟨⟨he,hm⟩,hb⟩,hp⟩:=hf
   rcases DataW.trod_slice hu h with ⟨rfl,rfl⟩|⟨a,len,cap,elems,rest,n,_,rfl,rfl,_,hl,_,hlen,hel,hsp,_⟩
   exact⟨none,0,0,[],rfl,At.nil _ _,by simp,by simp,by simp,fun i hi=>by omega⟩
   obtain⟨hrl,_⟩:=hsp rfl
   rw[hm] at hel
   have hsz:=hw ((elems.length+rest.length)*P.bytesOf u) (by simp[DataW.weights,hu])
   rw[hlen,hrl,hb] at hsz
   have hR:reachBytes=140737488351232:=rfl
   rw[hR] at hsz
   have hex:∀i,i<len->∃csi y,w.cells? 0 (a.add (i*e.n)) e.n=some csi/\elems[i]? =some y/\DataW.trod enc P w 0 (fun _=>true) true n u csi=some y:=by
    intro i hi
    have h1:=hel i hi
    rw[List.getElem?_eq_getElem (by omega),Option.bind_eq_some_iff] at h1
    obtain⟨csi,hc,hy⟩:=h1
    exact⟨csi,_,hc,List.getElem?_eq_getElem (by omega),hy⟩
   obtain⟨xs,hxl,hxa,hxe⟩:=Dr (w:=w) (a:=a) (len:=len) hp (fun i hi=>let ⟨csi,_,hc,_⟩:=hex i hi;⟨csi,hc⟩)
   refine⟨some a,len,cap,xs,rfl,hxa,hxl,hl,?_,fun i hi=>?_⟩
   rw[show len+(cap-len)=cap by omega] at hsz
   exact hsz
   obtain⟨csi,y,hc,hy,ht⟩:=hex i hi
   rw[hxe i hi csi hc]
   refine rz e u n csi y he ht fun z hz=>hw z ?_
   simp only[DataW.weights,hu,List.mem_cons,List.mem_append]
   refine .inr (.inl ?_)
   exact pO i y.1 (by rw[List.getElem?_map,hy];rfl) z hz
   cases hf
 | .st fs,t,fuel,cs,x,hf,h,hw=>by
   simp only[Sh.fits] at hf
   split at hf
   rename_i gs hu
   simp only[Bool.and_eq_true,decide_eq_true_eq] at hf
   obtain⟨hc,hF⟩:=hf
   obtain⟨xs,n,_,rfl,hcl,hxl,hat⟩:=DataW.trod_struct hu h
   have:=yU fs gs.toList 0 cs xs n hF (fun i g hg=>hat i g (by rw[<-hg];exact(Array.getElem?_toList ..).symm)) (by simpa using hxl) (by omega) (fun z hz=>hw z (by simp only[DataW.weights,hu];exact hz))
   rw[List.drop_zero,List.take_of_length_le (by omega)] at this
   exact this
   rename_i n u hu
   simp only[Bool.and_eq_true,decide_eq_true_eq] at hf
   obtain⟨⟨hc,hn⟩,hF⟩:=hf
   obtain⟨xs,m,_,rfl,hcl,hxl,hat⟩:=DataW.trod_array hu h
   have:=yr fs u 0 cs xs m hF (fun i hi=>by rw[Nat.zero_add];exact hat i (by omega)) (by omega) (by rw[Nat.zero_mul,Nat.zero_add];omega) (fun z hz=>hw z (by simp only[DataW.weights,hu];exact hz))
   rw[Nat.zero_mul,List.drop_zero,List.take_of_length_le (by omega)] at this
   exact this
   cases hf
theorem yU:∀(fs:List Sh) (gs:List Field) (off:Nat) (cs:List Value) (xs:List (DataW H×List MemPlace)) (m:Nat),Sh.fitsF P fs gs off=true->
  (∀(i:Nat) (g:Field),gs[i]? =some g->DataW.trod enc P w 0 (fun _=>true) true m g.type ((cs.drop g.offset).take (P.cellsOf g.type))=xs[i]?)->xs.length=gs.length->off+Sh.ns fs<=cs.length->
  (∀n∈DataW.weightsEach P (gs.map (·.type)) (xs.map (·.1)),n<=reachBytes)->mE w fs ((cs.drop off).take (Sh.ns fs))
 | [],[],off,cs,xs,m,hf,h,hx,hl,hw=>by simp[mE,Sh.ns]
 |f::fs,g::gs,off,cs,xs,m,hf,h,hx,hl,hw=>by
  simp only[Sh.fitsF,Bool.and_eq_true,decide_eq_true_eq] at hf
  obtain⟨⟨⟨ho,hc⟩,hff⟩,hF⟩:=hf
  simp only[Sh.ns] at hl
  match xs,hx with
  |y::ys,hx=>
   have h0:=h 0 g rfl
   simp only[List.getElem?_cons_zero] at h0
   rw[ho,hc] at h0
   refine⟨(cs.drop off).take f.n,(cs.drop (off+f.n)).take (Sh.ns fs),?_,rz f g.type m _ y hff h0 (fun z hz=>hw z ?_),yU fs gs (off+f.n) cs ys m hF (fun i g' hg=>?_) (by simpa using hx) (by omega) (fun z hz=>hw z ?_)⟩
   rw[Sh.ns,<-List.drop_drop,List.take_add]
   simp only[List.map_cons,DataW.weightsEach,List.mem_append];exact .inl hz
   simpa using h (i+1) g' (by simpa using hg)
   simp only[List.map_cons,DataW.weightsEach,List.mem_append];exact .inr hz
 | [],_:: _,off,cs,xs,m,hf,h,hx,hl,hw=>by simp[Sh.fitsF] at hf
 |_:: _,[],off,cs,xs,m,hf,h,hx,hl,hw=>by simp[Sh.fitsF] at hf
theorem yr:∀(fs:List Sh) (u:TypeId) (k:Nat) (cs:List Value) (xs:List (DataW H×List MemPlace)) (m:Nat),Sh.fitsA P fs u=true->
  (∀i,i<fs.length->DataW.trod enc P w 0 (fun _=>true) true m u ((cs.drop ((k+i)*P.cellsOf u)).take (P.cellsOf u))=xs[i]?)->xs.length=fs.length->k*P.cellsOf u+Sh.ns fs<=cs.length->
  (∀n∈DataW.weightsAll P u (xs.map (·.1)),n<=reachBytes)->mE w fs ((cs.drop (k*P.cellsOf u)).take (Sh.ns fs))
 | [],u,k,cs,xs,m,hf,h,hx,hl,hw=>by simp[mE,Sh.ns]
 |f::fs,u,k,cs,xs,m,hf,h,hx,hl,hw=>by
  simp only[Sh.fitsA,Bool.and_eq_true,decide_eq_true_eq] at hf
  obtain⟨⟨hc,hff⟩,hF⟩:=hf
  simp only[Sh.ns] at hl
  match xs,hx with
  |y::ys,hx=>
   have h0:=h 0 (by simp)
   simp only[List.getElem?_cons_zero,Nat.add_zero] at h0
   have hk:(k+1)*P.cellsOf u=k*P.cellsOf u+f.n:=by rw[Nat.add_mul,Nat.one_mul,hc]
   refine⟨(cs.drop (k*P.cellsOf u)).take f.n,(cs.drop ((k+1)*P.cellsOf u)).take (Sh.ns fs),?_,rz f u m _ y hff (by rw[<-hc];exact h0) (fun z hz=>hw z ?_),yr fs u (k+1) cs ys m hF (fun i hi=>?_) (by simpa using hx) (by rw[hk];omega) (fun z hz=>hw z ?_)⟩
   rw[Sh.ns,hk,<-List.drop_drop,List.take_add]
   simp only[List.map_cons,DataW.weightsAll,List.mem_append];exact .inl hz
   rw[show k+1+i=k+(i+1) by omega]
   simpa using h (i+1) (by simp;omega)
   simp only[List.map_cons,DataW.weightsAll,List.mem_append];exact .inr hz
end
end
theorem xW{H:Type}{enc:TypeId×Value->H}{P:Program}{ts:List TypeId}{ds:List (DataW H)}(hsz:(DataW.weightsEach P ts ds).all (·<=reachBytes)=true)(j:Nat){t:TypeId}{v:Value}{d:DataW H}{p:List MemPlace}(s:Sh)
  (hf:s.fits P t=true) (ht:ts[j]? =some t) (hd:ds[j]? =some d) (h:DataW.Trod enc P w 0 (fun _=>true) true t v d p):nB w s v.cells.toList:=by
 obtain⟨fuel,h⟩:=h
 exact rz s t fuel _ (d,p) hf h fun n hn=>of_decide_eq_true (List.all_eq_true.1 hsz n (DataW.weights_mem_each ht hd n hn))
theorem yA{T:Type}(f:T->List Value)(p:T->Prop)(m:Nat):∀(n:Nat) (xs:List Value),xs.length=n*m->(∀i,i<n->∃t,(xs.drop (i*m)).take m=f t/\p t)->
  ∃ts:List T,ts.length=n/\xs=ts.flatMap f/\∀t∈ts,p t
 |0,xs,hl,h=>⟨[],rfl,by simpa using hl,by simp⟩
 |n+1,xs,hl,h=>by
  obtain⟨t,ht,hp⟩:=h 0 (by omega)
  rw[Nat.zero_mul,List.drop_zero] at ht
  have hle:(n+1)*m=m+n*m:=by rw[Nat.add_mul,Nat.one_mul,Nat.add_comm]
  obtain⟨ts,h1,h2,h3⟩:=yA f p m n (xs.drop m) (by rw[List.length_drop];omega) (fun i hi=>by
   obtain⟨t',ht',hp'⟩:=h (i+1) (by omega)
   refine⟨t',?_,hp'⟩
   rw[List.drop_drop,show m+i*m=(i+1)*m by rw[Nat.add_mul,Nat.one_mul,Nat.add_comm]]
   exact ht')
  refine⟨t::ts,by simp[h1],?_,by simpa using ⟨hp,h3⟩⟩
  rw[List.flatMap_cons,<-h2,<-ht,List.take_append_drop]
theorem r7{T:Type}(f:T->Value):∀ts:List T,(ts.flatMap fun t=>[f t])=ts.map f
 | []=>rfl
 |t::ts=>by simp[r7 f ts]
theorem ED{k:IntKind}{bs:Nat}{cs:List Value}(h:nB w (.sl (.int k) bs) cs):
  ∃(A:Option Addr) (c:Nat) (zs:List Int),cs=[.slice A zs.length c]/\At w A (zs.map (Value.int k))/\zs.length<=c/\c*bs<=140737488351232/\∀z∈zs,(Lit.int k z).wf=true:=by
 simp only[nB,Sh.n,Nat.mul_one] at h
 obtain⟨A,n,c,xs,rfl,hA,hl,hc,hb,he⟩:=h
 obtain⟨zs,h1,h2,h3⟩:=yA (fun z=>[Value.int k z]) (fun z=>(Lit.int k z).wf=true) 1 n xs (by omega) (fun i hi=>by rw[Nat.mul_one];exact he i hi)
 rw[r7] at h2
 subst h1 h2
 exact⟨A,c,zs,rfl,hA,hc,hb,h3⟩
def LG(w:World)(s:Sh)(v:Value):Prop:=match s with
 | .st fs=>∃cs:List Value,v= .agg ⟨cs⟩/\mE w fs cs
 |s=>nB w s [v]
theorem ye{P:Program}{r:Reach}{b0:Nat}{t:TypeId}{v:Value}(s:Sh)(hf:s.fits P t=true)(hv:Value.okWide P W r b0 t v)(h:nB w s v.cells.toList):LG w s v:=by
 cases s with
 |int k=>
  simp only[Sh.fits] at hf
  split at hf
  rename_i k' hu
  obtain⟨n,rfl⟩:=okWide_int hu hv
  exact h
  cases hf
 |bool=>
  simp only[Sh.fits] at hf
  split at hf
  rename_i hu
  obtain⟨n,rfl⟩:=okWide_bool hu hv
  exact h
  cases hf
 |str=>
  simp only[Sh.fits] at hf
  split at hf
  rename_i hu
  obtain⟨n,rfl⟩:=okWide_string hu hv
  exact h
  cases hf
 |sl e bs=>
  simp only[Sh.fits] at hf
  split at hf
  rename_i u hu
  obtain⟨a,l,c,rfl⟩:=okWide_slice hu hv
  exact h
  cases hf
 |st fs=>
  simp only[Sh.fits] at hf
  split at hf
  rename_i gs hu
  obtain⟨cs,rfl,_⟩:=okWide_struct hu hv
  exact⟨cs.toList,rfl,h⟩
  rename_i n u hu
  simp only[Value.okWide,hu] at hv
  obtain⟨cs,rfl,_⟩:=hv
  exact⟨cs.toList,rfl,h⟩
  cases hf
end
end Go.Proofs.YtcdjaepgahbhfaaGreat
namespace Go.Proofs.YtcdjaepgahbhfaaGreat.storeAhead
section
open Go.ChangeShapes Go.WideShapes Go.ChangeAt Go.RowKit Go.Deep Go.Joins
theorem lifted(os:Os)(started:os.Started)(H:Type)(enc:TypeId×Value->H):
  ReturnsInHanded {} Tryz.checked os 8 .any (Rows.storeAheadSpec.pre6 enc Tryz.prog Tryz.f8 Rows.storeAheadRow.domain false) (Rows.storeAheadSpec.post enc Tryz.prog Tryz.f8 false true false false):=by
 refine returnsInHanded_of_change_sized (C:=Tryz.checked) yM started (by kernel_rfl) Tryz.func8
  (ChangeSpec.witness6 (enc:=enc) (C:=Tryz.checked) false ⟨#[],#[sn,.int .u8 0],[]⟩ 8 (by kernel_rfl) (by kernel_rfl) (by kernel_rfl) (by kernel_rfl)) ?_
 intro W base args ds gs before hval0 hW hcnd hsz0 _
 have hval:∀(j:Nat) t v,Tryz.f8.params[j]? =some t->args[j]? =some v->Value.okWide Tryz.prog W .any base t v:=hval0
 have hsz:(DataW.weightsEach Tryz.prog (Tryz.f8.params.toList++Rows.storeAheadSpec.plain.varTypes Tryz.prog) (ds++gs)).all (·<=reachBytes)=true:=hsz0
 clear hsz0 hval0
 have hW':=hW
 obtain⟨p,q,hA0,hV,rfl,hfz,hnd⟩:=hW
 have hA:DataW.TrodAll enc Tryz.prog W 0 (fun _=>true) true Tryz.f8.params.toList args.toList ds p:=hA0
 clear hA0
 rw[Tryz.params8] at hA hval hsz
 obtain⟨v0,vs0,d0,ds0,p0,q0,hargs,rfl,rfl,h0,r0⟩:=trodAll_cons hA
 obtain⟨v1,vs1,d1,ds1,p1,q1,rfl,rfl,rfl,h1,r1⟩:=trodAll_cons r0
 obtain⟨rfl,rfl,rfl⟩:=trodAll_nil r1
 obtain rfl:args=#[v0,v1]:=by cases args;simp_all
 obtain⟨rfl,rfl⟩:=trodVars_none hV
 have s0:=ye (.sl (.st [.int .u8,.int .i64,.int .i64,.str,.sl (.int .i64) 8]) 64) (by kernel_rfl) (hval 0 _ _ rfl rfl) (xW hsz 0 (.sl (.st [.int .u8,.int .i64,.int .i64,.str,.sl (.int .i64) 8]) 64) (by kernel_rfl) rfl rfl h0)
 have s1:=ye (.int .u8) (by kernel_rfl) (hval 1 _ _ rfl rfl) (xW hsz 1 (.int .u8) (by kernel_rfl) rfl rfl h1)
 clear hsz
 obtain⟨AA,n_,ac,xs_,hE,atAA,e_,lAA,bAA,p_⟩:=s0
 cases hE
 obtain⟨acs,e1_,e2_,wAA⟩:=yA (T:=ActT) acC (fun t=>ActOk t) 5 n_ xs_ e_ (fun i_ hi_=>by
  have g_:=p_ i_ hi_
  obtain⟨a0_,b0_,e0_,s0_,g_⟩:=g_
  obtain⟨a1_,b1_,e1_,s1_,g_⟩:=g_
  obtain⟨a2_,b2_,e2_,s2_,g_⟩:=g_
  obtain⟨a3_,b3_,e3_,s3_,g_⟩:=g_
  obtain⟨a4_,b4_,e4_,s4_,g0_⟩:=g_
  obtain⟨wt,f0_,wwt⟩:=s0_
  obtain⟨pg,f1_,wpg⟩:=s1_
  obtain⟨sl,f2_,wsl⟩:=s2_
  obtain⟨itm,f3_,zitm⟩:=s3_
  obtain⟨QA,qc,qs,f4_,atQA,lQA,bQA,wQA⟩:=ED s4_
  have g_: _= _:=e0_
  rw[f0_,e1_,f1_,e2_,f2_,e3_,f3_,e4_,f4_,show b4_=[] from g0_] at g_
  exact⟨(⟨wt,pg,sl,itm,QA,qs.length,qc⟩:ActT),g_,⟨LJ wwt,xe wpg,xe wsl,(by show itm.size<= _;omega),(by show (qs.length:Int)<= _;omega)⟩⟩)
 subst e1_ e2_
 obtain⟨b,hE,wb⟩:=s1
 cases hE
 refine(vy AA ac acs b W atAA wAA (by omega) (LJ wb)).mono fun e W' ⟨he,hx⟩=>?_
 subst he
 exact⟨_,rfl,H1 KB (by rw[Tryz.params8];exact(by decide+kernel)) rfl Tryz.underlying4 hW' rfl rfl rfl rfl hx⟩
theorem over:Rows.storeAheadRow.holds Tryz.pinned (OpenSpec.ofChange Rows.storeAheadSpec):=
 OpenClaim.holds_of_wide 8 Tryz.f8 rfl rfl rfl rfl rfl rfl rfl ⟨rfl,rfl,rfl,rfl,rfl⟩ rfl rfl rfl rfl rfl (by kernel_rfl) Tryz.func8 (by kernel_rfl)
  (of_decide_eq_true (by kernel_rfl)) (by unfold Func.isWrapper;first|(rw[if_pos (by decide+kernel)];kernel_rfl)|(rw[if_neg (by decide+kernel)];exact⟨rfl,rfl⟩))
  (fun os started H enc _=>lifted os started H enc)
theorem proved:Rows.StoreAheadSaid:=
 over
end
end Go.Proofs.YtcdjaepgahbhfaaGreat.storeAhead
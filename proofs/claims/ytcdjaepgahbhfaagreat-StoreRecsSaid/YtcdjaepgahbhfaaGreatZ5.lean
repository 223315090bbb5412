import Derived.Test.YtcdjaepgahbhfaaGreatZ4
set_option linter.unusedVariables false
set_option linter.unusedSimpArgs false
set_option maxRecDepth 100000
set_option maxHeartbeats 16000000
namespace Go.Proofs.YtcdjaepgahbhfaaGreat
variable{A B l:List BfT}{D:DkM}{EA LA RA:Option Addr}{L:List RecM}{L0:List Ent}{S S' S2:StM}{W w w' w0:World}{args:Array Value}{b c db ec i ib j k lc mb rc sb tb:Nat}{bor fp fp' fpd:List Nat}{e:EdT}{er lsn n:Int}{f:FuncId}{left:Int->Bool}{p:PgS}{pg:PgR}{r:RecM}{rs:List RcT}{rt:RcT}{s:ByteArray}{t u:BfT}
section
open Go.RowKit
def d5(sb db:Nat)(R:StM×Int)(fp:List Nat)(w:World)(e:Ending)(w':World):Prop:=e= .returned (.int .i64 R.2)/\∃fp',St w fp [eSt sb db R.1 fp'] w'
theorem d5.of{R R':StM×Int}(h:R=R')(hs:St w fp ([]++[eSt sb db R'.1 fp']) w'):d5 sb db R fp w (.returned (.int .i64 R'.2)) w':=by
 subst h;exact⟨rfl,_,hs⟩
theorem F1(h:(S.F:Int)<t.pg.p.2.1)(h2:(opD S.D 0 flD).2≠0):bN S t=({S with D:=(opD S.D 0 flD).1},(opD S.D 0 flD).2):=by
 have e:wrD0 S t=opD S.D 0 flD:=if_pos h
 rw[bN,e,if_pos h2]
theorem yu{D1:DkM}(h:wrD0 S t=(D1,0)){R:DkM×Int}(hR:opD D1 (wrE D1 t.n (aH t.pg.p)) (wrD t.n (aH t.pg.p))=R)(h2:R.2≠0):bN S t=({S with D:=R.1},R.2):=by
 subst hR
 rw[bN,h,if_neg (by simp)]
 dsimp only
 rw[if_neg h2]
theorem yY{D1:DkM}(h:wrD0 S t=(D1,0)){R:DkM×Int}(hR:opD D1 (wrE D1 t.n (aH t.pg.p)) (wrD t.n (aH t.pg.p))=R)(h2:R.2=0)(hp:S.pool=A++t::B)(hd:((A++t::B).map BfT.n).Nodup):bN S t=({S with D:=R.1,pool:=A++clB t::B},R.2):=by
 subst hR
 rw[bN,h,if_neg (by simp)]
 dsimp only
 rw[if_pos h2,hp,ks hd]
theorem JI(h:¬(S.F:Int)<t.pg.p.2.1):wrD0 S t=(S.D,0):=if_neg h
theorem GL(h:(S.F:Int)<t.pg.p.2.1)(h2:(opD S.D 0 flD).2=0):wrD0 S t=((opD S.D 0 flD).1,0):=by
 rw[wrD0,if_pos h];exact Prod.ext rfl h2
theorem sP(D:DkM):(opD D 0 flD).1.pgs=D.pgs:=by unfold opD;split<;>first|rfl|(split<;>first|rfl|(split<;>rfl))
theorem D9{S:StM}{A B:List BfT}{t:BfT}(hAB:S.pool=A++t::B)(hrw:∀t∈S.pool,t.pg∈S.rows):∀u∈A++clB t::B,u.pg∈S.rows:=fun u hu=>by
 rcases List.mem_append.1 hu with h|h
 exact hrw u (by rw[hAB];simp[h])
 rcases List.mem_cons.1 h with rfl|h
 exact hrw t (by rw[hAB];simp)
 exact hrw u (by rw[hAB];simp[h])
theorem uk(sb db:Nat)(S:StM)(A B:List BfT)(t:BfT)(c:Nat)(fp:List Nat)(w:World)(hB:(eSt sb db S fp).holds w)(hlt:∀k∈fp,k<w.heap.size)(hok:SOk S c)(hc:c<=900000000)(hAB:S.pool=A++t::B):
  Calls Tryz.prog 138 #[po sb 0,.int .i64 t.n,po t.blk 0] w (d5 sb db (bN S t) fp w):=by
 have st1:St w fp [eSt sb db S fp] w:=St.lend hB (dv _ _ _ _) hlt
 go_enter Tryz.func138,Tryz.ntmps138
 have aj:=st1
 obtain⟨⟨hrw,hrr⟩,mb,RA,rc,EA,ec,ib,tb,fpd,hv1_⟩:=aj.unf
 rw[hAB] at hv1_
 have ho2_:=St.obf (t:=t) hv1_.u2
 have htm:t∈S.pool:=by rw[hAB];simp
 have hri:=hok.right t htm
 have hrt:=hrw t htm
 have hw:∀x∈S.D.pgs,x.ws.length<=1000000000:=fun x hx=>Nat.le_trans (hok.ws x hx) (by omega)
 have hlz:=hok.lsz
 have hfz:=hok.fl
 have hll:S.L.length<=1048576:=by have h1:=ob hok.recs;have h2:=hok.log;have h3:=congrArg ByteArray.size h2;rw[cE] at h3;omega
 have hrpp:=dh hri.1
 refine wq (sqr (sqp [.k 6 (vi 0)] ?_))
 refine aa (wq (wq (bP [0,1,3,7,15,0,32,127] [[],[],[],[],[1],[],[2,10,5,6,7]] [.k 10 (po t.blk 0),.k 11 (po t.blk 0),.k 12 (po t.blk 0),.k 13 (po t.blk 1),.c 14 (vi t.pg.p.2.1),.k 15 (vp sb),.c 16 (vi ((S.F:Int))),.k 17 (.bool (decide ((S.F:Int)<t.pg.p.2.1)))] [0,1,2,3,4,5,6,7,8,9,10] [4,6] [(10,0,8,18)] ho2_ ?_ fun W4 bc=>?_)))
 refine⟨?_,?_,trivial⟩
 exact xs4 rfl id fun cx=>ae rfl (by kernel_rfl) (cx.an 3) ((cx.bi 1 rfl).cell 1)
 exact xsc rfl id rfl rfl fun cx=>⟨_,xX sb db S _ ⟨_,_,_,_,_,_,_,⟨(cx.bi 2 rfl),fc (CtxV.holdF cx (cx.init 10 _ rfl) rfl),At.of_ownN (cx.ri 5 rfl),jQ.own (cx.ri 6 rfl),fun t ht=>dI (CtxV.holdF cx (cx.init 7 _ rfl) rfl) ht⟩⟩ (by omega) (by omega),(ax (cx.an 5))⟩
 refine aa (wds (fun eY PC=>?_) fun eY PC=>?_)
 refine wq (sqr (sqp [.m 18 0,.k 19 (vp sb),.k 20 (vp sb)] ?_))
 refine aq 2 bc ?_
 refine bM (fun X_=>X_.fp) (vi ((opD S.D 0 flD).2)) (fun zp=>eDk db ((opD S.D 0 flD).1) zp) 10 bc (by
   refine svA fun h a W X cx=>?_
   refine am.call (au (args:=#[vp db]) rfl cx.sees rfl (by kernel_rfl) (ax (cx.ou 21))) ?_
   refine(lS db S.D _ _ (CtxV.holdF cx (cx.init 10 _ rfl) rfl) (CtxV.ltF cx (cx.init 10 _ rfl) rfl) (by omega)).mono ?_
   rintro e W1 ⟨rfl,fp4,aT⟩
   refine⟨_,rfl,aK (E:=eDk db S.D fpd) [eDk db (opD S.D 0 flD).1 fp4] (cx.init 10 _ rfl) rfl rfl aT (fun d g X' hs hb hv hN=>?_)⟩
   have aJ:=(hv 22 rfl).1;have aV:=(hv 22 rfl).2
   exact⟨aJ.trans rfl,cJ ((List.cons.inj hN).1)⟩) fun zp wU dO=>?_
 refine sqp [.m 7 22] ?_
 refine aa (wq (sqr (sqp [.m 23 7,.k 24 (.bool (((opD S.D 0 flD).2) != 0))] ?_)))
 refine aa (wbs (fun gP=>?_) fun gP=>?_)
 have py:=bne_iff_ne.1 gP
 refine wq (sqr (sqp [.m 25 7,.m 6 25] ?_))
 refine aa (wp_ret (ai ?_))
 refine bpr (vi ((opD S.D 0 flD).2)) (ag Tryz.results138 rpt) ?_
 have hi17_:=St.ibf (t:=t) dO
 obtain⟨fp18_,hk18_⟩:=St.stf (S:={S with D:=(opD S.D 0 flD).1}) (by have h_:=hi17_.u2.u2;rw[<-hAB] at h_;exact h_) (hrw) (hrr)
 exact d5.of (F1 (of_decide_eq_true eY) (by simpa using gP)) hk18_
 have py:=bne_eq_false_iff_eq.1 gP
 refine wp_skip (aa (wq ?_))
 have hD1:=GL (of_decide_eq_true eY) (by simpa using gP)
 have hw2:∀x∈(opD S.D 0 flD).1.pgs,x.ws.length<=1000000000:=by rw[sP];exact hw
 refine sqr (sqp [.m 27 2,.k 28 (po t.blk 0),.k 29 (po t.blk 0)] ?_)
 refine bI 1 3 dO ?_
 refine sqk (.tuple #[.string (aH t.pg.p),vi 0]) dO (fun cx=>⟨_,nb (mt hri) _ _ _ (jd (CtxV.holdF cx (cx.init 4 _ rfl) rfl) hrt) (eh hri.1),(ax (cx.ou 30))⟩) fun uA cF=>?_
 refine sqp [.m 26 31,.k 32 (.string (aH t.pg.p)),.k 33 (vi 0),.m 8 32,.m 9 33] ?_
 refine aa (wq (wq (sqr (sqp [.m 34 9,.k 35 (.bool true)] ?_))))
 refine aa (wct rfl (sqr (sqp [.m 36 0,.k 37 (vp sb),.k 38 (vp sb)] ?_)))
 refine aq 2 cF ?_
 refine sqp [.m 40 1,.m 41 8] ?_
 refine bM (fun X_=>X_.fp) (vi ((opD ((opD S.D 0 flD).1) (wrE ((opD S.D 0 flD).1) t.n (aH t.pg.p)) (wrD t.n (aH t.pg.p))).2)) (fun Fr=>eDk db ((opD ((opD S.D 0 flD).1) (wrE ((opD S.D 0 flD).1) t.n (aH t.pg.p)) (wrD t.n (aH t.pg.p))).1) Fr) 10 cF (by
   refine svA fun h a W X cx=>?_
   refine am.call (au (args:=#[vp db,vi t.n,.string (aH t.pg.p)]) rfl cx.sees rfl (by kernel_rfl) (dL (cx.ou 39) (cx.ou 40) (cx.ou 41))) ?_
   refine(tM db ((opD S.D 0 flD).1) t.n (aH t.pg.p) _ _ (CtxV.holdF cx (cx.init 10 _ rfl) rfl) (CtxV.ltF cx (cx.init 10 _ rfl) rfl) hw2).mono ?_
   rintro e W1 ⟨rfl,fp4,aT⟩
   refine⟨_,rfl,aK (E:=eDk db ((opD S.D 0 flD).1) zp) [eDk db (opD ((opD S.D 0 flD).1) (wrE ((opD S.D 0 flD).1) t.n (aH t.pg.p)) (wrD t.n (aH t.pg.p))).1 fp4] (cx.init 10 _ rfl) rfl rfl aT (fun d g X' hs hb hv hN=>?_)⟩
   have aJ:=(hv 42 rfl).1;have aV:=(hv 42 rfl).2
   exact⟨aJ.trans rfl,cJ ((List.cons.inj hN).1)⟩) fun Fr Fh fE=>?_
 refine sqp [.m 9 42] ?_
 refine aa (wq (wq (sqr (sqp [.m 43 9,.k 44 (.bool (((opD ((opD S.D 0 flD).1) (wrE ((opD S.D 0 flD).1) t.n (aH t.pg.p)) (wrD t.n (aH t.pg.p))).2)==0))] ?_))))
 refine aa (wbs (fun lP=>?_) fun lP=>?_)
 have CI:=beq_iff_eq.1 lP
 refine sqr (sqp [.m 45 2,.k 46 (po t.blk 0),.k 47 (po t.blk 3)] ?_)
 refine aX (n:=1) 1 #[vi t.pg.p.1,vi t.pg.p.2.1,.slice t.pg.A t.pg.p.2.2.length t.pg.c,.bool false,vi t.used] fE fun QK CG=>?_
 refine aa (wq (sqr (sqp [.m 48 9,.m 6 48] ?_)))
 refine aa (wp_ret ?_)
 refine bpr (vi ((opD ((opD S.D 0 flD).1) (wrE ((opD S.D 0 flD).1) t.n (aH t.pg.p)) (wrD t.n (aH t.pg.p))).2)) (ag Tryz.results138 rpt) ?_
 have hi48_:=St.ibf (t:=(clB t)) CG
 obtain⟨fp49_,hk49_⟩:=St.stf (S:={S with D:=(opD ((opD S.D 0 flD).1) (wrE ((opD S.D 0 flD).1) t.n (aH t.pg.p)) (wrD t.n (aH t.pg.p))).1,pool:=A++clB t::B}) (by have h_:=hi48_.u2.u2;rw[<-nZ (A:=A) (B:=B) (t:=t) (u:=clB t) rfl rfl,show (A++t::B).length=(A++clB t::B).length by simp] at h_;exact h_) (fun u hu=>D9 hAB hrw u hu) (hrr)
 exact d5.of (yY hD1 rfl (by simpa using lP) hAB (by rw[<-hAB];exact hok.nodup)) hk49_
 have CI:=beq_eq_false_iff_ne.1 lP
 refine wp_skip (aa (wq (sqr (sqp [.m 48 9,.m 6 48] ?_))))
 refine aa (wp_ret ?_)
 refine bpr (vi ((opD ((opD S.D 0 flD).1) (wrE ((opD S.D 0 flD).1) t.n (aH t.pg.p)) (wrD t.n (aH t.pg.p))).2)) (ag Tryz.results138 rpt) ?_
 have hi52_:=St.ibf (t:=t) fE
 obtain⟨fp53_,hk53_⟩:=St.stf (S:={S with D:=(opD ((opD S.D 0 flD).1) (wrE ((opD S.D 0 flD).1) t.n (aH t.pg.p)) (wrD t.n (aH t.pg.p))).1}) (by have h_:=hi52_.u2.u2;rw[<-hAB] at h_;exact h_) (hrw) (hrr)
 exact d5.of (yu hD1 rfl (by simpa using lP)) hk53_
 refine wp_skip (aa (wq ?_))
 have hD1:=JI (of_decide_eq_false eY)
 refine sqr (sqp [.m 27 2,.k 28 (po t.blk 0),.k 29 (po t.blk 0)] ?_)
 refine bI 1 3 bc ?_
 refine sqk (.tuple #[.string (aH t.pg.p),vi 0]) bc (fun cx=>⟨_,nb (mt hri) _ _ _ (jd (CtxV.holdF cx (cx.init 4 _ rfl) rfl) hrt) (eh hri.1),(ax (cx.ou 30))⟩) fun IT kk=>?_
 refine sqp [.m 26 31,.k 32 (.string (aH t.pg.p)),.k 33 (vi 0),.m 8 32,.m 9 33] ?_
 refine aa (wq (wq (sqr (sqp [.m 34 9,.k 35 (.bool true)] ?_))))
 refine aa (wct rfl (sqr (sqp [.m 36 0,.k 37 (vp sb),.k 38 (vp sb)] ?_)))
 refine aq 2 kk ?_
 refine sqp [.m 40 1,.m 41 8] ?_
 refine bM (fun X_=>X_.fp) (vi ((opD S.D (wrE S.D t.n (aH t.pg.p)) (wrD t.n (aH t.pg.p))).2)) (fun Fs=>eDk db ((opD S.D (wrE S.D t.n (aH t.pg.p)) (wrD t.n (aH t.pg.p))).1) Fs) 10 kk (by
   refine svA fun h a W X cx=>?_
   refine am.call (au (args:=#[vp db,vi t.n,.string (aH t.pg.p)]) rfl cx.sees rfl (by kernel_rfl) (dL (cx.ou 39) (cx.ou 40) (cx.ou 41))) ?_
   refine(tM db S.D t.n (aH t.pg.p) _ _ (CtxV.holdF cx (cx.init 10 _ rfl) rfl) (CtxV.ltF cx (cx.init 10 _ rfl) rfl) hw).mono ?_
   rintro e W1 ⟨rfl,fp4,aT⟩
   refine⟨_,rfl,aK (E:=eDk db S.D fpd) [eDk db (opD S.D (wrE S.D t.n (aH t.pg.p)) (wrD t.n (aH t.pg.p))).1 fp4] (cx.init 10 _ rfl) rfl rfl aT (fun d g X' hs hb hv hN=>?_)⟩
   have aJ:=(hv 42 rfl).1;have aV:=(hv 42 rfl).2
   exact⟨aJ.trans rfl,cJ ((List.cons.inj hN).1)⟩) fun Fs QP xp=>?_
 refine sqp [.m 9 42] ?_
 refine aa (wq (wq (sqr (sqp [.m 43 9,.k 44 (.bool (((opD S.D (wrE S.D t.n (aH t.pg.p)) (wrD t.n (aH t.pg.p))).2)==0))] ?_))))
 refine aa (wbs (fun zq=>?_) fun zq=>?_)
 have N5:=beq_iff_eq.1 zq
 refine sqr (sqp [.m 45 2,.k 46 (po t.blk 0),.k 47 (po t.blk 3)] ?_)
 refine aX (n:=1) 1 #[vi t.pg.p.1,vi t.pg.p.2.1,.slice t.pg.A t.pg.p.2.2.length t.pg.c,.bool false,vi t.used] xp fun OV pu=>?_
 refine aa (wq (sqr (sqp [.m 48 9,.m 6 48] ?_)))
 refine aa (wp_ret ?_)
 refine bpr (vi ((opD S.D (wrE S.D t.n (aH t.pg.p)) (wrD t.n (aH t.pg.p))).2)) (ag Tryz.results138 rpt) ?_
 have hi83_:=St.ibf (t:=(clB t)) pu
 obtain⟨fp84_,hk84_⟩:=St.stf (S:={S with D:=(opD S.D (wrE S.D t.n (aH t.pg.p)) (wrD t.n (aH t.pg.p))).1,pool:=A++clB t::B}) (by have h_:=hi83_.u2.u2;rw[<-nZ (A:=A) (B:=B) (t:=t) (u:=clB t) rfl rfl,show (A++t::B).length=(A++clB t::B).length by simp] at h_;exact h_) (fun u hu=>D9 hAB hrw u hu) (hrr)
 exact d5.of (yY hD1 rfl (by simpa using zq) hAB (by rw[<-hAB];exact hok.nodup)) hk84_
 have N5:=beq_eq_false_iff_ne.1 zq
 refine wp_skip (aa (wq (sqr (sqp [.m 48 9,.m 6 48] ?_))))
 refine aa (wp_ret ?_)
 refine bpr (vi ((opD S.D (wrE S.D t.n (aH t.pg.p)) (wrD t.n (aH t.pg.p))).2)) (ag Tryz.results138 rpt) ?_
 have hi87_:=St.ibf (t:=t) xp
 obtain⟨fp88_,hk88_⟩:=St.stf (S:={S with D:=(opD S.D (wrE S.D t.n (aH t.pg.p)) (wrD t.n (aH t.pg.p))).1}) (by have h_:=hi87_.u2.u2;rw[<-hAB] at h_;exact h_) (hrw) (hrr)
 exact d5.of (yu hD1 rfl (by simpa using zq)) hk88_
theorem tL(sb db:Nat)(S:StM)(A B:List BfT)(t:BfT)(c:Nat)(fp:List Nat)(w:World)(hB:(eSt sb db S fp).holds w)(hlt:∀k∈fp,k<w.heap.size)(hok:SOk S c)(hc:c<=900000000)(hAB:S.pool=A++t::B):
  Calls Tryz.prog 72 #[po sb 0,.int .i64 t.n] w (d5 sb db (aL S t) fp w):=by
 have st1:St w fp [eSt sb db S fp] w:=St.lend hB (dv _ _ _ _) hlt
 go_enter Tryz.func72,Tryz.ntmps72
 have aj:=st1
 obtain⟨⟨hrw,hrr⟩,mb,RA,rc,EA,ec,ib,tb,fpd,hv1_⟩:=aj.unf
 rw[hAB] at hv1_
 have ho2_:=St.obf (t:=t) hv1_.u2
 have htm:t∈S.pool:=by rw[hAB];simp
 have hki:kcI.ok t.n:=by have:=hok.keys t htm;have:=hok.pgs;constructor<;>omega
 have hnd:((A++t::B).map BfT.n).Nodup:=by rw[<-hAB];exact hok.nodup
 refine wq (sqr (sqp [.k 4 (vi 0)] ?_))
 refine aa (wq (wq (sqr (sqp [.m 6 0,.k 7 (vp sb),.k 8 (po sb 2)] ?_))))
 refine aq 2 ho2_ ?_
 refine sqp [.m 10 1] ?_
 refine sql (po t.blk 0) ho2_ (fun cx=>(cZ (e:=115) (C:=ptX) (K:=kcI) (x:=t.n) rfl (cx.ou 9) (cx.ou 10) (CtxV.mx cx (cx.init 3 _ rfl) rfl) (h0:=by rfl) (hx:=hki) (hk:=show Program.underlying _ _= _ from by kernel_rfl)).trans (by rw[lk hnd];rfl)) ?_
 refine sqp [.m 5 11] ?_
 refine aa (wq (sqr (sqp [.m 12 5,.k 13 (po t.blk 0),.k 14 (po t.blk 3)] ?_)))
 refine aq 1 ho2_ ?_
 refine aa (wbs (fun dH=>?_) fun dH=>?_)
 refine wq ?_
 have hi16_:=St.ibf (t:=t) ho2_
 obtain⟨fp17_,hk17_⟩:=St.stf (S:=S) (by have h_:=hi16_.u2.u2;rw[<-hAB] at h_;exact h_) (hrw) (hrr)
 refine sqr (sqp [.m 16 0,.m 17 1,.m 18 5] ?_)
 refine bM (fun X_=>X_.fp) (vi ((bN S t).2)) (fun uN=>eSt sb db ((bN S t).1) uN) 0 hk17_ (by
   refine svA fun h a W X cx=>?_
   refine am.call (au (args:=#[vp sb,vi t.n,po t.blk 0]) rfl cx.sees rfl (by kernel_rfl) (dL (cx.ou 16) (cx.ou 17) (cx.ou 18))) ?_
   refine(uk sb db S A B t c _ _ (CtxV.holdF cx (cx.init 0 _ rfl) rfl) (CtxV.ltF cx (cx.init 0 _ rfl) rfl) hok hc hAB).mono ?_
   rintro e W1 ⟨rfl,fp4,aT⟩
   refine⟨_,rfl,aK (E:=eSt sb db S fp17_) [eSt sb db (bN S t).1 fp4] (cx.init 0 _ rfl) rfl rfl aT (fun d g X' hs hb hv hN=>?_)⟩
   have aJ:=(hv 19 rfl).1;have aV:=(hv 19 rfl).2
   exact⟨aJ.trans rfl,gX ((List.cons.inj hN).1)⟩) fun uN r8 d8=>?_
 refine sqp [.m 4 19] ?_
 refine aa (wp_ret (ai ?_))
 refine bpr (vi ((bN S t).2)) (ag Tryz.results72 rpt) ?_
 exact d5.of (by rw[aL,if_pos dH]) d8
 refine wp_skip (aa (wq (sqr (sqp [.k 4 (vi 0)] ?_))))
 refine aa (wp_ret ?_)
 refine bpr (vi 0) (ag Tryz.results72 rpt) ?_
 have hi24_:=St.ibf (t:=t) ho2_
 obtain⟨fp25_,hk25_⟩:=St.stf (S:=S) (by have h_:=hi24_.u2.u2;rw[<-hAB] at h_;exact h_) (hrw) (hrr)
 exact d5.of (R':=(S,0)) (by rw[aL,if_neg (by rw[dH];decide)]) hk25_
end
section
open Go.RowKit
theorem cY{P:DkM->Prop}{f:DkM->DkM}(h0:P D)(h1:P {D with off:=true})(h2:er=0->P (f {D with left:=cS D.left})):P (opD D er f).1:=by
 unfold opD
 split
 exact h0
 split
 exact h0
 rename_i he
 split
 exact h1
 exact h2 (by simpa using he)
theorem pW{f:DkM->DkM}(h:(opD D er f).2=0):D.off=false/\er=0/\(opD D er f).1=f {D with left:=cS D.left}:=by
 unfold opD at h |-
 split at h
 cases h
 rename_i ho
 rw[if_neg ho]
 split at h
 rename_i he;exact absurd h he
 rename_i he
 rw[if_neg he]
 split at h
 cases h
 rename_i ha
 rw[if_neg ha]
 exact⟨by simpa using ho,by simpa using he,rfl⟩
def bf0:BfT:=⟨0,0,⟨bw,none,0⟩,false,0⟩
theorem SOk.mono{c':Nat}(h:SOk S c)(hc:c<=c'):SOk S c':=
 ⟨h.bufs,h.pgs,fun x hx=>Nat.le_trans (h.ws x hx) hc,⟨h.time.1,by have:=h.time.2;omega⟩,Nat.le_trans h.ni hc,Nat.le_trans h.nt hc,h.right,h.nodup,h.len,h.keys,h.recs,h.log,h.lsz,h.fl,h.cl⟩
theorem SOk.tick(h:SOk S c):SOk (tick S) (c+1):=
 ⟨h.bufs,h.pgs,fun x hx=>Nat.le_succ_of_le (h.ws x hx),⟨by have:=h.time.1;show 0<=S.time+1;omega,by have:=h.time.2;show S.time+1<= _;omega⟩,Nat.le_succ_of_le h.ni,Nat.le_succ_of_le h.nt,h.right,h.nodup,h.len,h.keys,h.recs,h.log,h.lsz,h.fl,h.cl⟩
structure DOk (D D':DkM) (k:Nat):Prop where
 pgs:D'.pgs.length=D.pgs.length
 ws:∀c,(∀x∈D.pgs,x.ws.length<=c)->∀x∈D'.pgs,x.ws.length<=c+k
 log:D'.log=D.log
 fl:D.fl<=D.log.size->D'.fl<=D'.log.size
theorem DOk.refl(D:DkM):DOk D D 0:=⟨rfl,fun c h x hx=>h x hx,rfl,id⟩
theorem DOk.trans{A B C:DkM}{l:Nat}(h:DOk A B k)(g:DOk B C l):DOk A C (k+l):=⟨g.pgs.trans h.pgs,fun c hc x hx=>by have:=g.ws _ (h.ws c hc) x hx;omega,g.log.trans h.log,fun hf=>g.fl (h.fl hf)⟩
theorem DOk.mono{A B:DkM}{l:Nat}(h:DOk A B k)(hk:k<=l):DOk A B l:=⟨h.pgs,fun c hc x hx=>Nat.le_trans (h.ws c hc x hx) (by omega),h.log,h.fl⟩
theorem DOk.flush(D:DkM):DOk D (opD D 0 flD).1 0:=cY (P:=fun D'=>DOk D D' 0) ⟨rfl,fun c h x hx=>h x hx,rfl,id⟩ ⟨rfl,fun c h x hx=>h x hx,rfl,id⟩ fun _=>⟨rfl,fun c h x hx=>h x hx,rfl,fun _=>Nat.le_refl _⟩
theorem Lq(D:DkM)(n:Int)(s:ByteArray):DOk D (wrD n s D) 1:=by
 unfold wrD
 split
 refine⟨List.length_set,fun c hc x hx=>?_,rfl,id⟩
 rcases List.mem_or_eq_of_mem_set hx with h|rfl
 exact Nat.le_succ_of_le (hc x h)
 show ((D.pgs.getD n.toNat gL).ws++[_]).length<=c+1
 rw[List.length_append,List.length_singleton]
 have:(D.pgs.getD n.toNat gL).ws.length<=c:=by
  rw[List.getD_eq_getElem?_getD]
  rcases hx2:D.pgs[n.toNat]? with _|y
  exact Nat.zero_le _
  exact hc y (List.mem_of_getElem? hx2)
 omega
 exact(DOk.refl D).mono (Nat.zero_le _)
theorem DOk.write(D:DkM)(n:Int)(s:ByteArray):DOk D (opD D (wrE D n s) (wrD n s)).1 1:=
 cY (P:=fun D'=>DOk D D' 1) ((DOk.refl D).mono (Nat.zero_le _)) ⟨rfl,fun c h x hx=>Nat.le_succ_of_le (h x hx),rfl,id⟩ fun _=>(show DOk D {D with left:=cS D.left} 0 from⟨rfl,fun c h x hx=>h x hx,rfl,id⟩).trans (Lq _ n s)
theorem SOk.disk{S:StM}(h:SOk S c)(g:DOk S.D D k)(hcl:∀t∈S.pool,t.dirty=false->t.pg.p=shP D t.n):SOk {S with D:=D} (c+k):=
 ⟨h.bufs,by show D.pgs.length<=400;rw[g.pgs];exact h.pgs,g.ws c h.ws,⟨h.time.1,by have:=h.time.2;show S.time<= _;omega⟩,Nat.le_trans h.ni (by omega),Nat.le_trans h.nt (by omega),h.right,h.nodup,h.len,fun t ht=>by have:=h.keys t ht;show 0<=t.n/\t.n<(D.pgs.length:Int);rw[g.pgs];exact this,h.recs,by show D.log= _;rw[g.log];exact h.log,by show D.log.size<= _;rw[g.log];exact h.lsz,g.fl h.fl,hcl⟩
theorem uq{f:BfT->BfT}(hf:∀t,(f t).n=t.n):(da l n f).map BfT.n=l.map BfT.n:=by
 rw[da,List.map_map]
 refine List.map_congr_left fun t _=>?_
 show (if t.n=n then f t else t).n=t.n
 split
 exact hf t
 rfl
theorem mD{l:List BfT}{f:BfT->BfT}(hu:u∈da l n f):∃t∈l,u=f t\/u=t:=by
 obtain⟨t,ht,rfl⟩:=List.mem_map.1 hu
 refine⟨t,ht,?_⟩
 split
 exact .inl rfl
 exact .inr rfl
theorem SOk.setp{S:StM}{f:BfT->BfT}(h:SOk S c)(hn:∀t,(f t).n=t.n)(hr:∀t∈S.pool,bJ (f t).pg.p)(hcl:∀t∈S.pool,t.n=n->(f t).dirty=false->(f t).pg.p=shP S.D t.n):SOk {S with pool:=da S.pool n f} c:=
 ⟨h.bufs,h.pgs,h.ws,h.time,h.ni,h.nt,fun u hu=>by obtain⟨t,ht,rfl|rfl⟩:=mD hu;exact hr t ht;exact h.right _ ht,by show ((da S.pool n f).map BfT.n).Nodup;rw[uq hn];exact h.nodup,by show ((da S.pool n f).length:Int)<=S.bufs;rw[da,List.length_map];exact h.len,
  fun u hu=>by obtain⟨t,ht,rfl|rfl⟩:=mD hu;rw[hn];exact h.keys _ ht;exact h.keys _ ht,h.recs,h.log,h.lsz,h.fl,fun u hu hd=>by
   obtain⟨t,ht,rfl⟩:=List.mem_map.1 hu
   by_cases e:t.n=n
   rw[if_pos e] at hd |-
   rw[hn];exact hcl t ht e hd
   rw[if_neg e] at hd |-
   exact h.cl t ht hd⟩
theorem hH{D':DkM}(h:D'.pgs=D.pgs)(n:Int):shP D' n=shP D n:=by rw[shP,shP,h]
theorem yQ(D:DkM)(n:Int)(s:ByteArray):((opD D (wrE D n s) (wrD n s)).2≠0/\(opD D (wrE D n s) (wrD n s)).1.pgs=D.pgs)\/((opD D (wrE D n s) (wrD n s)).2=0/\D.off=false/\(0<=n/\n<(D.pgs.length:Int))/\∃h:s.size=512,(opD D (wrE D n s) (wrD n s)).1=jE n.toNat ⟨s,h⟩ {D with left:=cS D.left}):=by
 by_cases h0:(opD D (wrE D n s) (wrD n s)).2=0
 obtain⟨h1,h2,h3⟩:=pW h0
 obtain⟨h4,h5⟩:=x9 h2
 exact .inr ⟨h0,h1,h4,h5,by rw[h3,wrD,dif_pos h5]⟩
 refine .inl ⟨h0,?_⟩
 unfold opD at h0 |-
 split
 rfl
 rename_i ho
 rw[if_neg ho] at h0
 split
 rfl
 rename_i he
 rw[if_neg he] at h0
 split
 rfl
 rename_i ha
 rw[if_neg ha] at h0
 exact absurd rfl h0
theorem xY{h:H5}(hn:0<=n/\n<(D.pgs.length:Int)){m:Int}(hm:0<=m):shP (jE n.toNat h D) m=if m=n then rdP h.1 else shP D m:=by
 rw[shP,jE]
 dsimp only
 split
 rename_i e
 subst e
 rw[List.getD_eq_getElem?_getD,List.getElem?_set_self (by omega)]
 show rdP (rdT ⟨_,_++[h]⟩).1= _
 rw[rdT];simp
 rename_i e
 rw[List.getD_eq_getElem?_getD,List.getElem?_set_ne (by omega),<-List.getD_eq_getElem?_getD];rfl
theorem ra(S:StM)(t:BfT):DOk S.D (wrD0 S t).1 0/\(wrD0 S t).1.pgs=S.D.pgs:=by
 unfold wrD0
 split
 exact⟨DOk.flush _,sP _⟩
 exact⟨DOk.refl _,rfl⟩
theorem y4(ht:bJ t.pg.p){m:Int}(hm:0<=m):shP (bN S t).1.D m=shP S.D m\/(m=t.n/\shP (bN S t).1.D m=t.pg.p):=by
 have h0:=ra S t
 unfold bN
 split
 exact .inl (hH h0.2 m)
 dsimp only
 rcases yQ (wrD0 S t).1 t.n (aH t.pg.p) with ⟨_,h2⟩|⟨_,h1,h2,h3,h4⟩
 exact .inl ((hH h2 m).trans (hH h0.2 m))
 rw[h4,xY (D:={(wrD0 S t).1 with left:=cS (wrD0 S t).1.left}) h2 hm]
 split
 rename_i e
 exact .inr ⟨e,yj ht⟩
 exact .inl (hH (D:=S.D) h0.2 m)
theorem rW(ht:bJ t.pg.p)(h0:(bN S t).2=0):shP (bN S t).1.D t.n=t.pg.p/\(bN S t).1.pool=da S.pool t.n clB:=by
 have h1:=ra S t
 unfold bN at h0 |-
 split at h0
 rename_i h2;exact absurd h0 h2
 rename_i h2
 rw[if_neg h2]
 dsimp only at h0 |-
 rcases yQ (wrD0 S t).1 t.n (aH t.pg.p) with ⟨h3,_⟩|⟨_,_,h4,h5,h6⟩
 exact absurd h0 h3
 rw[if_pos h0,h6,xY (D:={(wrD0 S t).1 with left:=cS (wrD0 S t).1.left}) h4 h4.1,if_pos rfl]
 exact⟨yj ht,rfl⟩
theorem SOk.write(h:SOk S c)(t:BfT)(ht:t∈S.pool):SOk (bN S t).1 (c+1):=by
 have hr:=h.right t ht
 have h0:=ra S t
 have huniq:∀u∈S.pool,u.n=t.n->u=t:=fun u hu e=>by
  obtain⟨A,B,hp⟩:=List.append_of_mem ht
  have hd:=h.nodup
  rw[hp,List.map_append,List.map_cons] at hd
  have h1:=List.nodup_append.1 hd
  rw[hp] at hu
  rcases List.mem_append.1 hu with h2|h2
  exact absurd e (h1.2.2 u.n (List.mem_map.2 ⟨u,h2,rfl⟩) t.n (by simp))
  rcases List.mem_cons.1 h2 with h2|h2
  exact h2
  exact absurd (List.mem_map.2 ⟨u,h2,e⟩) (List.nodup_cons.1 h1.2.1).1
 have hcl:∀u∈S.pool,u.dirty=false->u.pg.p=shP (bN S t).1.D u.n:=fun u hu hd=>by
  rcases y4 hr (S:=S) (h.keys u hu).1 with h1|⟨h1,h2⟩
  rw[h1];exact h.cl u hu hd
  rw[h2,huniq u hu h1]
 have hw:=rW (S:=S) hr
 unfold bN at hcl hw |-
 split
 rename_i h1
 rw[if_pos h1] at hcl
 exact(h.disk h0.1 hcl).mono (by omega)
 rename_i h1
 rw[if_neg h1] at hcl hw
 dsimp only at hcl hw |-
 have h2:=h.disk (h0.1.trans (DOk.write (wrD0 S t).1 t.n (aH t.pg.p))) hcl
 split
 rename_i h3
 refine(h2.setp (f:=clB) (fun _=>rfl) (fun u hu=>h.right u hu) fun u hu e _=>?_).mono (by omega)
 rw[huniq u hu e]
 exact(hw h3).1.symm
 exact h2.mono (by omega)
theorem SOk.clean(h:SOk S c)(t:BfT)(ht:t∈S.pool):SOk (aL S t).1 (c+1):=by
 unfold aL
 split
 exact h.write t ht
 exact h.mono (by omega)
theorem mq(hu:u∈rmB l n):u∈l/\u.n≠n:=by
 rw[rmB,List.mem_filter] at hu
 exact⟨hu.1,by simpa using hu.2⟩
theorem vr(l:List BfT)(n:Int):(rmB l n).Sublist l:=List.filter_sublist
theorem SOk.rm(h:SOk S c)(n:Int):SOk {S with pool:=rmB S.pool n} c:=
 ⟨h.bufs,h.pgs,h.ws,h.time,h.ni,h.nt,fun u hu=>h.right u (mq hu).1,h.nodup.sublist ((vr S.pool n).map _),by have:=h.len;have:=(vr S.pool n).length_le;show ((rmB S.pool n).length:Int)<=S.bufs;omega,fun u hu=>h.keys u (mq hu).1,h.recs,h.log,h.lsz,h.fl,fun u hu=>h.cl u (mq hu).1⟩
theorem tx(hp:S.pool=A++t::B)(hd:((A++t::B).map BfT.n).Nodup):∃u:BfT,(aL S t).1.pool=A++u::B/\u.n=t.n/\u.blk=t.blk/\u.pg=t.pg:=by
 unfold aL
 split
 unfold bN
 split
 exact⟨t,hp,rfl,rfl,rfl⟩
 dsimp only
 split
 exact⟨clB t,by show da S.pool t.n clB= _;rw[hp,ks hd],rfl,rfl,rfl⟩
 exact⟨t,hp,rfl,rfl,rfl⟩
 exact⟨t,hp,rfl,rfl,rfl⟩
theorem oH(S:StM)(t:BfT):(aL S t).1.rows=S.rows/\(aL S t).1.bufs=S.bufs/\(aL S t).1.time=S.time/\(aL S t).1.recs=S.recs/\(aL S t).1.frm=S.frm:=by
 unfold aL
 split
 unfold bN
 split
 exact⟨rfl,rfl,rfl,rfl,rfl⟩
 exact⟨rfl,rfl,rfl,rfl,rfl⟩
 exact⟨rfl,rfl,rfl,rfl,rfl⟩
theorem vZ(h:S.bufs<=(S.pool.length:Int))(h0:(aL S t).2=0):bv S t=({(aL S t).1 with pool:=rmB (aL S t).1.pool t.n},0):=by
 rw[bv,if_pos h,if_neg (by rw[h0];decide)]
theorem wy(h:S.bufs<=(S.pool.length:Int))(h0:(aL S t).2≠0):bv S t=aL S t:=by
 rw[bv,if_pos h,if_pos h0]
theorem yw(h:¬S.bufs<=(S.pool.length:Int)):bv S t=(S,0):=by rw[bv,if_neg h]
theorem SOk.evict(h:SOk S c)(t:BfT)(ht:S.bufs<=(S.pool.length:Int)->t∈S.pool):SOk (bv S t).1 (c+1):=by
 unfold bv
 split
 rename_i hb
 split
 exact h.clean t (ht hb)
 exact(h.clean t (ht hb)).rm t.n
 exact h.mono (by omega)
theorem pd{S:StM}{t:BfT}(hn:∀u∈S.pool,u.n≠n):∀u∈(bv S t).1.pool,u.n≠n:=by
 have hc:∀u∈(aL S t).1.pool,u.n≠n:=by
  unfold aL
  split
  unfold bN
  split
  exact hn
  dsimp only
  split
  intro u hu
  obtain⟨v,hv,rfl|rfl⟩:=mD hu
  exact hn v hv
  exact hn _ hv
  exact hn
  exact hn
 unfold bv
 split
 split
 exact hc
 exact fun u hu=>hc u (mq hu).1
 exact hn
theorem wj(h:SOk S c)(ht:S.bufs<=(S.pool.length:Int)->t∈S.pool)(h0:(bv S t).2=0):((bv S t).1.pool.length:Int)<S.bufs/\(bv S t).1.bufs=S.bufs:=by
 by_cases hb:S.bufs<=(S.pool.length:Int)
 by_cases he:(aL S t).2=0
 rw[vZ hb he]
 obtain⟨A,B,hp⟩:=List.append_of_mem (ht hb)
 have hd:((A++t::B).map BfT.n).Nodup:=by rw[<-hp];exact h.nodup
 obtain⟨u,h1,h2,h3,h4⟩:=tx hp hd
 refine⟨?_,(oH S t).2.1⟩
 show ((rmB (aL S t).1.pool t.n).length:Int)<S.bufs
 rw[h1,<-h2,AP (by rw[List.map_append,List.map_cons,h2];rw[List.map_append,List.map_cons] at hd;exact hd)]
 have:=h.len
 rw[hp] at this
 simp only[List.length_append,List.length_cons] at this |-
 omega
 rw[wy hb he] at h0
 exact absurd h0 he
 rw[yw hb]
 exact⟨by show (S.pool.length:Int)<S.bufs;omega,rfl⟩
end
section
open Go.RowKit
section
variable{P:Program}{ops:Array Oper}{L:List Nat}{a0:Act}{w0:World}{bor:List Nat}{X0:List Ent}{us cr kl:List (List Nat)}
 {D:Nat->(Tmp->Value)->(Tmp->Value)->(Nat->Ent)->Prop}{i:Nat}{o:Oper}{ρ:Operand->Value}{β:Tmp->Value}{W:World}{X:Nat->Ent}
theorem Kx{r n cnt:Nat}{m:Int->Option (Option Nat)}{x:Operand}{v:Value}{e:Ent}(h:o.op= .extract x 0)(hx:ρ x=v)(hN:Ce P k b r n m left cnt v e):(execOp ρ o).run P W= .ok (.value (.bool (nxB v))) W:=by
 rcases hN with ⟨rfl,_⟩|⟨x0,c,rfl,_⟩
 unfold execOp;rw[h];simp[go_sem,hx,nxB]
 unfold execOp;rw[h];simp[go_sem,hx,nxB]
theorem KX{r n cnt d d1:Nat}{m:Int->Option (Option Nat)}{e:Ent}(h:o.op= .extract (.tmp d1) 0)(hN:Ce P k b r n m left cnt (ρ (.tmp d1)) e)(hd:o.dst=some d)(hc:atV cr i=[])(hkl:atV kl i=[])
  (hD:∀(a g:Tmp->Value) (X':Nat->Ent),(a d= .bool (nxB (ρ (.tmp d1))))->(∀t,t≠d->a t=ρ (.tmp t))->D i a g X'):am P o ρ W (bX cr kl D i o.dst ρ β W X):=by
 refine am.value (Kx h rfl hN) ⟨[],by rw[hc];rfl,⟨by rw[hkl];exact Upd.refl _ _,(fun e' he'=>by cases he'),List.Pairwise.nil⟩,fun a g X' hs hv hb' hbv hx' hN'=>hD a g X' (hv d hd) (fun t ht=>hs t (by rw[hd];simpa using ht.symm))⟩
end
def nzI(z:Int):Int:=if z=0 then 1 else z
theorem J6{z:Int}(h:z≠0):nzI z=z:=if_neg h
def tE:Value->Int
 | .tuple a=>(match (a.getD 1 undef) with| .int _ z=>z|_=>0)
 |_=>0
def tF:Value->Value
 | .tuple a=>a.getD 0 undef
 |_=>undef
theorem AR(h:(eA (l.map fv)).holds W)(ht:t∈l):Blk W t.blk 120 #[.int .i64 t.pg.p.1,.int .i64 t.pg.p.2.1,.slice t.pg.A t.pg.p.2.2.length t.pg.c,.bool t.dirty,.int .i64 t.used]:=(h.1 (fv t) (List.mem_map.2 ⟨_,ht,rfl⟩)).1
theorem KE(hd:(l.map BfT.n).Nodup)(hu:u∈l):atM l u.n=some (some u.blk):=by
 obtain⟨A,B,rfl⟩:=List.append_of_mem hu
 exact lk hd
theorem vy{l:List BfT}(h:∀u∈l,u.n≠t.n):cj (atM l) t.n (some (some t.blk))=atM (l++[t]):=by
 funext x
 unfold cj
 rw[atM,atM,List.find?_append]
 by_cases e:x=t.n
 subst e
 rw[if_pos rfl,List.find?_eq_none.2 (fun u hu=>by simpa using h u hu)]
 simp
 rw[if_neg e]
 have:(t.n==x)=false:=by simpa using fun h2=>e h2.symm
 cases l.find? (fun t=>t.n==x) with
 |some v=>rfl
 |none=>simp[this]
theorem Jv(hd:((A++t::B).map BfT.n).Nodup):cj (atM (A++t::B)) t.n none=atM (A++B):=by
 funext x
 unfold cj
 by_cases e:x=t.n
 subst e
 rw[if_pos rfl]
 symm
 refine ku fun u hu he=>?_
 rw[List.map_append,List.map_cons] at hd
 have h1:=List.nodup_append.1 hd
 rcases List.mem_append.1 hu with h|h
 exact h1.2.2 u.n (List.mem_map.2 ⟨u,h,rfl⟩) t.n (by simp) he
 exact(List.nodup_cons.1 h1.2.1).1 (List.mem_map.2 ⟨u,h,he⟩)
 rw[if_neg e,atM,atM,List.find?_append,List.find?_append,List.find?_cons]
 have:(t.n==x)=false:=by simpa using fun h2=>e h2.symm
 rw[this]
def LdQ(S:StM)(n:Int)(S2:StM)(er:Int)(v:Value):Prop:=LdR S n S2 er/\(er=0->∃t∈S2.pool,t.n=n/\v= .pointer (some ⟨t.blk,0,none⟩))
def jR(sb db:Nat)(S:StM)(n:Int)(fp:List Nat)(w:World)(e:Ending)(w':World):Prop:=∃er v,e= .returned (.tuple #[v,.int .i64 er])/\∃fp',St w fp [eSx sb db (fun S2=>LdQ S n S2 er v) fp'] w'
theorem jR.of{v:Value}(h:LdQ S n S2 er v)(hs:St w fp ([]++[eSt sb db S2 fp']) w'):jR sb db S n fp w (.returned (.tuple #[v,.int .i64 er])) w':=⟨er,v,rfl,fp',St.sx (L:=[]) hs h⟩
theorem sO(h:rdX s=some p):rdP s=p:=by rw[rdP,h];rfl
theorem su(h:rdX s=none):rdP s=bw:=by rw[rdP,h];rfl
theorem Ji(h:rdX s=some p)(hc:Calls Tryz.prog f args w (li s w)):Calls Tryz.prog f args w (d4 p.1 p.2.1 p.2.2 0 w):=by
 rw[li,h] at hc;exact hc
theorem Jn(h:rdX s=none)(hc:Calls Tryz.prog f args w (li s w)):Calls Tryz.prog f args w (jg w):=by
 rw[li,h] at hc;exact hc
theorem F3(h:(rdS D n).2=0):(rdS D n).1.size=512:=by
 unfold rdS at h |-
 split at h
 cases h
 rename_i ho
 rw[if_neg ho]
 split at h
 rename_i hn
 rw[if_pos hn];exact(rdT _).2
 cases h
theorem se(s:ByteArray):bJ (rdP s):=by
 rcases h:rdX s with _|p
 rw[su h];exact x3
 rw[sO h];exact(o4 h).1
theorem KA{l:List BfT}(h:1<=(l.length:Int))(hl:∀x,left x=(atM l x).isSome)(hk:∀t∈l,kcI.ok t.n)(h0:∀x:Int,(Lit.int .i64 x).wf=true->left x=false):False:=by
 cases l with
 |nil=>simp at h
 |cons t l=>
  have h1:=h0 t.n (O9 (hk t (by simp)))
  rw[hl,atM,List.find?_cons,show (t.n==t.n)=true by simp] at h1
  cases h1
end
section
open Go.RowKit
theorem oe{l:List BfT}{rows:List PgR}(h:∀t∈l,t.pg∈rows){l2:List BfT}{rows2:List PgR}(hl:∀u∈l2,(∃t∈l,u.pg=t.pg)\/u.pg∈rows2)(hr:∀r∈rows,r∈rows2):∀u∈l2,u.pg∈rows2:=fun u hu=>by
 rcases hl u hu with ⟨t,ht,e⟩|e
 rw[e];exact hr _ (h t ht)
 exact e
theorem J8{A B:List BfT}{t u:BfT}(he:u.pg=t.pg){rows:List PgR}:∀v∈A++u::B,(∃t'∈A++t::B,v.pg=t'.pg)\/v.pg∈rows:=fun v hv=>by
 rcases List.mem_append.1 hv with h|h
 exact .inl ⟨v,by simp[h],rfl⟩
 rcases List.mem_cons.1 h with rfl|h
 exact .inl ⟨t,by simp,he⟩
 exact .inl ⟨v,by simp[h],rfl⟩
theorem Hi{S0 S1:StM}(hb:S0.bufs<=(S0.pool.length:Int))(hc:aL S0 u=(S1,er))(h0:er=0)(hp:rmB S1.pool u.n=S2.pool)(hS:S2={S1 with pool:=S2.pool}):bv S0 u=(S2,0):=by
 rw[vZ hb (by rw[hc];exact h0),hc]
 dsimp only
 rw[hp,<-hS]
theorem sm{S:StM}(h:∀t∈S.pool,t.n≠n)(he:(rdS S.D n).2=0)(hu:S.bufs<=(S.pool.length:Int)->u∈S.pool)(hev:bv (tick S) u=(S2,0))(blk:Nat)(A:Option Addr)(c:Nat){k:Int}(hk:k=S.time+1):
  LdQ S n {S2 with pool:=S2.pool++[⟨n,blk,⟨rdP (rdS S.D n).1,A,c⟩,false,k⟩],rows:=S2.rows++[⟨rdP (rdS S.D n).1,A,c⟩]} 0 (po blk 0):=by
 subst hk
 have h1:=LdR.new (S:=S) (n:=n) u blk A c h he hu
 have e:jU (tick S) n u blk A c=({S2 with pool:=S2.pool++[⟨n,blk,⟨rdP (rdS S.D n).1,A,c⟩,false,S.time+1⟩],rows:=S2.rows++[⟨rdP (rdS S.D n).1,A,c⟩]},0):=by
  rw[jU,hev,if_neg (by simp)];rfl
 rw[e] at h1
 exact⟨h1,fun _=>⟨_,List.mem_append_right _ (List.mem_singleton.2 rfl),rfl,rfl⟩⟩
theorem Fd{S:StM}(h:∀t∈S.pool,t.n≠n)(he:(rdS S.D n).2=0)(hb:S.bufs<=(S.pool.length:Int))(hu:u∈S.pool)(hc:(aL (tick S) u).2≠0):LdQ S n (aL (tick S) u).1 (aL (tick S) u).2 (.pointer none):=by
 have h1:=LdR.new (S:=S) (n:=n) u 0 none 0 h he (fun _=>hu)
 have e:jU (tick S) n u 0 none 0=aL (tick S) u:=by
  have e1:bv (tick S) u=aL (tick S) u:=wy hb hc
  rw[jU,e1,if_pos hc]
 rw[e] at h1
 exact⟨h1,fun h0=>absurd h0 hc⟩
theorem mC{a b:Int}(h:(a != b)=false):a=b:=by simpa using h
theorem p6{a b:Int}(h:(a != b)=true):a≠b:=by simpa using h
theorem lZ{l:List BfT}(h:(l.map BfT.n).Nodup)(hn:∀u∈l,u.n≠t.n):((l++[t]).map BfT.n).Nodup:=by
 rw[List.map_append,List.map_cons,List.map_nil]
 refine List.nodup_append.2 ⟨h,by simp,fun a ha b hb=>?_⟩
 obtain⟨u,hu,rfl⟩:=List.mem_map.1 ha
 rw[List.mem_singleton.1 hb]
 exact hn u hu
theorem Jr(h:((A++t::B).map BfT.n).Nodup):mzD (atM (A++t::B)) t.n (A++t::B).length=(A++B).length:=by
 rw[mzD,lk h];simp
theorem oI:(bv S t).1.time=S.time:=by
 unfold bv
 split
 split
 exact(oH S t).2.2.1
 exact(oH S t).2.2.1
 rfl
theorem nu(sb db:Nat)(S:StM)(n:Int)(c:Nat)(fp:List Nat)(w:World)(hB:(eSt sb db S fp).holds w)(hlt:∀k∈fp,k<w.heap.size)(hok:SOk S c)(hc:c<=800000000)(hkn:kcI.ok n):
  Calls Tryz.prog 64 #[po sb 0,.int .i64 n] w (jR sb db S n fp w):=by
 have st1:St w fp [eSt sb db S fp] w:=St.lend hB (dv _ _ _ _) hlt
 go_enter Tryz.func64,Tryz.ntmps64
 have aj:=st1
 obtain⟨⟨hrw,hrr⟩,mb,RA,rc,EA,ec,ib,tb,fpd,hv1_⟩:=aj.unf
 have hw:∀x∈S.D.pgs,x.ws.length<=1000000000:=fun x hx=>Nat.le_trans (hok.ws x hx) (by omega)
 have hkk:∀t∈S.pool,kcI.ok t.n:=fun t ht=>by have:=hok.keys t ht;have:=hok.pgs;constructor<;>omega
 have htt:=hok.time
 have hbb:=hok.bufs
 have hll:=hok.len
 refine wq (sqr (sqp [.k 4 (.pointer none),.k 5 (vi 0)] ?_))
 refine aa (wq (sqr (sqp [.m 15 0,.k 16 (vp sb),.k 17 (po sb 3)] ?_)))
 refine aq 0 hv1_ ?_
 refine sqp [sI 19 (S.time+1) (by omega),.k 20 (vp sb),.k 21 (po sb 3)] ?_
 refine aX (n:=1) 0 #[vp db,vi S.bufs,.map (some mb),vi (S.time+1),.slice RA S.recs.length rc,.slice EA S.recs.length ec,.map (some ib),.map (some tb),vi S.frm] hv1_ fun Ff f8=>?_
 refine aa (wq (wq ?_))
 have htk:=hok.tick
 rcases Bc S.pool n with hno|⟨A,t,B,hAB,rfl⟩
 refine sqr (sqp [.m 22 0,.k 23 (vp sb),.k 24 (po sb 2)] ?_)
 refine aq 0 f8 ?_
 refine sqp [.m 26 1] ?_
 refine sql (.pointer none) f8 (fun cx=>(cZ (e:=115) (C:=ptX) (K:=kcI) (x:=n) rfl (cx.ou 25) (cx.ou 26) (CtxV.mx cx (cx.init 1 _ rfl) rfl) (h0:=by rfl) (hx:=hkn) (hk:=show Program.underlying _ _= _ from by kernel_rfl)).trans (by rw[ku hno];rfl)) ?_
 refine sqp [.m 6 27] ?_
 refine aa (wq (sqr (sqp [.m 28 6] ?_)))
 refine sqv (.bool false) f8 (by
   exact sv0 rfl rfl rfl rfl rfl (fun _ _ _ h=>h) fun q d W X cx=>by
    have Ih:q (.tmp 28)= .pointer none:=(cx.ou 28)
    simp[go_sem,cx.sees.const,Ih]) fun IZ iI=>?_
 refine aa (wcf rfl (wp_skip (aa (wq (sqr (sqp [.m 39 0,.k 40 (vp sb),.k 41 (vp sb)] ?_))))))
 refine aq 0 iI ?_
 refine sqp [.m 43 1] ?_
 refine sqk (.tuple #[.string ((rdS S.D n).1),vi ((rdS S.D n).2)]) iI (fun cx=>⟨_,EY db S.D n _ (fc (CtxV.holdF cx (cx.init 9 _ rfl) rfl)) hw,(aM (cx.ou 42) (cx.ou 43))⟩) fun w3 fF=>?_
 refine sqp [.m 38 44,.k 45 (.string ((rdS S.D n).1)),.k 46 (vi ((rdS S.D n).2)),.m 7 45,.m 8 46] ?_
 refine aa (wq (wq (sqr (sqp [.m 47 8,.k 48 (.bool (((rdS S.D n).2) != 0))] ?_))))
 refine aa (wbs (fun kB=>?_) fun kB=>?_)
 have pr:=bne_iff_ne.1 kB
 refine wq (sqr (sqp [.m 49 8,.k 4 (.pointer none),.m 5 49] ?_))
 refine aa (wp_ret (ai ?_))
 refine bpr (.tuple #[.pointer none,vi ((rdS S.D n).2)]) (aO Tryz.results64 rpt rpt) ?_
 obtain⟨fp38_,hk38_⟩:=St.stf (S:=(tick S)) (fF) (hrw) (hrr)
 exact jR.of ⟨LdR.bad hno (p6 kB),fun h_=>absurd h_ (p6 kB)⟩ hk38_
 have pr:=bne_eq_false_iff_eq.1 kB
 refine wp_skip (aa ?_)
 refine ma (fun t_ az W=>∃S2:StM,∃u:BfT,∃fp2:List Nat,bv (tick S) u=(S2,0)/\(S.bufs<=(S.pool.length:Int)->u∈S.pool)/\az=⟨(ovr (jv az) [(4,4,2,[]),(3,9,4,[]),(37,50,50,[])] t_).toArray,[]⟩/\St w fp [eSt sb db S2 fp2] W) ?_ ?_
 refine wq (bP [0,1,3,7,15,0,32,96,224,511] [[],[],[],[0],[1],[],[],[],[0]] [.k 50 (vp sb),.k 51 (vp sb),.k 52 (po sb 2),.c 53 (.map (some mb)),.c 54 (vi ((S.pool.length:Int))),.k 55 (vp sb),.k 56 (vp sb),.k 57 (po sb 1),.c 58 (vi S.bufs),.k 59 (.bool (decide (S.bufs<=(S.pool.length:Int))))] [0,1,2,3,4,5,6,7,8,9] [3,4,8] [(50,0,10,60)] fF ?_ fun uz dR=>?_)
 refine⟨?_,?_,?_,trivial⟩
 exact xs4 rfl id fun cx=>ae rfl (by kernel_rfl) (cx.an 2) ((cx.bi 0 rfl).cell 2)
 exact xs4 rfl id fun cx=>Eh (e:=115) (m:=(atM S.pool)) (K:=kcI) (C:=ptX) rfl rfl rfl rfl (cx.an 3) (CtxV.mx cx (cx.init 1 _ rfl) rfl)
 exact xs4 rfl id fun cx=>ae rfl (by kernel_rfl) (cx.an 7) ((cx.bi 0 rfl).cell 1)
 refine aa (wds (fun lP CI=>?_) fun lP CI=>?_)
 refine wq (sqr (sqp [.k 9 (vi (-1))] ?_))
 refine aa (wq (wq (sqr (sqp [.m 60 0,.k 61 (vp sb),.k 62 (po sb 2)] ?_))))
 refine aq 0 dR ?_
 refine Pa (fun x_=>pb x_) (fun oy=>vp oy) (fun oy=>eRx Tryz.prog 3 mb oy S.pool.length (atM S.pool) (fun x=>((atM S.pool) x).isSome) S.pool.length none) 1 dR (by
   refine svA fun q d W X cx=>?_
   exact Ee (e:=115) rfl (cx.ou 63) cx (cx.init 1 _ rfl) rfl rfl rfl rfl (fun _ _ _ _ _=> .intro)) fun oy L3 gw=>?_
 refine aa (wp_block ?_)
 refine aN (fun t_ mz az W=>∃o:Int,∃left:Int->Bool,∃cnt:Nat,∃cur:Option (Int×Option Nat),((o= -1/\∀x,left x=(atM S.pool x).isSome)\/∃u∈S.pool,u.n=o)/\mz=2*cnt/\az=⟨(ovr (jv az) [(9,9,0,[vi o]),(0,10,2,[]),(53,65,24,[])] t_).toArray,[]⟩/\St w fp [eB sb 109 #[vp db,vi S.bufs,.map (some mb),vi (S.time+1),.slice RA S.recs.length rc,.slice EA S.recs.length ec,.map (some ib),.map (some tb),vi S.frm],eRx Tryz.prog 3 mb oy S.pool.length (atM S.pool) (left) cnt cur,eA (List.map fv S.pool),eM (List.map dK S.rows),eO 27 8 (.slice RA S.recs.length rc) S.recs.length (S.recs.flatMap rcC),eO 3 1 (.slice EA S.recs.length ec) S.recs.length ((cM S.L S.recs.length).map (Value.int .i64)),eRc S.rr,eMx kcI ecB Tryz.prog 3 ib S.ni (S.im),eMx kcI ecB Tryz.prog 3 tb S.nt (S.told),eDk db S.D fpd] W) (2*S.pool.length) ?_ ?_
 exact⟨(-1),(fun x=>((atM S.pool) x).isSome),S.pool.length,none,.inl ⟨rfl,fun x=>rfl⟩,rfl,(by kernel_rfl),gw.pk [0,1,2,3,4,5,6,7,8,9]⟩
 rintro TX a48 O1 ⟨o,left,cnt,cur,ho,rfl,hj_,uO⟩
 refine ovz hj_ fun R8=>?_
 refine wq (aG [0,1] [[1],[]] [[10]] [[1]] [.a 65,.a 66] (fun ix g d X=>match ix with|0=>Ce Tryz.prog 3 mb oy S.pool.length (atM S.pool) (left) cnt (g 65) (X 10)|1=>g 66= .bool (nxB (g 65))|_=>True) [0,2,3,4,5,6,7,8,9,10] [0,1] [(65,0,2,67)] uO ?_ ?_ ?_)
 exact fun ix _ _ _ _ _ _ hs hb hx h=>match ix,h with
 |0,h=>by(try dsimp only at h |-);rw[<-hs 65 rfl,<-hx 10 rfl];exact h
 |1,h=>by(try dsimp only at h |-);rw[<-hs 66 rfl,<-hs 65 rfl];exact h
 |_+2,_=>trivial
 refine⟨?_,?_,trivial⟩
 refine svA fun q d W X cx=>?_
 exact Hl rfl (cx.ou 64) cx (cx.init 1 _ rfl) rfl rfl rfl rfl (fun g F X' hs hb hN=>hN)
 refine svA fun q d W X cx=>?_
 exact KX (d1:=65) rfl (dTn (cx.an 0)) rfl rfl rfl (fun g F X' hv hs=>by(try dsimp only);rw[hs 65 (by decide)];exact hv)
 intro g d X L5 hD et fr aD
 have hq0_:=dTn (hD 0 lq)
 have hq1_:=dTn (hD 1 lq)
 try dsimp only at hq0_ hq1_
 rcases hq0_ with ⟨ha_,hl49,hb_⟩|⟨kx49,kc49,ha_,hx49,hl49,hm49,hc49,hb_⟩
 rw[ha_] at hq1_
 simp only[exq 10 hb_] at et
 simp only[ed 65 ha_,ed 66 hq1_,NX] at aD
 clear hD ha_ hq1_ hb_;subst aD;clear g d X
 refine aa (wq (wcf rfl (wp_exit (al (al (bf (aa (wq (wq ?_)))))))))
 rcases ho with ⟨rfl,hl0⟩|⟨u,hu,rfl⟩
 exact(KA (by have h1_:=hok.bufs;have h2_:=of_decide_eq_true lP;omega) hl0 hkk hl49).elim
 have hr51_:=et.u9.erf
 obtain⟨fp52_,hk52_⟩:=St.stf (S:=(tick S)) (hr51_.u1) (hrw) (hrr)
 obtain⟨A,B,hAB⟩:=List.append_of_mem hu
 have hAB2:(tick S).pool=A++u::B:=hAB
 have hnd:((A++u::B).map BfT.n).Nodup:=by rw[<-hAB];exact hok.nodup
 refine sqr (sqp [.m 89 0,.m 90 9] ?_)
 refine bM (fun X_=>X_.fp) (vi ((aL (tick S) u).2)) (fun I0=>eSt sb db ((aL (tick S) u).1) I0) 0 hk52_ (by
   refine svA fun q d W X cx=>?_
   refine am.call (au (args:=#[vp sb,vi u.n]) rfl cx.sees rfl (by kernel_rfl) (aM (cx.ou 89) (cx.ou 90))) ?_
   refine(tL sb db (tick S) A B u (c+1) _ _ (CtxV.holdF cx (cx.init 0 _ rfl) rfl) (CtxV.ltF cx (cx.init 0 _ rfl) rfl) htk (by omega) hAB2).mono ?_
   rintro e W1 ⟨rfl,fp4,aT⟩
   refine⟨_,rfl,aK (E:=eSt sb db (tick S) fp52_) [eSt sb db (aL (tick S) u).1 fp4] (cx.init 0 _ rfl) rfl rfl aT (fun g F X' hs hb hv hN=>?_)⟩
   have aJ:=(hv 91 rfl).1;have aV:=(hv 91 rfl).2
   exact⟨aJ.trans rfl,gX ((List.cons.inj hN).1)⟩) fun I0 QH rD=>?_
 refine sqp [.m 12 91] ?_
 refine aa (wq (sqr (sqp [.m 92 12,.k 93 (.bool (((aL (tick S) u).2) != 0))] ?_)))
 refine aa (wbs (fun pB=>?_) fun pB=>?_)
 have CJ:=bne_iff_ne.1 pB
 refine wq (sqr (sqp [.m 94 12,.k 4 (.pointer none),.m 5 94] ?_))
 refine aa (wp_ret (ai (ai ?_)))
 refine bpr (.tuple #[.pointer none,vi ((aL (tick S) u).2)]) (aO Tryz.results64 rpt rpt) ?_
 exact jR.of (Fd hno (mC kB) (of_decide_eq_true lP) hu (p6 pB)) rD
 have CJ:=bne_eq_false_iff_eq.1 pB
 refine wp_skip (aa ?_)
 have hc0_:=mC pB
 obtain⟨u2,hu2,hn2,hb2,oq⟩:=tx hAB2 hnd
 obtain⟨S1,hS1⟩:∃z,(aL (tick S) u).1=z:=⟨_,rfl⟩
 rw[hS1] at rD hu2
 obtain⟨⟨hrw1,hrr1⟩,mb1,RA1,rc1,EA1,ec1,ib1,tb1,fpd1,hv64_⟩:=rD.unf
 rw[hu2] at hv64_
 have ho65_:=St.obf (t:=u2) hv64_.u2
 have hnd2:((A++u2::B).map BfT.n).Nodup:=by rw[List.map_append,List.map_cons,hn2];rw[List.map_append,List.map_cons] at hnd;exact hnd
 refine sqr (sqp [.m 95 0,.k 96 (vp sb),.k 97 (po sb 2)] ?_)
 refine aq 2 ho65_ ?_
 refine sqp [.m 99 9] ?_
 refine sqc (eMx kcI ptX Tryz.prog 3 mb1 ((mzD (atM (A++u2::B)) u.n ((A++u2::B).length))) (cj (atM (A++u2::B)) u.n none)) 3 ho65_ (by
   refine svA fun q d W X cx=>?_
   exact Ha (e:=115) (x:=u.n) rfl rfl rfl rfl (cx.ou 98) (show q _=Kc.enc kcI _ from(cx.ou 99)) cx (cx.init 3 _ rfl) rfl ((hkk u hu)) rfl rfl rfl (fun _ _ _ _ _=>id) (hk:=show Program.underlying _ _= _ from by kernel_rfl)) fun QQ CK=>?_
 refine aa ?_
 have hd72_:=CK.u1.c0
 rw[<-hn2,Jv hnd2,show mzD (atM (A++u2::B)) u2.n (A++u2::B).length=(A++B).length from Jr hnd2] at hd72_
 obtain⟨fp73_,hk73_⟩:=St.stf (S:={S1 with pool:=A++B}) (hd72_.u2.u2) (oe hrw1 (fun v hv=> .inl ⟨v,by rw[hu2];rcases List.mem_append.1 hv with h|h<;>simp[h],rfl⟩) (fun r h=>h)) (hrr1)
 exact⟨{S1 with pool:=A++B},u,fp73_,Hi (S1:=S1) (er:=(aL (tick S) u).2) (of_decide_eq_true lP) (Prod.ext hS1 rfl) hc0_ (by rw[hu2,<-hn2,AP hnd2]) rfl,(fun _=>hu),(by kernel_rfl),hk73_.pk [0]⟩
 rw[ha_] at hq1_
 simp only[exq 10 hb_] at et
 simp only[ed 65 ha_,ed 66 hq1_,NU] at aD
 clear hD ha_ hq1_ hb_;subst aD;clear g d X
 refine aa (wq (wct rfl (wp_skip (aa (wp_block (wq ?_))))))
 obtain⟨t1,ht1,rfl,rfl⟩:=GV hm49
 refine sqr ?_
 refine sql (.tuple #[vi t1.n,nH (some t1.blk)]) et (fun cx=>Ci rfl (cx.ou 64) (CtxV.holdE cx (cx.init 9 _ rfl) rfl)) ?_
 refine sqp [.k 68 (vi t1.n),.k 69 (nH (some t1.blk)),.m 10 68,.m 11 69] ?_
 refine aa (wq ?_)
 rcases ho with ⟨rfl,hl0⟩|⟨u0,hu0,rfl⟩
 refine Ak [0,1,3,7,15,31,63,7,135,391,903,7,3975,8071,16263,32647,65535,131071] [.k 70 (vi (-1)),.e 71 (.bool (decide ((-1)<0))) (.bool true) (congrArg Value.bool (show (decide ((-1)<0))=true from(by decide))),.k 72 (.bool true),.u 73,.u 74,.u 75,.u 76,.u 77,.u 78,.u 79,.u 80,.u 81,.u 82,.u 83,.u 84,.u 85,.u 86,.k 87 (.bool true)] [(70,0,18,88)] et fun Qv CB=>?_
 refine aa (wct rfl (sqr (sqp [.m 88 10,.m 9 88] ?_)))
 refine av (aa ?_)
 refine⟨2*((cnt-1)),by omega,?_⟩
 exact⟨t1.n,(fun y=>(left) y&&y != t1.n),(cnt-1),(some (t1.n,(some t1.blk))),.inr ⟨t1,ht1,rfl⟩,rfl,(by kernel_rfl),CB.pk [0,9,1,2,3,4,5,6,7,8]⟩
 have hk0:=hok.keys u0 hu0
 have hd83:(decide (u0.n<0))=false:=(by simp;omega)
 refine bP [0,1,3,7,15,31,63,7,135,391,903,7,3975,8071,16263,32647,65535,131071] [[],[],[],[],[],[],[1],[],[],[],[0],[],[9],[],[],[1]] [.k 70 (vi u0.n),.e 71 (.bool (decide (u0.n<0))) (.bool false) (congrArg Value.bool hd83),.k 72 (.bool false),.k 73 (po t1.blk 0),.k 74 (po t1.blk 0),.k 75 (po t1.blk 4),.c 76 (vi t1.used),.k 77 (vp sb),.k 78 (vp sb),.k 79 (po sb 2),.c 80 (.map (some mb)),.k 81 (vi u0.n),.c 82 (po u0.blk 0),.k 83 (po u0.blk 0),.k 84 (po u0.blk 4),.c 85 (vi u0.used),.k 86 (.bool (decide (t1.used<u0.used))),.k 87 (.bool (decide (t1.used<u0.used)))] [0,1,2,3,4,5,6,7,8,9] [6,10,12,15] [(70,0,18,88)] et ?_ fun TY I1=>?_
 refine⟨?_,?_,?_,?_,trivial⟩
 exact xs5 rfl id (fun cx=>(cx.an 2)) fun cx=>ae rfl (by kernel_rfl) (cx.an 5) (Blk.cell (AR (CtxV.holdF cx (cx.init 1 _ rfl) rfl) ht1) 4)
 exact xs5 rfl id (fun cx=>(cx.an 2)) fun cx=>ae rfl (by kernel_rfl) (cx.an 9) ((cx.bi 0 rfl).cell 2)
 exact xs5 rfl id (fun cx=>(cx.an 2)) fun cx=>(cZ (e:=115) (C:=ptX) (K:=kcI) (x:=u0.n) rfl (cx.an 10) (cx.an 11) (CtxV.rx cx (cx.init 9 _ rfl) rfl) (h0:=by rfl) (hx:=hkk u0 hu0) (hk:=show Program.underlying _ _= _ from by kernel_rfl)).trans (by rw[KE hok.nodup hu0];rfl)
 exact xs5 rfl id (fun cx=>(cx.an 2)) fun cx=>ae rfl (by kernel_rfl) (cx.an 14) (Blk.cell (AR (CtxV.holdF cx (cx.init 1 _ rfl) rfl) hu0) 4)
 refine aa (wds (fun zr CL=>?_) fun zr CL=>?_)
 refine sqr (sqp [.m 88 10,.m 9 88] ?_)
 refine av (aa ?_)
 refine⟨2*((cnt-1)),by omega,?_⟩
 exact⟨t1.n,(fun y=>(left) y&&y != t1.n),(cnt-1),(some (t1.n,(some t1.blk))),.inr ⟨t1,ht1,rfl⟩,rfl,(by kernel_rfl),I1.pk [0,9,1,2,3,4,5,6,7,8]⟩
 refine wp_skip (av (aa ?_))
 refine⟨2*((cnt-1)),by omega,?_⟩
 exact⟨u0.n,(fun y=>(left) y&&y != t1.n),(cnt-1),(some (t1.n,(some t1.blk))),.inr ⟨u0,hu0,rfl⟩,rfl,(by kernel_rfl),I1.pk [0,9,1,2,3,4,5,6,7,8]⟩
 refine wp_skip (aa ?_)
 obtain⟨fp87_,hk87_⟩:=St.stf (S:=(tick S)) (dR) (hrw) (hrr)
 exact⟨(tick S),bf0,fp87_,yw (S:=tick S) (of_decide_eq_false lP),(fun h_=>absurd h_ (of_decide_eq_false lP)),(by kernel_rfl),hk87_.pk [0]⟩
 rintro a39 qD ⟨S2,u,fp2,hev,hu,hj_,dq⟩
 refine ovz hj_ fun Pi=>?_
 refine wq ?_
 have hok2:SOk S2 (c+2):=by have h_:=htk.evict u hu;rw[hev] at h_;exact h_
 have hlen2:=wj htk hu (by rw[hev])
 rw[hev] at hlen2
 have hno2:∀x∈S2.pool,x.n≠n:=by have h_:=pd (S:=tick S) (t:=u) hno;rw[hev] at h_;exact h_
 have he0:(rdS S.D n).2=0:=mC kB
 have hsz5:=F3 he0
 obtain⟨⟨hrw2,hrr2⟩,mb2,RA2,rc2,EA2,ec2,ib2,tb2,fpd2,hv88_⟩:=dq.unf
 rcases bZ:rdX (rdS S.D n).1 with _|p
 have hrp:=su bZ
 refine aG [0,1,3,7,7,0,47,127] [[],[],[],[],[],[],[10]] [[],[],[],[],[],[10],[11]] [[],[],[],[],[],[],[10]] [.k 101 (.string ((rdS S.D n).1)),.a 102,.a 100,.c 103 (.agg #[vi 0,vi 0,sn]),.a 104,.a 13,.n,.a 14] (fun ix g d X=>match ix with|0=>True|1=>g 102= .tuple #[.agg #[vi 0,vi 0,sn],vi (nzI (tE (d 102)))]|2=>g 100= .tuple #[.agg #[vi 0,vi 0,sn],vi (nzI (tE (d 102)))]|3=>True|4=>g 104=vi (nzI (tE (d 102)))|5=>g 13=vp (pb (d 13))/\X 10=eB (pb (d 13)) 48 #[vi 0,vi 0,sn]|6=>X 11=eB (pb (d 13)) 48 #[vi 0,vi 0,sn]|7=>g 14=vi (nzI (tE (d 102)))|_=>True) [0,1,2,3,4,5,6,7,8,9,11] [1,2,3,4,5,6,7] [(13,5,3,15),(85,2,1,86),(0,0,2,2),(0,3,2,2)] hv88_ ?_ ?_ ?_
 exact fun ix _ _ _ _ _ _ hs hb hx h=>match ix,h with
 |1,h=>by dsimp only;rw[<-hs 102 rfl,<-hb 102 rfl];exact h
 |2,h=>by dsimp only;rw[<-hs 100 rfl,<-hb 102 rfl];exact h
 |4,h=>by dsimp only;rw[<-hs 104 rfl,<-hb 102 rfl];exact h
 |5,h=>by dsimp only;rw[<-hs 13 rfl,<-hb 13 rfl,<-hx 10 rfl];exact h
 |6,h=>by dsimp only;rw[<-hb 13 rfl,<-hx 11 rfl];exact h
 |7,h=>by dsimp only;rw[<-hs 14 rfl,<-hb 102 rfl];exact h
 |0,_|3,_|_+8,_=>trivial
 refine⟨?_,?_,?_,?_,?_,?_,?_,trivial⟩
 refine svA fun q d W X cx=>?_
 refine am.call (au (args:=#[.string ((rdS S.D n).1)]) rfl cx.sees rfl (by kernel_rfl) (ax (cx.an 0))) ?_
 refine(Jn bZ (sR _ _ hsz5)).mono ?_
 rintro e W1 ⟨er4,hn4,rfl,hx⟩
 refine⟨_,rfl,bR [] rfl rfl hx (by simp) List.Pairwise.nil (fun g F X' hs hb hv hN=>?_)⟩
 have aJ:=(hv 102 rfl).1;have aV:=(hv 102 rfl).2
 exact aJ.trans (by rw[aV];exact congrArg (fun z=>Value.tuple #[.agg #[vi 0,vi 0,sn],vi z]) (J6 hn4).symm)
 exact sv rfl rfl rfl rfl rfl _ (fun _ _ _ h=>h) (fun d F h=>by rw[h 102 (by decide)]) fun q d W X cx=>dj rfl (dTn (cx.an 1))
 exact xs4 rfl id fun cx=>cd rfl (dTn (cx.an 2)) rfl
 exact sv rfl rfl rfl rfl rfl _ (fun _ _ _ h=>h) (fun d F h=>by rw[h 102 (by decide)]) fun q d W X cx=>cd rfl (dTn (cx.an 2)) rfl
 refine svA fun q d W X cx=>?_
 exact dm (cs:=#[vi 0,vi 0,sn]) rfl (by kernel_rfl) rfl rfl (fun _ _ _ _ _=> .intro)
 refine svA fun q d W X cx=>?_
 exact bx (n:=3) rfl (dTn (cx.an 5)).1 (cx.an 3) (by kernel_rfl) (by kernel_rfl) (by kernel_rfl) cx (dTn (cx.an 5)).2 rfl (nle rfl) (by kernel_rfl) rfl rfl rfl (fun g F X' hs hb hx=>by rw[hb 13];exact hx)
 exact sv rfl rfl rfl rfl rfl _ (fun _ _ _ h=>h) (fun d F h=>by rw[h 102 (by decide)]) fun q d W X cx=>di rfl (dTn (cx.an 4))
 intro g d X Mt hD l8 fr aD
 simp only[exq 11 ((dTn (hD 6 lq)))] at l8
 simp only[ed 102 ((dTn (hD 1 lq))),ed 100 ((dTn (hD 2 lq))),ed 104 ((dTn (hD 4 lq))),ed 13 ((dTn (hD 5 lq)).1),ed 14 ((dTn (hD 7 lq)))] at aD
 generalize tE (d 102)=KQ,pb (d 13)=QR at l8 aD
 clear hD;subst aD;clear g d X
 refine aa (wq (wq (sqr (sqp [.m 105 14,.k 106 (.bool ((nzI KQ) != 0))] ?_))))
 refine aa (wbs (fun Ii=>?_) fun Ii=>?_)
 have N6:=bne_iff_ne.1 Ii
 refine sqr (sqk (.agg #[vi 0,vi 0,sn]) l8 (fun cx=>⟨_,Dr 0 _,(ax (cx.co _))⟩) fun QS CM=>?_)
 refine aX (n:=3) 10 #[vi 0,vi 0,sn] CM fun O0 uJ=>?_
 refine aa (wq ?_)
 have hn95:=St.nilrow uJ 9
 simp only[List.cons_append,List.nil_append] at hn95
 have hmz:mzP (atM S2.pool) n S2.pool.length=S2.pool.length+1:=by rw[mzP,ku hno2];rfl
 have hl5:S2.pool.length<1000000:=by have:=hok2.len;have:=hok2.bufs;omega
 refine aG [0,1,3,7,0,0,0,64,192,448,992,2016,4095] [[],[],[],[0],[],[10],[],[],[],[0],[],[],[1]] [[],[],[],[],[],[],[],[],[],[],[],[12],[13]] [[],[],[],[],[],[],[],[],[],[],[],[],[1]] [.k 108 (vp sb),.k 109 (vp sb),.k 110 (po sb 2),.c 111 (.map (some mb2)),.k 112 (vi n),.c 113 (.agg #[vi 0,vi 0,sn]),.k 114 (vp sb),.k 115 (vp sb),.k 116 (po sb 3),.c 117 (vi S2.time),.k 118 (.agg #[vi 0,vi 0,sn,.bool false,vi S2.time]),.a 119,.n] (fun ix g d X=>match ix with|0|1|2|3|4|5|6|7|8|9|10=>True|11=>g 119=vp (pb (d 119))/\X 12=eB (pb (d 119)) 120 #[vi 0,vi 0,sn,.bool false,vi S2.time]|12=>X 13=eMx kcI ptX Tryz.prog 3 mb2 ((mzP (atM S2.pool) n S2.pool.length)) (cj (atM S2.pool) n (some (some (pb (d 119)))))|_=>True) [0,2,3,4,5,6,7,8,9,10,11,12,13] [3,5,9,11,12] [(108,0,12,120)] hn95 ?_ ?_ ?_
 exact fun ix _ _ _ _ _ _ hs hb hx h=>match ix,h with
 |11,h=>by dsimp only;rw[<-hs 119 rfl,<-hb 119 rfl,<-hx 12 rfl];exact h
 |12,h=>by dsimp only;rw[<-hb 119 rfl,<-hx 13 rfl];exact h
 |0,_|1,_|2,_|3,_|4,_|5,_|6,_|7,_|8,_|9,_|10,_|_+13,_=>trivial
 refine⟨?_,?_,?_,?_,?_,trivial⟩
 exact xs4 rfl id fun cx=>ae rfl (by kernel_rfl) (cx.an 2) ((cx.bi 0 rfl).cell 2)
 exact xs4 rfl id fun cx=>ce (n:=3) rfl (by kernel_rfl) (by kernel_rfl) (cx.ou 13) (cx.bi 10 rfl) (nle rfl) rfl
 exact xs4 rfl id fun cx=>ae rfl (by kernel_rfl) (cx.an 8) ((cx.bi 0 rfl).cell 3)
 refine svA fun q d W X cx=>?_
 exact p9 (cs:=#[vi 0,vi 0,sn,.bool false,vi S2.time]) rfl (cx.an 10) rfl rfl rfl (fun _ _ _ _ _=> .intro)
 refine svA fun q d W X cx=>?_
 exact gC (e:=115) (v:=(some (pb (d 119)))) (.inl rfl) (cx.an 3) (show q _=Kc.enc kcI n from(cx.an 4)) (show q _=Ec.enc ptX (some (pb (d 119))) from(dTn (cx.an 11)).1) cx (cx.init 1 _ rfl) rfl (trivial) (by omega) (hkn) rfl rfl rfl (fun g F X' hs hb hx=>by rw[hb 119];exact hx) (hk:=show Program.underlying _ _= _ from by kernel_rfl)
 intro g d X TZ hD CN fr aD
 simp only[exq 12 ((dTn (hD 11 lq)).2),exq 13 ((dTn (hD 12 lq)))] at CN
 simp only[ed 119 ((dTn (hD 11 lq)).1)] at aD
 generalize pb (d 119)=fQ at CN aD
 clear hD;subst aD;clear g d X
 refine aa (wq ?_)
 have hg97_:=St.apf (r:=(⟨bw,none,0⟩:PgR)) CN.u11.u2.u11.u4
 have hj97_:=St.abf (t:=(⟨n,fQ,(⟨bw,none,0⟩:PgR),false,S2.time⟩:BfT)) hg97_.u2.u2
 rw[hmz,show cj (atM S2.pool) n (some (some fQ))=atM (S2.pool++[(⟨n,fQ,(⟨bw,none,0⟩:PgR),false,S2.time⟩:BfT)]) from vy (t:=(⟨n,fQ,(⟨bw,none,0⟩:PgR),false,S2.time⟩:BfT)) hno2] at hj97_
 have hnd9:((S2.pool++[(⟨n,fQ,(⟨bw,none,0⟩:PgR),false,S2.time⟩:BfT)]).map BfT.n).Nodup:=lZ hok2.nodup hno2
 refine sqr (sqp [.m 120 0,.k 121 (vp sb),.k 122 (po sb 2)] ?_)
 refine aq 2 hj97_ ?_
 refine sqp [.m 124 1] ?_
 refine sql (vp fQ) hj97_ (fun cx=>(cZ (e:=115) (C:=ptX) (K:=kcI) (x:=n) rfl (cx.ou 123) (cx.ou 124) (CtxV.mx cx (cx.init 10 _ rfl) rfl) (h0:=by rfl) (hx:=hkn) (hk:=show Program.underlying _ _= _ from by kernel_rfl)).trans (by rw[show atM (S2.pool++[(⟨n,fQ,(⟨bw,none,0⟩:PgR),false,S2.time⟩:BfT)]) n=some (some fQ) from lk (A:=S2.pool) (B:=[]) hnd9];rfl)) ?_
 refine sqp [.m 4 125,.k 5 (vi 0)] ?_
 refine aa (wp_ret ?_)
 refine bpr (.tuple #[vp fQ,vi 0]) (aO Tryz.results64 rpt rpt) ?_
 obtain⟨fp106_,hk106_⟩:=St.stf (S:={S2 with pool:=S2.pool++[(⟨n,fQ,(⟨bw,none,0⟩:PgR),false,S2.time⟩:BfT)],rows:=S2.rows++[(⟨bw,none,0⟩:PgR)]}) (by have h_:=hj97_.u9.c0.u9.u3;rw[show S2.pool.length+1=(S2.pool++[(⟨n,fQ,(⟨bw,none,0⟩:PgR),false,S2.time⟩:BfT)]).length by simp] at h_;exact h_) (oe hrw2 (l2:=S2.pool++[(⟨n,fQ,(⟨bw,none,0⟩:PgR),false,S2.time⟩:BfT)]) (rows2:=S2.rows++[(⟨bw,none,0⟩:PgR)]) (fun v hv=>(List.mem_append.1 hv).elim (fun h=> .inl ⟨v,h,rfl⟩) (fun h=> .inr (by rw[List.mem_singleton.1 h];simp))) (fun r h=>by simp[h])) (hrr2)
 exact jR.of (by have h_:=sm hno he0 hu hev fQ none 0 (k:=S2.time) (by have h5:=oI (S:=tick S) (t:=u);rw[hev] at h5;exact h5);rw[hrp] at h_;exact h_) hk106_
 have N6:=bne_eq_false_iff_eq.1 Ii
 refine wp_skip (aa (wq ?_))
 have hn107:=St.nilrow l8 9
 simp only[List.cons_append,List.nil_append] at hn107
 have hmz:mzP (atM S2.pool) n S2.pool.length=S2.pool.length+1:=by rw[mzP,ku hno2];rfl
 have hl5:S2.pool.length<1000000:=by have:=hok2.len;have:=hok2.bufs;omega
 refine aG [0,1,3,7,0,0,0,64,192,448,992,2016,4095] [[],[],[],[0],[],[10],[],[],[],[0],[],[],[1]] [[],[],[],[],[],[],[],[],[],[],[],[12],[13]] [[],[],[],[],[],[],[],[],[],[],[],[],[1]] [.k 108 (vp sb),.k 109 (vp sb),.k 110 (po sb 2),.c 111 (.map (some mb2)),.k 112 (vi n),.c 113 (.agg #[vi 0,vi 0,sn]),.k 114 (vp sb),.k 115 (vp sb),.k 116 (po sb 3),.c 117 (vi S2.time),.k 118 (.agg #[vi 0,vi 0,sn,.bool false,vi S2.time]),.a 119,.n] (fun ix g d X=>match ix with|0|1|2|3|4|5|6|7|8|9|10=>True|11=>g 119=vp (pb (d 119))/\X 12=eB (pb (d 119)) 120 #[vi 0,vi 0,sn,.bool false,vi S2.time]|12=>X 13=eMx kcI ptX Tryz.prog 3 mb2 ((mzP (atM S2.pool) n S2.pool.length)) (cj (atM S2.pool) n (some (some (pb (d 119)))))|_=>True) [0,2,3,4,5,6,7,8,9,10,11,12,13] [3,5,9,11,12] [(108,0,12,120)] hn107 ?_ ?_ ?_
 exact fun ix _ _ _ _ _ _ hs hb hx h=>match ix,h with
 |11,h=>by dsimp only;rw[<-hs 119 rfl,<-hb 119 rfl,<-hx 12 rfl];exact h
 |12,h=>by dsimp only;rw[<-hb 119 rfl,<-hx 13 rfl];exact h
 |0,_|1,_|2,_|3,_|4,_|5,_|6,_|7,_|8,_|9,_|10,_|_+13,_=>trivial
 refine⟨?_,?_,?_,?_,?_,trivial⟩
 exact xs4 rfl id fun cx=>ae rfl (by kernel_rfl) (cx.an 2) ((cx.bi 0 rfl).cell 2)
 exact xs4 rfl id fun cx=>ce (n:=3) rfl (by kernel_rfl) (by kernel_rfl) (cx.ou 13) (cx.bi 10 rfl) (nle rfl) rfl
 exact xs4 rfl id fun cx=>ae rfl (by kernel_rfl) (cx.an 8) ((cx.bi 0 rfl).cell 3)
 refine svA fun q d W X cx=>?_
 exact p9 (cs:=#[vi 0,vi 0,sn,.bool false,vi S2.time]) rfl (cx.an 10) rfl rfl rfl (fun _ _ _ _ _=> .intro)
 refine svA fun q d W X cx=>?_
 exact gC (e:=115) (v:=(some (pb (d 119)))) (.inl rfl) (cx.an 3) (show q _=Kc.enc kcI n from(cx.an 4)) (show q _=Ec.enc ptX (some (pb (d 119))) from(dTn (cx.an 11)).1) cx (cx.init 1 _ rfl) rfl (trivial) (by omega) (hkn) rfl rfl rfl (fun g F X' hs hb hx=>by rw[hb 119];exact hx) (hk:=show Program.underlying _ _= _ from by kernel_rfl)
 intro g d X PD hD oz fr aD
 simp only[exq 12 ((dTn (hD 11 lq)).2),exq 13 ((dTn (hD 12 lq)))] at oz
 simp only[ed 119 ((dTn (hD 11 lq)).1)] at aD
 generalize pb (d 119)=eV at oz aD
 clear hD;subst aD;clear g d X
 refine aa (wq ?_)
 have hg109_:=St.apf (r:=(⟨bw,none,0⟩:PgR)) oz.u11.u2.u11.u4
 have hj109_:=St.abf (t:=(⟨n,eV,(⟨bw,none,0⟩:PgR),false,S2.time⟩:BfT)) hg109_.u2.u2
 rw[hmz,show cj (atM S2.pool) n (some (some eV))=atM (S2.pool++[(⟨n,eV,(⟨bw,none,0⟩:PgR),false,S2.time⟩:BfT)]) from vy (t:=(⟨n,eV,(⟨bw,none,0⟩:PgR),false,S2.time⟩:BfT)) hno2] at hj109_
 have hnd9:((S2.pool++[(⟨n,eV,(⟨bw,none,0⟩:PgR),false,S2.time⟩:BfT)]).map BfT.n).Nodup:=lZ hok2.nodup hno2
 refine sqr (sqp [.m 120 0,.k 121 (vp sb),.k 122 (po sb 2)] ?_)
 refine aq 2 hj109_ ?_
 refine sqp [.m 124 1] ?_
 refine sql (vp eV) hj109_ (fun cx=>(cZ (e:=115) (C:=ptX) (K:=kcI) (x:=n) rfl (cx.ou 123) (cx.ou 124) (CtxV.mx cx (cx.init 10 _ rfl) rfl) (h0:=by rfl) (hx:=hkn) (hk:=show Program.underlying _ _= _ from by kernel_rfl)).trans (by rw[show atM (S2.pool++[(⟨n,eV,(⟨bw,none,0⟩:PgR),false,S2.time⟩:BfT)]) n=some (some eV) from lk (A:=S2.pool) (B:=[]) hnd9];rfl)) ?_
 refine sqp [.m 4 125,.k 5 (vi 0)] ?_
 refine aa (wp_ret ?_)
 refine bpr (.tuple #[vp eV,vi 0]) (aO Tryz.results64 rpt rpt) ?_
 obtain⟨fp118_,hk118_⟩:=St.stf (S:={S2 with pool:=S2.pool++[(⟨n,eV,(⟨bw,none,0⟩:PgR),false,S2.time⟩:BfT)],rows:=S2.rows++[(⟨bw,none,0⟩:PgR)]}) (by have h_:=hj109_.u9.c0.u9.u3;rw[show S2.pool.length+1=(S2.pool++[(⟨n,eV,(⟨bw,none,0⟩:PgR),false,S2.time⟩:BfT)]).length by simp] at h_;exact h_) (oe hrw2 (l2:=S2.pool++[(⟨n,eV,(⟨bw,none,0⟩:PgR),false,S2.time⟩:BfT)]) (rows2:=S2.rows++[(⟨bw,none,0⟩:PgR)]) (fun v hv=>(List.mem_append.1 hv).elim (fun h=> .inl ⟨v,h,rfl⟩) (fun h=> .inr (by rw[List.mem_singleton.1 h];simp))) (fun r h=>by simp[h])) (hrr2)
 exact jR.of (by have h_:=sm hno he0 hu hev eV none 0 (k:=S2.time) (by have h5:=oI (S:=tick S) (t:=u);rw[hev] at h5;exact h5);rw[hrp] at h_;exact h_) hk118_
 have hrp:=sO bZ
 refine sqr (sqp [.m 101 7] ?_)
 refine iE (fun cC cD=> .tuple #[.agg #[vi p.1,vi p.2.1,.slice cC p.2.2.length cD],vi 0]) (fun cC cD=>eO 9 1 (.slice cC p.2.2.length cD) p.2.2.length (p.2.2.map Value.string)) hv88_ (fun cx=>⟨_,(Ji bZ (sR _ _ hsz5)).mono (by rintro e W1 ⟨A4,c4,rfl,ho,hx⟩;exact⟨_,_,rfl,St.one hx (cu ho)⟩),(ax (cx.ou 101))⟩) fun cC cD PE uQ=>?_
 refine sqp [.m 100 102,.k 103 (.agg #[vi p.1,vi p.2.1,.slice cC p.2.2.length cD]),.k 104 (vi 0)] ?_
 refine b8 #[vi 0,vi 0,sn] uQ fun Qe PF uR=>?_
 refine aX (n:=3) 11 #[vi p.1,vi p.2.1,.slice cC p.2.2.length cD] uR fun R9 Mu=>?_
 refine sqp [.m 14 104] ?_
 refine aa (wq (wq (sqr (sqp [.m 105 14,.k 106 (.bool false)] ?_))))
 refine aa (wcf rfl (wp_skip (aa (wq ?_))))
 have hmz:mzP (atM S2.pool) n S2.pool.length=S2.pool.length+1:=by rw[mzP,ku hno2];rfl
 have hl5:S2.pool.length<1000000:=by have:=hok2.len;have:=hok2.bufs;omega
 refine aG [0,1,3,7,0,0,0,64,192,448,992,2016,4095] [[],[],[],[0],[],[11],[],[],[],[0],[],[],[1]] [[],[],[],[],[],[],[],[],[],[],[],[12],[13]] [[],[],[],[],[],[],[],[],[],[],[],[],[1]] [.k 108 (vp sb),.k 109 (vp sb),.k 110 (po sb 2),.c 111 (.map (some mb2)),.k 112 (vi n),.c 113 (.agg #[vi p.1,vi p.2.1,.slice cC p.2.2.length cD]),.k 114 (vp sb),.k 115 (vp sb),.k 116 (po sb 3),.c 117 (vi S2.time),.k 118 (.agg #[vi p.1,vi p.2.1,.slice cC p.2.2.length cD,.bool false,vi S2.time]),.a 119,.n] (fun ix g d X=>match ix with|0|1|2|3|4|5|6|7|8|9|10=>True|11=>g 119=vp (pb (d 119))/\X 12=eB (pb (d 119)) 120 #[vi p.1,vi p.2.1,.slice cC p.2.2.length cD,.bool false,vi S2.time]|12=>X 13=eMx kcI ptX Tryz.prog 3 mb2 ((mzP (atM S2.pool) n S2.pool.length)) (cj (atM S2.pool) n (some (some (pb (d 119)))))|_=>True) [0,2,3,4,5,6,7,8,9,10,11,12,13] [3,5,9,11,12] [(108,0,12,120)] Mu ?_ ?_ ?_
 exact fun ix _ _ _ _ _ _ hs hb hx h=>match ix,h with
 |11,h=>by dsimp only;rw[<-hs 119 rfl,<-hb 119 rfl,<-hx 12 rfl];exact h
 |12,h=>by dsimp only;rw[<-hb 119 rfl,<-hx 13 rfl];exact h
 |0,_|1,_|2,_|3,_|4,_|5,_|6,_|7,_|8,_|9,_|10,_|_+13,_=>trivial
 refine⟨?_,?_,?_,?_,?_,trivial⟩
 exact xs4 rfl id fun cx=>ae rfl (by kernel_rfl) (cx.an 2) ((cx.bi 0 rfl).cell 2)
 exact xs4 rfl id fun cx=>ce (n:=3) rfl (by kernel_rfl) (by kernel_rfl) (cx.ou 13) (cx.bi 11 rfl) (nle rfl) rfl
 exact xs4 rfl id fun cx=>ae rfl (by kernel_rfl) (cx.an 8) ((cx.bi 0 rfl).cell 3)
 refine svA fun q d W X cx=>?_
 exact p9 (cs:=#[vi p.1,vi p.2.1,.slice cC p.2.2.length cD,.bool false,vi S2.time]) rfl (cx.an 10) rfl rfl rfl (fun _ _ _ _ _=> .intro)
 refine svA fun q d W X cx=>?_
 exact gC (e:=115) (v:=(some (pb (d 119)))) (.inl rfl) (cx.an 3) (show q _=Kc.enc kcI n from(cx.an 4)) (show q _=Ec.enc ptX (some (pb (d 119))) from(dTn (cx.an 11)).1) cx (cx.init 1 _ rfl) rfl (trivial) (by omega) (hkn) rfl rfl rfl (fun g F X' hs hb hx=>by rw[hb 119];exact hx) (hk:=show Program.underlying _ _= _ from by kernel_rfl)
 intro g d X Sa hD zt fr aD
 simp only[exq 12 ((dTn (hD 11 lq)).2),exq 13 ((dTn (hD 12 lq)))] at zt
 simp only[ed 119 ((dTn (hD 11 lq)).1)] at aD
 generalize pb (d 119)=eW at zt aD
 clear hD;subst aD;clear g d X
 refine aa (wq ?_)
 have hg130_:=St.apf (r:=(⟨p,cC,cD⟩:PgR)) zt.u11.u2.u10.u4
 have hj130_:=St.abf (t:=(⟨n,eW,(⟨p,cC,cD⟩:PgR),false,S2.time⟩:BfT)) hg130_.u2.u2
 rw[hmz,show cj (atM S2.pool) n (some (some eW))=atM (S2.pool++[(⟨n,eW,(⟨p,cC,cD⟩:PgR),false,S2.time⟩:BfT)]) from vy (t:=(⟨n,eW,(⟨p,cC,cD⟩:PgR),false,S2.time⟩:BfT)) hno2] at hj130_
 have hnd9:((S2.pool++[(⟨n,eW,(⟨p,cC,cD⟩:PgR),false,S2.time⟩:BfT)]).map BfT.n).Nodup:=lZ hok2.nodup hno2
 refine sqr (sqp [.m 120 0,.k 121 (vp sb),.k 122 (po sb 2)] ?_)
 refine aq 2 hj130_ ?_
 refine sqp [.m 124 1] ?_
 refine sql (vp eW) hj130_ (fun cx=>(cZ (e:=115) (C:=ptX) (K:=kcI) (x:=n) rfl (cx.ou 123) (cx.ou 124) (CtxV.mx cx (cx.init 10 _ rfl) rfl) (h0:=by rfl) (hx:=hkn) (hk:=show Program.underlying _ _= _ from by kernel_rfl)).trans (by rw[show atM (S2.pool++[(⟨n,eW,(⟨p,cC,cD⟩:PgR),false,S2.time⟩:BfT)]) n=some (some eW) from lk (A:=S2.pool) (B:=[]) hnd9];rfl)) ?_
 refine sqp [.m 4 125,.k 5 (vi 0)] ?_
 refine aa (wp_ret ?_)
 refine bpr (.tuple #[vp eW,vi 0]) (aO Tryz.results64 rpt rpt) ?_
 obtain⟨fp139_,hk139_⟩:=St.stf (S:={S2 with pool:=S2.pool++[(⟨n,eW,(⟨p,cC,cD⟩:PgR),false,S2.time⟩:BfT)],rows:=S2.rows++[(⟨p,cC,cD⟩:PgR)]}) (by have h_:=hj130_.u9.c0.u9.u3;rw[show S2.pool.length+1=(S2.pool++[(⟨n,eW,(⟨p,cC,cD⟩:PgR),false,S2.time⟩:BfT)]).length by simp] at h_;exact h_) (oe hrw2 (l2:=S2.pool++[(⟨n,eW,(⟨p,cC,cD⟩:PgR),false,S2.time⟩:BfT)]) (rows2:=S2.rows++[(⟨p,cC,cD⟩:PgR)]) (fun v hv=>(List.mem_append.1 hv).elim (fun h=> .inl ⟨v,h,rfl⟩) (fun h=> .inr (by rw[List.mem_singleton.1 h];simp))) (fun r h=>by simp[h])) (hrr2)
 exact jR.of (by have h_:=sm hno he0 hu hev eW cC cD (k:=S2.time) (by have h5:=oI (S:=tick S) (t:=u);rw[hev] at h5;exact h5);rw[hrp] at h_;exact h_) hk139_
 rw[hAB] at f8
 have ho140_:=St.obf (t:=t) f8.u2
 have htm:t∈S.pool:=by rw[hAB];simp
 have hnd:((A++t::B).map BfT.n).Nodup:=by rw[<-hAB];exact hok.nodup
 refine sqr (sqp [.m 22 0,.k 23 (vp sb),.k 24 (po sb 2)] ?_)
 refine aq 2 ho140_ ?_
 refine sqp [.m 26 1] ?_
 refine sql (po t.blk 0) ho140_ (fun cx=>(cZ (e:=115) (C:=ptX) (K:=kcI) (x:=t.n) rfl (cx.ou 25) (cx.ou 26) (CtxV.mx cx (cx.init 3 _ rfl) rfl) (h0:=by rfl) (hx:=hkn) (hk:=show Program.underlying _ _= _ from by kernel_rfl)).trans (by rw[lk hnd];rfl)) ?_
 refine sqp [.m 6 27] ?_
 refine aa (wq (sqr (sqp [.m 28 6] ?_)))
 refine sqv (.bool true) ho140_ (by
   exact sv0 rfl rfl rfl rfl rfl (fun _ _ _ h=>h) fun q d W X cx=>by
    have Ih:q (.tmp 28)=po t.blk 0:=(cx.ou 28)
    simp[go_sem,cx.sees.const,Ih]) fun Sb Ft=>?_
 refine aa (wct rfl (wq (sqr (sqp [.m 30 6,.m 31 0,.k 32 (vp sb),.k 33 (po sb 3)] ?_))))
 refine aq 2 Ft ?_
 refine sqp [.k 35 (po t.blk 0),.k 36 (po t.blk 4)] ?_
 refine aX (n:=1) 1 #[vi t.pg.p.1,vi t.pg.p.2.1,.slice t.pg.A t.pg.p.2.2.length t.pg.c,.bool t.dirty,vi (S.time+1)] Ft fun Sc Mv=>?_
 refine aa (wq (sqr (sqp [.m 37 6,.m 4 37,.k 5 (vi 0)] ?_)))
 refine aa (wp_ret (ai ?_))
 refine bpr (.tuple #[po t.blk 0,vi 0]) (aO Tryz.results64 rpt rpt) ?_
 have hi161_:=St.ibf (t:=(lL (S.time+1) t)) Mv
 obtain⟨fp162_,hk162_⟩:=St.stf (S:={tick S with pool:=A++lL (S.time+1) t::B}) (by have h_:=hi161_.u2.u2;rw[<-nZ (A:=A) (B:=B) (t:=t) (u:=lL (S.time+1) t) rfl rfl,show (A++t::B).length=(A++lL (S.time+1) t::B).length by simp] at h_;exact h_) (oe hrw (by rw[hAB];exact J8 (t:=t) (u:=lL (S.time+1) t) rfl) (fun r h=>h)) (hrr)
 exact jR.of ⟨by have h_:=LdR.hit (S:=S) t htm rfl;rw[hAB,ks hnd] at h_;exact h_,fun _=>⟨lL (S.time+1) t,by show _∈A++lL (S.time+1) t::B;simp,rfl,rfl⟩⟩ hk162_
end
section
open Go.RowKit
theorem vL(h:(rdS D n).2=0):0<=n/\n<(D.pgs.length:Int):=by
 unfold rdS at h
 split at h
 cases h
 split at h
 assumption
 cases h
theorem El(S:StM)(t:BfT):(bv S t).1.D.pgs.length=S.D.pgs.length:=by
 have hw:∀S:StM,(bN S t).1.D.pgs.length=S.D.pgs.length:=fun S=>by
  have h1:(wrD0 S t).1.pgs.length=S.D.pgs.length:=by
   unfold wrD0
   split
   rw[sP]
   rfl
  unfold bN
  split
  exact h1
  exact((DOk.write _ t.n _).pgs).trans h1
 have hc:(aL S t).1.D.pgs.length=S.D.pgs.length:=by
  unfold aL
  split
  exact hw S
  rfl
 unfold bv
 split
 split
 exact hc
 exact hc
 rfl
theorem BN(S:StM)(t:BfT):(bv S t).1.rows=S.rows/\(bv S t).1.recs=S.recs/\(bv S t).1.frm=S.frm/\(bv S t).1.im=S.im/\(bv S t).1.told=S.told:=by
 have hc:(aL S t).1.rows=S.rows/\(aL S t).1.recs=S.recs/\(aL S t).1.frm=S.frm/\(aL S t).1.im=S.im/\(aL S t).1.told=S.told:=by
  unfold aL
  split
  unfold bN
  split<;>exact⟨rfl,rfl,rfl,rfl,rfl⟩
  exact⟨rfl,rfl,rfl,rfl,rfl⟩
 unfold bv
 split
 split
 exact hc
 exact hc
 exact⟨rfl,rfl,rfl,rfl,rfl⟩
theorem DR(h:(rdS D n).2=0):(rdS D n).1=(rdT (D.pgs.getD n.toNat gL)).1:=by
 unfold rdS at h |-
 split at h
 cases h
 rename_i ho
 rw[if_neg ho]
 split at h
 rename_i hn;rw[if_pos hn]
 cases h
theorem F2{S:StM}(h:SOk S c)(ht:S.bufs<=(S.pool.length:Int)->t∈S.pool){m:Int}(hm:0<=m)(hn:∀u∈S.pool,u.n≠m):shP (bv S t).1.D m=shP S.D m:=by
 unfold bv
 split
 rename_i hb
 have hr:=h.right t (ht hb)
 have hc:shP (aL S t).1.D m=shP S.D m:=by
  unfold aL
  split
  rcases y4 (S:=S) hr hm with h1|⟨h1,_⟩
  exact h1
  exact absurd h1.symm (hn t (ht hb))
  rfl
 split
 exact hc
 exact hc
 rfl
theorem SOk.load(h:SOk S c)(hl:LdR S n S' er):SOk S' (c+3):=by
 cases hl with
 |hit t ht hn=>exact(h.tick.setp (f:=lL (S.time+1)) (fun _=>rfl) (fun t ht=>h.right t ht) (fun t ht _ hd=>h.cl t ht hd)).mono (by omega)
 |bad h1 h2=>exact h.tick.mono (by omega)
 |new t blk A cc h1 h2 h3=>
  have he:=(h.tick.evict t h3)
  unfold jU
  split
  exact he.mono (by omega)
  rename_i h4
  have h4:(bv (Go.Proofs.YtcdjaepgahbhfaaGreat.tick S) t).2=0:=by simpa using h4
  have hlen:=wj h.tick h3 h4
  have hr:=vL h2
  have hp:(bv (Go.Proofs.YtcdjaepgahbhfaaGreat.tick S) t).1.D.pgs.length=S.D.pgs.length:=El _ _
  have he2:=he.mono (show c+1+1<=c+3 by omega)
  refine⟨he2.bufs,he2.pgs,he2.ws,he2.time,he2.ni,he2.nt,fun u hu=>?_,lZ he2.nodup (pd (S:=Go.Proofs.YtcdjaepgahbhfaaGreat.tick S) h1),?_,fun u hu=>?_,he2.recs,he2.log,he2.lsz,he2.fl,fun u hu hd=>?_⟩
  rcases List.mem_append.1 hu with hu|hu
  exact he2.right u hu
  rw[List.mem_singleton.1 hu];exact se _
  show (((bv (Go.Proofs.YtcdjaepgahbhfaaGreat.tick S) t).1.pool++[_]).length:Int)<=(bv (Go.Proofs.YtcdjaepgahbhfaaGreat.tick S) t).1.bufs
  rw[List.length_append,List.length_singleton]
  omega
  rcases List.mem_append.1 hu with hu|hu
  exact he2.keys u hu
  rw[List.mem_singleton.1 hu]
  show 0<=n/\n<((bv (Go.Proofs.YtcdjaepgahbhfaaGreat.tick S) t).1.D.pgs.length:Int)
  rw[hp];exact hr
  rcases List.mem_append.1 hu with hu|hu
  exact he2.cl u hu hd
  rw[List.mem_singleton.1 hu]
  show rdP (rdS S.D n).1=shP (bv (Go.Proofs.YtcdjaepgahbhfaaGreat.tick S) t).1.D n
  rw[F2 h.tick h3 hr.1 h1,DR h2];rfl
theorem LdR.rows{S:StM}(hl:LdR S n S' er):(∀r∈S.rows,r∈S'.rows)/\S'.recs=S.recs/\S'.frm=S.frm/\S'.im=S.im/\S'.told=S.told:=by
 cases hl with
 |hit t ht hn=>exact⟨fun r h=>h,rfl,rfl,rfl,rfl⟩
 |bad h1 h2=>exact⟨fun r h=>h,rfl,rfl,rfl,rfl⟩
 |new t blk A cc h1 h2 h3=>
  have he:=BN (tick S) t
  unfold jU
  split
  exact⟨fun r h=>by rw[he.1];exact h,he.2⟩
  exact⟨fun r h=>List.mem_append_left _ (by rw[he.1];exact h),he.2⟩
def gz(pg:PgR)(t:BfT):BfT:={t with pg:=pg,dirty:=true}
def ei(S:StM)(n:Int)(pg:PgR)(S':StM)(er:Int):Prop:=∃S1,LdR S n S1 er/\((er≠0/\S'=S1)\/(er=0/\(∃t∈S1.pool,t.n=n)/\S'={S1 with pool:=da S1.pool n (gz pg)}))
theorem SOk.put(h:SOk S c)(hr:bJ pg.p)(hp:ei S n pg S' er):SOk S' (c+3):=by
 obtain⟨S1,h1,⟨_,rfl⟩|⟨_,_,rfl⟩⟩:=hp
 exact h.load h1
 exact(h.load h1).setp (fun _=>rfl) (fun _ _=>hr) (fun _ _ _ hd=>by cases hd)
def qp(sb db:Nat)(S:StM)(n:Int)(pg:PgR)(fp:List Nat)(w:World)(e:Ending)(w':World):Prop:=∃er,e= .returned (.int .i64 er)/\∃fp',St w fp [eSx sb db (fun S2=>ei S n pg S2 er) fp'] w'
theorem qp.of(h:ei S n pg S2 er)(hs:St w fp ([]++[eSt sb db S2 fp']) w'):qp sb db S n pg fp w (.returned (.int .i64 er)) w':=⟨er,rfl,fp',St.sx (L:=[]) hs h⟩
theorem sU(sb db:Nat)(S:StM)(n:Int)(pg:PgR)(c:Nat)(fp:List Nat)(w:World)(hB:(eSt sb db S fp).holds w)(hlt:∀k∈fp,k<w.heap.size)(hok:SOk S c)(hc:c<=800000000)(hkn:kcI.ok n)(hpg:pg∈S.rows):
  Calls Tryz.prog 58 #[po sb 0,.int .i64 n,.agg #[.int .i64 pg.p.1,.int .i64 pg.p.2.1,.slice pg.A pg.p.2.2.length pg.c]] w (qp sb db S n pg fp w):=by
 have st1:St w fp [eSt sb db S fp] w:=St.lend hB (dv _ _ _ _) hlt
 go_enter Tryz.func58,Tryz.ntmps58
 have aj:=st1
 refine wq (sqr ?_)
 refine b9 #[vi pg.p.1,vi pg.p.2.1,.slice pg.A pg.p.2.2.length pg.c] aj fun s9 W1 ay=>?_
 refine sqp [.k 6 (vi 0)] ?_
 refine aa (wq (sqr (sqp [.m 10 0,.m 11 1] ?_)))
 refine xi (fun x_=>tE x_) (fun x_=>tF x_) (fun X_=>X_.fp) (fun er12_5 vp12_5=> .tuple #[vp12_5,vi er12_5]) (fun er12_5 vp12_5 qL=>eSx sb db (fun S2=>LdQ S n S2 er12_5 vp12_5) qL) 0 ay (by
   refine svA fun o a W X cx=>?_
   refine am.call (au (args:=#[vp sb,vi n]) rfl cx.sees rfl (by kernel_rfl) (aM (cx.ou 10) (cx.ou 11))) ?_
   refine(nu sb db S n c _ _ (CtxV.holdF cx (cx.init 0 _ rfl) rfl) (CtxV.ltF cx (cx.init 0 _ rfl) rfl) hok hc hkn).mono ?_
   rintro e W1 ⟨er4,vp4,rfl,fp4,aT⟩
   refine⟨_,rfl,aK (E:=eSt sb db S fp) [eSx sb db (fun S2=>LdQ S n S2 er4 vp4) fp4] (cx.init 0 _ rfl) rfl rfl aT (fun d g X' hs hb hv hN=>?_)⟩
   have aJ:=(hv 12 rfl).1;have aV:=(hv 12 rfl).2
   exact⟨aJ.trans (by rw[aV];exact rfl),(by rw[aV];exact fS ((List.cons.inj hN).1))⟩) fun er12_5 vp12_5 qL W5 aR=>?_
 refine sqp [.m 9 12,.k 13 (vp12_5),.k 14 (vi er12_5),.m 7 13,.m 8 14] ?_
 refine aa (wq (wq ?_))
 obtain⟨S1,hL,hy11_⟩:=aR.unx
 have hok1:=hok.load hL.1
 refine sqr (sqp [.m 15 8,.k 16 (.bool (er12_5==0))] ?_)
 refine aa (wbs (fun gP=>?_) fun gP=>?_)
 have py:=beq_iff_eq.1 gP
 obtain⟨t,htm_t,rfl,rfl⟩:=hL.2 (by simpa using gP)
 obtain⟨⟨hrw1,hrr1⟩,mb1,RA1,rc1,EA1,ec1,ib1,tb1,fpd1,hv15_⟩:=hy11_.unf
 obtain⟨A,B,hAB⟩:=List.append_of_mem htm_t
 have hnd:((A++t::B).map BfT.n).Nodup:=by rw[<-hAB];exact hok1.nodup
 rw[hAB] at hv15_
 have ho16_:=St.obf (t:=t) hv15_.u2
 refine sqr (sqp [.m 17 7,.m 18 7] ?_)
 refine bI 11 3 ho16_ ?_
 refine sqp [.k 20 (po t.blk 0),.k 21 (po t.blk 0)] ?_
 refine aX (n:=3) 1 #[vi pg.p.1,vi pg.p.2.1,.slice pg.A pg.p.2.2.length pg.c,.bool t.dirty,vi t.used] ho16_ fun wZ dF=>?_
 refine sqp [.k 22 (po t.blk 0),.k 23 (po t.blk 3)] ?_
 refine aX (n:=1) 1 #[vi pg.p.1,vi pg.p.2.1,.slice pg.A pg.p.2.2.length pg.c,.bool true,vi t.used] dF fun wV dP=>?_
 refine aa (wq (sqr (sqp [.m 24 8,.m 6 24] ?_)))
 refine aa (wp_ret ?_)
 refine bpr (vi er12_5) (ag Tryz.results58 rpt) ?_
 have hi28_:=St.ibf (t:=(gz pg t)) dP
 obtain⟨fp29_,hk29_⟩:=St.stf (S:={S1 with pool:=A++gz pg t::B}) (by have h_:=hi28_.u10.c0.u2.u2;rw[<-nZ (A:=A) (B:=B) (t:=t) (u:=gz pg t) rfl rfl,show (A++t::B).length=(A++gz pg t::B).length by simp] at h_;exact h_) (fun u hu=>(List.mem_append.1 hu).elim (fun h=>hrw1 u (by rw[hAB];simp[h])) fun h=>(List.mem_cons.1 h).elim (fun h=>by rw[h];exact hL.1.rows.1 pg hpg) fun h=>hrw1 u (by rw[hAB];simp[h])) (hrr1)
 exact qp.of ⟨S1,hL.1,.inr ⟨by simpa using gP,⟨t,htm_t,rfl⟩,by rw[hAB,ks hnd]⟩⟩ hk29_
 have py:=beq_eq_false_iff_ne.1 gP
 refine wp_skip (aa (wq (sqr (sqp [.m 24 8,.m 6 24] ?_))))
 refine aa (wp_ret ?_)
 refine bpr (vi er12_5) (ag Tryz.results58 rpt) ?_
 exact qp.of ⟨S1,hL.1,.inl ⟨by simpa using gP,rfl⟩⟩ (hy11_.pick [0] (by decide) rfl)
end
section
open Go.RowKit
theorem Hh(hd:(l.map BfT.n).Nodup)(ht:t∈l):l.find? (fun u=>u.n==t.n)=some t:=by
 obtain⟨A,B,rfl⟩:=List.append_of_mem ht
 rw[List.map_append,List.map_cons] at hd
 have h1:A.find? (fun u=>u.n==t.n)=none:=by
  rw[List.find?_eq_none]
  intro u hu hc
  exact(List.nodup_append.1 hd).2.2 u.n (List.mem_map.2 ⟨u,hu,rfl⟩) t.n (by simp) (by simpa using hc)
 rw[List.find?_append,h1]
 simp
theorem dz(hd:(S.pool.map BfT.n).Nodup)(ht:t∈S.pool):aF S t.n=t.pg.p:=by
 rw[aF,Hh hd ht]
theorem ir{S:StM}{m:Int}(h:∀t∈S.pool,t.n≠m):aF S m=shP S.D m:=by
 rw[aF,List.find?_eq_none.2 (fun t ht=>by simpa using h t ht)]
theorem FT(L:List RecM){a:Nat}(h:a<=b):flN L a<=flN L b:=by
 unfold flN
 refine List.countP_mono_left fun x _ hx=>?_
 simp only[decide_eq_true_eq] at hx |-
 omega
structure Ev (S S':StM):Prop where
 bufs:S'.bufs=S.bufs
 recs:S'.recs=S.recs
 frm:S'.frm=S.frm
 im:S'.im=S.im
 told:S'.told=S.told
 rows:∀r∈S.rows,r∈S'.rows
 log:S'.D.log=S.D.log
 len:S'.D.pgs.length=S.D.pgs.length
 fl:S'.D.fl=S.D.fl\/S'.D.fl=S.D.log.size
 armed:S'.D.armed=S.D.armed
 off:S.D.off=true->S'.D.off=true
 noarm:S.D.armed=false->S'.D.off=S.D.off
 pgs:∀(j:Nat) x y,S.D.pgs[j]? =some x->S'.D.pgs[j]? =some y->y.safe=x.safe/\∃zs,y.ws=x.ws++zs/\∀z∈zs,z.1=aH (aF S (j:Int))/\((aF S (j:Int)).2.1<=(S'.F:Int)\/S'.D.fl=S'.D.log.size)
 cur:∀m:Int,0<=m->aF S' m=aF S m
theorem Ev.refl(S:StM):Ev S S:=⟨rfl,rfl,rfl,rfl,rfl,fun r h=>h,rfl,rfl,.inl rfl,rfl,id,fun _=>rfl,fun j x y hx hy=>by rw[hx] at hy;cases hy;exact⟨rfl,[],by simp,fun z hz=>by cases hz⟩,fun m _=>rfl⟩
theorem Ev.flm(h:Ev S S')(hf:S.D.fl<=S.D.log.size):S.D.fl<=S'.D.fl:=by
 rcases h.fl with e|e<;>omega
theorem Ev.Fm(h:Ev S S')(hf:S.D.fl<=S.D.log.size):S.F<=S'.F:=by
 have e:S'.L=S.L:=by rw[StM.L,h.recs]
 rw[StM.F,StM.F,e]
 exact FT _ (h.flm hf)
theorem Ev.trans{A B C:StM}(h:Ev A B)(g:Ev B C)(hf:A.D.fl<=A.D.log.size):Ev A C:=by
 have hfB:B.D.fl<=B.D.log.size:=by rw[h.log];rcases h.fl with e|e<;>omega
 refine⟨g.bufs.trans h.bufs,g.recs.trans h.recs,g.frm.trans h.frm,g.im.trans h.im,g.told.trans h.told,fun r hr=>g.rows r (h.rows r hr),g.log.trans h.log,g.len.trans h.len,?_,g.armed.trans h.armed,fun ho=>g.off (h.off ho),fun ha=>(g.noarm (h.armed.trans ha)).trans (h.noarm ha),fun j x y hx hy=>?_,fun m hm=>(g.cur m hm).trans (h.cur m hm)⟩
 rcases g.fl with e|e
 rw[e];exact h.fl
 exact .inr (e.trans (by rw[h.log]))
 obtain⟨z,hz⟩:∃z,B.D.pgs[j]? =some z:=⟨_,List.getElem?_eq_getElem (by rw[h.len];exact(List.getElem?_eq_some_iff.1 hx).1)⟩
 obtain⟨h1,zs,h2,h3⟩:=h.pgs j x z hx hz
 obtain⟨g1,ys,g2,g3⟩:=g.pgs j z y hz hy
 have hFm:=g.Fm hfB
 refine⟨g1.trans h1,zs++ys,by rw[g2,h2,List.append_assoc],fun v hv=>?_⟩
 rcases List.mem_append.1 hv with hv|hv
 obtain⟨a,b⟩:=h3 v hv
 refine⟨a,b.imp (fun b=>by omega) fun b=>?_⟩
 rcases g.fl with e|e
 rw[e,b,g.log]
 rw[e,g.log]
 obtain⟨a,b⟩:=g3 v hv
 rw[h.cur (j:Int) (by omega)] at a b
 exact⟨a,b⟩
theorem mR(D:DkM):(D.off=true/\opD D 0 flD=(D,24))\/(D.off=false/\D.armed=true/\opD D 0 flD=({D with off:=true},24))\/(D.off=false/\opD D 0 flD=(flD {D with left:=cS D.left},0)):=by
 unfold opD
 split
 rename_i h;exact .inl ⟨h,rfl⟩
 rename_i h
 rw[if_neg (by decide)]
 split
 rename_i h2;exact .inr (.inl ⟨by simpa using h,h2.1,rfl⟩)
 exact .inr (.inr ⟨by simpa using h,rfl⟩)
theorem Ev.disk(hp:D.pgs=S.D.pgs)(hl:D.log=S.D.log)(hf:D.fl=S.D.fl\/D.fl=S.D.log.size)(ha:D.armed=S.D.armed)(ho:S.D.off=true->D.off=true)(hn:S.D.armed=false->D.off=S.D.off):Ev S {S with D:=D}:=by
 refine⟨rfl,rfl,rfl,rfl,rfl,fun r h=>h,hl,by show D.pgs.length= _;rw[hp],hf,ha,ho,hn,fun j x y hx hy=>?_,fun m _=>?_⟩
 have hy:D.pgs[j]? =some y:=hy
 rw[hp,hx] at hy;cases hy;exact⟨rfl,[],by simp,fun z hz=>by cases hz⟩
 show aF {S with D:=D} m=aF S m
 rw[aF,aF,hH hp]
theorem Ev.wrD0(S:StM)(t:BfT):Ev S {S with D:=(wrD0 S t).1}/\((wrD0 S t).2=0->(t.pg.p.2.1<=(flN S.L (wrD0 S t).1.fl:Int)\/(wrD0 S t).1.fl=(wrD0 S t).1.log.size))/\((wrD0 S t).2≠0->(wrD0 S t).1.off=true):=by
 unfold Go.Proofs.YtcdjaepgahbhfaaGreat.wrD0
 split
 rename_i hlt
 rcases mR S.D with ⟨h1,h2⟩|⟨h1,h2,h3⟩|⟨h1,h2⟩
 rw[h2];exact⟨Ev.refl S,(fun h=>by cases h),fun _=>h1⟩
 rw[h3];exact⟨Ev.disk rfl rfl (.inl rfl) rfl (fun _=>rfl) (fun h=>by rw[h2] at h;cases h),(fun h=>by cases h),fun _=>rfl⟩
 rw[h2];exact⟨Ev.disk rfl rfl (.inr rfl) rfl (fun h=>by rw[h1] at h;cases h) (fun _=>rfl),fun _=> .inr rfl,fun h=>absurd rfl h⟩
 rename_i hlt
 exact⟨Ev.refl S,fun _=> .inl (Int.not_lt.1 hlt),fun h=>absurd rfl h⟩
theorem vV(D:DkM)(n:Int)(s:ByteArray)(hn:0<=n/\n<(D.pgs.length:Int))(hs:s.size=512):(D.off=true/\opD D (wrE D n s) (wrD n s)=(D,24))\/(D.off=false/\D.armed=true/\opD D (wrE D n s) (wrD n s)=({D with off:=true},24))\/(D.off=false/\opD D (wrE D n s) (wrD n s)=(jE n.toNat ⟨s,hs⟩ {D with left:=cS D.left},0)):=by
 have he:wrE D n s=0:=by rw[wrE,if_pos hn,if_pos hs]
 have hw:∀D':DkM,wrD n s D'=jE n.toNat ⟨s,hs⟩ D':=fun D'=>by rw[wrD,dif_pos hs]
 unfold opD
 rw[he]
 split
 rename_i h;exact .inl ⟨h,rfl⟩
 rename_i h
 rw[if_neg (by decide)]
 split
 rename_i h2;exact .inr (.inl ⟨by simpa using h,h2.1,rfl⟩)
 exact .inr (.inr ⟨by simpa using h,by rw[hw]⟩)
theorem Ev.write(h:SOk S c)(ht:t∈S.pool):Ev S (bN S t).1/\((bN S t).2≠0->(bN S t).1.D.off=true):=by
 obtain⟨h1,h2,h3⟩:=Ev.wrD0 S t
 have hr:=h.right t ht
 have hpg:=(ra S t).2
 unfold bN
 split
 rename_i he;exact⟨h1,fun _=>h3 he⟩
 rename_i he
 have he:(Go.Proofs.YtcdjaepgahbhfaaGreat.wrD0 S t).2=0:=by simpa using he
 dsimp only
 have hn:0<=t.n/\t.n<((Go.Proofs.YtcdjaepgahbhfaaGreat.wrD0 S t).1.pgs.length:Int):=by rw[hpg];exact h.keys t ht
 obtain⟨D1,hD1⟩:∃z,(Go.Proofs.YtcdjaepgahbhfaaGreat.wrD0 S t).1=z:=⟨_,rfl⟩
 rw[hD1] at h1 h2 hpg hn |-
 rcases vV D1 t.n (aH t.pg.p) hn (dD hr) with ⟨a1,a2⟩|⟨a1,a2,a3⟩|⟨a1,a2⟩
 rw[a2];exact⟨h1,fun _=>a1⟩
 rw[a3]
 refine⟨h1.trans (Ev.disk (S:={S with D:=D1}) rfl rfl (.inl rfl) rfl (fun _=>rfl) (fun hh=>by have hh:D1.armed=false:=hh;rw[a2] at hh;cases hh)) h.fl,fun _=>rfl⟩
 rw[a2,if_pos rfl]
 refine⟨?_,fun hh=>absurd rfl hh⟩
 refine h1.trans (B:={S with D:=D1}) ?_ h.fl
 have hcur:∀m:Int,0<=m->aF {S with D:=jE t.n.toNat ⟨aH t.pg.p,dD hr⟩ {D1 with left:=cS D1.left},pool:=da S.pool t.n clB} m=aF {S with D:=D1} m:=fun m hm=>by
  by_cases hmem:∃u∈S.pool,u.n=m
  obtain⟨u,hu,rfl⟩:=hmem
  have hd2:((da S.pool t.n clB).map BfT.n).Nodup:=by rw[uq (f:=clB) (fun _=>rfl)];exact h.nodup
  rw[dz (S:={S with D:=D1}) h.nodup hu]
  by_cases e:u.n=t.n
  have hu2:clB u∈da S.pool t.n clB:=List.mem_map.2 ⟨u,hu,by rw[if_pos e]⟩
  have h9:=dz (S:={S with D:=jE t.n.toNat ⟨aH t.pg.p,dD hr⟩ {D1 with left:=cS D1.left},pool:=da S.pool t.n clB}) (t:=clB u) hd2 hu2
  exact h9
  have hu2:u∈da S.pool t.n clB:=List.mem_map.2 ⟨u,hu,by rw[if_neg e]⟩
  exact dz (S:={S with D:=jE t.n.toNat ⟨aH t.pg.p,dD hr⟩ {D1 with left:=cS D1.left},pool:=da S.pool t.n clB}) hd2 hu2
  have hno:∀u∈S.pool,u.n≠m:=fun u hu e=>hmem ⟨u,hu,e⟩
  rw[ir (S:={S with D:=D1}) hno,ir (S:={S with D:=jE t.n.toNat ⟨aH t.pg.p,dD hr⟩ {D1 with left:=cS D1.left},pool:=da S.pool t.n clB}) (fun u hu=>by
   obtain⟨v,hv,rfl|rfl⟩:=mD hu
   exact hno v hv
   exact hno _ hv)]
  rw[xY (D:={D1 with left:=cS D1.left}) hn hm,if_neg (fun e=>hno t ht e.symm)]
  exact hH rfl m
 refine⟨rfl,rfl,rfl,rfl,rfl,fun r hh=>hh,rfl,List.length_set,.inl rfl,rfl,(fun hh=>by have hh:D1.off=true:=hh;rw[a1] at hh;cases hh),fun _=>rfl,fun j x y hx hy=>?_,hcur⟩
 have hy:(D1.pgs.set t.n.toNat _)[j]? =some y:=hy
 have hx:D1.pgs[j]? =some x:=hx
 by_cases e:j=t.n.toNat
 subst e
 rw[List.getElem?_set_self (List.getElem?_eq_some_iff.1 hx).1] at hy
 cases hy
 have hg:D1.pgs.getD t.n.toNat gL=x:=by rw[List.getD_eq_getElem?_getD,hx];rfl
 refine⟨by show (D1.pgs.getD t.n.toNat gL).safe= _;rw[hg],[⟨aH t.pg.p,dD hr⟩],by show (D1.pgs.getD t.n.toNat gL).ws++ _= _;rw[hg],fun z hz=>?_⟩
 rw[List.mem_singleton.1 hz]
 have hc:=dz (S:={S with D:=D1}) h.nodup ht
 rw[show ((t.n.toNat:Nat):Int)=t.n by omega,hc]
 exact⟨rfl,h2 he⟩
 rw[List.getElem?_set_ne (by omega),hx] at hy
 cases hy
 exact⟨rfl,[],by simp,fun z hz=>by cases hz⟩
theorem Ev.clean(h:SOk S c)(ht:t∈S.pool):Ev S (aL S t).1/\((aL S t).2≠0->(aL S t).1.D.off=true):=by
 unfold aL
 split
 exact Ev.write h ht
 exact⟨Ev.refl S,fun hh=>absurd rfl hh⟩
theorem Ev.rm{S:StM}(hd:(S.pool.map BfT.n).Nodup)(hn:∀t∈S.pool,t.n=n->t.pg.p=shP S.D n):Ev S {S with pool:=rmB S.pool n}:=by
 have hd2:((rmB S.pool n).map BfT.n).Nodup:=hd.sublist ((vr S.pool n).map _)
 refine⟨rfl,rfl,rfl,rfl,rfl,fun r h=>h,rfl,rfl,.inl rfl,rfl,id,fun _=>rfl,fun j x y hx hy=>by have hy:S.D.pgs[j]? =some y:=hy;rw[hx] at hy;cases hy;exact⟨rfl,[],by simp,fun z hz=>by cases hz⟩,fun m _=>?_⟩
 by_cases hm:m=n
 subst hm
 rw[ir (S:={S with pool:=rmB S.pool m}) (fun u hu=>(mq hu).2)]
 by_cases hmem:∃u∈S.pool,u.n=m
 obtain⟨u,hu,rfl⟩:=hmem
 rw[dz hd hu];exact(hn u hu rfl).symm
 rw[ir (fun u hu e=>hmem ⟨u,hu,e⟩)]
 by_cases hmem:∃u∈S.pool,u.n=m
 obtain⟨u,hu,rfl⟩:=hmem
 rw[dz hd hu]
 exact dz (S:={S with pool:=rmB S.pool n}) hd2 (show u∈rmB S.pool n from List.mem_filter.2 ⟨hu,by simpa using hm⟩)
 rw[ir (fun u hu e=>hmem ⟨u,hu,e⟩),ir (S:={S with pool:=rmB S.pool n}) (fun u hu e=>hmem ⟨u,(mq hu).1,e⟩)]
theorem Hx{S:StM}(h:SOk S c){t:BfT}(ht:t∈S.pool)(h0:(aL S t).2=0):∀u∈(aL S t).1.pool,u.n=t.n->u.pg.p=shP (aL S t).1.D t.n:=fun u hu e=>by
 have hok:=h.clean t ht
 have hev:=(Ev.clean h ht).1
 have hr:=h.right t ht
 have h1:=dz hok.nodup hu
 rw[e,hev.cur t.n (h.keys t ht).1,dz h.nodup ht] at h1
 rw[<-h1]
 unfold aL at h0 |-
 split
 rename_i hd
 rw[if_pos hd] at h0
 exact(rW hr h0).1.symm
 rename_i hd
 exact h.cl t ht (by simpa using hd)
theorem Ev.evict(h:SOk S c)(ht:S.bufs<=(S.pool.length:Int)->t∈S.pool):Ev S (bv S t).1/\((bv S t).2≠0->(bv S t).1.D.off=true):=by
 unfold bv
 split
 rename_i hb
 have hc:=Ev.clean h (ht hb)
 split
 rename_i he;exact⟨hc.1,fun _=>hc.2 he⟩
 rename_i he
 have he:(aL S t).2=0:=by simpa using he
 exact⟨hc.1.trans (Ev.rm (h.clean t (ht hb)).nodup (Hx h (ht hb) he)) h.fl,fun hh=>absurd rfl hh⟩
 exact⟨Ev.refl S,fun hh=>absurd rfl hh⟩
theorem Ev.tick(S:StM):Ev S (Go.Proofs.YtcdjaepgahbhfaaGreat.tick S):=⟨rfl,rfl,rfl,rfl,rfl,fun r h=>h,rfl,rfl,.inl rfl,rfl,id,fun _=>rfl,fun j x y hx hy=>by have hy:S.D.pgs[j]? =some y:=hy;rw[hx] at hy;cases hy;exact⟨rfl,[],by simp,fun z hz=>by cases hz⟩,fun m _=>rfl⟩
theorem pQ{S:StM}{f:BfT->BfT}(hd:(S.pool.map BfT.n).Nodup)(hn:∀t,(f t).n=t.n)(m:Int):aF {S with pool:=da S.pool n f} m=aF S m\/∃t∈S.pool,t.n=n/\m=n/\aF {S with pool:=da S.pool n f} m=(f t).pg.p:=by
 have hd2:((da S.pool n f).map BfT.n).Nodup:=by rw[uq hn];exact hd
 by_cases hmem:∃u∈S.pool,u.n=m
 obtain⟨u,hu,rfl⟩:=hmem
 by_cases e:u.n=n
 refine .inr ⟨u,hu,e,e,?_⟩
 have h1:=dz (S:={S with pool:=da S.pool n f}) hd2 (t:=f u) (List.mem_map.2 ⟨u,hu,by rw[if_pos e]⟩)
 rw[hn] at h1;exact h1
 refine .inl ?_
 rw[dz hd hu]
 exact dz (S:={S with pool:=da S.pool n f}) hd2 (List.mem_map.2 ⟨u,hu,by rw[if_neg e]⟩)
 refine .inl ?_
 rw[ir (fun u hu e=>hmem ⟨u,hu,e⟩),ir (S:={S with pool:=da S.pool n f}) (fun u hu=>by
  obtain⟨v,hv,rfl|rfl⟩:=mD hu
  rw[hn];exact fun e=>hmem ⟨v,hv,e⟩
  exact fun e=>hmem ⟨_,hv,e⟩)]
theorem Ev.load{S':StM}(h:SOk S c)(hl:LdR S n S' er):Ev S S'/\(er≠0->S'.D.off=true\/¬(0<=n/\n<(S.D.pgs.length:Int)))/\(er=0->(0<=n/\n<(S.D.pgs.length:Int))/\∃t∈S'.pool,t.n=n/\t.pg.p=aF S n):=by
 have hS':=h.load hl
 have key:Ev S S'->(∃t∈S'.pool,t.n=n)->0<=n->∃t∈S'.pool,t.n=n/\t.pg.p=aF S n:=fun hev ⟨t,ht,e⟩ h0=>⟨t,ht,e,by
  have h1:=dz hS'.nodup ht
  rw[e,hev.cur n h0] at h1;exact h1.symm⟩
 cases hl with
 |hit t ht hn=>
  have h0:0<=n/\n<(S.D.pgs.length:Int):=by rw[<-hn];exact h.keys t ht
  have hev:Ev S {Go.Proofs.YtcdjaepgahbhfaaGreat.tick S with pool:=da S.pool n (lL (S.time+1))}:=by
   refine⟨rfl,rfl,rfl,rfl,rfl,fun r h=>h,rfl,rfl,.inl rfl,rfl,id,fun _=>rfl,fun j x y hx hy=>by have hy:S.D.pgs[j]? =some y:=hy;rw[hx] at hy;cases hy;exact⟨rfl,[],by simp,fun z hz=>by cases hz⟩,fun m hm=>?_⟩
   rcases pQ (S:=Go.Proofs.YtcdjaepgahbhfaaGreat.tick S) (n:=n) (f:=lL (S.time+1)) h.nodup (fun _=>rfl) m with e|⟨u,hu,e1,e2,e3⟩
   exact e
   subst e2
   refine e3.trans ?_
   have h5:=dz h.nodup hu
   rw[e1] at h5;exact h5.symm
  exact⟨hev,fun hh=>absurd rfl hh,fun _=>⟨h0,key hev ⟨lL (S.time+1) t,List.mem_map.2 ⟨t,ht,by rw[if_pos hn]⟩,hn⟩ h0.1⟩⟩
 |bad h1 h2=>
  refine⟨Ev.tick S,fun _=>?_,fun hh=>absurd hh h2⟩
  unfold rdS at h2
  split at h2
  rename_i ho;exact .inl ho
  split at h2
  exact absurd rfl h2
  rename_i hr;exact .inr hr
 |new t blk A cc h1 h2 h3=>
  have hr:=vL h2
  have he:=Ev.evict h.tick h3
  have hev0:=(Ev.tick S).trans he.1 h.fl
  unfold jU at hS' key |-
  split
  rename_i h4
  rw[if_pos h4] at hS'
  exact⟨hev0,fun _=> .inl (he.2 h4),fun hh=>absurd hh h4⟩
  rename_i h4
  rw[if_neg h4] at hS' key
  dsimp only at hS' key |-
  have hev:Ev S {(bv (Go.Proofs.YtcdjaepgahbhfaaGreat.tick S) t).1 with pool:=(bv (Go.Proofs.YtcdjaepgahbhfaaGreat.tick S) t).1.pool++[⟨n,blk,⟨rdP (rdS (Go.Proofs.YtcdjaepgahbhfaaGreat.tick S).D n).1,A,cc⟩,false,(Go.Proofs.YtcdjaepgahbhfaaGreat.tick S).time⟩],rows:=(bv (Go.Proofs.YtcdjaepgahbhfaaGreat.tick S) t).1.rows++[⟨rdP (rdS (Go.Proofs.YtcdjaepgahbhfaaGreat.tick S).D n).1,A,cc⟩]}:=by
   refine⟨hev0.bufs,hev0.recs,hev0.frm,hev0.im,hev0.told,fun r hh=>List.mem_append_left _ (hev0.rows r hh),hev0.log,hev0.len,hev0.fl,hev0.armed,hev0.off,hev0.noarm,hev0.pgs,fun m hm=>?_⟩
   have hk:=pd (S:=Go.Proofs.YtcdjaepgahbhfaaGreat.tick S) (t:=t) h1
   by_cases e:m=n
   subst e
   have h7:=dz hS'.nodup (t:=⟨m,blk,⟨rdP (rdS (Go.Proofs.YtcdjaepgahbhfaaGreat.tick S).D m).1,A,cc⟩,false,(Go.Proofs.YtcdjaepgahbhfaaGreat.tick S).time⟩) (by simp)
   refine h7.trans ?_
   show rdP (rdS S.D m).1=aF S m
   rw[ir h1,DR h2];rfl
   have h9:=hev0.cur m hm
   rw[<-h9]
   rw[aF,aF,List.find?_append,List.find?_cons]
   have:(n==m)=false:=by simpa using fun h2=>e h2.symm
   dsimp only
   rw[this]
   cases (bv (Go.Proofs.YtcdjaepgahbhfaaGreat.tick S) t).1.pool.find? (fun t=>t.n==m)<;>rfl
  exact⟨hev,fun hh=>absurd rfl hh,fun _=>⟨hr,key hev ⟨_,List.mem_append_right _ (List.mem_singleton.2 rfl),rfl⟩ hr.1⟩⟩
end
section
open Go.RowKit
theorem Tryz.infoStrJ:(Tryz.prog.info? 9).map (fun i=>(i.zero,i.size,i.bytes))=some (some (.string ⟨#[]⟩),1,16):=by kernel_rfl
theorem AQ{xs:List Value}(h:At w none xs):xs=[]:=by
 cases xs with
 |nil=>rfl
 |cons x xs=>obtain⟨a,h1,_⟩:=h.get (k:=0) (by simp);cases h1
def EU(I:List ByteArray)(w:World)(e:Ending)(w':World):Prop:=∃A c,e= .returned (.slice A I.length c)/\St w [] [eO 9 1 (.slice A I.length c) I.length (I.map Value.string)] w'
def Lz(p:PgS)(w:World)(e:Ending)(w':World):Prop:=∃A c,e= .returned (.agg #[.int .i64 p.1,.int .i64 p.2.1,.slice A p.2.2.length c])/\St w [] [eO 9 1 (.slice A p.2.2.length c) p.2.2.length (p.2.2.map Value.string)] w'
noncomputable def pgF(S:StM)(n:Int)(ok:Bool):PgS:=if ok=true then aF S n else bw
def PaQ(S:StM)(n:Int)(S2:StM)(ok:Bool):Prop:=∃er:Int,LdR S n S2 er/\ok=(er==0)
def mG(sb db:Nat)(S:StM)(n:Int)(fp:List Nat)(w:World)(e:Ending)(w':World):Prop:=∃ok A c,e= .returned (.tuple #[.agg #[.int .i64 (pgF S n ok).1,.int .i64 (pgF S n ok).2.1,.slice A (pgF S n ok).2.2.length c],.bool ok])/\
 ∃fp',St w fp [eSx sb db (fun S2=>PaQ S n S2 ok) fp',eO 9 1 (.slice A (pgF S n ok).2.2.length c) (pgF S n ok).2.2.length ((pgF S n ok).2.2.map Value.string)] w'
theorem mG.no(h:LdR S n S2 er)(he:er≠0)(hs:St w fp ([]++[eSt sb db S2 fp']) w'):mG sb db S n fp w (.returned (.tuple #[.agg #[.int .i64 0,.int .i64 0,sn],.bool false])) w':=by
 have h1:=St.sx (L:=[]) (Φ:=fun S2=>PaQ S n S2 false) hs ⟨er,h,by symm;simpa using he⟩
 have h2:=fi h1 9 1
 exact⟨false,none,0,rfl,fp',h2⟩
theorem mG.yes{A:Option Addr}(h:LdR S n S2 0)(hp:p=aF S n)(hs:St w fp ([eO 9 1 (.slice A p.2.2.length c) p.2.2.length (p.2.2.map Value.string)]++[eSt sb db S2 fp']) w'):mG sb db S n fp w (.returned (.tuple #[.agg #[.int .i64 p.1,.int .i64 p.2.1,.slice A p.2.2.length c],.bool true])) w':=by
 subst hp
 have h1:=St.sx (Φ:=fun S2=>PaQ S n S2 true) hs ⟨0,h,rfl⟩
 exact⟨true,A,c,rfl,fp',h1.pk [1,0]⟩
def WrQ(S:StM)(n:Int)(S2:StM)(er:Int):Prop:=∃S1 er1,LdR S n S1 er1/\((er1≠0/\S2=S1/\er=er1)\/(er1=0/\∃t∈S1.pool,t.n=n/\bN S1 t=(S2,er)))
def p7(sb db:Nat)(S:StM)(n:Int)(fp:List Nat)(w:World)(e:Ending)(w':World):Prop:=∃er,e= .returned (.int .i64 er)/\∃fp',St w fp [eSx sb db (fun S2=>WrQ S n S2 er) fp'] w'
theorem p7.of(h:WrQ S n S2 er)(hs:St w fp ([]++[eSt sb db S2 fp']) w'):p7 sb db S n fp w (.returned (.int .i64 er)) w':=⟨er,rfl,fp',St.sx (L:=[]) hs h⟩
theorem AY(h:LdR S n S2 er)(h0:er=0):LdR S n S2 0:=h0 ▸ h
theorem LB{A:Option Addr}{I:List ByteArray}(hA:At w A (I.map Value.string))(h:A=none)(hs:St w [] [eO 9 1 (sn) 0 []] w'):EU I w (.returned (sn)) w':=by
 subst h
 have h1:=AQ hA
 obtain rfl:I=[]:=by simpa using h1
 exact⟨none,0,rfl,hs⟩
theorem J7(A:Option Addr)(c:Nat)(I:List ByteArray)(w:World)(hA:At w A (I.map Value.string))(hI:I.length<=100000):
  Calls Tryz.prog 134 #[.slice A I.length c] w (EU I w):=by
 go_enter Tryz.func134,Tryz.ntmps134
 have aj:=St.start w
 refine wq (sqr (sqp [.k 2 (sn)] ?_))
 refine aa (wq (wq (sqr (sqp [.m 3 0,.k 4 (.bool A.isNone)] ?_))))
 refine aa (wbs (fun aT=>?_) fun aT=>?_)
 refine wq (sqr (sqp [.k 2 (sn)] ?_))
 refine aa (wp_ret (ai ?_))
 refine bpr (sn) (ag Tryz.results134 rpt) ?_
 have hn6:=St.nilrow aj 9
 simp only[List.cons_append,List.nil_append] at hn6
 exact LB hA (by simpa using aT) hn6
 refine wp_skip (aa (wq (sqr ?_)))
 refine ea (fun x_=>sA x_) (fun CO=> .slice CO 0 0) (fun CO=>eO 9 1 (.slice CO 0 0) 0 ([])) aj (by
   refine svA fun d a W X cx=>?_
   exact dy (e:=9) (xs:=[]) rfl (by simp[go_sem]) rfl (by decide) rfl rfl (fun _ _ _ _ _=> .intro)) fun CO W7 aQ=>?_
 refine sqp [.m 6 0] ?_
 refine sk (fun x_=>sA x_) (fun x_=>sC x_) (fun td tf=> .slice td I.length tf) (fun td tf=>eO 9 1 (.slice td I.length tf) I.length (I.map Value.string)) 0 aQ (by
   refine svA fun d a W X cx=>?_
   obtain⟨i0,hi0,hz0,hz1,hz2⟩:=info_parts Tryz.infoStrJ
   refine fe (n:=0) (m:=I.length) (nm:=I.length) (xs:=[]) (news:=I.map Value.string) (xs':=I.map Value.string) rfl (ty:=46) rfl (by kernel_rfl) hi0 hz0 hz1 hz2 rfl (cx.ou 5) cx (cx.init 0 _ rfl) rfl (cx.ou 6) (by rw[List.length_map]) (hA.ext cx.upd.to_ext) (vN _) (by simp only[maxLen];omega) (by omega) rfl rfl rfl (by omega) (rfl) (fun g h X' hs hb hv hx=>?_)
   exact⟨hv,hx⟩) fun td tf W9 cv=>?_
 refine sqp [.m 2 7] ?_
 refine aa (wp_ret ?_)
 refine bpr (.slice td I.length tf) (ag Tryz.results134 rpt) ?_
 exact⟨_,_,rfl,cv.pick [0] (by decide) rfl⟩
theorem G1(PA:Option Addr)(pc:Nat)(p:PgS)(w:World)(hA:At w PA (p.2.2.map Value.string))(hI:p.2.2.length<=100000):
  Calls Tryz.prog 65 #[.agg #[.int .i64 p.1,.int .i64 p.2.1,.slice PA p.2.2.length pc]] w (Lz p w):=by
 go_enter Tryz.func65,Tryz.ntmps65
 have aj:=St.start w
 refine wq (sqr ?_)
 refine b9 #[vi p.1,vi p.2.1,.slice PA p.2.2.length pc] aj fun aA W1 ay=>?_
 refine b8 #[vi 0,vi 0,sn] ay fun kC W2 bu=>?_
 refine aa (wq (sqr (sqp [.k 3 (po aA 2)] ?_)))
 refine aq 0 bu ?_
 refine iE (fun th ti=> .slice th p.2.2.length ti) (fun th ti=>eO 9 1 (.slice th p.2.2.length ti) p.2.2.length (p.2.2.map Value.string)) bu (fun cx=>⟨_,(J7 PA pc p.2.2 _ (hA.ext cx.upd.to_ext) hI).mono (by rintro e W1 ⟨A4,c4,rfl,aT⟩;exact⟨_,_,rfl,aT⟩),(ax (cx.ou 4))⟩) fun th ti W5 aR=>?_
 refine sqp [.k 6 (po aA 2)] ?_
 refine aX (n:=1) 0 #[vi p.1,vi p.2.1,.slice th p.2.2.length ti] aR fun W7 aQ=>?_
 refine aa (wq (sqr ?_))
 refine bI 0 3 aQ ?_
 refine aX (n:=3) 1 #[vi p.1,vi p.2.1,.slice th p.2.2.length ti] aQ fun W9 cv=>?_
 refine aa (wp_ret ?_)
 refine bpr (.agg #[vi p.1,vi p.2.1,.slice th p.2.2.length ti]) (bG (n:=3) Tryz.results65 rfl (by kernel_rfl) (by kernel_rfl) (cv.blk 1 rfl) rfl) ?_
 exact⟨_,_,rfl,cv.pick [2] (by decide) rfl⟩
theorem qi(sb db:Nat)(S:StM)(n:Int)(c:Nat)(fp:List Nat)(w:World)(hB:(eSt sb db S fp).holds w)(hlt:∀k∈fp,k<w.heap.size)(hok:SOk S c)(hc:c<=800000000)(hkn:kcI.ok n):
  Calls Tryz.prog 21 #[po sb 0,.int .i64 n] w (mG sb db S n fp w):=by
 have st1:St w fp [eSt sb db S fp] w:=St.lend hB (dv _ _ _ _) hlt
 go_enter Tryz.func21,Tryz.ntmps21
 have aj:=st1
 refine wq (sqr (b8 #[vi 0,vi 0,sn] aj fun kD W1 ay=>?_))
 refine sqp [.k 5 (.bool false)] ?_
 refine aa (wq (wq (sqr (sqp [.m 8 0] ?_))))
 refine sqv (.bool false) ay (by
   exact sv0 rfl rfl rfl rfl rfl (fun _ _ _ h=>h) fun a d W X cx=>by
    have QT:a (.tmp 8)=vp sb:=(cx.ou 8)
    simp[go_sem,cx.sees.const,QT]) fun W4 bc=>?_
 refine aa (wcf rfl (wp_skip (aa (wq (sqr (sqp [.m 12 0,.m 13 1] ?_))))))
 refine xi (fun x_=>tE x_) (fun x_=>tF x_) (fun X_=>X_.fp) (fun er14_7 vp14_7=> .tuple #[vp14_7,vi er14_7]) (fun er14_7 vp14_7 Mw=>eSx sb db (fun S2=>LdQ S n S2 er14_7 vp14_7) Mw) 0 bc (by
   refine svA fun a d W X cx=>?_
   refine am.call (au (args:=#[vp sb,vi n]) rfl cx.sees rfl (by kernel_rfl) (aM (cx.ou 12) (cx.ou 13))) ?_
   refine(nu sb db S n c _ _ (CtxV.holdF cx (cx.init 0 _ rfl) rfl) (CtxV.ltF cx (cx.init 0 _ rfl) rfl) hok hc hkn).mono ?_
   rintro e W1 ⟨er4,vp4,rfl,fp4,aT⟩
   refine⟨_,rfl,aK (E:=eSt sb db S fp) [eSx sb db (fun S2=>LdQ S n S2 er4 vp4) fp4] (cx.init 0 _ rfl) rfl rfl aT (fun g o X' hs hb hv hN=>?_)⟩
   have aJ:=(hv 14 rfl).1;have aV:=(hv 14 rfl).2
   exact⟨aJ.trans (by rw[aV];exact rfl),(by rw[aV];exact fS ((List.cons.inj hN).1))⟩) fun er14_7 vp14_7 Mw W7 aQ=>?_
 refine sqp [.m 11 14,.k 15 (vp14_7),.k 16 (vi er14_7),.m 6 15,.m 7 16] ?_
 refine aa (wq (wq ?_))
 obtain⟨S1,hL,hy13_⟩:=aQ.unx
 have hok1:=hok.load hL.1
 refine sqr (sqp [.m 17 7,.k 18 (.bool (er14_7 != 0))] ?_)
 refine aa (wbs (fun dc=>?_) fun dc=>?_)
 have l9:=bne_iff_ne.1 dc
 refine wq (sqr (sqp [.k 19 (.agg #[vi 0,vi 0,sn])] ?_))
 refine aX (n:=3) 1 #[vi 0,vi 0,sn] hy13_ fun Mo ny=>?_
 refine sqp [.k 5 (.bool false)] ?_
 refine aa (wp_ret (ai ?_))
 refine bpr (.tuple #[.agg #[vi 0,vi 0,sn],.bool false]) (aO Tryz.results21 (rpa (ny.blk 1 rfl) 0 3) rpt) ?_
 exact mG.no hL.1 (by simpa using dc) (ny.pick [0] (by decide) rfl)
 have l9:=bne_eq_false_iff_eq.1 dc
 refine wp_skip (aa (wq ?_))
 obtain⟨t,htm_t,rfl,rfl⟩:=hL.2 (by simpa using dc)
 obtain⟨⟨hrw1,hrr1⟩,mb1,RA1,rc1,EA1,ec1,ib1,tb1,fpd1,hv20_⟩:=hy13_.unf
 obtain⟨A,B,hAB⟩:=List.append_of_mem htm_t
 have hri:=hok1.right t htm_t
 have hrp:=eh hri.1
 rw[hAB] at hv20_
 have ho21_:=St.obf (t:=t) hv20_.u2
 refine sqr (sqp [.m 20 6,.k 21 (po t.blk 0),.k 22 (po t.blk 0)] ?_)
 refine bI 1 3 ho21_ ?_
 refine iE (fun oA oB=> .agg #[vi t.pg.p.1,vi t.pg.p.2.1,.slice oA t.pg.p.2.2.length oB]) (fun oA oB=>eO 9 1 (.slice oA t.pg.p.2.2.length oB) t.pg.p.2.2.length (t.pg.p.2.2.map Value.string)) ho21_ (fun cx=>⟨_,(G1 _ _ t.pg.p _ (jd (CtxV.holdF cx (cx.init 4 _ rfl) rfl) (hrw1 t htm_t)) hrp.1).mono (by rintro e W1 ⟨A4,c4,rfl,aT⟩;exact⟨_,_,rfl,aT⟩),(ax (cx.ou 23))⟩) fun oA oB w3 fF=>?_
 refine aX (n:=3) 11 #[vi t.pg.p.1,vi t.pg.p.2.1,.slice oA t.pg.p.2.2.length oB] fF fun y6 e9=>?_
 refine sqp [.k 5 (.bool true)] ?_
 refine aa (wp_ret ?_)
 refine bpr (.tuple #[.agg #[vi t.pg.p.1,vi t.pg.p.2.1,.slice oA t.pg.p.2.2.length oB],.bool true]) (aO Tryz.results21 (rpa (e9.blk 11 rfl) 0 3) rpt) ?_
 have hi29_:=St.ibf (t:=t) e9
 obtain⟨fp30_,hk30_⟩:=St.stf (S:=S1) (by have h_:=hi29_.u10.c0.u2.u2;rw[<-hAB] at h_;exact h_) (hrw1) (hrr1)
 exact mG.yes (AY hL.1 (by simpa using dc)) (by have h_:=(Ev.load hok hL.1).1.cur t.n (hok1.keys t htm_t).1;rw[dz hok1.nodup htm_t] at h_;exact h_) hk30_.u1
theorem AB(sb db:Nat)(S:StM)(n:Int)(c:Nat)(fp:List Nat)(w:World)(hB:(eSt sb db S fp).holds w)(hlt:∀k∈fp,k<w.heap.size)(hok:SOk S c)(hc:c<=800000000)(hkn:kcI.ok n):
  Calls Tryz.prog 79 #[po sb 0,.int .i64 n] w (p7 sb db S n fp w):=by
 have st1:St w fp [eSt sb db S fp] w:=St.lend hB (dv _ _ _ _) hlt
 go_enter Tryz.func79,Tryz.ntmps79
 have aj:=st1
 refine wq (sqr (sqp [.k 4 (vi 0)] ?_))
 refine aa (wq (wq (sqr (sqp [.m 7 0] ?_))))
 refine sqv (.bool false) aj (by
   exact sv0 rfl rfl rfl rfl rfl (fun _ _ _ h=>h) fun a d W X cx=>by
    have Fu:a (.tmp 7)=vp sb:=(cx.ou 7)
    simp[go_sem,cx.sees.const,Fu]) fun W3 aW=>?_
 refine aa (wcf rfl (wp_skip (aa (wq (sqr (sqp [.m 10 0,.m 11 1] ?_))))))
 refine xi (fun x_=>tE x_) (fun x_=>tF x_) (fun X_=>X_.fp) (fun er12_6 vp12_6=> .tuple #[vp12_6,vi er12_6]) (fun er12_6 vp12_6 Ij=>eSx sb db (fun S2=>LdQ S n S2 er12_6 vp12_6) Ij) 0 aW (by
   refine svA fun a d W X cx=>?_
   refine am.call (au (args:=#[vp sb,vi n]) rfl cx.sees rfl (by kernel_rfl) (aM (cx.ou 10) (cx.ou 11))) ?_
   refine(nu sb db S n c _ _ (CtxV.holdF cx (cx.init 0 _ rfl) rfl) (CtxV.ltF cx (cx.init 0 _ rfl) rfl) hok hc hkn).mono ?_
   rintro e W1 ⟨er4,vp4,rfl,fp4,aT⟩
   refine⟨_,rfl,aK (E:=eSt sb db S fp) [eSx sb db (fun S2=>LdQ S n S2 er4 vp4) fp4] (cx.init 0 _ rfl) rfl rfl aT (fun g o X' hs hb hv hN=>?_)⟩
   have aJ:=(hv 12 rfl).1;have aV:=(hv 12 rfl).2
   exact⟨aJ.trans (by rw[aV];exact rfl),(by rw[aV];exact fS ((List.cons.inj hN).1))⟩) fun er12_6 vp12_6 Ij W6 bK=>?_
 refine sqp [.m 9 12,.k 13 (vp12_6),.k 14 (vi er12_6),.m 5 13,.m 6 14] ?_
 refine aa (wq (wq ?_))
 obtain⟨S1,hL,hy12_⟩:=bK.unx
 have hok1:=hok.load hL.1
 refine sqr (sqp [.m 15 6,.k 16 (.bool (er12_6 != 0))] ?_)
 refine aa (wbs (fun dH=>?_) fun dH=>?_)
 have kQ:=bne_iff_ne.1 dH
 refine wq (sqr (sqp [.m 17 6,.m 4 17] ?_))
 refine aa (wp_ret (ai ?_))
 refine bpr (vi er12_6) (ag Tryz.results79 rpt) ?_
 exact p7.of ⟨S1,_,hL.1,.inl ⟨by simpa using dH,rfl,rfl⟩⟩ (hy12_.pick [0] (by decide) rfl)
 have kQ:=bne_eq_false_iff_eq.1 dH
 refine wp_skip (aa (wq ?_))
 obtain⟨t,htm_t,rfl,rfl⟩:=hL.2 (by simpa using dH)
 obtain⟨A,B,hAB⟩:=List.append_of_mem htm_t
 refine sqr (sqp [.m 18 0,.m 19 1,.m 20 5] ?_)
 refine bM (fun X_=>X_.fp) (vi ((bN S1 t).2)) (fun uN=>eSt sb db ((bN S1 t).1) uN) 0 hy12_ (by
   refine svA fun a d W X cx=>?_
   refine am.call (au (args:=#[vp sb,vi t.n,po t.blk 0]) rfl cx.sees rfl (by kernel_rfl) (dL (cx.ou 18) (cx.ou 19) (cx.ou 20))) ?_
   refine(uk sb db S1 A B t (c+3) _ _ (CtxV.holdF cx (cx.init 0 _ rfl) rfl) (CtxV.ltF cx (cx.init 0 _ rfl) rfl) hok1 (by omega) hAB).mono ?_
   rintro e W1 ⟨rfl,fp4,aT⟩
   refine⟨_,rfl,aK (E:=eSt sb db S1 Ij) [eSt sb db (bN S1 t).1 fp4] (cx.init 0 _ rfl) rfl rfl aT (fun g o X' hs hb hv hN=>?_)⟩
   have aJ:=(hv 21 rfl).1;have aV:=(hv 21 rfl).2
   exact⟨aJ.trans rfl,gX ((List.cons.inj hN).1)⟩) fun uN r8 d8=>?_
 refine sqp [.m 4 21] ?_
 refine aa (wp_ret ?_)
 refine bpr (vi ((bN S1 t).2)) (ag Tryz.results79 rpt) ?_
 exact p7.of ⟨S1,_,hL.1,.inr ⟨by simpa using dH,t,htm_t,rfl,rfl⟩⟩ (d8.pick [0] (by decide) rfl)
theorem BM(sb db:Nat)(S:StM)(fp:List Nat)(w:World)(hB:(eSt sb db S fp).holds w)(hlt:∀k∈fp,k<w.heap.size)(hlz:S.D.log.size<=10000000):
  Calls Tryz.prog 27 #[po sb 0] w (d5 sb db ({S with D:=(opD S.D 0 flD).1},(opD S.D 0 flD).2) fp w):=by
 have st1:St w fp [eSt sb db S fp] w:=St.lend hB (dv _ _ _ _) hlt
 go_enter Tryz.func27,Tryz.ntmps27
 have aj:=st1
 obtain⟨⟨hrw,hrr⟩,mb,RA,rc,EA,ec,ib,tb,fpd,hv1_⟩:=aj.unf
 refine wq (sqr (sqp [.k 2 (vi 0)] ?_))
 refine aa (wq (wq (sqr (sqp [.m 3 0] ?_))))
 refine sqv (.bool false) hv1_ (by
   exact sv0 rfl rfl rfl rfl rfl (fun _ _ _ h=>h) fun a d W X cx=>by
    have fy:a (.tmp 3)=vp sb:=(cx.ou 3)
    simp[go_sem,cx.sees.const,fy]) fun W4 bc=>?_
 refine aa (wcf rfl (wp_skip (aa (wq (sqr (sqp [.m 5 0,.k 6 (vp sb),.k 7 (vp sb)] ?_))))))
 refine aq 0 bc ?_
 refine bM (fun X_=>X_.fp) (vi ((opD S.D 0 flD).2)) (fun I2=>eDk db ((opD S.D 0 flD).1) I2) 9 bc (by
   refine svA fun a d W X cx=>?_
   refine am.call (au (args:=#[vp db]) rfl cx.sees rfl (by kernel_rfl) (ax (cx.ou 8))) ?_
   refine(lS db S.D _ _ (CtxV.holdF cx (cx.init 9 _ rfl) rfl) (CtxV.ltF cx (cx.init 9 _ rfl) rfl) (by omega)).mono ?_
   rintro e W1 ⟨rfl,fp4,aT⟩
   refine⟨_,rfl,aK (E:=eDk db S.D fpd) [eDk db (opD S.D 0 flD).1 fp4] (cx.init 9 _ rfl) rfl rfl aT (fun g o X' hs hb hv hN=>?_)⟩
   have aJ:=(hv 9 rfl).1;have aV:=(hv 9 rfl).2
   exact⟨aJ.trans rfl,cJ ((List.cons.inj hN).1)⟩) fun I2 W9 cv=>?_
 refine sqp [.m 2 9] ?_
 refine aa (wp_ret ?_)
 refine bpr (vi ((opD S.D 0 flD).2)) (ag Tryz.results27 rpt) ?_
 obtain⟨fp11_,hk11_⟩:=St.stf (S:={S with D:=(opD S.D 0 flD).1}) (cv) (hrw) (hrr)
 exact d5.of rfl hk11_
end
section
open Go.RowKit
theorem DA(L:List RecM)(r:RecM):ef (L++[r])=ef L++aC r:=by
 rw[ef,List.map_append,yC,ef,List.map_cons,List.map_nil,bE,fT,ld]
theorem pf(L:List RecM)(r:RecM):szF (L++[r])=szF L+(aC r).size:=by
 rw[szF,szF,List.map_append,List.sum_append];simp
theorem D8(L:List RecM)(r:RecM){z:Int}(h:z=(szF (L++[r]):Int)){n:Nat}(hn:L.length=n):(cM L n).map (Value.int .i64)++[.int .i64 z]=(cM (L++[r]) (n+1)).map (Value.int .i64):=by
 subst hn h
 have h1:=wE (L++[r]) L.length
 rw[List.take_of_length_le (by simp)] at h1
 rw[<-h1]
 congr 2
 rw[cM,cM]
 refine List.map_congr_left fun i hi=>?_
 rw[List.take_append_of_le_length (by have:=List.mem_range.1 hi;omega)]
def apR(S:StM)(r:RecM):DkM×Int:=opD S.D (apE S.D (aC r)) (apD (aC r))
def bz(S:StM)(rt:RcT):StM×Int:=if (apR S rt.r).2≠0 then ({S with D:=(apR S rt.r).1},(apR S rt.r).2) else ({S with D:=(apR S rt.r).1,recs:=S.recs++[rt]},0)
theorem Eg(h:(apR S r).2=0):S.D.off=false/\(S.D.log.size:Int)+((aC r).size:Int)<=1048576/\(apR S r).1=apD (aC r) {S.D with left:=cS S.D.left}:=by
 obtain⟨h1,h2,h3⟩:=pW h
 refine⟨h1,?_,h3⟩
 unfold apE at h2
 split at h2
 cases h2
 omega
theorem Bd(S:StM)(r:RecM):(apR S r).1.pgs=S.D.pgs/\(apR S r).1.fl=S.D.fl:=by
 unfold apR
 refine⟨cY (P:=fun D'=>D'.pgs=S.D.pgs) rfl rfl fun _=>rfl,cY (P:=fun D'=>D'.fl=S.D.fl) rfl rfl fun _=>rfl⟩
theorem Lk(h:(apR S r).2≠0):(apR S r).1.log=S.D.log:=by
 unfold apR opD at h |-
 split
 rfl
 rename_i ho
 rw[if_neg ho] at h
 split
 rfl
 rename_i he
 rw[if_neg he] at h
 split
 rfl
 rename_i ha
 rw[if_neg ha] at h
 exact absurd rfl h
theorem SOk.append(h:SOk S c)(hr:bC rt.r=true):SOk (bz S rt).1 c:=by
 obtain⟨hp,hf⟩:=Bd S rt.r
 unfold bz
 have hcl:∀t∈S.pool,t.dirty=false->t.pg.p=shP (apR S rt.r).1 t.n:=fun t ht hd=>by rw[hH hp];exact h.cl t ht hd
 split
 rename_i he
 have hl:=Lk he
 exact⟨h.bufs,by show (apR S rt.r).1.pgs.length<=400;rw[hp];exact h.pgs,by show ∀x∈(apR S rt.r).1.pgs,_;rw[hp];exact h.ws,h.time,h.ni,h.nt,h.right,h.nodup,h.len,fun t ht=>by show 0<=t.n/\t.n<((apR S rt.r).1.pgs.length:Int);rw[hp];exact h.keys t ht,h.recs,hl.trans h.log,by show (apR S rt.r).1.log.size<= _;rw[hl];exact h.lsz,by show (apR S rt.r).1.fl<=(apR S rt.r).1.log.size;rw[hl,hf];exact h.fl,hcl⟩
 rename_i he
 have he:(apR S rt.r).2=0:=by simpa using he
 obtain⟨h1,h2,h3⟩:=Eg he
 have hl:(apR S rt.r).1.log=S.D.log++aC rt.r:=by rw[h3];rfl
 exact⟨h.bufs,by show (apR S rt.r).1.pgs.length<=400;rw[hp];exact h.pgs,by show ∀x∈(apR S rt.r).1.pgs,_;rw[hp];exact h.ws,h.time,h.ni,h.nt,h.right,h.nodup,h.len,fun t ht=>by show 0<=t.n/\t.n<((apR S rt.r).1.pgs.length:Int);rw[hp];exact h.keys t ht,fun r hr2=>by
  have hr2:r∈(S.recs++[rt]).map RcT.r:=hr2
  rw[List.map_append] at hr2
  rcases List.mem_append.1 hr2 with h4|h4
  exact h.recs r h4
  rw[List.mem_singleton.1 h4];exact hr,by show (apR S rt.r).1.log=ef ((S.recs++[rt]).map RcT.r);rw[hl,h.log,List.map_append];exact(DA _ _).symm,by show (apR S rt.r).1.log.size<= _;rw[hl,ByteArray.size_append];omega,by show (apR S rt.r).1.fl<=(apR S rt.r).1.log.size;rw[hl,hf,ByteArray.size_append];have:=h.fl;omega,hcl⟩
theorem ua(h:(apR S rt.r).2≠0):bz S rt=({S with D:=(apR S rt.r).1},(apR S rt.r).2):=if_pos h
theorem Ds(h:(apR S rt.r).2=0):bz S rt=({S with D:=(apR S rt.r).1,recs:=S.recs++[rt]},0):=if_neg (by rw[h];decide)
theorem eU(h:bC r=true):(aC r).size<=200000:=by
 rw[kK h]
 have:=jq r
 omega
def Kn(r:RecM)(w:World)(e:Ending)(w':World):Prop:=∃A c,e= .returned (G3 r A c)/\St w [] [fR ⟨r,A,c⟩] w'
def AC(l:List EdT)(w:World)(e:Ending)(w':World):Prop:=∃A c,e= .returned (.slice A l.length c)/\St w [] [eO 84 3 (.slice A l.length c) l.length (l.flatMap edC)] w'
theorem Lx{A:Option Addr}{l:List EdT}(hA:At w A (l.flatMap edC))(h:A=none)(hs:St w [] [eO 84 3 (sn) 0 []] w'):AC l w (.returned (sn)) w':=by
 subst h
 have h1:=AQ hA
 cases l with
 |nil=>exact⟨none,0,rfl,hs⟩
 |cons x l=>simp[edC] at h1
theorem Tryz.infoEdJ:(Tryz.prog.info? 84).map (fun i=>(i.zero,i.size,i.bytes))=some (some (.agg #[.int .i64 0,.int .i64 0,.string ⟨#[]⟩]),3,32):=by kernel_rfl
theorem Kf(l:List EdT):∀v∈l.flatMap edC,v.oneCell'=true:=fun v hv=>by
 obtain⟨x,_,h⟩:=List.mem_flatMap.1 hv
 simp only[edC,List.mem_cons,List.not_mem_nil,or_false] at h
 rcases h with rfl|rfl|rfl<;>rfl
theorem nD(sb db:Nat)(S:StM)(rt:RcT)(c:Nat)(fp:List Nat)(w:World)(hB:(eSt sb db S fp).holds w)(hlt:∀k∈fp,k<w.heap.size)(hok:SOk S c)(hr:bC rt.r=true)(hrt:rt∈S.rr):
  Calls Tryz.prog 57 #[po sb 0,.agg #[.int .i64 rt.r.kind,.int .i64 rt.r.xid,.int .i64 rt.r.tbl,sn,sn,.slice rt.A rt.r.eds.length rt.c,sn,.string rt.r.note]] w (d5 sb db (bz S rt) fp w):=by
 have st1:St w fp [eSt sb db S fp] w:=St.lend hB (dv _ _ _ _) hlt
 go_enter Tryz.func57,Tryz.ntmps57
 have aj:=st1
 obtain⟨⟨hrw,hrr⟩,mb,RA,rc,EA,ec,ib,tb,fpd,hv1_⟩:=aj.unf
 have hlz:=hok.lsz
 have hll:S.recs.length<=1048576:=by have h1:=ob hok.recs;have h3:=congrArg ByteArray.size hok.log;rw[cE] at h3;have h2:S.L.length=S.recs.length:=List.length_map ..;omega
 have hro:=dU hr
 have hez:∀e∈rt.r.eds,e.2.2.size<=9223372036854775807:=fun e he=>by have:=dx (hro.eds e he);omega
 have hns:rt.r.note.size<=9223372036854775807:=by have:=hro.note;omega
 have hnl:=hro.many
 have hfs:=eU hr
 refine wq (sqr ?_)
 refine b9 #[vi rt.r.kind,vi rt.r.xid,vi rt.r.tbl,sn,sn,.slice rt.A rt.r.eds.length rt.c,sn,.string rt.r.note] hv1_ fun ck W2 bu=>?_
 refine sqp [.k 4 (vi 0)] ?_
 refine aa (wq (sqr ?_))
 refine bI 10 8 bu ?_
 refine sqk (.string (aC rt.r)) bu (fun cx=>⟨_,j6 rt.r.kind rt.r.xid rt.r.tbl _ _ rt.r.eds rt.r.note _ (dI (CtxV.holdF cx (cx.init 6 _ rfl) rfl) hrt) (by omega) hez hns,(ax (cx.ou 7))⟩) fun W5 aR=>?_
 refine sqp [.m 5 8] ?_
 refine aa (wq (wq (sqr (sqp [.m 9 0,.k 10 (vp sb),.k 11 (vp sb)] ?_))))
 refine aq 0 aR ?_
 refine sqp [.m 13 5] ?_
 refine bM (fun X_=>X_.fp) (vi ((apR S rt.r).2)) (fun Fv=>eDk db ((apR S rt.r).1) Fv) 9 aR (by
   refine svA fun o d W X cx=>?_
   refine am.call (au (args:=#[vp db,.string (aC rt.r)]) rfl cx.sees rfl (by kernel_rfl) (aM (cx.ou 12) (cx.ou 13))) ?_
   refine(rX db S.D (aC rt.r) _ _ (CtxV.holdF cx (cx.init 9 _ rfl) rfl) (CtxV.ltF cx (cx.init 9 _ rfl) rfl) (by omega) (by omega)).mono ?_
   rintro e W1 ⟨rfl,fp4,aT⟩
   refine⟨_,rfl,aK (E:=eDk db S.D fpd) [eDk db (apR S rt.r).1 fp4] (cx.init 9 _ rfl) rfl rfl aT (fun g q X' hs hb hv hN=>?_)⟩
   have aJ:=(hv 14 rfl).1;have aV:=(hv 14 rfl).2
   exact⟨aJ.trans rfl,cJ ((List.cons.inj hN).1)⟩) fun Fv Bs de=>?_
 refine sqp [.m 6 14] ?_
 refine aa (wq (sqr (sqp [.m 15 6,.k 16 (.bool (((apR S rt.r).2) != 0))] ?_)))
 refine aa (wbs (fun dc=>?_) fun dc=>?_)
 have l9:=bne_iff_ne.1 dc
 refine wq (sqr (sqp [.m 17 6,.m 4 17] ?_))
 refine aa (wp_ret (ai ?_))
 refine bpr (vi ((apR S rt.r).2)) (ag Tryz.results57 rpt) ?_
 obtain⟨fp19_,hk19_⟩:=St.stf (S:={S with D:=(apR S rt.r).1}) (de.u10.c0) (hrw) (hrr)
 exact d5.of (ua (by simpa using dc)) hk19_
 have l9:=bne_eq_false_iff_eq.1 dc
 refine wp_skip (aa (wq ?_))
 have he0:(apR S rt.r).2=0:=by simpa using dc
 obtain⟨ho0,hl0,hD0⟩:=Eg he0
 obtain⟨D1,hD1⟩:∃z,(apR S rt.r).1=z:=⟨_,rfl⟩
 rw[hD1] at de hD0
 have hlg:D1.log=S.D.log++aC rt.r:=by rw[hD0];rfl
 have hlg2:(D1.log.size:Int)=(szF (S.L++[rt.r]):Int):=by rw[hlg,ByteArray.size_append,pf,hok.log,cE]
 refine aG [0,0,2,6,14,0,32,126,255,511,1023] [[],[],[],[],[0],[10],[],[11,4],[],[],[0]] [[],[],[],[],[],[],[11],[12],[],[],[13]] [[],[],[],[],[],[],[],[4],[],[],[0]] [.k 18 (vp sb),.k 19 (vp sb),.k 20 (vp sb),.k 21 (po sb 4),.c 22 (.slice RA S.recs.length rc),.c 23 (.agg #[vi rt.r.kind,vi rt.r.xid,vi rt.r.tbl,sn,sn,.slice rt.A rt.r.eds.length rt.c,sn,.string rt.r.note]),.a 24,.a 25,.k 26 (vp sb),.k 27 (po sb 4),.n] (fun ix g d X=>match ix with|0|1|2|3|4|5=>True|6=>g 24= .slice ((some ⟨(pb' (d 24)),0,none⟩)) 1 1/\X 11=eO 27 8 (.slice ((some ⟨(pb' (d 24)),0,none⟩)) 1 1) 1 (rcC rt)|7=>g 25= .slice (sA (d 25)) (S.recs.length+1) (sC (d 25))/\X 12=eO 27 8 (.slice (sA (d 25)) (S.recs.length+1) (sC (d 25))) (S.recs.length+1) ((S.recs++[rt]).flatMap rcC)|8|9=>True|10=>X 13=eB sb 109 #[vp db,vi S.bufs,.map (some mb),vi S.time,.slice (sA (d 25)) (S.recs.length+1) (sC (d 25)),.slice EA S.recs.length ec,.map (some ib),.map (some tb),vi S.frm]|_=>True) [1,2,3,5,6,7,8,9,10,11,12,13] [4,5,6,7,10] [(18,0,10,28)] de ?_ ?_ ?_
 exact fun ix _ _ _ _ _ _ hs hb hx h=>match ix,h with
 |6,h=>by dsimp only;rw[<-hs 24 rfl,<-hb 24 rfl,<-hx 11 rfl];exact h
 |7,h=>by dsimp only;rw[<-hs 25 rfl,<-hb 25 rfl,<-hx 12 rfl];exact h
 |10,h=>by dsimp only;rw[<-hb 25 rfl,<-hx 13 rfl];exact h
 |0,_|1,_|2,_|3,_|4,_|5,_|8,_|9,_|_+11,_=>trivial
 refine⟨?_,?_,?_,?_,?_,trivial⟩
 exact xs4 rfl id fun cx=>ae rfl (by kernel_rfl) (cx.an 3) ((cx.bi 0 rfl).cell 4)
 exact xs4 rfl id fun cx=>ce (n:=8) rfl (by kernel_rfl) (by kernel_rfl) (cx.ou 3) (cx.bi 10 rfl) (nle rfl) rfl
 refine svA fun o d W X cx=>?_
 have H9:o (.tmp 23)= .agg #[vi rt.r.kind,vi rt.r.xid,vi rt.r.tbl,sn,sn,.slice rt.A rt.r.eds.length rt.c,sn,.string rt.r.note]:=(cx.an 5)
 exact mp (e:=27) (sz:=8) (xs:=[vi rt.r.kind,vi rt.r.xid,vi rt.r.tbl,sn,sn,.slice rt.A rt.r.eds.length rt.c,sn,.string rt.r.note]) rfl (by simp[go_sem,H9]) rfl (by decide) rfl rfl (fun _ _ _ _ _=> .intro)
 refine svA fun o d W X cx=>?_
 obtain⟨i0,hi0,hz0,hz1,hz2⟩:=info_parts Tryz.infoRecJ
 refine jh (n:=S.recs.length) (m:=1) (nm:=S.recs.length+1) (sz:=8) (xs:=S.recs.flatMap rcC) (news:=rcC rt) (xs':=(S.recs++[rt]).flatMap rcC) rfl (ty:=66) rfl (by kernel_rfl) hi0 hz0 hz1 hz2 rfl (by decide) (cx.an 4) cx (cx.init 4 _ rfl) rfl (dTn (cx.an 6)).1 (by rfl) (At.of_ownN (cx.row (dTn (cx.an 6)).2 rfl)) (by simp[rcC,Value.oneCell']) (by simp only[maxLen];omega) (by omega) rfl rfl rfl (by omega) ((AU S.recs rt)) (fun g q X' hs hb hv hx=>?_)
 exact⟨hv,hx⟩
 refine svA fun o d W X cx=>?_
 exact bx (n:=1) rfl (cx.an 9) (dTn (cx.an 7)).1 (by kernel_rfl) (by kernel_rfl) (by kernel_rfl) cx (cx.init 0 _ rfl) rfl (nle rfl) (by kernel_rfl) rfl rfl rfl (fun g q X' hs hb hx=>by rw[hb 25];exact hx)
 intro g d X r8 hD d8 fr aD
 simp only[exq 11 ((dTn (hD 6 lq)).2),exq 12 ((dTn (hD 7 lq)).2),exq 13 ((dTn (hD 10 lq)))] at d8
 simp only[ed 24 ((dTn (hD 6 lq)).1),ed 25 ((dTn (hD 7 lq)).1)] at aD
 generalize pb' (d 24)=QU,sA (d 25)=Mx,sC (d 25)=My at d8 aD
 clear hD;subst aD;clear g d X
 refine aa (wq (aG [0,0,2,6,14,0,32,96,224,480,992,2016,4094,8191,16383,32767] [[],[],[],[],[11],[],[],[],[11],[7],[],[],[12,3],[],[],[11]] [[],[],[],[],[],[],[],[],[],[],[],[12],[13],[],[],[14]] [[],[],[],[],[],[],[],[],[],[],[],[],[3],[],[],[11]] [.k 28 (vp sb),.k 29 (vp sb),.k 30 (vp sb),.k 31 (po sb 5),.c 32 (.slice EA S.recs.length ec),.k 33 (vp sb),.k 34 (vp sb),.k 35 (vp sb),.c 36 (vp db),.c 37 (.string D1.log),.k 38 (vi ((D1.log.size:Int))),.a 39,.a 40,.k 41 (vp sb),.k 42 (po sb 5),.n] (fun ix g d X=>match ix with|0|1|2|3|4|5|6|7|8|9|10=>True|11=>g 39= .slice (sA (d 39)) 1 1/\X 12=eO 3 1 (.slice (sA (d 39)) 1 1) 1 ([vi ((D1.log.size:Int))])|12=>g 40= .slice (sA (d 40)) (S.recs.length+1) (sC (d 40))/\X 13=eO 3 1 (.slice (sA (d 40)) (S.recs.length+1) (sC (d 40))) (S.recs.length+1) ((cM (S.L++[rt.r]) (S.recs.length+1)).map (Value.int .i64))|13|14=>True|15=>X 14=eB sb 109 #[vp db,vi S.bufs,.map (some mb),vi S.time,.slice Mx (S.recs.length+1) My,.slice (sA (d 40)) (S.recs.length+1) (sC (d 40)),.map (some ib),.map (some tb),vi S.frm]|_=>True) [0,1,2,4,5,6,7,8,9,10,12,13,14] [4,8,9,11,12,15] [(28,0,15,43)] d8 ?_ ?_ ?_))
 exact fun ix _ _ _ _ _ _ hs hb hx h=>match ix,h with
 |11,h=>by dsimp only;rw[<-hs 39 rfl,<-hb 39 rfl,<-hx 12 rfl];exact h
 |12,h=>by dsimp only;rw[<-hs 40 rfl,<-hb 40 rfl,<-hx 13 rfl];exact h
 |15,h=>by dsimp only;rw[<-hb 40 rfl,<-hx 14 rfl];exact h
 |0,_|1,_|2,_|3,_|4,_|5,_|6,_|7,_|8,_|9,_|10,_|13,_|14,_|_+16,_=>trivial
 refine⟨?_,?_,?_,?_,?_,?_,trivial⟩
 exact xs4 rfl id fun cx=>ae rfl (by kernel_rfl) (cx.an 3) ((cx.bi 11 rfl).cell 5)
 exact xs4 rfl id fun cx=>ae rfl (by kernel_rfl) (cx.an 7) ((cx.bi 11 rfl).cell 0)
 exact xsc rfl id rfl rfl fun cx=>⟨_,kA db D1 _ (fc (CtxV.holdF cx (cx.init 7 _ rfl) rfl)),(ax (cx.an 8))⟩
 refine svA fun o d W X cx=>?_
 have PG:o (.tmp 38)=vi ((D1.log.size:Int)):=(cx.an 10)
 exact dy (e:=3) (xs:=[vi ((D1.log.size:Int))]) rfl (by simp[go_sem,PG]) rfl (by decide) rfl rfl (fun _ _ _ _ _=> .intro)
 refine svA fun o d W X cx=>?_
 obtain⟨i0,hi0,hz0,hz1,hz2⟩:=info_parts Tryz.infoIntJ
 refine fe (n:=S.recs.length) (m:=1) (nm:=S.recs.length+1) (xs:=(cM S.L S.recs.length).map (Value.int .i64)) (news:=[vi ((D1.log.size:Int))]) (xs':=(cM (S.L++[rt.r]) (S.recs.length+1)).map (Value.int .i64)) rfl (ty:=25) rfl (by kernel_rfl) hi0 hz0 hz1 hz2 rfl (cx.an 4) cx (cx.init 3 _ rfl) rfl (dTn (cx.an 11)).1 (by first|(simp;done)|(simp;omega)) (At.of_own (cx.row (dTn (cx.an 11)).2 rfl)) (by simp[Value.oneCell']) (by simp only[maxLen];omega) (by omega) rfl rfl rfl (by omega) ((D8 S.L rt.r hlg2 (List.length_map ..))) (fun g q X' hs hb hv hx=>?_)
 exact⟨hv,hx⟩
 refine svA fun o d W X cx=>?_
 exact bx (n:=1) rfl (cx.an 14) (dTn (cx.an 12)).1 (by kernel_rfl) (by kernel_rfl) (by kernel_rfl) cx (cx.init 11 _ rfl) rfl (nle rfl) (by kernel_rfl) rfl rfl rfl (fun g q X' hs hb hx=>by rw[hb 40];exact hx)
 intro g d X wZ hD dF fr aD
 simp only[exq 12 ((dTn (hD 11 lq)).2),exq 13 ((dTn (hD 12 lq)).2),exq 14 ((dTn (hD 15 lq)))] at dF
 simp only[ed 39 ((dTn (hD 11 lq)).1),ed 40 ((dTn (hD 12 lq)).1)] at aD
 generalize sA (d 39)=QV,sA (d 40)=QW,sC (d 40)=QX at dF aD
 clear hD;subst aD;clear g d X
 refine aa (wq (sqr (sqp [.k 4 (vi 0)] ?_)))
 refine aa (wp_ret ?_)
 refine bpr (vi 0) (ag Tryz.results57 rpt) ?_
 obtain⟨fp24_,hk24_⟩:=St.stf (S:={S with D:=D1,recs:=S.recs++[rt]}) (by have h_:=dF.u7.c0.u7.c0.u8.c0.u8.u8.u4.u4.u4.u9;rw[stL,stC];dsimp only[StM.L];rw[List.length_append,List.length_singleton,List.map_append];exact h_) (hrw) (fun t ht=>(List.mem_append.1 ht).elim (hrr t) fun h=>by rw[List.mem_singleton.1 h];exact hrt)
 exact d5.of ((Ds he0).trans (by rw[hD1])) hk24_
theorem JM(A:Option Addr)(c:Nat)(l:List EdT)(w:World)(hA:At w A (l.flatMap edC))(hI:l.length<=100000):
  Calls Tryz.prog 115 #[.slice A l.length c] w (AC l w):=by
 go_enter Tryz.func115,Tryz.ntmps115
 have aj:=St.start w
 refine wq (sqr (sqp [.k 2 (sn)] ?_))
 refine aa (wq (wq (sqr (sqp [.m 3 0,.k 4 (.bool A.isNone)] ?_))))
 refine aa (wbs (fun aT=>?_) fun aT=>?_)
 refine wq (sqr (sqp [.k 2 (sn)] ?_))
 refine aa (wp_ret (ai ?_))
 refine bpr (sn) (ag Tryz.results115 rpt) ?_
 have hn6:=fi aj 84 3
 simp only[List.cons_append,List.nil_append] at hn6
 exact Lx hA (by simpa using aT) hn6
 refine wp_skip (aa (wq ?_))
 obtain⟨a,rfl⟩:∃a,A=some a:=by cases A with|none=>cases aT|some a=>exact⟨a,rfl⟩
 refine sqr ?_
 refine mK 84 3 0 [] aj (@fun g d W X cx=>by simp[go_sem]) fun s7 W7 aQ=>?_
 refine sqp [.m 6 0] ?_
 refine vw l.length (l.flatMap edC) 0 aQ Tryz.infoEdJ (fun cx=>(hA.ext cx.upd.to_ext)) (hl:=by rw[me bD]) (h1:=Kf _) fun td tf W9 cv=>?_
 refine sqp [.m 2 7] ?_
 refine aa (wp_ret ?_)
 refine bpr (.slice td l.length tf) (ag Tryz.results115 rpt) ?_
 exact⟨_,_,rfl,cv.pick [0] (by decide) rfl⟩
theorem AJ(w:World):
  Calls Tryz.prog 114 #[sn] w (Ret (sn) w):=by
 go_enter Tryz.func114,Tryz.ntmps114
 have aj:=St.start w
 refine wq (sqr (sqp [.k 2 (sn)] ?_))
 refine aa (wq (wq (sqr (sqp [.m 3 0,.k 4 (.bool true)] ?_))))
 refine aa (wct rfl (wq (sqr (sqp [.k 2 (sn)] ?_))))
 refine aa (wp_ret (ai ?_))
 refine bpr (sn) (ag Tryz.results114 rpt) ?_
 exact Ret.of rfl aj.ext
theorem Jt(w:World):
  Calls Tryz.prog 116 #[sn] w (Ret (sn) w):=by
 go_enter Tryz.func116,Tryz.ntmps116
 have aj:=St.start w
 refine wq (sqr (sqp [.k 2 (sn)] ?_))
 refine aa (wq (wq (sqr (sqp [.m 3 0,.k 4 (.bool true)] ?_))))
 refine aa (wct rfl (wq (sqr (sqp [.k 2 (sn)] ?_))))
 refine aa (wp_ret (ai ?_))
 refine bpr (sn) (ag Tryz.results116 rpt) ?_
 exact Ret.of rfl aj.ext
theorem tD(A:Option Addr)(c:Nat)(r:RecM)(w:World)(hA:At w A (r.eds.flatMap edC))(hI:r.eds.length<=100000):
  Calls Tryz.prog 52 #[.agg #[.int .i64 r.kind,.int .i64 r.xid,.int .i64 r.tbl,sn,sn,.slice A r.eds.length c,sn,.string r.note]] w (Kn r w):=by
 go_enter Tryz.func52,Tryz.ntmps52
 have aj:=St.start w
 refine wq (sqr ?_)
 refine b9 #[vi r.kind,vi r.xid,vi r.tbl,sn,sn,.slice A r.eds.length c,sn,.string r.note] aj fun aA W1 ay=>?_
 refine b8 #[vi 0,vi 0,vi 0,sn,sn,sn,sn,.string ByteArray.empty] ay fun kC W2 bu=>?_
 refine aa (wq (aG [0,1,3,0,8,31,0,64,255,0,512,2047,1759,8191,16383,32767,65535,131071,262143,524287] [[],[0],[],[],[0],[],[],[0],[],[],[0],[],[],[0],[],[3],[],[4],[],[5]] [[],[],[],[],[],[],[],[],[2],[],[],[],[],[3],[],[4],[],[5],[],[6]] [[],[],[],[],[],[],[],[],[],[],[],[],[],[0],[],[3],[],[4],[],[5]] [.k 3 (po aA 3),.c 4 (sn),.c 5 (sn),.k 6 (po aA 4),.c 7 (sn),.c 8 (sn),.k 9 (po aA 5),.c 10 (.slice A r.eds.length c),.a 11,.k 12 (po aA 6),.c 13 (sn),.c 14 (sn),.k 15 (po aA 3),.n,.k 16 (po aA 4),.n,.k 17 (po aA 5),.n,.k 18 (po aA 6),.n] (fun ix g d X=>match ix with|0|1|2|3|4|5|6|7=>True|8=>g 11= .slice (sA (d 11)) r.eds.length (sC (d 11))/\X 2=eO 84 3 (.slice (sA (d 11)) r.eds.length (sC (d 11))) r.eds.length (r.eds.flatMap edC)|9|10|11|12=>True|13=>X 3=eB aA 27 #[vi r.kind,vi r.xid,vi r.tbl,sn,sn,.slice A r.eds.length c,sn,.string r.note]|14=>True|15=>X 4=eB aA 27 #[vi r.kind,vi r.xid,vi r.tbl,sn,sn,.slice A r.eds.length c,sn,.string r.note]|16=>True|17=>X 5=eB aA 27 #[vi r.kind,vi r.xid,vi r.tbl,sn,sn,.slice (sA (d 11)) r.eds.length (sC (d 11)),sn,.string r.note]|18=>True|19=>X 6=eB aA 27 #[vi r.kind,vi r.xid,vi r.tbl,sn,sn,.slice (sA (d 11)) r.eds.length (sC (d 11)),sn,.string r.note]|_=>True) [1,2,6] [1,2,4,5,7,8,10,11,13,15,17,19] [(3,0,19,19)] bu ?_ ?_ ?_))
 exact fun ix _ _ _ _ _ _ hs hb hx h=>match ix,h with
 |8,h=>by dsimp only;rw[<-hs 11 rfl,<-hb 11 rfl,<-hx 2 rfl];exact h
 |13,h=>by dsimp only;rw[<-hx 3 rfl];exact h
 |15,h=>by dsimp only;rw[<-hx 4 rfl];exact h
 |17,h=>by dsimp only;rw[<-hb 11 rfl,<-hx 5 rfl];exact h
 |19,h=>by dsimp only;rw[<-hb 11 rfl,<-hx 6 rfl];exact h
 |0,_|1,_|2,_|3,_|4,_|5,_|6,_|7,_|9,_|10,_|11,_|12,_|14,_|16,_|18,_|_+20,_=>trivial
 refine⟨?_,?_,?_,?_,?_,?_,?_,?_,?_,?_,?_,?_,trivial⟩
 exact xs4 rfl id fun cx=>ae rfl (by kernel_rfl) (cx.an 0) ((cx.bi 0 rfl).cell 3)
 exact xsc rfl id rfl rfl fun cx=>⟨_,AJ _,(ax (cx.an 1))⟩
 exact xs4 rfl id fun cx=>ae rfl (by kernel_rfl) (cx.an 3) ((cx.bi 0 rfl).cell 4)
 exact xsc rfl id rfl rfl fun cx=>⟨_,AJ _,(ax (cx.an 4))⟩
 exact xs4 rfl id fun cx=>ae rfl (by kernel_rfl) (cx.an 6) ((cx.bi 0 rfl).cell 5)
 refine svA fun m d W X cx=>?_
 refine am.call (au (args:=#[.slice A r.eds.length c]) rfl cx.sees rfl (by kernel_rfl) (ax (cx.an 7))) ?_
 refine(JM A c r.eds _ (hA.ext cx.upd.to_ext) hI).mono ?_
 rintro e W1 ⟨A4,c4,rfl,aT⟩
 refine⟨_,rfl,rk [eO 84 3 (.slice A4 r.eds.length c4) r.eds.length (r.eds.flatMap edC)] rfl rfl aT (fun g o X' hs hb hv hN=>?_)⟩
 have aJ:=(hv 11 rfl).1;have aV:=(hv 11 rfl).2
 exact⟨aJ.trans (by rw[aV];rfl),(by rw[aV];exact(List.cons.inj hN).1)⟩
 exact xs4 rfl id fun cx=>ae rfl (by kernel_rfl) (cx.an 9) ((cx.bi 0 rfl).cell 6)
 exact xsc rfl id rfl rfl fun cx=>⟨_,Jt _,(ax (cx.an 10))⟩
 refine svA fun m d W X cx=>?_
 exact bx (n:=1) rfl (cx.an 12) (cx.an 2) (by kernel_rfl) (by kernel_rfl) (by kernel_rfl) cx (cx.init 0 _ rfl) rfl (nle rfl) (by kernel_rfl) rfl rfl rfl (fun _ _ _ _ _=>id)
 refine svA fun m d W X cx=>?_
 exact bx (n:=1) rfl (cx.an 14) (cx.an 5) (by kernel_rfl) (by kernel_rfl) (by kernel_rfl) cx (dTn (cx.an 13)) rfl (nle rfl) (by kernel_rfl) rfl rfl rfl (fun _ _ _ _ _=>id)
 refine svA fun m d W X cx=>?_
 exact bx (n:=1) rfl (cx.an 16) (dTn (cx.an 8)).1 (by kernel_rfl) (by kernel_rfl) (by kernel_rfl) cx (dTn (cx.an 15)) rfl (nle rfl) (by kernel_rfl) rfl rfl rfl (fun g o X' hs hb hx=>by rw[hb 11];exact hx)
 refine svA fun m d W X cx=>?_
 exact bx (n:=1) rfl (cx.an 18) (cx.an 11) (by kernel_rfl) (by kernel_rfl) (by kernel_rfl) cx (dTn (cx.an 17)) rfl (nle rfl) (by kernel_rfl) rfl rfl rfl (fun g o X' hs hb hx=>by rw[hb 11];exact hx)
 intro g d X W3 hD aW fr aD
 simp only[exq 2 ((dTn (hD 8 lq)).2),exq 6 ((dTn (hD 19 lq)))] at aW
 simp only[ed 11 ((dTn (hD 8 lq)).1)] at aD
 generalize sA (d 11)=xq,sC (d 11)=xr at aW aD
 clear hD;subst aD;clear g d X
 refine aa (wq (sqr ?_))
 refine bI 2 8 aW ?_
 refine aX (n:=8) 0 #[vi r.kind,vi r.xid,vi r.tbl,sn,sn,.slice xq r.eds.length xr,sn,.string r.note] aW fun W5 aR=>?_
 refine aa (wp_ret ?_)
 refine bpr (.agg #[vi r.kind,vi r.xid,vi r.tbl,sn,sn,.slice xq r.eds.length xr,sn,.string r.note]) (bG (n:=8) Tryz.results52 rfl (by kernel_rfl) (by kernel_rfl) (aR.blk 0 rfl) rfl) ?_
 exact⟨_,_,rfl,aR.pick [1] (by decide) rfl⟩
end
section
open Go.RowKit
def doR(p:PgS)(e:EdT)(n:Int):PgS:=if doE p e n=0 then doV p e n else bw
theorem ro(h:doE p e n=0):doR p e n=doV p e n:=if_pos h
theorem Eu(h:Calls Tryz.prog f args w (gr p e n w)):Calls Tryz.prog f args w (d4 (doR p e n).1 (doR p e n).2.1 (doR p e n).2.2 (doE p e n) w):=by
 refine h.mono fun e' w' h=>?_
 unfold gr at h
 split at h
 rename_i h0
 rw[ro h0,h0];exact h
 rename_i h0
 rw[doR,if_neg h0];exact h
theorem Lm(h:Calls Tryz.prog f args w (li s w)):Calls Tryz.prog f args w (fun e w'=>∃er,d4 (rdP s).1 (rdP s).2.1 (rdP s).2.2 er w e w'):=by
 refine h.mono fun e' w' h=>?_
 unfold li at h
 rcases hx:rdX s with _|p
 rw[hx] at h
 obtain⟨er,_,h1,h2⟩:=h
 rw[su hx]
 exact⟨er,none,0,h1,World.ownsRow_nil _ _ _ _,h2⟩
 rw[hx] at h
 rw[sO hx]
 exact⟨0,h⟩
theorem LdR.rr(hl:LdR S n S' er):S'.rr=S.rr:=by
 have hc:∀(S:StM) (t:BfT),(aL S t).1.rr=S.rr:=fun S t=>by
  unfold aL
  split
  unfold bN
  split<;>rfl
  rfl
 have he:∀(S:StM) (t:BfT),(bv S t).1.rr=S.rr:=fun S t=>by
  unfold bv
  split
  split
  exact hc S t
  exact hc S t
  rfl
 cases hl with
 |hit t ht hn=>rfl
 |bad h1 h2=>rfl
 |new t blk A cc h1 h2 h3=>
  unfold jU
  split
  exact he _ _
  exact he (Go.Proofs.YtcdjaepgahbhfaaGreat.tick S) t
def tZ:Value->Int
 | .int _ z=>z
 |_=>0
inductive RdE (lsn:Int):StM->List EdT->StM->Int->Prop where
 |nil (S:StM):RdE lsn S [] S 0
 |bad {S S1:StM}{x:EdT}{l:List EdT}{er:Int}(h:LdR S x.1 S1 er) (he:er≠0):RdE lsn S (x::l) S1 er
 |skip {S S1 S2:StM}{x:EdT}{l:List EdT}{er:Int}{t:BfT}(h:LdR S x.1 S1 0) (ht:t∈S1.pool) (hn:t.n=x.1) (hs:lsn<t.pg.p.2.1) (hr:RdE lsn S1 l S2 er):RdE lsn S (x::l) S2 er
 |fail {S S1 S2:StM}{x:EdT}{l:List EdT}{er:Int}{t:BfT}(h:LdR S x.1 S1 0) (ht:t∈S1.pool) (hn:t.n=x.1) (hs:¬lsn<t.pg.p.2.1) (hd:doE t.pg.p x lsn≠0) (hr:RdE lsn S1 l S2 er):RdE lsn S (x::l) S2 er
 |good {S S1 S2:StM}{x:EdT}{l:List EdT}{er:Int}{t:BfT}{pg:PgR}(h:LdR S x.1 S1 0) (ht:t∈S1.pool) (hn:t.n=x.1) (hs:¬lsn<t.pg.p.2.1) (hd:doE t.pg.p x lsn=0) (hp:pg.p=doV t.pg.p x lsn) (hr:RdE lsn {S1 with pool:=da S1.pool x.1 (gz pg),rows:=S1.rows++[pg]} l S2 er):RdE lsn S (x::l) S2 er
def imS(S:StM)(n:Int):StM:={S with ni:=mzP S.im n S.ni,im:=cj S.im n (some true)}
def RdR(S:StM)(lsn:Int)(r:RecM)(S':StM)(er:Int):Prop:=(r.kind=8/\∃A c,ei (ka (imS S r.tbl) ⟨rdP r.note,A,c⟩) r.tbl ⟨rdP r.note,A,c⟩ S' er)\/(r.kind≠8/\RdE lsn S r.eds S' er)
theorem SOk.rows(h:SOk S c)(pg:PgR):SOk (ka S pg) c:=⟨h.bufs,h.pgs,h.ws,h.time,h.ni,h.nt,h.right,h.nodup,h.len,h.keys,h.recs,h.log,h.lsz,h.fl,h.cl⟩
theorem pS{a d:Type}(m:a->Option d)(x:a)(n:Nat):mzP m x n<=n+1:=by unfold mzP;split<;>omega
theorem SOk.im(h:SOk S c)(n:Int):SOk (imS S n) (c+1):=⟨h.bufs,h.pgs,fun x hx=>Nat.le_succ_of_le (h.ws x hx),⟨h.time.1,by have:=h.time.2;show S.time<= _;omega⟩,by have h1:=pS S.im n S.ni;have:=h.ni;show mzP S.im n S.ni<=c+1;omega,Nat.le_succ_of_le h.nt,h.right,h.nodup,h.len,h.keys,h.recs,h.log,h.lsz,h.fl,h.cl⟩
theorem SOk.setR(h:SOk S c)(hr:bJ pg.p):SOk {S with pool:=da S.pool n (gz pg),rows:=S.rows++[pg]} c:=
 ((h.setp (n:=n) (f:=gz pg) (fun _=>rfl) (fun _ _=>hr) (fun _ _ _ hd=>by cases hd))).rows pg
theorem RdE.ok{l:List EdT}(h:RdE lsn S l S' er):∀{c:Nat},SOk S c->SOk S' (c+3*l.length)/\S'.rr=S.rr/\S'.recs=S.recs/\S'.frm=S.frm:=by
 induction h with
 |nil S=>intro c hc;exact⟨hc,rfl,rfl,rfl⟩
 |bad h he=>intro c hc;exact⟨(hc.load h).mono (by simp only[List.length_cons];omega),h.rr,h.rows.2.1,h.rows.2.2.1⟩
 |skip h ht hn hs hr ih=>intro c hc;obtain⟨a,b,d,e⟩:=ih (hc.load h);exact⟨a.mono (by simp only[List.length_cons];omega),b.trans h.rr,d.trans h.rows.2.1,e.trans h.rows.2.2.1⟩
 |fail h ht hn hs hd hr ih=>intro c hc;obtain⟨a,b,d,e⟩:=ih (hc.load h);exact⟨a.mono (by simp only[List.length_cons];omega),b.trans h.rr,d.trans h.rows.2.1,e.trans h.rows.2.2.1⟩
 |good h ht hn hs hd hp hr ih=>
  intro c hc
  obtain⟨a,b,d,e⟩:=ih ((hc.load h).setR (by rw[hp];exact kr hd))
  exact⟨a.mono (by simp only[List.length_cons];omega),b.trans h.rr,d.trans h.rows.2.1,e.trans h.rows.2.2.1⟩
theorem ei.rr(h:ei S n pg S' er):S'.rr=S.rr/\S'.recs=S.recs/\S'.frm=S.frm:=by
 obtain⟨S1,h1,⟨_,rfl⟩|⟨_,_,rfl⟩⟩:=h
 exact⟨h1.rr,h1.rows.2.1,h1.rows.2.2.1⟩
 exact⟨h1.rr,h1.rows.2.1,h1.rows.2.2.1⟩
theorem RdR.ok(h:RdR S lsn r S' er)(hc:SOk S c)(hr:bC r=true):SOk S' (c+200)/\S'.rr=S.rr/\S'.recs=S.recs/\S'.frm=S.frm:=by
 have hro:=dU hr
 rcases h with ⟨_,A,cc,h⟩|⟨_,h⟩
 have h1:=SOk.put ((hc.im r.tbl).rows ⟨rdP r.note,A,cc⟩) (se r.note) h
 exact⟨h1.mono (by omega),h.rr⟩
 obtain⟨a,b⟩:=h.ok hc
 exact⟨a.mono (by have:=hro.many;omega),b⟩
theorem mj(h:(eSt sb db S fp).holds W){t:RcT}(ht:t∈S.rr):At W t.A (t.r.eds.flatMap edC):=by
 obtain⟨mb,RA,rc,EA,ec,ib,tb,h1⟩:=pR h
 exact h1.own t ht
def mh(sb db:Nat)(S:StM)(lsn:Int)(r:RecM)(fp:List Nat)(w:World)(e:Ending)(w':World):Prop:=∃er,e= .returned (.int .i64 er)/\∃fp',St w fp [eSx sb db (fun S2=>RdR S lsn r S2 er) fp'] w'
theorem mh.of(h:RdR S lsn r S2 er)(hs:St w fp ([]++[eSt sb db S2 fp']) w'):mh sb db S lsn r fp w (.returned (.int .i64 er)) w':=⟨er,rfl,fp',St.sx (L:=[]) hs h⟩
theorem wh(sb db:Nat)(S:StM)(lsn:Int)(rt:RcT)(c:Nat)(fp:List Nat)(w:World)(hB:(eSt sb db S fp).holds w)(hlt:∀k∈fp,k<w.heap.size)(hok:SOk S c)(hc:c<=900000)(hr:bC rt.r=true)(hrt:rt∈S.rr)(h8:rt.r.kind=8->rt.r.note.size=512):
  Calls Tryz.prog 61 #[po sb 0,.int .i64 lsn,.agg #[.int .i64 rt.r.kind,.int .i64 rt.r.xid,.int .i64 rt.r.tbl,sn,sn,.slice rt.A rt.r.eds.length rt.c,sn,.string rt.r.note]] w (mh sb db S lsn rt.r fp w):=by
 have st1:St w fp [eSt sb db S fp] w:=St.lend hB (dv _ _ _ _) hlt
 have hro:=dU hr
 have hml:=hro.many
 have hkt:kcI.ok rt.r.tbl:=by have:=hro.tbl;constructor<;>omega
 have hni:=hok.ni
 go_enter Tryz.func61,Tryz.ntmps61
 have aj:=st1
 refine wq (sqr ?_)
 refine b9 #[vi rt.r.kind,vi rt.r.xid,vi rt.r.tbl,sn,sn,.slice rt.A rt.r.eds.length rt.c,sn,.string rt.r.note] aj fun s9 W1 ay=>?_
 refine sqp [.k 6 (vi 0)] ?_
 refine aa (wq (wq (sqr (sqp [.k 15 (vp s9)] ?_))))
 refine aq 1 ay ?_
 refine sqp [.k 17 (.bool (rt.r.kind==8))] ?_
 refine aa (wbs (fun dC=>?_) fun dC=>?_)
 have sZ:=beq_iff_eq.1 dC
 refine wq ?_
 have hk8:rt.r.kind=8:=by simpa using dC
 refine aG [0,1,3,7,15,15,0,95,255] [[],[1],[],[],[],[],[],[3]] [[],[],[2],[],[],[],[3],[4]] [[],[],[],[],[],[],[],[3]] [.k 19 (po s9 7),.c 20 (.string rt.r.note),.a 21,.a 18,.a 22,.a 23,.a 7,.n,.a 8] (fun ix g d X=>match ix with|0|1=>True|2=>g 21= .tuple #[.agg #[vi ((rdP rt.r.note).1),vi ((rdP rt.r.note).2.1),.slice (sA (tg (tg (d 21) 0) 2)) ((rdP rt.r.note).2.2.length) (sC (tg (tg (d 21) 0) 2))],vi (tE (d 21))]/\X 2=eO 9 1 (.slice (sA (tg (tg (d 21) 0) 2)) ((rdP rt.r.note).2.2.length) (sC (tg (tg (d 21) 0) 2))) ((rdP rt.r.note).2.2.length) ((rdP rt.r.note).2.2.map Value.string)|3=>g 18= .tuple #[.agg #[vi ((rdP rt.r.note).1),vi ((rdP rt.r.note).2.1),.slice (sA (tg (tg (d 21) 0) 2)) ((rdP rt.r.note).2.2.length) (sC (tg (tg (d 21) 0) 2))],vi (tE (d 21))]|4=>g 22= .agg #[vi ((rdP rt.r.note).1),vi ((rdP rt.r.note).2.1),.slice (sA (tg (tg (d 21) 0) 2)) ((rdP rt.r.note).2.2.length) (sC (tg (tg (d 21) 0) 2))]|5=>g 23=vi (tE (d 21))|6=>g 7=vp (pb (d 7))/\X 3=eB (pb (d 7)) 48 #[vi 0,vi 0,sn]|7=>X 4=eB (pb (d 7)) 48 #[vi ((rdP rt.r.note).1),vi ((rdP rt.r.note).2.1),.slice (sA (tg (tg (d 21) 0) 2)) ((rdP rt.r.note).2.2.length) (sC (tg (tg (d 21) 0) 2))]|8=>g 8=vi (tE (d 21))|_=>True) [0,1,2,4] [1,2,3,4,5,6,7,8] [(7,6,3,9),(9,3,1,10),(0,0,3,3),(0,4,2,2)] ay ?_ ?_ ?_
 exact fun ix _ _ _ _ _ _ hs hb hx h=>match ix,h with
 |2,h=>by dsimp only;rw[<-hs 21 rfl,<-hb 21 rfl,<-hx 2 rfl];exact h
 |3,h=>by dsimp only;rw[<-hs 18 rfl,<-hb 21 rfl];exact h
 |4,h=>by dsimp only;rw[<-hs 22 rfl,<-hb 21 rfl];exact h
 |5,h=>by dsimp only;rw[<-hs 23 rfl,<-hb 21 rfl];exact h
 |6,h=>by dsimp only;rw[<-hs 7 rfl,<-hb 7 rfl,<-hx 3 rfl];exact h
 |7,h=>by dsimp only;rw[<-hb 7 rfl,<-hb 21 rfl,<-hx 4 rfl];exact h
 |8,h=>by dsimp only;rw[<-hs 8 rfl,<-hb 21 rfl];exact h
 |0,_|1,_|_+9,_=>trivial
 refine⟨?_,?_,?_,?_,?_,?_,?_,?_,trivial⟩
 exact xs4 rfl id fun cx=>ae rfl (by kernel_rfl) (cx.an 0) ((cx.bi 1 rfl).cell 7)
 refine svA fun o d W X cx=>?_
 refine am.call (au (args:=#[.string rt.r.note]) rfl cx.sees rfl (by kernel_rfl) (ax (cx.an 1))) ?_
 refine(Lm (sR rt.r.note _ (h8 hk8))).mono ?_
 rintro e W1 ⟨er4,A4,c4,rfl,ho,hx⟩
 refine⟨_,rfl,bR [eO 9 1 (.slice A4 (rdP rt.r.note).2.2.length c4) (rdP rt.r.note).2.2.length ((rdP rt.r.note).2.2.map Value.string)] rfl rfl hx (one_new (cu ho)) (List.pairwise_singleton _ _) (fun g q X' hs hb hv hN=>?_)⟩
 have aJ:=(hv 21 rfl).1;have aV:=(hv 21 rfl).2
 exact⟨aJ.trans (by rw[aV];exact rfl),(by rw[aV];exact(List.cons.inj hN).1)⟩
 exact sv rfl rfl rfl rfl rfl _ (fun _ _ _ h=>h) (fun d q h=>by rw[h 21 (by decide)]) fun o d W X cx=>dj rfl (dTn (cx.an 2)).1
 exact sv rfl rfl rfl rfl rfl _ (fun _ _ _ h=>h) (fun d q h=>by rw[h 21 (by decide)]) fun o d W X cx=>cd rfl (dTn (cx.an 3)) rfl
 exact sv rfl rfl rfl rfl rfl _ (fun _ _ _ h=>h) (fun d q h=>by rw[h 21 (by decide)]) fun o d W X cx=>cd rfl (dTn (cx.an 3)) rfl
 refine svA fun o d W X cx=>?_
 exact dm (cs:=#[vi 0,vi 0,sn]) rfl (by kernel_rfl) rfl rfl (fun _ _ _ _ _=> .intro)
 refine svA fun o d W X cx=>?_
 exact bx (n:=3) rfl (dTn (cx.an 6)).1 (dTn (cx.an 4)) (by kernel_rfl) (by kernel_rfl) (by kernel_rfl) cx (dTn (cx.an 6)).2 rfl (nle rfl) (by kernel_rfl) rfl rfl rfl (fun g q X' hs hb hx=>by rw[hb 7,hb 21];exact hx)
 exact sv rfl rfl rfl rfl rfl _ (fun _ _ _ h=>h) (fun d q h=>by rw[h 21 (by decide)]) fun o d W X cx=>di rfl (dTn (cx.an 5))
 intro g d X W7 hD aQ fr aD
 simp only[exq 2 ((dTn (hD 2 lq)).2),exq 4 ((dTn (hD 7 lq)))] at aQ
 simp only[ed 21 ((dTn (hD 2 lq)).1),ed 18 ((dTn (hD 3 lq))),ed 22 ((dTn (hD 4 lq))),ed 23 ((dTn (hD 5 lq))),ed 7 ((dTn (hD 6 lq)).1),ed 8 ((dTn (hD 8 lq)))] at aD
 generalize tE (d 21)=RN,sA (tg (tg (d 21) 0) 2)=km,sC (tg (tg (d 21) 0) 2)=kn,pb (d 7)=Sd at aQ aD
 clear hD;subst aD;clear g d X
 refine aa (wq ?_)
 obtain⟨⟨hrw,hrr⟩,mb,RA,rc,EA,ec,ib,tb,fpd,hv8_⟩:=aQ.unf
 refine aG [0,1,3,7,0,16,63] [[],[],[],[0],[],[10],[7]] [[],[],[],[],[],[],[13]] [[],[],[],[],[],[],[7]] [.k 24 (vp sb),.k 25 (vp sb),.k 26 (po sb 6),.c 27 (.map (some ib)),.k 28 (po s9 2),.c 29 (vi rt.r.tbl),.n] (fun ix g d X=>match ix with|0|1|2|3|4|5=>True|6=>X 13=eMx kcI ecB Tryz.prog 3 ib ((mzP S.im rt.r.tbl S.ni)) (cj S.im rt.r.tbl (some true))|_=>True) [0,1,2,3,4,5,6,8,9,10,11,12,13] [3,5,6] [(24,0,6,30)] hv8_ ?_ ?_ ?_
 exact fun ix _ _ _ _ _ _ hs hb hx h=>match ix,h with
 |6,h=>by dsimp only;rw[<-hx 13 rfl];exact h
 |0,_|1,_|2,_|3,_|4,_|5,_|_+7,_=>trivial
 refine⟨?_,?_,?_,trivial⟩
 exact xs4 rfl id fun cx=>ae rfl (by kernel_rfl) (cx.an 2) ((cx.bi 0 rfl).cell 6)
 exact xs4 rfl id fun cx=>ae rfl (by kernel_rfl) (cx.an 4) ((cx.bi 10 rfl).cell 2)
 refine svA fun o d W X cx=>?_
 exact gC (e:=4) (v:=true) (.inl rfl) (cx.an 3) (show o _=Kc.enc kcI rt.r.tbl from(cx.an 5)) (show o _=Ec.enc ecB true from(cx.co _)) cx (cx.init 7 _ rfl) rfl (trivial) (by omega) (hkt) rfl rfl rfl (fun _ _ _ _ _=>id) (hk:=show Program.underlying _ _= _ from by kernel_rfl)
 intro g d X W9 hD cv fr aD
 simp only[exq 13 ((dTn (hD 6 lq)))] at cv
 clear hD;subst aD;clear g d X
 refine aa (wq ?_)
 have hg10_:=St.apf (r:=(⟨rdP rt.r.note,km,kn⟩:PgR)) cv.u10.u4
 obtain⟨fp11_,hk11_⟩:=St.stf (S:=(ka (imS S rt.r.tbl) (⟨rdP rt.r.note,km,kn⟩:PgR))) (hg10_.u11.u7.u7.u7.u4.u7.u7.u7) (fun t ht=>List.mem_append_left _ (hrw t ht)) (hrr)
 have hok2:=(hok.im rt.r.tbl).rows (⟨rdP rt.r.note,km,kn⟩:PgR)
 refine sqr (sqp [.m 30 0,.k 31 (po s9 2)] ?_)
 refine aq 1 hk11_ ?_
 refine bI 2 3 hk11_ ?_
 refine oU (fun x_=>tZ x_) (fun X_=>X_.fp) (fun er34_16=>vi er34_16) (fun er34_16 I3=>eSx sb db (fun S2=>ei (ka (imS S rt.r.tbl) (⟨rdP rt.r.note,km,kn⟩:PgR)) rt.r.tbl (⟨rdP rt.r.note,km,kn⟩:PgR) S2 er34_16) I3) 0 hk11_ (by
   refine svA fun o d W X cx=>?_
   refine am.call (au (args:=#[vp sb,vi rt.r.tbl,.agg #[vi ((rdP rt.r.note).1),vi ((rdP rt.r.note).2.1),.slice km ((rdP rt.r.note).2.2.length) kn]]) rfl cx.sees rfl (by kernel_rfl) (dL (cx.ou 30) (cx.ou 32) (cx.ou 33))) ?_
   refine(sU sb db (ka (imS S rt.r.tbl) (⟨rdP rt.r.note,km,kn⟩:PgR)) rt.r.tbl (⟨rdP rt.r.note,km,kn⟩:PgR) (c+1) _ _ (CtxV.holdF cx (cx.init 0 _ rfl) rfl) (CtxV.ltF cx (cx.init 0 _ rfl) rfl) hok2 (by omega) hkt (by simp[ka])).mono ?_
   rintro e W1 ⟨er4,rfl,fp4,aT⟩
   refine⟨_,rfl,aK (E:=eSt sb db (ka (imS S rt.r.tbl) (⟨rdP rt.r.note,km,kn⟩:PgR)) fp11_) [eSx sb db (fun S2=>ei (ka (imS S rt.r.tbl) (⟨rdP rt.r.note,km,kn⟩:PgR)) rt.r.tbl (⟨rdP rt.r.note,km,kn⟩:PgR) S2 er4) fp4] (cx.init 0 _ rfl) rfl rfl aT (fun g q X' hs hb hv hN=>?_)⟩
   have aJ:=(hv 34 rfl).1;have aV:=(hv 34 rfl).2
   exact⟨aJ.trans (by rw[aV];exact rfl),(by rw[aV];exact fS ((List.cons.inj hN).1))⟩) fun er34_16 I3 qH dw=>?_
 refine sqp [.m 6 34] ?_
 refine aa (wp_ret (ai ?_))
 refine bpr (vi er34_16) (ag Tryz.results61 rpt) ?_
 obtain⟨S3,hP,hy18_⟩:=dw.unx
 exact mh.of (.inl ⟨hk8,_,_,hP⟩) (hy18_.pick [0] (by decide) rfl)
 have sZ:=beq_eq_false_iff_ne.1 dC
 refine wp_skip (aa (wq (wq (sqr (sqp [.k 35 (po s9 5)] ?_)))))
 refine aq 1 ay ?_
 refine sqp [.k 37 (vi ((rt.r.eds.length:Int))),.k 38 (vi 0)] ?_
 refine aa (wp_block ?_)
 refine aN (fun t_ mz az W=>∃j:Nat,∃Sj:StM,∃fpj:List Nat,j<=rt.r.eds.length/\(∀S2 er,RdE lsn Sj (rt.r.eds.drop j) S2 er->RdE lsn S rt.r.eds S2 er)/\SOk Sj (c+3*j)/\rt∈Sj.rr/\mz=rt.r.eds.length-j/\az=⟨(ovr (jv az) [(6,6,1,[]),(3,10,5,[]),(23,38,0,[vi ((j:Int))]),(0,39,40,[])] t_).toArray,[]⟩/\St w fp [eB s9 27 #[vi rt.r.kind,vi rt.r.xid,vi rt.r.tbl,sn,sn,.slice rt.A rt.r.eds.length rt.c,sn,.string rt.r.note],eSt sb db Sj fpj] W) (rt.r.eds.length-0) ?_ ?_
 exact⟨0,S,fp,Nat.zero_le _,fun S2 er h=>h,hok,hrt,rfl,(by kernel_rfl),ay.pk [1,0]⟩
 rintro uK a23 uA ⟨j,Sj,fpj,hj,hcont,hokj,hrtj,rfl,hj_,cF⟩
 refine ovz hj_ fun Se=>?_
 refine wq (sqr (sqp [.k 39 (.bool (decide ((j:Int)<(rt.r.eds.length:Int))))] ?_))
 refine aa (wq (wds (fun PH N7=>?_) fun PH N7=>?_))
 refine wp_skip (aa (wq (wp_block (wq ?_))))
 obtain⟨ep,es,eb,hek⟩:=kZ (l:=rt.r.eds) (k:=j) (by omega)
 have hke:edR (ep,es,eb)=true:=hro.eds _ (List.mem_of_getElem? hek)
 have hez:eb.size<=9223372036854775807:=by have:=dx hke;dsimp only at this;omega
 have hkn:kcI.ok ep:=by have:=(kV hke).1;dsimp only at this;constructor<;>omega
 refine sqr ?_
 refine sql (.pointer (some ((ad rt.A).add (j*3)))) cF (fun cx=>aB (e:=84) (m:=j) (sz:=3) rfl (by kernel_rfl) (by kernel_rfl) (cx.ou 36) (cx.ou 38) (by omega) (by omega) (mj (CtxV.holdF cx (cx.init 1 _ rfl) rfl) hrtj) (bj (sz:=3) bD (by decide) (by omega))) ?_
 refine sql (.agg #[vi ep,vi es,.string eb]) cF (fun cx=>bF (f:=edC) (m:=j) (sz:=3) (off:=0) (n:=3) rfl (by kernel_rfl) (by kernel_rfl) (cx.ou 40) rfl bD (mj (CtxV.holdF cx (cx.init 1 _ rfl) rfl) hrtj) hek (fun k hk=>match k,hk with|0,_=>rfl|1,_=>rfl|2,_=>rfl|k+3,hk=>absurd hk (by omega))) ?_
 refine b8 #[vi 0,vi 0,.string ByteArray.empty] cF fun Mz zh dS=>?_
 refine aX (n:=3) 2 #[vi ep,vi es,.string eb] dS fun IR iH=>?_
 refine aa (wq (sqr (sqp [.m 43 0,.k 44 (vp Mz)] ?_)))
 refine aq 2 iH ?_
 refine xi (fun x_=>tE x_) (fun x_=>tF x_) (fun X_=>X_.fp) (fun er46_33 vp46_33=> .tuple #[vp46_33,vi er46_33]) (fun er46_33 vp46_33 uy=>eSx sb db (fun S2=>LdQ Sj ep S2 er46_33 vp46_33) uy) 1 iH (by
   refine svA fun o d W X cx=>?_
   refine am.call (au (args:=#[vp sb,vi ep]) rfl cx.sees rfl (by kernel_rfl) (aM (cx.ou 43) (cx.ou 45))) ?_
   refine(nu sb db Sj ep (c+3*j) _ _ (CtxV.holdF cx (cx.init 1 _ rfl) rfl) (CtxV.ltF cx (cx.init 1 _ rfl) rfl) hokj (by omega) hkn).mono ?_
   rintro e W1 ⟨er4,vp4,rfl,fp4,aT⟩
   refine⟨_,rfl,aK (E:=eSt sb db Sj fpj) [eSx sb db (fun S2=>LdQ Sj ep S2 er4 vp4) fp4] (cx.init 1 _ rfl) rfl rfl aT (fun g q X' hs hb hv hN=>?_)⟩
   have aJ:=(hv 46 rfl).1;have aV:=(hv 46 rfl).2
   exact⟨aJ.trans (by rw[aV];exact rfl),(by rw[aV];exact fS ((List.cons.inj hN).1))⟩) fun er46_33 vp46_33 uy OS rB=>?_
 refine sqp [.m 42 46,.k 47 (vp46_33),.k 48 (vi er46_33),.m 11 47,.m 12 48] ?_
 refine aa (wq (wq ?_))
 obtain⟨S1,hL,hy39_⟩:=rB.u1.unx
 have hok1:=hokj.load hL.1
 refine sqr (sqp [.m 49 12,.k 50 (.bool (er46_33 != 0))] ?_)
 refine aa (wbs (fun vS=>?_) fun vS=>?_)
 have N8:=bne_iff_ne.1 vS
 refine wq (sqr (sqp [.m 51 12,.m 6 51] ?_))
 refine aa (wp_ret (ai (bb (ai (ai (bb (ai ?_)))))))
 refine bpr (vi er46_33) (ag Tryz.results61 rpt) ?_
 exact mh.of (.inr ⟨(by simpa using dC),hcont _ _ (by rw[List.drop_eq_getElem_cons (by omega:j<rt.r.eds.length),show rt.r.eds[j]'(by omega)=(ep,es,eb) from(List.getElem?_eq_some_iff.1 hek).2];exact RdE.bad hL.1 (by simpa using vS))⟩) (hy39_.pick [0] (by decide) rfl)
 have N8:=bne_eq_false_iff_eq.1 vS
 refine wp_skip (aa (wq (wq ?_)))
 have hl0:=AY hL.1 (by simpa using vS)
 obtain⟨t,htm_t,rfl,rfl⟩:=hL.2 (by simpa using vS)
 obtain⟨⟨hrw1,hrr1⟩,mb1,RA1,rc1,EA1,ec1,ib1,tb1,fpd1,hv45_⟩:=hy39_.unf
 obtain⟨A,B,hAB⟩:=List.append_of_mem htm_t
 have hnd:((A++t::B).map BfT.n).Nodup:=by rw[<-hAB];exact hok1.nodup
 have hri:=hok1.right t htm_t
 rw[hAB] at hv45_
 have ho46_:=St.obf (t:=t) hv45_.u2
 refine sqr (sqp [.m 52 11,.k 53 (po t.blk 0),.k 54 (po t.blk 0),.k 55 (po t.blk 1)] ?_)
 refine aq 1 ho46_ ?_
 refine sqp [.m 57 1,.k 58 (.bool (decide (lsn<t.pg.p.2.1)))] ?_
 refine aa (wds (fun CP N9=>?_) fun CP N9=>?_)
 refine wp_exit (al (bf (aa (sqr (sqp [sI 78 ((j:Int)+1) (by omega),.m 38 78] ?_)))))
 refine aa ?_
 have hi57_:=St.ibf (t:=t) ho46_
 obtain⟨fp58_,hk58_⟩:=St.stf (S:=S1) (by have h_:=hi57_.u2.u2;rw[<-hAB] at h_;exact h_) (hrw1) (hrr1)
 refine⟨rt.r.eds.length-((j+1)),by omega,?_⟩
 exact⟨(j+1),S1,fp58_,by omega,(fun S2 er h=>hcont S2 er (by rw[List.drop_eq_getElem_cons (by omega:j<rt.r.eds.length),show rt.r.eds[j]'(by omega)=(t.n,es,eb) from(List.getElem?_eq_some_iff.1 hek).2];exact RdE.skip (x:=(t.n,es,eb)) hl0 htm_t rfl (of_decide_eq_true CP) h)),(hok1.mono (by omega)),(by show rt∈S1.rr;rw[hl0.rr];exact hrtj),rfl,(by kernel_rfl),hk58_.pk [1,0]⟩
 refine wp_skip (aa (wq (aG [0,1,3,7,0,0,63,127,255,255,0,1535,4095] [[],[],[],[1],[12],[],[4],[],[],[],[],[14]] [[],[],[],[],[],[],[13],[],[],[],[14],[15]] [[],[],[],[],[],[],[],[],[],[],[],[14]] [.k 60 (po t.blk 0),.k 61 (po t.blk 0),.k 62 (po t.blk 0),.c 63 (.agg #[vi t.pg.p.1,vi t.pg.p.2.1,.slice t.pg.A t.pg.p.2.2.length t.pg.c]),.c 64 (.agg #[vi t.n,vi es,.string eb]),.k 65 (vi lsn),.a 66,.a 59,.a 67,.c 68 (vi ((doE t.pg.p (t.n,es,eb) lsn))),.a 13,.n,.k 14 (vi ((doE t.pg.p (t.n,es,eb) lsn)))] (fun ix g d X=>match ix with|0|1|2|3|4|5=>True|6=>g 66= .tuple #[.agg #[vi ((doR t.pg.p (t.n,es,eb) lsn).1),vi ((doR t.pg.p (t.n,es,eb) lsn).2.1),.slice (sA (tg (tg (d 66) 0) 2)) ((doR t.pg.p (t.n,es,eb) lsn).2.2.length) (sC (tg (tg (d 66) 0) 2))],vi ((doE t.pg.p (t.n,es,eb) lsn))]/\X 13=eO 9 1 (.slice (sA (tg (tg (d 66) 0) 2)) ((doR t.pg.p (t.n,es,eb) lsn).2.2.length) (sC (tg (tg (d 66) 0) 2))) ((doR t.pg.p (t.n,es,eb) lsn).2.2.length) ((doR t.pg.p (t.n,es,eb) lsn).2.2.map Value.string)|7=>g 59= .tuple #[.agg #[vi ((doR t.pg.p (t.n,es,eb) lsn).1),vi ((doR t.pg.p (t.n,es,eb) lsn).2.1),.slice (sA (tg (tg (d 66) 0) 2)) ((doR t.pg.p (t.n,es,eb) lsn).2.2.length) (sC (tg (tg (d 66) 0) 2))],vi ((doE t.pg.p (t.n,es,eb) lsn))]|8=>g 67= .agg #[vi ((doR t.pg.p (t.n,es,eb) lsn).1),vi ((doR t.pg.p (t.n,es,eb) lsn).2.1),.slice (sA (tg (tg (d 66) 0) 2)) ((doR t.pg.p (t.n,es,eb) lsn).2.2.length) (sC (tg (tg (d 66) 0) 2))]|9=>True|10=>g 13=vp (pb (d 13))/\X 14=eB (pb (d 13)) 48 #[vi 0,vi 0,sn]|11=>X 15=eB (pb (d 13)) 48 #[vi ((doR t.pg.p (t.n,es,eb) lsn).1),vi ((doR t.pg.p (t.n,es,eb) lsn).2.1),.slice (sA (tg (tg (d 66) 0) 2)) ((doR t.pg.p (t.n,es,eb) lsn).2.2.length) (sC (tg (tg (d 66) 0) 2))]|_=>True) [0,1,2,3,4,5,6,7,8,9,10,11,12,13,15] [3,4,6,7,8,9,10,11] [(13,10,3,15),(44,7,1,45),(0,0,7,7),(0,8,2,2)] ho46_ ?_ ?_ ?_)))
 exact fun ix _ _ _ _ _ _ hs hb hx h=>match ix,h with
 |6,h=>by dsimp only;rw[<-hs 66 rfl,<-hb 66 rfl,<-hx 13 rfl];exact h
 |7,h=>by dsimp only;rw[<-hs 59 rfl,<-hb 66 rfl];exact h
 |8,h=>by dsimp only;rw[<-hs 67 rfl,<-hb 66 rfl];exact h
 |10,h=>by dsimp only;rw[<-hs 13 rfl,<-hb 13 rfl,<-hx 14 rfl];exact h
 |11,h=>by dsimp only;rw[<-hb 13 rfl,<-hb 66 rfl,<-hx 15 rfl];exact h
 |0,_|1,_|2,_|3,_|4,_|5,_|9,_|_+12,_=>trivial
 refine⟨?_,?_,?_,?_,?_,?_,?_,?_,trivial⟩
 exact xs4 rfl id fun cx=>ce (n:=3) rfl (by kernel_rfl) (by kernel_rfl) (cx.an 2) (cx.bi 1 rfl) (nle rfl) rfl
 exact xs4 rfl id fun cx=>ce (n:=3) rfl (by kernel_rfl) (by kernel_rfl) (cx.ou 10) (cx.bi 12 rfl) (nle rfl) rfl
 refine svA fun o d W X cx=>?_
 refine am.call (au (args:=#[.agg #[vi t.pg.p.1,vi t.pg.p.2.1,.slice t.pg.A t.pg.p.2.2.length t.pg.c],.agg #[vi t.n,vi es,.string eb],vi lsn]) rfl cx.sees rfl (by kernel_rfl) (dL (cx.an 3) (cx.an 4) (cx.an 5))) ?_
 refine(Eu (xK t.pg.p.1 t.pg.p.2.1 _ _ t.pg.p.2.2 t.n es eb lsn _ (jd (CtxV.holdF cx (cx.init 4 _ rfl) rfl) (hrw1 t htm_t)) hri.1 (eh hri.1) hez)).mono ?_
 rintro e W1 ⟨A4,c4,rfl,ho,hx⟩
 refine⟨_,rfl,bR [eO 9 1 (.slice A4 (doR t.pg.p (t.n,es,eb) lsn).2.2.length c4) (doR t.pg.p (t.n,es,eb) lsn).2.2.length ((doR t.pg.p (t.n,es,eb) lsn).2.2.map Value.string)] rfl rfl hx (one_new (cu ho)) (List.pairwise_singleton _ _) (fun g q X' hs hb hv hN=>?_)⟩
 have aJ:=(hv 66 rfl).1;have aV:=(hv 66 rfl).2
 exact⟨aJ.trans (by rw[aV];exact rfl),(by rw[aV];exact(List.cons.inj hN).1)⟩
 exact sv rfl rfl rfl rfl rfl _ (fun _ _ _ h=>h) (fun d q h=>by rw[h 66 (by decide)]) fun o d W X cx=>dj rfl (dTn (cx.an 6)).1
 exact sv rfl rfl rfl rfl rfl _ (fun _ _ _ h=>h) (fun d q h=>by rw[h 66 (by decide)]) fun o d W X cx=>cd rfl (dTn (cx.an 7)) rfl
 exact xs4 rfl id fun cx=>cd rfl (dTn (cx.an 7)) rfl
 refine svA fun o d W X cx=>?_
 exact dm (cs:=#[vi 0,vi 0,sn]) rfl (by kernel_rfl) rfl rfl (fun _ _ _ _ _=> .intro)
 refine svA fun o d W X cx=>?_
 exact bx (n:=3) rfl (dTn (cx.an 10)).1 (dTn (cx.an 8)) (by kernel_rfl) (by kernel_rfl) (by kernel_rfl) cx (dTn (cx.an 10)).2 rfl (nle rfl) (by kernel_rfl) rfl rfl rfl (fun g q X' hs hb hx=>by rw[hb 13,hb 66];exact hx)
 intro g d X Fi hD f9 fr aD
 simp only[exq 13 ((dTn (hD 6 lq)).2),exq 15 ((dTn (hD 11 lq)))] at f9
 simp only[ed 66 ((dTn (hD 6 lq)).1),ed 59 ((dTn (hD 7 lq))),ed 67 ((dTn (hD 8 lq))),ed 13 ((dTn (hD 10 lq)).1)] at aD
 generalize sA (tg (tg (d 66) 0) 2)=fU,sC (tg (tg (d 66) 0) 2)=fV,pb (d 13)=QY at f9 aD
 clear hD;subst aD;clear g d X
 refine aa (wq (sqr (sqp [.m 69 14,.k 70 (.bool ((doE t.pg.p (t.n,es,eb) lsn)==0))] ?_)))
 refine aa (wbs (fun m5=>?_) fun m5=>?_)
 have CQ:=beq_iff_eq.1 m5
 have hd0:doE t.pg.p (t.n,es,eb) lsn=0:=by simpa using m5
 refine sqr (sqp [.m 71 11,.m 72 11] ?_)
 refine bI 14 3 f9 ?_
 refine sqp [.k 74 (po t.blk 0),.k 75 (po t.blk 0)] ?_
 refine aX (n:=3) 1 #[vi ((doR t.pg.p (t.n,es,eb) lsn).1),vi ((doR t.pg.p (t.n,es,eb) lsn).2.1),.slice fU ((doR t.pg.p (t.n,es,eb) lsn).2.2.length) fV,.bool t.dirty,vi t.used] f9 fun Fj gF=>?_
 refine sqp [.k 76 (po t.blk 0),.k 77 (po t.blk 3)] ?_
 refine aX (n:=1) 1 #[vi ((doR t.pg.p (t.n,es,eb) lsn).1),vi ((doR t.pg.p (t.n,es,eb) lsn).2.1),.slice fU ((doR t.pg.p (t.n,es,eb) lsn).2.2.length) fV,.bool true,vi t.used] gF fun QQ CK=>?_
 refine av (aa (sqr (sqp [sI 78 ((j:Int)+1) (by omega),.m 38 78] ?_)))
 refine aa ?_
 have hg74_:=St.apf (r:=(⟨doR t.pg.p (t.n,es,eb) lsn,fU,fV⟩:PgR)) CK.u13.u5
 have hi75_:=St.ibf (t:=(gz (⟨doR t.pg.p (t.n,es,eb) lsn,fU,fV⟩:PgR) t)) hg74_.u2.u2
 obtain⟨fp76_,hk76_⟩:=St.stf (S:={S1 with pool:=da S1.pool t.n (gz (⟨doR t.pg.p (t.n,es,eb) lsn,fU,fV⟩:PgR)),rows:=S1.rows++[(⟨doR t.pg.p (t.n,es,eb) lsn,fU,fV⟩:PgR)]}) (by have h_:=hi75_.u3.u3;rw[stL,stC];dsimp only;rw[hAB,ks hnd,nZ (A:=A) (B:=B) (t:=t) (u:=gz (⟨doR t.pg.p (t.n,es,eb) lsn,fU,fV⟩:PgR) t) rfl rfl,show (A++gz (⟨doR t.pg.p (t.n,es,eb) lsn,fU,fV⟩:PgR) t::B).length=(A++t::B).length by simp];exact h_) (by show ∀u∈da S1.pool t.n (gz (⟨doR t.pg.p (t.n,es,eb) lsn,fU,fV⟩:PgR)),u.pg∈S1.rows++[(⟨doR t.pg.p (t.n,es,eb) lsn,fU,fV⟩:PgR)];rw[hAB,ks hnd];exact fun u hu=>(List.mem_append.1 hu).elim (fun h=>List.mem_append_left _ (hrw1 u (by rw[hAB];simp[h]))) fun h=>(List.mem_cons.1 h).elim (fun h=>by rw[h];exact List.mem_append_right _ (List.mem_singleton.2 rfl)) fun h=>List.mem_append_left _ (hrw1 u (by rw[hAB];simp[h]))) (hrr1)
 refine⟨rt.r.eds.length-((j+1)),by omega,?_⟩
 exact⟨(j+1),{S1 with pool:=da S1.pool t.n (gz (⟨doR t.pg.p (t.n,es,eb) lsn,fU,fV⟩:PgR)),rows:=S1.rows++[(⟨doR t.pg.p (t.n,es,eb) lsn,fU,fV⟩:PgR)]},fp76_,by omega,(fun S2 er h=>hcont S2 er (by rw[List.drop_eq_getElem_cons (by omega:j<rt.r.eds.length),show rt.r.eds[j]'(by omega)=(t.n,es,eb) from(List.getElem?_eq_some_iff.1 hek).2];exact RdE.good (x:=(t.n,es,eb)) (pg:=(⟨doR t.pg.p (t.n,es,eb) lsn,fU,fV⟩:PgR)) hl0 htm_t rfl (of_decide_eq_false CP) hd0 (ro hd0) h)),((hok1.setR (n:=t.n) (pg:=(⟨doR t.pg.p (t.n,es,eb) lsn,fU,fV⟩:PgR)) (by rw[show ((⟨doR t.pg.p (t.n,es,eb) lsn,fU,fV⟩:PgR)).p= _ from ro hd0];exact kr hd0)).mono (by omega)),(by show rt∈S1.rr;rw[hl0.rr];exact hrtj),rfl,(by kernel_rfl),hk76_.pk [1,0]⟩
 have CQ:=beq_eq_false_iff_ne.1 m5
 refine wp_skip (av (aa (sqr (sqp [sI 78 ((j:Int)+1) (by omega),.m 38 78] ?_))))
 refine aa ?_
 have hi79_:=St.ibf (t:=t) f9
 obtain⟨fp80_,hk80_⟩:=St.stf (S:=S1) (by have h_:=hi79_.u2.u2;rw[<-hAB] at h_;exact h_) (hrw1) (hrr1)
 refine⟨rt.r.eds.length-((j+1)),by omega,?_⟩
 exact⟨(j+1),S1,fp80_,by omega,(fun S2 er h=>hcont S2 er (by rw[List.drop_eq_getElem_cons (by omega:j<rt.r.eds.length),show rt.r.eds[j]'(by omega)=(t.n,es,eb) from(List.getElem?_eq_some_iff.1 hek).2];exact RdE.fail (x:=(t.n,es,eb)) hl0 htm_t rfl (of_decide_eq_false CP) (by simpa using m5) h)),(hok1.mono (by omega)),(by show rt∈S1.rr;rw[hl0.rr];exact hrtj),rfl,(by kernel_rfl),hk80_.pk [1,0]⟩
 refine wp_exit (al (al (bf (aa (wq (sqr (sqp [.k 6 (vi 0)] ?_)))))))
 refine aa (wp_ret ?_)
 refine bpr (vi 0) (ag Tryz.results61 rpt) ?_
 exact mh.of (.inr ⟨(by simpa using dC),hcont _ _ (by rw[List.drop_of_length_le (by omega)];exact RdE.nil _)⟩) (cF.pick [1] (by decide) rfl)
end
section
open Go.RowKit
def iQ(sb db:Nat)(S:StM)(mb:Nat)(RA:Option Addr)(rc:Nat)(EA:Option Addr)(ec ib tb:Nat)(fpd fp:List Nat):Ent:=⟨fp,fun W=>((∀t∈S.pool,t.pg∈S.rows)/\∀t∈S.recs,t∈S.rr)/\fp=(stL sb db S mb RA rc EA ec ib tb fpd).flatMap (·.fp)/\(stL sb db S mb RA rc EA ec ib tb fpd).Pairwise Ent.apart/\∀e∈stL sb db S mb RA rc EA ec ib tb fpd,e.holds W/\e.loc⟩
theorem vD(h:(iQ sb db S mb RA rc EA ec ib tb fpd fp).holds W):(eSt sb db S fp).holds W:=⟨h.1,mb,RA,rc,EA,ec,ib,tb,fpd,h.2⟩
theorem x4(sb db:Nat)(S:StM)(mb:Nat)(RA:Option Addr)(rc:Nat)(EA:Option Addr)(ec ib tb:Nat)(fpd fp:List Nat):(iQ sb db S mb RA rc EA ec ib tb fpd fp).loc:=fun W W' hk h=>by
 obtain⟨h0,h1,h2,h3⟩:=h
 exact⟨h0,h1,h2,fun e he=>⟨(h3 e he).2 W W' (fun k hk'=>hk k (by rw[iQ,h1];exact List.mem_flatMap.2 ⟨e,he,hk'⟩)) (h3 e he).1,(h3 e he).2⟩⟩
theorem St.toA{L:List Ent}(h:St w0 bor (L++[eSt sb db S fp]) W):∃mb RA rc EA ec ib tb fpd,St w0 bor (L++[iQ sb db S mb RA rc EA ec ib tb fpd fp]) W:=by
 obtain⟨h0,mb,RA,rc,EA,ec,ib,tb,fpd,h1⟩:=(h.ok (eSt sb db S fp) (by simp)).holds
 exact⟨mb,RA,rc,EA,ec,ib,tb,fpd,St.repl (L2:=[]) h rfl (fun _=>⟨h0,h1⟩) (x4 _ _ _ _ _ _ _ _ _ _ _ _)⟩
theorem St.ofA{L:List Ent}(h:St w0 bor (L++[iQ sb db S mb RA rc EA ec ib tb fpd fp]) W):St w0 bor (L++[eSt sb db S fp]) W:=St.repl (L2:=[]) h rfl vD (dv _ _ _ _)
theorem kd(h:(iQ sb db S mb RA rc EA ec ib tb fpd fp).holds W):StO W sb db S mb RA rc EA ec ib tb:=DK fun e he=>(h.2.2.2 e he).1
def scL(L:List RecM)(Ps:List RcT)(LA:Option Addr)(lc:Nat)(EA:Option Addr)(ec:Nat):List Ent:=[eO 27 8 (.slice LA L.length lc) L.length (Ps.flatMap rcC),eO 3 1 (.slice EA L.length ec) L.length ((cM L L.length).map (Value.int .i64)),eRc Ps]
def eSc(L:List RecM)(LA:Option Addr)(lc:Nat)(EA:Option Addr)(ec:Nat)(fp:List Nat):Ent:=⟨fp,fun W=>∃Ps,Ps.map RcT.r=L/\fp=(scL L Ps LA lc EA ec).flatMap (·.fp)/\(scL L Ps LA lc EA ec).Pairwise Ent.apart/\∀e∈scL L Ps LA lc EA ec,e.holds W/\e.loc⟩
theorem KM(L:List RecM)(LA:Option Addr)(lc:Nat)(EA:Option Addr)(ec:Nat)(fp:List Nat):(eSc L LA lc EA ec fp).loc:=fun W W' hk h=>by
 obtain⟨Ps,h0,h1,h2,h3⟩:=h
 exact⟨Ps,h0,h1,h2,fun e he=>⟨(h3 e he).2 W W' (fun k hk'=>hk k (by rw[eSc,h1];exact List.mem_flatMap.2 ⟨e,he,hk'⟩)) (h3 e he).1,(h3 e he).2⟩⟩
theorem G9{e:Ent}(h:e=eSc L LA lc EA ec fp):e=eSc L LA lc EA ec e.fp:=by subst h;rfl
theorem St.sc{Ps:List RcT}(h:St w0 bor (L0++scL L Ps LA lc EA ec) W)(hp:Ps.map RcT.r=L):∃fp,St w0 bor (L0++[eSc L LA lc EA ec fp]) W:=by
 refine⟨_,St.pack (E:=eSc L LA lc EA ec ((scL L Ps LA lc EA ec).flatMap (·.fp))) h rfl ⟨Ps,hp,rfl,(List.pairwise_append.1 h.apart).2.1,fun e he=>?_⟩ (KM _ _ _ _ _ _)⟩
 have h3:=h.ok e (List.mem_append_right _ he)
 exact⟨h3.holds,h3.loc⟩
theorem St.unsc(h:St w0 bor (L0++[eSc L LA lc EA ec fp]) W):∃Ps,Ps.map RcT.r=L/\St w0 bor (L0++scL L Ps LA lc EA ec) W:=by
 obtain⟨Ps,h0,h1,h2,h3⟩:=(h.ok (eSc L LA lc EA ec fp) (by simp)).holds
 exact⟨Ps,h0,h.unpackL h1 h3 h2⟩
theorem St.unscf(h:St w0 bor (eSc L LA lc EA ec fp::L0) W):∃Ps,Ps.map RcT.r=L/\St w0 bor (eO 27 8 (.slice LA L.length lc) L.length (Ps.flatMap rcC)::eO 3 1 (.slice EA L.length ec) L.length ((cM L L.length).map (Value.int .i64))::eRc Ps::L0) W:=by
 obtain⟨Ps,h1,h2⟩:=St.unsc (h.perm (List.perm_append_singleton _ _).symm)
 exact⟨Ps,h1,h2.perm List.perm_append_comm⟩
theorem HW(h:Calls Tryz.prog f args w (C7 L w)):Calls Tryz.prog f args w (fun e w'=>∃LA lc EA ec fp,e= .returned (.tuple #[.slice LA L.length lc,.slice EA L.length ec])/\St w [] [eSc L LA lc EA ec fp] w'):=by
 refine h.mono fun e w' h=>?_
 obtain⟨LA,lc,EA,ec,Ps,h1,h2,h3⟩:=h
 obtain⟨fp,h4⟩:=St.sc (L0:=[]) h3 h1
 exact⟨LA,lc,EA,ec,fp,h2,h4⟩
theorem St.dkOf{L:List Ent}(h:St w0 bor (L++[eSt sb db S fp]) W):∃fpd,St w0 bor (L++[eDk db S.D fpd]) W:=by
 obtain⟨_,mb,RA,rc,EA,ec,ib,tb,fpd,h1⟩:=h.unst
 have h2:St w0 bor ((L++[eDk db S.D fpd])++[eB sb 109 (stC db S mb RA rc EA ec ib tb),eMx kcI ptX Tryz.prog 3 mb S.pool.length (atM S.pool),eA (S.pool.map fv),eM (S.rows.map dK),eO 27 8 (.slice RA S.recs.length rc) S.recs.length (S.recs.flatMap rcC),eO 3 1 (.slice EA S.recs.length ec) S.recs.length ((cM S.L S.recs.length).map (Value.int .i64)),eRc S.rr,eMx kcI ecB Tryz.prog 3 ib S.ni S.im,eMx kcI ecB Tryz.prog 3 tb S.nt S.told]) W:=h1.perm (by
  rw[List.append_assoc]
  refine List.Perm.append_left L ?_
  exact List.perm_append_comm (l₁:=[_,_,_,_,_,_,_,_,_]) (l₂:=[_]))
 exact⟨fpd,⟨h2.upd,fun e he=>h2.ok e (List.mem_append_left _ he),(List.pairwise_append.1 h2.apart).1⟩⟩
inductive RdL:Nat->StM->List RecM->StM->Int->Prop where
 |nil (k:Nat) (S:StM):RdL k S [] S 0
 |bad {k:Nat}{S S1:StM}{r:RecM}{l:List RecM}{er:Int}(h:RdR S ((k:Int)+1) r S1 er) (he:er≠0):RdL k S (r::l) S1 er
 |cons {k:Nat}{S S1 S2:StM}{r:RecM}{l:List RecM}{er:Int}(h:RdR S ((k:Int)+1) r S1 0) (hr:RdL (k+1) S1 l S2 er):RdL k S (r::l) S2 er
def gh(D:DkM)(L:List RecM):DkM×Int:=if szF L<D.log.size then opD D (ctE D (szF L)) (ctD (szF L)) else (D,0)
def iN(D:DkM)(bufs:Int)(rs:List RcT)(frm:Int):StM:=⟨D,bufs,[],0,rs,0,fun _=>none,0,fun _=>none,frm,[],rs⟩
inductive OpnR (D:DkM) (bufs:Int) (L:List RecM):(StM ⊕ DkM)->Int->Prop where
 |bufs (h:¬(1<=bufs/\bufs<=64)):OpnR D bufs L (.inr D) 30
 |off (h:1<=bufs/\bufs<=64) (ho:D.off=true):OpnR D bufs L (.inr D) 24
 |form (h:1<=bufs/\bufs<=64) (ho:D.off=false) (hf:bn L=0):OpnR D bufs L (.inr D) 11
 |cut (h:1<=bufs/\bufs<=64) (ho:D.off=false) (hf:bn L≠0) (hc:(gh D L).2≠0):OpnR D bufs L (.inr (gh D L).1) (gh D L).2
 |bad (h:1<=bufs/\bufs<=64) (ho:D.off=false) (hf:bn L≠0) (hc:(gh D L).2=0) (rs:List RcT) (hrs:rs.map RcT.r=L){S:StM}{er:Int}(hr:RdL (bn L) (iN (gh D L).1 bufs rs (bn L)) (L.drop (bn L)) S er) (he:er≠0):OpnR D bufs L (.inr S.D) er
 |ok (h:1<=bufs/\bufs<=64) (ho:D.off=false) (hf:bn L≠0) (hc:(gh D L).2=0) (rs:List RcT) (hrs:rs.map RcT.r=L){S:StM}(hr:RdL (bn L) (iN (gh D L).1 bufs rs (bn L)) (L.drop (bn L)) S 0):OpnR D bufs L (.inl S) 0
def opP(sb:Nat):(StM ⊕ DkM)->Value
 | .inl _=> .pointer (some ⟨sb,0,none⟩)
 | .inr _=> .pointer none
def eOp(sb db:Nat)(R:StM ⊕ DkM)(fp:List Nat):Ent:=match R with
 | .inl S=>eSt sb db S fp
 | .inr D=>eDk db D fp
theorem Lp(sb db:Nat)(R:StM ⊕ DkM)(fp:List Nat):(eOp sb db R fp).fp=fp:=by cases R<;>rfl
theorem JP(sb db:Nat)(R:StM ⊕ DkM)(fp:List Nat):(eOp sb db R fp).loc:=by
 cases R with
 |inl S=>exact dv _ _ _ _
 |inr D=>exact dV _ _ _
def eOx(db:Nat)(D:DkM)(bufs:Int)(L:List RecM)(v:Value)(er:Int)(fp:List Nat):Ent:=⟨fp,fun W=>∃sb R,OpnR D bufs L R er/\v=opP sb R/\(eOp sb db R fp).holds W⟩
theorem Bk(db:Nat)(D:DkM)(bufs:Int)(L:List RecM)(v:Value)(er:Int)(fp:List Nat):(eOx db D bufs L v er fp).loc:=fun W W' hk h=>by
 obtain⟨sb,R,h1,h2,h3⟩:=h
 exact⟨sb,R,h1,h2,JP sb db R fp W W' (fun k hk'=>hk k (by rw[Lp] at hk';exact hk')) h3⟩
def fM(db:Nat)(D:DkM)(bufs:Int)(L:List RecM)(fp:List Nat)(w:World)(e:Ending)(w':World):Prop:=∃v er,e= .returned (.tuple #[v,.int .i64 er])/\∃fp',St w fp [eOx db D bufs L v er fp'] w'
theorem fM.st{bufs:Int}(h:OpnR D bufs L (.inl S) er)(hs:St w fp ([]++[eSt sb db S fp']) w'):fM db D bufs L fp w (.returned (.tuple #[po sb 0,.int .i64 er])) w':=
 ⟨_,er,rfl,fp',St.repl (L1:=[]) (L2:=[]) (E':=eOx db D bufs L (po sb 0) er fp') hs rfl (fun h1=>⟨sb,.inl S,h,rfl,h1⟩) (Bk _ _ _ _ _ _ _)⟩
theorem fM.dk{D':DkM}{bufs:Int}(h:OpnR D bufs L (.inr D') er)(hs:St w fp ([]++[eDk db D' fp']) w'):fM db D bufs L fp w (.returned (.tuple #[.pointer none,.int .i64 er])) w':=
 ⟨_,er,rfl,fp',St.repl (L1:=[]) (L2:=[]) (E':=eOx db D bufs L (.pointer none) er fp') hs rfl (fun h1=>⟨0,.inr D',h,rfl,h1⟩) (Bk _ _ _ _ _ _ _)⟩
theorem tA(h:L[j]? =some r):bn (L.take (j+1))=if r.kind=9 then j+1 else bn (L.take j):=by
 obtain⟨hj,rfl⟩:=List.getElem?_eq_some_iff.1 h
 rw[List.take_succ_eq_append_getElem hj,go,List.length_take,Nat.min_eq_left (by omega)]
theorem oY(L:List RecM):bn L<=L.length:=by
 induction L using oL with
 |h0=>exact Nat.le_refl _
 |hs L r ih=>
  rw[go,List.length_append,List.length_singleton]
  split<;>omega
theorem SOk.opn{D:DkM}{bufs:Int}{rs:List RcT}{frm:Int}(hb:1<=bufs/\bufs<=64)(hp:D.pgs.length<=400)(hw:∀x∈D.pgs,x.ws.length<=c)(hr:∀r∈rs.map RcT.r,bC r=true)(hl:D.log=ef (rs.map RcT.r))(hz:D.log.size<=1048576)(hf:D.fl<=D.log.size):SOk (iN D bufs rs frm) c:=
 ⟨hb,hp,hw,⟨Int.le_refl _,Int.natCast_nonneg _⟩,Nat.zero_le _,Nat.zero_le _,(fun t ht=>by cases ht),List.nodup_nil,by show ((0:Nat):Int)<=bufs;omega,(fun t ht=>by cases ht),hr,hl,hz,hf,fun t ht=>by cases ht⟩
theorem Ba{tl:ByteArray}(hl:D.log=ef L++tl)(hf:D.fl<=D.log.size)(h0:(gh D L).2=0):(gh D L).1.log=ef L/\(gh D L).1.pgs=D.pgs/\(gh D L).1.fl=min D.fl (szF L)/\(gh D L).1.armed=D.armed/\(gh D L).1.off=D.off:=by
 have hz:D.log.size=szF L+tl.size:=by rw[hl,ByteArray.size_append,cE]
 unfold gh at h0 |-
 split
 rename_i h1
 rw[if_pos h1] at h0
 obtain⟨h2,h3,h4⟩:=pW h0
 rw[h4]
 refine⟨?_,rfl,rfl,rfl,rfl⟩
 show D.log.extract 0 (szF L)=ef L
 rw[hl]
 apply ia
 rw[gv,cV,List.drop_zero,Nat.sub_zero,List.take_left' (by rw[bT,cE])]
 rename_i h1
 have h2:tl.size=0:=by omega
 have h3:tl=⟨#[]⟩:=ia (List.eq_nil_of_length_eq_zero (by rw[bT];exact h2))
 refine⟨?_,rfl,?_,rfl,rfl⟩
 show D.log=ef L
 rw[hl,h3,ld]
 show D.fl=min D.fl (szF L)
 omega
end
section
open Go.RowKit
structure RAt (w:World) (RA:Option Addr) (rs:List RcT):Prop where
 row:At w RA (rs.flatMap rcC)
 eds:∀t∈rs,At w t.A (t.r.eds.flatMap edC)
theorem RAt.ext(h:RAt w RA rs)(hx:Ext w w'):RAt w' RA rs:=⟨h.row.ext hx,fun t ht=>(h.eds t ht).ext hx⟩
theorem vn(h:rs[i]? =some rt):(rs.map RcT.r).take (i+1)=(rs.map RcT.r).take i++[rt.r]:=by
 rw[List.take_add_one,List.getElem?_map,h];rfl
theorem Du(h:rs[i]? =some rt):ak ((rs.map RcT.r).take (i+1)) n=bo n ((i:Int)+1) (ak ((rs.map RcT.r).take i) n) rt.r.eds:=by
 have hi:i<rs.length:=(List.getElem?_eq_some_iff.1 h).1
 rw[vn h,jb,List.length_take,List.length_map,Nat.min_eq_left (by omega)]
theorem ph{l:List EdT}(h:l[j]? =some e):bo n lsn p (l.take (j+1))=edA n lsn (bo n lsn p (l.take j)) e:=by
 rw[List.take_add_one,h,bo,bo,List.foldl_append];rfl
theorem xe{l:List EdT}(h:j<l.length):∃ep es eb,l[j]? =some ((ep,es,eb):EdT):=⟨_,_,_,List.getElem?_eq_getElem h⟩
theorem Bh(he:doE p e n=0)(hc:Calls Tryz.prog f args w (ew p e n w)):Calls Tryz.prog f args w (fX (doV p e n) 0 w):=by
 rw[ew,if_pos he] at hc;exact hc
theorem A7(he:doE p e n=er)(h0:er≠0)(hc:Calls Tryz.prog f args w (ew p e n w)):Calls Tryz.prog f args w (fX bw er w):=by
 subst he;rw[ew,if_neg h0] at hc;exact hc
theorem HI(h:rs[i]? =some rt)(hk:¬rt.r.kind=9):bn ((rs.map RcT.r).take (i+1))=bn ((rs.map RcT.r).take i):=by rw[vn h,go,if_neg hk]
theorem Dw(h:rs[i]? =some rt)(hk:rt.r.kind=9):bn ((rs.map RcT.r).take (i+1))=i+1:=by
 have hi:i<rs.length:=(List.getElem?_eq_some_iff.1 h).1
 rw[vn h,go,if_pos hk,List.length_take,List.length_map,Nat.min_eq_left (by omega)]
def imN(L:List RecM)(n:Int)(i:Nat):Bool:=(L.drop i).any fun r=>r.kind==8&&r.tbl==n
theorem Ga(L:List RecM)(n:Int):imN L n (bn L)=fC L n:=by
 refine oL (P:=fun L=>imN L n (bn L)=fC L n) rfl ?_ L
 intro L r ih
 rw[nf,go]
 split
 rw[imN,List.drop_of_length_le (by simp)];rfl
 have hf:bn L<=L.length:=oY L
 rw[<-ih,imN,imN,List.drop_append_of_le_length hf,List.any_append];simp
theorem xO(h:rs[i]? =some rt):imN (rs.map RcT.r) n i=((rt.r.kind==8&&rt.r.tbl==n)||imN (rs.map RcT.r) n (i+1)):=by
 have hi:i<rs.length:=(List.getElem?_eq_some_iff.1 h).1
 have e:(rs.map RcT.r).drop i=rt.r::(rs.map RcT.r).drop (i+1):=by
  rw[List.drop_eq_getElem_cons (by rw[List.length_map];exact hi),List.getElem_map,(List.getElem?_eq_some_iff.1 h).2]
 rw[imN,e,List.any_cons];rfl
theorem kL(RA:Option Addr)(rc:Nat)(rs:List RcT)(n:Int)(w:World)(hR:RAt w RA rs)(hl:rs.length<=1000000)(hL:∀t∈rs,bC t.r=true):
  Calls Tryz.prog 36 #[.slice RA rs.length rc,.int .i64 n] w (oN (ak (rs.map RcT.r) n) w):=by
 go_enter Tryz.func36,Tryz.ntmps36
 have aj:=St.start w
 refine wq (sqr (b8 #[vi 0,vi 0,sn] aj fun kD W1 ay=>?_))
 refine aa (wq (sqr (sqp [.k 9 (.agg #[vi 0,vi 0,sn])] ?_)))
 refine b8 #[vi 0,vi 0,sn] ay fun pA W3 aW=>?_
 refine aX (n:=3) 1 #[vi 0,vi 0,sn] aW fun W4 bc=>?_
 refine aa (wq (wq (sqr (sqp [.k 6 (vi 0)] ?_))))
 refine aa (wp_block ?_)
 have hn6:=St.nilrow bc 9
 simp only[List.cons_append,List.nil_append] at hn6
 refine aN (fun t_ mz az W=>∃i:Nat,∃PA:Option Addr,∃Pc:Nat,i<=rs.length/\mz=rs.length-i/\az=⟨(ovr (jv az) [(6,6,0,[vi ((i:Int))]),(0,7,2,[]),(1,10,44,[])] t_).toArray,[]⟩/\St w [] [eB kD 48 #[vi 0,vi 0,sn],eB pA 48 #[vi ((ak ((rs.map RcT.r).take i) n).1),vi ((ak ((rs.map RcT.r).take i) n).2.1),.slice PA ((ak ((rs.map RcT.r).take i) n).2.2.length) Pc],eO 9 1 (.slice PA ((ak ((rs.map RcT.r).take i) n).2.2.length) Pc) ((ak ((rs.map RcT.r).take i) n).2.2.length) ((ak ((rs.map RcT.r).take i) n).2.2.map Value.string)] W) (rs.length-0) ?_ ?_
 exact⟨0,none,0,Nat.zero_le _,rfl,(by kernel_rfl),hn6.pk [0,1,2]⟩
 rintro n7 a7 W7 ⟨i,PA,Pc,hi,rfl,hj_,aQ⟩
 refine ovz hj_ fun Fk=>?_
 refine wq (wq (sqr (sqp [.m 10 6,.m 11 0,.k 12 (vi ((rs.length:Int))),.k 13 (.bool (decide ((i:Int)<(rs.length:Int))))] ?_)))
 refine aa (wds (fun jp jC=>?_) fun jp jC=>?_)
 refine wp_skip (aa (wq (wp_block (wq (sqr (sqp [.k 7 (vi 0)] ?_))))))
 refine aa (wp_block ?_)
 obtain⟨rt,hrt⟩:∃rt,rs[i]? =some rt:=⟨_,List.getElem?_eq_getElem (by omega)⟩
 have hrm:=List.mem_of_getElem? hrt
 have hro:=dU (hL rt hrm)
 have hml:=hro.many
 refine aN (fun t_ mz az W=>∃j:Nat,∃PB:Option Addr,∃Pd:Nat,j<=rt.r.eds.length/\mz=rt.r.eds.length-j/\az=⟨(ovr (jv az) [(7,7,0,[vi ((j:Int))]),(0,8,1,[]),(7,16,38,[])] t_).toArray,[]⟩/\St w [] [eB kD 48 #[vi 0,vi 0,sn],eB pA 48 #[vi ((bo n ((i:Int)+1) (ak ((rs.map RcT.r).take i) n) (rt.r.eds.take j)).1),vi ((bo n ((i:Int)+1) (ak ((rs.map RcT.r).take i) n) (rt.r.eds.take j)).2.1),.slice PB ((bo n ((i:Int)+1) (ak ((rs.map RcT.r).take i) n) (rt.r.eds.take j)).2.2.length) Pd],eO 9 1 (.slice PB ((bo n ((i:Int)+1) (ak ((rs.map RcT.r).take i) n) (rt.r.eds.take j)).2.2.length) Pd) ((bo n ((i:Int)+1) (ak ((rs.map RcT.r).take i) n) (rt.r.eds.take j)).2.2.length) ((bo n ((i:Int)+1) (ak ((rs.map RcT.r).take i) n) (rt.r.eds.take j)).2.2.map Value.string)] W) (rt.r.eds.length-0) ?_ ?_
 exact⟨0,PA,Pc,Nat.zero_le _,rfl,(by kernel_rfl),aQ.pk [0,1,2]⟩
 rintro T0 a14 wY ⟨j,PB,Pd,hj,rfl,hj_,cq⟩
 refine ovz hj_ fun Sf=>?_
 refine wq (wq (sqr (sqp [.m 16 7,.m 17 0,.m 18 6] ?_)))
 refine sql (.pointer (some ((ad RA).add (i*8)))) cq (fun cx=>aB (e:=27) (m:=i) (sz:=8) rfl (by kernel_rfl) (by kernel_rfl) (cx.ou 17) (cx.ou 18) (by omega) (by omega) (hR.row.ext cx.upd.to_ext) (bj (sz:=8) cm (by decide) (by omega))) ?_
 refine sql (.pointer (some ((ad RA).add (i*8+5)))) cq (fun cx=>bt rfl (by kernel_rfl) (cx.ou 19)) ?_
 refine sql (.slice rt.A rt.r.eds.length rt.c) cq (fun cx=>ae rfl (by kernel_rfl) (cx.ou 20) (At.eltc (f:=rcC) (k:=5) cm (hR.row.ext cx.upd.to_ext) hrt rfl)) ?_
 refine sqp [.k 22 (vi ((rt.r.eds.length:Int))),.k 23 (.bool (decide ((j:Int)<(rt.r.eds.length:Int))))] ?_
 refine aa (wds (fun s8 rE=>?_) fun s8 rE=>?_)
 refine wp_skip (aa (wq (wp_block (wq ?_))))
 obtain⟨ep,es,eb,hek⟩:=xe (l:=rt.r.eds) (j:=j) (by omega)
 have hke:edR (ep,es,eb)=true:=hro.eds _ (List.mem_of_getElem? hek)
 have hez:eb.size<=9223372036854775807:=by have:=dx hke;dsimp only at this;omega
 have hri:bJ (bo n ((i:Int)+1) (ak ((rs.map RcT.r).take i) n) (rt.r.eds.take j)):=rU (iB _ _)
 by_cases hen:ep=n
 refine sqr (sqp [.m 26 0,.m 27 6] ?_)
 refine sql (.pointer (some ((ad RA).add (i*8)))) cq (fun cx=>aB (e:=27) (m:=i) (sz:=8) rfl (by kernel_rfl) (by kernel_rfl) (cx.ou 26) (cx.ou 27) (by omega) (by omega) (hR.row.ext cx.upd.to_ext) (bj (sz:=8) cm (by decide) (by omega))) ?_
 refine sql (.pointer (some ((ad RA).add (i*8+5)))) cq (fun cx=>bt rfl (by kernel_rfl) (cx.ou 28)) ?_
 refine sql (.slice rt.A rt.r.eds.length rt.c) cq (fun cx=>ae rfl (by kernel_rfl) (cx.ou 29) (At.eltc (f:=rcC) (k:=5) cm (hR.row.ext cx.upd.to_ext) hrt rfl)) ?_
 refine sqp [.m 31 7] ?_
 refine sql (.pointer (some ((ad rt.A).add (j*3)))) cq (fun cx=>aB (e:=84) (m:=j) (sz:=3) rfl (by kernel_rfl) (by kernel_rfl) (cx.ou 30) (cx.ou 31) (by omega) (by omega) ((hR.eds rt hrm).ext cx.upd.to_ext) (bj (sz:=3) bD (by decide) (by omega))) ?_
 refine sql (.pointer (some ((ad rt.A).add (j*3+0)))) cq (fun cx=>bt rfl (by kernel_rfl) (cx.ou 32)) ?_
 refine sql (vi ep) cq (fun cx=>ae rfl (by kernel_rfl) (cx.ou 33) (At.eltc (f:=edC) (k:=0) bD ((hR.eds rt hrm).ext cx.upd.to_ext) hek rfl)) ?_
 have hd35:(ep==n)=true:=(beq_iff_eq.2 hen)
 refine sqp [.m 35 1,.e 36 (.bool (ep==n)) (.bool true) (congrArg Value.bool hd35)] ?_
 refine aa (wct rfl (wq ?_))
 obtain⟨er,hde⟩:∃z,doE (bo n ((i:Int)+1) (ak ((rs.map RcT.r).take i) n) (rt.r.eds.take j)) (ep,es,eb) ((i:Int)+1)=z:=⟨_,rfl⟩
 by_cases hd0:er=0
 subst hd0
 have hd:=hde
 refine aG [0,0,0,6,14,30,0,126,254,0,512,2047,0,8191] [[1],[],[],[],[],[],[],[],[],[],[],[2],[],[4]] [[],[],[],[],[],[],[],[],[],[],[],[3],[4],[5]] [[],[],[],[],[],[],[],[],[],[],[],[],[],[4]] [.c 37 (.agg #[vi ((bo n ((i:Int)+1) (ak ((rs.map RcT.r).take i) n) (rt.r.eds.take j)).1),vi ((bo n ((i:Int)+1) (ak ((rs.map RcT.r).take i) n) (rt.r.eds.take j)).2.1),.slice PB ((bo n ((i:Int)+1) (ak ((rs.map RcT.r).take i) n) (rt.r.eds.take j)).2.2.length) Pd]),.k 38 (.slice RA rs.length rc),.k 39 (vi ((i:Int))),.c 40 (.pointer (some ((ad RA).add (i*8)))),.c 41 (.pointer (some ((ad RA).add (i*8+5)))),.c 42 (.slice rt.A rt.r.eds.length rt.c),.k 43 (vi ((j:Int))),.c 44 (.pointer (some ((ad rt.A).add (j*3)))),.c 45 (.agg #[vi ep,vi es,.string eb]),.k 46 (vi ((i:Int))),tI 47 ((i:Int)+1) (by omega),.a 48,.a 8,.n] (fun ix g d X=>match ix with|0|1|2|3|4|5|6|7|8|9|10=>True|11=>g 48= .agg #[vi ((doV (bo n ((i:Int)+1) (ak ((rs.map RcT.r).take i) n) (rt.r.eds.take j)) (ep,es,eb) ((i:Int)+1)).1),vi ((doV (bo n ((i:Int)+1) (ak ((rs.map RcT.r).take i) n) (rt.r.eds.take j)) (ep,es,eb) ((i:Int)+1)).2.1),.slice (sA (tg (d 48) 2)) ((doV (bo n ((i:Int)+1) (ak ((rs.map RcT.r).take i) n) (rt.r.eds.take j)) (ep,es,eb) ((i:Int)+1)).2.2.length) (sC (tg (d 48) 2)),vi 0]/\X 3=eO 9 1 (.slice (sA (tg (d 48) 2)) ((doV (bo n ((i:Int)+1) (ak ((rs.map RcT.r).take i) n) (rt.r.eds.take j)) (ep,es,eb) ((i:Int)+1)).2.2.length) (sC (tg (d 48) 2))) ((doV (bo n ((i:Int)+1) (ak ((rs.map RcT.r).take i) n) (rt.r.eds.take j)) (ep,es,eb) ((i:Int)+1)).2.2.length) ((doV (bo n ((i:Int)+1) (ak ((rs.map RcT.r).take i) n) (rt.r.eds.take j)) (ep,es,eb) ((i:Int)+1)).2.2.map Value.string)|12=>g 8=vp (pb (d 8))/\X 4=eB (pb (d 8)) 78 #[vi 0,vi 0,sn,vi 0]|13=>X 5=eB (pb (d 8)) 78 #[vi ((doV (bo n ((i:Int)+1) (ak ((rs.map RcT.r).take i) n) (rt.r.eds.take j)) (ep,es,eb) ((i:Int)+1)).1),vi ((doV (bo n ((i:Int)+1) (ak ((rs.map RcT.r).take i) n) (rt.r.eds.take j)) (ep,es,eb) ((i:Int)+1)).2.1),.slice (sA (tg (d 48) 2)) ((doV (bo n ((i:Int)+1) (ak ((rs.map RcT.r).take i) n) (rt.r.eds.take j)) (ep,es,eb) ((i:Int)+1)).2.2.length) (sC (tg (d 48) 2)),vi 0]|_=>True) [0,1,2,3,5] [0,3,4,5,7,8,11,12,13] [(8,12,1,9),(28,0,12,40)] cq ?_ ?_ ?_
 exact fun ix _ _ _ _ _ _ hs hb hx h=>match ix,h with
 |11,h=>by dsimp only;rw[<-hs 48 rfl,<-hb 48 rfl,<-hx 3 rfl];exact h
 |12,h=>by dsimp only;rw[<-hs 8 rfl,<-hb 8 rfl,<-hx 4 rfl];exact h
 |13,h=>by dsimp only;rw[<-hb 8 rfl,<-hb 48 rfl,<-hx 5 rfl];exact h
 |0,_|1,_|2,_|3,_|4,_|5,_|6,_|7,_|8,_|9,_|10,_|_+14,_=>trivial
 refine⟨?_,?_,?_,?_,?_,?_,?_,?_,?_,trivial⟩
 exact xs4 rfl id fun cx=>ce (n:=3) rfl (by kernel_rfl) (by kernel_rfl) (cx.ou 5) (cx.bi 1 rfl) (nle rfl) rfl
 exact xs4 rfl id fun cx=>aB (e:=27) (m:=i) (sz:=8) rfl (by kernel_rfl) (by kernel_rfl) (cx.an 1) (cx.an 2) (by omega) (by omega) (hR.row.ext cx.upd.to_ext) (bj (sz:=8) cm (by decide) (by omega))
 exact xs4 rfl id fun cx=>bt rfl (by kernel_rfl) (cx.an 3)
 exact xs4 rfl id fun cx=>ae rfl (by kernel_rfl) (cx.an 4) (At.eltc (f:=rcC) (k:=5) cm (hR.row.ext cx.upd.to_ext) hrt rfl)
 exact xs4 rfl id fun cx=>aB (e:=84) (m:=j) (sz:=3) rfl (by kernel_rfl) (by kernel_rfl) (cx.an 5) (cx.an 6) (by omega) (by omega) ((hR.eds rt hrm).ext cx.upd.to_ext) (bj (sz:=3) bD (by decide) (by omega))
 exact xs4 rfl id fun cx=>bF (f:=edC) (m:=j) (sz:=3) (off:=0) (n:=3) rfl (by kernel_rfl) (by kernel_rfl) (cx.an 7) rfl bD ((hR.eds rt hrm).ext cx.upd.to_ext) hek (fun k hk=>match k,hk with|0,_=>rfl|1,_=>rfl|2,_=>rfl|k+3,hk=>absurd hk (by omega))
 refine svA fun o d W X cx=>?_
 refine am.call (au (args:=#[.agg #[vi ((bo n ((i:Int)+1) (ak ((rs.map RcT.r).take i) n) (rt.r.eds.take j)).1),vi ((bo n ((i:Int)+1) (ak ((rs.map RcT.r).take i) n) (rt.r.eds.take j)).2.1),.slice PB ((bo n ((i:Int)+1) (ak ((rs.map RcT.r).take i) n) (rt.r.eds.take j)).2.2.length) Pd],.agg #[vi ep,vi es,.string eb],vi ((i:Int)+1)]) rfl cx.sees rfl (by kernel_rfl) (dL (cx.an 0) (cx.an 8) (cx.an 10))) ?_
 refine(Bh hde (rj (bo n ((i:Int)+1) (ak ((rs.map RcT.r).take i) n) (rt.r.eds.take j)).1 (bo n ((i:Int)+1) (ak ((rs.map RcT.r).take i) n) (rt.r.eds.take j)).2.1 _ _ (bo n ((i:Int)+1) (ak ((rs.map RcT.r).take i) n) (rt.r.eds.take j)).2.2 ep es eb ((i:Int)+1) _ (At.of_own (cx.ri 2 rfl)) hri.1 (ln (cx.ri 2 rfl)) hez)).mono ?_
 rintro e W1 ⟨A4,c4,rfl,ho,hx⟩
 refine⟨_,rfl,bR [eO 9 1 (.slice A4 (doV (bo n ((i:Int)+1) (ak ((rs.map RcT.r).take i) n) (rt.r.eds.take j)) (ep,es,eb) ((i:Int)+1)).2.2.length c4) (doV (bo n ((i:Int)+1) (ak ((rs.map RcT.r).take i) n) (rt.r.eds.take j)) (ep,es,eb) ((i:Int)+1)).2.2.length ((doV (bo n ((i:Int)+1) (ak ((rs.map RcT.r).take i) n) (rt.r.eds.take j)) (ep,es,eb) ((i:Int)+1)).2.2.map Value.string)] rfl rfl hx (one_new (cu ho)) (List.pairwise_singleton _ _) (fun g q X' hs hb hv hN=>?_)⟩
 have aJ:=(hv 48 rfl).1;have aV:=(hv 48 rfl).2
 exact⟨aJ.trans (by rw[aV];exact rfl),(by rw[aV];exact(List.cons.inj hN).1)⟩
 refine svA fun o d W X cx=>?_
 exact dm (cs:=#[vi 0,vi 0,sn,vi 0]) rfl (by kernel_rfl) rfl rfl (fun _ _ _ _ _=> .intro)
 refine svA fun o d W X cx=>?_
 exact bx (n:=4) rfl (dTn (cx.an 12)).1 (dTn (cx.an 11)).1 (by kernel_rfl) (by kernel_rfl) (by kernel_rfl) cx (dTn (cx.an 12)).2 rfl (nle rfl) (by kernel_rfl) rfl rfl rfl (fun g q X' hs hb hx=>by rw[hb 8,hb 48];exact hx)
 intro g d X zb hD eK fr aD
 simp only[exq 3 ((dTn (hD 11 lq)).2),exq 5 ((dTn (hD 13 lq)))] at eK
 simp only[ed 48 ((dTn (hD 11 lq)).1),ed 8 ((dTn (hD 12 lq)).1)] at aD
 generalize sA (tg (d 48) 2)=Fw,sC (tg (d 48) 2)=Fx,pb (d 8)=I4 at eK aD
 clear hD;subst aD;clear g d X
 refine aa (wq (sqr (sqp [.k 49 (po I4 3)] ?_)))
 refine aq 4 eK ?_
 refine sqp [.k 51 (.bool true)] ?_
 refine aa (wct rfl (sqr (sqp [.k 52 (vp I4)] ?_)))
 refine bI 4 3 eK ?_
 refine aX (n:=3) 1 #[vi ((doV (bo n ((i:Int)+1) (ak ((rs.map RcT.r).take i) n) (rt.r.eds.take j)) (ep,es,eb) ((i:Int)+1)).1),vi ((doV (bo n ((i:Int)+1) (ak ((rs.map RcT.r).take i) n) (rt.r.eds.take j)) (ep,es,eb) ((i:Int)+1)).2.1),.slice Fw ((doV (bo n ((i:Int)+1) (ak ((rs.map RcT.r).take i) n) (rt.r.eds.take j)) (ep,es,eb) ((i:Int)+1)).2.2.length) Fx] eK fun pP eN=>?_
 refine av (aa (sqr (sqp [.m 24 7,sI 25 ((j:Int)+1) (by omega),.m 7 25] ?_)))
 refine aa ?_
 have hf46_:=eN.u2.c0
 have hee:(doV (bo n ((i:Int)+1) (ak ((rs.map RcT.r).take i) n) (rt.r.eds.take j)) (ep,es,eb) ((i:Int)+1))=bo n ((i:Int)+1) (ak ((rs.map RcT.r).take i) n) (rt.r.eds.take (j+1)):=by rw[ph hek];rw[edA,if_pos ⟨hen,hd⟩]
 rw[hee] at hf46_
 refine⟨rt.r.eds.length-((j+1)),by omega,?_⟩
 exact⟨(j+1),Fw,Fx,by omega,rfl,(by kernel_rfl),hf46_.pk [0,1,2]⟩
 have hdn:¬doE (bo n ((i:Int)+1) (ak ((rs.map RcT.r).take i) n) (rt.r.eds.take j)) (ep,es,eb) ((i:Int)+1)=0:=fun h=>hd0 (hde.symm.trans h)
 refine aG [0,0,0,6,14,30,0,126,254,0,512,2047,0,8191] [[1],[],[],[],[],[],[],[],[],[],[],[2],[],[4]] [[],[],[],[],[],[],[],[],[],[],[],[3],[4],[5]] [[],[],[],[],[],[],[],[],[],[],[],[],[],[4]] [.c 37 (.agg #[vi ((bo n ((i:Int)+1) (ak ((rs.map RcT.r).take i) n) (rt.r.eds.take j)).1),vi ((bo n ((i:Int)+1) (ak ((rs.map RcT.r).take i) n) (rt.r.eds.take j)).2.1),.slice PB ((bo n ((i:Int)+1) (ak ((rs.map RcT.r).take i) n) (rt.r.eds.take j)).2.2.length) Pd]),.k 38 (.slice RA rs.length rc),.k 39 (vi ((i:Int))),.c 40 (.pointer (some ((ad RA).add (i*8)))),.c 41 (.pointer (some ((ad RA).add (i*8+5)))),.c 42 (.slice rt.A rt.r.eds.length rt.c),.k 43 (vi ((j:Int))),.c 44 (.pointer (some ((ad rt.A).add (j*3)))),.c 45 (.agg #[vi ep,vi es,.string eb]),.k 46 (vi ((i:Int))),tI 47 ((i:Int)+1) (by omega),.a 48,.a 8,.n] (fun ix g d X=>match ix with|0|1|2|3|4|5|6|7|8|9|10=>True|11=>g 48= .agg #[vi bw.1,vi bw.2.1,.slice (sA (tg (d 48) 2)) bw.2.2.length (sC (tg (d 48) 2)),vi er]/\X 3=eO 9 1 (.slice (sA (tg (d 48) 2)) bw.2.2.length (sC (tg (d 48) 2))) bw.2.2.length (bw.2.2.map Value.string)|12=>g 8=vp (pb (d 8))/\X 4=eB (pb (d 8)) 78 #[vi 0,vi 0,sn,vi 0]|13=>X 5=eB (pb (d 8)) 78 #[vi bw.1,vi bw.2.1,.slice (sA (tg (d 48) 2)) bw.2.2.length (sC (tg (d 48) 2)),vi er]|_=>True) [0,1,2,3,5] [0,3,4,5,7,8,11,12,13] [(8,12,1,9),(28,0,12,40)] cq ?_ ?_ ?_
 exact fun ix _ _ _ _ _ _ hs hb hx h=>match ix,h with
 |11,h=>by dsimp only;rw[<-hs 48 rfl,<-hb 48 rfl,<-hx 3 rfl];exact h
 |12,h=>by dsimp only;rw[<-hs 8 rfl,<-hb 8 rfl,<-hx 4 rfl];exact h
 |13,h=>by dsimp only;rw[<-hb 8 rfl,<-hb 48 rfl,<-hx 5 rfl];exact h
 |0,_|1,_|2,_|3,_|4,_|5,_|6,_|7,_|8,_|9,_|10,_|_+14,_=>trivial
 refine⟨?_,?_,?_,?_,?_,?_,?_,?_,?_,trivial⟩
 exact xs4 rfl id fun cx=>ce (n:=3) rfl (by kernel_rfl) (by kernel_rfl) (cx.ou 5) (cx.bi 1 rfl) (nle rfl) rfl
 exact xs4 rfl id fun cx=>aB (e:=27) (m:=i) (sz:=8) rfl (by kernel_rfl) (by kernel_rfl) (cx.an 1) (cx.an 2) (by omega) (by omega) (hR.row.ext cx.upd.to_ext) (bj (sz:=8) cm (by decide) (by omega))
 exact xs4 rfl id fun cx=>bt rfl (by kernel_rfl) (cx.an 3)
 exact xs4 rfl id fun cx=>ae rfl (by kernel_rfl) (cx.an 4) (At.eltc (f:=rcC) (k:=5) cm (hR.row.ext cx.upd.to_ext) hrt rfl)
 exact xs4 rfl id fun cx=>aB (e:=84) (m:=j) (sz:=3) rfl (by kernel_rfl) (by kernel_rfl) (cx.an 5) (cx.an 6) (by omega) (by omega) ((hR.eds rt hrm).ext cx.upd.to_ext) (bj (sz:=3) bD (by decide) (by omega))
 exact xs4 rfl id fun cx=>bF (f:=edC) (m:=j) (sz:=3) (off:=0) (n:=3) rfl (by kernel_rfl) (by kernel_rfl) (cx.an 7) rfl bD ((hR.eds rt hrm).ext cx.upd.to_ext) hek (fun k hk=>match k,hk with|0,_=>rfl|1,_=>rfl|2,_=>rfl|k+3,hk=>absurd hk (by omega))
 refine svA fun o d W X cx=>?_
 refine am.call (au (args:=#[.agg #[vi ((bo n ((i:Int)+1) (ak ((rs.map RcT.r).take i) n) (rt.r.eds.take j)).1),vi ((bo n ((i:Int)+1) (ak ((rs.map RcT.r).take i) n) (rt.r.eds.take j)).2.1),.slice PB ((bo n ((i:Int)+1) (ak ((rs.map RcT.r).take i) n) (rt.r.eds.take j)).2.2.length) Pd],.agg #[vi ep,vi es,.string eb],vi ((i:Int)+1)]) rfl cx.sees rfl (by kernel_rfl) (dL (cx.an 0) (cx.an 8) (cx.an 10))) ?_
 refine(A7 hde hd0 (rj (bo n ((i:Int)+1) (ak ((rs.map RcT.r).take i) n) (rt.r.eds.take j)).1 (bo n ((i:Int)+1) (ak ((rs.map RcT.r).take i) n) (rt.r.eds.take j)).2.1 _ _ (bo n ((i:Int)+1) (ak ((rs.map RcT.r).take i) n) (rt.r.eds.take j)).2.2 ep es eb ((i:Int)+1) _ (At.of_own (cx.ri 2 rfl)) hri.1 (ln (cx.ri 2 rfl)) hez)).mono ?_
 rintro e W1 ⟨A4,c4,rfl,ho,hx⟩
 refine⟨_,rfl,bR [eO 9 1 (.slice A4 bw.2.2.length c4) bw.2.2.length (bw.2.2.map Value.string)] rfl rfl hx (one_new (cu ho)) (List.pairwise_singleton _ _) (fun g q X' hs hb hv hN=>?_)⟩
 have aJ:=(hv 48 rfl).1;have aV:=(hv 48 rfl).2
 exact⟨aJ.trans (by rw[aV];exact rfl),(by rw[aV];exact(List.cons.inj hN).1)⟩
 refine svA fun o d W X cx=>?_
 exact dm (cs:=#[vi 0,vi 0,sn,vi 0]) rfl (by kernel_rfl) rfl rfl (fun _ _ _ _ _=> .intro)
 refine svA fun o d W X cx=>?_
 exact bx (n:=4) rfl (dTn (cx.an 12)).1 (dTn (cx.an 11)).1 (by kernel_rfl) (by kernel_rfl) (by kernel_rfl) cx (dTn (cx.an 12)).2 rfl (nle rfl) (by kernel_rfl) rfl rfl rfl (fun g q X' hs hb hx=>by rw[hb 8,hb 48];exact hx)
 intro g d X L3 hD gw fr aD
 simp only[exq 3 ((dTn (hD 11 lq)).2),exq 5 ((dTn (hD 13 lq)))] at gw
 simp only[ed 48 ((dTn (hD 11 lq)).1),ed 8 ((dTn (hD 12 lq)).1)] at aD
 generalize sA (tg (d 48) 2)=QZ,sC (tg (d 48) 2)=Q0,pb (d 8)=Oa at gw aD
 clear hD;subst aD;clear g d X
 refine aa (wq (sqr (sqp [.k 49 (po Oa 3)] ?_)))
 refine aq 4 gw ?_
 have hd51:(er==0)=false:=(beq_eq_false_iff_ne.2 hd0)
 refine sqp [.e 51 (.bool (er==0)) (.bool false) (congrArg Value.bool hd51)] ?_
 refine aa (wcf rfl (wp_skip (av (aa (sqr (sqp [.m 24 7,sI 25 ((j:Int)+1) (by omega),.m 7 25] ?_))))))
 refine aa ?_
 have hee:(bo n ((i:Int)+1) (ak ((rs.map RcT.r).take i) n) (rt.r.eds.take j))=bo n ((i:Int)+1) (ak ((rs.map RcT.r).take i) n) (rt.r.eds.take (j+1)):=by rw[ph hek];rw[edA,if_neg (fun h=>hdn h.2)]
 rw[hee] at gw
 refine⟨rt.r.eds.length-((j+1)),by omega,?_⟩
 exact⟨(j+1),PB,Pd,by omega,rfl,(by kernel_rfl),gw.pk [0,1,2]⟩
 have hne:¬(ep,es,eb).1=n:=hen
 refine sqr (sqp [.m 26 0,.m 27 6] ?_)
 refine sql (.pointer (some ((ad RA).add (i*8)))) cq (fun cx=>aB (e:=27) (m:=i) (sz:=8) rfl (by kernel_rfl) (by kernel_rfl) (cx.ou 26) (cx.ou 27) (by omega) (by omega) (hR.row.ext cx.upd.to_ext) (bj (sz:=8) cm (by decide) (by omega))) ?_
 refine sql (.pointer (some ((ad RA).add (i*8+5)))) cq (fun cx=>bt rfl (by kernel_rfl) (cx.ou 28)) ?_
 refine sql (.slice rt.A rt.r.eds.length rt.c) cq (fun cx=>ae rfl (by kernel_rfl) (cx.ou 29) (At.eltc (f:=rcC) (k:=5) cm (hR.row.ext cx.upd.to_ext) hrt rfl)) ?_
 refine sqp [.m 31 7] ?_
 refine sql (.pointer (some ((ad rt.A).add (j*3)))) cq (fun cx=>aB (e:=84) (m:=j) (sz:=3) rfl (by kernel_rfl) (by kernel_rfl) (cx.ou 30) (cx.ou 31) (by omega) (by omega) ((hR.eds rt hrm).ext cx.upd.to_ext) (bj (sz:=3) bD (by decide) (by omega))) ?_
 refine sql (.pointer (some ((ad rt.A).add (j*3+0)))) cq (fun cx=>bt rfl (by kernel_rfl) (cx.ou 32)) ?_
 refine sql (vi ep) cq (fun cx=>ae rfl (by kernel_rfl) (cx.ou 33) (At.eltc (f:=edC) (k:=0) bD ((hR.eds rt hrm).ext cx.upd.to_ext) hek rfl)) ?_
 have hd66:(ep==n)=false:=(beq_eq_false_iff_ne.2 hen)
 refine sqp [.m 35 1,.e 36 (.bool (ep==n)) (.bool false) (congrArg Value.bool hd66)] ?_
 refine aa (wcf rfl (wp_skip (av (aa (sqr (sqp [.m 24 7,sI 25 ((j:Int)+1) (by omega),.m 7 25] ?_))))))
 refine aa ?_
 have hee:(bo n ((i:Int)+1) (ak ((rs.map RcT.r).take i) n) (rt.r.eds.take j))=bo n ((i:Int)+1) (ak ((rs.map RcT.r).take i) n) (rt.r.eds.take (j+1)):=by rw[ph hek];rw[edA,if_neg (fun h=>hne h.1)]
 rw[hee] at cq
 refine⟨rt.r.eds.length-((j+1)),by omega,?_⟩
 exact⟨(j+1),PB,Pd,by omega,rfl,(by kernel_rfl),cq.pk [0,1,2]⟩
 refine wp_exit (al (al (bf (av (aa (sqr (sqp [.m 14 6,sI 15 ((i:Int)+1) (by omega),.m 6 15] ?_)))))))
 refine aa ?_
 have hje:j=rt.r.eds.length:=by omega
 have hce:bo n ((i:Int)+1) (ak ((rs.map RcT.r).take i) n) (rt.r.eds.take j)=ak ((rs.map RcT.r).take (i+1)) n:=by rw[Du hrt,hje,List.take_length]
 rw[hce] at cq
 refine⟨rs.length-((i+1)),by omega,?_⟩
 exact⟨(i+1),PB,Pd,by omega,rfl,(by kernel_rfl),cq.pk [0,1,2]⟩
 refine wp_exit (al (al (bf (aa (wq ?_)))))
 have hct:(ak ((rs.map RcT.r).take i) n)=ak (rs.map RcT.r) n:=by rw[List.take_of_length_le (by rw[List.length_map];omega)]
 rw[hct] at aQ
 refine sqr ?_
 refine bI 1 3 aQ ?_
 refine aX (n:=3) 0 #[vi ((ak (rs.map RcT.r) n).1),vi ((ak (rs.map RcT.r) n).2.1),.slice PA ((ak (rs.map RcT.r) n).2.2.length) Pc] aQ fun IV g0=>?_
 refine aa (wp_ret ?_)
 refine bpr (.agg #[vi ((ak (rs.map RcT.r) n).1),vi ((ak (rs.map RcT.r) n).2.1),.slice PA ((ak (rs.map RcT.r) n).2.2.length) Pc]) (bG (n:=3) Tryz.results36 rfl (by kernel_rfl) (by kernel_rfl) (g0.blk 0 rfl) rfl) ?_
 exact⟨_,_,rfl,g0.own' 2 rfl,g0.ext⟩
theorem Ah(RA:Option Addr)(rc:Nat)(rs:List RcT)(w:World)(hR:RAt w RA rs)(hl:rs.length<=1000000):
  Calls Tryz.prog 82 #[.slice RA rs.length rc] w (Ret (.int .i64 (bn (rs.map RcT.r):Int)) w):=by
 go_enter Tryz.func82,Tryz.ntmps82
 have aj:=St.start w
 refine wq (sqr (sqp [.k 2 (vi 0)] ?_))
 refine aa (wq (wq (sqr (sqp [.m 4 0,.k 5 (vi ((rs.length:Int))),.m 3 5] ?_))))
 refine aa (wp_block ?_)
 refine aN (fun t_ mz az W=>∃k:Nat,k<=rs.length/\bn ((rs.map RcT.r).take k)=bn (rs.map RcT.r)/\mz=k+1/\az=⟨(ovr (jv az) [(2,2,1,[vi ((k:Int))]),(2,6,12,[])] t_).toArray,[]⟩/\St w [] [] W) (rs.length+1) ?_ ?_
 exact⟨rs.length,Nat.le_refl _,by rw[List.take_of_length_le (by rw[List.length_map];omega)],rfl,(by kernel_rfl),aj.pk []⟩
 rintro n5 a5 W5 ⟨k,hk,hft,rfl,hj_,aR⟩
 refine ovz hj_ fun w4=>?_
 refine wq (wq (sqr (sqp [.m 6 3,.k 7 (.bool (decide (0<(k:Int))))] ?_)))
 refine aa (wds (fun MA Ik=>?_) fun MA Ik=>?_)
 refine wp_skip (aa (wq (wp_block (wq ?_))))
 have hk0:0<k:=by omega
 obtain⟨rt,hrt⟩:∃rt,rs[k-1]? =some rt:=⟨_,List.getElem?_eq_getElem (by omega)⟩
 have hrm:=List.mem_of_getElem? hrt
 refine sqr (sqp [.m 10 0,.m 11 3,sI 12 ((k:Int)-1) (by omega)] ?_)
 refine sql (.pointer (some ((ad RA).add ((k-1)*8)))) aR (fun cx=>aB (e:=27) (m:=(k-1)) (sz:=8) rfl (by kernel_rfl) (by kernel_rfl) (cx.ou 10) (cx.ou 12) (by omega) (by omega) (hR.row.ext cx.upd.to_ext) (bj (sz:=8) cm (by decide) (by omega))) ?_
 refine sql (.pointer (some ((ad RA).add ((k-1)*8+0)))) aR (fun cx=>bt rfl (by kernel_rfl) (cx.ou 13)) ?_
 refine sql (vi rt.r.kind) aR (fun cx=>ae rfl (by kernel_rfl) (cx.ou 14) (At.eltc (f:=rcC) (k:=0) cm (hR.row.ext cx.upd.to_ext) hrt rfl)) ?_
 refine sqp [.k 16 (.bool (rt.r.kind==9))] ?_
 refine aa (wbs (fun dc=>?_) fun dc=>?_)
 have l9:=beq_iff_eq.1 dc
 refine wq (sqr (sqp [.m 17 3,.m 2 17] ?_))
 refine aa (wp_ret (bb (ai (ai (bb (ai ?_))))))
 refine bpr (vi ((k:Int))) (ag Tryz.results82 rpt) ?_
 exact Ret.of (by rw[<-hft];have h_:=Dw (i:=k-1) hrt (by simpa using dc);rw[show k-1+1=k by omega] at h_;rw[h_]) aR.ext
 have l9:=beq_eq_false_iff_ne.1 dc
 refine wp_skip (av (aa (sqr (sqp [.m 8 3,sI 9 ((k:Int)-1) (by omega),.m 3 9] ?_))))
 refine aa ?_
 rw[show ((k:Int)-1)=((k-1:Nat):Int) by omega]
 refine⟨((k-1))+1,by omega,?_⟩
 exact⟨(k-1),by omega,((HI (i:=k-1) hrt (by simpa using dc)).symm.trans (by rw[show k-1+1=k by omega])).trans hft,rfl,(by kernel_rfl),aR.pk []⟩
 refine wp_exit (al (al (bf (aa (wq (sqr (sqp [.k 2 (vi 0)] ?_)))))))
 refine aa (wp_ret ?_)
 refine bpr (vi 0) (ag Tryz.results82 rpt) ?_
 exact Ret.of (by rw[<-hft,show k=0 by omega];rfl) aR.ext
theorem xC(RA:Option Addr)(rc:Nat)(rs:List RcT)(n:Int)(w:World)(hR:RAt w RA rs)(hl:rs.length<=1000000):
  Calls Tryz.prog 141 #[.slice RA rs.length rc,.int .i64 n] w (Ret (.bool (fC (rs.map RcT.r) n)) w):=by
 go_enter Tryz.func141,Tryz.ntmps141
 have aj:=St.start w
 refine wq (sqr (sqp [.k 4 (.bool false)] ?_))
 refine aa (wq (wq (sqr (sqp [.m 6 0] ?_))))
 refine sqk (vi ((bn (rs.map RcT.r):Int))) aj (fun cx=>⟨_,Ah _ _ rs _ (hR.ext cx.upd.to_ext) hl,(ax (cx.ou 6))⟩) fun W3 aW=>?_
 refine sqp [.m 5 7] ?_
 refine aa (wp_block ?_)
 have hfl:=oY (rs.map RcT.r)
 rw[List.length_map] at hfl
 refine aN (fun t_ mz az W=>∃i:Nat,i<=rs.length/\imN (rs.map RcT.r) n i=fC (rs.map RcT.r) n/\mz=rs.length-i/\az=⟨(ovr (jv az) [(4,4,1,[vi ((i:Int))]),(2,8,21,[])] t_).toArray,[]⟩/\St w [] [] W) (rs.length-((bn (rs.map RcT.r)))) ?_ ?_
 exact⟨(bn (rs.map RcT.r)),hfl,Ga _ _,rfl,(by kernel_rfl),aW.pk []⟩
 rintro n5 a5 W5 ⟨i,hi,him,rfl,hj_,aR⟩
 refine ovz hj_ fun w4=>?_
 refine wq (wq (sqr (sqp [.m 8 5,.m 9 0,.k 10 (vi ((rs.length:Int))),.k 11 (.bool (decide ((i:Int)<(rs.length:Int))))] ?_)))
 refine aa (wds (fun kE pC=>?_) fun kE pC=>?_)
 ·refine wp_skip (aa (wq (wp_block (wq ?_))))
  obtain⟨rt,hrt⟩:∃rt,rs[i]? =some rt:=⟨_,List.getElem?_eq_getElem (by omega)⟩
  have hrm:=List.mem_of_getElem? hrt
  refine sqr (sqp [.m 14 0,.m 15 5] ?_)
  refine sql (.pointer (some ((ad RA).add (i*8)))) aR (fun cx=>aB (e:=27) (m:=i) (sz:=8) rfl (by kernel_rfl) (by kernel_rfl) (cx.ou 14) (cx.ou 15) (by omega) (by omega) (hR.row.ext cx.upd.to_ext) (bj (sz:=8) cm (by decide) (by omega))) ?_
  refine sql (.pointer (some ((ad RA).add (i*8+0)))) aR (fun cx=>bt rfl (by kernel_rfl) (cx.ou 16)) ?_
  refine sql (vi rt.r.kind) aR (fun cx=>ae rfl (by kernel_rfl) (cx.ou 17) (At.eltc (f:=rcC) (k:=0) cm (hR.row.ext cx.upd.to_ext) hrt rfl)) ?_
  refine sqp [.k 19 (.bool (rt.r.kind==8)),.m 20 19] ?_
  refine d3 20 [21,22,23,24,25,26,27] ?_ rfl (fun hq=>?_) ?_
  rotate_left
  have hq_:=hq
  try simp only[zB] at hq_
  refine sqp [.m 21 0,.m 22 5] ?_
  refine sql (.pointer (some ((ad RA).add (i*8)))) aR (fun cx=>aB (e:=27) (m:=i) (sz:=8) rfl (by kernel_rfl) (by kernel_rfl) (cx.ou 21) (cx.ou 22) (by omega) (by omega) (hR.row.ext cx.upd.to_ext) (bj (sz:=8) cm (by decide) (by omega))) ?_
  refine sql (.pointer (some ((ad RA).add (i*8+2)))) aR (fun cx=>bt rfl (by kernel_rfl) (cx.ou 23)) ?_
  refine sql (vi rt.r.tbl) aR (fun cx=>ae rfl (by kernel_rfl) (cx.ou 24) (At.eltc (f:=rcC) (k:=2) cm (hR.row.ext cx.upd.to_ext) hrt rfl)) ?_
  refine sqp [.m 26 1,.k 27 (.bool (rt.r.tbl==n))] ?_
  exact sqe
  refine c5 ?_
  refine sqp [sPa 28 (rt.r.kind==8) (rt.r.tbl==n)] ?_
  refine aa (wbs (fun fg=>?_) fun fg=>?_)
  have fb:=fg
  simp only[zB] at fb
  obtain⟨zm,zn⟩:=fb
  refine wq (sqr (sqp [.k 4 (.bool true)] ?_))
  refine aa (wp_ret (bb (ai (ai (bb (ai ?_))))))
  refine bpr (.bool true) (ag Tryz.results141 rpt) ?_
  exact Ret.of (by rw[<-him,xO hrt];have h_:=fg;rw[h_];rfl) aR.ext
  have fb:=fg
  simp only[zB] at fb
  refine wp_skip (av (aa (sqr (sqp [.m 12 5,sI 13 ((i:Int)+1) (by omega),.m 5 13] ?_))))
  refine aa ?_
  refine⟨rs.length-((i+1)),by omega,?_⟩
  exact⟨(i+1),by omega,by rw[<-him,xO hrt];have h_:=fg;rw[h_];rfl,rfl,(by kernel_rfl),aR.pk []⟩
 refine wp_exit (al (al (bf (aa (wq (sqr (sqp [.k 4 (.bool false)] ?_)))))))
 refine aa (wp_ret ?_)
 refine bpr (.bool false) (ag Tryz.results141 rpt) ?_
 exact Ret.of (by rw[<-him,imN,List.drop_of_length_le (by rw[List.length_map];omega)];rfl) aR.ext
end
end Go.Proofs.YtcdjaepgahbhfaaGreat
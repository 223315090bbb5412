import Derived.Test.YtcdjaepgahbhfaaGreatZ5
set_option linter.unusedVariables false
set_option linter.unusedSimpArgs false
set_option maxRecDepth 100000
set_option maxHeartbeats 16000000
namespace Go.Proofs.YtcdjaepgahbhfaaGreat
variable{N:Int->PgS}{S S' S2:StM}{W w' w0:World}{bor fp fp':List Nat}{bs l:List (Int×Nat)}{c c' db i j k p sb:Nat}{e:EdT}{er lsn:Int}{note:ByteArray}{os:List Int}{pg:PgR}{q:PgS}{r:RecM}{x:Int×Nat}
section
open Go.RowKit
theorem En{L:List RecM}{n:Nat}(h:L.length=n+1):(cy L L.length)[n]? =some (szF L:Int):=by
 rw[cy,List.getElem?_map,List.getElem?_range (by omega)]
 rw[Option.map_some,<-h,List.take_length]
theorem xz(h:RdR S lsn r S2 er)(h0:er=0):RdR S lsn r S2 0:=h0 ▸ h
theorem C9(db:Nat)(D:DkM)(bufs:Int)(L:List RecM)(tl:ByteArray)(c:Nat)(fp:List Nat)(w:World)(hB:(eDk db D fp).holds w)(hlt:∀k∈fp,k<w.heap.size)(hlog:D.log=ei L++tl)(hL:∀r∈L,bv r=true)(hta:ug D.log (szF L))(hz6:D.log.size<=1048576)(hfz:D.fl<=D.log.size)(hpg:D.pgs.length<=400)(hws:∀x∈D.pgs,x.ws.length<=c)(hc:c+200*L.length<=900000)(h8:∀r∈L,r.kind=8->r.note.size=512):
  Calls Tryz.prog 18 #[po db 0,.int .i64 bufs] w (fK db D bufs L fp w):=by
 have st1:St w fp [eDk db D fp] w:=St.lend hB (dV _ _ _) hlt
 go_enter Tryz.func18,Tryz.ntmps18
 have al:=st1
 refine wq (sqr (sqp [.k 4 (.pointer none),.k 5 (vi 0)] ?_))
 refine aa (wq (wq (sqr (sqp [.m 13 1,.k 14 (.bool (decide (bufs<1))),.m 15 14] ?_))))
 refine sqw 15 [16,17] rfl (fun _=>sqp [.m 16 1,.k 17 (.bool (decide (64<bufs)))] sqe) ?_
 refine sqp [sPo 18 (decide (bufs<1)) (decide (64<bufs))] ?_
 refine aa (wbs (fun pV=>?_) fun pV=>?_)
 have qR:=pV
 simp only[zB] at qR
 refine wq (sqr (sqp [.k 4 (.pointer none),.k 5 (vi 30)] ?_))
 refine aa (wp_ret (aj ?_))
 refine bpr (.tuple #[.pointer none,vi 30]) (aQ Tryz.results18 rpt rpt) ?_
 exact fK.dk (.bufs (by have h_:=pV;simp at h_;omega)) (al.pick [0] (by decide) rfl)
 have qR:=pV
 simp only[zB] at qR
 obtain⟨Ry,Rz⟩:=qR
 refine wp_skip (aa (wq (wq ?_)))
 obtain⟨onv,hon⟩:∃z,(!D.off)=z:=⟨_,rfl⟩
 have hbb:1<=bufs/\bufs<=64:=by have h_:=pV;simp at h_;omega
 refine sqr (sqp [.m 19 0] ?_)
 refine sqk (.bool onv) al (fun cx=>⟨_,rD hon (mj db D _ (fb (CtxV.holdF cx (cx.init 0 _ rfl) rfl))),(ax (cx.ou 19))⟩) fun IQ je=>?_
 refine sqp [.k 21 (.bool (!(onv)))] ?_
 refine aa ?_
 rcases Bool.eq_false_or_eq_true (onv) with dJ|dJ
 refine wp_cond_false (show Act.eval _ _= .bool false from(congrArg Value.bool (by rw[dJ];rfl))) (wp_skip (aa (wq (sqr (sqp [.m 22 0,.m 23 1] ?_)))))
 refine ej (fun x_=>pbx x_) (fun iT=> .map (some iT)) (fun iT=>eMx kcI ptX Tryz.prog 3 iT 0 (fun _=>none)) je (by
   refine svA fun g b W X cx=>?_
   exact lm rfl rfl rfl rfl (fun _ _ _ _ _=> .intro)) fun iT IV kY=>?_
 refine ej (fun x_=>pbx x_) (fun iU=> .map (some iU)) (fun iU=>eMx kcI ecB Tryz.prog 3 iU 0 (fun _=>none)) kY (by
   refine svA fun g b W X cx=>?_
   exact lm rfl rfl rfl rfl (fun _ _ _ _ _=> .intro)) fun iU qI cU=>?_
 refine ej (fun x_=>pbx x_) (fun iV=> .map (some iV)) (fun iV=>eMx kcI ecB Tryz.prog 3 iV 0 (fun _=>none)) cU (by
   refine svA fun g b W X cx=>?_
   exact lm rfl rfl rfl rfl (fun _ _ _ _ _=> .intro)) fun iV Ml kj=>?_
 refine sqp [.k 27 (.agg #[vp db,vi bufs,.map (some iT),vi 0,sn,sn,.map (some iU),.map (some iV),vi 0])] ?_
 refine ce #[vp db,vi bufs,.map (some iT),vi 0,sn,sn,.map (some iU),.map (some iV),vi 0] kj fun bB w3 dH=>?_
 refine sqp [.m 6 28] ?_
 refine aa (wq (aH [0,0,0,4,12,28,60,60,125,381,893,2047,4095,8191] [[],[],[],[0],[],[],[],[],[],[],[4],[],[],[6]] [[],[],[],[],[5],[],[],[],[],[],[6],[],[],[7]] [[],[],[],[],[],[],[],[],[],[],[4],[],[],[6]] [.k 30 (vp bB),.k 31 (vp bB),.k 32 (vp db),.c 33 (.string D.log),.a 34,.a 29,.a 35,.a 36,.k 37 (vp bB),.k 38 (po bB 4),.n,.k 39 (vp bB),.k 40 (po bB 5),.n] (fun ix d b X=>match ix with|0|1|2|3=>True|4=>d 34= .tuple #[.slice (sA (tg (b 34) 0)) L.length (sC (tg (b 34) 0)),.slice (sA (tg (b 34) 1)) L.length (sC (tg (b 34) 1))]/\X 5=eSc L (sA (tg (b 34) 0)) (sC (tg (b 34) 0)) (sA (tg (b 34) 1)) (sC (tg (b 34) 1)) ((X 5).fp)|5=>d 29= .tuple #[.slice (sA (tg (b 34) 0)) L.length (sC (tg (b 34) 0)),.slice (sA (tg (b 34) 1)) L.length (sC (tg (b 34) 1))]|6=>d 35= .slice (sA (tg (b 34) 0)) L.length (sC (tg (b 34) 0))|7=>d 36= .slice (sA (tg (b 34) 1)) L.length (sC (tg (b 34) 1))|8|9=>True|10=>X 6=eB bB 109 #[vp db,vi bufs,.map (some iT),vi 0,.slice (sA (tg (b 34) 0)) L.length (sC (tg (b 34) 0)),sn,.map (some iU),.map (some iV),vi 0]|11|12=>True|13=>X 7=eB bB 109 #[vp db,vi bufs,.map (some iT),vi 0,.slice (sA (tg (b 34) 0)) L.length (sC (tg (b 34) 0)),.slice (sA (tg (b 34) 1)) L.length (sC (tg (b 34) 1)),.map (some iU),.map (some iV),vi 0]|_=>True) [0,1,2,3,5,7] [3,4,5,6,7,10,13] [(29,5,1,30),(0,0,5,5),(0,6,7,6)] dH ?_ ?_ ?_))
 exact fun ix _ _ _ _ _ _ hs hb hx h=>match ix,h with
 |4,h=>by dsimp only;rw[<-hs 34 rfl,<-hb 34 rfl,<-hx 5 rfl];exact h
 |5,h=>by dsimp only;rw[<-hs 29 rfl,<-hb 34 rfl];exact h
 |6,h=>by dsimp only;rw[<-hs 35 rfl,<-hb 34 rfl];exact h
 |7,h=>by dsimp only;rw[<-hs 36 rfl,<-hb 34 rfl];exact h
 |10,h=>by dsimp only;rw[<-hb 34 rfl,<-hx 6 rfl];exact h
 |13,h=>by dsimp only;rw[<-hb 34 rfl,<-hx 7 rfl];exact h
 |0,_|1,_|2,_|3,_|8,_|9,_|11,_|12,_|_+14,_=>trivial
 refine⟨?_,?_,?_,?_,?_,?_,?_,trivial⟩
 exact xsc rfl id rfl rfl fun cx=>⟨_,kz db D _ (fb (CtxV.holdF cx (cx.init 0 _ rfl) rfl)),(ax (cx.an 2))⟩
 refine svA fun g b W X cx=>?_
 refine am.call (aq (args:=#[.string D.log]) rfl cx.sees rfl (by kernel_rfl) (ax (cx.an 3))) ?_
 refine(GH (De D.log tl L _ hlog hL hta (by omega))).mono ?_
 rintro e W1 ⟨LA4,lc4,EA4,ec4,fp4,rfl,aU⟩
 refine⟨_,rfl,vN [eSc L LA4 lc4 EA4 ec4 fp4] rfl rfl aU (fun d o X' hs hb hv hN=>?_)⟩
 have aK:=(hv 34 rfl).1;have aW:=(hv 34 rfl).2
 exact⟨aK.trans (by rw[aW];rfl),(by rw[aW];exact GY ((List.cons.inj hN).1))⟩
 exact sv rfl rfl rfl rfl rfl _ (fun _ _ _ h=>h) (fun b o h=>by rw[h 34 (by decide)]) fun g b W X cx=>dn rfl (dTn (cx.an 4)).1
 exact sv rfl rfl rfl rfl rfl _ (fun _ _ _ h=>h) (fun b o h=>by rw[h 34 (by decide)]) fun g b W X cx=>b8 rfl (dTn (cx.an 5)) rfl
 exact sv rfl rfl rfl rfl rfl _ (fun _ _ _ h=>h) (fun b o h=>by rw[h 34 (by decide)]) fun g b W X cx=>b8 rfl (dTn (cx.an 5)) rfl
 refine svA fun g b W X cx=>?_
 exact bx (n:=1) rfl (cx.an 9) (dTn (cx.an 6)) (by kernel_rfl) (by kernel_rfl) (by kernel_rfl) cx (cx.init 4 _ rfl) rfl (nle rfl) (by kernel_rfl) rfl rfl rfl (fun d o X' hs hb hx=>by rw[hb 34];exact hx)
 refine svA fun g b W X cx=>?_
 exact bx (n:=1) rfl (cx.an 12) (dTn (cx.an 7)) (by kernel_rfl) (by kernel_rfl) (by kernel_rfl) cx (dTn (cx.an 10)) rfl (nle rfl) (by kernel_rfl) rfl rfl rfl (fun d o X' hs hb hx=>by rw[hb 34];exact hx)
 intro d b X y6 hD e9 fr aG
 obtain⟨LA34_24,pH⟩:∃z,sA (tg (b 34) 0)=z:=⟨_,rfl⟩
 obtain⟨lc34_24,pI⟩:∃z,sC (tg (b 34) 0)=z:=⟨_,rfl⟩
 obtain⟨EA34_24,pJ⟩:∃z,sA (tg (b 34) 1)=z:=⟨_,rfl⟩
 obtain⟨ec34_24,pK⟩:∃z,sC (tg (b 34) 1)=z:=⟨_,rfl⟩
 have zr:X 5= _:=(dTn (hD 4 lq)).2
 obtain⟨RB,zt⟩:∃z,(X 5).fp=z:=⟨_,rfl⟩
 rw[zt] at zr
 clear zt
 simp only[zr,exq 7 ((dTn (hD 13 lq))),pH,pI,pJ,pK] at e9
 simp only[ed 34 ((dTn (hD 4 lq)).1),ed 29 ((dTn (hD 5 lq))),ed 35 ((dTn (hD 6 lq))),ed 36 ((dTn (hD 7 lq))),pH,pI,pJ,pK] at aG
 clear hD zr pH pI pJ pK;subst aG;clear d b X
 refine aa (wq (wq ?_))
 obtain⟨rs,hrs,ht25_⟩:=e9.u4.unscf
 have hrl:rs.length=L.length:=by rw[<-hrs,List.length_map]
 refine sqr (sqp [.m 41 6,.k 42 (vp bB),.k 43 (po bB 4)] ?_)
 refine av 7 ht25_ ?_
 refine sqp [.k 45 (vi ((L.length:Int))),.k 46 (vi 0)] ?_
 refine aa (wp_block ?_)
 refine aT (fun t_ mz az W=>∃j:Nat,j<=L.length/\mz=L.length-j/\az=⟨(ovr (jv az) [(7,7,2,[]),(37,46,0,[vi ((j:Int))]),(0,47,13,[])] t_).toArray,[]⟩/\St w fp [eO 27 8 (.slice LA34_24 L.length lc34_24) L.length (rs.flatMap rcC),eO 3 1 (.slice EA34_24 L.length ec34_24) L.length ((cy L L.length).map (Value.int .i64)),eRc rs,eDk db D fp,eMx kcI ptX Tryz.prog 3 iT 0 (fun _=>none),eMx kcI ecB Tryz.prog 3 iU 0 (fun _=>none),eMx kcI ecB Tryz.prog 3 iV 0 (fun _=>none),eB bB 109 #[vp db,vi bufs,.map (some iT),vi 0,.slice LA34_24 L.length lc34_24,.slice EA34_24 L.length ec34_24,.map (some iU),.map (some iV),vi ((bm (L.take j):Int))]] W) (L.length-0) ?_ ?_
 exact⟨0,Nat.zero_le _,rfl,(by kernel_rfl),ht25_.pk [0,1,2,3,4,5,6,7]⟩
 rintro ON a32 y7 ⟨j,hj,rfl,hj_,dc⟩
 refine ovz hj_ fun H3=>?_
 refine wq (sqr (sqp [.k 47 (.bool (decide ((j:Int)<(L.length:Int))))] ?_))
 refine aa (wq (wds (fun kF py=>?_) fun kF py=>?_))
 refine wp_skip (aa (wq (wp_block (wq ?_))))
 obtain⟨rt,hrt⟩:∃rt,rs[j]? =some rt:=⟨_,List.getElem?_eq_getElem (by omega)⟩
 have hlj:L[j]? =some rt.r:=by rw[<-hrs,List.getElem?_map,hrt];rfl
 refine sqr (sqp [.m 48 46] ?_)
 refine sql (.pointer (some ((ad LA34_24).add (j*8)))) dc (fun cx=>aI (e:=27) (m:=j) (sz:=8) rfl (by kernel_rfl) (by kernel_rfl) (cx.ou 44) (cx.ou 46) (by omega) (by omega) (At.of_ownN (cx.ri 0 rfl)) (bq (sz:=8) cL (by decide) (by omega))) ?_
 refine sql (.agg #[vi rt.r.kind,vi rt.r.xid,vi rt.r.tbl,sn,sn,.slice rt.A rt.r.eds.length rt.c,sn,.string rt.r.note]) dc (fun cx=>bT (f:=rcC) (m:=j) (sz:=8) (off:=0) (n:=8) rfl (by kernel_rfl) (by kernel_rfl) (cx.ou 49) rfl cL (At.of_ownN (cx.ri 0 rfl)) hrt (fun k hk=>match k,hk with|0,_=>rfl|1,_=>rfl|2,_=>rfl|3,_=>rfl|4,_=>rfl|5,_=>rfl|6,_=>rfl|7,_=>rfl|k+8,hk=>absurd hk (by omega))) ?_
 refine bY #[vi 0,vi 0,vi 0,sn,sn,sn,sn,.string ByteArray.empty] dc fun N7 Fl iG=>?_
 refine sqp [.m 7 48] ?_
 refine aV (n:=8) 8 #[vi rt.r.kind,vi rt.r.xid,vi rt.r.tbl,sn,sn,.slice rt.A rt.r.eds.length rt.c,sn,.string rt.r.note] iG fun se dz=>?_
 refine aa (wq (sqr (sqp [.k 51 (vp N7)] ?_)))
 refine av 8 dz ?_
 refine sqp [.k 53 (.bool (rt.r.kind==9))] ?_
 refine aa (wbs (fun zu=>?_) fun zu=>?_)
 have N8:=beq_iff_eq.1 zu
 refine sqr (sqp [.m 54 6,.m 55 7,sI 56 ((j:Int)+1) (by omega),.k 57 (vp bB),.k 58 (po bB 8)] ?_)
 refine aV (n:=1) 7 #[vp db,vi bufs,.map (some iT),vi 0,.slice LA34_24 L.length lc34_24,.slice EA34_24 L.length ec34_24,.map (some iU),.map (some iV),vi ((j:Int)+1)] dz fun Me l7=>?_
 refine aw (aa (sqr (sqp [sI 59 ((j:Int)+1) (by omega),.m 46 59] ?_)))
 refine aa ?_
 have hft:bm (L.take (j+1))=j+1:=by rw[tV hlj,if_pos (by simpa using zu)]
 rw[show ((j:Int)+1)=((bm (L.take (j+1)):Nat):Int) by rw[hft];omega] at l7
 refine⟨L.length-((j+1)),by omega,?_⟩
 exact⟨(j+1),by omega,rfl,(by kernel_rfl),l7.pk [0,1,2,3,4,5,6,7]⟩
 have N8:=beq_eq_false_iff_ne.1 zu
 refine wp_skip (aw (aa (sqr (sqp [sI 59 ((j:Int)+1) (by omega),.m 46 59] ?_))))
 refine aa ?_
 have hft:bm (L.take (j+1))=bm (L.take j):=by rw[tV hlj,if_neg (by simpa using zu)]
 rw[<-hft] at dz
 refine⟨L.length-((j+1)),by omega,?_⟩
 exact⟨(j+1),by omega,rfl,(by kernel_rfl),dz.pk [0,1,2,3,4,5,6,7]⟩
 refine wp_exit (au (au (bh (aa (wq (wq ?_))))))
 obtain rfl:j=L.length:=by omega
 rw[List.take_length] at dc
 refine sqr (sqp [.m 60 6,.k 61 (vp bB),.k 62 (po bB 8)] ?_)
 refine av 7 dc ?_
 refine sqp [.k 64 (.bool ((bm L:Int)==0))] ?_
 refine aa (wbs (fun m6=>?_) fun m6=>?_)
 have CR:=beq_iff_eq.1 m6
 refine wq (sqr (sqp [.k 4 (.pointer none),.k 5 (vi 11)] ?_))
 refine aa (wp_ret (aj ?_))
 refine bpr (.tuple #[.pointer none,vi 11]) (aQ Tryz.results18 rpt rpt) ?_
 exact fK.dk (.form hbb (by have h_:=hon.trans dJ;simpa using h_) (by have h_:=m6;simp at h_;omega)) (dc.pick [3] (by decide) rfl)
 have CR:=beq_eq_false_iff_ne.1 m6
 refine wp_skip (aa (wq (wq ?_)))
 have hf0:bm L≠0:=by have h_:=m6;simp at h_;omega
 have hfl:=o4 L
 obtain⟨nl,hnl⟩:∃n,L.length=n+1:=⟨L.length-1,by omega⟩
 refine bG [0,1,3,7,0,16,48,112,240,496,1023,2047,4095] [[],[],[],[7],[],[],[],[7],[],[],[1],[1]] [.k 65 (vp bB),.k 66 (vp bB),.k 67 (po bB 5),.c 68 (.slice EA34_24 L.length ec34_24),.k 69 (vp bB),.k 70 (vp bB),.k 71 (po bB 5),.c 72 (.slice EA34_24 L.length ec34_24),.k 73 (vi ((L.length:Int))),tJ 74 ((L.length:Int)-1) (nl:Int) (by omega) (by omega),.c 75 (.pointer (some ((ad EA34_24).add nl))),.c 76 (vi ((szF L:Int))),.k 9 (vi ((szF L:Int)))] [0,1,2,3,4,5,6,7] [3,7,10,11] [(9,12,1,10),(55,0,12,67)] dc ?_ fun L6 nG=>?_
 refine⟨?_,?_,?_,?_,trivial⟩
 exact xs4 rfl id fun cx=>ae rfl (by kernel_rfl) (cx.an 2) ((cx.bi 7 rfl).cell 5)
 exact xs4 rfl id fun cx=>ae rfl (by kernel_rfl) (cx.an 6) ((cx.bi 7 rfl).cell 5)
 exact xs4 rfl id fun cx=>bS (e:=3) (m:=nl) rfl (by kernel_rfl) (by kernel_rfl) (cx.an 3) (cx.an 9) (by omega) (by omega) (At.of_own (cx.ri 1 rfl)) (by rw[List.length_map,ku]<;>omega)
 exact xs4 rfl id fun cx=>ae rfl (by kernel_rfl) (cx.an 10) (At.cellAd (At.of_own (cx.ri 1 rfl)) ((List.getElem?_map ..).trans (by rw[En hnl];rfl)))
 refine aa (wq (sqr (sqp [.m 77 9,.m 78 0] ?_)))
 refine sqk (.string D.log) nG (fun cx=>⟨_,kz db D _ (fb (CtxV.holdF cx (cx.init 3 _ rfl) rfl)),(ax (cx.ou 78))⟩) fun Fj gG=>?_
 refine sqp [.k 80 (vi ((D.log.size:Int))),.k 81 (.bool (decide ((szF L:Int)<(D.log.size:Int))))] ?_
 refine aa (wds (fun od N9=>?_) fun od N9=>?_)
 refine wq (sqr (sqp [.m 82 0,.m 83 9] ?_))
 refine bN (fun X_=>X_.fp) (vi ((opD D (ctE D (szF L)) (ctD (szF L))).2)) (fun I7=>eDk db ((opD D (ctE D (szF L)) (ctD (szF L))).1) I7) 3 gG (by
   refine svA fun g b W X cx=>?_
   refine am.call (aq (args:=#[vp db,vi ((szF L:Int))]) rfl cx.sees rfl (by kernel_rfl) (aP (cx.ou 82) (cx.ou 83))) ?_
   refine(Gz db D (szF L:Int) _ _ (CtxV.holdF cx (cx.init 3 _ rfl) rfl) (CtxV.ltF cx (cx.init 3 _ rfl) rfl) (by omega)).mono ?_
   rintro e W1 ⟨rfl,fp4,aU⟩
   refine⟨_,rfl,aN (E:=eDk db D fp) [eDk db (opD D (ctE D (szF L)) (ctD (szF L))).1 fp4] (cx.init 3 _ rfl) rfl rfl aU (fun d o X' hs hb hv hN=>?_)⟩
   have aK:=(hv 84 rfl).1;have aW:=(hv 84 rfl).2
   exact⟨aK.trans rfl,cJ ((List.cons.inj hN).1)⟩) fun I7 IW hG=>?_
 refine sqp [.m 10 84] ?_
 refine aa (wq (sqr (sqp [.m 85 10,.k 86 (.bool (((opD D (ctE D (szF L)) (ctD (szF L))).2) != 0))] ?_)))
 refine aa (wbs (fun zv=>?_) fun zv=>?_)
 have Oa:=bne_iff_ne.1 zv
 refine wq (sqr (sqp [.m 87 10,.k 4 (.pointer none),.m 5 87] ?_))
 refine aa (wp_ret (aj ?_))
 refine bpr (.tuple #[.pointer none,vi ((opD D (ctE D (szF L)) (ctD (szF L))).2)]) (aQ Tryz.results18 rpt rpt) ?_
 have hop:f6 D L=opD D (ctE D (szF L)) (ctD (szF L)):=if_pos (by have h_:=of_decide_eq_true od;omega)
 exact fK.dk (by have h_:=OpnR.cut (L:=L) hbb (by have h_:=hon.trans dJ;simpa using h_) hf0 (by rw[hop];simpa using zv);rw[hop] at h_;exact h_) (hG.pick [3] (by decide) rfl)
 have Oa:=bne_eq_false_iff_eq.1 zv
 refine wp_skip (aa (wq (wq ?_)))
 have hop:f6 D L=opD D (ctE D (szF L)) (ctD (szF L)):=if_pos (by have h_:=of_decide_eq_true od;omega)
 have hc0:(f6 D L).2=0:=by rw[hop];simpa using zv
 obtain⟨D1,hD1⟩:∃z,(f6 D L).1=z:=⟨_,rfl⟩
 rw[<-hop,hD1] at hG
 have hdk:=Bl hlog hfz hc0
 rw[hD1] at hdk
 have hok0:SOk (iL D1 bufs rs (bm L)) c:=SOk.opn hbb (by rw[hdk.2.1];exact hpg) (by rw[hdk.2.1];exact hws) (by rw[hrs];exact hL) (by rw[hrs];exact hdk.1) (by rw[hdk.1,ck];have h_:=congrArg ByteArray.size hlog;rw[ByteArray.size_append,ck] at h_;omega) (by rw[hdk.2.2.1,hdk.1,ck];omega)
 have hn82_:=(hG.nM dM).nA fq
 refine sqr (sqp [.m 88 6,.k 89 (vp bB),.k 90 (po bB 8)] ?_)
 refine av 9 hn82_ ?_
 refine sqp [.m 11 91] ?_
 refine aa (wp_block ?_)
 obtain⟨fp88_,hk88_⟩:=St.stf (S:=iL D1 bufs rs (bm L)) (by have h_:=hn82_.u8.u8.u6.u6.u6.u6.u6.u8.u9;rw[stL,stC,StM.L,show (iL D1 bufs rs (bm L)).recs.map RcT.r=L from hrs,show (iL D1 bufs rs (bm L)).recs.length=L.length from hrl];exact h_) (fun t ht=>by cases ht) (fun t ht=>ht)
 refine aT (fun t_ mz az W=>∃j:Nat,∃Sj:StM,∃fpj:List Nat,j<=L.length/\(∀S2 er,RdL j Sj (L.drop j) S2 er->RdL (bm L) (iL D1 bufs rs (bm L)) (L.drop (bm L)) S2 er)/\SOk Sj (c+200*j)/\Sj.recs=rs/\Sj.rr=rs/\mz=L.length-j/\az=⟨(ovr (jv az) [(4,4,2,[]),(5,11,0,[vi ((j:Int))]),(0,12,1,[]),(79,92,23,[])] t_).toArray,[]⟩/\St w fp [eSt bB db Sj fpj] W) (L.length-((bm L))) ?_ ?_
 exact⟨(bm L),(iL D1 bufs rs (bm L)),fp88_,hfl,fun S2 er h=>h,hok0.mono (by omega),rfl,rfl,rfl,(by kernel_rfl),hk88_.pk [0]⟩
 rintro TS a89 Mm ⟨j,Sj,fpj,hj,hcont,hokj,hrj,hrrj,rfl,hj_,l9⟩
 refine ovz hj_ fun R5=>?_
 refine wq (wq ?_)
 obtain⟨mb90_,RA90_,rc90_,EA90_,ec90_,ib90_,tb90_,fpd90_,ha90_⟩:=St.toA (L:=[]) (l9.pick [0] (by decide) rfl)
 have hb90_:St w fp [ky bB db Sj mb90_ RA90_ rc90_ EA90_ ec90_ ib90_ tb90_ fpd90_ fpj] Mm:=ha90_
 have hrjl:Sj.recs.length=L.length:=by rw[hrj,hrl]
 have hcj:200*j<=200*L.length:=by omega
 refine sqr (sqp [.m 92 11,.m 93 6,.k 94 (vp bB),.k 95 (po bB 4)] ?_)
 refine sql (.slice RA90_ Sj.recs.length rc90_) hb90_ (fun cx=>ae rfl (by kernel_rfl) (cx.ou 95) ((jr (CtxV.holdF cx (cx.init 0 _ rfl) rfl)).blkL.cell 4)) ?_
 refine sqp [.k 97 (vi ((Sj.recs.length:Int))),.k 98 (.bool (decide ((j:Int)<(Sj.recs.length:Int))))] ?_
 refine aa (wds (fun PF Ob=>?_) fun PF Ob=>?_)
 refine wp_skip (aa (wq (wp_block (wq ?_))))
 have hjl:j<L.length:=by omega
 obtain⟨rt,hrt⟩:∃rt,rs[j]? =some rt:=⟨_,List.getElem?_eq_getElem (by omega)⟩
 have hrt2:Sj.recs[j]? =some rt:=by rw[hrj];exact hrt
 have hlj:L[j]? =some rt.r:=by rw[<-hrs,List.getElem?_map,hrt];rfl
 have hrm:rt∈Sj.rr:=by rw[hrrj];exact List.mem_of_getElem? hrt
 have hlm:=List.mem_of_getElem? hlj
 refine sqr (sqp [.m 101 6,.m 102 11,sI 103 ((j:Int)+1) (by omega),.m 104 6,.k 105 (vp bB),.k 106 (po bB 4)] ?_)
 refine sql (.slice RA90_ Sj.recs.length rc90_) hb90_ (fun cx=>ae rfl (by kernel_rfl) (cx.ou 106) ((jr (CtxV.holdF cx (cx.init 0 _ rfl) rfl)).blkL.cell 4)) ?_
 refine sqp [.m 108 11] ?_
 refine sql (.pointer (some ((ad RA90_).add (j*8)))) hb90_ (fun cx=>aI (e:=27) (m:=j) (sz:=8) rfl (by kernel_rfl) (by kernel_rfl) (cx.ou 107) (cx.ou 108) (by omega) (by omega) (jr (CtxV.holdF cx (cx.init 0 _ rfl) rfl)).recs (bq (sz:=8) cL (by decide) (by omega))) ?_
 refine sql (.agg #[vi rt.r.kind,vi rt.r.xid,vi rt.r.tbl,sn,sn,.slice rt.A rt.r.eds.length rt.c,sn,.string rt.r.note]) hb90_ (fun cx=>bT (f:=rcC) (m:=j) (sz:=8) (off:=0) (n:=8) rfl (by kernel_rfl) (by kernel_rfl) (cx.ou 109) rfl cL (jr (CtxV.holdF cx (cx.init 0 _ rfl) rfl)).recs hrt2 (fun k hk=>match k,hk with|0,_=>rfl|1,_=>rfl|2,_=>rfl|3,_=>rfl|4,_=>rfl|5,_=>rfl|6,_=>rfl|7,_=>rfl|k+8,hk=>absurd hk (by omega))) ?_
 refine pi (fun x_=>tZ x_) (fun X_=>X_.fp) (fun er111_109=>vi er111_109) (fun er111_109 zw=>eSx bB db (fun S2=>RdR Sj ((j:Int)+1) rt.r S2 er111_109) zw) 0 hb90_ (by
   refine svA fun g b W X cx=>?_
   refine am.call (aq (args:=#[vp bB,vi ((j:Int)+1),.agg #[vi rt.r.kind,vi rt.r.xid,vi rt.r.tbl,sn,sn,.slice rt.A rt.r.eds.length rt.c,sn,.string rt.r.note]]) rfl cx.sees rfl (by kernel_rfl) (dN (cx.ou 101) (cx.ou 103) (cx.ou 110))) ?_
   refine(wa bB db Sj ((j:Int)+1) rt (c+200*j) _ _ (rv (CtxV.holdF cx (cx.init 0 _ rfl) rfl)) (CtxV.ltF cx (cx.init 0 _ rfl) rfl) hokj (by omega) (hL _ hlm) hrm (h8 _ hlm)).mono ?_
   rintro e W1 ⟨er4,rfl,fp4,aU⟩
   refine⟨_,rfl,aN (E:=ky bB db Sj mb90_ RA90_ rc90_ EA90_ ec90_ ib90_ tb90_ fpd90_ fpj) [eSx bB db (fun S2=>RdR Sj ((j:Int)+1) rt.r S2 er4) fp4] (cx.init 0 _ rfl) rfl rfl aU (fun d o X' hs hb hv hN=>?_)⟩
   have aK:=(hv 111 rfl).1;have aW:=(hv 111 rfl).2
   exact⟨aK.trans (by rw[aW];exact rfl),(by rw[aW];exact fN ((List.cons.inj hN).1))⟩) fun er111_109 zw PG zx=>?_
 refine sqp [.m 12 111] ?_
 refine aa (wq ?_)
 obtain⟨S1,hR,hy111_⟩:=zx.unx
 have hrd_:=hR.ok hokj (hL _ hlm)
 refine sqr (sqp [.m 112 12,.k 113 (.bool (er111_109 != 0))] ?_)
 refine aa (wbs (fun rK=>?_) fun rK=>?_)
 have Mw:=bne_iff_ne.1 rK
 refine wq (sqr (sqp [.m 114 12,.k 4 (.pointer none),.m 5 114] ?_))
 refine aa (wp_ret (bb (aj (aj (bb (aj ?_))))))
 refine bpr (.tuple #[.pointer none,vi er111_109]) (aQ Tryz.results18 rpt rpt) ?_
 obtain⟨fpz,hz118_⟩:=St.dkOf (L:=[]) (hy111_.pick [0] (by decide) rfl)
 exact fK.dk (.bad hbb (by have h_:=hon.trans dJ;simpa using h_) hf0 hc0 rs hrs (by rw[hD1];exact hcont _ _ (by rw[List.drop_eq_getElem_cons hjl,show L[j]'hjl=rt.r from(List.getElem?_eq_some_iff.1 hlj).2];exact RdL.bad hR (by simpa using rK))) (by simpa using rK)) hz118_
 have Mw:=bne_eq_false_iff_eq.1 rK
 refine wp_skip (aw (aa (sqr (sqp [.m 99 11,sI 100 ((j:Int)+1) (by omega),.m 11 100] ?_))))
 refine aa ?_
 refine⟨L.length-((j+1)),by omega,?_⟩
 exact⟨(j+1),S1,zw,by omega,(fun S2 er h=>hcont S2 er (by rw[List.drop_eq_getElem_cons (by omega:j<L.length),show L[j]'(by omega)=rt.r from(List.getElem?_eq_some_iff.1 hlj).2];exact RdL.cons (xz hR (by simpa using rK)) h)),(hrd_.1.mono (by omega)),hrd_.2.2.1.trans hrj,hrd_.2.1.trans hrrj,rfl,(by kernel_rfl),hy111_.pk [0]⟩
 refine wp_exit (au (au (bh (aa (wq (sqr (sqp [.m 115 6,.m 4 115,.k 5 (vi 0)] ?_)))))))
 refine aa (wp_ret ?_)
 refine bpr (.tuple #[vp bB,vi 0]) (aQ Tryz.results18 rpt rpt) ?_
 exact fK.st (.ok hbb (by have h_:=hon.trans dJ;simpa using h_) hf0 hc0 rs hrs (by rw[hD1];exact hcont _ _ (by rw[List.drop_of_length_le (by omega)];exact RdL.nil _ _))) (St.ofA (L:=[]) (hb90_.pick [0] (by decide) rfl))
 refine wp_skip (aa (wq (wq ?_)))
 have hop:f6 D L=(D,0):=if_neg (by have h_:=of_decide_eq_false od;omega)
 have hc0:(f6 D L).2=0:=by rw[hop]
 obtain⟨D1,hD1⟩:∃z,(f6 D L).1=z:=⟨_,rfl⟩
 have hD2:D=D1:=by rw[<-hD1,hop]
 rw[show eDk db D=eDk db D1 by rw[hD2]] at gG
 have hdk:=Bl hlog hfz hc0
 rw[hD1] at hdk
 have hok0:SOk (iL D1 bufs rs (bm L)) c:=SOk.opn hbb (by rw[hdk.2.1];exact hpg) (by rw[hdk.2.1];exact hws) (by rw[hrs];exact hL) (by rw[hrs];exact hdk.1) (by rw[hdk.1,ck];have h_:=congrArg ByteArray.size hlog;rw[ByteArray.size_append,ck] at h_;omega) (by rw[hdk.2.2.1,hdk.1,ck];omega)
 have hn125_:=(gG.nM dM).nA fq
 refine sqr (sqp [.m 88 6,.k 89 (vp bB),.k 90 (po bB 8)] ?_)
 refine av 9 hn125_ ?_
 refine sqp [.m 11 91] ?_
 refine aa (wp_block ?_)
 obtain⟨fp131_,hk131_⟩:=St.stf (S:=iL D1 bufs rs (bm L)) (by have h_:=hn125_.u8.u8.u6.u6.u6.u6.u6.u8.u9;rw[stL,stC,StM.L,show (iL D1 bufs rs (bm L)).recs.map RcT.r=L from hrs,show (iL D1 bufs rs (bm L)).recs.length=L.length from hrl];exact h_) (fun t ht=>by cases ht) (fun t ht=>ht)
 refine aT (fun t_ mz az W=>∃j:Nat,∃Sj:StM,∃fpj:List Nat,j<=L.length/\(∀S2 er,RdL j Sj (L.drop j) S2 er->RdL (bm L) (iL D1 bufs rs (bm L)) (L.drop (bm L)) S2 er)/\SOk Sj (c+200*j)/\Sj.recs=rs/\Sj.rr=rs/\mz=L.length-j/\az=⟨(ovr (jv az) [(4,4,2,[]),(5,11,0,[vi ((j:Int))]),(0,12,1,[]),(79,92,23,[])] t_).toArray,[]⟩/\St w fp [eSt bB db Sj fpj] W) (L.length-((bm L))) ?_ ?_
 exact⟨(bm L),(iL D1 bufs rs (bm L)),fp131_,hfl,fun S2 er h=>h,hok0.mono (by omega),rfl,rfl,rfl,(by kernel_rfl),hk131_.pk [0]⟩
 rintro R6 a132 PH ⟨j,Sj,fpj,hj,hcont,hokj,hrj,hrrj,rfl,hj_,Mx⟩
 refine ovz hj_ fun RD=>?_
 refine wq (wq ?_)
 obtain⟨mb133_,RA133_,rc133_,EA133_,ec133_,ib133_,tb133_,fpd133_,ha133_⟩:=St.toA (L:=[]) (Mx.pick [0] (by decide) rfl)
 have hb133_:St w fp [ky bB db Sj mb133_ RA133_ rc133_ EA133_ ec133_ ib133_ tb133_ fpd133_ fpj] PH:=ha133_
 have hrjl:Sj.recs.length=L.length:=by rw[hrj,hrl]
 have hcj:200*j<=200*L.length:=by omega
 refine sqr (sqp [.m 92 11,.m 93 6,.k 94 (vp bB),.k 95 (po bB 4)] ?_)
 refine sql (.slice RA133_ Sj.recs.length rc133_) hb133_ (fun cx=>ae rfl (by kernel_rfl) (cx.ou 95) ((jr (CtxV.holdF cx (cx.init 0 _ rfl) rfl)).blkL.cell 4)) ?_
 refine sqp [.k 97 (vi ((Sj.recs.length:Int))),.k 98 (.bool (decide ((j:Int)<(Sj.recs.length:Int))))] ?_
 refine aa (wds (fun Oc My=>?_) fun Oc My=>?_)
 refine wp_skip (aa (wq (wp_block (wq ?_))))
 have hjl:j<L.length:=by omega
 obtain⟨rt,hrt⟩:∃rt,rs[j]? =some rt:=⟨_,List.getElem?_eq_getElem (by omega)⟩
 have hrt2:Sj.recs[j]? =some rt:=by rw[hrj];exact hrt
 have hlj:L[j]? =some rt.r:=by rw[<-hrs,List.getElem?_map,hrt];rfl
 have hrm:rt∈Sj.rr:=by rw[hrrj];exact List.mem_of_getElem? hrt
 have hlm:=List.mem_of_getElem? hlj
 refine sqr (sqp [.m 101 6,.m 102 11,sI 103 ((j:Int)+1) (by omega),.m 104 6,.k 105 (vp bB),.k 106 (po bB 4)] ?_)
 refine sql (.slice RA133_ Sj.recs.length rc133_) hb133_ (fun cx=>ae rfl (by kernel_rfl) (cx.ou 106) ((jr (CtxV.holdF cx (cx.init 0 _ rfl) rfl)).blkL.cell 4)) ?_
 refine sqp [.m 108 11] ?_
 refine sql (.pointer (some ((ad RA133_).add (j*8)))) hb133_ (fun cx=>aI (e:=27) (m:=j) (sz:=8) rfl (by kernel_rfl) (by kernel_rfl) (cx.ou 107) (cx.ou 108) (by omega) (by omega) (jr (CtxV.holdF cx (cx.init 0 _ rfl) rfl)).recs (bq (sz:=8) cL (by decide) (by omega))) ?_
 refine sql (.agg #[vi rt.r.kind,vi rt.r.xid,vi rt.r.tbl,sn,sn,.slice rt.A rt.r.eds.length rt.c,sn,.string rt.r.note]) hb133_ (fun cx=>bT (f:=rcC) (m:=j) (sz:=8) (off:=0) (n:=8) rfl (by kernel_rfl) (by kernel_rfl) (cx.ou 109) rfl cL (jr (CtxV.holdF cx (cx.init 0 _ rfl) rfl)).recs hrt2 (fun k hk=>match k,hk with|0,_=>rfl|1,_=>rfl|2,_=>rfl|3,_=>rfl|4,_=>rfl|5,_=>rfl|6,_=>rfl|7,_=>rfl|k+8,hk=>absurd hk (by omega))) ?_
 refine pi (fun x_=>tZ x_) (fun X_=>X_.fp) (fun er111_152=>vi er111_152) (fun er111_152 zy=>eSx bB db (fun S2=>RdR Sj ((j:Int)+1) rt.r S2 er111_152) zy) 0 hb133_ (by
   refine svA fun g b W X cx=>?_
   refine am.call (aq (args:=#[vp bB,vi ((j:Int)+1),.agg #[vi rt.r.kind,vi rt.r.xid,vi rt.r.tbl,sn,sn,.slice rt.A rt.r.eds.length rt.c,sn,.string rt.r.note]]) rfl cx.sees rfl (by kernel_rfl) (dN (cx.ou 101) (cx.ou 103) (cx.ou 110))) ?_
   refine(wa bB db Sj ((j:Int)+1) rt (c+200*j) _ _ (rv (CtxV.holdF cx (cx.init 0 _ rfl) rfl)) (CtxV.ltF cx (cx.init 0 _ rfl) rfl) hokj (by omega) (hL _ hlm) hrm (h8 _ hlm)).mono ?_
   rintro e W1 ⟨er4,rfl,fp4,aU⟩
   refine⟨_,rfl,aN (E:=ky bB db Sj mb133_ RA133_ rc133_ EA133_ ec133_ ib133_ tb133_ fpd133_ fpj) [eSx bB db (fun S2=>RdR Sj ((j:Int)+1) rt.r S2 er4) fp4] (cx.init 0 _ rfl) rfl rfl aU (fun d o X' hs hb hv hN=>?_)⟩
   have aK:=(hv 111 rfl).1;have aW:=(hv 111 rfl).2
   exact⟨aK.trans (by rw[aW];exact rfl),(by rw[aW];exact fN ((List.cons.inj hN).1))⟩) fun er111_152 zy PI uX=>?_
 refine sqp [.m 12 111] ?_
 refine aa (wq ?_)
 obtain⟨S1,hR,hy154_⟩:=uX.unx
 have hrd_:=hR.ok hokj (hL _ hlm)
 refine sqr (sqp [.m 112 12,.k 113 (.bool (er111_152 != 0))] ?_)
 refine aa (wbs (fun rL=>?_) fun rL=>?_)
 have Mz:=bne_iff_ne.1 rL
 refine wq (sqr (sqp [.m 114 12,.k 4 (.pointer none),.m 5 114] ?_))
 refine aa (wp_ret (bb (aj (aj (bb (aj ?_))))))
 refine bpr (.tuple #[.pointer none,vi er111_152]) (aQ Tryz.results18 rpt rpt) ?_
 obtain⟨fpz,hz161_⟩:=St.dkOf (L:=[]) (hy154_.pick [0] (by decide) rfl)
 exact fK.dk (.bad hbb (by have h_:=hon.trans dJ;simpa using h_) hf0 hc0 rs hrs (by rw[hD1];exact hcont _ _ (by rw[List.drop_eq_getElem_cons hjl,show L[j]'hjl=rt.r from(List.getElem?_eq_some_iff.1 hlj).2];exact RdL.bad hR (by simpa using rL))) (by simpa using rL)) hz161_
 have Mz:=bne_eq_false_iff_eq.1 rL
 refine wp_skip (aw (aa (sqr (sqp [.m 99 11,sI 100 ((j:Int)+1) (by omega),.m 11 100] ?_))))
 refine aa ?_
 refine⟨L.length-((j+1)),by omega,?_⟩
 exact⟨(j+1),S1,zy,by omega,(fun S2 er h=>hcont S2 er (by rw[List.drop_eq_getElem_cons (by omega:j<L.length),show L[j]'(by omega)=rt.r from(List.getElem?_eq_some_iff.1 hlj).2];exact RdL.cons (xz hR (by simpa using rL)) h)),(hrd_.1.mono (by omega)),hrd_.2.2.1.trans hrj,hrd_.2.1.trans hrrj,rfl,(by kernel_rfl),hy154_.pk [0]⟩
 refine wp_exit (au (au (bh (aa (wq (sqr (sqp [.m 115 6,.m 4 115,.k 5 (vi 0)] ?_)))))))
 refine aa (wp_ret ?_)
 refine bpr (.tuple #[vp bB,vi 0]) (aQ Tryz.results18 rpt rpt) ?_
 exact fK.st (.ok hbb (by have h_:=hon.trans dJ;simpa using h_) hf0 hc0 rs hrs (by rw[hD1];exact hcont _ _ (by rw[List.drop_of_length_le (by omega)];exact RdL.nil _ _))) (St.ofA (L:=[]) (hb133_.pick [0] (by decide) rfl))
 refine wp_cond_true (show Act.eval _ _= .bool true from(congrArg Value.bool (by rw[dJ];rfl))) (wq (sqr (sqp [.k 4 (.pointer none),.k 5 (vi 24)] ?_)))
 refine aa (wp_ret (aj ?_))
 refine bpr (.tuple #[.pointer none,vi 24]) (aQ Tryz.results18 rpt rpt) ?_
 exact fK.dk (.off hbb (by have h_:=hon.trans dJ;simpa using h_)) (je.pick [0] (by decide) rfl)
end
section
open Go.RowKit
def aJ(note:ByteArray):RecM:=⟨9,0,0,[],note⟩
theorem cR(h:note.size<=60000):bv (aJ note)=true:=by
 have:decide ((note.size:Int)<=60000)=true:=decide_eq_true (by omega)
 show (inB 9 1 10&&(inB 0 0 127&&(inB 0 0 65535&&(decide ((([]:List EdT).length:Int)<=64)&&((([]:List EdT).all edR)&&decide ((note.size:Int)<=60000))))))=true
 rw[this];decide
def fmR(D:DkM)(note:ByteArray):DkM×Int:=opD D (apE D (aC (aJ note))) (apD (aC (aJ note)))
def vC(D:DkM)(note:ByteArray):DkM×Int:=if 0<D.log.size\/60000<note.size then (D,1) else if (fmR D note).2≠0 then fmR D note else opD (fmR D note).1 0 flD
theorem PaQ.ok{n:Int}{ok:Bool}(h:PaQ S n S2 ok)(hc:SOk S c):SOk S2 (c+3):=by
 obtain⟨er,h1,_⟩:=h
 exact hc.load h1
theorem PaQ.ev{n:Int}{ok:Bool}(h:PaQ S n S2 ok)(hc:SOk S c):Ev S S2/\(ok=false->S2.D.off=true\/¬(0<=n/\n<(S.D.pgs.length:Int)))/\(ok=true->0<=n/\n<(S.D.pgs.length:Int)):=by
 obtain⟨er,h1,h2⟩:=h
 obtain⟨a,b,d⟩:=Ev.load hc h1
 refine⟨a,fun h=>b ?_,fun h=>(d ?_).1⟩
 rw[h] at h2;simpa using h2.symm
 rw[h] at h2;simpa using h2.symm
def ee(S:StM)(n:Int)(b:Bool):StM:={S with nt:=mzP S.told n S.nt,told:=cf S.told n (some b)}
theorem SOk.told(h:SOk S c)(n:Int)(b:Bool):SOk (ee S n b) (c+1):=⟨h.bufs,h.pgs,fun x hx=>Nat.le_succ_of_le (h.ws x hx),⟨h.time.1,by have:=h.time.2;show S.time<= _;omega⟩,Nat.le_succ_of_le h.ni,by have h1:=qA S.told n S.nt;have:=h.nt;show mzP S.told n S.nt<=c+1;omega,h.right,h.nodup,h.len,h.keys,h.recs,h.log,h.lsz,h.fl,h.cl⟩
inductive FrR:StM->Nat->StM->Int->Prop where
 |stop {S:StM}{n:Nat}(h:S.D.pgs.length<=n):FrR S n S (-1)
 |told {S S2:StM}{n:Nat}{r:Int}(h:n<S.D.pgs.length) (ht:(S.told (n:Int)).getD false=true) (hr:FrR S (n+1) S2 r):FrR S n S2 r
 |no {S S1 S2:StM}{n:Nat}{r:Int}{ok:Bool}(h:n<S.D.pgs.length) (ht:(S.told (n:Int)).getD false=false) (hp:PaQ S (n:Int) S1 ok) (hk:¬(ok=true/\(aD S (n:Int)).1=0)) (hr:FrR S1 (n+1) S2 r):FrR S n S2 r
 |yes {S S1:StM}{n:Nat}(h:n<S.D.pgs.length) (ht:(S.told (n:Int)).getD false=false) (hp:PaQ S (n:Int) S1 true) (hk:(aD S (n:Int)).1=0):FrR S n (ee S1 (n:Int) true) (n:Int)
def pY(sb db:Nat)(S:StM)(fp:List Nat)(w:World)(e:Ending)(w':World):Prop:=∃r,e= .returned (.int .i64 r)/\∃fp',St w fp [eSx sb db (fun S2=>FrR S 0 S2 r) fp'] w'
theorem pY.of{r:Int}{w:World}(h:FrR S 0 S2 r)(hs:St w fp ([]++[eSt sb db S2 fp']) w'):pY sb db S fp w (.returned (.int .i64 r)) w':=⟨r,rfl,fp',St.sx (L:=[]) hs h⟩
theorem Af(db:Nat)(D:DkM)(note:ByteArray)(fp:List Nat)(w:World)(hB:(eDk db D fp).holds w)(hlt:∀k∈fp,k<w.heap.size)(hlz:D.log.size<=9000000)(hns:note.size<=9000000):
  Calls Tryz.prog 20 #[po db 0,.string note] w (bV db (vC D note) fp w):=by
 have st1:St w fp [eDk db D fp] w:=St.lend hB (dV _ _ _) hlt
 go_enter Tryz.func20,Tryz.ntmps20
 have al:=st1
 refine wq (sqr (sqp [.k 4 (vi 0)] ?_))
 refine aa (wq (wq (sqr (sqp [.m 6 0] ?_))))
 refine sqk (.string D.log) al (fun cx=>⟨_,kz db D _ (fb (CtxV.holdF cx (cx.init 0 _ rfl) rfl)),(ax (cx.ou 6))⟩) fun W3 bc=>?_
 refine sqp [.k 8 (vi ((D.log.size:Int))),.k 9 (.bool (decide (0<(D.log.size:Int)))),.m 10 9] ?_
 refine sqw 10 [11,12,13] rfl (fun _=>sqp [.m 11 1,.k 12 (vi ((note.size:Int))),.k 13 (.bool (decide (60000<(note.size:Int))))] sqe) ?_
 refine sqp [sPo 14 (decide (0<(D.log.size:Int))) (decide (60000<(note.size:Int)))] ?_
 refine aa (wbs (fun dt=>?_) fun dt=>?_)
 have hH:=dt
 simp only[zB] at hH
 refine wq (sqr (sqp [.k 4 (vi 1)] ?_))
 refine aa (wp_ret (aj ?_))
 refine bpr (vi 1) (ai Tryz.results20 rpt) ?_
 exact bV.of (R':=(D,1)) (by rw[vC,if_pos (by have h_:=dt;simp at h_;omega)]) (bc.pick [0] (by decide) rfl)
 have hH:=dt
 simp only[zB] at hH
 obtain⟨Mu,Mv⟩:=hH
 refine wp_skip (aa (wq (wq ?_)))
 have hn6:note.size<=60000:=by have h_:=dt;simp at h_;omega
 have hfs:=eR (cR hn6)
 refine sqr (sqp [.m 15 0,.m 16 1,.k 17 (.agg #[vi 9,vi 0,vi 0,sn,sn,sn,sn,.string note])] ?_)
 refine sqk (.string (aC (aJ note))) bc (fun cx=>⟨_,j9 9 0 0 none 0 [] note _ (fun j u h=>by cases j<;>cases h) (by decide) (fun e he=>by cases he) (by omega),(ax (cx.ou 17))⟩) fun pU dl=>?_
 refine bN (fun X_=>X_.fp) (vi ((fmR D note).2)) (fun CT=>eDk db ((fmR D note).1) CT) 0 dl (by
   refine svA fun b f W X cx=>?_
   refine am.call (aq (args:=#[vp db,.string (aC (aJ note))]) rfl cx.sees rfl (by kernel_rfl) (aP (cx.ou 15) (cx.ou 18))) ?_
   refine(r5 db D (aC (aJ note)) _ _ (CtxV.holdF cx (cx.init 0 _ rfl) rfl) (CtxV.ltF cx (cx.init 0 _ rfl) rfl) (by omega) (by omega)).mono ?_
   rintro e W1 ⟨rfl,fp4,aU⟩
   refine⟨_,rfl,aN (E:=eDk db D fp) [eDk db (fmR D note).1 fp4] (cx.init 0 _ rfl) rfl rfl aU (fun a d X' hs hb hv hN=>?_)⟩
   have aK:=(hv 19 rfl).1;have aW:=(hv 19 rfl).2
   exact⟨aK.trans rfl,cJ ((List.cons.inj hN).1)⟩) fun CT uC dS=>?_
 refine sqp [.m 5 19] ?_
 refine aa (wq (sqr (sqp [.m 20 5,.k 21 (.bool (((fmR D note).2) != 0))] ?_)))
 refine aa (wbs (fun zz=>?_) fun zz=>?_)
 have Od:=bne_iff_ne.1 zz
 refine wq (sqr (sqp [.m 22 5,.m 4 22] ?_))
 refine aa (wp_ret (aj ?_))
 refine bpr (vi ((fmR D note).2)) (ai Tryz.results20 rpt) ?_
 exact bV.of (R':=fmR D note) (by rw[vC,if_neg (by have h_:=dt;simp at h_;omega),if_pos (by simpa using zz)]) (dS.pick [0] (by decide) rfl)
 have Od:=bne_eq_false_iff_eq.1 zz
 refine wp_skip (aa (wq ?_))
 have hlz2:(fmR D note).1.log.size<=10000000:=by
  unfold fmR;refine c6 (P:=fun D'=>D'.log.size<=10000000) (Nat.le_trans hlz (by decide)) (Nat.le_trans hlz (by decide)) fun _=>?_
  show (D.log++ _).size<= _
  rw[ByteArray.size_append];omega
 refine sqr (sqp [.m 23 0] ?_)
 refine bN (fun X_=>X_.fp) (vi ((opD (fmR D note).1 0 flD).2)) (fun I8=>eDk db ((opD (fmR D note).1 0 flD).1) I8) 0 dS (by
   refine svA fun b f W X cx=>?_
   refine am.call (aq (args:=#[vp db]) rfl cx.sees rfl (by kernel_rfl) (ax (cx.ou 23))) ?_
   refine(lX db (fmR D note).1 _ _ (CtxV.holdF cx (cx.init 0 _ rfl) rfl) (CtxV.ltF cx (cx.init 0 _ rfl) rfl) hlz2).mono ?_
   rintro e W1 ⟨rfl,fp4,aU⟩
   refine⟨_,rfl,aN (E:=eDk db ((fmR D note).1) CT) [eDk db (opD (fmR D note).1 0 flD).1 fp4] (cx.init 0 _ rfl) rfl rfl aU (fun a d X' hs hb hv hN=>?_)⟩
   have aK:=(hv 24 rfl).1;have aW:=(hv 24 rfl).2
   exact⟨aK.trans rfl,cJ ((List.cons.inj hN).1)⟩) fun I8 sd cM=>?_
 refine sqp [.m 4 24] ?_
 refine aa (wp_ret ?_)
 refine bpr (vi ((opD (fmR D note).1 0 flD).2)) (ai Tryz.results20 rpt) ?_
 exact bV.of (by rw[vC,if_neg (by have h_:=dt;simp at h_;omega),if_neg (by simpa using zz)]) (cM.pick [0] (by decide) rfl)
theorem K9{S1:StM}{n:Nat}{ok:Bool}(h:n<S.D.pgs.length)(ht:(S.told (n:Int)).getD false=false)(hp:PaQ S (n:Int) S1 ok)(hk:ok=true/\(pgF S (n:Int) ok).1=0):FrR S n (ee S1 (n:Int) true) (n:Int):=by
 obtain⟨rfl,h2⟩:=hk
 exact .yes h ht hp (by rw[pgF,if_pos rfl] at h2;exact h2)
theorem BK(sb db:Nat)(S:StM)(c:Nat)(fp:List Nat)(w:World)(hB:(eSt sb db S fp).holds w)(hlt:∀k∈fp,k<w.heap.size)(hok:SOk S c)(hc:c<=900000):
  Calls Tryz.prog 22 #[po sb 0] w (pY sb db S fp w):=by
 have st1:St w fp [eSt sb db S fp] w:=St.lend hB (dx _ _ _ _) hlt
 have hpg:=hok.pgs
 go_enter Tryz.func22,Tryz.ntmps22
 have al:=st1
 refine wq (sqr (sqp [.k 2 (vi 0)] ?_))
 refine aa (wq (wq (sqr (sqp [.m 6 0] ?_))))
 refine sqk (vi ((S.D.pgs.length:Int))) al (fun cx=>⟨_,oO sb db S _ (qq (CtxV.holdF cx (cx.init 0 _ rfl) rfl)),(ax (cx.ou 6))⟩) fun W3 bc=>?_
 refine sqp [.k 8 (vi 0)] ?_
 refine aa (wp_block ?_)
 refine aT (fun t_ mz az W=>∃n:Nat,∃Sj:StM,∃fpj:List Nat,n<=S.D.pgs.length/\(∀S2 r,FrR Sj n S2 r->FrR S 0 S2 r)/\SOk Sj (c+3*n)/\Sj.D.pgs.length=S.D.pgs.length/\mz=S.D.pgs.length-n/\az=⟨(ovr (jv az) [(2,2,4,[]),(2,8,0,[vi ((n:Int))]),(0,9,27,[])] t_).toArray,[]⟩/\St w fp [eSt sb db Sj fpj] W) (S.D.pgs.length-0) ?_ ?_
 exact⟨0,S,fp,Nat.zero_le _,fun S2 r h=>h,hok,rfl,rfl,(by kernel_rfl),bc.pk [0]⟩
 rintro n5 a5 W5 ⟨n,Sj,fpj,hn,hcont,hokj,hpj,rfl,hj_,aR⟩
 refine ovz hj_ fun w5=>?_
 refine wq (sqr (sqp [.k 9 (.bool (decide ((n:Int)<(S.D.pgs.length:Int))))] ?_))
 refine aa (wq (wds (fun fF oa=>?_) fun fF oa=>?_))
 ·refine wp_skip (aa (wq (wp_block (wq (sqr (sqp [.m 10 8,.m 3 10] ?_))))))
  refine aa (wq (wq ?_))
  have hnp:n<Sj.D.pgs.length:=by omega
  have hpg:=hok.pgs
  have hkn:kcI.ok (n:Int):=by constructor<;>omega
  obtain⟨⟨hrw1,hrr1⟩,mb1,RA1,rc1,EA1,ec1,ib1,tb1,fpd1,hv10_⟩:=aR.unf
  refine sqr (sqp [.m 11 0,.k 12 (vp sb),.k 13 (po sb 7)] ?_)
  refine av 0 hv10_ ?_
  refine sqp [.m 15 3] ?_
  refine sql (.bool (((Sj.told (n:Int)).getD false))) hv10_ (fun cx=>da (e:=4) (C:=ecB) (K:=kcI) (x:=(n:Int)) rfl (cx.ou 14) (cx.ou 15) (CtxV.mx cx (cx.init 8 _ rfl) rfl) (h0:=(by rfl)) (hx:=hkn) (hk:=show Program.underlying _ _= _ from by kernel_rfl)) ?_
  refine aa (wbs (fun n6=>?_) fun n6=>?_)
  refine wp_exit (au (bh (aa (sqr (sqp [sI 35 ((n:Int)+1) (by omega),.m 8 35] ?_)))))
  refine aa ?_
  obtain⟨fp20_,hk20_⟩:=St.stf (S:=Sj) (hv10_) (hrw1) (hrr1)
  refine⟨S.D.pgs.length-((n+1)),by omega,?_⟩
  exact⟨(n+1),Sj,fp20_,by omega,(fun S2 r h=>hcont S2 r (FrR.told hnp n6 h)),(hokj.mono (by omega)),hpj,rfl,(by kernel_rfl),hk20_.pk [0]⟩
  refine wp_skip (aa (wq ?_))
  obtain⟨fp21_,hk21_⟩:=St.stf (S:=Sj) (hv10_) (hrw1) (hrr1)
  refine aH [0,0,3,7,15,15,0,95,255] [[],[],[0],[],[],[],[],[3]] [[],[],[1,2],[],[],[],[3],[4]] [[],[],[0],[],[],[],[],[3]] [.k 18 (vp sb),.k 19 (vi ((n:Int))),.a 20,.a 17,.a 21,.a 22,.a 4,.n,.a 5] (fun ix d b X=>match ix with|0|1=>True|2=>d 20= .tuple #[.agg #[vi ((pgF Sj (n:Int) (tB1 (b 20))).1),vi ((pgF Sj (n:Int) (tB1 (b 20))).2.1),.slice (sA (tg (tg (b 20) 0) 2)) ((pgF Sj (n:Int) (tB1 (b 20))).2.2.length) (sC (tg (tg (b 20) 0) 2))],.bool (tB1 (b 20))]/\X 1=eSx sb db (fun S2=>PaQ Sj (n:Int) S2 (tB1 (b 20))) ((X 1).fp)/\X 2=eO 9 1 (.slice (sA (tg (tg (b 20) 0) 2)) ((pgF Sj (n:Int) (tB1 (b 20))).2.2.length) (sC (tg (tg (b 20) 0) 2))) ((pgF Sj (n:Int) (tB1 (b 20))).2.2.length) ((pgF Sj (n:Int) (tB1 (b 20))).2.2.map Value.string)|3=>d 17= .tuple #[.agg #[vi ((pgF Sj (n:Int) (tB1 (b 20))).1),vi ((pgF Sj (n:Int) (tB1 (b 20))).2.1),.slice (sA (tg (tg (b 20) 0) 2)) ((pgF Sj (n:Int) (tB1 (b 20))).2.2.length) (sC (tg (tg (b 20) 0) 2))],.bool (tB1 (b 20))]|4=>d 21= .agg #[vi ((pgF Sj (n:Int) (tB1 (b 20))).1),vi ((pgF Sj (n:Int) (tB1 (b 20))).2.1),.slice (sA (tg (tg (b 20) 0) 2)) ((pgF Sj (n:Int) (tB1 (b 20))).2.2.length) (sC (tg (tg (b 20) 0) 2))]|5=>d 22= .bool (tB1 (b 20))|6=>d 4=vp (pb (b 4))/\X 3=eB (pb (b 4)) 48 #[vi 0,vi 0,sn]|7=>X 4=eB (pb (b 4)) 48 #[vi ((pgF Sj (n:Int) (tB1 (b 20))).1),vi ((pgF Sj (n:Int) (tB1 (b 20))).2.1),.slice (sA (tg (tg (b 20) 0) 2)) ((pgF Sj (n:Int) (tB1 (b 20))).2.2.length) (sC (tg (tg (b 20) 0) 2))]|8=>d 5= .bool (tB1 (b 20))|_=>True) [1,2,4] [2,3,4,5,6,7,8] [(4,6,3,6),(11,3,1,12),(0,0,3,3),(0,4,2,2)] hk21_ ?_ ?_ ?_
  exact fun ix _ _ _ _ _ _ hs hb hx h=>match ix,h with
  |2,h=>by dsimp only;rw[<-hs 20 rfl,<-hb 20 rfl,<-hx 1 rfl,<-hx 2 rfl];exact h
  |3,h=>by dsimp only;rw[<-hs 17 rfl,<-hb 20 rfl];exact h
  |4,h=>by dsimp only;rw[<-hs 21 rfl,<-hb 20 rfl];exact h
  |5,h=>by dsimp only;rw[<-hs 22 rfl,<-hb 20 rfl];exact h
  |6,h=>by dsimp only;rw[<-hs 4 rfl,<-hb 4 rfl,<-hx 3 rfl];exact h
  |7,h=>by dsimp only;rw[<-hb 4 rfl,<-hb 20 rfl,<-hx 4 rfl];exact h
  |8,h=>by dsimp only;rw[<-hs 5 rfl,<-hb 20 rfl];exact h
  |0,_|1,_|_+9,_=>trivial
  refine⟨?_,?_,?_,?_,?_,?_,?_,trivial⟩
  refine svA fun f b W X cx=>?_
  refine am.call (aq (args:=#[vp sb,vi ((n:Int))]) rfl cx.sees rfl (by kernel_rfl) (aP (cx.an 0) (cx.an 1))) ?_
  refine(qk sb db Sj (n:Int) (c+3*n) _ _ (CtxV.holdF cx (cx.init 0 _ rfl) rfl) (CtxV.ltF cx (cx.init 0 _ rfl) rfl) hokj (by omega) hkn).mono ?_
  rintro e W1 ⟨ok4,A4,c4,rfl,fp4,aU⟩
  refine⟨_,rfl,aN (E:=eSt sb db Sj fp21_) [eSx sb db (fun S2=>PaQ Sj (n:Int) S2 ok4) fp4,eO 9 1 (.slice A4 ((pgF Sj (n:Int) ok4).2.2.length) c4) ((pgF Sj (n:Int) ok4).2.2.length) ((pgF Sj (n:Int) ok4).2.2.map Value.string)] (cx.init 0 _ rfl) rfl rfl aU (fun d g X' hs hb hv hN=>?_)⟩
  have aK:=(hv 20 rfl).1;have aW:=(hv 20 rfl).2
  exact⟨aK.trans (by rw[aW];exact rfl),(by rw[aW];exact fN ((List.cons.inj hN).1)),(by rw[aW];exact(List.cons.inj (List.cons.inj hN).2).1)⟩
  exact sv rfl rfl rfl rfl rfl _ (fun _ _ _ h=>h) (fun b g h=>by rw[h 20 (by decide)]) fun f b W X cx=>dn rfl (dTn (cx.an 2)).1
  exact sv rfl rfl rfl rfl rfl _ (fun _ _ _ h=>h) (fun b g h=>by rw[h 20 (by decide)]) fun f b W X cx=>b8 rfl (dTn (cx.an 3)) rfl
  exact sv rfl rfl rfl rfl rfl _ (fun _ _ _ h=>h) (fun b g h=>by rw[h 20 (by decide)]) fun f b W X cx=>b8 rfl (dTn (cx.an 3)) rfl
  refine svA fun f b W X cx=>?_
  exact dp (cs:=#[vi 0,vi 0,sn]) rfl (by kernel_rfl) rfl rfl (fun _ _ _ _ _=> .intro)
  refine svA fun f b W X cx=>?_
  exact bx (n:=3) rfl (dTn (cx.an 6)).1 (dTn (cx.an 4)) (by kernel_rfl) (by kernel_rfl) (by kernel_rfl) cx (dTn (cx.an 6)).2 rfl (nle rfl) (by kernel_rfl) rfl rfl rfl (fun d g X' hs hb hx=>by rw[hb 4,hb 20];exact hx)
  exact sv rfl rfl rfl rfl rfl _ (fun _ _ _ h=>h) (fun b g h=>by rw[h 20 (by decide)]) fun f b W X cx=>dm rfl (dTn (cx.an 5))
  intro d b X w3 hD dH fr aG
  obtain⟨ok20_22,pL⟩:∃z,tB1 (b 20)=z:=⟨_,rfl⟩
  obtain⟨Q0,qS⟩:∃z,sA (tg (tg (b 20) 0) 2)=z:=⟨_,rfl⟩
  obtain⟨Q1,qT⟩:∃z,sC (tg (tg (b 20) 0) 2)=z:=⟨_,rfl⟩
  obtain⟨Oe,tm⟩:∃z,pb (b 4)=z:=⟨_,rfl⟩
  have MA:X 1= _:=(dTn (hD 2 lq)).2.1
  obtain⟨Of,zA⟩:∃z,(X 1).fp=z:=⟨_,rfl⟩
  rw[zA] at MA
  clear zA
  simp only[MA,exq 2 ((dTn (hD 2 lq)).2.2),exq 4 ((dTn (hD 7 lq))),pL,qS,qT,tm] at dH
  simp only[ed 20 ((dTn (hD 2 lq)).1),ed 17 ((dTn (hD 3 lq))),ed 21 ((dTn (hD 4 lq))),ed 22 ((dTn (hD 5 lq))),ed 4 ((dTn (hD 6 lq)).1),ed 5 ((dTn (hD 8 lq))),pL,qS,qT,tm] at aG
  clear hD MA pL qS qT tm;subst aG;clear d b X
  refine aa (wq ?_)
  obtain⟨S1,hP,hy23_⟩:=dH.unx
  refine sqr (sqp [.m 23 5,.m 24 23] ?_)
  refine d6 24 [25,26,27] ?_ rfl (fun hq=>?_) ?_
  rotate_left
  refine sqp [.k 25 (vp Oe)] ?_
  refine av 2 hy23_ ?_
  refine sqp [.k 27 (.bool (((pgF Sj (n:Int) ok20_22).1)==0))] ?_
  exact sqe
  refine c8 ?_
  refine sqp [sPa 28 ok20_22 (((pgF Sj (n:Int) ok20_22).1)==0)] ?_
  refine aa (wbs (fun jF=>?_) fun jF=>?_)
  have jg:=jF
  simp only[zB] at jg
  obtain⟨Mc,Md⟩:=jg
  refine wq ?_
  obtain⟨⟨hrw2,hrr2⟩,mb2,RA2,rc2,EA2,ec2,ib2,tb2,fpd2,hv31_⟩:=hy23_.unf
  have hnt:=(hP.ok hokj).nt
  refine sqr (sqp [.m 29 0,.k 30 (vp sb),.k 31 (po sb 7)] ?_)
  refine av 0 hv31_ ?_
  refine sqp [.m 33 3] ?_
  refine sqc (eMx kcI ecB Tryz.prog 3 tb2 ((mzP S1.told (n:Int) S1.nt)) (cf S1.told (n:Int) (some true))) 8 hv31_ (by
    refine svA fun f b W X cx=>?_
    exact gA (e:=4) (v:=true) (.inl rfl) (cx.ou 32) (show f _=Kc.enc kcI (n:Int) from(cx.ou 33)) (show f _=Ec.enc ecB true from(cx.co _)) cx (cx.init 8 _ rfl) rfl (trivial) (by omega) (hkn) rfl rfl rfl (fun _ _ _ _ _=>id) (hk:=show Program.underlying _ _= _ from by kernel_rfl)) fun IR g9=>?_
  refine aa (wq (sqr (sqp [.m 34 3,.m 2 34] ?_)))
  refine aa (wp_ret (bb (aj (aj (bb (aj ?_))))))
  refine bpr (vi ((n:Int))) (ai Tryz.results22 rpt) ?_
  obtain⟨fp40_,hk40_⟩:=St.stf (S:=(ee S1 (n:Int) true)) (g9.u10.c0.u10.c0) (hrw2) (hrr2)
  exact pY.of (hcont _ _ (K9 hnp n6 hP (by have h_:=jF;simpa using h_))) hk40_
  have jg:=jF
  simp only[zB] at jg
  refine wp_skip (aw (aa (sqr (sqp [sI 35 ((n:Int)+1) (by omega),.m 8 35] ?_))))
  refine aa ?_
  refine⟨S.D.pgs.length-((n+1)),by omega,?_⟩
  exact⟨(n+1),S1,Of,by omega,(fun S2 r h=>hcont S2 r (FrR.no hnp n6 hP (fun hh=>by have h_:=jF;simp[hh.1,pgF,hh.2] at h_) h)),((hP.ok hokj).mono (by omega)),((hP.ev hokj).1.len.trans hpj),rfl,(by kernel_rfl),hy23_.pk [0]⟩
 refine wp_exit (au (au (bh (aa (wq (sqr (sqp [.k 2 (vi (-1))] ?_)))))))
 refine aa (wp_ret ?_)
 refine bpr (vi (-1)) (ai Tryz.results22 rpt) ?_
 exact pY.of (hcont _ _ (.stop (by omega))) (aR.pick [0] (by decide) rfl)
end
section
open Go.RowKit Go.Maps Go.ChangeMaps
section
variable{κ ε:Type}{K:Kc κ}{C:Ec ε}{P:Program}{o:Oper}{ρ:Operand->Value}{W:World}{k e b n:Nat}{m:κ->Option ε}
theorem yV{t:TypeId}{y z:Operand}{x:κ}(h:o.op= .lookup t y z true)(hy:ρ y= .map (some b))(hz:ρ z=K.enc x)(hb:gC K C P k b n m W)(h0:(zeroValue e).run P W= .ok (C.enc C.e0) W)(hx:K.ok x)
  (hk:K.ty P k:=by kernel_rfl) (ht:P.underlying t=some (.map k e):=by kernel_rfl):(execOp ρ o).run P W= .ok (.value (.tuple #[C.enc ((m x).getD C.e0),.bool (m x).isSome])) W:=by
 obtain⟨D,hD,_,_,hm⟩:=hb
 obtain⟨v,ps,hrun,hv⟩:=hD.look_ok (K.keyed hk) ht h0 (C.read C.e0 C.ok0) (K.key hk hx)
 rw[C.back v _ ps _ hv (hm x hx).2,(hm x hx).1] at hrun
 unfold execOp
 rw[h]
 simp[hy,hz,hrun]
end
abbrev PgV:=Int×Int×Option Addr×Nat×Nat
def GC(v:PgV):Value:= .agg #[.int .i64 v.1,.int .i64 v.2.1,.slice v.2.2.1 v.2.2.2.1 v.2.2.2.2]
def spD:Option Nat->DataW Unit
 |none=> .lit (.int .i64 (-1))
 |some j=> .lit (.int .i64 (j:Int))
theorem KD:∀{a b:Option Nat},spD a=spD b->a=b
 |none,none,_=>rfl
 |none,some j,h=>by simp[spD] at h
 |some i,none,h=>by simp[spD] at h
 |some i,some j,h=>by simp[spD] at h;congr 1;omega
def adD:Option Addr->DataW Unit
 |none=> .nil
 |some a=> .agg [.lit (.int .i64 (a.block:Int)),.lit (.int .i64 (a.off:Int)),spD a.spot]
theorem Jj:∀{a b:Option Addr},adD a=adD b->a=b
 |none,none,_=>rfl
 |none,some j,h=>by simp[adD] at h
 |some i,none,h=>by simp[adD] at h
 |some ⟨i1,i2,i3⟩,some ⟨j1,j2,j3⟩,h=>by
  simp only[adD,DataW.agg.injEq,List.cons.injEq,DataW.lit.injEq,Lit.int.injEq,and_true,true_and] at h
  obtain⟨h1,h2,h3⟩:=h
  rw[Int.ofNat.inj h1,Int.ofNat.inj h2,KD h3]
def xG(v:PgV):DataW Unit:= .agg [.lit (.int .i64 v.1),.lit (.int .i64 v.2.1),adD v.2.2.1,.lit (.int .i64 (v.2.2.2.1:Int)),.lit (.int .i64 (v.2.2.2.2:Int))]
def F4:List Value->Option (DataW Unit×List MemPlace)
 | [.int .i64 k,.int .i64 l,.slice A n c]=>some (xG (k,l,A,n,c),[])
 |_=>none
def Gj:Value->Option (DataW Unit×List MemPlace)
 | .agg cells=>F4 cells.toList
 |_=>none
theorem EN(v:List Value)(d:DataW Unit)(ps:List MemPlace)(e:PgV)(h:F4 v=some (d,ps))(hd:d=xG e):v=[.int .i64 e.1,.int .i64 e.2.1,.slice e.2.2.1 e.2.2.2.1 e.2.2.2.2]:=by
 unfold F4 at h
 split at h
 rename_i k l A n c
 injection h with h
 injection h with h _
 rw[hd] at h
 obtain⟨e1,e2,e3,e4,e5⟩:=e
 simp only[xG,DataW.agg.injEq,List.cons.injEq,DataW.lit.injEq,Lit.int.injEq,and_true,true_and] at h
 obtain⟨h1,h2,h3,h4,h5⟩:=h
 rw[h1,h2,Jj h3,Int.ofNat.inj h4,Int.ofNat.inj h5]
 cases h
theorem Gy(v:Value)(d:DataW Unit)(ps:List MemPlace)(e:PgV)(h:Gj v=some (d,ps))(hd:d=xG e):v=GC e:=by
 unfold Gj at h
 split at h
 rename_i cells
 have h1:=EN _ _ _ _ h hd
 rw[GC]
 congr 1
 exact Array.toList_inj.1 h1
 cases h
def pgX:Ec PgV where
 enc:=GC
 dat:=xG
 R:=Gj
 e0:=(0,0,none,0,0)
 okE:=fun _=>True
 read:=fun e _=>rfl
 back:=Gy
 ok0:=trivial
def jB(os:List Int)(e:EdT):List Int:=if e.1∈os then os else os++[e.1]
def cz(l:List EdT):List Int:=l.foldl jB []
def eS(N:Int->PgS)(e:EdT):Int->PgS:=fun n=>if n=e.1 then doV (N e.1) e 1 else N n
def bp(cur:Int->PgS)(l:List EdT):Int->PgS:=l.foldl eS cur
def cY(N:Int->PgS):List EdT->Int
 | []=>0
 |e::l=>if doE (N e.1) e 1=0 then cY (eS N e) l else doE (N e.1) e 1
theorem sq(l:List EdT)(e:EdT):cz (l++[e])=jB (cz l) e:=by rw[cz,List.foldl_append];rfl
theorem x8(cur:Int->PgS)(l:List EdT)(e:EdT):bp cur (l++[e])=eS (bp cur l) e:=by rw[bp,List.foldl_append];rfl
theorem Bb(l1:List EdT):∀(N:Int->PgS) (l2:List EdT),cY N l1=0->cY N (l1++l2)=cY (bp N l1) l2:=by
 induction l1 with
 |nil=>intro N l2 _;rfl
 |cons e l ih=>
  intro N l2 h
  rw[cY] at h
  rw[List.cons_append,cY]
  split at h
  rename_i h0
  rw[if_pos h0]
  exact ih _ _ h
  rename_i h0;exact absurd h h0
theorem iA{l:List EdT}(h:l[j]? =some e):l.take (j+1)=l.take j++[e]:=by rw[List.take_add_one,h];rfl
theorem yW{l:List EdT}(he:l[j]? =some e)(h:cY N (l.take j)=0)(h0:doE (bp N (l.take j) e.1) e 1=0):cY N (l.take (j+1))=0:=by
 rw[iA he,Bb _ _ _ h,cY,if_pos h0];rfl
theorem sg{l:List EdT}(he:l[j]? =some e)(h:cY N (l.take j)=0)(h0:doE (bp N (l.take j) e.1) e 1≠0):cY N l=doE (bp N (l.take j) e.1) e 1:=by
 obtain⟨hj,rfl⟩:=List.getElem?_eq_some_iff.1 he
 have e1:l=l.take j++l[j]::l.drop (j+1):=by rw[<-List.drop_eq_getElem_cons hj,List.take_append_drop]
 conv=>lhs;rw[e1]
 rw[Bb _ _ _ h,cY,if_neg h0]
theorem kp(l:List EdT):(cz l).length<=l.length:=by
 have h:∀(l:List EdT) (os:List Int),(l.foldl jB os).length<=os.length+l.length:=by
  intro l
  induction l with
  |nil=>intro os;exact Nat.le_refl _
  |cons e l ih=>
   intro os
   refine Nat.le_trans (ih _) ?_
   unfold jB
   split
   simp only[List.length_cons];omega
   simp only[List.length_cons,List.length_append,List.length_nil];omega
 have:=h l []
 simpa[cz] using this
theorem jL{l:List EdT}{n:Int}:n∈cz l<->∃e∈l,e.1=n:=by
 have h:∀(l:List EdT) (os:List Int),n∈l.foldl jB os<->(n∈os\/∃e∈l,e.1=n):=by
  intro l
  induction l with
  |nil=>intro os;simp
  |cons e l ih=>
   intro os
   rw[List.foldl_cons,ih]
   unfold jB
   split
   rename_i h1
   constructor
   rintro(h|⟨x,hx,hn⟩)
   exact .inl h
   exact .inr ⟨x,List.mem_cons_of_mem _ hx,hn⟩
   rintro(h|⟨x,hx,hn⟩)
   exact .inl h
   rcases List.mem_cons.1 hx with rfl|hx
   exact .inl (hn ▸ h1)
   exact .inr ⟨x,hx,hn⟩
   rw[List.mem_append,List.mem_singleton]
   constructor
   rintro((h|h)|⟨x,hx,hn⟩)
   exact .inl h
   exact .inr ⟨e,List.mem_cons_self,h.symm⟩
   exact .inr ⟨x,List.mem_cons_of_mem _ hx,hn⟩
   rintro(h|⟨x,hx,hn⟩)
   exact .inl (.inl h)
   rcases List.mem_cons.1 hx with rfl|hx
   exact .inl (.inr hn.symm)
   exact .inr ⟨x,hx,hn⟩
 have:=h l []
 simpa[cz] using this
theorem ET(l:List EdT):(cz l).Nodup:=by
 have h:∀(l:List EdT) (os:List Int),os.Nodup->(l.foldl jB os).Nodup:=by
  intro l
  induction l with
  |nil=>intro os h;exact h
  |cons e l ih=>
   intro os h
   refine ih _ ?_
   unfold jB
   split
   exact h
   rename_i h1
   rw[List.nodup_append]
   exact⟨h,by simp,fun a ha b hb e2=>h1 (by rw[<-List.mem_singleton.1 hb,<-e2];exact ha)⟩
 exact h l [] List.nodup_nil
def d4(n:Nat)(e:EdT):Bool:=decide (e.1<0)||decide ((n:Int)<=e.1)
def lL{α:Type}(p:α->Bool)(k:Int):List α->Int
 | []=> -1
 |x::l=>if p x then k else lL p (k+1) l
theorem AW{α:Type}{p:α->Bool}{l:List α}{x:α}(h:l[k]? =some x):lL p (k:Int) (l.drop k)=if p x then (k:Int) else lL p ((k+1:Nat):Int) (l.drop (k+1)):=by
 obtain⟨hk,rfl⟩:=List.getElem?_eq_some_iff.1 h
 rw[List.drop_eq_getElem_cons hk,lL];rfl
theorem Hz{α:Type}(p:α->Bool)(l:List α):∀k:Int,0<=k->decide (0<=lL p k l)=l.any p:=by
 induction l with
 |nil=>intro k _;rfl
 |cons x l ih=>
  intro k hk
  rw[lL,List.any_cons]
  cases p x with
  |true=>rw[if_pos rfl,Bool.true_or];exact decide_eq_true hk
  |false=>rw[if_neg (by decide),Bool.false_or];exact ih (k+1) (by omega)
theorem JS(n:Nat)(x:Int)(sl:Int)(s:ByteArray):(if decide (x<0)=true then true else decide ((n:Int)<=x))=d4 n (x,sl,s):=by
 unfold d4;cases decide (x<0)<;>rfl
theorem Hj(x sl:Int)(s:ByteArray)(q sb db:Nat)(S:StM)(w:World)(hbq:Blk w q 31 #[po sb 0])(bf:lN w sb db S):
  Calls Tryz.prog 54 #[.agg #[.int .i64 x,.int .i64 sl,.string s],po q 0] w (Ret (.bool (d4 S.D.pgs.length (x,sl,s))) w):=by
 go_enter Tryz.func54,Tryz.ntmps54
 have al:=St.start w
 refine wq (sqr ?_)
 refine ce #[vi x,vi sl,.string s] al fun bF W1 aA=>?_
 refine sqp [.k 3 (.bool false)] ?_
 refine aa (wq (bG [0,1,3,7,15,31,15,79,255,511,1023] [[],[0],[],[],[],[0]] [.k 4 (vp bF),.c 5 (vi x),.k 6 (.bool (decide (x<0))),.k 7 (.bool (decide (x<0))),.z 8 (!(decide (x<0))) (vp bF),.y 9 (!(decide (x<0))) (vi x),.y 10 (!(decide (x<0))) (vp sb),.y 11 (!(decide (x<0))) (vi ((S.D.pgs.length:Int))),.z 12 (!(decide (x<0))) (.bool (decide ((S.D.pgs.length:Int)<=x))),tO 13 (decide (x<0)) (decide ((S.D.pgs.length:Int)<=x)),.k 3 (.bool ((decide (x<0))||(decide ((S.D.pgs.length:Int)<=x))))] [0] [1,5,6,7] [(3,10,1,4),(0,0,10,10)] aA ?_ fun W3 bc=>?_))
 refine⟨?_,?_,?_,?_,trivial⟩
 exact xs4 rfl id fun cx=>ae rfl (by kernel_rfl) (cx.an 0) ((cx.bi 0 rfl).cell 0)
 exact m2 rfl (fun _ _ _ h=>h) (fun cx=>(cx.an 3)) fun cx hq=>ae rfl (by kernel_rfl) (mbv (cx.an 4) hq) ((cx.bi 0 rfl).cell 0)
 exact m2 rfl (fun _ _ _ h=>h) (fun cx=>(cx.an 3)) fun cx hq=>ae rfl (by kernel_rfl) (cx.ou 1) ((Blk.ext hbq cx.upd.to_ext).cell 0)
 exact m3 rfl (fun _ _ _ h=>h) (fun cx=>(cx.an 3)) fun cx hq=>⟨_,_,aq (args:=#[vp sb]) rfl cx.sees rfl (by kernel_rfl) (ax (mbv (cx.an 6) hq)),oO sb db S _ (lN.ext bf cx.upd.to_ext)⟩
 refine aa (wp_ret ?_)
 refine bpr (.bool ((decide (x<0))||(decide ((S.D.pgs.length:Int)<=x)))) (ai Tryz.results54 rpt) ?_
 exact Ret.bool (by rw[<-JS];simp) bc.ext
theorem E3(A:Option Addr)(c:Nat)(l:List EdT)(f0:FuncId)(cap:Array Value)(p:EdT->Bool)(w:World)(hA:At w A (l.flatMap edC))(hl:l.length<=100000)(hcf:gY Tryz.prog f0=true)(hf:∀(W:World) (k:EdT),Ext w W->Calls Tryz.prog f0 (#[.agg #[.int .i64 k.1,.int .i64 k.2.1,.string k.2.2]]++cap) W (Ret (.bool (p k)) W)):
  Calls Tryz.prog 117 #[.slice A l.length c,.func (.func f0) #[] cap] w (Ret (.int .i64 (lL p 0 l)) w):=by
 go_enter Tryz.func117,Tryz.ntmps117
 have al:=St.start w
 refine wq (sqr (sqp [.k 4 (vi 0)] ?_))
 refine aa (wq (wq (sqr (sqp [.m 6 0,.k 7 (vi ((l.length:Int))),.k 8 (vi 0)] ?_))))
 refine aa (wp_block ?_)
 refine aT (fun t_ mz az W=>∃k:Nat,k<=l.length/\lL p 0 l=lL p (k:Int) (l.drop k)/\mz=l.length-k/\az=⟨(ovr (jv az) [(4,4,2,[]),(2,8,0,[vi ((k:Int))]),(0,9,10,[])] t_).toArray,[]⟩/\St w [] [] W) (l.length-0) ?_ ?_
 exact⟨0,Nat.zero_le _,rfl,rfl,(by kernel_rfl),al.pk []⟩
 rintro n5 a5 W5 ⟨k,hk,hkr,rfl,hj_,aR⟩
 refine ovz hj_ fun w5=>?_
 refine wq (sqr (sqp [.k 9 (.bool (decide ((k:Int)<(l.length:Int))))] ?_))
 refine aa (wq (wds (fun fF oa=>?_) fun fF oa=>?_))
 refine wp_skip (aa (wq (wp_block (wq (sqr (sqp [.m 10 8,.m 5 10] ?_))))))
 refine aa (wq ?_)
 obtain⟨ep,es,eb,hek⟩:=k8 (l:=l) (k:=k) (by omega)
 refine sqr (sqp [.m 11 1,.m 12 0,.m 13 5] ?_)
 refine sql (.pointer (some ((ad A).add (k*3)))) aR (fun cx=>aI (e:=84) (m:=k) (sz:=3) rfl (by kernel_rfl) (by kernel_rfl) (cx.ou 12) (cx.ou 13) (by omega) (by omega) (hA.ext cx.upd.to_ext) (bq (sz:=3) bJ (by decide) (by omega))) ?_
 refine sql (.agg #[vi ep,vi es,.string eb]) aR (fun cx=>bT (f:=edC) (m:=k) (sz:=3) (off:=0) (n:=3) rfl (by kernel_rfl) (by kernel_rfl) (cx.ou 14) rfl bJ (hA.ext cx.upd.to_ext) hek (fun k hk=>match k,hk with|0,_=>rfl|1,_=>rfl|2,_=>rfl|k+3,hk=>absurd hk (by omega))) ?_
 refine sqv (.bool ((p (ep,es,eb)))) aR (iq rfl rfl rfl rfl rfl (fun _ _ _ h=>h) fun a b W X cx=>⟨_,_,cQ (f:=f0) (args:=#[.agg #[vi ep,vi es,.string eb]]) (args':=#[.agg #[vi ep,vi es,.string eb]]++cap) rfl rfl (cx.ou 11) hcf (ax (cx.ou 15)) (by rw[Array.empty_append]),(by have h9:=hf W (ep,es,eb) cx.upd.to_ext;dsimp only at h9;exact h9)⟩) fun zd dv=>?_
 refine aa (wbs (fun dj=>?_) fun dj=>?_)
 refine wq (sqr (sqp [.m 17 5,.m 4 17] ?_))
 refine aa (wp_ret (bb (aj (aj (bb (aj ?_))))))
 refine bpr (vi ((k:Int))) (ai Tryz.results117 rpt) ?_
 exact Ret.of (by rw[hkr,AW hek,dj];rfl) dv.ext
 refine wp_skip (aw (aa (sqr (sqp [sI 18 ((k:Int)+1) (by omega),.m 8 18] ?_))))
 refine aa ?_
 refine⟨l.length-((k+1)),by omega,?_⟩
 exact⟨(k+1),by omega,by rw[hkr,AW hek,dj];rfl,rfl,(by kernel_rfl),dv.pk []⟩
 refine wp_exit (au (au (bh (aa (wq (sqr (sqp [.k 4 (vi (-1))] ?_)))))))
 refine aa (wp_ret ?_)
 refine bpr (vi (-1)) (ai Tryz.results117 rpt) ?_
 exact Ret.of (by rw[hkr,List.drop_of_length_le (by omega)];rfl) aR.ext
theorem DO(A:Option Addr)(c:Nat)(l:List EdT)(f0:FuncId)(cap:Array Value)(p:EdT->Bool)(w:World)(hA:At w A (l.flatMap edC))(hl:l.length<=100000)(hcf:gY Tryz.prog f0=true)(hf:∀(W:World) (k:EdT),Ext w W->Calls Tryz.prog f0 (#[.agg #[.int .i64 k.1,.int .i64 k.2.1,.string k.2.2]]++cap) W (Ret (.bool (p k)) W)):
  Calls Tryz.prog 53 #[.slice A l.length c,.func (.func f0) #[] cap] w (Ret (.bool (l.any p)) w):=by
 go_enter Tryz.func53,Tryz.ntmps53
 have al:=St.start w
 refine wq (sqr (sqp [.k 4 (.bool false)] ?_))
 refine aa (wq (sqr (sqp [.m 5 0,.m 6 1] ?_)))
 refine sqv (vi ((lL p 0 l))) al (iq rfl rfl rfl rfl rfl (fun _ _ _ h=>h) fun a b W X cx=>⟨_,_,aq (args:=#[.slice A l.length c,.func (.func f0) #[] cap]) rfl cx.sees rfl (by kernel_rfl) (aP (cx.ou 5) (cx.ou 6)),E3 _ _ l _ _ p _ (hA.ext cx.upd.to_ext) hl hcf (fun W k hW=>hf W k (cx.upd.to_ext.trans hW))⟩) fun W4 be=>?_
 refine sqp [.k 8 (.bool (decide (0<=(lL p 0 l)))),.m 4 8] ?_
 refine aa (wp_ret ?_)
 refine bpr (.bool (decide (0<=(lL p 0 l)))) (ai Tryz.results53 rpt) ?_
 exact Ret.of (by rw[<-Hz _ _ 0 (by omega)]) be.ext
end
section
open Go.RowKit Go.Maps Go.ChangeMaps
noncomputable def f7(S:StM)(n:Int):RecM:=⟨8,0,n,[],aE (aD S n)⟩
def eu(S:StM)(os:List Int):List Int:=os.filter fun n=>!(S.im n).getD false
def rcI(r:RecM):RcT:=⟨r,none,0⟩
noncomputable def icC(S:StM)(n:Int):List Value:=rcC (rcI (f7 S n))
theorem Bm(S:StM)(n:Int):(icC S n).length=8:=rfl
noncomputable def eP(S:StM)(os:List Int):List RecM:=(eu S os).map (f7 S)
def gQ(l:Int)(p:PgS):PgS:=(p.1,l,p.2.2)
def npV(p:PgS)(pg:PgR):PgV:=(p.1,p.2.1,pg.A,p.2.2.length,pg.c)
noncomputable def dX(S:StM)(r:RecM):Int:=(S.recs.length:Int)+((eu S (cz r.eds)).length:Int)+1
theorem qx(S:StM)(os:List Int)(n:Int):eu S (os++[n])=if (S.im n).getD false=true then eu S os else eu S os++[n]:=by
 rw[eu,List.filter_append]
 cases h:(S.im n).getD false
 rw[if_neg (by decide),List.filter_cons_of_pos (by rw[h];rfl)];rfl
 rw[if_pos rfl,List.filter_cons_of_neg (by rw[h];decide),List.filter_nil,List.append_nil];rfl
theorem mu(S:StM)(os:List Int):(eu S os).length<=os.length:=List.length_filter_le _ _
theorem oQ{n:Int}(h:n∈eu S os):n∈os:=(List.mem_filter.1 h).1
theorem gk(h:SOk S c)(n:Int):bC (aD S n):=by
 unfold aD
 split
 rename_i t ht;exact h.right t (List.mem_of_find?_eq_some ht)
 exact sk _
theorem iI{cur:Int->PgS}{l:List EdT}(hc:∀n,bC (cur n))(h:cY cur l=0)(n:Int):bC (bp cur l n):=by
 induction l generalizing cur with
 |nil=>exact hc n
 |cons e l ih=>
  rw[cY] at h
  split at h
  rename_i h0
  refine ih (fun m=>?_) h
  unfold eS
  split
  exact kt h0
  exact hc m
  rename_i h0;exact absurd h h0
structure DoI (cur N:Int->PgS) (lsn:Int) (os:List Int) (mW mN:Int->Option PgV) (rows:List PgR) (ex:Option Int):Prop where
 w:∀n∈os,∃pg∈rows,mW n=some (npV (cur n) pg)/\pg.p.2.2=(cur n).2.2
 n:∀n∈os,∃pg∈rows,mN n=some (npV (N n) pg)/\pg.p.2.2=(N n).2.2/\(ex≠some n->pg.p=gQ lsn (N n))
 no:∀n,n∉os->mW n=none/\mN n=none/\N n=cur n
theorem DoI.init(cur:Int->PgS)(lsn:Int)(rows:List PgR):DoI cur cur lsn [] (fun _=>none) (fun _=>none) rows none:=⟨fun n h=>(by cases h),fun n h=>(by cases h),fun n _=>⟨rfl,rfl,rfl⟩⟩
theorem DoI.mono{cur:Int->PgS}{mW mN:Int->Option PgV}{rows rows':List PgR}{ex:Option Int}(h:DoI cur N lsn os mW mN rows ex)(hr:∀r∈rows,r∈rows'):DoI cur N lsn os mW mN rows' ex:=
 ⟨fun n hn=>let ⟨pg,a,b⟩:=h.w n hn;⟨pg,hr pg a,b⟩,fun n hn=>let ⟨pg,a,b⟩:=h.n n hn;⟨pg,hr pg a,b⟩,h.no⟩
theorem mG(h:e.1∈os):jB os e=os:=if_pos h
theorem kv(h:e.1∉os):jB os e=os++[e.1]:=if_neg h
theorem DH(os:List Int)(e:EdT):e.1∈jB os e:=by
 by_cases h:e.1∈os
 rw[mG h];exact h
 rw[kv h];exact List.mem_append_right _ (List.mem_singleton.2 rfl)
theorem DoI.mem{cur:Int->PgS}{mW mN:Int->Option PgV}{rows:List PgR}{ex:Option Int}(h:DoI cur N lsn os mW mN rows ex){n:Int}:((mW n).isSome=true<->n∈os):=by
 constructor
 intro h1
 refine Classical.byContradiction fun hn=>?_
 rw[(h.no n hn).1] at h1
 cases h1
 intro hn
 obtain⟨pg,_,h2,_⟩:=h.w n hn
 rw[h2];rfl
theorem DoI.old{cur:Int->PgS}{mW mN:Int->Option PgV}{rows:List PgR}(h:DoI cur N lsn os mW mN rows none)(e:EdT)(hs:(mW e.1).isSome=true):DoI cur N lsn (jB os e) mW mN rows (some e.1):=by
 rw[mG (h.mem.1 hs)]
 exact⟨h.w,fun n hn=>let ⟨pg,a,b,c,d⟩:=h.n n hn;⟨pg,a,b,c,fun _=>d (by simp)⟩,h.no⟩
theorem DoI.new{cur:Int->PgS}{mW mN:Int->Option PgV}{rows:List PgR}(h:DoI cur N lsn os mW mN rows none)(e:EdT)(hs:(mW e.1).isSome=false)(hq:q=cur e.1)(A:Option Addr)(c:Nat):
  DoI cur N lsn (jB os e) (cf mW e.1 (some (q.1,q.2.1,A,q.2.2.length,c))) (cf mN e.1 (some (q.1,q.2.1,A,q.2.2.length,c))) (rows++[⟨q,A,c⟩]) (some e.1):=by
 have hn:e.1∉os:=fun hm=>by rw[h.mem.2 hm] at hs;cases hs
 rw[kv hn]
 subst hq
 refine⟨fun n hm=>?_,fun n hm=>?_,fun n hm=>?_⟩
 by_cases e1:n=e.1
 subst e1;exact⟨_,List.mem_append_right _ (List.mem_singleton.2 rfl),if_pos rfl,rfl⟩
 obtain⟨pg,a,b⟩:=h.w n ((List.mem_append.1 hm).elim id fun h=>absurd (List.mem_singleton.1 h) e1)
 exact⟨pg,List.mem_append_left _ a,by rw[cf,if_neg e1];exact b.1,b.2⟩
 by_cases e1:n=e.1
 subst e1
 exact⟨_,List.mem_append_right _ (List.mem_singleton.2 rfl),by rw[cf,if_pos rfl,npV,(h.no _ hn).2.2],by rw[(h.no _ hn).2.2],fun h=>absurd rfl h⟩
 obtain⟨pg,a,b,c,d⟩:=h.n n ((List.mem_append.1 hm).elim id fun h=>absurd (List.mem_singleton.1 h) e1)
 exact⟨pg,List.mem_append_left _ a,by rw[cf,if_neg e1];exact b,c,fun _=>d (by simp)⟩
 have h1:n∉os:=fun h2=>hm (List.mem_append_left _ h2)
 have e1:n≠e.1:=fun h2=>hm (List.mem_append_right _ (List.mem_singleton.2 h2))
 obtain⟨a,b,c⟩:=h.no n h1
 exact⟨by rw[cf,if_neg e1];exact a,by rw[cf,if_neg e1];exact b,c⟩
theorem DoI.edit{cur:Int->PgS}{mW mN:Int->Option PgV}{rows:List PgR}(h:DoI cur N lsn os mW mN rows (some e.1))(hm:e.1∈os)(hq:q=doV (N e.1) e 1)(A:Option Addr)(c:Nat):
  DoI cur (eS N e) lsn os mW (cf mN e.1 (some (q.1,q.2.1,A,q.2.2.length,c))) (rows++[⟨gQ lsn q,A,c⟩]) none:=by
 subst hq
 refine⟨fun n hn=>let ⟨pg,a,b⟩:=h.w n hn;⟨pg,List.mem_append_left _ a,b⟩,fun n hn=>?_,fun n hn=>?_⟩
 by_cases e1:n=e.1
 subst e1
 have e2:eS N e e.1=doV (N e.1) e 1:=if_pos rfl
 exact⟨_,List.mem_append_right _ (List.mem_singleton.2 rfl),by rw[cf,if_pos rfl,npV,e2],by rw[e2];rfl,fun _=>by rw[e2]⟩
 obtain⟨pg,a,b,c,d⟩:=h.n n hn
 have e2:eS N e n=N n:=if_neg e1
 exact⟨pg,List.mem_append_left _ a,by rw[cf,if_neg e1,e2];exact b,by rw[e2];exact c,fun _=>by rw[e2];exact d (fun h=>e1 (Option.some.inj h).symm)⟩
 obtain⟨a,b,c⟩:=h.no n hn
 have e1:n≠e.1:=fun h2=>hn (h2 ▸ hm)
 exact⟨a,by rw[cf,if_neg e1];exact b,by rw[eS,if_neg e1];exact c⟩
inductive ApI:StM->List RecM->StM->Int->Prop where
 |nil (S:StM):ApI S [] S 0
 |bad {S:StM}{r:RecM}{l:List RecM}(q:List RcT) (h:(bt {S with rr:=q} (rcI r)).2≠0):ApI S (r::l) (bt {S with rr:=q} (rcI r)).1 (bt {S with rr:=q} (rcI r)).2
 |cons {S S2:StM}{r:RecM}{l:List RecM}{er:Int}(q:List RcT) (h:(bt {S with rr:=q} (rcI r)).2=0) (hr:ApI (imS (bt {S with rr:=q} (rcI r)).1 r.tbl) l S2 er):ApI S (r::l) S2 er
inductive PuA (cur N:Int->PgS) (lsn:Int):StM->List Int->StM->Int->Prop where
 |nil (S:StM):PuA cur N lsn S [] S 0
 |bad {S S2:StM}{n er:Int}{l:List Int}{pg:PgR}(hp:pg.p=gQ lsn (N n)) (h:dY (if (cur n).1≠0/\(N n).1=0 then ee S n false else S) n pg S2 er) (he:er≠0):PuA cur N lsn S (n::l) S2 er
 |cons {S S1 S2:StM}{n er:Int}{l:List Int}{pg:PgR}(hp:pg.p=gQ lsn (N n)) (h:dY (if (cur n).1≠0/\(N n).1=0 then ee S n false else S) n pg S1 0) (hr:PuA cur N lsn S1 l S2 er):PuA cur N lsn S (n::l) S2 er
def DoA(r:RecM):Prop:=bv r=true/\r.kind≠8/\r.kind≠9
noncomputable def j8(S:StM)(r:RecM):Nat:=S.D.log.size+((aC r).size+szF (eP S (cz r.eds)))
inductive DoQ (S:StM) (r:RecM):StM->Int->Int->Prop where
 |arg (h:¬DoA r):DoQ S r S 0 1
 |page {S':StM}(h:DoA r) (hp:r.eds.any (d4 S.D.pgs.length)=true) (he:Ev S S'):DoQ S r S' 0 22
 |pow {S':StM}(h:DoA r) (hp:r.eds.any (d4 S.D.pgs.length)=false) (he:Ev S S') (ho:S'.D.off=true):DoQ S r S' 0 24
 |err {S':StM}(h:DoA r) (hp:r.eds.any (d4 S.D.pgs.length)=false) (he:Ev S S') (h0:cY (aD S) r.eds≠0):DoQ S r S' 0 (cY (aD S) r.eds)
 |full {S':StM}(h:DoA r) (hp:r.eds.any (d4 S.D.pgs.length)=false) (he:Ev S S') (h0:cY (aD S) r.eds=0) (hf:1048576<j8 S r):DoQ S r S' 0 31
 |img {S1 S2:StM}{er:Int}(h:DoA r) (hp:r.eds.any (d4 S.D.pgs.length)=false) (he:Ev S S1) (hk:∃c,SOk S1 c) (h0:cY (aD S) r.eds=0) (hf:j8 S r<=1048576) (hi:ApI S1 (eP S (cz r.eds)) S2 er) (hn:er≠0):DoQ S r S2 0 er
 |app {S1 S2:StM}{rt:RcT}(h:DoA r) (hp:r.eds.any (d4 S.D.pgs.length)=false) (he:Ev S S1) (hk:∃c,SOk S1 c) (h0:cY (aD S) r.eds=0) (hf:j8 S r<=1048576) (hi:ApI S1 (eP S (cz r.eds)) S2 0) (hr:rt.r=r) (hn:(bt S2 rt).2≠0):DoQ S r (bt S2 rt).1 0 (bt S2 rt).2
 |put {S1 S2 S3:StM}{rt:RcT}{er:Int}(h:DoA r) (hp:r.eds.any (d4 S.D.pgs.length)=false) (he:Ev S S1) (hk:∃c,SOk S1 c) (h0:cY (aD S) r.eds=0) (hf:j8 S r<=1048576) (hi:ApI S1 (eP S (cz r.eds)) S2 0) (hr:rt.r=r) (ha:(bt S2 rt).2=0)
   (hu:PuA (aD S) (bp (aD S) r.eds) (dX S r) (bt S2 rt).1 (cz r.eds) S3 er):DoQ S r S3 (if er=0 then dX S r else 0) er
def fH(sb db:Nat)(S:StM)(r:RecM)(c:Nat)(fp:List Nat)(w:World)(e:Ending)(w':World):Prop:=∃n er,e= .returned (.tuple #[.int .i64 n,.int .i64 er])/\∃fp',St w fp [eSx sb db (fun S2=>DoQ S r S2 n er/\SOk S2 (c+700)) fp'] w'
theorem fH.of{n:Int}{w:World}(h:DoQ S r S2 n er)(ho:SOk S2 (c+700))(hs:St w fp ([]++[eSt sb db S2 fp']) w'):fH sb db S r c fp w (.returned (.tuple #[.int .i64 n,.int .i64 er])) w':=⟨n,er,rfl,fp',St.sx (L:=[]) hs ⟨h,ho⟩⟩
theorem SOk.rr(h:SOk S c)(q:List RcT):SOk {S with rr:=q} c:=⟨h.bufs,h.pgs,h.ws,h.time,h.ni,h.nt,h.right,h.nodup,h.len,h.keys,h.recs,h.log,h.lsz,h.fl,h.cl⟩
theorem Ev.rr(S:StM)(q:List RcT):Ev S {S with rr:=q}:=⟨rfl,rfl,rfl,rfl,rfl,fun r h=>h,rfl,rfl,.inl rfl,rfl,id,fun _=>rfl,fun j x y hx hy=>by have hy:S.D.pgs[j]? =some y:=hy;rw[hx] at hy;cases hy;exact⟨rfl,[],by simp,fun z hz=>by cases hz⟩,fun m _=>rfl⟩
theorem Ev.rows'(S:StM)(pg:PgR):Ev S (jR S pg):=⟨rfl,rfl,rfl,rfl,rfl,fun r h=>List.mem_append_left _ h,rfl,rfl,.inl rfl,rfl,id,fun _=>rfl,fun j x y hx hy=>by have hy:S.D.pgs[j]? =some y:=hy;rw[hx] at hy;cases hy;exact⟨rfl,[],by simp,fun z hz=>by cases hz⟩,fun m _=>rfl⟩
theorem GD(h:(eSt sb db S fp).holds W){r:PgR}(hr:r∈S.rows):At W r.A (r.p.2.2.map Value.string):=by
 obtain⟨_,mb,RA,rc,EA,ec,ib,tb,fpd,_,_,h3⟩:=h
 exact jd (h3 (eM (S.rows.map dM)) (by simp[stL])).1 hr
theorem lh{n:Int}(h:SOk S c)(hn:0<=n/\n<(S.D.pgs.length:Int)):bv (f7 S n)=true:=by
 have h1:=dD (gk h n)
 have h2:=h.pgs
 have a1:inB n 0 65535=true:=by unfold inB;rw[Bool.and_eq_true,decide_eq_true_eq,decide_eq_true_eq];omega
 have a2:decide (((aE (aD S n)).size:Int)<=60000)=true:=decide_eq_true (by omega)
 show (inB 8 1 10&&(inB 0 0 127&&(inB n 0 65535&&(decide ((([]:List EdT).length:Int)<=64)&&((([]:List EdT).all edR)&&decide (((aE (aD S n)).size:Int)<=60000))))))=true
 rw[a1,a2];decide
theorem jP{l:List EdT}{n:Nat}(h:l.any (d4 n)=false)(he:e∈l):0<=e.1/\e.1<(n:Int):=by
 have h1:=(List.any_eq_false.1 h) e he
 unfold d4 at h1
 simp only[Bool.or_eq_true,decide_eq_true_eq,not_or] at h1
 omega
theorem Eu(S:StM)(os:List Int)(n:Int)(h:(S.im n).getD false=false):szF (eP S (os++[n]))=szF (eP S os)+(aC (f7 S n)).size:=by
 rw[eP,qx,if_neg (by rw[h];decide),List.map_append];exact mr _ _
theorem D5(S:StM)(os:List Int)(n:Int)(h:(S.im n).getD false=true):eu S (os++[n])=eu S os:=by rw[qx,if_pos h]
theorem GN(S:StM)(os:List Int)(n:Int)(h:(S.im n).getD false=false):eu S (os++[n])=eu S os++[n]:=by rw[qx,if_neg (by rw[h];decide)]
theorem AM(os:List Int)(n:Int):os.map (Value.int .i64)++[.int .i64 n]=(os++[n]).map (Value.int .i64):=by rw[List.map_append];rfl
theorem Jx(S:StM)(os:List Int)(n:Int):os.flatMap (icC S)++icC S n=(os++[n]).flatMap (icC S):=by rw[List.flatMap_append];simp
theorem E7{k l l2:Int}{ss:List ByteArray}(h:bz k l ss=true)(hl:0<=l2/\l2<=2147483647):bz k l2 ss=true:=by
 unfold bz at h |-
 simp only[Bool.and_eq_true,decide_eq_true_eq] at h |-
 obtain⟨a,b,_,_,d⟩:=h
 exact⟨a,b,hl.1,hl.2,d⟩
theorem j5{p:PgS}{l:Int}(h:bC p)(hl:0<=l/\l<=2147483647):bC (gQ l p):=⟨E7 h.1 hl,h.2⟩
theorem SOk.recs_len(h:SOk S c):S.recs.length<=1048576:=by
 have h1:=oz h.recs
 have h3:=congrArg ByteArray.size h.log
 rw[ck] at h3
 have h2:S.L.length=S.recs.length:=List.length_map ..
 have:=h.lsz
 omega
theorem dY.rows{S:StM}{n:Int}(h:dY S n pg S2 er):∀p∈S.rows,p∈S2.rows:=by
 obtain⟨S1,h1,⟨_,rfl⟩|⟨_,_,rfl⟩⟩:=h
 exact h1.rows.1
 exact h1.rows.1
theorem jJ(S:StM)(rt:RcT):(bt S rt).1.rows=S.rows/\(bt S rt).1.rr=S.rr/\(bt S rt).1.im=S.im/\(bt S rt).1.told=S.told/\(bt S rt).1.pool=S.pool/\(bt S rt).1.D.pgs=S.D.pgs/\(bt S rt).1.D.fl=S.D.fl:=by
 obtain⟨a,b⟩:=Bf S rt.r
 unfold bt
 split<;>exact⟨rfl,rfl,rfl,rfl,rfl,a,b⟩
theorem wX{rt:RcT}(h:(bt S rt).2=0):(bt S rt).1.recs=S.recs++[rt]:=by
 unfold bt at h |-
 split
 rename_i h1;rw[if_pos h1] at h;exact absurd h h1
 rfl
end
section
open Go.RowKit Go.Maps Go.ChangeMaps
theorem xF{n:Int}(h:dY S n pg S2 er)(h0:er=0):dY S n pg S2 0:=h0 ▸ h
theorem Ki(sb db:Nat)(S:StM)(r:RecM)(A:Option Addr)(rc:Nat)(c:Nat)(fp:List Nat)(w:World)(hB:(eSt sb db S fp).holds w)(hlt:∀k∈fp,k<w.heap.size)(hok:SOk S c)(hc:c<=800000)(hA:∀W,Upd fp w W->At W A (r.eds.flatMap edC))(hI:r.eds.length<=100000)(hz:∀e∈r.eds,e.2.2.size<=9223372036854775807)(hns:r.note.size<=9223372036854775807):
  Calls Tryz.prog 17 #[po sb 0,.agg #[.int .i64 r.kind,.int .i64 r.xid,.int .i64 r.tbl,sn,sn,.slice A r.eds.length rc,sn,.string r.note]] w (fH sb db S r c fp w):=by
 have st1:St w fp [eSt sb db S fp] w:=St.lend hB (dx _ _ _ _) hlt
 have hpg:=hok.pgs
 go_enter Tryz.func17,Tryz.ntmps17
 have al:=st1
 refine wq (sqr ?_)
 refine ce #[vp sb] al fun bF W1 aA=>?_
 refine ce #[vi r.kind,vi r.xid,vi r.tbl,sn,sn,.slice A r.eds.length rc,sn,.string r.note] aA fun dK W2 bQ=>?_
 refine sqp [.k 4 (vi 0),.k 5 (vi 0)] ?_
 refine aa (wq (wq (sqr (av 1 bQ ?_))))
 refine sqv (.bool false) bQ (by
   exact sv0 rfl rfl rfl rfl rfl (fun _ _ _ h=>h) fun d b W X cx=>by
    have PJ:d (.tmp 32)=vp sb:=(cx.ou 32)
    simp[go_sem,cx.sees.const,PJ]) fun W6 bI=>?_
 refine sqp [.k 34 (.bool false)] ?_
 refine dE 34 [35,36,37] rfl rfl ?_
 refine bE 2 8 bI ?_
 refine sqk (.bool (bv r)) bI (fun cx=>⟨_,l3 r.kind r.xid r.tbl _ _ r.eds r.note _ (hA _ cx.upd) (by omega) hz hns,(ax (cx.ou 35))⟩) fun W9 cq=>?_
 refine sqp [.k 37 (.bool (!(bv r)))] ?_
 refine sqp [.k 38 (.bool (!(bv r))),.m 39 38] ?_
 refine d6 39 [40,41,42] ?_ rfl (fun hq=>?_) ?_
 rotate_left
 refine sqp [.k 40 (vp dK)] ?_
 refine av 2 cq ?_
 refine sqp [.k 42 (.bool (r.kind==8))] ?_
 exact sqe
 refine c8 ?_
 refine sqp [sPo 43 (!(bv r)) (r.kind==8),.m 44 43] ?_
 refine d6 44 [45,46,47] ?_ rfl (fun hq=>?_) ?_
 rotate_left
 refine sqp [.k 45 (vp dK)] ?_
 refine av 2 cq ?_
 refine sqp [.k 47 (.bool (r.kind==9))] ?_
 exact sqe
 refine c8 ?_
 refine sqp [sPo 48 ((!(bv r))||(r.kind==8)) (r.kind==9)] ?_
 refine aa (wbs (fun zC=>?_) fun zC=>?_)
 have xr:=zC
 simp only[zB] at xr
 refine wq (sqr (sqp [.k 4 (vi 0),.k 5 (vi 1)] ?_))
 refine aa (wp_ret (aj ?_))
 refine bpr (.tuple #[vi 0,vi 1]) (aQ Tryz.results17 rpt rpt) ?_
 exact fH.of (.arg (fun hh=>by have h_:=zC;have h1:=hh.1;have h2:=hh.2.1;have h3:=hh.2.2;simp_all)) (hok.mono (by omega)) (cq.pick [0] (by decide) rfl)
 have xr:=zC
 simp only[zB] at xr
 obtain⟨⟨Q2,Q3⟩,Q4⟩:=xr
 refine wp_skip (aa (wq ?_))
 have hda:DoA r:=by have h_:=zC;simp at h_;exact⟨h_.1.1,h_.1.2,h_.2⟩
 refine sqr ?_
 refine bE 2 8 cq ?_
 refine iC (fun cH cP=> .agg #[vi r.kind,vi r.xid,vi r.tbl,sn,sn,.slice cH r.eds.length cP,sn,.string r.note]) (fun cH cP=>eO 84 3 (.slice cH r.eds.length cP) r.eds.length (r.eds.flatMap edC)) cq (fun cx=>⟨_,(BT A rc r _ (hA _ cx.upd) hI).mono (by rintro e W1 ⟨A4,c4,rfl,aU⟩;exact⟨_,_,rfl,aU⟩),(ax (cx.ou 49))⟩) fun cH cP w4 fy=>?_
 refine aV (n:=8) 2 #[vi r.kind,vi r.xid,vi r.tbl,sn,sn,.slice cH r.eds.length cP,sn,.string r.note] fy fun Bp fx=>?_
 refine aa (wq (wq ?_))
 obtain⟨S0,fp28_,hS0,hg28_⟩:=St.rRn (r:=(⟨r,cH,cP⟩:RcT)) fx.u3
 have hok0:SOk S0 c:=hS0 ▸ hok.rr _
 have hev0:Ev S S0:=hS0 ▸ Ev.rr S _
 have hrt0:(⟨r,cH,cP⟩:RcT)∈S0.rr:=by rw[<-hS0];exact List.mem_append_right _ (List.mem_singleton.2 rfl)
 have OX:S0.D.pgs.length=S.D.pgs.length:=hev0.len
 refine sqr (sqp [.k 51 (po dK 5)] ?_)
 refine av 2 hg28_ ?_
 refine sqv (.func (.func 54) #[] #[vp bF]) hg28_ (by
   exact sv0 rfl rfl rfl rfl rfl (fun _ _ _ h=>h) fun d b W X cx=>by
    have oF:d (.tmp 2)=vp bF:=(cx.ou 2)
    simp[go_sem,Instr.makeFunc,oF]) fun OY nJ=>?_
 refine sqk (.bool ((r.eds.any (d4 S0.D.pgs.length)))) nJ (fun cx=>⟨_,DO _ _ r.eds 54 #[vp bF] (d4 S0.D.pgs.length) _ (md (CtxV.holdF cx (cx.init 0 _ rfl) rfl) hrt0) hI (by kernel_rfl) (fun W2 k hW=>Hj k.1 k.2.1 k.2.2 bF sb db S0 W2 ((cx.bi 1 rfl).ext hW) (lN.ext (qq (CtxV.holdF cx (cx.init 0 _ rfl) rfl)) hW)),(aP (cx.ou 52) (cx.ou 53))⟩) fun y7 dc=>?_
 refine aa (wbs (fun kG=>?_) fun kG=>?_)
 refine wq (sqr (sqp [.k 4 (vi 0),.k 5 (vi 22)] ?_))
 refine aa (wp_ret (aj ?_))
 refine bpr (.tuple #[vi 0,vi 22]) (aQ Tryz.results17 rpt rpt) ?_
 exact fH.of (.page hda (by rw[<-OX];exact kG) hev0) (hok0.mono (by omega)) (dc.pick [0] (by decide) rfl)
 refine wp_skip (aa (wq ?_))
 have hin:r.eds.any (d4 S.D.pgs.length)=false:=by rw[<-OX];exact kG
 have hro:=d8 hda.1
 have hml:=hro.many
 refine sqr (sqp [.k 6 (sn)] ?_)
 refine aa (wq (sqr ?_))
 refine ej (fun x_=>pbx x_) (fun iW=> .map (some iW)) (fun iW=>eMx kcI pgX Tryz.prog 3 iW 0 (fun _=>none)) dc (by
   refine svA fun d b W X cx=>?_
   exact lm rfl rfl rfl rfl (fun _ _ _ _ _=> .intro)) fun iW IR g9=>?_
 refine ej (fun x_=>pbx x_) (fun ij=> .map (some ij)) (fun ij=>eMx kcI pgX Tryz.prog 3 ij 0 (fun _=>none)) g9 (by
   refine svA fun d b W X cx=>?_
   exact lm rfl rfl rfl rfl (fun _ _ _ _ _=> .intro)) fun ij Fl iG=>?_
 refine sqp [.m 7 55,.m 8 56] ?_
 refine aa (wq (wq (sqr (sqp [.k 57 (po dK 5)] ?_))))
 refine av 2 iG ?_
 refine sqp [.k 59 (vi ((r.eds.length:Int))),.k 60 (vi 0)] ?_
 refine aa (wp_block ?_)
 have hn45:=St.nilrow iG 3
 simp only[List.cons_append,List.nil_append] at hn45
 refine aT (fun t_ mz az W=>∃j:Nat,∃os:List Int,∃m:Nat,∃OA:Option Addr,∃oc:Nat,∃Sj:StM,∃fpj:List Nat,∃mW:Int->Option PgV,∃nW:Nat,∃mN:Int->Option PgV,∃nN:Nat,j<=r.eds.length/\os=cz (r.eds.take j)/\m=os.length/\Ev S Sj/\SOk Sj (c+3*j)/\(⟨r,cH,cP⟩:RcT)∈Sj.rr/\cY (aD S) (r.eds.take j)=0/\DoI (aD S) (bp (aD S) (r.eds.take j)) (dX S r) os mW mN Sj.rows none/\nW<=j/\nN<=2*j/\mz=r.eds.length-j/\az=⟨(ovr (jv az) [(4,4,2,[.slice OA m oc]),(3,10,7,[]),(43,60,0,[vi ((j:Int))]),(0,61,51,[])] t_).toArray,[]⟩/\St w fp [eB bF 31 #[vp sb],eB dK 27 #[vi r.kind,vi r.xid,vi r.tbl,sn,sn,.slice cH r.eds.length cP,sn,.string r.note],eMx kcI pgX Tryz.prog 3 iW nW (mW),eMx kcI pgX Tryz.prog 3 ij nN (mN),eO 3 1 (.slice OA m oc) m (os.map (Value.int .i64)),eSt sb db Sj fpj] W) (r.eds.length-0) ?_ ?_
 exact⟨0,[],0,none,0,S0,fp28_,(fun _=>none),0,(fun _=>none),0,Nat.zero_le _,rfl,rfl,hev0,hok0,hrt0,rfl,DoI.init _ _ _,Nat.zero_le _,Nat.zero_le _,rfl,(by kernel_rfl),hn45.pk [1,2,3,4,5,0]⟩
 rintro TT a46 Fh ⟨j,os,m,OA,oc,Sj,fpj,mW,nW,mN,nN,hj,hos,hm,hevj,hokj,hrtj,herr,hIj,hnW,hnN,rfl,hj_,gv⟩
 refine ovz hj_ fun R7=>?_
 refine wq (sqr (sqp [.k 61 (.bool (decide ((j:Int)<(r.eds.length:Int))))] ?_))
 refine aa (wq (wds (fun PK Og=>?_) fun PK Og=>?_))
 refine wp_skip (aa (wq (wp_block (wq ?_))))
 have hmj:m<=j:=by rw[hm,hos];have h1:=kp (r.eds.take j);rw[List.length_take] at h1;omega
 have hjl:j<r.eds.length:=by omega
 obtain⟨ep,es,eb,hek⟩:=k8 (l:=r.eds) (k:=j) (by omega)
 have hke:edR (ep,es,eb)=true:=hro.eds _ (List.mem_of_getElem? hek)
 have hez:eb.size<=9223372036854775807:=by have:=dA hke;dsimp only at this;omega
 have hkn:kcI.ok ep:=by have:=(ld hke).1;dsimp only at this;constructor<;>omega
 have hpr:0<=ep/\ep<(S.D.pgs.length:Int):=jP hin (List.mem_of_getElem? hek)
 refine sqr ?_
 refine sql (.pointer (some ((ad cH).add (j*3)))) gv (fun cx=>aI (e:=84) (m:=j) (sz:=3) rfl (by kernel_rfl) (by kernel_rfl) (cx.ou 58) (cx.ou 60) (by omega) (by omega) (show At _ _ (r.eds.flatMap edC) from md (CtxV.holdF cx (cx.init 5 _ rfl) rfl) hrtj) (bq (sz:=3) bJ (by decide) (by omega))) ?_
 refine sql (.agg #[vi ep,vi es,.string eb]) gv (fun cx=>bT (f:=edC) (m:=j) (sz:=3) (off:=0) (n:=3) rfl (by kernel_rfl) (by kernel_rfl) (cx.ou 62) rfl bJ (show At _ _ (r.eds.flatMap edC) from md (CtxV.holdF cx (cx.init 5 _ rfl) rfl) hrtj) hek (fun k hk=>match k,hk with|0,_=>rfl|1,_=>rfl|2,_=>rfl|k+3,hk=>absurd hk (by omega))) ?_
 refine bY #[vi 0,vi 0,.string ByteArray.empty] gv fun lH IP kT=>?_
 refine aV (n:=3) 6 #[vi ep,vi es,.string eb] kT fun Bt cN=>?_
 refine aa ?_
 refine kC (fun t_ az W=>∃mW2:Int->Option PgV,∃nW2:Nat,∃mN2:Int->Option PgV,∃nN2:Nat,∃os2:List Int,∃m2:Nat,∃OA2:Option Addr,∃oc2:Nat,∃S2:StM,∃fp2:List Nat,os2=jB os (ep,es,eb)/\m2=os2.length/\Ev S S2/\SOk S2 (c+3*j+3)/\(⟨r,cH,cP⟩:RcT)∈S2.rr/\DoI (aD S) (bp (aD S) (r.eds.take j)) (dX S r) os2 mW2 mN2 S2.rows (some ep)/\nW2<=j+1/\nN2<=2*j+1/\az=⟨(ovr (jv az) [(4,4,2,[.slice OA2 m2 oc2]),(4,11,4,[]),(49,64,31,[])] t_).toArray,[]⟩/\St w fp [eB bF 31 #[vp sb],eB dK 27 #[vi r.kind,vi r.xid,vi r.tbl,sn,sn,.slice cH r.eds.length cP,sn,.string r.note],eB lH 84 #[vi ep,vi es,.string eb],eMx kcI pgX Tryz.prog 3 iW nW2 (mW2),eMx kcI pgX Tryz.prog 3 ij nN2 (mN2),eO 3 1 (.slice OA2 m2 oc2) m2 (os2.map (Value.int .i64)),eSt sb db S2 fp2] W) ?_ ?_
 refine wq (sqr (sqp [.m 65 7,.k 66 (vp lH)] ?_))
 refine av 6 cN ?_
 refine sql (.tuple #[.agg #[vi (((mW ep).getD ((0:Int),(0:Int),(none:Option Addr),(0:Nat),(0:Nat))).1),vi (((mW ep).getD ((0:Int),(0:Int),(none:Option Addr),(0:Nat),(0:Nat))).2.1),.slice (((mW ep).getD ((0:Int),(0:Int),(none:Option Addr),(0:Nat),(0:Nat))).2.2.1) (((mW ep).getD ((0:Int),(0:Int),(none:Option Addr),(0:Nat),(0:Nat))).2.2.2.1) (((mW ep).getD ((0:Int),(0:Int),(none:Option Addr),(0:Nat),(0:Nat))).2.2.2.2)],.bool ((mW ep).isSome)]) cN (fun cx=>yV (e:=48) (C:=pgX) (K:=kcI) (x:=ep) rfl (cx.ou 65) (cx.ou 67) (CtxV.mx cx (cx.init 2 _ rfl) rfl) (h0:=(by rfl)) (hx:=hkn) (hk:=show Program.underlying _ _= _ from by kernel_rfl)) ?_
 refine sqp [.m 64 68,.k 69 (.agg #[vi (((mW ep).getD ((0:Int),(0:Int),(none:Option Addr),(0:Nat),(0:Nat))).1),vi (((mW ep).getD ((0:Int),(0:Int),(none:Option Addr),(0:Nat),(0:Nat))).2.1),.slice (((mW ep).getD ((0:Int),(0:Int),(none:Option Addr),(0:Nat),(0:Nat))).2.2.1) (((mW ep).getD ((0:Int),(0:Int),(none:Option Addr),(0:Nat),(0:Nat))).2.2.2.1) (((mW ep).getD ((0:Int),(0:Int),(none:Option Addr),(0:Nat),(0:Nat))).2.2.2.2)]),.k 70 (.bool ((mW ep).isSome))] ?_
 refine bY #[vi 0,vi 0,sn] cN fun Q5 Bs fo=>?_
 refine aV (n:=3) 7 #[vi (((mW ep).getD ((0:Int),(0:Int),(none:Option Addr),(0:Nat),(0:Nat))).1),vi (((mW ep).getD ((0:Int),(0:Int),(none:Option Addr),(0:Nat),(0:Nat))).2.1),.slice (((mW ep).getD ((0:Int),(0:Int),(none:Option Addr),(0:Nat),(0:Nat))).2.2.1) (((mW ep).getD ((0:Int),(0:Int),(none:Option Addr),(0:Nat),(0:Nat))).2.2.2.1) (((mW ep).getD ((0:Int),(0:Int),(none:Option Addr),(0:Nat),(0:Nat))).2.2.2.2)] fo fun TU I9=>?_
 refine sqp [.m 12 70] ?_
 refine aa (wq (sqr (sqp [.m 71 12,.k 72 (.bool (!((mW ep).isSome)))] ?_)))
 refine aa ?_
 rcases Bool.eq_false_or_eq_true ((mW ep).isSome) with qU|qU
 refine wp_cond_false (show Act.eval _ _= .bool false from(congrArg Value.bool (by rw[qU];rfl))) (wp_skip (aa ?_))
 exact⟨mW,nW,mN,nN,os,m,OA,oc,Sj,fpj,(mG (e:=(ep,es,eb)) (hIj.mem.1 (by have h_:=qU;simpa using h_))).symm,hm,hevj,hokj.mono (by omega),hrtj,(mG (e:=(ep,es,eb)) (hIj.mem.1 (by have h_:=qU;simpa using h_))) ▸ hIj.old (ep,es,eb) (by have h_:=qU;simpa using h_),by omega,by omega,(by kernel_rfl),I9.pk [0,1,6,2,3,4,5]⟩
 refine wp_cond_true (show Act.eval _ _= .bool true from(congrArg Value.bool (by rw[qU];rfl))) (wq (aH [0,0,2,7,15,31,31,0,191,511] [[0],[],[6],[5],[],[],[],[],[10]] [[],[],[],[8,9],[],[],[],[10],[11]] [[],[],[],[5],[],[],[],[],[10]] [.c 74 (vp sb),.k 75 (vp lH),.c 76 (vi ep),.a 77,.a 73,.a 78,.a 79,.a 13,.n,.a 14] (fun ix o b X=>match ix with|0|1|2=>True|3=>o 77= .tuple #[.agg #[vi ((pgF Sj ep (tB1 (b 77))).1),vi ((pgF Sj ep (tB1 (b 77))).2.1),.slice (sA (tg (tg (b 77) 0) 2)) ((pgF Sj ep (tB1 (b 77))).2.2.length) (sC (tg (tg (b 77) 0) 2))],.bool (tB1 (b 77))]/\X 8=eSx sb db (fun S2=>PaQ Sj ep S2 (tB1 (b 77))) ((X 8).fp)/\X 9=eO 9 1 (.slice (sA (tg (tg (b 77) 0) 2)) ((pgF Sj ep (tB1 (b 77))).2.2.length) (sC (tg (tg (b 77) 0) 2))) ((pgF Sj ep (tB1 (b 77))).2.2.length) ((pgF Sj ep (tB1 (b 77))).2.2.map Value.string)|4=>o 73= .tuple #[.agg #[vi ((pgF Sj ep (tB1 (b 77))).1),vi ((pgF Sj ep (tB1 (b 77))).2.1),.slice (sA (tg (tg (b 77) 0) 2)) ((pgF Sj ep (tB1 (b 77))).2.2.length) (sC (tg (tg (b 77) 0) 2))],.bool (tB1 (b 77))]|5=>o 78= .agg #[vi ((pgF Sj ep (tB1 (b 77))).1),vi ((pgF Sj ep (tB1 (b 77))).2.1),.slice (sA (tg (tg (b 77) 0) 2)) ((pgF Sj ep (tB1 (b 77))).2.2.length) (sC (tg (tg (b 77) 0) 2))]|6=>o 79= .bool (tB1 (b 77))|7=>o 13=vp (pb (b 13))/\X 10=eB (pb (b 13)) 48 #[vi 0,vi 0,sn]|8=>X 11=eB (pb (b 13)) 48 #[vi ((pgF Sj ep (tB1 (b 77))).1),vi ((pgF Sj ep (tB1 (b 77))).2.1),.slice (sA (tg (tg (b 77) 0) 2)) ((pgF Sj ep (tB1 (b 77))).2.2.length) (sC (tg (tg (b 77) 0) 2))]|9=>o 14= .bool (tB1 (b 77))|_=>True) [0,1,2,3,4,6,7,8,9,11] [0,2,3,4,5,6,7,8,9] [(13,7,3,15),(58,4,1,59),(0,0,4,4),(0,5,2,2)] I9 ?_ ?_ ?_))
 exact fun ix _ _ _ _ _ _ hs hb hx h=>match ix,h with
 |3,h=>by dsimp only;rw[<-hs 77 rfl,<-hb 77 rfl,<-hx 8 rfl,<-hx 9 rfl];exact h
 |4,h=>by dsimp only;rw[<-hs 73 rfl,<-hb 77 rfl];exact h
 |5,h=>by dsimp only;rw[<-hs 78 rfl,<-hb 77 rfl];exact h
 |6,h=>by dsimp only;rw[<-hs 79 rfl,<-hb 77 rfl];exact h
 |7,h=>by dsimp only;rw[<-hs 13 rfl,<-hb 13 rfl,<-hx 10 rfl];exact h
 |8,h=>by dsimp only;rw[<-hb 13 rfl,<-hb 77 rfl,<-hx 11 rfl];exact h
 |9,h=>by dsimp only;rw[<-hs 14 rfl,<-hb 77 rfl];exact h
 |0,_|1,_|2,_|_+10,_=>trivial
 refine⟨?_,?_,?_,?_,?_,?_,?_,?_,?_,trivial⟩
 exact xs4 rfl id fun cx=>ae rfl (by kernel_rfl) (cx.ou 2) ((cx.bi 0 rfl).cell 0)
 exact xs4 rfl id fun cx=>ae rfl (by kernel_rfl) (cx.an 1) ((cx.bi 6 rfl).cell 0)
 refine svA fun d b W X cx=>?_
 refine am.call (aq (args:=#[vp sb,vi ep]) rfl cx.sees rfl (by kernel_rfl) (aP (cx.an 0) (cx.an 2))) ?_
 refine(qk sb db Sj ep (c+3*j) _ _ (CtxV.holdF cx (cx.init 5 _ rfl) rfl) (CtxV.ltF cx (cx.init 5 _ rfl) rfl) hokj (by omega) hkn).mono ?_
 rintro e W1 ⟨ok4,A4,c4,rfl,fp4,aU⟩
 refine⟨_,rfl,aN (E:=eSt sb db Sj fpj) [eSx sb db (fun S2=>PaQ Sj ep S2 ok4) fp4,eO 9 1 (.slice A4 ((pgF Sj ep ok4).2.2.length) c4) ((pgF Sj ep ok4).2.2.length) ((pgF Sj ep ok4).2.2.map Value.string)] (cx.init 5 _ rfl) rfl rfl aU (fun o s X' hs hb hv hN=>?_)⟩
 have aK:=(hv 77 rfl).1;have aW:=(hv 77 rfl).2
 exact⟨aK.trans (by rw[aW];exact rfl),(by rw[aW];exact fN ((List.cons.inj hN).1)),(by rw[aW];exact(List.cons.inj (List.cons.inj hN).2).1)⟩
 exact sv rfl rfl rfl rfl rfl _ (fun _ _ _ h=>h) (fun b s h=>by rw[h 77 (by decide)]) fun d b W X cx=>dn rfl (dTn (cx.an 3)).1
 exact sv rfl rfl rfl rfl rfl _ (fun _ _ _ h=>h) (fun b s h=>by rw[h 77 (by decide)]) fun d b W X cx=>b8 rfl (dTn (cx.an 4)) rfl
 exact sv rfl rfl rfl rfl rfl _ (fun _ _ _ h=>h) (fun b s h=>by rw[h 77 (by decide)]) fun d b W X cx=>b8 rfl (dTn (cx.an 4)) rfl
 refine svA fun d b W X cx=>?_
 exact dp (cs:=#[vi 0,vi 0,sn]) rfl (by kernel_rfl) rfl rfl (fun _ _ _ _ _=> .intro)
 refine svA fun d b W X cx=>?_
 exact bx (n:=3) rfl (dTn (cx.an 7)).1 (dTn (cx.an 5)) (by kernel_rfl) (by kernel_rfl) (by kernel_rfl) cx (dTn (cx.an 7)).2 rfl (nle rfl) (by kernel_rfl) rfl rfl rfl (fun o s X' hs hb hx=>by rw[hb 13,hb 77];exact hx)
 exact sv rfl rfl rfl rfl rfl _ (fun _ _ _ h=>h) (fun b s h=>by rw[h 77 (by decide)]) fun d b W X cx=>dm rfl (dTn (cx.an 6))
 intro o b X OQ hD pB fr aG
 obtain⟨ok77_67,pM⟩:∃z,tB1 (b 77)=z:=⟨_,rfl⟩
 obtain⟨ik,qV⟩:∃z,sA (tg (tg (b 77) 0) 2)=z:=⟨_,rfl⟩
 obtain⟨il,qW⟩:∃z,sC (tg (tg (b 77) 0) 2)=z:=⟨_,rfl⟩
 obtain⟨Q6,qX⟩:∃z,pb (b 13)=z:=⟨_,rfl⟩
 have MB:X 8= _:=(dTn (hD 3 lq)).2.1
 obtain⟨RE,zD⟩:∃z,(X 8).fp=z:=⟨_,rfl⟩
 rw[zD] at MB
 clear zD
 simp only[MB,exq 9 ((dTn (hD 3 lq)).2.2),exq 11 ((dTn (hD 8 lq))),pM,qV,qW,qX] at pB
 simp only[ed 77 ((dTn (hD 3 lq)).1),ed 73 ((dTn (hD 4 lq))),ed 78 ((dTn (hD 5 lq))),ed 79 ((dTn (hD 6 lq))),ed 13 ((dTn (hD 7 lq)).1),ed 14 ((dTn (hD 9 lq))),pM,qV,qW,qX] at aG
 clear hD MB pM qV qW qX;subst aG;clear o b X
 refine aa (wq (wq ?_))
 obtain⟨S1,hP,hy68_⟩:=pB.u7.unx
 have hok1:=hP.ok hokj
 have hev1:=hP.ev hokj
 have hrt1:(⟨r,cH,cP⟩:RcT)∈S1.rr:=by obtain⟨er_,h_,_⟩:=hP;rw[h_.rr];exact hrtj
 refine sqr (sqp [.m 80 14,.k 81 (.bool (!(ok77_67)))] ?_)
 refine aa ?_
 rcases Bool.eq_false_or_eq_true (ok77_67) with od|od
 refine wp_cond_false (show Act.eval _ _= .bool false from(congrArg Value.bool (by rw[od];rfl))) (wp_skip (aa (wq ?_)))
 have hpc:pgF Sj ep ok77_67=aD S ep:=by rw[od,pgF,if_pos rfl];exact hevj.cur ep hpr.1
 refine sqr (sqp [.m 82 6,.k 83 (vp lH)] ?_)
 refine av 6 hy68_ ?_
 refine ej (fun x_=>sA x_) (fun uY=> .slice uY 1 1) (fun uY=>eO 3 1 (.slice uY 1 1) 1 ([vi ep])) hy68_ (by
   refine svA fun d b W X cx=>?_
   have PL:d (.tmp 84)=vi ep:=(cx.ou 84)
   exact du (e:=3) (xs:=[vi ep]) rfl (by simp[go_sem,PL]) rfl (by decide) rfl rfl (fun _ _ _ _ _=> .intro)) fun uY L7 kW=>?_
 refine sQ (fun x_=>sA x_) (fun x_=>sC x_) (fun qY qZ=> .slice qY (m+1) qZ) (fun qY qZ=>eO 3 1 (.slice qY (m+1) qZ) (m+1) ((os++[ep]).map (Value.int .i64))) 5 kW (by
   refine svA fun d b W X cx=>?_
   obtain⟨i0,hi0,hz0,hz1,hz2⟩:=info_parts Tryz.infoIntJ
   refine eH (n:=m) (m:=1) (nm:=m+1) (xs:=os.map (Value.int .i64)) (news:=[vi ep]) (xs':=(os++[ep]).map (Value.int .i64)) rfl (ty:=25) rfl (by kernel_rfl) hi0 hz0 hz1 hz2 rfl (cx.ou 82) cx (cx.init 5 _ rfl) rfl (cx.ou 85) (by first|(simp;done)|(simp;omega)) (At.of_own (cx.ri 10 rfl)) (by simp[Value.oneCell']) (by simp only[maxLen];omega) (by omega) rfl rfl rfl (by omega) ((AM _ _)) (fun o s X' hs hb hv hx=>?_)
   exact⟨hv,hx⟩) fun qY qZ QB CI=>?_
 refine sqp [.m 6 86] ?_
 refine aa (aH [0,0,2,0,0,16,0,0,71,511] [[],[],[6],[],[],[6],[9],[9],[3],[4]] [[],[],[],[],[],[],[],[],[11],[12]] [[],[],[],[],[],[],[],[],[3],[4]] [.k 87 (.map (some iW)),.k 88 (vp lH),.c 89 (vi ep),.k 90 (.map (some ij)),.k 91 (vp lH),.c 92 (vi ep),.c 93 (.agg #[vi ((pgF Sj ep ok77_67).1),vi ((pgF Sj ep ok77_67).2.1),.slice ik ((pgF Sj ep ok77_67).2.2.length) il]),.c 94 (.agg #[vi ((pgF Sj ep ok77_67).1),vi ((pgF Sj ep ok77_67).2.1),.slice ik ((pgF Sj ep ok77_67).2.2.length) il]),.n,.n] (fun ix o b X=>match ix with|0|1|2|3|4|5|6|7=>True|8=>X 11=eMx kcI pgX Tryz.prog 3 iW ((mzP mW ep nW)) (cf mW ep (some ((pgF Sj ep ok77_67).1,(pgF Sj ep ok77_67).2.1,ik,(pgF Sj ep ok77_67).2.2.length,il)))|9=>X 12=eMx kcI pgX Tryz.prog 3 ij ((mzP mN ep nN)) (cf mN ep (some ((pgF Sj ep ok77_67).1,(pgF Sj ep ok77_67).2.1,ik,(pgF Sj ep ok77_67).2.2.length,il)))|_=>True) [0,1,2,5,6,7,8,9,10,11,12] [2,5,6,7,8,9] [(87,0,8,95)] CI ?_ ?_ ?_)
 exact fun ix _ _ _ _ _ _ hs hb hx h=>match ix,h with
 |8,h=>by dsimp only;rw[<-hx 11 rfl];exact h
 |9,h=>by dsimp only;rw[<-hx 12 rfl];exact h
 |0,_|1,_|2,_|3,_|4,_|5,_|6,_|7,_|_+10,_=>trivial
 refine⟨?_,?_,?_,?_,?_,?_,trivial⟩
 exact xs4 rfl id fun cx=>ae rfl (by kernel_rfl) (cx.an 1) ((cx.bi 6 rfl).cell 0)
 exact xs4 rfl id fun cx=>ae rfl (by kernel_rfl) (cx.an 4) ((cx.bi 6 rfl).cell 0)
 exact xs4 rfl id fun cx=>cg (n:=3) rfl (by kernel_rfl) (by kernel_rfl) (cx.ou 13) (cx.bi 9 rfl) (nle rfl) rfl
 exact xs4 rfl id fun cx=>cg (n:=3) rfl (by kernel_rfl) (by kernel_rfl) (cx.ou 13) (cx.bi 9 rfl) (nle rfl) rfl
 refine svA fun d b W X cx=>?_
 exact gA (e:=48) (v:=((pgF Sj ep ok77_67).1,(pgF Sj ep ok77_67).2.1,ik,(pgF Sj ep ok77_67).2.2.length,il)) (.inl rfl) (cx.an 0) (show d _=Kc.enc kcI ep from(cx.an 2)) (show d _=Ec.enc pgX ((pgF Sj ep ok77_67).1,(pgF Sj ep ok77_67).2.1,ik,(pgF Sj ep ok77_67).2.2.length,il) from(cx.an 6)) cx (cx.init 3 _ rfl) rfl (trivial) (by omega) (hkn) rfl rfl rfl (fun _ _ _ _ _=>id) (hk:=show Program.underlying _ _= _ from by kernel_rfl)
 refine svA fun d b W X cx=>?_
 exact gA (e:=48) (v:=((pgF Sj ep ok77_67).1,(pgF Sj ep ok77_67).2.1,ik,(pgF Sj ep ok77_67).2.2.length,il)) (.inl rfl) (cx.an 3) (show d _=Kc.enc kcI ep from(cx.an 5)) (show d _=Ec.enc pgX ((pgF Sj ep ok77_67).1,(pgF Sj ep ok77_67).2.1,ik,(pgF Sj ep ok77_67).2.2.length,il) from(cx.an 7)) cx (cx.init 4 _ rfl) rfl (trivial) (by omega) (hkn) rfl rfl rfl (fun _ _ _ _ _=>id) (hk:=show Program.underlying _ _= _ from by kernel_rfl)
 intro o b X Q7 hD xu fr aG
 simp only[exq 11 ((dTn (hD 8 lq))),exq 12 ((dTn (hD 9 lq)))] at xu
 clear hD;subst aG;clear o b X
 refine aa ?_
 obtain⟨fp79_,hg79_⟩:=St.rPf (r:=(⟨(pgF Sj ep ok77_67),ik,il⟩:PgR)) xu.u6
 have hnm:(ep,es,eb).1∉os:=fun hh=>by have h_:=hIj.mem.2 hh;have h2:=qU;simp[h_] at h2
 exact⟨cf mW ep (some ((pgF Sj ep ok77_67).1,(pgF Sj ep ok77_67).2.1,ik,(pgF Sj ep ok77_67).2.2.length,il)),(mzP mW ep nW),cf mN ep (some ((pgF Sj ep ok77_67).1,(pgF Sj ep ok77_67).2.1,ik,(pgF Sj ep ok77_67).2.2.length,il)),(mzP mN ep nN),(os++[ep]),m+1,qY,qZ,(jR S1 (⟨(pgF Sj ep ok77_67),ik,il⟩:PgR)),fp79_,(kv hnm).symm,by rw[List.length_append,List.length_singleton];omega,(hevj.trans hev1.1 hok.fl).trans (Ev.rows' _ _) hok.fl,hok1.rows _,hrt1,(kv hnm) ▸ (hIj.mono hev1.1.rows).new (ep,es,eb) (by have h_:=qU;simpa using h_) hpc _ _,by have:=qA mW ep nW;omega,by have:=qA mN ep nN;omega,(by kernel_rfl),hg79_.pk [1,2,4,8,9,3,0]⟩
 refine wp_cond_true (show Act.eval _ _= .bool true from(congrArg Value.bool (by rw[od];rfl))) (wq (sqr (sqp [.k 4 (vi 0),.k 5 (vi 24)] ?_)))
 refine aa (wp_ret (aj (aj (bb (aj (aj (bb (aj ?_))))))))
 refine bpr (.tuple #[vi 0,vi 24]) (aQ Tryz.results17 rpt rpt) ?_
 exact fH.of (.pow hda hin (hevj.trans hev1.1 hok.fl) ((hev1.2.1 od).elim id fun h=>absurd (by rw[hevj.len];exact hpr) h)) (hok1.mono (by omega)) (hy68_.pick [0] (by decide) rfl)
 rintro a53 OS ⟨mW2,nW2,mN2,nN2,os2,m2,OA2,oc2,S2,fp2,hos2,hm2,hev2,hok2,hrt2,hI2,hnW2,hnN2,hj_,kX⟩
 refine ovz hj_ fun R8=>?_
 refine wq ?_
 have hme:ep∈os2:=by rw[hos2];exact DH os (ep,es,eb)
 obtain⟨pg,hpm,hmN,hpi,_⟩:=hI2.n ep hme
 obtain⟨pp,hpp⟩:∃z,(bp (aD S) (r.eds.take j)) ep=z:=⟨_,rfl⟩
 rw[hpp] at hmN hpi
 have hri:bC pp:=hpp ▸ iI (fun m=>gk hok m) herr ep
 refine sqr (sqp [.m 96 8,.k 97 (vp lH)] ?_)
 refine av 2 kX ?_
 refine sql (.agg #[vi pp.1,vi pp.2.1,.slice pg.A pp.2.2.length pg.c]) kX (fun cx=>(da (e:=48) (C:=pgX) (K:=kcI) (x:=ep) rfl (cx.ou 96) (cx.ou 98) (CtxV.mx cx (cx.init 4 _ rfl) rfl) (h0:=by kernel_rfl) (hx:=hkn) (hk:=show Program.underlying _ _= _ from by kernel_rfl)).trans (by rw[hmN];rfl)) ?_
 refine bE 2 3 kX ?_
 refine iC (fun eD eE=> .tuple #[.agg #[vi ((doR pp (ep,es,eb) 1).1),vi ((doR pp (ep,es,eb) 1).2.1),.slice eD ((doR pp (ep,es,eb) 1).2.2.length) eE],vi ((doE pp (ep,es,eb) 1))]) (fun eD eE=>eO 9 1 (.slice eD ((doR pp (ep,es,eb) 1).2.2.length) eE) ((doR pp (ep,es,eb) 1).2.2.length) ((doR pp (ep,es,eb) 1).2.2.map Value.string)) kX (fun cx=>⟨_,(D8 (x4 pp.1 pp.2.1 _ _ pp.2.2 ep es eb 1 _ (hpi ▸ GD (CtxV.holdF cx (cx.init 6 _ rfl) rfl) hpm) hri.1 (ek hri.1) hez)).mono (by rintro e W1 ⟨A4,c4,rfl,ho,hx⟩;exact⟨_,_,rfl,St.one hx (cm ho)⟩),(dN (cx.ou 99) (cx.ou 100) (cx.co _))⟩) fun eD eE OP pA=>?_
 refine sqp [.m 95 101,.k 102 (.agg #[vi ((doR pp (ep,es,eb) 1).1),vi ((doR pp (ep,es,eb) 1).2.1),.slice eD ((doR pp (ep,es,eb) 1).2.2.length) eE]),.k 103 (vi ((doE pp (ep,es,eb) 1)))] ?_
 refine bY #[vi 0,vi 0,sn] pA fun Q8 TV Oh=>?_
 refine aV (n:=3) 8 #[vi ((doR pp (ep,es,eb) 1).1),vi ((doR pp (ep,es,eb) 1).2.1),.slice eD ((doR pp (ep,es,eb) 1).2.2.length) eE] Oh fun Mh l8=>?_
 refine sqp [.m 16 103] ?_
 refine aa (wq (wq (sqr (sqp [.m 104 16,.k 105 (.bool ((doE pp (ep,es,eb) 1) != 0))] ?_))))
 refine aa (wbs (fun kJ=>?_) fun kJ=>?_)
 have CU:=bne_iff_ne.1 kJ
 refine wq (sqr (sqp [.m 106 16,.k 4 (vi 0),.m 5 106] ?_))
 refine aa (wp_ret (aj (bb (aj (aj (bb (aj ?_)))))))
 refine bpr (.tuple #[vi 0,vi ((doE pp (ep,es,eb) 1))]) (aQ Tryz.results17 rpt rpt) ?_
 exact fH.of (by have h_:=DoQ.err (S:=S) (r:=r) hda hin hev2 (by rw[sg hek herr (by rw[hpp];simpa using kJ)];rw[hpp];simpa using kJ);rw[sg hek herr (by rw[hpp];simpa using kJ),hpp] at h_;exact h_) (hok2.mono (by omega)) (l8.pick [6] (by decide) rfl)
 have CU:=bne_eq_false_iff_eq.1 kJ
 refine wp_skip (aa ?_)
 have hd0:doE pp (ep,es,eb) 1=0:=by simpa using kJ
 have hd1:doE ((bp (aD S) (r.eds.take j)) (ep,es,eb).1) (ep,es,eb) 1=0:=by rw[hpp];exact hd0
 obtain⟨fp100_,hg100_⟩:=St.rPf (r:=(⟨gQ (dX S r) (doR pp (ep,es,eb) 1),eD,eE⟩:PgR)) l8.u6.u7
 refine sqr (sqp [.m 107 8,.k 108 (vp lH)] ?_)
 refine av 3 hg100_ ?_
 refine bE 7 3 hg100_ ?_
 refine sqc (eMx kcI pgX Tryz.prog 3 ij ((mzP mN2 ep nN2)) (cf mN2 ep (some ((doR pp (ep,es,eb) 1).1,(doR pp (ep,es,eb) 1).2.1,eD,(doR pp (ep,es,eb) 1).2.2.length,eE)))) 5 hg100_ (by
   refine svA fun d b W X cx=>?_
   exact gA (e:=48) (v:=((doR pp (ep,es,eb) 1).1,(doR pp (ep,es,eb) 1).2.1,eD,(doR pp (ep,es,eb) 1).2.2.length,eE)) (.inl rfl) (cx.ou 107) (show d _=Kc.enc kcI ep from(cx.ou 109)) (show d _=Ec.enc pgX ((doR pp (ep,es,eb) 1).1,(doR pp (ep,es,eb) 1).2.1,eD,(doR pp (ep,es,eb) 1).2.2.length,eE) from(cx.ou 110)) cx (cx.init 5 _ rfl) rfl (trivial) (by omega) (hkn) rfl rfl rfl (fun _ _ _ _ _=>id) (hk:=show Program.underlying _ _= _ from by kernel_rfl)) fun R9 MC=>?_
 refine aw (aa (sqr (sqp [sI 111 ((j:Int)+1) (by omega),.m 60 111] ?_)))
 refine aa ?_
 have hev3:Ev S (jR S2 (⟨gQ (dX S r) (doR pp (ep,es,eb) 1),eD,eE⟩:PgR)):=hev2.trans (Ev.rows' _ _) hok.fl
 have hok3:=hok2.rows (⟨gQ (dX S r) (doR pp (ep,es,eb) 1),eD,eE⟩:PgR)
 have hI3:DoI (aD S) (bp (aD S) (r.eds.take (j+1))) (dX S r) os2 (mW2) (cf mN2 ep (some ((doR pp (ep,es,eb) 1).1,(doR pp (ep,es,eb) 1).2.1,eD,(doR pp (ep,es,eb) 1).2.2.length,eE))) (jR S2 (⟨gQ (dX S r) (doR pp (ep,es,eb) 1),eD,eE⟩:PgR)).rows none:=by rw[iA hek,x8];exact hI2.edit hme (by rw[hpp];exact rF hd0) _ _
 refine⟨r.eds.length-((j+1)),by omega,?_⟩
 exact⟨(j+1),os2,m2,OA2,oc2,(jR S2 (⟨gQ (dX S r) (doR pp (ep,es,eb) 1),eD,eE⟩:PgR)),fp100_,mW2,nW2,cf mN2 ep (some ((doR pp (ep,es,eb) 1).1,(doR pp (ep,es,eb) 1).2.1,eD,(doR pp (ep,es,eb) 1).2.2.length,eE)),(mzP mN2 ep nN2),by omega,by rw[iA hek,sq,<-hos];exact hos2,hm2,hev3,hok3.mono (by omega),hrt2,yW hek herr hd1,hI3,by omega,by have:=qA mN2 ep nN2;omega,rfl,(by kernel_rfl),MC.pk [1,2,4,5,6,0]⟩
 refine wp_exit (au (au (bh (aa (wq ?_)))))
 have hje:j=r.eds.length:=by omega
 have hI9:DoI (aD S) (bp (aD S) r.eds) (dX S r) os mW mN Sj.rows none:=by have h_:=hIj;rw[hje,List.take_length] at h_;exact h_
 have hosF:os=cz r.eds:=by rw[hos,hje,List.take_length]
 have her9:cY (aD S) r.eds=0:=by have h_:=herr;rw[hje,List.take_length] at h_;exact h_
 have hmo:m<=64:=by have h1:=kp r.eds;rw[hm,hosF];omega
 have aG:=eR hda.1
 have hlzj:Sj.D.log.size<=1048576:=hokj.lsz
 have hpro:∀n∈os,0<=n/\n<(S.D.pgs.length:Int):=fun n hn=>by rw[hosF] at hn;obtain⟨x,hx,rfl⟩:=jL.1 hn;exact jP hin hx
 refine sqr ?_
 refine bE 1 8 gv ?_
 refine sqk (.string (aC r)) gv (fun cx=>⟨_,j9 r.kind r.xid r.tbl _ _ r.eds r.note _ (md (CtxV.holdF cx (cx.init 5 _ rfl) rfl) hrtj) (by omega) hz hns,(ax (cx.ou 112))⟩) fun PG zx=>?_
 refine sqp [.k 114 (vi (((aC r).size:Int))),.m 17 114] ?_
 refine aa (wq (sqr (sqp [.k 18 (sn)] ?_)))
 refine aa (wq (wq (sqr (sqp [.m 115 6,.k 116 (vi ((m:Int))),.k 117 (vi 0)] ?_))))
 refine aa (wp_block ?_)
 have hn116:=fh zx 27 8
 simp only[List.cons_append,List.nil_append] at hn116
 refine aT (fun t_ mz az W=>∃i:Nat,∃g:Nat,∃GA:Option Addr,∃gc:Nat,∃z:Int,∃fpi:List Nat,i<=m/\g=(eu S (os.take i)).length/\z=((aC r).size:Int)+(szF (eP S (os.take i)):Int)/\(0<=z/\z<=200000*((i:Int)+1))/\mz=m-i/\az=⟨(ovr (jv az) [(17,17,0,[vi z,.slice GA g gc]),(1,20,4,[]),(93,117,0,[vi ((i:Int))]),(0,118,30,[])] t_).toArray,[]⟩/\St w fp [eB bF 31 #[vp sb],eB dK 27 #[vi r.kind,vi r.xid,vi r.tbl,sn,sn,.slice cH r.eds.length cP,sn,.string r.note],eMx kcI pgX Tryz.prog 3 iW nW (mW),eMx kcI pgX Tryz.prog 3 ij nN (mN),eO 3 1 (.slice OA m oc) m (os.map (Value.int .i64)),eO 27 8 (.slice GA g gc) g ((eu S (os.take i)).flatMap (icC S)),eSt sb db Sj fpi] W) (m-0) ?_ ?_
 exact⟨0,0,none,0,((aC r).size:Int),fpj,Nat.zero_le _,rfl,by show _= _+((0:Nat):Int);omega,by omega,rfl,(by kernel_rfl),hn116.pk [0,1,2,3,4,6,5]⟩
 rintro Sa a117 Sb ⟨i,g,GA,gc,z,fpi,hi,hg,hz1,hz2,rfl,hj_,q3⟩
 refine ovz hj_ fun RF=>?_
 refine wq (sqr (sqp [.k 118 (.bool (decide ((i:Int)<(m:Int))))] ?_))
 refine aa (wq (wds (fun uZ zE=>?_) fun uZ zE=>?_))
 refine wp_skip (aa (wq (wp_block (wq ?_))))
 obtain⟨nn,hnn⟩:∃n,os[i]? =some n:=⟨_,List.getElem?_eq_getElem (by omega)⟩
 have hno:nn∈os:=List.mem_of_getElem? hnn
 have hpn:=hpro nn hno
 have hkn:kcI.ok nn:=by constructor<;>omega
 have htk:os.take (i+1)=os.take i++[nn]:=by rw[List.take_add_one,hnn];rfl
 refine sqr ?_
 refine sql (.pointer (some ((ad OA).add i))) q3 (fun cx=>bS (e:=3) (m:=i) rfl (by kernel_rfl) (by kernel_rfl) (cx.ou 115) (cx.ou 117) (by omega) (by omega) (At.of_own (cx.ri 4 rfl)) (by rw[List.length_map];omega)) ?_
 refine sql (vi nn) q3 (fun cx=>ae rfl (by kernel_rfl) (cx.ou 119) (At.cellAd (At.of_own (cx.ri 4 rfl)) ((List.getElem?_map ..).trans (by rw[hnn];rfl)))) ?_
 refine sqp [.m 20 120] ?_
 refine aa (wq ?_)
 obtain⟨⟨hrw1,hrr1⟩,mb1,RA1,rc1,EA1,ec1,ib1,tb1,fpd1,hv123_⟩:=q3.u6.unf
 refine sqr (av 10 hv123_ ?_)
 refine sqp [.k 122 (vp sb),.k 123 (po sb 6)] ?_
 refine av 0 hv123_ ?_
 refine sqp [.m 125 20] ?_
 refine sql (.bool (((Sj.im nn).getD false))) hv123_ (fun cx=>da (e:=4) (C:=ecB) (K:=kcI) (x:=nn) rfl (cx.ou 124) (cx.ou 125) (CtxV.mx cx (cx.init 7 _ rfl) rfl) (h0:=(by rfl)) (hx:=hkn) (hk:=show Program.underlying _ _= _ from by kernel_rfl)) ?_
 refine sqp [.k 127 (.bool (!(((Sj.im nn).getD false))))] ?_
 refine aa ?_
 rcases Bool.eq_false_or_eq_true (((Sj.im nn).getD false)) with va|va
 refine wp_cond_false (show Act.eval _ _= .bool false from(congrArg Value.bool (by rw[va];rfl))) (wp_skip (aw (aa (sqr (sqp [sI 147 ((i:Int)+1) (by omega),.m 117 147] ?_)))))
 refine aa ?_
 obtain⟨fp134_,hk134_⟩:=St.stf (S:=Sj) (hv123_) (hrw1) (hrr1)
 have him:(S.im nn).getD false=true:=by rw[<-hevj.im];simpa using va
 have hnd1:eu S (os.take (i+1))=eu S (os.take i):=by rw[htk];exact D5 S _ _ him
 rw[<-hnd1] at hk134_
 refine⟨m-((i+1)),by omega,?_⟩
 exact⟨(i+1),g,GA,gc,z,fp134_,by omega,by rw[hnd1];exact hg,by rw[eP,hnd1];exact hz1,by omega,rfl,(by kernel_rfl),hk134_.pk [1,2,3,4,5,6,0]⟩
 refine wp_cond_true (show Act.eval _ _= .bool true from(congrArg Value.bool (by rw[va];rfl))) (wq ?_)
 have him:(S.im nn).getD false=false:=by rw[<-hevj.im];simpa using va
 have hnd1:eu S (os.take (i+1))=eu S (os.take i)++[nn]:=by rw[htk];exact GN S _ _ him
 obtain⟨pg,hpm,hmW,hpi⟩:=hI9.w nn hno
 have hri:=gk hok nn
 have hbz:=dD hri
 have hgi:g<=i:=by rw[hg];have h1:=mu S (os.take i);rw[List.length_take] at h1;omega
 have hfi:=eR (lh hok hpn)
 refine sqr (sqp [.m 129 7,.m 130 20] ?_)
 refine sql (.agg #[vi ((aD S nn).1),vi ((aD S nn).2.1),.slice pg.A ((aD S nn).2.2.length) pg.c]) hv123_ (fun cx=>(da (e:=48) (C:=pgX) (K:=kcI) (x:=nn) rfl (cx.ou 129) (cx.ou 130) (CtxV.mx cx (cx.init 12 _ rfl) rfl) (h0:=by kernel_rfl) (hx:=hkn) (hk:=show Program.underlying _ _= _ from by kernel_rfl)).trans (by rw[hmW];rfl)) ?_
 refine sqk (.tuple #[.string (aE (aD S nn)),vi 0]) hv123_ (fun cx=>⟨_,nx (lx hri) _ _ _ (hpi ▸ jd (CtxV.holdF cx (cx.init 3 _ rfl) rfl) hpm) (ek hri.1),(ax (cx.ou 131))⟩) fun Sc MD=>?_
 refine sqp [.m 128 132,.k 133 (.string (aE (aD S nn))),.k 134 (vi 0),.m 21 133,.m 22 134] ?_
 refine aa (wq (sqr (sqp [.m 135 20,.m 136 21,.k 137 (.agg #[vi 8,vi 0,vi nn,sn,sn,sn,sn,.string (aE (aD S nn))])] ?_)))
 refine bY #[vi 0,vi 0,vi 0,sn,sn,sn,sn,.string ByteArray.empty] MD fun P9 Sd ME=>?_
 refine aV (n:=8) 16 #[vi 8,vi 0,vi nn,sn,sn,sn,sn,.string (aE (aD S nn))] ME fun Se Fz=>?_
 refine aa (wq (sqr (sqp [.m 138 18] ?_)))
 refine bE 16 8 Fz ?_
 refine mJ 27 8 1 [vi 8,vi 0,vi nn,sn,sn,sn,sn,.string (aE (aD S nn))] Fz (@fun d b W X cx=>by have Oi:d (.tmp 139)= .agg #[vi 8,vi 0,vi nn,sn,sn,sn,sn,.string (aE (aD S nn))]:=(cx.ou 139);simp[go_sem,Oi]) fun PM PN m7=>?_
 refine vE (g+1) ((eu S (os.take (i+1))).flatMap (icC S)) 15 m7 Tryz.infoRecJ (fun cx=>(At.of_ownN (cx.ri 17 rfl))) (jM:=(by rw[hnd1];exact Jx _ _ _)) fun Ip Iq PI uX=>?_
 refine sqp [.m 18 141] ?_
 refine aa (sqr (sqp [.m 142 17] ?_))
 refine bE 16 8 uX ?_
 refine sqk (.string (aC (f7 S nn))) uX (fun cx=>⟨_,j9 8 0 nn none 0 [] (aE (aD S nn)) _ (fun j u h=>by cases j<;>cases h) (by decide) (fun e he=>by cases he) (by omega),(ax (cx.ou 143))⟩) fun Sf MF=>?_
 refine sqp [.k 145 (vi (((aC (f7 S nn)).size:Int))),sI 146 (z+((aC (f7 S nn)).size:Int)) (by omega),.m 17 146] ?_
 refine aw (aa (sqr (sqp [sI 147 ((i:Int)+1) (by omega),.m 117 147] ?_)))
 refine aa ?_
 obtain⟨fp162_,hk162_⟩:=St.stf (S:=Sj) (MF) (hrw1) (hrr1)
 refine⟨m-((i+1)),by omega,?_⟩
 exact⟨(i+1),(g+1),Ip,Iq,(z+((aC (f7 S nn)).size:Int)),fp162_,by omega,by rw[hnd1,List.length_append,hg];rfl,by rw[htk,Eu S _ _ him];omega,by omega,rfl,(by kernel_rfl),hk162_.pk [1,2,3,4,5,6,0]⟩
 refine wp_exit (au (au (bh (aa (wq (wq ?_))))))
 have hie:i=m:=by omega
 have hto:os.take i=os:=List.take_of_length_le (by omega)
 rw[hto] at hg hz1 q3
 have hgm:g<=64:=by have h1:=mu S os;omega
 have hnz:j8 S r=Sj.D.log.size+z.toNat:=by rw[j8,<-hosF,hevj.log,hz1];omega
 obtain⟨⟨hrw1,hrr1⟩,mb1,RA1,rc1,EA1,ec1,ib1,tb1,fpd1,hv163_⟩:=q3.u6.unf
 refine sqr (av 10 hv163_ ?_)
 refine sqp [.k 149 (vp sb),.k 150 (vp sb)] ?_
 refine av 0 hv163_ ?_
 refine sqk (.string Sj.D.log) hv163_ (fun cx=>⟨_,kz db Sj.D _ (fb (CtxV.holdF cx (cx.init 9 _ rfl) rfl)),(ax (cx.ou 151))⟩) fun PO vb=>?_
 refine sqp [.k 153 (vi ((Sj.D.log.size:Int))),.m 154 17,sI 155 ((Sj.D.log.size:Int)+z) (by omega),.k 156 (.bool (decide (1048576<(Sj.D.log.size:Int)+z)))] ?_
 refine aa (wds (fun CV MG=>?_) fun CV MG=>?_)
 refine wq (sqr (sqp [.k 4 (vi 0),.k 5 (vi 31)] ?_))
 refine aa (wp_ret (aj ?_))
 refine bpr (.tuple #[vi 0,vi 31]) (aQ Tryz.results17 rpt rpt) ?_
 obtain⟨fp176_,hk176_⟩:=St.stf (S:=Sj) (vb) (hrw1) (hrr1)
 exact fH.of (.full hda hin hevj her9 (by have h_:=CV;simp at h_;omega)) (hokj.mono (by omega)) (hk176_.pick [0] (by decide) rfl)
 refine wp_skip (aa (wq (wq ?_)))
 have hfit:j8 S r<=1048576:=by have h_:=CV;simp at h_;omega
 obtain⟨fp177_,hk177_⟩:=St.stf (S:=Sj) (vb) (hrw1) (hrr1)
 refine sqr (sqp [.m 157 18,.k 158 (vi ((g:Int))),.k 159 (vi 0)] ?_)
 refine aa (wp_block ?_)
 refine aT (fun t_ mz az W=>∃k:Nat,∃Sk:StM,∃fpk:List Nat,k<=g/\(∀S9 er,ApI Sk ((eP S os).drop k) S9 er->ApI Sj (eP S os) S9 er)/\SOk Sk (c+200+k)/\(⟨r,cH,cP⟩:RcT)∈Sk.rr/\Sk.rows=Sj.rows/\Sk.recs.length=S.recs.length+k/\Sk.D.pgs.length=S.D.pgs.length/\mz=g-k/\az=⟨(ovr (jv az) [(4,4,2,[]),(19,25,2,[]),(132,159,0,[vi ((k:Int))]),(0,160,16,[])] t_).toArray,[]⟩/\St w fp [eB bF 31 #[vp sb],eB dK 27 #[vi r.kind,vi r.xid,vi r.tbl,sn,sn,.slice cH r.eds.length cP,sn,.string r.note],eMx kcI pgX Tryz.prog 3 iW nW (mW),eMx kcI pgX Tryz.prog 3 ij nN (mN),eO 3 1 (.slice OA m oc) m (os.map (Value.int .i64)),eO 27 8 (.slice GA g gc) g ((eu S os).flatMap (icC S)),eSt sb db Sk fpk] W) (g-0) ?_ ?_
 exact⟨0,Sj,fp177_,Nat.zero_le _,fun S9 er h=>h,hokj.mono (by omega),hrtj,rfl,by rw[hevj.recs];rfl,hevj.len,rfl,(by kernel_rfl),hk177_.pk [1,2,3,4,5,6,0]⟩
 rintro Sg a181 Sm ⟨k,Sk,fpk,hk,hcont,hokk,hrtk,hrowk,hreck,hpk,rfl,hj_,oK⟩
 refine ovz hj_ fun RG=>?_
 refine wq (sqr (sqp [.k 160 (.bool (decide ((k:Int)<(g:Int))))] ?_))
 refine aa (wq (wds (fun Oj MH=>?_) fun Oj MH=>?_))
 refine wp_skip (aa (wq (wp_block (wq ?_))))
 obtain⟨nn,hnn⟩:∃n,(eu S os)[k]? =some n:=⟨_,List.getElem?_eq_getElem (by omega)⟩
 have hno:nn∈os:=oQ (List.mem_of_getElem? hnn)
 have hpn:=hpro nn hno
 have hkn:kcI.ok nn:=by constructor<;>omega
 have hdr:(eP S os).drop k=f7 S nn::(eP S os).drop (k+1):=by rw[List.drop_eq_getElem_cons (by rw[eP,List.length_map];omega)];congr 1;exact(List.getElem?_eq_some_iff.1 ((List.getElem?_map ..).trans (by rw[hnn];rfl))).2
 have hir:=lh hok hpn
 refine sqr ?_
 refine sql (.pointer (some ((ad GA).add (k*8)))) oK (fun cx=>aI (e:=27) (m:=k) (sz:=8) rfl (by kernel_rfl) (by kernel_rfl) (cx.ou 157) (cx.ou 159) (by omega) (by omega) (At.of_ownN (cx.ri 5 rfl)) (bq (sz:=8) (Bm S) (by decide) (by omega))) ?_
 refine sql (.agg #[vi 8,vi 0,vi nn,sn,sn,sn,sn,.string ((aE (aD S nn)))]) oK (fun cx=>bT (f:=(icC S)) (m:=k) (sz:=8) (off:=0) (n:=8) rfl (by kernel_rfl) (by kernel_rfl) (cx.ou 161) rfl (Bm S) (At.of_ownN (cx.ri 5 rfl)) hnn (fun k hk=>match k,hk with|0,_=>rfl|1,_=>rfl|2,_=>rfl|3,_=>rfl|4,_=>rfl|5,_=>rfl|6,_=>rfl|7,_=>rfl|k+8,hk=>absurd hk (by omega))) ?_
 refine bY #[vi 0,vi 0,vi 0,sn,sn,sn,sn,.string ByteArray.empty] oK fun KJ Sn MI=>?_
 refine aV (n:=8) 7 #[vi 8,vi 0,vi nn,sn,sn,sn,sn,.string ((aE (aD S nn)))] MI fun So MJ=>?_
 refine aa (wq (wq ?_))
 have hn188:=fh MJ 84 3
 simp only[List.cons_append,List.nil_append] at hn188
 obtain⟨Sq,fp189_,hSq,hg189_⟩:=St.rRn (r:=(rcI (f7 S nn))) hn188.u6.u8
 have hokq:SOk Sq (c+200+k):=hSq ▸ hokk.rr _
 have hrtq:rcI (f7 S nn)∈Sq.rr:=by rw[<-hSq];exact List.mem_append_right _ (List.mem_singleton.2 rfl)
 refine sqr (av 1 hg189_ ?_)
 refine bE 7 8 hg189_ ?_
 refine bN (fun X_=>X_.fp) (vi ((bt Sq (rcI (f7 S nn))).2)) (fun FA=>eSt sb db ((bt Sq (rcI (f7 S nn))).1) FA) 0 hg189_ (by
   refine svA fun d b W X cx=>?_
   refine am.call (aq (args:=#[vp sb,.agg #[vi 8,vi 0,vi nn,sn,sn,sn,sn,.string ((aE (aD S nn)))]]) rfl cx.sees rfl (by kernel_rfl) (aP (cx.ou 163) (cx.ou 164))) ?_
   refine(nV sb db Sq (rcI (f7 S nn)) (c+200+k) _ _ (CtxV.holdF cx (cx.init 0 _ rfl) rfl) (CtxV.ltF cx (cx.init 0 _ rfl) rfl) hokq hir hrtq).mono ?_
   rintro e W1 ⟨rfl,fp4,aU⟩
   refine⟨_,rfl,aN (E:=eSt sb db Sq fp189_) [eSt sb db (bt Sq (rcI (f7 S nn))).1 fp4] (cx.init 0 _ rfl) rfl rfl aU (fun o s X' hs hb hv hN=>?_)⟩
   have aK:=(hv 165 rfl).1;have aW:=(hv 165 rfl).2
   exact⟨aK.trans rfl,gW ((List.cons.inj hN).1)⟩) fun FA PP oL=>?_
 refine sqp [.m 26 165] ?_
 refine aa (wq (sqr (sqp [.m 166 26,.k 167 (.bool (((bt Sq (rcI (f7 S nn))).2) != 0))] ?_)))
 refine aa (wbs (fun rM=>?_) fun rM=>?_)
 have MK:=bne_iff_ne.1 rM
 refine wq (sqr (sqp [.m 168 26,.k 4 (vi 0),.m 5 168] ?_))
 refine aa (wp_ret (aj (bb (aj (aj (bb (aj ?_)))))))
 refine bpr (.tuple #[vi 0,vi ((bt Sq (rcI (f7 S nn))).2)]) (aQ Tryz.results17 rpt rpt) ?_
 exact fH.of (.img hda hin hevj ⟨_,hokj⟩ her9 hfit (by rw[<-hosF];refine hcont _ _ ?_;rw[hdr];have h_:=ApI.bad (S:=Sk) (l:=(eP S os).drop (k+1)) (Sk.rr++[rcI (f7 S nn)]) (by rw[hSq];simpa using rM);rw[hSq] at h_;exact h_) (by simpa using rM)) ((hokq.append hir).mono (by omega)) (oL.pick [0] (by decide) rfl)
 have MK:=bne_eq_false_iff_eq.1 rM
 refine wp_skip (aa ?_)
 have he0:(bt Sq (rcI (f7 S nn))).2=0:=by simpa using rM
 obtain⟨S3,hS3⟩:∃z,(bt Sq (rcI (f7 S nn))).1=z:=⟨_,rfl⟩
 rw[hS3] at oL
 have hok3:SOk S3 (c+200+k):=hS3 ▸ hokq.append hir
 have hni3:=hok3.ni
 obtain⟨⟨hrw3,hrr3⟩,mb3,RA3,rc3,EA3,ec3,ib3,tb3,fpd3,hv200_⟩:=oL.unf
 refine aH [0,1,3,7,0,16,63] [[10],[],[],[0],[],[16],[7]] [[],[],[],[],[],[],[17]] [[],[],[],[],[],[],[7]] [.c 169 (vp sb),.k 170 (vp sb),.k 171 (po sb 6),.c 172 (.map (some ib3)),.k 173 (po KJ 2),.c 174 (vi nn),.n] (fun ix o b X=>match ix with|0|1|2|3|4|5=>True|6=>X 17=eMx kcI ecB Tryz.prog 3 ib3 ((mzP S3.im nn S3.ni)) (cf S3.im nn (some true))|_=>True) [0,1,2,3,4,5,6,8,9,10,11,12,13,14,15,16,17] [0,3,5,6] [(169,0,6,175)] hv200_ ?_ ?_ ?_
 exact fun ix _ _ _ _ _ _ hs hb hx h=>match ix,h with
 |6,h=>by dsimp only;rw[<-hx 17 rfl];exact h
 |0,_|1,_|2,_|3,_|4,_|5,_|_+7,_=>trivial
 refine⟨?_,?_,?_,?_,trivial⟩
 exact xs4 rfl id fun cx=>ae rfl (by kernel_rfl) (cx.ou 2) ((cx.bi 10 rfl).cell 0)
 exact xs4 rfl id fun cx=>ae rfl (by kernel_rfl) (cx.an 2) ((cx.bi 0 rfl).cell 6)
 exact xs4 rfl id fun cx=>ae rfl (by kernel_rfl) (cx.an 4) ((cx.bi 16 rfl).cell 2)
 refine svA fun d b W X cx=>?_
 exact gA (e:=4) (v:=true) (.inl rfl) (cx.an 3) (show d _=Kc.enc kcI nn from(cx.an 5)) (show d _=Ec.enc ecB true from(cx.co _)) cx (cx.init 7 _ rfl) rfl (trivial) (by omega) (hkn) rfl rfl rfl (fun _ _ _ _ _=>id) (hk:=show Program.underlying _ _= _ from by kernel_rfl)
 intro o b X Sp hD FB fr aG
 simp only[exq 17 ((dTn (hD 6 lq)))] at FB
 clear hD;subst aG;clear o b X
 refine aw (aa (sqr (sqp [sI 175 ((k:Int)+1) (by omega),.m 159 175] ?_)))
 refine aa ?_
 obtain⟨fp204_,hk204_⟩:=St.stf (S:=(imS S3 nn)) (FB.u16.u7.u7.u7.u7.u7.u7.u7) (hrw3) (hrr3)
 refine⟨g-((k+1)),by omega,?_⟩
 exact⟨(k+1),(imS S3 nn),fp204_,by omega,fun S9 er h=>hcont S9 er (by rw[hdr];exact ApI.cons (Sk.rr++[rcI (f7 S nn)]) (by rw[hSq];exact he0) (by rw[hSq,hS3];exact h)),(hok3.im nn).mono (by omega),by show _∈S3.rr;rw[<-hS3,(jJ _ _).2.1,<-hSq];exact List.mem_append_left _ hrtk,by show S3.rows= _;rw[<-hS3,(jJ _ _).1,<-hSq];exact hrowk,by show S3.recs.length= _;rw[<-hS3,wX he0,List.length_append,<-hSq];show Sk.recs.length+1= _;omega,by show S3.D.pgs.length= _;rw[<-hS3,(jJ _ _).2.2.2.2.2.1,<-hSq];exact hpk,rfl,(by kernel_rfl),hk204_.pk [1,2,3,4,5,6,0]⟩
 refine wp_exit (au (au (bh (aa (wq (wq ?_))))))
 have hai:ApI Sj (eP S os) Sk 0:=hcont _ _ (by rw[List.drop_of_length_le (by rw[eP,List.length_map];omega)];exact ApI.nil _)
 refine sqr (av 0 oK ?_)
 refine bE 1 8 oK ?_
 refine bN (fun X_=>X_.fp) (vi ((bt Sk (⟨r,cH,cP⟩:RcT)).2)) (fun zF=>eSt sb db ((bt Sk (⟨r,cH,cP⟩:RcT)).1) zF) 6 oK (by
   refine svA fun d b W X cx=>?_
   refine am.call (aq (args:=#[vp sb,.agg #[vi r.kind,vi r.xid,vi r.tbl,sn,sn,.slice cH r.eds.length cP,sn,.string r.note]]) rfl cx.sees rfl (by kernel_rfl) (aP (cx.ou 176) (cx.ou 177))) ?_
   refine(nV sb db Sk (⟨r,cH,cP⟩:RcT) (c+200+k) _ _ (CtxV.holdF cx (cx.init 6 _ rfl) rfl) (CtxV.ltF cx (cx.init 6 _ rfl) rfl) hokk hda.1 hrtk).mono ?_
   rintro e W1 ⟨rfl,fp4,aU⟩
   refine⟨_,rfl,aN (E:=eSt sb db Sk fpk) [eSt sb db (bt Sk (⟨r,cH,cP⟩:RcT)).1 fp4] (cx.init 6 _ rfl) rfl rfl aU (fun o s X' hs hb hv hN=>?_)⟩
   have aK:=(hv 178 rfl).1;have aW:=(hv 178 rfl).2
   exact⟨aK.trans rfl,gW ((List.cons.inj hN).1)⟩) fun zF Sr zG=>?_
 refine sqp [.m 27 178] ?_
 refine aa (wq (sqr (sqp [.m 179 27,.k 180 (.bool (((bt Sk (⟨r,cH,cP⟩:RcT)).2) != 0))] ?_)))
 refine aa (wbs (fun vc=>?_) fun vc=>?_)
 have ML:=bne_iff_ne.1 vc
 refine wq (sqr (sqp [.m 181 27,.k 4 (vi 0),.m 5 181] ?_))
 refine aa (wp_ret (aj ?_))
 refine bpr (.tuple #[vi 0,vi ((bt Sk (⟨r,cH,cP⟩:RcT)).2)]) (aQ Tryz.results17 rpt rpt) ?_
 exact fH.of (.app (rt:=(⟨r,cH,cP⟩:RcT)) hda hin hevj ⟨_,hokj⟩ her9 hfit (by rw[<-hosF];exact hai) rfl (by simpa using vc)) ((hokk.append hda.1).mono (by omega)) (zG.pick [6] (by decide) rfl)
 have ML:=bne_eq_false_iff_eq.1 vc
 refine wp_skip (aa (wq (wq ?_)))
 have he5:(bt Sk (⟨r,cH,cP⟩:RcT)).2=0:=by simpa using vc
 obtain⟨S5,hS5⟩:∃z,(bt Sk (⟨r,cH,cP⟩:RcT)).1=z:=⟨_,rfl⟩
 rw[hS5] at zG
 have hok5:SOk S5 (c+300):=hS5 ▸ ((hokk.append hda.1).mono (by omega))
 have hlsn:(S5.recs.length:Int)=(dX S r):=by rw[<-hS5,wX he5,List.length_append,hreck,dX,<-hosF];simp only[List.length_singleton];omega
 have hrow5:S5.rows=Sj.rows:=by rw[<-hS5,(jJ _ _).1];exact hrowk
 refine sqr (sqp [.m 182 6,.k 183 (vi ((m:Int))),.k 184 (vi 0)] ?_)
 refine aa (wp_block ?_)
 refine aT (fun t_ mz az W=>∃ii:Nat,∃Sl:StM,∃fpl:List Nat,ii<=m/\(∀S9 er,PuA (aD S) (bp (aD S) r.eds) (dX S r) Sl (os.drop ii) S9 er->PuA (aD S) (bp (aD S) r.eds) (dX S r) S5 os S9 er)/\SOk Sl (c+300+4*ii)/\Sl.recs=S5.recs/\(∀p∈Sj.rows,p∈Sl.rows)/\mz=m-ii/\az=⟨(ovr (jv az) [(4,4,2,[]),(23,29,3,[]),(152,184,0,[vi ((ii:Int))]),(0,185,35,[])] t_).toArray,[]⟩/\St w fp [eB bF 31 #[vp sb],eMx kcI pgX Tryz.prog 3 iW nW (mW),eMx kcI pgX Tryz.prog 3 ij nN (mN),eO 3 1 (.slice OA m oc) m (os.map (Value.int .i64)),eSt sb db Sl fpl] W) (m-0) ?_ ?_
 exact⟨0,S5,zF,Nat.zero_le _,fun S9 er h=>h,hok5.mono (by omega),rfl,fun p hp=>by rw[hrow5];exact hp,rfl,(by kernel_rfl),zG.pk [0,2,3,4,6]⟩
 rintro Ss a218 Su ⟨ii,Sl,fpl,hii,hcon4,hokl,hrecl,hrowl,rfl,hj_,q6⟩
 refine ovz hj_ fun RH=>?_
 refine wq (sqr (sqp [.k 185 (.bool (decide ((ii:Int)<(m:Int))))] ?_))
 refine aa (wq (wds (fun Ok MM=>?_) fun Ok MM=>?_))
 ·refine wp_skip (aa (wq (wp_block (wq ?_))))
  obtain⟨nn,hnn⟩:∃n,os[ii]? =some n:=⟨_,List.getElem?_eq_getElem (by omega)⟩
  have hno:nn∈os:=List.mem_of_getElem? hnn
  have hpn:=hpro nn hno
  have hkn:kcI.ok nn:=by constructor<;>omega
  have htk:os.take (ii+1)=os.take ii++[nn]:=by rw[List.take_add_one,hnn];rfl
  obtain⟨pg,hpm,hmN,hpi,hps⟩:=hI9.n nn hno
  obtain⟨pgw,hpmw,hmW,hpiw⟩:=hI9.w nn hno
  have hdr:os.drop ii=nn::os.drop (ii+1):=by rw[List.drop_eq_getElem_cons (by omega)];congr 1;exact(List.getElem?_eq_some_iff.1 hnn).2
  have hlsl:(Sl.recs.length:Int)=(dX S r):=by rw[hrecl];exact hlsn
  have hgl:(⟨(((bp (aD S) r.eds) nn).1,(Sl.recs.length:Int),((bp (aD S) r.eds) nn).2.2),pg.A,pg.c⟩:PgR)∈Sj.rows:=by rw[hlsl];have h_:=hps (by simp);obtain⟨p1,p2,p3⟩:=pg;dsimp only at h_;subst h_;exact hpm
  refine sqr ?_
  refine sql (.pointer (some ((ad OA).add ii))) q6 (fun cx=>bS (e:=3) (m:=ii) rfl (by kernel_rfl) (by kernel_rfl) (cx.ou 182) (cx.ou 184) (by omega) (by omega) (At.of_own (cx.ri 3 rfl)) (by rw[List.length_map];omega)) ?_
  refine sql (vi nn) q6 (fun cx=>ae rfl (by kernel_rfl) (cx.ou 186) (At.cellAd (At.of_own (cx.ri 3 rfl)) ((List.getElem?_map ..).trans (by rw[hnn];rfl)))) ?_
  refine sqp [.m 29 187] ?_
  refine aa (wq (sqr (sqp [.m 188 8,.m 189 29] ?_)))
  refine sql (.agg #[vi (((bp (aD S) r.eds) nn).1),vi (((bp (aD S) r.eds) nn).2.1),.slice pg.A (((bp (aD S) r.eds) nn).2.2.length) pg.c]) q6 (fun cx=>(da (e:=48) (C:=pgX) (K:=kcI) (x:=nn) rfl (cx.ou 188) (cx.ou 189) (CtxV.mx cx (cx.init 2 _ rfl) rfl) (h0:=by kernel_rfl) (hx:=hkn) (hk:=show Program.underlying _ _= _ from by kernel_rfl)).trans (by rw[hmN];rfl)) ?_
  refine bY #[vi 0,vi 0,sn] q6 fun Bu Sv MN=>?_
  refine aV (n:=3) 5 #[vi (((bp (aD S) r.eds) nn).1),vi (((bp (aD S) r.eds) nn).2.1),.slice pg.A (((bp (aD S) r.eds) nn).2.2.length) pg.c] MN fun Sw MO=>?_
  refine aa (wq ?_)
  obtain⟨⟨hrw4,hrr4⟩,mb4,RA4,rc4,EA4,ec4,ib4,tb4,fpd4,hv229_⟩:=MO.u4.unf
  have hntl:=hokl.nt
  refine sqr (av 10 hv229_ ?_)
  refine sqp [.k 192 (vp sb),.k 193 (po sb 4)] ?_
  refine av 0 hv229_ ?_
  refine sqp [.k 195 (vi ((Sl.recs.length:Int))),.k 196 (po Bu 1)] ?_
  refine aV (n:=1) 14 #[vi (((bp (aD S) r.eds) nn).1),vi ((Sl.recs.length:Int)),.slice pg.A (((bp (aD S) r.eds) nn).2.2.length) pg.c] hv229_ fun Sy m8=>?_
  refine aa (wq (wq (sqr (sqp [.m 197 7,.m 198 29] ?_))))
  refine sql (.agg #[vi ((aD S nn).1),vi ((aD S nn).2.1),.slice pgw.A ((aD S nn).2.2.length) pgw.c]) m8 (fun cx=>(da (e:=48) (C:=pgX) (K:=kcI) (x:=nn) rfl (cx.ou 197) (cx.ou 198) (CtxV.mx cx (cx.init 11 _ rfl) rfl) (h0:=by kernel_rfl) (hx:=hkn) (hk:=show Program.underlying _ _= _ from by kernel_rfl)).trans (by rw[hmW];rfl)) ?_
  refine sql (vi ((aD S nn).1)) m8 (fun cx=>lU rfl (cx.ou 199) (fun _=>by kernel_rfl)) ?_
  refine sqp [.k 201 (.bool (((aD S nn).1) != 0)),.m 202 201] ?_
  refine d6 202 [203,204,205] ?_ rfl (fun hq=>?_) ?_
  rotate_left
  refine sqp [.k 203 (vp Bu)] ?_
  refine av 14 m8 ?_
  refine sqp [.k 205 (.bool ((((bp (aD S) r.eds) nn).1)==0))] ?_
  exact sqe
  refine c8 ?_
  refine sqp [sPa 206 (((aD S nn).1) != 0) ((((bp (aD S) r.eds) nn).1)==0)] ?_
  refine aa (wbs (fun vd=>?_) fun vd=>?_)
  have ve:=vd
  simp only[zB] at ve
  obtain⟨Qa,Qb⟩:=ve
  refine sqr (av 10 m8 ?_)
  refine sqp [.k 208 (vp sb),.k 209 (po sb 7)] ?_
  refine av 0 m8 ?_
  refine sqp [.m 211 29] ?_
  refine sqc (eMx kcI ecB Tryz.prog 3 tb4 ((mzP Sl.told nn Sl.nt)) (cf Sl.told nn (some false))) 8 m8 (by
    refine svA fun d b W X cx=>?_
    exact gA (e:=4) (v:=false) (.inl rfl) (cx.ou 210) (show d _=Kc.enc kcI nn from(cx.ou 211)) (show d _=Ec.enc ecB false from(cx.co _)) cx (cx.init 8 _ rfl) rfl (trivial) (by omega) (hkn) rfl rfl rfl (fun _ _ _ _ _=>id) (hk:=show Program.underlying _ _= _ from by kernel_rfl)) fun Sz MP=>?_
  refine aa (wq ?_)
  obtain⟨fp254_,hk254_⟩:=St.stf (S:=(ee Sl nn false)) (MP) (hrw4) (hrr4)
  obtain⟨Sx,hSx⟩:∃z,(ee Sl nn false)=z:=⟨_,rfl⟩
  have hxi:(if (aD S nn).1≠0/\((bp (aD S) r.eds) nn).1=0 then ee Sl nn false else Sl)=Sx:=by rw[<-hSx];exact if_pos (by have h_:=vd;simpa using h_)
  have hokx:SOk Sx (c+300+4*ii+1):=hSx ▸ hokl.told nn false
  have hxrec:Sx.recs=Sl.recs:=by cases hSx;rfl
  have hxrow:∀p∈Sl.rows,p∈Sx.rows:=fun p hp=>by rw[<-hSx];exact hp
  rw[show eSt sb db (ee Sl nn false)=eSt sb db Sx by rw[hSx]] at hk254_
  refine sqr (av 1 hk254_ ?_)
  refine sqp [.m 213 29] ?_
  refine bE 5 3 hk254_ ?_
  refine pi (fun x_=>tZ x_) (fun X_=>X_.fp) (fun er215_258=>vi er215_258) (fun er215_258 zH=>eSx sb db (fun S2=>dY Sx nn (⟨(((bp (aD S) r.eds) nn).1,(Sl.recs.length:Int),((bp (aD S) r.eds) nn).2.2),pg.A,pg.c⟩:PgR) S2 er215_258) zH) 0 hk254_ (by
    refine svA fun d b W X cx=>?_
    refine am.call (aq (args:=#[vp sb,vi nn,.agg #[vi (((bp (aD S) r.eds) nn).1),vi ((Sl.recs.length:Int)),.slice pg.A (((bp (aD S) r.eds) nn).2.2.length) pg.c]]) rfl cx.sees rfl (by kernel_rfl) (dN (cx.ou 212) (cx.ou 213) (cx.ou 214))) ?_
    refine(sw sb db Sx nn (⟨(((bp (aD S) r.eds) nn).1,(Sl.recs.length:Int),((bp (aD S) r.eds) nn).2.2),pg.A,pg.c⟩:PgR) (c+300+4*ii+1) _ _ (CtxV.holdF cx (cx.init 0 _ rfl) rfl) (CtxV.ltF cx (cx.init 0 _ rfl) rfl) hokx (by omega) hkn (hxrow _ (hrowl _ hgl))).mono ?_
    rintro e W1 ⟨er4,rfl,fp4,aU⟩
    refine⟨_,rfl,aN (E:=eSt sb db Sx fp254_) [eSx sb db (fun S2=>dY Sx nn (⟨(((bp (aD S) r.eds) nn).1,(Sl.recs.length:Int),((bp (aD S) r.eds) nn).2.2),pg.A,pg.c⟩:PgR) S2 er4) fp4] (cx.init 0 _ rfl) rfl rfl aU (fun o s X' hs hb hv hN=>?_)⟩
    have aK:=(hv 215 rfl).1;have aW:=(hv 215 rfl).2
    exact⟨aK.trans (by rw[aW];exact rfl),(by rw[aW];exact fN ((List.cons.inj hN).1))⟩) fun er215_258 zH SB MQ=>?_
  refine sqp [.m 31 215] ?_
  refine aa (wq ?_)
  obtain⟨S7,hP7,hy260_⟩:=MQ.unx
  have hpl:(⟨(((bp (aD S) r.eds) nn).1,(Sl.recs.length:Int),((bp (aD S) r.eds) nn).2.2),pg.A,pg.c⟩:PgR).p=gQ (dX S r) ((bp (aD S) r.eds) nn):=by show (_,_,_)=(_,_,_);rw[hlsl]
  have hri:=iI (fun n=>gk hok n) her9 nn
  have hok7:SOk S7 (c+300+4*(ii+1)):=(hokx.put (by rw[hpl];exact j5 hri (by have h1:=hokl.recs_len;omega)) hP7).mono (by omega)
  refine sqr (sqp [.m 216 31,.k 217 (.bool (er215_258 != 0))] ?_)
  refine aa (wbs (fun rN=>?_) fun rN=>?_)
  have MR:=bne_iff_ne.1 rN
  refine wq (sqr (sqp [.m 218 31,.k 4 (vi 0),.m 5 218] ?_))
  refine aa (wp_ret (bb (aj (aj (bb (aj ?_))))))
  refine bpr (.tuple #[vi 0,vi er215_258]) (aQ Tryz.results17 rpt rpt) ?_
  exact fH.of (by have h_:=DoQ.put (rt:=(⟨r,cH,cP⟩:RcT)) hda hin hevj ⟨_,hokj⟩ her9 hfit (by rw[<-hosF];exact hai) rfl he5 (by rw[hS5,<-hosF];exact hcon4 _ _ (by rw[hdr];exact PuA.bad hpl (by rw[hxi];exact hP7) (by simpa using rN)));rw[if_neg (by simpa using rN)] at h_;exact h_) (hok7.mono (by omega)) (hy260_.pick [0] (by decide) rfl)
  have MR:=bne_eq_false_iff_eq.1 rN
  refine wp_skip (aw (aa ?_))
  have hpu0:dY (if (aD S nn).1≠0/\((bp (aD S) r.eds) nn).1=0 then ee Sl nn false else Sl) nn (⟨(((bp (aD S) r.eds) nn).1,(Sl.recs.length:Int),((bp (aD S) r.eds) nn).2.2),pg.A,pg.c⟩:PgR) S7 0:=by rw[hxi];exact xF hP7 (by simpa using rN)
  refine sqr (sqp [sI 219 ((ii:Int)+1) (by omega),.m 184 219] ?_)
  refine aa ?_
  refine⟨m-((ii+1)),by omega,?_⟩
  exact⟨(ii+1),S7,zH,by omega,fun S9 er h=>hcon4 S9 er (by rw[hdr];exact PuA.cons hpl hpu0 h),hok7,by rw[hP7.rr.2.1,hxrec];exact hrecl,fun p hp=>hP7.rows p (hxrow p (hrowl p hp)),rfl,(by kernel_rfl),hy260_.pk [1,2,3,4,0]⟩
  have ve:=vd
  simp only[zB] at ve
  refine wp_skip (aa (wq ?_))
  obtain⟨fp269_,hk269_⟩:=St.stf (S:=Sl) (m8) (hrw4) (hrr4)
  obtain⟨Sx,hSx⟩:∃z,Sl=z:=⟨_,rfl⟩
  have hxi:(if (aD S nn).1≠0/\((bp (aD S) r.eds) nn).1=0 then ee Sl nn false else Sl)=Sx:=by rw[<-hSx];exact if_neg (by have h_:=vd;simpa using h_)
  have hokx:SOk Sx (c+300+4*ii+1):=hSx ▸ hokl.mono (by omega)
  have hxrec:Sx.recs=Sl.recs:=by cases hSx;rfl
  have hxrow:∀p∈Sl.rows,p∈Sx.rows:=fun p hp=>by rw[<-hSx];exact hp
  rw[show eSt sb db Sl=eSt sb db Sx by rw[hSx]] at hk269_
  refine sqr (av 1 hk269_ ?_)
  refine sqp [.m 213 29] ?_
  refine bE 5 3 hk269_ ?_
  refine pi (fun x_=>tZ x_) (fun X_=>X_.fp) (fun er215_273=>vi er215_273) (fun er215_273 zI=>eSx sb db (fun S2=>dY Sx nn (⟨(((bp (aD S) r.eds) nn).1,(Sl.recs.length:Int),((bp (aD S) r.eds) nn).2.2),pg.A,pg.c⟩:PgR) S2 er215_273) zI) 0 hk269_ (by
    refine svA fun d b W X cx=>?_
    refine am.call (aq (args:=#[vp sb,vi nn,.agg #[vi (((bp (aD S) r.eds) nn).1),vi ((Sl.recs.length:Int)),.slice pg.A (((bp (aD S) r.eds) nn).2.2.length) pg.c]]) rfl cx.sees rfl (by kernel_rfl) (dN (cx.ou 212) (cx.ou 213) (cx.ou 214))) ?_
    refine(sw sb db Sx nn (⟨(((bp (aD S) r.eds) nn).1,(Sl.recs.length:Int),((bp (aD S) r.eds) nn).2.2),pg.A,pg.c⟩:PgR) (c+300+4*ii+1) _ _ (CtxV.holdF cx (cx.init 0 _ rfl) rfl) (CtxV.ltF cx (cx.init 0 _ rfl) rfl) hokx (by omega) hkn (hxrow _ (hrowl _ hgl))).mono ?_
    rintro e W1 ⟨er4,rfl,fp4,aU⟩
    refine⟨_,rfl,aN (E:=eSt sb db Sx fp269_) [eSx sb db (fun S2=>dY Sx nn (⟨(((bp (aD S) r.eds) nn).1,(Sl.recs.length:Int),((bp (aD S) r.eds) nn).2.2),pg.A,pg.c⟩:PgR) S2 er4) fp4] (cx.init 0 _ rfl) rfl rfl aU (fun o s X' hs hb hv hN=>?_)⟩
    have aK:=(hv 215 rfl).1;have aW:=(hv 215 rfl).2
    exact⟨aK.trans (by rw[aW];exact rfl),(by rw[aW];exact fN ((List.cons.inj hN).1))⟩) fun er215_273 zI SC MS=>?_
  refine sqp [.m 31 215] ?_
  refine aa (wq ?_)
  obtain⟨S7,hP7,hy275_⟩:=MS.unx
  have hpl:(⟨(((bp (aD S) r.eds) nn).1,(Sl.recs.length:Int),((bp (aD S) r.eds) nn).2.2),pg.A,pg.c⟩:PgR).p=gQ (dX S r) ((bp (aD S) r.eds) nn):=by show (_,_,_)=(_,_,_);rw[hlsl]
  have hri:=iI (fun n=>gk hok n) her9 nn
  have hok7:SOk S7 (c+300+4*(ii+1)):=(hokx.put (by rw[hpl];exact j5 hri (by have h1:=hokl.recs_len;omega)) hP7).mono (by omega)
  refine sqr (sqp [.m 216 31,.k 217 (.bool (er215_273 != 0))] ?_)
  refine aa (wbs (fun rP=>?_) fun rP=>?_)
  have MT:=bne_iff_ne.1 rP
  refine wq (sqr (sqp [.m 218 31,.k 4 (vi 0),.m 5 218] ?_))
  refine aa (wp_ret (bb (aj (aj (bb (aj ?_))))))
  refine bpr (.tuple #[vi 0,vi er215_273]) (aQ Tryz.results17 rpt rpt) ?_
  exact fH.of (by have h_:=DoQ.put (rt:=(⟨r,cH,cP⟩:RcT)) hda hin hevj ⟨_,hokj⟩ her9 hfit (by rw[<-hosF];exact hai) rfl he5 (by rw[hS5,<-hosF];exact hcon4 _ _ (by rw[hdr];exact PuA.bad hpl (by rw[hxi];exact hP7) (by simpa using rP)));rw[if_neg (by simpa using rP)] at h_;exact h_) (hok7.mono (by omega)) (hy275_.pick [0] (by decide) rfl)
  have MT:=bne_eq_false_iff_eq.1 rP
  refine wp_skip (aw (aa ?_))
  have hpu0:dY (if (aD S nn).1≠0/\((bp (aD S) r.eds) nn).1=0 then ee Sl nn false else Sl) nn (⟨(((bp (aD S) r.eds) nn).1,(Sl.recs.length:Int),((bp (aD S) r.eds) nn).2.2),pg.A,pg.c⟩:PgR) S7 0:=by rw[hxi];exact xF hP7 (by simpa using rP)
  refine sqr (sqp [sI 219 ((ii:Int)+1) (by omega),.m 184 219] ?_)
  refine aa ?_
  refine⟨m-((ii+1)),by omega,?_⟩
  exact⟨(ii+1),S7,zI,by omega,fun S9 er h=>hcon4 S9 er (by rw[hdr];exact PuA.cons hpl hpu0 h),hok7,by rw[hP7.rr.2.1,hxrec];exact hrecl,fun p hp=>hP7.rows p (hxrow p (hrowl p hp)),rfl,(by kernel_rfl),hy275_.pk [1,2,3,4,0]⟩
 refine wp_exit (au (au (bh (aa (wq ?_)))))
 obtain⟨⟨hrw5,hrr5⟩,mb5,RA5,rc5,EA5,ec5,ib5,tb5,fpd5,hv284_⟩:=q6.u4.unf
 refine sqr (av 10 hv284_ ?_)
 refine sqp [.k 221 (vp sb),.k 222 (po sb 4)] ?_
 refine av 0 hv284_ ?_
 refine sqp [.k 224 (vi ((Sl.recs.length:Int))),.m 4 224,.k 5 (vi 0)] ?_
 refine aa (wp_ret ?_)
 refine bpr (.tuple #[vi ((Sl.recs.length:Int)),vi 0]) (aQ Tryz.results17 rpt rpt) ?_
 obtain⟨fp292_,hk292_⟩:=St.stf (S:=Sl) (hv284_) (hrw5) (hrr5)
 exact fH.of (by have h_:=DoQ.put (rt:=(⟨r,cH,cP⟩:RcT)) hda hin hevj ⟨_,hokj⟩ her9 hfit (by rw[<-hosF];exact hai) rfl he5 (by rw[hS5,<-hosF];exact hcon4 _ _ (by rw[List.drop_of_length_le (by omega)];exact PuA.nil _));rw[if_pos rfl,<-hlsn,<-hrecl] at h_;exact h_) (hokl.mono (by omega)) (hk292_.pick [0] (by decide) rfl)
end
section
open Go.RowKit Go.Maps Go.ChangeMaps
def kq(x:Int×Nat):Ent:=eB x.2 3 #[.int .i64 x.1]
theorem Lu(h:(eA (l.map kq)).holds W)(hx:x∈l):Blk W x.2 3 #[.int .i64 x.1]:=(h.1 (kq x) (List.mem_map.2 ⟨x,hx,rfl⟩)).1
theorem St.addN{L:List Ent}(h:St w0 bor (L++[eA (l.map kq),kq x]) W):St w0 bor (L++[eA ((x::l).map kq)]) W:=by
 rw[List.map_cons]
 exact St.inA (A:=[]) h
theorem St.anf{L:List Ent}(h:St w0 bor (eA (List.map kq l)::kq x::L) W):St w0 bor (eA (List.map kq (x::l))::L) W:=St.fr (R:=[_,_]) h St.addN
def clV(q:Nat)(x:Int×Nat):Value:= .func (.func 71) #[] #[.pointer (some ⟨q,0,none⟩),.pointer (some ⟨x.2,0,none⟩)]
inductive ClA:StM->List Int->StM->Int->Prop where
 |nil (S:StM):ClA S [] S 0
 |bad {S:StM}{t:BfT}{l:List Int}(ht:t∈S.pool) (he:(aM S t).2≠0):ClA S (t.n::l) (aM S t).1 (aM S t).2
 |cons {S S2:StM}{t:BfT}{l:List Int}{er:Int}(ht:t∈S.pool) (he:(aM S t).2=0) (hr:ClA (aM S t).1 l S2 er):ClA S (t.n::l) S2 er
def c9(S:StM)(D:DkM):StM:={S with D:=D}
def ckE(S:StM):StM:={S with frm:=(S.recs.length:Int),ni:=0,im:=fun _=>none}
inductive CkQ (S:StM) (note:ByteArray):StM->Int->Prop where
 |arg (h:60000<note.size):CkQ S note S 1
 |full {q:List RcT}(h:note.size<=60000) (hf:1048576<S.D.log.size+(aC (aJ note)).size):CkQ S note {S with rr:=q} 31
 |cl {q:List RcT}{ns:List Int}{S1:StM}{er:Int}(h:note.size<=60000) (hf:S.D.log.size+(aC (aJ note)).size<=1048576) (hns:∀n,n∈ns<->∃t∈S.pool,t.n=n) (hc:ClA {S with rr:=q} ns S1 er) (he:er≠0):CkQ S note S1 er
 |sync {q:List RcT}{ns:List Int}{S1:StM}(h:note.size<=60000) (hf:S.D.log.size+(aC (aJ note)).size<=1048576) (hns:∀n,n∈ns<->∃t∈S.pool,t.n=n) (hc:ClA {S with rr:=q} ns S1 0) (he:(opD S1.D 0 syD).2≠0):CkQ S note (c9 S1 (opD S1.D 0 syD).1) (opD S1.D 0 syD).2
 |app {q:List RcT}{ns:List Int}{S1:StM}(h:note.size<=60000) (hf:S.D.log.size+(aC (aJ note)).size<=1048576) (hns:∀n,n∈ns<->∃t∈S.pool,t.n=n) (hc:ClA {S with rr:=q} ns S1 0) (h1:(opD S1.D 0 syD).2=0)
   (he:(bt (c9 S1 (opD S1.D 0 syD).1) (rcI (aJ note))).2≠0):CkQ S note (bt (c9 S1 (opD S1.D 0 syD).1) (rcI (aJ note))).1 (bt (c9 S1 (opD S1.D 0 syD).1) (rcI (aJ note))).2
 |flush {q:List RcT}{ns:List Int}{S1 S2:StM}(h:note.size<=60000) (hf:S.D.log.size+(aC (aJ note)).size<=1048576) (hns:∀n,n∈ns<->∃t∈S.pool,t.n=n) (hc:ClA {S with rr:=q} ns S1 0) (h1:(opD S1.D 0 syD).2=0)
   (h2:bt (c9 S1 (opD S1.D 0 syD).1) (rcI (aJ note))=(S2,0)) (he:(opD S2.D 0 flD).2≠0):CkQ S note (c9 S2 (opD S2.D 0 flD).1) (opD S2.D 0 flD).2
 |ok {q:List RcT}{ns:List Int}{S1 S2:StM}(h:note.size<=60000) (hf:S.D.log.size+(aC (aJ note)).size<=1048576) (hns:∀n,n∈ns<->∃t∈S.pool,t.n=n) (hc:ClA {S with rr:=q} ns S1 0) (h1:(opD S1.D 0 syD).2=0)
   (h2:bt (c9 S1 (opD S1.D 0 syD).1) (rcI (aJ note))=(S2,0)) (he:(opD S2.D 0 flD).2=0):CkQ S note (ckE (c9 S2 (opD S2.D 0 flD).1)) 0
theorem An(q2 q5 sb db:Nat)(S:StM)(rt:RcT)(c:Nat)(fp:List Nat)(w:World)(hB:(eSt sb db S fp).holds w)(hlt:∀k∈fp,k<w.heap.size)(h2:Blk w q2 31 #[po sb 0])(n2:q2∉fp)(n5:q5∉fp)(h5:Blk w q5 27 #[.int .i64 rt.r.kind,.int .i64 rt.r.xid,.int .i64 rt.r.tbl,sn,sn,.slice rt.A rt.r.eds.length rt.c,sn,.string rt.r.note])(hok:SOk S c)(hr:bv rt.r=true)(hrt:rt∈S.rr):
  Calls Tryz.prog 70 #[po q2 0,po q5 0] w (ea sb db (bt S rt) fp w):=by
 have st1:St w fp [eSt sb db S fp] w:=St.lend hB (dx _ _ _ _) hlt
 go_enter Tryz.func70,Tryz.ntmps70
 have al:=st1
 refine wq (sqr (sqp [.k 2 (vi 0)] ?_))
 refine aa (wq (sqr ?_))
 refine sql (vp sb) al (fun cx=>ae rfl (by kernel_rfl) (cx.ou 0) (Blk.cell (h2.upd cx.upd n2) 0)) ?_
 refine sql (.agg #[vi rt.r.kind,vi rt.r.xid,vi rt.r.tbl,sn,sn,.slice rt.A rt.r.eds.length rt.c,sn,.string rt.r.note]) al (fun cx=>cg (n:=8) rfl (by kernel_rfl) (by kernel_rfl) (cx.ou 1) (h5.upd cx.upd n5) (nle rfl) rfl) ?_
 refine bN (fun X_=>X_.fp) (vi ((bt S rt).2)) (fun zJ=>eSt sb db ((bt S rt).1) zJ) 0 al (by
   refine svA fun b f W X cx=>?_
   refine am.call (aq (args:=#[vp sb,.agg #[vi rt.r.kind,vi rt.r.xid,vi rt.r.tbl,sn,sn,.slice rt.A rt.r.eds.length rt.c,sn,.string rt.r.note]]) rfl cx.sees rfl (by kernel_rfl) (aP (cx.ou 3) (cx.ou 4))) ?_
   refine(nV sb db S rt c _ _ (CtxV.holdF cx (cx.init 0 _ rfl) rfl) (CtxV.ltF cx (cx.init 0 _ rfl) rfl) hok hr hrt).mono ?_
   rintro e W1 ⟨rfl,fp4,aU⟩
   refine⟨_,rfl,aN (E:=eSt sb db S fp) [eSt sb db (bt S rt).1 fp4] (cx.init 0 _ rfl) rfl rfl aU (fun a d X' hs hb hv hN=>?_)⟩
   have aK:=(hv 5 rfl).1;have aW:=(hv 5 rfl).2
   exact⟨aK.trans rfl,gW ((List.cons.inj hN).1)⟩) fun zJ W4 be=>?_
 refine sqp [.m 2 5] ?_
 refine aa (wp_ret ?_)
 refine bpr (vi ((bt S rt).2)) (ai Tryz.results70 rpt) ?_
 exact ea.of (R':=(bt S rt)) rfl (be.pick [0] (by decide) rfl)
theorem Ao(q2 q7 sb db:Nat)(S:StM)(A B:List BfT)(t:BfT)(c:Nat)(fp:List Nat)(w:World)(hB:(eSt sb db S fp).holds w)(hlt:∀k∈fp,k<w.heap.size)(h2:Blk w q2 31 #[po sb 0])(n2:q2∉fp)(n7:q7∉fp)(h7:Blk w q7 3 #[.int .i64 t.n])(hok:SOk S c)(hc:c<=900000000)(hAB:S.pool=A++t::B):
  Calls Tryz.prog 71 #[po q2 0,po q7 0] w (ea sb db (aM S t) fp w):=by
 have st1:St w fp [eSt sb db S fp] w:=St.lend hB (dx _ _ _ _) hlt
 go_enter Tryz.func71,Tryz.ntmps71
 have al:=st1
 refine wq (sqr (sqp [.k 2 (vi 0)] ?_))
 refine aa (wq (sqr ?_))
 refine sql (vp sb) al (fun cx=>ae rfl (by kernel_rfl) (cx.ou 0) (Blk.cell (h2.upd cx.upd n2) 0)) ?_
 refine sql (vi t.n) al (fun cx=>ae rfl (by kernel_rfl) (cx.ou 1) (Blk.cell (h7.upd cx.upd n7) 0)) ?_
 refine bN (fun X_=>X_.fp) (vi ((aM S t).2)) (fun zJ=>eSt sb db ((aM S t).1) zJ) 0 al (by
   refine svA fun b f W X cx=>?_
   refine am.call (aq (args:=#[vp sb,vi t.n]) rfl cx.sees rfl (by kernel_rfl) (aP (cx.ou 3) (cx.ou 4))) ?_
   refine(ud sb db S A B t c _ _ (CtxV.holdF cx (cx.init 0 _ rfl) rfl) (CtxV.ltF cx (cx.init 0 _ rfl) rfl) hok hc hAB).mono ?_
   rintro e W1 ⟨rfl,fp4,aU⟩
   refine⟨_,rfl,aN (E:=eSt sb db S fp) [eSt sb db (aM S t).1 fp4] (cx.init 0 _ rfl) rfl rfl aU (fun a d X' hs hb hv hN=>?_)⟩
   have aK:=(hv 5 rfl).1;have aW:=(hv 5 rfl).2
   exact⟨aK.trans rfl,gW ((List.cons.inj hN).1)⟩) fun zJ W4 be=>?_
 refine sqp [.m 2 5] ?_
 refine aa (wp_ret ?_)
 refine bpr (vi ((aM S t).2)) (ai Tryz.results71 rpt) ?_
 exact ea.of (R':=(aM S t)) rfl (be.pick [0] (by decide) rfl)
end
section
open Go.RowKit Go.Maps Go.ChangeMaps
theorem CtxV.apF{ops:Array Oper}{L:List Nat}{a0:Act}{X0:List Ent}{us:List (List Nat)}{D:Nat->(Tmp->Value)->(Tmp->Value)->(Nat->Ent)->Prop}{a:Operand->Value}{b:Tmp->Value}{X:Nat->Ent}{q q':Nat}{E F:Ent}(cx:CtxV ops L a0 w0 bor X0 us D i a b W X)(hX:X q=E)(hX':X q'=F)(hk:k∈E.fp)(hu:(atV us i).contains q=true)(hu':(atV us i).contains q'=true)(hne:q≠q'):k∉F.fp:=by
 subst hX hX'
 exact cx.ap q q' hu hu' hne k hk
theorem xi(b:Nat)(t:TypeId)(c:Array Value):b∈(eB b t c).fp:=List.mem_singleton.2 rfl
theorem NM(h:x∈l):x.2∈(eA (l.map kq)).fp:=List.mem_flatMap.2 ⟨kq x,List.mem_map.2 ⟨x,h,rfl⟩,xi _ _ _⟩
def ckT(q2 q5 db:Nat):List Value:=[.func (.func 69) #[.pointer (some ⟨db,0,none⟩)] #[],.func (.func 70) #[] #[.pointer (some ⟨q2,0,none⟩),.pointer (some ⟨q5,0,none⟩)],.func (.func 63) #[.pointer (some ⟨db,0,none⟩)] #[]]
def lO(q2 q5 db:Nat)(bs:List (Int×Nat)):List Value:=bs.map (clV q2)++ckT q2 q5 db
theorem om(q2 q5 db:Nat)(bs:List (Int×Nat)):(lO q2 q5 db bs).length=bs.length+3:=by simp[lO,ckT]
theorem J4(q2 q5 db:Nat)(bs:List (Int×Nat)):∀u∈lO q2 q5 db bs,u.oneCell'=true:=fun u hu=>by
 rcases List.mem_append.1 hu with h|h
 obtain⟨x,_,rfl⟩:=List.mem_map.1 h;rfl
 simp only[ckT,List.mem_cons,List.not_mem_nil,or_false] at h
 rcases h with rfl|rfl|rfl<;>rfl
theorem K5{q2 q5:Nat}(h:bs[i]? =some x):(lO q2 q5 db bs)[i]? =some (clV q2 x):=by
 obtain⟨hi,rfl⟩:=List.getElem?_eq_some_iff.1 h
 rw[lO,List.getElem?_append_left (by simpa using hi),List.getElem?_map,List.getElem?_eq_getElem hi];rfl
theorem Co{q2 q5:Nat}(h:i=bs.length+j):(lO q2 q5 db bs)[i]? =(ckT q2 q5 db)[j]? :=by
 subst h
 rw[lO,List.getElem?_append_right (by simp)];simp
theorem Kz{l A B:List BfT}{t:BfT}{n:Int}(hd:(l.map BfT.n).Nodup)(h:l=A++t::B)(hn:t.n=n):atM l n=some (some t.blk):=by
 subst h hn;exact lw hd
theorem JO{l:List BfT}{n:Nat}(h:∀x,x∈bs.map Prod.fst<->(∃t∈l,t.n=x)/\x<(n:Int)){t:BfT}(ht:t∈l)(hn:t.n=(n:Int))(b:Nat):∀x,x∈(((n:Int),b)::bs).map Prod.fst<->(∃t∈l,t.n=x)/\x<((n+1:Nat):Int):=fun x=>by
 rw[List.map_cons,List.mem_cons,h x]
 constructor
 rintro(rfl|⟨h1,h2⟩)
 exact⟨⟨t,ht,hn⟩,by omega⟩
 exact⟨h1,by omega⟩
 rintro⟨h1,h2⟩
 by_cases e:x=(n:Int)
 exact .inl e
 exact .inr ⟨h1,by omega⟩
theorem Kd{l:List BfT}{n:Nat}(h:∀x,x∈bs.map Prod.fst<->(∃t∈l,t.n=x)/\x<(n:Int))(hno:∀t∈l,t.n≠(n:Int)):∀x,x∈bs.map Prod.fst<->(∃t∈l,t.n=x)/\x<((n+1:Nat):Int):=fun x=>by
 rw[h x]
 constructor
 rintro⟨h1,h2⟩;exact⟨h1,by omega⟩
 rintro⟨⟨t,h1,h3⟩,h2⟩
 refine⟨⟨t,h1,h3⟩,?_⟩
 have:=hno t h1
 omega
def CkI(S0:StM)(ns:List Int)(note:ByteArray)(i:Nat)(Si:StM):Prop:=
 (i<=ns.length/\∀S2 er,ClA Si (ns.drop i) S2 er->ClA S0 ns S2 er)\/
 (i=ns.length+1/\∃S1,ClA S0 ns S1 0/\(opD S1.D 0 syD).2=0/\Si=c9 S1 (opD S1.D 0 syD).1)\/
 (i=ns.length+2/\∃S1,ClA S0 ns S1 0/\(opD S1.D 0 syD).2=0/\bt (c9 S1 (opD S1.D 0 syD).1) (rcI (aJ note))=(Si,0))\/
 (i=ns.length+3/\∃S1 S2,ClA S0 ns S1 0/\(opD S1.D 0 syD).2=0/\bt (c9 S1 (opD S1.D 0 syD).1) (rcI (aJ note))=(S2,0)/\(opD S2.D 0 flD).2=0/\Si=c9 S2 (opD S2.D 0 flD).1)
theorem CkI.ways{S0 Si:StM}{ns:List Int}(h:CkI S0 ns note i Si):
  (i<ns.length/\∀S2 er,ClA Si (ns.drop i) S2 er->ClA S0 ns S2 er)\/(i=ns.length+0/\ClA S0 ns Si 0)\/
  (i=ns.length+1/\∃S1,ClA S0 ns S1 0/\(opD S1.D 0 syD).2=0/\Si=c9 S1 (opD S1.D 0 syD).1)\/
  (i=ns.length+2/\∃S1,ClA S0 ns S1 0/\(opD S1.D 0 syD).2=0/\bt (c9 S1 (opD S1.D 0 syD).1) (rcI (aJ note))=(Si,0))\/
  (i=ns.length+3/\∃S1 S2,ClA S0 ns S1 0/\(opD S1.D 0 syD).2=0/\bt (c9 S1 (opD S1.D 0 syD).1) (rcI (aJ note))=(S2,0)/\(opD S2.D 0 flD).2=0/\Si=c9 S2 (opD S2.D 0 flD).1):=by
 rcases h with ⟨h1,h2⟩|h|h|h
 rcases Nat.lt_or_ge i ns.length with h3|h3
 exact .inl ⟨h3,h2⟩
 exact .inr (.inl ⟨by omega,h2 _ _ (by rw[List.drop_of_length_le h3];exact .nil _)⟩)
 exact .inr (.inr (.inl h))
 exact .inr (.inr (.inr (.inl h)))
 exact .inr (.inr (.inr (.inr h)))
theorem tQ(S:StM)(t:BfT):(aM S t).1.pool.map BfT.n=S.pool.map BfT.n/\(aM S t).1.rr=S.rr/\(aM S t).1.recs=S.recs:=by
 have hs:∀(l:List BfT) (n:Int),(de l n clB).map BfT.n=l.map BfT.n:=fun l n=>by
  rw[de,List.map_map]
  refine List.map_congr_left fun u _=>?_
  show (if u.n=n then clB u else u).n=u.n
  split<;>rfl
 unfold aM
 split
 unfold bK
 split
 exact⟨rfl,rfl,rfl⟩
 refine⟨?_,rfl,rfl⟩
 show (if _ then de S.pool t.n clB else S.pool).map BfT.n= _
 split
 exact hs _ _
 rfl
 exact⟨rfl,rfl,rfl⟩
theorem SOk.sync(h:SOk S c):SOk (c9 S (opD S.D 0 syD).1) (c+0):=by
 have hsh:∀n,shP (opD S.D 0 syD).1 n=shP S.D n:=fun n=>c6 (P:=fun D'=>shP D' n=shP S.D n) rfl rfl fun _=>by
  show rdP (rdT ((S.D.pgs.map syS).getD n.toNat gB)).1= _
  have e:(S.D.pgs.map syS).getD n.toNat gB=syS (S.D.pgs.getD n.toNat gB):=by
   rw[List.getD,List.getD,List.getElem?_map]
   cases S.D.pgs[n.toNat]? <;>rfl
  rw[e];rfl
 have hws:∀x∈(opD S.D 0 syD).1.pgs,x.ws.length<=c:=c6 (P:=fun D'=>∀x∈D'.pgs,x.ws.length<=c) h.ws h.ws fun _ x hx=>by
  obtain⟨y,_,rfl⟩:=List.mem_map.1 hx
  exact Nat.zero_le _
 have hl:(opD S.D 0 syD).1.pgs.length=S.D.pgs.length:=c6 (P:=fun D'=>D'.pgs.length=S.D.pgs.length) rfl rfl fun _=>List.length_map ..
 have hlog:(opD S.D 0 syD).1.log=S.D.log:=c6 (P:=fun D'=>D'.log=S.D.log) rfl rfl fun _=>rfl
 have hfl:(opD S.D 0 syD).1.fl=S.D.fl:=c6 (P:=fun D'=>D'.fl=S.D.fl) rfl rfl fun _=>rfl
 exact⟨h.bufs,by show (opD S.D 0 syD).1.pgs.length<=400;rw[hl];exact h.pgs,hws,h.time,h.ni,h.nt,h.right,h.nodup,h.len,fun t ht=>by show 0<=t.n/\t.n<((opD S.D 0 syD).1.pgs.length:Int);rw[hl];exact h.keys t ht,h.recs,by show (opD S.D 0 syD).1.log= _;rw[hlog];exact h.log,by show (opD S.D 0 syD).1.log.size<= _;rw[hlog];exact h.lsz,by show (opD S.D 0 syD).1.fl<=(opD S.D 0 syD).1.log.size;rw[hlog,hfl];exact h.fl,fun t ht hd=>by show _=shP (opD S.D 0 syD).1 t.n;rw[hsh];exact h.cl t ht hd⟩
theorem SOk.ckE(h:SOk S c):SOk (ckE S) c:=⟨h.bufs,h.pgs,h.ws,h.time,Nat.zero_le _,h.nt,h.right,h.nodup,h.len,h.keys,h.recs,h.log,h.lsz,h.fl,h.cl⟩
theorem SOk.flush(h:SOk S c):SOk (c9 S (opD S.D 0 flD).1) c:=by
 have hp:(opD S.D 0 flD).1.pgs=S.D.pgs:=c6 (P:=fun D'=>D'.pgs=S.D.pgs) rfl rfl fun _=>rfl
 have hlog:(opD S.D 0 flD).1.log=S.D.log:=c6 (P:=fun D'=>D'.log=S.D.log) rfl rfl fun _=>rfl
 have hfl:(opD S.D 0 flD).1.fl<=S.D.log.size:=c6 (P:=fun D'=>D'.fl<=S.D.log.size) h.fl h.fl fun _=>Nat.le_refl _
 exact⟨h.bufs,by show (opD S.D 0 flD).1.pgs.length<=400;rw[hp];exact h.pgs,by show ∀x∈(opD S.D 0 flD).1.pgs,_;rw[hp];exact h.ws,h.time,h.ni,h.nt,h.right,h.nodup,h.len,fun t ht=>by show 0<=t.n/\t.n<((opD S.D 0 flD).1.pgs.length:Int);rw[hp];exact h.keys t ht,h.recs,by show (opD S.D 0 flD).1.log= _;rw[hlog];exact h.log,by show (opD S.D 0 flD).1.log.size<= _;rw[hlog];exact h.lsz,by show (opD S.D 0 flD).1.fl<=(opD S.D 0 flD).1.log.size;rw[hlog];exact hfl,fun t ht hd=>by show _=shP (opD S.D 0 flD).1 t.n;rw[gL hp];exact h.cl t ht hd⟩
theorem Gl{l l':List BfT}(h:l.map BfT.n=l'.map BfT.n){n:Int}(hn:∃t∈l',t.n=n):∃t∈l,t.n=n:=by
 obtain⟨t,ht,e⟩:=hn
 have h1:n∈l.map BfT.n:=by rw[h];exact List.mem_map.2 ⟨t,ht,e⟩
 exact List.mem_map.1 h1
theorem DB{rt:RcT}(h:(bt S rt).2=0)(h2:(bt S rt).1=S2):bt S rt=(S2,0):=Prod.ext h2 h
def jp(sb db:Nat)(S:StM)(note:ByteArray)(c:Nat)(fp:List Nat)(w:World)(e:Ending)(w':World):Prop:=∃er,e= .returned (.int .i64 er)/\∃fp',St w fp [eSx sb db (fun S2=>CkQ S note S2 er/\SOk S2 (c+500)) fp'] w'
theorem jp.of{w:World}(h:CkQ S note S2 er)(ho:SOk S2 (c+500))(hs:St w fp ([]++[eSt sb db S2 fp']) w'):jp sb db S note c fp w (.returned (.int .i64 er)) w':=⟨er,rfl,fp',St.sx (L:=[]) hs ⟨h,ho⟩⟩
end
section
open Go.RowKit Go.Maps Go.ChangeMaps
theorem Tryz.infoFnJ:(Tryz.prog.info? 52).map (fun i=>(i.zero,i.size,i.bytes))=some (some Value.nilFunc,1,8):=by kernel_rfl
theorem Bz(sb db:Nat)(S:StM)(note:ByteArray)(c:Nat)(fp:List Nat)(w:World)(hB:(eSt sb db S fp).holds w)(hlt:∀k∈fp,k<w.heap.size)(hok:SOk S c)(hc:c<=800000)(hns:note.size<=9000000):
  Calls Tryz.prog 28 #[po sb 0,.string note] w (jp sb db S note c fp w):=by
 have st1:St w fp [eSt sb db S fp] w:=St.lend hB (dx _ _ _ _) hlt
 have hpg:=hok.pgs
 go_enter Tryz.func28,Tryz.ntmps28
 have al:=st1
 refine wq (sqr ?_)
 refine ce #[vp sb] al fun bF W1 aA=>?_
 refine sqp [.k 4 (vi 0)] ?_
 refine aa (wq (wq (sqr (av 1 aA ?_))))
 refine sqv (.bool false) aA (by
   exact sv0 rfl rfl rfl rfl rfl (fun _ _ _ h=>h) fun b g W X cx=>by
    have Ig:b (.tmp 11)=vp sb:=(cx.ou 11)
    simp[go_sem,cx.sees.const,Ig]) fun W4 be=>?_
 refine sqp [.k 13 (.bool false)] ?_
 refine dE 13 [14,15,16] rfl rfl ?_
 refine sqp [.m 14 1,.k 15 (vi ((note.size:Int))),.k 16 (.bool (decide (60000<(note.size:Int))))] ?_
 refine sqp [.k 17 (.bool (decide (60000<(note.size:Int))))] ?_
 refine aa (wds (fun kI pG=>?_) fun kI pG=>?_)
 refine wq (sqr (sqp [.k 4 (vi 1)] ?_))
 refine aa (wp_ret (aj ?_))
 refine bpr (vi 1) (ai Tryz.results28 rpt) ?_
 exact jp.of (.arg (by have h_:=kI;simp at h_;omega)) (hok.mono (by omega)) (be.pick [0] (by decide) rfl)
 refine wp_skip (aa (wq ?_))
 have hn6:note.size<=60000:=by have h_:=kI;simp at h_;omega
 have hfs:=eR (cR hn6)
 have hn12:=fh be 84 3
 simp only[List.cons_append,List.nil_append] at hn12
 obtain⟨S0,fp13_,hS0,hg13_⟩:=St.rRn (r:=(rcI (aJ note))) hn12.u2
 have hok0:SOk S0 c:=hS0 ▸ hok.rr _
 have hrt0:(rcI (aJ note))∈S0.rr:=by rw[<-hS0];exact List.mem_append_right _ (List.mem_singleton.2 rfl)
 have hD0:S0.D=S.D:=by rw[<-hS0]
 have hP0:S0.pool=S.pool:=by rw[<-hS0]
 have hlz:=hok0.lsz
 have hpg0:=hok0.pgs
 refine sqr (sqp [.m 18 1,.k 19 (.agg #[vi 9,vi 0,vi 0,sn,sn,sn,sn,.string note])] ?_)
 refine bY #[vi 0,vi 0,vi 0,sn,sn,sn,sn,.string ByteArray.empty] hg13_ fun ia pU dl=>?_
 refine aV (n:=8) 2 #[vi 9,vi 0,vi 0,sn,sn,sn,sn,.string note] dl fun uC dS=>?_
 refine aa (wq (wq ?_))
 obtain⟨⟨hrw1,hrr1⟩,mb1,RA1,rc1,EA1,ec1,ib1,tb1,fpd1,hv18_⟩:=dS.unf
 refine bG [0,1,3,7,15,31,0,95,223,511,1023] [[10],[],[],[0],[9],[],[11]] [.c 20 (vp sb),.k 21 (vp sb),.k 22 (vp sb),.c 23 (vp db),.c 24 (.string S0.D.log),.k 25 (vi ((S0.D.log.size:Int))),.c 26 (.agg #[vi 9,vi 0,vi 0,sn,sn,sn,sn,.string note]),.c 27 (.string (aC (aJ note))),.k 28 (vi (((aC (aJ note)).size:Int))),tI 29 ((S0.D.log.size:Int)+((aC (aJ note)).size:Int)) (by omega),.k 30 (.bool (decide (1048576<(S0.D.log.size:Int)+((aC (aJ note)).size:Int))))] [0,1,2,3,4,5,6,7,8,9,10,11] [0,3,4,6,7] [(20,0,11,31)] hv18_ ?_ fun qI cU=>?_
 refine⟨?_,?_,?_,?_,?_,trivial⟩
 exact xs4 rfl id fun cx=>ae rfl (by kernel_rfl) (cx.ou 2) ((cx.bi 10 rfl).cell 0)
 exact xs4 rfl id fun cx=>ae rfl (by kernel_rfl) (cx.an 2) ((cx.bi 0 rfl).cell 0)
 exact xsc rfl id rfl rfl fun cx=>⟨_,kz db S0.D _ (fb (CtxV.holdF cx (cx.init 9 _ rfl) rfl)),(ax (cx.an 3))⟩
 exact xs4 rfl id fun cx=>cg (n:=8) rfl (by kernel_rfl) (by kernel_rfl) (cx.ou 5) (cx.bi 11 rfl) (nle rfl) rfl
 exact xsc rfl id rfl rfl fun cx=>⟨_,j9 9 0 0 none 0 [] note _ (fun j u h=>by cases j<;>cases h) (by decide) (fun e he=>by cases he) (by omega),(ax (cx.an 6))⟩
 refine aa (wds (fun Ir Ol=>?_) fun Ir Ol=>?_)
 refine wq (sqr (sqp [.k 4 (vi 31)] ?_))
 refine aa (wp_ret (aj ?_))
 refine bpr (vi 31) (ai Tryz.results28 rpt) ?_
 obtain⟨fp22_,hk22_⟩:=St.stf (S:=S0) (cU) (hrw1) (hrr1)
 exact jp.of (by have h_:=CkQ.full (S:=S) (note:=note) (q:=S.rr++[(rcI (aJ note))]) hn6 (by rw[<-hD0];have h_:=Ir;simp at h_;omega);rw[hS0] at h_;exact h_) (hok0.mono (by omega)) (hk22_.pick [0] (by decide) rfl)
 refine wp_skip (aa (wq ?_))
 have hfit:S.D.log.size+(aC (aJ note)).size<=1048576:=by rw[<-hD0];have h_:=Ir;simp at h_;omega
 refine aH [0,1,3,7,15,0,0,64,192,448,960,2047,4095] [[10],[],[],[0],[],[],[10],[],[],[0]] [[],[],[],[],[],[],[],[],[],[],[],[12]] [] [.c 31 (vp sb),.k 32 (vp sb),.k 33 (vp sb),.c 34 (vp db),.c 35 (.func (.func 69) #[vp db] #[]),.c 36 (.func (.func 70) #[] #[vp bF,vp ia]),.c 37 (vp sb),.k 38 (vp sb),.k 39 (vp sb),.c 40 (vp db),.c 41 (.func (.func 63) #[vp db] #[]),.a 42,.a 6] (fun ix o g X=>match ix with|0|1|2|3|4|5|6|7|8|9|10=>True|11=>o 42= .slice (sA (g 42)) 3 3/\X 12=eO 52 1 (.slice (sA (g 42)) 3 3) 3 ([.func (.func 69) #[vp db] #[],.func (.func 70) #[] #[vp bF,vp ia],.func (.func 63) #[vp db] #[]])|12=>o 6= .slice (sA (g 42)) 3 3|_=>True) [0,1,2,3,4,5,6,7,8,9,10,11,12] [0,3,4,5,6,9,10,11,12] [(6,12,1,7),(24,0,12,36)] cU ?_ ?_ ?_
 exact fun ix _ _ _ _ _ _ hs hb hx h=>match ix,h with
 |11,h=>by dsimp only;rw[<-hs 42 rfl,<-hb 42 rfl,<-hx 12 rfl];exact h
 |12,h=>by dsimp only;rw[<-hs 6 rfl,<-hb 42 rfl];exact h
 |0,_|1,_|2,_|3,_|4,_|5,_|6,_|7,_|8,_|9,_|10,_|_+13,_=>trivial
 refine⟨?_,?_,?_,?_,?_,?_,?_,?_,?_,trivial⟩
 exact xs4 rfl id fun cx=>ae rfl (by kernel_rfl) (cx.ou 2) ((cx.bi 10 rfl).cell 0)
 exact xs4 rfl id fun cx=>ae rfl (by kernel_rfl) (cx.an 2) ((cx.bi 0 rfl).cell 0)
 exact sv0 rfl rfl rfl rfl rfl (fun _ _ _ h=>h) fun b g W X cx=>by
  have PQ:b (.tmp 34)=vp db:=(cx.an 3)
  simp[go_sem,Instr.makeFunc,PQ]
 exact sv0 rfl rfl rfl rfl rfl (fun _ _ _ h=>h) fun b g W X cx=>by
  have oF:b (.tmp 2)=vp bF:=(cx.ou 2)
  have qO:b (.tmp 5)=vp ia:=(cx.ou 5)
  simp[go_sem,Instr.makeFunc,oF,qO]
 exact xs4 rfl id fun cx=>ae rfl (by kernel_rfl) (cx.ou 2) ((cx.bi 10 rfl).cell 0)
 exact xs4 rfl id fun cx=>ae rfl (by kernel_rfl) (cx.an 8) ((cx.bi 0 rfl).cell 0)
 exact sv0 rfl rfl rfl rfl rfl (fun _ _ _ h=>h) fun b g W X cx=>by
  have PR:b (.tmp 40)=vp db:=(cx.an 9)
  simp[go_sem,Instr.makeFunc,PR]
 refine svA fun b g W X cx=>?_
 have It:b (.tmp 35)= .func (.func 69) #[vp db] #[]:=(cx.an 4)
 have PS:b (.tmp 36)= .func (.func 70) #[] #[vp bF,vp ia]:=(cx.an 5)
 have zf:b (.tmp 41)= .func (.func 63) #[vp db] #[]:=(cx.an 10)
 exact du (e:=52) (xs:=[.func (.func 69) #[vp db] #[],.func (.func 70) #[] #[vp bF,vp ia],.func (.func 63) #[vp db] #[]]) rfl (by simp[go_sem,It,PS,zf]) rfl (by decide) rfl rfl (fun _ _ _ _ _=> .intro)
 exact sv rfl rfl rfl rfl rfl _ (fun _ _ _ h=>h) (fun g s h=>by rw[h 42 (by decide)]) fun b g W X cx=>dm rfl (dTn (cx.an 11)).1
 intro o g X uF hD cG fr aG
 simp only[exq 12 ((dTn (hD 11 lq)).2)] at cG
 simp only[ed 42 ((dTn (hD 11 lq)).1),ed 6 ((dTn (hD 12 lq)))] at aG
 generalize sA (g 42)=MU at cG aG
 clear hD;subst aG;clear o g X
 refine aa (wq (wq ?_))
 obtain⟨fp24_,hk24_⟩:=St.stf (S:=S0) (cG) (hrw1) (hrr1)
 refine sqr (av 1 hk24_ ?_)
 refine sqk (vi ((S0.D.pgs.length:Int))) hk24_ (fun cx=>⟨_,oO sb db S0 _ (qq (CtxV.holdF cx (cx.init 0 _ rfl) rfl)),(ax (cx.ou 43))⟩) fun w4 fy=>?_
 refine sqp [.k 45 (vi 0)] ?_
 refine aa (wp_block ?_)
 obtain⟨⟨hrw2,hrr2⟩,mb2,RA2,rc2,EA2,ec2,ib2,tb2,fpd2,hv28_⟩:=fy.unf
 have hA29_:=hv28_.nA kq
 refine aT (fun t_ mz az W=>∃k:Nat,∃bs:List (Int×Nat),∃m:Nat,∃SA:Option Addr,∃sc:Nat,k<=S0.D.pgs.length/\(∀x,x∈bs.map Prod.fst<->(∃t∈S0.pool,t.n=x)/\x<(k:Int))/\m=bs.length+3/\bs.length<=k/\mz=S0.D.pgs.length-k/\az=⟨(ovr (jv az) [(6,6,0,[.slice SA m sc]),(0,7,1,[]),(37,45,0,[vi ((k:Int))]),(0,46,14,[])] t_).toArray,[]⟩/\St w fp [eB bF 31 #[vp sb],eB ia 27 #[vi 9,vi 0,vi 0,sn,sn,sn,sn,.string note],eB sb 109 #[vp db,vi S0.bufs,.map (some mb2),vi S0.time,.slice RA2 S0.recs.length rc2,.slice EA2 S0.recs.length ec2,.map (some ib2),.map (some tb2),vi S0.frm],eMx kcI ptX Tryz.prog 3 mb2 S0.pool.length (atM S0.pool),eA (List.map fq S0.pool),eM (List.map dM S0.rows),eO 27 8 (.slice RA2 S0.recs.length rc2) S0.recs.length (S0.recs.flatMap rcC),eO 3 1 (.slice EA2 S0.recs.length ec2) S0.recs.length ((cy S0.L S0.recs.length).map (Value.int .i64)),eRc S0.rr,eMx kcI ecB Tryz.prog 3 ib2 S0.ni (S0.im),eMx kcI ecB Tryz.prog 3 tb2 S0.nt (S0.told),eDk db S0.D fpd2,eO 52 1 (.slice SA m sc) m ((lO bF ia db bs)),eA (bs.map kq)] W) (S0.D.pgs.length-0) ?_ ?_
 exact⟨0,[],3,MU,3,Nat.zero_le _,fun x=>⟨fun h=>(by cases h),fun h=>by obtain⟨⟨t,ht,rfl⟩,h2⟩:=h;have:=hok0.keys t ht;omega⟩,rfl,Nat.le_refl _,rfl,(by kernel_rfl),hA29_.pk [11,12,1,2,3,4,5,6,7,8,9,10,13,0]⟩
 rintro TW a30 Fe ⟨k,bs,m,SA,sc,hk,hbs,hm,hbk,rfl,hj_,jx⟩
 refine ovz hj_ fun SD=>?_
 refine wq (sqr (sqp [.k 46 (.bool (decide ((k:Int)<(S0.D.pgs.length:Int))))] ?_))
 refine aa (wq (wds (fun g0 kR=>?_) fun g0 kR=>?_))
 refine wp_skip (aa (wq (wp_block (wq (sqr (sqp [.m 47 45] ?_))))))
 refine bY #[vi 0] jx fun jh uB dG=>?_
 refine aV (n:=1) 14 #[vi ((k:Int))] dG fun y3 ew=>?_
 refine aa (wq ?_)
 have hkn:kcI.ok (k:Int):=by have:=hok0.pgs;constructor<;>omega
 rcases AH S0.pool (k:Int) with hno|⟨A,t,B,hAB,hnt⟩
 refine bG [0,1,3,7,0,31,63] [[0],[],[],[2],[14],[3]] [.c 48 (vp sb),.k 49 (vp sb),.k 50 (po sb 2),.c 51 (.map (some mb2)),.c 52 (vi ((k:Int))),.c 53 (.pointer none),.c 54 (.bool false)] [0,1,2,3,4,5,6,7,8,9,10,11,12,13,14] [0,3,4,5,6] [(48,0,7,55)] ew ?_ fun Br fj=>?_
 refine⟨?_,?_,?_,?_,?_,trivial⟩
 exact xs4 rfl id fun cx=>ae rfl (by kernel_rfl) (cx.ou 2) ((cx.bi 0 rfl).cell 0)
 exact xs4 rfl id fun cx=>ae rfl (by kernel_rfl) (cx.an 2) ((cx.bi 2 rfl).cell 2)
 exact xs4 rfl id fun cx=>ae rfl (by kernel_rfl) (cx.ou 7) ((cx.bi 14 rfl).cell 0)
 exact xs4 rfl id fun cx=>(da (e:=115) (C:=ptX) (K:=kcI) (x:=(k:Int)) rfl (cx.an 3) (cx.an 4) (CtxV.mx cx (cx.init 3 _ rfl) rfl) (h0:=by rfl) (hx:=hkn) (hk:=show Program.underlying _ _= _ from by kernel_rfl)).trans (by rw[kD hno];rfl)
 exact sv0 rfl rfl rfl rfl rfl (fun _ _ _ h=>h) fun b g W X cx=>by
  have Iu:b (.tmp 53)= .pointer none:=(cx.an 5)
  simp[go_sem,cx.sees.const,Iu]
 refine aa (wcf rfl (wp_skip (aw (aa (sqr (sqp [sI 59 ((k:Int)+1) (by omega),.m 45 59] ?_))))))
 refine aa ?_
 refine⟨S0.D.pgs.length-((k+1)),by omega,?_⟩
 exact⟨(k+1),bs,m,SA,sc,by omega,Kd hbs hno,hm,by omega,rfl,(by kernel_rfl),fj.pk [0,1,2,3,4,5,6,7,8,9,10,11,12,13]⟩
 refine bG [0,1,3,7,0,31,63] [[0],[],[],[2],[14],[3]] [.c 48 (vp sb),.k 49 (vp sb),.k 50 (po sb 2),.c 51 (.map (some mb2)),.c 52 (vi ((k:Int))),.c 53 (po t.blk 0),.c 54 (.bool true)] [0,1,2,3,4,5,6,7,8,9,10,11,12,13,14] [0,3,4,5,6] [(48,0,7,55)] ew ?_ fun pT dd=>?_
 refine⟨?_,?_,?_,?_,?_,trivial⟩
 exact xs4 rfl id fun cx=>ae rfl (by kernel_rfl) (cx.ou 2) ((cx.bi 0 rfl).cell 0)
 exact xs4 rfl id fun cx=>ae rfl (by kernel_rfl) (cx.an 2) ((cx.bi 2 rfl).cell 2)
 exact xs4 rfl id fun cx=>ae rfl (by kernel_rfl) (cx.ou 7) ((cx.bi 14 rfl).cell 0)
 exact xs4 rfl id fun cx=>(da (e:=115) (C:=ptX) (K:=kcI) (x:=(k:Int)) rfl (cx.an 3) (cx.an 4) (CtxV.mx cx (cx.init 3 _ rfl) rfl) (h0:=by rfl) (hx:=hkn) (hk:=show Program.underlying _ _= _ from by kernel_rfl)).trans (by rw[Kz hok0.nodup hAB hnt];rfl)
 exact sv0 rfl rfl rfl rfl rfl (fun _ _ _ h=>h) fun b g W X cx=>by
  have Iu:b (.tmp 53)=po t.blk 0:=(cx.an 5)
  simp[go_sem,cx.sees.const,Iu]
 refine aa (wct rfl (sqr ?_))
 refine sqv (.func (.func 71) #[] #[vp bF,vp jh]) dd (by
   exact sv0 rfl rfl rfl rfl rfl (fun _ _ _ h=>h) fun b g W X cx=>by
    have oF:b (.tmp 2)=vp bF:=(cx.ou 2)
    have Fv:b (.tmp 7)=vp jh:=(cx.ou 7)
    simp[go_sem,Instr.makeFunc,oF,Fv]) fun se dz=>?_
 refine ej (fun x_=>sA x_) (fun vf=> .slice vf 1 1) (fun vf=>eO 52 1 (.slice vf 1 1) 1 ([.func (.func 71) #[] #[vp bF,vp jh]])) dz (by
   refine svA fun b g W X cx=>?_
   have If:b (.tmp 55)= .func (.func 71) #[] #[vp bF,vp jh]:=(cx.ou 55)
   exact du (e:=52) (xs:=[.func (.func 71) #[] #[vp bF,vp jh]]) rfl (by simp[go_sem,If]) rfl (by decide) rfl rfl (fun _ _ _ _ _=> .intro)) fun vf Fd gp=>?_
 refine sqp [.m 57 6] ?_
 refine sQ (fun x_=>sA x_) (fun x_=>sC x_) (fun q8 q9=> .slice q8 (1+m) q9) (fun q8 q9=>eO 52 1 (.slice q8 (1+m) q9) (1+m) ((lO bF ia db (((k:Int),jh)::bs)))) 15 gp (by
   refine svA fun b g W X cx=>?_
   obtain⟨i0,hi0,hz0,hz1,hz2⟩:=info_parts Tryz.infoFnJ
   refine eH (n:=1) (m:=m) (nm:=1+m) (xs:=[.func (.func 71) #[] #[vp bF,vp jh]]) (news:=(lO bF ia db bs)) (xs':=(lO bF ia db (((k:Int),jh)::bs))) rfl (ty:=123) rfl (by kernel_rfl) hi0 hz0 hz1 hz2 rfl (cx.ou 56) cx (cx.init 15 _ rfl) rfl (cx.ou 57) ((om _ _ _ _).trans (by omega)) (At.of_own (cx.ri 12 rfl)) (J4 _ _ _ _) (by simp only[maxLen];omega) (by omega) rfl rfl rfl (by omega) (rfl) (fun o s X' hs hb hv hx=>?_)
   exact⟨hv,hx⟩) fun q8 q9 LQ l5=>?_
 refine sqp [.m 6 58] ?_
 refine aw (aa (sqr (sqp [sI 59 ((k:Int)+1) (by omega),.m 45 59] ?_)))
 refine aa ?_
 have hN47_:=St.anf (x:=((k:Int),jh)) l5.u14.u14
 refine⟨S0.D.pgs.length-((k+1)),by omega,?_⟩
 exact⟨(k+1),(((k:Int),jh)::bs),1+m,q8,q9,by omega,JO hbs (by rw[hAB];simp) hnt _,by rw[hm];simp only[List.length_cons];omega,by simp only[List.length_cons];omega,rfl,(by kernel_rfl),hN47_.pk [1,2,3,4,5,6,7,8,9,10,11,12,14,0]⟩
 refine wp_exit (au (au (bh (aa (wq (wq ?_))))))
 have hnsS0:∀x,x∈bs.map Prod.fst<->∃t∈S0.pool,t.n=x:=fun x=>⟨fun h=>((hbs x).1 h).1,fun⟨t,ht,hx⟩=>(hbs x).2 ⟨⟨t,ht,hx⟩,by have:=(hok0.keys t ht).2;omega⟩⟩
 have hnsS:∀x,x∈bs.map Prod.fst<->∃t∈S.pool,t.n=x:=by rw[<-hP0];exact hnsS0
 have hbl:(bs.map Prod.fst).length=bs.length:=List.length_map ..
 have hbk4:bs.length<=400:=by have:=hok0.pgs;omega
 obtain⟨fp48_,hk48_⟩:=St.stf (S:=S0) (jx.u11.u11.u11.u11.u11.u11.u11.u11.u11.u11) (hrw2) (hrr2)
 refine sqr (sqp [.m 60 6,.k 61 (vi ((m:Int))),.k 62 (vi 0)] ?_)
 refine aa (wp_block ?_)
 refine aT (fun t_ mz az W=>∃i:Nat,∃Si:StM,∃fpi:List Nat,i<=m/\CkI S0 (bs.map Prod.fst) note i Si/\SOk Si (c+i)/\(rcI (aJ note))∈Si.rr/\Si.pool.map BfT.n=S0.pool.map BfT.n/\mz=m-i/\az=⟨(ovr (jv az) [(4,4,1,[]),(4,9,2,[]),(51,62,0,[vi ((i:Int))]),(0,63,9,[])] t_).toArray,[]⟩/\St w fp [eB bF 31 #[vp sb],eB ia 27 #[vi 9,vi 0,vi 0,sn,sn,sn,sn,.string note],eO 52 1 (.slice SA m sc) m ((lO bF ia db bs)),eA (bs.map kq),eSt sb db Si fpi] W) (m-0) ?_ ?_
 exact⟨0,S0,fp48_,Nat.zero_le _,.inl ⟨Nat.zero_le _,fun S2 er h=>h⟩,hok0,hrt0,rfl,rfl,(by kernel_rfl),hk48_.pk [1,2,3,4,0]⟩
 rintro QZ a52 Bt ⟨i,Si,fpi,hi,hCk,hokI,hrtI,hplI,rfl,hj_,cN⟩
 refine ovz hj_ fun PD=>?_
 rcases hCk.ways with ⟨hlt_,hcn⟩|⟨hie,hcl⟩|⟨hie,S1,hcl,fQ,hSi⟩|⟨hie,S1,hcl,fQ,hap⟩|⟨hie,S1,S2,hcl,fQ,hap,hf0,hSi⟩
 obtain⟨x,hx⟩:∃x,bs[i]? =some x:=⟨_,List.getElem?_eq_getElem (by omega)⟩
 have hxm:x∈bs:=List.mem_of_getElem? hx
 obtain⟨t,hti,htx⟩:∃t∈Si.pool,t.n=x.1:=Gl hplI ((hnsS0 x.1).1 (List.mem_map.2 ⟨x,hxm,rfl⟩))
 obtain⟨A,B,hAB⟩:=List.append_of_mem hti
 have hdr:(bs.map Prod.fst).drop i=t.n::(bs.map Prod.fst).drop (i+1):=by rw[List.drop_eq_getElem_cons (by omega)];congr 1;rw[htx];exact(List.getElem?_eq_some_iff.1 ((List.getElem?_map ..).trans (by rw[hx];rfl))).2
 refine wq (sqr ?_)
 have hd54:(decide ((i:Int)<(m:Int)))=true:=decide_eq_true (by omega)
 refine sqp [.e 63 (.bool (decide ((i:Int)<(m:Int)))) (.bool true) (congrArg Value.bool hd54)] ?_
 refine aa (wq (wct rfl (wp_skip (aa (wq (wp_block (wq (sqr ?_))))))))
 refine sql (.pointer (some ((ad SA).add i))) cN (fun cx=>bS (e:=52) (m:=i) rfl (by kernel_rfl) (by kernel_rfl) (cx.ou 60) (cx.ou 62) (by omega) (by omega) (At.of_own (cx.ri 2 rfl)) (by rw[om];omega)) ?_
 refine sql (.func (.func 71) #[] #[vp bF,po x.2 0]) cN (fun cx=>ae rfl (by kernel_rfl) (cx.ou 64) (At.cellAd (At.of_own (cx.ri 2 rfl)) (K5 hx))) ?_
 refine sqp [.m 9 65] ?_
 refine aa (wq (sqr (sqp [.m 66 9] ?_)))
 refine bN (fun X_=>X_.fp) (vi ((aM Si t).2)) (fun CW=>eSt sb db ((aM Si t).1) CW) 4 cN (by
   refine svA fun b g W X cx=>?_
   refine am.call (cQ (f:=71) (args:=#[]) (args':=#[vp bF,po x.2 0]) rfl rfl (cx.ou 66) (by kernel_rfl) ji rfl) ?_
   refine(Ao bF x.2 sb db Si A B t (c+i) _ _ (CtxV.holdF cx (cx.init 4 _ rfl) rfl) (CtxV.ltF cx (cx.init 4 _ rfl) rfl) (cx.bi 0 rfl) (CtxV.apF cx (cx.init 0 _ rfl) (cx.init 4 _ rfl) (xi _ _ _) rfl rfl (by decide)) (CtxV.apF cx (cx.init 3 _ rfl) (cx.init 4 _ rfl) (NM hxm) rfl rfl (by decide)) (by rw[htx];exact Lu (CtxV.holdF cx (cx.init 3 _ rfl) rfl) hxm) hokI (by omega) hAB).mono ?_
   rintro e W1 ⟨rfl,fp4,aU⟩
   refine⟨_,rfl,aN (E:=eSt sb db Si fpi) [eSt sb db (aM Si t).1 fp4] (cx.init 4 _ rfl) rfl rfl aU (fun o s X' hs hb hv hN=>?_)⟩
   have aK:=(hv 67 rfl).1;have aW:=(hv 67 rfl).2
   exact⟨aK.trans rfl,gW ((List.cons.inj hN).1)⟩) fun CW Fi fY=>?_
 refine sqp [.m 10 67] ?_
 refine aa (wq (sqr (sqp [.m 68 10,.k 69 (.bool (((aM Si t).2) != 0))] ?_)))
 refine aa (wbs (fun vW=>?_) fun vW=>?_)
 have Om:=bne_iff_ne.1 vW
 refine wq (sqr (sqp [.m 70 10,.m 4 70] ?_))
 refine aa (wp_ret (bb (aj (aj (bb (aj ?_))))))
 refine bpr (vi ((aM Si t).2)) (ai Tryz.results28 rpt) ?_
 exact jp.of (CkQ.cl (q:=S.rr++[(rcI (aJ note))]) (ns:=bs.map Prod.fst) hn6 hfit hnsS (by rw[hS0];exact hcn _ _ (by rw[hdr];exact ClA.bad hti (by simpa using vW))) (by simpa using vW)) ((hokI.clean t hti).mono (by omega)) (fY.pick [4] (by decide) rfl)
 have Om:=bne_eq_false_iff_eq.1 vW
 refine wp_skip (aw (aa (sqr (sqp [sI 71 ((i:Int)+1) (by omega),.m 62 71] ?_))))
 refine aa ?_
 refine⟨m-((i+1)),by omega,?_⟩
 exact⟨(i+1),(aM Si t).1,CW,by omega,.inl ⟨by omega,fun S9 er h=>hcn S9 er (by rw[hdr];exact ClA.cons hti (by simpa using vW) h)⟩,(hokI.clean t hti).mono (by omega),by rw[(tQ _ _).2.1];exact hrtI,(tQ _ _).1.trans hplI,rfl,(by kernel_rfl),fY.pk [0,1,2,3,4]⟩
 refine wq (sqr ?_)
 have hd69:(decide ((i:Int)<(m:Int)))=true:=decide_eq_true (by omega)
 refine sqp [.e 63 (.bool (decide ((i:Int)<(m:Int)))) (.bool true) (congrArg Value.bool hd69)] ?_
 refine aa (wq (wct rfl (wp_skip (aa (wq (wp_block (wq (sqr ?_))))))))
 refine sql (.pointer (some ((ad SA).add i))) cN (fun cx=>bS (e:=52) (m:=i) rfl (by kernel_rfl) (by kernel_rfl) (cx.ou 60) (cx.ou 62) (by omega) (by omega) (At.of_own (cx.ri 2 rfl)) (by rw[om];omega)) ?_
 refine sql (.func (.func 69) #[vp db] #[]) cN (fun cx=>ae rfl (by kernel_rfl) (cx.ou 64) (At.cellAd (At.of_own (cx.ri 2 rfl)) (Co (j:=0) (by omega)))) ?_
 refine sqp [.m 9 65] ?_
 refine aa (wq ?_)
 obtain⟨⟨hrw1,hrr1⟩,mb1,RA1,rc1,EA1,ec1,ib1,tb1,fpd1,hv73_⟩:=cN.u4.unf
 have hlzi:=hokI.lsz
 have hpgi:=hokI.pgs
 refine sqr (sqp [.m 66 9] ?_)
 refine bN (fun X_=>X_.fp) (vi ((opD Si.D 0 syD).2)) (fun FC=>eDk db ((opD Si.D 0 syD).1) FC) 9 hv73_ (by
   refine svA fun b g W X cx=>?_
   refine am.call (cQ (f:=69) (args:=#[]) (args':=#[vp db]) rfl rfl (cx.ou 66) (by kernel_rfl) ji rfl) ?_
   refine(DY db Si.D _ _ (CtxV.holdF cx (cx.init 9 _ rfl) rfl) (CtxV.ltF cx (cx.init 9 _ rfl) rfl) (fun x hx=>Nat.le_trans (hokI.ws x hx) (by omega)) hpgi).mono ?_
   rintro e W1 ⟨rfl,fp4,aU⟩
   refine⟨_,rfl,aN (E:=eDk db Si.D fpd1) [eDk db (opD Si.D 0 syD).1 fp4] (cx.init 9 _ rfl) rfl rfl aU (fun o s X' hs hb hv hN=>?_)⟩
   have aK:=(hv 67 rfl).1;have aW:=(hv 67 rfl).2
   exact⟨aK.trans rfl,cJ ((List.cons.inj hN).1)⟩) fun FC L7 kW=>?_
 refine sqp [.m 10 67] ?_
 refine aa (wq (sqr (sqp [.m 68 10,.k 69 (.bool (((opD Si.D 0 syD).2) != 0))] ?_)))
 refine aa (wbs (fun zK=>?_) fun zK=>?_)
 have On:=bne_iff_ne.1 zK
 refine wq (sqr (sqp [.m 70 10,.m 4 70] ?_))
 refine aa (wp_ret (bb (aj (aj (bb (aj ?_))))))
 refine bpr (vi ((opD Si.D 0 syD).2)) (ai Tryz.results28 rpt) ?_
 obtain⟨fp82_,hk82_⟩:=St.stf (S:=(c9 Si (opD Si.D 0 syD).1)) (kW) (hrw1) (hrr1)
 exact jp.of (CkQ.sync (q:=S.rr++[(rcI (aJ note))]) (ns:=bs.map Prod.fst) hn6 hfit hnsS (by rw[hS0];exact hcl) (by simpa using zK)) (hokI.sync.mono (by omega)) (hk82_.pick [0] (by decide) rfl)
 have On:=bne_eq_false_iff_eq.1 zK
 refine wp_skip (aw (aa (sqr (sqp [sI 71 ((i:Int)+1) (by omega),.m 62 71] ?_))))
 refine aa ?_
 obtain⟨fp85_,hk85_⟩:=St.stf (S:=(c9 Si (opD Si.D 0 syD).1)) (kW) (hrw1) (hrr1)
 refine⟨m-((i+1)),by omega,?_⟩
 exact⟨(i+1),(c9 Si (opD Si.D 0 syD).1),fp85_,by omega,.inr (.inl ⟨by omega,Si,hcl,by simpa using zK,rfl⟩),hokI.sync.mono (by omega),hrtI,hplI,rfl,(by kernel_rfl),hk85_.pk [1,2,3,4,0]⟩
 refine wq (sqr ?_)
 have hd87:(decide ((i:Int)<(m:Int)))=true:=decide_eq_true (by omega)
 refine sqp [.e 63 (.bool (decide ((i:Int)<(m:Int)))) (.bool true) (congrArg Value.bool hd87)] ?_
 refine aa (wq (wct rfl (wp_skip (aa (wq (wp_block (wq (sqr ?_))))))))
 refine sql (.pointer (some ((ad SA).add i))) cN (fun cx=>bS (e:=52) (m:=i) rfl (by kernel_rfl) (by kernel_rfl) (cx.ou 60) (cx.ou 62) (by omega) (by omega) (At.of_own (cx.ri 2 rfl)) (by rw[om];omega)) ?_
 refine sql (.func (.func 70) #[] #[vp bF,vp ia]) cN (fun cx=>ae rfl (by kernel_rfl) (cx.ou 64) (At.cellAd (At.of_own (cx.ri 2 rfl)) (Co (j:=1) (by omega)))) ?_
 refine sqp [.m 9 65] ?_
 refine aa (wq (sqr (sqp [.m 66 9] ?_)))
 refine bN (fun X_=>X_.fp) (vi ((bt Si (rcI (aJ note))).2)) (fun CX=>eSt sb db ((bt Si (rcI (aJ note))).1) CX) 4 cN (by
   refine svA fun b g W X cx=>?_
   refine am.call (cQ (f:=70) (args:=#[]) (args':=#[vp bF,vp ia]) rfl rfl (cx.ou 66) (by kernel_rfl) ji rfl) ?_
   refine(An bF ia sb db Si (rcI (aJ note)) (c+i) _ _ (CtxV.holdF cx (cx.init 4 _ rfl) rfl) (CtxV.ltF cx (cx.init 4 _ rfl) rfl) (cx.bi 0 rfl) (CtxV.apF cx (cx.init 0 _ rfl) (cx.init 4 _ rfl) (xi _ _ _) rfl rfl (by decide)) (CtxV.apF cx (cx.init 1 _ rfl) (cx.init 4 _ rfl) (xi _ _ _) rfl rfl (by decide)) (cx.bi 1 rfl) hokI (cR hn6) hrtI).mono ?_
   rintro e W1 ⟨rfl,fp4,aU⟩
   refine⟨_,rfl,aN (E:=eSt sb db Si fpi) [eSt sb db (bt Si (rcI (aJ note))).1 fp4] (cx.init 4 _ rfl) rfl rfl aU (fun o s X' hs hb hv hN=>?_)⟩
   have aK:=(hv 67 rfl).1;have aW:=(hv 67 rfl).2
   exact⟨aK.trans rfl,gW ((List.cons.inj hN).1)⟩) fun CX Mh l8=>?_
 refine sqp [.m 10 67] ?_
 refine aa (wq (sqr (sqp [.m 68 10,.k 69 (.bool (((bt Si (rcI (aJ note))).2) != 0))] ?_)))
 refine aa (wbs (fun kJ=>?_) fun kJ=>?_)
 have CU:=bne_iff_ne.1 kJ
 refine wq (sqr (sqp [.m 70 10,.m 4 70] ?_))
 refine aa (wp_ret (bb (aj (aj (bb (aj ?_))))))
 refine bpr (vi ((bt Si (rcI (aJ note))).2)) (ai Tryz.results28 rpt) ?_
 exact jp.of (by have h_:=CkQ.app (q:=S.rr++[(rcI (aJ note))]) (ns:=bs.map Prod.fst) hn6 hfit hnsS (by rw[hS0];exact hcl) fQ (by rw[<-hSi];simpa using kJ);rw[<-hSi] at h_;exact h_) ((hokI.append (cR hn6)).mono (by omega)) (l8.pick [4] (by decide) rfl)
 have CU:=bne_eq_false_iff_eq.1 kJ
 refine wp_skip (aw (aa (sqr (sqp [sI 71 ((i:Int)+1) (by omega),.m 62 71] ?_))))
 refine aa ?_
 refine⟨m-((i+1)),by omega,?_⟩
 exact⟨(i+1),(bt Si (rcI (aJ note))).1,CX,by omega,.inr (.inr (.inl ⟨by omega,S1,hcl,fQ,by rw[<-hSi];exact DB (by simpa using kJ) rfl⟩)),(hokI.append (cR hn6)).mono (by omega),by rw[(jJ _ _).2.1];exact hrtI,by rw[(jJ _ _).2.2.2.2.1];exact hplI,rfl,(by kernel_rfl),l8.pk [0,1,2,3,4]⟩
 refine wq (sqr ?_)
 have hd102:(decide ((i:Int)<(m:Int)))=true:=decide_eq_true (by omega)
 refine sqp [.e 63 (.bool (decide ((i:Int)<(m:Int)))) (.bool true) (congrArg Value.bool hd102)] ?_
 refine aa (wq (wct rfl (wp_skip (aa (wq (wp_block (wq (sqr ?_))))))))
 refine sql (.pointer (some ((ad SA).add i))) cN (fun cx=>bS (e:=52) (m:=i) rfl (by kernel_rfl) (by kernel_rfl) (cx.ou 60) (cx.ou 62) (by omega) (by omega) (At.of_own (cx.ri 2 rfl)) (by rw[om];omega)) ?_
 refine sql (.func (.func 63) #[vp db] #[]) cN (fun cx=>ae rfl (by kernel_rfl) (cx.ou 64) (At.cellAd (At.of_own (cx.ri 2 rfl)) (Co (j:=2) (by omega)))) ?_
 refine sqp [.m 9 65] ?_
 refine aa (wq ?_)
 obtain⟨⟨hrw1,hrr1⟩,mb1,RA1,rc1,EA1,ec1,ib1,tb1,fpd1,hv106_⟩:=cN.u4.unf
 have hlzi:=hokI.lsz
 have hpgi:=hokI.pgs
 refine sqr (sqp [.m 66 9] ?_)
 refine bN (fun X_=>X_.fp) (vi ((opD Si.D 0 flD).2)) (fun Bv=>eDk db ((opD Si.D 0 flD).1) Bv) 9 hv106_ (by
   refine svA fun b g W X cx=>?_
   refine am.call (cQ (f:=63) (args:=#[]) (args':=#[vp db]) rfl rfl (cx.ou 66) (by kernel_rfl) ji rfl) ?_
   refine(lX db Si.D _ _ (CtxV.holdF cx (cx.init 9 _ rfl) rfl) (CtxV.ltF cx (cx.init 9 _ rfl) rfl) (by omega)).mono ?_
   rintro e W1 ⟨rfl,fp4,aU⟩
   refine⟨_,rfl,aN (E:=eDk db Si.D fpd1) [eDk db (opD Si.D 0 flD).1 fp4] (cx.init 9 _ rfl) rfl rfl aU (fun o s X' hs hb hv hN=>?_)⟩
   have aK:=(hv 67 rfl).1;have aW:=(hv 67 rfl).2
   exact⟨aK.trans rfl,cJ ((List.cons.inj hN).1)⟩) fun Bv Pu oH=>?_
 refine sqp [.m 10 67] ?_
 refine aa (wq (sqr (sqp [.m 68 10,.k 69 (.bool (((opD Si.D 0 flD).2) != 0))] ?_)))
 refine aa (wbs (fun vg=>?_) fun vg=>?_)
 have MV:=bne_iff_ne.1 vg
 refine wq (sqr (sqp [.m 70 10,.m 4 70] ?_))
 refine aa (wp_ret (bb (aj (aj (bb (aj ?_))))))
 refine bpr (vi ((opD Si.D 0 flD).2)) (ai Tryz.results28 rpt) ?_
 obtain⟨fp115_,hk115_⟩:=St.stf (S:=(c9 Si (opD Si.D 0 flD).1)) (oH) (hrw1) (hrr1)
 exact jp.of (CkQ.flush (q:=S.rr++[(rcI (aJ note))]) (ns:=bs.map Prod.fst) hn6 hfit hnsS (by rw[hS0];exact hcl) fQ hap (by simpa using vg)) (hokI.flush.mono (by omega)) (hk115_.pick [0] (by decide) rfl)
 have MV:=bne_eq_false_iff_eq.1 vg
 refine wp_skip (aw (aa (sqr (sqp [sI 71 ((i:Int)+1) (by omega),.m 62 71] ?_))))
 refine aa ?_
 obtain⟨fp118_,hk118_⟩:=St.stf (S:=(c9 Si (opD Si.D 0 flD).1)) (oH) (hrw1) (hrr1)
 refine⟨m-((i+1)),by omega,?_⟩
 exact⟨(i+1),(c9 Si (opD Si.D 0 flD).1),fp118_,by omega,.inr (.inr (.inr ⟨by omega,S1,Si,hcl,fQ,hap,by simpa using vg,rfl⟩)),hokI.flush.mono (by omega),hrtI,hplI,rfl,(by kernel_rfl),hk118_.pk [1,2,3,4,0]⟩
 refine wq (sqr ?_)
 have hd120:(decide ((i:Int)<(m:Int)))=false:=decide_eq_false (by omega)
 refine sqp [.e 63 (.bool (decide ((i:Int)<(m:Int)))) (.bool false) (congrArg Value.bool hd120)] ?_
 refine aa (wq (wcf rfl (wp_exit (au (au (bh (aa (wq ?_))))))))
 obtain⟨⟨hrw9,hrr9⟩,mb9,RA9,rc9,EA9,ec9,ib9,tb9,fpd9,hv121_⟩:=cN.u4.unf
 have hni9:=hokI.ni
 refine aH [0,0,2,6,14,30,63,127,255] [[10],[10],[],[],[0],[],[],[],[0]] [[],[],[],[],[],[],[],[],[14]] [[],[],[],[],[],[],[],[],[0]] [.c 72 (vp sb),.c 73 (vp sb),.k 74 (vp sb),.k 75 (po sb 4),.c 76 (.slice RA9 Si.recs.length rc9),.k 77 (vi ((Si.recs.length:Int))),.k 78 (vp sb),.k 79 (po sb 8),.n] (fun ix o g X=>match ix with|0|1|2|3|4|5|6|7=>True|8=>X 14=eB sb 109 #[vp db,vi Si.bufs,.map (some mb9),vi Si.time,.slice RA9 Si.recs.length rc9,.slice EA9 Si.recs.length ec9,.map (some ib9),.map (some tb9),vi ((Si.recs.length:Int))]|_=>True) [1,2,3,4,5,6,7,8,9,10,11,12,13,14] [0,1,4,8] [(72,0,8,80)] hv121_ ?_ ?_ ?_
 exact fun ix _ _ _ _ _ _ hs hb hx h=>match ix,h with
 |8,h=>by dsimp only;rw[<-hx 14 rfl];exact h
 |0,_|1,_|2,_|3,_|4,_|5,_|6,_|7,_|_+9,_=>trivial
 refine⟨?_,?_,?_,?_,trivial⟩
 exact xs4 rfl id fun cx=>ae rfl (by kernel_rfl) (cx.ou 2) ((cx.bi 10 rfl).cell 0)
 exact xs4 rfl id fun cx=>ae rfl (by kernel_rfl) (cx.ou 2) ((cx.bi 10 rfl).cell 0)
 exact xs4 rfl id fun cx=>ae rfl (by kernel_rfl) (cx.an 3) ((cx.bi 0 rfl).cell 4)
 refine svA fun b g W X cx=>?_
 exact bx (n:=1) rfl (cx.an 7) (cx.an 5) (by kernel_rfl) (by kernel_rfl) (by kernel_rfl) cx (cx.init 0 _ rfl) rfl (nle rfl) (by kernel_rfl) rfl rfl rfl (fun _ _ _ _ _=>id)
 intro o g X SF hD vh fr aG
 simp only[exq 14 ((dTn (hD 8 lq)))] at vh
 clear hD;subst aG;clear o g X
 refine aa (wq (sqr (av 9 vh ?_)))
 refine sqp [.k 81 (vp sb),.k 82 (po sb 6)] ?_
 refine av 13 vh ?_
 refine sqc (eMx kcI ecB Tryz.prog 3 ib9 0 (fun _=>none)) 6 vh (by
   refine svA fun b g W X cx=>?_
   exact BR (e:=4) (d:=0) rfl (cx.ou 83) cx (cx.init 6 _ rfl) rfl rfl rfl (fun _ _ _ _ _=>id)) fun SG MW=>?_
 refine aa (wq (sqr (sqp [.k 4 (vi 0)] ?_)))
 refine aa (wp_ret ?_)
 refine bpr (vi 0) (ai Tryz.results28 rpt) ?_
 obtain⟨fp129_,hk129_⟩:=St.stf (S:=(ckE Si)) (MW.u9.c0.u9.c0.u9.c0.u9.c0.u9) (hrw9) (hrr9)
 exact jp.of (by rw[hSi];exact CkQ.ok (q:=S.rr++[(rcI (aJ note))]) (ns:=bs.map Prod.fst) hn6 hfit hnsS (by rw[hS0];exact hcl) fQ hap hf0) (hokI.ckE.mono (by omega)) hk129_
end
section
open Go.RowKit
structure WI (S:StM) (told:Int->Bool):Prop where
 cur:∀n:Int,0<=n->n<(S.D.pgs.length:Int)->aD S n=ak S.L n
 im:∀n:Int,0<=n->n<(S.D.pgs.length:Int)->(S.im n).getD false=fw S.L n
 frm:S.frm=(bm S.L:Int)
 told:∀n:Int,0<=n->n<(S.D.pgs.length:Int)->(S.told n).getD false=told n
theorem Ev.L(h:Ev S S'):S'.L=S.L:=by show S'.recs.map RcT.r= _;rw[h.recs]
theorem Ev.wi{told:Int->Bool}(h:Ev S S')(hw:WI S told):WI S' told:=
 ⟨fun n h0 h1=>by rw[h.L,h.cur n h0];exact hw.cur n h0 (by rw[<-h.len];exact h1),fun n h0 h1=>by rw[h.L,h.im];exact hw.im n h0 (by rw[<-h.len];exact h1),by rw[h.L,h.frm];exact hw.frm,fun n h0 h1=>by rw[h.told];exact hw.told n h0 (by rw[<-h.len];exact h1)⟩
def et(L:List RecM)(os:List Int):List RecM:=(os.filter fun n=>!fw L n).map fun n=>⟨8,0,n,[],aE (ak L n)⟩
def rfL(L:List RecM)(r:RecM):List RecM:=L++et L (cz r.eds)++[r]
def rfE(pages:Nat)(L:List RecM)(r:RecM):Int:=
 if bv r=false\/r.kind=8\/r.kind=9 then 1 else if r.eds.any (d4 pages)=true then 22 else if cY (ak L) r.eds≠0 then cY (ak L) r.eds else if 1048576<szF L+((aC r).size+szF (et L (cz r.eds))) then 31 else 0
def rfT(told:Int->Bool)(L:List RecM)(r:RecM):Int->Bool:=fun n=>if n∈cz r.eds/\(ak L n).1≠0/\(bp (ak L) r.eds n).1=0 then false else told n
def rfD(pages:Nat)(L:List RecM)(told:Int->Bool)(r:RecM):List RecM×Int×Int×(Int->Bool):=if rfE pages L r=0 then (rfL L r,((rfL L r).length:Int),0,rfT told L r) else (L,0,rfE pages L r,told)
theorem BQ(l:List EdT):∀(N M:Int->PgS),(∀e∈l,N e.1=M e.1)->cY N l=cY M l:=by
 induction l with
 |nil=>intro N M _;rfl
 |cons e l ih=>
  intro N M h
  rw[cY,cY,h e (by simp)]
  split
  refine ih _ _ fun x hx=>?_
  rw[eS,eS]
  rw[h e (by simp),h x (by simp[hx])]
  rfl
theorem tT(l:List EdT)(n:Int):∀(N M:Int->PgS),(∀e∈l,N e.1=M e.1)->N n=M n->bp N l n=bp M l n:=by
 induction l with
 |nil=>intro N M _ h;exact h
 |cons e l ih=>
  intro N M h hn
  refine ih _ _ (fun x hx=>?_) ?_
  rw[eS,eS];rw[h e (by simp),h x (by simp[hx])]
  rw[eS,eS];rw[h e (by simp),hn]
theorem Gh{p:PgS}{a b:Int}(hp:bC p)(hq:bC q)(h1:p.1=q.1)(h2:p.2.2=q.2.2)(ha:0<=a/\a<=2147483647)(hb:0<=b/\b<=2147483647):doE p e a=doE q e b:=by
 have e1:=hp.1
 have e2:=hq.1
 have n1:¬(a<0\/2147483647<a):=by omega
 have n2:¬(b<0\/2147483647<b):=by omega
 rw[h2] at e1
 simp only[doE,di,h2,e1,e2,if_neg n1,if_neg n2,h2,Bool.true_eq_false,if_false]
theorem yN{p:PgS}{a b:Int}(h1:p.1=q.1)(h2:p.2.2=q.2.2):(doV p e a).1=(doV q e b).1/\(doV p e a).2.2=(doV q e b).2.2:=by
 unfold doV
 split
 exact⟨rfl,rfl⟩
 exact⟨h1,by rw[h2]⟩
theorem K7{n:Int}(hl:0<=lsn/\lsn<=2147483647):∀(l:List EdT) (N:Int->PgS) (p:PgS),(∀m,bC (N m))->bC p->p.1=(N n).1->p.2.2=(N n).2.2->cY N l=0->
  (bn n lsn p l).1=(bp N l n).1/\(bn n lsn p l).2.2=(bp N l n).2.2/\((∃e∈l,e.1=n)->(bn n lsn p l).2.1=lsn):=by
 intro l
 induction l with
 |nil=>intro N p _ _ h1 h2 _;exact⟨h1,h2,fun⟨e,he,_⟩=>by cases he⟩
 |cons e l ih=>
  intro N p hN hp h1 h2 h0
  rw[cY] at h0
  split at h0
  rename_i hd
  have hN2:∀m,bC (eS N e m):=fun m=>by
   unfold eS
   split
   exact kt hd
   exact hN m
  by_cases he:e.1=n
  have hd2:doE p e lsn=0:=by rw[Gh hp (hN n) h1 h2 hl (b:=1) (by omega),<-he];exact hd
  have e1:edA n lsn p e=doV p e lsn:=if_pos ⟨he,hd2⟩
  have e2:eS N e n=doV (N n) e 1:=by rw[eS];rw[if_pos he.symm,he]
  obtain⟨a,b,c⟩:=ih (eS N e) (doV p e lsn) hN2 (kt hd2) (by rw[e2];exact(yN h1 h2).1) (by rw[e2];exact(yN h1 h2).2) h0
  show (bn n lsn (edA n lsn p e) l).1= _/\(bn n lsn (edA n lsn p e) l).2.2= _/\(_->(bn n lsn (edA n lsn p e) l).2.1= _)
  rw[e1]
  refine⟨a,b,fun _=>?_⟩
  by_cases hx:∃x∈l,x.1=n
  exact c hx
  rw[sN (fun x hx1 hx2=>hx ⟨x,hx1,hx2⟩),AZ]
  have e1:edA n lsn p e=p:=if_neg (fun h=>he h.1)
  have e2:eS N e n=N n:=by rw[eS];rw[if_neg (fun h=>he h.symm)]
  obtain⟨a,b,c⟩:=ih (eS N e) p hN2 hp (by rw[e2];exact h1) (by rw[e2];exact h2) h0
  show (bn n lsn (edA n lsn p e) l).1= _/\(bn n lsn (edA n lsn p e) l).2.2= _/\(_->(bn n lsn (edA n lsn p e) l).2.1= _)
  rw[e1]
  refine⟨a,b,fun⟨x,hx,hn⟩=>?_⟩
  rcases List.mem_cons.1 hx with rfl|hx
  exact absurd hn he
  exact c ⟨x,hx,hn⟩
  rename_i hd;exact absurd h0 hd
theorem HY{L:List RecM}{n:Int}(hL:(L.length:Int)+1<=2147483647)(h0:cY (ak L) r.eds=0)(hn:n∈cz r.eds):ak (L++[r]) n=gQ ((L.length:Int)+1) (bp (ak L) r.eds n):=by
 obtain⟨a,b,c⟩:=K7 (n:=n) (lsn:=(L.length:Int)+1) (by omega) r.eds (ak L) (ak L n) (iz L) (iz L n) rfl rfl h0
 rw[gX]
 exact Prod.ext a (Prod.ext (c (jL.1 hn)) b)
theorem Ds{L:List RecM}{n:Int}(hn:n∉cz r.eds):ak (L++[r]) n=ak L n:=by
 rw[gX,sN (fun e he h=>hn (jL.2 ⟨e,he,h⟩))]
theorem vt{L:List RecM}{os:List Int}:∀r∈et L os,r.eds=[]/\r.kind=8/\∃n∈os,fw L n=false/\r=⟨8,0,n,[],aE (ak L n)⟩:=fun r hr=>by
 obtain⟨n,hn,rfl⟩:=List.mem_map.1 hr
 obtain⟨h1,h2⟩:=List.mem_filter.1 hn
 exact⟨rfl,rfl,n,h1,by simpa using h2,rfl⟩
theorem tY{L ims:List RecM}(h:∀r∈ims,r.eds=[])(n:Int):ak (L++ims) n=ak L n:=BM fun r hr e he=>by rw[h r hr] at he;cases he
theorem Ea{ims:List RecM}(n:Int):∀(L:List RecM),(∀r∈ims,r.kind=8)->fw (L++ims) n=(fw L n||decide (n∈ims.map RecM.tbl)):=by
 induction ims with
 |nil=>intro L _;simp
 |cons r ims ih=>
  intro L h
  have e:L++r::ims=(L++[r])++ims:=by simp
  have hk:=h r (by simp)
  rw[e,ih _ (fun x hx=>h x (by simp[hx])),nu,if_neg (by rw[hk];decide),hk,Bool.or_assoc]
  congr 1
  rw[List.map_cons]
  by_cases ht:r.tbl=n
  rw[decide_eq_true (p:=n∈r.tbl::ims.map RecM.tbl) (by rw[ht];exact List.mem_cons_self)];simp[ht]
  have:(n∈r.tbl::ims.map RecM.tbl)=(n∈ims.map RecM.tbl):=propext ⟨fun h=>(List.mem_cons.1 h).elim (fun h=>absurd h.symm ht) id,List.mem_cons_of_mem _⟩
  simp only[this]
  rw[show (r.tbl==n)=false by simpa using ht,Bool.and_false,Bool.false_or]
theorem Cy{ims:List RecM}:∀(L:List RecM),(∀r∈ims,r.kind≠9)->bm (L++ims)=bm L:=by
 induction ims with
 |nil=>intro L _;simp
 |cons r ims ih=>
  intro L h
  rw[show L++r::ims=(L++[r])++ims by simp,ih _ (fun x hx=>h x (by simp[hx])),gn,if_neg (h r (by simp))]
end
section
open Go.RowKit
theorem wm(D:DkM)(er:Int)(f:DkM->DkM):(D.off=true/\opD D er f=(D,24))\/(D.off=false/\er≠0/\opD D er f=(D,er))\/(D.off=false/\er=0/\D.armed=true/\opD D er f=({D with off:=true},24))\/(D.off=false/\er=0/\opD D er f=(f {D with left:=cX D.left},0)):=by
 unfold opD
 split
 rename_i h;exact .inl ⟨h,rfl⟩
 rename_i h
 have h:D.off=false:=by simpa using h
 split
 rename_i h1;exact .inr (.inl ⟨h,h1,rfl⟩)
 rename_i h1
 have h1:er=0:=by simpa using h1
 split
 rename_i h2;exact .inr (.inr (.inl ⟨h,h1,h2.1,rfl⟩))
 exact .inr (.inr (.inr ⟨h,h1,rfl⟩))
structure ApS (S:StM) (rt:RcT) (S2:StM) (er:Int):Prop where
 ok:er=0->S2.D.off=false/\S2.recs=S.recs++[rt]/\S2.D.log=S.D.log++aC rt.r
 no:er≠0->S2.recs=S.recs/\S2.D.log=S.D.log/\((er=24/\S2.D.off=true)\/(er=31/\S2.D.off=S.D.off/\1048576<S.D.log.size+(aC rt.r).size))
 pool:S2.pool=S.pool
 pgs:S2.D.pgs=S.D.pgs
 fl:S2.D.fl=S.D.fl
 im:S2.im=S.im
 told:S2.told=S.told
 frm:S2.frm=S.frm
 armed:S2.D.armed=S.D.armed
 noarm:S.D.armed=false->S2.D.off=S.D.off
theorem fu(S:StM)(rt:RcT):ApS S rt (bt S rt).1 (bt S rt).2:=by
 have hz:∀er:Int,apE S.D (aC rt.r)=er->er≠0->er=31/\1048576<S.D.log.size+(aC rt.r).size:=fun er h h0=>by
  unfold apE at h
  split at h
  exact⟨h.symm,by omega⟩
  exact absurd h.symm h0
 rcases wm S.D (apE S.D (aC rt.r)) (apD (aC rt.r)) with ⟨h1,h2⟩|⟨h1,h0,h2⟩|⟨h1,h0,h3,h2⟩|⟨h1,h0,h2⟩
 have e:(apR S rt.r)=(S.D,24):=h2
 rw[tX (by rw[e];exact(by decide:(24:Int)≠0)),e]
 exact⟨fun h=>(by cases h),fun _=>⟨rfl,rfl,.inl ⟨rfl,h1⟩⟩,rfl,rfl,rfl,rfl,rfl,rfl,rfl,fun _=>rfl⟩
 have e:(apR S rt.r)=(S.D,apE S.D (aC rt.r)):=h2
 rw[tX (by rw[e];exact h0),e]
 obtain⟨a,b⟩:=hz _ rfl h0
 exact⟨fun h=>absurd h h0,fun _=>⟨rfl,rfl,.inr ⟨a,rfl,b⟩⟩,rfl,rfl,rfl,rfl,rfl,rfl,rfl,fun _=>rfl⟩
 have e:(apR S rt.r)=({S.D with off:=true},24):=h2
 rw[tX (by rw[e];exact(by decide:(24:Int)≠0)),e]
 exact⟨fun h=>(by cases h),fun _=>⟨rfl,rfl,.inl ⟨rfl,rfl⟩⟩,rfl,rfl,rfl,rfl,rfl,rfl,rfl,fun h=>by rw[h3] at h;cases h⟩
 have e:(apR S rt.r)=(apD (aC rt.r) {S.D with left:=cX S.D.left},0):=h2
 rw[E9 (by rw[e]),e]
 exact⟨fun _=>⟨h1,rfl,rfl⟩,fun h=>absurd rfl h,rfl,rfl,rfl,rfl,rfl,rfl,rfl,fun _=>rfl⟩
structure ApO (S:StM) (ims:List RecM) (S2:StM) (er:Int) (k:Nat):Prop where
 kl:k<=ims.length
 ok:er=0->k=ims.length/\(S.D.off=false->S2.D.off=false)
 no:er≠0->(er=24/\S2.D.off=true)\/(er=31/\1048576<S.D.log.size+szF ims)
 L:S2.L=S.L++ims.take k
 log:S2.D.log.size=S.D.log.size+szF (ims.take k)
 pool:S2.pool=S.pool
 pgs:S2.D.pgs=S.D.pgs
 fl:S2.D.fl=S.D.fl
 im:∀n,(S2.im n).getD false=((S.im n).getD false||decide (n∈(ims.take k).map RecM.tbl))
 told:S2.told=S.told
 frm:S2.frm=S.frm
 armed:S2.D.armed=S.D.armed
 noarm:S.D.armed=false->S2.D.off=S.D.off
theorem oT(r:RecM)(l:List RecM):szF (r::l)=(aC r).size+szF l:=by simp[szF]
theorem ApI.run{ims:List RecM}(h:ApI S ims S2 er):∃k,ApO S ims S2 er k:=by
 induction h with
 |nil S=>exact⟨0,Nat.le_refl _,fun _=>⟨rfl,id⟩,fun h=>absurd rfl h,by simp,rfl,rfl,rfl,rfl,fun n=>by simp,rfl,rfl,rfl,fun _=>rfl⟩
 |bad q h=>
  rename_i S r l
  have hs:=fu {S with rr:=q} (rcI r)
  obtain⟨a,b,c⟩:=hs.no h
  refine⟨0,Nat.zero_le _,fun h0=>absurd h0 h,fun _=>?_,(congrArg (List.map RcT.r) a).trans (List.append_nil _).symm,by rw[b];rfl,hs.pool,hs.pgs,hs.fl,fun n=>by rw[hs.im];simp,hs.told,hs.frm,hs.armed,hs.noarm⟩
  rcases c with c|c
  exact .inl c
  refine .inr ⟨c.1,?_⟩
  have:=c.2.2
  rw[oT]
  show 1048576<S.D.log.size+ _
  have e:(aC (rcI r).r).size=(aC r).size:=rfl
  have e2:({S with rr:=q}:StM).D.log.size=S.D.log.size:=rfl
  omega
 |cons q h hr ih=>
  rename_i S S2 r l er
  have hs:=fu {S with rr:=q} (rcI r)
  obtain⟨a1,a2,a3⟩:=hs.ok h
  obtain⟨k,o⟩:=ih
  have hlog:(bt {S with rr:=q} (rcI r)).1.D.log=S.D.log++aC r:=a3
  refine⟨k+1,by have:=o.kl;simp only[List.length_cons];omega,fun h0=>?_,fun h0=>?_,?_,?_,o.pool.trans hs.pool,o.pgs.trans hs.pgs,o.fl.trans hs.fl,fun n=>?_,o.told.trans hs.told,o.frm.trans hs.frm,o.armed.trans hs.armed,fun h0=>?_⟩
  obtain⟨b1,b2⟩:=o.ok h0
  exact⟨by rw[b1];rfl,fun _=>b2 a1⟩
  rcases o.no h0 with c|⟨c1,c2⟩
  exact .inl c
  refine .inr ⟨c1,?_⟩
  have c2:1048576<(bt {S with rr:=q} (rcI r)).1.D.log.size+szF l:=c2
  rw[hlog,ByteArray.size_append] at c2
  rw[oT];omega
  rw[o.L,List.take_succ_cons]
  show (bt {S with rr:=q} (rcI r)).1.recs.map RcT.r++ _= _
  rw[a2,List.map_append]
  show S.L++[r]++l.take k= _
  simp
  have h1:=o.log
  have h1:S2.D.log.size=(bt {S with rr:=q} (rcI r)).1.D.log.size+szF (l.take k):=h1
  rw[h1,hlog,ByteArray.size_append,List.take_succ_cons,oT];omega
  rw[o.im,List.take_succ_cons,List.map_cons]
  show ((cf (bt {S with rr:=q} (rcI r)).1.im r.tbl (some true) n).getD false|| _)= _
  rw[hs.im]
  unfold cf
  by_cases hn:n=r.tbl
  subst hn;simp
  rw[if_neg hn]
  show ((S.im n).getD false|| _)= _
  congr 1
  have:(n∈r.tbl::(l.take k).map RecM.tbl)=(n∈(l.take k).map RecM.tbl):=propext ⟨fun h=>(List.mem_cons.1 h).elim (fun h=>absurd h hn) id,List.mem_cons_of_mem _⟩
  simp only[this]
  have h1:=hs.noarm h0
  have h2:=o.noarm (hs.armed.trans h0)
  exact h2.trans h1
theorem ApI.sok{ims:List RecM}(h:ApI S ims S2 er):∀{c:Nat},SOk S c->(∀r∈ims,bv r=true)->SOk S2 (c+ims.length):=by
 induction h with
 |nil S=>intro c h _;exact h
 |bad q h=>intro c hc hr;exact((hc.rr q).append (rt:=rcI _) (hr _ List.mem_cons_self)).mono (by omega)
 |cons q h hr ih=>
  intro c hc hr
  exact(ih (((hc.rr q).append (rt:=rcI _) (hr _ List.mem_cons_self)).im _) (fun r h=>hr r (by simp[h]))).mono (by simp only[List.length_cons];omega)
theorem ApO.cur{ims:List RecM}(h:ApO S ims S2 er k)(n:Int):aD S2 n=aD S n:=by
 rw[aD,aD,h.pool,gL h.pgs]
theorem dY.cur{n:Int}(hok:SOk S c)(h:dY S n pg S2 0):S2.L=S.L/\S2.frm=S.frm/\S2.im=S.im/\S2.told=S.told/\S2.D.pgs.length=S.D.pgs.length/\∀m:Int,0<=m->aD S2 m=if m=n then pg.p else aD S m:=by
 obtain⟨S1,h1,⟨h2,_⟩|⟨_,⟨t,ht,hn⟩,rfl⟩⟩:=h
 exact absurd rfl h2
 obtain⟨ev,_,_⟩:=Ev.load hok h1
 have hok1:=hok.load h1
 refine⟨ev.L,ev.frm,ev.im,ev.told,ev.len,fun m hm=>?_⟩
 have hnd:(S1.pool.map BfT.n).Nodup:=hok1.nodup
 by_cases e:m=n
 subst e
 rw[if_pos rfl]
 rcases qE (S:=S1) (n:=m) (f:=gz pg) hnd (fun _=>rfl) m with h3|⟨u,hu,e1,_,e3⟩
 have h4:=dB (S:={S1 with pool:=de S1.pool m (gz pg)}) (by show ((de S1.pool m (gz pg)).map BfT.n).Nodup;rw[tR (f:=gz pg) (fun _=>rfl)];exact hnd) (t:=gz pg t) (List.mem_map.2 ⟨t,ht,by rw[if_pos hn]⟩)
 have h5:(gz pg t).n=m:=hn
 rw[h5] at h4;exact h4
 exact e3
 rw[if_neg e,<-ev.cur m hm]
 rcases qE (S:=S1) (n:=n) (f:=gz pg) hnd (fun _=>rfl) m with h3|⟨u,hu,e1,e2,e3⟩
 exact h3
 exact absurd e2 e
theorem PuA.run{cur:Int->PgS}{l:List Int}(h:PuA cur N lsn S l S2 er):∀{c:Nat},SOk S c->(∀n∈l,bC (gQ lsn (N n)))->er=0->S2.L=S.L/\S2.frm=S.frm/\S2.im=S.im/\S2.D.pgs.length=S.D.pgs.length/\(∀m:Int,0<=m->aD S2 m=if m∈l then gQ lsn (N m) else aD S m)/\∀m,(S2.told m).getD false=if m∈l/\(cur m).1≠0/\(N m).1=0 then false else (S.told m).getD false:=by
 induction h with
 |nil S=>intro c _ _ _;exact⟨rfl,rfl,rfl,rfl,fun m _=>by simp,fun m=>by simp⟩
 |bad hp h he=>intro c _ _ h0;exact absurd h0 he
 |cons hp h hr ih=>
  rename_i S S1 S2 n er l pg
  intro c hok hri h0
  have hokx:SOk (if (cur n).1≠0/\(N n).1=0 then ee S n false else S) (c+1):=by
   split
   exact hok.told n false
   exact hok.mono (by omega)
  obtain⟨a1,a2,a3,a4,a5,a6⟩:=dY.cur hokx h
  have hok1:=hokx.put (by rw[hp];exact hri n (by simp)) h
  obtain⟨b1,b2,b3,b5,b6,b7⟩:=ih hok1 (fun m hm=>hri m (by simp[hm])) h0
  have e1:∀X:StM->Prop,X S->X (ee S n false)->X (if (cur n).1≠0/\(N n).1=0 then ee S n false else S):=fun X h1 h2=>by split<;>assumption
  refine⟨b1.trans (a1.trans (e1 (fun Z=>Z.L=S.L) rfl rfl)),b2.trans (a2.trans (e1 (fun Z=>Z.frm=S.frm) rfl rfl)),b3.trans (a3.trans (e1 (fun Z=>Z.im=S.im) rfl rfl)),b5.trans (a5.trans (e1 (fun Z=>Z.D.pgs.length=S.D.pgs.length) rfl rfl)),fun m hm=>?_,fun m=>?_⟩
  rw[b6 m hm,a6 m hm,hp,e1 (fun Z=>aD Z m=aD S m) rfl rfl]
  by_cases h1:m∈l
  rw[if_pos h1,if_pos (by simp[h1])]
  rw[if_neg h1]
  by_cases h2:m=n
  subst h2;rw[if_pos rfl,if_pos (by simp)]
  rw[if_neg h2,if_neg (by simp[h1,h2])]
  rw[b7 m,a4]
  by_cases h1:m∈l/\(cur m).1≠0/\(N m).1=0
  rw[if_pos h1,if_pos ⟨by simp[h1.1],h1.2⟩]
  rw[if_neg h1]
  by_cases h2:m=n
  subst h2
  by_cases h3:(cur m).1≠0/\(N m).1=0
  rw[if_pos h3,if_pos ⟨by simp,h3⟩]
  show (cf S.told m (some false) m).getD false=false
  rw[cf,if_pos rfl];rfl
  rw[if_neg h3,if_neg (fun h=>h3 h.2)]
  have h4:¬(m∈n::l/\(cur m).1≠0/\(N m).1=0):=fun h=>h1 ⟨(List.mem_cons.1 h.1).elim (fun h=>absurd h h2) id,h.2⟩
  rw[if_neg h4]
  exact e1 (fun Z=>(Z.told m).getD false=(S.told m).getD false) rfl (by show (cf S.told n (some false) m).getD false= _;rw[cf,if_neg h2])
end
section
open Go.RowKit
theorem EM:¬DoA r<->(bv r=false\/r.kind=8\/r.kind=9):=by
 unfold DoA
 constructor
 intro h
 cases hr:bv r
 exact .inl rfl
 rw[hr] at h
 by_cases h8:r.kind=8
 exact .inr (.inl h8)
 exact .inr (.inr (Classical.byContradiction fun h9=>h ⟨rfl,h8,h9⟩))
 rintro(h|h|h) ⟨a,b,c⟩
 rw[h] at a;cases a
 exact b h
 exact c h
section
variable{pages:Nat}{L:List RecM}{r:RecM}{told:Int->Bool}
theorem IK(h:¬DoA r):rfE pages L r=1:=if_pos (EM.1 h)
theorem tN(h:DoA r):¬(bv r=false\/r.kind=8\/r.kind=9):=fun h1=>EM.2 h1 h
theorem Ei(h:DoA r)(h1:r.eds.any (d4 pages)=true):rfE pages L r=22:=by rw[rfE,if_neg (tN h),if_pos h1]
theorem IH(h:DoA r)(h1:r.eds.any (d4 pages)=false)(h2:cY (ak L) r.eds≠0):rfE pages L r=cY (ak L) r.eds:=by rw[rfE,if_neg (tN h),if_neg (by rw[h1];decide),if_pos h2]
theorem EJ(h:DoA r)(h1:r.eds.any (d4 pages)=false)(h2:cY (ak L) r.eds=0)(h3:1048576<szF L+((aC r).size+szF (et L (cz r.eds)))):rfE pages L r=31:=by rw[rfE,if_neg (tN h),if_neg (by rw[h1];decide),if_neg (by rw[h2];simp),if_pos h3]
theorem xg(h:DoA r)(h1:r.eds.any (d4 pages)=false)(h2:cY (ak L) r.eds=0)(h3:szF L+((aC r).size+szF (et L (cz r.eds)))<=1048576):rfE pages L r=0:=by rw[rfE,if_neg (tN h),if_neg (by rw[h1];decide),if_neg (by rw[h2];simp),if_neg (by omega)]
theorem jN{e:Int}(h:rfE pages L r=e)(h0:e≠0):rfD pages L told r=(L,0,e,told):=by rw[rfD,if_neg (by rw[h];exact h0),h]
theorem qf(h:rfE pages L r=0):rfD pages L told r=(rfL L r,((rfL L r).length:Int),0,rfT told L r):=if_pos h
end
theorem HL(h:SOk S c){t:BfT}(ht:t∈S.pool)(he:(aM S t).2≠0):(aM S t).2=24:=by
 unfold aM at he |-
 split at he
 rename_i hd
 rw[if_pos hd]
 unfold bK at he |-
 have hw:(wrD0 S t).2=0\/(wrD0 S t).2=24:=by
  unfold wrD0
  split
  rcases kx S.D with ⟨_,e⟩|⟨_,_,e⟩|⟨_,e⟩<;>rw[e]<;>simp
  exact .inl rfl
 split at he
 rename_i h1
 rw[if_pos h1]
 exact hw.resolve_left h1
 rename_i h1
 rw[if_neg h1]
 have hn:0<=t.n/\t.n<(((wrD0 S t).1.pgs.length:Nat):Int):=by
  have hl:(wrD0 S t).1.pgs.length=S.D.pgs.length:=by
   unfold wrD0
   split
   exact c6 (P:=fun D'=>D'.pgs.length=S.D.pgs.length) rfl rfl fun _=>rfl
   rfl
  rw[hl];exact h.keys t ht
 dsimp only at he |-
 rcases wJ (wrD0 S t).1 t.n (aE t.pg.p) hn (dD (h.right t ht)) with ⟨_,e⟩|⟨_,_,e⟩|⟨_,e⟩
 rw[e]
 rw[e]
 rw[e] at he;exact absurd rfl he
 exact absurd rfl he
theorem LdR.e24{n:Int}(h:SOk S c)(hn:0<=n/\n<(S.D.pgs.length:Int))(hl:LdR S n S' er)(he:er≠0):er=24/\S'.D.off=true:=by
 have ho:=((Ev.load h hl).2.1 he).resolve_right (fun h1=>h1 hn)
 refine⟨?_,ho⟩
 cases hl with
 |hit t ht hn=>exact absurd rfl he
 |bad h1 h2=>
  unfold rdS at he |-
  split
  rfl
  rename_i h3;rw[if_neg h3,if_pos hn] at he;exact absurd rfl he
 |new t blk A cc h1 h2 h3=>
  unfold jW at he |-
  split
  rename_i h4
  unfold bw at h4 |-
  split
  rename_i h5
  rw[if_pos h5] at h4
  split
  rename_i h6
  exact HL h.tick (h3 h5) h6
  rename_i h6
  rw[if_neg h6] at h4
  exact absurd rfl h4
  rename_i h5;rw[if_neg h5] at h4;exact absurd rfl h4
  rename_i h4;rw[if_neg h4] at he;exact absurd rfl he
theorem dY.e24{n:Int}(h:SOk S c)(hn:0<=n/\n<(S.D.pgs.length:Int))(hl:dY S n pg S' er)(he:er≠0):er=24/\S'.D.off=true:=by
 obtain⟨S1,h1,⟨_,rfl⟩|⟨h2,_⟩⟩:=hl
 exact h1.e24 h hn he
 exact absurd h2 he
theorem PuA.e24{cur:Int->PgS}{l:List Int}(h:PuA cur N lsn S l S2 er):∀{c:Nat},SOk S c->(∀n∈l,bC (gQ lsn (N n)))->(∀n∈l,0<=n/\n<(S.D.pgs.length:Int))->er≠0->er=24/\S2.D.off=true:=by
 induction h with
 |nil S=>intro c _ _ _ h0;exact absurd rfl h0
 |bad hp h he=>
  rename_i S S2 n er l pg
  intro c hok hri hr _
  refine dY.e24 (S:=if (cur n).1≠0/\(N n).1=0 then ee S n false else S) (c:=c+1) ?_ ?_ h he
  split
  exact hok.told n false
  exact hok.mono (by omega)
  have:=hr n (by simp)
  split<;>exact this
 |cons hp h hr ih=>
  rename_i S S1 S2 n er l pg
  intro c hok hri hg h0
  have hokx:SOk (if (cur n).1≠0/\(N n).1=0 then ee S n false else S) (c+1):=by
   split
   exact hok.told n false
   exact hok.mono (by omega)
  have hl:S1.D.pgs.length=S.D.pgs.length:=(dY.cur hokx h).2.2.2.2.1.trans (by split<;>rfl)
  exact ih (hokx.put (by rw[hp];exact hri n (by simp)) h) (fun m hm=>hri m (by simp[hm])) (fun m hm=>by rw[hl];exact hg m (by simp[hm])) h0
def DoW(S:StM)(told:Int->Bool)(r:RecM)(S2:StM)(n er:Int):Prop:=
 (S2.D.off=true/\(er=24\/er=rfE S.D.pgs.length S.L r))\/(S2.D.off=false/\n=(rfD S.D.pgs.length S.L told r).2.1/\er=rfE S.D.pgs.length S.L r/\S2.L=(rfD S.D.pgs.length S.L told r).1/\S2.D.pgs.length=S.D.pgs.length/\WI S2 (rfD S.D.pgs.length S.L told r).2.2.2)
theorem DoW.no{told:Int->Bool}(hw:WI S told)(hev:Ev S S2)(he:rfE S.D.pgs.length S.L r=er)(h0:er≠0):DoW S told r S2 0 er:=by
 rcases Bool.eq_false_or_eq_true S2.D.off with ho|ho
 exact .inl ⟨ho,.inr he.symm⟩
 refine .inr ⟨ho,?_,he.symm,?_,hev.len,?_⟩<;>rw[jN he h0]
 exact hev.L
 exact hev.wi hw
theorem DoQ.run{told:Int->Bool}{n:Int}(hok:SOk S c)(hw:WI S told)(h:DoQ S r S2 n er):DoW S told r S2 n er:=by
 have hcur:r.eds.any (d4 S.D.pgs.length)=false->∀e∈r.eds,aD S e.1=ak S.L e.1:=fun hp e he=>hw.cur _ (jP hp he).1 (jP hp he).2
 have hos:r.eds.any (d4 S.D.pgs.length)=false->∀n∈cz r.eds,0<=n/\n<(S.D.pgs.length:Int):=fun hp n hn=>by obtain⟨e,he,rfl⟩:=jL.1 hn;exact jP hp he
 have herr:r.eds.any (d4 S.D.pgs.length)=false->cY (aD S) r.eds=cY (ak S.L) r.eds:=fun hp=>BQ _ _ _ (hcur hp)
 have hims:r.eds.any (d4 S.D.pgs.length)=false->eP S (cz r.eds)=et S.L (cz r.eds):=fun hp=>by
  have e1:eu S (cz r.eds)=(cz r.eds).filter fun n=>!fw S.L n:=List.filter_congr fun n hn=>by rw[hw.im n (hos hp n hn).1 (hos hp n hn).2]
  rw[eP,et,e1]
  refine List.map_congr_left fun n hn=>?_
  have hn:=(List.mem_filter.1 hn).1
  rw[f7,hw.cur n (hos hp n hn).1 (hos hp n hn).2]
 have hlz:S.D.log.size=szF S.L:=by rw[hok.log,ck]
 have hnz:r.eds.any (d4 S.D.pgs.length)=false->j8 S r=szF S.L+((aC r).size+szF (et S.L (cz r.eds))):=fun hp=>by rw[j8,hims hp,hlz]
 cases h with
 |arg h=>exact DoW.no hw (Ev.refl S) (IK h) (by decide)
 |page h hp he=>exact DoW.no hw he (Ei h hp) (by decide)
 |pow h hp he ho=>exact .inl ⟨ho,.inl rfl⟩
 |err h hp he h0=>exact DoW.no hw he (by rw[herr hp] at h0 |-;exact IH h hp h0) h0
 |full h hp he h0 hf=>exact DoW.no hw he (EJ h hp (by rw[<-herr hp];exact h0) (by rw[<-hnz hp];exact hf)) (by decide)
 |img h hp he hk h0 hf hi hn=>
  obtain⟨k,o⟩:=hi.run
  rcases o.no hn with ⟨c1,c2⟩|⟨_,c2⟩
  exact .inl ⟨c2,.inl c1⟩
  exfalso
  rw[he.log] at c2
  rw[j8] at hf;omega
 |app h hp he hk h0 hf hi hr hn=>
  rename_i S1 S2 rt
  obtain⟨k,o⟩:=hi.run
  rcases((fu S2 rt).no hn).2.2 with ⟨c1,c2⟩|⟨_,_,c2⟩
  exact .inl ⟨c2,.inl c1⟩
  exfalso
  rw[o.log,(o.ok rfl).1,List.take_length,he.log,hr] at c2
  rw[j8] at hf;omega
 |put h hp he hk h0 hf hi hr ha hu=>
  rename_i S1 S3 rt
  obtain⟨c1,hk⟩:=hk
  obtain⟨k,o⟩:=hi.run
  obtain⟨ok1,_⟩:=o.ok rfl
  have s:=fu S3 rt
  obtain⟨s1,s2,s3⟩:=s.ok ha
  have hro:=hos hp
  have hokI:=hi.sok hk (fun x hx=>by obtain⟨n,hn,rfl⟩:=List.mem_map.1 hx;exact lh hok (hro n (oQ hn)))
  have hok4:=hokI.append (rt:=rt) (by rw[hr];exact h.1)
  have hlen4:(bt S3 rt).1.D.pgs.length=S.D.pgs.length:=by rw[s.pgs,o.pgs];exact he.len
  have hL4:(bt S3 rt).1.L=rfL S.L r:=by
   show (bt S3 rt).1.recs.map RcT.r= _
   rw[s2,List.map_append]
   show S3.L++[rt.r]= _
   rw[o.L,ok1,List.take_length,he.L,hr,hims hp,rfL]
  have hro2:=hok.recs_len
  have hnl:=mu S (cz r.eds)
  have hol:=kp r.eds
  have hml:=(d8 h.1).many
  have hlsn:dX S r=((rfL S.L r).length:Int):=by
   rw[rfL,dX,<-hims hp,eP,List.length_append,List.length_append,List.length_map]
   rw[List.length_map,List.length_singleton];omega
  have hlb:0<=dX S r/\dX S r<=2147483647:=by unfold dX;omega
  have hri:∀n∈cz r.eds,bC (gQ (dX S r) (bp (aD S) r.eds n)):=fun n _=>j5 (iI (fun m=>gk hok m) h0 n) hlb
  by_cases h00:er=0
  rcases Bool.eq_false_or_eq_true S2.D.off with ho|ho
  exact .inl ⟨ho,.inr (by rw[h00];exact(xg h hp (by rw[<-herr hp];exact h0) (by rw[<-hnz hp];exact hf)).symm)⟩
  have hE:=xg h hp (by rw[<-herr hp];exact h0) (by rw[<-hnz hp];exact hf) (pages:=S.D.pgs.length) (L:=S.L)
  obtain⟨a1,a2,a3,a4,a5,a6⟩:=hu.run hok4 hri h00
  have hL:=a1.trans hL4
  have hpl:=a4.trans hlen4
  refine .inr ⟨ho,?_,by rw[hE];exact h00,by rw[qf hE];exact hL,hpl,?_⟩
  rw[qf hE,if_pos h00];exact hlsn
  rw[qf hE]
  have hie:=vt (L:=S.L) (os:=cz r.eds)
  have hcI:ak (S.L++et S.L (cz r.eds))=ak S.L:=funext fun n=>tY (fun x hx=>(hie x hx).1) n
  have hb1:((S.L++et S.L (cz r.eds)).length:Int)+1=dX S r:=by rw[hlsn,rfL,List.length_append (bs:=[r])];simp
  refine⟨fun n n0 n1=>?_,fun n n0 n1=>?_,?_,fun n n0 n1=>?_⟩
  rw[hpl] at n1
  rw[a5 n n0,hL,rfL]
  by_cases hn:n∈cz r.eds
  rw[if_pos hn,HY (by omega) (by rw[hcI,<-herr hp];exact h0) hn,hb1,hcI,tT r.eds n (aD S) (ak S.L) (hcur hp) (hw.cur n n0 n1)]
  rw[if_neg hn,Ds hn,hcI,<-hw.cur n n0 n1,<-he.cur n n0,<-o.cur n,aD,aD,s.pool,gL s.pgs]
  rw[hpl] at n1
  rw[a3,s.im,o.im,he.im,hw.im n n0 n1,hL,rfL,nu,if_neg h.2.2,Ea n S.L (fun x hx=>(hie x hx).2.1),ok1,List.take_length,hims hp]
  have:(r.kind==8)=false:=by simpa using h.2.1
  rw[this];simp
  rw[a2,s.frm,o.frm,he.frm,hw.frm,hL,rfL,gn,if_neg h.2.2,Cy _ (fun x hx=>by rw[(hie x hx).2.1];decide)]
  rw[hpl] at n1
  show (S2.told n).getD false=if n∈cz r.eds/\(ak S.L n).1≠0/\(bp (ak S.L) r.eds n).1=0 then false else told n
  rw[a6 n,s.told,o.told,he.told,hw.told n n0 n1,hw.cur n n0 n1,tT r.eds n (aD S) (ak S.L) (hcur hp) (hw.cur n n0 n1)]
  obtain⟨e1,e2⟩:=hu.e24 hok4 hri (fun n hn=>by rw[hlen4];exact hro n hn) h00
  exact .inl ⟨e2,.inl e1⟩
end
section
open Go.RowKit
def bgD(n:Nat)(note:ByteArray):DkM:=⟨List.replicate n ⟨z5,[]⟩,aC (aJ note),(aC (aJ note)).size,false,false,cX (cX 0)⟩
theorem Kh(n:Nat)(h:note.size<=60000):vC (kA n) note=(bgD n note,0):=by
 have hz:=eR (cR h)
 have e0:(⟨#[]⟩:ByteArray)++aC (aJ note)=aC (aJ note):=by apply gM;rw[cZ];rfl
 have he:apE (kA n) (aC (aJ note))=0:=by
  show (if 1048576<((0:Nat):Int)+ _ then (31:Int) else 0)=0
  rw[if_neg (by omega)]
 have h1:fmR (kA n) note=(⟨List.replicate n ⟨z5,[]⟩,aC (aJ note),0,false,false,cX 0⟩,0):=by
  rw[fmR,he]
  show (apD (aC (aJ note)) _,(0:Int))= _
  show (DkM.mk _ ((⟨#[]⟩:ByteArray)++aC (aJ note)) _ _ _ _,(0:Int))= _
  rw[e0];rfl
 rw[vC,if_neg (by rintro(h2|h2);exact absurd h2 (Nat.lt_irrefl 0);omega),h1,if_neg (by exact(by decide:¬(0:Int)≠0))]
 rfl
theorem Jn(note:ByteArray)(m:Int):ak [aJ note] m=bu:=rfl
theorem D7(note:ByteArray):szF [aJ note]=(aC (aJ note)).size:=by simp[szF]
theorem AF(note:ByteArray):ei [aJ note]=aC (aJ note):=by rw[ei,List.map_cons,List.map_nil,bD,fP,lu]
structure NewS (S:StM) (n:Nat) (note:ByteArray) (bufs:Int):Prop where
 D:S.D=bgD n note
 L:S.L=[aJ note]
 ok:SOk S 0
 wi:WI S (fun _=>false)
 bufs:S.bufs=bufs
theorem NewS.pgs{n:Nat}{bufs:Int}(h:NewS S n note bufs):S.D.pgs.length=n:=by rw[h.D];exact List.length_replicate ..
theorem NR:rdP z5.1=bu:=vD
theorem Nu{n:Nat}{bufs:Int}(hn:n<=400)(hz:note.size<=60000)(hb:1<=bufs/\bufs<=64){rs:List RcT}(hrs:rs.map RcT.r=[aJ note]):NewS (iL (bgD n note) bufs rs 1) n note bufs:=by
 have hf:=eR (cR hz)
 refine⟨rfl,hrs,?_,?_,rfl⟩
 refine SOk.opn hb ?_ (fun x hx=>?_) (fun r hr=>?_) ?_ ?_ (Nat.le_refl _)
 show (List.replicate n _).length<= _;rw[List.length_replicate];exact hn
 rw[List.eq_of_mem_replicate hx];exact Nat.le_refl _
 rw[hrs] at hr;rw[List.mem_singleton.1 hr];exact cR hz
 rw[hrs,AF];rfl
 show (aC (aJ note)).size<= _;omega
 refine⟨fun m h0 h1=>?_,fun m h0 h1=>?_,?_,fun m h0 h1=>rfl⟩
 show aD (iL (bgD n note) bufs rs 1) m=ak (rs.map RcT.r) m
 rw[hrs,Jn,iy (fun t ht=>by cases ht)]
 show rdP (rdT ((List.replicate n (⟨z5,[]⟩:ShD)).getD m.toNat gB)).1= _
 have:(List.replicate n (⟨z5,[]⟩:ShD)).getD m.toNat gB=gB:=by
  rw[List.getD,List.getElem?_replicate]
  split<;>rfl
 rw[this];exact NR
 show _=fw (rs.map RcT.r) m
 rw[hrs];rfl
 show (1:Int)=(bm (rs.map RcT.r):Int)
 rw[hrs];rfl
theorem Kr{n:Nat}{bufs:Int}{R:StM ⊕ DkM}(hn:n<=400)(hz:note.size<=60000)(hb:1<=bufs/\bufs<=64)(h:OpnR (bgD n note) bufs [aJ note] R er):er=0/\∃S,R= .inl S/\NewS S n note bufs:=by
 have hs:¬szF [aJ note]<(bgD n note).log.size:=by rw[D7];exact Nat.lt_irrefl _
 have ho:f6 (bgD n note) [aJ note]=(bgD n note,0):=if_neg hs
 have hf:bm [aJ note]=1:=rfl
 cases h with
 |bufs h1=>exact absurd hb h1
 |off _ h1=>cases h1
 |form _ _ h1=>rw[hf] at h1;cases h1
 |cut _ _ _ h1=>rw[ho] at h1;exact absurd rfl h1
 |bad _ _ _ _ rs hrs hr he=>
  rw[ho,hf] at hr
  cases hr with
  |nil=>exact absurd rfl he
 |ok _ _ _ _ rs hrs hr=>
  rw[ho,hf] at hr
  refine⟨rfl,_,rfl,?_⟩
  cases hr with
  |nil=>exact Nu hn hz hb hrs
theorem St.opnN{L:List Ent}{n:Nat}{bufs:Int}{v:Value}(h:St w0 bor (L++[eOx db (bgD n note) bufs [aJ note] v er fp]) W)(hn:n<=400)(hz:note.size<=60000)(hb:1<=bufs/\bufs<=64):
  ∃sb S,er=0/\v=po sb 0/\NewS S n note bufs/\St w0 bor (L++[eSt sb db S fp]) W:=by
 obtain⟨sb,R,h1,h2,h3⟩:=(h.ok (eOx db (bgD n note) bufs [aJ note] v er fp) (by simp)).holds
 obtain⟨rfl,S,rfl,hS⟩:=Kr hn hz hb h1
 exact⟨sb,S,rfl,h2,hS,St.repl (L2:=[]) h rfl (fun _=>h3) (dx _ _ _ _)⟩
theorem FrR.off{n:Nat}{r:Int}(h:FrR S n S2 r):∀{c:Nat},SOk S c->S.D.off=true->S2.D.off=true:=by
 induction h with
 |stop h=>intro c _ h;exact h
 |told h ht hr ih=>intro c hok ho;exact ih hok ho
 |no h ht hp hk hr ih=>intro c hok ho;exact ih (hp.ok hok) ((hp.ev hok).1.off ho)
 |yes h ht hp hk=>intro c hok ho;exact(hp.ev hok).1.off ho
def FrW(S:StM)(told:Int->Bool)(n:Nat)(S2:StM)(r:Int):Prop:=
 (r= -1/\(∀m:Nat,n<=m->m<S.D.pgs.length->told (m:Int)=true\/(ak S.L (m:Int)).1≠0)/\WI S2 told)\/
 (∃k:Nat,r=(k:Int)/\n<=k/\k<S.D.pgs.length/\told (k:Int)=false/\(ak S.L (k:Int)).1=0/\(∀m:Nat,n<=m->m<k->told (m:Int)=true\/(ak S.L (m:Int)).1≠0)/\WI S2 (fun x=>if x=(k:Int) then true else told x))
theorem FrR.run{n:Nat}{r:Int}(h:FrR S n S2 r):∀{c:Nat}{told:Int->Bool},SOk S c->WI S told->S2.D.off=true\/(S2.D.pgs.length=S.D.pgs.length/\S2.L=S.L/\FrW S told n S2 r):=by
 induction h with
 |stop h=>intro c told hok hw;exact .inr ⟨rfl,rfl,.inl ⟨rfl,fun m h1 h2=>by omega,hw⟩⟩
 |told h ht hr ih=>
  rename_i S S2 n r
  intro c told hok hw
  have h0:told (n:Int)=true:=by rw[<-hw.told (n:Int) (by omega) (by omega)];exact ht
  refine(ih hok hw).imp id fun⟨a,b,h⟩=>⟨a,b,?_⟩
  rcases h with ⟨e,h1,h2⟩|⟨k,e,k1,k2,k3,k4,k5,k6⟩
  exact .inl ⟨e,fun m m1 m2=>by
   rcases Nat.eq_or_lt_of_le m1 with rfl|m1
   exact .inl h0
   exact h1 m m1 m2,h2⟩
  exact .inr ⟨k,e,by omega,k2,k3,k4,fun m m1 m2=>by
   rcases Nat.eq_or_lt_of_le m1 with rfl|m1
   exact .inl h0
   exact k5 m m1 m2,k6⟩
 |no h ht hp hk hr ih=>
  rename_i S S1 S2 n r ok
  intro c told hok hw
  obtain⟨ev,hno,_⟩:=hp.ev hok
  have hok1:=hp.ok hok
  cases hk1:ok with
  |false=>
   refine .inl (hr.off hok1 ((hno hk1).resolve_right (fun h1=>h1 (by omega))))
  |true=>
   have hk0:(ak S.L (n:Int)).1≠0:=by rw[<-hw.cur (n:Int) (by omega) (by omega)];exact fun h0=>hk ⟨hk1,h0⟩
   refine(ih hok1 (ev.wi hw)).imp id fun⟨a,b,h⟩=>⟨a.trans ev.len,b.trans ev.L,?_⟩
   have eL:=ev.L
   have el:=ev.len
   rcases h with ⟨e,h1,h2⟩|⟨k,e,k1,k2,k3,k4,k5,k6⟩
   exact .inl ⟨e,fun m m1 m2=>by
    rcases Nat.eq_or_lt_of_le m1 with rfl|m1
    exact .inr hk0
    rw[<-eL];exact h1 m m1 (by omega),h2⟩
   exact .inr ⟨k,e,by omega,by omega,k3,by rw[<-eL];exact k4,fun m m1 m2=>by
    rcases Nat.eq_or_lt_of_le m1 with rfl|m1
    exact .inr hk0
    rw[<-eL];exact k5 m m1 m2,k6⟩
 |yes h ht hp hk=>
  rename_i S S1 n
  intro c told hok hw
  obtain⟨ev,_,_⟩:=hp.ev hok
  have hw1:=ev.wi hw
  refine .inr ⟨ev.len,ev.L,.inr ⟨n,rfl,Nat.le_refl _,h,by rw[<-hw.told (n:Int) (by omega) (by omega)];exact ht,by rw[<-hw.cur (n:Int) (by omega) (by omega)];exact hk,fun m m1 m2=>by omega,⟨hw1.cur,hw1.im,hw1.frm,fun m m0 m1=>?_⟩⟩⟩
  show (cf S1.told (n:Int) (some true) m).getD false= _
  unfold cf
  split
  rfl
  exact hw1.told m m0 m1
theorem FrR.sok{n:Nat}{r:Int}(h:FrR S n S2 r):∀{c:Nat},SOk S c->SOk S2 (c+3*(S.D.pgs.length-n)+1):=by
 induction h with
 |stop h=>intro c hok;exact hok.mono (by omega)
 |told h ht hr ih=>intro c hok;exact(ih hok).mono (by omega)
 |no h ht hp hk hr ih=>
  intro c hok
  have h1:=ih (hp.ok hok)
  rw[(hp.ev hok).1.len] at h1
  exact h1.mono (by omega)
 |yes h ht hp hk=>intro c hok;exact((hp.ok hok).told _ true).mono (by omega)
end
section
open Go.RowKit
theorem dY.noarm{n:Int}(h:SOk S c)(hp:dY S n pg S2 er)(ha:S.D.armed=false):S2.D.off=S.D.off/\S2.D.armed=false:=by
 obtain⟨S1,h1,h2⟩:=hp
 have ev:=(Ev.load h h1).1
 have hD:S2.D=S1.D:=by
  rcases h2 with ⟨_,rfl⟩|⟨_,_,rfl⟩<;>rfl
 rw[hD]
 exact⟨ev.noarm ha,ev.armed.trans ha⟩
theorem PuA.noarm{cur:Int->PgS}{l:List Int}(h:PuA cur N lsn S l S2 er):∀{c:Nat},SOk S c->(∀n∈l,bC (gQ lsn (N n)))->S.D.armed=false->S2.D.off=S.D.off/\S2.D.armed=false:=by
 induction h with
 |nil S=>intro c _ _ h;exact⟨rfl,h⟩
 |bad hp h he=>
  rename_i S S2 n er l pg
  intro c hok hri ha
  have hokx:SOk (if (cur n).1≠0/\(N n).1=0 then ee S n false else S) (c+1):=by
   split
   exact hok.told n false
   exact hok.mono (by omega)
  have e:(if (cur n).1≠0/\(N n).1=0 then ee S n false else S).D=S.D:=by split<;>rfl
  have:=h.noarm hokx (by rw[e];exact ha)
  rw[e] at this;exact this
 |cons hp h hr ih=>
  rename_i S S1 S2 n er l pg
  intro c hok hri ha
  have hokx:SOk (if (cur n).1≠0/\(N n).1=0 then ee S n false else S) (c+1):=by
   split
   exact hok.told n false
   exact hok.mono (by omega)
  have e:(if (cur n).1≠0/\(N n).1=0 then ee S n false else S).D=S.D:=by split<;>rfl
  obtain⟨a,b⟩:=h.noarm hokx (by rw[e];exact ha)
  rw[e] at a
  obtain⟨a2,b2⟩:=ih (hokx.put (by rw[hp];exact hri n (by simp)) h) (fun m hm=>hri m (by simp[hm])) b
  exact⟨a2.trans a,b2⟩
theorem DoQ.noarm{n:Int}(hok:SOk S c)(h:DoQ S r S2 n er)(ha:S.D.armed=false):S2.D.off=S.D.off/\S2.D.armed=false:=by
 have hev:∀S':StM,Ev S S'->S'.D.off=S.D.off/\S'.D.armed=false:=fun S' ev=>⟨ev.noarm ha,ev.armed.trans ha⟩
 cases h with
 |arg h=>exact⟨rfl,ha⟩
 |page h hp he=>exact hev _ he
 |pow h hp he ho=>exact hev _ he
 |err h hp he h0=>exact hev _ he
 |full h hp he h0 hf=>exact hev _ he
 |img h hp he hk h0 hf hi hn=>
  obtain⟨k,o⟩:=hi.run
  obtain⟨a,b⟩:=hev _ he
  exact⟨(o.noarm b).trans a,o.armed.trans b⟩
 |app h hp he hk h0 hf hi hr hn=>
  rename_i S1 S2 rt
  obtain⟨k,o⟩:=hi.run
  obtain⟨a,b⟩:=hev _ he
  have s:=fu S2 rt
  have b2:=o.armed.trans b
  exact⟨(s.noarm b2).trans ((o.noarm b).trans a),s.armed.trans b2⟩
 |put h hp he hk h0 hf hi hr ha2 hu=>
  rename_i S1 S3 rt
  obtain⟨c1,hk⟩:=hk
  obtain⟨k,o⟩:=hi.run
  obtain⟨a,b⟩:=hev _ he
  have s:=fu S3 rt
  have b2:=o.armed.trans b
  have hro:∀n∈cz r.eds,0<=n/\n<(S.D.pgs.length:Int):=fun n hn=>by obtain⟨e,he,rfl⟩:=jL.1 hn;exact jP hp he
  have hokI:=hi.sok hk (fun x hx=>by obtain⟨n,hn,rfl⟩:=List.mem_map.1 hx;exact lh hok (hro n (oQ hn)))
  have hok4:=hokI.append (rt:=rt) (by rw[hr];exact h.1)
  have hlb:0<=dX S r/\dX S r<=2147483647:=by
   have h1:=hok.recs_len
   have h2:=mu S (cz r.eds)
   have h3:=kp r.eds
   have h4:=(d8 h.1).many
   unfold dX;omega
  obtain⟨a3,b3⟩:=hu.noarm hok4 (fun n _=>j5 (iI (fun m=>gk hok m) h0 n) hlb) (s.armed.trans b2)
  exact⟨a3.trans ((s.noarm b2).trans ((o.noarm b).trans a)),b3⟩
structure Nice (S:StM) (L:List RecM) (told:Int->Bool) (p c:Nat):Prop where
 ok:SOk S c
 wi:WI S told
 on:S.D.off=false
 ar:S.D.armed=false
 eL:S.L=L
 ep:S.D.pgs.length=p
theorem Ev.nice{L:List RecM}{told:Int->Bool}(h:Ev S S')(ho:SOk S' c')(hn:Nice S L told p c):Nice S' L told p c':=
 ⟨ho,h.wi hn.wi,(h.noarm hn.ar).trans hn.on,h.armed.trans hn.ar,h.L.trans hn.eL,h.len.trans hn.ep⟩
theorem NewS.nice{n:Nat}{bufs:Int}(h:NewS S n note bufs):Nice S [aJ note] (fun _=>false) n 0:=⟨h.ok,h.wi,by rw[h.D];rfl,by rw[h.D];rfl,h.L,h.pgs⟩
theorem Nice.do{L:List RecM}{told:Int->Bool}{n:Int}(h:Nice S L told p c)(hq:DoQ S r S2 n er)(ho:SOk S2 c'):n=(rfD p L told r).2.1/\er=rfE p L r/\Nice S2 (rfD p L told r).1 (rfD p L told r).2.2.2 p c':=by
 obtain⟨a,b⟩:=hq.noarm h.ok h.ar
 have e1:=h.eL
 have e2:=h.ep
 rcases hq.run h.ok h.wi with ⟨h1,_⟩|⟨h1,h2,h3,h4,h5,h6⟩
 rw[a,h.on] at h1;cases h1
 rw[e1,e2] at h2 h3 h4 h6
 exact⟨h2,h3,⟨ho,h6,h1,b,h4,h5.trans e2⟩⟩
theorem Nice.page{L:List RecM}{told:Int->Bool}{n:Int}{ok:Bool}(h:Nice S L told p c)(hq:PaQ S n S2 ok):ok=decide (0<=n/\n<(p:Int))/\pgF S n ok=(if 0<=n/\n<(p:Int) then ak L n else bu)/\Nice S2 L told p (c+3):=by
 obtain⟨ev,h1,h2⟩:=hq.ev h.ok
 have hS2:=ev.nice (hq.ok h.ok) h
 rw[h.ep] at h1 h2
 cases ok with
 |true=>
  have h3:=h2 rfl
  refine⟨(decide_eq_true h3).symm,?_,hS2⟩
  rw[if_pos h3,pgF,if_pos rfl,h.wi.cur n h3.1 (by rw[h.ep];exact h3.2),h.eL]
 |false=>
  rcases h1 rfl with h3|h3
  rw[hS2.on] at h3;cases h3
  exact⟨(decide_eq_false h3).symm,by rw[if_neg h3];rfl,hS2⟩
def frO(p:Nat)(L:List RecM)(told:Int->Bool):Option Nat:=(List.range p).find? fun k=>!told (k:Int)&&(ak L (k:Int)).1==0
def frF(p:Nat)(L:List RecM)(told:Int->Bool):Int:=match frO p L told with|some k=>(k:Int)|none=> -1
def frT(p:Nat)(L:List RecM)(told:Int->Bool):Int->Bool:=match frO p L told with|some k=>fun x=>if x=(k:Int) then true else told x|none=>told
theorem x7{L:List RecM}{told:Int->Bool}(h:∀m:Nat,0<=m->m<p->told (m:Int)=true\/(ak L (m:Int)).1≠0):frO p L told=none:=by
 rw[frO,List.find?_eq_none]
 intro k hk
 rcases h k (Nat.zero_le _) (List.mem_range.1 hk) with h1|h1<;>simp[h1]
theorem xV{L:List RecM}{told:Int->Bool}(hk:k<p)(h1:told (k:Int)=false)(h2:(ak L (k:Int)).1=0)(h:∀m:Nat,0<=m->m<k->told (m:Int)=true\/(ak L (m:Int)).1≠0):frO p L told=some k:=by
 have e:List.range p=List.range k++k::(List.range' (k+1) (p-k-1)):=by
  have h3:p=k+(1+(p-k-1)):=by omega
  conv=>lhs;rw[h3,List.range_eq_range',<-List.range'_append_1 (s:=0) (m:=k)]
  rw[List.range_eq_range',Nat.zero_add]
  congr 1
  rw[Nat.add_comm 1,List.range'_succ]
 rw[frO,e,List.find?_append,List.find?_eq_none.2 (fun m hm=>by rcases h m (Nat.zero_le _) (List.mem_range.1 hm) with h1|h1<;>simp[h1])]
 simp[h1,h2]
theorem Nice.fresh{L:List RecM}{told:Int->Bool}{r:Int}(h:Nice S L told p c)(hq:FrR S 0 S2 r):r=frF p L told/\Nice S2 L (frT p L told) p (c+3*p+1):=by
 have ho:=hq.sok h.ok
 rw[h.ep,Nat.sub_zero] at ho
 have hno:S2.D.off=S.D.off/\S2.D.armed=false:=by
  have hk:∀{S S2:StM}{n:Nat}{r:Int},FrR S n S2 r->∀{c:Nat},SOk S c->S.D.armed=false->S2.D.off=S.D.off/\S2.D.armed=false:=by
   intro S S2 n r h
   induction h with
   |stop h=>intro c _ ha;exact⟨rfl,ha⟩
   |told h ht hr ih=>intro c hok ha;exact ih hok ha
   |no h ht hp hk hr ih=>
    intro c hok ha
    obtain⟨ev,_,_⟩:=hp.ev hok
    obtain⟨a,b⟩:=ih (hp.ok hok) (ev.armed.trans ha)
    exact⟨a.trans (ev.noarm ha),b⟩
   |yes h ht hp hk=>intro c hok ha;have ev:=(hp.ev hok).1;exact⟨ev.noarm ha,ev.armed.trans ha⟩
  exact hk hq h.ok h.ar
 rcases hq.run h.ok h.wi with h1|⟨h1,h2,h3⟩
 rw[hno.1,h.on] at h1;cases h1
 have e1:=h.ep
 have e2:=h.eL
 rcases h3 with ⟨rfl,a,b⟩|⟨k,rfl,k1,k2,k3,k4,k5,k6⟩
 have e:=x7 (p:=p) (L:=L) (told:=told) (fun m m1 m2=>by rw[<-e2];exact a m m1 (by omega))
 refine⟨by rw[frF,e],?_⟩
 rw[frT,e]
 exact⟨ho,b,hno.1.trans h.on,hno.2,h2.trans e2,h1.trans e1⟩
 have e:=xV (p:=p) (L:=L) (told:=told) (by omega) k3 (by rw[<-e2];exact k4) (fun m m1 m2=>by rw[<-e2];exact k5 m m1 m2)
 refine⟨by rw[frF,e],?_⟩
 rw[frT,e]
 exact⟨ho,k6,hno.1.trans h.on,hno.2,h2.trans e2,h1.trans e1⟩
theorem Nice.flush{L:List RecM}{told:Int->Bool}(h:Nice S L told p c):(opD S.D 0 flD).2=0/\Nice (c9 S (opD S.D 0 flD).1) L told p c:=by
 have ev:Ev S (c9 S (opD S.D 0 flD).1):=Ev.disk (c6 (P:=fun D'=>D'.pgs=S.D.pgs) rfl rfl fun _=>rfl) (c6 (P:=fun D'=>D'.log=S.D.log) rfl rfl fun _=>rfl) (c6 (P:=fun D'=>D'.fl=S.D.fl\/D'.fl=S.D.log.size) (.inl rfl) (.inl rfl) fun _=> .inr rfl) (c6 (P:=fun D'=>D'.armed=S.D.armed) rfl rfl fun _=>rfl) (fun ho=>c6 (P:=fun D'=>D'.off=true) ho rfl fun _=>ho) (fun ha=>by
  rcases kx S.D with ⟨_,e⟩|⟨_,h3,_⟩|⟨_,e⟩
  rw[e]
  rw[h3] at ha;cases ha
  rw[e];rfl)
 refine⟨?_,ev.nice h.ok.flush h⟩
 rcases kx S.D with ⟨h1,_⟩|⟨_,h3,_⟩|⟨_,e⟩
 rw[h.on] at h1;cases h1
 rw[h.ar] at h3;cases h3
 rw[e]
theorem Nice.write{L:List RecM}{told:Int->Bool}{n:Int}(h:Nice S L told p c)(hq:WrQ S n S2 er):er=(if 0<=n/\n<(p:Int) then 0 else 22)/\Nice S2 L told p (c+4):=by
 obtain⟨S1,er1,h1,h2⟩:=hq
 obtain⟨ev,a,b⟩:=Ev.load h.ok h1
 have hok1:=h.ok.load h1
 have hN1:=ev.nice hok1 h
 rcases h2 with ⟨h3,rfl,rfl⟩|⟨rfl,t,ht,hn,h4⟩
 have hnr:=(a h3).resolve_left (by rw[hN1.on];decide)
 rw[h.ep] at hnr
 refine⟨?_,⟨hok1.mono (by omega),hN1.wi,hN1.on,hN1.ar,hN1.eL,hN1.ep⟩⟩
 rw[if_neg hnr]
 cases h1 with
 |hit t ht hn=>exact absurd rfl h3
 |bad h5 h6=>
  unfold rdS at h3 |-
  rw[h.on,if_neg (by decide),h.ep,if_neg hnr]
 |new t blk A cc h5 h6 h7=>exact absurd (by rw[<-h.ep];exact vw h6) hnr
 have hr:=(b rfl).1
 rw[h.ep] at hr
 have e4:(bK S1 t).1=S2/\(bK S1 t).2=er:=⟨by rw[h4],by rw[h4]⟩
 obtain⟨ev2,ho2⟩:=Ev.write hok1 ht
 rw[e4.1] at ev2 ho2
 rw[e4.2] at ho2
 have hN2:=ev2.nice (e4.1 ▸ hok1.write t ht) hN1
 refine⟨?_,hN2⟩
 rw[if_pos hr]
 refine Classical.byContradiction fun h5=>?_
 have:=ho2 h5
 rw[hN2.on] at this;cases this
end
section
open Go.RowKit
theorem Nice.rr{L:List RecM}{told:Int->Bool}(h:Nice S L told p c)(q:List RcT):Nice {S with rr:=q} L told p c:=⟨h.ok.rr q,⟨h.wi.cur,h.wi.im,h.wi.frm,h.wi.told⟩,h.on,h.ar,h.eL,h.ep⟩
theorem Nice.mono{L:List RecM}{told:Int->Bool}(h:Nice S L told p c)(hc:c<=c'):Nice S L told p c':=⟨h.ok.mono hc,h.wi,h.on,h.ar,h.eL,h.ep⟩
theorem ClA.run{l:List Int}(h:ClA S l S2 er):∀{c:Nat},SOk S c->Ev S S2/\SOk S2 (c+l.length)/\(er≠0->S2.D.off=true):=by
 induction h with
 |nil S=>intro c h;exact⟨Ev.refl S,h,fun h=>absurd rfl h⟩
 |bad ht he=>
  intro c h
  obtain⟨a,b⟩:=Ev.clean h ht
  exact⟨a,(h.clean _ ht).mono (by simp only[List.length_cons];omega),b⟩
 |cons ht he hr ih=>
  intro c h
  obtain⟨a,_⟩:=Ev.clean h ht
  obtain⟨a2,b2,d2⟩:=ih (h.clean _ ht)
  exact⟨a.trans a2 h.fl,b2.mono (by simp only[List.length_cons];omega),d2⟩
theorem HM{D:DkM}(n:Int):shP (opD D 0 syD).1 n=shP D n:=c6 (P:=fun D'=>shP D' n=shP D n) rfl rfl fun _=>by
 show rdP (rdT ((D.pgs.map syS).getD n.toNat gB)).1= _
 have e:(D.pgs.map syS).getD n.toNat gB=syS (D.pgs.getD n.toNat gB):=by
  rw[List.getD,List.getD,List.getElem?_map]
  cases D.pgs[n.toNat]? <;>rfl
 rw[e];rfl
theorem GK(S:StM)(n:Int):aD (c9 S (opD S.D 0 syD).1) n=aD S n:=by
 show (match S.pool.find? (fun t=>t.n==n) with|some t=>t.pg.p|none=>shP (opD S.D 0 syD).1 n)=aD S n
 rw[HM];rfl
theorem Nice.sync{L:List RecM}{told:Int->Bool}(h:Nice S L told p c):(opD S.D 0 syD).2=0/\Nice (c9 S (opD S.D 0 syD).1) L told p c:=by
 have hl:(opD S.D 0 syD).1.pgs.length=S.D.pgs.length:=c6 (P:=fun D'=>D'.pgs.length=S.D.pgs.length) rfl rfl fun _=>List.length_map ..
 rcases wm S.D 0 syD with ⟨h1,_⟩|⟨_,h1,_⟩|⟨_,_,h1,_⟩|⟨_,_,e⟩
 rw[h.on] at h1;cases h1
 exact absurd rfl h1
 rw[h.ar] at h1;cases h1
 have hw:WI (c9 S (opD S.D 0 syD).1) told:=⟨fun n n0 n1=>by
  rw[GK]
  exact h.wi.cur n n0 (by rw[<-hl];exact n1),fun n n0 n1=>h.wi.im n n0 (by rw[<-hl];exact n1),h.wi.frm,fun n n0 n1=>h.wi.told n n0 (by rw[<-hl];exact n1)⟩
 refine⟨by rw[e],⟨h.ok.sync,hw,?_,?_,h.eL,hl.trans h.ep⟩⟩
 show (opD S.D 0 syD).1.off=false
 rw[e];exact h.on
 show (opD S.D 0 syD).1.armed=false
 rw[e];exact h.ar
def fM(L:List RecM)(note:ByteArray):Int:=if 60000<note.size then 1 else if 1048576<szF L+(aC (aJ note)).size then 31 else 0
def ckL(L:List RecM)(note:ByteArray):List RecM:=if fM L note=0 then L++[aJ note] else L
theorem Nice.app{L:List RecM}{told:Int->Bool}(h:Nice S L told p c)(hn:note.size<=60000)(he:bt S (rcI (aJ note))=(S2,0)):SOk S2 c/\(∀n:Int,0<=n->n<(p:Int)->aD S2 n=ak (L++[aJ note]) n)/\S2.D.off=false/\S2.D.armed=false/\S2.L=L++[aJ note]/\S2.D.pgs.length=p/\S2.told=S.told/\S2.recs.length=S.recs.length+1:=by
 have s:=fu S (rcI (aJ note))
 have hok:=h.ok.append (rt:=rcI (aJ note)) (cR hn)
 rw[he] at s hok
 obtain⟨s1,s2,s3⟩:=s.ok rfl
 refine⟨hok,fun n n0 n1=>?_,s1,s.armed.trans h.ar,?_,?_,s.told,?_⟩
 rw[gX]
 show aD S2 n=ak L n
 rw[aD,s.pool,gL s.pgs,<-h.eL,<-h.wi.cur n n0 (by rw[h.ep];exact n1)];rfl
 show S2.recs.map RcT.r= _
 rw[s2,List.map_append,<-h.eL];rfl
 rw[s.pgs];exact h.ep
 rw[s2];simp
theorem Nice.check{L:List RecM}{told:Int->Bool}(h:Nice S L told p c)(hq:CkQ S note S2 er)(ho:SOk S2 c'):er=fM L note/\Nice S2 (ckL L note) told p c':=by
 have hlz:S.D.log.size=szF L:=by rw[h.ok.log,ck,h.eL]
 have hno:∀e:Int,fM L note=e->e≠0->ckL L note=L:=fun e h1 h2=>if_neg (by rw[h1];exact h2)
 have hcl:∀{q:List RcT}{ns:List Int}{S1:StM}{e:Int},ClA {S with rr:=q} ns S1 e->Nice S1 L told p (c+ns.length)/\e=0:=fun {q ns S1 e} hc=>by
  obtain⟨ev,ok,off⟩:=hc.run (h.rr q).ok
  have hN:=ev.nice ok (h.rr q)
  refine⟨hN,Classical.byContradiction fun h1=>?_⟩
  have:=off h1
  rw[hN.on] at this;cases this
 cases hq with
 |arg h1=>
  have e:fM L note=1:=if_pos h1
  exact⟨e.symm,by rw[hno 1 e (by decide)];exact⟨ho,h.wi,h.on,h.ar,h.eL,h.ep⟩⟩
 |full h1 hf=>
  have e:fM L note=31:=by rw[fM,if_neg (by omega),if_pos (by omega)]
  rw[hno 31 e (by decide)]
  exact⟨e.symm,⟨ho,(h.rr _).wi,h.on,h.ar,h.eL,h.ep⟩⟩
 |cl h1 hf hns hc he=>exact absurd (hcl hc).2 he
 |sync h1 hf hns hc he=>exact absurd (hcl hc).1.sync.1 he
 |app h1 hf hns hc h3 he=>
  rename_i q ns S1
  have hN:=(hcl hc).1.sync.2
  exfalso
  rcases((fu _ _).no he).2.2 with ⟨_,c1⟩|⟨_,_,c2⟩
  have:=(fu (c9 S1 (opD S1.D 0 syD).1) (rcI (aJ note))).noarm hN.ar
  rw[this,hN.on] at c1;cases c1
  have:szF L+(aC (aJ note)).size<=1048576:=by omega
  have h5:(c9 S1 (opD S1.D 0 syD).1).D.log.size=szF L:=by rw[hN.ok.log,ck,hN.eL]
  rw[h5] at c2
  have h6:(aC (rcI (aJ note)).r).size=(aC (aJ note)).size:=rfl
  omega
 |flush h1 hf hns hc h3 h2 he=>
  rename_i q ns S1 S3
  have hN:=(hcl hc).1.sync.2
  obtain⟨a1,a2,a3,a4,a5,a6,a7,a8⟩:=hN.app h1 h2
  exfalso
  rcases kx S3.D with ⟨c1,_⟩|⟨_,c1,_⟩|⟨_,c1⟩
  rw[a3] at c1;cases c1
  rw[a4] at c1;cases c1
  rw[c1] at he;exact he rfl
 |ok h1 hf hns hc h3 h2 he=>
  rename_i q ns S1 S3
  have hN:=(hcl hc).1.sync.2
  obtain⟨a1,a2,a3,a4,a5,a6,a7,a8⟩:=hN.app h1 h2
  have e:fM L note=0:=by rw[fM,if_neg (by omega),if_neg (by omega)]
  have eL:ckL L note=L++[aJ note]:=if_pos e
  refine⟨e.symm,?_⟩
  rw[eL]
  have hp:(opD S3.D 0 flD).1.pgs=S3.D.pgs:=c6 (P:=fun D'=>D'.pgs=S3.D.pgs) rfl rfl fun _=>rfl
  have hoff:(opD S3.D 0 flD).1.off=false:=by rw[(mO he).2.2];exact a3
  have har:(opD S3.D 0 flD).1.armed=false:=by rw[(mO he).2.2];exact a4
  have hlen:(opD S3.D 0 flD).1.pgs.length=p:=by rw[hp];exact a6
  refine⟨ho,⟨fun n n0 n1=>?_,fun n n0 n1=>?_,?_,fun n n0 n1=>?_⟩,hoff,har,a5,hlen⟩
  have n1:n<((opD S3.D 0 flD).1.pgs.length:Int):=n1
  rw[hlen] at n1
  show (match S3.pool.find? (fun t=>t.n==n) with|some t=>t.pg.p|none=>shP (opD S3.D 0 flD).1 n)=ak S3.L n
  rw[a5,<-a2 n n0 n1,gL hp];rfl
  show false=fw S3.L n
  rw[a5,nu,if_pos (show (aJ note).kind=9 from rfl)]
  show (S3.recs.length:Int)=(bm S3.L:Int)
  rw[a5,gn,if_pos (show (aJ note).kind=9 from rfl),a8]
  have:(c9 S1 (opD S1.D 0 syD).1).recs.length=L.length:=by rw[<-hN.eL];exact(List.length_map ..).symm
  rw[this]
  have n1:n<((opD S3.D 0 flD).1.pgs.length:Int):=n1
  rw[hlen] at n1
  show (S3.told n).getD false=told n
  rw[a7]
  exact hN.wi.told n n0 (by rw[hN.ep];exact n1)
end
end Go.Proofs.YtcdjaepgahbhfaaGreat
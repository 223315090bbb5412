import Derived.Test.YtcdjaepgahbhfaaGreatZ6
set_option linter.unusedVariables false
set_option linter.unusedSimpArgs false
set_option maxRecDepth 100000
set_option maxHeartbeats 16000000
namespace Go.Proofs.YtcdjaepgahbhfaaGreat
variable{I:List ByteArray}{L:List RecM}{W w w0:World}{args:Array Value}{bor fp:List Nat}{bufs ep l n:Int}{c db k m p sb:Nat}{cur:Int->PgS}{e:Ent}{eds:List EdT}{f:FuncId}{note s:ByteArray}{os:List Int}{r:RecM}{rs:List RcT}{told:Int->Bool}
section
open Go.RowKit
theorem Tryz.infoBoolR:(Tryz.prog.info? 4).map (fun i=>(i.zero,i.size,i.bytes))=some (some (.bool false),1,1):=by kernel_rfl
def tB(told:Int->Bool)(p:Nat):List Value:=(List.range p).map fun k:Nat=>Value.bool (told (k:Int))
theorem oy(told:Int->Bool)(p:Nat):(tB told p).length=p:=by simp[tB]
theorem ui(h:k<p):(tB told p)[k]? =some (.bool (told (k:Int))):=by simp[tB,h]
theorem EC(b:Bool):(tB told p).set k (.bool b)=tB (fun x=>if x=(k:Int) then b else told x) p:=by
 refine List.ext_getElem? fun i=>?_
 rw[List.getElem?_set,oy]
 by_cases hi:i<p
 rw[ui hi,ui hi]
 by_cases hk:k=i
 subst hk;rw[if_pos rfl,if_pos hi,if_pos rfl]
 rw[if_neg hk,if_neg (fun h=>hk (by omega))]
 have h2:∀f,(tB f p)[i]? =none:=fun f=>List.getElem?_eq_none (by rw[oy];omega)
 rw[h2,h2]
 by_cases hk:k=i
 rw[if_pos hk,if_neg (by omega)]
 rw[if_neg hk]
def rqL(rb:Nat)(rs:List RcT)(told:Int->Bool)(p:Nat)(rr:List RcT)(RA:Option Addr)(rc:Nat)(TA:Option Addr)(tc:Nat):List Ent:=
 [eB rb 69 #[vi p,.slice RA rs.length rc,vi (szF (rs.map RcT.r):Int),.slice TA p tc],eO 27 8 (.slice RA rs.length rc) rs.length (rs.flatMap rcC),eO 4 1 (.slice TA p tc) p (tB told p),eRc rr]
def eRq(rb:Nat)(rs:List RcT)(told:Int->Bool)(p:Nat)(rr:List RcT)(fp:List Nat):Ent:=⟨fp,fun W=>∃RA rc TA tc,fp=(rqL rb rs told p rr RA rc TA tc).flatMap (·.fp)/\(rqL rb rs told p rr RA rc TA tc).Pairwise Ent.apart/\∀e∈rqL rb rs told p rr RA rc TA tc,e.holds W/\e.loc⟩
theorem mo(rb:Nat)(rs:List RcT)(told:Int->Bool)(p:Nat)(rr:List RcT)(fp:List Nat):(eRq rb rs told p rr fp).loc:=fun W W' hk h=>by
 obtain⟨RA,rc,TA,tc,h1,h2,h3⟩:=h
 exact⟨RA,rc,TA,tc,h1,h2,fun e he=>⟨(h3 e he).2 W W' (fun k hk'=>hk k (by rw[eRq,h1];exact List.mem_flatMap.2 ⟨e,he,hk'⟩)) (h3 e he).1,(h3 e he).2⟩⟩
theorem oV{rb:Nat}{rr:List RcT}(h:e=eRq rb rs told p rr fp):e=eRq rb rs told p rr e.fp:=by subst h;rfl
section
variable{w0 W:World}{bor:List Nat}{L:List Ent}{rb:Nat}{rs:List RcT}{told:Int->Bool}{p:Nat}{rr:List RcT}{fp:List Nat}
theorem St.unrq(h:St w0 bor (eRq rb rs told p rr fp::L) W):∃RA rc TA tc,St w0 bor (eB rb 69 #[vi p,.slice RA rs.length rc,vi (szF (rs.map RcT.r):Int),.slice TA p tc]::eO 27 8 (.slice RA rs.length rc) rs.length (rs.flatMap rcC)::eO 4 1 (.slice TA p tc) p (tB told p)::eRc rr::L) W:=by
 obtain⟨RA,rc,TA,tc,h1,h2,h3⟩:=(h.ok (eRq rb rs told p rr fp) (by simp)).holds
 exact⟨RA,rc,TA,tc,((h.perm (List.perm_append_singleton _ L).symm).unpackL h1 h3 h2).perm List.perm_append_comm⟩
theorem St.rq{RA:Option Addr}{rc:Nat}{TA:Option Addr}{tc:Nat}(h:St w0 bor (rqL rb rs told p rr RA rc TA tc++L) W):∃fp,St w0 bor (eRq rb rs told p rr fp::L) W:=by
 have h':=h.perm List.perm_append_comm
 have h4:=St.pack (E:=eRq rb rs told p rr ((rqL rb rs told p rr RA rc TA tc).flatMap (·.fp))) h' rfl ⟨RA,rc,TA,tc,rfl,(List.pairwise_append.1 h'.apart).2.1,fun e he=>⟨(h'.ok e (List.mem_append_right _ he)).holds,(h'.ok e (List.mem_append_right _ he)).loc⟩⟩ (mo _ _ _ _ _ _)
 exact⟨_,h4.perm (List.perm_append_singleton _ _)⟩
theorem St.rqR{t:RcT}(h:St w0 bor (gU t::eRq rb rs told p rr fp::L) W):∃fp',St w0 bor (eRq rb rs told p (rr++[t]) fp'::L) W:=by
 obtain⟨RA,rc,TA,tc,h1⟩:=(h.u1).unrq
 have h2:St w0 bor (eRc rr::gU t:: _:: _:: _::L) W:=h1.u4.u4
 have h3:St w0 bor (eRc (rr++[t]):: _:: _:: _::L) W:=St.fr (R:=[_,_]) h2 St.mergeR
 exact St.rq h3.u3.u3.u3
end
def eRf(rb:Nat)(L:List RecM)(told:Int->Bool)(p:Nat)(fp:List Nat):Ent:=⟨fp,fun W=>∃rs rr,rs.map RcT.r=L/\(∀t∈rs,t∈rr)/\(eRq rb rs told p rr fp).holds W⟩
theorem vK(rb:Nat)(L:List RecM)(told:Int->Bool)(p:Nat)(fp:List Nat):(eRf rb L told p fp).loc:=fun W W' hk h=>let ⟨rs,rr,h1,h2,h3⟩:=h;⟨rs,rr,h1,h2,mo rb rs told p rr fp W W' hk h3⟩
theorem sR{rb:Nat}(h:e=eRf rb L told p fp):e=eRf rb L told p e.fp:=by subst h;rfl
section
variable{w0 W:World}{bor:List Nat}{R:List Ent}{rb:Nat}{rs:List RcT}{L:List RecM}{told:Int->Bool}{p:Nat}{rr:List RcT}{fp:List Nat}
theorem St.unrf(h:St w0 bor (eRf rb L told p fp::R) W):∃rs rr,rs.map RcT.r=L/\(∀t∈rs,t∈rr)/\St w0 bor (eRq rb rs told p rr fp::R) W:=by
 obtain⟨rs,rr,h1,h2,h3⟩:=(h.ok (eRf rb L told p fp) (by simp)).holds
 exact⟨rs,rr,h1,h2,St.repl (L1:=[]) h rfl (fun _=>h3) (mo _ _ _ _ _ _)⟩
theorem St.rf(h:St w0 bor (eRq rb rs told p rr fp::R) W)(h1:rs.map RcT.r=L)(h2:∀t∈rs,t∈rr):St w0 bor (eRf rb L told p fp::R) W:=St.repl (L1:=[]) h rfl (fun h3=>⟨rs,rr,h1,h2,h3⟩) (vK _ _ _ _ _)
theorem St.nRc(note:ByteArray)(h:St w0 bor R W):St w0 bor (eRc [rcI (aJ note)]::R) W:=by
 have h1:=(fh (h.nM (f:=gU)) 84 3).perm (List.perm_append_singleton _ _)
 have h2:St w0 bor (eRc []::gU (rcI (aJ note))::R) W:=h1.u1
 exact St.fr (R:=[_,_]) h2 St.mergeR
end
theorem tP{L:List RecM}(h:∀r∈L,bv r=true)(hz:szF L<=1048576):L.length<=131072:=by have:=oz h;omega
theorem Gi(rs:List RcT)(t:RcT):rs.flatMap rcC++rcC t=(rs++[t]).flatMap rcC:=by rw[List.flatMap_append];simp
theorem oS(rb:Nat)(rs:List RcT)(told:Int->Bool)(p:Nat)(rr:List RcT)(t:RcT)(fp:List Nat)(w:World)(hB:(eRq rb rs told p rr fp).holds w)(hlt:∀k∈fp,k<w.heap.size)(ht:t∈rr)(hrt:bv t.r=true)(hl:rs.length<=200000)(hsz:szF (rs.map RcT.r)<=100000000):
  Calls Tryz.prog 85 #[po rb 0,.agg #[.int .i64 t.r.kind,.int .i64 t.r.xid,.int .i64 t.r.tbl,sn,sn,.slice t.A t.r.eds.length t.c,sn,.string t.r.note]] w ((fun e w2=>e= .returned (.tuple #[])/\∃fp2,St w fp [eRq rb (rs++[t]) told p rr fp2] w2)):=by
 have st1:St w fp [eRq rb rs told p rr fp] w:=St.lend hB (mo _ _ _ _ _ _) hlt
 have hfz:=eR hrt
 have hro:=d8 hrt
 go_enter Tryz.func85,Tryz.ntmps85
 have al:=st1
 refine wq (sqr ?_)
 refine ce #[vi t.r.kind,vi t.r.xid,vi t.r.tbl,sn,sn,.slice t.A t.r.eds.length t.c,sn,.string t.r.note] al fun cT W1 aA=>?_
 refine aa (wq ?_)
 obtain⟨QA,qc,TA,tc,hq2_⟩:=aA.unrq
 refine aH [0,0,2,6,14,0,32,126,255,511,1023] [[],[],[],[],[0],[4],[],[5,1],[],[],[0]] [[],[],[],[],[],[],[5],[6],[],[],[7]] [[],[],[],[],[],[],[],[1],[],[],[0]] [.k 4 (vp rb),.k 5 (vp rb),.k 6 (vp rb),.k 7 (po rb 1),.c 8 (.slice QA rs.length qc),.c 9 (.agg #[vi t.r.kind,vi t.r.xid,vi t.r.tbl,sn,sn,.slice t.A t.r.eds.length t.c,sn,.string t.r.note]),.a 10,.a 11,.k 12 (vp rb),.k 13 (po rb 1),.n] (fun ix d b X=>match ix with|0|1|2|3|4|5=>True|6=>d 10= .slice ((some ⟨(pb' (b 10)),0,none⟩)) 1 1/\X 5=eO 27 8 (.slice ((some ⟨(pb' (b 10)),0,none⟩)) 1 1) 1 ([vi t.r.kind,vi t.r.xid,vi t.r.tbl,sn,sn,.slice t.A t.r.eds.length t.c,sn,.string t.r.note])|7=>d 11= .slice (sA (b 11)) (rs.length+1) (sC (b 11))/\X 6=eO 27 8 (.slice (sA (b 11)) (rs.length+1) (sC (b 11))) (rs.length+1) ((rs++[t]).flatMap rcC)|8|9=>True|10=>X 7=eB rb 69 #[vi ((p:Int)),.slice (sA (b 11)) (rs.length+1) (sC (b 11)),vi ((szF (rs.map RcT.r):Int)),.slice TA p tc]|_=>True) [2,3,4,5,6,7] [4,5,6,7,10] [(4,0,10,14)] hq2_ ?_ ?_ ?_
 exact fun ix _ _ _ _ _ _ hs hb hx h=>match ix,h with
 |6,h=>by dsimp only;rw[<-hs 10 rfl,<-hb 10 rfl,<-hx 5 rfl];exact h
 |7,h=>by dsimp only;rw[<-hs 11 rfl,<-hb 11 rfl,<-hx 6 rfl];exact h
 |10,h=>by dsimp only;rw[<-hb 11 rfl,<-hx 7 rfl];exact h
 |0,_|1,_|2,_|3,_|4,_|5,_|8,_|9,_|_+11,_=>trivial
 refine⟨?_,?_,?_,?_,?_,trivial⟩
 exact xs4 rfl id fun cx=>ae rfl (by kernel_rfl) (cx.an 3) ((cx.bi 0 rfl).cell 1)
 exact xs4 rfl id fun cx=>cg (n:=8) rfl (by kernel_rfl) (by kernel_rfl) (cx.ou 3) (cx.bi 4 rfl) (nle rfl) rfl
 refine svA fun g b W X cx=>?_
 have Q9:g (.tmp 9)= .agg #[vi t.r.kind,vi t.r.xid,vi t.r.tbl,sn,sn,.slice t.A t.r.eds.length t.c,sn,.string t.r.note]:=(cx.an 5)
 exact mn (e:=27) (sz:=8) (xs:=[vi t.r.kind,vi t.r.xid,vi t.r.tbl,sn,sn,.slice t.A t.r.eds.length t.c,sn,.string t.r.note]) rfl (by simp[go_sem,Q9]) rfl (by decide) rfl rfl (fun _ _ _ _ _=> .intro)
 refine svA fun g b W X cx=>?_
 obtain⟨i0,hi0,hz0,hz1,hz2⟩:=info_parts Tryz.infoRecJ
 refine jc (n:=rs.length) (m:=1) (nm:=rs.length+1) (sz:=8) (xs:=rs.flatMap rcC) (news:=[vi t.r.kind,vi t.r.xid,vi t.r.tbl,sn,sn,.slice t.A t.r.eds.length t.c,sn,.string t.r.note]) (xs':=(rs++[t]).flatMap rcC) rfl (ty:=66) rfl (by kernel_rfl) hi0 hz0 hz1 hz2 rfl (by decide) (cx.an 4) cx (cx.init 1 _ rfl) rfl (dTn (cx.an 6)).1 (by simp) (At.of_ownN (cx.row (dTn (cx.an 6)).2 rfl)) (by simp[Value.oneCell']) (by simp only[maxLen];omega) (by omega) rfl rfl rfl (by omega) ((Gi rs t)) (fun d i X' hs hb hv hx=>?_)
 exact⟨hv,hx⟩
 refine svA fun g b W X cx=>?_
 exact bx (n:=1) rfl (cx.an 9) (dTn (cx.an 7)).1 (by kernel_rfl) (by kernel_rfl) (by kernel_rfl) cx (cx.init 0 _ rfl) rfl (nle rfl) (by kernel_rfl) rfl rfl rfl (fun d i X' hs hb hx=>by rw[hb 11];exact hx)
 intro d b X W3 hD bc fr aG
 simp only[exq 5 ((dTn (hD 6 lq)).2),exq 6 ((dTn (hD 7 lq)).2),exq 7 ((dTn (hD 10 lq)))] at bc
 simp only[ed 10 ((dTn (hD 6 lq)).1),ed 11 ((dTn (hD 7 lq)).1)] at aG
 generalize pb' (b 10)=RI,sA (b 11)=xo,sC (b 11)=xp at bc aG
 clear hD;subst aG;clear d b X
 refine aa (aH [0,0,2,6,14,0,32,96,254,511,1023,2047] [[],[],[],[],[5],[2],[1],[],[],[],[],[5]] [[],[],[],[],[],[],[],[],[],[],[],[6]] [[],[],[],[],[],[],[],[],[],[],[],[5]] [.k 14 (vp rb),.k 15 (vp rb),.k 16 (vp rb),.k 17 (po rb 2),.c 18 (vi ((szF (rs.map RcT.r):Int))),.c 19 (.agg #[vi t.r.kind,vi t.r.xid,vi t.r.tbl,sn,sn,.slice t.A t.r.eds.length t.c,sn,.string t.r.note]),.c 20 (.string ((aC t.r))),.k 21 (vi ((((aC t.r)).size:Int))),tI 22 ((szF (rs.map RcT.r):Int)+(((aC t.r)).size:Int)) (by omega),.k 23 (vp rb),.k 24 (po rb 2),.n] (fun ix d b X=>match ix with|0|1|2|3|4|5|6|7|8|9|10=>True|11=>X 6=eB rb 69 #[vi ((p:Int)),.slice xo (rs.length+1) xp,vi ((szF (rs.map RcT.r):Int)+(((aC t.r)).size:Int)),.slice TA p tc]|_=>True) [0,1,2,3,4,6] [4,5,6,11] [(14,0,11,25)] bc ?_ ?_ ?_)
 exact fun ix _ _ _ _ _ _ hs hb hx h=>match ix,h with
 |11,h=>by dsimp only;rw[<-hx 6 rfl];exact h
 |0,_|1,_|2,_|3,_|4,_|5,_|6,_|7,_|8,_|9,_|10,_|_+12,_=>trivial
 refine⟨?_,?_,?_,?_,trivial⟩
 exact xs4 rfl id fun cx=>ae rfl (by kernel_rfl) (cx.an 3) ((cx.bi 5 rfl).cell 2)
 exact xs4 rfl id fun cx=>cg (n:=8) rfl (by kernel_rfl) (by kernel_rfl) (cx.ou 3) (cx.bi 2 rfl) (nle rfl) rfl
 exact xsc rfl id rfl rfl fun cx=>⟨_,j6 t.r.kind t.r.xid t.r.tbl t.A t.c t.r.eds t.r.note _ (dW (CtxV.holdF cx (cx.init 1 _ rfl) rfl) ht) (by have h_:=hro.many;omega) (fun e he=>by have h_:=dA (hro.eds e he);omega) (by have h_:=hro.note;omega),(ax (cx.an 5))⟩
 refine svA fun g b W X cx=>?_
 exact bx (n:=1) rfl (cx.an 10) (cx.an 8) (by kernel_rfl) (by kernel_rfl) (by kernel_rfl) cx (cx.init 5 _ rfl) rfl (nle rfl) (by kernel_rfl) rfl rfl rfl (fun _ _ _ _ _=>id)
 intro d b X W4 hD be fr aG
 simp only[exq 6 ((dTn (hD 11 lq)))] at be
 clear hD;subst aG;clear d b X
 refine bpe (.tuple #[]) (by simp[results,Tryz.results85,go_sem]) ?_
 obtain⟨fp5_,hr5_⟩:=St.rq (rs:=(rs++[t])) (told:=told) (p:=p) (rr:=rr) (by have h_:=be.u2.c0.u2.c0.u2.u3;rw[rqL,show (rs++[t]).length=rs.length+1 by simp,show (szF ((rs++[t]).map RcT.r):Int)=(szF (rs.map RcT.r):Int)+((aC t.r).size:Int) by rw[List.map_append,List.map_singleton,mr];omega];exact h_)
 exact⟨rfl,_,hr5_⟩
theorem BU(note:ByteArray)(w:World)(hnt:note.size<=60000):
  Calls Tryz.prog 48 #[.int .i64 5,.string note] w ((fun e w2=>∃rb,e= .returned (po rb 0)/\∃fp2,St w [] [eRf rb [aJ note] (fun _=>false) 5 fp2] w2)):=by
 go_enter Tryz.func48,Tryz.ntmps48
 have al:=St.start w
 refine wq (sqr (sqp [.k 4 (.pointer none)] ?_))
 refine aa (wq (sqr (sqp [.m 6 0,.m 7 0] ?_)))
 refine ej (fun x_=>sA x_) (fun vX=> .slice vX 5 5) (fun vX=>eO 4 1 (.slice vX 5 5) 5 (List.replicate 5 (.bool false))) al (by
   refine svA fun a b W X cx=>?_
   obtain⟨i0,hi0,hz0,hz1,hz2⟩:=info_parts Tryz.infoBoolR
   exact JR (n:=5) rfl (by kernel_rfl) hi0 hz0 hz1 hz2 rfl (cx.ou 7) (cx.ou 7) (by omega) (by omega) (by omega) (by omega) rfl rfl (fun _ _ _ _ _=> .intro)) fun vX W4 be=>?_
 refine sqp [.k 9 (.agg #[vi 5,sn,vi 0,.slice vX 5 5])] ?_
 refine ce #[vi 5,sn,vi 0,.slice vX 5 5] be fun rQ W6 bI=>?_
 refine sqp [.m 5 10] ?_
 refine aa (wq ?_)
 have hn9:=fh bI 27 8
 simp only[List.cons_append,List.nil_append] at hn9
 have hn8_:=St.nRc note hn9
 obtain⟨fp10_,hr10_⟩:=St.rq (rs:=[]) (told:=(fun _=>false)) (p:=5) (rr:=[rcI (aJ note)]) (hn8_.u1.u3.u3)
 refine sqr (sqp [.m 11 5,.m 12 1,.k 13 (.agg #[vi 9,vi 0,vi 0,sn,sn,sn,sn,.string note])] ?_)
 refine bN (fun X_=>X_.fp) (.tuple #[]) (fun Ja=>eRq rQ ([]++[(rcI (aJ note))]) (fun _=>false) 5 ([rcI (aJ note)]) Ja) 0 hr10_ (by
   refine svA fun a b W X cx=>?_
   refine am.call (aq (args:=#[vp rQ,.agg #[vi 9,vi 0,vi 0,sn,sn,sn,sn,.string note]]) rfl cx.sees rfl (by kernel_rfl) (aP (cx.ou 11) (cx.ou 13))) ?_
   refine(oS rQ ([]) (fun _=>false) 5 ([rcI (aJ note)]) (rcI (aJ note)) _ _ (CtxV.holdF cx (cx.init 0 _ rfl) rfl) (CtxV.ltF cx (cx.init 0 _ rfl) rfl) (by simp) (cR hnt) (by decide) (by decide)).mono ?_
   rintro e W1 ⟨rfl,fp4,aU⟩
   refine⟨_,rfl,aN (E:=eRq rQ ([]) (fun _=>false) 5 ([rcI (aJ note)]) fp10_) [eRq rQ ([]++[(rcI (aJ note))]) (fun _=>false) 5 ([rcI (aJ note)]) fp4] (cx.init 0 _ rfl) rfl rfl aU (fun d g X' hs hb hv hN=>?_)⟩
   have aK:=(hv 14 rfl).1;have aW:=(hv 14 rfl).2
   exact⟨aK.trans rfl,oV ((List.cons.inj hN).1)⟩) fun Ja wZ cw=>?_
 refine aa (wq (sqr (sqp [.m 15 5,.m 4 15] ?_)))
 refine aa (wp_ret ?_)
 refine bpr (vp rQ) (ai Tryz.results48 rpt) ?_
 have CY:=St.rf (L:=[aJ note]) cw (rfl) (fun t h=>h)
 exact⟨_,rfl,_,CY⟩
theorem yS(rb:Nat)(L:List RecM)(told:Int->Bool)(p:Nat)(note:ByteArray)(fp:List Nat)(w:World)(hB:(eRf rb L told p fp).holds w)(hlt:∀k∈fp,k<w.heap.size)(hL:∀r∈L,bv r=true)(hz:szF L<=1048576)(hnt:note.size<=9000000):
  Calls Tryz.prog 80 #[po rb 0,.string note] w ((fun e w2=>e= .returned (.int .i64 (fM L note))/\∃fp2,St w fp [eRf rb (ckL L note) told p fp2] w2)):=by
 have st1:St w fp [eRf rb L told p fp] w:=St.lend hB (vK _ _ _ _ _) hlt
 have hll:=tP hL hz
 go_enter Tryz.func80,Tryz.ntmps80
 have al:=st1
 refine wq (sqr (sqp [.k 4 (vi 0)] ?_))
 refine aa (wq (sqr (sqp [.m 6 1,.k 7 (.agg #[vi 9,vi 0,vi 0,sn,sn,sn,sn,.string note])] ?_)))
 refine bY #[vi 0,vi 0,vi 0,sn,sn,sn,sn,.string ByteArray.empty] al fun LN W4 be=>?_
 refine aV (n:=8) 1 #[vi 9,vi 0,vi 0,sn,sn,sn,sn,.string note] be fun W5 aR=>?_
 refine aa (wq (wq (sqr (sqp [.m 8 1,.k 9 (vi ((note.size:Int))),.k 10 (.bool (decide (60000<(note.size:Int))))] ?_))))
 refine aa (wds (fun pV qR=>?_) fun pV qR=>?_)
 refine wq (sqr (sqp [.k 4 (vi 1)] ?_))
 refine aa (wp_ret (aj ?_))
 refine bpr (vi 1) (ai Tryz.results80 rpt) ?_
 exact⟨by rw[fM,if_pos (by have h_:=pV;simp at h_;omega)],_,by rw[ckL,if_neg (by rw[fM,if_pos (by have h_:=pV;simp at h_;omega)];decide)];exact aR.u1.c0⟩
 refine wp_skip (aa (wq (wq ?_)))
 have hn6:note.size<=60000:=by have h_:=pV;simp at h_;omega
 have hfs:=eR (cR hn6)
 obtain⟨rs,rr,hrs,hsub,ho11_⟩:=aR.unrf
 have hzs:szF (rs.map RcT.r)<=1048576:=hrs ▸ hz
 have hls_:rs.length<=200000:=by have h_:=congrArg List.length hrs;rw[List.length_map] at h_;omega
 obtain⟨QA,qc,TA,tc,hq12_⟩:=ho11_.unrq
 refine bG [0,1,3,7,0,16,48,127,255] [[],[],[],[0],[4]] [.k 11 (vp rb),.k 12 (vp rb),.k 13 (po rb 2),.c 14 (vi ((szF (rs.map RcT.r):Int))),.c 15 (.agg #[vi 9,vi 0,vi 0,sn,sn,sn,sn,.string note]),.c 16 (.string ((aC (aJ note)))),.k 17 (vi ((((aC (aJ note))).size:Int))),tI 18 ((szF (rs.map RcT.r):Int)+(((aC (aJ note))).size:Int)) (by omega),.k 19 (.bool (decide (1048576<(szF (rs.map RcT.r):Int)+(((aC (aJ note))).size:Int))))] [0,1,2,3,4] [3,4,5] [(11,0,9,20)] hq12_ ?_ fun IQ je=>?_
 refine⟨?_,?_,?_,trivial⟩
 exact xs4 rfl id fun cx=>ae rfl (by kernel_rfl) (cx.an 2) ((cx.bi 0 rfl).cell 2)
 exact xs4 rfl id fun cx=>cg (n:=8) rfl (by kernel_rfl) (by kernel_rfl) (cx.ou 5) (cx.bi 4 rfl) (nle rfl) rfl
 exact xsc rfl id rfl rfl fun cx=>⟨_,j6 9 0 0 none 0 [] note _ (fun j u h=>by cases j<;>cases h) (by decide) (fun e he=>by cases he) (by omega),(ax (cx.an 4))⟩
 refine aa (wds (fun gN pC=>?_) fun gN pC=>?_)
 refine wq (sqr (sqp [.k 4 (vi 31)] ?_))
 refine aa (wp_ret (aj ?_))
 refine bpr (vi 31) (ai Tryz.results80 rpt) ?_
 obtain⟨fp16_,hr16_⟩:=St.rq (rs:=rs) (told:=told) (p:=p) (rr:=rr) (je)
 have CY:=St.rf (L:=L) hr16_ (hrs) (hsub)
 have he_:fM L note=31:=by rw[fM,if_neg (by omega:¬ 60000<note.size),if_pos (by rw[hrs] at gN;have h_:=gN;simp at h_;omega)]
 exact⟨by rw[he_],_,by rw[ckL,if_neg (by rw[he_];decide)];exact CY.u1.c0⟩
 refine wp_skip (aa (wq ?_))
 obtain⟨fp18_,hr18_⟩:=St.rq (rs:=rs) (told:=told) (p:=p) (rr:=rr) (je)
 have hn19:=fh hr18_ 84 3
 simp only[List.cons_append,List.nil_append] at hn19
 have htm_:rcI (aJ note)∈rr++[rcI (aJ note)]:=by simp
 obtain⟨fp20_,hx20_⟩:=St.rqR (t:=rcI (aJ note)) hn19.u2
 refine sqr (sqp [.m 20 0] ?_)
 refine bE 1 8 hx20_ ?_
 refine bN (fun X_=>X_.fp) (.tuple #[]) (fun vj=>eRq rb (rs++[(rcI (aJ note))]) told p (rr++[rcI (aJ note)]) vj) 0 hx20_ (by
   refine svA fun b g W X cx=>?_
   refine am.call (aq (args:=#[vp rb,.agg #[vi 9,vi 0,vi 0,sn,sn,sn,sn,.string note]]) rfl cx.sees rfl (by kernel_rfl) (aP (cx.ou 20) (cx.ou 21))) ?_
   refine(oS rb rs told p (rr++[rcI (aJ note)]) (rcI (aJ note)) _ _ (CtxV.holdF cx (cx.init 0 _ rfl) rfl) (CtxV.ltF cx (cx.init 0 _ rfl) rfl) htm_ (cR hn6) hls_ (Nat.le_trans hzs (by decide))).mono ?_
   rintro e W1 ⟨rfl,fp4,aU⟩
   refine⟨_,rfl,aN (E:=eRq rb rs told p (rr++[rcI (aJ note)]) fp20_) [eRq rb (rs++[(rcI (aJ note))]) told p (rr++[rcI (aJ note)]) fp4] (cx.init 0 _ rfl) rfl rfl aU (fun a d X' hs hb hv hN=>?_)⟩
   have aK:=(hv 22 rfl).1;have aW:=(hv 22 rfl).2
   exact⟨aK.trans rfl,oV ((List.cons.inj hN).1)⟩) fun vj uF cG=>?_
 refine aa (wq (sqr (sqp [.k 4 (vi 0)] ?_)))
 refine aa (wp_ret ?_)
 refine bpr (vi 0) (ai Tryz.results80 rpt) ?_
 have he_:fM L note=0:=by rw[fM,if_neg (by omega:¬ 60000<note.size),if_neg (by rw[hrs] at gN;have h_:=gN;simp at h_;omega)]
 have Oo:=St.rf (L:=(L++[aJ note])) cG (by rw[List.map_append,hrs];rfl) (fun t h=>(List.mem_append.1 h).elim (fun h=>List.mem_append_left _ (hsub t h)) fun h=>List.mem_append_right _ h)
 exact⟨by rw[he_],_,by rw[ckL,if_pos he_];exact Oo.u1.c0⟩
theorem yg(rb:Nat)(L:List RecM)(told:Int->Bool)(p:Nat)(fp:List Nat)(w:World)(hB:(eRf rb L told p fp).holds w)(hlt:∀k∈fp,k<w.heap.size)(hL:∀r∈L,bv r=true)(hz:szF L<=1048576)(hp:p<=400):
  Calls Tryz.prog 78 #[po rb 0] w ((fun e w2=>e= .returned (.int .i64 (frF p L told))/\∃fp2,St w fp [eRf rb L (frT p L told) p fp2] w2)):=by
 have st1:St w fp [eRf rb L told p fp] w:=St.lend hB (vK _ _ _ _ _) hlt
 have hll:=tP hL hz
 go_enter Tryz.func78,Tryz.ntmps78
 have al:=st1
 refine wq (sqr (sqp [.k 2 (vi 0)] ?_))
 refine aa (wq (wq ?_))
 obtain⟨rs,rr,hrs,hsub,ho2_⟩:=al.unrf
 have hzs:szF (rs.map RcT.r)<=1048576:=hrs ▸ hz
 have hrl:rs.length<=1000000:=by have h_:=congrArg List.length hrs;rw[List.length_map] at h_;omega
 have hrL:∀t∈rs,bv t.r=true:=fun t ht=>hL _ (hrs ▸ List.mem_map.2 ⟨t,ht,rfl⟩)
 obtain⟨QA,qc,TA,tc,hq3_⟩:=ho2_.unrq
 refine sqr (sqp [.k 3 (vi 0)] ?_)
 refine aa (wp_block ?_)
 refine aT (fun t_ mz az W=>∃k:Nat,k<=p/\(∀m:Nat,0<=m->m<k->told (m:Int)=true\/(ak L (m:Int)).1≠0)/\mz=p-k/\az=⟨(ovr (jv az) [(2,2,1,[vi ((k:Int))]),(0,4,33,[])] t_).toArray,[]⟩/\St w fp [eB rb 69 #[vi ((p:Int)),.slice QA rs.length qc,vi ((szF (rs.map RcT.r):Int)),.slice TA p tc],eO 27 8 (.slice QA rs.length qc) rs.length (rs.flatMap rcC),eO 4 1 (.slice TA p tc) p (tB told p),eRc rr] W) (p-0) ?_ ?_
 exact⟨0,Nat.zero_le _,fun m h0 h1=>absurd h1 (by omega),rfl,(by kernel_rfl),hq3_.pk [0,1,2,3]⟩
 rintro n5 a5 W5 ⟨k,hk,hno,rfl,hj_,aR⟩
 refine ovz hj_ fun w5=>?_
 refine wq (wq (sqr (sqp [.m 4 3,.m 5 0,.k 6 (vp rb),.k 7 (vp rb)] ?_)))
 refine av 0 aR ?_
 refine sqp [.k 9 (.bool (decide ((k:Int)<(p:Int))))] ?_
 refine aa (wds (fun m4 pE=>?_) fun m4 pE=>?_)
 refine wp_skip (aa (wq (wp_block (wq ?_))))
 rcases htk:told (k:Int) with _|_
 refine sqr (sqp [.m 12 0,.k 13 (vp rb),.k 14 (po rb 3)] ?_)
 refine av 0 aR ?_
 refine sqp [.m 16 3] ?_
 refine sql (.pointer (some ((ad TA).add k))) aR (fun cx=>bS (e:=4) (m:=k) rfl (by kernel_rfl) (by kernel_rfl) (cx.ou 15) (cx.ou 16) (by omega) (by omega) (At.of_own (cx.ri 2 rfl)) ((oy _ _))) ?_
 have hd20:((told (k:Int)))=false:=htk
 refine sqv (.bool false) aR (s4 rfl (fun _ _ _ h=>h.trans (congrArg Value.bool hd20)) fun cx=>ae rfl (by kernel_rfl) (cx.ou 17) (At.cellAd (At.of_own (cx.ri 2 rfl)) (ui (by omega)))) fun qI cU=>?_
 refine sqp [.k 19 (.bool true),.k 20 (.bool true)] ?_
 refine dE 20 [21,22,23,24,25,26,27,28] rfl rfl ?_
 refine sqp [.m 21 0,.k 22 (vp rb),.k 23 (po rb 1)] ?_
 refine av 0 cU ?_
 refine sqp [.m 25 3] ?_
 refine iC (fun iQ iR=> .agg #[vi ((ak (rs.map RcT.r) (k:Int)).1),vi ((ak (rs.map RcT.r) (k:Int)).2.1),.slice iQ ((ak (rs.map RcT.r) (k:Int)).2.2.length) iR]) (fun iQ iR=>eO 9 1 (.slice iQ ((ak (rs.map RcT.r) (k:Int)).2.2.length) iR) ((ak (rs.map RcT.r) (k:Int)).2.2.length) ((ak (rs.map RcT.r) (k:Int)).2.2.map Value.string)) cU (fun cx=>⟨_,(kQ _ _ rs (k:Int) _ ⟨At.of_ownN (cx.ri 1 rfl),fun t ht=>dW (CtxV.holdF cx (cx.init 3 _ rfl) rfl) (hsub t ht)⟩ hrl hrL).mono (by rintro e W1 ⟨A4,c4,rfl,ho,hx⟩;exact⟨_,_,rfl,St.one hx (cm ho)⟩),(aP (cx.ou 24) (cx.ou 25))⟩) fun iQ iR zb dU=>?_
 refine sql (vi ((ak (rs.map RcT.r) (k:Int)).1)) dU (fun cx=>lU rfl (cx.ou 26) (fun _=>by kernel_rfl)) ?_
 refine sqp [.k 28 (.bool (((ak (rs.map RcT.r) (k:Int)).1)==0))] ?_
 refine sqp [.k 29 (.bool (((ak (rs.map RcT.r) (k:Int)).1)==0))] ?_
 refine aa (wbs (fun g0=>?_) fun g0=>?_)
 have kR:=beq_iff_eq.1 g0
 refine wq (sqr (sqp [.m 30 0,.k 31 (vp rb),.k 32 (po rb 3)] ?_))
 refine av 0 dU ?_
 refine sqp [.m 34 3] ?_
 refine sql (.pointer (some ((ad TA).add k))) dU (fun cx=>bS (e:=4) (m:=k) rfl (by kernel_rfl) (by kernel_rfl) (cx.ou 33) (cx.ou 34) (by omega) (by omega) (At.of_own (cx.ri 2 rfl)) ((oy _ _))) ?_
 refine sqc (eO 4 1 (.slice TA p tc) p (tB (fun x=>if x=(k:Int) then true else told x) p)) 2 dU (by
   refine svA fun a b W X cx=>?_
   exact kO (m:=k) (n:=p) rfl (cx.ou 35) (show _=Value.bool true from(cx.co _)) (by kernel_rfl) rfl rfl cx (cx.init 2 _ rfl) rfl (by omega) rfl ((EC true)) rfl rfl (fun _ _ _ _ _=>id)) fun pT dd=>?_
 refine aa (wq (sqr (sqp [.m 36 3,.m 2 36] ?_)))
 refine aa (wp_ret (bb (aj (aj (bb (aj ?_))))))
 refine bpr (vi ((k:Int))) (ai Tryz.results78 rpt) ?_
 have hfo:=xV (p:=p) (L:=L) (told:=told) (k:=k) (by omega) htk (by have h_:=g0;rw[hrs] at h_;simpa using h_) hno
 obtain⟨fp42_,hr42_⟩:=St.rq (rs:=rs) (told:=(fun x=>if x=(k:Int) then true else told x)) (p:=p) (rr:=rr) (dd.u4.c0)
 have Oq:=St.rf (L:=L) hr42_ (hrs) (hsub)
 exact⟨by rw[frF,hfo],_,by rw[frT,hfo];exact Oq⟩
 have kR:=beq_eq_false_iff_ne.1 g0
 refine wp_skip (aw (aa (sqr (sqp [.m 10 3,sI 11 ((k:Int)+1) (by omega),.m 3 11] ?_))))
 refine aa ?_
 refine⟨p-((k+1)),by omega,?_⟩
 exact⟨(k+1),by omega,fun m h0 h1=>(Nat.lt_or_ge m k).elim (fun h2=>hno m h0 h2) fun h2=>by have hmk:m=k:=(by omega);subst hmk;exact .inr (by have h_:=g0;rw[hrs] at h_;simpa using h_),rfl,(by kernel_rfl),dU.pk [0,1,2,3]⟩
 refine sqr (sqp [.m 12 0,.k 13 (vp rb),.k 14 (po rb 3)] ?_)
 refine av 0 aR ?_
 refine sqp [.m 16 3] ?_
 refine sql (.pointer (some ((ad TA).add k))) aR (fun cx=>bS (e:=4) (m:=k) rfl (by kernel_rfl) (by kernel_rfl) (cx.ou 15) (cx.ou 16) (by omega) (by omega) (At.of_own (cx.ri 2 rfl)) ((oy _ _))) ?_
 have hd54:((told (k:Int)))=true:=htk
 refine sqv (.bool true) aR (s4 rfl (fun _ _ _ h=>h.trans (congrArg Value.bool hd54)) fun cx=>ae rfl (by kernel_rfl) (cx.ou 17) (At.cellAd (At.of_own (cx.ri 2 rfl)) (ui (by omega)))) fun OS kX=>?_
 refine yv [.k 19 (.bool false),.k 20 (.bool false)] 20 [21,22,23,24,25,26,27,28] ?_
 refine sqp [.k 29 (.bool false)] ?_
 refine aa (wcf rfl (wp_skip (aw (aa (sqr (sqp [.m 10 3,sI 11 ((k:Int)+1) (by omega),.m 3 11] ?_))))))
 refine aa ?_
 refine⟨p-((k+1)),by omega,?_⟩
 exact⟨(k+1),by omega,fun m h0 h1=>(Nat.lt_or_ge m k).elim (fun h2=>hno m h0 h2) fun h2=>by have hmk:m=k:=(by omega);subst hmk;exact .inl htk,rfl,(by kernel_rfl),kX.pk [0,1,2,3]⟩
 refine wp_exit (au (au (bh (aa (wq (sqr (sqp [.k 2 (vi (-1))] ?_)))))))
 refine aa (wp_ret ?_)
 refine bpr (vi (-1)) (ai Tryz.results78 rpt) ?_
 have hfo:=x7 (p:=p) (L:=L) (told:=told) (fun m h0 h1=>hno m h0 (by omega))
 obtain⟨fp62_,hr62_⟩:=St.rq (rs:=rs) (told:=told) (p:=p) (rr:=rr) (aR)
 have Ot:=St.rf (L:=L) hr62_ (hrs) (hsub)
 exact⟨by rw[frF,hfo],_,by rw[frT,hfo];exact Ot⟩
end
section
open Go.RowKit
theorem Ap(s:ByteArray):s.extract 0 s.size=s:=by
 apply ByteArray.ext
 rw[ByteArray.data_extract]
 simp
theorem Lz{N:Int}(h:0<=N/\N<=9223372036854775807)(k:Nat):0<=shN N k/\shN N k<=9223372036854775807:=by
 have h1:(0:Int)<256^k:=Int.pow_pos (by decide)
 exact⟨Int.ediv_nonneg h.1 (by omega),Int.le_trans (Int.ediv_le_self _ h.1) h.2⟩
theorem Kq(N:Int)(k:Nat):shN N k / 256=shN N (k+1):=by
 rw[shN,shN,Int.pow_succ]
 exact Int.ediv_ediv_of_nonneg (Int.le_of_lt (Int.pow_pos (by decide)))
theorem xQ(a b:List UInt8):bH a++bH b=bH (a++b):=(nO a b).symm
theorem E0{X:List UInt8}:bH (X++List.replicate m (0:UInt8))++(⟨#[0]⟩:ByteArray)=bH (X++List.replicate (m+1) (0:UInt8)):=by
 rw[show (⟨#[0]⟩:ByteArray)=bH [0] from rfl,xQ,List.append_assoc,List.replicate_succ']
theorem ES(k l:Int)(pl:List ByteArray)(m:Nat):(bH (b9 k l pl.length++bg pl++List.replicate m (0:UInt8))).size=6+aO pl+m:=by
 rw[lv,List.length_append,List.length_append,gg,dF,List.length_replicate]
theorem Cw{k:Int}{pl:List ByteArray}{j:Nat}(h:j<pl.length):bH (b9 k l pl.length++bg (pl.take j))++jw (pl.getD j ByteArray.empty)=bH (b9 k l pl.length++bg (pl.take (j+1))):=by
 rw[nP pl j h,<-List.append_assoc,nO (b9 k l pl.length++bg (pl.take j)),iB,List.getD_eq_getElem?_getD,List.getElem?_eq_getElem h];rfl
theorem EU(k l:Int)(pl:List ByteArray)(j:Nat)(h:6+aO pl<=504):(bH (b9 k l pl.length++bg (pl.take j))).size<=504:=by
 have h1:=lI pl j
 rw[<-bO,rA,List.length_append,gg,dF];omega
theorem FV(m:Nat)(w:World)(hm:m<=8):
  Calls Tryz.prog 145 #[.int .i64 ((m:Int))] w (Ret (.int .i64 (m:Int)) w):=by
 go_enter Tryz.func145,Tryz.ntmps145
 have al:=St.start w
 refine wq (sqr (sqp [.k 2 (vi 0)] ?_))
 refine aa (wq (sqr (sqp [.m 3 0] ?_)))
 refine sql (vi (min (m:Int) 8)) al (fun cx=>jE rfl (cx.ou 3) (cx.co _) (rfl)) ?_
 refine sql (vi (max 0 (min (m:Int) 8))) al (fun cx=>sm rfl (cx.co _) (cx.ou 4) rfl) ?_
 refine sqp [.m 2 5] ?_
 refine aa (wp_ret ?_)
 refine bpr (vi (max 0 (min (m:Int) 8))) (ai Tryz.results145 rpt) ?_
 exact Ret.of (by congr 1;omega) al.ext
theorem gh(N:Int)(m:Nat)(w:World)(hm:m<=8)(hN:0<=N/\N<=9223372036854775807):
  Calls Tryz.prog 89 #[.int .i64 N,.int .i64 ((m:Int))] w (Ret (.string (ag N m)) w):=by
 go_enter Tryz.func89,Tryz.ntmps89
 have al:=St.start w
 refine wq (sqr (sqp [.k 4 (.string ⟨#[]⟩)] ?_))
 refine aa (wq (sqr (sqp [.k 5 (.string ⟨#[]⟩)] ?_)))
 refine aa (wq (sqr (sqp [.m 8 0,sW 9 .u64 N N (IntWalk.u64_in _ (by omega)),.m 6 9] ?_)))
 refine aa (wq (wq (sqr (sqp [.k 7 (vi 0)] ?_))))
 refine aa (wp_block ?_)
 refine aT (fun t_ mz az W=>∃k:Nat,k<=m/\mz=m-k/\az=⟨(ovr (jv az) [(5,5,0,[.string ((ag N k)),.int .u64 ((shN N k)),vi ((k:Int))]),(2,10,15,[])] t_).toArray,[]⟩/\St w [] [] W) (m-0) ?_ ?_
 exact⟨0,Nat.zero_le _,rfl,(by rw[IG,DV];rfl),al.pk []⟩
 rintro n7 a7 W7 ⟨k,hk,rfl,hj_,aZ⟩
 refine ovz hj_ fun Fk=>?_
 refine wq (wq (sqr (sqp [.m 10 7,.m 11 1] ?_)))
 refine sqk (vi ((m:Int))) aZ (fun cx=>⟨_,FV m _ hm,(ax (cx.ou 11))⟩) fun wY dR=>?_
 refine sqp [.k 13 (.bool (decide ((k:Int)<(m:Int))))] ?_
 refine aa (wds (fun m4 pE=>?_) fun m4 pE=>?_)
 refine wp_skip (aa (wq (wp_block (wq ?_))))
 have hz_:=aF N k (by omega)
 have hs_:(strOfNums [shN N k % 256]).size=1:=by rw[strOfNums_size];rfl
 have hb_:=Lz hN k
 refine sqr (sqp [.m 16 6,sRe 17 .u64 (shN N k) 256 ((shN N k) % 256) (Int.tmod_eq_emod_of_nonneg (by omega)),sW 18 .u8 ((shN N k) % 256) ((shN N k) % 256) (IntWalk.u8_in _ (by omega))] ?_)
 refine ej (fun x_=>sA x_) (fun vk=> .slice vk 1 1) (fun vk=>eO 5 1 (.slice vk 1 1) 1 ([.int .u8 ((shN N k) % 256)])) dR (by
   refine svA fun a b W X cx=>?_
   have PT:a (.tmp 18)= .int .u8 ((shN N k) % 256):=(cx.ou 18)
   exact du (e:=5) (xs:=[.int .u8 ((shN N k) % 256)]) rfl (by simp[go_sem,PT]) rfl (by decide) rfl rfl (fun _ _ _ _ _=> .intro)) fun vk pU dl=>?_
 refine sql (.string (strOfNums ([((shN N k) % 256)]))) dl (fun cx=>la (e:=5) rfl (by kernel_rfl) (by kernel_rfl) (by kernel_rfl) (cx.ou 19) (cx.ri 0 rfl)) ?_
 refine sqp [.m 21 5,sS 22 (strOfNums ([((shN N k) % 256)])) ((ag N k)) (by omega),.m 5 22] ?_
 refine aa (sqr (sqp [.m 23 6,sQu 24 .u64 (shN N k) 256 ((shN N k) / 256) (by rw[Int.tdiv_eq_ediv_of_nonneg (by omega)];exact IntWalk.u64_in _ (by omega)),.m 6 24] ?_))
 refine aw (aa (sqr (sqp [.m 14 7,sI 15 ((k:Int)+1) (by omega),.m 7 15] ?_)))
 refine aa ?_
 rw[show strOfNums [shN N k % 256]++ag N k=ag N (k+1) from(wG N (by omega)).symm,Kq]
 refine⟨m-((k+1)),by omega,?_⟩
 exact⟨(k+1),by omega,rfl,(by kernel_rfl),dl.pk []⟩
 refine wp_exit (au (au (bh (aa (wq (sqr (sqp [.m 25 5,.m 4 25] ?_)))))))
 refine aa (wp_ret ?_)
 refine bpr (.string ((ag N k))) (ai Tryz.results89 rpt) ?_
 exact Ret.of (by rw[show k=m by omega]) dR.ext
theorem Ar(s:ByteArray)(w:World)(hs:s.size<=65535):
  Calls Tryz.prog 147 #[.string s] w (Ret (.string (jw s)) w):=by
 go_enter Tryz.func147,Tryz.ntmps147
 have al:=St.start w
 refine wq (sqr (sqp [.k 2 (.string ⟨#[]⟩)] ?_))
 refine aa (wq (sqr (sqp [.m 4 0,.m 5 0,.k 6 (vi ((s.size:Int)))] ?_)))
 refine sql (vi ((s.size:Int))) al (fun cx=>jE rfl (cx.ou 6) (cx.co _) (by omega)) ?_
 refine sql (.string s) al (fun cx=>by rw[<-Ap s];exact fc (l:=s.size) rfl (by kernel_rfl) (cx.ou 4) (cx.ou 7) (by omega) (by omega)) ?_
 refine sqp [.m 3 8] ?_
 refine aa (wq ?_)
 have hp_:=aF (s.size:Int) 2 (by omega)
 refine sqr (sqp [.m 9 3,.k 10 (vi ((s.size:Int)))] ?_)
 refine sqk (.string ((ag (s.size:Int) 2))) al (fun cx=>⟨_,gh (s.size:Int) 2 _ (by decide) (by omega),(aP (cx.ou 10) (cx.co _))⟩) fun wY dR=>?_
 refine sqp [.m 12 3,sS 13 ((ag (s.size:Int) 2)) s (by omega),.m 2 13] ?_
 refine aa (wp_ret ?_)
 refine bpr (.string (((ag (s.size:Int) 2))++s)) (ai Tryz.results147 rpt) ?_
 exact Ret.of rfl dR.ext
theorem uz(k l:Int)(A:Option Addr)(c:Nat)(ss:List ByteArray)(w:World)(hA:At w A (ss.map Value.string))(hr:bz k l ss=true)(hc:ss.length<=c):
  Calls Tryz.prog 92 #[.agg #[.int .i64 k,.int .i64 l,.slice A ss.length c]] w (Ret (.agg #[.string (bP k l (af ss)),.int .i64 0]) w):=by
 obtain⟨hk2,hl2,⟨hn24,hb4⟩,hz5⟩:=cC hr
 have hS:=ek hr
 go_enter Tryz.func92,Tryz.ntmps92
 have al:=St.start w
 refine wq (sqr ?_)
 refine ce #[vi k,vi l,.slice A ss.length c] al fun aB W1 aA=>?_
 refine bY #[.string ByteArray.empty,vi 0] aA fun kH W2 bQ=>?_
 refine aa (wq (wq (sqr ?_)))
 refine bE 0 3 bQ ?_
 refine sqk (.bool true) bQ (fun cx=>⟨_,sh k l _ _ ss _ (hA.ext cx.upd.to_ext) hr (by omega),(ax (cx.ou 6))⟩) fun W4 be=>?_
 refine sqp [.k 8 (.bool false)] ?_
 refine aa (wcf rfl (wp_skip (aa (wq (sqr ?_)))))
 refine bE 0 3 be ?_
 refine iC (fun kn kZ=> .agg #[vi k,vi l,.slice kn ((af ss).length) kZ]) (fun kn kZ=>eO 9 1 (.slice kn ((af ss).length) kZ) ((af ss).length) ((af ss).map Value.string)) be (fun cx=>⟨_,(j7 k l _ _ ss _ (hA.ext cx.upd.to_ext) (by have:=hS.1;omega) (by omega)).mono (by rintro e W1 ⟨A4,c4,rfl,ho,hx⟩;exact⟨_,_,rfl,St.one hx (cm ho)⟩),(ax (cx.ou 10))⟩) fun kn kZ W7 aZ=>?_
 refine bY #[vi 0,vi 0,sn] aZ fun ra W8 dO=>?_
 refine aV (n:=3) 3 #[vi k,vi l,.slice kn ((af ss).length) kZ] dO fun W9 cq=>?_
 refine aa (wq ?_)
 obtain⟨pl,hpl⟩:∃z,af ss=z:=⟨_,rfl⟩
 have SH:pl.length<=24:=by rw[<-hpl,cu];exact Nat.le_trans (d3 ss _) hn24
 have y4:∀s∈pl,s.size<=400:=fun s hs=>hb4 s (by rw[<-hpl] at hs;exact List.mem_of_mem_take hs)
 have hpz:6+aO pl<=504:=by rw[cK,hpl] at hz5;omega
 rw[hpl] at cq
 have q1_:=aF k 1 (by omega)
 have q2_:=aF l 4 (by omega)
 have q3_:=aF (pl.length:Int) 1 (by omega)
 refine bG [0,1,3,0,8,31,63,0,128,384,959,2047,4095] [[],[3],[],[],[3],[],[],[],[3]] [.k 12 (vp ra),.c 13 (vi k),.c 14 (.string ((ag k 1))),.k 15 (po ra 1),.c 16 (vi l),.c 17 (.string ((ag l 4))),tS 18 ((ag k 1)) ((ag l 4)) (by first|omega|(simp only[ByteArray.size_append];omega)),.k 19 (po ra 2),.c 20 (.slice kn pl.length kZ),.k 21 (vi ((pl.length:Int))),.c 22 (.string ((ag (pl.length:Int) 1))),tS 23 (((ag k 1))++((ag l 4))) ((ag (pl.length:Int) 1)) (by first|omega|(simp only[ByteArray.size_append];omega)),.k 4 (.string ((((ag k 1))++((ag l 4)))++((ag (pl.length:Int) 1))))] [0,1,2,3] [1,2,4,5,8,10] [(4,12,1,5),(7,0,12,19)] cq ?_ fun wY dR=>?_
 refine⟨?_,?_,?_,?_,?_,?_,trivial⟩
 exact xs4 rfl id fun cx=>ae rfl (by kernel_rfl) (cx.an 0) ((cx.bi 3 rfl).cell 0)
 exact xsc rfl id rfl rfl fun cx=>⟨_,gh k 1 _ (by decide) (by omega),(aP (cx.an 1) (cx.co _))⟩
 exact xs4 rfl id fun cx=>ae rfl (by kernel_rfl) (cx.an 3) ((cx.bi 3 rfl).cell 1)
 exact xsc rfl id rfl rfl fun cx=>⟨_,gh l 4 _ (by decide) (by omega),(aP (cx.an 4) (cx.co _))⟩
 exact xs4 rfl id fun cx=>ae rfl (by kernel_rfl) (cx.an 7) ((cx.bi 3 rfl).cell 2)
 exact xsc rfl id rfl rfl fun cx=>⟨_,gh (pl.length:Int) 1 _ (by decide) (by omega),(aP (cx.an 9) (cx.co _))⟩
 refine aa (wq (wq (sqr (sqp [.k 5 (vi 0)] ?_))))
 refine aa (wp_block ?_)
 have hhd:(ag k 1++ag l 4)++ag (pl.length:Int) 1=bH (b9 k l pl.length++bg (pl.take 0)):=by rw[b9,List.take_zero];show _=bH (_++[]);rw[List.append_nil,iB]
 refine aT (fun t_ mz az W=>∃j:Nat,j<=pl.length/\mz=pl.length-j/\az=⟨(ovr (jv az) [(4,4,0,[.string ((bH (b9 k l pl.length++bg (pl.take j)))),vi ((j:Int))]),(18,24,15,[])] t_).toArray,[]⟩/\St w [] [eB aB 48 #[vi k,vi l,.slice A ss.length c],eB kH 151 #[.string ByteArray.empty,vi 0],eO 9 1 (.slice kn pl.length kZ) pl.length (pl.map Value.string),eB ra 48 #[vi k,vi l,.slice kn pl.length kZ]] W) (pl.length-0) ?_ ?_
 exact⟨0,Nat.zero_le _,rfl,(by rw[<-hhd];rfl),dR.pk [0,1,2,3]⟩
 rintro OT a12 ze ⟨j,hj,rfl,hj_,cV⟩
 refine ovz hj_ fun Mg=>?_
 refine wq (wq (sqr (sqp [.m 24 5,.k 25 (po ra 2)] ?_)))
 refine av 3 cV ?_
 refine sqp [.k 27 (vi ((pl.length:Int))),.k 28 (.bool (decide ((j:Int)<(pl.length:Int))))] ?_
 refine aa (wds (fun mY rR=>?_) fun mY rR=>?_)
 refine wp_skip (aa (wq (wp_block ?_)))
 have hjl:j<pl.length:=by omega
 have hg4:=Du y4 j
 have hsz_:=EU k l pl j hpz
 have htz_:=oX (pl.getD j ByteArray.empty)
 refine sqr (sqp [.m 31 4,.k 32 (po ra 2)] ?_)
 refine av 3 cV ?_
 refine sqp [.m 34 5] ?_
 refine sql (.pointer (some ((ad kn).add j))) cV (fun cx=>bS (e:=9) (m:=j) rfl (by kernel_rfl) (by kernel_rfl) (cx.ou 33) (cx.ou 34) (by omega) (by omega) (At.of_own (cx.ri 2 rfl)) (by simp)) ?_
 refine sql (.string (pl.getD j ByteArray.empty)) cV (fun cx=>ae rfl (by kernel_rfl) (cx.ou 35) (At.cellAd (At.of_own (cx.ri 2 rfl)) (mH (by omega)))) ?_
 refine sqk (.string ((jw (pl.getD j ByteArray.empty)))) cV (fun cx=>⟨_,Ar (pl.getD j ByteArray.empty) _ (by omega),(ax (cx.ou 36))⟩) fun sd cM=>?_
 refine sqp [sS 38 ((bH (b9 k l pl.length++bg (pl.take j)))) ((jw (pl.getD j ByteArray.empty))) (by first|omega|(simp only[ByteArray.size_append];omega)),.m 4 38] ?_
 refine aw (aa (sqr (sqp [.m 29 5,sI 30 ((j:Int)+1) (by omega),.m 5 30] ?_)))
 refine aa ?_
 rw[show bH (b9 k l pl.length++bg (pl.take j))++jw (pl.getD j ByteArray.empty)=bH (b9 k l pl.length++bg (pl.take (j+1))) from Cw hjl]
 refine⟨pl.length-((j+1)),by omega,?_⟩
 exact⟨(j+1),by omega,rfl,(by kernel_rfl),cM.pk [0,1,2,3]⟩
 refine wp_exit (au (au (bh (aa (wq (wp_block ?_))))))
 have hje:j=pl.length:=by omega
 refine aT (fun t_ mz az W=>∃m:Nat,6+aO pl+m<=504/\mz=504-(6+aO pl+m)/\az=⟨(ovr (jv az) [(4,4,0,[.string ((bH (b9 k l pl.length++bg pl++List.replicate m (0:UInt8))))]),(34,39,5,[])] t_).toArray,[]⟩/\St w [] [eB aB 48 #[vi k,vi l,.slice A ss.length c],eB kH 151 #[.string ByteArray.empty,vi 0],eO 9 1 (.slice kn pl.length kZ) pl.length (pl.map Value.string),eB ra 48 #[vi k,vi l,.slice kn pl.length kZ]] W) (504-(6+aO pl+0)) ?_ ?_
 exact⟨0,by omega,rfl,(by rw[hje,List.take_length,List.replicate_zero,List.append_nil];rfl),cV.pk [0,1,2,3]⟩
 rintro TX a31 OY ⟨m,hm,rfl,hj_,nJ⟩
 refine ovz hj_ fun SI=>?_
 refine wq (wq ?_)
 have hbz_:=ES k l pl m
 have hz1_:(⟨#[0]⟩:ByteArray).size=1:=rfl
 refine sqr (sqp [.m 39 4,.k 40 (vi ((((bH (b9 k l pl.length++bg pl++List.replicate m (0:UInt8)))).size:Int))),.k 41 (.bool (decide ((((bH (b9 k l pl.length++bg pl++List.replicate m (0:UInt8)))).size:Int)<504)))] ?_)
 refine aa (wds (fun zL CZ=>?_) fun zL CZ=>?_)
 refine wp_skip (aa (wp_block (sqr (sqp [.m 42 4,sS 43 ((bH (b9 k l pl.length++bg pl++List.replicate m (0:UInt8)))) ((⟨#[0]⟩:ByteArray)) (by first|omega|(simp only[ByteArray.size_append];omega)),.m 4 43] ?_))))
 refine aw (aa ?_)
 rw[E0]
 refine⟨504-(6+aO pl+((m+1))),by omega,?_⟩
 exact⟨(m+1),by omega,rfl,(by kernel_rfl),nJ.pk [0,1,2,3]⟩
 refine wp_exit (au (au (bh (aa (wq ?_)))))
 obtain rfl:m=504-(6+aO pl):=by omega
 refine sqr (sqp [.m 44 4,.k 45 (po ra 1)] ?_)
 refine av 3 nJ ?_
 refine sqk (.string ((ag l 4))) nJ (fun cx=>⟨_,gh l 4 _ (by decide) (by omega),(aP (cx.ou 46) (cx.co _))⟩) fun uE fk=>?_
 refine sqp [sS 48 ((bH (b9 k l pl.length++bg pl++List.replicate (504-(6+aO pl)) (0:UInt8)))) ((ag l 4)) (by first|omega|(simp only[ByteArray.size_append];omega)),.m 4 48] ?_
 refine aa (wq ?_)
 have hbd:bH (b9 k l pl.length++bg pl++List.replicate (504-(6+aO pl)) (0:UInt8))++ag l 4=bH (bU k l pl):=by rw[bU,<-xQ _ (bl (ag l 4)),iB]
 have hba_:(bH (b9 k l pl.length++bg pl++List.replicate (504-(6+aO pl)) (0:UInt8))++ag l 4).size=508:=by rw[ByteArray.size_append,hbz_,q2_];omega
 obtain⟨bd,hbde⟩:∃z,bH (b9 k l pl.length++bg pl++List.replicate (504-(6+aO pl)) (0:UInt8))++ag l 4=z:=⟨_,rfl⟩
 rw[hbde] at hbd hba_ |-
 have hsl_:=ir bd
 have q4_:=aF (aY bd:Int) 4 (by omega)
 refine sqr (sqp [.m 49 4] ?_)
 refine sqk (.int .u32 ((aY bd:Int))) fk (fun cx=>⟨_,oU bd _ (by omega),(ax (cx.ou 49))⟩) fun Fh gv=>?_
 refine sqp [sW 51 .i64 (aY bd:Int) (aY bd:Int) (IntWalk.i64_in _ (by omega))] ?_
 refine sqk (.string ((ag (aY bd:Int) 4))) gv (fun cx=>⟨_,gh (aY bd:Int) 4 _ (by decide) (by omega),(aP (cx.ou 51) (cx.co _))⟩) fun QF CK=>?_
 refine sqp [.m 53 4,sS 54 ((ag (aY bd:Int) 4)) bd (by first|omega|(simp only[ByteArray.size_append];omega)),.k 55 (.agg #[.string (((ag (aY bd:Int) 4))++bd),vi 0])] ?_
 refine aV (n:=2) 1 #[.string (((ag (aY bd:Int) 4))++bd),vi 0] CK fun Bt cN=>?_
 refine aa (wp_ret ?_)
 refine bpr (.agg #[.string (((ag (aY bd:Int) 4))++bd),vi 0]) (bA (n:=2) Tryz.results92 rfl (by kernel_rfl) (by kernel_rfl) (cN.blk 1 rfl) rfl) ?_
 exact Ret.of (by rw[hpl,hbd];rfl) cN.ext
end
section
open Go.RowKit
theorem Tryz.infoPgJ:(Tryz.prog.info? 48).map (fun i=>(i.zero,i.size,i.bytes))=some (some (.agg #[.int .i64 0,.int .i64 0,sn]),3,40):=by kernel_rfl
def pgQ(q:PgR):List Value:=[.int .i64 q.p.1,.int .i64 q.p.2.1,.slice q.A q.p.2.2.length q.c]
theorem iu(q:PgR):(pgQ q).length=3:=rfl
def fV(L:List RecM)(os:List Int):List Int:=os.filter fun n=>!fw L n
noncomputable def imR(L:List RecM)(n:Int):RecM:=⟨8,0,n,[],aE (ak L n)⟩
noncomputable def icL(L:List RecM)(n:Int):List Value:=rcC (rcI (imR L n))
theorem AR(L:List RecM)(n:Int):(icL L n).length=8:=rfl
theorem tH(L:List RecM)(os:List Int)(n:Int):fV L (os++[n])=if fw L n=true then fV L os else fV L os++[n]:=by
 rw[fV,List.filter_append,<-fV]
 rcases h:fw L n with _|_<;>simp[h]
theorem Ew(h:n∈fV L os):n∈os:=(List.mem_filter.1 h).1
theorem wP(L:List RecM)(os:List Int):(fV L os).length<=os.length:=List.length_filter_le _ _
theorem Gk(L:List RecM)(os:List Int)(n:Int):os.flatMap (icL L)++icL L n=(os++[n]).flatMap (icL L):=by rw[List.flatMap_append];simp
theorem x9(ps:List PgR)(q:PgR):ps.flatMap pgQ++pgQ q=(ps++[q]).flatMap pgQ:=by rw[List.flatMap_append];simp
theorem KQ(ps:List PgR)(p:PgS)(A:Option Addr)(c:Nat):ps.flatMap pgQ++[.int .i64 p.1,.int .i64 p.2.1,.slice A p.2.2.length c]=(ps++[(⟨p,A,c⟩:PgR)]).flatMap pgQ:=x9 ps ⟨p,A,c⟩
theorem uq(L:List RecM)(os:List Int):szF (et L os)=szF ((fV L os).map (imR L)):=rfl
theorem qa(hn:0<=n/\n<=65535):bv (imR L n)=true:=by
 have h1:=dD (iz L n)
 have a1:inB n 0 65535=true:=by unfold inB;rw[Bool.and_eq_true,decide_eq_true_eq,decide_eq_true_eq];omega
 have a2:decide (((aE (ak L n)).size:Int)<=60000)=true:=decide_eq_true (by omega)
 show (inB 8 1 10&&(inB 0 0 127&&(inB n 0 65535&&(decide ((([]:List EdT).length:Int)<=64)&&((([]:List EdT).all edR)&&decide (((aE (ak L n)).size:Int)<=60000))))))=true
 rw[a1,a2];decide
theorem A6:∀{l:List EdT},n∉cz l->bp cur l n=cur n:=by
 intro l h
 have h2:∀e∈l,e.1≠n:=fun e he hn=>h (jL.2 ⟨e,he,hn⟩)
 clear h
 induction l generalizing cur with
 |nil=>rfl
 |cons e l ih=>
  rw[show bp cur (e::l)=bp (eS cur e) l from rfl,ih (fun x hx=>h2 x (by simp[hx]))]
  exact if_neg (fun h=>h2 e (by simp) h.symm)
theorem Jw{l:List EdT}{e:EdT}{ps:List PgR}{q:PgR}(hnd:os.Nodup)(hk:os[k]? =some e.1)(hps:ps.map PgR.p=os.map (bp cur l))(hq:q.p=doV (bp cur l e.1) e 1):
  (ps.set k q).map PgR.p=os.map (bp cur (l++[e])):=by
 rw[List.map_set,hps,x8]
 refine List.ext_getElem? fun i=>?_
 have hkl:k<os.length:=(List.getElem?_eq_some_iff.1 hk).1
 rw[List.getElem?_set,List.length_map,List.getElem?_map,List.getElem?_map]
 by_cases hi:k=i
 subst hi
 rw[if_pos rfl,if_pos hkl,hk,hq]
 show _=some (eS (bp cur l) e e.1)
 rw[eS,if_pos rfl]
 rw[if_neg hi]
 rcases h:os[i]? with _|n
 rfl
 show some _=some (eS (bp cur l) e n)
 rw[eS,if_neg (fun hn=>hi (by
  subst hn
  exact(List.getElem?_inj hkl hnd).1 (hk.trans h.symm)))]
noncomputable def tlF(L:List RecM)(told:Int->Bool)(eds:List EdT)(os:List Int):Int->Bool:=fun n=>if n∈os/\(ak L n).1≠0/\(bp (ak L) eds n).1=0 then false else told n
theorem JE(h1:(ak L n).1≠0)(h2:(bp (ak L) eds n).1=0):(fun x=>if x=n then false else tlF L told eds os x)=tlF L told eds (os++[n]):=by
 funext x
 by_cases hx:x=n
 subst hx;rw[if_pos rfl,tlF,if_pos ⟨by simp,h1,h2⟩]
 rw[if_neg hx,tlF,tlF];simp[hx]
theorem Lr(h:¬((ak L n).1≠0/\(bp (ak L) eds n).1=0)):tlF L told eds os=tlF L told eds (os++[n]):=by
 funext x
 rw[tlF,tlF]
 by_cases hx:x=n
 subst hx;rw[if_neg (fun h1=>h h1.2),if_neg (fun h1=>h h1.2)]
 simp[hx]
def eRh(rb:Nat)(L:List RecM)(told:Int->Bool)(p:Nat)(t:RcT)(fp:List Nat):Ent:=⟨fp,fun W=>∃rs rr,rs.map RcT.r=L/\((∀t∈rs,t∈rr)/\t∈rr)/\(eRq rb rs told p rr fp).holds W⟩
theorem AG(rb:Nat)(L:List RecM)(told:Int->Bool)(p:Nat)(t:RcT)(fp:List Nat):(eRh rb L told p t fp).loc:=fun W W' hk h=>let ⟨rs,rr,h1,h2,h3⟩:=h;⟨rs,rr,h1,h2,mo rb rs told p rr fp W W' hk h3⟩
section
variable{w0 W:World}{bor:List Nat}{R:List Ent}{rb:Nat}{L:List RecM}{told:Int->Bool}{p:Nat}{t:RcT}{fp:List Nat}
theorem St.unrh(h:St w0 bor (eRh rb L told p t fp::R) W):∃rs rr,rs.map RcT.r=L/\((∀t∈rs,t∈rr)/\t∈rr)/\St w0 bor (eRq rb rs told p rr fp::R) W:=by
 obtain⟨rs,rr,h1,h2,h3⟩:=(h.ok (eRh rb L told p t fp) (by simp)).holds
 exact⟨rs,rr,h1,h2,St.repl (L1:=[]) h rfl (fun _=>h3) (mo _ _ _ _ _ _)⟩
theorem St.rh(h:St w0 bor (gU t::eRf rb L told p fp::R) W):∃fp',St w0 bor (eRh rb L told p t fp'::R) W:=by
 obtain⟨rs,rr,h1,h2,h3⟩:=h.u1.unrf
 obtain⟨fp',h4⟩:=h3.u1.rqR
 exact⟨fp',St.repl (L1:=[]) h4 rfl (fun h5=>⟨rs,rr++[t],h1,⟨fun x hx=>List.mem_append_left _ (h2 x hx),by simp⟩,h5⟩) (AG _ _ _ _ _ _)⟩
end
theorem Ku(h:rs.map RcT.r=L)(hc:Calls Tryz.prog f args w (o0 (ak (rs.map RcT.r) n) w)):Calls Tryz.prog f args w (o0 (ak L n) w):=h ▸ hc
theorem Hg(h:rs.map RcT.r=L)(hc:Calls Tryz.prog f args w (Ret (.bool (fw (rs.map RcT.r) n)) w)):Calls Tryz.prog f args w (Ret (.bool (fw L n)) w):=h ▸ hc
theorem BO{p:PgS}{A:Option Addr}(hA:At w A (p.2.2.map Value.string))(hr:bC p)(hc:p.2.2.length<=c):Calls Tryz.prog 92 #[.agg #[.int .i64 p.1,.int .i64 p.2.1,.slice A p.2.2.length c]] w (Ret (.agg #[.string (aE p),.int .i64 0]) w):=by
 have h:=uz p.1 p.2.1 A c p.2.2 w hA hr.1 hc
 rw[hr.2] at h;exact h
theorem sF{rows:List PgR}(h:(eM (rows.map dM)).holds W){r:PgR}(hr:r∈rows):r.p.2.2.length<=r.c:=lk (h (dM r) (List.mem_map.2 ⟨_,hr,rfl⟩)).1
theorem Gu(hm:m=os.length)(h:(decide ((k:Int)<(m:Int))&&(os.getD k 0 != ep))=true)(hne:∀i,i<k->os[i]? ≠some ep):∀i,i<k+1->os[i]? ≠some ep:=fun i hi=>by
 rw[Bool.and_eq_true,decide_eq_true_eq,bne_iff_ne] at h
 rcases Nat.lt_or_ge i k with h1|h1
 exact hne i h1
 have e:i=k:=by omega
 subst e
 intro h2
 exact h.2 (by rw[List.getD_eq_getElem?_getD,h2];rfl)
theorem HG(hm:m=os.length)(hk:k<=m)(h:(decide ((k:Int)<(m:Int))&&(os.getD k 0 != ep))=false):k=m\/os[k]? =some ep:=by
 rcases Nat.lt_or_ge k m with h1|h1
 right
 rw[decide_eq_true (by omega),Bool.true_and,bne_eq_false_iff_eq,List.getD_eq_getElem?_getD,List.getElem?_eq_getElem (by omega)] at h
 rw[List.getElem?_eq_getElem (by omega),<-h];rfl
 left;omega
theorem J1(hk:k=os.length)(hne:∀i,i<k->os[i]? ≠some ep):ep∉os:=fun h=>by
 obtain⟨i,hi,he⟩:=List.mem_iff_getElem.1 h
 exact hne i (by omega) (by rw[List.getElem?_eq_getElem hi,he])
theorem yK{ps:List PgR}(h:ps.map PgR.p=os.map cur)(hk:os[k]? =some n):∃q,ps[k]? =some q/\q.p=cur n:=by
 have h1:=congrArg (fun l=>l[k]?) h
 simp only[List.getElem?_map,hk] at h1
 rcases e:ps[k]? with _|q
 rw[e] at h1;cases h1
 rw[e] at h1;exact⟨q,rfl,Option.some.inj h1⟩
theorem G9{ims:List RecM}(h:rs.map RcT.r=L++ims)(hi:∀r∈ims,r.eds=[])(hc:Calls Tryz.prog f args w (o0 (ak (rs.map RcT.r) n) w)):Calls Tryz.prog f args w (o0 (ak L n) w):=by
 rw[h,tY hi] at hc;exact hc
theorem vu(a b:List RecM):szF (a++b)=szF a+szF b:=by simp[szF]
theorem B8(l:List RecM)(i:Nat):szF (l.take i)<=szF l:=by
 conv=>rhs;rw[<-List.take_append_drop i l,vu]
 omega
theorem Jv:tlF L told eds []=told:=by funext x;rw[tlF,if_neg (by simp)]
theorem F2{i:Nat}(h:(fV L os)[i]? =some n):(et L os).take (i+1)=(et L os).take i++[imR L n]:=by
 have e:(et L os)[i]? =some (imR L n):=by
  show ((fV L os).map _)[i]? = _
  rw[List.getElem?_map,h];rfl
 rw[List.take_add_one,e];rfl
theorem sH(L:List RecM)(os:List Int):(et L os).length=(fV L os).length:=List.length_map ..
theorem DP(rb:Nat)(L:List RecM)(told:Int->Bool)(p:Nat)(t:RcT)(fp:List Nat)(w:World)(hB:(eRh rb L told p t fp).holds w)(hlt:∀k∈fp,k<w.heap.size)(hL:∀r∈L,bv r=true)(hz:szF L<=1048576)(hp:p<=400)(hI:t.r.eds.length<=100000)(hze:∀e∈t.r.eds,e.2.2.size<=9223372036854775807)(hzn:t.r.note.size<=9223372036854775807):
  Calls Tryz.prog 77 #[po rb 0,.agg #[.int .i64 t.r.kind,.int .i64 t.r.xid,.int .i64 t.r.tbl,sn,sn,.slice t.A t.r.eds.length t.c,sn,.string t.r.note]] w ((fun e w2=>e= .returned (.agg #[.int .i64 (rfD p L told t.r).2.1,.int .i64 (rfE p L t.r)])/\∃fp2,St w fp [eRf rb (rfD p L told t.r).1 (rfD p L told t.r).2.2.2 p fp2] w2)):=by
 have st1:St w fp [eRh rb L told p t fp] w:=St.lend hB (AG _ _ _ _ _ _) hlt
 have hll:=tP hL hz
 go_enter Tryz.func77,Tryz.ntmps77
 have al:=st1
 refine wq (sqr ?_)
 refine ce #[vi t.r.kind,vi t.r.xid,vi t.r.tbl,sn,sn,.slice t.A t.r.eds.length t.c,sn,.string t.r.note] al fun cT W1 aA=>?_
 refine bY #[vi 0,vi 0] aA fun dI W2 bQ=>?_
 refine aa (wq (wq ?_))
 obtain⟨rs,rr,hrs,⟨hsub,htr⟩,ho3_⟩:=bQ.unrh
 have hzs:szF (rs.map RcT.r)<=1048576:=hrs ▸ hz
 have hrl:rs.length<=1000000:=by have h_:=congrArg List.length hrs;rw[List.length_map] at h_;omega
 have hrL:∀t∈rs,bv t.r=true:=fun t ht=>hL _ (hrs ▸ List.mem_map.2 ⟨t,ht,rfl⟩)
 obtain⟨QA,qc,TA,tc,hq4_⟩:=ho3_.unrq
 refine sqr ?_
 refine bE 4 8 hq4_ ?_
 refine sqk (.bool ((bv t.r))) hq4_ (fun cx=>⟨_,mA t.r.kind t.r.xid t.r.tbl t.A t.c t.r.eds t.r.note _ (dW (CtxV.holdF cx (cx.init 3 _ rfl) rfl) htr) (by omega) hze hzn,(ax (cx.ou 20))⟩) fun W6 bI=>?_
 refine sqp [.k 22 (.bool (!((bv t.r)))),.m 23 22] ?_
 refine d6 23 [24,25,26] ?_ rfl (fun hq=>?_) ?_
 rotate_left
 refine sqp [.k 24 (vp cT)] ?_
 refine av 4 bI ?_
 refine sqp [.k 26 (.bool (t.r.kind==8))] ?_
 exact sqe
 refine c8 ?_
 refine sqp [sPo 27 (!((bv t.r))) (t.r.kind==8),.m 28 27] ?_
 refine d6 28 [29,30,31] ?_ rfl (fun hq=>?_) ?_
 rotate_left
 refine sqp [.k 29 (vp cT)] ?_
 refine av 4 bI ?_
 refine sqp [.k 31 (.bool (t.r.kind==9))] ?_
 exact sqe
 refine c8 ?_
 refine sqp [sPo 32 ((!((bv t.r)))||(t.r.kind==8)) (t.r.kind==9)] ?_
 refine aa (wbs (fun mY=>?_) fun mY=>?_)
 have rR:=mY
 simp only[zB] at rR
 refine wq (sqr (sqp [.k 33 (.agg #[vi 0,vi 1])] ?_))
 refine aV (n:=2) 5 #[vi 0,vi 1] bI fun Ml kj=>?_
 refine aa (wp_ret (aj ?_))
 refine bpr (.agg #[vi 0,vi 1]) (bA (n:=2) Tryz.results77 rfl (by kernel_rfl) (by kernel_rfl) (kj.blk 5 rfl) rfl) ?_
 have hE_:rfE p L t.r=1:=IK (fun hh=>by have h_:=mY;have h1:=hh.1;have h2:=hh.2.1;have h3:=hh.2.2;simp_all)
 obtain⟨fp21_,hr21_⟩:=St.rq (rs:=rs) (told:=told) (p:=p) (rr:=rr) (kj.u4.c0.u4.c0)
 have Ou:=St.rf (L:=L) hr21_ (hrs) (hsub)
 exact⟨by rw[jN (told:=told) hE_ (by first|decide|assumption),hE_],_,by rw[jN (told:=told) hE_ (by first|decide|assumption)];exact Ou⟩
 have rR:=mY
 simp only[zB] at rR
 obtain⟨⟨Ra,Rb⟩,Rc⟩:=rR
 refine wp_skip (aa (wq (wq ?_)))
 have hda:DoA t.r:=by have h_:=mY;simp at h_;exact⟨h_.1.1,h_.1.2,h_.2⟩
 have hro:=d8 hda.1
 have hml:=hro.many
 refine sqr (sqp [.k 5 (vi 0)] ?_)
 refine aa (wp_block ?_)
 refine aT (fun t_ mz az W=>∃i:Nat,i<=t.r.eds.length/\(∀e∈t.r.eds.take i,d4 p e=false)/\mz=t.r.eds.length-i/\az=⟨(ovr (jv az) [(5,5,0,[vi ((i:Int))]),(28,34,28,[])] t_).toArray,[]⟩/\St w fp [eB rb 69 #[vi ((p:Int)),.slice QA rs.length qc,vi ((szF (rs.map RcT.r):Int)),.slice TA p tc],eO 27 8 (.slice QA rs.length qc) rs.length (rs.flatMap rcC),eO 4 1 (.slice TA p tc) p (tB told p),eRc rr,eB cT 27 #[vi t.r.kind,vi t.r.xid,vi t.r.tbl,sn,sn,.slice t.A t.r.eds.length t.c,sn,.string t.r.note],eB dI 129 #[vi 0,vi 0]] W) (t.r.eds.length-0) ?_ ?_
 exact⟨0,Nat.zero_le _,(fun e he=>by cases he),rfl,(by kernel_rfl),bI.pk [0,1,2,3,4,5]⟩
 rintro Qt a24 y6 ⟨i,hi,hno,rfl,hj_,e9⟩
 refine ovz hj_ fun Pn=>?_
 refine wq (wq (sqr (sqp [.m 34 5,.k 35 (po cT 5)] ?_)))
 refine av 4 e9 ?_
 refine sqp [.k 37 (vi ((t.r.eds.length:Int))),.k 38 (.bool (decide ((i:Int)<(t.r.eds.length:Int))))] ?_
 refine aa (wds (fun jF jg=>?_) fun jF jg=>?_)
 refine wp_skip (aa (wq (wp_block (wq ?_))))
 obtain⟨ep,es,eb,hek⟩:=BX (l:=t.r.eds) (j:=i) (by omega)
 have hke:edR (ep,es,eb)=true:=hro.eds _ (List.mem_of_getElem? hek)
 have hez:eb.size<=9223372036854775807:=by have:=dA hke;dsimp only at this;omega
 have hebd:=ld hke
 dsimp only at hebd
 refine bG [0,1,0,7,15,31,63,127,255,511,255,2047,4095,8191,255,16639,49407,114943,262143,524287] [[],[4],[],[3],[],[3],[],[],[],[4],[],[3],[],[3],[],[],[],[0]] [.k 41 (po cT 5),.c 42 (.slice t.A t.r.eds.length t.c),.k 43 (vi ((i:Int))),.c 44 (.pointer (some ((ad t.A).add (i*3)))),.c 45 (.pointer (some ((ad t.A).add (i*3+0)))),.c 46 (vi ep),.k 47 (.bool (decide (ep<0))),.k 48 (.bool (decide (ep<0))),.z 49 (!(decide (ep<0))) (po cT 5),.y 50 (!(decide (ep<0))) (.slice t.A t.r.eds.length t.c),.z 51 (!(decide (ep<0))) (vi ((i:Int))),.y 52 (!(decide (ep<0))) (.pointer (some ((ad t.A).add (i*3)))),.y 53 (!(decide (ep<0))) (.pointer (some ((ad t.A).add (i*3+0)))),.y 54 (!(decide (ep<0))) (vi ep),.z 55 (!(decide (ep<0))) (vp rb),.z 56 (!(decide (ep<0))) (vp rb),.z 57 (!(decide (ep<0))) (vp rb),.y 58 (!(decide (ep<0))) (vi ((p:Int))),.z 59 (!(decide (ep<0))) (.bool (decide ((p:Int)<=ep))),tO 60 (decide (ep<0)) (decide ((p:Int)<=ep))] [0,1,2,3,4,5] [1,3,4,5,9,11,12,13,17] [(41,0,20,61)] e9 ?_ fun OY nJ=>?_
 refine⟨?_,?_,?_,?_,?_,?_,?_,?_,?_,trivial⟩
 exact xs4 rfl id fun cx=>ae rfl (by kernel_rfl) (cx.an 0) ((cx.bi 4 rfl).cell 5)
 exact xs4 rfl id fun cx=>aI (e:=84) (m:=i) (sz:=3) rfl (by kernel_rfl) (by kernel_rfl) (cx.an 1) (cx.an 2) (by omega) (by omega) (dW (CtxV.holdF cx (cx.init 3 _ rfl) rfl) htr) (bq (sz:=3) bJ (by decide) (by omega))
 exact xs4 rfl id fun cx=>br rfl (by kernel_rfl) (cx.an 3)
 exact xs4 rfl id fun cx=>ae rfl (by kernel_rfl) (cx.an 4) (At.eltc (f:=edC) (k:=0) bJ (dW (CtxV.holdF cx (cx.init 3 _ rfl) rfl) htr) hek rfl)
 exact m2 rfl (fun _ _ _ h=>h) (fun cx=>(cx.an 7)) fun cx hq=>ae rfl (by kernel_rfl) (mbv (cx.an 8) hq) ((cx.bi 4 rfl).cell 5)
 exact m2 rfl (fun _ _ _ h=>h) (fun cx=>(cx.an 7)) fun cx hq=>aI (e:=84) (m:=i) (sz:=3) rfl (by kernel_rfl) (by kernel_rfl) (mbv (cx.an 9) hq) (mbv (cx.an 10) hq) (by have hq_:=hq;simp only[zB] at hq_;omega) (by have hq_:=hq;simp only[zB] at hq_;omega) (dW (CtxV.holdF cx (cx.init 3 _ rfl) rfl) htr) (bq (sz:=3) bJ (by decide) (by have hq_:=hq;simp only[zB] at hq_;omega))
 exact m2 rfl (fun _ _ _ h=>h) (fun cx=>(cx.an 7)) fun cx hq=>br rfl (by kernel_rfl) (mbv (cx.an 11) hq)
 exact m2 rfl (fun _ _ _ h=>h) (fun cx=>(cx.an 7)) fun cx hq=>ae rfl (by kernel_rfl) (mbv (cx.an 12) hq) (At.eltc (f:=edC) (k:=0) bJ (dW (CtxV.holdF cx (cx.init 3 _ rfl) rfl) htr) hek rfl)
 exact m2 rfl (fun _ _ _ h=>h) (fun cx=>(cx.an 7)) fun cx hq=>ae rfl (by kernel_rfl) (mbv (cx.an 16) hq) ((cx.bi 0 rfl).cell 0)
 refine aa (wbs (fun g0=>?_) fun g0=>?_)
 have kR:=g0
 simp only[zB] at kR
 refine wq (sqr (sqp [.k 61 (.agg #[vi 0,vi 22])] ?_))
 refine aV (n:=2) 5 #[vi 0,vi 22] nJ fun uB dG=>?_
 refine aa (wp_ret (bb (aj (aj (bb (aj ?_))))))
 refine bpr (.agg #[vi 0,vi 22]) (bA (n:=2) Tryz.results77 rfl (by kernel_rfl) (by kernel_rfl) (dG.blk 5 rfl) rfl) ?_
 have hE_:rfE p L t.r=22:=Ei hda (List.any_eq_true.2 ⟨_,List.mem_of_getElem? hek,by have h_:=g0;unfold d4;simpa using h_⟩)
 obtain⟨fp35_,hr35_⟩:=St.rq (rs:=rs) (told:=told) (p:=p) (rr:=rr) (dG.u4.c0.u4.c0)
 have Ov:=St.rf (L:=L) hr35_ (hrs) (hsub)
 exact⟨by rw[jN (told:=told) hE_ (by first|decide|assumption),hE_],_,by rw[jN (told:=told) hE_ (by first|decide|assumption)];exact Ov⟩
 have kR:=g0
 simp only[zB] at kR
 obtain⟨Re,Rf⟩:=kR
 refine wp_skip (aw (aa (sqr (sqp [.m 39 5,sI 40 ((i:Int)+1) (by omega),.m 5 40] ?_))))
 refine aa ?_
 refine⟨t.r.eds.length-((i+1)),by omega,?_⟩
 exact⟨(i+1),by omega,(fun e he=>by rw[List.take_add_one,hek] at he;rcases List.mem_append.1 he with h|h;exact hno e h;rw[show e=(ep,es,eb) by simpa using h];have h_:=g0;unfold d4;simpa using h_),rfl,(by kernel_rfl),nJ.pk [0,1,2,3,4,5]⟩
 refine wp_exit (au (au (bh (aa (wq ?_)))))
 have hin:t.r.eds.any (d4 p)=false:=List.any_eq_false.2 fun e he=>by rw[hno e (by rw[List.take_of_length_le (by omega)];exact he)];decide
 have hfz:=eR hda.1
 refine sqr ?_
 refine ej (fun x_=>sA x_) (fun rd=> .slice rd 0 0) (fun rd=>eO 3 1 (.slice rd 0 0) 0 ([])) e9 (by
   refine svA fun o b W X cx=>?_
   exact du (e:=3) (xs:=[]) rfl (by simp[go_sem]) rfl (by decide) rfl rfl (fun _ _ _ _ _=> .intro)) fun rd se dz=>?_
 refine sqp [.m 6 62] ?_
 refine aa (wq (sqr ?_))
 refine mJ 48 3 0 [] dz (@fun o b W X cx=>by simp[go_sem]) fun MX uE fk=>?_
 refine sqp [.m 7 63] ?_
 refine aa (wq (sqr ?_))
 refine mJ 27 8 0 [] fk (@fun o b W X cx=>by simp[go_sem]) fun MY Qv uL=>?_
 refine sqp [.m 8 64] ?_
 refine aa (wq ?_)
 have hzl:szF L<=1048576:=hz
 have hzq:(szF (rs.map RcT.r):Int)=(szF L:Int):=by rw[hrs]
 refine bG [0,1,3,7,0,16,48,127,255] [[],[],[],[0],[4],[3]] [.k 65 (vp rb),.k 66 (vp rb),.k 67 (po rb 2),.c 68 (vi ((szF (rs.map RcT.r):Int))),.c 69 (.agg #[vi t.r.kind,vi t.r.xid,vi t.r.tbl,sn,sn,.slice t.A t.r.eds.length t.c,sn,.string t.r.note]),.c 70 (.string ((aC t.r))),.k 71 (vi ((((aC t.r)).size:Int))),tI 72 ((szF (rs.map RcT.r):Int)+(((aC t.r)).size:Int)) (by omega),.k 9 (vi ((szF (rs.map RcT.r):Int)+(((aC t.r)).size:Int)))] [0,1,2,3,4,5,6,7,8] [3,4,5] [(9,8,1,10),(55,0,8,63)] uL ?_ fun Fh gv=>?_
 refine⟨?_,?_,?_,trivial⟩
 exact xs4 rfl id fun cx=>ae rfl (by kernel_rfl) (cx.an 2) ((cx.bi 0 rfl).cell 2)
 exact xs4 rfl id fun cx=>cg (n:=8) rfl (by kernel_rfl) (by kernel_rfl) (cx.ou 3) (cx.bi 4 rfl) (nle rfl) rfl
 exact xsc rfl id rfl rfl fun cx=>⟨_,j6 t.r.kind t.r.xid t.r.tbl t.A t.c t.r.eds t.r.note _ (dW (CtxV.holdF cx (cx.init 3 _ rfl) rfl) htr) (by have h_:=hml;omega) (fun e he=>by have h_:=dA (hro.eds e he);omega) (by have h_:=hro.note;omega),(ax (cx.an 4))⟩
 refine aa (wq (wq (sqr (sqp [.k 10 (vi 0)] ?_))))
 refine aa (wp_block ?_)
 have hn48_:=gv.nM dM
 refine aT (fun t_ mz az W=>∃j:Nat,∃os:List Int,∃m:Nat,∃OA:Option Addr,∃oc:Nat,∃ps:List PgR,∃NA:Option Addr,∃nc:Nat,∃rws:List PgR,∃nl:List Int,∃g:Nat,∃IA:Option Addr,∃ic:Nat,∃z:Int,j<=t.r.eds.length/\os=cz (t.r.eds.take j)/\m=os.length/\cY (ak L) (t.r.eds.take j)=0/\ps.map PgR.p=os.map (bp (ak L) (t.r.eds.take j))/\(∀q∈ps,q∈rws)/\nl=fV L os/\g=nl.length/\z=(szF L:Int)+((aC t.r).size:Int)+(szF (et L os):Int)/\(0<=z/\z<=2000000+200000*(j:Int))/\mz=t.r.eds.length-j/\az=⟨(ovr (jv az) [(6,6,0,[.slice OA m oc,.slice NA m nc,.slice IA g ic,vi z,vi ((j:Int))]),(0,11,5,[]),(57,73,87,[])] t_).toArray,[]⟩/\St w fp [eB rb 69 #[vi ((p:Int)),.slice QA rs.length qc,vi ((szF (rs.map RcT.r):Int)),.slice TA p tc],eO 27 8 (.slice QA rs.length qc) rs.length (rs.flatMap rcC),eO 4 1 (.slice TA p tc) p (tB told p),eRc rr,eB cT 27 #[vi t.r.kind,vi t.r.xid,vi t.r.tbl,sn,sn,.slice t.A t.r.eds.length t.c,sn,.string t.r.note],eB dI 129 #[vi 0,vi 0],eO 3 1 (.slice OA m oc) m (os.map (Value.int .i64)),eO 48 3 (.slice NA m nc) m (ps.flatMap pgQ),eO 27 8 (.slice IA g ic) g (nl.flatMap (icL L)),eM (List.map dM rws)] W) (t.r.eds.length-0) ?_ ?_
 exact⟨0,[],0,rd,0,[],(some ⟨MX,0,none⟩),0,[],[],0,(some ⟨MY,0,none⟩),0,(szF (rs.map RcT.r):Int)+(((aC t.r)).size:Int),Nat.zero_le _,rfl,rfl,rfl,rfl,(fun q hq=>by cases hq),rfl,rfl,(by rw[hrs];show _= _+((0:Nat):Int);omega),(by rw[hrs];omega),rfl,(by kernel_rfl),hn48_.pk [1,2,3,4,5,6,7,8,9,0]⟩
 rintro TY a49 LS ⟨j,os,m,OA,oc,ps,NA,nc,rws,nl,g,IA,ic,z,hj,hos,hm,herr,hps,hpr,hnl,hg,hz1,hzb,rfl,hj_,ey⟩
 refine ovz hj_ fun SJ=>?_
 refine wq (wq (sqr (sqp [.m 73 10,.k 74 (po cT 5)] ?_)))
 refine av 4 ey ?_
 refine sqp [.k 76 (vi ((t.r.eds.length:Int))),.k 77 (.bool (decide ((j:Int)<(t.r.eds.length:Int))))] ?_
 refine aa (wds (fun PU Ow=>?_) fun PU Ow=>?_)
 ·refine wp_skip (aa (wq (wp_block (wq ?_))))
  obtain⟨ep,es,eb,hek⟩:=BX (l:=t.r.eds) (j:=j) (by omega)
  have hke:edR (ep,es,eb)=true:=hro.eds _ (List.mem_of_getElem? hek)
  have hez:eb.size<=9223372036854775807:=by have:=dA hke;dsimp only at this;omega
  have hebd:=ld hke
  dsimp only at hebd
  have hpe:=jP hin (List.mem_of_getElem? hek)
  have hj64:j<=64:=by omega
  have hmj:m<=j:=by rw[hm,hos];have h1:=kp (t.r.eds.take j);rw[List.length_take] at h1;omega
  refine sqr (sqp [.k 80 (po cT 5)] ?_)
  refine av 4 ey ?_
  refine sqp [.m 82 10] ?_
  refine sql (.pointer (some ((ad t.A).add (j*3)))) ey (fun cx=>aI (e:=84) (m:=j) (sz:=3) rfl (by kernel_rfl) (by kernel_rfl) (cx.ou 81) (cx.ou 82) (by omega) (by omega) (dW (CtxV.holdF cx (cx.init 3 _ rfl) rfl) htr) (bq (sz:=3) bJ (by decide) (by omega))) ?_
  refine sql (.pointer (some ((ad t.A).add (j*3+0)))) ey (fun cx=>br rfl (by kernel_rfl) (cx.ou 83)) ?_
  refine sql (vi ep) ey (fun cx=>ae rfl (by kernel_rfl) (cx.ou 84) (At.eltc (f:=edC) (k:=0) bJ (dW (CtxV.holdF cx (cx.init 3 _ rfl) rfl) htr) hek rfl)) ?_
  refine sqp [.m 11 85] ?_
  refine aa (wq (sqr (sqp [.k 12 (vi 0)] ?_)))
  refine aa (wq (wp_block ?_))
  refine aT (fun t_ mz az W=>∃k:Nat,k<=m/\(∀i,i<k->os[i]? ≠some ep)/\mz=m-k/\az=⟨(ovr (jv az) [(12,12,0,[vi ((k:Int))]),(73,86,14,[])] t_).toArray,[]⟩/\St w fp [eB rb 69 #[vi ((p:Int)),.slice QA rs.length qc,vi ((szF (rs.map RcT.r):Int)),.slice TA p tc],eO 27 8 (.slice QA rs.length qc) rs.length (rs.flatMap rcC),eO 4 1 (.slice TA p tc) p (tB told p),eRc rr,eB cT 27 #[vi t.r.kind,vi t.r.xid,vi t.r.tbl,sn,sn,.slice t.A t.r.eds.length t.c,sn,.string t.r.note],eB dI 129 #[vi 0,vi 0],eO 3 1 (.slice OA m oc) m (os.map (Value.int .i64)),eO 48 3 (.slice NA m nc) m (ps.flatMap pgQ),eO 27 8 (.slice IA g ic) g (nl.flatMap (icL L)),eM (List.map dM rws)] W) (m-0) ?_ ?_
  exact⟨0,Nat.zero_le _,(fun i hi=>absurd hi (by omega)),rfl,(by kernel_rfl),ey.pk [0,1,2,3,4,5,6,7,8,9]⟩
  rintro TZ a64 I5 ⟨k,hk,hne,rfl,hj_,gI⟩
  refine ovz hj_ fun SK=>?_
  refine wq (wq (sqr (sqp [.m 86 12,.m 87 6,.k 88 (vi ((m:Int))),.k 89 (.bool (decide ((k:Int)<(m:Int)))),.m 90 89] ?_)))
  refine d6 90 [91,92,93,94,95,96] ?_ rfl (fun hq=>?_) ?_
  rotate_left
  have hq_:=of_decide_eq_true hq
  refine sqp [.m 91 6,.m 92 12] ?_
  refine sql (.pointer (some ((ad OA).add k))) gI (fun cx=>bS (e:=3) (m:=k) rfl (by kernel_rfl) (by kernel_rfl) (cx.ou 91) (cx.ou 92) (by omega) (by omega) (At.of_own (cx.ri 6 rfl)) (by rw[List.length_map];omega)) ?_
  refine sql (vi (os.getD k 0)) gI (fun cx=>ae rfl (by kernel_rfl) (cx.ou 93) (At.cellAd (At.of_own (cx.ri 6 rfl)) (Gw (by omega)))) ?_
  refine sqp [.m 95 11,.k 96 (.bool ((os.getD k 0) != ep))] ?_
  exact sqe
  refine c8 ?_
  refine sqp [sPa 97 (decide ((k:Int)<(m:Int))) ((os.getD k 0) != ep)] ?_
  refine aa (wbs (fun zM=>?_) fun zM=>?_)
  have xv:=zM
  simp only[zB] at xv
  obtain⟨Rg,Rh⟩:=xv
  refine wp_skip (aa (wp_block (sqr (sqp [.m 98 12,sI 99 ((k:Int)+1) (by omega),.m 12 99] ?_))))
  refine aw (aa ?_)
  refine⟨m-((k+1)),by omega,?_⟩
  exact⟨(k+1),by omega,Gu hm zM hne,rfl,(by kernel_rfl),gI.pk [0,1,2,3,4,5,6,7,8,9]⟩
  have xv:=zM
  simp only[zB] at xv
  refine wp_exit (au (au (bh (aa ?_))))
  refine kC (fun t_ az W=>∃os2:List Int,∃m2:Nat,∃OA2:Option Addr,∃oc2:Nat,∃ps2:List PgR,∃NA2:Option Addr,∃nc2:Nat,∃rws2:List PgR,∃nl2:List Int,∃g2:Nat,∃IA2:Option Addr,∃ic2:Nat,∃z2:Int,os2=jB os (ep,es,eb)/\m2=os2.length/\ps2.map PgR.p=os2.map (bp (ak L) (t.r.eds.take j))/\(∀q∈ps2,q∈rws2)/\nl2=fV L os2/\g2=nl2.length/\z2=(szF L:Int)+((aC t.r).size:Int)+(szF (et L os2):Int)/\(0<=z2/\z2<=2000000+200000*((j:Int)+1))/\os2[k]? =some ep/\az=⟨(ovr (jv az) [(6,6,0,[.slice OA2 m2 oc2,.slice NA2 m2 nc2,.slice IA2 g2 ic2,vi z2]),(3,13,2,[]),(85,100,39,[])] t_).toArray,[]⟩/\St w fp [eB rb 69 #[vi ((p:Int)),.slice QA rs.length qc,vi ((szF (rs.map RcT.r):Int)),.slice TA p tc],eO 27 8 (.slice QA rs.length qc) rs.length (rs.flatMap rcC),eO 4 1 (.slice TA p tc) p (tB told p),eRc rr,eB cT 27 #[vi t.r.kind,vi t.r.xid,vi t.r.tbl,sn,sn,.slice t.A t.r.eds.length t.c,sn,.string t.r.note],eB dI 129 #[vi 0,vi 0],eO 3 1 (.slice OA2 m2 oc2) m2 (os2.map (Value.int .i64)),eO 48 3 (.slice NA2 m2 nc2) m2 (ps2.flatMap pgQ),eO 27 8 (.slice IA2 g2 ic2) g2 (nl2.flatMap (icL L)),eM (List.map dM rws2)] W) ?_ ?_
  refine wq ?_
  have hix:=HG hm hk zM
  by_cases hkm:k=m
  have hnew:=J1 (hkm.trans hm) hne
  have hcr:=iz L ep
  refine sqr ?_
  have hd86:((k:Int)==(m:Int))=true:=(beq_iff_eq.2 (by omega))
  refine sqp [.m 100 12,.m 101 6,.k 102 (vi ((m:Int))),.e 103 (.bool ((k:Int)==(m:Int))) (.bool true) (congrArg Value.bool hd86)] ?_
  refine aa (wct rfl (wq (sqr (sqp [.m 104 0,.k 105 (vp rb),.k 106 (po rb 1)] ?_))))
  refine av 0 gI ?_
  refine sqp [.m 108 11] ?_
  refine iC (fun eF eG=> .agg #[vi ((ak L ep).1),vi ((ak L ep).2.1),.slice eF ((ak L ep).2.2.length) eG]) (fun eF eG=>eO 9 1 (.slice eF ((ak L ep).2.2.length) eG) ((ak L ep).2.2.length) ((ak L ep).2.2.map Value.string)) gI (fun cx=>⟨_,(Ku hrs (kQ _ _ rs ep _ ⟨At.of_ownN (cx.ri 1 rfl),fun t ht=>dW (CtxV.holdF cx (cx.init 3 _ rfl) rfl) (hsub t ht)⟩ hrl hrL)).mono (by rintro e W1 ⟨A4,c4,rfl,ho,hx⟩;exact⟨_,_,rfl,St.one hx (cm ho)⟩),(aP (cx.ou 107) (cx.ou 108))⟩) fun eF eG Mh l8=>?_
  refine bY #[vi 0,vi 0,sn] l8 fun Ri QH CM=>?_
  refine aV (n:=3) 11 #[vi ((ak L ep).1),vi ((ak L ep).2.1),.slice eF ((ak L ep).2.2.length) eG] CM fun OU uN=>?_
  refine aa (wq (sqr (sqp [.m 110 6,.m 111 11] ?_)))
  refine ej (fun x_=>sA x_) (fun rS=> .slice rS 1 1) (fun rS=>eO 3 1 (.slice rS 1 1) 1 ([vi ep])) uN (by
    refine svA fun o b W X cx=>?_
    have Ox:o (.tmp 111)=vi ep:=(cx.ou 111)
    exact du (e:=3) (xs:=[vi ep]) rfl (by simp[go_sem,Ox]) rfl (by decide) rfl rfl (fun _ _ _ _ _=> .intro)) fun rS T0 Oy=>?_
  refine sQ (fun x_=>sA x_) (fun x_=>sC x_) (fun mp mq=> .slice mp (m+1) mq) (fun mp mq=>eO 3 1 (.slice mp (m+1) mq) (m+1) ((os++[ep]).map (Value.int .i64))) 6 Oy (by
    refine svA fun o b W X cx=>?_
    obtain⟨i0,hi0,hz0,hz1,hz2⟩:=info_parts Tryz.infoIntJ
    refine eH (n:=m) (m:=1) (nm:=m+1) (xs:=os.map (Value.int .i64)) (news:=[vi ep]) (xs':=(os++[ep]).map (Value.int .i64)) rfl (ty:=25) rfl (by kernel_rfl) hi0 hz0 hz1 hz2 rfl (cx.ou 110) cx (cx.init 6 _ rfl) rfl (cx.ou 112) (by first|(simp;done)|(simp;omega)) (At.of_own (cx.ri 12 rfl)) (by simp[Value.oneCell']) (by simp only[maxLen];omega) (by omega) rfl rfl rfl (by omega) ((AM _ _)) (fun d v X' hs hb hv hx=>?_)
    exact⟨hv,hx⟩) fun mp mq T1 Oz=>?_
  refine sqp [.m 6 113] ?_
  refine aa (wq ?_)
  have hg100_:=St.apf (r:=(⟨ak L ep,eF,eG⟩:PgR)) Oz.u10.u10
  have hpn:(⟨ak L ep,eF,eG⟩:PgR)∈rws++[(⟨ak L ep,eF,eG⟩:PgR)]:=by simp
  refine sqr (sqp [.m 114 7] ?_)
  refine bE 10 3 hg100_ ?_
  refine mJ 48 3 1 [vi ((ak L ep).1),vi ((ak L ep).2.1),.slice eF ((ak L ep).2.2.length) eG] hg100_ (@fun o b W X cx=>by have OB:o (.tmp 115)= .agg #[vi ((ak L ep).1),vi ((ak L ep).2.1),.slice eF ((ak L ep).2.2.length) eG]:=(cx.ou 115);simp[go_sem,OB]) fun PV SL MZ=>?_
  refine vE (m+1) ((ps++[(⟨ak L ep,eF,eG⟩:PgR)]).flatMap pgQ) 8 MZ Tryz.infoPgJ (fun cx=>(At.of_ownN (cx.ri 12 rfl))) (jM:=(x9 ps (⟨ak L ep,eF,eG⟩:PgR))) fun zN zO SM FD=>?_
  refine sqp [.m 7 117] ?_
  refine aa (wq (sqr (sqp [.m 118 0,.k 119 (vp rb),.k 120 (po rb 1)] ?_)))
  refine av 1 FD ?_
  refine sqp [.m 122 11] ?_
  refine sqk (.bool ((fw L ep))) FD (fun cx=>⟨_,Hg hrs (yX _ _ rs ep _ ⟨At.of_ownN (cx.ri 2 rfl),fun t ht=>dW (CtxV.holdF cx (cx.init 4 _ rfl) rfl) (hsub t ht)⟩ hrl),(aP (cx.ou 121) (cx.ou 122))⟩) fun SN zP=>?_
  refine sqp [.k 124 (.bool (!((fw L ep))))] ?_
  refine aa ?_
  rcases Bool.eq_false_or_eq_true ((fw L ep)) with vl|vl
  refine wp_cond_false (show Act.eval _ _= .bool false from(congrArg Value.bool (by rw[vl];rfl))) (wp_skip (aa ?_))
  have hnd_:fV L (os++[ep])=fV L os:=by rw[tH,if_pos (by simpa using vl)]
  exact⟨(os++[ep]),(m+1),mp,mq,(ps++[(⟨ak L ep,eF,eG⟩:PgR)]),zN,zO,(rws++[(⟨ak L ep,eF,eG⟩:PgR)]),nl,g,IA,ic,z,(kv (e:=(ep,es,eb)) hnew).symm,(by rw[List.length_append,List.length_singleton];omega),(by rw[List.map_append,List.map_append,hps];show _++[ak L ep]= _++[bp (ak L) (t.r.eds.take j) ep];rw[A6 (by rw[<-hos];exact hnew)]),(fun q hq=>(List.mem_append.1 hq).elim (fun h=>List.mem_append_left _ (hpr q h)) fun h=>List.mem_append_right _ h),(by rw[hnd_,hnl]),hg,(by rw[uq,hnd_,<-uq];exact hz1),(by omega),(by rw[List.getElem?_append_right (by omega)];rw[show k-os.length=0 by omega];rfl),(by kernel_rfl),zP.pk [1,2,3,4,5,6,7,8,9,0]⟩
  refine wp_cond_true (show Act.eval _ _= .bool true from(congrArg Value.bool (by rw[vl];rfl))) (wq ?_)
  have hgb:g<=64:=by rw[hg,hnl];have h1:=wP L os;omega
  have him:fw L ep=false:=by simpa using vl
  have hbz:=dD hcr
  have hfi:=eR (qa (L:=L) (n:=ep) (by omega))
  refine sqr (sqp [.m 125 11] ?_)
  refine bE 10 3 zP ?_
  refine sqk (.agg #[.string (aE (ak L ep)),vi 0]) zP (fun cx=>⟨_,BO (p:=ak L ep) (jd (CtxV.holdF cx (cx.init 0 _ rfl) rfl) hpn) hcr (sF (CtxV.holdF cx (cx.init 0 _ rfl) rfl) hpn),(ax (cx.ou 126))⟩) fun SO FE=>?_
  refine sql (.string (aE (ak L ep))) FE (fun cx=>lU rfl (cx.ou 127) (fun _=>by kernel_rfl)) ?_
  refine sqp [.k 129 (.agg #[vi 8,vi 0,vi ep,sn,sn,sn,sn,.string (aE (ak L ep))])] ?_
  refine bY #[vi 0,vi 0,vi 0,sn,sn,sn,sn,.string ByteArray.empty] FE fun Qc SP M0=>?_
  refine aV (n:=8) 13 #[vi 8,vi 0,vi ep,sn,sn,sn,sn,.string (aE (ak L ep))] M0 fun Pv uU=>?_
  refine aa (wq (sqr (sqp [.m 130 8] ?_)))
  refine bE 13 8 uU ?_
  refine mJ 27 8 1 [vi 8,vi 0,vi ep,sn,sn,sn,sn,.string (aE (ak L ep))] uU (@fun o b W X cx=>by have OC:o (.tmp 131)= .agg #[vi 8,vi 0,vi ep,sn,sn,sn,sn,.string (aE (ak L ep))]:=(cx.ou 131);simp[go_sem,OC]) fun PW SQ M1=>?_
  refine vE (g+1) ((nl++[ep]).flatMap (icL L)) 9 M1 Tryz.infoRecJ (fun cx=>(At.of_ownN (cx.ri 14 rfl))) (jM:=(Gk L nl ep)) fun Iv Iw Pw uV=>?_
  refine sqp [.m 8 133] ?_
  refine aa (sqr (sqp [.m 134 9] ?_))
  refine bE 13 8 uV ?_
  refine sqk (.string ((aC (imR L ep)))) uV (fun cx=>⟨_,j6 8 0 ep none 0 [] (aE (ak L ep)) _ (fun j u h=>by cases j<;>cases h) (by decide) (fun e he=>by cases he) (by omega),(ax (cx.ou 135))⟩) fun SR M2=>?_
  refine sqp [.k 137 (vi ((((aC (imR L ep))).size:Int))),sI 138 (z+(((aC (imR L ep))).size:Int)) (by omega),.m 9 138] ?_
  refine aa ?_
  have hnd_:fV L (os++[ep])=fV L os++[ep]:=by rw[tH,if_neg (by rw[him];decide)]
  exact⟨(os++[ep]),(m+1),mp,mq,(ps++[(⟨ak L ep,eF,eG⟩:PgR)]),zN,zO,(rws++[(⟨ak L ep,eF,eG⟩:PgR)]),(nl++[ep]),(g+1),Iv,Iw,z+(((aC (imR L ep))).size:Int),(kv (e:=(ep,es,eb)) hnew).symm,(by rw[List.length_append,List.length_singleton];omega),(by rw[List.map_append,List.map_append,hps];show _++[ak L ep]= _++[bp (ak L) (t.r.eds.take j) ep];rw[A6 (by rw[<-hos];exact hnew)]),(fun q hq=>(List.mem_append.1 hq).elim (fun h=>List.mem_append_left _ (hpr q h)) fun h=>List.mem_append_right _ h),(by rw[hnd_,hnl]),(by rw[List.length_append,List.length_singleton];omega),(by rw[uq,hnd_,List.map_append,List.map_singleton,mr,<-uq];omega),(by omega),(by rw[List.getElem?_append_right (by omega)];rw[show k-os.length=0 by omega];rfl),(by kernel_rfl),M2.pk [1,2,3,4,5,6,7,8,9,0]⟩
  have hko:os[k]? =some ep:=hix.resolve_left hkm
  refine sqr ?_
  have hd136:((k:Int)==(m:Int))=false:=(beq_eq_false_iff_ne.2 (by omega))
  refine sqp [.m 100 12,.m 101 6,.k 102 (vi ((m:Int))),.e 103 (.bool ((k:Int)==(m:Int))) (.bool false) (congrArg Value.bool hd136)] ?_
  refine aa (wcf rfl (wp_skip (aa ?_)))
  exact⟨os,m,OA,oc,ps,NA,nc,rws,nl,g,IA,ic,z,(mG (e:=(ep,es,eb)) (List.mem_of_getElem? hko)).symm,hm,hps,hpr,hnl,hg,hz1,(by omega),hko,(by kernel_rfl),gI.pk [0,1,2,3,4,5,6,7,8,9]⟩
  rintro a81 QC ⟨os2,m2,OA2,oc2,ps2,NA2,nc2,rws2,nl2,g2,IA2,ic2,z2,hos2,hm2,hps2,hpr2,hnl2,hg2,hz2,hzb2,hk2,hj_,xl⟩
  refine ovz hj_ fun SS=>?_
  refine wq ?_
  obtain⟨pq,hpk,hpq⟩:=yK hps2 hk2
  have hpm:=hpr2 pq (List.mem_of_getElem? hpk)
  have hkl:k<m2:=by rw[hm2];exact(List.getElem?_eq_some_iff.1 hk2).1
  have hpl:ps2.length=m2:=by have h_:=congrArg List.length hps2;rw[List.length_map,List.length_map] at h_;omega
  have hri:bC pq.p:=by rw[hpq];exact iI (iz L) herr ep
  obtain⟨er,hde⟩:∃z,doE pq.p (ep,es,eb) 1=z:=⟨_,rfl⟩
  by_cases hd0:er=0
  subst hd0
  have hd:=hde
  refine aH [0,0,3,7,0,16,0,112,240,511,0,2047] [[],[],[7],[7],[],[4],[],[3],[3],[9],[],[11]] [[],[],[],[],[],[],[],[],[],[10],[11],[12]] [[],[],[],[],[],[],[],[],[],[],[],[11]] [.k 139 (.slice NA2 m2 nc2),.k 140 (vi ((k:Int))),.c 141 (.pointer (some ((ad NA2).add (k*3)))),.c 142 (.agg #[vi pq.p.1,vi pq.p.2.1,.slice pq.A pq.p.2.2.length pq.c]),.k 143 (po cT 5),.c 144 (.slice t.A t.r.eds.length t.c),.k 145 (vi ((j:Int))),.c 146 (.pointer (some ((ad t.A).add (j*3)))),.c 147 (.agg #[vi ep,vi es,.string eb]),.a 148,.a 15,.n] (fun ix d b X=>match ix with|0|1|2|3|4|5|6|7|8=>True|9=>d 148= .agg #[vi ((doV pq.p (ep,es,eb) 1).1),vi ((doV pq.p (ep,es,eb) 1).2.1),.slice (sA (tg (b 148) 2)) ((doV pq.p (ep,es,eb) 1).2.2.length) (sC (tg (b 148) 2)),vi 0]/\X 10=eO 9 1 (.slice (sA (tg (b 148) 2)) ((doV pq.p (ep,es,eb) 1).2.2.length) (sC (tg (b 148) 2))) ((doV pq.p (ep,es,eb) 1).2.2.length) ((doV pq.p (ep,es,eb) 1).2.2.map Value.string)|10=>d 15=vp (pb (b 15))/\X 11=eB (pb (b 15)) 78 #[vi 0,vi 0,sn,vi 0]|11=>X 12=eB (pb (b 15)) 78 #[vi ((doV pq.p (ep,es,eb) 1).1),vi ((doV pq.p (ep,es,eb) 1).2.1),.slice (sA (tg (b 148) 2)) ((doV pq.p (ep,es,eb) 1).2.2.length) (sC (tg (b 148) 2)),vi 0]|_=>True) [0,1,2,3,4,5,6,7,8,9,10,12] [2,3,5,7,8,9,10,11] [(15,10,1,16),(123,0,10,133)] xl ?_ ?_ ?_
  exact fun ix _ _ _ _ _ _ hs hb hx h=>match ix,h with
  |9,h=>by dsimp only;rw[<-hs 148 rfl,<-hb 148 rfl,<-hx 10 rfl];exact h
  |10,h=>by dsimp only;rw[<-hs 15 rfl,<-hb 15 rfl,<-hx 11 rfl];exact h
  |11,h=>by dsimp only;rw[<-hb 15 rfl,<-hb 148 rfl,<-hx 12 rfl];exact h
  |0,_|1,_|2,_|3,_|4,_|5,_|6,_|7,_|8,_|_+12,_=>trivial
  refine⟨?_,?_,?_,?_,?_,?_,?_,?_,trivial⟩
  exact xs4 rfl id fun cx=>aI (e:=48) (m:=k) (sz:=3) rfl (by kernel_rfl) (by kernel_rfl) (cx.an 0) (cx.an 1) (by omega) (by omega) (At.of_ownN (cx.ri 7 rfl)) (bq (sz:=3) iu (by decide) (by omega))
  exact xs4 rfl id fun cx=>bT (f:=pgQ) (m:=k) (sz:=3) (off:=0) (n:=3) rfl (by kernel_rfl) (by kernel_rfl) (cx.an 2) rfl iu (At.of_ownN (cx.ri 7 rfl)) hpk (fun k hk=>match k,hk with|0,_=>rfl|1,_=>rfl|2,_=>rfl|k+3,hk=>absurd hk (by omega))
  exact xs4 rfl id fun cx=>ae rfl (by kernel_rfl) (cx.an 4) ((cx.bi 4 rfl).cell 5)
  exact xs4 rfl id fun cx=>aI (e:=84) (m:=j) (sz:=3) rfl (by kernel_rfl) (by kernel_rfl) (cx.an 5) (cx.an 6) (by omega) (by omega) (dW (CtxV.holdF cx (cx.init 3 _ rfl) rfl) htr) (bq (sz:=3) bJ (by decide) (by omega))
  exact xs4 rfl id fun cx=>bT (f:=edC) (m:=j) (sz:=3) (off:=0) (n:=3) rfl (by kernel_rfl) (by kernel_rfl) (cx.an 7) rfl bJ (dW (CtxV.holdF cx (cx.init 3 _ rfl) rfl) htr) hek (fun k hk=>match k,hk with|0,_=>rfl|1,_=>rfl|2,_=>rfl|k+3,hk=>absurd hk (by omega))
  refine svA fun o b W X cx=>?_
  refine am.call (aq (args:=#[.agg #[vi pq.p.1,vi pq.p.2.1,.slice pq.A pq.p.2.2.length pq.c],.agg #[vi ep,vi es,.string eb],vi 1]) rfl cx.sees rfl (by kernel_rfl) (dN (cx.an 3) (cx.an 8) (cx.co _))) ?_
  refine(AY hde (rC pq.p.1 pq.p.2.1 _ _ pq.p.2.2 ep es eb 1 _ (jd (CtxV.holdF cx (cx.init 9 _ rfl) rfl) hpm) hri.1 (sF (CtxV.holdF cx (cx.init 9 _ rfl) rfl) hpm) hez)).mono ?_
  rintro e W1 ⟨A4,c4,rfl,ho,hx⟩
  refine⟨_,rfl,bL [eO 9 1 (.slice A4 (doV pq.p (ep,es,eb) 1).2.2.length c4) (doV pq.p (ep,es,eb) 1).2.2.length ((doV pq.p (ep,es,eb) 1).2.2.map Value.string)] rfl rfl hx (one_new (cm ho)) (List.pairwise_singleton _ _) (fun d v X' hs hb hv hN=>?_)⟩
  have aK:=(hv 148 rfl).1;have aW:=(hv 148 rfl).2
  exact⟨aK.trans (by rw[aW];exact rfl),(by rw[aW];exact(List.cons.inj hN).1)⟩
  refine svA fun o b W X cx=>?_
  exact dp (cs:=#[vi 0,vi 0,sn,vi 0]) rfl (by kernel_rfl) rfl rfl (fun _ _ _ _ _=> .intro)
  refine svA fun o b W X cx=>?_
  exact bx (n:=4) rfl (dTn (cx.an 10)).1 (dTn (cx.an 9)).1 (by kernel_rfl) (by kernel_rfl) (by kernel_rfl) cx (dTn (cx.an 10)).2 rfl (nle rfl) (by kernel_rfl) rfl rfl rfl (fun d v X' hs hb hx=>by rw[hb 15,hb 148];exact hx)
  intro d b X ST hD oM fr aG
  simp only[exq 10 ((dTn (hD 9 lq)).2),exq 12 ((dTn (hD 11 lq)))] at oM
  simp only[ed 148 ((dTn (hD 9 lq)).1),ed 15 ((dTn (hD 10 lq)).1)] at aG
  generalize sA (tg (b 148) 2)=kK,sC (tg (b 148) 2)=kL,pb (b 15)=Bw at oM aG
  clear hD;subst aG;clear d b X
  refine aa (wq (wq (sqr (sqp [.k 149 (po Bw 3)] ?_))))
  refine av 11 oM ?_
  refine sqp [.k 151 (.bool false)] ?_
  refine aa (wcf rfl (wp_skip (aa (sqr (sqp [.m 155 7,.m 156 12,.k 157 (vp Bw)] ?_)))))
  refine bE 11 3 oM ?_
  refine sql (.pointer (some ((ad NA2).add (k*3)))) oM (fun cx=>aI (e:=48) (m:=k) (sz:=3) rfl (by kernel_rfl) (by kernel_rfl) (cx.ou 155) (cx.ou 156) (by omega) (by omega) (At.of_ownN (cx.ri 7 rfl)) (bq (sz:=3) iu (by decide) (by omega))) ?_
  refine sqc (eO 48 3 (.slice NA2 m2 nc2) m2 ((ps2.set k (⟨doV pq.p (ep,es,eb) 1,kK,kL⟩:PgR)).flatMap pgQ)) 7 oM (by
    refine svA fun o b W X cx=>?_
    exact r8 (m:=k*3) (n:=m2) (sz:=3) (k:=3) rfl (cx.ou 159) (show _=Value.agg #[vi ((doV pq.p (ep,es,eb) 1).1),vi ((doV pq.p (ep,es,eb) 1).2.1),.slice kK ((doV pq.p (ep,es,eb) 1).2.2.length) kL] from(cx.ou 158)) (by kernel_rfl) (by kernel_rfl) (by kernel_rfl) cx (cx.init 7 _ rfl) rfl (by omega) (by decide) rfl (ER iu (ts:=ps2) (m:=k) (by omega) (⟨doV pq.p (ep,es,eb) 1,kK,kL⟩:PgR)) rfl rfl (fun _ _ _ _ _=>id)) fun SU M3=>?_
  refine aw (aa (sqr (sqp [.m 78 10,sI 79 ((j:Int)+1) (by omega),.m 10 79] ?_)))
  refine aa ?_
  have hg150_:=St.apf (r:=(⟨doV pq.p (ep,es,eb) 1,kK,kL⟩:PgR)) M3.u10.u10
  have hnd2:os2.Nodup:=by rw[hos2,hos,<-sq,<-iA hek];exact ET _
  refine⟨t.r.eds.length-((j+1)),by omega,?_⟩
  exact⟨(j+1),os2,m2,OA2,oc2,(ps2.set k (⟨doV pq.p (ep,es,eb) 1,kK,kL⟩:PgR)),NA2,nc2,(rws2++[(⟨doV pq.p (ep,es,eb) 1,kK,kL⟩:PgR)]),nl2,g2,IA2,ic2,z2,by omega,(by rw[iA hek,sq,<-hos];exact hos2),hm2,(yW hek herr (by rw[<-hpq];exact hd)),(by rw[iA hek];exact Jw hnd2 hk2 hps2 (by rw[<-hpq])),(fun q hq=>(List.mem_or_eq_of_mem_set hq).elim (fun h=>List.mem_append_left _ (hpr2 q h)) fun h=>by rw[h];simp),hnl2,hg2,hz2,(by omega),rfl,(by kernel_rfl),hg150_.pk [1,2,3,4,5,6,7,8,9,0]⟩
  refine aH [0,0,3,7,0,16,0,112,240,511,0,2047] [[],[],[7],[7],[],[4],[],[3],[3],[9],[],[11]] [[],[],[],[],[],[],[],[],[],[10],[11],[12]] [[],[],[],[],[],[],[],[],[],[],[],[11]] [.k 139 (.slice NA2 m2 nc2),.k 140 (vi ((k:Int))),.c 141 (.pointer (some ((ad NA2).add (k*3)))),.c 142 (.agg #[vi pq.p.1,vi pq.p.2.1,.slice pq.A pq.p.2.2.length pq.c]),.k 143 (po cT 5),.c 144 (.slice t.A t.r.eds.length t.c),.k 145 (vi ((j:Int))),.c 146 (.pointer (some ((ad t.A).add (j*3)))),.c 147 (.agg #[vi ep,vi es,.string eb]),.a 148,.a 15,.n] (fun ix d b X=>match ix with|0|1|2|3|4|5|6|7|8=>True|9=>d 148= .agg #[vi bu.1,vi bu.2.1,.slice (sA (tg (b 148) 2)) bu.2.2.length (sC (tg (b 148) 2)),vi er]/\X 10=eO 9 1 (.slice (sA (tg (b 148) 2)) bu.2.2.length (sC (tg (b 148) 2))) bu.2.2.length (bu.2.2.map Value.string)|10=>d 15=vp (pb (b 15))/\X 11=eB (pb (b 15)) 78 #[vi 0,vi 0,sn,vi 0]|11=>X 12=eB (pb (b 15)) 78 #[vi bu.1,vi bu.2.1,.slice (sA (tg (b 148) 2)) bu.2.2.length (sC (tg (b 148) 2)),vi er]|_=>True) [0,1,2,3,4,5,6,7,8,9,10,12] [2,3,5,7,8,9,10,11] [(15,10,1,16),(123,0,10,133)] xl ?_ ?_ ?_
  exact fun ix _ _ _ _ _ _ hs hb hx h=>match ix,h with
  |9,h=>by dsimp only;rw[<-hs 148 rfl,<-hb 148 rfl,<-hx 10 rfl];exact h
  |10,h=>by dsimp only;rw[<-hs 15 rfl,<-hb 15 rfl,<-hx 11 rfl];exact h
  |11,h=>by dsimp only;rw[<-hb 15 rfl,<-hb 148 rfl,<-hx 12 rfl];exact h
  |0,_|1,_|2,_|3,_|4,_|5,_|6,_|7,_|8,_|_+12,_=>trivial
  refine⟨?_,?_,?_,?_,?_,?_,?_,?_,trivial⟩
  exact xs4 rfl id fun cx=>aI (e:=48) (m:=k) (sz:=3) rfl (by kernel_rfl) (by kernel_rfl) (cx.an 0) (cx.an 1) (by omega) (by omega) (At.of_ownN (cx.ri 7 rfl)) (bq (sz:=3) iu (by decide) (by omega))
  exact xs4 rfl id fun cx=>bT (f:=pgQ) (m:=k) (sz:=3) (off:=0) (n:=3) rfl (by kernel_rfl) (by kernel_rfl) (cx.an 2) rfl iu (At.of_ownN (cx.ri 7 rfl)) hpk (fun k hk=>match k,hk with|0,_=>rfl|1,_=>rfl|2,_=>rfl|k+3,hk=>absurd hk (by omega))
  exact xs4 rfl id fun cx=>ae rfl (by kernel_rfl) (cx.an 4) ((cx.bi 4 rfl).cell 5)
  exact xs4 rfl id fun cx=>aI (e:=84) (m:=j) (sz:=3) rfl (by kernel_rfl) (by kernel_rfl) (cx.an 5) (cx.an 6) (by omega) (by omega) (dW (CtxV.holdF cx (cx.init 3 _ rfl) rfl) htr) (bq (sz:=3) bJ (by decide) (by omega))
  exact xs4 rfl id fun cx=>bT (f:=edC) (m:=j) (sz:=3) (off:=0) (n:=3) rfl (by kernel_rfl) (by kernel_rfl) (cx.an 7) rfl bJ (dW (CtxV.holdF cx (cx.init 3 _ rfl) rfl) htr) hek (fun k hk=>match k,hk with|0,_=>rfl|1,_=>rfl|2,_=>rfl|k+3,hk=>absurd hk (by omega))
  refine svA fun o b W X cx=>?_
  refine am.call (aq (args:=#[.agg #[vi pq.p.1,vi pq.p.2.1,.slice pq.A pq.p.2.2.length pq.c],.agg #[vi ep,vi es,.string eb],vi 1]) rfl cx.sees rfl (by kernel_rfl) (dN (cx.an 3) (cx.an 8) (cx.co _))) ?_
  refine(AD hde hd0 (rC pq.p.1 pq.p.2.1 _ _ pq.p.2.2 ep es eb 1 _ (jd (CtxV.holdF cx (cx.init 9 _ rfl) rfl) hpm) hri.1 (sF (CtxV.holdF cx (cx.init 9 _ rfl) rfl) hpm) hez)).mono ?_
  rintro e W1 ⟨A4,c4,rfl,ho,hx⟩
  refine⟨_,rfl,bL [eO 9 1 (.slice A4 bu.2.2.length c4) bu.2.2.length (bu.2.2.map Value.string)] rfl rfl hx (one_new (cm ho)) (List.pairwise_singleton _ _) (fun d v X' hs hb hv hN=>?_)⟩
  have aK:=(hv 148 rfl).1;have aW:=(hv 148 rfl).2
  exact⟨aK.trans (by rw[aW];exact rfl),(by rw[aW];exact(List.cons.inj hN).1)⟩
  refine svA fun o b W X cx=>?_
  exact dp (cs:=#[vi 0,vi 0,sn,vi 0]) rfl (by kernel_rfl) rfl rfl (fun _ _ _ _ _=> .intro)
  refine svA fun o b W X cx=>?_
  exact bx (n:=4) rfl (dTn (cx.an 10)).1 (dTn (cx.an 9)).1 (by kernel_rfl) (by kernel_rfl) (by kernel_rfl) cx (dTn (cx.an 10)).2 rfl (nle rfl) (by kernel_rfl) rfl rfl rfl (fun d v X' hs hb hx=>by rw[hb 15,hb 148];exact hx)
  intro d b X PN hD m7 fr aG
  simp only[exq 10 ((dTn (hD 9 lq)).2),exq 12 ((dTn (hD 11 lq)))] at m7
  simp only[ed 148 ((dTn (hD 9 lq)).1),ed 15 ((dTn (hD 10 lq)).1)] at aG
  generalize sA (tg (b 148) 2)=PX,sC (tg (b 148) 2)=PY,pb (b 15)=Bx at m7 aG
  clear hD;subst aG;clear d b X
  refine aa (wq (wq (sqr (sqp [.k 149 (po Bx 3)] ?_))))
  refine av 11 m7 ?_
  have hd155:(er != 0)=true:=(bne_iff_ne.2 hd0)
  refine sqp [.e 151 (.bool (er != 0)) (.bool true) (congrArg Value.bool hd155)] ?_
  refine aa (wct rfl (wq (sqr (sqp [.k 152 (po Bx 3)] ?_))))
  refine av 11 m7 ?_
  refine sqp [.k 154 (.agg #[vi 0,vi er])] ?_
  refine aV (n:=2) 5 #[vi 0,vi er] m7 fun SV FF=>?_
  refine aa (wp_ret (aj (bb (aj (aj (bb (aj ?_)))))))
  refine bpr (.agg #[vi 0,vi er]) (bA (n:=2) Tryz.results77 rfl (by kernel_rfl) (by kernel_rfl) (FF.blk 5 rfl) rfl) ?_
  have M4:=sg hek herr (by rw[<-hpq,hde];exact hd0)
  have hE_:rfE p L t.r=er:=by rw[IH hda hin (by rw[M4,<-hpq,hde];exact hd0),M4,<-hpq];exact hde
  obtain⟨fp160_,hr160_⟩:=St.rq (rs:=rs) (told:=told) (p:=p) (rr:=rr) (FF.u4.c0.u4.c0.u4.c0.u4.c0.u4.c0.u4.c0.u4.c0.u4.c0)
  have M5:=St.rf (L:=L) hr160_ (hrs) (hsub)
  exact⟨by rw[jN (told:=told) hE_ (by first|decide|assumption),hE_],_,by rw[jN (told:=told) hE_ (by first|decide|assumption)];exact M5⟩
 refine wp_exit (au (au (bh (aa (wq (wq ?_))))))
 have hje:j=t.r.eds.length:=by omega
 have her9:cY (ak L) t.r.eds=0:=by have h_:=herr;rw[hje,List.take_length] at h_;exact h_
 have hosF:os=cz t.r.eds:=by rw[hos,hje,List.take_length]
 have hps9:ps.map PgR.p=os.map (bp (ak L) t.r.eds):=by rw[hps,hje,List.take_length]
 have hm64:m<=64:=by have h1:=kp t.r.eds;rw[hm,hosF];omega
 have hpro:∀n∈os,0<=n/\n<(p:Int):=fun n hn=>by rw[hosF] at hn;obtain⟨x,hx,rfl⟩:=jL.1 hn;exact jP hin hx
 have hgb:g<=64:=by rw[hg,hnl];have h1:=wP L os;omega
 have hpl:ps.length=m:=by have h_:=congrArg List.length hps9;rw[List.length_map,List.length_map] at h_;omega
 refine sqr (sqp [.m 160 9,.k 161 (.bool (decide (1048576<z)))] ?_)
 refine aa (wds (fun C1 M6=>?_) fun C1 M6=>?_)
 refine wq (sqr (sqp [.k 162 (.agg #[vi 0,vi 31])] ?_))
 refine aV (n:=2) 5 #[vi 0,vi 31] ey fun SW FG=>?_
 refine aa (wp_ret (aj ?_))
 refine bpr (.agg #[vi 0,vi 31]) (bA (n:=2) Tryz.results77 rfl (by kernel_rfl) (by kernel_rfl) (FG.blk 5 rfl) rfl) ?_
 have hE_:rfE p L t.r=31:=EJ hda hin her9 (by rw[<-hosF];have h_:=C1;simp at h_;omega)
 obtain⟨fp167_,hr167_⟩:=St.rq (rs:=rs) (told:=told) (p:=p) (rr:=rr) (FG.u4.c0.u4.c0.u4.c0.u4.c0.u4.c0.u4.c0)
 have M7:=St.rf (L:=L) hr167_ (hrs) (hsub)
 exact⟨by rw[jN (told:=told) hE_ (by first|decide|assumption),hE_],_,by rw[jN (told:=told) hE_ (by first|decide|assumption)];exact M7⟩
 refine wp_skip (aa (wq (wq ?_)))
 have hfit:szF L+((aC t.r).size+szF (et L os))<=1048576:=by have h_:=C1;simp at h_;omega
 have hE0:rfE p L t.r=0:=xg hda hin her9 (by rw[<-hosF];exact hfit)
 refine sqr (sqp [.k 16 (vi 0)] ?_)
 refine aa (wp_block ?_)
 obtain⟨fp170_,hr170_⟩:=St.rq (rs:=rs) (told:=told) (p:=p) (rr:=rr) (ey)
 refine aT (fun t_ mz az W=>∃i:Nat,∃rs1:List RcT,∃rr1:List RcT,∃fp1:List Nat,i<=g/\rs1.map RcT.r=L++(et L os).take i/\((∀x∈rs1,x∈rr1)/\t∈rr1)/\mz=g-i/\az=⟨(ovr (jv az) [(16,16,0,[vi ((i:Int))]),(146,163,12,[])] t_).toArray,[]⟩/\St w fp [eRq rb rs1 told p rr1 fp1,eB cT 27 #[vi t.r.kind,vi t.r.xid,vi t.r.tbl,sn,sn,.slice t.A t.r.eds.length t.c,sn,.string t.r.note],eB dI 129 #[vi 0,vi 0],eO 3 1 (.slice OA m oc) m (os.map (Value.int .i64)),eO 48 3 (.slice NA m nc) m (ps.flatMap pgQ),eO 27 8 (.slice IA g ic) g (nl.flatMap (icL L)),eM (List.map dM rws)] W) (g-0) ?_ ?_
 exact⟨0,rs,rr,fp170_,Nat.zero_le _,(by rw[hrs,List.take_zero,List.append_nil]),⟨hsub,htr⟩,rfl,(by kernel_rfl),hr170_.pk [0,1,2,3,4,5,6]⟩
 rintro SX a171 SY ⟨i,rs1,rr1,fp1,hi1,hr1,fQ,rfl,hj_,FH⟩
 refine ovz hj_ fun RJ=>?_
 refine wq (wq (sqr (sqp [.m 163 16,.m 164 8,.k 165 (vi ((g:Int))),.k 166 (.bool (decide ((i:Int)<(g:Int))))] ?_)))
 refine aa (wds (fun OD M8=>?_) fun OD M8=>?_)
 refine wp_skip (aa (wq (wp_block ?_)))
 obtain⟨nn,hnn⟩:∃n,nl[i]? =some n:=⟨_,List.getElem?_eq_getElem (by omega)⟩
 have hnn2:(fV L os)[i]? =some nn:=by rw[<-hnl];exact hnn
 have hpn2:=hpro nn (Ew (List.mem_of_getElem? hnn2))
 have hit:=F2 hnn2
 have hl1_:rs1.length<=200000:=by have h_:=congrArg List.length hr1;rw[List.length_map,List.length_append,List.length_take,sH,<-hnl] at h_;omega
 have hz1_:szF (rs1.map RcT.r)<=100000000:=by rw[hr1,vu];have h_:=B8 (et L os) i;omega
 have hir:=qa (L:=L) (n:=nn) (by omega)
 have hn177:=fh FH 84 3
 simp only[List.cons_append,List.nil_append] at hn177
 obtain⟨fp178_,hx178_⟩:=St.rqR (t:=rcI (imR L nn)) hn177.u7
 have htm_:rcI (imR L nn)∈rr1++[rcI (imR L nn)]:=by simp
 refine sqr (sqp [.m 169 0,.m 170 8,.m 171 16] ?_)
 refine sql (.pointer (some ((ad IA).add (i*8)))) hx178_ (fun cx=>aI (e:=27) (m:=i) (sz:=8) rfl (by kernel_rfl) (by kernel_rfl) (cx.ou 170) (cx.ou 171) (by omega) (by omega) (At.of_ownN (cx.ri 5 rfl)) (bq (sz:=8) (AR L) (by decide) (by omega))) ?_
 refine sql (.agg #[vi 8,vi 0,vi nn,sn,sn,sn,sn,.string ((aE (ak L nn)))]) hx178_ (fun cx=>bT (f:=(icL L)) (m:=i) (sz:=8) (off:=0) (n:=8) rfl (by kernel_rfl) (by kernel_rfl) (cx.ou 172) rfl (AR L) (At.of_ownN (cx.ri 5 rfl)) hnn (fun k hk=>match k,hk with|0,_=>rfl|1,_=>rfl|2,_=>rfl|3,_=>rfl|4,_=>rfl|5,_=>rfl|6,_=>rfl|7,_=>rfl|k+8,hk=>absurd hk (by omega))) ?_
 refine bN (fun X_=>X_.fp) (.tuple #[]) (fun zQ=>eRq rb (rs1++[(rcI (imR L nn))]) told p (rr1++[rcI (imR L nn)]) zQ) 0 hx178_ (by
   refine svA fun o b W X cx=>?_
   refine am.call (aq (args:=#[vp rb,.agg #[vi 8,vi 0,vi nn,sn,sn,sn,sn,.string ((aE (ak L nn)))]]) rfl cx.sees rfl (by kernel_rfl) (aP (cx.ou 169) (cx.ou 173))) ?_
   refine(oS rb rs1 told p (rr1++[rcI (imR L nn)]) (rcI (imR L nn)) _ _ (CtxV.holdF cx (cx.init 0 _ rfl) rfl) (CtxV.ltF cx (cx.init 0 _ rfl) rfl) htm_ hir hl1_ hz1_).mono ?_
   rintro e W1 ⟨rfl,fp4,aU⟩
   refine⟨_,rfl,aN (E:=eRq rb rs1 told p (rr1++[rcI (imR L nn)]) fp178_) [eRq rb (rs1++[(rcI (imR L nn))]) told p (rr1++[rcI (imR L nn)]) fp4] (cx.init 0 _ rfl) rfl rfl aU (fun d v X' hs hb hv hN=>?_)⟩
   have aK:=(hv 174 rfl).1;have aW:=(hv 174 rfl).2
   exact⟨aK.trans rfl,oV ((List.cons.inj hN).1)⟩) fun zQ SZ M9=>?_
 refine aw (aa (sqr (sqp [.m 167 16,sI 168 ((i:Int)+1) (by omega),.m 16 168] ?_)))
 refine aa ?_
 refine⟨g-((i+1)),by omega,?_⟩
 exact⟨(i+1),(rs1++[(rcI (imR L nn))]),(rr1++[rcI (imR L nn)]),zQ,by omega,(by rw[List.map_append,hr1,hit,List.append_assoc];rfl),⟨fun x hx=>(List.mem_append.1 hx).elim (fun h=>List.mem_append_left _ (fQ.1 x h)) fun h=>List.mem_append_right _ h,List.mem_append_left _ fQ.2⟩,rfl,(by kernel_rfl),M9.pk [0,1,2,3,4,5,6]⟩
 refine wp_exit (au (au (bh (aa (wq ?_)))))
 have hr9:rs1.map RcT.r=L++et L os:=by rw[hr1,List.take_of_length_le (by rw[sH,<-hnl];omega)]
 have hie9:∀r∈et L os,r.eds=[]:=fun r hr=>(vt r hr).1
 have hz9_:szF (rs1.map RcT.r)<=100000000:=by rw[hr9,vu];omega
 have hl9_:rs1.length<=200000:=by have h_:=congrArg List.length hr9;rw[List.length_map,List.length_append,sH,<-hnl] at h_;omega
 have hrL9:∀x∈rs1,bv x.r=true:=fun x hx=>by have h_:=hr9 ▸ List.mem_map.2 ⟨x,hx,rfl⟩;exact(List.mem_append.1 h_).elim (hL _) fun h=>by obtain⟨_,_,n,hn,_,hne⟩:=vt _ h;rw[hne];exact qa (L:=L) (n:=n) (by have:=hpro n hn;omega)
 obtain⟨QA3,qc3,TA3,tc3,hq188_⟩:=FH.unrq
 refine sqr ?_
 refine mJ 48 3 0 [] hq188_ (@fun o b W X cx=>by simp[go_sem]) fun Ix S4 Na=>?_
 refine sqp [.m 17 175] ?_
 refine aa (wq (wq (sqr (sqp [.k 18 (vi 0)] ?_))))
 refine aa (wp_block ?_)
 refine aT (fun t_ mz az W=>∃i9:Nat,∃ws:List PgR,∃WA:Option Addr,∃wc:Nat,∃rws3:List PgR,i9<=m/\ws.map PgR.p=(os.take i9).map (ak L)/\(∀q∈ps,q∈rws3)/\mz=m-i9/\az=⟨(ovr (jv az) [(17,17,0,[.slice WA i9 wc,vi ((i9:Int))]),(157,176,18,[])] t_).toArray,[]⟩/\St w fp [eB rb 69 #[vi ((p:Int)),.slice QA3 rs1.length qc3,vi ((szF (rs1.map RcT.r):Int)),.slice TA3 p tc3],eO 27 8 (.slice QA3 rs1.length qc3) rs1.length (rs1.flatMap rcC),eO 4 1 (.slice TA3 p tc3) p (tB told p),eRc rr1,eB cT 27 #[vi t.r.kind,vi t.r.xid,vi t.r.tbl,sn,sn,.slice t.A t.r.eds.length t.c,sn,.string t.r.note],eB dI 129 #[vi 0,vi 0],eO 3 1 (.slice OA m oc) m (os.map (Value.int .i64)),eO 48 3 (.slice NA m nc) m (ps.flatMap pgQ),eO 27 8 (.slice IA g ic) g (nl.flatMap (icL L)),eO 48 3 (.slice WA i9 wc) i9 (ws.flatMap pgQ),eM (List.map dM rws3)] W) (m-0) ?_ ?_
 exact⟨0,[],(some ⟨Ix,0,none⟩),0,rws,Nat.zero_le _,rfl,hpr,rfl,(by kernel_rfl),Na.pk [0,1,2,3,4,5,6,7,8,10,9]⟩
 rintro S6 a192 PP ⟨i9,ws,WA,wc,rws3,hi2,hws,hpr3,rfl,hj_,oL⟩
 refine ovz hj_ fun RK=>?_
 refine wq (wq (sqr (sqp [.m 176 18,.m 177 6,.k 178 (vi ((m:Int))),.k 179 (.bool (decide ((i9:Int)<(m:Int))))] ?_)))
 refine aa (wds (fun OE Nb=>?_) fun OE Nb=>?_)
 refine wp_skip (aa (wq (wp_block ?_)))
 obtain⟨nn,hnn⟩:∃n,os[i9]? =some n:=⟨_,List.getElem?_eq_getElem (by omega)⟩
 refine aH [0,0,2,6,14,0,0,96,224,510,1022,2047,4095] [[],[],[],[],[0],[],[],[6],[6],[1,3],[],[12,9]] [[],[],[],[],[],[],[],[],[],[11],[12],[13]] [[],[],[],[],[],[],[],[],[],[],[],[9]] [.k 182 (.slice WA i9 wc),.k 183 (vp rb),.k 184 (vp rb),.k 185 (po rb 1),.c 186 (.slice QA3 rs1.length qc3),.k 187 (.slice OA m oc),.k 188 (vi ((i9:Int))),.c 189 (.pointer (some ((ad OA).add i9))),.c 190 (vi nn),.a 191,.a 192,.a 193,.a 17] (fun ix d b X=>match ix with|0|1|2|3|4|5|6|7|8=>True|9=>d 191= .agg #[vi ((ak L nn).1),vi ((ak L nn).2.1),.slice (sA (tg (b 191) 2)) ((ak L nn).2.2.length) (sC (tg (b 191) 2))]/\X 11=eO 9 1 (.slice (sA (tg (b 191) 2)) ((ak L nn).2.2.length) (sC (tg (b 191) 2))) ((ak L nn).2.2.length) ((ak L nn).2.2.map Value.string)|10=>d 192= .slice ((some ⟨(pb' (b 192)),0,none⟩)) 1 1/\X 12=eO 48 3 (.slice ((some ⟨(pb' (b 192)),0,none⟩)) 1 1) 1 ([vi ((ak L nn).1),vi ((ak L nn).2.1),.slice (sA (tg (b 191) 2)) ((ak L nn).2.2.length) (sC (tg (b 191) 2))])|11=>d 193= .slice (sA (b 193)) (i9+1) (sC (b 193))/\X 13=eO 48 3 (.slice (sA (b 193)) (i9+1) (sC (b 193))) (i9+1) ((ws++[(⟨ak L nn,(sA (tg (b 191) 2)),(sC (tg (b 191) 2))⟩:PgR)]).flatMap pgQ)|12=>d 17= .slice (sA (b 193)) (i9+1) (sC (b 193))|_=>True) [0,1,2,3,4,5,6,7,8,10,11,12,13] [4,7,8,9,10,11,12] [(17,12,1,18),(164,0,12,176)] oL ?_ ?_ ?_
 exact fun ix _ _ _ _ _ _ hs hb hx h=>match ix,h with
 |9,h=>by dsimp only;rw[<-hs 191 rfl,<-hb 191 rfl,<-hx 11 rfl];exact h
 |10,h=>by dsimp only;rw[<-hs 192 rfl,<-hb 191 rfl,<-hb 192 rfl,<-hx 12 rfl];exact h
 |11,h=>by dsimp only;rw[<-hs 193 rfl,<-hb 191 rfl,<-hb 193 rfl,<-hx 13 rfl];exact h
 |12,h=>by dsimp only;rw[<-hs 17 rfl,<-hb 193 rfl];exact h
 |0,_|1,_|2,_|3,_|4,_|5,_|6,_|7,_|8,_|_+13,_=>trivial
 refine⟨?_,?_,?_,?_,?_,?_,?_,trivial⟩
 exact xs4 rfl id fun cx=>ae rfl (by kernel_rfl) (cx.an 3) ((cx.bi 0 rfl).cell 1)
 exact xs4 rfl id fun cx=>bS (e:=3) (m:=i9) rfl (by kernel_rfl) (by kernel_rfl) (cx.an 5) (cx.an 6) (by omega) (by omega) (At.of_own (cx.ri 6 rfl)) (by rw[List.length_map];omega)
 exact xs4 rfl id fun cx=>ae rfl (by kernel_rfl) (cx.an 7) (At.cellAd (At.of_own (cx.ri 6 rfl)) ((List.getElem?_map ..).trans (by rw[hnn];rfl)))
 refine svA fun o b W X cx=>?_
 refine am.call (aq (args:=#[.slice QA3 rs1.length qc3,vi nn]) rfl cx.sees rfl (by kernel_rfl) (aP (cx.an 4) (cx.an 8))) ?_
 refine(G9 hr9 hie9 (kQ _ _ rs1 nn _ ⟨At.of_ownN (cx.ri 1 rfl),fun t ht=>dW (CtxV.holdF cx (cx.init 3 _ rfl) rfl) (fQ.1 t ht)⟩ (by omega) hrL9)).mono ?_
 rintro e W1 ⟨A4,c4,rfl,ho,hx⟩
 refine⟨_,rfl,bL [eO 9 1 (.slice A4 (ak L nn).2.2.length c4) (ak L nn).2.2.length ((ak L nn).2.2.map Value.string)] rfl rfl hx (one_new (cm ho)) (List.pairwise_singleton _ _) (fun d v X' hs hb hv hN=>?_)⟩
 have aK:=(hv 191 rfl).1;have aW:=(hv 191 rfl).2
 exact⟨aK.trans (by rw[aW];exact rfl),(by rw[aW];exact(List.cons.inj hN).1)⟩
 refine svA fun o b W X cx=>?_
 have OF:o (.tmp 191)= .agg #[vi ((ak L nn).1),vi ((ak L nn).2.1),.slice (sA (tg (b 191) 2)) ((ak L nn).2.2.length) (sC (tg (b 191) 2))]:=(dTn (cx.an 9)).1
 exact mn (e:=48) (sz:=3) (xs:=[vi ((ak L nn).1),vi ((ak L nn).2.1),.slice (sA (tg (b 191) 2)) ((ak L nn).2.2.length) (sC (tg (b 191) 2))]) rfl (by simp[go_sem,OF]) rfl (by decide) rfl rfl (fun d v X' hs hb hv hx=>⟨hv,by rw[hb 191 (by decide)];exact hx⟩)
 refine svA fun o b W X cx=>?_
 obtain⟨i0,hi0,hz0,hz1,hz2⟩:=info_parts Tryz.infoPgJ
 refine jc (n:=i9) (m:=1) (nm:=i9+1) (sz:=3) (xs:=ws.flatMap pgQ) (news:=[vi ((ak L nn).1),vi ((ak L nn).2.1),.slice (sA (tg (b 191) 2)) ((ak L nn).2.2.length) (sC (tg (b 191) 2))]) (xs':=(ws++[(⟨ak L nn,(sA (tg (b 191) 2)),(sC (tg (b 191) 2))⟩:PgR)]).flatMap pgQ) rfl (ty:=82) rfl (by kernel_rfl) hi0 hz0 hz1 hz2 rfl (by decide) (cx.an 0) cx (cx.init 9 _ rfl) rfl (dTn (cx.an 10)).1 (by rfl) (At.of_ownN (cx.row (dTn (cx.an 10)).2 rfl)) (by simp[Value.oneCell']) (by simp only[maxLen];omega) (by omega) rfl rfl rfl (by omega) ((KQ ws (ak L nn) _ _)) (fun d v X' hs hb hv hx=>?_)
 rw[<-hb 191 (by decide)] at*;exact⟨hv,hx⟩
 exact sv rfl rfl rfl rfl rfl _ (fun _ _ _ h=>h) (fun b v h=>by rw[h 193 (by decide)]) fun o b W X cx=>dm rfl (dTn (cx.an 11)).1
 intro d b X S8 hD zR fr aG
 simp only[exq 11 ((dTn (hD 9 lq)).2),exq 12 ((dTn (hD 10 lq)).2),exq 13 ((dTn (hD 11 lq)).2)] at zR
 simp only[ed 191 ((dTn (hD 9 lq)).1),ed 192 ((dTn (hD 10 lq)).1),ed 193 ((dTn (hD 11 lq)).1),ed 17 ((dTn (hD 12 lq)))] at aG
 generalize sA (tg (b 191) 2)=tp,sC (tg (b 191) 2)=tq,pb' (b 192)=PZ,sA (b 193)=Iy,sC (b 193)=Iz at zR aG
 clear hD;subst aG;clear d b X
 refine aw (aa (sqr (sqp [.m 180 18,sI 181 ((i9:Int)+1) (by omega),.m 18 181] ?_)))
 refine aa ?_
 have hg202_:=St.apf (r:=(⟨ak L nn,tp,tq⟩:PgR)) zR.u10.u10
 refine⟨m-((i9+1)),by omega,?_⟩
 exact⟨(i9+1),(ws++[(⟨ak L nn,tp,tq⟩:PgR)]),Iy,Iz,(rws3++[(⟨ak L nn,tp,tq⟩:PgR)]),by omega,(by rw[List.map_append,hws,List.take_add_one,hnn,List.map_append];rfl),(fun q hq=>List.mem_append_left _ (hpr3 q hq)),rfl,(by kernel_rfl),hg202_.pk [1,2,3,4,5,6,7,8,9,11,0]⟩
 refine wp_exit (au (au (bh (aa (wq ?_)))))
 have hi9:i9=m:=by omega
 have hws9:ws.map PgR.p=os.map (ak L):=by rw[hws,List.take_of_length_le (by omega)]
 obtain⟨fp203_,hr203_⟩:=St.rq (rs:=rs1) (told:=told) (p:=p) (rr:=rr1) (oL)
 refine sqr (sqp [.m 194 0] ?_)
 refine bE 1 8 hr203_ ?_
 refine bN (fun X_=>X_.fp) (.tuple #[]) (fun FI=>eRq rb (rs1++[t]) told p rr1 FI) 0 hr203_ (by
   refine svA fun o b W X cx=>?_
   refine am.call (aq (args:=#[vp rb,.agg #[vi t.r.kind,vi t.r.xid,vi t.r.tbl,sn,sn,.slice t.A t.r.eds.length t.c,sn,.string t.r.note]]) rfl cx.sees rfl (by kernel_rfl) (aP (cx.ou 194) (cx.ou 195))) ?_
   refine(oS rb rs1 told p rr1 t _ _ (CtxV.holdF cx (cx.init 0 _ rfl) rfl) (CtxV.ltF cx (cx.init 0 _ rfl) rfl) fQ.2 hda.1 hl9_ hz9_).mono ?_
   rintro e W1 ⟨rfl,fp4,aU⟩
   refine⟨_,rfl,aN (E:=eRq rb rs1 told p rr1 fp203_) [eRq rb (rs1++[t]) told p rr1 fp4] (cx.init 0 _ rfl) rfl rfl aU (fun d v X' hs hb hv hN=>?_)⟩
   have aK:=(hv 196 rfl).1;have aW:=(hv 196 rfl).2
   exact⟨aK.trans rfl,oV ((List.cons.inj hN).1)⟩) fun FI Ta Nc=>?_
 refine aa (wq (wq (sqr (sqp [.k 19 (vi 0)] ?_))))
 refine aa (wp_block ?_)
 obtain⟨QA4,qc4,TA4,tc4,hq208_⟩:=Nc.unrq
 rw[show tB told p=tB (tlF L told t.r.eds (os.take 0)) p by rw[List.take_zero,Jv]] at hq208_
 refine aT (fun t_ mz az W=>∃i4:Nat,i4<=m/\mz=m-i4/\az=⟨(ovr (jv az) [(19,19,0,[vi ((i4:Int))]),(177,197,29,[])] t_).toArray,[]⟩/\St w fp [eB rb 69 #[vi ((p:Int)),.slice QA4 ((rs1++[t]).length) qc4,vi ((szF ((rs1++[t]).map RcT.r):Int)),.slice TA4 p tc4],eO 27 8 (.slice QA4 ((rs1++[t]).length) qc4) ((rs1++[t]).length) ((rs1++[t]).flatMap rcC),eO 4 1 (.slice TA4 p tc4) p (tB (tlF L told t.r.eds (os.take i4)) p),eRc rr1,eB cT 27 #[vi t.r.kind,vi t.r.xid,vi t.r.tbl,sn,sn,.slice t.A t.r.eds.length t.c,sn,.string t.r.note],eB dI 129 #[vi 0,vi 0],eO 3 1 (.slice OA m oc) m (os.map (Value.int .i64)),eO 48 3 (.slice NA m nc) m (ps.flatMap pgQ),eO 27 8 (.slice IA g ic) g (nl.flatMap (icL L)),eO 48 3 (.slice WA i9 wc) i9 (ws.flatMap pgQ),eM (List.map dM rws3)] W) (m-0) ?_ ?_
 exact⟨0,Nat.zero_le _,rfl,(by kernel_rfl),hq208_.pk [0,1,2,3,4,5,6,7,8,9,10]⟩
 rintro Tb a209 Tc ⟨i4,hi4,rfl,hj_,iX⟩
 refine ovz hj_ fun RL=>?_
 refine wq (wq (sqr (sqp [.m 197 19,.m 198 6,.k 199 (vi ((m:Int))),.k 200 (.bool (decide ((i4:Int)<(m:Int))))] ?_)))
 refine aa (wds (fun OG Nd=>?_) fun OG Nd=>?_)
 ·refine wp_skip (aa (wq (wp_block (wq ?_))))
  obtain⟨n4,hnn4⟩:∃n,os[i4]? =some n:=⟨_,List.getElem?_eq_getElem (by omega)⟩
  have y4:=hpro n4 (List.mem_of_getElem? hnn4)
  obtain⟨nk,rfl⟩:∃nk:Nat,n4=(nk:Int):=⟨n4.toNat,by omega⟩
  have hnn:os[i4]? =some (nk:Int):=hnn4
  obtain⟨pw,hpw,hpw2⟩:=yK hws9 hnn
  obtain⟨pn,hpn,hpn2⟩:=yK hps9 hnn
  have hwl:ws.length=m:=by have h_:=congrArg List.length hws9;rw[List.length_map,List.length_map] at h_;omega
  refine sqr (sqp [.m 203 17,.m 204 19] ?_)
  refine sql (.pointer (some ((ad WA).add (i4*3)))) iX (fun cx=>aI (e:=48) (m:=i4) (sz:=3) rfl (by kernel_rfl) (by kernel_rfl) (cx.ou 203) (cx.ou 204) (by omega) (by omega) (At.of_ownN (cx.ri 9 rfl)) (bq (sz:=3) iu (by decide) (by omega))) ?_
  refine sql (.pointer (some ((ad WA).add (i4*3+0)))) iX (fun cx=>br rfl (by kernel_rfl) (cx.ou 205)) ?_
  refine sql (vi pw.p.1) iX (fun cx=>ae rfl (by kernel_rfl) (cx.ou 206) (At.eltc (f:=pgQ) (k:=0) iu (At.of_ownN (cx.ri 9 rfl)) hpw rfl)) ?_
  refine sqp [.k 208 (.bool (pw.p.1 != 0)),.m 209 208] ?_
  refine d6 209 [210,211,212,213,214,215] ?_ rfl (fun hq=>?_) ?_
  rotate_left
  have hq_:=hq
  try simp only[zB] at hq_
  refine sqp [.m 210 7,.m 211 19] ?_
  refine sql (.pointer (some ((ad NA).add (i4*3)))) iX (fun cx=>aI (e:=48) (m:=i4) (sz:=3) rfl (by kernel_rfl) (by kernel_rfl) (cx.ou 210) (cx.ou 211) (by omega) (by omega) (At.of_ownN (cx.ri 7 rfl)) (bq (sz:=3) iu (by decide) (by omega))) ?_
  refine sql (.pointer (some ((ad NA).add (i4*3+0)))) iX (fun cx=>br rfl (by kernel_rfl) (cx.ou 212)) ?_
  refine sql (vi pn.p.1) iX (fun cx=>ae rfl (by kernel_rfl) (cx.ou 213) (At.eltc (f:=pgQ) (k:=0) iu (At.of_ownN (cx.ri 7 rfl)) hpn rfl)) ?_
  refine sqp [.k 215 (.bool (pn.p.1==0))] ?_
  exact sqe
  refine c8 ?_
  refine sqp [sPa 216 (pw.p.1 != 0) (pn.p.1==0)] ?_
  refine aa (wbs (fun vm=>?_) fun vm=>?_)
  have vn:=vm
  simp only[zB] at vn
  obtain⟨Qd,Qe⟩:=vn
  refine aH [0,1,3,7,0,0,48,112,255,511] [[],[],[],[0],[],[],[6],[6],[2],[2]] [[],[],[],[],[],[],[],[],[],[11]] [[],[],[],[],[],[],[],[],[],[2]] [.k 217 (vp rb),.k 218 (vp rb),.k 219 (po rb 3),.c 220 (.slice TA4 p tc4),.k 221 (.slice OA m oc),.k 222 (vi ((i4:Int))),.c 223 (.pointer (some ((ad OA).add i4))),.c 224 (vi ((nk:Int))),.c 225 (.pointer (some ((ad TA4).add nk))),.n] (fun ix d b X=>match ix with|0|1|2|3|4|5|6|7|8=>True|9=>X 11=eO 4 1 (.slice TA4 p tc4) p (tB (fun x=>if x=(nk:Int) then false else (tlF L told t.r.eds (os.take i4)) x) p)|_=>True) [0,1,3,4,5,6,7,8,9,10,11] [3,6,7,8,9] [(217,0,9,226)] iX ?_ ?_ ?_
  exact fun ix _ _ _ _ _ _ hs hb hx h=>match ix,h with
  |9,h=>by dsimp only;rw[<-hx 11 rfl];exact h
  |0,_|1,_|2,_|3,_|4,_|5,_|6,_|7,_|8,_|_+10,_=>trivial
  refine⟨?_,?_,?_,?_,?_,trivial⟩
  exact xs4 rfl id fun cx=>ae rfl (by kernel_rfl) (cx.an 2) ((cx.bi 0 rfl).cell 3)
  exact xs4 rfl id fun cx=>bS (e:=3) (m:=i4) rfl (by kernel_rfl) (by kernel_rfl) (cx.an 4) (cx.an 5) (by omega) (by omega) (At.of_own (cx.ri 6 rfl)) (by rw[List.length_map];omega)
  exact xs4 rfl id fun cx=>ae rfl (by kernel_rfl) (cx.an 6) (At.cellAd (At.of_own (cx.ri 6 rfl)) ((List.getElem?_map ..).trans (by rw[hnn];rfl)))
  exact xs4 rfl id fun cx=>bS (e:=4) (m:=nk) rfl (by kernel_rfl) (by kernel_rfl) (cx.an 3) (cx.an 7) (by omega) (by omega) (At.of_own (cx.ri 2 rfl)) ((oy _ _))
  refine svA fun o b W X cx=>?_
  exact kO (m:=nk) (n:=p) rfl (cx.an 8) (show _=Value.bool false from(cx.co _)) (by kernel_rfl) rfl rfl cx (cx.init 2 _ rfl) rfl (by omega) rfl ((EC false)) rfl rfl (fun _ _ _ _ _=>id)
  intro d b X Td hD zS fr aG
  simp only[exq 11 ((dTn (hD 9 lq)))] at zS
  clear hD;subst aG;clear d b X
  refine aw (aa (sqr (sqp [.m 201 19,sI 202 ((i4:Int)+1) (by omega),.m 19 202] ?_)))
  refine aa ?_
  have htk:os.take (i4+1)=os.take i4++[(nk:Int)]:=by rw[List.take_add_one,hnn];rfl
  have hyn:(ak L (nk:Int)).1≠0/\(bp (ak L) t.r.eds (nk:Int)).1=0:=by have h_:=vm;rw[hpw2,hpn2] at h_;simpa using h_
  rw[JE hyn.1 hyn.2,<-htk] at zS
  refine⟨m-((i4+1)),by omega,?_⟩
  exact⟨(i4+1),by omega,rfl,(by kernel_rfl),zS.pk [0,1,10,2,3,4,5,6,7,8,9]⟩
  have vn:=vm
  simp only[zB] at vn
  refine wp_skip (aw (aa (sqr (sqp [.m 201 19,sI 202 ((i4:Int)+1) (by omega),.m 19 202] ?_))))
  refine aa ?_
  have htk:os.take (i4+1)=os.take i4++[(nk:Int)]:=by rw[List.take_add_one,hnn];rfl
  rw[Lr (L:=L) (told:=told) (eds:=t.r.eds) (os:=os.take i4) (n:=(nk:Int)) (by have h_:=vm;rw[hpw2,hpn2] at h_;simpa using h_),<-htk] at iX
  refine⟨m-((i4+1)),by omega,?_⟩
  exact⟨(i4+1),by omega,rfl,(by kernel_rfl),iX.pk [0,1,2,3,4,5,6,7,8,9,10]⟩
 refine wp_exit (au (au (bh (aa (wq (sqr (sqp [.m 226 0,.k 227 (vp rb),.k 228 (po rb 1)] ?_)))))))
 refine av 0 iX ?_
 refine sqp [.k 230 (vi (((rs1++[t]).length:Int))),.k 231 (.agg #[vi (((rs1++[t]).length:Int)),vi 0])] ?_
 refine aV (n:=2) 5 #[vi (((rs1++[t]).length:Int)),vi 0] iX fun Te zT=>?_
 refine aa (wp_ret ?_)
 refine bpr (.agg #[vi (((rs1++[t]).length:Int)),vi 0]) (bA (n:=2) Tryz.results77 rfl (by kernel_rfl) (by kernel_rfl) (zT.blk 5 rfl) rfl) ?_
 have hi9b:i4=m:=by omega
 have htl:(tlF L told t.r.eds (os.take i4))=rfT told L t.r:=by rw[List.take_of_length_le (by omega),hosF];rfl
 have hrD:=qf (told:=told) hE0
 have hrL9b:(rs1++[t]).map RcT.r=rfL L t.r:=by rw[List.map_append,hr9,rfL,<-hosF];rfl
 have hlen9:(rs1++[t]).length=(rfL L t.r).length:=by rw[<-hrL9b,List.length_map]
 rw[htl] at zT
 obtain⟨fp244_,hr244_⟩:=St.rq (rs:=(rs1++[t])) (told:=(rfT told L t.r)) (p:=p) (rr:=rr1) (zT.u4.c0.u4.c0.u4.c0.u4.c0.u4.c0.u4.c0.u4.c0)
 have Nf:=St.rf (L:=(rfL L t.r)) hr244_ (hrL9b) (fun x hx=>(List.mem_append.1 hx).elim (fQ.1 x) fun h=>by rw[List.mem_singleton.1 h];exact fQ.2)
 exact⟨by rw[hrD,hE0];show Ending.returned (.agg #[vi ((rs1++[t]).length:Int),vi 0])= _;rw[hlen9],_,by rw[hrD];exact Nf⟩
end
section
open Go.RowKit
def Ah(S:StM):Prop:=∀(n:Nat) x,S.D.pgs[n]? =some x->∀z∈x.safe::x.ws,z.1=cO 512\/∃c,bC c/\z.1=aE c/\c.2.1<=(S.F:Int)
def Nw(S:StM):Prop:=∀n:Nat,n<S.D.pgs.length->(aD S (n:Int)).2.1<=(S.L.length:Int)
section
variable{S S2:StM}{c p:Nat}{told:Int->Bool}{L:List RecM}{er:Int}
theorem WI.nw(h:WI S told):Nw S:=fun n hn=>by rw[h.cur (n:Int) (by omega) (by omega)];exact ql _ _
theorem Ah.to(h:Ah S)(hp:∀(n:Nat) y,S2.D.pgs[n]? =some y->∃x,S.D.pgs[n]? =some x/\∀z∈y.safe::y.ws,z∈x.safe::x.ws)(hF:S.F<=S2.F):Ah S2:=fun n y hy z hz=>by
 obtain⟨x,hx,h1⟩:=hp n y hy
 exact(h n x hx z (h1 z hz)).imp id fun⟨c,a,b,d⟩=>⟨c,a,b,by omega⟩
theorem Ah.eq(h:Ah S)(hp:S2.D.pgs=S.D.pgs)(hF:S.F<=S2.F):Ah S2:=h.to (fun n y hy=>⟨y,by rw[<-hp];exact hy,fun z hz=>hz⟩) hF
theorem Ah.ev(h:Ah S)(ev:Ev S S2)(hok:SOk S c)(hb:Nw S):Ah S2:=fun n y hy z hz=>by
 obtain⟨x,hx⟩:∃x,S.D.pgs[n]? =some x:=⟨_,List.getElem?_eq_getElem (by rw[<-ev.len];exact(List.getElem?_eq_some_iff.1 hy).1)⟩
 have hFm:=ev.Fm hok.fl
 obtain⟨h1,zs,h2,h3⟩:=ev.pgs n x y hx hy
 have old:z∈x.safe::x.ws->z.1=cO 512\/∃c,bC c/\z.1=aE c/\c.2.1<=(S2.F:Int):=fun hz=>(h n x hx z hz).imp id fun⟨c,a,b,d⟩=>⟨c,a,b,by omega⟩
 rw[h1,h2] at hz
 rcases List.mem_cons.1 hz with rfl|hz
 exact old List.mem_cons_self
 rcases List.mem_append.1 hz with hz|hz
 exact old (List.mem_cons_of_mem _ hz)
 obtain⟨h4,h5⟩:=h3 z hz
 refine .inr ⟨_,gk hok (n:Int),h4,?_⟩
 rcases h5 with h5|h5
 exact h5
 have h8:=HX S2.L (fl:=S2.D.fl) (by rw[h5,ev.log,hok.log,ck,ev.L];exact Nat.le_refl _)
 have h9:=hb n (List.getElem?_eq_some_iff.1 hx).1
 rw[<-ev.L,<-h8] at h9
 exact h9
theorem Nw.ev(h:Nw S)(ev:Ev S S2):Nw S2:=fun n hn=>by rw[ev.cur (n:Int) (by omega),ev.L];exact h n (by rw[<-ev.len];exact hn)
theorem Ho{L:List RecM}{fl:Nat}(h:fl<=szF L)(hr:0<(aC r).size):flN (L++[r]) fl=flN L fl:=by
 have e:cy (L++[r]) (L++[r]).length=cy L L.length++[(szF (L++[r]):Int)]:=by
  rw[List.length_append,List.length_singleton,cy,cy,List.range_succ,List.map_append,List.map_singleton,List.take_of_length_le (by simp)]
  congr 1
  refine List.map_congr_left fun i hi=>?_
  rw[List.take_append_of_le_length (by have:=List.mem_range.1 hi;omega)]
 rw[flN,e,List.countP_append,List.countP_singleton,if_neg,Nat.add_zero]
 rfl
 rw[mr];simp;omega
theorem ApS.ah{rt:RcT}(s:ApS S rt S2 er)(hok:SOk S c)(hr:bv rt.r=true)(h:Ah S):Ah S2:=by
 refine h.eq s.pgs (Nat.le_of_eq ?_)
 show flN S.L S.D.fl=flN S2.L S2.D.fl
 rw[s.fl]
 by_cases h0:er=0
 have e:S2.L=S.L++[rt.r]:=by show S2.recs.map RcT.r= _;rw[(s.ok h0).2.1,List.map_append];rfl
 rw[e]
 exact(Ho (by have:=hok.fl;rw[hok.log,ck] at this;exact this) (by rw[jk hr];omega)).symm
 have e:S2.L=S.L:=by show S2.recs.map RcT.r= _;rw[(s.no h0).1]
 rw[e]
theorem ApI.ah{ims:List RecM}(h:ApI S ims S2 er):∀{c:Nat},SOk S c->(∀r∈ims,bv r=true)->Ah S->Ah S2:=by
 induction h with
 |nil S=>intro c _ _ h;exact h
 |bad q h=>intro c hok hr ha;exact(fu _ _).ah (hok.rr q) (hr _ List.mem_cons_self) (ha.eq rfl (Nat.le_refl _))
 |cons q h hr ih=>
  rename_i S S2 r l er
  intro c hok hi ha
  have h1:bv (rcI r).r=true:=hi r List.mem_cons_self
  have h2:Ah (bt {S with rr:=q} (rcI r)).1:=(fu {S with rr:=q} (rcI r)).ah (hok.rr q) h1 (ha.eq rfl (Nat.le_refl _))
  exact ih (((hok.rr q).append (rt:=rcI r) h1).im _) (fun x hx=>hi x (List.mem_cons_of_mem _ hx)) (h2.eq rfl (Nat.le_refl _))
theorem dY.ah{pg:PgR}(h:dY S n pg S2 er)(hok:SOk S c)(ha:Ah S)(hb:Nw S):Ah S2:=by
 obtain⟨S1,h1,h2⟩:=h
 have h3:=ha.ev (Ev.load hok h1).1 hok hb
 rcases h2 with ⟨_,rfl⟩|⟨_,_,rfl⟩
 exact h3
 exact h3.eq rfl (Nat.le_refl _)
theorem PuA.ah{N:Int->PgS}{lsn:Int}{l:List Int}(h:PuA cur N lsn S l S2 er):∀{c:Nat},SOk S c->Ah S->Nw S->lsn<=(S.L.length:Int)->(∀n∈l,bC (gQ lsn (N n)))->Ah S2:=by
 have e0:∀(S:StM) (n:Int) (X:StM->Prop),X S->X (ee S n false)->X (if (cur n).1≠0/\(N n).1=0 then ee S n false else S):=fun S n X h1 h2=>by split<;>assumption
 induction h with
 |nil S=>intro c _ h _ _ _;exact h
 |bad hp h he=>
  rename_i S S2 n er l pg
  intro c hok ha hb _ _
  exact h.ah (c:=c+1) (e0 S n (fun Z=>SOk Z (c+1)) (hok.mono (by omega)) (hok.told n false)) (e0 S n Ah ha (ha.eq rfl (Nat.le_refl _))) (e0 S n Nw hb hb)
 |cons hp h hr ih=>
  rename_i S S1 S2 n er l pg
  intro c hok ha hb hl hN
  have hokx:=e0 S n (fun Z=>SOk Z (c+1)) (hok.mono (by omega)) (hok.told n false)
  have h1:=h.ah hokx (e0 S n Ah ha (ha.eq rfl (Nat.le_refl _))) (e0 S n Nw hb hb)
  obtain⟨a1,_,_,_,a5,a6⟩:=dY.cur hokx h
  have e1:S1.L=S.L:=a1.trans (e0 S n (fun Z=>Z.L=S.L) rfl rfl)
  have e5:S1.D.pgs.length=S.D.pgs.length:=a5.trans (e0 S n (fun Z=>Z.D.pgs.length=S.D.pgs.length) rfl rfl)
  refine ih (hokx.put (by rw[hp];exact hN n (by simp)) h) h1 (fun m hm=>?_) (by rw[e1];exact hl) fun m hm=>hN m (by simp[hm])
  rw[a6 (m:Int) (by omega),e1]
  split
  rw[hp];exact hl
  rw[e0 S n (fun Z=>aD Z (m:Int)=aD S (m:Int)) rfl rfl];exact hb m (by omega)
theorem DoQ.ah(h:DoQ S r S2 n er)(hok:SOk S c)(hw:WI S told)(ha:Ah S):Ah S2:=by
 have hev:∀{S':StM},Ev S S'->Ah S'/\Nw S':=fun ev=>⟨ha.ev ev hok hw.nw,hw.nw.ev ev⟩
 have hri:r.eds.any (d4 S.D.pgs.length)=false->∀x∈eP S (cz r.eds),bv x=true:=fun hp x hx=>by
  obtain⟨n,hn,rfl⟩:=List.mem_map.1 hx
  obtain⟨e,he,rfl⟩:=jL.1 (oQ hn)
  exact lh hok (jP hp he)
 cases h with
 |arg h=>exact ha
 |page h hp he=>exact(hev he).1
 |pow h hp he ho=>exact(hev he).1
 |err h hp he h0=>exact(hev he).1
 |full h hp he h0 hf=>exact(hev he).1
 |img h hp he hk h0 hf hi hn=>obtain⟨c1,hk⟩:=hk;exact hi.ah hk (hri hp) (hev he).1
 |app h hp he hk h0 hf hi hr hn=>
  obtain⟨c1,hk⟩:=hk
  exact(fu _ _).ah (hi.sok hk (hri hp)) (by rw[hr];exact h.1) (hi.ah hk (hri hp) (hev he).1)
 |put h hp he hk h0 hf hi hr ha2 hu=>
  rename_i S1 S3 rt
  obtain⟨c1,hk⟩:=hk
  obtain⟨k,o⟩:=hi.run
  have ok1:=(o.ok rfl).1
  have hokI:=hi.sok hk (hri hp)
  have s:=fu S3 rt
  have e1:(bt S3 rt).1.L=S3.L++[rt.r]:=by show (bt S3 rt).1.recs.map RcT.r= _;rw[(s.ok ha2).2.1,List.map_append];rfl
  have e2:(S3.L.length:Int)=(S.recs.length:Int)+((eu S (cz r.eds)).length:Int):=by
   have:S.L.length=S.recs.length:=List.length_map ..
   rw[o.L,ok1,List.take_length,he.L,eP]
   simp only[List.length_append,List.length_map];omega
  have hro2:=hok.recs_len
  have hnl:=mu S (cz r.eds)
  have hol:=kp r.eds
  have hml:=(d8 h.1).many
  have hlb:0<=dX S r/\dX S r<=2147483647:=by unfold dX;omega
  refine hu.ah (hokI.append (rt:=rt) (by rw[hr];exact h.1)) (s.ah hokI (by rw[hr];exact h.1) (hi.ah hk (hri hp) (hev he).1)) (fun n hn=>?_) ?_ fun n _=>j5 (iI (fun m=>gk hok m) h0 n) hlb
  rw[s.pgs,o.pgs] at hn
  have h5:=(hev he).2 n hn
  have h6:(S1.L.length:Int)<=(S3.L.length:Int):=by rw[o.L,List.length_append];omega
  have h7:aD (bt S3 rt).1 (n:Int)=aD S1 (n:Int):=by rw[<-o.cur (n:Int),aD,aD,s.pool,gL s.pgs]
  rw[h7,e1,List.length_append]
  simp only[List.length_singleton];omega
  rw[e1,List.length_append,dX]
  simp only[List.length_singleton];omega
theorem Ah.sync(h:Ah S){D:DkM}(hp:D.pgs=S.D.pgs.map syS)(hf:D.fl=S.D.fl):Ah (c9 S D):=by
 refine h.to (fun n y hy=>?_) (by show _<=flN S.L D.fl;rw[hf];exact Nat.le_refl _)
 have hy:D.pgs[n]? =some y:=hy
 rw[hp,List.getElem?_map] at hy
 obtain⟨x,hx,rfl⟩:=Option.map_eq_some_iff.1 hy
 refine⟨x,hx,fun z hz=>?_⟩
 have:z=rdT x:=by simpa[syS] using hz
 subst this
 unfold rdT
 rcases hl:x.ws.getLast? with _|w
 exact List.mem_cons_self
 exact List.mem_cons_of_mem _ (List.mem_of_getLast? hl)
theorem Nice.ckAh(h:Nice S L told p c)(ha:Ah S)(hq:CkQ S note S2 er):Ah S2:=by
 have hcl:∀{q:List RcT}{ns:List Int}{S1:StM}{e:Int},ClA {S with rr:=q} ns S1 e->Nice S1 L told p (c+ns.length)/\e=0/\Ah S1:=fun {q ns S1 e} hc=>by
  obtain⟨ev,ok,off⟩:=hc.run (h.rr q).ok
  have hN:=ev.nice ok (h.rr q)
  refine⟨hN,Classical.byContradiction fun h1=>?_,(ha.eq (S2:={S with rr:=q}) rfl (Nat.le_refl _)).ev ev (h.rr q).ok (h.rr q).wi.nw⟩
  have:=off h1
  rw[hN.on] at this;cases this
 have hsy:∀{q:List RcT}{ns:List Int}{S1:StM},ClA {S with rr:=q} ns S1 0->(opD S1.D 0 syD).2=0/\Nice (c9 S1 (opD S1.D 0 syD).1) L told p (c+ns.length)/\Ah (c9 S1 (opD S1.D 0 syD).1):=fun hc=>by
  obtain⟨a1,_,a3⟩:=hcl hc
  obtain⟨b1,b2⟩:=a1.sync
  have e:=(mO b1).2.2
  exact⟨b1,b2,a3.sync (by rw[e];rfl) (by rw[e];rfl)⟩
 have hfl:∀{S3:StM}{k:Nat},SOk S3 k->Nw S3->Ah S3->Ah (c9 S3 (opD S3.D 0 flD).1):=fun {S3 k} ok3 hb h3=>by
  rcases kx S3.D with ⟨_,e⟩|⟨_,_,e⟩|⟨_,e⟩
  rw[e];exact h3
  rw[e];exact h3.eq rfl (Nat.le_refl _)
  rw[e]
  refine h3.eq rfl ?_
  show flN S3.L S3.D.fl<=flN S3.L S3.D.log.size
  exact s5 _ ok3.fl
 cases hq with
 |arg h1=>exact ha
 |full h1 hf=>exact ha.eq rfl (Nat.le_refl _)
 |cl h1 hf hns hc he=>exact(hcl hc).2.2
 |sync h1 hf hns hc he=>exact absurd (hsy hc).1 he
 |app h1 hf hns hc h3 he=>exact(fu _ _).ah (hsy hc).2.1.ok (cR h1) (hsy hc).2.2
 |flush h1 hf hns hc h3 h2 he=>
  rename_i q ns S1 S3
  have s:=fu (c9 S1 (opD S1.D 0 syD).1) (rcI (aJ note))
  have hN:=(hsy hc).2.1
  obtain⟨a1,a2,a3,a4,a5,a6,a7,a8⟩:=hN.app h1 h2
  rw[h2] at s
  exact hfl a1 (fun n hn=>by rw[a2 (n:Int) (by omega) (by omega),a5];exact ql _ _) (s.ah hN.ok (cR h1) (hsy hc).2.2)
 |ok h1 hf hns hc h3 h2 he=>
  rename_i q ns S1 S3
  have s:=fu (c9 S1 (opD S1.D 0 syD).1) (rcI (aJ note))
  have hN:=(hsy hc).2.1
  obtain⟨a1,a2,a3,a4,a5,a6,a7,a8⟩:=hN.app h1 h2
  rw[h2] at s
  exact(hfl a1 (fun n hn=>by rw[a2 (n:Int) (by omega) (by omega),a5];exact ql _ _) (s.ah hN.ok (cR h1) (hsy hc).2.2)).eq rfl (Nat.le_refl _)
theorem FrR.ah{n:Nat}{r:Int}(h:FrR S n S2 r):∀{c:Nat},SOk S c->Nw S->Ah S->Ah S2:=by
 induction h with
 |stop h=>intro c _ _ h;exact h
 |told h ht hr ih=>intro c hok hb ha;exact ih hok hb ha
 |no h ht hp hk hr ih=>intro c hok hb ha;have ev:=(hp.ev hok).1;exact ih (hp.ok hok) (hb.ev ev) (ha.ev ev hok hb)
 |yes h ht hp hk=>intro c hok hb ha;have h1:=ha.ev (hp.ev hok).1 hok hb;exact h1.eq rfl (Nat.le_refl _)
structure NiceX (S:StM) (L:List RecM) (told:Int->Bool) (p c:Nat):Prop extends Nice S L told p c where
 xt:Ah S
end
section
variable{S S2:StM}{L:List RecM}{told:Int->Bool}{p c c':Nat}{n er:Int}
theorem NewS.niceX{n:Nat}(h:NewS S n note bufs):NiceX S [aJ note] (fun _=>false) n 0:=⟨h.nice,fun m x hx z hz=>by
 have hx:(bgD n note).pgs[m]? =some x:=by rw[<-h.D];exact hx
 have:x=⟨z5,[]⟩:=List.eq_of_mem_replicate (List.mem_of_getElem? hx)
 subst this
 rw[List.mem_singleton.1 hz]
 exact .inl rfl⟩
theorem NiceX.mono(h:NiceX S L told p c)(hc:c<=c'):NiceX S L told p c':=⟨h.toNice.mono hc,h.xt⟩
theorem NiceX.do(h:NiceX S L told p c)(hq:DoQ S r S2 n er)(ho:SOk S2 c'):n=(rfD p L told r).2.1/\er=rfE p L r/\NiceX S2 (rfD p L told r).1 (rfD p L told r).2.2.2 p c':=by
 obtain⟨a,b,d⟩:=h.toNice.do hq ho
 exact⟨a,b,d,hq.ah h.toNice.ok h.toNice.wi h.xt⟩
theorem NiceX.page{ok:Bool}(h:NiceX S L told p c)(hq:PaQ S n S2 ok):ok=decide (0<=n/\n<(p:Int))/\pgF S n ok=(if 0<=n/\n<(p:Int) then ak L n else bu)/\NiceX S2 L told p (c+3):=by
 obtain⟨a,b,d⟩:=h.toNice.page hq
 exact⟨a,b,d,h.xt.ev (hq.ev h.toNice.ok).1 h.toNice.ok h.toNice.wi.nw⟩
theorem NiceX.fresh{r:Int}(h:NiceX S L told p c)(hq:FrR S 0 S2 r):r=frF p L told/\NiceX S2 L (frT p L told) p (c+3*p+1):=by
 obtain⟨a,b⟩:=h.toNice.fresh hq
 exact⟨a,b,hq.ah h.toNice.ok h.toNice.wi.nw h.xt⟩
theorem NiceX.flush(h:NiceX S L told p c):(opD S.D 0 flD).2=0/\NiceX (c9 S (opD S.D 0 flD).1) L told p c:=by
 obtain⟨a,b⟩:=h.toNice.flush
 have e:=(mO a).2.2
 refine⟨a,b,h.xt.eq (by show (opD S.D 0 flD).1.pgs= _;rw[e];rfl) ?_⟩
 show flN S.L S.D.fl<=flN S.L (opD S.D 0 flD).1.fl
 rw[e]
 exact s5 _ h.toNice.ok.fl
theorem NiceX.write(h:NiceX S L told p c)(hq:WrQ S n S2 er):er=(if 0<=n/\n<(p:Int) then 0 else 22)/\NiceX S2 L told p (c+4):=by
 obtain⟨a,b⟩:=h.toNice.write hq
 refine⟨a,b,?_⟩
 obtain⟨S1,er1,h1,h2⟩:=hq
 have ev:=(Ev.load h.toNice.ok h1).1
 have h3:=h.xt.ev ev h.toNice.ok h.toNice.wi.nw
 rcases h2 with ⟨_,rfl,_⟩|⟨_,t,ht,_,h4⟩
 exact h3
 have ev2:=(Ev.write (h.toNice.ok.load h1) ht).1
 rw[show (bK S1 t).1=S2 by rw[h4]] at ev2
 exact h3.ev ev2 (h.toNice.ok.load h1) (h.toNice.wi.nw.ev ev)
theorem NiceX.check(h:NiceX S L told p c)(hq:CkQ S note S2 er)(ho:SOk S2 c'):er=fM L note/\NiceX S2 (ckL L note) told p c':=by
 obtain⟨a,b⟩:=h.toNice.check hq ho
 exact⟨a,b,h.toNice.ckAh h.xt hq⟩
end
end
section
open Go.RowKit
theorem Hq(h:s=ei L):ug s (szF L):= .inl (by rw[h,ck];omega)
theorem Lp(h:s=ei L):s=ei L++⟨#[]⟩:=by rw[lu];exact h
abbrev nS:ByteArray:=⟨#[110]⟩
def kS(k:Nat):ByteArray:=⟨#[UInt8.ofNat k]⟩
def r1:RecM:=⟨1,0,0,[(1,-1,kS 1)],⟨#[]⟩⟩
theorem x2:bv r1=true:=by decide
theorem LI:cz r1.eds=[1]:=rfl
theorem KM:r1.eds.any (d4 2)=false:=by decide
theorem NO:DoA r1:=⟨x2,by decide,by decide⟩
theorem Lk:cY (ak [aJ nS]) r1.eds=0:=by decide+kernel
theorem Lw:rfE 2 [aJ nS] r1=0:=xg NO KM Lk (by
 have h1:=eR x2
 have h2:=eR (cR (note:=nS) (by decide))
 have h3:szF (et [aJ nS] (cz r1.eds))<=200000:=by
  rw[LI]
  show szF [⟨8,0,1,[],aE bu⟩]<= _
  have h4:bv ⟨8,0,1,[],aE bu⟩=true:=by
   have h1:=dD xY
   have a2:decide (((aE bu).size:Int)<=60000)=true:=decide_eq_true (by omega)
   show (inB 8 1 10&&(inB 0 0 127&&(inB 1 0 65535&&(decide ((([]:List EdT).length:Int)<=64)&&((([]:List EdT).all edR)&&decide (((aE bu).size:Int)<=60000))))))=true
   rw[a2];decide
  have:=eR h4
  have e0:szF []=0:=rfl
  rw[oT,e0];omega
 rw[D7];omega)
theorem O4:(rfL [aJ nS] r1).length=3:=by decide+kernel
theorem KW:ak (rfL [aJ nS] r1) 1=(1,3,[]):=by decide+kernel
theorem Jm:bm (rfL [aJ nS] r1)=1:=rfl
theorem yi(p:Int)(k:Nat)(w:World)(hk:k<256):
  Calls Tryz.prog 42 #[.int .i64 p,.int .i64 ((k:Int))] w (Ret (.agg #[.int .i64 p,.int .i64 (-1),.string (kS k)]) w):=by
 go_enter Tryz.func42,Tryz.ntmps42
 have al:=St.start w
 refine wq (sqr (bY #[vi 0,vi 0,.string ByteArray.empty] al fun CP W1 aA=>?_))
 refine aa (wq (sqr (sqp [.m 5 0,.m 6 1,sW 7 .u8 (k:Int) (k:Int) (IntWalk.u8_in _ (by omega))] ?_)))
 refine ej (fun x_=>sA x_) (fun C3=> .slice C3 1 1) (fun C3=>eO 5 1 (.slice C3 1 1) 1 ([.int .u8 ((k:Int))])) aA (by
   refine svA fun a b W X cx=>?_
   have Fv:a (.tmp 7)= .int .u8 ((k:Int)):=(cx.ou 7)
   exact du (e:=5) (xs:=[.int .u8 ((k:Int))]) rfl (by simp[go_sem,Fv]) rfl (by decide) rfl rfl (fun _ _ _ _ _=> .intro)) fun C3 W5 aR=>?_
 refine sql (.string (strOfNums ([((k:Int))]))) aR (fun cx=>la (e:=5) rfl (by kernel_rfl) (by kernel_rfl) (by kernel_rfl) (cx.ou 8) (cx.ri 1 rfl)) ?_
 refine sqp [.k 10 (.agg #[vi p,vi (-1),.string (strOfNums ([((k:Int))]))])] ?_
 refine aV (n:=3) 0 #[vi p,vi (-1),.string (strOfNums ([((k:Int))]))] aR fun W8 dO=>?_
 refine aa (wp_ret ?_)
 refine bpr (.agg #[vi p,vi (-1),.string (strOfNums ([((k:Int))]))]) (bA (n:=3) Tryz.results42 rfl (by kernel_rfl) (by kernel_rfl) (dO.blk 0 rfl) rfl) ?_
 exact Ret.of (rfl) dO.ext
end
section
open Go.RowKit
def eNi(sb db:Nat)(L:List RecM)(told:Int->Bool)(p c:Nat)(fp:List Nat):Ent:=eSx sb db (fun S=>NiceX S L told p c) fp
theorem AU(sb db:Nat)(L:List RecM)(told:Int->Bool)(p c:Nat)(fp:List Nat):(eNi sb db L told p c fp).loc:=vL _ _ _ _
theorem ft(h:e=eNi sb db L told p c fp):e=eNi sb db L told p c e.fp:=by subst h;rfl
theorem St.sxm{L1 L2:List Ent}{Φ Ψ:StM->Prop}(h:St w0 bor (L1++eSx sb db Φ fp::L2) W)(hi:∀S,Φ S->Ψ S):St w0 bor (L1++eSx sb db Ψ fp::L2) W:=St.repl h rfl (fun⟨S,a,b⟩=>⟨S,hi S a,b⟩) (vL _ _ _ _)
theorem St.sxe{L1 L2:List Ent}{Φ:StM->Prop}(h:St w0 bor (L1++eSx sb db Φ fp::L2) W):∃S,Φ S:=let ⟨S,a,_⟩:=(h.ok (eSx sb db Φ fp) (by simp)).holds;⟨S,a⟩
section
variable{sb db:Nat}{L:List RecM}{told:Int->Bool}{p c:Nat}{fp:List Nat}{w:World}
theorem AQ(r:RecM)(A:Option Addr)(rc:Nat)(hB:(eNi sb db L told p c fp).holds w)(hlt:∀k∈fp,k<w.heap.size)(hc:c<=800000)(hA:∀W,Upd fp w W->At W A (r.eds.flatMap edC))(hI:r.eds.length<=100000)(hz:∀e∈r.eds,e.2.2.size<=9223372036854775807)(hns:r.note.size<=9223372036854775807):
  Calls Tryz.prog 17 #[po sb 0,.agg #[.int .i64 r.kind,.int .i64 r.xid,.int .i64 r.tbl,sn,sn,.slice A r.eds.length rc,sn,.string r.note]] w
   (fun e w'=>e= .returned (.tuple #[.int .i64 (rfD p L told r).2.1,.int .i64 (rfE p L r)])/\∃fp',St w fp [eNi sb db (rfD p L told r).1 (rfD p L told r).2.2.2 p (c+700) fp'] w'):=by
 obtain⟨S,hN,hS⟩:=hB
 refine(Ki sb db S r A rc c fp w hS hlt hN.ok hc hA hI hz hns).mono ?_
 rintro e w' ⟨n,er,rfl,fp',hs⟩
 obtain⟨S2,h1,h2⟩:=St.sxe (L1:=[]) (L2:=[]) hs
 obtain⟨rfl,rfl,_⟩:=hN.do h1 h2
 exact⟨rfl,fp',St.sxm (L1:=[]) (L2:=[]) hs fun S2 h=>(hN.do h.1 h.2).2.2⟩
noncomputable def pgC(L:List RecM)(p:Nat)(n:Int):PgS:=if 0<=n/\n<(p:Int) then ak L n else bu
theorem Ee(n:Int)(hB:(eNi sb db L told p c fp).holds w)(hlt:∀k∈fp,k<w.heap.size)(hc:c<=800000)(hn:kcI.ok n):
  Calls Tryz.prog 21 #[po sb 0,.int .i64 n] w
   (fun e w'=>∃A cc,e= .returned (.tuple #[.agg #[.int .i64 (pgC L p n).1,.int .i64 (pgC L p n).2.1,.slice A (pgC L p n).2.2.length cc],.bool (decide (0<=n/\n<(p:Int)))])/\∃fp',St w fp [eNi sb db L told p (c+3) fp',eO 9 1 (.slice A (pgC L p n).2.2.length cc) (pgC L p n).2.2.length ((pgC L p n).2.2.map Value.string)] w'):=by
 obtain⟨S,hN,hS⟩:=hB
 refine(qk sb db S n c fp w hS hlt hN.ok (by omega) hn).mono ?_
 rintro e w' ⟨ok,A,cc,rfl,fp',hs⟩
 obtain⟨S2,h1⟩:=St.sxe (L1:=[]) hs
 obtain⟨e1,e2,_⟩:=hN.page h1
 have pR:=St.sxm (L1:=[]) (Ψ:=fun S=>NiceX S L told p (c+3)) hs fun S2 h=>(hN.page h).2.2
 subst e1
 rw[show pgF S n _=pgC L p n from e2] at pR |-
 exact⟨A,cc,rfl,fp',pR⟩
theorem oZ(hB:(eNi sb db L told p c fp).holds w)(hlt:∀k∈fp,k<w.heap.size)(hc:c<=800000):
  Calls Tryz.prog 22 #[po sb 0] w
   (fun e w'=>e= .returned (.int .i64 (frF p L told))/\∃fp',St w fp [eNi sb db L (frT p L told) p (c+3*p+1) fp'] w'):=by
 obtain⟨S,hN,hS⟩:=hB
 refine(BK sb db S c fp w hS hlt hN.ok (by omega)).mono ?_
 rintro e w' ⟨r,rfl,fp',hs⟩
 obtain⟨S2,h1⟩:=St.sxe (L1:=[]) (L2:=[]) hs
 obtain⟨rfl,_⟩:=hN.fresh h1
 exact⟨rfl,fp',St.sxm (L1:=[]) (L2:=[]) hs fun S2 h=>(hN.fresh h).2⟩
theorem BV(hB:(eNi sb db L told p c fp).holds w)(hlt:∀k∈fp,k<w.heap.size):
  Calls Tryz.prog 27 #[po sb 0] w
   (fun e w'=>e= .returned (.int .i64 0)/\∃fp',St w fp [eNi sb db L told p c fp'] w'):=by
 obtain⟨S,hN,hS⟩:=hB
 refine(B5 sb db S fp w hS hlt (Nat.le_trans hN.ok.lsz (by decide))).mono ?_
 rintro e w' ⟨rfl,fp',hs⟩
 obtain⟨a,b⟩:=hN.flush
 refine⟨by rw[a],fp',St.sx (L:=[]) hs b⟩
theorem uv(n:Int)(hB:(eNi sb db L told p c fp).holds w)(hlt:∀k∈fp,k<w.heap.size)(hc:c<=800000)(hn:kcI.ok n):
  Calls Tryz.prog 79 #[po sb 0,.int .i64 n] w
   (fun e w'=>e= .returned (.int .i64 (if 0<=n/\n<(p:Int) then 0 else 22))/\∃fp',St w fp [eNi sb db L told p (c+4) fp'] w'):=by
 obtain⟨S,hN,hS⟩:=hB
 refine(z8 sb db S n c fp w hS hlt hN.ok (by omega) hn).mono ?_
 rintro e w' ⟨er,rfl,fp',hs⟩
 obtain⟨S2,h1⟩:=St.sxe (L1:=[]) (L2:=[]) hs
 obtain⟨rfl,_⟩:=hN.write h1
 exact⟨rfl,fp',St.sxm (L1:=[]) (L2:=[]) hs fun S2 h=>(hN.write h).2⟩
theorem B2(note:ByteArray)(hB:(eNi sb db L told p c fp).holds w)(hlt:∀k∈fp,k<w.heap.size)(hc:c<=800000)(hn:note.size<=9000000):
  Calls Tryz.prog 28 #[po sb 0,.string note] w
   (fun e w'=>e= .returned (.int .i64 (fM L note))/\∃fp',St w fp [eNi sb db (ckL L note) told p (c+500) fp'] w'):=by
 obtain⟨S,hN,hS⟩:=hB
 refine(Bz sb db S note c fp w hS hlt hN.ok hc hn).mono ?_
 rintro e w' ⟨er,rfl,fp',hs⟩
 obtain⟨S2,h1,h2⟩:=St.sxe (L1:=[]) (L2:=[]) hs
 obtain⟨rfl,_⟩:=hN.check h1 h2
 exact⟨rfl,fp',St.sxm (L1:=[]) (L2:=[]) hs fun S2 h=>(hN.check h.1 h.2).2⟩
end
end
section
open Go.RowKit
section
variable{sb db:Nat}{L:List RecM}{told:Int->Bool}{p c:Nat}{fp:List Nat}{w:World}
theorem ya(hB:(eNi sb db L told p c fp).holds w):∃S,Nice S L told p c/\lN w sb db S:=let ⟨S,a,b⟩:=hB;⟨S,a.toNice,qq b⟩
theorem Nice.len{S:StM}(h:Nice S L told p c):S.recs.length=L.length:=by rw[<-h.eL];exact(List.length_map ..).symm
theorem Dt(hB:(eNi sb db L told p c fp).holds w):Calls Tryz.prog 45 #[po sb 0] w (Ret (.int .i64 (bm L:Int)) w):=by
 obtain⟨S,h,hs⟩:=ya hB
 have e:=h.wi.frm
 rw[h.eL] at e
 rw[<-e];exact DD sb db S w hs
def xh(L:List RecM):ByteArray:=(L[bm L-1]?.map RecM.note).getD ⟨#[]⟩
theorem Di(hB:(eNi sb db L told p c fp).holds w)(h0:0<bm L):Calls Tryz.prog 25 #[po sb 0] w (Ret (.string (xh L)) w):=by
 obtain⟨S,h,hs⟩:=ya hB
 have hl:=h.len
 have hb:=h.ok.recs_len
 have hf:=o4 L
 have e:=h.wi.frm
 rw[h.eL] at e
 obtain⟨rt,hrt⟩:∃rt,S.recs[bm L-1]? =some rt:=⟨_,List.getElem?_eq_getElem (by omega)⟩
 have e2:xh L=rt.r.note:=by
  have:L[bm L-1]? =some rt.r:=by rw[<-h.eL];exact(List.getElem?_map ..).trans (by rw[h.eL,hrt];rfl)
  rw[xh,this];rfl
 rw[e2]
 exact Dc sb db S (bm L-1) rt w hs (by rw[e];omega) hrt (by omega)
theorem r9(n:Nat)(note:ByteArray)(hB:(eDk db (kA n) fp).holds w)(hlt:∀k∈fp,k<w.heap.size)(hn:note.size<=60000):
  Calls Tryz.prog 20 #[po db 0,.string note] w (fun e w'=>e= .returned (.int .i64 0)/\∃fp',St w fp [eDk db (bgD n note) fp'] w'):=by
 refine(Af db (kA n) note fp w hB hlt (Nat.zero_le _) (by omega)).mono ?_
 rintro e w' ⟨rfl,fp',hs⟩
 rw[Kh n hn] at hs |-
 exact⟨rfl,fp',hs⟩
theorem wg(n:Nat)(note:ByteArray)(bufs:Int)(hB:(eDk db (bgD n note) fp).holds w)(hlt:∀k∈fp,k<w.heap.size)(hn:note.size<=60000)(hp:n<=400)(hb:1<=bufs/\bufs<=64):
  Calls Tryz.prog 18 #[po db 0,.int .i64 bufs] w (fun e w'=>∃sb,e= .returned (.tuple #[po sb 0,.int .i64 0])/\∃fp',St w fp [eNi sb db [aJ note] (fun _=>false) n 0 fp'] w'):=by
 have hf:=eR (cR hn)
 have hl:(bgD n note).log=ei [aJ note]:=(AF note).symm
 have hz:(bgD n note).log.size=(aC (aJ note)).size:=rfl
 have hL:∀r∈[aJ note],bv r=true:=fun r hr=>by rw[List.mem_singleton.1 hr];exact cR hn
 refine(C9 db (bgD n note) bufs [aJ note] ⟨#[]⟩ 0 fp w hB hlt (Lp hl) hL (Hq hl) (by omega) (Nat.le_refl _) (by show (List.replicate n _).length<= _;rw[List.length_replicate];exact hp) (fun x hx=>by rw[List.eq_of_mem_replicate hx];exact Nat.le_refl _) (by show 0+200*1<=900000;decide) (fun r hr h8=>by rw[List.mem_singleton.1 hr] at h8;cases h8)).mono ?_
 rintro e w' ⟨v,er,rfl,fp',hs⟩
 obtain⟨sb,S,rfl,rfl,hN,pR⟩:=St.opnN (L:=[]) hs hp hn hb
 exact⟨sb,rfl,fp',St.sx (L:=[]) pR hN.niceX⟩
end
theorem O1:rfD 2 [aJ nS] (fun _=>false) r1=(rfL [aJ nS] r1,3,0,rfT (fun _=>false) [aJ nS] r1):=by rw[qf Lw,O4];rfl
def t1:Int->Bool:=rfT (fun _=>false) [aJ nS] r1
def L1:List RecM:=rfL [aJ nS] r1
theorem ND:frF 2 L1 t1=0:=by decide+kernel
theorem NN:frF 2 L1 (frT 2 L1 t1)= -1:=by decide+kernel
theorem JB:xh L1=nS:=by decide+kernel
theorem Nv:pgC L1 2 1=(1,3,[]):=by rw[pgC,if_pos (by decide)];exact KW
section
variable{sb db c:Nat}{fp:List Nat}{w:World}
theorem LF(A:Option Addr)(rc:Nat)(hB:(eNi sb db [aJ nS] (fun _=>false) 2 0 fp).holds w)(hlt:∀k∈fp,k<w.heap.size)(hA:∀W,Upd fp w W->At W A (r1.eds.flatMap edC)):
  Calls Tryz.prog 17 #[po sb 0,.agg #[.int .i64 1,.int .i64 0,.int .i64 0,sn,sn,.slice A 1 rc,sn,.string ⟨#[]⟩]] w
   (fun e w'=>e= .returned (.tuple #[.int .i64 3,.int .i64 0])/\∃fp',St w fp [eNi sb db L1 t1 2 700 fp'] w'):=by
 have h:=AQ r1 A rc hB hlt (by decide) hA (by decide) (by decide) (by decide)
 rw[O1,Lw] at h
 exact h
theorem Hv(hB:(eNi sb db L1 t1 2 c fp).holds w)(hlt:∀k∈fp,k<w.heap.size)(hc:c<=800000):
  Calls Tryz.prog 21 #[po sb 0,.int .i64 1] w
   (fun e w'=>∃A cc,e= .returned (.tuple #[.agg #[.int .i64 1,.int .i64 3,.slice A 0 cc],.bool true])/\∃fp',St w fp [eNi sb db L1 t1 2 (c+3) fp',eO 9 1 (.slice A 0 cc) 0 []] w'):=by
 have h:=Ee 1 hB hlt hc (by constructor<;>decide)
 rw[Nv] at h
 exact h
theorem Dw(hB:(eNi sb db L1 t1 2 c fp).holds w)(hlt:∀k∈fp,k<w.heap.size)(hc:c<=800000):
  Calls Tryz.prog 22 #[po sb 0] w (fun e w'=>e= .returned (.int .i64 0)/\∃fp',St w fp [eNi sb db L1 (frT 2 L1 t1) 2 (c+7) fp'] w'):=by
 have h:=oZ hB hlt hc
 rw[ND] at h
 exact h
theorem DM(hB:(eNi sb db L1 (frT 2 L1 t1) 2 c fp).holds w)(hlt:∀k∈fp,k<w.heap.size)(hc:c<=800000):
  Calls Tryz.prog 22 #[po sb 0] w (fun e w'=>e= .returned (.int .i64 (-1))/\∃fp',St w fp [eNi sb db L1 (frT 2 L1 (frT 2 L1 t1)) 2 (c+7) fp'] w'):=by
 have h:=oZ hB hlt hc
 rw[NN] at h
 exact h
theorem HH(hB:(eNi sb db L1 told 2 c fp).holds w):Calls Tryz.prog 25 #[po sb 0] w (Ret (.string ⟨#[110]⟩) w):=by
 have h:=Di hB (by decide+kernel)
 rw[JB] at h
 exact h
theorem Ga(hB:(eNi sb db L1 told 2 c fp).holds w):Calls Tryz.prog 45 #[po sb 0] w (Ret (.int .i64 1) w):=by
 have h:=Dt hB
 rw[show bm L1=1 from Jm] at h
 exact h
end
end
section
open Go.RowKit
theorem Cc(w:World):
  Calls Tryz.prog 13 #[] w (Ret (.bool true) w):=by
 go_enter Tryz.func13,Tryz.ntmps13
 have al:=St.start w
 refine wq (sqr (sqp [.k 0 (.bool false)] ?_))
 refine aa (wq (sqr ?_))
 refine Cp (fun fC=>vp fC) (fun fC IB=>eDk fC (kA 2) IB) al (fun cx=>⟨_,(yn 2 _ (by decide)).mono (by rintro e W1 ⟨b4,rfl,fp4,aU⟩;exact⟨_,_,rfl,aU⟩),(ax (cx.co _))⟩) fun fC IB W2 bQ=>?_
 refine sqp [.m 1 9] ?_
 refine aa (wq (sqr (sqp [.m 10 1] ?_)))
 refine bN (fun X_=>X_.fp) (vi 0) (fun IC=>eDk fC (bgD 2 (⟨#[110]⟩:ByteArray)) IC) 0 bQ (by
   refine svA fun g b W X cx=>?_
   refine am.call (aq (args:=#[vp fC,.string ⟨#[110]⟩]) rfl cx.sees rfl (by kernel_rfl) (aP (cx.ou 10) (cx.co _))) ?_
   refine(r9 2 (⟨#[110]⟩:ByteArray) (CtxV.holdF cx (cx.init 0 _ rfl) rfl) (CtxV.ltF cx (cx.init 0 _ rfl) rfl) (by decide)).mono ?_
   rintro e W1 ⟨rfl,fp4,aU⟩
   refine⟨_,rfl,aN (E:=eDk fC (kA 2) IB) [eDk fC (bgD 2 (⟨#[110]⟩:ByteArray)) fp4] (cx.init 0 _ rfl) rfl rfl aU (fun d i X' hs hb hv hN=>?_)⟩
   have aK:=(hv 11 rfl).1;have aW:=(hv 11 rfl).2
   exact⟨aK.trans rfl,cJ ((List.cons.inj hN).1)⟩) fun IC W5 aR=>?_
 refine sqp [.m 2 11] ?_
 refine aa (wq (sqr (sqp [.m 13 1] ?_)))
 refine pi (fun x_=>pb (tg x_ 0)) (fun X_=>X_.fp) (fun ez=> .tuple #[vp ez,vi 0]) (fun ez IE=>eNi ez fC ([aJ (⟨#[110]⟩:ByteArray)]) (fun _=>false) 2 0 IE) 0 aR (by
   refine svA fun g b W X cx=>?_
   refine am.call (aq (args:=#[vp fC,vi 1]) rfl cx.sees rfl (by kernel_rfl) (aP (cx.ou 13) (cx.co _))) ?_
   refine(wg 2 (⟨#[110]⟩:ByteArray) 1 (CtxV.holdF cx (cx.init 0 _ rfl) rfl) (CtxV.ltF cx (cx.init 0 _ rfl) rfl) (by decide) (by decide) (by decide)).mono ?_
   rintro e W1 ⟨sb4,rfl,fp4,aU⟩
   refine⟨_,rfl,aN (E:=eDk fC (bgD 2 (⟨#[110]⟩:ByteArray)) IC) [eNi sb4 fC [aJ (⟨#[110]⟩:ByteArray)] (fun _=>false) 2 0 fp4] (cx.init 0 _ rfl) rfl rfl aU (fun d i X' hs hb hv hN=>?_)⟩
   have aK:=(hv 14 rfl).1;have aW:=(hv 14 rfl).2
   exact⟨aK.trans (by rw[aW];exact rfl),(by rw[aW];exact ft ((List.cons.inj hN).1))⟩) fun ez IE W8 dO=>?_
 refine sqp [.m 12 14,.k 15 (vp ez),.k 16 (vi 0),.m 3 15,.m 4 16] ?_
 refine aa (wq (wq (sqr (sqp [.m 17 2,.k 18 (.bool false),.k 19 (.bool false)] ?_))))
 refine dE 19 [20,21] rfl rfl ?_
 refine sqp [.m 20 4,.k 21 (.bool false)] ?_
 refine sqp [.k 22 (.bool false),.k 23 (.bool false)] ?_
 refine dE 23 [24,25] rfl rfl ?_
 refine sqp [.m 24 3] ?_
 refine sqv (.bool false) dO (by
   exact sv0 rfl rfl rfl rfl rfl (fun _ _ _ h=>h) fun g b W X cx=>by
    have P1:g (.tmp 24)=vp ez:=(cx.ou 24)
    simp[go_sem,cx.sees.const,P1]) fun w3 dH=>?_
 refine sqp [.k 26 (.bool false)] ?_
 refine aa (wcf rfl (wp_skip (aa (wq (sqr (sqp [.m 28 3] ?_))))))
 refine sqk (.agg #[vi 1,vi ((-1)),.string ((kS 1))]) dH (fun cx=>⟨_,yi 1 1 _ (by decide),(aP (cx.co _) (cx.co _))⟩) fun sd cM=>?_
 refine mJ 84 3 1 [vi 1,vi ((-1)),.string ((kS 1))] cM (@fun g b W X cx=>by have P2:g (.tmp 29)= .agg #[vi 1,vi ((-1)),.string ((kS 1))]:=(cx.ou 29);simp[go_sem,P2]) fun FJ w4 fy=>?_
 refine sqp [.k 31 (.agg #[vi 1,vi 0,vi 0,sn,sn,.slice ((some ⟨FJ,0,none⟩)) 1 1,sn,.string ByteArray.empty])] ?_
 refine bN (fun X_=>X_.fp) (.tuple #[vi 3,vi 0]) (fun C4=>eNi ez fC L1 t1 2 700 C4) 0 fy (by
   refine svA fun g b W X cx=>?_
   refine am.call (aq (args:=#[vp ez,.agg #[vi 1,vi 0,vi 0,sn,sn,.slice ((some ⟨FJ,0,none⟩)) 1 1,sn,.string ByteArray.empty]]) rfl cx.sees rfl (by kernel_rfl) (aP (cx.ou 28) (cx.ou 31))) ?_
   refine(LF _ _ (CtxV.holdF cx (cx.init 0 _ rfl) rfl) (CtxV.ltF cx (cx.init 0 _ rfl) rfl) (CtxV.keepAt cx (cx.init 1 _ rfl) (cx.init 0 _ rfl) rfl rfl (by decide))).mono ?_
   rintro e W1 ⟨rfl,fp4,aU⟩
   refine⟨_,rfl,aN (E:=eNi ez fC ([aJ (⟨#[110]⟩:ByteArray)]) (fun _=>false) 2 0 IE) [eNi ez fC L1 t1 2 700 fp4] (cx.init 0 _ rfl) rfl rfl aU (fun d i X' hs hb hv hN=>?_)⟩
   have aK:=(hv 32 rfl).1;have aW:=(hv 32 rfl).2
   exact⟨aK.trans rfl,ft ((List.cons.inj hN).1)⟩) fun C4 zb dU=>?_
 refine sqp [.m 27 32,.k 33 (vi 3),.k 34 (vi 0),.m 5 33,.m 6 34] ?_
 refine aa (wq (aH [0,1,3,7,7,0,47,127] [[],[0],[],[],[],[],[4]] [[],[2,3],[],[],[],[4],[5]] [[],[0],[],[],[],[],[4]] [.k 36 (vp ez),.a 37,.a 35,.a 38,.c 39 (.bool true),.a 7,.n,.k 8 (.bool true)] (fun ix d b X=>match ix with|0=>True|1=>d 37= .tuple #[.agg #[vi 1,vi 3,.slice (sA (tg (tg (b 37) 0) 2)) 0 (sC (tg (tg (b 37) 0) 2))],.bool true]/\X 2=eNi ez fC L1 t1 2 (700+3) ((X 2).fp)/\X 3=eO 9 1 (.slice (sA (tg (tg (b 37) 0) 2)) 0 (sC (tg (tg (b 37) 0) 2))) 0 ([])|2=>d 35= .tuple #[.agg #[vi 1,vi 3,.slice (sA (tg (tg (b 37) 0) 2)) 0 (sC (tg (tg (b 37) 0) 2))],.bool true]|3=>d 38= .agg #[vi 1,vi 3,.slice (sA (tg (tg (b 37) 0) 2)) 0 (sC (tg (tg (b 37) 0) 2))]|4=>True|5=>d 7=vp (pb (b 7))/\X 4=eB (pb (b 7)) 48 #[vi 0,vi 0,sn]|6=>X 5=eB (pb (b 7)) 48 #[vi 1,vi 3,.slice (sA (tg (tg (b 37) 0) 2)) 0 (sC (tg (tg (b 37) 0) 2))]|_=>True) [1,2,3,5] [1,2,3,4,5,6] [(7,5,3,9),(26,2,1,27),(0,0,2,2),(0,3,2,2)] dU ?_ ?_ ?_))
 exact fun ix _ _ _ _ _ _ hs hb hx h=>match ix,h with
 |1,h=>by dsimp only;rw[<-hs 37 rfl,<-hb 37 rfl,<-hx 2 rfl,<-hx 3 rfl];exact h
 |2,h=>by dsimp only;rw[<-hs 35 rfl,<-hb 37 rfl];exact h
 |3,h=>by dsimp only;rw[<-hs 38 rfl,<-hb 37 rfl];exact h
 |5,h=>by dsimp only;rw[<-hs 7 rfl,<-hb 7 rfl,<-hx 4 rfl];exact h
 |6,h=>by dsimp only;rw[<-hb 7 rfl,<-hb 37 rfl,<-hx 5 rfl];exact h
 |0,_|4,_|_+7,_=>trivial
 refine⟨?_,?_,?_,?_,?_,?_,trivial⟩
 refine svA fun g b W X cx=>?_
 refine am.call (aq (args:=#[vp ez,vi 1]) rfl cx.sees rfl (by kernel_rfl) (aP (cx.an 0) (cx.co _))) ?_
 refine(Hv (CtxV.holdF cx (cx.init 0 _ rfl) rfl) (CtxV.ltF cx (cx.init 0 _ rfl) rfl) (by decide)).mono ?_
 rintro e W1 ⟨A4,c4,rfl,fp4,aU⟩
 refine⟨_,rfl,aN (E:=eNi ez fC L1 t1 2 700 C4) [eNi ez fC L1 t1 2 (700+3) fp4,eO 9 1 (.slice A4 0 c4) 0 []] (cx.init 0 _ rfl) rfl rfl aU (fun d i X' hs hb hv hN=>?_)⟩
 have aK:=(hv 37 rfl).1;have aW:=(hv 37 rfl).2
 exact⟨aK.trans (by rw[aW];exact rfl),ft ((List.cons.inj hN).1),(by rw[aW];exact(List.cons.inj (List.cons.inj hN).2).1)⟩
 exact sv rfl rfl rfl rfl rfl _ (fun _ _ _ h=>h) (fun b i h=>by rw[h 37 (by decide)]) fun g b W X cx=>dn rfl (dTn (cx.an 1)).1
 exact sv rfl rfl rfl rfl rfl _ (fun _ _ _ h=>h) (fun b i h=>by rw[h 37 (by decide)]) fun g b W X cx=>b8 rfl (dTn (cx.an 2)) rfl
 exact xs4 rfl id fun cx=>b8 rfl (dTn (cx.an 2)) rfl
 refine svA fun g b W X cx=>?_
 exact dp (cs:=#[vi 0,vi 0,sn]) rfl (by kernel_rfl) rfl rfl (fun _ _ _ _ _=> .intro)
 refine svA fun g b W X cx=>?_
 exact bx (n:=3) rfl (dTn (cx.an 5)).1 (dTn (cx.an 3)) (by kernel_rfl) (by kernel_rfl) (by kernel_rfl) cx (dTn (cx.an 5)).2 rfl (nle rfl) (by kernel_rfl) rfl rfl rfl (fun d i X' hs hb hx=>by rw[hb 7,hb 37];exact hx)
 intro d b X uB hD dG fr aG
 obtain⟨Rj,re⟩:∃z,sA (tg (tg (b 37) 0) 2)=z:=⟨_,rfl⟩
 obtain⟨Rk,rj⟩:∃z,sC (tg (tg (b 37) 0) 2)=z:=⟨_,rfl⟩
 obtain⟨jh,tr⟩:∃z,pb (b 7)=z:=⟨_,rfl⟩
 have Ng:X 2= _:=(dTn (hD 1 lq)).2.1
 obtain⟨OH,zU⟩:∃z,(X 2).fp=z:=⟨_,rfl⟩
 rw[zU] at Ng
 clear zU
 simp only[Ng,exq 3 ((dTn (hD 1 lq)).2.2),exq 5 ((dTn (hD 6 lq))),re,rj,tr] at dG
 simp only[ed 37 ((dTn (hD 1 lq)).1),ed 35 ((dTn (hD 2 lq))),ed 38 ((dTn (hD 3 lq))),ed 7 ((dTn (hD 5 lq)).1),re,rj,tr] at aG
 clear hD Ng re rj tr;subst aG;clear d b X
 refine aa (wq (sqr (sqp [.m 40 5,.k 41 (.bool true),.k 42 (.bool true)] ?_)))
 refine dE 42 [43,44] rfl rfl ?_
 refine sqp [.m 43 6,.k 44 (.bool true)] ?_
 refine sqp [.k 45 (.bool true),.k 46 (.bool true)] ?_
 refine dE 46 [47] rfl rfl ?_
 refine sqp [.k 47 (.bool true)] ?_
 refine sqp [.k 48 (.bool true),.k 49 (.bool true)] ?_
 refine dE 49 [50,51,52] rfl rfl ?_
 refine sqp [.k 50 (vp jh)] ?_
 refine av 3 dG ?_
 refine sqp [.k 52 (.bool true)] ?_
 refine sqp [.k 53 (.bool true),.k 54 (.bool true)] ?_
 refine dE 54 [55,56,57] rfl rfl ?_
 refine sqp [.k 55 (po jh 1)] ?_
 refine av 3 dG ?_
 refine sqp [.k 57 (.bool true)] ?_
 refine sqp [.k 58 (.bool true),.k 59 (.bool true)] ?_
 refine dE 59 [60,61,62] rfl rfl ?_
 refine sqp [.m 60 3] ?_
 refine bN (fun X_=>X_.fp) (vi 0) (fun C5=>eNi ez fC L1 (frT 2 L1 t1) 2 ((700+3)+7) C5) 1 dG (by
   refine svA fun g b W X cx=>?_
   refine am.call (aq (args:=#[vp ez]) rfl cx.sees rfl (by kernel_rfl) (ax (cx.ou 60))) ?_
   refine(Dw (CtxV.holdF cx (cx.init 1 _ rfl) rfl) (CtxV.ltF cx (cx.init 1 _ rfl) rfl) (by decide)).mono ?_
   rintro e W1 ⟨rfl,fp4,aU⟩
   refine⟨_,rfl,aN (E:=eNi ez fC L1 t1 2 (700+3) OH) [eNi ez fC L1 (frT 2 L1 t1) 2 ((700+3)+7) fp4] (cx.init 1 _ rfl) rfl rfl aU (fun d i X' hs hb hv hN=>?_)⟩
   have aK:=(hv 61 rfl).1;have aW:=(hv 61 rfl).2
   exact⟨aK.trans rfl,ft ((List.cons.inj hN).1)⟩) fun C5 Mf ki=>?_
 refine sqp [.k 62 (.bool true)] ?_
 refine sqp [.k 63 (.bool true),.k 64 (.bool true)] ?_
 refine dE 64 [65,66,67] rfl rfl ?_
 refine sqp [.m 65 3] ?_
 refine bN (fun X_=>X_.fp) (vi ((-1))) (fun Jb=>eNi ez fC L1 (frT 2 L1 (frT 2 L1 t1)) 2 (((700+3)+7)+7) Jb) 1 ki (by
   refine svA fun g b W X cx=>?_
   refine am.call (aq (args:=#[vp ez]) rfl cx.sees rfl (by kernel_rfl) (ax (cx.ou 65))) ?_
   refine(DM (CtxV.holdF cx (cx.init 1 _ rfl) rfl) (CtxV.ltF cx (cx.init 1 _ rfl) rfl) (by decide)).mono ?_
   rintro e W1 ⟨rfl,fp4,aU⟩
   refine⟨_,rfl,aN (E:=eNi ez fC L1 (frT 2 L1 t1) 2 ((700+3)+7) C5) [eNi ez fC L1 (frT 2 L1 (frT 2 L1 t1)) 2 (((700+3)+7)+7) fp4] (cx.init 1 _ rfl) rfl rfl aU (fun d i X' hs hb hv hN=>?_)⟩
   have aK:=(hv 66 rfl).1;have aW:=(hv 66 rfl).2
   exact⟨aK.trans rfl,ft ((List.cons.inj hN).1)⟩) fun Jb Bs fo=>?_
 refine sqp [.k 67 (.bool ((-1)==(-1)))] ?_
 refine sqp [.k 68 (.bool ((-1)==(-1))),.m 69 68] ?_
 refine p8 69 [70,71,72] ?_ fo rfl (fun hq=>?_) fun Fj gG=>?_
 rotate_left
 refine sqp [.m 70 3] ?_
 refine sqk (.string ((⟨#[110]⟩:ByteArray))) fo (fun cx=>⟨_,HH (CtxV.holdF cx (cx.init 1 _ rfl) rfl),(ax (cx.ou 70))⟩) fun LZ nF=>?_
 refine sqp [.k 72 (.bool (((⟨#[110]⟩:ByteArray)).toList==((⟨#[110]⟩:ByteArray)).toList))] ?_
 exact sqE nF
 refine c8 ?_
 refine sqp [sPa 73 ((-1)==(-1)) (((⟨#[110]⟩:ByteArray)).toList==((⟨#[110]⟩:ByteArray)).toList),.m 74 73] ?_
 refine p8 74 [75,76,77] ?_ gG rfl (fun hq=>?_) fun IW hG=>?_
 rotate_left
 refine sqp [.m 75 3] ?_
 refine sqk (vi 1) gG (fun cx=>⟨_,Ga (CtxV.holdF cx (cx.init 1 _ rfl) rfl),(ax (cx.ou 75))⟩) fun OV rJ=>?_
 refine sqp [.k 77 (.bool true)] ?_
 exact sqE rJ
 refine c8 ?_
 refine sqp [sPa 78 (((-1)==(-1))&&(((⟨#[110]⟩:ByteArray)).toList==((⟨#[110]⟩:ByteArray)).toList)) true,.m 0 78] ?_
 refine aa (wp_ret ?_)
 refine bpr (.bool ((((-1)==(-1))&&(((⟨#[110]⟩:ByteArray)).toList==((⟨#[110]⟩:ByteArray)).toList))&&true)) (ai Tryz.results13 rpt) ?_
 exact Ret.of (by first|rfl|simp) hG.ext
end
section
open Go.RowKit
def bgS:ByteArray:=⟨#[98,101,103,117,110]⟩
end
section
open Go.RowKit
section
variable{sb db:Nat}{L:List RecM}{told:Int->Bool}{p c:Nat}{fp:List Nat}{w:World}{note:ByteArray}
end
theorem LJ{x:Int}(h:(Lit.int .u8 x).wf=true):0<=x/\x<=255:=by
 have h1:(decide (IntKind.u8.min<=x)&&decide (x<=IntKind.u8.max))=true:=h
 rw[Bool.and_eq_true,decide_eq_true_eq,decide_eq_true_eq] at h1
 have e1:IntKind.u8.min=0:=by decide
 have e2:IntKind.u8.max=255:=by decide
 rw[e1,e2] at h1
 exact h1
section
variable{sb db:Nat}{told:Int->Bool}{p c:Nat}{fp:List Nat}{w:World}
end
end
section
open Go.RowKit
structure ActT where
 what:Int
 page:Int
 slot:Int
 item:ByteArray
 QA:Option Addr
 qn:Nat
 qc:Nat
def acC(a:ActT):List Value:=[.int .u8 a.what,.int .i64 a.page,.int .i64 a.slot,.string a.item,.slice a.QA a.qn a.qc]
theorem me(a:ActT):(acC a).length=5:=rfl
structure ActOk (a:ActT):Prop where
 what:0<=a.what/\a.what<=255
 page: -9223372036854775808<=a.page/\a.page<=9223372036854775807
 slot: -9223372036854775808<=a.slot/\a.slot<=9223372036854775807
 item:a.item.size<=9223372036854775807
 q:(a.qn:Int)<=9223372036854775807
def pgA(a:ActT):Int:=if a.what<128 then (a.page.tmod 5+5) % 5 else a.page
def slA(a:ActT):Int:=(a.slot.tmod 26+26) % 26-1
def it0(a:ActT):ByteArray:=a.item.extract 0 (min (a.item.size:Int) 401).toNat
def itA(a:ActT):ByteArray:=if slA a<0 then strOfNums [((it0 a).size:Int) % 4] else it0 a
def eK(a:ActT):List EdT:=if a.what % 2=1 then [((a.slot.tmod 5+5) % 5,-1,kS (1+a.qn % 2)),(pgA a,slA a,itA a)] else [(pgA a,slA a,itA a)]
theorem yf(a:ActT):(it0 a).size<=401:=by rw[it0,ByteArray.size_extract];omega
theorem Hb(a:ActT):(itA a).size<=401:=by
 unfold itA
 split
 rw[strOfNums_size];exact(by decide:1<=401)
 exact yf a
theorem yu(a:ActT):(eK a).length<=2:=by unfold eK;split<;>simp
theorem wR(a:ActT):∀e∈eK a,e.2.2.size<=9223372036854775807:=fun e he=>by
 have h1:=Hb a
 unfold eK at he
 split at he
 rcases List.mem_cons.1 he with rfl|he
 exact(by decide:1<=9223372036854775807)
 rw[List.mem_singleton.1 he];show (itA a).size<= _;omega
 rw[List.mem_singleton.1 he];show (itA a).size<= _;omega
theorem Ls(p:Int)(q:Nat)(w:World):Calls Tryz.prog 42 #[.int .i64 p,.int .i64 (1+(q:Int) % 2)] w (Ret (.agg #[.int .i64 p,.int .i64 (-1),.string (kS (1+q % 2))]) w):=by
 have h:=yi p (1+q % 2) w (by omega)
 rw[show ((1+q % 2:Nat):Int)=1+(q:Int) % 2 by omega] at h;exact h
def KP(a:ActT)(w:World)(e:Ending)(w':World):Prop:=∃A c,e= .returned (.slice A (eK a).length c)/\w'.ownsRow w.heap.size 84 3 (.slice A (eK a).length c) (eK a).length ((eK a).flatMap edC)/\Ext w w'
theorem BH(a:ActT)(w:World)(ha:ActOk a):
  Calls Tryz.prog 76 #[.agg #[.int .u8 a.what,.int .i64 a.page,.int .i64 a.slot,.string a.item,.slice a.QA a.qn a.qc]] w (KP a w):=by
 obtain⟨hw,hpg,hsl,hit,hq⟩:=ha
 have Qg:=Int.lt_tmod_of_pos a.page (b:=5) (by decide)
 have Tf:=Int.tmod_lt_of_pos a.page (b:=5) (by decide)
 have eX:=Int.lt_tmod_of_pos a.slot (b:=5) (by decide)
 have hs5b:=Int.tmod_lt_of_pos a.slot (b:=5) (by decide)
 have fe:=Int.lt_tmod_of_pos a.slot (b:=26) (by decide)
 have hs26b:=Int.tmod_lt_of_pos a.slot (b:=26) (by decide)
 go_enter Tryz.func76,Tryz.ntmps76
 have al:=St.start w
 refine wq (sqr ?_)
 refine ce #[.int .u8 a.what,vi a.page,vi a.slot,.string a.item,.slice a.QA a.qn a.qc] al fun aB W1 aA=>?_
 refine sqp [.k 2 (sn)] ?_
 refine aa (wq (sqr (sqp [.k 7 (po aB 1)] ?_)))
 refine av 0 aA ?_
 refine sqp [.m 3 8] ?_
 refine aa ?_
 refine kC (fun t_ az W=>∃pg:Int,pg=pgA a/\az=⟨(ovr (jv az) [(3,3,0,[vi pg]),(5,9,8,[])] t_).toArray,[]⟩/\St w [] [eB aB 60 #[.int .u8 a.what,vi a.page,vi a.slot,.string a.item,.slice a.QA a.qn a.qc]] W) ?_ ?_
 refine wq (sqr (sqp [.k 9 (vp aB)] ?_))
 refine av 0 aA ?_
 refine sqp [.k 11 (.bool (decide (a.what<128)))] ?_
 refine aa (wds (fun kI pG=>?_) fun kI pG=>?_)
 refine sqr (sqp [.k 12 (po aB 1)] ?_)
 refine av 0 aA ?_
 refine sqp [sRe 14 .i64 a.page 5 (a.page.tmod 5) (rfl),sI 15 ((a.page.tmod 5)+5) (by omega),sRe 16 .i64 (a.page.tmod 5+5) 5 ((a.page.tmod 5+5) % 5) (Int.tmod_eq_emod_of_nonneg (by omega)),.m 3 16] ?_
 refine aa ?_
 exact⟨(a.page.tmod 5+5) % 5,(by rw[pgA,if_pos (by have h_:=kI;simpa using h_)]),(by kernel_rfl),aA.pk [0]⟩
 refine wp_skip (aa ?_)
 exact⟨a.page,(by rw[pgA,if_neg (by have h_:=kI;simpa using h_)]),(by kernel_rfl),aA.pk [0]⟩
 rintro a6 W6 ⟨pg,hpgA,hj_,bI⟩
 refine ovz hj_ fun T2=>?_
 refine wq (sqr (sqp [.k 17 (po aB 2)] ?_))
 refine av 0 bI ?_
 refine sqp [sRe 19 .i64 a.slot 26 (a.slot.tmod 26) (rfl),sI 20 ((a.slot.tmod 26)+26) (by omega),sRe 21 .i64 (a.slot.tmod 26+26) 26 ((a.slot.tmod 26+26) % 26) (Int.tmod_eq_emod_of_nonneg (by omega)),sI 22 (((a.slot.tmod 26+26) % 26)-1) (by omega),.m 4 22] ?_
 refine aa (wq (sqr (sqp [.k 23 (po aB 3)] ?_)))
 refine av 0 bI ?_
 refine sqp [.k 25 (po aB 3)] ?_
 refine av 0 bI ?_
 refine sqp [.k 27 (vi ((a.item.size:Int)))] ?_
 refine sql (vi (min (a.item.size:Int) 401)) bI (fun cx=>jE rfl (cx.ou 27) (cx.co _) (rfl)) ?_
 refine sql (.string (a.item.extract 0 ((min (a.item.size:Int) 401).toNat))) bI (fun cx=>fc (l:=(min (a.item.size:Int) 401).toNat) rfl (by kernel_rfl) (cx.ou 24) (cx.ou 28) (by omega) (by omega)) ?_
 refine sqp [.m 5 29] ?_
 refine aa ?_
 refine kC (fun t_ az W=>∃it:ByteArray,it=itA a/\az=⟨(ovr (jv az) [(5,5,0,[.string it]),(24,30,8,[])] t_).toArray,[]⟩/\St w [] [eB aB 60 #[.int .u8 a.what,vi a.page,vi a.slot,.string a.item,.slice a.QA a.qn a.qc]] W) ?_ ?_
 refine wq ?_
 obtain⟨s0,OZ⟩:∃z,a.item.extract 0 ((min (a.item.size:Int) 401).toNat)=z:=⟨_,rfl⟩
 have hs0a:it0 a=s0:=OZ
 have hs0z:s0.size<=401:=hs0a ▸ yf a
 simp only[OZ]
 refine sqr (sqp [.m 30 4,.k 31 (.bool (decide ((a.slot.tmod 26+26) % 26-1<0)))] ?_)
 refine aa (wds (fun zL CZ=>?_) fun zL CZ=>?_)
 refine sqr (sqp [.m 32 5,.k 33 (vi ((s0.size:Int))),sRe 34 .i64 (s0.size:Int) 4 ((s0.size:Int) % 4) (Int.tmod_eq_emod_of_nonneg (by omega)),sW 35 .u8 ((s0.size:Int) % 4) ((s0.size:Int) % 4) (IntWalk.u8_in _ (by omega))] ?_)
 refine ej (fun x_=>sA x_) (fun vo=> .slice vo 1 1) (fun vo=>eO 5 1 (.slice vo 1 1) 1 ([.int .u8 ((s0.size:Int) % 4)])) bI (by
   refine svA fun d g W X cx=>?_
   have It:d (.tmp 35)= .int .u8 ((s0.size:Int) % 4):=(cx.ou 35)
   exact du (e:=5) (xs:=[.int .u8 ((s0.size:Int) % 4)]) rfl (by simp[go_sem,It]) rfl (by decide) rfl rfl (fun _ _ _ _ _=> .intro)) fun vo se dz=>?_
 refine sql (.string (strOfNums ([((s0.size:Int) % 4)]))) dz (fun cx=>la (e:=5) rfl (by kernel_rfl) (by kernel_rfl) (by kernel_rfl) (cx.ou 36) (cx.ri 1 rfl)) ?_
 refine sqp [.m 5 37] ?_
 refine aa ?_
 exact⟨strOfNums ([((s0.size:Int) % 4)]),(by rw[itA,if_pos (by have h_:=zL;simpa[slA] using h_),hs0a]),(by kernel_rfl),dz.pk [0]⟩
 refine wp_skip (aa ?_)
 exact⟨s0,(by rw[itA,if_neg (by have h_:=zL;simpa[slA] using h_),hs0a]),(by kernel_rfl),bI.pk [0]⟩
 rintro a32 y7 ⟨it,hitA,hj_,dc⟩
 refine ovz hj_ fun H3=>?_
 refine wq (sqr (sqp [.m 38 3,.m 39 4,.m 40 5,.k 41 (.agg #[vi pg,vi ((a.slot.tmod 26+26) % 26-1),.string it])] ?_))
 refine mJ 84 3 1 [vi pg,vi ((a.slot.tmod 26+26) % 26-1),.string it] dc (@fun d g W X cx=>by have zf:d (.tmp 41)= .agg #[vi pg,vi ((a.slot.tmod 26+26) % 26-1),.string it]:=(cx.ou 41);simp[go_sem,zf]) fun Nh LR gr=>?_
 refine sqp [.m 6 42] ?_
 refine aa (wq (wq (sqr (sqp [.k 43 (vp aB)] ?_))))
 refine av 0 gr ?_
 refine sqp [sRe 45 .u8 a.what 2 (a.what % 2) (Int.tmod_eq_emod_of_nonneg (by omega)),.k 46 (.bool ((a.what % 2)==1))] ?_
 refine aa (wbs (fun zV=>?_) fun zV=>?_)
 have OI:=beq_iff_eq.1 zV
 refine sqr (sqp [.k 47 (po aB 2)] ?_)
 refine av 0 gr ?_
 refine sqp [sRe 49 .i64 a.slot 5 (a.slot.tmod 5) (rfl),sI 50 ((a.slot.tmod 5)+5) (by omega),sRe 51 .i64 (a.slot.tmod 5+5) 5 ((a.slot.tmod 5+5) % 5) (Int.tmod_eq_emod_of_nonneg (by omega)),.k 52 (po aB 4)] ?_
 refine av 0 gr ?_
 refine sqp [.k 54 (vi ((a.qn:Int))),sRe 55 .i64 (a.qn:Int) 2 ((a.qn:Int) % 2) (Int.tmod_eq_emod_of_nonneg (by omega)),sI 56 (1+((a.qn:Int) % 2)) (by omega)] ?_
 refine sqk (.agg #[vi ((a.slot.tmod 5+5) % 5),vi ((-1)),.string ((kS (1+a.qn % 2)))]) gr (fun cx=>⟨_,Ls ((a.slot.tmod 5+5) % 5) a.qn _,(aP (cx.ou 51) (cx.ou 56))⟩) fun I5 gI=>?_
 refine mJ 84 3 1 [vi ((a.slot.tmod 5+5) % 5),vi ((-1)),.string ((kS (1+a.qn % 2)))] gI (@fun d g W X cx=>by have P3:d (.tmp 57)= .agg #[vi ((a.slot.tmod 5+5) % 5),vi ((-1)),.string ((kS (1+a.qn % 2)))]:=(cx.ou 57);simp[go_sem,P3]) fun Rl L6 nG=>?_
 refine sqp [.m 59 6] ?_
 refine vE 2 (([((a.slot.tmod 5+5) % 5,(-1:Int),kS (1+a.qn % 2)),(pg,slA a,it)]:List EdT).flatMap edC) 2 nG Tryz.infoEdJ (fun cx=>(At.of_ownN (cx.ri 1 rfl))) (jM:=(by rfl)) fun Ni Nj OQ pB=>?_
 refine sqp [.m 6 60] ?_
 refine aa (wq (sqr (sqp [.m 61 6,.m 2 61] ?_)))
 refine aa (wp_ret ?_)
 refine bpr (.slice Ni 2 Nj) (ai Tryz.results76 rpt) ?_
 have hE_:eK a=([((a.slot.tmod 5+5) % 5,(-1:Int),kS (1+a.qn % 2)),(pg,slA a,it)]:List EdT):=by rw[eK,if_pos (by have h_:=zV;simpa using h_),<-hpgA,<-hitA]
 exact⟨_,_,by rw[hE_];rfl,by rw[hE_];exact pB.own' 2 rfl,pB.ext⟩
 have OI:=beq_eq_false_iff_ne.1 zV
 refine wp_skip (aa (wq (sqr (sqp [.m 61 6,.m 2 61] ?_))))
 refine aa (wp_ret ?_)
 refine bpr (.slice ((some ⟨Nh,0,none⟩)) 1 1) (ai Tryz.results76 rpt) ?_
 have hE_:eK a=([(pg,slA a,it)]:List EdT):=by rw[eK,if_neg (by have h_:=zV;simpa using h_),<-hpgA,<-hitA]
 exact⟨_,_,by rw[hE_];rfl,by rw[hE_];exact gr.own' 1 rfl,gr.ext⟩
end
section
open Go.RowKit
def wdL(xb:Nat)(bufs safe:Int)(db sb rb:Nat)(L:List RecM)(told:Int->Bool)(c:Nat)(fps fpr:List Nat):List Ent:=[eB xb 34 #[vp db,vp sb,vp rb,vi bufs,vi safe],eNi sb db L told 5 c fps,eRf rb L told 5 fpr]
def eWd(xb:Nat)(bufs:Int)(L:List RecM)(told:Int->Bool)(c:Nat)(fp:List Nat):Ent:=⟨fp,fun W=>∃safe db sb rb fps fpr,fp=(wdL xb bufs safe db sb rb L told c fps fpr).flatMap (·.fp)/\(wdL xb bufs safe db sb rb L told c fps fpr).Pairwise Ent.apart/\∀e∈wdL xb bufs safe db sb rb L told c fps fpr,e.holds W/\e.loc⟩
theorem Bc(xb:Nat)(bufs:Int)(L:List RecM)(told:Int->Bool)(c:Nat)(fp:List Nat):(eWd xb bufs L told c fp).loc:=fun W W' hk h=>by
 obtain⟨safe,db,sb,rb,fps,fpr,h1,h2,h3⟩:=h
 exact⟨safe,db,sb,rb,fps,fpr,h1,h2,fun e he=>⟨(h3 e he).2 W W' (fun k hk'=>hk k (by rw[eWd,h1];exact List.mem_flatMap.2 ⟨e,he,hk'⟩)) (h3 e he).1,(h3 e he).2⟩⟩
theorem xI{xb:Nat}(h:e=eWd xb bufs L told c fp):e=eWd xb bufs L told c e.fp:=by subst h;rfl
section
variable{w0 W:World}{bor:List Nat}{R:List Ent}{xb:Nat}{bufs safe:Int}{db sb rb:Nat}{L:List RecM}{told:Int->Bool}{c:Nat}{fp fps fpr:List Nat}
theorem St.unwd(h:St w0 bor (eWd xb bufs L told c fp::R) W):∃safe db sb rb fps fpr,St w0 bor (eB xb 34 #[vp db,vp sb,vp rb,vi bufs,vi safe]::eNi sb db L told 5 c fps::eRf rb L told 5 fpr::R) W:=by
 obtain⟨safe,db,sb,rb,fps,fpr,h1,h2,h3⟩:=(h.ok (eWd xb bufs L told c fp) (by simp)).holds
 exact⟨safe,db,sb,rb,fps,fpr,((h.perm (List.perm_append_singleton _ R).symm).unpackL h1 h3 h2).perm List.perm_append_comm⟩
theorem St.wd(h:St w0 bor (eB xb 34 #[vp db,vp sb,vp rb,vi bufs,vi safe]::eNi sb db L told 5 c fps::eRf rb L told 5 fpr::R) W):∃fp,St w0 bor (eWd xb bufs L told c fp::R) W:=by
 have h':St w0 bor (R++wdL xb bufs safe db sb rb L told c fps fpr) W:=h.perm (List.perm_append_comm (l₁:=[_,_,_]))
 have h4:=St.pack (E:=eWd xb bufs L told c ((wdL xb bufs safe db sb rb L told c fps fpr).flatMap (·.fp))) h' rfl ⟨safe,db,sb,rb,fps,fpr,rfl,(List.pairwise_append.1 h'.apart).2.1,fun e he=>⟨(h'.ok e (List.mem_append_right _ he)).holds,(h'.ok e (List.mem_append_right _ he)).loc⟩⟩ (Bc _ _ _ _ _ _)
 exact⟨_,h4.perm (List.perm_append_singleton _ _)⟩
end
theorem F1{c2:Nat}(h:(eNi sb db L told p c fp).holds W)(hc:c<=c2):(eNi sb db L told p c2 fp).holds W:=let ⟨S,a,b⟩:=h;⟨S,NiceX.mono a hc,b⟩
theorem St.wdm{R:List Ent}{xb:Nat}{c2:Nat}{fp:List Nat}(h:St w0 bor (eWd xb bufs L told c fp::R) W)(hc:c<=c2):∃fp,St w0 bor (eWd xb bufs L told c2 fp::R) W:=by
 obtain⟨safe,db,sb,rb,fps,fpr,h1⟩:=h.unwd
 have h2:=St.repl (L1:=[eB xb 34 #[vp db,vp sb,vp rb,vi bufs,vi safe]]) (E':=eNi sb db L told 5 c2 fps) h1 rfl (fun h=>F1 h hc) (AU _ _ _ _ _ _ _)
 exact St.wd h2
theorem mh(hB:(eNi sb db L told p c fp).holds w):Calls Tryz.prog 59 #[po db 0] w (Ret (.bool true) w):=by
 obtain⟨S,h,mb,RA,rc,EA,ec,ib,tb,hs⟩:=ya hB
 have h1:=mj db S.D w hs.dk
 rw[h.on] at h1;exact h1
theorem Nz{L:List RecM}(hB:(eNi sb db L told p c fp).holds w):(∀r∈L,bv r=true)/\szF L<=1048576:=by
 obtain⟨S,h,_⟩:=hB
 have e:=h.ok.log
 have z:=h.ok.lsz
 rw[e,ck,h.eL] at z
 exact⟨fun r hr=>h.ok.recs r (h.eL ▸ hr),z⟩
def ntA(a:ActT):ByteArray:=a.item.extract 0 (min (a.item.size:Int) 50).toNat
theorem GX(a:ActT):(ntA a).size<=50:=by rw[ntA,ByteArray.size_extract];omega
def dw(a:ActT):RecM:=⟨1,a.page % 128,0,eK a,⟨#[]⟩⟩
noncomputable def gR(s:List RecM×(Int->Bool))(a:ActT):List RecM×(Int->Bool):=
 if a.what % 10<=3 then ((rfD 5 s.1 s.2 (dw a)).1,(rfD 5 s.1 s.2 (dw a)).2.2.2) else if a.what % 10=4 then (s.1,frT 5 s.1 s.2) else if a.what % 10<=6 then s else (ckL s.1 (ntA a),s.2)
theorem BD(xb:Nat)(bufs:Int)(w:World)(hB:(eB xb 34 #[.pointer none,.pointer none,.pointer none,.int .i64 0,.int .i64 0]).holds w)(hlt:xb<w.heap.size)(hb:1<=bufs/\bufs<=64):
  Calls Tryz.prog 14 #[po xb 0,.int .i64 bufs] w ((fun e w2=>e= .returned (.bool true)/\∃fp2,St w [xb] [eWd xb bufs [aJ bgS] (fun _=>false) 0 fp2] w2)):=by
 have st1:St w [xb] [eB xb 34 #[.pointer none,.pointer none,.pointer none,.int .i64 0,.int .i64 0]] w:=St.lend hB (d7 _ _ _) (fun k hk=>by rw[List.mem_singleton.1 hk];exact hlt)
 go_enter Tryz.func14,Tryz.ntmps14
 have al:=st1
 refine wq (sqr (sqp [.k 4 (.bool false)] ?_))
 refine aa (wq (sqr (sqp [.m 8 0] ?_)))
 refine Cp (fun iY=>vp iY) (fun iY IF=>eDk iY (kA 5) IF) al (fun cx=>⟨_,(yn 5 _ (by decide)).mono (by rintro e W1 ⟨b4,rfl,fp4,aU⟩;exact⟨_,_,rfl,aU⟩),(ax (cx.co _))⟩) fun iY IF W3 bc=>?_
 refine sqp [.k 10 (vp xb),.k 11 (vp xb)] ?_
 refine aV (n:=1) 0 #[vp iY,.pointer none,.pointer none,vi 0,vi 0] bc fun W6 bI=>?_
 refine aa (wq (sqr (sqp [.m 12 0,.m 13 1,.k 14 (vp xb),.k 15 (po xb 3)] ?_)))
 refine aV (n:=1) 0 #[vp iY,.pointer none,.pointer none,vi bufs,vi 0] bI fun Bq fi=>?_
 refine aa (wq (sqr (sqp [.m 16 0,.k 17 (vp xb),.k 18 (vp xb)] ?_)))
 refine av 0 fi ?_
 refine bN (fun X_=>X_.fp) (vi 0) (fun C6=>eDk iY (bgD 5 (⟨#[98,101,103,117,110]⟩:ByteArray)) C6) 1 fi (by
   refine svA fun a b W X cx=>?_
   refine am.call (aq (args:=#[vp iY,.string ⟨#[98,101,103,117,110]⟩]) rfl cx.sees rfl (by kernel_rfl) (aP (cx.ou 19) (cx.co _))) ?_
   refine(r9 5 (⟨#[98,101,103,117,110]⟩:ByteArray) (CtxV.holdF cx (cx.init 1 _ rfl) rfl) (CtxV.ltF cx (cx.init 1 _ rfl) rfl) (by decide)).mono ?_
   rintro e W1 ⟨rfl,fp4,aU⟩
   refine⟨_,rfl,aN (E:=eDk iY (kA 5) IF) [eDk iY (bgD 5 (⟨#[98,101,103,117,110]⟩:ByteArray)) fp4] (cx.init 1 _ rfl) rfl rfl aU (fun d g X' hs hb hv hN=>?_)⟩
   have aK:=(hv 20 rfl).1;have aW:=(hv 20 rfl).2
   exact⟨aK.trans rfl,cJ ((List.cons.inj hN).1)⟩) fun C6 pU dl=>?_
 refine sqp [.m 5 20] ?_
 refine aa (wq (sqr (sqp [.m 22 0,.k 23 (vp xb),.k 24 (vp xb)] ?_)))
 refine av 0 dl ?_
 refine sqp [.m 26 1] ?_
 refine pi (fun x_=>pb (tg x_ 0)) (fun X_=>X_.fp) (fun ko=> .tuple #[vp ko,vi 0]) (fun ko vj=>eNi ko iY ([aJ (⟨#[98,101,103,117,110]⟩:ByteArray)]) (fun _=>false) 5 0 vj) 1 dl (by
   refine svA fun a b W X cx=>?_
   refine am.call (aq (args:=#[vp iY,vi bufs]) rfl cx.sees rfl (by kernel_rfl) (aP (cx.ou 25) (cx.ou 26))) ?_
   refine(wg 5 (⟨#[98,101,103,117,110]⟩:ByteArray) bufs (CtxV.holdF cx (cx.init 1 _ rfl) rfl) (CtxV.ltF cx (cx.init 1 _ rfl) rfl) (by decide) (by decide) hb).mono ?_
   rintro e W1 ⟨sb4,rfl,fp4,aU⟩
   refine⟨_,rfl,aN (E:=eDk iY (bgD 5 (⟨#[98,101,103,117,110]⟩:ByteArray)) C6) [eNi sb4 iY [aJ (⟨#[98,101,103,117,110]⟩:ByteArray)] (fun _=>false) 5 0 fp4] (cx.init 1 _ rfl) rfl rfl aU (fun d g X' hs hb hv hN=>?_)⟩
   have aK:=(hv 27 rfl).1;have aW:=(hv 27 rfl).2
   exact⟨aK.trans (by rw[aW];exact rfl),(by rw[aW];exact ft ((List.cons.inj hN).1))⟩) fun ko vj uF cG=>?_
 refine sqp [.m 21 27,.k 28 (vp ko),.k 29 (vi 0),.m 6 28,.m 7 29] ?_
 refine aa (wq (sqr (sqp [.m 30 0,.m 31 6,.k 32 (vp xb),.k 33 (po xb 1)] ?_)))
 refine aV (n:=1) 0 #[vp iY,vp ko,.pointer none,vi bufs,vi 0] cG fun OM rG=>?_
 refine aa (wq (sqr (sqp [.m 34 0] ?_)))
 refine Cp (fun oN=>vp oN) (fun oN Jc=>eRf oN ([aJ bgS]) (fun _=>false) 5 Jc) rG (fun cx=>⟨_,(BU bgS _ (by decide)).mono (by rintro e W1 ⟨b4,rfl,fp4,aU⟩;exact⟨_,_,rfl,aU⟩),(aP (cx.co _) (cx.co _))⟩) fun oN Jc y3 ew=>?_
 refine sqp [.k 36 (vp xb),.k 37 (po xb 2)] ?_
 refine aV (n:=1) 0 #[vp iY,vp ko,vp oN,vi bufs,vi 0] ew fun Fl iG=>?_
 refine aa (wq (sqr (sqp [.m 38 0,.k 39 (vp xb),.k 40 (po xb 4)] ?_)))
 refine aV (n:=1) 0 #[vp iY,vp ko,vp oN,vi bufs,vi 1] iG fun uE fk=>?_
 refine aa (wq (sqr (sqp [.m 41 5,.k 42 (.bool true),.k 43 (.bool true)] ?_)))
 refine dE 43 [44,45] rfl rfl ?_
 refine sqp [.m 44 7,.k 45 (.bool true)] ?_
 refine sqp [.k 46 (.bool true),.k 47 (.bool true)] ?_
 refine dE 47 [48,49] rfl rfl ?_
 refine sqp [.m 48 6] ?_
 refine sqv (.bool true) fk (by
   exact sv0 rfl rfl rfl rfl rfl (fun _ _ _ h=>h) fun a b W X cx=>by
    have Ie:a (.tmp 48)=vp ko:=(cx.ou 48)
    simp[go_sem,cx.sees.const,Ie]) fun IP kT=>?_
 refine sqp [.k 50 (.bool true),.k 4 (.bool true)] ?_
 refine aa (wp_ret ?_)
 refine bpr (.bool true) (ai Tryz.results14 rpt) ?_
 obtain⟨fw54_,hw54_⟩:=St.wd kT
 exact⟨rfl,_,hw54_⟩
end
section
open Go.RowKit
theorem D4{fp:List Nat}(h:0<=n/\n<(p:Int))(hB:(eNi sb db L told p c fp).holds w)(hlt:∀k∈fp,k<w.heap.size)(hc:c<=800000):
  Calls Tryz.prog 79 #[po sb 0,.int .i64 n] w (fun e w'=>e= .returned (.int .i64 0)/\∃fp',St w fp [eNi sb db L told p (c+4) fp'] w'):=by
 have hp:(p:Int)<=400:=by obtain⟨S,hN,_⟩:=hB;have:=hN.ok.pgs;rw[hN.ep] at this;omega
 have h1:=uv n hB hlt hc (by constructor<;>omega)
 rw[if_pos h] at h1;exact h1
theorem Cn{fp:List Nat}(hn: -100<=n/\n<=100)(h:¬(0<=n/\n<(p:Int)))(hB:(eNi sb db L told p c fp).holds w)(hlt:∀k∈fp,k<w.heap.size)(hc:c<=800000):
  Calls Tryz.prog 79 #[po sb 0,.int .i64 n] w (fun e w'=>e= .returned (.int .i64 22)/\∃fp',St w fp [eNi sb db L told p (c+4) fp'] w'):=by
 have h1:=uv n hB hlt hc (by constructor<;>omega)
 rw[if_neg h] at h1;exact h1
theorem JJ(xb:Nat)(bufs:Int)(L:List RecM)(told:Int->Bool)(c:Nat)(a:ActT)(fp:List Nat)(w:World)(hB:(eWd xb bufs L told c fp).holds w)(hlt:∀k∈fp,k<w.heap.size)(ha:ActOk a)(hc:c<=700000)(hwh:a.what % 10<8):
  Calls Tryz.prog 30 #[po xb 0,.agg #[.int .u8 a.what,.int .i64 a.page,.int .i64 a.slot,.string a.item,.slice a.QA a.qn a.qc]] w ((fun e w2=>e= .returned (.bool true)/\∃fp2,St w fp [eWd xb bufs (gR (L,told) a).1 (gR (L,told) a).2 (c+700) fp2] w2)):=by
 have st1:St w fp [eWd xb bufs L told c fp] w:=St.lend hB (Bc _ _ _ _ _ _) hlt
 obtain⟨hw,hpg,hsl,hit,hq⟩:=id ha
 have hc:c<=800000:=by omega
 have T3:=Int.lt_tmod_of_pos a.page (b:=7) (by decide)
 have Tg:=Int.tmod_lt_of_pos a.page (b:=7) (by decide)
 go_enter Tryz.func30,Tryz.ntmps30
 have al:=st1
 refine wq (sqr ?_)
 refine ce #[.int .u8 a.what,vi a.page,vi a.slot,.string a.item,.slice a.QA a.qn a.qc] al fun cT W1 aA=>?_
 refine sqp [.k 4 (.bool false)] ?_
 refine aa (wq (wq ?_))
 obtain⟨safe,db,sb,rb,fps,fpr,hw3_⟩:=aA.unwd
 obtain⟨hL,hz⟩:=Nz (hw3_.get 1 rfl).holds
 refine sqr (sqp [.k 17 (vp cT)] ?_)
 refine av 3 hw3_ ?_
 refine sqp [sRe 19 .u8 a.what 10 (a.what % 10) (Int.tmod_eq_emod_of_nonneg (by omega))] ?_
 refine aa (wp_block ?_)
 refine kC (fun t_ az W=>∃b30:Bool,b30=decide (a.what % 10<=3)/\az=⟨(ovr (jv az) [(30,30,0,[.bool b30]),(0,31,4,[])] t_).toArray,[]⟩/\St w fp [eB xb 34 #[vp db,vp sb,vp rb,vi bufs,vi safe],eNi sb db L told 5 c fps,eRf rb L told 5 fpr,eB cT 60 #[.int .u8 a.what,vi a.page,vi a.slot,.string a.item,.slice a.QA a.qn a.qc]] W) ?_ ?_
 refine wq (sqr (sqp [.k 31 (.bool ((a.what % 10)==0)),.m 30 31] ?_))
 refine aa (wbs (fun kI=>?_) fun kI=>?_)
 have pG:=beq_iff_eq.1 kI
 refine wp_skip (aa ?_)
 exact⟨(a.what % 10)==0,(by rw[Bool.eq_iff_iff];simp only[beq_iff_eq,decide_eq_true_eq];omega),(by kernel_rfl),hw3_.pk [0,1,2,3]⟩
 have pG:=beq_eq_false_iff_ne.1 kI
 refine wq (sqr (sqp [.k 32 (.bool ((a.what % 10)==1)),.m 30 32] ?_))
 refine aa (wbs (fun f9=>?_) fun f9=>?_)
 have jf:=beq_iff_eq.1 f9
 refine wp_skip (aa ?_)
 exact⟨(a.what % 10)==1,(by rw[Bool.eq_iff_iff];simp only[beq_iff_eq,decide_eq_true_eq];omega),(by kernel_rfl),hw3_.pk [0,1,2,3]⟩
 have jf:=beq_eq_false_iff_ne.1 f9
 refine wq (sqr (sqp [.k 33 (.bool ((a.what % 10)==2)),.m 30 33] ?_))
 refine aa (wbs (fun dj=>?_) fun dj=>?_)
 have ma:=beq_iff_eq.1 dj
 refine wp_skip (aa ?_)
 exact⟨(a.what % 10)==2,(by rw[Bool.eq_iff_iff];simp only[beq_iff_eq,decide_eq_true_eq];omega),(by kernel_rfl),hw3_.pk [0,1,2,3]⟩
 have ma:=beq_eq_false_iff_ne.1 dj
 refine sqr (sqp [.k 34 (.bool ((a.what % 10)==3)),.m 30 34] ?_)
 refine aa ?_
 exact⟨(a.what % 10)==3,(by rw[Bool.eq_iff_iff];simp only[beq_iff_eq,decide_eq_true_eq];omega),(by kernel_rfl),hw3_.pk [0,1,2,3]⟩
 rintro a7 W7 ⟨b30,hb30,hj_,aZ⟩
 refine ovz hj_ fun Fk=>?_
 refine wbs (fun kd=>?_) fun kd=>?_
 refine wq (aH [0,1,3,0,8,31,0,127] [[],[3],[],[3],[],[],[],[5]] [[],[],[],[],[4],[],[5],[6]] [[],[],[],[],[],[],[],[5]] [.k 35 (po cT 1),.c 36 (vi a.page),tAn 37 .i64 a.page 127 (a.page % 128) (wO a.page 7 (by decide)),.c 38 (.agg #[.int .u8 a.what,vi a.page,vi a.slot,.string a.item,.slice a.QA a.qn a.qc]),.a 39,.a 40,.a 5,.n] (fun ix g d X=>match ix with|0|1|2|3=>True|4=>g 39= .slice (sA (d 39)) ((eK a).length) (sC (d 39))/\X 4=eO 84 3 (.slice (sA (d 39)) ((eK a).length) (sC (d 39))) ((eK a).length) ((eK a).flatMap edC)|5=>g 40= .agg #[vi 1,vi (a.page % 128),vi 0,sn,sn,.slice (sA (d 39)) ((eK a).length) (sC (d 39)),sn,.string ByteArray.empty]|6=>g 5=vp (pb (d 5))/\X 5=eB (pb (d 5)) 27 #[vi 0,vi 0,vi 0,sn,sn,sn,sn,.string ByteArray.empty]|7=>X 6=eB (pb (d 5)) 27 #[vi 1,vi (a.page % 128),vi 0,sn,sn,.slice (sA (d 39)) ((eK a).length) (sC (d 39)),sn,.string ByteArray.empty]|_=>True) [0,1,2,3,4,6] [1,3,4,5,6,7] [(5,6,1,6),(29,0,6,35)] aZ ?_ ?_ ?_)
 exact fun ix _ _ _ _ _ _ hs hb hx h=>match ix,h with
 |4,h=>by dsimp only;rw[<-hs 39 rfl,<-hb 39 rfl,<-hx 4 rfl];exact h
 |5,h=>by dsimp only;rw[<-hs 40 rfl,<-hb 39 rfl];exact h
 |6,h=>by dsimp only;rw[<-hs 5 rfl,<-hb 5 rfl,<-hx 5 rfl];exact h
 |7,h=>by dsimp only;rw[<-hb 5 rfl,<-hb 39 rfl,<-hx 6 rfl];exact h
 |0,_|1,_|2,_|3,_|_+8,_=>trivial
 refine⟨?_,?_,?_,?_,?_,?_,trivial⟩
 exact xs4 rfl id fun cx=>ae rfl (by kernel_rfl) (cx.an 0) ((cx.bi 3 rfl).cell 1)
 exact xs4 rfl id fun cx=>cg (n:=5) rfl (by kernel_rfl) (by kernel_rfl) (cx.ou 3) (cx.bi 3 rfl) (nle rfl) rfl
 refine svA fun i d W X cx=>?_
 refine am.call (aq (args:=#[.agg #[.int .u8 a.what,vi a.page,vi a.slot,.string a.item,.slice a.QA a.qn a.qc]]) rfl cx.sees rfl (by kernel_rfl) (ax (cx.an 3))) ?_
 refine(BH a _ ha).mono ?_
 rintro e W1 ⟨A4,c4,rfl,ho,hx⟩
 refine⟨_,rfl,bL [eO 84 3 (.slice A4 (eK a).length c4) (eK a).length ((eK a).flatMap edC)] rfl rfl hx (one_new (cm ho)) (List.pairwise_singleton _ _) (fun g j X' hs hb hv hN=>?_)⟩
 have aK:=(hv 39 rfl).1;have aW:=(hv 39 rfl).2
 exact⟨aK.trans (by rw[aW];exact rfl),(by rw[aW];exact(List.cons.inj hN).1)⟩
 exact sv rfl rfl rfl rfl rfl _ (fun _ _ _ h=>h) (fun d j h=>by rw[h 39 (by decide)]) fun i d W X cx=>jX rfl (pmc (cx.co _) (pmc (cx.an 2) (pmc (dTn (cx.an 4)).1 pmn))) (by kernel_rfl)
 refine svA fun i d W X cx=>?_
 exact dp (cs:=#[vi 0,vi 0,vi 0,sn,sn,sn,sn,.string ByteArray.empty]) rfl (by kernel_rfl) rfl rfl (fun _ _ _ _ _=> .intro)
 refine svA fun i d W X cx=>?_
 exact bx (n:=8) rfl (dTn (cx.an 6)).1 (dTn (cx.an 5)) (by kernel_rfl) (by kernel_rfl) (by kernel_rfl) cx (dTn (cx.an 6)).2 rfl (nle rfl) (by kernel_rfl) rfl rfl rfl (fun g j X' hs hb hx=>by rw[hb 5,hb 39];exact hx)
 intro g d X Ml hD kj fr aG
 simp only[exq 4 ((dTn (hD 4 lq)).2),exq 6 ((dTn (hD 7 lq)))] at kj
 simp only[ed 39 ((dTn (hD 4 lq)).1),ed 40 ((dTn (hD 5 lq))),ed 5 ((dTn (hD 6 lq)).1)] at aG
 generalize sA (d 39)=m9,sC (d 39)=na,pb (d 5)=RM at kj aG
 clear hD;subst aG;clear g d X
 refine aa (wq ?_)
 have hw3:a.what % 10<=3:=by have h_:=kd;rw[hb30] at h_;exact of_decide_eq_true h_
 obtain⟨rs,rr,hrs,hsub,ho21_⟩:=kj.u2.unrf
 obtain⟨QA,qc,TA,tc,hq22_⟩:=ho21_.unrq
 refine sqr (sqp [.m 41 0,.k 42 (vp xb),.k 43 (po xb 2)] ?_)
 refine av 4 hq22_ ?_
 refine sqp [.k 45 (vp rb),.k 46 (po rb 1)] ?_
 refine av 0 hq22_ ?_
 refine sqp [.k 48 (vi ((rs.length:Int))),.m 6 48] ?_
 refine aa (wq ?_)
 obtain⟨fp32_,hr32_⟩:=St.rq (rs:=rs) (told:=told) (p:=5) (rr:=rr) (hq22_)
 have OJ:=St.rf (L:=L) hr32_ (hrs) (hsub)
 refine aH [0,1,3,7,0,31,63,127,127,255,1023] [[],[],[],[1],[5],[2,4]] [[],[],[],[],[],[6]] [[],[],[],[],[],[2]] [.k 50 (vp xb),.k 51 (vp xb),.k 52 (po xb 1),.c 53 (vp sb),.c 54 (.agg #[vi 1,vi (a.page % 128),vi 0,sn,sn,.slice m9 ((eK a).length) na,sn,.string ByteArray.empty]),.a 55,.c 49 (.tuple #[vi ((rfD 5 L told (dw a)).2.1),vi ((rfE 5 L (dw a)))]),.k 56 (vi ((rfD 5 L told (dw a)).2.1)),.k 57 (vi ((rfE 5 L (dw a)))),.k 7 (vi ((rfD 5 L told (dw a)).2.1)),.k 8 (vi ((rfE 5 L (dw a))))] (fun ix g d X=>match ix with|0|1|2|3|4=>True|5=>g 55= .tuple #[vi ((rfD 5 L told (dw a)).2.1),vi ((rfE 5 L (dw a)))]/\X 6=eNi sb db ((rfD 5 L told (dw a)).1) ((rfD 5 L told (dw a)).2.2.2) 5 (c+700) ((X 6).fp)|_=>True) [0,1,3,4,5,6] [3,4,5,6] [(7,9,2,9),(40,6,1,41),(0,0,6,6),(0,7,2,2)] OJ ?_ ?_ ?_
 exact fun ix _ _ _ _ _ _ hs hb hx h=>match ix,h with
 |5,h=>by dsimp only;rw[<-hs 55 rfl,<-hx 6 rfl];exact h
 |0,_|1,_|2,_|3,_|4,_|_+6,_=>trivial
 refine⟨?_,?_,?_,?_,trivial⟩
 exact xs4 rfl id fun cx=>ae rfl (by kernel_rfl) (cx.an 2) ((cx.bi 1 rfl).cell 1)
 exact xs4 rfl id fun cx=>cg (n:=8) rfl (by kernel_rfl) (by kernel_rfl) (cx.ou 5) (cx.bi 5 rfl) (nle rfl) rfl
 refine svA fun i d W X cx=>?_
 refine am.call (aq (args:=#[vp sb,.agg #[vi 1,vi (a.page % 128),vi 0,sn,sn,.slice m9 ((eK a).length) na,sn,.string ByteArray.empty]]) rfl cx.sees rfl (by kernel_rfl) (aP (cx.an 3) (cx.an 4))) ?_
 refine(AQ (L:=L) (dw a) _ _ (CtxV.holdF cx (cx.init 2 _ rfl) rfl) (CtxV.ltF cx (cx.init 2 _ rfl) rfl) hc (cx.keepAt (cx.init 4 _ rfl) (cx.init 2 _ rfl) rfl rfl (by decide)) (by show (eK a).length<= _;have:=yu a;omega) (wR a) (by show (0:Nat)<= _;omega)).mono ?_
 rintro e W1 ⟨rfl,fp4,aU⟩
 refine⟨_,rfl,aN (E:=eNi sb db L told 5 c fps) [eNi sb db ((rfD 5 L told (dw a)).1) ((rfD 5 L told (dw a)).2.2.2) 5 (c+700) fp4] (cx.init 2 _ rfl) rfl rfl aU (fun g j X' hs hb hv hN=>?_)⟩
 have aK:=(hv 55 rfl).1;have aW:=(hv 55 rfl).2
 exact⟨aK.trans rfl,ft ((List.cons.inj hN).1)⟩
 exact xs4 rfl id fun cx=>dn rfl (dTn (cx.an 5)).1
 intro g d X uB hD dG fr aG
 have Nk:X 6= _:=(dTn (hD 5 lq)).2
 obtain⟨RN,zW⟩:∃z,(X 6).fp=z:=⟨_,rfl⟩
 rw[zW] at Nk
 clear zW
 simp only[Nk] at dG
 simp only[ed 55 ((dTn (hD 5 lq)).1)] at aG
 clear hD Nk;subst aG;clear g d X
 refine aa (wq ?_)
 obtain⟨fg35_,hg35_⟩:=St.rh (t:=(⟨dw a,m9,na⟩:RcT)) dG.u3
 refine aH [0,1,3,7,0,31,0,127] [[],[],[],[1],[3],[0],[],[6]] [[],[],[],[],[],[5],[6],[7]] [[],[],[],[],[],[0],[],[6]] [.k 58 (vp xb),.k 59 (vp xb),.k 60 (po xb 2),.c 61 (vp rb),.c 62 (.agg #[vi 1,vi (a.page % 128),vi 0,sn,sn,.slice m9 ((eK a).length) na,sn,.string ByteArray.empty]),.a 63,.a 9,.n] (fun ix g d X=>match ix with|0|1|2|3|4=>True|5=>g 63= .agg #[vi ((rfD 5 L told (dw a)).2.1),vi ((rfE 5 L (dw a)))]/\X 5=eRf rb ((rfD 5 L told (dw a)).1) ((rfD 5 L told (dw a)).2.2.2) 5 ((X 5).fp)|6=>g 9=vp (pb (d 9))/\X 6=eB (pb (d 9)) 129 #[vi 0,vi 0]|7=>X 7=eB (pb (d 9)) 129 #[vi ((rfD 5 L told (dw a)).2.1),vi ((rfE 5 L (dw a)))]|_=>True) [1,2,3,4,5,7] [3,4,5,6,7] [(9,6,1,10),(48,0,6,54)] hg35_ ?_ ?_ ?_
 exact fun ix _ _ _ _ _ _ hs hb hx h=>match ix,h with
 |5,h=>by dsimp only;rw[<-hs 63 rfl,<-hx 5 rfl];exact h
 |6,h=>by dsimp only;rw[<-hs 9 rfl,<-hb 9 rfl,<-hx 6 rfl];exact h
 |7,h=>by dsimp only;rw[<-hb 9 rfl,<-hx 7 rfl];exact h
 |0,_|1,_|2,_|3,_|4,_|_+8,_=>trivial
 refine⟨?_,?_,?_,?_,?_,trivial⟩
 exact xs4 rfl id fun cx=>ae rfl (by kernel_rfl) (cx.an 2) ((cx.bi 1 rfl).cell 2)
 exact xs4 rfl id fun cx=>cg (n:=8) rfl (by kernel_rfl) (by kernel_rfl) (cx.ou 5) (cx.bi 3 rfl) (nle rfl) rfl
 refine svA fun i d W X cx=>?_
 refine am.call (aq (args:=#[vp rb,.agg #[vi 1,vi (a.page % 128),vi 0,sn,sn,.slice m9 ((eK a).length) na,sn,.string ByteArray.empty]]) rfl cx.sees rfl (by kernel_rfl) (aP (cx.an 3) (cx.an 4))) ?_
 refine(DP rb L told 5 (⟨dw a,m9,na⟩:RcT) _ _ (CtxV.holdF cx (cx.init 0 _ rfl) rfl) (CtxV.ltF cx (cx.init 0 _ rfl) rfl) hL hz (by decide) (by show (eK a).length<= _;have:=yu a;omega) (wR a) (by show (0:Nat)<= _;omega)).mono ?_
 rintro e W1 ⟨rfl,fp4,aU⟩
 refine⟨_,rfl,aN (E:=eRh rb L told 5 (⟨dw a,m9,na⟩:RcT) fg35_) [eRf rb ((rfD 5 L told (dw a)).1) ((rfD 5 L told (dw a)).2.2.2) 5 fp4] (cx.init 0 _ rfl) rfl rfl aU (fun g j X' hs hb hv hN=>?_)⟩
 have aK:=(hv 63 rfl).1;have aW:=(hv 63 rfl).2
 exact⟨aK.trans rfl,sR ((List.cons.inj hN).1)⟩
 refine svA fun i d W X cx=>?_
 exact dp (cs:=#[vi 0,vi 0]) rfl (by kernel_rfl) rfl rfl (fun _ _ _ _ _=> .intro)
 refine svA fun i d W X cx=>?_
 exact bx (n:=2) rfl (dTn (cx.an 6)).1 (dTn (cx.an 5)).1 (by kernel_rfl) (by kernel_rfl) (by kernel_rfl) cx (dTn (cx.an 6)).2 rfl (nle rfl) (by kernel_rfl) rfl rfl rfl (fun g j X' hs hb hx=>by rw[hb 9];exact hx)
 intro g d X Br hD fj fr aG
 obtain⟨Jd,tu⟩:∃z,pb (d 9)=z:=⟨_,rfl⟩
 have zr:X 5= _:=(dTn (hD 5 lq)).2
 obtain⟨RO,zX⟩:∃z,(X 5).fp=z:=⟨_,rfl⟩
 rw[zX] at zr
 clear zX
 simp only[zr,exq 7 ((dTn (hD 7 lq))),tu] at fj
 simp only[ed 63 ((dTn (hD 5 lq)).1),ed 9 ((dTn (hD 6 lq)).1),tu] at aG
 clear hD zr tu;subst aG;clear g d X
 refine aa (wq (wq (sqr (sqp [.m 64 0,.k 65 (vp xb),.k 66 (vp xb)] ?_))))
 refine av 0 fj ?_
 refine sqk (.bool true) fj (fun cx=>⟨_,mh (CtxV.holdF cx (cx.init 3 _ rfl) rfl),(ax (cx.ou 67))⟩) fun Fd gp=>?_
 refine sqp [.k 69 (.bool false)] ?_
 refine aa (wcf rfl (wp_skip (aa (wq (sqr (sqp [.m 96 8,.k 97 (po Jd 1)] ?_))))))
 refine av 5 gp ?_
 have hd47:((rfE 5 L (dw a)) != (rfE 5 L (dw a)))=false:=(by simp)
 refine sqp [.e 99 (.bool ((rfE 5 L (dw a)) != (rfE 5 L (dw a)))) (.bool false) (congrArg Value.bool hd47),.k 100 (.bool false)] ?_
 refine dE 100 [101,102,103,104] rfl rfl ?_
 refine sqp [.m 101 7,.k 102 (vp Jd)] ?_
 refine av 5 gp ?_
 have hd53:(((rfD 5 L told (dw a)).2.1) != ((rfD 5 L told (dw a)).2.1))=false:=(by simp)
 refine sqp [.e 104 (.bool (((rfD 5 L told (dw a)).2.1) != ((rfD 5 L told (dw a)).2.1))) (.bool false) (congrArg Value.bool hd53)] ?_
 refine sqp [.k 105 (.bool false)] ?_
 refine aa (wcf rfl (wp_skip (aw (aa (wq (sqr (sqp [.k 4 (.bool true)] ?_)))))))
 refine aa (wp_ret ?_)
 refine bpr (.bool true) (ai Tryz.results30 rpt) ?_
 obtain⟨fw56_,hw56_⟩:=St.wd gp.u1.c0.u1.c0.u3.c0
 have hE_:gR (L,told) a=((rfD 5 L told (dw a)).1,(rfD 5 L told (dw a)).2.2.2):=if_pos hw3
 obtain⟨fz_,hz_⟩:=hw56_.wdm (c2:=c+700) (by omega)
 exact⟨rfl,_,by rw[hE_];exact hz_⟩
 refine wq ?_
 have hw3n:¬a.what % 10<=3:=by have h_:=kd;rw[hb30] at h_;exact of_decide_eq_false h_
 refine sqr (sqp [.k 107 (.bool ((a.what % 10)==4)),.m 106 107] ?_)
 refine aa (wbs (fun m5=>?_) fun m5=>?_)
 have uT:=beq_iff_eq.1 m5
 refine wq (sqr (sqp [.m 108 0,.k 109 (vp xb),.k 110 (po xb 1)] ?_))
 refine av 0 aZ ?_
 refine bN (fun X_=>X_.fp) (vi ((frF 5 L told))) (fun Je=>eNi sb db L (frT 5 L told) 5 (c+3*5+1) Je) 1 aZ (by
   refine svA fun i d W X cx=>?_
   refine am.call (aq (args:=#[vp sb]) rfl cx.sees rfl (by kernel_rfl) (ax (cx.ou 111))) ?_
   refine(oZ (CtxV.holdF cx (cx.init 1 _ rfl) rfl) (CtxV.ltF cx (cx.init 1 _ rfl) rfl) hc).mono ?_
   rintro e W1 ⟨rfl,fp4,aU⟩
   refine⟨_,rfl,aN (E:=eNi sb db L told 5 c fps) [eNi sb db L (frT 5 L told) 5 (c+3*5+1) fp4] (cx.init 1 _ rfl) rfl rfl aU (fun g j X' hs hb hv hN=>?_)⟩
   have aK:=(hv 112 rfl).1;have aW:=(hv 112 rfl).2
   exact⟨aK.trans rfl,ft ((List.cons.inj hN).1)⟩) fun Je I5 gI=>?_
 refine sqp [.m 10 112] ?_
 refine aa (wq (wq (sqr (sqp [.m 113 0,.k 114 (vp xb),.k 115 (vp xb)] ?_))))
 refine av 0 gI ?_
 refine sqk (.bool true) gI (fun cx=>⟨_,mh (CtxV.holdF cx (cx.init 1 _ rfl) rfl),(ax (cx.ou 116))⟩) fun T4 Jf=>?_
 refine sqp [.k 118 (.bool false)] ?_
 refine aa (wcf rfl (wp_skip (aa (wq (sqr (sqp [.m 123 10,.m 124 0,.k 125 (vp xb),.k 126 (po xb 2)] ?_))))))
 refine av 0 Jf ?_
 refine bN (fun X_=>X_.fp) (vi ((frF 5 L told))) (fun Jg=>eRf rb L (frT 5 L told) 5 Jg) 2 Jf (by
   refine svA fun i d W X cx=>?_
   refine am.call (aq (args:=#[vp rb]) rfl cx.sees rfl (by kernel_rfl) (ax (cx.ou 127))) ?_
   refine(yg rb L told 5 _ _ (CtxV.holdF cx (cx.init 2 _ rfl) rfl) (CtxV.ltF cx (cx.init 2 _ rfl) rfl) hL hz (by decide)).mono ?_
   rintro e W1 ⟨rfl,fp4,aU⟩
   refine⟨_,rfl,aN (E:=eRf rb L told 5 fpr) [eRf rb L (frT 5 L told) 5 fp4] (cx.init 2 _ rfl) rfl rfl aU (fun g j X' hs hb hv hN=>?_)⟩
   have aK:=(hv 128 rfl).1;have aW:=(hv 128 rfl).2
   exact⟨aK.trans rfl,sR ((List.cons.inj hN).1)⟩) fun Jg T5 OK=>?_
 have hd79:((frF 5 L told) != (frF 5 L told))=false:=(by simp)
 refine sqp [.e 129 (.bool ((frF 5 L told) != (frF 5 L told))) (.bool false) (congrArg Value.bool hd79)] ?_
 refine aa (wcf rfl (wp_skip (aw (aa (wq (sqr (sqp [.k 4 (.bool true)] ?_)))))))
 refine aa (wp_ret ?_)
 refine bpr (.bool true) (ai Tryz.results30 rpt) ?_
 obtain⟨fw81_,hw81_⟩:=St.wd OK.u3.c0
 have hE_:gR (L,told) a=(L,frT 5 L told):=by rw[gR,if_neg (by omega),if_pos (by omega)]
 obtain⟨fz_,hz_⟩:=hw81_.wdm (c2:=c+700) (by omega)
 exact⟨rfl,_,by rw[hE_];exact hz_⟩
 have uT:=beq_eq_false_iff_ne.1 m5
 refine wq (sqr (sqp [.k 131 (.bool ((a.what % 10)==5)),.m 130 131] ?_))
 refine aa (wbs (fun zn=>?_) fun zn=>?_)
 have CL:=beq_iff_eq.1 zn
 refine wq (sqr (sqp [.m 132 0,.k 133 (vp xb),.k 134 (po xb 1)] ?_))
 refine av 0 aZ ?_
 refine bN (fun X_=>X_.fp) (vi 0) (fun Jh=>eNi sb db L told 5 c Jh) 1 aZ (by
   refine svA fun i d W X cx=>?_
   refine am.call (aq (args:=#[vp sb]) rfl cx.sees rfl (by kernel_rfl) (ax (cx.ou 135))) ?_
   refine(BV (CtxV.holdF cx (cx.init 1 _ rfl) rfl) (CtxV.ltF cx (cx.init 1 _ rfl) rfl)).mono ?_
   rintro e W1 ⟨rfl,fp4,aU⟩
   refine⟨_,rfl,aN (E:=eNi sb db L told 5 c fps) [eNi sb db L told 5 c fp4] (cx.init 1 _ rfl) rfl rfl aU (fun g j X' hs hb hv hN=>?_)⟩
   have aK:=(hv 136 rfl).1;have aW:=(hv 136 rfl).2
   exact⟨aK.trans rfl,ft ((List.cons.inj hN).1)⟩) fun Jh Mm l9=>?_
 refine sqp [.m 11 136] ?_
 refine aa (wq (wq (sqr (sqp [.m 137 0,.k 138 (vp xb),.k 139 (vp xb)] ?_))))
 refine av 0 l9 ?_
 refine sqk (.bool true) l9 (fun cx=>⟨_,mh (CtxV.holdF cx (cx.init 1 _ rfl) rfl),(ax (cx.ou 140))⟩) fun T6 OL=>?_
 refine sqp [.k 142 (.bool false)] ?_
 refine aa (wcf rfl (wp_skip (aa (wq ?_))))
 obtain⟨rs,rr,hrs,hsub,ho97_⟩:=OL.u2.unrf
 obtain⟨QA,qc,TA,tc,hq98_⟩:=ho97_.unrq
 refine sqr (sqp [.m 151 0,.m 152 0,.k 153 (vp xb),.k 154 (po xb 2)] ?_)
 refine av 4 hq98_ ?_
 refine sqp [.k 156 (vp rb),.k 157 (po rb 1)] ?_
 refine av 0 hq98_ ?_
 refine sqp [.k 159 (vi ((rs.length:Int))),.k 160 (vp xb),.k 161 (po xb 4)] ?_
 refine aV (n:=1) 4 #[vp db,vp sb,vp rb,vi bufs,vi ((rs.length:Int))] hq98_ fun Th Nl=>?_
 refine aa (wq (sqr (sqp [.m 162 11,.k 163 (.bool false)] ?_)))
 refine aa (wcf rfl (wp_skip (aw (aa (wq (sqr (sqp [.k 4 (.bool true)] ?_)))))))
 refine aa (wp_ret ?_)
 refine bpr (.bool true) (ai Tryz.results30 rpt) ?_
 obtain⟨fp114_,hr114_⟩:=St.rq (rs:=rs) (told:=told) (p:=5) (rr:=rr) (Nl)
 have Nm:=St.rf (L:=L) hr114_ (hrs) (hsub)
 obtain⟨fw116_,hw116_⟩:=St.wd Nm.u3.c0.u2.u2
 have hE_:gR (L,told) a=(L,told):=by rw[gR,if_neg (by omega),if_neg (by omega),if_pos (by omega)]
 obtain⟨fz_,hz_⟩:=hw116_.wdm (c2:=c+700) (by omega)
 exact⟨rfl,_,by rw[hE_];exact hz_⟩
 have CL:=beq_eq_false_iff_ne.1 zn
 refine wq (sqr (sqp [.k 165 (.bool ((a.what % 10)==6)),.m 164 165] ?_))
 refine aa (wbs (fun uZ=>?_) fun uZ=>?_)
 have zE:=beq_iff_eq.1 uZ
 refine wq (sqr (sqp [.k 166 (po cT 1)] ?_))
 refine av 3 aZ ?_
 refine sqp [sRe 168 .i64 a.page 7 (a.page.tmod 7) (rfl),sI 169 ((a.page.tmod 7)+5) (by omega),sJ 170 ((a.page.tmod 7+5)+2) (a.page.tmod 7+7) (by omega) (by omega),sRe 171 .i64 (a.page.tmod 7+7) 7 ((a.page.tmod 7+7) % 7) (Int.tmod_eq_emod_of_nonneg (by omega)),sI 172 (((a.page.tmod 7+7) % 7)-1) (by omega),.m 12 172] ?_
 refine aa (wq ?_)
 obtain⟨nW,hnW⟩:∃z,(a.page.tmod 7+7) % 7-1=z:=⟨_,rfl⟩
 rw[hnW]
 have hnb: -100<=nW/\nW<=100:=by omega
 by_cases hnr:0<=nW/\nW<((5:Nat):Int)
 refine sqr (sqp [.m 173 0,.k 174 (vp xb),.k 175 (po xb 1)] ?_)
 refine av 0 aZ ?_
 refine sqp [.m 177 12] ?_
 refine bN (fun X_=>X_.fp) (vi 0) (fun FK=>eNi sb db L told 5 (c+4) FK) 1 aZ (by
   refine svA fun i d W X cx=>?_
   refine am.call (aq (args:=#[vp sb,vi nW]) rfl cx.sees rfl (by kernel_rfl) (aP (cx.ou 176) (cx.ou 177))) ?_
   refine(D4 hnr (CtxV.holdF cx (cx.init 1 _ rfl) rfl) (CtxV.ltF cx (cx.init 1 _ rfl) rfl) hc).mono ?_
   rintro e W1 ⟨rfl,fp4,aU⟩
   refine⟨_,rfl,aN (E:=eNi sb db L told 5 c fps) [eNi sb db L told 5 (c+4) fp4] (cx.init 1 _ rfl) rfl rfl aU (fun g j X' hs hb hv hN=>?_)⟩
   have aK:=(hv 178 rfl).1;have aW:=(hv 178 rfl).2
   exact⟨aK.trans rfl,ft ((List.cons.inj hN).1)⟩) fun FK Ti FL=>?_
 refine sqp [.m 13 178] ?_
 refine aa (wq (wq (sqr (sqp [.m 179 0,.k 180 (vp xb),.k 181 (vp xb)] ?_))))
 refine av 0 FL ?_
 refine sqk (.bool true) FL (fun cx=>⟨_,mh (CtxV.holdF cx (cx.init 1 _ rfl) rfl),(ax (cx.ou 182))⟩) fun Tj Nn=>?_
 refine sqp [.k 184 (.bool false)] ?_
 refine aa (wcf rfl (wp_skip (aa (wq (wq (sqr (sqp [.m 189 12,.k 190 (.bool (decide (nW<0))),.m 191 190] ?_)))))))
 refine sqw 191 [192,193] rfl (fun _=>sqp [.m 192 12,.k 193 (.bool (decide (5<=nW)))] sqe) ?_
 have hd147:((decide (nW<0))||(decide (5<=nW)))=false:=(by simp;omega)
 refine sqp [Ct 194 (decide (nW<0)) (decide (5<=nW)) false hd147] ?_
 refine aa (wcf rfl (wp_skip (aa (wq ?_))))
 obtain⟨rs,rr,hrs,hsub,ho148_⟩:=Nn.u2.unrf
 obtain⟨QA,qc,TA,tc,hq149_⟩:=ho148_.unrq
 have hrl:rs.length<=1000000:=by have h_:=congrArg List.length hrs;rw[List.length_map] at h_;have:=tP hL hz;omega
 have hrL:∀t∈rs,bv t.r=true:=fun t ht=>hL _ (hrs ▸ List.mem_map.2 ⟨t,ht,rfl⟩)
 refine aH [0,0,2,6,14,0,32,96,224,480,992,2016,0,8160,16352,32766,65535,131071,262143] [[],[],[],[],[4],[],[],[],[4],[],[],[0],[],[1,3],[],[],[],[],[4]] [[],[],[],[],[],[],[],[],[],[],[],[],[],[7],[],[],[],[],[8]] [[],[],[],[],[],[],[],[],[],[],[],[],[],[],[],[],[],[],[4]] [.k 197 (vp xb),.k 198 (vp xb),.k 199 (vp xb),.k 200 (po xb 4),.c 201 (vi safe),.k 202 (vp xb),.k 203 (vp xb),.k 204 (po xb 2),.c 205 (vp rb),.k 206 (vp rb),.k 207 (po rb 1),.c 208 (.slice QA rs.length qc),.k 209 (vi nW),.a 210,.c 211 (vi ((ak (rs.map RcT.r) nW).2.1)),.c 212 (vi (max safe ((ak (rs.map RcT.r) nW).2.1))),.k 213 (vp xb),.k 214 (po xb 4),.n] (fun ix g d X=>match ix with|0|1|2|3|4|5|6|7|8|9|10|11|12=>True|13=>g 210= .agg #[vi ((ak (rs.map RcT.r) nW).1),vi ((ak (rs.map RcT.r) nW).2.1),.slice (sA (tg (d 210) 2)) ((ak (rs.map RcT.r) nW).2.2.length) (sC (tg (d 210) 2))]/\X 7=eO 9 1 (.slice (sA (tg (d 210) 2)) ((ak (rs.map RcT.r) nW).2.2.length) (sC (tg (d 210) 2))) ((ak (rs.map RcT.r) nW).2.2.length) ((ak (rs.map RcT.r) nW).2.2.map Value.string)|14|15|16|17=>True|18=>X 8=eB xb 34 #[vp db,vp sb,vp rb,vi bufs,vi (max safe ((ak (rs.map RcT.r) nW).2.1))]|_=>True) [0,1,2,3,5,6,7,8] [4,8,11,13,14,15,18] [(197,0,18,215)] hq149_ ?_ ?_ ?_
 exact fun ix _ _ _ _ _ _ hs hb hx h=>match ix,h with
 |13,h=>by dsimp only;rw[<-hs 210 rfl,<-hb 210 rfl,<-hx 7 rfl];exact h
 |18,h=>by dsimp only;rw[<-hx 8 rfl];exact h
 |0,_|1,_|2,_|3,_|4,_|5,_|6,_|7,_|8,_|9,_|10,_|11,_|12,_|14,_|15,_|16,_|17,_|_+19,_=>trivial
 refine⟨?_,?_,?_,?_,?_,?_,?_,trivial⟩
 exact xs4 rfl id fun cx=>ae rfl (by kernel_rfl) (cx.an 3) ((cx.bi 4 rfl).cell 4)
 exact xs4 rfl id fun cx=>ae rfl (by kernel_rfl) (cx.an 7) ((cx.bi 4 rfl).cell 2)
 exact xs4 rfl id fun cx=>ae rfl (by kernel_rfl) (cx.an 10) ((cx.bi 0 rfl).cell 1)
 refine svA fun i d W X cx=>?_
 refine am.call (aq (args:=#[.slice QA rs.length qc,vi nW]) rfl cx.sees rfl (by kernel_rfl) (aP (cx.an 11) (cx.an 12))) ?_
 refine(kQ _ _ rs nW _ ⟨At.of_ownN (cx.ri 1 rfl),fun t ht=>dW (CtxV.holdF cx (cx.init 3 _ rfl) rfl) (hsub t ht)⟩ hrl hrL).mono ?_
 rintro e W1 ⟨A4,c4,rfl,ho,hx⟩
 refine⟨_,rfl,bL [eO 9 1 (.slice A4 (ak (rs.map RcT.r) nW).2.2.length c4) (ak (rs.map RcT.r) nW).2.2.length ((ak (rs.map RcT.r) nW).2.2.map Value.string)] rfl rfl hx (one_new (cm ho)) (List.pairwise_singleton _ _) (fun g j X' hs hb hv hN=>?_)⟩
 have aK:=(hv 210 rfl).1;have aW:=(hv 210 rfl).2
 exact⟨aK.trans (by rw[aW];exact rfl),(by rw[aW];exact(List.cons.inj hN).1)⟩
 exact xs4 rfl id fun cx=>lU rfl (dTn (cx.an 13)).1 (fun _=>by kernel_rfl)
 exact xs4 rfl id fun cx=>sm rfl (cx.an 4) (cx.an 14) rfl
 refine svA fun i d W X cx=>?_
 exact bx (n:=1) rfl (cx.an 17) (cx.an 15) (by kernel_rfl) (by kernel_rfl) (by kernel_rfl) cx (cx.init 4 _ rfl) rfl (nle rfl) (by kernel_rfl) rfl rfl rfl (fun _ _ _ _ _=>id)
 intro g d X Tk hD zY fr aG
 simp only[exq 7 ((dTn (hD 13 lq)).2),exq 8 ((dTn (hD 18 lq)))] at zY
 simp only[ed 210 ((dTn (hD 13 lq)).1)] at aG
 generalize sA (tg (d 210) 2)=P4,sC (tg (d 210) 2)=P5 at zY aG
 clear hD;subst aG;clear g d X
 refine aa (wq (sqr (sqp [.m 215 13,.k 216 (.bool false)] ?_)))
 refine aa (wcf rfl (wp_skip (aw (aa (wq (sqr (sqp [.k 4 (.bool true)] ?_)))))))
 refine aa (wp_ret ?_)
 refine bpr (.bool true) (ai Tryz.results30 rpt) ?_
 obtain⟨fp154_,hr154_⟩:=St.rq (rs:=rs) (told:=told) (p:=5) (rr:=rr) (zY)
 have No:=St.rf (L:=L) hr154_ (hrs) (hsub)
 obtain⟨fw156_,hw156_⟩:=St.wd No.u2.c0.u2.c0.u1.u2
 have hE_:gR (L,told) a=(L,told):=by rw[gR,if_neg (by omega),if_neg (by omega),if_pos (by omega)]
 obtain⟨fz_,hz_⟩:=hw156_.wdm (c2:=c+700) (by omega)
 exact⟨rfl,_,by rw[hE_];exact hz_⟩
 refine sqr (sqp [.m 173 0,.k 174 (vp xb),.k 175 (po xb 1)] ?_)
 refine av 0 aZ ?_
 refine sqp [.m 177 12] ?_
 refine bN (fun X_=>X_.fp) (vi 22) (fun FM=>eNi sb db L told 5 (c+4) FM) 1 aZ (by
   refine svA fun i d W X cx=>?_
   refine am.call (aq (args:=#[vp sb,vi nW]) rfl cx.sees rfl (by kernel_rfl) (aP (cx.ou 176) (cx.ou 177))) ?_
   refine(Cn hnb hnr (CtxV.holdF cx (cx.init 1 _ rfl) rfl) (CtxV.ltF cx (cx.init 1 _ rfl) rfl) hc).mono ?_
   rintro e W1 ⟨rfl,fp4,aU⟩
   refine⟨_,rfl,aN (E:=eNi sb db L told 5 c fps) [eNi sb db L told 5 (c+4) fp4] (cx.init 1 _ rfl) rfl rfl aU (fun g j X' hs hb hv hN=>?_)⟩
   have aK:=(hv 178 rfl).1;have aW:=(hv 178 rfl).2
   exact⟨aK.trans rfl,ft ((List.cons.inj hN).1)⟩) fun FM Tl FN=>?_
 refine sqp [.m 13 178] ?_
 refine aa (wq (wq (sqr (sqp [.m 179 0,.k 180 (vp xb),.k 181 (vp xb)] ?_))))
 refine av 0 FN ?_
 refine sqk (.bool true) FN (fun cx=>⟨_,mh (CtxV.holdF cx (cx.init 1 _ rfl) rfl),(ax (cx.ou 182))⟩) fun PO vb=>?_
 refine sqp [.k 184 (.bool false)] ?_
 refine aa (wcf rfl (wp_skip (aa (wq (wq (sqr (sqp [.m 189 12,.k 190 (.bool (decide (nW<0))),.m 191 190] ?_)))))))
 refine sqw 191 [192,193] rfl (fun _=>sqp [.m 192 12,.k 193 (.bool (decide (5<=nW)))] sqe) ?_
 have hd176:((decide (nW<0))||(decide (5<=nW)))=true:=(by simp;omega)
 refine sqp [Ct 194 (decide (nW<0)) (decide (5<=nW)) true hd176] ?_
 refine aa (wct rfl (wq (sqr (sqp [.m 195 13,.k 196 (.bool true),.k 4 (.bool true)] ?_))))
 refine aa (wp_ret (aj (bb (aj ?_))))
 refine bpr (.bool true) (ai Tryz.results30 rpt) ?_
 obtain⟨fw180_,hw180_⟩:=St.wd vb.u3.c0
 have hE_:gR (L,told) a=(L,told):=by rw[gR,if_neg (by omega),if_neg (by omega),if_pos (by omega)]
 obtain⟨fz_,hz_⟩:=hw180_.wdm (c2:=c+700) (by omega)
 exact⟨rfl,_,by rw[hE_];exact hz_⟩
 have zE:=beq_eq_false_iff_ne.1 uZ
 refine wq (sqr ?_)
 have hd182:((a.what % 10)==7)=true:=(beq_iff_eq.2 (by omega))
 refine sqp [.e 218 (.bool ((a.what % 10)==7)) (.bool true) (congrArg Value.bool hd182),.k 217 (.bool true)] ?_
 refine aa (wct rfl (wq (sqr (sqp [.k 219 (po cT 3)] ?_))))
 refine av 3 aZ ?_
 refine sqp [.k 221 (po cT 3)] ?_
 refine av 3 aZ ?_
 refine sqp [.k 223 (vi ((a.item.size:Int)))] ?_
 refine sql (vi (min (a.item.size:Int) 50)) aZ (fun cx=>jE rfl (cx.ou 223) (cx.co _) (rfl)) ?_
 refine sql (.string (a.item.extract 0 ((min (a.item.size:Int) 50).toNat))) aZ (fun cx=>fc (l:=(min (a.item.size:Int) 50).toNat) rfl (by kernel_rfl) (cx.ou 220) (cx.ou 224) (by omega) (by omega)) ?_
 refine sqp [.m 14 225] ?_
 refine aa (wq ?_)
 obtain⟨nt,hnt⟩:∃z,ntA a=z:=⟨_,rfl⟩
 have hnz:nt.size<=50:=hnt ▸ GX a
 have hnt2:a.item.extract 0 ((min (a.item.size:Int) 50).toNat)=nt:=hnt
 rw[hnt2]
 refine sqr (sqp [.m 226 0,.k 227 (vp xb),.k 228 (po xb 1)] ?_)
 refine av 0 aZ ?_
 refine sqp [.m 230 14] ?_
 refine bN (fun X_=>X_.fp) (vi ((fM L nt))) (fun FO=>eNi sb db (ckL L nt) told 5 (c+500) FO) 1 aZ (by
   refine svA fun i d W X cx=>?_
   refine am.call (aq (args:=#[vp sb,.string nt]) rfl cx.sees rfl (by kernel_rfl) (aP (cx.ou 229) (cx.ou 230))) ?_
   refine(B2 nt (CtxV.holdF cx (cx.init 1 _ rfl) rfl) (CtxV.ltF cx (cx.init 1 _ rfl) rfl) hc (by omega)).mono ?_
   rintro e W1 ⟨rfl,fp4,aU⟩
   refine⟨_,rfl,aN (E:=eNi sb db L told 5 c fps) [eNi sb db (ckL L nt) told 5 (c+500) fp4] (cx.init 1 _ rfl) rfl rfl aU (fun g j X' hs hb hv hN=>?_)⟩
   have aK:=(hv 231 rfl).1;have aW:=(hv 231 rfl).2
   exact⟨aK.trans rfl,ft ((List.cons.inj hN).1)⟩) fun FO Tm FP=>?_
 refine sqp [.m 15 231] ?_
 refine aa (wq (sqr (sqp [.m 232 0,.k 233 (vp xb),.k 234 (po xb 2)] ?_)))
 refine av 0 FP ?_
 refine sqp [.m 236 14] ?_
 refine bN (fun X_=>X_.fp) (vi ((fM L nt))) (fun FQ=>eRf rb (ckL L nt) told 5 FQ) 2 FP (by
   refine svA fun i d W X cx=>?_
   refine am.call (aq (args:=#[vp rb,.string nt]) rfl cx.sees rfl (by kernel_rfl) (aP (cx.ou 235) (cx.ou 236))) ?_
   refine(yS rb L told 5 nt _ _ (CtxV.holdF cx (cx.init 2 _ rfl) rfl) (CtxV.ltF cx (cx.init 2 _ rfl) rfl) hL hz (by omega)).mono ?_
   rintro e W1 ⟨rfl,fp4,aU⟩
   refine⟨_,rfl,aN (E:=eRf rb L told 5 fpr) [eRf rb (ckL L nt) told 5 fp4] (cx.init 2 _ rfl) rfl rfl aU (fun g j X' hs hb hv hN=>?_)⟩
   have aK:=(hv 237 rfl).1;have aW:=(hv 237 rfl).2
   exact⟨aK.trans rfl,sR ((List.cons.inj hN).1)⟩) fun FQ Tn FR=>?_
 refine sqp [.m 16 237] ?_
 refine aa (wq (wq (sqr (sqp [.m 238 0,.k 239 (vp xb),.k 240 (vp xb)] ?_))))
 refine av 0 FR ?_
 refine sqk (.bool true) FR (fun cx=>⟨_,mh (CtxV.holdF cx (cx.init 1 _ rfl) rfl),(ax (cx.ou 241))⟩) fun To Np=>?_
 refine sqp [.k 243 (.bool false)] ?_
 refine aa (wcf rfl (wp_skip (aa (wq (wq (sqr ?_))))))
 have hd215:((fM L nt) != (fM L nt))=false:=(by simp)
 refine sqp [.m 252 15,.m 253 16,.e 254 (.bool ((fM L nt) != (fM L nt))) (.bool false) (congrArg Value.bool hd215)] ?_
 refine aa (wcf rfl (wp_skip (aa ?_)))
 obtain⟨rs,rr,hrs,hsub,ho216_⟩:=Np.u2.unrf
 obtain⟨QA,qc,TA,tc,hq217_⟩:=ho216_.unrq
 refine sqr (sqp [.m 255 0,.m 256 0,.k 257 (vp xb),.k 258 (po xb 2)] ?_)
 refine av 4 hq217_ ?_
 refine sqp [.k 260 (vp rb),.k 261 (po rb 1)] ?_
 refine av 0 hq217_ ?_
 refine sqp [.k 263 (vi ((rs.length:Int))),.k 264 (vp xb),.k 265 (po xb 4)] ?_
 refine aV (n:=1) 4 #[vp db,vp sb,vp rb,vi bufs,vi ((rs.length:Int))] hq217_ fun Tp Nq=>?_
 refine aw (aa (wq (sqr (sqp [.k 4 (.bool true)] ?_))))
 refine aa (wp_ret ?_)
 refine bpr (.bool true) (ai Tryz.results30 rpt) ?_
 obtain⟨fp231_,hr231_⟩:=St.rq (rs:=rs) (told:=told) (p:=5) (rr:=rr) (Nq)
 have Nr:=St.rf (L:=(ckL L nt)) hr231_ (hrs) (hsub)
 obtain⟨fw233_,hw233_⟩:=St.wd Nr.u3.c0.u2.u2
 have hE_:gR (L,told) a=(ckL L nt,told):=by rw[gR,if_neg (by omega),if_neg (by omega),if_neg (by omega),hnt]
 obtain⟨fz_,hz_⟩:=hw233_.wdm (c2:=c+700) (by omega)
 exact⟨rfl,_,by rw[hE_];exact hz_⟩
end
section
open Go.RowKit
def a0:ActT:=⟨0,0,0,⟨#[]⟩,none,0,0⟩
end
section
open Go.RowKit
theorem BF(n:Int)(w:World):Calls Tryz.prog 145 #[.int .i64 n] w fun e w'=>e= .returned (.int .i64 (jb n))/\w=w':=by
 go_enter Tryz.func145,Tryz.ntmps145
 go_wp2
 all_goals
  go_ret
  exact⟨vQ (by unfold jb;omega),rfl⟩
theorem xE(B:Nat)(s:ByteArray)(p n:Nat)(w:World)(h:Rd 149 w B s p false)(hn:p+n<=s.size):
  Calls Tryz.prog 146 #[po B 0,.int .i64 n] w (jq 149 (.string (s.extract p (p+n))) B s (p+n) false w):=by
 obtain⟨hb,hp,hs⟩:=h
 have HB:=Lib.hid hb
 have c0:w.cell? ⟨B,0,none⟩=some (.string s):=hb.cell 0
 have c1:w.cell? ⟨B,1,none⟩=some (.int .i64 p):=hb.cell 1
 have c2:w.cell? ⟨B,2,none⟩=some (.bool false):=hb.cell 2
 have f1:=hb.frozen 1
 have hd1:decide ((n:Int)<0)=false:=by simp
 have hd2:decide ((s.size:Int)-(p:Int)<(n:Int))=false:=by simp;omega
 have e1:(0:Int)<=(p:Int)+(n:Int):=by omega
 have e2:(p:Int)+(n:Int)<=(s.size:Int):=by omega
 have e3:(p:Int)<=(p:Int)+(n:Int):=by omega
 clear hb
 go_enter Tryz.func146,Tryz.ntmps146
 go_wp2_with fail
 go_quiet (fail)
 go_wp2_with fail
 go_quiet (fail)
 go_wp2
 go_ret
 refine⟨rfl,⟨?_,hn,hs⟩,?_⟩
 rw[show ((p+n:Nat):Int)=(p:Int)+(n:Int) by omega]
 exact((HB.out.drewN _).set_ 1 _).drewN _
 exact(((Upd.refl _ _).drewN _).set (.inl (by simp)) _).drewN _
theorem rB(B:Nat)(s:ByteArray)(p k:Nat)(w:World)(h:Rd 149 w B s p false)(hk:k<=4)(hn:p+k<=s.size):
  Calls Tryz.prog 90 #[po B 0,.int .i64 k] w (jq 149 (.int .i64 (aL s p k)) B s (p+k) false w):=by
 have H:=Lib.hid h;clear h
 have hsk:=Lib.hid (show jb k=k by unfold jb;omega)
 go_enter Tryz.func90,Tryz.ntmps90
 go_wp2_with fail
 refine(BF _ _).mono ?_
 rw[hsk.out]
 rintro e w1 ⟨rfl,rfl⟩
 go_wp2_with fail
 refine(xE _ _ _ _ _ H.out hn).mono ?_
 rintro e w1 ⟨rfl,hr,hu⟩
 obtain⟨t,ht⟩:∃t,t=s.extract p (p+k):=⟨_,rfl⟩
 rw[<-ht]
 have htk:t.size=k:=by rw[ht,ByteArray.size_extract];have:=H.out.2.1;omega
 have HT:=Lib.hid (show aL s p k=d5 t.data.toList by rw[aL,<-ht])
 have hb4:=ot t.data.toList
 have hts:(t.size:Int)<=4:=by omega
 have h4:256^t.data.toList.length<=4294967296:=by
  have e:t.data.toList.length=t.size:=by simp
  rw[e]
  exact Nat.le_trans (Nat.pow_le_pow_right (by omega) (show t.size<=4 by omega)) (by decide)
 have HR:=Lib.hid hr
 have HU:=Lib.hid hu
 have hfin:((d5 t.data.toList:Nat):Int)<=4294967296:=by omega
 clear hr hu ht htk hb4 h4
 go_wp2
 go_loop [6,7] (fun x v=>∃j:Nat,v= .int .i64 j/\j<=t.size/\x= .int .u64 (d5 (t.data.toList.take j))) (fun _ v=>t.size-(intOf v).toNat)
 case atStart=>exact⟨0,rfl,Nat.zero_le _,rfl⟩
 case round=>
  obtain⟨j,rfl,hj,rfl⟩:=hrel
  rcases Nat.lt_or_ge j t.size with hlt|hge
  ·have hb:=ot (t.data.toList.take j)
   have hlen:(t.data.toList.take j).length=j:=by simp;omega
   have h256:256^(t.data.toList.take j).length<=16777216:=by
    rw[hlen]
    exact Nat.le_trans (Nat.pow_le_pow_right (by omega) (show j<=3 by omega)) (by decide)
   have hsn:t.data.toList.take (j+1)=t.data.toList.take j++[t[j]]:=by rw[List.take_succ_eq_append_getElem (by simpa using hlt)];rfl
   have HN:=Lib.hid (show d5 (t.data.toList.take (j+1))=d5 (t.data.toList.take j)*256+t[j].toNat by rw[hsn,ng])
   obtain⟨a,ha⟩:∃a,a=d5 (t.data.toList.take j):=⟨_,rfl⟩
   rw[<-ha] at hb HN |-
   have hc8:t[j].toNat<256:=UInt8.toNat_lt _
   have ha1:(a:Int)<=16777216:=by omega
   have i1:(0:Int)<=(j:Int):=by omega
   have i2:(j:Int)<(t.size:Int):=by omega
   clear hsn hlen h256 hb ha
   go_wp2
   go_round
   case rel=>exact⟨j+1,by go_num,by omega,by rw[HN.out];go_num⟩
   case measure=>simp[intOf];omega
  obtain rfl:j=t.size:=by omega
  have e:t.data.toList.take t.size=t.data.toList:=List.take_of_length_le (by simp)
  rw[e]
  obtain⟨a,ha⟩:∃a,a=d5 t.data.toList:=⟨_,rfl⟩
  rw[<-ha] at HT hfin |-
  clear e ha
  go_wp2
  go_ret
  exact⟨by rw[HT.out];rfl,HR.out,HU.out⟩
theorem GG(B:Nat)(s:ByteArray)(p:Nat)(w:World)(h:Rd 149 w B s p false)(h2:p+2<=s.size)(hn:p+2+aL s p 2<=s.size):
  Calls Tryz.prog 91 #[po B 0] w (jq 149 (.string (eN s p)) B s (p+2+aL s p 2) false w):=by
 have H:=Lib.hid h
 obtain⟨c0,c1,c2,_,_⟩:=h.cells
 clear h
 go_enter Tryz.func91,Tryz.ntmps91
 go_wp2_with fail
 refine(rB _ _ _ 2 _ H.out (by omega) h2).mono ?_
 rintro e w1 ⟨rfl,hr,hu⟩
 have HR1:=Lib.hid hr
 have HU1:=Lib.hid hu
 clear hr hu c0 c1 c2
 go_wp2_with fail
 refine(xE _ _ _ _ _ HR1.out hn).mono ?_
 rintro e w2 ⟨rfl,hr,hu⟩
 have HR2:=Lib.hid hr
 have HU2:=Lib.hid (HU1.out.trans hu)
 obtain⟨c0,c1,c2,_,_⟩:=hr.cells
 clear hr hu
 have HT:=Lib.hid (show eN s p=s.extract (p+2) (p+2+aL s p 2) from rfl)
 obtain⟨x,hx⟩:∃x,x=s.extract (p+2) (p+2+aL s p 2):=⟨_,rfl⟩
 rw[<-hx] at HT |-
 clear hx
 go_wp2
 go_ret
 exact⟨by rw[HT.out];rfl,HR2.out,HU2.out⟩
end
section
open Go.RowKit
theorem FU{k:Int}(hh:Says s k l I):(!((ag (aY (s.extract 4 s.size):Int) 4).toList==(s.extract 0 4).toList))=false:=by
 have h2:=hh.sum
 have hz:=hh.size
 have hl:=jC s 0
 have h1:ag (aY (s.extract 4 s.size):Int) 4=s.extract 0 4:=by
  rw[hz,<-h2]
  have h3:=jH (aL s 0 4:Int) (by omega) (by omega)
  refine gM (yD 4 _ _ (by rw[bO,aF _ _ (by omega)]) (by rw[bO,ByteArray.size_extract];omega) ?_)
  show _=aL s 0 4
  omega
 rw[h1];simp
theorem F7{k:Int}(hh:Says s k l I):(!((s.extract 5 9).toList==(s.extract 508 s.size).toList))=false:=by
 rw[hh.size,hh.lsn2];simp
theorem HZ(hs:s=cO 512):(!((ag (aY (s.extract 4 s.size):Int) 4).toList==(s.extract 0 4).toList))=true:=by
 have hz:s.size=512:=by rw[hs];exact gy 512
 have h2:aL s 0 4=0:=by rw[hs];decide+kernel
 have h3:aY (s.extract 4 s.size)≠0:=by rw[hz,hs];decide+kernel
 have hlt:=ir (s.extract 4 s.size)
 rw[Bool.not_eq_true',beq_eq_false_iff_ne]
 intro h
 have h4:=jH (aY (s.extract 4 s.size):Int) (by omega) (by omega)
 rw[tU h] at h4
 have h5:(aL s 0 4:Int)= _:=h4
 omega
theorem Cg{k:Int}(h:Says s k l I)(A:Option Addr)(c:Nat)(w:World)(hA:At w A (I.map Value.string))(hc:I.length<=c):Calls Tryz.prog 92 #[.agg #[.int .i64 k,.int .i64 l,.slice A I.length c]] w (Ret (.agg #[.string s,.int .i64 0]) w):=by
 have h2:=uz k l A c I w hA h.right hc
 rw[h.bytes] at h2
 exact h2
theorem GL{k:Int}(h:Says s k l I)(A:Option Addr)(c:Nat)(w:World)(hA:At w A (I.map Value.string))(hc:I.length<=c):Calls Tryz.prog 93 #[.agg #[.int .i64 k,.int .i64 l,.slice A I.length c]] w (fun e w'=>∃A c,e= .returned (.agg #[.int .i64 k,.int .i64 l,.slice A I.length c])/\St w [] [eO 9 1 (.slice A I.length c) I.length (I.map Value.string)] w'):=by
 refine(j7 k l A c I w hA (by have:=(cC h.right).2.2.1.1;omega) hc).mono ?_
 rintro e w' ⟨A2,c2,rfl,h1,h2⟩
 have h1:w'.ownsRow w.heap.size 9 1 (.slice A2 (af I).length c2) (af I).length ((af I).map Value.string):=h1
 have e2:(k,l,af I).2.2.length=I.length:=by show (af I).length= _;rw[h.plain]
 rw[h.plain] at h1
 refine⟨A2,c2,by rw[e2],?_⟩
 exact St.one h2 (cm h1)
theorem Dq(s:ByteArray)(k l:Int)(I:List ByteArray)(w:World)(hh:Says s k l I):
  Calls Tryz.prog 38 #[.string s] w ((fun(e:Ending) (w':World)=>∃A c,e= .returned (.agg #[.int .i64 k,.int .i64 l,.slice A I.length c,.int .i64 0])/\St w [] [eO 9 1 (.slice A I.length c) I.length (I.map Value.string)] w')):=by
 have hsz:=hh.size
 have hn4:=jC s 0
 have hTI:aO I<=498:=by have h:=(cC hh.right).2.2.2;rw[cK,hh.plain] at h;omega
 have hI24:I.length<=24:=(cC hh.right).2.2.1.1
 have hlt4:=ir (s.extract 4 s.size)
 go_enter Tryz.func38,Tryz.ntmps38
 have al:=St.start w
 refine wq (sqr (bY #[vi 0,vi 0,sn,vi 0] al fun bF W1 aA=>?_))
 refine aa (wq (wq (sqr ?_)))
 have hd5:((s.size:Int) != 512)=false:=(by rw[hsz];rfl)
 refine sqp [.m 8 0,.k 9 (vi ((s.size:Int))),.e 10 (.bool ((s.size:Int) != 512)) (.bool false) (congrArg Value.bool hd5)] ?_
 refine aa (wcf rfl (wp_skip (aa (wq (wq ?_)))))
 have hd7:(!(((ag (aY (s.extract 4 s.size):Int) 4)).toList==(s.extract 0 4).toList))=false:=(FU hh)
 have hd8:(!((s.extract 5 9).toList==(s.extract 508 s.size).toList))=false:=(F7 hh)
 refine bG [0,1,3,7,15,0,32,127,255,511,1023,511,2559,8191,16383] [] [.k 12 (.string s),.c 13 (.string (s.extract 4 s.size)),.c 14 (.int .u32 ((aY (s.extract 4 s.size):Int))),tW 15 .i64 (aY (s.extract 4 s.size):Int) (aY (s.extract 4 s.size):Int) (IntWalk.i64_in _ (by omega)),.c 16 (.string ((ag (aY (s.extract 4 s.size):Int) 4))),.k 17 (.string s),.c 18 (.string (s.extract 0 4)),.e 19 (.bool (!(((ag (aY (s.extract 4 s.size):Int) 4)).toList==(s.extract 0 4).toList))) (.bool false) (congrArg Value.bool hd7),.k 20 (.bool false),.k 21 (.string s),.c 22 (.string (s.extract 5 9)),.k 23 (.string s),.c 24 (.string (s.extract 508 s.size)),.e 25 (.bool (!((s.extract 5 9).toList==(s.extract 508 s.size).toList))) (.bool false) (congrArg Value.bool hd8),.k 26 (.bool false)] [0] [1,2,4,6,10,12] [(12,0,15,27)] aA ?_ fun W6 bI=>?_
 refine⟨?_,?_,?_,?_,?_,?_,trivial⟩
 exact xs4 rfl id fun cx=>em (l:=4) rfl (by kernel_rfl) (cx.an 0) (cx.co _) (by omega) (by omega)
 exact xsc rfl id rfl rfl fun cx=>⟨_,oU (s.extract 4 s.size) _ (by rw[ByteArray.size_extract];omega),(ax (cx.an 1))⟩
 exact xsc rfl id rfl rfl fun cx=>⟨_,gh (aY (s.extract 4 s.size):Int) 4 _ (by decide) (by omega),(aP (cx.an 3) (cx.co _))⟩
 exact xs4 rfl id fun cx=>fc (l:=4) rfl (by kernel_rfl) (cx.an 5) (cx.co _) (by omega) (by omega)
 exact xs5 rfl id (fun cx=>(cx.an 8)) fun cx=>mt (l:=5) (m:=9) rfl (by kernel_rfl) (cx.an 9) (cx.co _) (cx.co _) (by omega) (by omega) (by omega) (by omega)
 exact xs5 rfl id (fun cx=>(cx.an 8)) fun cx=>em (l:=508) rfl (by kernel_rfl) (cx.an 11) (cx.co _) (by omega) (by omega)
 refine aa (wcf rfl (wp_skip (aa (wq (sqr (sqp [.m 28 0,.k 29 (.agg #[.string s,vi 4,.bool false])] ?_))))))
 refine ce #[.string s,vi 4,.bool false] bI fun ip Bq fi=>?_
 refine sqp [.m 3 30] ?_
 refine aa (wq (sqr (sqp [.m 31 3] ?_)))
 refine fO (vi k) (eB ip 149 #[.string s,vi 5,.bool false]) 1 fi (by
   refine svA fun g b W X cx=>?_
   refine am.call (aq (args:=#[vp ip,vi 1]) rfl cx.sees rfl (by kernel_rfl) (aP (cx.ou 31) (cx.co _))) ?_
   refine(rB _ s 4 1 _ ⟨(cx.bi 1 rfl),by omega,by omega⟩ (by omega) (by omega)).mono ?_
   rintro e W1 ⟨rfl,bR,hu⟩
   refine⟨_,rfl,bZ (cx.init 1 _ rfl) rfl rfl hu bR.1 (fun d i X' hs hb hv hx=>?_)⟩
   exact⟨(hv 32 rfl).1.trans (congrArg (Value.int .i64) hh.kind),hx⟩) fun wZ cw=>?_
 refine sqp [.m 33 3] ?_
 refine fO (vi l) (eB ip 149 #[.string s,vi 9,.bool false]) 1 cw (by
   refine svA fun g b W X cx=>?_
   refine am.call (aq (args:=#[vp ip,vi 4]) rfl cx.sees rfl (by kernel_rfl) (aP (cx.ou 33) (cx.co _))) ?_
   refine(rB _ s 5 4 _ ⟨(cx.bi 1 rfl),by omega,by omega⟩ (by omega) (by omega)).mono ?_
   rintro e W1 ⟨rfl,bR,hu⟩
   refine⟨_,rfl,bZ (cx.init 1 _ rfl) rfl rfl hu bR.1 (fun d i X' hs hb hv hx=>?_)⟩
   exact⟨(hv 34 rfl).1.trans (congrArg (Value.int .i64) hh.lsn),hx⟩) fun pU dl=>?_
 refine sqp [.k 35 (.agg #[vi k,vi l,sn])] ?_
 refine bY #[vi 0,vi 0,sn] dl fun xw IV kY=>?_
 refine aV (n:=3) 2 #[vi k,vi l,sn] kY fun qI cU=>?_
 refine aa (wq (sqr (sqp [.m 36 3] ?_)))
 refine fO (vi ((I.length:Int))) (eB ip 149 #[.string s,vi 10,.bool false]) 1 cU (by
   refine svA fun g b W X cx=>?_
   refine am.call (aq (args:=#[vp ip,vi 1]) rfl cx.sees rfl (by kernel_rfl) (aP (cx.ou 36) (cx.co _))) ?_
   refine(rB _ s 9 1 _ ⟨(cx.bi 1 rfl),by omega,by omega⟩ (by omega) (by omega)).mono ?_
   rintro e W1 ⟨rfl,bR,hu⟩
   refine⟨_,rfl,bZ (cx.init 1 _ rfl) rfl rfl hu bR.1 (fun d i X' hs hb hv hx=>?_)⟩
   exact⟨(hv 37 rfl).1.trans (congrArg (fun n:Nat=>Value.int .i64 (n:Int)) hh.many),hx⟩) fun sa ef=>?_
 refine sqp [.m 5 37] ?_
 refine aa (wq (wq (sqr (sqp [.k 6 (vi 0)] ?_))))
 refine aa (wp_block ?_)
 have hn24:=St.nilrow ef 9
 simp only[List.cons_append,List.nil_append] at hn24
 refine aT (fun t_ mz az W=>∃j:Nat,∃A:Option Addr,∃c:Nat,j<=I.length/\mz=I.length-j/\az=⟨(ovr (jv az) [(6,6,0,[vi ((j:Int))]),(31,38,16,[])] t_).toArray,[]⟩/\St w [] [eB bF 78 #[vi 0,vi 0,sn,vi 0],eB ip 149 #[.string s,vi (((10+aO (I.take j):Nat):Int)),.bool false],eB xw 48 #[vi k,vi l,.slice A j c],eO 9 1 (.slice A j c) j ((I.take j).map Value.string)] W) (I.length-0) ?_ ?_
 exact⟨0,none,0,by omega,rfl,(by kernel_rfl),hn24.pk [0,1,2,3]⟩
 rintro n25 a25 sd ⟨j,A,c,hj,rfl,hj_,cM⟩
 refine ovz hj_ fun P6=>?_
 refine wq (wq (sqr (sqp [.m 38 6,.m 39 5,.k 40 (.bool (decide ((j:Int)<(I.length:Int)))),.m 41 40] ?_)))
 refine sqw 41 [42,43] rfl (fun _=>sqp [.m 42 6,.k 43 (.bool (decide ((j:Int)<30)))] sqe) ?_
 refine sqp [sPa 44 (decide ((j:Int)<(I.length:Int))) (decide ((j:Int)<30))] ?_
 refine aa (wbs (fun kG=>?_) fun kG=>?_)
 have l6:=kG
 simp only[zB] at l6
 obtain⟨L3,L5⟩:=l6
 refine wp_skip (aa (wq (wp_block ?_)))
 have htj:=hh.text j (by omega)
 refine aH [0,1,0,4,12,31,63,127] [[],[2],[],[1],[],[5,3],[],[2]] [[],[],[],[4],[5],[6],[],[7]] [[],[],[],[1],[],[3],[],[2]] [.k 47 (po xw 2),.c 48 (.slice A j c),.k 49 (vp ip),.a 50,.a 51,.a 52,.k 53 (po xw 2),.n] (fun ix d b X=>match ix with|0|1|2=>True|3=>d 50= .string ((I.getD j ByteArray.empty))/\X 4=eB ip 149 #[.string s,vi (((10+aO (I.take (j+1)):Nat):Int)),.bool false]|4=>d 51= .slice (sA (b 51)) 1 1/\X 5=eO 9 1 (.slice (sA (b 51)) 1 1) 1 ([.string ((I.getD j ByteArray.empty))])|5=>d 52= .slice (sA (b 52)) (j+1) (sC (b 52))/\X 6=eO 9 1 (.slice (sA (b 52)) (j+1) (sC (b 52))) (j+1) ((I.take (j+1)).map Value.string)|6=>True|7=>X 7=eB xw 48 #[vi k,vi l,.slice (sA (b 52)) (j+1) (sC (b 52))]|_=>True) [0,4,5,6,7] [1,3,4,5,7] [(47,0,7,54)] cM ?_ ?_ ?_
 exact fun ix _ _ _ _ _ _ hs hb hx h=>match ix,h with
 |3,h=>by dsimp only;rw[<-hs 50 rfl,<-hx 4 rfl];exact h
 |4,h=>by dsimp only;rw[<-hs 51 rfl,<-hb 51 rfl,<-hx 5 rfl];exact h
 |5,h=>by dsimp only;rw[<-hs 52 rfl,<-hb 52 rfl,<-hx 6 rfl];exact h
 |7,h=>by dsimp only;rw[<-hb 52 rfl,<-hx 7 rfl];exact h
 |0,_|1,_|2,_|6,_|_+8,_=>trivial
 refine⟨?_,?_,?_,?_,?_,trivial⟩
 exact xs4 rfl id fun cx=>ae rfl (by kernel_rfl) (cx.an 0) ((cx.bi 2 rfl).cell 2)
 refine svA fun g b W X cx=>?_
 refine am.call (aq (args:=#[vp ip]) rfl cx.sees rfl (by kernel_rfl) (ax (cx.an 2))) ?_
 refine(GG _ s (10+aO (I.take j)) _ ⟨(cx.bi 1 rfl),by omega,by omega⟩ htj.1 htj.2.1).mono ?_
 rintro e W1 ⟨rfl,bR,hu⟩
 have hb9:=bR.1
 rw[htj.2.2.2] at hb9
 refine⟨_,rfl,bZ (cx.init 1 _ rfl) rfl rfl hu hb9 (fun d i X' hs hb hv hx=>?_)⟩
 exact⟨(hv 50 rfl).1.trans (congrArg Value.string htj.2.2.1),hx⟩
 refine svA fun g b W X cx=>?_
 have P7:g (.tmp 50)= .string ((I.getD j ByteArray.empty)):=(dTn (cx.an 3)).1
 exact du (e:=9) (xs:=[.string ((I.getD j ByteArray.empty))]) rfl (by simp[go_sem,P7]) rfl (by decide) rfl rfl (fun _ _ _ _ _=> .intro)
 refine svA fun g b W X cx=>?_
 obtain⟨i0,hi0,hz0,hz1,hz2⟩:=info_parts Tryz.infoStr
 refine eH (n:=j) (m:=1) (nm:=j+1) (xs:=(I.take j).map Value.string) (news:=[.string ((I.getD j ByteArray.empty))]) (xs':=(I.take (j+1)).map Value.string) rfl (ty:=46) rfl (by kernel_rfl) hi0 hz0 hz1 hz2 rfl (cx.an 1) cx (cx.init 3 _ rfl) rfl (dTn (cx.an 4)).1 (by first|(simp;done)|(simp;omega)) (At.of_own (cx.row (dTn (cx.an 4)).2 rfl)) (by simp[Value.oneCell']) (by simp only[maxLen];omega) (by omega) rfl rfl rfl (by omega) (Be (by omega)) (fun d i X' hs hb hv hx=>?_)
 exact⟨hv,hx⟩
 refine svA fun g b W X cx=>?_
 exact bx (n:=1) rfl (cx.an 6) (dTn (cx.an 5)).1 (by kernel_rfl) (by kernel_rfl) (by kernel_rfl) cx (cx.init 2 _ rfl) rfl (nle rfl) (by kernel_rfl) rfl rfl rfl (fun d i X' hs hb hx=>by rw[hb 52];exact hx)
 intro d b X uB hD dG fr aG
 simp only[exq 4 ((dTn (hD 3 lq)).2),exq 5 ((dTn (hD 4 lq)).2),exq 6 ((dTn (hD 5 lq)).2),exq 7 ((dTn (hD 7 lq)))] at dG
 simp only[ed 50 ((dTn (hD 3 lq)).1),ed 51 ((dTn (hD 4 lq)).1),ed 52 ((dTn (hD 5 lq)).1)] at aG
 generalize sA (b 51)=Rm,sA (b 52)=Ns,sC (b 52)=Nt at dG aG
 clear hD;subst aG;clear d b X
 refine aw (aa (sqr (sqp [.m 45 6,sI 46 ((j:Int)+1) (by omega),.m 6 46] ?_)))
 refine aa ?_
 refine⟨I.length-((j+1)),by omega,?_⟩
 exact⟨(j+1),Ns,Nt,by omega,rfl,(by kernel_rfl),dG.pk [0,1,4,3]⟩
 have l6:=kG
 simp only[zB] at l6
 refine wp_exit (au (au (bh (aa (wq ?_)))))
 obtain rfl:j=I.length:=by omega
 rw[List.take_length] at cM
 have hcap:I.length<=c:=D3 (cM.get 3 rfl).holds
 refine sqr ?_
 refine bE 2 3 cM ?_
 refine sqk (.agg #[.string s,vi 0]) cM (fun cx=>⟨_,Cg hh _ _ _ (At.of_own (cx.ri 3 rfl)) hcap,(ax (cx.ou 54))⟩) fun pT dd=>?_
 refine bY #[.string ByteArray.empty,vi 0] dd fun Ji se dz=>?_
 refine aV (n:=2) 4 #[.string s,vi 0] dz fun Fd gp=>?_
 refine aa (wq (wq (sqr (sqp [.m 56 3,.k 57 (vp ip),.k 58 (po ip 2)] ?_))))
 refine av 1 gp ?_
 refine sqp [.k 60 (.bool false)] ?_
 refine dE 60 [61,62] rfl rfl ?_
 have hd49:(decide (24<(I.length:Int)))=false:=(decide_eq_false (by omega))
 refine sqp [.m 61 5,.e 62 (.bool (decide (24<(I.length:Int)))) (.bool false) (congrArg Value.bool hd49)] ?_
 refine sqp [.k 63 (.bool false),.k 64 (.bool false)] ?_
 refine dE 64 [65,66,67] rfl rfl ?_
 refine sqp [.k 65 (po Ji 1)] ?_
 refine av 4 gp ?_
 refine sqp [.k 67 (.bool false)] ?_
 refine sqp [.k 68 (.bool false),.k 69 (.bool false)] ?_
 refine dE 69 [70,71,72,73] rfl rfl ?_
 refine sqp [.k 70 (vp Ji)] ?_
 refine av 4 gp ?_
 have hd61:(!(s.toList==s.toList))=false:=(by simp)
 refine sqp [.m 72 0,.e 73 (.bool (!(s.toList==s.toList))) (.bool false) (congrArg Value.bool hd61)] ?_
 refine sqp [.k 74 (.bool false)] ?_
 refine aa (wcf rfl (wp_skip (aa (wq (sqr ?_)))))
 refine bE 2 3 gp ?_
 refine iC (fun nb nd=> .agg #[vi k,vi l,.slice nb I.length nd]) (fun nb nd=>eO 9 1 (.slice nb I.length nd) I.length (I.map Value.string)) gp (fun cx=>⟨_,(GL hh _ _ _ (At.of_own (cx.ri 3 rfl)) hcap).mono (by rintro e W1 ⟨A4,c4,rfl,aU⟩;exact⟨_,_,rfl,aU⟩),(ax (cx.ou 76))⟩) fun nb nd I5 gI=>?_
 refine sqp [.k 78 (.agg #[vi k,vi l,.slice nb I.length nd,vi 0])] ?_
 refine aV (n:=4) 0 #[vi k,vi l,.slice nb I.length nd,vi 0] gI fun LZ nF=>?_
 refine aa (wp_ret ?_)
 refine bpr (.agg #[vi k,vi l,.slice nb I.length nd,vi 0]) (bA (n:=4) Tryz.results38 rfl (by kernel_rfl) (by kernel_rfl) (nF.blk 0 rfl) rfl) ?_
 exact⟨_,_,rfl,nF.pick [5] (by decide) rfl⟩
theorem Ex(s:ByteArray)(w:World)(hs:s=cO 512):
  Calls Tryz.prog 38 #[.string s] w (Ret (.agg #[.int .i64 0,.int .i64 0,sn,.int .i64 12]) w):=by
 have hsz:s.size=512:=by rw[hs];exact gy 512
 have hz1:=HZ hs
 have hlt4:=ir (s.extract 4 s.size)
 go_enter Tryz.func38,Tryz.ntmps38
 have al:=St.start w
 refine wq (sqr (bY #[vi 0,vi 0,sn,vi 0] al fun bF W1 aA=>?_))
 refine aa (wq (wq (sqr ?_)))
 have hd5:((s.size:Int) != 512)=false:=(by rw[hsz];rfl)
 refine sqp [.m 8 0,.k 9 (vi ((s.size:Int))),.e 10 (.bool ((s.size:Int) != 512)) (.bool false) (congrArg Value.bool hd5)] ?_
 refine aa (wcf rfl (wp_skip (aa (wq (wq ?_)))))
 have hd7:(!(((ag (aY (s.extract 4 s.size):Int) 4)).toList==(s.extract 0 4).toList))=true:=hz1
 refine bG [0,1,3,7,15,0,32,127,255,511,1023,511,2559,8191,16383] [] [.k 12 (.string s),.c 13 (.string (s.extract 4 s.size)),.c 14 (.int .u32 ((aY (s.extract 4 s.size):Int))),tW 15 .i64 (aY (s.extract 4 s.size):Int) (aY (s.extract 4 s.size):Int) (IntWalk.i64_in _ (by omega)),.c 16 (.string ((ag (aY (s.extract 4 s.size):Int) 4))),.k 17 (.string s),.c 18 (.string (s.extract 0 4)),.e 19 (.bool (!(((ag (aY (s.extract 4 s.size):Int) 4)).toList==(s.extract 0 4).toList))) (.bool true) (congrArg Value.bool hd7),.k 20 (.bool true),.u 21,.u 22,.u 23,.u 24,.u 25,.k 26 (.bool true)] [0] [1,2,4,6] [(12,0,15,27)] aA ?_ fun W6 bI=>?_
 refine⟨?_,?_,?_,?_,trivial⟩
 exact xs4 rfl id fun cx=>em (l:=4) rfl (by kernel_rfl) (cx.an 0) (cx.co _) (by omega) (by omega)
 exact xsc rfl id rfl rfl fun cx=>⟨_,oU (s.extract 4 s.size) _ (by rw[ByteArray.size_extract];omega),(ax (cx.an 1))⟩
 exact xsc rfl id rfl rfl fun cx=>⟨_,gh (aY (s.extract 4 s.size):Int) 4 _ (by decide) (by omega),(aP (cx.an 3) (cx.co _))⟩
 exact xs4 rfl id fun cx=>fc (l:=4) rfl (by kernel_rfl) (cx.an 5) (cx.co _) (by omega) (by omega)
 refine aa (wct rfl (wq (sqr (sqp [.k 27 (.agg #[vi 0,vi 0,sn,vi 12])] ?_))))
 refine aV (n:=4) 0 #[vi 0,vi 0,sn,vi 12] bI fun W9 cq=>?_
 refine aa (wp_ret (aj ?_))
 refine bpr (.agg #[vi 0,vi 0,sn,vi 12]) (bA (n:=4) Tryz.results38 rfl (by kernel_rfl) (by kernel_rfl) (cq.blk 0 rfl) rfl) ?_
 exact Ret.of rfl cq.ext
end
end Go.Proofs.YtcdjaepgahbhfaaGreat
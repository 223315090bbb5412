import Derived.Test.YtcdjaepgahbhfaaGreatZ3
import Derived.RangeFuncBox
import Derived.RangeFuncBound
import Derived.RangeFuncCalls
import Derived.RangeFuncLeaves
import Derived.TacticsIn
import Derived.OrdersIn
import Derived.LoopNIn
set_option linter.unusedVariables false
set_option linter.unusedSimpArgs false
set_option maxRecDepth 100000
set_option maxHeartbeats 16000000
namespace Go.Proofs.YtcdjaepgahbhfaaGreat
variable{B P0 Ps Ps2:List ShT}{EA PA RA:Option Addr}{K:Act->World->Prop}{P:Program}{Pc b base cnt d db e ec i ib id k l mb off q q' r rc sb sz tb:Nat}{Q:Exit->Act->World->Prop}{W W' w w' w0:World}{a:Act}{args t0:Array Value}{bor fp pre:List Nat}{cur:Option (Int×Option Nat)}{d0:List Deferred}{dr:Bool}{f:FuncId}{left:Int->Bool}{lsn:Int}{m:Int->Option (Option Nat)}{o:Oper}{ops:Array Oper}{s:ByteArray}{t:ShT}{x y:Operand}{xs:List Value}
section
open Go.RowKit
theorem St.with1{L:List Ent}{b2 t2:Nat}{c2:Array Value}(h:St w bor L w)(h2:Blk w b2 t2 c2)(n2:b2∉bor)(hL:∀e∈L,∀k∈e.fp,k∈bor):St w (b2::bor) (L++[eB b2 t2 c2]) w:=by
 refine⟨Upd.refl _ _,fun x hx=>?_,?_⟩
 rcases List.mem_append.1 hx with hx|hx
 have h4:=h.ok x hx
 exact⟨h4.holds,h4.loc,fun k hk=>⟨(h4.own k hk).1.imp (fun z=>by simp[z]) id,(h4.own k hk).2⟩⟩
 rw[List.mem_singleton] at hx
 subst hx
 exact⟨h2,d7 _ _ _,fun k hk=>⟨.inl (by simp[eB] at hk;simp[hk]),by simp[eB] at hk;subst hk;exact h2.lt⟩⟩
 refine List.pairwise_append.2 ⟨h.apart,List.pairwise_singleton _ _,fun x hx y hy k hk hk2=>?_⟩
 have h5:=hL x hx k hk
 rw[List.mem_singleton] at hy
 subst hy
 simp[eB] at hk2
 subst hk2
 exact n2 h5
theorem St.less1{L:List Ent}{b2 t2:Nat}{c2:Array Value}(h:St w (b2::bor) (L++[eB b2 t2 c2]) W)(h2:Blk w b2 t2 c2):St w bor L W:=by
 have k2:Blk W b2 t2 c2:=(h.ok (eB b2 t2 c2) (by simp)).holds
 have ha:=List.pairwise_append.1 h.apart
 refine⟨⟨h.upd.os,h.upd.tape,h.upd.output,h.upd.size,fun k hk hn=>?_⟩,fun x hx=>?_,ha.1⟩
 by_cases e2:k=b2
 subst e2;exact k2.trans h2.symm
 exact h.upd.block k hk (by simp;exact⟨e2,hn⟩)
 have h4:=h.ok x (List.mem_append_left _ hx)
 refine⟨h4.holds,h4.loc,fun k hk=>⟨?_,(h4.own k hk).2⟩⟩
 have n2:k≠b2:=fun e=>ha.2.2 x hx (eB b2 t2 c2) (by simp) k hk (by simp[eB,e])
 rcases(h4.own k hk).1 with h5|h5
 simp only[List.mem_cons] at h5
 rcases h5 with h5|h5
 exact absurd h5 n2
 exact .inl h5
 exact .inr h5
theorem wN(w:World):
  Calls Tryz.prog 131 #[] w (Ret (.int .i64 0) w):=by
 go_enter Tryz.func131,Tryz.ntmps131
 have al:=St.start w
 refine wq (sqr (sqp [.k 0 (vi 0)] ?_))
 refine aa (wq (sqr (sqp [.k 0 (vi 0)] ?_)))
 refine aa (wp_ret ?_)
 refine bpr (vi 0) (ai Tryz.results131 rpt) ?_
 exact Ret.of rfl al.ext
theorem G1(b b2:Nat)(D:DkM)(fp:List Nat)(w:World)(hB:(eDk b D fp).holds w)(hlt:∀k∈fp,k<w.heap.size)(h2:Blk w b2 30 #[po b 0])(n2:b2∉fp)(hz:D.log.size<=10000000):
  Calls Tryz.prog 132 #[po b2 0] w (mi b (flD D) fp w):=by
 have st1:=St.lend hB (dV _ _ _) hlt
 obtain⟨PA,Pc,GA,gc,Ps,Qs,hps,hsub,hfp,hap,hall⟩:=hB
 have st0:=St.unpack st1 hfp hall hap
 have st2:St w (b2::fp) [eB b 100 #[.slice PA D.pgs.length Pc,.slice GA D.log.size gc,.int .i64 ((D.fl:Int)),.bool D.off,.bool D.armed,.int .i64 D.left],eO 144 513 (.slice PA D.pgs.length Pc) D.pgs.length (Ps.flatMap shC),eO 5 1 (.slice GA D.log.size gc) D.log.size ((bo D.log).map (Value.int .u8)),eWs Qs,eB b2 30 #[po b 0]] w:=St.with1 st0 h2 n2 (fun e he k hk=>by rw[show fp=(eDk b D fp).fp from rfl,show (eDk b D fp).fp= _ from hfp];exact List.mem_flatMap.2 ⟨e,he,hk⟩)
 go_enter Tryz.func132,Tryz.ntmps132
 have al:=st2
 refine aH [0,0,2,6,14,30,63,127,255] [[4],[4],[],[],[0],[],[],[],[0]] [[],[],[],[],[],[],[],[],[5]] [[],[],[],[],[],[],[],[],[0]] [.c 1 (vp b),.c 2 (vp b),.k 3 (vp b),.k 4 (po b 1),.c 5 (.slice GA D.log.size gc),.k 6 (vi ((D.log.size:Int))),.k 7 (vp b),.k 8 (po b 2),.n] (fun ix j g X=>match ix with|0|1|2|3|4|5|6|7=>True|8=>X 5=eB b 100 #[.slice PA D.pgs.length Pc,.slice GA D.log.size gc,vi ((D.log.size:Int)),.bool D.off,.bool D.armed,vi D.left]|_=>True) [1,2,3,4,5] [0,1,4,8] [(1,0,8,9)] al ?_ ?_ ?_
 exact fun ix _ _ _ _ _ _ hs hb hx h=>match ix,h with
 |8,h=>by dsimp only;rw[<-hx 5 rfl];exact h
 |0,_|1,_|2,_|3,_|4,_|5,_|6,_|7,_|_+9,_=>trivial
 refine⟨?_,?_,?_,?_,trivial⟩
 exact xs4 rfl id fun cx=>ae rfl (by kernel_rfl) (cx.ou 0) ((cx.bi 4 rfl).cell 0)
 exact xs4 rfl id fun cx=>ae rfl (by kernel_rfl) (cx.ou 0) ((cx.bi 4 rfl).cell 0)
 exact xs4 rfl id fun cx=>ae rfl (by kernel_rfl) (cx.an 3) ((cx.bi 0 rfl).cell 1)
 refine svA fun p g W X cx=>?_
 exact bx (n:=1) rfl (cx.an 7) (cx.an 5) (by kernel_rfl) (by kernel_rfl) (by kernel_rfl) cx (cx.init 0 _ rfl) rfl (nle rfl) (by kernel_rfl) rfl rfl rfl (fun _ _ _ _ _=>id)
 intro j g X W1 hD aA fr aG
 simp only[exq 5 ((dTn (hD 8 lq)))] at aA
 clear hD;subst aG;clear j g X
 refine bpe (.tuple #[]) (by simp[results,Tryz.results132,go_sem]) ?_
 have hl_:=St.less1 (L:=[eB b 100 #[.slice PA D.pgs.length Pc,.slice GA D.log.size gc,vi ((D.log.size:Int)),.bool D.off,.bool D.armed,vi D.left],eO 144 513 (.slice PA D.pgs.length Pc) D.pgs.length (Ps.flatMap shC),eO 5 1 (.slice GA D.log.size gc) D.log.size ((bo D.log).map (Value.int .u8)),eWs Qs]) (aA.pick [4,0,1,2,3] (by decide) rfl) h2
 exact⟨rfl,St.dk (L:=[]) (D:=flD D) (PA:=PA) (Pc:=Pc) (GA:=GA) (gc:=gc) hl_ hps hsub⟩
theorem EZ(b b2:Nat)(D:DkM)(fp:List Nat)(w:World)(hB:(eDk b D fp).holds w)(hlt:∀k∈fp,k<w.heap.size)(h2:Blk w b2 30 #[po b 0])(n2:b2∉fp)(hz:D.log.size<=10000000):
  Calls Tryz.prog 126 #[po b 0,.func (.func 131) #[] #[],.func (.func 132) #[] #[po b2 0]] w (bV b (opD D 0 flD) fp w):=by
 have st1:St w fp [eDk b D fp] w:=St.lend hB (dV _ _ _) hlt
 go_enter Tryz.func126,Tryz.ntmps126
 have al:=st1
 refine wq (sqr (sqp [.k 6 (vi 0)] ?_))
 refine aa (wq (wq ?_))
 obtain⟨onv,hon⟩:∃z,(!D.off)=z:=⟨_,rfl⟩
 refine sqr (sqp [.m 8 0] ?_)
 refine sqk (.bool onv) al (fun cx=>⟨_,rD hon (mj b D _ (fb (CtxV.holdF cx (cx.init 0 _ rfl) rfl))),(ax (cx.ou 8))⟩) fun W3 bc=>?_
 refine sqp [.k 10 (.bool (!(onv)))] ?_
 refine aa ?_
 rcases Bool.eq_false_or_eq_true (onv) with eX|eX
 ·refine wp_cond_false (show Act.eval _ _= .bool false from(congrArg Value.bool (by rw[eX];rfl))) (wp_skip (aa (wq (wq (sqr (sqp [.m 11 1] ?_))))))
  refine sqv (vi 0) bc (iq rfl rfl rfl rfl rfl (fun _ _ _ h=>h) fun c g W X cx=>⟨_,_,cQ (f:=131) (args:=#[]) (args':=#[]) rfl rfl (cx.ou 11) (by kernel_rfl) ji rfl,wN _⟩) fun W7 aZ=>?_
  refine sqp [.m 7 12] ?_
  refine aa (wq (sqr (sqp [.m 13 7,.k 14 (.bool false)] ?_)))
  refine aa (wcf rfl (wp_skip (aa (wq (wq ?_)))))
  have hD_:(eDk b D fp).holds W7:=(aZ.ok _ (List.mem_singleton.2 rfl)).holds
  obtain⟨PA,Pc,GA,gc,Ps,Qs,hps,hsub,hfp,hap,hall⟩:=hD_
  have uR:St w fp [eB b 100 #[.slice PA D.pgs.length Pc,.slice GA D.log.size gc,vi ((D.fl:Int)),.bool D.off,.bool D.armed,vi D.left],eO 144 513 (.slice PA D.pgs.length Pc) D.pgs.length (Ps.flatMap shC),eO 5 1 (.slice GA D.log.size gc) D.log.size ((bo D.log).map (Value.int .u8)),eWs Qs] W7:=St.unpack aZ hfp hall hap
  refine sqr (sqp [.m 16 0,.k 17 (vp b),.k 18 (po b 4)] ?_)
  refine av 0 uR ?_
  refine sqp [.m 20 19] ?_
  refine d6 20 [21,22,23,24,25] ?_ rfl (fun hq=>?_) ?_
  rotate_left
  refine sqp [.m 21 0,.k 22 (vp b),.k 23 (po b 5)] ?_
  refine av 0 uR ?_
  refine sqp [.k 25 (.bool (decide (D.left<=0)))] ?_
  exact sqe
  refine c8 ?_
  refine sqp [sPa 26 D.armed (decide (D.left<=0))] ?_
  refine aa (wbs (fun td=>?_) fun td=>?_)
  have rI:=td
  simp only[zB] at rI
  obtain⟨QD,QE⟩:=rI
  refine wq (sqr (sqp [.m 27 0,.k 28 (vp b),.k 29 (po b 3)] ?_))
  refine aV (n:=1) 0 #[.slice PA D.pgs.length Pc,.slice GA D.log.size gc,vi ((D.fl:Int)),.bool true,.bool D.armed,vi D.left] uR fun Bp fx=>?_
  refine aa (wq (sqr (sqp [.k 6 (vi 24)] ?_)))
  refine aa (wp_ret (aj ?_))
  refine bpr (vi 24) (ai Tryz.results126 rpt) ?_
  obtain⟨fp2,hk_⟩:=St.dk (L:=[]) (D:={D with off:=true}) (PA:=PA) (Pc:=Pc) (GA:=GA) (gc:=gc) (fx.pick [0,1,2,3] (by decide) rfl) hps hsub
  exact bV.of (R':=({D with off:=true},24)) (by rw[opD,if_neg (by have h_:=hon.trans eX;simpa using h_),if_neg (by decide),if_pos (by simpa using td)]) hk_
  have rI:=td
  simp only[zB] at rI
  refine wp_skip (aa (wq (sqr (sqp [.m 30 0,.k 31 (vp b),.k 32 (po b 5)] ?_))))
  refine av 0 uR ?_
  refine sqp [.k 34 (vi ((cX D.left))),.k 35 (vp b),.k 36 (po b 5)] ?_
  refine aV (n:=1) 0 #[.slice PA D.pgs.length Pc,.slice GA D.log.size gc,vi ((D.fl:Int)),.bool D.off,.bool D.armed,vi ((cX D.left))] uR fun Br fj=>?_
  refine aa (wq ?_)
  obtain⟨D1,hD1⟩:∃z,({D with left:=cX D.left}:DkM)=z:=⟨_,rfl⟩
  obtain⟨fp2,hk_37⟩:=St.dk (L:=[]) (D:={D with left:=cX D.left}) (PA:=PA) (Pc:=Pc) (GA:=GA) (gc:=gc) (fj.pick [0,1,2,3] (by decide) rfl) hps hsub
  simp only[List.nil_append] at hk_37
  rw[hD1] at hk_37
  have hz1:D1.log.size<=10000000:=by rw[<-hD1];exact hz
  refine sqr (sqp [.m 37 2] ?_)
  refine bN (fun X_=>X_.fp) (.tuple #[]) (fun IX=>eDk b (flD D1) IX) 0 hk_37 (by
    refine svA fun c g W X cx=>?_
    refine am.call (cQ (f:=132) (args:=#[]) (args':=#[vp b2]) rfl rfl (cx.ou 37) (by kernel_rfl) ji rfl) ?_
    refine(G1 b b2 D1 _ _ (CtxV.holdF cx (cx.init 0 _ rfl) rfl) (CtxV.ltF cx (cx.init 0 _ rfl) rfl) (h2.upd cx.upd n2) (CtxV.notin cx (cx.init 0 _ rfl) rfl n2 h2.lt) hz1).mono ?_
    rintro e W1 ⟨rfl,fp4,aU⟩
    refine⟨_,rfl,aN (E:=eDk b D1 fp2) [eDk b (flD D1) fp4] (cx.init 0 _ rfl) rfl rfl aU (fun j p X' hs hb hv hN=>?_)⟩
    have aK:=(hv 38 rfl).1;have aW:=(hv 38 rfl).2
    exact⟨aK.trans rfl,cJ ((List.cons.inj hN).1)⟩) fun IX pT dd=>?_
  refine aa (wq (sqr (sqp [.k 6 (vi 0)] ?_)))
  refine aa (wp_ret ?_)
  refine bpr (vi 0) (ai Tryz.results126 rpt) ?_
  exact bV.of (R':=(flD D1,0)) (by rw[opD,if_neg (by have h_:=hon.trans eX;simpa using h_),if_neg (by decide),if_neg (by have h_:=td;intro h2_;simp[h2_.1,h2_.2] at h_),hD1]) dd
 refine wp_cond_true (show Act.eval _ _= .bool true from(congrArg Value.bool (by rw[eX];rfl))) (wq (sqr (sqp [.k 6 (vi 24)] ?_)))
 refine aa (wp_ret (aj ?_))
 refine bpr (vi 24) (ai Tryz.results126 rpt) ?_
 exact bV.of (R':=(D,24)) (by rw[opD,if_pos (by simpa using hon.trans eX)]) bc
theorem lX(b:Nat)(D:DkM)(fp:List Nat)(w:World)(hB:(eDk b D fp).holds w)(hlt:∀k∈fp,k<w.heap.size)(hz:D.log.size<=10000000):
  Calls Tryz.prog 63 #[po b 0] w (bV b (opD D 0 flD) fp w):=by
 have st1:St w fp [eDk b D fp] w:=St.lend hB (dV _ _ _) hlt
 go_enter Tryz.func63,Tryz.ntmps63
 have al:=st1
 refine wq (sqr ?_)
 refine ce #[vp b] al fun aB W1 aA=>?_
 refine sqp [.k 2 (vi 0)] ?_
 refine aa (wq (sqr (av 1 aA ?_)))
 refine sqv (.func (.func 132) #[] #[vp aB]) aA (by
   exact sv0 rfl rfl rfl rfl rfl (fun _ _ _ h=>h) fun c g W X cx=>by
    have zh:c (.tmp 1)=vp aB:=(cx.ou 1)
    simp[go_sem,Instr.makeFunc,zh]) fun W4 be=>?_
 refine bN (fun X_=>X_.fp) (vi ((opD D 0 flD).2)) (fun qP=>eDk b ((opD D 0 flD).1) qP) 0 be (by
   refine svA fun c g W X cx=>?_
   refine am.call (aq (args:=#[vp b,.func (.func 131) #[] #[],.func (.func 132) #[] #[vp aB]]) rfl cx.sees rfl (by kernel_rfl) (dN (cx.ou 3) (cx.sees.func _) (cx.ou 4))) ?_
   refine(EZ b _ D _ _ (CtxV.holdF cx (cx.init 0 _ rfl) rfl) (CtxV.ltF cx (cx.init 0 _ rfl) rfl) (cx.bi 1 rfl) (by have h_:=cx.ap 1 0 rfl rfl (by decide);rw[(cx.init 1 _ rfl),(cx.init 0 _ rfl)] at h_;exact h_ _ (List.mem_singleton.2 rfl)) hz).mono ?_
   rintro e W1 ⟨rfl,fp4,aU⟩
   refine⟨_,rfl,aN (E:=eDk b D fp) [eDk b (opD D 0 flD).1 fp4] (cx.init 0 _ rfl) rfl rfl aU (fun j n X' hs hb hv hN=>?_)⟩
   have aK:=(hv 5 rfl).1;have aW:=(hv 5 rfl).2
   exact⟨aK.trans rfl,cJ ((List.cons.inj hN).1)⟩) fun qP W5 aR=>?_
 refine sqp [.m 2 5] ?_
 refine aa (wp_ret ?_)
 refine bpr (vi ((opD D 0 flD).2)) (ai Tryz.results63 rpt) ?_
 exact bV.of rfl (aR.pick [0] (by decide) rfl)
end
section
open Go.RowKit
def z5:H5:=⟨cO 512,gy 512⟩
def sh0:ShT:=⟨z5,none,0,[]⟩
def kA(n:Nat):DkM:=⟨List.replicate n ⟨z5,[]⟩,⟨#[]⟩,0,false,false,0⟩
theorem Dm(n:Nat):bo (cO n)=List.replicate n 0:=by
 show ((cO n).data.toList).map _= _
 rw[mQ,List.map_replicate];rfl
theorem G2:hvC z5=List.replicate 512 (.int .u8 0):=by
 show (bo (cO 512)).map _= _
 rw[Dm,List.map_replicate]
def zSh:Value:= .agg (List.replicate 512 (Value.int .u8 0)++[Value.slice none 0 0]).toArray
theorem v7:zSh.cells.toList=shC sh0:=by
 show (List.replicate 512 (Value.int .u8 0)++[sn]).toArray.toList=hvC z5++[sn]
 rw[G2]
theorem yk:zSh.cells.size=513:=by rw[<-Array.length_toList,v7,dy]
theorem Tryz.infoSheetJ:(Tryz.prog.info? 144).map (fun i=>(i.zero,i.size,i.bytes))=some (some zSh,513,536):=by kernel_rfl
theorem Gs(n:Nat):(madeCells zSh.cells (n*513)).toList=(List.replicate n sh0).flatMap shC:=by
 have h:=vR shC sh0 zSh.cells v7 (by rw[yk];decide) n
 rw[yk] at h;exact h
section
variable{P:Program}{o:Oper}{ρ:Operand->Value}{W:World}
theorem sm{ts:Array TypeId}{k k':IntKind}{a b z:Int}(h:o.op= .call {callee:= .builtin .max,args:=#[x,y],argTypes:=ts})(hx:ρ x= .int k a)(hy:ρ y= .int k' b)(hz:max a b=z):(execOp ρ o).run P W= .ok (.value (.int k z)) W:=by
 subst hz
 unfold execOp;rw[h]
 simp only[resolve,invoke,builtin,List.map_toArray,List.map_cons,List.map_nil,hx,hy,Sem.run_bind,Sem.run_pure,Result.andThen_ok]
 have e:(Builtin.max_ ts o.type #[.int k a,.int k' b]).run P W= .ok (.int k (max a b)) W:=by
  unfold Builtin.max_
  show (List.foldlM Builtin.max2 (.int k a) [.int k' b]).run P W= _
  simp only[List.foldlM_cons,List.foldlM_nil,Builtin.max2]
  have h2:(if a<b then b else a)=max a b:=by omega
  rw[h2]
  rfl
 rw[e]
 rfl
end
def KO(n:Nat)(w:World)(e:Ending)(w':World):Prop:=∃b,e= .returned (.pointer (some ⟨b,0,none⟩))/\∃fp,St w [] [eDk b (kA n) fp] w'
theorem St.dkNew{a b:Ent}(n:Nat)(h:St w0 bor [a,b] W):St w0 bor ([a,b]++[eO 5 1 (sn) 0 [],eWs (List.replicate n sh0)]) W:=by
 have h1:=fh h 5 1
 have h3:=fh h 142 512
 have h5:=h3.ok (nX sh0) (by simp[nX,sh0])
 have h2:=St.addE (R:=(List.replicate n sh0).map nX) h1 (fun e he=>by
  rw[List.map_replicate] at he
  rw[(List.mem_replicate.1 he).2]
  exact⟨rfl,h5.holds,h5.loc⟩)
 have h4:=h2.packA
 simp only[List.append_assoc] at h4 |-;exact h4
theorem yn(n:Nat)(w:World)(hn:n<=400):
  Calls Tryz.prog 19 #[.int .i64 ((n:Int))] w (KO n w):=by
 go_enter Tryz.func19,Tryz.ntmps19
 have al:=St.start w
 refine wq (sqr (sqp [.k 2 (.pointer none)] ?_))
 refine aa (wq (sqr (sqp [.m 3 0] ?_)))
 refine sql (vi ((n:Int))) al (fun cx=>jE rfl (cx.ou 3) (cx.co _) (by omega)) ?_
 refine sql (vi ((n:Int))) al (fun cx=>sm rfl (cx.co _) (cx.ou 4) (by omega)) ?_
 refine ej (fun x_=>sA x_) (fun qQ=> .slice qQ n n) (fun qQ=>eO 144 513 (.slice qQ n n) n ((List.replicate n sh0).flatMap shC)) al (by
   refine svA fun c g W X cx=>?_
   obtain⟨i0,hi0,hz0,hz1,hz2⟩:=info_parts Tryz.infoSheetJ
   exact Hu (n:=n) (sz:=513) rfl (by kernel_rfl) hi0 hz0 hz1 hz2 (cx.ou 5) (cx.ou 5) (by omega) (by omega) (by omega) (by omega) (by simp only[maxLen];omega) (Gs n) rfl rfl (fun _ _ _ _ _=> .intro)) fun qQ W5 aR=>?_
 refine sqp [.k 7 (.agg #[.slice qQ n n,sn,vi 0,.bool false,.bool false,vi 0])] ?_
 refine ce #[.slice qQ n n,sn,vi 0,.bool false,.bool false,vi 0] aR fun Mj W7 aZ=>?_
 refine sqp [.m 2 8] ?_
 refine aa (wp_ret ?_)
 refine bpr (vp Mj) (ai Tryz.results19 rpt) ?_
 exact⟨_,rfl,St.dk (L:=[]) (D:=kA n) (PA:=qQ) (Pc:=n) (GA:=none) (gc:=0) (Ps:=List.replicate n sh0) (Qs:=List.replicate n sh0) (by have h_:=St.dkNew n (aZ.pick [1,0] (by decide) rfl);rw[show dkL Mj (kA n) qQ n none 0 (List.replicate n sh0) (List.replicate n sh0)= _ from by rw[dkL,dkC,show (kA n).pgs.length=n from List.length_replicate]];exact h_) (by rw[List.map_replicate];rfl) rfl⟩
end
section
open Go.RowKit
theorem D3{n c size:Nat}{e:TypeId}{A:Option Addr}(h:w.ownsRow base e size (.slice A n c) n xs):n<=c:=by
 rcases h.2 with ⟨hv,h0⟩|⟨g,cap,cur,hv,_,_,hle,_⟩
 omega
 injection hv with h1 h2 h3
 omega
theorem DF{n c size m:Nat}{e:TypeId}{A:Option Addr}(h:w.ownsRow base e size (.slice A n c) n xs)(hm:m<=n):w.ownsRow base e size (.slice A m c) m (xs.take (m*size)):=by
 obtain⟨hl,h2⟩:=h
 have hms:m*size<=n*size:=Nat.mul_le_mul_right _ hm
 refine⟨by rw[List.length_take];omega,?_⟩
 rcases h2 with ⟨hv,h0⟩|⟨g,cap,cur,hv,hb,hg,hle,hmx,hcs,htk⟩
 injection hv with h1 h3 h4
 have:m=0:=by omega
 subst this h1 h4
 exact .inl ⟨rfl,rfl⟩
 injection hv with h1 h3 h4
 subst h1 h4
 refine .inr ⟨g,c,cur,rfl,hb,hg,by omega,hmx,hcs,?_⟩
 rw[<-htk,List.take_take,Nat.min_eq_left hms]
theorem wE(s:ByteArray)(m:Nat):(bo s).take m=bo (s.extract 0 m):=by
 rw[bo,bo,gl,List.drop_zero,Nat.sub_zero,List.map_take]
def ctD(k:Nat)(D:DkM):DkM:={D with log:=D.log.extract 0 k,fl:=min D.fl k}
def ctE(D:DkM)(n:Int):Int:=if n<0\/(D.log.size:Int)<n then 1 else 0
theorem St.trunc{L1 L2:List Ent}{GA:Option Addr}{gc m:Nat}(h:St w bor (L1++eO 5 1 (.slice GA s.size gc) s.size ((bo s).map (Value.int .u8))::L2) W)(hm:m<=s.size):St w bor (L1++eO 5 1 (.slice GA (s.extract 0 m).size gc) (s.extract 0 m).size ((bo (s.extract 0 m)).map (Value.int .u8))::L2) W:=by
 have hz:(s.extract 0 m).size=m:=by rw[ByteArray.size_extract];omega
 rw[hz]
 refine St.repl h (by cases GA<;>rfl) (fun h2=>?_) (go _ _ _ _ _)
 have h3:=DF (m:=m) h2 hm
 rw[Nat.mul_one,<-List.map_take,wE] at h3
 exact h3
theorem HD(b b2 b3:Nat)(D:DkM)(k:Nat)(fp:List Nat)(w:World)(hB:(eDk b D fp).holds w)(hlt:∀k∈fp,k<w.heap.size)(h2:Blk w b2 30 #[po b 0])(h3:Blk w b3 3 #[.int .i64 (k:Int)])(n2:b2∉fp)(n3:b3∉fp)(uO:b2≠b3)(hz:D.log.size<=10000000)(hk:k<=D.log.size):
  Calls Tryz.prog 128 #[po b2 0,po b3 0] w (mi b (ctD k D) fp w):=by
 have st1:=St.lend hB (dV _ _ _) hlt
 obtain⟨PA,Pc,GA,gc,Ps,Qs,hps,hsub,hfp,hap,hall⟩:=hB
 have st0:=St.unpack st1 hfp hall hap
 have hgc:D.log.size<=gc:=D3 (hall (eO 5 1 (.slice GA D.log.size gc) D.log.size ((bo D.log).map (Value.int .u8))) (by simp[dkL])).1
 have st2:St w (b2::b3::fp) [eB b 100 #[.slice PA D.pgs.length Pc,.slice GA D.log.size gc,.int .i64 ((D.fl:Int)),.bool D.off,.bool D.armed,.int .i64 D.left],eO 144 513 (.slice PA D.pgs.length Pc) D.pgs.length (Ps.flatMap shC),eO 5 1 (.slice GA D.log.size gc) D.log.size ((bo D.log).map (Value.int .u8)),eWs Qs,eB b2 30 #[po b 0],eB b3 3 #[.int .i64 ((k:Int))]] w:=St.with2 st0 h2 h3 n2 n3 uO (fun e he k hk=>by rw[show fp=(eDk b D fp).fp from rfl,show (eDk b D fp).fp= _ from hfp];exact List.mem_flatMap.2 ⟨e,he,hk⟩)
 go_enter Tryz.func128,Tryz.ntmps128
 have al:=st2
 refine aH [0,0,0,4,12,28,0,124,0,256,768,1792,0,7936,4093,20477,53245,131071,262143,524287] [[4],[4],[4],[],[],[0],[5],[],[4],[],[],[0],[5],[],[],[],[0],[],[],[6]] [[],[],[],[],[],[],[],[],[],[],[],[],[],[],[],[],[6],[],[],[7]] [[],[],[],[],[],[],[],[],[],[],[],[],[],[],[],[],[0],[],[],[6]] [.c 2 (vp b),.c 3 (vp b),.c 4 (vp b),.k 5 (vp b),.k 6 (po b 1),.c 7 (.slice GA D.log.size gc),.c 8 (vi ((k:Int))),.c 9 (.slice GA k gc),.c 10 (vp b),.k 11 (vp b),.k 12 (po b 2),.c 13 (vi ((D.fl:Int))),.c 14 (vi ((k:Int))),.c 15 (vi (((min D.fl k:Nat):Int))),.k 16 (vp b),.k 17 (po b 1),.n,.k 18 (vp b),.k 19 (po b 2),.n] (fun ix j g X=>match ix with|0|1|2|3|4|5|6|7|8|9|10|11|12|13|14|15=>True|16=>X 6=eB b 100 #[.slice PA D.pgs.length Pc,.slice GA k gc,vi ((D.fl:Int)),.bool D.off,.bool D.armed,vi D.left]|17|18=>True|19=>X 7=eB b 100 #[.slice PA D.pgs.length Pc,.slice GA k gc,vi (((min D.fl k:Nat):Int)),.bool D.off,.bool D.armed,vi D.left]|_=>True) [1,2,3,4,5,7] [0,1,2,5,6,7,8,11,12,13,16,19] [(2,0,19,20)] al ?_ ?_ ?_
 exact fun ix _ _ _ _ _ _ hs hb hx h=>match ix,h with
 |16,h=>by dsimp only;rw[<-hx 6 rfl];exact h
 |19,h=>by dsimp only;rw[<-hx 7 rfl];exact h
 |0,_|1,_|2,_|3,_|4,_|5,_|6,_|7,_|8,_|9,_|10,_|11,_|12,_|13,_|14,_|15,_|17,_|18,_|_+20,_=>trivial
 refine⟨?_,?_,?_,?_,?_,?_,?_,?_,?_,?_,?_,?_,trivial⟩
 exact xs4 rfl id fun cx=>ae rfl (by kernel_rfl) (cx.ou 0) ((cx.bi 4 rfl).cell 0)
 exact xs4 rfl id fun cx=>ae rfl (by kernel_rfl) (cx.ou 0) ((cx.bi 4 rfl).cell 0)
 exact xs4 rfl id fun cx=>ae rfl (by kernel_rfl) (cx.ou 0) ((cx.bi 4 rfl).cell 0)
 exact xs4 rfl id fun cx=>ae rfl (by kernel_rfl) (cx.an 4) ((cx.bi 0 rfl).cell 1)
 exact xs4 rfl id fun cx=>ae rfl (by kernel_rfl) (cx.ou 1) ((cx.bi 5 rfl).cell 0)
 exact xs4 rfl id fun cx=>pP (e:=5) (sz:=1) (m:=k) rfl (by kernel_rfl) (by kernel_rfl) (cx.an 5) (cx.an 6) (by omega) (by omega)
 exact xs4 rfl id fun cx=>ae rfl (by kernel_rfl) (cx.ou 0) ((cx.bi 4 rfl).cell 0)
 exact xs4 rfl id fun cx=>ae rfl (by kernel_rfl) (cx.an 10) ((cx.bi 0 rfl).cell 2)
 exact xs4 rfl id fun cx=>ae rfl (by kernel_rfl) (cx.ou 1) ((cx.bi 5 rfl).cell 0)
 exact xs4 rfl id fun cx=>jE rfl (cx.an 11) (cx.an 12) (by omega)
 refine svA fun p g W X cx=>?_
 exact bx (n:=1) rfl (cx.an 15) (cx.an 7) (by kernel_rfl) (by kernel_rfl) (by kernel_rfl) cx (cx.init 0 _ rfl) rfl (nle rfl) (by kernel_rfl) rfl rfl rfl (fun _ _ _ _ _=>id)
 refine svA fun p g W X cx=>?_
 exact bx (n:=1) rfl (cx.an 18) (cx.an 13) (by kernel_rfl) (by kernel_rfl) (by kernel_rfl) cx (dTn (cx.an 16)) rfl (nle rfl) (by kernel_rfl) rfl rfl rfl (fun _ _ _ _ _=>id)
 intro j g X W1 hD aA fr aG
 simp only[exq 7 ((dTn (hD 19 lq)))] at aA
 clear hD;subst aG;clear j g X
 refine bpe (.tuple #[]) (by simp[results,Tryz.results128,go_sem]) ?_
 have hl_:=St.less2 (L:=[eB b 100 #[.slice PA D.pgs.length Pc,.slice GA k gc,vi (((min D.fl k:Nat):Int)),.bool D.off,.bool D.armed,vi D.left],eO 144 513 (.slice PA D.pgs.length Pc) D.pgs.length (Ps.flatMap shC),eO 5 1 (.slice GA D.log.size gc) D.log.size ((bo D.log).map (Value.int .u8)),eWs Qs]) (aA.pick [5,0,1,2,3,4] (by decide) rfl) h2 h3
 have hl2_:=St.trunc (L1:=[eB b 100 #[.slice PA D.pgs.length Pc,.slice GA k gc,vi (((min D.fl k:Nat):Int)),.bool D.off,.bool D.armed,vi D.left],eO 144 513 (.slice PA D.pgs.length Pc) D.pgs.length (Ps.flatMap shC)]) (L2:=[eWs Qs]) (m:=k) hl_ hk
 have hz_:(D.log.extract 0 k).size=k:=by rw[ByteArray.size_extract];omega
 exact⟨rfl,St.dk (L:=[]) (D:=ctD k D) (PA:=PA) (Pc:=Pc) (GA:=GA) (gc:=gc) (by rw[show dkL b (ctD k D) PA Pc GA gc Ps Qs=[eB b 100 #[.slice PA D.pgs.length Pc,.slice GA k gc,vi (((min D.fl k:Nat):Int)),.bool D.off,.bool D.armed,vi D.left],eO 144 513 (.slice PA D.pgs.length Pc) D.pgs.length (Ps.flatMap shC),eO 5 1 (.slice GA (D.log.extract 0 k).size gc) (D.log.extract 0 k).size ((bo (D.log.extract 0 k)).map (Value.int .u8)),eWs Qs] from by rw[dkL,dkC,show (ctD k D).log=D.log.extract 0 k from rfl,hz_];rfl];exact hl2_) hps hsub⟩
end
section
open Go.RowKit
theorem Ll(b b2 b3:Nat)(D:DkM)(n:Int)(PA:Option Addr)(Pc:Nat)(GA:Option Addr)(gc:Nat)(Ps:List ShT)(w:World)(hB:DkO w b D PA Pc GA gc Ps)(h2:Blk w b2 30 #[po b 0])(h3:Blk w b3 3 #[.int .i64 n])(hz:D.log.size<=10000000):
  Calls Tryz.prog 127 #[po b3 0,po b2 0] w (Ret (.int .i64 (ctE D n)) w):=by
 go_enter Tryz.func127,Tryz.ntmps127
 have al:=St.start w
 refine wq (sqr (sqp [.k 2 (vi 0)] ?_))
 refine aa (wq (wq (bG [0,1,3,7,7,23,55,119,247,511,1023] [] [.c 3 (vi n),.k 4 (.bool (decide (n<0))),.k 5 (.bool (decide (n<0))),.y 6 (!(decide (n<0))) (vi n),.y 7 (!(decide (n<0))) (vp b),.z 8 (!(decide (n<0))) (vp b),.z 9 (!(decide (n<0))) (po b 1),.y 10 (!(decide (n<0))) (.slice GA D.log.size gc),.z 11 (!(decide (n<0))) (vi ((D.log.size:Int))),.z 12 (!(decide (n<0))) (.bool (decide ((D.log.size:Int)<n))),tO 13 (decide (n<0)) (decide ((D.log.size:Int)<n))] [] [0,3,4,7] [(3,0,11,14)] al ?_ fun W2 bQ=>?_)))
 refine⟨?_,?_,?_,?_,trivial⟩
 exact xs4 rfl id fun cx=>ae rfl (by kernel_rfl) (cx.ou 0) ((Blk.ext h3 cx.upd.to_ext).cell 0)
 exact m2 rfl (fun _ _ _ h=>h) (fun cx=>(cx.an 2)) fun cx hq=>ae rfl (by kernel_rfl) (cx.ou 0) ((Blk.ext h3 cx.upd.to_ext).cell 0)
 exact m2 rfl (fun _ _ _ h=>h) (fun cx=>(cx.an 2)) fun cx hq=>ae rfl (by kernel_rfl) (cx.ou 1) ((Blk.ext h2 cx.upd.to_ext).cell 0)
 exact m2 rfl (fun _ _ _ h=>h) (fun cx=>(cx.an 2)) fun cx hq=>ae rfl (by kernel_rfl) (mbv (cx.an 6) hq) ((Blk.ext hB.blkL cx.upd.to_ext).cell 1)
 refine aa (wbs (fun uQ=>?_) fun uQ=>?_)
 have vU:=uQ
 simp only[zB] at vU
 refine wq (sqr (sqp [.k 2 (vi 1)] ?_))
 refine aa (wp_ret (aj ?_))
 refine bpr (vi 1) (ai Tryz.results127 rpt) ?_
 exact Ret.int (by rw[ctE,if_pos (by have h_:=uQ;simp at h_;omega)]) bQ.ext
 have vU:=uQ
 simp only[zB] at vU
 obtain⟨Rr,Rs⟩:=vU
 refine wp_skip (aa (wq (sqr (sqp [.k 2 (vi 0)] ?_))))
 refine aa (wp_ret ?_)
 refine bpr (vi 0) (ai Tryz.results127 rpt) ?_
 exact Ret.int (by rw[ctE,if_neg (by have h_:=uQ;simp at h_;omega)]) bQ.ext
theorem FT(b b2 b3:Nat)(D:DkM)(n:Int)(w:World)(hB:jz w b D)(h2:Blk w b2 30 #[po b 0])(h3:Blk w b3 3 #[.int .i64 n])(hz:D.log.size<=10000000):Calls Tryz.prog 127 #[po b3 0,po b2 0] w (Ret (.int .i64 (ctE D n)) w):=by
 obtain⟨PA,Pc,GA,gc,Ps,h1⟩:=hB
 exact Ll b b2 b3 D n PA Pc GA gc Ps w h1 h2 h3 hz
theorem EL(b b2 b3:Nat)(D:DkM)(n:Int)(fp:List Nat)(w:World)(hB:(eDk b D fp).holds w)(hlt:∀k∈fp,k<w.heap.size)(h2:Blk w b2 30 #[po b 0])(h3:Blk w b3 3 #[.int .i64 n])(n2:b2∉fp)(n3:b3∉fp)(uO:b2≠b3)(hz:D.log.size<=10000000):
  Calls Tryz.prog 126 #[po b 0,.func (.func 127) #[] #[po b3 0,po b2 0],.func (.func 128) #[] #[po b2 0,po b3 0]] w (bV b (opD D (ctE D n) (ctD n.toNat)) fp w):=by
 have st1:St w fp [eDk b D fp] w:=St.lend hB (dV _ _ _) hlt
 go_enter Tryz.func126,Tryz.ntmps126
 have al:=st1
 refine wq (sqr (sqp [.k 6 (vi 0)] ?_))
 refine aa (wq (wq ?_))
 obtain⟨onv,hon⟩:∃z,(!D.off)=z:=⟨_,rfl⟩
 refine sqr (sqp [.m 8 0] ?_)
 refine sqk (.bool onv) al (fun cx=>⟨_,rD hon (mj b D _ (fb (CtxV.holdF cx (cx.init 0 _ rfl) rfl))),(ax (cx.ou 8))⟩) fun W3 bc=>?_
 refine sqp [.k 10 (.bool (!(onv)))] ?_
 refine aa ?_
 rcases Bool.eq_false_or_eq_true (onv) with eX|eX
 ·refine wp_cond_false (show Act.eval _ _= .bool false from(congrArg Value.bool (by rw[eX];rfl))) (wp_skip (aa (wq (wq (sqr (sqp [.m 11 1] ?_))))))
  refine sqv (vi ((ctE D n))) bc (iq rfl rfl rfl rfl rfl (fun _ _ _ h=>h) fun c g W X cx=>⟨_,_,cQ (f:=127) (args:=#[]) (args':=#[vp b3,vp b2]) rfl rfl (cx.ou 11) (by kernel_rfl) ji rfl,FT b b2 b3 D n _ (fb (CtxV.holdF cx (cx.init 0 _ rfl) rfl)) (h2.upd cx.upd n2) (h3.upd cx.upd n3) hz⟩) fun W7 aZ=>?_
  refine sqp [.m 7 12] ?_
  refine aa (wq (sqr (sqp [.m 13 7,.k 14 (.bool ((ctE D n) != 0))] ?_)))
  refine aa (wbs (fun dt=>?_) fun dt=>?_)
  have hH:=bne_iff_ne.1 dt
  refine wq (sqr (sqp [.m 15 7,.m 6 15] ?_))
  refine aa (wp_ret (aj ?_))
  refine bpr (vi ((ctE D n))) (ai Tryz.results126 rpt) ?_
  exact bV.of (R':=(D,ctE D n)) (by rw[opD,if_neg (by have h_:=hon.trans eX;simpa using h_),if_pos (by simpa using dt)]) aZ
  have hH:=bne_eq_false_iff_eq.1 dt
  refine wp_skip (aa (wq (wq ?_)))
  have hD_:(eDk b D fp).holds W7:=(aZ.ok _ (List.mem_singleton.2 rfl)).holds
  obtain⟨PA,Pc,GA,gc,Ps,Qs,hps,hsub,hfp,hap,hall⟩:=hD_
  have gx:St w fp [eB b 100 #[.slice PA D.pgs.length Pc,.slice GA D.log.size gc,vi ((D.fl:Int)),.bool D.off,.bool D.armed,vi D.left],eO 144 513 (.slice PA D.pgs.length Pc) D.pgs.length (Ps.flatMap shC),eO 5 1 (.slice GA D.log.size gc) D.log.size ((bo D.log).map (Value.int .u8)),eWs Qs] W7:=St.unpack aZ hfp hall hap
  refine sqr (sqp [.m 16 0,.k 17 (vp b),.k 18 (po b 4)] ?_)
  refine av 0 gx ?_
  refine sqp [.m 20 19] ?_
  refine d6 20 [21,22,23,24,25] ?_ rfl (fun hq=>?_) ?_
  rotate_left
  refine sqp [.m 21 0,.k 22 (vp b),.k 23 (po b 5)] ?_
  refine av 0 gx ?_
  refine sqp [.k 25 (.bool (decide (D.left<=0)))] ?_
  exact sqe
  refine c8 ?_
  refine sqp [sPa 26 D.armed (decide (D.left<=0))] ?_
  refine aa (wbs (fun fe=>?_) fun fe=>?_)
  have fa:=fe
  simp only[zB] at fa
  obtain⟨zi,zj⟩:=fa
  refine wq (sqr (sqp [.m 27 0,.k 28 (vp b),.k 29 (po b 3)] ?_))
  refine aV (n:=1) 0 #[.slice PA D.pgs.length Pc,.slice GA D.log.size gc,vi ((D.fl:Int)),.bool true,.bool D.armed,vi D.left] gx fun Fe jx=>?_
  refine aa (wq (sqr (sqp [.k 6 (vi 24)] ?_)))
  refine aa (wp_ret (aj ?_))
  refine bpr (vi 24) (ai Tryz.results126 rpt) ?_
  obtain⟨fp2,hk_⟩:=St.dk (L:=[]) (D:={D with off:=true}) (PA:=PA) (Pc:=Pc) (GA:=GA) (gc:=gc) (jx.pick [0,1,2,3] (by decide) rfl) hps hsub
  exact bV.of (R':=({D with off:=true},24)) (by rw[opD,if_neg (by have h_:=hon.trans eX;simpa using h_),if_neg (by simpa using dt),if_pos (by simpa using fe)]) hk_
  have fa:=fe
  simp only[zB] at fa
  refine wp_skip (aa (wq (sqr (sqp [.m 30 0,.k 31 (vp b),.k 32 (po b 5)] ?_))))
  refine av 0 gx ?_
  refine sqp [.k 34 (vi ((cX D.left))),.k 35 (vp b),.k 36 (po b 5)] ?_
  refine aV (n:=1) 0 #[.slice PA D.pgs.length Pc,.slice GA D.log.size gc,vi ((D.fl:Int)),.bool D.off,.bool D.armed,vi ((cX D.left))] gx fun pT dd=>?_
  refine aa (wq ?_)
  obtain⟨D1,hD1⟩:∃z,({D with left:=cX D.left}:DkM)=z:=⟨_,rfl⟩
  obtain⟨fp2,hk_40⟩:=St.dk (L:=[]) (D:={D with left:=cX D.left}) (PA:=PA) (Pc:=Pc) (GA:=GA) (gc:=gc) (dd.pick [0,1,2,3] (by decide) rfl) hps hsub
  simp only[List.nil_append] at hk_40
  rw[hD1] at hk_40
  have hz1:D1.log.size<=10000000:=by rw[<-hD1];exact hz
  have hk0_:0<=n/\n<=(D.log.size:Int):=by have h_:=dt;simp only[ctE] at h_;split at h_;(simp at h_);omega
  obtain⟨k,rfl⟩:∃k:Nat,n=(k:Int):=⟨n.toNat,by omega⟩
  have hk1:k<=D1.log.size:=by rw[<-hD1];show k<=D.log.size;omega
  refine sqr (sqp [.m 37 2] ?_)
  refine bN (fun X_=>X_.fp) (.tuple #[]) (fun nH=>eDk b (ctD k D1) nH) 0 hk_40 (by
    refine svA fun c g W X cx=>?_
    refine am.call (cQ (f:=128) (args:=#[]) (args':=#[vp b2,vp b3]) rfl rfl (cx.ou 37) (by kernel_rfl) ji rfl) ?_
    refine(HD b b2 b3 D1 k _ _ (CtxV.holdF cx (cx.init 0 _ rfl) rfl) (CtxV.ltF cx (cx.init 0 _ rfl) rfl) (h2.upd cx.upd n2) (h3.upd cx.upd n3) (CtxV.notin cx (cx.init 0 _ rfl) rfl n2 h2.lt) (CtxV.notin cx (cx.init 0 _ rfl) rfl n3 h3.lt) uO hz1 hk1).mono ?_
    rintro e W1 ⟨rfl,fp4,aU⟩
    refine⟨_,rfl,aN (E:=eDk b D1 fp2) [eDk b (ctD k D1) fp4] (cx.init 0 _ rfl) rfl rfl aU (fun j p X' hs hb hv hN=>?_)⟩
    have aK:=(hv 38 rfl).1;have aW:=(hv 38 rfl).2
    exact⟨aK.trans rfl,cJ ((List.cons.inj hN).1)⟩) fun nH uE fk=>?_
  refine aa (wq (sqr (sqp [.k 6 (vi 0)] ?_)))
  refine aa (wp_ret ?_)
  refine bpr (vi 0) (ai Tryz.results126 rpt) ?_
  exact bV.of (R':=(ctD k D1,0)) (by rw[opD,if_neg (by have h_:=hon.trans eX;simpa using h_),if_neg (by simpa using dt),if_neg (by have h_:=fe;intro h2_;simp[h2_.1,h2_.2] at h_),hD1,Int.toNat_natCast]) fk
 refine wp_cond_true (show Act.eval _ _= .bool true from(congrArg Value.bool (by rw[eX];rfl))) (wq (sqr (sqp [.k 6 (vi 24)] ?_)))
 refine aa (wp_ret (aj ?_))
 refine bpr (vi 24) (ai Tryz.results126 rpt) ?_
 exact bV.of (R':=(D,24)) (by rw[opD,if_pos (by simpa using hon.trans eX)]) bc
theorem Gz(b:Nat)(D:DkM)(n:Int)(fp:List Nat)(w:World)(hB:(eDk b D fp).holds w)(hlt:∀k∈fp,k<w.heap.size)(hz:D.log.size<=10000000):
  Calls Tryz.prog 60 #[po b 0,.int .i64 n] w (bV b (opD D (ctE D n) (ctD n.toNat)) fp w):=by
 have st1:St w fp [eDk b D fp] w:=St.lend hB (dV _ _ _) hlt
 go_enter Tryz.func60,Tryz.ntmps60
 have al:=st1
 refine wq (sqr ?_)
 refine ce #[vp b] al fun bF W1 aA=>?_
 refine ce #[vi n] aA fun dK W2 bQ=>?_
 refine sqp [.k 4 (vi 0)] ?_
 refine aa (wq (sqr (av 1 bQ ?_)))
 refine sqv (.func (.func 127) #[] #[vp dK,vp bF]) bQ (by
   exact sv0 rfl rfl rfl rfl rfl (fun _ _ _ h=>h) fun c g W X cx=>by
    have gw:c (.tmp 3)=vp dK:=(cx.ou 3)
    have oF:c (.tmp 2)=vp bF:=(cx.ou 2)
    simp[go_sem,Instr.makeFunc,gw,oF]) fun W5 aR=>?_
 refine sqv (.func (.func 128) #[] #[vp bF,vp dK]) aR (by
   exact sv0 rfl rfl rfl rfl rfl (fun _ _ _ h=>h) fun c g W X cx=>by
    have oF:c (.tmp 2)=vp bF:=(cx.ou 2)
    have gw:c (.tmp 3)=vp dK:=(cx.ou 3)
    simp[go_sem,Instr.makeFunc,oF,gw]) fun W6 bI=>?_
 refine bN (fun X_=>X_.fp) (vi ((opD D (ctE D n) (ctD n.toNat)).2)) (fun zk=>eDk b ((opD D (ctE D n) (ctD n.toNat)).1) zk) 0 bI (by
   refine svA fun c g W X cx=>?_
   refine am.call (aq (args:=#[vp b,.func (.func 127) #[] #[vp dK,vp bF],.func (.func 128) #[] #[vp bF,vp dK]]) rfl cx.sees rfl (by kernel_rfl) (dN (cx.ou 5) (cx.ou 6) (cx.ou 7))) ?_
   refine(EL b _ _ D n _ _ (CtxV.holdF cx (cx.init 0 _ rfl) rfl) (CtxV.ltF cx (cx.init 0 _ rfl) rfl) (cx.bi 1 rfl) (cx.bi 2 rfl) (by have h_:=cx.ap 1 0 rfl rfl (by decide);rw[(cx.init 1 _ rfl),(cx.init 0 _ rfl)] at h_;exact h_ _ (List.mem_singleton.2 rfl)) (by have h_:=cx.ap 2 0 rfl rfl (by decide);rw[(cx.init 2 _ rfl),(cx.init 0 _ rfl)] at h_;exact h_ _ (List.mem_singleton.2 rfl)) (by have h_:=cx.ap 1 2 rfl rfl (by decide);rw[(cx.init 1 _ rfl),(cx.init 2 _ rfl)] at h_;intro e_;exact h_ _ (List.mem_singleton.2 rfl) (List.mem_singleton.2 e_)) hz).mono ?_
   rintro e W1 ⟨rfl,fp4,aU⟩
   refine⟨_,rfl,aN (E:=eDk b D fp) [eDk b (opD D (ctE D n) (ctD n.toNat)).1 fp4] (cx.init 0 _ rfl) rfl rfl aU (fun j p X' hs hb hv hN=>?_)⟩
   have aK:=(hv 8 rfl).1;have aW:=(hv 8 rfl).2
   exact⟨aK.trans rfl,cJ ((List.cons.inj hN).1)⟩) fun zk W7 aZ=>?_
 refine sqp [.m 4 8] ?_
 refine aa (wp_ret ?_)
 refine bpr (vi ((opD D (ctE D n) (ctD n.toNat)).2)) (ai Tryz.results60 rpt) ?_
 exact bV.of rfl (aZ.pick [0] (by decide) rfl)
end
section
open Go.RowKit
theorem A9(h:H5):strOfNums ((bo h.1).take 256)++strOfNums ((bo h.1).drop 256)=h.1:=by
 have e1:(bo h.1).take 256=bo (h.1.extract 0 256):=wE _ _
 have e2:(bo h.1).drop 256=bo (h.1.extract 256 512):=by
  rw[bo,bo,gl,List.map_take,List.map_drop,List.take_of_length_le]
  rw[List.length_drop,List.length_map,bO,h.2];decide
 rw[e1,e2,si,si]
 apply gM
 rw[cZ,gl,gl,List.drop_zero,Nat.sub_zero]
 rw[List.take_of_length_le (l:=(bl h.1).drop 256) (by rw[List.length_drop,bO,h.2];decide),List.take_append_drop]
section
variable{P:Program}{o:Oper}{ρ:Operand->Value}{W:World}
theorem ut{t t' e u:TypeId}{g:Nat}{xs:List Int}{ys:List Int}(h:o.op= .convert t t' x)(ht:P.underlying t=some (.slice e))(he:P.underlying e=some (.int .u8))(ht':P.underlying t'=some .string)
  (hx:ρ x= .slice (some ⟨g,off,none⟩) 256 256) (hb:Blk W g u (xs.map (Value.int .u8)).toArray) (hy:(xs.drop off).take 256=ys) (hl:off+256<=xs.length):(execOp ρ o).run P W= .ok (.value (.string (strOfNums ys))) W:=by
 subst hy
 have hr:=run_convert_bytes_arg W t e ht he g off 256 256 ((xs.drop off).take 256) (by rw[List.length_take,List.length_drop];omega) (fun i hi=>?_) t' ht'
 unfold execOp;rw[h]
 simp only[hx,Sem.run_bind,hr,Result.andThen_ok,Sem.run_pure]
 rw[hb.cell (off+i),List.getElem?_toArray,List.getElem?_map,List.getD_eq_getElem?_getD,List.getElem?_take,if_pos hi,List.getElem?_drop]
 rw[List.getElem?_eq_getElem (by omega)];rfl
theorem jV{t e:TypeId}{g n:Nat}(h:o.op= .slice t x none none none)(ht:P.underlying t=some (.array n e))(hz:szP P e=some 1)(hx:ρ x=po g off):(execOp ρ o).run P W= .ok (.value (.slice (some ⟨g,off,none⟩) n n)) W:=by
 have e1:P.arrayLen t=n:=by simp[Program.arrayLen,ht]
 have e2:P.elem t=e:=by simp[Program.elem,ht]
 have h1:=run_sliceAt_array_all (P:=P) W t ⟨g,off,none⟩ (by rw[e1,e2];exact ht)
 rw[e1,e2,dq hz] at h1
 unfold execOp;rw[h]
 simp only[hx,Sem.run_bind,Option.map_none,h1,Result.andThen_ok,Sem.run_pure,slicedAt]
 simp[Addr.add]
end
theorem ux(h:H5)(w:World):
  Calls Tryz.prog 88 #[.agg (hvC h).toArray] w (Ret (.string h.1) w):=by
 have hzz:=congrArg ByteArray.size (A9 h)
 rw[ByteArray.size_append,h.2] at hzz
 go_enter Tryz.func88,Tryz.ntmps88
 have al:=St.start w
 refine wq (sqr ?_)
 refine ej (fun x_=>pb x_) (fun aB=>vp aB) (fun aB=>eB aB 142 (hvC h).toArray) al (by
   refine svA fun g j W X cx=>?_
   exact qm (cs:=(hvC h).toArray) rfl (cx.ou 0) rfl rfl rfl (fun _ _ _ _ _=> .intro)) fun aB W1 aA=>?_
 refine sqp [.k 2 (.string ⟨#[]⟩)] ?_
 refine aa (wq (bG [0,1,3,0,8,24,63,127] [[],[],[0],[],[],[0]] [.c 3 (vp aB),.c 4 (.slice ((some ⟨aB,0,none⟩)) 256 256),.c 5 (.string (strOfNums ((bo h.1).take 256))),.c 6 (po aB 256),.c 7 (.slice ((some ⟨aB,256,none⟩)) 256 256),.c 8 (.string (strOfNums ((bo h.1).drop 256))),tS 9 (strOfNums ((bo h.1).take 256)) (strOfNums ((bo h.1).drop 256)) (by omega),.k 2 (.string ((strOfNums ((bo h.1).take 256))++(strOfNums ((bo h.1).drop 256))))] [0] [0,1,2,3,4,5] [(2,7,1,3),(0,0,7,7)] aA ?_ fun W3 bc=>?_))
 refine⟨?_,?_,?_,?_,?_,?_,trivial⟩
 exact xs4 rfl id fun cx=>ju (n:=2) (sz:=256) (m:=0) (q:=0) rfl (by kernel_rfl) (cx.ou 1) (cx.co _) (by omega) (by omega) (by omega)
 exact xs4 rfl id fun cx=>jV (n:=256) (e:=5) rfl (by kernel_rfl) (by kernel_rfl) (cx.an 0)
 exact xs4 rfl id fun cx=>ut (e:=5) (off:=0) (xs:=bo h.1) (ys:=(bo h.1).take 256) rfl (by kernel_rfl) (by kernel_rfl) (by kernel_rfl) (cx.an 1) (cx.bi 0 rfl) (by rw[List.drop_zero]) (by rw[gV,h.2];decide)
 exact xs4 rfl id fun cx=>ju (n:=2) (sz:=256) (m:=1) (q:=256) rfl (by kernel_rfl) (cx.ou 1) (cx.co _) (by omega) (by omega) (by omega)
 exact xs4 rfl id fun cx=>jV (n:=256) (e:=5) rfl (by kernel_rfl) (by kernel_rfl) (cx.an 3)
 exact xs4 rfl id fun cx=>ut (e:=5) (off:=256) (xs:=bo h.1) (ys:=(bo h.1).drop 256) rfl (by kernel_rfl) (by kernel_rfl) (by kernel_rfl) (cx.an 4) (cx.bi 0 rfl) (by rw[List.take_of_length_le];rw[List.length_drop,gV,h.2];decide) (by rw[gV,h.2];decide)
 refine aa (wp_ret ?_)
 refine bpr (.string ((strOfNums ((bo h.1).take 256))++(strOfNums ((bo h.1).drop 256)))) (ai Tryz.results88 rpt) ?_
 exact Ret.of (by rw[A9]) bc.ext
end
section
open Go.RowKit
def pW(xs:List Value)(off:Nat):List Value->List Value
 | []=>xs
 |v::l=>pW (xs.set off v) (off+1) l
theorem sf:∀(vs A B C:List Value),B.length=vs.length->pW (A++(B++C)) A.length vs=A++(vs++C)
 | [],A,B,C,h=>by
   obtain rfl:B=[]:=List.eq_nil_of_length_eq_zero h
   rfl
 |v::vs,A,[],C,h=>by simp at h
 |v::vs,A,b::B,C,h=>by
  rw[pW]
  have e:(A++(b::B++C)).set A.length v=(A++[v])++(B++C):=by simp
  have e2:A.length+1=(A++[v]).length:=by simp
  rw[e,e2,sf vs (A++[v]) B C (by simpa using h)]
  simp
theorem ER{T:Type}{f:T->List Value}(hf:∀t,(f t).length=sz){ts:List T}{m:Nat}(h:m<ts.length)(t:T):pW (ts.flatMap f) (m*sz) (f t)=(ts.set m t).flatMap f:=by
 have hl:∀l:List T,(l.flatMap f).length=l.length*sz:=fun l=>by
  induction l with
  |nil=>simp
  |cons a l ih=>rw[List.flatMap_cons,List.length_append,ih,hf,List.length_cons,Nat.add_mul];omega
 have e:ts=ts.take m++(ts[m]::ts.drop (m+1)):=by rw[<-List.drop_eq_getElem_cons h,List.take_append_drop]
 have e2:ts.set m t=ts.take m++(t::ts.drop (m+1)):=by rw[List.set_eq_take_append_cons_drop,if_pos h]
 have e3:m*sz=((ts.take m).flatMap f).length:=by rw[hl,List.length_take,Nat.min_eq_left (by omega)]
 have e4:ts.flatMap f=(ts.take m).flatMap f++(f ts[m]++(ts.drop (m+1)).flatMap f):=by
  conv=>lhs;rw[e]
  rw[List.flatMap_append,List.flatMap_cons]
 rw[e2,e4,List.flatMap_append,List.flatMap_cons,e3,sf _ _ _ _ (by rw[hf,hf])]
section
variable{P:Program}{ops:Array Oper}{L:List Nat}{a0:Act}{w0:World}{bor:List Nat}{X0:List Ent}{us cr kl:List (List Nat)}
 {D:Nat->(Tmp->Value)->(Tmp->Value)->(Nat->Ent)->Prop}{i:Nat}{o:Oper}{ρ:Operand->Value}{β:Tmp->Value}{W:World}{X:Nat->Ent}
theorem rT{g n c:Nat}:∀(vs:List Value) (m i:Nat) (xs:List Value) (W:World),W.ownsRow 0 e sz (.slice (some ⟨g,0,none⟩) n c) n xs->m+i+vs.length<=n*sz->(∀v∈vs,v.oneCell'=true)->
  ∃W',(storeCells ⟨g,m,none⟩ vs i).run P W= .ok () W'/\Upd [g] W W'/\W'.ownsRow 0 e sz (.slice (some ⟨g,0,none⟩) n c) n (pW xs (m+i) vs):=by
 intro vs
 induction vs with
 |nil=>intro m i xs W hb _ _;exact⟨W,rfl,Upd.refl _ _,hb⟩
 |cons v vs ih=>
  intro m i xs W hown hle h1
  simp only[List.length_cons] at hle
  have hlen:xs.length=n*sz:=hown.1
  have hcell:W.cell? ⟨g,m+i,none⟩=some (xs[m+i]'(by omega)):=by
   rw[hown.cellAt (m+i) (by omega)]
   exact List.getElem?_eq_getElem (by omega)
  have hfz:=hown.frozenAt (m+i)
  have bf:=(hown.stored (m+i) v).1
  obtain⟨W',h2,h3,h4⟩:=ih m (i+1) (xs.set (m+i) v) (W.setCell ⟨g,m+i,none⟩ v) bf (by omega) (fun x hx=>h1 x (by simp[hx]))
  refine⟨W',?_,((Upd.refl [g] W).set (.inl (by simp)) v).trans h3,h4⟩
  unfold storeCells
  have hv:=h1 v (by simp)
  have fQ:(store ((⟨g,m,none⟩:Addr).add i) v).run P W= .ok () (W.setCell ⟨g,m+i,none⟩ v):=by
   rw[Addr.add_lit]
   unfold store
   cases v<;>first|(simp[Value.oneCell'] at hv;done)|(simp[Sem.run,hcell,hfz])
  simp only[Sem.run_bind,fQ,Result.andThen_ok,h2]
theorem r8{t:Nat}{A:Option Addr}{n c m:Nat}{v:Value}(h:o.op= .store t x y)(hx:ρ x= .pointer (some ((ad A).add m)))(hy:ρ y=v)(hz:szP P t=some k)(hn:v.cells.size=k)
  (h1:v.cells.toList.all Value.oneCell'=true) (cx:CtxV ops L a0 w0 bor X0 us D i ρ β W X) (hX:X q=eO e sz (.slice A n c) n xs) (hu:(atV us i).contains q=true) (hm:m+k<=n*sz) (hk0:0<k) (hd:o.dst=none){xs':List Value}(jM:pW xs m v.cells.toList=xs')
  (hc:atV cr i=[q']) (hk:atV kl i=[q]) (hD:∀(j p:Tmp->Value) (X':Nat->Ent),(∀t,j t=ρ (.tmp t))->(∀t,p t=β t)->X' q'=eO e sz (.slice A n c) n xs'->D i j p X'):am P o ρ W (bX cr kl D i o.dst ρ β W X):=by
 subst jM
 have hok:=cx.ok q hu
 rw[hX] at hok
 have hown:W.ownsRow 0 e sz (.slice A n c) n xs:=hok.holds
 obtain⟨g,rfl⟩:∃g,A=some ⟨g,0,none⟩:=by
  rcases hown.2 with ⟨hv,hm0⟩|⟨g,cap,cur,hv,_⟩
  subst hm0;rw[Nat.zero_mul] at hm;omega
  injection hv with h1 h2 h3;exact⟨g,h1⟩
 have hadd:(ad (some ⟨g,0,none⟩)).add m=⟨g,m,none⟩:=by rw[ad,Option.getD_some,Addr.add_lit,Nat.zero_add]
 obtain⟨W',h2,h3,h4⟩:=rT (P:=P) v.cells.toList m 0 xs W hown (by simp[hn];exact hm) (fun u hu=>List.all_eq_true.1 h1 u hu)
 have hrun:(execOp ρ o).run P W= .ok .skip W':=by
  unfold execOp;rw[h]
  simp only[hx,hy,hadd,Instr.storeAt,Instr.sureAddr,storeVar,Sem.run_bind,Sem.run_pure,Result.andThen_ok,dq hz,hn,ne_eq,not_true_eq_false,if_false]
  rw[h2]
  rfl
 rw[Nat.add_zero] at h4
 refine am.skip hrun ⟨[eO e sz (.slice (some ⟨g,0,none⟩) n c) n (pW xs m v.cells.toList)],by rw[hc];rfl,⟨?_,fun e' he=>?_,List.pairwise_singleton _ _⟩,fun j p X' hs hv hb' hbv hx' hN=>hD j p X' (fun t=>hs t (by rw[hd];simp)) (fun t=>hb' t (by rw[hd];simp)) ?_⟩
 rw[hk]
 simp only[List.flatMap_cons,List.flatMap_nil,List.append_nil,hX]
 exact h3.mono (fun k _ hk'=>by simp at hk';subst hk';simp[eO,Value.ownBlock])
 rw[List.mem_singleton] at he
 subst he
 refine⟨h4,go _ _ _ _ _,fun k hk'=>?_⟩
 have hkg:k=g:=by simpa[eO,Value.ownBlock] using hk'
 subst hkg
 refine⟨.inl ?_,eY h4 k (by simp[Value.ownBlock])⟩
 rw[hk]
 simp[hX,eO,Value.ownBlock]
 rw[hc] at hN
 exact(List.cons.inj hN).1
end
end
section
open Go.RowKit
def rdT(x:ShD):H5:=x.ws.getLast?.getD x.safe
def gB:ShD:=⟨z5,[]⟩
def rdS(D:DkM)(n:Int):ByteArray×Int:=if D.off=true then (⟨#[]⟩,24) else if 0<=n/\n<(D.pgs.length:Int) then ((rdT (D.pgs.getD n.toNat gB)).1,0) else (⟨#[]⟩,22)
theorem mw(t:ShT):(shC t)[512]? =some (.slice t.A t.ws.length t.c):=by
 rw[shC,List.getElem?_append_right (by rw[c7];exact Nat.le_refl _),c7];rfl
theorem rk(h:H5):∀v∈hvC h,v.oneCell'=true:=fun v hv=>by
 obtain⟨x,_,rfl⟩:=List.mem_map.1 hv
 rfl
theorem Ko(t:ShT):∀v∈shC t,v.oneCell'=true:=fun v hv=>by
 rcases List.mem_append.1 hv with h|h
 exact rk _ v h
 rw[List.mem_singleton] at h;subst h;rfl
theorem Ce(h:k<Ps.length):∃t,Ps[k]? =some t:=⟨_,List.getElem?_eq_getElem h⟩
theorem IL{l:List ShD}(h:Ps.map eh=l)(ht:Ps[k]? =some t):l.getD k gB=eh t:=by
 rw[<-h,List.getD_eq_getElem?_getD,List.getElem?_map,ht];rfl
theorem DI{D:DkM}(ho:D.off=false)(h:Ps.map eh=D.pgs)(ht:Ps[k]? =some t):rdS D (k:Int)=((rdT (eh t)).1,0):=by
 have hl:D.pgs.length=Ps.length:=by rw[<-h,List.length_map]
 have hk:=(List.getElem?_eq_some_iff.1 ht).1
 rw[rdS,if_neg (by rw[ho];decide),if_pos ⟨by omega,by omega⟩,Int.toNat_natCast,IL h ht]
theorem GU(h:¬(0:Int)<(t.ws.length:Int)):rdT (eh t)=t.s:=by
 have:t.ws=[]:=List.eq_nil_of_length_eq_zero (by omega)
 rw[rdT,eh];dsimp only;rw[this];rfl
theorem xy{x:H5}(h:t.ws[k]? =some x)(hk:t.ws.length=k+1):rdT (eh t)=x:=by
 rw[rdT,eh];dsimp only;rw[List.getLast?_eq_getElem?,hk,Nat.add_sub_cancel,h];rfl
theorem JM(b:Nat)(D:DkM)(PA:Option Addr)(Pc:Nat)(GA:Option Addr)(gc:Nat)(Ps:List ShT)(n:Int)(w:World)(hB:DkO w b D PA Pc GA gc Ps)(hw:∀x∈D.pgs,x.ws.length<=1000000000):
  Calls Tryz.prog 37 #[po b 0,.int .i64 n] w (Ret (.tuple #[.string (rdS D n).1,.int .i64 (rdS D n).2]) w):=by
 go_enter Tryz.func37,Tryz.ntmps37
 have al:=St.start w
 refine wq (sqr (sqp [.k 4 (.string ⟨#[]⟩),.k 5 (vi 0)] ?_))
 refine aa (wq (wp_block (wq ?_)))
 obtain⟨onv,hon⟩:∃z,(!D.off)=z:=⟨_,rfl⟩
 refine sqr (sqp [.m 9 0] ?_)
 refine sqk (.bool onv) al (fun cx=>⟨_,rD hon (IM b D PA Pc GA gc Ps _ (hB.ext cx.upd.to_ext)),(ax (cx.ou 9))⟩) fun W4 be=>?_
 refine sqp [.k 11 (.bool (!(onv))),.m 8 11] ?_
 refine aa ?_
 rcases Bool.eq_false_or_eq_true (onv) with fF|fF
 refine wp_cond_false (show Act.eval _ _= .bool false from(congrArg Value.bool (by rw[fF];rfl))) (wq (sqr (sqp [.m 13 0,.m 14 1] ?_)))
 refine sqk (.bool ((decide (0<=n)&&decide (n<(D.pgs.length:Int))))) be (fun cx=>⟨_,II b D PA Pc GA gc Ps n _ (hB.ext cx.upd.to_ext),(aP (cx.ou 13) (cx.ou 14))⟩) fun wY dR=>?_
 refine sqp [.k 16 (.bool (!((decide (0<=n)&&decide (n<(D.pgs.length:Int)))))),.m 12 16] ?_
 refine aa ?_
 rcases Bool.eq_false_or_eq_true ((decide (0<=n)&&decide (n<(D.pgs.length:Int)))) with f9|f9
 have jf:=f9
 simp only[zB] at jf
 obtain⟨Ma,Mb⟩:=jf
 refine wp_cond_false (show Act.eval _ _= .bool false from(congrArg Value.bool (by rw[f9];rfl))) (wp_skip (aw (aa (wq ?_))))
 have hPl:D.pgs.length=Ps.length:=by rw[<-hB.ab,List.length_map]
 have hnn:0<=n/\n<(D.pgs.length:Int):=by have h_:=f9;simp at h_;omega
 obtain⟨k,rfl⟩:∃k:Nat,n=(k:Int):=⟨n.toNat,by omega⟩
 obtain⟨t,htk⟩:=Ce (Ps:=Ps) (k:=k) (by omega)
 have htm:=List.mem_of_getElem? htk
 have hwt:t.ws.length<=1000000000:=hw _ (by rw[<-hB.ab];exact List.mem_map.2 ⟨t,htm,rfl⟩)
 refine sqr (sqp [.m 17 0,.k 18 (vp b),.k 19 (vp b)] ?_)
 refine sql (.slice PA D.pgs.length Pc) dR (fun cx=>ae rfl (by kernel_rfl) (cx.ou 19) ((Blk.ext hB.blkL cx.upd.to_ext).cell 0)) ?_
 refine sqp [.m 21 1] ?_
 refine sql (.pointer (some ((ad PA).add (k*513)))) dR (fun cx=>aI (e:=144) (m:=k) (sz:=513) rfl (by kernel_rfl) (by kernel_rfl) (cx.ou 20) (cx.ou 21) (by omega) (by omega) (hB.at_.ext cx.upd.to_ext) (bq (sz:=513) dy (by decide) (by omega))) ?_
 refine sql (.agg (shC t).toArray) dR (fun cx=>bT (f:=shC) (m:=k) (sz:=513) (off:=0) (n:=513) rfl (by kernel_rfl) (by kernel_rfl) (cx.ou 22) (List.size_toArray.trans (dy t)) dy (hB.at_.ext cx.upd.to_ext) htk (fun k hk=>by rw[List.getElem?_toArray,Nat.zero_add])) ?_
 refine ej (fun x_=>pb x_) (fun fm=>vp fm) (fun fm=>eB fm 144 (shC sh0).toArray) dR (by
   refine svA fun g h W X cx=>?_
   exact dp (cs:=(shC sh0).toArray) rfl (by kernel_rfl) rfl rfl (fun _ _ _ _ _=> .intro)) fun fm sa ef=>?_
 refine sqc (eB fm 144 (shC t).toArray) 0 ef (by
   refine svA fun g h W X cx=>?_
   exact vY (n:=513) rfl (cx.ou 6) (show _=Value.agg (shC t).toArray from(cx.ou 23)) (by kernel_rfl) (by simp[dy]) (by simp[dy]) (Ko t) cx (cx.init 0 _ rfl) rfl rfl rfl rfl (fun _ _ _ _ _=>id)) fun w3 dH=>?_
 refine aa (wq (wq (sqr (sqp [.k 24 (po fm 512)] ?_))))
 refine sql (.slice t.A t.ws.length t.c) dH (fun cx=>ae rfl (by kernel_rfl) (cx.ou 24) (((cx.bi 0 rfl).cell 512).trans ((List.getElem?_toArray ..).trans (mw t)))) ?_
 refine sqp [.k 26 (vi ((t.ws.length:Int))),.m 7 26] ?_
 refine aa (wq (sqr (sqp [.m 27 7,.k 28 (.bool (decide (0<(t.ws.length:Int))))] ?_)))
 refine aa (wds (fun Ij NZ=>?_) fun Ij NZ=>?_)
 refine wq ?_
 obtain⟨k2,hk2⟩:∃k2:Nat,t.ws.length=k2+1:=⟨t.ws.length-1,by have h_:=Ij;simp at h_;omega⟩
 obtain⟨x,hxk⟩:∃x,t.ws[k2]? =some x:=⟨_,List.getElem?_eq_getElem (by omega)⟩
 refine sqr (sqp [.k 29 (po fm 512)] ?_)
 refine sql (.slice t.A t.ws.length t.c) dH (fun cx=>ae rfl (by kernel_rfl) (cx.ou 29) (((cx.bi 0 rfl).cell 512).trans ((List.getElem?_toArray ..).trans (mw t)))) ?_
 refine sqp [.m 31 7,sJ 32 ((t.ws.length:Int)-1) (k2:Int) (by omega) (by omega)] ?_
 refine sql (.pointer (some ((ad t.A).add (k2*512)))) dH (fun cx=>aI (e:=142) (m:=k2) (sz:=512) rfl (by kernel_rfl) (by kernel_rfl) (cx.ou 30) (cx.ou 32) (by omega) (by omega) ((hB.ws t htm).ext cx.upd.to_ext) (bq (sz:=512) c7 (by decide) (by omega))) ?_
 refine sql (.agg (hvC x).toArray) dH (fun cx=>bT (f:=hvC) (m:=k2) (sz:=512) (off:=0) (n:=512) rfl (by kernel_rfl) (by kernel_rfl) (cx.ou 33) (List.size_toArray.trans (c7 _)) c7 ((hB.ws t htm).ext cx.upd.to_ext) hxk (fun k hk=>by rw[List.getElem?_toArray,Nat.zero_add])) ?_
 refine sqk (.string x.1) dH (fun cx=>⟨_,ux x _,(ax (cx.ou 34))⟩) fun Br fj=>?_
 refine sqp [.m 4 35,.k 5 (vi 0)] ?_
 refine aa (wp_ret (aj ?_))
 refine bpr (.tuple #[.string x.1,vi 0]) (aQ Tryz.results37 rpt rpt) ?_
 exact Ret.of (by rw[DI (by have h_:=hon.trans fF;simpa using h_) hB.ab htk,xy hxk hk2]) fj.ext
 refine wp_skip (aa (wq (sqr (sqp [.k 36 (vp fm)] ?_))))
 refine sql (.agg (hvC t.s).toArray) dH (fun cx=>cg (n:=512) rfl (by kernel_rfl) (by kernel_rfl) (cx.ou 36) (cx.bi 0 rfl) (by rw[List.size_toArray,dy];decide) (by rw[List.drop_zero,shC,List.take_left' (c7 _)])) ?_
 refine sqk (.string t.s.1) dH (fun cx=>⟨_,ux t.s _,(ax (cx.ou 37))⟩) fun Fd gp=>?_
 refine sqp [.m 4 38,.k 5 (vi 0)] ?_
 refine aa (wp_ret ?_)
 refine bpr (.tuple #[.string t.s.1,vi 0]) (aQ Tryz.results37 rpt rpt) ?_
 exact Ret.of (by rw[DI (by have h_:=hon.trans fF;simpa using h_) hB.ab htk,GU (by simpa using Ij)]) gp.ext
 have jf:=f9
 simp only[zB] at jf
 refine wp_cond_true (show Act.eval _ _= .bool true from(congrArg Value.bool (by rw[f9];rfl))) (wq (sqr (sqp [.k 4 (.string ⟨#[]⟩),.k 5 (vi 22)] ?_)))
 refine aa (wp_ret (bb (aj ?_)))
 refine bpr (.tuple #[.string ⟨#[]⟩,vi 22]) (aQ Tryz.results37 rpt rpt) ?_
 exact Ret.of (by rw[rdS,if_neg (by have h_:=hon.trans fF;simpa using h_),if_neg (by have h_:=f9;simp at h_;omega)]) dR.ext
 refine wp_cond_true (show Act.eval _ _= .bool true from(congrArg Value.bool (by rw[fF];rfl))) (wq (sqr (sqp [.k 4 (.string ⟨#[]⟩),.k 5 (vi 24)] ?_)))
 refine aa (wp_ret (bb (aj ?_)))
 refine bpr (.tuple #[.string ⟨#[]⟩,vi 24]) (aQ Tryz.results37 rpt rpt) ?_
 exact Ret.of (by rw[rdS,if_pos (by have h_:=hon.trans fF;simpa using h_)]) be.ext
theorem wW(b:Nat)(D:DkM)(n:Int)(w:World)(h:jz w b D)(hw:∀x∈D.pgs,x.ws.length<=1000000000):Calls Tryz.prog 37 #[po b 0,.int .i64 n] w (Ret (.tuple #[.string (rdS D n).1,.int .i64 (rdS D n).2]) w):=by
 obtain⟨PA,Pc,GA,gc,Ps,h1⟩:=h
 exact JM b D PA Pc GA gc Ps n w h1 hw
end
section
open Go.RowKit
theorem AN{a a':Array Value}{Q:Ending->World->Prop}(h:a'=a)(hc:Calls Tryz.prog f a w Q):Calls Tryz.prog f a' w Q:=h ▸ hc
section
variable{P:Program}{ops:Array Oper}{L:List Nat}{a0:Act}{w0:World}{bor:List Nat}{X0:List Ent}{us cr kl:List (List Nat)}
 {D:Nat->(Tmp->Value)->(Tmp->Value)->(Nat->Ent)->Prop}{i:Nat}{o:Oper}{ρ:Operand->Value}{β:Tmp->Value}{W:World}{X:Nat->Ent}
theorem CtxV.ownF{E:Ent}(cx:CtxV ops L a0 w0 bor X0 us D i ρ β W X)(hX:X q=E)(hu:(atV us i).contains q=true):∀k∈E.fp,k∈bor\/w0.heap.size<=k:=fun k hk=>by
 subst hX;exact((cx.ok q hu).own k hk).1
theorem wF{t e u t':TypeId}{g n c:Nat}{xs':List Value}(h:o.op= .call {callee:= .builtin .copy,args:=#[x,y],argTypes:=#[t,u]})(ht:P.underlying t=some (.slice e))(hz:szP P e=some 1)
  (hx:ρ x= .slice (some ⟨g,off,none⟩) n c) (hy:ρ y= .string s)
  (cx:CtxV ops L a0 w0 bor X0 us D i ρ β W X) (hX:X q=eB g t' xs.toArray) (hu:(atV us i).contains q=true) (hn:off+s.size<=xs.length) (hs:s.size<=n) (hM:xs.take off++((bo s).map (Value.int .u8)++xs.drop (off+s.size))=xs')
  (hc:atV cr i=[q']) (hk:atV kl i=[q]) (hD:∀(j p:Tmp->Value) (X':Nat->Ent),(∀t,o.dst≠some t->j t=ρ (.tmp t))->(∀t,o.dst≠some t->p t=β t)->(∀d,o.dst=some d->j d= .int .i64 s.size)->X' q'=eB g t' xs'.toArray->D i j p X'):am P o ρ W (bX cr kl D i o.dst ρ β W X):=by
 have hok:=cx.ok q hu
 rw[hX] at hok
 have hb:Blk W g t' xs.toArray:=hok.holds
 have hnl:((bo s).map (Value.int .u8)).length=s.size:=by rw[List.length_map,gV]
 obtain⟨W',hr,hup,hb'⟩:=ox (P:=P) ((bo s).map (Value.int .u8)) off 0 _ W hb (by rw[List.size_toArray,hnl];omega) (fun v hv=>by obtain⟨z,_,rfl⟩:=List.mem_map.1 hv;rfl)
 have hputs:nZ xs.toArray (off+0) ((bo s).map (Value.int .u8))=xs'.toArray:=by
  rw[<-hM]
  have hp:∀(ys pre mid suf:List Value),ys.length=mid.length->nZ (pre++(mid++suf)).toArray pre.length ys=(pre++(ys++suf)).toArray:=by
   intro ys
   induction ys with
   |nil=>intro pre mid suf hl;rw[List.eq_nil_of_length_eq_zero (l:=mid) hl.symm];rfl
   |cons y ys ih=>
    intro pre mid suf hl
    cases mid with
    |nil=>simp at hl
    |cons z mid=>
     rw[nZ]
     have e:(pre++(z::mid++suf)).toArray.setIfInBounds pre.length y=((pre++[y])++(mid++suf)).toArray:=by simp
     rw[e,show pre.length+1=(pre++[y]).length by simp,ih (pre++[y]) mid suf (by simpa using hl)]
     simp
  have e1:xs=xs.take off++((xs.drop off).take s.size++xs.drop (off+s.size)):=by
   rw[<-List.drop_drop,List.take_append_drop,List.take_append_drop]
  have e2:(xs.take off).length=off:=by rw[List.length_take];omega
  have h2:=hp ((bo s).map (Value.int .u8)) (xs.take off) ((xs.drop off).take s.size) (xs.drop (off+s.size)) (by rw[hnl,List.length_take,List.length_drop];omega)
  rw[<-e1,e2] at h2
  exact h2
 rw[hputs] at hb'
 have hmin:Nat.min s.size n=s.size:=Nat.min_eq_left hs
 have hrun:(execOp ρ o).run P W= .ok (.value (.int .i64 s.size)) W':=by
  unfold execOp;rw[h]
  cases hq:P.info? e with
  |none=>simp[szP,hq] at hz
  |some inf=>
   have htk:List.take s.size (List.map (fun b:UInt8=>Value.int IntKind.u8 (b.toNat:Int)) s.data.toList)=(bo s).map (Value.int .u8):=by
    rw[List.take_of_length_le (by rw[List.length_map,Array.length_toList];exact Nat.le_refl _),bo,List.map_map]
    rfl
   simp[hx,hy,resolve,invoke,builtin,Builtin.copy_,run_underlying ht,Builtin.lenOf,Builtin.firstCells,sizeOf,typeInfo,hq,hmin]
   rw[htk,hr]
   simp[Result.andThen,goInt]
 refine am.value hrun ⟨[eB g t' xs'.toArray],by rw[hc];rfl,⟨?_,fun e' he=>?_,List.pairwise_singleton _ _⟩,fun j p X' hs' hv hb' hbv hx' hN=>hD j p X' hs' hb' (fun d hd=>hv d hd) ?_⟩
 rw[hk]
 simp only[List.flatMap_cons,List.flatMap_nil,List.append_nil,hX]
 exact hup
 rw[List.mem_singleton] at he
 subst he
 refine⟨hb',d7 _ _ _,fun k hk'=>?_⟩
 have hkb:k=g:=by simpa[eB] using hk'
 subst hkb
 exact⟨.inl (by rw[hk];simp[hX,eB]),hb'.lt⟩
 rw[hc] at hN
 exact(List.cons.inj hN).1
end
def sE(s:ByteArray):List Value:=(bo (s.extract 0 256)++List.replicate 256 0).map (Value.int .u8)
theorem tL{h:H5}:(h.1.extract 0 256).size=256:=by rw[ByteArray.size_extract,h.2];rfl
theorem Ch{h:H5}:(h.1.extract 256 h.1.size).size=256:=by rw[ByteArray.size_extract,h.2];rfl
theorem yJ(h:H5):(sE h.1).length=512:=by rw[sE,List.length_map,List.length_append,gV,tL,List.length_replicate]
theorem J8(h:H5):(((List.replicate 512 (0:Int)).map (Value.int .u8)).take 0++((bo (h.1.extract 0 256)).map (Value.int .u8)++((List.replicate 512 (0:Int)).map (Value.int .u8)).drop (0+(h.1.extract 0 256).size)))=sE h.1:=by
 rw[tL,List.take_zero,List.nil_append,<-List.map_drop,List.drop_replicate,<-List.map_append];rfl
theorem KH(h:H5):((sE h.1).take 256++((bo (h.1.extract 256 h.1.size)).map (Value.int .u8)++(sE h.1).drop (256+(h.1.extract 256 h.1.size).size)))=hvC h:=by
 have hl:(bo (h.1.extract 0 256)).length=256:=by rw[gV,tL]
 rw[Ch,List.drop_of_length_le (by rw[yJ];exact Nat.le_refl _),List.append_nil,sE,<-List.map_take,List.take_left' hl,<-List.map_append,<-xU,hvC]
 have e:h.1.extract 0 256++h.1.extract 256 h.1.size=h.1:=by
  apply gM
  rw[cZ,gl,gl,h.2,List.drop_zero,Nat.sub_zero,List.take_of_length_le (l:=(bl h.1).drop 256) (by rw[List.length_drop,bO,h.2];decide),List.take_append_drop]
 rw[e]
theorem DQ(h:H5)(w:World):
  Calls Tryz.prog 191 #[.string h.1] w (Ret (.agg (hvC h).toArray) w):=by
 go_enter Tryz.func191,Tryz.ntmps191
 have al:=St.start w
 refine wq (sqr ?_)
 refine ej (fun x_=>pb x_) (fun bF=>vp bF) (fun bF=>eB bF 142 ((List.replicate 512 (0:Int)).map (Value.int .u8)).toArray) al (by
   refine svA fun p g W X cx=>?_
   exact dp (cs:=((List.replicate 512 (0:Int)).map (Value.int .u8)).toArray) rfl (by kernel_rfl) rfl rfl (fun _ _ _ _ _=> .intro)) fun bF W1 aA=>?_
 refine aa (wq (sqr ?_))
 refine ej (fun x_=>pb x_) (fun dK=>vp dK) (fun dK=>eB dK 142 ((List.replicate 512 (0:Int)).map (Value.int .u8)).toArray) aA (by
   refine svA fun p g W X cx=>?_
   exact dp (cs:=((List.replicate 512 (0:Int)).map (Value.int .u8)).toArray) rfl (by kernel_rfl) rfl rfl (fun _ _ _ _ _=> .intro)) fun dK W2 bQ=>?_
 refine aa (wq (sqr (sqp [.k 4 (vi 256)] ?_)))
 refine aa (wq ?_)
 have hz5:=h.2
 refine aH [0,1,0,0,12,31] [[],[],[],[],[],[1]] [[],[],[],[],[],[2]] [[],[],[],[],[],[1]] [.c 5 (vp dK),.c 6 (.slice ((some ⟨dK,0,none⟩)) 256 256),.k 7 (.string h.1),.k 8 (vi 256),.c 9 (.string (h.1.extract 0 256)),.a 10] (fun ix j g X=>match ix with|0|1|2|3|4=>True|5=>j 10=vi (((h.1.extract 0 256).size:Int))/\X 2=eB dK 142 (sE h.1).toArray|_=>True) [0,2] [0,1,4,5] [(5,0,6,11)] bQ ?_ ?_ ?_
 exact fun ix _ _ _ _ _ _ hs hb hx h=>match ix,h with
 |5,h=>by dsimp only;rw[<-hs 10 rfl,<-hx 2 rfl];exact h
 |0,_|1,_|2,_|3,_|4,_|_+6,_=>trivial
 refine⟨?_,?_,?_,?_,trivial⟩
 exact xs4 rfl id fun cx=>ju (n:=2) (sz:=256) (m:=0) (q:=0) rfl (by kernel_rfl) (cx.ou 3) (cx.co _) (by omega) (by omega) (by omega)
 exact xs4 rfl id fun cx=>jV (n:=256) (e:=5) rfl (by kernel_rfl) (by kernel_rfl) (cx.an 0)
 exact xs4 rfl id fun cx=>fc (l:=256) rfl (by kernel_rfl) (cx.an 2) (cx.an 3) (by omega) (by omega)
 refine svA fun p g W X cx=>?_
 exact wF (e:=5) (off:=0) rfl (by kernel_rfl) (by kernel_rfl) (cx.an 1) (cx.an 4) cx (cx.init 1 _ rfl) rfl (by rw[tL];simp) (by rw[tL];decide) (J8 h) rfl rfl (fun j u X' hs hb hv hx=>⟨hv 10 rfl,hx⟩)
 intro j g X W4 hD be fr aG
 simp only[exq 2 ((dTn (hD 5 lq)).2)] at be
 simp only[ed 10 ((dTn (hD 5 lq)).1)] at aG
 clear hD;subst aG;clear j g X
 refine aa (wq (aH [0,1,0,0,12,31] [[],[],[],[],[],[1]] [[],[],[],[],[],[2]] [[],[],[],[],[],[1]] [.c 11 (po dK 256),.c 12 (.slice ((some ⟨dK,256,none⟩)) 256 256),.k 13 (.string h.1),.k 14 (vi 256),.c 15 (.string (h.1.extract 256 h.1.size)),.a 16] (fun ix j g X=>match ix with|0|1|2|3|4=>True|5=>j 16=vi (((h.1.extract 256 h.1.size).size:Int))/\X 2=eB dK 142 (hvC h).toArray|_=>True) [0,2] [0,1,4,5] [(11,0,6,17)] be ?_ ?_ ?_))
 exact fun ix _ _ _ _ _ _ hs hb hx h=>match ix,h with
 |5,h=>by dsimp only;rw[<-hs 16 rfl,<-hx 2 rfl];exact h
 |0,_|1,_|2,_|3,_|4,_|_+6,_=>trivial
 refine⟨?_,?_,?_,?_,trivial⟩
 exact xs4 rfl id fun cx=>ju (n:=2) (sz:=256) (m:=1) (q:=256) rfl (by kernel_rfl) (cx.ou 3) (cx.co _) (by omega) (by omega) (by omega)
 exact xs4 rfl id fun cx=>jV (n:=256) (e:=5) rfl (by kernel_rfl) (by kernel_rfl) (cx.an 0)
 exact xs4 rfl id fun cx=>em (l:=256) rfl (by kernel_rfl) (cx.an 2) (cx.an 3) (by omega) (by omega)
 refine svA fun p g W X cx=>?_
 exact wF (e:=5) (off:=256) rfl (by kernel_rfl) (by kernel_rfl) (cx.an 1) (cx.an 4) cx (cx.init 1 _ rfl) rfl (by rw[Ch];rw[yJ];decide) (by rw[Ch];decide) (KH h) rfl rfl (fun j u X' hs hb hv hx=>⟨hv 16 rfl,hx⟩)
 intro j g X W5 hD aR fr aG
 simp only[exq 2 ((dTn (hD 5 lq)).2)] at aR
 simp only[ed 16 ((dTn (hD 5 lq)).1)] at aG
 clear hD;subst aG;clear j g X
 refine aa (wq (sqr ?_))
 refine sql (.agg (hvC h).toArray) aR (fun cx=>B7 (n:=512) rfl (by kernel_rfl) (by kernel_rfl) (cx.ou 3) (cx.bi 1 rfl) (by simp[c7])) ?_
 refine sqc (eB bF 142 (hvC h).toArray) 0 aR (by
   refine svA fun p g W X cx=>?_
   exact vY (n:=512) rfl (cx.ou 2) (show _=Value.agg (hvC h).toArray from(cx.ou 17)) (by kernel_rfl) (by simp[c7]) (by simp[c7]) (rk h) cx (cx.init 0 _ rfl) rfl rfl rfl rfl (fun _ _ _ _ _=>id)) fun W7 aZ=>?_
 refine aa (wp_ret ?_)
 refine bpr (.agg (hvC h).toArray) (bA (n:=512) Tryz.results191 rfl (by kernel_rfl) (by kernel_rfl) (aZ.blk 0 rfl) (by simp[c7])) ?_
 exact Ret.of rfl aZ.ext
theorem AE(b:Nat)(D:DkM)(er:Int)(D2:DkM->DkM)(f1 f2:FuncId)(cap1 cap2:Array Value)(fp:List Nat)(w:World)(hB:(eDk b D fp).holds w)(hlt:∀k∈fp,k<w.heap.size)(hcf1:gY Tryz.prog f1=true)(hcf2:gY Tryz.prog f2=true)(hf1:∀W,Upd fp w W->jz W b D->Calls Tryz.prog f1 cap1 W (Ret (.int .i64 er) W))(hf2:er=0->∀W fp1,Upd fp w W->(eDk b {D with left:=cX D.left} fp1).holds W->(∀k∈fp1,k<W.heap.size)->(∀k∈fp1,k∈fp\/w.heap.size<=k)->Calls Tryz.prog f2 cap2 W (mi b (D2 {D with left:=cX D.left}) fp1 W)):
  Calls Tryz.prog 126 #[po b 0,.func (.func f1) #[] cap1,.func (.func f2) #[] cap2] w (bV b (opD D er D2) fp w):=by
 have st1:St w fp [eDk b D fp] w:=St.lend hB (dV _ _ _) hlt
 go_enter Tryz.func126,Tryz.ntmps126
 have al:=st1
 refine wq (sqr (sqp [.k 6 (vi 0)] ?_))
 refine aa (wq (wq ?_))
 obtain⟨onv,hon⟩:∃z,(!D.off)=z:=⟨_,rfl⟩
 refine sqr (sqp [.m 8 0] ?_)
 refine sqk (.bool onv) al (fun cx=>⟨_,rD hon (mj b D _ (fb (CtxV.holdF cx (cx.init 0 _ rfl) rfl))),(ax (cx.ou 8))⟩) fun W3 bc=>?_
 refine sqp [.k 10 (.bool (!(onv)))] ?_
 refine aa ?_
 rcases Bool.eq_false_or_eq_true (onv) with eX|eX
 ·refine wp_cond_false (show Act.eval _ _= .bool false from(congrArg Value.bool (by rw[eX];rfl))) (wp_skip (aa (wq (wq (sqr (sqp [.m 11 1] ?_))))))
  refine sqv (vi er) bc (iq rfl rfl rfl rfl rfl (fun _ _ _ h=>h) fun c g W X cx=>⟨_,_,cQ (f:=f1) (args:=#[]) (args':=#[]++cap1) rfl rfl (cx.ou 11) hcf1 ji (by rw[Array.empty_append]),AN Array.empty_append (hf1 _ cx.upd (fb (CtxV.holdF cx (cx.init 0 _ rfl) rfl)))⟩) fun W7 aZ=>?_
  refine sqp [.m 7 12] ?_
  refine aa (wq (sqr (sqp [.m 13 7,.k 14 (.bool (er != 0))] ?_)))
  refine aa (wbs (fun dt=>?_) fun dt=>?_)
  have hH:=bne_iff_ne.1 dt
  refine wq (sqr (sqp [.m 15 7,.m 6 15] ?_))
  refine aa (wp_ret (aj ?_))
  refine bpr (vi er) (ai Tryz.results126 rpt) ?_
  exact bV.of (R':=(D,er)) (by rw[opD,if_neg (by have h_:=hon.trans eX;simpa using h_),if_pos (by simpa using dt)]) aZ
  have hH:=bne_eq_false_iff_eq.1 dt
  refine wp_skip (aa (wq (wq ?_)))
  have hD_:(eDk b D fp).holds W7:=(aZ.ok _ (List.mem_singleton.2 rfl)).holds
  obtain⟨PA,Pc,GA,gc,Ps,Qs,hps,hsub,hfp,hap,hall⟩:=hD_
  have gx:St w fp [eB b 100 #[.slice PA D.pgs.length Pc,.slice GA D.log.size gc,vi ((D.fl:Int)),.bool D.off,.bool D.armed,vi D.left],eO 144 513 (.slice PA D.pgs.length Pc) D.pgs.length (Ps.flatMap shC),eO 5 1 (.slice GA D.log.size gc) D.log.size ((bo D.log).map (Value.int .u8)),eWs Qs] W7:=St.unpack aZ hfp hall hap
  refine sqr (sqp [.m 16 0,.k 17 (vp b),.k 18 (po b 4)] ?_)
  refine av 0 gx ?_
  refine sqp [.m 20 19] ?_
  refine d6 20 [21,22,23,24,25] ?_ rfl (fun hq=>?_) ?_
  rotate_left
  refine sqp [.m 21 0,.k 22 (vp b),.k 23 (po b 5)] ?_
  refine av 0 gx ?_
  refine sqp [.k 25 (.bool (decide (D.left<=0)))] ?_
  exact sqe
  refine c8 ?_
  refine sqp [sPa 26 D.armed (decide (D.left<=0))] ?_
  refine aa (wbs (fun fe=>?_) fun fe=>?_)
  have fa:=fe
  simp only[zB] at fa
  obtain⟨zi,zj⟩:=fa
  refine wq (sqr (sqp [.m 27 0,.k 28 (vp b),.k 29 (po b 3)] ?_))
  refine aV (n:=1) 0 #[.slice PA D.pgs.length Pc,.slice GA D.log.size gc,vi ((D.fl:Int)),.bool true,.bool D.armed,vi D.left] gx fun Fe jx=>?_
  refine aa (wq (sqr (sqp [.k 6 (vi 24)] ?_)))
  refine aa (wp_ret (aj ?_))
  refine bpr (vi 24) (ai Tryz.results126 rpt) ?_
  obtain⟨fp2,hk_⟩:=St.dk (L:=[]) (D:={D with off:=true}) (PA:=PA) (Pc:=Pc) (GA:=GA) (gc:=gc) (jx.pick [0,1,2,3] (by decide) rfl) hps hsub
  exact bV.of (R':=({D with off:=true},24)) (by rw[opD,if_neg (by have h_:=hon.trans eX;simpa using h_),if_neg (by simpa using dt),if_pos (by simpa using fe)]) hk_
  have fa:=fe
  simp only[zB] at fa
  refine wp_skip (aa (wq (sqr (sqp [.m 30 0,.k 31 (vp b),.k 32 (po b 5)] ?_))))
  refine av 0 gx ?_
  refine sqp [.k 34 (vi ((cX D.left))),.k 35 (vp b),.k 36 (po b 5)] ?_
  refine aV (n:=1) 0 #[.slice PA D.pgs.length Pc,.slice GA D.log.size gc,vi ((D.fl:Int)),.bool D.off,.bool D.armed,vi ((cX D.left))] gx fun pT dd=>?_
  refine aa (wq ?_)
  obtain⟨D1,hD1⟩:∃z,({D with left:=cX D.left}:DkM)=z:=⟨_,rfl⟩
  obtain⟨fp2,hk_40⟩:=St.dk (L:=[]) (D:={D with left:=cX D.left}) (PA:=PA) (Pc:=Pc) (GA:=GA) (gc:=gc) (dd.pick [0,1,2,3] (by decide) rfl) hps hsub
  simp only[List.nil_append] at hk_40
  rw[hD1] at hk_40 hf2
  have hf2:=hf2 (by simpa using dt)
  refine sqr (sqp [.m 37 2] ?_)
  refine bN (fun X_=>X_.fp) (.tuple #[]) (fun nH=>eDk b (D2 D1) nH) 0 hk_40 (by
    refine svA fun c g W X cx=>?_
    refine am.call (cQ (f:=f2) (args:=#[]) (args':=#[]++cap2) rfl rfl (cx.ou 37) hcf2 ji (by rw[Array.empty_append])) ?_
    refine(AN Array.empty_append (hf2 _ _ cx.upd (CtxV.holdF cx (cx.init 0 _ rfl) rfl) (CtxV.ltF cx (cx.init 0 _ rfl) rfl) (CtxV.ownF cx (cx.init 0 _ rfl) rfl))).mono ?_
    rintro e W1 ⟨rfl,fp4,aU⟩
    refine⟨_,rfl,aN (E:=eDk b D1 fp2) [eDk b (D2 D1) fp4] (cx.init 0 _ rfl) rfl rfl aU (fun j p X' hs hb hv hN=>?_)⟩
    have aK:=(hv 38 rfl).1;have aW:=(hv 38 rfl).2
    exact⟨aK.trans rfl,cJ ((List.cons.inj hN).1)⟩) fun nH uE fk=>?_
  refine aa (wq (sqr (sqp [.k 6 (vi 0)] ?_)))
  refine aa (wp_ret ?_)
  refine bpr (vi 0) (ai Tryz.results126 rpt) ?_
  exact bV.of (R':=(D2 D1,0)) (by rw[opD,if_neg (by have h_:=hon.trans eX;simpa using h_),if_neg (by simpa using dt),if_neg (by have h_:=fe;intro h2_;simp[h2_.1,h2_.2] at h_),hD1]) fk
 refine wp_cond_true (show Act.eval _ _= .bool true from(congrArg Value.bool (by rw[eX];rfl))) (wq (sqr (sqp [.k 6 (vi 24)] ?_)))
 refine aa (wp_ret (aj ?_))
 refine bpr (vi 24) (ai Tryz.results126 rpt) ?_
 exact bV.of (R':=(D,24)) (by rw[opD,if_pos (by simpa using hon.trans eX)]) bc
end
section
open Go.RowKit
theorem yy:∀(l pre suf:List Value),suf.length=l.length->(l.zipIdx pre.length).foldl (fun(cs:Array Value) (x:Value×Nat)=>cs.setIfInBounds (0+x.2) x.1) (pre++suf).toArray=(pre++l).toArray
 | [],pre,suf,h=>by rw[List.eq_nil_of_length_eq_zero (l:=suf) h];rfl
 |v::l,pre,[],h=>by simp at h
 |v::l,pre,z::suf,h=>by
  rw[List.zipIdx_cons,List.foldl_cons]
  dsimp only
  have e:(pre++z::suf).toArray.setIfInBounds (0+pre.length) v=((pre++[v])++suf).toArray:=by simp
  rw[e,show pre.length+1=(pre++[v]).length by simp,yy l (pre++[v]) suf (by simpa using h)]
  simp
theorem H0{c:Operand->Value}{t e:TypeId}{n:Nat}(h:o.op= .buildSlice t 1 #[(0,x)])(ht:P.underlying t=some (.slice e))(hz:szP P e=some n)(h0:(nq P e).isSome=true)(hx:c x= .agg xs.toArray)(hn:xs.length=n)(hn2:n<=16777216)(hn0:0<n):(execOp c o).run P W= .ok (.value (.slice (some ⟨W.heap.size,0,none⟩) (1:Nat) (1:Nat))) (W.alloc (.cells xs.toArray e)):=by
 cases hq:P.info? e with
 |none=>simp[szP,hq] at hz
 |some inf=>
  cases hq2:inf.zero with
  |none=>simp[nq,hq,hq2] at h0
  |some z=>
   have hinf:inf.size=n:=by simpa[szP,hq] using hz
   have hfill:Instr.fill (fun i=>some (i*n,n)) ((Array.range (1*n)).map fun i=>z.cells[i % z.cells.size]!) [(0,Value.agg xs.toArray)]=some xs.toArray:=by
    have hc:(Value.agg xs.toArray).cells=xs.toArray:=rfl
    unfold Instr.fill
    dsimp only
    rw[hc]
    have hsz:xs.toArray.size=n:=hn
    rw[if_neg (by simp[hsz,hn])]
    unfold Instr.fill
    congr 1
    rw[Nat.zero_mul,<-Array.foldl_toList,Array.toList_zipIdx]
    have h5:=yy xs [] ((Array.range (1*n)).map fun i=>z.cells[i % z.cells.size]!).toList (by simp[hn])
    rw[List.nil_append,List.nil_append,Array.toArray_toList] at h5
    exact h5
   have h1:(zeroValue e).run P W= .ok z W:=by
    unfold zeroValue
    simp only[Sem.run_bind,run_typeInfo _ hq,Result.andThen_ok,hq2,Sem.run_pure]
   unfold execOp;rw[h]
   simp only[List.map_toArray,List.map_cons,List.map_nil,hx,Instr.buildSlice,Sem.run_bind,run_underlying ht,Result.andThen_ok,dq hz,Nat.one_mul]
   rw[if_neg (by omega),if_neg (by omega)]
   rw[Nat.one_mul] at hfill
   simp only[Sem.run_bind,h1,Result.andThen_ok,Sem.run_pure,hfill,newRow,newObj]
   rfl
def jD(k:Nat)(h:H5)(D:DkM):DkM:={D with pgs:=D.pgs.set k ⟨(D.pgs.getD k gB).safe,(D.pgs.getD k gB).ws++[h]⟩}
def wrD(n:Int)(s:ByteArray)(D:DkM):DkM:=if h:s.size=512 then jD n.toNat ⟨s,h⟩ D else D
def wrE(D:DkM)(n:Int)(s:ByteArray):Int:=if 0<=n/\n<(D.pgs.length:Int) then (if s.size=512 then 0 else 1) else 22
theorem xS{α:Type}{l:List α}{x:α}(h:l[k]? =some x):∃A B,l=A++x::B/\A.length=k:=by
 obtain⟨hk,rfl⟩:=List.getElem?_eq_some_iff.1 h
 exact⟨l.take k,l.drop (k+1),by rw[<-List.drop_eq_getElem_cons hk,List.take_append_drop],by rw[List.length_take];omega⟩
theorem Kt{α:Type}(A B:List α)(x y:α):(A++x::B).set A.length y=A++y::B:=by simp
theorem Kx{α c:Type}(f:α->c)(A B:List α)(t:α)(y:c):(A.map f++f t::B.map f).set A.length y=A.map f++y::B.map f:=by
 have h:=Kt (A.map f) (B.map f) (f t) y
 rw[List.length_map] at h;exact h
theorem Dh(A B:List ShT)(t:ShT)(A':Option Addr)(c':Nat)(ws':List H5)(n':Nat)(hn:n'=ws'.length):((A++t::B).flatMap shC).set (A.length*513+512) (.slice A' n' c')=(A++⟨t.s,A',c',ws'⟩::B).flatMap shC:=by
 subst hn
 have hl:(A.flatMap shC).length=A.length*513:=ol dy A
 rw[List.flatMap_append,List.flatMap_cons,List.flatMap_append,List.flatMap_cons,<-hl,List.set_append_right _ _ (by omega),Nat.add_sub_cancel_left,List.set_append_left _ _ (by rw[dy];decide)]
 have e:(shC t).set 512 (.slice A' ws'.length c')=shC ⟨t.s,A',c',ws'⟩:=by
  rw[shC,List.set_append_right _ _ (by rw[c7];decide),c7];rfl
 rw[e]
theorem St.outW{L:List Ent}{A:List ShT}(h:St w0 bor (L++[eWs (A++t::B)]) W):St w0 bor (L++[eWs (A++B),nX t]) W:=by
 rw[eWs,List.map_append] at h |-
 exact St.outA h
theorem St.inW{L:List Ent}{A:List ShT}(h:St w0 bor (L++[eWs (A++B),nX t]) W):St w0 bor (L++[eWs (A++t::B)]) W:=by
 rw[eWs,List.map_append] at h |-
 exact St.inA h
theorem Lg(t:List H5)(h:H5):t.flatMap hvC++hvC h=(t++[h]).flatMap hvC:=by simp
theorem Tryz.infoHalvesJ:(Tryz.prog.info? 142).map (fun i=>(i.zero,i.size,i.bytes))=some (some (.agg ((List.replicate 512 (0:Int)).map (Value.int .u8)).toArray),512,512):=by kernel_rfl
theorem jz.ext{D:DkM}(h:jz w b D)(hx:Ext w w'):jz w' b D:=let ⟨PA,Pc,GA,gc,Ps,h1⟩:=h;⟨PA,Pc,GA,gc,Ps,h1.ext hx⟩
theorem Gc(b b3 b4 b5:Nat)(D:DkM)(n:Int)(s:ByteArray)(w:World)(hB:jz w b D)(h3:Blk w b3 30 #[po b 0])(h4:Blk w b4 3 #[.int .i64 n])(h5:Blk w b5 9 #[.string s]):
  Calls Tryz.prog 189 #[po b3 0,po b4 0,po b5 0] w (Ret (.int .i64 (wrE D n s)) w):=by
 go_enter Tryz.func189,Tryz.ntmps189
 have al:=St.start w
 refine wq (sqr (sqp [.k 3 (vi 0)] ?_))
 refine aa (wq (wp_block (wq (sqr ?_))))
 refine sql (vp b) al (fun cx=>ae rfl (by kernel_rfl) (cx.ou 0) ((Blk.ext h3 cx.upd.to_ext).cell 0)) ?_
 refine sql (vi n) al (fun cx=>ae rfl (by kernel_rfl) (cx.ou 1) ((Blk.ext h4 cx.upd.to_ext).cell 0)) ?_
 refine sqk (.bool ((decide (0<=n)&&decide (n<(D.pgs.length:Int))))) al (fun cx=>⟨_,Ky b D n _ (hB.ext cx.upd.to_ext),(aP (cx.ou 5) (cx.ou 6))⟩) fun W4 be=>?_
 refine sqp [.k 8 (.bool (!((decide (0<=n)&&decide (n<(D.pgs.length:Int)))))),.m 4 8] ?_
 refine aa ?_
 rcases Bool.eq_false_or_eq_true ((decide (0<=n)&&decide (n<(D.pgs.length:Int)))) with fF|fF
 have oa:=fF
 simp only[zB] at oa
 obtain⟨Rt,Ru⟩:=oa
 refine wp_cond_false (show Act.eval _ _= .bool false from(congrArg Value.bool (by rw[fF];rfl))) (wq (sqr ?_))
 refine sql (.string s) be (fun cx=>ae rfl (by kernel_rfl) (cx.ou 2) ((Blk.ext h5 cx.upd.to_ext).cell 0)) ?_
 refine sqp [.k 11 (vi ((s.size:Int))),.k 12 (.bool ((s.size:Int) != 512)),.m 9 12] ?_
 refine aa (wbs (fun m4=>?_) fun m4=>?_)
 have pE:=bne_iff_ne.1 m4
 refine wq (sqr (sqp [.k 3 (vi 1)] ?_))
 refine aa (wp_ret (bb (aj ?_)))
 refine bpr (vi 1) (ai Tryz.results189 rpt) ?_
 exact Ret.int (by rw[wrE,if_pos (by have h_:=fF;simp at h_;omega),if_neg (by have h_:=m4;simp at h_;omega)]) be.ext
 have pE:=bne_eq_false_iff_eq.1 m4
 refine wp_skip (aw (aa (wq (sqr (sqp [.k 3 (vi 0)] ?_)))))
 refine aa (wp_ret ?_)
 refine bpr (vi 0) (ai Tryz.results189 rpt) ?_
 exact Ret.int (by rw[wrE,if_pos (by have h_:=fF;simp at h_;omega),if_pos (by have h_:=m4;simp at h_;omega)]) be.ext
 have oa:=fF
 simp only[zB] at oa
 refine wp_cond_true (show Act.eval _ _= .bool true from(congrArg Value.bool (by rw[fF];rfl))) (wq (sqr (sqp [.k 3 (vi 22)] ?_)))
 refine aa (wp_ret (bb (aj ?_)))
 refine bpr (vi 22) (ai Tryz.results189 rpt) ?_
 exact Ret.int (by rw[wrE,if_neg (by have h_:=fF;simp at h_;omega)]) be.ext
theorem Hh(b b3 b4 b5:Nat)(D:DkM)(k:Nat)(h:H5)(fp:List Nat)(w:World)(hB:(eDk b D fp).holds w)(hlt:∀k∈fp,k<w.heap.size)(h3:Blk w b3 30 #[po b 0])(h4:Blk w b4 3 #[.int .i64 (k:Int)])(h5:Blk w b5 9 #[.string h.1])(n3:b3∉fp)(n4:b4∉fp)(n5:b5∉fp)(hk:k<D.pgs.length)(hw:∀x∈D.pgs,x.ws.length<=1000000000):
  Calls Tryz.prog 190 #[po b3 0,po b4 0,po b5 0] w (mi b (jD k h D) fp w):=by
 have st1:=St.lend hB (dV _ _ _) hlt
 obtain⟨PA,Pc,GA,gc,Ps,Qs,hps,hsub,hfp,hap,hall⟩:=hB
 have st0:=St.unpack st1 hfp hall hap
 subst hsub
 have hPl:D.pgs.length=Qs.length:=by rw[<-hps,List.length_map]
 obtain⟨t,htk⟩:=Ce (Ps:=Qs) (k:=k) (by omega)
 have bR:=IL hps htk
 obtain⟨A,B,rfl,rfl⟩:=xS htk
 have hwt:t.ws.length<=1000000000:=hw _ (by rw[<-hps];exact List.mem_map.2 ⟨t,by simp,rfl⟩)
 have st2:=St.outW (L:=[eB b 100 #[.slice PA D.pgs.length Pc,.slice GA D.log.size gc,.int .i64 ((D.fl:Int)),.bool D.off,.bool D.armed,.int .i64 D.left],eO 144 513 (.slice PA D.pgs.length Pc) D.pgs.length ((A++t::B).flatMap shC),eO 5 1 (.slice GA D.log.size gc) D.log.size ((bo D.log).map (Value.int .u8))]) st0
 simp only[List.cons_append,List.nil_append,nX] at st2
 go_enter Tryz.func190,Tryz.ntmps190
 have al:=st2
 refine aH [0,1,3,7,0,0,32,96,224,0,992,2016,4064,0,8192,24576,65504,131071,262143,524287] [[],[],[],[0],[],[],[],[],[0],[],[1],[],[1],[],[],[],[5,4],[1],[],[1]] [[],[],[],[],[],[],[],[],[],[],[],[],[],[],[],[5],[6],[],[],[7]] [[],[],[],[],[],[],[],[],[],[],[],[],[],[],[],[],[4],[],[],[1]] [.c 3 (vp b),.k 4 (vp b),.k 5 (vp b),.c 6 (.slice PA D.pgs.length Pc),.c 7 (vi ((A.length:Int))),.c 8 (vp b),.k 9 (vp b),.k 10 (vp b),.c 11 (.slice PA D.pgs.length Pc),.c 12 (vi ((A.length:Int))),.c 13 (.pointer (some ((ad PA).add (A.length*513)))),.c 14 (.pointer (some ((ad PA).add (A.length*513+512)))),.c 15 (.slice t.A t.ws.length t.c),.c 16 (.string h.1),.c 17 (.agg (hvC h).toArray),.a 18,.a 19,.c 20 (.pointer (some ((ad PA).add (A.length*513)))),.c 21 (.pointer (some ((ad PA).add (A.length*513+512)))),.n] (fun ix j g X=>match ix with|0|1|2|3|4|5|6|7|8|9|10|11|12|13|14=>True|15=>j 18= .slice ((some ⟨(pb' (g 18)),0,none⟩)) 1 1/\X 5=eO 142 512 (.slice ((some ⟨(pb' (g 18)),0,none⟩)) 1 1) 1 (hvC h)|16=>j 19= .slice (sA (g 19)) (t.ws.length+1) (sC (g 19))/\X 6=eO 142 512 (.slice (sA (g 19)) (t.ws.length+1) (sC (g 19))) (t.ws.length+1) ((t.ws++[h]).flatMap hvC)|17|18=>True|19=>X 7=eO 144 513 (.slice PA D.pgs.length Pc) D.pgs.length ((A++⟨t.s,(sA (g 19)),(sC (g 19)),t.ws++[h]⟩::B).flatMap shC)|_=>True) [0,2,3,5,6,7] [0,3,4,5,8,9,10,11,12,13,14,15,16,17,18,19] [(3,0,19,22)] al ?_ ?_ ?_
 exact fun ix _ _ _ _ _ _ hs hb hx h=>match ix,h with
 |15,h=>by dsimp only;rw[<-hs 18 rfl,<-hb 18 rfl,<-hx 5 rfl];exact h
 |16,h=>by dsimp only;rw[<-hs 19 rfl,<-hb 19 rfl,<-hx 6 rfl];exact h
 |19,h=>by dsimp only;rw[<-hb 19 rfl,<-hx 7 rfl];exact h
 |0,_|1,_|2,_|3,_|4,_|5,_|6,_|7,_|8,_|9,_|10,_|11,_|12,_|13,_|14,_|17,_|18,_|_+20,_=>trivial
 refine⟨?_,?_,?_,?_,?_,?_,?_,?_,?_,?_,?_,?_,?_,?_,?_,?_,trivial⟩
 exact xs4 rfl id fun cx=>ae rfl (by kernel_rfl) (cx.ou 0) (Blk.cell (h3.upd cx.upd n3) 0)
 exact xs4 rfl id fun cx=>ae rfl (by kernel_rfl) (cx.an 2) ((cx.bi 0 rfl).cell 0)
 exact xs4 rfl id fun cx=>ae rfl (by kernel_rfl) (cx.ou 1) (Blk.cell (h4.upd cx.upd n4) 0)
 exact xs4 rfl id fun cx=>ae rfl (by kernel_rfl) (cx.ou 0) (Blk.cell (h3.upd cx.upd n3) 0)
 exact xs4 rfl id fun cx=>ae rfl (by kernel_rfl) (cx.an 7) ((cx.bi 0 rfl).cell 0)
 exact xs4 rfl id fun cx=>ae rfl (by kernel_rfl) (cx.ou 1) (Blk.cell (h4.upd cx.upd n4) 0)
 exact xs4 rfl id fun cx=>aI (e:=144) (m:=A.length) (sz:=513) rfl (by kernel_rfl) (by kernel_rfl) (cx.an 8) (cx.an 9) (by omega) (by omega) (At.of_ownN (cx.ri 1 rfl)) (bq (sz:=513) dy (by decide) (by omega))
 exact xs4 rfl id fun cx=>br rfl (by kernel_rfl) (cx.an 10)
 exact xs4 rfl id fun cx=>ae rfl (by kernel_rfl) (cx.an 11) (At.eltc (f:=shC) (k:=512) dy (At.of_ownN (cx.ri 1 rfl)) htk (mw t))
 exact xs4 rfl id fun cx=>ae rfl (by kernel_rfl) (cx.ou 2) (Blk.cell (h5.upd cx.upd n5) 0)
 exact xsc rfl id rfl rfl fun cx=>⟨_,DQ h _,(ax (cx.an 13))⟩
 refine svA fun p g W X cx=>?_
 have Pr:p (.tmp 17)= .agg (hvC h).toArray:=(cx.an 14)
 exact mn (e:=142) (sz:=512) (xs:=hvC h) rfl (H0 (n:=512) rfl (by kernel_rfl) (by kernel_rfl) rfl Pr (c7 h) (by decide) (by decide)) (by rw[c7]) (by decide) rfl rfl (fun _ _ _ _ _=> .intro)
 refine svA fun p g W X cx=>?_
 obtain⟨i0,hi0,hz0,hz1,hz2⟩:=info_parts Tryz.infoHalvesJ
 refine jc (n:=t.ws.length) (m:=1) (nm:=t.ws.length+1) (sz:=512) (xs:=t.ws.flatMap hvC) (news:=hvC h) (xs':=(t.ws++[h]).flatMap hvC) rfl (ty:=138) rfl (by kernel_rfl) hi0 hz0 hz1 hz2 rfl (by decide) (cx.an 12) cx (cx.init 4 _ rfl) rfl (dTn (cx.an 15)).1 (by rw[c7]) (At.of_ownN (cx.row (dTn (cx.an 15)).2 rfl)) (rk h) (by simp only[maxLen];omega) (by omega) rfl rfl rfl (by omega) ((Lg t.ws h)) (fun j u X' hs hb hv hx=>?_)
 exact⟨hv,hx⟩
 exact xs4 rfl id fun cx=>aI (e:=144) (m:=A.length) (sz:=513) rfl (by kernel_rfl) (by kernel_rfl) (cx.an 3) (cx.an 4) (by omega) (by omega) (At.of_ownN (cx.ri 1 rfl)) (bq (sz:=513) dy (by decide) (by omega))
 exact xs4 rfl id fun cx=>br rfl (by kernel_rfl) (cx.an 17)
 refine svA fun p g W X cx=>?_
 exact pX (m:=A.length*513+512) (n:=D.pgs.length) (sz:=513) rfl (cx.an 18) (dTn (cx.an 16)).1 (by kernel_rfl) rfl rfl cx (cx.init 1 _ rfl) rfl (by omega) rfl (Dh A B t _ _ (t.ws++[h]) _ (by simp)) rfl rfl (fun j u X' hs hb hx=>by rw[hb 19];exact hx)
 intro j g X W1 hD aA fr aG
 simp only[exq 5 ((dTn (hD 15 lq)).2),exq 6 ((dTn (hD 16 lq)).2),exq 7 ((dTn (hD 19 lq)))] at aA
 simp only[ed 18 ((dTn (hD 15 lq)).1),ed 19 ((dTn (hD 16 lq)).1)] at aG
 generalize pb' (g 18)=Rv,sA (g 19)=xm,sC (g 19)=xn at aA aG
 clear hD;subst aG;clear j g X
 refine bpe (.tuple #[]) (by simp[results,Tryz.results190,go_sem]) ?_
 have hl_:=St.inW (L:=[eB b 100 #[.slice PA D.pgs.length Pc,.slice GA D.log.size gc,vi ((D.fl:Int)),.bool D.off,.bool D.armed,vi D.left],eO 144 513 (.slice PA D.pgs.length Pc) D.pgs.length ((A++⟨t.s,xm,xn,t.ws++[h]⟩::B).flatMap shC),eO 5 1 (.slice GA D.log.size gc) D.log.size ((bo D.log).map (Value.int .u8))]) (t:=(⟨t.s,xm,xn,t.ws++[h]⟩:ShT)) (by have h_:=aA.pick [0,5,1,2,4] (by decide) rfl;rw[nX];dsimp only;rw[List.length_append,List.length_singleton];exact h_)
 have hpl_:(jD A.length h D).pgs.length=D.pgs.length:=List.length_set
 exact⟨rfl,St.dk (L:=[]) (D:=jD A.length h D) (PA:=PA) (Pc:=Pc) (GA:=GA) (gc:=gc) (Ps:=A++(⟨t.s,xm,xn,t.ws++[h]⟩:ShT)::B) (Qs:=A++(⟨t.s,xm,xn,t.ws++[h]⟩:ShT)::B) (by rw[dkL,dkC,hpl_];exact hl_) (by rw[jD];dsimp only;rw[bR,<-hps,List.map_append,List.map_append,List.map_cons,List.map_cons,Kx];rfl) rfl⟩
theorem yj{D:DkM}{n:Int}(h:wrE D n s=0):(0<=n/\n<(D.pgs.length:Int))/\s.size=512:=by
 unfold wrE at h
 split at h
 rename_i h1
 split at h
 rename_i h2;exact⟨h1,h2⟩
 cases h
 cases h
theorem DE(b b3 b4 b5:Nat)(D:DkM)(n:Int)(s:ByteArray)(fp:List Nat)(w:World)(hB:(eDk b D fp).holds w)(hlt:∀k∈fp,k<w.heap.size)(h3:Blk w b3 30 #[po b 0])(h4:Blk w b4 3 #[.int .i64 n])(h5:Blk w b5 9 #[.string s])(n3:b3∉fp)(n4:b4∉fp)(n5:b5∉fp)(hw:∀x∈D.pgs,x.ws.length<=1000000000):Calls Tryz.prog 126 #[po b 0,.func (.func 189) #[] #[po b3 0,po b4 0,po b5 0],.func (.func 190) #[] #[po b3 0,po b4 0,po b5 0]] w (bV b (opD D (wrE D n s) (wrD n s)) fp w):=by
 refine AE b D (wrE D n s) (wrD n s) 189 190 _ _ fp w hB hlt (by kernel_rfl) (by kernel_rfl) (fun W hU hA=>Gc b b3 b4 b5 D n s W hA (h3.upd hU n3) (h4.upd hU n4) (h5.upd hU n5)) (fun he W fp1 hU hh hl ho=>?_)
 obtain⟨h6,h7⟩:=yj he
 obtain⟨k,rfl⟩:∃k:Nat,n=(k:Int):=⟨n.toNat,by omega⟩
 have hno:∀x,x∉fp->x<w.heap.size->x∉fp1:=fun x h8 h9 h10=>by
  rcases ho x h10 with h11|h11
  exact h8 h11
  omega
 have e1:wrD (k:Int) s {D with left:=cX D.left}=jD k ⟨s,h7⟩ {D with left:=cX D.left}:=by rw[wrD,dif_pos h7,Int.toNat_natCast]
 rw[e1]
 exact Hh b b3 b4 b5 _ k ⟨s,h7⟩ fp1 W hh hl (h3.upd hU n3) (h4.upd hU n4) (h5.upd hU n5) (hno b3 n3 h3.lt) (hno b4 n4 h4.lt) (hno b5 n5 h5.lt) (by show k<D.pgs.length;omega) hw
theorem ua(b:Nat)(D:DkM)(n:Int)(s:ByteArray)(fp:List Nat)(w:World)(hB:(eDk b D fp).holds w)(hlt:∀k∈fp,k<w.heap.size)(hw:∀x∈D.pgs,x.ws.length<=1000000000):
  Calls Tryz.prog 169 #[po b 0,.int .i64 n,.string s] w (bV b (opD D (wrE D n s) (wrD n s)) fp w):=by
 have st1:St w fp [eDk b D fp] w:=St.lend hB (dV _ _ _) hlt
 go_enter Tryz.func169,Tryz.ntmps169
 have al:=st1
 refine wq (sqr ?_)
 refine ce #[vp b] al fun cT W1 aA=>?_
 refine ce #[vi n] aA fun dI W2 bQ=>?_
 refine ce #[.string s] bQ fun pF W3 bc=>?_
 refine sqp [.k 6 (vi 0)] ?_
 refine aa (wq (sqr (av 1 bc ?_)))
 refine sqv (.func (.func 189) #[] #[vp cT,vp dI,vp pF]) bc (by
   exact sv0 rfl rfl rfl rfl rfl (fun _ _ _ h=>h) fun c g W X cx=>by
    have gw:c (.tmp 3)=vp cT:=(cx.ou 3)
    have uK:c (.tmp 4)=vp dI:=(cx.ou 4)
    have qO:c (.tmp 5)=vp pF:=(cx.ou 5)
    simp[go_sem,Instr.makeFunc,gw,uK,qO]) fun W6 bI=>?_
 refine sqv (.func (.func 190) #[] #[vp cT,vp dI,vp pF]) bI (by
   exact sv0 rfl rfl rfl rfl rfl (fun _ _ _ h=>h) fun c g W X cx=>by
    have gw:c (.tmp 3)=vp cT:=(cx.ou 3)
    have uK:c (.tmp 4)=vp dI:=(cx.ou 4)
    have qO:c (.tmp 5)=vp pF:=(cx.ou 5)
    simp[go_sem,Instr.makeFunc,gw,uK,qO]) fun W7 aZ=>?_
 refine bN (fun X_=>X_.fp) (vi ((opD D (wrE D n s) (wrD n s)).2)) (fun Mk=>eDk b ((opD D (wrE D n s) (wrD n s)).1) Mk) 0 aZ (by
   refine svA fun c g W X cx=>?_
   refine am.call (aq (args:=#[vp b,.func (.func 189) #[] #[vp cT,vp dI,vp pF],.func (.func 190) #[] #[vp cT,vp dI,vp pF]]) rfl cx.sees rfl (by kernel_rfl) (dN (cx.ou 7) (cx.ou 8) (cx.ou 9))) ?_
   refine(DE b _ _ _ D n s _ _ (CtxV.holdF cx (cx.init 0 _ rfl) rfl) (CtxV.ltF cx (cx.init 0 _ rfl) rfl) (cx.bi 1 rfl) (cx.bi 2 rfl) (cx.bi 3 rfl) (by have h_:=cx.ap 1 0 rfl rfl (by decide);rw[(cx.init 1 _ rfl),(cx.init 0 _ rfl)] at h_;exact h_ _ (List.mem_singleton.2 rfl)) (by have h_:=cx.ap 2 0 rfl rfl (by decide);rw[(cx.init 2 _ rfl),(cx.init 0 _ rfl)] at h_;exact h_ _ (List.mem_singleton.2 rfl)) (by have h_:=cx.ap 3 0 rfl rfl (by decide);rw[(cx.init 3 _ rfl),(cx.init 0 _ rfl)] at h_;exact h_ _ (List.mem_singleton.2 rfl)) hw).mono ?_
   rintro e W1 ⟨rfl,fp4,aU⟩
   refine⟨_,rfl,aN (E:=eDk b D fp) [eDk b (opD D (wrE D n s) (wrD n s)).1 fp4] (cx.init 0 _ rfl) rfl rfl aU (fun j p X' hs hb hv hN=>?_)⟩
   have aK:=(hv 10 rfl).1;have aW:=(hv 10 rfl).2
   exact⟨aK.trans rfl,cJ ((List.cons.inj hN).1)⟩) fun Mk W8 dO=>?_
 refine sqp [.m 6 10] ?_
 refine aa (wp_ret ?_)
 refine bpr (vi ((opD D (wrE D n s) (wrD n s)).2)) (ai Tryz.results169 rpt) ?_
 exact bV.of rfl (dO.pick [0] (by decide) rfl)
end
section
open Go.RowKit
abbrev Rnd(l:Nat):Fence:=Fence.wide.inRound l
def jK(ops:Array Oper):Bool:=ops.all fun o=>match o.op with| .defer _=>false|_=>true
theorem Cv(h:jK ops=true)(ho:ops[i]? =some o):∀c,o.op≠ .defer c:=by
 intro c hc
 obtain⟨hi,he⟩:=Array.getElem?_eq_some_iff.1 ho
 have h2:=(Array.all_eq_true.1 h) i hi
 rw[he,hc] at h2
 cases h2
theorem O6{n:Nat}(hd:∀c,o.op≠ .defer c)(h:o.wp P a w K Q):o.wpIn (Rnd l) n P a w K Q:=by
 unfold Oper.wp at h
 refine⟨fun _ _=>trivial,?_⟩
 show o.uponIn (Rnd l) n P a K Q ((o.semAt (some l) a.eval).run P w)
 rw[Oper.semAt_eq (some l) a.eval o hd]
 generalize (execOp a.eval o).run P w=r at h |-
 cases r with
 |ok x w'=>
  cases x<;>simp only[Oper.upon,Oper.uponIn] at h |- <;>first
   |exact h
   |exact⟨fun hh=>by simp[Rnd,Fence.wide] at hh,CallsIn.inRound l (callsIn_wide.2 h)⟩
   |exact⟨fun hh=>by simp[Rnd,Fence.wide] at hh,fun c cs _=>let ⟨v,w',r,s⟩:=h c cs;⟨v,w',r,stepsIn_wide.2 s⟩⟩
 |halt x w'=>cases x<;>simp only[Oper.upon,Oper.uponIn] at h |- <;>exact h
section
variable{P:Program}{l n:Nat}{ops:Array Oper}{Q:Exit->Act->World->Prop}
theorem wh(hnd:jK ops=true)(hLo:¬LetsOut Q)(h:wpOp P ops Q i K a w):wpOpIn (Rnd l) n P ops Q i K a w:=by
 unfold wpOp at h
 unfold wpOpIn
 cases ho:ops[i]? with
 |none=>simp only[ho] at h |-;exact h
 |some o=>
  simp only[ho] at h |-
  split
  rename_i hw
  rw[if_pos hw] at h
  exact O6 (Cv hnd ho) (h.resolve_right fun hh=>hLo hh.2)
  rename_i hw
  rw[if_neg hw] at h
  exact⟨fun _ _=>trivial,h⟩
theorem ub(hnd:jK ops=true)(hLo:¬LetsOut Q):∀(m:Nat) (listed:Array Bool) (a:Act) (w:World),wpAny P .any ops Q m listed a w->wpAnyIn (Rnd l) n P .any ops Q m listed a w
 |0,listed,a,w,h=>h
 |m+1,listed,a,w,h=>⟨h.1,fun i hi=>wpOpIn_mono (fun a w hh=>ub hnd hLo m _ a w hh) (wh hnd hLo (h.2 i hi))⟩
theorem oY(hnd:jK ops=true)(hLo:¬LetsOut Q):∀(is:List Nat) (a:Act) (w:World),wpOps P ops Q is a w->wpOpsIn (Rnd l) n P ops Q is a w
 | [],a,w,h=>h
 |i::is,a,w,h=>by
  rw[wpOps_cons] at h
  rw[wpOpsIn_cons]
  exact wpOpIn_mono (fun a w hh=>oY hnd hLo is a w hh) (wh hnd hLo h)
end
section
variable{P:Program}{ops:Array Oper}{L:List Nat}{w0:World}{bor:List Nat}{X0:List Ent}{us cr kl:List (List Nat)}{Q:Exit->Act->World->Prop}{l n:Nat}
theorem w6(hnd:jK ops=true)(hm:P.follows .mixedOrders=true)(L:List Nat)(us cr kl:List (List Nat))(D:Nat->(Tmp->Value)->(Tmp->Value)->(Nat->Ent)->Prop)(fin:List Nat)
  (hL:gD ops L=true) (hd:fU ops t0.size=true) (hflow:gF ops.size X0.length L us cr kl=true) (hfin:kw ops.size X0.length cr kl fin=true)
  (hloc:jn ops X0.length L cr D) (bf:St w0 bor X0 w) (e8:i8 (bM P ops L ⟨t0,d0⟩ w0 bor X0 us cr kl D) ops.size)
  (hrest:∀(c g:Tmp->Value) (X:Nat->Ent) (w':World),(∀i,i<ops.size->D i c g X)->(∀q e,X0[q]? =some e->X q=e)->St w0 bor (fin.map X) w'->
   ∀fr,fr=dZ (cv ops) ((cv ops).map c) t0->Q .normal ⟨fr,d0⟩ w'):(Code.region id ops dr).wpIn (Rnd l) n P Q ⟨t0,d0⟩ w:=by
 have hs:∀i,i<ops.size->bM P ops L ⟨t0,d0⟩ w0 bor X0 us cr kl D i:=fun i hi=>e8.get i hi
 obtain⟨Q',hQ'⟩:∃Q':Exit->Act->World->Prop,Q'=fun e a w=>e= .normal/\Q .normal a w:=⟨_,rfl⟩
 have hr:∀(a:Act) (w:World) (listed:Array Bool),(∀i,i<ops.size->listed.getD i false=true)->VInv ops L ⟨t0,d0⟩ w0 bor X0 cr kl D listed a w->Q' .normal a w:=fun a w listed hall inv=>by
  rw[hQ'];exact⟨rfl,x3 (a0:=⟨t0,d0⟩) hd hfin (fun c g X w' h1 h2 h3=>hrest c g X w' h1 h2 h3 _ rfl) hall inv⟩
 have hLo:¬LetsOut Q':=by rw[hQ'];rintro⟨a,w,h,_⟩;cases h
 refine wpIn_mono (Q:=Q') ?_ fun e a w h=>by rw[hQ'] at h;obtain⟨rfl,h⟩:=h;exact h
 cases dr with
 |true=>
  refine wpIn_region_any hm (ub hnd hLo _ _ _ _ (Ba hL hd hflow hloc hs hr ops.size (Array.replicate ops.size false) ⟨t0,d0⟩ w.drew ?_ (lW bf.drew)))
  rw[List.countP_eq_length.2]
  simp
  intro i _
  rw[getD_replicate_false]
  rfl
 |false=>
  refine wpIn_region ?_
  rw[List.range_eq_range']
  exact oY hnd hLo _ _ _ (Bd hL hd hflow hloc hs hr ops.size 0 (Array.replicate ops.size false) ⟨t0,d0⟩ w (by omega) (fun j=>by rw[getD_replicate_false];simp) (lW bf))
end
theorem xd{n:Nat}{X0:List Ent}{t0:List Value}(L:List Nat)(us cr kl:List (List Nat))(tb:List TE)
  (A:Nat->(Tmp->Value)->(Tmp->Value)->(Nat->Ent)->Prop) (fin sp:List Nat) (rs:List (Nat×Nat×Nat×Nat)) (bf:St w0 bor X0 w) (hloc:jn ops X0.length L cr A)
  (e8:o9 (bM P ops L ⟨t0.toArray,d0⟩ w0 bor X0 us cr kl (fun ix c g X=>dT tb ix c (A ix c g X))) sp)
  (hrest:∀(c g:Tmp->Value) (X:Nat->Ent) (w':World),(∀i,i<ops.size->dT tb i c (A i c g X))->(∀q e,X0[q]? =some e->X q=e)->St w0 bor (fin.map X) w'->∀fr,fr=mgT tb c rs t0->Q .normal ⟨fr.toArray,d0⟩ w')
  (ht:nL P ops L t0.toArray tb 0 tb=tb.map jt:=by kernel_rfl) (hl:jm ops L cr kl sp 0 tb=true:=by kernel_rfl) (hn:tb.length=ops.size:=by kernel_rfl)
  (aG:∀c,dZ (cv ops) ((jj ops).map (jy ops tb c)) t0.toArray=(mgT tb c rs t0).toArray:=by intro c;kernel_rfl)
  (hm:P.follows .mixedOrders=true:=by kernel_rfl) (hnd:jK ops=true:=by kernel_rfl) (hL:gD ops L=true:=by kernel_rfl) (hd:fU ops t0.toArray.size=true:=by kernel_rfl) (hflow:gF ops.size X0.length L us cr kl=true:=by kernel_rfl) (hfin:kw ops.size X0.length cr kl fin=true:=by kernel_rfl):
  (Code.region id ops dr).wpIn (Rnd l) n P Q ⟨t0.toArray,d0⟩ w:=by
 refine w6 hnd hm L us cr kl (fun ix c g X=>dT tb ix c (A ix c g X)) fin hL hd hflow hfin (fun i c j g p X X' h1 h2 h3 h=>?_) bf (i8.of fun i hi=>?_) fun c g X w' hD hX hst' fr hfr'=>?_
 dsimp only at h |-
 rw[ie] at h |-
 cases hdd:(tb.getD i .n).dst with
 |some d=>
  rw[hdd] at h
  dsimp only at h |-
  have hi:i<tb.length:=jI (by rw[hdd];simp)
  have:=(fJ ht hi hdd).1
  rw[<-h1 d (by unfold np;simp[this])]
  exact h
 |none=>
  rw[hdd] at h
  exact hloc i c j g p X X' h1 h2 h3 h
 have hi':i<tb.length:=by rw[hn];exact hi
 have h:=i5 (i:=i) hl hi'
 rw[Nat.zero_add] at h
 rcases h with ⟨_,h⟩|⟨h,_⟩
 exact nh e8 i h
 exact nj hd ht hl hi' h
 subst hfr'
 have e:(cv ops).map c=(jj ops).map (jy ops tb c):=by
  unfold cv
  rw[List.map_map]
  refine List.map_congr_left fun i hi=>?_
  have him:=List.mem_filter.1 hi
  have hlt:i<ops.size:=List.mem_range.1 him.1
  have h:=hD i hlt
  rw[ie] at h
  unfold jy
  cases hdd:(tb.getD i .n).dst with
  |none=>rfl
  |some d=>
   rw[hdd] at h
   dsimp only at h |-
   have:=(fJ ht (i:=i) (by rw[hn];exact hlt) hdd).1
   simp only[Function.comp,this,Option.getD_some]
   exact h
 rw[e,aG c]
 exact hrest c g X w' hD hX hst' _ rfl
theorem w9{n:Nat}{X0:List Ent}{t0:List Value}{t1:(Tmp->Value)->List Value}{E:(Nat->Ent)->List Ent}(L:List Nat)(us cr kl:List (List Nat))(tb:List TE)
  (A:Nat->(Tmp->Value)->(Tmp->Value)->(Nat->Ent)->Prop) (fin sp:List Nat) (rs:List (Nat×Nat×Nat×Nat)) (bf:St w0 bor X0 w) (hloc:jn ops X0.length L cr A)
  (e8:o9 (bM P ops L ⟨t0.toArray,d0⟩ w0 bor X0 us cr kl (fun ix c g X=>dT tb ix c (A ix c g X))) sp)
  (hrest:∀(c g:Tmp->Value) (X:Nat->Ent) (w':World),(∀i,i<ops.size->dT tb i c (A i c g X))->St w0 bor (E X) w'->∀fr,fr=t1 c->Q .normal ⟨fr.toArray,d0⟩ w')
  (h1:∀c,mgT tb c rs t0=t1 c:=by intro c;dsimp only[mgT,jA,List.take,List.drop,List.cons_append,List.nil_append]) (hE:∀X,ka X0 X fin=E X:=by intro X;dsimp only[ka,qt])
  (ht:nL P ops L t0.toArray tb 0 tb=tb.map jt:=by kernel_rfl) (hl:jm ops L cr kl sp 0 tb=true:=by kernel_rfl) (hn:tb.length=ops.size:=by kernel_rfl)
  (aG:∀c,dZ (cv ops) ((jj ops).map (jy ops tb c)) t0.toArray=(mgT tb c rs t0).toArray:=by intro c;kernel_rfl)
  (hm:P.follows .mixedOrders=true:=by kernel_rfl) (hnd:jK ops=true:=by kernel_rfl) (hL:gD ops L=true:=by kernel_rfl) (hd:fU ops t0.toArray.size=true:=by kernel_rfl) (hflow:gF ops.size X0.length L us cr kl=true:=by kernel_rfl) (hfin:kw ops.size X0.length cr kl fin=true:=by kernel_rfl):
  (Code.region id ops dr).wpIn (Rnd l) n P Q ⟨t0.toArray,d0⟩ w:=
 xd L us cr kl tb A fin sp rs bf hloc e8 (fun c g X w' hD hX hs fr hf=>hrest c g X w' hD (by rw[<-hE X,rp hX];exact hs) fr (hf.trans (h1 c))) ht hl hn aG hm hnd hL hd hflow hfin
abbrev fps(L:List Ent):List Nat:=L.flatMap (·.fp)
theorem ga{L:List Ent}:k∈fps L<->∃e∈L,k∈e.fp:=by simp[fps]
theorem St.fps_own{L:List Ent}(h:St w0 bor L w)(hk:k∈fps L):(k∈bor\/w0.heap.size<=k)/\k<w.heap.size:=by
 obtain⟨e,he,hk⟩:=ga.1 hk
 exact(h.ok e he).own k hk
def lK(D:Nat):Ent:=⟨[D],fun W=>W.heap[D]? =some (.deferred (some []))⟩
theorem Lf(D:Nat):(lK D).loc:=fun W W' h hb=>(h D (by simp[lK])).trans hb
theorem St.takeD{L:List Ent}{D:Nat}(h:St w0 bor (L++[lK D]) W):St w0 bor L (W.putObj D (.deferred none)):=by
 have hd:=h.ok (lK D) (by simp)
 have hown:=hd.own D (by simp[lK])
 have hap:∀e∈L,D∉e.fp:=fun e he hk=>by
  have:=(List.pairwise_append.1 h.apart).2.2 e he (lK D) (by simp)
  exact this D hk (by simp[lK])
 have hg:=grownBy_putObj' W D (.deferred none)
 refine⟨⟨hg.os.trans h.upd.os,hg.tape.trans h.upd.tape,hg.output.trans h.upd.output,Nat.le_trans h.upd.size hg.size,fun k hk hb=>?_⟩,fun e he=>?_,(List.pairwise_append.1 h.apart).1⟩
 rw[hg.block k (Nat.lt_of_lt_of_le hk h.upd.size) fun e'=>?_]
 exact h.upd.block k hk hb
 cases e'
 rcases hown.1 with h1|h1
 exact hb h1
 omega
 have h2:=h.ok e (by simp[he])
 refine⟨h2.loc W _ (fun k hk=>hg.block k (h2.own k hk).2 fun e'=>?_) h2.holds,h2.loc,fun k hk=>⟨(h2.own k hk).1,Nat.lt_of_lt_of_le (h2.own k hk).2 hg.size⟩⟩
 cases e'
 exact hap e he hk
theorem HQ{n:Nat}{fn:Func}{R:Ending->World->Prop}{L:List Ent}{D:Nat}(bf:St w0 bor (L++[lK D]) w)
  (h:∀W,St w0 bor L W->∃v,(results fn t0).run P W= .ok v W/\R (.returned v) W):bodyPostM Fence.wide n P fn R .ret ⟨t0,[{target:= .collected D,args:=#[]}]⟩ w:=by
 have hK:w.heap[D]? =some (.deferred (some [])):=(bf.ok (lK D) (by simp)).holds
 show LeavesInM Fence.wide n P fn t0 R [{target:= .collected D,args:=#[]}] .returning w
 exact⟨by simp,.inl ⟨_,_,rfl,run_takeDeferred hK,h _ bf.takeD⟩⟩
theorem B1{n s:Nat}{a1:Act}(ho:o.op= .assign (.tmp s))(hg:o.guard=none)(hd:o.dst=some d)(h:K a1 W)(he:a.put (some d) (a.eval (.tmp s))=a1):
  (Code.region id #[o] false).wpIn (Rnd l) n P (Exit.then K (fun _ _ _=>False)) a W:=by
 refine wpIn_region ?_
 refine oY (by simp[jK,ho]) (by rintro⟨a,w,h⟩;exact h) _ _ _ ?_
 show wpOps P _ _ [0] a W
 rw[wpOps_cons]
 refine wpOp_step (show (#[o]:Array Oper)[0]? =some o from rfl) fun K' hK'=>?_
 rw[if_pos (show Region.wanted o _=true by unfold Region.wanted;rw[hg])]
 refine am.wp (post:=fun v w'=>v=a.eval (.tmp s)/\w'=W) (am.value (dm ho rfl) ⟨rfl,rfl⟩) fun v w' hv=>?_
 obtain⟨rfl,rfl⟩:=hv
 refine hK' _ _ ?_
 rw[hd,he]
 exact h
end
section
open Go.RowKit
def eJ{α:Type}(J:List Nat->List α->World->Prop)(C:List Nat)(pre:List α):Ent:=⟨C,J C pre⟩
theorem Upd.putObj{S:List Nat}{A B:World}{o:Obj}(h:Upd S A B)(hl:l∈S\/A.heap.size<=l):Upd S A (B.putObj l o):=by
 have hg:=grownBy_putObj' B l o
 refine⟨hg.os.trans h.os,hg.tape.trans h.tape,hg.output.trans h.output,Nat.le_trans h.size hg.size,fun k hk hn=>?_⟩
 rw[hg.block k (Nat.lt_of_lt_of_le hk h.size) fun e=>?_]
 exact h.block k hk hn
 cases e
 rcases hl with h1|h1
 exact hn h1
 omega
theorem kP(W:World)(l:Nat)(o:Obj):(W.putObj l o).heap.size=W.heap.size:=by simp
end
section
open Go.RowKit
def e00:Ent:=⟨[],fun _=>True⟩
theorem St.e00(W:World):St W [] [e00] W:=⟨Upd.refl _ _,fun x hx=>by rw[List.mem_singleton] at hx;subst hx;exact⟨trivial,fun _ _ _ _=>trivial,fun k hk=>by cases hk⟩,List.pairwise_singleton _ _⟩
def K6{α:Type}(P:Program)(gf:Nat)(lb:Array Value)(encs:α->Array Value)(Px:List α->α->Prop)(Rd:List α->World->Prop)(Z:List α->Prop):Prop:=
 ∀(l:Nat) (J:List Nat->List α->World->Prop) (W:World) (C0:List Nat),(∀C pre,(eJ J C pre).loc)->(∀k∈C0,k<W.heap.size)->J C0 [] W->(∀C pre A,J C pre A->Rd pre A)->
  (∀C pre x A,J C pre A->(∀k∈C,k<A.heap.size)->Px pre x->YieldAt Fence.wide 1 P l (encs x) A fun e B=>e= .returned (.bool true)/\∃C',St A C [eJ J C' (pre++[x])] B)->
  CallsIn Fence.wide 2 P gf (#[.func (.yield l) #[] #[]]++lb) W fun e B=>(∃v,e= .returned v)/\∃C xs,St W C0 [eJ J C xs] B/\Z xs
theorem Cq{α:Type}{g:Operand}{ps:Array Tmp}{assign body:Code}{w:World}{L0:List Ent}(bf:St w0 bor L0 w)
  {gf:Nat}{lb:Array Value}(hg:Act.eval ⟨t0,[]⟩ g= .func (.func gf) #[] lb) (eg:∀args w,(callFunc gf args).run P w= .ok (.enter gf args) w)
  {encs:α->Array Value}{Px:List α->α->Prop}{Rd:List α->World->Prop}{Z:List α->Prop}(hseq:K6 P gf lb encs Px Rd Z) (hps:∀x,(encs x).size=ps.size) (I:List α->List Ent->Prop) (h0:I [] L0) (hRd:∀pre L A,I pre L->(∀e∈L,e.holds A)->Rd pre A) (Ax:α->Act->Ent->Prop) (t1:α->List Value) (ht1:∀x,(ps.zip (encs x)).foldl (fun t (p,v)=>t.setIfInBounds p v) t0=(t1 x).toArray)
  (hassign:∀(l:Nat) (x:α) (W:World) (K:Act->World->Prop),(∀a' W' E,Ax x a' E->St W [] [E] W'->K a' W')->assign.wpIn (Rnd l) 1 P (Exit.then K (fun _ _ _=>False)) ⟨(t1 x).toArray,[]⟩ W)
  (hbody:∀(l:Nat) (pre:List α) (x:α) (W:World) (L:List Ent) (a':Act) (E:Ent),I pre L->Px pre x->Ax x a' E->St W (fps (L++[E])) (L++[E]) W->body.wpIn (Rnd l) 1 P (fun e _ W'=>e= .normal/\∃L',I (pre++[x]) L'/\St W (fps (L++[E])) L' W') a' W)
  (hdone:∀(D:Nat) (W:World) (L:List Ent) (xs:List α),I xs L->Z xs->St w0 bor (L++[lK D]) W->Q .normal ⟨t0,[{target:= .collected D,args:=#[]}]⟩ W):
  (Code.rangeFunc g ps assign body).wp P Q ⟨t0,[]⟩ w:=by
 refine(wpIn_wide (n:=3)).1 (wpIn_rangeFunc fun fn hfn=>?_)
 obtain⟨D,hD⟩:∃D,w.heap.size=D:=⟨_,rfl⟩
 obtain⟨rec,hrec⟩:∃rec:LoopState->Loop,rec=fun s=>{state:=s,pending:=none,fn,tmps:=t0,params:=ps,assign,body,defers:=D}:=⟨_,rfl⟩
 obtain⟨W1,hW1⟩:∃W1,(w.alloc (.deferred (some []))).alloc (.loop (rec .ready))=W1:=⟨_,rfl⟩
 have hL1:W1.heap[D+1]? =some (.loop (rec .ready)):=by
  rw[<-hW1,<-hD];have:=World.alloc_heap_new (w.alloc (.deferred (some []))) (.loop (rec .ready));rwa [World.size_alloc] at this
 have hK1:W1.heap[D]? =some (.deferred (some [])):=by
  rw[<-hW1,<-hD];exact(Below.heap_alloc _ _ _ (by simp)).trans (World.alloc_heap_new w _)
 have hx1:Ext w W1:=by rw[<-hW1];exact((Below.refl _ w).alloc (Nat.le_refl _) _).alloc (by simp) _
 have fQ:W1.heap.size=D+2:=by rw[<-hW1,World.size_alloc,World.size_alloc,hD]
 have h0w:=bf.upd.size
 obtain⟨J,hJ⟩:∃J:List Nat->List α->World->Prop,J=fun C pre A=>∃L,I pre L/\C=(D+1)::D::fps L/\(∀e∈L,e.holds A/\e.loc)/\L.Pairwise Ent.apart/\(∀k∈fps L,k≠D+1/\k≠D)/\A.heap[D+1]? =some (.loop (rec .ready))/\A.heap[D]? =some (.deferred (some [])):=⟨_,rfl⟩
 have hloc:∀C pre,(eJ J C pre).loc:=fun C pre A B hk h=>by
  subst hJ
  obtain⟨L,h1,rfl,h2,h3,h4,h5,h6⟩:=h
  refine⟨L,h1,rfl,fun e he=>⟨(h2 e he).2 A B (fun k hk'=>hk k ?_) (h2 e he).1,(h2 e he).2⟩,h3,h4,(hk (D+1) (by simp[eJ])).trans h5,(hk D (by simp[eJ])).trans h6⟩
  exact List.mem_cons_of_mem _ (List.mem_cons_of_mem _ (ga.2 ⟨e,he,hk'⟩))
 have hC0:∀k∈(D+1)::D::fps L0,(k∈bor\/w0.heap.size<=k)/\k<W1.heap.size:=fun k hk=>by
  rcases List.mem_cons.1 hk with rfl|hk
  exact⟨.inr (by omega),by omega⟩
  rcases List.mem_cons.1 hk with rfl|hk
  exact⟨.inr (by omega),by omega⟩
  have:=bf.fps_own hk
  exact⟨this.1,by omega⟩
 have hJ0:J ((D+1)::D::fps L0) [] W1:=by
  subst hJ
  refine⟨L0,h0,rfl,fun e he=>⟨(bf.ok e he).loc w W1 (fun k hk=>hx1.block ((bf.ok e he).own k hk).2) (bf.ok e he).holds,(bf.ok e he).loc⟩,bf.apart,fun k hk=>?_,hL1,hK1⟩
  have:=(bf.fps_own hk).2
  exact⟨by omega,by omega⟩
 refine⟨D+1,[{target:= .collected D,args:=#[]}],W1,{target:= .fn (.func gf) lb,args:=#[.func (.yield (D+1)) #[] #[]]},W1,gf,#[.func (.yield (D+1)) #[] #[]]++lb,W1,?_,?_,?_,?_,fun _=>by omega,?_⟩
 rw[<-hW1,hrec,<-hD];exact run_enterLoop_outer _ _ _ _ _
 simp only[resolve,hg]
 simp[go_sem]
 intro f' hf';trivial
 simp[invoke,go_sem,eg]
 refine(hseq (D+1) J W1 _ hloc (fun k hk=>(hC0 k hk).2) hJ0 (fun C pre A hj=>by subst hJ;obtain⟨L,hi,rfl,hall,_⟩:=hj;exact hRd pre L A hi fun e he=>(hall e he).1) ?_).mono ?_
 intro C pre x A hj hlt hlen
 subst hJ
 obtain⟨L,hi,rfl,hall,hap,hne,hl,hk⟩:=hj
 have hlA:D+1<A.heap.size:=hlt _ (by simp)
 have hDA:D<A.heap.size:=hlt _ (by simp)
 have hy:=run_yield (P:=P) (args:=encs x) hl (by rw[hrec];exact hps x)
 rw[hrec] at hy
 refine⟨fn,_,assign,body,hy,roundIn_of_wpIn hfn ?_⟩
 rw[ht1 x]
 refine hassign _ x A _ fun a' A1 E1 hAx hE1=>?_
 have hxA:=hE1.ext
 have hl1:A1.heap[D+1]? =some (.loop (rec .ready)):=(hxA.block hlA).trans hl
 have hk1:A1.heap[D]? =some (.deferred (some [])):=(hxA.block hDA).trans hk
 have hEo:=hE1.ok E1 (by simp)
 have hEn:∀k∈E1.fp,A.heap.size<=k/\k<A1.heap.size:=fun k hk'=>⟨(hEo.own k hk').1.resolve_left (by simp),(hEo.own k hk').2⟩
 have hsA1:=hxA.size
 refine⟨_,run_beginRound hl1 (by rw[hrec]),?_⟩
 obtain⟨A2,hA2⟩:∃A2,A1.putObj (D+1) (.loop {rec .ready with state:= .busy})=A2:=⟨_,rfl⟩
 have hsz:A2.heap.size=A1.heap.size:=by rw[<-hA2];exact kP _ _ _
 have hoth:∀k,k≠D+1->A2.heap[k]? =A1.heap[k]? :=fun k hk'=>by rw[<-hA2];exact World.putObj_heap_other hk'
 have hbusy:A2.heap[D+1]? =some (.loop {rec .ready with state:= .busy}):=by rw[<-hA2];exact World.putObj_heap_same (by omega)
 have hLlt:∀k∈fps L,k<A.heap.size:=fun k hk'=>hlt k (List.mem_cons_of_mem _ (List.mem_cons_of_mem _ hk'))
 have bQ:St A2 (fps (L++[E1])) (L++[E1]) A2:=by
  refine⟨Upd.refl _ _,fun e he=>?_,?_⟩
  have hin:∀k∈e.fp,k∈fps (L++[E1]):=fun k hk'=>ga.2 ⟨e,he,hk'⟩
  rcases List.mem_append.1 he with he|he
  refine⟨(hall e he).2 A A2 (fun k hk'=>?_) (hall e he).1,(hall e he).2,fun k hk'=>⟨.inl (hin k hk'),?_⟩⟩
  have h1:=ga.2 ⟨e,he,hk'⟩
  exact(hoth k (hne k h1).1).trans (hxA.block (hLlt k h1))
  have:=hLlt k (ga.2 ⟨e,he,hk'⟩);omega
  rw[List.mem_singleton] at he
  subst he
  exact⟨hEo.loc A1 A2 (fun k hk'=>hoth k (by have:=(hEn k hk').1;omega)) hEo.holds,hEo.loc,fun k hk'=>⟨.inl (hin k hk'),by have:=(hEn k hk').2;omega⟩⟩
  rw[List.pairwise_append]
  refine⟨hap,List.pairwise_singleton _ _,fun a ha b hb k hk' hkb=>?_⟩
  rw[List.mem_singleton] at hb
  subst hb
  have h1:=hLlt k (ga.2 ⟨a,ha,hk'⟩)
  have h2:=(hEn k hkb).1
  omega
 rw[hA2]
 have hfin:∀k∈fps (L++[E1]),k∈fps L\/A.heap.size<=k:=fun k hk'=>by
  obtain⟨e,he,hke⟩:=ga.1 hk'
  rcases List.mem_append.1 he with he|he
  exact .inl (ga.2 ⟨e,he,hke⟩)
  rw[List.mem_singleton] at he;subst he;exact .inr (hEn k hke).1
 refine wpIn_mono (hbody _ pre x A2 L a' E1 hi hlen hAx bQ) ?_
 rintro e a W3 ⟨rfl,L',hi',hs'⟩
 have hno:∀m,m=D+1\/m=D->m∉fps (L++[E1]):=fun m hm hmm=>by
  rcases hfin m hmm with h1|h1
  have:=hne m h1;rcases hm with rfl|rfl<;>simp at this
  omega
 have hl3:W3.heap[D+1]? =some (.loop {rec .ready with state:= .busy}):=(hs'.upd.block _ (by omega) (hno _ (.inl rfl))).trans hbusy
 have hk3:W3.heap[D]? =some (.deferred (some [])):=(hs'.upd.block _ (by omega) (hno _ (.inr rfl))).trans ((hoth D (by omega)).trans hk1)
 have hsz3:=hs'.upd.size
 have hne':∀k∈fps L',k≠D+1/\k≠D:=fun k hk'=>by
  rcases(hs'.fps_own hk').1 with h1|h1
  rcases hfin k h1 with h2|h2
  exact hne k h2
  exact⟨by omega,by omega⟩
  exact⟨by omega,by omega⟩
 refine⟨_,_,run_endRound none hl3,rfl,(D+1)::D::fps L',?_⟩
 have hupA:Upd ((D+1)::D::fps L) A A2:=by rw[<-hA2];exact(Upd.mono (S:=[]) (Upd.of_ext hxA) (fun k _ hk'=>by simp at hk')).putObj (.inl (List.mem_cons_self ..))
 have hup:Upd ((D+1)::D::fps L) A W3:=hupA.join hs'.upd (fun i hi=>by
  rcases hfin i hi with h1|h1
  exact Or.inl (List.mem_cons_of_mem _ (List.mem_cons_of_mem _ h1))
  exact .inr h1)
 have h3l:D+1<W3.heap.size:=by omega
 refine⟨hup.putObj (.inl (by simp)),fun e he=>?_,List.pairwise_singleton _ _⟩
 rw[List.mem_singleton] at he
 subst he
 refine⟨⟨L',hi',rfl,fun e he=>⟨(hs'.ok e he).loc W3 _ (fun k hk'=>World.putObj_heap_other (hne' k (ga.2 ⟨e,he,hk'⟩)).1) (hs'.ok e he).holds,(hs'.ok e he).loc⟩,hs'.apart,hne',?_,?_⟩,hloc _ _,fun k hk'=>?_⟩
 rw[hrec];exact World.putObj_heap_same h3l
 exact(World.putObj_heap_other (by omega)).trans hk3
 rw[kP]
 have hk':k∈(D+1)::D::fps L':=hk'
 rcases List.mem_cons.1 hk' with rfl|hk'
 exact⟨.inl (by simp),h3l⟩
 rcases List.mem_cons.1 hk' with rfl|hk'
 exact⟨.inl (by simp),by omega⟩
 have h6:=hs'.fps_own hk'
 refine⟨?_,h6.2⟩
 rcases h6.1 with h7|h7
 rcases hfin k h7 with h8|h8
 exact .inl (List.mem_cons_of_mem _ (List.mem_cons_of_mem _ h8))
 exact .inr h8
 exact .inr (by omega)
 rintro e W2 ⟨⟨v,rfl⟩,C,xs,hs,hz⟩
 have hjo:=hs.ok (eJ J C xs) (by simp)
 have hj:=hjo.holds
 subst hJ
 obtain⟨L,hi,rfl,hall,hap,hne,hl,hk⟩:=hj
 have hend:=run_endLoop (P:=P) hl (by rw[hrec];simp)
 have hpend:(rec .ready).pending=none:=by rw[hrec]
 rw[hpend] at hend
 refine⟨none,_,hend,hdone D _ L xs hi hz ?_⟩
 have hCo:∀k∈(D+1)::D::fps L,((k∈bor\/w0.heap.size<=k)/\k<W2.heap.size):=fun k hk'=>by
  have h5:=hjo.own k hk'
  refine⟨?_,h5.2⟩
  rcases h5.1 with h6|h6
  exact(hC0 k h6).1
  exact .inr (by omega)
 have hup:Upd bor w0 W2:=(bf.upd.join (show Upd [] w W1 from Upd.of_ext hx1) (fun i hi=>by cases hi)).join hs.upd (fun i hi=>(hC0 i hi).1)
 have hlA:=(hCo (D+1) (by simp)).2
 have hw0D:w0.heap.size<=D+1:=by omega
 refine⟨hup.putObj (.inr hw0D),fun e he=>?_,?_⟩
 rcases List.mem_append.1 he with he|he
 refine⟨(hall e he).2 W2 _ (fun k hk'=>World.putObj_heap_other (hne k (ga.2 ⟨e,he,hk'⟩)).1) (hall e he).1,(hall e he).2,fun k hk'=>?_⟩
 rw[kP]
 exact hCo k (List.mem_cons_of_mem _ (List.mem_cons_of_mem _ (ga.2 ⟨e,he,hk'⟩)))
 rw[List.mem_singleton] at he
 subst he
 refine⟨(World.putObj_heap_other (by omega)).trans hk,Lf D,fun k hk'=>?_⟩
 have:k=D:=by simpa[lK] using hk'
 subst this
 rw[kP]
 exact⟨.inr (by omega),by have:=(hCo k (by simp)).2;omega⟩
 rw[List.pairwise_append]
 refine⟨hap,List.pairwise_singleton _ _,fun a ha b hb k hk' hkb=>?_⟩
 rw[List.mem_singleton] at hb
 subst hb
 have:k=D:=by simpa[lK] using hkb
 exact(hne k (ga.2 ⟨a,ha,hk'⟩)).2 this
end
section
open Go.RowKit
section
variable{P:Program}{ops:Array Oper}{Q:Exit->Act->World->Prop}{i:Nat}{rest:List Nat}{o:Oper}{t:List Value}{d0:List Deferred}{W:World}{d:Tmp}{t':List Value}
theorem FY{g:Operand->Value}{c:Call}{l:Nat}(h:o.op= .call c)(hcal:c.callee= .value x)(hx:g x= .func (.yield l) #[] #[])(ha:c.args.map g=args){r:Result Next}(hr:(Instr.yield l args).run P W=r):(execOp g o).run P W=r:=by
 subst hr
 unfold execOp;rw[h]
 simp only[resolve,hcal,hx,Deferred.ofValue,ha,Sem.run_bind,Sem.run_pure,Result.andThen_ok,invoke]
 simp
theorem cn{v:Value}(ho:ops[i]? =some o)(hg:Region.wanted o (yielded ops t.toArray)=true)(hd:o.dst=some d)(hr:(execOp (Act.eval ⟨t.toArray,d0⟩) o).run P W= .ok (.value v) W)(ht:t.set d v=t')(h:wpOpsIn Fence.wide 2 P ops Q rest ⟨t'.toArray,d0⟩ W):wpOpsIn Fence.wide 2 P ops Q (i::rest) ⟨t.toArray,d0⟩ W:=by
 unfold wpOpsIn
 simp only[ho]
 rw[if_pos hg]
 refine⟨fun _ _=>trivial,?_⟩
 show o.uponIn Fence.wide 2 P _ _ Q ((execOp (Act.eval ⟨t.toArray,d0⟩) o).run P W)
 rw[hr,Oper.uponIn_value,hd]
 show wpOpsIn Fence.wide 2 P ops Q rest ⟨t.toArray.setIfInBounds d v,d0⟩ W
 rw[List.setIfInBounds_toArray,ht]
 exact h
theorem l0(ho:ops[i]? =some o)(hg:Region.wanted o (yielded ops t.toArray)=false)(hd:o.dst=some d)(ht:t.set d undef=t')(h:wpOpsIn Fence.wide 2 P ops Q rest ⟨t'.toArray,d0⟩ W):wpOpsIn Fence.wide 2 P ops Q (i::rest) ⟨t.toArray,d0⟩ W:=by
 unfold wpOpsIn
 simp only[ho]
 rw[if_neg (by rw[hg];decide)]
 refine⟨fun _ _=>trivial,?_⟩
 rw[hd]
 show wpOpsIn Fence.wide 2 P ops Q rest ⟨t.toArray.setIfInBounds d undef,d0⟩ W
 rw[List.setIfInBounds_toArray,ht]
 exact h
theorem KV{R:World->Prop}(ho:ops[i]? =some o)(hg:Region.wanted o (yielded ops t.toArray)=true)(hd:o.dst=some d)
  (hr:∀r,(Instr.yield l args).run P W=r->(execOp (Act.eval ⟨t.toArray,d0⟩) o).run P W=r) (hy:YieldAt Fence.wide 1 P l args W fun e B=>e= .returned (.bool true)/\R B) (ht:t.set d (.bool true)=t') (h:∀B,R B->wpOpsIn Fence.wide 2 P ops Q rest ⟨t'.toArray,d0⟩ B):wpOpsIn Fence.wide 2 P ops Q (i::rest) ⟨t.toArray,d0⟩ W:=by
 obtain⟨fn,tmps,assign,body,h1,h2⟩:=hy
 unfold wpOpsIn
 simp only[ho]
 rw[if_pos hg]
 refine⟨fun _ _=>trivial,?_⟩
 show o.uponIn Fence.wide 2 P _ _ Q ((execOp (Act.eval ⟨t.toArray,d0⟩) o).run P W)
 rw[hr _ h1,Oper.uponIn_round]
 refine⟨fun hh=>by simp[Fence.wide] at hh,h2.mono ?_⟩
 rintro e B ⟨rfl,hB⟩
 show wpOpsIn Fence.wide 2 P ops Q rest (Act.put ⟨t.toArray,d0⟩ o.dst (.bool true)) B
 rw[hd]
 show wpOpsIn Fence.wide 2 P ops Q rest ⟨t.toArray.setIfInBounds d (.bool true),d0⟩ B
 rw[List.setIfInBounds_toArray,ht]
 exact h B hB
theorem Ey(h:Q .normal a W):wpOpsIn Fence.wide 2 P ops Q [] a W:=h
end
theorem NL{α:Type}{A B:World}{C:List Nat}{L:List Ent}{J:List Nat->List α->World->Prop}{pre xs:List α}(h:St w bor (eJ J C pre::L) A){C':List Nat}(hj:St A C [eJ J C' xs] B):St w bor (eJ J C' xs::L) B:=by
 have hC:=h.ok (eJ J C pre) (List.mem_cons_self ..)
 have hp:=List.pairwise_cons.1 h.apart
 have hN:=hj.ok (eJ J C' xs) (by simp)
 refine⟨h.upd.join hj.upd (fun i hi=>(hC.own i hi).1),fun e he=>?_,List.pairwise_cons.2 ⟨fun e he k hk hke=>?_,hp.2⟩⟩
 rcases List.mem_cons.1 he with rfl|he'
 refine⟨hN.holds,hN.loc,fun k hk=>⟨?_,(hN.own k hk).2⟩⟩
 rcases(hN.own k hk).1 with h1|h1
 exact(hC.own k h1).1
 exact .inr (Nat.le_trans h.upd.size h1)
 have h2:=h.ok e (List.mem_cons_of_mem _ he')
 exact h2.keep hj.upd (fun k hk hkC=>hp.1 e he' k hkC hk)
 have h2:=h.ok e (List.mem_cons_of_mem _ he)
 rcases(hN.own k hk).1 with h1|h1
 exact hp.1 e he k h1 hke
 have:=(h2.own k hke).2;omega
def nT(q b:Nat)(PA:Option Addr)(Pc:Nat)(P0:List ShT)(pre:List Nat)(A:World):Prop:=Blk A q 30 #[.pointer (some ⟨b,0,none⟩)]/\∃D GA gc Ps,DkO A b D PA Pc GA gc Ps/\Ps.length=P0.length/\∀j,j∉pre->Ps[j]? =P0[j]?
theorem nT.c0{A:World}(h:nT q b PA Pc P0 pre A):A.cell? ⟨q,0,none⟩=some (po b 0):=h.1.cell 0
theorem nT.c1{A:World}(h:nT q b PA Pc P0 pre A):A.cell? ⟨b,0,none⟩=some (.slice PA P0.length Pc):=by
 obtain⟨_,D,GA,gc,Ps,hO,hlen,_⟩:=h
 have h1:=hO.blkL.cell 0
 have h2:D.pgs.length=P0.length:=by rw[<-hlen,<-hO.ab,List.length_map]
 rw[h1,<-h2];rfl
theorem nT.at_{A:World}(h:nT q b PA Pc P0 pre A){j:Nat}(hj:j∉pre)(ht:P0[j]? =some t):∃Ps:List ShT,At A PA (Ps.flatMap shC)/\Ps[j]? =some t:=by
 obtain⟨_,D,GA,gc,Ps,hO,hlen,hun⟩:=h
 exact⟨Ps,hO.at_,(hun j hj).trans ht⟩
def K2(P0:List ShT)(pre:List Nat)(x:Nat):Prop:=(∃t,P0[x]? =some t/\t.ws≠[])/\∀y∈pre,y<x
def WrZ(P0:List ShT)(xs:List Nat):Prop:=∀j t,P0[j]? =some t->t.ws≠[]->j∈xs
def wrA(PA:Option Addr)(x:Nat):Array Value:=#[.pointer (some ((ad PA).add (x*513)))]
def NG(P0:List ShT)(C0:List Nat)(J:List Nat->List Nat->World->Prop)(w:World)(e:Ending)(B:World):Prop:=(∃v,e= .returned v)/\∃C xs,St w C0 [eJ J C xs] B/\WrZ P0 xs
theorem Cu(h:wpOpsIn Fence.wide 2 P ops Q (List.range ops.size) a W):(Code.region id ops false).wp P Q a W:=
 (wpIn_wide (n:=2)).1 (wpIn_region h)
theorem yo(l q b:Nat)(PA:Option Addr)(Pc:Nat)(P0:List ShT)(J:List Nat->List Nat->World->Prop)(C0:List Nat)(w:World)(hloc:∀C pre,(eJ J C pre).loc)(hlt:∀k∈C0,k<w.heap.size)(hJ0:J C0 [] w)(hRd:∀C pre A,J C pre A->nT q b PA Pc P0 pre A)(hY:∀C pre x A,J C pre A->(∀k∈C,k<A.heap.size)->K2 P0 pre x->YieldAt Fence.wide 1 Tryz.prog l (wrA PA x) A fun e B=>e= .returned (.bool true)/\∃C',St A C [eJ J C' (pre++[x])] B)(hn:P0.length<=400):
  Calls Tryz.prog 142 #[.func (.yield l) #[] #[],po q 0] w (NG P0 C0 J w):=by
 have st0:St w C0 [eJ J C0 []] w:=St.lend (E:=eJ J C0 []) hJ0 (hloc _ _) hlt
 go_enter Tryz.func142,Tryz.ntmps142
 have al:=st0
 refine wq (sqr ?_)
 refine sql (vp b) al (fun cx=>ae rfl (by kernel_rfl) (cx.ou 1) (nT.c0 (hRd _ _ _ (CtxV.holdF cx (cx.init 0 _ rfl) rfl)))) ?_
 refine sqp [.k 5 (vp b),.k 6 (vp b)] ?_
 refine sql (.slice PA P0.length Pc) al (fun cx=>ae rfl (by kernel_rfl) (cx.ou 6) (nT.c1 (hRd _ _ _ (CtxV.holdF cx (cx.init 0 _ rfl) rfl)))) ?_
 refine sqp [.k 8 (vi ((P0.length:Int))),.k 9 (vi 0)] ?_
 refine aa (wp_block ?_)
 refine aT (fun t_ mz az W=>∃j:Nat,∃Cj:List Nat,∃pre:List Nat,j<=P0.length/\(∀y∈pre,y<j)/\(∀i t,i<j->P0[i]? =some t->t.ws≠[]->i∈pre)/\mz=P0.length-j/\az=⟨(ovr (jv az) [(3,3,1,[]),(5,9,0,[vi ((j:Int))]),(0,10,24,[])] t_).toArray,[]⟩/\St w C0 [eJ J Cj pre] W) (P0.length-0) ?_ ?_
 exact⟨0,C0,[],Nat.zero_le _,(fun y hy=>by cases hy),fun i t hi=>absurd hi (Nat.not_lt_zero _),rfl,(by kernel_rfl),al.pk [0]⟩
 rintro n7 a7 W7 ⟨j,Cj,pre,hj,hup,hin,rfl,hj_,aZ⟩
 refine ovz hj_ fun Fk=>?_
 refine wq (sqr (sqp [.k 10 (.bool (decide ((j:Int)<(P0.length:Int))))] ?_))
 refine aa (wq (wds (fun pV qR=>?_) fun pV qR=>?_))
 refine wp_skip (aa (wq (wp_block (wq (sqr (sqp [.m 11 9,.m 3 11] ?_))))))
 refine aa (wq ?_)
 have hR12_:=hRd _ _ _ (aZ.get 0 rfl).holds
 have hjl:j<P0.length:=by omega
 obtain⟨t,htj⟩:=Ce hjl
 have hjn:j∉pre:=fun h_=>by have:=hup j h_;omega
 obtain⟨Ps_,hA_,htk⟩:=hR12_.at_ hjn htj
 have hPsl:=(List.getElem?_eq_some_iff.1 htk).1
 refine Cu ?_
 rcases List.eq_nil_or_concat t.ws with hw_|⟨wl,wz,hw_⟩
 have hwl_:decide ((0:Int)<(t.ws.length:Int))=false:=by rw[hw_];rfl
 refine cn (v:=vp b) rfl rfl rfl (ae rfl (by kernel_rfl) rfl hR12_.c0) (by dsimp only[List.set]) ?_
 refine cn (v:=vp b) rfl rfl rfl (jS rfl rfl) (by dsimp only[List.set]) ?_
 refine cn (v:=vp b) rfl rfl rfl (i7 (k:=0) (n:=0) rfl (by kernel_rfl) rfl rfl) (by dsimp only[List.set]) ?_
 refine cn (v:= .slice PA P0.length Pc) rfl rfl rfl (ae rfl (by kernel_rfl) rfl hR12_.c1) (by dsimp only[List.set]) ?_
 refine cn (v:=vi ((j:Int))) rfl rfl rfl (dn rfl rfl) (by dsimp only[List.set]) ?_
 refine cn (v:= .pointer (some ((ad PA).add (j*513)))) rfl rfl rfl (aI (e:=144) (m:=j) (sz:=513) rfl (by kernel_rfl) (by kernel_rfl) rfl rfl (by omega) (by omega) hA_ (bq (sz:=513) dy (by decide) (by omega))) (by dsimp only[List.set]) ?_
 refine cn (v:= .pointer (some ((ad PA).add (j*513+512)))) rfl rfl rfl (br rfl (by kernel_rfl) rfl) (by dsimp only[List.set]) ?_
 refine cn (v:= .slice t.A t.ws.length t.c) rfl rfl rfl (ae rfl (by kernel_rfl) rfl (At.eltc (f:=shC) (k:=512) dy hA_ htk (mw t))) (by dsimp only[List.set]) ?_
 refine cn (v:=vi ((t.ws.length:Int))) rfl rfl rfl (qo (e:=142) rfl (by kernel_rfl) rfl) (by dsimp only[List.set]) ?_
 refine cn (v:= .bool false) rfl rfl rfl ((ry (v:= .bool (decide ((0:Int)<(t.ws.length:Int)))) rfl rfl rfl rfl).trans (by rw[hwl_])) (by dsimp only[List.set]) ?_
 refine cn (v:= .bool false) rfl rfl rfl (dn rfl rfl) (by dsimp only[List.set]) ?_
 refine l0 rfl rfl rfl (by dsimp only[List.set]) ?_
 refine l0 rfl rfl rfl (by dsimp only[List.set]) ?_
 refine l0 rfl rfl rfl (by dsimp only[List.set]) ?_
 refine l0 rfl rfl rfl (by dsimp only[List.set]) ?_
 refine l0 rfl rfl rfl (by dsimp only[List.set]) ?_
 refine l0 rfl rfl rfl (by dsimp only[List.set]) ?_
 refine l0 rfl rfl rfl (by dsimp only[List.set]) ?_
 refine l0 rfl rfl rfl (by dsimp only[List.set]) ?_
 refine l0 rfl rfl rfl (by dsimp only[List.set]) ?_
 refine cn (v:= .bool false) rfl rfl rfl (uk rfl rfl rfl) (by dsimp only[List.set]) ?_
 have hup2:∀y∈pre,y<j+1:=fun y hy=>by have:=hup y hy;omega
 have hin2:∀i t,i<j+1->P0[i]? =some t->t.ws≠[]->i∈pre:=fun i t2 hi h1 h2=>by
  by_cases e_:i=j
  subst e_;rw[htj] at h1;cases h1;exact absurd hw_ h2
  exact hin i t2 (by omega) h1 h2
 refine Ey ?_
 refine aa (wcf rfl (wp_skip (aw (aa (sqr (sqp [sI 33 ((j:Int)+1) (by omega),.m 9 33] ?_))))))
 refine aa ?_
 refine⟨P0.length-((j+1)),by omega,?_⟩
 exact⟨(j+1),Cj,_,by omega,hup2,hin2,rfl,(by kernel_rfl),aZ.pk [0]⟩
 have hwl_:decide ((0:Int)<(t.ws.length:Int))=true:=by rw[hw_];simp
 have hwn_:t.ws≠[]:=by rw[hw_];simp
 refine cn (v:=vp b) rfl rfl rfl (ae rfl (by kernel_rfl) rfl hR12_.c0) (by dsimp only[List.set]) ?_
 refine cn (v:=vp b) rfl rfl rfl (jS rfl rfl) (by dsimp only[List.set]) ?_
 refine cn (v:=vp b) rfl rfl rfl (i7 (k:=0) (n:=0) rfl (by kernel_rfl) rfl rfl) (by dsimp only[List.set]) ?_
 refine cn (v:= .slice PA P0.length Pc) rfl rfl rfl (ae rfl (by kernel_rfl) rfl hR12_.c1) (by dsimp only[List.set]) ?_
 refine cn (v:=vi ((j:Int))) rfl rfl rfl (dn rfl rfl) (by dsimp only[List.set]) ?_
 refine cn (v:= .pointer (some ((ad PA).add (j*513)))) rfl rfl rfl (aI (e:=144) (m:=j) (sz:=513) rfl (by kernel_rfl) (by kernel_rfl) rfl rfl (by omega) (by omega) hA_ (bq (sz:=513) dy (by decide) (by omega))) (by dsimp only[List.set]) ?_
 refine cn (v:= .pointer (some ((ad PA).add (j*513+512)))) rfl rfl rfl (br rfl (by kernel_rfl) rfl) (by dsimp only[List.set]) ?_
 refine cn (v:= .slice t.A t.ws.length t.c) rfl rfl rfl (ae rfl (by kernel_rfl) rfl (At.eltc (f:=shC) (k:=512) dy hA_ htk (mw t))) (by dsimp only[List.set]) ?_
 refine cn (v:=vi ((t.ws.length:Int))) rfl rfl rfl (qo (e:=142) rfl (by kernel_rfl) rfl) (by dsimp only[List.set]) ?_
 refine cn (v:= .bool true) rfl rfl rfl ((ry (v:= .bool (decide ((0:Int)<(t.ws.length:Int)))) rfl rfl rfl rfl).trans (by rw[hwl_])) (by dsimp only[List.set]) ?_
 refine cn (v:= .bool true) rfl rfl rfl (dn rfl rfl) (by dsimp only[List.set]) ?_
 refine cn (v:= .func (.yield l) #[] #[]) rfl rfl rfl (dn rfl rfl) (by dsimp only[List.set]) ?_
 refine cn (v:=vp b) rfl rfl rfl (ae rfl (by kernel_rfl) rfl hR12_.c0) (by dsimp only[List.set]) ?_
 refine cn (v:=vp b) rfl rfl rfl (jS rfl rfl) (by dsimp only[List.set]) ?_
 refine cn (v:=vp b) rfl rfl rfl (i7 (k:=0) (n:=0) rfl (by kernel_rfl) rfl rfl) (by dsimp only[List.set]) ?_
 refine cn (v:= .slice PA P0.length Pc) rfl rfl rfl (ae rfl (by kernel_rfl) rfl hR12_.c1) (by dsimp only[List.set]) ?_
 refine cn (v:=vi ((j:Int))) rfl rfl rfl (dn rfl rfl) (by dsimp only[List.set]) ?_
 refine cn (v:= .pointer (some ((ad PA).add (j*513)))) rfl rfl rfl (aI (e:=144) (m:=j) (sz:=513) rfl (by kernel_rfl) (by kernel_rfl) rfl rfl (by omega) (by omega) hA_ (bq (sz:=513) dy (by decide) (by omega))) (by dsimp only[List.set]) ?_
 have hjj_:=aZ.get 0 rfl
 have hyy_:=hY Cj pre j _ hjj_.holds (fun k hk=>(hjj_.own k hk).2) ⟨⟨t,htj,hwn_⟩,fun y hy=>hup y hy⟩
 refine KV (args:=wrA PA j) (R:=fun B=>∃C',St _ Cj [eJ J C' (pre++[j])] B) rfl rfl rfl (fun r hr=>FY (args:=wrA PA j) rfl rfl rfl (ax rfl) hr) hyy_ (by dsimp only[List.set]) fun zd ⟨C2,hJ2⟩=>?_
 have dv:=NL (L:=[]) aZ hJ2
 refine cn (v:= .bool false) rfl rfl rfl (Ay rfl rfl rfl) (by dsimp only[List.set]) ?_
 refine cn (v:= .bool false) rfl rfl rfl (uy rfl rfl rfl) (by dsimp only[List.set]) ?_
 have hup2:∀y∈pre++[j],y<j+1:=fun y hy=>by
  rcases List.mem_append.1 hy with h_|h_
  have:=hup y h_;omega
  rw[List.mem_singleton] at h_;omega
 have hin2:∀i t,i<j+1->P0[i]? =some t->t.ws≠[]->i∈pre++[j]:=fun i t2 hi h1 h2=>by
  by_cases e_:i=j
  subst e_;simp
  exact List.mem_append_left _ (hin i t2 (by omega) h1 h2)
 refine Ey ?_
 refine aa (wcf rfl (wp_skip (aw (aa (sqr (sqp [sI 33 ((j:Int)+1) (by omega),.m 9 33] ?_))))))
 refine aa ?_
 refine⟨P0.length-((j+1)),by omega,?_⟩
 exact⟨(j+1),C2,_,by omega,hup2,hin2,rfl,(by kernel_rfl),dv.pk [0]⟩
 refine wp_exit (au (au (bh ?_)))
 refine bpe (.tuple #[]) (by simp[results,Tryz.results142,go_sem]) ?_
 exact⟨⟨_,rfl⟩,Cj,pre,aZ,fun i t h1 h2=>hin i t (by have:=(List.getElem?_eq_some_iff.1 h1).1;omega) h1 h2⟩
theorem xA(q b:Nat)(PA:Option Addr)(Pc:Nat)(P0:List ShT)(hn:P0.length<=400):K6 Tryz.prog 142 #[po q 0] (wrA PA) (K2 P0) (nT q b PA Pc P0) (WrZ P0):=fun l J W C0 hloc hlt hJ0 hRd hY=>
 callsIn_wide.2 (yo l q b PA Pc P0 J C0 W hloc hlt hJ0 hRd hY hn)
end
section
open Go.RowKit
def syS(x:ShD):ShD:=⟨rdT x,[]⟩
def syD(D:DkM):DkM:={D with pgs:=D.pgs.map syS}
def pbc:Value->Nat
 | .func _ _ cap=>pb (cap.getD 0 undef)
 |_=>0
theorem DkO.ofE{A:World}{D:DkM}{GA:Option Addr}{gc:Nat}(hlen:Ps2.length=D.pgs.length)(h1:Blk A b 100 (dkC D PA Pc GA gc))
  (h2:(eO 144 513 (.slice PA D.pgs.length Pc) D.pgs.length (Ps2.flatMap shC)).holds A) (h3:(eO 5 1 (.slice GA D.log.size gc) D.log.size ((bo D.log).map (Value.int .u8))).holds A) (h4:(eWs Ps2).holds A):
  DkO A b {D with pgs:=Ps2.map eh} PA Pc GA gc Ps2:=by
 refine⟨?_,At.of_ownN h2,rfl,lV.own h3,fun p hp=>Eb h4 hp⟩
 rw[dkC] at h1 |-
 dsimp only
 rw[List.length_map,hlen];exact h1
theorem Ka{R:ShD->ShD->Prop}{A:List ShT}{t2:ShT}{pre:List Nat}(hn:A.length∉pre)(hun:∀j,j∉pre->(A++t::B)[j]? =P0[j]?)(hdo:∀j∈pre,∀u v,P0[j]? =some u->(A++t::B)[j]? =some v->R (eh u) (eh v))(hR:R (eh t) (eh t2)):
  (∀j,j∉pre++[A.length]->(A++t2::B)[j]? =P0[j]?)/\∀j∈pre++[A.length],∀u v,P0[j]? =some u->(A++t2::B)[j]? =some v->R (eh u) (eh v):=by
 have hne:∀j,j≠A.length->(A++t2::B)[j]? =(A++t::B)[j]? :=fun j hj=>by
  rcases Nat.lt_or_ge j A.length with h|h
  rw[List.getElem?_append_left h,List.getElem?_append_left h]
  rw[List.getElem?_append_right h,List.getElem?_append_right h]
  obtain⟨m,hm⟩:∃m,j-A.length=m+1:=⟨j-A.length-1,by omega⟩
  rw[hm];rfl
 have hat:∀x:ShT,(A++x::B)[A.length]? =some x:=fun x=>by rw[List.getElem?_append_right (Nat.le_refl _),Nat.sub_self];rfl
 refine⟨fun j hj=>?_,fun j hj u v hu hv=>?_⟩
 have h1:j∉pre/\j≠A.length:=⟨fun h=>hj (List.mem_append_left _ h),fun h=>hj (by simp[h])⟩
 rw[hne j h1.2];exact hun j h1.1
 by_cases e:j=A.length
 subst e
 rw[hat] at hv
 have h2:=hun _ hn
 rw[hat,hu] at h2
 cases hv;cases h2
 exact hR
 rw[hne j e] at hv
 refine hdo j ?_ u v hu hv
 rcases List.mem_append.1 hj with h|h
 exact h
 exact absurd (List.mem_singleton.1 h) e
theorem JN{R:ShD->ShD->Prop}{xs:List Nat}(hun:∀j,j∉xs->Ps2[j]? =Ps[j]?)(hdo:∀j∈xs,∀u v,Ps[j]? =some u->Ps2[j]? =some v->R (eh u) (eh v))(hZ:WrZ Ps xs)(h0:∀x:ShD,x.ws=[]->R x x):
  ∀(j:Nat) x y,(Ps.map eh)[j]? =some x->(Ps2.map eh)[j]? =some y->R x y:=fun j x y hx hy=>by
 rw[List.getElem?_map] at hx hy
 obtain⟨u,hu,rfl⟩:=Option.map_eq_some_iff.1 hx
 obtain⟨v,hv,rfl⟩:=Option.map_eq_some_iff.1 hy
 by_cases h:j∈xs
 exact hdo j h u v hu hv
 rw[hun j h,hu] at hv
 cases hv
 refine h0 _ ?_
 by_cases hw:u.ws=[]
 exact hw
 exact absurd (hZ j u hu hw) h
theorem Ju(x:ShD)(h:x.ws=[]):x=syS x:=by
 obtain⟨s,ws⟩:=x
 dsimp only at h
 subst h;rfl
theorem Jl(hl:Ps2.length=Ps.length)(h:∀(j:Nat) x y,(Ps.map eh)[j]? =some x->(Ps2.map eh)[j]? =some y->y=syS x):Ps2.map eh=(Ps.map eh).map syS:=by
 apply List.ext_getElem?
 intro j
 rcases hx:(Ps.map eh)[j]? with _|x
 have h1:=List.getElem?_eq_none_iff.1 hx
 rw[List.getElem?_map (f:=syS),hx,List.getElem?_eq_none (by rw[List.length_map] at h1 |-;omega)];rfl
 have h1:=(List.getElem?_eq_some_iff.1 hx).1
 obtain⟨y,hy⟩:∃y,(Ps2.map eh)[j]? =some y:=⟨_,List.getElem?_eq_getElem (by rw[List.length_map] at h1 |-;omega)⟩
 rw[hy,List.getElem?_map (f:=syS),hx,h j x y hx hy];rfl
theorem yp(b:Nat)(w:World):
  Calls Tryz.prog 84 #[po b 0] w ((fun w (e:Ending) (w':World)=>∃q,e= .returned (.func (.func 142) #[] #[po q 0])/\St w [] [eB q 30 #[po b 0]] w') w):=by
 go_enter Tryz.func84,Tryz.ntmps84
 have al:=St.start w
 refine wq (sqr ?_)
 refine ce #[vp b] al fun aB W1 aA=>?_
 refine sqp [.k 2 (Go.Value.nilFunc)] ?_
 refine aa (wq (sqr ?_))
 refine sqv (.func (.func 142) #[] #[vp aB]) aA (by
   exact sv0 rfl rfl rfl rfl rfl (fun _ _ _ h=>h) fun c g W X cx=>by
    have zh:c (.tmp 1)=vp aB:=(cx.ou 1)
    simp[go_sem,Instr.makeFunc,zh]) fun W3 bc=>?_
 refine sqp [.m 2 3] ?_
 refine aa (wp_ret ?_)
 refine bpr (.func (.func 142) #[] #[vp aB]) (ai Tryz.results84 rpt) ?_
 exact⟨_,rfl,bc⟩
theorem KT(A B:List ShT)(t:ShT)(x:H5):pW ((A++t::B).flatMap shC) (A.length*513) (hvC x)=(A++⟨x,t.A,t.c,t.ws⟩::B).flatMap shC:=by
 have hl:(A.flatMap shC).length=A.length*513:=ol dy A
 have e1:(A++t::B).flatMap shC=A.flatMap shC++(hvC t.s++([.slice t.A t.ws.length t.c]++B.flatMap shC)):=by rw[List.flatMap_append,List.flatMap_cons,shC,List.append_assoc]
 have e2:(A++⟨x,t.A,t.c,t.ws⟩::B).flatMap shC=A.flatMap shC++(hvC x++([.slice t.A t.ws.length t.c]++B.flatMap shC)):=by rw[List.flatMap_append,List.flatMap_cons,shC,List.append_assoc]
 rw[e1,e2,<-hl,sf _ _ _ _ (by rw[c7,c7])]
theorem F0(b b2:Nat)(D:DkM)(fp:List Nat)(w:World)(hB:(eDk b D fp).holds w)(hlt:∀k∈fp,k<w.heap.size)(h2:Blk w b2 30 #[po b 0])(n2:b2∉fp)(hw:∀x∈D.pgs,x.ws.length<=1000000000)(hn:D.pgs.length<=400):
  Calls Tryz.prog 137 #[po b2 0] w (mi b (syD D) fp w):=by
 have st1:=St.lend hB (dV _ _ _) hlt
 obtain⟨PA,Pc,GA,gc,Ps,Qs,hps,hsub,hfp,hap,hall⟩:=hB
 have st0:=St.unpack st1 hfp hall hap
 subst hsub
 have hPl:Qs.length=D.pgs.length:=by rw[<-hps,List.length_map]
 obtain⟨Ps,rfl⟩:∃z,z=Qs:=⟨_,rfl⟩
 have st2:St w fp [eB b 100 #[.slice PA D.pgs.length Pc,.slice GA D.log.size gc,.int .i64 ((D.fl:Int)),.bool D.off,.bool D.armed,.int .i64 D.left],eO 144 513 (.slice PA D.pgs.length Pc) D.pgs.length (Ps.flatMap shC),eO 5 1 (.slice GA D.log.size gc) D.log.size ((bo D.log).map (Value.int .u8)),eWs Ps] w:=st0
 refine(callsIn_wide (n:=3)).1 (callsIn_of_wp_marks Tryz.func137 rfl trivial (wpIn_wide.2 ?_) rfl)
 simp only[Tryz.ntmps137,List.size_toArray,List.length_cons,List.length_nil,Nat.reduceAdd,Nat.reduceSub,Array.replicate_succ,Array.replicate_zero,List.push_toArray,List.append_toArray,List.nil_append,List.cons_append]
 have al:=st2
 refine wq (aH [0,1] [] [[],[4]] [] [.c 2 (vp b),.a 3] (fun ix p g X=>match ix with|0=>True|1=>p 3= .func (.func 142) #[] #[vp (pbc (g 3))]/\X 4=eB (pbc (g 3)) 30 #[vp b]|_=>True) [0,1,2,3,4] [0,1] [(2,0,2,4)] al ?_ ?_ ?_)
 exact fun ix _ _ _ _ _ _ hs hb hx h=>match ix,h with
 |1,h=>by dsimp only;rw[<-hs 3 rfl,<-hb 3 rfl,<-hx 4 rfl];exact h
 |0,_|_+2,_=>trivial
 refine⟨?_,?_,trivial⟩
 exact xs4 rfl id fun cx=>ae rfl (by kernel_rfl) (cx.ou 0) (Blk.cell (h2.upd cx.upd n2) 0)
 refine svA fun C g W X cx=>?_
 refine am.call (aq (args:=#[vp b]) rfl cx.sees rfl (by kernel_rfl) (ax (cx.an 0))) ?_
 refine(yp b _).mono ?_
 rintro e W1 ⟨q4,rfl,aU⟩
 refine⟨_,rfl,vN [eB q4 30 #[vp b]] rfl rfl aU (fun p E X' hs hb hv hN=>?_)⟩
 have aK:=(hv 3 rfl).1;have aW:=(hv 3 rfl).2
 exact⟨aK.trans (by rw[aW];rfl),(by rw[aW];exact(List.cons.inj hN).1)⟩
 intro p g X W1 hD aA fr aG
 simp only[exq 4 ((dTn (hD 1 lq)).2)] at aA
 simp only[ed 3 ((dTn (hD 1 lq)).1)] at aG
 generalize pbc (g 3)=ob at aA aG
 clear hD;subst aG;clear p g X
 refine aa (wp_block ?_)
 have LV:=aA.pick [0,1,2,3,4] (by decide) rfl
 refine Cq (α:=Nat) LV rfl (enters_of Tryz.func142 (by kernel_rfl) rfl) (encs:=wrA PA) (xA ob b PA Pc Ps (by omega)) (fun _=>rfl) (fun pre L=>∃Ps2:List ShT,Ps2.length=D.pgs.length/\(∀j,j∉pre->Ps2[j]? =Ps[j]?)/\(∀j∈pre,∀u v,Ps[j]? =some u->Ps2[j]? =some v->eh v=syS (eh u))/\L=[eB b 100 #[.slice PA D.pgs.length Pc,.slice GA D.log.size gc,vi ((D.fl:Int)),.bool D.off,.bool D.armed,vi D.left],eO 144 513 (.slice PA D.pgs.length Pc) D.pgs.length (Ps2.flatMap shC),eO 5 1 (.slice GA D.log.size gc) D.log.size ((bo D.log).map (Value.int .u8)),eWs Ps2,eB ob 30 #[vp b]]) ⟨Ps,hPl,fun j _=>rfl,(fun j hj=>by cases hj),rfl⟩ ?_ (fun xx a_ E_=>a_=⟨([vp b2,.pointer (some ((ad PA).add (xx*513))),vp b,.func (.func 142) #[] #[vp ob],.pointer (some ((ad PA).add (xx*513))),undef,undef,undef,undef,undef,undef,undef,undef,undef,undef,undef,undef,undef,undef,undef,undef,undef,undef]).toArray,[]⟩/\E_=e00) (fun xx=>[vp b2,undef,vp b,.func (.func 142) #[] #[vp ob],.pointer (some ((ad PA).add (xx*513))),undef,undef,undef,undef,undef,undef,undef,undef,undef,undef,undef,undef,undef,undef,undef,undef,undef,undef]) (fun xx=>by kernel_rfl) ?_ ?_ ?_
 rintro pre L A ⟨Ps2,hl2,hun2,hdo2,rfl⟩ hA_
 exact⟨hA_ (eB ob 30 #[vp b]) (by simp),_,GA,gc,Ps2,DkO.ofE hl2 (hA_ (eB b 100 #[.slice PA D.pgs.length Pc,.slice GA D.log.size gc,vi ((D.fl:Int)),.bool D.off,.bool D.armed,vi D.left]) (by simp)) (hA_ (eO 144 513 (.slice PA D.pgs.length Pc) D.pgs.length (Ps2.flatMap shC)) (by simp)) (hA_ (eO 5 1 (.slice GA D.log.size gc) D.log.size ((bo D.log).map (Value.int .u8))) (by simp)) (hA_ (eWs Ps2) (by simp)),by omega,hun2⟩
 intro rl xx W K hK;exact B1 rfl rfl rfl (hK _ _ e00 ⟨rfl,rfl⟩ (St.e00 W)) (by kernel_rfl)
 rintro rl pre xx W4 L4 a4 E4 ⟨Ps2,hl2,hun2,hdo2,rfl⟩ hPx ⟨rfl,rfl⟩ IY
 have be:St W4 (fps ([eB b 100 #[.slice PA D.pgs.length Pc,.slice GA D.log.size gc,vi ((D.fl:Int)),.bool D.off,.bool D.armed,vi D.left],eO 144 513 (.slice PA D.pgs.length Pc) D.pgs.length (Ps2.flatMap shC),eO 5 1 (.slice GA D.log.size gc) D.log.size ((bo D.log).map (Value.int .u8)),eWs Ps2,eB ob 30 #[vp b]]++[e00])) [eB b 100 #[.slice PA D.pgs.length Pc,.slice GA D.log.size gc,vi ((D.fl:Int)),.bool D.off,.bool D.armed,vi D.left],eO 144 513 (.slice PA D.pgs.length Pc) D.pgs.length (Ps2.flatMap shC),eO 5 1 (.slice GA D.log.size gc) D.log.size ((bo D.log).map (Value.int .u8)),eWs Ps2,eB ob 30 #[vp b],e00] W4:=IY
 clear IY
 obtain⟨⟨t,ht0,hwn⟩,hlt_⟩:=hPx
 have hxn:xx∉pre:=fun h_=>Nat.lt_irrefl _ (hlt_ xx h_)
 have htk:=(hun2 xx hxn).trans ht0
 obtain⟨A,B,rfl,rfl⟩:=xS htk
 have ho5_:=St.outW (L:=[eB b 100 #[.slice PA D.pgs.length Pc,.slice GA D.log.size gc,vi ((D.fl:Int)),.bool D.off,.bool D.armed,vi D.left],eO 144 513 (.slice PA D.pgs.length Pc) D.pgs.length ((A++t::B).flatMap shC),eO 5 1 (.slice GA D.log.size gc) D.log.size ((bo D.log).map (Value.int .u8)),eB ob 30 #[vp b],e00]) (be.pick [0,1,2,4,5,3] (by decide) rfl)
 simp only[List.cons_append,List.nil_append,nX] at ho5_
 have hwt:t.ws.length<=1000000000:=hw _ (by rw[<-hps];exact List.mem_map.2 ⟨t,List.mem_of_getElem? ht0,rfl⟩)
 have hAl:A.length<D.pgs.length:=by have:=(List.getElem?_eq_some_iff.1 htk).1;omega
 obtain⟨k2,hk2⟩:∃k2:Nat,t.ws.length=k2+1:=⟨t.ws.length-1,by have:=List.length_pos_iff.2 hwn;omega⟩
 obtain⟨x,hxk⟩:∃x,t.ws[k2]? =some x:=⟨_,List.getElem?_eq_getElem (by omega)⟩
 refine wpIn_block (w9 [0,0,0,4,12,28,0,64,192,448,960,1984,4092,8188,16381,32765,65533,131071,262143,524287] [[],[],[],[],[],[1],[],[],[],[1],[],[],[6],[6],[],[],[1],[],[],[7]] [[],[],[],[],[],[],[],[],[],[],[],[],[],[],[],[],[7],[],[],[8]] [[],[],[],[],[],[],[],[],[],[],[],[],[],[],[],[],[1],[],[],[7]] [.k 5 (.pointer (some ((ad PA).add (A.length*513)))),.k 6 (.pointer (some ((ad PA).add (A.length*513)))),.k 7 (.pointer (some ((ad PA).add (A.length*513)))),.k 8 (.pointer (some ((ad PA).add (A.length*513)))),.c 9 (.pointer (some ((ad PA).add (A.length*513+512)))),.c 10 (.slice t.A t.ws.length t.c),.k 11 (.pointer (some ((ad PA).add (A.length*513)))),.k 12 (.pointer (some ((ad PA).add (A.length*513)))),.c 13 (.pointer (some ((ad PA).add (A.length*513+512)))),.c 14 (.slice t.A t.ws.length t.c),.k 15 (vi ((t.ws.length:Int))),tJ 16 ((t.ws.length:Int)-1) (k2:Int) (by omega) (by omega),.c 17 (.pointer (some ((ad t.A).add (k2*512)))),.c 18 (.agg (hvC x).toArray),.k 19 (.pointer (some ((ad PA).add (A.length*513)))),.c 20 (.pointer (some ((ad PA).add (A.length*513+0)))),.n,.k 21 (.pointer (some ((ad PA).add (A.length*513)))),.c 22 (.pointer (some ((ad PA).add (A.length*513+512)))),.n] (fun ix p g X=>match ix with|0|1|2|3|4|5|6|7|8|9|10|11|12|13|14|15=>True|16=>X 7=eO 144 513 (.slice PA D.pgs.length Pc) D.pgs.length ((A++⟨x,t.A,t.c,t.ws⟩::B).flatMap shC)|17|18=>True|19=>X 8=eO 144 513 (.slice PA D.pgs.length Pc) D.pgs.length ((A++⟨x,none,0,[]⟩::B).flatMap shC)|_=>True) [0,2,3,4,5,6,8] [4,5,8,9,12,13,15,16,18,19] [(5,0,19,23)] ho5_ ?_ ?_ ?_)
 exact fun ix _ _ _ _ _ _ hs hb hx h=>match ix,h with
 |16,h=>by dsimp only;rw[<-hx 7 rfl];exact h
 |19,h=>by dsimp only;rw[<-hx 8 rfl];exact h
 |0,_|1,_|2,_|3,_|4,_|5,_|6,_|7,_|8,_|9,_|10,_|11,_|12,_|13,_|14,_|15,_|17,_|18,_|_+20,_=>trivial
 refine⟨?_,?_,?_,?_,?_,?_,?_,?_,?_,?_,trivial⟩
 exact xs4 rfl id fun cx=>br rfl (by kernel_rfl) (cx.an 3)
 exact xs4 rfl id fun cx=>ae rfl (by kernel_rfl) (cx.an 4) (At.eltc (f:=shC) (k:=512) dy (At.of_ownN (cx.ri 1 rfl)) htk (mw t))
 exact xs4 rfl id fun cx=>br rfl (by kernel_rfl) (cx.an 7)
 exact xs4 rfl id fun cx=>ae rfl (by kernel_rfl) (cx.an 8) (At.eltc (f:=shC) (k:=512) dy (At.of_ownN (cx.ri 1 rfl)) htk (mw t))
 exact xs4 rfl id fun cx=>aI (e:=142) (m:=k2) (sz:=512) rfl (by kernel_rfl) (by kernel_rfl) (cx.an 5) (cx.an 11) (by omega) (by omega) (At.of_ownN (cx.ri 6 rfl)) (by have h_:=ol (f:=hvC) (sz:=512) c7 t.ws;show 0<(List.flatMap hvC t.ws).length;omega)
 exact xs4 rfl id fun cx=>bT (f:=hvC) (m:=k2) (sz:=512) (off:=0) (n:=512) rfl (by kernel_rfl) (by kernel_rfl) (cx.an 12) (List.size_toArray.trans (c7 _)) c7 (At.of_ownN (cx.ri 6 rfl)) hxk (fun k hk=>by rw[List.getElem?_toArray,Nat.zero_add])
 exact xs4 rfl id fun cx=>br rfl (by kernel_rfl) (cx.an 14)
 refine svA fun C g W X cx=>?_
 exact r8 (m:=A.length*513) (n:=D.pgs.length) (sz:=513) (k:=512) rfl (cx.an 15) (cx.an 13) (by kernel_rfl) (List.size_toArray.trans (c7 _)) (List.all_eq_true.2 (rk _)) cx (cx.init 1 _ rfl) rfl (by omega) (by decide) rfl (KT A B t x) rfl rfl (fun _ _ _ _ _=>id)
 exact xs4 rfl id fun cx=>br rfl (by kernel_rfl) (cx.an 17)
 refine svA fun C g W X cx=>?_
 exact pX (m:=A.length*513+512) (n:=D.pgs.length) (sz:=513) rfl (cx.an 18) (cx.co _) (by kernel_rfl) rfl rfl cx (dTn (cx.an 16)) rfl (by omega) rfl (Dh A B _ none 0 [] 0 rfl) rfl rfl (fun _ _ _ _ _=>id)
 intro p g X W6 hD bI fr aG
 simp only[exq 8 ((dTn (hD 19 lq)))] at bI
 clear hD;subst aG;clear p g X
 refine aw ?_
 have hm7_:=fh (bI.pick [0,6,1,2,4] (by decide) rfl) 142 512
 have hm7b_:=St.inW (L:=[eB b 100 #[.slice PA D.pgs.length Pc,.slice GA D.log.size gc,vi ((D.fl:Int)),.bool D.off,.bool D.armed,vi D.left],eO 144 513 (.slice PA D.pgs.length Pc) D.pgs.length ((A++⟨x,none,0,[]⟩::B).flatMap shC),eO 5 1 (.slice GA D.log.size gc) D.log.size ((bo D.log).map (Value.int .u8)),eB ob 30 #[vp b]]) (A:=A) (B:=B) (t:=(⟨x,none,0,[]⟩:ShT)) hm7_
 simp only[List.cons_append,List.nil_append] at hm7b_
 obtain⟨hun3,hdo3⟩:=Ka (R:=fun x y=>y=syS x) (t2:=(⟨x,none,0,[]⟩:ShT)) hxn hun2 hdo2 (by rw[syS,xy hxk hk2];rfl)
 exact⟨rfl,_,⟨(A++⟨x,none,0,[]⟩::B),by rw[<-hl2];simp,hun3,hdo3,rfl⟩,hm7b_.pick [0,1,2,4,3] (by decide) rfl⟩
 rintro D2 TH L2 XS_ ⟨Ps2,hl2,hun2,hdo2,rfl⟩ hZ_ IZ
 simp only[List.cons_append,List.nil_append] at IZ
 refine aw ?_
 refine HQ (L:=[eB b 100 #[.slice PA D.pgs.length Pc,.slice GA D.log.size gc,vi ((D.fl:Int)),.bool D.off,.bool D.armed,vi D.left],eO 144 513 (.slice PA D.pgs.length Pc) D.pgs.length (Ps2.flatMap shC),eO 5 1 (.slice GA D.log.size gc) D.log.size ((bo D.log).map (Value.int .u8)),eWs Ps2,eB ob 30 #[vp b]]) (IZ.pick [0,1,2,3,4,5] (by decide) rfl) fun Wt8 ht8=>?_
 refine⟨.tuple #[],(by simp[results,Tryz.results137,go_sem]),?_⟩
 have hsy_:=Jl (by omega) (JN (R:=fun x y=>y=syS x) hun2 hdo2 hZ_ Ju)
 rw[hps] at hsy_
 have hpl_:(syD D).pgs.length=D.pgs.length:=List.length_map ..
 exact⟨rfl,St.dk (L:=[]) (D:=syD D) (PA:=PA) (Pc:=Pc) (GA:=GA) (gc:=gc) (Ps:=Ps2) (Qs:=Ps2) (by rw[dkL,dkC,hpl_];exact ht8.pick [0,1,2,3] (by decide) rfl) hsy_ rfl⟩
theorem EF(b b2:Nat)(D:DkM)(fp:List Nat)(w:World)(hB:(eDk b D fp).holds w)(hlt:∀k∈fp,k<w.heap.size)(h2:Blk w b2 30 #[po b 0])(n2:b2∉fp)(hw:∀x∈D.pgs,x.ws.length<=1000000000)(hn:D.pgs.length<=400):Calls Tryz.prog 126 #[po b 0,.func (.func 131) #[] #[],.func (.func 137) #[] #[po b2 0]] w (bV b (opD D 0 syD) fp w):=
 AE b D 0 syD 131 137 _ _ fp w hB hlt (by kernel_rfl) (by kernel_rfl) (fun W hU hA=>wN W) fun he W fp1 hU hh hl ho=>F0 b b2 _ fp1 W hh hl (h2.upd hU n2) (fun h10=>(ho b2 h10).elim n2 fun h11=>by have:=h2.lt;omega) hw hn
theorem DY(b:Nat)(D:DkM)(fp:List Nat)(w:World)(hB:(eDk b D fp).holds w)(hlt:∀k∈fp,k<w.heap.size)(hw:∀x∈D.pgs,x.ws.length<=1000000000)(hn:D.pgs.length<=400):
  Calls Tryz.prog 69 #[po b 0] w (bV b (opD D 0 syD) fp w):=by
 have st1:St w fp [eDk b D fp] w:=St.lend hB (dV _ _ _) hlt
 go_enter Tryz.func69,Tryz.ntmps69
 have al:=st1
 refine wq (sqr ?_)
 refine ce #[vp b] al fun aB W1 aA=>?_
 refine sqp [.k 2 (vi 0)] ?_
 refine aa (wq (sqr (av 1 aA ?_)))
 refine sqv (.func (.func 137) #[] #[vp aB]) aA (by
   exact sv0 rfl rfl rfl rfl rfl (fun _ _ _ h=>h) fun c g W X cx=>by
    have zh:c (.tmp 1)=vp aB:=(cx.ou 1)
    simp[go_sem,Instr.makeFunc,zh]) fun W4 be=>?_
 refine bN (fun X_=>X_.fp) (vi ((opD D 0 syD).2)) (fun qP=>eDk b ((opD D 0 syD).1) qP) 0 be (by
   refine svA fun c g W X cx=>?_
   refine am.call (aq (args:=#[vp b,.func (.func 131) #[] #[],.func (.func 137) #[] #[vp aB]]) rfl cx.sees rfl (by kernel_rfl) (dN (cx.ou 3) (cx.sees.func _) (cx.ou 4))) ?_
   refine(EF b _ D _ _ (CtxV.holdF cx (cx.init 0 _ rfl) rfl) (CtxV.ltF cx (cx.init 0 _ rfl) rfl) (cx.bi 1 rfl) (by have h_:=cx.ap 1 0 rfl rfl (by decide);rw[(cx.init 1 _ rfl),(cx.init 0 _ rfl)] at h_;exact h_ _ (List.mem_singleton.2 rfl)) hw hn).mono ?_
   rintro e W1 ⟨rfl,fp4,aU⟩
   refine⟨_,rfl,aN (E:=eDk b D fp) [eDk b (opD D 0 syD).1 fp4] (cx.init 0 _ rfl) rfl rfl aU (fun j n X' hs hb hv hN=>?_)⟩
   have aK:=(hv 5 rfl).1;have aW:=(hv 5 rfl).2
   exact⟨aK.trans rfl,cJ ((List.cons.inj hN).1)⟩) fun qP W5 aR=>?_
 refine sqp [.m 2 5] ?_
 refine aa (wp_ret ?_)
 refine bpr (vi ((opD D 0 syD).2)) (ai Tryz.results69 rpt) ?_
 exact bV.of rfl (aR.pick [0] (by decide) rfl)
end
section
open Go.RowKit
def edA(n lsn:Int)(p:PgS)(e:EdT):PgS:=if e.1=n/\doE p e lsn=0 then doV p e lsn else p
def bn(n lsn:Int)(p:PgS)(l:List EdT):PgS:=l.foldl (edA n lsn) p
def ak(L:List RecM)(n:Int):PgS:=L.zipIdx.foldl (fun p x=>bn n ((x.2:Int)+1) p x.1.eds) bu
def bm(L:List RecM):Nat:=L.zipIdx.foldl (fun f x=>if x.1.kind=9 then x.2+1 else f) 0
def fw(L:List RecM)(n:Int):Bool:=L.foldl (fun b r=>if r.kind=9 then false else b||(r.kind==8&&r.tbl==n)) false
theorem gX(L:List RecM)(r:RecM)(n:Int):ak (L++[r]) n=bn n ((L.length:Int)+1) (ak L n) r.eds:=by
 rw[ak,List.zipIdx_append,List.foldl_append]
 simp[ak]
theorem gn(L:List RecM)(r:RecM):bm (L++[r])=if r.kind=9 then L.length+1 else bm L:=by
 rw[bm,List.zipIdx_append,List.foldl_append]
 simp[bm]
theorem nu(L:List RecM)(r:RecM)(n:Int):fw (L++[r]) n=if r.kind=9 then false else (fw L n||(r.kind==8&&r.tbl==n)):=by
 rw[fw,List.foldl_append];rfl
theorem DJ{n:Int}{p:PgS}{e:EdT}(h:bC p):bC (edA n lsn p e):=by
 unfold edA
 split
 rename_i h1;exact kt h1.2
 exact h
theorem rY{n:Int}{l:List EdT}:∀{p:PgS},bC p->bC (bn n lsn p l):=by
 induction l with
 |nil=>intro p h;exact h
 |cons e l ih=>intro p h;exact ih (DJ h)
theorem mF{P:List RecM->Prop}(h0:P [])(hs:∀L r,P L->P (L++[r]))(L:List RecM):P L:=by
 have h:∀k (L:List RecM),L.length=k->P L:=by
  intro k
  induction k with
  |zero=>intro L h;rw[List.eq_nil_of_length_eq_zero h];exact h0
  |succ k ih=>
   intro L h
   rcases List.eq_nil_or_concat L with rfl|⟨L',x,rfl⟩
   cases h
   rw[List.concat_eq_append] at h |-
   exact hs L' x (ih L' (by simpa using h))
 exact h _ L rfl
theorem iz(L:List RecM)(n:Int):bC (ak L n):=by
 induction L using mF with
 |h0=>exact xY
 |hs L r ih=>rw[gX];exact rY ih
theorem sN{n:Int}{p:PgS}{l:List EdT}(h:∀e∈l,e.1≠n):bn n lsn p l=p:=by
 induction l generalizing p with
 |nil=>rfl
 |cons e l ih=>
  show bn n lsn (edA n lsn p e) l=p
  rw[edA,if_neg (fun h1=>h e (by simp) h1.1)]
  exact ih fun x hx=>h x (by simp[hx])
theorem AZ(p:PgS)(e:EdT)(n:Int):(doV p e n).2.1=n:=by unfold doV;split<;>rfl
theorem DC{n:Int}{l:List EdT}:∀{p:PgS},p.2.1<=lsn->(bn n lsn p l).2.1<=lsn:=by
 induction l with
 |nil=>intro p h;exact h
 |cons e l ih=>
  intro p h
  refine ih ?_
  unfold edA
  split
  rw[AZ];exact Int.le_refl _
  exact h
theorem ql(L:List RecM)(n:Int):(ak L n).2.1<=(L.length:Int):=by
 induction L using mF with
 |h0=>exact Int.le_refl _
 |hs L r ih=>
  rw[gX]
  have h1:(ak L n).2.1<=(L.length:Int)+1:=by omega
  have h2:=DC (n:=n) (lsn:=(L.length:Int)+1) (l:=r.eds) h1
  rw[List.length_append,List.length_singleton]
  omega
theorem BM{L L':List RecM}{n:Int}(h:∀r∈L',∀e∈r.eds,e.1≠n):ak (L++L') n=ak L n:=by
 induction L' using mF with
 |h0=>rw[List.append_nil]
 |hs L' r ih=>
  rw[<-List.append_assoc,gX,sN (h r (by simp))]
  exact ih fun x hx=>h x (by simp[hx])
end
section
open Go.RowKit
noncomputable def rdX(s:ByteArray):Option PgS:=by
 classical exact if h:∃p:PgS,bC p/\bP p.1 p.2.1 p.2.2=s then some h.choose else none
theorem ks{p:PgS}(h:rdX s=some p):bC p/\bP p.1 p.2.1 p.2.2=s:=by
 classical
 unfold rdX at h
 split at h
 rename_i h1
 injection h with h
 subst h
 exact h1.choose_spec
 cases h
theorem sr(h:rdX s=none)(p:PgS)(hr:bC p):bP p.1 p.2.1 p.2.2≠s:=fun he=>by
 classical
 unfold rdX at h
 split at h
 cases h
 rename_i h1
 exact h1 ⟨p,hr,he⟩
def iZ(w:World)(e:Ending)(w':World):Prop:=∃er:Int,er≠0/\e= .returned (.tuple #[.agg #[.int .i64 0,.int .i64 0,.slice none 0 0],.int .i64 er])/\Ext w w'
theorem iZ.of{er:Int}(h:er≠0)(hx:Ext w w'):iZ w (.returned (.tuple #[.agg #[.int .i64 0,.int .i64 0,sn],.int .i64 er])) w':=⟨er,h,rfl,hx⟩
def fg(s:ByteArray)(p:Nat)(f:Bool):ByteArray×Nat×Bool:=if f=true\/s.size<p+2\/s.size<p+2+aL s p 2 then (ByteArray.empty,p,true) else (eN s p,p+2+aL s p 2,false)
theorem KR(B:Nat)(s:ByteArray)(p:Nat)(f:Bool)(w:World)(h:Rd 193 w B s p f):Calls Tryz.prog 103 #[po B 0] w (jq 193 (.string (fg s p f).1) B s (fg s p f).2.1 (fg s p f).2.2 w):=by
 unfold fg
 split
 rename_i h1
 exact F5 B s p f w h h1
 rename_i h1
 have hf:f=false:=by cases f;rfl;exact absurd (.inl rfl) h1
 subst hf
 exact oe B s p w h (by omega) (by omega)
theorem Gb(s:ByteArray)(p:Nat)(f:Bool):(fg s p f).1.size<=s.size:=by
 unfold fg
 split
 exact Nat.zero_le _
 show (eN s p).size<= _
 rw[eN,ByteArray.size_extract];omega
theorem Hi{p:Nat}{f:Bool}(h:p<=s.size):(fg s p f).2.1<=s.size:=by
 unfold fg
 split
 exact h
 show p+2+aL s p 2<=s.size
 omega
theorem xD(s:ByteArray)(p:Nat):aL s p 1<256:=by
 have h:=ot (s.extract p (p+1)).data.toList
 have h2:(s.extract p (p+1)).data.toList.length<=1:=by
  have:(s.extract p (p+1)).size<=1:=by rw[ByteArray.size_extract];omega
  show (bl (s.extract p (p+1))).length<=1
  rw[bO];exact this
 have h3:(256:Nat)^(s.extract p (p+1)).data.toList.length<=256^1:=Nat.pow_le_pow_right (by omega) h2
 unfold aL
 omega
theorem KA(I:List ByteArray)(x:ByteArray):I.map Value.string++[.string x]=(I++[x]).map Value.string:=by simp
theorem Hk{k l:Int}{I:List ByteArray}(hb:∀p:PgS,bC p->bP p.1 p.2.1 p.2.2≠s)(hr:bz k l I=true):((bP k l (af I)).toList==s.toList)=false:=by
 rcases h:(bP k l (af I)).toList==s.toList with _|_
 rfl
 exact absurd (tU (by simpa using h)) (hb (k,l,af I) ⟨r6 hr,iw I⟩)
theorem Hc{k l:Int}{ss:List ByteArray}(hr:bz k l ss=false)(hc:Calls Tryz.prog f args w (fE k l ss w)):Calls Tryz.prog f args w (Ret (.tuple #[.string ⟨#[]⟩,.int .i64 22]) w):=by
 rw[fE,if_neg (by rw[hr];decide)] at hc;exact hc
theorem Do{k l:Int}{ss:List ByteArray}{tt:ByteArray}(hr:bz k l ss=true)(ht:bP k l (af ss)=tt)(hc:Calls Tryz.prog f args w (fE k l ss w)):Calls Tryz.prog f args w (Ret (.tuple #[.string tt,.int .i64 0]) w):=by
 subst ht
 rw[fE,if_pos hr] at hc;exact hc
theorem Cx(s:ByteArray)(w:World)(hs:s.size=512)(hb:∀p:PgS,bC p->bP p.1 p.2.1 p.2.2≠s):
  Calls Tryz.prog 44 #[.string s] w (iZ w):=by
 have hn4:=jC s 0
 have hn1:=xD s 9
 go_enter Tryz.func44,Tryz.ntmps44
 have al:=St.start w
 refine wq (sqr (bY #[vi 0,vi 0,sn] al fun bF W1 aA=>?_))
 refine sqp [.k 3 (vi 0)] ?_
 refine aa (wq (wq (sqr (sqp [.m 9 0,.k 10 (vi ((s.size:Int))),.k 11 (.bool ((s.size:Int) != 512))] ?_))))
 refine aa (wbs (fun dC=>?_) fun dC=>?_)
 have s7:=bne_iff_ne.1 dC
 refine wq (sqr (sqp [.k 12 (.agg #[vi 0,vi 0,sn])] ?_))
 refine aV (n:=3) 0 #[vi 0,vi 0,sn] aA fun W8 dO=>?_
 refine sqp [.k 3 (vi 11)] ?_
 refine aa (wp_ret (aj ?_))
 refine bpr (.tuple #[.agg #[vi 0,vi 0,sn],vi 11]) (aQ Tryz.results44 (rpa (dO.blk 0 rfl) 0 3) rpt) ?_
 exact iZ.of (by decide) dO.ext
 have s7:=bne_eq_false_iff_eq.1 dC
 refine wp_skip (aa (wq (sqr (sqp [.m 13 0] ?_))))
 refine sy (fun c5=>vp c5) (fun c5=>eB c5 193 #[.string s,vi 0,.bool false]) aA (fun cx=>⟨_,(ru s _).mono (by rintro e W1 ⟨B4,rfl,⟨hb4,hw4⟩,hx⟩;exact⟨_,rfl,St.one hx ⟨hb4,d7 _ _ _,fun k hk=>by simp[eB] at hk;subst hk;exact⟨hw4,hb4.lt⟩⟩⟩),(ax (cx.ou 13))⟩) fun c5 Bq fi=>?_
 refine sqp [.m 4 14] ?_
 refine aa (wq (sqr (sqp [.m 15 4] ?_)))
 refine kb (vi ((aL s 0 4:Int))) 1 #[.string s,vi 4,.bool false] fi (fun cx=>⟨_,(dL _ s 0 4 _ ⟨(cx.bi 1 rfl),by omega,by omega⟩ (by omega) (by omega)).mono (by rintro e W1 ⟨rfl,bR,hu⟩;exact⟨rfl,hu,bR.1⟩),(aP (cx.ou 15) (cx.co _))⟩) fun wZ cw=>?_
 refine sqp [.m 5 16] ?_
 refine aa (wq (sqr (sqp [.m 17 4] ?_)))
 refine kb (vi ((aL s 4 1:Int))) 1 #[.string s,vi 5,.bool false] cw (fun cx=>⟨_,(dL _ s 4 1 _ ⟨(cx.bi 1 rfl),by omega,by omega⟩ (by omega) (by omega)).mono (by rintro e W1 ⟨rfl,bR,hu⟩;exact⟨rfl,hu,bR.1⟩),(aP (cx.ou 17) (cx.co _))⟩) fun uC dS=>?_
 refine sqp [.m 19 4] ?_
 refine kb (vi ((aL s 5 4:Int))) 1 #[.string s,vi 9,.bool false] dS (fun cx=>⟨_,(dL _ s 5 4 _ ⟨(cx.bi 1 rfl),by omega,by omega⟩ (by omega) (by omega)).mono (by rintro e W1 ⟨rfl,bR,hu⟩;exact⟨rfl,hu,bR.1⟩),(aP (cx.ou 19) (cx.co _))⟩) fun qI cU=>?_
 refine sqp [.k 21 (.agg #[vi ((aL s 4 1:Int)),vi ((aL s 5 4:Int)),sn])] ?_
 refine bY #[vi 0,vi 0,sn] cU fun fm sa ef=>?_
 refine aV (n:=3) 2 #[vi ((aL s 4 1:Int)),vi ((aL s 5 4:Int)),sn] ef fun w3 dH=>?_
 refine aa (wq (wq (bG [0,1,0,4,12,31,63,127,255,127,639,2047,4095] [] [.k 22 (vi ((aL s 0 4:Int))),tW 23 .u32 (aL s 0 4:Int) (aL s 0 4:Int) (IntWalk.u32_in _ (by omega)),.k 24 (.string s),.c 25 (.string (s.extract 4 s.size)),.c 26 (.int .u32 ((aY (s.extract 4 s.size):Int))),.k 27 (.bool ((aL s 0 4:Int) != (aY (s.extract 4 s.size):Int))),.k 28 (.bool ((aL s 0 4:Int) != (aY (s.extract 4 s.size):Int))),.z 29 (!((aL s 0 4:Int) != (aY (s.extract 4 s.size):Int))) (.string s),.y 30 (!((aL s 0 4:Int) != (aY (s.extract 4 s.size):Int))) (.string (s.extract 5 9)),.z 31 (!((aL s 0 4:Int) != (aY (s.extract 4 s.size):Int))) (.string s),.y 32 (!((aL s 0 4:Int) != (aY (s.extract 4 s.size):Int))) (.string (s.extract 508 s.size)),.y 33 (!((aL s 0 4:Int) != (aY (s.extract 4 s.size):Int))) (.bool (!((s.extract 5 9).toList==(s.extract 508 s.size).toList))),tO 34 ((aL s 0 4:Int) != (aY (s.extract 4 s.size):Int)) (!((s.extract 5 9).toList==(s.extract 508 s.size).toList))] [0,1,2] [3,4,8,10,11] [(22,0,13,35)] dH ?_ fun uF cG=>?_)))
 refine⟨?_,?_,?_,?_,?_,trivial⟩
 exact xs4 rfl id fun cx=>em (l:=4) rfl (by kernel_rfl) (cx.an 2) (cx.co _) (by omega) (by omega)
 exact xsc rfl id rfl rfl fun cx=>⟨_,mP (s.extract 4 s.size) _ (by rw[ByteArray.size_extract];omega),(ax (cx.an 3))⟩
 exact m2 rfl (fun _ _ _ h=>h) (fun cx=>(cx.an 6)) fun cx hq=>mt (l:=5) (m:=9) rfl (by kernel_rfl) (mbv (cx.an 7) hq) (cx.co _) (cx.co _) (by have hq_:=hq;simp only[zB] at hq_;omega) (by have hq_:=hq;simp only[zB] at hq_;omega) (by have hq_:=hq;simp only[zB] at hq_;omega) (by have hq_:=hq;simp only[zB] at hq_;omega)
 exact m2 rfl (fun _ _ _ h=>h) (fun cx=>(cx.an 6)) fun cx hq=>em (l:=508) rfl (by kernel_rfl) (mbv (cx.an 9) hq) (cx.co _) (by have hq_:=hq;simp only[zB] at hq_;omega) (by have hq_:=hq;simp only[zB] at hq_;omega)
 exact m2 rfl (fun _ _ _ h=>h) (fun cx=>(cx.an 6)) fun cx hq=>qF rfl (mbv (cx.an 8) hq) (mbv (cx.an 10) hq)
 refine aa (wbs (fun mT=>?_) fun mT=>?_)
 have iF:=mT
 simp only[zB] at iF
 refine wq (sqr (sqp [.k 35 (.agg #[vi 0,vi 0,sn])] ?_))
 refine aV (n:=3) 0 #[vi 0,vi 0,sn] cG fun w4 fy=>?_
 refine sqp [.k 3 (vi 12)] ?_
 refine aa (wp_ret (aj ?_))
 refine bpr (.tuple #[.agg #[vi 0,vi 0,sn],vi 12]) (aQ Tryz.results44 (rpa (fy.blk 0 rfl) 0 3) rpt) ?_
 exact iZ.of (by decide) fy.ext
 have iF:=mT
 simp only[zB] at iF
 obtain⟨Ff,Fg⟩:=iF
 refine wp_skip (aa (wq (wq (sqr (sqp [.m 36 4] ?_)))))
 refine kb (vi ((aL s 9 1:Int))) 1 #[.string s,vi 10,.bool false] cG (fun cx=>⟨_,(dL _ s 9 1 _ ⟨(cx.bi 1 rfl),by omega,by omega⟩ (by omega) (by omega)).mono (by rintro e W1 ⟨rfl,bR,hu⟩;exact⟨rfl,hu,bR.1⟩),(aP (cx.ou 36) (cx.co _))⟩) fun LX kU=>?_
 refine sqp [.k 38 (vi 0)] ?_
 refine aa (wp_block ?_)
 have hn31:=St.nilrow kU 9
 simp only[List.cons_append,List.nil_append] at hn31
 refine aT (fun t_ mz az W=>∃j:Nat,∃pp:Nat,∃ff:Bool,∃Is:List ByteArray,∃AI:Option Addr,∃cI:Nat,j<=aL s 9 1/\pp<=s.size/\Is.length=j/\(∀x∈Is,x.size<=s.size)/\mz=aL s 9 1-j/\az=⟨(ovr (jv az) [(38,38,0,[vi ((j:Int))]),(0,39,9,[])] t_).toArray,[]⟩/\St w [] [eB bF 48 #[vi 0,vi 0,sn],eB c5 193 #[.string s,vi ((pp:Int)),.bool ff],eB fm 48 #[vi ((aL s 4 1:Int)),vi ((aL s 5 4:Int)),.slice AI j cI],eO 9 1 (.slice AI j cI) j (Is.map Value.string)] W) (aL s 9 1-0) ?_ ?_
 exact⟨0,10,false,[],none,0,Nat.zero_le _,by omega,rfl,(fun x hx=>absurd hx List.not_mem_nil),rfl,(by kernel_rfl),hn31.pk [0,1,2,3]⟩
 rintro ON a32 y7 ⟨j,pp,ff,Is,AI,cI,hj,hpp,hIl,hIz,rfl,hj_,dc⟩
 refine ovz hj_ fun H3=>?_
 refine wq (sqr (sqp [.k 39 (.bool (decide ((j:Int)<(aL s 9 1:Int))))] ?_))
 refine aa (wq (wds (fun kF py=>?_) fun kF py=>?_))
 refine wp_skip (aa (wq (wp_block (aH [0,1,0,4,12,31,63,127] [[],[2],[],[1],[],[5,3],[],[2]] [[],[],[],[4],[5],[6],[],[7]] [[],[],[],[1],[],[3],[],[2]] [.k 40 (po fm 2),.c 41 (.slice AI j cI),.k 42 (vp c5),.a 43,.a 44,.a 45,.k 46 (po fm 2),.n] (fun ix u g X=>match ix with|0|1|2=>True|3=>u 43= .string ((fg s pp ff).1)/\X 4=eB c5 193 #[.string s,vi (((fg s pp ff).2.1:Int)),.bool ((fg s pp ff).2.2)]|4=>u 44= .slice (sA (g 44)) 1 1/\X 5=eO 9 1 (.slice (sA (g 44)) 1 1) 1 ([.string ((fg s pp ff).1)])|5=>u 45= .slice (sA (g 45)) (j+1) (sC (g 45))/\X 6=eO 9 1 (.slice (sA (g 45)) (j+1) (sC (g 45))) (j+1) ((Is++[(fg s pp ff).1]).map Value.string)|6=>True|7=>X 7=eB fm 48 #[vi ((aL s 4 1:Int)),vi ((aL s 5 4:Int)),.slice (sA (g 45)) (j+1) (sC (g 45))]|_=>True) [0,4,5,6,7] [1,3,4,5,7] [(40,0,7,47)] dc ?_ ?_ ?_))))
 exact fun ix _ _ _ _ _ _ hs hb hx h=>match ix,h with
 |3,h=>by dsimp only;rw[<-hs 43 rfl,<-hx 4 rfl];exact h
 |4,h=>by dsimp only;rw[<-hs 44 rfl,<-hb 44 rfl,<-hx 5 rfl];exact h
 |5,h=>by dsimp only;rw[<-hs 45 rfl,<-hb 45 rfl,<-hx 6 rfl];exact h
 |7,h=>by dsimp only;rw[<-hb 45 rfl,<-hx 7 rfl];exact h
 |0,_|1,_|2,_|6,_|_+8,_=>trivial
 refine⟨?_,?_,?_,?_,?_,trivial⟩
 exact xs4 rfl id fun cx=>ae rfl (by kernel_rfl) (cx.an 0) ((cx.bi 2 rfl).cell 2)
 refine svA fun v g W X cx=>?_
 refine am.call (aq (args:=#[vp c5]) rfl cx.sees rfl (by kernel_rfl) (ax (cx.an 2))) ?_
 refine(KR _ s pp ff _ ⟨(cx.bi 1 rfl),hpp,by omega⟩).mono ?_
 rintro e W1 ⟨rfl,bR,hu⟩
 refine⟨_,rfl,bZ (cx.init 1 _ rfl) rfl rfl hu bR.1 (fun u A X' hs hb hv hx=>?_)⟩
 exact⟨(hv 43 rfl).1.trans rfl,hx⟩
 refine svA fun v g W X cx=>?_
 have H4:v (.tmp 43)= .string ((fg s pp ff).1):=(dTn (cx.an 3)).1
 exact du (e:=9) (xs:=[.string ((fg s pp ff).1)]) rfl (by simp[go_sem,H4]) rfl (by decide) rfl rfl (fun _ _ _ _ _=> .intro)
 refine svA fun v g W X cx=>?_
 obtain⟨i0,hi0,hz0,hz1,hz2⟩:=info_parts Tryz.infoStr
 refine eH (n:=j) (m:=1) (nm:=j+1) (xs:=Is.map Value.string) (news:=[.string ((fg s pp ff).1)]) (xs':=(Is++[(fg s pp ff).1]).map Value.string) rfl (ty:=46) rfl (by kernel_rfl) hi0 hz0 hz1 hz2 rfl (cx.an 1) cx (cx.init 3 _ rfl) rfl (dTn (cx.an 4)).1 (by first|(simp;done)|(simp;omega)) (At.of_own (cx.row (dTn (cx.an 4)).2 rfl)) (by simp[Value.oneCell']) (by simp only[maxLen];omega) (by omega) rfl rfl rfl (by omega) (KA _ _) (fun u A X' hs hb hv hx=>?_)
 exact⟨hv,hx⟩
 refine svA fun v g W X cx=>?_
 exact bx (n:=1) rfl (cx.an 6) (dTn (cx.an 5)).1 (by kernel_rfl) (by kernel_rfl) (by kernel_rfl) cx (cx.init 2 _ rfl) rfl (nle rfl) (by kernel_rfl) rfl rfl rfl (fun u A X' hs hb hx=>by rw[hb 45];exact hx)
 intro u g X y3 hD ew fr aG
 simp only[exq 4 ((dTn (hD 3 lq)).2),exq 5 ((dTn (hD 4 lq)).2),exq 6 ((dTn (hD 5 lq)).2),exq 7 ((dTn (hD 7 lq)))] at ew
 simp only[ed 43 ((dTn (hD 3 lq)).1),ed 44 ((dTn (hD 4 lq)).1),ed 45 ((dTn (hD 5 lq)).1)] at aG
 generalize sA (g 44)=LY,sA (g 45)=y8,sC (g 45)=y9 at ew aG
 clear hD;subst aG;clear u g X
 refine aw (aa (sqr (sqp [sI 47 ((j:Int)+1) (by omega),.m 38 47] ?_)))
 refine aa ?_
 refine⟨aL s 9 1-((j+1)),by omega,?_⟩
 exact⟨(j+1),(fg s pp ff).2.1,(fg s pp ff).2.2,(Is++[(fg s pp ff).1]),y8,y9,by omega,Hi hpp,by rw[List.length_append,hIl];rfl,fun x hx=>(List.mem_append.1 hx).elim (hIz x) fun h_=>by rw[List.mem_singleton.1 h_];exact Gb s pp ff,rfl,(by kernel_rfl),ew.pk [0,1,4,3]⟩
 refine wp_exit (au (au (bh (aa (wq (wq ?_))))))
 subst hIl
 have hSm:dP Is:=⟨by have h_:=xD s 9;omega,fun x hx=>by have h_:=hIz x hx;omega⟩
 rcases hrg:bz (aL s 4 1:Int) (aL s 5 4:Int) Is with _|_
 refine sqr ?_
 refine bE 2 3 dc ?_
 refine sqk (.tuple #[.string ((⟨#[]⟩:ByteArray)),vi 22]) dc (fun cx=>⟨_,Hc hrg (nR (aL s 4 1:Int) (aL s 5 4:Int) _ _ Is _ (At.of_own (cx.ri 3 rfl)) hSm),(ax (cx.ou 49))⟩) fun pT dd=>?_
 refine sqp [.m 48 50,.k 51 (.string ((⟨#[]⟩:ByteArray))),.k 52 (vi 22),.m 7 51,.m 8 52] ?_
 refine aa (wq (sqr (sqp [.m 53 4] ?_)))
 refine sqv (.bool ff) dd (by
   refine svA fun v g W X cx=>?_
   refine am.call (aq (args:=#[vp c5]) rfl cx.sees rfl (by kernel_rfl) (ax (cx.ou 53))) ?_
   refine(fv _ s pp ff _ ⟨(cx.bi 1 rfl),hpp,by omega⟩).mono ?_
   rintro e W1 ⟨rfl,rfl⟩
   refine⟨_,rfl,bL [] rfl rfl (Ext.refl _) (by simp) List.Pairwise.nil (fun u A X' hs hb hv hN=>?_)⟩
   have aK:=(hv 54 rfl).1;have aW:=(hv 54 rfl).2
   exact aK.trans rfl) fun Fh gv=>?_
 refine sqp [.m 55 54] ?_
 refine sqw 55 [56,57] rfl (fun _=>sqp [.m 56 8,.k 57 (.bool true)] sqe) ?_
 refine sqp [sPo 58 ff true,.m 59 58] ?_
 refine sqw 59 [60,61,62] rfl (fun _=>sqp [.m 60 7,.m 61 0,.k 62 (.bool (!(((⟨#[]⟩:ByteArray)).toList==s.toList)))] sqe) ?_
 have hd56:((ff||true)||(!(((⟨#[]⟩:ByteArray)).toList==s.toList)))=true:=(by cases ff<;>rfl)
 refine sqp [Ct 63 (ff||true) (!(((⟨#[]⟩:ByteArray)).toList==s.toList)) true hd56] ?_
 refine aa (wct rfl (wq (sqr (sqp [.k 64 (.agg #[vi 0,vi 0,sn])] ?_))))
 refine aV (n:=3) 0 #[vi 0,vi 0,sn] gv fun IT kh=>?_
 refine sqp [.k 3 (vi 22)] ?_
 refine aa (wp_ret (aj ?_))
 refine bpr (.tuple #[.agg #[vi 0,vi 0,sn],vi 22]) (aQ Tryz.results44 (rpa (kh.blk 0 rfl) 0 3) rpt) ?_
 exact iZ.of (by decide) kh.ext
 have hnb_:=Hk hb hrg
 obtain⟨tt,htt⟩:∃z,bP (aL s 4 1:Int) (aL s 5 4:Int) (af Is)=z:=⟨_,rfl⟩
 rw[htt] at hnb_
 refine sqr ?_
 refine bE 2 3 dc ?_
 refine sqk (.tuple #[.string tt,vi 0]) dc (fun cx=>⟨_,Do hrg htt (nR (aL s 4 1:Int) (aL s 5 4:Int) _ _ Is _ (At.of_own (cx.ri 3 rfl)) hSm),(ax (cx.ou 49))⟩) fun Bs fo=>?_
 refine sqp [.m 48 50,.k 51 (.string tt),.k 52 (vi 0),.m 7 51,.m 8 52] ?_
 refine aa (wq (sqr (sqp [.m 53 4] ?_)))
 refine sqv (.bool ff) fo (by
   refine svA fun v g W X cx=>?_
   refine am.call (aq (args:=#[vp c5]) rfl cx.sees rfl (by kernel_rfl) (ax (cx.ou 53))) ?_
   refine(fv _ s pp ff _ ⟨(cx.bi 1 rfl),hpp,by omega⟩).mono ?_
   rintro e W1 ⟨rfl,rfl⟩
   refine⟨_,rfl,bL [] rfl rfl (Ext.refl _) (by simp) List.Pairwise.nil (fun u A X' hs hb hv hN=>?_)⟩
   have aK:=(hv 54 rfl).1;have aW:=(hv 54 rfl).2
   exact aK.trans rfl) fun Fj gG=>?_
 refine sqp [.m 55 54] ?_
 refine sqw 55 [56,57] rfl (fun _=>sqp [.m 56 8,.k 57 (.bool false)] sqe) ?_
 refine sqp [sPo 58 ff false,.m 59 58] ?_
 refine sqw 59 [60,61,62] rfl (fun _=>sqp [.m 60 7,.m 61 0,.k 62 (.bool (!(tt.toList==s.toList)))] sqe) ?_
 have hd78:((ff||false)||(!(tt.toList==s.toList)))=true:=(by rw[hnb_];cases ff<;>rfl)
 refine sqp [Ct 63 (ff||false) (!(tt.toList==s.toList)) true hd78] ?_
 refine aa (wct rfl (wq (sqr (sqp [.k 64 (.agg #[vi 0,vi 0,sn])] ?_))))
 refine aV (n:=3) 0 #[vi 0,vi 0,sn] gG fun OO pz=>?_
 refine sqp [.k 3 (vi 22)] ?_
 refine aa (wp_ret (aj ?_))
 refine bpr (.tuple #[.agg #[vi 0,vi 0,sn],vi 22]) (aQ Tryz.results44 (rpa (pz.blk 0 rfl) 0 3) rpt) ?_
 exact iZ.of (by decide) pz.ext
def ll(s:ByteArray)(w:World):Ending->World->Prop:=match rdX s with
 |some p=>d9 p.1 p.2.1 p.2.2 0 w
 |none=>iZ w
theorem s6(s:ByteArray)(w:World)(hs:s.size=512):Calls Tryz.prog 44 #[.string s] w (ll s w):=by
 unfold ll
 rcases h:rdX s with _|p
 exact Cx s w hs fun p hp=>sr h p hp
 obtain⟨⟨h1,h2⟩,h3⟩:=ks h
 have h4:=BA p.1 p.2.1 p.2.2 w h1
 rw[h2,h3] at h4
 exact h4
end
section
open Go.RowKit
def aE(p:PgS):ByteArray:=bP p.1 p.2.1 p.2.2
noncomputable def rdP(s:ByteArray):PgS:=(rdX s).getD bu
theorem lx{p:PgS}(h:bC p):Says (aE p) p.1 p.2.1 p.2.2:=by
 have h1:=tx h.1
 rw[h.2] at h1;exact h1
theorem Er{p q:PgS}(hp:bC p)(hq:bC q)(h:aE p=aE q):p=q:=by
 have h1:=lx hp
 have h2:=lx hq
 rw[<-h] at h2
 obtain⟨k,l,I⟩:=p
 obtain⟨k',l',I'⟩:=q
 have e1:=h1.kind.symm.trans h2.kind
 have e2:=h1.lsn.symm.trans h2.lsn
 have e3:=h1.many.symm.trans h2.many
 dsimp only at e1 e2 e3 h1 h2
 subst e1 e2
 have e4:∀j,j<=I.length->I.take j=I'.take j:=by
  intro j
  induction j with
  |zero=>intro _;rfl
  |succ j ih=>
   intro hj
   have ih:=ih (by omega)
   have t1:=(h1.text j (by omega)).2.2.1
   have t2:=(h2.text j (by omega)).2.2.1
   rw[ih] at t1
   rw[List.take_succ_eq_append_getElem (by omega),List.take_succ_eq_append_getElem (by omega),ih]
   have g1:I.getD j ByteArray.empty=I'.getD j ByteArray.empty:=t1.symm.trans t2
   rw[List.getD_eq_getElem?_getD,List.getD_eq_getElem?_getD,List.getElem?_eq_getElem (by omega),List.getElem?_eq_getElem (by omega)] at g1
   have g1:I[j]=I'[j]:=g1
   rw[g1]
 have e5:=e4 I.length (Nat.le_refl _)
 rw[List.take_length,e3,List.take_length] at e5
 rw[e5]
theorem pr{p:PgS}(h:bC p):rdP (aE p)=p:=by
 unfold rdP
 rcases hx:rdX (aE p) with _|q
 exact absurd rfl (sr hx p h)
 obtain⟨h1,h2⟩:=ks hx
 exact Er h1 h h2
theorem dD{p:PgS}(h:bC p):(aE p).size=512:=(lx h).size
theorem AC(p:PgS)(h:bC p):aE p≠cO 512:=fun he=>by
 have h1:=(lx h).sum
 rw[he] at h1
 have h2:aL (cO 512) 0 4=0:=by decide+kernel
 have h3:aY ((cO 512).extract 4 512)≠0:=by decide+kernel
 omega
theorem vD:rdP (cO 512)=bu:=by
 unfold rdP
 rcases hx:rdX (cO 512) with _|q
 rfl
 obtain⟨h1,h2⟩:=ks hx
 exact absurd h2 (AC q h1)
def hf1(s:ByteArray):ByteArray:=s.extract 0 256
def hf2(s:ByteArray):ByteArray:=s.extract 256 512
end
section
open Go.RowKit Go.Maps Go.ChangeMaps
def nK:Option Nat->Value
 |none=> .pointer none
 |some k=> .pointer (some ⟨k,0,none⟩)
def vF:Option Nat->DataW Unit
 |none=> .lit (.int .i64 (-1))
 |some k=> .lit (.int .i64 (k:Int))
def BJ:Value->Option (DataW Unit×List MemPlace)
 | .pointer none=>some (.lit (.int .i64 (-1)),[])
 | .pointer (some ⟨k,0,none⟩)=>some (.lit (.int .i64 (k:Int)),[])
 |_=>none
theorem yd(v:Value)(d:DataW Unit)(ps:List MemPlace)(e:Option Nat)(h:BJ v=some (d,ps))(hd:d=vF e):v=nK e:=by
 subst hd
 unfold BJ at h
 split at h
 cases e with
 |none=>rfl
 |some k=>simp[vF] at h
 rename_i j
 cases e with
 |none=>simp[vF] at h
 |some k=>
  simp[vF] at h
  obtain⟨h,_⟩:=h
  have:j=k:=by omega
  subst this;rfl
 cases h
def ptC:Cod (Option Nat) where
 enc:=nK
 dat:=vF
 R:=BJ
 e0:=none
 read:=fun e=>by cases e<;>rfl
 back:=yd
def ptX:Ec (Option Nat) where
 enc:=nK
 dat:=vF
 R:=BJ
 e0:=none
 okE:=fun _=>True
 read:=fun e _=>by cases e<;>rfl
 back:=yd
 ok0:=trivial
noncomputable def ecB:Ec Bool where
 enc:= .bool
 dat:=fun v=> .lit (.bool v)
 R:=plainElem Tryz.prog 4
 e0:=false
 okE:=fun _=>True
 read:=fun e _=>plainElem_bool (by kernel_rfl) e
 back:=fun v d ps e h1 h2=>by
  subst h2
  unfold plainElem at h1
  have hu:Tryz.prog.underlying 4=some .bool:=by kernel_rfl
  rw[hu] at h1
  cases v<;>simp at h1
  rw[h1.1]
 ok0:=trivial
section
variable{P:Program}{k b r n cnt:Nat}{m:Int->Option (Option Nat)}{left:Int->Bool}{cur:Option (Int×Option Nat)}
theorem xe{x:Int}(h:(Lit.int .i64 x).wf=true):kcI.ok x:=by
 have h1:(decide (IntKind.i64.min<=x)&&decide (x<=IntKind.i64.max))=true:=h
 rw[Bool.and_eq_true,decide_eq_true_eq,decide_eq_true_eq] at h1
 have e1:IntKind.i64.min= -9223372036854775808:=by decide
 have e2:IntKind.i64.max=9223372036854775807:=by decide
 rw[e1,e2] at h1
 exact h1
theorem gC.g(h:gC kcI ptX P k b n m W):O3 ptC P k b n m W:=by
 obtain⟨D,h1,h2,_,h4⟩:=h
 exact⟨D,h1,h2.isMap,fun x hx=>h4 x (xe hx)⟩
def eRx(P:Program)(k b r n:Nat)(m:Int->Option (Option Nat))(left:Int->Bool)(cnt:Nat)(cur:Option (Int×Option Nat)):Ent:=⟨[b,r],fun W=>(eRg ptC P k b r n m left cnt cur).holds W/\gC kcI ptX P k b n m W⟩
theorem vO:(eRx P k b r n m left cnt cur).loc:=fun W W' h hb=>⟨Kb W W' h hb.1,ml P k b n m W W' (fun j hj=>h j (by rw[List.mem_singleton.1 hj];simp[eRx])) hb.2⟩
theorem St.endRx{L:List Ent}(h:St w0 bor (L++[eRx P k b r n m left cnt cur]) W):St w0 bor (L++[eMx kcI ptX P k b n m]) W:=by
 have ha:=List.pairwise_append.1 h.apart
 have ht:=h.ok (eRx P k b r n m left cnt cur) (by simp)
 refine⟨h.upd,fun x hx=>?_,List.pairwise_append.2 ⟨ha.1,List.pairwise_singleton _ _,fun x hx y hy j hj hj2=>?_⟩⟩
 rcases List.mem_append.1 hx with hx|hx
 exact h.ok x (List.mem_append_left _ hx)
 rw[List.mem_singleton] at hx
 subst hx
 exact⟨ht.holds.2,ml _ _ _ _ _,fun j hj=>ht.own j (by rw[List.mem_singleton.1 hj];simp[eRx])⟩
 rw[List.mem_singleton] at hy
 subst hy
 exact ha.2.2 x hx (eRx P k b r n m left cnt cur) (by simp) j hj (by rw[List.mem_singleton.1 hj2];simp[eRx])
end
section
variable{P:Program}{ops:Array Oper}{L:List Nat}{a0:Act}{w0:World}{bor:List Nat}{X0:List Ent}{us cr kl:List (List Nat)}
 {D:Nat->(Tmp->Value)->(Tmp->Value)->(Nat->Ent)->Prop}{i:Nat}{o:Oper}{ρ:Operand->Value}{β:Tmp->Value}{W:World}{X:Nat->Ent}
theorem CtxV.rx{n:Nat}(cx:CtxV ops L a0 w0 bor X0 us D i ρ β W X)(hX:X q=eRx P k b r n m left cnt cur)(hu:(atV us i).contains q=true):gC kcI ptX P k b n m W:=by
 have h:=(cx.ok q hu).holds
 rw[hX] at h;exact h.2
theorem DG{t n:Nat}{x:Operand}(h:o.op= .range t x)(hx:ρ x= .map (some b))(cx:CtxV ops L a0 w0 bor X0 us D i ρ β W X)(hX:X q=eMx kcI ptX P k b n m)(hq:(atV us i).contains q=true)(hd:o.dst=some d)(hc:atV cr i=[q'])(hkl:atV kl i=[q])
  (hD:∀(u p:Tmp->Value) (X':Nat->Ent),(∀t,t≠d->u t=ρ (.tmp t))->(∀t,t≠d->p t=β t)->u d= .pointer (some ⟨pb (p d),0,none⟩)->X' q'=eRx P k b (pb (p d)) n m (fun x=>(m x).isSome) n none->D i u p X')
  (hk:P.underlying k=some (.int .i64):=by kernel_rfl) (ht:P.underlying t=some (.map k e):=by kernel_rfl):am P o ρ W (bX cr kl D i o.dst ρ β W X):=by
 have hmx:=cx.mx hX hq
 have hlt:=hmx.lt
 obtain⟨D0,hD0,hI,hm⟩:=hmx.g
 obtain⟨W',hrun,hr,hg,hsz⟩:=hD0.range (int_keyed hk) ht
 have hS:((atV kl i).flatMap fun q=>(X q).fp)=[b]:=by rw[hkl];simp[hX,eMx]
 refine am.value (v:=po W.heap.size 0) (w':=W') (by unfold execOp;rw[h];simp[hx,hrun]) ⟨[eRx P k b W.heap.size n m (fun x=>(m x).isSome) n none],by rw[hc];rfl,⟨?_,fun e' he'=>?_,List.pairwise_singleton _ _⟩,fun u p X' hs hv hb' hbv hx' hN=>?_⟩
 rw[hS]
 exact⟨hg.os,hg.tape,hg.output,hg.size,fun j hj hn=>hg.block j hj (by simp)⟩
 rw[List.mem_singleton] at he'
 subst he'
 refine⟨⟨⟨D0,_,_,hr,Dd hr,fun x hx=>(hm x hx).1,hI,hm,fun x hx=>hx,fun x c hc'=>by cases hc'⟩,ml P k b n m W W' (fun j hj=>hg.block j (by rw[List.mem_singleton.1 hj];exact hlt) (by simp)) hmx⟩,vO,fun j hj=>?_⟩
 rw[hS]
 rcases(by simpa[eRx] using hj:j=b\/j=W.heap.size) with rfl|rfl
 exact⟨.inl (by simp),by omega⟩
 exact⟨.inr (Nat.le_refl _),by omega⟩
 rw[hc] at hN
 refine hD u p X' (fun t ht=>hs t (by rw[hd];simpa using ht.symm)) (fun t ht=>hb' t (by rw[hd];simpa using ht.symm)) ?_ ?_
 rw[hv d hd,hbv d hd];rfl
 rw[hbv d hd];exact(List.cons.inj hN).1
def BL(P:Program)(k b r n:Nat)(m:Int->Option (Option Nat))(left:Int->Bool)(cnt:Nat)(v:Value)(e:Ent):Prop:=
 (v= .tuple #[.bool false]/\(∀x:Int,(Lit.int .i64 x).wf=true->left x=false)/\e=eRx P k b r n m left cnt none)\/
 ∃(x:Int) (c:Option Nat),v= .tuple #[.bool true,.int .i64 x,nK c]/\(-9223372036854775808<=x/\x<=9223372036854775807)/\left x=true/\m x=some c/\0<cnt/\e=eRx P k b r n m (fun y=>left y&&y != x) (cnt-1) (some (x,c))
theorem Hd{n:Nat}(h:o.op= .next x false)(hx:ρ x=po r 0)(cx:CtxV ops L a0 w0 bor X0 us D i ρ β W X)(hX:X q=eRx P k b r n m left cnt cur)(hq:(atV us i).contains q=true)(hd:o.dst=some d)(hc:atV cr i=[q'])(hkl:atV kl i=[q])
  (hD:∀(g p:Tmp->Value) (X':Nat->Ent),(∀t,t≠d->g t=ρ (.tmp t))->(∀t,t≠d->p t=β t)->BL P k b r n m left cnt (g d) (X' q')->D i g p X')
  (hk:P.underlying k=some (.int .i64):=by kernel_rfl):am P o ρ W (bX cr kl D i o.dst ρ β W X):=by
 have hok:=cx.ok q hq
 rw[hX] at hok
 have hS:((atV kl i).flatMap fun q=>(X q).fp)=[b,r]:=by rw[hkl];simp[hX,eRx]
 have hlt:∀j∈[b,r],j<W.heap.size:=fun j hj=>(hok.own j hj).2
 obtain⟨⟨D0,lf,c0,hr,hle,hl,hI,hm,hls,hcur⟩,hMX⟩:=hok.holds
 have hbr:b≠r:=fun e=>by
  obtain⟨es,clock,since,seen,c1,h1,h2,h3,h4,h5,h6⟩:=hr
  rw[e,h5] at h1;cases h1
 rcases hr.next (int_keyed hk) o.type with ⟨h0,hl0,hrun⟩|⟨key,v,kl',y,w',cnt',hkey,hlk,hv,hat,hrun,hrg,hlt',hgr,hsz,hen⟩
 refine am.value (v:= .tuple #[.bool false]) (w':=W) (by unfold execOp;rw[h];simp[hx,hrun]) ⟨[eRx P k b r n m left cnt none],by rw[hc];rfl,⟨Upd.refl _ _,fun e' he'=>?_,List.pairwise_singleton _ _⟩,fun g p X' hs hv hb' hbv hx' hN=>?_⟩
 rw[List.mem_singleton] at he'
 subst he'
 refine⟨⟨⟨D0,lf,c0,hr,hle,hl,hI,hm,hls,fun x c hc'=>by cases hc'⟩,hMX⟩,vO,fun j hj=>?_⟩
 rw[hS]
 exact⟨.inl hj,hlt j hj⟩
 rw[hc] at hN
 exact hD g p X' (fun t ht=>hs t (by rw[hd];simpa using ht.symm)) (fun t ht=>hb' t (by rw[hd];simpa using ht.symm)) (.inl ⟨hv d hd,fun x hx=>by rw[<-hl x hx,hl0],(List.cons.inj hN).1⟩)
 obtain⟨x0,rfl,rfl,hwx⟩:=keyOf_int_inv hk hkey
 have hx0: -9223372036854775808<=x0/\x0<=9223372036854775807:=xe hwx
 have hlx:left x0=true:=by rw[<-hl x0 hwx];exact hlk
 have hso:=hls x0 hlx
 obtain⟨c,hmc⟩:=Option.isSome_iff_exists.1 hso
 have hvc:v=nK c:=by
  have h2:=(hm x0 hwx).2
  rw[hat,hmc] at h2
  obtain⟨y1,y2⟩:=y
  exact ptC.back v _ y2 _ hv h2
 subst hvc
 have hb1:∀W2:World,W2.heap[b]? =w'.heap[b]? ->W2.heap[r]? =w'.heap[r]? ->(Instr.entry (po r 0)).run P W2= .ok (.tuple #[.int .i64 x0,nK c]) W2:=fun W2 e1 e2=>z6 hrg hen e1 e2
 have hMX2:gC kcI ptX P k b n m w':=ml P k b n m W w' (fun j hj=>by
  rw[List.mem_singleton.1 hj]
  exact hgr.block b (hlt b (by simp)) (fun e'=>by cases e';exact hbr rfl)) hMX
 refine am.value (v:= .tuple #[.bool true,.int .i64 x0,nK c]) (w':=w') (by unfold execOp;rw[h];simp[hx,hrun]) ⟨[eRx P k b r n m (fun y=>left y&&y != x0) (cnt-1) (some (x0,c))],by rw[hc];rfl,⟨?_,fun e' he'=>?_,List.pairwise_singleton _ _⟩,fun g p X' hs hv hb' hbv hx' hN=>?_⟩
 rw[hS]
 exact⟨hgr.os,hgr.tape,hgr.output,hgr.size,fun j hj hn=>hgr.block j hj (fun e'=>hn (by cases e';simp))⟩
 rw[List.mem_singleton] at he'
 subst he'
 refine⟨⟨⟨D0,_,cnt',hrg,by omega,fun z hz=>?_,hI,hm,fun z hz=>hls z (by simp only[Bool.and_eq_true] at hz;exact hz.1),fun x c' hc'=>?_⟩,hMX2⟩,vO,fun j hj=>?_⟩
 show (lf (.int .i64 z)&&!(Lit.sameKey (.int .i64 z) (.int .i64 x0)))=(left z&&z != x0)
 rw[hl z hz]
 simp[Lit.sameKey,bne,BEq.beq]
 cases hc'
 exact hb1
 rw[hS]
 exact⟨.inl hj,by rw[hsz];exact hlt j hj⟩
 rw[hc] at hN
 exact hD g p X' (fun t ht=>hs t (by rw[hd];simpa using ht.symm)) (fun t ht=>hb' t (by rw[hd];simpa using ht.symm)) (.inr ⟨x0,c,hv d hd,hx0,hlx,hmc,by omega,(List.cons.inj hN).1⟩)
theorem BE{n:Nat}{x0:Int}{c:Option Nat}(h:o.op= .entry x)(hx:ρ x=po r 0)(hE:(eRx P k b r n m left cnt (some (x0,c))).holds W):(execOp ρ o).run P W= .ok (.value (.tuple #[.int .i64 x0,nK c])) W:=Cl h hx hE.1
theorem BR{p j:Type}{K:Kc p}{C:Ec j}{t n d:Nat}{m:p->Option j}(h:o.op= .call {callee:= .builtin .clear,args:=#[x],argTypes:=#[t]})(hx:ρ x= .map (some b))(cx:CtxV ops L a0 w0 bor X0 us D i ρ β W X)(hX:X q=eMx K C P k b n m)(hq:(atV us i).contains q=true)(hc:atV cr i=[q'])(hkl:atV kl i=[q])
  (hD:∀(c g:Tmp->Value) (X':Nat->Ent),(∀t,o.dst≠some t->c t=ρ (.tmp t))->(∀t,o.dst≠some t->g t=β t)->X' q'=eMx K C P k b 0 (fun _=>none)->D i c g X')
  (ht:P.underlying t=some (.map k e):=by kernel_rfl):am P o ρ W (bX cr kl D i o.dst ρ β W X):=by
 have hmx:=cx.mx hX hq
 have hlt:=hmx.lt
 obtain⟨D0,⟨es,clock,h1,h2,h3⟩,h4⟩:=hmx
 have hnew:=heap_setBlock_same h1 (.map #[] clock)
 have hup:Upd [b] W (setBlock W b (.map #[] clock)):=⟨rfl,rfl,rfl,by simp[setBlock],fun i hi hn=>heap_setBlock_other h1 _ (fun e'=>hn (by simp[e']))⟩
 have hmx2:gC K C P k b 0 (fun _=>none) (setBlock W b (.map #[] clock)):=⟨.map [],⟨#[],clock,hnew,⟨by simp,MapKept.stamped_empty clock,by simp⟩,Nat.le_refl _,rfl⟩,tidy_empty,rfl,fun x hx=>⟨rfl,rfl⟩⟩
 have hrun:(execOp ρ o).run P W= .ok (.value (.tuple #[])) (setBlock W b (.map #[] clock)):=by
  unfold execOp;rw[h]
  simp[hx,resolve,invoke,builtin,Builtin.clear_,run_underlying ht,MapKept.run_getObj_map h1,MapKept.run_setObj_map _ h1,Result.andThen,setBlock]
 obtain⟨a1,a2,a3⟩:=p5 (cr:=cr) (kl:=kl) (i:=i) hX hmx2 hup hc hkl
 refine am.value hrun ⟨[eMx K C P k b 0 (fun _=>none)],a1,⟨a2,a3,List.pairwise_singleton _ _⟩,fun c g X' hs hv hb' hbv hx' hN=>hD c g X' hs hb' ?_⟩
 rw[hc] at hN
 exact(List.cons.inj hN).1
end
end
section
open Go.RowKit
structure PgR where
 p:PgS
 A:Option Addr
 c:Nat
structure BfT where
 n:Int
 blk:Nat
 pg:PgR
 dirty:Bool
 used:Int
structure StM where
 D:DkM
 bufs:Int
 pool:List BfT
 time:Int
 recs:List RcT
 ni:Nat
 im:Int->Option Bool
 nt:Nat
 told:Int->Option Bool
 frm:Int
 rows:List PgR
 rr:List RcT
abbrev StM.L(S:StM):List RecM:=S.recs.map RcT.r
def atM(l:List BfT)(x:Int):Option (Option Nat):=(l.find? fun t=>t.n==x).map fun t=>some t.blk
def de(l:List BfT)(n:Int)(f:BfT->BfT):List BfT:=l.map fun t=>if t.n=n then f t else t
def flN(L:List RecM)(fl:Nat):Nat:=(cy L L.length).countP (·<(fl:Int)+1)
abbrev StM.F(S:StM):Nat:=flN S.L S.D.fl
def wrD0(S:StM)(t:BfT):DkM×Int:=if (S.F:Int)<t.pg.p.2.1 then opD S.D 0 flD else (S.D,0)
def clB(t:BfT):BfT:={t with dirty:=false}
def bK(S:StM)(t:BfT):StM×Int:=
 if (wrD0 S t).2≠0 then ({S with D:=(wrD0 S t).1},(wrD0 S t).2) else
 let D1:=(wrD0 S t).1
 let R:=opD D1 (wrE D1 t.n (aE t.pg.p)) (wrD t.n (aE t.pg.p))
 ({S with D:=R.1,pool:=if R.2=0 then de S.pool t.n clB else S.pool},R.2)
def aM(S:StM)(t:BfT):StM×Int:=if t.dirty=true then bK S t else (S,0)
def lM(k:Int)(t:BfT):BfT:={t with used:=k}
def tick(S:StM):StM:={S with time:=S.time+1}
def rmB(l:List BfT)(n:Int):List BfT:=l.filter fun t=>t.n != n
def bw(S:StM)(t:BfT):StM×Int:=if S.bufs<=(S.pool.length:Int) then (if (aM S t).2≠0 then aM S t else ({(aM S t).1 with pool:=rmB (aM S t).1.pool t.n},0)) else (S,0)
noncomputable def jW(S:StM)(n:Int)(t:BfT)(blk:Nat)(A:Option Addr)(c:Nat):StM×Int:=
 if (bw S t).2≠0 then bw S t else
 let pg:PgR:=⟨rdP (rdS S.D n).1,A,c⟩
 ({(bw S t).1 with pool:=(bw S t).1.pool++[⟨n,blk,pg,false,S.time⟩],rows:=(bw S t).1.rows++[pg]},0)
inductive LdR (S:StM) (n:Int):StM->Int->Prop where
 |hit (t:BfT) (h:t∈S.pool) (hn:t.n=n):LdR S n {tick S with pool:=de S.pool n (lM (S.time+1))} 0
 |bad (h:∀t∈S.pool,t.n≠n) (he:(rdS S.D n).2≠0):LdR S n (tick S) (rdS S.D n).2
 |new (t:BfT) (blk:Nat) (A:Option Addr) (c:Nat) (h:∀t∈S.pool,t.n≠n) (he:(rdS S.D n).2=0) (ht:S.bufs<=(S.pool.length:Int)->t∈S.pool):LdR S n (jW (tick S) n t blk A c).1 (jW (tick S) n t blk A c).2
noncomputable def shP(D:DkM)(n:Int):PgS:=rdP (rdT (D.pgs.getD n.toNat gB)).1
noncomputable def aD(S:StM)(n:Int):PgS:=match S.pool.find? (fun t=>t.n==n) with
 |some t=>t.pg.p
 |none=>shP S.D n
structure SOk (S:StM) (c:Nat):Prop where
 bufs:1<=S.bufs/\S.bufs<=64
 pgs:S.D.pgs.length<=400
 ws:∀x∈S.D.pgs,x.ws.length<=c
 time:0<=S.time/\S.time<=(c:Int)
 ni:S.ni<=c
 nt:S.nt<=c
 right:∀t∈S.pool,bC t.pg.p
 nodup:(S.pool.map BfT.n).Nodup
 len:(S.pool.length:Int)<=S.bufs
 keys:∀t∈S.pool,0<=t.n/\t.n<(S.D.pgs.length:Int)
 recs:∀r∈S.L,bv r=true
 log:S.D.log=ei S.L
 lsz:S.D.log.size<=1048576
 fl:S.D.fl<=S.D.log.size
 cl:∀t∈S.pool,t.dirty=false->t.pg.p=shP S.D t.n
def fq(t:BfT):Ent:=eB t.blk 120 #[.int .i64 t.pg.p.1,.int .i64 t.pg.p.2.1,.slice t.pg.A t.pg.p.2.2.length t.pg.c,.bool t.dirty,.int .i64 t.used]
def dM(r:PgR):Ent:=eO 9 1 (.slice r.A r.p.2.2.length r.c) r.p.2.2.length (r.p.2.2.map Value.string)
def stC(db:Nat)(S:StM)(mb:Nat)(RA:Option Addr)(rc:Nat)(EA:Option Addr)(ec ib tb:Nat):Array Value:=#[.pointer (some ⟨db,0,none⟩),.int .i64 S.bufs,.map (some mb),.int .i64 S.time,.slice RA S.recs.length rc,.slice EA S.recs.length ec,.map (some ib),.map (some tb),.int .i64 S.frm]
noncomputable def stL(sb db:Nat)(S:StM)(mb:Nat)(RA:Option Addr)(rc:Nat)(EA:Option Addr)(ec ib tb:Nat)(fpd:List Nat):List Ent:=
 [eB sb 109 (stC db S mb RA rc EA ec ib tb),eMx kcI ptX Tryz.prog 3 mb S.pool.length (atM S.pool),eA (S.pool.map fq),eM (S.rows.map dM),eO 27 8 (.slice RA S.recs.length rc) S.recs.length (S.recs.flatMap rcC),
  eO 3 1 (.slice EA S.recs.length ec) S.recs.length ((cy S.L S.recs.length).map (Value.int .i64)),eRc S.rr,eMx kcI ecB Tryz.prog 3 ib S.ni S.im,eMx kcI ecB Tryz.prog 3 tb S.nt S.told,eDk db S.D fpd]
def eSt(sb db:Nat)(S:StM)(fp:List Nat):Ent:=⟨fp,fun W=>((∀t∈S.pool,t.pg∈S.rows)/\∀t∈S.recs,t∈S.rr)/\∃mb RA rc EA ec ib tb fpd,fp=(stL sb db S mb RA rc EA ec ib tb fpd).flatMap (·.fp)/\(stL sb db S mb RA rc EA ec ib tb fpd).Pairwise Ent.apart/\∀e∈stL sb db S mb RA rc EA ec ib tb fpd,e.holds W/\e.loc⟩
theorem dx(sb db:Nat)(S:StM)(fp:List Nat):(eSt sb db S fp).loc:=fun W W' hk h=>by
 obtain⟨h0,mb,RA,rc,EA,ec,ib,tb,fpd,h1,h2,h3⟩:=h
 exact⟨h0,mb,RA,rc,EA,ec,ib,tb,fpd,h1,h2,fun e he=>⟨(h3 e he).2 W W' (fun k hk'=>hk k (by rw[eSt,h1];exact List.mem_flatMap.2 ⟨e,he,hk'⟩)) (h3 e he).1,(h3 e he).2⟩⟩
theorem gW{e:Ent}{S:StM}(h:e=eSt sb db S fp):e=eSt sb db S e.fp:=by subst h;rfl
theorem St.st{L:List Ent}{S:StM}{fpd:List Nat}(h:St w0 bor (L++stL sb db S mb RA rc EA ec ib tb fpd) W)(h1:∀t∈S.pool,t.pg∈S.rows)(h2:∀t∈S.recs,t∈S.rr):∃fp,St w0 bor (L++[eSt sb db S fp]) W:=by
 refine⟨_,St.pack (E:=eSt sb db S ((stL sb db S mb RA rc EA ec ib tb fpd).flatMap (·.fp))) h rfl ⟨⟨h1,h2⟩,mb,RA,rc,EA,ec,ib,tb,fpd,rfl,(List.pairwise_append.1 h.apart).2.1,fun e he=>?_⟩ (dx _ _ _ _)⟩
 have h3:=h.ok e (List.mem_append_right _ he)
 exact⟨h3.holds,h3.loc⟩
theorem St.unst{L:List Ent}{S:StM}(h:St w0 bor (L++[eSt sb db S fp]) W):((∀t∈S.pool,t.pg∈S.rows)/\∀t∈S.recs,t∈S.rr)/\∃mb RA rc EA ec ib tb fpd,St w0 bor (L++stL sb db S mb RA rc EA ec ib tb fpd) W:=by
 obtain⟨h0,mb,RA,rc,EA,ec,ib,tb,fpd,h1,h2,h3⟩:=(h.ok (eSt sb db S fp) (by simp)).holds
 exact⟨h0,mb,RA,rc,EA,ec,ib,tb,fpd,h.unpackL h1 h3 h2⟩
def eSx(sb db:Nat)(Φ:StM->Prop)(fp:List Nat):Ent:=⟨fp,fun W=>∃S,Φ S/\(eSt sb db S fp).holds W⟩
theorem vL(sb db:Nat)(Φ:StM->Prop)(fp:List Nat):(eSx sb db Φ fp).loc:=fun W W' hk h=>let ⟨S,h1,h2⟩:=h;⟨S,h1,dx sb db S fp W W' hk h2⟩
theorem fN{e:Ent}{Φ:StM->Prop}(h:e=eSx sb db Φ fp):e=eSx sb db Φ e.fp:=by subst h;rfl
theorem St.sx{L:List Ent}{Φ:StM->Prop}{S:StM}(h:St w0 bor (L++[eSt sb db S fp]) W)(hS:Φ S):St w0 bor (L++[eSx sb db Φ fp]) W:=St.repl (L2:=[]) h rfl (fun h1=>⟨S,hS,h1⟩) (vL _ _ _ _)
theorem St.unsx{L:List Ent}{Φ:StM->Prop}(h:St w0 bor (L++[eSx sb db Φ fp]) W):∃S,Φ S/\St w0 bor (L++[eSt sb db S fp]) W:=by
 obtain⟨S,h1,h2⟩:=(h.ok (eSx sb db Φ fp) (by simp)).holds
 exact⟨S,h1,St.repl (L2:=[]) h rfl (fun _=>h2) (dx _ _ _ _)⟩
theorem St.outB{L:List Ent}{A B:List BfT}{t:BfT}(h:St w0 bor (L++[eA ((A++t::B).map fq)]) W):St w0 bor (L++[eA ((A++B).map fq),fq t]) W:=by
 rw[List.map_append] at h |-
 exact St.outA h
theorem St.inB{L:List Ent}{A B:List BfT}{t:BfT}(h:St w0 bor (L++[eA ((A++B).map fq),fq t]) W):St w0 bor (L++[eA ((A++t::B).map fq)]) W:=by
 rw[List.map_append] at h |-
 exact St.inA h
theorem jd{rows:List PgR}(h:(eM (rows.map dM)).holds W){r:PgR}(hr:r∈rows):At W r.A (r.p.2.2.map Value.string):=At.of_own (h (dM r) (List.mem_map.2 ⟨_,hr,rfl⟩)).1
theorem St.absP{L:List Ent}{S:StM}{r:PgR}(h:St w0 bor (L++[dM r,eSt sb db S fp]) W):∃fp',St w0 bor (L++[eSt sb db {S with rows:=S.rows++[r]} fp']) W:=by
 have h0:St w0 bor ((L++[dM r])++[eSt sb db S fp]) W:=by rw[List.append_assoc];exact h
 obtain⟨⟨h1,h2⟩,mb,RA,rc,EA,ec,ib,tb,fpd,h3⟩:=h0.unst
 have h4:St w0 bor ((L++[eB sb 109 (stC db S mb RA rc EA ec ib tb),eMx kcI ptX Tryz.prog 3 mb S.pool.length (atM S.pool),eA (S.pool.map fq),eO 27 8 (.slice RA S.recs.length rc) S.recs.length (S.recs.flatMap rcC),eO 3 1 (.slice EA S.recs.length ec) S.recs.length ((cy S.L S.recs.length).map (Value.int .i64)),eRc S.rr,eMx kcI ecB Tryz.prog 3 ib S.ni S.im,eMx kcI ecB Tryz.prog 3 tb S.nt S.told,eDk db S.D fpd])++[eM (S.rows.map dM),dM r]) W:=h3.perm (by
  simp only[List.append_assoc]
  refine List.Perm.append_left L ?_
  show List.Perm [dM r,eB _ _ _,eMx _ _ _ _ _ _ _,eA _,eM _,eO _ _ _ _ _,eO _ _ _ _ _,eRc _,eMx _ _ _ _ _ _ _,eMx _ _ _ _ _ _ _,eDk _ _ _] [eB _ _ _,eMx _ _ _ _ _ _ _,eA _,eO _ _ _ _ _,eO _ _ _ _ _,eRc _,eMx _ _ _ _ _ _ _,eMx _ _ _ _ _ _ _,eDk _ _ _,eM _,dM r]
  refine(List.perm_append_comm (l₁:=[dM r]) (l₂:=[_,_,_,_,_,_,_,_,_,_])).trans ?_
  refine List.Perm.cons _ (List.Perm.cons _ (List.Perm.cons _ ?_))
  exact(List.perm_append_comm (l₁:=[_]) (l₂:=[_,_,_,_,_,_])).append_right [dM r])
 have h5:=h4.merge
 have h6:St w0 bor (L++stL sb db {S with rows:=S.rows++[r]} mb RA rc EA ec ib tb fpd) W:=h5.perm (by
  rw[List.append_assoc]
  refine List.Perm.append_left L ?_
  show List.Perm [eB _ _ _,eMx _ _ _ _ _ _ _,eA _,eO _ _ _ _ _,eO _ _ _ _ _,eRc _,eMx _ _ _ _ _ _ _,eMx _ _ _ _ _ _ _,eDk _ _ _,eM _] [eB _ _ _,eMx _ _ _ _ _ _ _,eA _,eM (List.map dM (S.rows++[r])),eO _ _ _ _ _,eO _ _ _ _ _,eRc _,eMx _ _ _ _ _ _ _,eMx _ _ _ _ _ _ _,eDk _ _ _]
  refine List.Perm.cons _ (List.Perm.cons _ (List.Perm.cons _ ?_))
  rw[List.map_append]
  exact List.perm_append_comm (l₁:=[_,_,_,_,_,_]) (l₂:=[_]))
 exact h6.st (S:={S with rows:=S.rows++[r]}) (fun t ht=>List.mem_append_left _ (h1 t ht)) h2
theorem St.absR{L:List Ent}{S:StM}{r:RcT}(h:St w0 bor (L++[gU r,eSt sb db S fp]) W):∃fp',St w0 bor (L++[eSt sb db {S with rr:=S.rr++[r]} fp']) W:=by
 have h0:St w0 bor ((L++[gU r])++[eSt sb db S fp]) W:=by rw[List.append_assoc];exact h
 obtain⟨⟨h1,h2⟩,mb,RA,rc,EA,ec,ib,tb,fpd,h3⟩:=h0.unst
 have h4:St w0 bor ((L++[eB sb 109 (stC db S mb RA rc EA ec ib tb),eMx kcI ptX Tryz.prog 3 mb S.pool.length (atM S.pool),eA (S.pool.map fq),eM (S.rows.map dM),eO 27 8 (.slice RA S.recs.length rc) S.recs.length (S.recs.flatMap rcC),eO 3 1 (.slice EA S.recs.length ec) S.recs.length ((cy S.L S.recs.length).map (Value.int .i64)),eMx kcI ecB Tryz.prog 3 ib S.ni S.im,eMx kcI ecB Tryz.prog 3 tb S.nt S.told,eDk db S.D fpd])++[eRc S.rr,gU r]) W:=h3.perm (by
  simp only[List.append_assoc]
  refine List.Perm.append_left L ?_
  show List.Perm [gU r,eB _ _ _,eMx _ _ _ _ _ _ _,eA _,eM _,eO _ _ _ _ _,eO _ _ _ _ _,eRc _,eMx _ _ _ _ _ _ _,eMx _ _ _ _ _ _ _,eDk _ _ _] [eB _ _ _,eMx _ _ _ _ _ _ _,eA _,eM _,eO _ _ _ _ _,eO _ _ _ _ _,eMx _ _ _ _ _ _ _,eMx _ _ _ _ _ _ _,eDk _ _ _,eRc _,gU r]
  refine(List.perm_append_comm (l₁:=[gU r]) (l₂:=[_,_,_,_,_,_,_,_,_,_])).trans ?_
  refine List.Perm.cons _ (List.Perm.cons _ (List.Perm.cons _ (List.Perm.cons _ (List.Perm.cons _ (List.Perm.cons _ ?_)))))
  exact(List.perm_append_comm (l₁:=[_]) (l₂:=[_,_,_])).append_right [gU r])
 have h5:=h4.mergeR
 have h6:St w0 bor (L++stL sb db {S with rr:=S.rr++[r]} mb RA rc EA ec ib tb fpd) W:=h5.perm (by
  rw[List.append_assoc]
  refine List.Perm.append_left L ?_
  show List.Perm [eB _ _ _,eMx _ _ _ _ _ _ _,eA _,eM _,eO _ _ _ _ _,eO _ _ _ _ _,eMx _ _ _ _ _ _ _,eMx _ _ _ _ _ _ _,eDk _ _ _,eRc (S.rr++[r])] [eB _ _ _,eMx _ _ _ _ _ _ _,eA _,eM _,eO _ _ _ _ _,eO _ _ _ _ _,eRc _,eMx _ _ _ _ _ _ _,eMx _ _ _ _ _ _ _,eDk _ _ _]
  refine List.Perm.cons _ (List.Perm.cons _ (List.Perm.cons _ (List.Perm.cons _ (List.Perm.cons _ (List.Perm.cons _ ?_)))))
  exact List.perm_append_comm (l₁:=[_,_,_]) (l₂:=[_]))
 exact h6.st (S:={S with rr:=S.rr++[r]}) h1 (fun t ht=>List.mem_append_left _ (h2 t ht))
theorem lw{A B:List BfT}{t:BfT}(h:((A++t::B).map BfT.n).Nodup):atM (A++t::B) t.n=some (some t.blk):=by
 rw[List.map_append,List.map_cons] at h
 have h1:A.find? (fun u=>u.n==t.n)=none:=by
  rw[List.find?_eq_none]
  intro u hu hc
  have h2:=(List.nodup_append.1 h).2.2 u.n (List.mem_map.2 ⟨u,hu,rfl⟩) t.n (by simp)
  exact h2 (by simpa using hc)
 rw[atM,List.find?_append,h1]
 simp
theorem kD{l:List BfT}{n:Int}(h:∀t∈l,t.n≠n):atM l n=none:=by
 rw[atM,List.find?_eq_none.2 (fun t ht=>by simpa using h t ht)];rfl
theorem GS{l:List BfT}{n:Int}{v:Option Nat}(h:atM l n=some v):∃t∈l,t.n=n/\v=some t.blk:=by
 rw[atM] at h
 obtain⟨t,h1,rfl⟩:=Option.map_eq_some_iff.1 h
 exact⟨t,List.mem_of_find?_eq_some h1,by simpa using List.find?_some h1,rfl⟩
theorem AH(l:List BfT)(n:Int):(∀t∈l,t.n≠n)\/∃A t B,l=A++t::B/\t.n=n:=by
 by_cases h:∃t∈l,t.n=n
 obtain⟨t,ht,hn⟩:=h
 obtain⟨A,B,e⟩:=List.append_of_mem ht
 exact .inr ⟨A,t,B,e,hn⟩
 exact .inl fun t ht hn=>h ⟨t,ht,hn⟩
theorem kr{A B:List BfT}{t:BfT}(h:((A++t::B).map BfT.n).Nodup)(f:BfT->BfT):de (A++t::B) t.n f=A++f t::B:=by
 rw[List.map_append,List.map_cons] at h
 have h1:=List.nodup_append.1 h
 have h2:=List.nodup_cons.1 h1.2.1
 have hid:∀l:List BfT,(∀u∈l,u.n≠t.n)->l.map (fun u=>if u.n=t.n then f u else u)=l:=fun l hl=>by
  conv=>rhs;rw[<-List.map_id l]
  exact List.map_congr_left fun u hu=>by rw[if_neg (hl u hu)];rfl
 rw[de,List.map_append,List.map_cons,if_pos rfl,hid A (fun u hu e=>h1.2.2 u.n (List.mem_map.2 ⟨u,hu,rfl⟩) t.n (by simp) e),hid B (fun u hu e=>h2.1 (List.mem_map.2 ⟨u,hu,e⟩))]
theorem AP{A B:List BfT}{t:BfT}(h:((A++t::B).map BfT.n).Nodup):rmB (A++t::B) t.n=A++B:=by
 rw[List.map_append,List.map_cons] at h
 have h1:=List.nodup_append.1 h
 have h2:=List.nodup_cons.1 h1.2.1
 have hid:∀l:List BfT,(∀u∈l,u.n≠t.n)->l.filter (fun u=>u.n != t.n)=l:=fun l hl=>List.filter_eq_self.2 fun u hu=>by simpa using hl u hu
 rw[rmB,List.filter_append,List.filter_cons,if_neg (by simp),hid A (fun u hu e=>h1.2.2 u.n (List.mem_map.2 ⟨u,hu,rfl⟩) t.n (by simp) e),hid B (fun u hu e=>h2.1 (List.mem_map.2 ⟨u,hu,e⟩))]
theorem og{A B:List BfT}{t u:BfT}(hn:u.n=t.n)(hb:u.blk=t.blk):atM (A++u::B)=atM (A++t::B):=by
 funext x
 rw[atM,atM,List.find?_append,List.find?_append,List.find?_cons,List.find?_cons,hn]
 cases A.find? (fun t=>t.n==x) with
 |some v=>rfl
 |none=>
  cases hx:t.n==x with
  |true=>simp[hb]
  |false=>simp
end
section
open Go.RowKit Go.Maps Go.ChangeMaps
def jR(S:StM)(pg:PgR):StM:={S with rows:=S.rows++[pg]}
section
variable{w0 W:World}{bor:List Nat}{L:List Ent}{a0 a1 a2 a3 a4 a5 a6 a7 a8 a9 a10 a11 a12 a13 a14 a15 a16 a17 a18 a19 x:Ent}
theorem St.c0(h:St w0 bor (x::L) W):St w0 bor L W:=⟨h.upd,fun e he=>h.ok e (List.mem_cons_of_mem _ he),(List.pairwise_cons.1 h.apart).2⟩
theorem St.fr{E:Ent}{R:List Ent}(h:St w0 bor (R++L) W)(f:∀{L'},St w0 bor (L'++R) W->St w0 bor (L'++[E]) W):St w0 bor (E::L) W:=(f (h.perm List.perm_append_comm)).perm (List.perm_append_singleton _ _)
theorem St.u1(h:St w0 bor (a0::x::L) W):St w0 bor (x::a0::L) W:=h.perm (List.perm_middle (l₁:=[a0]))
theorem St.u2(h:St w0 bor (a0::a1::x::L) W):St w0 bor (x::a0::a1::L) W:=h.perm (List.perm_middle (l₁:=[a0,a1]))
theorem St.u3(h:St w0 bor (a0::a1::a2::x::L) W):St w0 bor (x::a0::a1::a2::L) W:=h.perm (List.perm_middle (l₁:=[a0,a1,a2]))
theorem St.u4(h:St w0 bor (a0::a1::a2::a3::x::L) W):St w0 bor (x::a0::a1::a2::a3::L) W:=h.perm (List.perm_middle (l₁:=[a0,a1,a2,a3]))
theorem St.u5(h:St w0 bor (a0::a1::a2::a3::a4::x::L) W):St w0 bor (x::a0::a1::a2::a3::a4::L) W:=h.perm (List.perm_middle (l₁:=[a0,a1,a2,a3,a4]))
theorem St.u6(h:St w0 bor (a0::a1::a2::a3::a4::a5::x::L) W):St w0 bor (x::a0::a1::a2::a3::a4::a5::L) W:=h.perm (List.perm_middle (l₁:=[a0,a1,a2,a3,a4,a5]))
theorem St.u7(h:St w0 bor (a0::a1::a2::a3::a4::a5::a6::x::L) W):St w0 bor (x::a0::a1::a2::a3::a4::a5::a6::L) W:=h.perm (List.perm_middle (l₁:=[a0,a1,a2,a3,a4,a5,a6]))
theorem St.u8(h:St w0 bor (a0::a1::a2::a3::a4::a5::a6::a7::x::L) W):St w0 bor (x::a0::a1::a2::a3::a4::a5::a6::a7::L) W:=h.perm (List.perm_middle (l₁:=[a0,a1,a2,a3,a4,a5,a6,a7]))
theorem St.u9(h:St w0 bor (a0::a1::a2::a3::a4::a5::a6::a7::a8::x::L) W):St w0 bor (x::a0::a1::a2::a3::a4::a5::a6::a7::a8::L) W:=h.perm (List.perm_middle (l₁:=[a0,a1,a2,a3,a4,a5,a6,a7,a8]))
theorem St.u10(h:St w0 bor (a0::a1::a2::a3::a4::a5::a6::a7::a8::a9::x::L) W):St w0 bor (x::a0::a1::a2::a3::a4::a5::a6::a7::a8::a9::L) W:=h.perm (List.perm_middle (l₁:=[a0,a1,a2,a3,a4,a5,a6,a7,a8,a9]))
theorem St.u11(h:St w0 bor (a0::a1::a2::a3::a4::a5::a6::a7::a8::a9::a10::x::L) W):St w0 bor (x::a0::a1::a2::a3::a4::a5::a6::a7::a8::a9::a10::L) W:=h.perm (List.perm_middle (l₁:=[a0,a1,a2,a3,a4,a5,a6,a7,a8,a9,a10]))
theorem St.u13(h:St w0 bor (a0::a1::a2::a3::a4::a5::a6::a7::a8::a9::a10::a11::a12::x::L) W):St w0 bor (x::a0::a1::a2::a3::a4::a5::a6::a7::a8::a9::a10::a11::a12::L) W:=h.perm (List.perm_middle (l₁:=[a0,a1,a2,a3,a4,a5,a6,a7,a8,a9,a10,a11,a12]))
theorem St.u14(h:St w0 bor (a0::a1::a2::a3::a4::a5::a6::a7::a8::a9::a10::a11::a12::a13::x::L) W):St w0 bor (x::a0::a1::a2::a3::a4::a5::a6::a7::a8::a9::a10::a11::a12::a13::L) W:=h.perm (List.perm_middle (l₁:=[a0,a1,a2,a3,a4,a5,a6,a7,a8,a9,a10,a11,a12,a13]))
theorem St.u16(h:St w0 bor (a0::a1::a2::a3::a4::a5::a6::a7::a8::a9::a10::a11::a12::a13::a14::a15::x::L) W):St w0 bor (x::a0::a1::a2::a3::a4::a5::a6::a7::a8::a9::a10::a11::a12::a13::a14::a15::L) W:=h.perm (List.perm_middle (l₁:=[a0,a1,a2,a3,a4,a5,a6,a7,a8,a9,a10,a11,a12,a13,a14,a15]))
variable{sb db:Nat}{S:StM}{fp:List Nat}
theorem St.unf(h:St w0 bor (eSt sb db S fp::L) W):((∀t∈S.pool,t.pg∈S.rows)/\∀t∈S.recs,t∈S.rr)/\∃mb RA rc EA ec ib tb fpd,St w0 bor (eB sb 109 #[vp db,vi S.bufs,.map (some mb),vi S.time,.slice RA S.recs.length rc,.slice EA S.recs.length ec,.map (some ib),.map (some tb),vi S.frm]::eMx kcI ptX Tryz.prog 3 mb S.pool.length (atM S.pool)::eA (List.map fq S.pool)::eM (List.map dM S.rows)::eO 27 8 (.slice RA S.recs.length rc) S.recs.length (S.recs.flatMap rcC)::eO 3 1 (.slice EA S.recs.length ec) S.recs.length ((cy S.L S.recs.length).map (Value.int .i64))::eRc S.rr::eMx kcI ecB Tryz.prog 3 ib S.ni S.im::eMx kcI ecB Tryz.prog 3 tb S.nt S.told::eDk db S.D fpd::L) W:=by
 obtain⟨h0,mb,RA,rc,EA,ec,ib,tb,fpd,h1⟩:=St.unst (h.perm (List.perm_append_singleton _ L).symm)
 exact⟨h0,mb,RA,rc,EA,ec,ib,tb,fpd,h1.perm List.perm_append_comm⟩
theorem St.stf{fpd:List Nat}(h:St w0 bor (stL sb db S mb RA rc EA ec ib tb fpd++L) W)(h1:∀t∈S.pool,t.pg∈S.rows)(h2:∀t∈S.recs,t∈S.rr):∃fp,St w0 bor (eSt sb db S fp::L) W:=by
 obtain⟨fp,h3⟩:=St.st (h.perm List.perm_append_comm) h1 h2
 exact⟨fp,h3.perm (List.perm_append_singleton _ _)⟩
theorem St.unx{Φ:StM->Prop}(h:St w0 bor (eSx sb db Φ fp::L) W):∃S,Φ S/\St w0 bor (eSt sb db S fp::L) W:=by
 obtain⟨S,h1,h2⟩:=St.unsx (h.perm (List.perm_append_singleton _ L).symm)
 exact⟨S,h1,h2.perm (List.perm_append_singleton _ _)⟩
theorem St.obf{A B:List BfT}{t:BfT}(h:St w0 bor (eA (List.map fq (A++t::B))::L) W):St w0 bor (eA (List.map fq (A++B))::eB t.blk 120 #[vi t.pg.p.1,vi t.pg.p.2.1,.slice t.pg.A t.pg.p.2.2.length t.pg.c,.bool t.dirty,vi t.used]::L) W:=
 (St.outB (h.perm (List.perm_append_singleton _ L).symm)).perm List.perm_append_comm
theorem St.ibf{A B:List BfT}{t:BfT}(h:St w0 bor (eA (List.map fq (A++B))::fq t::L) W):St w0 bor (eA (List.map fq (A++t::B))::L) W:=St.fr (R:=[_,_]) h St.inB
theorem St.apf{l:List PgR}{r:PgR}(h:St w0 bor (eM (List.map dM l)::dM r::L) W):St w0 bor (eM (List.map dM (l++[r]))::L) W:=St.fr (R:=[_,_]) h (fun h=>by rw[List.map_append];exact St.merge h)
theorem St.abf{l:List BfT}{t:BfT}(h:St w0 bor (eA (List.map fq l)::fq t::L) W):St w0 bor (eA (List.map fq (l++[t]))::L) W:=St.ibf (A:=l) (B:=[]) (by rw[List.append_nil];exact h)
theorem St.erf{n:Nat}(h:St w0 bor (eRx P k b r n m left cnt cur::L) W):St w0 bor (eMx kcI ptX P k b n m::L) W:=(St.endRx (h.perm (List.perm_append_singleton _ L).symm)).perm (List.perm_append_singleton _ _)
theorem St.nA{α:Type}(f:α->Ent)(h:St w0 bor L W):St w0 bor (eA (List.map f [])::L) W:=(St.packA (R:=[]) (by rw[List.append_nil];exact h)).perm (List.perm_append_singleton _ _)
theorem St.nM{α:Type}(f:α->Ent)(h:St w0 bor L W):St w0 bor (eM (List.map f [])::L) W:=h.emNil.perm (List.perm_append_singleton _ _)
theorem St.rPf{r:PgR}(h:St w0 bor (dM r::eSt sb db S fp::L) W):∃fp',St w0 bor (eSt sb db (jR S r) fp'::L) W:=by
 obtain⟨f,h1⟩:=St.absP (L:=L) (h.perm (List.perm_append_comm (l₁:=[_,_])))
 exact⟨f,h1.perm (List.perm_append_singleton _ _)⟩
theorem St.rRn{r:RcT}(h:St w0 bor (gU r::eSt sb db S fp::L) W):∃S2 fp',{S with rr:=S.rr++[r]}=S2/\St w0 bor (eSt sb db S2 fp'::L) W:=by
 obtain⟨f,h1⟩:=St.absR (L:=L) (h.perm (List.perm_append_comm (l₁:=[_,_])))
 exact⟨_,f,rfl,h1.perm (List.perm_append_singleton _ _)⟩
end
end
section
open Go.RowKit
def jZ(W:World)(A:Option Addr)(xs:List Value):Prop:=(A=none/\xs=[])\/∃g,A=some ⟨g,0,none⟩/\At W A xs
theorem jZ.ext{A:Option Addr}(h:jZ W A xs)(hx:Ext W W'):jZ W' A xs:=h.imp id fun⟨g,h1,h3⟩=>⟨g,h1,h3.ext hx⟩
theorem jZ.own{A:Option Addr}{n c:Nat}{e:TypeId}(h:W.ownsRow base e 1 (.slice A n c) n xs):jZ W A xs:=by
 have hA:=At.of_own h
 have hl:=h.1
 rcases h.2 with ⟨hv,h0⟩|⟨g,cap,cur,hv,_⟩
 injection hv with h1 h2 h3
 exact .inl ⟨h1,List.eq_nil_of_length_eq_zero (by omega)⟩
 injection hv with h1 h2 h3
 exact .inr ⟨g,h1,hA⟩
structure StO (W:World) (sb db:Nat) (S:StM) (mb:Nat) (RA:Option Addr) (rc:Nat) (EA:Option Addr) (ec ib tb:Nat):Prop where
 blk:Blk W sb 109 (stC db S mb RA rc EA ec ib tb)
 dk:jz W db S.D
 recs:At W RA (S.recs.flatMap rcC)
 ends:jZ W EA ((cy S.L S.recs.length).map (Value.int .i64))
 own:∀t∈S.rr,At W t.A (t.r.eds.flatMap edC)
def lN(W:World)(sb db:Nat)(S:StM):Prop:=∃mb RA rc EA ec ib tb,StO W sb db S mb RA rc EA ec ib tb
theorem StO.blkL{S:StM}(h:StO W sb db S mb RA rc EA ec ib tb):Blk W sb 109 #[po db 0,.int .i64 S.bufs,.map (some mb),.int .i64 S.time,.slice RA S.recs.length rc,.slice EA S.recs.length ec,.map (some ib),.map (some tb),.int .i64 S.frm]:=h.blk
theorem StO.ext{S:StM}(h:StO W sb db S mb RA rc EA ec ib tb)(hx:Ext W W'):StO W' sb db S mb RA rc EA ec ib tb:=⟨h.blk.ext hx,h.dk.ext hx,h.recs.ext hx,h.ends.ext hx,fun t ht=>(h.own t ht).ext hx⟩
theorem lN.ext{S:StM}(h:lN W sb db S)(hx:Ext W W'):lN W' sb db S:=let ⟨mb,RA,rc,EA,ec,ib,tb,h1⟩:=h;⟨mb,RA,rc,EA,ec,ib,tb,h1.ext hx⟩
theorem Ef{sb db:Nat}{S:StM}{mb:Nat}{RA:Option Addr}{rc:Nat}{EA:Option Addr}{ec ib tb:Nat}{fpd:List Nat}(h:∀e∈stL sb db S mb RA rc EA ec ib tb fpd,e.holds W):StO W sb db S mb RA rc EA ec ib tb:=
 ⟨h (eB sb 109 (stC db S mb RA rc EA ec ib tb)) (by simp[stL]),fb (h (eDk db S.D fpd) (by simp[stL])),At.of_ownN (h (eO 27 8 (.slice RA S.recs.length rc) S.recs.length (S.recs.flatMap rcC)) (by simp[stL])),
  jZ.own (h (eO 3 1 (.slice EA S.recs.length ec) S.recs.length ((cy S.L S.recs.length).map (Value.int .i64))) (by simp[stL])),fun t ht=>dW (h (eRc S.rr) (by simp[stL])) ht⟩
theorem qq{S:StM}(h:(eSt sb db S fp).holds W):lN W sb db S:=by
 obtain⟨_,mb,RA,rc,EA,ec,ib,tb,fpd,_,_,h3⟩:=h
 exact⟨mb,RA,rc,EA,ec,ib,tb,Ef fun e he=>(h3 e he).1⟩
theorem yl(L:List RecM){j:Nat}(h:i<=j):szF (L.take i)<=szF (L.take j):=by
 have e:L.take j=L.take i++(L.take j).drop i:=by
  have h1:=List.take_append_drop i (L.take j)
  rw[List.take_take,Nat.min_eq_left h] at h1
  exact h1.symm
 rw[e,szF,szF,List.map_append,List.sum_append]
 omega
theorem Ab(L:List RecM)(j:Nat):(cy L j).Pairwise (·<=·):=by
 rw[cy,List.pairwise_map]
 refine List.Pairwise.imp ?_ (List.pairwise_lt_range (n:=j))
 intro a b h
 have h1:=yl L (i:=a+1) (j:=b+1) (by omega)
 omega
theorem xB(EA:Option Addr)(ec:Nat)(L:List RecM)(x:Int)(w:World)(hA:jZ w EA ((cy L L.length).map (Value.int .i64)))(hL:L.length<4611686018427387904):
  Calls Tryz.prog 67 #[.slice EA L.length ec,.int .i64 x] w (fun e w'=>∃b,Ret (.tuple #[.int .i64 (((cy L L.length).countP (·<x):Nat):Int),.bool b]) w e w'):=by
 rcases Nat.eq_zero_or_pos L.length with h0|h0
 obtain rfl:L=[]:=List.eq_nil_of_length_eq_zero h0
 refine(Tryz.slices_BinarySearch_int_empty EA ec x w).mono ?_
 rintro e w' ⟨rfl,rfl⟩
 exact⟨false,Ret.of rfl (Ext.refl _)⟩
 rcases hA with ⟨_,h1⟩|⟨g,rfl,hA⟩
 have:=congrArg List.length h1
 rw[List.length_map,ku] at this
 have h2:L.length=0:=this
 omega
 refine(Tryz.slices_BinarySearch_int g 0 L.length ec (cy L L.length) x w (by rw[ku];exact Nat.le_refl _) hL (fun j hj=>?_) ?_).mono ?_
 obtain⟨ad,e1,_,e3⟩:=hA j (.int .i64 ((cy L L.length).getD j 0)) (by rw[List.getElem?_map,List.getD_eq_getElem?_getD,List.getElem?_eq_getElem hj];rfl)
 cases e1
 rw[Addr.add_lit] at e3
 exact e3
 rw[List.take_of_length_le (by rw[ku];exact Nat.le_refl _)];exact Ab _ _
 rintro e w' ⟨rfl,q,rfl⟩
 rw[List.take_of_length_le (by rw[ku];exact Nat.le_refl _)]
 exact⟨_,Ret.of rfl ((Ext.refl w).drewN _)⟩
def tB1:Value->Bool
 | .tuple a=>(match (a.getD 1 undef) with| .bool b=>b|_=>false)
 |_=>false
theorem Gd{S:StM}(h:jZ W EA ((cy S.L S.recs.length).map (Value.int .i64))):jZ W EA ((cy S.L S.L.length).map (Value.int .i64)):=by
 rw[StM.L,List.length_map];exact h
theorem Lq{S:StM}{x:Int}{Q:Ending->World->Prop}(h:Calls Tryz.prog 67 #[.slice EA S.L.length ec,.int .i64 x] w Q):Calls Tryz.prog 67 #[.slice EA S.recs.length ec,.int .i64 x] w Q:=by
 rw[StM.L,List.length_map] at h;exact h
theorem Jr(sb db:Nat)(S:StM)(mb:Nat)(RA:Option Addr)(rc:Nat)(EA:Option Addr)(ec ib tb:Nat)(w:World)(hB:StO w sb db S mb RA rc EA ec ib tb):
  Calls Tryz.prog 45 #[po sb 0] w (Ret (.int .i64 S.frm) w):=by
 go_enter Tryz.func45,Tryz.ntmps45
 have al:=St.start w
 refine wq (sqr (sqp [.k 2 (vi 0)] ?_))
 refine aa (wq (wq (sqr (sqp [.m 3 0] ?_))))
 refine sqv (.bool false) al (by
   exact sv0 rfl rfl rfl rfl rfl (fun _ _ _ h=>h) fun c g W X cx=>by
    have gw:c (.tmp 3)=vp sb:=(cx.ou 3)
    simp[go_sem,cx.sees.const,gw]) fun W3 bc=>?_
 refine aa (wcf rfl (wp_skip (aa (wq (sqr (sqp [.m 5 0,.k 6 (vp sb),.k 7 (po sb 8)] ?_))))))
 refine sql (vi S.frm) bc (fun cx=>ae rfl (by kernel_rfl) (cx.ou 7) ((Blk.ext hB.blkL cx.upd.to_ext).cell 8)) ?_
 refine sqp [.m 2 8] ?_
 refine aa (wp_ret ?_)
 refine bpr (vi S.frm) (ai Tryz.results45 rpt) ?_
 exact Ret.of rfl bc.ext
theorem F6(sb db:Nat)(S:StM)(mb:Nat)(RA:Option Addr)(rc:Nat)(EA:Option Addr)(ec ib tb:Nat)(w:World)(hB:StO w sb db S mb RA rc EA ec ib tb):
  Calls Tryz.prog 24 #[po sb 0] w (Ret (.int .i64 (S.D.pgs.length:Int)) w):=by
 go_enter Tryz.func24,Tryz.ntmps24
 have al:=St.start w
 refine wq (sqr (sqp [.k 2 (vi 0)] ?_))
 refine aa (wq (wq (sqr (sqp [.m 3 0] ?_))))
 refine sqv (.bool false) al (by
   exact sv0 rfl rfl rfl rfl rfl (fun _ _ _ h=>h) fun c g W X cx=>by
    have gw:c (.tmp 3)=vp sb:=(cx.ou 3)
    simp[go_sem,cx.sees.const,gw]) fun W3 bc=>?_
 refine aa (wcf rfl (wp_skip (aa (wq (sqr (sqp [.m 5 0,.k 6 (vp sb),.k 7 (vp sb)] ?_))))))
 refine sql (vp db) bc (fun cx=>ae rfl (by kernel_rfl) (cx.ou 7) ((Blk.ext hB.blkL cx.upd.to_ext).cell 0)) ?_
 refine sqk (vi ((S.D.pgs.length:Int))) bc (fun cx=>⟨_,BI db S.D _ (hB.dk.ext cx.upd.to_ext),(ax (cx.ou 8))⟩) fun W8 dO=>?_
 refine sqp [.m 2 9] ?_
 refine aa (wp_ret ?_)
 refine bpr (vi ((S.D.pgs.length:Int))) (ai Tryz.results24 rpt) ?_
 exact Ret.of rfl dO.ext
theorem tD(sb db:Nat)(S:StM)(mb:Nat)(RA:Option Addr)(rc:Nat)(EA:Option Addr)(ec ib tb:Nat)(w:World)(hB:StO w sb db S mb RA rc EA ec ib tb)(hL0:S.L.length<4611686018427387904)(hfl:S.D.fl<=10000000):
  Calls Tryz.prog 26 #[po sb 0] w (Ret (.int .i64 (S.F:Int)) w):=by
 go_enter Tryz.func26,Tryz.ntmps26
 have al:=St.start w
 refine wq (sqr (sqp [.k 2 (vi 0)] ?_))
 refine aa (wq (wq (sqr (sqp [.m 5 0] ?_))))
 refine sqv (.bool false) al (by
   exact sv0 rfl rfl rfl rfl rfl (fun _ _ _ h=>h) fun n g W X cx=>by
    have qO:n (.tmp 5)=vp sb:=(cx.ou 5)
    simp[go_sem,cx.sees.const,qO]) fun W3 bc=>?_
 refine aa (wcf rfl (wp_skip (aa (wq (aH [0,1,3,7,0,16,48,112,240,496,1023,2047,4095,4095,8191,32767] [] [] [] [.k 8 (vp sb),.k 9 (vp sb),.k 10 (po sb 5),.c 11 (.slice EA S.recs.length ec),.k 12 (vp sb),.k 13 (vp sb),.k 14 (vp sb),.c 15 (vp db),.c 16 (vi ((S.D.fl:Int))),tI 17 ((S.D.fl:Int)+1) (by omega),.a 18,.a 7,.c 19 (vi ((S.F:Int))),.a 20,.k 3 (vi ((S.F:Int))),.a 4] (fun ix j g X=>match ix with|0|1|2|3|4|5|6|7|8|9=>True|10=>j 18= .tuple #[vi ((S.F:Int)),.bool (tB1 (g 18))]|11=>j 7= .tuple #[vi ((S.F:Int)),.bool (tB1 (g 18))]|12=>True|13=>j 20= .bool (tB1 (g 18))|14=>True|15=>j 4= .bool (tB1 (g 18))|_=>True) [] [3,7,8,10,11,12,13,15] [(3,14,2,5),(2,11,1,3),(0,0,11,11),(0,12,2,2)] bc ?_ ?_ ?_)))))
 exact fun ix _ _ _ _ _ _ hs hb hx h=>match ix,h with
 |10,h=>by dsimp only;rw[<-hs 18 rfl,<-hb 18 rfl];exact h
 |11,h=>by dsimp only;rw[<-hs 7 rfl,<-hb 18 rfl];exact h
 |13,h=>by dsimp only;rw[<-hs 20 rfl,<-hb 18 rfl];exact h
 |15,h=>by dsimp only;rw[<-hs 4 rfl,<-hb 18 rfl];exact h
 |0,_|1,_|2,_|3,_|4,_|5,_|6,_|7,_|8,_|9,_|12,_|14,_|_+16,_=>trivial
 refine⟨?_,?_,?_,?_,?_,?_,?_,?_,trivial⟩
 exact xs4 rfl id fun cx=>ae rfl (by kernel_rfl) (cx.an 2) ((Blk.ext hB.blkL cx.upd.to_ext).cell 5)
 exact xs4 rfl id fun cx=>ae rfl (by kernel_rfl) (cx.an 6) ((Blk.ext hB.blkL cx.upd.to_ext).cell 0)
 exact xsc rfl id rfl rfl fun cx=>⟨_,xR db S.D _ (hB.dk.ext cx.upd.to_ext),(ax (cx.an 7))⟩
 refine svA fun n g W X cx=>?_
 refine am.call (aq (args:=#[.slice EA S.recs.length ec,vi ((S.D.fl:Int)+1)]) rfl cx.sees rfl (by kernel_rfl) (aP (cx.an 3) (cx.an 9))) ?_
 refine(Lq (xB EA ec S.L ((S.D.fl:Int)+1) _ (Gd (hB.ends.ext cx.upd.to_ext)) hL0)).mono ?_
 rintro e W1 ⟨b4,rfl,hx⟩
 refine⟨_,rfl,bL [] rfl rfl hx (by simp) List.Pairwise.nil (fun j p X' hs hb hv hN=>?_)⟩
 have aK:=(hv 18 rfl).1;have aW:=(hv 18 rfl).2
 exact aK.trans (by rw[aW];exact rfl)
 exact sv rfl rfl rfl rfl rfl _ (fun _ _ _ h=>h) (fun g p h=>by rw[h 18 (by decide)]) fun n g W X cx=>dn rfl (dTn (cx.an 10))
 exact xs4 rfl id fun cx=>b8 rfl (dTn (cx.an 11)) rfl
 exact sv rfl rfl rfl rfl rfl _ (fun _ _ _ h=>h) (fun g p h=>by rw[h 18 (by decide)]) fun n g W X cx=>b8 rfl (dTn (cx.an 11)) rfl
 exact sv rfl rfl rfl rfl rfl _ (fun _ _ _ h=>h) (fun g p h=>by rw[h 18 (by decide)]) fun n g W X cx=>dm rfl (dTn (cx.an 13))
 intro j g X W4 hD be fr aG
 simp only[ed 18 ((dTn (hD 10 lq))),ed 7 ((dTn (hD 11 lq))),ed 20 ((dTn (hD 13 lq))),ed 4 ((dTn (hD 15 lq)))] at aG
 generalize tB1 (g 18)=Rw at aG
 clear hD;subst aG;clear j g X
 refine aa (wq (sqr (sqp [.m 21 3,.m 2 21] ?_)))
 refine aa (wp_ret ?_)
 refine bpr (vi ((S.F:Int))) (ai Tryz.results26 rpt) ?_
 exact Ret.of rfl be.ext
theorem DD(sb db:Nat)(S:StM)(w:World)(h:lN w sb db S):Calls Tryz.prog 45 #[po sb 0] w (Ret (.int .i64 S.frm) w):=by
 obtain⟨mb,RA,rc,EA,ec,ib,tb,h1⟩:=h
 exact Jr sb db S mb RA rc EA ec ib tb w h1
theorem oO(sb db:Nat)(S:StM)(w:World)(h:lN w sb db S):Calls Tryz.prog 24 #[po sb 0] w (Ret (.int .i64 (S.D.pgs.length:Int)) w):=by
 obtain⟨mb,RA,rc,EA,ec,ib,tb,h1⟩:=h
 exact F6 sb db S mb RA rc EA ec ib tb w h1
theorem xL(sb db:Nat)(S:StM)(w:World)(h:lN w sb db S)(hL0:S.L.length<4611686018427387904)(hfl:S.D.fl<=10000000):Calls Tryz.prog 26 #[po sb 0] w (Ret (.int .i64 (S.F:Int)) w):=by
 obtain⟨mb,RA,rc,EA,ec,ib,tb,h1⟩:=h
 exact tD sb db S mb RA rc EA ec ib tb w h1 hL0 hfl
theorem J2(sb db:Nat)(S:StM)(mb:Nat)(RA:Option Addr)(rc:Nat)(EA:Option Addr)(ec ib tb:Nat)(k:Nat)(rt:RcT)(w:World)(hB:StO w sb db S mb RA rc EA ec ib tb)(hk:S.frm=(k:Int)+1)(hrt:S.recs[k]? =some rt)(hL0:S.recs.length<4611686018427387904):
  Calls Tryz.prog 25 #[po sb 0] w (Ret (.string rt.r.note) w):=by
 have hbk:Blk w sb 109 #[po db 0,.int .i64 S.bufs,.map (some mb),.int .i64 S.time,.slice RA S.recs.length rc,.slice EA S.recs.length ec,.map (some ib),.map (some tb),.int .i64 ((k:Int)+1)]:=by rw[<-hk];exact hB.blkL
 have hkl:=(List.getElem?_eq_some_iff.1 hrt).1
 go_enter Tryz.func25,Tryz.ntmps25
 have al:=St.start w
 refine wq (sqr (sqp [.k 2 (.string ⟨#[]⟩)] ?_))
 refine aa (wq (wq (sqr (sqp [.m 3 0] ?_))))
 refine sqv (.bool false) al (by
   exact sv0 rfl rfl rfl rfl rfl (fun _ _ _ h=>h) fun g j W X cx=>by
    have gw:g (.tmp 3)=vp sb:=(cx.ou 3)
    simp[go_sem,cx.sees.const,gw]) fun W3 bc=>?_
 refine aa (wcf rfl (wp_skip (aa (wq (bG [0,1,3,7,0,16,48,112,240,511,1023,2047,4095] [] [.k 5 (vp sb),.k 6 (vp sb),.k 7 (po sb 4),.c 8 (.slice RA S.recs.length rc),.k 9 (vp sb),.k 10 (vp sb),.k 11 (po sb 8),.c 12 (vi ((k:Int)+1)),tJ 13 (((k:Int)+1)-1) (k:Int) (by omega) (by omega),.c 14 (.pointer (some ((ad RA).add (k*8)))),.c 15 (.pointer (some ((ad RA).add (k*8+7)))),.c 16 (.string rt.r.note),.k 2 (.string rt.r.note)] [] [3,7,9,10,11] [(2,12,1,3),(2,0,12,14)] bc ?_ fun W4 be=>?_)))))
 refine⟨?_,?_,?_,?_,?_,trivial⟩
 exact xs4 rfl id fun cx=>ae rfl (by kernel_rfl) (cx.an 2) ((Blk.ext hbk cx.upd.to_ext).cell 4)
 exact xs4 rfl id fun cx=>ae rfl (by kernel_rfl) (cx.an 6) ((Blk.ext hbk cx.upd.to_ext).cell 8)
 exact xs4 rfl id fun cx=>aI (e:=27) (m:=k) (sz:=8) rfl (by kernel_rfl) (by kernel_rfl) (cx.an 3) (cx.an 8) (by omega) (by omega) (hB.recs.ext cx.upd.to_ext) (bq (sz:=8) cL (by decide) (by omega))
 exact xs4 rfl id fun cx=>br rfl (by kernel_rfl) (cx.an 9)
 exact xs4 rfl id fun cx=>ae rfl (by kernel_rfl) (cx.an 10) (At.eltc (f:=rcC) (k:=7) cL (hB.recs.ext cx.upd.to_ext) hrt rfl)
 refine aa (wp_ret ?_)
 refine bpr (.string rt.r.note) (ai Tryz.results25 rpt) ?_
 exact Ret.of rfl be.ext
theorem Dc(sb db:Nat)(S:StM)(k:Nat)(rt:RcT)(w:World)(h:lN w sb db S)(hk:S.frm=(k:Int)+1)(hrt:S.recs[k]? =some rt)(hL0:S.recs.length<4611686018427387904):Calls Tryz.prog 25 #[po sb 0] w (Ret (.string rt.r.note) w):=by
 obtain⟨mb,RA,rc,EA,ec,ib,tb,h1⟩:=h
 exact J2 sb db S mb RA rc EA ec ib tb k rt w h1 hk hrt hL0
end
section
open Go.RowKit
def ea(sb db:Nat)(R:StM×Int)(fp:List Nat)(w:World)(e:Ending)(w':World):Prop:=e= .returned (.int .i64 R.2)/\∃fp',St w fp [eSt sb db R.1 fp'] w'
theorem ea.of{R R':StM×Int}{fp':List Nat}(h:R=R')(hs:St w fp ([]++[eSt sb db R'.1 fp']) w'):ea sb db R fp w (.returned (.int .i64 R'.2)) w':=by
 subst h;exact⟨rfl,_,hs⟩
theorem Gr{S:StM}{t:BfT}(h:(S.F:Int)<t.pg.p.2.1)(h2:(opD S.D 0 flD).2≠0):bK S t=({S with D:=(opD S.D 0 flD).1},(opD S.D 0 flD).2):=by
 have e:wrD0 S t=opD S.D 0 flD:=if_pos h
 rw[bK,e,if_pos h2]
theorem x6{S:StM}{t:BfT}{D1:DkM}(h:wrD0 S t=(D1,0)){R:DkM×Int}(hR:opD D1 (wrE D1 t.n (aE t.pg.p)) (wrD t.n (aE t.pg.p))=R)(h2:R.2≠0):bK S t=({S with D:=R.1},R.2):=by
 subst hR
 rw[bK,h,if_neg (by simp)]
 dsimp only
 rw[if_neg h2]
theorem yH{S:StM}{A B:List BfT}{t:BfT}{D1:DkM}(h:wrD0 S t=(D1,0)){R:DkM×Int}(hR:opD D1 (wrE D1 t.n (aE t.pg.p)) (wrD t.n (aE t.pg.p))=R)(h2:R.2=0)(hp:S.pool=A++t::B)(hd:((A++t::B).map BfT.n).Nodup):bK S t=({S with D:=R.1,pool:=A++clB t::B},R.2):=by
 subst hR
 rw[bK,h,if_neg (by simp)]
 dsimp only
 rw[if_pos h2,hp,kr hd]
theorem KF{S:StM}{t:BfT}(h:¬(S.F:Int)<t.pg.p.2.1):wrD0 S t=(S.D,0):=if_neg h
theorem HE{S:StM}{t:BfT}(h:(S.F:Int)<t.pg.p.2.1)(h2:(opD S.D 0 flD).2=0):wrD0 S t=((opD S.D 0 flD).1,0):=by
 rw[wrD0,if_pos h];exact Prod.ext rfl h2
theorem sM(D:DkM):(opD D 0 flD).1.pgs=D.pgs:=by unfold opD;split<;>first|rfl|(split<;>first|rfl|(split<;>rfl))
theorem Ez{S:StM}{A B:List BfT}{t:BfT}(hAB:S.pool=A++t::B)(hrw:∀t∈S.pool,t.pg∈S.rows):∀u∈A++clB t::B,u.pg∈S.rows:=fun u hu=>by
 rcases List.mem_append.1 hu with h|h
 exact hrw u (by rw[hAB];simp[h])
 rcases List.mem_cons.1 h with rfl|h
 exact hrw t (by rw[hAB];simp)
 exact hrw u (by rw[hAB];simp[h])
theorem ul(sb db:Nat)(S:StM)(A B:List BfT)(t:BfT)(c:Nat)(fp:List Nat)(w:World)(hB:(eSt sb db S fp).holds w)(hlt:∀k∈fp,k<w.heap.size)(hok:SOk S c)(hc:c<=900000000)(hAB:S.pool=A++t::B):
  Calls Tryz.prog 138 #[po sb 0,.int .i64 t.n,po t.blk 0] w (ea sb db (bK S t) fp w):=by
 have st1:St w fp [eSt sb db S fp] w:=St.lend hB (dx _ _ _ _) hlt
 go_enter Tryz.func138,Tryz.ntmps138
 have al:=st1
 obtain⟨⟨hrw,hrr⟩,mb,RA,rc,EA,ec,ib,tb,fpd,hv1_⟩:=al.unf
 rw[hAB] at hv1_
 have ho2_:=St.obf (t:=t) hv1_.u2
 have htm:t∈S.pool:=by rw[hAB];simp
 have hri:=hok.right t htm
 have hrt:=hrw t htm
 have hw:∀x∈S.D.pgs,x.ws.length<=1000000000:=fun x hx=>Nat.le_trans (hok.ws x hx) (by omega)
 have hlz:=hok.lsz
 have hfz:=hok.fl
 have hll:S.L.length<=1048576:=by have h1:=oz hok.recs;have h2:=hok.log;have h3:=congrArg ByteArray.size h2;rw[ck] at h3;omega
 have hrpp:=cC hri.1
 refine wq (sqr (sqp [.k 6 (vi 0)] ?_))
 refine aa (wq (wq (bG [0,1,3,7,15,0,32,127] [[],[],[],[],[1],[],[2,10,5,6,7]] [.k 10 (po t.blk 0),.k 11 (po t.blk 0),.k 12 (po t.blk 0),.k 13 (po t.blk 1),.c 14 (vi t.pg.p.2.1),.k 15 (vp sb),.c 16 (vi ((S.F:Int))),.k 17 (.bool (decide ((S.F:Int)<t.pg.p.2.1)))] [0,1,2,3,4,5,6,7,8,9,10] [4,6] [(10,0,8,18)] ho2_ ?_ fun W4 be=>?_)))
 refine⟨?_,?_,trivial⟩
 exact xs4 rfl id fun cx=>ae rfl (by kernel_rfl) (cx.an 3) ((cx.bi 1 rfl).cell 1)
 exact xsc rfl id rfl rfl fun cx=>⟨_,xL sb db S _ ⟨_,_,_,_,_,_,_,⟨(cx.bi 2 rfl),fb (CtxV.holdF cx (cx.init 10 _ rfl) rfl),At.of_ownN (cx.ri 5 rfl),jZ.own (cx.ri 6 rfl),fun t ht=>dW (CtxV.holdF cx (cx.init 7 _ rfl) rfl) ht⟩⟩ (by omega) (by omega),(ax (cx.an 5))⟩
 refine aa (wds (fun eX Pt=>?_) fun eX Pt=>?_)
 refine wq (sqr (sqp [.m 18 0,.k 19 (vp sb),.k 20 (vp sb)] ?_))
 refine av 2 be ?_
 refine bN (fun X_=>X_.fp) (vi ((opD S.D 0 flD).2)) (fun zl=>eDk db ((opD S.D 0 flD).1) zl) 10 be (by
   refine svA fun h v W X cx=>?_
   refine am.call (aq (args:=#[vp db]) rfl cx.sees rfl (by kernel_rfl) (ax (cx.ou 21))) ?_
   refine(lX db S.D _ _ (CtxV.holdF cx (cx.init 10 _ rfl) rfl) (CtxV.ltF cx (cx.init 10 _ rfl) rfl) (by omega)).mono ?_
   rintro e W1 ⟨rfl,fp4,aU⟩
   refine⟨_,rfl,aN (E:=eDk db S.D fpd) [eDk db (opD S.D 0 flD).1 fp4] (cx.init 10 _ rfl) rfl rfl aU (fun g j X' hs hb hv hN=>?_)⟩
   have aK:=(hv 22 rfl).1;have aW:=(hv 22 rfl).2
   exact⟨aK.trans rfl,cJ ((List.cons.inj hN).1)⟩) fun zl wY dR=>?_
 refine sqp [.m 7 22] ?_
 refine aa (wq (sqr (sqp [.m 23 7,.k 24 (.bool (((opD S.D 0 flD).2) != 0))] ?_)))
 refine aa (wbs (fun gN=>?_) fun gN=>?_)
 have pC:=bne_iff_ne.1 gN
 refine wq (sqr (sqp [.m 25 7,.m 6 25] ?_))
 refine aa (wp_ret (aj ?_))
 refine bpr (vi ((opD S.D 0 flD).2)) (ai Tryz.results138 rpt) ?_
 have hi17_:=St.ibf (t:=t) dR
 obtain⟨fp18_,hk18_⟩:=St.stf (S:={S with D:=(opD S.D 0 flD).1}) (by have h_:=hi17_.u2.u2;rw[<-hAB] at h_;exact h_) (hrw) (hrr)
 exact ea.of (Gr (of_decide_eq_true eX) (by simpa using gN)) hk18_
 have pC:=bne_eq_false_iff_eq.1 gN
 refine wp_skip (aa (wq ?_))
 have hD1:=HE (of_decide_eq_true eX) (by simpa using gN)
 have hw2:∀x∈(opD S.D 0 flD).1.pgs,x.ws.length<=1000000000:=by rw[sM];exact hw
 refine sqr (sqp [.m 27 2,.k 28 (po t.blk 0),.k 29 (po t.blk 0)] ?_)
 refine bE 1 3 dR ?_
 refine sqk (.tuple #[.string (aE t.pg.p),vi 0]) dR (fun cx=>⟨_,nx (lx hri) _ _ _ (jd (CtxV.holdF cx (cx.init 4 _ rfl) rfl) hrt) (ek hri.1),(ax (cx.ou 30))⟩) fun uF cG=>?_
 refine sqp [.m 26 31,.k 32 (.string (aE t.pg.p)),.k 33 (vi 0),.m 8 32,.m 9 33] ?_
 refine aa (wq (wq (sqr (sqp [.m 34 9,.k 35 (.bool true)] ?_))))
 refine aa (wct rfl (sqr (sqp [.m 36 0,.k 37 (vp sb),.k 38 (vp sb)] ?_)))
 refine av 2 cG ?_
 refine sqp [.m 40 1,.m 41 8] ?_
 refine bN (fun X_=>X_.fp) (vi ((opD ((opD S.D 0 flD).1) (wrE ((opD S.D 0 flD).1) t.n (aE t.pg.p)) (wrD t.n (aE t.pg.p))).2)) (fun Fs=>eDk db ((opD ((opD S.D 0 flD).1) (wrE ((opD S.D 0 flD).1) t.n (aE t.pg.p)) (wrD t.n (aE t.pg.p))).1) Fs) 10 cG (by
   refine svA fun h v W X cx=>?_
   refine am.call (aq (args:=#[vp db,vi t.n,.string (aE t.pg.p)]) rfl cx.sees rfl (by kernel_rfl) (dN (cx.ou 39) (cx.ou 40) (cx.ou 41))) ?_
   refine(ua db ((opD S.D 0 flD).1) t.n (aE t.pg.p) _ _ (CtxV.holdF cx (cx.init 10 _ rfl) rfl) (CtxV.ltF cx (cx.init 10 _ rfl) rfl) hw2).mono ?_
   rintro e W1 ⟨rfl,fp4,aU⟩
   refine⟨_,rfl,aN (E:=eDk db ((opD S.D 0 flD).1) zl) [eDk db (opD ((opD S.D 0 flD).1) (wrE ((opD S.D 0 flD).1) t.n (aE t.pg.p)) (wrD t.n (aE t.pg.p))).1 fp4] (cx.init 10 _ rfl) rfl rfl aU (fun g j X' hs hb hv hN=>?_)⟩
   have aK:=(hv 42 rfl).1;have aW:=(hv 42 rfl).2
   exact⟨aK.trans rfl,cJ ((List.cons.inj hN).1)⟩) fun Fs IR g9=>?_
 refine sqp [.m 9 42] ?_
 refine aa (wq (wq (sqr (sqp [.m 43 9,.k 44 (.bool (((opD ((opD S.D 0 flD).1) (wrE ((opD S.D 0 flD).1) t.n (aE t.pg.p)) (wrD t.n (aE t.pg.p))).2)==0))] ?_))))
 refine aa (wbs (fun lS=>?_) fun lS=>?_)
 have CJ:=beq_iff_eq.1 lS
 refine sqr (sqp [.m 45 2,.k 46 (po t.blk 0),.k 47 (po t.blk 3)] ?_)
 refine aV (n:=1) 1 #[vi t.pg.p.1,vi t.pg.p.2.1,.slice t.pg.A t.pg.p.2.2.length t.pg.c,.bool false,vi t.used] g9 fun Qz CH=>?_
 refine aa (wq (sqr (sqp [.m 48 9,.m 6 48] ?_)))
 refine aa (wp_ret ?_)
 refine bpr (vi ((opD ((opD S.D 0 flD).1) (wrE ((opD S.D 0 flD).1) t.n (aE t.pg.p)) (wrD t.n (aE t.pg.p))).2)) (ai Tryz.results138 rpt) ?_
 have hi48_:=St.ibf (t:=(clB t)) CH
 obtain⟨fp49_,hk49_⟩:=St.stf (S:={S with D:=(opD ((opD S.D 0 flD).1) (wrE ((opD S.D 0 flD).1) t.n (aE t.pg.p)) (wrD t.n (aE t.pg.p))).1,pool:=A++clB t::B}) (by have h_:=hi48_.u2.u2;rw[<-og (A:=A) (B:=B) (t:=t) (u:=clB t) rfl rfl,show (A++t::B).length=(A++clB t::B).length by simp] at h_;exact h_) (fun u hu=>Ez hAB hrw u hu) (hrr)
 exact ea.of (yH hD1 rfl (by simpa using lS) hAB (by rw[<-hAB];exact hok.nodup)) hk49_
 have CJ:=beq_eq_false_iff_ne.1 lS
 refine wp_skip (aa (wq (sqr (sqp [.m 48 9,.m 6 48] ?_))))
 refine aa (wp_ret ?_)
 refine bpr (vi ((opD ((opD S.D 0 flD).1) (wrE ((opD S.D 0 flD).1) t.n (aE t.pg.p)) (wrD t.n (aE t.pg.p))).2)) (ai Tryz.results138 rpt) ?_
 have hi52_:=St.ibf (t:=t) g9
 obtain⟨fp53_,hk53_⟩:=St.stf (S:={S with D:=(opD ((opD S.D 0 flD).1) (wrE ((opD S.D 0 flD).1) t.n (aE t.pg.p)) (wrD t.n (aE t.pg.p))).1}) (by have h_:=hi52_.u2.u2;rw[<-hAB] at h_;exact h_) (hrw) (hrr)
 exact ea.of (x6 hD1 rfl (by simpa using lS)) hk53_
 refine wp_skip (aa (wq ?_))
 have hD1:=KF (of_decide_eq_false eX)
 refine sqr (sqp [.m 27 2,.k 28 (po t.blk 0),.k 29 (po t.blk 0)] ?_)
 refine bE 1 3 be ?_
 refine sqk (.tuple #[.string (aE t.pg.p),vi 0]) be (fun cx=>⟨_,nx (lx hri) _ _ _ (jd (CtxV.holdF cx (cx.init 4 _ rfl) rfl) hrt) (ek hri.1),(ax (cx.ou 30))⟩) fun IT kh=>?_
 refine sqp [.m 26 31,.k 32 (.string (aE t.pg.p)),.k 33 (vi 0),.m 8 32,.m 9 33] ?_
 refine aa (wq (wq (sqr (sqp [.m 34 9,.k 35 (.bool true)] ?_))))
 refine aa (wct rfl (sqr (sqp [.m 36 0,.k 37 (vp sb),.k 38 (vp sb)] ?_)))
 refine av 2 kh ?_
 refine sqp [.m 40 1,.m 41 8] ?_
 refine bN (fun X_=>X_.fp) (vi ((opD S.D (wrE S.D t.n (aE t.pg.p)) (wrD t.n (aE t.pg.p))).2)) (fun Ft=>eDk db ((opD S.D (wrE S.D t.n (aE t.pg.p)) (wrD t.n (aE t.pg.p))).1) Ft) 10 kh (by
   refine svA fun h v W X cx=>?_
   refine am.call (aq (args:=#[vp db,vi t.n,.string (aE t.pg.p)]) rfl cx.sees rfl (by kernel_rfl) (dN (cx.ou 39) (cx.ou 40) (cx.ou 41))) ?_
   refine(ua db S.D t.n (aE t.pg.p) _ _ (CtxV.holdF cx (cx.init 10 _ rfl) rfl) (CtxV.ltF cx (cx.init 10 _ rfl) rfl) hw).mono ?_
   rintro e W1 ⟨rfl,fp4,aU⟩
   refine⟨_,rfl,aN (E:=eDk db S.D fpd) [eDk db (opD S.D (wrE S.D t.n (aE t.pg.p)) (wrD t.n (aE t.pg.p))).1 fp4] (cx.init 10 _ rfl) rfl rfl aU (fun g j X' hs hb hv hN=>?_)⟩
   have aK:=(hv 42 rfl).1;have aW:=(hv 42 rfl).2
   exact⟨aK.trans rfl,cJ ((List.cons.inj hN).1)⟩) fun Ft OV rJ=>?_
 refine sqp [.m 9 42] ?_
 refine aa (wq (wq (sqr (sqp [.m 43 9,.k 44 (.bool (((opD S.D (wrE S.D t.n (aE t.pg.p)) (wrD t.n (aE t.pg.p))).2)==0))] ?_))))
 refine aa (wbs (fun zm=>?_) fun zm=>?_)
 have N0:=beq_iff_eq.1 zm
 refine sqr (sqp [.m 45 2,.k 46 (po t.blk 0),.k 47 (po t.blk 3)] ?_)
 refine aV (n:=1) 1 #[vi t.pg.p.1,vi t.pg.p.2.1,.slice t.pg.A t.pg.p.2.2.length t.pg.c,.bool false,vi t.used] rJ fun OO pz=>?_
 refine aa (wq (sqr (sqp [.m 48 9,.m 6 48] ?_)))
 refine aa (wp_ret ?_)
 refine bpr (vi ((opD S.D (wrE S.D t.n (aE t.pg.p)) (wrD t.n (aE t.pg.p))).2)) (ai Tryz.results138 rpt) ?_
 have hi83_:=St.ibf (t:=(clB t)) pz
 obtain⟨fp84_,hk84_⟩:=St.stf (S:={S with D:=(opD S.D (wrE S.D t.n (aE t.pg.p)) (wrD t.n (aE t.pg.p))).1,pool:=A++clB t::B}) (by have h_:=hi83_.u2.u2;rw[<-og (A:=A) (B:=B) (t:=t) (u:=clB t) rfl rfl,show (A++t::B).length=(A++clB t::B).length by simp] at h_;exact h_) (fun u hu=>Ez hAB hrw u hu) (hrr)
 exact ea.of (yH hD1 rfl (by simpa using zm) hAB (by rw[<-hAB];exact hok.nodup)) hk84_
 have N0:=beq_eq_false_iff_ne.1 zm
 refine wp_skip (aa (wq (sqr (sqp [.m 48 9,.m 6 48] ?_))))
 refine aa (wp_ret ?_)
 refine bpr (vi ((opD S.D (wrE S.D t.n (aE t.pg.p)) (wrD t.n (aE t.pg.p))).2)) (ai Tryz.results138 rpt) ?_
 have hi87_:=St.ibf (t:=t) rJ
 obtain⟨fp88_,hk88_⟩:=St.stf (S:={S with D:=(opD S.D (wrE S.D t.n (aE t.pg.p)) (wrD t.n (aE t.pg.p))).1}) (by have h_:=hi87_.u2.u2;rw[<-hAB] at h_;exact h_) (hrw) (hrr)
 exact ea.of (x6 hD1 rfl (by simpa using zm)) hk88_
theorem ud(sb db:Nat)(S:StM)(A B:List BfT)(t:BfT)(c:Nat)(fp:List Nat)(w:World)(hB:(eSt sb db S fp).holds w)(hlt:∀k∈fp,k<w.heap.size)(hok:SOk S c)(hc:c<=900000000)(hAB:S.pool=A++t::B):
  Calls Tryz.prog 72 #[po sb 0,.int .i64 t.n] w (ea sb db (aM S t) fp w):=by
 have st1:St w fp [eSt sb db S fp] w:=St.lend hB (dx _ _ _ _) hlt
 go_enter Tryz.func72,Tryz.ntmps72
 have al:=st1
 obtain⟨⟨hrw,hrr⟩,mb,RA,rc,EA,ec,ib,tb,fpd,hv1_⟩:=al.unf
 rw[hAB] at hv1_
 have ho2_:=St.obf (t:=t) hv1_.u2
 have htm:t∈S.pool:=by rw[hAB];simp
 have hki:kcI.ok t.n:=by have:=hok.keys t htm;have:=hok.pgs;constructor<;>omega
 have hnd:((A++t::B).map BfT.n).Nodup:=by rw[<-hAB];exact hok.nodup
 refine wq (sqr (sqp [.k 4 (vi 0)] ?_))
 refine aa (wq (wq (sqr (sqp [.m 6 0,.k 7 (vp sb),.k 8 (po sb 2)] ?_))))
 refine av 2 ho2_ ?_
 refine sqp [.m 10 1] ?_
 refine sql (po t.blk 0) ho2_ (fun cx=>(da (e:=115) (C:=ptX) (K:=kcI) (x:=t.n) rfl (cx.ou 9) (cx.ou 10) (CtxV.mx cx (cx.init 3 _ rfl) rfl) (h0:=by rfl) (hx:=hki) (hk:=show Program.underlying _ _= _ from by kernel_rfl)).trans (by rw[lw hnd];rfl)) ?_
 refine sqp [.m 5 11] ?_
 refine aa (wq (sqr (sqp [.m 12 5,.k 13 (po t.blk 0),.k 14 (po t.blk 3)] ?_)))
 refine av 1 ho2_ ?_
 refine aa (wbs (fun dJ=>?_) fun dJ=>?_)
 refine wq ?_
 have hi16_:=St.ibf (t:=t) ho2_
 obtain⟨fp17_,hk17_⟩:=St.stf (S:=S) (by have h_:=hi16_.u2.u2;rw[<-hAB] at h_;exact h_) (hrw) (hrr)
 refine sqr (sqp [.m 16 0,.m 17 1,.m 18 5] ?_)
 refine bN (fun X_=>X_.fp) (vi ((bK S t).2)) (fun uS=>eSt sb db ((bK S t).1) uS) 0 hk17_ (by
   refine svA fun h p W X cx=>?_
   refine am.call (aq (args:=#[vp sb,vi t.n,po t.blk 0]) rfl cx.sees rfl (by kernel_rfl) (dN (cx.ou 16) (cx.ou 17) (cx.ou 18))) ?_
   refine(ul sb db S A B t c _ _ (CtxV.holdF cx (cx.init 0 _ rfl) rfl) (CtxV.ltF cx (cx.init 0 _ rfl) rfl) hok hc hAB).mono ?_
   rintro e W1 ⟨rfl,fp4,aU⟩
   refine⟨_,rfl,aN (E:=eSt sb db S fp17_) [eSt sb db (bK S t).1 fp4] (cx.init 0 _ rfl) rfl rfl aU (fun g j X' hs hb hv hN=>?_)⟩
   have aK:=(hv 19 rfl).1;have aW:=(hv 19 rfl).2
   exact⟨aK.trans rfl,gW ((List.cons.inj hN).1)⟩) fun uS sa ef=>?_
 refine sqp [.m 4 19] ?_
 refine aa (wp_ret (aj ?_))
 refine bpr (vi ((bK S t).2)) (ai Tryz.results72 rpt) ?_
 exact ea.of (by rw[aM,if_pos dJ]) ef
 refine wp_skip (aa (wq (sqr (sqp [.k 4 (vi 0)] ?_))))
 refine aa (wp_ret ?_)
 refine bpr (vi 0) (ai Tryz.results72 rpt) ?_
 have hi24_:=St.ibf (t:=t) ho2_
 obtain⟨fp25_,hk25_⟩:=St.stf (S:=S) (by have h_:=hi24_.u2.u2;rw[<-hAB] at h_;exact h_) (hrw) (hrr)
 exact ea.of (R':=(S,0)) (by rw[aM,if_neg (by rw[dJ];decide)]) hk25_
end
end Go.Proofs.YtcdjaepgahbhfaaGreat
import Derived.Test.YtcdjaepgahbhfaaGreatZ3
import Derived.RangeFuncBox
import Derived.RangeFuncBound
import Derived.RangeFuncCalls
import Derived.RangeFuncLeaves
import Derived.TacticsIn
import Derived.OrdersIn
import Derived.LoopNIn
set_option linter.unusedVariables false
set_option linter.unusedSimpArgs false
set_option maxRecDepth 100000
set_option maxHeartbeats 16000000
namespace Go.Proofs.YtcdjaepgahbhfaaGreat
variable{B P0 Ps Ps2:List ShT}{EA PA RA:Option Addr}{K:Act->World->Prop}{P:Program}{Pc b base cnt d db e ec i ib id k l mb off q q' r rc sb sz tb:Nat}{Q:Exit->Act->World->Prop}{W W' w w0:World}{X0:List Ent}{a:Act}{args:Array Value}{bor fp pre:List Nat}{cur:Option (Int×Option Nat)}{d0:List Deferred}{dr:Bool}{f:FuncId}{left:Int->Bool}{lsn:Int}{m:Int->Option (Option Nat)}{o:Oper}{ops:Array Oper}{s:ByteArray}{t:ShT}{t0 xs:List Value}{x y:Operand}
section
open Go.RowKit
theorem St.with1{L:List Ent}{b2 t2:Nat}{c2:Array Value}(h:St w bor L w)(h2:Blk w b2 t2 c2)(n2:b2∉bor)(hL:∀e∈L,∀k∈e.fp,k∈bor):St w (b2::bor) (L++[eB b2 t2 c2]) w:=by
 refine⟨Upd.refl _ _,fun x hx=>?_,?_⟩
 rcases List.mem_append.1 hx with hx|hx
 have h4:=h.ok x hx
 exact⟨h4.holds,h4.loc,fun k hk=>⟨(h4.own k hk).1.imp (fun z=>by simp[z]) id,(h4.own k hk).2⟩⟩
 rw[List.mem_singleton] at hx
 subst hx
 exact⟨h2,d7 _ _ _,fun k hk=>⟨.inl (by simp[eB] at hk;simp[hk]),by simp[eB] at hk;subst hk;exact h2.lt⟩⟩
 refine List.pairwise_append.2 ⟨h.apart,List.pairwise_singleton _ _,fun x hx y hy k hk hk2=>?_⟩
 have h5:=hL x hx k hk
 rw[List.mem_singleton] at hy
 subst hy
 simp[eB] at hk2
 subst hk2
 exact n2 h5
theorem St.less1{L:List Ent}{b2 t2:Nat}{c2:Array Value}(h:St w (b2::bor) (L++[eB b2 t2 c2]) W)(h2:Blk w b2 t2 c2):St w bor L W:=by
 have k2:Blk W b2 t2 c2:=(h.ok (eB b2 t2 c2) (by simp)).holds
 have ha:=List.pairwise_append.1 h.apart
 refine⟨⟨h.upd.os,h.upd.tape,h.upd.output,h.upd.size,fun k hk hn=>?_⟩,fun x hx=>?_,ha.1⟩
 by_cases e2:k=b2
 subst e2;exact k2.trans h2.symm
 exact h.upd.block k hk (by simp;exact⟨e2,hn⟩)
 have h4:=h.ok x (List.mem_append_left _ hx)
 refine⟨h4.holds,h4.loc,fun k hk=>⟨?_,(h4.own k hk).2⟩⟩
 have n2:k≠b2:=fun e=>ha.2.2 x hx (eB b2 t2 c2) (by simp) k hk (by simp[eB,e])
 rcases(h4.own k hk).1 with h5|h5
 simp only[List.mem_cons] at h5
 rcases h5 with h5|h5
 exact absurd h5 n2
 exact .inl h5
 exact .inr h5
theorem wH(w:World):
  Calls Tryz.prog 131 #[] w (Ret (.int .i64 0) w):=by
 go_enter Tryz.func131,Tryz.ntmps131
 have aj:=St.start w
 refine wq (sqr (sqp [.k 0 (vi 0)] ?_))
 refine aa (wq (sqr (sqp [.k 0 (vi 0)] ?_)))
 refine aa (wp_ret ?_)
 refine bpr (vi 0) (ag Tryz.results131 rpt) ?_
 exact Ret.of rfl aj.ext
theorem GZ(b b2:Nat)(D:DkM)(fp:List Nat)(w:World)(hB:(eDk b D fp).holds w)(hlt:∀k∈fp,k<w.heap.size)(h2:Blk w b2 30 #[po b 0])(n2:b2∉fp)(hz:D.log.size<=10000000):
  Calls Tryz.prog 132 #[po b2 0] w (mf b (flD D) fp w):=by
 have st1:=St.lend hB (dV _ _ _) hlt
 obtain⟨PA,Pc,GA,gc,Ps,Qs,hps,hsub,hfp,hap,hall⟩:=hB
 have st0:=St.unpack st1 hfp hall hap
 have st2:St w (b2::fp) [eB b 100 #[.slice PA D.pgs.length Pc,.slice GA D.log.size gc,.int .i64 ((D.fl:Int)),.bool D.off,.bool D.armed,.int .i64 D.left],eO 144 513 (.slice PA D.pgs.length Pc) D.pgs.length (Ps.flatMap shC),eO 5 1 (.slice GA D.log.size gc) D.log.size ((bp D.log).map (Value.int .u8)),eWs Qs,eB b2 30 #[po b 0]] w:=St.with1 st0 h2 n2 (fun e he k hk=>by rw[show fp=(eDk b D fp).fp from rfl,show (eDk b D fp).fp= _ from hfp];exact List.mem_flatMap.2 ⟨e,he,hk⟩)
 go_enter Tryz.func132,Tryz.ntmps132
 have aj:=st2
 refine aG [0,0,2,6,14,30,63,127,255] [[4],[4],[],[],[0],[],[],[],[0]] [[],[],[],[],[],[],[],[],[5]] [[],[],[],[],[],[],[],[],[0]] [.c 1 (vp b),.c 2 (vp b),.k 3 (vp b),.k 4 (po b 1),.c 5 (.slice GA D.log.size gc),.k 6 (vi ((D.log.size:Int))),.k 7 (vp b),.k 8 (po b 2),.n] (fun ix j g X=>match ix with|0|1|2|3|4|5|6|7=>True|8=>X 5=eB b 100 #[.slice PA D.pgs.length Pc,.slice GA D.log.size gc,vi ((D.log.size:Int)),.bool D.off,.bool D.armed,vi D.left]|_=>True) [1,2,3,4,5] [0,1,4,8] [(1,0,8,9)] aj ?_ ?_ ?_
 exact fun ix _ _ _ _ _ _ hs hb hx h=>match ix,h with
 |8,h=>by dsimp only;rw[<-hx 5 rfl];exact h
 |0,_|1,_|2,_|3,_|4,_|5,_|6,_|7,_|_+9,_=>trivial
 refine⟨?_,?_,?_,?_,trivial⟩
 exact xs4 rfl id fun cx=>ae rfl (by kernel_rfl) (cx.ou 0) ((cx.bi 4 rfl).cell 0)
 exact xs4 rfl id fun cx=>ae rfl (by kernel_rfl) (cx.ou 0) ((cx.bi 4 rfl).cell 0)
 exact xs4 rfl id fun cx=>ae rfl (by kernel_rfl) (cx.an 3) ((cx.bi 0 rfl).cell 1)
 refine svA fun p g W X cx=>?_
 exact bx (n:=1) rfl (cx.an 7) (cx.an 5) (by kernel_rfl) (by kernel_rfl) (by kernel_rfl) cx (cx.init 0 _ rfl) rfl (nle rfl) (by kernel_rfl) rfl rfl rfl (fun _ _ _ _ _=>id)
 intro j g X W1 hD ay fr aD
 simp only[exq 5 ((dTn (hD 8 lq)))] at ay
 clear hD;subst aD;clear j g X
 refine bpe (.tuple #[]) (by simp[results,Tryz.results132,go_sem]) ?_
 have hl_:=St.less1 (L:=[eB b 100 #[.slice PA D.pgs.length Pc,.slice GA D.log.size gc,vi ((D.log.size:Int)),.bool D.off,.bool D.armed,vi D.left],eO 144 513 (.slice PA D.pgs.length Pc) D.pgs.length (Ps.flatMap shC),eO 5 1 (.slice GA D.log.size gc) D.log.size ((bp D.log).map (Value.int .u8)),eWs Qs]) (ay.pick [4,0,1,2,3] (by decide) rfl) h2
 exact⟨rfl,St.dk (L:=[]) (D:=flD D) (PA:=PA) (Pc:=Pc) (GA:=GA) (gc:=gc) hl_ hps hsub⟩
theorem Fb(b b2:Nat)(D:DkM)(fp:List Nat)(w:World)(hB:(eDk b D fp).holds w)(hlt:∀k∈fp,k<w.heap.size)(h2:Blk w b2 30 #[po b 0])(n2:b2∉fp)(hz:D.log.size<=10000000):
  Calls Tryz.prog 126 #[po b 0,.func (.func 131) #[] #[],.func (.func 132) #[] #[po b2 0]] w (bV b (opD D 0 flD) fp w):=by
 have st1:St w fp [eDk b D fp] w:=St.lend hB (dV _ _ _) hlt
 go_enter Tryz.func126,Tryz.ntmps126
 have aj:=st1
 refine wq (sqr (sqp [.k 6 (vi 0)] ?_))
 refine aa (wq (wq ?_))
 obtain⟨onv,hon⟩:∃z,(!D.off)=z:=⟨_,rfl⟩
 refine sqr (sqp [.m 8 0] ?_)
 refine sqk (.bool onv) aj (fun cx=>⟨_,re hon (ml b D _ (fc (CtxV.holdF cx (cx.init 0 _ rfl) rfl))),(ax (cx.ou 8))⟩) fun W3 aW=>?_
 refine sqp [.k 10 (.bool (!(onv)))] ?_
 refine aa ?_
 rcases Bool.eq_false_or_eq_true (onv) with eY|eY
 ·refine wp_cond_false (show Act.eval _ _= .bool false from(congrArg Value.bool (by rw[eY];rfl))) (wp_skip (aa (wq (wq (sqr (sqp [.m 11 1] ?_))))))
  refine sqv (vi 0) aW (iA rfl rfl rfl rfl rfl (fun _ _ _ h=>h) fun g c W X cx=>⟨_,_,cN (f:=131) (args:=#[]) (args':=#[]) rfl rfl (cx.ou 11) (by kernel_rfl) jo rfl,wH _⟩) fun W7 aQ=>?_
  refine sqp [.m 7 12] ?_
  refine aa (wq (sqr (sqp [.m 13 7,.k 14 (.bool false)] ?_)))
  refine aa (wcf rfl (wp_skip (aa (wq (wq ?_)))))
  have hD_:(eDk b D fp).holds W7:=(aQ.ok _ (List.mem_singleton.2 rfl)).holds
  obtain⟨PA,Pc,GA,gc,Ps,Qs,hps,hsub,hfp,hap,hall⟩:=hD_
  have uM:St w fp [eB b 100 #[.slice PA D.pgs.length Pc,.slice GA D.log.size gc,vi ((D.fl:Int)),.bool D.off,.bool D.armed,vi D.left],eO 144 513 (.slice PA D.pgs.length Pc) D.pgs.length (Ps.flatMap shC),eO 5 1 (.slice GA D.log.size gc) D.log.size ((bp D.log).map (Value.int .u8)),eWs Qs] W7:=St.unpack aQ hfp hall hap
  refine sqr (sqp [.m 16 0,.k 17 (vp b),.k 18 (po b 4)] ?_)
  refine aq 0 uM ?_
  refine sqp [.m 20 19] ?_
  refine d3 20 [21,22,23,24,25] ?_ rfl (fun hq=>?_) ?_
  rotate_left
  refine sqp [.m 21 0,.k 22 (vp b),.k 23 (po b 5)] ?_
  refine aq 0 uM ?_
  refine sqp [.k 25 (.bool (decide (D.left<=0)))] ?_
  exact sqe
  refine c5 ?_
  refine sqp [sPa 26 D.armed (decide (D.left<=0))] ?_
  refine aa (wbs (fun s8=>?_) fun s8=>?_)
  have rE:=s8
  simp only[zB] at rE
  obtain⟨QN,QO⟩:=rE
  refine wq (sqr (sqp [.m 27 0,.k 28 (vp b),.k 29 (po b 3)] ?_))
  refine aX (n:=1) 0 #[.slice PA D.pgs.length Pc,.slice GA D.log.size gc,vi ((D.fl:Int)),.bool true,.bool D.armed,vi D.left] uM fun y6 e9=>?_
  refine aa (wq (sqr (sqp [.k 6 (vi 24)] ?_)))
  refine aa (wp_ret (ai ?_))
  refine bpr (vi 24) (ag Tryz.results126 rpt) ?_
  obtain⟨fp2,hk_⟩:=St.dk (L:=[]) (D:={D with off:=true}) (PA:=PA) (Pc:=Pc) (GA:=GA) (gc:=gc) (e9.pick [0,1,2,3] (by decide) rfl) hps hsub
  exact bV.of (R':=({D with off:=true},24)) (by rw[opD,if_neg (by have h_:=hon.trans eY;simpa using h_),if_neg (by decide),if_pos (by simpa using s8)]) hk_
  have rE:=s8
  simp only[zB] at rE
  refine wp_skip (aa (wq (sqr (sqp [.m 30 0,.k 31 (vp b),.k 32 (po b 5)] ?_))))
  refine aq 0 uM ?_
  refine sqp [.k 34 (vi ((cS D.left))),.k 35 (vp b),.k 36 (po b 5)] ?_
  refine aX (n:=1) 0 #[.slice PA D.pgs.length Pc,.slice GA D.log.size gc,vi ((D.fl:Int)),.bool D.off,.bool D.armed,vi ((cS D.left))] uM fun zb eK=>?_
  refine aa (wq ?_)
  obtain⟨D1,hD1⟩:∃z,({D with left:=cS D.left}:DkM)=z:=⟨_,rfl⟩
  obtain⟨fp2,hk_37⟩:=St.dk (L:=[]) (D:={D with left:=cS D.left}) (PA:=PA) (Pc:=Pc) (GA:=GA) (gc:=gc) (eK.pick [0,1,2,3] (by decide) rfl) hps hsub
  simp only[List.nil_append] at hk_37
  rw[hD1] at hk_37
  have hz1:D1.log.size<=10000000:=by rw[<-hD1];exact hz
  refine sqr (sqp [.m 37 2] ?_)
  refine bM (fun X_=>X_.fp) (.tuple #[]) (fun IW=>eDk b (flD D1) IW) 0 hk_37 (by
    refine svA fun g c W X cx=>?_
    refine am.call (cN (f:=132) (args:=#[]) (args':=#[vp b2]) rfl rfl (cx.ou 37) (by kernel_rfl) jo rfl) ?_
    refine(GZ b b2 D1 _ _ (CtxV.holdF cx (cx.init 0 _ rfl) rfl) (CtxV.ltF cx (cx.init 0 _ rfl) rfl) (h2.upd cx.upd n2) (CtxV.notin cx (cx.init 0 _ rfl) rfl n2 h2.lt) hz1).mono ?_
    rintro e W1 ⟨rfl,fp4,aT⟩
    refine⟨_,rfl,aK (E:=eDk b D1 fp2) [eDk b (flD D1) fp4] (cx.init 0 _ rfl) rfl rfl aT (fun j p X' hs hb hv hN=>?_)⟩
    have aJ:=(hv 38 rfl).1;have aV:=(hv 38 rfl).2
    exact⟨aJ.trans rfl,cJ ((List.cons.inj hN).1)⟩) fun IW qD dq=>?_
  refine aa (wq (sqr (sqp [.k 6 (vi 0)] ?_)))
  refine aa (wp_ret ?_)
  refine bpr (vi 0) (ag Tryz.results126 rpt) ?_
  exact bV.of (R':=(flD D1,0)) (by rw[opD,if_neg (by have h_:=hon.trans eY;simpa using h_),if_neg (by decide),if_neg (by have h_:=s8;intro h2_;simp[h2_.1,h2_.2] at h_),hD1]) dq
 refine wp_cond_true (show Act.eval _ _= .bool true from(congrArg Value.bool (by rw[eY];rfl))) (wq (sqr (sqp [.k 6 (vi 24)] ?_)))
 refine aa (wp_ret (ai ?_))
 refine bpr (vi 24) (ag Tryz.results126 rpt) ?_
 exact bV.of (R':=(D,24)) (by rw[opD,if_pos (by simpa using hon.trans eY)]) aW
theorem lS(b:Nat)(D:DkM)(fp:List Nat)(w:World)(hB:(eDk b D fp).holds w)(hlt:∀k∈fp,k<w.heap.size)(hz:D.log.size<=10000000):
  Calls Tryz.prog 63 #[po b 0] w (bV b (opD D 0 flD) fp w):=by
 have st1:St w fp [eDk b D fp] w:=St.lend hB (dV _ _ _) hlt
 go_enter Tryz.func63,Tryz.ntmps63
 have aj:=st1
 refine wq (sqr ?_)
 refine b9 #[vp b] aj fun aA W1 ay=>?_
 refine sqp [.k 2 (vi 0)] ?_
 refine aa (wq (sqr (aq 1 ay ?_)))
 refine sqv (.func (.func 132) #[] #[vp aA]) ay (by
   exact sv0 rfl rfl rfl rfl rfl (fun _ _ _ h=>h) fun c g W X cx=>by
    have zl:c (.tmp 1)=vp aA:=(cx.ou 1)
    simp[go_sem,Instr.makeFunc,zl]) fun W4 bc=>?_
 refine bM (fun X_=>X_.fp) (vi ((opD D 0 flD).2)) (fun qL=>eDk b ((opD D 0 flD).1) qL) 0 bc (by
   refine svA fun c g W X cx=>?_
   refine am.call (au (args:=#[vp b,.func (.func 131) #[] #[],.func (.func 132) #[] #[vp aA]]) rfl cx.sees rfl (by kernel_rfl) (dL (cx.ou 3) (cx.sees.func _) (cx.ou 4))) ?_
   refine(Fb b _ D _ _ (CtxV.holdF cx (cx.init 0 _ rfl) rfl) (CtxV.ltF cx (cx.init 0 _ rfl) rfl) (cx.bi 1 rfl) (by have h_:=cx.ap 1 0 rfl rfl (by decide);rw[(cx.init 1 _ rfl),(cx.init 0 _ rfl)] at h_;exact h_ _ (List.mem_singleton.2 rfl)) hz).mono ?_
   rintro e W1 ⟨rfl,fp4,aT⟩
   refine⟨_,rfl,aK (E:=eDk b D fp) [eDk b (opD D 0 flD).1 fp4] (cx.init 0 _ rfl) rfl rfl aT (fun j n X' hs hb hv hN=>?_)⟩
   have aJ:=(hv 5 rfl).1;have aV:=(hv 5 rfl).2
   exact⟨aJ.trans rfl,cJ ((List.cons.inj hN).1)⟩) fun qL W5 aR=>?_
 refine sqp [.m 2 5] ?_
 refine aa (wp_ret ?_)
 refine bpr (vi ((opD D 0 flD).2)) (ag Tryz.results63 rpt) ?_
 exact bV.of rfl (aR.pick [0] (by decide) rfl)
end
section
open Go.RowKit
def z5:H5:=⟨dW 512,jr 512⟩
def sh0:ShT:=⟨z5,none,0,[]⟩
def kw(n:Nat):DkM:=⟨List.replicate n ⟨z5,[]⟩,⟨#[]⟩,0,false,false,0⟩
theorem ES(n:Nat):bp (dW n)=List.replicate n 0:=by
 show ((dW n).data.toList).map _= _
 rw[mI,List.map_replicate];rfl
theorem Hf:hvC z5=List.replicate 512 (.int .u8 0):=by
 show (bp (dW 512)).map _= _
 rw[ES,List.map_replicate]
def zSh:Value:= .agg (List.replicate 512 (Value.int .u8 0)++[Value.slice none 0 0]).toArray
theorem wR:zSh.cells.toList=shC sh0:=by
 show (List.replicate 512 (Value.int .u8 0)++[sn]).toArray.toList=hvC z5++[sn]
 rw[Hf]
theorem xA:zSh.cells.size=513:=by rw[<-Array.length_toList,wR,du]
theorem Tryz.infoSheetJ:(Tryz.prog.info? 144).map (fun i=>(i.zero,i.size,i.bytes))=some (some zSh,513,536):=by kernel_rfl
theorem HL(n:Nat):(madeCells zSh.cells (n*513)).toList=(List.replicate n sh0).flatMap shC:=by
 have h:=vH shC sh0 zSh.cells wR (by rw[xA];decide) n
 rw[xA] at h;exact h
section
variable{P:Program}{o:Oper}{ρ:Operand->Value}{W:World}
theorem jG{ts:Array TypeId}{k k':IntKind}{a b z:Int}(h:o.op= .call {callee:= .builtin .max,args:=#[x,y],argTypes:=ts})(hx:ρ x= .int k a)(hy:ρ y= .int k' b)(hz:max a b=z):(execOp ρ o).run P W= .ok (.value (.int k z)) W:=by
 subst hz
 unfold execOp;rw[h]
 simp only[resolve,invoke,builtin,List.map_toArray,List.map_cons,List.map_nil,hx,hy,Sem.run_bind,Sem.run_pure,Result.andThen_ok]
 have e:(Builtin.max_ ts o.type #[.int k a,.int k' b]).run P W= .ok (.int k (max a b)) W:=by
  unfold Builtin.max_
  show (List.foldlM Builtin.max2 (.int k a) [.int k' b]).run P W= _
  simp only[List.foldlM_cons,List.foldlM_nil,Builtin.max2]
  have h2:(if a<b then b else a)=max a b:=by omega
  rw[h2]
  rfl
 rw[e]
 rfl
end
def KS(n:Nat)(w:World)(e:Ending)(w':World):Prop:=∃b,e= .returned (.pointer (some ⟨b,0,none⟩))/\∃fp,St w [] [eDk b (kw n) fp] w'
theorem St.dkNew{a b:Ent}(n:Nat)(h:St w0 bor [a,b] W):St w0 bor ([a,b]++[eO 5 1 (sn) 0 [],eWs (List.replicate n sh0)]) W:=by
 have h1:=fi h 5 1
 have h3:=fi h 142 512
 have h5:=h3.ok (nJ sh0) (by simp[nJ,sh0])
 have h2:=St.addE (R:=(List.replicate n sh0).map nJ) h1 (fun e he=>by
  rw[List.map_replicate] at he
  rw[(List.mem_replicate.1 he).2]
  exact⟨rfl,h5.holds,h5.loc⟩)
 have h4:=h2.packA
 simp only[List.append_assoc] at h4 |-;exact h4
theorem yR(n:Nat)(w:World)(hn:n<=400):
  Calls Tryz.prog 19 #[.int .i64 ((n:Int))] w (KS n w):=by
 go_enter Tryz.func19,Tryz.ntmps19
 have aj:=St.start w
 refine wq (sqr (sqp [.k 2 (.pointer none)] ?_))
 refine aa (wq (sqr (sqp [.m 3 0] ?_)))
 refine sql (vi ((n:Int))) aj (fun cx=>jI rfl (cx.ou 3) (cx.co _) (by omega)) ?_
 refine sql (vi ((n:Int))) aj (fun cx=>jG rfl (cx.co _) (cx.ou 4) (by omega)) ?_
 refine ea (fun x_=>sA x_) (fun qM=> .slice qM n n) (fun qM=>eO 144 513 (.slice qM n n) n ((List.replicate n sh0).flatMap shC)) aj (by
   refine svA fun g c W X cx=>?_
   obtain⟨i0,hi0,hz0,hz1,hz2⟩:=info_parts Tryz.infoSheetJ
   exact HX (n:=n) (sz:=513) rfl (by kernel_rfl) hi0 hz0 hz1 hz2 (cx.ou 5) (cx.ou 5) (by omega) (by omega) (by omega) (by omega) (by simp only[maxLen];omega) (HL n) rfl rfl (fun _ _ _ _ _=> .intro)) fun qM W5 aR=>?_
 refine sqp [.k 7 (.agg #[.slice qM n n,sn,vi 0,.bool false,.bool false,vi 0])] ?_
 refine b9 #[.slice qM n n,sn,vi 0,.bool false,.bool false,vi 0] aR fun Mr W7 aQ=>?_
 refine sqp [.m 2 8] ?_
 refine aa (wp_ret ?_)
 refine bpr (vp Mr) (ag Tryz.results19 rpt) ?_
 exact⟨_,rfl,St.dk (L:=[]) (D:=kw n) (PA:=qM) (Pc:=n) (GA:=none) (gc:=0) (Ps:=List.replicate n sh0) (Qs:=List.replicate n sh0) (by have h_:=St.dkNew n (aQ.pick [1,0] (by decide) rfl);rw[show dkL Mr (kw n) qM n none 0 (List.replicate n sh0) (List.replicate n sh0)= _ from by rw[dkL,dkC,show (kw n).pgs.length=n from List.length_replicate]];exact h_) (by rw[List.map_replicate];rfl) rfl⟩
end
section
open Go.RowKit
theorem LR{n c size:Nat}{e:TypeId}{A:Option Addr}(h:w.ownsRow base e size (.slice A n c) n xs):n<=c:=by
 rcases h.2 with ⟨hv,h0⟩|⟨g,cap,cur,hv,_,_,hle,_⟩
 omega
 injection hv with h1 h2 h3
 omega
theorem EM{n c size m:Nat}{e:TypeId}{A:Option Addr}(h:w.ownsRow base e size (.slice A n c) n xs)(hm:m<=n):w.ownsRow base e size (.slice A m c) m (xs.take (m*size)):=by
 obtain⟨hl,h2⟩:=h
 have hms:m*size<=n*size:=Nat.mul_le_mul_right _ hm
 refine⟨by rw[List.length_take];omega,?_⟩
 rcases h2 with ⟨hv,h0⟩|⟨g,cap,cur,hv,hb,hg,hle,hmx,hcs,htk⟩
 injection hv with h1 h3 h4
 have:m=0:=by omega
 subst this h1 h4
 exact .inl ⟨rfl,rfl⟩
 injection hv with h1 h3 h4
 subst h1 h4
 refine .inr ⟨g,c,cur,rfl,hb,hg,by omega,hmx,hcs,?_⟩
 rw[<-htk,List.take_take,Nat.min_eq_left hms]
theorem wN(s:ByteArray)(m:Nat):(bp s).take m=bp (s.extract 0 m):=by
 rw[bp,bp,gv,List.drop_zero,Nat.sub_zero,List.map_take]
def ctD(k:Nat)(D:DkM):DkM:={D with log:=D.log.extract 0 k,fl:=min D.fl k}
def ctE(D:DkM)(n:Int):Int:=if n<0\/(D.log.size:Int)<n then 1 else 0
theorem St.trunc{L1 L2:List Ent}{GA:Option Addr}{gc m:Nat}(h:St w bor (L1++eO 5 1 (.slice GA s.size gc) s.size ((bp s).map (Value.int .u8))::L2) W)(hm:m<=s.size):St w bor (L1++eO 5 1 (.slice GA (s.extract 0 m).size gc) (s.extract 0 m).size ((bp (s.extract 0 m)).map (Value.int .u8))::L2) W:=by
 have hz:(s.extract 0 m).size=m:=by rw[ByteArray.size_extract];omega
 rw[hz]
 refine St.repl h (by cases GA<;>rfl) (fun h2=>?_) (gn _ _ _ _ _)
 have h3:=EM (m:=m) h2 hm
 rw[Nat.mul_one,<-List.map_take,wN] at h3
 exact h3
theorem F5(b b2 b3:Nat)(D:DkM)(k:Nat)(fp:List Nat)(w:World)(hB:(eDk b D fp).holds w)(hlt:∀k∈fp,k<w.heap.size)(h2:Blk w b2 30 #[po b 0])(h3:Blk w b3 3 #[.int .i64 (k:Int)])(n2:b2∉fp)(n3:b3∉fp)(uK:b2≠b3)(hz:D.log.size<=10000000)(hk:k<=D.log.size):
  Calls Tryz.prog 128 #[po b2 0,po b3 0] w (mf b (ctD k D) fp w):=by
 have st1:=St.lend hB (dV _ _ _) hlt
 obtain⟨PA,Pc,GA,gc,Ps,Qs,hps,hsub,hfp,hap,hall⟩:=hB
 have st0:=St.unpack st1 hfp hall hap
 have hgc:D.log.size<=gc:=LR (hall (eO 5 1 (.slice GA D.log.size gc) D.log.size ((bp D.log).map (Value.int .u8))) (by simp[dkL])).1
 have st2:St w (b2::b3::fp) [eB b 100 #[.slice PA D.pgs.length Pc,.slice GA D.log.size gc,.int .i64 ((D.fl:Int)),.bool D.off,.bool D.armed,.int .i64 D.left],eO 144 513 (.slice PA D.pgs.length Pc) D.pgs.length (Ps.flatMap shC),eO 5 1 (.slice GA D.log.size gc) D.log.size ((bp D.log).map (Value.int .u8)),eWs Qs,eB b2 30 #[po b 0],eB b3 3 #[.int .i64 ((k:Int))]] w:=St.with2 st0 h2 h3 n2 n3 uK (fun e he k hk=>by rw[show fp=(eDk b D fp).fp from rfl,show (eDk b D fp).fp= _ from hfp];exact List.mem_flatMap.2 ⟨e,he,hk⟩)
 go_enter Tryz.func128,Tryz.ntmps128
 have aj:=st2
 refine aG [0,0,0,4,12,28,0,124,0,256,768,1792,0,7936,4093,20477,53245,131071,262143,524287] [[4],[4],[4],[],[],[0],[5],[],[4],[],[],[0],[5],[],[],[],[0],[],[],[6]] [[],[],[],[],[],[],[],[],[],[],[],[],[],[],[],[],[6],[],[],[7]] [[],[],[],[],[],[],[],[],[],[],[],[],[],[],[],[],[0],[],[],[6]] [.c 2 (vp b),.c 3 (vp b),.c 4 (vp b),.k 5 (vp b),.k 6 (po b 1),.c 7 (.slice GA D.log.size gc),.c 8 (vi ((k:Int))),.c 9 (.slice GA k gc),.c 10 (vp b),.k 11 (vp b),.k 12 (po b 2),.c 13 (vi ((D.fl:Int))),.c 14 (vi ((k:Int))),.c 15 (vi (((min D.fl k:Nat):Int))),.k 16 (vp b),.k 17 (po b 1),.n,.k 18 (vp b),.k 19 (po b 2),.n] (fun ix j g X=>match ix with|0|1|2|3|4|5|6|7|8|9|10|11|12|13|14|15=>True|16=>X 6=eB b 100 #[.slice PA D.pgs.length Pc,.slice GA k gc,vi ((D.fl:Int)),.bool D.off,.bool D.armed,vi D.left]|17|18=>True|19=>X 7=eB b 100 #[.slice PA D.pgs.length Pc,.slice GA k gc,vi (((min D.fl k:Nat):Int)),.bool D.off,.bool D.armed,vi D.left]|_=>True) [1,2,3,4,5,7] [0,1,2,5,6,7,8,11,12,13,16,19] [(2,0,19,20)] aj ?_ ?_ ?_
 exact fun ix _ _ _ _ _ _ hs hb hx h=>match ix,h with
 |16,h=>by dsimp only;rw[<-hx 6 rfl];exact h
 |19,h=>by dsimp only;rw[<-hx 7 rfl];exact h
 |0,_|1,_|2,_|3,_|4,_|5,_|6,_|7,_|8,_|9,_|10,_|11,_|12,_|13,_|14,_|15,_|17,_|18,_|_+20,_=>trivial
 refine⟨?_,?_,?_,?_,?_,?_,?_,?_,?_,?_,?_,?_,trivial⟩
 exact xs4 rfl id fun cx=>ae rfl (by kernel_rfl) (cx.ou 0) ((cx.bi 4 rfl).cell 0)
 exact xs4 rfl id fun cx=>ae rfl (by kernel_rfl) (cx.ou 0) ((cx.bi 4 rfl).cell 0)
 exact xs4 rfl id fun cx=>ae rfl (by kernel_rfl) (cx.ou 0) ((cx.bi 4 rfl).cell 0)
 exact xs4 rfl id fun cx=>ae rfl (by kernel_rfl) (cx.an 4) ((cx.bi 0 rfl).cell 1)
 exact xs4 rfl id fun cx=>ae rfl (by kernel_rfl) (cx.ou 1) ((cx.bi 5 rfl).cell 0)
 exact xs4 rfl id fun cx=>pK (e:=5) (sz:=1) (m:=k) rfl (by kernel_rfl) (by kernel_rfl) (cx.an 5) (cx.an 6) (by omega) (by omega)
 exact xs4 rfl id fun cx=>ae rfl (by kernel_rfl) (cx.ou 0) ((cx.bi 4 rfl).cell 0)
 exact xs4 rfl id fun cx=>ae rfl (by kernel_rfl) (cx.an 10) ((cx.bi 0 rfl).cell 2)
 exact xs4 rfl id fun cx=>ae rfl (by kernel_rfl) (cx.ou 1) ((cx.bi 5 rfl).cell 0)
 exact xs4 rfl id fun cx=>jI rfl (cx.an 11) (cx.an 12) (by omega)
 refine svA fun p g W X cx=>?_
 exact bx (n:=1) rfl (cx.an 15) (cx.an 7) (by kernel_rfl) (by kernel_rfl) (by kernel_rfl) cx (cx.init 0 _ rfl) rfl (nle rfl) (by kernel_rfl) rfl rfl rfl (fun _ _ _ _ _=>id)
 refine svA fun p g W X cx=>?_
 exact bx (n:=1) rfl (cx.an 18) (cx.an 13) (by kernel_rfl) (by kernel_rfl) (by kernel_rfl) cx (dTn (cx.an 16)) rfl (nle rfl) (by kernel_rfl) rfl rfl rfl (fun _ _ _ _ _=>id)
 intro j g X W1 hD ay fr aD
 simp only[exq 7 ((dTn (hD 19 lq)))] at ay
 clear hD;subst aD;clear j g X
 refine bpe (.tuple #[]) (by simp[results,Tryz.results128,go_sem]) ?_
 have hl_:=St.less2 (L:=[eB b 100 #[.slice PA D.pgs.length Pc,.slice GA k gc,vi (((min D.fl k:Nat):Int)),.bool D.off,.bool D.armed,vi D.left],eO 144 513 (.slice PA D.pgs.length Pc) D.pgs.length (Ps.flatMap shC),eO 5 1 (.slice GA D.log.size gc) D.log.size ((bp D.log).map (Value.int .u8)),eWs Qs]) (ay.pick [5,0,1,2,3,4] (by decide) rfl) h2 h3
 have hl2_:=St.trunc (L1:=[eB b 100 #[.slice PA D.pgs.length Pc,.slice GA k gc,vi (((min D.fl k:Nat):Int)),.bool D.off,.bool D.armed,vi D.left],eO 144 513 (.slice PA D.pgs.length Pc) D.pgs.length (Ps.flatMap shC)]) (L2:=[eWs Qs]) (m:=k) hl_ hk
 have hz_:(D.log.extract 0 k).size=k:=by rw[ByteArray.size_extract];omega
 exact⟨rfl,St.dk (L:=[]) (D:=ctD k D) (PA:=PA) (Pc:=Pc) (GA:=GA) (gc:=gc) (by rw[show dkL b (ctD k D) PA Pc GA gc Ps Qs=[eB b 100 #[.slice PA D.pgs.length Pc,.slice GA k gc,vi (((min D.fl k:Nat):Int)),.bool D.off,.bool D.armed,vi D.left],eO 144 513 (.slice PA D.pgs.length Pc) D.pgs.length (Ps.flatMap shC),eO 5 1 (.slice GA (D.log.extract 0 k).size gc) (D.log.extract 0 k).size ((bp (D.log.extract 0 k)).map (Value.int .u8)),eWs Qs] from by rw[dkL,dkC,show (ctD k D).log=D.log.extract 0 k from rfl,hz_];rfl];exact hl2_) hps hsub⟩
end
section
open Go.RowKit
theorem Lh(b b2 b3:Nat)(D:DkM)(n:Int)(PA:Option Addr)(Pc:Nat)(GA:Option Addr)(gc:Nat)(Ps:List ShT)(w:World)(hB:DkO w b D PA Pc GA gc Ps)(h2:Blk w b2 30 #[po b 0])(h3:Blk w b3 3 #[.int .i64 n])(hz:D.log.size<=10000000):
  Calls Tryz.prog 127 #[po b3 0,po b2 0] w (Ret (.int .i64 (ctE D n)) w):=by
 go_enter Tryz.func127,Tryz.ntmps127
 have aj:=St.start w
 refine wq (sqr (sqp [.k 2 (vi 0)] ?_))
 refine aa (wq (wq (bP [0,1,3,7,7,23,55,119,247,511,1023] [] [.c 3 (vi n),.k 4 (.bool (decide (n<0))),.k 5 (.bool (decide (n<0))),.y 6 (!(decide (n<0))) (vi n),.y 7 (!(decide (n<0))) (vp b),.z 8 (!(decide (n<0))) (vp b),.z 9 (!(decide (n<0))) (po b 1),.y 10 (!(decide (n<0))) (.slice GA D.log.size gc),.z 11 (!(decide (n<0))) (vi ((D.log.size:Int))),.z 12 (!(decide (n<0))) (.bool (decide ((D.log.size:Int)<n))),tO 13 (decide (n<0)) (decide ((D.log.size:Int)<n))] [] [0,3,4,7] [(3,0,11,14)] aj ?_ fun W2 bu=>?_)))
 refine⟨?_,?_,?_,?_,trivial⟩
 exact xs4 rfl id fun cx=>ae rfl (by kernel_rfl) (cx.ou 0) ((Blk.ext h3 cx.upd.to_ext).cell 0)
 exact m2 rfl (fun _ _ _ h=>h) (fun cx=>(cx.an 2)) fun cx hq=>ae rfl (by kernel_rfl) (cx.ou 0) ((Blk.ext h3 cx.upd.to_ext).cell 0)
 exact m2 rfl (fun _ _ _ h=>h) (fun cx=>(cx.an 2)) fun cx hq=>ae rfl (by kernel_rfl) (cx.ou 1) ((Blk.ext h2 cx.upd.to_ext).cell 0)
 exact m2 rfl (fun _ _ _ h=>h) (fun cx=>(cx.an 2)) fun cx hq=>ae rfl (by kernel_rfl) (mbv (cx.an 6) hq) ((Blk.ext hB.blkL cx.upd.to_ext).cell 1)
 refine aa (wbs (fun uL=>?_) fun uL=>?_)
 have vR:=uL
 simp only[zB] at vR
 refine wq (sqr (sqp [.k 2 (vi 1)] ?_))
 refine aa (wp_ret (ai ?_))
 refine bpr (vi 1) (ag Tryz.results127 rpt) ?_
 exact Ret.int (by rw[ctE,if_pos (by have h_:=uL;simp at h_;omega)]) bu.ext
 have vR:=uL
 simp only[zB] at vR
 obtain⟨RH,RI⟩:=vR
 refine wp_skip (aa (wq (sqr (sqp [.k 2 (vi 0)] ?_))))
 refine aa (wp_ret ?_)
 refine bpr (vi 0) (ag Tryz.results127 rpt) ?_
 exact Ret.int (by rw[ctE,if_neg (by have h_:=uL;simp at h_;omega)]) bu.ext
theorem GY(b b2 b3:Nat)(D:DkM)(n:Int)(w:World)(hB:jD w b D)(h2:Blk w b2 30 #[po b 0])(h3:Blk w b3 3 #[.int .i64 n])(hz:D.log.size<=10000000):Calls Tryz.prog 127 #[po b3 0,po b2 0] w (Ret (.int .i64 (ctE D n)) w):=by
 obtain⟨PA,Pc,GA,gc,Ps,h1⟩:=hB
 exact Lh b b2 b3 D n PA Pc GA gc Ps w h1 h2 h3 hz
theorem Er(b b2 b3:Nat)(D:DkM)(n:Int)(fp:List Nat)(w:World)(hB:(eDk b D fp).holds w)(hlt:∀k∈fp,k<w.heap.size)(h2:Blk w b2 30 #[po b 0])(h3:Blk w b3 3 #[.int .i64 n])(n2:b2∉fp)(n3:b3∉fp)(uK:b2≠b3)(hz:D.log.size<=10000000):
  Calls Tryz.prog 126 #[po b 0,.func (.func 127) #[] #[po b3 0,po b2 0],.func (.func 128) #[] #[po b2 0,po b3 0]] w (bV b (opD D (ctE D n) (ctD n.toNat)) fp w):=by
 have st1:St w fp [eDk b D fp] w:=St.lend hB (dV _ _ _) hlt
 go_enter Tryz.func126,Tryz.ntmps126
 have aj:=st1
 refine wq (sqr (sqp [.k 6 (vi 0)] ?_))
 refine aa (wq (wq ?_))
 obtain⟨onv,hon⟩:∃z,(!D.off)=z:=⟨_,rfl⟩
 refine sqr (sqp [.m 8 0] ?_)
 refine sqk (.bool onv) aj (fun cx=>⟨_,re hon (ml b D _ (fc (CtxV.holdF cx (cx.init 0 _ rfl) rfl))),(ax (cx.ou 8))⟩) fun W3 aW=>?_
 refine sqp [.k 10 (.bool (!(onv)))] ?_
 refine aa ?_
 rcases Bool.eq_false_or_eq_true (onv) with eY|eY
 ·refine wp_cond_false (show Act.eval _ _= .bool false from(congrArg Value.bool (by rw[eY];rfl))) (wp_skip (aa (wq (wq (sqr (sqp [.m 11 1] ?_))))))
  refine sqv (vi ((ctE D n))) aW (iA rfl rfl rfl rfl rfl (fun _ _ _ h=>h) fun g c W X cx=>⟨_,_,cN (f:=127) (args:=#[]) (args':=#[vp b3,vp b2]) rfl rfl (cx.ou 11) (by kernel_rfl) jo rfl,GY b b2 b3 D n _ (fc (CtxV.holdF cx (cx.init 0 _ rfl) rfl)) (h2.upd cx.upd n2) (h3.upd cx.upd n3) hz⟩) fun W7 aQ=>?_
  refine sqp [.m 7 12] ?_
  refine aa (wq (sqr (sqp [.m 13 7,.k 14 (.bool ((ctE D n) != 0))] ?_)))
  refine aa (wbs (fun dn=>?_) fun dn=>?_)
  have g9:=bne_iff_ne.1 dn
  refine wq (sqr (sqp [.m 15 7,.m 6 15] ?_))
  refine aa (wp_ret (ai ?_))
  refine bpr (vi ((ctE D n))) (ag Tryz.results126 rpt) ?_
  exact bV.of (R':=(D,ctE D n)) (by rw[opD,if_neg (by have h_:=hon.trans eY;simpa using h_),if_pos (by simpa using dn)]) aQ
  have g9:=bne_eq_false_iff_eq.1 dn
  refine wp_skip (aa (wq (wq ?_)))
  have hD_:(eDk b D fp).holds W7:=(aQ.ok _ (List.mem_singleton.2 rfl)).holds
  obtain⟨PA,Pc,GA,gc,Ps,Qs,hps,hsub,hfp,hap,hall⟩:=hD_
  have gy:St w fp [eB b 100 #[.slice PA D.pgs.length Pc,.slice GA D.log.size gc,vi ((D.fl:Int)),.bool D.off,.bool D.armed,vi D.left],eO 144 513 (.slice PA D.pgs.length Pc) D.pgs.length (Ps.flatMap shC),eO 5 1 (.slice GA D.log.size gc) D.log.size ((bp D.log).map (Value.int .u8)),eWs Qs] W7:=St.unpack aQ hfp hall hap
  refine sqr (sqp [.m 16 0,.k 17 (vp b),.k 18 (po b 4)] ?_)
  refine aq 0 gy ?_
  refine sqp [.m 20 19] ?_
  refine d3 20 [21,22,23,24,25] ?_ rfl (fun hq=>?_) ?_
  rotate_left
  refine sqp [.m 21 0,.k 22 (vp b),.k 23 (po b 5)] ?_
  refine aq 0 gy ?_
  refine sqp [.k 25 (.bool (decide (D.left<=0)))] ?_
  exact sqe
  refine c5 ?_
  refine sqp [sPa 26 D.armed (decide (D.left<=0))] ?_
  refine aa (wbs (fun fg=>?_) fun fg=>?_)
  have fb:=fg
  simp only[zB] at fb
  obtain⟨zm,zn⟩:=fb
  refine wq (sqr (sqp [.m 27 0,.k 28 (vp b),.k 29 (po b 3)] ?_))
  refine aX (n:=1) 0 #[.slice PA D.pgs.length Pc,.slice GA D.log.size gc,vi ((D.fl:Int)),.bool true,.bool D.armed,vi D.left] gy fun Fg jB=>?_
  refine aa (wq (sqr (sqp [.k 6 (vi 24)] ?_)))
  refine aa (wp_ret (ai ?_))
  refine bpr (vi 24) (ag Tryz.results126 rpt) ?_
  obtain⟨fp2,hk_⟩:=St.dk (L:=[]) (D:={D with off:=true}) (PA:=PA) (Pc:=Pc) (GA:=GA) (gc:=gc) (jB.pick [0,1,2,3] (by decide) rfl) hps hsub
  exact bV.of (R':=({D with off:=true},24)) (by rw[opD,if_neg (by have h_:=hon.trans eY;simpa using h_),if_neg (by simpa using dn),if_pos (by simpa using fg)]) hk_
  have fb:=fg
  simp only[zB] at fb
  refine wp_skip (aa (wq (sqr (sqp [.m 30 0,.k 31 (vp b),.k 32 (po b 5)] ?_))))
  refine aq 0 gy ?_
  refine sqp [.k 34 (vi ((cS D.left))),.k 35 (vp b),.k 36 (po b 5)] ?_
  refine aX (n:=1) 0 #[.slice PA D.pgs.length Pc,.slice GA D.log.size gc,vi ((D.fl:Int)),.bool D.off,.bool D.armed,vi ((cS D.left))] gy fun qD dq=>?_
  refine aa (wq ?_)
  obtain⟨D1,hD1⟩:∃z,({D with left:=cS D.left}:DkM)=z:=⟨_,rfl⟩
  obtain⟨fp2,hk_40⟩:=St.dk (L:=[]) (D:={D with left:=cS D.left}) (PA:=PA) (Pc:=Pc) (GA:=GA) (gc:=gc) (dq.pick [0,1,2,3] (by decide) rfl) hps hsub
  simp only[List.nil_append] at hk_40
  rw[hD1] at hk_40
  have hz1:D1.log.size<=10000000:=by rw[<-hD1];exact hz
  have hk0_:0<=n/\n<=(D.log.size:Int):=by have h_:=dn;simp only[ctE] at h_;split at h_;(simp at h_);omega
  obtain⟨k,rfl⟩:∃k:Nat,n=(k:Int):=⟨n.toNat,by omega⟩
  have hk1:k<=D1.log.size:=by rw[<-hD1];show k<=D.log.size;omega
  refine sqr (sqp [.m 37 2] ?_)
  refine bM (fun X_=>X_.fp) (.tuple #[]) (fun nz=>eDk b (ctD k D1) nz) 0 hk_40 (by
    refine svA fun g c W X cx=>?_
    refine am.call (cN (f:=128) (args:=#[]) (args':=#[vp b2,vp b3]) rfl rfl (cx.ou 37) (by kernel_rfl) jo rfl) ?_
    refine(F5 b b2 b3 D1 k _ _ (CtxV.holdF cx (cx.init 0 _ rfl) rfl) (CtxV.ltF cx (cx.init 0 _ rfl) rfl) (h2.upd cx.upd n2) (h3.upd cx.upd n3) (CtxV.notin cx (cx.init 0 _ rfl) rfl n2 h2.lt) (CtxV.notin cx (cx.init 0 _ rfl) rfl n3 h3.lt) uK hz1 hk1).mono ?_
    rintro e W1 ⟨rfl,fp4,aT⟩
    refine⟨_,rfl,aK (E:=eDk b D1 fp2) [eDk b (ctD k D1) fp4] (cx.init 0 _ rfl) rfl rfl aT (fun j p X' hs hb hv hN=>?_)⟩
    have aJ:=(hv 38 rfl).1;have aV:=(hv 38 rfl).2
    exact⟨aJ.trans rfl,cJ ((List.cons.inj hN).1)⟩) fun nz pP eN=>?_
  refine aa (wq (sqr (sqp [.k 6 (vi 0)] ?_)))
  refine aa (wp_ret ?_)
  refine bpr (vi 0) (ag Tryz.results126 rpt) ?_
  exact bV.of (R':=(ctD k D1,0)) (by rw[opD,if_neg (by have h_:=hon.trans eY;simpa using h_),if_neg (by simpa using dn),if_neg (by have h_:=fg;intro h2_;simp[h2_.1,h2_.2] at h_),hD1,Int.toNat_natCast]) eN
 refine wp_cond_true (show Act.eval _ _= .bool true from(congrArg Value.bool (by rw[eY];rfl))) (wq (sqr (sqp [.k 6 (vi 24)] ?_)))
 refine aa (wp_ret (ai ?_))
 refine bpr (vi 24) (ag Tryz.results126 rpt) ?_
 exact bV.of (R':=(D,24)) (by rw[opD,if_pos (by simpa using hon.trans eY)]) aW
theorem Gs(b:Nat)(D:DkM)(n:Int)(fp:List Nat)(w:World)(hB:(eDk b D fp).holds w)(hlt:∀k∈fp,k<w.heap.size)(hz:D.log.size<=10000000):
  Calls Tryz.prog 60 #[po b 0,.int .i64 n] w (bV b (opD D (ctE D n) (ctD n.toNat)) fp w):=by
 have st1:St w fp [eDk b D fp] w:=St.lend hB (dV _ _ _) hlt
 go_enter Tryz.func60,Tryz.ntmps60
 have aj:=st1
 refine wq (sqr ?_)
 refine b9 #[vp b] aj fun br W1 ay=>?_
 refine b9 #[vi n] ay fun ck W2 bu=>?_
 refine sqp [.k 4 (vi 0)] ?_
 refine aa (wq (sqr (aq 1 bu ?_)))
 refine sqv (.func (.func 127) #[] #[vp ck,vp br]) bu (by
   exact sv0 rfl rfl rfl rfl rfl (fun _ _ _ h=>h) fun c g W X cx=>by
    have fy:c (.tmp 3)=vp ck:=(cx.ou 3)
    have m4:c (.tmp 2)=vp br:=(cx.ou 2)
    simp[go_sem,Instr.makeFunc,fy,m4]) fun W5 aR=>?_
 refine sqv (.func (.func 128) #[] #[vp br,vp ck]) aR (by
   exact sv0 rfl rfl rfl rfl rfl (fun _ _ _ h=>h) fun c g W X cx=>by
    have m4:c (.tmp 2)=vp br:=(cx.ou 2)
    have fy:c (.tmp 3)=vp ck:=(cx.ou 3)
    simp[go_sem,Instr.makeFunc,m4,fy]) fun W6 bK=>?_
 refine bM (fun X_=>X_.fp) (vi ((opD D (ctE D n) (ctD n.toNat)).2)) (fun zo=>eDk b ((opD D (ctE D n) (ctD n.toNat)).1) zo) 0 bK (by
   refine svA fun c g W X cx=>?_
   refine am.call (au (args:=#[vp b,.func (.func 127) #[] #[vp ck,vp br],.func (.func 128) #[] #[vp br,vp ck]]) rfl cx.sees rfl (by kernel_rfl) (dL (cx.ou 5) (cx.ou 6) (cx.ou 7))) ?_
   refine(Er b _ _ D n _ _ (CtxV.holdF cx (cx.init 0 _ rfl) rfl) (CtxV.ltF cx (cx.init 0 _ rfl) rfl) (cx.bi 1 rfl) (cx.bi 2 rfl) (by have h_:=cx.ap 1 0 rfl rfl (by decide);rw[(cx.init 1 _ rfl),(cx.init 0 _ rfl)] at h_;exact h_ _ (List.mem_singleton.2 rfl)) (by have h_:=cx.ap 2 0 rfl rfl (by decide);rw[(cx.init 2 _ rfl),(cx.init 0 _ rfl)] at h_;exact h_ _ (List.mem_singleton.2 rfl)) (by have h_:=cx.ap 1 2 rfl rfl (by decide);rw[(cx.init 1 _ rfl),(cx.init 2 _ rfl)] at h_;intro e_;exact h_ _ (List.mem_singleton.2 rfl) (List.mem_singleton.2 e_)) hz).mono ?_
   rintro e W1 ⟨rfl,fp4,aT⟩
   refine⟨_,rfl,aK (E:=eDk b D fp) [eDk b (opD D (ctE D n) (ctD n.toNat)).1 fp4] (cx.init 0 _ rfl) rfl rfl aT (fun j p X' hs hb hv hN=>?_)⟩
   have aJ:=(hv 8 rfl).1;have aV:=(hv 8 rfl).2
   exact⟨aJ.trans rfl,cJ ((List.cons.inj hN).1)⟩) fun zo W7 aQ=>?_
 refine sqp [.m 4 8] ?_
 refine aa (wp_ret ?_)
 refine bpr (vi ((opD D (ctE D n) (ctD n.toNat)).2)) (ag Tryz.results60 rpt) ?_
 exact bV.of rfl (aQ.pick [0] (by decide) rfl)
end
section
open Go.RowKit
theorem A3(h:H5):strOfNums ((bp h.1).take 256)++strOfNums ((bp h.1).drop 256)=h.1:=by
 have e1:(bp h.1).take 256=bp (h.1.extract 0 256):=wN _ _
 have e2:(bp h.1).drop 256=bp (h.1.extract 256 512):=by
  rw[bp,bp,gv,List.map_take,List.map_drop,List.take_of_length_le]
  rw[List.length_drop,List.length_map,bT,h.2];decide
 rw[e1,e2,sQ,sQ]
 apply ia
 rw[cV,gv,gv,List.drop_zero,Nat.sub_zero]
 rw[List.take_of_length_le (l:=(bl h.1).drop 256) (by rw[List.length_drop,bT,h.2];decide),List.take_append_drop]
section
variable{P:Program}{o:Oper}{ρ:Operand->Value}{W:World}
theorem uu{t t' e u:TypeId}{g:Nat}{xs:List Int}{ys:List Int}(h:o.op= .convert t t' x)(ht:P.underlying t=some (.slice e))(he:P.underlying e=some (.int .u8))(ht':P.underlying t'=some .string)
  (hx:ρ x= .slice (some ⟨g,off,none⟩) 256 256) (hb:Blk W g u (xs.map (Value.int .u8)).toArray) (hy:(xs.drop off).take 256=ys) (hl:off+256<=xs.length):(execOp ρ o).run P W= .ok (.value (.string (strOfNums ys))) W:=by
 subst hy
 have hr:=run_convert_bytes_arg W t e ht he g off 256 256 ((xs.drop off).take 256) (by rw[List.length_take,List.length_drop];omega) (fun i hi=>?_) t' ht'
 unfold execOp;rw[h]
 simp only[hx,Sem.run_bind,hr,Result.andThen_ok,Sem.run_pure]
 rw[hb.cell (off+i),List.getElem?_toArray,List.getElem?_map,List.getD_eq_getElem?_getD,List.getElem?_take,if_pos hi,List.getElem?_drop]
 rw[List.getElem?_eq_getElem (by omega)];rfl
theorem jS{t e:TypeId}{g n:Nat}(h:o.op= .slice t x none none none)(ht:P.underlying t=some (.array n e))(hz:szP P e=some 1)(hx:ρ x=po g off):(execOp ρ o).run P W= .ok (.value (.slice (some ⟨g,off,none⟩) n n)) W:=by
 have e1:P.arrayLen t=n:=by simp[Program.arrayLen,ht]
 have e2:P.elem t=e:=by simp[Program.elem,ht]
 have h1:=run_sliceAt_array_all (P:=P) W t ⟨g,off,none⟩ (by rw[e1,e2];exact ht)
 rw[e1,e2,dl hz] at h1
 unfold execOp;rw[h]
 simp only[hx,Sem.run_bind,Option.map_none,h1,Result.andThen_ok,Sem.run_pure,slicedAt]
 simp[Addr.add]
end
theorem tK(h:H5)(w:World):
  Calls Tryz.prog 88 #[.agg (hvC h).toArray] w (Ret (.string h.1) w):=by
 have hzz:=congrArg ByteArray.size (A3 h)
 rw[ByteArray.size_append,h.2] at hzz
 go_enter Tryz.func88,Tryz.ntmps88
 have aj:=St.start w
 refine wq (sqr ?_)
 refine ea (fun x_=>pb x_) (fun aA=>vp aA) (fun aA=>eB aA 142 (hvC h).toArray) aj (by
   refine svA fun j g W X cx=>?_
   exact p9 (cs:=(hvC h).toArray) rfl (cx.ou 0) rfl rfl rfl (fun _ _ _ _ _=> .intro)) fun aA W1 ay=>?_
 refine sqp [.k 2 (.string ⟨#[]⟩)] ?_
 refine aa (wq (bP [0,1,3,0,8,24,63,127] [[],[],[0],[],[],[0]] [.c 3 (vp aA),.c 4 (.slice ((some ⟨aA,0,none⟩)) 256 256),.c 5 (.string (strOfNums ((bp h.1).take 256))),.c 6 (po aA 256),.c 7 (.slice ((some ⟨aA,256,none⟩)) 256 256),.c 8 (.string (strOfNums ((bp h.1).drop 256))),tS 9 (strOfNums ((bp h.1).take 256)) (strOfNums ((bp h.1).drop 256)) (by omega),.k 2 (.string ((strOfNums ((bp h.1).take 256))++(strOfNums ((bp h.1).drop 256))))] [0] [0,1,2,3,4,5] [(2,7,1,3),(0,0,7,7)] ay ?_ fun W3 aW=>?_))
 refine⟨?_,?_,?_,?_,?_,?_,trivial⟩
 exact xs4 rfl id fun cx=>jz (n:=2) (sz:=256) (m:=0) (q:=0) rfl (by kernel_rfl) (cx.ou 1) (cx.co _) (by omega) (by omega) (by omega)
 exact xs4 rfl id fun cx=>jS (n:=256) (e:=5) rfl (by kernel_rfl) (by kernel_rfl) (cx.an 0)
 exact xs4 rfl id fun cx=>uu (e:=5) (off:=0) (xs:=bp h.1) (ys:=(bp h.1).take 256) rfl (by kernel_rfl) (by kernel_rfl) (by kernel_rfl) (cx.an 1) (cx.bi 0 rfl) (by rw[List.drop_zero]) (by rw[gW,h.2];decide)
 exact xs4 rfl id fun cx=>jz (n:=2) (sz:=256) (m:=1) (q:=256) rfl (by kernel_rfl) (cx.ou 1) (cx.co _) (by omega) (by omega) (by omega)
 exact xs4 rfl id fun cx=>jS (n:=256) (e:=5) rfl (by kernel_rfl) (by kernel_rfl) (cx.an 3)
 exact xs4 rfl id fun cx=>uu (e:=5) (off:=256) (xs:=bp h.1) (ys:=(bp h.1).drop 256) rfl (by kernel_rfl) (by kernel_rfl) (by kernel_rfl) (cx.an 4) (cx.bi 0 rfl) (by rw[List.take_of_length_le];rw[List.length_drop,gW,h.2];decide) (by rw[gW,h.2];decide)
 refine aa (wp_ret ?_)
 refine bpr (.string ((strOfNums ((bp h.1).take 256))++(strOfNums ((bp h.1).drop 256)))) (ag Tryz.results88 rpt) ?_
 exact Ret.of (by rw[A3]) aW.ext
end
section
open Go.RowKit
def ql(xs:List Value)(off:Nat):List Value->List Value
 | []=>xs
 |v::l=>ql (xs.set off v) (off+1) l
theorem sf:∀(vs A B C:List Value),B.length=vs.length->ql (A++(B++C)) A.length vs=A++(vs++C)
 | [],A,B,C,h=>by
   obtain rfl:B=[]:=List.eq_nil_of_length_eq_zero h
   rfl
 |v::vs,A,[],C,h=>by simp at h
 |v::vs,A,b::B,C,h=>by
  rw[ql]
  have e:(A++(b::B++C)).set A.length v=(A++[v])++(B++C):=by simp
  have e2:A.length+1=(A++[v]).length:=by simp
  rw[e,e2,sf vs (A++[v]) B C (by simpa using h)]
  simp
theorem Dn{T:Type}{f:T->List Value}(hf:∀t,(f t).length=sz){ts:List T}{m:Nat}(h:m<ts.length)(t:T):ql (ts.flatMap f) (m*sz) (f t)=(ts.set m t).flatMap f:=by
 have hl:∀l:List T,(l.flatMap f).length=l.length*sz:=fun l=>by
  induction l with
  |nil=>simp
  |cons a l ih=>rw[List.flatMap_cons,List.length_append,ih,hf,List.length_cons,Nat.add_mul];omega
 have e:ts=ts.take m++(ts[m]::ts.drop (m+1)):=by rw[<-List.drop_eq_getElem_cons h,List.take_append_drop]
 have e2:ts.set m t=ts.take m++(t::ts.drop (m+1)):=by rw[List.set_eq_take_append_cons_drop,if_pos h]
 have e3:m*sz=((ts.take m).flatMap f).length:=by rw[hl,List.length_take,Nat.min_eq_left (by omega)]
 have e4:ts.flatMap f=(ts.take m).flatMap f++(f ts[m]++(ts.drop (m+1)).flatMap f):=by
  conv=>lhs;rw[e]
  rw[List.flatMap_append,List.flatMap_cons]
 rw[e2,e4,List.flatMap_append,List.flatMap_cons,e3,sf _ _ _ _ (by rw[hf,hf])]
section
variable{P:Program}{ops:Array Oper}{L:List Nat}{a0:Act}{w0:World}{bor:List Nat}{X0:List Ent}{us cr kl:List (List Nat)}
 {D:Nat->(Tmp->Value)->(Tmp->Value)->(Nat->Ent)->Prop}{i:Nat}{o:Oper}{ρ:Operand->Value}{β:Tmp->Value}{W:World}{X:Nat->Ent}
theorem rP{g n c:Nat}:∀(vs:List Value) (m i:Nat) (xs:List Value) (W:World),W.ownsRow 0 e sz (.slice (some ⟨g,0,none⟩) n c) n xs->m+i+vs.length<=n*sz->(∀v∈vs,v.oneCell'=true)->
  ∃W',(storeCells ⟨g,m,none⟩ vs i).run P W= .ok () W'/\Upd [g] W W'/\W'.ownsRow 0 e sz (.slice (some ⟨g,0,none⟩) n c) n (ql xs (m+i) vs):=by
 intro vs
 induction vs with
 |nil=>intro m i xs W hb _ _;exact⟨W,rfl,Upd.refl _ _,hb⟩
 |cons v vs ih=>
  intro m i xs W hown hle h1
  simp only[List.length_cons] at hle
  have hlen:xs.length=n*sz:=hown.1
  have hcell:W.cell? ⟨g,m+i,none⟩=some (xs[m+i]'(by omega)):=by
   rw[hown.cellAt (m+i) (by omega)]
   exact List.getElem?_eq_getElem (by omega)
  have hfz:=hown.frozenAt (m+i)
  have aZ:=(hown.stored (m+i) v).1
  obtain⟨W',h2,h3,h4⟩:=ih m (i+1) (xs.set (m+i) v) (W.setCell ⟨g,m+i,none⟩ v) aZ (by omega) (fun x hx=>h1 x (by simp[hx]))
  refine⟨W',?_,((Upd.refl [g] W).set (.inl (by simp)) v).trans h3,h4⟩
  unfold storeCells
  have hv:=h1 v (by simp)
  have fK:(store ((⟨g,m,none⟩:Addr).add i) v).run P W= .ok () (W.setCell ⟨g,m+i,none⟩ v):=by
   rw[Addr.add_lit]
   unfold store
   cases v<;>first|(simp[Value.oneCell'] at hv;done)|(simp[Sem.run,hcell,hfz])
  simp only[Sem.run_bind,fK,Result.andThen_ok,h2]
theorem rV{t:Nat}{A:Option Addr}{n c m:Nat}{v:Value}(h:o.op= .store t x y)(hx:ρ x= .pointer (some ((ad A).add m)))(hy:ρ y=v)(hz:szP P t=some k)(hn:v.cells.size=k)
  (h1:v.cells.toList.all Value.oneCell'=true) (cx:CtxV ops L a0 w0 bor X0 us D i ρ β W X) (hX:X q=eO e sz (.slice A n c) n xs) (hu:(atV us i).contains q=true) (hm:m+k<=n*sz) (hk0:0<k) (hd:o.dst=none){xs':List Value}(jP:ql xs m v.cells.toList=xs')
  (hc:atV cr i=[q']) (hk:atV kl i=[q]) (hD:∀(j p:Tmp->Value) (X':Nat->Ent),(∀t,j t=ρ (.tmp t))->(∀t,p t=β t)->X' q'=eO e sz (.slice A n c) n xs'->D i j p X'):am P o ρ W (bX cr kl D i o.dst ρ β W X):=by
 subst jP
 have hok:=cx.ok q hu
 rw[hX] at hok
 have hown:W.ownsRow 0 e sz (.slice A n c) n xs:=hok.holds
 obtain⟨g,rfl⟩:∃g,A=some ⟨g,0,none⟩:=by
  rcases hown.2 with ⟨hv,hm0⟩|⟨g,cap,cur,hv,_⟩
  subst hm0;rw[Nat.zero_mul] at hm;omega
  injection hv with h1 h2 h3;exact⟨g,h1⟩
 have hadd:(ad (some ⟨g,0,none⟩)).add m=⟨g,m,none⟩:=by rw[ad,Option.getD_some,Addr.add_lit,Nat.zero_add]
 obtain⟨W',h2,h3,h4⟩:=rP (P:=P) v.cells.toList m 0 xs W hown (by simp[hn];exact hm) (fun u hu=>List.all_eq_true.1 h1 u hu)
 have hrun:(execOp ρ o).run P W= .ok .skip W':=by
  unfold execOp;rw[h]
  simp only[hx,hy,hadd,Instr.storeAt,Instr.sureAddr,storeVar,Sem.run_bind,Sem.run_pure,Result.andThen_ok,dl hz,hn,ne_eq,not_true_eq_false,if_false]
  rw[h2]
  rfl
 rw[Nat.add_zero] at h4
 refine am.skip hrun ⟨[eO e sz (.slice (some ⟨g,0,none⟩) n c) n (ql xs m v.cells.toList)],by rw[hc];rfl,⟨?_,fun e' he=>?_,List.pairwise_singleton _ _⟩,fun j p X' hs hv hb' hbv hx' hN=>hD j p X' (fun t=>hs t (by rw[hd];simp)) (fun t=>hb' t (by rw[hd];simp)) ?_⟩
 rw[hk]
 simp only[List.flatMap_cons,List.flatMap_nil,List.append_nil,hX]
 exact h3.mono (fun k _ hk'=>by simp at hk';subst hk';simp[eO,Value.ownBlock])
 rw[List.mem_singleton] at he
 subst he
 refine⟨h4,gn _ _ _ _ _,fun k hk'=>?_⟩
 have hkg:k=g:=by simpa[eO,Value.ownBlock] using hk'
 subst hkg
 refine⟨.inl ?_,e8 h4 k (by simp[Value.ownBlock])⟩
 rw[hk]
 simp[hX,eO,Value.ownBlock]
 rw[hc] at hN
 exact(List.cons.inj hN).1
end
end
section
open Go.RowKit
def rdT(x:ShD):H5:=x.ws.getLast?.getD x.safe
def gL:ShD:=⟨z5,[]⟩
def rdS(D:DkM)(n:Int):ByteArray×Int:=if D.off=true then (⟨#[]⟩,24) else if 0<=n/\n<(D.pgs.length:Int) then ((rdT (D.pgs.getD n.toNat gL)).1,0) else (⟨#[]⟩,22)
theorem my(t:ShT):(shC t)[512]? =some (.slice t.A t.ws.length t.c):=by
 rw[shC,List.getElem?_append_right (by rw[cX];exact Nat.le_refl _),cX];rfl
theorem rn(h:H5):∀v∈hvC h,v.oneCell'=true:=fun v hv=>by
 obtain⟨x,_,rfl⟩:=List.mem_map.1 hv
 rfl
theorem Kl(t:ShT):∀v∈shC t,v.oneCell'=true:=fun v hv=>by
 rcases List.mem_append.1 hv with h|h
 exact rn _ v h
 rw[List.mem_singleton] at h;subst h;rfl
theorem BH(h:k<Ps.length):∃t,Ps[k]? =some t:=⟨_,List.getElem?_eq_getElem h⟩
theorem IC{l:List ShD}(h:Ps.map ee=l)(ht:Ps[k]? =some t):l.getD k gL=ee t:=by
 rw[<-h,List.getD_eq_getElem?_getD,List.getElem?_map,ht];rfl
theorem EW{D:DkM}(ho:D.off=false)(h:Ps.map ee=D.pgs)(ht:Ps[k]? =some t):rdS D (k:Int)=((rdT (ee t)).1,0):=by
 have hl:D.pgs.length=Ps.length:=by rw[<-h,List.length_map]
 have hk:=(List.getElem?_eq_some_iff.1 ht).1
 rw[rdS,if_neg (by rw[ho];decide),if_pos ⟨by omega,by omega⟩,Int.toNat_natCast,IC h ht]
theorem HH(h:¬(0:Int)<(t.ws.length:Int)):rdT (ee t)=t.s:=by
 have:t.ws=[]:=List.eq_nil_of_length_eq_zero (by omega)
 rw[rdT,ee];dsimp only;rw[this];rfl
theorem xN{x:H5}(h:t.ws[k]? =some x)(hk:t.ws.length=k+1):rdT (ee t)=x:=by
 rw[rdT,ee];dsimp only;rw[List.getLast?_eq_getElem?,hk,Nat.add_sub_cancel,h];rfl
theorem JW(b:Nat)(D:DkM)(PA:Option Addr)(Pc:Nat)(GA:Option Addr)(gc:Nat)(Ps:List ShT)(n:Int)(w:World)(hB:DkO w b D PA Pc GA gc Ps)(hw:∀x∈D.pgs,x.ws.length<=1000000000):
  Calls Tryz.prog 37 #[po b 0,.int .i64 n] w (Ret (.tuple #[.string (rdS D n).1,.int .i64 (rdS D n).2]) w):=by
 go_enter Tryz.func37,Tryz.ntmps37
 have aj:=St.start w
 refine wq (sqr (sqp [.k 4 (.string ⟨#[]⟩),.k 5 (vi 0)] ?_))
 refine aa (wq (wp_block (wq ?_)))
 obtain⟨onv,hon⟩:∃z,(!D.off)=z:=⟨_,rfl⟩
 refine sqr (sqp [.m 9 0] ?_)
 refine sqk (.bool onv) aj (fun cx=>⟨_,re hon (IG b D PA Pc GA gc Ps _ (hB.ext cx.upd.to_ext)),(ax (cx.ou 9))⟩) fun W4 bc=>?_
 refine sqp [.k 11 (.bool (!(onv))),.m 8 11] ?_
 refine aa ?_
 rcases Bool.eq_false_or_eq_true (onv) with fL|fL
 refine wp_cond_false (show Act.eval _ _= .bool false from(congrArg Value.bool (by rw[fL];rfl))) (wq (sqr (sqp [.m 13 0,.m 14 1] ?_)))
 refine sqk (.bool ((decide (0<=n)&&decide (n<(D.pgs.length:Int))))) bc (fun cx=>⟨_,IJ b D PA Pc GA gc Ps n _ (hB.ext cx.upd.to_ext),(aM (cx.ou 13) (cx.ou 14))⟩) fun wU dO=>?_
 refine sqp [.k 16 (.bool (!((decide (0<=n)&&decide (n<(D.pgs.length:Int)))))),.m 12 16] ?_
 refine aa ?_
 rcases Bool.eq_false_or_eq_true ((decide (0<=n)&&decide (n<(D.pgs.length:Int)))) with gl|gl
 have jk:=gl
 simp only[zB] at jk
 obtain⟨Mh,Mi⟩:=jk
 refine wp_cond_false (show Act.eval _ _= .bool false from(congrArg Value.bool (by rw[gl];rfl))) (wp_skip (av (aa (wq ?_))))
 have hPl:D.pgs.length=Ps.length:=by rw[<-hB.ab,List.length_map]
 have hnn:0<=n/\n<(D.pgs.length:Int):=by have h_:=gl;simp at h_;omega
 obtain⟨k,rfl⟩:∃k:Nat,n=(k:Int):=⟨n.toNat,by omega⟩
 obtain⟨t,htk⟩:=BH (Ps:=Ps) (k:=k) (by omega)
 have htm:=List.mem_of_getElem? htk
 have hwt:t.ws.length<=1000000000:=hw _ (by rw[<-hB.ab];exact List.mem_map.2 ⟨t,htm,rfl⟩)
 refine sqr (sqp [.m 17 0,.k 18 (vp b),.k 19 (vp b)] ?_)
 refine sql (.slice PA D.pgs.length Pc) dO (fun cx=>ae rfl (by kernel_rfl) (cx.ou 19) ((Blk.ext hB.blkL cx.upd.to_ext).cell 0)) ?_
 refine sqp [.m 21 1] ?_
 refine sql (.pointer (some ((ad PA).add (k*513)))) dO (fun cx=>aB (e:=144) (m:=k) (sz:=513) rfl (by kernel_rfl) (by kernel_rfl) (cx.ou 20) (cx.ou 21) (by omega) (by omega) (hB.at_.ext cx.upd.to_ext) (bj (sz:=513) du (by decide) (by omega))) ?_
 refine sql (.agg (shC t).toArray) dO (fun cx=>bF (f:=shC) (m:=k) (sz:=513) (off:=0) (n:=513) rfl (by kernel_rfl) (by kernel_rfl) (cx.ou 22) (List.size_toArray.trans (du t)) du (hB.at_.ext cx.upd.to_ext) htk (fun k hk=>by rw[List.getElem?_toArray,Nat.zero_add])) ?_
 refine ea (fun x_=>pb x_) (fun fo=>vp fo) (fun fo=>eB fo 144 (shC sh0).toArray) dO (by
   refine svA fun h g W X cx=>?_
   exact dm (cs:=(shC sh0).toArray) rfl (by kernel_rfl) rfl rfl (fun _ _ _ _ _=> .intro)) fun fo r8 d8=>?_
 refine sqc (eB fo 144 (shC t).toArray) 0 d8 (by
   refine svA fun h g W X cx=>?_
   exact wD (n:=513) rfl (cx.ou 6) (show _=Value.agg (shC t).toArray from(cx.ou 23)) (by kernel_rfl) (by simp[du]) (by simp[du]) (Kl t) cx (cx.init 0 _ rfl) rfl rfl rfl rfl (fun _ _ _ _ _=>id)) fun wZ dF=>?_
 refine aa (wq (wq (sqr (sqp [.k 24 (po fo 512)] ?_))))
 refine sql (.slice t.A t.ws.length t.c) dF (fun cx=>ae rfl (by kernel_rfl) (cx.ou 24) (((cx.bi 0 rfl).cell 512).trans ((List.getElem?_toArray ..).trans (my t)))) ?_
 refine sqp [.k 26 (vi ((t.ws.length:Int))),.m 7 26] ?_
 refine aa (wq (sqr (sqp [.m 27 7,.k 28 (.bool (decide (0<(t.ws.length:Int))))] ?_)))
 refine aa (wds (fun Ig N4=>?_) fun Ig N4=>?_)
 refine wq ?_
 obtain⟨k2,hk2⟩:∃k2:Nat,t.ws.length=k2+1:=⟨t.ws.length-1,by have h_:=Ig;simp at h_;omega⟩
 obtain⟨x,hxk⟩:∃x,t.ws[k2]? =some x:=⟨_,List.getElem?_eq_getElem (by omega)⟩
 refine sqr (sqp [.k 29 (po fo 512)] ?_)
 refine sql (.slice t.A t.ws.length t.c) dF (fun cx=>ae rfl (by kernel_rfl) (cx.ou 29) (((cx.bi 0 rfl).cell 512).trans ((List.getElem?_toArray ..).trans (my t)))) ?_
 refine sqp [.m 31 7,sJ 32 ((t.ws.length:Int)-1) (k2:Int) (by omega) (by omega)] ?_
 refine sql (.pointer (some ((ad t.A).add (k2*512)))) dF (fun cx=>aB (e:=142) (m:=k2) (sz:=512) rfl (by kernel_rfl) (by kernel_rfl) (cx.ou 30) (cx.ou 32) (by omega) (by omega) ((hB.ws t htm).ext cx.upd.to_ext) (bj (sz:=512) cX (by decide) (by omega))) ?_
 refine sql (.agg (hvC x).toArray) dF (fun cx=>bF (f:=hvC) (m:=k2) (sz:=512) (off:=0) (n:=512) rfl (by kernel_rfl) (by kernel_rfl) (cx.ou 33) (List.size_toArray.trans (cX _)) cX ((hB.ws t htm).ext cx.upd.to_ext) hxk (fun k hk=>by rw[List.getElem?_toArray,Nat.zero_add])) ?_
 refine sqk (.string x.1) dF (fun cx=>⟨_,tK x _,(ax (cx.ou 34))⟩) fun zb eK=>?_
 refine sqp [.m 4 35,.k 5 (vi 0)] ?_
 refine aa (wp_ret (ai ?_))
 refine bpr (.tuple #[.string x.1,vi 0]) (aO Tryz.results37 rpt rpt) ?_
 exact Ret.of (by rw[EW (by have h_:=hon.trans fL;simpa using h_) hB.ab htk,xN hxk hk2]) eK.ext
 refine wp_skip (aa (wq (sqr (sqp [.k 36 (vp fo)] ?_))))
 refine sql (.agg (hvC t.s).toArray) dF (fun cx=>ce (n:=512) rfl (by kernel_rfl) (by kernel_rfl) (cx.ou 36) (cx.bi 0 rfl) (by rw[List.size_toArray,du];decide) (by rw[List.drop_zero,shC,List.take_left' (cX _)])) ?_
 refine sqk (.string t.s.1) dF (fun cx=>⟨_,tK t.s _,(ax (cx.ou 37))⟩) fun Fe gZ=>?_
 refine sqp [.m 4 38,.k 5 (vi 0)] ?_
 refine aa (wp_ret ?_)
 refine bpr (.tuple #[.string t.s.1,vi 0]) (aO Tryz.results37 rpt rpt) ?_
 exact Ret.of (by rw[EW (by have h_:=hon.trans fL;simpa using h_) hB.ab htk,HH (by simpa using Ig)]) gZ.ext
 have jk:=gl
 simp only[zB] at jk
 refine wp_cond_true (show Act.eval _ _= .bool true from(congrArg Value.bool (by rw[gl];rfl))) (wq (sqr (sqp [.k 4 (.string ⟨#[]⟩),.k 5 (vi 22)] ?_)))
 refine aa (wp_ret (bb (ai ?_)))
 refine bpr (.tuple #[.string ⟨#[]⟩,vi 22]) (aO Tryz.results37 rpt rpt) ?_
 exact Ret.of (by rw[rdS,if_neg (by have h_:=hon.trans fL;simpa using h_),if_neg (by have h_:=gl;simp at h_;omega)]) dO.ext
 refine wp_cond_true (show Act.eval _ _= .bool true from(congrArg Value.bool (by rw[fL];rfl))) (wq (sqr (sqp [.k 4 (.string ⟨#[]⟩),.k 5 (vi 24)] ?_)))
 refine aa (wp_ret (bb (ai ?_)))
 refine bpr (.tuple #[.string ⟨#[]⟩,vi 24]) (aO Tryz.results37 rpt rpt) ?_
 exact Ret.of (by rw[rdS,if_pos (by have h_:=hon.trans fL;simpa using h_)]) bc.ext
theorem EY(b:Nat)(D:DkM)(n:Int)(w:World)(h:jD w b D)(hw:∀x∈D.pgs,x.ws.length<=1000000000):Calls Tryz.prog 37 #[po b 0,.int .i64 n] w (Ret (.tuple #[.string (rdS D n).1,.int .i64 (rdS D n).2]) w):=by
 obtain⟨PA,Pc,GA,gc,Ps,h1⟩:=h
 exact JW b D PA Pc GA gc Ps n w h1 hw
end
section
open Go.RowKit
theorem AL{a a':Array Value}{Q:Ending->World->Prop}(h:a'=a)(hc:Calls Tryz.prog f a w Q):Calls Tryz.prog f a' w Q:=h ▸ hc
section
variable{P:Program}{ops:Array Oper}{L:List Nat}{a0:Act}{w0:World}{bor:List Nat}{X0:List Ent}{us cr kl:List (List Nat)}
 {D:Nat->(Tmp->Value)->(Tmp->Value)->(Nat->Ent)->Prop}{i:Nat}{o:Oper}{ρ:Operand->Value}{β:Tmp->Value}{W:World}{X:Nat->Ent}
theorem CtxV.ownF{E:Ent}(cx:CtxV ops L a0 w0 bor X0 us D i ρ β W X)(hX:X q=E)(hu:(atV us i).contains q=true):∀k∈E.fp,k∈bor\/w0.heap.size<=k:=fun k hk=>by
 subst hX;exact((cx.ok q hu).own k hk).1
theorem wo{t e u t':TypeId}{g n c:Nat}{xs':List Value}(h:o.op= .call {callee:= .builtin .copy,args:=#[x,y],argTypes:=#[t,u]})(ht:P.underlying t=some (.slice e))(hz:szP P e=some 1)
  (hx:ρ x= .slice (some ⟨g,off,none⟩) n c) (hy:ρ y= .string s)
  (cx:CtxV ops L a0 w0 bor X0 us D i ρ β W X) (hX:X q=eB g t' xs.toArray) (hu:(atV us i).contains q=true) (hn:off+s.size<=xs.length) (hs:s.size<=n) (hM:xs.take off++((bp s).map (Value.int .u8)++xs.drop (off+s.size))=xs')
  (hc:atV cr i=[q']) (hk:atV kl i=[q]) (hD:∀(j p:Tmp->Value) (X':Nat->Ent),(∀t,o.dst≠some t->j t=ρ (.tmp t))->(∀t,o.dst≠some t->p t=β t)->(∀d,o.dst=some d->j d= .int .i64 s.size)->X' q'=eB g t' xs'.toArray->D i j p X'):am P o ρ W (bX cr kl D i o.dst ρ β W X):=by
 have hok:=cx.ok q hu
 rw[hX] at hok
 have hb:Blk W g t' xs.toArray:=hok.holds
 have hnl:((bp s).map (Value.int .u8)).length=s.size:=by rw[List.length_map,gW]
 obtain⟨W',hr,hup,hb'⟩:=ol (P:=P) ((bp s).map (Value.int .u8)) off 0 _ W hb (by rw[List.size_toArray,hnl];omega) (fun v hv=>by obtain⟨z,_,rfl⟩:=List.mem_map.1 hv;rfl)
 have hputs:nL xs.toArray (off+0) ((bp s).map (Value.int .u8))=xs'.toArray:=by
  rw[<-hM]
  have hp:∀(ys pre mid suf:List Value),ys.length=mid.length->nL (pre++(mid++suf)).toArray pre.length ys=(pre++(ys++suf)).toArray:=by
   intro ys
   induction ys with
   |nil=>intro pre mid suf hl;rw[List.eq_nil_of_length_eq_zero (l:=mid) hl.symm];rfl
   |cons y ys ih=>
    intro pre mid suf hl
    cases mid with
    |nil=>simp at hl
    |cons z mid=>
     rw[nL]
     have e:(pre++(z::mid++suf)).toArray.setIfInBounds pre.length y=((pre++[y])++(mid++suf)).toArray:=by simp
     rw[e,show pre.length+1=(pre++[y]).length by simp,ih (pre++[y]) mid suf (by simpa using hl)]
     simp
  have e1:xs=xs.take off++((xs.drop off).take s.size++xs.drop (off+s.size)):=by
   rw[<-List.drop_drop,List.take_append_drop,List.take_append_drop]
  have e2:(xs.take off).length=off:=by rw[List.length_take];omega
  have h2:=hp ((bp s).map (Value.int .u8)) (xs.take off) ((xs.drop off).take s.size) (xs.drop (off+s.size)) (by rw[hnl,List.length_take,List.length_drop];omega)
  rw[<-e1,e2] at h2
  exact h2
 rw[hputs] at hb'
 have hmin:Nat.min s.size n=s.size:=Nat.min_eq_left hs
 have hrun:(execOp ρ o).run P W= .ok (.value (.int .i64 s.size)) W':=by
  unfold execOp;rw[h]
  cases hq:P.info? e with
  |none=>simp[szP,hq] at hz
  |some inf=>
   have htk:List.take s.size (List.map (fun b:UInt8=>Value.int IntKind.u8 (b.toNat:Int)) s.data.toList)=(bp s).map (Value.int .u8):=by
    rw[List.take_of_length_le (by rw[List.length_map,Array.length_toList];exact Nat.le_refl _),bp,List.map_map]
    rfl
   simp[hx,hy,resolve,invoke,builtin,Builtin.copy_,run_underlying ht,Builtin.lenOf,Builtin.firstCells,sizeOf,typeInfo,hq,hmin]
   rw[htk,hr]
   simp[Result.andThen,goInt]
 refine am.value hrun ⟨[eB g t' xs'.toArray],by rw[hc];rfl,⟨?_,fun e' he=>?_,List.pairwise_singleton _ _⟩,fun j p X' hs' hv hb' hbv hx' hN=>hD j p X' hs' hb' (fun d hd=>hv d hd) ?_⟩
 rw[hk]
 simp only[List.flatMap_cons,List.flatMap_nil,List.append_nil,hX]
 exact hup
 rw[List.mem_singleton] at he
 subst he
 refine⟨hb',d7 _ _ _,fun k hk'=>?_⟩
 have hkb:k=g:=by simpa[eB] using hk'
 subst hkb
 exact⟨.inl (by rw[hk];simp[hX,eB]),hb'.lt⟩
 rw[hc] at hN
 exact(List.cons.inj hN).1
end
def sK(s:ByteArray):List Value:=(bp (s.extract 0 256)++List.replicate 256 0).map (Value.int .u8)
theorem um{h:H5}:(h.1.extract 0 256).size=256:=by rw[ByteArray.size_extract,h.2];rfl
theorem Bx{h:H5}:(h.1.extract 256 h.1.size).size=256:=by rw[ByteArray.size_extract,h.2];rfl
theorem yN(h:H5):(sK h.1).length=512:=by rw[sK,List.length_map,List.length_append,gW,um,List.length_replicate]
theorem J5(h:H5):(((List.replicate 512 (0:Int)).map (Value.int .u8)).take 0++((bp (h.1.extract 0 256)).map (Value.int .u8)++((List.replicate 512 (0:Int)).map (Value.int .u8)).drop (0+(h.1.extract 0 256).size)))=sK h.1:=by
 rw[um,List.take_zero,List.nil_append,<-List.map_drop,List.drop_replicate,<-List.map_append];rfl
theorem Kq(h:H5):((sK h.1).take 256++((bp (h.1.extract 256 h.1.size)).map (Value.int .u8)++(sK h.1).drop (256+(h.1.extract 256 h.1.size).size)))=hvC h:=by
 have hl:(bp (h.1.extract 0 256)).length=256:=by rw[gW,um]
 rw[Bx,List.drop_of_length_le (by rw[yN];exact Nat.le_refl _),List.append_nil,sK,<-List.map_take,List.take_left' hl,<-List.map_append,<-xz,hvC]
 have e:h.1.extract 0 256++h.1.extract 256 h.1.size=h.1:=by
  apply ia
  rw[cV,gv,gv,h.2,List.drop_zero,Nat.sub_zero,List.take_of_length_le (l:=(bl h.1).drop 256) (by rw[List.length_drop,bT,h.2];decide),List.take_append_drop]
 rw[e]
theorem E9(h:H5)(w:World):
  Calls Tryz.prog 191 #[.string h.1] w (Ret (.agg (hvC h).toArray) w):=by
 go_enter Tryz.func191,Tryz.ntmps191
 have aj:=St.start w
 refine wq (sqr ?_)
 refine ea (fun x_=>pb x_) (fun br=>vp br) (fun br=>eB br 142 ((List.replicate 512 (0:Int)).map (Value.int .u8)).toArray) aj (by
   refine svA fun p g W X cx=>?_
   exact dm (cs:=((List.replicate 512 (0:Int)).map (Value.int .u8)).toArray) rfl (by kernel_rfl) rfl rfl (fun _ _ _ _ _=> .intro)) fun br W1 ay=>?_
 refine aa (wq (sqr ?_))
 refine ea (fun x_=>pb x_) (fun ck=>vp ck) (fun ck=>eB ck 142 ((List.replicate 512 (0:Int)).map (Value.int .u8)).toArray) ay (by
   refine svA fun p g W X cx=>?_
   exact dm (cs:=((List.replicate 512 (0:Int)).map (Value.int .u8)).toArray) rfl (by kernel_rfl) rfl rfl (fun _ _ _ _ _=> .intro)) fun ck W2 bu=>?_
 refine aa (wq (sqr (sqp [.k 4 (vi 256)] ?_)))
 refine aa (wq ?_)
 have hz5:=h.2
 refine aG [0,1,0,0,12,31] [[],[],[],[],[],[1]] [[],[],[],[],[],[2]] [[],[],[],[],[],[1]] [.c 5 (vp ck),.c 6 (.slice ((some ⟨ck,0,none⟩)) 256 256),.k 7 (.string h.1),.k 8 (vi 256),.c 9 (.string (h.1.extract 0 256)),.a 10] (fun ix j g X=>match ix with|0|1|2|3|4=>True|5=>j 10=vi (((h.1.extract 0 256).size:Int))/\X 2=eB ck 142 (sK h.1).toArray|_=>True) [0,2] [0,1,4,5] [(5,0,6,11)] bu ?_ ?_ ?_
 exact fun ix _ _ _ _ _ _ hs hb hx h=>match ix,h with
 |5,h=>by dsimp only;rw[<-hs 10 rfl,<-hx 2 rfl];exact h
 |0,_|1,_|2,_|3,_|4,_|_+6,_=>trivial
 refine⟨?_,?_,?_,?_,trivial⟩
 exact xs4 rfl id fun cx=>jz (n:=2) (sz:=256) (m:=0) (q:=0) rfl (by kernel_rfl) (cx.ou 3) (cx.co _) (by omega) (by omega) (by omega)
 exact xs4 rfl id fun cx=>jS (n:=256) (e:=5) rfl (by kernel_rfl) (by kernel_rfl) (cx.an 0)
 exact xs4 rfl id fun cx=>gO (l:=256) rfl (by kernel_rfl) (cx.an 2) (cx.an 3) (by omega) (by omega)
 refine svA fun p g W X cx=>?_
 exact wo (e:=5) (off:=0) rfl (by kernel_rfl) (by kernel_rfl) (cx.an 1) (cx.an 4) cx (cx.init 1 _ rfl) rfl (by rw[um];simp) (by rw[um];decide) (J5 h) rfl rfl (fun j u X' hs hb hv hx=>⟨hv 10 rfl,hx⟩)
 intro j g X W4 hD bc fr aD
 simp only[exq 2 ((dTn (hD 5 lq)).2)] at bc
 simp only[ed 10 ((dTn (hD 5 lq)).1)] at aD
 clear hD;subst aD;clear j g X
 refine aa (wq (aG [0,1,0,0,12,31] [[],[],[],[],[],[1]] [[],[],[],[],[],[2]] [[],[],[],[],[],[1]] [.c 11 (po ck 256),.c 12 (.slice ((some ⟨ck,256,none⟩)) 256 256),.k 13 (.string h.1),.k 14 (vi 256),.c 15 (.string (h.1.extract 256 h.1.size)),.a 16] (fun ix j g X=>match ix with|0|1|2|3|4=>True|5=>j 16=vi (((h.1.extract 256 h.1.size).size:Int))/\X 2=eB ck 142 (hvC h).toArray|_=>True) [0,2] [0,1,4,5] [(11,0,6,17)] bc ?_ ?_ ?_))
 exact fun ix _ _ _ _ _ _ hs hb hx h=>match ix,h with
 |5,h=>by dsimp only;rw[<-hs 16 rfl,<-hx 2 rfl];exact h
 |0,_|1,_|2,_|3,_|4,_|_+6,_=>trivial
 refine⟨?_,?_,?_,?_,trivial⟩
 exact xs4 rfl id fun cx=>jz (n:=2) (sz:=256) (m:=1) (q:=256) rfl (by kernel_rfl) (cx.ou 3) (cx.co _) (by omega) (by omega) (by omega)
 exact xs4 rfl id fun cx=>jS (n:=256) (e:=5) rfl (by kernel_rfl) (by kernel_rfl) (cx.an 0)
 exact xs4 rfl id fun cx=>gI (l:=256) rfl (by kernel_rfl) (cx.an 2) (cx.an 3) (by omega) (by omega)
 refine svA fun p g W X cx=>?_
 exact wo (e:=5) (off:=256) rfl (by kernel_rfl) (by kernel_rfl) (cx.an 1) (cx.an 4) cx (cx.init 1 _ rfl) rfl (by rw[Bx];rw[yN];decide) (by rw[Bx];decide) (Kq h) rfl rfl (fun j u X' hs hb hv hx=>⟨hv 16 rfl,hx⟩)
 intro j g X W5 hD aR fr aD
 simp only[exq 2 ((dTn (hD 5 lq)).2)] at aR
 simp only[ed 16 ((dTn (hD 5 lq)).1)] at aD
 clear hD;subst aD;clear j g X
 refine aa (wq (sqr ?_))
 refine sql (.agg (hvC h).toArray) aR (fun cx=>Cx (n:=512) rfl (by kernel_rfl) (by kernel_rfl) (cx.ou 3) (cx.bi 1 rfl) (by simp[cX])) ?_
 refine sqc (eB br 142 (hvC h).toArray) 0 aR (by
   refine svA fun p g W X cx=>?_
   exact wD (n:=512) rfl (cx.ou 2) (show _=Value.agg (hvC h).toArray from(cx.ou 17)) (by kernel_rfl) (by simp[cX]) (by simp[cX]) (rn h) cx (cx.init 0 _ rfl) rfl rfl rfl rfl (fun _ _ _ _ _=>id)) fun W7 aQ=>?_
 refine aa (wp_ret ?_)
 refine bpr (.agg (hvC h).toArray) (bG (n:=512) Tryz.results191 rfl (by kernel_rfl) (by kernel_rfl) (aQ.blk 0 rfl) (by simp[cX])) ?_
 exact Ret.of rfl aQ.ext
theorem AX(b:Nat)(D:DkM)(er:Int)(D2:DkM->DkM)(f1 f2:FuncId)(cap1 cap2:Array Value)(fp:List Nat)(w:World)(hB:(eDk b D fp).holds w)(hlt:∀k∈fp,k<w.heap.size)(hcf1:gU Tryz.prog f1=true)(hcf2:gU Tryz.prog f2=true)(hf1:∀W,Upd fp w W->jD W b D->Calls Tryz.prog f1 cap1 W (Ret (.int .i64 er) W))(hf2:er=0->∀W fp1,Upd fp w W->(eDk b {D with left:=cS D.left} fp1).holds W->(∀k∈fp1,k<W.heap.size)->(∀k∈fp1,k∈fp\/w.heap.size<=k)->Calls Tryz.prog f2 cap2 W (mf b (D2 {D with left:=cS D.left}) fp1 W)):
  Calls Tryz.prog 126 #[po b 0,.func (.func f1) #[] cap1,.func (.func f2) #[] cap2] w (bV b (opD D er D2) fp w):=by
 have st1:St w fp [eDk b D fp] w:=St.lend hB (dV _ _ _) hlt
 go_enter Tryz.func126,Tryz.ntmps126
 have aj:=st1
 refine wq (sqr (sqp [.k 6 (vi 0)] ?_))
 refine aa (wq (wq ?_))
 obtain⟨onv,hon⟩:∃z,(!D.off)=z:=⟨_,rfl⟩
 refine sqr (sqp [.m 8 0] ?_)
 refine sqk (.bool onv) aj (fun cx=>⟨_,re hon (ml b D _ (fc (CtxV.holdF cx (cx.init 0 _ rfl) rfl))),(ax (cx.ou 8))⟩) fun W3 aW=>?_
 refine sqp [.k 10 (.bool (!(onv)))] ?_
 refine aa ?_
 rcases Bool.eq_false_or_eq_true (onv) with eY|eY
 ·refine wp_cond_false (show Act.eval _ _= .bool false from(congrArg Value.bool (by rw[eY];rfl))) (wp_skip (aa (wq (wq (sqr (sqp [.m 11 1] ?_))))))
  refine sqv (vi er) aW (iA rfl rfl rfl rfl rfl (fun _ _ _ h=>h) fun g c W X cx=>⟨_,_,cN (f:=f1) (args:=#[]) (args':=#[]++cap1) rfl rfl (cx.ou 11) hcf1 jo (by rw[Array.empty_append]),AL Array.empty_append (hf1 _ cx.upd (fc (CtxV.holdF cx (cx.init 0 _ rfl) rfl)))⟩) fun W7 aQ=>?_
  refine sqp [.m 7 12] ?_
  refine aa (wq (sqr (sqp [.m 13 7,.k 14 (.bool (er != 0))] ?_)))
  refine aa (wbs (fun dn=>?_) fun dn=>?_)
  have g9:=bne_iff_ne.1 dn
  refine wq (sqr (sqp [.m 15 7,.m 6 15] ?_))
  refine aa (wp_ret (ai ?_))
  refine bpr (vi er) (ag Tryz.results126 rpt) ?_
  exact bV.of (R':=(D,er)) (by rw[opD,if_neg (by have h_:=hon.trans eY;simpa using h_),if_pos (by simpa using dn)]) aQ
  have g9:=bne_eq_false_iff_eq.1 dn
  refine wp_skip (aa (wq (wq ?_)))
  have hD_:(eDk b D fp).holds W7:=(aQ.ok _ (List.mem_singleton.2 rfl)).holds
  obtain⟨PA,Pc,GA,gc,Ps,Qs,hps,hsub,hfp,hap,hall⟩:=hD_
  have gy:St w fp [eB b 100 #[.slice PA D.pgs.length Pc,.slice GA D.log.size gc,vi ((D.fl:Int)),.bool D.off,.bool D.armed,vi D.left],eO 144 513 (.slice PA D.pgs.length Pc) D.pgs.length (Ps.flatMap shC),eO 5 1 (.slice GA D.log.size gc) D.log.size ((bp D.log).map (Value.int .u8)),eWs Qs] W7:=St.unpack aQ hfp hall hap
  refine sqr (sqp [.m 16 0,.k 17 (vp b),.k 18 (po b 4)] ?_)
  refine aq 0 gy ?_
  refine sqp [.m 20 19] ?_
  refine d3 20 [21,22,23,24,25] ?_ rfl (fun hq=>?_) ?_
  rotate_left
  refine sqp [.m 21 0,.k 22 (vp b),.k 23 (po b 5)] ?_
  refine aq 0 gy ?_
  refine sqp [.k 25 (.bool (decide (D.left<=0)))] ?_
  exact sqe
  refine c5 ?_
  refine sqp [sPa 26 D.armed (decide (D.left<=0))] ?_
  refine aa (wbs (fun fg=>?_) fun fg=>?_)
  have fb:=fg
  simp only[zB] at fb
  obtain⟨zm,zn⟩:=fb
  refine wq (sqr (sqp [.m 27 0,.k 28 (vp b),.k 29 (po b 3)] ?_))
  refine aX (n:=1) 0 #[.slice PA D.pgs.length Pc,.slice GA D.log.size gc,vi ((D.fl:Int)),.bool true,.bool D.armed,vi D.left] gy fun Fg jB=>?_
  refine aa (wq (sqr (sqp [.k 6 (vi 24)] ?_)))
  refine aa (wp_ret (ai ?_))
  refine bpr (vi 24) (ag Tryz.results126 rpt) ?_
  obtain⟨fp2,hk_⟩:=St.dk (L:=[]) (D:={D with off:=true}) (PA:=PA) (Pc:=Pc) (GA:=GA) (gc:=gc) (jB.pick [0,1,2,3] (by decide) rfl) hps hsub
  exact bV.of (R':=({D with off:=true},24)) (by rw[opD,if_neg (by have h_:=hon.trans eY;simpa using h_),if_neg (by simpa using dn),if_pos (by simpa using fg)]) hk_
  have fb:=fg
  simp only[zB] at fb
  refine wp_skip (aa (wq (sqr (sqp [.m 30 0,.k 31 (vp b),.k 32 (po b 5)] ?_))))
  refine aq 0 gy ?_
  refine sqp [.k 34 (vi ((cS D.left))),.k 35 (vp b),.k 36 (po b 5)] ?_
  refine aX (n:=1) 0 #[.slice PA D.pgs.length Pc,.slice GA D.log.size gc,vi ((D.fl:Int)),.bool D.off,.bool D.armed,vi ((cS D.left))] gy fun qD dq=>?_
  refine aa (wq ?_)
  obtain⟨D1,hD1⟩:∃z,({D with left:=cS D.left}:DkM)=z:=⟨_,rfl⟩
  obtain⟨fp2,hk_40⟩:=St.dk (L:=[]) (D:={D with left:=cS D.left}) (PA:=PA) (Pc:=Pc) (GA:=GA) (gc:=gc) (dq.pick [0,1,2,3] (by decide) rfl) hps hsub
  simp only[List.nil_append] at hk_40
  rw[hD1] at hk_40 hf2
  have hf2:=hf2 (by simpa using dn)
  refine sqr (sqp [.m 37 2] ?_)
  refine bM (fun X_=>X_.fp) (.tuple #[]) (fun nz=>eDk b (D2 D1) nz) 0 hk_40 (by
    refine svA fun g c W X cx=>?_
    refine am.call (cN (f:=f2) (args:=#[]) (args':=#[]++cap2) rfl rfl (cx.ou 37) hcf2 jo (by rw[Array.empty_append])) ?_
    refine(AL Array.empty_append (hf2 _ _ cx.upd (CtxV.holdF cx (cx.init 0 _ rfl) rfl) (CtxV.ltF cx (cx.init 0 _ rfl) rfl) (CtxV.ownF cx (cx.init 0 _ rfl) rfl))).mono ?_
    rintro e W1 ⟨rfl,fp4,aT⟩
    refine⟨_,rfl,aK (E:=eDk b D1 fp2) [eDk b (D2 D1) fp4] (cx.init 0 _ rfl) rfl rfl aT (fun j p X' hs hb hv hN=>?_)⟩
    have aJ:=(hv 38 rfl).1;have aV:=(hv 38 rfl).2
    exact⟨aJ.trans rfl,cJ ((List.cons.inj hN).1)⟩) fun nz pP eN=>?_
  refine aa (wq (sqr (sqp [.k 6 (vi 0)] ?_)))
  refine aa (wp_ret ?_)
  refine bpr (vi 0) (ag Tryz.results126 rpt) ?_
  exact bV.of (R':=(D2 D1,0)) (by rw[opD,if_neg (by have h_:=hon.trans eY;simpa using h_),if_neg (by simpa using dn),if_neg (by have h_:=fg;intro h2_;simp[h2_.1,h2_.2] at h_),hD1]) eN
 refine wp_cond_true (show Act.eval _ _= .bool true from(congrArg Value.bool (by rw[eY];rfl))) (wq (sqr (sqp [.k 6 (vi 24)] ?_)))
 refine aa (wp_ret (ai ?_))
 refine bpr (vi 24) (ag Tryz.results126 rpt) ?_
 exact bV.of (R':=(D,24)) (by rw[opD,if_pos (by simpa using hon.trans eY)]) aW
end
section
open Go.RowKit
theorem xH:∀(l pre suf:List Value),suf.length=l.length->(l.zipIdx pre.length).foldl (fun(cs:Array Value) (x:Value×Nat)=>cs.setIfInBounds (0+x.2) x.1) (pre++suf).toArray=(pre++l).toArray
 | [],pre,suf,h=>by rw[List.eq_nil_of_length_eq_zero (l:=suf) h];rfl
 |v::l,pre,[],h=>by simp at h
 |v::l,pre,z::suf,h=>by
  rw[List.zipIdx_cons,List.foldl_cons]
  dsimp only
  have e:(pre++z::suf).toArray.setIfInBounds (0+pre.length) v=((pre++[v])++suf).toArray:=by simp
  rw[e,show pre.length+1=(pre++[v]).length by simp,xH l (pre++[v]) suf (by simpa using h)]
  simp
theorem FW{c:Operand->Value}{t e:TypeId}{n:Nat}(h:o.op= .buildSlice t 1 #[(0,x)])(ht:P.underlying t=some (.slice e))(hz:szP P e=some n)(h0:(nv P e).isSome=true)(hx:c x= .agg xs.toArray)(hn:xs.length=n)(hn2:n<=16777216)(hn0:0<n):(execOp c o).run P W= .ok (.value (.slice (some ⟨W.heap.size,0,none⟩) (1:Nat) (1:Nat))) (W.alloc (.cells xs.toArray e)):=by
 cases hq:P.info? e with
 |none=>simp[szP,hq] at hz
 |some inf=>
  cases hq2:inf.zero with
  |none=>simp[nv,hq,hq2] at h0
  |some z=>
   have hinf:inf.size=n:=by simpa[szP,hq] using hz
   have hfill:Instr.fill (fun i=>some (i*n,n)) ((Array.range (1*n)).map fun i=>z.cells[i % z.cells.size]!) [(0,Value.agg xs.toArray)]=some xs.toArray:=by
    have hc:(Value.agg xs.toArray).cells=xs.toArray:=rfl
    unfold Instr.fill
    dsimp only
    rw[hc]
    have hsz:xs.toArray.size=n:=hn
    rw[if_neg (by simp[hsz,hn])]
    unfold Instr.fill
    congr 1
    rw[Nat.zero_mul,<-Array.foldl_toList,Array.toList_zipIdx]
    have h5:=xH xs [] ((Array.range (1*n)).map fun i=>z.cells[i % z.cells.size]!).toList (by simp[hn])
    rw[List.nil_append,List.nil_append,Array.toArray_toList] at h5
    exact h5
   have h1:(zeroValue e).run P W= .ok z W:=by
    unfold zeroValue
    simp only[Sem.run_bind,run_typeInfo _ hq,Result.andThen_ok,hq2,Sem.run_pure]
   unfold execOp;rw[h]
   simp only[List.map_toArray,List.map_cons,List.map_nil,hx,Instr.buildSlice,Sem.run_bind,run_underlying ht,Result.andThen_ok,dl hz,Nat.one_mul]
   rw[if_neg (by omega),if_neg (by omega)]
   rw[Nat.one_mul] at hfill
   simp only[Sem.run_bind,h1,Result.andThen_ok,Sem.run_pure,hfill,newRow,newObj]
   rfl
def jE(k:Nat)(h:H5)(D:DkM):DkM:={D with pgs:=D.pgs.set k ⟨(D.pgs.getD k gL).safe,(D.pgs.getD k gL).ws++[h]⟩}
def wrD(n:Int)(s:ByteArray)(D:DkM):DkM:=if h:s.size=512 then jE n.toNat ⟨s,h⟩ D else D
def wrE(D:DkM)(n:Int)(s:ByteArray):Int:=if 0<=n/\n<(D.pgs.length:Int) then (if s.size=512 then 0 else 1) else 22
theorem yx{α:Type}{l:List α}{x:α}(h:l[k]? =some x):∃A B,l=A++x::B/\A.length=k:=by
 obtain⟨hk,rfl⟩:=List.getElem?_eq_some_iff.1 h
 exact⟨l.take k,l.drop (k+1),by rw[<-List.drop_eq_getElem_cons hk,List.take_append_drop],by rw[List.length_take];omega⟩
theorem JA{α:Type}(A B:List α)(x y:α):(A++x::B).set A.length y=A++y::B:=by simp
theorem J4{α c:Type}(f:α->c)(A B:List α)(t:α)(y:c):(A.map f++f t::B.map f).set A.length y=A.map f++y::B.map f:=by
 have h:=JA (A.map f) (B.map f) (f t) y
 rw[List.length_map] at h;exact h
theorem DY(A B:List ShT)(t:ShT)(A':Option Addr)(c':Nat)(ws':List H5)(n':Nat)(hn:n'=ws'.length):((A++t::B).flatMap shC).set (A.length*513+512) (.slice A' n' c')=(A++⟨t.s,A',c',ws'⟩::B).flatMap shC:=by
 subst hn
 have hl:(A.flatMap shC).length=A.length*513:=me du A
 rw[List.flatMap_append,List.flatMap_cons,List.flatMap_append,List.flatMap_cons,<-hl,List.set_append_right _ _ (by omega),Nat.add_sub_cancel_left,List.set_append_left _ _ (by rw[du];decide)]
 have e:(shC t).set 512 (.slice A' ws'.length c')=shC ⟨t.s,A',c',ws'⟩:=by
  rw[shC,List.set_append_right _ _ (by rw[cX];decide),cX];rfl
 rw[e]
theorem St.outW{L:List Ent}{A:List ShT}(h:St w0 bor (L++[eWs (A++t::B)]) W):St w0 bor (L++[eWs (A++B),nJ t]) W:=by
 rw[eWs,List.map_append] at h |-
 exact St.outA h
theorem St.inW{L:List Ent}{A:List ShT}(h:St w0 bor (L++[eWs (A++B),nJ t]) W):St w0 bor (L++[eWs (A++t::B)]) W:=by
 rw[eWs,List.map_append] at h |-
 exact St.inA h
theorem K6(t:List H5)(h:H5):t.flatMap hvC++hvC h=(t++[h]).flatMap hvC:=by simp
theorem Tryz.infoHalvesJ:(Tryz.prog.info? 142).map (fun i=>(i.zero,i.size,i.bytes))=some (some (.agg ((List.replicate 512 (0:Int)).map (Value.int .u8)).toArray),512,512):=by kernel_rfl
theorem jD.ext{w':World}{D:DkM}(h:jD w b D)(hx:Ext w w'):jD w' b D:=let ⟨PA,Pc,GA,gc,Ps,h1⟩:=h;⟨PA,Pc,GA,gc,Ps,h1.ext hx⟩
theorem GM(b b3 b4 b5:Nat)(D:DkM)(n:Int)(s:ByteArray)(w:World)(hB:jD w b D)(h3:Blk w b3 30 #[po b 0])(h4:Blk w b4 3 #[.int .i64 n])(h5:Blk w b5 9 #[.string s]):
  Calls Tryz.prog 189 #[po b3 0,po b4 0,po b5 0] w (Ret (.int .i64 (wrE D n s)) w):=by
 go_enter Tryz.func189,Tryz.ntmps189
 have aj:=St.start w
 refine wq (sqr (sqp [.k 3 (vi 0)] ?_))
 refine aa (wq (wp_block (wq (sqr ?_))))
 refine sql (vp b) aj (fun cx=>ae rfl (by kernel_rfl) (cx.ou 0) ((Blk.ext h3 cx.upd.to_ext).cell 0)) ?_
 refine sql (vi n) aj (fun cx=>ae rfl (by kernel_rfl) (cx.ou 1) ((Blk.ext h4 cx.upd.to_ext).cell 0)) ?_
 refine sqk (.bool ((decide (0<=n)&&decide (n<(D.pgs.length:Int))))) aj (fun cx=>⟨_,Jl b D n _ (hB.ext cx.upd.to_ext),(aM (cx.ou 5) (cx.ou 6))⟩) fun W4 bc=>?_
 refine sqp [.k 8 (.bool (!((decide (0<=n)&&decide (n<(D.pgs.length:Int)))))),.m 4 8] ?_
 refine aa ?_
 rcases Bool.eq_false_or_eq_true ((decide (0<=n)&&decide (n<(D.pgs.length:Int)))) with fL|fL
 have nT:=fL
 simp only[zB] at nT
 obtain⟨RJ,RK⟩:=nT
 refine wp_cond_false (show Act.eval _ _= .bool false from(congrArg Value.bool (by rw[fL];rfl))) (wq (sqr ?_))
 refine sql (.string s) bc (fun cx=>ae rfl (by kernel_rfl) (cx.ou 2) ((Blk.ext h5 cx.upd.to_ext).cell 0)) ?_
 refine sqp [.k 11 (vi ((s.size:Int))),.k 12 (.bool ((s.size:Int) != 512)),.m 9 12] ?_
 refine aa (wbs (fun jp=>?_) fun jp=>?_)
 have jC:=bne_iff_ne.1 jp
 refine wq (sqr (sqp [.k 3 (vi 1)] ?_))
 refine aa (wp_ret (bb (ai ?_)))
 refine bpr (vi 1) (ag Tryz.results189 rpt) ?_
 exact Ret.int (by rw[wrE,if_pos (by have h_:=fL;simp at h_;omega),if_neg (by have h_:=jp;simp at h_;omega)]) bc.ext
 have jC:=bne_eq_false_iff_eq.1 jp
 refine wp_skip (av (aa (wq (sqr (sqp [.k 3 (vi 0)] ?_)))))
 refine aa (wp_ret ?_)
 refine bpr (vi 0) (ag Tryz.results189 rpt) ?_
 exact Ret.int (by rw[wrE,if_pos (by have h_:=fL;simp at h_;omega),if_pos (by have h_:=jp;simp at h_;omega)]) bc.ext
 have nT:=fL
 simp only[zB] at nT
 refine wp_cond_true (show Act.eval _ _= .bool true from(congrArg Value.bool (by rw[fL];rfl))) (wq (sqr (sqp [.k 3 (vi 22)] ?_)))
 refine aa (wp_ret (bb (ai ?_)))
 refine bpr (vi 22) (ag Tryz.results189 rpt) ?_
 exact Ret.int (by rw[wrE,if_neg (by have h_:=fL;simp at h_;omega)]) bc.ext
theorem GG(b b3 b4 b5:Nat)(D:DkM)(k:Nat)(h:H5)(fp:List Nat)(w:World)(hB:(eDk b D fp).holds w)(hlt:∀k∈fp,k<w.heap.size)(h3:Blk w b3 30 #[po b 0])(h4:Blk w b4 3 #[.int .i64 (k:Int)])(h5:Blk w b5 9 #[.string h.1])(n3:b3∉fp)(n4:b4∉fp)(n5:b5∉fp)(hk:k<D.pgs.length)(hw:∀x∈D.pgs,x.ws.length<=1000000000):
  Calls Tryz.prog 190 #[po b3 0,po b4 0,po b5 0] w (mf b (jE k h D) fp w):=by
 have st1:=St.lend hB (dV _ _ _) hlt
 obtain⟨PA,Pc,GA,gc,Ps,Qs,hps,hsub,hfp,hap,hall⟩:=hB
 have st0:=St.unpack st1 hfp hall hap
 subst hsub
 have hPl:D.pgs.length=Qs.length:=by rw[<-hps,List.length_map]
 obtain⟨t,htk⟩:=BH (Ps:=Qs) (k:=k) (by omega)
 have bZ:=IC hps htk
 obtain⟨A,B,rfl,rfl⟩:=yx htk
 have hwt:t.ws.length<=1000000000:=hw _ (by rw[<-hps];exact List.mem_map.2 ⟨t,by simp,rfl⟩)
 have st2:=St.outW (L:=[eB b 100 #[.slice PA D.pgs.length Pc,.slice GA D.log.size gc,.int .i64 ((D.fl:Int)),.bool D.off,.bool D.armed,.int .i64 D.left],eO 144 513 (.slice PA D.pgs.length Pc) D.pgs.length ((A++t::B).flatMap shC),eO 5 1 (.slice GA D.log.size gc) D.log.size ((bp D.log).map (Value.int .u8))]) st0
 simp only[List.cons_append,List.nil_append,nJ] at st2
 go_enter Tryz.func190,Tryz.ntmps190
 have aj:=st2
 refine aG [0,1,3,7,0,0,32,96,224,0,992,2016,4064,0,8192,24576,65504,131071,262143,524287] [[],[],[],[0],[],[],[],[],[0],[],[1],[],[1],[],[],[],[5,4],[1],[],[1]] [[],[],[],[],[],[],[],[],[],[],[],[],[],[],[],[5],[6],[],[],[7]] [[],[],[],[],[],[],[],[],[],[],[],[],[],[],[],[],[4],[],[],[1]] [.c 3 (vp b),.k 4 (vp b),.k 5 (vp b),.c 6 (.slice PA D.pgs.length Pc),.c 7 (vi ((A.length:Int))),.c 8 (vp b),.k 9 (vp b),.k 10 (vp b),.c 11 (.slice PA D.pgs.length Pc),.c 12 (vi ((A.length:Int))),.c 13 (.pointer (some ((ad PA).add (A.length*513)))),.c 14 (.pointer (some ((ad PA).add (A.length*513+512)))),.c 15 (.slice t.A t.ws.length t.c),.c 16 (.string h.1),.c 17 (.agg (hvC h).toArray),.a 18,.a 19,.c 20 (.pointer (some ((ad PA).add (A.length*513)))),.c 21 (.pointer (some ((ad PA).add (A.length*513+512)))),.n] (fun ix j g X=>match ix with|0|1|2|3|4|5|6|7|8|9|10|11|12|13|14=>True|15=>j 18= .slice ((some ⟨(pb' (g 18)),0,none⟩)) 1 1/\X 5=eO 142 512 (.slice ((some ⟨(pb' (g 18)),0,none⟩)) 1 1) 1 (hvC h)|16=>j 19= .slice (sA (g 19)) (t.ws.length+1) (sC (g 19))/\X 6=eO 142 512 (.slice (sA (g 19)) (t.ws.length+1) (sC (g 19))) (t.ws.length+1) ((t.ws++[h]).flatMap hvC)|17|18=>True|19=>X 7=eO 144 513 (.slice PA D.pgs.length Pc) D.pgs.length ((A++⟨t.s,(sA (g 19)),(sC (g 19)),t.ws++[h]⟩::B).flatMap shC)|_=>True) [0,2,3,5,6,7] [0,3,4,5,8,9,10,11,12,13,14,15,16,17,18,19] [(3,0,19,22)] aj ?_ ?_ ?_
 exact fun ix _ _ _ _ _ _ hs hb hx h=>match ix,h with
 |15,h=>by dsimp only;rw[<-hs 18 rfl,<-hb 18 rfl,<-hx 5 rfl];exact h
 |16,h=>by dsimp only;rw[<-hs 19 rfl,<-hb 19 rfl,<-hx 6 rfl];exact h
 |19,h=>by dsimp only;rw[<-hb 19 rfl,<-hx 7 rfl];exact h
 |0,_|1,_|2,_|3,_|4,_|5,_|6,_|7,_|8,_|9,_|10,_|11,_|12,_|13,_|14,_|17,_|18,_|_+20,_=>trivial
 refine⟨?_,?_,?_,?_,?_,?_,?_,?_,?_,?_,?_,?_,?_,?_,?_,?_,trivial⟩
 exact xs4 rfl id fun cx=>ae rfl (by kernel_rfl) (cx.ou 0) (Blk.cell (h3.upd cx.upd n3) 0)
 exact xs4 rfl id fun cx=>ae rfl (by kernel_rfl) (cx.an 2) ((cx.bi 0 rfl).cell 0)
 exact xs4 rfl id fun cx=>ae rfl (by kernel_rfl) (cx.ou 1) (Blk.cell (h4.upd cx.upd n4) 0)
 exact xs4 rfl id fun cx=>ae rfl (by kernel_rfl) (cx.ou 0) (Blk.cell (h3.upd cx.upd n3) 0)
 exact xs4 rfl id fun cx=>ae rfl (by kernel_rfl) (cx.an 7) ((cx.bi 0 rfl).cell 0)
 exact xs4 rfl id fun cx=>ae rfl (by kernel_rfl) (cx.ou 1) (Blk.cell (h4.upd cx.upd n4) 0)
 exact xs4 rfl id fun cx=>aB (e:=144) (m:=A.length) (sz:=513) rfl (by kernel_rfl) (by kernel_rfl) (cx.an 8) (cx.an 9) (by omega) (by omega) (At.of_ownN (cx.ri 1 rfl)) (bj (sz:=513) du (by decide) (by omega))
 exact xs4 rfl id fun cx=>bt rfl (by kernel_rfl) (cx.an 10)
 exact xs4 rfl id fun cx=>ae rfl (by kernel_rfl) (cx.an 11) (At.eltc (f:=shC) (k:=512) du (At.of_ownN (cx.ri 1 rfl)) htk (my t))
 exact xs4 rfl id fun cx=>ae rfl (by kernel_rfl) (cx.ou 2) (Blk.cell (h5.upd cx.upd n5) 0)
 exact xsc rfl id rfl rfl fun cx=>⟨_,E9 h _,(ax (cx.an 13))⟩
 refine svA fun p g W X cx=>?_
 have Pz:p (.tmp 17)= .agg (hvC h).toArray:=(cx.an 14)
 exact mp (e:=142) (sz:=512) (xs:=hvC h) rfl (FW (n:=512) rfl (by kernel_rfl) (by kernel_rfl) rfl Pz (cX h) (by decide) (by decide)) (by rw[cX]) (by decide) rfl rfl (fun _ _ _ _ _=> .intro)
 refine svA fun p g W X cx=>?_
 obtain⟨i0,hi0,hz0,hz1,hz2⟩:=info_parts Tryz.infoHalvesJ
 refine jh (n:=t.ws.length) (m:=1) (nm:=t.ws.length+1) (sz:=512) (xs:=t.ws.flatMap hvC) (news:=hvC h) (xs':=(t.ws++[h]).flatMap hvC) rfl (ty:=138) rfl (by kernel_rfl) hi0 hz0 hz1 hz2 rfl (by decide) (cx.an 12) cx (cx.init 4 _ rfl) rfl (dTn (cx.an 15)).1 (by rw[cX]) (At.of_ownN (cx.row (dTn (cx.an 15)).2 rfl)) (rn h) (by simp only[maxLen];omega) (by omega) rfl rfl rfl (by omega) ((K6 t.ws h)) (fun j u X' hs hb hv hx=>?_)
 exact⟨hv,hx⟩
 exact xs4 rfl id fun cx=>aB (e:=144) (m:=A.length) (sz:=513) rfl (by kernel_rfl) (by kernel_rfl) (cx.an 3) (cx.an 4) (by omega) (by omega) (At.of_ownN (cx.ri 1 rfl)) (bj (sz:=513) du (by decide) (by omega))
 exact xs4 rfl id fun cx=>bt rfl (by kernel_rfl) (cx.an 17)
 refine svA fun p g W X cx=>?_
 exact qe (m:=A.length*513+512) (n:=D.pgs.length) (sz:=513) rfl (cx.an 18) (dTn (cx.an 16)).1 (by kernel_rfl) rfl rfl cx (cx.init 1 _ rfl) rfl (by omega) rfl (DY A B t _ _ (t.ws++[h]) _ (by simp)) rfl rfl (fun j u X' hs hb hx=>by rw[hb 19];exact hx)
 intro j g X W1 hD ay fr aD
 simp only[exq 5 ((dTn (hD 15 lq)).2),exq 6 ((dTn (hD 16 lq)).2),exq 7 ((dTn (hD 19 lq)))] at ay
 simp only[ed 18 ((dTn (hD 15 lq)).1),ed 19 ((dTn (hD 16 lq)).1)] at aD
 generalize pb' (g 18)=RL,sA (g 19)=xn,sC (g 19)=xo at ay aD
 clear hD;subst aD;clear j g X
 refine bpe (.tuple #[]) (by simp[results,Tryz.results190,go_sem]) ?_
 have hl_:=St.inW (L:=[eB b 100 #[.slice PA D.pgs.length Pc,.slice GA D.log.size gc,vi ((D.fl:Int)),.bool D.off,.bool D.armed,vi D.left],eO 144 513 (.slice PA D.pgs.length Pc) D.pgs.length ((A++⟨t.s,xn,xo,t.ws++[h]⟩::B).flatMap shC),eO 5 1 (.slice GA D.log.size gc) D.log.size ((bp D.log).map (Value.int .u8))]) (t:=(⟨t.s,xn,xo,t.ws++[h]⟩:ShT)) (by have h_:=ay.pick [0,5,1,2,4] (by decide) rfl;rw[nJ];dsimp only;rw[List.length_append,List.length_singleton];exact h_)
 have hpl_:(jE A.length h D).pgs.length=D.pgs.length:=List.length_set
 exact⟨rfl,St.dk (L:=[]) (D:=jE A.length h D) (PA:=PA) (Pc:=Pc) (GA:=GA) (gc:=gc) (Ps:=A++(⟨t.s,xn,xo,t.ws++[h]⟩:ShT)::B) (Qs:=A++(⟨t.s,xn,xo,t.ws++[h]⟩:ShT)::B) (by rw[dkL,dkC,hpl_];exact hl_) (by rw[jE];dsimp only;rw[bZ,<-hps,List.map_append,List.map_append,List.map_cons,List.map_cons,J4];rfl) rfl⟩
theorem x9{D:DkM}{n:Int}(h:wrE D n s=0):(0<=n/\n<(D.pgs.length:Int))/\s.size=512:=by
 unfold wrE at h
 split at h
 rename_i h1
 split at h
 rename_i h2;exact⟨h1,h2⟩
 cases h
 cases h
theorem ER(b b3 b4 b5:Nat)(D:DkM)(n:Int)(s:ByteArray)(fp:List Nat)(w:World)(hB:(eDk b D fp).holds w)(hlt:∀k∈fp,k<w.heap.size)(h3:Blk w b3 30 #[po b 0])(h4:Blk w b4 3 #[.int .i64 n])(h5:Blk w b5 9 #[.string s])(n3:b3∉fp)(n4:b4∉fp)(n5:b5∉fp)(hw:∀x∈D.pgs,x.ws.length<=1000000000):Calls Tryz.prog 126 #[po b 0,.func (.func 189) #[] #[po b3 0,po b4 0,po b5 0],.func (.func 190) #[] #[po b3 0,po b4 0,po b5 0]] w (bV b (opD D (wrE D n s) (wrD n s)) fp w):=by
 refine AX b D (wrE D n s) (wrD n s) 189 190 _ _ fp w hB hlt (by kernel_rfl) (by kernel_rfl) (fun W hU hA=>GM b b3 b4 b5 D n s W hA (h3.upd hU n3) (h4.upd hU n4) (h5.upd hU n5)) (fun he W fp1 hU hh hl ho=>?_)
 obtain⟨h6,h7⟩:=x9 he
 obtain⟨k,rfl⟩:∃k:Nat,n=(k:Int):=⟨n.toNat,by omega⟩
 have hno:∀x,x∉fp->x<w.heap.size->x∉fp1:=fun x h8 h9 h10=>by
  rcases ho x h10 with h11|h11
  exact h8 h11
  omega
 have e1:wrD (k:Int) s {D with left:=cS D.left}=jE k ⟨s,h7⟩ {D with left:=cS D.left}:=by rw[wrD,dif_pos h7,Int.toNat_natCast]
 rw[e1]
 exact GG b b3 b4 b5 _ k ⟨s,h7⟩ fp1 W hh hl (h3.upd hU n3) (h4.upd hU n4) (h5.upd hU n5) (hno b3 n3 h3.lt) (hno b4 n4 h4.lt) (hno b5 n5 h5.lt) (by show k<D.pgs.length;omega) hw
theorem tM(b:Nat)(D:DkM)(n:Int)(s:ByteArray)(fp:List Nat)(w:World)(hB:(eDk b D fp).holds w)(hlt:∀k∈fp,k<w.heap.size)(hw:∀x∈D.pgs,x.ws.length<=1000000000):
  Calls Tryz.prog 169 #[po b 0,.int .i64 n,.string s] w (bV b (opD D (wrE D n s) (wrD n s)) fp w):=by
 have st1:St w fp [eDk b D fp] w:=St.lend hB (dV _ _ _) hlt
 go_enter Tryz.func169,Tryz.ntmps169
 have aj:=st1
 refine wq (sqr ?_)
 refine b9 #[vp b] aj fun cR W1 ay=>?_
 refine b9 #[vi n] ay fun dG W2 bu=>?_
 refine b9 #[.string s] bu fun pA W3 aW=>?_
 refine sqp [.k 6 (vi 0)] ?_
 refine aa (wq (sqr (aq 1 aW ?_)))
 refine sqv (.func (.func 189) #[] #[vp cR,vp dG,vp pA]) aW (by
   exact sv0 rfl rfl rfl rfl rfl (fun _ _ _ h=>h) fun c g W X cx=>by
    have fy:c (.tmp 3)=vp cR:=(cx.ou 3)
    have uG:c (.tmp 4)=vp dG:=(cx.ou 4)
    have qK:c (.tmp 5)=vp pA:=(cx.ou 5)
    simp[go_sem,Instr.makeFunc,fy,uG,qK]) fun W6 bK=>?_
 refine sqv (.func (.func 190) #[] #[vp cR,vp dG,vp pA]) bK (by
   exact sv0 rfl rfl rfl rfl rfl (fun _ _ _ h=>h) fun c g W X cx=>by
    have fy:c (.tmp 3)=vp cR:=(cx.ou 3)
    have uG:c (.tmp 4)=vp dG:=(cx.ou 4)
    have qK:c (.tmp 5)=vp pA:=(cx.ou 5)
    simp[go_sem,Instr.makeFunc,fy,uG,qK]) fun W7 aQ=>?_
 refine bM (fun X_=>X_.fp) (vi ((opD D (wrE D n s) (wrD n s)).2)) (fun Ms=>eDk b ((opD D (wrE D n s) (wrD n s)).1) Ms) 0 aQ (by
   refine svA fun c g W X cx=>?_
   refine am.call (au (args:=#[vp b,.func (.func 189) #[] #[vp cR,vp dG,vp pA],.func (.func 190) #[] #[vp cR,vp dG,vp pA]]) rfl cx.sees rfl (by kernel_rfl) (dL (cx.ou 7) (cx.ou 8) (cx.ou 9))) ?_
   refine(ER b _ _ _ D n s _ _ (CtxV.holdF cx (cx.init 0 _ rfl) rfl) (CtxV.ltF cx (cx.init 0 _ rfl) rfl) (cx.bi 1 rfl) (cx.bi 2 rfl) (cx.bi 3 rfl) (by have h_:=cx.ap 1 0 rfl rfl (by decide);rw[(cx.init 1 _ rfl),(cx.init 0 _ rfl)] at h_;exact h_ _ (List.mem_singleton.2 rfl)) (by have h_:=cx.ap 2 0 rfl rfl (by decide);rw[(cx.init 2 _ rfl),(cx.init 0 _ rfl)] at h_;exact h_ _ (List.mem_singleton.2 rfl)) (by have h_:=cx.ap 3 0 rfl rfl (by decide);rw[(cx.init 3 _ rfl),(cx.init 0 _ rfl)] at h_;exact h_ _ (List.mem_singleton.2 rfl)) hw).mono ?_
   rintro e W1 ⟨rfl,fp4,aT⟩
   refine⟨_,rfl,aK (E:=eDk b D fp) [eDk b (opD D (wrE D n s) (wrD n s)).1 fp4] (cx.init 0 _ rfl) rfl rfl aT (fun j p X' hs hb hv hN=>?_)⟩
   have aJ:=(hv 10 rfl).1;have aV:=(hv 10 rfl).2
   exact⟨aJ.trans rfl,cJ ((List.cons.inj hN).1)⟩) fun Ms W8 dB=>?_
 refine sqp [.m 6 10] ?_
 refine aa (wp_ret ?_)
 refine bpr (vi ((opD D (wrE D n s) (wrD n s)).2)) (ag Tryz.results169 rpt) ?_
 exact bV.of rfl (dB.pick [0] (by decide) rfl)
end
section
open Go.RowKit
abbrev Rnd(l:Nat):Fence:=Fence.wide.inRound l
def iw(ops:Array Oper):Bool:=ops.all fun o=>match o.op with| .defer _=>false|_=>true
theorem BI(h:iw ops=true)(ho:ops[i]? =some o):∀c,o.op≠ .defer c:=by
 intro c hc
 obtain⟨hi,he⟩:=Array.getElem?_eq_some_iff.1 ho
 have h2:=(Array.all_eq_true.1 h) i hi
 rw[he,hc] at h2
 cases h2
theorem O7{n:Nat}(hd:∀c,o.op≠ .defer c)(h:o.wp P a w K Q):o.wpIn (Rnd l) n P a w K Q:=by
 unfold Oper.wp at h
 refine⟨fun _ _=>trivial,?_⟩
 show o.uponIn (Rnd l) n P a K Q ((o.semAt (some l) a.eval).run P w)
 rw[Oper.semAt_eq (some l) a.eval o hd]
 generalize (execOp a.eval o).run P w=r at h |-
 cases r with
 |ok x w'=>
  cases x<;>simp only[Oper.upon,Oper.uponIn] at h |- <;>first
   |exact h
   |exact⟨fun hh=>by simp[Rnd,Fence.wide] at hh,CallsIn.inRound l (callsIn_wide.2 h)⟩
   |exact⟨fun hh=>by simp[Rnd,Fence.wide] at hh,fun c cs _=>let ⟨v,w',r,s⟩:=h c cs;⟨v,w',r,stepsIn_wide.2 s⟩⟩
 |halt x w'=>cases x<;>simp only[Oper.upon,Oper.uponIn] at h |- <;>exact h
section
variable{P:Program}{l n:Nat}{ops:Array Oper}{Q:Exit->Act->World->Prop}
theorem wP(hnd:iw ops=true)(hLo:¬LetsOut Q)(h:wpOp P ops Q i K a w):wpOpIn (Rnd l) n P ops Q i K a w:=by
 unfold wpOp at h
 unfold wpOpIn
 cases ho:ops[i]? with
 |none=>simp only[ho] at h |-;exact h
 |some o=>
  simp only[ho] at h |-
  split
  rename_i hw
  rw[if_pos hw] at h
  exact O7 (BI hnd ho) (h.resolve_right fun hh=>hLo hh.2)
  rename_i hw
  rw[if_neg hw] at h
  exact⟨fun _ _=>trivial,h⟩
theorem ug(hnd:iw ops=true)(hLo:¬LetsOut Q):∀(m:Nat) (listed:Array Bool) (a:Act) (w:World),wpAny P .any ops Q m listed a w->wpAnyIn (Rnd l) n P .any ops Q m listed a w
 |0,listed,a,w,h=>h
 |m+1,listed,a,w,h=>⟨h.1,fun i hi=>wpOpIn_mono (fun a w hh=>ug hnd hLo m _ a w hh) (wP hnd hLo (h.2 i hi))⟩
theorem oW(hnd:iw ops=true)(hLo:¬LetsOut Q):∀(is:List Nat) (a:Act) (w:World),wpOps P ops Q is a w->wpOpsIn (Rnd l) n P ops Q is a w
 | [],a,w,h=>h
 |i::is,a,w,h=>by
  rw[wpOps_cons] at h
  rw[wpOpsIn_cons]
  exact wpOpIn_mono (fun a w hh=>oW hnd hLo is a w hh) (wP hnd hLo h)
end
section
variable{P:Program}{ops:Array Oper}{L:List Nat}{w0:World}{bor:List Nat}{X0:List Ent}{us cr kl:List (List Nat)}{Q:Exit->Act->World->Prop}{l n:Nat}
theorem lD{t0:Array Value}(hnd:iw ops=true)(hm:P.follows .mixedOrders=true)(L:List Nat)(us cr kl:List (List Nat))(D:Nat->(Tmp->Value)->(Tmp->Value)->(Nat->Ent)->Prop)(fin:List Nat)
  (hL:f7 ops L=true) (hd:fj ops t0.size=true) (hflow:fZ ops.size X0.length L us cr kl=true) (hfin:jH ops.size X0.length cr kl fin=true)
  (hloc:ju ops X0.length L cr D) (aZ:St w0 bor X0 w) (em:gY (bL P ops L ⟨t0,d0⟩ w0 bor X0 us cr kl D) ops.size)
  (hrest:∀(c g:Tmp->Value) (X:Nat->Ent) (w':World),(∀i,i<ops.size->D i c g X)->(∀q e,X0[q]? =some e->X q=e)->St w0 bor (fin.map X) w'->
   ∀fr,fr=dp (bY ops) ((bY ops).map c) t0->Q .normal ⟨fr,d0⟩ w'):(Code.region id ops dr).wpIn (Rnd l) n P Q ⟨t0,d0⟩ w:=by
 have hs:∀i,i<ops.size->bL P ops L ⟨t0,d0⟩ w0 bor X0 us cr kl D i:=fun i hi=>em.get i hi
 obtain⟨Q',hQ'⟩:∃Q':Exit->Act->World->Prop,Q'=fun e a w=>e= .normal/\Q .normal a w:=⟨_,rfl⟩
 have hr:∀(a:Act) (w:World) (listed:Array Bool),(∀i,i<ops.size->listed.getD i false=true)->VInv ops L ⟨t0,d0⟩ w0 bor X0 cr kl D listed a w->Q' .normal a w:=fun a w listed hall inv=>by
  rw[hQ'];exact⟨rfl,x6 (a0:=⟨t0,d0⟩) hd hfin (fun c g X w' h1 h2 h3=>hrest c g X w' h1 h2 h3 _ rfl) hall inv⟩
 have hLo:¬LetsOut Q':=by rw[hQ'];rintro⟨a,w,h,_⟩;cases h
 refine wpIn_mono (Q:=Q') ?_ fun e a w h=>by rw[hQ'] at h;obtain⟨rfl,h⟩:=h;exact h
 cases dr with
 |true=>
  refine wpIn_region_any hm (ug hnd hLo _ _ _ _ (Be hL hd hflow hloc hs hr ops.size (Array.replicate ops.size false) ⟨t0,d0⟩ w.drew ?_ (l3 aZ.drew)))
  rw[List.countP_eq_length.2]
  simp
  intro i _
  rw[getD_replicate_false]
  rfl
 |false=>
  refine wpIn_region ?_
  rw[List.range_eq_range']
  exact oW hnd hLo _ _ _ (AV hL hd hflow hloc hs hr ops.size 0 (Array.replicate ops.size false) ⟨t0,d0⟩ w (by omega) (fun j=>by rw[getD_replicate_false];simp) (l3 aZ))
end
theorem w7{n:Nat}(L:List Nat)(us cr kl:List (List Nat))(tb:List TE)
  (A:Nat->(Tmp->Value)->(Tmp->Value)->(Nat->Ent)->Prop) (fin sp:List Nat) (rs:List (Nat×Nat×Nat×Nat)) (aZ:St w0 bor X0 w) (hloc:ju ops X0.length L cr A)
  (em:na (bL P ops L ⟨t0.toArray,d0⟩ w0 bor X0 us cr kl (fun ix c g X=>dT tb ix c (A ix c g X))) sp)
  (hrest:∀(c g:Tmp->Value) (X:Nat->Ent) (w':World),(∀i,i<ops.size->dT tb i c (A i c g X))->(∀q e,X0[q]? =some e->X q=e)->St w0 bor (fin.map X) w'->∀fr,fr=mgT tb c rs t0->Q .normal ⟨fr.toArray,d0⟩ w')
  (ht:lN P ops L t0.toArray tb 0 tb=tb.map iF:=by kernel_rfl) (hl:ie ops L cr kl sp 0 tb=true:=by kernel_rfl) (hn:tb.length=ops.size:=by kernel_rfl)
  (aD:∀c,dp (bY ops) ((gA ops).map (gk ops tb c)) t0.toArray=(mgT tb c rs t0).toArray:=by intro c;kernel_rfl)
  (hm:P.follows .mixedOrders=true:=by kernel_rfl) (hnd:iw ops=true:=by kernel_rfl) (hL:f7 ops L=true:=by kernel_rfl) (hd:fj ops t0.toArray.size=true:=by kernel_rfl) (hflow:fZ ops.size X0.length L us cr kl=true:=by kernel_rfl) (hfin:jH ops.size X0.length cr kl fin=true:=by kernel_rfl):
  (Code.region id ops dr).wpIn (Rnd l) n P Q ⟨t0.toArray,d0⟩ w:=by
 refine lD hnd hm L us cr kl (fun ix c g X=>dT tb ix c (A ix c g X)) fin hL hd hflow hfin (fun i c j g p X X' h1 h2 h3 h=>?_) aZ (gY.of fun i hi=>?_) fun c g X w' hD hX hst' fr hfr'=>?_
 dsimp only at h |-
 rw[fx] at h |-
 cases hdd:(tb.getD i .n).dst with
 |some d=>
  rw[hdd] at h
  dsimp only at h |-
  have hi:i<tb.length:=iv (by rw[hdd];simp)
  have:=(d6 ht hi hdd).1
  rw[<-h1 d (by unfold kM;simp[this])]
  exact h
 |none=>
  rw[hdd] at h
  exact hloc i c j g p X X' h1 h2 h3 h
 have hi':i<tb.length:=by rw[hn];exact hi
 have h:=gp (i:=i) hl hi'
 rw[Nat.zero_add] at h
 rcases h with ⟨_,h⟩|⟨h,_⟩
 exact k0 em i h
 exact jM hd ht hl hi' h
 subst hfr'
 have e:(bY ops).map c=(gA ops).map (gk ops tb c):=by
  unfold bY
  rw[List.map_map]
  refine List.map_congr_left fun i hi=>?_
  have him:=List.mem_filter.1 hi
  have hlt:i<ops.size:=List.mem_range.1 him.1
  have h:=hD i hlt
  rw[fx] at h
  unfold gk
  cases hdd:(tb.getD i .n).dst with
  |none=>rfl
  |some d=>
   rw[hdd] at h
   dsimp only at h |-
   have:=(d6 ht (i:=i) (by rw[hn];exact hlt) hdd).1
   simp only[Function.comp,this,Option.getD_some]
   exact h
 rw[e,aD c]
 exact hrest c g X w' hD hX hst' _ rfl
theorem w8{n:Nat}{t1:List Value}(L:List Nat)(tb:List TE)
  (rs:List (Nat×Nat×Nat×Nat)) (aZ:St w0 bor X0 w) (hrest:∀w',St w0 bor X0 w'->Q .normal ⟨t1.toArray,d0⟩ w')
  (h1:mgT tb (fun _=>undef) rs t0=t1:=by dsimp only[mgT,iK,List.take,List.drop,List.cons_append,List.nil_append])
  (ht:lN P ops L t0.toArray tb 0 tb=tb.map iF:=by kernel_rfl) (hl:ie ops L [] [] [] 0 tb=true:=by kernel_rfl) (hn:tb.length=ops.size:=by kernel_rfl)
  (aD:∀c,dp (bY ops) ((gA ops).map (gk ops tb c)) t0.toArray=(mgT tb (fun _=>undef) rs t0).toArray:=by intro c;kernel_rfl)
  (hm:P.follows .mixedOrders=true:=by kernel_rfl) (hnd:iw ops=true:=by kernel_rfl) (hL:f7 ops L=true:=by kernel_rfl) (hd:fj ops t0.toArray.size=true:=by kernel_rfl):
  (Code.region id ops dr).wpIn (Rnd l) n P Q ⟨t0.toArray,d0⟩ w:=by
 have hat:∀i,atV ([]:List (List Nat)) i=[]:=fun i=>by simp[atV]
 refine lD hnd hm L [] [] [] (fun ix c g X=>dT tb ix c True) (List.range X0.length) hL hd ?_ ?_ (fun i c j g p X X' h1 h2 h3 h=>?_) aZ (gY.of fun i hi=>?_) fun c g X w' hD hX hst' fr hfr'=>?_
 unfold fZ;simp[hat]
 unfold jH;simp[hat,List.nodup_range]
 dsimp only at h |-
 rw[fx] at h |-
 cases hdd:(tb.getD i .n).dst with
 |some d=>
  rw[hdd] at h
  dsimp only at h |-
  have hi:i<tb.length:=iv (by rw[hdd];simp)
  have:=(d6 ht hi hdd).1
  rw[<-h1 d (by unfold kM;simp[this])]
  exact h
 |none=>trivial
 have hi':i<tb.length:=by rw[hn];exact hi
 have h:=gp (i:=i) hl hi'
 rw[Nat.zero_add] at h
 rcases h with ⟨_,h⟩|⟨h,_⟩
 cases h
 exact jM (A:=fun _ _ _ _=>True) hd ht hl hi' h
 subst hfr'
 have e:(bY ops).map c=(gA ops).map (gk ops tb c):=by
  unfold bY
  rw[List.map_map]
  refine List.map_congr_left fun i hi=>?_
  have him:=List.mem_filter.1 hi
  have hlt:i<ops.size:=List.mem_range.1 him.1
  have h:=hD i hlt
  rw[fx] at h
  unfold gk
  cases hdd:(tb.getD i .n).dst with
  |none=>rfl
  |some d=>
   rw[hdd] at h
   dsimp only at h |-
   have:=(d6 ht (i:=i) (by rw[hn];exact hlt) hdd).1
   simp only[Function.comp,this,Option.getD_some]
   exact h
 rw[e,aD c,h1]
 refine hrest w' ?_
 have:(List.range X0.length).map X=X0:=by
  apply List.ext_getElem (by simp)
  intro q h1 h2
  rw[List.getElem_map,List.getElem_range]
  exact hX q _ (List.getElem?_eq_getElem h2)
 rw[this] at hst'
 exact hst'
theorem lM{n:Nat}{t1:(Tmp->Value)->List Value}{E:(Nat->Ent)->List Ent}(L:List Nat)(us cr kl:List (List Nat))(tb:List TE)
  (A:Nat->(Tmp->Value)->(Tmp->Value)->(Nat->Ent)->Prop) (fin sp:List Nat) (rs:List (Nat×Nat×Nat×Nat)) (aZ:St w0 bor X0 w) (hloc:ju ops X0.length L cr A)
  (em:na (bL P ops L ⟨t0.toArray,d0⟩ w0 bor X0 us cr kl (fun ix c g X=>dT tb ix c (A ix c g X))) sp)
  (hrest:∀(c g:Tmp->Value) (X:Nat->Ent) (w':World),(∀i,i<ops.size->dT tb i c (A i c g X))->St w0 bor (E X) w'->∀fr,fr=t1 c->Q .normal ⟨fr.toArray,d0⟩ w')
  (h1:∀c,mgT tb c rs t0=t1 c:=by intro c;dsimp only[mgT,iK,List.take,List.drop,List.cons_append,List.nil_append]) (hE:∀X,iV X0 X fin=E X:=by intro X;dsimp only[iV,oO])
  (ht:lN P ops L t0.toArray tb 0 tb=tb.map iF:=by kernel_rfl) (hl:ie ops L cr kl sp 0 tb=true:=by kernel_rfl) (hn:tb.length=ops.size:=by kernel_rfl)
  (aD:∀c,dp (bY ops) ((gA ops).map (gk ops tb c)) t0.toArray=(mgT tb c rs t0).toArray:=by intro c;kernel_rfl)
  (hm:P.follows .mixedOrders=true:=by kernel_rfl) (hnd:iw ops=true:=by kernel_rfl) (hL:f7 ops L=true:=by kernel_rfl) (hd:fj ops t0.toArray.size=true:=by kernel_rfl) (hflow:fZ ops.size X0.length L us cr kl=true:=by kernel_rfl) (hfin:jH ops.size X0.length cr kl fin=true:=by kernel_rfl):
  (Code.region id ops dr).wpIn (Rnd l) n P Q ⟨t0.toArray,d0⟩ w:=
 w7 L us cr kl tb A fin sp rs aZ hloc em (fun c g X w' hD hX hs fr hf=>hrest c g X w' hD (by rw[<-hE X,og hX];exact hs) fr (hf.trans (h1 c))) ht hl hn aD hm hnd hL hd hflow hfin
theorem xc{n:Nat}{E:List Ent}{t1:List Value}(L:List Nat)(us:List (List Nat))(tb:List TE)
  (fin sp:List Nat) (rs:List (Nat×Nat×Nat×Nat)) (aZ:St w0 bor X0 w)
  (em:na (bL P ops L ⟨t0.toArray,d0⟩ w0 bor X0 us [] [] (fun ix c g X=>dT tb ix c True)) sp)
  (hrest:∀(w':World),St w0 bor E w'->Q .normal ⟨t1.toArray,d0⟩ w')
  (h1:mgT tb (fun _=>undef) rs t0=t1:=by dsimp only[mgT,iK,List.take,List.drop,List.cons_append,List.nil_append]) (hE:iV X0 (fun _=>⟨[],fun _=>True⟩) fin=E:=by dsimp only[iV,oO])
  (hfz:fin.all (fun q=>Nat.blt q X0.length)=true:=by kernel_rfl)
  (ht:lN P ops L t0.toArray tb 0 tb=tb.map iF:=by kernel_rfl) (hl:ie ops L [] [] sp 0 tb=true:=by kernel_rfl) (hn:tb.length=ops.size:=by kernel_rfl)
  (aD:∀c,dp (bY ops) ((gA ops).map (gk ops tb c)) t0.toArray=(mgT tb (fun _=>undef) rs t0).toArray:=by intro c;kernel_rfl)
  (hm:P.follows .mixedOrders=true:=by kernel_rfl) (hnd:iw ops=true:=by kernel_rfl) (hL:f7 ops L=true:=by kernel_rfl) (hd:fj ops t0.toArray.size=true:=by kernel_rfl) (hflow:fZ ops.size X0.length L us [] []=true:=by kernel_rfl) (hfin:jH ops.size X0.length [] [] fin=true:=by kernel_rfl):
  (Code.region id ops dr).wpIn (Rnd l) n P Q ⟨t0.toArray,d0⟩ w:=by
 have hfr2:∀c,dp (bY ops) ((gA ops).map (gk ops tb c)) t0.toArray=t1.toArray:=fun c=>by rw[aD c,h1]
 refine lD hnd hm L us [] [] (fun ix c g X=>dT tb ix c True) fin hL hd hflow hfin (fun i c j g p X X' h1 h2 h3 h=>?_) aZ (gY.of fun i hi=>?_) fun c g X w' hD hX hst' fr hfr'=>?_
 dsimp only at h |-
 rw[fx] at h |-
 cases hdd:(tb.getD i .n).dst with
 |some d=>
  rw[hdd] at h
  dsimp only at h |-
  have hi:i<tb.length:=iv (by rw[hdd];simp)
  have:=(d6 ht hi hdd).1
  rw[<-h1 d (by unfold kM;simp[this])]
  exact h
 |none=>trivial
 have hi':i<tb.length:=by rw[hn];exact hi
 have h:=gp (i:=i) hl hi'
 rw[Nat.zero_add] at h
 rcases h with ⟨_,h⟩|⟨h,_⟩
 exact k0 em i h
 exact jM (A:=fun _ _ _ _=>True) hd ht hl hi' h
 subst hfr'
 have e:(bY ops).map c=(gA ops).map (gk ops tb c):=by
  unfold bY
  rw[List.map_map]
  refine List.map_congr_left fun i hi=>?_
  have him:=List.mem_filter.1 hi
  have hlt:i<ops.size:=List.mem_range.1 him.1
  have h:=hD i hlt
  rw[fx] at h
  unfold gk
  cases hdd:(tb.getD i .n).dst with
  |none=>rfl
  |some d=>
   rw[hdd] at h
   dsimp only at h |-
   have:=(d6 ht (i:=i) (by rw[hn];exact hlt) hdd).1
   simp only[Function.comp,this,Option.getD_some]
   exact h
 rw[e,hfr2 c]
 refine hrest w' ?_
 have h2:iV X0 X fin=E:=by rw[<-hE];exact oP hfz
 rw[<-h2,og hX]
 exact hst'
abbrev fps(L:List Ent):List Nat:=L.flatMap (·.fp)
theorem cQ{L:List Ent}:k∈fps L<->∃e∈L,k∈e.fp:=by simp[fps]
theorem St.fps_own{L:List Ent}(h:St w0 bor L w)(hk:k∈fps L):(k∈bor\/w0.heap.size<=k)/\k<w.heap.size:=by
 obtain⟨e,he,hk⟩:=cQ.1 hk
 exact(h.ok e he).own k hk
def ft(D:Nat):Ent:=⟨[D],fun W=>W.heap[D]? =some (.deferred (some []))⟩
theorem yy(D:Nat):(ft D).loc:=fun W W' h hb=>(h D (by simp[ft])).trans hb
theorem St.takeD{L:List Ent}{D:Nat}(h:St w0 bor (L++[ft D]) W):St w0 bor L (W.putObj D (.deferred none)):=by
 have hd:=h.ok (ft D) (by simp)
 have hown:=hd.own D (by simp[ft])
 have hap:∀e∈L,D∉e.fp:=fun e he hk=>by
  have:=(List.pairwise_append.1 h.apart).2.2 e he (ft D) (by simp)
  exact this D hk (by simp[ft])
 have hg:=grownBy_putObj' W D (.deferred none)
 refine⟨⟨hg.os.trans h.upd.os,hg.tape.trans h.upd.tape,hg.output.trans h.upd.output,Nat.le_trans h.upd.size hg.size,fun k hk hb=>?_⟩,fun e he=>?_,(List.pairwise_append.1 h.apart).1⟩
 rw[hg.block k (Nat.lt_of_lt_of_le hk h.upd.size) fun e'=>?_]
 exact h.upd.block k hk hb
 cases e'
 rcases hown.1 with h1|h1
 exact hb h1
 omega
 have h2:=h.ok e (by simp[he])
 refine⟨h2.loc W _ (fun k hk=>hg.block k (h2.own k hk).2 fun e'=>?_) h2.holds,h2.loc,fun k hk=>⟨(h2.own k hk).1,Nat.lt_of_lt_of_le (h2.own k hk).2 hg.size⟩⟩
 cases e'
 exact hap e he hk
theorem Gr{n:Nat}{fn:Func}{R:Ending->World->Prop}{t0:Array Value}{L:List Ent}{D:Nat}(aZ:St w0 bor (L++[ft D]) w)
  (h:∀W,St w0 bor L W->∃v,(results fn t0).run P W= .ok v W/\R (.returned v) W):bodyPostM Fence.wide n P fn R .ret ⟨t0,[{target:= .collected D,args:=#[]}]⟩ w:=by
 have hK:w.heap[D]? =some (.deferred (some [])):=(aZ.ok (ft D) (by simp)).holds
 show LeavesInM Fence.wide n P fn t0 R [{target:= .collected D,args:=#[]}] .returning w
 exact⟨by simp,.inl ⟨_,_,rfl,run_takeDeferred hK,h _ aZ.takeD⟩⟩
theorem BP{n s:Nat}{a1:Act}(ho:o.op= .assign (.tmp s))(hg:o.guard=none)(hd:o.dst=some d)(h:K a1 W)(he:a.put (some d) (a.eval (.tmp s))=a1):
  (Code.region id #[o] false).wpIn (Rnd l) n P (Exit.then K (fun _ _ _=>False)) a W:=by
 refine wpIn_region ?_
 refine oW (by simp[iw,ho]) (by rintro⟨a,w,h⟩;exact h) _ _ _ ?_
 show wpOps P _ _ [0] a W
 rw[wpOps_cons]
 refine wpOp_step (show (#[o]:Array Oper)[0]? =some o from rfl) fun K' hK'=>?_
 rw[if_pos (show Region.wanted o _=true by unfold Region.wanted;rw[hg])]
 refine am.wp (post:=fun v w'=>v=a.eval (.tmp s)/\w'=W) (am.value (di ho rfl) ⟨rfl,rfl⟩) fun v w' hv=>?_
 obtain⟨rfl,rfl⟩:=hv
 refine hK' _ _ ?_
 rw[hd,he]
 exact h
end
section
open Go.RowKit
def eJ{α:Type}(J:List Nat->List α->World->Prop)(C:List Nat)(pre:List α):Ent:=⟨C,J C pre⟩
theorem Upd.putObj{S:List Nat}{A B:World}{o:Obj}(h:Upd S A B)(hl:l∈S\/A.heap.size<=l):Upd S A (B.putObj l o):=by
 have hg:=grownBy_putObj' B l o
 refine⟨hg.os.trans h.os,hg.tape.trans h.tape,hg.output.trans h.output,Nat.le_trans h.size hg.size,fun k hk hn=>?_⟩
 rw[hg.block k (Nat.lt_of_lt_of_le hk h.size) fun e=>?_]
 exact h.block k hk hn
 cases e
 rcases hl with h1|h1
 exact hn h1
 omega
theorem fH(W:World)(l:Nat)(o:Obj):(W.putObj l o).heap.size=W.heap.size:=by simp
end
section
open Go.RowKit
def e00:Ent:=⟨[],fun _=>True⟩
theorem St.e00(W:World):St W [] [e00] W:=⟨Upd.refl _ _,fun x hx=>by rw[List.mem_singleton] at hx;subst hx;exact⟨trivial,fun _ _ _ _=>trivial,fun k hk=>by cases hk⟩,List.pairwise_singleton _ _⟩
def LK{α:Type}(P:Program)(gf:Nat)(lb:Array Value)(encs:α->Array Value)(Px:List α->α->Prop)(Rd:List α->World->Prop)(Z:List α->Prop):Prop:=
 ∀(l:Nat) (J:List Nat->List α->World->Prop) (W:World) (C0:List Nat),(∀C pre,(eJ J C pre).loc)->(∀k∈C0,k<W.heap.size)->J C0 [] W->(∀C pre A,J C pre A->Rd pre A)->
  (∀C pre x A,J C pre A->(∀k∈C,k<A.heap.size)->Px pre x->YieldAt Fence.wide 1 P l (encs x) A fun e B=>e= .returned (.bool true)/\∃C',St A C [eJ J C' (pre++[x])] B)->
  CallsIn Fence.wide 2 P gf (#[.func (.yield l) #[] #[]]++lb) W fun e B=>(∃v,e= .returned v)/\∃C xs,St W C0 [eJ J C xs] B/\Z xs
theorem BQ{α:Type}{g:Operand}{ps:Array Tmp}{assign body:Code}{t0:Array Value}{w:World}{L0:List Ent}(aZ:St w0 bor L0 w)
  {gf:Nat}{lb:Array Value}(hg:Act.eval ⟨t0,[]⟩ g= .func (.func gf) #[] lb) (eg:∀args w,(callFunc gf args).run P w= .ok (.enter gf args) w)
  {encs:α->Array Value}{Px:List α->α->Prop}{Rd:List α->World->Prop}{Z:List α->Prop}(hseq:LK P gf lb encs Px Rd Z) (hps:∀x,(encs x).size=ps.size) (I:List α->List Ent->Prop) (h0:I [] L0) (hRd:∀pre L A,I pre L->(∀e∈L,e.holds A)->Rd pre A) (Ax:α->Act->Ent->Prop) (t1:α->List Value) (ht1:∀x,(ps.zip (encs x)).foldl (fun t (p,v)=>t.setIfInBounds p v) t0=(t1 x).toArray)
  (hassign:∀(l:Nat) (x:α) (W:World) (K:Act->World->Prop),(∀a' W' E,Ax x a' E->St W [] [E] W'->K a' W')->assign.wpIn (Rnd l) 1 P (Exit.then K (fun _ _ _=>False)) ⟨(t1 x).toArray,[]⟩ W)
  (hbody:∀(l:Nat) (pre:List α) (x:α) (W:World) (L:List Ent) (a':Act) (E:Ent),I pre L->Px pre x->Ax x a' E->St W (fps (L++[E])) (L++[E]) W->body.wpIn (Rnd l) 1 P (fun e _ W'=>e= .normal/\∃L',I (pre++[x]) L'/\St W (fps (L++[E])) L' W') a' W)
  (hdone:∀(D:Nat) (W:World) (L:List Ent) (xs:List α),I xs L->Z xs->St w0 bor (L++[ft D]) W->Q .normal ⟨t0,[{target:= .collected D,args:=#[]}]⟩ W):
  (Code.rangeFunc g ps assign body).wp P Q ⟨t0,[]⟩ w:=by
 refine(wpIn_wide (n:=3)).1 (wpIn_rangeFunc fun fn hfn=>?_)
 obtain⟨D,hD⟩:∃D,w.heap.size=D:=⟨_,rfl⟩
 obtain⟨rec,hrec⟩:∃rec:LoopState->Loop,rec=fun s=>{state:=s,pending:=none,fn,tmps:=t0,params:=ps,assign,body,defers:=D}:=⟨_,rfl⟩
 obtain⟨W1,hW1⟩:∃W1,(w.alloc (.deferred (some []))).alloc (.loop (rec .ready))=W1:=⟨_,rfl⟩
 have hL1:W1.heap[D+1]? =some (.loop (rec .ready)):=by
  rw[<-hW1,<-hD];have:=World.alloc_heap_new (w.alloc (.deferred (some []))) (.loop (rec .ready));rwa [World.size_alloc] at this
 have hK1:W1.heap[D]? =some (.deferred (some [])):=by
  rw[<-hW1,<-hD];exact(Below.heap_alloc _ _ _ (by simp)).trans (World.alloc_heap_new w _)
 have hx1:Ext w W1:=by rw[<-hW1];exact((Below.refl _ w).alloc (Nat.le_refl _) _).alloc (by simp) _
 have fK:W1.heap.size=D+2:=by rw[<-hW1,World.size_alloc,World.size_alloc,hD]
 have h0w:=aZ.upd.size
 obtain⟨J,hJ⟩:∃J:List Nat->List α->World->Prop,J=fun C pre A=>∃L,I pre L/\C=(D+1)::D::fps L/\(∀e∈L,e.holds A/\e.loc)/\L.Pairwise Ent.apart/\(∀k∈fps L,k≠D+1/\k≠D)/\A.heap[D+1]? =some (.loop (rec .ready))/\A.heap[D]? =some (.deferred (some [])):=⟨_,rfl⟩
 have hloc:∀C pre,(eJ J C pre).loc:=fun C pre A B hk h=>by
  subst hJ
  obtain⟨L,h1,rfl,h2,h3,h4,h5,h6⟩:=h
  refine⟨L,h1,rfl,fun e he=>⟨(h2 e he).2 A B (fun k hk'=>hk k ?_) (h2 e he).1,(h2 e he).2⟩,h3,h4,(hk (D+1) (by simp[eJ])).trans h5,(hk D (by simp[eJ])).trans h6⟩
  exact List.mem_cons_of_mem _ (List.mem_cons_of_mem _ (cQ.2 ⟨e,he,hk'⟩))
 have hC0:∀k∈(D+1)::D::fps L0,(k∈bor\/w0.heap.size<=k)/\k<W1.heap.size:=fun k hk=>by
  rcases List.mem_cons.1 hk with rfl|hk
  exact⟨.inr (by omega),by omega⟩
  rcases List.mem_cons.1 hk with rfl|hk
  exact⟨.inr (by omega),by omega⟩
  have:=aZ.fps_own hk
  exact⟨this.1,by omega⟩
 have hJ0:J ((D+1)::D::fps L0) [] W1:=by
  subst hJ
  refine⟨L0,h0,rfl,fun e he=>⟨(aZ.ok e he).loc w W1 (fun k hk=>hx1.block ((aZ.ok e he).own k hk).2) (aZ.ok e he).holds,(aZ.ok e he).loc⟩,aZ.apart,fun k hk=>?_,hL1,hK1⟩
  have:=(aZ.fps_own hk).2
  exact⟨by omega,by omega⟩
 refine⟨D+1,[{target:= .collected D,args:=#[]}],W1,{target:= .fn (.func gf) lb,args:=#[.func (.yield (D+1)) #[] #[]]},W1,gf,#[.func (.yield (D+1)) #[] #[]]++lb,W1,?_,?_,?_,?_,fun _=>by omega,?_⟩
 rw[<-hW1,hrec,<-hD];exact run_enterLoop_outer _ _ _ _ _
 simp only[resolve,hg]
 simp[go_sem]
 intro f' hf';trivial
 simp[invoke,go_sem,eg]
 refine(hseq (D+1) J W1 _ hloc (fun k hk=>(hC0 k hk).2) hJ0 (fun C pre A hj=>by subst hJ;obtain⟨L,hi,rfl,hall,_⟩:=hj;exact hRd pre L A hi fun e he=>(hall e he).1) ?_).mono ?_
 intro C pre x A hj hlt hlen
 subst hJ
 obtain⟨L,hi,rfl,hall,hap,hne,hl,hk⟩:=hj
 have hlA:D+1<A.heap.size:=hlt _ (by simp)
 have hDA:D<A.heap.size:=hlt _ (by simp)
 have hy:=run_yield (P:=P) (args:=encs x) hl (by rw[hrec];exact hps x)
 rw[hrec] at hy
 refine⟨fn,_,assign,body,hy,roundIn_of_wpIn hfn ?_⟩
 rw[ht1 x]
 refine hassign _ x A _ fun a' A1 E1 hAx hE1=>?_
 have hxA:=hE1.ext
 have hl1:A1.heap[D+1]? =some (.loop (rec .ready)):=(hxA.block hlA).trans hl
 have hk1:A1.heap[D]? =some (.deferred (some [])):=(hxA.block hDA).trans hk
 have hEo:=hE1.ok E1 (by simp)
 have hEn:∀k∈E1.fp,A.heap.size<=k/\k<A1.heap.size:=fun k hk'=>⟨(hEo.own k hk').1.resolve_left (by simp),(hEo.own k hk').2⟩
 have hsA1:=hxA.size
 refine⟨_,run_beginRound hl1 (by rw[hrec]),?_⟩
 obtain⟨A2,hA2⟩:∃A2,A1.putObj (D+1) (.loop {rec .ready with state:= .busy})=A2:=⟨_,rfl⟩
 have hsz:A2.heap.size=A1.heap.size:=by rw[<-hA2];exact fH _ _ _
 have hoth:∀k,k≠D+1->A2.heap[k]? =A1.heap[k]? :=fun k hk'=>by rw[<-hA2];exact World.putObj_heap_other hk'
 have hbusy:A2.heap[D+1]? =some (.loop {rec .ready with state:= .busy}):=by rw[<-hA2];exact World.putObj_heap_same (by omega)
 have hLlt:∀k∈fps L,k<A.heap.size:=fun k hk'=>hlt k (List.mem_cons_of_mem _ (List.mem_cons_of_mem _ hk'))
 have bu:St A2 (fps (L++[E1])) (L++[E1]) A2:=by
  refine⟨Upd.refl _ _,fun e he=>?_,?_⟩
  have hin:∀k∈e.fp,k∈fps (L++[E1]):=fun k hk'=>cQ.2 ⟨e,he,hk'⟩
  rcases List.mem_append.1 he with he|he
  refine⟨(hall e he).2 A A2 (fun k hk'=>?_) (hall e he).1,(hall e he).2,fun k hk'=>⟨.inl (hin k hk'),?_⟩⟩
  have h1:=cQ.2 ⟨e,he,hk'⟩
  exact(hoth k (hne k h1).1).trans (hxA.block (hLlt k h1))
  have:=hLlt k (cQ.2 ⟨e,he,hk'⟩);omega
  rw[List.mem_singleton] at he
  subst he
  exact⟨hEo.loc A1 A2 (fun k hk'=>hoth k (by have:=(hEn k hk').1;omega)) hEo.holds,hEo.loc,fun k hk'=>⟨.inl (hin k hk'),by have:=(hEn k hk').2;omega⟩⟩
  rw[List.pairwise_append]
  refine⟨hap,List.pairwise_singleton _ _,fun a ha b hb k hk' hkb=>?_⟩
  rw[List.mem_singleton] at hb
  subst hb
  have h1:=hLlt k (cQ.2 ⟨a,ha,hk'⟩)
  have h2:=(hEn k hkb).1
  omega
 rw[hA2]
 have hfin:∀k∈fps (L++[E1]),k∈fps L\/A.heap.size<=k:=fun k hk'=>by
  obtain⟨e,he,hke⟩:=cQ.1 hk'
  rcases List.mem_append.1 he with he|he
  exact .inl (cQ.2 ⟨e,he,hke⟩)
  rw[List.mem_singleton] at he;subst he;exact .inr (hEn k hke).1
 refine wpIn_mono (hbody _ pre x A2 L a' E1 hi hlen hAx bu) ?_
 rintro e a W3 ⟨rfl,L',hi',hs'⟩
 have hno:∀m,m=D+1\/m=D->m∉fps (L++[E1]):=fun m hm hmm=>by
  rcases hfin m hmm with h1|h1
  have:=hne m h1;rcases hm with rfl|rfl<;>simp at this
  omega
 have hl3:W3.heap[D+1]? =some (.loop {rec .ready with state:= .busy}):=(hs'.upd.block _ (by omega) (hno _ (.inl rfl))).trans hbusy
 have hk3:W3.heap[D]? =some (.deferred (some [])):=(hs'.upd.block _ (by omega) (hno _ (.inr rfl))).trans ((hoth D (by omega)).trans hk1)
 have hsz3:=hs'.upd.size
 have hne':∀k∈fps L',k≠D+1/\k≠D:=fun k hk'=>by
  rcases(hs'.fps_own hk').1 with h1|h1
  rcases hfin k h1 with h2|h2
  exact hne k h2
  exact⟨by omega,by omega⟩
  exact⟨by omega,by omega⟩
 refine⟨_,_,run_endRound none hl3,rfl,(D+1)::D::fps L',?_⟩
 have hupA:Upd ((D+1)::D::fps L) A A2:=by rw[<-hA2];exact(Upd.mono (S:=[]) (Upd.of_ext hxA) (fun k _ hk'=>by simp at hk')).putObj (.inl (List.mem_cons_self ..))
 have hup:Upd ((D+1)::D::fps L) A W3:=hupA.join hs'.upd (fun i hi=>by
  rcases hfin i hi with h1|h1
  exact Or.inl (List.mem_cons_of_mem _ (List.mem_cons_of_mem _ h1))
  exact .inr h1)
 have h3l:D+1<W3.heap.size:=by omega
 refine⟨hup.putObj (.inl (by simp)),fun e he=>?_,List.pairwise_singleton _ _⟩
 rw[List.mem_singleton] at he
 subst he
 refine⟨⟨L',hi',rfl,fun e he=>⟨(hs'.ok e he).loc W3 _ (fun k hk'=>World.putObj_heap_other (hne' k (cQ.2 ⟨e,he,hk'⟩)).1) (hs'.ok e he).holds,(hs'.ok e he).loc⟩,hs'.apart,hne',?_,?_⟩,hloc _ _,fun k hk'=>?_⟩
 rw[hrec];exact World.putObj_heap_same h3l
 exact(World.putObj_heap_other (by omega)).trans hk3
 rw[fH]
 have hk':k∈(D+1)::D::fps L':=hk'
 rcases List.mem_cons.1 hk' with rfl|hk'
 exact⟨.inl (by simp),h3l⟩
 rcases List.mem_cons.1 hk' with rfl|hk'
 exact⟨.inl (by simp),by omega⟩
 have h6:=hs'.fps_own hk'
 refine⟨?_,h6.2⟩
 rcases h6.1 with h7|h7
 rcases hfin k h7 with h8|h8
 exact .inl (List.mem_cons_of_mem _ (List.mem_cons_of_mem _ h8))
 exact .inr h8
 exact .inr (by omega)
 rintro e W2 ⟨⟨v,rfl⟩,C,xs,hs,hz⟩
 have hjo:=hs.ok (eJ J C xs) (by simp)
 have hj:=hjo.holds
 subst hJ
 obtain⟨L,hi,rfl,hall,hap,hne,hl,hk⟩:=hj
 have hend:=run_endLoop (P:=P) hl (by rw[hrec];simp)
 have hpend:(rec .ready).pending=none:=by rw[hrec]
 rw[hpend] at hend
 refine⟨none,_,hend,hdone D _ L xs hi hz ?_⟩
 have hCo:∀k∈(D+1)::D::fps L,((k∈bor\/w0.heap.size<=k)/\k<W2.heap.size):=fun k hk'=>by
  have h5:=hjo.own k hk'
  refine⟨?_,h5.2⟩
  rcases h5.1 with h6|h6
  exact(hC0 k h6).1
  exact .inr (by omega)
 have hup:Upd bor w0 W2:=(aZ.upd.join (show Upd [] w W1 from Upd.of_ext hx1) (fun i hi=>by cases hi)).join hs.upd (fun i hi=>(hC0 i hi).1)
 have hlA:=(hCo (D+1) (by simp)).2
 have hw0D:w0.heap.size<=D+1:=by omega
 refine⟨hup.putObj (.inr hw0D),fun e he=>?_,?_⟩
 rcases List.mem_append.1 he with he|he
 refine⟨(hall e he).2 W2 _ (fun k hk'=>World.putObj_heap_other (hne k (cQ.2 ⟨e,he,hk'⟩)).1) (hall e he).1,(hall e he).2,fun k hk'=>?_⟩
 rw[fH]
 exact hCo k (List.mem_cons_of_mem _ (List.mem_cons_of_mem _ (cQ.2 ⟨e,he,hk'⟩)))
 rw[List.mem_singleton] at he
 subst he
 refine⟨(World.putObj_heap_other (by omega)).trans hk,yy D,fun k hk'=>?_⟩
 have:k=D:=by simpa[ft] using hk'
 subst this
 rw[fH]
 exact⟨.inr (by omega),by have:=(hCo k (by simp)).2;omega⟩
 rw[List.pairwise_append]
 refine⟨hap,List.pairwise_singleton _ _,fun a ha b hb k hk' hkb=>?_⟩
 rw[List.mem_singleton] at hb
 subst hb
 have:k=D:=by simpa[ft] using hkb
 exact(hne k (cQ.2 ⟨a,ha,hk'⟩)).2 this
end
section
open Go.RowKit
section
variable{P:Program}{ops:Array Oper}{Q:Exit->Act->World->Prop}{i:Nat}{rest:List Nat}{o:Oper}{t:List Value}{d0:List Deferred}{W:World}{d:Tmp}{t':List Value}
theorem yG{g:Operand->Value}{c:Call}{l:Nat}(h:o.op= .call c)(hcal:c.callee= .value x)(hx:g x= .func (.yield l) #[] #[])(ha:c.args.map g=args){r:Result Next}(hr:(Instr.yield l args).run P W=r):(execOp g o).run P W=r:=by
 subst hr
 unfold execOp;rw[h]
 simp only[resolve,hcal,hx,Deferred.ofValue,ha,Sem.run_bind,Sem.run_pure,Result.andThen_ok,invoke]
 simp
theorem cn{v:Value}(ho:ops[i]? =some o)(hg:Region.wanted o (yielded ops t.toArray)=true)(hd:o.dst=some d)(hr:(execOp (Act.eval ⟨t.toArray,d0⟩) o).run P W= .ok (.value v) W)(ht:t.set d v=t')(h:wpOpsIn Fence.wide 2 P ops Q rest ⟨t'.toArray,d0⟩ W):wpOpsIn Fence.wide 2 P ops Q (i::rest) ⟨t.toArray,d0⟩ W:=by
 unfold wpOpsIn
 simp only[ho]
 rw[if_pos hg]
 refine⟨fun _ _=>trivial,?_⟩
 show o.uponIn Fence.wide 2 P _ _ Q ((execOp (Act.eval ⟨t.toArray,d0⟩) o).run P W)
 rw[hr,Oper.uponIn_value,hd]
 show wpOpsIn Fence.wide 2 P ops Q rest ⟨t.toArray.setIfInBounds d v,d0⟩ W
 rw[List.setIfInBounds_toArray,ht]
 exact h
theorem lX(ho:ops[i]? =some o)(hg:Region.wanted o (yielded ops t.toArray)=false)(hd:o.dst=some d)(ht:t.set d undef=t')(h:wpOpsIn Fence.wide 2 P ops Q rest ⟨t'.toArray,d0⟩ W):wpOpsIn Fence.wide 2 P ops Q (i::rest) ⟨t.toArray,d0⟩ W:=by
 unfold wpOpsIn
 simp only[ho]
 rw[if_neg (by rw[hg];decide)]
 refine⟨fun _ _=>trivial,?_⟩
 rw[hd]
 show wpOpsIn Fence.wide 2 P ops Q rest ⟨t.toArray.setIfInBounds d undef,d0⟩ W
 rw[List.setIfInBounds_toArray,ht]
 exact h
theorem Ld{R:World->Prop}(ho:ops[i]? =some o)(hg:Region.wanted o (yielded ops t.toArray)=true)(hd:o.dst=some d)
  (hr:∀r,(Instr.yield l args).run P W=r->(execOp (Act.eval ⟨t.toArray,d0⟩) o).run P W=r) (hy:YieldAt Fence.wide 1 P l args W fun e B=>e= .returned (.bool true)/\R B) (ht:t.set d (.bool true)=t') (h:∀B,R B->wpOpsIn Fence.wide 2 P ops Q rest ⟨t'.toArray,d0⟩ B):wpOpsIn Fence.wide 2 P ops Q (i::rest) ⟨t.toArray,d0⟩ W:=by
 obtain⟨fn,tmps,assign,body,h1,h2⟩:=hy
 unfold wpOpsIn
 simp only[ho]
 rw[if_pos hg]
 refine⟨fun _ _=>trivial,?_⟩
 show o.uponIn Fence.wide 2 P _ _ Q ((execOp (Act.eval ⟨t.toArray,d0⟩) o).run P W)
 rw[hr _ h1,Oper.uponIn_round]
 refine⟨fun hh=>by simp[Fence.wide] at hh,h2.mono ?_⟩
 rintro e B ⟨rfl,hB⟩
 show wpOpsIn Fence.wide 2 P ops Q rest (Act.put ⟨t.toArray,d0⟩ o.dst (.bool true)) B
 rw[hd]
 show wpOpsIn Fence.wide 2 P ops Q rest ⟨t.toArray.setIfInBounds d (.bool true),d0⟩ B
 rw[List.setIfInBounds_toArray,ht]
 exact h B hB
theorem Ew(h:Q .normal a W):wpOpsIn Fence.wide 2 P ops Q [] a W:=h
end
theorem IM{α:Type}{A B:World}{C:List Nat}{L:List Ent}{J:List Nat->List α->World->Prop}{pre xs:List α}(h:St w bor (eJ J C pre::L) A){C':List Nat}(hj:St A C [eJ J C' xs] B):St w bor (eJ J C' xs::L) B:=by
 have hC:=h.ok (eJ J C pre) (List.mem_cons_self ..)
 have hp:=List.pairwise_cons.1 h.apart
 have hN:=hj.ok (eJ J C' xs) (by simp)
 refine⟨h.upd.join hj.upd (fun i hi=>(hC.own i hi).1),fun e he=>?_,List.pairwise_cons.2 ⟨fun e he k hk hke=>?_,hp.2⟩⟩
 rcases List.mem_cons.1 he with rfl|he'
 refine⟨hN.holds,hN.loc,fun k hk=>⟨?_,(hN.own k hk).2⟩⟩
 rcases(hN.own k hk).1 with h1|h1
 exact(hC.own k h1).1
 exact .inr (Nat.le_trans h.upd.size h1)
 have h2:=h.ok e (List.mem_cons_of_mem _ he')
 exact h2.keep hj.upd (fun k hk hkC=>hp.1 e he' k hkC hk)
 have h2:=h.ok e (List.mem_cons_of_mem _ he)
 rcases(hN.own k hk).1 with h1|h1
 exact hp.1 e he k h1 hke
 have:=(h2.own k hke).2;omega
def nF(q b:Nat)(PA:Option Addr)(Pc:Nat)(P0:List ShT)(pre:List Nat)(A:World):Prop:=Blk A q 30 #[.pointer (some ⟨b,0,none⟩)]/\∃D GA gc Ps,DkO A b D PA Pc GA gc Ps/\Ps.length=P0.length/\∀j,j∉pre->Ps[j]? =P0[j]?
theorem nF.c0{A:World}(h:nF q b PA Pc P0 pre A):A.cell? ⟨q,0,none⟩=some (po b 0):=h.1.cell 0
theorem nF.c1{A:World}(h:nF q b PA Pc P0 pre A):A.cell? ⟨b,0,none⟩=some (.slice PA P0.length Pc):=by
 obtain⟨_,D,GA,gc,Ps,hO,hlen,_⟩:=h
 have h1:=hO.blkL.cell 0
 have h2:D.pgs.length=P0.length:=by rw[<-hlen,<-hO.ab,List.length_map]
 rw[h1,<-h2];rfl
theorem nF.at_{A:World}(h:nF q b PA Pc P0 pre A){j:Nat}(hj:j∉pre)(ht:P0[j]? =some t):∃Ps:List ShT,At A PA (Ps.flatMap shC)/\Ps[j]? =some t:=by
 obtain⟨_,D,GA,gc,Ps,hO,hlen,hun⟩:=h
 exact⟨Ps,hO.at_,(hun j hj).trans ht⟩
def LQ(P0:List ShT)(pre:List Nat)(x:Nat):Prop:=(∃t,P0[x]? =some t/\t.ws≠[])/\∀y∈pre,y<x
def WrZ(P0:List ShT)(xs:List Nat):Prop:=∀j t,P0[j]? =some t->t.ws≠[]->j∈xs
def wrA(PA:Option Addr)(x:Nat):Array Value:=#[.pointer (some ((ad PA).add (x*513)))]
def NW(P0:List ShT)(C0:List Nat)(J:List Nat->List Nat->World->Prop)(w:World)(e:Ending)(B:World):Prop:=(∃v,e= .returned v)/\∃C xs,St w C0 [eJ J C xs] B/\WrZ P0 xs
theorem Cw(h:wpOpsIn Fence.wide 2 P ops Q (List.range ops.size) a W):(Code.region id ops false).wp P Q a W:=
 (wpIn_wide (n:=2)).1 (wpIn_region h)
theorem yT(l q b:Nat)(PA:Option Addr)(Pc:Nat)(P0:List ShT)(J:List Nat->List Nat->World->Prop)(C0:List Nat)(w:World)(hloc:∀C pre,(eJ J C pre).loc)(hlt:∀k∈C0,k<w.heap.size)(hJ0:J C0 [] w)(hRd:∀C pre A,J C pre A->nF q b PA Pc P0 pre A)(hY:∀C pre x A,J C pre A->(∀k∈C,k<A.heap.size)->LQ P0 pre x->YieldAt Fence.wide 1 Tryz.prog l (wrA PA x) A fun e B=>e= .returned (.bool true)/\∃C',St A C [eJ J C' (pre++[x])] B)(hn:P0.length<=400):
  Calls Tryz.prog 142 #[.func (.yield l) #[] #[],po q 0] w (NW P0 C0 J w):=by
 have st0:St w C0 [eJ J C0 []] w:=St.lend (E:=eJ J C0 []) hJ0 (hloc _ _) hlt
 go_enter Tryz.func142,Tryz.ntmps142
 have aj:=st0
 refine wq (sqr ?_)
 refine sql (vp b) aj (fun cx=>ae rfl (by kernel_rfl) (cx.ou 1) (nF.c0 (hRd _ _ _ (CtxV.holdF cx (cx.init 0 _ rfl) rfl)))) ?_
 refine sqp [.k 5 (vp b),.k 6 (vp b)] ?_
 refine sql (.slice PA P0.length Pc) aj (fun cx=>ae rfl (by kernel_rfl) (cx.ou 6) (nF.c1 (hRd _ _ _ (CtxV.holdF cx (cx.init 0 _ rfl) rfl)))) ?_
 refine sqp [.k 8 (vi ((P0.length:Int))),.k 9 (vi 0)] ?_
 refine aa (wp_block ?_)
 refine aN (fun t_ mz az W=>∃j:Nat,∃Cj:List Nat,∃pre:List Nat,j<=P0.length/\(∀y∈pre,y<j)/\(∀i t,i<j->P0[i]? =some t->t.ws≠[]->i∈pre)/\mz=P0.length-j/\az=⟨(ovr (jv az) [(3,3,1,[]),(5,9,0,[vi ((j:Int))]),(0,10,24,[])] t_).toArray,[]⟩/\St w C0 [eJ J Cj pre] W) (P0.length-0) ?_ ?_
 exact⟨0,C0,[],Nat.zero_le _,(fun y hy=>by cases hy),fun i t hi=>absurd hi (Nat.not_lt_zero _),rfl,(by kernel_rfl),aj.pk [0]⟩
 rintro n7 a7 W7 ⟨j,Cj,pre,hj,hup,hin,rfl,hj_,aQ⟩
 refine ovz hj_ fun Fk=>?_
 refine wq (sqr (sqp [.k 10 (.bool (decide ((j:Int)<(P0.length:Int))))] ?_))
 refine aa (wq (wds (fun nB nU=>?_) fun nB nU=>?_))
 refine wp_skip (aa (wq (wp_block (wq (sqr (sqp [.m 11 9,.m 3 11] ?_))))))
 refine aa (wq ?_)
 have hR12_:=hRd _ _ _ (aQ.get 0 rfl).holds
 have hjl:j<P0.length:=by omega
 obtain⟨t,htj⟩:=BH hjl
 have hjn:j∉pre:=fun h_=>by have:=hup j h_;omega
 obtain⟨Ps_,hA_,htk⟩:=hR12_.at_ hjn htj
 have hPsl:=(List.getElem?_eq_some_iff.1 htk).1
 refine Cw ?_
 rcases List.eq_nil_or_concat t.ws with hw_|⟨wl,wz,hw_⟩
 have hwl_:decide ((0:Int)<(t.ws.length:Int))=false:=by rw[hw_];rfl
 refine cn (v:=vp b) rfl rfl rfl (ae rfl (by kernel_rfl) rfl hR12_.c0) (by dsimp only[List.set]) ?_
 refine cn (v:=vp b) rfl rfl rfl (kb rfl rfl) (by dsimp only[List.set]) ?_
 refine cn (v:=vp b) rfl rfl rfl (jf (k:=0) (n:=0) rfl (by kernel_rfl) rfl rfl) (by dsimp only[List.set]) ?_
 refine cn (v:= .slice PA P0.length Pc) rfl rfl rfl (ae rfl (by kernel_rfl) rfl hR12_.c1) (by dsimp only[List.set]) ?_
 refine cn (v:=vi ((j:Int))) rfl rfl rfl (dj rfl rfl) (by dsimp only[List.set]) ?_
 refine cn (v:= .pointer (some ((ad PA).add (j*513)))) rfl rfl rfl (aB (e:=144) (m:=j) (sz:=513) rfl (by kernel_rfl) (by kernel_rfl) rfl rfl (by omega) (by omega) hA_ (bj (sz:=513) du (by decide) (by omega))) (by dsimp only[List.set]) ?_
 refine cn (v:= .pointer (some ((ad PA).add (j*513+512)))) rfl rfl rfl (bt rfl (by kernel_rfl) rfl) (by dsimp only[List.set]) ?_
 refine cn (v:= .slice t.A t.ws.length t.c) rfl rfl rfl (ae rfl (by kernel_rfl) rfl (At.eltc (f:=shC) (k:=512) du hA_ htk (my t))) (by dsimp only[List.set]) ?_
 refine cn (v:=vi ((t.ws.length:Int))) rfl rfl rfl (qu (e:=142) rfl (by kernel_rfl) rfl) (by dsimp only[List.set]) ?_
 refine cn (v:= .bool false) rfl rfl rfl ((rv (v:= .bool (decide ((0:Int)<(t.ws.length:Int)))) rfl rfl rfl rfl).trans (by rw[hwl_])) (by dsimp only[List.set]) ?_
 refine cn (v:= .bool false) rfl rfl rfl (dj rfl rfl) (by dsimp only[List.set]) ?_
 refine lX rfl rfl rfl (by dsimp only[List.set]) ?_
 refine lX rfl rfl rfl (by dsimp only[List.set]) ?_
 refine lX rfl rfl rfl (by dsimp only[List.set]) ?_
 refine lX rfl rfl rfl (by dsimp only[List.set]) ?_
 refine lX rfl rfl rfl (by dsimp only[List.set]) ?_
 refine lX rfl rfl rfl (by dsimp only[List.set]) ?_
 refine lX rfl rfl rfl (by dsimp only[List.set]) ?_
 refine lX rfl rfl rfl (by dsimp only[List.set]) ?_
 refine lX rfl rfl rfl (by dsimp only[List.set]) ?_
 refine cn (v:= .bool false) rfl rfl rfl (tG rfl rfl rfl) (by dsimp only[List.set]) ?_
 have hup2:∀y∈pre,y<j+1:=fun y hy=>by have:=hup y hy;omega
 have hin2:∀i t,i<j+1->P0[i]? =some t->t.ws≠[]->i∈pre:=fun i t2 hi h1 h2=>by
  by_cases e_:i=j
  subst e_;rw[htj] at h1;cases h1;exact absurd hw_ h2
  exact hin i t2 (by omega) h1 h2
 refine Ew ?_
 refine aa (wcf rfl (wp_skip (av (aa (sqr (sqp [sI 33 ((j:Int)+1) (by omega),.m 9 33] ?_))))))
 refine aa ?_
 refine⟨P0.length-((j+1)),by omega,?_⟩
 exact⟨(j+1),Cj,_,by omega,hup2,hin2,rfl,(by kernel_rfl),aQ.pk [0]⟩
 have hwl_:decide ((0:Int)<(t.ws.length:Int))=true:=by rw[hw_];simp
 have hwn_:t.ws≠[]:=by rw[hw_];simp
 refine cn (v:=vp b) rfl rfl rfl (ae rfl (by kernel_rfl) rfl hR12_.c0) (by dsimp only[List.set]) ?_
 refine cn (v:=vp b) rfl rfl rfl (kb rfl rfl) (by dsimp only[List.set]) ?_
 refine cn (v:=vp b) rfl rfl rfl (jf (k:=0) (n:=0) rfl (by kernel_rfl) rfl rfl) (by dsimp only[List.set]) ?_
 refine cn (v:= .slice PA P0.length Pc) rfl rfl rfl (ae rfl (by kernel_rfl) rfl hR12_.c1) (by dsimp only[List.set]) ?_
 refine cn (v:=vi ((j:Int))) rfl rfl rfl (dj rfl rfl) (by dsimp only[List.set]) ?_
 refine cn (v:= .pointer (some ((ad PA).add (j*513)))) rfl rfl rfl (aB (e:=144) (m:=j) (sz:=513) rfl (by kernel_rfl) (by kernel_rfl) rfl rfl (by omega) (by omega) hA_ (bj (sz:=513) du (by decide) (by omega))) (by dsimp only[List.set]) ?_
 refine cn (v:= .pointer (some ((ad PA).add (j*513+512)))) rfl rfl rfl (bt rfl (by kernel_rfl) rfl) (by dsimp only[List.set]) ?_
 refine cn (v:= .slice t.A t.ws.length t.c) rfl rfl rfl (ae rfl (by kernel_rfl) rfl (At.eltc (f:=shC) (k:=512) du hA_ htk (my t))) (by dsimp only[List.set]) ?_
 refine cn (v:=vi ((t.ws.length:Int))) rfl rfl rfl (qu (e:=142) rfl (by kernel_rfl) rfl) (by dsimp only[List.set]) ?_
 refine cn (v:= .bool true) rfl rfl rfl ((rv (v:= .bool (decide ((0:Int)<(t.ws.length:Int)))) rfl rfl rfl rfl).trans (by rw[hwl_])) (by dsimp only[List.set]) ?_
 refine cn (v:= .bool true) rfl rfl rfl (dj rfl rfl) (by dsimp only[List.set]) ?_
 refine cn (v:= .func (.yield l) #[] #[]) rfl rfl rfl (dj rfl rfl) (by dsimp only[List.set]) ?_
 refine cn (v:=vp b) rfl rfl rfl (ae rfl (by kernel_rfl) rfl hR12_.c0) (by dsimp only[List.set]) ?_
 refine cn (v:=vp b) rfl rfl rfl (kb rfl rfl) (by dsimp only[List.set]) ?_
 refine cn (v:=vp b) rfl rfl rfl (jf (k:=0) (n:=0) rfl (by kernel_rfl) rfl rfl) (by dsimp only[List.set]) ?_
 refine cn (v:= .slice PA P0.length Pc) rfl rfl rfl (ae rfl (by kernel_rfl) rfl hR12_.c1) (by dsimp only[List.set]) ?_
 refine cn (v:=vi ((j:Int))) rfl rfl rfl (dj rfl rfl) (by dsimp only[List.set]) ?_
 refine cn (v:= .pointer (some ((ad PA).add (j*513)))) rfl rfl rfl (aB (e:=144) (m:=j) (sz:=513) rfl (by kernel_rfl) (by kernel_rfl) rfl rfl (by omega) (by omega) hA_ (bj (sz:=513) du (by decide) (by omega))) (by dsimp only[List.set]) ?_
 have hjj_:=aQ.get 0 rfl
 have hyy_:=hY Cj pre j _ hjj_.holds (fun k hk=>(hjj_.own k hk).2) ⟨⟨t,htj,hwn_⟩,fun y hy=>hup y hy⟩
 refine Ld (args:=wrA PA j) (R:=fun B=>∃C',St _ Cj [eJ J C' (pre++[j])] B) rfl rfl rfl (fun r hr=>yG (args:=wrA PA j) rfl rfl rfl (ax rfl) hr) hyy_ (by dsimp only[List.set]) fun Bq ⟨C2,hJ2⟩=>?_
 have gx:=IM (L:=[]) aQ hJ2
 refine cn (v:= .bool false) rfl rfl rfl (vu rfl rfl rfl) (by dsimp only[List.set]) ?_
 refine cn (v:= .bool false) rfl rfl rfl (uc rfl rfl rfl) (by dsimp only[List.set]) ?_
 have hup2:∀y∈pre++[j],y<j+1:=fun y hy=>by
  rcases List.mem_append.1 hy with h_|h_
  have:=hup y h_;omega
  rw[List.mem_singleton] at h_;omega
 have hin2:∀i t,i<j+1->P0[i]? =some t->t.ws≠[]->i∈pre++[j]:=fun i t2 hi h1 h2=>by
  by_cases e_:i=j
  subst e_;simp
  exact List.mem_append_left _ (hin i t2 (by omega) h1 h2)
 refine Ew ?_
 refine aa (wcf rfl (wp_skip (av (aa (sqr (sqp [sI 33 ((j:Int)+1) (by omega),.m 9 33] ?_))))))
 refine aa ?_
 refine⟨P0.length-((j+1)),by omega,?_⟩
 exact⟨(j+1),C2,_,by omega,hup2,hin2,rfl,(by kernel_rfl),gx.pk [0]⟩
 refine wp_exit (al (al (bf ?_)))
 refine bpe (.tuple #[]) (by simp[results,Tryz.results142,go_sem]) ?_
 exact⟨⟨_,rfl⟩,Cj,pre,aQ,fun i t h1 h2=>hin i t (by have:=(List.getElem?_eq_some_iff.1 h1).1;omega) h1 h2⟩
theorem yO(q b:Nat)(PA:Option Addr)(Pc:Nat)(P0:List ShT)(hn:P0.length<=400):LK Tryz.prog 142 #[po q 0] (wrA PA) (LQ P0) (nF q b PA Pc P0) (WrZ P0):=fun l J W C0 hloc hlt hJ0 hRd hY=>
 callsIn_wide.2 (yT l q b PA Pc P0 J C0 W hloc hlt hJ0 hRd hY hn)
end
section
open Go.RowKit
def syS(x:ShD):ShD:=⟨rdT x,[]⟩
def syD(D:DkM):DkM:={D with pgs:=D.pgs.map syS}
def pbc:Value->Nat
 | .func _ _ cap=>pb (cap.getD 0 undef)
 |_=>0
theorem DkO.ofE{A:World}{D:DkM}{GA:Option Addr}{gc:Nat}(hlen:Ps2.length=D.pgs.length)(h1:Blk A b 100 (dkC D PA Pc GA gc))
  (h2:(eO 144 513 (.slice PA D.pgs.length Pc) D.pgs.length (Ps2.flatMap shC)).holds A) (h3:(eO 5 1 (.slice GA D.log.size gc) D.log.size ((bp D.log).map (Value.int .u8))).holds A) (h4:(eWs Ps2).holds A):
  DkO A b {D with pgs:=Ps2.map ee} PA Pc GA gc Ps2:=by
 refine⟨?_,At.of_ownN h2,rfl,lW.own h3,fun p hp=>EF h4 hp⟩
 rw[dkC] at h1 |-
 dsimp only
 rw[List.length_map,hlen];exact h1
theorem JC{R:ShD->ShD->Prop}{A:List ShT}{t2:ShT}{pre:List Nat}(hn:A.length∉pre)(hun:∀j,j∉pre->(A++t::B)[j]? =P0[j]?)(hdo:∀j∈pre,∀u v,P0[j]? =some u->(A++t::B)[j]? =some v->R (ee u) (ee v))(hR:R (ee t) (ee t2)):
  (∀j,j∉pre++[A.length]->(A++t2::B)[j]? =P0[j]?)/\∀j∈pre++[A.length],∀u v,P0[j]? =some u->(A++t2::B)[j]? =some v->R (ee u) (ee v):=by
 have hne:∀j,j≠A.length->(A++t2::B)[j]? =(A++t::B)[j]? :=fun j hj=>by
  rcases Nat.lt_or_ge j A.length with h|h
  rw[List.getElem?_append_left h,List.getElem?_append_left h]
  rw[List.getElem?_append_right h,List.getElem?_append_right h]
  obtain⟨m,hm⟩:∃m,j-A.length=m+1:=⟨j-A.length-1,by omega⟩
  rw[hm];rfl
 have hat:∀x:ShT,(A++x::B)[A.length]? =some x:=fun x=>by rw[List.getElem?_append_right (Nat.le_refl _),Nat.sub_self];rfl
 refine⟨fun j hj=>?_,fun j hj u v hu hv=>?_⟩
 have h1:j∉pre/\j≠A.length:=⟨fun h=>hj (List.mem_append_left _ h),fun h=>hj (by simp[h])⟩
 rw[hne j h1.2];exact hun j h1.1
 by_cases e:j=A.length
 subst e
 rw[hat] at hv
 have h2:=hun _ hn
 rw[hat,hu] at h2
 cases hv;cases h2
 exact hR
 rw[hne j e] at hv
 refine hdo j ?_ u v hu hv
 rcases List.mem_append.1 hj with h|h
 exact h
 exact absurd (List.mem_singleton.1 h) e
theorem JK{R:ShD->ShD->Prop}{xs:List Nat}(hun:∀j,j∉xs->Ps2[j]? =Ps[j]?)(hdo:∀j∈xs,∀u v,Ps[j]? =some u->Ps2[j]? =some v->R (ee u) (ee v))(hZ:WrZ Ps xs)(h0:∀x:ShD,x.ws=[]->R x x):
  ∀(j:Nat) x y,(Ps.map ee)[j]? =some x->(Ps2.map ee)[j]? =some y->R x y:=fun j x y hx hy=>by
 rw[List.getElem?_map] at hx hy
 obtain⟨u,hu,rfl⟩:=Option.map_eq_some_iff.1 hx
 obtain⟨v,hv,rfl⟩:=Option.map_eq_some_iff.1 hy
 by_cases h:j∈xs
 exact hdo j h u v hu hv
 rw[hun j h,hu] at hv
 cases hv
 refine h0 _ ?_
 by_cases hw:u.ws=[]
 exact hw
 exact absurd (hZ j u hu hw) h
theorem KD(x:ShD)(h:x.ws=[]):x=syS x:=by
 obtain⟨s,ws⟩:=x
 dsimp only at h
 subst h;rfl
theorem Kr(hl:Ps2.length=Ps.length)(h:∀(j:Nat) x y,(Ps.map ee)[j]? =some x->(Ps2.map ee)[j]? =some y->y=syS x):Ps2.map ee=(Ps.map ee).map syS:=by
 apply List.ext_getElem?
 intro j
 rcases hx:(Ps.map ee)[j]? with _|x
 have h1:=List.getElem?_eq_none_iff.1 hx
 rw[List.getElem?_map (f:=syS),hx,List.getElem?_eq_none (by rw[List.length_map] at h1 |-;omega)];rfl
 have h1:=(List.getElem?_eq_some_iff.1 hx).1
 obtain⟨y,hy⟩:∃y,(Ps2.map ee)[j]? =some y:=⟨_,List.getElem?_eq_getElem (by rw[List.length_map] at h1 |-;omega)⟩
 rw[hy,List.getElem?_map (f:=syS),hx,h j x y hx hy];rfl
theorem yF(b:Nat)(w:World):
  Calls Tryz.prog 84 #[po b 0] w ((fun w (e:Ending) (w':World)=>∃q,e= .returned (.func (.func 142) #[] #[po q 0])/\St w [] [eB q 30 #[po b 0]] w') w):=by
 go_enter Tryz.func84,Tryz.ntmps84
 have aj:=St.start w
 refine wq (sqr ?_)
 refine b9 #[vp b] aj fun aA W1 ay=>?_
 refine sqp [.k 2 (Go.Value.nilFunc)] ?_
 refine aa (wq (sqr ?_))
 refine sqv (.func (.func 142) #[] #[vp aA]) ay (by
   exact sv0 rfl rfl rfl rfl rfl (fun _ _ _ h=>h) fun c g W X cx=>by
    have zl:c (.tmp 1)=vp aA:=(cx.ou 1)
    simp[go_sem,Instr.makeFunc,zl]) fun W3 aW=>?_
 refine sqp [.m 2 3] ?_
 refine aa (wp_ret ?_)
 refine bpr (.func (.func 142) #[] #[vp aA]) (ag Tryz.results84 rpt) ?_
 exact⟨_,rfl,aW⟩
theorem Lv(A B:List ShT)(t:ShT)(x:H5):ql ((A++t::B).flatMap shC) (A.length*513) (hvC x)=(A++⟨x,t.A,t.c,t.ws⟩::B).flatMap shC:=by
 have hl:(A.flatMap shC).length=A.length*513:=me du A
 have e1:(A++t::B).flatMap shC=A.flatMap shC++(hvC t.s++([.slice t.A t.ws.length t.c]++B.flatMap shC)):=by rw[List.flatMap_append,List.flatMap_cons,shC,List.append_assoc]
 have e2:(A++⟨x,t.A,t.c,t.ws⟩::B).flatMap shC=A.flatMap shC++(hvC x++([.slice t.A t.ws.length t.c]++B.flatMap shC)):=by rw[List.flatMap_append,List.flatMap_cons,shC,List.append_assoc]
 rw[e1,e2,<-hl,sf _ _ _ _ (by rw[cX,cX])]
theorem Hd(b b2:Nat)(D:DkM)(fp:List Nat)(w:World)(hB:(eDk b D fp).holds w)(hlt:∀k∈fp,k<w.heap.size)(h2:Blk w b2 30 #[po b 0])(n2:b2∉fp)(hw:∀x∈D.pgs,x.ws.length<=1000000000)(hn:D.pgs.length<=400):
  Calls Tryz.prog 137 #[po b2 0] w (mf b (syD D) fp w):=by
 have st1:=St.lend hB (dV _ _ _) hlt
 obtain⟨PA,Pc,GA,gc,Ps,Qs,hps,hsub,hfp,hap,hall⟩:=hB
 have st0:=St.unpack st1 hfp hall hap
 subst hsub
 have hPl:Qs.length=D.pgs.length:=by rw[<-hps,List.length_map]
 obtain⟨Ps,rfl⟩:∃z,z=Qs:=⟨_,rfl⟩
 have st2:St w fp [eB b 100 #[.slice PA D.pgs.length Pc,.slice GA D.log.size gc,.int .i64 ((D.fl:Int)),.bool D.off,.bool D.armed,.int .i64 D.left],eO 144 513 (.slice PA D.pgs.length Pc) D.pgs.length (Ps.flatMap shC),eO 5 1 (.slice GA D.log.size gc) D.log.size ((bp D.log).map (Value.int .u8)),eWs Ps] w:=st0
 refine(callsIn_wide (n:=3)).1 (callsIn_of_wp_marks Tryz.func137 rfl trivial (wpIn_wide.2 ?_) rfl)
 simp only[Tryz.ntmps137,List.size_toArray,List.length_cons,List.length_nil,Nat.reduceAdd,Nat.reduceSub,Array.replicate_succ,Array.replicate_zero,List.push_toArray,List.append_toArray,List.nil_append,List.cons_append]
 have aj:=st2
 refine wq (aG [0,1] [] [[],[4]] [] [.c 2 (vp b),.a 3] (fun ix p g X=>match ix with|0=>True|1=>p 3= .func (.func 142) #[] #[vp (pbc (g 3))]/\X 4=eB (pbc (g 3)) 30 #[vp b]|_=>True) [0,1,2,3,4] [0,1] [(2,0,2,4)] aj ?_ ?_ ?_)
 exact fun ix _ _ _ _ _ _ hs hb hx h=>match ix,h with
 |1,h=>by dsimp only;rw[<-hs 3 rfl,<-hb 3 rfl,<-hx 4 rfl];exact h
 |0,_|_+2,_=>trivial
 refine⟨?_,?_,trivial⟩
 exact xs4 rfl id fun cx=>ae rfl (by kernel_rfl) (cx.ou 0) (Blk.cell (h2.upd cx.upd n2) 0)
 refine svA fun C g W X cx=>?_
 refine am.call (au (args:=#[vp b]) rfl cx.sees rfl (by kernel_rfl) (ax (cx.an 0))) ?_
 refine(yF b _).mono ?_
 rintro e W1 ⟨q4,rfl,aT⟩
 refine⟨_,rfl,rk [eB q4 30 #[vp b]] rfl rfl aT (fun p E X' hs hb hv hN=>?_)⟩
 have aJ:=(hv 3 rfl).1;have aV:=(hv 3 rfl).2
 exact⟨aJ.trans (by rw[aV];rfl),(by rw[aV];exact(List.cons.inj hN).1)⟩
 intro p g X W1 hD ay fr aD
 simp only[exq 4 ((dTn (hD 1 lq)).2)] at ay
 simp only[ed 3 ((dTn (hD 1 lq)).1)] at aD
 generalize pbc (g 3)=nV at ay aD
 clear hD;subst aD;clear p g X
 refine aa (wp_block ?_)
 have L7:=ay.pick [0,1,2,3,4] (by decide) rfl
 refine BQ (α:=Nat) L7 rfl (enters_of Tryz.func142 (by kernel_rfl) rfl) (encs:=wrA PA) (yO nV b PA Pc Ps (by omega)) (fun _=>rfl) (fun pre L=>∃Ps2:List ShT,Ps2.length=D.pgs.length/\(∀j,j∉pre->Ps2[j]? =Ps[j]?)/\(∀j∈pre,∀u v,Ps[j]? =some u->Ps2[j]? =some v->ee v=syS (ee u))/\L=[eB b 100 #[.slice PA D.pgs.length Pc,.slice GA D.log.size gc,vi ((D.fl:Int)),.bool D.off,.bool D.armed,vi D.left],eO 144 513 (.slice PA D.pgs.length Pc) D.pgs.length (Ps2.flatMap shC),eO 5 1 (.slice GA D.log.size gc) D.log.size ((bp D.log).map (Value.int .u8)),eWs Ps2,eB nV 30 #[vp b]]) ⟨Ps,hPl,fun j _=>rfl,(fun j hj=>by cases hj),rfl⟩ ?_ (fun xx a_ E_=>a_=⟨([vp b2,.pointer (some ((ad PA).add (xx*513))),vp b,.func (.func 142) #[] #[vp nV],.pointer (some ((ad PA).add (xx*513))),undef,undef,undef,undef,undef,undef,undef,undef,undef,undef,undef,undef,undef,undef,undef,undef,undef,undef]).toArray,[]⟩/\E_=e00) (fun xx=>[vp b2,undef,vp b,.func (.func 142) #[] #[vp nV],.pointer (some ((ad PA).add (xx*513))),undef,undef,undef,undef,undef,undef,undef,undef,undef,undef,undef,undef,undef,undef,undef,undef,undef,undef]) (fun xx=>by kernel_rfl) ?_ ?_ ?_
 rintro pre L A ⟨Ps2,hl2,hun2,hdo2,rfl⟩ hA_
 exact⟨hA_ (eB nV 30 #[vp b]) (by simp),_,GA,gc,Ps2,DkO.ofE hl2 (hA_ (eB b 100 #[.slice PA D.pgs.length Pc,.slice GA D.log.size gc,vi ((D.fl:Int)),.bool D.off,.bool D.armed,vi D.left]) (by simp)) (hA_ (eO 144 513 (.slice PA D.pgs.length Pc) D.pgs.length (Ps2.flatMap shC)) (by simp)) (hA_ (eO 5 1 (.slice GA D.log.size gc) D.log.size ((bp D.log).map (Value.int .u8))) (by simp)) (hA_ (eWs Ps2) (by simp)),by omega,hun2⟩
 intro rl xx W K hK;exact BP rfl rfl rfl (hK _ _ e00 ⟨rfl,rfl⟩ (St.e00 W)) (by kernel_rfl)
 rintro rl pre xx W4 L4 a4 E4 ⟨Ps2,hl2,hun2,hdo2,rfl⟩ hPx ⟨rfl,rfl⟩ IX
 have bc:St W4 (fps ([eB b 100 #[.slice PA D.pgs.length Pc,.slice GA D.log.size gc,vi ((D.fl:Int)),.bool D.off,.bool D.armed,vi D.left],eO 144 513 (.slice PA D.pgs.length Pc) D.pgs.length (Ps2.flatMap shC),eO 5 1 (.slice GA D.log.size gc) D.log.size ((bp D.log).map (Value.int .u8)),eWs Ps2,eB nV 30 #[vp b]]++[e00])) [eB b 100 #[.slice PA D.pgs.length Pc,.slice GA D.log.size gc,vi ((D.fl:Int)),.bool D.off,.bool D.armed,vi D.left],eO 144 513 (.slice PA D.pgs.length Pc) D.pgs.length (Ps2.flatMap shC),eO 5 1 (.slice GA D.log.size gc) D.log.size ((bp D.log).map (Value.int .u8)),eWs Ps2,eB nV 30 #[vp b],e00] W4:=IX
 clear IX
 obtain⟨⟨t,ht0,hwn⟩,hlt_⟩:=hPx
 have hxn:xx∉pre:=fun h_=>Nat.lt_irrefl _ (hlt_ xx h_)
 have htk:=(hun2 xx hxn).trans ht0
 obtain⟨A,B,rfl,rfl⟩:=yx htk
 have ho5_:=St.outW (L:=[eB b 100 #[.slice PA D.pgs.length Pc,.slice GA D.log.size gc,vi ((D.fl:Int)),.bool D.off,.bool D.armed,vi D.left],eO 144 513 (.slice PA D.pgs.length Pc) D.pgs.length ((A++t::B).flatMap shC),eO 5 1 (.slice GA D.log.size gc) D.log.size ((bp D.log).map (Value.int .u8)),eB nV 30 #[vp b],e00]) (bc.pick [0,1,2,4,5,3] (by decide) rfl)
 simp only[List.cons_append,List.nil_append,nJ] at ho5_
 have hwt:t.ws.length<=1000000000:=hw _ (by rw[<-hps];exact List.mem_map.2 ⟨t,List.mem_of_getElem? ht0,rfl⟩)
 have hAl:A.length<D.pgs.length:=by have:=(List.getElem?_eq_some_iff.1 htk).1;omega
 obtain⟨k2,hk2⟩:∃k2:Nat,t.ws.length=k2+1:=⟨t.ws.length-1,by have:=List.length_pos_iff.2 hwn;omega⟩
 obtain⟨x,hxk⟩:∃x,t.ws[k2]? =some x:=⟨_,List.getElem?_eq_getElem (by omega)⟩
 refine wpIn_block (lM [0,0,0,4,12,28,0,64,192,448,960,1984,4092,8188,16381,32765,65533,131071,262143,524287] [[],[],[],[],[],[1],[],[],[],[1],[],[],[6],[6],[],[],[1],[],[],[7]] [[],[],[],[],[],[],[],[],[],[],[],[],[],[],[],[],[7],[],[],[8]] [[],[],[],[],[],[],[],[],[],[],[],[],[],[],[],[],[1],[],[],[7]] [.k 5 (.pointer (some ((ad PA).add (A.length*513)))),.k 6 (.pointer (some ((ad PA).add (A.length*513)))),.k 7 (.pointer (some ((ad PA).add (A.length*513)))),.k 8 (.pointer (some ((ad PA).add (A.length*513)))),.c 9 (.pointer (some ((ad PA).add (A.length*513+512)))),.c 10 (.slice t.A t.ws.length t.c),.k 11 (.pointer (some ((ad PA).add (A.length*513)))),.k 12 (.pointer (some ((ad PA).add (A.length*513)))),.c 13 (.pointer (some ((ad PA).add (A.length*513+512)))),.c 14 (.slice t.A t.ws.length t.c),.k 15 (vi ((t.ws.length:Int))),tJ 16 ((t.ws.length:Int)-1) (k2:Int) (by omega) (by omega),.c 17 (.pointer (some ((ad t.A).add (k2*512)))),.c 18 (.agg (hvC x).toArray),.k 19 (.pointer (some ((ad PA).add (A.length*513)))),.c 20 (.pointer (some ((ad PA).add (A.length*513+0)))),.n,.k 21 (.pointer (some ((ad PA).add (A.length*513)))),.c 22 (.pointer (some ((ad PA).add (A.length*513+512)))),.n] (fun ix p g X=>match ix with|0|1|2|3|4|5|6|7|8|9|10|11|12|13|14|15=>True|16=>X 7=eO 144 513 (.slice PA D.pgs.length Pc) D.pgs.length ((A++⟨x,t.A,t.c,t.ws⟩::B).flatMap shC)|17|18=>True|19=>X 8=eO 144 513 (.slice PA D.pgs.length Pc) D.pgs.length ((A++⟨x,none,0,[]⟩::B).flatMap shC)|_=>True) [0,2,3,4,5,6,8] [4,5,8,9,12,13,15,16,18,19] [(5,0,19,23)] ho5_ ?_ ?_ ?_)
 exact fun ix _ _ _ _ _ _ hs hb hx h=>match ix,h with
 |16,h=>by dsimp only;rw[<-hx 7 rfl];exact h
 |19,h=>by dsimp only;rw[<-hx 8 rfl];exact h
 |0,_|1,_|2,_|3,_|4,_|5,_|6,_|7,_|8,_|9,_|10,_|11,_|12,_|13,_|14,_|15,_|17,_|18,_|_+20,_=>trivial
 refine⟨?_,?_,?_,?_,?_,?_,?_,?_,?_,?_,trivial⟩
 exact xs4 rfl id fun cx=>bt rfl (by kernel_rfl) (cx.an 3)
 exact xs4 rfl id fun cx=>ae rfl (by kernel_rfl) (cx.an 4) (At.eltc (f:=shC) (k:=512) du (At.of_ownN (cx.ri 1 rfl)) htk (my t))
 exact xs4 rfl id fun cx=>bt rfl (by kernel_rfl) (cx.an 7)
 exact xs4 rfl id fun cx=>ae rfl (by kernel_rfl) (cx.an 8) (At.eltc (f:=shC) (k:=512) du (At.of_ownN (cx.ri 1 rfl)) htk (my t))
 exact xs4 rfl id fun cx=>aB (e:=142) (m:=k2) (sz:=512) rfl (by kernel_rfl) (by kernel_rfl) (cx.an 5) (cx.an 11) (by omega) (by omega) (At.of_ownN (cx.ri 6 rfl)) (by have h_:=me (f:=hvC) (sz:=512) cX t.ws;show 0<(List.flatMap hvC t.ws).length;omega)
 exact xs4 rfl id fun cx=>bF (f:=hvC) (m:=k2) (sz:=512) (off:=0) (n:=512) rfl (by kernel_rfl) (by kernel_rfl) (cx.an 12) (List.size_toArray.trans (cX _)) cX (At.of_ownN (cx.ri 6 rfl)) hxk (fun k hk=>by rw[List.getElem?_toArray,Nat.zero_add])
 exact xs4 rfl id fun cx=>bt rfl (by kernel_rfl) (cx.an 14)
 refine svA fun C g W X cx=>?_
 exact rV (m:=A.length*513) (n:=D.pgs.length) (sz:=513) (k:=512) rfl (cx.an 15) (cx.an 13) (by kernel_rfl) (List.size_toArray.trans (cX _)) (List.all_eq_true.2 (rn _)) cx (cx.init 1 _ rfl) rfl (by omega) (by decide) rfl (Lv A B t x) rfl rfl (fun _ _ _ _ _=>id)
 exact xs4 rfl id fun cx=>bt rfl (by kernel_rfl) (cx.an 17)
 refine svA fun C g W X cx=>?_
 exact qe (m:=A.length*513+512) (n:=D.pgs.length) (sz:=513) rfl (cx.an 18) (cx.co _) (by kernel_rfl) rfl rfl cx (dTn (cx.an 16)) rfl (by omega) rfl (DY A B _ none 0 [] 0 rfl) rfl rfl (fun _ _ _ _ _=>id)
 intro p g X W6 hD bK fr aD
 simp only[exq 8 ((dTn (hD 19 lq)))] at bK
 clear hD;subst aD;clear p g X
 refine av ?_
 have hm7_:=fi (bK.pick [0,6,1,2,4] (by decide) rfl) 142 512
 have hm7b_:=St.inW (L:=[eB b 100 #[.slice PA D.pgs.length Pc,.slice GA D.log.size gc,vi ((D.fl:Int)),.bool D.off,.bool D.armed,vi D.left],eO 144 513 (.slice PA D.pgs.length Pc) D.pgs.length ((A++⟨x,none,0,[]⟩::B).flatMap shC),eO 5 1 (.slice GA D.log.size gc) D.log.size ((bp D.log).map (Value.int .u8)),eB nV 30 #[vp b]]) (A:=A) (B:=B) (t:=(⟨x,none,0,[]⟩:ShT)) hm7_
 simp only[List.cons_append,List.nil_append] at hm7b_
 obtain⟨hun3,hdo3⟩:=JC (R:=fun x y=>y=syS x) (t2:=(⟨x,none,0,[]⟩:ShT)) hxn hun2 hdo2 (by rw[syS,xN hxk hk2];rfl)
 exact⟨rfl,_,⟨(A++⟨x,none,0,[]⟩::B),by rw[<-hl2];simp,hun3,hdo3,rfl⟩,hm7b_.pick [0,1,2,4,3] (by decide) rfl⟩
 rintro D2 TW L2 XS_ ⟨Ps2,hl2,hun2,hdo2,rfl⟩ hZ_ IY
 simp only[List.cons_append,List.nil_append] at IY
 refine av ?_
 refine Gr (L:=[eB b 100 #[.slice PA D.pgs.length Pc,.slice GA D.log.size gc,vi ((D.fl:Int)),.bool D.off,.bool D.armed,vi D.left],eO 144 513 (.slice PA D.pgs.length Pc) D.pgs.length (Ps2.flatMap shC),eO 5 1 (.slice GA D.log.size gc) D.log.size ((bp D.log).map (Value.int .u8)),eWs Ps2,eB nV 30 #[vp b]]) (IY.pick [0,1,2,3,4,5] (by decide) rfl) fun Wt8 ht8=>?_
 refine⟨.tuple #[],(by simp[results,Tryz.results137,go_sem]),?_⟩
 have hsy_:=Kr (by omega) (JK (R:=fun x y=>y=syS x) hun2 hdo2 hZ_ KD)
 rw[hps] at hsy_
 have hpl_:(syD D).pgs.length=D.pgs.length:=List.length_map ..
 exact⟨rfl,St.dk (L:=[]) (D:=syD D) (PA:=PA) (Pc:=Pc) (GA:=GA) (gc:=gc) (Ps:=Ps2) (Qs:=Ps2) (by rw[dkL,dkC,hpl_];exact ht8.pick [0,1,2,3] (by decide) rfl) hsy_ rfl⟩
theorem EP(b b2:Nat)(D:DkM)(fp:List Nat)(w:World)(hB:(eDk b D fp).holds w)(hlt:∀k∈fp,k<w.heap.size)(h2:Blk w b2 30 #[po b 0])(n2:b2∉fp)(hw:∀x∈D.pgs,x.ws.length<=1000000000)(hn:D.pgs.length<=400):Calls Tryz.prog 126 #[po b 0,.func (.func 131) #[] #[],.func (.func 137) #[] #[po b2 0]] w (bV b (opD D 0 syD) fp w):=
 AX b D 0 syD 131 137 _ _ fp w hB hlt (by kernel_rfl) (by kernel_rfl) (fun W hU hA=>wH W) fun he W fp1 hU hh hl ho=>Hd b b2 _ fp1 W hh hl (h2.upd hU n2) (fun h10=>(ho b2 h10).elim n2 fun h11=>by have:=h2.lt;omega) hw hn
theorem EE(b:Nat)(D:DkM)(fp:List Nat)(w:World)(hB:(eDk b D fp).holds w)(hlt:∀k∈fp,k<w.heap.size)(hw:∀x∈D.pgs,x.ws.length<=1000000000)(hn:D.pgs.length<=400):
  Calls Tryz.prog 69 #[po b 0] w (bV b (opD D 0 syD) fp w):=by
 have st1:St w fp [eDk b D fp] w:=St.lend hB (dV _ _ _) hlt
 go_enter Tryz.func69,Tryz.ntmps69
 have aj:=st1
 refine wq (sqr ?_)
 refine b9 #[vp b] aj fun aA W1 ay=>?_
 refine sqp [.k 2 (vi 0)] ?_
 refine aa (wq (sqr (aq 1 ay ?_)))
 refine sqv (.func (.func 137) #[] #[vp aA]) ay (by
   exact sv0 rfl rfl rfl rfl rfl (fun _ _ _ h=>h) fun c g W X cx=>by
    have zl:c (.tmp 1)=vp aA:=(cx.ou 1)
    simp[go_sem,Instr.makeFunc,zl]) fun W4 bc=>?_
 refine bM (fun X_=>X_.fp) (vi ((opD D 0 syD).2)) (fun qL=>eDk b ((opD D 0 syD).1) qL) 0 bc (by
   refine svA fun c g W X cx=>?_
   refine am.call (au (args:=#[vp b,.func (.func 131) #[] #[],.func (.func 137) #[] #[vp aA]]) rfl cx.sees rfl (by kernel_rfl) (dL (cx.ou 3) (cx.sees.func _) (cx.ou 4))) ?_
   refine(EP b _ D _ _ (CtxV.holdF cx (cx.init 0 _ rfl) rfl) (CtxV.ltF cx (cx.init 0 _ rfl) rfl) (cx.bi 1 rfl) (by have h_:=cx.ap 1 0 rfl rfl (by decide);rw[(cx.init 1 _ rfl),(cx.init 0 _ rfl)] at h_;exact h_ _ (List.mem_singleton.2 rfl)) hw hn).mono ?_
   rintro e W1 ⟨rfl,fp4,aT⟩
   refine⟨_,rfl,aK (E:=eDk b D fp) [eDk b (opD D 0 syD).1 fp4] (cx.init 0 _ rfl) rfl rfl aT (fun j n X' hs hb hv hN=>?_)⟩
   have aJ:=(hv 5 rfl).1;have aV:=(hv 5 rfl).2
   exact⟨aJ.trans rfl,cJ ((List.cons.inj hN).1)⟩) fun qL W5 aR=>?_
 refine sqp [.m 2 5] ?_
 refine aa (wp_ret ?_)
 refine bpr (vi ((opD D 0 syD).2)) (ag Tryz.results69 rpt) ?_
 exact bV.of rfl (aR.pick [0] (by decide) rfl)
end
section
open Go.RowKit
def edA(n lsn:Int)(p:PgS)(e:EdT):PgS:=if e.1=n/\doE p e lsn=0 then doV p e lsn else p
def bo(n lsn:Int)(p:PgS)(l:List EdT):PgS:=l.foldl (edA n lsn) p
def ak(L:List RecM)(n:Int):PgS:=L.zipIdx.foldl (fun p x=>bo n ((x.2:Int)+1) p x.1.eds) bw
def bn(L:List RecM):Nat:=L.zipIdx.foldl (fun f x=>if x.1.kind=9 then x.2+1 else f) 0
def fC(L:List RecM)(n:Int):Bool:=L.foldl (fun b r=>if r.kind=9 then false else b||(r.kind==8&&r.tbl==n)) false
theorem jb(L:List RecM)(r:RecM)(n:Int):ak (L++[r]) n=bo n ((L.length:Int)+1) (ak L n) r.eds:=by
 rw[ak,List.zipIdx_append,List.foldl_append]
 simp[ak]
theorem go(L:List RecM)(r:RecM):bn (L++[r])=if r.kind=9 then L.length+1 else bn L:=by
 rw[bn,List.zipIdx_append,List.foldl_append]
 simp[bn]
theorem nf(L:List RecM)(r:RecM)(n:Int):fC (L++[r]) n=if r.kind=9 then false else (fC L n||(r.kind==8&&r.tbl==n)):=by
 rw[fC,List.foldl_append];rfl
theorem Ed{n:Int}{p:PgS}{e:EdT}(h:bJ p):bJ (edA n lsn p e):=by
 unfold edA
 split
 rename_i h1;exact kr h1.2
 exact h
theorem rU{n:Int}{l:List EdT}:∀{p:PgS},bJ p->bJ (bo n lsn p l):=by
 induction l with
 |nil=>intro p h;exact h
 |cons e l ih=>intro p h;exact ih (Ed h)
theorem oL{P:List RecM->Prop}(h0:P [])(hs:∀L r,P L->P (L++[r]))(L:List RecM):P L:=by
 have h:∀k (L:List RecM),L.length=k->P L:=by
  intro k
  induction k with
  |zero=>intro L h;rw[List.eq_nil_of_length_eq_zero h];exact h0
  |succ k ih=>
   intro L h
   rcases List.eq_nil_or_concat L with rfl|⟨L',x,rfl⟩
   cases h
   rw[List.concat_eq_append] at h |-
   exact hs L' x (ih L' (by simpa using h))
 exact h _ L rfl
theorem iB(L:List RecM)(n:Int):bJ (ak L n):=by
 induction L using oL with
 |h0=>exact x3
 |hs L r ih=>rw[jb];exact rU ih
theorem sw{n:Int}{p:PgS}{l:List EdT}(h:∀e∈l,e.1≠n):bo n lsn p l=p:=by
 induction l generalizing p with
 |nil=>rfl
 |cons e l ih=>
  show bo n lsn (edA n lsn p e) l=p
  rw[edA,if_neg (fun h1=>h e (by simp) h1.1)]
  exact ih fun x hx=>h x (by simp[hx])
theorem JQ(p:PgS)(e:EdT)(n:Int):(doV p e n).2.1=n:=by unfold doV;split<;>rfl
theorem B8{L L':List RecM}{n:Int}(h:∀r∈L',∀e∈r.eds,e.1≠n):ak (L++L') n=ak L n:=by
 induction L' using oL with
 |h0=>rw[List.append_nil]
 |hs L' r ih=>
  rw[<-List.append_assoc,jb,sw (h r (by simp))]
  exact ih fun x hx=>h x (by simp[hx])
end
section
open Go.RowKit
noncomputable def rdX(s:ByteArray):Option PgS:=by
 classical exact if h:∃p:PgS,bJ p/\bQ p.1 p.2.1 p.2.2=s then some h.choose else none
theorem o4{p:PgS}(h:rdX s=some p):bJ p/\bQ p.1 p.2.1 p.2.2=s:=by
 classical
 unfold rdX at h
 split at h
 rename_i h1
 injection h with h
 subst h
 exact h1.choose_spec
 cases h
theorem xQ(h:rdX s=none)(p:PgS)(hr:bJ p):bQ p.1 p.2.1 p.2.2≠s:=fun he=>by
 classical
 unfold rdX at h
 split at h
 cases h
 rename_i h1
 exact h1 ⟨p,hr,he⟩
def jg(w:World)(e:Ending)(w':World):Prop:=∃er:Int,er≠0/\e= .returned (.tuple #[.agg #[.int .i64 0,.int .i64 0,.slice none 0 0],.int .i64 er])/\Ext w w'
theorem jg.of{er:Int}{w':World}(h:er≠0)(hx:Ext w w'):jg w (.returned (.tuple #[.agg #[.int .i64 0,.int .i64 0,sn],.int .i64 er])) w':=⟨er,h,rfl,hx⟩
def fm(s:ByteArray)(p:Nat)(f:Bool):ByteArray×Nat×Bool:=if f=true\/s.size<p+2\/s.size<p+2+aP s p 2 then (ByteArray.empty,p,true) else (fh s p,p+2+aP s p 2,false)
theorem KV(B:Nat)(s:ByteArray)(p:Nat)(f:Bool)(w:World)(h:Rd 193 w B s p f):Calls Tryz.prog 103 #[po B 0] w (mO 193 (.string (fm s p f).1) B s (fm s p f).2.1 (fm s p f).2.2 w):=by
 unfold fm
 split
 rename_i h1
 exact Gi B s p f w h h1
 rename_i h1
 have hf:f=false:=by cases f;rfl;exact absurd (.inl rfl) h1
 subst hf
 exact oh B s p w h (by omega) (by omega)
theorem Hv(s:ByteArray)(p:Nat)(f:Bool):(fm s p f).1.size<=s.size:=by
 unfold fm
 split
 exact Nat.zero_le _
 show (fh s p).size<= _
 rw[fh,ByteArray.size_extract];omega
theorem GO{p:Nat}{f:Bool}(h:p<=s.size):(fm s p f).2.1<=s.size:=by
 unfold fm
 split
 exact h
 show p+2+aP s p 2<=s.size
 omega
theorem xS(s:ByteArray)(p:Nat):aP s p 1<256:=by
 have h:=vJ (s.extract p (p+1)).data.toList
 have h2:(s.extract p (p+1)).data.toList.length<=1:=by
  have:(s.extract p (p+1)).size<=1:=by rw[ByteArray.size_extract];omega
  show (bl (s.extract p (p+1))).length<=1
  rw[bT];exact this
 have h3:(256:Nat)^(s.extract p (p+1)).data.toList.length<=256^1:=Nat.pow_le_pow_right (by omega) h2
 unfold aP
 omega
theorem Jy(I:List ByteArray)(x:ByteArray):I.map Value.string++[.string x]=(I++[x]).map Value.string:=by simp
theorem Hw{k l:Int}{I:List ByteArray}(hb:∀p:PgS,bJ p->bQ p.1 p.2.1 p.2.2≠s)(hr:bA k l I=true):((bQ k l (af I)).toList==s.toList)=false:=by
 rcases h:(bQ k l (af I)).toList==s.toList with _|_
 rfl
 exact absurd (yD (by simpa using h)) (hb (k,l,af I) ⟨rS hr,iq I⟩)
theorem Gu{k l:Int}{ss:List ByteArray}(hr:bA k l ss=false)(hc:Calls Tryz.prog f args w (fI k l ss w)):Calls Tryz.prog f args w (Ret (.tuple #[.string ⟨#[]⟩,.int .i64 22]) w):=by
 rw[fI,if_neg (by rw[hr];decide)] at hc;exact hc
theorem DD{k l:Int}{ss:List ByteArray}{tt:ByteArray}(hr:bA k l ss=true)(ht:bQ k l (af ss)=tt)(hc:Calls Tryz.prog f args w (fI k l ss w)):Calls Tryz.prog f args w (Ret (.tuple #[.string tt,.int .i64 0]) w):=by
 subst ht
 rw[fI,if_pos hr] at hc;exact hc
theorem BK(s:ByteArray)(w:World)(hs:s.size=512)(hb:∀p:PgS,bJ p->bQ p.1 p.2.1 p.2.2≠s):
  Calls Tryz.prog 44 #[.string s] w (jg w):=by
 have hn4:=mE s 0
 have hn1:=xS s 9
 go_enter Tryz.func44,Tryz.ntmps44
 have aj:=St.start w
 refine wq (sqr (b8 #[vi 0,vi 0,sn] aj fun br W1 ay=>?_))
 refine sqp [.k 3 (vi 0)] ?_
 refine aa (wq (wq (sqr (sqp [.m 9 0,.k 10 (vi ((s.size:Int))),.k 11 (.bool ((s.size:Int) != 512))] ?_))))
 refine aa (wbs (fun dC=>?_) fun dC=>?_)
 have sZ:=bne_iff_ne.1 dC
 refine wq (sqr (sqp [.k 12 (.agg #[vi 0,vi 0,sn])] ?_))
 refine aX (n:=3) 0 #[vi 0,vi 0,sn] ay fun W8 dB=>?_
 refine sqp [.k 3 (vi 11)] ?_
 refine aa (wp_ret (ai ?_))
 refine bpr (.tuple #[.agg #[vi 0,vi 0,sn],vi 11]) (aO Tryz.results44 (rpa (dB.blk 0 rfl) 0 3) rpt) ?_
 exact jg.of (by decide) dB.ext
 have sZ:=bne_eq_false_iff_eq.1 dC
 refine wp_skip (aa (wq (sqr (sqp [.m 13 0] ?_))))
 refine sq (fun cW=>vp cW) (fun cW=>eB cW 193 #[.string s,vi 0,.bool false]) ay (fun cx=>⟨_,(rA s _).mono (by rintro e W1 ⟨B4,rfl,⟨hb4,hw4⟩,hx⟩;exact⟨_,rfl,St.one hx ⟨hb4,d7 _ _ _,fun k hk=>by simp[eB] at hk;subst hk;exact⟨hw4,hb4.lt⟩⟩⟩),(ax (cx.ou 13))⟩) fun cW Ff f8=>?_
 refine sqp [.m 4 14] ?_
 refine aa (wq (sqr (sqp [.m 15 4] ?_)))
 refine j0 (vi ((aP s 0 4:Int))) 1 #[.string s,vi 4,.bool false] f8 (fun cx=>⟨_,(dJ _ s 0 4 _ ⟨(cx.bi 1 rfl),by omega,by omega⟩ (by omega) (by omega)).mono (by rintro e W1 ⟨rfl,bZ,hu⟩;exact⟨rfl,hu,bZ.1⟩),(aM (cx.ou 15) (cx.co _))⟩) fun wY cq=>?_
 refine sqp [.m 5 16] ?_
 refine aa (wq (sqr (sqp [.m 17 4] ?_)))
 refine j0 (vi ((aP s 4 1:Int))) 1 #[.string s,vi 5,.bool false] cq (fun cx=>⟨_,(dJ _ s 4 1 _ ⟨(cx.bi 1 rfl),by omega,by omega⟩ (by omega) (by omega)).mono (by rintro e W1 ⟨rfl,bZ,hu⟩;exact⟨rfl,hu,bZ.1⟩),(aM (cx.ou 17) (cx.co _))⟩) fun ux dQ=>?_
 refine sqp [.m 19 4] ?_
 refine j0 (vi ((aP s 5 4:Int))) 1 #[.string s,vi 9,.bool false] dQ (fun cx=>⟨_,(dJ _ s 5 4 _ ⟨(cx.bi 1 rfl),by omega,by omega⟩ (by omega) (by omega)).mono (by rintro e W1 ⟨rfl,bZ,hu⟩;exact⟨rfl,hu,bZ.1⟩),(aM (cx.ou 19) (cx.co _))⟩) fun r9 dd=>?_
 refine sqp [.k 21 (.agg #[vi ((aP s 4 1:Int)),vi ((aP s 5 4:Int)),sn])] ?_
 refine b8 #[vi 0,vi 0,sn] dd fun fo r8 d8=>?_
 refine aX (n:=3) 2 #[vi ((aP s 4 1:Int)),vi ((aP s 5 4:Int)),sn] d8 fun wZ dF=>?_
 refine aa (wq (wq (bP [0,1,0,4,12,31,63,127,255,127,639,2047,4095] [] [.k 22 (vi ((aP s 0 4:Int))),tW 23 .u32 (aP s 0 4:Int) (aP s 0 4:Int) (IntWalk.u32_in _ (by omega)),.k 24 (.string s),.c 25 (.string (s.extract 4 s.size)),.c 26 (.int .u32 ((bg (s.extract 4 s.size):Int))),.k 27 (.bool ((aP s 0 4:Int) != (bg (s.extract 4 s.size):Int))),.k 28 (.bool ((aP s 0 4:Int) != (bg (s.extract 4 s.size):Int))),.z 29 (!((aP s 0 4:Int) != (bg (s.extract 4 s.size):Int))) (.string s),.y 30 (!((aP s 0 4:Int) != (bg (s.extract 4 s.size):Int))) (.string (s.extract 5 9)),.z 31 (!((aP s 0 4:Int) != (bg (s.extract 4 s.size):Int))) (.string s),.y 32 (!((aP s 0 4:Int) != (bg (s.extract 4 s.size):Int))) (.string (s.extract 508 s.size)),.y 33 (!((aP s 0 4:Int) != (bg (s.extract 4 s.size):Int))) (.bool (!((s.extract 5 9).toList==(s.extract 508 s.size).toList))),tO 34 ((aP s 0 4:Int) != (bg (s.extract 4 s.size):Int)) (!((s.extract 5 9).toList==(s.extract 508 s.size).toList))] [0,1,2] [3,4,8,10,11] [(22,0,13,35)] dF ?_ fun uA cF=>?_)))
 refine⟨?_,?_,?_,?_,?_,trivial⟩
 exact xs4 rfl id fun cx=>gI (l:=4) rfl (by kernel_rfl) (cx.an 2) (cx.co _) (by omega) (by omega)
 exact xsc rfl id rfl rfl fun cx=>⟨_,mv (s.extract 4 s.size) _ (by rw[ByteArray.size_extract];omega),(ax (cx.an 3))⟩
 exact m2 rfl (fun _ _ _ h=>h) (fun cx=>(cx.an 6)) fun cx hq=>p8 (l:=5) (m:=9) rfl (by kernel_rfl) (mbv (cx.an 7) hq) (cx.co _) (cx.co _) (by have hq_:=hq;simp only[zB] at hq_;omega) (by have hq_:=hq;simp only[zB] at hq_;omega) (by have hq_:=hq;simp only[zB] at hq_;omega) (by have hq_:=hq;simp only[zB] at hq_;omega)
 exact m2 rfl (fun _ _ _ h=>h) (fun cx=>(cx.an 6)) fun cx hq=>gI (l:=508) rfl (by kernel_rfl) (mbv (cx.an 9) hq) (cx.co _) (by have hq_:=hq;simp only[zB] at hq_;omega) (by have hq_:=hq;simp only[zB] at hq_;omega)
 exact m2 rfl (fun _ _ _ h=>h) (fun cx=>(cx.an 6)) fun cx hq=>qx rfl (mbv (cx.an 8) hq) (mbv (cx.an 10) hq)
 refine aa (wbs (fun s5=>?_) fun s5=>?_)
 have l4:=s5
 simp only[zB] at l4
 refine wq (sqr (sqp [.k 35 (.agg #[vi 0,vi 0,sn])] ?_))
 refine aX (n:=3) 0 #[vi 0,vi 0,sn] cF fun w3 fF=>?_
 refine sqp [.k 3 (vi 12)] ?_
 refine aa (wp_ret (ai ?_))
 refine bpr (.tuple #[.agg #[vi 0,vi 0,sn],vi 12]) (aO Tryz.results44 (rpa (fF.blk 0 rfl) 0 3) rpt) ?_
 exact jg.of (by decide) fF.ext
 have l4:=s5
 simp only[zB] at l4
 obtain⟨Ma,Mb⟩:=l4
 refine wp_skip (aa (wq (wq (sqr (sqp [.m 36 4] ?_)))))
 refine j0 (vi ((aP s 9 1:Int))) 1 #[.string s,vi 10,.bool false] cF (fun cx=>⟨_,(dJ _ s 9 1 _ ⟨(cx.bi 1 rfl),by omega,by omega⟩ (by omega) (by omega)).mono (by rintro e W1 ⟨rfl,bZ,hu⟩;exact⟨rfl,hu,bZ.1⟩),(aM (cx.ou 36) (cx.co _))⟩) fun IR iH=>?_
 refine sqp [.k 38 (vi 0)] ?_
 refine aa (wp_block ?_)
 have hn31:=St.nilrow iH 9
 simp only[List.cons_append,List.nil_append] at hn31
 refine aN (fun t_ mz az W=>∃j:Nat,∃pp:Nat,∃ff:Bool,∃Is:List ByteArray,∃AI:Option Addr,∃cI:Nat,j<=aP s 9 1/\pp<=s.size/\Is.length=j/\(∀x∈Is,x.size<=s.size)/\mz=aP s 9 1-j/\az=⟨(ovr (jv az) [(38,38,0,[vi ((j:Int))]),(0,39,9,[])] t_).toArray,[]⟩/\St w [] [eB br 48 #[vi 0,vi 0,sn],eB cW 193 #[.string s,vi ((pp:Int)),.bool ff],eB fo 48 #[vi ((aP s 4 1:Int)),vi ((aP s 5 4:Int)),.slice AI j cI],eO 9 1 (.slice AI j cI) j (Is.map Value.string)] W) (aP s 9 1-0) ?_ ?_
 exact⟨0,10,false,[],none,0,Nat.zero_le _,by omega,rfl,(fun x hx=>absurd hx List.not_mem_nil),rfl,(by kernel_rfl),hn31.pk [0,1,2,3]⟩
 rintro OT a32 za ⟨j,pp,ff,Is,AI,cI,hj,hpp,hIl,hIz,rfl,hj_,c6⟩
 refine ovz hj_ fun H0=>?_
 refine wq (sqr (sqp [.k 39 (.bool (decide ((j:Int)<(aP s 9 1:Int))))] ?_))
 refine aa (wq (wds (fun kB pr=>?_) fun kB pr=>?_))
 refine wp_skip (aa (wq (wp_block (aG [0,1,0,4,12,31,63,127] [[],[2],[],[1],[],[5,3],[],[2]] [[],[],[],[4],[5],[6],[],[7]] [[],[],[],[1],[],[3],[],[2]] [.k 40 (po fo 2),.c 41 (.slice AI j cI),.k 42 (vp cW),.a 43,.a 44,.a 45,.k 46 (po fo 2),.n] (fun ix u g X=>match ix with|0|1|2=>True|3=>u 43= .string ((fm s pp ff).1)/\X 4=eB cW 193 #[.string s,vi (((fm s pp ff).2.1:Int)),.bool ((fm s pp ff).2.2)]|4=>u 44= .slice (sA (g 44)) 1 1/\X 5=eO 9 1 (.slice (sA (g 44)) 1 1) 1 ([.string ((fm s pp ff).1)])|5=>u 45= .slice (sA (g 45)) (j+1) (sC (g 45))/\X 6=eO 9 1 (.slice (sA (g 45)) (j+1) (sC (g 45))) (j+1) ((Is++[(fm s pp ff).1]).map Value.string)|6=>True|7=>X 7=eB fo 48 #[vi ((aP s 4 1:Int)),vi ((aP s 5 4:Int)),.slice (sA (g 45)) (j+1) (sC (g 45))]|_=>True) [0,4,5,6,7] [1,3,4,5,7] [(40,0,7,47)] c6 ?_ ?_ ?_))))
 exact fun ix _ _ _ _ _ _ hs hb hx h=>match ix,h with
 |3,h=>by dsimp only;rw[<-hs 43 rfl,<-hx 4 rfl];exact h
 |4,h=>by dsimp only;rw[<-hs 44 rfl,<-hb 44 rfl,<-hx 5 rfl];exact h
 |5,h=>by dsimp only;rw[<-hs 45 rfl,<-hb 45 rfl,<-hx 6 rfl];exact h
 |7,h=>by dsimp only;rw[<-hb 45 rfl,<-hx 7 rfl];exact h
 |0,_|1,_|2,_|6,_|_+8,_=>trivial
 refine⟨?_,?_,?_,?_,?_,trivial⟩
 exact xs4 rfl id fun cx=>ae rfl (by kernel_rfl) (cx.an 0) ((cx.bi 2 rfl).cell 2)
 refine svA fun v g W X cx=>?_
 refine am.call (au (args:=#[vp cW]) rfl cx.sees rfl (by kernel_rfl) (ax (cx.an 2))) ?_
 refine(KV _ s pp ff _ ⟨(cx.bi 1 rfl),hpp,by omega⟩).mono ?_
 rintro e W1 ⟨rfl,bZ,hu⟩
 refine⟨_,rfl,ct (cx.init 1 _ rfl) rfl rfl hu bZ.1 (fun u A X' hs hb hv hx=>?_)⟩
 exact⟨(hv 43 rfl).1.trans rfl,hx⟩
 refine svA fun v g W X cx=>?_
 have H1:v (.tmp 43)= .string ((fm s pp ff).1):=(dTn (cx.an 3)).1
 exact dy (e:=9) (xs:=[.string ((fm s pp ff).1)]) rfl (by simp[go_sem,H1]) rfl (by decide) rfl rfl (fun _ _ _ _ _=> .intro)
 refine svA fun v g W X cx=>?_
 obtain⟨i0,hi0,hz0,hz1,hz2⟩:=info_parts Tryz.infoStr
 refine fe (n:=j) (m:=1) (nm:=j+1) (xs:=Is.map Value.string) (news:=[.string ((fm s pp ff).1)]) (xs':=(Is++[(fm s pp ff).1]).map Value.string) rfl (ty:=46) rfl (by kernel_rfl) hi0 hz0 hz1 hz2 rfl (cx.an 1) cx (cx.init 3 _ rfl) rfl (dTn (cx.an 4)).1 (by first|(simp;done)|(simp;omega)) (At.of_own (cx.row (dTn (cx.an 4)).2 rfl)) (by simp[Value.oneCell']) (by simp only[maxLen];omega) (by omega) rfl rfl rfl (by omega) (Jy _ _) (fun u A X' hs hb hv hx=>?_)
 exact⟨hv,hx⟩
 refine svA fun v g W X cx=>?_
 exact bx (n:=1) rfl (cx.an 6) (dTn (cx.an 5)).1 (by kernel_rfl) (by kernel_rfl) (by kernel_rfl) cx (cx.init 2 _ rfl) rfl (nle rfl) (by kernel_rfl) rfl rfl rfl (fun u A X' hs hb hx=>by rw[hb 45];exact hx)
 intro u g X wX hD dY fr aD
 simp only[exq 4 ((dTn (hD 3 lq)).2),exq 5 ((dTn (hD 4 lq)).2),exq 6 ((dTn (hD 5 lq)).2),exq 7 ((dTn (hD 7 lq)))] at dY
 simp only[ed 43 ((dTn (hD 3 lq)).1),ed 44 ((dTn (hD 4 lq)).1),ed 45 ((dTn (hD 5 lq)).1)] at aD
 generalize sA (g 44)=Mc,sA (g 45)=zd,sC (g 45)=ze at dY aD
 clear hD;subst aD;clear u g X
 refine av (aa (sqr (sqp [sI 47 ((j:Int)+1) (by omega),.m 38 47] ?_)))
 refine aa ?_
 refine⟨aP s 9 1-((j+1)),by omega,?_⟩
 exact⟨(j+1),(fm s pp ff).2.1,(fm s pp ff).2.2,(Is++[(fm s pp ff).1]),zd,ze,by omega,GO hpp,by rw[List.length_append,hIl];rfl,fun x hx=>(List.mem_append.1 hx).elim (hIz x) fun h_=>by rw[List.mem_singleton.1 h_];exact Hv s pp ff,rfl,(by kernel_rfl),dY.pk [0,1,4,3]⟩
 refine wp_exit (al (al (bf (aa (wq (wq ?_))))))
 subst hIl
 have hSm:dN Is:=⟨by have h_:=xS s 9;omega,fun x hx=>by have h_:=hIz x hx;omega⟩
 rcases hrg:bA (aP s 4 1:Int) (aP s 5 4:Int) Is with _|_
 refine sqr ?_
 refine bI 2 3 c6 ?_
 refine sqk (.tuple #[.string ((⟨#[]⟩:ByteArray)),vi 22]) c6 (fun cx=>⟨_,Gu hrg (nQ (aP s 4 1:Int) (aP s 5 4:Int) _ _ Is _ (At.of_own (cx.ri 3 rfl)) hSm),(ax (cx.ou 49))⟩) fun qD dq=>?_
 refine sqp [.m 48 50,.k 51 (.string ((⟨#[]⟩:ByteArray))),.k 52 (vi 22),.m 7 51,.m 8 52] ?_
 refine aa (wq (sqr (sqp [.m 53 4] ?_)))
 refine sqv (.bool ff) dq (by
   refine svA fun v g W X cx=>?_
   refine am.call (au (args:=#[vp cW]) rfl cx.sees rfl (by kernel_rfl) (ax (cx.ou 53))) ?_
   refine(fD _ s pp ff _ ⟨(cx.bi 1 rfl),hpp,by omega⟩).mono ?_
   rintro e W1 ⟨rfl,rfl⟩
   refine⟨_,rfl,bR [] rfl rfl (Ext.refl _) (by simp) List.Pairwise.nil (fun u A X' hs hb hv hN=>?_)⟩
   have aJ:=(hv 54 rfl).1;have aV:=(hv 54 rfl).2
   exact aJ.trans rfl) fun Bp fq=>?_
 refine sqp [.m 55 54] ?_
 refine sqw 55 [56,57] rfl (fun _=>sqp [.m 56 8,.k 57 (.bool true)] sqe) ?_
 refine sqp [sPo 58 ff true,.m 59 58] ?_
 refine sqw 59 [60,61,62] rfl (fun _=>sqp [.m 60 7,.m 61 0,.k 62 (.bool (!(((⟨#[]⟩:ByteArray)).toList==s.toList)))] sqe) ?_
 have hd56:((ff||true)||(!(((⟨#[]⟩:ByteArray)).toList==s.toList)))=true:=(by cases ff<;>rfl)
 refine sqp [BX 63 (ff||true) (!(((⟨#[]⟩:ByteArray)).toList==s.toList)) true hd56] ?_
 refine aa (wct rfl (wq (sqr (sqp [.k 64 (.agg #[vi 0,vi 0,sn])] ?_))))
 refine aX (n:=3) 0 #[vi 0,vi 0,sn] fq fun IT kk=>?_
 refine sqp [.k 3 (vi 22)] ?_
 refine aa (wp_ret (ai ?_))
 refine bpr (.tuple #[.agg #[vi 0,vi 0,sn],vi 22]) (aO Tryz.results44 (rpa (kk.blk 0 rfl) 0 3) rpt) ?_
 exact jg.of (by decide) kk.ext
 have hnb_:=Hw hb hrg
 obtain⟨tt,htt⟩:∃z,bQ (aP s 4 1:Int) (aP s 5 4:Int) (af Is)=z:=⟨_,rfl⟩
 rw[htt] at hnb_
 refine sqr ?_
 refine bI 2 3 c6 ?_
 refine sqk (.tuple #[.string tt,vi 0]) c6 (fun cx=>⟨_,DD hrg htt (nQ (aP s 4 1:Int) (aP s 5 4:Int) _ _ Is _ (At.of_own (cx.ri 3 rfl)) hSm),(ax (cx.ou 49))⟩) fun zf eP=>?_
 refine sqp [.m 48 50,.k 51 (.string tt),.k 52 (vi 0),.m 7 51,.m 8 52] ?_
 refine aa (wq (sqr (sqp [.m 53 4] ?_)))
 refine sqv (.bool ff) eP (by
   refine svA fun v g W X cx=>?_
   refine am.call (au (args:=#[vp cW]) rfl cx.sees rfl (by kernel_rfl) (ax (cx.ou 53))) ?_
   refine(fD _ s pp ff _ ⟨(cx.bi 1 rfl),hpp,by omega⟩).mono ?_
   rintro e W1 ⟨rfl,rfl⟩
   refine⟨_,rfl,bR [] rfl rfl (Ext.refl _) (by simp) List.Pairwise.nil (fun u A X' hs hb hv hN=>?_)⟩
   have aJ:=(hv 54 rfl).1;have aV:=(hv 54 rfl).2
   exact aJ.trans rfl) fun Fj gF=>?_
 refine sqp [.m 55 54] ?_
 refine sqw 55 [56,57] rfl (fun _=>sqp [.m 56 8,.k 57 (.bool false)] sqe) ?_
 refine sqp [sPo 58 ff false,.m 59 58] ?_
 refine sqw 59 [60,61,62] rfl (fun _=>sqp [.m 60 7,.m 61 0,.k 62 (.bool (!(tt.toList==s.toList)))] sqe) ?_
 have hd78:((ff||false)||(!(tt.toList==s.toList)))=true:=(by rw[hnb_];cases ff<;>rfl)
 refine sqp [BX 63 (ff||false) (!(tt.toList==s.toList)) true hd78] ?_
 refine aa (wct rfl (wq (sqr (sqp [.k 64 (.agg #[vi 0,vi 0,sn])] ?_))))
 refine aX (n:=3) 0 #[vi 0,vi 0,sn] gF fun OV pu=>?_
 refine sqp [.k 3 (vi 22)] ?_
 refine aa (wp_ret (ai ?_))
 refine bpr (.tuple #[.agg #[vi 0,vi 0,sn],vi 22]) (aO Tryz.results44 (rpa (pu.blk 0 rfl) 0 3) rpt) ?_
 exact jg.of (by decide) pu.ext
def li(s:ByteArray)(w:World):Ending->World->Prop:=match rdX s with
 |some p=>d4 p.1 p.2.1 p.2.2 0 w
 |none=>jg w
theorem sR(s:ByteArray)(w:World)(hs:s.size=512):Calls Tryz.prog 44 #[.string s] w (li s w):=by
 unfold li
 rcases h:rdX s with _|p
 exact BK s w hs fun p hp=>xQ h p hp
 obtain⟨⟨h1,h2⟩,h3⟩:=o4 h
 have h4:=B2 p.1 p.2.1 p.2.2 w h1
 rw[h2,h3] at h4
 exact h4
end
section
open Go.RowKit
def aH(p:PgS):ByteArray:=bQ p.1 p.2.1 p.2.2
noncomputable def rdP(s:ByteArray):PgS:=(rdX s).getD bw
theorem mt{p:PgS}(h:bJ p):Says (aH p) p.1 p.2.1 p.2.2:=by
 have h1:=tz h.1
 rw[h.2] at h1;exact h1
theorem DV{p q:PgS}(hp:bJ p)(hq:bJ q)(h:aH p=aH q):p=q:=by
 have h1:=mt hp
 have h2:=mt hq
 rw[<-h] at h2
 obtain⟨k,l,I⟩:=p
 obtain⟨k',l',I'⟩:=q
 have e1:=h1.kind.symm.trans h2.kind
 have e2:=h1.lsn.symm.trans h2.lsn
 have e3:=h1.many.symm.trans h2.many
 dsimp only at e1 e2 e3 h1 h2
 subst e1 e2
 have e4:∀j,j<=I.length->I.take j=I'.take j:=by
  intro j
  induction j with
  |zero=>intro _;rfl
  |succ j ih=>
   intro hj
   have ih:=ih (by omega)
   have t1:=(h1.text j (by omega)).2.2.1
   have t2:=(h2.text j (by omega)).2.2.1
   rw[ih] at t1
   rw[List.take_succ_eq_append_getElem (by omega),List.take_succ_eq_append_getElem (by omega),ih]
   have g1:I.getD j ByteArray.empty=I'.getD j ByteArray.empty:=t1.symm.trans t2
   rw[List.getD_eq_getElem?_getD,List.getD_eq_getElem?_getD,List.getElem?_eq_getElem (by omega),List.getElem?_eq_getElem (by omega)] at g1
   have g1:I[j]=I'[j]:=g1
   rw[g1]
 have e5:=e4 I.length (Nat.le_refl _)
 rw[List.take_length,e3,List.take_length] at e5
 rw[e5]
theorem yj{p:PgS}(h:bJ p):rdP (aH p)=p:=by
 unfold rdP
 rcases hx:rdX (aH p) with _|q
 exact absurd rfl (xQ hx p h)
 obtain⟨h1,h2⟩:=o4 hx
 exact DV h1 h h2
theorem dD{p:PgS}(h:bJ p):(aH p).size=512:=(mt h).size
theorem Kd(p:PgS)(h:bJ p):aH p≠dW 512:=fun he=>by
 have h1:=(mt h).sum
 rw[he] at h1
 have h2:aP (dW 512) 0 4=0:=by decide+kernel
 have h3:bg ((dW 512).extract 4 512)≠0:=by decide+kernel
 omega
theorem Ju:rdP (dW 512)=bw:=by
 unfold rdP
 rcases hx:rdX (dW 512) with _|q
 rfl
 obtain⟨h1,h2⟩:=o4 hx
 exact absurd h2 (Kd q h1)
def hf1(s:ByteArray):ByteArray:=s.extract 0 256
def hf2(s:ByteArray):ByteArray:=s.extract 256 512
end
section
open Go.RowKit
theorem IL(x:Int){n:Int}(hn:0<n): -n<x.tmod n/\x.tmod n<n:=by
 have h1:=Int.natAbs_tmod x n
 have h2:x.natAbs % n.natAbs<n.natAbs:=Nat.mod_lt _ (by omega)
 omega
theorem NO(x:Int){n:Int}(hn:0<n):0<=(x.tmod n+n).tmod n/\(x.tmod n+n).tmod n<n:=by
 have h1:=IL x hn
 rw[Int.tmod_eq_emod_of_nonneg (by omega)]
 exact⟨Int.emod_nonneg _ (by omega),Int.emod_lt_of_pos _ hn⟩
end
section
open Go.RowKit Go.Maps Go.ChangeMaps
def nH:Option Nat->Value
 |none=> .pointer none
 |some k=> .pointer (some ⟨k,0,none⟩)
def vK:Option Nat->DataW Unit
 |none=> .lit (.int .i64 (-1))
 |some k=> .lit (.int .i64 (k:Int))
def Ck:Value->Option (DataW Unit×List MemPlace)
 | .pointer none=>some (.lit (.int .i64 (-1)),[])
 | .pointer (some ⟨k,0,none⟩)=>some (.lit (.int .i64 (k:Int)),[])
 |_=>none
theorem yX(v:Value)(d:DataW Unit)(ps:List MemPlace)(e:Option Nat)(h:Ck v=some (d,ps))(hd:d=vK e):v=nH e:=by
 subst hd
 unfold Ck at h
 split at h
 cases e with
 |none=>rfl
 |some k=>simp[vK] at h
 rename_i j
 cases e with
 |none=>simp[vK] at h
 |some k=>
  simp[vK] at h
  obtain⟨h,_⟩:=h
  have:j=k:=by omega
  subst this;rfl
 cases h
def ptC:Cod (Option Nat) where
 enc:=nH
 dat:=vK
 R:=Ck
 e0:=none
 read:=fun e=>by cases e<;>rfl
 back:=yX
def ptX:Ec (Option Nat) where
 enc:=nH
 dat:=vK
 R:=Ck
 e0:=none
 okE:=fun _=>True
 read:=fun e _=>by cases e<;>rfl
 back:=yX
 ok0:=trivial
noncomputable def ecB:Ec Bool where
 enc:= .bool
 dat:=fun v=> .lit (.bool v)
 R:=plainElem Tryz.prog 4
 e0:=false
 okE:=fun _=>True
 read:=fun e _=>plainElem_bool (by kernel_rfl) e
 back:=fun v d ps e h1 h2=>by
  subst h2
  unfold plainElem at h1
  have hu:Tryz.prog.underlying 4=some .bool:=by kernel_rfl
  rw[hu] at h1
  cases v<;>simp at h1
  rw[h1.1]
 ok0:=trivial
section
variable{P:Program}{k b r n cnt:Nat}{m:Int->Option (Option Nat)}{left:Int->Bool}{cur:Option (Int×Option Nat)}
theorem ut{x:Int}(h:(Lit.int .i64 x).wf=true):kcI.ok x:=by
 have h1:(decide (IntKind.i64.min<=x)&&decide (x<=IntKind.i64.max))=true:=h
 rw[Bool.and_eq_true,decide_eq_true_eq,decide_eq_true_eq] at h1
 have e1:IntKind.i64.min= -9223372036854775808:=by decide
 have e2:IntKind.i64.max=9223372036854775807:=by decide
 rw[e1,e2] at h1
 exact h1
theorem gD.g(h:gD kcI ptX P k b n m W):Pf ptC P k b n m W:=by
 obtain⟨D,h1,h2,_,h4⟩:=h
 exact⟨D,h1,h2.isMap,fun x hx=>h4 x (ut hx)⟩
def eRx(P:Program)(k b r n:Nat)(m:Int->Option (Option Nat))(left:Int->Bool)(cnt:Nat)(cur:Option (Int×Option Nat)):Ent:=⟨[b,r],fun W=>(eRg ptC P k b r n m left cnt cur).holds W/\gD kcI ptX P k b n m W⟩
theorem vP:(eRx P k b r n m left cnt cur).loc:=fun W W' h hb=>⟨Ka W W' h hb.1,mc P k b n m W W' (fun j hj=>h j (by rw[List.mem_singleton.1 hj];simp[eRx])) hb.2⟩
theorem St.endRx{L:List Ent}(h:St w0 bor (L++[eRx P k b r n m left cnt cur]) W):St w0 bor (L++[eMx kcI ptX P k b n m]) W:=by
 have ha:=List.pairwise_append.1 h.apart
 have ht:=h.ok (eRx P k b r n m left cnt cur) (by simp)
 refine⟨h.upd,fun x hx=>?_,List.pairwise_append.2 ⟨ha.1,List.pairwise_singleton _ _,fun x hx y hy j hj hj2=>?_⟩⟩
 rcases List.mem_append.1 hx with hx|hx
 exact h.ok x (List.mem_append_left _ hx)
 rw[List.mem_singleton] at hx
 subst hx
 exact⟨ht.holds.2,mc _ _ _ _ _,fun j hj=>ht.own j (by rw[List.mem_singleton.1 hj];simp[eRx])⟩
 rw[List.mem_singleton] at hy
 subst hy
 exact ha.2.2 x hx (eRx P k b r n m left cnt cur) (by simp) j hj (by rw[List.mem_singleton.1 hj2];simp[eRx])
end
section
variable{P:Program}{ops:Array Oper}{L:List Nat}{a0:Act}{w0:World}{bor:List Nat}{X0:List Ent}{us cr kl:List (List Nat)}
 {D:Nat->(Tmp->Value)->(Tmp->Value)->(Nat->Ent)->Prop}{i:Nat}{o:Oper}{ρ:Operand->Value}{β:Tmp->Value}{W:World}{X:Nat->Ent}
theorem CtxV.rx{n:Nat}(cx:CtxV ops L a0 w0 bor X0 us D i ρ β W X)(hX:X q=eRx P k b r n m left cnt cur)(hu:(atV us i).contains q=true):gD kcI ptX P k b n m W:=by
 have h:=(cx.ok q hu).holds
 rw[hX] at h;exact h.2
theorem Ee{t n:Nat}{x:Operand}(h:o.op= .range t x)(hx:ρ x= .map (some b))(cx:CtxV ops L a0 w0 bor X0 us D i ρ β W X)(hX:X q=eMx kcI ptX P k b n m)(hq:(atV us i).contains q=true)(hd:o.dst=some d)(hc:atV cr i=[q'])(hkl:atV kl i=[q])
  (hD:∀(u p:Tmp->Value) (X':Nat->Ent),(∀t,t≠d->u t=ρ (.tmp t))->(∀t,t≠d->p t=β t)->u d= .pointer (some ⟨pb (p d),0,none⟩)->X' q'=eRx P k b (pb (p d)) n m (fun x=>(m x).isSome) n none->D i u p X')
  (hk:P.underlying k=some (.int .i64):=by kernel_rfl) (ht:P.underlying t=some (.map k e):=by kernel_rfl):am P o ρ W (bX cr kl D i o.dst ρ β W X):=by
 have hmx:=cx.mx hX hq
 have hlt:=hmx.lt
 obtain⟨D0,hD0,hI,hm⟩:=hmx.g
 obtain⟨W',hrun,hr,hg,hsz⟩:=hD0.range (int_keyed hk) ht
 have hS:((atV kl i).flatMap fun q=>(X q).fp)=[b]:=by rw[hkl];simp[hX,eMx]
 refine am.value (v:=po W.heap.size 0) (w':=W') (by unfold execOp;rw[h];simp[hx,hrun]) ⟨[eRx P k b W.heap.size n m (fun x=>(m x).isSome) n none],by rw[hc];rfl,⟨?_,fun e' he'=>?_,List.pairwise_singleton _ _⟩,fun u p X' hs hv hb' hbv hx' hN=>?_⟩
 rw[hS]
 exact⟨hg.os,hg.tape,hg.output,hg.size,fun j hj hn=>hg.block j hj (by simp)⟩
 rw[List.mem_singleton] at he'
 subst he'
 refine⟨⟨⟨D0,_,_,hr,E6 hr,fun x hx=>(hm x hx).1,hI,hm,fun x hx=>hx,fun x c hc'=>by cases hc'⟩,mc P k b n m W W' (fun j hj=>hg.block j (by rw[List.mem_singleton.1 hj];exact hlt) (by simp)) hmx⟩,vP,fun j hj=>?_⟩
 rw[hS]
 rcases(by simpa[eRx] using hj:j=b\/j=W.heap.size) with rfl|rfl
 exact⟨.inl (by simp),by omega⟩
 exact⟨.inr (Nat.le_refl _),by omega⟩
 rw[hc] at hN
 refine hD u p X' (fun t ht=>hs t (by rw[hd];simpa using ht.symm)) (fun t ht=>hb' t (by rw[hd];simpa using ht.symm)) ?_ ?_
 rw[hv d hd,hbv d hd];rfl
 rw[hbv d hd];exact(List.cons.inj hN).1
def Ce(P:Program)(k b r n:Nat)(m:Int->Option (Option Nat))(left:Int->Bool)(cnt:Nat)(v:Value)(e:Ent):Prop:=
 (v= .tuple #[.bool false]/\(∀x:Int,(Lit.int .i64 x).wf=true->left x=false)/\e=eRx P k b r n m left cnt none)\/
 ∃(x:Int) (c:Option Nat),v= .tuple #[.bool true,.int .i64 x,nH c]/\(-9223372036854775808<=x/\x<=9223372036854775807)/\left x=true/\m x=some c/\0<cnt/\e=eRx P k b r n m (fun y=>left y&&y != x) (cnt-1) (some (x,c))
theorem Hl{n:Nat}(h:o.op= .next x false)(hx:ρ x=po r 0)(cx:CtxV ops L a0 w0 bor X0 us D i ρ β W X)(hX:X q=eRx P k b r n m left cnt cur)(hq:(atV us i).contains q=true)(hd:o.dst=some d)(hc:atV cr i=[q'])(hkl:atV kl i=[q])
  (hD:∀(g p:Tmp->Value) (X':Nat->Ent),(∀t,t≠d->g t=ρ (.tmp t))->(∀t,t≠d->p t=β t)->Ce P k b r n m left cnt (g d) (X' q')->D i g p X')
  (hk:P.underlying k=some (.int .i64):=by kernel_rfl):am P o ρ W (bX cr kl D i o.dst ρ β W X):=by
 have hok:=cx.ok q hq
 rw[hX] at hok
 have hS:((atV kl i).flatMap fun q=>(X q).fp)=[b,r]:=by rw[hkl];simp[hX,eRx]
 have hlt:∀j∈[b,r],j<W.heap.size:=fun j hj=>(hok.own j hj).2
 obtain⟨⟨D0,lf,c0,hr,hle,hl,hI,hm,hls,hcur⟩,hMX⟩:=hok.holds
 have hbr:b≠r:=fun e=>by
  obtain⟨es,clock,since,seen,c1,h1,h2,h3,h4,h5,h6⟩:=hr
  rw[e,h5] at h1;cases h1
 rcases hr.next (int_keyed hk) o.type with ⟨h0,hl0,hrun⟩|⟨key,v,kl',y,w',cnt',hkey,hlk,hv,hat,hrun,hrg,hlt',hgr,hsz,hen⟩
 refine am.value (v:= .tuple #[.bool false]) (w':=W) (by unfold execOp;rw[h];simp[hx,hrun]) ⟨[eRx P k b r n m left cnt none],by rw[hc];rfl,⟨Upd.refl _ _,fun e' he'=>?_,List.pairwise_singleton _ _⟩,fun g p X' hs hv hb' hbv hx' hN=>?_⟩
 rw[List.mem_singleton] at he'
 subst he'
 refine⟨⟨⟨D0,lf,c0,hr,hle,hl,hI,hm,hls,fun x c hc'=>by cases hc'⟩,hMX⟩,vP,fun j hj=>?_⟩
 rw[hS]
 exact⟨.inl hj,hlt j hj⟩
 rw[hc] at hN
 exact hD g p X' (fun t ht=>hs t (by rw[hd];simpa using ht.symm)) (fun t ht=>hb' t (by rw[hd];simpa using ht.symm)) (.inl ⟨hv d hd,fun x hx=>by rw[<-hl x hx,hl0],(List.cons.inj hN).1⟩)
 obtain⟨x0,rfl,rfl,hwx⟩:=keyOf_int_inv hk hkey
 have hx0: -9223372036854775808<=x0/\x0<=9223372036854775807:=ut hwx
 have hlx:left x0=true:=by rw[<-hl x0 hwx];exact hlk
 have hso:=hls x0 hlx
 obtain⟨c,hmc⟩:=Option.isSome_iff_exists.1 hso
 have hvc:v=nH c:=by
  have h2:=(hm x0 hwx).2
  rw[hat,hmc] at h2
  obtain⟨y1,y2⟩:=y
  exact ptC.back v _ y2 _ hv h2
 subst hvc
 have hb1:∀W2:World,W2.heap[b]? =w'.heap[b]? ->W2.heap[r]? =w'.heap[r]? ->(Instr.entry (po r 0)).run P W2= .ok (.tuple #[.int .i64 x0,nH c]) W2:=fun W2 e1 e2=>Aj hrg hen e1 e2
 have hMX2:gD kcI ptX P k b n m w':=mc P k b n m W w' (fun j hj=>by
  rw[List.mem_singleton.1 hj]
  exact hgr.block b (hlt b (by simp)) (fun e'=>by cases e';exact hbr rfl)) hMX
 refine am.value (v:= .tuple #[.bool true,.int .i64 x0,nH c]) (w':=w') (by unfold execOp;rw[h];simp[hx,hrun]) ⟨[eRx P k b r n m (fun y=>left y&&y != x0) (cnt-1) (some (x0,c))],by rw[hc];rfl,⟨?_,fun e' he'=>?_,List.pairwise_singleton _ _⟩,fun g p X' hs hv hb' hbv hx' hN=>?_⟩
 rw[hS]
 exact⟨hgr.os,hgr.tape,hgr.output,hgr.size,fun j hj hn=>hgr.block j hj (fun e'=>hn (by cases e';simp))⟩
 rw[List.mem_singleton] at he'
 subst he'
 refine⟨⟨⟨D0,_,cnt',hrg,by omega,fun z hz=>?_,hI,hm,fun z hz=>hls z (by simp only[Bool.and_eq_true] at hz;exact hz.1),fun x c' hc'=>?_⟩,hMX2⟩,vP,fun j hj=>?_⟩
 show (lf (.int .i64 z)&&!(Lit.sameKey (.int .i64 z) (.int .i64 x0)))=(left z&&z != x0)
 rw[hl z hz]
 simp[Lit.sameKey,bne,BEq.beq]
 cases hc'
 exact hb1
 rw[hS]
 exact⟨.inl hj,by rw[hsz];exact hlt j hj⟩
 rw[hc] at hN
 exact hD g p X' (fun t ht=>hs t (by rw[hd];simpa using ht.symm)) (fun t ht=>hb' t (by rw[hd];simpa using ht.symm)) (.inr ⟨x0,c,hv d hd,hx0,hlx,hmc,by omega,(List.cons.inj hN).1⟩)
theorem Ci{n:Nat}{x0:Int}{c:Option Nat}(h:o.op= .entry x)(hx:ρ x=po r 0)(hE:(eRx P k b r n m left cnt (some (x0,c))).holds W):(execOp ρ o).run P W= .ok (.value (.tuple #[.int .i64 x0,nH c])) W:=Cq h hx hE.1
theorem Cd{j p:Type}{K:Kc j}{C:Ec p}{t n d:Nat}{m:j->Option p}(h:o.op= .call {callee:= .builtin .clear,args:=#[x],argTypes:=#[t]})(hx:ρ x= .map (some b))(cx:CtxV ops L a0 w0 bor X0 us D i ρ β W X)(hX:X q=eMx K C P k b n m)(hq:(atV us i).contains q=true)(hc:atV cr i=[q'])(hkl:atV kl i=[q])
  (hD:∀(c g:Tmp->Value) (X':Nat->Ent),(∀t,o.dst≠some t->c t=ρ (.tmp t))->(∀t,o.dst≠some t->g t=β t)->X' q'=eMx K C P k b 0 (fun _=>none)->D i c g X')
  (ht:P.underlying t=some (.map k e):=by kernel_rfl):am P o ρ W (bX cr kl D i o.dst ρ β W X):=by
 have hmx:=cx.mx hX hq
 have hlt:=hmx.lt
 obtain⟨D0,⟨es,clock,h1,h2,h3⟩,h4⟩:=hmx
 have hnew:=heap_setBlock_same h1 (.map #[] clock)
 have hup:Upd [b] W (setBlock W b (.map #[] clock)):=⟨rfl,rfl,rfl,by simp[setBlock],fun i hi hn=>heap_setBlock_other h1 _ (fun e'=>hn (by simp[e']))⟩
 have hmx2:gD K C P k b 0 (fun _=>none) (setBlock W b (.map #[] clock)):=⟨.map [],⟨#[],clock,hnew,⟨by simp,MapKept.stamped_empty clock,by simp⟩,Nat.le_refl _,rfl⟩,tidy_empty,rfl,fun x hx=>⟨rfl,rfl⟩⟩
 have hrun:(execOp ρ o).run P W= .ok (.value (.tuple #[])) (setBlock W b (.map #[] clock)):=by
  unfold execOp;rw[h]
  simp[hx,resolve,invoke,builtin,Builtin.clear_,run_underlying ht,MapKept.run_getObj_map h1,MapKept.run_setObj_map _ h1,Result.andThen,setBlock]
 obtain⟨a1,a2,a3⟩:=qj (cr:=cr) (kl:=kl) (i:=i) hX hmx2 hup hc hkl
 refine am.value hrun ⟨[eMx K C P k b 0 (fun _=>none)],a1,⟨a2,a3,List.pairwise_singleton _ _⟩,fun c g X' hs hv hb' hbv hx' hN=>hD c g X' hs hb' ?_⟩
 rw[hc] at hN
 exact(List.cons.inj hN).1
end
end
section
open Go.RowKit
structure PgR where
 p:PgS
 A:Option Addr
 c:Nat
structure BfT where
 n:Int
 blk:Nat
 pg:PgR
 dirty:Bool
 used:Int
structure StM where
 D:DkM
 bufs:Int
 pool:List BfT
 time:Int
 recs:List RcT
 ni:Nat
 im:Int->Option Bool
 nt:Nat
 told:Int->Option Bool
 frm:Int
 rows:List PgR
 rr:List RcT
abbrev StM.L(S:StM):List RecM:=S.recs.map RcT.r
def atM(l:List BfT)(x:Int):Option (Option Nat):=(l.find? fun t=>t.n==x).map fun t=>some t.blk
def da(l:List BfT)(n:Int)(f:BfT->BfT):List BfT:=l.map fun t=>if t.n=n then f t else t
def flN(L:List RecM)(fl:Nat):Nat:=(cM L L.length).countP (·<(fl:Int)+1)
abbrev StM.F(S:StM):Nat:=flN S.L S.D.fl
def wrD0(S:StM)(t:BfT):DkM×Int:=if (S.F:Int)<t.pg.p.2.1 then opD S.D 0 flD else (S.D,0)
def clB(t:BfT):BfT:={t with dirty:=false}
def bN(S:StM)(t:BfT):StM×Int:=
 if (wrD0 S t).2≠0 then ({S with D:=(wrD0 S t).1},(wrD0 S t).2) else
 let D1:=(wrD0 S t).1
 let R:=opD D1 (wrE D1 t.n (aH t.pg.p)) (wrD t.n (aH t.pg.p))
 ({S with D:=R.1,pool:=if R.2=0 then da S.pool t.n clB else S.pool},R.2)
def aL(S:StM)(t:BfT):StM×Int:=if t.dirty=true then bN S t else (S,0)
def lL(k:Int)(t:BfT):BfT:={t with used:=k}
def tick(S:StM):StM:={S with time:=S.time+1}
def rmB(l:List BfT)(n:Int):List BfT:=l.filter fun t=>t.n != n
def bv(S:StM)(t:BfT):StM×Int:=if S.bufs<=(S.pool.length:Int) then (if (aL S t).2≠0 then aL S t else ({(aL S t).1 with pool:=rmB (aL S t).1.pool t.n},0)) else (S,0)
noncomputable def jU(S:StM)(n:Int)(t:BfT)(blk:Nat)(A:Option Addr)(c:Nat):StM×Int:=
 if (bv S t).2≠0 then bv S t else
 let pg:PgR:=⟨rdP (rdS S.D n).1,A,c⟩
 ({(bv S t).1 with pool:=(bv S t).1.pool++[⟨n,blk,pg,false,S.time⟩],rows:=(bv S t).1.rows++[pg]},0)
inductive LdR (S:StM) (n:Int):StM->Int->Prop where
 |hit (t:BfT) (h:t∈S.pool) (hn:t.n=n):LdR S n {tick S with pool:=da S.pool n (lL (S.time+1))} 0
 |bad (h:∀t∈S.pool,t.n≠n) (he:(rdS S.D n).2≠0):LdR S n (tick S) (rdS S.D n).2
 |new (t:BfT) (blk:Nat) (A:Option Addr) (c:Nat) (h:∀t∈S.pool,t.n≠n) (he:(rdS S.D n).2=0) (ht:S.bufs<=(S.pool.length:Int)->t∈S.pool):LdR S n (jU (tick S) n t blk A c).1 (jU (tick S) n t blk A c).2
noncomputable def shP(D:DkM)(n:Int):PgS:=rdP (rdT (D.pgs.getD n.toNat gL)).1
noncomputable def aF(S:StM)(n:Int):PgS:=match S.pool.find? (fun t=>t.n==n) with
 |some t=>t.pg.p
 |none=>shP S.D n
structure SOk (S:StM) (c:Nat):Prop where
 bufs:1<=S.bufs/\S.bufs<=64
 pgs:S.D.pgs.length<=400
 ws:∀x∈S.D.pgs,x.ws.length<=c
 time:0<=S.time/\S.time<=(c:Int)
 ni:S.ni<=c
 nt:S.nt<=c
 right:∀t∈S.pool,bJ t.pg.p
 nodup:(S.pool.map BfT.n).Nodup
 len:(S.pool.length:Int)<=S.bufs
 keys:∀t∈S.pool,0<=t.n/\t.n<(S.D.pgs.length:Int)
 recs:∀r∈S.L,bC r=true
 log:S.D.log=ef S.L
 lsz:S.D.log.size<=1048576
 fl:S.D.fl<=S.D.log.size
 cl:∀t∈S.pool,t.dirty=false->t.pg.p=shP S.D t.n
def fv(t:BfT):Ent:=eB t.blk 120 #[.int .i64 t.pg.p.1,.int .i64 t.pg.p.2.1,.slice t.pg.A t.pg.p.2.2.length t.pg.c,.bool t.dirty,.int .i64 t.used]
def dK(r:PgR):Ent:=eO 9 1 (.slice r.A r.p.2.2.length r.c) r.p.2.2.length (r.p.2.2.map Value.string)
def stC(db:Nat)(S:StM)(mb:Nat)(RA:Option Addr)(rc:Nat)(EA:Option Addr)(ec ib tb:Nat):Array Value:=#[.pointer (some ⟨db,0,none⟩),.int .i64 S.bufs,.map (some mb),.int .i64 S.time,.slice RA S.recs.length rc,.slice EA S.recs.length ec,.map (some ib),.map (some tb),.int .i64 S.frm]
noncomputable def stL(sb db:Nat)(S:StM)(mb:Nat)(RA:Option Addr)(rc:Nat)(EA:Option Addr)(ec ib tb:Nat)(fpd:List Nat):List Ent:=
 [eB sb 109 (stC db S mb RA rc EA ec ib tb),eMx kcI ptX Tryz.prog 3 mb S.pool.length (atM S.pool),eA (S.pool.map fv),eM (S.rows.map dK),eO 27 8 (.slice RA S.recs.length rc) S.recs.length (S.recs.flatMap rcC),
  eO 3 1 (.slice EA S.recs.length ec) S.recs.length ((cM S.L S.recs.length).map (Value.int .i64)),eRc S.rr,eMx kcI ecB Tryz.prog 3 ib S.ni S.im,eMx kcI ecB Tryz.prog 3 tb S.nt S.told,eDk db S.D fpd]
def eSt(sb db:Nat)(S:StM)(fp:List Nat):Ent:=⟨fp,fun W=>((∀t∈S.pool,t.pg∈S.rows)/\∀t∈S.recs,t∈S.rr)/\∃mb RA rc EA ec ib tb fpd,fp=(stL sb db S mb RA rc EA ec ib tb fpd).flatMap (·.fp)/\(stL sb db S mb RA rc EA ec ib tb fpd).Pairwise Ent.apart/\∀e∈stL sb db S mb RA rc EA ec ib tb fpd,e.holds W/\e.loc⟩
theorem dv(sb db:Nat)(S:StM)(fp:List Nat):(eSt sb db S fp).loc:=fun W W' hk h=>by
 obtain⟨h0,mb,RA,rc,EA,ec,ib,tb,fpd,h1,h2,h3⟩:=h
 exact⟨h0,mb,RA,rc,EA,ec,ib,tb,fpd,h1,h2,fun e he=>⟨(h3 e he).2 W W' (fun k hk'=>hk k (by rw[eSt,h1];exact List.mem_flatMap.2 ⟨e,he,hk'⟩)) (h3 e he).1,(h3 e he).2⟩⟩
theorem gX{e:Ent}{S:StM}(h:e=eSt sb db S fp):e=eSt sb db S e.fp:=by subst h;rfl
theorem St.st{L:List Ent}{S:StM}{fpd:List Nat}(h:St w0 bor (L++stL sb db S mb RA rc EA ec ib tb fpd) W)(h1:∀t∈S.pool,t.pg∈S.rows)(h2:∀t∈S.recs,t∈S.rr):∃fp,St w0 bor (L++[eSt sb db S fp]) W:=by
 refine⟨_,St.pack (E:=eSt sb db S ((stL sb db S mb RA rc EA ec ib tb fpd).flatMap (·.fp))) h rfl ⟨⟨h1,h2⟩,mb,RA,rc,EA,ec,ib,tb,fpd,rfl,(List.pairwise_append.1 h.apart).2.1,fun e he=>?_⟩ (dv _ _ _ _)⟩
 have h3:=h.ok e (List.mem_append_right _ he)
 exact⟨h3.holds,h3.loc⟩
theorem St.unst{L:List Ent}{S:StM}(h:St w0 bor (L++[eSt sb db S fp]) W):((∀t∈S.pool,t.pg∈S.rows)/\∀t∈S.recs,t∈S.rr)/\∃mb RA rc EA ec ib tb fpd,St w0 bor (L++stL sb db S mb RA rc EA ec ib tb fpd) W:=by
 obtain⟨h0,mb,RA,rc,EA,ec,ib,tb,fpd,h1,h2,h3⟩:=(h.ok (eSt sb db S fp) (by simp)).holds
 exact⟨h0,mb,RA,rc,EA,ec,ib,tb,fpd,h.unpackL h1 h3 h2⟩
def eSx(sb db:Nat)(Φ:StM->Prop)(fp:List Nat):Ent:=⟨fp,fun W=>∃S,Φ S/\(eSt sb db S fp).holds W⟩
theorem vO(sb db:Nat)(Φ:StM->Prop)(fp:List Nat):(eSx sb db Φ fp).loc:=fun W W' hk h=>let ⟨S,h1,h2⟩:=h;⟨S,h1,dv sb db S fp W W' hk h2⟩
theorem fS{e:Ent}{Φ:StM->Prop}(h:e=eSx sb db Φ fp):e=eSx sb db Φ e.fp:=by subst h;rfl
theorem St.sx{L:List Ent}{Φ:StM->Prop}{S:StM}(h:St w0 bor (L++[eSt sb db S fp]) W)(hS:Φ S):St w0 bor (L++[eSx sb db Φ fp]) W:=St.repl (L2:=[]) h rfl (fun h1=>⟨S,hS,h1⟩) (vO _ _ _ _)
theorem St.unsx{L:List Ent}{Φ:StM->Prop}(h:St w0 bor (L++[eSx sb db Φ fp]) W):∃S,Φ S/\St w0 bor (L++[eSt sb db S fp]) W:=by
 obtain⟨S,h1,h2⟩:=(h.ok (eSx sb db Φ fp) (by simp)).holds
 exact⟨S,h1,St.repl (L2:=[]) h rfl (fun _=>h2) (dv _ _ _ _)⟩
theorem St.outB{L:List Ent}{A B:List BfT}{t:BfT}(h:St w0 bor (L++[eA ((A++t::B).map fv)]) W):St w0 bor (L++[eA ((A++B).map fv),fv t]) W:=by
 rw[List.map_append] at h |-
 exact St.outA h
theorem St.inB{L:List Ent}{A B:List BfT}{t:BfT}(h:St w0 bor (L++[eA ((A++B).map fv),fv t]) W):St w0 bor (L++[eA ((A++t::B).map fv)]) W:=by
 rw[List.map_append] at h |-
 exact St.inA h
theorem jd{rows:List PgR}(h:(eM (rows.map dK)).holds W){r:PgR}(hr:r∈rows):At W r.A (r.p.2.2.map Value.string):=At.of_own (h (dK r) (List.mem_map.2 ⟨_,hr,rfl⟩)).1
theorem St.absP{L:List Ent}{S:StM}{r:PgR}(h:St w0 bor (L++[dK r,eSt sb db S fp]) W):∃fp',St w0 bor (L++[eSt sb db {S with rows:=S.rows++[r]} fp']) W:=by
 have h0:St w0 bor ((L++[dK r])++[eSt sb db S fp]) W:=by rw[List.append_assoc];exact h
 obtain⟨⟨h1,h2⟩,mb,RA,rc,EA,ec,ib,tb,fpd,h3⟩:=h0.unst
 have h4:St w0 bor ((L++[eB sb 109 (stC db S mb RA rc EA ec ib tb),eMx kcI ptX Tryz.prog 3 mb S.pool.length (atM S.pool),eA (S.pool.map fv),eO 27 8 (.slice RA S.recs.length rc) S.recs.length (S.recs.flatMap rcC),eO 3 1 (.slice EA S.recs.length ec) S.recs.length ((cM S.L S.recs.length).map (Value.int .i64)),eRc S.rr,eMx kcI ecB Tryz.prog 3 ib S.ni S.im,eMx kcI ecB Tryz.prog 3 tb S.nt S.told,eDk db S.D fpd])++[eM (S.rows.map dK),dK r]) W:=h3.perm (by
  simp only[List.append_assoc]
  refine List.Perm.append_left L ?_
  show List.Perm [dK r,eB _ _ _,eMx _ _ _ _ _ _ _,eA _,eM _,eO _ _ _ _ _,eO _ _ _ _ _,eRc _,eMx _ _ _ _ _ _ _,eMx _ _ _ _ _ _ _,eDk _ _ _] [eB _ _ _,eMx _ _ _ _ _ _ _,eA _,eO _ _ _ _ _,eO _ _ _ _ _,eRc _,eMx _ _ _ _ _ _ _,eMx _ _ _ _ _ _ _,eDk _ _ _,eM _,dK r]
  refine(List.perm_append_comm (l₁:=[dK r]) (l₂:=[_,_,_,_,_,_,_,_,_,_])).trans ?_
  refine List.Perm.cons _ (List.Perm.cons _ (List.Perm.cons _ ?_))
  exact(List.perm_append_comm (l₁:=[_]) (l₂:=[_,_,_,_,_,_])).append_right [dK r])
 have h5:=h4.merge
 have h6:St w0 bor (L++stL sb db {S with rows:=S.rows++[r]} mb RA rc EA ec ib tb fpd) W:=h5.perm (by
  rw[List.append_assoc]
  refine List.Perm.append_left L ?_
  show List.Perm [eB _ _ _,eMx _ _ _ _ _ _ _,eA _,eO _ _ _ _ _,eO _ _ _ _ _,eRc _,eMx _ _ _ _ _ _ _,eMx _ _ _ _ _ _ _,eDk _ _ _,eM _] [eB _ _ _,eMx _ _ _ _ _ _ _,eA _,eM (List.map dK (S.rows++[r])),eO _ _ _ _ _,eO _ _ _ _ _,eRc _,eMx _ _ _ _ _ _ _,eMx _ _ _ _ _ _ _,eDk _ _ _]
  refine List.Perm.cons _ (List.Perm.cons _ (List.Perm.cons _ ?_))
  rw[List.map_append]
  exact List.perm_append_comm (l₁:=[_,_,_,_,_,_]) (l₂:=[_]))
 exact h6.st (S:={S with rows:=S.rows++[r]}) (fun t ht=>List.mem_append_left _ (h1 t ht)) h2
theorem St.absR{L:List Ent}{S:StM}{r:RcT}(h:St w0 bor (L++[fR r,eSt sb db S fp]) W):∃fp',St w0 bor (L++[eSt sb db {S with rr:=S.rr++[r]} fp']) W:=by
 have h0:St w0 bor ((L++[fR r])++[eSt sb db S fp]) W:=by rw[List.append_assoc];exact h
 obtain⟨⟨h1,h2⟩,mb,RA,rc,EA,ec,ib,tb,fpd,h3⟩:=h0.unst
 have h4:St w0 bor ((L++[eB sb 109 (stC db S mb RA rc EA ec ib tb),eMx kcI ptX Tryz.prog 3 mb S.pool.length (atM S.pool),eA (S.pool.map fv),eM (S.rows.map dK),eO 27 8 (.slice RA S.recs.length rc) S.recs.length (S.recs.flatMap rcC),eO 3 1 (.slice EA S.recs.length ec) S.recs.length ((cM S.L S.recs.length).map (Value.int .i64)),eMx kcI ecB Tryz.prog 3 ib S.ni S.im,eMx kcI ecB Tryz.prog 3 tb S.nt S.told,eDk db S.D fpd])++[eRc S.rr,fR r]) W:=h3.perm (by
  simp only[List.append_assoc]
  refine List.Perm.append_left L ?_
  show List.Perm [fR r,eB _ _ _,eMx _ _ _ _ _ _ _,eA _,eM _,eO _ _ _ _ _,eO _ _ _ _ _,eRc _,eMx _ _ _ _ _ _ _,eMx _ _ _ _ _ _ _,eDk _ _ _] [eB _ _ _,eMx _ _ _ _ _ _ _,eA _,eM _,eO _ _ _ _ _,eO _ _ _ _ _,eMx _ _ _ _ _ _ _,eMx _ _ _ _ _ _ _,eDk _ _ _,eRc _,fR r]
  refine(List.perm_append_comm (l₁:=[fR r]) (l₂:=[_,_,_,_,_,_,_,_,_,_])).trans ?_
  refine List.Perm.cons _ (List.Perm.cons _ (List.Perm.cons _ (List.Perm.cons _ (List.Perm.cons _ (List.Perm.cons _ ?_)))))
  exact(List.perm_append_comm (l₁:=[_]) (l₂:=[_,_,_])).append_right [fR r])
 have h5:=h4.mergeR
 have h6:St w0 bor (L++stL sb db {S with rr:=S.rr++[r]} mb RA rc EA ec ib tb fpd) W:=h5.perm (by
  rw[List.append_assoc]
  refine List.Perm.append_left L ?_
  show List.Perm [eB _ _ _,eMx _ _ _ _ _ _ _,eA _,eM _,eO _ _ _ _ _,eO _ _ _ _ _,eMx _ _ _ _ _ _ _,eMx _ _ _ _ _ _ _,eDk _ _ _,eRc (S.rr++[r])] [eB _ _ _,eMx _ _ _ _ _ _ _,eA _,eM _,eO _ _ _ _ _,eO _ _ _ _ _,eRc _,eMx _ _ _ _ _ _ _,eMx _ _ _ _ _ _ _,eDk _ _ _]
  refine List.Perm.cons _ (List.Perm.cons _ (List.Perm.cons _ (List.Perm.cons _ (List.Perm.cons _ (List.Perm.cons _ ?_)))))
  exact List.perm_append_comm (l₁:=[_,_,_]) (l₂:=[_]))
 exact h6.st (S:={S with rr:=S.rr++[r]}) h1 (fun t ht=>List.mem_append_left _ (h2 t ht))
theorem lk{A B:List BfT}{t:BfT}(h:((A++t::B).map BfT.n).Nodup):atM (A++t::B) t.n=some (some t.blk):=by
 rw[List.map_append,List.map_cons] at h
 have h1:A.find? (fun u=>u.n==t.n)=none:=by
  rw[List.find?_eq_none]
  intro u hu hc
  have h2:=(List.nodup_append.1 h).2.2 u.n (List.mem_map.2 ⟨u,hu,rfl⟩) t.n (by simp)
  exact h2 (by simpa using hc)
 rw[atM,List.find?_append,h1]
 simp
theorem ku{l:List BfT}{n:Int}(h:∀t∈l,t.n≠n):atM l n=none:=by
 rw[atM,List.find?_eq_none.2 (fun t ht=>by simpa using h t ht)];rfl
theorem GV{l:List BfT}{n:Int}{v:Option Nat}(h:atM l n=some v):∃t∈l,t.n=n/\v=some t.blk:=by
 rw[atM] at h
 obtain⟨t,h1,rfl⟩:=Option.map_eq_some_iff.1 h
 exact⟨t,List.mem_of_find?_eq_some h1,by simpa using List.find?_some h1,rfl⟩
theorem Bc(l:List BfT)(n:Int):(∀t∈l,t.n≠n)\/∃A t B,l=A++t::B/\t.n=n:=by
 by_cases h:∃t∈l,t.n=n
 obtain⟨t,ht,hn⟩:=h
 obtain⟨A,B,e⟩:=List.append_of_mem ht
 exact .inr ⟨A,t,B,e,hn⟩
 exact .inl fun t ht hn=>h ⟨t,ht,hn⟩
theorem ks{A B:List BfT}{t:BfT}(h:((A++t::B).map BfT.n).Nodup)(f:BfT->BfT):da (A++t::B) t.n f=A++f t::B:=by
 rw[List.map_append,List.map_cons] at h
 have h1:=List.nodup_append.1 h
 have h2:=List.nodup_cons.1 h1.2.1
 have hid:∀l:List BfT,(∀u∈l,u.n≠t.n)->l.map (fun u=>if u.n=t.n then f u else u)=l:=fun l hl=>by
  conv=>rhs;rw[<-List.map_id l]
  exact List.map_congr_left fun u hu=>by rw[if_neg (hl u hu)];rfl
 rw[da,List.map_append,List.map_cons,if_pos rfl,hid A (fun u hu e=>h1.2.2 u.n (List.mem_map.2 ⟨u,hu,rfl⟩) t.n (by simp) e),hid B (fun u hu e=>h2.1 (List.mem_map.2 ⟨u,hu,e⟩))]
theorem AP{A B:List BfT}{t:BfT}(h:((A++t::B).map BfT.n).Nodup):rmB (A++t::B) t.n=A++B:=by
 rw[List.map_append,List.map_cons] at h
 have h1:=List.nodup_append.1 h
 have h2:=List.nodup_cons.1 h1.2.1
 have hid:∀l:List BfT,(∀u∈l,u.n≠t.n)->l.filter (fun u=>u.n != t.n)=l:=fun l hl=>List.filter_eq_self.2 fun u hu=>by simpa using hl u hu
 rw[rmB,List.filter_append,List.filter_cons,if_neg (by simp),hid A (fun u hu e=>h1.2.2 u.n (List.mem_map.2 ⟨u,hu,rfl⟩) t.n (by simp) e),hid B (fun u hu e=>h2.1 (List.mem_map.2 ⟨u,hu,e⟩))]
theorem nZ{A B:List BfT}{t u:BfT}(hn:u.n=t.n)(hb:u.blk=t.blk):atM (A++u::B)=atM (A++t::B):=by
 funext x
 rw[atM,atM,List.find?_append,List.find?_append,List.find?_cons,List.find?_cons,hn]
 cases A.find? (fun t=>t.n==x) with
 |some v=>rfl
 |none=>
  cases hx:t.n==x with
  |true=>simp[hb]
  |false=>simp
end
section
open Go.RowKit Go.Maps Go.ChangeMaps
def ka(S:StM)(pg:PgR):StM:={S with rows:=S.rows++[pg]}
section
variable{w0 W:World}{bor:List Nat}{L:List Ent}{a0 a1 a2 a3 a4 a5 a6 a7 a8 a9 a10 a11 a12 a13 a14 a15 a16 a17 a18 a19 x:Ent}
theorem St.c0(h:St w0 bor (x::L) W):St w0 bor L W:=⟨h.upd,fun e he=>h.ok e (List.mem_cons_of_mem _ he),(List.pairwise_cons.1 h.apart).2⟩
theorem St.fr{E:Ent}{R:List Ent}(h:St w0 bor (R++L) W)(f:∀{L'},St w0 bor (L'++R) W->St w0 bor (L'++[E]) W):St w0 bor (E::L) W:=(f (h.perm List.perm_append_comm)).perm (List.perm_append_singleton _ _)
theorem St.u1(h:St w0 bor (a0::x::L) W):St w0 bor (x::a0::L) W:=h.perm (List.perm_middle (l₁:=[a0]))
theorem St.u2(h:St w0 bor (a0::a1::x::L) W):St w0 bor (x::a0::a1::L) W:=h.perm (List.perm_middle (l₁:=[a0,a1]))
theorem St.u3(h:St w0 bor (a0::a1::a2::x::L) W):St w0 bor (x::a0::a1::a2::L) W:=h.perm (List.perm_middle (l₁:=[a0,a1,a2]))
theorem St.u4(h:St w0 bor (a0::a1::a2::a3::x::L) W):St w0 bor (x::a0::a1::a2::a3::L) W:=h.perm (List.perm_middle (l₁:=[a0,a1,a2,a3]))
theorem St.u5(h:St w0 bor (a0::a1::a2::a3::a4::x::L) W):St w0 bor (x::a0::a1::a2::a3::a4::L) W:=h.perm (List.perm_middle (l₁:=[a0,a1,a2,a3,a4]))
theorem St.u6(h:St w0 bor (a0::a1::a2::a3::a4::a5::x::L) W):St w0 bor (x::a0::a1::a2::a3::a4::a5::L) W:=h.perm (List.perm_middle (l₁:=[a0,a1,a2,a3,a4,a5]))
theorem St.u7(h:St w0 bor (a0::a1::a2::a3::a4::a5::a6::x::L) W):St w0 bor (x::a0::a1::a2::a3::a4::a5::a6::L) W:=h.perm (List.perm_middle (l₁:=[a0,a1,a2,a3,a4,a5,a6]))
theorem St.u8(h:St w0 bor (a0::a1::a2::a3::a4::a5::a6::a7::x::L) W):St w0 bor (x::a0::a1::a2::a3::a4::a5::a6::a7::L) W:=h.perm (List.perm_middle (l₁:=[a0,a1,a2,a3,a4,a5,a6,a7]))
theorem St.u9(h:St w0 bor (a0::a1::a2::a3::a4::a5::a6::a7::a8::x::L) W):St w0 bor (x::a0::a1::a2::a3::a4::a5::a6::a7::a8::L) W:=h.perm (List.perm_middle (l₁:=[a0,a1,a2,a3,a4,a5,a6,a7,a8]))
theorem St.u10(h:St w0 bor (a0::a1::a2::a3::a4::a5::a6::a7::a8::a9::x::L) W):St w0 bor (x::a0::a1::a2::a3::a4::a5::a6::a7::a8::a9::L) W:=h.perm (List.perm_middle (l₁:=[a0,a1,a2,a3,a4,a5,a6,a7,a8,a9]))
theorem St.u11(h:St w0 bor (a0::a1::a2::a3::a4::a5::a6::a7::a8::a9::a10::x::L) W):St w0 bor (x::a0::a1::a2::a3::a4::a5::a6::a7::a8::a9::a10::L) W:=h.perm (List.perm_middle (l₁:=[a0,a1,a2,a3,a4,a5,a6,a7,a8,a9,a10]))
theorem St.u12(h:St w0 bor (a0::a1::a2::a3::a4::a5::a6::a7::a8::a9::a10::a11::x::L) W):St w0 bor (x::a0::a1::a2::a3::a4::a5::a6::a7::a8::a9::a10::a11::L) W:=h.perm (List.perm_middle (l₁:=[a0,a1,a2,a3,a4,a5,a6,a7,a8,a9,a10,a11]))
theorem St.u13(h:St w0 bor (a0::a1::a2::a3::a4::a5::a6::a7::a8::a9::a10::a11::a12::x::L) W):St w0 bor (x::a0::a1::a2::a3::a4::a5::a6::a7::a8::a9::a10::a11::a12::L) W:=h.perm (List.perm_middle (l₁:=[a0,a1,a2,a3,a4,a5,a6,a7,a8,a9,a10,a11,a12]))
theorem St.u14(h:St w0 bor (a0::a1::a2::a3::a4::a5::a6::a7::a8::a9::a10::a11::a12::a13::x::L) W):St w0 bor (x::a0::a1::a2::a3::a4::a5::a6::a7::a8::a9::a10::a11::a12::a13::L) W:=h.perm (List.perm_middle (l₁:=[a0,a1,a2,a3,a4,a5,a6,a7,a8,a9,a10,a11,a12,a13]))
theorem St.u16(h:St w0 bor (a0::a1::a2::a3::a4::a5::a6::a7::a8::a9::a10::a11::a12::a13::a14::a15::x::L) W):St w0 bor (x::a0::a1::a2::a3::a4::a5::a6::a7::a8::a9::a10::a11::a12::a13::a14::a15::L) W:=h.perm (List.perm_middle (l₁:=[a0,a1,a2,a3,a4,a5,a6,a7,a8,a9,a10,a11,a12,a13,a14,a15]))
variable{sb db:Nat}{S:StM}{fp:List Nat}
theorem St.unf(h:St w0 bor (eSt sb db S fp::L) W):((∀t∈S.pool,t.pg∈S.rows)/\∀t∈S.recs,t∈S.rr)/\∃mb RA rc EA ec ib tb fpd,St w0 bor (eB sb 109 #[vp db,vi S.bufs,.map (some mb),vi S.time,.slice RA S.recs.length rc,.slice EA S.recs.length ec,.map (some ib),.map (some tb),vi S.frm]::eMx kcI ptX Tryz.prog 3 mb S.pool.length (atM S.pool)::eA (List.map fv S.pool)::eM (List.map dK S.rows)::eO 27 8 (.slice RA S.recs.length rc) S.recs.length (S.recs.flatMap rcC)::eO 3 1 (.slice EA S.recs.length ec) S.recs.length ((cM S.L S.recs.length).map (Value.int .i64))::eRc S.rr::eMx kcI ecB Tryz.prog 3 ib S.ni S.im::eMx kcI ecB Tryz.prog 3 tb S.nt S.told::eDk db S.D fpd::L) W:=by
 obtain⟨h0,mb,RA,rc,EA,ec,ib,tb,fpd,h1⟩:=St.unst (h.perm (List.perm_append_singleton _ L).symm)
 exact⟨h0,mb,RA,rc,EA,ec,ib,tb,fpd,h1.perm List.perm_append_comm⟩
theorem St.stf{fpd:List Nat}(h:St w0 bor (stL sb db S mb RA rc EA ec ib tb fpd++L) W)(h1:∀t∈S.pool,t.pg∈S.rows)(h2:∀t∈S.recs,t∈S.rr):∃fp,St w0 bor (eSt sb db S fp::L) W:=by
 obtain⟨fp,h3⟩:=St.st (h.perm List.perm_append_comm) h1 h2
 exact⟨fp,h3.perm (List.perm_append_singleton _ _)⟩
theorem St.unx{Φ:StM->Prop}(h:St w0 bor (eSx sb db Φ fp::L) W):∃S,Φ S/\St w0 bor (eSt sb db S fp::L) W:=by
 obtain⟨S,h1,h2⟩:=St.unsx (h.perm (List.perm_append_singleton _ L).symm)
 exact⟨S,h1,h2.perm (List.perm_append_singleton _ _)⟩
theorem St.obf{A B:List BfT}{t:BfT}(h:St w0 bor (eA (List.map fv (A++t::B))::L) W):St w0 bor (eA (List.map fv (A++B))::eB t.blk 120 #[vi t.pg.p.1,vi t.pg.p.2.1,.slice t.pg.A t.pg.p.2.2.length t.pg.c,.bool t.dirty,vi t.used]::L) W:=
 (St.outB (h.perm (List.perm_append_singleton _ L).symm)).perm List.perm_append_comm
theorem St.ibf{A B:List BfT}{t:BfT}(h:St w0 bor (eA (List.map fv (A++B))::fv t::L) W):St w0 bor (eA (List.map fv (A++t::B))::L) W:=St.fr (R:=[_,_]) h St.inB
theorem St.apf{l:List PgR}{r:PgR}(h:St w0 bor (eM (List.map dK l)::dK r::L) W):St w0 bor (eM (List.map dK (l++[r]))::L) W:=St.fr (R:=[_,_]) h (fun h=>by rw[List.map_append];exact St.merge h)
theorem St.abf{l:List BfT}{t:BfT}(h:St w0 bor (eA (List.map fv l)::fv t::L) W):St w0 bor (eA (List.map fv (l++[t]))::L) W:=St.ibf (A:=l) (B:=[]) (by rw[List.append_nil];exact h)
theorem St.erf{n:Nat}(h:St w0 bor (eRx P k b r n m left cnt cur::L) W):St w0 bor (eMx kcI ptX P k b n m::L) W:=(St.endRx (h.perm (List.perm_append_singleton _ L).symm)).perm (List.perm_append_singleton _ _)
theorem St.nA{α:Type}(f:α->Ent)(h:St w0 bor L W):St w0 bor (eA (List.map f [])::L) W:=(St.packA (R:=[]) (by rw[List.append_nil];exact h)).perm (List.perm_append_singleton _ _)
theorem St.nM{α:Type}(f:α->Ent)(h:St w0 bor L W):St w0 bor (eM (List.map f [])::L) W:=h.emNil.perm (List.perm_append_singleton _ _)
theorem St.rPf{r:PgR}(h:St w0 bor (dK r::eSt sb db S fp::L) W):∃fp',St w0 bor (eSt sb db (ka S r) fp'::L) W:=by
 obtain⟨f,h1⟩:=St.absP (L:=L) (h.perm (List.perm_append_comm (l₁:=[_,_])))
 exact⟨f,h1.perm (List.perm_append_singleton _ _)⟩
theorem St.rRn{r:RcT}(h:St w0 bor (fR r::eSt sb db S fp::L) W):∃S2 fp',{S with rr:=S.rr++[r]}=S2/\St w0 bor (eSt sb db S2 fp'::L) W:=by
 obtain⟨f,h1⟩:=St.absR (L:=L) (h.perm (List.perm_append_comm (l₁:=[_,_])))
 exact⟨_,f,rfl,h1.perm (List.perm_append_singleton _ _)⟩
end
end
section
open Go.RowKit
def jQ(W:World)(A:Option Addr)(xs:List Value):Prop:=(A=none/\xs=[])\/∃g,A=some ⟨g,0,none⟩/\At W A xs
theorem jQ.ext{A:Option Addr}(h:jQ W A xs)(hx:Ext W W'):jQ W' A xs:=h.imp id fun⟨g,h1,h3⟩=>⟨g,h1,h3.ext hx⟩
theorem jQ.own{A:Option Addr}{n c:Nat}{e:TypeId}(h:W.ownsRow base e 1 (.slice A n c) n xs):jQ W A xs:=by
 have hA:=At.of_own h
 have hl:=h.1
 rcases h.2 with ⟨hv,h0⟩|⟨g,cap,cur,hv,_⟩
 injection hv with h1 h2 h3
 exact .inl ⟨h1,List.eq_nil_of_length_eq_zero (by omega)⟩
 injection hv with h1 h2 h3
 exact .inr ⟨g,h1,hA⟩
structure StO (W:World) (sb db:Nat) (S:StM) (mb:Nat) (RA:Option Addr) (rc:Nat) (EA:Option Addr) (ec ib tb:Nat):Prop where
 blk:Blk W sb 109 (stC db S mb RA rc EA ec ib tb)
 dk:jD W db S.D
 recs:At W RA (S.recs.flatMap rcC)
 ends:jQ W EA ((cM S.L S.recs.length).map (Value.int .i64))
 own:∀t∈S.rr,At W t.A (t.r.eds.flatMap edC)
def lz(W:World)(sb db:Nat)(S:StM):Prop:=∃mb RA rc EA ec ib tb,StO W sb db S mb RA rc EA ec ib tb
theorem StO.blkL{S:StM}(h:StO W sb db S mb RA rc EA ec ib tb):Blk W sb 109 #[po db 0,.int .i64 S.bufs,.map (some mb),.int .i64 S.time,.slice RA S.recs.length rc,.slice EA S.recs.length ec,.map (some ib),.map (some tb),.int .i64 S.frm]:=h.blk
theorem StO.ext{S:StM}(h:StO W sb db S mb RA rc EA ec ib tb)(hx:Ext W W'):StO W' sb db S mb RA rc EA ec ib tb:=⟨h.blk.ext hx,h.dk.ext hx,h.recs.ext hx,h.ends.ext hx,fun t ht=>(h.own t ht).ext hx⟩
theorem lz.ext{S:StM}(h:lz W sb db S)(hx:Ext W W'):lz W' sb db S:=let ⟨mb,RA,rc,EA,ec,ib,tb,h1⟩:=h;⟨mb,RA,rc,EA,ec,ib,tb,h1.ext hx⟩
theorem DK{sb db:Nat}{S:StM}{mb:Nat}{RA:Option Addr}{rc:Nat}{EA:Option Addr}{ec ib tb:Nat}{fpd:List Nat}(h:∀e∈stL sb db S mb RA rc EA ec ib tb fpd,e.holds W):StO W sb db S mb RA rc EA ec ib tb:=
 ⟨h (eB sb 109 (stC db S mb RA rc EA ec ib tb)) (by simp[stL]),fc (h (eDk db S.D fpd) (by simp[stL])),At.of_ownN (h (eO 27 8 (.slice RA S.recs.length rc) S.recs.length (S.recs.flatMap rcC)) (by simp[stL])),
  jQ.own (h (eO 3 1 (.slice EA S.recs.length ec) S.recs.length ((cM S.L S.recs.length).map (Value.int .i64))) (by simp[stL])),fun t ht=>dI (h (eRc S.rr) (by simp[stL])) ht⟩
theorem pR{S:StM}(h:(eSt sb db S fp).holds W):lz W sb db S:=by
 obtain⟨_,mb,RA,rc,EA,ec,ib,tb,fpd,_,_,h3⟩:=h
 exact⟨mb,RA,rc,EA,ec,ib,tb,DK fun e he=>(h3 e he).1⟩
theorem G4(L:List RecM){j:Nat}(h:i<=j):szF (L.take i)<=szF (L.take j):=by
 have e:L.take j=L.take i++(L.take j).drop i:=by
  have h1:=List.take_append_drop i (L.take j)
  rw[List.take_take,Nat.min_eq_left h] at h1
  exact h1.symm
 rw[e,szF,szF,List.map_append,List.sum_append]
 omega
theorem Ay(L:List RecM)(j:Nat):(cM L j).Pairwise (·<=·):=by
 rw[cM,List.pairwise_map]
 refine List.Pairwise.imp ?_ (List.pairwise_lt_range (n:=j))
 intro a b h
 have h1:=G4 L (i:=a+1) (j:=b+1) (by omega)
 omega
theorem yq(EA:Option Addr)(ec:Nat)(L:List RecM)(x:Int)(w:World)(hA:jQ w EA ((cM L L.length).map (Value.int .i64)))(hL:L.length<4611686018427387904):
  Calls Tryz.prog 67 #[.slice EA L.length ec,.int .i64 x] w (fun e w'=>∃b,Ret (.tuple #[.int .i64 (((cM L L.length).countP (·<x):Nat):Int),.bool b]) w e w'):=by
 rcases Nat.eq_zero_or_pos L.length with h0|h0
 obtain rfl:L=[]:=List.eq_nil_of_length_eq_zero h0
 refine(Tryz.slices_BinarySearch_int_empty EA ec x w).mono ?_
 rintro e w' ⟨rfl,rfl⟩
 exact⟨false,Ret.of rfl (Ext.refl _)⟩
 rcases hA with ⟨_,h1⟩|⟨g,rfl,hA⟩
 have:=congrArg List.length h1
 rw[List.length_map,mF] at this
 have h2:L.length=0:=this
 omega
 refine(Tryz.slices_BinarySearch_int g 0 L.length ec (cM L L.length) x w (by rw[mF];exact Nat.le_refl _) hL (fun j hj=>?_) ?_).mono ?_
 obtain⟨ad,e1,_,e3⟩:=hA j (.int .i64 ((cM L L.length).getD j 0)) (by rw[List.getElem?_map,List.getD_eq_getElem?_getD,List.getElem?_eq_getElem hj];rfl)
 cases e1
 rw[Addr.add_lit] at e3
 exact e3
 rw[List.take_of_length_le (by rw[mF];exact Nat.le_refl _)];exact Ay _ _
 rintro e w' ⟨rfl,q,rfl⟩
 rw[List.take_of_length_le (by rw[mF];exact Nat.le_refl _)]
 exact⟨_,Ret.of rfl ((Ext.refl w).drewN _)⟩
def tB1:Value->Bool
 | .tuple a=>(match (a.getD 1 undef) with| .bool b=>b|_=>false)
 |_=>false
theorem FZ{S:StM}(h:jQ W EA ((cM S.L S.recs.length).map (Value.int .i64))):jQ W EA ((cM S.L S.L.length).map (Value.int .i64)):=by
 rw[StM.L,List.length_map];exact h
theorem Lo{S:StM}{x:Int}{Q:Ending->World->Prop}(h:Calls Tryz.prog 67 #[.slice EA S.L.length ec,.int .i64 x] w Q):Calls Tryz.prog 67 #[.slice EA S.recs.length ec,.int .i64 x] w Q:=by
 rw[StM.L,List.length_map] at h;exact h
theorem Jx(sb db:Nat)(S:StM)(mb:Nat)(RA:Option Addr)(rc:Nat)(EA:Option Addr)(ec ib tb:Nat)(w:World)(hB:StO w sb db S mb RA rc EA ec ib tb):
  Calls Tryz.prog 23 #[po sb 0] w (Ret (.int .i64 (S.recs.length:Int)) w):=by
 go_enter Tryz.func23,Tryz.ntmps23
 have aj:=St.start w
 refine wq (sqr (sqp [.k 2 (vi 0)] ?_))
 refine aa (wq (wq (sqr (sqp [.m 3 0] ?_))))
 refine sqv (.bool false) aj (by
   exact sv0 rfl rfl rfl rfl rfl (fun _ _ _ h=>h) fun c g W X cx=>by
    have fy:c (.tmp 3)=vp sb:=(cx.ou 3)
    simp[go_sem,cx.sees.const,fy]) fun W3 aW=>?_
 refine aa (wcf rfl (wp_skip (aa (wq (sqr (sqp [.m 5 0,.k 6 (vp sb),.k 7 (po sb 4)] ?_))))))
 refine sql (.slice RA S.recs.length rc) aW (fun cx=>ae rfl (by kernel_rfl) (cx.ou 7) ((Blk.ext hB.blkL cx.upd.to_ext).cell 4)) ?_
 refine sqp [.k 9 (vi ((S.recs.length:Int))),.m 2 9] ?_
 refine aa (wp_ret ?_)
 refine bpr (vi ((S.recs.length:Int))) (ag Tryz.results23 rpt) ?_
 exact Ret.of rfl aW.ext
theorem Jq(sb db:Nat)(S:StM)(mb:Nat)(RA:Option Addr)(rc:Nat)(EA:Option Addr)(ec ib tb:Nat)(w:World)(hB:StO w sb db S mb RA rc EA ec ib tb):
  Calls Tryz.prog 45 #[po sb 0] w (Ret (.int .i64 S.frm) w):=by
 go_enter Tryz.func45,Tryz.ntmps45
 have aj:=St.start w
 refine wq (sqr (sqp [.k 2 (vi 0)] ?_))
 refine aa (wq (wq (sqr (sqp [.m 3 0] ?_))))
 refine sqv (.bool false) aj (by
   exact sv0 rfl rfl rfl rfl rfl (fun _ _ _ h=>h) fun c g W X cx=>by
    have fy:c (.tmp 3)=vp sb:=(cx.ou 3)
    simp[go_sem,cx.sees.const,fy]) fun W3 aW=>?_
 refine aa (wcf rfl (wp_skip (aa (wq (sqr (sqp [.m 5 0,.k 6 (vp sb),.k 7 (po sb 8)] ?_))))))
 refine sql (vi S.frm) aW (fun cx=>ae rfl (by kernel_rfl) (cx.ou 7) ((Blk.ext hB.blkL cx.upd.to_ext).cell 8)) ?_
 refine sqp [.m 2 8] ?_
 refine aa (wp_ret ?_)
 refine bpr (vi S.frm) (ag Tryz.results45 rpt) ?_
 exact Ret.of rfl aW.ext
theorem FY(sb db:Nat)(S:StM)(mb:Nat)(RA:Option Addr)(rc:Nat)(EA:Option Addr)(ec ib tb:Nat)(w:World)(hB:StO w sb db S mb RA rc EA ec ib tb):
  Calls Tryz.prog 24 #[po sb 0] w (Ret (.int .i64 (S.D.pgs.length:Int)) w):=by
 go_enter Tryz.func24,Tryz.ntmps24
 have aj:=St.start w
 refine wq (sqr (sqp [.k 2 (vi 0)] ?_))
 refine aa (wq (wq (sqr (sqp [.m 3 0] ?_))))
 refine sqv (.bool false) aj (by
   exact sv0 rfl rfl rfl rfl rfl (fun _ _ _ h=>h) fun c g W X cx=>by
    have fy:c (.tmp 3)=vp sb:=(cx.ou 3)
    simp[go_sem,cx.sees.const,fy]) fun W3 aW=>?_
 refine aa (wcf rfl (wp_skip (aa (wq (sqr (sqp [.m 5 0,.k 6 (vp sb),.k 7 (vp sb)] ?_))))))
 refine sql (vp db) aW (fun cx=>ae rfl (by kernel_rfl) (cx.ou 7) ((Blk.ext hB.blkL cx.upd.to_ext).cell 0)) ?_
 refine sqk (vi ((S.D.pgs.length:Int))) aW (fun cx=>⟨_,Cr db S.D _ (hB.dk.ext cx.upd.to_ext),(ax (cx.ou 8))⟩) fun W8 dB=>?_
 refine sqp [.m 2 9] ?_
 refine aa (wp_ret ?_)
 refine bpr (vi ((S.D.pgs.length:Int))) (ag Tryz.results24 rpt) ?_
 exact Ret.of rfl dB.ext
theorem BW(sb db:Nat)(S:StM)(mb:Nat)(RA:Option Addr)(rc:Nat)(EA:Option Addr)(ec ib tb:Nat)(w:World)(hB:StO w sb db S mb RA rc EA ec ib tb)(hL0:S.L.length<4611686018427387904)(hfl:S.D.fl<=10000000):
  Calls Tryz.prog 26 #[po sb 0] w (Ret (.int .i64 (S.F:Int)) w):=by
 go_enter Tryz.func26,Tryz.ntmps26
 have aj:=St.start w
 refine wq (sqr (sqp [.k 2 (vi 0)] ?_))
 refine aa (wq (wq (sqr (sqp [.m 5 0] ?_))))
 refine sqv (.bool false) aj (by
   exact sv0 rfl rfl rfl rfl rfl (fun _ _ _ h=>h) fun n g W X cx=>by
    have qK:n (.tmp 5)=vp sb:=(cx.ou 5)
    simp[go_sem,cx.sees.const,qK]) fun W3 aW=>?_
 refine aa (wcf rfl (wp_skip (aa (wq (aG [0,1,3,7,0,16,48,112,240,496,1023,2047,4095,4095,8191,32767] [] [] [] [.k 8 (vp sb),.k 9 (vp sb),.k 10 (po sb 5),.c 11 (.slice EA S.recs.length ec),.k 12 (vp sb),.k 13 (vp sb),.k 14 (vp sb),.c 15 (vp db),.c 16 (vi ((S.D.fl:Int))),tI 17 ((S.D.fl:Int)+1) (by omega),.a 18,.a 7,.c 19 (vi ((S.F:Int))),.a 20,.k 3 (vi ((S.F:Int))),.a 4] (fun ix j g X=>match ix with|0|1|2|3|4|5|6|7|8|9=>True|10=>j 18= .tuple #[vi ((S.F:Int)),.bool (tB1 (g 18))]|11=>j 7= .tuple #[vi ((S.F:Int)),.bool (tB1 (g 18))]|12=>True|13=>j 20= .bool (tB1 (g 18))|14=>True|15=>j 4= .bool (tB1 (g 18))|_=>True) [] [3,7,8,10,11,12,13,15] [(3,14,2,5),(2,11,1,3),(0,0,11,11),(0,12,2,2)] aW ?_ ?_ ?_)))))
 exact fun ix _ _ _ _ _ _ hs hb hx h=>match ix,h with
 |10,h=>by dsimp only;rw[<-hs 18 rfl,<-hb 18 rfl];exact h
 |11,h=>by dsimp only;rw[<-hs 7 rfl,<-hb 18 rfl];exact h
 |13,h=>by dsimp only;rw[<-hs 20 rfl,<-hb 18 rfl];exact h
 |15,h=>by dsimp only;rw[<-hs 4 rfl,<-hb 18 rfl];exact h
 |0,_|1,_|2,_|3,_|4,_|5,_|6,_|7,_|8,_|9,_|12,_|14,_|_+16,_=>trivial
 refine⟨?_,?_,?_,?_,?_,?_,?_,?_,trivial⟩
 exact xs4 rfl id fun cx=>ae rfl (by kernel_rfl) (cx.an 2) ((Blk.ext hB.blkL cx.upd.to_ext).cell 5)
 exact xs4 rfl id fun cx=>ae rfl (by kernel_rfl) (cx.an 6) ((Blk.ext hB.blkL cx.upd.to_ext).cell 0)
 exact xsc rfl id rfl rfl fun cx=>⟨_,xL db S.D _ (hB.dk.ext cx.upd.to_ext),(ax (cx.an 7))⟩
 refine svA fun n g W X cx=>?_
 refine am.call (au (args:=#[.slice EA S.recs.length ec,vi ((S.D.fl:Int)+1)]) rfl cx.sees rfl (by kernel_rfl) (aM (cx.an 3) (cx.an 9))) ?_
 refine(Lo (yq EA ec S.L ((S.D.fl:Int)+1) _ (FZ (hB.ends.ext cx.upd.to_ext)) hL0)).mono ?_
 rintro e W1 ⟨b4,rfl,hx⟩
 refine⟨_,rfl,bR [] rfl rfl hx (by simp) List.Pairwise.nil (fun j p X' hs hb hv hN=>?_)⟩
 have aJ:=(hv 18 rfl).1;have aV:=(hv 18 rfl).2
 exact aJ.trans (by rw[aV];exact rfl)
 exact sv rfl rfl rfl rfl rfl _ (fun _ _ _ h=>h) (fun g p h=>by rw[h 18 (by decide)]) fun n g W X cx=>dj rfl (dTn (cx.an 10))
 exact xs4 rfl id fun cx=>cd rfl (dTn (cx.an 11)) rfl
 exact sv rfl rfl rfl rfl rfl _ (fun _ _ _ h=>h) (fun g p h=>by rw[h 18 (by decide)]) fun n g W X cx=>cd rfl (dTn (cx.an 11)) rfl
 exact sv rfl rfl rfl rfl rfl _ (fun _ _ _ h=>h) (fun g p h=>by rw[h 18 (by decide)]) fun n g W X cx=>di rfl (dTn (cx.an 13))
 intro j g X W4 hD bc fr aD
 simp only[ed 18 ((dTn (hD 10 lq))),ed 7 ((dTn (hD 11 lq))),ed 20 ((dTn (hD 13 lq))),ed 4 ((dTn (hD 15 lq)))] at aD
 generalize tB1 (g 18)=RM at aD
 clear hD;subst aD;clear j g X
 refine aa (wq (sqr (sqp [.m 21 3,.m 2 21] ?_)))
 refine aa (wp_ret ?_)
 refine bpr (vi ((S.F:Int))) (ag Tryz.results26 rpt) ?_
 exact Ret.of rfl bc.ext
theorem Eb(sb db:Nat)(S:StM)(w:World)(h:lz w sb db S):Calls Tryz.prog 45 #[po sb 0] w (Ret (.int .i64 S.frm) w):=by
 obtain⟨mb,RA,rc,EA,ec,ib,tb,h1⟩:=h
 exact Jq sb db S mb RA rc EA ec ib tb w h1
theorem pi(sb db:Nat)(S:StM)(w:World)(h:lz w sb db S):Calls Tryz.prog 24 #[po sb 0] w (Ret (.int .i64 (S.D.pgs.length:Int)) w):=by
 obtain⟨mb,RA,rc,EA,ec,ib,tb,h1⟩:=h
 exact FY sb db S mb RA rc EA ec ib tb w h1
theorem xX(sb db:Nat)(S:StM)(w:World)(h:lz w sb db S)(hL0:S.L.length<4611686018427387904)(hfl:S.D.fl<=10000000):Calls Tryz.prog 26 #[po sb 0] w (Ret (.int .i64 (S.F:Int)) w):=by
 obtain⟨mb,RA,rc,EA,ec,ib,tb,h1⟩:=h
 exact BW sb db S mb RA rc EA ec ib tb w h1 hL0 hfl
theorem JG(sb db:Nat)(S:StM)(mb:Nat)(RA:Option Addr)(rc:Nat)(EA:Option Addr)(ec ib tb:Nat)(k:Nat)(rt:RcT)(w:World)(hB:StO w sb db S mb RA rc EA ec ib tb)(hk:S.frm=(k:Int)+1)(hrt:S.recs[k]? =some rt)(hL0:S.recs.length<4611686018427387904):
  Calls Tryz.prog 25 #[po sb 0] w (Ret (.string rt.r.note) w):=by
 have hbk:Blk w sb 109 #[po db 0,.int .i64 S.bufs,.map (some mb),.int .i64 S.time,.slice RA S.recs.length rc,.slice EA S.recs.length ec,.map (some ib),.map (some tb),.int .i64 ((k:Int)+1)]:=by rw[<-hk];exact hB.blkL
 have hkl:=(List.getElem?_eq_some_iff.1 hrt).1
 go_enter Tryz.func25,Tryz.ntmps25
 have aj:=St.start w
 refine wq (sqr (sqp [.k 2 (.string ⟨#[]⟩)] ?_))
 refine aa (wq (wq (sqr (sqp [.m 3 0] ?_))))
 refine sqv (.bool false) aj (by
   exact sv0 rfl rfl rfl rfl rfl (fun _ _ _ h=>h) fun g j W X cx=>by
    have fy:g (.tmp 3)=vp sb:=(cx.ou 3)
    simp[go_sem,cx.sees.const,fy]) fun W3 aW=>?_
 refine aa (wcf rfl (wp_skip (aa (wq (bP [0,1,3,7,0,16,48,112,240,511,1023,2047,4095] [] [.k 5 (vp sb),.k 6 (vp sb),.k 7 (po sb 4),.c 8 (.slice RA S.recs.length rc),.k 9 (vp sb),.k 10 (vp sb),.k 11 (po sb 8),.c 12 (vi ((k:Int)+1)),tJ 13 (((k:Int)+1)-1) (k:Int) (by omega) (by omega),.c 14 (.pointer (some ((ad RA).add (k*8)))),.c 15 (.pointer (some ((ad RA).add (k*8+7)))),.c 16 (.string rt.r.note),.k 2 (.string rt.r.note)] [] [3,7,9,10,11] [(2,12,1,3),(2,0,12,14)] aW ?_ fun W4 bc=>?_)))))
 refine⟨?_,?_,?_,?_,?_,trivial⟩
 exact xs4 rfl id fun cx=>ae rfl (by kernel_rfl) (cx.an 2) ((Blk.ext hbk cx.upd.to_ext).cell 4)
 exact xs4 rfl id fun cx=>ae rfl (by kernel_rfl) (cx.an 6) ((Blk.ext hbk cx.upd.to_ext).cell 8)
 exact xs4 rfl id fun cx=>aB (e:=27) (m:=k) (sz:=8) rfl (by kernel_rfl) (by kernel_rfl) (cx.an 3) (cx.an 8) (by omega) (by omega) (hB.recs.ext cx.upd.to_ext) (bj (sz:=8) cm (by decide) (by omega))
 exact xs4 rfl id fun cx=>bt rfl (by kernel_rfl) (cx.an 9)
 exact xs4 rfl id fun cx=>ae rfl (by kernel_rfl) (cx.an 10) (At.eltc (f:=rcC) (k:=7) cm (hB.recs.ext cx.upd.to_ext) hrt rfl)
 refine aa (wp_ret ?_)
 refine bpr (.string rt.r.note) (ag Tryz.results25 rpt) ?_
 exact Ret.of rfl bc.ext
theorem Ei(sb db:Nat)(S:StM)(k:Nat)(rt:RcT)(w:World)(h:lz w sb db S)(hk:S.frm=(k:Int)+1)(hrt:S.recs[k]? =some rt)(hL0:S.recs.length<4611686018427387904):Calls Tryz.prog 25 #[po sb 0] w (Ret (.string rt.r.note) w):=by
 obtain⟨mb,RA,rc,EA,ec,ib,tb,h1⟩:=h
 exact JG sb db S mb RA rc EA ec ib tb k rt w h1 hk hrt hL0
end
end Go.Proofs.YtcdjaepgahbhfaaGreat
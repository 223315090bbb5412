import Derived.Test.YtcdjaepgahbhfaaGreatZ3
import Derived.RangeFuncBox
import Derived.RangeFuncBound
import Derived.RangeFuncCalls
import Derived.RangeFuncLeaves
import Derived.TacticsIn
import Derived.OrdersIn
import Derived.LoopNIn
set_option linter.unusedVariables false
set_option linter.unusedSimpArgs false
set_option maxRecDepth 100000
set_option maxHeartbeats 16000000
namespace Go.Proofs.YtcdjaepgahbhfaaGreat
section
open Go.RowKit
theorem St.with1{w:World}{bor:List Nat}{L:List Ent}{b2 t2:Nat}{c2:Array Value}(h:St w bor L w)(h2:Blk w b2 t2 c2)(n2:b2∉bor)(hL:∀e∈L,∀k∈e.fp,k∈bor):St w (b2::bor) (L++[eB b2 t2 c2]) w:=by
 refine⟨Upd.refl _ _,fun x hx=>?_,?_⟩
 rcases List.mem_append.1 hx with hx|hx
 have h4:=h.ok x hx
 exact⟨h4.holds,h4.loc,fun k hk=>⟨(h4.own k hk).1.imp (fun z=>by simp[z]) id,(h4.own k hk).2⟩⟩
 rw[List.mem_singleton] at hx
 subst hx
 exact⟨h2,d5 _ _ _,fun k hk=>⟨.inl (by simp[eB] at hk;simp[hk]),by simp[eB] at hk;subst hk;exact h2.lt⟩⟩
 refine List.pairwise_append.2 ⟨h.apart,List.pairwise_singleton _ _,fun x hx y hy k hk hk2=>?_⟩
 have h5:=hL x hx k hk
 rw[List.mem_singleton] at hy
 subst hy
 simp[eB] at hk2
 subst hk2
 exact n2 h5
theorem St.less1{w W:World}{bor:List Nat}{L:List Ent}{b2 t2:Nat}{c2:Array Value}(h:St w (b2::bor) (L++[eB b2 t2 c2]) W)(h2:Blk w b2 t2 c2):St w bor L W:=by
 have k2:Blk W b2 t2 c2:=(h.ok (eB b2 t2 c2) (by simp)).holds
 have ha:=List.pairwise_append.1 h.apart
 refine⟨⟨h.upd.os,h.upd.tape,h.upd.output,h.upd.size,fun k hk hn=>?_⟩,fun x hx=>?_,ha.1⟩
 by_cases e2:k=b2
 subst e2;exact k2.trans h2.symm
 exact h.upd.block k hk (by simp;exact⟨e2,hn⟩)
 have h4:=h.ok x (List.mem_append_left _ hx)
 refine⟨h4.holds,h4.loc,fun k hk=>⟨?_,(h4.own k hk).2⟩⟩
 have n2:k≠b2:=fun e=>ha.2.2 x hx (eB b2 t2 c2) (by simp) k hk (by simp[eB,e])
 rcases(h4.own k hk).1 with h5|h5
 simp only[List.mem_cons] at h5
 rcases h5 with h5|h5
 exact absurd h5 n2
 exact .inl h5
 exact .inr h5
theorem wJ(w:World):
  Calls Tryz.prog 131 #[] w (Ret (.int .i64 0) w):=by
 go_enter Tryz.func131,Tryz.ntmps131
 have ak:=St.start w
 refine wq (sqr (sqp [.k 0 (vi 0)] ?_))
 refine aa (wq (sqr (sqp [.k 0 (vi 0)] ?_)))
 refine aa (wp_ret ?_)
 refine bpr (vi 0) (ag Tryz.results131 rpt) ?_
 exact Ret.of rfl ak.ext
theorem Gy(b b2:Nat)(D:DkM)(fp:List Nat)(w:World)(hB:(eDk b D fp).holds w)(hlt:∀k∈fp,k<w.heap.size)(h2:Blk w b2 30 #[po b 0])(n2:b2∉fp)(hz:D.log.size<=10000000):
  Calls Tryz.prog 132 #[po b2 0] w (l7 b (flD D) fp w):=by
 have st1:=St.lend hB (dS _ _ _) hlt
 obtain⟨PA,Pc,GA,gc,Ps,Qs,hps,hsub,hfp,hap,hall⟩:=hB
 have st0:=St.unpack st1 hfp hall hap
 have st2:St w (b2::fp) [eB b 100 #[.slice PA D.pgs.length Pc,.slice GA D.log.size gc,.int .i64 ((D.fl:Int)),.bool D.off,.bool D.armed,.int .i64 D.left],eO 144 513 (.slice PA D.pgs.length Pc) D.pgs.length (Ps.flatMap shC),eO 5 1 (.slice GA D.log.size gc) D.log.size ((bn D.log).map (Value.int .u8)),eWs Qs,eB b2 30 #[po b 0]] w:=St.with1 st0 h2 n2 (fun e he k hk=>by rw[show fp=(eDk b D fp).fp from rfl,show (eDk b D fp).fp= _ from hfp];exact List.mem_flatMap.2 ⟨e,he,hk⟩)
 go_enter Tryz.func132,Tryz.ntmps132
 have ak:=st2
 refine aD [0,0,2,6,14,30,63,127,255] [[4],[4],[],[],[0],[],[],[],[0]] [[],[],[],[],[],[],[],[],[5]] [[],[],[],[],[],[],[],[],[0]] [.c 1 (vp b),.c 2 (vp b),.k 3 (vp b),.k 4 (po b 1),.c 5 (.slice GA D.log.size gc),.k 6 (vi ((D.log.size:Int))),.k 7 (vp b),.k 8 (po b 2),.n] (fun ix d a X=>match ix with|0|1|2|3|4|5|6|7=>True|8=>X 5=eB b 100 #[.slice PA D.pgs.length Pc,.slice GA D.log.size gc,vi ((D.log.size:Int)),.bool D.off,.bool D.armed,vi D.left]|_=>True) [1,2,3,4,5] [0,1,4,8] [(1,0,8,9)] ak ?_ ?_ ?_
 exact fun ix _ _ _ _ _ _ hs hb hx h=>match ix,h with
 |8,h=>by dsimp only;rw[<-hx 5 rfl];exact h
 |0,_|1,_|2,_|3,_|4,_|5,_|6,_|7,_|_+9,_=>trivial
 refine⟨?_,?_,?_,?_,trivial⟩
 exact xs4 rfl id fun cx=>ae rfl (by kernel_rfl) (cx.ou 0) ((cx.bi 4 rfl).cell 0)
 exact xs4 rfl id fun cx=>ae rfl (by kernel_rfl) (cx.ou 0) ((cx.bi 4 rfl).cell 0)
 exact xs4 rfl id fun cx=>ae rfl (by kernel_rfl) (cx.an 3) ((cx.bi 0 rfl).cell 1)
 refine svA fun f a W X cx=>?_
 exact bu (n:=1) rfl (cx.an 7) (cx.an 5) (by kernel_rfl) (by kernel_rfl) (by kernel_rfl) cx (cx.init 0 _ rfl) rfl (nle rfl) (by kernel_rfl) rfl rfl rfl (fun _ _ _ _ _=>id)
 intro d a X W1 hD aA fr aC
 simp only[exq 5 ((dTn (hD 8 lq)))] at aA
 clear hD;subst aC;clear d a X
 refine bpe (.tuple #[]) (by simp[results,Tryz.results132,go_sem]) ?_
 have hl_:=St.less1 (L:=[eB b 100 #[.slice PA D.pgs.length Pc,.slice GA D.log.size gc,vi ((D.log.size:Int)),.bool D.off,.bool D.armed,vi D.left],eO 144 513 (.slice PA D.pgs.length Pc) D.pgs.length (Ps.flatMap shC),eO 5 1 (.slice GA D.log.size gc) D.log.size ((bn D.log).map (Value.int .u8)),eWs Qs]) (aA.pick [4,0,1,2,3] (by decide) rfl) h2
 exact⟨rfl,St.dk (L:=[]) (D:=flD D) (PA:=PA) (Pc:=Pc) (GA:=GA) (gc:=gc) hl_ hps hsub⟩
theorem Do(b b2:Nat)(D:DkM)(fp:List Nat)(w:World)(hB:(eDk b D fp).holds w)(hlt:∀k∈fp,k<w.heap.size)(h2:Blk w b2 30 #[po b 0])(n2:b2∉fp)(hz:D.log.size<=10000000):
  Calls Tryz.prog 126 #[po b 0,.func (.func 131) #[] #[],.func (.func 132) #[] #[po b2 0]] w (bU b (opD D 0 flD) fp w):=by
 have st1:St w fp [eDk b D fp] w:=St.lend hB (dS _ _ _) hlt
 go_enter Tryz.func126,Tryz.ntmps126
 have ak:=st1
 refine wq (sqr (sqp [.k 6 (vi 0)] ?_))
 refine aa (wq (wq ?_))
 obtain⟨onv,hon⟩:∃z,(!D.off)=z:=⟨_,rfl⟩
 refine sqr (sqp [.m 8 0] ?_)
 refine sqk (.bool onv) ak (fun cx=>⟨_,rz hon (l8 b D _ (fa (CtxV.holdF cx (cx.init 0 _ rfl) rfl))),(aw (cx.ou 8))⟩) fun W3 aV=>?_
 refine sqp [.k 10 (.bool (!(onv)))] ?_
 refine aa ?_
 rcases Bool.eq_false_or_eq_true (onv) with eU|eU
 ·refine wp_cond_false (show Act.eval _ _= .bool false from(congrArg Value.bool (by rw[eU];rfl))) (wp_skip (aa (wq (wq (sqr (sqp [.m 11 1] ?_))))))
  refine sqv (vi 0) aV (hH rfl rfl rfl rfl rfl (fun _ _ _ h=>h) fun c a W X cx=>⟨_,_,cL (f:=131) (args:=#[]) (args':=#[]) rfl rfl (cx.ou 11) (by kernel_rfl) jc rfl,wJ _⟩) fun W7 aY=>?_
  refine sqp [.m 7 12] ?_
  refine aa (wq (sqr (sqp [.m 13 7,.k 14 (.bool false)] ?_)))
  refine aa (wcf rfl (wp_skip (aa (wq (wq ?_)))))
  have hD_:(eDk b D fp).holds W7:=(aY.ok _ (List.mem_singleton.2 rfl)).holds
  obtain⟨PA,Pc,GA,gc,Ps,Qs,hps,hsub,hfp,hap,hall⟩:=hD_
  have uU:St w fp [eB b 100 #[.slice PA D.pgs.length Pc,.slice GA D.log.size gc,vi ((D.fl:Int)),.bool D.off,.bool D.armed,vi D.left],eO 144 513 (.slice PA D.pgs.length Pc) D.pgs.length (Ps.flatMap shC),eO 5 1 (.slice GA D.log.size gc) D.log.size ((bn D.log).map (Value.int .u8)),eWs Qs] W7:=St.unpack aY hfp hall hap
  refine sqr (sqp [.m 16 0,.k 17 (vp b),.k 18 (po b 4)] ?_)
  refine au 0 uU ?_
  refine sqp [.m 20 19] ?_
  refine dY 20 [21,22,23,24,25] ?_ rfl (fun hq=>?_) ?_
  rotate_left
  refine sqp [.m 21 0,.k 22 (vp b),.k 23 (po b 5)] ?_
  refine au 0 uU ?_
  refine sqp [.k 25 (.bool (decide (D.left<=0)))] ?_
  exact sqe
  refine cY ?_
  refine sqp [sPa 26 D.armed (decide (D.left<=0))] ?_
  refine aa (wbs (fun th=>?_) fun th=>?_)
  have rI:=th
  simp only[zB] at rI
  obtain⟨Qv,Qw⟩:=rI
  refine wq (sqr (sqp [.m 27 0,.k 28 (vp b),.k 29 (po b 3)] ?_))
  refine aX (n:=1) 0 #[.slice PA D.pgs.length Pc,.slice GA D.log.size gc,vi ((D.fl:Int)),.bool true,.bool D.armed,vi D.left] uU fun y7 e6=>?_
  refine aa (wq (sqr (sqp [.k 6 (vi 24)] ?_)))
  refine aa (wp_ret (aj ?_))
  refine bpr (vi 24) (ag Tryz.results126 rpt) ?_
  obtain⟨fp2,hk_⟩:=St.dk (L:=[]) (D:={D with off:=true}) (PA:=PA) (Pc:=Pc) (GA:=GA) (gc:=gc) (e6.pick [0,1,2,3] (by decide) rfl) hps hsub
  exact bU.of (R':=({D with off:=true},24)) (by rw[opD,if_neg (by have h_:=hon.trans eU;simpa using h_),if_neg (by decide),if_pos (by simpa using th)]) hk_
  have rI:=th
  simp only[zB] at rI
  refine wp_skip (aa (wq (sqr (sqp [.m 30 0,.k 31 (vp b),.k 32 (po b 5)] ?_))))
  refine au 0 uU ?_
  refine sqp [.k 34 (vi ((cS D.left))),.k 35 (vp b),.k 36 (po b 5)] ?_
  refine aX (n:=1) 0 #[.slice PA D.pgs.length Pc,.slice GA D.log.size gc,vi ((D.fl:Int)),.bool D.off,.bool D.armed,vi ((cS D.left))] uU fun zd eH=>?_
  refine aa (wq ?_)
  obtain⟨D1,hD1⟩:∃z,({D with left:=cS D.left}:DkM)=z:=⟨_,rfl⟩
  obtain⟨fp2,hk_37⟩:=St.dk (L:=[]) (D:={D with left:=cS D.left}) (PA:=PA) (Pc:=Pc) (GA:=GA) (gc:=gc) (eH.pick [0,1,2,3] (by decide) rfl) hps hsub
  simp only[List.nil_append] at hk_37
  rw[hD1] at hk_37
  have hz1:D1.log.size<=10000000:=by rw[<-hD1];exact hz
  refine sqr (sqp [.m 37 2] ?_)
  refine bG (fun X_=>X_.fp) (.tuple #[]) (fun IQ=>eDk b (flD D1) IQ) 0 hk_37 (by
    refine svA fun c a W X cx=>?_
    refine am.call (cL (f:=132) (args:=#[]) (args':=#[vp b2]) rfl rfl (cx.ou 37) (by kernel_rfl) jc rfl) ?_
    refine(Gy b b2 D1 _ _ (CtxV.holdF cx (cx.init 0 _ rfl) rfl) (CtxV.ltF cx (cx.init 0 _ rfl) rfl) (h2.upd cx.upd n2) (CtxV.notin cx (cx.init 0 _ rfl) rfl n2 h2.lt) hz1).mono ?_
    rintro e W1 ⟨rfl,fp4,aM⟩
    refine⟨_,rfl,aK (E:=eDk b D1 fp2) [eDk b (flD D1) fp4] (cx.init 0 _ rfl) rfl rfl aM (fun d g X' hs hb hv hN=>?_)⟩
    have aJ:=(hv 38 rfl).1;have aQ:=(hv 38 rfl).2
    exact⟨aJ.trans rfl,cE ((List.cons.inj hN).1)⟩) fun IQ qA dn=>?_
  refine aa (wq (sqr (sqp [.k 6 (vi 0)] ?_)))
  refine aa (wp_ret ?_)
  refine bpr (vi 0) (ag Tryz.results126 rpt) ?_
  exact bU.of (R':=(flD D1,0)) (by rw[opD,if_neg (by have h_:=hon.trans eU;simpa using h_),if_neg (by decide),if_neg (by have h_:=th;intro h2_;simp[h2_.1,h2_.2] at h_),hD1]) dn
 refine wp_cond_true (show Act.eval _ _= .bool true from(congrArg Value.bool (by rw[eU];rfl))) (wq (sqr (sqp [.k 6 (vi 24)] ?_)))
 refine aa (wp_ret (aj ?_))
 refine bpr (vi 24) (ag Tryz.results126 rpt) ?_
 exact bU.of (R':=(D,24)) (by rw[opD,if_pos (by simpa using hon.trans eU)]) aV
theorem lR(b:Nat)(D:DkM)(fp:List Nat)(w:World)(hB:(eDk b D fp).holds w)(hlt:∀k∈fp,k<w.heap.size)(hz:D.log.size<=10000000):
  Calls Tryz.prog 63 #[po b 0] w (bU b (opD D 0 flD) fp w):=by
 have st1:St w fp [eDk b D fp] w:=St.lend hB (dS _ _ _) hlt
 go_enter Tryz.func63,Tryz.ntmps63
 have ak:=st1
 refine wq (sqr ?_)
 refine bY #[vp b] ak fun ay W1 aA=>?_
 refine sqp [.k 2 (vi 0)] ?_
 refine aa (wq (sqr (au 1 aA ?_)))
 refine sqv (.func (.func 132) #[] #[vp ay]) aA (by
   exact sv0 rfl rfl rfl rfl rfl (fun _ _ _ h=>h) fun a c W X cx=>by
    have zm:a (.tmp 1)=vp ay:=(cx.ou 1)
    simp[go_sem,Instr.makeFunc,zm]) fun W4 bb=>?_
 refine bG (fun X_=>X_.fp) (vi ((opD D 0 flD).2)) (fun qI=>eDk b ((opD D 0 flD).1) qI) 0 bb (by
   refine svA fun a c W X cx=>?_
   refine am.call (al (args:=#[vp b,.func (.func 131) #[] #[],.func (.func 132) #[] #[vp ay]]) rfl cx.sees rfl (by kernel_rfl) (dG (cx.ou 3) (cx.sees.func _) (cx.ou 4))) ?_
   refine(Do b _ D _ _ (CtxV.holdF cx (cx.init 0 _ rfl) rfl) (CtxV.ltF cx (cx.init 0 _ rfl) rfl) (cx.bi 1 rfl) (by have h_:=cx.ap 1 0 rfl rfl (by decide);rw[(cx.init 1 _ rfl),(cx.init 0 _ rfl)] at h_;exact h_ _ (List.mem_singleton.2 rfl)) hz).mono ?_
   rintro e W1 ⟨rfl,fp4,aM⟩
   refine⟨_,rfl,aK (E:=eDk b D fp) [eDk b (opD D 0 flD).1 fp4] (cx.init 0 _ rfl) rfl rfl aM (fun d f X' hs hb hv hN=>?_)⟩
   have aJ:=(hv 5 rfl).1;have aQ:=(hv 5 rfl).2
   exact⟨aJ.trans rfl,cE ((List.cons.inj hN).1)⟩) fun qI W5 aR=>?_
 refine sqp [.m 2 5] ?_
 refine aa (wp_ret ?_)
 refine bpr (vi ((opD D 0 flD).2)) (ag Tryz.results63 rpt) ?_
 exact bU.of rfl (aR.pick [0] (by decide) rfl)
end
section
open Go.RowKit
def z5:H5:=⟨dV 512,jj 512⟩
def sh0:ShT:=⟨z5,none,0,[]⟩
def kk(n:Nat):DkM:=⟨List.replicate n ⟨z5,[]⟩,⟨#[]⟩,0,false,false,0⟩
theorem DN(n:Nat):bn (dV n)=List.replicate n 0:=by
 show ((dV n).data.toList).map _= _
 rw[mE,List.map_replicate];rfl
theorem F1:hvC z5=List.replicate 512 (.int .u8 0):=by
 show (bn (dV 512)).map _= _
 rw[DN,List.map_replicate]
def zSh:Value:= .agg (List.replicate 512 (Value.int .u8 0)++[Value.slice none 0 0]).toArray
theorem we:zSh.cells.toList=shC sh0:=by
 show (List.replicate 512 (Value.int .u8 0)++[sn]).toArray.toList=hvC z5++[sn]
 rw[F1]
theorem xX:zSh.cells.size=513:=by rw[<-Array.length_toList,we,dq]
theorem Tryz.infoSheetJ:(Tryz.prog.info? 144).map (fun i=>(i.zero,i.size,i.bytes))=some (some zSh,513,536):=by kernel_rfl
theorem GW(n:Nat):(madeCells zSh.cells (n*513)).toList=(List.replicate n sh0).flatMap shC:=by
 have h:=vA shC sh0 zSh.cells we (by rw[xX];decide) n
 rw[xX] at h;exact h
section
variable{P:Program}{o:Oper}{ρ:Operand->Value}{W:World}
theorem sU{x y:Operand}{ts:Array TypeId}{k k':IntKind}{a b z:Int}(h:o.op= .call {callee:= .builtin .max,args:=#[x,y],argTypes:=ts})(hx:ρ x= .int k a)(hy:ρ y= .int k' b)(hz:max a b=z):(execOp ρ o).run P W= .ok (.value (.int k z)) W:=by
 subst hz
 unfold execOp;rw[h]
 simp only[resolve,invoke,builtin,List.map_toArray,List.map_cons,List.map_nil,hx,hy,Sem.run_bind,Sem.run_pure,Result.andThen_ok]
 have e:(Builtin.max_ ts o.type #[.int k a,.int k' b]).run P W= .ok (.int k (max a b)) W:=by
  unfold Builtin.max_
  show (List.foldlM Builtin.max2 (.int k a) [.int k' b]).run P W= _
  simp only[List.foldlM_cons,List.foldlM_nil,Builtin.max2]
  have h2:(if a<b then b else a)=max a b:=by omega
  rw[h2]
  rfl
 rw[e]
 rfl
end
def KQ(n:Nat)(w:World)(e:Ending)(w':World):Prop:=∃b,e= .returned (.pointer (some ⟨b,0,none⟩))/\∃fp,St w [] [eDk b (kk n) fp] w'
theorem St.dkNew{w0 W:World}{bor:List Nat}{a b:Ent}(n:Nat)(h:St w0 bor [a,b] W):St w0 bor ([a,b]++[eO 5 1 (sn) 0 [],eWs (List.replicate n sh0)]) W:=by
 have h1:=fh h 5 1
 have h3:=fh h 142 512
 have h5:=h3.ok (ny sh0) (by simp[ny,sh0])
 have h2:=St.addE (R:=(List.replicate n sh0).map ny) h1 (fun e he=>by
  rw[List.map_replicate] at he
  rw[(List.mem_replicate.1 he).2]
  exact⟨rfl,h5.holds,h5.loc⟩)
 have h4:=h2.packA
 simp only[List.append_assoc] at h4 |-;exact h4
theorem xI(n:Nat)(w:World)(hn:n<=400):
  Calls Tryz.prog 19 #[.int .i64 ((n:Int))] w (KQ n w):=by
 go_enter Tryz.func19,Tryz.ntmps19
 have ak:=St.start w
 refine wq (sqr (sqp [.k 2 (.pointer none)] ?_))
 refine aa (wq (sqr (sqp [.m 3 0] ?_)))
 refine sql (vi ((n:Int))) ak (fun cx=>jt rfl (cx.ou 3) (cx.co _) (by omega)) ?_
 refine sql (vi ((n:Int))) ak (fun cx=>sU rfl (cx.co _) (cx.ou 4) (by omega)) ?_
 refine d9 (fun x_=>sA x_) (fun qJ=> .slice qJ n n) (fun qJ=>eO 144 513 (.slice qJ n n) n ((List.replicate n sh0).flatMap shC)) ak (by
   refine svA fun b a W X cx=>?_
   obtain⟨i0,hi0,hz0,hz1,hz2⟩:=info_parts Tryz.infoSheetJ
   exact FY (n:=n) (sz:=513) rfl (by kernel_rfl) hi0 hz0 hz1 hz2 (cx.ou 5) (cx.ou 5) (by omega) (by omega) (by omega) (by omega) (by simp only[maxLen];omega) (GW n) rfl rfl (fun _ _ _ _ _=> .intro)) fun qJ W5 aR=>?_
 refine sqp [.k 7 (.agg #[.slice qJ n n,sn,vi 0,.bool false,.bool false,vi 0])] ?_
 refine bY #[.slice qJ n n,sn,vi 0,.bool false,.bool false,vi 0] aR fun Mf W7 aY=>?_
 refine sqp [.m 2 8] ?_
 refine aa (wp_ret ?_)
 refine bpr (vp Mf) (ag Tryz.results19 rpt) ?_
 exact⟨_,rfl,St.dk (L:=[]) (D:=kk n) (PA:=qJ) (Pc:=n) (GA:=none) (gc:=0) (Ps:=List.replicate n sh0) (Qs:=List.replicate n sh0) (by have h_:=St.dkNew n (aY.pick [1,0] (by decide) rfl);rw[show dkL Mf (kk n) qJ n none 0 (List.replicate n sh0) (List.replicate n sh0)= _ from by rw[dkL,dkC,show (kk n).pgs.length=n from List.length_replicate]];exact h_) (by rw[List.map_replicate];rfl) rfl⟩
end
section
open Go.RowKit
theorem LC{w:World}{base n c size:Nat}{e:TypeId}{A:Option Addr}{xs:List Value}(h:w.ownsRow base e size (.slice A n c) n xs):n<=c:=by
 rcases h.2 with ⟨hv,h0⟩|⟨g,cap,cur,hv,_,_,hle,_⟩
 omega
 injection hv with h1 h2 h3
 omega
theorem EO{w:World}{base n c size m:Nat}{e:TypeId}{A:Option Addr}{xs:List Value}(h:w.ownsRow base e size (.slice A n c) n xs)(hm:m<=n):w.ownsRow base e size (.slice A m c) m (xs.take (m*size)):=by
 obtain⟨hl,h2⟩:=h
 have hms:m*size<=n*size:=Nat.mul_le_mul_right _ hm
 refine⟨by rw[List.length_take];omega,?_⟩
 rcases h2 with ⟨hv,h0⟩|⟨g,cap,cur,hv,hb,hg,hle,hmx,hcs,htk⟩
 injection hv with h1 h3 h4
 have:m=0:=by omega
 subst this h1 h4
 exact .inl ⟨rfl,rfl⟩
 injection hv with h1 h3 h4
 subst h1 h4
 refine .inr ⟨g,c,cur,rfl,hb,hg,by omega,hmx,hcs,?_⟩
 rw[<-htk,List.take_take,Nat.min_eq_left hms]
theorem wN(s:ByteArray)(m:Nat):(bn s).take m=bn (s.extract 0 m):=by
 rw[bn,bn,gh,List.drop_zero,Nat.sub_zero,List.map_take]
def ctD(k:Nat)(D:DkM):DkM:={D with log:=D.log.extract 0 k,fl:=min D.fl k}
def ctE(D:DkM)(n:Int):Int:=if n<0\/(D.log.size:Int)<n then 1 else 0
theorem St.trunc{w W:World}{bor:List Nat}{L1 L2:List Ent}{GA:Option Addr}{gc m:Nat}{s:ByteArray}(h:St w bor (L1++eO 5 1 (.slice GA s.size gc) s.size ((bn s).map (Value.int .u8))::L2) W)(hm:m<=s.size):St w bor (L1++eO 5 1 (.slice GA (s.extract 0 m).size gc) (s.extract 0 m).size ((bn (s.extract 0 m)).map (Value.int .u8))::L2) W:=by
 have hz:(s.extract 0 m).size=m:=by rw[ByteArray.size_extract];omega
 rw[hz]
 refine St.repl h (by cases GA<;>rfl) (fun h2=>?_) (gg _ _ _ _ _)
 have h3:=EO (m:=m) h2 hm
 rw[Nat.mul_one,<-List.map_take,wN] at h3
 exact h3
theorem GC(b b2 b3:Nat)(D:DkM)(k:Nat)(fp:List Nat)(w:World)(hB:(eDk b D fp).holds w)(hlt:∀k∈fp,k<w.heap.size)(h2:Blk w b2 30 #[po b 0])(h3:Blk w b3 3 #[.int .i64 (k:Int)])(n2:b2∉fp)(n3:b3∉fp)(uS:b2≠b3)(hz:D.log.size<=10000000)(hk:k<=D.log.size):
  Calls Tryz.prog 128 #[po b2 0,po b3 0] w (l7 b (ctD k D) fp w):=by
 have st1:=St.lend hB (dS _ _ _) hlt
 obtain⟨PA,Pc,GA,gc,Ps,Qs,hps,hsub,hfp,hap,hall⟩:=hB
 have st0:=St.unpack st1 hfp hall hap
 have hgc:D.log.size<=gc:=LC (hall (eO 5 1 (.slice GA D.log.size gc) D.log.size ((bn D.log).map (Value.int .u8))) (by simp[dkL])).1
 have st2:St w (b2::b3::fp) [eB b 100 #[.slice PA D.pgs.length Pc,.slice GA D.log.size gc,.int .i64 ((D.fl:Int)),.bool D.off,.bool D.armed,.int .i64 D.left],eO 144 513 (.slice PA D.pgs.length Pc) D.pgs.length (Ps.flatMap shC),eO 5 1 (.slice GA D.log.size gc) D.log.size ((bn D.log).map (Value.int .u8)),eWs Qs,eB b2 30 #[po b 0],eB b3 3 #[.int .i64 ((k:Int))]] w:=St.with2 st0 h2 h3 n2 n3 uS (fun e he k hk=>by rw[show fp=(eDk b D fp).fp from rfl,show (eDk b D fp).fp= _ from hfp];exact List.mem_flatMap.2 ⟨e,he,hk⟩)
 go_enter Tryz.func128,Tryz.ntmps128
 have ak:=st2
 refine aD [0,0,0,4,12,28,0,124,0,256,768,1792,0,7936,4093,20477,53245,131071,262143,524287] [[4],[4],[4],[],[],[0],[5],[],[4],[],[],[0],[5],[],[],[],[0],[],[],[6]] [[],[],[],[],[],[],[],[],[],[],[],[],[],[],[],[],[6],[],[],[7]] [[],[],[],[],[],[],[],[],[],[],[],[],[],[],[],[],[0],[],[],[6]] [.c 2 (vp b),.c 3 (vp b),.c 4 (vp b),.k 5 (vp b),.k 6 (po b 1),.c 7 (.slice GA D.log.size gc),.c 8 (vi ((k:Int))),.c 9 (.slice GA k gc),.c 10 (vp b),.k 11 (vp b),.k 12 (po b 2),.c 13 (vi ((D.fl:Int))),.c 14 (vi ((k:Int))),.c 15 (vi (((min D.fl k:Nat):Int))),.k 16 (vp b),.k 17 (po b 1),.n,.k 18 (vp b),.k 19 (po b 2),.n] (fun ix d a X=>match ix with|0|1|2|3|4|5|6|7|8|9|10|11|12|13|14|15=>True|16=>X 6=eB b 100 #[.slice PA D.pgs.length Pc,.slice GA k gc,vi ((D.fl:Int)),.bool D.off,.bool D.armed,vi D.left]|17|18=>True|19=>X 7=eB b 100 #[.slice PA D.pgs.length Pc,.slice GA k gc,vi (((min D.fl k:Nat):Int)),.bool D.off,.bool D.armed,vi D.left]|_=>True) [1,2,3,4,5,7] [0,1,2,5,6,7,8,11,12,13,16,19] [(2,0,19,20)] ak ?_ ?_ ?_
 exact fun ix _ _ _ _ _ _ hs hb hx h=>match ix,h with
 |16,h=>by dsimp only;rw[<-hx 6 rfl];exact h
 |19,h=>by dsimp only;rw[<-hx 7 rfl];exact h
 |0,_|1,_|2,_|3,_|4,_|5,_|6,_|7,_|8,_|9,_|10,_|11,_|12,_|13,_|14,_|15,_|17,_|18,_|_+20,_=>trivial
 refine⟨?_,?_,?_,?_,?_,?_,?_,?_,?_,?_,?_,?_,trivial⟩
 exact xs4 rfl id fun cx=>ae rfl (by kernel_rfl) (cx.ou 0) ((cx.bi 4 rfl).cell 0)
 exact xs4 rfl id fun cx=>ae rfl (by kernel_rfl) (cx.ou 0) ((cx.bi 4 rfl).cell 0)
 exact xs4 rfl id fun cx=>ae rfl (by kernel_rfl) (cx.ou 0) ((cx.bi 4 rfl).cell 0)
 exact xs4 rfl id fun cx=>ae rfl (by kernel_rfl) (cx.an 4) ((cx.bi 0 rfl).cell 1)
 exact xs4 rfl id fun cx=>ae rfl (by kernel_rfl) (cx.ou 1) ((cx.bi 5 rfl).cell 0)
 exact xs4 rfl id fun cx=>pF (e:=5) (sz:=1) (m:=k) rfl (by kernel_rfl) (by kernel_rfl) (cx.an 5) (cx.an 6) (by omega) (by omega)
 exact xs4 rfl id fun cx=>ae rfl (by kernel_rfl) (cx.ou 0) ((cx.bi 4 rfl).cell 0)
 exact xs4 rfl id fun cx=>ae rfl (by kernel_rfl) (cx.an 10) ((cx.bi 0 rfl).cell 2)
 exact xs4 rfl id fun cx=>ae rfl (by kernel_rfl) (cx.ou 1) ((cx.bi 5 rfl).cell 0)
 exact xs4 rfl id fun cx=>jt rfl (cx.an 11) (cx.an 12) (by omega)
 refine svA fun f a W X cx=>?_
 exact bu (n:=1) rfl (cx.an 15) (cx.an 7) (by kernel_rfl) (by kernel_rfl) (by kernel_rfl) cx (cx.init 0 _ rfl) rfl (nle rfl) (by kernel_rfl) rfl rfl rfl (fun _ _ _ _ _=>id)
 refine svA fun f a W X cx=>?_
 exact bu (n:=1) rfl (cx.an 18) (cx.an 13) (by kernel_rfl) (by kernel_rfl) (by kernel_rfl) cx (dTn (cx.an 16)) rfl (nle rfl) (by kernel_rfl) rfl rfl rfl (fun _ _ _ _ _=>id)
 intro d a X W1 hD aA fr aC
 simp only[exq 7 ((dTn (hD 19 lq)))] at aA
 clear hD;subst aC;clear d a X
 refine bpe (.tuple #[]) (by simp[results,Tryz.results128,go_sem]) ?_
 have hl_:=St.less2 (L:=[eB b 100 #[.slice PA D.pgs.length Pc,.slice GA k gc,vi (((min D.fl k:Nat):Int)),.bool D.off,.bool D.armed,vi D.left],eO 144 513 (.slice PA D.pgs.length Pc) D.pgs.length (Ps.flatMap shC),eO 5 1 (.slice GA D.log.size gc) D.log.size ((bn D.log).map (Value.int .u8)),eWs Qs]) (aA.pick [5,0,1,2,3,4] (by decide) rfl) h2 h3
 have hl2_:=St.trunc (L1:=[eB b 100 #[.slice PA D.pgs.length Pc,.slice GA k gc,vi (((min D.fl k:Nat):Int)),.bool D.off,.bool D.armed,vi D.left],eO 144 513 (.slice PA D.pgs.length Pc) D.pgs.length (Ps.flatMap shC)]) (L2:=[eWs Qs]) (m:=k) hl_ hk
 have hz_:(D.log.extract 0 k).size=k:=by rw[ByteArray.size_extract];omega
 exact⟨rfl,St.dk (L:=[]) (D:=ctD k D) (PA:=PA) (Pc:=Pc) (GA:=GA) (gc:=gc) (by rw[show dkL b (ctD k D) PA Pc GA gc Ps Qs=[eB b 100 #[.slice PA D.pgs.length Pc,.slice GA k gc,vi (((min D.fl k:Nat):Int)),.bool D.off,.bool D.armed,vi D.left],eO 144 513 (.slice PA D.pgs.length Pc) D.pgs.length (Ps.flatMap shC),eO 5 1 (.slice GA (D.log.extract 0 k).size gc) (D.log.extract 0 k).size ((bn (D.log.extract 0 k)).map (Value.int .u8)),eWs Qs] from by rw[dkL,dkC,show (ctD k D).log=D.log.extract 0 k from rfl,hz_];rfl];exact hl2_) hps hsub⟩
end
section
open Go.RowKit
theorem Lz(b b2 b3:Nat)(D:DkM)(n:Int)(PA:Option Addr)(Pc:Nat)(GA:Option Addr)(gc:Nat)(Ps:List ShT)(w:World)(hB:DkO w b D PA Pc GA gc Ps)(h2:Blk w b2 30 #[po b 0])(h3:Blk w b3 3 #[.int .i64 n])(hz:D.log.size<=10000000):
  Calls Tryz.prog 127 #[po b3 0,po b2 0] w (Ret (.int .i64 (ctE D n)) w):=by
 go_enter Tryz.func127,Tryz.ntmps127
 have ak:=St.start w
 refine wq (sqr (sqp [.k 2 (vi 0)] ?_))
 refine aa (wq (wq (bR [0,1,3,7,7,23,55,119,247,511,1023] [] [.c 3 (vi n),.k 4 (.bool (decide (n<0))),.k 5 (.bool (decide (n<0))),.y 6 (!(decide (n<0))) (vi n),.y 7 (!(decide (n<0))) (vp b),.z 8 (!(decide (n<0))) (vp b),.z 9 (!(decide (n<0))) (po b 1),.y 10 (!(decide (n<0))) (.slice GA D.log.size gc),.z 11 (!(decide (n<0))) (vi ((D.log.size:Int))),.z 12 (!(decide (n<0))) (.bool (decide ((D.log.size:Int)<n))),tO 13 (decide (n<0)) (decide ((D.log.size:Int)<n))] [] [0,3,4,7] [(3,0,11,14)] ak ?_ fun W2 bC=>?_)))
 refine⟨?_,?_,?_,?_,trivial⟩
 exact xs4 rfl id fun cx=>ae rfl (by kernel_rfl) (cx.ou 0) ((Blk.ext h3 cx.upd.to_ext).cell 0)
 exact m2 rfl (fun _ _ _ h=>h) (fun cx=>(cx.an 2)) fun cx hq=>ae rfl (by kernel_rfl) (cx.ou 0) ((Blk.ext h3 cx.upd.to_ext).cell 0)
 exact m2 rfl (fun _ _ _ h=>h) (fun cx=>(cx.an 2)) fun cx hq=>ae rfl (by kernel_rfl) (cx.ou 1) ((Blk.ext h2 cx.upd.to_ext).cell 0)
 exact m2 rfl (fun _ _ _ h=>h) (fun cx=>(cx.an 2)) fun cx hq=>ae rfl (by kernel_rfl) (mbv (cx.an 6) hq) ((Blk.ext hB.blkL cx.upd.to_ext).cell 1)
 refine aa (wbs (fun uT=>?_) fun uT=>?_)
 have vW:=uT
 simp only[zB] at vW
 refine wq (sqr (sqp [.k 2 (vi 1)] ?_))
 refine aa (wp_ret (aj ?_))
 refine bpr (vi 1) (ag Tryz.results127 rpt) ?_
 exact Ret.int (by rw[ctE,if_pos (by have h_:=uT;simp at h_;omega)]) bC.ext
 have vW:=uT
 simp only[zB] at vW
 obtain⟨Rs,Rt⟩:=vW
 refine wp_skip (aa (wq (sqr (sqp [.k 2 (vi 0)] ?_))))
 refine aa (wp_ret ?_)
 refine bpr (vi 0) (ag Tryz.results127 rpt) ?_
 exact Ret.int (by rw[ctE,if_neg (by have h_:=uT;simp at h_;omega)]) bC.ext
theorem Ga(b b2 b3:Nat)(D:DkM)(n:Int)(w:World)(hB:ju w b D)(h2:Blk w b2 30 #[po b 0])(h3:Blk w b3 3 #[.int .i64 n])(hz:D.log.size<=10000000):Calls Tryz.prog 127 #[po b3 0,po b2 0] w (Ret (.int .i64 (ctE D n)) w):=by
 obtain⟨PA,Pc,GA,gc,Ps,h1⟩:=hB
 exact Lz b b2 b3 D n PA Pc GA gc Ps w h1 h2 h3 hz
theorem E0(b b2 b3:Nat)(D:DkM)(n:Int)(fp:List Nat)(w:World)(hB:(eDk b D fp).holds w)(hlt:∀k∈fp,k<w.heap.size)(h2:Blk w b2 30 #[po b 0])(h3:Blk w b3 3 #[.int .i64 n])(n2:b2∉fp)(n3:b3∉fp)(uS:b2≠b3)(hz:D.log.size<=10000000):
  Calls Tryz.prog 126 #[po b 0,.func (.func 127) #[] #[po b3 0,po b2 0],.func (.func 128) #[] #[po b2 0,po b3 0]] w (bU b (opD D (ctE D n) (ctD n.toNat)) fp w):=by
 have st1:St w fp [eDk b D fp] w:=St.lend hB (dS _ _ _) hlt
 go_enter Tryz.func126,Tryz.ntmps126
 have ak:=st1
 refine wq (sqr (sqp [.k 6 (vi 0)] ?_))
 refine aa (wq (wq ?_))
 obtain⟨onv,hon⟩:∃z,(!D.off)=z:=⟨_,rfl⟩
 refine sqr (sqp [.m 8 0] ?_)
 refine sqk (.bool onv) ak (fun cx=>⟨_,rz hon (l8 b D _ (fa (CtxV.holdF cx (cx.init 0 _ rfl) rfl))),(aw (cx.ou 8))⟩) fun W3 aV=>?_
 refine sqp [.k 10 (.bool (!(onv)))] ?_
 refine aa ?_
 rcases Bool.eq_false_or_eq_true (onv) with eU|eU
 ·refine wp_cond_false (show Act.eval _ _= .bool false from(congrArg Value.bool (by rw[eU];rfl))) (wp_skip (aa (wq (wq (sqr (sqp [.m 11 1] ?_))))))
  refine sqv (vi ((ctE D n))) aV (hH rfl rfl rfl rfl rfl (fun _ _ _ h=>h) fun c a W X cx=>⟨_,_,cL (f:=127) (args:=#[]) (args':=#[vp b3,vp b2]) rfl rfl (cx.ou 11) (by kernel_rfl) jc rfl,Ga b b2 b3 D n _ (fa (CtxV.holdF cx (cx.init 0 _ rfl) rfl)) (h2.upd cx.upd n2) (h3.upd cx.upd n3) hz⟩) fun W7 aY=>?_
  refine sqp [.m 7 12] ?_
  refine aa (wq (sqr (sqp [.m 13 7,.k 14 (.bool ((ctE D n) != 0))] ?_)))
  refine aa (wbs (fun dm=>?_) fun dm=>?_)
  have gU:=bne_iff_ne.1 dm
  refine wq (sqr (sqp [.m 15 7,.m 6 15] ?_))
  refine aa (wp_ret (aj ?_))
  refine bpr (vi ((ctE D n))) (ag Tryz.results126 rpt) ?_
  exact bU.of (R':=(D,ctE D n)) (by rw[opD,if_neg (by have h_:=hon.trans eU;simpa using h_),if_pos (by simpa using dm)]) aY
  have gU:=bne_eq_false_iff_eq.1 dm
  refine wp_skip (aa (wq (wq ?_)))
  have hD_:(eDk b D fp).holds W7:=(aY.ok _ (List.mem_singleton.2 rfl)).holds
  obtain⟨PA,Pc,GA,gc,Ps,Qs,hps,hsub,hfp,hap,hall⟩:=hD_
  have gl:St w fp [eB b 100 #[.slice PA D.pgs.length Pc,.slice GA D.log.size gc,vi ((D.fl:Int)),.bool D.off,.bool D.armed,vi D.left],eO 144 513 (.slice PA D.pgs.length Pc) D.pgs.length (Ps.flatMap shC),eO 5 1 (.slice GA D.log.size gc) D.log.size ((bn D.log).map (Value.int .u8)),eWs Qs] W7:=St.unpack aY hfp hall hap
  refine sqr (sqp [.m 16 0,.k 17 (vp b),.k 18 (po b 4)] ?_)
  refine au 0 gl ?_
  refine sqp [.m 20 19] ?_
  refine dY 20 [21,22,23,24,25] ?_ rfl (fun hq=>?_) ?_
  rotate_left
  refine sqp [.m 21 0,.k 22 (vp b),.k 23 (po b 5)] ?_
  refine au 0 gl ?_
  refine sqp [.k 25 (.bool (decide (D.left<=0)))] ?_
  exact sqe
  refine cY ?_
  refine sqp [sPa 26 D.armed (decide (D.left<=0))] ?_
  refine aa (wbs (fun fc=>?_) fun fc=>?_)
  have e9:=fc
  simp only[zB] at e9
  obtain⟨zn,zo⟩:=e9
  refine wq (sqr (sqp [.m 27 0,.k 28 (vp b),.k 29 (po b 3)] ?_))
  refine aX (n:=1) 0 #[.slice PA D.pgs.length Pc,.slice GA D.log.size gc,vi ((D.fl:Int)),.bool true,.bool D.armed,vi D.left] gl fun Fb jp=>?_
  refine aa (wq (sqr (sqp [.k 6 (vi 24)] ?_)))
  refine aa (wp_ret (aj ?_))
  refine bpr (vi 24) (ag Tryz.results126 rpt) ?_
  obtain⟨fp2,hk_⟩:=St.dk (L:=[]) (D:={D with off:=true}) (PA:=PA) (Pc:=Pc) (GA:=GA) (gc:=gc) (jp.pick [0,1,2,3] (by decide) rfl) hps hsub
  exact bU.of (R':=({D with off:=true},24)) (by rw[opD,if_neg (by have h_:=hon.trans eU;simpa using h_),if_neg (by simpa using dm),if_pos (by simpa using fc)]) hk_
  have e9:=fc
  simp only[zB] at e9
  refine wp_skip (aa (wq (sqr (sqp [.m 30 0,.k 31 (vp b),.k 32 (po b 5)] ?_))))
  refine au 0 gl ?_
  refine sqp [.k 34 (vi ((cS D.left))),.k 35 (vp b),.k 36 (po b 5)] ?_
  refine aX (n:=1) 0 #[.slice PA D.pgs.length Pc,.slice GA D.log.size gc,vi ((D.fl:Int)),.bool D.off,.bool D.armed,vi ((cS D.left))] gl fun qA dn=>?_
  refine aa (wq ?_)
  obtain⟨D1,hD1⟩:∃z,({D with left:=cS D.left}:DkM)=z:=⟨_,rfl⟩
  obtain⟨fp2,hk_40⟩:=St.dk (L:=[]) (D:={D with left:=cS D.left}) (PA:=PA) (Pc:=Pc) (GA:=GA) (gc:=gc) (dn.pick [0,1,2,3] (by decide) rfl) hps hsub
  simp only[List.nil_append] at hk_40
  rw[hD1] at hk_40
  have hz1:D1.log.size<=10000000:=by rw[<-hD1];exact hz
  have hk0_:0<=n/\n<=(D.log.size:Int):=by have h_:=dm;simp only[ctE] at h_;split at h_;(simp at h_);omega
  obtain⟨k,rfl⟩:∃k:Nat,n=(k:Int):=⟨n.toNat,by omega⟩
  have hk1:k<=D1.log.size:=by rw[<-hD1];show k<=D.log.size;omega
  refine sqr (sqp [.m 37 2] ?_)
  refine bG (fun X_=>X_.fp) (.tuple #[]) (fun nr=>eDk b (ctD k D1) nr) 0 hk_40 (by
    refine svA fun c a W X cx=>?_
    refine am.call (cL (f:=128) (args:=#[]) (args':=#[vp b2,vp b3]) rfl rfl (cx.ou 37) (by kernel_rfl) jc rfl) ?_
    refine(GC b b2 b3 D1 k _ _ (CtxV.holdF cx (cx.init 0 _ rfl) rfl) (CtxV.ltF cx (cx.init 0 _ rfl) rfl) (h2.upd cx.upd n2) (h3.upd cx.upd n3) (CtxV.notin cx (cx.init 0 _ rfl) rfl n2 h2.lt) (CtxV.notin cx (cx.init 0 _ rfl) rfl n3 h3.lt) uS hz1 hk1).mono ?_
    rintro e W1 ⟨rfl,fp4,aM⟩
    refine⟨_,rfl,aK (E:=eDk b D1 fp2) [eDk b (ctD k D1) fp4] (cx.init 0 _ rfl) rfl rfl aM (fun d g X' hs hb hv hN=>?_)⟩
    have aJ:=(hv 38 rfl).1;have aQ:=(hv 38 rfl).2
    exact⟨aJ.trans rfl,cE ((List.cons.inj hN).1)⟩) fun nr uH fj=>?_
  refine aa (wq (sqr (sqp [.k 6 (vi 0)] ?_)))
  refine aa (wp_ret ?_)
  refine bpr (vi 0) (ag Tryz.results126 rpt) ?_
  exact bU.of (R':=(ctD k D1,0)) (by rw[opD,if_neg (by have h_:=hon.trans eU;simpa using h_),if_neg (by simpa using dm),if_neg (by have h_:=fc;intro h2_;simp[h2_.1,h2_.2] at h_),hD1,Int.toNat_natCast]) fj
 refine wp_cond_true (show Act.eval _ _= .bool true from(congrArg Value.bool (by rw[eU];rfl))) (wq (sqr (sqp [.k 6 (vi 24)] ?_)))
 refine aa (wp_ret (aj ?_))
 refine bpr (vi 24) (ag Tryz.results126 rpt) ?_
 exact bU.of (R':=(D,24)) (by rw[opD,if_pos (by simpa using hon.trans eU)]) aV
theorem F3(b:Nat)(D:DkM)(n:Int)(fp:List Nat)(w:World)(hB:(eDk b D fp).holds w)(hlt:∀k∈fp,k<w.heap.size)(hz:D.log.size<=10000000):
  Calls Tryz.prog 60 #[po b 0,.int .i64 n] w (bU b (opD D (ctE D n) (ctD n.toNat)) fp w):=by
 have st1:St w fp [eDk b D fp] w:=St.lend hB (dS _ _ _) hlt
 go_enter Tryz.func60,Tryz.ntmps60
 have ak:=st1
 refine wq (sqr ?_)
 refine bY #[vp b] ak fun bA W1 aA=>?_
 refine bY #[vi n] aA fun cT W2 bC=>?_
 refine sqp [.k 4 (vi 0)] ?_
 refine aa (wq (sqr (au 1 bC ?_)))
 refine sqv (.func (.func 127) #[] #[vp cT,vp bA]) bC (by
   exact sv0 rfl rfl rfl rfl rfl (fun _ _ _ h=>h) fun a c W X cx=>by
    have fN:a (.tmp 3)=vp cT:=(cx.ou 3)
    have oq:a (.tmp 2)=vp bA:=(cx.ou 2)
    simp[go_sem,Instr.makeFunc,fN,oq]) fun W5 aR=>?_
 refine sqv (.func (.func 128) #[] #[vp bA,vp cT]) aR (by
   exact sv0 rfl rfl rfl rfl rfl (fun _ _ _ h=>h) fun a c W X cx=>by
    have oq:a (.tmp 2)=vp bA:=(cx.ou 2)
    have fN:a (.tmp 3)=vp cT:=(cx.ou 3)
    simp[go_sem,Instr.makeFunc,oq,fN]) fun W6 bN=>?_
 refine bG (fun X_=>X_.fp) (vi ((opD D (ctE D n) (ctD n.toNat)).2)) (fun zp=>eDk b ((opD D (ctE D n) (ctD n.toNat)).1) zp) 0 bN (by
   refine svA fun a c W X cx=>?_
   refine am.call (al (args:=#[vp b,.func (.func 127) #[] #[vp cT,vp bA],.func (.func 128) #[] #[vp bA,vp cT]]) rfl cx.sees rfl (by kernel_rfl) (dG (cx.ou 5) (cx.ou 6) (cx.ou 7))) ?_
   refine(E0 b _ _ D n _ _ (CtxV.holdF cx (cx.init 0 _ rfl) rfl) (CtxV.ltF cx (cx.init 0 _ rfl) rfl) (cx.bi 1 rfl) (cx.bi 2 rfl) (by have h_:=cx.ap 1 0 rfl rfl (by decide);rw[(cx.init 1 _ rfl),(cx.init 0 _ rfl)] at h_;exact h_ _ (List.mem_singleton.2 rfl)) (by have h_:=cx.ap 2 0 rfl rfl (by decide);rw[(cx.init 2 _ rfl),(cx.init 0 _ rfl)] at h_;exact h_ _ (List.mem_singleton.2 rfl)) (by have h_:=cx.ap 1 2 rfl rfl (by decide);rw[(cx.init 1 _ rfl),(cx.init 2 _ rfl)] at h_;intro e_;exact h_ _ (List.mem_singleton.2 rfl) (List.mem_singleton.2 e_)) hz).mono ?_
   rintro e W1 ⟨rfl,fp4,aM⟩
   refine⟨_,rfl,aK (E:=eDk b D fp) [eDk b (opD D (ctE D n) (ctD n.toNat)).1 fp4] (cx.init 0 _ rfl) rfl rfl aM (fun d f X' hs hb hv hN=>?_)⟩
   have aJ:=(hv 8 rfl).1;have aQ:=(hv 8 rfl).2
   exact⟨aJ.trans rfl,cE ((List.cons.inj hN).1)⟩) fun zp W7 aY=>?_
 refine sqp [.m 4 8] ?_
 refine aa (wp_ret ?_)
 refine bpr (vi ((opD D (ctE D n) (ctD n.toNat)).2)) (ag Tryz.results60 rpt) ?_
 exact bU.of rfl (aY.pick [0] (by decide) rfl)
end
section
open Go.RowKit
theorem Be(h:H5):strOfNums ((bn h.1).take 256)++strOfNums ((bn h.1).drop 256)=h.1:=by
 have e1:(bn h.1).take 256=bn (h.1.extract 0 256):=wN _ _
 have e2:(bn h.1).drop 256=bn (h.1.extract 256 512):=by
  rw[bn,bn,gh,List.map_take,List.map_drop,List.take_of_length_le]
  rw[List.length_drop,List.length_map,bS,h.2];decide
 rw[e1,e2,sK,sK]
 apply gX
 rw[cU,gh,gh,List.drop_zero,Nat.sub_zero]
 rw[List.take_of_length_le (l:=(bl h.1).drop 256) (by rw[List.length_drop,bS,h.2];decide),List.take_append_drop]
section
variable{P:Program}{o:Oper}{ρ:Operand->Value}{W:World}
theorem tD{t t' e u:TypeId}{x:Operand}{g off:Nat}{xs:List Int}{ys:List Int}(h:o.op= .convert t t' x)(ht:P.underlying t=some (.slice e))(he:P.underlying e=some (.int .u8))(ht':P.underlying t'=some .string)
  (hx:ρ x= .slice (some ⟨g,off,none⟩) 256 256) (hb:Blk W g u (xs.map (Value.int .u8)).toArray) (hy:(xs.drop off).take 256=ys) (hl:off+256<=xs.length):(execOp ρ o).run P W= .ok (.value (.string (strOfNums ys))) W:=by
 subst hy
 have hr:=run_convert_bytes_arg W t e ht he g off 256 256 ((xs.drop off).take 256) (by rw[List.length_take,List.length_drop];omega) (fun i hi=>?_) t' ht'
 unfold execOp;rw[h]
 simp only[hx,Sem.run_bind,hr,Result.andThen_ok,Sem.run_pure]
 rw[hb.cell (off+i),List.getElem?_toArray,List.getElem?_map,List.getD_eq_getElem?_getD,List.getElem?_take,if_pos hi,List.getElem?_drop]
 rw[List.getElem?_eq_getElem (by omega)];rfl
theorem jL{t e:TypeId}{x:Operand}{g off n:Nat}(h:o.op= .slice t x none none none)(ht:P.underlying t=some (.array n e))(hz:szP P e=some 1)(hx:ρ x=po g off):(execOp ρ o).run P W= .ok (.value (.slice (some ⟨g,off,none⟩) n n)) W:=by
 have e1:P.arrayLen t=n:=by simp[Program.arrayLen,ht]
 have e2:P.elem t=e:=by simp[Program.elem,ht]
 have h1:=run_sliceAt_array_all (P:=P) W t ⟨g,off,none⟩ (by rw[e1,e2];exact ht)
 rw[e1,e2,dl hz] at h1
 unfold execOp;rw[h]
 simp only[hx,Sem.run_bind,Option.map_none,h1,Result.andThen_ok,Sem.run_pure,slicedAt]
 simp[Addr.add]
end
theorem uB(h:H5)(w:World):
  Calls Tryz.prog 88 #[.agg (hvC h).toArray] w (Ret (.string h.1) w):=by
 have hzz:=congrArg ByteArray.size (Be h)
 rw[ByteArray.size_append,h.2] at hzz
 go_enter Tryz.func88,Tryz.ntmps88
 have ak:=St.start w
 refine wq (sqr ?_)
 refine d9 (fun x_=>pb x_) (fun ay=>vp ay) (fun ay=>eB ay 142 (hvC h).toArray) ak (by
   refine svA fun b a W X cx=>?_
   exact qw (cs:=(hvC h).toArray) rfl (cx.ou 0) rfl rfl rfl (fun _ _ _ _ _=> .intro)) fun ay W1 aA=>?_
 refine sqp [.k 2 (.string ⟨#[]⟩)] ?_
 refine aa (wq (bR [0,1,3,0,8,24,63,127] [[],[],[0],[],[],[0]] [.c 3 (vp ay),.c 4 (.slice ((some ⟨ay,0,none⟩)) 256 256),.c 5 (.string (strOfNums ((bn h.1).take 256))),.c 6 (po ay 256),.c 7 (.slice ((some ⟨ay,256,none⟩)) 256 256),.c 8 (.string (strOfNums ((bn h.1).drop 256))),tS 9 (strOfNums ((bn h.1).take 256)) (strOfNums ((bn h.1).drop 256)) (by omega),.k 2 (.string ((strOfNums ((bn h.1).take 256))++(strOfNums ((bn h.1).drop 256))))] [0] [0,1,2,3,4,5] [(2,7,1,3),(0,0,7,7)] aA ?_ fun W3 aV=>?_))
 refine⟨?_,?_,?_,?_,?_,?_,trivial⟩
 exact xs4 rfl id fun cx=>jn (n:=2) (sz:=256) (m:=0) (q:=0) rfl (by kernel_rfl) (cx.ou 1) (cx.co _) (by omega) (by omega) (by omega)
 exact xs4 rfl id fun cx=>jL (n:=256) (e:=5) rfl (by kernel_rfl) (by kernel_rfl) (cx.an 0)
 exact xs4 rfl id fun cx=>tD (e:=5) (off:=0) (xs:=bn h.1) (ys:=(bn h.1).take 256) rfl (by kernel_rfl) (by kernel_rfl) (by kernel_rfl) (cx.an 1) (cx.bi 0 rfl) (by rw[List.drop_zero]) (by rw[gO,h.2];decide)
 exact xs4 rfl id fun cx=>jn (n:=2) (sz:=256) (m:=1) (q:=256) rfl (by kernel_rfl) (cx.ou 1) (cx.co _) (by omega) (by omega) (by omega)
 exact xs4 rfl id fun cx=>jL (n:=256) (e:=5) rfl (by kernel_rfl) (by kernel_rfl) (cx.an 3)
 exact xs4 rfl id fun cx=>tD (e:=5) (off:=256) (xs:=bn h.1) (ys:=(bn h.1).drop 256) rfl (by kernel_rfl) (by kernel_rfl) (by kernel_rfl) (cx.an 4) (cx.bi 0 rfl) (by rw[List.take_of_length_le];rw[List.length_drop,gO,h.2];decide) (by rw[gO,h.2];decide)
 refine aa (wp_ret ?_)
 refine bpr (.string ((strOfNums ((bn h.1).take 256))++(strOfNums ((bn h.1).drop 256)))) (ag Tryz.results88 rpt) ?_
 exact Ret.of (by rw[Be]) aV.ext
end
section
open Go.RowKit
def qt(xs:List Value)(off:Nat):List Value->List Value
 | []=>xs
 |v::l=>qt (xs.set off v) (off+1) l
theorem sV:∀(vs A B C:List Value),B.length=vs.length->qt (A++(B++C)) A.length vs=A++(vs++C)
 | [],A,B,C,h=>by
   obtain rfl:B=[]:=List.eq_nil_of_length_eq_zero h
   rfl
 |v::vs,A,[],C,h=>by simp at h
 |v::vs,A,b::B,C,h=>by
  rw[qt]
  have e:(A++(b::B++C)).set A.length v=(A++[v])++(B++C):=by simp
  have e2:A.length+1=(A++[v]).length:=by simp
  rw[e,e2,sV vs (A++[v]) B C (by simpa using h)]
  simp
theorem ES{T:Type}{f:T->List Value}{sz:Nat}(hf:∀t,(f t).length=sz){ts:List T}{m:Nat}(h:m<ts.length)(t:T):qt (ts.flatMap f) (m*sz) (f t)=(ts.set m t).flatMap f:=by
 have hl:∀l:List T,(l.flatMap f).length=l.length*sz:=fun l=>by
  induction l with
  |nil=>simp
  |cons a l ih=>rw[List.flatMap_cons,List.length_append,ih,hf,List.length_cons,Nat.add_mul];omega
 have e:ts=ts.take m++(ts[m]::ts.drop (m+1)):=by rw[<-List.drop_eq_getElem_cons h,List.take_append_drop]
 have e2:ts.set m t=ts.take m++(t::ts.drop (m+1)):=by rw[List.set_eq_take_append_cons_drop,if_pos h]
 have e3:m*sz=((ts.take m).flatMap f).length:=by rw[hl,List.length_take,Nat.min_eq_left (by omega)]
 have e4:ts.flatMap f=(ts.take m).flatMap f++(f ts[m]++(ts.drop (m+1)).flatMap f):=by
  conv=>lhs;rw[e]
  rw[List.flatMap_append,List.flatMap_cons]
 rw[e2,e4,List.flatMap_append,List.flatMap_cons,e3,sV _ _ _ _ (by rw[hf,hf])]
section
variable{P:Program}{ops:Array Oper}{L:List Nat}{a0:Act}{w0:World}{bor:List Nat}{X0:List Ent}{us cr kl:List (List Nat)}
 {D:Nat->(Tmp->Value)->(Tmp->Value)->(Nat->Ent)->Prop}{i:Nat}{o:Oper}{ρ:Operand->Value}{β:Tmp->Value}{W:World}{X:Nat->Ent}
theorem rT{g e sz n c:Nat}:∀(vs:List Value) (m i:Nat) (xs:List Value) (W:World),W.ownsRow 0 e sz (.slice (some ⟨g,0,none⟩) n c) n xs->m+i+vs.length<=n*sz->(∀v∈vs,v.oneCell'=true)->
  ∃W',(storeCells ⟨g,m,none⟩ vs i).run P W= .ok () W'/\Upd [g] W W'/\W'.ownsRow 0 e sz (.slice (some ⟨g,0,none⟩) n c) n (qt xs (m+i) vs):=by
 intro vs
 induction vs with
 |nil=>intro m i xs W hb _ _;exact⟨W,rfl,Upd.refl _ _,hb⟩
 |cons v vs ih=>
  intro m i xs W hown hle h1
  simp only[List.length_cons] at hle
  have hlen:xs.length=n*sz:=hown.1
  have hcell:W.cell? ⟨g,m+i,none⟩=some (xs[m+i]'(by omega)):=by
   rw[hown.cellAt (m+i) (by omega)]
   exact List.getElem?_eq_getElem (by omega)
  have hfz:=hown.frozenAt (m+i)
  have be:=(hown.stored (m+i) v).1
  obtain⟨W',h2,h3,h4⟩:=ih m (i+1) (xs.set (m+i) v) (W.setCell ⟨g,m+i,none⟩ v) be (by omega) (fun x hx=>h1 x (by simp[hx]))
  refine⟨W',?_,((Upd.refl [g] W).set (.inl (by simp)) v).trans h3,h4⟩
  unfold storeCells
  have hv:=h1 v (by simp)
  have fM:(store ((⟨g,m,none⟩:Addr).add i) v).run P W= .ok () (W.setCell ⟨g,m+i,none⟩ v):=by
   rw[Addr.add_lit]
   unfold store
   cases v<;>first|(simp[Value.oneCell'] at hv;done)|(simp[Sem.run,hcell,hfz])
  simp only[Sem.run_bind,fM,Result.andThen_ok,h2]
theorem r6{t e sz k:Nat}{x y:Operand}{A:Option Addr}{n c m q q':Nat}{v:Value}{xs:List Value}(h:o.op= .store t x y)(hx:ρ x= .pointer (some ((ad A).add m)))(hy:ρ y=v)(hz:szP P t=some k)(hn:v.cells.size=k)
  (h1:v.cells.toList.all Value.oneCell'=true) (cx:CtxV ops L a0 w0 bor X0 us D i ρ β W X) (hX:X q=eO e sz (.slice A n c) n xs) (hu:(atV us i).contains q=true) (hm:m+k<=n*sz) (hk0:0<k) (hd:o.dst=none){xs':List Value}(jG:qt xs m v.cells.toList=xs')
  (hc:atV cr i=[q']) (hk:atV kl i=[q]) (hD:∀(b a:Tmp->Value) (X':Nat->Ent),(∀t,b t=ρ (.tmp t))->(∀t,a t=β t)->X' q'=eO e sz (.slice A n c) n xs'->D i b a X'):am P o ρ W (bW cr kl D i o.dst ρ β W X):=by
 subst jG
 have hok:=cx.ok q hu
 rw[hX] at hok
 have hown:W.ownsRow 0 e sz (.slice A n c) n xs:=hok.holds
 obtain⟨g,rfl⟩:∃g,A=some ⟨g,0,none⟩:=by
  rcases hown.2 with ⟨hv,hm0⟩|⟨g,cap,cur,hv,_⟩
  subst hm0;rw[Nat.zero_mul] at hm;omega
  injection hv with h1 h2 h3;exact⟨g,h1⟩
 have hadd:(ad (some ⟨g,0,none⟩)).add m=⟨g,m,none⟩:=by rw[ad,Option.getD_some,Addr.add_lit,Nat.zero_add]
 obtain⟨W',h2,h3,h4⟩:=rT (P:=P) v.cells.toList m 0 xs W hown (by simp[hn];exact hm) (fun u hu=>List.all_eq_true.1 h1 u hu)
 have hrun:(execOp ρ o).run P W= .ok .skip W':=by
  unfold execOp;rw[h]
  simp only[hx,hy,hadd,Instr.storeAt,Instr.sureAddr,storeVar,Sem.run_bind,Sem.run_pure,Result.andThen_ok,dl hz,hn,ne_eq,not_true_eq_false,if_false]
  rw[h2]
  rfl
 rw[Nat.add_zero] at h4
 refine am.skip hrun ⟨[eO e sz (.slice (some ⟨g,0,none⟩) n c) n (qt xs m v.cells.toList)],by rw[hc];rfl,⟨?_,fun e' he=>?_,List.pairwise_singleton _ _⟩,fun b a X' hs hv hb' hbv hx' hN=>hD b a X' (fun t=>hs t (by rw[hd];simp)) (fun t=>hb' t (by rw[hd];simp)) ?_⟩
 rw[hk]
 simp only[List.flatMap_cons,List.flatMap_nil,List.append_nil,hX]
 exact h3.mono (fun k _ hk'=>by simp at hk';subst hk';simp[eO,Value.ownBlock])
 rw[List.mem_singleton] at he
 subst he
 refine⟨h4,gg _ _ _ _ _,fun k hk'=>?_⟩
 have hkg:k=g:=by simpa[eO,Value.ownBlock] using hk'
 subst hkg
 refine⟨.inl ?_,eV h4 k (by simp[Value.ownBlock])⟩
 rw[hk]
 simp[hX,eO,Value.ownBlock]
 rw[hc] at hN
 exact(List.cons.inj hN).1
end
end
section
open Go.RowKit
def rdT(x:ShD):H5:=x.ws.getLast?.getD x.safe
def gz:ShD:=⟨z5,[]⟩
def rdS(D:DkM)(n:Int):ByteArray×Int:=if D.off=true then (⟨#[]⟩,24) else if 0<=n/\n<(D.pgs.length:Int) then ((rdT (D.pgs.getD n.toNat gz)).1,0) else (⟨#[]⟩,22)
theorem mD(t:ShT):(shC t)[512]? =some (.slice t.A t.ws.length t.c):=by
 rw[shC,List.getElem?_append_right (by rw[cW];exact Nat.le_refl _),cW];rfl
theorem rB(h:H5):∀v∈hvC h,v.oneCell'=true:=fun v hv=>by
 obtain⟨x,_,rfl⟩:=List.mem_map.1 hv
 rfl
theorem Kk(t:ShT):∀v∈shC t,v.oneCell'=true:=fun v hv=>by
 rcases List.mem_append.1 hv with h|h
 exact rB _ v h
 rw[List.mem_singleton] at h;subst h;rfl
theorem Cd{Ps:List ShT}{k:Nat}(h:k<Ps.length):∃t,Ps[k]? =some t:=⟨_,List.getElem?_eq_getElem h⟩
theorem IC{Ps:List ShT}{l:List ShD}(h:Ps.map d8=l){k:Nat}{t:ShT}(ht:Ps[k]? =some t):l.getD k gz=d8 t:=by
 rw[<-h,List.getD_eq_getElem?_getD,List.getElem?_map,ht];rfl
theorem Ee{D:DkM}{k:Nat}{t:ShT}{Ps:List ShT}(ho:D.off=false)(h:Ps.map d8=D.pgs)(ht:Ps[k]? =some t):rdS D (k:Int)=((rdT (d8 t)).1,0):=by
 have hl:D.pgs.length=Ps.length:=by rw[<-h,List.length_map]
 have hk:=(List.getElem?_eq_some_iff.1 ht).1
 rw[rdS,if_neg (by rw[ho];decide),if_pos ⟨by omega,by omega⟩,Int.toNat_natCast,IC h ht]
theorem Hf{t:ShT}(h:¬(0:Int)<(t.ws.length:Int)):rdT (d8 t)=t.s:=by
 have:t.ws=[]:=List.eq_nil_of_length_eq_zero (by omega)
 rw[rdT,d8];dsimp only;rw[this];rfl
theorem x5{t:ShT}{k:Nat}{x:H5}(h:t.ws[k]? =some x)(hk:t.ws.length=k+1):rdT (d8 t)=x:=by
 rw[rdT,d8];dsimp only;rw[List.getLast?_eq_getElem?,hk,Nat.add_sub_cancel,h];rfl
theorem Jb(b:Nat)(D:DkM)(PA:Option Addr)(Pc:Nat)(GA:Option Addr)(gc:Nat)(Ps:List ShT)(n:Int)(w:World)(hB:DkO w b D PA Pc GA gc Ps)(hw:∀x∈D.pgs,x.ws.length<=1000000000):
  Calls Tryz.prog 37 #[po b 0,.int .i64 n] w (Ret (.tuple #[.string (rdS D n).1,.int .i64 (rdS D n).2]) w):=by
 go_enter Tryz.func37,Tryz.ntmps37
 have ak:=St.start w
 refine wq (sqr (sqp [.k 4 (.string ⟨#[]⟩),.k 5 (vi 0)] ?_))
 refine aa (wq (wp_block (wq ?_)))
 obtain⟨onv,hon⟩:∃z,(!D.off)=z:=⟨_,rfl⟩
 refine sqr (sqp [.m 9 0] ?_)
 refine sqk (.bool onv) ak (fun cx=>⟨_,rz hon (IF b D PA Pc GA gc Ps _ (hB.ext cx.upd.to_ext)),(aw (cx.ou 9))⟩) fun W4 bb=>?_
 refine sqp [.k 11 (.bool (!(onv))),.m 8 11] ?_
 refine aa ?_
 rcases Bool.eq_false_or_eq_true (onv) with fD|fD
 refine wp_cond_false (show Act.eval _ _= .bool false from(congrArg Value.bool (by rw[fD];rfl))) (wq (sqr (sqp [.m 13 0,.m 14 1] ?_)))
 refine sqk (.bool ((decide (0<=n)&&decide (n<(D.pgs.length:Int))))) bb (fun cx=>⟨_,IB b D PA Pc GA gc Ps n _ (hB.ext cx.upd.to_ext),(aN (cx.ou 13) (cx.ou 14))⟩) fun w6 dL=>?_
 refine sqp [.k 16 (.bool (!((decide (0<=n)&&decide (n<(D.pgs.length:Int)))))),.m 12 16] ?_
 refine aa ?_
 rcases Bool.eq_false_or_eq_true ((decide (0<=n)&&decide (n<(D.pgs.length:Int)))) with f6|f6
 have i8:=f6
 simp only[zB] at i8
 obtain⟨L3,L5⟩:=i8
 refine wp_cond_false (show Act.eval _ _= .bool false from(congrArg Value.bool (by rw[f6];rfl))) (wp_skip (av (aa (wq ?_))))
 have hPl:D.pgs.length=Ps.length:=by rw[<-hB.ab,List.length_map]
 have hnn:0<=n/\n<(D.pgs.length:Int):=by have h_:=f6;simp at h_;omega
 obtain⟨k,rfl⟩:∃k:Nat,n=(k:Int):=⟨n.toNat,by omega⟩
 obtain⟨t,htk⟩:=Cd (Ps:=Ps) (k:=k) (by omega)
 have htm:=List.mem_of_getElem? htk
 have hwt:t.ws.length<=1000000000:=hw _ (by rw[<-hB.ab];exact List.mem_map.2 ⟨t,htm,rfl⟩)
 refine sqr (sqp [.m 17 0,.k 18 (vp b),.k 19 (vp b)] ?_)
 refine sql (.slice PA D.pgs.length Pc) dL (fun cx=>ae rfl (by kernel_rfl) (cx.ou 19) ((Blk.ext hB.blkL cx.upd.to_ext).cell 0)) ?_
 refine sqp [.m 21 1] ?_
 refine sql (.pointer (some ((ad PA).add (k*513)))) dL (fun cx=>aG (e:=144) (m:=k) (sz:=513) rfl (by kernel_rfl) (by kernel_rfl) (cx.ou 20) (cx.ou 21) (by omega) (by omega) (hB.at_.ext cx.upd.to_ext) (bp (sz:=513) dq (by decide) (by omega))) ?_
 refine sql (.agg (shC t).toArray) dL (fun cx=>bQ (f:=shC) (m:=k) (sz:=513) (off:=0) (n:=513) rfl (by kernel_rfl) (by kernel_rfl) (cx.ou 22) (List.size_toArray.trans (dq t)) dq (hB.at_.ext cx.upd.to_ext) htk (fun k hk=>by rw[List.getElem?_toArray,Nat.zero_add])) ?_
 refine d9 (fun x_=>pb x_) (fun fk=>vp fk) (fun fk=>eB fk 144 (shC sh0).toArray) dL (by
   refine svA fun d a W X cx=>?_
   exact cZ (cs:=(shC sh0).toArray) rfl (by kernel_rfl) rfl rfl (fun _ _ _ _ _=> .intro)) fun fk uD eG=>?_
 refine sqc (eB fk 144 (shC t).toArray) 0 eG (by
   refine svA fun d a W X cx=>?_
   exact wL (n:=513) rfl (cx.ou 6) (show _=Value.agg (shC t).toArray from(cx.ou 23)) (by kernel_rfl) (by simp[dq]) (by simp[dq]) (Kk t) cx (cx.init 0 _ rfl) rfl rfl rfl rfl (fun _ _ _ _ _=>id)) fun xc dC=>?_
 refine aa (wq (wq (sqr (sqp [.k 24 (po fk 512)] ?_))))
 refine sql (.slice t.A t.ws.length t.c) dC (fun cx=>ae rfl (by kernel_rfl) (cx.ou 24) (((cx.bi 0 rfl).cell 512).trans ((List.getElem?_toArray ..).trans (mD t)))) ?_
 refine sqp [.k 26 (vi ((t.ws.length:Int))),.m 7 26] ?_
 refine aa (wq (sqr (sqp [.m 27 7,.k 28 (.bool (decide (0<(t.ws.length:Int))))] ?_)))
 refine aa (wds (fun Ie NS=>?_) fun Ie NS=>?_)
 refine wq ?_
 obtain⟨k2,hk2⟩:∃k2:Nat,t.ws.length=k2+1:=⟨t.ws.length-1,by have h_:=Ie;simp at h_;omega⟩
 obtain⟨x,hxk⟩:∃x,t.ws[k2]? =some x:=⟨_,List.getElem?_eq_getElem (by omega)⟩
 refine sqr (sqp [.k 29 (po fk 512)] ?_)
 refine sql (.slice t.A t.ws.length t.c) dC (fun cx=>ae rfl (by kernel_rfl) (cx.ou 29) (((cx.bi 0 rfl).cell 512).trans ((List.getElem?_toArray ..).trans (mD t)))) ?_
 refine sqp [.m 31 7,sJ 32 ((t.ws.length:Int)-1) (k2:Int) (by omega) (by omega)] ?_
 refine sql (.pointer (some ((ad t.A).add (k2*512)))) dC (fun cx=>aG (e:=142) (m:=k2) (sz:=512) rfl (by kernel_rfl) (by kernel_rfl) (cx.ou 30) (cx.ou 32) (by omega) (by omega) ((hB.ws t htm).ext cx.upd.to_ext) (bp (sz:=512) cW (by decide) (by omega))) ?_
 refine sql (.agg (hvC x).toArray) dC (fun cx=>bQ (f:=hvC) (m:=k2) (sz:=512) (off:=0) (n:=512) rfl (by kernel_rfl) (by kernel_rfl) (cx.ou 33) (List.size_toArray.trans (cW _)) cW ((hB.ws t htm).ext cx.upd.to_ext) hxk (fun k hk=>by rw[List.getElem?_toArray,Nat.zero_add])) ?_
 refine sqk (.string x.1) dC (fun cx=>⟨_,uB x _,(aw (cx.ou 34))⟩) fun zd eH=>?_
 refine sqp [.m 4 35,.k 5 (vi 0)] ?_
 refine aa (wp_ret (aj ?_))
 refine bpr (.tuple #[.string x.1,vi 0]) (aO Tryz.results37 rpt rpt) ?_
 exact Ret.of (by rw[Ee (by have h_:=hon.trans fD;simpa using h_) hB.ab htk,x5 hxk hk2]) eH.ext
 refine wp_skip (aa (wq (sqr (sqp [.k 36 (vp fk)] ?_))))
 refine sql (.agg (hvC t.s).toArray) dC (fun cx=>ce (n:=512) rfl (by kernel_rfl) (by kernel_rfl) (cx.ou 36) (cx.bi 0 rfl) (by rw[List.size_toArray,dq];decide) (by rw[List.drop_zero,shC,List.take_left' (cW _)])) ?_
 refine sqk (.string t.s.1) dC (fun cx=>⟨_,uB t.s _,(aw (cx.ou 37))⟩) fun E9 ir=>?_
 refine sqp [.m 4 38,.k 5 (vi 0)] ?_
 refine aa (wp_ret ?_)
 refine bpr (.tuple #[.string t.s.1,vi 0]) (aO Tryz.results37 rpt rpt) ?_
 exact Ret.of (by rw[Ee (by have h_:=hon.trans fD;simpa using h_) hB.ab htk,Hf (by simpa using Ie)]) ir.ext
 have i8:=f6
 simp only[zB] at i8
 refine wp_cond_true (show Act.eval _ _= .bool true from(congrArg Value.bool (by rw[f6];rfl))) (wq (sqr (sqp [.k 4 (.string ⟨#[]⟩),.k 5 (vi 22)] ?_)))
 refine aa (wp_ret (ba (aj ?_)))
 refine bpr (.tuple #[.string ⟨#[]⟩,vi 22]) (aO Tryz.results37 rpt rpt) ?_
 exact Ret.of (by rw[rdS,if_neg (by have h_:=hon.trans fD;simpa using h_),if_neg (by have h_:=f6;simp at h_;omega)]) dL.ext
 refine wp_cond_true (show Act.eval _ _= .bool true from(congrArg Value.bool (by rw[fD];rfl))) (wq (sqr (sqp [.k 4 (.string ⟨#[]⟩),.k 5 (vi 24)] ?_)))
 refine aa (wp_ret (ba (aj ?_)))
 refine bpr (.tuple #[.string ⟨#[]⟩,vi 24]) (aO Tryz.results37 rpt rpt) ?_
 exact Ret.of (by rw[rdS,if_pos (by have h_:=hon.trans fD;simpa using h_)]) bb.ext
theorem DT(b:Nat)(D:DkM)(n:Int)(w:World)(h:ju w b D)(hw:∀x∈D.pgs,x.ws.length<=1000000000):Calls Tryz.prog 37 #[po b 0,.int .i64 n] w (Ret (.tuple #[.string (rdS D n).1,.int .i64 (rdS D n).2]) w):=by
 obtain⟨PA,Pc,GA,gc,Ps,h1⟩:=h
 exact Jb b D PA Pc GA gc Ps n w h1 hw
end
section
open Go.RowKit
theorem Bi{f:FuncId}{a a':Array Value}{w:World}{Q:Ending->World->Prop}(h:a'=a)(hc:Calls Tryz.prog f a w Q):Calls Tryz.prog f a' w Q:=h ▸ hc
section
variable{P:Program}{ops:Array Oper}{L:List Nat}{a0:Act}{w0:World}{bor:List Nat}{X0:List Ent}{us cr kl:List (List Nat)}
 {D:Nat->(Tmp->Value)->(Tmp->Value)->(Nat->Ent)->Prop}{i:Nat}{o:Oper}{ρ:Operand->Value}{β:Tmp->Value}{W:World}{X:Nat->Ent}
theorem CtxV.ownF{q:Nat}{E:Ent}(cx:CtxV ops L a0 w0 bor X0 us D i ρ β W X)(hX:X q=E)(hu:(atV us i).contains q=true):∀k∈E.fp,k∈bor\/w0.heap.size<=k:=fun k hk=>by
 subst hX;exact((cx.ok q hu).own k hk).1
theorem wV{t e u t':TypeId}{x y:Operand}{g off n c q q':Nat}{s:ByteArray}{xs xs':List Value}(h:o.op= .call {callee:= .builtin .copy,args:=#[x,y],argTypes:=#[t,u]})(ht:P.underlying t=some (.slice e))(hz:szP P e=some 1)
  (hx:ρ x= .slice (some ⟨g,off,none⟩) n c) (hy:ρ y= .string s)
  (cx:CtxV ops L a0 w0 bor X0 us D i ρ β W X) (hX:X q=eB g t' xs.toArray) (hu:(atV us i).contains q=true) (hn:off+s.size<=xs.length) (hs:s.size<=n) (hM:xs.take off++((bn s).map (Value.int .u8)++xs.drop (off+s.size))=xs')
  (hc:atV cr i=[q']) (hk:atV kl i=[q]) (hD:∀(a f:Tmp->Value) (X':Nat->Ent),(∀t,o.dst≠some t->a t=ρ (.tmp t))->(∀t,o.dst≠some t->f t=β t)->(∀d,o.dst=some d->a d= .int .i64 s.size)->X' q'=eB g t' xs'.toArray->D i a f X'):am P o ρ W (bW cr kl D i o.dst ρ β W X):=by
 have hok:=cx.ok q hu
 rw[hX] at hok
 have hb:Blk W g t' xs.toArray:=hok.holds
 have hnl:((bn s).map (Value.int .u8)).length=s.size:=by rw[List.length_map,gO]
 obtain⟨W',hr,hup,hb'⟩:=ob (P:=P) ((bn s).map (Value.int .u8)) off 0 _ W hb (by rw[List.size_toArray,hnl];omega) (fun v hv=>by obtain⟨z,_,rfl⟩:=List.mem_map.1 hv;rfl)
 have hputs:nB xs.toArray (off+0) ((bn s).map (Value.int .u8))=xs'.toArray:=by
  rw[<-hM]
  have hp:∀(ys pre mid suf:List Value),ys.length=mid.length->nB (pre++(mid++suf)).toArray pre.length ys=(pre++(ys++suf)).toArray:=by
   intro ys
   induction ys with
   |nil=>intro pre mid suf hl;rw[List.eq_nil_of_length_eq_zero (l:=mid) hl.symm];rfl
   |cons y ys ih=>
    intro pre mid suf hl
    cases mid with
    |nil=>simp at hl
    |cons z mid=>
     rw[nB]
     have e:(pre++(z::mid++suf)).toArray.setIfInBounds pre.length y=((pre++[y])++(mid++suf)).toArray:=by simp
     rw[e,show pre.length+1=(pre++[y]).length by simp,ih (pre++[y]) mid suf (by simpa using hl)]
     simp
  have e1:xs=xs.take off++((xs.drop off).take s.size++xs.drop (off+s.size)):=by
   rw[<-List.drop_drop,List.take_append_drop,List.take_append_drop]
  have e2:(xs.take off).length=off:=by rw[List.length_take];omega
  have h2:=hp ((bn s).map (Value.int .u8)) (xs.take off) ((xs.drop off).take s.size) (xs.drop (off+s.size)) (by rw[hnl,List.length_take,List.length_drop];omega)
  rw[<-e1,e2] at h2
  exact h2
 rw[hputs] at hb'
 have hmin:Nat.min s.size n=s.size:=Nat.min_eq_left hs
 have hrun:(execOp ρ o).run P W= .ok (.value (.int .i64 s.size)) W':=by
  unfold execOp;rw[h]
  cases hq:P.info? e with
  |none=>simp[szP,hq] at hz
  |some inf=>
   have htk:List.take s.size (List.map (fun b:UInt8=>Value.int IntKind.u8 (b.toNat:Int)) s.data.toList)=(bn s).map (Value.int .u8):=by
    rw[List.take_of_length_le (by rw[List.length_map,Array.length_toList];exact Nat.le_refl _),bn,List.map_map]
    rfl
   simp[hx,hy,resolve,invoke,builtin,Builtin.copy_,run_underlying ht,Builtin.lenOf,Builtin.firstCells,sizeOf,typeInfo,hq,hmin]
   rw[htk,hr]
   simp[Result.andThen,goInt]
 refine am.value hrun ⟨[eB g t' xs'.toArray],by rw[hc];rfl,⟨?_,fun e' he=>?_,List.pairwise_singleton _ _⟩,fun a f X' hs' hv hb' hbv hx' hN=>hD a f X' hs' hb' (fun d hd=>hv d hd) ?_⟩
 rw[hk]
 simp only[List.flatMap_cons,List.flatMap_nil,List.append_nil,hX]
 exact hup
 rw[List.mem_singleton] at he
 subst he
 refine⟨hb',d5 _ _ _,fun k hk'=>?_⟩
 have hkb:k=g:=by simpa[eB] using hk'
 subst hkb
 exact⟨.inl (by rw[hk];simp[hX,eB]),hb'.lt⟩
 rw[hc] at hN
 exact(List.cons.inj hN).1
end
def sq(s:ByteArray):List Value:=(bn (s.extract 0 256)++List.replicate 256 0).map (Value.int .u8)
theorem tM{h:H5}:(h.1.extract 0 256).size=256:=by rw[ByteArray.size_extract,h.2];rfl
theorem BB{h:H5}:(h.1.extract 256 h.1.size).size=256:=by rw[ByteArray.size_extract,h.2];rfl
theorem yD(h:H5):(sq h.1).length=512:=by rw[sq,List.length_map,List.length_append,gO,tM,List.length_replicate]
theorem Kw(h:H5):(((List.replicate 512 (0:Int)).map (Value.int .u8)).take 0++((bn (h.1.extract 0 256)).map (Value.int .u8)++((List.replicate 512 (0:Int)).map (Value.int .u8)).drop (0+(h.1.extract 0 256).size)))=sq h.1:=by
 rw[tM,List.take_zero,List.nil_append,<-List.map_drop,List.drop_replicate,<-List.map_append];rfl
theorem Kh(h:H5):((sq h.1).take 256++((bn (h.1.extract 256 h.1.size)).map (Value.int .u8)++(sq h.1).drop (256+(h.1.extract 256 h.1.size).size)))=hvC h:=by
 have hl:(bn (h.1.extract 0 256)).length=256:=by rw[gO,tM]
 rw[BB,List.drop_of_length_le (by rw[yD];exact Nat.le_refl _),List.append_nil,sq,<-List.map_take,List.take_left' hl,<-List.map_append,<-yY,hvC]
 have e:h.1.extract 0 256++h.1.extract 256 h.1.size=h.1:=by
  apply gX
  rw[cU,gh,gh,h.2,List.drop_zero,Nat.sub_zero,List.take_of_length_le (l:=(bl h.1).drop 256) (by rw[List.length_drop,bS,h.2];decide),List.take_append_drop]
 rw[e]
theorem EH(h:H5)(w:World):
  Calls Tryz.prog 191 #[.string h.1] w (Ret (.agg (hvC h).toArray) w):=by
 go_enter Tryz.func191,Tryz.ntmps191
 have ak:=St.start w
 refine wq (sqr ?_)
 refine d9 (fun x_=>pb x_) (fun bA=>vp bA) (fun bA=>eB bA 142 ((List.replicate 512 (0:Int)).map (Value.int .u8)).toArray) ak (by
   refine svA fun f b W X cx=>?_
   exact cZ (cs:=((List.replicate 512 (0:Int)).map (Value.int .u8)).toArray) rfl (by kernel_rfl) rfl rfl (fun _ _ _ _ _=> .intro)) fun bA W1 aA=>?_
 refine aa (wq (sqr ?_))
 refine d9 (fun x_=>pb x_) (fun cT=>vp cT) (fun cT=>eB cT 142 ((List.replicate 512 (0:Int)).map (Value.int .u8)).toArray) aA (by
   refine svA fun f b W X cx=>?_
   exact cZ (cs:=((List.replicate 512 (0:Int)).map (Value.int .u8)).toArray) rfl (by kernel_rfl) rfl rfl (fun _ _ _ _ _=> .intro)) fun cT W2 bC=>?_
 refine aa (wq (sqr (sqp [.k 4 (vi 256)] ?_)))
 refine aa (wq ?_)
 have hz5:=h.2
 refine aD [0,1,0,0,12,31] [[],[],[],[],[],[1]] [[],[],[],[],[],[2]] [[],[],[],[],[],[1]] [.c 5 (vp cT),.c 6 (.slice ((some ⟨cT,0,none⟩)) 256 256),.k 7 (.string h.1),.k 8 (vi 256),.c 9 (.string (h.1.extract 0 256)),.a 10] (fun ix d b X=>match ix with|0|1|2|3|4=>True|5=>d 10=vi (((h.1.extract 0 256).size:Int))/\X 2=eB cT 142 (sq h.1).toArray|_=>True) [0,2] [0,1,4,5] [(5,0,6,11)] bC ?_ ?_ ?_
 exact fun ix _ _ _ _ _ _ hs hb hx h=>match ix,h with
 |5,h=>by dsimp only;rw[<-hs 10 rfl,<-hx 2 rfl];exact h
 |0,_|1,_|2,_|3,_|4,_|_+6,_=>trivial
 refine⟨?_,?_,?_,?_,trivial⟩
 exact xs4 rfl id fun cx=>jn (n:=2) (sz:=256) (m:=0) (q:=0) rfl (by kernel_rfl) (cx.ou 3) (cx.co _) (by omega) (by omega) (by omega)
 exact xs4 rfl id fun cx=>jL (n:=256) (e:=5) rfl (by kernel_rfl) (by kernel_rfl) (cx.an 0)
 exact xs4 rfl id fun cx=>gG (l:=256) rfl (by kernel_rfl) (cx.an 2) (cx.an 3) (by omega) (by omega)
 refine svA fun f b W X cx=>?_
 exact wV (e:=5) (off:=0) rfl (by kernel_rfl) (by kernel_rfl) (cx.an 1) (cx.an 4) cx (cx.init 1 _ rfl) rfl (by rw[tM];simp) (by rw[tM];decide) (Kw h) rfl rfl (fun d g X' hs hb hv hx=>⟨hv 10 rfl,hx⟩)
 intro d b X W4 hD bb fr aC
 simp only[exq 2 ((dTn (hD 5 lq)).2)] at bb
 simp only[ed 10 ((dTn (hD 5 lq)).1)] at aC
 clear hD;subst aC;clear d b X
 refine aa (wq (aD [0,1,0,0,12,31] [[],[],[],[],[],[1]] [[],[],[],[],[],[2]] [[],[],[],[],[],[1]] [.c 11 (po cT 256),.c 12 (.slice ((some ⟨cT,256,none⟩)) 256 256),.k 13 (.string h.1),.k 14 (vi 256),.c 15 (.string (h.1.extract 256 h.1.size)),.a 16] (fun ix d b X=>match ix with|0|1|2|3|4=>True|5=>d 16=vi (((h.1.extract 256 h.1.size).size:Int))/\X 2=eB cT 142 (hvC h).toArray|_=>True) [0,2] [0,1,4,5] [(11,0,6,17)] bb ?_ ?_ ?_))
 exact fun ix _ _ _ _ _ _ hs hb hx h=>match ix,h with
 |5,h=>by dsimp only;rw[<-hs 16 rfl,<-hx 2 rfl];exact h
 |0,_|1,_|2,_|3,_|4,_|_+6,_=>trivial
 refine⟨?_,?_,?_,?_,trivial⟩
 exact xs4 rfl id fun cx=>jn (n:=2) (sz:=256) (m:=1) (q:=256) rfl (by kernel_rfl) (cx.ou 3) (cx.co _) (by omega) (by omega) (by omega)
 exact xs4 rfl id fun cx=>jL (n:=256) (e:=5) rfl (by kernel_rfl) (by kernel_rfl) (cx.an 0)
 exact xs4 rfl id fun cx=>gF (l:=256) rfl (by kernel_rfl) (cx.an 2) (cx.an 3) (by omega) (by omega)
 refine svA fun f b W X cx=>?_
 exact wV (e:=5) (off:=256) rfl (by kernel_rfl) (by kernel_rfl) (cx.an 1) (cx.an 4) cx (cx.init 1 _ rfl) rfl (by rw[BB];rw[yD];decide) (by rw[BB];decide) (Kh h) rfl rfl (fun d g X' hs hb hv hx=>⟨hv 16 rfl,hx⟩)
 intro d b X W5 hD aR fr aC
 simp only[exq 2 ((dTn (hD 5 lq)).2)] at aR
 simp only[ed 16 ((dTn (hD 5 lq)).1)] at aC
 clear hD;subst aC;clear d b X
 refine aa (wq (sqr ?_))
 refine sql (.agg (hvC h).toArray) aR (fun cx=>Cm (n:=512) rfl (by kernel_rfl) (by kernel_rfl) (cx.ou 3) (cx.bi 1 rfl) (by simp[cW])) ?_
 refine sqc (eB bA 142 (hvC h).toArray) 0 aR (by
   refine svA fun f b W X cx=>?_
   exact wL (n:=512) rfl (cx.ou 2) (show _=Value.agg (hvC h).toArray from(cx.ou 17)) (by kernel_rfl) (by simp[cW]) (by simp[cW]) (rB h) cx (cx.init 0 _ rfl) rfl rfl rfl rfl (fun _ _ _ _ _=>id)) fun W7 aY=>?_
 refine aa (wp_ret ?_)
 refine bpr (.agg (hvC h).toArray) (bD (n:=512) Tryz.results191 rfl (by kernel_rfl) (by kernel_rfl) (aY.blk 0 rfl) (by simp[cW])) ?_
 exact Ret.of rfl aY.ext
theorem Bd(b:Nat)(D:DkM)(er:Int)(D2:DkM->DkM)(f1 f2:FuncId)(cap1 cap2:Array Value)(fp:List Nat)(w:World)(hB:(eDk b D fp).holds w)(hlt:∀k∈fp,k<w.heap.size)(hcf1:gN Tryz.prog f1=true)(hcf2:gN Tryz.prog f2=true)(hf1:∀W,Upd fp w W->ju W b D->Calls Tryz.prog f1 cap1 W (Ret (.int .i64 er) W))(hf2:er=0->∀W fp1,Upd fp w W->(eDk b {D with left:=cS D.left} fp1).holds W->(∀k∈fp1,k<W.heap.size)->(∀k∈fp1,k∈fp\/w.heap.size<=k)->Calls Tryz.prog f2 cap2 W (l7 b (D2 {D with left:=cS D.left}) fp1 W)):
  Calls Tryz.prog 126 #[po b 0,.func (.func f1) #[] cap1,.func (.func f2) #[] cap2] w (bU b (opD D er D2) fp w):=by
 have st1:St w fp [eDk b D fp] w:=St.lend hB (dS _ _ _) hlt
 go_enter Tryz.func126,Tryz.ntmps126
 have ak:=st1
 refine wq (sqr (sqp [.k 6 (vi 0)] ?_))
 refine aa (wq (wq ?_))
 obtain⟨onv,hon⟩:∃z,(!D.off)=z:=⟨_,rfl⟩
 refine sqr (sqp [.m 8 0] ?_)
 refine sqk (.bool onv) ak (fun cx=>⟨_,rz hon (l8 b D _ (fa (CtxV.holdF cx (cx.init 0 _ rfl) rfl))),(aw (cx.ou 8))⟩) fun W3 aV=>?_
 refine sqp [.k 10 (.bool (!(onv)))] ?_
 refine aa ?_
 rcases Bool.eq_false_or_eq_true (onv) with eU|eU
 ·refine wp_cond_false (show Act.eval _ _= .bool false from(congrArg Value.bool (by rw[eU];rfl))) (wp_skip (aa (wq (wq (sqr (sqp [.m 11 1] ?_))))))
  refine sqv (vi er) aV (hH rfl rfl rfl rfl rfl (fun _ _ _ h=>h) fun c a W X cx=>⟨_,_,cL (f:=f1) (args:=#[]) (args':=#[]++cap1) rfl rfl (cx.ou 11) hcf1 jc (by rw[Array.empty_append]),Bi Array.empty_append (hf1 _ cx.upd (fa (CtxV.holdF cx (cx.init 0 _ rfl) rfl)))⟩) fun W7 aY=>?_
  refine sqp [.m 7 12] ?_
  refine aa (wq (sqr (sqp [.m 13 7,.k 14 (.bool (er != 0))] ?_)))
  refine aa (wbs (fun dm=>?_) fun dm=>?_)
  have gU:=bne_iff_ne.1 dm
  refine wq (sqr (sqp [.m 15 7,.m 6 15] ?_))
  refine aa (wp_ret (aj ?_))
  refine bpr (vi er) (ag Tryz.results126 rpt) ?_
  exact bU.of (R':=(D,er)) (by rw[opD,if_neg (by have h_:=hon.trans eU;simpa using h_),if_pos (by simpa using dm)]) aY
  have gU:=bne_eq_false_iff_eq.1 dm
  refine wp_skip (aa (wq (wq ?_)))
  have hD_:(eDk b D fp).holds W7:=(aY.ok _ (List.mem_singleton.2 rfl)).holds
  obtain⟨PA,Pc,GA,gc,Ps,Qs,hps,hsub,hfp,hap,hall⟩:=hD_
  have gl:St w fp [eB b 100 #[.slice PA D.pgs.length Pc,.slice GA D.log.size gc,vi ((D.fl:Int)),.bool D.off,.bool D.armed,vi D.left],eO 144 513 (.slice PA D.pgs.length Pc) D.pgs.length (Ps.flatMap shC),eO 5 1 (.slice GA D.log.size gc) D.log.size ((bn D.log).map (Value.int .u8)),eWs Qs] W7:=St.unpack aY hfp hall hap
  refine sqr (sqp [.m 16 0,.k 17 (vp b),.k 18 (po b 4)] ?_)
  refine au 0 gl ?_
  refine sqp [.m 20 19] ?_
  refine dY 20 [21,22,23,24,25] ?_ rfl (fun hq=>?_) ?_
  rotate_left
  refine sqp [.m 21 0,.k 22 (vp b),.k 23 (po b 5)] ?_
  refine au 0 gl ?_
  refine sqp [.k 25 (.bool (decide (D.left<=0)))] ?_
  exact sqe
  refine cY ?_
  refine sqp [sPa 26 D.armed (decide (D.left<=0))] ?_
  refine aa (wbs (fun fc=>?_) fun fc=>?_)
  have e9:=fc
  simp only[zB] at e9
  obtain⟨zn,zo⟩:=e9
  refine wq (sqr (sqp [.m 27 0,.k 28 (vp b),.k 29 (po b 3)] ?_))
  refine aX (n:=1) 0 #[.slice PA D.pgs.length Pc,.slice GA D.log.size gc,vi ((D.fl:Int)),.bool true,.bool D.armed,vi D.left] gl fun Fb jp=>?_
  refine aa (wq (sqr (sqp [.k 6 (vi 24)] ?_)))
  refine aa (wp_ret (aj ?_))
  refine bpr (vi 24) (ag Tryz.results126 rpt) ?_
  obtain⟨fp2,hk_⟩:=St.dk (L:=[]) (D:={D with off:=true}) (PA:=PA) (Pc:=Pc) (GA:=GA) (gc:=gc) (jp.pick [0,1,2,3] (by decide) rfl) hps hsub
  exact bU.of (R':=({D with off:=true},24)) (by rw[opD,if_neg (by have h_:=hon.trans eU;simpa using h_),if_neg (by simpa using dm),if_pos (by simpa using fc)]) hk_
  have e9:=fc
  simp only[zB] at e9
  refine wp_skip (aa (wq (sqr (sqp [.m 30 0,.k 31 (vp b),.k 32 (po b 5)] ?_))))
  refine au 0 gl ?_
  refine sqp [.k 34 (vi ((cS D.left))),.k 35 (vp b),.k 36 (po b 5)] ?_
  refine aX (n:=1) 0 #[.slice PA D.pgs.length Pc,.slice GA D.log.size gc,vi ((D.fl:Int)),.bool D.off,.bool D.armed,vi ((cS D.left))] gl fun qA dn=>?_
  refine aa (wq ?_)
  obtain⟨D1,hD1⟩:∃z,({D with left:=cS D.left}:DkM)=z:=⟨_,rfl⟩
  obtain⟨fp2,hk_40⟩:=St.dk (L:=[]) (D:={D with left:=cS D.left}) (PA:=PA) (Pc:=Pc) (GA:=GA) (gc:=gc) (dn.pick [0,1,2,3] (by decide) rfl) hps hsub
  simp only[List.nil_append] at hk_40
  rw[hD1] at hk_40 hf2
  have hf2:=hf2 (by simpa using dm)
  refine sqr (sqp [.m 37 2] ?_)
  refine bG (fun X_=>X_.fp) (.tuple #[]) (fun nr=>eDk b (D2 D1) nr) 0 hk_40 (by
    refine svA fun c a W X cx=>?_
    refine am.call (cL (f:=f2) (args:=#[]) (args':=#[]++cap2) rfl rfl (cx.ou 37) hcf2 jc (by rw[Array.empty_append])) ?_
    refine(Bi Array.empty_append (hf2 _ _ cx.upd (CtxV.holdF cx (cx.init 0 _ rfl) rfl) (CtxV.ltF cx (cx.init 0 _ rfl) rfl) (CtxV.ownF cx (cx.init 0 _ rfl) rfl))).mono ?_
    rintro e W1 ⟨rfl,fp4,aM⟩
    refine⟨_,rfl,aK (E:=eDk b D1 fp2) [eDk b (D2 D1) fp4] (cx.init 0 _ rfl) rfl rfl aM (fun d g X' hs hb hv hN=>?_)⟩
    have aJ:=(hv 38 rfl).1;have aQ:=(hv 38 rfl).2
    exact⟨aJ.trans rfl,cE ((List.cons.inj hN).1)⟩) fun nr uH fj=>?_
  refine aa (wq (sqr (sqp [.k 6 (vi 0)] ?_)))
  refine aa (wp_ret ?_)
  refine bpr (vi 0) (ag Tryz.results126 rpt) ?_
  exact bU.of (R':=(D2 D1,0)) (by rw[opD,if_neg (by have h_:=hon.trans eU;simpa using h_),if_neg (by simpa using dm),if_neg (by have h_:=fc;intro h2_;simp[h2_.1,h2_.2] at h_),hD1]) fj
 refine wp_cond_true (show Act.eval _ _= .bool true from(congrArg Value.bool (by rw[eU];rfl))) (wq (sqr (sqp [.k 6 (vi 24)] ?_)))
 refine aa (wp_ret (aj ?_))
 refine bpr (vi 24) (ag Tryz.results126 rpt) ?_
 exact bU.of (R':=(D,24)) (by rw[opD,if_pos (by simpa using hon.trans eU)]) aV
end
section
open Go.RowKit
theorem yc:∀(l pre suf:List Value),suf.length=l.length->(l.zipIdx pre.length).foldl (fun(cs:Array Value) (x:Value×Nat)=>cs.setIfInBounds (0+x.2) x.1) (pre++suf).toArray=(pre++l).toArray
 | [],pre,suf,h=>by rw[List.eq_nil_of_length_eq_zero (l:=suf) h];rfl
 |v::l,pre,[],h=>by simp at h
 |v::l,pre,z::suf,h=>by
  rw[List.zipIdx_cons,List.foldl_cons]
  dsimp only
  have e:(pre++z::suf).toArray.setIfInBounds (0+pre.length) v=((pre++[v])++suf).toArray:=by simp
  rw[e,show pre.length+1=(pre++[v]).length by simp,yc l (pre++[v]) suf (by simpa using h)]
  simp
theorem G6{P:Program}{o:Oper}{a:Operand->Value}{W:World}{t e:TypeId}{x:Operand}{n:Nat}{xs:List Value}(h:o.op= .buildSlice t 1 #[(0,x)])(ht:P.underlying t=some (.slice e))(hz:szP P e=some n)(h0:(nb P e).isSome=true)(hx:a x= .agg xs.toArray)(hn:xs.length=n)(hn2:n<=16777216)(hn0:0<n):(execOp a o).run P W= .ok (.value (.slice (some ⟨W.heap.size,0,none⟩) (1:Nat) (1:Nat))) (W.alloc (.cells xs.toArray e)):=by
 cases hq:P.info? e with
 |none=>simp[szP,hq] at hz
 |some inf=>
  cases hq2:inf.zero with
  |none=>simp[nb,hq,hq2] at h0
  |some z=>
   have hinf:inf.size=n:=by simpa[szP,hq] using hz
   have hfill:Instr.fill (fun i=>some (i*n,n)) ((Array.range (1*n)).map fun i=>z.cells[i % z.cells.size]!) [(0,Value.agg xs.toArray)]=some xs.toArray:=by
    have hc:(Value.agg xs.toArray).cells=xs.toArray:=rfl
    unfold Instr.fill
    dsimp only
    rw[hc]
    have hsz:xs.toArray.size=n:=hn
    rw[if_neg (by simp[hsz,hn])]
    unfold Instr.fill
    congr 1
    rw[Nat.zero_mul,<-Array.foldl_toList,Array.toList_zipIdx]
    have h5:=yc xs [] ((Array.range (1*n)).map fun i=>z.cells[i % z.cells.size]!).toList (by simp[hn])
    rw[List.nil_append,List.nil_append,Array.toArray_toList] at h5
    exact h5
   have h1:(zeroValue e).run P W= .ok z W:=by
    unfold zeroValue
    simp only[Sem.run_bind,run_typeInfo _ hq,Result.andThen_ok,hq2,Sem.run_pure]
   unfold execOp;rw[h]
   simp only[List.map_toArray,List.map_cons,List.map_nil,hx,Instr.buildSlice,Sem.run_bind,run_underlying ht,Result.andThen_ok,dl hz,Nat.one_mul]
   rw[if_neg (by omega),if_neg (by omega)]
   rw[Nat.one_mul] at hfill
   simp only[Sem.run_bind,h1,Result.andThen_ok,Sem.run_pure,hfill,newRow,newObj]
   rfl
def js(k:Nat)(h:H5)(D:DkM):DkM:={D with pgs:=D.pgs.set k ⟨(D.pgs.getD k gz).safe,(D.pgs.getD k gz).ws++[h]⟩}
def wrD(n:Int)(s:ByteArray)(D:DkM):DkM:=if h:s.size=512 then js n.toNat ⟨s,h⟩ D else D
def wrE(D:DkM)(n:Int)(s:ByteArray):Int:=if 0<=n/\n<(D.pgs.length:Int) then (if s.size=512 then 0 else 1) else 22
theorem yu{α:Type}{l:List α}{k:Nat}{x:α}(h:l[k]? =some x):∃A B,l=A++x::B/\A.length=k:=by
 obtain⟨hk,rfl⟩:=List.getElem?_eq_some_iff.1 h
 exact⟨l.take k,l.drop (k+1),by rw[<-List.drop_eq_getElem_cons hk,List.take_append_drop],by rw[List.length_take];omega⟩
theorem Kp{α:Type}(A B:List α)(x y:α):(A++x::B).set A.length y=A++y::B:=by simp
theorem Ji{α b:Type}(f:α->b)(A B:List α)(t:α)(y:b):(A.map f++f t::B.map f).set A.length y=A.map f++y::B.map f:=by
 have h:=Kp (A.map f) (B.map f) (f t) y
 rw[List.length_map] at h;exact h
theorem El(A B:List ShT)(t:ShT)(A':Option Addr)(c':Nat)(ws':List H5)(n':Nat)(hn:n'=ws'.length):((A++t::B).flatMap shC).set (A.length*513+512) (.slice A' n' c')=(A++⟨t.s,A',c',ws'⟩::B).flatMap shC:=by
 subst hn
 have hl:(A.flatMap shC).length=A.length*513:=nX dq A
 rw[List.flatMap_append,List.flatMap_cons,List.flatMap_append,List.flatMap_cons,<-hl,List.set_append_right _ _ (by omega),Nat.add_sub_cancel_left,List.set_append_left _ _ (by rw[dq];decide)]
 have e:(shC t).set 512 (.slice A' ws'.length c')=shC ⟨t.s,A',c',ws'⟩:=by
  rw[shC,List.set_append_right _ _ (by rw[cW];decide),cW];rfl
 rw[e]
theorem St.outW{w0 W:World}{bor:List Nat}{L:List Ent}{A B:List ShT}{t:ShT}(h:St w0 bor (L++[eWs (A++t::B)]) W):St w0 bor (L++[eWs (A++B),ny t]) W:=by
 rw[eWs,List.map_append] at h |-
 exact St.outA h
theorem St.inW{w0 W:World}{bor:List Nat}{L:List Ent}{A B:List ShT}{t:ShT}(h:St w0 bor (L++[eWs (A++B),ny t]) W):St w0 bor (L++[eWs (A++t::B)]) W:=by
 rw[eWs,List.map_append] at h |-
 exact St.inA h
theorem Lx(t:List H5)(h:H5):t.flatMap hvC++hvC h=(t++[h]).flatMap hvC:=by simp
theorem Tryz.infoHalvesJ:(Tryz.prog.info? 142).map (fun i=>(i.zero,i.size,i.bytes))=some (some (.agg ((List.replicate 512 (0:Int)).map (Value.int .u8)).toArray),512,512):=by kernel_rfl
theorem ju.ext{w w':World}{b:Nat}{D:DkM}(h:ju w b D)(hx:Ext w w'):ju w' b D:=let ⟨PA,Pc,GA,gc,Ps,h1⟩:=h;⟨PA,Pc,GA,gc,Ps,h1.ext hx⟩
theorem HE(b b3 b4 b5:Nat)(D:DkM)(n:Int)(s:ByteArray)(w:World)(hB:ju w b D)(h3:Blk w b3 30 #[po b 0])(h4:Blk w b4 3 #[.int .i64 n])(h5:Blk w b5 9 #[.string s]):
  Calls Tryz.prog 189 #[po b3 0,po b4 0,po b5 0] w (Ret (.int .i64 (wrE D n s)) w):=by
 go_enter Tryz.func189,Tryz.ntmps189
 have ak:=St.start w
 refine wq (sqr (sqp [.k 3 (vi 0)] ?_))
 refine aa (wq (wp_block (wq (sqr ?_))))
 refine sql (vp b) ak (fun cx=>ae rfl (by kernel_rfl) (cx.ou 0) ((Blk.ext h3 cx.upd.to_ext).cell 0)) ?_
 refine sql (vi n) ak (fun cx=>ae rfl (by kernel_rfl) (cx.ou 1) ((Blk.ext h4 cx.upd.to_ext).cell 0)) ?_
 refine sqk (.bool ((decide (0<=n)&&decide (n<(D.pgs.length:Int))))) ak (fun cx=>⟨_,JX b D n _ (hB.ext cx.upd.to_ext),(aN (cx.ou 5) (cx.ou 6))⟩) fun W4 bb=>?_
 refine sqp [.k 8 (.bool (!((decide (0<=n)&&decide (n<(D.pgs.length:Int)))))),.m 4 8] ?_
 refine aa ?_
 rcases Bool.eq_false_or_eq_true ((decide (0<=n)&&decide (n<(D.pgs.length:Int)))) with fD|fD
 have nL:=fD
 simp only[zB] at nL
 obtain⟨Ru,Rv⟩:=nL
 refine wp_cond_false (show Act.eval _ _= .bool false from(congrArg Value.bool (by rw[fD];rfl))) (wq (sqr ?_))
 refine sql (.string s) bb (fun cx=>ae rfl (by kernel_rfl) (cx.ou 2) ((Blk.ext h5 cx.upd.to_ext).cell 0)) ?_
 refine sqp [.k 11 (vi ((s.size:Int))),.k 12 (.bool ((s.size:Int) != 512)),.m 9 12] ?_
 refine aa (wbs (fun je=>?_) fun je=>?_)
 have jq:=bne_iff_ne.1 je
 refine wq (sqr (sqp [.k 3 (vi 1)] ?_))
 refine aa (wp_ret (ba (aj ?_)))
 refine bpr (vi 1) (ag Tryz.results189 rpt) ?_
 exact Ret.int (by rw[wrE,if_pos (by have h_:=fD;simp at h_;omega),if_neg (by have h_:=je;simp at h_;omega)]) bb.ext
 have jq:=bne_eq_false_iff_eq.1 je
 refine wp_skip (av (aa (wq (sqr (sqp [.k 3 (vi 0)] ?_)))))
 refine aa (wp_ret ?_)
 refine bpr (vi 0) (ag Tryz.results189 rpt) ?_
 exact Ret.int (by rw[wrE,if_pos (by have h_:=fD;simp at h_;omega),if_pos (by have h_:=je;simp at h_;omega)]) bb.ext
 have nL:=fD
 simp only[zB] at nL
 refine wp_cond_true (show Act.eval _ _= .bool true from(congrArg Value.bool (by rw[fD];rfl))) (wq (sqr (sqp [.k 3 (vi 22)] ?_)))
 refine aa (wp_ret (ba (aj ?_)))
 refine bpr (vi 22) (ag Tryz.results189 rpt) ?_
 exact Ret.int (by rw[wrE,if_neg (by have h_:=fD;simp at h_;omega)]) bb.ext
theorem Ha(b b3 b4 b5:Nat)(D:DkM)(k:Nat)(h:H5)(fp:List Nat)(w:World)(hB:(eDk b D fp).holds w)(hlt:∀k∈fp,k<w.heap.size)(h3:Blk w b3 30 #[po b 0])(h4:Blk w b4 3 #[.int .i64 (k:Int)])(h5:Blk w b5 9 #[.string h.1])(n3:b3∉fp)(n4:b4∉fp)(n5:b5∉fp)(hk:k<D.pgs.length)(hw:∀x∈D.pgs,x.ws.length<=1000000000):
  Calls Tryz.prog 190 #[po b3 0,po b4 0,po b5 0] w (l7 b (js k h D) fp w):=by
 have st1:=St.lend hB (dS _ _ _) hlt
 obtain⟨PA,Pc,GA,gc,Ps,Qs,hps,hsub,hfp,hap,hall⟩:=hB
 have st0:=St.unpack st1 hfp hall hap
 subst hsub
 have hPl:D.pgs.length=Qs.length:=by rw[<-hps,List.length_map]
 obtain⟨t,htk⟩:=Cd (Ps:=Qs) (k:=k) (by omega)
 have bX:=IC hps htk
 obtain⟨A,B,rfl,rfl⟩:=yu htk
 have hwt:t.ws.length<=1000000000:=hw _ (by rw[<-hps];exact List.mem_map.2 ⟨t,by simp,rfl⟩)
 have st2:=St.outW (L:=[eB b 100 #[.slice PA D.pgs.length Pc,.slice GA D.log.size gc,.int .i64 ((D.fl:Int)),.bool D.off,.bool D.armed,.int .i64 D.left],eO 144 513 (.slice PA D.pgs.length Pc) D.pgs.length ((A++t::B).flatMap shC),eO 5 1 (.slice GA D.log.size gc) D.log.size ((bn D.log).map (Value.int .u8))]) st0
 simp only[List.cons_append,List.nil_append,ny] at st2
 go_enter Tryz.func190,Tryz.ntmps190
 have ak:=st2
 refine aD [0,1,3,7,0,0,32,96,224,0,992,2016,4064,0,8192,24576,65504,131071,262143,524287] [[],[],[],[0],[],[],[],[],[0],[],[1],[],[1],[],[],[],[5,4],[1],[],[1]] [[],[],[],[],[],[],[],[],[],[],[],[],[],[],[],[5],[6],[],[],[7]] [[],[],[],[],[],[],[],[],[],[],[],[],[],[],[],[],[4],[],[],[1]] [.c 3 (vp b),.k 4 (vp b),.k 5 (vp b),.c 6 (.slice PA D.pgs.length Pc),.c 7 (vi ((A.length:Int))),.c 8 (vp b),.k 9 (vp b),.k 10 (vp b),.c 11 (.slice PA D.pgs.length Pc),.c 12 (vi ((A.length:Int))),.c 13 (.pointer (some ((ad PA).add (A.length*513)))),.c 14 (.pointer (some ((ad PA).add (A.length*513+512)))),.c 15 (.slice t.A t.ws.length t.c),.c 16 (.string h.1),.c 17 (.agg (hvC h).toArray),.a 18,.a 19,.c 20 (.pointer (some ((ad PA).add (A.length*513)))),.c 21 (.pointer (some ((ad PA).add (A.length*513+512)))),.n] (fun ix g d X=>match ix with|0|1|2|3|4|5|6|7|8|9|10|11|12|13|14=>True|15=>g 18= .slice ((some ⟨(pb' (d 18)),0,none⟩)) 1 1/\X 5=eO 142 512 (.slice ((some ⟨(pb' (d 18)),0,none⟩)) 1 1) 1 (hvC h)|16=>g 19= .slice (sA (d 19)) (t.ws.length+1) (sC (d 19))/\X 6=eO 142 512 (.slice (sA (d 19)) (t.ws.length+1) (sC (d 19))) (t.ws.length+1) ((t.ws++[h]).flatMap hvC)|17|18=>True|19=>X 7=eO 144 513 (.slice PA D.pgs.length Pc) D.pgs.length ((A++⟨t.s,(sA (d 19)),(sC (d 19)),t.ws++[h]⟩::B).flatMap shC)|_=>True) [0,2,3,5,6,7] [0,3,4,5,8,9,10,11,12,13,14,15,16,17,18,19] [(3,0,19,22)] ak ?_ ?_ ?_
 exact fun ix _ _ _ _ _ _ hs hb hx h=>match ix,h with
 |15,h=>by dsimp only;rw[<-hs 18 rfl,<-hb 18 rfl,<-hx 5 rfl];exact h
 |16,h=>by dsimp only;rw[<-hs 19 rfl,<-hb 19 rfl,<-hx 6 rfl];exact h
 |19,h=>by dsimp only;rw[<-hb 19 rfl,<-hx 7 rfl];exact h
 |0,_|1,_|2,_|3,_|4,_|5,_|6,_|7,_|8,_|9,_|10,_|11,_|12,_|13,_|14,_|17,_|18,_|_+20,_=>trivial
 refine⟨?_,?_,?_,?_,?_,?_,?_,?_,?_,?_,?_,?_,?_,?_,?_,?_,trivial⟩
 exact xs4 rfl id fun cx=>ae rfl (by kernel_rfl) (cx.ou 0) (Blk.cell (h3.upd cx.upd n3) 0)
 exact xs4 rfl id fun cx=>ae rfl (by kernel_rfl) (cx.an 2) ((cx.bi 0 rfl).cell 0)
 exact xs4 rfl id fun cx=>ae rfl (by kernel_rfl) (cx.ou 1) (Blk.cell (h4.upd cx.upd n4) 0)
 exact xs4 rfl id fun cx=>ae rfl (by kernel_rfl) (cx.ou 0) (Blk.cell (h3.upd cx.upd n3) 0)
 exact xs4 rfl id fun cx=>ae rfl (by kernel_rfl) (cx.an 7) ((cx.bi 0 rfl).cell 0)
 exact xs4 rfl id fun cx=>ae rfl (by kernel_rfl) (cx.ou 1) (Blk.cell (h4.upd cx.upd n4) 0)
 exact xs4 rfl id fun cx=>aG (e:=144) (m:=A.length) (sz:=513) rfl (by kernel_rfl) (by kernel_rfl) (cx.an 8) (cx.an 9) (by omega) (by omega) (At.of_ownN (cx.ri 1 rfl)) (bp (sz:=513) dq (by decide) (by omega))
 exact xs4 rfl id fun cx=>bq rfl (by kernel_rfl) (cx.an 10)
 exact xs4 rfl id fun cx=>ae rfl (by kernel_rfl) (cx.an 11) (At.eltc (f:=shC) (k:=512) dq (At.of_ownN (cx.ri 1 rfl)) htk (mD t))
 exact xs4 rfl id fun cx=>ae rfl (by kernel_rfl) (cx.ou 2) (Blk.cell (h5.upd cx.upd n5) 0)
 exact xsc rfl id rfl rfl fun cx=>⟨_,EH h _,(aw (cx.an 13))⟩
 refine svA fun i d W X cx=>?_
 have Pl:i (.tmp 17)= .agg (hvC h).toArray:=(cx.an 14)
 exact l4 (e:=142) (sz:=512) (xs:=hvC h) rfl (G6 (n:=512) rfl (by kernel_rfl) (by kernel_rfl) rfl Pl (cW h) (by decide) (by decide)) (by rw[cW]) (by decide) rfl rfl (fun _ _ _ _ _=> .intro)
 refine svA fun i d W X cx=>?_
 obtain⟨i0,hi0,hz0,hz1,hz2⟩:=info_parts Tryz.infoHalvesJ
 refine i5 (n:=t.ws.length) (m:=1) (nm:=t.ws.length+1) (sz:=512) (xs:=t.ws.flatMap hvC) (news:=hvC h) (xs':=(t.ws++[h]).flatMap hvC) rfl (ty:=138) rfl (by kernel_rfl) hi0 hz0 hz1 hz2 rfl (by decide) (cx.an 12) cx (cx.init 4 _ rfl) rfl (dTn (cx.an 15)).1 (by rw[cW]) (At.of_ownN (cx.row (dTn (cx.an 15)).2 rfl)) (rB h) (by simp only[maxLen];omega) (by omega) rfl rfl rfl (by omega) ((Lx t.ws h)) (fun g j X' hs hb hv hx=>?_)
 exact⟨hv,hx⟩
 exact xs4 rfl id fun cx=>aG (e:=144) (m:=A.length) (sz:=513) rfl (by kernel_rfl) (by kernel_rfl) (cx.an 3) (cx.an 4) (by omega) (by omega) (At.of_ownN (cx.ri 1 rfl)) (bp (sz:=513) dq (by decide) (by omega))
 exact xs4 rfl id fun cx=>bq rfl (by kernel_rfl) (cx.an 17)
 refine svA fun i d W X cx=>?_
 exact pM (m:=A.length*513+512) (n:=D.pgs.length) (sz:=513) rfl (cx.an 18) (dTn (cx.an 16)).1 (by kernel_rfl) rfl rfl cx (cx.init 1 _ rfl) rfl (by omega) rfl (El A B t _ _ (t.ws++[h]) _ (by simp)) rfl rfl (fun g j X' hs hb hx=>by rw[hb 19];exact hx)
 intro g d X W1 hD aA fr aC
 simp only[exq 5 ((dTn (hD 15 lq)).2),exq 6 ((dTn (hD 16 lq)).2),exq 7 ((dTn (hD 19 lq)))] at aA
 simp only[ed 18 ((dTn (hD 15 lq)).1),ed 19 ((dTn (hD 16 lq)).1)] at aC
 generalize pb' (d 18)=Rw,sA (d 19)=xv,sC (d 19)=xw at aA aC
 clear hD;subst aC;clear g d X
 refine bpe (.tuple #[]) (by simp[results,Tryz.results190,go_sem]) ?_
 have hl_:=St.inW (L:=[eB b 100 #[.slice PA D.pgs.length Pc,.slice GA D.log.size gc,vi ((D.fl:Int)),.bool D.off,.bool D.armed,vi D.left],eO 144 513 (.slice PA D.pgs.length Pc) D.pgs.length ((A++⟨t.s,xv,xw,t.ws++[h]⟩::B).flatMap shC),eO 5 1 (.slice GA D.log.size gc) D.log.size ((bn D.log).map (Value.int .u8))]) (t:=(⟨t.s,xv,xw,t.ws++[h]⟩:ShT)) (by have h_:=aA.pick [0,5,1,2,4] (by decide) rfl;rw[ny];dsimp only;rw[List.length_append,List.length_singleton];exact h_)
 have hpl_:(js A.length h D).pgs.length=D.pgs.length:=List.length_set
 exact⟨rfl,St.dk (L:=[]) (D:=js A.length h D) (PA:=PA) (Pc:=Pc) (GA:=GA) (gc:=gc) (Ps:=A++(⟨t.s,xv,xw,t.ws++[h]⟩:ShT)::B) (Qs:=A++(⟨t.s,xv,xw,t.ws++[h]⟩:ShT)::B) (by rw[dkL,dkC,hpl_];exact hl_) (by rw[js];dsimp only;rw[bX,<-hps,List.map_append,List.map_append,List.map_cons,List.map_cons,Ji];rfl) rfl⟩
theorem yp{D:DkM}{n:Int}{s:ByteArray}(h:wrE D n s=0):(0<=n/\n<(D.pgs.length:Int))/\s.size=512:=by
 unfold wrE at h
 split at h
 rename_i h1
 split at h
 rename_i h2;exact⟨h1,h2⟩
 cases h
 cases h
theorem Eo(b b3 b4 b5:Nat)(D:DkM)(n:Int)(s:ByteArray)(fp:List Nat)(w:World)(hB:(eDk b D fp).holds w)(hlt:∀k∈fp,k<w.heap.size)(h3:Blk w b3 30 #[po b 0])(h4:Blk w b4 3 #[.int .i64 n])(h5:Blk w b5 9 #[.string s])(n3:b3∉fp)(n4:b4∉fp)(n5:b5∉fp)(hw:∀x∈D.pgs,x.ws.length<=1000000000):Calls Tryz.prog 126 #[po b 0,.func (.func 189) #[] #[po b3 0,po b4 0,po b5 0],.func (.func 190) #[] #[po b3 0,po b4 0,po b5 0]] w (bU b (opD D (wrE D n s) (wrD n s)) fp w):=by
 refine Bd b D (wrE D n s) (wrD n s) 189 190 _ _ fp w hB hlt (by kernel_rfl) (by kernel_rfl) (fun W hU hA=>HE b b3 b4 b5 D n s W hA (h3.upd hU n3) (h4.upd hU n4) (h5.upd hU n5)) (fun he W fp1 hU hh hl ho=>?_)
 obtain⟨h6,h7⟩:=yp he
 obtain⟨k,rfl⟩:∃k:Nat,n=(k:Int):=⟨n.toNat,by omega⟩
 have hno:∀x,x∉fp->x<w.heap.size->x∉fp1:=fun x h8 h9 h10=>by
  rcases ho x h10 with h11|h11
  exact h8 h11
  omega
 have e1:wrD (k:Int) s {D with left:=cS D.left}=js k ⟨s,h7⟩ {D with left:=cS D.left}:=by rw[wrD,dif_pos h7,Int.toNat_natCast]
 rw[e1]
 exact Ha b b3 b4 b5 _ k ⟨s,h7⟩ fp1 W hh hl (h3.upd hU n3) (h4.upd hU n4) (h5.upd hU n5) (hno b3 n3 h3.lt) (hno b4 n4 h4.lt) (hno b5 n5 h5.lt) (by show k<D.pgs.length;omega) hw
theorem uw(b:Nat)(D:DkM)(n:Int)(s:ByteArray)(fp:List Nat)(w:World)(hB:(eDk b D fp).holds w)(hlt:∀k∈fp,k<w.heap.size)(hw:∀x∈D.pgs,x.ws.length<=1000000000):
  Calls Tryz.prog 169 #[po b 0,.int .i64 n,.string s] w (bU b (opD D (wrE D n s) (wrD n s)) fp w):=by
 have st1:St w fp [eDk b D fp] w:=St.lend hB (dS _ _ _) hlt
 go_enter Tryz.func169,Tryz.ntmps169
 have ak:=st1
 refine wq (sqr ?_)
 refine bY #[vp b] ak fun cO W1 aA=>?_
 refine bY #[vi n] aA fun dD W2 bC=>?_
 refine bY #[.string s] bC fun pt W3 aV=>?_
 refine sqp [.k 6 (vi 0)] ?_
 refine aa (wq (sqr (au 1 aV ?_)))
 refine sqv (.func (.func 189) #[] #[vp cO,vp dD,vp pt]) aV (by
   exact sv0 rfl rfl rfl rfl rfl (fun _ _ _ h=>h) fun a c W X cx=>by
    have fN:a (.tmp 3)=vp cO:=(cx.ou 3)
    have uN:a (.tmp 4)=vp dD:=(cx.ou 4)
    have qH:a (.tmp 5)=vp pt:=(cx.ou 5)
    simp[go_sem,Instr.makeFunc,fN,uN,qH]) fun W6 bN=>?_
 refine sqv (.func (.func 190) #[] #[vp cO,vp dD,vp pt]) bN (by
   exact sv0 rfl rfl rfl rfl rfl (fun _ _ _ h=>h) fun a c W X cx=>by
    have fN:a (.tmp 3)=vp cO:=(cx.ou 3)
    have uN:a (.tmp 4)=vp dD:=(cx.ou 4)
    have qH:a (.tmp 5)=vp pt:=(cx.ou 5)
    simp[go_sem,Instr.makeFunc,fN,uN,qH]) fun W7 aY=>?_
 refine bG (fun X_=>X_.fp) (vi ((opD D (wrE D n s) (wrD n s)).2)) (fun Mg=>eDk b ((opD D (wrE D n s) (wrD n s)).1) Mg) 0 aY (by
   refine svA fun a c W X cx=>?_
   refine am.call (al (args:=#[vp b,.func (.func 189) #[] #[vp cO,vp dD,vp pt],.func (.func 190) #[] #[vp cO,vp dD,vp pt]]) rfl cx.sees rfl (by kernel_rfl) (dG (cx.ou 7) (cx.ou 8) (cx.ou 9))) ?_
   refine(Eo b _ _ _ D n s _ _ (CtxV.holdF cx (cx.init 0 _ rfl) rfl) (CtxV.ltF cx (cx.init 0 _ rfl) rfl) (cx.bi 1 rfl) (cx.bi 2 rfl) (cx.bi 3 rfl) (by have h_:=cx.ap 1 0 rfl rfl (by decide);rw[(cx.init 1 _ rfl),(cx.init 0 _ rfl)] at h_;exact h_ _ (List.mem_singleton.2 rfl)) (by have h_:=cx.ap 2 0 rfl rfl (by decide);rw[(cx.init 2 _ rfl),(cx.init 0 _ rfl)] at h_;exact h_ _ (List.mem_singleton.2 rfl)) (by have h_:=cx.ap 3 0 rfl rfl (by decide);rw[(cx.init 3 _ rfl),(cx.init 0 _ rfl)] at h_;exact h_ _ (List.mem_singleton.2 rfl)) hw).mono ?_
   rintro e W1 ⟨rfl,fp4,aM⟩
   refine⟨_,rfl,aK (E:=eDk b D fp) [eDk b (opD D (wrE D n s) (wrD n s)).1 fp4] (cx.init 0 _ rfl) rfl rfl aM (fun d f X' hs hb hv hN=>?_)⟩
   have aJ:=(hv 10 rfl).1;have aQ:=(hv 10 rfl).2
   exact⟨aJ.trans rfl,cE ((List.cons.inj hN).1)⟩) fun Mg W8 dy=>?_
 refine sqp [.m 6 10] ?_
 refine aa (wp_ret ?_)
 refine bpr (vi ((opD D (wrE D n s) (wrD n s)).2)) (ag Tryz.results169 rpt) ?_
 exact bU.of rfl (dy.pick [0] (by decide) rfl)
end
section
open Go.RowKit
abbrev Rnd(l:Nat):Fence:=Fence.wide.inRound l
def jE(ops:Array Oper):Bool:=ops.all fun o=>match o.op with| .defer _=>false|_=>true
theorem BK{ops:Array Oper}(h:jE ops=true){i:Nat}{o:Oper}(ho:ops[i]? =some o):∀c,o.op≠ .defer c:=by
 intro c hc
 obtain⟨hi,he⟩:=Array.getElem?_eq_some_iff.1 ho
 have h2:=(Array.all_eq_true.1 h) i hi
 rw[he,hc] at h2
 cases h2
theorem OY{P:Program}{l n:Nat}{o:Oper}{a:Act}{w:World}{K:Act->World->Prop}{Q:Exit->Act->World->Prop}(hd:∀c,o.op≠ .defer c)(h:o.wp P a w K Q):o.wpIn (Rnd l) n P a w K Q:=by
 unfold Oper.wp at h
 refine⟨fun _ _=>trivial,?_⟩
 show o.uponIn (Rnd l) n P a K Q ((o.semAt (some l) a.eval).run P w)
 rw[Oper.semAt_eq (some l) a.eval o hd]
 generalize (execOp a.eval o).run P w=r at h |-
 cases r with
 |ok x w'=>
  cases x<;>simp only[Oper.upon,Oper.uponIn] at h |- <;>first
   |exact h
   |exact⟨fun hh=>by simp[Rnd,Fence.wide] at hh,CallsIn.inRound l (callsIn_wide.2 h)⟩
   |exact⟨fun hh=>by simp[Rnd,Fence.wide] at hh,fun c cs _=>let ⟨v,w',r,s⟩:=h c cs;⟨v,w',r,stepsIn_wide.2 s⟩⟩
 |halt x w'=>cases x<;>simp only[Oper.upon,Oper.uponIn] at h |- <;>exact h
section
variable{P:Program}{l n:Nat}{ops:Array Oper}{Q:Exit->Act->World->Prop}
theorem wP(hnd:jE ops=true)(hLo:¬LetsOut Q){i:Nat}{K:Act->World->Prop}{a:Act}{w:World}(h:wpOp P ops Q i K a w):wpOpIn (Rnd l) n P ops Q i K a w:=by
 unfold wpOp at h
 unfold wpOpIn
 cases ho:ops[i]? with
 |none=>simp only[ho] at h |-;exact h
 |some o=>
  simp only[ho] at h |-
  split
  rename_i hw
  rw[if_pos hw] at h
  exact OY (BK hnd ho) (h.resolve_right fun hh=>hLo hh.2)
  rename_i hw
  rw[if_neg hw] at h
  exact⟨fun _ _=>trivial,h⟩
theorem tV(hnd:jE ops=true)(hLo:¬LetsOut Q):∀(m:Nat) (listed:Array Bool) (a:Act) (w:World),wpAny P .any ops Q m listed a w->wpAnyIn (Rnd l) n P .any ops Q m listed a w
 |0,listed,a,w,h=>h
 |m+1,listed,a,w,h=>⟨h.1,fun i hi=>wpOpIn_mono (fun a w hh=>tV hnd hLo m _ a w hh) (wP hnd hLo (h.2 i hi))⟩
theorem oQ(hnd:jE ops=true)(hLo:¬LetsOut Q):∀(is:List Nat) (a:Act) (w:World),wpOps P ops Q is a w->wpOpsIn (Rnd l) n P ops Q is a w
 | [],a,w,h=>h
 |i::is,a,w,h=>by
  rw[wpOps_cons] at h
  rw[wpOpsIn_cons]
  exact wpOpIn_mono (fun a w hh=>oQ hnd hLo is a w hh) (wP hnd hLo h)
end
section
variable{P:Program}{ops:Array Oper}{L:List Nat}{w0:World}{bor:List Nat}{X0:List Ent}{us cr kl:List (List Nat)}{Q:Exit->Act->World->Prop}{l n:Nat}
theorem xi{id:Nat}{dr:Bool}{w:World}{t0:Array Value}{d0:List Deferred}(hnd:jE ops=true)(hm:P.follows .mixedOrders=true)(L:List Nat)(us cr kl:List (List Nat))(D:Nat->(Tmp->Value)->(Tmp->Value)->(Nat->Ent)->Prop)(fin:List Nat)
  (hL:gv ops L=true) (hd:fU ops t0.size=true) (hflow:gr ops.size X0.length L us cr kl=true) (hfin:kh ops.size X0.length cr kl fin=true)
  (hloc:jf ops X0.length L cr D) (be:St w0 bor X0 w) (eY:iW (bL P ops L ⟨t0,d0⟩ w0 bor X0 us cr kl D) ops.size)
  (hrest:∀(b c:Tmp->Value) (X:Nat->Ent) (w':World),(∀i,i<ops.size->D i b c X)->(∀q e,X0[q]? =some e->X q=e)->St w0 bor (fin.map X) w'->
   ∀fr,fr=dX (cm ops) ((cm ops).map b) t0->Q .normal ⟨fr,d0⟩ w'):(Code.region id ops dr).wpIn (Rnd l) n P Q ⟨t0,d0⟩ w:=by
 have hs:∀i,i<ops.size->bL P ops L ⟨t0,d0⟩ w0 bor X0 us cr kl D i:=fun i hi=>eY.get i hi
 obtain⟨Q',hQ'⟩:∃Q':Exit->Act->World->Prop,Q'=fun e a w=>e= .normal/\Q .normal a w:=⟨_,rfl⟩
 have hr:∀(a:Act) (w:World) (listed:Array Bool),(∀i,i<ops.size->listed.getD i false=true)->VInv ops L ⟨t0,d0⟩ w0 bor X0 cr kl D listed a w->Q' .normal a w:=fun a w listed hall inv=>by
  rw[hQ'];exact⟨rfl,x4 (a0:=⟨t0,d0⟩) hd hfin (fun b c X w' h1 h2 h3=>hrest b c X w' h1 h2 h3 _ rfl) hall inv⟩
 have hLo:¬LetsOut Q':=by rw[hQ'];rintro⟨a,w,h,_⟩;cases h
 refine wpIn_mono (Q:=Q') ?_ fun e a w h=>by rw[hQ'] at h;obtain⟨rfl,h⟩:=h;exact h
 cases dr with
 |true=>
  refine wpIn_region_any hm (tV hnd hLo _ _ _ _ (Bb hL hd hflow hloc hs hr ops.size (Array.replicate ops.size false) ⟨t0,d0⟩ w.drew ?_ (lG be.drew)))
  rw[List.countP_eq_length.2]
  simp
  intro i _
  rw[getD_replicate_false]
  rfl
 |false=>
  refine wpIn_region ?_
  rw[List.range_eq_range']
  exact oQ hnd hLo _ _ _ (A6 hL hd hflow hloc hs hr ops.size 0 (Array.replicate ops.size false) ⟨t0,d0⟩ w (by omega) (fun j=>by rw[getD_replicate_false];simp) (lG be))
end
theorem xf{l n:Nat}{P:Program}{ops:Array Oper}{Q:Exit->Act->World->Prop}{w0:World}{bor:List Nat}{X0:List Ent}{id:Nat}{dr:Bool}{w:World}{t0:List Value}{d0:List Deferred}(L:List Nat)(us cr kl:List (List Nat))(tb:List TE)
  (A:Nat->(Tmp->Value)->(Tmp->Value)->(Nat->Ent)->Prop) (fin sp:List Nat) (rs:List (Nat×Nat×Nat×Nat)) (be:St w0 bor X0 w) (hloc:jf ops X0.length L cr A)
  (eY:oZ (bL P ops L ⟨t0.toArray,d0⟩ w0 bor X0 us cr kl (fun ix a b X=>dT tb ix a (A ix a b X))) sp)
  (hrest:∀(a b:Tmp->Value) (X:Nat->Ent) (w':World),(∀i,i<ops.size->dT tb i a (A i a b X))->(∀q e,X0[q]? =some e->X q=e)->St w0 bor (fin.map X) w'->∀fr,fr=mgT tb a rs t0->Q .normal ⟨fr.toArray,d0⟩ w')
  (ht:nD P ops L t0.toArray tb 0 tb=tb.map jm:=by kernel_rfl) (hl:jk ops L cr kl sp 0 tb=true:=by kernel_rfl) (hn:tb.length=ops.size:=by kernel_rfl)
  (aC:∀a,dX (cm ops) ((jd ops).map (jr ops tb a)) t0.toArray=(mgT tb a rs t0).toArray:=by intro a;kernel_rfl)
  (hm:P.follows .mixedOrders=true:=by kernel_rfl) (hnd:jE ops=true:=by kernel_rfl) (hL:gv ops L=true:=by kernel_rfl) (hd:fU ops t0.toArray.size=true:=by kernel_rfl) (hflow:gr ops.size X0.length L us cr kl=true:=by kernel_rfl) (hfin:kh ops.size X0.length cr kl fin=true:=by kernel_rfl):
  (Code.region id ops dr).wpIn (Rnd l) n P Q ⟨t0.toArray,d0⟩ w:=by
 refine xi hnd hm L us cr kl (fun ix a b X=>dT tb ix a (A ix a b X)) fin hL hd hflow hfin (fun i a c b f X X' h1 h2 h3 h=>?_) be (iW.of fun i hi=>?_) fun a b X w' hD hX hst' fr hfr'=>?_
 dsimp only at h |-
 rw[gZ] at h |-
 cases hdd:(tb.getD i .n).dst with
 |some d=>
  rw[hdd] at h
  dsimp only at h |-
  have hi:i<tb.length:=jC (by rw[hdd];simp)
  have:=(fE ht hi hdd).1
  rw[<-h1 d (by unfold mZ;simp[this])]
  exact h
 |none=>
  rw[hdd] at h
  exact hloc i a c b f X X' h1 h2 h3 h
 have hi':i<tb.length:=by rw[hn];exact hi
 have h:=iX (i:=i) hl hi'
 rw[Nat.zero_add] at h
 rcases h with ⟨_,h⟩|⟨h,_⟩
 exact m4 eY i h
 exact nh hd ht hl hi' h
 subst hfr'
 have e:(cm ops).map a=(jd ops).map (jr ops tb a):=by
  unfold cm
  rw[List.map_map]
  refine List.map_congr_left fun i hi=>?_
  have him:=List.mem_filter.1 hi
  have hlt:i<ops.size:=List.mem_range.1 him.1
  have h:=hD i hlt
  rw[gZ] at h
  unfold jr
  cases hdd:(tb.getD i .n).dst with
  |none=>rfl
  |some d=>
   rw[hdd] at h
   dsimp only at h |-
   have:=(fE ht (i:=i) (by rw[hn];exact hlt) hdd).1
   simp only[Function.comp,this,Option.getD_some]
   exact h
 rw[e,aC a]
 exact hrest a b X w' hD hX hst' _ rfl
theorem xk{l n:Nat}{P:Program}{ops:Array Oper}{Q:Exit->Act->World->Prop}{w0:World}{bor:List Nat}{X0:List Ent}{id:Nat}{dr:Bool}{w:World}{t0:List Value}{t1:(Tmp->Value)->List Value}{E:(Nat->Ent)->List Ent}{d0:List Deferred}(L:List Nat)(us cr kl:List (List Nat))(tb:List TE)
  (A:Nat->(Tmp->Value)->(Tmp->Value)->(Nat->Ent)->Prop) (fin sp:List Nat) (rs:List (Nat×Nat×Nat×Nat)) (be:St w0 bor X0 w) (hloc:jf ops X0.length L cr A)
  (eY:oZ (bL P ops L ⟨t0.toArray,d0⟩ w0 bor X0 us cr kl (fun ix a b X=>dT tb ix a (A ix a b X))) sp)
  (hrest:∀(a b:Tmp->Value) (X:Nat->Ent) (w':World),(∀i,i<ops.size->dT tb i a (A i a b X))->St w0 bor (E X) w'->∀fr,fr=t1 a->Q .normal ⟨fr.toArray,d0⟩ w')
  (h1:∀a,mgT tb a rs t0=t1 a:=by intro a;dsimp only[mgT,jw,List.take,List.drop,List.cons_append,List.nil_append]) (hE:∀X,jO X0 X fin=E X:=by intro X;dsimp only[jO,qm])
  (ht:nD P ops L t0.toArray tb 0 tb=tb.map jm:=by kernel_rfl) (hl:jk ops L cr kl sp 0 tb=true:=by kernel_rfl) (hn:tb.length=ops.size:=by kernel_rfl)
  (aC:∀a,dX (cm ops) ((jd ops).map (jr ops tb a)) t0.toArray=(mgT tb a rs t0).toArray:=by intro a;kernel_rfl)
  (hm:P.follows .mixedOrders=true:=by kernel_rfl) (hnd:jE ops=true:=by kernel_rfl) (hL:gv ops L=true:=by kernel_rfl) (hd:fU ops t0.toArray.size=true:=by kernel_rfl) (hflow:gr ops.size X0.length L us cr kl=true:=by kernel_rfl) (hfin:kh ops.size X0.length cr kl fin=true:=by kernel_rfl):
  (Code.region id ops dr).wpIn (Rnd l) n P Q ⟨t0.toArray,d0⟩ w:=
 xf L us cr kl tb A fin sp rs be hloc eY (fun a b X w' hD hX hs fr hf=>hrest a b X w' hD (by rw[<-hE X,ry hX];exact hs) fr (hf.trans (h1 a))) ht hl hn aC hm hnd hL hd hflow hfin
abbrev fps(L:List Ent):List Nat:=L.flatMap (·.fp)
theorem f8{L:List Ent}{k:Nat}:k∈fps L<->∃e∈L,k∈e.fp:=by simp[fps]
theorem St.fps_own{w0 w:World}{bor:List Nat}{L:List Ent}(h:St w0 bor L w){k:Nat}(hk:k∈fps L):(k∈bor\/w0.heap.size<=k)/\k<w.heap.size:=by
 obtain⟨e,he,hk⟩:=f8.1 hk
 exact(h.ok e he).own k hk
def lv(D:Nat):Ent:=⟨[D],fun W=>W.heap[D]? =some (.deferred (some []))⟩
theorem KY(D:Nat):(lv D).loc:=fun W W' h hb=>(h D (by simp[lv])).trans hb
theorem St.takeD{w0 W:World}{bor:List Nat}{L:List Ent}{D:Nat}(h:St w0 bor (L++[lv D]) W):St w0 bor L (W.putObj D (.deferred none)):=by
 have hd:=h.ok (lv D) (by simp)
 have hown:=hd.own D (by simp[lv])
 have hap:∀e∈L,D∉e.fp:=fun e he hk=>by
  have:=(List.pairwise_append.1 h.apart).2.2 e he (lv D) (by simp)
  exact this D hk (by simp[lv])
 have hg:=grownBy_putObj' W D (.deferred none)
 refine⟨⟨hg.os.trans h.upd.os,hg.tape.trans h.upd.tape,hg.output.trans h.upd.output,Nat.le_trans h.upd.size hg.size,fun k hk hb=>?_⟩,fun e he=>?_,(List.pairwise_append.1 h.apart).1⟩
 rw[hg.block k (Nat.lt_of_lt_of_le hk h.upd.size) fun e'=>?_]
 exact h.upd.block k hk hb
 cases e'
 rcases hown.1 with h1|h1
 exact hb h1
 omega
 have h2:=h.ok e (by simp[he])
 refine⟨h2.loc W _ (fun k hk=>hg.block k (h2.own k hk).2 fun e'=>?_) h2.holds,h2.loc,fun k hk=>⟨(h2.own k hk).1,Nat.lt_of_lt_of_le (h2.own k hk).2 hg.size⟩⟩
 cases e'
 exact hap e he hk
theorem F6{P:Program}{n:Nat}{fn:Func}{R:Ending->World->Prop}{t0:Array Value}{w0 w:World}{bor:List Nat}{L:List Ent}{D:Nat}(be:St w0 bor (L++[lv D]) w)
  (h:∀W,St w0 bor L W->∃v,(results fn t0).run P W= .ok v W/\R (.returned v) W):bodyPostM Fence.wide n P fn R .ret ⟨t0,[{target:= .collected D,args:=#[]}]⟩ w:=by
 have hK:w.heap[D]? =some (.deferred (some [])):=(be.ok (lv D) (by simp)).holds
 show LeavesInM Fence.wide n P fn t0 R [{target:= .collected D,args:=#[]}] .returning w
 exact⟨by simp,.inl ⟨_,_,rfl,run_takeDeferred hK,h _ be.takeD⟩⟩
theorem BC{P:Program}{l n id d s:Nat}{o:Oper}{K:Act->World->Prop}{a a1:Act}{W:World}(ho:o.op= .assign (.tmp s))(hg:o.guard=none)(hd:o.dst=some d)(h:K a1 W)(he:a.put (some d) (a.eval (.tmp s))=a1):
  (Code.region id #[o] false).wpIn (Rnd l) n P (Exit.then K (fun _ _ _=>False)) a W:=by
 refine wpIn_region ?_
 refine oQ (by simp[jE,ho]) (by rintro⟨a,w,h⟩;exact h) _ _ _ ?_
 show wpOps P _ _ [0] a W
 rw[wpOps_cons]
 refine wpOp_step (show (#[o]:Array Oper)[0]? =some o from rfl) fun K' hK'=>?_
 rw[if_pos (show Region.wanted o _=true by unfold Region.wanted;rw[hg])]
 refine am.wp (post:=fun v w'=>v=a.eval (.tmp s)/\w'=W) (am.value (di ho rfl) ⟨rfl,rfl⟩) fun v w' hv=>?_
 obtain⟨rfl,rfl⟩:=hv
 refine hK' _ _ ?_
 rw[hd,he]
 exact h
end
section
open Go.RowKit
def eJ{α:Type}(J:List Nat->List α->World->Prop)(C:List Nat)(pre:List α):Ent:=⟨C,J C pre⟩
theorem Upd.putObj{S:List Nat}{A B:World}{l:Nat}{o:Obj}(h:Upd S A B)(hl:l∈S\/A.heap.size<=l):Upd S A (B.putObj l o):=by
 have hg:=grownBy_putObj' B l o
 refine⟨hg.os.trans h.os,hg.tape.trans h.tape,hg.output.trans h.output,Nat.le_trans h.size hg.size,fun k hk hn=>?_⟩
 rw[hg.block k (Nat.lt_of_lt_of_le hk h.size) fun e=>?_]
 exact h.block k hk hn
 cases e
 rcases hl with h1|h1
 exact hn h1
 omega
theorem kG(W:World)(l:Nat)(o:Obj):(W.putObj l o).heap.size=W.heap.size:=by simp
end
section
open Go.RowKit
def e00:Ent:=⟨[],fun _=>True⟩
theorem St.e00(W:World):St W [] [e00] W:=⟨Upd.refl _ _,fun x hx=>by rw[List.mem_singleton] at hx;subst hx;exact⟨trivial,fun _ _ _ _=>trivial,fun k hk=>by cases hk⟩,List.pairwise_singleton _ _⟩
def LF{α:Type}(P:Program)(gf:Nat)(lb:Array Value)(encs:α->Array Value)(Px:List α->α->Prop)(Rd:List α->World->Prop)(Z:List α->Prop):Prop:=
 ∀(l:Nat) (J:List Nat->List α->World->Prop) (W:World) (C0:List Nat),(∀C pre,(eJ J C pre).loc)->(∀k∈C0,k<W.heap.size)->J C0 [] W->(∀C pre A,J C pre A->Rd pre A)->
  (∀C pre x A,J C pre A->(∀k∈C,k<A.heap.size)->Px pre x->YieldAt Fence.wide 1 P l (encs x) A fun e B=>e= .returned (.bool true)/\∃C',St A C [eJ J C' (pre++[x])] B)->
  CallsIn Fence.wide 2 P gf (#[.func (.yield l) #[] #[]]++lb) W fun e B=>(∃v,e= .returned v)/\∃C xs,St W C0 [eJ J C xs] B/\Z xs
theorem B0{α:Type}{P:Program}{g:Operand}{ps:Array Tmp}{assign body:Code}{Q:Exit->Act->World->Prop}{t0:Array Value}{w0 w:World}{bor:List Nat}{L0:List Ent}(be:St w0 bor L0 w)
  {gf:Nat}{lb:Array Value}(hg:Act.eval ⟨t0,[]⟩ g= .func (.func gf) #[] lb) (eg:∀args w,(callFunc gf args).run P w= .ok (.enter gf args) w)
  {encs:α->Array Value}{Px:List α->α->Prop}{Rd:List α->World->Prop}{Z:List α->Prop}(hseq:LF P gf lb encs Px Rd Z) (hps:∀x,(encs x).size=ps.size) (I:List α->List Ent->Prop) (h0:I [] L0) (hRd:∀pre L A,I pre L->(∀e∈L,e.holds A)->Rd pre A) (Ax:α->Act->Ent->Prop) (t1:α->List Value) (ht1:∀x,(ps.zip (encs x)).foldl (fun t (p,v)=>t.setIfInBounds p v) t0=(t1 x).toArray)
  (hassign:∀(l:Nat) (x:α) (W:World) (K:Act->World->Prop),(∀a' W' E,Ax x a' E->St W [] [E] W'->K a' W')->assign.wpIn (Rnd l) 1 P (Exit.then K (fun _ _ _=>False)) ⟨(t1 x).toArray,[]⟩ W)
  (hbody:∀(l:Nat) (pre:List α) (x:α) (W:World) (L:List Ent) (a':Act) (E:Ent),I pre L->Px pre x->Ax x a' E->St W (fps (L++[E])) (L++[E]) W->body.wpIn (Rnd l) 1 P (fun e _ W'=>e= .normal/\∃L',I (pre++[x]) L'/\St W (fps (L++[E])) L' W') a' W)
  (hdone:∀(D:Nat) (W:World) (L:List Ent) (xs:List α),I xs L->Z xs->St w0 bor (L++[lv D]) W->Q .normal ⟨t0,[{target:= .collected D,args:=#[]}]⟩ W):
  (Code.rangeFunc g ps assign body).wp P Q ⟨t0,[]⟩ w:=by
 refine(wpIn_wide (n:=3)).1 (wpIn_rangeFunc fun fn hfn=>?_)
 obtain⟨D,hD⟩:∃D,w.heap.size=D:=⟨_,rfl⟩
 obtain⟨rec,hrec⟩:∃rec:LoopState->Loop,rec=fun s=>{state:=s,pending:=none,fn,tmps:=t0,params:=ps,assign,body,defers:=D}:=⟨_,rfl⟩
 obtain⟨W1,hW1⟩:∃W1,(w.alloc (.deferred (some []))).alloc (.loop (rec .ready))=W1:=⟨_,rfl⟩
 have hL1:W1.heap[D+1]? =some (.loop (rec .ready)):=by
  rw[<-hW1,<-hD];have:=World.alloc_heap_new (w.alloc (.deferred (some []))) (.loop (rec .ready));rwa [World.size_alloc] at this
 have hK1:W1.heap[D]? =some (.deferred (some [])):=by
  rw[<-hW1,<-hD];exact(Below.heap_alloc _ _ _ (by simp)).trans (World.alloc_heap_new w _)
 have hx1:Ext w W1:=by rw[<-hW1];exact((Below.refl _ w).alloc (Nat.le_refl _) _).alloc (by simp) _
 have fM:W1.heap.size=D+2:=by rw[<-hW1,World.size_alloc,World.size_alloc,hD]
 have h0w:=be.upd.size
 obtain⟨J,hJ⟩:∃J:List Nat->List α->World->Prop,J=fun C pre A=>∃L,I pre L/\C=(D+1)::D::fps L/\(∀e∈L,e.holds A/\e.loc)/\L.Pairwise Ent.apart/\(∀k∈fps L,k≠D+1/\k≠D)/\A.heap[D+1]? =some (.loop (rec .ready))/\A.heap[D]? =some (.deferred (some [])):=⟨_,rfl⟩
 have hloc:∀C pre,(eJ J C pre).loc:=fun C pre A B hk h=>by
  subst hJ
  obtain⟨L,h1,rfl,h2,h3,h4,h5,h6⟩:=h
  refine⟨L,h1,rfl,fun e he=>⟨(h2 e he).2 A B (fun k hk'=>hk k ?_) (h2 e he).1,(h2 e he).2⟩,h3,h4,(hk (D+1) (by simp[eJ])).trans h5,(hk D (by simp[eJ])).trans h6⟩
  exact List.mem_cons_of_mem _ (List.mem_cons_of_mem _ (f8.2 ⟨e,he,hk'⟩))
 have hC0:∀k∈(D+1)::D::fps L0,(k∈bor\/w0.heap.size<=k)/\k<W1.heap.size:=fun k hk=>by
  rcases List.mem_cons.1 hk with rfl|hk
  exact⟨.inr (by omega),by omega⟩
  rcases List.mem_cons.1 hk with rfl|hk
  exact⟨.inr (by omega),by omega⟩
  have:=be.fps_own hk
  exact⟨this.1,by omega⟩
 have hJ0:J ((D+1)::D::fps L0) [] W1:=by
  subst hJ
  refine⟨L0,h0,rfl,fun e he=>⟨(be.ok e he).loc w W1 (fun k hk=>hx1.block ((be.ok e he).own k hk).2) (be.ok e he).holds,(be.ok e he).loc⟩,be.apart,fun k hk=>?_,hL1,hK1⟩
  have:=(be.fps_own hk).2
  exact⟨by omega,by omega⟩
 refine⟨D+1,[{target:= .collected D,args:=#[]}],W1,{target:= .fn (.func gf) lb,args:=#[.func (.yield (D+1)) #[] #[]]},W1,gf,#[.func (.yield (D+1)) #[] #[]]++lb,W1,?_,?_,?_,?_,fun _=>by omega,?_⟩
 rw[<-hW1,hrec,<-hD];exact run_enterLoop_outer _ _ _ _ _
 simp only[resolve,hg]
 simp[go_sem]
 intro f' hf';trivial
 simp[invoke,go_sem,eg]
 refine(hseq (D+1) J W1 _ hloc (fun k hk=>(hC0 k hk).2) hJ0 (fun C pre A hj=>by subst hJ;obtain⟨L,hi,rfl,hall,_⟩:=hj;exact hRd pre L A hi fun e he=>(hall e he).1) ?_).mono ?_
 intro C pre x A hj hlt hlen
 subst hJ
 obtain⟨L,hi,rfl,hall,hap,hne,hl,hk⟩:=hj
 have hlA:D+1<A.heap.size:=hlt _ (by simp)
 have hDA:D<A.heap.size:=hlt _ (by simp)
 have hy:=run_yield (P:=P) (args:=encs x) hl (by rw[hrec];exact hps x)
 rw[hrec] at hy
 refine⟨fn,_,assign,body,hy,roundIn_of_wpIn hfn ?_⟩
 rw[ht1 x]
 refine hassign _ x A _ fun a' A1 E1 hAx hE1=>?_
 have hxA:=hE1.ext
 have hl1:A1.heap[D+1]? =some (.loop (rec .ready)):=(hxA.block hlA).trans hl
 have hk1:A1.heap[D]? =some (.deferred (some [])):=(hxA.block hDA).trans hk
 have hEo:=hE1.ok E1 (by simp)
 have hEn:∀k∈E1.fp,A.heap.size<=k/\k<A1.heap.size:=fun k hk'=>⟨(hEo.own k hk').1.resolve_left (by simp),(hEo.own k hk').2⟩
 have hsA1:=hxA.size
 refine⟨_,run_beginRound hl1 (by rw[hrec]),?_⟩
 obtain⟨A2,hA2⟩:∃A2,A1.putObj (D+1) (.loop {rec .ready with state:= .busy})=A2:=⟨_,rfl⟩
 have hsz:A2.heap.size=A1.heap.size:=by rw[<-hA2];exact kG _ _ _
 have hoth:∀k,k≠D+1->A2.heap[k]? =A1.heap[k]? :=fun k hk'=>by rw[<-hA2];exact World.putObj_heap_other hk'
 have hbusy:A2.heap[D+1]? =some (.loop {rec .ready with state:= .busy}):=by rw[<-hA2];exact World.putObj_heap_same (by omega)
 have hLlt:∀k∈fps L,k<A.heap.size:=fun k hk'=>hlt k (List.mem_cons_of_mem _ (List.mem_cons_of_mem _ hk'))
 have bC:St A2 (fps (L++[E1])) (L++[E1]) A2:=by
  refine⟨Upd.refl _ _,fun e he=>?_,?_⟩
  have hin:∀k∈e.fp,k∈fps (L++[E1]):=fun k hk'=>f8.2 ⟨e,he,hk'⟩
  rcases List.mem_append.1 he with he|he
  refine⟨(hall e he).2 A A2 (fun k hk'=>?_) (hall e he).1,(hall e he).2,fun k hk'=>⟨.inl (hin k hk'),?_⟩⟩
  have h1:=f8.2 ⟨e,he,hk'⟩
  exact(hoth k (hne k h1).1).trans (hxA.block (hLlt k h1))
  have:=hLlt k (f8.2 ⟨e,he,hk'⟩);omega
  rw[List.mem_singleton] at he
  subst he
  exact⟨hEo.loc A1 A2 (fun k hk'=>hoth k (by have:=(hEn k hk').1;omega)) hEo.holds,hEo.loc,fun k hk'=>⟨.inl (hin k hk'),by have:=(hEn k hk').2;omega⟩⟩
  rw[List.pairwise_append]
  refine⟨hap,List.pairwise_singleton _ _,fun a ha b hb k hk' hkb=>?_⟩
  rw[List.mem_singleton] at hb
  subst hb
  have h1:=hLlt k (f8.2 ⟨a,ha,hk'⟩)
  have h2:=(hEn k hkb).1
  omega
 rw[hA2]
 have hfin:∀k∈fps (L++[E1]),k∈fps L\/A.heap.size<=k:=fun k hk'=>by
  obtain⟨e,he,hke⟩:=f8.1 hk'
  rcases List.mem_append.1 he with he|he
  exact .inl (f8.2 ⟨e,he,hke⟩)
  rw[List.mem_singleton] at he;subst he;exact .inr (hEn k hke).1
 refine wpIn_mono (hbody _ pre x A2 L a' E1 hi hlen hAx bC) ?_
 rintro e a W3 ⟨rfl,L',hi',hs'⟩
 have hno:∀m,m=D+1\/m=D->m∉fps (L++[E1]):=fun m hm hmm=>by
  rcases hfin m hmm with h1|h1
  have:=hne m h1;rcases hm with rfl|rfl<;>simp at this
  omega
 have hl3:W3.heap[D+1]? =some (.loop {rec .ready with state:= .busy}):=(hs'.upd.block _ (by omega) (hno _ (.inl rfl))).trans hbusy
 have hk3:W3.heap[D]? =some (.deferred (some [])):=(hs'.upd.block _ (by omega) (hno _ (.inr rfl))).trans ((hoth D (by omega)).trans hk1)
 have hsz3:=hs'.upd.size
 have hne':∀k∈fps L',k≠D+1/\k≠D:=fun k hk'=>by
  rcases(hs'.fps_own hk').1 with h1|h1
  rcases hfin k h1 with h2|h2
  exact hne k h2
  exact⟨by omega,by omega⟩
  exact⟨by omega,by omega⟩
 refine⟨_,_,run_endRound none hl3,rfl,(D+1)::D::fps L',?_⟩
 have hupA:Upd ((D+1)::D::fps L) A A2:=by rw[<-hA2];exact(Upd.mono (S:=[]) (Upd.of_ext hxA) (fun k _ hk'=>by simp at hk')).putObj (.inl (List.mem_cons_self ..))
 have hup:Upd ((D+1)::D::fps L) A W3:=hupA.join hs'.upd (fun i hi=>by
  rcases hfin i hi with h1|h1
  exact Or.inl (List.mem_cons_of_mem _ (List.mem_cons_of_mem _ h1))
  exact .inr h1)
 have h3l:D+1<W3.heap.size:=by omega
 refine⟨hup.putObj (.inl (by simp)),fun e he=>?_,List.pairwise_singleton _ _⟩
 rw[List.mem_singleton] at he
 subst he
 refine⟨⟨L',hi',rfl,fun e he=>⟨(hs'.ok e he).loc W3 _ (fun k hk'=>World.putObj_heap_other (hne' k (f8.2 ⟨e,he,hk'⟩)).1) (hs'.ok e he).holds,(hs'.ok e he).loc⟩,hs'.apart,hne',?_,?_⟩,hloc _ _,fun k hk'=>?_⟩
 rw[hrec];exact World.putObj_heap_same h3l
 exact(World.putObj_heap_other (by omega)).trans hk3
 rw[kG]
 have hk':k∈(D+1)::D::fps L':=hk'
 rcases List.mem_cons.1 hk' with rfl|hk'
 exact⟨.inl (by simp),h3l⟩
 rcases List.mem_cons.1 hk' with rfl|hk'
 exact⟨.inl (by simp),by omega⟩
 have h6:=hs'.fps_own hk'
 refine⟨?_,h6.2⟩
 rcases h6.1 with h7|h7
 rcases hfin k h7 with h8|h8
 exact .inl (List.mem_cons_of_mem _ (List.mem_cons_of_mem _ h8))
 exact .inr h8
 exact .inr (by omega)
 rintro e W2 ⟨⟨v,rfl⟩,C,xs,hs,hz⟩
 have hjo:=hs.ok (eJ J C xs) (by simp)
 have hj:=hjo.holds
 subst hJ
 obtain⟨L,hi,rfl,hall,hap,hne,hl,hk⟩:=hj
 have hend:=run_endLoop (P:=P) hl (by rw[hrec];simp)
 have hpend:(rec .ready).pending=none:=by rw[hrec]
 rw[hpend] at hend
 refine⟨none,_,hend,hdone D _ L xs hi hz ?_⟩
 have hCo:∀k∈(D+1)::D::fps L,((k∈bor\/w0.heap.size<=k)/\k<W2.heap.size):=fun k hk'=>by
  have h5:=hjo.own k hk'
  refine⟨?_,h5.2⟩
  rcases h5.1 with h6|h6
  exact(hC0 k h6).1
  exact .inr (by omega)
 have hup:Upd bor w0 W2:=(be.upd.join (show Upd [] w W1 from Upd.of_ext hx1) (fun i hi=>by cases hi)).join hs.upd (fun i hi=>(hC0 i hi).1)
 have hlA:=(hCo (D+1) (by simp)).2
 have hw0D:w0.heap.size<=D+1:=by omega
 refine⟨hup.putObj (.inr hw0D),fun e he=>?_,?_⟩
 rcases List.mem_append.1 he with he|he
 refine⟨(hall e he).2 W2 _ (fun k hk'=>World.putObj_heap_other (hne k (f8.2 ⟨e,he,hk'⟩)).1) (hall e he).1,(hall e he).2,fun k hk'=>?_⟩
 rw[kG]
 exact hCo k (List.mem_cons_of_mem _ (List.mem_cons_of_mem _ (f8.2 ⟨e,he,hk'⟩)))
 rw[List.mem_singleton] at he
 subst he
 refine⟨(World.putObj_heap_other (by omega)).trans hk,KY D,fun k hk'=>?_⟩
 have:k=D:=by simpa[lv] using hk'
 subst this
 rw[kG]
 exact⟨.inr (by omega),by have:=(hCo k (by simp)).2;omega⟩
 rw[List.pairwise_append]
 refine⟨hap,List.pairwise_singleton _ _,fun a ha b hb k hk' hkb=>?_⟩
 rw[List.mem_singleton] at hb
 subst hb
 have:k=D:=by simpa[lv] using hkb
 exact(hne k (f8.2 ⟨a,ha,hk'⟩)).2 this
end
section
open Go.RowKit
section
variable{P:Program}{ops:Array Oper}{Q:Exit->Act->World->Prop}{i:Nat}{rest:List Nat}{o:Oper}{t:List Value}{d0:List Deferred}{W:World}{d:Tmp}{t':List Value}
theorem Gk{a:Operand->Value}{c:Call}{x:Operand}{l:Nat}{args:Array Value}(h:o.op= .call c)(hcal:c.callee= .value x)(hx:a x= .func (.yield l) #[] #[])(ha:c.args.map a=args){r:Result Next}(hr:(Instr.yield l args).run P W=r):(execOp a o).run P W=r:=by
 subst hr
 unfold execOp;rw[h]
 simp only[resolve,hcal,hx,Deferred.ofValue,ha,Sem.run_bind,Sem.run_pure,Result.andThen_ok,invoke]
 simp
theorem cf{v:Value}(ho:ops[i]? =some o)(hg:Region.wanted o (yielded ops t.toArray)=true)(hd:o.dst=some d)(hr:(execOp (Act.eval ⟨t.toArray,d0⟩) o).run P W= .ok (.value v) W)(ht:t.set d v=t')(h:wpOpsIn Fence.wide 2 P ops Q rest ⟨t'.toArray,d0⟩ W):wpOpsIn Fence.wide 2 P ops Q (i::rest) ⟨t.toArray,d0⟩ W:=by
 unfold wpOpsIn
 simp only[ho]
 rw[if_pos hg]
 refine⟨fun _ _=>trivial,?_⟩
 show o.uponIn Fence.wide 2 P _ _ Q ((execOp (Act.eval ⟨t.toArray,d0⟩) o).run P W)
 rw[hr,Oper.uponIn_value,hd]
 show wpOpsIn Fence.wide 2 P ops Q rest ⟨t.toArray.setIfInBounds d v,d0⟩ W
 rw[List.setIfInBounds_toArray,ht]
 exact h
theorem lL(ho:ops[i]? =some o)(hg:Region.wanted o (yielded ops t.toArray)=false)(hd:o.dst=some d)(ht:t.set d undef=t')(h:wpOpsIn Fence.wide 2 P ops Q rest ⟨t'.toArray,d0⟩ W):wpOpsIn Fence.wide 2 P ops Q (i::rest) ⟨t.toArray,d0⟩ W:=by
 unfold wpOpsIn
 simp only[ho]
 rw[if_neg (by rw[hg];decide)]
 refine⟨fun _ _=>trivial,?_⟩
 rw[hd]
 show wpOpsIn Fence.wide 2 P ops Q rest ⟨t.toArray.setIfInBounds d undef,d0⟩ W
 rw[List.setIfInBounds_toArray,ht]
 exact h
theorem KK{l:Nat}{args:Array Value}{R:World->Prop}(ho:ops[i]? =some o)(hg:Region.wanted o (yielded ops t.toArray)=true)(hd:o.dst=some d)
  (hr:∀r,(Instr.yield l args).run P W=r->(execOp (Act.eval ⟨t.toArray,d0⟩) o).run P W=r) (hy:YieldAt Fence.wide 1 P l args W fun e B=>e= .returned (.bool true)/\R B) (ht:t.set d (.bool true)=t') (h:∀B,R B->wpOpsIn Fence.wide 2 P ops Q rest ⟨t'.toArray,d0⟩ B):wpOpsIn Fence.wide 2 P ops Q (i::rest) ⟨t.toArray,d0⟩ W:=by
 obtain⟨fn,tmps,assign,body,h1,h2⟩:=hy
 unfold wpOpsIn
 simp only[ho]
 rw[if_pos hg]
 refine⟨fun _ _=>trivial,?_⟩
 show o.uponIn Fence.wide 2 P _ _ Q ((execOp (Act.eval ⟨t.toArray,d0⟩) o).run P W)
 rw[hr _ h1,Oper.uponIn_round]
 refine⟨fun hh=>by simp[Fence.wide] at hh,h2.mono ?_⟩
 rintro e B ⟨rfl,hB⟩
 show wpOpsIn Fence.wide 2 P ops Q rest (Act.put ⟨t.toArray,d0⟩ o.dst (.bool true)) B
 rw[hd]
 show wpOpsIn Fence.wide 2 P ops Q rest ⟨t.toArray.setIfInBounds d (.bool true),d0⟩ B
 rw[List.setIfInBounds_toArray,ht]
 exact h B hB
theorem Es{a:Act}(h:Q .normal a W):wpOpsIn Fence.wide 2 P ops Q [] a W:=h
end
theorem Nq{α:Type}{w A B:World}{bor C:List Nat}{L:List Ent}{J:List Nat->List α->World->Prop}{pre xs:List α}(h:St w bor (eJ J C pre::L) A){C':List Nat}(hj:St A C [eJ J C' xs] B):St w bor (eJ J C' xs::L) B:=by
 have hC:=h.ok (eJ J C pre) (List.mem_cons_self ..)
 have hp:=List.pairwise_cons.1 h.apart
 have hN:=hj.ok (eJ J C' xs) (by simp)
 refine⟨h.upd.join hj.upd (fun i hi=>(hC.own i hi).1),fun e he=>?_,List.pairwise_cons.2 ⟨fun e he k hk hke=>?_,hp.2⟩⟩
 rcases List.mem_cons.1 he with rfl|he'
 refine⟨hN.holds,hN.loc,fun k hk=>⟨?_,(hN.own k hk).2⟩⟩
 rcases(hN.own k hk).1 with h1|h1
 exact(hC.own k h1).1
 exact .inr (Nat.le_trans h.upd.size h1)
 have h2:=h.ok e (List.mem_cons_of_mem _ he')
 exact h2.keep hj.upd (fun k hk hkC=>hp.1 e he' k hkC hk)
 have h2:=h.ok e (List.mem_cons_of_mem _ he)
 rcases(hN.own k hk).1 with h1|h1
 exact hp.1 e he k h1 hke
 have:=(h2.own k hke).2;omega
def nI(q b:Nat)(PA:Option Addr)(Pc:Nat)(P0:List ShT)(pre:List Nat)(A:World):Prop:=Blk A q 30 #[.pointer (some ⟨b,0,none⟩)]/\∃D GA gc Ps,DkO A b D PA Pc GA gc Ps/\Ps.length=P0.length/\∀j,j∉pre->Ps[j]? =P0[j]?
theorem nI.c0{q b Pc:Nat}{PA:Option Addr}{P0:List ShT}{pre:List Nat}{A:World}(h:nI q b PA Pc P0 pre A):A.cell? ⟨q,0,none⟩=some (po b 0):=h.1.cell 0
theorem nI.c1{q b Pc:Nat}{PA:Option Addr}{P0:List ShT}{pre:List Nat}{A:World}(h:nI q b PA Pc P0 pre A):A.cell? ⟨b,0,none⟩=some (.slice PA P0.length Pc):=by
 obtain⟨_,D,GA,gc,Ps,hO,hlen,_⟩:=h
 have h1:=hO.blkL.cell 0
 have h2:D.pgs.length=P0.length:=by rw[<-hlen,<-hO.ab,List.length_map]
 rw[h1,<-h2];rfl
theorem nI.at_{q b Pc:Nat}{PA:Option Addr}{P0:List ShT}{pre:List Nat}{A:World}(h:nI q b PA Pc P0 pre A){j:Nat}{t:ShT}(hj:j∉pre)(ht:P0[j]? =some t):∃Ps:List ShT,At A PA (Ps.flatMap shC)/\Ps[j]? =some t:=by
 obtain⟨_,D,GA,gc,Ps,hO,hlen,hun⟩:=h
 exact⟨Ps,hO.at_,(hun j hj).trans ht⟩
def KS(P0:List ShT)(pre:List Nat)(x:Nat):Prop:=(∃t,P0[x]? =some t/\t.ws≠[])/\∀y∈pre,y<x
def WrZ(P0:List ShT)(xs:List Nat):Prop:=∀j t,P0[j]? =some t->t.ws≠[]->j∈xs
def wrA(PA:Option Addr)(x:Nat):Array Value:=#[.pointer (some ((ad PA).add (x*513)))]
def NI(P0:List ShT)(C0:List Nat)(J:List Nat->List Nat->World->Prop)(w:World)(e:Ending)(B:World):Prop:=(∃v,e= .returned v)/\∃C xs,St w C0 [eJ J C xs] B/\WrZ P0 xs
theorem BS{P:Program}{id:Nat}{ops:Array Oper}{Q:Exit->Act->World->Prop}{a:Act}{W:World}(h:wpOpsIn Fence.wide 2 P ops Q (List.range ops.size) a W):(Code.region id ops false).wp P Q a W:=
 (wpIn_wide (n:=2)).1 (wpIn_region h)
theorem ym(l q b:Nat)(PA:Option Addr)(Pc:Nat)(P0:List ShT)(J:List Nat->List Nat->World->Prop)(C0:List Nat)(w:World)(hloc:∀C pre,(eJ J C pre).loc)(hlt:∀k∈C0,k<w.heap.size)(hJ0:J C0 [] w)(hRd:∀C pre A,J C pre A->nI q b PA Pc P0 pre A)(hY:∀C pre x A,J C pre A->(∀k∈C,k<A.heap.size)->KS P0 pre x->YieldAt Fence.wide 1 Tryz.prog l (wrA PA x) A fun e B=>e= .returned (.bool true)/\∃C',St A C [eJ J C' (pre++[x])] B)(hn:P0.length<=400):
  Calls Tryz.prog 142 #[.func (.yield l) #[] #[],po q 0] w (NI P0 C0 J w):=by
 have st0:St w C0 [eJ J C0 []] w:=St.lend (E:=eJ J C0 []) hJ0 (hloc _ _) hlt
 go_enter Tryz.func142,Tryz.ntmps142
 have ak:=st0
 refine wq (sqr ?_)
 refine sql (vp b) ak (fun cx=>ae rfl (by kernel_rfl) (cx.ou 1) (nI.c0 (hRd _ _ _ (CtxV.holdF cx (cx.init 0 _ rfl) rfl)))) ?_
 refine sqp [.k 5 (vp b),.k 6 (vp b)] ?_
 refine sql (.slice PA P0.length Pc) ak (fun cx=>ae rfl (by kernel_rfl) (cx.ou 6) (nI.c1 (hRd _ _ _ (CtxV.holdF cx (cx.init 0 _ rfl) rfl)))) ?_
 refine sqp [.k 8 (vi ((P0.length:Int))),.k 9 (vi 0)] ?_
 refine aa (wp_block ?_)
 refine aT (fun t_ mz az W=>∃j:Nat,∃Cj:List Nat,∃pre:List Nat,j<=P0.length/\(∀y∈pre,y<j)/\(∀i t,i<j->P0[i]? =some t->t.ws≠[]->i∈pre)/\mz=P0.length-j/\az=⟨(ovr (jv az) [(3,3,1,[]),(5,9,0,[vi ((j:Int))]),(0,10,24,[])] t_).toArray,[]⟩/\St w C0 [eJ J Cj pre] W) (P0.length-0) ?_ ?_
 exact⟨0,C0,[],Nat.zero_le _,(fun y hy=>by cases hy),fun i t hi=>absurd hi (Nat.not_lt_zero _),rfl,(by kernel_rfl),ak.pk [0]⟩
 rintro n7 a7 W7 ⟨j,Cj,pre,hj,hup,hin,rfl,hj_,aY⟩
 refine ovz hj_ fun Ff=>?_
 refine wq (sqr (sqp [.k 10 (.bool (decide ((j:Int)<(P0.length:Int))))] ?_))
 refine aa (wq (wds (fun pJ qK=>?_) fun pJ qK=>?_))
 refine wp_skip (aa (wq (wp_block (wq (sqr (sqp [.m 11 9,.m 3 11] ?_))))))
 refine aa (wq ?_)
 have hR12_:=hRd _ _ _ (aY.get 0 rfl).holds
 have hjl:j<P0.length:=by omega
 obtain⟨t,htj⟩:=Cd hjl
 have hjn:j∉pre:=fun h_=>by have:=hup j h_;omega
 obtain⟨Ps_,hA_,htk⟩:=hR12_.at_ hjn htj
 have hPsl:=(List.getElem?_eq_some_iff.1 htk).1
 refine BS ?_
 rcases List.eq_nil_or_concat t.ws with hw_|⟨wl,wz,hw_⟩
 have hwl_:decide ((0:Int)<(t.ws.length:Int))=false:=by rw[hw_];rfl
 refine cf (v:=vp b) rfl rfl rfl (ae rfl (by kernel_rfl) rfl hR12_.c0) (by dsimp only[List.set]) ?_
 refine cf (v:=vp b) rfl rfl rfl (jZ rfl rfl) (by dsimp only[List.set]) ?_
 refine cf (v:=vp b) rfl rfl rfl (iQ (k:=0) (n:=0) rfl (by kernel_rfl) rfl rfl) (by dsimp only[List.set]) ?_
 refine cf (v:= .slice PA P0.length Pc) rfl rfl rfl (ae rfl (by kernel_rfl) rfl hR12_.c1) (by dsimp only[List.set]) ?_
 refine cf (v:=vi ((j:Int))) rfl rfl rfl (cK rfl rfl) (by dsimp only[List.set]) ?_
 refine cf (v:= .pointer (some ((ad PA).add (j*513)))) rfl rfl rfl (aG (e:=144) (m:=j) (sz:=513) rfl (by kernel_rfl) (by kernel_rfl) rfl rfl (by omega) (by omega) hA_ (bp (sz:=513) dq (by decide) (by omega))) (by dsimp only[List.set]) ?_
 refine cf (v:= .pointer (some ((ad PA).add (j*513+512)))) rfl rfl rfl (bq rfl (by kernel_rfl) rfl) (by dsimp only[List.set]) ?_
 refine cf (v:= .slice t.A t.ws.length t.c) rfl rfl rfl (ae rfl (by kernel_rfl) rfl (At.eltc (f:=shC) (k:=512) dq hA_ htk (mD t))) (by dsimp only[List.set]) ?_
 refine cf (v:=vi ((t.ws.length:Int))) rfl rfl rfl (pK (e:=142) rfl (by kernel_rfl) rfl) (by dsimp only[List.set]) ?_
 refine cf (v:= .bool false) rfl rfl rfl ((od (v:= .bool (decide ((0:Int)<(t.ws.length:Int)))) rfl rfl rfl rfl).trans (by rw[hwl_])) (by dsimp only[List.set]) ?_
 refine cf (v:= .bool false) rfl rfl rfl (cK rfl rfl) (by dsimp only[List.set]) ?_
 refine lL rfl rfl rfl (by dsimp only[List.set]) ?_
 refine lL rfl rfl rfl (by dsimp only[List.set]) ?_
 refine lL rfl rfl rfl (by dsimp only[List.set]) ?_
 refine lL rfl rfl rfl (by dsimp only[List.set]) ?_
 refine lL rfl rfl rfl (by dsimp only[List.set]) ?_
 refine lL rfl rfl rfl (by dsimp only[List.set]) ?_
 refine lL rfl rfl rfl (by dsimp only[List.set]) ?_
 refine lL rfl rfl rfl (by dsimp only[List.set]) ?_
 refine lL rfl rfl rfl (by dsimp only[List.set]) ?_
 refine cf (v:= .bool false) rfl rfl rfl (uj rfl rfl rfl) (by dsimp only[List.set]) ?_
 have hup2:∀y∈pre,y<j+1:=fun y hy=>by have:=hup y hy;omega
 have hin2:∀i t,i<j+1->P0[i]? =some t->t.ws≠[]->i∈pre:=fun i t2 hi h1 h2=>by
  by_cases e_:i=j
  subst e_;rw[htj] at h1;cases h1;exact absurd hw_ h2
  exact hin i t2 (by omega) h1 h2
 refine Es ?_
 refine aa (wcf rfl (wp_skip (av (aa (sqr (sqp [sI 33 ((j:Int)+1) (by omega),.m 9 33] ?_))))))
 refine aa ?_
 refine⟨P0.length-((j+1)),by omega,?_⟩
 exact⟨(j+1),Cj,_,by omega,hup2,hin2,rfl,(by kernel_rfl),aY.pk [0]⟩
 have hwl_:decide ((0:Int)<(t.ws.length:Int))=true:=by rw[hw_];simp
 have hwn_:t.ws≠[]:=by rw[hw_];simp
 refine cf (v:=vp b) rfl rfl rfl (ae rfl (by kernel_rfl) rfl hR12_.c0) (by dsimp only[List.set]) ?_
 refine cf (v:=vp b) rfl rfl rfl (jZ rfl rfl) (by dsimp only[List.set]) ?_
 refine cf (v:=vp b) rfl rfl rfl (iQ (k:=0) (n:=0) rfl (by kernel_rfl) rfl rfl) (by dsimp only[List.set]) ?_
 refine cf (v:= .slice PA P0.length Pc) rfl rfl rfl (ae rfl (by kernel_rfl) rfl hR12_.c1) (by dsimp only[List.set]) ?_
 refine cf (v:=vi ((j:Int))) rfl rfl rfl (cK rfl rfl) (by dsimp only[List.set]) ?_
 refine cf (v:= .pointer (some ((ad PA).add (j*513)))) rfl rfl rfl (aG (e:=144) (m:=j) (sz:=513) rfl (by kernel_rfl) (by kernel_rfl) rfl rfl (by omega) (by omega) hA_ (bp (sz:=513) dq (by decide) (by omega))) (by dsimp only[List.set]) ?_
 refine cf (v:= .pointer (some ((ad PA).add (j*513+512)))) rfl rfl rfl (bq rfl (by kernel_rfl) rfl) (by dsimp only[List.set]) ?_
 refine cf (v:= .slice t.A t.ws.length t.c) rfl rfl rfl (ae rfl (by kernel_rfl) rfl (At.eltc (f:=shC) (k:=512) dq hA_ htk (mD t))) (by dsimp only[List.set]) ?_
 refine cf (v:=vi ((t.ws.length:Int))) rfl rfl rfl (pK (e:=142) rfl (by kernel_rfl) rfl) (by dsimp only[List.set]) ?_
 refine cf (v:= .bool true) rfl rfl rfl ((od (v:= .bool (decide ((0:Int)<(t.ws.length:Int)))) rfl rfl rfl rfl).trans (by rw[hwl_])) (by dsimp only[List.set]) ?_
 refine cf (v:= .bool true) rfl rfl rfl (cK rfl rfl) (by dsimp only[List.set]) ?_
 refine cf (v:= .func (.yield l) #[] #[]) rfl rfl rfl (cK rfl rfl) (by dsimp only[List.set]) ?_
 refine cf (v:=vp b) rfl rfl rfl (ae rfl (by kernel_rfl) rfl hR12_.c0) (by dsimp only[List.set]) ?_
 refine cf (v:=vp b) rfl rfl rfl (jZ rfl rfl) (by dsimp only[List.set]) ?_
 refine cf (v:=vp b) rfl rfl rfl (iQ (k:=0) (n:=0) rfl (by kernel_rfl) rfl rfl) (by dsimp only[List.set]) ?_
 refine cf (v:= .slice PA P0.length Pc) rfl rfl rfl (ae rfl (by kernel_rfl) rfl hR12_.c1) (by dsimp only[List.set]) ?_
 refine cf (v:=vi ((j:Int))) rfl rfl rfl (cK rfl rfl) (by dsimp only[List.set]) ?_
 refine cf (v:= .pointer (some ((ad PA).add (j*513)))) rfl rfl rfl (aG (e:=144) (m:=j) (sz:=513) rfl (by kernel_rfl) (by kernel_rfl) rfl rfl (by omega) (by omega) hA_ (bp (sz:=513) dq (by decide) (by omega))) (by dsimp only[List.set]) ?_
 have hjj_:=aY.get 0 rfl
 have hyy_:=hY Cj pre j _ hjj_.holds (fun k hk=>(hjj_.own k hk).2) ⟨⟨t,htj,hwn_⟩,fun y hy=>hup y hy⟩
 refine KK (args:=wrA PA j) (R:=fun B=>∃C',St _ Cj [eJ J C' (pre++[j])] B) rfl rfl rfl (fun r hr=>Gk (args:=wrA PA j) rfl rfl rfl (aw rfl) hr) hyy_ (by dsimp only[List.set]) fun zj ⟨C2,hJ2⟩=>?_
 have fw:=Nq (L:=[]) aY hJ2
 refine cf (v:= .bool false) rfl rfl rfl (AX rfl rfl rfl) (by dsimp only[List.set]) ?_
 refine cf (v:= .bool false) rfl rfl rfl (tU rfl rfl rfl) (by dsimp only[List.set]) ?_
 have hup2:∀y∈pre++[j],y<j+1:=fun y hy=>by
  rcases List.mem_append.1 hy with h_|h_
  have:=hup y h_;omega
  rw[List.mem_singleton] at h_;omega
 have hin2:∀i t,i<j+1->P0[i]? =some t->t.ws≠[]->i∈pre++[j]:=fun i t2 hi h1 h2=>by
  by_cases e_:i=j
  subst e_;simp
  exact List.mem_append_left _ (hin i t2 (by omega) h1 h2)
 refine Es ?_
 refine aa (wcf rfl (wp_skip (av (aa (sqr (sqp [sI 33 ((j:Int)+1) (by omega),.m 9 33] ?_))))))
 refine aa ?_
 refine⟨P0.length-((j+1)),by omega,?_⟩
 exact⟨(j+1),C2,_,by omega,hup2,hin2,rfl,(by kernel_rfl),fw.pk [0]⟩
 refine wp_exit (aq (aq (bj ?_)))
 refine bpe (.tuple #[]) (by simp[results,Tryz.results142,go_sem]) ?_
 exact⟨⟨_,rfl⟩,Cj,pre,aY,fun i t h1 h2=>hin i t (by have:=(List.getElem?_eq_some_iff.1 h1).1;omega) h1 h2⟩
theorem yP(q b:Nat)(PA:Option Addr)(Pc:Nat)(P0:List ShT)(hn:P0.length<=400):LF Tryz.prog 142 #[po q 0] (wrA PA) (KS P0) (nI q b PA Pc P0) (WrZ P0):=fun l J W C0 hloc hlt hJ0 hRd hY=>
 callsIn_wide.2 (ym l q b PA Pc P0 J C0 W hloc hlt hJ0 hRd hY hn)
end
section
open Go.RowKit
def syS(x:ShD):ShD:=⟨rdT x,[]⟩
def syD(D:DkM):DkM:={D with pgs:=D.pgs.map syS}
def pbc:Value->Nat
 | .func _ _ cap=>pb (cap.getD 0 undef)
 |_=>0
theorem DkO.ofE{A:World}{b:Nat}{D:DkM}{PA:Option Addr}{Pc:Nat}{GA:Option Addr}{gc:Nat}{Ps2:List ShT}(hlen:Ps2.length=D.pgs.length)(h1:Blk A b 100 (dkC D PA Pc GA gc))
  (h2:(eO 144 513 (.slice PA D.pgs.length Pc) D.pgs.length (Ps2.flatMap shC)).holds A) (h3:(eO 5 1 (.slice GA D.log.size gc) D.log.size ((bn D.log).map (Value.int .u8))).holds A) (h4:(eWs Ps2).holds A):
  DkO A b {D with pgs:=Ps2.map d8} PA Pc GA gc Ps2:=by
 refine⟨?_,At.of_ownN h2,rfl,lJ.own h3,fun p hp=>EE h4 hp⟩
 rw[dkC] at h1 |-
 dsimp only
 rw[List.length_map,hlen];exact h1
theorem Kx{R:ShD->ShD->Prop}{P0 A B:List ShT}{t t2:ShT}{pre:List Nat}(hn:A.length∉pre)(hun:∀j,j∉pre->(A++t::B)[j]? =P0[j]?)(hdo:∀j∈pre,∀u v,P0[j]? =some u->(A++t::B)[j]? =some v->R (d8 u) (d8 v))(hR:R (d8 t) (d8 t2)):
  (∀j,j∉pre++[A.length]->(A++t2::B)[j]? =P0[j]?)/\∀j∈pre++[A.length],∀u v,P0[j]? =some u->(A++t2::B)[j]? =some v->R (d8 u) (d8 v):=by
 have hne:∀j,j≠A.length->(A++t2::B)[j]? =(A++t::B)[j]? :=fun j hj=>by
  rcases Nat.lt_or_ge j A.length with h|h
  rw[List.getElem?_append_left h,List.getElem?_append_left h]
  rw[List.getElem?_append_right h,List.getElem?_append_right h]
  obtain⟨m,hm⟩:∃m,j-A.length=m+1:=⟨j-A.length-1,by omega⟩
  rw[hm];rfl
 have hat:∀x:ShT,(A++x::B)[A.length]? =some x:=fun x=>by rw[List.getElem?_append_right (Nat.le_refl _),Nat.sub_self];rfl
 refine⟨fun j hj=>?_,fun j hj u v hu hv=>?_⟩
 have h1:j∉pre/\j≠A.length:=⟨fun h=>hj (List.mem_append_left _ h),fun h=>hj (by simp[h])⟩
 rw[hne j h1.2];exact hun j h1.1
 by_cases e:j=A.length
 subst e
 rw[hat] at hv
 have h2:=hun _ hn
 rw[hat,hu] at h2
 cases hv;cases h2
 exact hR
 rw[hne j e] at hv
 refine hdo j ?_ u v hu hv
 rcases List.mem_append.1 hj with h|h
 exact h
 exact absurd (List.mem_singleton.1 h) e
theorem J1{R:ShD->ShD->Prop}{Ps Ps2:List ShT}{xs:List Nat}(hun:∀j,j∉xs->Ps2[j]? =Ps[j]?)(hdo:∀j∈xs,∀u v,Ps[j]? =some u->Ps2[j]? =some v->R (d8 u) (d8 v))(hZ:WrZ Ps xs)(h0:∀x:ShD,x.ws=[]->R x x):
  ∀(j:Nat) x y,(Ps.map d8)[j]? =some x->(Ps2.map d8)[j]? =some y->R x y:=fun j x y hx hy=>by
 rw[List.getElem?_map] at hx hy
 obtain⟨u,hu,rfl⟩:=Option.map_eq_some_iff.1 hx
 obtain⟨v,hv,rfl⟩:=Option.map_eq_some_iff.1 hy
 by_cases h:j∈xs
 exact hdo j h u v hu hv
 rw[hun j h,hu] at hv
 cases hv
 refine h0 _ ?_
 by_cases hw:u.ws=[]
 exact hw
 exact absurd (hZ j u hu hw) h
theorem JK(x:ShD)(h:x.ws=[]):x=syS x:=by
 obtain⟨s,ws⟩:=x
 dsimp only at h
 subst h;rfl
theorem J3{Ps Ps2:List ShT}(hl:Ps2.length=Ps.length)(h:∀(j:Nat) x y,(Ps.map d8)[j]? =some x->(Ps2.map d8)[j]? =some y->y=syS x):Ps2.map d8=(Ps.map d8).map syS:=by
 apply List.ext_getElem?
 intro j
 rcases hx:(Ps.map d8)[j]? with _|x
 have h1:=List.getElem?_eq_none_iff.1 hx
 rw[List.getElem?_map (f:=syS),hx,List.getElem?_eq_none (by rw[List.length_map] at h1 |-;omega)];rfl
 have h1:=(List.getElem?_eq_some_iff.1 hx).1
 obtain⟨y,hy⟩:∃y,(Ps2.map d8)[j]? =some y:=⟨_,List.getElem?_eq_getElem (by rw[List.length_map] at h1 |-;omega)⟩
 rw[hy,List.getElem?_map (f:=syS),hx,h j x y hx hy];rfl
theorem yy(b:Nat)(w:World):
  Calls Tryz.prog 84 #[po b 0] w ((fun w (e:Ending) (w':World)=>∃q,e= .returned (.func (.func 142) #[] #[po q 0])/\St w [] [eB q 30 #[po b 0]] w') w):=by
 go_enter Tryz.func84,Tryz.ntmps84
 have ak:=St.start w
 refine wq (sqr ?_)
 refine bY #[vp b] ak fun ay W1 aA=>?_
 refine sqp [.k 2 (Go.Value.nilFunc)] ?_
 refine aa (wq (sqr ?_))
 refine sqv (.func (.func 142) #[] #[vp ay]) aA (by
   exact sv0 rfl rfl rfl rfl rfl (fun _ _ _ h=>h) fun a c W X cx=>by
    have zm:a (.tmp 1)=vp ay:=(cx.ou 1)
    simp[go_sem,Instr.makeFunc,zm]) fun W3 aV=>?_
 refine sqp [.m 2 3] ?_
 refine aa (wp_ret ?_)
 refine bpr (.func (.func 142) #[] #[vp ay]) (ag Tryz.results84 rpt) ?_
 exact⟨_,rfl,aV⟩
theorem K7(A B:List ShT)(t:ShT)(x:H5):qt ((A++t::B).flatMap shC) (A.length*513) (hvC x)=(A++⟨x,t.A,t.c,t.ws⟩::B).flatMap shC:=by
 have hl:(A.flatMap shC).length=A.length*513:=nX dq A
 have e1:(A++t::B).flatMap shC=A.flatMap shC++(hvC t.s++([.slice t.A t.ws.length t.c]++B.flatMap shC)):=by rw[List.flatMap_append,List.flatMap_cons,shC,List.append_assoc]
 have e2:(A++⟨x,t.A,t.c,t.ws⟩::B).flatMap shC=A.flatMap shC++(hvC x++([.slice t.A t.ws.length t.c]++B.flatMap shC)):=by rw[List.flatMap_append,List.flatMap_cons,shC,List.append_assoc]
 rw[e1,e2,<-hl,sV _ _ _ _ (by rw[cW,cW])]
theorem FU(b b2:Nat)(D:DkM)(fp:List Nat)(w:World)(hB:(eDk b D fp).holds w)(hlt:∀k∈fp,k<w.heap.size)(h2:Blk w b2 30 #[po b 0])(n2:b2∉fp)(hw:∀x∈D.pgs,x.ws.length<=1000000000)(hn:D.pgs.length<=400):
  Calls Tryz.prog 137 #[po b2 0] w (l7 b (syD D) fp w):=by
 have st1:=St.lend hB (dS _ _ _) hlt
 obtain⟨PA,Pc,GA,gc,Ps,Qs,hps,hsub,hfp,hap,hall⟩:=hB
 have st0:=St.unpack st1 hfp hall hap
 subst hsub
 have hPl:Qs.length=D.pgs.length:=by rw[<-hps,List.length_map]
 obtain⟨Ps,rfl⟩:∃z,z=Qs:=⟨_,rfl⟩
 have st2:St w fp [eB b 100 #[.slice PA D.pgs.length Pc,.slice GA D.log.size gc,.int .i64 ((D.fl:Int)),.bool D.off,.bool D.armed,.int .i64 D.left],eO 144 513 (.slice PA D.pgs.length Pc) D.pgs.length (Ps.flatMap shC),eO 5 1 (.slice GA D.log.size gc) D.log.size ((bn D.log).map (Value.int .u8)),eWs Ps] w:=st0
 refine(callsIn_wide (n:=3)).1 (callsIn_of_wp_marks Tryz.func137 rfl trivial (wpIn_wide.2 ?_) rfl)
 simp only[Tryz.ntmps137,List.size_toArray,List.length_cons,List.length_nil,Nat.reduceAdd,Nat.reduceSub,Array.replicate_succ,Array.replicate_zero,List.push_toArray,List.append_toArray,List.nil_append,List.cons_append]
 have ak:=st2
 refine wq (aD [0,1] [] [[],[4]] [] [.c 2 (vp b),.a 3] (fun ix g d X=>match ix with|0=>True|1=>g 3= .func (.func 142) #[] #[vp (pbc (d 3))]/\X 4=eB (pbc (d 3)) 30 #[vp b]|_=>True) [0,1,2,3,4] [0,1] [(2,0,2,4)] ak ?_ ?_ ?_)
 exact fun ix _ _ _ _ _ _ hs hb hx h=>match ix,h with
 |1,h=>by dsimp only;rw[<-hs 3 rfl,<-hb 3 rfl,<-hx 4 rfl];exact h
 |0,_|_+2,_=>trivial
 refine⟨?_,?_,trivial⟩
 exact xs4 rfl id fun cx=>ae rfl (by kernel_rfl) (cx.ou 0) (Blk.cell (h2.upd cx.upd n2) 0)
 refine svA fun i d W X cx=>?_
 refine am.call (al (args:=#[vp b]) rfl cx.sees rfl (by kernel_rfl) (aw (cx.an 0))) ?_
 refine(yy b _).mono ?_
 rintro e W1 ⟨q4,rfl,aM⟩
 refine⟨_,rfl,vQ [eB q4 30 #[vp b]] rfl rfl aM (fun g l X' hs hb hv hN=>?_)⟩
 have aJ:=(hv 3 rfl).1;have aQ:=(hv 3 rfl).2
 exact⟨aJ.trans (by rw[aQ];rfl),(by rw[aQ];exact(List.cons.inj hN).1)⟩
 intro g d X W1 hD aA fr aC
 simp only[exq 4 ((dTn (hD 1 lq)).2)] at aA
 simp only[ed 3 ((dTn (hD 1 lq)).1)] at aC
 generalize pbc (d 3)=nO at aA aC
 clear hD;subst aC;clear g d X
 refine aa (wp_block ?_)
 have LR:=aA.pick [0,1,2,3,4] (by decide) rfl
 refine B0 (α:=Nat) LR rfl (enters_of Tryz.func142 (by kernel_rfl) rfl) (encs:=wrA PA) (yP nO b PA Pc Ps (by omega)) (fun _=>rfl) (fun pre L=>∃Ps2:List ShT,Ps2.length=D.pgs.length/\(∀j,j∉pre->Ps2[j]? =Ps[j]?)/\(∀j∈pre,∀u v,Ps[j]? =some u->Ps2[j]? =some v->d8 v=syS (d8 u))/\L=[eB b 100 #[.slice PA D.pgs.length Pc,.slice GA D.log.size gc,vi ((D.fl:Int)),.bool D.off,.bool D.armed,vi D.left],eO 144 513 (.slice PA D.pgs.length Pc) D.pgs.length (Ps2.flatMap shC),eO 5 1 (.slice GA D.log.size gc) D.log.size ((bn D.log).map (Value.int .u8)),eWs Ps2,eB nO 30 #[vp b]]) ⟨Ps,hPl,fun j _=>rfl,(fun j hj=>by cases hj),rfl⟩ ?_ (fun xx a_ E_=>a_=⟨([vp b2,.pointer (some ((ad PA).add (xx*513))),vp b,.func (.func 142) #[] #[vp nO],.pointer (some ((ad PA).add (xx*513))),undef,undef,undef,undef,undef,undef,undef,undef,undef,undef,undef,undef,undef,undef,undef,undef,undef,undef]).toArray,[]⟩/\E_=e00) (fun xx=>[vp b2,undef,vp b,.func (.func 142) #[] #[vp nO],.pointer (some ((ad PA).add (xx*513))),undef,undef,undef,undef,undef,undef,undef,undef,undef,undef,undef,undef,undef,undef,undef,undef,undef,undef]) (fun xx=>by kernel_rfl) ?_ ?_ ?_
 rintro pre L A ⟨Ps2,hl2,hun2,hdo2,rfl⟩ hA_
 exact⟨hA_ (eB nO 30 #[vp b]) (by simp),_,GA,gc,Ps2,DkO.ofE hl2 (hA_ (eB b 100 #[.slice PA D.pgs.length Pc,.slice GA D.log.size gc,vi ((D.fl:Int)),.bool D.off,.bool D.armed,vi D.left]) (by simp)) (hA_ (eO 144 513 (.slice PA D.pgs.length Pc) D.pgs.length (Ps2.flatMap shC)) (by simp)) (hA_ (eO 5 1 (.slice GA D.log.size gc) D.log.size ((bn D.log).map (Value.int .u8))) (by simp)) (hA_ (eWs Ps2) (by simp)),by omega,hun2⟩
 intro rl xx W K hK;exact BC rfl rfl rfl (hK _ _ e00 ⟨rfl,rfl⟩ (St.e00 W)) (by kernel_rfl)
 rintro rl pre xx W4 L4 a4 E4 ⟨Ps2,hl2,hun2,hdo2,rfl⟩ hPx ⟨rfl,rfl⟩ IR
 have bb:St W4 (fps ([eB b 100 #[.slice PA D.pgs.length Pc,.slice GA D.log.size gc,vi ((D.fl:Int)),.bool D.off,.bool D.armed,vi D.left],eO 144 513 (.slice PA D.pgs.length Pc) D.pgs.length (Ps2.flatMap shC),eO 5 1 (.slice GA D.log.size gc) D.log.size ((bn D.log).map (Value.int .u8)),eWs Ps2,eB nO 30 #[vp b]]++[e00])) [eB b 100 #[.slice PA D.pgs.length Pc,.slice GA D.log.size gc,vi ((D.fl:Int)),.bool D.off,.bool D.armed,vi D.left],eO 144 513 (.slice PA D.pgs.length Pc) D.pgs.length (Ps2.flatMap shC),eO 5 1 (.slice GA D.log.size gc) D.log.size ((bn D.log).map (Value.int .u8)),eWs Ps2,eB nO 30 #[vp b],e00] W4:=IR
 clear IR
 obtain⟨⟨t,ht0,hwn⟩,hlt_⟩:=hPx
 have hxn:xx∉pre:=fun h_=>Nat.lt_irrefl _ (hlt_ xx h_)
 have htk:=(hun2 xx hxn).trans ht0
 obtain⟨A,B,rfl,rfl⟩:=yu htk
 have ho5_:=St.outW (L:=[eB b 100 #[.slice PA D.pgs.length Pc,.slice GA D.log.size gc,vi ((D.fl:Int)),.bool D.off,.bool D.armed,vi D.left],eO 144 513 (.slice PA D.pgs.length Pc) D.pgs.length ((A++t::B).flatMap shC),eO 5 1 (.slice GA D.log.size gc) D.log.size ((bn D.log).map (Value.int .u8)),eB nO 30 #[vp b],e00]) (bb.pick [0,1,2,4,5,3] (by decide) rfl)
 simp only[List.cons_append,List.nil_append,ny] at ho5_
 have hwt:t.ws.length<=1000000000:=hw _ (by rw[<-hps];exact List.mem_map.2 ⟨t,List.mem_of_getElem? ht0,rfl⟩)
 have hAl:A.length<D.pgs.length:=by have:=(List.getElem?_eq_some_iff.1 htk).1;omega
 obtain⟨k2,hk2⟩:∃k2:Nat,t.ws.length=k2+1:=⟨t.ws.length-1,by have:=List.length_pos_iff.2 hwn;omega⟩
 obtain⟨x,hxk⟩:∃x,t.ws[k2]? =some x:=⟨_,List.getElem?_eq_getElem (by omega)⟩
 refine wpIn_block (xk [0,0,0,4,12,28,0,64,192,448,960,1984,4092,8188,16381,32765,65533,131071,262143,524287] [[],[],[],[],[],[1],[],[],[],[1],[],[],[6],[6],[],[],[1],[],[],[7]] [[],[],[],[],[],[],[],[],[],[],[],[],[],[],[],[],[7],[],[],[8]] [[],[],[],[],[],[],[],[],[],[],[],[],[],[],[],[],[1],[],[],[7]] [.k 5 (.pointer (some ((ad PA).add (A.length*513)))),.k 6 (.pointer (some ((ad PA).add (A.length*513)))),.k 7 (.pointer (some ((ad PA).add (A.length*513)))),.k 8 (.pointer (some ((ad PA).add (A.length*513)))),.c 9 (.pointer (some ((ad PA).add (A.length*513+512)))),.c 10 (.slice t.A t.ws.length t.c),.k 11 (.pointer (some ((ad PA).add (A.length*513)))),.k 12 (.pointer (some ((ad PA).add (A.length*513)))),.c 13 (.pointer (some ((ad PA).add (A.length*513+512)))),.c 14 (.slice t.A t.ws.length t.c),.k 15 (vi ((t.ws.length:Int))),tJ 16 ((t.ws.length:Int)-1) (k2:Int) (by omega) (by omega),.c 17 (.pointer (some ((ad t.A).add (k2*512)))),.c 18 (.agg (hvC x).toArray),.k 19 (.pointer (some ((ad PA).add (A.length*513)))),.c 20 (.pointer (some ((ad PA).add (A.length*513+0)))),.n,.k 21 (.pointer (some ((ad PA).add (A.length*513)))),.c 22 (.pointer (some ((ad PA).add (A.length*513+512)))),.n] (fun ix g d X=>match ix with|0|1|2|3|4|5|6|7|8|9|10|11|12|13|14|15=>True|16=>X 7=eO 144 513 (.slice PA D.pgs.length Pc) D.pgs.length ((A++⟨x,t.A,t.c,t.ws⟩::B).flatMap shC)|17|18=>True|19=>X 8=eO 144 513 (.slice PA D.pgs.length Pc) D.pgs.length ((A++⟨x,none,0,[]⟩::B).flatMap shC)|_=>True) [0,2,3,4,5,6,8] [4,5,8,9,12,13,15,16,18,19] [(5,0,19,23)] ho5_ ?_ ?_ ?_)
 exact fun ix _ _ _ _ _ _ hs hb hx h=>match ix,h with
 |16,h=>by dsimp only;rw[<-hx 7 rfl];exact h
 |19,h=>by dsimp only;rw[<-hx 8 rfl];exact h
 |0,_|1,_|2,_|3,_|4,_|5,_|6,_|7,_|8,_|9,_|10,_|11,_|12,_|13,_|14,_|15,_|17,_|18,_|_+20,_=>trivial
 refine⟨?_,?_,?_,?_,?_,?_,?_,?_,?_,?_,trivial⟩
 exact xs4 rfl id fun cx=>bq rfl (by kernel_rfl) (cx.an 3)
 exact xs4 rfl id fun cx=>ae rfl (by kernel_rfl) (cx.an 4) (At.eltc (f:=shC) (k:=512) dq (At.of_ownN (cx.ri 1 rfl)) htk (mD t))
 exact xs4 rfl id fun cx=>bq rfl (by kernel_rfl) (cx.an 7)
 exact xs4 rfl id fun cx=>ae rfl (by kernel_rfl) (cx.an 8) (At.eltc (f:=shC) (k:=512) dq (At.of_ownN (cx.ri 1 rfl)) htk (mD t))
 exact xs4 rfl id fun cx=>aG (e:=142) (m:=k2) (sz:=512) rfl (by kernel_rfl) (by kernel_rfl) (cx.an 5) (cx.an 11) (by omega) (by omega) (At.of_ownN (cx.ri 6 rfl)) (by have h_:=nX (f:=hvC) (sz:=512) cW t.ws;show 0<(List.flatMap hvC t.ws).length;omega)
 exact xs4 rfl id fun cx=>bQ (f:=hvC) (m:=k2) (sz:=512) (off:=0) (n:=512) rfl (by kernel_rfl) (by kernel_rfl) (cx.an 12) (List.size_toArray.trans (cW _)) cW (At.of_ownN (cx.ri 6 rfl)) hxk (fun k hk=>by rw[List.getElem?_toArray,Nat.zero_add])
 exact xs4 rfl id fun cx=>bq rfl (by kernel_rfl) (cx.an 14)
 refine svA fun i d W X cx=>?_
 exact r6 (m:=A.length*513) (n:=D.pgs.length) (sz:=513) (k:=512) rfl (cx.an 15) (cx.an 13) (by kernel_rfl) (List.size_toArray.trans (cW _)) (List.all_eq_true.2 (rB _)) cx (cx.init 1 _ rfl) rfl (by omega) (by decide) rfl (K7 A B t x) rfl rfl (fun _ _ _ _ _=>id)
 exact xs4 rfl id fun cx=>bq rfl (by kernel_rfl) (cx.an 17)
 refine svA fun i d W X cx=>?_
 exact pM (m:=A.length*513+512) (n:=D.pgs.length) (sz:=513) rfl (cx.an 18) (cx.co _) (by kernel_rfl) rfl rfl cx (dTn (cx.an 16)) rfl (by omega) rfl (El A B _ none 0 [] 0 rfl) rfl rfl (fun _ _ _ _ _=>id)
 intro g d X W6 hD bN fr aC
 simp only[exq 8 ((dTn (hD 19 lq)))] at bN
 clear hD;subst aC;clear g d X
 refine av ?_
 have hm7_:=fh (bN.pick [0,6,1,2,4] (by decide) rfl) 142 512
 have hm7b_:=St.inW (L:=[eB b 100 #[.slice PA D.pgs.length Pc,.slice GA D.log.size gc,vi ((D.fl:Int)),.bool D.off,.bool D.armed,vi D.left],eO 144 513 (.slice PA D.pgs.length Pc) D.pgs.length ((A++⟨x,none,0,[]⟩::B).flatMap shC),eO 5 1 (.slice GA D.log.size gc) D.log.size ((bn D.log).map (Value.int .u8)),eB nO 30 #[vp b]]) (A:=A) (B:=B) (t:=(⟨x,none,0,[]⟩:ShT)) hm7_
 simp only[List.cons_append,List.nil_append] at hm7b_
 obtain⟨hun3,hdo3⟩:=Kx (R:=fun x y=>y=syS x) (t2:=(⟨x,none,0,[]⟩:ShT)) hxn hun2 hdo2 (by rw[syS,x5 hxk hk2];rfl)
 exact⟨rfl,_,⟨(A++⟨x,none,0,[]⟩::B),by rw[<-hl2];simp,hun3,hdo3,rfl⟩,hm7b_.pick [0,1,2,4,3] (by decide) rfl⟩
 rintro D2 TK L2 XS_ ⟨Ps2,hl2,hun2,hdo2,rfl⟩ hZ_ IT
 simp only[List.cons_append,List.nil_append] at IT
 refine av ?_
 refine F6 (L:=[eB b 100 #[.slice PA D.pgs.length Pc,.slice GA D.log.size gc,vi ((D.fl:Int)),.bool D.off,.bool D.armed,vi D.left],eO 144 513 (.slice PA D.pgs.length Pc) D.pgs.length (Ps2.flatMap shC),eO 5 1 (.slice GA D.log.size gc) D.log.size ((bn D.log).map (Value.int .u8)),eWs Ps2,eB nO 30 #[vp b]]) (IT.pick [0,1,2,3,4,5] (by decide) rfl) fun Wt8 ht8=>?_
 refine⟨.tuple #[],(by simp[results,Tryz.results137,go_sem]),?_⟩
 have hsy_:=J3 (by omega) (J1 (R:=fun x y=>y=syS x) hun2 hdo2 hZ_ JK)
 rw[hps] at hsy_
 have hpl_:(syD D).pgs.length=D.pgs.length:=List.length_map ..
 exact⟨rfl,St.dk (L:=[]) (D:=syD D) (PA:=PA) (Pc:=Pc) (GA:=GA) (gc:=gc) (Ps:=Ps2) (Qs:=Ps2) (by rw[dkL,dkC,hpl_];exact ht8.pick [0,1,2,3] (by decide) rfl) hsy_ rfl⟩
theorem EN(b b2:Nat)(D:DkM)(fp:List Nat)(w:World)(hB:(eDk b D fp).holds w)(hlt:∀k∈fp,k<w.heap.size)(h2:Blk w b2 30 #[po b 0])(n2:b2∉fp)(hw:∀x∈D.pgs,x.ws.length<=1000000000)(hn:D.pgs.length<=400):Calls Tryz.prog 126 #[po b 0,.func (.func 131) #[] #[],.func (.func 137) #[] #[po b2 0]] w (bU b (opD D 0 syD) fp w):=
 Bd b D 0 syD 131 137 _ _ fp w hB hlt (by kernel_rfl) (by kernel_rfl) (fun W hU hA=>wJ W) fun he W fp1 hU hh hl ho=>FU b b2 _ fp1 W hh hl (h2.upd hU n2) (fun h10=>(ho b2 h10).elim n2 fun h11=>by have:=h2.lt;omega) hw hn
theorem Ed(b:Nat)(D:DkM)(fp:List Nat)(w:World)(hB:(eDk b D fp).holds w)(hlt:∀k∈fp,k<w.heap.size)(hw:∀x∈D.pgs,x.ws.length<=1000000000)(hn:D.pgs.length<=400):
  Calls Tryz.prog 69 #[po b 0] w (bU b (opD D 0 syD) fp w):=by
 have st1:St w fp [eDk b D fp] w:=St.lend hB (dS _ _ _) hlt
 go_enter Tryz.func69,Tryz.ntmps69
 have ak:=st1
 refine wq (sqr ?_)
 refine bY #[vp b] ak fun ay W1 aA=>?_
 refine sqp [.k 2 (vi 0)] ?_
 refine aa (wq (sqr (au 1 aA ?_)))
 refine sqv (.func (.func 137) #[] #[vp ay]) aA (by
   exact sv0 rfl rfl rfl rfl rfl (fun _ _ _ h=>h) fun a c W X cx=>by
    have zm:a (.tmp 1)=vp ay:=(cx.ou 1)
    simp[go_sem,Instr.makeFunc,zm]) fun W4 bb=>?_
 refine bG (fun X_=>X_.fp) (vi ((opD D 0 syD).2)) (fun qI=>eDk b ((opD D 0 syD).1) qI) 0 bb (by
   refine svA fun a c W X cx=>?_
   refine am.call (al (args:=#[vp b,.func (.func 131) #[] #[],.func (.func 137) #[] #[vp ay]]) rfl cx.sees rfl (by kernel_rfl) (dG (cx.ou 3) (cx.sees.func _) (cx.ou 4))) ?_
   refine(EN b _ D _ _ (CtxV.holdF cx (cx.init 0 _ rfl) rfl) (CtxV.ltF cx (cx.init 0 _ rfl) rfl) (cx.bi 1 rfl) (by have h_:=cx.ap 1 0 rfl rfl (by decide);rw[(cx.init 1 _ rfl),(cx.init 0 _ rfl)] at h_;exact h_ _ (List.mem_singleton.2 rfl)) hw hn).mono ?_
   rintro e W1 ⟨rfl,fp4,aM⟩
   refine⟨_,rfl,aK (E:=eDk b D fp) [eDk b (opD D 0 syD).1 fp4] (cx.init 0 _ rfl) rfl rfl aM (fun d f X' hs hb hv hN=>?_)⟩
   have aJ:=(hv 5 rfl).1;have aQ:=(hv 5 rfl).2
   exact⟨aJ.trans rfl,cE ((List.cons.inj hN).1)⟩) fun qI W5 aR=>?_
 refine sqp [.m 2 5] ?_
 refine aa (wp_ret ?_)
 refine bpr (vi ((opD D 0 syD).2)) (ag Tryz.results69 rpt) ?_
 exact bU.of rfl (aR.pick [0] (by decide) rfl)
end
section
open Go.RowKit
def edA(n lsn:Int)(p:PgS)(e:EdT):PgS:=if e.1=n/\doE p e lsn=0 then doV p e lsn else p
def bm(n lsn:Int)(p:PgS)(l:List EdT):PgS:=l.foldl (edA n lsn) p
def ai(L:List RecM)(n:Int):PgS:=L.zipIdx.foldl (fun p x=>bm n ((x.2:Int)+1) p x.1.eds) bt
def bc(L:List RecM):Nat:=L.zipIdx.foldl (fun f x=>if x.1.kind=9 then x.2+1 else f) 0
def ft(L:List RecM)(n:Int):Bool:=L.foldl (fun b r=>if r.kind=9 then false else b||(r.kind==8&&r.tbl==n)) false
theorem iR(L:List RecM)(r:RecM)(n:Int):ai (L++[r]) n=bm n ((L.length:Int)+1) (ai L n) r.eds:=by
 rw[ai,List.zipIdx_append,List.foldl_append]
 simp[ai]
theorem eW(L:List RecM)(r:RecM):bc (L++[r])=if r.kind=9 then L.length+1 else bc L:=by
 rw[bc,List.zipIdx_append,List.foldl_append]
 simp[bc]
theorem nf(L:List RecM)(r:RecM)(n:Int):ft (L++[r]) n=if r.kind=9 then false else (ft L n||(r.kind==8&&r.tbl==n)):=by
 rw[ft,List.foldl_append];rfl
theorem ET{n lsn:Int}{p:PgS}{e:EdT}(h:bI p):bI (edA n lsn p e):=by
 unfold edA
 split
 rename_i h1;exact ki h1.2
 exact h
theorem rU{n lsn:Int}{l:List EdT}:∀{p:PgS},bI p->bI (bm n lsn p l):=by
 induction l with
 |nil=>intro p h;exact h
 |cons e l ih=>intro p h;exact ih (ET h)
theorem o6{P:List RecM->Prop}(h0:P [])(hs:∀L r,P L->P (L++[r]))(L:List RecM):P L:=by
 have h:∀k (L:List RecM),L.length=k->P L:=by
  intro k
  induction k with
  |zero=>intro L h;rw[List.eq_nil_of_length_eq_zero h];exact h0
  |succ k ih=>
   intro L h
   rcases List.eq_nil_or_concat L with rfl|⟨L',x,rfl⟩
   cases h
   rw[List.concat_eq_append] at h |-
   exact hs L' x (ih L' (by simpa using h))
 exact h _ L rfl
theorem gm(L:List RecM)(n:Int):bI (ai L n):=by
 induction L using o6 with
 |h0=>exact yZ
 |hs L r ih=>rw[iR];exact rU ih
theorem sH{n lsn:Int}{p:PgS}{l:List EdT}(h:∀e∈l,e.1≠n):bm n lsn p l=p:=by
 induction l generalizing p with
 |nil=>rfl
 |cons e l ih=>
  show bm n lsn (edA n lsn p e) l=p
  rw[edA,if_neg (fun h1=>h e (by simp) h1.1)]
  exact ih fun x hx=>h x (by simp[hx])
theorem KD(p:PgS)(e:EdT)(n:Int):(doV p e n).2.1=n:=by unfold doV;split<;>rfl
theorem BI{L L':List RecM}{n:Int}(h:∀r∈L',∀e∈r.eds,e.1≠n):ai (L++L') n=ai L n:=by
 induction L' using o6 with
 |h0=>rw[List.append_nil]
 |hs L' r ih=>
  rw[<-List.append_assoc,iR,sH (h r (by simp))]
  exact ih fun x hx=>h x (by simp[hx])
end
section
open Go.RowKit
noncomputable def rdX(s:ByteArray):Option PgS:=by
 classical exact if h:∃p:PgS,bI p/\bP p.1 p.2.1 p.2.2=s then some h.choose else none
theorem pa{s:ByteArray}{p:PgS}(h:rdX s=some p):bI p/\bP p.1 p.2.1 p.2.2=s:=by
 classical
 unfold rdX at h
 split at h
 rename_i h1
 injection h with h
 subst h
 exact h1.choose_spec
 cases h
theorem yG{s:ByteArray}(h:rdX s=none)(p:PgS)(hr:bI p):bP p.1 p.2.1 p.2.2≠s:=fun he=>by
 classical
 unfold rdX at h
 split at h
 cases h
 rename_i h1
 exact h1 ⟨p,hr,he⟩
def iY(w:World)(e:Ending)(w':World):Prop:=∃er:Int,er≠0/\e= .returned (.tuple #[.agg #[.int .i64 0,.int .i64 0,.slice none 0 0],.int .i64 er])/\Ext w w'
theorem iY.of{er:Int}{w w':World}(h:er≠0)(hx:Ext w w'):iY w (.returned (.tuple #[.agg #[.int .i64 0,.int .i64 0,sn],.int .i64 er])) w':=⟨er,h,rfl,hx⟩
def fi(s:ByteArray)(p:Nat)(f:Bool):ByteArray×Nat×Bool:=if f=true\/s.size<p+2\/s.size<p+2+aP s p 2 then (ByteArray.empty,p,true) else (fg s p,p+2+aP s p 2,false)
theorem Lk(B:Nat)(s:ByteArray)(p:Nat)(f:Bool)(w:World)(h:Rd 193 w B s p f):Calls Tryz.prog 103 #[po B 0] w (mG 193 (.string (fi s p f).1) B s (fi s p f).2.1 (fi s p f).2.2 w):=by
 unfold fi
 split
 rename_i h1
 exact G4 B s p f w h h1
 rename_i h1
 have hf:f=false:=by cases f;rfl;exact absurd (.inl rfl) h1
 subst hf
 exact nQ B s p w h (by omega) (by omega)
theorem FO(s:ByteArray)(p:Nat)(f:Bool):(fi s p f).1.size<=s.size:=by
 unfold fi
 split
 exact Nat.zero_le _
 show (fg s p).size<= _
 rw[fg,ByteArray.size_extract];omega
theorem Gi{s:ByteArray}{p:Nat}{f:Bool}(h:p<=s.size):(fi s p f).2.1<=s.size:=by
 unfold fi
 split
 exact h
 show p+2+aP s p 2<=s.size
 omega
theorem yv(s:ByteArray)(p:Nat):aP s p 1<256:=by
 have h:=vz (s.extract p (p+1)).data.toList
 have h2:(s.extract p (p+1)).data.toList.length<=1:=by
  have:(s.extract p (p+1)).size<=1:=by rw[ByteArray.size_extract];omega
  show (bl (s.extract p (p+1))).length<=1
  rw[bS];exact this
 have h3:(256:Nat)^(s.extract p (p+1)).data.toList.length<=256^1:=Nat.pow_le_pow_right (by omega) h2
 unfold aP
 omega
theorem J5(I:List ByteArray)(x:ByteArray):I.map Value.string++[.string x]=(I++[x]).map Value.string:=by simp
theorem FR{k l:Int}{I:List ByteArray}{s:ByteArray}(hb:∀p:PgS,bI p->bP p.1 p.2.1 p.2.2≠s)(hr:bw k l I=true):((bP k l (af I)).toList==s.toList)=false:=by
 rcases h:(bP k l (af I)).toList==s.toList with _|_
 rfl
 exact absurd (yC (by simpa using h)) (hb (k,l,af I) ⟨rW hr,il I⟩)
theorem Hj{k l:Int}{ss:List ByteArray}{f:FuncId}{args:Array Value}{w:World}(hr:bw k l ss=false)(hc:Calls Tryz.prog f args w (fC k l ss w)):Calls Tryz.prog f args w (Ret (.tuple #[.string ⟨#[]⟩,.int .i64 22]) w):=by
 rw[fC,if_neg (by rw[hr];decide)] at hc;exact hc
theorem Ei{k l:Int}{ss:List ByteArray}{f:FuncId}{args:Array Value}{w:World}{tt:ByteArray}(hr:bw k l ss=true)(ht:bP k l (af ss)=tt)(hc:Calls Tryz.prog f args w (fC k l ss w)):Calls Tryz.prog f args w (Ret (.tuple #[.string tt,.int .i64 0]) w):=by
 subst ht
 rw[fC,if_pos hr] at hc;exact hc
theorem BJ(s:ByteArray)(w:World)(hs:s.size=512)(hb:∀p:PgS,bI p->bP p.1 p.2.1 p.2.2≠s):
  Calls Tryz.prog 44 #[.string s] w (iY w):=by
 have hn4:=mt s 0
 have hn1:=yv s 9
 go_enter Tryz.func44,Tryz.ntmps44
 have ak:=St.start w
 refine wq (sqr (b9 #[vi 0,vi 0,sn] ak fun bA W1 aA=>?_))
 refine sqp [.k 3 (vi 0)] ?_
 refine aa (wq (wq (sqr (sqp [.m 9 0,.k 10 (vi ((s.size:Int))),.k 11 (.bool ((s.size:Int) != 512))] ?_))))
 refine aa (wbs (fun dz=>?_) fun dz=>?_)
 have s8:=bne_iff_ne.1 dz
 refine wq (sqr (sqp [.k 12 (.agg #[vi 0,vi 0,sn])] ?_))
 refine aX (n:=3) 0 #[vi 0,vi 0,sn] aA fun W8 dy=>?_
 refine sqp [.k 3 (vi 11)] ?_
 refine aa (wp_ret (aj ?_))
 refine bpr (.tuple #[.agg #[vi 0,vi 0,sn],vi 11]) (aO Tryz.results44 (rpa (dy.blk 0 rfl) 0 3) rpt) ?_
 exact iY.of (by decide) dy.ext
 have s8:=bne_eq_false_iff_eq.1 dz
 refine wp_skip (aa (wq (sqr (sqp [.m 13 0] ?_))))
 refine sE (fun cV=>vp cV) (fun cV=>eB cV 193 #[.string s,vi 0,.bool false]) aA (fun cx=>⟨_,(rA s _).mono (by rintro e W1 ⟨B4,rfl,⟨hb4,hw4⟩,hx⟩;exact⟨_,rfl,St.one hx ⟨hb4,d5 _ _ _,fun k hk=>by simp[eB] at hk;subst hk;exact⟨hw4,hb4.lt⟩⟩⟩),(aw (cx.ou 13))⟩) fun cV Fa fV=>?_
 refine sqp [.m 4 14] ?_
 refine aa (wq (sqr (sqp [.m 15 4] ?_)))
 refine jI (vi ((aP s 0 4:Int))) 1 #[.string s,vi 4,.bool false] fV (fun cx=>⟨_,(dF _ s 0 4 _ ⟨(cx.bi 1 rfl),by omega,by omega⟩ (by omega) (by omega)).mono (by rintro e W1 ⟨rfl,bX,hu⟩;exact⟨rfl,hu,bX.1⟩),(aN (cx.ou 15) (cx.co _))⟩) fun ze cy=>?_
 refine sqp [.m 5 16] ?_
 refine aa (wq (sqr (sqp [.m 17 4] ?_)))
 refine jI (vi ((aP s 4 1:Int))) 1 #[.string s,vi 5,.bool false] cy (fun cx=>⟨_,(dF _ s 4 1 _ ⟨(cx.bi 1 rfl),by omega,by omega⟩ (by omega) (by omega)).mono (by rintro e W1 ⟨rfl,bX,hu⟩;exact⟨rfl,hu,bX.1⟩),(aN (cx.ou 17) (cx.co _))⟩) fun uF dO=>?_
 refine sqp [.m 19 4] ?_
 refine jI (vi ((aP s 5 4:Int))) 1 #[.string s,vi 9,.bool false] dO (fun cx=>⟨_,(dF _ s 5 4 _ ⟨(cx.bi 1 rfl),by omega,by omega⟩ (by omega) (by omega)).mono (by rintro e W1 ⟨rfl,bX,hu⟩;exact⟨rfl,hu,bX.1⟩),(aN (cx.ou 19) (cx.co _))⟩) fun r9 de=>?_
 refine sqp [.k 21 (.agg #[vi ((aP s 4 1:Int)),vi ((aP s 5 4:Int)),sn])] ?_
 refine b9 #[vi 0,vi 0,sn] de fun fk uD eG=>?_
 refine aX (n:=3) 2 #[vi ((aP s 4 1:Int)),vi ((aP s 5 4:Int)),sn] eG fun xc dC=>?_
 refine aa (wq (wq (bR [0,1,0,4,12,31,63,127,255,127,639,2047,4095] [] [.k 22 (vi ((aP s 0 4:Int))),tW 23 .u32 (aP s 0 4:Int) (aP s 0 4:Int) (IntWalk.u32_in _ (by omega)),.k 24 (.string s),.c 25 (.string (s.extract 4 s.size)),.c 26 (.int .u32 ((bf (s.extract 4 s.size):Int))),.k 27 (.bool ((aP s 0 4:Int) != (bf (s.extract 4 s.size):Int))),.k 28 (.bool ((aP s 0 4:Int) != (bf (s.extract 4 s.size):Int))),.z 29 (!((aP s 0 4:Int) != (bf (s.extract 4 s.size):Int))) (.string s),.y 30 (!((aP s 0 4:Int) != (bf (s.extract 4 s.size):Int))) (.string (s.extract 5 9)),.z 31 (!((aP s 0 4:Int) != (bf (s.extract 4 s.size):Int))) (.string s),.y 32 (!((aP s 0 4:Int) != (bf (s.extract 4 s.size):Int))) (.string (s.extract 508 s.size)),.y 33 (!((aP s 0 4:Int) != (bf (s.extract 4 s.size):Int))) (.bool (!((s.extract 5 9).toList==(s.extract 508 s.size).toList))),tO 34 ((aP s 0 4:Int) != (bf (s.extract 4 s.size):Int)) (!((s.extract 5 9).toList==(s.extract 508 s.size).toList))] [0,1,2] [3,4,8,10,11] [(22,0,13,35)] dC ?_ fun sa cq=>?_)))
 refine⟨?_,?_,?_,?_,?_,trivial⟩
 exact xs4 rfl id fun cx=>gF (l:=4) rfl (by kernel_rfl) (cx.an 2) (cx.co _) (by omega) (by omega)
 exact xsc rfl id rfl rfl fun cx=>⟨_,mo (s.extract 4 s.size) _ (by rw[ByteArray.size_extract];omega),(aw (cx.an 3))⟩
 exact m2 rfl (fun _ _ _ h=>h) (fun cx=>(cx.an 6)) fun cx hq=>ql (l:=5) (m:=9) rfl (by kernel_rfl) (mbv (cx.an 7) hq) (cx.co _) (cx.co _) (by have hq_:=hq;simp only[zB] at hq_;omega) (by have hq_:=hq;simp only[zB] at hq_;omega) (by have hq_:=hq;simp only[zB] at hq_;omega) (by have hq_:=hq;simp only[zB] at hq_;omega)
 exact m2 rfl (fun _ _ _ h=>h) (fun cx=>(cx.an 6)) fun cx hq=>gF (l:=508) rfl (by kernel_rfl) (mbv (cx.an 9) hq) (cx.co _) (by have hq_:=hq;simp only[zB] at hq_;omega) (by have hq_:=hq;simp only[zB] at hq_;omega)
 exact m2 rfl (fun _ _ _ h=>h) (fun cx=>(cx.an 6)) fun cx hq=>qx rfl (mbv (cx.an 8) hq) (mbv (cx.an 10) hq)
 refine aa (wbs (fun s9=>?_) fun s9=>?_)
 have lU:=s9
 simp only[zB] at lU
 refine wq (sqr (sqp [.k 35 (.agg #[vi 0,vi 0,sn])] ?_))
 refine aX (n:=3) 0 #[vi 0,vi 0,sn] cq fun xd fv=>?_
 refine sqp [.k 3 (vi 12)] ?_
 refine aa (wp_ret (aj ?_))
 refine bpr (.tuple #[.agg #[vi 0,vi 0,sn],vi 12]) (aO Tryz.results44 (rpa (fv.blk 0 rfl) 0 3) rpt) ?_
 exact iY.of (by decide) fv.ext
 have lU:=s9
 simp only[zB] at lU
 obtain⟨LU,LV⟩:=lU
 refine wp_skip (aa (wq (wq (sqr (sqp [.m 36 4] ?_)))))
 refine jI (vi ((aP s 9 1:Int))) 1 #[.string s,vi 10,.bool false] cq (fun cx=>⟨_,(dF _ s 9 1 _ ⟨(cx.bi 1 rfl),by omega,by omega⟩ (by omega) (by omega)).mono (by rintro e W1 ⟨rfl,bX,hu⟩;exact⟨rfl,hu,bX.1⟩),(aN (cx.ou 36) (cx.co _))⟩) fun Fc gw=>?_
 refine sqp [.k 38 (vi 0)] ?_
 refine aa (wp_block ?_)
 have hn31:=St.nilrow gw 9
 simp only[List.cons_append,List.nil_append] at hn31
 refine aT (fun t_ mz az W=>∃j:Nat,∃pp:Nat,∃ff:Bool,∃Is:List ByteArray,∃AI:Option Addr,∃cI:Nat,j<=aP s 9 1/\pp<=s.size/\Is.length=j/\(∀x∈Is,x.size<=s.size)/\mz=aP s 9 1-j/\az=⟨(ovr (jv az) [(38,38,0,[vi ((j:Int))]),(0,39,9,[])] t_).toArray,[]⟩/\St w [] [eB bA 48 #[vi 0,vi 0,sn],eB cV 193 #[.string s,vi ((pp:Int)),.bool ff],eB fk 48 #[vi ((aP s 4 1:Int)),vi ((aP s 5 4:Int)),.slice AI j cI],eO 9 1 (.slice AI j cI) j (Is.map Value.string)] W) (aP s 9 1-0) ?_ ?_
 exact⟨0,10,false,[],none,0,Nat.zero_le _,by omega,rfl,(fun x hx=>absurd hx List.not_mem_nil),rfl,(by kernel_rfl),hn31.pk [0,1,2,3]⟩
 rintro OH a32 zb ⟨j,pp,ff,Is,AI,cI,hj,hpp,hIl,hIz,rfl,hj_,c6⟩
 refine ovz hj_ fun HY=>?_
 refine wq (sqr (sqp [.k 39 (.bool (decide ((j:Int)<(aP s 9 1:Int))))] ?_))
 refine aa (wq (wds (fun ku pe=>?_) fun ku pe=>?_))
 refine wp_skip (aa (wq (wp_block (aD [0,1,0,4,12,31,63,127] [[],[2],[],[1],[],[5,3],[],[2]] [[],[],[],[4],[5],[6],[],[7]] [[],[],[],[1],[],[3],[],[2]] [.k 40 (po fk 2),.c 41 (.slice AI j cI),.k 42 (vp cV),.a 43,.a 44,.a 45,.k 46 (po fk 2),.n] (fun ix d b X=>match ix with|0|1|2=>True|3=>d 43= .string ((fi s pp ff).1)/\X 4=eB cV 193 #[.string s,vi (((fi s pp ff).2.1:Int)),.bool ((fi s pp ff).2.2)]|4=>d 44= .slice (sA (b 44)) 1 1/\X 5=eO 9 1 (.slice (sA (b 44)) 1 1) 1 ([.string ((fi s pp ff).1)])|5=>d 45= .slice (sA (b 45)) (j+1) (sC (b 45))/\X 6=eO 9 1 (.slice (sA (b 45)) (j+1) (sC (b 45))) (j+1) ((Is++[(fi s pp ff).1]).map Value.string)|6=>True|7=>X 7=eB fk 48 #[vi ((aP s 4 1:Int)),vi ((aP s 5 4:Int)),.slice (sA (b 45)) (j+1) (sC (b 45))]|_=>True) [0,4,5,6,7] [1,3,4,5,7] [(40,0,7,47)] c6 ?_ ?_ ?_))))
 exact fun ix _ _ _ _ _ _ hs hb hx h=>match ix,h with
 |3,h=>by dsimp only;rw[<-hs 43 rfl,<-hx 4 rfl];exact h
 |4,h=>by dsimp only;rw[<-hs 44 rfl,<-hb 44 rfl,<-hx 5 rfl];exact h
 |5,h=>by dsimp only;rw[<-hs 45 rfl,<-hb 45 rfl,<-hx 6 rfl];exact h
 |7,h=>by dsimp only;rw[<-hb 45 rfl,<-hx 7 rfl];exact h
 |0,_|1,_|2,_|6,_|_+8,_=>trivial
 refine⟨?_,?_,?_,?_,?_,trivial⟩
 exact xs4 rfl id fun cx=>ae rfl (by kernel_rfl) (cx.an 0) ((cx.bi 2 rfl).cell 2)
 refine svA fun f b W X cx=>?_
 refine am.call (al (args:=#[vp cV]) rfl cx.sees rfl (by kernel_rfl) (aw (cx.an 2))) ?_
 refine(Lk _ s pp ff _ ⟨(cx.bi 1 rfl),hpp,by omega⟩).mono ?_
 rintro e W1 ⟨rfl,bX,hu⟩
 refine⟨_,rfl,cg (cx.init 1 _ rfl) rfl rfl hu bX.1 (fun d g X' hs hb hv hx=>?_)⟩
 exact⟨(hv 43 rfl).1.trans rfl,hx⟩
 refine svA fun f b W X cx=>?_
 have HZ:f (.tmp 43)= .string ((fi s pp ff).1):=(dTn (cx.an 3)).1
 exact dx (e:=9) (xs:=[.string ((fi s pp ff).1)]) rfl (by simp[go_sem,HZ]) rfl (by decide) rfl rfl (fun _ _ _ _ _=> .intro)
 refine svA fun f b W X cx=>?_
 obtain⟨i0,hi0,hz0,hz1,hz2⟩:=info_parts Tryz.infoStr
 refine fb (n:=j) (m:=1) (nm:=j+1) (xs:=Is.map Value.string) (news:=[.string ((fi s pp ff).1)]) (xs':=(Is++[(fi s pp ff).1]).map Value.string) rfl (ty:=46) rfl (by kernel_rfl) hi0 hz0 hz1 hz2 rfl (cx.an 1) cx (cx.init 3 _ rfl) rfl (dTn (cx.an 4)).1 (by first|(simp;done)|(simp;omega)) (At.of_own (cx.row (dTn (cx.an 4)).2 rfl)) (by simp[Value.oneCell']) (by simp only[maxLen];omega) (by omega) rfl rfl rfl (by omega) (J5 _ _) (fun d g X' hs hb hv hx=>?_)
 exact⟨hv,hx⟩
 refine svA fun f b W X cx=>?_
 exact bu (n:=1) rfl (cx.an 6) (dTn (cx.an 5)).1 (by kernel_rfl) (by kernel_rfl) (by kernel_rfl) cx (cx.init 2 _ rfl) rfl (nle rfl) (by kernel_rfl) rfl rfl rfl (fun d g X' hs hb hx=>by rw[hb 45];exact hx)
 intro d b X w9 hD dN fr aC
 simp only[exq 4 ((dTn (hD 3 lq)).2),exq 5 ((dTn (hD 4 lq)).2),exq 6 ((dTn (hD 5 lq)).2),exq 7 ((dTn (hD 7 lq)))] at dN
 simp only[ed 43 ((dTn (hD 3 lq)).1),ed 44 ((dTn (hD 4 lq)).1),ed 45 ((dTn (hD 5 lq)).1)] at aC
 generalize sA (b 44)=LW,sA (b 45)=zf,sC (b 45)=zg at dN aC
 clear hD;subst aC;clear d b X
 refine av (aa (sqr (sqp [sI 47 ((j:Int)+1) (by omega),.m 38 47] ?_)))
 refine aa ?_
 refine⟨aP s 9 1-((j+1)),by omega,?_⟩
 exact⟨(j+1),(fi s pp ff).2.1,(fi s pp ff).2.2,(Is++[(fi s pp ff).1]),zf,zg,by omega,Gi hpp,by rw[List.length_append,hIl];rfl,fun x hx=>(List.mem_append.1 hx).elim (hIz x) fun h_=>by rw[List.mem_singleton.1 h_];exact FO s pp ff,rfl,(by kernel_rfl),dN.pk [0,1,4,3]⟩
 refine wp_exit (aq (aq (bj (aa (wq (wq ?_))))))
 subst hIl
 have hSm:dJ Is:=⟨by have h_:=yv s 9;omega,fun x hx=>by have h_:=hIz x hx;omega⟩
 rcases hrg:bw (aP s 4 1:Int) (aP s 5 4:Int) Is with _|_
 refine sqr ?_
 refine bE 2 3 c6 ?_
 refine sqk (.tuple #[.string ((⟨#[]⟩:ByteArray)),vi 22]) c6 (fun cx=>⟨_,Hj hrg (nz (aP s 4 1:Int) (aP s 5 4:Int) _ _ Is _ (At.of_own (cx.ri 3 rfl)) hSm),(aw (cx.ou 49))⟩) fun qA dn=>?_
 refine sqp [.m 48 50,.k 51 (.string ((⟨#[]⟩:ByteArray))),.k 52 (vi 22),.m 7 51,.m 8 52] ?_
 refine aa (wq (sqr (sqp [.m 53 4] ?_)))
 refine sqv (.bool ff) dn (by
   refine svA fun f b W X cx=>?_
   refine am.call (al (args:=#[vp cV]) rfl cx.sees rfl (by kernel_rfl) (aw (cx.ou 53))) ?_
   refine(fu _ s pp ff _ ⟨(cx.bi 1 rfl),hpp,by omega⟩).mono ?_
   rintro e W1 ⟨rfl,rfl⟩
   refine⟨_,rfl,bO [] rfl rfl (Ext.refl _) (by simp) List.Pairwise.nil (fun d g X' hs hb hv hN=>?_)⟩
   have aJ:=(hv 54 rfl).1;have aQ:=(hv 54 rfl).2
   exact aJ.trans rfl) fun Bs eI=>?_
 refine sqp [.m 55 54] ?_
 refine sqw 55 [56,57] rfl (fun _=>sqp [.m 56 8,.k 57 (.bool true)] sqe) ?_
 refine sqp [sPo 58 ff true,.m 59 58] ?_
 refine sqw 59 [60,61,62] rfl (fun _=>sqp [.m 60 7,.m 61 0,.k 62 (.bool (!(((⟨#[]⟩:ByteArray)).toList==s.toList)))] sqe) ?_
 have hd56:((ff||true)||(!(((⟨#[]⟩:ByteArray)).toList==s.toList)))=true:=(by cases ff<;>rfl)
 refine sqp [B5 63 (ff||true) (!(((⟨#[]⟩:ByteArray)).toList==s.toList)) true hd56] ?_
 refine aa (wct rfl (wq (sqr (sqp [.k 64 (.agg #[vi 0,vi 0,sn])] ?_))))
 refine aX (n:=3) 0 #[vi 0,vi 0,sn] eI fun IM ka=>?_
 refine sqp [.k 3 (vi 22)] ?_
 refine aa (wp_ret (aj ?_))
 refine bpr (.tuple #[.agg #[vi 0,vi 0,sn],vi 22]) (aO Tryz.results44 (rpa (ka.blk 0 rfl) 0 3) rpt) ?_
 exact iY.of (by decide) ka.ext
 have hnb_:=FR hb hrg
 obtain⟨tt,htt⟩:∃z,bP (aP s 4 1:Int) (aP s 5 4:Int) (af Is)=z:=⟨_,rfl⟩
 rw[htt] at hnb_
 refine sqr ?_
 refine bE 2 3 c6 ?_
 refine sqk (.tuple #[.string tt,vi 0]) c6 (fun cx=>⟨_,Ei hrg htt (nz (aP s 4 1:Int) (aP s 5 4:Int) _ _ Is _ (At.of_own (cx.ri 3 rfl)) hSm),(aw (cx.ou 49))⟩) fun Bt fm=>?_
 refine sqp [.m 48 50,.k 51 (.string tt),.k 52 (vi 0),.m 7 51,.m 8 52] ?_
 refine aa (wq (sqr (sqp [.m 53 4] ?_)))
 refine sqv (.bool ff) fm (by
   refine svA fun f b W X cx=>?_
   refine am.call (al (args:=#[vp cV]) rfl cx.sees rfl (by kernel_rfl) (aw (cx.ou 53))) ?_
   refine(fu _ s pp ff _ ⟨(cx.bi 1 rfl),hpp,by omega⟩).mono ?_
   rintro e W1 ⟨rfl,rfl⟩
   refine⟨_,rfl,bO [] rfl rfl (Ext.refl _) (by simp) List.Pairwise.nil (fun d g X' hs hb hv hN=>?_)⟩
   have aJ:=(hv 54 rfl).1;have aQ:=(hv 54 rfl).2
   exact aJ.trans rfl) fun Fe gx=>?_
 refine sqp [.m 55 54] ?_
 refine sqw 55 [56,57] rfl (fun _=>sqp [.m 56 8,.k 57 (.bool false)] sqe) ?_
 refine sqp [sPo 58 ff false,.m 59 58] ?_
 refine sqw 59 [60,61,62] rfl (fun _=>sqp [.m 60 7,.m 61 0,.k 62 (.bool (!(tt.toList==s.toList)))] sqe) ?_
 have hd78:((ff||false)||(!(tt.toList==s.toList)))=true:=(by rw[hnb_];cases ff<;>rfl)
 refine sqp [B5 63 (ff||false) (!(tt.toList==s.toList)) true hd78] ?_
 refine aa (wct rfl (wq (sqr (sqp [.k 64 (.agg #[vi 0,vi 0,sn])] ?_))))
 refine aX (n:=3) 0 #[vi 0,vi 0,sn] gx fun OK ph=>?_
 refine sqp [.k 3 (vi 22)] ?_
 refine aa (wp_ret (aj ?_))
 refine bpr (.tuple #[.agg #[vi 0,vi 0,sn],vi 22]) (aO Tryz.results44 (rpa (ph.blk 0 rfl) 0 3) rpt) ?_
 exact iY.of (by decide) ph.ext
def lh(s:ByteArray)(w:World):Ending->World->Prop:=match rdX s with
 |some p=>d3 p.1 p.2.1 p.2.2 0 w
 |none=>iY w
theorem sM(s:ByteArray)(w:World)(hs:s.size=512):Calls Tryz.prog 44 #[.string s] w (lh s w):=by
 unfold lh
 rcases h:rdX s with _|p
 exact BJ s w hs fun p hp=>yG h p hp
 obtain⟨⟨h1,h2⟩,h3⟩:=pa h
 have h4:=B3 p.1 p.2.1 p.2.2 w h1
 rw[h2,h3] at h4
 exact h4
end
section
open Go.RowKit
def aI(p:PgS):ByteArray:=bP p.1 p.2.1 p.2.2
noncomputable def rdP(s:ByteArray):PgS:=(rdX s).getD bt
theorem my{p:PgS}(h:bI p):Says (aI p) p.1 p.2.1 p.2.2:=by
 have h1:=ue h.1
 rw[h.2] at h1;exact h1
theorem D9{p q:PgS}(hp:bI p)(hq:bI q)(h:aI p=aI q):p=q:=by
 have h1:=my hp
 have h2:=my hq
 rw[<-h] at h2
 obtain⟨k,l,I⟩:=p
 obtain⟨k',l',I'⟩:=q
 have e1:=h1.kind.symm.trans h2.kind
 have e2:=h1.lsn.symm.trans h2.lsn
 have e3:=h1.many.symm.trans h2.many
 dsimp only at e1 e2 e3 h1 h2
 subst e1 e2
 have e4:∀j,j<=I.length->I.take j=I'.take j:=by
  intro j
  induction j with
  |zero=>intro _;rfl
  |succ j ih=>
   intro hj
   have ih:=ih (by omega)
   have t1:=(h1.text j (by omega)).2.2.1
   have t2:=(h2.text j (by omega)).2.2.1
   rw[ih] at t1
   rw[List.take_succ_eq_append_getElem (by omega),List.take_succ_eq_append_getElem (by omega),ih]
   have g1:I.getD j ByteArray.empty=I'.getD j ByteArray.empty:=t1.symm.trans t2
   rw[List.getD_eq_getElem?_getD,List.getD_eq_getElem?_getD,List.getElem?_eq_getElem (by omega),List.getElem?_eq_getElem (by omega)] at g1
   have g1:I[j]=I'[j]:=g1
   rw[g1]
 have e5:=e4 I.length (Nat.le_refl _)
 rw[List.take_length,e3,List.take_length] at e5
 rw[e5]
theorem xW{p:PgS}(h:bI p):rdP (aI p)=p:=by
 unfold rdP
 rcases hx:rdX (aI p) with _|q
 exact absurd rfl (yG hx p h)
 obtain⟨h1,h2⟩:=pa hx
 exact D9 h1 h h2
theorem dA{p:PgS}(h:bI p):(aI p).size=512:=(my h).size
theorem Je(p:PgS)(h:bI p):aI p≠dV 512:=fun he=>by
 have h1:=(my h).sum
 rw[he] at h1
 have h2:aP (dV 512) 0 4=0:=by decide+kernel
 have h3:bf ((dV 512).extract 4 512)≠0:=by decide+kernel
 omega
theorem JB:rdP (dV 512)=bt:=by
 unfold rdP
 rcases hx:rdX (dV 512) with _|q
 rfl
 obtain⟨h1,h2⟩:=pa hx
 exact absurd h2 (Je q h1)
def hf1(s:ByteArray):ByteArray:=s.extract 0 256
def hf2(s:ByteArray):ByteArray:=s.extract 256 512
end
section
open Go.RowKit Go.Maps Go.ChangeMaps
def nJ:Option Nat->Value
 |none=> .pointer none
 |some k=> .pointer (some ⟨k,0,none⟩)
def vM:Option Nat->DataW Unit
 |none=> .lit (.int .i64 (-1))
 |some k=> .lit (.int .i64 (k:Int))
def Cb:Value->Option (DataW Unit×List MemPlace)
 | .pointer none=>some (.lit (.int .i64 (-1)),[])
 | .pointer (some ⟨k,0,none⟩)=>some (.lit (.int .i64 (k:Int)),[])
 |_=>none
theorem yF(v:Value)(d:DataW Unit)(ps:List MemPlace)(e:Option Nat)(h:Cb v=some (d,ps))(hd:d=vM e):v=nJ e:=by
 subst hd
 unfold Cb at h
 split at h
 cases e with
 |none=>rfl
 |some k=>simp[vM] at h
 rename_i j
 cases e with
 |none=>simp[vM] at h
 |some k=>
  simp[vM] at h
  obtain⟨h,_⟩:=h
  have:j=k:=by omega
  subst this;rfl
 cases h
def ptC:Cod (Option Nat) where
 enc:=nJ
 dat:=vM
 R:=Cb
 e0:=none
 read:=fun e=>by cases e<;>rfl
 back:=yF
def ptX:Ec (Option Nat) where
 enc:=nJ
 dat:=vM
 R:=Cb
 e0:=none
 okE:=fun _=>True
 read:=fun e _=>by cases e<;>rfl
 back:=yF
 ok0:=trivial
noncomputable def ecB:Ec Bool where
 enc:= .bool
 dat:=fun v=> .lit (.bool v)
 R:=plainElem Tryz.prog 4
 e0:=false
 okE:=fun _=>True
 read:=fun e _=>plainElem_bool (by kernel_rfl) e
 back:=fun v d ps e h1 h2=>by
  subst h2
  unfold plainElem at h1
  have hu:Tryz.prog.underlying 4=some .bool:=by kernel_rfl
  rw[hu] at h1
  cases v<;>simp at h1
  rw[h1.1]
 ok0:=trivial
section
variable{P:Program}{k b r n cnt:Nat}{m:Int->Option (Option Nat)}{left:Int->Bool}{cur:Option (Int×Option Nat)}
theorem xq{x:Int}(h:(Lit.int .i64 x).wf=true):kcI.ok x:=by
 have h1:(decide (IntKind.i64.min<=x)&&decide (x<=IntKind.i64.max))=true:=h
 rw[Bool.and_eq_true,decide_eq_true_eq,decide_eq_true_eq] at h1
 have e1:IntKind.i64.min= -9223372036854775808:=by decide
 have e2:IntKind.i64.max=9223372036854775807:=by decide
 rw[e1,e2] at h1
 exact h1
theorem gp.g{W:World}(h:gp kcI ptX P k b n m W):OW ptC P k b n m W:=by
 obtain⟨D,h1,h2,_,h4⟩:=h
 exact⟨D,h1,h2.isMap,fun x hx=>h4 x (xq hx)⟩
def eRx(P:Program)(k b r n:Nat)(m:Int->Option (Option Nat))(left:Int->Bool)(cnt:Nat)(cur:Option (Int×Option Nat)):Ent:=⟨[b,r],fun W=>(eRg ptC P k b r n m left cnt cur).holds W/\gp kcI ptX P k b n m W⟩
theorem vI:(eRx P k b r n m left cnt cur).loc:=fun W W' h hb=>⟨Jh W W' h hb.1,l6 P k b n m W W' (fun j hj=>h j (by rw[List.mem_singleton.1 hj];simp[eRx])) hb.2⟩
theorem St.endRx{w0 W:World}{bor:List Nat}{L:List Ent}(h:St w0 bor (L++[eRx P k b r n m left cnt cur]) W):St w0 bor (L++[eMx kcI ptX P k b n m]) W:=by
 have ha:=List.pairwise_append.1 h.apart
 have ht:=h.ok (eRx P k b r n m left cnt cur) (by simp)
 refine⟨h.upd,fun x hx=>?_,List.pairwise_append.2 ⟨ha.1,List.pairwise_singleton _ _,fun x hx y hy j hj hj2=>?_⟩⟩
 rcases List.mem_append.1 hx with hx|hx
 exact h.ok x (List.mem_append_left _ hx)
 rw[List.mem_singleton] at hx
 subst hx
 exact⟨ht.holds.2,l6 _ _ _ _ _,fun j hj=>ht.own j (by rw[List.mem_singleton.1 hj];simp[eRx])⟩
 rw[List.mem_singleton] at hy
 subst hy
 exact ha.2.2 x hx (eRx P k b r n m left cnt cur) (by simp) j hj (by rw[List.mem_singleton.1 hj2];simp[eRx])
end
section
variable{P:Program}{ops:Array Oper}{L:List Nat}{a0:Act}{w0:World}{bor:List Nat}{X0:List Ent}{us cr kl:List (List Nat)}
 {D:Nat->(Tmp->Value)->(Tmp->Value)->(Nat->Ent)->Prop}{i:Nat}{o:Oper}{ρ:Operand->Value}{β:Tmp->Value}{W:World}{X:Nat->Ent}
theorem CtxV.rx{q k b r n cnt:Nat}{m:Int->Option (Option Nat)}{left:Int->Bool}{cur:Option (Int×Option Nat)}(cx:CtxV ops L a0 w0 bor X0 us D i ρ β W X)(hX:X q=eRx P k b r n m left cnt cur)(hu:(atV us i).contains q=true):gp kcI ptX P k b n m W:=by
 have h:=(cx.ok q hu).holds
 rw[hX] at h;exact h.2
theorem EG{t k e b n d q q':Nat}{m:Int->Option (Option Nat)}{x:Operand}(h:o.op= .range t x)(hx:ρ x= .map (some b))(cx:CtxV ops L a0 w0 bor X0 us D i ρ β W X)(hX:X q=eMx kcI ptX P k b n m)(hq:(atV us i).contains q=true)(hd:o.dst=some d)(hc:atV cr i=[q'])(hkl:atV kl i=[q])
  (hD:∀(l f:Tmp->Value) (X':Nat->Ent),(∀t,t≠d->l t=ρ (.tmp t))->(∀t,t≠d->f t=β t)->l d= .pointer (some ⟨pb (f d),0,none⟩)->X' q'=eRx P k b (pb (f d)) n m (fun x=>(m x).isSome) n none->D i l f X')
  (hk:P.underlying k=some (.int .i64):=by kernel_rfl) (ht:P.underlying t=some (.map k e):=by kernel_rfl):am P o ρ W (bW cr kl D i o.dst ρ β W X):=by
 have hmx:=cx.mx hX hq
 have hlt:=hmx.lt
 obtain⟨D0,hD0,hI,hm⟩:=hmx.g
 obtain⟨W',hrun,hr,hg,hsz⟩:=hD0.range (int_keyed hk) ht
 have hS:((atV kl i).flatMap fun q=>(X q).fp)=[b]:=by rw[hkl];simp[hX,eMx]
 refine am.value (v:=po W.heap.size 0) (w':=W') (by unfold execOp;rw[h];simp[hx,hrun]) ⟨[eRx P k b W.heap.size n m (fun x=>(m x).isSome) n none],by rw[hc];rfl,⟨?_,fun e' he'=>?_,List.pairwise_singleton _ _⟩,fun l f X' hs hv hb' hbv hx' hN=>?_⟩
 rw[hS]
 exact⟨hg.os,hg.tape,hg.output,hg.size,fun j hj hn=>hg.block j hj (by simp)⟩
 rw[List.mem_singleton] at he'
 subst he'
 refine⟨⟨⟨D0,_,_,hr,Et hr,fun x hx=>(hm x hx).1,hI,hm,fun x hx=>hx,fun x c hc'=>by cases hc'⟩,l6 P k b n m W W' (fun j hj=>hg.block j (by rw[List.mem_singleton.1 hj];exact hlt) (by simp)) hmx⟩,vI,fun j hj=>?_⟩
 rw[hS]
 rcases(by simpa[eRx] using hj:j=b\/j=W.heap.size) with rfl|rfl
 exact⟨.inl (by simp),by omega⟩
 exact⟨.inr (Nat.le_refl _),by omega⟩
 rw[hc] at hN
 refine hD l f X' (fun t ht=>hs t (by rw[hd];simpa using ht.symm)) (fun t ht=>hb' t (by rw[hd];simpa using ht.symm)) ?_ ?_
 rw[hv d hd,hbv d hd];rfl
 rw[hbv d hd];exact(List.cons.inj hN).1
def Cv(P:Program)(k b r n:Nat)(m:Int->Option (Option Nat))(left:Int->Bool)(cnt:Nat)(v:Value)(e:Ent):Prop:=
 (v= .tuple #[.bool false]/\(∀x:Int,(Lit.int .i64 x).wf=true->left x=false)/\e=eRx P k b r n m left cnt none)\/
 ∃(x:Int) (c:Option Nat),v= .tuple #[.bool true,.int .i64 x,nJ c]/\(-9223372036854775808<=x/\x<=9223372036854775807)/\left x=true/\m x=some c/\0<cnt/\e=eRx P k b r n m (fun y=>left y&&y != x) (cnt-1) (some (x,c))
theorem HG{k b r n cnt d q q':Nat}{m:Int->Option (Option Nat)}{left:Int->Bool}{cur:Option (Int×Option Nat)}{x:Operand}(h:o.op= .next x false)(hx:ρ x=po r 0)(cx:CtxV ops L a0 w0 bor X0 us D i ρ β W X)(hX:X q=eRx P k b r n m left cnt cur)(hq:(atV us i).contains q=true)(hd:o.dst=some d)(hc:atV cr i=[q'])(hkl:atV kl i=[q])
  (hD:∀(a f:Tmp->Value) (X':Nat->Ent),(∀t,t≠d->a t=ρ (.tmp t))->(∀t,t≠d->f t=β t)->Cv P k b r n m left cnt (a d) (X' q')->D i a f X')
  (hk:P.underlying k=some (.int .i64):=by kernel_rfl):am P o ρ W (bW cr kl D i o.dst ρ β W X):=by
 have hok:=cx.ok q hq
 rw[hX] at hok
 have hS:((atV kl i).flatMap fun q=>(X q).fp)=[b,r]:=by rw[hkl];simp[hX,eRx]
 have hlt:∀j∈[b,r],j<W.heap.size:=fun j hj=>(hok.own j hj).2
 obtain⟨⟨D0,lf,c0,hr,hle,hl,hI,hm,hls,hcur⟩,hMX⟩:=hok.holds
 have hbr:b≠r:=fun e=>by
  obtain⟨es,clock,since,seen,c1,h1,h2,h3,h4,h5,h6⟩:=hr
  rw[e,h5] at h1;cases h1
 rcases hr.next (int_keyed hk) o.type with ⟨h0,hl0,hrun⟩|⟨key,v,kl',y,w',cnt',hkey,hlk,hv,hat,hrun,hrg,hlt',hgr,hsz,hen⟩
 refine am.value (v:= .tuple #[.bool false]) (w':=W) (by unfold execOp;rw[h];simp[hx,hrun]) ⟨[eRx P k b r n m left cnt none],by rw[hc];rfl,⟨Upd.refl _ _,fun e' he'=>?_,List.pairwise_singleton _ _⟩,fun a f X' hs hv hb' hbv hx' hN=>?_⟩
 rw[List.mem_singleton] at he'
 subst he'
 refine⟨⟨⟨D0,lf,c0,hr,hle,hl,hI,hm,hls,fun x c hc'=>by cases hc'⟩,hMX⟩,vI,fun j hj=>?_⟩
 rw[hS]
 exact⟨.inl hj,hlt j hj⟩
 rw[hc] at hN
 exact hD a f X' (fun t ht=>hs t (by rw[hd];simpa using ht.symm)) (fun t ht=>hb' t (by rw[hd];simpa using ht.symm)) (.inl ⟨hv d hd,fun x hx=>by rw[<-hl x hx,hl0],(List.cons.inj hN).1⟩)
 obtain⟨x0,rfl,rfl,hwx⟩:=keyOf_int_inv hk hkey
 have hx0: -9223372036854775808<=x0/\x0<=9223372036854775807:=xq hwx
 have hlx:left x0=true:=by rw[<-hl x0 hwx];exact hlk
 have hso:=hls x0 hlx
 obtain⟨c,hmc⟩:=Option.isSome_iff_exists.1 hso
 have hvc:v=nJ c:=by
  have h2:=(hm x0 hwx).2
  rw[hat,hmc] at h2
  obtain⟨y1,y2⟩:=y
  exact ptC.back v _ y2 _ hv h2
 subst hvc
 have hb1:∀W2:World,W2.heap[b]? =w'.heap[b]? ->W2.heap[r]? =w'.heap[r]? ->(Instr.entry (po r 0)).run P W2= .ok (.tuple #[.int .i64 x0,nJ c]) W2:=fun W2 e1 e2=>AE hrg hen e1 e2
 have hMX2:gp kcI ptX P k b n m w':=l6 P k b n m W w' (fun j hj=>by
  rw[List.mem_singleton.1 hj]
  exact hgr.block b (hlt b (by simp)) (fun e'=>by cases e';exact hbr rfl)) hMX
 refine am.value (v:= .tuple #[.bool true,.int .i64 x0,nJ c]) (w':=w') (by unfold execOp;rw[h];simp[hx,hrun]) ⟨[eRx P k b r n m (fun y=>left y&&y != x0) (cnt-1) (some (x0,c))],by rw[hc];rfl,⟨?_,fun e' he'=>?_,List.pairwise_singleton _ _⟩,fun a f X' hs hv hb' hbv hx' hN=>?_⟩
 rw[hS]
 exact⟨hgr.os,hgr.tape,hgr.output,hgr.size,fun j hj hn=>hgr.block j hj (fun e'=>hn (by cases e';simp))⟩
 rw[List.mem_singleton] at he'
 subst he'
 refine⟨⟨⟨D0,_,cnt',hrg,by omega,fun z hz=>?_,hI,hm,fun z hz=>hls z (by simp only[Bool.and_eq_true] at hz;exact hz.1),fun x c' hc'=>?_⟩,hMX2⟩,vI,fun j hj=>?_⟩
 show (lf (.int .i64 z)&&!(Lit.sameKey (.int .i64 z) (.int .i64 x0)))=(left z&&z != x0)
 rw[hl z hz]
 simp[Lit.sameKey,bne,BEq.beq]
 cases hc'
 exact hb1
 rw[hS]
 exact⟨.inl hj,by rw[hsz];exact hlt j hj⟩
 rw[hc] at hN
 exact hD a f X' (fun t ht=>hs t (by rw[hd];simpa using ht.symm)) (fun t ht=>hb' t (by rw[hd];simpa using ht.symm)) (.inr ⟨x0,c,hv d hd,hx0,hlx,hmc,by omega,(List.cons.inj hN).1⟩)
theorem BH{k b r n cnt:Nat}{m:Int->Option (Option Nat)}{left:Int->Bool}{x0:Int}{c:Option Nat}{x:Operand}(h:o.op= .entry x)(hx:ρ x=po r 0)(hE:(eRx P k b r n m left cnt (some (x0,c))).holds W):(execOp ρ o).run P W= .ok (.value (.tuple #[.int .i64 x0,nJ c])) W:=BD h hx hE.1
theorem Cx{f g:Type}{K:Kc f}{C:Ec g}{t k e b n d q q':Nat}{m:f->Option g}{x:Operand}(h:o.op= .call {callee:= .builtin .clear,args:=#[x],argTypes:=#[t]})(hx:ρ x= .map (some b))(cx:CtxV ops L a0 w0 bor X0 us D i ρ β W X)(hX:X q=eMx K C P k b n m)(hq:(atV us i).contains q=true)(hc:atV cr i=[q'])(hkl:atV kl i=[q])
  (hD:∀(c a:Tmp->Value) (X':Nat->Ent),(∀t,o.dst≠some t->c t=ρ (.tmp t))->(∀t,o.dst≠some t->a t=β t)->X' q'=eMx K C P k b 0 (fun _=>none)->D i c a X')
  (ht:P.underlying t=some (.map k e):=by kernel_rfl):am P o ρ W (bW cr kl D i o.dst ρ β W X):=by
 have hmx:=cx.mx hX hq
 have hlt:=hmx.lt
 obtain⟨D0,⟨es,clock,h1,h2,h3⟩,h4⟩:=hmx
 have hnew:=heap_setBlock_same h1 (.map #[] clock)
 have hup:Upd [b] W (setBlock W b (.map #[] clock)):=⟨rfl,rfl,rfl,by simp[setBlock],fun i hi hn=>heap_setBlock_other h1 _ (fun e'=>hn (by simp[e']))⟩
 have hmx2:gp K C P k b 0 (fun _=>none) (setBlock W b (.map #[] clock)):=⟨.map [],⟨#[],clock,hnew,⟨by simp,MapKept.stamped_empty clock,by simp⟩,Nat.le_refl _,rfl⟩,tidy_empty,rfl,fun x hx=>⟨rfl,rfl⟩⟩
 have hrun:(execOp ρ o).run P W= .ok (.value (.tuple #[])) (setBlock W b (.map #[] clock)):=by
  unfold execOp;rw[h]
  simp[hx,resolve,invoke,builtin,Builtin.clear_,run_underlying ht,MapKept.run_getObj_map h1,MapKept.run_setObj_map _ h1,Result.andThen,setBlock]
 obtain⟨a1,a2,a3⟩:=p8 (cr:=cr) (kl:=kl) (i:=i) hX hmx2 hup hc hkl
 refine am.value hrun ⟨[eMx K C P k b 0 (fun _=>none)],a1,⟨a2,a3,List.pairwise_singleton _ _⟩,fun c a X' hs hv hb' hbv hx' hN=>hD c a X' hs hb' ?_⟩
 rw[hc] at hN
 exact(List.cons.inj hN).1
end
end
section
open Go.RowKit
structure PgR where
 p:PgS
 A:Option Addr
 c:Nat
structure BfT where
 n:Int
 blk:Nat
 pg:PgR
 dirty:Bool
 used:Int
structure StM where
 D:DkM
 bufs:Int
 pool:List BfT
 time:Int
 recs:List RcT
 ni:Nat
 im:Int->Option Bool
 nt:Nat
 told:Int->Option Bool
 frm:Int
 rows:List PgR
 rr:List RcT
abbrev StM.L(S:StM):List RecM:=S.recs.map RcT.r
def atM(l:List BfT)(x:Int):Option (Option Nat):=(l.find? fun t=>t.n==x).map fun t=>some t.blk
def da(l:List BfT)(n:Int)(f:BfT->BfT):List BfT:=l.map fun t=>if t.n=n then f t else t
def flN(L:List RecM)(fl:Nat):Nat:=(cJ L L.length).countP (·<(fl:Int)+1)
abbrev StM.F(S:StM):Nat:=flN S.L S.D.fl
def wrD0(S:StM)(t:BfT):DkM×Int:=if (S.F:Int)<t.pg.p.2.1 then opD S.D 0 flD else (S.D,0)
def clB(t:BfT):BfT:={t with dirty:=false}
def bM(S:StM)(t:BfT):StM×Int:=
 if (wrD0 S t).2≠0 then ({S with D:=(wrD0 S t).1},(wrD0 S t).2) else
 let D1:=(wrD0 S t).1
 let R:=opD D1 (wrE D1 t.n (aI t.pg.p)) (wrD t.n (aI t.pg.p))
 ({S with D:=R.1,pool:=if R.2=0 then da S.pool t.n clB else S.pool},R.2)
def aL(S:StM)(t:BfT):StM×Int:=if t.dirty=true then bM S t else (S,0)
def lr(k:Int)(t:BfT):BfT:={t with used:=k}
def tick(S:StM):StM:={S with time:=S.time+1}
def rmB(l:List BfT)(n:Int):List BfT:=l.filter fun t=>t.n != n
def br(S:StM)(t:BfT):StM×Int:=if S.bufs<=(S.pool.length:Int) then (if (aL S t).2≠0 then aL S t else ({(aL S t).1 with pool:=rmB (aL S t).1.pool t.n},0)) else (S,0)
noncomputable def jJ(S:StM)(n:Int)(t:BfT)(blk:Nat)(A:Option Addr)(c:Nat):StM×Int:=
 if (br S t).2≠0 then br S t else
 let pg:PgR:=⟨rdP (rdS S.D n).1,A,c⟩
 ({(br S t).1 with pool:=(br S t).1.pool++[⟨n,blk,pg,false,S.time⟩],rows:=(br S t).1.rows++[pg]},0)
inductive LdR (S:StM) (n:Int):StM->Int->Prop where
 |hit (t:BfT) (h:t∈S.pool) (hn:t.n=n):LdR S n {tick S with pool:=da S.pool n (lr (S.time+1))} 0
 |bad (h:∀t∈S.pool,t.n≠n) (he:(rdS S.D n).2≠0):LdR S n (tick S) (rdS S.D n).2
 |new (t:BfT) (blk:Nat) (A:Option Addr) (c:Nat) (h:∀t∈S.pool,t.n≠n) (he:(rdS S.D n).2=0) (ht:S.bufs<=(S.pool.length:Int)->t∈S.pool):LdR S n (jJ (tick S) n t blk A c).1 (jJ (tick S) n t blk A c).2
noncomputable def shP(D:DkM)(n:Int):PgS:=rdP (rdT (D.pgs.getD n.toNat gz)).1
noncomputable def aH(S:StM)(n:Int):PgS:=match S.pool.find? (fun t=>t.n==n) with
 |some t=>t.pg.p
 |none=>shP S.D n
structure SOk (S:StM) (c:Nat):Prop where
 bufs:1<=S.bufs/\S.bufs<=64
 pgs:S.D.pgs.length<=400
 ws:∀x∈S.D.pgs,x.ws.length<=c
 time:0<=S.time/\S.time<=(c:Int)
 ni:S.ni<=c
 nt:S.nt<=c
 right:∀t∈S.pool,bI t.pg.p
 nodup:(S.pool.map BfT.n).Nodup
 len:(S.pool.length:Int)<=S.bufs
 keys:∀t∈S.pool,0<=t.n/\t.n<(S.D.pgs.length:Int)
 recs:∀r∈S.L,bz r=true
 log:S.D.log=dj S.L
 lsz:S.D.log.size<=1048576
 fl:S.D.fl<=S.D.log.size
 cl:∀t∈S.pool,t.dirty=false->t.pg.p=shP S.D t.n
def fo(t:BfT):Ent:=eB t.blk 120 #[.int .i64 t.pg.p.1,.int .i64 t.pg.p.2.1,.slice t.pg.A t.pg.p.2.2.length t.pg.c,.bool t.dirty,.int .i64 t.used]
def dH(r:PgR):Ent:=eO 9 1 (.slice r.A r.p.2.2.length r.c) r.p.2.2.length (r.p.2.2.map Value.string)
def stC(db:Nat)(S:StM)(mb:Nat)(RA:Option Addr)(rc:Nat)(EA:Option Addr)(ec ib tb:Nat):Array Value:=#[.pointer (some ⟨db,0,none⟩),.int .i64 S.bufs,.map (some mb),.int .i64 S.time,.slice RA S.recs.length rc,.slice EA S.recs.length ec,.map (some ib),.map (some tb),.int .i64 S.frm]
noncomputable def stL(sb db:Nat)(S:StM)(mb:Nat)(RA:Option Addr)(rc:Nat)(EA:Option Addr)(ec ib tb:Nat)(fpd:List Nat):List Ent:=
 [eB sb 109 (stC db S mb RA rc EA ec ib tb),eMx kcI ptX Tryz.prog 3 mb S.pool.length (atM S.pool),eA (S.pool.map fo),eM (S.rows.map dH),eO 27 8 (.slice RA S.recs.length rc) S.recs.length (S.recs.flatMap rcC),
  eO 3 1 (.slice EA S.recs.length ec) S.recs.length ((cJ S.L S.recs.length).map (Value.int .i64)),eRc S.rr,eMx kcI ecB Tryz.prog 3 ib S.ni S.im,eMx kcI ecB Tryz.prog 3 tb S.nt S.told,eDk db S.D fpd]
def eSt(sb db:Nat)(S:StM)(fp:List Nat):Ent:=⟨fp,fun W=>((∀t∈S.pool,t.pg∈S.rows)/\∀t∈S.recs,t∈S.rr)/\∃mb RA rc EA ec ib tb fpd,fp=(stL sb db S mb RA rc EA ec ib tb fpd).flatMap (·.fp)/\(stL sb db S mb RA rc EA ec ib tb fpd).Pairwise Ent.apart/\∀e∈stL sb db S mb RA rc EA ec ib tb fpd,e.holds W/\e.loc⟩
theorem dp(sb db:Nat)(S:StM)(fp:List Nat):(eSt sb db S fp).loc:=fun W W' hk h=>by
 obtain⟨h0,mb,RA,rc,EA,ec,ib,tb,fpd,h1,h2,h3⟩:=h
 exact⟨h0,mb,RA,rc,EA,ec,ib,tb,fpd,h1,h2,fun e he=>⟨(h3 e he).2 W W' (fun k hk'=>hk k (by rw[eSt,h1];exact List.mem_flatMap.2 ⟨e,he,hk'⟩)) (h3 e he).1,(h3 e he).2⟩⟩
theorem gK{e:Ent}{sb db:Nat}{S:StM}{fp:List Nat}(h:e=eSt sb db S fp):e=eSt sb db S e.fp:=by subst h;rfl
theorem St.st{w0 W:World}{bor:List Nat}{L:List Ent}{sb db:Nat}{S:StM}{mb:Nat}{RA:Option Addr}{rc:Nat}{EA:Option Addr}{ec ib tb:Nat}{fpd:List Nat}(h:St w0 bor (L++stL sb db S mb RA rc EA ec ib tb fpd) W)(h1:∀t∈S.pool,t.pg∈S.rows)(h2:∀t∈S.recs,t∈S.rr):∃fp,St w0 bor (L++[eSt sb db S fp]) W:=by
 refine⟨_,St.pack (E:=eSt sb db S ((stL sb db S mb RA rc EA ec ib tb fpd).flatMap (·.fp))) h rfl ⟨⟨h1,h2⟩,mb,RA,rc,EA,ec,ib,tb,fpd,rfl,(List.pairwise_append.1 h.apart).2.1,fun e he=>?_⟩ (dp _ _ _ _)⟩
 have h3:=h.ok e (List.mem_append_right _ he)
 exact⟨h3.holds,h3.loc⟩
theorem St.unst{w0 W:World}{bor:List Nat}{L:List Ent}{sb db:Nat}{S:StM}{fp:List Nat}(h:St w0 bor (L++[eSt sb db S fp]) W):((∀t∈S.pool,t.pg∈S.rows)/\∀t∈S.recs,t∈S.rr)/\∃mb RA rc EA ec ib tb fpd,St w0 bor (L++stL sb db S mb RA rc EA ec ib tb fpd) W:=by
 obtain⟨h0,mb,RA,rc,EA,ec,ib,tb,fpd,h1,h2,h3⟩:=(h.ok (eSt sb db S fp) (by simp)).holds
 exact⟨h0,mb,RA,rc,EA,ec,ib,tb,fpd,h.unpackL h1 h3 h2⟩
def eSx(sb db:Nat)(Φ:StM->Prop)(fp:List Nat):Ent:=⟨fp,fun W=>∃S,Φ S/\(eSt sb db S fp).holds W⟩
theorem vJ(sb db:Nat)(Φ:StM->Prop)(fp:List Nat):(eSx sb db Φ fp).loc:=fun W W' hk h=>let ⟨S,h1,h2⟩:=h;⟨S,h1,dp sb db S fp W W' hk h2⟩
theorem fK{e:Ent}{sb db:Nat}{Φ:StM->Prop}{fp:List Nat}(h:e=eSx sb db Φ fp):e=eSx sb db Φ e.fp:=by subst h;rfl
theorem St.sx{w0 W:World}{bor:List Nat}{L:List Ent}{sb db:Nat}{Φ:StM->Prop}{S:StM}{fp:List Nat}(h:St w0 bor (L++[eSt sb db S fp]) W)(hS:Φ S):St w0 bor (L++[eSx sb db Φ fp]) W:=St.repl (L2:=[]) h rfl (fun h1=>⟨S,hS,h1⟩) (vJ _ _ _ _)
theorem St.unsx{w0 W:World}{bor:List Nat}{L:List Ent}{sb db:Nat}{Φ:StM->Prop}{fp:List Nat}(h:St w0 bor (L++[eSx sb db Φ fp]) W):∃S,Φ S/\St w0 bor (L++[eSt sb db S fp]) W:=by
 obtain⟨S,h1,h2⟩:=(h.ok (eSx sb db Φ fp) (by simp)).holds
 exact⟨S,h1,St.repl (L2:=[]) h rfl (fun _=>h2) (dp _ _ _ _)⟩
theorem St.outB{w0 W:World}{bor:List Nat}{L:List Ent}{A B:List BfT}{t:BfT}(h:St w0 bor (L++[eA ((A++t::B).map fo)]) W):St w0 bor (L++[eA ((A++B).map fo),fo t]) W:=by
 rw[List.map_append] at h |-
 exact St.outA h
theorem St.inB{w0 W:World}{bor:List Nat}{L:List Ent}{A B:List BfT}{t:BfT}(h:St w0 bor (L++[eA ((A++B).map fo),fo t]) W):St w0 bor (L++[eA ((A++t::B).map fo)]) W:=by
 rw[List.map_append] at h |-
 exact St.inA h
theorem i6{rows:List PgR}{W:World}(h:(eM (rows.map dH)).holds W){r:PgR}(hr:r∈rows):At W r.A (r.p.2.2.map Value.string):=At.of_own (h (dH r) (List.mem_map.2 ⟨_,hr,rfl⟩)).1
theorem St.absP{w0 W:World}{bor:List Nat}{L:List Ent}{sb db:Nat}{S:StM}{fp:List Nat}{r:PgR}(h:St w0 bor (L++[dH r,eSt sb db S fp]) W):∃fp',St w0 bor (L++[eSt sb db {S with rows:=S.rows++[r]} fp']) W:=by
 have h0:St w0 bor ((L++[dH r])++[eSt sb db S fp]) W:=by rw[List.append_assoc];exact h
 obtain⟨⟨h1,h2⟩,mb,RA,rc,EA,ec,ib,tb,fpd,h3⟩:=h0.unst
 have h4:St w0 bor ((L++[eB sb 109 (stC db S mb RA rc EA ec ib tb),eMx kcI ptX Tryz.prog 3 mb S.pool.length (atM S.pool),eA (S.pool.map fo),eO 27 8 (.slice RA S.recs.length rc) S.recs.length (S.recs.flatMap rcC),eO 3 1 (.slice EA S.recs.length ec) S.recs.length ((cJ S.L S.recs.length).map (Value.int .i64)),eRc S.rr,eMx kcI ecB Tryz.prog 3 ib S.ni S.im,eMx kcI ecB Tryz.prog 3 tb S.nt S.told,eDk db S.D fpd])++[eM (S.rows.map dH),dH r]) W:=h3.perm (by
  simp only[List.append_assoc]
  refine List.Perm.append_left L ?_
  show List.Perm [dH r,eB _ _ _,eMx _ _ _ _ _ _ _,eA _,eM _,eO _ _ _ _ _,eO _ _ _ _ _,eRc _,eMx _ _ _ _ _ _ _,eMx _ _ _ _ _ _ _,eDk _ _ _] [eB _ _ _,eMx _ _ _ _ _ _ _,eA _,eO _ _ _ _ _,eO _ _ _ _ _,eRc _,eMx _ _ _ _ _ _ _,eMx _ _ _ _ _ _ _,eDk _ _ _,eM _,dH r]
  refine(List.perm_append_comm (l₁:=[dH r]) (l₂:=[_,_,_,_,_,_,_,_,_,_])).trans ?_
  refine List.Perm.cons _ (List.Perm.cons _ (List.Perm.cons _ ?_))
  exact(List.perm_append_comm (l₁:=[_]) (l₂:=[_,_,_,_,_,_])).append_right [dH r])
 have h5:=h4.merge
 have h6:St w0 bor (L++stL sb db {S with rows:=S.rows++[r]} mb RA rc EA ec ib tb fpd) W:=h5.perm (by
  rw[List.append_assoc]
  refine List.Perm.append_left L ?_
  show List.Perm [eB _ _ _,eMx _ _ _ _ _ _ _,eA _,eO _ _ _ _ _,eO _ _ _ _ _,eRc _,eMx _ _ _ _ _ _ _,eMx _ _ _ _ _ _ _,eDk _ _ _,eM _] [eB _ _ _,eMx _ _ _ _ _ _ _,eA _,eM (List.map dH (S.rows++[r])),eO _ _ _ _ _,eO _ _ _ _ _,eRc _,eMx _ _ _ _ _ _ _,eMx _ _ _ _ _ _ _,eDk _ _ _]
  refine List.Perm.cons _ (List.Perm.cons _ (List.Perm.cons _ ?_))
  rw[List.map_append]
  exact List.perm_append_comm (l₁:=[_,_,_,_,_,_]) (l₂:=[_]))
 exact h6.st (S:={S with rows:=S.rows++[r]}) (fun t ht=>List.mem_append_left _ (h1 t ht)) h2
theorem St.absR{w0 W:World}{bor:List Nat}{L:List Ent}{sb db:Nat}{S:StM}{fp:List Nat}{r:RcT}(h:St w0 bor (L++[gM r,eSt sb db S fp]) W):∃fp',St w0 bor (L++[eSt sb db {S with rr:=S.rr++[r]} fp']) W:=by
 have h0:St w0 bor ((L++[gM r])++[eSt sb db S fp]) W:=by rw[List.append_assoc];exact h
 obtain⟨⟨h1,h2⟩,mb,RA,rc,EA,ec,ib,tb,fpd,h3⟩:=h0.unst
 have h4:St w0 bor ((L++[eB sb 109 (stC db S mb RA rc EA ec ib tb),eMx kcI ptX Tryz.prog 3 mb S.pool.length (atM S.pool),eA (S.pool.map fo),eM (S.rows.map dH),eO 27 8 (.slice RA S.recs.length rc) S.recs.length (S.recs.flatMap rcC),eO 3 1 (.slice EA S.recs.length ec) S.recs.length ((cJ S.L S.recs.length).map (Value.int .i64)),eMx kcI ecB Tryz.prog 3 ib S.ni S.im,eMx kcI ecB Tryz.prog 3 tb S.nt S.told,eDk db S.D fpd])++[eRc S.rr,gM r]) W:=h3.perm (by
  simp only[List.append_assoc]
  refine List.Perm.append_left L ?_
  show List.Perm [gM r,eB _ _ _,eMx _ _ _ _ _ _ _,eA _,eM _,eO _ _ _ _ _,eO _ _ _ _ _,eRc _,eMx _ _ _ _ _ _ _,eMx _ _ _ _ _ _ _,eDk _ _ _] [eB _ _ _,eMx _ _ _ _ _ _ _,eA _,eM _,eO _ _ _ _ _,eO _ _ _ _ _,eMx _ _ _ _ _ _ _,eMx _ _ _ _ _ _ _,eDk _ _ _,eRc _,gM r]
  refine(List.perm_append_comm (l₁:=[gM r]) (l₂:=[_,_,_,_,_,_,_,_,_,_])).trans ?_
  refine List.Perm.cons _ (List.Perm.cons _ (List.Perm.cons _ (List.Perm.cons _ (List.Perm.cons _ (List.Perm.cons _ ?_)))))
  exact(List.perm_append_comm (l₁:=[_]) (l₂:=[_,_,_])).append_right [gM r])
 have h5:=h4.mergeR
 have h6:St w0 bor (L++stL sb db {S with rr:=S.rr++[r]} mb RA rc EA ec ib tb fpd) W:=h5.perm (by
  rw[List.append_assoc]
  refine List.Perm.append_left L ?_
  show List.Perm [eB _ _ _,eMx _ _ _ _ _ _ _,eA _,eM _,eO _ _ _ _ _,eO _ _ _ _ _,eMx _ _ _ _ _ _ _,eMx _ _ _ _ _ _ _,eDk _ _ _,eRc (S.rr++[r])] [eB _ _ _,eMx _ _ _ _ _ _ _,eA _,eM _,eO _ _ _ _ _,eO _ _ _ _ _,eRc _,eMx _ _ _ _ _ _ _,eMx _ _ _ _ _ _ _,eDk _ _ _]
  refine List.Perm.cons _ (List.Perm.cons _ (List.Perm.cons _ (List.Perm.cons _ (List.Perm.cons _ (List.Perm.cons _ ?_)))))
  exact List.perm_append_comm (l₁:=[_,_,_]) (l₂:=[_]))
 exact h6.st (S:={S with rr:=S.rr++[r]}) h1 (fun t ht=>List.mem_append_left _ (h2 t ht))
theorem kT{A B:List BfT}{t:BfT}(h:((A++t::B).map BfT.n).Nodup):atM (A++t::B) t.n=some (some t.blk):=by
 rw[List.map_append,List.map_cons] at h
 have h1:A.find? (fun u=>u.n==t.n)=none:=by
  rw[List.find?_eq_none]
  intro u hu hc
  have h2:=(List.nodup_append.1 h).2.2 u.n (List.mem_map.2 ⟨u,hu,rfl⟩) t.n (by simp)
  exact h2 (by simpa using hc)
 rw[atM,List.find?_append,h1]
 simp
theorem kt{l:List BfT}{n:Int}(h:∀t∈l,t.n≠n):atM l n=none:=by
 rw[atM,List.find?_eq_none.2 (fun t ht=>by simpa using h t ht)];rfl
theorem F9{l:List BfT}{n:Int}{v:Option Nat}(h:atM l n=some v):∃t∈l,t.n=n/\v=some t.blk:=by
 rw[atM] at h
 obtain⟨t,h1,rfl⟩:=Option.map_eq_some_iff.1 h
 exact⟨t,List.mem_of_find?_eq_some h1,by simpa using List.find?_some h1,rfl⟩
theorem Bh(l:List BfT)(n:Int):(∀t∈l,t.n≠n)\/∃A t B,l=A++t::B/\t.n=n:=by
 by_cases h:∃t∈l,t.n=n
 obtain⟨t,ht,hn⟩:=h
 obtain⟨A,B,e⟩:=List.append_of_mem ht
 exact .inr ⟨A,t,B,e,hn⟩
 exact .inl fun t ht hn=>h ⟨t,ht,hn⟩
theorem kp{A B:List BfT}{t:BfT}(h:((A++t::B).map BfT.n).Nodup)(f:BfT->BfT):da (A++t::B) t.n f=A++f t::B:=by
 rw[List.map_append,List.map_cons] at h
 have h1:=List.nodup_append.1 h
 have h2:=List.nodup_cons.1 h1.2.1
 have hid:∀l:List BfT,(∀u∈l,u.n≠t.n)->l.map (fun u=>if u.n=t.n then f u else u)=l:=fun l hl=>by
  conv=>rhs;rw[<-List.map_id l]
  exact List.map_congr_left fun u hu=>by rw[if_neg (hl u hu)];rfl
 rw[da,List.map_append,List.map_cons,if_pos rfl,hid A (fun u hu e=>h1.2.2 u.n (List.mem_map.2 ⟨u,hu,rfl⟩) t.n (by simp) e),hid B (fun u hu e=>h2.1 (List.mem_map.2 ⟨u,hu,e⟩))]
theorem A5{A B:List BfT}{t:BfT}(h:((A++t::B).map BfT.n).Nodup):rmB (A++t::B) t.n=A++B:=by
 rw[List.map_append,List.map_cons] at h
 have h1:=List.nodup_append.1 h
 have h2:=List.nodup_cons.1 h1.2.1
 have hid:∀l:List BfT,(∀u∈l,u.n≠t.n)->l.filter (fun u=>u.n != t.n)=l:=fun l hl=>List.filter_eq_self.2 fun u hu=>by simpa using hl u hu
 rw[rmB,List.filter_append,List.filter_cons,if_neg (by simp),hid A (fun u hu e=>h1.2.2 u.n (List.mem_map.2 ⟨u,hu,rfl⟩) t.n (by simp) e),hid B (fun u hu e=>h2.1 (List.mem_map.2 ⟨u,hu,e⟩))]
theorem oe{A B:List BfT}{t u:BfT}(hn:u.n=t.n)(hb:u.blk=t.blk):atM (A++u::B)=atM (A++t::B):=by
 funext x
 rw[atM,atM,List.find?_append,List.find?_append,List.find?_cons,List.find?_cons,hn]
 cases A.find? (fun t=>t.n==x) with
 |some v=>rfl
 |none=>
  cases hx:t.n==x with
  |true=>simp[hb]
  |false=>simp
end
section
open Go.RowKit Go.Maps Go.ChangeMaps
def jP(S:StM)(pg:PgR):StM:={S with rows:=S.rows++[pg]}
section
variable{w0 W:World}{bor:List Nat}{L:List Ent}{a0 a1 a2 a3 a4 a5 a6 a7 a8 a9 a10 a11 a12 a13 a14 a15 a16 a17 a18 a19 x:Ent}
theorem St.c0(h:St w0 bor (x::L) W):St w0 bor L W:=⟨h.upd,fun e he=>h.ok e (List.mem_cons_of_mem _ he),(List.pairwise_cons.1 h.apart).2⟩
theorem St.fr{E:Ent}{R:List Ent}(h:St w0 bor (R++L) W)(f:∀{L'},St w0 bor (L'++R) W->St w0 bor (L'++[E]) W):St w0 bor (E::L) W:=(f (h.perm List.perm_append_comm)).perm (List.perm_append_singleton _ _)
theorem St.u1(h:St w0 bor (a0::x::L) W):St w0 bor (x::a0::L) W:=h.perm (List.perm_middle (l₁:=[a0]))
theorem St.u2(h:St w0 bor (a0::a1::x::L) W):St w0 bor (x::a0::a1::L) W:=h.perm (List.perm_middle (l₁:=[a0,a1]))
theorem St.u3(h:St w0 bor (a0::a1::a2::x::L) W):St w0 bor (x::a0::a1::a2::L) W:=h.perm (List.perm_middle (l₁:=[a0,a1,a2]))
theorem St.u4(h:St w0 bor (a0::a1::a2::a3::x::L) W):St w0 bor (x::a0::a1::a2::a3::L) W:=h.perm (List.perm_middle (l₁:=[a0,a1,a2,a3]))
theorem St.u5(h:St w0 bor (a0::a1::a2::a3::a4::x::L) W):St w0 bor (x::a0::a1::a2::a3::a4::L) W:=h.perm (List.perm_middle (l₁:=[a0,a1,a2,a3,a4]))
theorem St.u6(h:St w0 bor (a0::a1::a2::a3::a4::a5::x::L) W):St w0 bor (x::a0::a1::a2::a3::a4::a5::L) W:=h.perm (List.perm_middle (l₁:=[a0,a1,a2,a3,a4,a5]))
theorem St.u7(h:St w0 bor (a0::a1::a2::a3::a4::a5::a6::x::L) W):St w0 bor (x::a0::a1::a2::a3::a4::a5::a6::L) W:=h.perm (List.perm_middle (l₁:=[a0,a1,a2,a3,a4,a5,a6]))
theorem St.u8(h:St w0 bor (a0::a1::a2::a3::a4::a5::a6::a7::x::L) W):St w0 bor (x::a0::a1::a2::a3::a4::a5::a6::a7::L) W:=h.perm (List.perm_middle (l₁:=[a0,a1,a2,a3,a4,a5,a6,a7]))
theorem St.u9(h:St w0 bor (a0::a1::a2::a3::a4::a5::a6::a7::a8::x::L) W):St w0 bor (x::a0::a1::a2::a3::a4::a5::a6::a7::a8::L) W:=h.perm (List.perm_middle (l₁:=[a0,a1,a2,a3,a4,a5,a6,a7,a8]))
theorem St.u10(h:St w0 bor (a0::a1::a2::a3::a4::a5::a6::a7::a8::a9::x::L) W):St w0 bor (x::a0::a1::a2::a3::a4::a5::a6::a7::a8::a9::L) W:=h.perm (List.perm_middle (l₁:=[a0,a1,a2,a3,a4,a5,a6,a7,a8,a9]))
theorem St.u11(h:St w0 bor (a0::a1::a2::a3::a4::a5::a6::a7::a8::a9::a10::x::L) W):St w0 bor (x::a0::a1::a2::a3::a4::a5::a6::a7::a8::a9::a10::L) W:=h.perm (List.perm_middle (l₁:=[a0,a1,a2,a3,a4,a5,a6,a7,a8,a9,a10]))
theorem St.u13(h:St w0 bor (a0::a1::a2::a3::a4::a5::a6::a7::a8::a9::a10::a11::a12::x::L) W):St w0 bor (x::a0::a1::a2::a3::a4::a5::a6::a7::a8::a9::a10::a11::a12::L) W:=h.perm (List.perm_middle (l₁:=[a0,a1,a2,a3,a4,a5,a6,a7,a8,a9,a10,a11,a12]))
theorem St.u14(h:St w0 bor (a0::a1::a2::a3::a4::a5::a6::a7::a8::a9::a10::a11::a12::a13::x::L) W):St w0 bor (x::a0::a1::a2::a3::a4::a5::a6::a7::a8::a9::a10::a11::a12::a13::L) W:=h.perm (List.perm_middle (l₁:=[a0,a1,a2,a3,a4,a5,a6,a7,a8,a9,a10,a11,a12,a13]))
theorem St.u16(h:St w0 bor (a0::a1::a2::a3::a4::a5::a6::a7::a8::a9::a10::a11::a12::a13::a14::a15::x::L) W):St w0 bor (x::a0::a1::a2::a3::a4::a5::a6::a7::a8::a9::a10::a11::a12::a13::a14::a15::L) W:=h.perm (List.perm_middle (l₁:=[a0,a1,a2,a3,a4,a5,a6,a7,a8,a9,a10,a11,a12,a13,a14,a15]))
variable{sb db:Nat}{S:StM}{fp:List Nat}
theorem St.unf(h:St w0 bor (eSt sb db S fp::L) W):((∀t∈S.pool,t.pg∈S.rows)/\∀t∈S.recs,t∈S.rr)/\∃mb RA rc EA ec ib tb fpd,St w0 bor (eB sb 109 #[vp db,vi S.bufs,.map (some mb),vi S.time,.slice RA S.recs.length rc,.slice EA S.recs.length ec,.map (some ib),.map (some tb),vi S.frm]::eMx kcI ptX Tryz.prog 3 mb S.pool.length (atM S.pool)::eA (List.map fo S.pool)::eM (List.map dH S.rows)::eO 27 8 (.slice RA S.recs.length rc) S.recs.length (S.recs.flatMap rcC)::eO 3 1 (.slice EA S.recs.length ec) S.recs.length ((cJ S.L S.recs.length).map (Value.int .i64))::eRc S.rr::eMx kcI ecB Tryz.prog 3 ib S.ni S.im::eMx kcI ecB Tryz.prog 3 tb S.nt S.told::eDk db S.D fpd::L) W:=by
 obtain⟨h0,mb,RA,rc,EA,ec,ib,tb,fpd,h1⟩:=St.unst (h.perm (List.perm_append_singleton _ L).symm)
 exact⟨h0,mb,RA,rc,EA,ec,ib,tb,fpd,h1.perm List.perm_append_comm⟩
theorem St.stf{mb:Nat}{RA:Option Addr}{rc:Nat}{EA:Option Addr}{ec ib tb:Nat}{fpd:List Nat}(h:St w0 bor (stL sb db S mb RA rc EA ec ib tb fpd++L) W)(h1:∀t∈S.pool,t.pg∈S.rows)(h2:∀t∈S.recs,t∈S.rr):∃fp,St w0 bor (eSt sb db S fp::L) W:=by
 obtain⟨fp,h3⟩:=St.st (h.perm List.perm_append_comm) h1 h2
 exact⟨fp,h3.perm (List.perm_append_singleton _ _)⟩
theorem St.unx{Φ:StM->Prop}(h:St w0 bor (eSx sb db Φ fp::L) W):∃S,Φ S/\St w0 bor (eSt sb db S fp::L) W:=by
 obtain⟨S,h1,h2⟩:=St.unsx (h.perm (List.perm_append_singleton _ L).symm)
 exact⟨S,h1,h2.perm (List.perm_append_singleton _ _)⟩
theorem St.obf{A B:List BfT}{t:BfT}(h:St w0 bor (eA (List.map fo (A++t::B))::L) W):St w0 bor (eA (List.map fo (A++B))::eB t.blk 120 #[vi t.pg.p.1,vi t.pg.p.2.1,.slice t.pg.A t.pg.p.2.2.length t.pg.c,.bool t.dirty,vi t.used]::L) W:=
 (St.outB (h.perm (List.perm_append_singleton _ L).symm)).perm List.perm_append_comm
theorem St.ibf{A B:List BfT}{t:BfT}(h:St w0 bor (eA (List.map fo (A++B))::fo t::L) W):St w0 bor (eA (List.map fo (A++t::B))::L) W:=St.fr (R:=[_,_]) h St.inB
theorem St.apf{l:List PgR}{r:PgR}(h:St w0 bor (eM (List.map dH l)::dH r::L) W):St w0 bor (eM (List.map dH (l++[r]))::L) W:=St.fr (R:=[_,_]) h (fun h=>by rw[List.map_append];exact St.merge h)
theorem St.abf{l:List BfT}{t:BfT}(h:St w0 bor (eA (List.map fo l)::fo t::L) W):St w0 bor (eA (List.map fo (l++[t]))::L) W:=St.ibf (A:=l) (B:=[]) (by rw[List.append_nil];exact h)
theorem St.erf{P:Program}{k b r n cnt:Nat}{m:Int->Option (Option Nat)}{left:Int->Bool}{cur:Option (Int×Option Nat)}(h:St w0 bor (eRx P k b r n m left cnt cur::L) W):St w0 bor (eMx kcI ptX P k b n m::L) W:=(St.endRx (h.perm (List.perm_append_singleton _ L).symm)).perm (List.perm_append_singleton _ _)
theorem St.nA{α:Type}(f:α->Ent)(h:St w0 bor L W):St w0 bor (eA (List.map f [])::L) W:=(St.packA (R:=[]) (by rw[List.append_nil];exact h)).perm (List.perm_append_singleton _ _)
theorem St.nM{α:Type}(f:α->Ent)(h:St w0 bor L W):St w0 bor (eM (List.map f [])::L) W:=h.emNil.perm (List.perm_append_singleton _ _)
theorem St.rPf{r:PgR}(h:St w0 bor (dH r::eSt sb db S fp::L) W):∃fp',St w0 bor (eSt sb db (jP S r) fp'::L) W:=by
 obtain⟨f,h1⟩:=St.absP (L:=L) (h.perm (List.perm_append_comm (l₁:=[_,_])))
 exact⟨f,h1.perm (List.perm_append_singleton _ _)⟩
theorem St.rRn{r:RcT}(h:St w0 bor (gM r::eSt sb db S fp::L) W):∃S2 fp',{S with rr:=S.rr++[r]}=S2/\St w0 bor (eSt sb db S2 fp'::L) W:=by
 obtain⟨f,h1⟩:=St.absR (L:=L) (h.perm (List.perm_append_comm (l₁:=[_,_])))
 exact⟨_,f,rfl,h1.perm (List.perm_append_singleton _ _)⟩
end
end
section
open Go.RowKit
def jH(W:World)(A:Option Addr)(xs:List Value):Prop:=(A=none/\xs=[])\/∃g,A=some ⟨g,0,none⟩/\At W A xs
theorem jH.ext{W W':World}{A:Option Addr}{xs:List Value}(h:jH W A xs)(hx:Ext W W'):jH W' A xs:=h.imp id fun⟨g,h1,h3⟩=>⟨g,h1,h3.ext hx⟩
theorem jH.own{W:World}{A:Option Addr}{n c base:Nat}{xs:List Value}{e:TypeId}(h:W.ownsRow base e 1 (.slice A n c) n xs):jH W A xs:=by
 have hA:=At.of_own h
 have hl:=h.1
 rcases h.2 with ⟨hv,h0⟩|⟨g,cap,cur,hv,_⟩
 injection hv with h1 h2 h3
 exact .inl ⟨h1,List.eq_nil_of_length_eq_zero (by omega)⟩
 injection hv with h1 h2 h3
 exact .inr ⟨g,h1,hA⟩
structure StO (W:World) (sb db:Nat) (S:StM) (mb:Nat) (RA:Option Addr) (rc:Nat) (EA:Option Addr) (ec ib tb:Nat):Prop where
 blk:Blk W sb 109 (stC db S mb RA rc EA ec ib tb)
 dk:ju W db S.D
 recs:At W RA (S.recs.flatMap rcC)
 ends:jH W EA ((cJ S.L S.recs.length).map (Value.int .i64))
 own:∀t∈S.rr,At W t.A (t.r.eds.flatMap edC)
def km(W:World)(sb db:Nat)(S:StM):Prop:=∃mb RA rc EA ec ib tb,StO W sb db S mb RA rc EA ec ib tb
theorem StO.blkL{W:World}{sb db:Nat}{S:StM}{mb:Nat}{RA:Option Addr}{rc:Nat}{EA:Option Addr}{ec ib tb:Nat}(h:StO W sb db S mb RA rc EA ec ib tb):Blk W sb 109 #[po db 0,.int .i64 S.bufs,.map (some mb),.int .i64 S.time,.slice RA S.recs.length rc,.slice EA S.recs.length ec,.map (some ib),.map (some tb),.int .i64 S.frm]:=h.blk
theorem StO.ext{W W':World}{sb db:Nat}{S:StM}{mb:Nat}{RA:Option Addr}{rc:Nat}{EA:Option Addr}{ec ib tb:Nat}(h:StO W sb db S mb RA rc EA ec ib tb)(hx:Ext W W'):StO W' sb db S mb RA rc EA ec ib tb:=⟨h.blk.ext hx,h.dk.ext hx,h.recs.ext hx,h.ends.ext hx,fun t ht=>(h.own t ht).ext hx⟩
theorem km.ext{W W':World}{sb db:Nat}{S:StM}(h:km W sb db S)(hx:Ext W W'):km W' sb db S:=let ⟨mb,RA,rc,EA,ec,ib,tb,h1⟩:=h;⟨mb,RA,rc,EA,ec,ib,tb,h1.ext hx⟩
theorem En{W:World}{sb db:Nat}{S:StM}{mb:Nat}{RA:Option Addr}{rc:Nat}{EA:Option Addr}{ec ib tb:Nat}{fpd:List Nat}(h:∀e∈stL sb db S mb RA rc EA ec ib tb fpd,e.holds W):StO W sb db S mb RA rc EA ec ib tb:=
 ⟨h (eB sb 109 (stC db S mb RA rc EA ec ib tb)) (by simp[stL]),fa (h (eDk db S.D fpd) (by simp[stL])),At.of_ownN (h (eO 27 8 (.slice RA S.recs.length rc) S.recs.length (S.recs.flatMap rcC)) (by simp[stL])),
  jH.own (h (eO 3 1 (.slice EA S.recs.length ec) S.recs.length ((cJ S.L S.recs.length).map (Value.int .i64))) (by simp[stL])),fun t ht=>dW (h (eRc S.rr) (by simp[stL])) ht⟩
theorem p5{W:World}{sb db:Nat}{S:StM}{fp:List Nat}(h:(eSt sb db S fp).holds W):km W sb db S:=by
 obtain⟨_,mb,RA,rc,EA,ec,ib,tb,fpd,_,_,h3⟩:=h
 exact⟨mb,RA,rc,EA,ec,ib,tb,En fun e he=>(h3 e he).1⟩
theorem Gd(L:List RecM){i j:Nat}(h:i<=j):szF (L.take i)<=szF (L.take j):=by
 have e:L.take j=L.take i++(L.take j).drop i:=by
  have h1:=List.take_append_drop i (L.take j)
  rw[List.take_take,Nat.min_eq_left h] at h1
  exact h1.symm
 rw[e,szF,szF,List.map_append,List.sum_append]
 omega
theorem Ag(L:List RecM)(j:Nat):(cJ L j).Pairwise (·<=·):=by
 rw[cJ,List.pairwise_map]
 refine List.Pairwise.imp ?_ (List.pairwise_lt_range (n:=j))
 intro a b h
 have h1:=Gd L (i:=a+1) (j:=b+1) (by omega)
 omega
theorem xP(EA:Option Addr)(ec:Nat)(L:List RecM)(x:Int)(w:World)(hA:jH w EA ((cJ L L.length).map (Value.int .i64)))(hL:L.length<4611686018427387904):
  Calls Tryz.prog 67 #[.slice EA L.length ec,.int .i64 x] w (fun e w'=>∃b,Ret (.tuple #[.int .i64 (((cJ L L.length).countP (·<x):Nat):Int),.bool b]) w e w'):=by
 rcases Nat.eq_zero_or_pos L.length with h0|h0
 obtain rfl:L=[]:=List.eq_nil_of_length_eq_zero h0
 refine(Tryz.slices_BinarySearch_int_empty EA ec x w).mono ?_
 rintro e w' ⟨rfl,rfl⟩
 exact⟨false,Ret.of rfl (Ext.refl _)⟩
 rcases hA with ⟨_,h1⟩|⟨g,rfl,hA⟩
 have:=congrArg List.length h1
 rw[List.length_map,ml] at this
 have h2:L.length=0:=this
 omega
 refine(Tryz.slices_BinarySearch_int g 0 L.length ec (cJ L L.length) x w (by rw[ml];exact Nat.le_refl _) hL (fun j hj=>?_) ?_).mono ?_
 obtain⟨ad,e1,_,e3⟩:=hA j (.int .i64 ((cJ L L.length).getD j 0)) (by rw[List.getElem?_map,List.getD_eq_getElem?_getD,List.getElem?_eq_getElem hj];rfl)
 cases e1
 rw[Addr.add_lit] at e3
 exact e3
 rw[List.take_of_length_le (by rw[ml];exact Nat.le_refl _)];exact Ag _ _
 rintro e w' ⟨rfl,q,rfl⟩
 rw[List.take_of_length_le (by rw[ml];exact Nat.le_refl _)]
 exact⟨_,Ret.of rfl ((Ext.refl w).drewN _)⟩
def tB1:Value->Bool
 | .tuple a=>(match (a.getD 1 undef) with| .bool b=>b|_=>false)
 |_=>false
theorem Gl{S:StM}{W:World}{EA:Option Addr}(h:jH W EA ((cJ S.L S.recs.length).map (Value.int .i64))):jH W EA ((cJ S.L S.L.length).map (Value.int .i64)):=by
 rw[StM.L,List.length_map];exact h
theorem K4{S:StM}{w:World}{EA:Option Addr}{ec:Nat}{x:Int}{Q:Ending->World->Prop}(h:Calls Tryz.prog 67 #[.slice EA S.L.length ec,.int .i64 x] w Q):Calls Tryz.prog 67 #[.slice EA S.recs.length ec,.int .i64 x] w Q:=by
 rw[StM.L,List.length_map] at h;exact h
theorem Jx(sb db:Nat)(S:StM)(mb:Nat)(RA:Option Addr)(rc:Nat)(EA:Option Addr)(ec ib tb:Nat)(w:World)(hB:StO w sb db S mb RA rc EA ec ib tb):
  Calls Tryz.prog 23 #[po sb 0] w (Ret (.int .i64 (S.recs.length:Int)) w):=by
 go_enter Tryz.func23,Tryz.ntmps23
 have ak:=St.start w
 refine wq (sqr (sqp [.k 2 (vi 0)] ?_))
 refine aa (wq (wq (sqr (sqp [.m 3 0] ?_))))
 refine sqv (.bool false) ak (by
   exact sv0 rfl rfl rfl rfl rfl (fun _ _ _ h=>h) fun a b W X cx=>by
    have fN:a (.tmp 3)=vp sb:=(cx.ou 3)
    simp[go_sem,cx.sees.const,fN]) fun W3 aV=>?_
 refine aa (wcf rfl (wp_skip (aa (wq (sqr (sqp [.m 5 0,.k 6 (vp sb),.k 7 (po sb 4)] ?_))))))
 refine sql (.slice RA S.recs.length rc) aV (fun cx=>ae rfl (by kernel_rfl) (cx.ou 7) ((Blk.ext hB.blkL cx.upd.to_ext).cell 4)) ?_
 refine sqp [.k 9 (vi ((S.recs.length:Int))),.m 2 9] ?_
 refine aa (wp_ret ?_)
 refine bpr (vi ((S.recs.length:Int))) (ag Tryz.results23 rpt) ?_
 exact Ret.of rfl aV.ext
theorem JQ(sb db:Nat)(S:StM)(mb:Nat)(RA:Option Addr)(rc:Nat)(EA:Option Addr)(ec ib tb:Nat)(w:World)(hB:StO w sb db S mb RA rc EA ec ib tb):
  Calls Tryz.prog 45 #[po sb 0] w (Ret (.int .i64 S.frm) w):=by
 go_enter Tryz.func45,Tryz.ntmps45
 have ak:=St.start w
 refine wq (sqr (sqp [.k 2 (vi 0)] ?_))
 refine aa (wq (wq (sqr (sqp [.m 3 0] ?_))))
 refine sqv (.bool false) ak (by
   exact sv0 rfl rfl rfl rfl rfl (fun _ _ _ h=>h) fun a b W X cx=>by
    have fN:a (.tmp 3)=vp sb:=(cx.ou 3)
    simp[go_sem,cx.sees.const,fN]) fun W3 aV=>?_
 refine aa (wcf rfl (wp_skip (aa (wq (sqr (sqp [.m 5 0,.k 6 (vp sb),.k 7 (po sb 8)] ?_))))))
 refine sql (vi S.frm) aV (fun cx=>ae rfl (by kernel_rfl) (cx.ou 7) ((Blk.ext hB.blkL cx.upd.to_ext).cell 8)) ?_
 refine sqp [.m 2 8] ?_
 refine aa (wp_ret ?_)
 refine bpr (vi S.frm) (ag Tryz.results45 rpt) ?_
 exact Ret.of rfl aV.ext
theorem GS(sb db:Nat)(S:StM)(mb:Nat)(RA:Option Addr)(rc:Nat)(EA:Option Addr)(ec ib tb:Nat)(w:World)(hB:StO w sb db S mb RA rc EA ec ib tb):
  Calls Tryz.prog 24 #[po sb 0] w (Ret (.int .i64 (S.D.pgs.length:Int)) w):=by
 go_enter Tryz.func24,Tryz.ntmps24
 have ak:=St.start w
 refine wq (sqr (sqp [.k 2 (vi 0)] ?_))
 refine aa (wq (wq (sqr (sqp [.m 3 0] ?_))))
 refine sqv (.bool false) ak (by
   exact sv0 rfl rfl rfl rfl rfl (fun _ _ _ h=>h) fun a b W X cx=>by
    have fN:a (.tmp 3)=vp sb:=(cx.ou 3)
    simp[go_sem,cx.sees.const,fN]) fun W3 aV=>?_
 refine aa (wcf rfl (wp_skip (aa (wq (sqr (sqp [.m 5 0,.k 6 (vp sb),.k 7 (vp sb)] ?_))))))
 refine sql (vp db) aV (fun cx=>ae rfl (by kernel_rfl) (cx.ou 7) ((Blk.ext hB.blkL cx.upd.to_ext).cell 0)) ?_
 refine sqk (vi ((S.D.pgs.length:Int))) aV (fun cx=>⟨_,BL db S.D _ (hB.dk.ext cx.upd.to_ext),(aw (cx.ou 8))⟩) fun W8 dy=>?_
 refine sqp [.m 2 9] ?_
 refine aa (wp_ret ?_)
 refine bpr (vi ((S.D.pgs.length:Int))) (ag Tryz.results24 rpt) ?_
 exact Ret.of rfl dy.ext
theorem BP(sb db:Nat)(S:StM)(mb:Nat)(RA:Option Addr)(rc:Nat)(EA:Option Addr)(ec ib tb:Nat)(w:World)(hB:StO w sb db S mb RA rc EA ec ib tb)(hL0:S.L.length<4611686018427387904)(hfl:S.D.fl<=10000000):
  Calls Tryz.prog 26 #[po sb 0] w (Ret (.int .i64 (S.F:Int)) w):=by
 go_enter Tryz.func26,Tryz.ntmps26
 have ak:=St.start w
 refine wq (sqr (sqp [.k 2 (vi 0)] ?_))
 refine aa (wq (wq (sqr (sqp [.m 5 0] ?_))))
 refine sqv (.bool false) ak (by
   exact sv0 rfl rfl rfl rfl rfl (fun _ _ _ h=>h) fun f b W X cx=>by
    have qH:f (.tmp 5)=vp sb:=(cx.ou 5)
    simp[go_sem,cx.sees.const,qH]) fun W3 aV=>?_
 refine aa (wcf rfl (wp_skip (aa (wq (aD [0,1,3,7,0,16,48,112,240,496,1023,2047,4095,4095,8191,32767] [] [] [] [.k 8 (vp sb),.k 9 (vp sb),.k 10 (po sb 5),.c 11 (.slice EA S.recs.length ec),.k 12 (vp sb),.k 13 (vp sb),.k 14 (vp sb),.c 15 (vp db),.c 16 (vi ((S.D.fl:Int))),tI 17 ((S.D.fl:Int)+1) (by omega),.a 18,.a 7,.c 19 (vi ((S.F:Int))),.a 20,.k 3 (vi ((S.F:Int))),.a 4] (fun ix d b X=>match ix with|0|1|2|3|4|5|6|7|8|9=>True|10=>d 18= .tuple #[vi ((S.F:Int)),.bool (tB1 (b 18))]|11=>d 7= .tuple #[vi ((S.F:Int)),.bool (tB1 (b 18))]|12=>True|13=>d 20= .bool (tB1 (b 18))|14=>True|15=>d 4= .bool (tB1 (b 18))|_=>True) [] [3,7,8,10,11,12,13,15] [(3,14,2,5),(2,11,1,3),(0,0,11,11),(0,12,2,2)] aV ?_ ?_ ?_)))))
 exact fun ix _ _ _ _ _ _ hs hb hx h=>match ix,h with
 |10,h=>by dsimp only;rw[<-hs 18 rfl,<-hb 18 rfl];exact h
 |11,h=>by dsimp only;rw[<-hs 7 rfl,<-hb 18 rfl];exact h
 |13,h=>by dsimp only;rw[<-hs 20 rfl,<-hb 18 rfl];exact h
 |15,h=>by dsimp only;rw[<-hs 4 rfl,<-hb 18 rfl];exact h
 |0,_|1,_|2,_|3,_|4,_|5,_|6,_|7,_|8,_|9,_|12,_|14,_|_+16,_=>trivial
 refine⟨?_,?_,?_,?_,?_,?_,?_,?_,trivial⟩
 exact xs4 rfl id fun cx=>ae rfl (by kernel_rfl) (cx.an 2) ((Blk.ext hB.blkL cx.upd.to_ext).cell 5)
 exact xs4 rfl id fun cx=>ae rfl (by kernel_rfl) (cx.an 6) ((Blk.ext hB.blkL cx.upd.to_ext).cell 0)
 exact xsc rfl id rfl rfl fun cx=>⟨_,xU db S.D _ (hB.dk.ext cx.upd.to_ext),(aw (cx.an 7))⟩
 refine svA fun f b W X cx=>?_
 refine am.call (al (args:=#[.slice EA S.recs.length ec,vi ((S.D.fl:Int)+1)]) rfl cx.sees rfl (by kernel_rfl) (aN (cx.an 3) (cx.an 9))) ?_
 refine(K4 (xP EA ec S.L ((S.D.fl:Int)+1) _ (Gl (hB.ends.ext cx.upd.to_ext)) hL0)).mono ?_
 rintro e W1 ⟨b4,rfl,hx⟩
 refine⟨_,rfl,bO [] rfl rfl hx (by simp) List.Pairwise.nil (fun d g X' hs hb hv hN=>?_)⟩
 have aJ:=(hv 18 rfl).1;have aQ:=(hv 18 rfl).2
 exact aJ.trans (by rw[aQ];exact rfl)
 exact sv rfl rfl rfl rfl rfl _ (fun _ _ _ h=>h) (fun b g h=>by rw[h 18 (by decide)]) fun f b W X cx=>cK rfl (dTn (cx.an 10))
 exact xs4 rfl id fun cx=>bJ rfl (dTn (cx.an 11)) rfl
 exact sv rfl rfl rfl rfl rfl _ (fun _ _ _ h=>h) (fun b g h=>by rw[h 18 (by decide)]) fun f b W X cx=>bJ rfl (dTn (cx.an 11)) rfl
 exact sv rfl rfl rfl rfl rfl _ (fun _ _ _ h=>h) (fun b g h=>by rw[h 18 (by decide)]) fun f b W X cx=>di rfl (dTn (cx.an 13))
 intro d b X W4 hD bb fr aC
 simp only[ed 18 ((dTn (hD 10 lq))),ed 7 ((dTn (hD 11 lq))),ed 20 ((dTn (hD 13 lq))),ed 4 ((dTn (hD 15 lq)))] at aC
 generalize tB1 (b 18)=Rx at aC
 clear hD;subst aC;clear d b X
 refine aa (wq (sqr (sqp [.m 21 3,.m 2 21] ?_)))
 refine aa (wp_ret ?_)
 refine bpr (vi ((S.F:Int))) (ag Tryz.results26 rpt) ?_
 exact Ret.of rfl bb.ext
theorem D3(sb db:Nat)(S:StM)(w:World)(h:km w sb db S):Calls Tryz.prog 23 #[po sb 0] w (Ret (.int .i64 (S.recs.length:Int)) w):=by
 obtain⟨mb,RA,rc,EA,ec,ib,tb,h1⟩:=h
 exact Jx sb db S mb RA rc EA ec ib tb w h1
theorem Dm(sb db:Nat)(S:StM)(w:World)(h:km w sb db S):Calls Tryz.prog 45 #[po sb 0] w (Ret (.int .i64 S.frm) w):=by
 obtain⟨mb,RA,rc,EA,ec,ib,tb,h1⟩:=h
 exact JQ sb db S mb RA rc EA ec ib tb w h1
theorem oP(sb db:Nat)(S:StM)(w:World)(h:km w sb db S):Calls Tryz.prog 24 #[po sb 0] w (Ret (.int .i64 (S.D.pgs.length:Int)) w):=by
 obtain⟨mb,RA,rc,EA,ec,ib,tb,h1⟩:=h
 exact GS sb db S mb RA rc EA ec ib tb w h1
theorem yj(sb db:Nat)(S:StM)(w:World)(h:km w sb db S)(hL0:S.L.length<4611686018427387904)(hfl:S.D.fl<=10000000):Calls Tryz.prog 26 #[po sb 0] w (Ret (.int .i64 (S.F:Int)) w):=by
 obtain⟨mb,RA,rc,EA,ec,ib,tb,h1⟩:=h
 exact BP sb db S mb RA rc EA ec ib tb w h1 hL0 hfl
theorem Ky(sb db:Nat)(S:StM)(mb:Nat)(RA:Option Addr)(rc:Nat)(EA:Option Addr)(ec ib tb:Nat)(k:Nat)(rt:RcT)(w:World)(hB:StO w sb db S mb RA rc EA ec ib tb)(hk:S.frm=(k:Int)+1)(hrt:S.recs[k]? =some rt)(hL0:S.recs.length<4611686018427387904):
  Calls Tryz.prog 25 #[po sb 0] w (Ret (.string rt.r.note) w):=by
 have hbk:Blk w sb 109 #[po db 0,.int .i64 S.bufs,.map (some mb),.int .i64 S.time,.slice RA S.recs.length rc,.slice EA S.recs.length ec,.map (some ib),.map (some tb),.int .i64 ((k:Int)+1)]:=by rw[<-hk];exact hB.blkL
 have hkl:=(List.getElem?_eq_some_iff.1 hrt).1
 go_enter Tryz.func25,Tryz.ntmps25
 have ak:=St.start w
 refine wq (sqr (sqp [.k 2 (.string ⟨#[]⟩)] ?_))
 refine aa (wq (wq (sqr (sqp [.m 3 0] ?_))))
 refine sqv (.bool false) ak (by
   exact sv0 rfl rfl rfl rfl rfl (fun _ _ _ h=>h) fun a b W X cx=>by
    have fN:a (.tmp 3)=vp sb:=(cx.ou 3)
    simp[go_sem,cx.sees.const,fN]) fun W3 aV=>?_
 refine aa (wcf rfl (wp_skip (aa (wq (bR [0,1,3,7,0,16,48,112,240,511,1023,2047,4095] [] [.k 5 (vp sb),.k 6 (vp sb),.k 7 (po sb 4),.c 8 (.slice RA S.recs.length rc),.k 9 (vp sb),.k 10 (vp sb),.k 11 (po sb 8),.c 12 (vi ((k:Int)+1)),tJ 13 (((k:Int)+1)-1) (k:Int) (by omega) (by omega),.c 14 (.pointer (some ((ad RA).add (k*8)))),.c 15 (.pointer (some ((ad RA).add (k*8+7)))),.c 16 (.string rt.r.note),.k 2 (.string rt.r.note)] [] [3,7,9,10,11] [(2,12,1,3),(2,0,12,14)] aV ?_ fun W4 bb=>?_)))))
 refine⟨?_,?_,?_,?_,?_,trivial⟩
 exact xs4 rfl id fun cx=>ae rfl (by kernel_rfl) (cx.an 2) ((Blk.ext hbk cx.upd.to_ext).cell 4)
 exact xs4 rfl id fun cx=>ae rfl (by kernel_rfl) (cx.an 6) ((Blk.ext hbk cx.upd.to_ext).cell 8)
 exact xs4 rfl id fun cx=>aG (e:=27) (m:=k) (sz:=8) rfl (by kernel_rfl) (by kernel_rfl) (cx.an 3) (cx.an 8) (by omega) (by omega) (hB.recs.ext cx.upd.to_ext) (bp (sz:=8) cF (by decide) (by omega))
 exact xs4 rfl id fun cx=>bq rfl (by kernel_rfl) (cx.an 9)
 exact xs4 rfl id fun cx=>ae rfl (by kernel_rfl) (cx.an 10) (At.eltc (f:=rcC) (k:=7) cF (hB.recs.ext cx.upd.to_ext) hrt rfl)
 refine aa (wp_ret ?_)
 refine bpr (.string rt.r.note) (ag Tryz.results25 rpt) ?_
 exact Ret.of rfl bb.ext
theorem Dl(sb db:Nat)(S:StM)(k:Nat)(rt:RcT)(w:World)(h:km w sb db S)(hk:S.frm=(k:Int)+1)(hrt:S.recs[k]? =some rt)(hL0:S.recs.length<4611686018427387904):Calls Tryz.prog 25 #[po sb 0] w (Ret (.string rt.r.note) w):=by
 obtain⟨mb,RA,rc,EA,ec,ib,tb,h1⟩:=h
 exact Ky sb db S mb RA rc EA ec ib tb k rt w h1 hk hrt hL0
end
end Go.Proofs.YtcdjaepgahbhfaaGreat
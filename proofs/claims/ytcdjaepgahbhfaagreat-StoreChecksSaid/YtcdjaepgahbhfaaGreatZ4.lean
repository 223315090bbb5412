import Derived.Test.YtcdjaepgahbhfaaGreatZ3
import Derived.RangeFuncBox
import Derived.RangeFuncBound
import Derived.RangeFuncCalls
import Derived.RangeFuncLeaves
import Derived.TacticsIn
import Derived.OrdersIn
import Derived.LoopNIn
set_option linter.unusedVariables false
set_option linter.unusedSimpArgs false
set_option maxRecDepth 100000
set_option maxHeartbeats 16000000
open Go.Proofs.Tryz
open Go.Proofs.Tryz renaming prog->P_
namespace Go.Proofs.YtcdjaepgahbhfaaGreat
variable{B P0 Ps2:List ShT}{EA PA RA:Option Addr}{K:Act->World->Prop}{P:Program}{Pc b cnt d db ec i ib id k l mb q q' r rc sb tb:Nat}{Q:Exit->Act->World->Prop}{W W' w w' w0:World}{a:Act}{args t0:Array Value}{bor fp pre:List Nat}{cur:Option (Int×Option Nat)}{d0:List Deferred}{dr:Bool}{e:Ent}{er lsn:Int}{f:FuncId}{h:H5}{left:Int->Bool}{m:Int->Option (Option Nat)}{o:Oper}{ops:Array Oper}{s:ByteArray}{ss:List ByteArray}{t:ShT}{v:Value}{x:Operand}{xs:List Value}
section
open Go.RowKit
theorem Bk{a a':Array Value}{Q:Ending->World->Prop}(h:a'=a)(hc:Calls P_ f a w Q):Calls P_ f a' w Q:=h ▸ hc
section
variable{P:Program}{ops:Array Oper}{L:List Nat}{a0:Act}{w0:World}{bor:List Nat}{X0:List Ent}{us cr kl:List (List Nat)}
 {D:Nat->(Tmp->Value)->(Tmp->Value)->(Nat->Ent)->Prop}{i:Nat}{o:Oper}{ρ:Operand->Value}{β:Tmp->Value}{W:World}{X:Nat->Ent}
theorem CtxV.ownF{E:Ent}(cx:CtxV ops L a0 w0 bor X0 us D i ρ β W X)(hX:X q=E)(hu:(atV us i).contains q=true):∀k∈E.fp,k∈bor\/w0.heap.size<=k:=fun k hk=>by
 subst hX;exact((cx.ok q hu).own k hk).1
theorem xe{t e u t':TypeId}{y:Operand}{g off n c:Nat}{xs':List Value}(h:o.op= .call {callee:= .builtin .copy,args:=#[x,y],argTypes:=#[t,u]})(ht:P.underlying t=some (.slice e))(hz:szP P e=some 1)
  (hx:ρ x= .slice (some ⟨g,off,none⟩) n c) (hy:ρ y= .string s)
  (cx:CtxV ops L a0 w0 bor X0 us D i ρ β W X) (hX:X q=eB g t' xs.toArray) (hu:(atV us i).contains q=true) (hn:off+s.size<=xs.length) (hs:s.size<=n) (hM:xs.take off++((ba s).map (Value.int .u8)++xs.drop (off+s.size))=xs')
  (hc:atV cr i=[q']) (hk:atV kl i=[q]) (hD:∀(j p:Tmp->Value) (X':Nat->Ent),(∀t,o.dst≠some t->j t=ρ (.tmp t))->(∀t,o.dst≠some t->p t=β t)->(∀d,o.dst=some d->j d= .int .i64 s.size)->X' q'=eB g t' xs'.toArray->D i j p X'):ak P o ρ W (bQ cr kl D i o.dst ρ β W X):=by
 have hok:=cx.ok q hu
 rw[hX] at hok
 have hb:Blk W g t' xs.toArray:=hok.holds
 have hnl:((ba s).map (Value.int .u8)).length=s.size:=by rw[List.length_map,gV]
 obtain⟨W',hr,hup,hb'⟩:=ol (P:=P) ((ba s).map (Value.int .u8)) off 0 _ W hb (by rw[List.size_toArray,hnl];omega) (fun v hv=>by obtain⟨z,_,rfl⟩:=List.mem_map.1 hv;rfl)
 have hputs:jP xs.toArray (off+0) ((ba s).map (Value.int .u8))=xs'.toArray:=by
  rw[<-hM]
  have hp:∀(ys pre mid suf:List Value),ys.length=mid.length->jP (pre++(mid++suf)).toArray pre.length ys=(pre++(ys++suf)).toArray:=by
   intro ys
   induction ys with
   |nil=>intro pre mid suf hl;rw[List.eq_nil_of_length_eq_zero (l:=mid) hl.symm];rfl
   |cons y ys ih=>
    intro pre mid suf hl
    cases mid with
    |nil=>simp at hl
    |cons z mid=>
     rw[jP]
     have e:(pre++(z::mid++suf)).toArray.setIfInBounds pre.length y=((pre++[y])++(mid++suf)).toArray:=by simp
     rw[e,show pre.length+1=(pre++[y]).length by simp,ih (pre++[y]) mid suf (by simpa using hl)]
     simp
  have e1:xs=xs.take off++((xs.drop off).take s.size++xs.drop (off+s.size)):=by
   rw[<-List.drop_drop,List.take_append_drop,List.take_append_drop]
  have e2:(xs.take off).length=off:=by rw[List.length_take];omega
  have h2:=hp ((ba s).map (Value.int .u8)) (xs.take off) ((xs.drop off).take s.size) (xs.drop (off+s.size)) (by rw[hnl,List.length_take,List.length_drop];omega)
  rw[<-e1,e2] at h2
  exact h2
 rw[hputs] at hb'
 have hmin:Nat.min s.size n=s.size:=Nat.min_eq_left hs
 have hrun:(execOp ρ o).run P W= .ok (.value (.int .i64 s.size)) W':=by
  unfold execOp;rw[h]
  cases hq:P.info? e with
  |none=>simp[szP,hq] at hz
  |some inf=>
   have htk:List.take s.size (List.map (fun b:UInt8=>Value.int IntKind.u8 (b.toNat:Int)) s.data.toList)=(ba s).map (Value.int .u8):=by
    rw[List.take_of_length_le (by rw[List.length_map,Array.length_toList];exact Nat.le_refl _),ba,List.map_map]
    rfl
   simp[hx,hy,resolve,invoke,builtin,Builtin.copy_,run_underlying ht,Builtin.lenOf,Builtin.firstCells,sizeOf,typeInfo,hq,hmin]
   rw[htk,hr]
   simp[Result.andThen,goInt]
 refine ak.value hrun ⟨[eB g t' xs'.toArray],by rw[hc];rfl,⟨?_,fun e' he=>?_,List.pairwise_singleton _ _⟩,fun j p X' hs' hv hb' hbv hx' hN=>hD j p X' hs' hb' (fun d hd=>hv d hd) ?_⟩
 rw[hk]
 simp only[List.flatMap_cons,List.flatMap_nil,List.append_nil,hX]
 exact hup
 rw[List.mem_singleton] at he
 subst he
 refine⟨hb',dW _ _ _,fun k hk'=>?_⟩
 have hkb:k=g:=by simpa[eB] using hk'
 subst hkb
 exact⟨.inl (by rw[hk];simp[hX,eB]),hb'.lt⟩
 rw[hc] at hN
 exact(List.cons.inj hN).1
end
def tr(s:ByteArray):List Value:=(ba (s.extract 0 256)++List.replicate 256 0).map (Value.int .u8)
theorem ul:(h.1.extract 0 256).size=256:=by rw[ByteArray.size_extract,h.2];rfl
theorem CA:(h.1.extract 256 h.1.size).size=256:=by rw[ByteArray.size_extract,h.2];rfl
theorem yW(h:H5):(tr h.1).length=512:=by rw[tr,List.length_map,List.length_append,gV,ul,List.length_replicate]
theorem KC(h:H5):(((List.replicate 512 (0:Int)).map (Value.int .u8)).take 0++((ba (h.1.extract 0 256)).map (Value.int .u8)++((List.replicate 512 (0:Int)).map (Value.int .u8)).drop (0+(h.1.extract 0 256).size)))=tr h.1:=by
 rw[ul,List.take_zero,List.nil_append,<-List.map_drop,List.drop_replicate,<-List.map_append];rfl
theorem K4(h:H5):((tr h.1).take 256++((ba (h.1.extract 256 h.1.size)).map (Value.int .u8)++(tr h.1).drop (256+(h.1.extract 256 h.1.size).size)))=hvC h:=by
 have hl:(ba (h.1.extract 0 256)).length=256:=by rw[gV,ul]
 rw[CA,List.drop_of_length_le (by rw[yW];exact Nat.le_refl _),List.append_nil,tr,<-List.map_take,List.take_left' hl,<-List.map_append,<-zq,hvC]
 have e:h.1.extract 0 256++h.1.extract 256 h.1.size=h.1:=by
  apply go
  rw[cN,eh,eh,h.2,List.drop_zero,Nat.sub_zero,List.take_of_length_le (l:=(bl h.1).drop 256) (by rw[List.length_drop,bO,h.2];decide),List.take_append_drop]
 rw[e]
theorem Fa(h:H5)(w:World):
  Calls P_ 191 #[.string h.1] w (Ret (.agg (hvC h).toArray) w):=by
 go_enter func191,ntmps191
 have aj:=St.start w
 refine wq (sqr ?_)
 refine d9 (fun x_=>pb x_) (fun bw=>vp bw) (fun bw=>eB bw 142 ((List.replicate 512 (0:Int)).map (Value.int .u8)).toArray) aj (by
   refine svA fun p g W X cx=>?_
   exact dVA (cs:=((List.replicate 512 (0:Int)).map (Value.int .u8)).toArray) rfl rfl rfl (fun _ _ _ _ _=> .intro)) fun bw W1 ax=>?_
 refine aa (wq (sqr ?_))
 refine d9 (fun x_=>pb x_) (fun cY=>vp cY) (fun cY=>eB cY 142 ((List.replicate 512 (0:Int)).map (Value.int .u8)).toArray) ax (by
   refine svA fun p g W X cx=>?_
   exact dVA (cs:=((List.replicate 512 (0:Int)).map (Value.int .u8)).toArray) rfl rfl rfl (fun _ _ _ _ _=> .intro)) fun cY W2 bA=>?_
 refine aa (wsq [.k 4 (vi 256)] ?_)
 refine aa (wq ?_)
 have hz5:=h.2
 refine aB [0,1,0,0,12,31] [[],[],[],[],[],[1]] [[],[],[],[],[],[2]] [[],[],[],[],[],[1]] [.c 5 (vp cY),.c 6 (.slice ((some ⟨cY,0,none⟩)) 256 256),.k 7 (.string h.1),.k 8 (vi 256),.c 9 (.string (h.1.extract 0 256)),.a 10] (fun ix j g X=>match ix with|0|1|2|3|4=>True|5=>j 10=vi (((h.1.extract 0 256).size:Int))/\X 2=eB cY 142 (tr h.1).toArray|_=>True) [0,2] [0,1,4,5] [(5,0,6,11)] bA ?_ ?_ ?_
 exact fun ix _ _ _ _ _ _ hs hb hx h=>match ix,h with
 |5,h=>by dsimp only;rw[<-hs 10 rfl,<-hx 2 rfl];exact h
 |0,_|1,_|2,_|3,_|4,_|_+6,_=>trivial
 refine⟨?_,?_,?_,?_,trivial⟩
 exact xs4 rfl id fun cx=>eE (n:=2) (sz:=256) (m:=0) (q:=0) rfl (by kernel_rfl) (cx.ou 3) (cx.co _) (by omega) (by omega) (by omega)
 exact xs4 rfl id fun cx=>jM (n:=256) (e:=5) rfl (by kernel_rfl) (by kernel_rfl) (cx.an 0)
 exact xs4 rfl id fun cx=>gJ (l:=256) rfl (by kernel_rfl) (cx.an 2) (cx.an 3) (by omega) (by omega)
 refine svA fun p g W X cx=>?_
 exact xe (e:=5) (off:=0) rfl (by kernel_rfl) (by kernel_rfl) (cx.an 1) (cx.an 4) cx (cx.init 1 _ rfl) rfl (by rw[ul];simp) (by rw[ul];decide) (KC h) rfl rfl (fun j u X' hs hb hv hx=>⟨hv 10 rfl,hx⟩)
 intro j g X W4 hD aZ fr aC
 simp only[exq 2 ((dTn (hD 5 lq)).2)] at aZ
 simp only[ed 10 ((dTn (hD 5 lq)).1)] at aC
 clear hD;subst aC;clear j g X
 refine aa (wq (aB [0,1,0,0,12,31] [[],[],[],[],[],[1]] [[],[],[],[],[],[2]] [[],[],[],[],[],[1]] [.c 11 (po cY 256),.c 12 (.slice ((some ⟨cY,256,none⟩)) 256 256),.k 13 (.string h.1),.k 14 (vi 256),.c 15 (.string (h.1.extract 256 h.1.size)),.a 16] (fun ix j g X=>match ix with|0|1|2|3|4=>True|5=>j 16=vi (((h.1.extract 256 h.1.size).size:Int))/\X 2=eB cY 142 (hvC h).toArray|_=>True) [0,2] [0,1,4,5] [(11,0,6,17)] aZ ?_ ?_ ?_))
 exact fun ix _ _ _ _ _ _ hs hb hx h=>match ix,h with
 |5,h=>by dsimp only;rw[<-hs 16 rfl,<-hx 2 rfl];exact h
 |0,_|1,_|2,_|3,_|4,_|_+6,_=>trivial
 refine⟨?_,?_,?_,?_,trivial⟩
 exact xs4 rfl id fun cx=>eE (n:=2) (sz:=256) (m:=1) (q:=256) rfl (by kernel_rfl) (cx.ou 3) (cx.co _) (by omega) (by omega) (by omega)
 exact xs4 rfl id fun cx=>jM (n:=256) (e:=5) rfl (by kernel_rfl) (by kernel_rfl) (cx.an 0)
 exact xs4 rfl id fun cx=>gM (l:=256) rfl (by kernel_rfl) (cx.an 2) (cx.an 3) (by omega) (by omega)
 refine svA fun p g W X cx=>?_
 exact xe (e:=5) (off:=256) rfl (by kernel_rfl) (by kernel_rfl) (cx.an 1) (cx.an 4) cx (cx.init 1 _ rfl) rfl (by rw[CA];rw[yW];decide) (by rw[CA];decide) (K4 h) rfl rfl (fun j u X' hs hb hv hx=>⟨hv 16 rfl,hx⟩)
 intro j g X W5 hD aK fr aC
 simp only[exq 2 ((dTn (hD 5 lq)).2)] at aK
 simp only[ed 16 ((dTn (hD 5 lq)).1)] at aC
 clear hD;subst aC;clear j g X
 refine aa (wq (sqr ?_))
 refine sql (.agg (hvC h).toArray) aK (fun cx=>CJ (n:=512) rfl (by kernel_rfl) (by kernel_rfl) (cx.ou 3) (cx.bi 1 rfl) (by simp[cH])) ?_
 refine sqc (eB bw 142 (hvC h).toArray) 0 aK (by
   refine svA fun p g W X cx=>?_
   exact wZ (n:=512) rfl (cx.ou 2) (show _=Value.agg (hvC h).toArray from(cx.ou 17)) (by kernel_rfl) (by simp[cH]) (by simp[cH]) (rJ h) cx (cx.init 0 _ rfl) rfl rfl rfl rfl (fun _ _ _ _ _=>id)) fun W7 aW=>?_
 exact aa (wp_ret (bpr (.agg (hvC h).toArray) (bB (n:=512) results191 rfl (by kernel_rfl) (by kernel_rfl) (aW.blk 0 rfl) (by simp[cH])) (Ret.of rfl aW.ext)))
theorem Bi(b:Nat)(D:DkM)(er:Int)(D2:DkM->DkM)(f1 f2:FuncId)(cap1 cap2:Array Value)(fp:List Nat)(w:World)(hB:(eDk b D fp).holds w)(hlt:∀k∈fp,k<w.heap.size)(hcf1:gD P_ f1=true)(hcf2:gD P_ f2=true)(hf1:∀W,Upd fp w W->jb W b D->Calls P_ f1 cap1 W (Ret (.int .i64 er) W))(hf2:er=0->∀W fp1,Upd fp w W->(eDk b {D with left:=cX D.left} fp1).holds W->(∀k∈fp1,k<W.heap.size)->(∀k∈fp1,k∈fp\/w.heap.size<=k)->Calls P_ f2 cap2 W (mq b (D2 {D with left:=cX D.left}) fp1 W)):
  Calls P_ 126 #[po b 0,.func (.func f1) #[] cap1,.func (.func f2) #[] cap2] w (bT b (opD D er D2) fp w):=by
 have st1:St w fp [eDk b D fp] w:=St.lend hB (dm _ _ _) hlt
 go_enter func126,ntmps126
 have aj:=st1
 refine wsq [.k 6 (vi 0)] ?_
 refine aa (wq (wq ?_))
 obtain⟨onv,hon⟩:∃z,(!D.off)=z:=⟨_,rfl⟩
 refine sqs [.m 8 0] ?_
 refine sqk (.bool onv) aj (fun cx=>⟨_,rP hon (mj b D _ (eP (CtxV.holdF cx (cx.init 0 _ rfl) rfl))),(av (cx.ou 8))⟩) fun W3 aU=>?_
 refine sqp [.k 10 (.bool (!(onv)))] ?_
 refine aa ?_
 rcases Bool.eq_false_or_eq_true (onv) with ee|ee
 ·refine wp_cond_false (show Act.eval _ _= .bool false from(congrArg Value.bool (by rw[ee];rfl))) (wp_skip (aa (wq (wsq [.m 11 1] ?_))))
  refine sqv (vi er) aU (ip rfl rfl rfl rfl rfl (fun _ _ _ h=>h) fun c g W X cx=>⟨_,_,cD (f:=f1) (args:=#[]) (args':=#[]++cap1) rfl rfl (cx.ou 11) hcf1 jc (by rw[Array.empty_append]),Bk Array.empty_append (hf1 _ cx.upd (eP (CtxV.holdF cx (cx.init 0 _ rfl) rfl)))⟩) fun W7 aW=>?_
  refine sqp [.m 7 12] ?_
  refine aa (wsq [.m 13 7,.k 14 (.bool (er != 0))] ?_)
  refine aa (wbs (fun dq=>?_) fun dq=>?_)
  have g0:=bne_iff_ne.1 dq
  refine wsq [.m 15 7,.m 6 15] ?_
  refine aa (wp_ret (ai ?_))
  exact bpr (vi er) (ag results126 rpt) (bT.of (R':=(D,er)) (by rw[opD,if_neg (by have h_:=hon.trans ee;simpa using h_),if_pos (by simpa using dq)]) aW)
  have g0:=bne_eq_false_iff_eq.1 dq
  refine wp_skip (aa (wq (wq ?_)))
  have hD_:(eDk b D fp).holds W7:=(aW.ok _ (List.mem_singleton.2 rfl)).holds
  obtain⟨PA,Pc,GA,gc,Ps,Qs,hps,hsub,hfp,hap,hall⟩:=hD_
  have gw:St w fp [eB b 100 #[.slice PA D.pgs.length Pc,.slice GA D.log.size gc,vi ((D.fl:Int)),.bool D.off,.bool D.armed,vi D.left],eO 144 513 (.slice PA D.pgs.length Pc) D.pgs.length (Ps.flatMap shC),eO 5 1 (.slice GA D.log.size gc) D.log.size ((ba D.log).map (Value.int .u8)),eWs Qs] W7:=St.unpack aW hfp hall hap
  refine sqs [.m 16 0,.k 17 (vp b),.k 18 (po b 4)] ?_
  refine am 0 gw ?_
  refine sqp [.m 20 19] ?_
  refine d3 20 [21,22,23,24,25] ?_ rfl (fun hq=>?_) ?_
  rotate_left
  refine sqp [.m 21 0,.k 22 (vp b),.k 23 (po b 5)] ?_
  refine am 0 gw ?_
  refine sqp [.k 25 (.bool (decide (D.left<=0)))] ?_
  exact sqe
  refine c7 ?_
  refine sqp [sPa 26 D.armed (decide (D.left<=0))] ?_
  refine aa (wbs (fun fk=>?_) fun fk=>?_)
  have fi:=fk
  simp only[zB] at fi
  obtain⟨zR,zS⟩:=fi
  refine wsq [.m 27 0,.k 28 (vp b),.k 29 (po b 3)] ?_
  refine aT (n:=1) 0 #[.slice PA D.pgs.length Pc,.slice GA D.log.size gc,vi ((D.fl:Int)),.bool true,.bool D.armed,vi D.left] gw fun FM jr=>?_
  refine aa (wsq [.k 6 (vi 24)] ?_)
  refine aa (wp_ret (ai ?_))
  refine bpr (vi 24) (ag results126 rpt) ?_
  obtain⟨fp2,hk_⟩:=St.dk (L:=[]) (D:={D with off:=true}) (PA:=PA) (Pc:=Pc) (GA:=GA) (gc:=gc) (jr.pick [0,1,2,3] (by decide) rfl) hps hsub
  exact bT.of (R':=({D with off:=true},24)) (by rw[opD,if_neg (by have h_:=hon.trans ee;simpa using h_),if_neg (by simpa using dq),if_pos (by simpa using fk)]) hk_
  have fi:=fk
  simp only[zB] at fi
  refine wp_skip (aa (wsq [.m 30 0,.k 31 (vp b),.k 32 (po b 5)] ?_))
  refine am 0 gw ?_
  refine sqp [.k 34 (vi ((cX D.left))),.k 35 (vp b),.k 36 (po b 5)] ?_
  refine aT (n:=1) 0 #[.slice PA D.pgs.length Pc,.slice GA D.log.size gc,vi ((D.fl:Int)),.bool D.off,.bool D.armed,vi ((cX D.left))] gw fun qU du=>?_
  refine aa (wq ?_)
  obtain⟨D1,hD1⟩:∃z,({D with left:=cX D.left}:DkM)=z:=⟨_,rfl⟩
  obtain⟨fp2,hk_40⟩:=St.dk (L:=[]) (D:={D with left:=cX D.left}) (PA:=PA) (Pc:=Pc) (GA:=GA) (gc:=gc) (du.pick [0,1,2,3] (by decide) rfl) hps hsub
  simp only[List.nil_append] at hk_40
  rw[hD1] at hk_40 hf2
  have hf2:=hf2 (by simpa using dq)
  refine sqs [.m 37 2] ?_
  refine bF (fun X_=>X_.fp) (.tuple #[]) (fun nJ=>eDk b (D2 D1) nJ) 0 hk_40 (by
    refine svA fun c g W X cx=>?_
    refine ak.call (cD (f:=f2) (args:=#[]) (args':=#[]++cap2) rfl rfl (cx.ou 37) hcf2 jc (by rw[Array.empty_append])) ?_
    refine(Bk Array.empty_append (hf2 _ _ cx.upd (CtxV.holdF cx (cx.init 0 _ rfl) rfl) (CtxV.ltF cx (cx.init 0 _ rfl) rfl) (CtxV.ownF cx (cx.init 0 _ rfl) rfl))).mono ?_
    rintro e W1 ⟨rfl,fp4,aM⟩
    refine⟨_,rfl,aI (E:=eDk b D1 fp2) [eDk b (D2 D1) fp4] (cx.init 0 _ rfl) rfl rfl aM (fun p j X' hs hb hv hN=>?_)⟩
    have aH:=(hv 38 rfl).1;have aO:=(hv 38 rfl).2
    exact⟨aH.trans rfl,cF ((List.cons.inj hN).1)⟩) fun nJ uX fu=>?_
  refine aa (wsq [.k 6 (vi 0)] ?_)
  exact aa (wp_ret (bpr (vi 0) (ag results126 rpt) (bT.of (R':=(D2 D1,0)) (by rw[opD,if_neg (by have h_:=hon.trans ee;simpa using h_),if_neg (by simpa using dq),if_neg (by have h_:=fk;intro h2_;simp[h2_.1,h2_.2] at h_),hD1]) fu)))
 refine wp_cond_true (show Act.eval _ _= .bool true from(congrArg Value.bool (by rw[ee];rfl))) (wsq [.k 6 (vi 24)] ?_)
 refine aa (wp_ret (ai ?_))
 exact bpr (vi 24) (ag results126 rpt) (bT.of (R':=(D,24)) (by rw[opD,if_pos (by simpa using hon.trans ee)]) aU)
end
section
open Go.RowKit
theorem zj:∀(l pre suf:List Value),suf.length=l.length->(l.zipIdx pre.length).foldl (fun(cs:Array Value) (x:Value×Nat)=>cs.setIfInBounds (0+x.2) x.1) (pre++suf).toArray=(pre++l).toArray
 | [],pre,suf,h=>by rw[List.eq_nil_of_length_eq_zero (l:=suf) h];rfl
 |v::l,pre,[],h=>by simp at h
 |v::l,pre,z::suf,h=>by
  rw[List.zipIdx_cons,List.foldl_cons]
  dsimp only
  have e:(pre++z::suf).toArray.setIfInBounds (0+pre.length) v=((pre++[v])++suf).toArray:=by simp
  rw[e,show pre.length+1=(pre++[v]).length by simp,zj l (pre++[v]) suf (by simpa using h)]
  simp
theorem Ij{c:Operand->Value}{t e:TypeId}{n:Nat}(h:o.op= .buildSlice t 1 #[(0,x)])(ht:P.underlying t=some (.slice e))(hz:szP P e=some n)(h0:(lV P e).isSome=true)(hx:c x= .agg xs.toArray)(hn:xs.length=n)(hn2:n<=16777216)(hn0:0<n):(execOp c o).run P W= .ok (.value (.slice (some ⟨W.heap.size,0,none⟩) (1:Nat) (1:Nat))) (W.alloc (.cells xs.toArray e)):=by
 cases hq:P.info? e with
 |none=>simp[szP,hq] at hz
 |some inf=>
  cases hq2:inf.zero with
  |none=>simp[lV,hq,hq2] at h0
  |some z=>
   have hinf:inf.size=n:=by simpa[szP,hq] using hz
   have hfill:Instr.fill (fun i=>some (i*n,n)) ((Array.range (1*n)).map fun i=>z.cells[i % z.cells.size]!) [(0,Value.agg xs.toArray)]=some xs.toArray:=by
    have hc:(Value.agg xs.toArray).cells=xs.toArray:=rfl
    unfold Instr.fill
    dsimp only
    rw[hc]
    have hsz:xs.toArray.size=n:=hn
    rw[if_neg (by simp[hsz,hn])]
    unfold Instr.fill
    congr 1
    rw[Nat.zero_mul,<-Array.foldl_toList,Array.toList_zipIdx]
    have h5:=zj xs [] ((Array.range (1*n)).map fun i=>z.cells[i % z.cells.size]!).toList (by simp[hn])
    rw[List.nil_append,List.nil_append,Array.toArray_toList] at h5
    exact h5
   have h1:(zeroValue e).run P W= .ok z W:=by
    unfold zeroValue
    simp only[Sem.run_bind,run_typeInfo _ hq,Result.andThen_ok,hq2,Sem.run_pure]
   unfold execOp;rw[h]
   simp only[List.map_toArray,List.map_cons,List.map_nil,hx,Instr.buildSlice,Sem.run_bind,run_underlying ht,Result.andThen_ok,c8 hz,Nat.one_mul]
   rw[if_neg (by omega),if_neg (by omega)]
   rw[Nat.one_mul] at hfill
   simp only[Sem.run_bind,h1,Result.andThen_ok,Sem.run_pure,hfill,newRow,newObj]
   rfl
def jx(k:Nat)(h:H5)(D:DkM):DkM:={D with pgs:=D.pgs.set k ⟨(D.pgs.getD k fO).safe,(D.pgs.getD k fO).ws++[h]⟩}
def wrD(n:Int)(s:ByteArray)(D:DkM):DkM:=if h:s.size=512 then jx n.toNat ⟨s,h⟩ D else D
def wrE(D:DkM)(n:Int)(s:ByteArray):Int:=if 0<=n/\n<(D.pgs.length:Int) then (if s.size=512 then 0 else 1) else 22
theorem y6{α:Type}{l:List α}{x:α}(h:l[k]? =some x):∃A B,l=A++x::B/\A.length=k:=by
 obtain⟨hk,rfl⟩:=List.getElem?_eq_some_iff.1 h
 exact⟨l.take k,l.drop (k+1),by rw[<-List.drop_eq_getElem_cons hk,List.take_append_drop],by rw[List.length_take];omega⟩
theorem Ku{α:Type}(A B:List α)(x y:α):(A++x::B).set A.length y=A++y::B:=by simp
theorem Kr{α c:Type}(f:α->c)(A B:List α)(t:α)(y:c):(A.map f++f t::B.map f).set A.length y=A.map f++y::B.map f:=by
 have h:=Ku (A.map f) (B.map f) (f t) y
 rw[List.length_map] at h;exact h
theorem Ea(A B:List ShT)(t:ShT)(A':Option Addr)(c':Nat)(ws':List H5)(n':Nat)(hn:n'=ws'.length):((A++t::B).flatMap shC).set (A.length*513+512) (.slice A' n' c')=(A++⟨t.s,A',c',ws'⟩::B).flatMap shC:=by
 subst hn
 have hl:(A.flatMap shC).length=A.length*513:=kt c6 A
 rw[List.flatMap_append,List.flatMap_cons,List.flatMap_append,List.flatMap_cons,<-hl,List.set_append_right _ _ (by omega),Nat.add_sub_cancel_left,List.set_append_left _ _ (by rw[c6];decide)]
 have e:(shC t).set 512 (.slice A' ws'.length c')=shC ⟨t.s,A',c',ws'⟩:=by
  rw[shC,List.set_append_right _ _ (by rw[cH];decide),cH];rfl
 rw[e]
theorem St.outW{L:List Ent}{A:List ShT}(h:St w0 bor (L++[eWs (A++t::B)]) W):St w0 bor (L++[eWs (A++B),nT t]) W:=by
 rw[eWs,List.map_append] at h |-
 exact St.outA h
theorem St.inW{L:List Ent}{A:List ShT}(h:St w0 bor (L++[eWs (A++B),nT t]) W):St w0 bor (L++[eWs (A++t::B)]) W:=by
 rw[eWs,List.map_append] at h |-
 exact St.inA h
theorem MF(t:List H5)(h:H5):t.flatMap hvC++hvC h=(t++[h]).flatMap hvC:=by simp
theorem Tryz.infoHalvesJ:(Tryz.prog.info? 142).map (fun i=>(i.zero,i.size,i.bytes))=some (some (.agg ((List.replicate 512 (0:Int)).map (Value.int .u8)).toArray),512,512):=by kernel_rfl
theorem jb.ext{D:DkM}(h:jb w b D)(hx:Ext w w'):jb w' b D:=let ⟨PA,Pc,GA,gc,Ps,h1⟩:=h;⟨PA,Pc,GA,gc,Ps,h1.ext hx⟩
theorem H7(b b3 b4 b5:Nat)(D:DkM)(n:Int)(s:ByteArray)(w:World)(hB:jb w b D)(h3:Blk w b3 30 #[po b 0])(h4:Blk w b4 3 #[.int .i64 n])(h5:Blk w b5 9 #[.string s]):
  Calls P_ 189 #[po b3 0,po b4 0,po b5 0] w (Ret (.int .i64 (wrE D n s)) w):=by
 go_enter func189,ntmps189
 have aj:=St.start w
 refine wsq [.k 3 (vi 0)] ?_
 refine aa (wq (wp_block (wq (sqr ?_))))
 refine sql (vp b) aj (fun cx=>rL1 (cx.ou 0) ((Blk.ext h3 cx.upd.to_ext).cell 0)) ?_
 refine sql (vi n) aj (fun cx=>rL1 (cx.ou 1) ((Blk.ext h4 cx.upd.to_ext).cell 0)) ?_
 refine sqk (.bool ((decide (0<=n)&&decide (n<(D.pgs.length:Int))))) aj (fun cx=>⟨_,Kk b D n _ (hB.ext cx.upd.to_ext),(aN (cx.ou 5) (cx.ou 6))⟩) fun W4 aZ=>?_
 refine sqp [.k 8 (.bool (!((decide (0<=n)&&decide (n<(D.pgs.length:Int)))))),.m 4 8] ?_
 refine aa ?_
 rcases Bool.eq_false_or_eq_true ((decide (0<=n)&&decide (n<(D.pgs.length:Int)))) with ea|ea
 have jB:=ea
 simp only[zB] at jB
 obtain⟨OS,OT⟩:=jB
 refine wp_cond_false (show Act.eval _ _= .bool false from(congrArg Value.bool (by rw[ea];rfl))) (wq (sqr ?_))
 refine sql (.string s) aZ (fun cx=>rL1 (cx.ou 2) ((Blk.ext h5 cx.upd.to_ext).cell 0)) ?_
 refine sqp [.k 11 (vi ((s.size:Int))),.k 12 (.bool ((s.size:Int) != 512)),.m 9 12] ?_
 refine aa (wbs (fun jf=>?_) fun jf=>?_)
 have js:=bne_iff_ne.1 jf
 refine wsq [.k 3 (vi 1)] ?_
 refine aa (wp_ret (aY (ai ?_)))
 exact bpr (vi 1) (ag results189 rpt) (Ret.int (by rw[wrE,if_pos (by have h_:=ea;simp at h_;omega),if_neg (by have h_:=jf;simp at h_;omega)]) aZ.ext)
 have js:=bne_eq_false_iff_eq.1 jf
 refine wp_skip (aq (aa (wsq [.k 3 (vi 0)] ?_)))
 exact aa (wp_ret (bpr (vi 0) (ag results189 rpt) (Ret.int (by rw[wrE,if_pos (by have h_:=ea;simp at h_;omega),if_pos (by have h_:=jf;simp at h_;omega)]) aZ.ext)))
 have jB:=ea
 simp only[zB] at jB
 refine wp_cond_true (show Act.eval _ _= .bool true from(congrArg Value.bool (by rw[ea];rfl))) (wsq [.k 3 (vi 22)] ?_)
 refine aa (wp_ret (aY (ai ?_)))
 exact bpr (vi 22) (ag results189 rpt) (Ret.int (by rw[wrE,if_neg (by have h_:=ea;simp at h_;omega)]) aZ.ext)
theorem H8(b b3 b4 b5:Nat)(D:DkM)(k:Nat)(h:H5)(fp:List Nat)(w:World)(hB:(eDk b D fp).holds w)(hlt:∀k∈fp,k<w.heap.size)(h3:Blk w b3 30 #[po b 0])(h4:Blk w b4 3 #[.int .i64 (k:Int)])(h5:Blk w b5 9 #[.string h.1])(n3:b3∉fp)(n4:b4∉fp)(n5:b5∉fp)(hk:k<D.pgs.length)(hw:∀x∈D.pgs,x.ws.length<=1000000000):
  Calls P_ 190 #[po b3 0,po b4 0,po b5 0] w (mq b (jx k h D) fp w):=by
 have st1:=St.lend hB (dm _ _ _) hlt
 obtain⟨PA,Pc,GA,gc,Ps,Qs,hps,hsub,hfp,hap,hall⟩:=hB
 have st0:=St.unpack st1 hfp hall hap
 subst hsub
 have hPl:D.pgs.length=Qs.length:=by rw[<-hps,List.length_map]
 obtain⟨t,htk⟩:=xQ (Ps:=Qs) (k:=k) (by omega)
 have bV:=CT hps htk
 obtain⟨A,B,rfl,rfl⟩:=y6 htk
 have hwt:t.ws.length<=1000000000:=hw _ (by rw[<-hps];exact List.mem_map.2 ⟨t,by simp,rfl⟩)
 have st2:=St.outW (L:=[eB b 100 #[.slice PA D.pgs.length Pc,.slice GA D.log.size gc,.int .i64 ((D.fl:Int)),.bool D.off,.bool D.armed,.int .i64 D.left],eO 144 513 (.slice PA D.pgs.length Pc) D.pgs.length ((A++t::B).flatMap shC),eO 5 1 (.slice GA D.log.size gc) D.log.size ((ba D.log).map (Value.int .u8))]) st0
 simp only[List.cons_append,List.nil_append,nT] at st2
 go_enter func190,ntmps190
 have aj:=st2
 refine aB [0,1,3,7,0,0,32,96,224,0,992,2016,4064,0,8192,24576,65504,131071,262143,524287] [[],[],[],[0],[],[],[],[],[0],[],[1],[],[1],[],[],[],[5,4],[1],[],[1]] [[],[],[],[],[],[],[],[],[],[],[],[],[],[],[],[5],[6],[],[],[7]] [[],[],[],[],[],[],[],[],[],[],[],[],[],[],[],[],[4],[],[],[1]] [.c 3 (vp b),.k 4 (vp b),.k 5 (vp b),.c 6 (.slice PA D.pgs.length Pc),.c 7 (vi ((A.length:Int))),.c 8 (vp b),.k 9 (vp b),.k 10 (vp b),.c 11 (.slice PA D.pgs.length Pc),.c 12 (vi ((A.length:Int))),.c 13 (.pointer (some ((ad PA).add (A.length*513)))),.c 14 (.pointer (some ((ad PA).add (A.length*513+512)))),.c 15 (.slice t.A t.ws.length t.c),.c 16 (.string h.1),.c 17 (.agg (hvC h).toArray),.a 18,.a 19,.c 20 (.pointer (some ((ad PA).add (A.length*513)))),.c 21 (.pointer (some ((ad PA).add (A.length*513+512)))),.n] (fun ix j g X=>match ix with|0|1|2|3|4|5|6|7|8|9|10|11|12|13|14=>True|15=>j 18= .slice ((some ⟨(pb' (g 18)),0,none⟩)) 1 1/\X 5=eO 142 512 (.slice ((some ⟨(pb' (g 18)),0,none⟩)) 1 1) 1 (hvC h)|16=>j 19= .slice (sA (g 19)) (t.ws.length+1) (sC (g 19))/\X 6=eO 142 512 (.slice (sA (g 19)) (t.ws.length+1) (sC (g 19))) (t.ws.length+1) ((t.ws++[h]).flatMap hvC)|17|18=>True|19=>X 7=eO 144 513 (.slice PA D.pgs.length Pc) D.pgs.length ((A++⟨t.s,(sA (g 19)),(sC (g 19)),t.ws++[h]⟩::B).flatMap shC)|_=>True) [0,2,3,5,6,7] [0,3,4,5,8,9,10,11,12,13,14,15,16,17,18,19] [(3,0,19,22)] aj ?_ ?_ ?_
 exact fun ix _ _ _ _ _ _ hs hb hx h=>match ix,h with
 |15,h=>by dsimp only;rw[<-hs 18 rfl,<-hb 18 rfl,<-hx 5 rfl];exact h
 |16,h=>by dsimp only;rw[<-hs 19 rfl,<-hb 19 rfl,<-hx 6 rfl];exact h
 |19,h=>by dsimp only;rw[<-hb 19 rfl,<-hx 7 rfl];exact h
 |0,_|1,_|2,_|3,_|4,_|5,_|6,_|7,_|8,_|9,_|10,_|11,_|12,_|13,_|14,_|17,_|18,_|_+20,_=>trivial
 refine⟨?_,?_,?_,?_,?_,?_,?_,?_,?_,?_,?_,?_,?_,?_,?_,?_,trivial⟩
 exact xs4 rfl id fun cx=>rL1 (cx.ou 0) (Blk.cell (h3.upd cx.upd n3) 0)
 exact xs4 rfl id fun cx=>rL1 (cx.an 2) ((cx.bi 0 rfl).cell 0)
 exact xs4 rfl id fun cx=>rL1 (cx.ou 1) (Blk.cell (h4.upd cx.upd n4) 0)
 exact xs4 rfl id fun cx=>rL1 (cx.ou 0) (Blk.cell (h3.upd cx.upd n3) 0)
 exact xs4 rfl id fun cx=>rL1 (cx.an 7) ((cx.bi 0 rfl).cell 0)
 exact xs4 rfl id fun cx=>rL1 (cx.ou 1) (Blk.cell (h4.upd cx.upd n4) 0)
 exact xs4 rfl id fun cx=>aD (e:=144) (m:=A.length) (sz:=513) rfl (by kernel_rfl) (by kernel_rfl) (cx.an 8) (cx.an 9) (by omega) (by omega) (At.of_ownN (cx.ri 1 rfl)) (bm (sz:=513) c6 (by decide) (by omega))
 exact xs4 rfl id fun cx=>bn rfl (by kernel_rfl) (cx.an 10)
 exact xs4 rfl id fun cx=>rL1 (cx.an 11) (At.eltc (f:=shC) (k:=512) c6 (At.of_ownN (cx.ri 1 rfl)) htk (mH t))
 exact xs4 rfl id fun cx=>rL1 (cx.ou 2) (Blk.cell (h5.upd cx.upd n5) 0)
 exact xsc rfl id rfl rfl fun cx=>⟨_,Fa h _,(av (cx.an 13))⟩
 refine svA fun p g W X cx=>?_
 have Qv:p (.tmp 17)= .agg (hvC h).toArray:=(cx.an 14)
 exact ml (e:=142) (sz:=512) (xs:=hvC h) rfl (Ij (n:=512) rfl (by kernel_rfl) (by kernel_rfl) rfl Qv (cH h) (by decide) (by decide)) (by rw[cH]) (by decide) rfl rfl (fun _ _ _ _ _=> .intro)
 refine svA fun p g W X cx=>?_
 obtain⟨i0,hi0,hz0,hz1,hz2⟩:=info_parts Tryz.infoHalvesJ
 refine i6 (n:=t.ws.length) (m:=1) (nm:=t.ws.length+1) (sz:=512) (xs:=t.ws.flatMap hvC) (news:=hvC h) (xs':=(t.ws++[h]).flatMap hvC) rfl (ty:=138) rfl (by kernel_rfl) hi0 hz0 hz1 hz2 rfl (by decide) (cx.an 12) cx (cx.init 4 _ rfl) rfl (dTn (cx.an 15)).1 (by rw[cH]) (At.of_ownN (cx.row (dTn (cx.an 15)).2 rfl)) (rJ h) (by simp only[maxLen];omega) (by omega) rfl rfl rfl (by omega) ((MF t.ws h)) (fun j u X' hs hb hv hx=>?_)
 exact⟨hv,hx⟩
 exact xs4 rfl id fun cx=>aD (e:=144) (m:=A.length) (sz:=513) rfl (by kernel_rfl) (by kernel_rfl) (cx.an 3) (cx.an 4) (by omega) (by omega) (At.of_ownN (cx.ri 1 rfl)) (bm (sz:=513) c6 (by decide) (by omega))
 exact xs4 rfl id fun cx=>bn rfl (by kernel_rfl) (cx.an 17)
 refine svA fun p g W X cx=>?_
 exact qK (m:=A.length*513+512) (n:=D.pgs.length) (sz:=513) rfl (cx.an 18) (dTn (cx.an 16)).1 (by kernel_rfl) rfl rfl cx (cx.init 1 _ rfl) rfl (by omega) rfl (Ea A B t _ _ (t.ws++[h]) _ (by simp)) rfl rfl (fun j u X' hs hb hx=>by rw[hb 19];exact hx)
 intro j g X W1 hD ax fr aC
 simp only[exq 5 ((dTn (hD 15 lq)).2),exq 6 ((dTn (hD 16 lq)).2),exq 7 ((dTn (hD 19 lq)))] at ax
 simp only[ed 18 ((dTn (hD 15 lq)).1),ed 19 ((dTn (hD 16 lq)).1)] at aC
 generalize pb' (g 18)=SM,sA (g 19)=xV,sC (g 19)=xW at ax aC
 clear hD;subst aC;clear j g X
 refine bpe (.tuple #[]) (by simp[results,results190,go_sem]) ?_
 have hl_:=St.inW (L:=[eB b 100 #[.slice PA D.pgs.length Pc,.slice GA D.log.size gc,vi ((D.fl:Int)),.bool D.off,.bool D.armed,vi D.left],eO 144 513 (.slice PA D.pgs.length Pc) D.pgs.length ((A++⟨t.s,xV,xW,t.ws++[h]⟩::B).flatMap shC),eO 5 1 (.slice GA D.log.size gc) D.log.size ((ba D.log).map (Value.int .u8))]) (t:=(⟨t.s,xV,xW,t.ws++[h]⟩:ShT)) (by have h_:=ax.pick [0,5,1,2,4] (by decide) rfl;rw[nT];dsimp only;rw[List.length_append,List.length_singleton];exact h_)
 have hpl_:(jx A.length h D).pgs.length=D.pgs.length:=List.length_set
 exact⟨rfl,St.dk (L:=[]) (D:=jx A.length h D) (PA:=PA) (Pc:=Pc) (GA:=GA) (gc:=gc) (Ps:=A++(⟨t.s,xV,xW,t.ws++[h]⟩:ShT)::B) (Qs:=A++(⟨t.s,xV,xW,t.ws++[h]⟩:ShT)::B) (by rw[dkL,dkC,hpl_];exact hl_) (by rw[jx];dsimp only;rw[bV,<-hps,List.map_append,List.map_append,List.map_cons,List.map_cons,Kr];rfl) rfl⟩
theorem yr{D:DkM}{n:Int}(h:wrE D n s=0):(0<=n/\n<(D.pgs.length:Int))/\s.size=512:=by
 unfold wrE at h
 split at h
 rename_i h1
 split at h
 rename_i h2;exact⟨h1,h2⟩
 cases h
 cases h
theorem Em(b b3 b4 b5:Nat)(D:DkM)(n:Int)(s:ByteArray)(fp:List Nat)(w:World)(hB:(eDk b D fp).holds w)(hlt:∀k∈fp,k<w.heap.size)(h3:Blk w b3 30 #[po b 0])(h4:Blk w b4 3 #[.int .i64 n])(h5:Blk w b5 9 #[.string s])(n3:b3∉fp)(n4:b4∉fp)(n5:b5∉fp)(hw:∀x∈D.pgs,x.ws.length<=1000000000):Calls P_ 126 #[po b 0,.func (.func 189) #[] #[po b3 0,po b4 0,po b5 0],.func (.func 190) #[] #[po b3 0,po b4 0,po b5 0]] w (bT b (opD D (wrE D n s) (wrD n s)) fp w):=by
 refine Bi b D (wrE D n s) (wrD n s) 189 190 _ _ fp w hB hlt (by kernel_rfl) (by kernel_rfl) (fun W hU hA=>H7 b b3 b4 b5 D n s W hA (h3.upd hU n3) (h4.upd hU n4) (h5.upd hU n5)) (fun he W fp1 hU hh hl ho=>?_)
 obtain⟨h6,h7⟩:=yr he
 obtain⟨k,rfl⟩:∃k:Nat,n=(k:Int):=⟨n.toNat,by omega⟩
 have hno:∀x,x∉fp->x<w.heap.size->x∉fp1:=fun x h8 h9 h10=>by
  rcases ho x h10 with h11|h11
  exact h8 h11
  omega
 have e1:wrD (k:Int) s {D with left:=cX D.left}=jx k ⟨s,h7⟩ {D with left:=cX D.left}:=by rw[wrD,dif_pos h7,Int.toNat_natCast]
 rw[e1]
 exact H8 b b3 b4 b5 _ k ⟨s,h7⟩ fp1 W hh hl (h3.upd hU n3) (h4.upd hU n4) (h5.upd hU n5) (hno b3 n3 h3.lt) (hno b4 n4 h4.lt) (hno b5 n5 h5.lt) (by show k<D.pgs.length;omega) hw
theorem ug(b:Nat)(D:DkM)(n:Int)(s:ByteArray)(fp:List Nat)(w:World)(hB:(eDk b D fp).holds w)(hlt:∀k∈fp,k<w.heap.size)(hw:∀x∈D.pgs,x.ws.length<=1000000000):
  Calls P_ 169 #[po b 0,.int .i64 n,.string s] w (bT b (opD D (wrE D n s) (wrD n s)) fp w):=by
 have st1:St w fp [eDk b D fp] w:=St.lend hB (dm _ _ _) hlt
 go_enter func169,ntmps169
 have aj:=st1
 refine wq (sqr ?_)
 refine bX #[vp b] aj fun bP W1 ax=>?_
 refine bX #[vi n] ax fun dE W2 bA=>?_
 refine bX #[.string s] bA fun pI W3 aU=>?_
 refine sqp [.k 6 (vi 0)] ?_
 refine aa (wq (sqr (am 1 aU ?_)))
 refine sqv (.func (.func 189) #[] #[vp bP,vp dE,vp pI]) aU (by
   exact sv0 rfl rfl rfl rfl rfl (fun _ _ _ h=>h) fun c g W X cx=>by
    have fy:c (.tmp 3)=vp bP:=(cx.ou 3)
    have ve:c (.tmp 4)=vp dE:=(cx.ou 4)
    have qY:c (.tmp 5)=vp pI:=(cx.ou 5)
    simp[go_sem,Instr.makeFunc,fy,ve,qY]) fun W6 bJ=>?_
 refine sqv (.func (.func 190) #[] #[vp bP,vp dE,vp pI]) bJ (by
   exact sv0 rfl rfl rfl rfl rfl (fun _ _ _ h=>h) fun c g W X cx=>by
    have fy:c (.tmp 3)=vp bP:=(cx.ou 3)
    have ve:c (.tmp 4)=vp dE:=(cx.ou 4)
    have qY:c (.tmp 5)=vp pI:=(cx.ou 5)
    simp[go_sem,Instr.makeFunc,fy,ve,qY]) fun W7 aW=>?_
 refine bF (fun X_=>X_.fp) (vi ((opD D (wrE D n s) (wrD n s)).2)) (fun M5=>eDk b ((opD D (wrE D n s) (wrD n s)).1) M5) 0 aW (by
   refine svA fun c g W X cx=>?_
   refine ak.call (rCF (args:=#[vp b,.func (.func 189) #[] #[vp bP,vp dE,vp pI],.func (.func 190) #[] #[vp bP,vp dE,vp pI]]) cx.sees (dH (cx.ou 7) (cx.ou 8) (cx.ou 9))) ?_
   refine(Em b _ _ _ D n s _ _ (CtxV.holdF cx (cx.init 0 _ rfl) rfl) (CtxV.ltF cx (cx.init 0 _ rfl) rfl) (cx.bi 1 rfl) (cx.bi 2 rfl) (cx.bi 3 rfl) (by have h_:=cx.ap 1 0 rfl rfl (by decide);rw[(cx.init 1 _ rfl),(cx.init 0 _ rfl)] at h_;exact h_ _ (List.mem_singleton.2 rfl)) (by have h_:=cx.ap 2 0 rfl rfl (by decide);rw[(cx.init 2 _ rfl),(cx.init 0 _ rfl)] at h_;exact h_ _ (List.mem_singleton.2 rfl)) (by have h_:=cx.ap 3 0 rfl rfl (by decide);rw[(cx.init 3 _ rfl),(cx.init 0 _ rfl)] at h_;exact h_ _ (List.mem_singleton.2 rfl)) hw).mono ?_
   rintro e W1 ⟨rfl,fp4,aM⟩
   refine⟨_,rfl,aI (E:=eDk b D fp) [eDk b (opD D (wrE D n s) (wrD n s)).1 fp4] (cx.init 0 _ rfl) rfl rfl aM (fun p j X' hs hb hv hN=>?_)⟩
   have aH:=(hv 10 rfl).1;have aO:=(hv 10 rfl).2
   exact⟨aH.trans rfl,cF ((List.cons.inj hN).1)⟩) fun M5 W8 dI=>?_
 refine sqp [.m 6 10] ?_
 exact aa (wp_ret (bpr (vi ((opD D (wrE D n s) (wrD n s)).2)) (ag results169 rpt) (bT.of rfl (dI.pick [0] (by decide) rfl))))
end
section
open Go.RowKit
abbrev Rnd(l:Nat):Fence:=Fence.wide.inRound l
def jC(ops:Array Oper):Bool:=ops.all fun o=>match o.op with| .defer _=>false|_=>true
theorem Cr(h:jC ops=true)(ho:ops[i]? =some o):∀c,o.op≠ .defer c:=by
 intro c hc
 obtain⟨hi,he⟩:=Array.getElem?_eq_some_iff.1 ho
 have h2:=(Array.all_eq_true.1 h) i hi
 rw[he,hc] at h2
 cases h2
theorem Qd{n:Nat}(hd:∀c,o.op≠ .defer c)(h:o.wp P a w K Q):o.wpIn (Rnd l) n P a w K Q:=by
 unfold Oper.wp at h
 refine⟨fun _ _=>trivial,?_⟩
 show o.uponIn (Rnd l) n P a K Q ((o.semAt (some l) a.eval).run P w)
 rw[Oper.semAt_eq (some l) a.eval o hd]
 generalize (execOp a.eval o).run P w=r at h |-
 cases r with
 |ok x w'=>
  cases x<;>simp only[Oper.upon,Oper.uponIn] at h |- <;>first
   |exact h
   |exact⟨fun hh=>by simp[Rnd,Fence.wide] at hh,CallsIn.inRound l (callsIn_wide.2 h)⟩
   |exact⟨fun hh=>by simp[Rnd,Fence.wide] at hh,fun c cs _=>let ⟨v,w',r,s⟩:=h c cs;⟨v,w',r,stepsIn_wide.2 s⟩⟩
 |halt x w'=>cases x<;>simp only[Oper.upon,Oper.uponIn] at h |- <;>exact h
section
variable{P:Program}{l n:Nat}{ops:Array Oper}{Q:Exit->Act->World->Prop}
theorem xo(hnd:jC ops=true)(hLo:¬LetsOut Q)(h:wpOp P ops Q i K a w):wpOpIn (Rnd l) n P ops Q i K a w:=by
 unfold wpOp at h
 unfold wpOpIn
 cases ho:ops[i]? with
 |none=>simp only[ho] at h |-;exact h
 |some o=>
  simp only[ho] at h |-
  split
  rename_i hw
  rw[if_pos hw] at h
  exact Qd (Cr hnd ho) (h.resolve_right fun hh=>hLo hh.2)
  rename_i hw
  rw[if_neg hw] at h
  exact⟨fun _ _=>trivial,h⟩
theorem uB(hnd:jC ops=true)(hLo:¬LetsOut Q):∀(m:Nat) (listed:Array Bool) (a:Act) (w:World),wpAny P .any ops Q m listed a w->wpAnyIn (Rnd l) n P .any ops Q m listed a w
 |0,listed,a,w,h=>h
 |m+1,listed,a,w,h=>⟨h.1,fun i hi=>wpOpIn_mono (fun a w hh=>uB hnd hLo m _ a w hh) (xo hnd hLo (h.2 i hi))⟩
theorem py(hnd:jC ops=true)(hLo:¬LetsOut Q):∀(is:List Nat) (a:Act) (w:World),wpOps P ops Q is a w->wpOpsIn (Rnd l) n P ops Q is a w
 | [],a,w,h=>h
 |i::is,a,w,h=>by
  rw[wpOps_cons] at h
  rw[wpOpsIn_cons]
  exact wpOpIn_mono (fun a w hh=>py hnd hLo is a w hh) (xo hnd hLo h)
end
section
variable{P:Program}{ops:Array Oper}{L:List Nat}{w0:World}{bor:List Nat}{X0:List Ent}{us cr kl:List (List Nat)}{Q:Exit->Act->World->Prop}{l n:Nat}
theorem xL(hnd:jC ops=true)(hm:P.follows .mixedOrders=true)(L:List Nat)(us cr kl:List (List Nat))(D:Nat->(Tmp->Value)->(Tmp->Value)->(Nat->Ent)->Prop)(fin:List Nat)
  (hL:gC ops L=true) (hd:fW ops t0.size=true) (hflow:gB ops.size X0.length L us cr kl=true) (hfin:ky ops.size X0.length cr kl fin=true)
  (hloc:jh ops X0.length L cr D) (bb:St w0 bor X0 w) (fh:i5 (bM P ops L ⟨t0,d0⟩ w0 bor X0 us cr kl D) ops.size)
  (hrest:∀(c g:Tmp->Value) (X:Nat->Ent) (w':World),(∀i,i<ops.size->D i c g X)->(∀q e,X0[q]? =some e->X q=e)->St w0 bor (fin.map X) w'->
   ∀fr,fr=dO (ct ops) ((ct ops).map c) t0->Q .normal ⟨fr,d0⟩ w'):(Code.region id ops dr).wpIn (Rnd l) n P Q ⟨t0,d0⟩ w:=by
 have hs:∀i,i<ops.size->bM P ops L ⟨t0,d0⟩ w0 bor X0 us cr kl D i:=fun i hi=>fh.get i hi
 obtain⟨Q',hQ'⟩:∃Q':Exit->Act->World->Prop,Q'=fun e a w=>e= .normal/\Q .normal a w:=⟨_,rfl⟩
 have hr:∀(a:Act) (w:World) (listed:Array Bool),(∀i,i<ops.size->listed.getD i false=true)->VInv ops L ⟨t0,d0⟩ w0 bor X0 cr kl D listed a w->Q' .normal a w:=fun a w listed hall inv=>by
  rw[hQ'];exact⟨rfl,zu (a0:=⟨t0,d0⟩) hd hfin (fun c g X w' h1 h2 h3=>hrest c g X w' h1 h2 h3 _ rfl) hall inv⟩
 have hLo:¬LetsOut Q':=by rw[hQ'];rintro⟨a,w,h,_⟩;cases h
 refine wpIn_mono (Q:=Q') ?_ fun e a w h=>by rw[hQ'] at h;obtain⟨rfl,h⟩:=h;exact h
 cases dr with
 |true=>
  refine wpIn_region_any hm (uB hnd hLo _ _ _ _ (BQ hL hd hflow hloc hs hr ops.size (Array.replicate ops.size false) ⟨t0,d0⟩ w.drew ?_ (lW bb.drew)))
  rw[List.countP_eq_length.2]
  simp
  intro i _
  rw[getD_replicate_false]
  rfl
 |false=>
  refine wpIn_region ?_
  rw[List.range_eq_range']
  exact py hnd hLo _ _ _ (Bp hL hd hflow hloc hs hr ops.size 0 (Array.replicate ops.size false) ⟨t0,d0⟩ w (by omega) (fun j=>by rw[getD_replicate_false];simp) (lW bb))
end
theorem xH{n:Nat}{X0:List Ent}{t0:List Value}(L:List Nat)(us cr kl:List (List Nat))(tb:List TE)
  (A:Nat->(Tmp->Value)->(Tmp->Value)->(Nat->Ent)->Prop) (fin sp:List Nat) (rs:List (Nat×Nat×Nat×Nat)) (bb:St w0 bor X0 w) (hloc:jh ops X0.length L cr A)
  (fh:oU (bM P ops L ⟨t0.toArray,d0⟩ w0 bor X0 us cr kl (fun ix c g X=>dT tb ix c (A ix c g X))) sp)
  (hrest:∀(c g:Tmp->Value) (X:Nat->Ent) (w':World),(∀i,i<ops.size->dT tb i c (A i c g X))->(∀q e,X0[q]? =some e->X q=e)->St w0 bor (fin.map X) w'->∀fr,fr=mgT tb c rs t0->Q .normal ⟨fr.toArray,d0⟩ w')
  (ht:nL P ops L t0.toArray tb 0 tb=tb.map jp:=by kernel_rfl) (hl:jo ops L cr kl sp 0 tb=true:=by kernel_rfl) (hn:tb.length=ops.size:=by kernel_rfl)
  (aC:∀c,dO (ct ops) ((je ops).map (jy ops tb c)) t0.toArray=(mgT tb c rs t0).toArray:=by intro c;kernel_rfl)
  (hm:P.follows .mixedOrders=true:=by kernel_rfl) (hnd:jC ops=true:=by kernel_rfl) (hL:gC ops L=true:=by kernel_rfl) (hd:fW ops t0.toArray.size=true:=by kernel_rfl) (hflow:gB ops.size X0.length L us cr kl=true:=by kernel_rfl) (hfin:ky ops.size X0.length cr kl fin=true:=by kernel_rfl):
  (Code.region id ops dr).wpIn (Rnd l) n P Q ⟨t0.toArray,d0⟩ w:=by
 refine xL hnd hm L us cr kl (fun ix c g X=>dT tb ix c (A ix c g X)) fin hL hd hflow hfin (fun i c j g p X X' h1 h2 h3 h=>?_) bb (i5.of fun i hi=>?_) fun c g X w' hD hX hst' fr hfr'=>?_
 dsimp only at h |-
 rw[ia] at h |-
 cases hdd:(tb.getD i .n).dst with
 |some d=>
  rw[hdd] at h
  dsimp only at h |-
  have hi:i<tb.length:=jD (by rw[hdd];simp)
  have:=(fI ht hi hdd).1
  rw[<-h1 d (by unfold nx;simp[this])]
  exact h
 |none=>
  rw[hdd] at h
  exact hloc i c j g p X X' h1 h2 h3 h
 have hi':i<tb.length:=by rw[hn];exact hi
 have h:=iV (i:=i) hl hi'
 rw[Nat.zero_add] at h
 rcases h with ⟨_,h⟩|⟨h,_⟩
 exact nh fh i h
 exact nr hd ht hl hi' h
 subst hfr'
 have e:(ct ops).map c=(je ops).map (jy ops tb c):=by
  unfold ct
  rw[List.map_map]
  refine List.map_congr_left fun i hi=>?_
  have him:=List.mem_filter.1 hi
  have hlt:i<ops.size:=List.mem_range.1 him.1
  have h:=hD i hlt
  rw[ia] at h
  unfold jy
  cases hdd:(tb.getD i .n).dst with
  |none=>rfl
  |some d=>
   rw[hdd] at h
   dsimp only at h |-
   have:=(fI ht (i:=i) (by rw[hn];exact hlt) hdd).1
   simp only[Function.comp,this,Option.getD_some]
   exact h
 rw[e,aC c]
 exact hrest c g X w' hD hX hst' _ rfl
theorem xI{n:Nat}{X0:List Ent}{t0:List Value}{t1:(Tmp->Value)->List Value}{E:(Nat->Ent)->List Ent}(L:List Nat)(us cr kl:List (List Nat))(tb:List TE)
  (A:Nat->(Tmp->Value)->(Tmp->Value)->(Nat->Ent)->Prop) (fin sp:List Nat) (rs:List (Nat×Nat×Nat×Nat)) (bb:St w0 bor X0 w) (hloc:jh ops X0.length L cr A)
  (fh:oU (bM P ops L ⟨t0.toArray,d0⟩ w0 bor X0 us cr kl (fun ix c g X=>dT tb ix c (A ix c g X))) sp)
  (hrest:∀(c g:Tmp->Value) (X:Nat->Ent) (w':World),(∀i,i<ops.size->dT tb i c (A i c g X))->St w0 bor (E X) w'->∀fr,fr=t1 c->Q .normal ⟨fr.toArray,d0⟩ w')
  (h1:∀c,mgT tb c rs t0=t1 c:=by intro c;dsimp only[mgT,jw,List.take,List.drop,List.cons_append,List.nil_append]) (hE:∀X,jR X0 X fin=E X:=by intro X;dsimp only[jR,qM])
  (ht:nL P ops L t0.toArray tb 0 tb=tb.map jp:=by kernel_rfl) (hl:jo ops L cr kl sp 0 tb=true:=by kernel_rfl) (hn:tb.length=ops.size:=by kernel_rfl)
  (aC:∀c,dO (ct ops) ((je ops).map (jy ops tb c)) t0.toArray=(mgT tb c rs t0).toArray:=by intro c;kernel_rfl)
  (hm:P.follows .mixedOrders=true:=by kernel_rfl) (hnd:jC ops=true:=by kernel_rfl) (hL:gC ops L=true:=by kernel_rfl) (hd:fW ops t0.toArray.size=true:=by kernel_rfl) (hflow:gB ops.size X0.length L us cr kl=true:=by kernel_rfl) (hfin:ky ops.size X0.length cr kl fin=true:=by kernel_rfl):
  (Code.region id ops dr).wpIn (Rnd l) n P Q ⟨t0.toArray,d0⟩ w:=
 xH L us cr kl tb A fin sp rs bb hloc fh (fun c g X w' hD hX hs fr hf=>hrest c g X w' hD (by rw[<-hE X,rU hX];exact hs) fr (hf.trans (h1 c))) ht hl hn aC hm hnd hL hd hflow hfin
abbrev fps(L:List Ent):List Nat:=L.flatMap (·.fp)
theorem ga{L:List Ent}:k∈fps L<->∃e∈L,k∈e.fp:=by simp[fps]
theorem St.fps_own{L:List Ent}(h:St w0 bor L w)(hk:k∈fps L):(k∈bor\/w0.heap.size<=k)/\k<w.heap.size:=by
 obtain⟨e,he,hk⟩:=ga.1 hk
 exact(h.ok e he).own k hk
def lM(D:Nat):Ent:=⟨[D],fun W=>W.heap[D]? =some (.deferred (some []))⟩
theorem LX(D:Nat):(lM D).loc:=fun W W' h hb=>(h D (by simp[lM])).trans hb
theorem St.takeD{L:List Ent}{D:Nat}(h:St w0 bor (L++[lM D]) W):St w0 bor L (W.putObj D (.deferred none)):=by
 have hd:=h.ok (lM D) (by simp)
 have hown:=hd.own D (by simp[lM])
 have hap:∀e∈L,D∉e.fp:=fun e he hk=>by
  have:=(List.pairwise_append.1 h.apart).2.2 e he (lM D) (by simp)
  exact this D hk (by simp[lM])
 have hg:=grownBy_putObj' W D (.deferred none)
 refine⟨⟨hg.os.trans h.upd.os,hg.tape.trans h.upd.tape,hg.output.trans h.upd.output,Nat.le_trans h.upd.size hg.size,fun k hk hb=>?_⟩,fun e he=>?_,(List.pairwise_append.1 h.apart).1⟩
 rw[hg.block k (Nat.lt_of_lt_of_le hk h.upd.size) fun e'=>?_]
 exact h.upd.block k hk hb
 cases e'
 rcases hown.1 with h1|h1
 exact hb h1
 omega
 have h2:=h.ok e (by simp[he])
 refine⟨h2.loc W _ (fun k hk=>hg.block k (h2.own k hk).2 fun e'=>?_) h2.holds,h2.loc,fun k hk=>⟨(h2.own k hk).1,Nat.lt_of_lt_of_le (h2.own k hk).2 hg.size⟩⟩
 cases e'
 exact hap e he hk
theorem zl{n:Nat}{fn:Func}{R:Ending->World->Prop}{L:List Ent}{D:Nat}(bb:St w0 bor (L++[lM D]) w)
  (h:∀W,St w0 bor L W->∃v,(results fn t0).run P W= .ok v W/\R (.returned v) W):bodyPostM Fence.wide n P fn R .ret ⟨t0,[{target:= .collected D,args:=#[]}]⟩ w:=by
 have hK:w.heap[D]? =some (.deferred (some [])):=(bb.ok (lM D) (by simp)).holds
 show LeavesInM Fence.wide n P fn t0 R [{target:= .collected D,args:=#[]}] .returning w
 exact⟨by simp,.inl ⟨_,_,rfl,run_takeDeferred hK,h _ bb.takeD⟩⟩
theorem uo{n s:Nat}{a1:Act}(ho:o.op= .assign (.tmp s))(hg:o.guard=none)(hd:o.dst=some d)(h:K a1 W)(he:a.put (some d) (a.eval (.tmp s))=a1):
  (Code.region id #[o] false).wpIn (Rnd l) n P (Exit.then K (fun _ _ _=>False)) a W:=by
 refine wpIn_region ?_
 refine py (by simp[jC,ho]) (by rintro⟨a,w,h⟩;exact h) _ _ _ ?_
 show wpOps P _ _ [0] a W
 rw[wpOps_cons]
 refine wpOp_step (show (#[o]:Array Oper)[0]? =some o from rfl) fun K' hK'=>?_
 rw[if_pos (show Region.wanted o _=true by unfold Region.wanted;rw[hg])]
 refine ak.wp (post:=fun v w'=>v=a.eval (.tmp s)/\w'=W) (ak.value (cS ho rfl) ⟨rfl,rfl⟩) fun v w' hv=>?_
 obtain⟨rfl,rfl⟩:=hv
 refine hK' _ _ ?_
 rw[hd,he]
 exact h
end
section
open Go.RowKit
def eJ{α:Type}(J:List Nat->List α->World->Prop)(C:List Nat)(pre:List α):Ent:=⟨C,J C pre⟩
theorem Upd.putObj{S:List Nat}{A B:World}{o:Obj}(h:Upd S A B)(hl:l∈S\/A.heap.size<=l):Upd S A (B.putObj l o):=by
 have hg:=grownBy_putObj' B l o
 refine⟨hg.os.trans h.os,hg.tape.trans h.tape,hg.output.trans h.output,Nat.le_trans h.size hg.size,fun k hk hn=>?_⟩
 rw[hg.block k (Nat.lt_of_lt_of_le hk h.size) fun e=>?_]
 exact h.block k hk hn
 cases e
 rcases hl with h1|h1
 exact hn h1
 omega
theorem kN(W:World)(l:Nat)(o:Obj):(W.putObj l o).heap.size=W.heap.size:=by simp
end
section
open Go.RowKit
def e00:Ent:=⟨[],fun _=>True⟩
theorem St.e00(W:World):St W [] [e00] W:=⟨Upd.refl _ _,fun x hx=>by rw[List.mem_singleton] at hx;subst hx;exact⟨trivial,fun _ _ _ _=>trivial,fun k hk=>by cases hk⟩,List.pairwise_singleton _ _⟩
def LC{α:Type}(P:Program)(gf:Nat)(lb:Array Value)(encs:α->Array Value)(Px:List α->α->Prop)(Rd:List α->World->Prop)(Z:List α->Prop):Prop:=
 ∀(l:Nat) (J:List Nat->List α->World->Prop) (W:World) (C0:List Nat),(∀C pre,(eJ J C pre).loc)->(∀k∈C0,k<W.heap.size)->J C0 [] W->(∀C pre A,J C pre A->Rd pre A)->
  (∀C pre x A,J C pre A->(∀k∈C,k<A.heap.size)->Px pre x->YieldAt Fence.wide 1 P l (encs x) A fun e B=>e= .returned (.bool true)/\∃C',St A C [eJ J C' (pre++[x])] B)->
  CallsIn Fence.wide 2 P gf (#[.func (.yield l) #[] #[]]++lb) W fun e B=>(∃v,e= .returned v)/\∃C xs,St W C0 [eJ J C xs] B/\Z xs
theorem uc{α:Type}{g:Operand}{ps:Array Tmp}{assign body:Code}{w:World}{L0:List Ent}(bb:St w0 bor L0 w)
  {gf:Nat}{lb:Array Value}(hg:Act.eval ⟨t0,[]⟩ g= .func (.func gf) #[] lb) (eg:∀args w,(callFunc gf args).run P w= .ok (.enter gf args) w)
  {encs:α->Array Value}{Px:List α->α->Prop}{Rd:List α->World->Prop}{Z:List α->Prop}(hseq:LC P gf lb encs Px Rd Z) (hps:∀x,(encs x).size=ps.size) (I:List α->List Ent->Prop) (h0:I [] L0) (hRd:∀pre L A,I pre L->(∀e∈L,e.holds A)->Rd pre A) (Ax:α->Act->Ent->Prop) (t1:α->List Value) (ht1:∀x,(ps.zip (encs x)).foldl (fun t (p,v)=>t.setIfInBounds p v) t0=(t1 x).toArray)
  (hassign:∀(l:Nat) (x:α) (W:World) (K:Act->World->Prop),(∀a' W' E,Ax x a' E->St W [] [E] W'->K a' W')->assign.wpIn (Rnd l) 1 P (Exit.then K (fun _ _ _=>False)) ⟨(t1 x).toArray,[]⟩ W)
  (hbody:∀(l:Nat) (pre:List α) (x:α) (W:World) (L:List Ent) (a':Act) (E:Ent),I pre L->Px pre x->Ax x a' E->St W (fps (L++[E])) (L++[E]) W->body.wpIn (Rnd l) 1 P (fun e _ W'=>e= .normal/\∃L',I (pre++[x]) L'/\St W (fps (L++[E])) L' W') a' W)
  (hdone:∀(D:Nat) (W:World) (L:List Ent) (xs:List α),I xs L->Z xs->St w0 bor (L++[lM D]) W->Q .normal ⟨t0,[{target:= .collected D,args:=#[]}]⟩ W):
  (Code.rangeFunc g ps assign body).wp P Q ⟨t0,[]⟩ w:=by
 refine(wpIn_wide (n:=3)).1 (wpIn_rangeFunc fun fn hfn=>?_)
 obtain⟨D,hD⟩:∃D,w.heap.size=D:=⟨_,rfl⟩
 obtain⟨rec,hrec⟩:∃rec:LoopState->Loop,rec=fun s=>{state:=s,pending:=none,fn,tmps:=t0,params:=ps,assign,body,defers:=D}:=⟨_,rfl⟩
 obtain⟨W1,hW1⟩:∃W1,(w.alloc (.deferred (some []))).alloc (.loop (rec .ready))=W1:=⟨_,rfl⟩
 have hL1:W1.heap[D+1]? =some (.loop (rec .ready)):=by
  rw[<-hW1,<-hD];have:=World.alloc_heap_new (w.alloc (.deferred (some []))) (.loop (rec .ready));rwa [World.size_alloc] at this
 have hK1:W1.heap[D]? =some (.deferred (some [])):=by
  rw[<-hW1,<-hD];exact(Below.heap_alloc _ _ _ (by simp)).trans (World.alloc_heap_new w _)
 have hx1:Ext w W1:=by rw[<-hW1];exact((Below.refl _ w).alloc (Nat.le_refl _) _).alloc (by simp) _
 have fQ:W1.heap.size=D+2:=by rw[<-hW1,World.size_alloc,World.size_alloc,hD]
 have h0w:=bb.upd.size
 obtain⟨J,hJ⟩:∃J:List Nat->List α->World->Prop,J=fun C pre A=>∃L,I pre L/\C=(D+1)::D::fps L/\(∀e∈L,e.holds A/\e.loc)/\L.Pairwise Ent.apart/\(∀k∈fps L,k≠D+1/\k≠D)/\A.heap[D+1]? =some (.loop (rec .ready))/\A.heap[D]? =some (.deferred (some [])):=⟨_,rfl⟩
 have hloc:∀C pre,(eJ J C pre).loc:=fun C pre A B hk h=>by
  subst hJ
  obtain⟨L,h1,rfl,h2,h3,h4,h5,h6⟩:=h
  refine⟨L,h1,rfl,fun e he=>⟨(h2 e he).2 A B (fun k hk'=>hk k ?_) (h2 e he).1,(h2 e he).2⟩,h3,h4,(hk (D+1) (by simp[eJ])).trans h5,(hk D (by simp[eJ])).trans h6⟩
  exact List.mem_cons_of_mem _ (List.mem_cons_of_mem _ (ga.2 ⟨e,he,hk'⟩))
 have hC0:∀k∈(D+1)::D::fps L0,(k∈bor\/w0.heap.size<=k)/\k<W1.heap.size:=fun k hk=>by
  rcases List.mem_cons.1 hk with rfl|hk
  exact⟨.inr (by omega),by omega⟩
  rcases List.mem_cons.1 hk with rfl|hk
  exact⟨.inr (by omega),by omega⟩
  have:=bb.fps_own hk
  exact⟨this.1,by omega⟩
 have hJ0:J ((D+1)::D::fps L0) [] W1:=by
  subst hJ
  refine⟨L0,h0,rfl,fun e he=>⟨(bb.ok e he).loc w W1 (fun k hk=>hx1.block ((bb.ok e he).own k hk).2) (bb.ok e he).holds,(bb.ok e he).loc⟩,bb.apart,fun k hk=>?_,hL1,hK1⟩
  have:=(bb.fps_own hk).2
  exact⟨by omega,by omega⟩
 refine⟨D+1,[{target:= .collected D,args:=#[]}],W1,{target:= .fn (.func gf) lb,args:=#[.func (.yield (D+1)) #[] #[]]},W1,gf,#[.func (.yield (D+1)) #[] #[]]++lb,W1,?_,?_,?_,?_,fun _=>by omega,?_⟩
 rw[<-hW1,hrec,<-hD];exact run_enterLoop_outer _ _ _ _ _
 simp only[resolve,hg]
 simp[go_sem]
 intro f' hf';trivial
 simp[invoke,go_sem,eg]
 refine(hseq (D+1) J W1 _ hloc (fun k hk=>(hC0 k hk).2) hJ0 (fun C pre A hj=>by subst hJ;obtain⟨L,hi,rfl,hall,_⟩:=hj;exact hRd pre L A hi fun e he=>(hall e he).1) ?_).mono ?_
 intro C pre x A hj hlt hlen
 subst hJ
 obtain⟨L,hi,rfl,hall,hap,hne,hl,hk⟩:=hj
 have hlA:D+1<A.heap.size:=hlt _ (by simp)
 have hDA:D<A.heap.size:=hlt _ (by simp)
 have hy:=run_yield (P:=P) (args:=encs x) hl (by rw[hrec];exact hps x)
 rw[hrec] at hy
 refine⟨fn,_,assign,body,hy,roundIn_of_wpIn hfn ?_⟩
 rw[ht1 x]
 refine hassign _ x A _ fun a' A1 E1 hAx hE1=>?_
 have hxA:=hE1.ext
 have hl1:A1.heap[D+1]? =some (.loop (rec .ready)):=(hxA.block hlA).trans hl
 have hk1:A1.heap[D]? =some (.deferred (some [])):=(hxA.block hDA).trans hk
 have hEo:=hE1.ok E1 (by simp)
 have hEn:∀k∈E1.fp,A.heap.size<=k/\k<A1.heap.size:=fun k hk'=>⟨(hEo.own k hk').1.resolve_left (by simp),(hEo.own k hk').2⟩
 have hsA1:=hxA.size
 refine⟨_,run_beginRound hl1 (by rw[hrec]),?_⟩
 obtain⟨A2,hA2⟩:∃A2,A1.putObj (D+1) (.loop {rec .ready with state:= .busy})=A2:=⟨_,rfl⟩
 have hsz:A2.heap.size=A1.heap.size:=by rw[<-hA2];exact kN _ _ _
 have hoth:∀k,k≠D+1->A2.heap[k]? =A1.heap[k]? :=fun k hk'=>by rw[<-hA2];exact World.putObj_heap_other hk'
 have hbusy:A2.heap[D+1]? =some (.loop {rec .ready with state:= .busy}):=by rw[<-hA2];exact World.putObj_heap_same (by omega)
 have hLlt:∀k∈fps L,k<A.heap.size:=fun k hk'=>hlt k (List.mem_cons_of_mem _ (List.mem_cons_of_mem _ hk'))
 have bA:St A2 (fps (L++[E1])) (L++[E1]) A2:=by
  refine⟨Upd.refl _ _,fun e he=>?_,?_⟩
  have hin:∀k∈e.fp,k∈fps (L++[E1]):=fun k hk'=>ga.2 ⟨e,he,hk'⟩
  rcases List.mem_append.1 he with he|he
  refine⟨(hall e he).2 A A2 (fun k hk'=>?_) (hall e he).1,(hall e he).2,fun k hk'=>⟨.inl (hin k hk'),?_⟩⟩
  have h1:=ga.2 ⟨e,he,hk'⟩
  exact(hoth k (hne k h1).1).trans (hxA.block (hLlt k h1))
  have:=hLlt k (ga.2 ⟨e,he,hk'⟩);omega
  rw[List.mem_singleton] at he
  subst he
  exact⟨hEo.loc A1 A2 (fun k hk'=>hoth k (by have:=(hEn k hk').1;omega)) hEo.holds,hEo.loc,fun k hk'=>⟨.inl (hin k hk'),by have:=(hEn k hk').2;omega⟩⟩
  rw[List.pairwise_append]
  refine⟨hap,List.pairwise_singleton _ _,fun a ha b hb k hk' hkb=>?_⟩
  rw[List.mem_singleton] at hb
  subst hb
  have h1:=hLlt k (ga.2 ⟨a,ha,hk'⟩)
  have h2:=(hEn k hkb).1
  omega
 rw[hA2]
 have hfin:∀k∈fps (L++[E1]),k∈fps L\/A.heap.size<=k:=fun k hk'=>by
  obtain⟨e,he,hke⟩:=ga.1 hk'
  rcases List.mem_append.1 he with he|he
  exact .inl (ga.2 ⟨e,he,hke⟩)
  rw[List.mem_singleton] at he;subst he;exact .inr (hEn k hke).1
 refine wpIn_mono (hbody _ pre x A2 L a' E1 hi hlen hAx bA) ?_
 rintro e a W3 ⟨rfl,L',hi',hs'⟩
 have hno:∀m,m=D+1\/m=D->m∉fps (L++[E1]):=fun m hm hmm=>by
  rcases hfin m hmm with h1|h1
  have:=hne m h1;rcases hm with rfl|rfl<;>simp at this
  omega
 have hl3:W3.heap[D+1]? =some (.loop {rec .ready with state:= .busy}):=(hs'.upd.block _ (by omega) (hno _ (.inl rfl))).trans hbusy
 have hk3:W3.heap[D]? =some (.deferred (some [])):=(hs'.upd.block _ (by omega) (hno _ (.inr rfl))).trans ((hoth D (by omega)).trans hk1)
 have hsz3:=hs'.upd.size
 have hne':∀k∈fps L',k≠D+1/\k≠D:=fun k hk'=>by
  rcases(hs'.fps_own hk').1 with h1|h1
  rcases hfin k h1 with h2|h2
  exact hne k h2
  exact⟨by omega,by omega⟩
  exact⟨by omega,by omega⟩
 refine⟨_,_,run_endRound none hl3,rfl,(D+1)::D::fps L',?_⟩
 have hupA:Upd ((D+1)::D::fps L) A A2:=by rw[<-hA2];exact(Upd.mono (S:=[]) (Upd.of_ext hxA) (fun k _ hk'=>by simp at hk')).putObj (.inl (List.mem_cons_self ..))
 have hup:Upd ((D+1)::D::fps L) A W3:=hupA.join hs'.upd (fun i hi=>by
  rcases hfin i hi with h1|h1
  exact Or.inl (List.mem_cons_of_mem _ (List.mem_cons_of_mem _ h1))
  exact .inr h1)
 have h3l:D+1<W3.heap.size:=by omega
 refine⟨hup.putObj (.inl (by simp)),fun e he=>?_,List.pairwise_singleton _ _⟩
 rw[List.mem_singleton] at he
 subst he
 refine⟨⟨L',hi',rfl,fun e he=>⟨(hs'.ok e he).loc W3 _ (fun k hk'=>World.putObj_heap_other (hne' k (ga.2 ⟨e,he,hk'⟩)).1) (hs'.ok e he).holds,(hs'.ok e he).loc⟩,hs'.apart,hne',?_,?_⟩,hloc _ _,fun k hk'=>?_⟩
 rw[hrec];exact World.putObj_heap_same h3l
 exact(World.putObj_heap_other (by omega)).trans hk3
 rw[kN]
 have hk':k∈(D+1)::D::fps L':=hk'
 rcases List.mem_cons.1 hk' with rfl|hk'
 exact⟨.inl (by simp),h3l⟩
 rcases List.mem_cons.1 hk' with rfl|hk'
 exact⟨.inl (by simp),by omega⟩
 have h6:=hs'.fps_own hk'
 refine⟨?_,h6.2⟩
 rcases h6.1 with h7|h7
 rcases hfin k h7 with h8|h8
 exact .inl (List.mem_cons_of_mem _ (List.mem_cons_of_mem _ h8))
 exact .inr h8
 exact .inr (by omega)
 rintro e W2 ⟨⟨v,rfl⟩,C,xs,hs,hz⟩
 have hjo:=hs.ok (eJ J C xs) (by simp)
 have hj:=hjo.holds
 subst hJ
 obtain⟨L,hi,rfl,hall,hap,hne,hl,hk⟩:=hj
 have hend:=run_endLoop (P:=P) hl (by rw[hrec];simp)
 have hpend:(rec .ready).pending=none:=by rw[hrec]
 rw[hpend] at hend
 refine⟨none,_,hend,hdone D _ L xs hi hz ?_⟩
 have hCo:∀k∈(D+1)::D::fps L,((k∈bor\/w0.heap.size<=k)/\k<W2.heap.size):=fun k hk'=>by
  have h5:=hjo.own k hk'
  refine⟨?_,h5.2⟩
  rcases h5.1 with h6|h6
  exact(hC0 k h6).1
  exact .inr (by omega)
 have hup:Upd bor w0 W2:=(bb.upd.join (show Upd [] w W1 from Upd.of_ext hx1) (fun i hi=>by cases hi)).join hs.upd (fun i hi=>(hC0 i hi).1)
 have hlA:=(hCo (D+1) (by simp)).2
 have hw0D:w0.heap.size<=D+1:=by omega
 refine⟨hup.putObj (.inr hw0D),fun e he=>?_,?_⟩
 rcases List.mem_append.1 he with he|he
 refine⟨(hall e he).2 W2 _ (fun k hk'=>World.putObj_heap_other (hne k (ga.2 ⟨e,he,hk'⟩)).1) (hall e he).1,(hall e he).2,fun k hk'=>?_⟩
 rw[kN]
 exact hCo k (List.mem_cons_of_mem _ (List.mem_cons_of_mem _ (ga.2 ⟨e,he,hk'⟩)))
 rw[List.mem_singleton] at he
 subst he
 refine⟨(World.putObj_heap_other (by omega)).trans hk,LX D,fun k hk'=>?_⟩
 have:k=D:=by simpa[lM] using hk'
 subst this
 rw[kN]
 exact⟨.inr (by omega),by have:=(hCo k (by simp)).2;omega⟩
 rw[List.pairwise_append]
 refine⟨hap,List.pairwise_singleton _ _,fun a ha b hb k hk' hkb=>?_⟩
 rw[List.mem_singleton] at hb
 subst hb
 have:k=D:=by simpa[lM] using hkb
 exact(hne k (ga.2 ⟨a,ha,hk'⟩)).2 this
end
section
open Go.RowKit
section
variable{P:Program}{ops:Array Oper}{Q:Exit->Act->World->Prop}{i:Nat}{rest:List Nat}{o:Oper}{t:List Value}{d0:List Deferred}{W:World}{d:Tmp}{t':List Value}
theorem Iu{g:Operand->Value}{c:Call}{l:Nat}(h:o.op= .call c)(hcal:c.callee= .value x)(hx:g x= .func (.yield l) #[] #[])(ha:c.args.map g=args){r:Result Next}(hr:(Instr.yield l args).run P W=r):(execOp g o).run P W=r:=by
 subst hr
 unfold execOp;rw[h]
 simp only[resolve,hcal,hx,Deferred.ofValue,ha,Sem.run_bind,Sem.run_pure,Result.andThen_ok,invoke]
 simp
theorem cg(ho:ops[i]? =some o)(hg:Region.wanted o (yielded ops t.toArray)=true)(hd:o.dst=some d)(hr:(execOp (Act.eval ⟨t.toArray,d0⟩) o).run P W= .ok (.value v) W)(ht:t.set d v=t')(h:wpOpsIn Fence.wide 2 P ops Q rest ⟨t'.toArray,d0⟩ W):wpOpsIn Fence.wide 2 P ops Q (i::rest) ⟨t.toArray,d0⟩ W:=by
 unfold wpOpsIn
 simp only[ho]
 rw[if_pos hg]
 refine⟨fun _ _=>trivial,?_⟩
 show o.uponIn Fence.wide 2 P _ _ Q ((execOp (Act.eval ⟨t.toArray,d0⟩) o).run P W)
 rw[hr,Oper.uponIn_value,hd]
 show wpOpsIn Fence.wide 2 P ops Q rest ⟨t.toArray.setIfInBounds d v,d0⟩ W
 rw[List.setIfInBounds_toArray,ht]
 exact h
theorem lU(ho:ops[i]? =some o)(hg:Region.wanted o (yielded ops t.toArray)=false)(hd:o.dst=some d)(ht:t.set d undef=t')(h:wpOpsIn Fence.wide 2 P ops Q rest ⟨t'.toArray,d0⟩ W):wpOpsIn Fence.wide 2 P ops Q (i::rest) ⟨t.toArray,d0⟩ W:=by
 unfold wpOpsIn
 simp only[ho]
 rw[if_neg (by rw[hg];decide)]
 refine⟨fun _ _=>trivial,?_⟩
 rw[hd]
 show wpOpsIn Fence.wide 2 P ops Q rest ⟨t.toArray.setIfInBounds d undef,d0⟩ W
 rw[List.setIfInBounds_toArray,ht]
 exact h
theorem Lz{R:World->Prop}(ho:ops[i]? =some o)(hg:Region.wanted o (yielded ops t.toArray)=true)(hd:o.dst=some d)
  (hr:∀r,(Instr.yield l args).run P W=r->(execOp (Act.eval ⟨t.toArray,d0⟩) o).run P W=r) (hy:YieldAt Fence.wide 1 P l args W fun e B=>e= .returned (.bool true)/\R B) (ht:t.set d (.bool true)=t') (h:∀B,R B->wpOpsIn Fence.wide 2 P ops Q rest ⟨t'.toArray,d0⟩ B):wpOpsIn Fence.wide 2 P ops Q (i::rest) ⟨t.toArray,d0⟩ W:=by
 obtain⟨fn,tmps,assign,body,h1,h2⟩:=hy
 unfold wpOpsIn
 simp only[ho]
 rw[if_pos hg]
 refine⟨fun _ _=>trivial,?_⟩
 show o.uponIn Fence.wide 2 P _ _ Q ((execOp (Act.eval ⟨t.toArray,d0⟩) o).run P W)
 rw[hr _ h1,Oper.uponIn_round]
 refine⟨fun hh=>by simp[Fence.wide] at hh,h2.mono ?_⟩
 rintro e B ⟨rfl,hB⟩
 show wpOpsIn Fence.wide 2 P ops Q rest (Act.put ⟨t.toArray,d0⟩ o.dst (.bool true)) B
 rw[hd]
 show wpOpsIn Fence.wide 2 P ops Q rest ⟨t.toArray.setIfInBounds d (.bool true),d0⟩ B
 rw[List.setIfInBounds_toArray,ht]
 exact h B hB
theorem Fx(h:Q .normal a W):wpOpsIn Fence.wide 2 P ops Q [] a W:=h
end
theorem OD{α:Type}{A B:World}{C:List Nat}{L:List Ent}{J:List Nat->List α->World->Prop}{pre xs:List α}(h:St w bor (eJ J C pre::L) A){C':List Nat}(hj:St A C [eJ J C' xs] B):St w bor (eJ J C' xs::L) B:=by
 have hC:=h.ok (eJ J C pre) (List.mem_cons_self ..)
 have hp:=List.pairwise_cons.1 h.apart
 have hN:=hj.ok (eJ J C' xs) (by simp)
 refine⟨h.upd.join hj.upd (fun i hi=>(hC.own i hi).1),fun e he=>?_,List.pairwise_cons.2 ⟨fun e he k hk hke=>?_,hp.2⟩⟩
 rcases List.mem_cons.1 he with rfl|he'
 refine⟨hN.holds,hN.loc,fun k hk=>⟨?_,(hN.own k hk).2⟩⟩
 rcases(hN.own k hk).1 with h1|h1
 exact(hC.own k h1).1
 exact .inr (Nat.le_trans h.upd.size h1)
 have h2:=h.ok e (List.mem_cons_of_mem _ he')
 exact h2.keep hj.upd (fun k hk hkC=>hp.1 e he' k hkC hk)
 have h2:=h.ok e (List.mem_cons_of_mem _ he)
 rcases(hN.own k hk).1 with h1|h1
 exact hp.1 e he k h1 hke
 have:=(h2.own k hke).2;omega
def nQ(q b:Nat)(PA:Option Addr)(Pc:Nat)(P0:List ShT)(pre:List Nat)(A:World):Prop:=Blk A q 30 #[.pointer (some ⟨b,0,none⟩)]/\∃D GA gc Ps,DkO A b D PA Pc GA gc Ps/\Ps.length=P0.length/\∀j,j∉pre->Ps[j]? =P0[j]?
theorem nQ.c0{A:World}(h:nQ q b PA Pc P0 pre A):A.cell? ⟨q,0,none⟩=some (po b 0):=h.1.cell 0
theorem nQ.c1{A:World}(h:nQ q b PA Pc P0 pre A):A.cell? ⟨b,0,none⟩=some (.slice PA P0.length Pc):=by
 obtain⟨_,D,GA,gc,Ps,hO,hlen,_⟩:=h
 have h1:=hO.blkL.cell 0
 have h2:D.pgs.length=P0.length:=by rw[<-hlen,<-hO.ab,List.length_map]
 rw[h1,<-h2];rfl
theorem nQ.at_{A:World}(h:nQ q b PA Pc P0 pre A){j:Nat}(hj:j∉pre)(ht:P0[j]? =some t):∃Ps:List ShT,At A PA (Ps.flatMap shC)/\Ps[j]? =some t:=by
 obtain⟨_,D,GA,gc,Ps,hO,hlen,hun⟩:=h
 exact⟨Ps,hO.at_,(hun j hj).trans ht⟩
def Md(P0:List ShT)(pre:List Nat)(x:Nat):Prop:=(∃t,P0[x]? =some t/\t.ws≠[])/\∀y∈pre,y<x
def WrZ(P0:List ShT)(xs:List Nat):Prop:=∀j t,P0[j]? =some t->t.ws≠[]->j∈xs
def wrA(PA:Option Addr)(x:Nat):Array Value:=#[.pointer (some ((ad PA).add (x*513)))]
def Ow(P0:List ShT)(C0:List Nat)(J:List Nat->List Nat->World->Prop)(w:World)(e:Ending)(B:World):Prop:=(∃v,e= .returned v)/\∃C xs,St w C0 [eJ J C xs] B/\WrZ P0 xs
theorem Ch(h:wpOpsIn Fence.wide 2 P ops Q (List.range ops.size) a W):(Code.region id ops false).wp P Q a W:=
 (wpIn_wide (n:=2)).1 (wpIn_region h)
theorem y0(l q b:Nat)(PA:Option Addr)(Pc:Nat)(P0:List ShT)(J:List Nat->List Nat->World->Prop)(C0:List Nat)(w:World)(hloc:∀C pre,(eJ J C pre).loc)(hlt:∀k∈C0,k<w.heap.size)(hJ0:J C0 [] w)(hRd:∀C pre A,J C pre A->nQ q b PA Pc P0 pre A)(hY:∀C pre x A,J C pre A->(∀k∈C,k<A.heap.size)->Md P0 pre x->YieldAt Fence.wide 1 P_ l (wrA PA x) A fun e B=>e= .returned (.bool true)/\∃C',St A C [eJ J C' (pre++[x])] B)(hn:P0.length<=400):
  Calls P_ 142 #[.func (.yield l) #[] #[],po q 0] w (Ow P0 C0 J w):=by
 have st0:St w C0 [eJ J C0 []] w:=St.lend (E:=eJ J C0 []) hJ0 (hloc _ _) hlt
 go_enter func142,ntmps142
 have aj:=st0
 refine wq (sqr ?_)
 refine sql (vp b) aj (fun cx=>rL1 (cx.ou 1) (nQ.c0 (hRd _ _ _ (CtxV.holdF cx (cx.init 0 _ rfl) rfl)))) ?_
 refine sqp [.k 5 (vp b),.k 6 (vp b)] ?_
 refine sql (.slice PA P0.length Pc) aj (fun cx=>rL1 (cx.ou 6) (nQ.c1 (hRd _ _ _ (CtxV.holdF cx (cx.init 0 _ rfl) rfl)))) ?_
 refine sqp [.k 8 (vi ((P0.length:Int))),.k 9 (vi 0)] ?_
 refine aa (wp_block ?_)
 refine aQ (fun t_ mz az W=>∃j:Nat,∃Cj:List Nat,∃pre:List Nat,j<=P0.length/\(∀y∈pre,y<j)/\(∀i t,i<j->P0[i]? =some t->t.ws≠[]->i∈pre)/\mz=P0.length-j/\az=⟨(ovr (jv az) [(3,3,1,[]),(5,9,0,[vi ((j:Int))]),(0,10,24,[])] t_).toArray,[]⟩/\St w C0 [eJ J Cj pre] W) (P0.length-0) ?_ ?_
 exact⟨0,C0,[],Nat.zero_le _,(fun y hy=>by cases hy),fun i t hi=>absurd hi (Nat.not_lt_zero _),rfl,(by kernel_rfl),aj.pk [0]⟩
 rintro n7 a7 W7 ⟨j,Cj,pre,hj,hup,hin,rfl,hj_,aW⟩
 refine ovz hj_ fun FU=>?_
 refine wsq [.k 10 (.bool (decide ((j:Int)<(P0.length:Int))))] ?_
 refine aa (wq (wds (fun p6 q6=>?_) fun p6 q6=>?_))
 refine wp_skip (aa (wq (wp_block (wsq [.m 11 9,.m 3 11] ?_))))
 refine aa (wq ?_)
 have hR12_:=hRd _ _ _ (aW.get 0 rfl).holds
 have hjl:j<P0.length:=by omega
 obtain⟨t,htj⟩:=xQ hjl
 have hjn:j∉pre:=fun h_=>by have:=hup j h_;omega
 obtain⟨Ps_,hA_,htk⟩:=hR12_.at_ hjn htj
 have hPsl:=(List.getElem?_eq_some_iff.1 htk).1
 refine Ch ?_
 rcases List.eq_nil_or_concat t.ws with hw_|⟨wl,wz,hw_⟩
 have hwl_:decide ((0:Int)<(t.ws.length:Int))=false:=by rw[hw_];rfl
 refine cg (v:=vp b) rfl rfl rfl (rL1 rfl hR12_.c0) (by dsimp only[List.set]) ?_
 refine cg (v:=vp b) rfl rfl rfl (jZ rfl rfl) (by dsimp only[List.set]) ?_
 refine cg (v:=vp b) rfl rfl rfl (i7 (k:=0) (n:=0) rfl (by kernel_rfl) rfl rfl) (by dsimp only[List.set]) ?_
 refine cg (v:= .slice PA P0.length Pc) rfl rfl rfl (rL1 rfl hR12_.c1) (by dsimp only[List.set]) ?_
 refine cg (v:=vi ((j:Int))) rfl rfl rfl (cM rfl rfl) (by dsimp only[List.set]) ?_
 refine cg (v:= .pointer (some ((ad PA).add (j*513)))) rfl rfl rfl (aD (e:=144) (m:=j) (sz:=513) rfl (by kernel_rfl) (by kernel_rfl) rfl rfl (by omega) (by omega) hA_ (bm (sz:=513) c6 (by decide) (by omega))) (by dsimp only[List.set]) ?_
 refine cg (v:= .pointer (some ((ad PA).add (j*513+512)))) rfl rfl rfl (bn rfl (by kernel_rfl) rfl) (by dsimp only[List.set]) ?_
 refine cg (v:= .slice t.A t.ws.length t.c) rfl rfl rfl (rL1 rfl (At.eltc (f:=shC) (k:=512) c6 hA_ htk (mH t))) (by dsimp only[List.set]) ?_
 refine cg (v:=vi ((t.ws.length:Int))) rfl rfl rfl (qB (e:=142) rfl (by kernel_rfl) rfl) (by dsimp only[List.set]) ?_
 refine cg (v:= .bool false) rfl rfl rfl ((mg (v:= .bool (decide ((0:Int)<(t.ws.length:Int)))) rfl rfl rfl rfl).trans (by rw[hwl_])) (by dsimp only[List.set]) ?_
 refine cg (v:= .bool false) rfl rfl rfl (cM rfl rfl) (by dsimp only[List.set]) ?_
 refine lU rfl rfl rfl (by dsimp only[List.set]) ?_
 refine lU rfl rfl rfl (by dsimp only[List.set]) ?_
 refine lU rfl rfl rfl (by dsimp only[List.set]) ?_
 refine lU rfl rfl rfl (by dsimp only[List.set]) ?_
 refine lU rfl rfl rfl (by dsimp only[List.set]) ?_
 refine lU rfl rfl rfl (by dsimp only[List.set]) ?_
 refine lU rfl rfl rfl (by dsimp only[List.set]) ?_
 refine lU rfl rfl rfl (by dsimp only[List.set]) ?_
 refine lU rfl rfl rfl (by dsimp only[List.set]) ?_
 refine cg (v:= .bool false) rfl rfl rfl (ud rfl rfl rfl) (by dsimp only[List.set]) ?_
 have hup2:∀y∈pre,y<j+1:=fun y hy=>by have:=hup y hy;omega
 have hin2:∀i t,i<j+1->P0[i]? =some t->t.ws≠[]->i∈pre:=fun i t2 hi h1 h2=>by
  by_cases e_:i=j
  subst e_;rw[htj] at h1;cases h1;exact absurd hw_ h2
  exact hin i t2 (by omega) h1 h2
 refine Fx ?_
 refine aa (wcf rfl (wp_skip (aq (aa (sqs [sI 33 ((j:Int)+1) (by omega),.m 9 33] ?_)))))
 refine aa ?_
 refine⟨P0.length-((j+1)),by omega,?_⟩
 exact⟨(j+1),Cj,_,by omega,hup2,hin2,rfl,(by kernel_rfl),aW.pk [0]⟩
 have hwl_:decide ((0:Int)<(t.ws.length:Int))=true:=by rw[hw_];simp
 have hwn_:t.ws≠[]:=by rw[hw_];simp
 refine cg (v:=vp b) rfl rfl rfl (rL1 rfl hR12_.c0) (by dsimp only[List.set]) ?_
 refine cg (v:=vp b) rfl rfl rfl (jZ rfl rfl) (by dsimp only[List.set]) ?_
 refine cg (v:=vp b) rfl rfl rfl (i7 (k:=0) (n:=0) rfl (by kernel_rfl) rfl rfl) (by dsimp only[List.set]) ?_
 refine cg (v:= .slice PA P0.length Pc) rfl rfl rfl (rL1 rfl hR12_.c1) (by dsimp only[List.set]) ?_
 refine cg (v:=vi ((j:Int))) rfl rfl rfl (cM rfl rfl) (by dsimp only[List.set]) ?_
 refine cg (v:= .pointer (some ((ad PA).add (j*513)))) rfl rfl rfl (aD (e:=144) (m:=j) (sz:=513) rfl (by kernel_rfl) (by kernel_rfl) rfl rfl (by omega) (by omega) hA_ (bm (sz:=513) c6 (by decide) (by omega))) (by dsimp only[List.set]) ?_
 refine cg (v:= .pointer (some ((ad PA).add (j*513+512)))) rfl rfl rfl (bn rfl (by kernel_rfl) rfl) (by dsimp only[List.set]) ?_
 refine cg (v:= .slice t.A t.ws.length t.c) rfl rfl rfl (rL1 rfl (At.eltc (f:=shC) (k:=512) c6 hA_ htk (mH t))) (by dsimp only[List.set]) ?_
 refine cg (v:=vi ((t.ws.length:Int))) rfl rfl rfl (qB (e:=142) rfl (by kernel_rfl) rfl) (by dsimp only[List.set]) ?_
 refine cg (v:= .bool true) rfl rfl rfl ((mg (v:= .bool (decide ((0:Int)<(t.ws.length:Int)))) rfl rfl rfl rfl).trans (by rw[hwl_])) (by dsimp only[List.set]) ?_
 refine cg (v:= .bool true) rfl rfl rfl (cM rfl rfl) (by dsimp only[List.set]) ?_
 refine cg (v:= .func (.yield l) #[] #[]) rfl rfl rfl (cM rfl rfl) (by dsimp only[List.set]) ?_
 refine cg (v:=vp b) rfl rfl rfl (rL1 rfl hR12_.c0) (by dsimp only[List.set]) ?_
 refine cg (v:=vp b) rfl rfl rfl (jZ rfl rfl) (by dsimp only[List.set]) ?_
 refine cg (v:=vp b) rfl rfl rfl (i7 (k:=0) (n:=0) rfl (by kernel_rfl) rfl rfl) (by dsimp only[List.set]) ?_
 refine cg (v:= .slice PA P0.length Pc) rfl rfl rfl (rL1 rfl hR12_.c1) (by dsimp only[List.set]) ?_
 refine cg (v:=vi ((j:Int))) rfl rfl rfl (cM rfl rfl) (by dsimp only[List.set]) ?_
 refine cg (v:= .pointer (some ((ad PA).add (j*513)))) rfl rfl rfl (aD (e:=144) (m:=j) (sz:=513) rfl (by kernel_rfl) (by kernel_rfl) rfl rfl (by omega) (by omega) hA_ (bm (sz:=513) c6 (by decide) (by omega))) (by dsimp only[List.set]) ?_
 have hjj_:=aW.get 0 rfl
 have hyy_:=hY Cj pre j _ hjj_.holds (fun k hk=>(hjj_.own k hk).2) ⟨⟨t,htj,hwn_⟩,fun y hy=>hup y hy⟩
 refine Lz (args:=wrA PA j) (R:=fun B=>∃C',St _ Cj [eJ J C' (pre++[j])] B) rfl rfl rfl (fun r hr=>Iu (args:=wrA PA j) rfl rfl rfl (av rfl) hr) hyy_ (by dsimp only[List.set]) fun B0 ⟨C2,hJ2⟩=>?_
 have gv:=OD (L:=[]) aW hJ2
 refine cg (v:= .bool false) rfl rfl rfl (Bl rfl rfl rfl) (by dsimp only[List.set]) ?_
 refine cg (v:= .bool false) rfl rfl rfl (uI rfl rfl rfl) (by dsimp only[List.set]) ?_
 have hup2:∀y∈pre++[j],y<j+1:=fun y hy=>by
  rcases List.mem_append.1 hy with h_|h_
  have:=hup y h_;omega
  rw[List.mem_singleton] at h_;omega
 have hin2:∀i t,i<j+1->P0[i]? =some t->t.ws≠[]->i∈pre++[j]:=fun i t2 hi h1 h2=>by
  by_cases e_:i=j
  subst e_;simp
  exact List.mem_append_left _ (hin i t2 (by omega) h1 h2)
 refine Fx ?_
 refine aa (wcf rfl (wp_skip (aq (aa (sqs [sI 33 ((j:Int)+1) (by omega),.m 9 33] ?_)))))
 refine aa ?_
 refine⟨P0.length-((j+1)),by omega,?_⟩
 exact⟨(j+1),C2,_,by omega,hup2,hin2,rfl,(by kernel_rfl),gv.pk [0]⟩
 refine wp_exit (al (al (bf ?_)))
 refine bpe (.tuple #[]) (by simp[results,results142,go_sem]) ?_
 exact⟨⟨_,rfl⟩,Cj,pre,aW,fun i t h1 h2=>hin i t (by have:=(List.getElem?_eq_some_iff.1 h1).1;omega) h1 h2⟩
theorem qJ(q b:Nat)(PA:Option Addr)(Pc:Nat)(P0:List ShT)(hn:P0.length<=400):LC P_ 142 #[po q 0] (wrA PA) (Md P0) (nQ q b PA Pc P0) (WrZ P0):=fun l J W C0 hloc hlt hJ0 hRd hY=>
 callsIn_wide.2 (y0 l q b PA Pc P0 J C0 W hloc hlt hJ0 hRd hY hn)
end
section
open Go.RowKit
def syS(x:ShD):ShD:=⟨rdT x,[]⟩
def syD(D:DkM):DkM:={D with pgs:=D.pgs.map syS}
def pbc:Value->Nat
 | .func _ _ cap=>pb (cap.getD 0 undef)
 |_=>0
theorem DkO.ofE{A:World}{D:DkM}{GA:Option Addr}{gc:Nat}(hlen:Ps2.length=D.pgs.length)(h1:Blk A b 100 (dkC D PA Pc GA gc))
  (h2:(eO 144 513 (.slice PA D.pgs.length Pc) D.pgs.length (Ps2.flatMap shC)).holds A) (h3:(eO 5 1 (.slice GA D.log.size gc) D.log.size ((ba D.log).map (Value.int .u8))).holds A) (h4:(eWs Ps2).holds A):
  DkO A b {D with pgs:=Ps2.map dV} PA Pc GA gc Ps2:=by
 refine⟨?_,At.of_ownN h2,rfl,l8.own h3,fun p hp=>Er h4 hp⟩
 rw[dkC] at h1 |-
 dsimp only
 rw[List.length_map,hlen];exact h1
theorem Kw{R:ShD->ShD->Prop}{A:List ShT}{t2:ShT}{pre:List Nat}(hn:A.length∉pre)(hun:∀j,j∉pre->(A++t::B)[j]? =P0[j]?)(hdo:∀j∈pre,∀u v,P0[j]? =some u->(A++t::B)[j]? =some v->R (dV u) (dV v))(hR:R (dV t) (dV t2)):
  (∀j,j∉pre++[A.length]->(A++t2::B)[j]? =P0[j]?)/\∀j∈pre++[A.length],∀u v,P0[j]? =some u->(A++t2::B)[j]? =some v->R (dV u) (dV v):=by
 have hne:∀j,j≠A.length->(A++t2::B)[j]? =(A++t::B)[j]? :=fun j hj=>by
  rcases Nat.lt_or_ge j A.length with h|h
  rw[List.getElem?_append_left h,List.getElem?_append_left h]
  rw[List.getElem?_append_right h,List.getElem?_append_right h]
  obtain⟨m,hm⟩:∃m,j-A.length=m+1:=⟨j-A.length-1,by omega⟩
  rw[hm];rfl
 have hat:∀x:ShT,(A++x::B)[A.length]? =some x:=fun x=>by rw[List.getElem?_append_right (Nat.le_refl _),Nat.sub_self];rfl
 refine⟨fun j hj=>?_,fun j hj u v hu hv=>?_⟩
 have h1:j∉pre/\j≠A.length:=⟨fun h=>hj (List.mem_append_left _ h),fun h=>hj (by simp[h])⟩
 rw[hne j h1.2];exact hun j h1.1
 by_cases e:j=A.length
 subst e
 rw[hat] at hv
 have h2:=hun _ hn
 rw[hat,hu] at h2
 cases hv;cases h2
 exact hR
 rw[hne j e] at hv
 refine hdo j ?_ u v hu hv
 rcases List.mem_append.1 hj with h|h
 exact h
 exact absurd (List.mem_singleton.1 h) e
theorem KV{R:ShD->ShD->Prop}{Ps:List ShT}{xs:List Nat}(hun:∀j,j∉xs->Ps2[j]? =Ps[j]?)(hdo:∀j∈xs,∀u v,Ps[j]? =some u->Ps2[j]? =some v->R (dV u) (dV v))(hZ:WrZ Ps xs)(h0:∀x:ShD,x.ws=[]->R x x):
  ∀(j:Nat) x y,(Ps.map dV)[j]? =some x->(Ps2.map dV)[j]? =some y->R x y:=fun j x y hx hy=>by
 rw[List.getElem?_map] at hx hy
 obtain⟨u,hu,rfl⟩:=Option.map_eq_some_iff.1 hx
 obtain⟨v,hv,rfl⟩:=Option.map_eq_some_iff.1 hy
 by_cases h:j∈xs
 exact hdo j h u v hu hv
 rw[hun j h,hu] at hv
 cases hv
 refine h0 _ ?_
 by_cases hw:u.ws=[]
 exact hw
 exact absurd (hZ j u hu hw) h
theorem JR(x:ShD)(h:x.ws=[]):x=syS x:=by
 obtain⟨s,ws⟩:=x
 dsimp only at h
 subst h;rfl
theorem K9{Ps:List ShT}(hl:Ps2.length=Ps.length)(h:∀(j:Nat) x y,(Ps.map dV)[j]? =some x->(Ps2.map dV)[j]? =some y->y=syS x):Ps2.map dV=(Ps.map dV).map syS:=by
 apply List.ext_getElem?
 intro j
 rcases hx:(Ps.map dV)[j]? with _|x
 have h1:=List.getElem?_eq_none_iff.1 hx
 rw[List.getElem?_map (f:=syS),hx,List.getElem?_eq_none (by rw[List.length_map] at h1 |-;omega)];rfl
 have h1:=(List.getElem?_eq_some_iff.1 hx).1
 obtain⟨y,hy⟩:∃y,(Ps2.map dV)[j]? =some y:=⟨_,List.getElem?_eq_getElem (by rw[List.length_map] at h1 |-;omega)⟩
 rw[hy,List.getElem?_map (f:=syS),hx,h j x y hx hy];rfl
theorem qF(b:Nat)(w:World):
  Calls P_ 84 #[po b 0] w ((fun w (e:Ending) (w':World)=>∃q,e= .returned (.func (.func 142) #[] #[po q 0])/\St w [] [eB q 30 #[po b 0]] w') w):=by
 go_enter func84,ntmps84
 have aj:=St.start w
 refine wq (sqr ?_)
 refine bX #[vp b] aj fun ay W1 ax=>?_
 refine sqp [.k 2 (Go.Value.nilFunc)] ?_
 refine aa (wq (sqr ?_))
 refine sqv (.func (.func 142) #[] #[vp ay]) ax (by
   exact sv0 rfl rfl rfl rfl rfl (fun _ _ _ h=>h) fun c g W X cx=>by
    have zQ:c (.tmp 1)=vp ay:=(cx.ou 1)
    simp[go_sem,Instr.makeFunc,zQ]) fun W3 aU=>?_
 refine sqp [.m 2 3] ?_
 exact aa (wp_ret (bpr (.func (.func 142) #[] #[vp ay]) (ag results84 rpt) (⟨_,rfl,aU⟩)))
theorem MJ(A B:List ShT)(t:ShT)(x:H5):qI ((A++t::B).flatMap shC) (A.length*513) (hvC x)=(A++⟨x,t.A,t.c,t.ws⟩::B).flatMap shC:=by
 have hl:(A.flatMap shC).length=A.length*513:=kt c6 A
 have e1:(A++t::B).flatMap shC=A.flatMap shC++(hvC t.s++([.slice t.A t.ws.length t.c]++B.flatMap shC)):=by rw[List.flatMap_append,List.flatMap_cons,shC,List.append_assoc]
 have e2:(A++⟨x,t.A,t.c,t.ws⟩::B).flatMap shC=A.flatMap shC++(hvC x++([.slice t.A t.ws.length t.c]++B.flatMap shC)):=by rw[List.flatMap_append,List.flatMap_cons,shC,List.append_assoc]
 rw[e1,e2,<-hl,sG _ _ _ _ (by rw[cH,cH])]
theorem Ii(b b2:Nat)(D:DkM)(fp:List Nat)(w:World)(hB:(eDk b D fp).holds w)(hlt:∀k∈fp,k<w.heap.size)(h2:Blk w b2 30 #[po b 0])(n2:b2∉fp)(hw:∀x∈D.pgs,x.ws.length<=1000000000)(hn:D.pgs.length<=400):
  Calls P_ 137 #[po b2 0] w (mq b (syD D) fp w):=by
 have st1:=St.lend hB (dm _ _ _) hlt
 obtain⟨PA,Pc,GA,gc,Ps,Qs,hps,hsub,hfp,hap,hall⟩:=hB
 have st0:=St.unpack st1 hfp hall hap
 subst hsub
 have hPl:Qs.length=D.pgs.length:=by rw[<-hps,List.length_map]
 obtain⟨Ps,rfl⟩:∃z,z=Qs:=⟨_,rfl⟩
 have st2:St w fp [eB b 100 #[.slice PA D.pgs.length Pc,.slice GA D.log.size gc,.int .i64 ((D.fl:Int)),.bool D.off,.bool D.armed,.int .i64 D.left],eO 144 513 (.slice PA D.pgs.length Pc) D.pgs.length (Ps.flatMap shC),eO 5 1 (.slice GA D.log.size gc) D.log.size ((ba D.log).map (Value.int .u8)),eWs Ps] w:=st0
 refine(callsIn_wide (n:=3)).1 (callsIn_of_wp_marks func137 rfl trivial (wpIn_wide.2 ?_) rfl)
 simp only[ntmps137,List.size_toArray,List.length_cons,List.length_nil,Nat.reduceAdd,Nat.reduceSub,Array.replicate_succ,Array.replicate_zero,List.push_toArray,List.append_toArray,List.nil_append,List.cons_append]
 have aj:=st2
 refine wq (aB [0,1] [] [[],[4]] [] [.c 2 (vp b),.a 3] (fun ix p g X=>match ix with|0=>True|1=>p 3= .func (.func 142) #[] #[vp (pbc (g 3))]/\X 4=eB (pbc (g 3)) 30 #[vp b]|_=>True) [0,1,2,3,4] [0,1] [(2,0,2,4)] aj ?_ ?_ ?_)
 exact fun ix _ _ _ _ _ _ hs hb hx h=>match ix,h with
 |1,h=>by dsimp only;rw[<-hs 3 rfl,<-hb 3 rfl,<-hx 4 rfl];exact h
 |0,_|_+2,_=>trivial
 refine⟨?_,?_,trivial⟩
 exact xs4 rfl id fun cx=>rL1 (cx.ou 0) (Blk.cell (h2.upd cx.upd n2) 0)
 refine svA fun C g W X cx=>?_
 refine ak.call (rCF (args:=#[vp b]) cx.sees (av (cx.an 0))) ?_
 refine(qF b _).mono ?_
 rintro e W1 ⟨q4,rfl,aM⟩
 refine⟨_,rfl,vV [eB q4 30 #[vp b]] rfl rfl aM (fun p E X' hs hb hv hN=>?_)⟩
 have aH:=(hv 3 rfl).1;have aO:=(hv 3 rfl).2
 exact⟨aH.trans (by rw[aO];rfl),(by rw[aO];exact(List.cons.inj hN).1)⟩
 intro p g X W1 hD ax fr aC
 simp only[exq 4 ((dTn (hD 1 lq)).2)] at ax
 simp only[ed 3 ((dTn (hD 1 lq)).1)] at aC
 generalize pbc (g 3)=od at ax aC
 clear hD;subst aC;clear p g X
 refine aa (wp_block ?_)
 have MS:=ax.pick [0,1,2,3,4] (by decide) rfl
 refine uc (α:=Nat) MS rfl (enters_of func142 (by kernel_rfl) rfl) (encs:=wrA PA) (qJ od b PA Pc Ps (by omega)) (fun _=>rfl) (fun pre L=>∃Ps2:List ShT,Ps2.length=D.pgs.length/\(∀j,j∉pre->Ps2[j]? =Ps[j]?)/\(∀j∈pre,∀u v,Ps[j]? =some u->Ps2[j]? =some v->dV v=syS (dV u))/\L=[eB b 100 #[.slice PA D.pgs.length Pc,.slice GA D.log.size gc,vi ((D.fl:Int)),.bool D.off,.bool D.armed,vi D.left],eO 144 513 (.slice PA D.pgs.length Pc) D.pgs.length (Ps2.flatMap shC),eO 5 1 (.slice GA D.log.size gc) D.log.size ((ba D.log).map (Value.int .u8)),eWs Ps2,eB od 30 #[vp b]]) ⟨Ps,hPl,fun j _=>rfl,(fun j hj=>by cases hj),rfl⟩ ?_ (fun xx a_ E_=>a_=⟨([vp b2,.pointer (some ((ad PA).add (xx*513))),vp b,.func (.func 142) #[] #[vp od],.pointer (some ((ad PA).add (xx*513))),undef,undef,undef,undef,undef,undef,undef,undef,undef,undef,undef,undef,undef,undef,undef,undef,undef,undef]).toArray,[]⟩/\E_=e00) (fun xx=>[vp b2,undef,vp b,.func (.func 142) #[] #[vp od],.pointer (some ((ad PA).add (xx*513))),undef,undef,undef,undef,undef,undef,undef,undef,undef,undef,undef,undef,undef,undef,undef,undef,undef,undef]) (fun xx=>by kernel_rfl) ?_ ?_ ?_
 rintro pre L A ⟨Ps2,hl2,hun2,hdo2,rfl⟩ hA_
 exact⟨hA_ (eB od 30 #[vp b]) (by simp),_,GA,gc,Ps2,DkO.ofE hl2 (hA_ (eB b 100 #[.slice PA D.pgs.length Pc,.slice GA D.log.size gc,vi ((D.fl:Int)),.bool D.off,.bool D.armed,vi D.left]) (by simp)) (hA_ (eO 144 513 (.slice PA D.pgs.length Pc) D.pgs.length (Ps2.flatMap shC)) (by simp)) (hA_ (eO 5 1 (.slice GA D.log.size gc) D.log.size ((ba D.log).map (Value.int .u8))) (by simp)) (hA_ (eWs Ps2) (by simp)),by omega,hun2⟩
 intro rl xx W K hK;exact uo rfl rfl rfl (hK _ _ e00 ⟨rfl,rfl⟩ (St.e00 W)) (by kernel_rfl)
 rintro rl pre xx W4 L4 a4 E4 ⟨Ps2,hl2,hun2,hdo2,rfl⟩ hPx ⟨rfl,rfl⟩ Jt
 have aZ:St W4 (fps ([eB b 100 #[.slice PA D.pgs.length Pc,.slice GA D.log.size gc,vi ((D.fl:Int)),.bool D.off,.bool D.armed,vi D.left],eO 144 513 (.slice PA D.pgs.length Pc) D.pgs.length (Ps2.flatMap shC),eO 5 1 (.slice GA D.log.size gc) D.log.size ((ba D.log).map (Value.int .u8)),eWs Ps2,eB od 30 #[vp b]]++[e00])) [eB b 100 #[.slice PA D.pgs.length Pc,.slice GA D.log.size gc,vi ((D.fl:Int)),.bool D.off,.bool D.armed,vi D.left],eO 144 513 (.slice PA D.pgs.length Pc) D.pgs.length (Ps2.flatMap shC),eO 5 1 (.slice GA D.log.size gc) D.log.size ((ba D.log).map (Value.int .u8)),eWs Ps2,eB od 30 #[vp b],e00] W4:=Jt
 clear Jt
 obtain⟨⟨t,ht0,hwn⟩,hlt_⟩:=hPx
 have hxn:xx∉pre:=fun h_=>Nat.lt_irrefl _ (hlt_ xx h_)
 have htk:=(hun2 xx hxn).trans ht0
 obtain⟨A,B,rfl,rfl⟩:=y6 htk
 have ho5_:=St.outW (L:=[eB b 100 #[.slice PA D.pgs.length Pc,.slice GA D.log.size gc,vi ((D.fl:Int)),.bool D.off,.bool D.armed,vi D.left],eO 144 513 (.slice PA D.pgs.length Pc) D.pgs.length ((A++t::B).flatMap shC),eO 5 1 (.slice GA D.log.size gc) D.log.size ((ba D.log).map (Value.int .u8)),eB od 30 #[vp b],e00]) (aZ.pick [0,1,2,4,5,3] (by decide) rfl)
 simp only[List.cons_append,List.nil_append,nT] at ho5_
 have hwt:t.ws.length<=1000000000:=hw _ (by rw[<-hps];exact List.mem_map.2 ⟨t,List.mem_of_getElem? ht0,rfl⟩)
 have hAl:A.length<D.pgs.length:=by have:=(List.getElem?_eq_some_iff.1 htk).1;omega
 obtain⟨k2,hk2⟩:∃k2:Nat,t.ws.length=k2+1:=⟨t.ws.length-1,by have:=List.length_pos_iff.2 hwn;omega⟩
 obtain⟨x,hxk⟩:∃x,t.ws[k2]? =some x:=⟨_,List.getElem?_eq_getElem (by omega)⟩
 refine wpIn_block (xI [0,0,0,4,12,28,0,64,192,448,960,1984,4092,8188,16381,32765,65533,131071,262143,524287] [[],[],[],[],[],[1],[],[],[],[1],[],[],[6],[6],[],[],[1],[],[],[7]] [[],[],[],[],[],[],[],[],[],[],[],[],[],[],[],[],[7],[],[],[8]] [[],[],[],[],[],[],[],[],[],[],[],[],[],[],[],[],[1],[],[],[7]] [.k 5 (.pointer (some ((ad PA).add (A.length*513)))),.k 6 (.pointer (some ((ad PA).add (A.length*513)))),.k 7 (.pointer (some ((ad PA).add (A.length*513)))),.k 8 (.pointer (some ((ad PA).add (A.length*513)))),.c 9 (.pointer (some ((ad PA).add (A.length*513+512)))),.c 10 (.slice t.A t.ws.length t.c),.k 11 (.pointer (some ((ad PA).add (A.length*513)))),.k 12 (.pointer (some ((ad PA).add (A.length*513)))),.c 13 (.pointer (some ((ad PA).add (A.length*513+512)))),.c 14 (.slice t.A t.ws.length t.c),.k 15 (vi ((t.ws.length:Int))),tJ 16 ((t.ws.length:Int)-1) (k2:Int) (by omega) (by omega),.c 17 (.pointer (some ((ad t.A).add (k2*512)))),.c 18 (.agg (hvC x).toArray),.k 19 (.pointer (some ((ad PA).add (A.length*513)))),.c 20 (.pointer (some ((ad PA).add (A.length*513+0)))),.n,.k 21 (.pointer (some ((ad PA).add (A.length*513)))),.c 22 (.pointer (some ((ad PA).add (A.length*513+512)))),.n] (fun ix p g X=>match ix with|0|1|2|3|4|5|6|7|8|9|10|11|12|13|14|15=>True|16=>X 7=eO 144 513 (.slice PA D.pgs.length Pc) D.pgs.length ((A++⟨x,t.A,t.c,t.ws⟩::B).flatMap shC)|17|18=>True|19=>X 8=eO 144 513 (.slice PA D.pgs.length Pc) D.pgs.length ((A++⟨x,none,0,[]⟩::B).flatMap shC)|_=>True) [0,2,3,4,5,6,8] [4,5,8,9,12,13,15,16,18,19] [(5,0,19,23)] ho5_ ?_ ?_ ?_)
 exact fun ix _ _ _ _ _ _ hs hb hx h=>match ix,h with
 |16,h=>by dsimp only;rw[<-hx 7 rfl];exact h
 |19,h=>by dsimp only;rw[<-hx 8 rfl];exact h
 |0,_|1,_|2,_|3,_|4,_|5,_|6,_|7,_|8,_|9,_|10,_|11,_|12,_|13,_|14,_|15,_|17,_|18,_|_+20,_=>trivial
 refine⟨?_,?_,?_,?_,?_,?_,?_,?_,?_,?_,trivial⟩
 exact xs4 rfl id fun cx=>bn rfl (by kernel_rfl) (cx.an 3)
 exact xs4 rfl id fun cx=>rL1 (cx.an 4) (At.eltc (f:=shC) (k:=512) c6 (At.of_ownN (cx.ri 1 rfl)) htk (mH t))
 exact xs4 rfl id fun cx=>bn rfl (by kernel_rfl) (cx.an 7)
 exact xs4 rfl id fun cx=>rL1 (cx.an 8) (At.eltc (f:=shC) (k:=512) c6 (At.of_ownN (cx.ri 1 rfl)) htk (mH t))
 exact xs4 rfl id fun cx=>aD (e:=142) (m:=k2) (sz:=512) rfl (by kernel_rfl) (by kernel_rfl) (cx.an 5) (cx.an 11) (by omega) (by omega) (At.of_ownN (cx.ri 6 rfl)) (by have h_:=kt (f:=hvC) (sz:=512) cH t.ws;show 0<(List.flatMap hvC t.ws).length;omega)
 exact xs4 rfl id fun cx=>rLE (f:=hvC) (m:=k2) (sz:=512) (off:=0) (n:=512) (cx.an 12) (List.size_toArray.trans (cH _)) cH (At.of_ownN (cx.ri 6 rfl)) hxk (fun k hk=>by rw[List.getElem?_toArray,Nat.zero_add])
 exact xs4 rfl id fun cx=>bn rfl (by kernel_rfl) (cx.an 14)
 refine svA fun C g W X cx=>?_
 exact sD (m:=A.length*513) (n:=D.pgs.length) (sz:=513) (k:=512) rfl (cx.an 15) (cx.an 13) (by kernel_rfl) (List.size_toArray.trans (cH _)) (List.all_eq_true.2 (rJ _)) cx (cx.init 1 _ rfl) rfl (by omega) (by decide) rfl (MJ A B t x) rfl rfl (fun _ _ _ _ _=>id)
 exact xs4 rfl id fun cx=>bn rfl (by kernel_rfl) (cx.an 17)
 refine svA fun C g W X cx=>?_
 exact qK (m:=A.length*513+512) (n:=D.pgs.length) (sz:=513) rfl (cx.an 18) (cx.co _) (by kernel_rfl) rfl rfl cx (dTn (cx.an 16)) rfl (by omega) rfl (Ea A B _ none 0 [] 0 rfl) rfl rfl (fun _ _ _ _ _=>id)
 intro p g X W6 hD bJ fr aC
 simp only[exq 8 ((dTn (hD 19 lq)))] at bJ
 clear hD;subst aC;clear p g X
 refine aq ?_
 have hm7_:=fm (bJ.pick [0,6,1,2,4] (by decide) rfl) 142 512
 have hm7b_:=St.inW (L:=[eB b 100 #[.slice PA D.pgs.length Pc,.slice GA D.log.size gc,vi ((D.fl:Int)),.bool D.off,.bool D.armed,vi D.left],eO 144 513 (.slice PA D.pgs.length Pc) D.pgs.length ((A++⟨x,none,0,[]⟩::B).flatMap shC),eO 5 1 (.slice GA D.log.size gc) D.log.size ((ba D.log).map (Value.int .u8)),eB od 30 #[vp b]]) (A:=A) (B:=B) (t:=(⟨x,none,0,[]⟩:ShT)) hm7_
 simp only[List.cons_append,List.nil_append] at hm7b_
 obtain⟨hun3,hdo3⟩:=Kw (R:=fun x y=>y=syS x) (t2:=(⟨x,none,0,[]⟩:ShT)) hxn hun2 hdo2 (by rw[syS,yZ hxk hk2];rfl)
 exact⟨rfl,_,⟨(A++⟨x,none,0,[]⟩::B),by rw[<-hl2];simp,hun3,hdo3,rfl⟩,hm7b_.pick [0,1,2,4,3] (by decide) rfl⟩
 rintro D2 UH L2 XS_ ⟨Ps2,hl2,hun2,hdo2,rfl⟩ hZ_ Ju
 simp only[List.cons_append,List.nil_append] at Ju
 refine aq ?_
 refine zl (L:=[eB b 100 #[.slice PA D.pgs.length Pc,.slice GA D.log.size gc,vi ((D.fl:Int)),.bool D.off,.bool D.armed,vi D.left],eO 144 513 (.slice PA D.pgs.length Pc) D.pgs.length (Ps2.flatMap shC),eO 5 1 (.slice GA D.log.size gc) D.log.size ((ba D.log).map (Value.int .u8)),eWs Ps2,eB od 30 #[vp b]]) (Ju.pick [0,1,2,3,4,5] (by decide) rfl) fun Wt8 ht8=>?_
 refine⟨.tuple #[],(by simp[results,results137,go_sem]),?_⟩
 have hsy_:=K9 (by omega) (KV (R:=fun x y=>y=syS x) hun2 hdo2 hZ_ JR)
 rw[hps] at hsy_
 have hpl_:(syD D).pgs.length=D.pgs.length:=List.length_map ..
 exact⟨rfl,St.dk (L:=[]) (D:=syD D) (PA:=PA) (Pc:=Pc) (GA:=GA) (gc:=gc) (Ps:=Ps2) (Qs:=Ps2) (by rw[dkL,dkC,hpl_];exact ht8.pick [0,1,2,3] (by decide) rfl) hsy_ rfl⟩
theorem EE(b b2:Nat)(D:DkM)(fp:List Nat)(w:World)(hB:(eDk b D fp).holds w)(hlt:∀k∈fp,k<w.heap.size)(h2:Blk w b2 30 #[po b 0])(n2:b2∉fp)(hw:∀x∈D.pgs,x.ws.length<=1000000000)(hn:D.pgs.length<=400):Calls P_ 126 #[po b 0,.func (.func 131) #[] #[],.func (.func 137) #[] #[po b2 0]] w (bT b (opD D 0 syD) fp w):=
 Bi b D 0 syD 131 137 _ _ fp w hB hlt (by kernel_rfl) (by kernel_rfl) (fun W hU hA=>w8 W) fun he W fp1 hU hh hl ho=>Ii b b2 _ fp1 W hh hl (h2.upd hU n2) (fun h10=>(ho b2 h10).elim n2 fun h11=>by have:=h2.lt;omega) hw hn
theorem Ei(b:Nat)(D:DkM)(fp:List Nat)(w:World)(hB:(eDk b D fp).holds w)(hlt:∀k∈fp,k<w.heap.size)(hw:∀x∈D.pgs,x.ws.length<=1000000000)(hn:D.pgs.length<=400):
  Calls P_ 69 #[po b 0] w (bT b (opD D 0 syD) fp w):=by
 have st1:St w fp [eDk b D fp] w:=St.lend hB (dm _ _ _) hlt
 go_enter func69,ntmps69
 have aj:=st1
 refine wq (sqr ?_)
 refine bX #[vp b] aj fun ay W1 ax=>?_
 refine sqp [.k 2 (vi 0)] ?_
 refine aa (wq (sqr (am 1 ax ?_)))
 refine sqv (.func (.func 137) #[] #[vp ay]) ax (by
   exact sv0 rfl rfl rfl rfl rfl (fun _ _ _ h=>h) fun c g W X cx=>by
    have zQ:c (.tmp 1)=vp ay:=(cx.ou 1)
    simp[go_sem,Instr.makeFunc,zQ]) fun W4 aZ=>?_
 refine bF (fun X_=>X_.fp) (vi ((opD D 0 syD).2)) (fun qZ=>eDk b ((opD D 0 syD).1) qZ) 0 aZ (by
   refine svA fun c g W X cx=>?_
   refine ak.call (rCF (args:=#[vp b,.func (.func 131) #[] #[],.func (.func 137) #[] #[vp ay]]) cx.sees (dH (cx.ou 3) (cx.sees.func _) (cx.ou 4))) ?_
   refine(EE b _ D _ _ (CtxV.holdF cx (cx.init 0 _ rfl) rfl) (CtxV.ltF cx (cx.init 0 _ rfl) rfl) (cx.bi 1 rfl) (by have h_:=cx.ap 1 0 rfl rfl (by decide);rw[(cx.init 1 _ rfl),(cx.init 0 _ rfl)] at h_;exact h_ _ (List.mem_singleton.2 rfl)) hw hn).mono ?_
   rintro e W1 ⟨rfl,fp4,aM⟩
   refine⟨_,rfl,aI (E:=eDk b D fp) [eDk b (opD D 0 syD).1 fp4] (cx.init 0 _ rfl) rfl rfl aM (fun n j X' hs hb hv hN=>?_)⟩
   have aH:=(hv 5 rfl).1;have aO:=(hv 5 rfl).2
   exact⟨aH.trans rfl,cF ((List.cons.inj hN).1)⟩) fun qZ W5 aK=>?_
 refine sqp [.m 2 5] ?_
 exact aa (wp_ret (bpr (vi ((opD D 0 syD).2)) (ag results69 rpt) (bT.of rfl (aK.pick [0] (by decide) rfl))))
end
section
open Go.RowKit
def edA(n lsn:Int)(p:PgS)(e:EdT):PgS:=if e.1=n/\doE p e lsn=0 then doV p e lsn else p
def bj(n lsn:Int)(p:PgS)(l:List EdT):PgS:=l.foldl (edA n lsn) p
def af(L:List RecM)(n:Int):PgS:=L.zipIdx.foldl (fun p x=>bj n ((x.2:Int)+1) p x.1.eds) bp
def be(L:List RecM):Nat:=L.zipIdx.foldl (fun f x=>if x.1.kind=9 then x.2+1 else f) 0
def eT(L:List RecM)(n:Int):Bool:=L.foldl (fun b r=>if r.kind=9 then false else b||(r.kind==8&&r.tbl==n)) false
theorem gk(L:List RecM)(r:RecM)(n:Int):af (L++[r]) n=bj n ((L.length:Int)+1) (af L n) r.eds:=by
 rw[af,List.zipIdx_append,List.foldl_append]
 simp[af]
theorem fc(L:List RecM)(r:RecM):be (L++[r])=if r.kind=9 then L.length+1 else be L:=by
 rw[be,List.zipIdx_append,List.foldl_append]
 simp[be]
theorem nz(L:List RecM)(r:RecM)(n:Int):eT (L++[r]) n=if r.kind=9 then false else (eT L n||(r.kind==8&&r.tbl==n)):=by
 rw[eT,List.foldl_append];rfl
theorem FA{n:Int}{p:PgS}{e:EdT}(h:bI p):bI (edA n lsn p e):=by
 unfold edA
 split
 rename_i h1;exact kC h1.2
 exact h
theorem sq{n:Int}{l:List EdT}:∀{p:PgS},bI p->bI (bj n lsn p l):=by
 induction l with
 |nil=>intro p h;exact h
 |cons e l ih=>intro p h;exact ih (FA h)
theorem oS{P:List RecM->Prop}(h0:P [])(hs:∀L r,P L->P (L++[r]))(L:List RecM):P L:=by
 have h:∀k (L:List RecM),L.length=k->P L:=by
  intro k
  induction k with
  |zero=>intro L h;rw[List.eq_nil_of_length_eq_zero h];exact h0
  |succ k ih=>
   intro L h
   rcases List.eq_nil_or_concat L with rfl|⟨L',x,rfl⟩
   cases h
   rw[List.concat_eq_append] at h |-
   exact hs L' x (ih L' (by simpa using h))
 exact h _ L rfl
theorem fa(L:List RecM)(n:Int):bI (af L n):=by
 induction L using oS with
 |h0=>exact yn
 |hs L r ih=>rw[gk];exact sq ih
theorem s8{n:Int}{p:PgS}{l:List EdT}(h:∀e∈l,e.1≠n):bj n lsn p l=p:=by
 induction l generalizing p with
 |nil=>rfl
 |cons e l ih=>
  show bj n lsn (edA n lsn p e) l=p
  rw[edA,if_neg (fun h1=>h e (by simp) h1.1)]
  exact ih fun x hx=>h x (by simp[hx])
theorem J8(p:PgS)(e:EdT)(n:Int):(doV p e n).2.1=n:=by unfold doV;split<;>rfl
theorem Cu{L L':List RecM}{n:Int}(h:∀r∈L',∀e∈r.eds,e.1≠n):af (L++L') n=af L n:=by
 induction L' using oS with
 |h0=>rw[List.append_nil]
 |hs L' r ih=>
  rw[<-List.append_assoc,gk,s8 (h r (by simp))]
  exact ih fun x hx=>h x (by simp[hx])
end
section
open Go.RowKit
def gh(p:PgS)(e:EdT)(n:Int)(w:World):Ending->World->Prop:=
 if doE p e n=0 then dS (doV p e n).1 (doV p e n).2.1 (doV p e n).2.2 0 w else dS 0 0 [] (doE p e n) w
theorem gh.bad{p:PgS}{e:EdT}{n:Int}{e':Ending}(h:doE p e n=er)(h0:er≠0)(hp:dS 0 0 [] er w e' w'):gh p e n w e' w':=by
 subst h
 rw[gh,if_neg h0];exact hp
theorem gh.good{p:PgS}{e:EdT}{n:Int}{e':Ending}{q:PgS}(h:doE p e n=0)(hq:doV p e n=q)(hp:dS q.1 q.2.1 q.2.2 0 w e' w'):gh p e n w e' w':=by
 subst hq
 rw[gh,if_pos h];exact hp
theorem K6{k l slot:Int}(he:di k l ss slot s=0)(hc:Calls P_ f args w (eS k l ss slot s w)):Calls P_ f args w (dS k l (ae (aX ss slot.toNat s)) 0 w):=by
 rw[eS,if_pos he] at hc;exact hc
theorem KY{k l slot:Int}(he:di k l ss slot s=er)(h0:er≠0)(hc:Calls P_ f args w (eS k l ss slot s w)):Calls P_ f args w (dS 0 0 [] er w):=by
 subst he
 rw[eS,if_neg h0] at hc;exact hc
theorem zA(k l:Int)(A:Option Addr)(c:Nat)(ss:List ByteArray)(x sl:Int)(s:ByteArray)(n:Int)(w:World)(hA:At w A (ss.map Value.string))(hr_:bu k l ss=true)(hS:dJ ss)(hss:s.size<=9223372036854775807):
  Calls P_ 40 #[.agg #[.int .i64 k,.int .i64 l,.slice A ss.length c],.agg #[.int .i64 x,.int .i64 sl,.string s],.int .i64 n] w (gh (k,l,ss) (x,sl,s) n w):=by
 go_enter func40,ntmps40
 have aj:=St.start w
 refine wq (sqr ?_)
 refine bX #[vi k,vi l,.slice A ss.length c] aj fun bP W1 ax=>?_
 refine bX #[vi x,vi sl,.string s] ax fun dE W2 bA=>?_
 refine bW #[vi 0,vi 0,sn] bA fun Qw W3 aU=>?_
 refine sqp [.k 7 (vi 0)] ?_
 refine aa (wq (wq ?_))
 have hbb_:=s5 (bl s) 0
 refine sqr ?_
 refine bD 0 3 aU ?_
 have hd7:(bu k l ss)=true:=hr_
 refine sqv (.bool true) aU (ip rfl rfl rfl rfl rfl (fun _ _ _ h=>h.trans (congrArg Value.bool hd7)) fun g j W X cx=>⟨_,_,rCF (args:=#[.agg #[vi k,vi l,.slice A ss.length c]]) cx.sees (av (cx.ou 10)),ql k l _ _ ss _ (hA.ext cx.upd.to_ext) hS⟩) fun W6 bJ=>?_
 refine sqp [.k 12 (.bool false)] ?_
 refine aa (wcf rfl (wp_skip (aa (wq (wsq [.m 14 2,.k 15 (.bool (decide (n<0))),.m 16 15] ?_)))))
 refine sqw 16 [17,18] rfl (fun _=>sqp [.m 17 2,.k 18 (.bool (decide (2147483647<n)))] sqe) ?_
 refine sqp [sPo 19 (decide (n<0)) (decide (2147483647<n))] ?_
 refine aa (wbs (fun dF=>?_) fun dF=>?_)
 have kW:=dF
 simp only[zB] at kW
 refine wsq [.k 20 (.agg #[vi 0,vi 0,sn])] ?_
 refine aT (n:=3) 2 #[vi 0,vi 0,sn] bJ fun qT dt=>?_
 refine sqp [.k 7 (vi 1)] ?_
 refine aa (wp_ret (ai ?_))
 exact bpr (.tuple #[.agg #[vi 0,vi 0,sn],vi 1]) (aL results40 (rpa (dt.blk 2 rfl) 0 3) rpt) (gh.bad (by rw[doE,if_neg (by rw[hr_];decide),if_pos (by have h_:=dF;simp at h_;omega)]) (by decide) (dS.zero dt.ext))
 have kW:=dF
 simp only[zB] at kW
 obtain⟨RB,RD⟩:=kW
 refine wp_skip (aa (wq (wq ?_)))
 by_cases hs1_:sl= -1
 ·refine sqs [.k 21 (po dE 1)] ?_
  refine am 1 bJ ?_
  have hd22:(sl==(-1))=true:=(beq_iff_eq.2 hs1_)
  refine sqp [.e 23 (.bool (sl==(-1))) (.bool true) (congrArg Value.bool hd22)] ?_
  refine aa (wct rfl (wq (wsq [.k 24 (po dE 2)] ?_)))
  refine am 1 bJ ?_
  refine sqp [.k 26 (vi ((s.size:Int))),.k 27 (.bool ((s.size:Int) != 1)),.m 28 27] ?_
  refine d3 28 [29,30,31,32] ?_ rfl (fun hq=>?_) ?_
  rotate_left
  have hq_:=hq
  try simp only[zB] at hq_
  refine sqp [.k 29 (po dE 2)] ?_
  refine am 1 bJ ?_
  refine sql (.int .u8 (bU (bl s) 0)) bJ (fun cx=>jS (m:=0) rfl (by kernel_rfl) (cx.ou 30) (cx.co _) (by omega) (by omega)) ?_
  refine sqp [.k 32 (.bool (decide (2<bU (bl s) 0)))] ?_
  exact sqe
  refine c7 ?_
  refine sqp [sPo 33 ((s.size:Int) != 1) (decide (2<bU (bl s) 0))] ?_
  refine aa (wbs (fun pJ=>?_) fun pJ=>?_)
  have xX:=pJ
  simp only[zB] at xX
  refine wsq [.k 34 (.agg #[vi 0,vi 0,sn])] ?_
  refine aT (n:=3) 2 #[vi 0,vi 0,sn] bJ fun zH em=>?_
  refine sqp [.k 7 (vi 21)] ?_
  refine aa (wp_ret (ai (ai ?_)))
  exact bpr (.tuple #[.agg #[vi 0,vi 0,sn],vi 21]) (aL results40 (rpa (em.blk 2 rfl) 0 3) rpt) (gh.bad (by rw[doE,if_neg (by rw[hr_];decide),if_neg (by have h_:=dF;simp at h_;omega),if_pos hs1_,if_pos (by have h_:=pJ;simp at h_;simp only[eX,Bool.or_eq_true,decide_eq_true_eq];omega)]) (by decide) (dS.zero em.ext))
  have xX:=pJ
  simp only[zB] at xX
  obtain⟨RE,RF⟩:=xX
  refine wp_skip (aa (wsq [.k 35 (po dE 2)] ?_))
  refine am 1 bJ ?_
  refine sql (.int .u8 (bU (bl s) 0)) bJ (fun cx=>jS (m:=0) rfl (by kernel_rfl) (cx.ou 36) (cx.co _) (by omega) (by omega)) ?_
  refine sqp [sW 38 .i64 (bU (bl s) 0) (bU (bl s) 0) (IntWalk.i64_in _ (by omega)),.m 39 2,.k 40 (.agg #[vi (bU (bl s) 0),vi n,sn])] ?_
  refine aT (n:=3) 2 #[vi (bU (bl s) 0),vi n,sn] bJ fun MO l9=>?_
  refine sqp [.k 7 (vi 0)] ?_
  refine aa (wp_ret (ai ?_))
  exact bpr (.tuple #[.agg #[vi (bU (bl s) 0),vi n,sn],vi 0]) (aL results40 (rpa (l9.blk 2 rfl) 0 3) rpt) (gh.good (q:=(bU (bl s) 0,n,[])) (by rw[doE,if_neg (by rw[hr_];decide),if_neg (by have h_:=dF;simp at h_;omega),if_pos hs1_,if_neg (by have h_:=pJ;simp at h_;simp only[eX,Bool.or_eq_true,decide_eq_true_eq];omega)]) (by rw[doV,if_pos hs1_]) ⟨none,0,rfl,World.ownsRow_nil _ _ _ _,l9.ext⟩)
 refine sqs [.k 21 (po dE 1)] ?_
 refine am 1 bJ ?_
 have hd48:(sl==(-1))=false:=(beq_eq_false_iff_ne.2 hs1_)
 refine sqp [.e 23 (.bool (sl==(-1))) (.bool false) (congrArg Value.bool hd48)] ?_
 refine aa (wcf rfl (wp_skip (aa (wq ?_))))
 obtain⟨er,hpe⟩:∃z,di k l ss sl s=z:=⟨_,rfl⟩
 by_cases hpn:er=0
 subst hpn
 refine sqr ?_
 refine bD 0 3 bJ ?_
 refine sqp [.k 43 (po dE 1)] ?_
 refine am 1 bJ ?_
 refine sqp [.k 45 (po dE 2)] ?_
 refine am 1 bJ ?_
 refine iz (fun kg kh=> .tuple #[.agg #[vi k,vi l,.slice kg ((ae (aX ss sl.toNat s)).length) kh],vi 0]) (fun kg kh=>eO 9 1 (.slice kg ((ae (aX ss sl.toNat s)).length) kh) ((ae (aX ss sl.toNat s)).length) ((ae (aX ss sl.toNat s)).map Value.string)) bJ (fun cx=>⟨_,(K6 hpe (wF k l _ _ ss sl s _ (hA.ext cx.upd.to_ext) hS (by omega))).mono (by rintro e W1 ⟨A4,c4,rfl,ho,hx⟩;exact⟨_,_,rfl,St.one hx (cf ho)⟩),(dH (cx.ou 42) (cx.ou 44) (cx.ou 46))⟩) fun kg kh UI OU=>?_
 refine sqp [.m 41 47,.k 48 (.agg #[vi k,vi l,.slice kg ((ae (aX ss sl.toNat s)).length) kh]),.k 49 (vi 0)] ?_
 refine bW #[vi 0,vi 0,sn] OU fun OV Jp kf=>?_
 refine aT (n:=3) 4 #[vi k,vi l,.slice kg ((ae (aX ss sl.toNat s)).length) kh] kf fun FO f6=>?_
 refine sqp [.m 9 49] ?_
 refine aa (wq (wsq [.m 50 9,.k 51 (.bool true)] ?_))
 refine aa (wct rfl (sqs [.m 52 2,.k 53 (po OV 1)] ?_))
 refine aT (n:=1) 4 #[vi k,vi n,.slice kg ((ae (aX ss sl.toNat s)).length) kh] f6 fun PX r6=>?_
 refine aa (wq (sqr ?_))
 refine bD 4 3 r6 ?_
 refine sqp [.m 55 9] ?_
 refine aT (n:=3) 2 #[vi k,vi n,.slice kg ((ae (aX ss sl.toNat s)).length) kh] r6 fun B2 f7=>?_
 refine sqp [.m 7 55] ?_
 exact aa (wp_ret (bpr (.tuple #[.agg #[vi k,vi n,.slice kg ((ae (aX ss sl.toNat s)).length) kh],vi 0]) (aL results40 (rpa (f7.blk 2 rfl) 0 3) rpt) (gh.good (q:=(k,n,ae (aX ss sl.toNat s))) (by rw[doE,if_neg (by rw[hr_];decide),if_neg (by have h_:=dF;simp at h_;omega),if_neg hs1_];exact hpe) (by rw[doV,if_neg hs1_]) ⟨_,_,rfl,f7.own' 3 rfl,f7.ext⟩)))
 refine sqr ?_
 refine bD 0 3 bJ ?_
 refine sqp [.k 43 (po dE 1)] ?_
 refine am 1 bJ ?_
 refine sqp [.k 45 (po dE 2)] ?_
 refine am 1 bJ ?_
 refine iz (fun lv lw=> .tuple #[.agg #[vi 0,vi 0,.slice lv (([]:List ByteArray).length) lw],vi er]) (fun lv lw=>eO 9 1 (.slice lv (([]:List ByteArray).length) lw) (([]:List ByteArray).length) (([]:List ByteArray).map Value.string)) bJ (fun cx=>⟨_,(KY hpe hpn (wF k l _ _ ss sl s _ (hA.ext cx.upd.to_ext) hS (by omega))).mono (by rintro e W1 ⟨A4,c4,rfl,ho,hx⟩;exact⟨_,_,rfl,St.one hx (cf ho)⟩),(dH (cx.ou 42) (cx.ou 44) (cx.ou 46))⟩) fun lv lw M6 kX=>?_
 refine sqp [.m 41 47,.k 48 (.agg #[vi 0,vi 0,.slice lv (([]:List ByteArray).length) lw]),.k 49 (vi er)] ?_
 refine bW #[vi 0,vi 0,sn] kX fun SN RG Dg=>?_
 refine aT (n:=3) 4 #[vi 0,vi 0,.slice lv (([]:List ByteArray).length) lw] Dg fun PY pK=>?_
 refine sqp [.m 9 49] ?_
 refine aa (wq (wq (sqr ?_)))
 have hd84:(er==0)=false:=(beq_eq_false_iff_ne.2 hpn)
 refine sqp [.m 50 9,.e 51 (.bool (er==0)) (.bool false) (congrArg Value.bool hd84)] ?_
 refine aa (wcf rfl (wp_skip (aa (wq (sqr ?_)))))
 refine bD 4 3 pK ?_
 refine sqp [.m 55 9] ?_
 refine aT (n:=3) 2 #[vi 0,vi 0,.slice lv (([]:List ByteArray).length) lw] pK fun PZ pL=>?_
 refine sqp [.m 7 55] ?_
 exact aa (wp_ret (bpr (.tuple #[.agg #[vi 0,vi 0,.slice lv (([]:List ByteArray).length) lw],vi er]) (aL results40 (rpa (pL.blk 2 rfl) 0 3) rpt) (gh.bad (by rw[doE,if_neg (by rw[hr_];decide),if_neg (by have h_:=dF;simp at h_;omega),if_neg hs1_];exact hpe) hpn ⟨_,_,rfl,pL.own' 3 rfl,pL.ext⟩)))
end
section
open Go.RowKit
noncomputable def rdX(s:ByteArray):Option PgS:=by
 classical exact if h:∃p:PgS,bI p/\bN p.1 p.2.1 p.2.2=s then some h.choose else none
theorem oY{p:PgS}(h:rdX s=some p):bI p/\bN p.1 p.2.1 p.2.2=s:=by
 classical
 unfold rdX at h
 split at h
 rename_i h1
 injection h with h
 subst h
 exact h1.choose_spec
 cases h
theorem yS(h:rdX s=none)(p:PgS)(hr:bI p):bN p.1 p.2.1 p.2.2≠s:=fun he=>by
 classical
 unfold rdX at h
 split at h
 cases h
 rename_i h1
 exact h1 ⟨p,hr,he⟩
def iX(w:World)(e:Ending)(w':World):Prop:=∃er:Int,er≠0/\e= .returned (.tuple #[.agg #[.int .i64 0,.int .i64 0,.slice none 0 0],.int .i64 er])/\Ext w w'
theorem iX.of(h:er≠0)(hx:Ext w w'):iX w (.returned (.tuple #[.agg #[.int .i64 0,.int .i64 0,sn],.int .i64 er])) w':=⟨er,h,rfl,hx⟩
def ft(s:ByteArray)(p:Nat)(f:Bool):ByteArray×Nat×Bool:=if f=true\/s.size<p+2\/s.size<p+2+aP s p 2 then (ByteArray.empty,p,true) else (fo s p,p+2+aP s p 2,false)
theorem Mb(B:Nat)(s:ByteArray)(p:Nat)(f:Bool)(w:World)(h:Rd 193 w B s p f):Calls P_ 103 #[po B 0] w (my 193 (.string (ft s p f).1) B s (ft s p f).2.1 (ft s p f).2.2 w):=by
 unfold ft
 split
 rename_i h1
 exact H3 B s p f w h h1
 rename_i h1
 have hf:f=false:=by cases f;rfl;exact absurd (.inl rfl) h1
 subst hf
 exact oA B s p w h (by omega) (by omega)
theorem GD(s:ByteArray)(p:Nat)(f:Bool):(ft s p f).1.size<=s.size:=by
 unfold ft
 split
 exact Nat.zero_le _
 show (fo s p).size<= _
 rw[fo,ByteArray.size_extract];omega
theorem IC{p:Nat}{f:Bool}(h:p<=s.size):(ft s p f).2.1<=s.size:=by
 unfold ft
 split
 exact h
 show p+2+aP s p 2<=s.size
 omega
theorem yO(s:ByteArray)(p:Nat):aP s p 1<256:=by
 have h:=wn (s.extract p (p+1)).data.toList
 have h2:(s.extract p (p+1)).data.toList.length<=1:=by
  have:(s.extract p (p+1)).size<=1:=by rw[ByteArray.size_extract];omega
  show (bl (s.extract p (p+1))).length<=1
  rw[bO];exact this
 have h3:(256:Nat)^(s.extract p (p+1)).data.toList.length<=256^1:=Nat.pow_le_pow_right (by omega) h2
 unfold aP
 omega
theorem KH(I:List ByteArray)(x:ByteArray):I.map Value.string++[.string x]=(I++[x]).map Value.string:=by simp
theorem Iz{k l:Int}{I:List ByteArray}(hb:∀p:PgS,bI p->bN p.1 p.2.1 p.2.2≠s)(hr:bu k l I=true):((bN k l (ae I)).toList==s.toList)=false:=by
 rcases h:(bN k l (ae I)).toList==s.toList with _|_
 rfl
 exact absurd (x9 (by simpa using h)) (hb (k,l,ae I) ⟨sm hr,iu I⟩)
theorem HI{k l:Int}(hr:bu k l ss=false)(hc:Calls P_ f args w (fG k l ss w)):Calls P_ f args w (Ret (.tuple #[.string ⟨#[]⟩,.int .i64 22]) w):=by
 rw[fG,if_neg (by rw[hr];decide)] at hc;exact hc
theorem DZ{k l:Int}{tt:ByteArray}(hr:bu k l ss=true)(ht:bN k l (ae ss)=tt)(hc:Calls P_ f args w (fG k l ss w)):Calls P_ f args w (Ret (.tuple #[.string tt,.int .i64 0]) w):=by
 subst ht
 rw[fG,if_pos hr] at hc;exact hc
theorem CQ(s:ByteArray)(w:World)(hs:s.size=512)(hb:∀p:PgS,bI p->bN p.1 p.2.1 p.2.2≠s):
  Calls P_ 44 #[.string s] w (iX w):=by
 have hn4:=mD s 0
 have hn1:=yO s 9
 go_enter func44,ntmps44
 have aj:=St.start w
 refine wq (sqr (bW #[vi 0,vi 0,sn] aj fun bw W1 ax=>?_))
 refine sqp [.k 3 (vi 0)] ?_
 refine aa (wq (wsq [.m 9 0,.k 10 (vi ((s.size:Int))),.k 11 (.bool ((s.size:Int) != 512))] ?_))
 refine aa (wbs (fun dC=>?_) fun dC=>?_)
 have tw:=bne_iff_ne.1 dC
 refine wsq [.k 12 (.agg #[vi 0,vi 0,sn])] ?_
 refine aT (n:=3) 0 #[vi 0,vi 0,sn] ax fun W8 dI=>?_
 refine sqp [.k 3 (vi 11)] ?_
 refine aa (wp_ret (ai ?_))
 exact bpr (.tuple #[.agg #[vi 0,vi 0,sn],vi 11]) (aL results44 (rpa (dI.blk 0 rfl) 0 3) rpt) (iX.of (by decide) dI.ext)
 have tw:=bne_eq_false_iff_eq.1 dC
 refine wp_skip (aa (wsq [.m 13 0] ?_))
 refine qe (fun cZ=>vp cZ) (fun cZ=>eB cZ 193 #[.string s,vi 0,.bool false]) ax (fun cx=>⟨_,(rS s _).mono (by rintro e W1 ⟨B4,rfl,⟨hb4,hw4⟩,hx⟩;exact⟨_,rfl,St.one hx ⟨hb4,dW _ _ _,fun k hk=>by simp[eB] at hk;subst hk;exact⟨hw4,hb4.lt⟩⟩⟩),(av (cx.ou 13))⟩) fun cZ FK fY=>?_
 refine sqp [.m 4 14] ?_
 refine aa (wsq [.m 15 4] ?_)
 refine j0 (vi ((aP s 0 4:Int))) 1 #[.string s,vi 4,.bool false] fY (fun cx=>⟨_,(dG _ s 0 4 _ ⟨(cx.bi 1 rfl),by omega,by omega⟩ (by omega) (by omega)).mono (by rintro e W1 ⟨rfl,bV,hu⟩;exact⟨rfl,hu,bV.1⟩),(aN (cx.ou 15) (cx.co _))⟩) fun uY bZ=>?_
 refine sqp [.m 5 16] ?_
 refine aa (wsq [.m 17 4] ?_)
 refine j0 (vi ((aP s 4 1:Int))) 1 #[.string s,vi 5,.bool false] bZ (fun cx=>⟨_,(dG _ s 4 1 _ ⟨(cx.bi 1 rfl),by omega,by omega⟩ (by omega) (by omega)).mono (by rintro e W1 ⟨rfl,bV,hu⟩;exact⟨rfl,hu,bV.1⟩),(aN (cx.ou 17) (cx.co _))⟩) fun qT dt=>?_
 refine sqp [.m 19 4] ?_
 refine j0 (vi ((aP s 5 4:Int))) 1 #[.string s,vi 9,.bool false] dt (fun cx=>⟨_,(dG _ s 5 4 _ ⟨(cx.bi 1 rfl),by omega,by omega⟩ (by omega) (by omega)).mono (by rintro e W1 ⟨rfl,bV,hu⟩;exact⟨rfl,hu,bV.1⟩),(aN (cx.ou 19) (cx.co _))⟩) fun qV cU=>?_
 refine sqp [.k 21 (.agg #[vi ((aP s 4 1:Int)),vi ((aP s 5 4:Int)),sn])] ?_
 refine bW #[vi 0,vi 0,sn] cU fun fv uT eN=>?_
 refine aT (n:=3) 2 #[vi ((aP s 4 1:Int)),vi ((aP s 5 4:Int)),sn] eN fun uZ dv=>?_
 refine aa (wq (wq (bG [0,1,0,4,12,31,63,127,255,127,639,2047,4095] [] [.k 22 (vi ((aP s 0 4:Int))),tW 23 .u32 (aP s 0 4:Int) (aP s 0 4:Int) (IntWalk.u32_in _ (by omega)),.k 24 (.string s),.c 25 (.string (s.extract 4 s.size)),.c 26 (.int .u32 ((bc (s.extract 4 s.size):Int))),.k 27 (.bool ((aP s 0 4:Int) != (bc (s.extract 4 s.size):Int))),.k 28 (.bool ((aP s 0 4:Int) != (bc (s.extract 4 s.size):Int))),.z 29 (!((aP s 0 4:Int) != (bc (s.extract 4 s.size):Int))) (.string s),.y 30 (!((aP s 0 4:Int) != (bc (s.extract 4 s.size):Int))) (.string (s.extract 5 9)),.z 31 (!((aP s 0 4:Int) != (bc (s.extract 4 s.size):Int))) (.string s),.y 32 (!((aP s 0 4:Int) != (bc (s.extract 4 s.size):Int))) (.string (s.extract 508 s.size)),.y 33 (!((aP s 0 4:Int) != (bc (s.extract 4 s.size):Int))) (.bool (!((s.extract 5 9).toList==(s.extract 508 s.size).toList))),tO 34 ((aP s 0 4:Int) != (bc (s.extract 4 s.size):Int)) (!((s.extract 5 9).toList==(s.extract 508 s.size).toList))] [0,1,2] [3,4,8,10,11] [(22,0,13,35)] dv ?_ fun sE cu=>?_)))
 refine⟨?_,?_,?_,?_,?_,trivial⟩
 exact xs4 rfl id fun cx=>gM (l:=4) rfl (by kernel_rfl) (cx.an 2) (cx.co _) (by omega) (by omega)
 exact xsc rfl id rfl rfl fun cx=>⟨_,mR (s.extract 4 s.size) _ (by rw[ByteArray.size_extract];omega),(av (cx.an 3))⟩
 exact m2 rfl (fun _ _ _ h=>h) (fun cx=>(cx.an 6)) fun cx hq=>qg (l:=5) (m:=9) rfl (by kernel_rfl) (mbv (cx.an 7) hq) (cx.co _) (cx.co _) (by have hq_:=hq;simp only[zB] at hq_;omega) (by have hq_:=hq;simp only[zB] at hq_;omega) (by have hq_:=hq;simp only[zB] at hq_;omega) (by have hq_:=hq;simp only[zB] at hq_;omega)
 exact m2 rfl (fun _ _ _ h=>h) (fun cx=>(cx.an 6)) fun cx hq=>gM (l:=508) rfl (by kernel_rfl) (mbv (cx.an 9) hq) (cx.co _) (by have hq_:=hq;simp only[zB] at hq_;omega) (by have hq_:=hq;simp only[zB] at hq_;omega)
 exact m2 rfl (fun _ _ _ h=>h) (fun cx=>(cx.an 6)) fun cx hq=>qo rfl (mbv (cx.an 8) hq) (mbv (cx.an 10) hq)
 refine aa (wbs (fun tx=>?_) fun tx=>?_)
 have ma:=tx
 simp only[zB] at ma
 refine wsq [.k 35 (.agg #[vi 0,vi 0,sn])] ?_
 refine aT (n:=3) 0 #[vi 0,vi 0,sn] cu fun xD fD=>?_
 refine sqp [.k 3 (vi 12)] ?_
 refine aa (wp_ret (ai ?_))
 exact bpr (.tuple #[.agg #[vi 0,vi 0,sn],vi 12]) (aL results44 (rpa (fD.blk 0 rfl) 0 3) rpt) (iX.of (by decide) fD.ext)
 have ma:=tx
 simp only[zB] at ma
 obtain⟨MU,MV⟩:=ma
 refine wp_skip (aa (wq (wsq [.m 36 4] ?_)))
 refine j0 (vi ((aP s 9 1:Int))) 1 #[.string s,vi 10,.bool false] cu (fun cx=>⟨_,(dG _ s 9 1 _ ⟨(cx.bi 1 rfl),by omega,by omega⟩ (by omega) (by omega)).mono (by rintro e W1 ⟨rfl,bV,hu⟩;exact⟨rfl,hu,bV.1⟩),(aN (cx.ou 36) (cx.co _))⟩) fun Jo iB=>?_
 refine sqp [.k 38 (vi 0)] ?_
 refine aa (wp_block ?_)
 have hn31:=St.nilrow iB 9
 simp only[List.cons_append,List.nil_append] at hn31
 refine aQ (fun t_ mz az W=>∃j:Nat,∃pp:Nat,∃ff:Bool,∃Is:List ByteArray,∃AI:Option Addr,∃cI:Nat,j<=aP s 9 1/\pp<=s.size/\Is.length=j/\(∀x∈Is,x.size<=s.size)/\mz=aP s 9 1-j/\az=⟨(ovr (jv az) [(38,38,0,[vi ((j:Int))]),(0,39,9,[])] t_).toArray,[]⟩/\St w [] [eB bw 48 #[vi 0,vi 0,sn],eB cZ 193 #[.string s,vi ((pp:Int)),.bool ff],eB fv 48 #[vi ((aP s 4 1:Int)),vi ((aP s 5 4:Int)),.slice AI j cI],eO 9 1 (.slice AI j cI) j (Is.map Value.string)] W) (aP s 9 1-0) ?_ ?_
 exact⟨0,10,false,[],none,0,Nat.zero_le _,by omega,rfl,(fun x hx=>absurd hx List.not_mem_nil),rfl,(by kernel_rfl),hn31.pk [0,1,2,3]⟩
 rintro PP a32 zK ⟨j,pp,ff,Is,AI,cI,hj,hpp,hIl,hIz,rfl,hj_,dc⟩
 refine ovz hj_ fun IF=>?_
 refine wsq [.k 39 (.bool (decide ((j:Int)<(aP s 9 1:Int))))] ?_
 refine aa (wq (wds (fun kH pD=>?_) fun kH pD=>?_))
 refine wp_skip (aa (wq (wp_block (aB [0,1,0,4,12,31,63,127] [[],[2],[],[1],[],[5,3],[],[2]] [[],[],[],[4],[5],[6],[],[7]] [[],[],[],[1],[],[3],[],[2]] [.k 40 (po fv 2),.c 41 (.slice AI j cI),.k 42 (vp cZ),.a 43,.a 44,.a 45,.k 46 (po fv 2),.n] (fun ix u g X=>match ix with|0|1|2=>True|3=>u 43= .string ((ft s pp ff).1)/\X 4=eB cZ 193 #[.string s,vi (((ft s pp ff).2.1:Int)),.bool ((ft s pp ff).2.2)]|4=>u 44= .slice (sA (g 44)) 1 1/\X 5=eO 9 1 (.slice (sA (g 44)) 1 1) 1 ([.string ((ft s pp ff).1)])|5=>u 45= .slice (sA (g 45)) (j+1) (sC (g 45))/\X 6=eO 9 1 (.slice (sA (g 45)) (j+1) (sC (g 45))) (j+1) ((Is++[(ft s pp ff).1]).map Value.string)|6=>True|7=>X 7=eB fv 48 #[vi ((aP s 4 1:Int)),vi ((aP s 5 4:Int)),.slice (sA (g 45)) (j+1) (sC (g 45))]|_=>True) [0,4,5,6,7] [1,3,4,5,7] [(40,0,7,47)] dc ?_ ?_ ?_))))
 exact fun ix _ _ _ _ _ _ hs hb hx h=>match ix,h with
 |3,h=>by dsimp only;rw[<-hs 43 rfl,<-hx 4 rfl];exact h
 |4,h=>by dsimp only;rw[<-hs 44 rfl,<-hb 44 rfl,<-hx 5 rfl];exact h
 |5,h=>by dsimp only;rw[<-hs 45 rfl,<-hb 45 rfl,<-hx 6 rfl];exact h
 |7,h=>by dsimp only;rw[<-hb 45 rfl,<-hx 7 rfl];exact h
 |0,_|1,_|2,_|6,_|_+8,_=>trivial
 refine⟨?_,?_,?_,?_,?_,trivial⟩
 exact xs4 rfl id fun cx=>rL1 (cx.an 0) ((cx.bi 2 rfl).cell 2)
 refine svA fun A g W X cx=>?_
 refine ak.call (rCF (args:=#[vp cZ]) cx.sees (av (cx.an 2))) ?_
 refine(Mb _ s pp ff _ ⟨(cx.bi 1 rfl),hpp,by omega⟩).mono ?_
 rintro e W1 ⟨rfl,bV,hu⟩
 refine⟨_,rfl,cm (cx.init 1 _ rfl) rfl rfl hu bV.1 (fun u C X' hs hb hv hx=>?_)⟩
 exact⟨(hv 43 rfl).1.trans rfl,hx⟩
 refine svA fun A g W X cx=>?_
 have IG:A (.tmp 43)= .string ((ft s pp ff).1):=(dTn (cx.an 3)).1
 exact dA (e:=9) (xs:=[.string ((ft s pp ff).1)]) rfl (by simp[go_sem,IG]) rfl (by decide) rfl rfl (fun _ _ _ _ _=> .intro)
 refine svA fun A g W X cx=>?_
 obtain⟨i0,hi0,hz0,hz1,hz2⟩:=info_parts Tryz.infoStr
 refine fj (n:=j) (m:=1) (nm:=j+1) (xs:=Is.map Value.string) (news:=[.string ((ft s pp ff).1)]) (xs':=(Is++[(ft s pp ff).1]).map Value.string) rfl (ty:=46) rfl (by kernel_rfl) hi0 hz0 hz1 hz2 rfl (cx.an 1) cx (cx.init 3 _ rfl) rfl (dTn (cx.an 4)).1 (by first|(simp;done)|(simp;omega)) (At.of_own (cx.row (dTn (cx.an 4)).2 rfl)) (by simp[Value.oneCell']) (by simp only[maxLen];omega) (by omega) rfl rfl rfl (by omega) (KH _ _) (fun u C X' hs hb hv hx=>?_)
 exact⟨hv,hx⟩
 refine svA fun A g W X cx=>?_
 exact dVS (n:=1) rfl (cx.an 6) (dTn (cx.an 5)).1 cx (cx.init 2 _ rfl) rfl (nle rfl) rfl rfl rfl (fun u C X' hs hb hx=>by rw[hb 45];exact hx)
 intro u g X zH hD em fr aC
 simp only[exq 4 ((dTn (hD 3 lq)).2),exq 5 ((dTn (hD 4 lq)).2),exq 6 ((dTn (hD 5 lq)).2),exq 7 ((dTn (hD 7 lq)))] at em
 simp only[ed 43 ((dTn (hD 3 lq)).1),ed 44 ((dTn (hD 4 lq)).1),ed 45 ((dTn (hD 5 lq)).1)] at aC
 generalize sA (g 44)=MW,sA (g 45)=zL,sC (g 45)=zM at em aC
 clear hD;subst aC;clear u g X
 refine aq (aa (sqs [sI 47 ((j:Int)+1) (by omega),.m 38 47] ?_))
 refine aa ?_
 refine⟨aP s 9 1-((j+1)),by omega,?_⟩
 exact⟨(j+1),(ft s pp ff).2.1,(ft s pp ff).2.2,(Is++[(ft s pp ff).1]),zL,zM,by omega,IC hpp,by rw[List.length_append,hIl];rfl,fun x hx=>(List.mem_append.1 hx).elim (hIz x) fun h_=>by rw[List.mem_singleton.1 h_];exact GD s pp ff,rfl,(by kernel_rfl),em.pk [0,1,4,3]⟩
 refine wp_exit (al (al (bf (aa (wq (wq ?_))))))
 subst hIl
 have hSm:dJ Is:=⟨by have h_:=yO s 9;omega,fun x hx=>by have h_:=hIz x hx;omega⟩
 rcases hrg:bu (aP s 4 1:Int) (aP s 5 4:Int) Is with _|_
 refine sqr ?_
 refine bD 2 3 dc ?_
 refine sqk (.tuple #[.string ((⟨#[]⟩:ByteArray)),vi 22]) dc (fun cx=>⟨_,HI hrg (nR (aP s 4 1:Int) (aP s 5 4:Int) _ _ Is _ (At.of_own (cx.ri 3 rfl)) hSm),(av (cx.ou 49))⟩) fun qU du=>?_
 refine sqp [.m 48 50,.k 51 (.string ((⟨#[]⟩:ByteArray))),.k 52 (vi 22),.m 7 51,.m 8 52] ?_
 refine aa (wsq [.m 53 4] ?_)
 refine sqv (.bool ff) du (by
   refine svA fun A g W X cx=>?_
   refine ak.call (rCF (args:=#[vp cZ]) cx.sees (av (cx.ou 53))) ?_
   refine(fC _ s pp ff _ ⟨(cx.bi 1 rfl),hpp,by omega⟩).mono ?_
   rintro e W1 ⟨rfl,rfl⟩
   refine⟨_,rfl,bK [] rfl rfl (Ext.refl _) (by simp) List.Pairwise.nil (fun u C X' hs hb hv hN=>?_)⟩
   have aH:=(hv 54 rfl).1;have aO:=(hv 54 rfl).2
   exact aH.trans rfl) fun FN gr=>?_
 refine sqp [.m 55 54] ?_
 refine sqw 55 [56,57] rfl (fun _=>sqp [.m 56 8,.k 57 (.bool true)] sqe) ?_
 refine sqp [sPo 58 ff true,.m 59 58] ?_
 refine sqw 59 [60,61,62] rfl (fun _=>sqp [.m 60 7,.m 61 0,.k 62 (.bool (!(((⟨#[]⟩:ByteArray)).toList==s.toList)))] sqe) ?_
 have hd56:((ff||true)||(!(((⟨#[]⟩:ByteArray)).toList==s.toList)))=true:=(by cases ff<;>rfl)
 refine sqp [C8 63 (ff||true) (!(((⟨#[]⟩:ByteArray)).toList==s.toList)) true hd56] ?_
 refine aa (wct rfl (wsq [.k 64 (.agg #[vi 0,vi 0,sn])] ?_))
 refine aT (n:=3) 0 #[vi 0,vi 0,sn] gr fun Jp kf=>?_
 refine sqp [.k 3 (vi 22)] ?_
 refine aa (wp_ret (ai ?_))
 exact bpr (.tuple #[.agg #[vi 0,vi 0,sn],vi 22]) (aL results44 (rpa (kf.blk 0 rfl) 0 3) rpt) (iX.of (by decide) kf.ext)
 have hnb_:=Iz hb hrg
 obtain⟨tt,htt⟩:∃z,bN (aP s 4 1:Int) (aP s 5 4:Int) (ae Is)=z:=⟨_,rfl⟩
 rw[htt] at hnb_
 refine sqr ?_
 refine bD 2 3 dc ?_
 refine sqk (.tuple #[.string tt,vi 0]) dc (fun cx=>⟨_,DZ hrg htt (nR (aP s 4 1:Int) (aP s 5 4:Int) _ _ Is _ (At.of_own (cx.ri 3 rfl)) hSm),(av (cx.ou 49))⟩) fun BZ fw=>?_
 refine sqp [.m 48 50,.k 51 (.string tt),.k 52 (vi 0),.m 7 51,.m 8 52] ?_
 refine aa (wsq [.m 53 4] ?_)
 refine sqv (.bool ff) fw (by
   refine svA fun A g W X cx=>?_
   refine ak.call (rCF (args:=#[vp cZ]) cx.sees (av (cx.ou 53))) ?_
   refine(fC _ s pp ff _ ⟨(cx.bi 1 rfl),hpp,by omega⟩).mono ?_
   rintro e W1 ⟨rfl,rfl⟩
   refine⟨_,rfl,bK [] rfl rfl (Ext.refl _) (by simp) List.Pairwise.nil (fun u C X' hs hb hv hN=>?_)⟩
   have aH:=(hv 54 rfl).1;have aO:=(hv 54 rfl).2
   exact aH.trans rfl) fun B2 f7=>?_
 refine sqp [.m 55 54] ?_
 refine sqw 55 [56,57] rfl (fun _=>sqp [.m 56 8,.k 57 (.bool false)] sqe) ?_
 refine sqp [sPo 58 ff false,.m 59 58] ?_
 refine sqw 59 [60,61,62] rfl (fun _=>sqp [.m 60 7,.m 61 0,.k 62 (.bool (!(tt.toList==s.toList)))] sqe) ?_
 have hd78:((ff||false)||(!(tt.toList==s.toList)))=true:=(by rw[hnb_];cases ff<;>rfl)
 refine sqp [C8 63 (ff||false) (!(tt.toList==s.toList)) true hd78] ?_
 refine aa (wct rfl (wsq [.k 64 (.agg #[vi 0,vi 0,sn])] ?_))
 refine aT (n:=3) 0 #[vi 0,vi 0,sn] f7 fun PY pK=>?_
 refine sqp [.k 3 (vi 22)] ?_
 refine aa (wp_ret (ai ?_))
 exact bpr (.tuple #[.agg #[vi 0,vi 0,sn],vi 22]) (aL results44 (rpa (pK.blk 0 rfl) 0 3) rpt) (iX.of (by decide) pK.ext)
def j8(s:ByteArray)(w:World):Ending->World->Prop:=match rdX s with
 |some p=>dS p.1 p.2.1 p.2.2 0 w
 |none=>iX w
theorem mG(s:ByteArray)(w:World)(hs:s.size=512):Calls P_ 44 #[.string s] w (j8 s w):=by
 unfold j8
 rcases h:rdX s with _|p
 exact CQ s w hs fun p hp=>yS h p hp
 obtain⟨⟨h1,h2⟩,h3⟩:=oY h
 have h4:=B8 p.1 p.2.1 p.2.2 w h1
 rw[h2,h3] at h4
 exact h4
end
section
open Go.RowKit
def aG(p:PgS):ByteArray:=bN p.1 p.2.1 p.2.2
noncomputable def rdP(s:ByteArray):PgS:=(rdX s).getD bp
theorem mP{p:PgS}(h:bI p):Says (aG p) p.1 p.2.1 p.2.2:=by
 have h1:=ur h.1
 rw[h.2] at h1;exact h1
theorem E8{p q:PgS}(hp:bI p)(hq:bI q)(h:aG p=aG q):p=q:=by
 have h1:=mP hp
 have h2:=mP hq
 rw[<-h] at h2
 obtain⟨k,l,I⟩:=p
 obtain⟨k',l',I'⟩:=q
 have e1:=h1.kind.symm.trans h2.kind
 have e2:=h1.lsn.symm.trans h2.lsn
 have e3:=h1.many.symm.trans h2.many
 dsimp only at e1 e2 e3 h1 h2
 subst e1 e2
 have e4:∀j,j<=I.length->I.take j=I'.take j:=by
  intro j
  induction j with
  |zero=>intro _;rfl
  |succ j ih=>
   intro hj
   have ih:=ih (by omega)
   have t1:=(h1.text j (by omega)).2.2.1
   have t2:=(h2.text j (by omega)).2.2.1
   rw[ih] at t1
   rw[List.take_succ_eq_append_getElem (by omega),List.take_succ_eq_append_getElem (by omega),ih]
   have g1:I.getD j ByteArray.empty=I'.getD j ByteArray.empty:=t1.symm.trans t2
   rw[List.getD_eq_getElem?_getD,List.getD_eq_getElem?_getD,List.getElem?_eq_getElem (by omega),List.getElem?_eq_getElem (by omega)] at g1
   have g1:I[j]=I'[j]:=g1
   rw[g1]
 have e5:=e4 I.length (Nat.le_refl _)
 rw[List.take_length,e3,List.take_length] at e5
 rw[e5]
theorem yx{p:PgS}(h:bI p):rdP (aG p)=p:=by
 unfold rdP
 rcases hx:rdX (aG p) with _|q
 exact absurd rfl (yS hx p h)
 obtain⟨h1,h2⟩:=oY hx
 exact E8 h1 h h2
theorem cR{p:PgS}(h:bI p):(aG p).size=512:=(mP h).size
theorem Lu(p:PgS)(h:bI p):aG p≠dQ 512:=fun he=>by
 have h1:=(mP h).sum
 rw[he] at h1
 have h2:aP (dQ 512) 0 4=0:=by decide+kernel
 have h3:bc ((dQ 512).extract 4 512)≠0:=by decide+kernel
 omega
theorem Ln:rdP (dQ 512)=bp:=by
 unfold rdP
 rcases hx:rdX (dQ 512) with _|q
 rfl
 obtain⟨h1,h2⟩:=oY hx
 exact absurd h2 (Lu q h1)
def hf1(s:ByteArray):ByteArray:=s.extract 0 256
def hf2(s:ByteArray):ByteArray:=s.extract 256 512
theorem LJ{t:ByteArray}(hs:s.size=512)(ht:t.size=512)(h1:hf1 s=hf1 t)(h2:hf2 s=hf2 t):s=t:=by
 have e:∀u:ByteArray,u.size=512->u=hf1 u++hf2 u:=fun u hu=>by
  apply go
  rw[cN,hf1,hf2,eh,eh,List.drop_zero,Nat.sub_zero]
  rw[List.take_of_length_le (l:=(bl u).drop 256) (by rw[List.length_drop,bO,hu];decide),List.take_append_drop]
 rw[e s hs,e t ht,h1,h2]
end
section
open Go.RowKit
abbrev KpG:=List (Nat×Obj)
def eKp(G:KpG):Ent:=⟨G.map Prod.fst,fun W=>∀x∈G,W.heap[x.1]? =some x.2⟩
theorem ww(G:KpG):(eKp G).loc:=fun W W' hk h x hx=>(hk x.1 (List.mem_map.2 ⟨x,hx,rfl⟩)).trans (h x hx)
def qf(G:KpG)(A:Option Addr)(xs:List Value):Prop:=∀W,(∀x∈G,W.heap[x.1]? =some x.2)->At W A xs
def eTk(G:KpG)(b:Nat):Ent:=⟨b::G.map Prod.fst,fun W=>(∃(A:Option Addr) (m c:Nat) (qs:List Int),Blk W b 25 #[.slice A m c]/\qs.length=m/\m<=c/\qf G A (qs.map (Value.int .i64)))/\(∀x∈G,W.heap[x.1]? =some x.2)/\b∉G.map Prod.fst⟩
theorem Ka(G:KpG)(b:Nat):(eTk G b).loc:=fun W W' hk h=>by
 obtain⟨⟨A,m,c,qs,h1,h2⟩,h3,h4⟩:=h
 exact⟨⟨A,m,c,qs,(hk b (by simp[eTk])).trans h1,h2⟩,fun x hx=>(hk x.1 (List.mem_cons_of_mem _ (List.mem_map.2 ⟨x,hx,rfl⟩))).trans (h3 x hx),h4⟩
theorem qf.drop1{G:KpG}{A:Option Addr}{qs:List Int}{m c:Nat}(h:qf G A (qs.map (Value.int .i64)))(hm:qs.length=m)(hc:m<=c):qf G (if c=1 then A else A.map (·.add (1*1))) ((qs.drop 1).map (Value.int .i64)):=fun W hW=>by
 have h3:=(h W hW).drop 1 c (by rw[List.length_map];omega)
 rw[<-List.map_drop] at h3;exact h3
theorem St.tk{L:List Ent}{G:KpG}{A:Option Addr}{m c:Nat}{qs:List Int}(h:St w0 bor (L++[eB b 25 #[.slice A m c],eKp G]) W)(hm:qs.length=m)(hc:m<=c)(hq:qf G A (qs.map (Value.int .i64))):St w0 bor (L++[eTk G b]) W:=
 St.pack h (by simp[eTk,eKp,eB]) ⟨⟨A,m,c,qs,(h.ok (eB b 25 #[.slice A m c]) (by simp)).holds,hm,hc,hq⟩,(h.ok (eKp G) (by simp)).holds,fun hb=>((List.pairwise_append.1 h.apart).2.1|>List.pairwise_pair.1) b (by simp[eB]) hb⟩ (Ka _ _)
theorem St.untk{L:List Ent}{G:KpG}(h:St w0 bor (L++[eTk G b]) W):St w0 bor (L++[eKp G]) W:=by
 have ha:=List.pairwise_append.1 h.apart
 have ht:=h.ok (eTk G b) (by simp)
 refine⟨h.upd,fun x hx=>?_,List.pairwise_append.2 ⟨ha.1,List.pairwise_singleton _ _,fun x hx y hy k hk hk2=>?_⟩⟩
 rcases List.mem_append.1 hx with hx|hx
 exact h.ok x (List.mem_append_left _ hx)
 rw[List.mem_singleton] at hx
 subst hx
 exact⟨ht.holds.2.1,ww _,fun k hk=>ht.own k (List.mem_cons_of_mem _ hk)⟩
 rw[List.mem_singleton] at hy
 subst hy
 exact ha.2.2 x hx (eTk G b) (by simp) k hk (List.mem_cons_of_mem _ hk2)
theorem St.withKp{L:List Ent}{G:KpG}(h:St w bor L w)(hG:∀x∈G,w.heap[x.1]? =some x.2)(hL:∀e∈L,∀k∈e.fp,k∈bor)(hn:∀x∈G,x.1∉bor):St w (G.map Prod.fst++bor) (L++[eKp G]) w:=by
 refine⟨Upd.refl _ _,fun x hx=>?_,List.pairwise_append.2 ⟨h.apart,List.pairwise_singleton _ _,fun x hx y hy k hk hk2=>?_⟩⟩
 rcases List.mem_append.1 hx with hx|hx
 have h4:=h.ok x hx
 exact⟨h4.holds,h4.loc,fun k hk=>⟨(h4.own k hk).1.imp (fun z=>List.mem_append_right _ z) id,(h4.own k hk).2⟩⟩
 rw[List.mem_singleton] at hx
 subst hx
 refine⟨hG,ww _,fun k hk=>⟨.inl (List.mem_append_left _ hk),?_⟩⟩
 obtain⟨x,hx,rfl⟩:=List.mem_map.1 hk
 exact(Array.getElem?_eq_some_iff.1 (hG x hx)).1
 rw[List.mem_singleton] at hy
 subst hy
 obtain⟨g,hg,rfl⟩:=List.mem_map.1 hk2
 exact hn g hg (hL x hx _ hk)
theorem St.lessKp{L:List Ent}{G:KpG}(h:St w (G.map Prod.fst++bor) (L++[eKp G]) W)(hG:∀x∈G,w.heap[x.1]? =some x.2):St w bor L W:=by
 have ha:=List.pairwise_append.1 h.apart
 have hk2:=(h.ok (eKp G) (by simp)).holds
 refine⟨⟨h.upd.os,h.upd.tape,h.upd.output,h.upd.size,fun k hk hn=>?_⟩,fun x hx=>?_,ha.1⟩
 by_cases e:k∈G.map Prod.fst
 obtain⟨x,hx,rfl⟩:=List.mem_map.1 e
 exact(hk2 x hx).trans (hG x hx).symm
 exact h.upd.block k hk (fun h5=>(List.mem_append.1 h5).elim e hn)
 have h4:=h.ok x (List.mem_append_left _ hx)
 refine⟨h4.holds,h4.loc,fun k hk=>⟨?_,(h4.own k hk).2⟩⟩
 rcases(h4.own k hk).1 with h5|h5
 rcases List.mem_append.1 h5 with h6|h6
 exact absurd h6 (ha.2.2 x hx (eKp G) (by simp) k hk)
 exact .inl h6
 exact .inr h5
def rN:Value->Nat
 | .int _ z=>z.toNat
 |_=>0
theorem Jj(x:Int){n:Int}(hn:0<n): -n<x.tmod n/\x.tmod n<n:=by
 have h1:=Int.natAbs_tmod x n
 have h2:x.natAbs % n.natAbs<n.natAbs:=Nat.mod_lt _ (by omega)
 omega
theorem Ji(x:Int){n:Int}(hn:0<n):0<=(x.tmod n+n).tmod n/\(x.tmod n+n).tmod n<n:=by
 have h1:=Jj x hn
 rw[Int.tmod_eq_emod_of_nonneg (by omega)]
 exact⟨Int.emod_nonneg _ (by omega),Int.emod_lt_of_pos _ hn⟩
def ox(G:KpG)(b L:Nat)(v:World)(e:Ending)(v':World):Prop:=∃r:Nat,e= .returned (.int .i64 ((r % L:Nat):Int))/\St v (b::G.map Prod.fst) [eTk G b] v'
theorem ox.of{G:KpG}{L:Nat}{v v':World}{z:Int}(h0:0<=z)(h1:z<(L:Int))(hs:St v (b::G.map Prod.fst) [eTk G b] v'):ox G b L v (.returned (.int .i64 z)) v':=by
 refine⟨z.toNat,?_,hs⟩
 rw[Nat.mod_eq_of_lt (by omega),Int.toNat_of_nonneg h0]
theorem Kd(b L:Nat)(A:Option Addr)(m c:Nat)(qs:List Int)(G:KpG)(w:World)(hL:0<L)(hL2:L<=4000000000)(hS:St w (b::G.map Prod.fst) [eB b 25 #[.slice A m c],eKp G] w)(hm:qs.length=m)(hmc:m<=c)(hq:qf G A (qs.map (Value.int .i64))):
  Calls P_ 83 #[.int .i64 ((L:Int)),po b 0] w (ox G b L w):=by
 go_enter func83,ntmps83
 have aj:=hS
 refine wsq [.k 3 (vi 0)] ?_
 refine aa (wq (wq (sqr (am 0 aj ?_))))
 refine sqp [.k 6 (vi ((m:Int))),.k 7 (.bool ((m:Int)==0))] ?_
 refine aa (wbs (fun ee=>?_) fun ee=>?_)
 have IU:=beq_iff_eq.1 ee
 refine wsq [.k 3 (vi 0)] ?_
 refine aa (wp_ret (ai ?_))
 refine bpr (vi 0) (ag results83 rpt) ?_
 have hs7_:=St.tk (L:=[]) (aj.pick [0,1] (by decide) rfl) hm hmc hq
 exact ox.of (by decide) (by omega) hs7_
 have IU:=beq_eq_false_iff_ne.1 ee
 refine wp_skip (aa (wq (sqr (am 0 aj ?_))))
 refine sql (.pointer (some ((ad A).add 0))) aj (fun cx=>bz (e:=3) (m:=0) rfl (by kernel_rfl) (by kernel_rfl) (cx.ou 8) (cx.co _) (by omega) (by omega) (hq _ (CtxV.holdF cx (cx.init 1 _ rfl) rfl)) (by rw[List.length_map];omega)) ?_
 refine sql (vi (qs.getD 0 0)) aj (fun cx=>ce rfl (by kernel_rfl) (cx.ou 9) (At.cellAd (hq _ (CtxV.holdF cx (cx.init 1 _ rfl) rfl)) (zx (by omega)))) ?_
 refine sqp [.m 4 10] ?_
 refine aa (wq (sqr (am 0 aj ?_)))
 refine sql (.slice ((if c=1 then A else A.map (·.add (1*1)))) ((m-1)) ((c-1))) aj (fun cx=>xF (e:=3) (sz:=1) (l:=1) rfl (by kernel_rfl) (by kernel_rfl) (cx.ou 11) (cx.co _) (by omega) (by omega)) ?_
 refine aT (n:=1) 0 #[.slice ((if c=1 then A else A.map (·.add (1*1)))) ((m-1)) ((c-1))] aj fun uY bZ=>?_
 refine aa (wq ?_)
 have htm_:=Jj (qs.getD 0 0) (n:=(L:Int)) (by omega)
 refine sqs [.m 13 4,.m 14 0] ?_
 refine sql (vi (((qs.getD 0 0).tmod (L:Int)))) bZ (fun cx=>vY rfl (cx.ou 13) (cx.ou 14) (by omega) (rfl)) ?_
 refine sqp [.m 16 0,sI 17 (((qs.getD 0 0).tmod (L:Int))+(L:Int)) (by omega),.m 18 0] ?_
 refine sql (vi (((((qs.getD 0 0).tmod (L:Int))+(L:Int)).tmod (L:Int)))) bZ (fun cx=>vY rfl (cx.ou 17) (cx.ou 18) (by omega) (rfl)) ?_
 refine sqp [.m 3 19] ?_
 refine aa (wp_ret ?_)
 refine bpr (vi (((((qs.getD 0 0).tmod (L:Int))+(L:Int)).tmod (L:Int)))) (ag results83 rpt) ?_
 have hs23_:=St.tk (L:=[]) (bZ.pick [0,1] (by decide) rfl) (qs:=qs.drop 1) (by rw[List.length_drop,hm]) (by omega) (hq.drop1 hm hmc)
 exact ox.of (Ji _ (by omega)).1 (Ji _ (by omega)).2 hs23_
theorem DE(b L:Nat)(G:KpG)(w:World)(hL:0<L)(hL2:L<=4000000000)(h:(eTk G b).holds w)(hlt:∀k∈(eTk G b).fp,k<w.heap.size):Calls P_ 83 #[.int .i64 (L:Int),po b 0] w (ox G b L w):=by
 obtain⟨⟨A,m,c,qs,h1,h2,h3,h4⟩,h5,hn⟩:=h
 refine Kd b L A m c qs G w hL hL2 ⟨Upd.refl _ _,fun e he=>?_,List.pairwise_pair.2 fun k hk hk2=>?_⟩ h2 h3 h4
 simp only[List.mem_cons,List.not_mem_nil,or_false] at he
 rcases he with rfl|rfl
 exact⟨h1,dW _ _ _,fun k hk=>⟨.inl (by simp[eB] at hk;simp[hk]),by simp[eB] at hk;subst hk;exact h1.lt⟩⟩
 exact⟨h5,ww _,fun k hk=>⟨.inl (List.mem_cons_of_mem _ hk),hlt k (List.mem_cons_of_mem _ hk)⟩⟩
 simp[eB] at hk
 subst hk
 exact hn hk2
end
section
open Go.RowKit
def CrR(x y:ShD):Prop:=y.ws=[]/\∃a b,a∈x.safe::x.ws/\b∈x.safe::x.ws/\hf1 y.safe.1=hf1 a.1/\hf2 y.safe.1=hf2 b.1
structure CrD (D D':DkM):Prop where
 len:D'.pgs.length=D.pgs.length
 pgs:∀(j:Nat) x y,D.pgs[j]? =some x->D'.pgs[j]? =some y->CrR x y
 log:∃k,D.fl<=k/\k<=D.log.size/\D'.log=D.log.extract 0 k/\D'.fl=k
 off:D'.off=false
 armed:D'.armed=false
theorem CrR.nil(x:ShD)(h:x.ws=[]):CrR x x:=⟨h,x.safe,x.safe,by simp,by simp,rfl,rfl⟩
def EX(b:Nat)(D:DkM)(fp:List Nat)(w:World)(e:Ending)(w':World):Prop:=e= .returned (.tuple #[])/\∃D',CrD D D'/\∃fp',St w fp [eDk b D' fp'] w'
theorem Ib:∀(ys pre mid suf:List Value),ys.length=mid.length->jP (pre++(mid++suf)).toArray pre.length ys=(pre++(ys++suf)).toArray:=by
 intro ys
 induction ys with
 |nil=>intro pre mid suf hl;rw[List.eq_nil_of_length_eq_zero (l:=mid) hl.symm];rfl
 |cons y ys ih=>
  intro pre mid suf hl
  cases mid with
  |nil=>simp at hl
  |cons z mid=>
   rw[jP]
   have e:(pre++(z::mid++suf)).toArray.setIfInBounds pre.length y=((pre++[y])++(mid++suf)).toArray:=by simp
   rw[e,show pre.length+1=(pre++[y]).length by simp,ih (pre++[y]) mid suf (by simpa using hl)]
   simp
section
variable{P:Program}{ops:Array Oper}{L:List Nat}{a0:Act}{w0:World}{bor:List Nat}{X0:List Ent}{us cr kl:List (List Nat)}
 {D:Nat->(Tmp->Value)->(Tmp->Value)->(Nat->Ent)->Prop}{i:Nat}{o:Oper}{ρ:Operand->Value}{β:Tmp->Value}{W:World}{X:Nat->Ent}
theorem A6{t t':TypeId}{y:Operand}{off n:Nat}{ys xs':List Value}(h:o.op= .store t x y)(hx:ρ x=po b off)(hy:ρ y= .agg ys.toArray)(hz:szP P t=some n)(hl:ys.length=n)(hl0:off+n<=xs.length)(h1:∀v∈ys,v.oneCell'=true)
  (hM:xs.take off++(ys++xs.drop (off+n))=xs') (cx:CtxV ops L a0 w0 bor X0 us D i ρ β W X) (hX:X q=eB b t' xs.toArray) (hu:(atV us i).contains q=true) (hd:o.dst=none) (hc:atV cr i=[q']) (hk:atV kl i=[q])
  (hD:∀(g c:Tmp->Value) (X':Nat->Ent),(∀t,g t=ρ (.tmp t))->(∀t,c t=β t)->X' q'=eB b t' xs'.toArray->D i g c X'):ak P o ρ W (bQ cr kl D i o.dst ρ β W X):=by
 refine pa (n:=n) (cs:=xs.toArray) (cs':=xs'.toArray) h hx hy hz (by rw[<-hl];rfl) (List.all_eq_true.2 h1) cx hX hu (by rw[List.size_toArray];exact hl0) ?_ hd hc hk hD
 show jP xs.toArray off ys=xs'.toArray
 rw[<-hM]
 have e1:xs=xs.take off++((xs.drop off).take n++xs.drop (off+n)):=by
  rw[<-List.drop_drop,List.take_append_drop,List.take_append_drop]
 have e2:(xs.take off).length=off:=by rw[List.length_take];omega
 have h2:=Ib ys (xs.take off) ((xs.drop off).take n) (xs.drop (off+n)) (by rw[hl,List.length_take,List.length_drop];omega)
 rw[<-e1,e2] at h2
 exact h2
end
end
section
open Go.RowKit Go.Maps Go.ChangeMaps
def nX:Option Nat->Value
 |none=> .pointer none
 |some k=> .pointer (some ⟨k,0,none⟩)
def v6:Option Nat->DataW Unit
 |none=> .lit (.int .i64 (-1))
 |some k=> .lit (.int .i64 (k:Int))
def CU:Value->Option (DataW Unit×List MemPlace)
 | .pointer none=>some (.lit (.int .i64 (-1)),[])
 | .pointer (some ⟨k,0,none⟩)=>some (.lit (.int .i64 (k:Int)),[])
 |_=>none
theorem yC(v:Value)(d:DataW Unit)(ps:List MemPlace)(e:Option Nat)(h:CU v=some (d,ps))(hd:d=v6 e):v=nX e:=by
 subst hd
 unfold CU at h
 split at h
 cases e with
 |none=>rfl
 |some k=>simp[v6] at h
 rename_i j
 cases e with
 |none=>simp[v6] at h
 |some k=>
  simp[v6] at h
  obtain⟨h,_⟩:=h
  have:j=k:=by omega
  subst this;rfl
 cases h
def ptC:Cod (Option Nat) where
 enc:=nX
 dat:=v6
 R:=CU
 e0:=none
 read:=fun e=>by cases e<;>rfl
 back:=yC
def ptX:Ec (Option Nat) where
 enc:=nX
 dat:=v6
 R:=CU
 e0:=none
 okE:=fun _=>True
 read:=fun e _=>by cases e<;>rfl
 back:=yC
 ok0:=trivial
noncomputable def ecB:Ec Bool where
 enc:= .bool
 dat:=fun v=> .lit (.bool v)
 R:=plainElem P_ 4
 e0:=false
 okE:=fun _=>True
 read:=fun e _=>plainElem_bool (by kernel_rfl) e
 back:=fun v d ps e h1 h2=>by
  subst h2
  unfold plainElem at h1
  have hu:Tryz.prog.underlying 4=some .bool:=by kernel_rfl
  rw[hu] at h1
  cases v<;>simp at h1
  rw[h1.1]
 ok0:=trivial
section
variable{P:Program}{k b r n cnt:Nat}{m:Int->Option (Option Nat)}{left:Int->Bool}{cur:Option (Int×Option Nat)}
theorem xS{x:Int}(h:(Lit.int .i64 x).wf=true):kcI.ok x:=by
 have h1:(decide (IntKind.i64.min<=x)&&decide (x<=IntKind.i64.max))=true:=h
 rw[Bool.and_eq_true,decide_eq_true_eq,decide_eq_true_eq] at h1
 have e1:IntKind.i64.min= -9223372036854775808:=by decide
 have e2:IntKind.i64.max=9223372036854775807:=by decide
 rw[e1,e2] at h1
 exact h1
theorem gx.g(h:gx kcI ptX P k b n m W):P9 ptC P k b n m W:=by
 obtain⟨D,h1,h2,_,h4⟩:=h
 exact⟨D,h1,h2.isMap,fun x hx=>h4 x (xS hx)⟩
def eRx(P:Program)(k b r n:Nat)(m:Int->Option (Option Nat))(left:Int->Bool)(cnt:Nat)(cur:Option (Int×Option Nat)):Ent:=⟨[b,r],fun W=>(eRg ptC P k b r n m left cnt cur).holds W/\gx kcI ptX P k b n m W⟩
theorem wy:(eRx P k b r n m left cnt cur).loc:=fun W W' h hb=>⟨Kf W W' h hb.1,mt P k b n m W W' (fun j hj=>h j (by rw[List.mem_singleton.1 hj];simp[eRx])) hb.2⟩
theorem St.endRx{L:List Ent}(h:St w0 bor (L++[eRx P k b r n m left cnt cur]) W):St w0 bor (L++[eMx kcI ptX P k b n m]) W:=by
 have ha:=List.pairwise_append.1 h.apart
 have ht:=h.ok (eRx P k b r n m left cnt cur) (by simp)
 refine⟨h.upd,fun x hx=>?_,List.pairwise_append.2 ⟨ha.1,List.pairwise_singleton _ _,fun x hx y hy j hj hj2=>?_⟩⟩
 rcases List.mem_append.1 hx with hx|hx
 exact h.ok x (List.mem_append_left _ hx)
 rw[List.mem_singleton] at hx
 subst hx
 exact⟨ht.holds.2,mt _ _ _ _ _,fun j hj=>ht.own j (by rw[List.mem_singleton.1 hj];simp[eRx])⟩
 rw[List.mem_singleton] at hy
 subst hy
 exact ha.2.2 x hx (eRx P k b r n m left cnt cur) (by simp) j hj (by rw[List.mem_singleton.1 hj2];simp[eRx])
end
section
variable{P:Program}{ops:Array Oper}{L:List Nat}{a0:Act}{w0:World}{bor:List Nat}{X0:List Ent}{us cr kl:List (List Nat)}
 {D:Nat->(Tmp->Value)->(Tmp->Value)->(Nat->Ent)->Prop}{i:Nat}{o:Oper}{ρ:Operand->Value}{β:Tmp->Value}{W:World}{X:Nat->Ent}
theorem CtxV.rx{n:Nat}(cx:CtxV ops L a0 w0 bor X0 us D i ρ β W X)(hX:X q=eRx P k b r n m left cnt cur)(hu:(atV us i).contains q=true):gx kcI ptX P k b n m W:=by
 have h:=(cx.ok q hu).holds
 rw[hX] at h;exact h.2
theorem EV{t e n:Nat}{x:Operand}(h:o.op= .range t x)(hx:ρ x= .map (some b))(cx:CtxV ops L a0 w0 bor X0 us D i ρ β W X)(hX:X q=eMx kcI ptX P k b n m)(hq:(atV us i).contains q=true)(hd:o.dst=some d)(hc:atV cr i=[q'])(hkl:atV kl i=[q])
  (hD:∀(u p:Tmp->Value) (X':Nat->Ent),(∀t,t≠d->u t=ρ (.tmp t))->(∀t,t≠d->p t=β t)->u d= .pointer (some ⟨pb (p d),0,none⟩)->X' q'=eRx P k b (pb (p d)) n m (fun x=>(m x).isSome) n none->D i u p X')
  (hk:P.underlying k=some (.int .i64):=by kernel_rfl) (ht:P.underlying t=some (.map k e):=by kernel_rfl):ak P o ρ W (bQ cr kl D i o.dst ρ β W X):=by
 have hmx:=cx.mx hX hq
 have hlt:=hmx.lt
 obtain⟨D0,hD0,hI,hm⟩:=hmx.g
 obtain⟨W',hrun,hr,hg,hsz⟩:=hD0.range (int_keyed hk) ht
 have hS:((atV kl i).flatMap fun q=>(X q).fp)=[b]:=by rw[hkl];simp[hX,eMx]
 refine ak.value (v:=po W.heap.size 0) (w':=W') (by unfold execOp;rw[h];simp[hx,hrun]) ⟨[eRx P k b W.heap.size n m (fun x=>(m x).isSome) n none],by rw[hc];rfl,⟨?_,fun e' he'=>?_,List.pairwise_singleton _ _⟩,fun u p X' hs hv hb' hbv hx' hN=>?_⟩
 rw[hS]
 exact⟨hg.os,hg.tape,hg.output,hg.size,fun j hj hn=>hg.block j hj (by simp)⟩
 rw[List.mem_singleton] at he'
 subst he'
 refine⟨⟨⟨D0,_,_,hr,E0 hr,fun x hx=>(hm x hx).1,hI,hm,fun x hx=>hx,fun x c hc'=>by cases hc'⟩,mt P k b n m W W' (fun j hj=>hg.block j (by rw[List.mem_singleton.1 hj];exact hlt) (by simp)) hmx⟩,wy,fun j hj=>?_⟩
 rw[hS]
 rcases(by simpa[eRx] using hj:j=b\/j=W.heap.size) with rfl|rfl
 exact⟨.inl (by simp),by omega⟩
 exact⟨.inr (Nat.le_refl _),by omega⟩
 rw[hc] at hN
 refine hD u p X' (fun t ht=>hs t (by rw[hd];simpa using ht.symm)) (fun t ht=>hb' t (by rw[hd];simpa using ht.symm)) ?_ ?_
 rw[hv d hd,hbv d hd];rfl
 rw[hbv d hd];exact(List.cons.inj hN).1
def CO(P:Program)(k b r n:Nat)(m:Int->Option (Option Nat))(left:Int->Bool)(cnt:Nat)(v:Value)(e:Ent):Prop:=
 (v= .tuple #[.bool false]/\(∀x:Int,(Lit.int .i64 x).wf=true->left x=false)/\e=eRx P k b r n m left cnt none)\/
 ∃(x:Int) (c:Option Nat),v= .tuple #[.bool true,.int .i64 x,nX c]/\(-9223372036854775808<=x/\x<=9223372036854775807)/\left x=true/\m x=some c/\0<cnt/\e=eRx P k b r n m (fun y=>left y&&y != x) (cnt-1) (some (x,c))
theorem Gv{n:Nat}(h:o.op= .next x false)(hx:ρ x=po r 0)(cx:CtxV ops L a0 w0 bor X0 us D i ρ β W X)(hX:X q=eRx P k b r n m left cnt cur)(hq:(atV us i).contains q=true)(hd:o.dst=some d)(hc:atV cr i=[q'])(hkl:atV kl i=[q])
  (hD:∀(g p:Tmp->Value) (X':Nat->Ent),(∀t,t≠d->g t=ρ (.tmp t))->(∀t,t≠d->p t=β t)->CO P k b r n m left cnt (g d) (X' q')->D i g p X')
  (hk:P.underlying k=some (.int .i64):=by kernel_rfl):ak P o ρ W (bQ cr kl D i o.dst ρ β W X):=by
 have hok:=cx.ok q hq
 rw[hX] at hok
 have hS:((atV kl i).flatMap fun q=>(X q).fp)=[b,r]:=by rw[hkl];simp[hX,eRx]
 have hlt:∀j∈[b,r],j<W.heap.size:=fun j hj=>(hok.own j hj).2
 obtain⟨⟨D0,lf,c0,hr,hle,hl,hI,hm,hls,hcur⟩,hMX⟩:=hok.holds
 have hbr:b≠r:=fun e=>by
  obtain⟨es,clock,since,seen,c1,h1,h2,h3,h4,h5,h6⟩:=hr
  rw[e,h5] at h1;cases h1
 rcases hr.next (int_keyed hk) o.type with ⟨h0,hl0,hrun⟩|⟨key,v,kl',y,w',cnt',hkey,hlk,hv,hat,hrun,hrg,hlt',hgr,hsz,hen⟩
 refine ak.value (v:= .tuple #[.bool false]) (w':=W) (by unfold execOp;rw[h];simp[hx,hrun]) ⟨[eRx P k b r n m left cnt none],by rw[hc];rfl,⟨Upd.refl _ _,fun e' he'=>?_,List.pairwise_singleton _ _⟩,fun g p X' hs hv hb' hbv hx' hN=>?_⟩
 rw[List.mem_singleton] at he'
 subst he'
 refine⟨⟨⟨D0,lf,c0,hr,hle,hl,hI,hm,hls,fun x c hc'=>by cases hc'⟩,hMX⟩,wy,fun j hj=>?_⟩
 rw[hS]
 exact⟨.inl hj,hlt j hj⟩
 rw[hc] at hN
 exact hD g p X' (fun t ht=>hs t (by rw[hd];simpa using ht.symm)) (fun t ht=>hb' t (by rw[hd];simpa using ht.symm)) (.inl ⟨hv d hd,fun x hx=>by rw[<-hl x hx,hl0],(List.cons.inj hN).1⟩)
 obtain⟨x0,rfl,rfl,hwx⟩:=keyOf_int_inv hk hkey
 have hx0: -9223372036854775808<=x0/\x0<=9223372036854775807:=xS hwx
 have hlx:left x0=true:=by rw[<-hl x0 hwx];exact hlk
 have hso:=hls x0 hlx
 obtain⟨c,hmc⟩:=Option.isSome_iff_exists.1 hso
 have hvc:v=nX c:=by
  have h2:=(hm x0 hwx).2
  rw[hat,hmc] at h2
  obtain⟨y1,y2⟩:=y
  exact ptC.back v _ y2 _ hv h2
 subst hvc
 have hb1:∀W2:World,W2.heap[b]? =w'.heap[b]? ->W2.heap[r]? =w'.heap[r]? ->(Instr.entry (po r 0)).run P W2= .ok (.tuple #[.int .i64 x0,nX c]) W2:=fun W2 e1 e2=>AW hrg hen e1 e2
 have hMX2:gx kcI ptX P k b n m w':=mt P k b n m W w' (fun j hj=>by
  rw[List.mem_singleton.1 hj]
  exact hgr.block b (hlt b (by simp)) (fun e'=>by cases e';exact hbr rfl)) hMX
 refine ak.value (v:= .tuple #[.bool true,.int .i64 x0,nX c]) (w':=w') (by unfold execOp;rw[h];simp[hx,hrun]) ⟨[eRx P k b r n m (fun y=>left y&&y != x0) (cnt-1) (some (x0,c))],by rw[hc];rfl,⟨?_,fun e' he'=>?_,List.pairwise_singleton _ _⟩,fun g p X' hs hv hb' hbv hx' hN=>?_⟩
 rw[hS]
 exact⟨hgr.os,hgr.tape,hgr.output,hgr.size,fun j hj hn=>hgr.block j hj (fun e'=>hn (by cases e';simp))⟩
 rw[List.mem_singleton] at he'
 subst he'
 refine⟨⟨⟨D0,_,cnt',hrg,by omega,fun z hz=>?_,hI,hm,fun z hz=>hls z (by simp only[Bool.and_eq_true] at hz;exact hz.1),fun x c' hc'=>?_⟩,hMX2⟩,wy,fun j hj=>?_⟩
 show (lf (.int .i64 z)&&!(Lit.sameKey (.int .i64 z) (.int .i64 x0)))=(left z&&z != x0)
 rw[hl z hz]
 simp[Lit.sameKey,bne,BEq.beq]
 cases hc'
 exact hb1
 rw[hS]
 exact⟨.inl hj,by rw[hsz];exact hlt j hj⟩
 rw[hc] at hN
 exact hD g p X' (fun t ht=>hs t (by rw[hd];simpa using ht.symm)) (fun t ht=>hb' t (by rw[hd];simpa using ht.symm)) (.inr ⟨x0,c,hv d hd,hx0,hlx,hmc,by omega,(List.cons.inj hN).1⟩)
theorem CS{n:Nat}{x0:Int}{c:Option Nat}(h:o.op= .entry x)(hx:ρ x=po r 0)(hE:(eRx P k b r n m left cnt (some (x0,c))).holds W):(execOp ρ o).run P W= .ok (.value (.tuple #[.int .i64 x0,nX c])) W:=Cx h hx hE.1
theorem Cs{p j:Type}{K:Kc p}{C:Ec j}{t e n d:Nat}{m:p->Option j}(h:o.op= .call {callee:= .builtin .clear,args:=#[x],argTypes:=#[t]})(hx:ρ x= .map (some b))(cx:CtxV ops L a0 w0 bor X0 us D i ρ β W X)(hX:X q=eMx K C P k b n m)(hq:(atV us i).contains q=true)(hc:atV cr i=[q'])(hkl:atV kl i=[q])
  (hD:∀(g c:Tmp->Value) (X':Nat->Ent),(∀t,o.dst≠some t->g t=ρ (.tmp t))->(∀t,o.dst≠some t->c t=β t)->X' q'=eMx K C P k b 0 (fun _=>none)->D i g c X')
  (ht:P.underlying t=some (.map k e):=by kernel_rfl):ak P o ρ W (bQ cr kl D i o.dst ρ β W X):=by
 have hmx:=cx.mx hX hq
 have hlt:=hmx.lt
 obtain⟨D0,⟨es,clock,h1,h2,h3⟩,h4⟩:=hmx
 have hnew:=heap_setBlock_same h1 (.map #[] clock)
 have hup:Upd [b] W (setBlock W b (.map #[] clock)):=⟨rfl,rfl,rfl,by simp[setBlock],fun i hi hn=>heap_setBlock_other h1 _ (fun e'=>hn (by simp[e']))⟩
 have hmx2:gx K C P k b 0 (fun _=>none) (setBlock W b (.map #[] clock)):=⟨.map [],⟨#[],clock,hnew,⟨by simp,MapKept.stamped_empty clock,by simp⟩,Nat.le_refl _,rfl⟩,tidy_empty,rfl,fun x hx=>⟨rfl,rfl⟩⟩
 have hrun:(execOp ρ o).run P W= .ok (.value (.tuple #[])) (setBlock W b (.map #[] clock)):=by
  unfold execOp;rw[h]
  simp[hx,resolve,invoke,builtin,Builtin.clear_,run_underlying ht,MapKept.run_getObj_map h1,MapKept.run_setObj_map _ h1,Result.andThen,setBlock]
 obtain⟨a1,a2,a3⟩:=p7 (cr:=cr) (kl:=kl) (i:=i) hX hmx2 hup hc hkl
 refine ak.value hrun ⟨[eMx K C P k b 0 (fun _=>none)],a1,⟨a2,a3,List.pairwise_singleton _ _⟩,fun g c X' hs hv hb' hbv hx' hN=>hD g c X' hs hb' ?_⟩
 rw[hc] at hN
 exact(List.cons.inj hN).1
end
end
section
open Go.RowKit
structure PgR where
 p:PgS
 A:Option Addr
 c:Nat
structure BfT where
 n:Int
 blk:Nat
 pg:PgR
 dirty:Bool
 used:Int
structure StM where
 D:DkM
 bufs:Int
 pool:List BfT
 time:Int
 recs:List RcT
 ni:Nat
 im:Int->Option Bool
 nt:Nat
 told:Int->Option Bool
 frm:Int
 rows:List PgR
 rr:List RcT
abbrev StM.L(S:StM):List RecM:=S.recs.map RcT.r
def atM(l:List BfT)(x:Int):Option (Option Nat):=(l.find? fun t=>t.n==x).map fun t=>some t.blk
def dh(l:List BfT)(n:Int)(f:BfT->BfT):List BfT:=l.map fun t=>if t.n=n then f t else t
def flN(L:List RecM)(fl:Nat):Nat:=(cL L L.length).countP (·<(fl:Int)+1)
abbrev StM.F(S:StM):Nat:=flN S.L S.D.fl
def wrD0(S:StM)(t:BfT):DkM×Int:=if (S.F:Int)<t.pg.p.2.1 then opD S.D 0 flD else (S.D,0)
def clB(t:BfT):BfT:={t with dirty:=false}
def bL(S:StM)(t:BfT):StM×Int:=
 if (wrD0 S t).2≠0 then ({S with D:=(wrD0 S t).1},(wrD0 S t).2) else
 let D1:=(wrD0 S t).1
 let R:=opD D1 (wrE D1 t.n (aG t.pg.p)) (wrD t.n (aG t.pg.p))
 ({S with D:=R.1,pool:=if R.2=0 then dh S.pool t.n clB else S.pool},R.2)
def aJ(S:StM)(t:BfT):StM×Int:=if t.dirty=true then bL S t else (S,0)
def lP(k:Int)(t:BfT):BfT:={t with used:=k}
def tick(S:StM):StM:={S with time:=S.time+1}
def rmB(l:List BfT)(n:Int):List BfT:=l.filter fun t=>t.n != n
def bq(S:StM)(t:BfT):StM×Int:=if S.bufs<=(S.pool.length:Int) then (if (aJ S t).2≠0 then aJ S t else ({(aJ S t).1 with pool:=rmB (aJ S t).1.pool t.n},0)) else (S,0)
noncomputable def j6(S:StM)(n:Int)(t:BfT)(blk:Nat)(A:Option Addr)(c:Nat):StM×Int:=
 if (bq S t).2≠0 then bq S t else
 let pg:PgR:=⟨rdP (rdS S.D n).1,A,c⟩
 ({(bq S t).1 with pool:=(bq S t).1.pool++[⟨n,blk,pg,false,S.time⟩],rows:=(bq S t).1.rows++[pg]},0)
inductive LdR (S:StM) (n:Int):StM->Int->Prop where
 |hit (t:BfT) (h:t∈S.pool) (hn:t.n=n):LdR S n {tick S with pool:=dh S.pool n (lP (S.time+1))} 0
 |bad (h:∀t∈S.pool,t.n≠n) (he:(rdS S.D n).2≠0):LdR S n (tick S) (rdS S.D n).2
 |new (t:BfT) (blk:Nat) (A:Option Addr) (c:Nat) (h:∀t∈S.pool,t.n≠n) (he:(rdS S.D n).2=0) (ht:S.bufs<=(S.pool.length:Int)->t∈S.pool):LdR S n (j6 (tick S) n t blk A c).1 (j6 (tick S) n t blk A c).2
noncomputable def shP(D:DkM)(n:Int):PgS:=rdP (rdT (D.pgs.getD n.toNat fO)).1
noncomputable def aF(S:StM)(n:Int):PgS:=match S.pool.find? (fun t=>t.n==n) with
 |some t=>t.pg.p
 |none=>shP S.D n
structure SOk (S:StM) (c:Nat):Prop where
 bufs:1<=S.bufs/\S.bufs<=64
 pgs:S.D.pgs.length<=400
 ws:∀x∈S.D.pgs,x.ws.length<=c
 time:0<=S.time/\S.time<=(c:Int)
 ni:S.ni<=c
 nt:S.nt<=c
 right:∀t∈S.pool,bI t.pg.p
 nodup:(S.pool.map BfT.n).Nodup
 len:(S.pool.length:Int)<=S.bufs
 keys:∀t∈S.pool,0<=t.n/\t.n<(S.D.pgs.length:Int)
 recs:∀r∈S.L,bt r=true
 log:S.D.log=dZ S.L
 lsz:S.D.log.size<=1048576
 fl:S.D.fl<=S.D.log.size
 cl:∀t∈S.pool,t.dirty=false->t.pg.p=shP S.D t.n
def fx(t:BfT):Ent:=eB t.blk 120 #[.int .i64 t.pg.p.1,.int .i64 t.pg.p.2.1,.slice t.pg.A t.pg.p.2.2.length t.pg.c,.bool t.dirty,.int .i64 t.used]
def dw(r:PgR):Ent:=eO 9 1 (.slice r.A r.p.2.2.length r.c) r.p.2.2.length (r.p.2.2.map Value.string)
def stC(db:Nat)(S:StM)(mb:Nat)(RA:Option Addr)(rc:Nat)(EA:Option Addr)(ec ib tb:Nat):Array Value:=#[.pointer (some ⟨db,0,none⟩),.int .i64 S.bufs,.map (some mb),.int .i64 S.time,.slice RA S.recs.length rc,.slice EA S.recs.length ec,.map (some ib),.map (some tb),.int .i64 S.frm]
noncomputable def stL(sb db:Nat)(S:StM)(mb:Nat)(RA:Option Addr)(rc:Nat)(EA:Option Addr)(ec ib tb:Nat)(fpd:List Nat):List Ent:=
 [eB sb 109 (stC db S mb RA rc EA ec ib tb),eMx kcI ptX P_ 3 mb S.pool.length (atM S.pool),eA (S.pool.map fx),eM (S.rows.map dw),eO 27 8 (.slice RA S.recs.length rc) S.recs.length (S.recs.flatMap rcC),
  eO 3 1 (.slice EA S.recs.length ec) S.recs.length ((cL S.L S.recs.length).map (Value.int .i64)),eRc S.rr,eMx kcI ecB P_ 3 ib S.ni S.im,eMx kcI ecB P_ 3 tb S.nt S.told,eDk db S.D fpd]
def eSt(sb db:Nat)(S:StM)(fp:List Nat):Ent:=⟨fp,fun W=>((∀t∈S.pool,t.pg∈S.rows)/\∀t∈S.recs,t∈S.rr)/\∃mb RA rc EA ec ib tb fpd,fp=(stL sb db S mb RA rc EA ec ib tb fpd).flatMap (·.fp)/\(stL sb db S mb RA rc EA ec ib tb fpd).Pairwise Ent.apart/\∀e∈stL sb db S mb RA rc EA ec ib tb fpd,e.holds W/\e.loc⟩
theorem dx(sb db:Nat)(S:StM)(fp:List Nat):(eSt sb db S fp).loc:=fun W W' hk h=>by
 obtain⟨h0,mb,RA,rc,EA,ec,ib,tb,fpd,h1,h2,h3⟩:=h
 exact⟨h0,mb,RA,rc,EA,ec,ib,tb,fpd,h1,h2,fun e he=>⟨(h3 e he).2 W W' (fun k hk'=>hk k (by rw[eSt,h1];exact List.mem_flatMap.2 ⟨e,he,hk'⟩)) (h3 e he).1,(h3 e he).2⟩⟩
theorem gR{S:StM}(h:e=eSt sb db S fp):e=eSt sb db S e.fp:=by subst h;rfl
theorem St.st{L:List Ent}{S:StM}{fpd:List Nat}(h:St w0 bor (L++stL sb db S mb RA rc EA ec ib tb fpd) W)(h1:∀t∈S.pool,t.pg∈S.rows)(h2:∀t∈S.recs,t∈S.rr):∃fp,St w0 bor (L++[eSt sb db S fp]) W:=by
 refine⟨_,St.pack (E:=eSt sb db S ((stL sb db S mb RA rc EA ec ib tb fpd).flatMap (·.fp))) h rfl ⟨⟨h1,h2⟩,mb,RA,rc,EA,ec,ib,tb,fpd,rfl,(List.pairwise_append.1 h.apart).2.1,fun e he=>?_⟩ (dx _ _ _ _)⟩
 have h3:=h.ok e (List.mem_append_right _ he)
 exact⟨h3.holds,h3.loc⟩
theorem St.unst{L:List Ent}{S:StM}(h:St w0 bor (L++[eSt sb db S fp]) W):((∀t∈S.pool,t.pg∈S.rows)/\∀t∈S.recs,t∈S.rr)/\∃mb RA rc EA ec ib tb fpd,St w0 bor (L++stL sb db S mb RA rc EA ec ib tb fpd) W:=by
 obtain⟨h0,mb,RA,rc,EA,ec,ib,tb,fpd,h1,h2,h3⟩:=(h.ok (eSt sb db S fp) (by simp)).holds
 exact⟨h0,mb,RA,rc,EA,ec,ib,tb,fpd,h.unpackL h1 h3 h2⟩
def eSx(sb db:Nat)(Φ:StM->Prop)(fp:List Nat):Ent:=⟨fp,fun W=>∃S,Φ S/\(eSt sb db S fp).holds W⟩
theorem rV(sb db:Nat)(Φ:StM->Prop)(fp:List Nat):(eSx sb db Φ fp).loc:=fun W W' hk h=>let ⟨S,h1,h2⟩:=h;⟨S,h1,dx sb db S fp W W' hk h2⟩
theorem eY{Φ:StM->Prop}(h:e=eSx sb db Φ fp):e=eSx sb db Φ e.fp:=by subst h;rfl
theorem St.sx{L:List Ent}{Φ:StM->Prop}{S:StM}(h:St w0 bor (L++[eSt sb db S fp]) W)(hS:Φ S):St w0 bor (L++[eSx sb db Φ fp]) W:=St.repl (L2:=[]) h rfl (fun h1=>⟨S,hS,h1⟩) (rV _ _ _ _)
theorem St.unsx{L:List Ent}{Φ:StM->Prop}(h:St w0 bor (L++[eSx sb db Φ fp]) W):∃S,Φ S/\St w0 bor (L++[eSt sb db S fp]) W:=by
 obtain⟨S,h1,h2⟩:=(h.ok (eSx sb db Φ fp) (by simp)).holds
 exact⟨S,h1,St.repl (L2:=[]) h rfl (fun _=>h2) (dx _ _ _ _)⟩
theorem St.outB{L:List Ent}{A B:List BfT}{t:BfT}(h:St w0 bor (L++[eA ((A++t::B).map fx)]) W):St w0 bor (L++[eA ((A++B).map fx),fx t]) W:=by
 rw[List.map_append] at h |-
 exact St.outA h
theorem St.inB{L:List Ent}{A B:List BfT}{t:BfT}(h:St w0 bor (L++[eA ((A++B).map fx),fx t]) W):St w0 bor (L++[eA ((A++t::B).map fx)]) W:=by
 rw[List.map_append] at h |-
 exact St.inA h
theorem iw{rows:List PgR}(h:(eM (rows.map dw)).holds W){r:PgR}(hr:r∈rows):At W r.A (r.p.2.2.map Value.string):=At.of_own (h (dw r) (List.mem_map.2 ⟨_,hr,rfl⟩)).1
theorem St.absP{L:List Ent}{S:StM}{r:PgR}(h:St w0 bor (L++[dw r,eSt sb db S fp]) W):∃fp',St w0 bor (L++[eSt sb db {S with rows:=S.rows++[r]} fp']) W:=by
 have h0:St w0 bor ((L++[dw r])++[eSt sb db S fp]) W:=by rw[List.append_assoc];exact h
 obtain⟨⟨h1,h2⟩,mb,RA,rc,EA,ec,ib,tb,fpd,h3⟩:=h0.unst
 have h4:St w0 bor ((L++[eB sb 109 (stC db S mb RA rc EA ec ib tb),eMx kcI ptX P_ 3 mb S.pool.length (atM S.pool),eA (S.pool.map fx),eO 27 8 (.slice RA S.recs.length rc) S.recs.length (S.recs.flatMap rcC),eO 3 1 (.slice EA S.recs.length ec) S.recs.length ((cL S.L S.recs.length).map (Value.int .i64)),eRc S.rr,eMx kcI ecB P_ 3 ib S.ni S.im,eMx kcI ecB P_ 3 tb S.nt S.told,eDk db S.D fpd])++[eM (S.rows.map dw),dw r]) W:=h3.perm (by
  simp only[List.append_assoc]
  refine List.Perm.append_left L ?_
  show List.Perm [dw r,eB _ _ _,eMx _ _ _ _ _ _ _,eA _,eM _,eO _ _ _ _ _,eO _ _ _ _ _,eRc _,eMx _ _ _ _ _ _ _,eMx _ _ _ _ _ _ _,eDk _ _ _] [eB _ _ _,eMx _ _ _ _ _ _ _,eA _,eO _ _ _ _ _,eO _ _ _ _ _,eRc _,eMx _ _ _ _ _ _ _,eMx _ _ _ _ _ _ _,eDk _ _ _,eM _,dw r]
  refine(List.perm_append_comm (l₁:=[dw r]) (l₂:=[_,_,_,_,_,_,_,_,_,_])).trans ?_
  refine List.Perm.cons _ (List.Perm.cons _ (List.Perm.cons _ ?_))
  exact(List.perm_append_comm (l₁:=[_]) (l₂:=[_,_,_,_,_,_])).append_right [dw r])
 have h5:=h4.merge
 have h6:St w0 bor (L++stL sb db {S with rows:=S.rows++[r]} mb RA rc EA ec ib tb fpd) W:=h5.perm (by
  rw[List.append_assoc]
  refine List.Perm.append_left L ?_
  show List.Perm [eB _ _ _,eMx _ _ _ _ _ _ _,eA _,eO _ _ _ _ _,eO _ _ _ _ _,eRc _,eMx _ _ _ _ _ _ _,eMx _ _ _ _ _ _ _,eDk _ _ _,eM _] [eB _ _ _,eMx _ _ _ _ _ _ _,eA _,eM (List.map dw (S.rows++[r])),eO _ _ _ _ _,eO _ _ _ _ _,eRc _,eMx _ _ _ _ _ _ _,eMx _ _ _ _ _ _ _,eDk _ _ _]
  refine List.Perm.cons _ (List.Perm.cons _ (List.Perm.cons _ ?_))
  rw[List.map_append]
  exact List.perm_append_comm (l₁:=[_,_,_,_,_,_]) (l₂:=[_]))
 exact h6.st (S:={S with rows:=S.rows++[r]}) (fun t ht=>List.mem_append_left _ (h1 t ht)) h2
theorem St.absR{L:List Ent}{S:StM}{r:RcT}(h:St w0 bor (L++[gW r,eSt sb db S fp]) W):∃fp',St w0 bor (L++[eSt sb db {S with rr:=S.rr++[r]} fp']) W:=by
 have h0:St w0 bor ((L++[gW r])++[eSt sb db S fp]) W:=by rw[List.append_assoc];exact h
 obtain⟨⟨h1,h2⟩,mb,RA,rc,EA,ec,ib,tb,fpd,h3⟩:=h0.unst
 have h4:St w0 bor ((L++[eB sb 109 (stC db S mb RA rc EA ec ib tb),eMx kcI ptX P_ 3 mb S.pool.length (atM S.pool),eA (S.pool.map fx),eM (S.rows.map dw),eO 27 8 (.slice RA S.recs.length rc) S.recs.length (S.recs.flatMap rcC),eO 3 1 (.slice EA S.recs.length ec) S.recs.length ((cL S.L S.recs.length).map (Value.int .i64)),eMx kcI ecB P_ 3 ib S.ni S.im,eMx kcI ecB P_ 3 tb S.nt S.told,eDk db S.D fpd])++[eRc S.rr,gW r]) W:=h3.perm (by
  simp only[List.append_assoc]
  refine List.Perm.append_left L ?_
  show List.Perm [gW r,eB _ _ _,eMx _ _ _ _ _ _ _,eA _,eM _,eO _ _ _ _ _,eO _ _ _ _ _,eRc _,eMx _ _ _ _ _ _ _,eMx _ _ _ _ _ _ _,eDk _ _ _] [eB _ _ _,eMx _ _ _ _ _ _ _,eA _,eM _,eO _ _ _ _ _,eO _ _ _ _ _,eMx _ _ _ _ _ _ _,eMx _ _ _ _ _ _ _,eDk _ _ _,eRc _,gW r]
  refine(List.perm_append_comm (l₁:=[gW r]) (l₂:=[_,_,_,_,_,_,_,_,_,_])).trans ?_
  refine List.Perm.cons _ (List.Perm.cons _ (List.Perm.cons _ (List.Perm.cons _ (List.Perm.cons _ (List.Perm.cons _ ?_)))))
  exact(List.perm_append_comm (l₁:=[_]) (l₂:=[_,_,_])).append_right [gW r])
 have h5:=h4.mergeR
 have h6:St w0 bor (L++stL sb db {S with rr:=S.rr++[r]} mb RA rc EA ec ib tb fpd) W:=h5.perm (by
  rw[List.append_assoc]
  refine List.Perm.append_left L ?_
  show List.Perm [eB _ _ _,eMx _ _ _ _ _ _ _,eA _,eM _,eO _ _ _ _ _,eO _ _ _ _ _,eMx _ _ _ _ _ _ _,eMx _ _ _ _ _ _ _,eDk _ _ _,eRc (S.rr++[r])] [eB _ _ _,eMx _ _ _ _ _ _ _,eA _,eM _,eO _ _ _ _ _,eO _ _ _ _ _,eRc _,eMx _ _ _ _ _ _ _,eMx _ _ _ _ _ _ _,eDk _ _ _]
  refine List.Perm.cons _ (List.Perm.cons _ (List.Perm.cons _ (List.Perm.cons _ (List.Perm.cons _ (List.Perm.cons _ ?_)))))
  exact List.perm_append_comm (l₁:=[_,_,_]) (l₂:=[_]))
 exact h6.st (S:={S with rr:=S.rr++[r]}) h1 (fun t ht=>List.mem_append_left _ (h2 t ht))
theorem lk{A B:List BfT}{t:BfT}(h:((A++t::B).map BfT.n).Nodup):atM (A++t::B) t.n=some (some t.blk):=by
 rw[List.map_append,List.map_cons] at h
 have h1:A.find? (fun u=>u.n==t.n)=none:=by
  rw[List.find?_eq_none]
  intro u hu hc
  have h2:=(List.nodup_append.1 h).2.2 u.n (List.mem_map.2 ⟨u,hu,rfl⟩) t.n (by simp)
  exact h2 (by simpa using hc)
 rw[atM,List.find?_append,h1]
 simp
theorem kG{l:List BfT}{n:Int}(h:∀t∈l,t.n≠n):atM l n=none:=by
 rw[atM,List.find?_eq_none.2 (fun t ht=>by simpa using h t ht)];rfl
theorem GC{l:List BfT}{n:Int}{v:Option Nat}(h:atM l n=some v):∃t∈l,t.n=n/\v=some t.blk:=by
 rw[atM] at h
 obtain⟨t,h1,rfl⟩:=Option.map_eq_some_iff.1 h
 exact⟨t,List.mem_of_find?_eq_some h1,by simpa using List.find?_some h1,rfl⟩
theorem BC(l:List BfT)(n:Int):(∀t∈l,t.n≠n)\/∃A t B,l=A++t::B/\t.n=n:=by
 by_cases h:∃t∈l,t.n=n
 obtain⟨t,ht,hn⟩:=h
 obtain⟨A,B,e⟩:=List.append_of_mem ht
 exact .inr ⟨A,t,B,e,hn⟩
 exact .inl fun t ht hn=>h ⟨t,ht,hn⟩
theorem ku{A B:List BfT}{t:BfT}(h:((A++t::B).map BfT.n).Nodup)(f:BfT->BfT):dh (A++t::B) t.n f=A++f t::B:=by
 rw[List.map_append,List.map_cons] at h
 have h1:=List.nodup_append.1 h
 have h2:=List.nodup_cons.1 h1.2.1
 have hid:∀l:List BfT,(∀u∈l,u.n≠t.n)->l.map (fun u=>if u.n=t.n then f u else u)=l:=fun l hl=>by
  conv=>rhs;rw[<-List.map_id l]
  exact List.map_congr_left fun u hu=>by rw[if_neg (hl u hu)];rfl
 rw[dh,List.map_append,List.map_cons,if_pos rfl,hid A (fun u hu e=>h1.2.2 u.n (List.mem_map.2 ⟨u,hu,rfl⟩) t.n (by simp) e),hid B (fun u hu e=>h2.1 (List.mem_map.2 ⟨u,hu,e⟩))]
theorem BK{A B:List BfT}{t:BfT}(h:((A++t::B).map BfT.n).Nodup):rmB (A++t::B) t.n=A++B:=by
 rw[List.map_append,List.map_cons] at h
 have h1:=List.nodup_append.1 h
 have h2:=List.nodup_cons.1 h1.2.1
 have hid:∀l:List BfT,(∀u∈l,u.n≠t.n)->l.filter (fun u=>u.n != t.n)=l:=fun l hl=>List.filter_eq_self.2 fun u hu=>by simpa using hl u hu
 rw[rmB,List.filter_append,List.filter_cons,if_neg (by simp),hid A (fun u hu e=>h1.2.2 u.n (List.mem_map.2 ⟨u,hu,rfl⟩) t.n (by simp) e),hid B (fun u hu e=>h2.1 (List.mem_map.2 ⟨u,hu,e⟩))]
theorem oq{A B:List BfT}{t u:BfT}(hn:u.n=t.n)(hb:u.blk=t.blk):atM (A++u::B)=atM (A++t::B):=by
 funext x
 rw[atM,atM,List.find?_append,List.find?_append,List.find?_cons,List.find?_cons,hn]
 cases A.find? (fun t=>t.n==x) with
 |some v=>rfl
 |none=>
  cases hx:t.n==x with
  |true=>simp[hb]
  |false=>simp
end
section
open Go.RowKit Go.Maps Go.ChangeMaps
def j4(S:StM)(pg:PgR):StM:={S with rows:=S.rows++[pg]}
section
variable{w0 W:World}{bor:List Nat}{L:List Ent}{a0 a1 a2 a3 a4 a5 a6 a7 a8 a9 a10 a11 a12 a13 a14 a15 a16 a17 a18 a19 x:Ent}
theorem St.c0(h:St w0 bor (x::L) W):St w0 bor L W:=⟨h.upd,fun e he=>h.ok e (List.mem_cons_of_mem _ he),(List.pairwise_cons.1 h.apart).2⟩
theorem St.fr{E:Ent}{R:List Ent}(h:St w0 bor (R++L) W)(f:∀{L'},St w0 bor (L'++R) W->St w0 bor (L'++[E]) W):St w0 bor (E::L) W:=(f (h.perm List.perm_append_comm)).perm (List.perm_append_singleton _ _)
theorem St.u1(h:St w0 bor (a0::x::L) W):St w0 bor (x::a0::L) W:=h.perm (List.perm_middle (l₁:=[a0]))
theorem St.u2(h:St w0 bor (a0::a1::x::L) W):St w0 bor (x::a0::a1::L) W:=h.perm (List.perm_middle (l₁:=[a0,a1]))
theorem St.u3(h:St w0 bor (a0::a1::a2::x::L) W):St w0 bor (x::a0::a1::a2::L) W:=h.perm (List.perm_middle (l₁:=[a0,a1,a2]))
theorem St.u4(h:St w0 bor (a0::a1::a2::a3::x::L) W):St w0 bor (x::a0::a1::a2::a3::L) W:=h.perm (List.perm_middle (l₁:=[a0,a1,a2,a3]))
theorem St.u5(h:St w0 bor (a0::a1::a2::a3::a4::x::L) W):St w0 bor (x::a0::a1::a2::a3::a4::L) W:=h.perm (List.perm_middle (l₁:=[a0,a1,a2,a3,a4]))
theorem St.u6(h:St w0 bor (a0::a1::a2::a3::a4::a5::x::L) W):St w0 bor (x::a0::a1::a2::a3::a4::a5::L) W:=h.perm (List.perm_middle (l₁:=[a0,a1,a2,a3,a4,a5]))
theorem St.u7(h:St w0 bor (a0::a1::a2::a3::a4::a5::a6::x::L) W):St w0 bor (x::a0::a1::a2::a3::a4::a5::a6::L) W:=h.perm (List.perm_middle (l₁:=[a0,a1,a2,a3,a4,a5,a6]))
theorem St.u8(h:St w0 bor (a0::a1::a2::a3::a4::a5::a6::a7::x::L) W):St w0 bor (x::a0::a1::a2::a3::a4::a5::a6::a7::L) W:=h.perm (List.perm_middle (l₁:=[a0,a1,a2,a3,a4,a5,a6,a7]))
theorem St.u9(h:St w0 bor (a0::a1::a2::a3::a4::a5::a6::a7::a8::x::L) W):St w0 bor (x::a0::a1::a2::a3::a4::a5::a6::a7::a8::L) W:=h.perm (List.perm_middle (l₁:=[a0,a1,a2,a3,a4,a5,a6,a7,a8]))
theorem St.u10(h:St w0 bor (a0::a1::a2::a3::a4::a5::a6::a7::a8::a9::x::L) W):St w0 bor (x::a0::a1::a2::a3::a4::a5::a6::a7::a8::a9::L) W:=h.perm (List.perm_middle (l₁:=[a0,a1,a2,a3,a4,a5,a6,a7,a8,a9]))
theorem St.u11(h:St w0 bor (a0::a1::a2::a3::a4::a5::a6::a7::a8::a9::a10::x::L) W):St w0 bor (x::a0::a1::a2::a3::a4::a5::a6::a7::a8::a9::a10::L) W:=h.perm (List.perm_middle (l₁:=[a0,a1,a2,a3,a4,a5,a6,a7,a8,a9,a10]))
theorem St.u13(h:St w0 bor (a0::a1::a2::a3::a4::a5::a6::a7::a8::a9::a10::a11::a12::x::L) W):St w0 bor (x::a0::a1::a2::a3::a4::a5::a6::a7::a8::a9::a10::a11::a12::L) W:=h.perm (List.perm_middle (l₁:=[a0,a1,a2,a3,a4,a5,a6,a7,a8,a9,a10,a11,a12]))
theorem St.u14(h:St w0 bor (a0::a1::a2::a3::a4::a5::a6::a7::a8::a9::a10::a11::a12::a13::x::L) W):St w0 bor (x::a0::a1::a2::a3::a4::a5::a6::a7::a8::a9::a10::a11::a12::a13::L) W:=h.perm (List.perm_middle (l₁:=[a0,a1,a2,a3,a4,a5,a6,a7,a8,a9,a10,a11,a12,a13]))
theorem St.u16(h:St w0 bor (a0::a1::a2::a3::a4::a5::a6::a7::a8::a9::a10::a11::a12::a13::a14::a15::x::L) W):St w0 bor (x::a0::a1::a2::a3::a4::a5::a6::a7::a8::a9::a10::a11::a12::a13::a14::a15::L) W:=h.perm (List.perm_middle (l₁:=[a0,a1,a2,a3,a4,a5,a6,a7,a8,a9,a10,a11,a12,a13,a14,a15]))
variable{sb db:Nat}{S:StM}{fp:List Nat}
theorem St.unf(h:St w0 bor (eSt sb db S fp::L) W):((∀t∈S.pool,t.pg∈S.rows)/\∀t∈S.recs,t∈S.rr)/\∃mb RA rc EA ec ib tb fpd,St w0 bor (eB sb 109 #[vp db,vi S.bufs,.map (some mb),vi S.time,.slice RA S.recs.length rc,.slice EA S.recs.length ec,.map (some ib),.map (some tb),vi S.frm]::eMx kcI ptX P_ 3 mb S.pool.length (atM S.pool)::eA (List.map fx S.pool)::eM (List.map dw S.rows)::eO 27 8 (.slice RA S.recs.length rc) S.recs.length (S.recs.flatMap rcC)::eO 3 1 (.slice EA S.recs.length ec) S.recs.length ((cL S.L S.recs.length).map (Value.int .i64))::eRc S.rr::eMx kcI ecB P_ 3 ib S.ni S.im::eMx kcI ecB P_ 3 tb S.nt S.told::eDk db S.D fpd::L) W:=by
 obtain⟨h0,mb,RA,rc,EA,ec,ib,tb,fpd,h1⟩:=St.unst (h.perm (List.perm_append_singleton _ L).symm)
 exact⟨h0,mb,RA,rc,EA,ec,ib,tb,fpd,h1.perm List.perm_append_comm⟩
theorem St.stf{fpd:List Nat}(h:St w0 bor (stL sb db S mb RA rc EA ec ib tb fpd++L) W)(h1:∀t∈S.pool,t.pg∈S.rows)(h2:∀t∈S.recs,t∈S.rr):∃fp,St w0 bor (eSt sb db S fp::L) W:=by
 obtain⟨fp,h3⟩:=St.st (h.perm List.perm_append_comm) h1 h2
 exact⟨fp,h3.perm (List.perm_append_singleton _ _)⟩
theorem St.unx{Φ:StM->Prop}(h:St w0 bor (eSx sb db Φ fp::L) W):∃S,Φ S/\St w0 bor (eSt sb db S fp::L) W:=by
 obtain⟨S,h1,h2⟩:=St.unsx (h.perm (List.perm_append_singleton _ L).symm)
 exact⟨S,h1,h2.perm (List.perm_append_singleton _ _)⟩
theorem St.obf{A B:List BfT}{t:BfT}(h:St w0 bor (eA (List.map fx (A++t::B))::L) W):St w0 bor (eA (List.map fx (A++B))::eB t.blk 120 #[vi t.pg.p.1,vi t.pg.p.2.1,.slice t.pg.A t.pg.p.2.2.length t.pg.c,.bool t.dirty,vi t.used]::L) W:=
 (St.outB (h.perm (List.perm_append_singleton _ L).symm)).perm List.perm_append_comm
theorem St.ibf{A B:List BfT}{t:BfT}(h:St w0 bor (eA (List.map fx (A++B))::fx t::L) W):St w0 bor (eA (List.map fx (A++t::B))::L) W:=St.fr (R:=[_,_]) h St.inB
theorem St.apf{l:List PgR}{r:PgR}(h:St w0 bor (eM (List.map dw l)::dw r::L) W):St w0 bor (eM (List.map dw (l++[r]))::L) W:=St.fr (R:=[_,_]) h (fun h=>by rw[List.map_append];exact St.merge h)
theorem St.abf{l:List BfT}{t:BfT}(h:St w0 bor (eA (List.map fx l)::fx t::L) W):St w0 bor (eA (List.map fx (l++[t]))::L) W:=St.ibf (A:=l) (B:=[]) (by rw[List.append_nil];exact h)
theorem St.erf{n:Nat}(h:St w0 bor (eRx P k b r n m left cnt cur::L) W):St w0 bor (eMx kcI ptX P k b n m::L) W:=(St.endRx (h.perm (List.perm_append_singleton _ L).symm)).perm (List.perm_append_singleton _ _)
theorem St.nA{α:Type}(f:α->Ent)(h:St w0 bor L W):St w0 bor (eA (List.map f [])::L) W:=(St.packA (R:=[]) (by rw[List.append_nil];exact h)).perm (List.perm_append_singleton _ _)
theorem St.nM{α:Type}(f:α->Ent)(h:St w0 bor L W):St w0 bor (eM (List.map f [])::L) W:=h.emNil.perm (List.perm_append_singleton _ _)
theorem St.rPf{r:PgR}(h:St w0 bor (dw r::eSt sb db S fp::L) W):∃fp',St w0 bor (eSt sb db (j4 S r) fp'::L) W:=by
 obtain⟨f,h1⟩:=St.absP (L:=L) (h.perm (List.perm_append_comm (l₁:=[_,_])))
 exact⟨f,h1.perm (List.perm_append_singleton _ _)⟩
theorem St.rRn{r:RcT}(h:St w0 bor (gW r::eSt sb db S fp::L) W):∃S2 fp',{S with rr:=S.rr++[r]}=S2/\St w0 bor (eSt sb db S2 fp'::L) W:=by
 obtain⟨f,h1⟩:=St.absR (L:=L) (h.perm (List.perm_append_comm (l₁:=[_,_])))
 exact⟨_,f,rfl,h1.perm (List.perm_append_singleton _ _)⟩
end
end
section
open Go.RowKit
def ka(W:World)(A:Option Addr)(xs:List Value):Prop:=(A=none/\xs=[])\/∃g,A=some ⟨g,0,none⟩/\At W A xs
theorem ka.ext{A:Option Addr}(h:ka W A xs)(hx:Ext W W'):ka W' A xs:=h.imp id fun⟨g,h1,h3⟩=>⟨g,h1,h3.ext hx⟩
theorem ka.own{A:Option Addr}{n c base:Nat}{e:TypeId}(h:W.ownsRow base e 1 (.slice A n c) n xs):ka W A xs:=by
 have hA:=At.of_own h
 have hl:=h.1
 rcases h.2 with ⟨hv,h0⟩|⟨g,cap,cur,hv,_⟩
 injection hv with h1 h2 h3
 exact .inl ⟨h1,List.eq_nil_of_length_eq_zero (by omega)⟩
 injection hv with h1 h2 h3
 exact .inr ⟨g,h1,hA⟩
structure StO (W:World) (sb db:Nat) (S:StM) (mb:Nat) (RA:Option Addr) (rc:Nat) (EA:Option Addr) (ec ib tb:Nat):Prop where
 blk:Blk W sb 109 (stC db S mb RA rc EA ec ib tb)
 dk:jb W db S.D
 recs:At W RA (S.recs.flatMap rcC)
 ends:ka W EA ((cL S.L S.recs.length).map (Value.int .i64))
 own:∀t∈S.rr,At W t.A (t.r.eds.flatMap edC)
def kE(W:World)(sb db:Nat)(S:StM):Prop:=∃mb RA rc EA ec ib tb,StO W sb db S mb RA rc EA ec ib tb
theorem StO.blkL{S:StM}(h:StO W sb db S mb RA rc EA ec ib tb):Blk W sb 109 #[po db 0,.int .i64 S.bufs,.map (some mb),.int .i64 S.time,.slice RA S.recs.length rc,.slice EA S.recs.length ec,.map (some ib),.map (some tb),.int .i64 S.frm]:=h.blk
theorem StO.ext{S:StM}(h:StO W sb db S mb RA rc EA ec ib tb)(hx:Ext W W'):StO W' sb db S mb RA rc EA ec ib tb:=⟨h.blk.ext hx,h.dk.ext hx,h.recs.ext hx,h.ends.ext hx,fun t ht=>(h.own t ht).ext hx⟩
theorem kE.ext{S:StM}(h:kE W sb db S)(hx:Ext W W'):kE W' sb db S:=let ⟨mb,RA,rc,EA,ec,ib,tb,h1⟩:=h;⟨mb,RA,rc,EA,ec,ib,tb,h1.ext hx⟩
theorem Ed{sb db:Nat}{S:StM}{mb:Nat}{RA:Option Addr}{rc:Nat}{EA:Option Addr}{ec ib tb:Nat}{fpd:List Nat}(h:∀e∈stL sb db S mb RA rc EA ec ib tb fpd,e.holds W):StO W sb db S mb RA rc EA ec ib tb:=
 ⟨h (eB sb 109 (stC db S mb RA rc EA ec ib tb)) (by simp[stL]),eP (h (eDk db S.D fpd) (by simp[stL])),At.of_ownN (h (eO 27 8 (.slice RA S.recs.length rc) S.recs.length (S.recs.flatMap rcC)) (by simp[stL])),
  ka.own (h (eO 3 1 (.slice EA S.recs.length ec) S.recs.length ((cL S.L S.recs.length).map (Value.int .i64))) (by simp[stL])),fun t ht=>dP (h (eRc S.rr) (by simp[stL])) ht⟩
theorem j7{S:StM}(h:(eSt sb db S fp).holds W):kE W sb db S:=by
 obtain⟨_,mb,RA,rc,EA,ec,ib,tb,fpd,_,_,h3⟩:=h
 exact⟨mb,RA,rc,EA,ec,ib,tb,Ed fun e he=>(h3 e he).1⟩
theorem yd(L:List RecM){j:Nat}(h:i<=j):szF (L.take i)<=szF (L.take j):=by
 have e:L.take j=L.take i++(L.take j).drop i:=by
  have h1:=List.take_append_drop i (L.take j)
  rw[List.take_take,Nat.min_eq_left h] at h1
  exact h1.symm
 rw[e,szF,szF,List.map_append,List.sum_append]
 omega
theorem AT(L:List RecM)(j:Nat):(cL L j).Pairwise (·<=·):=by
 rw[cL,List.pairwise_map]
 refine List.Pairwise.imp ?_ (List.pairwise_lt_range (n:=j))
 intro a b h
 have h1:=yd L (i:=a+1) (j:=b+1) (by omega)
 omega
theorem yj(EA:Option Addr)(ec:Nat)(L:List RecM)(x:Int)(w:World)(hA:ka w EA ((cL L L.length).map (Value.int .i64)))(hL:L.length<4611686018427387904):
  Calls P_ 67 #[.slice EA L.length ec,.int .i64 x] w (fun e w'=>∃b,Ret (.tuple #[.int .i64 (((cL L L.length).countP (·<x):Nat):Int),.bool b]) w e w'):=by
 rcases Nat.eq_zero_or_pos L.length with h0|h0
 obtain rfl:L=[]:=List.eq_nil_of_length_eq_zero h0
 refine(Tryz.slices_BinarySearch_int_empty EA ec x w).mono ?_
 rintro e w' ⟨rfl,rfl⟩
 exact⟨false,Ret.of rfl (Ext.refl _)⟩
 rcases hA with ⟨_,h1⟩|⟨g,rfl,hA⟩
 have:=congrArg List.length h1
 rw[List.length_map,kw] at this
 have h2:L.length=0:=this
 omega
 refine(Tryz.slices_BinarySearch_int g 0 L.length ec (cL L L.length) x w (by rw[kw];exact Nat.le_refl _) hL (fun j hj=>?_) ?_).mono ?_
 obtain⟨ad,e1,_,e3⟩:=hA j (.int .i64 ((cL L L.length).getD j 0)) (by rw[List.getElem?_map,List.getD_eq_getElem?_getD,List.getElem?_eq_getElem hj];rfl)
 cases e1
 rw[Addr.add_lit] at e3
 exact e3
 rw[List.take_of_length_le (by rw[kw];exact Nat.le_refl _)];exact AT _ _
 rintro e w' ⟨rfl,q,rfl⟩
 rw[List.take_of_length_le (by rw[kw];exact Nat.le_refl _)]
 exact⟨_,Ret.of rfl ((Ext.refl w).drewN _)⟩
def tB1:Value->Bool
 | .tuple a=>(match (a.getD 1 undef) with| .bool b=>b|_=>false)
 |_=>false
theorem Iv{S:StM}(h:ka W EA ((cL S.L S.recs.length).map (Value.int .i64))):ka W EA ((cL S.L S.L.length).map (Value.int .i64)):=by
 rw[StM.L,List.length_map];exact h
theorem Mz{S:StM}{x:Int}{Q:Ending->World->Prop}(h:Calls P_ 67 #[.slice EA S.L.length ec,.int .i64 x] w Q):Calls P_ 67 #[.slice EA S.recs.length ec,.int .i64 x] w Q:=by
 rw[StM.L,List.length_map] at h;exact h
theorem Lf(sb db:Nat)(S:StM)(mb:Nat)(RA:Option Addr)(rc:Nat)(EA:Option Addr)(ec ib tb:Nat)(w:World)(hB:StO w sb db S mb RA rc EA ec ib tb):
  Calls P_ 23 #[po sb 0] w (Ret (.int .i64 (S.recs.length:Int)) w):=by
 go_enter func23,ntmps23
 have aj:=St.start w
 refine wsq [.k 2 (vi 0)] ?_
 refine aa (wq (wsq [.m 3 0] ?_))
 refine sqv (.bool false) aj (by
   exact sv0 rfl rfl rfl rfl rfl (fun _ _ _ h=>h) fun c g W X cx=>by
    have fy:c (.tmp 3)=vp sb:=(cx.ou 3)
    simp[go_sem,cx.sees.const,fy]) fun W3 aU=>?_
 refine aa (wcf rfl (wp_skip (aa (wsq [.m 5 0,.k 6 (vp sb),.k 7 (po sb 4)] ?_))))
 refine sql (.slice RA S.recs.length rc) aU (fun cx=>rL1 (cx.ou 7) ((Blk.ext hB.blkL cx.upd.to_ext).cell 4)) ?_
 refine sqp [.k 9 (vi ((S.recs.length:Int))),.m 2 9] ?_
 exact aa (wp_ret (bpr (vi ((S.recs.length:Int))) (ag results23 rpt) (Ret.of rfl aU.ext)))
theorem KS(sb db:Nat)(S:StM)(mb:Nat)(RA:Option Addr)(rc:Nat)(EA:Option Addr)(ec ib tb:Nat)(w:World)(hB:StO w sb db S mb RA rc EA ec ib tb):
  Calls P_ 45 #[po sb 0] w (Ret (.int .i64 S.frm) w):=by
 go_enter func45,ntmps45
 have aj:=St.start w
 refine wsq [.k 2 (vi 0)] ?_
 refine aa (wq (wsq [.m 3 0] ?_))
 refine sqv (.bool false) aj (by
   exact sv0 rfl rfl rfl rfl rfl (fun _ _ _ h=>h) fun c g W X cx=>by
    have fy:c (.tmp 3)=vp sb:=(cx.ou 3)
    simp[go_sem,cx.sees.const,fy]) fun W3 aU=>?_
 refine aa (wcf rfl (wp_skip (aa (wsq [.m 5 0,.k 6 (vp sb),.k 7 (po sb 8)] ?_))))
 refine sql (vi S.frm) aU (fun cx=>rL1 (cx.ou 7) ((Blk.ext hB.blkL cx.upd.to_ext).cell 8)) ?_
 refine sqp [.m 2 8] ?_
 exact aa (wp_ret (bpr (vi S.frm) (ag results45 rpt) (Ret.of rfl aU.ext)))
theorem G9(sb db:Nat)(S:StM)(mb:Nat)(RA:Option Addr)(rc:Nat)(EA:Option Addr)(ec ib tb:Nat)(w:World)(hB:StO w sb db S mb RA rc EA ec ib tb):
  Calls P_ 24 #[po sb 0] w (Ret (.int .i64 (S.D.pgs.length:Int)) w):=by
 go_enter func24,ntmps24
 have aj:=St.start w
 refine wsq [.k 2 (vi 0)] ?_
 refine aa (wq (wsq [.m 3 0] ?_))
 refine sqv (.bool false) aj (by
   exact sv0 rfl rfl rfl rfl rfl (fun _ _ _ h=>h) fun c g W X cx=>by
    have fy:c (.tmp 3)=vp sb:=(cx.ou 3)
    simp[go_sem,cx.sees.const,fy]) fun W3 aU=>?_
 refine aa (wcf rfl (wp_skip (aa (wsq [.m 5 0,.k 6 (vp sb),.k 7 (vp sb)] ?_))))
 refine sql (vp db) aU (fun cx=>rL1 (cx.ou 7) ((Blk.ext hB.blkL cx.upd.to_ext).cell 0)) ?_
 refine sqk (vi ((S.D.pgs.length:Int))) aU (fun cx=>⟨_,CG db S.D _ (hB.dk.ext cx.upd.to_ext),(av (cx.ou 8))⟩) fun W8 dI=>?_
 refine sqp [.m 2 9] ?_
 exact aa (wp_ret (bpr (vi ((S.D.pgs.length:Int))) (ag results24 rpt) (Ret.of rfl dI.ext)))
theorem CK(sb db:Nat)(S:StM)(mb:Nat)(RA:Option Addr)(rc:Nat)(EA:Option Addr)(ec ib tb:Nat)(w:World)(hB:StO w sb db S mb RA rc EA ec ib tb)(hL0:S.L.length<4611686018427387904)(hfl:S.D.fl<=10000000):
  Calls P_ 26 #[po sb 0] w (Ret (.int .i64 (S.F:Int)) w):=by
 go_enter func26,ntmps26
 have aj:=St.start w
 refine wsq [.k 2 (vi 0)] ?_
 refine aa (wq (wsq [.m 5 0] ?_))
 refine sqv (.bool false) aj (by
   exact sv0 rfl rfl rfl rfl rfl (fun _ _ _ h=>h) fun n g W X cx=>by
    have qY:n (.tmp 5)=vp sb:=(cx.ou 5)
    simp[go_sem,cx.sees.const,qY]) fun W3 aU=>?_
 refine aa (wcf rfl (wp_skip (aa (wq (aB [0,1,3,7,0,16,48,112,240,496,1023,2047,4095,4095,8191,32767] [] [] [] [.k 8 (vp sb),.k 9 (vp sb),.k 10 (po sb 5),.c 11 (.slice EA S.recs.length ec),.k 12 (vp sb),.k 13 (vp sb),.k 14 (vp sb),.c 15 (vp db),.c 16 (vi ((S.D.fl:Int))),tI 17 ((S.D.fl:Int)+1) (by omega),.a 18,.a 7,.c 19 (vi ((S.F:Int))),.a 20,.k 3 (vi ((S.F:Int))),.a 4] (fun ix j g X=>match ix with|0|1|2|3|4|5|6|7|8|9=>True|10=>j 18= .tuple #[vi ((S.F:Int)),.bool (tB1 (g 18))]|11=>j 7= .tuple #[vi ((S.F:Int)),.bool (tB1 (g 18))]|12=>True|13=>j 20= .bool (tB1 (g 18))|14=>True|15=>j 4= .bool (tB1 (g 18))|_=>True) [] [3,7,8,10,11,12,13,15] [(3,14,2,5),(2,11,1,3),(0,0,11,11),(0,12,2,2)] aU ?_ ?_ ?_)))))
 exact fun ix _ _ _ _ _ _ hs hb hx h=>match ix,h with
 |10,h=>by dsimp only;rw[<-hs 18 rfl,<-hb 18 rfl];exact h
 |11,h=>by dsimp only;rw[<-hs 7 rfl,<-hb 18 rfl];exact h
 |13,h=>by dsimp only;rw[<-hs 20 rfl,<-hb 18 rfl];exact h
 |15,h=>by dsimp only;rw[<-hs 4 rfl,<-hb 18 rfl];exact h
 |0,_|1,_|2,_|3,_|4,_|5,_|6,_|7,_|8,_|9,_|12,_|14,_|_+16,_=>trivial
 refine⟨?_,?_,?_,?_,?_,?_,?_,?_,trivial⟩
 exact xs4 rfl id fun cx=>rL1 (cx.an 2) ((Blk.ext hB.blkL cx.upd.to_ext).cell 5)
 exact xs4 rfl id fun cx=>rL1 (cx.an 6) ((Blk.ext hB.blkL cx.upd.to_ext).cell 0)
 exact xsc rfl id rfl rfl fun cx=>⟨_,yH db S.D _ (hB.dk.ext cx.upd.to_ext),(av (cx.an 7))⟩
 refine svA fun n g W X cx=>?_
 refine ak.call (rCF (args:=#[.slice EA S.recs.length ec,vi ((S.D.fl:Int)+1)]) cx.sees (aN (cx.an 3) (cx.an 9))) ?_
 refine(Mz (yj EA ec S.L ((S.D.fl:Int)+1) _ (Iv (hB.ends.ext cx.upd.to_ext)) hL0)).mono ?_
 rintro e W1 ⟨b4,rfl,hx⟩
 refine⟨_,rfl,bK [] rfl rfl hx (by simp) List.Pairwise.nil (fun j p X' hs hb hv hN=>?_)⟩
 have aH:=(hv 18 rfl).1;have aO:=(hv 18 rfl).2
 exact aH.trans (by rw[aO];exact rfl)
 exact sv rfl rfl rfl rfl rfl _ (fun _ _ _ h=>h) (fun g p h=>by rw[h 18 (by decide)]) fun n g W X cx=>cM rfl (dTn (cx.an 10))
 exact xs4 rfl id fun cx=>bH rfl (dTn (cx.an 11)) rfl
 exact sv rfl rfl rfl rfl rfl _ (fun _ _ _ h=>h) (fun g p h=>by rw[h 18 (by decide)]) fun n g W X cx=>bH rfl (dTn (cx.an 11)) rfl
 exact sv rfl rfl rfl rfl rfl _ (fun _ _ _ h=>h) (fun g p h=>by rw[h 18 (by decide)]) fun n g W X cx=>cS rfl (dTn (cx.an 13))
 intro j g X W4 hD aZ fr aC
 simp only[ed 18 ((dTn (hD 10 lq))),ed 7 ((dTn (hD 11 lq))),ed 20 ((dTn (hD 13 lq))),ed 4 ((dTn (hD 15 lq)))] at aC
 generalize tB1 (g 18)=SO at aC
 clear hD;subst aC;clear j g X
 refine aa (wsq [.m 21 3,.m 2 21] ?_)
 exact aa (wp_ret (bpr (vi ((S.F:Int))) (ag results26 rpt) (Ret.of rfl aZ.ext)))
theorem Fo(sb db:Nat)(S:StM)(w:World)(h:kE w sb db S):Calls P_ 23 #[po sb 0] w (Ret (.int .i64 (S.recs.length:Int)) w):=by
 obtain⟨mb,RA,rc,EA,ec,ib,tb,h1⟩:=h
 exact Lf sb db S mb RA rc EA ec ib tb w h1
theorem wK(sb db:Nat)(S:StM)(w:World)(h:kE w sb db S):Calls P_ 45 #[po sb 0] w (Ret (.int .i64 S.frm) w):=by
 obtain⟨mb,RA,rc,EA,ec,ib,tb,h1⟩:=h
 exact KS sb db S mb RA rc EA ec ib tb w h1
theorem oW(sb db:Nat)(S:StM)(w:World)(h:kE w sb db S):Calls P_ 24 #[po sb 0] w (Ret (.int .i64 (S.D.pgs.length:Int)) w):=by
 obtain⟨mb,RA,rc,EA,ec,ib,tb,h1⟩:=h
 exact G9 sb db S mb RA rc EA ec ib tb w h1
theorem qA(sb db:Nat)(S:StM)(w:World)(h:kE w sb db S)(hL0:S.L.length<4611686018427387904)(hfl:S.D.fl<=10000000):Calls P_ 26 #[po sb 0] w (Ret (.int .i64 (S.F:Int)) w):=by
 obtain⟨mb,RA,rc,EA,ec,ib,tb,h1⟩:=h
 exact CK sb db S mb RA rc EA ec ib tb w h1 hL0 hfl
theorem J4(sb db:Nat)(S:StM)(mb:Nat)(RA:Option Addr)(rc:Nat)(EA:Option Addr)(ec ib tb:Nat)(k:Nat)(rt:RcT)(w:World)(hB:StO w sb db S mb RA rc EA ec ib tb)(hk:S.frm=(k:Int)+1)(hrt:S.recs[k]? =some rt)(hL0:S.recs.length<4611686018427387904):
  Calls P_ 25 #[po sb 0] w (Ret (.string rt.r.note) w):=by
 have hbk:Blk w sb 109 #[po db 0,.int .i64 S.bufs,.map (some mb),.int .i64 S.time,.slice RA S.recs.length rc,.slice EA S.recs.length ec,.map (some ib),.map (some tb),.int .i64 ((k:Int)+1)]:=by rw[<-hk];exact hB.blkL
 have hkl:=(List.getElem?_eq_some_iff.1 hrt).1
 go_enter func25,ntmps25
 have aj:=St.start w
 refine wsq [.k 2 (.string ⟨#[]⟩)] ?_
 refine aa (wq (wsq [.m 3 0] ?_))
 refine sqv (.bool false) aj (by
   exact sv0 rfl rfl rfl rfl rfl (fun _ _ _ h=>h) fun g j W X cx=>by
    have fy:g (.tmp 3)=vp sb:=(cx.ou 3)
    simp[go_sem,cx.sees.const,fy]) fun W3 aU=>?_
 refine aa (wcf rfl (wp_skip (aa (wq (bG [0,1,3,7,0,16,48,112,240,511,1023,2047,4095] [] [.k 5 (vp sb),.k 6 (vp sb),.k 7 (po sb 4),.c 8 (.slice RA S.recs.length rc),.k 9 (vp sb),.k 10 (vp sb),.k 11 (po sb 8),.c 12 (vi ((k:Int)+1)),tJ 13 (((k:Int)+1)-1) (k:Int) (by omega) (by omega),.c 14 (.pointer (some ((ad RA).add (k*8)))),.c 15 (.pointer (some ((ad RA).add (k*8+7)))),.c 16 (.string rt.r.note),.k 2 (.string rt.r.note)] [] [3,7,9,10,11] [(2,12,1,3),(2,0,12,14)] aU ?_ fun W4 aZ=>?_)))))
 refine⟨?_,?_,?_,?_,?_,trivial⟩
 exact xs4 rfl id fun cx=>rL1 (cx.an 2) ((Blk.ext hbk cx.upd.to_ext).cell 4)
 exact xs4 rfl id fun cx=>rL1 (cx.an 6) ((Blk.ext hbk cx.upd.to_ext).cell 8)
 exact xs4 rfl id fun cx=>aD (e:=27) (m:=k) (sz:=8) rfl (by kernel_rfl) (by kernel_rfl) (cx.an 3) (cx.an 8) (by omega) (by omega) (hB.recs.ext cx.upd.to_ext) (bm (sz:=8) cG (by decide) (by omega))
 exact xs4 rfl id fun cx=>bn rfl (by kernel_rfl) (cx.an 9)
 exact xs4 rfl id fun cx=>rL1 (cx.an 10) (At.eltc (f:=rcC) (k:=7) cG (hB.recs.ext cx.upd.to_ext) hrt rfl)
 exact aa (wp_ret (bpr (.string rt.r.note) (ag results25 rpt) (Ret.of rfl aZ.ext)))
theorem xv(sb db:Nat)(S:StM)(k:Nat)(rt:RcT)(w:World)(h:kE w sb db S)(hk:S.frm=(k:Int)+1)(hrt:S.recs[k]? =some rt)(hL0:S.recs.length<4611686018427387904):Calls P_ 25 #[po sb 0] w (Ret (.string rt.r.note) w):=by
 obtain⟨mb,RA,rc,EA,ec,ib,tb,h1⟩:=h
 exact J4 sb db S mb RA rc EA ec ib tb k rt w h1 hk hrt hL0
end
section
open Go.RowKit
def d5(sb db:Nat)(R:StM×Int)(fp:List Nat)(w:World)(e:Ending)(w':World):Prop:=e= .returned (.int .i64 R.2)/\∃fp',St w fp [eSt sb db R.1 fp'] w'
theorem d5.of{R R':StM×Int}{fp':List Nat}(h:R=R')(hs:St w fp ([]++[eSt sb db R'.1 fp']) w'):d5 sb db R fp w (.returned (.int .i64 R'.2)) w':=by
 subst h;exact⟨rfl,_,hs⟩
theorem Gu{S:StM}{t:BfT}(h:(S.F:Int)<t.pg.p.2.1)(h2:(opD S.D 0 flD).2≠0):bL S t=({S with D:=(opD S.D 0 flD).1},(opD S.D 0 flD).2):=by
 have e:wrD0 S t=opD S.D 0 flD:=if_pos h
 rw[bL,e,if_pos h2]
theorem ye{S:StM}{t:BfT}{D1:DkM}(h:wrD0 S t=(D1,0)){R:DkM×Int}(hR:opD D1 (wrE D1 t.n (aG t.pg.p)) (wrD t.n (aG t.pg.p))=R)(h2:R.2≠0):bL S t=({S with D:=R.1},R.2):=by
 subst hR
 rw[bL,h,if_neg (by simp)]
 dsimp only
 rw[if_neg h2]
theorem yQ{S:StM}{A B:List BfT}{t:BfT}{D1:DkM}(h:wrD0 S t=(D1,0)){R:DkM×Int}(hR:opD D1 (wrE D1 t.n (aG t.pg.p)) (wrD t.n (aG t.pg.p))=R)(h2:R.2=0)(hp:S.pool=A++t::B)(hd:((A++t::B).map BfT.n).Nodup):bL S t=({S with D:=R.1,pool:=A++clB t::B},R.2):=by
 subst hR
 rw[bL,h,if_neg (by simp)]
 dsimp only
 rw[if_pos h2,hp,ku hd]
theorem J7{S:StM}{t:BfT}(h:¬(S.F:Int)<t.pg.p.2.1):wrD0 S t=(S.D,0):=if_neg h
theorem GJ{S:StM}{t:BfT}(h:(S.F:Int)<t.pg.p.2.1)(h2:(opD S.D 0 flD).2=0):wrD0 S t=((opD S.D 0 flD).1,0):=by
 rw[wrD0,if_pos h];exact Prod.ext rfl h2
theorem tj(D:DkM):(opD D 0 flD).1.pgs=D.pgs:=by unfold opD;split<;>first|rfl|(split<;>first|rfl|(split<;>rfl))
theorem DU{S:StM}{A B:List BfT}{t:BfT}(hAB:S.pool=A++t::B)(hrw:∀t∈S.pool,t.pg∈S.rows):∀u∈A++clB t::B,u.pg∈S.rows:=fun u hu=>by
 rcases List.mem_append.1 hu with h|h
 exact hrw u (by rw[hAB];simp[h])
 rcases List.mem_cons.1 h with rfl|h
 exact hrw t (by rw[hAB];simp)
 exact hrw u (by rw[hAB];simp[h])
theorem uF(sb db:Nat)(S:StM)(A B:List BfT)(t:BfT)(c:Nat)(fp:List Nat)(w:World)(hB:(eSt sb db S fp).holds w)(hlt:∀k∈fp,k<w.heap.size)(hok:SOk S c)(hc:c<=900000000)(hAB:S.pool=A++t::B):
  Calls P_ 138 #[po sb 0,.int .i64 t.n,po t.blk 0] w (d5 sb db (bL S t) fp w):=by
 have st1:St w fp [eSt sb db S fp] w:=St.lend hB (dx _ _ _ _) hlt
 go_enter func138,ntmps138
 have aj:=st1
 obtain⟨⟨hrw,hrr⟩,mb,RA,rc,EA,ec,ib,tb,fpd,hv1_⟩:=aj.unf
 rw[hAB] at hv1_
 have ho2_:=St.obf (t:=t) hv1_.u2
 have htm:t∈S.pool:=by rw[hAB];simp
 have hri:=hok.right t htm
 have hrt:=hrw t htm
 have hw:∀x∈S.D.pgs,x.ws.length<=1000000000:=fun x hx=>Nat.le_trans (hok.ws x hx) (by omega)
 have hlz:=hok.lsz
 have hfz:=hok.fl
 have hll:S.L.length<=1048576:=by have h1:=om hok.recs;have h2:=hok.log;have h3:=congrArg ByteArray.size h2;rw[cj] at h3;omega
 have hrpp:=cT hri.1
 refine wsq [.k 6 (vi 0)] ?_
 refine aa (wq (wq (bG [0,1,3,7,15,0,32,127] [[],[],[],[],[1],[],[2,10,5,6,7]] [.k 10 (po t.blk 0),.k 11 (po t.blk 0),.k 12 (po t.blk 0),.k 13 (po t.blk 1),.c 14 (vi t.pg.p.2.1),.k 15 (vp sb),.c 16 (vi ((S.F:Int))),.k 17 (.bool (decide ((S.F:Int)<t.pg.p.2.1)))] [0,1,2,3,4,5,6,7,8,9,10] [4,6] [(10,0,8,18)] ho2_ ?_ fun W4 aZ=>?_)))
 refine⟨?_,?_,trivial⟩
 exact xs4 rfl id fun cx=>rL1 (cx.an 3) ((cx.bi 1 rfl).cell 1)
 exact xsc rfl id rfl rfl fun cx=>⟨_,qA sb db S _ ⟨_,_,_,_,_,_,_,⟨(cx.bi 2 rfl),eP (CtxV.holdF cx (cx.init 10 _ rfl) rfl),At.of_ownN (cx.ri 5 rfl),ka.own (cx.ri 6 rfl),fun t ht=>dP (CtxV.holdF cx (cx.init 7 _ rfl) rfl) ht⟩⟩ (by omega) (by omega),(av (cx.an 5))⟩
 refine aa (wds (fun ee IU=>?_) fun ee IU=>?_)
 refine wsq [.m 18 0,.k 19 (vp sb),.k 20 (vp sb)] ?_
 refine am 2 aZ ?_
 refine bF (fun X_=>X_.fp) (vi ((opD S.D 0 flD).2)) (fun zU=>eDk db ((opD S.D 0 flD).1) zU) 10 aZ (by
   refine svA fun y z W X cx=>?_
   refine ak.call (rCF (args:=#[vp db]) cx.sees (av (cx.ou 21))) ?_
   refine(lS db S.D _ _ (CtxV.holdF cx (cx.init 10 _ rfl) rfl) (CtxV.ltF cx (cx.init 10 _ rfl) rfl) (by omega)).mono ?_
   rintro e W1 ⟨rfl,fp4,aM⟩
   refine⟨_,rfl,aI (E:=eDk db S.D fpd) [eDk db (opD S.D 0 flD).1 fp4] (cx.init 10 _ rfl) rfl rfl aM (fun j g X' hs hb hv hN=>?_)⟩
   have aH:=(hv 22 rfl).1;have aO:=(hv 22 rfl).2
   exact⟨aH.trans rfl,cF ((List.cons.inj hN).1)⟩) fun zU xw dL=>?_
 refine sqp [.m 7 22] ?_
 refine aa (wsq [.m 23 7,.k 24 (.bool (((opD S.D 0 flD).2) != 0))] ?_)
 refine aa (wbs (fun gO=>?_) fun gO=>?_)
 have pF:=bne_iff_ne.1 gO
 refine wsq [.m 25 7,.m 6 25] ?_
 refine aa (wp_ret (ai ?_))
 refine bpr (vi ((opD S.D 0 flD).2)) (ag results138 rpt) ?_
 have hi17_:=St.ibf (t:=t) dL
 obtain⟨fp18_,hk18_⟩:=St.stf (S:={S with D:=(opD S.D 0 flD).1}) (by have h_:=hi17_.u2.u2;rw[<-hAB] at h_;exact h_) (hrw) (hrr)
 exact d5.of (Gu (of_decide_eq_true ee) (by simpa using gO)) hk18_
 have pF:=bne_eq_false_iff_eq.1 gO
 refine wp_skip (aa (wq ?_))
 have hD1:=GJ (of_decide_eq_true ee) (by simpa using gO)
 have hw2:∀x∈(opD S.D 0 flD).1.pgs,x.ws.length<=1000000000:=by rw[tj];exact hw
 refine sqs [.m 27 2,.k 28 (po t.blk 0),.k 29 (po t.blk 0)] ?_
 refine bD 1 3 dL ?_
 refine sqk (.tuple #[.string (aG t.pg.p),vi 0]) dL (fun cx=>⟨_,nq (mP hri) _ _ _ (iw (CtxV.holdF cx (cx.init 4 _ rfl) rfl) hrt) (ef hri.1),(av (cx.ou 30))⟩) fun sE cu=>?_
 refine sqp [.m 26 31,.k 32 (.string (aG t.pg.p)),.k 33 (vi 0),.m 8 32,.m 9 33] ?_
 refine aa (wq (wsq [.m 34 9,.k 35 (.bool true)] ?_))
 refine aa (wct rfl (sqs [.m 36 0,.k 37 (vp sb),.k 38 (vp sb)] ?_))
 refine am 2 cu ?_
 refine sqp [.m 40 1,.m 41 8] ?_
 refine bF (fun X_=>X_.fp) (vi ((opD ((opD S.D 0 flD).1) (wrE ((opD S.D 0 flD).1) t.n (aG t.pg.p)) (wrD t.n (aG t.pg.p))).2)) (fun FV=>eDk db ((opD ((opD S.D 0 flD).1) (wrE ((opD S.D 0 flD).1) t.n (aG t.pg.p)) (wrD t.n (aG t.pg.p))).1) FV) 10 cu (by
   refine svA fun y z W X cx=>?_
   refine ak.call (gl (args:=#[vp db,vi t.n,.string (aG t.pg.p)]) rfl cx.sees rfl (by kernel_rfl) (dH (cx.ou 39) (cx.ou 40) (cx.ou 41))) ?_
   refine(ug db ((opD S.D 0 flD).1) t.n (aG t.pg.p) _ _ (CtxV.holdF cx (cx.init 10 _ rfl) rfl) (CtxV.ltF cx (cx.init 10 _ rfl) rfl) hw2).mono ?_
   rintro e W1 ⟨rfl,fp4,aM⟩
   refine⟨_,rfl,aI (E:=eDk db ((opD S.D 0 flD).1) zU) [eDk db (opD ((opD S.D 0 flD).1) (wrE ((opD S.D 0 flD).1) t.n (aG t.pg.p)) (wrD t.n (aG t.pg.p))).1 fp4] (cx.init 10 _ rfl) rfl rfl aM (fun j g X' hs hb hv hN=>?_)⟩
   have aH:=(hv 42 rfl).1;have aO:=(hv 42 rfl).2
   exact⟨aH.trans rfl,cF ((List.cons.inj hN).1)⟩) fun FV Jn gY=>?_
 refine sqp [.m 9 42] ?_
 refine aa (wq (wsq [.m 43 9,.k 44 (.bool (((opD ((opD S.D 0 flD).1) (wrE ((opD S.D 0 flD).1) t.n (aG t.pg.p)) (wrD t.n (aG t.pg.p))).2)==0))] ?_))
 refine aa (wbs (fun lR=>?_) fun lR=>?_)
 have Dh:=beq_iff_eq.1 lR
 refine sqs [.m 45 2,.k 46 (po t.blk 0),.k 47 (po t.blk 3)] ?_
 refine aT (n:=1) 1 #[vi t.pg.p.1,vi t.pg.p.2.1,.slice t.pg.A t.pg.p.2.2.length t.pg.c,.bool false,vi t.used] gY fun PU vg=>?_
 refine aa (wsq [.m 48 9,.m 6 48] ?_)
 refine aa (wp_ret ?_)
 refine bpr (vi ((opD ((opD S.D 0 flD).1) (wrE ((opD S.D 0 flD).1) t.n (aG t.pg.p)) (wrD t.n (aG t.pg.p))).2)) (ag results138 rpt) ?_
 have hi48_:=St.ibf (t:=(clB t)) vg
 obtain⟨fp49_,hk49_⟩:=St.stf (S:={S with D:=(opD ((opD S.D 0 flD).1) (wrE ((opD S.D 0 flD).1) t.n (aG t.pg.p)) (wrD t.n (aG t.pg.p))).1,pool:=A++clB t::B}) (by have h_:=hi48_.u2.u2;rw[<-oq (A:=A) (B:=B) (t:=t) (u:=clB t) rfl rfl,show (A++t::B).length=(A++clB t::B).length by simp] at h_;exact h_) (fun u hu=>DU hAB hrw u hu) (hrr)
 exact d5.of (yQ hD1 rfl (by simpa using lR) hAB (by rw[<-hAB];exact hok.nodup)) hk49_
 have Dh:=beq_eq_false_iff_ne.1 lR
 refine wp_skip (aa (wsq [.m 48 9,.m 6 48] ?_))
 refine aa (wp_ret ?_)
 refine bpr (vi ((opD ((opD S.D 0 flD).1) (wrE ((opD S.D 0 flD).1) t.n (aG t.pg.p)) (wrD t.n (aG t.pg.p))).2)) (ag results138 rpt) ?_
 have hi52_:=St.ibf (t:=t) gY
 obtain⟨fp53_,hk53_⟩:=St.stf (S:={S with D:=(opD ((opD S.D 0 flD).1) (wrE ((opD S.D 0 flD).1) t.n (aG t.pg.p)) (wrD t.n (aG t.pg.p))).1}) (by have h_:=hi52_.u2.u2;rw[<-hAB] at h_;exact h_) (hrw) (hrr)
 exact d5.of (ye hD1 rfl (by simpa using lR)) hk53_
 refine wp_skip (aa (wq ?_))
 have hD1:=J7 (of_decide_eq_false ee)
 refine sqs [.m 27 2,.k 28 (po t.blk 0),.k 29 (po t.blk 0)] ?_
 refine bD 1 3 aZ ?_
 refine sqk (.tuple #[.string (aG t.pg.p),vi 0]) aZ (fun cx=>⟨_,nq (mP hri) _ _ _ (iw (CtxV.holdF cx (cx.init 4 _ rfl) rfl) hrt) (ef hri.1),(av (cx.ou 30))⟩) fun Jp kf=>?_
 refine sqp [.m 26 31,.k 32 (.string (aG t.pg.p)),.k 33 (vi 0),.m 8 32,.m 9 33] ?_
 refine aa (wq (wsq [.m 34 9,.k 35 (.bool true)] ?_))
 refine aa (wct rfl (sqs [.m 36 0,.k 37 (vp sb),.k 38 (vp sb)] ?_))
 refine am 2 kf ?_
 refine sqp [.m 40 1,.m 41 8] ?_
 refine bF (fun X_=>X_.fp) (vi ((opD S.D (wrE S.D t.n (aG t.pg.p)) (wrD t.n (aG t.pg.p))).2)) (fun FW=>eDk db ((opD S.D (wrE S.D t.n (aG t.pg.p)) (wrD t.n (aG t.pg.p))).1) FW) 10 kf (by
   refine svA fun y z W X cx=>?_
   refine ak.call (gl (args:=#[vp db,vi t.n,.string (aG t.pg.p)]) rfl cx.sees rfl (by kernel_rfl) (dH (cx.ou 39) (cx.ou 40) (cx.ou 41))) ?_
   refine(ug db S.D t.n (aG t.pg.p) _ _ (CtxV.holdF cx (cx.init 10 _ rfl) rfl) (CtxV.ltF cx (cx.init 10 _ rfl) rfl) hw).mono ?_
   rintro e W1 ⟨rfl,fp4,aM⟩
   refine⟨_,rfl,aI (E:=eDk db S.D fpd) [eDk db (opD S.D (wrE S.D t.n (aG t.pg.p)) (wrD t.n (aG t.pg.p))).1 fp4] (cx.init 10 _ rfl) rfl rfl aM (fun j g X' hs hb hv hN=>?_)⟩
   have aH:=(hv 42 rfl).1;have aO:=(hv 42 rfl).2
   exact⟨aH.trans rfl,cF ((List.cons.inj hN).1)⟩) fun FW RH xY=>?_
 refine sqp [.m 9 42] ?_
 refine aa (wq (wsq [.m 43 9,.k 44 (.bool (((opD S.D (wrE S.D t.n (aG t.pg.p)) (wrD t.n (aG t.pg.p))).2)==0))] ?_))
 refine aa (wbs (fun zV=>?_) fun zV=>?_)
 have OW:=beq_iff_eq.1 zV
 refine sqs [.m 45 2,.k 46 (po t.blk 0),.k 47 (po t.blk 3)] ?_
 refine aT (n:=1) 1 #[vi t.pg.p.1,vi t.pg.p.2.1,.slice t.pg.A t.pg.p.2.2.length t.pg.c,.bool false,vi t.used] xY fun PY pK=>?_
 refine aa (wsq [.m 48 9,.m 6 48] ?_)
 refine aa (wp_ret ?_)
 refine bpr (vi ((opD S.D (wrE S.D t.n (aG t.pg.p)) (wrD t.n (aG t.pg.p))).2)) (ag results138 rpt) ?_
 have hi83_:=St.ibf (t:=(clB t)) pK
 obtain⟨fp84_,hk84_⟩:=St.stf (S:={S with D:=(opD S.D (wrE S.D t.n (aG t.pg.p)) (wrD t.n (aG t.pg.p))).1,pool:=A++clB t::B}) (by have h_:=hi83_.u2.u2;rw[<-oq (A:=A) (B:=B) (t:=t) (u:=clB t) rfl rfl,show (A++t::B).length=(A++clB t::B).length by simp] at h_;exact h_) (fun u hu=>DU hAB hrw u hu) (hrr)
 exact d5.of (yQ hD1 rfl (by simpa using zV) hAB (by rw[<-hAB];exact hok.nodup)) hk84_
 have OW:=beq_eq_false_iff_ne.1 zV
 refine wp_skip (aa (wsq [.m 48 9,.m 6 48] ?_))
 refine aa (wp_ret ?_)
 refine bpr (vi ((opD S.D (wrE S.D t.n (aG t.pg.p)) (wrD t.n (aG t.pg.p))).2)) (ag results138 rpt) ?_
 have hi87_:=St.ibf (t:=t) xY
 obtain⟨fp88_,hk88_⟩:=St.stf (S:={S with D:=(opD S.D (wrE S.D t.n (aG t.pg.p)) (wrD t.n (aG t.pg.p))).1}) (by have h_:=hi87_.u2.u2;rw[<-hAB] at h_;exact h_) (hrw) (hrr)
 exact d5.of (ye hD1 rfl (by simpa using zV)) hk88_
theorem uu(sb db:Nat)(S:StM)(A B:List BfT)(t:BfT)(c:Nat)(fp:List Nat)(w:World)(hB:(eSt sb db S fp).holds w)(hlt:∀k∈fp,k<w.heap.size)(hok:SOk S c)(hc:c<=900000000)(hAB:S.pool=A++t::B):
  Calls P_ 72 #[po sb 0,.int .i64 t.n] w (d5 sb db (aJ S t) fp w):=by
 have st1:St w fp [eSt sb db S fp] w:=St.lend hB (dx _ _ _ _) hlt
 go_enter func72,ntmps72
 have aj:=st1
 obtain⟨⟨hrw,hrr⟩,mb,RA,rc,EA,ec,ib,tb,fpd,hv1_⟩:=aj.unf
 rw[hAB] at hv1_
 have ho2_:=St.obf (t:=t) hv1_.u2
 have htm:t∈S.pool:=by rw[hAB];simp
 have hki:kcI.ok t.n:=by have:=hok.keys t htm;have:=hok.pgs;constructor<;>omega
 have hnd:((A++t::B).map BfT.n).Nodup:=by rw[<-hAB];exact hok.nodup
 refine wsq [.k 4 (vi 0)] ?_
 refine aa (wq (wsq [.m 6 0,.k 7 (vp sb),.k 8 (po sb 2)] ?_))
 refine am 2 ho2_ ?_
 refine sqp [.m 10 1] ?_
 refine sql (po t.blk 0) ho2_ (fun cx=>(da (e:=115) (C:=ptX) (K:=kcI) (x:=t.n) rfl (cx.ou 9) (cx.ou 10) (CtxV.mx cx (cx.init 3 _ rfl) rfl) (h0:=by rfl) (hx:=hki) (hk:=show Program.underlying _ _= _ from by kernel_rfl)).trans (by rw[lk hnd];rfl)) ?_
 refine sqp [.m 5 11] ?_
 refine aa (wsq [.m 12 5,.k 13 (po t.blk 0),.k 14 (po t.blk 3)] ?_)
 refine am 1 ho2_ ?_
 refine aa (wbs (fun dF=>?_) fun dF=>?_)
 refine wq ?_
 have hi16_:=St.ibf (t:=t) ho2_
 obtain⟨fp17_,hk17_⟩:=St.stf (S:=S) (by have h_:=hi16_.u2.u2;rw[<-hAB] at h_;exact h_) (hrw) (hrr)
 refine sqs [.m 16 0,.m 17 1,.m 18 5] ?_
 refine bF (fun X_=>X_.fp) (vi ((bL S t).2)) (fun vn=>eSt sb db ((bL S t).1) vn) 0 hk17_ (by
   refine svA fun p u W X cx=>?_
   refine ak.call (rCF (args:=#[vp sb,vi t.n,po t.blk 0]) cx.sees (dH (cx.ou 16) (cx.ou 17) (cx.ou 18))) ?_
   refine(uF sb db S A B t c _ _ (CtxV.holdF cx (cx.init 0 _ rfl) rfl) (CtxV.ltF cx (cx.init 0 _ rfl) rfl) hok hc hAB).mono ?_
   rintro e W1 ⟨rfl,fp4,aM⟩
   refine⟨_,rfl,aI (E:=eSt sb db S fp17_) [eSt sb db (bL S t).1 fp4] (cx.init 0 _ rfl) rfl rfl aM (fun j g X' hs hb hv hN=>?_)⟩
   have aH:=(hv 19 rfl).1;have aO:=(hv 19 rfl).2
   exact⟨aH.trans rfl,gR ((List.cons.inj hN).1)⟩) fun vn uT eN=>?_
 refine sqp [.m 4 19] ?_
 refine aa (wp_ret (ai ?_))
 exact bpr (vi ((bL S t).2)) (ag results72 rpt) (d5.of (by rw[aJ,if_pos dF]) eN)
 refine wp_skip (aa (wsq [.k 4 (vi 0)] ?_))
 refine aa (wp_ret ?_)
 refine bpr (vi 0) (ag results72 rpt) ?_
 have hi24_:=St.ibf (t:=t) ho2_
 obtain⟨fp25_,hk25_⟩:=St.stf (S:=S) (by have h_:=hi24_.u2.u2;rw[<-hAB] at h_;exact h_) (hrw) (hrr)
 exact d5.of (R':=(S,0)) (by rw[aJ,if_neg (by rw[dF];decide)]) hk25_
end
section
open Go.RowKit
theorem c5{P:DkM->Prop}{D:DkM}{f:DkM->DkM}(h0:P D)(h1:P {D with off:=true})(h2:er=0->P (f {D with left:=cX D.left})):P (opD D er f).1:=by
 unfold opD
 split
 exact h0
 split
 exact h0
 rename_i he
 split
 exact h1
 exact h2 (by simpa using he)
theorem mL{D:DkM}{f:DkM->DkM}(h:(opD D er f).2=0):D.off=false/\er=0/\(opD D er f).1=f {D with left:=cX D.left}:=by
 unfold opD at h |-
 split at h
 cases h
 rename_i ho
 rw[if_neg ho]
 split at h
 rename_i he;exact absurd h he
 rename_i he
 rw[if_neg he]
 split at h
 cases h
 rename_i ha
 rw[if_neg ha]
 exact⟨by simpa using ho,by simpa using he,rfl⟩
def bf0:BfT:=⟨0,0,⟨bp,none,0⟩,false,0⟩
theorem SOk.mono{S:StM}{c c':Nat}(h:SOk S c)(hc:c<=c'):SOk S c':=
 ⟨h.bufs,h.pgs,fun x hx=>Nat.le_trans (h.ws x hx) hc,⟨h.time.1,by have:=h.time.2;omega⟩,Nat.le_trans h.ni hc,Nat.le_trans h.nt hc,h.right,h.nodup,h.len,h.keys,h.recs,h.log,h.lsz,h.fl,h.cl⟩
theorem SOk.tick{S:StM}{c:Nat}(h:SOk S c):SOk (tick S) (c+1):=
 ⟨h.bufs,h.pgs,fun x hx=>Nat.le_succ_of_le (h.ws x hx),⟨by have:=h.time.1;show 0<=S.time+1;omega,by have:=h.time.2;show S.time+1<= _;omega⟩,Nat.le_succ_of_le h.ni,Nat.le_succ_of_le h.nt,h.right,h.nodup,h.len,h.keys,h.recs,h.log,h.lsz,h.fl,h.cl⟩
structure DOk (D D':DkM) (k:Nat):Prop where
 pgs:D'.pgs.length=D.pgs.length
 ws:∀c,(∀x∈D.pgs,x.ws.length<=c)->∀x∈D'.pgs,x.ws.length<=c+k
 log:D'.log=D.log
 fl:D.fl<=D.log.size->D'.fl<=D'.log.size
theorem DOk.refl(D:DkM):DOk D D 0:=⟨rfl,fun c h x hx=>h x hx,rfl,id⟩
theorem DOk.trans{A B C:DkM}(h:DOk A B k)(g:DOk B C l):DOk A C (k+l):=⟨g.pgs.trans h.pgs,fun c hc x hx=>by have:=g.ws _ (h.ws c hc) x hx;omega,g.log.trans h.log,fun hf=>g.fl (h.fl hf)⟩
theorem DOk.mono{A B:DkM}(h:DOk A B k)(hk:k<=l):DOk A B l:=⟨h.pgs,fun c hc x hx=>Nat.le_trans (h.ws c hc x hx) (by omega),h.log,h.fl⟩
theorem DOk.flush(D:DkM):DOk D (opD D 0 flD).1 0:=c5 (P:=fun D'=>DOk D D' 0) ⟨rfl,fun c h x hx=>h x hx,rfl,id⟩ ⟨rfl,fun c h x hx=>h x hx,rfl,id⟩ fun _=>⟨rfl,fun c h x hx=>h x hx,rfl,fun _=>Nat.le_refl _⟩
theorem Mj(D:DkM)(n:Int)(s:ByteArray):DOk D (wrD n s D) 1:=by
 unfold wrD
 split
 refine⟨List.length_set,fun c hc x hx=>?_,rfl,id⟩
 rcases List.mem_or_eq_of_mem_set hx with h|rfl
 exact Nat.le_succ_of_le (hc x h)
 show ((D.pgs.getD n.toNat fO).ws++[_]).length<=c+1
 rw[List.length_append,List.length_singleton]
 have:(D.pgs.getD n.toNat fO).ws.length<=c:=by
  rw[List.getD_eq_getElem?_getD]
  rcases hx2:D.pgs[n.toNat]? with _|y
  exact Nat.zero_le _
  exact hc y (List.mem_of_getElem? hx2)
 omega
 exact(DOk.refl D).mono (Nat.zero_le _)
theorem DOk.write(D:DkM)(n:Int)(s:ByteArray):DOk D (opD D (wrE D n s) (wrD n s)).1 1:=
 c5 (P:=fun D'=>DOk D D' 1) ((DOk.refl D).mono (Nat.zero_le _)) ⟨rfl,fun c h x hx=>Nat.le_succ_of_le (h x hx),rfl,id⟩ fun _=>(show DOk D {D with left:=cX D.left} 0 from⟨rfl,fun c h x hx=>h x hx,rfl,id⟩).trans (Mj _ n s)
theorem SOk.disk{S:StM}{c:Nat}{D:DkM}(h:SOk S c)(g:DOk S.D D k)(hcl:∀t∈S.pool,t.dirty=false->t.pg.p=shP D t.n):SOk {S with D:=D} (c+k):=
 ⟨h.bufs,by show D.pgs.length<=400;rw[g.pgs];exact h.pgs,g.ws c h.ws,⟨h.time.1,by have:=h.time.2;show S.time<= _;omega⟩,Nat.le_trans h.ni (by omega),Nat.le_trans h.nt (by omega),h.right,h.nodup,h.len,fun t ht=>by have:=h.keys t ht;show 0<=t.n/\t.n<(D.pgs.length:Int);rw[g.pgs];exact this,h.recs,by show D.log= _;rw[g.log];exact h.log,by show D.log.size<= _;rw[g.log];exact h.lsz,g.fl h.fl,hcl⟩
theorem uN{l:List BfT}{n:Int}{f:BfT->BfT}(hf:∀t,(f t).n=t.n):(dh l n f).map BfT.n=l.map BfT.n:=by
 rw[dh,List.map_map]
 refine List.map_congr_left fun t _=>?_
 show (if t.n=n then f t else t).n=t.n
 split
 exact hf t
 rfl
theorem mO{l:List BfT}{n:Int}{f:BfT->BfT}{u:BfT}(hu:u∈dh l n f):∃t∈l,u=f t\/u=t:=by
 obtain⟨t,ht,rfl⟩:=List.mem_map.1 hu
 refine⟨t,ht,?_⟩
 split
 exact .inl rfl
 exact .inr rfl
theorem SOk.setp{S:StM}{c:Nat}{n:Int}{f:BfT->BfT}(h:SOk S c)(hn:∀t,(f t).n=t.n)(hr:∀t∈S.pool,bI (f t).pg.p)(hcl:∀t∈S.pool,t.n=n->(f t).dirty=false->(f t).pg.p=shP S.D t.n):SOk {S with pool:=dh S.pool n f} c:=
 ⟨h.bufs,h.pgs,h.ws,h.time,h.ni,h.nt,fun u hu=>by obtain⟨t,ht,rfl|rfl⟩:=mO hu;exact hr t ht;exact h.right _ ht,by show ((dh S.pool n f).map BfT.n).Nodup;rw[uN hn];exact h.nodup,by show ((dh S.pool n f).length:Int)<=S.bufs;rw[dh,List.length_map];exact h.len,
  fun u hu=>by obtain⟨t,ht,rfl|rfl⟩:=mO hu;rw[hn];exact h.keys _ ht;exact h.keys _ ht,h.recs,h.log,h.lsz,h.fl,fun u hu hd=>by
   obtain⟨t,ht,rfl⟩:=List.mem_map.1 hu
   by_cases e:t.n=n
   rw[if_pos e] at hd |-
   rw[hn];exact hcl t ht e hd
   rw[if_neg e] at hd |-
   exact h.cl t ht hd⟩
theorem ie{D D':DkM}(h:D'.pgs=D.pgs)(n:Int):shP D' n=shP D n:=by rw[shP,shP,h]
theorem ym(D:DkM)(n:Int)(s:ByteArray):((opD D (wrE D n s) (wrD n s)).2≠0/\(opD D (wrE D n s) (wrD n s)).1.pgs=D.pgs)\/((opD D (wrE D n s) (wrD n s)).2=0/\D.off=false/\(0<=n/\n<(D.pgs.length:Int))/\∃h:s.size=512,(opD D (wrE D n s) (wrD n s)).1=jx n.toNat ⟨s,h⟩ {D with left:=cX D.left}):=by
 by_cases h0:(opD D (wrE D n s) (wrD n s)).2=0
 obtain⟨h1,h2,h3⟩:=mL h0
 obtain⟨h4,h5⟩:=yr h2
 exact .inr ⟨h0,h1,h4,h5,by rw[h3,wrD,dif_pos h5]⟩
 refine .inl ⟨h0,?_⟩
 unfold opD at h0 |-
 split
 rfl
 rename_i ho
 rw[if_neg ho] at h0
 split
 rfl
 rename_i he
 rw[if_neg he] at h0
 split
 rfl
 rename_i ha
 rw[if_neg ha] at h0
 exact absurd rfl h0
theorem zC{D:DkM}{n:Int}(hn:0<=n/\n<(D.pgs.length:Int)){m:Int}(hm:0<=m):shP (jx n.toNat h D) m=if m=n then rdP h.1 else shP D m:=by
 rw[shP,jx]
 dsimp only
 split
 rename_i e
 subst e
 rw[List.getD_eq_getElem?_getD,List.getElem?_set_self (by omega)]
 show rdP (rdT ⟨_,_++[h]⟩).1= _
 rw[rdT];simp
 rename_i e
 rw[List.getD_eq_getElem?_getD,List.getElem?_set_ne (by omega),<-List.getD_eq_getElem?_getD];rfl
theorem rW(S:StM)(t:BfT):DOk S.D (wrD0 S t).1 0/\(wrD0 S t).1.pgs=S.D.pgs:=by
 unfold wrD0
 split
 exact⟨DOk.flush _,tj _⟩
 exact⟨DOk.refl _,rfl⟩
theorem zn{S:StM}{t:BfT}(ht:bI t.pg.p){m:Int}(hm:0<=m):shP (bL S t).1.D m=shP S.D m\/(m=t.n/\shP (bL S t).1.D m=t.pg.p):=by
 have h0:=rW S t
 unfold bL
 split
 exact .inl (ie h0.2 m)
 dsimp only
 rcases ym (wrD0 S t).1 t.n (aG t.pg.p) with ⟨_,h2⟩|⟨_,h1,h2,h3,h4⟩
 exact .inl ((ie h2 m).trans (ie h0.2 m))
 rw[h4,zC (D:={(wrD0 S t).1 with left:=cX (wrD0 S t).1.left}) h2 hm]
 split
 rename_i e
 exact .inr ⟨e,yx ht⟩
 exact .inl (ie (D:=S.D) h0.2 m)
theorem nY{S:StM}{t:BfT}(ht:bI t.pg.p)(h0:(bL S t).2=0):shP (bL S t).1.D t.n=t.pg.p/\(bL S t).1.pool=dh S.pool t.n clB:=by
 have h1:=rW S t
 unfold bL at h0 |-
 split at h0
 rename_i h2;exact absurd h0 h2
 rename_i h2
 rw[if_neg h2]
 dsimp only at h0 |-
 rcases ym (wrD0 S t).1 t.n (aG t.pg.p) with ⟨h3,_⟩|⟨_,_,h4,h5,h6⟩
 exact absurd h0 h3
 rw[if_pos h0,h6,zC (D:={(wrD0 S t).1 with left:=cX (wrD0 S t).1.left}) h4 h4.1,if_pos rfl]
 exact⟨yx ht,rfl⟩
theorem SOk.write{S:StM}{c:Nat}(h:SOk S c)(t:BfT)(ht:t∈S.pool):SOk (bL S t).1 (c+1):=by
 have hr:=h.right t ht
 have h0:=rW S t
 have huniq:∀u∈S.pool,u.n=t.n->u=t:=fun u hu e=>by
  obtain⟨A,B,hp⟩:=List.append_of_mem ht
  have hd:=h.nodup
  rw[hp,List.map_append,List.map_cons] at hd
  have h1:=List.nodup_append.1 hd
  rw[hp] at hu
  rcases List.mem_append.1 hu with h2|h2
  exact absurd e (h1.2.2 u.n (List.mem_map.2 ⟨u,h2,rfl⟩) t.n (by simp))
  rcases List.mem_cons.1 h2 with h2|h2
  exact h2
  exact absurd (List.mem_map.2 ⟨u,h2,e⟩) (List.nodup_cons.1 h1.2.1).1
 have hcl:∀u∈S.pool,u.dirty=false->u.pg.p=shP (bL S t).1.D u.n:=fun u hu hd=>by
  rcases zn hr (S:=S) (h.keys u hu).1 with h1|⟨h1,h2⟩
  rw[h1];exact h.cl u hu hd
  rw[h2,huniq u hu h1]
 have hw:=nY (S:=S) hr
 unfold bL at hcl hw |-
 split
 rename_i h1
 rw[if_pos h1] at hcl
 exact(h.disk h0.1 hcl).mono (by omega)
 rename_i h1
 rw[if_neg h1] at hcl hw
 dsimp only at hcl hw |-
 have h2:=h.disk (h0.1.trans (DOk.write (wrD0 S t).1 t.n (aG t.pg.p))) hcl
 split
 rename_i h3
 refine(h2.setp (f:=clB) (fun _=>rfl) (fun u hu=>h.right u hu) fun u hu e _=>?_).mono (by omega)
 rw[huniq u hu e]
 exact(hw h3).1.symm
 exact h2.mono (by omega)
theorem SOk.clean{S:StM}{c:Nat}(h:SOk S c)(t:BfT)(ht:t∈S.pool):SOk (aJ S t).1 (c+1):=by
 unfold aJ
 split
 exact h.write t ht
 exact h.mono (by omega)
theorem mh{l:List BfT}{n:Int}{u:BfT}(hu:u∈rmB l n):u∈l/\u.n≠n:=by
 rw[rmB,List.mem_filter] at hu
 exact⟨hu.1,by simpa using hu.2⟩
theorem we(l:List BfT)(n:Int):(rmB l n).Sublist l:=List.filter_sublist
theorem SOk.rm{S:StM}{c:Nat}(h:SOk S c)(n:Int):SOk {S with pool:=rmB S.pool n} c:=
 ⟨h.bufs,h.pgs,h.ws,h.time,h.ni,h.nt,fun u hu=>h.right u (mh hu).1,h.nodup.sublist ((we S.pool n).map _),by have:=h.len;have:=(we S.pool n).length_le;show ((rmB S.pool n).length:Int)<=S.bufs;omega,fun u hu=>h.keys u (mh hu).1,h.recs,h.log,h.lsz,h.fl,fun u hu=>h.cl u (mh hu).1⟩
theorem tV{S:StM}{A B:List BfT}{t:BfT}(hp:S.pool=A++t::B)(hd:((A++t::B).map BfT.n).Nodup):∃u:BfT,(aJ S t).1.pool=A++u::B/\u.n=t.n/\u.blk=t.blk/\u.pg=t.pg:=by
 unfold aJ
 split
 unfold bL
 split
 exact⟨t,hp,rfl,rfl,rfl⟩
 dsimp only
 split
 exact⟨clB t,by show dh S.pool t.n clB= _;rw[hp,ku hd],rfl,rfl,rfl⟩
 exact⟨t,hp,rfl,rfl,rfl⟩
 exact⟨t,hp,rfl,rfl,rfl⟩
theorem o6(S:StM)(t:BfT):(aJ S t).1.rows=S.rows/\(aJ S t).1.bufs=S.bufs/\(aJ S t).1.time=S.time/\(aJ S t).1.recs=S.recs/\(aJ S t).1.frm=S.frm:=by
 unfold aJ
 split
 unfold bL
 split
 exact⟨rfl,rfl,rfl,rfl,rfl⟩
 exact⟨rfl,rfl,rfl,rfl,rfl⟩
 exact⟨rfl,rfl,rfl,rfl,rfl⟩
theorem wI{S:StM}{t:BfT}(h:S.bufs<=(S.pool.length:Int))(h0:(aJ S t).2=0):bq S t=({(aJ S t).1 with pool:=rmB (aJ S t).1.pool t.n},0):=by
 rw[bq,if_pos h,if_neg (by rw[h0];decide)]
theorem w4{S:StM}{t:BfT}(h:S.bufs<=(S.pool.length:Int))(h0:(aJ S t).2≠0):bq S t=aJ S t:=by
 rw[bq,if_pos h,if_pos h0]
theorem zv{S:StM}{t:BfT}(h:¬S.bufs<=(S.pool.length:Int)):bq S t=(S,0):=by rw[bq,if_neg h]
theorem SOk.evict{S:StM}{c:Nat}(h:SOk S c)(t:BfT)(ht:S.bufs<=(S.pool.length:Int)->t∈S.pool):SOk (bq S t).1 (c+1):=by
 unfold bq
 split
 rename_i hb
 split
 exact h.clean t (ht hb)
 exact(h.clean t (ht hb)).rm t.n
 exact h.mono (by omega)
theorem px{S:StM}{t:BfT}{n:Int}(hn:∀u∈S.pool,u.n≠n):∀u∈(bq S t).1.pool,u.n≠n:=by
 have hc:∀u∈(aJ S t).1.pool,u.n≠n:=by
  unfold aJ
  split
  unfold bL
  split
  exact hn
  dsimp only
  split
  intro u hu
  obtain⟨v,hv,rfl|rfl⟩:=mO hu
  exact hn v hv
  exact hn _ hv
  exact hn
  exact hn
 unfold bq
 split
 split
 exact hc
 exact fun u hu=>hc u (mh hu).1
 exact hn
theorem xd{S:StM}{c:Nat}{t:BfT}(h:SOk S c)(ht:S.bufs<=(S.pool.length:Int)->t∈S.pool)(h0:(bq S t).2=0):((bq S t).1.pool.length:Int)<S.bufs/\(bq S t).1.bufs=S.bufs:=by
 by_cases hb:S.bufs<=(S.pool.length:Int)
 by_cases he:(aJ S t).2=0
 rw[wI hb he]
 obtain⟨A,B,hp⟩:=List.append_of_mem (ht hb)
 have hd:((A++t::B).map BfT.n).Nodup:=by rw[<-hp];exact h.nodup
 obtain⟨u,h1,h2,h3,h4⟩:=tV hp hd
 refine⟨?_,(o6 S t).2.1⟩
 show ((rmB (aJ S t).1.pool t.n).length:Int)<S.bufs
 rw[h1,<-h2,BK (by rw[List.map_append,List.map_cons,h2];rw[List.map_append,List.map_cons] at hd;exact hd)]
 have:=h.len
 rw[hp] at this
 simp only[List.length_append,List.length_cons] at this |-
 omega
 rw[w4 hb he] at h0
 exact absurd h0 he
 rw[zv hb]
 exact⟨by show (S.pool.length:Int)<S.bufs;omega,rfl⟩
end
section
open Go.RowKit
section
variable{P:Program}{ops:Array Oper}{L:List Nat}{a0:Act}{w0:World}{bor:List Nat}{X0:List Ent}{us cr kl:List (List Nat)}
 {D:Nat->(Tmp->Value)->(Tmp->Value)->(Nat->Ent)->Prop}{i:Nat}{o:Oper}{ρ:Operand->Value}{β:Tmp->Value}{W:World}{X:Nat->Ent}
theorem JZ{n:Nat}(h:o.op= .extract x 0)(hx:ρ x=v)(hN:CO P k b r n m left cnt v e):(execOp ρ o).run P W= .ok (.value (.bool (nxB v))) W:=by
 rcases hN with ⟨rfl,_⟩|⟨x0,c,rfl,_⟩
 unfold execOp;rw[h];simp[go_sem,hx,nxB]
 unfold execOp;rw[h];simp[go_sem,hx,nxB]
theorem MH{n d1:Nat}(h:o.op= .extract (.tmp d1) 0)(hN:CO P k b r n m left cnt (ρ (.tmp d1)) e)(hd:o.dst=some d)(hc:atV cr i=[])(hkl:atV kl i=[])
  (hD:∀(c g:Tmp->Value) (X':Nat->Ent),(c d= .bool (nxB (ρ (.tmp d1))))->(∀t,t≠d->c t=ρ (.tmp t))->D i c g X'):ak P o ρ W (bQ cr kl D i o.dst ρ β W X):=by
 refine ak.value (JZ h rfl hN) ⟨[],by rw[hc];rfl,⟨by rw[hkl];exact Upd.refl _ _,(fun e' he'=>by cases he'),List.Pairwise.nil⟩,fun c g X' hs hv hb' hbv hx' hN'=>hD c g X' (hv d hd) (fun t ht=>hs t (by rw[hd];simpa using ht.symm))⟩
end
def nzI(z:Int):Int:=if z=0 then 1 else z
theorem JW{z:Int}(h:z≠0):nzI z=z:=if_neg h
def tE:Value->Int
 | .tuple a=>(match (a.getD 1 undef) with| .int _ z=>z|_=>0)
 |_=>0
def tF:Value->Value
 | .tuple a=>a.getD 0 undef
 |_=>undef
theorem Bx{l:List BfT}(h:(eA (l.map fx)).holds W){t:BfT}(ht:t∈l):Blk W t.blk 120 #[.int .i64 t.pg.p.1,.int .i64 t.pg.p.2.1,.slice t.pg.A t.pg.p.2.2.length t.pg.c,.bool t.dirty,.int .i64 t.used]:=(h.1 (fx t) (List.mem_map.2 ⟨_,ht,rfl⟩)).1
theorem KX{l:List BfT}{u:BfT}(hd:(l.map BfT.n).Nodup)(hu:u∈l):atM l u.n=some (some u.blk):=by
 obtain⟨A,B,rfl⟩:=List.append_of_mem hu
 exact lk hd
theorem wo{l:List BfT}{t:BfT}(h:∀u∈l,u.n≠t.n):cd (atM l) t.n (some (some t.blk))=atM (l++[t]):=by
 funext x
 unfold cd
 rw[atM,atM,List.find?_append]
 by_cases e:x=t.n
 subst e
 rw[if_pos rfl,List.find?_eq_none.2 (fun u hu=>by simpa using h u hu)]
 simp
 rw[if_neg e]
 have:(t.n==x)=false:=by simpa using fun h2=>e h2.symm
 cases l.find? (fun t=>t.n==x) with
 |some v=>rfl
 |none=>simp[this]
theorem KT{A B:List BfT}{t:BfT}(hd:((A++t::B).map BfT.n).Nodup):cd (atM (A++t::B)) t.n none=atM (A++B):=by
 funext x
 unfold cd
 by_cases e:x=t.n
 subst e
 rw[if_pos rfl]
 symm
 refine kG fun u hu he=>?_
 rw[List.map_append,List.map_cons] at hd
 have h1:=List.nodup_append.1 hd
 rcases List.mem_append.1 hu with h|h
 exact h1.2.2 u.n (List.mem_map.2 ⟨u,h,rfl⟩) t.n (by simp) he
 exact(List.nodup_cons.1 h1.2.1).1 (List.mem_map.2 ⟨u,h,he⟩)
 rw[if_neg e,atM,atM,List.find?_append,List.find?_append,List.find?_cons]
 have:(t.n==x)=false:=by simpa using fun h2=>e h2.symm
 rw[this]
def LdQ(S:StM)(n:Int)(S2:StM)(er:Int)(v:Value):Prop:=LdR S n S2 er/\(er=0->∃t∈S2.pool,t.n=n/\v= .pointer (some ⟨t.blk,0,none⟩))
def jY(sb db:Nat)(S:StM)(n:Int)(fp:List Nat)(w:World)(e:Ending)(w':World):Prop:=∃er v,e= .returned (.tuple #[v,.int .i64 er])/\∃fp',St w fp [eSx sb db (fun S2=>LdQ S n S2 er v) fp'] w'
theorem jY.of{S S2:StM}{n:Int}{fp':List Nat}(h:LdQ S n S2 er v)(hs:St w fp ([]++[eSt sb db S2 fp']) w'):jY sb db S n fp w (.returned (.tuple #[v,.int .i64 er])) w':=⟨er,v,rfl,fp',St.sx (L:=[]) hs h⟩
theorem pm{p:PgS}(h:rdX s=some p):rdP s=p:=by rw[rdP,h];rfl
theorem o9(h:rdX s=none):rdP s=bp:=by rw[rdP,h];rfl
theorem JU{p:PgS}(h:rdX s=some p)(hc:Calls P_ f args w (j8 s w)):Calls P_ f args w (dS p.1 p.2.1 p.2.2 0 w):=by
 rw[j8,h] at hc;exact hc
theorem KG(h:rdX s=none)(hc:Calls P_ f args w (j8 s w)):Calls P_ f args w (iX w):=by
 rw[j8,h] at hc;exact hc
theorem Gr{D:DkM}{n:Int}(h:(rdS D n).2=0):(rdS D n).1.size=512:=by
 unfold rdS at h |-
 split at h
 cases h
 rename_i ho
 rw[if_neg ho]
 split at h
 rename_i hn
 rw[if_pos hn];exact(rdT _).2
 cases h
theorem sX(s:ByteArray):bI (rdP s):=by
 rcases h:rdX s with _|p
 rw[o9 h];exact yn
 rw[pm h];exact(oY h).1
theorem Lw{l:List BfT}(h:1<=(l.length:Int))(hl:∀x,left x=(atM l x).isSome)(hk:∀t∈l,kcI.ok t.n)(h0:∀x:Int,(Lit.int .i64 x).wf=true->left x=false):False:=by
 cases l with
 |nil=>simp at h
 |cons t l=>
  have h1:=h0 t.n (Qa (hk t (by simp)))
  rw[hl,atM,List.find?_cons,show (t.n==t.n)=true by simp] at h1
  cases h1
end
end Go.Proofs.YtcdjaepgahbhfaaGreat
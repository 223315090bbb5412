/- HeapGoesRow9: part 5 of the proof. -/
import Derived.Test.YtjnplglnnamfdaaGreatDoorZ4
import Derived.Maps.RangeWalk
import Derived.Laws.IdiomRangeMap
set_option linter.unusedVariables false
set_option linter.unusedSimpArgs false
set_option maxRecDepth 100000
set_option maxHeartbeats 16000000
namespace Go.Proofs.YtjnplglnnamfdaaGreatDoor
section
open Go.RowKit Go.Maps Go.ChangeMaps
/-- block b is a map with the answers m, block r an iterator over it: left: which keys are still to come (at most cnt of them); cur: the entry at hand -/
def eRg {E:Type} (C:Cod E) (P:Program) (k b r n:Nat) (m:Int→Option E) (left:Int→Bool) (cnt:Nat) (cur:Option (Int×E)):Ent:=⟨[b,r],fun W=>
 ∃ (D:DataW Unit) (lf:Lit→Bool) (c0:Nat),W.ranges P k C.R b r n D lf c0∧c0≤cnt∧(∀ x:Int,(Lit.int .i64 x).wf=true→lf (.int .i64 x)=left x)∧IsMap D∧
   (∀ x:Int,(Lit.int .i64 x).wf=true→has D (.int .i64 x)=(m x).isSome∧D.atKey (.int .i64 x) (C.dat C.e0)=C.dat ((m x).getD C.e0))∧
   (∀ x:Int,left x=true→(m x).isSome=true)∧
   ∀ x c,cur=some (x,c)→∀ W':World,W'.heap[b]? =W.heap[b]? →W'.heap[r]? =W.heap[r]? →(Instr.entry (.pointer (some ⟨r,0,none⟩))).run P W'= .ok (.tuple #[.int .i64 x,C.enc c]) W'⟩
/-- what the step of a range hands back: v, and the entry behind it -/
def Nxt {E:Type} (C:Cod E) (P:Program) (k b r n:Nat) (m:Int→Option E) (left:Int→Bool) (cnt:Nat) (v:Value) (e:Ent):Prop:=
 (v= .tuple #[.bool false]∧(∀ x:Int,(Lit.int .i64 x).wf=true→left x=false)∧e=eRg C P k b r n m left cnt none)∨
 ∃ (x:Int) (c:E),v= .tuple #[.bool true, .int .i64 x,C.enc c]∧(-9223372036854775808≤x∧x≤9223372036854775807)∧left x=true∧m x=some c∧0 < cnt∧e=eRg C P k b r n m (fun y=>left y&&y != x) (cnt - 1) (some (x,c))
def nxB:Value→Bool
 | .tuple a=>match (a[0]? :Option Value) with
   | some (.bool true)=>true
   | _=>false
 | _=>false
section
variable {E:Type} {C:Cod E} {P:Program} {k b r n cnt:Nat} {m:Int→Option E} {left:Int→Bool} {cur:Option (Int×E)}
theorem eRg_loc:(eRg C P k b r n m left cnt cur).loc:=fun W W' h hb=>by
 obtain ⟨D,lf,c0,⟨es,clock,since,seen,c1,h1,h2,h3,h4,h5,h6⟩,hc,h7,h8,h9,hs,h10⟩:=hb
 have eb:W'.heap[b]? =W.heap[b]? :=h b (by simp [eRg])
 have er:W'.heap[r]? =W.heap[r]? :=h r (by simp [eRg])
 exact ⟨D,lf,c0,⟨es,clock,since,seen,c1,eb.trans h1,h2,h3,h4,er.trans h5,h6⟩,hc,h7,h8,h9,hs,fun x c hc W2 e1 e2=>h10 x c hc W2 (e1.trans eb) (e2.trans er)⟩
theorem entry_local {W W':World} {H:Type} {R:Value→Option (DataW H×List MemPlace)} {D:DataW H} {lf:Lit→Bool} {v:Value} (h:W.ranges P k R b r n D lf cnt) (hen:(Instr.entry (.pointer (some ⟨r,0,none⟩))).run P W= .ok v W) (eb:W'.heap[b]? =W.heap[b]?) (er:W'.heap[r]? =W.heap[r]?):
  (Instr.entry (.pointer (some ⟨r,0,none⟩))).run P W'= .ok v W':=by
 obtain ⟨es,clock,since,seen,c0,hb, _, _, _,hr, _⟩:=h
 have hb':=eb.trans hb
 have hr':=er.trans hr
 simp only [Instr.entry,getObj,Sem.run_bind,Sem.run,hr,hb,Result.andThen] at hen
 simp only [Instr.entry,getObj,Sem.run_bind,Sem.run,hr',hb',Result.andThen]
 cases hs:seen.back? with
 | none=>rw [hs] at hen; simp [go_sem] at hen
 | some q=>
   rw [hs] at hen
   simp only [getObj,Sem.run_bind,Sem.run,hb,Result.andThen] at hen
   simp only [getObj,Sem.run_bind,Sem.run,hb',Result.andThen]
   by_cases hc:(clock != c0)=true
   ·rw [if_pos hc] at hen
    simp [go_sem] at hen
   ·rw [if_neg hc] at hen ⊢
    cases hf:es.find? (·.born==q) with
    | none=>rw [hf] at hen; simp [go_sem] at hen
    | some x=>
      rw [hf] at hen
      simp [go_sem] at hen ⊢
      exact hen
theorem ranges_le {W:World} {H:Type} {R:Value→Option (DataW H×List MemPlace)} {D:DataW H} {lf:Lit→Bool} (h:W.ranges P k R b r n D lf cnt):cnt≤n:=by
 obtain ⟨es,clock,since,seen,c0, _, _,hs, _, _, _,hc, _⟩:=h
 rw [← hc,leftOf]
 exact Nat.le_trans Array.size_filter_le hs
end
section
variable {E:Type} {C:Cod E} {P:Program} {ops:Array Oper} {L:List Nat} {a0:Act} {w0:World} {bor:List Nat} {X0:List Ent} {us cr kl:List (List Nat)}
 {D:Nat→(Tmp→Value)→(Tmp→Value)→(Nat→Ent)→Prop} {i:Nat} {o:Oper} {ρ:Operand→Value} {β:Tmp→Value} {W:World} {X:Nat→Ent}
theorem dv_range {t k e b n d q q':Nat} {m:Int→Option E} {x:Operand} (h:o.op= .range t x) (hx:ρ x= .map (some b)) (cx:CtxV ops L a0 w0 bor X0 us D i ρ β W X) (hX:X q=eMg C P k b n m) (hq:(atV us i).contains q=true) (hd:o.dst=some d) (hc:atV cr i=[q']) (hkl:atV kl i=[q])
  (hD:∀ (σ β':Tmp→Value) (X':Nat→Ent),(∀ t,t≠d→σ t=ρ (.tmp t))→(∀ t,t≠d→β' t=β t)→σ d= .pointer (some ⟨pb (β' d),0,none⟩)→X' q'=eRg C P k b (pb (β' d)) n m (fun x=>(m x).isSome) n none→D i σ β' X')
  (hk:P.underlying k=some (.int .i64):=by kernel_rfl) (ht:P.underlying t=some (.map k e):=by kernel_rfl):DoesU P o ρ W (PostV cr kl D i o.dst ρ β W X):=by
 have hmg:=cx.mg hX hq
 have hlt:=hmg.lt
 obtain ⟨D0,hD0,hI,hm⟩:=hmg
 obtain ⟨W',hrun,hr,hg,hsz⟩:=hD0.range (int_keyed hk) ht
 have hS:((atV kl i).flatMap fun q=>(X q).fp)=[b]:=by rw [hkl]; simp [hX,eMg]
 refine DoesU.value (v:= .pointer (some ⟨W.heap.size,0,none⟩)) (w':=W') (by unfold execOp; rw [h]; simp [hx,hrun]) ⟨[eRg C P k b W.heap.size n m (fun x=>(m x).isSome) n none],by rw [hc]; rfl,⟨?_,fun e' he'=>?_,List.pairwise_singleton _ _⟩,fun σ β' X' hs hv hb' hbv hx' hN=>?_⟩
 ·rw [hS]
  exact ⟨hg.os,hg.tape,hg.output,hg.size,fun j hj hn=>hg.block j hj (by simp)⟩
 ·rw [List.mem_singleton] at he'
  subst he'
  refine ⟨⟨D0, _, _,hr,ranges_le hr,fun x hx=>(hm x hx).1,hI,hm,fun x hx=>hx,fun x c hc'=>by cases hc'⟩,eRg_loc,fun j hj=>?_⟩
  rw [hS]
  rcases (by simpa [eRg] using hj:j=b∨j=W.heap.size) with rfl | rfl
  ·exact ⟨.inl (by simp),by omega⟩
  ·exact ⟨.inr (Nat.le_refl _),by omega⟩
 ·rw [hc] at hN
  refine hD σ β' X' (fun t ht=>hs t (by rw [hd]; simpa using ht.symm)) (fun t ht=>hb' t (by rw [hd]; simpa using ht.symm)) ?_ ?_
  ·rw [hv d hd,hbv d hd]; rfl
  ·rw [hbv d hd]; exact (List.cons.inj hN).1
theorem dv_next {k b r n cnt d q q':Nat} {m:Int→Option E} {left:Int→Bool} {cur:Option (Int×E)} {x:Operand} (h:o.op= .next x false) (hx:ρ x= .pointer (some ⟨r,0,none⟩)) (cx:CtxV ops L a0 w0 bor X0 us D i ρ β W X) (hX:X q=eRg C P k b r n m left cnt cur) (hq:(atV us i).contains q=true) (hd:o.dst=some d) (hc:atV cr i=[q']) (hkl:atV kl i=[q])
  (hD:∀ (σ β':Tmp→Value) (X':Nat→Ent),(∀ t,t≠d→σ t=ρ (.tmp t))→(∀ t,t≠d→β' t=β t)→Nxt C P k b r n m left cnt (σ d) (X' q')→D i σ β' X')
  (hk:P.underlying k=some (.int .i64):=by kernel_rfl):DoesU P o ρ W (PostV cr kl D i o.dst ρ β W X):=by
 have hok:=cx.ok q hq
 rw [hX] at hok
 have hS:((atV kl i).flatMap fun q=>(X q).fp)=[b,r]:=by rw [hkl]; simp [hX,eRg]
 have hlt:∀ j∈[b,r],j < W.heap.size:=fun j hj=>(hok.own j hj).2
 obtain ⟨D0,lf,c0,hr,hle,hl,hI,hm,hls,hcur⟩:=hok.holds
 rcases hr.next (int_keyed hk) o.type with ⟨h0,hl0,hrun⟩ | ⟨key,v,kl',y,w',cnt',hkey,hlk,hv,hat,hrun,hrg,hlt',hgr,hsz,hen⟩
 ·refine DoesU.value (v:= .tuple #[.bool false]) (w':=W) (by unfold execOp; rw [h]; simp [hx,hrun]) ⟨[eRg C P k b r n m left cnt none],by rw [hc]; rfl,⟨Upd.refl _ _,fun e' he'=>?_,List.pairwise_singleton _ _⟩,fun σ β' X' hs hv hb' hbv hx' hN=>?_⟩
  ·rw [List.mem_singleton] at he'
   subst he'
   refine ⟨⟨D0,lf,c0,hr,hle,hl,hI,hm,hls,fun x c hc'=>by cases hc'⟩,eRg_loc,fun j hj=>?_⟩
   rw [hS]
   exact ⟨.inl hj,hlt j hj⟩
  ·rw [hc] at hN
   exact hD σ β' X' (fun t ht=>hs t (by rw [hd]; simpa using ht.symm)) (fun t ht=>hb' t (by rw [hd]; simpa using ht.symm)) (.inl ⟨hv d hd,fun x hx=>by rw [← hl x hx,hl0],(List.cons.inj hN).1⟩)
 ·obtain ⟨x0,rfl,rfl,hwx⟩:=keyOf_int_inv hk hkey
  have hx0: -9223372036854775808≤x0∧x0≤9223372036854775807:=by
   have h1:(decide (IntKind.i64.min≤x0)&&decide (x0≤IntKind.i64.max))=true:=hwx
   rw [Bool.and_eq_true,decide_eq_true_eq,decide_eq_true_eq] at h1
   exact h1
  have hlx:left x0=true:=by rw [← hl x0 hwx]; exact hlk
  have hso:=hls x0 hlx
  obtain ⟨c,hmc⟩:=Option.isSome_iff_exists.1 hso
  have hvc:v=C.enc c:=by
   have h2:=(hm x0 hwx).2
   rw [hat,hmc] at h2
   obtain ⟨y1,y2⟩:=y
   exact C.back v _ y2 _ hv h2
  subst hvc
  have hb1:∀ W2:World,W2.heap[b]? =w'.heap[b]? →W2.heap[r]? =w'.heap[r]? →(Instr.entry (.pointer (some ⟨r,0,none⟩))).run P W2= .ok (.tuple #[.int .i64 x0,C.enc c]) W2:=fun W2 e1 e2=>entry_local hrg hen e1 e2
  refine DoesU.value (v:= .tuple #[.bool true, .int .i64 x0,C.enc c]) (w':=w') (by unfold execOp; rw [h]; simp [hx,hrun]) ⟨[eRg C P k b r n m (fun y=>left y&&y != x0) (cnt - 1) (some (x0,c))],by rw [hc]; rfl,⟨?_,fun e' he'=>?_,List.pairwise_singleton _ _⟩,fun σ β' X' hs hv hb' hbv hx' hN=>?_⟩
  ·rw [hS]
   exact ⟨hgr.os,hgr.tape,hgr.output,hgr.size,fun j hj hn=>hgr.block j hj (fun e'=>hn (by cases e'; simp))⟩
  ·rw [List.mem_singleton] at he'
   subst he'
   refine ⟨⟨D0, _,cnt',hrg,by omega,fun z hz=>?_,hI,hm,fun z hz=>hls z (by simp only [Bool.and_eq_true] at hz; exact hz.1),fun x c' hc'=>?_⟩,eRg_loc,fun j hj=>?_⟩
   ·show (lf (.int .i64 z)&&!(Lit.sameKey (.int .i64 z) (.int .i64 x0)))=(left z&&z != x0)
    rw [hl z hz]
    simp [Lit.sameKey,bne,BEq.beq]
   ·cases hc'
    exact hb1
   ·rw [hS]
    exact ⟨.inl hj,by rw [hsz]; exact hlt j hj⟩
  ·rw [hc] at hN
   exact hD σ β' X' (fun t ht=>hs t (by rw [hd]; simpa using ht.symm)) (fun t ht=>hb' t (by rw [hd]; simpa using ht.symm)) (.inr ⟨x0,c,hv d hd,hx0,hlx,hmc,by omega,(List.cons.inj hN).1⟩)
theorem run_entryR {k b r n cnt:Nat} {m:Int→Option E} {left:Int→Bool} {x0:Int} {c:E} {x:Operand} (h:o.op= .entry x) (hx:ρ x= .pointer (some ⟨r,0,none⟩)) (hE:(eRg C P k b r n m left cnt (some (x0,c))).holds W):(execOp ρ o).run P W= .ok (.value (.tuple #[.int .i64 x0,C.enc c])) W:=by
 obtain ⟨D0,lf,c0,hr,hle,hl,hI,hm,hls,hcur⟩:=hE
 have h1:=hcur x0 c rfl W rfl rfl
 unfold execOp; rw [h]; simp [hx,h1]
/-- an iterator over no map -/
def eRn (r:Nat):Ent:=⟨[r],fun W=>∃ a s b,W.heap[r]? =some (.mapIter none a s b)⟩
theorem eRn_loc {r:Nat}:(eRn r).loc:=fun W W' h hb=>by
 obtain ⟨a,s,b,h1⟩:=hb
 exact ⟨a,s,b,(h r (by simp [eRn])).trans h1⟩
theorem dv_rangeN {t k e d q':Nat} {x:Operand} (h:o.op= .range t x) (hx:ρ x= .map none) (hd:o.dst=some d) (hc:atV cr i=[q']) (hkl:atV kl i=[])
  (hD:∀ (σ β':Tmp→Value) (X':Nat→Ent),(∀ t,t≠d→σ t=ρ (.tmp t))→(∀ t,t≠d→β' t=β t)→σ d= .pointer (some ⟨pb (β' d),0,none⟩)→X' q'=eRn (pb (β' d))→D i σ β' X')
  (ht:P.underlying t=some (.map k e):=by kernel_rfl):DoesU P o ρ W (PostV cr kl D i o.dst ρ β W X):=by
 refine DoesU.value (v:= .pointer (some ⟨W.heap.size,0,none⟩)) (w':=W.alloc (.mapIter none 0 #[] 0)) (by unfold execOp; rw [h]; simp [hx,run_range_nilMap W t k e ht]) ?_
 refine post_call [eRn W.heap.size] hkl (by rw [hc]; rfl) ((Ext.refl W).alloc _) (one_new ⟨⟨0,#[],0,heap_alloc_new ..⟩,eRn_loc,fun k' hk'=>?_⟩) (List.pairwise_singleton _ _) (fun σ β' X' hs hb hv hN=>?_)
 ·have:k'=W.heap.size:=by simpa [eRn] using hk'
  subst this
  exact ⟨Nat.le_refl _,by simp⟩
 ·have hv1:=(hv d hd).1; have hv2:=(hv d hd).2
  rw [hc] at hN
  refine hD σ β' X' (fun t ht=>hs t (by rw [hd]; simpa using ht.symm)) (fun t ht=>hb t (by rw [hd]; simpa using ht.symm)) ?_ ?_
  ·rw [hv1,hv2]; rfl
  ·rw [hv2]; exact (List.cons.inj hN).1
theorem run_nextN {r:Nat} {x:Operand} (h:o.op= .next x false) (hx:ρ x= .pointer (some ⟨r,0,none⟩)) (hE:(eRn r).holds W):(execOp ρ o).run P W= .ok (.value (.tuple #[.bool false])) W:=by
 obtain ⟨a,s,b,hr⟩:=hE
 have h1:(Instr.next (.pointer (some ⟨r,0,none⟩)) false o.type).run P W= .ok (.tuple #[.bool false]) W:=by
  simp only [Instr.next,getObj,Sem.run_bind,Sem.run,hr,Result.andThen]
  rfl
 unfold execOp; rw [h]; simp [hx,h1]
theorem nxB_t (x y:Value):nxB (.tuple #[.bool true,x,y])=true:=rfl
theorem nxB_f:nxB (.tuple #[.bool false])=false:=rfl
theorem run_exNxt {k b r n cnt:Nat} {m:Int→Option E} {left:Int→Bool} {x:Operand} {v:Value} {e:Ent} (h:o.op= .extract x 0) (hx:ρ x=v) (hN:Nxt C P k b r n m left cnt v e):(execOp ρ o).run P W= .ok (.value (.bool (nxB v))) W:=by
 rcases hN with ⟨rfl, _⟩ | ⟨x0,c,rfl, _⟩
 ·unfold execOp; rw [h]; simp [go_sem,hx,nxB]
 ·unfold execOp; rw [h]; simp [go_sem,hx,nxB]
theorem dv_exN {k b r n cnt d d1:Nat} {m:Int→Option E} {left:Int→Bool} {e:Ent} (h:o.op= .extract (.tmp d1) 0) (hN:Nxt C P k b r n m left cnt (ρ (.tmp d1)) e) (hd:o.dst=some d) (hc:atV cr i=[]) (hkl:atV kl i=[])
  (hD:∀ (σ β':Tmp→Value) (X':Nat→Ent),(σ d= .bool (nxB (ρ (.tmp d1))))→(∀ t,t≠d→σ t=ρ (.tmp t))→D i σ β' X'):DoesU P o ρ W (PostV cr kl D i o.dst ρ β W X):=by
 refine DoesU.value (run_exNxt h rfl hN) ⟨[],by rw [hc]; rfl,⟨by rw [hkl]; exact Upd.refl _ _,(fun e' he'=>by cases he'),List.Pairwise.nil⟩,fun σ β' X' hs hv hb' hbv hx' hN'=>hD σ β' X' (hv d hd) (fun t ht=>hs t (by rw [hd]; simpa using ht.symm))⟩
end
/-- strings as a map's elements -/
def strC:Cod ByteArray where
 enc:=Value.string
 dat s:= .lit (.string s.data.toList)
 R v:=match v with
   | .string s=>some (.lit (.string s.data.toList),[])
   | _=>none
 e0:=ByteArray.empty
 read e:=rfl
 back v d ps e h hd:=by
  subst hd
  split at h
  ·rename_i s
   simp only [Option.some.injEq,Prod.mk.injEq,DataW.lit.injEq,Lit.string.injEq,and_true] at h
   obtain ⟨⟨l⟩⟩:=s
   obtain ⟨⟨l'⟩⟩:=e
   simp at h
   rw [h.1]
  ·cases h
end
section
open Go.RowKit
abbrev NV:=Nat×VerD
abbrev MpD:=Int→Option ByteArray
def nv0:NV:=(0,zD)
def stsL (p:NV→Bool) (l:List NV):List NV:=l.filter fun x=>!(p x)
def oneL (r:Nat) (l:List NV):List NV:=if (l.getD 0 nv0).1=r then l.take 1 else l.drop (l.length - 1)
def stayL (p:NV→Bool) (r:Nat) (l:List NV):List NV:=if (stsL p l).length=0 then oneL r l else stsL p l
/-- every slot of the chain blank -/
def blkM (l:List NV):Nat→MpD
 | 0=>fun _=>none
 | i+1=>putM (blkM l i) ((l.getD i nv0).1:Int) (some (⟨#[]⟩:ByteArray))
/-- the version that stays, its link set anew -/
def nxV (g:Int→Int) (n:Int) (last:NV) (ss:List NV) (i:Nat) (x:NV):VerD:=
 if i+1 < ss.length then (x.2.1,x.2.2.1,n,((ss.getD (i+1) nv0).1:Int),x.2.2.2.2.2.1,x.2.2.2.2.2.2)
 else if x.1=last.1 then x.2
 else if g x.2.2.1=3 then (x.2.1,0, -1,0,x.2.2.2.2.2.1,x.2.2.2.2.2.2)
 else (x.2.1,x.2.2.1,last.2.2.2.1,last.2.2.2.2.1,x.2.2.2.2.2.1,x.2.2.2.2.2.2)
def stM (g:Int→Int) (n:Int) (last:NV) (ss:List NV) (m0:MpD):Nat→MpD
 | 0=>m0
 | i+1=>putM (stM g n last ss m0 i) ((ss.getD i nv0).1:Int) (some (txD (nxV g n last ss i (ss.getD i nv0))))
def shF (p:NV→Bool) (g:Int→Int) (n:Int) (r:Nat) (l:List NV):Option MpD:=
 if (stsL p l).length=l.length then none
 else if (stayL p r l).length=l.length then some fun _=>none
 else if ((stayL p r l).getD 0 nv0).1=r then some (stM g n (l.getD (l.length - 1) nv0) (stayL p r l) (blkM l l.length) (stayL p r l).length)
 else some (putM (stM g n (l.getD (l.length - 1) nv0) (stayL p r l) (blkM l l.length) (stayL p r l).length) r (some (strOfNums [0,((stayL p r l).getD 0 nv0).1])))
theorem filt_fst {ks:List FK} {l:List NV} {p:NV→Bool} (h:ks.map Prod.fst=l):(ks.filter fun k=>!(p k.1)).map Prod.fst=stsL p l:=by
 subst h
 rw [stsL,List.filter_map]; rfl
theorem filt_len {ks:List FK} {l:List NV} {p:NV→Bool} (h:ks.map Prod.fst=l):(ks.filter fun k=>!(p k.1)).length=(stsL p l).length:=by rw [← filt_fst h,List.length_map]
theorem sts_le {l:List NV} {p:NV→Bool}:(stsL p l).length≤l.length:=List.length_filter_le _ _
theorem flat_split {ks:List FK} {n:Int} (k:Nat):ks.flatMap (cellsF n)=(ks.take k).flatMap (cellsF n)++(ks.drop k).flatMap (cellsF n):=by rw [← List.flatMap_append,List.take_append_drop]
theorem at_takeF {w:World} {A:Option Addr} {ks:List FK} {n:Int} (h:At w A (ks.flatMap (cellsF n))) (k:Nat):At w A ((ks.take k).flatMap (cellsF n)):=by
 rw [flat_split k] at h
 intro j x hj
 exact h j x (by rw [List.getElem?_append_left (List.getElem?_eq_some_iff.1 hj).1]; exact hj)
theorem at_dropF {w:World} {A:Option Addr} {ks:List FK} {n:Int} {fc:Nat} (h:At w A (ks.flatMap (cellsF n))) (k:Nat) (hk:k < ks.length) (hc:ks.length≤fc):At w (if fc=k then A else A.map (·.add (k*8))) ((ks.drop k).flatMap (cellsF n)):=by
 have h1:=At.drop h (k*8) (fc*8) (by rw [flatLen (cellsF_len n)]; omega)
 rw [if_neg (by omega)] at h1 ⊢
 have h2:(ks.flatMap (cellsF n)).drop (k*8)=(ks.drop k).flatMap (cellsF n):=by
  rw [flat_split k,List.drop_left' (by rw [flatLen (cellsF_len n),List.length_take]; omega)]
 rw [h2] at h1
 exact h1
theorem stay_sts {p:NV→Bool} {r:Nat} {l:List NV} (h:(stsL p l).length≠0):stayL p r l=stsL p l:=if_neg h
theorem stay_first {p:NV→Bool} {r:Nat} {l:List NV} (h:(stsL p l).length=0) (h0:(l.getD 0 nv0).1=r):stayL p r l=l.take 1:=by rw [stayL,if_pos h,oneL,if_pos h0]
theorem stay_last {p:NV→Bool} {r:Nat} {l:List NV} (h:(stsL p l).length=0) (h0:(l.getD 0 nv0).1≠r):stayL p r l=l.drop (l.length - 1):=by rw [stayL,if_pos h,oneL,if_neg h0]
theorem first_eq {ks:List FK} {x:NV} {A:Option Addr} {c:Nat} (h:ks[0]? =some (x,A,c)):(ks.map Prod.fst).getD 0 nv0=x:=by
 rw [List.getD_eq_getElem?_getD,List.getElem?_map,h]; rfl
theorem nv_get {ks:List FK} {i:Nat} {x:NV} {A:Option Addr} {c:Nat} (h:ks[i]? =some (x,A,c)):(ks.map Prod.fst).getD i nv0=x:=by
 rw [List.getD_eq_getElem?_getD,List.getElem?_map,h]; rfl
theorem blk_step {ks:List FK} {i:Nat} {x:NV} {A:Option Addr} {c:Nat} (h:ks[i]? =some (x,A,c)):blkM (ks.map Prod.fst) (i+1)=putM (blkM (ks.map Prod.fst) i) (x.1:Int) (some (⟨#[]⟩:ByteArray)):=by rw [blkM,nv_get h]
theorem fk_lt {ks:List FK} {i:Nat} {x:NV} {A:Option Addr} {c:Nat} (hk:∀ k∈ks,k.1.1 < 24) (h:ks[i]? =some (x,A,c)):x.1 < 24:=hk _ (List.mem_of_getElem? h)
theorem st_step {ss:List FK} {i:Nat} {x:NV} {A:Option Addr} {c:Nat} {g:Int→Int} {n a b n1 n2:Int} {ho:Bool} {rs:List Val} {l:NV} {m0:MpD} (h:ss[i]? =some (x,A,c)) (hn:nxV g n l (ss.map Prod.fst) i x=(a,b,n1,n2,ho,rs)):stM g n l (ss.map Prod.fst) m0 (i+1)=putM (stM g n l (ss.map Prod.fst) m0 i) (x.1:Int) (some (tbytesF a b n1 n2 ho rs)):=by rw [stM,nv_get h,hn]; rfl
theorem nx_1 {ss:List FK} {i:Nat} {x z l:NV} {A:Option Addr} {c:Nat} {g:Int→Int} {n:Int} (h:i+1 < ss.length) (hz:ss[i+1]? =some (z,A,c)):nxV g n l (ss.map Prod.fst) i x=(x.2.1,x.2.2.1,n,(z.1:Int),x.2.2.2.2.2.1,x.2.2.2.2.2.2):=by rw [nxV,if_pos (by rw [List.length_map]; exact h),nv_get hz]
theorem nx_2 {ss:List FK} {i:Nat} {x l:NV} {g:Int→Int} {n:Int} (h:¬ i+1 < ss.length) (h2:x.1=l.1):nxV g n l (ss.map Prod.fst) i x=(x.2.1,x.2.2.1,x.2.2.2.1,x.2.2.2.2.1,x.2.2.2.2.2.1,x.2.2.2.2.2.2):=by rw [nxV,if_neg (by rw [List.length_map]; exact h),if_pos h2]
theorem nx_3 {ss:List FK} {i:Nat} {x l:NV} {g:Int→Int} {n:Int} (h:¬ i+1 < ss.length) (h2:¬ x.1=l.1) (h3:g x.2.2.1=3):nxV g n l (ss.map Prod.fst) i x=(x.2.1,0, -1,0,x.2.2.2.2.2.1,x.2.2.2.2.2.2):=by rw [nxV,if_neg (by rw [List.length_map]; exact h),if_neg h2,if_pos h3]
theorem nx_4 {ss:List FK} {i:Nat} {x l:NV} {g:Int→Int} {n:Int} (h:¬ i+1 < ss.length) (h2:¬ x.1=l.1) (h3:¬ g x.2.2.1=3):nxV g n l (ss.map Prod.fst) i x=(x.2.1,x.2.2.1,l.2.2.2.1,l.2.2.2.2.1,x.2.2.2.2.2.1,x.2.2.2.2.2.2):=by rw [nxV,if_neg (by rw [List.length_map]; exact h),if_neg h2,if_neg h3]
theorem sh_none {p:NV→Bool} {g:Int→Int} {n:Int} {r:Nat} {l:List NV} (h:(stsL p l).length=l.length):shF p g n r l=none:=if_pos h
theorem sh_same {p:NV→Bool} {g:Int→Int} {n:Int} {r:Nat} {l:List NV} (h:(stsL p l).length≠l.length) (h2:(stayL p r l).length=l.length):shF p g n r l=some fun _=>none:=by rw [shF,if_neg h,if_pos h2]
theorem sh_root {p:NV→Bool} {g:Int→Int} {n:Int} {r:Nat} {l sl:List NV} (h:(stsL p l).length≠l.length) (h2:sl.length≠l.length) (hs:sl=stayL p r l) (h3:(sl.getD 0 nv0).1=r):shF p g n r l=some (stM g n (l.getD (l.length - 1) nv0) sl (blkM l l.length) sl.length):=by subst hs; rw [shF,if_neg h,if_neg h2,if_pos h3]
theorem sh_lead {p:NV→Bool} {g:Int→Int} {n:Int} {r:Nat} {l sl:List NV} (h:(stsL p l).length≠l.length) (h2:sl.length≠l.length) (hs:sl=stayL p r l) (h3:(sl.getD 0 nv0).1≠r):shF p g n r l=some (putM (stM g n (l.getD (l.length - 1) nv0) sl (blkM l l.length) sl.length) r (some (strOfNums [0,(sl.getD 0 nv0).1]))):=by subst hs; rw [shF,if_neg h,if_neg h2,if_neg h3]
/-- what DeleteFunc leaves: the row's head is known, the rest is blank -/
def eDf (t:TypeId) (v:Value) (m:Nat) (n:Int) (ls:List FK):Ent:=⟨v.ownBlock.toList,fun W=>∃ rest,W.ownsRow 0 t 8 v m (ls.flatMap (cellsF n)++rest)⟩
theorem eDf_loc (t:TypeId) (v:Value) (m:Nat) (n:Int) (ls:List FK):(eDf t v m n ls).loc:=fun W W' h hb=>by
 obtain ⟨rest,h'⟩:=hb
 exact ⟨rest,eO_loc t 8 v m _ W W' h h'⟩
theorem eDf_lt {t:TypeId} {v:Value} {m:Nat} {n:Int} {ls:List FK} {W:World} (h:(eDf t v m n ls).holds W):∀ k∈(eDf t v m n ls).fp,k < W.heap.size:=fun k hk=>by
 obtain ⟨rest,h'⟩:=h
 exact own0_block h' k (by simpa [eDf] using hk)
theorem eDf_at {t:TypeId} {A:Option Addr} {c m:Nat} {n:Int} {ls:List FK} {W:World} (h:(eDf t (.slice A m c) m n ls).holds W):At W A (ls.flatMap (cellsF n)):=by
 obtain ⟨rest,h'⟩:=h
 have h1:=At.of_ownN h'
 intro k x hk
 exact h1 k x (by rw [List.getElem?_append_left (List.getElem?_eq_some_iff.1 hk).1]; exact hk)
/-- what stays: in the call's own memory or in memory that stood before -/
def eSv (w:World) (A:Option Addr) (n:Int) (ss:List FK) (fp:List Nat):Ent:=⟨fp,fun W=>At w A (ss.flatMap (cellsF n))∨((∀ ad,A=some ad→ad.block∈fp)∧At W A (ss.flatMap (cellsF n)))⟩
theorem eSv_at {w W:World} {A:Option Addr} {n:Int} {ss:List FK} {fp:List Nat} (h:(eSv w A n ss fp).holds W) (hx:Ext w W):At W A (ss.flatMap (cellsF n)):=by
 rcases h with h | ⟨_,h⟩
 ·exact h.ext hx
 ·exact h
theorem eSv_loc (w:World) (A:Option Addr) (n:Int) (ss:List FK) (fp:List Nat):(eSv w A n ss fp).loc:=fun W W' h hb=>by
 rcases hb with hb | ⟨hA,hb⟩
 ·exact .inl hb
 ·refine .inr ⟨hA,fun j u hj=>?_⟩
  obtain ⟨ad,e,hl,hc⟩:=hb j u hj
  have h1:=h ad.block (hA ad e)
  refine ⟨ad,e,?_,?_⟩
  ·rw [Array.getElem?_eq_getElem hl] at h1
   exact (Array.getElem?_eq_some_iff.1 h1).1
  ·unfold World.cell? at hc ⊢
   rw [add_block] at hc ⊢
   rw [h1]; exact hc
theorem St.dfSv {w w0 W:World} {bor:List Nat} {L1 L2:List Ent} {t:TypeId} {A:Option Addr} {m c:Nat} {n:Int} {ls:List FK} (h:St w0 bor (L1++eDf t (.slice A m c) m n ls::L2) W):St w0 bor (L1++eSv w A n ls (Value.ownBlock (.slice A m c)).toList::L2) W:=by
 refine St.repl h rfl (fun hb=>?_) (eSv_loc _ _ _ _ _)
 have h1:=eDf_at hb
 obtain ⟨rest,hr⟩:=hb
 cases hA:A with
 | none=>subst hA; exact .inr ⟨fun ad e=>(by cases e),h1⟩
 | some a=>
   subst hA
   rcases hr.2 with ⟨hv, _⟩ | ⟨g,cap,cur,hv, _⟩
   ·cases hv
   ·injection hv with h2 h3 h4
    injection h2 with h2
    subst h2
    exact .inr ⟨fun ad e=>(by injection e with e; subst e; simp [Value.ownBlock]),h1⟩
theorem St.dfOld {w w0 W:World} {bor:List Nat} {L1 L2:List Ent} {t:TypeId} {v:Value} {A':Option Addr} {m:Nat} {n:Int} {ls ss:List FK} (h:St w0 bor (L1++eDf t v m n ls::L2) W) (hA:At w A' (ss.flatMap (cellsF n))):St w0 bor (L1++eSv w A' n ss v.ownBlock.toList::L2) W:=
 St.repl h rfl (fun _=> .inl hA) (eSv_loc _ _ _ _ _)
section
variable {P:Program} {ops:Array Oper} {L:List Nat} {a0:Act} {w0:World} {bor:List Nat} {X0:List Ent} {us cr kl:List (List Nat)}
 {D:Nat→(Tmp→Value)→(Tmp→Value)→(Nat→Ent)→Prop} {i:Nat} {o:Oper} {ρ:Operand→Value} {β:Tmp→Value} {W:World} {X:Nat→Ent}
/-- a callee that changes one entry's blocks and leaves another entry on the same blocks -/
theorem post_chgE {v:Value} {W':World} {q q':Nat} {E E':Ent} (hX:X q=E) (hc:atV cr i=[q']) (hk:atV kl i=[q]) (hu:Upd E.fp W W') (hh:E'.holds W') (hl:E'.loc) (hf:∀ k∈E'.fp,k∈E.fp∧k < W'.heap.size)
  (hD:∀ (σ β':Tmp→Value) (X':Nat→Ent),(∀ t,o.dst≠some t→σ t=ρ (.tmp t))→(∀ t,o.dst≠some t→β' t=β t)→(∀ d,o.dst=some d→σ d=v∧β' d=v)→X' q'=E'→D i σ β' X'):PostV cr kl D i o.dst ρ β W X v W':=by
 subst hX
 refine ⟨[E'],by rw [hc]; rfl,⟨?_,fun e he=>?_,List.pairwise_singleton _ _⟩,fun σ β' X' hs' hv hb' hbv hx' hN=>hD σ β' X' hs' hb' (fun d hd=>⟨hv d hd,hbv d hd⟩) ?_⟩
 ·rw [hk]
  simp only [List.flatMap_cons,List.flatMap_nil,List.append_nil]
  exact hu
 ·rw [List.mem_singleton] at he
  subst he
  refine ⟨hh,hl,fun k hk'=>⟨.inl ?_,(hf k hk').2⟩⟩
  rw [hk]
  simpa using (hf k hk').1
 ·rw [hc] at hN
  exact (List.cons.inj hN).1
theorem CtxV.fpW {q:Nat} {E:Ent} (cx:CtxV ops L a0 w0 bor X0 us D i ρ β W X) (hX:X q=E) (hu:(atV us i).contains q=true):∀ k∈E.fp,k∈bor∨w0.heap.size≤k:=fun k hk=>by
 subst hX
 exact ((cx.ok q hu).own k hk).1
end
end
section
open Go.RowKit
/-- nil, or a map of the call's own -/
def ShPost (o:Option MpD) (w:World) (e:Ending) (w':World):Prop:=match o with
 | none=>e= .returned (.map none)∧Ext w w'
 | some m=>∃ b cnt,e= .returned (.map (some b))∧cnt≤100∧St w [] [eMg strC Tryz.prog 3 b cnt m] w'
theorem hshort_any (FA:Option Addr) (fc:Nat) (n:Int) (ks:List FK) (r:Nat) (f0:FuncId) (cap:Array Value) (P:NV→Bool) (st_:TypeId) (sv_:Value) (g:Int→Int) (w:World) (hF:At w FA (ks.flatMap (cellsF n))) (hfc:ks.length≤fc) (hl:0 < ks.length∧ks.length≤24) (hr24:r < 24) (hk24:∀ k∈ks,k.1.1 < 24) (hR:∀ k∈ks,At w k.2.1 (flatR k.1.2.2.2.2.2.2)∧k.1.2.2.2.2.2.2.length≤100000) (hT:StOk w st_ sv_ g) (hN:NoneAt w) (hcf:callP Tryz.prog f0=true) (hf:∀ (W:World) (k:FK),Ext w W→Calls Tryz.prog f0 (#[.agg #[.int .i64 n, .int .i64 (k.1.1:Int), .int .i64 k.1.2.1, .int .i64 k.1.2.2.1, .int .i64 k.1.2.2.2.1, .int .i64 k.1.2.2.2.2.1, .bool k.1.2.2.2.2.2.1, .slice k.2.1 k.1.2.2.2.2.2.2.length k.2.2]]++cap) W (Ret (.bool (P k.1)) W)):
  Calls Tryz.prog 66 #[.slice FA ks.length fc, .agg #[.int .i64 n, .int .i64 ((r:Int))], .func (.func f0) #[] cap, .iface st_ (sv_)] w (ShPost (shF P g n r (ks.map Prod.fst)) w):=by
 obtain ⟨fS,rv,hM,hC,hG⟩:=hT
 go_enter Tryz.func66,Tryz.ntmps66
 have hst0:=St.start w
 refine wp_seq (sqr ?_)
 refine sqbx #[vi n,vi ((r:Int))] hst0 fun B5_1 W1 hst1=>?_
 refine sqp [.k 8 (.map none)] ?_
 refine then_normal (wp_seq (sqr (sqp [.m 16 0] ?_)))
 refine sqk2 (fun A17_4 c17_4=> .slice A17_4 ks.length c17_4) (fun A17_4 c17_4=>eO 43 8 (.slice A17_4 ks.length c17_4) ks.length (ks.flatMap (cellsF n))) hst1 (fun cx=>⟨_,(gclone_any FA fc n ks _ (hF.ext cx.upd.to_ext) (by omega)).mono (by rintro e W1 ⟨A4,c4,rfl,ho,hx⟩; exact ⟨_, _,rfl,St.one hx (eO_new ho)⟩),(map1 (cx.ou 16))⟩) fun A17_4 c17_4 W4 hst4=>?_
 refine sqp [.m 18 2] ?_
 refine sqc0 (.slice A17_4 ((ks.filter fun k=>!(P k.1)).length) c17_4) (eDf 43 (.slice A17_4 ks.length c17_4) ks.length n (ks.filter fun k=>!(P k.1))) 1 hst4 (by
   refine svA fun ρ β W X cx=>?_
   refine DoesU.call (run_callF (args:=#[.slice A17_4 ks.length c17_4, .func (.func f0) #[] cap]) rfl cx.sees rfl (by kernel_rfl) (map2 (cx.ou 17) (cx.ou 18))) ?_
   refine (gdel_any A17_4 c17_4 n ks f0 cap (fun k:FK=>P k.1) _ (cx.ri 1 rfl) (by omega) hcf (fun W k hW=>hf W k (cx.upd.join hW (CtxV.fpW cx (cx.init 1 _ rfl) rfl)).to_ext)).mono ?_
   rintro e W1 ⟨rfl,hz,hu⟩
   refine ⟨_,rfl,post_chgE (E:=eO 43 8 (.slice A17_4 ks.length c17_4) ks.length (ks.flatMap (cellsF n))) (E':=eDf 43 (.slice A17_4 ks.length c17_4) ks.length n (ks.filter fun k=>!(P k.1))) (cx.init 1 _ rfl) rfl rfl hu hz (eDf_loc _ _ _ _ _) (fun k hk=>⟨hk,eDf_lt hz k hk⟩) (fun σ β' X' hs hb hv hx=>?_)⟩
   exact ⟨(hv 19 rfl).1,hx⟩) fun W6 hst6=>?_
 refine sqp [.m 9 19] ?_
 refine then_normal (wp_seq (wp_seq (sqr (sqp [.m 20 9, .k 21 (vi (((ks.filter fun k=>!(P k.1)).length:Int))), .m 22 0, .k 23 (vi ((ks.length:Int))), .k 24 (.bool (((ks.filter fun k=>!(P k.1)).length:Int)==(ks.length:Int)))] ?_))))
 refine then_normal (wbs (fun hs13=>?_) fun hs13=>?_)
 ·have hs13p:=beq_iff_eq.1 hs13
  refine wp_seq (sqr (sqp [.k 8 (.map none)] ?_))
  refine then_normal (wp_ret (then_ret ?_))
  refine bpr (.map none) (results_1 Tryz.results66 rpt) ?_
  have h9_:shF P g n r (ks.map Prod.fst)=none:=sh_none (by rw [← filt_len rfl,List.length_map]; omega)
  rw [h9_]
  exact ⟨rfl,hst6.ext⟩
 have hs13p:=beq_eq_false_iff_ne.1 hs13
 refine wp_skip (then_normal ?_)
 refine wp_cutT (fun t_ az W=>∃ SA:Option Addr,∃ sc:Nat,∃ ss:List FK,∃ fp:List Nat,ss.map Prod.fst=stayL P r (ks.map Prod.fst)∧(∀ k∈ss,k∈ks)∧(0 < ss.length∧ss.length≤ks.length)∧az=⟨(ovr (jv az) [(9,9,0,[.slice SA ss.length sc]),(15,25,16,[])] t_).toArray,[]⟩∧St w [] [eB B5_1 24 #[vi n,vi ((r:Int))],eSv w SA n ss fp] W) ?_ ?_
 ·refine wp_seq (sqr (sqp [.m 25 9, .k 26 (vi (((ks.filter fun k=>!(P k.1)).length:Int))), .k 27 (.bool (((ks.filter fun k=>!(P k.1)).length:Int)==0))] ?_))
  refine then_normal (wbs (fun hs19=>?_) fun hs19=>?_)
  ·have hs19p:=beq_iff_eq.1 hs19
   refine wp_seq (sqr (sqp [.m 28 0] ?_))
   refine sql (.slice FA 1 fc) hst6 (fun cx=>run_sliceL_hi (e:=43) (sz:=8) (m:=1) rfl (by kernel_rfl) (by kernel_rfl) (cx.ou 28) (cx.co _) (by omega) (by omega)) ?_
   refine sqp [.m 9 29] ?_
   refine then_normal (wp_seq ?_)
   obtain ⟨fx,fA,fC,hkf⟩:=getF (ks:=ks) (k:=0) (by omega)
   refine wp_region_Z [0,1,3,7,0,31] [[],[],[],[],[0]] [.k 30 (.slice FA ks.length fc), .c 31 (.pointer (some ((ad FA).add (0*8)))), .c 32 (.pointer (some ((ad FA).add (0*8+0)))), .c 33 (.agg #[vi n,vi ((fx.1:Int))]), .c 34 (.agg #[vi n,vi ((r:Int))]), .c 35 (.bool (!(n==n&&(fx.1:Int)==(r:Int))))] [0,1] [1,2,3,4,5] [(30,0,6,36)] hst6 ?_ fun W23 hst23=>?_
   ·refine ⟨?_,?_,?_,?_,?_,trivial⟩
    ·exact xs4 rfl id fun cx=>run_indexSlM (e:=43) (m:=0) (sz:=8) rfl (by kernel_rfl) (by kernel_rfl) (cx.an 0) (cx.co _) (by omega) (by omega) (hF.ext cx.upd.to_ext) (flatPos (sz:=8) (cellsF_len n) (by decide) (by omega))
    ·exact xs4 rfl id fun cx=>run_fieldAd rfl (by kernel_rfl) (cx.an 1)
    ·exact xs4 rfl id fun cx=>run_loadElt (f:=(cellsF n)) (m:=0) (sz:=8) (off:=0) (n:=2) rfl (by kernel_rfl) (by kernel_rfl) (cx.an 2) rfl (cellsF_len n) (hF.ext cx.upd.to_ext) hkf (fun k hk=>match k,hk with | 0, _=>rfl | 1, _=>rfl | k+2,hk=>absurd hk (by omega))
    ·exact xs4 rfl id fun cx=>run_loadB (n:=2) rfl (by kernel_rfl) (by kernel_rfl) (cx.ou 5) (cx.bi 0 rfl) (nle rfl) rfl
    ·exact xs4 rfl id fun cx=>run_neT rfl (cx.an 3) (cx.an 4) rfl
   refine then_normal ?_
   rcases Bool.eq_false_or_eq_true (n==n&&(fx.1:Int)==(r:Int)) with hs24 | hs24
   ·have hs24p:=hs24
    simp only [zB] at hs24p
    obtain ⟨hs24p1,hs24p2⟩:=hs24p
    refine wp_cond_false (show Act.eval _ _= .bool false from (congrArg Value.bool (by rw [hs24]; rfl))) (wp_skip (then_normal ?_))
    have hz0_:(stsL P (ks.map Prod.fst)).length=0:=by rw [← filt_len rfl]; omega
    have hf0_:=first_eq hkf
    have hr0_:=hs24
    simp at hr0_
    have hq_:=St.dfOld (w:=w) (L1:=[eB B5_1 24 #[vi n,vi ((r:Int))]]) hst23 (at_takeF hF 1)
    simp only [List.cons_append,List.nil_append] at hq_
    exact ⟨FA,fc,(ks.take 1),((Value.ownBlock (.slice A17_4 ks.length c17_4)).toList),by rw [stay_first hz0_ (by rw [hf0_]; omega),List.map_take],fun k hk=>List.mem_of_mem_take hk,⟨by rw [List.length_take]; omega,by rw [List.length_take]; omega⟩,(by rw [List.length_take,Nat.min_eq_left (show 1≤ks.length by omega)]; kernel_rfl),hq_.pk [0,1]⟩
   have hs24p:=hs24
   simp only [zB] at hs24p
   refine wp_cond_true (show Act.eval _ _= .bool true from (congrArg Value.bool (by rw [hs24]; rfl))) (sqr (sqp [.m 36 0, .m 37 0, .k 38 (vi ((ks.length:Int))),sI 39 ((ks.length:Int) - 1) (by omega)] ?_))
   refine sql (.slice ((if fc=((ks.length:Int) - 1).toNat then FA else FA.map (·.add (((ks.length:Int) - 1).toNat*8)))) ((ks.length - ((ks.length:Int) - 1).toNat)) ((fc - ((ks.length:Int) - 1).toNat))) hst23 (fun cx=>run_sliceL_lo (e:=43) (sz:=8) (l:=((ks.length:Int) - 1).toNat) rfl (by kernel_rfl) (by kernel_rfl) (cx.ou 36) (cx.ou 39) (by omega) (by omega)) ?_
   refine sqp [.m 9 40] ?_
   refine then_normal ?_
   have hz0_:(stsL P (ks.map Prod.fst)).length=0:=by rw [← filt_len rfl]; omega
   have hf0_:=first_eq hkf
   have hr0_:=hs24
   simp at hr0_
   have hkz_:((ks.length:Int) - 1).toNat=ks.length - 1:=by omega
   have hq_:=St.dfOld (w:=w) (L1:=[eB B5_1 24 #[vi n,vi ((r:Int))]]) hst23 (at_dropF hF ((ks.length:Int) - 1).toNat (by omega) hfc)
   simp only [List.cons_append,List.nil_append] at hq_
   exact ⟨((if fc=((ks.length:Int) - 1).toNat then FA else FA.map (·.add (((ks.length:Int) - 1).toNat*8)))),((fc - ((ks.length:Int) - 1).toNat)),(ks.drop ((ks.length:Int) - 1).toNat),((Value.ownBlock (.slice A17_4 ks.length c17_4)).toList),by rw [stay_last hz0_ (by rw [hf0_]; omega),List.length_map,← hkz_,List.map_drop],fun k hk=>List.mem_of_mem_drop hk,⟨by rw [List.length_drop]; omega,by rw [List.length_drop]; omega⟩,(by rw [List.length_drop]; kernel_rfl),hq_.pk [0,1]⟩
  have hs19p:=beq_eq_false_iff_ne.1 hs19
  refine wp_skip (then_normal ?_)
  have hq_:=St.dfSv (w:=w) (L1:=[eB B5_1 24 #[vi n,vi ((r:Int))]]) hst6
  simp only [List.cons_append,List.nil_append] at hq_
  exact ⟨A17_4,c17_4,(ks.filter fun k=>!(P k.1)),((Value.ownBlock (.slice A17_4 ks.length c17_4)).toList),(filt_fst rfl).trans (stay_sts (by rw [← filt_len rfl]; omega)).symm,fun k hk=>(List.mem_filter.1 hk).1,⟨by omega,List.length_filter_le _ _⟩,(by kernel_rfl),hq_.pk [0,1]⟩
 rintro a15 W15 ⟨SA,sc,ss,fp,hss,hsk,hsl,hj_,hst15⟩
 refine ovz hj_ fun u15_=>?_
 refine wp_seq (sqr ?_)
 refine sqn1 (fun x_=>pbg x_) (fun M41_31=> .map (some M41_31)) (fun M41_31=>eMg strC Tryz.prog 3 M41_31 0 (fun _=>none)) hst15 (by
   refine svA fun ρ β W X cx=>?_
   exact dv_makeMg rfl rfl rfl rfl (fun σ β' X' hs hb hv hx=>⟨hv,hx⟩)) fun M41_31 W31 hst31=>?_
 refine sqp [.m 10 41] ?_
 refine then_normal (wp_seq (wp_seq (sqr (sqp [.m 42 9, .k 43 (vi ((ss.length:Int))), .m 44 0, .k 45 (vi ((ks.length:Int))), .k 46 (.bool ((ss.length:Int)==(ks.length:Int)))] ?_))))
 refine then_normal (wbs (fun hs38=>?_) fun hs38=>?_)
 ·have hs38p:=beq_iff_eq.1 hs38
  refine wp_seq (sqr (sqp [.m 47 10, .m 8 47] ?_))
  refine then_normal (wp_ret (then_ret ?_))
  refine bpr (.map (some M41_31)) (results_1 Tryz.results66 rpt) ?_
  have hn9_:(stsL P (ks.map Prod.fst)).length≠((ks.map Prod.fst)).length:=by rw [← filt_len rfl,List.length_map]; omega
  have h9_:=sh_same (g:=g) (n:=n) hn9_ (by rw [← hss,List.length_map,List.length_map]; omega)
  rw [h9_]
  have hp9_:=hst31.pick [2] (by decide) rfl
  exact ⟨_, _,rfl,by omega,hp9_⟩
 have hs38p:=beq_eq_false_iff_ne.1 hs38
 refine wp_skip (then_normal (wp_seq (wp_seq (sqr (sqp [.m 48 0, .k 49 (vi ((ks.length:Int))), .k 50 (vi 0)] ?_)))))
 refine then_normal (wp_block ?_)
 refine wp_loopT (fun t_ mz az W=>∃ i:Nat,i≤ks.length∧mz=ks.length - i∧az=⟨(ovr (jv az) [(12,12,1,[]),(37,50,0,[vi ((i:Int))]),(0,51,8,[])] t_).toArray,[]⟩∧St w [] [eB B5_1 24 #[vi n,vi ((r:Int))],eSv w SA n ss fp,eMg strC Tryz.prog 3 M41_31 i (blkM (ks.map Prod.fst) i)] W) (ks.length - 0) ?_ ?_
 · -- the loop begins
   exact ⟨0,by omega,rfl,(by kernel_rfl),hst31.pk [0,1,2]⟩
 rintro n44 a44 W44 ⟨i,hi,rfl,hj_,hst44⟩
 refine ovz hj_ fun u44_=>?_
 refine wp_seq (sqr (sqp [.k 51 (.bool (decide ((i:Int) < (ks.length:Int))))] ?_))
 refine then_normal (wp_seq (wds (fun hs46 hs46p=>?_) fun hs46 hs46p=>?_))
 ·refine wp_skip (then_normal (wp_seq (wp_block (wp_seq ?_))))
  obtain ⟨fx,fA,fC,hkf⟩:=getF (ks:=ks) (k:=i) (by omega)
  have hlt_:=fk_lt hk24 hkf
  refine sqr ?_
  refine sql (.pointer (some ((ad FA).add (i*8)))) hst44 (fun cx=>run_indexSlM (e:=43) (m:=i) (sz:=8) rfl (by kernel_rfl) (by kernel_rfl) (cx.ou 48) (cx.ou 50) (by omega) (by omega) (hF.ext cx.upd.to_ext) (flatPos (sz:=8) (cellsF_len n) (by decide) (by omega))) ?_
  refine sql (.agg #[vi n,vi ((fx.1:Int)),vi fx.2.1,vi fx.2.2.1,vi fx.2.2.2.1,vi fx.2.2.2.2.1, .bool fx.2.2.2.2.2.1, .slice fA fx.2.2.2.2.2.2.length fC]) hst44 (fun cx=>run_loadElt (f:=(cellsF n)) (m:=i) (sz:=8) (off:=0) (n:=8) rfl (by kernel_rfl) (by kernel_rfl) (cx.ou 52) rfl (cellsF_len n) (hF.ext cx.upd.to_ext) hkf (fun k hk=>match k,hk with | 0, _=>rfl | 1, _=>rfl | 2, _=>rfl | 3, _=>rfl | 4, _=>rfl | 5, _=>rfl | 6, _=>rfl | 7, _=>rfl | k+8,hk=>absurd hk (by omega))) ?_
  refine sqal #[vi 0,vi 0,vi 0,vi 0,vi 0,vi 0, .bool false, .slice none 0 0] hst44 fun B12_49 W49 hst49=>?_
  refine sqst (n:=8) 3 #[vi n,vi ((fx.1:Int)),vi fx.2.1,vi fx.2.2.1,vi fx.2.2.2.1,vi fx.2.2.2.2.1, .bool fx.2.2.2.2.2.1, .slice fA fx.2.2.2.2.2.2.length fC] hst49 fun W50 hst50=>?_
  refine then_normal (sqr (sqp [.m 54 10, .k 55 (vp B12_49), .k 56 (.pointer (some ⟨B12_49,1,none⟩))] ?_))
  refine sqld 3 hst50 ?_
  refine sqc (eMg strC Tryz.prog 3 M41_31 (i+1) (putM (blkM (ks.map Prod.fst) i) (fx.1:Int) (some ((⟨#[]⟩:ByteArray))))) 2 hst50 (by
    refine svA fun ρ β W X cx=>?_
    exact dv_setMg (e:=9) (v:=((⟨#[]⟩:ByteArray))) (.inl rfl) (cx.ou 54) (cx.ou 57) (show ρ _= .string ⟨#[]⟩ from (cx.co _)) cx (cx.init 2 _ rfl) rfl (by omega) (by omega) rfl rfl rfl (fun σ β' X' hs hb hx=>hx)) fun W55 hst55=>?_
  refine blk_normal (then_normal (sqr (sqp [sI 58 ((i:Int)+1) (by omega), .m 50 58] ?_)))
  refine then_normal ?_
  rw [← blk_step hkf] at hst55
  refine ⟨ks.length - ((i+1)),by omega,?_⟩
  exact ⟨(i+1),by omega,rfl,(by kernel_rfl),hst55.pk [0,1,2]⟩
 refine wp_exit (then_exit (then_exit (blk_eq (then_normal (wp_seq ?_)))))
 obtain ⟨lx,lA,lC,hkl⟩:=getF (ks:=ks) (k:=((ks.length:Int) - 1).toNat) (by omega)
 refine sqr (sqp [.m 59 0, .m 60 0, .k 61 (vi ((ks.length:Int))),sI 62 ((ks.length:Int) - 1) (by omega)] ?_)
 refine sql (.pointer (some ((ad FA).add ((((ks.length:Int) - 1).toNat)*8)))) hst44 (fun cx=>run_indexSlM (e:=43) (m:=((ks.length:Int) - 1).toNat) (sz:=8) rfl (by kernel_rfl) (by kernel_rfl) (cx.ou 59) (cx.ou 62) (by omega) (by omega) (hF.ext cx.upd.to_ext) (flatPos (sz:=8) (cellsF_len n) (by decide) (by omega))) ?_
 refine sql (.agg #[vi n,vi ((lx.1:Int)),vi lx.2.1,vi lx.2.2.1,vi lx.2.2.2.1,vi lx.2.2.2.2.1, .bool lx.2.2.2.2.2.1, .slice lA lx.2.2.2.2.2.2.length lC]) hst44 (fun cx=>run_loadElt (f:=(cellsF n)) (m:=(((ks.length:Int) - 1).toNat)) (sz:=8) (off:=0) (n:=8) rfl (by kernel_rfl) (by kernel_rfl) (cx.ou 63) rfl (cellsF_len n) (hF.ext cx.upd.to_ext) hkl (fun k hk=>match k,hk with | 0, _=>rfl | 1, _=>rfl | 2, _=>rfl | 3, _=>rfl | 4, _=>rfl | 5, _=>rfl | 6, _=>rfl | 7, _=>rfl | k+8,hk=>absurd hk (by omega))) ?_
 refine sqal #[vi 0,vi 0,vi 0,vi 0,vi 0,vi 0, .bool false, .slice none 0 0] hst44 fun B13_64 W64 hst64=>?_
 refine sqst (n:=8) 3 #[vi n,vi ((lx.1:Int)),vi lx.2.1,vi lx.2.2.1,vi lx.2.2.2.1,vi lx.2.2.2.2.1, .bool lx.2.2.2.2.2.1, .slice lA lx.2.2.2.2.2.2.length lC] hst64 fun W65 hst65=>?_
 refine then_normal (wp_seq (wp_seq ?_))
 have hie_:i=ks.length:=by omega
 rw [hie_,show blkM (ks.map Prod.fst) ks.length=stM g n lx (ss.map Prod.fst) (blkM (ks.map Prod.fst) ks.length) 0 from rfl] at hst65
 refine sqr (sqp [.m 65 9, .k 66 (vi ((ss.length:Int))), .k 67 (vi 0)] ?_)
 refine then_normal (wp_block ?_)
 refine wp_loopT (fun t_ mz az W=>∃ jx:Nat,∃ cnt:Nat,jx≤ss.length∧cnt≤24+jx∧mz=ss.length - jx∧az=⟨(ovr (jv az) [(14,14,2,[]),(51,67,0,[vi ((jx:Int))]),(0,68,49,[])] t_).toArray,[]⟩∧St w [] [eB B5_1 24 #[vi n,vi ((r:Int))],eSv w SA n ss fp,eMg strC Tryz.prog 3 M41_31 cnt (stM g n lx (ss.map Prod.fst) (blkM (ks.map Prod.fst) ks.length) jx),eB B13_64 43 #[vi n,vi ((lx.1:Int)),vi lx.2.1,vi lx.2.2.1,vi lx.2.2.2.1,vi lx.2.2.2.2.1, .bool lx.2.2.2.2.2.1, .slice lA lx.2.2.2.2.2.2.length lC]] W) (ss.length - 0) ?_ ?_
 · -- the loop begins
   exact ⟨0,ks.length,by omega,by omega,rfl,(by kernel_rfl),hst65.pk [0,1,2,3]⟩
 rintro n69 a69 W69 ⟨jx,cnt,hi2,hcnt,rfl,hj_,hst69⟩
 refine ovz hj_ fun u69_=>?_
 refine wp_seq (sqr (sqp [.k 68 (.bool (decide ((jx:Int) < (ss.length:Int))))] ?_))
 refine then_normal (wp_seq (wds (fun hs71 hs71p=>?_) fun hs71 hs71p=>?_))
 ·refine wp_skip (then_normal (wp_seq (wp_block (wp_seq ?_))))
  obtain ⟨yx,yA,yC,hky⟩:=getF (ks:=ss) (k:=jx) (by omega)
  have hlt_:=fk_lt (fun k hk=>hk24 k (hsk k hk)) hky
  obtain ⟨hRy,hLy⟩:=hR _ (hsk _ (List.mem_of_getElem? hky))
  dsimp only at hRy hLy
  refine sqr (sqp [.m 69 67] ?_)
  refine sql (.pointer (some ((ad SA).add (jx*8)))) hst69 (fun cx=>run_indexSlM (e:=43) (m:=jx) (sz:=8) rfl (by kernel_rfl) (by kernel_rfl) (cx.ou 65) (cx.ou 67) (by omega) (by omega) (eSv_at (CtxV.holdE cx (cx.init 1 _ rfl) rfl) cx.upd.to_ext) (flatPos (sz:=8) (cellsF_len n) (by decide) (by omega))) ?_
  refine sql (.agg #[vi n,vi ((yx.1:Int)),vi yx.2.1,vi yx.2.2.1,vi yx.2.2.2.1,vi yx.2.2.2.2.1, .bool yx.2.2.2.2.2.1, .slice yA yx.2.2.2.2.2.2.length yC]) hst69 (fun cx=>run_loadElt (f:=(cellsF n)) (m:=jx) (sz:=8) (off:=0) (n:=8) rfl (by kernel_rfl) (by kernel_rfl) (cx.ou 70) rfl (cellsF_len n) (eSv_at (CtxV.holdE cx (cx.init 1 _ rfl) rfl) cx.upd.to_ext) hky (fun k hk=>match k,hk with | 0, _=>rfl | 1, _=>rfl | 2, _=>rfl | 3, _=>rfl | 4, _=>rfl | 5, _=>rfl | 6, _=>rfl | 7, _=>rfl | k+8,hk=>absurd hk (by omega))) ?_
  refine sqal #[vi 0,vi 0,vi 0,vi 0,vi 0,vi 0, .bool false, .slice none 0 0] hst69 fun B15_75 W75 hst75=>?_
  refine sqp [.m 14 69] ?_
  refine sqst (n:=8) 4 #[vi n,vi ((yx.1:Int)),vi yx.2.1,vi yx.2.2.1,vi yx.2.2.2.1,vi yx.2.2.2.2.1, .bool yx.2.2.2.2.2.1, .slice yA yx.2.2.2.2.2.2.length yC] hst75 fun W77 hst77=>?_
  refine then_normal ?_
  refine wp_cutT (fun t_ az W=>∃ xb:Int,∃ xn1:Int,∃ xn2:Int,nxV g n lx (ss.map Prod.fst) jx yx=(yx.2.1,xb,xn1,xn2,yx.2.2.2.2.2.1,yx.2.2.2.2.2.2)∧az=⟨(ovr (jv az) [(72,72,37,[])] t_).toArray,[]⟩∧St w [] [eB B5_1 24 #[vi n,vi ((r:Int))],eSv w SA n ss fp,eMg strC Tryz.prog 3 M41_31 cnt (stM g n lx (ss.map Prod.fst) (blkM (ks.map Prod.fst) ks.length) jx),eB B13_64 43 #[vi n,vi ((lx.1:Int)),vi lx.2.1,vi lx.2.2.1,vi lx.2.2.2.1,vi lx.2.2.2.2.1, .bool lx.2.2.2.2.2.1, .slice lA lx.2.2.2.2.2.2.length lC],eB B15_75 43 #[vi n,vi ((yx.1:Int)),vi yx.2.1,vi xb,vi xn1,vi xn2, .bool yx.2.2.2.2.2.1, .slice yA yx.2.2.2.2.2.2.length yC]] W) ?_ ?_
  ·refine wp_block (wp_seq (sqr (sqp [.m 78 14,sI 79 ((jx:Int)+1) (by omega), .m 80 9, .k 81 (vi ((ss.length:Int))), .k 82 (.bool (decide ((jx:Int)+1 < (ss.length:Int)))), .m 77 82] ?_)))
   refine then_normal (wds (fun hs85 hs85p=>?_) fun hs85 hs85p=>?_)
   ·obtain ⟨zx,zA,zC,hkz⟩:=getF (ks:=ss) (k:=(jx+1)) (by omega)
    refine sqr (sqp [.m 83 9, .m 84 14,sI 85 ((jx:Int)+1) (by omega)] ?_)
    refine sql (.pointer (some ((ad SA).add ((jx+1)*8)))) hst77 (fun cx=>run_indexSlM (e:=43) (m:=jx+1) (sz:=8) rfl (by kernel_rfl) (by kernel_rfl) (cx.ou 83) (cx.ou 85) (by omega) (by omega) (eSv_at (CtxV.holdE cx (cx.init 1 _ rfl) rfl) cx.upd.to_ext) (flatPos (sz:=8) (cellsF_len n) (by decide) (by omega))) ?_
    refine sql (.pointer (some ((ad SA).add ((jx+1)*8+0)))) hst77 (fun cx=>run_fieldAd rfl (by kernel_rfl) (cx.ou 86)) ?_
    refine sql (.agg #[vi n,vi ((zx.1:Int))]) hst77 (fun cx=>run_loadElt (f:=(cellsF n)) (m:=(jx+1)) (sz:=8) (off:=0) (n:=2) rfl (by kernel_rfl) (by kernel_rfl) (cx.ou 87) rfl (cellsF_len n) (eSv_at (CtxV.holdE cx (cx.init 1 _ rfl) rfl) cx.upd.to_ext) hkz (fun k hk=>match k,hk with | 0, _=>rfl | 1, _=>rfl | k+2,hk=>absurd hk (by omega))) ?_
    refine sqp [.k 89 (.pointer (some ⟨B15_75,2,none⟩)), .k 90 (.pointer (some ⟨B15_75,4,none⟩))] ?_
    refine sqst (n:=2) 4 #[vi n,vi ((yx.1:Int)),vi yx.2.1,vi yx.2.2.1,vi n,vi ((zx.1:Int)), .bool yx.2.2.2.2.2.1, .slice yA yx.2.2.2.2.2.2.length yC] hst77 fun W94 hst94=>?_
    refine blk_normal (then_normal ?_)
    -- KNOWN [('decide ((i : Int) < (ks.length : Int))', ('false', 'hs46')), ('decide ((jx : Int) < (ss.length : Int))', ('true', 'hs71')), ('decide ((jx : Int) + 1 < (ss.length : Int))', ('true', 'hs85'))]
    exact ⟨yx.2.2.1,n,((zx.1:Int)),nx_1 (by omega) hkz,(by kernel_rfl),hst94.pk [0,1,2,3,4]⟩
   refine wp_seq (sqr (sqp [.k 92 (vp B15_75)] ?_))
   refine sqlb 4 2 hst77 ?_
   refine sqp [.k 94 (vp B13_64)] ?_
   refine sqlb 3 2 hst77 ?_
   refine sql (.bool (n==n&&(yx.1:Int)==(lx.1:Int))) hst77 (fun cx=>run_eqT rfl (cx.ou 93) (cx.ou 95) rfl) ?_
   refine sqp [.m 91 96] ?_
   refine then_normal (wbs (fun hs101=>?_) fun hs101=>?_)
   ·have hs101p:=hs101
    simp only [zB] at hs101p
    obtain ⟨hs101p1,hs101p2⟩:=hs101p
    refine wp_skip (blk_normal (then_normal ?_))
    -- KNOWN [('decide ((jx : Int) < (ss.length : Int))', ('true', 'hs71')), ('decide ((jx : Int) + 1 < (ss.length : Int))', ('false', 'hs85')), ('n == n && (yx.1 : Int) == (lx.1 : Int)', ('true', 'hs101'))]
    exact ⟨yx.2.2.1,yx.2.2.2.1,yx.2.2.2.2.1,nx_2 (by omega) (by have h_:=hs101; simp at h_; omega),(by kernel_rfl),hst77.pk [0,1,2,3,4]⟩
   have hs101p:=hs101
   simp only [zB] at hs101p
   refine wp_seq (sqr (sqp [.m 98 3, .k 99 (.pointer (some ⟨B15_75,2,none⟩)), .k 100 (.pointer (some ⟨B15_75,3,none⟩))] ?_))
   refine sqld 4 hst77 ?_
   refine sqv (vi (g yx.2.2.1)) hst77 (sv_call rfl rfl rfl rfl rfl (fun _ _ _ h=>h) fun ρ β W X cx=>⟨_, _,run_invoke (args:=#[vi yx.2.2.1]) (args':=#[rv,vi yx.2.2.1]) rfl rfl (cx.ou 98) hM hC (map1 (cx.ou 101)) rfl,hG _ yx.2.2.1 cx.upd.to_ext⟩) fun W106 hst106=>?_
   refine sqp [.k 103 (.bool ((g yx.2.2.1)==3)), .m 97 103] ?_
   refine then_normal (wbs (fun hs109=>?_) fun hs109=>?_)
   ·have hs109p:=beq_iff_eq.1 hs109
    refine sqr (sqk (.agg #[vi (-1),vi 0]) hst106 (fun cx=>⟨_,hnone_any _,map0⟩) fun W110 hst110=>?_)
    refine sqp [.k 105 (.pointer (some ⟨B15_75,2,none⟩)), .k 106 (.pointer (some ⟨B15_75,3,none⟩))] ?_
    refine sqst (n:=1) 4 #[vi n,vi ((yx.1:Int)),vi yx.2.1,vi 0,vi yx.2.2.2.1,vi yx.2.2.2.2.1, .bool yx.2.2.2.2.2.1, .slice yA yx.2.2.2.2.2.2.length yC] hst110 fun W113 hst113=>?_
    refine sqp [.k 107 (.pointer (some ⟨B15_75,2,none⟩)), .k 108 (.pointer (some ⟨B15_75,4,none⟩))] ?_
    refine sqst (n:=2) 4 #[vi n,vi ((yx.1:Int)),vi yx.2.1,vi 0,vi (-1),vi 0, .bool yx.2.2.2.2.2.1, .slice yA yx.2.2.2.2.2.2.length yC] hst113 fun W116 hst116=>?_
    refine blk_normal (then_normal ?_)
    -- KNOWN [('decide ((jx : Int) + 1 < (ss.length : Int))', ('false', 'hs85')), ('n == n && (yx.1 : Int) == (lx.1 : Int)', ('false', 'hs101')), ('(g yx.2.2.1) == 3', ('true', 'hs109'))]
    exact ⟨0,(-1),0,nx_3 (by omega) (by have h_:=hs101; simp at h_; omega) (by simpa using hs109),(by kernel_rfl),hst116.pk [0,1,2,3,4]⟩
   have hs109p:=beq_eq_false_iff_ne.1 hs109
   refine sqr (sqp [.k 72 (.pointer (some ⟨B13_64,2,none⟩)), .k 73 (.pointer (some ⟨B13_64,4,none⟩))] ?_)
   refine sqlb 3 2 hst106 ?_
   refine sqp [.k 75 (.pointer (some ⟨B15_75,2,none⟩)), .k 76 (.pointer (some ⟨B15_75,4,none⟩))] ?_
   refine sqst (n:=2) 4 #[vi n,vi ((yx.1:Int)),vi yx.2.1,vi yx.2.2.1,vi lx.2.2.2.1,vi lx.2.2.2.2.1, .bool yx.2.2.2.2.2.1, .slice yA yx.2.2.2.2.2.2.length yC] hst106 fun W122 hst122=>?_
   refine blk_normal (then_normal ?_)
   -- KNOWN [('decide ((jx : Int) + 1 < (ss.length : Int))', ('false', 'hs85')), ('n == n && (yx.1 : Int) == (lx.1 : Int)', ('false', 'hs101')), ('(g yx.2.2.1) == 3', ('false', 'hs109'))]
   exact ⟨yx.2.2.1,lx.2.2.2.1,lx.2.2.2.2.1,nx_4 (by omega) (by have h_:=hs101; simp at h_; omega) (by simpa using hs109),(by kernel_rfl),hst122.pk [0,1,2,3,4]⟩
  rintro a78 W78 ⟨xb,xn1,xn2,hnx,hj_,hst78⟩
  refine ovz hj_ fun u78_=>?_
  refine wp_region_Y [0,0,2,6,0,16,48,127] [[],[],[],[4],[],[4],[],[2]] [[],[],[],[],[],[],[],[5]] [[],[],[],[],[],[],[],[2]] [.k 109 (.map (some M41_31)), .k 110 (vp B15_75), .k 111 (.pointer (some ⟨B15_75,1,none⟩)), .c 112 (vi ((yx.1:Int))), .k 113 (.pointer (some ⟨B15_75,2,none⟩)), .c 114 (.agg #[vi yx.2.1,vi xb,vi xn1,vi xn2, .bool yx.2.2.2.2.2.1, .slice yA yx.2.2.2.2.2.2.length yC]), .c 115 (.string (tbytesF yx.2.1 xb xn1 xn2 yx.2.2.2.2.2.1 yx.2.2.2.2.2.2)), .n] (fun ix σ β X=>match ix with | 0=>True | 1=>True | 2=>True | 3=>True | 4=>True | 5=>True | 6=>True | 7=>X 5=eMg strC Tryz.prog 3 M41_31 (cnt+1) (putM (stM g n lx (ss.map Prod.fst) (blkM (ks.map Prod.fst) ks.length) jx) (yx.1:Int) (some (tbytesF yx.2.1 xb xn1 xn2 yx.2.2.2.2.2.1 yx.2.2.2.2.2.2))) | _=>True) [0,1,3,4,5] [3,5,6,7] [(109,0,7,116)] hst78 ?_ ?_ ?_
  ·exact fun ix _ _ _ _ _ _ hs hb hx h=>match ix,h with
   | 7,h=>by dsimp only; rw [← hx 5 rfl]; exact h
   | 0, _ | 1, _ | 2, _ | 3, _ | 4, _ | 5, _ | 6, _ | _+8, _=>trivial
  ·refine ⟨?_,?_,?_,?_,trivial⟩
   ·exact xs4 rfl id fun cx=>run_load1 rfl (by kernel_rfl) (cx.an 2) ((cx.bi 4 rfl).cell 1)
   ·exact xs4 rfl id fun cx=>run_loadB (n:=6) rfl (by kernel_rfl) (by kernel_rfl) (cx.an 4) (cx.bi 4 rfl) (nle rfl) rfl
   ·exact xsc rfl id rfl rfl fun cx=>⟨_,tbytes_any yx.2.1 xb xn1 xn2 yx.2.2.2.2.2.1 _ _ yx.2.2.2.2.2.2 _ (hRy.ext cx.upd.to_ext) (by first | omega | decide | (simp; done) | (simp; omega)) (hN.ext cx.upd.to_ext),(map1 (cx.an 5))⟩
   ·refine svA fun ρ β W X cx=>?_
    exact dv_setMg (e:=9) (v:=(tbytesF yx.2.1 xb xn1 xn2 yx.2.2.2.2.2.1 yx.2.2.2.2.2.2)) (.inl rfl) (cx.an 0) (cx.an 3) (show ρ _= .string (tbytesF yx.2.1 xb xn1 xn2 yx.2.2.2.2.2.1 yx.2.2.2.2.2.2) from (cx.an 6)) cx (cx.init 2 _ rfl) rfl (by omega) (by omega) rfl rfl rfl (fun σ β' X' hs hb hx=>hx)
  intro σ β X W123 hD hst123 fr hfr
  simp only [exq 5 ((dTn (hD 7 lq)))] at hst123
  clear hD; subst hfr; clear σ β X
  refine blk_normal (then_normal (sqr (sqp [sI 116 ((jx:Int)+1) (by omega), .m 67 116] ?_)))
  refine then_normal ?_
  rw [← st_step hky hnx] at hst123
  refine ⟨ss.length - ((jx+1)),by omega,?_⟩
  exact ⟨(jx+1),(cnt+1),by omega,by omega,rfl,(by kernel_rfl),hst123.pk [0,1,4,2]⟩
 refine wp_exit (then_exit (then_exit (blk_eq (then_normal (wp_seq (wp_seq ?_))))))
 obtain ⟨ox,oA,oC,hko⟩:=getF (ks:=ss) (k:=0) (by omega)
 have hlo_:=fk_lt (fun k hk=>hk24 k (hsk k hk)) hko
 refine wp_region_Z [0,1,3,7,0,31] [[],[1],[],[1],[0]] [.k 117 (.slice SA ss.length sc), .c 118 (.pointer (some ((ad SA).add (0*8)))), .c 119 (.pointer (some ((ad SA).add (0*8+0)))), .c 120 (.agg #[vi n,vi ((ox.1:Int))]), .c 121 (.agg #[vi n,vi ((r:Int))]), .c 122 (.bool (!(n==n&&(ox.1:Int)==(r:Int))))] [0,1,2,3] [1,2,3,4,5] [(117,0,6,123)] hst69 ?_ fun W126 hst126=>?_
 ·refine ⟨?_,?_,?_,?_,?_,trivial⟩
  ·exact xs4 rfl id fun cx=>run_indexSlM (e:=43) (m:=0) (sz:=8) rfl (by kernel_rfl) (by kernel_rfl) (cx.an 0) (cx.co _) (by omega) (by omega) (eSv_at (CtxV.holdE cx (cx.init 1 _ rfl) rfl) cx.upd.to_ext) (flatPos (sz:=8) (cellsF_len n) (by decide) (by omega))
  ·exact xs4 rfl id fun cx=>run_fieldAd rfl (by kernel_rfl) (cx.an 1)
  ·exact xs4 rfl id fun cx=>run_loadElt (f:=(cellsF n)) (m:=0) (sz:=8) (off:=0) (n:=2) rfl (by kernel_rfl) (by kernel_rfl) (cx.an 2) rfl (cellsF_len n) (eSv_at (CtxV.holdE cx (cx.init 1 _ rfl) rfl) cx.upd.to_ext) hko (fun k hk=>match k,hk with | 0, _=>rfl | 1, _=>rfl | k+2,hk=>absurd hk (by omega))
  ·exact xs4 rfl id fun cx=>run_loadB (n:=2) rfl (by kernel_rfl) (by kernel_rfl) (cx.ou 5) (cx.bi 0 rfl) (nle rfl) rfl
  ·exact xs4 rfl id fun cx=>run_neT rfl (cx.an 3) (cx.an 4) rfl
 refine then_normal ?_
 rcases Bool.eq_false_or_eq_true (n==n&&(ox.1:Int)==(r:Int)) with hs127 | hs127
 ·have hs127p:=hs127
  simp only [zB] at hs127p
  obtain ⟨hs127p1,hs127p2⟩:=hs127p
  refine wp_cond_false (show Act.eval _ _= .bool false from (congrArg Value.bool (by rw [hs127]; rfl))) (wp_skip (then_normal (wp_seq (sqr (sqp [.m 132 10, .m 8 132] ?_)))))
  refine then_normal (wp_ret ?_)
  refine bpr (.map (some M41_31)) (results_1 Tryz.results66 rpt) ?_
  have hn9_:(stsL P (ks.map Prod.fst)).length≠((ks.map Prod.fst)).length:=by rw [← filt_len rfl,List.length_map]; omega
  have h8_:(ss.map Prod.fst).length≠((ks.map Prod.fst)).length:=by rw [List.length_map,List.length_map]; omega
  have ho_:=nv_get hko
  have hr_:=hs127
  simp at hr_
  have h9_:=sh_root (g:=g) (n:=n) hn9_ h8_ hss (by rw [ho_]; omega)
  rw [List.length_map,List.length_map,show ks.length - 1=((ks.length:Int) - 1).toNat by omega,nv_get hkl,show ss.length=jx by omega] at h9_
  rw [h9_]
  have hp9_:=hst126.pick [2] (by decide) rfl
  exact ⟨_, _,rfl,by omega,hp9_⟩
 have hs127p:=hs127
 simp only [zB] at hs127p
 refine wp_cond_true (show Act.eval _ _= .bool true from (congrArg Value.bool (by rw [hs127]; rfl))) (wp_region_Y [0,0,2,0,8,24,56,120,248,511] [[],[],[0],[],[1],[],[],[1],[],[2]] [[],[],[],[],[],[],[],[],[],[4]] [[],[],[],[],[],[],[],[],[],[2]] [.k 123 (.map (some M41_31)), .k 124 (.pointer (some ⟨B5_1,1,none⟩)), .c 125 (vi ((r:Int))), .k 126 (.slice SA ss.length sc), .c 127 (.pointer (some ((ad SA).add (0*8)))), .c 128 (.pointer (some ((ad SA).add (0*8+0)))), .c 129 (.pointer (some ((ad SA).add (0*8+0+1)))), .c 130 (vi ((ox.1:Int))), .c 131 (.string ((strOfNums [0,(ox.1:Int)]))), .n] (fun ix σ β X=>match ix with | 0=>True | 1=>True | 2=>True | 3=>True | 4=>True | 5=>True | 6=>True | 7=>True | 8=>True | 9=>X 4=eMg strC Tryz.prog 3 M41_31 (cnt+1) (putM (stM g n lx (ss.map Prod.fst) (blkM (ks.map Prod.fst) ks.length) jx) (r:Int) (some ((strOfNums [0,(ox.1:Int)])))) | _=>True) [0,1,3,4] [2,4,5,6,7,8,9] [(123,0,9,132)] hst126 ?_ ?_ ?_)
 ·exact fun ix _ _ _ _ _ _ hs hb hx h=>match ix,h with
  | 9,h=>by dsimp only; rw [← hx 4 rfl]; exact h
  | 0, _ | 1, _ | 2, _ | 3, _ | 4, _ | 5, _ | 6, _ | 7, _ | 8, _ | _+10, _=>trivial
 ·refine ⟨?_,?_,?_,?_,?_,?_,?_,trivial⟩
  ·exact xs4 rfl id fun cx=>run_load1 rfl (by kernel_rfl) (cx.an 1) ((cx.bi 0 rfl).cell 1)
  ·exact xs4 rfl id fun cx=>run_indexSlM (e:=43) (m:=0) (sz:=8) rfl (by kernel_rfl) (by kernel_rfl) (cx.an 3) (cx.co _) (by omega) (by omega) (eSv_at (CtxV.holdE cx (cx.init 1 _ rfl) rfl) cx.upd.to_ext) (flatPos (sz:=8) (cellsF_len n) (by decide) (by omega))
  ·exact xs4 rfl id fun cx=>run_fieldAd rfl (by kernel_rfl) (cx.an 4)
  ·exact xs4 rfl id fun cx=>run_fieldAd rfl (by kernel_rfl) (cx.an 5)
  ·exact xs4 rfl id fun cx=>run_load1 rfl (by kernel_rfl) (cx.an 6) (At.eltc (f:=(cellsF n)) (k:=1) (cellsF_len n) (eSv_at (CtxV.holdE cx (cx.init 1 _ rfl) rfl) cx.upd.to_ext) hko rfl)
  ·exact xsc rfl id rfl rfl fun cx=>⟨_,hlead_any (ox.1:Int) _ (by omega),(map1 (cx.an 7))⟩
  ·refine svA fun ρ β W X cx=>?_
   exact dv_setMg (e:=9) (v:=((strOfNums [0,(ox.1:Int)]))) (.inl rfl) (cx.an 0) (cx.an 2) (show ρ _= .string ((strOfNums [0,(ox.1:Int)])) from (cx.an 8)) cx (cx.init 2 _ rfl) rfl (by omega) (by omega) rfl rfl rfl (fun σ β' X' hs hb hx=>hx)
 intro σ β X W130 hD hst130 fr hfr
 simp only [exq 4 ((dTn (hD 9 lq)))] at hst130
 clear hD; subst hfr; clear σ β X
 refine then_normal (wp_seq (sqr (sqp [.m 132 10, .m 8 132] ?_)))
 refine then_normal (wp_ret ?_)
 refine bpr (.map (some M41_31)) (results_1 Tryz.results66 rpt) ?_
 have hn9_:(stsL P (ks.map Prod.fst)).length≠((ks.map Prod.fst)).length:=by rw [← filt_len rfl,List.length_map]; omega
 have h8_:(ss.map Prod.fst).length≠((ks.map Prod.fst)).length:=by rw [List.length_map,List.length_map]; omega
 have ho_:=nv_get hko
 have hr_:=hs127
 simp at hr_
 have h9_:=sh_lead (g:=g) (n:=n) hn9_ h8_ hss (by rw [ho_]; omega)
 rw [List.length_map,List.length_map,show ks.length - 1=((ks.length:Int) - 1).toNat by omega,nv_get hkl,show ss.length=jx by omega,ho_] at h9_
 rw [h9_]
 have hp9_:=hst130.pick [3] (by decide) rfl
 exact ⟨_, _,rfl,by omega,hp9_⟩
end
section
open Go.RowKit
/-- is the slot known to be blank? -/
def goneF (m:MpD) (x:Int):Bool:=(m x).isSome&&(((m x).getD (⟨#[]⟩:ByteArray)).toList==(⟨#[]⟩:ByteArray).toList)
abbrev VS (w:World) (b q n:Nat) (m:MpD):Prop:=Blk w b 139 #[.map (some q)]∧MapG strC Tryz.prog 3 q n m w
theorem St.lentS {w:World} {b q n:Nat} {m:MpD} (h:VS w b q n m):St w [b,q] [eB b 139 #[.map (some q)],eQ q w.heap[q]?] w:=by
 have hne:b≠q:=by
  rintro rfl
  obtain ⟨h1,D,⟨es,clock,h2, _⟩, _⟩:=h
  have h3:w.heap[b]? = _:=h1
  rw [h2] at h3
  cases h3
 refine ⟨Upd.refl _ _,fun x hx=>?_,List.pairwise_pair.2 fun k hk hk'=>by simp [eB] at hk; simp [eQ] at hk'; omega⟩
 simp only [List.mem_cons,List.not_mem_nil,or_false] at hx
 rcases hx with rfl | rfl
 ·exact ⟨h.1,eB_loc _ _ _,fun k hk=>⟨.inl (by simp [eB] at hk; simp [hk]),by simp [eB] at hk; subst hk; exact h.1.lt⟩⟩
 ·exact ⟨rfl,eQ_loc _ _,fun k hk=>⟨.inl (by simp [eQ] at hk; simp [hk]),by simp [eQ] at hk; subst hk; exact h.2.lt⟩⟩
theorem VS.ro {w:World} {b q n:Nat} {m:MpD} (h:VS w b q n m):∀ W:World,W.heap[q]? =w.heap[q]? →MapG strC Tryz.prog 3 q n m W:=fun W hW=>
 (eMg_loc (C:=strC) Tryz.prog 3 q n m) w W (fun k hk=>(by rw [List.mem_singleton.1 hk]; exact hW)) h.2
theorem hgone_any (b q n:Nat) (m:MpD) (x:Int) (w:World) (hV:VS w b q n m) (hx: -9223372036854775808≤x∧x≤9223372036854775807):
  Calls Tryz.prog 138 #[.int .i64 x, .pointer (some ⟨b,0,none⟩)] w (Ret (.bool (goneF m x)) w):=by
 have st0:=St.lentS hV
 have hro:=hV.ro
 go_enter Tryz.func138,Tryz.ntmps138
 have hst0:=st0
 refine wp_seq (sqr (sqp [.k 3 (.bool false)] ?_))
 refine then_normal (wp_seq (sqr (sqld 0 hst0 ?_)))
 refine sqp [.m 8 0] ?_
 refine sql (.tuple #[.string (((m x).getD (⟨#[]⟩:ByteArray))), .bool ((m x).isSome)]) hst0 (fun cx=>run_lookOkMg (e:=9) rfl (cx.ou 7) (cx.ou 8) (hro _ (CtxV.holdE cx (cx.init 1 _ rfl) rfl)) (h0:=(by rfl)) (hx:=by omega)) ?_
 refine sqp [.m 6 9, .k 10 (.string (((m x).getD (⟨#[]⟩:ByteArray)))), .k 11 (.bool ((m x).isSome)), .m 4 10, .m 5 11] ?_
 refine then_normal (wp_seq (sqr (sqp [.m 12 5, .m 13 12] ?_)))
 refine sqw 13 [14,15] rfl (fun _=>sqp [.m 14 4, .k 15 (.bool ((((m x).getD (⟨#[]⟩:ByteArray))).toList==((⟨#[]⟩:ByteArray)).toList))] sqe) ?_
 refine sqp [sPa 16 ((m x).isSome) ((((m x).getD (⟨#[]⟩:ByteArray))).toList==((⟨#[]⟩:ByteArray)).toList), .m 3 16] ?_
 refine then_normal (wp_ret ?_)
 refine bpr (.bool (((m x).isSome)&&((((m x).getD (⟨#[]⟩:ByteArray))).toList==((⟨#[]⟩:ByteArray)).toList))) (results_1 Tryz.results138 rpt) ?_
 exact Ret.bool (rfl) (hst0.upd.same2 ((hst0.blk 0 rfl).trans hV.1.symm) (hst0.get 1 rfl).holds)
end
section
open Go.RowKit
theorem MapG.ext {E:Type} {C:Cod E} {P:Program} {k b n:Nat} {m:Int→Option E} {w W:World} (h:MapG C P k b n m w) (hx:Ext w W):MapG C P k b n m W:=
 (eMg_loc (C:=C) P k b n m) w W (fun j hj=>(by rw [List.mem_singleton.1 hj]; exact hx.out.block b h.lt)) h
/-- a version that the bytes say, where they say one -/
noncomputable def oD (s:ByteArray):Option VerD:=by
 classical exact if h:∃ o,Desc s o then h.choose else none
theorem oD_desc {s:ByteArray} (h:∃ o,Desc s o):Desc s (oD s):=by
 unfold oD
 rw [dif_pos h]
 exact h.choose_spec
/-- what stood in slot j -/
def wasB (v:PV) (j:Int):ByteArray:=if 0≤rdF v j then strOfNums [0,rdF v j] else if (atF v j).isSome then txD (vD (atF v j)) else ⟨#[]⟩
def itA (m:MpD) (v:PV) (j:Int):ByteArray:=(m j).getD (wasB v j)
/-- a redirect to a slot that goes is a redirect to nothing -/
def itB (m:MpD) (v:PV) (j:Int):ByteArray:=if (itA m v j).size=2∧goneF m (byteI (bl (itA m v j)) 1)=true then strOfNums [0,0] else itA m v j
def cutV (d:VerD):VerD:=(d.1,d.2.1, -1,0,d.2.2.2.2.1,d.2.2.2.2.2)
/-- a link to a slot that goes is cut -/
noncomputable def itC (m:MpD) (v:PV) (n j:Int):ByteArray:=if (oD (itB m v j)).isSome=true∧(vD (oD (itB m v j))).2.2.1=n∧goneF m (vD (oD (itB m v j))).2.2.2.1=true then txD (cutV (vD (oD (itB m v j)))) else itB m v j
/-- the edits of the slots below k -/
noncomputable def edL (m:MpD) (v:PV) (n:Int):Nat→List (Int×ByteArray)
 | 0=>[]
 | k+1=>if itC m v n (k+1:Nat)=wasB v (k+1:Nat) then edL m v n k else edL m v n k++[(((k+1:Nat):Int),itC m v n (k+1:Nat))]
def cellsEd (n:Int) (e:Int×ByteArray):List Value:=[.int .i64 n, .int .i64 e.1, .string e.2]
theorem cellsEd_len (n:Int) (e:Int×ByteArray):(cellsEd n e).length=3:=rfl
/-- a row of edits in new memory -/
def ChPost (l:List (Int×ByteArray)) (n:Int) (w:World) (e:Ending) (w':World):Prop:=∃ A c,e= .returned (.slice A l.length c)∧w'.ownsRow w.heap.size 49 3 (.slice A l.length c) l.length (l.flatMap (cellsEd n))∧Ext w w'
theorem ed_same {m:MpD} {v:PV} {n:Int} {k:Nat} (h:itC m v n (k+1:Nat)=wasB v (k+1:Nat)):edL m v n (k+1)=edL m v n k:=by rw [edL,if_pos h]
theorem ed_new {m:MpD} {v:PV} {n:Int} {k:Nat} (h:itC m v n (k+1:Nat)≠wasB v (k+1:Nat)):edL m v n (k+1)=edL m v n k++[(((k+1:Nat):Int),itC m v n (k+1:Nat))]:=by rw [edL,if_neg h]
theorem ed_len (m:MpD) (v:PV) (n:Int):∀ k,(edL m v n k).length≤k
 | 0=>Nat.le_refl _
 | k+1=>by
   have:=ed_len m v n k
   rw [edL]
   split
   ·omega
   ·rw [List.length_append]; simp; omega
end
section
open Go.RowKit
def dP (g:Int→Int) (hz:Int):NV→Bool:=fun x=>deadF g hz x.2.1 x.2.2.1
theorem desc_ge {s:ByteArray} {d:VerD} (h:Desc s (some d)):8≤s.size:=by rw [h.2,txD,tb_size h.1.1]; omega
theorem desc_tx {d:VerD} (h2:NsOk d.2.2.2.2.2) (h3:plainR d.2.2.2.2.2=d.2.2.2.2.2):∃ o,Desc (txD d) o:=by
 by_cases h:trightF d.1 d.2.1 d.2.2.1 d.2.2.2.1 d.2.2.2.2.2=true
 ·exact ⟨some d,⟨h,h2,h3⟩,rfl⟩
 ·refine ⟨none,?_⟩
  show (txD d).size < 8
  rw [txD,tbytesF,if_neg h]; decide
theorem lead_size (x:Int):(strOfNums [0,x]).size=2:=by rw [strOfNums_size]; rfl
theorem desc_lead (x:Int):∃ o,Desc (strOfNums [0,x]) o:=⟨none,by rw [Desc,lead_size]; decide⟩
theorem desc_nil:∃ o,Desc (⟨#[]⟩:ByteArray) o:=⟨none,by show 0 < 8; decide⟩
theorem oD_short {s:ByteArray} (h:s.size < 8):oD s=none:=by
 have h1:=oD_desc (s:=s) ⟨none,h⟩
 cases ho:oD s with
 | none=>rfl
 | some d=>rw [ho] at h1; have:=desc_ge h1; omega
theorem rd_at {v:PV} (h:v.wf) {j:Int} (hr:0≤rdF v j):atF v j=none:=by
 rw [rdF] at hr
 split at hr
 ·rename_i hc
  obtain ⟨_,h1,h2,h3, _⟩:=hc
  rw [atF]
  split
  ·have hd:=PV.desc h (j:=j.toNat) (by omega)
   cases ho:(v.its.getD j.toNat it0).2 with
   | none=>rfl
   | some d=>
     rw [ho] at hd
     have h4:=desc_ge hd
     omega
  ·rfl
 ·omega
/-- x stands in the page -/
def SlotOk (v:PV) (x:NV):Prop:=atF v (x.1:Int)=some x.2
theorem ok_at {v:PV} (h:v.wf) {j:Int} {d:VerD} (ha:atF v j=some d):okD d:=by
 obtain ⟨s,hs⟩:=atF_desc h j
 rw [ha] at hs
 exact hs.1
theorem was_at {v:PV} (h:v.wf) {j:Int} {d:VerD} (ha:atF v j=some d):wasB v j=txD d:=by
 rw [wasB]
 by_cases hr:0≤rdF v j
 ·rw [rd_at h hr] at ha; cases ha
 ·rw [if_neg hr,if_pos (by rw [ha]; rfl),ha]; rfl
theorem was_rd {v:PV} {j:Int} (hr:0≤rdF v j):wasB v j=strOfNums [0,rdF v j]:=by rw [wasB,if_pos hr]
theorem was_no {v:PV} {j:Int} (hr:¬ 0≤rdF v j) (ha:atF v j=none):wasB v j=(⟨#[]⟩:ByteArray):=by rw [wasB,if_neg hr,ha]; rfl
theorem ne_size {s:ByteArray} {k:Nat} (h:s.size=k) (hk:0 < k):s≠(⟨#[]⟩:ByteArray):=by
 rintro rfl
 have:(⟨#[]⟩:ByteArray).size=0:=rfl
 omega
theorem slot_of {v:PV} (h:v.wf) {x:NV} (hx:SlotOk v x):1≤(x.1:Int)∧(x.1:Int) < 24∧wasB v (x.1:Int)≠(⟨#[]⟩:ByteArray):=by
 have h1:=atF_some h (j:=(x.1:Int)) (by rw [hx]; rfl)
 refine ⟨h1.1,h1.2,?_⟩
 rw [was_at h hx]
 have h2:Desc (txD x.2) (some x.2):=⟨ok_at h hx,rfl⟩
 exact ne_size (k:=(txD x.2).size) rfl (by have:=desc_ge h2; omega)
theorem rd_bd {v:PV} (h:v.wf) {j:Int} (hr:0≤rdF v j):1≤j∧j < 24:=by
 rw [rdF] at hr
 split at hr
 ·rename_i hc
  have:=h.1
  exact ⟨hc.2.1,by omega⟩
 ·omega
theorem root_of {v:PV} (h:v.wf) {r:Nat} (hr:rootB v r=true):1≤(r:Int)∧(r:Int) < 24∧wasB v (r:Int)≠(⟨#[]⟩:ByteArray):=by
 by_cases h0:0≤rdF v r
 ·have hb:=rd_bd h h0
  exact ⟨hb.1,hb.2,by rw [was_rd h0]; exact ne_size (lead_size _) (by decide)⟩
 ·rw [rootB,decide_eq_false h0,Bool.or_false,Bool.and_eq_true] at hr
  obtain ⟨d,hd⟩:=Option.isSome_iff_exists.1 hr.1
  exact slot_of h (x:=(r,d)) hd
theorem chR_mem {v:PV} (hwf:v.wf) {n:Int} {hot:Bool}:∀ (f:Nat) (seen:List Int) (pg sl:Int),∀ x∈chR v n hot f seen pg sl,SlotOk v x∧inS seen (x.1:Int)=false
 | 0,seen,pg,sl=>fun x hx=>by cases hx
 | f+1,seen,pg,sl=>fun x hx=>by
   rw [chR] at hx
   split at hx
   ·rename_i hc
    split at hx
    ·cases hx
    ·rename_i hs
     have hso:(atF v sl).isSome=true:=by
      cases h:(atF v sl).isSome with
      | true=>rfl
      | false=>exact absurd (by rw [chStop,h]; rfl) hs
     have hb:=atF_some hwf hso
     have he:((sl.toNat:Nat):Int)=sl:=by omega
     rcases List.mem_cons.1 hx with rfl | hx
     ·refine ⟨?_,?_⟩
      ·show atF v ((sl.toNat:Nat):Int)=some (vD (atF v sl))
       rw [he]
       obtain ⟨d,hd⟩:=Option.isSome_iff_exists.1 hso
       rw [hd]; rfl
      ·show inS seen ((sl.toNat:Nat):Int)=false
       rw [he]
       rw [Bool.and_eq_true,Bool.not_eq_true'] at hc
       exact hc.2
     ·have h1:=chR_mem hwf f _ _ _ x hx
      refine ⟨h1.1,?_⟩
      have h2:(if (x.1:Int)=sl then true else inS seen (x.1:Int))=false:=h1.2
      split at h2
      ·cases h2
      ·exact h2
   ·cases hx
theorem chR_nodup {v:PV} (hwf:v.wf) {n:Int} {hot:Bool}:∀ (f:Nat) (seen:List Int) (pg sl:Int),(chR v n hot f seen pg sl).Pairwise fun x y=>x.1≠y.1
 | 0,seen,pg,sl=>List.Pairwise.nil
 | f+1,seen,pg,sl=>by
   rw [chR]
   split
   ·split
    ·exact List.Pairwise.nil
    ·rename_i hs
     refine List.pairwise_cons.2 ⟨fun y hy=>?_,chR_nodup hwf f _ _ _⟩
     have hso:(atF v sl).isSome=true:=by
      cases h:(atF v sl).isSome with
      | true=>rfl
      | false=>exact absurd (by rw [chStop,h]; rfl) hs
     have hb:=atF_some hwf hso
     have h2:(if (y.1:Int)=sl then true else inS seen (y.1:Int))=false:=(chR_mem hwf f _ _ _ y hy).2
     show sl.toNat≠y.1
     intro e
     rw [if_pos (by omega)] at h2
     cases h2
   ·exact List.Pairwise.nil
theorem chR_first {v:PV} (hwf:v.wf) {n:Int} {hot:Bool} {f:Nat} {seen:List Int} {pg sl:Int} {x:NV} {l:List NV} (h:chR v n hot f seen pg sl=x::l):(x.1:Int)=sl:=by
 cases f with
 | zero=>cases h
 | succ f=>
   rw [chR] at h
   split at h
   ·split at h
    ·cases h
    ·rename_i hs
     have hso:(atF v sl).isSome=true:=by
      cases h:(atF v sl).isSome with
      | true=>rfl
      | false=>exact absurd (by rw [chStop,h]; rfl) hs
     have hb:=atF_some hwf hso
     injection h with h1 h2
     rw [← h1]
     show ((sl.toNat:Nat):Int)=sl
     omega
   ·cases h
theorem chF_mem {v:PV} (hwf:v.wf) {n j:Int}:∀ x∈chF v n j,SlotOk v x:=fun x hx=>(chR_mem hwf _ _ _ _ x hx).1
theorem chF_nodup {v:PV} (hwf:v.wf) (n j:Int):(chF v n j).Pairwise fun x y=>x.1≠y.1:=chR_nodup hwf _ _ _ _
/-- the first of a chain is the root, but for a redirect -/
theorem chF_first {v:PV} (hwf:v.wf) {n j:Int} {x:NV} {l:List NV} (h:chF v n j=x::l):(x.1:Int)=j↔¬ 0≤rdF v j:=by
 have h1:=chR_first hwf h
 by_cases hr:0≤rdF v j
 ·rw [if_pos hr] at h1
  constructor
  ·intro e
   have h2:=chF_mem hwf x (by rw [h]; exact List.mem_cons_self ..)
   rw [SlotOk,e,rd_at hwf hr] at h2
   cases h2
  ·intro h3; exact absurd hr h3
 ·rw [if_neg hr] at h1
  exact ⟨fun _=>hr,fun _=>h1⟩
theorem all_mem {v:PV}:∀ x∈allF' v,SlotOk v x:=fun x hx=>by
 rw [allF'] at hx
 split at hx
 ·rename_i hh
  rw [fndF,List.mem_filterMap] at hx
  obtain ⟨j,hj,he⟩:=hx
  rw [List.mem_range] at hj
  split at he
  ·rename_i h0
   rw [Option.map_eq_some_iff] at he
   obtain ⟨d,hd,rfl⟩:=he
   show atF v (j:Int)=some d
   rw [atF,if_pos ⟨by rw [tbF,if_pos hh]; omega,by omega,by omega⟩,← hd]; rfl
  ·cases he
 ·cases hx
theorem all_has {v:PV} {x:Int} {d:VerD} (h:atF v x=some d):(x.toNat,d)∈allF' v∧1≤x:=by
 rw [atF] at h
 split at h
 ·rename_i hc
  have hh:hdF v=true:=by
   cases hq:hdF v with
   | true=>rfl
   | false=>rw [tbF,hq,if_neg (by decide)] at hc; exact absurd hc.1 (by decide)
  refine ⟨?_,hc.2.1⟩
  rw [allF',if_pos hh,fndF,List.mem_filterMap]
  refine ⟨x.toNat,List.mem_range.2 (by omega),?_⟩
  rw [if_pos (by omega),h]; rfl
 ·cases h
-- the cut of a chain
theorem tw_take {α:Type} (p:α→Bool):∀ (l:List α) (i:Nat) (x:α),(l.take i).any p=false→l[i]? =some x→p x=true→l.takeWhile (fun y=>!(p y))=l.take i
 | [],i,x, _,h, _=>by simp at h
 | a::l,0,x, _,h,hp=>by
   simp at h
   subst h
   rw [List.takeWhile_cons,hp]; rfl
 | a::l,i+1,x,h1,h,hp=>by
   rw [List.take_succ_cons,List.any_cons,Bool.or_eq_false_iff] at h1
   rw [List.takeWhile_cons,h1.1,List.take_succ_cons,tw_take p l i x h1.2 (by simpa using h) hp]; rfl
theorem tw_all {α:Type} (p:α→Bool):∀ (l:List α),l.any p=false→l.takeWhile (fun y=>!(p y))=l
 | [], _=>rfl
 | a::l,h=>by
   rw [List.any_cons,Bool.or_eq_false_iff] at h
   rw [List.takeWhile_cons,h.1,tw_all p l h.2]; rfl
theorem tw_in {α:Type} (q:α→Bool):∀ (l:List α) (k:Nat) (x:α),k < (l.takeWhile q).length→l[k]? =some x→q x=true
 | [],k,x,h, _=>by simp at h
 | a::l,k,x,h,hx=>by
   rw [List.takeWhile_cons] at h
   split at h
   ·rename_i ha
    cases k with
    | zero=>simp at hx; subst hx; exact ha
    | succ k=>exact tw_in q l k x (by simpa using h) (by simpa using hx)
   ·simp at h
theorem tw_stop {α:Type} (q:α→Bool):∀ (l:List α) (x:α),l[(l.takeWhile q).length]? =some x→q x=false
 | [],x,h=>by simp at h
 | a::l,x,h=>by
   rw [List.takeWhile_cons] at h
   split at h
   ·exact tw_stop q l x (by simpa using h)
   ·rename_i ha
    simp at h
    subst h
    simpa using ha
def cutT (tk:Int→Bool) (l:List NV):List NV:=l.takeWhile fun x=>!(tk (x.1:Int))
theorem cut_take (tk:Int→Bool) (l:List NV):cutT tk l=l.take (cutT tk l).length:=List.prefix_iff_eq_take.1 (List.takeWhile_prefix _)
theorem cut_le (tk:Int→Bool) (l:List NV):(cutT tk l).length≤l.length:=(List.takeWhile_prefix _).length_le
theorem cut_sub {tk:Int→Bool} {l:List NV}:∀ x∈cutT tk l,x∈l:=fun x hx=>(List.takeWhile_prefix _).subset hx
theorem cut_idx {ks:List FK} {l:List NV} {tk:Int→Bool} (hk:ks.map Prod.fst=l):(idxP (fun k:FK=>tk (k.1.1:Int)) 0 ks= -1∧cutT tk l=l)∨∃ i:Nat,i < ks.length∧idxP (fun k:FK=>tk (k.1.1:Int)) 0 ks=(i:Int)∧cutT tk l=l.take i∧(cutT tk l).length=i:=by
 have hany:∀ z:List FK,(z.map Prod.fst).any (fun x:NV=>tk (x.1:Int))=z.any fun k:FK=>tk (k.1.1:Int):=fun z=>by rw [List.any_map]; rfl
 rcases idxP_spec0 (fun k:FK=>tk (k.1.1:Int)) ks with ⟨h1,h2⟩ | ⟨i,h1,h2,h3,x,h4,h5⟩
 ·refine .inl ⟨h1,tw_all (fun x:NV=>tk (x.1:Int)) l ?_⟩
  rw [← hk,hany]; exact h2
 ·have hc:cutT tk l=l.take i:=tw_take (fun x:NV=>tk (x.1:Int)) l i x.1 (by rw [← hk,← List.map_take,hany]; exact h3) (by rw [← hk,List.getElem?_map,h4]; rfl) h5
  refine .inr ⟨i,h1,h2,hc,?_⟩
  rw [hc,List.length_take,← hk,List.length_map]; omega
/-- the slots that are taken when k of the chain are marked -/
def tkM (l:List NV) (tk:Int→Bool):Nat→Int→Bool
 | 0=>tk
 | i+1=>fun y=>if y=((l.getD i nv0).1:Int) then true else tkM l tk i y
theorem tkM_at {l:List NV} (hn:l.Pairwise fun x y=>x.1≠y.1) {tk:Int→Bool} {k:Nat} {x:NV} (hx:l[k]? =some x):∀ i,i≤k→tkM l tk i (x.1:Int)=tk (x.1:Int)
 | 0, _=>rfl
 | i+1,h=>by
   obtain ⟨hk,rfl⟩:=List.getElem?_eq_some_iff.1 hx
   have hne:=List.pairwise_iff_getElem.1 hn i k (by omega) hk (by omega)
   show (if ((l[k].1:Nat):Int)=((l.getD i nv0).1:Int) then true else tkM l tk i ((l[k].1:Nat):Int))= _
   rw [if_neg (by rw [List.getD_eq_getElem?_getD,List.getElem?_eq_getElem (show i < l.length by omega),Option.getD_some]; omega),tkM_at hn hx i (by omega)]
theorem tk_step {l:List NV} {tk:Int→Bool} {i:Nat} {x:NV} (h:l[i]? =some x):tkM l tk (i+1)=fun y=>if y=(x.1:Int) then true else tkM l tk i y:=by
 show (fun y=>if y=((l.getD i nv0).1:Int) then true else tkM l tk i y)= _
 rw [show l.getD i nv0=x by rw [List.getD_eq_getElem?_getD,h]; rfl]
/-- m, with what o says -/
def mrgM (m:MpD):Option MpD→MpD
 | none=>m
 | some d=>fun x=>if (d x).isSome=true then d x else m x
theorem mrg_put (m d:MpD) (k:Int) (s:ByteArray):mrgM m (some (putM d k (some s)))=putM (mrgM m (some d)) k (some s):=by
 funext x
 show (if (if x=k then some s else d x).isSome=true then (if x=k then some s else d x) else m x)=if x=k then some s else if (d x).isSome=true then d x else m x
 by_cases h:x=k
 ·simp [h]
 ·simp [h]
theorem mrg_nil (m:MpD):mrgM m (some fun _=>none)=m:=by funext x; rfl
def blkG (l:List NV) (m:MpD):Nat→MpD
 | 0=>m
 | i+1=>putM (blkG l m i) ((l.getD i nv0).1:Int) (some (⟨#[]⟩:ByteArray))
theorem mrg_blk (m:MpD) (l:List NV):∀ i,mrgM m (some (blkM l i))=blkG l m i
 | 0=>mrg_nil m
 | i+1=>by rw [blkM,mrg_put,mrg_blk m l i]; rfl
theorem mrg_st (m m0:MpD) (g:Int→Int) (n:Int) (last:NV) (ss:List NV):∀ i,mrgM m (some (stM g n last ss m0 i))=stM g n last ss (mrgM m (some m0)) i
 | 0=>rfl
 | i+1=>by rw [stM,mrg_put,mrg_st m m0 g n last ss i]; rfl
/-- what the reference does with a chain -/
def refM (p:NV→Bool) (g:Int→Int) (n:Int) (r:Nat) (l:List NV) (m:MpD):MpD:=
 if (stayL p r l).length=l.length then m
 else if ((stayL p r l).getD 0 nv0).1=r then stM g n (l.getD (l.length - 1) nv0) (stayL p r l) (blkG l m l.length) (stayL p r l).length
 else putM (stM g n (l.getD (l.length - 1) nv0) (stayL p r l) (blkG l m l.length) (stayL p r l).length) r (some (strOfNums [0,((stayL p r l).getD 0 nv0).1]))
theorem mrg_ref (p:NV→Bool) (g:Int→Int) (n:Int) (r:Nat) (l:List NV) (m:MpD):mrgM m (shF p g n r l)=refM p g n r l m:=by
 by_cases h1:(stsL p l).length=l.length
 ·have h2:(stayL p r l).length=l.length:=by
   by_cases h0:(stsL p l).length=0
   ·have hl:l=[]:=List.eq_nil_of_length_eq_zero (by omega)
    subst hl
    rw [stayL,if_pos h0,oneL]
    split<;>rfl
   ·rw [stay_sts h0]; exact h1
  rw [sh_none h1,refM,if_pos h2]; rfl
 ·by_cases h2:(stayL p r l).length=l.length
  ·rw [sh_same h1 h2,refM,if_pos h2]; exact mrg_nil m
  ·by_cases h3:((stayL p r l).getD 0 nv0).1=r
   ·rw [sh_root h1 h2 rfl h3,refM,if_neg h2,if_pos h3,mrg_st,mrg_blk]
   ·rw [sh_lead h1 h2 rfl h3,refM,if_neg h2,if_neg h3,mrg_put,mrg_st,mrg_blk]
/-- one root -/
def prS (p:NV→Bool) (g:Int→Int) (n:Int) (v:PV) (s:(Int→Bool)×MpD) (r:Nat):(Int→Bool)×MpD:=
 (tkM (chF v n r) s.1 (cutT s.1 (chF v n r)).length,mrgM s.2 (shF p g n r (cutT s.1 (chF v n r))))
def prL (p:NV→Bool) (g:Int→Int) (n:Int) (v:PV) (i:Nat):(Int→Bool)×MpD:=((rtL v 24).take i).foldl (prS p g n v) (fun _=>false,fun _=>none)
theorem prL_step {p:NV→Bool} {g:Int→Int} {n:Int} {v:PV} {i r:Nat} (h:(rtL v 24)[i]? =some r):prL p g n v (i+1)=prS p g n v (prL p g n v i) r:=by
 rw [prL,List.take_add_one,h,Option.toList,List.foldl_append]; rfl
def hotM (p:NV→Bool) (tk:Int→Bool) (l:List NV) (m:MpD):Nat→MpD
 | 0=>m
 | i+1=>if ((l.getD i nv0).2.2.2.2.2.1&&!(tk ((l.getD i nv0).1:Int)))&&p (l.getD i nv0) then putM (hotM p tk l m i) ((l.getD i nv0).1:Int) (some (⟨#[]⟩:ByteArray)) else hotM p tk l m i
theorem hot_yes {p:NV→Bool} {tk:Int→Bool} {l:List NV} {m:MpD} {i:Nat} {x:NV} (h:l[i]? =some x) (hc:((x.2.2.2.2.2.1&&!(tk (x.1:Int)))&&p x)=true):hotM p tk l m (i+1)=putM (hotM p tk l m i) (x.1:Int) (some (⟨#[]⟩:ByteArray)):=by
 have e:l.getD i nv0=x:=by rw [List.getD_eq_getElem?_getD,h]; rfl
 rw [hotM,e,if_pos hc]
theorem hot_no {p:NV→Bool} {tk:Int→Bool} {l:List NV} {m:MpD} {i:Nat} {x:NV} (h:l[i]? =some x) (hc:((x.2.2.2.2.2.1&&!(tk (x.1:Int)))&&p x)=false):hotM p tk l m (i+1)=hotM p tk l m i:=by
 have e:l.getD i nv0=x:=by rw [List.getD_eq_getElem?_getD,h]; rfl
 rw [hotM,e,if_neg (by rw [hc]; decide)]
/-- what Prune makes of a page -/
def pruM (p:NV→Bool) (g:Int→Int) (n:Int) (v:PV):MpD:=hotM p (prL p g n v (rtL v 24).length).1 (allF' v) (prL p g n v (rtL v 24).length).2 (allF' v).length
/-- what Free makes of a page -/
def frS (v:PV) (n:Int) (m:MpD) (s:Int):MpD:=if 0≤rdF v s then putM (blkG (chF v n s) m (chF v n s).length) s (some (⟨#[]⟩:ByteArray)) else blkG (chF v n s) m (chF v n s).length
def frM (v:PV) (n:Int) (ss:List Int) (i:Nat):MpD:=(ss.take i).foldl (frS v n) fun _=>none
theorem fr_step {v:PV} {n:Int} {ss:List Int} {i:Nat} {s:Int} (h:ss[i]? =some s):frM v n ss (i+1)=frS v n (frM v n ss i) s:=by
 rw [frM,List.take_add_one,h,Option.toList,List.foldl_append]; rfl
theorem blkG_step {l:List NV} {m:MpD} {i:Nat} {x:NV} (h:l[i]? =some x):blkG l m (i+1)=putM (blkG l m i) (x.1:Int) (some (⟨#[]⟩:ByteArray)):=by
 rw [blkG,show l.getD i nv0=x by rw [List.getD_eq_getElem?_getD,h]; rfl]
-- which slots are spoken of
def GoodM (v:PV) (m:MpD):Prop:=∀ x s,m x=some s→(1≤x∧x < 24∧wasB v x≠(⟨#[]⟩:ByteArray))∧∃ o,Desc s o
theorem GoodM.zero (v:PV):GoodM v fun _=>none:=fun x s h=>by cases h
theorem GoodM.put {v:PV} {m:MpD} {k:Int} {s:ByteArray} (h:GoodM v m) (hk:1≤k∧k < 24∧wasB v k≠(⟨#[]⟩:ByteArray)) (hs:∃ o,Desc s o):GoodM v (putM m k (some s)):=fun x t hx=>by
 have hx':(if x=k then some s else m x)=some t:=hx
 split at hx'
 ·rename_i e
  subst e
  cases hx'
  exact ⟨hk,hs⟩
 ·exact h x t hx'
theorem getD_mem {l:List NV} {i:Nat} (h:i < l.length):l.getD i nv0∈l:=by
 rw [List.getD_eq_getElem?_getD,List.getElem?_eq_getElem h]; exact List.getElem_mem h
theorem GoodM.blk {v:PV} (hwf:v.wf) {m:MpD} (h:GoodM v m) {l:List NV} (hl:∀ x∈l,SlotOk v x):∀ i,i≤l.length→GoodM v (blkG l m i)
 | 0, _=>h
 | i+1,hi=>(GoodM.blk hwf h hl i (by omega)).put (slot_of hwf (hl _ (getD_mem (by omega)))) desc_nil
theorem nx_rows (g:Int→Int) (n:Int) (last:NV) (ss:List NV) (i:Nat) (x:NV):(nxV g n last ss i x).2.2.2.2.2=x.2.2.2.2.2.2:=by
 rw [nxV]
 split
 ·rfl
 ·split
  ·rfl
  ·split<;>rfl
theorem GoodM.st {v:PV} (hwf:v.wf) {m:MpD} (h:GoodM v m) {g:Int→Int} {n:Int} {last:NV} {ss:List NV} (hl:∀ x∈ss,SlotOk v x):∀ i,i≤ss.length→GoodM v (stM g n last ss m i)
 | 0, _=>h
 | i+1,hi=>by
   have hx:=hl _ (getD_mem (show i < ss.length by omega))
   have ho:=ok_at hwf hx
   refine (GoodM.st hwf h hl i (by omega)).put (slot_of hwf hx) (desc_tx ?_ ?_)
   ·rw [nx_rows]; exact ho.2.1
   ·rw [nx_rows]; exact ho.2.2
theorem stay_sub {p:NV→Bool} {r:Nat} {l:List NV}:∀ x∈stayL p r l,x∈l:=fun x hx=>by
 rw [stayL] at hx
 split at hx
 ·rw [oneL] at hx
  split at hx
  ·exact List.mem_of_mem_take hx
  ·exact List.mem_of_mem_drop hx
 ·exact (List.mem_filter.1 hx).1
theorem GoodM.ref {v:PV} (hwf:v.wf) {m:MpD} (h:GoodM v m) {p:NV→Bool} {g:Int→Int} {n:Int} {r:Nat} {l:List NV} (hl:∀ x∈l,SlotOk v x) (hr:1≤(r:Int)∧(r:Int) < 24∧wasB v (r:Int)≠(⟨#[]⟩:ByteArray)):GoodM v (refM p g n r l m):=by
 have h1:=GoodM.st (g:=g) (n:=n) (last:=l.getD (l.length - 1) nv0) (ss:=stayL p r l) hwf (GoodM.blk hwf h hl l.length (Nat.le_refl _)) (fun x hx=>hl x (stay_sub x hx)) _ (Nat.le_refl _)
 rw [refM]
 split
 ·exact h
 ·split
  ·exact h1
  ·exact h1.put hr (desc_lead _)
theorem GoodM.pr {v:PV} (hwf:v.wf) (p:NV→Bool) (g:Int→Int) (n:Int):∀ i,i≤(rtL v 24).length→GoodM v (prL p g n v i).2
 | 0, _=>GoodM.zero v
 | i+1,hi=>by
   have hg:(rtL v 24)[i]? =some (rtL v 24)[i]:=List.getElem?_eq_getElem (by omega)
   rw [prL_step hg]
   show GoodM v (mrgM (prL p g n v i).2 _)
   rw [mrg_ref]
   exact (GoodM.pr hwf p g n i (by omega)).ref hwf (fun x hx=>chF_mem hwf x (cut_sub x hx)) (root_of hwf (rt_mem (List.getElem_mem (show i < (rtL v 24).length by omega))).2.2)
theorem GoodM.hot {v:PV} (hwf:v.wf) {m:MpD} (h:GoodM v m) {p:NV→Bool} {tk:Int→Bool} {l:List NV} (hl:∀ x∈l,SlotOk v x):∀ i,i≤l.length→GoodM v (hotM p tk l m i)
 | 0, _=>h
 | i+1,hi=>by
   have h1:=GoodM.hot hwf h (p:=p) (tk:=tk) hl i (by omega)
   rw [hotM]
   split
   ·exact h1.put (slot_of hwf (hl _ (getD_mem (by omega)))) desc_nil
   ·exact h1
theorem pru_good {v:PV} (hwf:v.wf) (p:NV→Bool) (g:Int→Int) (n:Int):GoodM v (pruM p g n v):=GoodM.hot hwf (GoodM.pr hwf p g n _ (Nat.le_refl _)) all_mem _ (Nat.le_refl _)
theorem fr_good {v:PV} (hwf:v.wf) (n:Int) (ss:List Int):∀ i,i≤ss.length→GoodM v (frM v n ss i)
 | 0, _=>GoodM.zero v
 | i+1,hi=>by
   have hg:ss[i]? =some ss[i]:=List.getElem?_eq_getElem (by omega)
   rw [fr_step hg,frS]
   have h1:=GoodM.blk hwf (fr_good hwf n ss i (by omega)) (chF_mem hwf (n:=n) (j:=ss[i])) _ (Nat.le_refl _)
   split
   ·rename_i hr
    have hb:=rd_bd hwf hr
    exact h1.put ⟨hb.1,hb.2,by rw [was_rd hr]; exact ne_size (lead_size _) (by decide)⟩ desc_nil
   ·exact h1
theorem GoodM.desc {v:PV} {m:MpD} (h:GoodM v m):∀ j s,m j=some s→∃ o,Desc s o:=fun j s hj=>(h j s hj).2
-- the shortened chain's keys
theorem ref_keys {p:NV→Bool} {g:Int→Int} {n:Int} {r:Nat} {l:List NV} {d:MpD} (hl:∀ x∈l,x.1 < 24) (hr:r < 24) (h:shF p g n r l=some d):∀ x,(d x).isSome=true→0≤x∧x < 24:=by
 have hb:∀ i,i≤l.length→∀ x,(blkM l i x).isSome=true→0≤x∧x < 24:=by
  intro i
  induction i with
  | zero=>intro _ x hx; cases hx
  | succ i ih=>
    intro hi x hx
    have hx':(if x=((l.getD i nv0).1:Int) then some (⟨#[]⟩:ByteArray) else blkM l i x).isSome=true:=hx
    split at hx'
    ·have:=hl _ (getD_mem (show i < l.length by omega)); omega
    ·exact ih (by omega) x hx'
 have hs:∀ (ss:List NV) (last:NV),(∀ x∈ss,x.1 < 24)→∀ i,i≤ss.length→∀ x,(stM g n last ss (blkM l l.length) i x).isSome=true→0≤x∧x < 24:=by
  intro ss last hss i
  induction i with
  | zero=>intro _ x hx; exact hb _ (Nat.le_refl _) x hx
  | succ i ih=>
    intro hi x hx
    have hx':(if x=((ss.getD i nv0).1:Int) then some (txD (nxV g n last ss i (ss.getD i nv0))) else stM g n last ss (blkM l l.length) i x).isSome=true:=hx
    split at hx'
    ·have:=hss _ (getD_mem (show i < ss.length by omega)); omega
    ·exact ih (by omega) x hx'
 intro x hx
 have hss:∀ x∈stayL p r l,x.1 < 24:=fun x hx=>hl x (stay_sub x hx)
 rw [shF] at h
 split at h
 ·cases h
 ·split at h
  ·cases h; cases hx
  ·split at h
   ·cases h; exact hs _ _ hss _ (Nat.le_refl _) x hx
   ·cases h
    have hx':(if x=(r:Int) then some (strOfNums [0,(((stayL p r l).getD 0 nv0).1:Int)]) else stM g n (l.getD (l.length - 1) nv0) (stayL p r l) (blkM l l.length) (stayL p r l).length x).isSome=true:=hx
    split at hx'
    ·omega
    ·exact hs _ _ hss _ (Nat.le_refl _) x hx'
-- ranging over a map
def rngM (m d:MpD) (left:Int→Bool):MpD:=fun x=>if left x=true then m x else mrgM m (some d) x
theorem rng_0 (m d:MpD):rngM m d (fun x=>(d x).isSome)=m:=by
 funext x
 show (if (d x).isSome=true then m x else if (d x).isSome=true then d x else m x)=m x
 split<;>rfl
theorem rng_step {m d:MpD} {left:Int→Bool} {x:Int} {c:ByteArray} (hd:d x=some c):rngM m d (fun y=>left y&&y != x)=putM (rngM m d left) x (some c):=by
 funext y
 show (if (left y&&y != x)=true then m y else if (d y).isSome=true then d y else m y)=if y=x then some c else if left y=true then m y else if (d y).isSome=true then d y else m y
 by_cases h:y=x
 ·subst h; simp [hd]
 ·simp [h]
theorem rng_end {m d:MpD} {left:Int→Bool} (h:∀ x,left x=false):rngM m d left=mrgM m (some d):=by
 funext x
 show (if left x=true then m x else mrgM m (some d) x)= _
 rw [h x]; rfl
-- the reference's arrays
def nwG (b:Int→ByteArray) (m:MpD):List ByteArray:=(List.range 24).map fun j:Nat=>(m (j:Int)).getD (b (j:Int))
theorem nwG_len (b:Int→ByteArray) (m:MpD):(nwG b m).length=24:=by simp [nwG]
theorem nw_set (b:Int→ByteArray) (m:MpD) {k:Nat} (h:k < 24) (s:ByteArray):(nwG b m).set k s=nwG b (putM m (k:Int) (some s)):=by
 apply List.ext_getElem
 ·simp [nwG]
 ·intro i h1 h2
  rw [List.getElem_set]
  simp only [nwG,List.getElem_map,List.getElem_range,putM]
  by_cases e:k=i
  ·subst e; simp
  ·rw [if_neg e,if_neg (by omega)]
theorem nw_ext {b b':Int→ByteArray} {m m':MpD} (h:∀ j:Nat,j < 24→(m (j:Int)).getD (b (j:Int))=(m' (j:Int)).getD (b' (j:Int))):nwG b m=nwG b' m':=by
 apply List.map_congr_left
 intro j hj
 exact h j (List.mem_range.1 hj)
def wsL (v:PV):List ByteArray:=nwG (wasB v) fun _=>none
def tkA (tk:Int→Bool):List Bool:=(List.range 24).map fun j:Nat=>tk (j:Int)
theorem tkA_len (tk:Int→Bool):(tkA tk).length=24:=by simp [tkA]
theorem tkA_set (tk:Int→Bool) {k:Nat} (h:k < 24):(tkA tk).set k true=tkA fun y=>if y=(k:Int) then true else tk y:=by
 apply List.ext_getElem
 ·simp [tkA]
 ·intro i h1 h2
  rw [List.getElem_set]
  simp only [tkA,List.getElem_map,List.getElem_range]
  by_cases e:k=i
  ·subst e; simp
  ·rw [if_neg e,if_neg (by omega)]
/-- the reference's look at one item -/
noncomputable def lsR (m:MpD) (v:PV) (n j:Int):ByteArray:=
 if (itA m v j).size=2 then
  if byteI (bl (itA m v j)) 1 < 24∧wasB v (byteI (bl (itA m v j)) 1)≠(⟨#[]⟩:ByteArray)∧itA m v (byteI (bl (itA m v j)) 1)=(⟨#[]⟩:ByteArray) then strOfNums [0,0] else itA m v j
 else if (oD (itA m v j)).isSome=true∧(vD (oD (itA m v j))).2.2.1=n∧wasB v (vD (oD (itA m v j))).2.2.2.1≠(⟨#[]⟩:ByteArray)∧itA m v (vD (oD (itA m v j))).2.2.2.1=(⟨#[]⟩:ByteArray) then txD (cutV (vD (oD (itA m v j)))) else itA m v j
theorem gone_iff {v:PV} {m:MpD} (h:GoodM v m) (x:Int):goneF m x=true↔(wasB v x≠(⟨#[]⟩:ByteArray)∧itA m v x=(⟨#[]⟩:ByteArray)):=by
 rw [goneF,itA]
 cases hm:m x with
 | none=>simp
 | some s=>
   have hg:=(h x s hm).1.2.2
   simp only [Option.isSome_some,Option.getD_some,Bool.true_and,beq_iff_eq]
   constructor
   ·intro e; exact ⟨hg,by apply ByteArray.ext; exact Array.ext' (by have:=e; rw [ByteArray.toList_eq,ByteArray.toList_eq] at this; exact this)⟩
   ·rintro ⟨_,rfl⟩; rfl
theorem gone_lt {v:PV} {m:MpD} (h:GoodM v m) {x:Int} (hx:goneF m x=true):x < 24:=by
 rw [goneF,Bool.and_eq_true] at hx
 obtain ⟨s,hs⟩:=Option.isSome_iff_exists.1 hx.1
 exact (h x s hs).1.2.1
theorem ls_eq {v:PV} {m:MpD} (h:GoodM v m) (n j:Int):lsR m v n j=itC m v n j:=by
 by_cases h2:(itA m v j).size=2
 ·have hB:lsR m v n j=itB m v j:=by
   rw [lsR,if_pos h2,itB]
   by_cases hg:goneF m (byteI (bl (itA m v j)) 1)=true
   ·rw [if_pos ⟨gone_lt h hg,(gone_iff h _).1 hg⟩,if_pos ⟨h2,hg⟩]
   ·rw [if_neg (fun hc=>hg ((gone_iff h _).2 hc.2)),if_neg (fun hc=>hg hc.2)]
  have hs:(itB m v j).size < 8:=by
   rw [itB]
   split
   ·rw [lead_size]; decide
   ·omega
  rw [hB,itC,oD_short hs,if_neg (by simp)]
 ·have hB:itB m v j=itA m v j:=by rw [itB,if_neg (fun hc=>h2 hc.1)]
  rw [lsR,if_neg h2,itC,hB]
  by_cases hc:(oD (itA m v j)).isSome=true∧(vD (oD (itA m v j))).2.2.1=n∧goneF m (vD (oD (itA m v j))).2.2.2.1=true
  ·have:=(gone_iff h _).1 hc.2.2
   rw [if_pos ⟨hc.1,hc.2.1,this.1,this.2⟩,if_pos hc]
  ·rw [if_neg (fun hd=>hc ⟨hd.1,hd.2.1,(gone_iff h _).2 hd.2.2⟩),if_neg hc]
/-- what the reference's items are made of -/
def itM (l:List NV):Nat→MpD
 | 0=>fun _=>none
 | i+1=>putM (itM l i) ((l.getD i nv0).1:Int) (some (txD (l.getD i nv0).2))
def rdM (v:PV) (m:MpD) (s:Nat):MpD:=fun x=>if (1≤x∧x < (s:Int))∧0≤rdF v x then some (strOfNums [0,rdF v x]) else m x
theorem itM_step {l:List NV} {i:Nat} {x:NV} (h:l[i]? =some x):itM l (i+1)=putM (itM l i) (x.1:Int) (some (txD x.2)):=by
 rw [itM,show l.getD i nv0=x by rw [List.getD_eq_getElem?_getD,h]; rfl]
theorem rd_yes {v:PV} {m:MpD} {s:Nat} (h1:1≤s) (h:0≤rdF v s):rdM v m (s+1)=putM (rdM v m s) (s:Int) (some (strOfNums [0,rdF v s])):=by
 funext x
 show (if (1≤x∧x < ((s+1:Nat):Int))∧0≤rdF v x then some (strOfNums [0,rdF v x]) else m x)=if x=(s:Int) then some (strOfNums [0,rdF v s]) else if (1≤x∧x < (s:Int))∧0≤rdF v x then some (strOfNums [0,rdF v x]) else m x
 by_cases e:x=(s:Int)
 ·subst e; rw [if_pos ⟨⟨by omega,by omega⟩,h⟩,if_pos rfl]
 ·rw [if_neg e]
  by_cases h2:(1≤x∧x < (s:Int))∧0≤rdF v x
  ·rw [if_pos h2,if_pos ⟨⟨h2.1.1,by omega⟩,h2.2⟩]
  ·rw [if_neg h2,if_neg (fun h3=>h2 ⟨⟨h3.1.1,by omega⟩,h3.2⟩)]
theorem rd_no {v:PV} {m:MpD} {s:Nat} (h:¬ 0≤rdF v s):rdM v m (s+1)=rdM v m s:=by
 funext x
 show (if (1≤x∧x < ((s+1:Nat):Int))∧0≤rdF v x then some (strOfNums [0,rdF v x]) else m x)=if (1≤x∧x < (s:Int))∧0≤rdF v x then some (strOfNums [0,rdF v x]) else m x
 by_cases h2:(1≤x∧x < (s:Int))∧0≤rdF v x
 ·rw [if_pos h2,if_pos ⟨⟨h2.1.1,by omega⟩,h2.2⟩]
 ·rw [if_neg h2,if_neg (fun h3=>h2 ⟨⟨h3.1.1,by
   rcases Int.lt_or_eq_of_le (show x≤(s:Int) by omega) with h4 | h4
   ·exact h4
   ·subst h4; exact absurd h3.2 h⟩,h3.2⟩)]
theorem rd_1 (v:PV) (m:MpD):rdM v m 1=m:=by
 funext x
 show (if (1≤x∧x < ((1:Nat):Int))∧0≤rdF v x then some (strOfNums [0,rdF v x]) else m x)=m x
 rw [if_neg (by omega)]
theorem itM_val {v:PV} {l:List NV} (hl:∀ x∈l,SlotOk v x) (x:Int):∀ i,i≤l.length→itM l i x=none∨itM l i x=(atF v x).map txD
 | 0, _=> .inl rfl
 | i+1,hi=>by
   have e:itM l (i+1) x=if x=((l.getD i nv0).1:Int) then some (txD (l.getD i nv0).2) else itM l i x:=rfl
   rw [e]
   split
   ·rename_i h
    refine .inr ?_
    rw [h,hl _ (getD_mem (show i < l.length by omega))]; rfl
   ·exact itM_val hl x i (by omega)
theorem itM_some {l:List NV} {x:NV} {k:Nat} (hx:l[k]? =some x):∀ i,k < i→(itM l i (x.1:Int)).isSome=true
 | 0,h=>by omega
 | i+1,h=>by
   have e:itM l (i+1) (x.1:Int)=if (x.1:Int)=((l.getD i nv0).1:Int) then some (txD (l.getD i nv0).2) else itM l i (x.1:Int):=rfl
   rw [e]
   by_cases hk:k=i
   ·subst hk
    rw [if_pos (by rw [List.getD_eq_getElem?_getD,hx]; rfl)]; rfl
   ·split
    ·rfl
    ·exact itM_some hx i (by omega)
theorem items_eq {v:PV} (hwf:v.wf):nwG (fun _=>(⟨#[]⟩:ByteArray)) (rdM v (itM (allF' v) (allF' v).length) 24)=wsL v:=by
 refine nw_ext fun j hj=>?_
 show (if (1≤(j:Int)∧(j:Int) < ((24:Nat):Int))∧0≤rdF v j then some (strOfNums [0,rdF v j]) else itM (allF' v) (allF' v).length j).getD (⟨#[]⟩:ByteArray)=wasB v j
 by_cases hr:0≤rdF v j
 ·have:=rd_bd hwf hr
  rw [if_pos ⟨⟨by omega,by omega⟩,hr⟩,was_rd hr]; rfl
 ·rw [if_neg (fun h=>hr h.2)]
  have h1:=itM_val (v:=v) all_mem (j:Int) _ (Nat.le_refl (allF' v).length)
  cases ha:atF v (j:Int) with
  | none=>
    rw [was_no hr ha]
    rw [ha] at h1
    rcases h1 with h1 | h1<;>rw [h1]<;>rfl
  | some d=>
    rw [was_at hwf ha]
    obtain ⟨hm, _⟩:=all_has ha
    obtain ⟨k,hk⟩:=List.getElem?_of_mem hm
    have h2:=itM_some hk (allF' v).length (List.getElem?_eq_some_iff.1 hk).1
    have h3:(((j:Int).toNat:Nat):Int)=(j:Int):=by omega
    rw [show ((((j:Int).toNat,d):NV).1:Int)=(j:Int) from h3] at h2
    rcases h1 with h1 | h1
    ·rw [h1] at h2; cases h2
    ·rw [h1,ha]; rfl
/-- what stays, as the reference says it -/
def stayR (p:NV→Bool) (red:Bool) (l:List NV):List NV:=if (stsL p l).length=0 then (if red then l.drop (l.length - 1) else l.take 1) else stsL p l
theorem stay_ref {p:NV→Bool} {v:PV} (hwf:v.wf) {tk:Int→Bool} {n:Int} {r:Nat}:stayR p (decide (0≤rdF v r)) (cutT tk (chF v n r))=stayL p r (cutT tk (chF v n r)):=by
 rw [stayR,stayL]
 split
 ·cases hl:cutT tk (chF v n r) with
  | nil=>
    rw [oneL]
    split<;>split<;>rfl
  | cons x l=>
    have hx:∃ l',chF v n r=x::l':=by
     cases hc:chF v n r with
     | nil=>rw [hc] at hl; cases hl
     | cons y l'=>
       rw [hc,cutT,List.takeWhile_cons] at hl
       split at hl
       ·injection hl with h1 _; exact ⟨l',by rw [h1]⟩
       ·cases hl
    obtain ⟨l',hx⟩:=hx
    have hf:=chF_first hwf hx
    rw [oneL]
    show (if decide (0≤rdF v (r:Int))=true then _ else _)=if x.1=r then _ else _
    by_cases hr:0≤rdF v (r:Int)
    ·rw [decide_eq_true hr,if_pos rfl,if_neg (fun e=>hf.1 (by omega) hr)]
    ·rw [decide_eq_false hr,if_neg (by decide),if_pos (by have:=hf.2 hr; omega)]
 ·rfl
theorem was_desc {v:PV} (hwf:v.wf) (j:Int):∃ o,Desc (wasB v j) o:=by
 by_cases hr:0≤rdF v j
 ·rw [was_rd hr]; exact desc_lead _
 ·cases ha:atF v j with
  | none=>rw [was_no hr ha]; exact desc_nil
  | some d=>rw [was_at hwf ha]; exact ⟨some d,ok_at hwf ha,rfl⟩
theorem itA_desc {v:PV} (hwf:v.wf) {m:MpD} (hm:∀ j s,m j=some s→∃ o,Desc s o) (j:Int):∃ o,Desc (itA m v j) o:=by
 rw [itA]
 cases h:m j with
 | none=>exact was_desc hwf j
 | some s=>exact hm j s h
theorem itB_desc {v:PV} (hwf:v.wf) {m:MpD} (hm:∀ j s,m j=some s→∃ o,Desc s o) (j:Int):∃ o,Desc (itB m v j) o:=by
 rw [itB]
 split
 ·exact desc_lead _
 ·exact itA_desc hwf hm j
end
section
open Go.RowKit
theorem ra_yes {V:PV} {j:Nat} {ks:List FK} (h:ks.map Prod.fst=fndF (hits V) j) (h0:1≤j) (hs:(atF V (j:Int)).isSome=true) (A:Option Addr) (c:Nat):(ks++[((j,vD (atF V (j:Int))),A,c)]).map Prod.fst=fndF (hits V) (j+1):=by
 rw [atF_get V h0] at hs ⊢
 exact ks_snoc h (by omega) hs A c
theorem ra_no {V:PV} {j:Nat} {ks:List FK} (h:ks.map Prod.fst=fndF (hits V) j) (h0:1≤j) (hs:(atF V (j:Int)).isSome=false):ks.map Prod.fst=fndF (hits V) (j+1):=by
 rw [atF_get V h0] at hs
 exact ks_keep h (by rw [hs]; rintro ⟨_,h2⟩; cases h2)
theorem row_le' {v:PV} (h:v.wf) {x:NV} (hx:SlotOk v x):x.2.2.2.2.2.2.length≤6:=by
 obtain ⟨s,hs⟩:=atF_desc h (x.1:Int)
 have:=hs.bd.2.2.2.2.2.2.2.2
 rw [hx] at this
 exact this
theorem all_le' {v:PV} (h:v.wf):(allF' v).length≤24:=by
 rw [← hits_all h]
 exact fnd_le _ _
theorem set_nw {b:Int→ByteArray} {m:MpD} {k:Nat} (h:k < 24) (s:ByteArray):((nwG b m).map Value.string).set k (.string s)=(nwG b (putM m (k:Int) (some s))).map Value.string:=by rw [← nw_set _ _ h,List.map_set]
theorem str_nw {b:Int→ByteArray} {m:MpD} {k:Nat} (h:k < 24):((nwG b m).map Value.string)[k]? =some (.string ((m (k:Int)).getD (b (k:Int)))):=by
 rw [List.getElem?_map,List.getElem?_eq_getElem (by rw [nwG_len]; exact h)]
 simp [nwG]
theorem rall9k_any (PA:Option Addr) (pc:Nat) (Ps:List PgD) (n:Int) (w:World) (hP:PgsAt w PA Ps):
  Calls Tryz.prog 16 #[.agg #[.slice PA Ps.length pc], .int .i64 n] w (StkPost 147 (allF' (pvF Ps n)) n w):=by
 have hwf:=hP.wf n
 go_enter Tryz.func16,Tryz.ntmps16
 have hst0:=St.start w
 refine wp_seq (sqr ?_)
 refine sqbx #[.slice PA Ps.length pc] hst0 fun B2_1 W1 hst1=>?_
 refine sqp [.k 4 (.slice none 0 0)] ?_
 refine then_normal (wp_seq (sqr ?_))
 refine sqli 147 8 0 [] hst1 (@fun ρ β W X cx=>by simp [go_sem]) fun B9_3 W3 hst3=>?_
 refine sqp [.m 5 9] ?_
 refine then_normal (wp_seq (wp_seq (sqr (sqp [.k 6 (vi 1)] ?_))))
 refine then_normal (wp_block ?_)
 have hsF_:St _ _ (_++[eFR []]) _:=St.emNil hst3
 simp only [List.cons_append,List.nil_append] at hsF_
 refine wp_loopT (fun t_ mz az W=>∃ j:Nat,∃ m:Nat,∃ FA:Option Addr,∃ FC:Nat,∃ ks:List FK,(1≤j∧j≤24)∧ks.length=m∧ks.map Prod.fst=fndF (hits (pvF Ps n)) j∧m≤j∧mz=24 - j∧az=⟨(ovr (jv az) [(5,5,0,[.slice FA m FC,vi ((j:Int))]),(0,7,2,[]),(1,10,21,[])] t_).toArray,[]⟩∧St w [] [eB B2_1 30 #[.slice PA Ps.length pc],eO 147 8 (.slice FA m FC) m (ks.flatMap (cellsF n)),eFR ks] W) (24 - 1) ?_ ?_
 · -- the loop begins
   exact ⟨1,0,(some ⟨B9_3,0,none⟩),0,[],⟨by decide,by decide⟩,rfl,rfl,by omega,rfl,(by kernel_rfl),hsF_.pk [0,1,2]⟩
 rintro n6 a6 W6 ⟨j,m,FA,FC,ks,hj,hkm,hkl,hmj,rfl,hj_,hst6⟩
 refine ovz hj_ fun u6_=>?_
 refine wp_seq (wp_seq (sqr (sqp [.m 10 6, .k 11 (.bool (decide ((j:Int) < 24)))] ?_)))
 refine then_normal (wds (fun hs9 hs9p=>?_) fun hs9 hs9p=>?_)
 ·refine wp_skip (then_normal (wp_seq (wp_block (wp_seq (sqr ?_)))))
  refine sqlb 0 1 hst6 ?_
  refine sqp [.m 16 1, .m 17 6, .k 18 (.agg #[vi n,vi ((j:Int))])] ?_
  refine sqk2 (fun A19_14 c19_14=> .tuple #[.agg #[vi ((vD (atF (pvF Ps n) (j:Int))).1),vi ((vD (atF (pvF Ps n) (j:Int))).2.1),vi ((vD (atF (pvF Ps n) (j:Int))).2.2.1),vi ((vD (atF (pvF Ps n) (j:Int))).2.2.2.1), .bool ((vD (atF (pvF Ps n) (j:Int))).2.2.2.2.1), .slice A19_14 ((vD (atF (pvF Ps n) (j:Int))).2.2.2.2.2.length) c19_14], .bool ((atF (pvF Ps n) (j:Int)).isSome)]) (fun A19_14 c19_14=>eO 45 3 (.slice A19_14 ((vD (atF (pvF Ps n) (j:Int))).2.2.2.2.2.length) c19_14) ((vD (atF (pvF Ps n) (j:Int))).2.2.2.2.2.length) (flatR (vD (atF (pvF Ps n) (j:Int))).2.2.2.2.2)) hst6 (fun cx=>⟨_,(rat_any _ _ Ps n (j:Int) _ (hP.ext cx.upd.to_ext)).mono (by rintro e W1 ⟨A4,c4,rfl,ho,hx⟩; exact ⟨_, _,rfl,St.one hx (eO_new ho)⟩),(map2 (cx.ou 15) (cx.ou 18))⟩) fun A19_14 c19_14 W14 hst14=>?_
  refine sqp [.m 14 19, .k 20 (.agg #[vi ((vD (atF (pvF Ps n) (j:Int))).1),vi ((vD (atF (pvF Ps n) (j:Int))).2.1),vi ((vD (atF (pvF Ps n) (j:Int))).2.2.1),vi ((vD (atF (pvF Ps n) (j:Int))).2.2.2.1), .bool ((vD (atF (pvF Ps n) (j:Int))).2.2.2.2.1), .slice A19_14 ((vD (atF (pvF Ps n) (j:Int))).2.2.2.2.2.length) c19_14]), .k 21 (.bool ((atF (pvF Ps n) (j:Int)).isSome))] ?_
  refine sqal #[vi 0,vi 0,vi 0,vi 0, .bool false, .slice none 0 0] hst14 fun B7_18 W18 hst18=>?_
  refine sqst (n:=6) 4 #[vi ((vD (atF (pvF Ps n) (j:Int))).1),vi ((vD (atF (pvF Ps n) (j:Int))).2.1),vi ((vD (atF (pvF Ps n) (j:Int))).2.2.1),vi ((vD (atF (pvF Ps n) (j:Int))).2.2.2.1), .bool ((vD (atF (pvF Ps n) (j:Int))).2.2.2.2.1), .slice A19_14 ((vD (atF (pvF Ps n) (j:Int))).2.2.2.2.2.length) c19_14] hst18 fun W19 hst19=>?_
  refine sqp [.m 8 21] ?_
  refine then_normal (wp_seq (sqr (sqp [.m 22 8] ?_)))
  refine then_normal (wbs (fun hs22=>?_) fun hs22=>?_)
  ·refine sqr (sqp [.m 23 5, .m 24 1, .m 25 6, .k 26 (.agg #[vi n,vi ((j:Int))])] ?_)
   refine sqlb 4 6 hst19 ?_
   refine sqp [.k 28 (.agg #[vi n,vi ((j:Int)),vi ((vD (atF (pvF Ps n) (j:Int))).1),vi ((vD (atF (pvF Ps n) (j:Int))).2.1),vi ((vD (atF (pvF Ps n) (j:Int))).2.2.1),vi ((vD (atF (pvF Ps n) (j:Int))).2.2.2.1), .bool ((vD (atF (pvF Ps n) (j:Int))).2.2.2.2.1), .slice A19_14 ((vD (atF (pvF Ps n) (j:Int))).2.2.2.2.2.length) c19_14])] ?_
   refine sqli 147 8 1 (cellsF n ((j,vD (atF (pvF Ps n) (j:Int))),A19_14,c19_14)) hst19 (@fun ρ β W X cx=>by have fF28:ρ (.tmp 28)= .agg #[vi n,vi ((j:Int)),vi ((vD (atF (pvF Ps n) (j:Int))).1),vi ((vD (atF (pvF Ps n) (j:Int))).2.1),vi ((vD (atF (pvF Ps n) (j:Int))).2.2.1),vi ((vD (atF (pvF Ps n) (j:Int))).2.2.2.1), .bool ((vD (atF (pvF Ps n) (j:Int))).2.2.2.2.1), .slice A19_14 ((vD (atF (pvF Ps n) (j:Int))).2.2.2.2.2.length) c19_14]:=(cx.ou 28); simp [go_sem,fF28,cellsF]) fun B29_29 W29 hst29=>?_
   refine sqap (m+1) ((ks++[((j,vD (atF (pvF Ps n) (j:Int))),A19_14,c19_14)]).flatMap (cellsF n)) 1 hst29 Tryz.infoRFnd (fun cx=>(At.of_ownN (cx.ri 5 rfl))) (h1:=by simp [cellsF,Value.oneCell']) (hxs:=found_snoc _ _ _) fun A30_30 c30_30 W30 hst30=>?_
   refine sqp [.m 5 30] ?_
   refine blk_normal (then_normal (sqr (sqp [.m 12 6,sI 13 ((j:Int)+1) (by omega), .m 6 13] ?_)))
   refine then_normal ?_
   have hmF35:=St.mergeF (s:=j) (v:=vD (atF (pvF Ps n) (j:Int))) (A:=A19_14) (c:=c19_14) (ks:=ks) (L:=[eB B2_1 30 #[.slice PA Ps.length pc],eO 147 8 (.slice A30_30 (m+1) c30_30) (m+1) ((ks++[((j,vD (atF (pvF Ps n) (j:Int))),A19_14,c19_14)]).flatMap (cellsF n)),eB B7_18 41 #[vi ((vD (atF (pvF Ps n) (j:Int))).1),vi ((vD (atF (pvF Ps n) (j:Int))).2.1),vi ((vD (atF (pvF Ps n) (j:Int))).2.2.1),vi ((vD (atF (pvF Ps n) (j:Int))).2.2.2.1), .bool ((vD (atF (pvF Ps n) (j:Int))).2.2.2.2.1), .slice A19_14 ((vD (atF (pvF Ps n) (j:Int))).2.2.2.2.2.length) c19_14],eO 147 8 (.slice ((some ⟨B29_29,0,none⟩)) 1 1) 1 (cellsF n ((j,vD (atF (pvF Ps n) (j:Int))),A19_14,c19_14))]) (hst30.pick [0,1,4,5,2,3] (by decide) rfl)
   simp only [List.cons_append,List.nil_append] at hmF35
   refine ⟨24 - ((j+1)),by omega,?_⟩
   exact ⟨(j+1),(m+1),A30_30,c30_30,(ks++[((j,vD (atF (pvF Ps n) (j:Int))),A19_14,c19_14)]),by omega,by rw [List.length_append,hkm]; rfl,ra_yes hkl (by omega) hs22 _ _,by omega,rfl,(by kernel_rfl),hmF35.pk [0,1,4]⟩
  refine wp_skip (blk_normal (then_normal (sqr (sqp [.m 12 6,sI 13 ((j:Int)+1) (by omega), .m 6 13] ?_))))
  refine then_normal ?_
  refine ⟨24 - ((j+1)),by omega,?_⟩
  exact ⟨(j+1),m,FA,FC,ks,by omega,hkm,ra_no hkl (by omega) hs22,by omega,rfl,(by kernel_rfl),hst19.pk [0,1,2]⟩
 refine wp_exit (then_exit (then_exit (blk_eq (then_normal (wp_seq (sqr (sqp [.m 31 5, .m 4 31] ?_)))))))
 refine then_normal (wp_ret ?_)
 refine bpr (.slice FA m FC) (results_1 Tryz.results16 rpt) ?_
 obtain rfl:j=24:=by omega
 rw [hits_all hwf] at hkl
 have hlm:m=(allF' (pvF Ps n)).length:=by rw [← hkl,List.length_map,hkm]
 exact St.fk hkl hlm (hst6.pick [2,1] (by decide) rfl)
theorem ritems_any (PA:Option Addr) (pc:Nat) (Ps:List PgD) (n:Int) (w:World) (hP:PgsAt w PA Ps):
  Calls Tryz.prog 70 #[.agg #[.slice PA Ps.length pc], .int .i64 n] w (Ret (.agg ((wsL (pvF Ps n)).map Value.string).toArray) w):=by
 have hwf:=hP.wf n
 go_enter Tryz.func70,Tryz.ntmps70
 have hst0:=St.start w
 refine wp_seq (sqr ?_)
 refine sqbx #[.slice PA Ps.length pc] hst0 fun B2_1 W1 hst1=>?_
 refine sqn1 (fun x_=>pb x_) (fun B4_2=>vp B4_2) (fun B4_2=>eB B4_2 151 ((nwG (fun _=>(⟨#[]⟩:ByteArray)) (fun _=>none)).map Value.string).toArray) hst1 (by
   refine svA fun ρ β W X cx=>?_
   exact dv_alloc (cs:=((nwG (fun _=>(⟨#[]⟩:ByteArray)) (fun _=>none)).map Value.string).toArray) rfl (by kernel_rfl) rfl rfl (fun σ β' X' hs hb hv hx=>⟨hv,hx⟩)) fun B4_2 W2 hst2=>?_
 refine then_normal (wp_seq (sqr (sqp [.k 10 (.agg #[.string ByteArray.empty, .string ByteArray.empty, .string ByteArray.empty, .string ByteArray.empty, .string ByteArray.empty, .string ByteArray.empty, .string ByteArray.empty, .string ByteArray.empty, .string ByteArray.empty, .string ByteArray.empty, .string ByteArray.empty, .string ByteArray.empty, .string ByteArray.empty, .string ByteArray.empty, .string ByteArray.empty, .string ByteArray.empty, .string ByteArray.empty, .string ByteArray.empty, .string ByteArray.empty, .string ByteArray.empty, .string ByteArray.empty, .string ByteArray.empty, .string ByteArray.empty, .string ByteArray.empty])] ?_)))
 refine sqn1 (fun x_=>pb x_) (fun B5_4=>vp B5_4) (fun B5_4=>eB B5_4 151 ((nwG (fun _=>(⟨#[]⟩:ByteArray)) (fun _=>none)).map Value.string).toArray) hst2 (by
   refine svA fun ρ β W X cx=>?_
   exact dv_alloc (cs:=((nwG (fun _=>(⟨#[]⟩:ByteArray)) (fun _=>none)).map Value.string).toArray) rfl (by kernel_rfl) rfl rfl (fun σ β' X' hs hb hv hx=>⟨hv,hx⟩)) fun B5_4 W4 hst4=>?_
 refine sqc (eB B5_4 151 ((nwG (fun _=>(⟨#[]⟩:ByteArray)) (fun _=>none)).map Value.string).toArray) 2 hst4 (by
   refine svA fun ρ β W X cx=>?_
   exact dv_store (n:=24) (cs:=((nwG (fun _=>(⟨#[]⟩:ByteArray)) (fun _=>none)).map Value.string).toArray) (cs':=((nwG (fun _=>(⟨#[]⟩:ByteArray)) (fun _=>none)).map Value.string).toArray) rfl (cx.ou 5) (show _=Value.agg #[.string ByteArray.empty, .string ByteArray.empty, .string ByteArray.empty, .string ByteArray.empty, .string ByteArray.empty, .string ByteArray.empty, .string ByteArray.empty, .string ByteArray.empty, .string ByteArray.empty, .string ByteArray.empty, .string ByteArray.empty, .string ByteArray.empty, .string ByteArray.empty, .string ByteArray.empty, .string ByteArray.empty, .string ByteArray.empty, .string ByteArray.empty, .string ByteArray.empty, .string ByteArray.empty, .string ByteArray.empty, .string ByteArray.empty, .string ByteArray.empty, .string ByteArray.empty, .string ByteArray.empty] from (cx.ou 10)) (by kernel_rfl) (by kernel_rfl) (by kernel_rfl) cx (cx.init 2 _ rfl) rfl (Nat.le_of_ble_eq_true (by kernel_rfl)) ((by kernel_rfl)) rfl rfl rfl (fun σ β' X' hs hb hx=>hx)) fun W5 hst5=>?_
 refine then_normal (wp_seq (sqr ?_))
 refine sqlb 0 1 hst5 ?_
 refine sqp [.m 12 1] ?_
 refine sqk2s (fun A13_8 c13_8=> .slice A13_8 ((allF' (pvF Ps n)).length) c13_8) (fun A13_8 c13_8 r3_8=>eFk 147 (.slice A13_8 ((allF' (pvF Ps n)).length) c13_8) (allF' (pvF Ps n)) n r3_8) hst5 (fun cx=>⟨_,(rall9k_any _ _ Ps n _ (hP.ext cx.upd.to_ext)).mono (by rintro e W1 ⟨A4,c4,fp4,rfl,hc⟩; exact ⟨_, _, _,rfl,hc⟩),(map2 (cx.ou 11) (cx.ou 12))⟩) fun A13_8 c13_8 r3_8 W8 hst8=>?_
 refine sqp [.m 6 13] ?_
 refine then_normal (wp_seq (wp_seq (sqr (sqp [.k 7 (vi 0)] ?_))))
 refine then_normal (wp_block ?_)
 have hal_:=all_le' hwf
 obtain ⟨ks,hks,hmO11⟩:=St.openFk (L1:=[eB B2_1 30 #[.slice PA Ps.length pc],eB B4_2 151 ((nwG (fun _=>(⟨#[]⟩:ByteArray)) (fun _=>none)).map Value.string).toArray,eB B5_4 151 ((nwG (fun _=>(⟨#[]⟩:ByteArray)) (fun _=>none)).map Value.string).toArray]) (L2:=[]) hst8
 simp only [List.cons_append,List.nil_append] at hmO11
 have hksl:ks.length=(allF' (pvF Ps n)).length:=by rw [← hks,List.length_map]
 refine wp_loopT (fun t_ mz az W=>∃ i:Nat,i≤(allF' (pvF Ps n)).length∧mz=(allF' (pvF Ps n)).length - i∧az=⟨(ovr (jv az) [(7,7,0,[vi ((i:Int))]),(6,14,19,[])] t_).toArray,[]⟩∧St w [] [eB B2_1 30 #[.slice PA Ps.length pc],eB B4_2 151 ((nwG (fun _=>(⟨#[]⟩:ByteArray)) (fun _=>none)).map Value.string).toArray,eB B5_4 151 ((nwG (fun _=>(⟨#[]⟩:ByteArray)) (itM (allF' (pvF Ps n)) i)).map Value.string).toArray,eFo 147 (.slice A13_8 ((allF' (pvF Ps n)).length) c13_8) (allF' (pvF Ps n)).length n ks] W) ((allF' (pvF Ps n)).length - 0) ?_ ?_
 · -- the loop begins
   exact ⟨0,Nat.zero_le _,rfl,(by kernel_rfl),hmO11.pk [0,1,2,3]⟩
 rintro n12 a12 W12 ⟨i,hi,rfl,hj_,hst12⟩
 refine ovz hj_ fun u12_=>?_
 refine wp_seq (wp_seq (sqr (sqp [.m 14 7, .m 15 6, .k 16 (vi (((allF' (pvF Ps n)).length:Int))), .k 17 (.bool (decide ((i:Int) < ((allF' (pvF Ps n)).length:Int))))] ?_)))
 refine then_normal (wds (fun hs17 hs17p=>?_) fun hs17 hs17p=>?_)
 ·refine wp_skip (then_normal (wp_seq (wp_block ?_)))
  obtain ⟨fx,fA,fC,hkfj,hfx⟩:=ks_get (j:=i) hks (by omega)
  have hso:=all_mem _ (List.mem_of_getElem? hfx)
  have hfs:=slot_of hwf hso
  have hrl:=row_le' hwf hso
  refine wp_region_Y [0,0,3,7,15,31,0,0,192,448,960,1984,4095,8191] [[],[],[3],[],[],[3],[],[],[3],[],[3],[3],[],[2]] [[],[],[],[],[],[],[],[],[],[],[],[],[],[4]] [[],[],[],[],[],[],[],[],[],[],[],[],[],[2]] [.k 20 (.slice A13_8 ((allF' (pvF Ps n)).length) c13_8), .k 21 (vi ((i:Int))), .c 22 (.pointer (some ((ad A13_8).add (i*8)))), .c 23 (.pointer (some ((ad A13_8).add (i*8+0)))), .c 24 (.pointer (some ((ad A13_8).add (i*8+0+1)))), .c 25 (vi ((fx.1:Int))), .k 26 (.slice A13_8 ((allF' (pvF Ps n)).length) c13_8), .k 27 (vi ((i:Int))), .c 28 (.pointer (some ((ad A13_8).add (i*8)))), .c 29 (.pointer (some ((ad A13_8).add (i*8+2)))), .c 30 (.agg #[vi fx.2.1,vi fx.2.2.1,vi fx.2.2.2.1,vi fx.2.2.2.2.1, .bool fx.2.2.2.2.2.1, .slice fA fx.2.2.2.2.2.2.length fC]), .c 31 (.string ((txD fx.2))), .c 32 (.pointer (some ⟨B5_4,fx.1,none⟩)), .n] (fun ix σ β X=>match ix with | 0=>True | 1=>True | 2=>True | 3=>True | 4=>True | 5=>True | 6=>True | 7=>True | 8=>True | 9=>True | 10=>True | 11=>True | 12=>True | 13=>X 4=eB B5_4 151 ((nwG (fun _=>(⟨#[]⟩:ByteArray)) (putM (itM (allF' (pvF Ps n)) i) (fx.1:Int) (some (txD fx.2)))).map Value.string).toArray | _=>True) [0,1,3,4] [2,3,4,5,8,9,10,11,12,13] [(20,0,13,33)] hst12 ?_ ?_ ?_
  ·exact fun ix _ _ _ _ _ _ hs hb hx h=>match ix,h with
   | 13,h=>by dsimp only; rw [← hx 4 rfl]; exact h
   | 0, _ | 1, _ | 2, _ | 3, _ | 4, _ | 5, _ | 6, _ | 7, _ | 8, _ | 9, _ | 10, _ | 11, _ | 12, _ | _+14, _=>trivial
  ·refine ⟨?_,?_,?_,?_,?_,?_,?_,?_,?_,?_,trivial⟩
   ·exact xs4 rfl id fun cx=>run_indexSlM (e:=147) (m:=i) (sz:=8) rfl (by kernel_rfl) (by kernel_rfl) (cx.an 0) (cx.an 1) (by omega) (by omega) (eFo_at (CtxV.holdE cx (cx.init 3 _ rfl) rfl)) (flatPos (sz:=8) (cellsF_len n) (by decide) (by omega))
   ·exact xs4 rfl id fun cx=>run_fieldAd rfl (by kernel_rfl) (cx.an 2)
   ·exact xs4 rfl id fun cx=>run_fieldAd rfl (by kernel_rfl) (cx.an 3)
   ·exact xs4 rfl id fun cx=>run_load1 rfl (by kernel_rfl) (cx.an 4) (At.eltc (f:=(cellsF n)) (k:=1) (cellsF_len n) (eFo_at (CtxV.holdE cx (cx.init 3 _ rfl) rfl)) hkfj rfl)
   ·exact xs4 rfl id fun cx=>run_indexSlM (e:=147) (m:=i) (sz:=8) rfl (by kernel_rfl) (by kernel_rfl) (cx.an 6) (cx.an 7) (by omega) (by omega) (eFo_at (CtxV.holdE cx (cx.init 3 _ rfl) rfl)) (flatPos (sz:=8) (cellsF_len n) (by decide) (by omega))
   ·exact xs4 rfl id fun cx=>run_fieldAd rfl (by kernel_rfl) (cx.an 8)
   ·exact xs4 rfl id fun cx=>run_loadElt (f:=(cellsF n)) (m:=i) (sz:=8) (off:=2) (n:=6) rfl (by kernel_rfl) (by kernel_rfl) (cx.an 9) rfl (cellsF_len n) (eFo_at (CtxV.holdE cx (cx.init 3 _ rfl) rfl)) hkfj (fun k hk=>match k,hk with | 0, _=>rfl | 1, _=>rfl | 2, _=>rfl | 3, _=>rfl | 4, _=>rfl | 5, _=>rfl | k+6,hk=>absurd hk (by omega))
   ·exact xsc rfl id rfl rfl fun cx=>⟨_,r08bytes_any fx.2.1 fx.2.2.1 fx.2.2.2.1 fx.2.2.2.2.1 fx.2.2.2.2.2.1 _ _ fx.2.2.2.2.2.2 _ (eFo_row (CtxV.holdE cx (cx.init 3 _ rfl) rfl) (List.mem_of_getElem? hkfj)) (by omega),(map1 (cx.an 10))⟩
   ·exact xs4 rfl id fun cx=>run_indexArrB (n:=24) (sz:=1) (m:=fx.1) (q:=fx.1) rfl (by kernel_rfl) (cx.ou 5) (cx.an 5) (by omega) (by omega) (by omega)
   ·refine svA fun ρ β W X cx=>?_
    exact dv_storeAr (m:=fx.1) rfl (cx.an 12) (cx.an 11) (by kernel_rfl) rfl rfl cx (cx.init 2 _ rfl) rfl (by rw [List.length_map,nwG_len]; omega) rfl (set_nw (by omega) _) rfl rfl (fun σ β' X' hs hb hx=>hx)
  intro σ β X W18 hD hst18 fr hfr
  simp only [exq 4 ((dTn (hD 13 lq)))] at hst18
  clear hD; subst hfr; clear σ β X
  refine blk_normal (then_normal (sqr (sqp [.m 18 7,sI 19 ((i:Int)+1) (by omega), .m 7 19] ?_)))
  refine then_normal ?_
  rw [← itM_step hfx] at hst18
  refine ⟨(allF' (pvF Ps n)).length - ((i+1)),by omega,?_⟩
  exact ⟨(i+1),by omega,rfl,(by kernel_rfl),hst18.pk [0,1,3,2]⟩
 refine wp_exit (then_exit (then_exit (blk_eq (then_normal (wp_seq (wp_seq (sqr (sqp [.k 8 (vi 1)] ?_))))))))
 refine then_normal (wp_block ?_)
 have hie:i=(allF' (pvF Ps n)).length:=by omega
 subst hie
 rw [← rd_1 (pvF Ps n) (itM (allF' (pvF Ps n)) (allF' (pvF Ps n)).length)] at hst12
 refine wp_loopT (fun t_ mz az W=>∃ s:Nat,(1≤s∧s≤24)∧mz=24 - s∧az=⟨(ovr (jv az) [(8,8,0,[vi ((s:Int))]),(0,9,1,[]),(23,33,15,[])] t_).toArray,[]⟩∧St w [] [eB B2_1 30 #[.slice PA Ps.length pc],eB B4_2 151 ((nwG (fun _=>(⟨#[]⟩:ByteArray)) (fun _=>none)).map Value.string).toArray,eB B5_4 151 ((nwG (fun _=>(⟨#[]⟩:ByteArray)) (rdM (pvF Ps n) (itM (allF' (pvF Ps n)) (allF' (pvF Ps n)).length) s)).map Value.string).toArray,eFo 147 (.slice A13_8 ((allF' (pvF Ps n)).length) c13_8) (allF' (pvF Ps n)).length n ks] W) (24 - 1) ?_ ?_
 · -- the loop begins
   exact ⟨1,⟨by decide,by decide⟩,rfl,(by kernel_rfl),hst12.pk [0,1,2,3]⟩
 rintro n23 a23 W23 ⟨s,hs,rfl,hj_,hst23⟩
 refine ovz hj_ fun u23_=>?_
 refine wp_seq (wp_seq (sqr (sqp [.m 33 8, .k 34 (.bool (decide ((s:Int) < 24)))] ?_)))
 refine then_normal (wds (fun hs26 hs26p=>?_) fun hs26 hs26p=>?_)
 ·refine wp_skip (then_normal (wp_seq (wp_block (wp_seq (sqr ?_)))))
  refine sqlb 0 1 hst23 ?_
  refine sqp [.m 38 1, .m 39 8, .k 40 (.agg #[vi n,vi ((s:Int))])] ?_
  refine sqk (vi ((rdF (pvF Ps n) (s:Int)))) hst23 (fun cx=>⟨_,rredirect_any _ _ Ps n (s:Int) _ (hP.ext cx.upd.to_ext),(map2 (cx.ou 37) (cx.ou 40))⟩) fun W31 hst31=>?_
  refine sqp [.m 9 41] ?_
  refine then_normal (wp_seq ?_)
  have hrb:=rdF_bd (pvF Ps n) (s:Int)
  refine sqr (sqp [.m 42 9, .k 43 (.bool (decide (0≤(rdF (pvF Ps n) (s:Int)))))] ?_)
  refine then_normal (wds (fun hs35 hs35p=>?_) fun hs35 hs35p=>?_)
  ·refine sqr (sqp [.m 44 8, .m 45 9] ?_)
   refine sqk (.string ((strOfNums [0,(rdF (pvF Ps n) (s:Int))]))) hst31 (fun cx=>⟨_,rto_any (rdF (pvF Ps n) (s:Int)) _ (by omega),(map1 (cx.ou 45))⟩) fun W38 hst38=>?_
   refine sql (.pointer (some ⟨B5_4,s,none⟩)) hst38 (fun cx=>run_indexArrB (n:=24) (sz:=1) (m:=s) (q:=s) rfl (by kernel_rfl) (cx.ou 5) (cx.ou 44) (by omega) (by omega) (by omega)) ?_
   refine sqc (eB B5_4 151 ((nwG (fun _=>(⟨#[]⟩:ByteArray)) (putM (rdM (pvF Ps n) (itM (allF' (pvF Ps n)) (allF' (pvF Ps n)).length) s) (s:Int) (some (strOfNums [0,(rdF (pvF Ps n) (s:Int))])))).map Value.string).toArray) 2 hst38 (by
     refine svA fun ρ β W X cx=>?_
     exact dv_storeAr (m:=s) rfl (cx.ou 47) (show _=Value.string ((strOfNums [0,(rdF (pvF Ps n) (s:Int))])) from (cx.ou 46)) (by kernel_rfl) rfl rfl cx (cx.init 2 _ rfl) rfl (by rw [List.length_map,nwG_len]; omega) rfl (set_nw (by omega) _) rfl rfl (fun σ β' X' hs hb hx=>hx)) fun W40 hst40=>?_
   refine blk_normal (then_normal (sqr (sqp [.m 35 8,sI 36 ((s:Int)+1) (by omega), .m 8 36] ?_)))
   refine then_normal ?_
   rw [← rd_yes (by omega) (by omega)] at hst40
   refine ⟨24 - ((s+1)),by omega,?_⟩
   exact ⟨(s+1),by omega,rfl,(by kernel_rfl),hst40.pk [0,1,2,3]⟩
  refine wp_skip (blk_normal (then_normal (sqr (sqp [.m 35 8,sI 36 ((s:Int)+1) (by omega), .m 8 36] ?_))))
  refine then_normal ?_
  rw [← rd_no (v:=(pvF Ps n)) (s:=s) (by omega)] at hst31
  refine ⟨24 - ((s+1)),by omega,?_⟩
  exact ⟨(s+1),by omega,rfl,(by kernel_rfl),hst31.pk [0,1,2,3]⟩
 refine wp_exit (then_exit (then_exit (blk_eq (then_normal (wp_seq ?_)))))
 obtain rfl:s=24:=by omega
 rw [items_eq hwf] at hst23
 refine sqr ?_
 refine sql (.agg ((wsL (pvF Ps n)).map Value.string).toArray) hst23 (fun cx=>run_loadAr (n:=24) rfl (by kernel_rfl) (by kernel_rfl) (cx.ou 5) (cx.bi 2 rfl) (by simp [wsL,nwG_len])) ?_
 refine sqc (eB B4_2 151 ((wsL (pvF Ps n)).map Value.string).toArray) 1 hst23 (by
   refine svA fun ρ β W X cx=>?_
   exact dv_storeL (n:=24) rfl (cx.ou 4) (show _=Value.agg ((wsL (pvF Ps n)).map Value.string).toArray from (cx.ou 48)) (by kernel_rfl) (by simp [wsL,nwG_len]) (by simp [wsL,nwG_len]) (str_one _) cx (cx.init 1 _ rfl) rfl rfl rfl rfl (fun σ β' X' hs hb hx=>hx)) fun W48 hst48=>?_
 refine then_normal (wp_ret ?_)
 refine bpr (.agg ((wsL (pvF Ps n)).map Value.string).toArray) (results_cell (n:=24) Tryz.results70 rfl (by kernel_rfl) (by kernel_rfl) (hst48.blk 1 rfl) (by simp [wsL,nwG_len])) ?_
 exact Ret.of rfl hst48.ext
end
section
open Go.RowKit
theorem bq {a b:ByteArray}:(a.toList==b.toList)=true↔a=b:=by
 rw [beq_iff_eq,ByteArray.toList_eq,ByteArray.toList_eq]
 exact ⟨fun h=>ByteArray.ext (Array.ext' h),fun h=>by rw [h]⟩
theorem bqn {a b:ByteArray}:(a.toList != b.toList)=true↔a≠b:=by
 rw [bne_iff_ne,ne_eq,← beq_iff_eq,bq]
theorem c3 {p:Prop} [Decidable p] {a b e:ByteArray}:((decide p&&!(a.toList==e.toList))&&(b.toList==e.toList))=true↔p∧a≠e∧b=e:=by
 rw [Bool.and_eq_true,Bool.and_eq_true,decide_eq_true_eq,show (!(a.toList==e.toList))=(a.toList != e.toList) from rfl,bqn,bq,and_assoc]
theorem c4 {o:Option VerD} {x n:Int} {a b e:ByteArray}:((((eD o != 0)||(x != n))||(a.toList==e.toList))||!(b.toList==e.toList))=false↔(o.isSome=true∧x=n∧a≠e∧b=e):=by
 rw [show (!(b.toList==e.toList))=(b.toList != e.toList) from rfl,Bool.or_eq_false_iff,Bool.or_eq_false_iff,Bool.or_eq_false_iff,bne_eq_false_iff_eq,bne_eq_false_iff_eq,← Bool.not_eq_true,bq,← Bool.not_eq_true,bqn,ne_eq,Decidable.not_not,and_assoc,and_assoc]
 have:eD o=0↔o.isSome=true:=by rw [← eD_some,beq_iff_eq]
 rw [this]
/-- loose, for the item s -/
noncomputable def lsG (m:MpD) (v:PV) (n:Int) (s:ByteArray):ByteArray:=
 if s.size=2 then
  if byteI (bl s) 1 < 24∧wasB v (byteI (bl s) 1)≠(⟨#[]⟩:ByteArray)∧itA m v (byteI (bl s) 1)=(⟨#[]⟩:ByteArray) then strOfNums [0,0] else s
 else if (oD s).isSome=true∧(vD (oD s)).2.2.1=n∧wasB v (vD (oD s)).2.2.2.1≠(⟨#[]⟩:ByteArray)∧itA m v (vD (oD s)).2.2.2.1=(⟨#[]⟩:ByteArray) then txD (cutV (vD (oD s))) else s
theorem lsR_eq (m:MpD) (v:PV) (n j:Int):lsG m v n (itA m v j)=lsR m v n j:=rfl
theorem ed_same2 {m:MpD} {v:PV} {n:Int} {k:Nat} (h:((itC m v n ((k:Int)+1)).toList==(wasB v ((k:Int)+1)).toList)=true):edL m v n (k+1)=edL m v n k:=by
 have e:((k+1:Nat):Int)=(k:Int)+1:=by omega
 refine ed_same ?_
 rw [e]
 exact bq.1 h
theorem ed_new2 {m:MpD} {v:PV} {n:Int} {k:Nat} (h:((itC m v n ((k:Int)+1)).toList==(wasB v ((k:Int)+1)).toList)=false):edL m v n (k+1)=edL m v n k++[((k:Int)+1,itC m v n ((k:Int)+1))]:=by
 have e:((k+1:Nat):Int)=(k:Int)+1:=by omega
 have h1:=ed_new (m:=m) (v:=v) (n:=n) (k:=k) (by rw [e]; intro h2; rw [bq.2 h2] at h; cases h)
 rw [h1,e]
theorem ed_snoc2 (l:List (Int×ByteArray)) (n:Int) (x:Int×ByteArray):l.flatMap (cellsEd n)++cellsEd n x=(l++[x]).flatMap (cellsEd n):=by simp
theorem rnone9_any (w:World):
  Calls Tryz.prog 76 #[] w (Ret (.agg #[.int .i64 (-1), .int .i64 0]) w):=by
 go_enter Tryz.func76,Tryz.ntmps76
 have hst0:=St.start w
 refine wp_seq (sqr (sqal #[vi 0,vi 0] hst0 fun B0_1 W1 hst1=>?_))
 refine then_normal (wp_seq (sqr (sqp [.k 1 (.agg #[vi (-1),vi 0])] ?_)))
 refine sqst (n:=2) 0 #[vi (-1),vi 0] hst1 fun W3 hst3=>?_
 refine then_normal (wp_ret ?_)
 refine bpr (.agg #[vi (-1),vi 0]) (results_cell (n:=2) Tryz.results76 rfl (by kernel_rfl) (by kernel_rfl) (hst3.blk 0 rfl) rfl) ?_
 exact Ret.of rfl hst3.ext
theorem rloose_any (s:ByteArray) (n:Int) (v:PV) (m:MpD) (w:World) (hds:Desc s (oD s)):
  Calls Tryz.prog 145 #[.string s, .int .i64 n, .agg ((wsL v).map Value.string).toArray, .agg ((nwG (wasB v) m).map Value.string).toArray] w (Ret (.string (lsG m v n s)) w):=by
 go_enter Tryz.func145,Tryz.ntmps145
 have hst0:=St.start w
 refine wp_seq (sqr ?_)
 refine sqn1 (fun x_=>pb x_) (fun B6_1=>vp B6_1) (fun B6_1=>eB B6_1 151 ((wsL v).map Value.string).toArray) hst0 (by
   refine svA fun ρ β W X cx=>?_
   exact dv_box (cs:=((wsL v).map Value.string).toArray) rfl (cx.ou 2) rfl rfl rfl (fun σ β' X' hs hb hv hx=>⟨hv,hx⟩)) fun B6_1 W1 hst1=>?_
 refine sqn1 (fun x_=>pb x_) (fun B7_2=>vp B7_2) (fun B7_2=>eB B7_2 151 ((nwG (wasB v) m).map Value.string).toArray) hst1 (by
   refine svA fun ρ β W X cx=>?_
   exact dv_box (cs:=((nwG (wasB v) m).map Value.string).toArray) rfl (cx.ou 3) rfl rfl rfl (fun σ β' X' hs hb hv hx=>⟨hv,hx⟩)) fun B7_2 W2 hst2=>?_
 refine sqp [.k 8 (.string ⟨#[]⟩)] ?_
 refine then_normal (wp_seq (wp_seq ?_))
 have hb1:0≤byteI (bl s) 1∧byteI (bl s) 1 < 256:=byte_lt (bl s) 1
 have hbd:=hds.bd
 refine sqr (sqp [.m 12 0, .k 13 (vi ((s.size:Int))), .k 14 (.bool ((s.size:Int)==2))] ?_)
 refine then_normal (wbs (fun hs7=>?_) fun hs7=>?_)
 ·have hs7p:=beq_iff_eq.1 hs7
  refine wp_seq (sqr (sqp [.m 15 0] ?_))
  refine sql (.int .u8 (byteI (bl s) 1)) hst2 (fun cx=>run_indexS (m:=1) rfl (by kernel_rfl) (cx.ou 15) (cx.co _) (by omega) (by omega)) ?_
  refine sqp [sW 17 .i64 (byteI (bl s) 1) (byteI (bl s) 1) (IntWalk.i64_in _ (by omega)), .m 9 17] ?_
  refine then_normal (wp_seq (wp_seq ?_))
  obtain ⟨xb,hN_xb⟩:∃ z,byteI (bl s) 1=z:=⟨_,rfl⟩
  rw [hN_xb]
  rw [hN_xb] at hb1
  obtain ⟨zX,rfl⟩:∃ zX:Nat,xb=(zX:Int):=⟨xb.toNat,by omega⟩
  refine sqr (sqp [.m 18 9, .k 19 (.bool (decide ((zX:Int) < 24))), .m 20 19] ?_)
  refine sqw' 20 [21,22,23,24] ?_ rfl (fun hq=>?_) ?_
  rotate_left
  ·have hq_:=of_decide_eq_true hq
   refine sqp [.m 21 9] ?_
   refine sql (.pointer (some ⟨B6_1,zX,none⟩)) hst2 (fun cx=>run_indexArrB (n:=24) (sz:=1) (m:=zX) (q:=zX) rfl (by kernel_rfl) (cx.ou 6) (cx.ou 21) (by omega) (by omega) (by omega)) ?_
   refine sql (.string ((wasB v (zX:Int)))) hst2 (fun cx=>run_load1 rfl (by kernel_rfl) (cx.ou 22) (((cx.bi 0 rfl).cell zX).trans ((List.getElem?_toArray ..).trans (str_nw (by omega))))) ?_
   refine sqp [.k 24 (.bool (!(((wasB v (zX:Int))).toList==((⟨#[]⟩:ByteArray)).toList)))] ?_
   exact sqe
  refine sqwx ?_
  refine sqp [sPa 25 (decide ((zX:Int) < 24)) (!(((wasB v (zX:Int))).toList==((⟨#[]⟩:ByteArray)).toList)), .m 26 25] ?_
  refine sqw' 26 [27,28,29,30] ?_ rfl (fun hq=>?_) ?_
  rotate_left
  ·have hq_:=hq
   try simp only [zB] at hq_
   refine sqp [.m 27 9] ?_
   refine sql (.pointer (some ⟨B7_2,zX,none⟩)) hst2 (fun cx=>run_indexArrB (n:=24) (sz:=1) (m:=zX) (q:=zX) rfl (by kernel_rfl) (cx.ou 7) (cx.ou 27) (by omega) (by omega) (by omega)) ?_
   refine sql (.string ((itA m v (zX:Int)))) hst2 (fun cx=>run_load1 rfl (by kernel_rfl) (cx.ou 28) (((cx.bi 1 rfl).cell zX).trans ((List.getElem?_toArray ..).trans (str_nw (by omega))))) ?_
   refine sqp [.k 30 (.bool (((itA m v (zX:Int))).toList==((⟨#[]⟩:ByteArray)).toList))] ?_
   exact sqe
  refine sqwx ?_
  refine sqp [sPa 31 ((decide ((zX:Int) < 24))&&(!(((wasB v (zX:Int))).toList==((⟨#[]⟩:ByteArray)).toList))) (((itA m v (zX:Int))).toList==((⟨#[]⟩:ByteArray)).toList)] ?_
  refine then_normal (wbs (fun hs26=>?_) fun hs26=>?_)
  ·have hs26p:=hs26
   simp only [zB] at hs26p
   obtain ⟨⟨hs26p1,hs26p2⟩,hs26p3⟩:=hs26p
   refine wp_seq (sqr (sqk (.string ((strOfNums [0,0]))) hst2 (fun cx=>⟨_,rto_any 0 _ (by omega),(map1 (cx.co _))⟩) fun W27 hst27=>?_))
   refine sqp [.m 8 32] ?_
   refine then_normal (wp_ret (then_ret (then_ret ?_)))
   refine bpr (.string ((strOfNums [0,0]))) (results_1 Tryz.results145 rpt) ?_
   exact Ret.of (by rw [lsG,if_pos (by omega),hN_xb,if_pos (c3.1 hs26)]) hst27.ext
  have hs26p:=hs26
  simp only [zB] at hs26p
  refine wp_skip (then_normal (wp_seq (sqr (sqp [.m 33 0, .m 8 33] ?_))))
  refine then_normal (wp_ret (then_ret ?_))
  refine bpr (.string s) (results_1 Tryz.results145 rpt) ?_
  exact Ret.of (by rw [lsG,if_pos (by omega),hN_xb,if_neg (fun hc=>by have h_:=hs26; rw [c3.2 hc] at h_; cases h_)]) hst2.ext
 have hs7p:=beq_eq_false_iff_ne.1 hs7
 refine wp_skip (then_normal (wp_seq (sqr (sqp [.m 34 0] ?_))))
 refine sqk2 (fun A35_32 c35_32=> .agg #[vi ((vD (oD s)).1),vi ((vD (oD s)).2.1),vi ((vD (oD s)).2.2.1),vi ((vD (oD s)).2.2.2.1), .bool ((vD (oD s)).2.2.2.2.1), .slice A35_32 ((vD (oD s)).2.2.2.2.2.length) c35_32,vi ((eD (oD s)))]) (fun A35_32 c35_32=>eO 45 3 (.slice A35_32 ((vD (oD s)).2.2.2.2.2.length) c35_32) ((vD (oD s)).2.2.2.2.2.length) (flatR (vD (oD s)).2.2.2.2.2)) hst2 (fun cx=>⟨_,(r08read_desc _ hds).mono (by rintro e W1 ⟨A4,c4,rfl,ho,hx⟩; exact ⟨_, _,rfl,St.one hx (eO_new ho)⟩),(map1 (cx.ou 34))⟩) fun A35_32 c35_32 W32 hst32=>?_
 refine sqal #[vi 0,vi 0,vi 0,vi 0, .bool false, .slice none 0 0,vi 0] hst32 fun B10_33 W33 hst33=>?_
 refine sqst (n:=7) 3 #[vi ((vD (oD s)).1),vi ((vD (oD s)).2.1),vi ((vD (oD s)).2.2.1),vi ((vD (oD s)).2.2.2.1), .bool ((vD (oD s)).2.2.2.2.1), .slice A35_32 ((vD (oD s)).2.2.2.2.2.length) c35_32,vi ((eD (oD s)))] hst33 fun W34 hst34=>?_
 refine then_normal (wp_seq (sqr (sqp [.k 36 (vp B10_33), .k 37 (.pointer (some ⟨B10_33,2,none⟩))] ?_)))
 refine sqlb 3 2 hst34 ?_
 refine sqal #[vi 0,vi 0] hst34 fun B11_38 W38 hst38=>?_
 refine sqst (n:=2) 4 #[vi ((vD (oD s)).2.2.1),vi ((vD (oD s)).2.2.2.1)] hst38 fun W39 hst39=>?_
 refine then_normal (wp_seq (wp_seq ?_))
 obtain ⟨sl,hN_sl⟩:∃ z,(vD (oD s)).2.2.2.1=z:=⟨_,rfl⟩
 rw [hN_sl] at hst39 ⊢
 rw [hN_sl] at hbd
 obtain ⟨zY,rfl⟩:∃ zY:Nat,sl=(zY:Int):=⟨sl.toNat,by omega⟩
 refine sqr (sqp [.k 39 (.pointer (some ⟨B10_33,6,none⟩))] ?_)
 refine sqld 3 hst39 ?_
 refine sqp [.k 41 (.bool ((eD (oD s)) != 0)), .m 42 41] ?_
 refine sqw' 42 [43,44,45,46] ?_ rfl (fun hq=>?_) ?_
 rotate_left
 ·refine sqp [.k 43 (vp B11_38)] ?_
  refine sqld 4 hst39 ?_
  refine sqp [.m 45 1, .k 46 (.bool (((vD (oD s)).2.2.1) != n))] ?_
  exact sqe
 refine sqwx ?_
 refine sqp [sPo 47 ((eD (oD s)) != 0) (((vD (oD s)).2.2.1) != n), .m 48 47] ?_
 refine sqw' 48 [49,50,51,52,53] ?_ rfl (fun hq=>?_) ?_
 rotate_left
 ·have hq_:=hq
  try simp only [zB] at hq_
  refine sqp [.k 49 (.pointer (some ⟨B11_38,1,none⟩))] ?_
  refine sqld 4 hst39 ?_
  refine sql (.pointer (some ⟨B6_1,zY,none⟩)) hst39 (fun cx=>run_indexArrB (n:=24) (sz:=1) (m:=zY) (q:=zY) rfl (by kernel_rfl) (cx.ou 6) (cx.ou 50) (by omega) (by omega) (by omega)) ?_
  refine sql (.string ((wasB v (zY:Int)))) hst39 (fun cx=>run_load1 rfl (by kernel_rfl) (cx.ou 51) (((cx.bi 0 rfl).cell zY).trans ((List.getElem?_toArray ..).trans (str_nw (by omega))))) ?_
  refine sqp [.k 53 (.bool (((wasB v (zY:Int))).toList==((⟨#[]⟩:ByteArray)).toList))] ?_
  exact sqe
 refine sqwx ?_
 refine sqp [sPo 54 (((eD (oD s)) != 0)||(((vD (oD s)).2.2.1) != n)) (((wasB v (zY:Int))).toList==((⟨#[]⟩:ByteArray)).toList), .m 55 54] ?_
 refine sqw' 55 [56,57,58,59,60] ?_ rfl (fun hq=>?_) ?_
 rotate_left
 ·have hq_:=hq
  try simp only [zB] at hq_
  refine sqp [.k 56 (.pointer (some ⟨B11_38,1,none⟩))] ?_
  refine sqld 4 hst39 ?_
  refine sql (.pointer (some ⟨B7_2,zY,none⟩)) hst39 (fun cx=>run_indexArrB (n:=24) (sz:=1) (m:=zY) (q:=zY) rfl (by kernel_rfl) (cx.ou 7) (cx.ou 57) (by omega) (by omega) (by omega)) ?_
  refine sql (.string ((itA m v (zY:Int)))) hst39 (fun cx=>run_load1 rfl (by kernel_rfl) (cx.ou 58) (((cx.bi 1 rfl).cell zY).trans ((List.getElem?_toArray ..).trans (str_nw (by omega))))) ?_
  refine sqp [.k 60 (.bool (!(((itA m v (zY:Int))).toList==((⟨#[]⟩:ByteArray)).toList)))] ?_
  exact sqe
 refine sqwx ?_
 refine sqp [sPo 61 ((((eD (oD s)) != 0)||(((vD (oD s)).2.2.1) != n))||(((wasB v (zY:Int))).toList==((⟨#[]⟩:ByteArray)).toList)) (!(((itA m v (zY:Int))).toList==((⟨#[]⟩:ByteArray)).toList))] ?_
 refine then_normal (wbs (fun hs63=>?_) fun hs63=>?_)
 ·have hs63p:=hs63
  simp only [zB] at hs63p
  refine wp_seq (sqr (sqp [.m 62 0, .m 8 62] ?_))
  refine then_normal (wp_ret (then_ret ?_))
  refine bpr (.string s) (results_1 Tryz.results145 rpt) ?_
  exact Ret.of (by rw [lsG,if_neg (by omega),hN_sl,if_neg (fun hc=>by have h_:=hs63; rw [c4.2 hc] at h_; cases h_)]) hst39.ext
 have hs63p:=hs63
 simp only [zB] at hs63p
 obtain ⟨⟨⟨hs63p1,hs63p2⟩,hs63p3⟩,hs63p4⟩:=hs63p
 refine wp_skip (then_normal (wp_seq (sqr (sqk (.agg #[vi (-1),vi 0]) hst39 (fun cx=>⟨_,rnone9_any _,map0⟩) fun W66 hst66=>?_))))
 refine sqp [.k 64 (vp B10_33), .k 65 (.pointer (some ⟨B10_33,2,none⟩))] ?_
 refine sqst (n:=2) 3 #[vi ((vD (oD s)).1),vi ((vD (oD s)).2.1),vi (-1),vi 0, .bool ((vD (oD s)).2.2.2.2.1), .slice A35_32 ((vD (oD s)).2.2.2.2.2.length) c35_32,vi ((eD (oD s)))] hst66 fun W69 hst69=>?_
 refine then_normal (wp_seq (sqr (sqp [.k 66 (vp B10_33)] ?_)))
 refine sqlb 3 6 hst69 ?_
 refine sqk (.string ((txD (cutV (vD (oD s)))))) hst69 (fun cx=>⟨_,r08bytes_any ((vD (oD s)).1) ((vD (oD s)).2.1) (-1) 0 ((vD (oD s)).2.2.2.2.1) _ _ (vD (oD s)).2.2.2.2.2 _ (At.of_ownN (cx.ri 2 rfl)) (by omega),(map1 (cx.ou 67))⟩) fun W72 hst72=>?_
 refine sqp [.m 8 68] ?_
 refine then_normal (wp_ret ?_)
 refine bpr (.string ((txD (cutV (vD (oD s)))))) (results_1 Tryz.results145 rpt) ?_
 exact Ret.of (by rw [lsG,if_neg (by omega),hN_sl,if_pos (c4.1 hs63)]) hst72.ext
theorem rloose_c {m:MpD} {v:PV} (hg:GoodM v m) (hwf:v.wf) (j n:Int) (w:World):Calls Tryz.prog 145 #[.string (itA m v j), .int .i64 n, .agg ((wsL v).map Value.string).toArray, .agg ((nwG (wasB v) m).map Value.string).toArray] w (Ret (.string (itC m v n j)) w):=by
 have h:=rloose_any (itA m v j) n v m w (oD_desc (itA_desc hwf hg.desc j))
 rw [lsR_eq,ls_eq hg] at h
 exact h
theorem redits_any (n:Int) (v:PV) (m:MpD) (w:World) (hg:GoodM v m) (hwf:v.wf):
  Calls Tryz.prog 80 #[.int .i64 n, .agg ((wsL v).map Value.string).toArray, .agg ((nwG (wasB v) m).map Value.string).toArray] w (ChPost (edL m v n 23) n w):=by
 go_enter Tryz.func80,Tryz.ntmps80
 have hst0:=St.start w
 refine wp_seq (sqr ?_)
 refine sqn1 (fun x_=>pb x_) (fun B4_1=>vp B4_1) (fun B4_1=>eB B4_1 151 ((wsL v).map Value.string).toArray) hst0 (by
   refine svA fun ρ β W X cx=>?_
   exact dv_box (cs:=((wsL v).map Value.string).toArray) rfl (cx.ou 1) rfl rfl rfl (fun σ β' X' hs hb hv hx=>⟨hv,hx⟩)) fun B4_1 W1 hst1=>?_
 refine sqn1 (fun x_=>pb x_) (fun B5_2=>vp B5_2) (fun B5_2=>eB B5_2 151 ((nwG (wasB v) m).map Value.string).toArray) hst1 (by
   refine svA fun ρ β W X cx=>?_
   exact dv_box (cs:=((nwG (wasB v) m).map Value.string).toArray) rfl (cx.ou 2) rfl rfl rfl (fun σ β' X' hs hb hv hx=>⟨hv,hx⟩)) fun B5_2 W2 hst2=>?_
 refine sqp [.k 6 (.slice none 0 0)] ?_
 refine then_normal (wp_seq (sqr ?_))
 refine sqli 49 3 0 [] hst2 (@fun ρ β W X cx=>by simp [go_sem]) fun B10_4 W4 hst4=>?_
 refine sqp [.m 7 10] ?_
 refine then_normal (wp_seq (wp_seq (sqr (sqp [.k 8 (vi 1)] ?_))))
 refine then_normal (wp_block ?_)
 refine wp_loopT (fun t_ mz az W=>∃ k:Nat,∃ OA:Option Addr,∃ OC:Nat,∃ om:Nat,k≤23∧om=(edL m v n k).length∧mz=23 - k∧az=⟨(ovr (jv az) [(7,7,0,[.slice OA om OC,vi (((k:Int)+1))]),(0,9,1,[]),(1,11,23,[])] t_).toArray,[]⟩∧St w [] [eB B4_1 151 ((wsL v).map Value.string).toArray,eB B5_2 151 ((nwG (wasB v) m).map Value.string).toArray,eO 49 3 (.slice OA om OC) om ((edL m v n k).flatMap (cellsEd n))] W) (23 - 0) ?_ ?_
 · -- the loop begins
   exact ⟨0,(some ⟨B10_4,0,none⟩),0,0,by omega,rfl,rfl,(by kernel_rfl),hst4.pk [0,1,2]⟩
 rintro n7 a7 W7 ⟨k,OA,OC,om,hk,hom,rfl,hj_,hst7⟩
 refine ovz hj_ fun u7_=>?_
 have hol:=ed_len m v n k
 rw [← hom] at hol
 refine wp_seq (wp_seq (sqr (sqp [.m 11 8, .k 12 (.bool (decide (((k:Int)+1) < 24)))] ?_)))
 refine then_normal (wds (fun hs10 hs10p=>?_) fun hs10 hs10p=>?_)
 ·refine wp_skip (then_normal (wp_seq (wp_block (wp_seq (wp_region_Z [0,1,3,0,0,0,63,127] [[],[],[1],[],[0],[1]] [.k 15 (vi (((k:Int)+1))), .c 16 (.pointer (some ⟨B5_2,(((k:Int)+1)).toNat,none⟩)), .c 17 (.string ((itA m v ((((k:Int)+1)).toNat:Int)))), .k 18 (vi n), .c 19 (.agg ((wsL v).map Value.string).toArray), .c 20 (.agg ((nwG (wasB v) m).map Value.string).toArray), .c 21 (.string ((itC m v n ((k:Int)+1)))), .k 9 (.string ((itC m v n ((k:Int)+1))))] [0,1,2] [1,2,4,5,6] [(9,7,1,10),(5,0,7,12)] hst7 ?_ fun W11 hst11=>?_)))))
  ·refine ⟨?_,?_,?_,?_,?_,trivial⟩
   ·exact xs4 rfl id fun cx=>run_indexArrB (n:=24) (sz:=1) (m:=(((k:Int)+1)).toNat) (q:=(((k:Int)+1)).toNat) rfl (by kernel_rfl) (cx.ou 5) (cx.an 0) (by omega) (by omega) (by omega)
   ·exact xs4 rfl id fun cx=>run_load1 rfl (by kernel_rfl) (cx.an 1) (((cx.bi 1 rfl).cell ((((k:Int)+1)).toNat)).trans ((List.getElem?_toArray ..).trans (str_nw (by omega))))
   ·exact xs4 rfl id fun cx=>run_loadAr (n:=24) rfl (by kernel_rfl) (by kernel_rfl) (cx.ou 4) (cx.bi 0 rfl) (by simp [wsL,nwG_len])
   ·exact xs4 rfl id fun cx=>run_loadAr (n:=24) rfl (by kernel_rfl) (by kernel_rfl) (cx.ou 5) (cx.bi 1 rfl) (by simp [wsL,nwG_len])
   ·exact xsc rfl id rfl rfl fun cx=>⟨_,rloose_c hg hwf ((k:Int)+1) n _,(map4 (cx.an 2) (cx.an 3) (cx.an 4) (cx.an 5))⟩
  refine then_normal (wp_seq (sqr (sqp [.m 22 9, .m 23 8] ?_)))
  refine sql (.pointer (some ⟨B4_1,(((k:Int)+1)).toNat,none⟩)) hst11 (fun cx=>run_indexArrB (n:=24) (sz:=1) (m:=(((k:Int)+1)).toNat) (q:=(((k:Int)+1)).toNat) rfl (by kernel_rfl) (cx.ou 4) (cx.ou 23) (by omega) (by omega) (by omega)) ?_
  refine sql (.string ((wasB v ((((k:Int)+1)).toNat:Int)))) hst11 (fun cx=>run_load1 rfl (by kernel_rfl) (cx.ou 24) (((cx.bi 0 rfl).cell ((((k:Int)+1)).toNat)).trans ((List.getElem?_toArray ..).trans (str_nw (by omega))))) ?_
  refine sqp [.k 26 (.bool (!(((itC m v n ((k:Int)+1))).toList==((wasB v ((((k:Int)+1)).toNat:Int))).toList)))] ?_
  refine then_normal ?_
  rcases Bool.eq_false_or_eq_true (((itC m v n ((k:Int)+1))).toList==((wasB v ((((k:Int)+1)).toNat:Int))).toList) with hs17 | hs17
  ·refine wp_cond_false (show Act.eval _ _= .bool false from (congrArg Value.bool (by rw [hs17]; rfl))) (wp_skip (blk_normal (then_normal (sqr (sqp [.m 13 8,sI 14 (((k:Int)+1)+1) (by omega), .m 8 14] ?_)))))
   refine then_normal ?_
   rw [← ed_same2 hs17] at hst11
   refine ⟨23 - ((k+1)),by omega,?_⟩
   exact ⟨(k+1),OA,OC,om,by omega,by rw [ed_same2 hs17]; exact hom,rfl,(by kernel_rfl),hst11.pk [0,1,2]⟩
  refine wp_cond_true (show Act.eval _ _= .bool true from (congrArg Value.bool (by rw [hs17]; rfl))) (sqr (sqp [.m 27 7, .m 28 0, .m 29 8, .m 30 9, .k 31 (.agg #[vi n,vi (((k:Int)+1)), .string ((itC m v n ((k:Int)+1)))])] ?_))
  refine sqli 49 3 1 (cellsEd n (((k:Int)+1),(itC m v n ((k:Int)+1)))) hst11 (@fun ρ β W X cx=>by have fF31:ρ (.tmp 31)= .agg #[vi n,vi (((k:Int)+1)), .string ((itC m v n ((k:Int)+1)))]:=(cx.ou 31); simp [go_sem,fF31,cellsEd]) fun B32_26 W26 hst26=>?_
  refine sqap (om+1) ((edL m v n k++[(((k:Int)+1),(itC m v n ((k:Int)+1)))]).flatMap (cellsEd n)) 2 hst26 Tryz.infoEdit (fun cx=>(At.of_ownN (cx.ri 3 rfl))) (h1:=by simp [cellsEd,Value.oneCell']) (hxs:=ed_snoc2 _ _ _) fun A33_27 c33_27 W27 hst27=>?_
  refine sqp [.m 7 33] ?_
  refine blk_normal (then_normal (sqr (sqp [.m 13 8,sI 14 (((k:Int)+1)+1) (by omega), .m 8 14] ?_)))
  refine then_normal ?_
  rw [← ed_new2 hs17] at hst27
  refine ⟨23 - ((k+1)),by omega,?_⟩
  exact ⟨(k+1),A33_27,c33_27,(om+1),by omega,by rw [ed_new2 hs17,List.length_append,← hom]; rfl,rfl,(by kernel_rfl),hst27.pk [0,1,2]⟩
 refine wp_exit (then_exit (then_exit (blk_eq (then_normal (wp_seq (sqr (sqp [.m 34 7, .m 6 34] ?_)))))))
 refine then_normal (wp_ret ?_)
 refine bpr (.slice OA om OC) (results_1 Tryz.results80 rpt) ?_
 obtain rfl:k=23:=by omega
 have ho_:=hst7.own' 2 rfl
 unfold ChPost
 rw [← hom]
 exact ⟨_, _,rfl,ho_,hst7.ext⟩
end
section
open Go.RowKit
def StayPost (LA:Option Addr) (kl:List FK) (n:Int) (q:List NV) (w:World) (e:Ending) (w':World):Prop:=∃ A c,∃ ss:List FK,∃ fp:List Nat,e= .returned (.slice A q.length c)∧ss.map Prod.fst=q∧(∀ k∈ss,k∈kl)∧Ext w w'∧At w' A (ss.flatMap (cellsF n))∧
 (∀ k∈fp,w.heap.size≤k∧k < w'.heap.size)∧(∀ ad,A=some ad→ad.block∈fp∨∃ ld,LA=some ld∧ld.block=ad.block)
def flK (p:NV→Bool) (kl:List FK) (j:Nat):List FK:=(kl.take j).filter fun k=>!(p k.1)
theorem fl_yes {p:NV→Bool} {kl:List FK} {j:Nat} {k:FK} (h:kl[j]? =some k) (hp:p k.1=false):flK p kl (j+1)=flK p kl j++[k]:=by
 rw [flK,List.take_add_one,h,Option.toList,List.filter_append,List.filter_cons_of_pos (by rw [hp]; rfl)]; rfl
theorem fl_no {p:NV→Bool} {kl:List FK} {j:Nat} {k:FK} (h:kl[j]? =some k) (hp:p k.1=true):flK p kl (j+1)=flK p kl j:=by
 rw [flK,List.take_add_one,h,Option.toList,List.filter_append,List.filter_cons_of_neg (by rw [hp]; decide),List.filter_nil,List.append_nil]; rfl
theorem fl_all {p:NV→Bool} {kl:List FK} {j:Nat} (h:kl.length≤j):(flK p kl j).map Prod.fst=stsL p (kl.map Prod.fst):=by
 rw [flK,List.take_of_length_le h]; exact filt_fst rfl
theorem fl_sub {p:NV→Bool} {kl:List FK} {j:Nat}:∀ k∈flK p kl j,k∈kl:=fun k hk=>List.mem_of_mem_take (List.mem_filter.1 hk).1
theorem fl_snoc (l:List FK) (n:Int) (k:FK):l.flatMap (cellsF n)++cellsF n k=(l++[k]).flatMap (cellsF n):=by simp
theorem stayR_out {p:NV→Bool} {red:Bool} {l:List NV} (h:¬ ((stsL p l).length=0∧0 < l.length)):stayR p red l=stsL p l:=by
 rw [stayR]
 split
 ·rename_i h0
  have hl:l=[]:=List.eq_nil_of_length_eq_zero (by omega)
  subst hl
  split<;>rfl
 ·rfl
theorem stayR_in {p:NV→Bool} {red:Bool} {l:List NV} (h:(stsL p l).length=0):stayR p red l=if red then l.drop (l.length - 1) else l.take 1:=by rw [stayR,if_pos h]
theorem stay_new {w W:World} {t:TypeId} {LA A:Option Addr} {kl ss:List FK} {n:Int} {q:List NV} {c:Nat} (hx:Ext w W) (hq:ss.map Prod.fst=q) (hs:∀ k∈ss,k∈kl) (ho:W.ownsRow w.heap.size t 8 (.slice A ss.length c) ss.length (ss.flatMap (cellsF n))):StayPost LA kl n q w (.returned (.slice A ss.length c)) W:=by
 have h1:=eO_new (W:=w) ho
 have hl:q.length=ss.length:=by rw [← hq,List.length_map]
 refine ⟨A,c,ss,(Value.ownBlock (.slice A ss.length c)).toList,by rw [hl],hq,hs,hx,At.of_ownN h1.1,h1.2.2,fun ad e=> .inl ?_⟩
 rcases ho.2 with ⟨hv, _⟩ | ⟨g,cap,cur,hv, _⟩
 ·injection hv with h2; rw [e] at h2; cases h2
 ·injection hv with h2 h3 h4
  rw [e] at h2
  injection h2 with h2
  subst e
  simp [Value.ownBlock]
theorem stay_old {w W:World} {LA A:Option Addr} {kl ss:List FK} {n:Int} {q:List NV} {m c:Nat} (hx:Ext w W) (hq:ss.map Prod.fst=q) (hm:m=q.length) (hs:∀ k∈ss,k∈kl) (hA:At w A (ss.flatMap (cellsF n))) (hb:∀ ad,A=some ad→∃ ld,LA=some ld∧ld.block=ad.block):StayPost LA kl n q w (.returned (.slice A m c)) W:=by
 subst hm
 exact ⟨A,c,ss,[],rfl,hq,hs,hx,hA.ext hx,(fun k hk=>by cases hk),fun ad e=> .inr (hb ad e)⟩
theorem blk_if {fc k:Nat} {LA:Option Addr} {z:Nat}:∀ ad,(if fc=k then LA else LA.map (·.add z))=some ad→∃ ld,LA=some ld∧ld.block=ad.block:=fun ad h=>by
 split at h
 ·exact ⟨ad,h,rfl⟩
 ·cases LA with
  | none=>cases h
  | some a=>injection h with h; exact ⟨a,rfl,by rw [← h,add_block]⟩
/-- a row of found versions, and what stays of it -/
def eLs (LA:Option Addr) (kl:List FK) (n:Int) (A:Option Addr) (q:List NV) (fp:List Nat):Ent:=⟨fp,fun W=>∃ ss:List FK,ss.map Prod.fst=q∧(∀ k∈ss,k∈kl)∧(∀ ad,LA=some ad→ad.block∈fp)∧(∀ ad,A=some ad→ad.block∈fp)∧At W LA (kl.flatMap (cellsF n))∧At W A (ss.flatMap (cellsF n))⟩
def eLo (LA:Option Addr) (kl:List FK) (n:Int) (A:Option Addr) (ss:List FK) (fp:List Nat):Ent:=⟨fp,fun W=>(∀ ad,LA=some ad→ad.block∈fp)∧(∀ ad,A=some ad→ad.block∈fp)∧At W LA (kl.flatMap (cellsF n))∧At W A (ss.flatMap (cellsF n))⟩
theorem at_local {W W':World} {A:Option Addr} {xs:List Value} {fp:List Nat} (h:∀ k∈fp,W'.heap[k]? =W.heap[k]?) (hA:∀ ad,A=some ad→ad.block∈fp) (hb:At W A xs):At W' A xs:=fun j u hj=>by
 obtain ⟨ad,e,hl,hc⟩:=hb j u hj
 have h1:=h ad.block (hA ad e)
 refine ⟨ad,e,?_,?_⟩
 ·rw [Array.getElem?_eq_getElem hl] at h1
  exact (Array.getElem?_eq_some_iff.1 h1).1
 ·unfold World.cell? at hc ⊢
  rw [add_block] at hc ⊢
  rw [h1]; exact hc
theorem eLo_loc {LA:Option Addr} {kl:List FK} {n:Int} {A:Option Addr} {ss:List FK} {fp:List Nat}:(eLo LA kl n A ss fp).loc:=fun W W' h hb=>
 ⟨hb.1,hb.2.1,at_local h hb.1 hb.2.2.1,at_local h hb.2.1 hb.2.2.2⟩
theorem eLs_loc {LA:Option Addr} {kl:List FK} {n:Int} {A:Option Addr} {q:List NV} {fp:List Nat}:(eLs LA kl n A q fp).loc:=fun W W' h hb=>by
 obtain ⟨ss,h1,h2,h3,h4,h5,h6⟩:=hb
 exact ⟨ss,h1,h2,h3,h4,at_local h h3 h5,at_local h h4 h6⟩
theorem eLs_self {e:Ent} {LA:Option Addr} {kl:List FK} {n:Int} {A:Option Addr} {q:List NV} {fp:List Nat} (h:e=eLs LA kl n A q fp):e=eLs LA kl n A q e.fp:=by subst h; rfl
theorem St.openLs {w0 W:World} {bor:List Nat} {L1 L2:List Ent} {LA:Option Addr} {kl:List FK} {n:Int} {A:Option Addr} {q:List NV} {fp:List Nat} (h:St w0 bor (L1++eLs LA kl n A q fp::L2) W):∃ ss:List FK,ss.map Prod.fst=q∧(∀ k∈ss,k∈kl)∧St w0 bor (L1++eLo LA kl n A ss fp::L2) W:=by
 obtain ⟨ss,h1,h2,h3,h4,h5,h6⟩:=(h.ok (eLs LA kl n A q fp) (by simp)).holds
 exact ⟨ss,h1,h2,St.repl h rfl (fun _=>⟨h3,h4,h5,h6⟩) eLo_loc⟩
theorem eLo_l {LA:Option Addr} {kl:List FK} {n:Int} {A:Option Addr} {ss:List FK} {fp:List Nat} {W:World} (h:(eLo LA kl n A ss fp).holds W):At W LA (kl.flatMap (cellsF n)):=h.2.2.1
theorem eLo_s {LA:Option Addr} {kl:List FK} {n:Int} {A:Option Addr} {ss:List FK} {fp:List Nat} {W:World} (h:(eLo LA kl n A ss fp).holds W):At W A (ss.flatMap (cellsF n)):=h.2.2.2
theorem own_blk8 {W:World} {t m lc:Nat} {LA:Option Addr} {xs:List Value} (h:W.ownsRow 0 t 8 (.slice LA m lc) m xs):∀ ad,LA=some ad→ad.block∈(Value.ownBlock (.slice LA m lc)).toList:=fun ad e=>by
 rcases h.2 with ⟨hv, _⟩ | ⟨g,cap,cur,hv, _⟩
 ·injection hv with h2; rw [e] at h2; cases h2
 ·subst e; simp [Value.ownBlock]
section
variable {P:Program} {ops:Array Oper} {L:List Nat} {a0:Act} {w0:World} {bor:List Nat} {X0:List Ent} {us cr kl:List (List Nat)}
 {D:Nat→(Tmp→Value)→(Tmp→Value)→(Nat→Ent)→Prop} {i:Nat} {o:Oper} {ρ:Operand→Value} {β:Tmp→Value} {W:World} {X:Nat→Ent}
/-- a callee that leaves one entry behind, on the blocks of a killed one and on new ones -/
theorem post_chgN {v:Value} {W':World} {q q':Nat} {E E':Ent} (hX:X q=E) (hc:atV cr i=[q']) (hk:atV kl i=[q]) (hu:Ext W W') (hh:E'.holds W') (hl:E'.loc) (hf:∀ k∈E'.fp,(k∈E.fp∨W.heap.size≤k)∧k < W'.heap.size)
  (hD:∀ (σ β':Tmp→Value) (X':Nat→Ent),(∀ t,o.dst≠some t→σ t=ρ (.tmp t))→(∀ t,o.dst≠some t→β' t=β t)→(∀ d,o.dst=some d→σ d=v∧β' d=v)→X' q'=E'→D i σ β' X'):PostV cr kl D i o.dst ρ β W X v W':=by
 subst hX
 refine ⟨[E'],by rw [hc]; rfl,⟨?_,fun e he=>?_,List.pairwise_singleton _ _⟩,fun σ β' X' hs' hv hb' hbv hx' hN=>hD σ β' X' hs' hb' (fun d hd=>⟨hv d hd,hbv d hd⟩) ?_⟩
 ·have h1:=hu.to_upd
  exact ⟨h1.os,h1.tape,h1.output,h1.size,fun k hk' _=>h1.block k hk' (by simp)⟩
 ·rw [List.mem_singleton] at he
  subst he
  refine ⟨hh,hl,fun k hk'=>⟨?_,(hf k hk').2⟩⟩
  rw [hk]
  rcases (hf k hk').1 with h2 | h2
  ·exact .inl (by simpa using h2)
  ·exact .inr h2
 ·rw [hc] at hN
  exact (List.cons.inj hN).1
end
theorem rstay_any (LA:Option Addr) (lc:Nat) (n hz:Int) (kl:List FK) (red:Bool) (T:List Int) (g:Int→Int) (w:World) (hL:At w LA (kl.flatMap (cellsF n))) (hlc:kl.length≤lc) (hl:kl.length≤24) (hT:T.length=128) (hg:∀ x,tabF T x=g x):
  Calls Tryz.prog 74 #[.slice LA kl.length lc, .bool red, .int .i64 hz, .agg (T.map (Value.int .i64)).toArray] w (StayPost LA kl n (stayR (dP g hz) red (kl.map Prod.fst)) w):=by
 go_enter Tryz.func74,Tryz.ntmps74
 have hst0:=St.start w
 refine wp_seq (sqr ?_)
 refine sqn1 (fun x_=>pb x_) (fun B7_1=>vp B7_1) (fun B7_1=>eB B7_1 34 (T.map (Value.int .i64)).toArray) hst0 (by
   refine svA fun ρ β W X cx=>?_
   exact dv_box (cs:=(T.map (Value.int .i64)).toArray) rfl (cx.ou 3) rfl rfl rfl (fun σ β' X' hs hb hv hx=>⟨hv,hx⟩)) fun B7_1 W1 hst1=>?_
 refine sqp [.k 8 (.slice none 0 0)] ?_
 refine then_normal (wp_seq (sqr ?_))
 refine sqli 147 8 0 [] hst1 (@fun ρ β W X cx=>by simp [go_sem]) fun B11_3 W3 hst3=>?_
 refine sqp [.m 9 11] ?_
 refine then_normal (wp_seq (wp_seq (sqr (sqp [.k 10 (vi 0)] ?_))))
 refine then_normal (wp_block ?_)
 refine wp_loopT (fun t_ mz az W=>∃ j:Nat,∃ m:Nat,∃ OA:Option Addr,∃ OC:Nat,j≤kl.length∧m=(flK (dP g hz) kl j).length∧m≤j∧mz=kl.length - j∧az=⟨(ovr (jv az) [(9,9,0,[.slice OA m OC,vi ((j:Int))]),(1,12,22,[])] t_).toArray,[]⟩∧St w [] [eB B7_1 34 (T.map (Value.int .i64)).toArray,eO 147 8 (.slice OA m OC) m ((flK (dP g hz) kl j).flatMap (cellsF n))] W) (kl.length - 0) ?_ ?_
 · -- the loop begins
   exact ⟨0,0,(some ⟨B11_3,0,none⟩),0,Nat.zero_le _,rfl,by omega,rfl,(by kernel_rfl),hst3.pk [0,1]⟩
 rintro n6 a6 W6 ⟨j,m,OA,OC,hj,hm,hmj,rfl,hj_,hst6⟩
 refine ovz hj_ fun u6_=>?_
 refine wp_seq (wp_seq (sqr (sqp [.m 12 10, .m 13 0, .k 14 (vi ((kl.length:Int))), .k 15 (.bool (decide ((j:Int) < (kl.length:Int))))] ?_)))
 refine then_normal (wds (fun hs11 hs11p=>?_) fun hs11 hs11p=>?_)
 ·refine wp_skip (then_normal (wp_seq (wp_block (wp_seq ?_))))
  obtain ⟨fx,fA,fC,hkfj⟩:=getF (ks:=kl) (k:=j) (by omega)
  refine wp_region_Z [0,0,3,7,15,0,0,127,255] [[],[],[],[],[],[],[0]] [.k 18 (.slice LA kl.length lc), .k 19 (vi ((j:Int))), .c 20 (.pointer (some ((ad LA).add (j*8)))), .c 21 (.pointer (some ((ad LA).add (j*8+2)))), .c 22 (.agg #[vi fx.2.1,vi fx.2.2.1,vi fx.2.2.2.1,vi fx.2.2.2.2.1, .bool fx.2.2.2.2.2.1, .slice fA fx.2.2.2.2.2.2.length fC]), .k 23 (vi hz), .c 24 (.agg (T.map (Value.int .i64)).toArray), .c 25 (.bool (deadF g hz fx.2.1 fx.2.2.1)), .k 26 (.bool (!(deadF g hz fx.2.1 fx.2.2.1)))] [0,1] [2,3,4,6,7] [(18,0,9,27)] hst6 ?_ fun W12 hst12=>?_
  ·refine ⟨?_,?_,?_,?_,?_,trivial⟩
   ·exact xs4 rfl id fun cx=>run_indexSlM (e:=147) (m:=j) (sz:=8) rfl (by kernel_rfl) (by kernel_rfl) (cx.an 0) (cx.an 1) (by omega) (by omega) (hL.ext cx.upd.to_ext) (flatPos (sz:=8) (cellsF_len n) (by decide) (by omega))
   ·exact xs4 rfl id fun cx=>run_fieldAd rfl (by kernel_rfl) (cx.an 2)
   ·exact xs4 rfl id fun cx=>run_loadElt (f:=(cellsF n)) (m:=j) (sz:=8) (off:=2) (n:=6) rfl (by kernel_rfl) (by kernel_rfl) (cx.an 3) rfl (cellsF_len n) (hL.ext cx.upd.to_ext) hkfj (fun k hk=>match k,hk with | 0, _=>rfl | 1, _=>rfl | 2, _=>rfl | 3, _=>rfl | 4, _=>rfl | 5, _=>rfl | k+6,hk=>absurd hk (by omega))
   ·exact xs4 rfl id fun cx=>run_loadAr (n:=128) rfl (by kernel_rfl) (by kernel_rfl) (cx.ou 7) (cx.bi 0 rfl) (by simp [hT])
   ·exact xsc rfl id rfl rfl fun cx=>⟨_,rdead_any hz T g fx.2.1 fx.2.2.1 fx.2.2.2.1 fx.2.2.2.2.1 fx.2.2.2.2.2.1 _ _ _ _ hT hg,(map3 (cx.an 4) (cx.an 5) (cx.an 6))⟩
  refine then_normal ?_
  rcases Bool.eq_false_or_eq_true (deadF g hz fx.2.1 fx.2.2.1) with hs13 | hs13
  ·refine wp_cond_false (show Act.eval _ _= .bool false from (congrArg Value.bool (by rw [hs13]; rfl))) (wp_skip (blk_normal (then_normal (sqr (sqp [.m 16 10,sI 17 ((j:Int)+1) (by omega), .m 10 17] ?_)))))
   refine then_normal ?_
   rw [← fl_no (p:=dP g hz) hkfj hs13] at hst12
   refine ⟨kl.length - ((j+1)),by omega,?_⟩
   exact ⟨(j+1),m,OA,OC,by omega,by rw [fl_no hkfj hs13]; exact hm,by omega,rfl,(by kernel_rfl),hst12.pk [0,1]⟩
  refine wp_cond_true (show Act.eval _ _= .bool true from (congrArg Value.bool (by rw [hs13]; rfl))) (sqr (sqp [.m 27 9, .m 28 0, .m 29 10] ?_))
  refine sql (.pointer (some ((ad LA).add (j*8)))) hst12 (fun cx=>run_indexSlM (e:=147) (m:=j) (sz:=8) rfl (by kernel_rfl) (by kernel_rfl) (cx.ou 28) (cx.ou 29) (by omega) (by omega) (hL.ext cx.upd.to_ext) (flatPos (sz:=8) (cellsF_len n) (by decide) (by omega))) ?_
  refine sql (.agg #[vi n,vi ((fx.1:Int)),vi fx.2.1,vi fx.2.2.1,vi fx.2.2.2.1,vi fx.2.2.2.2.1, .bool fx.2.2.2.2.2.1, .slice fA fx.2.2.2.2.2.2.length fC]) hst12 (fun cx=>run_loadElt (f:=(cellsF n)) (m:=j) (sz:=8) (off:=0) (n:=8) rfl (by kernel_rfl) (by kernel_rfl) (cx.ou 30) rfl (cellsF_len n) (hL.ext cx.upd.to_ext) hkfj (fun k hk=>match k,hk with | 0, _=>rfl | 1, _=>rfl | 2, _=>rfl | 3, _=>rfl | 4, _=>rfl | 5, _=>rfl | 6, _=>rfl | 7, _=>rfl | k+8,hk=>absurd hk (by omega))) ?_
  refine sqli 147 8 1 (cellsF n (fx,fA,fC)) hst12 (@fun ρ β W X cx=>by have fF31:ρ (.tmp 31)= .agg #[vi n,vi ((fx.1:Int)),vi fx.2.1,vi fx.2.2.1,vi fx.2.2.2.1,vi fx.2.2.2.2.1, .bool fx.2.2.2.2.2.1, .slice fA fx.2.2.2.2.2.2.length fC]:=(cx.ou 31); simp [go_sem,fF31,cellsF]) fun B32_22 W22 hst22=>?_
  refine sqap (m+1) (((flK (dP g hz) kl j)++[(fx,fA,fC)]).flatMap (cellsF n)) 1 hst22 Tryz.infoRFnd (fun cx=>(At.of_ownN (cx.ri 2 rfl))) (h1:=by simp [cellsF,Value.oneCell']) (hxs:=fl_snoc _ _ _) fun A33_23 c33_23 W23 hst23=>?_
  refine sqp [.m 9 33] ?_
  refine blk_normal (then_normal (sqr (sqp [.m 16 10,sI 17 ((j:Int)+1) (by omega), .m 10 17] ?_)))
  refine then_normal ?_
  rw [← fl_yes (p:=dP g hz) hkfj hs13] at hst23
  refine ⟨kl.length - ((j+1)),by omega,?_⟩
  exact ⟨(j+1),(m+1),A33_23,c33_23,by omega,by rw [fl_yes hkfj hs13,List.length_append,← hm]; rfl,by omega,rfl,(by kernel_rfl),hst23.pk [0,1]⟩
 refine wp_exit (then_exit (then_exit (blk_eq (then_normal (wp_seq (wp_seq (sqr (sqp [.m 34 9, .k 35 (vi ((m:Int))), .k 36 (.bool ((m:Int)==0)), .m 37 36] ?_))))))))
 refine sqw 37 [38,39,40] rfl (fun _=>sqp [.m 38 0, .k 39 (vi ((kl.length:Int))), .k 40 (.bool (decide (0 < (kl.length:Int))))] sqe) ?_
 refine sqp [sPa 41 ((m:Int)==0) (decide (0 < (kl.length:Int)))] ?_
 refine then_normal (wbs (fun hs36=>?_) fun hs36=>?_)
 ·have hs36p:=hs36
  simp only [zB] at hs36p
  obtain ⟨hs36p1,hs36p2⟩:=hs36p
  refine wp_seq (wp_seq (sqr (sqp [.m 42 1] ?_)))
  refine then_normal (wbs (fun hs38=>?_) fun hs38=>?_)
  ·refine wp_seq (sqr (sqp [.m 43 0, .m 44 0, .k 45 (vi ((kl.length:Int))),sI 46 ((kl.length:Int) - 1) (by omega)] ?_))
   refine sql (.slice ((if lc=((kl.length:Int) - 1).toNat then LA else LA.map (·.add (((kl.length:Int) - 1).toNat*8)))) ((kl.length - ((kl.length:Int) - 1).toNat)) ((lc - ((kl.length:Int) - 1).toNat))) hst6 (fun cx=>run_sliceL_lo (e:=147) (sz:=8) (l:=((kl.length:Int) - 1).toNat) rfl (by kernel_rfl) (by kernel_rfl) (cx.ou 43) (cx.ou 46) (by omega) (by omega)) ?_
   refine sqp [.m 8 47] ?_
   refine then_normal (wp_ret (then_ret (then_ret ?_)))
   refine bpr (.slice ((if lc=((kl.length:Int) - 1).toNat then LA else LA.map (·.add (((kl.length:Int) - 1).toNat*8)))) ((kl.length - ((kl.length:Int) - 1).toNat)) ((lc - ((kl.length:Int) - 1).toNat))) (results_1 Tryz.results74 rpt) ?_
   have hfa_:=fl_all (p:=dP g hz) (kl:=kl) (j:=j) (by omega)
   have hml_:m=(stsL (dP g hz) (kl.map Prod.fst)).length:=by rw [← hfa_,List.length_map,hm]
   have hll_:(kl.map Prod.fst).length=kl.length:=List.length_map ..
   have hc_:m=0∧0 < kl.length:=by have h_:=hs36; rw [Bool.and_eq_true,beq_iff_eq,decide_eq_true_eq] at h_; omega
   rw [stayR_in (by omega)]
   rw [hs38,if_pos rfl,hll_]
   have hkk_:((kl.length:Int) - 1).toNat=kl.length - 1:=by omega
   rw [hkk_]
   exact stay_old (ss:=kl.drop (kl.length - 1)) hst6.ext (by rw [List.map_drop]) (by rw [List.length_drop,List.length_map]) (fun k hk=>List.mem_of_mem_drop hk) (at_dropF hL _ (by omega) hlc) blk_if
  refine wp_skip (then_normal (wp_seq (sqr (sqp [.m 48 0] ?_))))
  refine sql (.slice LA 1 lc) hst6 (fun cx=>run_sliceL_hi (e:=147) (sz:=8) (m:=1) rfl (by kernel_rfl) (by kernel_rfl) (cx.ou 48) (cx.co _) (by omega) (by omega)) ?_
  refine sqp [.m 8 49] ?_
  refine then_normal (wp_ret (then_ret ?_))
  refine bpr (.slice LA 1 lc) (results_1 Tryz.results74 rpt) ?_
  have hfa_:=fl_all (p:=dP g hz) (kl:=kl) (j:=j) (by omega)
  have hml_:m=(stsL (dP g hz) (kl.map Prod.fst)).length:=by rw [← hfa_,List.length_map,hm]
  have hll_:(kl.map Prod.fst).length=kl.length:=List.length_map ..
  have hc_:m=0∧0 < kl.length:=by have h_:=hs36; rw [Bool.and_eq_true,beq_iff_eq,decide_eq_true_eq] at h_; omega
  rw [stayR_in (by omega)]
  rw [hs38,if_neg (by decide)]
  exact stay_old (ss:=kl.take 1) hst6.ext (by rw [List.map_take]) (by rw [List.length_take,List.length_map]; omega) (fun k hk=>List.mem_of_mem_take hk) (at_takeF hL 1) (fun ad e_=>⟨ad,e_,rfl⟩)
 have hs36p:=hs36
 simp only [zB] at hs36p
 refine wp_skip (then_normal (wp_seq (sqr (sqp [.m 50 9, .m 8 50] ?_))))
 refine then_normal (wp_ret ?_)
 refine bpr (.slice OA m OC) (results_1 Tryz.results74 rpt) ?_
 have hfa_:=fl_all (p:=dP g hz) (kl:=kl) (j:=j) (by omega)
 have hml_:m=(stsL (dP g hz) (kl.map Prod.fst)).length:=by rw [← hfa_,List.length_map,hm]
 have hll_:(kl.map Prod.fst).length=kl.length:=List.length_map ..
 rw [stayR_out (by rintro ⟨a_,b_⟩; have h_:=hs36; rw [Bool.and_eq_false_iff,beq_eq_false_iff_ne,decide_eq_false_iff_not] at h_; omega)]
 have ho_:=hst6.own' 1 rfl
 rw [hm] at ho_ ⊢
 exact stay_new hst6.ext hfa_ fl_sub ho_
end
section
open Go.RowKit
theorem tk_nw {tk:Int→Bool} {k:Nat} (h:k < 24):((tkA tk).map Value.bool)[k]? =some (.bool (tk (k:Int))):=by
 rw [List.getElem?_map,List.getElem?_eq_getElem (by rw [tkA_len]; exact h)]
 simp [tkA]
theorem set_tk {tk:Int→Bool} {k:Nat} (h:k < 24):((tkA tk).map Value.bool).set k (.bool true)=(tkA fun y=>if y=(k:Int) then true else tk y).map Value.bool:=by rw [← tkA_set _ h,List.map_set]
theorem cut_stop {tk:Int→Bool} {l:List NV} {k:Nat} {x:NV} (hk:k≤(cutT tk l).length) (hx:l[k]? =some x) (h:tk (x.1:Int)=true):k=(cutT tk l).length:=by
 rcases Nat.lt_or_ge k (cutT tk l).length with h1 | h1
 ·have h2:=tw_in (fun x:NV=>!(tk (x.1:Int))) l k x h1 hx
  rw [h] at h2; cases h2
 ·omega
theorem cut_go {tk:Int→Bool} {l:List NV} {k:Nat} {x:NV} (hk:k≤(cutT tk l).length) (hx:l[k]? =some x) (h:tk (x.1:Int)=false):k+1≤(cutT tk l).length:=by
 rcases Nat.lt_or_ge k (cutT tk l).length with h1 | h1
 ·exact h1
 ·obtain rfl:k=(cutT tk l).length:=by omega
  have h2:=tw_stop (fun x:NV=>!(tk (x.1:Int))) l x hx
  rw [h] at h2; cases h2
theorem take_snoc {ks:List FK} {n:Int} {k:Nat} {x:FK} (h:ks[k]? =some x):(ks.take k).flatMap (cellsF n)++cellsF n x=(ks.take (k+1)).flatMap (cellsF n):=by
 rw [List.take_add_one,h,Option.toList,List.flatMap_append]; simp
theorem stay_eq {LA:Option Addr} {kl:List FK} {n:Int} {q q':List NV} (h:q=q') {f:Nat} {args:Array Value} {w:World} (hc:Calls Tryz.prog f args w (StayPost LA kl n q w)):Calls Tryz.prog f args w (StayPost LA kl n q' w):=h ▸ hc
theorem stay_n {LA:Option Addr} {m lc:Nat} {n hz:Int} {kl:List FK} {red:Bool} {T:List Int} {g:Int→Int} {w:World} (hm:m=kl.length) (hL:At w LA (kl.flatMap (cellsF n))) (hlc:m≤lc) (hl:m≤24) (hT:T.length=128) (hg:∀ x,tabF T x=g x):Calls Tryz.prog 74 #[.slice LA m lc, .bool red, .int .i64 hz, .agg (T.map (Value.int .i64)).toArray] w (StayPost LA kl n (stayR (dP g hz) red (kl.map Prod.fst)) w):=by
 subst hm; exact rstay_any LA lc n hz kl red T g w hL hlc hl hT hg
theorem stay_nil (p:NV→Bool) (r:Nat):stayL p r []=[]:=by
 rw [stayL]
 split
 ·rw [oneL]; split<;>rfl
 ·rfl
theorem stay_pos {p:NV→Bool} {r:Nat} {l:List NV} (h:0 < l.length):0 < (stayL p r l).length:=by
 rw [stayL]
 split
 ·rw [oneL]
  split
  ·rw [List.length_take]; omega
  ·rw [List.length_drop]; omega
 ·omega
theorem stay_le {p:NV→Bool} {r:Nat} {l:List NV}:(stayL p r l).length≤l.length:=by
 rw [stayL]
 split
 ·rw [oneL]
  split
  ·rw [List.length_take]; omega
  ·rw [List.length_drop]; omega
 ·exact sts_le
theorem eLs_new {W W':World} {t m lc:Nat} {LA A:Option Addr} {kl ss:List FK} {n:Int} {q:List NV} {fp:List Nat} (hO:W.ownsRow 0 t 8 (.slice LA m lc) m (kl.flatMap (cellsF n))) (hx:Ext W W') (hq:ss.map Prod.fst=q) (hs:∀ k∈ss,k∈kl) (hA:At W' A (ss.flatMap (cellsF n))) (hb:∀ ad,A=some ad→ad.block∈fp∨∃ ld,LA=some ld∧ld.block=ad.block):(eLs LA kl n A q ((Value.ownBlock (.slice LA m lc)).toList++fp)).holds W':=
 ⟨ss,hq,hs,fun ad e=>List.mem_append_left _ (own_blk8 hO ad e),fun ad e=>(by
  rcases hb ad e with h | ⟨ld,h1,h2⟩
  ·exact List.mem_append_right _ h
  ·rw [← h2]; exact List.mem_append_left _ (own_blk8 hO ld h1)),(At.of_ownN hO).ext hx,hA⟩
theorem eLs_fp {W W':World} {t m lc:Nat} {LA:Option Addr} {xs:List Value} {fp:List Nat} (hO:W.ownsRow 0 t 8 (.slice LA m lc) m xs) (hx:Ext W W') (hf:∀ k∈fp,W.heap.size≤k∧k < W'.heap.size):∀ k∈(Value.ownBlock (.slice LA m lc)).toList++fp,(k∈(eO t 8 (.slice LA m lc) m xs).fp∨W.heap.size≤k)∧k < W'.heap.size:=fun k hk=>by
 rcases List.mem_append.1 hk with h | h
 ·refine ⟨.inl h,?_⟩
  have:=own0_block hO k (by simpa using h)
  have:=hx.size
  omega
 ·exact ⟨.inr (hf k h).1,(hf k h).2⟩
theorem ref_1 {p:NV→Bool} {g:Int→Int} {n:Int} {r:Nat} {l:List NV} {m:MpD} (h:(stayL p r l).length=l.length):mrgM m (shF p g n r l)=m:=by rw [mrg_ref,refM,if_pos h]
theorem ref_2 {p:NV→Bool} {g:Int→Int} {n:Int} {r:Nat} {l:List NV} {m:MpD} {lx ox:NV} {ss:List FK} (h:(stayL p r l).length≠l.length) (hss:ss.map Prod.fst=stayL p r l) (hl:l.getD (l.length - 1) nv0=lx) (ho:(stayL p r l)[0]? =some ox) (h3:(ox.1:Int)=(r:Int)):mrgM m (shF p g n r l)=stM g n lx (ss.map Prod.fst) (blkG l m l.length) (stayL p r l).length:=by
 have e:((stayL p r l).getD 0 nv0).1=r:=by rw [List.getD_eq_getElem?_getD,ho]; show ox.1=r; omega
 rw [mrg_ref,refM,if_neg h,if_pos e,hl,hss]
theorem ref_3 {p:NV→Bool} {g:Int→Int} {n:Int} {r:Nat} {l:List NV} {m:MpD} {lx ox:NV} {ss:List FK} (h:(stayL p r l).length≠l.length) (hss:ss.map Prod.fst=stayL p r l) (hl:l.getD (l.length - 1) nv0=lx) (ho:(stayL p r l)[0]? =some ox) (h3:¬ (ox.1:Int)=(r:Int)):mrgM m (shF p g n r l)=putM (stM g n lx (ss.map Prod.fst) (blkG l m l.length) (stayL p r l).length) (r:Int) (some (strOfNums [0,(ox.1:Int)])):=by
 have e:(stayL p r l).getD 0 nv0=ox:=by rw [List.getD_eq_getElem?_getD,ho]; rfl
 rw [mrg_ref,refM,if_neg h,if_neg (by rw [e]; omega),hl,hss,e]
theorem cond_eq {n a b:Int}:(n==n&&a==b)=true↔a=b:=by simp
theorem rprune_any (PA:Option Addr) (pc:Nat) (Ps:List PgD) (n hz:Int) (T:List Int) (g:Int→Int) (w:World) (hP:PgsAt w PA Ps) (hT:T.length=128) (hg:∀ x,tabF T x=g x):
  Calls Tryz.prog 18 #[.agg #[.slice PA Ps.length pc], .int .i64 n, .int .i64 hz, .agg (T.map (Value.int .i64)).toArray] w (ChPost (edL (pruM (dP g hz) g n (pvF Ps n)) (pvF Ps n) n 23) n w):=by
 have hwf:=hP.wf n
 have hrl:=rt_le (pvF Ps n) 24
 go_enter Tryz.func18,Tryz.ntmps18
 have hst0:=St.start w
 refine wp_seq (sqr ?_)
 refine sqbx #[.slice PA Ps.length pc] hst0 fun B4_1 W1 hst1=>?_
 refine sqn1 (fun x_=>pb x_) (fun B7_2=>vp B7_2) (fun B7_2=>eB B7_2 34 (T.map (Value.int .i64)).toArray) hst1 (by
   refine svA fun ρ β W X cx=>?_
   exact dv_box (cs:=(T.map (Value.int .i64)).toArray) rfl (cx.ou 3) rfl rfl rfl (fun σ β' X' hs hb hv hx=>⟨hv,hx⟩)) fun B7_2 W2 hst2=>?_
 refine sqp [.k 8 (.slice none 0 0)] ?_
 refine then_normal (wp_seq (sqr ?_))
 refine sqlb 0 1 hst2 ?_
 refine sqp [.m 26 1] ?_
 refine sqk (.agg ((wsL (pvF Ps n)).map Value.string).toArray) hst2 (fun cx=>⟨_,ritems_any _ _ Ps n _ (hP.ext cx.upd.to_ext),(map2 (cx.ou 25) (cx.ou 26))⟩) fun W6 hst6=>?_
 refine sqn1 (fun x_=>pb x_) (fun B9_7=>vp B9_7) (fun B9_7=>eB B9_7 151 ((nwG (fun _=>(⟨#[]⟩:ByteArray)) (fun _=>none)).map Value.string).toArray) hst6 (by
   refine svA fun ρ β W X cx=>?_
   exact dv_alloc (cs:=((nwG (fun _=>(⟨#[]⟩:ByteArray)) (fun _=>none)).map Value.string).toArray) rfl (by kernel_rfl) rfl rfl (fun σ β' X' hs hb hv hx=>⟨hv,hx⟩)) fun B9_7 W7 hst7=>?_
 refine sqc (eB B9_7 151 ((wsL (pvF Ps n)).map Value.string).toArray) 2 hst7 (by
   refine svA fun ρ β W X cx=>?_
   exact dv_storeL (n:=24) rfl (cx.ou 9) (show _=Value.agg ((wsL (pvF Ps n)).map Value.string).toArray from (cx.ou 27)) (by kernel_rfl) (by simp [wsL,nwG_len,tkA_len,hT]) (by simp [wsL,nwG_len,tkA_len,hT]) (str_one _) cx (cx.init 2 _ rfl) rfl rfl rfl rfl (fun σ β' X' hs hb hx=>hx)) fun W8 hst8=>?_
 refine then_normal (wp_seq (sqr ?_))
 refine sql (.agg ((wsL (pvF Ps n)).map Value.string).toArray) hst8 (fun cx=>run_loadAr (n:=24) rfl (by kernel_rfl) (by kernel_rfl) (cx.ou 9) (cx.bi 2 rfl) (by simp [wsL,nwG_len,tkA_len,hT])) ?_
 refine sqn1 (fun x_=>pb x_) (fun B10_10=>vp B10_10) (fun B10_10=>eB B10_10 151 ((nwG (fun _=>(⟨#[]⟩:ByteArray)) (fun _=>none)).map Value.string).toArray) hst8 (by
   refine svA fun ρ β W X cx=>?_
   exact dv_alloc (cs:=((nwG (fun _=>(⟨#[]⟩:ByteArray)) (fun _=>none)).map Value.string).toArray) rfl (by kernel_rfl) rfl rfl (fun σ β' X' hs hb hv hx=>⟨hv,hx⟩)) fun B10_10 W10 hst10=>?_
 refine sqc (eB B10_10 151 ((wsL (pvF Ps n)).map Value.string).toArray) 3 hst10 (by
   refine svA fun ρ β W X cx=>?_
   exact dv_storeL (n:=24) rfl (cx.ou 10) (show _=Value.agg ((wsL (pvF Ps n)).map Value.string).toArray from (cx.ou 28)) (by kernel_rfl) (by simp [wsL,nwG_len,tkA_len,hT]) (by simp [wsL,nwG_len,tkA_len,hT]) (str_one _) cx (cx.init 3 _ rfl) rfl rfl rfl rfl (fun σ β' X' hs hb hx=>hx)) fun W11 hst11=>?_
 refine then_normal (wp_seq (sqr (sqp [.k 29 (.agg #[.bool false, .bool false, .bool false, .bool false, .bool false, .bool false, .bool false, .bool false, .bool false, .bool false, .bool false, .bool false, .bool false, .bool false, .bool false, .bool false, .bool false, .bool false, .bool false, .bool false, .bool false, .bool false, .bool false, .bool false])] ?_)))
 refine sqn1 (fun x_=>pb x_) (fun B11_13=>vp B11_13) (fun B11_13=>eB B11_13 153 ((tkA (fun _=>false)).map Value.bool).toArray) hst11 (by
   refine svA fun ρ β W X cx=>?_
   exact dv_alloc (cs:=((tkA (fun _=>false)).map Value.bool).toArray) rfl (by kernel_rfl) rfl rfl (fun σ β' X' hs hb hv hx=>⟨hv,hx⟩)) fun B11_13 W13 hst13=>?_
 refine sqc (eB B11_13 153 ((tkA (fun _=>false)).map Value.bool).toArray) 4 hst13 (by
   refine svA fun ρ β W X cx=>?_
   exact dv_store (n:=24) (cs:=((tkA (fun _=>false)).map Value.bool).toArray) (cs':=((tkA (fun _=>false)).map Value.bool).toArray) rfl (cx.ou 11) (show _=Value.agg #[.bool false, .bool false, .bool false, .bool false, .bool false, .bool false, .bool false, .bool false, .bool false, .bool false, .bool false, .bool false, .bool false, .bool false, .bool false, .bool false, .bool false, .bool false, .bool false, .bool false, .bool false, .bool false, .bool false, .bool false] from (cx.ou 29)) (by kernel_rfl) (by kernel_rfl) (by kernel_rfl) cx (cx.init 4 _ rfl) rfl (Nat.le_of_ble_eq_true (by kernel_rfl)) ((by kernel_rfl)) rfl rfl rfl (fun σ β' X' hs hb hx=>hx)) fun W14 hst14=>?_
 refine then_normal (wp_seq (sqr ?_))
 refine sqlb 0 1 hst14 ?_
 refine sqp [.m 31 1] ?_
 refine sqk2 (fun A32_17 c32_17=> .slice A32_17 ((rtL (pvF Ps n) 24).length) c32_17) (fun A32_17 c32_17=>eO 24 2 (.slice A32_17 ((rtL (pvF Ps n) 24).length) c32_17) ((rtL (pvF Ps n) 24).length) ((rtL (pvF Ps n) 24).flatMap (cellsR n))) hst14 (fun cx=>⟨_,(rroots_any _ _ Ps n _ (hP.ext cx.upd.to_ext)).mono (by rintro e W1 ⟨A4,c4,rfl,ho_,hx⟩; exact ⟨_, _,rfl,St.one hx (eO_new (n:=(rtL (pvF Ps n) 24).length) (xs:=(rtL (pvF Ps n) 24).flatMap (cellsR n)) ho_)⟩),(map2 (cx.ou 30) (cx.ou 31))⟩) fun A32_17 c32_17 W17 hst17=>?_
 refine sqp [.m 12 32] ?_
 refine then_normal (wp_seq (wp_seq (sqr (sqp [.k 13 (vi 0)] ?_))))
 refine then_normal (wp_block ?_)
 refine wp_loopT (fun t_ mz az W=>∃ i:Nat,i≤(rtL (pvF Ps n) 24).length∧mz=(rtL (pvF Ps n) 24).length - i∧az=⟨(ovr (jv az) [(13,13,0,[vi ((i:Int))]),(0,14,8,[]),(11,33,160,[])] t_).toArray,[]⟩∧St w [] [eB B4_1 30 #[.slice PA Ps.length pc],eB B7_2 34 (T.map (Value.int .i64)).toArray,eB B9_7 151 ((wsL (pvF Ps n)).map Value.string).toArray,eB B10_10 151 ((nwG (wasB (pvF Ps n)) (prL (dP g hz) g n (pvF Ps n) i).2).map Value.string).toArray,eB B11_13 153 ((tkA (prL (dP g hz) g n (pvF Ps n) i).1).map Value.bool).toArray,eO 24 2 (.slice A32_17 ((rtL (pvF Ps n) 24).length) c32_17) ((rtL (pvF Ps n) 24).length) ((rtL (pvF Ps n) 24).flatMap (cellsR n))] W) ((rtL (pvF Ps n) 24).length - 0) ?_ ?_
 · -- the loop begins
   exact ⟨0,Nat.zero_le _,rfl,(by kernel_rfl),hst17.pk [0,1,2,3,4,5]⟩
 rintro n20 a20 W20 ⟨i,hi,rfl,hj_,hst20⟩
 refine ovz hj_ fun u20_=>?_
 refine wp_seq (wp_seq (sqr (sqp [.m 33 13, .m 34 12, .k 35 (vi (((rtL (pvF Ps n) 24).length:Int))), .k 36 (.bool (decide ((i:Int) < ((rtL (pvF Ps n) 24).length:Int))))] ?_)))
 refine then_normal (wds (fun hs25 hs25p=>?_) fun hs25 hs25p=>?_)
 ·refine wp_skip (then_normal (wp_seq (wp_block (wp_seq (sqr ?_)))))
  refine sqli 147 8 0 [] hst20 (@fun ρ β W X cx=>by simp [go_sem]) fun B39_26 W26 hst26=>?_
  refine sqp [.m 14 39] ?_
  refine then_normal (wp_seq ?_)
  obtain ⟨rr,hrr,hrr0,hrr1⟩:=rt_get (v:=(pvF Ps n)) (i:=i) (by omega)
  refine wp_region_Y [0,0,0,6,14,31,63] [[0],[],[],[5],[5]] [[],[],[],[],[],[7]] [] [.c 40 (.agg #[.slice PA Ps.length pc]), .k 41 (.slice A32_17 ((rtL (pvF Ps n) 24).length) c32_17), .k 42 (vi ((i:Int))), .c 43 (.pointer (some ((ad A32_17).add (i*2)))), .c 44 (.agg #[vi n,vi ((rr:Int))]), .a 45, .a 15] (fun ix σ β X=>match ix with | 0=>True | 1=>True | 2=>True | 3=>True | 4=>True | 5=>σ 45= .slice (sA (β 45)) ((chF (pvF Ps n) n (rr:Int)).length) (sC (β 45))∧X 7=eFk 147 (.slice (sA (β 45)) ((chF (pvF Ps n) n (rr:Int)).length) (sC (β 45))) (chF (pvF Ps n) n (rr:Int)) n ((X 7).fp) | 6=>σ 15= .slice (sA (β 45)) ((chF (pvF Ps n) n (rr:Int)).length) (sC (β 45)) | _=>True) [0,1,2,3,4,5,6,7] [0,3,4,5,6] [(15,6,1,16),(24,0,6,30)] hst26 ?_ ?_ ?_
  ·exact fun ix _ _ _ _ _ _ hs hb hx h=>match ix,h with
   | 5,h=>by dsimp only; rw [← hs 45 rfl,← hb 45 rfl,← hx 7 rfl]; exact h
   | 6,h=>by dsimp only; rw [← hs 15 rfl,← hb 45 rfl]; exact h
   | 0, _ | 1, _ | 2, _ | 3, _ | 4, _ | _+7, _=>trivial
  ·refine ⟨?_,?_,?_,?_,?_,trivial⟩
   ·exact xs4 rfl id fun cx=>run_loadB (n:=1) rfl (by kernel_rfl) (by kernel_rfl) (cx.ou 4) (cx.bi 0 rfl) (nle rfl) rfl
   ·exact xs4 rfl id fun cx=>run_indexSlM (e:=24) (m:=i) (sz:=2) rfl (by kernel_rfl) (by kernel_rfl) (cx.an 1) (cx.an 2) (by omega) (by omega) (At.of_ownN (cx.ri 5 rfl)) (flatPos (sz:=2) (cellsR_len n) (by decide) (by omega))
   ·exact xs4 rfl id fun cx=>run_loadElt (f:=(cellsR n)) (m:=i) (sz:=2) (off:=0) (n:=2) rfl (by kernel_rfl) (by kernel_rfl) (cx.an 3) rfl (cellsR_len n) (At.of_ownN (cx.ri 5 rfl)) hrr (fun k hk=>match k,hk with | 0, _=>rfl | 1, _=>rfl | k+2,hk=>absurd hk (by omega))
   ·refine svA fun ρ β W X cx=>?_
    refine DoesU.call (run_callF (args:=#[.agg #[.slice PA Ps.length pc], .agg #[vi n,vi ((rr:Int))]]) rfl cx.sees rfl (by kernel_rfl) (map2 (cx.an 0) (cx.an 4))) ?_
    refine (rchain_any _ _ Ps n (rr:Int) _ (hP.ext cx.upd.to_ext) (by omega)).mono ?_
    rintro e W1 ⟨A4,c4,fp4,rfl,hc⟩
    refine ⟨_,rfl,post_st [eFk 147 (.slice A4 (chF (pvF Ps n) n (rr:Int)).length c4) (chF (pvF Ps n) n (rr:Int)) n fp4] rfl rfl hc (fun σ β' X' hs hb hv hN=>?_)⟩
    have hv1:=(hv 45 rfl).1; have hv2:=(hv 45 rfl).2
    exact ⟨hv1.trans (by rw [hv2]; rfl),(by rw [hv2]; exact eFk_self ((List.cons.inj hN).1))⟩
   ·exact sv rfl rfl rfl rfl rfl _ (fun _ _ _ h=>h) (fun β β' h=>by rw [h 45 (by decide)]) fun ρ β W X cx=>run_assign' rfl (dTn (cx.an 5)).1
  intro σ β X W28 hD hst28 fr hfr
  obtain ⟨A45_28,hu_A45_28⟩:∃ z,sA (β 45)=z:=⟨_,rfl⟩
  obtain ⟨c45_28,hu_c45_28⟩:∃ z,sC (β 45)=z:=⟨_,rfl⟩
  have xX7:X 7= _:=(dTn (hD 5 lq)).2
  obtain ⟨r7_28,hu_r7_28⟩:∃ z,(X 7).fp=z:=⟨_,rfl⟩
  rw [hu_r7_28] at xX7
  clear hu_r7_28
  simp only [xX7,hu_A45_28,hu_c45_28] at hst28
  simp only [ed 45 ((dTn (hD 5 lq)).1),ed 15 ((dTn (hD 6 lq))),hu_A45_28,hu_c45_28] at hfr
  clear hD xX7 hu_A45_28 hu_c45_28; subst hfr; clear σ β X
  refine then_normal ?_
  have hcl_:=chF_len (pvF Ps n) n (rr:Int)
  obtain ⟨ks,hks,hmO29⟩:=St.openFk (L1:=[eB B4_1 30 #[.slice PA Ps.length pc],eB B7_2 34 (T.map (Value.int .i64)).toArray,eB B9_7 151 ((wsL (pvF Ps n)).map Value.string).toArray,eB B10_10 151 ((nwG (wasB (pvF Ps n)) (prL (dP g hz) g n (pvF Ps n) i).2).map Value.string).toArray,eB B11_13 153 ((tkA (prL (dP g hz) g n (pvF Ps n) i).1).map Value.bool).toArray,eO 24 2 (.slice A32_17 ((rtL (pvF Ps n) 24).length) c32_17) ((rtL (pvF Ps n) 24).length) ((rtL (pvF Ps n) 24).flatMap (cellsR n)),eO 147 8 (.slice ((some ⟨B39_26,0,none⟩)) 0 0) 0 ([])]) (L2:=[]) hst28
  simp only [List.cons_append,List.nil_append] at hmO29
  have hksl:ks.length=(chF (pvF Ps n) n (rr:Int)).length:=by rw [← hks,List.length_map]
  have h24:∀ x∈(chF (pvF Ps n) n (rr:Int)),x.1 < 24:=fun x hx=>by have:=slot_of hwf (chF_mem hwf x hx); omega
  have hrw:∀ x∈(chF (pvF Ps n) n (rr:Int)),x.2.2.2.2.2.2.length≤6:=fun x hx=>row_le' hwf (chF_mem hwf x hx)
  have hcu_:=cut_le (prL (dP g hz) g n (pvF Ps n) i).1 (chF (pvF Ps n) n (rr:Int))
  have hnd_:=chF_nodup hwf n (rr:Int)
  refine wp_cutT (fun t_ az W=>∃ LA:Option Addr,∃ LC:Nat,True∧az=⟨(ovr (jv az) [(14,14,0,[.slice LA ((cutT (prL (dP g hz) g n (pvF Ps n) i).1 (chF (pvF Ps n) n (rr:Int))).length) LC]),(1,16,1,[]),(29,46,31,[])] t_).toArray,[]⟩∧St w [] [eB B4_1 30 #[.slice PA Ps.length pc],eB B7_2 34 (T.map (Value.int .i64)).toArray,eB B9_7 151 ((wsL (pvF Ps n)).map Value.string).toArray,eB B10_10 151 ((nwG (wasB (pvF Ps n)) (prL (dP g hz) g n (pvF Ps n) i).2).map Value.string).toArray,eB B11_13 153 ((tkA (tkM (chF (pvF Ps n) n (rr:Int)) (prL (dP g hz) g n (pvF Ps n) i).1 (cutT (prL (dP g hz) g n (pvF Ps n) i).1 (chF (pvF Ps n) n (rr:Int))).length)).map Value.bool).toArray,eO 24 2 (.slice A32_17 ((rtL (pvF Ps n) 24).length) c32_17) ((rtL (pvF Ps n) 24).length) ((rtL (pvF Ps n) 24).flatMap (cellsR n)),eO 147 8 (.slice LA ((cutT (prL (dP g hz) g n (pvF Ps n) i).1 (chF (pvF Ps n) n (rr:Int))).length) LC) ((cutT (prL (dP g hz) g n (pvF Ps n) i).1 (chF (pvF Ps n) n (rr:Int))).length) ((ks.take (cutT (prL (dP g hz) g n (pvF Ps n) i).1 (chF (pvF Ps n) n (rr:Int))).length).flatMap (cellsF n)),eFo 147 (.slice A45_28 ((chF (pvF Ps n) n (rr:Int)).length) c45_28) (chF (pvF Ps n) n (rr:Int)).length n ks] W) ?_ ?_
  ·refine wp_seq (sqr (sqp [.k 16 (vi 0)] ?_))
   refine then_normal (wp_block ?_)
   refine wp_loopT (fun t_ mz az W=>∃ kk:Nat,∃ LA:Option Addr,∃ LC:Nat,kk≤(cutT (prL (dP g hz) g n (pvF Ps n) i).1 (chF (pvF Ps n) n (rr:Int))).length∧mz=(chF (pvF Ps n) n (rr:Int)).length - kk∧az=⟨(ovr (jv az) [(14,14,0,[.slice LA kk LC]),(1,16,0,[vi ((kk:Int))]),(29,46,31,[])] t_).toArray,[]⟩∧St w [] [eB B4_1 30 #[.slice PA Ps.length pc],eB B7_2 34 (T.map (Value.int .i64)).toArray,eB B9_7 151 ((wsL (pvF Ps n)).map Value.string).toArray,eB B10_10 151 ((nwG (wasB (pvF Ps n)) (prL (dP g hz) g n (pvF Ps n) i).2).map Value.string).toArray,eB B11_13 153 ((tkA (tkM (chF (pvF Ps n) n (rr:Int)) (prL (dP g hz) g n (pvF Ps n) i).1 kk)).map Value.bool).toArray,eO 24 2 (.slice A32_17 ((rtL (pvF Ps n) 24).length) c32_17) ((rtL (pvF Ps n) 24).length) ((rtL (pvF Ps n) 24).flatMap (cellsR n)),eO 147 8 (.slice LA kk LC) kk ((ks.take kk).flatMap (cellsF n)),eFo 147 (.slice A45_28 ((chF (pvF Ps n) n (rr:Int)).length) c45_28) (chF (pvF Ps n) n (rr:Int)).length n ks] W) ((chF (pvF Ps n) n (rr:Int)).length - 0) ?_ ?_
   · -- the loop begins
     exact ⟨0,(some ⟨B39_26,0,none⟩),0,Nat.zero_le _,rfl,(by kernel_rfl),hmO29.pk [0,1,2,3,4,5,6,7]⟩
   rintro n32 a32 W32 ⟨kk,LA,LC,hkk,rfl,hj_,hst32⟩
   refine ovz hj_ fun u32_=>?_
   refine wp_seq (wp_seq ?_)
   rcases Nat.lt_or_ge kk (chF (pvF Ps n) n (rr:Int)).length with hlt_ | hge_
   ·obtain ⟨fx,fA,fC,hkfj,hfx⟩:=ks_get (j:=kk) hks hlt_
    have hfs:=h24 _ (List.mem_of_getElem? hfx)
    refine wp_region_Z [0,0,2,7,15,31,31,127,255,511,1023,2047,4095,8191,16383] [[],[],[],[],[],[],[],[7],[],[],[7],[],[4]] [.k 46 (vi ((kk:Int))), .k 47 (.slice A45_28 ((chF (pvF Ps n) n (rr:Int)).length) c45_28), .k 48 (vi (((chF (pvF Ps n) n (rr:Int)).length:Int))), .e 49 (.bool (decide ((kk:Int) < ((chF (pvF Ps n) n (rr:Int)).length:Int)))) (.bool true) (congrArg Value.bool (show (decide ((kk:Int) < ((chF (pvF Ps n) n (rr:Int)).length:Int)))=true from (decide_eq_true (by omega)))), .k 50 (.bool true), .k 51 (.slice A45_28 ((chF (pvF Ps n) n (rr:Int)).length) c45_28), .k 52 (vi ((kk:Int))), .c 53 (.pointer (some ((ad A45_28).add (kk*8)))), .c 54 (.pointer (some ((ad A45_28).add (kk*8+0)))), .c 55 (.pointer (some ((ad A45_28).add (kk*8+0+1)))), .c 56 (vi ((fx.1:Int))), .c 57 (.pointer (some ⟨B11_13,fx.1,none⟩)), .c 58 (.bool (((tkM (chF (pvF Ps n) n (rr:Int)) (prL (dP g hz) g n (pvF Ps n) i).1 kk) (fx.1:Int)))), .k 59 (.bool (!(((tkM (chF (pvF Ps n) n (rr:Int)) (prL (dP g hz) g n (pvF Ps n) i).1 kk) (fx.1:Int))))), .k 60 (.bool (!(((tkM (chF (pvF Ps n) n (rr:Int)) (prL (dP g hz) g n (pvF Ps n) i).1 kk) (fx.1:Int)))))] [0,1,2,3,4,5,6,7] [7,8,9,10,11,12] [(46,0,15,61)] hst32 ?_ fun W33 hst33=>?_
    ·refine ⟨?_,?_,?_,?_,?_,?_,trivial⟩
     ·exact xs5 rfl id (fun cx=>(cx.an 4)) fun cx=>run_indexSlM (e:=147) (m:=kk) (sz:=8) rfl (by kernel_rfl) (by kernel_rfl) (cx.an 5) (cx.an 6) (by omega) (by omega) (eFo_at (CtxV.holdE cx (cx.init 7 _ rfl) rfl)) (flatPos (sz:=8) (cellsF_len n) (by decide) (by omega))
     ·exact xs5 rfl id (fun cx=>(cx.an 4)) fun cx=>run_fieldAd rfl (by kernel_rfl) (cx.an 7)
     ·exact xs5 rfl id (fun cx=>(cx.an 4)) fun cx=>run_fieldAd rfl (by kernel_rfl) (cx.an 8)
     ·exact xs5 rfl id (fun cx=>(cx.an 4)) fun cx=>run_load1 rfl (by kernel_rfl) (cx.an 9) (At.eltc (f:=(cellsF n)) (k:=1) (cellsF_len n) (eFo_at (CtxV.holdE cx (cx.init 7 _ rfl) rfl)) hkfj rfl)
     ·exact xs5 rfl id (fun cx=>(cx.an 4)) fun cx=>run_indexArrB (n:=24) (sz:=1) (m:=fx.1) (q:=fx.1) rfl (by kernel_rfl) (cx.ou 11) (cx.an 10) (by omega) (by omega) (by omega)
     ·exact xs5 rfl id (fun cx=>(cx.an 4)) fun cx=>run_load1 rfl (by kernel_rfl) (cx.an 11) (((cx.bi 4 rfl).cell fx.1).trans ((List.getElem?_toArray ..).trans (tk_nw (by omega))))
    refine then_normal ?_
    rcases Bool.eq_false_or_eq_true (((tkM (chF (pvF Ps n) n (rr:Int)) (prL (dP g hz) g n (pvF Ps n) i).1 kk) (fx.1:Int))) with hs34 | hs34
    ·have hkn_:=hs34
     refine wp_cond_false (show Act.eval _ _= .bool false from (congrArg Value.bool (by rw [hs34]; rfl))) (wp_exit (then_exit (then_exit (blk_eq (then_normal ?_)))))
     have hke:kk=(cutT (prL (dP g hz) g n (pvF Ps n) i).1 (chF (pvF Ps n) n (rr:Int))).length:=cut_stop hkk hfx (by rw [← tkM_at (tk:=(prL (dP g hz) g n (pvF Ps n) i).1) hnd_ hfx kk (Nat.le_refl _)]; exact hkn_)
     subst hke
     exact ⟨LA,LC,trivial,(by kernel_rfl),hst33.pk [0,1,2,3,4,5,6,7]⟩
    have hkn_:=hs34
    refine wp_cond_true (show Act.eval _ _= .bool true from (congrArg Value.bool (by rw [hs34]; rfl))) (wp_skip (then_normal (wp_seq (wp_block (wp_seq (sqr (sqp [.m 63 15, .m 64 16] ?_)))))))
    refine sql (.pointer (some ((ad A45_28).add (kk*8)))) hst33 (fun cx=>run_indexSlM (e:=147) (m:=kk) (sz:=8) rfl (by kernel_rfl) (by kernel_rfl) (cx.ou 63) (cx.ou 64) (by omega) (by omega) (eFo_at (CtxV.holdE cx (cx.init 7 _ rfl) rfl)) (flatPos (sz:=8) (cellsF_len n) (by decide) (by omega))) ?_
    refine sql (.pointer (some ((ad A45_28).add (kk*8+0)))) hst33 (fun cx=>run_fieldAd rfl (by kernel_rfl) (cx.ou 65)) ?_
    refine sql (.pointer (some ((ad A45_28).add (kk*8+0+1)))) hst33 (fun cx=>run_fieldAd rfl (by kernel_rfl) (cx.ou 66)) ?_
    refine sql (vi ((fx.1:Int))) hst33 (fun cx=>run_load1 rfl (by kernel_rfl) (cx.ou 67) (At.eltc (f:=(cellsF n)) (k:=1) (cellsF_len n) (eFo_at (CtxV.holdE cx (cx.init 7 _ rfl) rfl)) hkfj rfl)) ?_
    refine sql (.pointer (some ⟨B11_13,fx.1,none⟩)) hst33 (fun cx=>run_indexArrB (n:=24) (sz:=1) (m:=fx.1) (q:=fx.1) rfl (by kernel_rfl) (cx.ou 11) (cx.ou 68) (by omega) (by omega) (by omega)) ?_
    refine sqc (eB B11_13 153 ((tkA (fun y=>if y=(fx.1:Int) then true else (tkM (chF (pvF Ps n) n (rr:Int)) (prL (dP g hz) g n (pvF Ps n) i).1 kk) y)).map Value.bool).toArray) 4 hst33 (by
      refine svA fun ρ β W X cx=>?_
      exact dv_storeAr (m:=fx.1) rfl (cx.ou 69) (cx.co _) (by kernel_rfl) rfl rfl cx (cx.init 4 _ rfl) rfl (by first | (rw [List.length_map,nwG_len]; omega) | (rw [List.length_map,tkA_len]; omega)) rfl (set_tk (by omega)) rfl rfl (fun σ β' X' hs hb hx=>hx)) fun W42 hst42=>?_
    refine then_normal (sqr (sqp [.m 70 14, .m 71 15, .m 72 16] ?_))
    refine sql (.pointer (some ((ad A45_28).add (kk*8)))) hst42 (fun cx=>run_indexSlM (e:=147) (m:=kk) (sz:=8) rfl (by kernel_rfl) (by kernel_rfl) (cx.ou 71) (cx.ou 72) (by omega) (by omega) (eFo_at (CtxV.holdE cx (cx.init 7 _ rfl) rfl)) (flatPos (sz:=8) (cellsF_len n) (by decide) (by omega))) ?_
    refine sql (.agg #[vi n,vi ((fx.1:Int)),vi fx.2.1,vi fx.2.2.1,vi fx.2.2.2.1,vi fx.2.2.2.2.1, .bool fx.2.2.2.2.2.1, .slice fA fx.2.2.2.2.2.2.length fC]) hst42 (fun cx=>run_loadElt (f:=(cellsF n)) (m:=kk) (sz:=8) (off:=0) (n:=8) rfl (by kernel_rfl) (by kernel_rfl) (cx.ou 73) rfl (cellsF_len n) (eFo_at (CtxV.holdE cx (cx.init 7 _ rfl) rfl)) hkfj (fun k hk=>match k,hk with | 0, _=>rfl | 1, _=>rfl | 2, _=>rfl | 3, _=>rfl | 4, _=>rfl | 5, _=>rfl | 6, _=>rfl | 7, _=>rfl | k+8,hk=>absurd hk (by omega))) ?_
    refine sqli 147 8 1 (cellsF n (fx,fA,fC)) hst42 (@fun ρ β W X cx=>by have fF74:ρ (.tmp 74)= .agg #[vi n,vi ((fx.1:Int)),vi fx.2.1,vi fx.2.2.1,vi fx.2.2.2.1,vi fx.2.2.2.2.1, .bool fx.2.2.2.2.2.1, .slice fA fx.2.2.2.2.2.2.length fC]:=(cx.ou 74); simp [go_sem,fF74,cellsF]) fun B75_48 W48 hst48=>?_
    refine sqap (kk+1) ((ks.take (kk+1)).flatMap (cellsF n)) 6 hst48 Tryz.infoRFnd (fun cx=>(At.of_ownN (cx.ri 8 rfl))) (h1:=by simp [cellsF,Value.oneCell']) (hxs:=take_snoc hkfj) fun A76_49 c76_49 W49 hst49=>?_
    refine sqp [.m 14 76] ?_
    refine blk_normal (then_normal (sqr (sqp [.m 61 16,sI 62 ((kk:Int)+1) (by omega), .m 16 62] ?_)))
    refine then_normal ?_
    rw [← tk_step hfx] at hst49
    refine ⟨(chF (pvF Ps n) n (rr:Int)).length - ((kk+1)),by omega,?_⟩
    exact ⟨(kk+1),A76_49,c76_49,cut_go hkk hfx (by rw [← tkM_at (tk:=(prL (dP g hz) g n (pvF Ps n) i).1) hnd_ hfx kk (Nat.le_refl _)]; exact hkn_),rfl,(by kernel_rfl),hst49.pk [0,1,2,3,4,5,6,7]⟩
   ·refine wp_region_P [0,0,2,7,15,31,31,127,255,511,1023,2047,4095,8191,16383] [.k 46 (vi ((kk:Int))), .k 47 (.slice A45_28 ((chF (pvF Ps n) n (rr:Int)).length) c45_28), .k 48 (vi (((chF (pvF Ps n) n (rr:Int)).length:Int))), .e 49 (.bool (decide ((kk:Int) < ((chF (pvF Ps n) n (rr:Int)).length:Int)))) (.bool false) (congrArg Value.bool (show (decide ((kk:Int) < ((chF (pvF Ps n) n (rr:Int)).length:Int)))=false from (decide_eq_false (by omega)))), .k 50 (.bool false), .u 51, .u 52, .u 53, .u 54, .u 55, .u 56, .u 57, .u 58, .u 59, .k 60 (.bool false)] [(46,0,15,61)] hst32 fun W54 hst54=>?_
    refine then_normal (wcf rfl (wp_exit (then_exit (then_exit (blk_eq (then_normal ?_))))))
    have hke:kk=(cutT (prL (dP g hz) g n (pvF Ps n) i).1 (chF (pvF Ps n) n (rr:Int))).length:=by omega
    subst hke
    exact ⟨LA,LC,trivial,(by kernel_rfl),hst54.pk [0,1,2,3,4,5,6,7]⟩
  rintro a30 W30 ⟨LA,LC, -,hj_,hst30⟩
  refine ovz hj_ fun u30_=>?_
  refine wp_seq (wp_region_Z [0,0,0,6,14,31,63,127] [[0],[],[],[5],[5]] [.c 77 (.agg #[.slice PA Ps.length pc]), .k 78 (.slice A32_17 ((rtL (pvF Ps n) 24).length) c32_17), .k 79 (vi ((i:Int))), .c 80 (.pointer (some ((ad A32_17).add (i*2)))), .c 81 (.agg #[vi n,vi ((rr:Int))]), .c 82 (vi ((rdF (pvF Ps n) (rr:Int)))), .k 83 (.bool (decide (0≤(rdF (pvF Ps n) (rr:Int))))), .k 17 (.bool (decide (0≤(rdF (pvF Ps n) (rr:Int)))))] [0,1,2,3,4,5,6,7] [0,3,4,5] [(17,7,1,18),(59,0,7,66)] hst30 ?_ fun W55 hst55=>?_)
  ·refine ⟨?_,?_,?_,?_,trivial⟩
   ·exact xs4 rfl id fun cx=>run_loadB (n:=1) rfl (by kernel_rfl) (by kernel_rfl) (cx.ou 4) (cx.bi 0 rfl) (nle rfl) rfl
   ·exact xs4 rfl id fun cx=>run_indexSlM (e:=24) (m:=i) (sz:=2) rfl (by kernel_rfl) (by kernel_rfl) (cx.an 1) (cx.an 2) (by omega) (by omega) (At.of_ownN (cx.ri 5 rfl)) (flatPos (sz:=2) (cellsR_len n) (by decide) (by omega))
   ·exact xs4 rfl id fun cx=>run_loadElt (f:=(cellsR n)) (m:=i) (sz:=2) (off:=0) (n:=2) rfl (by kernel_rfl) (by kernel_rfl) (cx.an 3) rfl (cellsR_len n) (At.of_ownN (cx.ri 5 rfl)) hrr (fun k hk=>match k,hk with | 0, _=>rfl | 1, _=>rfl | k+2,hk=>absurd hk (by omega))
   ·exact xsc rfl id rfl rfl fun cx=>⟨_,rredirect_any _ _ Ps n (rr:Int) _ (hP.ext cx.upd.to_ext),(map2 (cx.an 0) (cx.an 4))⟩
  refine then_normal (wp_seq ?_)
  have hlcap:(cutT (prL (dP g hz) g n (pvF Ps n) i).1 (chF (pvF Ps n) n (rr:Int))).length≤LC:=eown_capN (hst55.get 6 rfl).holds
  have hkt:(ks.take (cutT (prL (dP g hz) g n (pvF Ps n) i).1 (chF (pvF Ps n) n (rr:Int))).length).map Prod.fst=(cutT (prL (dP g hz) g n (pvF Ps n) i).1 (chF (pvF Ps n) n (rr:Int))):=by rw [List.map_take,hks,← cut_take]
  have hktl:(ks.take (cutT (prL (dP g hz) g n (pvF Ps n) i).1 (chF (pvF Ps n) n (rr:Int))).length).length=(cutT (prL (dP g hz) g n (pvF Ps n) i).1 (chF (pvF Ps n) n (rr:Int))).length:=by rw [List.length_take]; omega
  have hst24:=stay_le (p:=(dP g hz)) (r:=rr) (l:=(cutT (prL (dP g hz) g n (pvF Ps n) i).1 (chF (pvF Ps n) n (rr:Int))))
  have hste:stayR (dP g hz) (decide (0≤rdF (pvF Ps n) (rr:Int))) ((ks.take (cutT (prL (dP g hz) g n (pvF Ps n) i).1 (chF (pvF Ps n) n (rr:Int))).length).map Prod.fst)=(stayL (dP g hz) rr (cutT (prL (dP g hz) g n (pvF Ps n) i).1 (chF (pvF Ps n) n (rr:Int)))):=by rw [hkt]; exact stay_ref hwf
  refine sqr (sqp [.m 84 14, .m 85 17, .m 86 2] ?_)
  refine sql (.agg (T.map (Value.int .i64)).toArray) hst55 (fun cx=>run_loadAr (n:=128) rfl (by kernel_rfl) (by kernel_rfl) (cx.ou 7) (cx.bi 1 rfl) (by simp [wsL,nwG_len,tkA_len,hT])) ?_
  refine sqc2s (fun x_=>sA x_) (fun x_=>sC x_) (fun X_=>X_.fp) (fun A88_60 c88_60=> .slice A88_60 ((stayL (dP g hz) rr (cutT (prL (dP g hz) g n (pvF Ps n) i).1 (chF (pvF Ps n) n (rr:Int)))).length) c88_60) (fun A88_60 c88_60 r8_60=>eLs LA (ks.take (cutT (prL (dP g hz) g n (pvF Ps n) i).1 (chF (pvF Ps n) n (rr:Int))).length) n A88_60 (stayL (dP g hz) rr (cutT (prL (dP g hz) g n (pvF Ps n) i).1 (chF (pvF Ps n) n (rr:Int)))) r8_60) 6 hst55 (by
    refine svA fun ρ β W X cx=>?_
    refine DoesU.call (run_callF (args:=#[.slice LA ((cutT (prL (dP g hz) g n (pvF Ps n) i).1 (chF (pvF Ps n) n (rr:Int))).length) LC, .bool (decide (0≤(rdF (pvF Ps n) (rr:Int)))),vi hz, .agg (T.map (Value.int .i64)).toArray]) rfl cx.sees rfl (by kernel_rfl) (map4 (cx.ou 84) (cx.ou 85) (cx.ou 86) (cx.ou 87))) ?_
    refine (stay_eq hste (stay_n (kl:=(ks.take (cutT (prL (dP g hz) g n (pvF Ps n) i).1 (chF (pvF Ps n) n (rr:Int))).length)) (by rw [List.length_take]; omega) (At.of_ownN (cx.ri 6 rfl)) hlcap (by omega) hT hg)).mono ?_
    rintro e W1 ⟨A4,c4,ss4,fp4,rfl,hq4,hs4,hx,hA4,hf4,hb4⟩
    refine ⟨_,rfl,post_chgN (E:=eO 147 8 (.slice LA ((cutT (prL (dP g hz) g n (pvF Ps n) i).1 (chF (pvF Ps n) n (rr:Int))).length) LC) ((cutT (prL (dP g hz) g n (pvF Ps n) i).1 (chF (pvF Ps n) n (rr:Int))).length) ((ks.take (cutT (prL (dP g hz) g n (pvF Ps n) i).1 (chF (pvF Ps n) n (rr:Int))).length).flatMap (cellsF n))) (E':=eLs LA (ks.take (cutT (prL (dP g hz) g n (pvF Ps n) i).1 (chF (pvF Ps n) n (rr:Int))).length) n A4 (stayL (dP g hz) rr (cutT (prL (dP g hz) g n (pvF Ps n) i).1 (chF (pvF Ps n) n (rr:Int)))) ((Value.ownBlock (.slice LA (cutT (prL (dP g hz) g n (pvF Ps n) i).1 (chF (pvF Ps n) n (rr:Int))).length LC)).toList++fp4)) (cx.init 6 _ rfl) rfl rfl hx (eLs_new (cx.ri 6 rfl) hx hq4 hs4 hA4 hb4) eLs_loc (eLs_fp (cx.ri 6 rfl) hx hf4) (fun σ β' X' hs hb hv hx=>?_)⟩
    have hv1:=(hv 88 rfl).1; have hv2:=(hv 88 rfl).2
    exact ⟨hv1.trans (by rw [hv2]; rfl),by rw [hv2]; exact eLs_self (hx)⟩) fun A88_60 c88_60 r8_60 W60 hst60=>?_
  refine sqp [.m 18 88] ?_
  refine then_normal (wp_seq (wp_seq ?_))
  obtain ⟨ss,hssq,hssk,hmL62⟩:=St.openLs (L1:=[eB B4_1 30 #[.slice PA Ps.length pc],eB B7_2 34 (T.map (Value.int .i64)).toArray,eB B9_7 151 ((wsL (pvF Ps n)).map Value.string).toArray,eB B10_10 151 ((nwG (wasB (pvF Ps n)) (prL (dP g hz) g n (pvF Ps n) i).2).map Value.string).toArray,eB B11_13 153 ((tkA (tkM (chF (pvF Ps n) n (rr:Int)) (prL (dP g hz) g n (pvF Ps n) i).1 (cutT (prL (dP g hz) g n (pvF Ps n) i).1 (chF (pvF Ps n) n (rr:Int))).length)).map Value.bool).toArray,eO 24 2 (.slice A32_17 ((rtL (pvF Ps n) 24).length) c32_17) ((rtL (pvF Ps n) 24).length) ((rtL (pvF Ps n) 24).flatMap (cellsR n))]) (L2:=[eFo 147 (.slice A45_28 ((chF (pvF Ps n) n (rr:Int)).length) c45_28) (chF (pvF Ps n) n (rr:Int)).length n ks]) hst60
  simp only [List.cons_append,List.nil_append] at hmL62
  have hssl:ss.length=(stayL (dP g hz) rr (cutT (prL (dP g hz) g n (pvF Ps n) i).1 (chF (pvF Ps n) n (rr:Int)))).length:=by rw [← hssq,List.length_map]
  refine sqr (sqp [.m 89 18, .k 90 (vi (((stayL (dP g hz) rr (cutT (prL (dP g hz) g n (pvF Ps n) i).1 (chF (pvF Ps n) n (rr:Int)))).length:Int))), .m 91 14, .k 92 (vi (((cutT (prL (dP g hz) g n (pvF Ps n) i).1 (chF (pvF Ps n) n (rr:Int))).length:Int))), .k 93 (.bool (((stayL (dP g hz) rr (cutT (prL (dP g hz) g n (pvF Ps n) i).1 (chF (pvF Ps n) n (rr:Int)))).length:Int)==((cutT (prL (dP g hz) g n (pvF Ps n) i).1 (chF (pvF Ps n) n (rr:Int))).length:Int)))] ?_)
  refine then_normal (wbs (fun hs68=>?_) fun hs68=>?_)
  ·have hs68p:=beq_iff_eq.1 hs68
   refine wp_exit (then_exit (blk_eq (then_normal (sqr (sqp [.m 37 13,sI 38 ((i:Int)+1) (by omega), .m 13 38] ?_)))))
   refine then_normal ?_
   have hp1_:(prL (dP g hz) g n (pvF Ps n) (i+1)).1=tkM (chF (pvF Ps n) n (rr:Int)) (prL (dP g hz) g n (pvF Ps n) i).1 (cutT (prL (dP g hz) g n (pvF Ps n) i).1 (chF (pvF Ps n) n (rr:Int))).length:=by rw [prL_step hrr]; rfl
   have hp2_:(prL (dP g hz) g n (pvF Ps n) (i+1)).2=(prL (dP g hz) g n (pvF Ps n) i).2:=by rw [prL_step hrr]; exact ref_1 (by omega)
   rw [← hp1_,← hp2_] at hmL62
   refine ⟨(rtL (pvF Ps n) 24).length - ((i+1)),by omega,?_⟩
   exact ⟨(i+1),by omega,rfl,(by kernel_rfl),hmL62.pk [0,1,2,3,4,5]⟩
  have hs68p:=beq_eq_false_iff_ne.1 hs68
  refine wp_skip (then_normal (wp_seq (wp_seq ?_)))
  have hln_:0 < (cutT (prL (dP g hz) g n (pvF Ps n) i).1 (chF (pvF Ps n) n (rr:Int))).length:=by
   rcases Nat.eq_zero_or_pos (cutT (prL (dP g hz) g n (pvF Ps n) i).1 (chF (pvF Ps n) n (rr:Int))).length with h0_ | h0_
   ·have h1_:=List.eq_nil_of_length_eq_zero h0_
    have h2_:(stayL (dP g hz) rr (cutT (prL (dP g hz) g n (pvF Ps n) i).1 (chF (pvF Ps n) n (rr:Int))))=[]:=by rw [h1_,stay_nil]
    have h3_:(stayL (dP g hz) rr (cutT (prL (dP g hz) g n (pvF Ps n) i).1 (chF (pvF Ps n) n (rr:Int)))).length=0:=by rw [h2_]; rfl
    omega
   ·exact h0_
  have hsn_:=stay_pos (p:=(dP g hz)) (r:=rr) hln_
  obtain ⟨lx,lA,lC,hklj,hlx⟩:=ks_get (ks:=(ks.take (cutT (prL (dP g hz) g n (pvF Ps n) i).1 (chF (pvF Ps n) n (rr:Int))).length)) (l:=(cutT (prL (dP g hz) g n (pvF Ps n) i).1 (chF (pvF Ps n) n (rr:Int)))) (j:=(((cutT (prL (dP g hz) g n (pvF Ps n) i).1 (chF (pvF Ps n) n (rr:Int))).length:Int) - 1).toNat) hkt (by omega)
  have hlast:(cutT (prL (dP g hz) g n (pvF Ps n) i).1 (chF (pvF Ps n) n (rr:Int))).getD ((cutT (prL (dP g hz) g n (pvF Ps n) i).1 (chF (pvF Ps n) n (rr:Int))).length - 1) nv0=lx:=by rw [List.getD_eq_getElem?_getD,show (cutT (prL (dP g hz) g n (pvF Ps n) i).1 (chF (pvF Ps n) n (rr:Int))).length - 1=(((cutT (prL (dP g hz) g n (pvF Ps n) i).1 (chF (pvF Ps n) n (rr:Int))).length:Int) - 1).toNat by omega,hlx]; rfl
  refine sqr (sqp [.k 19 (vi 0)] ?_)
  refine then_normal (wp_block ?_)
  refine wp_loopT (fun t_ mz az W=>∃ k2:Nat,k2≤(cutT (prL (dP g hz) g n (pvF Ps n) i).1 (chF (pvF Ps n) n (rr:Int))).length∧mz=(cutT (prL (dP g hz) g n (pvF Ps n) i).1 (chF (pvF Ps n) n (rr:Int))).length - k2∧az=⟨(ovr (jv az) [(19,19,0,[vi ((k2:Int))]),(74,94,13,[])] t_).toArray,[]⟩∧St w [] [eB B4_1 30 #[.slice PA Ps.length pc],eB B7_2 34 (T.map (Value.int .i64)).toArray,eB B9_7 151 ((wsL (pvF Ps n)).map Value.string).toArray,eB B10_10 151 ((nwG (wasB (pvF Ps n)) (blkG (cutT (prL (dP g hz) g n (pvF Ps n) i).1 (chF (pvF Ps n) n (rr:Int))) (prL (dP g hz) g n (pvF Ps n) i).2 k2)).map Value.string).toArray,eB B11_13 153 ((tkA (tkM (chF (pvF Ps n) n (rr:Int)) (prL (dP g hz) g n (pvF Ps n) i).1 (cutT (prL (dP g hz) g n (pvF Ps n) i).1 (chF (pvF Ps n) n (rr:Int))).length)).map Value.bool).toArray,eO 24 2 (.slice A32_17 ((rtL (pvF Ps n) 24).length) c32_17) ((rtL (pvF Ps n) 24).length) ((rtL (pvF Ps n) 24).flatMap (cellsR n)),eLo LA (ks.take (cutT (prL (dP g hz) g n (pvF Ps n) i).1 (chF (pvF Ps n) n (rr:Int))).length) n A88_60 ss r8_60,eFo 147 (.slice A45_28 ((chF (pvF Ps n) n (rr:Int)).length) c45_28) (chF (pvF Ps n) n (rr:Int)).length n ks] W) ((cutT (prL (dP g hz) g n (pvF Ps n) i).1 (chF (pvF Ps n) n (rr:Int))).length - 0) ?_ ?_
  · -- the loop begins
    exact ⟨0,Nat.zero_le _,rfl,(by kernel_rfl),hmL62.pk [0,1,2,3,4,5,6,7]⟩
  rintro n73 a73 W73 ⟨k2,hk2,rfl,hj_,hst73⟩
  refine ovz hj_ fun u73_=>?_
  refine wp_seq (wp_seq (sqr (sqp [.m 94 19, .m 95 14, .k 96 (vi (((cutT (prL (dP g hz) g n (pvF Ps n) i).1 (chF (pvF Ps n) n (rr:Int))).length:Int))), .k 97 (.bool (decide ((k2:Int) < ((cutT (prL (dP g hz) g n (pvF Ps n) i).1 (chF (pvF Ps n) n (rr:Int))).length:Int))))] ?_)))
  refine then_normal (wds (fun hs78 hs78p=>?_) fun hs78 hs78p=>?_)
  ·refine wp_skip (then_normal (wp_seq (wp_block ?_)))
   obtain ⟨gx,gA,gC,hkgj,hgx⟩:=ks_get (ks:=(ks.take (cutT (prL (dP g hz) g n (pvF Ps n) i).1 (chF (pvF Ps n) n (rr:Int))).length)) (l:=(cutT (prL (dP g hz) g n (pvF Ps n) i).1 (chF (pvF Ps n) n (rr:Int)))) (j:=k2) hkt (by omega)
   have hgs:=h24 _ (cut_sub _ (List.mem_of_getElem? hgx))
   refine sqr (sqp [.m 100 14, .m 101 19] ?_)
   refine sql (.pointer (some ((ad LA).add (k2*8)))) hst73 (fun cx=>run_indexSlM (e:=147) (m:=k2) (sz:=8) rfl (by kernel_rfl) (by kernel_rfl) (cx.ou 100) (cx.ou 101) (by omega) (by omega) (eLo_l (CtxV.holdE cx (cx.init 6 _ rfl) rfl)) (flatPos (sz:=8) (cellsF_len n) (by decide) (by omega))) ?_
   refine sql (.pointer (some ((ad LA).add (k2*8+0)))) hst73 (fun cx=>run_fieldAd rfl (by kernel_rfl) (cx.ou 102)) ?_
   refine sql (.pointer (some ((ad LA).add (k2*8+0+1)))) hst73 (fun cx=>run_fieldAd rfl (by kernel_rfl) (cx.ou 103)) ?_
   refine sql (vi ((gx.1:Int))) hst73 (fun cx=>run_load1 rfl (by kernel_rfl) (cx.ou 104) (At.eltc (f:=(cellsF n)) (k:=1) (cellsF_len n) (eLo_l (CtxV.holdE cx (cx.init 6 _ rfl) rfl)) hkgj rfl)) ?_
   refine sql (.pointer (some ⟨B10_10,gx.1,none⟩)) hst73 (fun cx=>run_indexArrB (n:=24) (sz:=1) (m:=gx.1) (q:=gx.1) rfl (by kernel_rfl) (cx.ou 10) (cx.ou 105) (by omega) (by omega) (by omega)) ?_
   refine sqc (eB B10_10 151 ((nwG (wasB (pvF Ps n)) (putM (blkG (cutT (prL (dP g hz) g n (pvF Ps n) i).1 (chF (pvF Ps n) n (rr:Int))) (prL (dP g hz) g n (pvF Ps n) i).2 k2) (gx.1:Int) (some (⟨#[]⟩:ByteArray)))).map Value.string).toArray) 3 hst73 (by
     refine svA fun ρ β W X cx=>?_
     exact dv_storeAr (m:=gx.1) rfl (cx.ou 106) (cx.co _) (by kernel_rfl) rfl rfl cx (cx.init 3 _ rfl) rfl (by first | (rw [List.length_map,nwG_len]; omega) | (rw [List.length_map,tkA_len]; omega)) rfl (set_nw (by omega) _) rfl rfl (fun σ β' X' hs hb hx=>hx)) fun W86 hst86=>?_
   refine blk_normal (then_normal (sqr (sqp [.m 98 19,sI 99 ((k2:Int)+1) (by omega), .m 19 99] ?_)))
   refine then_normal ?_
   rw [← blkG_step hgx] at hst86
   refine ⟨(cutT (prL (dP g hz) g n (pvF Ps n) i).1 (chF (pvF Ps n) n (rr:Int))).length - ((k2+1)),by omega,?_⟩
   exact ⟨(k2+1),by omega,rfl,(by kernel_rfl),hst86.pk [0,1,2,3,4,5,6,7]⟩
  refine wp_exit (then_exit (then_exit (blk_eq (then_normal (wp_seq (wp_seq ?_))))))
  have hk2e:k2=(cutT (prL (dP g hz) g n (pvF Ps n) i).1 (chF (pvF Ps n) n (rr:Int))).length:=by omega
  subst hk2e
  refine sqr (sqp [.k 20 (vi 0)] ?_)
  refine then_normal (wp_block ?_)
  refine wp_loopT (fun t_ mz az W=>∃ j2:Nat,j2≤(stayL (dP g hz) rr (cutT (prL (dP g hz) g n (pvF Ps n) i).1 (chF (pvF Ps n) n (rr:Int)))).length∧mz=(stayL (dP g hz) rr (cutT (prL (dP g hz) g n (pvF Ps n) i).1 (chF (pvF Ps n) n (rr:Int)))).length - j2∧az=⟨(ovr (jv az) [(20,20,0,[vi ((j2:Int))]),(0,21,1,[]),(85,107,65,[])] t_).toArray,[]⟩∧St w [] [eB B4_1 30 #[.slice PA Ps.length pc],eB B7_2 34 (T.map (Value.int .i64)).toArray,eB B9_7 151 ((wsL (pvF Ps n)).map Value.string).toArray,eB B10_10 151 ((nwG (wasB (pvF Ps n)) (stM g n lx (ss.map Prod.fst) (blkG (cutT (prL (dP g hz) g n (pvF Ps n) i).1 (chF (pvF Ps n) n (rr:Int))) (prL (dP g hz) g n (pvF Ps n) i).2 (cutT (prL (dP g hz) g n (pvF Ps n) i).1 (chF (pvF Ps n) n (rr:Int))).length) j2)).map Value.string).toArray,eB B11_13 153 ((tkA (tkM (chF (pvF Ps n) n (rr:Int)) (prL (dP g hz) g n (pvF Ps n) i).1 (cutT (prL (dP g hz) g n (pvF Ps n) i).1 (chF (pvF Ps n) n (rr:Int))).length)).map Value.bool).toArray,eO 24 2 (.slice A32_17 ((rtL (pvF Ps n) 24).length) c32_17) ((rtL (pvF Ps n) 24).length) ((rtL (pvF Ps n) 24).flatMap (cellsR n)),eLo LA (ks.take (cutT (prL (dP g hz) g n (pvF Ps n) i).1 (chF (pvF Ps n) n (rr:Int))).length) n A88_60 ss r8_60,eFo 147 (.slice A45_28 ((chF (pvF Ps n) n (rr:Int)).length) c45_28) (chF (pvF Ps n) n (rr:Int)).length n ks] W) ((stayL (dP g hz) rr (cutT (prL (dP g hz) g n (pvF Ps n) i).1 (chF (pvF Ps n) n (rr:Int)))).length - 0) ?_ ?_
  · -- the loop begins
    exact ⟨0,Nat.zero_le _,rfl,(by kernel_rfl),hst73.pk [0,1,2,3,4,5,6,7]⟩
  rintro n91 a91 W91 ⟨j2,hj2,rfl,hj_,hst91⟩
  refine ovz hj_ fun u91_=>?_
  refine wp_seq (wp_seq (sqr (sqp [.m 107 20, .m 108 18, .k 109 (vi (((stayL (dP g hz) rr (cutT (prL (dP g hz) g n (pvF Ps n) i).1 (chF (pvF Ps n) n (rr:Int)))).length:Int))), .k 110 (.bool (decide ((j2:Int) < ((stayL (dP g hz) rr (cutT (prL (dP g hz) g n (pvF Ps n) i).1 (chF (pvF Ps n) n (rr:Int)))).length:Int))))] ?_)))
  refine then_normal (wds (fun hs96 hs96p=>?_) fun hs96 hs96p=>?_)
  ·refine wp_skip (then_normal (wp_seq (wp_block (wp_seq ?_))))
   obtain ⟨yx,yA,yC,hkyj,hyx⟩:=ks_get (ks:=ss) (l:=(stayL (dP g hz) rr (cutT (prL (dP g hz) g n (pvF Ps n) i).1 (chF (pvF Ps n) n (rr:Int))))) (j:=j2) hssq (by omega)
   have hym:(yx,yA,yC)∈ks:=List.mem_of_mem_take (hssk _ (List.mem_of_getElem? hkyj))
   have hyc:yx∈(chF (pvF Ps n) n (rr:Int)):=cut_sub _ (stay_sub _ (List.mem_of_getElem? hyx))
   have hys:=h24 _ hyc
   have hyr:=hrw _ hyc
   refine sqr (sqp [.m 113 18, .m 114 20] ?_)
   refine sql (.pointer (some ((ad A88_60).add (j2*8)))) hst91 (fun cx=>run_indexSlM (e:=147) (m:=j2) (sz:=8) rfl (by kernel_rfl) (by kernel_rfl) (cx.ou 113) (cx.ou 114) (by omega) (by omega) (eLo_s (CtxV.holdE cx (cx.init 6 _ rfl) rfl)) (flatPos (sz:=8) (cellsF_len n) (by decide) (by omega))) ?_
   refine sql (.pointer (some ((ad A88_60).add (j2*8+2)))) hst91 (fun cx=>run_fieldAd rfl (by kernel_rfl) (cx.ou 115)) ?_
   refine sql (.agg #[vi yx.2.1,vi yx.2.2.1,vi yx.2.2.2.1,vi yx.2.2.2.2.1, .bool yx.2.2.2.2.2.1, .slice yA yx.2.2.2.2.2.2.length yC]) hst91 (fun cx=>run_loadElt (f:=(cellsF n)) (m:=j2) (sz:=8) (off:=2) (n:=6) rfl (by kernel_rfl) (by kernel_rfl) (cx.ou 116) rfl (cellsF_len n) (eLo_s (CtxV.holdE cx (cx.init 6 _ rfl) rfl)) hkyj (fun k hk=>match k,hk with | 0, _=>rfl | 1, _=>rfl | 2, _=>rfl | 3, _=>rfl | 4, _=>rfl | 5, _=>rfl | k+6,hk=>absurd hk (by omega))) ?_
   refine sqal #[vi 0,vi 0,vi 0,vi 0, .bool false, .slice none 0 0] hst91 fun B21_102 W102 hst102=>?_
   refine sqst (n:=6) 8 #[vi yx.2.1,vi yx.2.2.1,vi yx.2.2.2.1,vi yx.2.2.2.2.1, .bool yx.2.2.2.2.2.1, .slice yA yx.2.2.2.2.2.2.length yC] hst102 fun W103 hst103=>?_
   refine then_normal ?_
   refine wp_cutT (fun t_ az W=>∃ xb:Int,∃ xn1:Int,∃ xn2:Int,nxV g n lx (ss.map Prod.fst) j2 yx=(yx.2.1,xb,xn1,xn2,yx.2.2.2.2.2.1,yx.2.2.2.2.2.2)∧az=⟨(ovr (jv az) [(118,118,45,[])] t_).toArray,[]⟩∧St w [] [eB B4_1 30 #[.slice PA Ps.length pc],eB B7_2 34 (T.map (Value.int .i64)).toArray,eB B9_7 151 ((wsL (pvF Ps n)).map Value.string).toArray,eB B10_10 151 ((nwG (wasB (pvF Ps n)) (stM g n lx (ss.map Prod.fst) (blkG (cutT (prL (dP g hz) g n (pvF Ps n) i).1 (chF (pvF Ps n) n (rr:Int))) (prL (dP g hz) g n (pvF Ps n) i).2 (cutT (prL (dP g hz) g n (pvF Ps n) i).1 (chF (pvF Ps n) n (rr:Int))).length) j2)).map Value.string).toArray,eB B11_13 153 ((tkA (tkM (chF (pvF Ps n) n (rr:Int)) (prL (dP g hz) g n (pvF Ps n) i).1 (cutT (prL (dP g hz) g n (pvF Ps n) i).1 (chF (pvF Ps n) n (rr:Int))).length)).map Value.bool).toArray,eO 24 2 (.slice A32_17 ((rtL (pvF Ps n) 24).length) c32_17) ((rtL (pvF Ps n) 24).length) ((rtL (pvF Ps n) 24).flatMap (cellsR n)),eLo LA (ks.take (cutT (prL (dP g hz) g n (pvF Ps n) i).1 (chF (pvF Ps n) n (rr:Int))).length) n A88_60 ss r8_60,eFo 147 (.slice A45_28 ((chF (pvF Ps n) n (rr:Int)).length) c45_28) (chF (pvF Ps n) n (rr:Int)).length n ks,eB B21_102 41 #[vi yx.2.1,vi xb,vi xn1,vi xn2, .bool yx.2.2.2.2.2.1, .slice yA yx.2.2.2.2.2.2.length yC]] W) ?_ ?_
   ·refine wp_block (wp_seq (sqr (sqp [.m 128 20,sI 129 ((j2:Int)+1) (by omega), .m 130 18, .k 131 (vi (((stayL (dP g hz) rr (cutT (prL (dP g hz) g n (pvF Ps n) i).1 (chF (pvF Ps n) n (rr:Int)))).length:Int))), .k 132 (.bool (decide ((j2:Int)+1 < ((stayL (dP g hz) rr (cutT (prL (dP g hz) g n (pvF Ps n) i).1 (chF (pvF Ps n) n (rr:Int)))).length:Int)))), .m 127 132] ?_)))
    refine then_normal (wds (fun hs111 hs111p=>?_) fun hs111 hs111p=>?_)
    ·obtain ⟨zx,zA,zC,hkzj,hzx⟩:=ks_get (ks:=ss) (l:=(stayL (dP g hz) rr (cutT (prL (dP g hz) g n (pvF Ps n) i).1 (chF (pvF Ps n) n (rr:Int))))) (j:=(j2+1)) hssq (by omega)
     refine sqr (sqp [.m 133 18, .m 134 20,sI 135 ((j2:Int)+1) (by omega)] ?_)
     refine sql (.pointer (some ((ad A88_60).add ((j2+1)*8)))) hst103 (fun cx=>run_indexSlM (e:=147) (m:=j2+1) (sz:=8) rfl (by kernel_rfl) (by kernel_rfl) (cx.ou 133) (cx.ou 135) (by omega) (by omega) (eLo_s (CtxV.holdE cx (cx.init 6 _ rfl) rfl)) (flatPos (sz:=8) (cellsF_len n) (by decide) (by omega))) ?_
     refine sql (.pointer (some ((ad A88_60).add ((j2+1)*8+0)))) hst103 (fun cx=>run_fieldAd rfl (by kernel_rfl) (cx.ou 136)) ?_
     refine sql (.agg #[vi n,vi ((zx.1:Int))]) hst103 (fun cx=>run_loadElt (f:=(cellsF n)) (m:=(j2+1)) (sz:=8) (off:=0) (n:=2) rfl (by kernel_rfl) (by kernel_rfl) (cx.ou 137) rfl (cellsF_len n) (eLo_s (CtxV.holdE cx (cx.init 6 _ rfl) rfl)) hkzj (fun k hk=>match k,hk with | 0, _=>rfl | 1, _=>rfl | k+2,hk=>absurd hk (by omega))) ?_
     refine sqp [.k 139 (.pointer (some ⟨B21_102,2,none⟩))] ?_
     refine sqst (n:=2) 8 #[vi yx.2.1,vi yx.2.2.1,vi n,vi ((zx.1:Int)), .bool yx.2.2.2.2.2.1, .slice yA yx.2.2.2.2.2.2.length yC] hst103 fun W119 hst119=>?_
     refine blk_normal (then_normal ?_)
     exact ⟨yx.2.2.1,n,((zx.1:Int)),nx_1 (by omega) hkzj,(by kernel_rfl),hst119.pk [0,1,2,3,4,5,6,7,8]⟩
    refine wp_seq (wp_region_Z [0,0,3,7,15,0,0,64,192,480,992,2016,4095,8191] [[],[],[6],[],[6],[],[],[],[],[6],[],[6]] [.k 141 (.slice A88_60 ((stayL (dP g hz) rr (cutT (prL (dP g hz) g n (pvF Ps n) i).1 (chF (pvF Ps n) n (rr:Int)))).length) c88_60), .k 142 (vi ((j2:Int))), .c 143 (.pointer (some ((ad A88_60).add (j2*8)))), .c 144 (.pointer (some ((ad A88_60).add (j2*8+0)))), .c 145 (.agg #[vi n,vi ((yx.1:Int))]), .k 146 (.slice LA ((cutT (prL (dP g hz) g n (pvF Ps n) i).1 (chF (pvF Ps n) n (rr:Int))).length) LC), .k 147 (.slice LA ((cutT (prL (dP g hz) g n (pvF Ps n) i).1 (chF (pvF Ps n) n (rr:Int))).length) LC), .k 148 (vi (((cutT (prL (dP g hz) g n (pvF Ps n) i).1 (chF (pvF Ps n) n (rr:Int))).length:Int))),tI 149 (((cutT (prL (dP g hz) g n (pvF Ps n) i).1 (chF (pvF Ps n) n (rr:Int))).length:Int) - 1) (by omega), .c 150 (.pointer (some ((ad LA).add (((((cutT (prL (dP g hz) g n (pvF Ps n) i).1 (chF (pvF Ps n) n (rr:Int))).length:Int) - 1).toNat)*8)))), .c 151 (.pointer (some ((ad LA).add (((((cutT (prL (dP g hz) g n (pvF Ps n) i).1 (chF (pvF Ps n) n (rr:Int))).length:Int) - 1).toNat)*8+0)))), .c 152 (.agg #[vi n,vi ((lx.1:Int))]), .c 153 (.bool (n==n&&(yx.1:Int)==(lx.1:Int))), .k 140 (.bool (n==n&&(yx.1:Int)==(lx.1:Int)))] [0,1,2,3,4,5,6,7,8] [2,3,4,9,10,11,12] [(140,13,1,141),(0,0,13,13)] hst103 ?_ fun W120 hst120=>?_)
    ·refine ⟨?_,?_,?_,?_,?_,?_,?_,trivial⟩
     ·exact xs4 rfl id fun cx=>run_indexSlM (e:=147) (m:=j2) (sz:=8) rfl (by kernel_rfl) (by kernel_rfl) (cx.an 0) (cx.an 1) (by omega) (by omega) (eLo_s (CtxV.holdE cx (cx.init 6 _ rfl) rfl)) (flatPos (sz:=8) (cellsF_len n) (by decide) (by omega))
     ·exact xs4 rfl id fun cx=>run_fieldAd rfl (by kernel_rfl) (cx.an 2)
     ·exact xs4 rfl id fun cx=>run_loadElt (f:=(cellsF n)) (m:=j2) (sz:=8) (off:=0) (n:=2) rfl (by kernel_rfl) (by kernel_rfl) (cx.an 3) rfl (cellsF_len n) (eLo_s (CtxV.holdE cx (cx.init 6 _ rfl) rfl)) hkyj (fun k hk=>match k,hk with | 0, _=>rfl | 1, _=>rfl | k+2,hk=>absurd hk (by omega))
     ·exact xs4 rfl id fun cx=>run_indexSlM (e:=147) (m:=(((cutT (prL (dP g hz) g n (pvF Ps n) i).1 (chF (pvF Ps n) n (rr:Int))).length:Int) - 1).toNat) (sz:=8) rfl (by kernel_rfl) (by kernel_rfl) (cx.an 5) (cx.an 8) (by omega) (by omega) (eLo_l (CtxV.holdE cx (cx.init 6 _ rfl) rfl)) (flatPos (sz:=8) (cellsF_len n) (by decide) (by omega))
     ·exact xs4 rfl id fun cx=>run_fieldAd rfl (by kernel_rfl) (cx.an 9)
     ·exact xs4 rfl id fun cx=>run_loadElt (f:=(cellsF n)) (m:=((((cutT (prL (dP g hz) g n (pvF Ps n) i).1 (chF (pvF Ps n) n (rr:Int))).length:Int) - 1).toNat)) (sz:=8) (off:=0) (n:=2) rfl (by kernel_rfl) (by kernel_rfl) (cx.an 10) rfl (cellsF_len n) (eLo_l (CtxV.holdE cx (cx.init 6 _ rfl) rfl)) hklj (fun k hk=>match k,hk with | 0, _=>rfl | 1, _=>rfl | k+2,hk=>absurd hk (by omega))
     ·exact xs4 rfl id fun cx=>run_eqT rfl (cx.an 4) (cx.an 11) rfl
    refine then_normal (wbs (fun hs121=>?_) fun hs121=>?_)
    ·have hs121p:=hs121
     simp only [zB] at hs121p
     obtain ⟨hs121p1,hs121p2⟩:=hs121p
     refine wp_skip (blk_normal (then_normal ?_))
     exact ⟨yx.2.2.1,yx.2.2.2.1,yx.2.2.2.2.1,nx_2 (by omega) (by have h_:=cond_eq.1 hs121; omega),(by kernel_rfl),hst120.pk [0,1,2,3,4,5,6,7,8]⟩
    have hs121p:=hs121
    simp only [zB] at hs121p
    refine wp_seq (sqr ?_)
    refine sql (.agg (T.map (Value.int .i64)).toArray) hst120 (fun cx=>run_loadAr (n:=128) rfl (by kernel_rfl) (by kernel_rfl) (cx.ou 7) (cx.bi 1 rfl) (by simp [wsL,nwG_len,tkA_len,hT])) ?_
    refine sqp [.k 156 (.pointer (some ⟨B21_102,1,none⟩))] ?_
    refine sqld 8 hst120 ?_
    refine sqk (vi (g yx.2.2.1)) hst120 (fun cx=>⟨_,((rst_any T yx.2.2.1 _ hT).mono fun e W1 h_=>⟨h_.1.trans (by rw [hg]),h_.2⟩),(map2 (cx.ou 155) (cx.ou 157))⟩) fun W125 hst125=>?_
    refine sqp [.k 159 (.bool ((g yx.2.2.1)==3)), .m 154 159] ?_
    refine then_normal (wbs (fun hs128=>?_) fun hs128=>?_)
    ·have hs128p:=beq_iff_eq.1 hs128
     refine wp_seq (sqr (sqp [.k 160 (.pointer (some ⟨B21_102,1,none⟩))] ?_))
     refine sqst (n:=1) 8 #[vi yx.2.1,vi 0,vi yx.2.2.2.1,vi yx.2.2.2.2.1, .bool yx.2.2.2.2.2.1, .slice yA yx.2.2.2.2.2.2.length yC] hst125 fun W130 hst130=>?_
     refine then_normal (sqr (sqk (.agg #[vi (-1),vi 0]) hst130 (fun cx=>⟨_,rnone9_any _,map0⟩) fun W131 hst131=>?_))
     refine sqp [.k 162 (.pointer (some ⟨B21_102,2,none⟩))] ?_
     refine sqst (n:=2) 8 #[vi yx.2.1,vi 0,vi (-1),vi 0, .bool yx.2.2.2.2.2.1, .slice yA yx.2.2.2.2.2.2.length yC] hst131 fun W133 hst133=>?_
     refine blk_normal (then_normal ?_)
     exact ⟨0,(-1),0,nx_3 (by omega) (fun h2_=>by have h_:=hs121; rw [cond_eq.2 (by omega)] at h_; cases h_) (by simpa using hs128),(by kernel_rfl),hst133.pk [0,1,2,3,4,5,6,7,8]⟩
    have hs128p:=beq_eq_false_iff_ne.1 hs128
    refine sqr (sqp [.m 118 14, .m 119 14, .k 120 (vi (((cutT (prL (dP g hz) g n (pvF Ps n) i).1 (chF (pvF Ps n) n (rr:Int))).length:Int))),sI 121 (((cutT (prL (dP g hz) g n (pvF Ps n) i).1 (chF (pvF Ps n) n (rr:Int))).length:Int) - 1) (by omega)] ?_)
    refine sql (.pointer (some ((ad LA).add (((((cutT (prL (dP g hz) g n (pvF Ps n) i).1 (chF (pvF Ps n) n (rr:Int))).length:Int) - 1).toNat)*8)))) hst125 (fun cx=>run_indexSlM (e:=147) (m:=(((cutT (prL (dP g hz) g n (pvF Ps n) i).1 (chF (pvF Ps n) n (rr:Int))).length:Int) - 1).toNat) (sz:=8) rfl (by kernel_rfl) (by kernel_rfl) (cx.ou 118) (cx.ou 121) (by omega) (by omega) (eLo_l (CtxV.holdE cx (cx.init 6 _ rfl) rfl)) (flatPos (sz:=8) (cellsF_len n) (by decide) (by omega))) ?_
    refine sql (.pointer (some ((ad LA).add (((((cutT (prL (dP g hz) g n (pvF Ps n) i).1 (chF (pvF Ps n) n (rr:Int))).length:Int) - 1).toNat)*8+2)))) hst125 (fun cx=>run_fieldAd rfl (by kernel_rfl) (cx.ou 122)) ?_
    refine sql (.pointer (some ((ad LA).add (((((cutT (prL (dP g hz) g n (pvF Ps n) i).1 (chF (pvF Ps n) n (rr:Int))).length:Int) - 1).toNat)*8+2+2)))) hst125 (fun cx=>run_fieldAd rfl (by kernel_rfl) (cx.ou 123)) ?_
    refine sql (.agg #[vi lx.2.2.2.1,vi lx.2.2.2.2.1]) hst125 (fun cx=>run_loadElt (f:=(cellsF n)) (m:=((((cutT (prL (dP g hz) g n (pvF Ps n) i).1 (chF (pvF Ps n) n (rr:Int))).length:Int) - 1).toNat)) (sz:=8) (off:=4) (n:=2) rfl (by kernel_rfl) (by kernel_rfl) (cx.ou 124) rfl (cellsF_len n) (eLo_l (CtxV.holdE cx (cx.init 6 _ rfl) rfl)) hklj (fun k hk=>match k,hk with | 0, _=>rfl | 1, _=>rfl | k+2,hk=>absurd hk (by omega))) ?_
    refine sqp [.k 126 (.pointer (some ⟨B21_102,2,none⟩))] ?_
    refine sqst (n:=2) 8 #[vi yx.2.1,vi yx.2.2.1,vi lx.2.2.2.1,vi lx.2.2.2.2.1, .bool yx.2.2.2.2.2.1, .slice yA yx.2.2.2.2.2.2.length yC] hst125 fun W143 hst143=>?_
    refine blk_normal (then_normal ?_)
    exact ⟨yx.2.2.1,lx.2.2.2.1,lx.2.2.2.2.1,nx_4 (by omega) (fun h2_=>by have h_:=hs121; rw [cond_eq.2 (by omega)] at h_; cases h_) (by simpa using hs128),(by kernel_rfl),hst143.pk [0,1,2,3,4,5,6,7,8]⟩
   rintro a104 W104 ⟨xb,xn1,xn2,hnx,hj_,hst104⟩
   refine ovz hj_ fun u104_=>?_
   refine wp_region_Y [0,0,3,7,15,31,0,64,255,511] [[],[],[6],[],[],[6],[8],[7],[],[3]] [[],[],[],[],[],[],[],[],[],[9]] [[],[],[],[],[],[],[],[],[],[3]] [.k 163 (.slice A88_60 ((stayL (dP g hz) rr (cutT (prL (dP g hz) g n (pvF Ps n) i).1 (chF (pvF Ps n) n (rr:Int)))).length) c88_60), .k 164 (vi ((j2:Int))), .c 165 (.pointer (some ((ad A88_60).add (j2*8)))), .c 166 (.pointer (some ((ad A88_60).add (j2*8+0)))), .c 167 (.pointer (some ((ad A88_60).add (j2*8+0+1)))), .c 168 (vi ((yx.1:Int))), .c 169 (.agg #[vi yx.2.1,vi xb,vi xn1,vi xn2, .bool yx.2.2.2.2.2.1, .slice yA yx.2.2.2.2.2.2.length yC]), .c 170 (.string ((tbytesF yx.2.1 xb xn1 xn2 yx.2.2.2.2.2.1 yx.2.2.2.2.2.2))), .c 171 (.pointer (some ⟨B10_10,yx.1,none⟩)), .n] (fun ix σ β X=>match ix with | 0=>True | 1=>True | 2=>True | 3=>True | 4=>True | 5=>True | 6=>True | 7=>True | 8=>True | 9=>X 9=eB B10_10 151 ((nwG (wasB (pvF Ps n)) (putM (stM g n lx (ss.map Prod.fst) (blkG (cutT (prL (dP g hz) g n (pvF Ps n) i).1 (chF (pvF Ps n) n (rr:Int))) (prL (dP g hz) g n (pvF Ps n) i).2 (cutT (prL (dP g hz) g n (pvF Ps n) i).1 (chF (pvF Ps n) n (rr:Int))).length) j2) (yx.1:Int) (some (tbytesF yx.2.1 xb xn1 xn2 yx.2.2.2.2.2.1 yx.2.2.2.2.2.2)))).map Value.string).toArray | _=>True) [0,1,2,4,5,6,7,8,9] [2,3,4,5,6,7,8,9] [(163,0,9,172)] hst104 ?_ ?_ ?_
   ·exact fun ix _ _ _ _ _ _ hs hb hx h=>match ix,h with
    | 9,h=>by dsimp only; rw [← hx 9 rfl]; exact h
    | 0, _ | 1, _ | 2, _ | 3, _ | 4, _ | 5, _ | 6, _ | 7, _ | 8, _ | _+10, _=>trivial
   ·refine ⟨?_,?_,?_,?_,?_,?_,?_,?_,trivial⟩
    ·exact xs4 rfl id fun cx=>run_indexSlM (e:=147) (m:=j2) (sz:=8) rfl (by kernel_rfl) (by kernel_rfl) (cx.an 0) (cx.an 1) (by omega) (by omega) (eLo_s (CtxV.holdE cx (cx.init 6 _ rfl) rfl)) (flatPos (sz:=8) (cellsF_len n) (by decide) (by omega))
    ·exact xs4 rfl id fun cx=>run_fieldAd rfl (by kernel_rfl) (cx.an 2)
    ·exact xs4 rfl id fun cx=>run_fieldAd rfl (by kernel_rfl) (cx.an 3)
    ·exact xs4 rfl id fun cx=>run_load1 rfl (by kernel_rfl) (cx.an 4) (At.eltc (f:=(cellsF n)) (k:=1) (cellsF_len n) (eLo_s (CtxV.holdE cx (cx.init 6 _ rfl) rfl)) hkyj rfl)
    ·exact xs4 rfl id fun cx=>run_loadB (n:=6) rfl (by kernel_rfl) (by kernel_rfl) (cx.ou 21) (cx.bi 8 rfl) (nle rfl) rfl
    ·exact xsc rfl id rfl rfl fun cx=>⟨_,r08bytes_any yx.2.1 xb xn1 xn2 yx.2.2.2.2.2.1 _ _ yx.2.2.2.2.2.2 _ (eFo_row (CtxV.holdE cx (cx.init 7 _ rfl) rfl) hym) (by omega),(map1 (cx.an 6))⟩
    ·exact xs4 rfl id fun cx=>run_indexArrB (n:=24) (sz:=1) (m:=yx.1) (q:=yx.1) rfl (by kernel_rfl) (cx.ou 10) (cx.an 5) (by omega) (by omega) (by omega)
    ·refine svA fun ρ β W X cx=>?_
     exact dv_storeAr (m:=yx.1) rfl (cx.an 8) (cx.an 7) (by kernel_rfl) rfl rfl cx (cx.init 3 _ rfl) rfl (by first | (rw [List.length_map,nwG_len]; omega) | (rw [List.length_map,tkA_len]; omega)) rfl (set_nw (by omega) _) rfl rfl (fun σ β' X' hs hb hx=>hx)
   intro σ β X W144 hD hst144 fr hfr
   simp only [exq 9 ((dTn (hD 9 lq)))] at hst144
   clear hD; subst hfr; clear σ β X
   refine blk_normal (then_normal (sqr (sqp [.m 111 20,sI 112 ((j2:Int)+1) (by omega), .m 20 112] ?_)))
   refine then_normal ?_
   rw [← st_step hkyj hnx] at hst144
   refine ⟨(stayL (dP g hz) rr (cutT (prL (dP g hz) g n (pvF Ps n) i).1 (chF (pvF Ps n) n (rr:Int)))).length - ((j2+1)),by omega,?_⟩
   exact ⟨(j2+1),by omega,rfl,(by kernel_rfl),hst144.pk [0,1,2,8,3,4,5,6]⟩
  refine wp_exit (then_exit (then_exit (blk_eq (then_normal (wp_seq ?_)))))
  have hj2e:j2=(stayL (dP g hz) rr (cutT (prL (dP g hz) g n (pvF Ps n) i).1 (chF (pvF Ps n) n (rr:Int)))).length:=by omega
  subst hj2e
  obtain ⟨ox,oA,oC,hkoj,hox⟩:=ks_get (ks:=ss) (l:=(stayL (dP g hz) rr (cutT (prL (dP g hz) g n (pvF Ps n) i).1 (chF (pvF Ps n) n (rr:Int))))) (j:=0) hssq (by omega)
  have hos:=h24 _ (cut_sub _ (stay_sub _ (List.mem_of_getElem? hox)))
  refine wp_region_Z [0,1,3,7,0,0,48,112,255] [[],[6],[],[6],[],[],[5],[5]] [.k 172 (.slice A88_60 ((stayL (dP g hz) rr (cutT (prL (dP g hz) g n (pvF Ps n) i).1 (chF (pvF Ps n) n (rr:Int)))).length) c88_60), .c 173 (.pointer (some ((ad A88_60).add (0*8)))), .c 174 (.pointer (some ((ad A88_60).add (0*8+0)))), .c 175 (.agg #[vi n,vi ((ox.1:Int))]), .k 176 (.slice A32_17 ((rtL (pvF Ps n) 24).length) c32_17), .k 177 (vi ((i:Int))), .c 178 (.pointer (some ((ad A32_17).add (i*2)))), .c 179 (.agg #[vi n,vi ((rr:Int))]), .c 180 (.bool (!(n==n&&(ox.1:Int)==(rr:Int))))] [0,1,2,3,4,5,6,7] [1,2,3,6,7,8] [(172,0,9,181)] hst91 ?_ fun W148 hst148=>?_
  ·refine ⟨?_,?_,?_,?_,?_,?_,trivial⟩
   ·exact xs4 rfl id fun cx=>run_indexSlM (e:=147) (m:=0) (sz:=8) rfl (by kernel_rfl) (by kernel_rfl) (cx.an 0) (cx.co _) (by omega) (by omega) (eLo_s (CtxV.holdE cx (cx.init 6 _ rfl) rfl)) (flatPos (sz:=8) (cellsF_len n) (by decide) (by omega))
   ·exact xs4 rfl id fun cx=>run_fieldAd rfl (by kernel_rfl) (cx.an 1)
   ·exact xs4 rfl id fun cx=>run_loadElt (f:=(cellsF n)) (m:=0) (sz:=8) (off:=0) (n:=2) rfl (by kernel_rfl) (by kernel_rfl) (cx.an 2) rfl (cellsF_len n) (eLo_s (CtxV.holdE cx (cx.init 6 _ rfl) rfl)) hkoj (fun k hk=>match k,hk with | 0, _=>rfl | 1, _=>rfl | k+2,hk=>absurd hk (by omega))
   ·exact xs4 rfl id fun cx=>run_indexSlM (e:=24) (m:=i) (sz:=2) rfl (by kernel_rfl) (by kernel_rfl) (cx.an 4) (cx.an 5) (by omega) (by omega) (At.of_ownN (cx.ri 5 rfl)) (flatPos (sz:=2) (cellsR_len n) (by decide) (by omega))
   ·exact xs4 rfl id fun cx=>run_loadElt (f:=(cellsR n)) (m:=i) (sz:=2) (off:=0) (n:=2) rfl (by kernel_rfl) (by kernel_rfl) (cx.an 6) rfl (cellsR_len n) (At.of_ownN (cx.ri 5 rfl)) hrr (fun k hk=>match k,hk with | 0, _=>rfl | 1, _=>rfl | k+2,hk=>absurd hk (by omega))
   ·exact xs4 rfl id fun cx=>run_neT rfl (cx.an 3) (cx.an 7) rfl
  refine then_normal ?_
  rcases Bool.eq_false_or_eq_true (n==n&&(ox.1:Int)==(rr:Int)) with hs149 | hs149
  ·have hs149p:=hs149
   simp only [zB] at hs149p
   obtain ⟨hs149p1,hs149p2⟩:=hs149p
   refine wp_cond_false (show Act.eval _ _= .bool false from (congrArg Value.bool (by rw [hs149]; rfl))) (wp_skip (blk_normal (then_normal (sqr (sqp [.m 37 13,sI 38 ((i:Int)+1) (by omega), .m 13 38] ?_)))))
   refine then_normal ?_
   have hp1_:(prL (dP g hz) g n (pvF Ps n) (i+1)).1=tkM (chF (pvF Ps n) n (rr:Int)) (prL (dP g hz) g n (pvF Ps n) i).1 (cutT (prL (dP g hz) g n (pvF Ps n) i).1 (chF (pvF Ps n) n (rr:Int))).length:=by rw [prL_step hrr]; rfl
   have hp2_:(prL (dP g hz) g n (pvF Ps n) (i+1)).2=(stM g n lx (ss.map Prod.fst) (blkG (cutT (prL (dP g hz) g n (pvF Ps n) i).1 (chF (pvF Ps n) n (rr:Int))) (prL (dP g hz) g n (pvF Ps n) i).2 (cutT (prL (dP g hz) g n (pvF Ps n) i).1 (chF (pvF Ps n) n (rr:Int))).length) (stayL (dP g hz) rr (cutT (prL (dP g hz) g n (pvF Ps n) i).1 (chF (pvF Ps n) n (rr:Int)))).length):=by rw [prL_step hrr]; exact ref_2 (by omega) hssq hlast hox (cond_eq.1 hs149)
   rw [← hp1_,← hp2_] at hst148
   refine ⟨(rtL (pvF Ps n) 24).length - ((i+1)),by omega,?_⟩
   exact ⟨(i+1),by omega,rfl,(by kernel_rfl),hst148.pk [0,1,2,3,4,5]⟩
  have hs149p:=hs149
  simp only [zB] at hs149p
  refine wp_cond_true (show Act.eval _ _= .bool true from (congrArg Value.bool (by rw [hs149]; rfl))) (wp_region_Y [0,0,3,7,15,0,32,96,224,480,992,2047,4095] [[],[],[5],[],[5],[],[6],[],[],[6],[],[],[3]] [[],[],[],[],[],[],[],[],[],[],[],[],[8]] [[],[],[],[],[],[],[],[],[],[],[],[],[3]] [.k 181 (.slice A32_17 ((rtL (pvF Ps n) 24).length) c32_17), .k 182 (vi ((i:Int))), .c 183 (.pointer (some ((ad A32_17).add (i*2)))), .c 184 (.pointer (some ((ad A32_17).add (i*2+1)))), .c 185 (vi ((rr:Int))), .k 186 (.slice A88_60 ((stayL (dP g hz) rr (cutT (prL (dP g hz) g n (pvF Ps n) i).1 (chF (pvF Ps n) n (rr:Int)))).length) c88_60), .c 187 (.pointer (some ((ad A88_60).add (0*8)))), .c 188 (.pointer (some ((ad A88_60).add (0*8+0)))), .c 189 (.pointer (some ((ad A88_60).add (0*8+0+1)))), .c 190 (vi ((ox.1:Int))), .c 191 (.string ((strOfNums [0,(ox.1:Int)]))), .c 192 (.pointer (some ⟨B10_10,rr,none⟩)), .n] (fun ix σ β X=>match ix with | 0=>True | 1=>True | 2=>True | 3=>True | 4=>True | 5=>True | 6=>True | 7=>True | 8=>True | 9=>True | 10=>True | 11=>True | 12=>X 8=eB B10_10 151 ((nwG (wasB (pvF Ps n)) (putM (stM g n lx (ss.map Prod.fst) (blkG (cutT (prL (dP g hz) g n (pvF Ps n) i).1 (chF (pvF Ps n) n (rr:Int))) (prL (dP g hz) g n (pvF Ps n) i).2 (cutT (prL (dP g hz) g n (pvF Ps n) i).1 (chF (pvF Ps n) n (rr:Int))).length) (stayL (dP g hz) rr (cutT (prL (dP g hz) g n (pvF Ps n) i).1 (chF (pvF Ps n) n (rr:Int)))).length) (rr:Int) (some (strOfNums [0,(ox.1:Int)])))).map Value.string).toArray | _=>True) [0,1,2,4,5,6,7,8] [2,3,4,6,7,8,9,10,11,12] [(181,0,12,193)] hst148 ?_ ?_ ?_)
  ·exact fun ix _ _ _ _ _ _ hs hb hx h=>match ix,h with
   | 12,h=>by dsimp only; rw [← hx 8 rfl]; exact h
   | 0, _ | 1, _ | 2, _ | 3, _ | 4, _ | 5, _ | 6, _ | 7, _ | 8, _ | 9, _ | 10, _ | 11, _ | _+13, _=>trivial
  ·refine ⟨?_,?_,?_,?_,?_,?_,?_,?_,?_,?_,trivial⟩
   ·exact xs4 rfl id fun cx=>run_indexSlM (e:=24) (m:=i) (sz:=2) rfl (by kernel_rfl) (by kernel_rfl) (cx.an 0) (cx.an 1) (by omega) (by omega) (At.of_ownN (cx.ri 5 rfl)) (flatPos (sz:=2) (cellsR_len n) (by decide) (by omega))
   ·exact xs4 rfl id fun cx=>run_fieldAd rfl (by kernel_rfl) (cx.an 2)
   ·exact xs4 rfl id fun cx=>run_load1 rfl (by kernel_rfl) (cx.an 3) (At.eltc (f:=(cellsR n)) (k:=1) (cellsR_len n) (At.of_ownN (cx.ri 5 rfl)) hrr rfl)
   ·exact xs4 rfl id fun cx=>run_indexSlM (e:=147) (m:=0) (sz:=8) rfl (by kernel_rfl) (by kernel_rfl) (cx.an 5) (cx.co _) (by omega) (by omega) (eLo_s (CtxV.holdE cx (cx.init 6 _ rfl) rfl)) (flatPos (sz:=8) (cellsF_len n) (by decide) (by omega))
   ·exact xs4 rfl id fun cx=>run_fieldAd rfl (by kernel_rfl) (cx.an 6)
   ·exact xs4 rfl id fun cx=>run_fieldAd rfl (by kernel_rfl) (cx.an 7)
   ·exact xs4 rfl id fun cx=>run_load1 rfl (by kernel_rfl) (cx.an 8) (At.eltc (f:=(cellsF n)) (k:=1) (cellsF_len n) (eLo_s (CtxV.holdE cx (cx.init 6 _ rfl) rfl)) hkoj rfl)
   ·exact xsc rfl id rfl rfl fun cx=>⟨_,rto_any (ox.1:Int) _ (by omega),(map1 (cx.an 9))⟩
   ·exact xs4 rfl id fun cx=>run_indexArrB (n:=24) (sz:=1) (m:=rr) (q:=rr) rfl (by kernel_rfl) (cx.ou 10) (cx.an 4) (by omega) (by omega) (by omega)
   ·refine svA fun ρ β W X cx=>?_
    exact dv_storeAr (m:=rr) rfl (cx.an 11) (cx.an 10) (by kernel_rfl) rfl rfl cx (cx.init 3 _ rfl) rfl (by first | (rw [List.length_map,nwG_len]; omega) | (rw [List.length_map,tkA_len]; omega)) rfl (set_nw (by omega) _) rfl rfl (fun σ β' X' hs hb hx=>hx)
  intro σ β X W153 hD hst153 fr hfr
  simp only [exq 8 ((dTn (hD 12 lq)))] at hst153
  clear hD; subst hfr; clear σ β X
  refine blk_normal (then_normal (sqr (sqp [.m 37 13,sI 38 ((i:Int)+1) (by omega), .m 13 38] ?_)))
  refine then_normal ?_
  have hp1_:(prL (dP g hz) g n (pvF Ps n) (i+1)).1=tkM (chF (pvF Ps n) n (rr:Int)) (prL (dP g hz) g n (pvF Ps n) i).1 (cutT (prL (dP g hz) g n (pvF Ps n) i).1 (chF (pvF Ps n) n (rr:Int))).length:=by rw [prL_step hrr]; rfl
  have hp2_:(prL (dP g hz) g n (pvF Ps n) (i+1)).2=(putM (stM g n lx (ss.map Prod.fst) (blkG (cutT (prL (dP g hz) g n (pvF Ps n) i).1 (chF (pvF Ps n) n (rr:Int))) (prL (dP g hz) g n (pvF Ps n) i).2 (cutT (prL (dP g hz) g n (pvF Ps n) i).1 (chF (pvF Ps n) n (rr:Int))).length) (stayL (dP g hz) rr (cutT (prL (dP g hz) g n (pvF Ps n) i).1 (chF (pvF Ps n) n (rr:Int)))).length) (rr:Int) (some (strOfNums [0,(ox.1:Int)]))):=by rw [prL_step hrr]; exact ref_3 (by omega) hssq hlast hox (fun h2_=>by have h_:=hs149; rw [cond_eq.2 h2_] at h_; cases h_)
  rw [← hp1_,← hp2_] at hst153
  refine ⟨(rtL (pvF Ps n) 24).length - ((i+1)),by omega,?_⟩
  exact ⟨(i+1),by omega,rfl,(by kernel_rfl),hst153.pk [0,1,2,7,3,4]⟩
 refine wp_exit (then_exit (then_exit (blk_eq (then_normal (wp_seq ?_)))))
 have hie:i=(rtL (pvF Ps n) 24).length:=by omega
 subst hie
 refine sqr ?_
 refine sqlb 0 1 hst20 ?_
 refine sqp [.m 194 1] ?_
 refine sqk2s (fun A195_159 c195_159=> .slice A195_159 ((allF' (pvF Ps n)).length) c195_159) (fun A195_159 c195_159 r6_159=>eFk 147 (.slice A195_159 ((allF' (pvF Ps n)).length) c195_159) (allF' (pvF Ps n)) n r6_159) hst20 (fun cx=>⟨_,(rall9k_any _ _ Ps n _ (hP.ext cx.upd.to_ext)).mono (by rintro e W1 ⟨A4,c4,fp4,rfl,hc⟩; exact ⟨_, _, _,rfl,hc⟩),(map2 (cx.ou 193) (cx.ou 194))⟩) fun A195_159 c195_159 r6_159 W159 hst159=>?_
 refine sqp [.m 22 195] ?_
 refine then_normal (wp_seq (wp_seq (sqr (sqp [.k 23 (vi 0)] ?_))))
 refine then_normal (wp_block ?_)
 have hal_:=all_le' hwf
 obtain ⟨ka,hka,hmO162⟩:=St.openFk (L1:=[eB B4_1 30 #[.slice PA Ps.length pc],eB B7_2 34 (T.map (Value.int .i64)).toArray,eB B9_7 151 ((wsL (pvF Ps n)).map Value.string).toArray,eB B10_10 151 ((nwG (wasB (pvF Ps n)) (prL (dP g hz) g n (pvF Ps n) (rtL (pvF Ps n) 24).length).2).map Value.string).toArray,eB B11_13 153 ((tkA (prL (dP g hz) g n (pvF Ps n) (rtL (pvF Ps n) 24).length).1).map Value.bool).toArray,eO 24 2 (.slice A32_17 ((rtL (pvF Ps n) 24).length) c32_17) ((rtL (pvF Ps n) 24).length) ((rtL (pvF Ps n) 24).flatMap (cellsR n))]) (L2:=[]) hst159
 simp only [List.cons_append,List.nil_append] at hmO162
 have hkal:ka.length=(allF' (pvF Ps n)).length:=by rw [← hka,List.length_map]
 refine wp_loopT (fun t_ mz az W=>∃ jj:Nat,jj≤(allF' (pvF Ps n)).length∧mz=(allF' (pvF Ps n)).length - jj∧az=⟨(ovr (jv az) [(23,23,0,[vi ((jj:Int))]),(0,24,1,[]),(171,196,36,[])] t_).toArray,[]⟩∧St w [] [eB B4_1 30 #[.slice PA Ps.length pc],eB B7_2 34 (T.map (Value.int .i64)).toArray,eB B9_7 151 ((wsL (pvF Ps n)).map Value.string).toArray,eB B10_10 151 ((nwG (wasB (pvF Ps n)) (hotM (dP g hz) (prL (dP g hz) g n (pvF Ps n) (rtL (pvF Ps n) 24).length).1 (allF' (pvF Ps n)) (prL (dP g hz) g n (pvF Ps n) (rtL (pvF Ps n) 24).length).2 jj)).map Value.string).toArray,eB B11_13 153 ((tkA (prL (dP g hz) g n (pvF Ps n) (rtL (pvF Ps n) 24).length).1).map Value.bool).toArray,eO 24 2 (.slice A32_17 ((rtL (pvF Ps n) 24).length) c32_17) ((rtL (pvF Ps n) 24).length) ((rtL (pvF Ps n) 24).flatMap (cellsR n)),eFo 147 (.slice A195_159 ((allF' (pvF Ps n)).length) c195_159) (allF' (pvF Ps n)).length n ka] W) ((allF' (pvF Ps n)).length - 0) ?_ ?_
 · -- the loop begins
   exact ⟨0,Nat.zero_le _,rfl,(by kernel_rfl),hmO162.pk [0,1,2,3,4,5,6]⟩
 rintro n163 a163 W163 ⟨jj,hjj,rfl,hj_,hst163⟩
 refine ovz hj_ fun u163_=>?_
 refine wp_seq (wp_seq (sqr (sqp [.m 196 23, .m 197 22, .k 198 (vi (((allF' (pvF Ps n)).length:Int))), .k 199 (.bool (decide ((jj:Int) < ((allF' (pvF Ps n)).length:Int))))] ?_)))
 refine then_normal (wds (fun hs168 hs168p=>?_) fun hs168 hs168p=>?_)
 ·refine wp_skip (then_normal (wp_seq (wp_block (wp_seq ?_))))
  obtain ⟨fx,fA,fC,hkfj,hfx⟩:=ks_get (j:=jj) hka (by omega)
  have hfs:=slot_of hwf (all_mem _ (List.mem_of_getElem? hfx))
  refine sqr (sqp [.m 202 22, .m 203 23] ?_)
  refine sql (.pointer (some ((ad A195_159).add (jj*8)))) hst163 (fun cx=>run_indexSlM (e:=147) (m:=jj) (sz:=8) rfl (by kernel_rfl) (by kernel_rfl) (cx.ou 202) (cx.ou 203) (by omega) (by omega) (eFo_at (CtxV.holdE cx (cx.init 6 _ rfl) rfl)) (flatPos (sz:=8) (cellsF_len n) (by decide) (by omega))) ?_
  refine sql (.pointer (some ((ad A195_159).add (jj*8+0)))) hst163 (fun cx=>run_fieldAd rfl (by kernel_rfl) (cx.ou 204)) ?_
  refine sql (.pointer (some ((ad A195_159).add (jj*8+0+1)))) hst163 (fun cx=>run_fieldAd rfl (by kernel_rfl) (cx.ou 205)) ?_
  refine sql (vi ((fx.1:Int))) hst163 (fun cx=>run_load1 rfl (by kernel_rfl) (cx.ou 206) (At.eltc (f:=(cellsF n)) (k:=1) (cellsF_len n) (eFo_at (CtxV.holdE cx (cx.init 6 _ rfl) rfl)) hkfj rfl)) ?_
  refine sqp [.m 24 207] ?_
  refine then_normal (wp_seq (wp_region_Z [0,0,3,7,15,31,63,127,255,511,1023,2047,4095,8191,8191,32767,65535,131071,8191,8191,1048575,2097151] [[],[],[6],[],[],[6],[],[],[],[4],[],[],[],[],[],[6],[],[6],[],[1]] [.k 208 (.slice A195_159 ((allF' (pvF Ps n)).length) c195_159), .k 209 (vi ((jj:Int))), .c 210 (.pointer (some ((ad A195_159).add (jj*8)))), .c 211 (.pointer (some ((ad A195_159).add (jj*8+2)))), .c 212 (.pointer (some ((ad A195_159).add (jj*8+2+4)))), .c 213 (.bool fx.2.2.2.2.2.1), .k 214 (.bool fx.2.2.2.2.2.1), .z 215 fx.2.2.2.2.2.1 (vi ((fx.1:Int))), .y 216 fx.2.2.2.2.2.1 (.pointer (some ⟨B11_13,fx.1,none⟩)), .y 217 fx.2.2.2.2.2.1 (.bool (((prL (dP g hz) g n (pvF Ps n) (rtL (pvF Ps n) 24).length).1 (fx.1:Int)))), .z 218 fx.2.2.2.2.2.1 (.bool (!(((prL (dP g hz) g n (pvF Ps n) (rtL (pvF Ps n) 24).length).1 (fx.1:Int))))),tA 219 fx.2.2.2.2.2.1 (!(((prL (dP g hz) g n (pvF Ps n) (rtL (pvF Ps n) 24).length).1 (fx.1:Int)))), .k 220 (.bool (fx.2.2.2.2.2.1&&(!(((prL (dP g hz) g n (pvF Ps n) (rtL (pvF Ps n) 24).length).1 (fx.1:Int)))))), .z 221 (fx.2.2.2.2.2.1&&(!(((prL (dP g hz) g n (pvF Ps n) (rtL (pvF Ps n) 24).length).1 (fx.1:Int))))) (.slice A195_159 ((allF' (pvF Ps n)).length) c195_159), .z 222 (fx.2.2.2.2.2.1&&(!(((prL (dP g hz) g n (pvF Ps n) (rtL (pvF Ps n) 24).length).1 (fx.1:Int))))) (vi ((jj:Int))), .y 223 (fx.2.2.2.2.2.1&&(!(((prL (dP g hz) g n (pvF Ps n) (rtL (pvF Ps n) 24).length).1 (fx.1:Int))))) (.pointer (some ((ad A195_159).add (jj*8)))), .y 224 (fx.2.2.2.2.2.1&&(!(((prL (dP g hz) g n (pvF Ps n) (rtL (pvF Ps n) 24).length).1 (fx.1:Int))))) (.pointer (some ((ad A195_159).add (jj*8+2)))), .y 225 (fx.2.2.2.2.2.1&&(!(((prL (dP g hz) g n (pvF Ps n) (rtL (pvF Ps n) 24).length).1 (fx.1:Int))))) (.agg #[vi fx.2.1,vi fx.2.2.1,vi fx.2.2.2.1,vi fx.2.2.2.2.1, .bool fx.2.2.2.2.2.1, .slice fA fx.2.2.2.2.2.2.length fC]), .z 226 (fx.2.2.2.2.2.1&&(!(((prL (dP g hz) g n (pvF Ps n) (rtL (pvF Ps n) 24).length).1 (fx.1:Int))))) (vi hz), .y 227 (fx.2.2.2.2.2.1&&(!(((prL (dP g hz) g n (pvF Ps n) (rtL (pvF Ps n) 24).length).1 (fx.1:Int))))) (.agg (T.map (Value.int .i64)).toArray), .y 228 (fx.2.2.2.2.2.1&&(!(((prL (dP g hz) g n (pvF Ps n) (rtL (pvF Ps n) 24).length).1 (fx.1:Int))))) (.bool (deadF g hz fx.2.1 fx.2.2.1)),tA 229 (fx.2.2.2.2.2.1&&(!(((prL (dP g hz) g n (pvF Ps n) (rtL (pvF Ps n) 24).length).1 (fx.1:Int))))) (deadF g hz fx.2.1 fx.2.2.1)] [0,1,2,3,4,5,6] [2,3,4,5,8,9,15,16,17,19,20] [(208,0,22,230)] hst163 ?_ fun W176 hst176=>?_))
  ·refine ⟨?_,?_,?_,?_,?_,?_,?_,?_,?_,?_,?_,trivial⟩
   ·exact xs4 rfl id fun cx=>run_indexSlM (e:=147) (m:=jj) (sz:=8) rfl (by kernel_rfl) (by kernel_rfl) (cx.an 0) (cx.an 1) (by omega) (by omega) (eFo_at (CtxV.holdE cx (cx.init 6 _ rfl) rfl)) (flatPos (sz:=8) (cellsF_len n) (by decide) (by omega))
   ·exact xs4 rfl id fun cx=>run_fieldAd rfl (by kernel_rfl) (cx.an 2)
   ·exact xs4 rfl id fun cx=>run_fieldAd rfl (by kernel_rfl) (cx.an 3)
   ·exact xs4 rfl id fun cx=>run_load1 rfl (by kernel_rfl) (cx.an 4) (At.eltc (f:=(cellsF n)) (k:=6) (cellsF_len n) (eFo_at (CtxV.holdE cx (cx.init 6 _ rfl) rfl)) hkfj rfl)
   ·exact m2 rfl (fun _ _ _ h=>h) (fun cx=>(cx.an 6)) fun cx hq=>run_indexArrB (n:=24) (sz:=1) (m:=fx.1) (q:=fx.1) rfl (by kernel_rfl) (cx.ou 11) (mbv (cx.an 7) hq) (by omega) (by omega) (by omega)
   ·exact m2 rfl (fun _ _ _ h=>h) (fun cx=>(cx.an 6)) fun cx hq=>run_load1 rfl (by kernel_rfl) (mbv (cx.an 8) hq) (((cx.bi 4 rfl).cell fx.1).trans ((List.getElem?_toArray ..).trans (tk_nw (by omega))))
   ·exact m2 rfl (fun _ _ _ h=>h) (fun cx=>(cx.an 12)) fun cx hq=>run_indexSlM (e:=147) (m:=jj) (sz:=8) rfl (by kernel_rfl) (by kernel_rfl) (mbv (cx.an 13) hq) (mbv (cx.an 14) hq) (by have hq_:=hq; simp only [zB] at hq_; omega) (by have hq_:=hq; simp only [zB] at hq_; omega) (eFo_at (CtxV.holdE cx (cx.init 6 _ rfl) rfl)) (flatPos (sz:=8) (cellsF_len n) (by decide) (by have hq_:=hq; simp only [zB] at hq_; omega))
   ·exact m2 rfl (fun _ _ _ h=>h) (fun cx=>(cx.an 12)) fun cx hq=>run_fieldAd rfl (by kernel_rfl) (mbv (cx.an 15) hq)
   ·exact m2 rfl (fun _ _ _ h=>h) (fun cx=>(cx.an 12)) fun cx hq=>run_loadElt (f:=(cellsF n)) (m:=jj) (sz:=8) (off:=2) (n:=6) rfl (by kernel_rfl) (by kernel_rfl) (mbv (cx.an 16) hq) rfl (cellsF_len n) (eFo_at (CtxV.holdE cx (cx.init 6 _ rfl) rfl)) hkfj (fun k hk=>match k,hk with | 0, _=>rfl | 1, _=>rfl | 2, _=>rfl | 3, _=>rfl | 4, _=>rfl | 5, _=>rfl | k+6,hk=>absurd hk (by have hq_:=hq; simp only [zB] at hq_; omega))
   ·exact m2 rfl (fun _ _ _ h=>h) (fun cx=>(cx.an 12)) fun cx hq=>run_loadAr (n:=128) rfl (by kernel_rfl) (by kernel_rfl) (cx.ou 7) (cx.bi 1 rfl) (by simp [wsL,nwG_len,tkA_len,hT])
   ·exact m3 rfl (fun _ _ _ h=>h) (fun cx=>(cx.an 12)) fun cx hq=>⟨_, _,run_callF (args:=#[.agg #[vi fx.2.1,vi fx.2.2.1,vi fx.2.2.2.1,vi fx.2.2.2.2.1, .bool fx.2.2.2.2.2.1, .slice fA fx.2.2.2.2.2.2.length fC],vi hz, .agg (T.map (Value.int .i64)).toArray]) rfl cx.sees rfl (by kernel_rfl) (map3 (mbv (cx.an 17) hq) (mbv (cx.an 18) hq) (mbv (cx.an 19) hq)),rdead_any hz T g fx.2.1 fx.2.2.1 fx.2.2.2.1 fx.2.2.2.2.1 fx.2.2.2.2.2.1 _ _ _ _ hT hg⟩
  refine then_normal (wbs (fun hs177=>?_) fun hs177=>?_)
  ·have hs177p:=hs177
   simp only [zB] at hs177p
   obtain ⟨⟨hs177p1,hs177p2⟩,hs177p3⟩:=hs177p
   refine sqr (sqp [.m 230 24] ?_)
   refine sql (.pointer (some ⟨B10_10,fx.1,none⟩)) hst176 (fun cx=>run_indexArrB (n:=24) (sz:=1) (m:=fx.1) (q:=fx.1) rfl (by kernel_rfl) (cx.ou 10) (cx.ou 230) (by omega) (by omega) (by omega)) ?_
   refine sqc (eB B10_10 151 ((nwG (wasB (pvF Ps n)) (putM (hotM (dP g hz) (prL (dP g hz) g n (pvF Ps n) (rtL (pvF Ps n) 24).length).1 (allF' (pvF Ps n)) (prL (dP g hz) g n (pvF Ps n) (rtL (pvF Ps n) 24).length).2 jj) (fx.1:Int) (some (⟨#[]⟩:ByteArray)))).map Value.string).toArray) 3 hst176 (by
     refine svA fun ρ β W X cx=>?_
     exact dv_storeAr (m:=fx.1) rfl (cx.ou 231) (cx.co _) (by kernel_rfl) rfl rfl cx (cx.init 3 _ rfl) rfl (by first | (rw [List.length_map,nwG_len]; omega) | (rw [List.length_map,tkA_len]; omega)) rfl (set_nw (by omega) _) rfl rfl (fun σ β' X' hs hb hx=>hx)) fun W180 hst180=>?_
   refine blk_normal (then_normal (sqr (sqp [.m 200 23,sI 201 ((jj:Int)+1) (by omega), .m 23 201] ?_)))
   refine then_normal ?_
   have hh_:=hot_yes (p:=(dP g hz)) (tk:=(prL (dP g hz) g n (pvF Ps n) (rtL (pvF Ps n) 24).length).1) (m:=(prL (dP g hz) g n (pvF Ps n) (rtL (pvF Ps n) 24).length).2) hfx (by rw [dP]; exact hs177)
   rw [← hh_] at hst180
   refine ⟨(allF' (pvF Ps n)).length - ((jj+1)),by omega,?_⟩
   exact ⟨(jj+1),by omega,rfl,(by kernel_rfl),hst180.pk [0,1,2,3,4,5,6]⟩
  have hs177p:=hs177
  simp only [zB] at hs177p
  refine wp_skip (blk_normal (then_normal (sqr (sqp [.m 200 23,sI 201 ((jj:Int)+1) (by omega), .m 23 201] ?_))))
  refine then_normal ?_
  have hh_:=hot_no (p:=(dP g hz)) (tk:=(prL (dP g hz) g n (pvF Ps n) (rtL (pvF Ps n) 24).length).1) (m:=(prL (dP g hz) g n (pvF Ps n) (rtL (pvF Ps n) 24).length).2) hfx (by rw [dP]; exact hs177)
  rw [← hh_] at hst176
  refine ⟨(allF' (pvF Ps n)).length - ((jj+1)),by omega,?_⟩
  exact ⟨(jj+1),by omega,rfl,(by kernel_rfl),hst176.pk [0,1,2,3,4,5,6]⟩
 refine wp_exit (then_exit (then_exit (blk_eq (then_normal (wp_seq ?_)))))
 have hje:jj=(allF' (pvF Ps n)).length:=by omega
 subst hje
 rw [show hotM (dP g hz) (prL (dP g hz) g n (pvF Ps n) (rtL (pvF Ps n) 24).length).1 (allF' (pvF Ps n)) (prL (dP g hz) g n (pvF Ps n) (rtL (pvF Ps n) 24).length).2 (allF' (pvF Ps n)).length=pruM (dP g hz) g n (pvF Ps n) from rfl] at hst163
 refine sqr (sqp [.m 232 1] ?_)
 refine sql (.agg ((wsL (pvF Ps n)).map Value.string).toArray) hst163 (fun cx=>run_loadAr (n:=24) rfl (by kernel_rfl) (by kernel_rfl) (cx.ou 9) (cx.bi 2 rfl) (by simp [wsL,nwG_len,tkA_len,hT])) ?_
 refine sql (.agg ((nwG (wasB (pvF Ps n)) (pruM (dP g hz) g n (pvF Ps n))).map Value.string).toArray) hst163 (fun cx=>run_loadAr (n:=24) rfl (by kernel_rfl) (by kernel_rfl) (cx.ou 10) (cx.bi 3 rfl) (by simp [wsL,nwG_len,tkA_len,hT])) ?_
 refine sqk2 (fun A235_190 c235_190=> .slice A235_190 ((edL (pruM (dP g hz) g n (pvF Ps n)) (pvF Ps n) n 23).length) c235_190) (fun A235_190 c235_190=>eO 49 3 (.slice A235_190 ((edL (pruM (dP g hz) g n (pvF Ps n)) (pvF Ps n) n 23).length) c235_190) ((edL (pruM (dP g hz) g n (pvF Ps n)) (pvF Ps n) n 23).length) ((edL (pruM (dP g hz) g n (pvF Ps n)) (pvF Ps n) n 23).flatMap (cellsEd n))) hst163 (fun cx=>⟨_,(redits_any n (pvF Ps n) (pruM (dP g hz) g n (pvF Ps n)) _ (pru_good hwf (dP g hz) g n) hwf).mono (by rintro e W1 ⟨A4,c4,rfl,ho_,hx⟩; exact ⟨_, _,rfl,St.one hx (eO_new (n:=(edL (pruM (dP g hz) g n (pvF Ps n)) (pvF Ps n) n 23).length) (xs:=(edL (pruM (dP g hz) g n (pvF Ps n)) (pvF Ps n) n 23).flatMap (cellsEd n)) ho_)⟩),(map3 (cx.ou 232) (cx.ou 233) (cx.ou 234))⟩) fun A235_190 c235_190 W190 hst190=>?_
 refine sqp [.m 8 235] ?_
 refine then_normal (wp_ret ?_)
 refine bpr (.slice A235_190 ((edL (pruM (dP g hz) g n (pvF Ps n)) (pvF Ps n) n 23).length) c235_190) (results_1 Tryz.results18 rpt) ?_
 have ho_:=hst190.own' 7 rfl
 exact ⟨_, _,rfl,ho_,hst190.ext⟩
end
section
open Go.RowKit
theorem rfreeH_any (PA:Option Addr) (pc:Nat) (Ps:List PgD) (n:Int) (SA:Option Addr) (sc:Nat) (ss:List Int) (w:World) (hP:PgsAt w PA Ps) (hA:At w SA (ss.map (Value.int .i64))) (hsl:ss.length≤1000) (hsb:∀ x∈ss, -9223372036854775808≤x∧x≤9223372036854775807):
  Calls Tryz.prog 27 #[.agg #[.slice PA Ps.length pc], .int .i64 n, .slice SA ss.length sc] w (ChPost (edL (frM (pvF Ps n) n ss ss.length) (pvF Ps n) n 23) n w):=by
 have hwf:=hP.wf n
 go_enter Tryz.func27,Tryz.ntmps27
 have hst0:=St.start w
 refine wp_seq (sqr ?_)
 refine sqbx #[.slice PA Ps.length pc] hst0 fun B3_1 W1 hst1=>?_
 refine sqp [.k 6 (.slice none 0 0)] ?_
 refine then_normal (wp_seq (sqr ?_))
 refine sqlb 0 1 hst1 ?_
 refine sqp [.m 14 1] ?_
 refine sqk (.agg ((wsL (pvF Ps n)).map Value.string).toArray) hst1 (fun cx=>⟨_,ritems_any _ _ Ps n _ (hP.ext cx.upd.to_ext),(map2 (cx.ou 13) (cx.ou 14))⟩) fun W5 hst5=>?_
 refine sqn1 (fun x_=>pb x_) (fun B7_6=>vp B7_6) (fun B7_6=>eB B7_6 151 ((nwG (fun _=>(⟨#[]⟩:ByteArray)) (fun _=>none)).map Value.string).toArray) hst5 (by
   refine svA fun ρ β W X cx=>?_
   exact dv_alloc (cs:=((nwG (fun _=>(⟨#[]⟩:ByteArray)) (fun _=>none)).map Value.string).toArray) rfl (by kernel_rfl) rfl rfl (fun σ β' X' hs hb hv hx=>⟨hv,hx⟩)) fun B7_6 W6 hst6=>?_
 refine sqc (eB B7_6 151 ((wsL (pvF Ps n)).map Value.string).toArray) 1 hst6 (by
   refine svA fun ρ β W X cx=>?_
   exact dv_storeL (n:=24) rfl (cx.ou 7) (show _=Value.agg ((wsL (pvF Ps n)).map Value.string).toArray from (cx.ou 15)) (by kernel_rfl) (by simp [wsL,nwG_len,tkA_len]) (by simp [wsL,nwG_len,tkA_len]) (str_one _) cx (cx.init 1 _ rfl) rfl rfl rfl rfl (fun σ β' X' hs hb hx=>hx)) fun W7 hst7=>?_
 refine then_normal (wp_seq (sqr ?_))
 refine sql (.agg ((wsL (pvF Ps n)).map Value.string).toArray) hst7 (fun cx=>run_loadAr (n:=24) rfl (by kernel_rfl) (by kernel_rfl) (cx.ou 7) (cx.bi 1 rfl) (by simp [wsL,nwG_len,tkA_len])) ?_
 refine sqn1 (fun x_=>pb x_) (fun B8_9=>vp B8_9) (fun B8_9=>eB B8_9 151 ((nwG (fun _=>(⟨#[]⟩:ByteArray)) (fun _=>none)).map Value.string).toArray) hst7 (by
   refine svA fun ρ β W X cx=>?_
   exact dv_alloc (cs:=((nwG (fun _=>(⟨#[]⟩:ByteArray)) (fun _=>none)).map Value.string).toArray) rfl (by kernel_rfl) rfl rfl (fun σ β' X' hs hb hv hx=>⟨hv,hx⟩)) fun B8_9 W9 hst9=>?_
 refine sqc (eB B8_9 151 ((wsL (pvF Ps n)).map Value.string).toArray) 2 hst9 (by
   refine svA fun ρ β W X cx=>?_
   exact dv_storeL (n:=24) rfl (cx.ou 8) (show _=Value.agg ((wsL (pvF Ps n)).map Value.string).toArray from (cx.ou 16)) (by kernel_rfl) (by simp [wsL,nwG_len,tkA_len]) (by simp [wsL,nwG_len,tkA_len]) (str_one _) cx (cx.init 2 _ rfl) rfl rfl rfl rfl (fun σ β' X' hs hb hx=>hx)) fun W10 hst10=>?_
 refine then_normal (wp_seq (wp_seq (sqr (sqp [.k 9 (vi 0)] ?_))))
 refine then_normal (wp_block ?_)
 refine wp_loopT (fun t_ mz az W=>∃ i:Nat,i≤ss.length∧mz=ss.length - i∧az=⟨(ovr (jv az) [(9,9,0,[vi ((i:Int))]),(0,10,3,[]),(4,17,37,[])] t_).toArray,[]⟩∧St w [] [eB B3_1 30 #[.slice PA Ps.length pc],eB B7_6 151 ((wsL (pvF Ps n)).map Value.string).toArray,eB B8_9 151 ((nwG (wasB (pvF Ps n)) (frM (pvF Ps n) n ss i)).map Value.string).toArray] W) (ss.length - 0) ?_ ?_
 · -- the loop begins
   exact ⟨0,Nat.zero_le _,rfl,(by kernel_rfl),hst10.pk [0,1,2]⟩
 rintro n12 a12 W12 ⟨i,hi,rfl,hj_,hst12⟩
 refine ovz hj_ fun u12_=>?_
 refine wp_seq (wp_seq (sqr (sqp [.m 17 9, .m 18 2, .k 19 (vi ((ss.length:Int))), .k 20 (.bool (decide ((i:Int) < (ss.length:Int))))] ?_)))
 refine then_normal (wds (fun hs17 hs17p=>?_) fun hs17 hs17p=>?_)
 ·refine wp_skip (then_normal (wp_seq (wp_block (wp_seq (sqr (sqp [.m 23 1, .m 24 2, .m 25 9] ?_))))))
  refine sql (.pointer (some ((ad SA).add i))) hst12 (fun cx=>run_indexSl (e:=3) (m:=i) rfl (by kernel_rfl) (by kernel_rfl) (cx.ou 24) (cx.ou 25) (by omega) (by omega) (hA.ext cx.upd.to_ext) (by simp)) ?_
  refine sql (vi (ss.getD i 0)) hst12 (fun cx=>run_load1 rfl (by kernel_rfl) (cx.ou 26) (At.cellAd (hA.ext cx.upd.to_ext) (getD_int (by omega)))) ?_
  refine sqp [.k 28 (.agg #[vi n,vi (ss.getD i 0)])] ?_
  refine sqal #[vi 0,vi 0] hst12 fun B10_24 W24 hst24=>?_
  refine sqst (n:=2) 3 #[vi n,vi (ss.getD i 0)] hst24 fun W25 hst25=>?_
  refine then_normal (wp_seq ?_)
  obtain ⟨s,hN_s⟩:∃ z,ss.getD i 0=z:=⟨_,rfl⟩
  rw [hN_s] at hst25 ⊢
  have hsi:ss[i]? =some s:=by rw [← hN_s,List.getD_eq_getElem?_getD,List.getElem?_eq_getElem (by omega)]; rfl
  have hsb_:=hsb s (List.mem_of_getElem? hsi)
  refine sqr ?_
  refine sqlb 0 1 hst25 ?_
  refine sqlb 3 2 hst25 ?_
  refine sqk2s (fun A31_28 c31_28=> .slice A31_28 ((chF (pvF Ps n) n s).length) c31_28) (fun A31_28 c31_28 r4_28=>eFk 147 (.slice A31_28 ((chF (pvF Ps n) n s).length) c31_28) (chF (pvF Ps n) n s) n r4_28) hst25 (fun cx=>⟨_,(rchain_any _ _ Ps n s _ (hP.ext cx.upd.to_ext) (by omega)).mono (by rintro e W1 ⟨A4,c4,fp4,rfl,hc⟩; exact ⟨_, _, _,rfl,hc⟩),(map2 (cx.ou 29) (cx.ou 30))⟩) fun A31_28 c31_28 r4_28 W28 hst28=>?_
  refine sqp [.m 11 31] ?_
  refine then_normal (wp_seq (wp_seq (sqr (sqp [.k 12 (vi 0)] ?_))))
  refine then_normal (wp_block ?_)
  have hcl_:=chF_len (pvF Ps n) n s
  obtain ⟨ks,hks,hmO31⟩:=St.openFk (L1:=[eB B3_1 30 #[.slice PA Ps.length pc],eB B7_6 151 ((wsL (pvF Ps n)).map Value.string).toArray,eB B8_9 151 ((nwG (wasB (pvF Ps n)) (frM (pvF Ps n) n ss i)).map Value.string).toArray,eB B10_24 24 #[vi n,vi (s)]]) (L2:=[]) hst28
  simp only [List.cons_append,List.nil_append] at hmO31
  have hksl:ks.length=(chF (pvF Ps n) n s).length:=by rw [← hks,List.length_map]
  refine wp_loopT (fun t_ mz az W=>∃ kk:Nat,kk≤(chF (pvF Ps n) n s).length∧mz=(chF (pvF Ps n) n s).length - kk∧az=⟨(ovr (jv az) [(12,12,0,[vi ((kk:Int))]),(19,32,13,[])] t_).toArray,[]⟩∧St w [] [eB B3_1 30 #[.slice PA Ps.length pc],eB B7_6 151 ((wsL (pvF Ps n)).map Value.string).toArray,eB B8_9 151 ((nwG (wasB (pvF Ps n)) (blkG (chF (pvF Ps n) n s) (frM (pvF Ps n) n ss i) kk)).map Value.string).toArray,eB B10_24 24 #[vi n,vi (s)],eFo 147 (.slice A31_28 ((chF (pvF Ps n) n s).length) c31_28) (chF (pvF Ps n) n s).length n ks] W) ((chF (pvF Ps n) n s).length - 0) ?_ ?_
  · -- the loop begins
    exact ⟨0,Nat.zero_le _,rfl,(by kernel_rfl),hmO31.pk [0,1,2,3,4]⟩
  rintro n32 a32 W32 ⟨kk,hkk,rfl,hj_,hst32⟩
  refine ovz hj_ fun u32_=>?_
  refine wp_seq (wp_seq (sqr (sqp [.m 32 12, .m 33 11, .k 34 (vi (((chF (pvF Ps n) n s).length:Int))), .k 35 (.bool (decide ((kk:Int) < ((chF (pvF Ps n) n s).length:Int))))] ?_)))
  refine then_normal (wds (fun hs37 hs37p=>?_) fun hs37 hs37p=>?_)
  ·refine wp_skip (then_normal (wp_seq (wp_block ?_)))
   obtain ⟨fx,fA,fC,hkfj,hfx⟩:=ks_get (j:=kk) hks (by omega)
   have hfs:=slot_of hwf (chF_mem hwf _ (List.mem_of_getElem? hfx))
   refine sqr (sqp [.m 38 11, .m 39 12] ?_)
   refine sql (.pointer (some ((ad A31_28).add (kk*8)))) hst32 (fun cx=>run_indexSlM (e:=147) (m:=kk) (sz:=8) rfl (by kernel_rfl) (by kernel_rfl) (cx.ou 38) (cx.ou 39) (by omega) (by omega) (eFo_at (CtxV.holdE cx (cx.init 4 _ rfl) rfl)) (flatPos (sz:=8) (cellsF_len n) (by decide) (by omega))) ?_
   refine sql (.pointer (some ((ad A31_28).add (kk*8+0)))) hst32 (fun cx=>run_fieldAd rfl (by kernel_rfl) (cx.ou 40)) ?_
   refine sql (.pointer (some ((ad A31_28).add (kk*8+0+1)))) hst32 (fun cx=>run_fieldAd rfl (by kernel_rfl) (cx.ou 41)) ?_
   refine sql (vi ((fx.1:Int))) hst32 (fun cx=>run_load1 rfl (by kernel_rfl) (cx.ou 42) (At.eltc (f:=(cellsF n)) (k:=1) (cellsF_len n) (eFo_at (CtxV.holdE cx (cx.init 4 _ rfl) rfl)) hkfj rfl)) ?_
   refine sql (.pointer (some ⟨B8_9,fx.1,none⟩)) hst32 (fun cx=>run_indexArrB (n:=24) (sz:=1) (m:=fx.1) (q:=fx.1) rfl (by kernel_rfl) (cx.ou 8) (cx.ou 43) (by omega) (by omega) (by omega)) ?_
   refine sqc (eB B8_9 151 ((nwG (wasB (pvF Ps n)) (putM (blkG (chF (pvF Ps n) n s) (frM (pvF Ps n) n ss i) kk) (fx.1:Int) (some (⟨#[]⟩:ByteArray)))).map Value.string).toArray) 2 hst32 (by
     refine svA fun ρ β W X cx=>?_
     exact dv_storeAr (m:=fx.1) rfl (cx.ou 44) (cx.co _) (by kernel_rfl) rfl rfl cx (cx.init 2 _ rfl) rfl (by first | (rw [List.length_map,nwG_len]; omega) | (rw [List.length_map,tkA_len]; omega)) rfl (set_nw (by omega) _) rfl rfl (fun σ β' X' hs hb hx=>hx)) fun W45 hst45=>?_
   refine blk_normal (then_normal (sqr (sqp [.m 36 12,sI 37 ((kk:Int)+1) (by omega), .m 12 37] ?_)))
   refine then_normal ?_
   rw [← blkG_step hfx] at hst45
   refine ⟨(chF (pvF Ps n) n s).length - ((kk+1)),by omega,?_⟩
   exact ⟨(kk+1),by omega,rfl,(by kernel_rfl),hst45.pk [0,1,2,3,4]⟩
  refine wp_exit (then_exit (then_exit (blk_eq (then_normal (wp_seq ?_)))))
  have hke:kk=(chF (pvF Ps n) n s).length:=by omega
  subst hke
  refine sqr ?_
  refine sqlb 0 1 hst32 ?_
  refine sqlb 3 2 hst32 ?_
  refine sqk (vi ((rdF (pvF Ps n) s))) hst32 (fun cx=>⟨_,rredirect_any _ _ Ps n s _ (hP.ext cx.upd.to_ext),(map2 (cx.ou 45) (cx.ou 46))⟩) fun W51 hst51=>?_
  refine sqp [.k 48 (.bool (decide (0≤(rdF (pvF Ps n) s))))] ?_
  refine then_normal (wds (fun hs53 hs53p=>?_) fun hs53 hs53p=>?_)
  ·have hrb_:=rd_bd hwf (v:=(pvF Ps n)) (j:=s) (by omega)
   have hS1_:((s.toNat:Nat):Int)=s:=by omega
   refine sqr (sqp [.m 49 2, .m 50 9] ?_)
   refine sql (.pointer (some ((ad SA).add i))) hst51 (fun cx=>run_indexSl (e:=3) (m:=i) rfl (by kernel_rfl) (by kernel_rfl) (cx.ou 49) (cx.ou 50) (by omega) (by omega) (hA.ext cx.upd.to_ext) (by simp)) ?_
   refine sql (vi (ss.getD i 0)) hst51 (fun cx=>run_load1 rfl (by kernel_rfl) (cx.ou 51) (At.cellAd (hA.ext cx.upd.to_ext) (getD_int (by omega)))) ?_
   refine sql (.pointer (some ⟨B8_9,(ss.getD i 0).toNat,none⟩)) hst51 (fun cx=>run_indexArrB (n:=24) (sz:=1) (m:=(ss.getD i 0).toNat) (q:=(ss.getD i 0).toNat) rfl (by kernel_rfl) (cx.ou 8) (cx.ou 52) (by omega) (by omega) (by omega)) ?_
   refine sqc (eB B8_9 151 ((nwG (wasB (pvF Ps n)) (putM (blkG (chF (pvF Ps n) n s) (frM (pvF Ps n) n ss i) (chF (pvF Ps n) n s).length) ((ss.getD i 0).toNat:Int) (some (⟨#[]⟩:ByteArray)))).map Value.string).toArray) 2 hst51 (by
     refine svA fun ρ β W X cx=>?_
     exact dv_storeAr (m:=(ss.getD i 0).toNat) rfl (cx.ou 53) (cx.co _) (by kernel_rfl) rfl rfl cx (cx.init 2 _ rfl) rfl (by first | (rw [List.length_map,nwG_len]; omega) | (rw [List.length_map,tkA_len]; omega)) rfl (set_nw (by omega) _) rfl rfl (fun σ β' X' hs hb hx=>hx)) fun W59 hst59=>?_
   refine blk_normal (then_normal (sqr (sqp [.m 21 9,sI 22 ((i:Int)+1) (by omega), .m 9 22] ?_)))
   refine then_normal ?_
   have hfs_:frM (pvF Ps n) n ss (i+1)=putM (blkG (chF (pvF Ps n) n s) (frM (pvF Ps n) n ss i) (chF (pvF Ps n) n s).length) s (some (⟨#[]⟩:ByteArray)):=by rw [fr_step hsi,frS,if_pos (by omega)]
   rw [hN_s,hS1_] at hst59
   rw [← hfs_] at hst59
   refine ⟨ss.length - ((i+1)),by omega,?_⟩
   exact ⟨(i+1),by omega,rfl,(by kernel_rfl),hst59.pk [0,1,2]⟩
  refine wp_skip (blk_normal (then_normal (sqr (sqp [.m 21 9,sI 22 ((i:Int)+1) (by omega), .m 9 22] ?_))))
  refine then_normal ?_
  have hfs_:frM (pvF Ps n) n ss (i+1)=blkG (chF (pvF Ps n) n s) (frM (pvF Ps n) n ss i) (chF (pvF Ps n) n s).length:=by rw [fr_step hsi,frS,if_neg (by omega)]
  rw [← hfs_] at hst51
  refine ⟨ss.length - ((i+1)),by omega,?_⟩
  exact ⟨(i+1),by omega,rfl,(by kernel_rfl),hst51.pk [0,1,2]⟩
 refine wp_exit (then_exit (then_exit (blk_eq (then_normal (wp_seq ?_)))))
 have hie:i=ss.length:=by omega
 subst hie
 refine sqr (sqp [.m 54 1] ?_)
 refine sql (.agg ((wsL (pvF Ps n)).map Value.string).toArray) hst12 (fun cx=>run_loadAr (n:=24) rfl (by kernel_rfl) (by kernel_rfl) (cx.ou 7) (cx.bi 1 rfl) (by simp [wsL,nwG_len,tkA_len])) ?_
 refine sql (.agg ((nwG (wasB (pvF Ps n)) (frM (pvF Ps n) n ss ss.length)).map Value.string).toArray) hst12 (fun cx=>run_loadAr (n:=24) rfl (by kernel_rfl) (by kernel_rfl) (cx.ou 8) (cx.bi 2 rfl) (by simp [wsL,nwG_len,tkA_len])) ?_
 refine sqk2 (fun A57_69 c57_69=> .slice A57_69 ((edL (frM (pvF Ps n) n ss ss.length) (pvF Ps n) n 23).length) c57_69) (fun A57_69 c57_69=>eO 49 3 (.slice A57_69 ((edL (frM (pvF Ps n) n ss ss.length) (pvF Ps n) n 23).length) c57_69) ((edL (frM (pvF Ps n) n ss ss.length) (pvF Ps n) n 23).length) ((edL (frM (pvF Ps n) n ss ss.length) (pvF Ps n) n 23).flatMap (cellsEd n))) hst12 (fun cx=>⟨_,(redits_any n (pvF Ps n) (frM (pvF Ps n) n ss ss.length) _ (fr_good hwf n ss _ (Nat.le_refl _)) hwf).mono (by rintro e W1 ⟨A4,c4,rfl,ho_,hx⟩; exact ⟨_, _,rfl,St.one hx (eO_new (n:=(edL (frM (pvF Ps n) n ss ss.length) (pvF Ps n) n 23).length) (xs:=(edL (frM (pvF Ps n) n ss ss.length) (pvF Ps n) n 23).flatMap (cellsEd n)) ho_)⟩),(map3 (cx.ou 54) (cx.ou 55) (cx.ou 56))⟩) fun A57_69 c57_69 W69 hst69=>?_
 refine sqp [.m 6 57] ?_
 refine then_normal (wp_ret ?_)
 refine bpr (.slice A57_69 ((edL (frM (pvF Ps n) n ss ss.length) (pvF Ps n) n 23).length) c57_69) (results_1 Tryz.results27 rpt) ?_
 have ho_:=hst69.own' 3 rfl
 exact ⟨_, _,rfl,ho_,hst69.ext⟩
end
end Go.Proofs.YtjnplglnnamfdaaGreatDoor

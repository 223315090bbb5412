import Derived.Test.YtcdjaepgahbhfaaGreatZ1
import Derived.Deep.QuietTactic
import Derived.BigQuiet
import Derived.Shelf.Strings.Builder1
import Derived.Lib.UnsafeStr
import Derived.Shelf.Strings.Builder2
import Derived.Shelf.Strings.OnBuilder
import Derived.Shelf.Strings.BuilderF
import Derived.Shelf.Strings.Prefix
import Derived.Shelf.Bits.Mul64
import Derived.Shelf.Strings.Repeat
import Derived.Ground.Names2Prog
import Derived.Shelf.Slices.Clone
import Derived.Shelf.Slices.SearchI
import Derived.Shelf.Slices.Empties
import Derived.Ground.SlgnProg
import Derived.Shelf.SlicesE.Clone
import Derived.Test.YtcdjaepgahbhfaaGreatProg
set_option linter.unusedVariables false
set_option linter.unusedSimpArgs false
set_option maxRecDepth 100000
set_option maxHeartbeats 16000000
namespace Go.Proofs.YtcdjaepgahbhfaaGreat
variable{L':Nat->List Ent}{P:Program}{Q:Exit->Act->World->Prop}{W W' w w1:World}{a a0:Act}{b g i n off q sz ty ty':Nat}{c:Call}{cs:Array Value}{d0:List Deferred}{l:List UInt8}{os os' os1:List Oper}{p:Nat×Bool}{r:Option Nat}{ss:List ByteArray}{t t' t1 xs:List Value}{x y:Operand}
section
open Go.RowKit
theorem bq{α:Type}{f:α->List Value}{ts:List α}(hf:∀x,(f x).length=sz)(h0:0<sz)(h:0<ts.length):0<(ts.flatMap f).length:=by
 cases ts with
 |nil=>simp at h
 |cons a l=>rw[List.flatMap_cons,List.length_append,hf];omega
def gS:List Value->Nat->Value
 | [],_=>undef
 |a:: _,0=>a
 |_::l,k+1=>gS l k
theorem um:∀{l:List Value}{k:Nat},k<l.length->l[k]? =some (gS l k)
 | [],k,h=>by simp at h
 |a::l,0,h=>rfl
 |a::l,k+1,h=>by rw[List.getElem?_cons_succ,gS];exact um (by simpa using h)
def eZ:Ent:=⟨[],fun _=>True⟩
def iM(kl:List Nat):Nat->List Ent->List Ent
 |_,[]=>[]
 |k,e::l=>if kl.contains k then iM kl (k+1) l else e::iM kl (k+1) l
theorem sY{kl:List Nat}:∀{l:List Ent}{k:Nat}{e:Ent},e∈iM kl k l->∃j,l[j]? =some e/\kl.contains (k+j)=false
 | [],k,e,h=>by cases h
 |x::l,k,e,h=>by
  rw[iM] at h
  split at h
  ·obtain⟨j,h1,h2⟩:=sY h
   exact⟨j+1,by simpa using h1,by rw[show k+(j+1)=k+1+j by omega];exact h2⟩
  ·rename_i hc
   rcases List.mem_cons.1 h with rfl|h
   ·exact⟨0,rfl,by simpa using hc⟩
   ·obtain⟨j,h1,h2⟩:=sY h
    exact⟨j+1,by simpa using h1,by rw[show k+(j+1)=k+1+j by omega];exact h2⟩
theorem mM{kl:List Nat}:∀{l:List Ent}{k:Nat},(iM kl k l).Sublist l
 | [],k=>List.Sublist.refl _
 |x::l,k=>by
  rw[iM]
  split
  ·exact List.Sublist.cons _ mM
  ·exact List.Sublist.cons_cons _ mM
theorem my(E:Ent)(q:Nat):∀(L:List Ent) (k:Nat),k<=q->q<k+L.length->(iM [q] k L++[E]).Perm (L.set (q-k) E)
 | [],k,h1,h2=>by simp at h2;omega
 |x::l,k,h1,h2=>by
  by_cases hq:k=q
  ·subst hq
   have hr:∀(l:List Ent) (j:Nat),k<j->iM [k] j l=l:=by
    intro l
    induction l with
    |nil=>intro j _;rfl
    |cons y l ih=>intro j hj;rw[iM,if_neg (by simp;omega),ih (j+1) (by omega)]
   rw[iM,if_pos (by simp),hr l (k+1) (by omega),Nat.sub_self]
   exact List.perm_append_singleton E l
  ·rw[iM,if_neg (by simp;omega),show q-k=(q-(k+1))+1 by omega,List.set_cons_succ]
   exact(my E q l (k+1) (by omega) (by simp at h2;omega)).cons x
theorem St.perm{w0:World}{bor:List Nat}{L L':List Ent}(h:St w0 bor L W)(hp:L.Perm L'):St w0 bor L' W:=
 ⟨h.upd,fun e he=>h.ok e (hp.mem_iff.2 he),(hp.pairwise_iff fun hab=>Ent.apart.symm hab).1 h.apart⟩
theorem mK:∀{l:List Ent}{k:Nat},iM [] k l=l
 | [],_=>rfl
 |x::l,k=>by rw[iM,if_neg (by simp),mK]
section
variable{P:Program}{Q:Exit->Act->World->Prop}{rest:List Oper}{o:Oper}{ops:Array Oper}{t0:Array Value}{d0:List Deferred}{w0 w:World}{bor:List Nat}{L:List Ent}
 {D:Nat->(Tmp->Value)->(Tmp->Value)->(Nat->Ent)->Prop}
theorem o3(bf:St w0 bor L w)(d:Tmp->Value):CtxV #[o] [0] ⟨t0,d0⟩ w0 bor L [List.range L.length] D 0 (Act.eval ⟨t0,d0⟩) d w (fun q=>L.getD q eZ) where
 sees:=⟨fun _=>rfl,fun _=>rfl,fun _=>rfl⟩
 upd:=bf.upd
 out:=fun _ _=>rfl
 anc:=fun j h=>by simp[eo] at h
 init:=fun q e h=>by simp[h]
 ok:=fun q h=>by
  have hq:q<L.length:=by simpa[atV] using h
  try dsimp only
  rw[List.getD_eq_getElem?_getD,List.getElem?_eq_getElem hq]
  exact bf.ok _ (List.getElem_mem hq)
 ap:=fun q q' h h' hne=>by
  have hq:q<L.length:=by simpa[atV] using h
  have hq':q'<L.length:=by simpa[atV] using h'
  try dsimp only
  rw[List.getD_eq_getElem?_getD,List.getElem?_eq_getElem hq,List.getD_eq_getElem?_getD,List.getElem?_eq_getElem hq']
  rcases Nat.lt_or_ge q q' with h1|h1
  ·exact List.pairwise_iff_getElem.1 bf.apart q q' hq hq' h1
  ·exact(List.pairwise_iff_getElem.1 bf.apart q' q hq' hq (by omega)).symm
theorem Lx(bf:St w0 bor L w){kl:List Nat}{N:List Ent}{w':World}(hk:∀q∈kl,q<L.length)(h:EffV (kl.flatMap fun q=>(L.getD q eZ).fp) w w' N):St w0 bor (iM kl 0 L++N) w':=by
 have hin:∀q,q<L.length->L.getD q eZ∈L:=fun q hq=>by
  rw[List.getD_eq_getElem?_getD,List.getElem?_eq_getElem hq];exact List.getElem_mem hq
 have hS:∀k∈kl.flatMap (fun q=>(L.getD q eZ).fp),(k∈bor\/w0.heap.size<=k)/\k<w.heap.size:=fun k hk'=>by
  obtain⟨q,hq,hkq⟩:=List.mem_flatMap.1 hk'
  exact(bf.ok _ (hin q (hk q hq))).own k hkq
 have hno:∀e∈iM kl 0 L,∀k∈e.fp,k∉kl.flatMap (fun q=>(L.getD q eZ).fp):=fun e he k hke hkS=>by
  obtain⟨j,h1,h2⟩:=sY he
  obtain⟨hj,rfl⟩:=List.getElem?_eq_some_iff.1 h1
  obtain⟨q,hq,hkq⟩:=List.mem_flatMap.1 hkS
  have hq':=hk q hq
  rw[List.getD_eq_getElem?_getD,List.getElem?_eq_getElem hq'] at hkq
  have hne:q≠j:=by
   rintro rfl
   rw[Nat.zero_add] at h2
   have:=List.contains_iff_mem.2 hq
   rw[h2] at this;cases this
  rcases Nat.lt_or_ge q j with h3|h3
  ·exact List.pairwise_iff_getElem.1 bf.apart q j hq' hj h3 k hkq hke
  ·exact List.pairwise_iff_getElem.1 bf.apart j q hj hq' (by omega) k hke hkq
 refine⟨bf.upd.join h.upd fun i hi=>(hS i hi).1,fun e he=>?_,?_⟩
 ·rcases List.mem_append.1 he with he|he
  ·exact(bf.ok e (mM.subset he)).keep h.upd (hno e he)
  ·obtain⟨h1,h2,h3⟩:=h.ok e he
   refine⟨h1,h2,fun k hk'=>⟨?_,(h3 k hk').2⟩⟩
   rcases(h3 k hk').1 with h4|h4
   ·exact(hS k h4).1
   ·exact .inr (Nat.le_trans bf.upd.size h4)
 ·rw[List.pairwise_append]
  refine⟨bf.apart.sublist mM,h.apart,fun a ha b hb k hka hkb=>?_⟩
  rcases((h.ok b hb).2.2 k hkb).1 with h4|h4
  ·exact hno a ha k hka h4
  ·have:=((bf.ok a (mM.subset ha)).own k hka).2
   omega
theorem sqD(m:Nat)(kl:List Nat)(bf:St w0 bor L w)(h2:am P o (Act.eval ⟨t0,d0⟩) w (bX [List.range' L.length m] [kl] D 0 o.dst (Act.eval ⟨t0,d0⟩) (fun _=>undef) w fun q=>L.getD q eZ))(hg:o.guard=none)(hk:∀q∈kl,q<L.length)
  (hn:∀(e f:Tmp->Value) (X:Nat->Ent) (v:Value) (w':World),D 0 e f X->(∀d,o.dst=some d->e d=v/\f d=v)->St w0 bor (iM kl 0 L++(List.range' L.length m).map X) w'->wpList P ops Q rest (Act.put ⟨t0,d0⟩ o.dst v) w'):
  wpList P ops Q (o::rest) ⟨t0,d0⟩ w:=by
 refine wpList_plain hg fun K hK=>?_
 refine h2.wp fun v w' ⟨N,hl,heff,hD⟩=>hK _ _ ?_
 have hl':N.length=m:=by simpa[atV] using hl
 have hmap:(List.range' L.length m).map (fun q=>if q<L.length then L.getD q eZ else N.getD (q-L.length) eZ)=N:=by
  apply List.ext_getElem
  ·simp[hl']
  ·intro i h3 h4
   simp only[List.getElem_map,List.getElem_range']
   rw[if_neg (by omega),List.getD_eq_getElem?_getD,show L.length+1*i-L.length=i by omega,List.getElem?_eq_getElem h4];rfl
 have hDD:=hD (fun t=>if o.dst=some t then v else Act.eval ⟨t0,d0⟩ (.tmp t)) (fun t=>if o.dst=some t then v else undef) (fun q=>if q<L.length then L.getD q eZ else N.getD (q-L.length) eZ)
  (fun t ht=>if_neg ht) (fun d hd=>if_pos hd) (fun t ht=>if_neg ht) (fun d hd=>if_pos hd) (fun q hq=>?_) (by simpa[atV] using hmap)
 ·exact hn _ _ _ v w' hDD (fun d hd=>⟨if_pos hd,if_pos hd⟩) (by rw[hmap];exact Lx bf hk (by simpa[atV] using heff))
 ·dsimp only
  split
  ·rfl
  ·rename_i h5
   have h6:¬q<L.length+m:=fun h7=>hq (by simp only[atV,List.getD_cons_zero,List.mem_range'_1];omega)
   rw[List.getD_eq_getElem?_getD,List.getElem?_eq_none (by omega),List.getD_eq_getElem?_getD,List.getElem?_eq_none (by omega)]
theorem sqG(m:Nat)(kl:List Nat)(bf:St w0 bor L w)(hs:bM P #[o] [0] ⟨t0,d0⟩ w0 bor L [List.range L.length] [List.range' L.length m] [kl] D 0)(hg:o.guard=none)(hk:∀q∈kl,q<L.length)
  (hn:∀(e f:Tmp->Value) (X:Nat->Ent) (v:Value) (w':World),D 0 e f X->(∀d,o.dst=some d->e d=v/\f d=v)->St w0 bor (iM kl 0 L++(List.range' L.length m).map X) w'->wpList P ops Q rest (Act.put ⟨t0,d0⟩ o.dst v) w'):
  wpList P ops Q (o::rest) ⟨t0,d0⟩ w:=by
 have h1:=hs _ (fun _=>undef) w _ (o3 bf _)
 have h2:am P o (Act.eval ⟨t0,d0⟩) w (bX [List.range' L.length m] [kl] D 0 o.dst (Act.eval ⟨t0,d0⟩) (fun _=>undef) w fun q=>L.getD q eZ):=by
  have h1':ct #[o] (Act.eval ⟨t0,d0⟩) o (am P o (Act.eval ⟨t0,d0⟩) w (bX [List.range' L.length m] [kl] D 0 o.dst (Act.eval ⟨t0,d0⟩) (fun _=>undef) w fun q=>L.getD q eZ)) _:=h1
  unfold ct at h1'
  rw[hg] at h1'
  exact h1'
 exact sqD m kl bf h2 hg hk hn
end
section
variable{P:Program}{Q:Exit->Act->World->Prop}{rest:List Oper}{o:Oper}{ops:Array Oper}{t t':List Value}{d0:List Deferred}{w0 w:World}{bor:List Nat}{L:List Ent}
abbrev rg(L:List Ent):List (List Nat):=[List.range L.length]
theorem sqv{d:Tmp}(V:Value)(bf:St w0 bor L w)(hs:bM P #[o] [0] ⟨t.toArray,d0⟩ w0 bor L (rg L) [[]] [[]] (fun _ f _ _=>f d=V) 0)
  (h:∀w',St w0 bor L w'->wpList P ops Q rest ⟨t'.toArray,d0⟩ w') (hg:o.guard=none:=by rfl) (hd:o.dst=some d:=by rfl) (ht:t.set d V=t':=by dsimp only[List.set]):wpList P ops Q (o::rest) ⟨t.toArray,d0⟩ w:=by
 refine sqG 0 [] bf hs hg (fun q hq=>by cases hq) fun f j X v w' hD hv hs'=>?_
 have e:v=V:=by rw[<-hD,(hv d hd).1]
 subst e
 rw[mK,List.range'_zero,List.map_nil,List.append_nil] at hs'
 rw[hd]
 show wpList P ops Q rest ⟨t.toArray.setIfInBounds d v,d0⟩ w'
 rw[List.setIfInBounds_toArray,ht]
 exact h w' hs'
theorem sql{d:Tmp}(V:Value)(bf:St w0 bor L w)(hr:∀{e:Operand->Value}{j:Tmp->Value}{W:World}{X:Nat->Ent},CtxV #[o] [0] ⟨t.toArray,d0⟩ w0 bor L (rg L) (fun _ _ _ _=>True) 0 e j W X->(execOp e o).run P W= .ok (.value V) W)
  (h:wpList P ops Q rest ⟨t'.toArray,d0⟩ w) (hg:o.guard=none:=by rfl) (hd:o.dst=some d:=by rfl) (ht:t.set d V=t':=by dsimp only[List.set]):wpList P ops Q (o::rest) ⟨t.toArray,d0⟩ w:=by
 refine wpList_plain hg fun K hK=>?_
 refine am.wp (post:=fun v w'=>v=V/\w'=w) (am.value (hr (o3 bf fun _=>undef)) ⟨rfl,rfl⟩) fun v w' ⟨e1,e2⟩=>hK _ _ ?_
 subst e1 e2
 rw[hd]
 show wpList P ops Q rest ⟨t.toArray.setIfInBounds d v,d0⟩ w'
 rw[List.setIfInBounds_toArray,ht]
 exact h
theorem sqN{Z:Type}{d:Tmp}(f:Value->Ent->Z)(V:Z->Value)(E:Z->Ent)(bf:St w0 bor L w)(hs:bM P #[o] [0] ⟨t.toArray,d0⟩ w0 bor L (rg L) [[L.length]] [[]] (fun _ j e X=>j d=V (f (e d) (X L.length))/\X L.length=E (f (e d) (X L.length))) 0)
  (h:∀z w',St w0 bor (L++[E z]) w'->wpList P ops Q rest ⟨(t.set d (V z)).toArray,d0⟩ w') (hg:o.guard=none) (hd:o.dst=some d):wpList P ops Q (o::rest) ⟨t.toArray,d0⟩ w:=by
 refine sqG 1 [] bf hs hg (fun q hq=>by cases hq) fun j e X v w' hD hv hs'=>?_
 rw[(hv d hd).1,(hv d hd).2] at hD
 have h2:=h (f v (X L.length)) w' (by rw[<-hD.2];rw[mK] at hs';exact hs')
 rw[<-hD.1] at h2
 rw[hd]
 show wpList P ops Q rest ⟨t.toArray.setIfInBounds d v,d0⟩ w'
 rw[List.setIfInBounds_toArray]
 exact h2
theorem sqC{Z:Type}{d:Tmp}(f:Value->Ent->Z)(V:Z->Value)(E:Z->Ent)(q:Nat)(bf:St w0 bor L w)(hs:bM P #[o] [0] ⟨t.toArray,d0⟩ w0 bor L (rg L) [[L.length]] [[q]] (fun _ j e X=>j d=V (f (e d) (X L.length))/\X L.length=E (f (e d) (X L.length))) 0)
  (h:∀z w',St w0 bor (L.set q (E z)) w'->wpList P ops Q rest ⟨(t.set d (V z)).toArray,d0⟩ w') (hk:Nat.blt q L.length=true) (hg:o.guard=none) (hd:o.dst=some d):wpList P ops Q (o::rest) ⟨t.toArray,d0⟩ w:=by
 refine sqG 1 [q] bf hs hg (fun x hx=>by rw[List.mem_singleton.1 hx];simpa using hk) fun j e X v w' hD hv hs'=>?_
 rw[(hv d hd).1,(hv d hd).2] at hD
 have h2:=h (f v (X L.length)) w' (by rw[<-hD.2];exact hs'.perm (my _ q L 0 (Nat.zero_le _) (by simpa using hk)))
 rw[<-hD.1] at h2
 rw[hd]
 show wpList P ops Q rest ⟨t.toArray.setIfInBounds d v,d0⟩ w'
 rw[List.setIfInBounds_toArray]
 exact h2
theorem ej{Z:Type}{d:Tmp}{L':Z->List Ent}{t':Z->List Value}(f0:Value->Z)(V:Z->Value)(E:Z->Ent)(bf:St w0 bor L w)(hs:bM P #[o] [0] ⟨t.toArray,d0⟩ w0 bor L (rg L) [[L.length]] [[]] (fun _ f e X=>f d=V (f0 (e d))/\X L.length=E (f0 (e d))) 0)
  (h:∀z0 w',St w0 bor (L' z0) w'->wpList P ops Q rest ⟨(t' z0).toArray,d0⟩ w') (hg:o.guard=none:=by rfl) (hd:o.dst=some d:=by rfl) (ht:∀z0,t.set d (V z0)=(t' z0):=by intro z0;dsimp only[List.set]) (hL:∀z0,L++[E z0]=(L' z0):=by intro z0;dsimp only[List.cons_append,List.nil_append]):
  wpList P ops Q (o::rest) ⟨t.toArray,d0⟩ w:=
 sqN (fun v x=>f0 v) (fun r=>V r) (fun r=>E r) bf hs (fun r w' hw=>by rw[ht];exact h r w' (hL r ▸ hw)) hg hd
theorem fO{d:Tmp}{L':List Ent}{t':List Value}(V:Value)(E:Ent)(q:Nat)(bf:St w0 bor L w)(hs:bM P #[o] [0] ⟨t.toArray,d0⟩ w0 bor L (rg L) [[L.length]] [[q]] (fun _ e f X=>e d=V/\X L.length=E) 0)
  (h:∀w',St w0 bor L' w'->wpList P ops Q rest ⟨t'.toArray,d0⟩ w') (hg:o.guard=none:=by rfl) (hd:o.dst=some d:=by rfl) (ht:t.set d V=t':=by dsimp only[List.set]) (hL:L.set q (E)=L':=by dsimp only[List.set]) (hk:Nat.blt q L.length=true:=by rfl):
  wpList P ops Q (o::rest) ⟨t.toArray,d0⟩ w:=
 sqC (fun _ _=>()) (fun r=>V) (fun r=>E) q bf hs (fun r w' hw=>by rw[ht];exact h w' (hL ▸ hw)) hk hg hd
theorem bN{R:Type}{d:Tmp}{L':R->List Ent}{t':List Value}(g:Ent->R)(V:Value)(E:R->Ent)(q:Nat)(bf:St w0 bor L w)(hs:bM P #[o] [0] ⟨t.toArray,d0⟩ w0 bor L (rg L) [[L.length]] [[q]] (fun _ e f X=>e d=V/\X L.length=E (g (X L.length))) 0)
  (h:∀r w',St w0 bor (L' r) w'->wpList P ops Q rest ⟨t'.toArray,d0⟩ w') (hg:o.guard=none:=by rfl) (hd:o.dst=some d:=by rfl) (ht:t.set d V=t':=by dsimp only[List.set]) (hL:∀r,L.set q (E r)=(L' r):=by intro r;dsimp only[List.set]) (hk:Nat.blt q L.length=true:=by rfl):
  wpList P ops Q (o::rest) ⟨t.toArray,d0⟩ w:=
 sqC (fun v x=>g x) (fun r=>V) (fun r=>E r) q bf hs (fun r w' hw=>by rw[ht];exact h r w' (hL r ▸ hw)) hk hg hd
theorem O7{Z:Type}{d:Tmp}{L':Z->List Ent}{t':Z->List Value}(f0:Value->Z)(V:Z->Value)(E:Z->Ent)(q:Nat)(bf:St w0 bor L w)(hs:bM P #[o] [0] ⟨t.toArray,d0⟩ w0 bor L (rg L) [[L.length]] [[q]] (fun _ f e X=>f d=V (f0 (e d))/\X L.length=E (f0 (e d))) 0)
  (h:∀z0 w',St w0 bor (L' z0) w'->wpList P ops Q rest ⟨(t' z0).toArray,d0⟩ w') (hg:o.guard=none:=by rfl) (hd:o.dst=some d:=by rfl) (ht:∀z0,t.set d (V z0)=(t' z0):=by intro z0;dsimp only[List.set]) (hL:∀z0,L.set q (E z0)=(L' z0):=by intro z0;dsimp only[List.set]) (hk:Nat.blt q L.length=true:=by rfl):
  wpList P ops Q (o::rest) ⟨t.toArray,d0⟩ w:=
 sqC (fun v x=>f0 v) (fun r=>V r) (fun r=>E r) q bf hs (fun r w' hw=>by rw[ht];exact h r w' (hL r ▸ hw)) hk hg hd
theorem pi{Z:Type}{R:Type}{d:Tmp}{L':Z->R->List Ent}{t':Z->List Value}(f0:Value->Z)(g:Ent->R)(V:Z->Value)(E:Z->R->Ent)(q:Nat)(bf:St w0 bor L w)(hs:bM P #[o] [0] ⟨t.toArray,d0⟩ w0 bor L (rg L) [[L.length]] [[q]] (fun _ f e X=>f d=V (f0 (e d))/\X L.length=E (f0 (e d)) (g (X L.length))) 0)
  (h:∀z0 r w',St w0 bor (L' z0 r) w'->wpList P ops Q rest ⟨(t' z0).toArray,d0⟩ w') (hg:o.guard=none:=by rfl) (hd:o.dst=some d:=by rfl) (ht:∀z0,t.set d (V z0)=(t' z0):=by intro z0;dsimp only[List.set]) (hL:∀z0 r,L.set q (E z0 r)=(L' z0 r):=by intro z0 r;dsimp only[List.set]) (hk:Nat.blt q L.length=true:=by rfl):
  wpList P ops Q (o::rest) ⟨t.toArray,d0⟩ w:=
 sqC (fun v x=>((f0 v),(g x))) (fun r=>V r.1) (fun r=>E r.1 r.2) q bf hs (fun r w' hw=>by rw[ht];exact h r.1 r.2 w' (hL r.1 r.2 ▸ hw)) hk hg hd
theorem sQ{Z:Type}{Y:Type}{d:Tmp}{L':Z->Y->List Ent}{t':Z->Y->List Value}(f0:Value->Z)(f1:Value->Y)(V:Z->Y->Value)(E:Z->Y->Ent)(q:Nat)(bf:St w0 bor L w)(hs:bM P #[o] [0] ⟨t.toArray,d0⟩ w0 bor L (rg L) [[L.length]] [[q]] (fun _ f e X=>f d=V (f0 (e d)) (f1 (e d))/\X L.length=E (f0 (e d)) (f1 (e d))) 0)
  (h:∀z0 z1 w',St w0 bor (L' z0 z1) w'->wpList P ops Q rest ⟨(t' z0 z1).toArray,d0⟩ w') (hg:o.guard=none:=by rfl) (hd:o.dst=some d:=by rfl) (ht:∀z0 z1,t.set d (V z0 z1)=(t' z0 z1):=by intro z0 z1;dsimp only[List.set]) (hL:∀z0 z1,L.set q (E z0 z1)=(L' z0 z1):=by intro z0 z1;dsimp only[List.set]) (hk:Nat.blt q L.length=true:=by rfl):
  wpList P ops Q (o::rest) ⟨t.toArray,d0⟩ w:=
 sqC (fun v x=>((f0 v),(f1 v))) (fun r=>V r.1 r.2) (fun r=>E r.1 r.2) q bf hs (fun r w' hw=>by rw[ht];exact h r.1 r.2 w' (hL r.1 r.2 ▸ hw)) hk hg hd
theorem xf{Z:Type}{Y:Type}{R:Type}{d:Tmp}{L':Z->Y->R->List Ent}{t':Z->Y->List Value}(f0:Value->Z)(f1:Value->Y)(g:Ent->R)(V:Z->Y->Value)(E:Z->Y->R->Ent)(q:Nat)(bf:St w0 bor L w)(hs:bM P #[o] [0] ⟨t.toArray,d0⟩ w0 bor L (rg L) [[L.length]] [[q]] (fun _ f e X=>f d=V (f0 (e d)) (f1 (e d))/\X L.length=E (f0 (e d)) (f1 (e d)) (g (X L.length))) 0)
  (h:∀z0 z1 r w',St w0 bor (L' z0 z1 r) w'->wpList P ops Q rest ⟨(t' z0 z1).toArray,d0⟩ w') (hg:o.guard=none:=by rfl) (hd:o.dst=some d:=by rfl) (ht:∀z0 z1,t.set d (V z0 z1)=(t' z0 z1):=by intro z0 z1;dsimp only[List.set]) (hL:∀z0 z1 r,L.set q (E z0 z1 r)=(L' z0 z1 r):=by intro z0 z1 r;dsimp only[List.set]) (hk:Nat.blt q L.length=true:=by rfl):
  wpList P ops Q (o::rest) ⟨t.toArray,d0⟩ w:=
 sqC (fun v x=>((f0 v),(f1 v),(g x))) (fun r=>V r.1 r.2.1) (fun r=>E r.1 r.2.1 r.2.2) q bf hs (fun r w' hw=>by rw[ht];exact h r.1 r.2.1 r.2.2 w' (hL r.1 r.2.1 r.2.2 ▸ hw)) hk hg hd
theorem sqc{L':List Ent}(E:Ent)(q:Nat)(bf:St w0 bor L w)(hs:bM P #[o] [0] ⟨t.toArray,d0⟩ w0 bor L (rg L) [[L.length]] [[q]] (fun _ _ _ X=>X L.length=E) 0)
  (h:∀w',St w0 bor (L') w'->wpList P ops Q rest ⟨t.toArray,d0⟩ w') (hL:L.set q (E)=(L'):=by dsimp only[List.set]) (hk:Nat.blt q L.length=true:=by rfl) (hg:o.guard=none:=by rfl) (hd:o.dst=none:=by rfl):
  wpList P ops Q (o::rest) ⟨t.toArray,d0⟩ w:=by
 refine sqG 1 [q] bf hs hg (fun x hx=>by rw[List.mem_singleton.1 hx];simpa using hk) fun d e X v w' hD hv hs'=>?_
 have e2:X L.length=E:=hD
 rw[show List.range' L.length 1=[L.length] from rfl,List.map_cons,List.map_nil,e2] at hs'
 have pR:=hs'.perm (my _ q L 0 (Nat.zero_le _) (by simpa using hk))
 rw[Nat.sub_zero,hL] at pR
 have h2:=h w' pR
 rw[hd]
 exact h2
theorem sva{X0:List Ent}{us cr kl:List (List Nat)}{D:Nat->(Tmp->Value)->(Tmp->Value)->(Nat->Ent)->Prop}(h:∀{d:Operand->Value}{e:Tmp->Value}{W:World}{X:Nat->Ent},CtxV #[o] [0] a0 w0 bor X0 us D 0 d e W X->am P o d W (bX cr kl D 0 o.dst d e W X))(hg:o.guard=none:=by rfl):bM P #[o] [0] a0 w0 bor X0 us cr kl D 0:=
 yE rfl hg fun _ _ _ _ cx=>h cx
def ow:Op->Array Operand
 | .call c=>c.args
 |_=>#[]
theorem sqk{d:Tmp}(V:Value)(bf:St w0 bor L w){f:FuncId}(hs:∀{j:Operand->Value}{m:Tmp->Value}{W:World}{X:Nat->Ent},CtxV #[o] [0] ⟨t.toArray,d0⟩ w0 bor L (rg L) (fun _ k _ _=>k d=V) 0 j m W X->∃args,Calls P f args W (fun e W'=>e= .returned V/\Ext W W')/\(ow o.op).map j=args)
  (h:∀w',St w0 bor L w'->wpList P ops Q rest ⟨t'.toArray,d0⟩ w') (hop:o.op= .call c:=by rfl) (hcal:c.callee= .value (.func f):=by rfl) (hg:o.guard=none:=by rfl) (hd:o.dst=some d:=by rfl) (ht:t.set d V=t':=by dsimp only[List.set]) (hf:gY P f=true:=by kernel_rfl):wpList P ops Q (o::rest) ⟨t.toArray,d0⟩ w:=
 sqv V bf (xsc rfl id hop hcal (fun cx=>by have h1:=hs cx;rw[hop] at h1;exact h1) hf hg hd) h (ht:=ht) (hg:=hg) (hd:=hd)
theorem av{d:Tmp}(q:Nat){cs:List Value}(bf:St w0 bor L w)(h:wpList P ops Q rest ⟨t'.toArray,d0⟩ w)(hop:o.op= .load ty' x:=by rfl)(hx:Act.eval ⟨t.toArray,d0⟩ x=po b off:=by rfl)(hq:L[q]? =some (eB b ty cs.toArray):=by rfl)(hc:Nat.blt off cs.length=true:=by rfl)
  (hz:mL P ty'=some false:=by kernel_rfl) (hg:o.guard=none:=by rfl) (hd:o.dst=some d:=by rfl) (ht:t.set d (gS cs off)=t':=by dsimp only[List.set,gS]):wpList P ops Q (o::rest) ⟨t.toArray,d0⟩ w:=by
 refine wpList_plain hg fun K hK=>?_
 have hb:Blk w b ty cs.toArray:=bf.blk q hq
 have hlt:off<cs.length:=by simpa using hc
 have hcell:w.cell? ⟨b,off,none⟩=some (gS cs off):=by
  rw[hb.cell off,List.getElem?_toArray,um hlt]
 refine am.wp (post:=fun v w'=>v=gS cs off/\w'=w) (am.value (ae hop hz hx hcell) ⟨rfl,rfl⟩) fun v w' ⟨e1,e2⟩=>hK _ _ ?_
 subst e1 e2
 rw[hd]
 show wpList P ops Q rest ⟨t.toArray.setIfInBounds d _,d0⟩ w'
 rw[List.setIfInBounds_toArray,ht]
 exact h
theorem bY{d:Tmp}{t':Nat->List Value}(cs:Array Value)(bf:St w0 bor L w)(h:∀b w',St w0 bor (L' b) w'->wpList P ops Q rest ⟨(t' b).toArray,d0⟩ w')(hop:o.op= .alloc ty:=by rfl)(hz:nq P ty=some cs:=by kernel_rfl)
  (hg:o.guard=none:=by rfl) (hd:o.dst=some d:=by rfl) (ht:∀b,t.set d (vp b)=t' b:=by intro b;dsimp only[List.set]) (hL:∀b,L++[eB b ty cs]=L' b:=by intro b;dsimp only[List.cons_append,List.nil_append]):wpList P ops Q (o::rest) ⟨t.toArray,d0⟩ w:=
 ej pb vp (fun b=>eB b ty cs) bf (sva (fun cx=>dp hop hz hd rfl (fun _ _ _ _ _=> .intro)) hg) h (ht:=ht) (hL:=hL) (hg:=hg) (hd:=hd)
theorem bE{d:Tmp}(q n:Nat){cs:List Value}(bf:St w0 bor L w)(h:wpList P ops Q rest ⟨t'.toArray,d0⟩ w)(hop:o.op= .load ty' x:=by rfl)(hx:Act.eval ⟨t.toArray,d0⟩ x=po b off:=by rfl)(hq:L[q]? =some (eB b ty cs.toArray):=by rfl)
  (ha:mL P ty'=some true:=by kernel_rfl) (hn:szP P ty'=some n:=by kernel_rfl) (hle:Nat.ble (off+n) cs.length=true:=by rfl) (hg:o.guard=none:=by rfl) (hd:o.dst=some d:=by rfl) (ht:t.set d (.agg ((cs.drop off).take n).toArray)=t':=by dsimp only[List.set,List.drop,List.take]):wpList P ops Q (o::rest) ⟨t.toArray,d0⟩ w:=by
 refine wpList_plain hg fun K hK=>?_
 have hb:Blk w b ty cs.toArray:=bf.blk q hq
 refine am.wp (post:=fun v w'=>v= .agg ((cs.drop off).take n).toArray/\w'=w) (am.value (cg hop ha hn hx hb (by simpa using Nat.le_of_ble_eq_true hle) rfl) ⟨rfl,rfl⟩) fun v w' ⟨e1,e2⟩=>hK _ _ ?_
 subst e1 e2
 rw[hd]
 show wpList P ops Q rest ⟨t.toArray.setIfInBounds d _,d0⟩ w'
 rw[List.setIfInBounds_toArray,ht]
 exact h
theorem ce{d:Tmp}{v:Value}{t':Nat->List Value}(cs:Array Value)(bf:St w0 bor L w)(h:∀b w',St w0 bor (L' b) w'->wpList P ops Q rest ⟨(t' b).toArray,d0⟩ w')(hop:o.op= .box ty x:=by rfl)(hx:Act.eval ⟨t.toArray,d0⟩ x=v:=by rfl)(hcs:v.cells=cs:=by rfl)
  (hg:o.guard=none:=by rfl) (hd:o.dst=some d:=by rfl) (ht:∀b,t.set d (vp b)=t' b:=by intro b;dsimp only[List.set]) (hL:∀b,L++[eB b ty cs]=L' b:=by intro b;dsimp only[List.cons_append,List.nil_append]):wpList P ops Q (o::rest) ⟨t.toArray,d0⟩ w:=by
 refine sqD (D:=fun _ f j X=>f d=vp (pb (j d))/\X L.length=eB (pb (j d)) ty cs) 1 [] bf (qm hop hx hcs hd rfl fun f k X' hs hb hv hx=>⟨hv,hx⟩) hg (fun q hq=>by cases hq) fun f j X u w' hD hv hs'=>?_
 have e:u=vp (pb u):=by
  have:=hD.1
  rw[(hv d hd).1,(hv d hd).2] at this
  exact this
 have e2:X L.length=eB (pb u) ty cs:=by
  have:=hD.2
  rw[(hv d hd).2] at this
  exact this
 rw[show List.range' L.length 1=[L.length] from rfl,List.map_cons,List.map_nil,e2,mK,hL] at hs'
 have h2:=h (pb u) w' hs'
 rw[<-ht,<-e] at h2
 rw[hd]
 show wpList P ops Q rest ⟨t.toArray.setIfInBounds d u,d0⟩ w'
 rw[List.setIfInBounds_toArray]
 exact h2
theorem aV{v:Value}{L':List Ent}(q:Nat)(cs':Array Value)(bf:St w0 bor L w)(h:∀w',St w0 bor L' w'->wpList P ops Q rest ⟨t.toArray,d0⟩ w')(hop:o.op= .store ty x y:=by rfl)(hx:Act.eval ⟨t.toArray,d0⟩ x=po b off:=by rfl)
  (hy:Act.eval ⟨t.toArray,d0⟩ y=v:=by rfl) (hq:L[q]? =some (eB b ty' cs):=by rfl) (hz:szP P ty=some n:=by kernel_rfl) (hn:v.cells.size=n:=by kernel_rfl) (h1:v.cells.toList.all Value.oneCell'=true:=by kernel_rfl) (hle:Nat.ble (off+n) cs.size=true:=by rfl) (hcs:nZ cs off v.cells.toList=cs':=by kernel_rfl)
  (hL:L.set q (eB b ty' cs')=L':=by dsimp only[List.set]) (hg:o.guard=none:=by rfl) (hd:o.dst=none:=by rfl):wpList P ops Q (o::rest) ⟨t.toArray,d0⟩ w:=by
 have hql:q<L.length:=(List.getElem?_eq_some_iff.1 hq).1
 refine sqD (D:=fun _ _ _ X=>X L.length=eB b ty' cs') 1 [q] bf ?_ hg (fun z hz=>by rw[List.mem_singleton.1 hz];exact hql) fun d f X v w' hD hv hs'=>?_
 ·exact bx hop hx hy hz hn h1 (o3 (o:=o) bf _) (by rw[List.getD_eq_getElem?_getD,hq];rfl) (by simp[atV];exact hql) (Nat.le_of_ble_eq_true hle) hcs hd rfl rfl (fun _ _ _ _ _ hX=>hX)
 ·rw[show List.range' L.length 1=[L.length] from rfl,List.map_cons,List.map_nil,show X L.length=eB b ty' cs' from hD] at hs'
  have pR:=hs'.perm (my _ q L 0 (Nat.zero_le _) (by simpa using hql))
  rw[Nat.sub_zero,hL] at pR
  rw[hd]
  exact h w' pR
inductive SE where
 |k (d:Tmp) (v:Value)
 |m (d j:Tmp)
 |e (d:Tmp) (raw v:Value) (h:raw=v)
 |s (d:Tmp) (side:Prop) (raw v:Value) (hs:side) (h:raw=v)
def SE.d:SE->Tmp
 | .k d _=>d
 | .m d _=>d
 | .e d _ _ _=>d
 | .s d _ _ _ _ _=>d
def SE.v(t:List Value):SE->Value
 | .k _ v=>v
 | .m _ j=>gS t j
 | .e _ _ v _=>v
 | .s _ _ _ v _ _=>v
def SE.want(t:List Value):SE->Option (Prop×Value)
 | .k _ v=>some (True,v)
 | .m _ j=>some (True,gS t j)
 | .e _ raw _ _=>some (True,raw)
 | .s _ side raw _ _ _=>some (side,raw)
theorem SE.ok{t:List Value}{te:SE}{side:Prop}{raw:Value}(h:te.want t=some (side,raw)):side/\raw=te.v t:=by
 cases te with
 |k d v=>cases h;exact⟨trivial,rfl⟩
 |m d j=>cases h;exact⟨trivial,rfl⟩
 |e d raw v hr=>cases h;exact⟨trivial,hr⟩
 |s d side raw v hs hr=>cases h;exact⟨hs,hr⟩
def IJ(t:List Value):Operand->Option Value
 | .tmp j=>some (t.getD j undef)
 | .const v=>some v
 | .global g=>some (.pointer (some ⟨g,0,none⟩))
 | .func f=>some (.func (.func f) #[] #[])
def goS(P:Program):List Oper->List SE->List Value->List (Option (Nat×Bool)×Option Tmp×Option (Prop×Value))
 |o::os,te::tb,t=>(o.guard,o.dst,pOp P o.op (IJ t))::goS P os tb (t.set te.d (te.v t))
 |_,_,_=>[]
def wtS:List SE->List Value->List (Option (Nat×Bool)×Option Tmp×Option (Prop×Value))
 |te::tb,t=>(none,some te.d,te.want t)::wtS tb (t.set te.d (te.v t))
 |_,_=>[]
def vT:List SE->List Value->List Value
 |te::tb,t=>vT tb (t.set te.d (te.v t))
 | [],t=>t
theorem Ha{t:List Value}(x:Operand)(v:Value)(h:IJ t x=some v):Act.eval ⟨t.toArray,d0⟩ x=v:=by
 cases x with
 |tmp j=>
  cases h
  show t.toArray.getD j undef=t.getD j undef
  simp[List.getD_eq_getElem?_getD]
 |const v=>cases h;rfl
 |global g=>cases h;rfl
 |func f=>cases h;rfl
theorem LH(tb:List SE):∀{os:List Oper}{t:List Value},os.length=tb.length->goS P os tb t=wtS tb t->wpList P ops Q rest ⟨(vT tb t).toArray,d0⟩ w->wpList P ops Q (os++rest) ⟨t.toArray,d0⟩ w:=by
 induction tb with
 |nil=>
  intro os t hl _ h
  have:=List.eq_nil_of_length_eq_zero hl
  subst this
  exact h
 |cons te tb ih=>
  intro os t hl hg h
  cases os with
  |nil=>cases hl
  |cons o os=>
   rw[goS,wtS,List.cons.injEq,Prod.mk.injEq,Prod.mk.injEq] at hg
   obtain⟨⟨h3,h5,h6⟩,h2⟩:=hg
   refine wpList_plain h3 fun K hK=>?_
   cases hw:te.want t with
   |none=>cases te<;>cases hw
   |some p=>
    obtain⟨side,raw⟩:=p
    rw[hw] at h6
    obtain⟨hs,hr⟩:=SE.ok hw
    refine am.wp (post:=fun v w'=>v=raw/\w'=w) (am.value (Az (Ha (d0:=d0)) h6 hs w) ⟨rfl,rfl⟩) fun v w' e12=>hK _ _ ?_
    obtain⟨e1,e2⟩:=e12
    subst e1
    subst e2
    rw[h5]
    show wpList P ops Q (os++rest) ⟨t.toArray.setIfInBounds te.d v,d0⟩ w'
    rw[List.setIfInBounds_toArray,hr]
    exact ih (by simpa using hl) h2 h
theorem sqp(tb:List SE)(h:wpList P ops Q os' ⟨t'.toArray,d0⟩ w)(ht:vT tb t=t':=by dsimp only[vT,SE.d,SE.v,List.set,gS])(hos:os.drop tb.length=os':=by first|(dsimp only[List.drop,List.length];done)|rfl)(hg:goS P (os.take tb.length) tb t=wtS tb t:=by kernel_rfl)(hn:(os.take tb.length).length=tb.length:=by kernel_rfl):wpList P ops Q os ⟨t.toArray,d0⟩ w:=by
 have h2:=LH (P:=P) (ops:=ops) (Q:=Q) (d0:=d0) (w:=w) (rest:=os.drop tb.length) tb hn hg (by rw[ht,hos];exact h)
 rw[List.take_append_drop] at h2
 exact h2
theorem sqr{id:Nat}{l:List Oper}(h:wpList P l.toArray Q l ⟨t.toArray,d0⟩ w):(Code.region id l.toArray false).wp P Q ⟨t.toArray,d0⟩ w:=wp_region_lit h
end
def jl(u:Nat->Value)(a:Nat):Nat->List Value
 |0=>[]
 |n+1=>u a::jl u (a+1) n
def ovr(u:Nat->Value):List (Nat×Nat×Nat×List Value)->List Value->List Value
 | [],t=>t
 |(k,a,n,vs)::l,t=>t.take k++(jl u a n++(vs++ovr u l (t.drop (k+n+vs.length))))
theorem aT{w:World}{c:Code}(F:List Value->Nat->Act->World->Prop)(n0:Nat)(h0:F t n0 ⟨t.toArray,d0⟩ w)
  (round:∀n a w,F t n a w->c.wp P (Exit.then (fun a' w'=>∃m,m<n/\F t m a' w') Q) a w):(Code.loop c).wp P Q ⟨t.toArray,d0⟩ w:=GP (F t) n0 h0 round
theorem kC{x y:Code}(R:List Value->Act->World->Prop)(hx:x.wp P (Exit.then (R t) Q) ⟨t.toArray,d0⟩ w)(hy:∀a' w',R t a' w'->y.wp P Q a' w'):(Code.seq x y).wp P Q ⟨t.toArray,d0⟩ w:=
 wq (Code.wp_mono (fun e a' w' h=>by cases e<;>first|exact hy _ _ h|exact h) hx)
theorem ovz{x:Code}{S:List (Nat×Nat×Nat×List Value)}{t':(Nat->Value)->List Value}(h:a=⟨(ovr (jv a) S t).toArray,d0⟩)(k:∀u,x.wp P Q ⟨(t' u).toArray,d0⟩ w)
  (ht:∀u,ovr u S t=t' u:=by intro u;dsimp only[ovr,jl,List.set,List.take,List.drop,List.cons_append,List.nil_append,List.append_nil,List.length_cons,List.length_nil,Nat.reduceAdd,Nat.add_zero,Nat.zero_add]):x.wp P Q a w:=by
 rw[h,ht];exact k _
theorem wct{c:Operand}{x y:Code}{b:Bool}(hb:b=true)(h:x.wp P Q a w)(hc:a.eval c= .bool b:=by rfl):(Code.cond c x y).wp P Q a w:=wp_cond_true (hc.trans (congrArg Value.bool hb)) h
theorem wcf{c:Operand}{x y:Code}{b:Bool}(hb:b=false)(h:y.wp P Q a w)(hc:a.eval c= .bool b:=by rfl):(Code.cond c x y).wp P Q a w:=wp_cond_false (hc.trans (congrArg Value.bool hb)) h
theorem wbs{c:Operand}{x y:Code}{b:Bool}(h1:b=true->x.wp P Q a w)(h2:b=false->y.wp P Q a w)(hc:a.eval c= .bool b:=by rfl):(Code.cond c x y).wp P Q a w:=by
 cases b with
 |true=>exact wct rfl (h1 rfl) hc
 |false=>exact wcf rfl (h2 rfl) hc
theorem wds{c:Operand}{x y:Code}{p:Prop}{i:Decidable p}(h1:decide p=true->p->x.wp P Q a w)(h2:decide p=false->¬p->y.wp P Q a w)(hc:a.eval c= .bool (decide p):=by rfl):(Code.cond c x y).wp P Q a w:=
 wbs (fun h=>h1 h (of_decide_eq_true h)) (fun h=>h2 h (of_decide_eq_false h)) hc
abbrev sI(d:Tmp)(z:Int)(h: -9223372036854775808<=z/\z<=9223372036854775807):SE:= .e d (.int .i64 (IntKind.i64.wrap z)) (.int .i64 z) (congrArg _ (IntWalk.i64_in _ h))
abbrev sJ(d:Tmp)(r z:Int)(h: -9223372036854775808<=r/\r<=9223372036854775807)(e:r=z):SE:= .e d (.int .i64 (IntKind.i64.wrap r)) (.int .i64 z) (congrArg _ ((IntWalk.i64_in _ h).trans e))
abbrev sW(d:Tmp)(k:IntKind)(r z:Int)(h:k.wrap r=z):SE:= .e d (.int k (k.wrap r)) (.int k z) (congrArg _ h)
abbrev sRe(d:Tmp)(k:IntKind)(a b z:Int)(h:a.tmod b=z)(hb:b≠0:=by decide):SE:= .s d (b≠0) (.int k (a.tmod b)) (.int k z) hb (congrArg _ h)
abbrev sQu(d:Tmp)(k:IntKind)(a b z:Int)(h:k.wrap (a.tdiv b)=z)(hb:b≠0:=by decide):SE:= .s d (b≠0) (.int k (k.wrap (a.tdiv b))) (.int k z) hb (congrArg _ h)
abbrev sAn(d:Tmp)(k:IntKind)(a b z:Int)(h:k.wrap ((BitVec.ofInt k.bits a&&& BitVec.ofInt k.bits b).toNat:Int)=z):SE:= .e d (.int k (k.wrap ((BitVec.ofInt k.bits a&&& BitVec.ofInt k.bits b).toNat:Int))) (.int k z) (congrArg _ h)
abbrev sS(d:Tmp)(a b:ByteArray)(h:a.size+b.size<=9223372036854775807):SE:= .s d (a.size+b.size<=9223372036854775807) (.string (a++b)) (.string (a++b)) h rfl
def isG(g:Nat):Bool->Option (Nat×Bool)->Bool
 |true,some (k,true)=>k==g
 |false,some (k,false)=>k==g
 |_,_=>false
def gOf(o:Oper):Nat×Bool:=o.guard.getD (0,true)
def ung(p:Nat×Bool)(o:Oper):Oper:=⟨o.dst,o.op,o.type,o.pos,o.after,bif isG p.1 p.2 o.guard then none else o.guard⟩
def jU(ops:Array Oper)(p:Nat×Bool)(dg:Option Tmp):List Oper->List Tmp->List Tmp->Bool
 | [],[],_=>true
 |o::os,d::ds,seen=>decide (o.dst=some d)&&!(decide (dg=some d))&&(isG p.1 p.2 o.guard||(match o.guard with
  |some (k,_)=>match bj ops k with
   |some e=>seen.contains e
   |none=>false
  |none=>false))&&jU ops p dg os ds (d::seen)
 |_,_,_=>false
def lR(q:Bool):List Tmp->List Value->List Value->List Value
 | [],t,_=>t
 |d::ds,t,t1=>lR q ds (t.set d (mb q (gS t1 d))) t1
def qb:Bool->Bool->Bool
 |x,true=>x
 |x,false=>!x
section
variable{P:Program}{Q:Exit->Act->World->Prop}{rest:List Oper}{o:Oper}{ops:Array Oper}{d0:List Deferred}{w0 w:World}{bor:List Nat}{L:List Ent}{g dg:Nat}{b:Bool}
theorem vH{o:Oper}{v:Value}{k:Nat}(h:o.dst≠some k):(a.put o.dst v).tmps[k]? =a.tmps[k]? :=by
 cases hd:o.dst with
 |none=>rfl
 |some d=>
  show (a.tmps.setIfInBounds d v)[k]? = _
  rw[Array.getElem?_setIfInBounds_ne]
  rintro rfl
  exact h hd
theorem Df{o:Oper}{v:Value}:(a.put o.dst v).tmps.size=a.tmps.size:=by
 cases hd:o.dst with
 |none=>rfl
 |some d=>exact Array.size_setIfInBounds
theorem yz{a:Act}{K K':Act->World->Prop}{Q Q':Exit->Act->World->Prop}(h:∀(a1:Act) v w',a1.tmps=a.tmps->K (a1.put o.dst v) w'->K' (a1.put o.dst v) w')(hQ:∀e a w,e≠ .normal->Q e a w->Q' e a w){r:Result Next}(hh:o.upon P a K Q r):o.upon P a K' Q' r:=by
 have hL:LetsOut Q->LetsOut Q':=fun⟨a,w,h⟩=>⟨a,w,hQ _ _ _ (by intro h;cases h) h⟩
 cases r with
 |ok n w'=>
  cases n<;>simp only[Oper.upon] at hh |- <;>
   first
    |exact h _ _ _ rfl hh
    |exact Calls.mono hh (fun e w'' he=>by cases e<;>first|exact h _ _ _ rfl he|exact hL he|exact hQ _ _ _ (by intro h;cases h) he)
    |exact Rows.mono hh (fun _ _ he=>h _ _ _ rfl he)
 |halt x w'=>cases x<;>simp only[Oper.upon] at hh |- <;>exact hQ _ _ _ (by intro h;cases h) hh
theorem EP{gd:Option (Nat×Bool)}(h:isG p.1 p.2 gd=true):gd=some p:=by
 obtain⟨g,b⟩:=p
 cases b<;>cases gd<;>try cases h
 all_goals
  rename_i x;obtain⟨k,c⟩:=x
  cases c<;>first|cases h|(have:=eq_of_beq h;dsimp only at this;subst this;rfl)
def vB:Value->Option Bool
 | .bool b=>some b
 |_=>none
theorem pa{t:Array Value}{v:Value}(hd:bj ops g=some dg)(hv:t[dg]? =some v):yielded ops t g=vB v:=by
 unfold yielded
 have:(ops[g]?).bind (·.dst)=some dg:=hd
 rw[this,Option.bind_some,hv]
 cases v<;>rfl
theorem uj{t:Array Value}(hd:bj ops p.1=some dg)(hv:t[dg]? =some (.bool p.2)):Region.wanted (ung p o) (yielded ops t)=Region.wanted o (yielded ops t):=by
 unfold Region.wanted ung
 dsimp only
 cases h:isG p.1 p.2 o.guard with
 |false=>rfl
 |true=>
  rw[EP h,cond_true]
  dsimp only
  rw[pa hd hv]
  simp[vB]
theorem O0{F:Exit->Act->World->Prop}{DS:List Tmp}(hd:bj ops p.1=some dg)
  (hF:∀e a w,F e a w->e= .normal/\(a.tmps.size=a0.tmps.size->(∀k,k∉DS->a.tmps[k]? =a0.tmps[k]?)->wpList P ops Q rest a w)):
  ∀(os:List Oper) (ds seen:List Tmp) (a:Act) (w:World),jU ops p (some dg) os ds seen=true->(∀d∈ds,d∈DS)->a.tmps[dg]? =some (.bool p.2)->a.tmps.size=a0.tmps.size->(∀k,k∉DS->a.tmps[k]? =a0.tmps[k]?)->wpList P ops F (os.map (ung p)) a w->wpList P ops Q (os++rest) a w:=by
 intro os
 have hQ:∀e a w,e≠ .normal->F e a w->Q e a w:=fun e a w hn h=>absurd (hF e a w h).1 hn
 have hL:LetsOut F->LetsOut Q:=fun⟨a,w,h⟩=>⟨a,w,hQ _ _ _ (by intro h;cases h) h⟩
 induction os with
 |nil=>intro ds seen a w _ _ _ hs hk h;exact(hF _ _ _ h).2 hs hk
 |cons o os ih=>
  intro ds seen a w hc hD hv hs hk h
  cases ds with
  |nil=>cases hc
  |cons d ds=>
   rw[jU] at hc
   simp only[Bool.and_eq_true,decide_eq_true_eq,Bool.not_eq_true',decide_eq_false_iff_not] at hc
   obtain⟨⟨⟨h1,h2⟩,-⟩,h4⟩:=hc
   have hne:o.dst≠some dg:=by rw[h1];exact fun h=>h2 h.symm
   have step:∀(a1:Act) (v:Value) (w':World),a1.tmps=a.tmps->wpList P ops F (os.map (ung p)) (a1.put o.dst v) w'->wpList P ops Q (os++rest) (a1.put o.dst v) w':=fun a1 v w' ha hh=>
    ih ds (d::seen) _ w' h4 (fun x hx=>hD x (List.mem_cons_of_mem _ hx)) (by rw[vH hne,ha];exact hv) (by rw[Df,ha];exact hs)
     (fun k hk'=>by rw[vH,ha];·exact hk k hk'
                    ·rw[h1];rintro⟨⟩;exact hk' (hD d (List.mem_cons_self ..))) hh
   rw[List.map_cons] at h
   rw[List.cons_append]
   unfold wpList at h |-
   rw[uj hd hv] at h
   split
   ·rename_i hw
    rw[if_pos hw] at h
    rcases h with h|⟨ha,hl⟩
    ·exact .inl (yz step hQ h)
    ·exact .inr ⟨ha,hL hl⟩
   ·rename_i hw
    rw[if_neg hw] at h
    exact step a undef w rfl h
theorem NF(hd:bj ops p.1=some dg):∀(os:List Oper) (ds seen:List Tmp) (a:Act) (w:World),jU ops p (some dg) os ds seen=true->a.tmps[dg]? =some (.bool p.2)->wpList P ops Q (os.map (ung p)++rest) a w->wpList P ops Q (os++rest) a w:=by
 intro os
 induction os with
 |nil=>intro ds seen a w _ _ h;exact h
 |cons o os ih=>
  intro ds seen a w hc hv h
  cases ds with
  |nil=>cases hc
  |cons d ds=>
   rw[jU] at hc
   simp only[Bool.and_eq_true,decide_eq_true_eq,Bool.not_eq_true',decide_eq_false_iff_not] at hc
   obtain⟨⟨⟨h1,h2⟩,-⟩,h4⟩:=hc
   have hne:o.dst≠some dg:=by rw[h1];exact fun h=>h2 h.symm
   have step:∀(a1:Act) (v:Value) (w':World),a1.tmps=a.tmps->wpList P ops Q (os.map (ung p)++rest) (a1.put o.dst v) w'->wpList P ops Q (os++rest) (a1.put o.dst v) w':=fun a1 v w' ha hh=>
    ih ds (d::seen) _ w' h4 (by rw[vH hne,ha];exact hv) hh
   rw[List.map_cons,List.cons_append] at h
   rw[List.cons_append]
   unfold wpList at h |-
   rw[uj hd hv] at h
   split
   ·rename_i hw
    rw[if_pos hw] at h
    rcases h with h|⟨ha,hl⟩
    ·exact .inl (yz step (fun _ _ _ _ h=>h) h)
    ·exact .inr ⟨ha,hl⟩
   ·rename_i hw
    rw[if_neg hw] at h
    exact step a undef w rfl h
theorem DR{x:Bool}(hd:bj ops p.1=some dg)(hx:x≠p.2):∀(os:List Oper) (ds seen:List Tmp) (t:List Value),jU ops p (some dg) os ds seen=true->t[dg]? =some (.bool x)->(∀d∈seen,t[d]? =none\/t[d]? =some undef)->
  wpList P ops Q rest ⟨(ds.foldl (fun l d=>l.set d undef) t).toArray,d0⟩ w->wpList P ops Q (os++rest) ⟨t.toArray,d0⟩ w:=by
 intro os
 induction os with
 |nil=>
  intro ds seen t hc _ _ h
  cases ds with
  |nil=>exact h
  |cons d ds=>cases hc
 |cons o os ih=>
  intro ds seen t hc hv hs h
  cases ds with
  |nil=>cases hc
  |cons d ds=>
   rw[jU] at hc
   simp only[Bool.and_eq_true,decide_eq_true_eq,Bool.not_eq_true',decide_eq_false_iff_not] at hc
   obtain⟨⟨⟨h1,h2⟩,h3⟩,h4⟩:=hc
   have hw:Region.wanted o (yielded ops t.toArray)=false:=by
    unfold Region.wanted
    rw[Bool.or_eq_true] at h3
    rcases h3 with h3|h3
    ·rw[EP h3]
     dsimp only
     rw[pa hd (v:= .bool x) (by rw[List.getElem?_toArray];exact hv)]
     simpa[vB] using hx
    ·split at h3
     ·rename_i k c hg
      split at h3
      ·rename_i e he
       rw[hg]
       dsimp only
       rcases hs e (List.contains_iff_mem.1 h3) with h5|h5
       ·unfold yielded
        have:(ops[k]?).bind (·.dst)=some e:=he
        rw[this,Option.bind_some,List.getElem?_toArray,h5];rfl
       ·rw[pa he (v:=undef) (by rw[List.getElem?_toArray];exact h5)];rfl
      ·cases h3
     ·cases h3
   rw[List.cons_append]
   refine wpList_skip hw ?_
   rw[h1]
   show wpList P ops Q (os++rest) ⟨t.toArray.setIfInBounds d undef,d0⟩ w
   rw[List.setIfInBounds_toArray]
   refine ih ds (d::seen) (t.set d undef) h4 ?_ (fun e he=>?_) h
   ·rw[List.getElem?_set_ne (by rintro rfl;exact h2 rfl)];exact hv
   ·rw[List.getElem?_set]
    split
    ·split
     ·exact .inr rfl
     ·exact .inl rfl
    ·rename_i hne
     exact hs e ((List.mem_cons.1 he).resolve_left fun h=>hne h.symm)
theorem uu:∀(ds:List Tmp) (t t1:List Value),lR false ds t t1=ds.foldl (fun l d=>l.set d undef) t
 | [],_,_=>rfl
 |d::ds,t,t1=>by rw[lR,List.foldl_cons];exact uu ds _ t1
theorem we:∀(ds:List Tmp) (t t1:List Value),t1.length=t.length->(∀k,k∉ds->t1[k]? =t[k]?)->lR true ds t t1=t1
 | [],t,t1,_,h=>by rw[lR];exact(List.ext_getElem? fun k=>h k (by simp)).symm
 |d::ds,t,t1,hl,h=>by
  rw[lR]
  refine we ds _ t1 (by simpa using hl) fun k hk=>?_
  rw[List.getElem?_set]
  split
  ·rename_i e
   subst e
   split
   ·rename_i hd
    exact um (by rw[hl];exact hd)
   ·rename_i hd
    exact List.getElem?_eq_none (by rw[hl];omega)
  ·rename_i hne
   exact h k (by simp only[List.mem_cons,not_or];exact⟨fun e=>hne e.symm,hk⟩)
def Fn(t:List Value)(d0:List Deferred)(R:World->Prop):Exit->Act->World->Prop:=fun e a w=>e= .normal/\a=⟨t.toArray,d0⟩/\R w
theorem sqe:wpList P ops (Fn t d0 (·=w)) [] ⟨t.toArray,d0⟩ w:=⟨rfl,rfl,rfl⟩
theorem sqE(h:St w0 bor L w):wpList P ops (Fn t d0 (St w0 bor L)) [] ⟨t.toArray,d0⟩ w:=⟨rfl,rfl,h⟩
theorem BB{k:Nat}{v:Value}(hv:gS t k=v)(hl:Nat.blt k t.length=true):t[k]? =some v:=by
 rw[um (by simpa using hl),hv]
theorem FW(R:World->Prop)(dg:Nat)(ds:List Tmp){g:Nat}{b x:Bool}{t2:List Value}(hv:gS t dg= .bool x)(hR:R w)(h1:x=b->wpList P ops (Fn t1 d0 R) (((o::os).take ds.length).map (ung (gOf o))) ⟨t.toArray,d0⟩ w)
  (h2:∀w',R w'->wpList P ops Q ((o::os).drop ds.length) ⟨t2.toArray,d0⟩ w') (ht:lR (qb x b) ds t t1=t2) (hk:jU ops (gOf o) (bj ops (gOf o).1) ((o::os).take ds.length) ds []=true) (hgo:o.guard=some (g,b)) (hd:bj ops g=some dg) (hl:Nat.blt dg t.length=true):wpList P ops Q (o::os) ⟨t.toArray,d0⟩ w:=by
 replace hv:=BB hv hl
 have hp:gOf o=(g,b):=by unfold gOf;rw[hgo];rfl
 rw[hp] at h1 hk
 dsimp only at hk
 rw[hd] at hk
 rw[show o::os=(o::os).take ds.length++(o::os).drop ds.length from(List.take_append_drop _ _).symm]
 by_cases hx:x=b
 ·refine O0 (p:=(g,b)) (a0:=⟨t.toArray,d0⟩) (F:=Fn t1 d0 R) (DS:=ds) hd ?_ _ ds [] _ _ hk (fun d h=>h) (by rw[List.getElem?_toArray,hv,hx]) rfl (fun _ _=>rfl) (h1 hx)
  rintro e a w' ⟨rfl,rfl,hr⟩
  refine⟨rfl,fun hs hkk=>?_⟩
  have e2:t2=t1:=by
   rw[<-ht,hx,show qb b b=true by cases b<;>rfl]
   exact we ds t t1 (by simpa using hs) fun k hk=>by simpa using hkk k hk
  rw[<-e2]
  exact h2 w' hr
 ·refine DR (p:=(g,b)) (x:=x) hd hx _ ds [] t hk hv (fun d h=>by cases h) ?_
  rw[<-uu ds t t1,show false=qb x b by revert hx;cases x<;>cases b<;>simp[qb],ht]
  exact h2 w hR
theorem O2(dg:Nat)(ds:List Tmp){g:Nat}{b x:Bool}(hv:gS t dg= .bool x)(hx:x=b)(h:wpList P ops Q os' ⟨t'.toArray,d0⟩ w)(ht:ds.foldl (fun l d=>l.set d undef) t=t':=by dsimp only[List.foldl,List.set])(hos:(o::os).drop ds.length=os':=by dsimp only[List.drop,List.length])
  (hk:jU ops (gOf o) (bj ops (gOf o).1) ((o::os).take ds.length) ds []=true:=by kernel_rfl) (hgo:o.guard=some (g,!b):=by rfl) (hd:bj ops g=some dg:=by kernel_rfl) (hl:Nat.blt dg t.length=true:=by kernel_rfl):wpList P ops Q (o::os) ⟨t.toArray,d0⟩ w:=by
 replace hv:=BB hv hl
 have hp:gOf o=(g,!b):=by unfold gOf;rw[hgo];rfl
 rw[hp] at hk
 dsimp only at hk
 rw[hd] at hk
 rw[show o::os=(o::os).take ds.length++(o::os).drop ds.length from(List.take_append_drop _ _).symm]
 refine DR (p:=(g,!b)) (x:=x) hd (by rw[hx];cases b<;>simp) _ ds [] t hk hv (fun d h=>by cases h) ?_
 rw[ht,hos];exact h
theorem dE(dg:Nat)(ds:List Tmp){g:Nat}{b x:Bool}(hv:gS t dg= .bool x)(hx:x=b)(h:wpList P ops Q os1 ⟨t.toArray,d0⟩ w)
  (hos:((o::os).take ds.length).map (ung (gOf o))++(o::os).drop ds.length=os1:=by dsimp only[List.take,List.drop,List.length,List.map,List.cons_append,List.nil_append,ung,gOf,isG,Option.getD,Nat.reduceBEq,cond_true,cond_false]) (hk:jU ops (gOf o) (bj ops (gOf o).1) ((o::os).take ds.length) ds []=true:=by kernel_rfl) (hgo:o.guard=some (g,b):=by rfl) (hd:bj ops g=some dg:=by kernel_rfl) (hl:Nat.blt dg t.length=true:=by kernel_rfl):wpList P ops Q (o::os) ⟨t.toArray,d0⟩ w:=by
 subst hos
 replace hv:=BB hv hl
 have hp:gOf o=(g,b):=by unfold gOf;rw[hgo];rfl
 rw[hp] at hk h
 dsimp only at hk
 rw[hd] at hk
 rw[show o::os=(o::os).take ds.length++(o::os).drop ds.length from(List.take_append_drop _ _).symm]
 exact NF (p:=(g,b)) hd _ ds [] _ _ hk (by rw[List.getElem?_toArray,hv,hx]) h
theorem sqw(dg:Nat)(ds:List Tmp){g:Nat}{b x:Bool}{t2:List Value}(hv:gS t dg= .bool x)(h1:x=b->wpList P ops (Fn t1 d0 (·=w)) (((o::os).take ds.length).map (ung (gOf o))) ⟨t.toArray,d0⟩ w)
  (h2:wpList P ops Q os' ⟨t2.toArray,d0⟩ w) (ht:lR (qb x b) ds t t1=t2:=by dsimp only[lR,List.set,gS,qb]) (hos:(o::os).drop ds.length=os':=by dsimp only[List.drop,List.length]) (hk:jU ops (gOf o) (bj ops (gOf o).1) ((o::os).take ds.length) ds []=true:=by kernel_rfl) (hgo:o.guard=some (g,b):=by rfl) (hd:bj ops g=some dg:=by kernel_rfl) (hl:Nat.blt dg t.length=true:=by kernel_rfl):wpList P ops Q (o::os) ⟨t.toArray,d0⟩ w:=
 FW (·=w) dg ds hv rfl h1 (fun w' hw=>by subst hw;rw[hos];exact h2) ht hk hgo hd hl
theorem c8(h:wpList P ops Q os' ⟨t'.toArray,d0⟩ w)(ht:t=t':=by dsimp only[lR,List.set,gS,qb])(hos:os=os':=by dsimp only[List.drop,List.length]):wpList P ops Q os ⟨t.toArray,d0⟩ w:=by rw[ht,hos];exact h
theorem d6(dg:Nat)(ds:List Tmp)(t1:List Value){g:Nat}{b x:Bool}(hv:gS t dg= .bool x)(h1:x=b->wpList P ops (Fn t1 d0 (·=w)) os1 ⟨t.toArray,d0⟩ w)
  (h2:wpList P ops Q ((o::os).drop ds.length) ⟨(lR (qb x b) ds t t1).toArray,d0⟩ w) (hos:((o::os).take ds.length).map (ung (gOf o))=os1:=by dsimp only[List.take,List.drop,List.length,List.map,List.cons_append,List.nil_append,ung,gOf,isG,Option.getD,Nat.reduceBEq,cond_true,cond_false]) (hk:jU ops (gOf o) (bj ops (gOf o).1) ((o::os).take ds.length) ds []=true:=by kernel_rfl) (hgo:o.guard=some (g,b):=by rfl) (hd:bj ops g=some dg:=by kernel_rfl) (hl:Nat.blt dg t.length=true:=by kernel_rfl):wpList P ops Q (o::os) ⟨t.toArray,d0⟩ w:=
 FW (·=w) dg ds hv rfl (by rw[hos];exact h1) (fun w' hw=>by subst hw;exact h2) rfl hk hgo hd hl
theorem p8(dg:Nat)(ds:List Tmp)(t1:List Value){g:Nat}{b x:Bool}(bf:St w0 bor L w)(hv:gS t dg= .bool x)(h1:x=b->wpList P ops (Fn t1 d0 (St w0 bor L)) os1 ⟨t.toArray,d0⟩ w)
  (h2:∀w',St w0 bor L w'->wpList P ops Q ((o::os).drop ds.length) ⟨(lR (qb x b) ds t t1).toArray,d0⟩ w') (hos:((o::os).take ds.length).map (ung (gOf o))=os1:=by dsimp only[List.take,List.drop,List.length,List.map,List.cons_append,List.nil_append,ung,gOf,isG,Option.getD,Nat.reduceBEq,cond_true,cond_false]) (hk:jU ops (gOf o) (bj ops (gOf o).1) ((o::os).take ds.length) ds []=true:=by kernel_rfl) (hgo:o.guard=some (g,b):=by rfl) (hd:bj ops g=some dg:=by kernel_rfl) (hl:Nat.blt dg t.length=true:=by kernel_rfl):wpList P ops Q (o::os) ⟨t.toArray,d0⟩ w:=
 FW (St w0 bor L) dg ds hv bf (by rw[hos];exact h1) h2 rfl hk hgo hd hl
end
abbrev sPa(d:Tmp)(c x:Bool):SE:= .e d (bif c then mb c (.bool x) else .bool false) (.bool (c&&x)) (Gn c x)
abbrev sPo(d:Tmp)(c x:Bool):SE:= .e d (bif c then .bool true else mb (!c) (.bool x)) (.bool (c||x)) (vG c x)
abbrev Ct(d:Tmp)(c x v:Bool)(h:(c||x)=v):SE:= .e d (bif c then .bool true else mb (!c) (.bool x)) (.bool v) ((vG c x).trans (congrArg Value.bool h))
end
section
open Go.RowKit
theorem St.one{E:Ent}(hx:Ext W W')(h:E.holds W'/\E.loc/\∀k∈E.fp,W.heap.size<=k/\k<W'.heap.size):St W [] [E] W':=
 ⟨Upd.of_ext hx,fun e he=>by rw[List.mem_singleton] at he;subst he;exact⟨h.1,h.2.1,fun k hk=>⟨.inr (h.2.2 k hk).1,(h.2.2 k hk).2⟩⟩,List.pairwise_singleton _ _⟩
theorem CtxV.triv{ops:Array Oper}{A:List Nat}{w0:World}{bor:List Nat}{X0:List Ent}{us:List (List Nat)}{D D':Nat->(Tmp->Value)->(Tmp->Value)->(Nat->Ent)->Prop}{e:Operand->Value}{d:Tmp->Value}{X:Nat->Ent}(h:CtxV ops A a0 w0 bor X0 us D i e d W X)(hD:∀j f d X,D' j f d X):CtxV ops A a0 w0 bor X0 us D' i e d W X:=
 ⟨h.sees,h.upd,h.out,fun _ _=>hD _ _ _ _,h.init,h.ok,h.ap⟩
section
variable{P:Program}{Q:Exit->Act->World->Prop}{rest:List Oper}{o:Oper}{ops:Array Oper}{t:List Value}{d0:List Deferred}{w0 w:World}{bor:List Nat}{L:List Ent}
theorem GJ{Z:Type}{d:Tmp}(V:Z->Value)(E:Z->Ent)(bf:St w0 bor L w){f:FuncId}(hs:∀{j:Operand->Value}{m:Tmp->Value}{W:World}{X:Nat->Ent},CtxV #[o] [0] ⟨t.toArray,d0⟩ w0 bor L (rg L) (fun _ _ _ _=>True) 0 j m W X->∃args,Calls P f args W (fun e W'=>∃z,e= .returned (V z)/\St W [] [E z] W')/\(ow o.op).map j=args)
  (h:∀z w',St w0 bor (L++[E z]) w'->wpList P ops Q rest ⟨(t.set d (V z)).toArray,d0⟩ w') (hop:o.op= .call c) (hcal:c.callee= .value (.func f)) (hg:o.guard=none) (hd:o.dst=some d) (hf:gY P f=true):wpList P ops Q (o::rest) ⟨t.toArray,d0⟩ w:=by
 refine wpList_plain hg fun K hK=>?_
 obtain⟨args,hc,hm⟩:=hs (o3 bf fun _=>undef)
 rw[hop] at hm
 refine am.wp (post:=fun v w'=>∃z,v=V z/\St w [] [E z] w') (am.call (aq hop (o3 (o:=o) (D:=fun _ _ _ _=>True) bf fun _=>undef).sees hcal hf hm) (hc.mono ?_)) fun v w' ⟨z,e1,fQ⟩=>hK _ _ ?_
 ·rintro e W1 ⟨z,rfl,h1⟩
  exact⟨_,rfl,z,rfl,h1⟩
 ·subst e1
  rw[hd]
  show wpList P ops Q rest ⟨t.toArray.setIfInBounds d (V z),d0⟩ w'
  rw[List.setIfInBounds_toArray]
  have h2:=Lx (kl:=[]) (N:=[E z]) bf (fun q hq=>by cases hq) ⟨fQ.upd,fun e he=>⟨(fQ.ok e he).holds,(fQ.ok e he).loc,fun k hk=>⟨((fQ.ok e he).own k hk).1,((fQ.ok e he).own k hk).2⟩⟩,fQ.apart⟩
  rw[mK] at h2
  exact h z w' h2
theorem sy{Z:Type}{d:Tmp}{L':Z->List Ent}{t':Z->List Value}(V:Z->Value)(E:Z->Ent)(bf:St w0 bor L w){f:FuncId}(hs:∀{j:Operand->Value}{k:Tmp->Value}{W:World}{X:Nat->Ent},CtxV #[o] [0] ⟨t.toArray,d0⟩ w0 bor L (rg L) (fun _ _ _ _=>True) 0 j k W X->∃args,Calls P f args W (fun e W'=>∃z0,e= .returned (V z0)/\St W [] [E z0] W')/\(ow o.op).map j=args)
  (h:∀z0 w',St w0 bor (L' z0) w'->wpList P ops Q rest ⟨(t' z0).toArray,d0⟩ w') (hop:o.op= .call c:=by rfl) (hcal:c.callee= .value (.func f):=by rfl) (hg:o.guard=none:=by rfl) (hd:o.dst=some d:=by rfl) (ht:∀z0,t.set d (V z0)=(t' z0):=by intro z0;dsimp only[List.set]) (hL:∀z0,L++[E z0]=(L' z0):=by intro z0;dsimp only[List.cons_append,List.nil_append]) (hf:gY P f=true:=by kernel_rfl):
  wpList P ops Q (o::rest) ⟨t.toArray,d0⟩ w:=
 GJ (Z:=Z) (fun r=>V r) (fun r=>E r) bf (fun cx=>let ⟨args,h1,h2⟩:=hs cx;⟨args,h1.mono (fun e W' ⟨z0,h1,h2⟩=>⟨z0,h1,h2⟩),h2⟩) (fun r w' hw=>by rw[ht];exact h r w' (hL r ▸ hw)) hop hcal hg hd hf
theorem Cp{Z:Type}{R:Type}{d:Tmp}{L':Z->R->List Ent}{t':Z->List Value}(V:Z->Value)(E:Z->R->Ent)(bf:St w0 bor L w){f:FuncId}(hs:∀{j:Operand->Value}{k:Tmp->Value}{W:World}{X:Nat->Ent},CtxV #[o] [0] ⟨t.toArray,d0⟩ w0 bor L (rg L) (fun _ _ _ _=>True) 0 j k W X->∃args,Calls P f args W (fun e W'=>∃z0 r,e= .returned (V z0)/\St W [] [E z0 r] W')/\(ow o.op).map j=args)
  (h:∀z0 r w',St w0 bor (L' z0 r) w'->wpList P ops Q rest ⟨(t' z0).toArray,d0⟩ w') (hop:o.op= .call c:=by rfl) (hcal:c.callee= .value (.func f):=by rfl) (hg:o.guard=none:=by rfl) (hd:o.dst=some d:=by rfl) (ht:∀z0,t.set d (V z0)=(t' z0):=by intro z0;dsimp only[List.set]) (hL:∀z0 r,L++[E z0 r]=(L' z0 r):=by intro z0 r;dsimp only[List.cons_append,List.nil_append]) (hf:gY P f=true:=by kernel_rfl):
  wpList P ops Q (o::rest) ⟨t.toArray,d0⟩ w:=
 GJ (Z:=Z×R) (fun r=>V r.1) (fun r=>E r.1 r.2) bf (fun cx=>let ⟨args,h1,h2⟩:=hs cx;⟨args,h1.mono (fun e W' ⟨z0,r,h1,h2⟩=>⟨(z0,r),h1,h2⟩),h2⟩) (fun r w' hw=>by rw[ht];exact h r.1 r.2 w' (hL r.1 r.2 ▸ hw)) hop hcal hg hd hf
theorem iC{Z:Type}{Y:Type}{d:Tmp}{L':Z->Y->List Ent}{t':Z->Y->List Value}(V:Z->Y->Value)(E:Z->Y->Ent)(bf:St w0 bor L w){f:FuncId}(hs:∀{j:Operand->Value}{k:Tmp->Value}{W:World}{X:Nat->Ent},CtxV #[o] [0] ⟨t.toArray,d0⟩ w0 bor L (rg L) (fun _ _ _ _=>True) 0 j k W X->∃args,Calls P f args W (fun e W'=>∃z0 z1,e= .returned (V z0 z1)/\St W [] [E z0 z1] W')/\(ow o.op).map j=args)
  (h:∀z0 z1 w',St w0 bor (L' z0 z1) w'->wpList P ops Q rest ⟨(t' z0 z1).toArray,d0⟩ w') (hop:o.op= .call c:=by rfl) (hcal:c.callee= .value (.func f):=by rfl) (hg:o.guard=none:=by rfl) (hd:o.dst=some d:=by rfl) (ht:∀z0 z1,t.set d (V z0 z1)=(t' z0 z1):=by intro z0 z1;dsimp only[List.set]) (hL:∀z0 z1,L++[E z0 z1]=(L' z0 z1):=by intro z0 z1;dsimp only[List.cons_append,List.nil_append]) (hf:gY P f=true:=by kernel_rfl):
  wpList P ops Q (o::rest) ⟨t.toArray,d0⟩ w:=
 GJ (Z:=Z×Y) (fun r=>V r.1 r.2) (fun r=>E r.1 r.2) bf (fun cx=>let ⟨args,h1,h2⟩:=hs cx;⟨args,h1.mono (fun e W' ⟨z0,z1,h1,h2⟩=>⟨(z0,z1),h1,h2⟩),h2⟩) (fun r w' hw=>by rw[ht];exact h r.1 r.2 w' (hL r.1 r.2 ▸ hw)) hop hcal hg hd hf
theorem kb{d:Tmp}{L':List Ent}(V:Value)(q:Nat)(cs':Array Value)(bf:St w0 bor L w){f:FuncId}(hs:∀{j:Operand->Value}{k:Tmp->Value}{W:World}{X:Nat->Ent},CtxV #[o] [0] ⟨t.toArray,d0⟩ w0 bor L (rg L) (fun _ _ _ _=>True) 0 j k W X->∃args,Calls P f args W (fun e W'=>e= .returned V/\Upd [b] W W'/\Blk W' b ty cs')/\(ow o.op).map j=args)
  (h:∀w',St w0 bor L' w'->wpList P ops Q rest ⟨t'.toArray,d0⟩ w') (hq:L[q]? =some (eB b ty cs):=by rfl) (hop:o.op= .call c:=by rfl) (hcal:c.callee= .value (.func f):=by rfl) (hg:o.guard=none:=by rfl) (hd:o.dst=some d:=by rfl) (ht:t.set d V=t':=by dsimp only[List.set]) (hL:L.set q (eB b ty cs')=L':=by dsimp only[List.set]) (hf:gY P f=true:=by kernel_rfl):wpList P ops Q (o::rest) ⟨t.toArray,d0⟩ w:=by
 have hql:q<L.length:=(List.getElem?_eq_some_iff.1 hq).1
 refine fO V (eB b ty cs') q bf (svA (o:=o) (fun j k W X cx=>?_) rfl hg) h (ht:=ht) (hL:=hL) (hk:=by simpa using hql) (hg:=hg) (hd:=hd)
 obtain⟨args,hc,hm⟩:=hs (cx.triv fun _ _ _ _=>trivial)
 rw[hop] at hm
 refine am.call (aq hop cx.sees hcal hf hm) (hc.mono ?_)
 rintro e W1 ⟨rfl,hu,hb⟩
 exact⟨_,rfl,bZ (cx.init q _ hq) rfl rfl hu hb (fun m s X' hs hb hv hx=>⟨(hv d hd).1,hx⟩)⟩
theorem mJ{d:Tmp}{ty:TypeId}{parts:Array (Nat×Operand)}{t':Nat->List Value}(e sz n:Nat)(xs:List Value)(bf:St w0 bor L w)
  (hr:∀{f:Operand->Value}{j:Tmp->Value}{W:World}{X:Nat->Ent},CtxV #[o] [0] ⟨t.toArray,d0⟩ w0 bor L (rg L) (fun _ _ _ _=>True) 0 f j W X->(execOp f o).run P W= .ok (.value (.slice (some ⟨W.heap.size,0,none⟩) n n)) (W.alloc (.cells xs.toArray e)))
  (h:∀B w',St w0 bor (L' B) w'->wpList P ops Q rest ⟨(t' B).toArray,d0⟩ w') (hop:o.op= .buildSlice ty n parts:=by rfl) (hg:o.guard=none:=by rfl) (hd:o.dst=some d:=by rfl) (ht:∀B,t.set d (.slice (some ⟨B,0,none⟩) n n)=t' B:=by intro B;dsimp only[List.set]) (hL:∀B,L++[eO e sz (.slice (some ⟨B,0,none⟩) n n) n xs]=L' B:=by intro B;dsimp only[List.cons_append,List.nil_append])
  (hn:xs.length=n*sz:=by rfl) (hm:n<=maxLen:=by decide):wpList P ops Q (o::rest) ⟨t.toArray,d0⟩ w:=
 ej pb' _ _ bf (svA (o:=o) (fun f j W X cx=>mn hop (hr (cx.triv fun _ _ _ _=>trivial)) hn hm hd rfl (fun _ _ _ _ _=> .intro)) rfl hg) h (ht:=ht) (hL:=hL) (hg:=hg) (hd:=hd)
theorem vE{d ty:Tmp}{e m bytes cp:Nat}{z:Value}{A0:Option Addr}{c0:Nat}{a:Addr}{news:List Value}{L':Option Addr->Nat->List Ent}{t':Option Addr->Nat->List Value}(nm:Nat)(xs':List Value)(q:Nat)(bf:St w0 bor L w)
  (hinf:(P.info? e).map (fun i=>(i.zero,i.size,i.bytes))=some (some z,sz,bytes)) (hA:∀{k:Operand->Value}{f:Tmp->Value}{W:World}{X:Nat->Ent},CtxV #[o] [0] ⟨t.toArray,d0⟩ w0 bor L (rg L) (fun _ _ _ _=>True) 0 k f W X->At W (some a) news)
  (h:∀A c w',St w0 bor (L' A c) w'->wpList P ops Q rest ⟨(t' A c).toArray,d0⟩ w') (hop:o.op= .call {callee:= .builtin .append,args:=#[x,y],argTypes:=#[ty,ty]}:=by rfl) (hx:Act.eval ⟨t.toArray,d0⟩ x= .slice A0 n c0:=by rfl) (hy:Act.eval ⟨t.toArray,d0⟩ y= .slice (some a) m cp:=by rfl) (hq:L[q]? =some (eO e sz (.slice A0 n c0) n xs):=by rfl)
  (hg:o.guard=none:=by rfl) (hd:o.dst=some d:=by rfl) (ht:∀A c,t.set d (.slice A nm c)=t' A c:=by intro A c;dsimp only[List.set]) (hL:∀A c,L.set q (eO e sz (.slice A nm c) nm xs')=L' A c:=by intro A c;dsimp only[List.set]) (hl:news.length=m*sz:=by rfl) (h1:∀u∈news,u.oneCell'=true:=by simp[Value.oneCell']) (h63:n+m<=maxLen:=by simp only[maxLen];omega) (hbytes:(n+m)*bytes<=140737488355328:=by omega) (hnm:n+m=nm:=by omega) (jM:xs++news=xs':=by rfl)
  (hu:P.underlying ty=some (.slice e):=by kernel_rfl) (hz:z.cells.size=sz:=by rfl) (hsz:Nat.blt 0 sz=true:=by rfl):wpList P ops Q (o::rest) ⟨t.toArray,d0⟩ w:=by
 have hql:q<L.length:=(List.getElem?_eq_some_iff.1 hq).1
 obtain⟨i0,hi0,hz0,hz1,hz2⟩:=info_parts hinf
 refine sqD (D:=fun _ j f X=>j d= .slice (sA (f d)) nm (sC (f d))/\X L.length=eO e sz (.slice (sA (f d)) nm (sC (f d))) nm xs') 1 [q] bf ?_ hg (fun z hz=>by rw[List.mem_singleton.1 hz];exact hql) fun j f X v w' hD hv hs'=>?_
 ·exact jc hop rfl hu hi0 hz0 hz1 hz2 hz (by simpa using hsz) hx (o3 (o:=o) bf _) (by rw[List.getD_eq_getElem?_getD,hq];rfl) (by simp[atV];exact hql) hy hl (hA (o3 bf fun _=>undef)) h1 h63 hbytes hd rfl rfl hnm jM (fun _ _ _ _ _=> .intro)
 ·rw[(hv d hd).1,(hv d hd).2] at hD
  have h2:=h (sA v) (sC v) w' (by rw[<-hL,<-hD.2];exact hs'.perm (my _ q L 0 (Nat.zero_le _) (by simpa using hql)))
  rw[<-ht,<-hD.1] at h2
  rw[hd]
  show wpList P ops Q rest ⟨t.toArray.setIfInBounds d v,d0⟩ w'
  rw[List.setIfInBounds_toArray]
  exact h2
end
end
section
open Go.RowKit
section
variable{P:Program}{Q:Exit->Act->World->Prop}{ops:Array Oper}{d0:List Deferred}{w:World}
theorem yv(tb:List SE)(dg:Nat)(ds:List Tmp){o:Oper}{b x:Bool}(h:wpList P ops Q os' ⟨t'.toArray,d0⟩ w)(ht1:vT tb t=t1:=by dsimp only[vT,SE.d,SE.v,List.set,gS])(ho:os.drop tb.length=o::os1:=by first|(dsimp only[List.drop,List.length];done)|rfl)
  (hv:gS t1 dg= .bool x:=by rfl) (hx:x=b:=by rfl) (ht:ds.foldl (fun l d=>l.set d undef) t1=t':=by dsimp only[List.foldl,List.set]) (hos:(o::os1).drop ds.length=os':=by dsimp only[List.drop,List.length])
  (hk:jU ops (gOf o) (bj ops (gOf o).1) ((o::os1).take ds.length) ds []=true:=by kernel_rfl) (hgo:o.guard=some (g,!b):=by rfl) (hd:bj ops g=some dg:=by kernel_rfl) (hl:Nat.blt dg t1.length=true:=by kernel_rfl) (hg:goS P (os.take tb.length) tb t=wtS tb t:=by kernel_rfl) (hn:(os.take tb.length).length=tb.length:=by kernel_rfl):wpList P ops Q os ⟨t.toArray,d0⟩ w:=
 sqp tb (O2 dg ds hv hx h ht hos hk hgo hd hl) ht1 ho hg hn
end
end
section
open Go.RowKit
def fW(ss:List ByteArray):Nat->Nat
 |0=>0
 |n+1=>if (ss.getD n ByteArray.empty).toList.isEmpty then fW ss n else n+1
theorem d3(ss:List ByteArray):∀n,fW ss n<=n
 |0=>Nat.le_refl _
 |n+1=>by unfold fW;split;exact Nat.le_succ_of_le (d3 ss n);exact Nat.le_refl _
theorem ja(ss:List ByteArray)(n:Nat):fW ss (n+1)=if (ss.getD n ByteArray.empty).toList.isEmpty then fW ss n else n+1:=rfl
def af(ss:List ByteArray):List ByteArray:=ss.take (fW ss ss.length)
theorem cu(ss:List ByteArray):(af ss).length=fW ss ss.length:=by
 simp only[af,List.length_take];exact Nat.min_eq_left (d3 ss _)
theorem Tryz.infoStr:(Tryz.prog.info? 9).map (fun i=>(i.zero,i.size,i.bytes))=some (some (.string ByteArray.empty),1,16):=by kernel_rfl
theorem Tryz.sizeStr:(Tryz.prog.info? 9).map (·.size)=some 1:=by kernel_rfl
theorem HW(ss:List ByteArray)(k:Nat):((ss.take k).map Value.string).length=Nat.min ss.length k:=by
 rw[List.length_map,List.length_take];exact Nat.min_comm _ _
theorem wH{w2:World}{k:Nat}(hk:k<=ss.length)(hb:ss.length<=100000)(ht:k=fW ss ss.length)(hg1:w.grownBy w1 none)
  (h2:w2.heap[w.heap.size]? =some (.cells (splice (List.replicate k (Value.string ByteArray.empty)) 0 ((ss.take k).map Value.string)).toArray 9 (0,0))) (hb2:Below w.heap.size w1 w2):
  w2.ownsRow w.heap.size 9 1 (.slice (some ⟨w.heap.size,0,none⟩) k k) k ((af ss).map Value.string)/\Ext w w2/\(af ss).length=k:=by
 have hl:(af ss).length=k:=by rw[cu,ht]
 have e:splice (List.replicate k (Value.string ByteArray.empty)) 0 ((ss.take k).map Value.string)=(af ss).map Value.string:=by
  subst ht
  simp[splice,af,Nat.min_eq_left (d3 ss ss.length)]
 rw[e] at h2
 exact⟨qB h2 (Nat.le_refl _) (by simp[hl]) (by simp only[maxLen];omega),((Ext.refl w).grown hg1 (by simp)).out.trans hb2,hl⟩
theorem lp(A:Option Addr)(c:Nat)(ss:List ByteArray)(w:World)(h:At w A (ss.map Value.string))(hl:ss.length<=100000):
  Calls Tryz.prog 104 #[.slice A ss.length c] w fun e w'=>e= .returned (.slice (some ⟨w.heap.size,0,none⟩) (af ss).length (af ss).length)/\
   w'.ownsRow w.heap.size 9 1 (.slice (some ⟨w.heap.size,0,none⟩) (af ss).length (af ss).length) (af ss).length ((af ss).map Value.string)/\Ext w w':=by
 obtain⟨i0,hi0,hz0,hz1,hz2⟩:=info_parts Tryz.infoStr
 have H:=Lib.hid h;clear h
 go_enter Tryz.func104,Tryz.ntmps104
 go_wp2
 go_loop [3] (fun i=>∃k:Nat,k<=ss.length/\i= .int .i64 k/\fW ss k=fW ss ss.length) (fun i=>(intOf i).toNat)
 case atStart=>exact⟨_,Nat.le_refl _,rfl,rfl⟩
 case round=>
  obtain⟨k,hk,rfl,ht⟩:=hrel
  have Ht:=Lib.hid ht;clear ht
  rcases k with _|k
  ·go_wp2_with (first
    |(at_make;go_must (refine wpList_make_full _ rfl (.tmp 19) (.tmp 19) 46 rfl w.heap.size 9 i0 _ 1 Tryz.underlying46 hi0 hz0 hz1 .i64 .i64 _ _ 0 rfl rfl rfl rfl (by rw[hz2];omega) (by simp only[maxLen];omega) (Nat.le_refl _) ?_);intro w1 hown1 hg1;have hm1:=yR hown1;clear hown1)
    |(with_reducible refine wpList_copy_splice rfl (.tmp 21) (.tmp 22) 46 46 rfl 9 Tryz.underlying46 Tryz.sizeStr _ _ _ _ _ _ rfl rfl w.heap.size 0 _ 9 hm1 [] (by simp) (by simp) (by simp) (by simp) w.heap.size w1 (Below.refl _ _) (Nat.le_refl _) ?_;intro w2 hh2 hb2))
   go_ret
   have R:=wH (k:=0) (Nat.zero_le _) hl Ht.out hg1 hh2.out hb2
   rw[R.2.2]
   exact⟨rfl,R.1,R.2.1⟩
  ·have hs:(ss.map Value.string)[k]? =some (.string (ss.getD k ByteArray.empty)):=by simp[List.getD,List.getElem?_eq_getElem (show k<ss.length by omega)]
   obtain⟨ad,rfl,hb,hc⟩:=H.out _ _ hs
   clear hs
   obtain⟨s,hs⟩:∃s,s=ss.getD k ByteArray.empty:=⟨_,rfl⟩
   rw[<-hs] at hc
   have Hs:=Lib.hid hs;clear hs
   go_wp2_with (first
    |(at_make;go_must (refine wpList_make_full _ rfl (.tmp 19) (.tmp 19) 46 rfl w.heap.size 9 i0 _ 1 Tryz.underlying46 hi0 hz0 hz1 .i64 .i64 _ _ (k+1) rfl rfl (by omega) (by omega) (by rw[hz2];omega) (by simp only[maxLen];omega) (Nat.le_refl _) ?_);intro w1 hown1 hg1;have hm1:=yR hown1;clear hown1)
    |(with_reducible refine wpList_copy_splice rfl (.tmp 21) (.tmp 22) 46 46 rfl 9 Tryz.underlying46 Tryz.sizeStr _ _ _ _ _ _ rfl rfl w.heap.size 0 _ 9 hm1 ((ss.take (k+1)).map Value.string) (HW _ _) (fun _=>⟨rfl,_,rfl,fun j v hj=>((At.take H.out (k+1)).ext ((Ext.refl w).grown hg1 (by simp))).at_ j v (by simpa using hj)⟩) (by simp;omega) (vA _) w.heap.size w1 (Below.refl _ _) (Nat.le_refl _) ?_;intro w2 hh2 hb2))
   ·have hemp:s.toList.isEmpty=true:=by assumption
    go_round
    case rel=>exact⟨k,by omega,rfl,by rw[<-Ht.out,ja,<-Hs.out,if_pos hemp]⟩
    case measure=>simp[intOf]
   ·have hemp:s.toList.isEmpty=false:=by assumption
    go_ret
    have R:=wH (k:=k+1) hk hl (by rw[<-Ht.out,ja,<-Hs.out,hemp];rfl) hg1 hh2.out hb2
    rw[R.2.2]
    exact⟨rfl,R.1,R.2.1⟩
end
section
open Go.RowKit
def aO(ss:List ByteArray):Nat:=(ss.map fun s=>2+s.size).sum
theorem nv(ss:List ByteArray)(k:Nat)(h:k<ss.length):aO (ss.take (k+1))=aO (ss.take k)+(2+ss[k].size):=by
 unfold aO
 rw[List.take_succ_eq_append_getElem h,List.map_append,List.sum_append]
 simp only[List.map_cons,List.map_nil,List.sum_cons,List.sum_nil,Nat.add_zero]
theorem GM(ss:List ByteArray)(B:Nat)(h:∀s∈ss,s.size<=B):aO ss<=ss.length*(2+B):=by
 unfold aO
 induction ss with
 |nil=>simp
 |cons a l ih=>
  have h1:=h a (by simp)
  have h2:=ih fun s hs=>h s (by simp[hs])
  simp only[List.map_cons,List.sum_cons,List.length_cons,Nat.add_mul]
  omega
def cK(ss:List ByteArray):Nat:=14+aO (af ss)
def dP(ss:List ByteArray):Prop:=ss.length<=100000/\∀s∈ss,s.size<=1000000
theorem dP.plain(h:dP ss):dP (af ss):=
 ⟨by have:=cu ss;have:=d3 ss ss.length;have:=h.1;omega,fun s hs=>h.2 s (List.mem_of_mem_take hs)⟩
theorem dP.take(h:dP ss)(k:Nat):aO (ss.take k)<=100000*1000002:=by
 have h1:=GM (ss.take k) 1000000 fun s hs=>h.2 s (List.mem_of_mem_take hs)
 have h2:(ss.take k).length<=100000:=by have:=h.1;simp;omega
 exact Nat.le_trans h1 (Nat.mul_le_mul h2 (by omega))
theorem yh(A:Option Addr)(c:Nat)(ss:List ByteArray)(w:World)(h:At w A (ss.map Value.string))(hs:dP ss):
  Calls Tryz.prog 155 #[.slice A ss.length c] w fun e w'=>e= .returned (.int .i64 (cK ss))/\Ext w w':=by
 have H:=Lib.hid h;clear h
 have HS:=Lib.hid hs;clear hs
 go_enter Tryz.func155,Tryz.ntmps155
 go_wp2_with (go_at_call 104;refine(lp _ _ _ _ H.out HS.out.1).mono ?_;rintro e w1 ⟨rfl,hown,hext⟩;have Hown:=Lib.hid hown;clear hown;have Hext:=Lib.hid hext;clear hext)
 have hsm:=dP.plain HS.out
 have hpl:(af ss).length<=100000:=hsm.1
 have Hp:=Lib.hid hsm;clear hsm
 obtain⟨ps,hps⟩:∃ps,ps=af ss:=⟨_,rfl⟩
 rw[<-hps] at Hown Hp hpl |-
 have Hps:=Lib.hid hps;clear hps
 go_loop [3,9] (fun n i=>∃k:Nat,k<=ps.length/\i= .int .i64 k/\n= .int .i64 ((14+aO (ps.take k):Nat):Int)) (fun _ i=>ps.length-(intOf i).toNat)
 case atStart=>exact⟨0,Nat.zero_le _,rfl,rfl⟩
 case round=>
  obtain⟨k,hk,rfl,rfl⟩:=hrel
  have hb:=dP.take Hp.out k
  rcases Nat.lt_or_ge k ps.length with hlt|hge
  ·have hc:=(At.of_own Hown.out).get0 (k:=k) (by simpa using hlt)
   have hsz:(ps[k]).size<=1000000:=Hp.out.2 _ (List.getElem_mem hlt)
   have Hn:=Lib.hid (nv ps k hlt)
   obtain⟨s,hs⟩:∃s,s=ps[k]:=⟨_,rfl⟩
   rw[<-hs] at hsz Hn
   rw[List.getElem_map,<-hs] at hc
   clear hs
   obtain⟨t,ht⟩:∃t,t=aO (ps.take k):=⟨_,rfl⟩
   rw[<-ht] at Hn hb |-
   clear ht
   go_wp2
   go_round
   case rel=>exact⟨k+1,by omega,by go_num,by rw[Hn.out];go_num⟩
   case measure=>simp[intOf];omega
  ·obtain rfl:k=ps.length:=by omega
   go_wp2
   go_ret
   exact⟨vQ (by rw[cK,<-Hps.out];omega),Hext.out⟩
end
section
open Go.RowKit
def fX(ss:List ByteArray):Bool:=ss.any fun s=>decide (400<s.size)
theorem tG(ss:List ByteArray)(k:Nat)(h:k<ss.length):fX (ss.take (k+1))=(fX (ss.take k)||decide (400<ss[k].size)):=by
 unfold fX
 rw[List.take_succ_eq_append_getElem h]
 simp only[List.any_append,List.any_cons,List.any_nil,Bool.or_false]
def Kp(ss:List ByteArray)(w:World)(e:Ending)(w':World):Prop:=∃r:Int,e= .returned (.int .i64 r)/\(0<=r<->fX ss=true)/\w=w'
theorem F3(ss:List ByteArray)(k:Nat)(h:k<ss.length)(hl:400<ss[k].size):fX ss=true:=by
 unfold fX
 rw[List.any_eq_true]
 exact⟨ss[k],List.getElem_mem h,by simpa using hl⟩
theorem yt(s:ByteArray)(w:World)(hs:s.size<=9223372036854775807):
  Calls Tryz.prog 153 #[.string s] w fun e w'=>e= .returned (.bool (decide (400<s.size)))/\w=w':=by
 go_enter Tryz.func153,Tryz.ntmps153
 go_wp2
 go_ret
 exact⟨xZ (by simp only[decide_eq_decide];omega),rfl⟩
theorem EW(A:Option Addr)(c:Nat)(ss:List ByteArray)(w:World)(h:At w A (ss.map Value.string))(hs:dP ss):
  Calls Tryz.prog 179 #[.slice A ss.length c,.func (.func 153) #[] #[]] w (Kp ss w):=by
 have H:=Lib.hid h;clear h
 have hl:=hs.1
 have HS:=Lib.hid hs;clear hs
 go_enter Tryz.func179,Tryz.ntmps179
 go_wp2
 go_loop [8] (fun i=>∃k:Nat,k<=ss.length/\i= .int .i64 k/\fX (ss.take k)=false) (fun i=>ss.length-(intOf i).toNat)
 case atStart=>exact⟨0,Nat.zero_le _,rfl,rfl⟩
 case round=>
  obtain⟨k,hk,rfl,ht⟩:=hrel
  have Ht:=Lib.hid ht;clear ht
  rcases Nat.lt_or_ge k ss.length with hlt|hge
  ·obtain⟨ad,rfl,_,hc⟩:=H.out.get (k:=k) (by simpa using hlt)
   rw[List.getElem_map] at hc
   have hsz:(ss[k]).size<=1000000:=HS.out.2 _ (List.getElem_mem hlt)
   obtain⟨s,hs⟩:∃s,s=ss[k]:=⟨_,rfl⟩
   rw[<-hs] at hc hsz
   have Hs:=Lib.hid hs;clear hs
   rcases Nat.lt_or_ge 400 s.size with h4|h4
   ·have hd:decide (400<s.size)=true:=by simpa using h4
    go_wp2_with (go_at_call 153;refine(yt _ _ (by omega)).mono ?_;rintro e w1 ⟨rfl,rfl⟩)
    go_ret
    exact⟨_,rfl,⟨fun _=>F3 ss k hlt (by rw[<-Hs.out];exact h4),fun _=>by omega⟩,rfl⟩
   ·have hd:decide (400<s.size)=false:=by simpa using h4
    have hn:fX (ss.take (k+1))=false:=by rw[tG ss k hlt,Ht.out,<-Hs.out,hd];rfl
    have Hn:=Lib.hid hn;clear hn
    go_wp2_with (go_at_call 153;refine(yt _ _ (by omega)).mono ?_;rintro e w1 ⟨rfl,rfl⟩)
    go_round
    case rel=>exact⟨k+1,by omega,by go_num,Hn.out⟩
    case measure=>simp[intOf];omega
  ·obtain rfl:k=ss.length:=by omega
   rw[List.take_length] at Ht
   go_wp2
   go_ret
   exact⟨-1,rfl,⟨fun h=>absurd h (by decide),fun h=>by rw[Ht.out] at h;cases h⟩,rfl⟩
theorem qD(A:Option Addr)(c:Nat)(ss:List ByteArray)(w:World)(h:At w A (ss.map Value.string))(hs:dP ss):
  Calls Tryz.prog 154 #[.slice A ss.length c,.func (.func 153) #[] #[]] w fun e w'=>e= .returned (.bool (fX ss))/\w=w':=by
 have H:=Lib.hid h;clear h
 have HS:=Lib.hid hs;clear hs
 go_enter Tryz.func154,Tryz.ntmps154
 go_wp2_with (go_at_call 179;refine(EW _ _ _ _ H.out HS.out).mono ?_;rintro e w1 ⟨r,rfl,hr,rfl⟩;have Hr:=Lib.hid hr;clear hr)
 go_ret
 refine⟨xZ ?_,rfl⟩
 rw[Bool.eq_iff_iff,<-Hr.out,decide_eq_true_iff]
def bz(k l:Int)(ss:List ByteArray):Bool:=
 decide (0<=k)&&(decide (k<=2)&&(decide (0<=l)&&(decide (l<=2147483647)&&(decide (ss.length<=24)&&(!fX ss&&decide (cK ss<=512))))))
def gJ(v:Value)(w:World)(e:Ending)(w':World):Prop:=e= .returned v/\Ext w w'
theorem gJ.bool{a b:Bool}(h:a=b)(hx:Ext w w1):gJ (.bool b) w (.returned (.bool a)) w1:=⟨by rw[h],hx⟩
theorem gJ.int{k:IntKind}{a b:Int}(h:a=b)(hx:Ext w w1):gJ (.int k b) w (.returned (.int k a)) w1:=⟨by rw[h],hx⟩
theorem qv(k l:Int)(A:Option Addr)(c:Nat)(ss:List ByteArray)(w:World)(h:At w A (ss.map Value.string))(hs:dP ss):
  Calls Tryz.prog 101 #[.agg #[.int .i64 k,.int .i64 l,.slice A ss.length c]] w (gJ (.bool (bz k l ss)) w):=by
 have H:=Lib.hid h;clear h
 have hl:=hs.1
 have HS:=Lib.hid hs;clear hs
 have X0:=Lib.hid ((Ext.refl w).alloc (.cells #[.int .i64 k,.int .i64 l,.slice A ss.length c] 48))
 by_cases h1:0<=k
 ·by_cases h2:k<=2
  ·by_cases h3:0<=l
   ·by_cases h4:l<=2147483647
    ·by_cases h5:ss.length<=24
     ·have h5':(ss.length:Int)<=24:=by omega
      rcases hb:fX ss with _|_
      ·have H6:=Lib.hid hb;clear hb
       by_cases h7:cK ss<=512
       all_goals
        go_enter Tryz.func101,Tryz.ntmps101
        go_wp2_with (first
         |(go_at_call 154;refine(qD _ _ _ _ (H.out.ext X0.out) HS.out).mono ?_;rw[H6.out];rintro e w1 ⟨rfl,rfl⟩)
         |(go_at_call 155;refine(yh _ _ _ _ (H.out.ext X0.out) HS.out).mono ?_;rintro e w1 ⟨rfl,hx⟩;have X1:=Lib.hid (X0.out.trans hx);clear hx))
        go_ret
        exact gJ.bool (by simp[bz,h1,h2,h3,h4,h5,H6.out];omega) X1.out
      ·have H6:=Lib.hid hb;clear hb
       go_enter Tryz.func101,Tryz.ntmps101
       go_wp2_with (go_at_call 154;refine(qD _ _ _ _ (H.out.ext X0.out) HS.out).mono ?_;rw[H6.out];rintro e w1 ⟨rfl,rfl⟩)
       go_ret
       exact gJ.bool (by simp[bz,H6.out]) X0.out
     ·have h5':¬(ss.length:Int)<=24:=by omega
      go_enter Tryz.func101,Tryz.ntmps101
      go_wp2
      go_ret
      exact gJ.bool (by simp[bz,h5]) X0.out
    ·go_enter Tryz.func101,Tryz.ntmps101
     go_wp2
     go_ret
     exact gJ.bool (by simp[bz];intros;omega) X0.out
   ·go_enter Tryz.func101,Tryz.ntmps101
    go_wp2
    go_ret
    exact gJ.bool (by simp[bz];intros;omega) X0.out
  ·go_enter Tryz.func101,Tryz.ntmps101
   go_wp2
   go_ret
   exact gJ.bool (by simp[bz];intros;omega) X0.out
 ·go_enter Tryz.func101,Tryz.ntmps101
  go_wp2
  go_ret
  exact gJ.bool (by simp[bz];intros;omega) X0.out
end
section
open Go.RowKit
def jb(n:Int):Int:=max 0 (min n 8)
theorem li(n:Int)(w:World):Calls Tryz.prog 148 #[.int .i64 n] w fun e w'=>e= .returned (.int .i64 (jb n))/\w=w':=by
 go_enter Tryz.func148,Tryz.ntmps148
 go_wp2
 all_goals
  go_ret
  exact⟨vQ (by unfold jb;omega),rfl⟩
def lP(n:Int):List Int:=[IntKind.u64.wrap n / 72057594037927936 % 256,IntKind.u64.wrap n / 281474976710656 % 256,IntKind.u64.wrap n / 1099511627776 % 256,IntKind.u64.wrap n / 4294967296 % 256,
 IntKind.u64.wrap n / 16777216 % 256,IntKind.u64.wrap n / 65536 % 256,IntKind.u64.wrap n / 256 % 256,IntKind.u64.wrap n % 256]
def ag(n:Int)(k:Nat):ByteArray:=strOfNums ((lP n).drop (8-k))
theorem aF(n:Int)(k:Nat)(hk:k<=8):(ag n k).size=k:=by
 rw[ag,strOfNums_size,List.length_drop]
 show 8-(8-k)=k
 omega
theorem o5(n:Int)(k:Nat)(hk:k<=8)(m:Nat)(hm:m+k=8)(W:World)(B:Nat)(hB:B=W.heap.size)(w:World)(t:TypeId)(hw:w=W.alloc (.cells ((lP n).map (Value.int .u8)).toArray t)):
  (convert 41 9 (.slice (some ⟨B,m,none⟩) k k)).run Tryz.prog w= .ok (.string (ag n k)) w:=by
 subst hB
 refine run_convert_bytes_arg _ 41 5 Tryz.underlying41 Tryz.underlying5 W.heap.size m k k ((lP n).drop (8-k)) (by rw[List.length_drop];show 8-(8-k)=k;omega) (fun i hi=>?_) 9 Tryz.underlying9
 rw[hw,World.cell?_alloc_at _ _ _ _ rfl]
 have hl:(lP n).length=8:=rfl
 have hlt:m+i<(lP n).length:=by omega
 rw[List.getElem?_toArray,List.getElem?_map,List.getElem?_eq_getElem hlt]
 have e:8-k=m:=by omega
 rw[e,List.getD_eq_getElem?_getD,List.getElem?_drop,List.getElem?_eq_getElem hlt]
 rfl
theorem qy(n:Int)(w:World):Calls Tryz.prog 120 #[.int .i64 n,.int .i64 1] w (gJ (.string (ag n 1)) w):=by
 have hcv:=o5 n 1 (by omega) 7 rfl w w.heap.size rfl _ 204 rfl
 simp only[lP,List.map_cons,List.map_nil] at hcv
 have hs:jb 1=1:=by decide
 go_enter Tryz.func120,Tryz.ntmps120
 go_wp2_with fail
 refine wp_loop_rounds 9 ?_
 rw[rounds_succ];go_wp2_with fail
 rw[rounds_succ];go_wp2_with fail
 rw[rounds_succ];go_wp2_with fail
 rw[rounds_succ];go_wp2_with fail
 rw[rounds_succ];go_wp2_with fail
 rw[rounds_succ];go_wp2_with fail
 rw[rounds_succ];go_wp2_with fail
 rw[rounds_succ];go_wp2_with fail
 rw[rounds_succ];go_wp2_with fail
 refine(li _ _).mono ?_
 rw[hs]
 rintro e w1 ⟨rfl,rfl⟩
 clear hs
 go_wp2
 go_ret
 exact⟨rfl,(Ext.refl w).alloc _⟩
theorem wK(n:Int)(w:World):Calls Tryz.prog 120 #[.int .i64 n,.int .i64 2] w (gJ (.string (ag n 2)) w):=by
 have hcv:=o5 n 2 (by omega) 6 rfl w w.heap.size rfl _ 204 rfl
 simp only[lP,List.map_cons,List.map_nil] at hcv
 have hs:jb 2=2:=by decide
 go_enter Tryz.func120,Tryz.ntmps120
 go_wp2_with fail
 refine wp_loop_rounds 9 ?_
 rw[rounds_succ];go_wp2_with fail
 rw[rounds_succ];go_wp2_with fail
 rw[rounds_succ];go_wp2_with fail
 rw[rounds_succ];go_wp2_with fail
 rw[rounds_succ];go_wp2_with fail
 rw[rounds_succ];go_wp2_with fail
 rw[rounds_succ];go_wp2_with fail
 rw[rounds_succ];go_wp2_with fail
 rw[rounds_succ];go_wp2_with fail
 refine(li _ _).mono ?_
 rw[hs]
 rintro e w1 ⟨rfl,rfl⟩
 clear hs
 go_wp2
 go_ret
 exact⟨rfl,(Ext.refl w).alloc _⟩
theorem lg(n:Int)(w:World):Calls Tryz.prog 120 #[.int .i64 n,.int .i64 4] w (gJ (.string (ag n 4)) w):=by
 have hcv:=o5 n 4 (by omega) 4 rfl w w.heap.size rfl _ 204 rfl
 simp only[lP,List.map_cons,List.map_nil] at hcv
 have hs:jb 4=4:=by decide
 go_enter Tryz.func120,Tryz.ntmps120
 go_wp2_with fail
 refine wp_loop_rounds 9 ?_
 rw[rounds_succ];go_wp2_with fail
 rw[rounds_succ];go_wp2_with fail
 rw[rounds_succ];go_wp2_with fail
 rw[rounds_succ];go_wp2_with fail
 rw[rounds_succ];go_wp2_with fail
 rw[rounds_succ];go_wp2_with fail
 rw[rounds_succ];go_wp2_with fail
 rw[rounds_succ];go_wp2_with fail
 rw[rounds_succ];go_wp2_with fail
 refine(li _ _).mono ?_
 rw[hs]
 rintro e w1 ⟨rfl,rfl⟩
 clear hs
 go_wp2
 go_ret
 exact⟨rfl,(Ext.refl w).alloc _⟩
end
section
open Go.RowKit
def Rd(t:TypeId)(w:World)(B:Nat)(s:ByteArray)(p:Nat)(f:Bool):Prop:=Blk w B t #[.string s,.int .i64 p,.bool f]/\p<=s.size/\s.size<=2000000
def jq(t:TypeId)(v:Value)(B:Nat)(s:ByteArray)(p:Nat)(f:Bool)(w:World)(e:Ending)(w':World):Prop:=e= .returned v/\Rd t w' B s p f/\Upd [B] w w'
theorem sD(B:Nat)(s:ByteArray)(p:Nat)(f:Bool)(w:World)(h:Rd 193 w B s p f):
  Calls Tryz.prog 149 #[po B 0] w (gJ (.int .i64 (s.size-p:Nat)) w):=by
 obtain⟨hb,hp,hs⟩:=h
 have c0:w.cell? ⟨B,0,none⟩=some (.string s):=hb.cell 0
 have c1:w.cell? ⟨B,1,none⟩=some (.int .i64 p):=hb.cell 1
 have e1:=Lib.hid (show (s.size:Int)-(p:Int)=((s.size-p:Nat):Int) by omega)
 clear hb
 go_enter Tryz.func149,Tryz.ntmps149
 go_wp2
 go_quiet (fail)
 go_wp2
 go_ret
 exact gJ.int e1.out ((Ext.refl w).drewN _)
theorem fv(B:Nat)(s:ByteArray)(p:Nat)(f:Bool)(w:World)(h:Rd 193 w B s p f):
  Calls Tryz.prog 97 #[po B 0] w fun e w'=>e= .returned (.bool f)/\w=w':=by
 obtain⟨hb,hp,hs⟩:=h
 have c2:w.cell? ⟨B,2,none⟩=some (.bool f):=hb.cell 2
 clear hb
 go_enter Tryz.func97,Tryz.ntmps97
 go_wp2
 go_ret
 exact⟨rfl,rfl⟩
theorem vr(B:Nat)(s:ByteArray)(p n:Nat)(w:World)(h:Rd 193 w B s p false)(hn:p+n<=s.size):
  Calls Tryz.prog 96 #[po B 0,.int .i64 n] w (jq 193 (.string (s.extract p (p+n))) B s (p+n) false w):=by
 obtain⟨hb,hp,hs⟩:=h
 have HB:=Lib.hid hb
 have c0:w.cell? ⟨B,0,none⟩=some (.string s):=hb.cell 0
 have c1:w.cell? ⟨B,1,none⟩=some (.int .i64 p):=hb.cell 1
 have c2:w.cell? ⟨B,2,none⟩=some (.bool false):=hb.cell 2
 clear hb
 go_enter Tryz.func96,Tryz.ntmps96
 go_wp2_with fail
 refine(sD _ _ _ _ _ ⟨HB.out,hp,hs⟩).mono ?_
 rintro e w1 ⟨rfl,hx⟩
 have HB1:=Lib.hid (HB.out.ext hx)
 have X1:=Lib.hid hx
 clear hx c0 c1 c2
 have c0:w1.cell? ⟨B,0,none⟩=some (.string s):=HB1.out.cell 0
 have c1:w1.cell? ⟨B,1,none⟩=some (.int .i64 p):=HB1.out.cell 1
 have f1:=HB1.out.frozen 1
 have hlt:=HB1.out.lt
 have hn1:(n:Int)<=((s.size-p:Nat):Int):=by omega
 have e1:(0:Int)<=(p:Int)+(n:Int):=by omega
 have e2:(p:Int)+(n:Int)<=(s.size:Int):=by omega
 have e3:(p:Int)<=(p:Int)+(n:Int):=by omega
 go_wp2_with fail
 go_quiet (fail)
 go_wp2
 go_ret
 refine⟨rfl,⟨?_,hn,hs⟩,((Upd.of_ext X1.out).set (.inl (by simp)) _).drewN _⟩
 rw[show ((p+n:Nat):Int)=(p:Int)+(n:Int) by omega]
 exact(HB1.out.set_ 1 _).drewN _
theorem kB(B:Nat)(s:ByteArray)(p:Nat)(f:Bool)(n:Int)(w:World)(h:Rd 193 w B s p f)(hn:f=true\/n<0\/(s.size:Int)<p+n):
  Calls Tryz.prog 96 #[po B 0,.int .i64 n] w (jq 193 (.string ByteArray.empty) B s p true w):=by
 obtain⟨hb,hp,hs⟩:=h
 have HB:=Lib.hid hb
 have c2:w.cell? ⟨B,2,none⟩=some (.bool f):=hb.cell 2
 have f2:=hb.frozen 2
 clear hb
 rcases f with _|_
 ·by_cases h0:n<0
  ·go_enter Tryz.func96,Tryz.ntmps96
   go_wp2
   go_ret
   exact⟨rfl,⟨HB.out.set_ 2 _,hp,hs⟩,(Upd.refl _ _).set (.inl (by simp)) _⟩
  ·have h1:(s.size:Int)<p+n:=by simpa[h0] using hn
   have h0':0<=n:=by omega
   have h2:((s.size-p:Nat):Int)<n:=by omega
   clear hn h1 h0
   go_enter Tryz.func96,Tryz.ntmps96
   go_wp2_with fail
   refine(sD _ _ _ _ _ ⟨HB.out,hp,hs⟩).mono ?_
   rintro e w1 ⟨rfl,hx⟩
   have HB1:=Lib.hid (HB.out.ext hx)
   have X1:=Lib.hid hx
   clear hx c2 f2
   have c2:w1.cell? ⟨B,2,none⟩=some (.bool false):=HB1.out.cell 2
   have f2:=HB1.out.frozen 2
   go_wp2
   go_ret
   exact⟨rfl,⟨HB1.out.set_ 2 _,hp,hs⟩,(Upd.of_ext X1.out).set (.inl (by simp)) _⟩
 ·clear hn
  go_enter Tryz.func96,Tryz.ntmps96
  go_wp2
  go_ret
  exact⟨rfl,⟨HB.out.set_ 2 _,hp,hs⟩,(Upd.refl _ _).set (.inl (by simp)) _⟩
def d5(l:List UInt8):Nat:=l.foldl (fun n c=>n*256+c.toNat) 0
theorem ng(l:List UInt8)(c:UInt8):d5 (l++[c])=d5 l*256+c.toNat:=by rw[d5,List.foldl_append];rfl
theorem ot(l:List UInt8):d5 l<256^l.length:=by
 have h:∀(l:List UInt8) (n:Nat),l.foldl (fun n c=>n*256+c.toNat) n<(n+1)*256^l.length:=by
  intro l
  induction l with
  |nil=>intro n;simp
  |cons c l ih=>
   intro n
   have h1:=ih (n*256+c.toNat)
   have h2:c.toNat<256:=UInt8.toNat_lt _
   have h3:(n*256+c.toNat+1)*256^l.length<=((n+1)*256)*256^l.length:=Nat.mul_le_mul_right _ (by omega)
   rw[List.foldl_cons,List.length_cons,Nat.pow_succ,Nat.mul_comm (256^l.length) 256,<-Nat.mul_assoc]
   omega
 have:=h l 0
 simpa[d5] using this
def pd(s:ByteArray):List Value:=s.data.toList.map fun b=>Value.int .u8 b.toNat
theorem Bg(s:ByteArray)(w:World):∃cap w',(convert 9 41 (.string s)).run Tryz.prog w= .ok (.slice (some ⟨w.heap.size,0,none⟩) s.size cap) w'/\Ext w w'/\At w' (some ⟨w.heap.size,0,none⟩) (pd s)/\s.size<=cap:=by
 have hcut:s.size<=grownCap w s.size 0 5:=grownCap_ge w s.size 0 5
 refine⟨_,_,run_bytes_of_string w 9 41 5 s Tryz.underlying9 Tryz.underlying41 Tryz.underlying5,(Ext.refl w).drew.alloc _,?_,hcut⟩
 intro j u hj
 have hjl:j<s.data.toList.length:=by
  rcases Nat.lt_or_ge j s.data.toList.length with h|h
  ·exact h
  ·rw[pd,List.getElem?_eq_none (by simpa using h)] at hj;cases hj
 refine⟨_,rfl,by simp,?_⟩
 have hh:=heap_alloc_new w.drew (.cells (bytesRow s (grownCap w s.size 0 5)) 5 ((bytesRow s (grownCap w s.size 0 5)).size,(bytesRow s (grownCap w s.size 0 5)).size+1))
 have hh':(w.drew.alloc (.cells (bytesRow s (grownCap w s.size 0 5)) 5 ((bytesRow s (grownCap w s.size 0 5)).size,(bytesRow s (grownCap w s.size 0 5)).size+1))).heap[w.heap.size]? = _:=hh
 rw[Addr.add_lit,Nat.zero_add]
 unfold World.cell?
 rw[hh']
 show (bytesRow s (grownCap w s.size 0 5))[j]? =some u
 rw[bytesRow,Array.getElem?_append_left (by simpa using hjl),<-hj,pd]
 simp
theorem Lb(a b:Nat)(ha:a<4611686018427387904)(hb:b<4611686018427387904):bits .or .i64 (a:Int) (b:Int)=((a|||b:Nat):Int):=by
 have e:bits .or .i64 (a:Int) (b:Int)=IntKind.i64.wrap ((BitVec.ofInt 64 (a:Int)|||BitVec.ofInt 64 (b:Int)).toNat:Int):=rfl
 have h1:∀n:Nat,n<4611686018427387904->(BitVec.ofInt 64 (n:Int)).toNat=n:=fun n hn=>by
  rw[BitVec.ofInt_natCast,BitVec.toNat_ofNat,Nat.mod_eq_of_lt (by omega)]
 have h2:a|||b<2^62:=Nat.or_lt_two_pow (by omega) (by omega)
 rw[e,BitVec.toNat_or,h1 a ha,h1 b hb,IntKind.wrap_i64]
 omega
theorem La(a c:Nat)(hc:c<256):a*256|||c=a*256+c:=by
 have:=Nat.two_pow_add_eq_or_of_lt (i:=8) (b:=c) (by omega) a
 rw[Nat.mul_comm a 256]
 exact this.symm
def aL(s:ByteArray)(p k:Nat):Nat:=d5 (s.extract p (p+k)).data.toList
theorem dL(B:Nat)(s:ByteArray)(p k:Nat)(w:World)(h:Rd 193 w B s p false)(hk:k<=4)(hn:p+k<=s.size):
  Calls Tryz.prog 95 #[po B 0,.int .i64 k] w (jq 193 (.int .i64 (aL s p k)) B s (p+k) false w):=by
 have H:=Lib.hid h;clear h
 have hsk:=Lib.hid (show jb k=k by unfold jb;omega)
 go_enter Tryz.func95,Tryz.ntmps95
 go_wp2_with fail
 refine(li _ _).mono ?_
 rw[hsk.out]
 rintro e w1 ⟨rfl,rfl⟩
 go_wp2_with fail
 refine(vr _ _ _ _ _ H.out hn).mono ?_
 rintro e w1 ⟨rfl,hr,hu⟩
 obtain⟨t,ht⟩:∃t,t=s.extract p (p+k):=⟨_,rfl⟩
 rw[<-ht]
 have htk:t.size=k:=by rw[ht,ByteArray.size_extract];omega
 have HT:=Lib.hid (show aL s p k=d5 t.data.toList by rw[aL,<-ht])
 have HK:=Lib.hid htk
 have HR:=Lib.hid hr
 have HU:=Lib.hid hu
 have hts:(t.size:Int)<=4:=by omega
 clear hr hu ht htk
 obtain⟨cap,w2,hcv,hx,hAt,hcap⟩:=Bg t w1
 have X2:=Lib.hid hx
 have HA:=Lib.hid hAt
 clear hx hAt
 go_wp2
 go_loop [5,14] (fun x v=>∃j:Nat,v= .int .i64 j/\j<=t.size/\x= .int .i64 (d5 (t.data.toList.take j))) (fun _ v=>t.size-(intOf v).toNat)
 case atStart=>exact⟨0,rfl,Nat.zero_le _,rfl⟩
 case round=>
  obtain⟨j,rfl,hj,rfl⟩:=hrel
  rcases Nat.lt_or_ge j t.size with hlt|hge
  ·have hb:=ot (t.data.toList.take j)
   have hlen:(t.data.toList.take j).length=j:=by simp;omega
   have h256:256^(t.data.toList.take j).length<=16777216:=by
    rw[hlen]
    exact Nat.le_trans (Nat.pow_le_pow_right (by omega) (show j<=3 by omega)) (by decide)
   have hsn:t.data.toList.take (j+1)=t.data.toList.take j++[t[j]]:=by rw[List.take_succ_eq_append_getElem (by simpa using hlt)];rfl
   have HN:=Lib.hid (show d5 (t.data.toList.take (j+1))=d5 (t.data.toList.take j)*256+t[j].toNat by rw[hsn,ng])
   have hcell:w2.cell? ⟨w1.heap.size,j,none⟩=some (.int .u8 t[j].toNat):=by
    obtain⟨ad,e,_,hc⟩:=HA.out j _ (by rw[pd,List.getElem?_map,List.getElem?_eq_getElem (by simpa using hlt)];rfl)
    injection e with e
    subst e
    rwa [Addr.add_lit,Nat.zero_add] at hc
   obtain⟨a,ha⟩:∃a,a=d5 (t.data.toList.take j):=⟨_,rfl⟩
   obtain⟨c,hc⟩:∃c,c=t[j].toNat:=⟨_,rfl⟩
   have hc8:c<256:=by rw[hc];exact UInt8.toNat_lt _
   rw[<-ha] at hb HN |-
   rw[<-hc] at HN hcell
   have ha1:(a:Int)<=16777216:=by omega
   have i1:(0:Int)<=(j:Int):=by omega
   have i2:(j:Int)<(t.size:Int):=by omega
   have HO:=Lib.hid (show bits .or .i64 ((a:Int)*256) (c:Int)=((a*256+c:Nat):Int) by
    rw[show ((a:Int)*256)=((a*256:Nat):Int) by omega,Lb _ _ (by omega) (by omega),La a c hc8])
   clear hsn hlen h256 hb ha hc
   go_wp2
   go_round
   case rel=>exact⟨j+1,by go_num,by omega,by rw[HN.out,HO.out]⟩
   case measure=>simp[intOf];omega
  ·obtain rfl:j=t.size:=by omega
   have e:t.data.toList.take t.size=t.data.toList:=List.take_of_length_le (by simp)
   rw[e]
   clear e
   go_wp2
   go_ret
   refine⟨?_,⟨HR.out.1.ext X2.out,HR.out.2.1,HR.out.2.2⟩,HU.out.ext X2.out⟩
   rw[HT.out]
   rfl
theorem rE(B:Nat)(s:ByteArray)(p k:Nat)(f:Bool)(w:World)(h:Rd 193 w B s p f)(hk:k<=4)(hn:f=true\/s.size<p+k):
  Calls Tryz.prog 95 #[po B 0,.int .i64 k] w (jq 193 (.int .i64 0) B s p true w):=by
 have H:=Lib.hid h;clear h
 have hsk:=Lib.hid (show jb k=k by unfold jb;omega)
 have HN:=Lib.hid (show f=true\/((k:Nat):Int)<0\/(s.size:Int)<p+(k:Nat) by
  rcases hn with h|h
  ·exact .inl h
  ·exact .inr (.inr (by omega)))
 clear hn
 go_enter Tryz.func95,Tryz.ntmps95
 go_wp2_with fail
 refine(li _ _).mono ?_
 rw[hsk.out]
 rintro e w1 ⟨rfl,rfl⟩
 go_wp2_with fail
 refine(kB _ _ _ _ _ _ H.out HN.out).mono ?_
 rintro e w1 ⟨rfl,hr,hu⟩
 obtain⟨cap,w2,hcv,hx,hAt,hcap⟩:=Bg ByteArray.empty w1
 have HR:=Lib.hid hr
 have HU:=Lib.hid hu
 have X2:=Lib.hid hx
 have hz:(ByteArray.empty).size=0:=rfl
 clear hr hu hx hAt hcap
 go_wp2
 go_loop [5,14] (fun x v=>x= .int .i64 0/\v= .int .i64 0) (fun _ _=>0)
 case atStart=>exact⟨rfl,rfl⟩
 case round=>
  obtain⟨rfl,rfl⟩:=hrel
  go_wp2
  go_ret
  exact⟨rfl,⟨HR.out.1.ext X2.out,HR.out.2.1,HR.out.2.2⟩,HU.out.ext X2.out⟩
def eN(s:ByteArray)(p:Nat):ByteArray:=s.extract (p+2) (p+2+aL s p 2)
theorem Rd.cells{t:TypeId}{B:Nat}{s:ByteArray}{p:Nat}{f:Bool}(h:Rd t w B s p f):
  w.cell? ⟨B,0,none⟩=some (.string s)/\w.cell? ⟨B,1,none⟩=some (.int .i64 p)/\w.cell? ⟨B,2,none⟩=some (.bool f)/\w.frozen? ⟨B,1,none⟩=false/\w.frozen? ⟨B,2,none⟩=false:=
 ⟨h.1.cell 0,h.1.cell 1,h.1.cell 2,h.1.frozen 1,h.1.frozen 2⟩
theorem oe(B:Nat)(s:ByteArray)(p:Nat)(w:World)(h:Rd 193 w B s p false)(h2:p+2<=s.size)(hn:p+2+aL s p 2<=s.size):
  Calls Tryz.prog 103 #[po B 0] w (jq 193 (.string (eN s p)) B s (p+2+aL s p 2) false w):=by
 have H:=Lib.hid h
 obtain⟨c0,c1,c2,_,_⟩:=h.cells
 clear h
 go_enter Tryz.func103,Tryz.ntmps103
 go_wp2_with fail
 refine(dL _ _ _ 2 _ H.out (by omega) h2).mono ?_
 rintro e w1 ⟨rfl,hr,hu⟩
 have HR1:=Lib.hid hr
 have HU1:=Lib.hid hu
 clear hr hu c0 c1 c2
 go_wp2_with fail
 refine(vr _ _ _ _ _ HR1.out hn).mono ?_
 rintro e w2 ⟨rfl,hr,hu⟩
 have HR2:=Lib.hid hr
 have HU2:=Lib.hid (HU1.out.trans hu)
 obtain⟨c0,c1,c2,_,_⟩:=hr.cells
 clear hr hu
 have HT:=Lib.hid (show eN s p=s.extract (p+2) (p+2+aL s p 2) from rfl)
 obtain⟨x,hx⟩:∃x,x=s.extract (p+2) (p+2+aL s p 2):=⟨_,rfl⟩
 rw[<-hx] at HT |-
 clear hx
 go_wp2
 go_ret
 exact⟨by rw[HT.out];rfl,HR2.out,HU2.out⟩
theorem F5(B:Nat)(s:ByteArray)(p:Nat)(f:Bool)(w:World)(h:Rd 193 w B s p f)(hn:f=true\/s.size<p+2\/s.size<p+2+aL s p 2):
  Calls Tryz.prog 103 #[po B 0] w (jq 193 (.string ByteArray.empty) B s p true w):=by
 have H:=Lib.hid h
 obtain⟨c0,c1,c2,_,_⟩:=h.cells
 have hps:=h.2
 clear h
 by_cases h1:f=true\/s.size<p+2
 ·have HN:=Lib.hid h1
  clear hn h1
  go_enter Tryz.func103,Tryz.ntmps103
  go_wp2_with fail
  refine(rE _ _ _ 2 _ _ H.out (by omega) HN.out).mono ?_
  rintro e w1 ⟨rfl,hr,hu⟩
  have HR1:=Lib.hid hr
  have HU1:=Lib.hid hu
  clear hr hu c0 c1 c2
  go_wp2_with fail
  refine(kB _ _ _ _ _ _ HR1.out (.inl rfl)).mono ?_
  rintro e w2 ⟨rfl,hr,hu⟩
  have HR2:=Lib.hid hr
  have HU2:=Lib.hid (HU1.out.trans hu)
  obtain⟨c0,c1,c2,z1,_⟩:=hr.cells
  clear hr hu
  go_wp2
  go_ret
  exact⟨rfl,⟨HR2.out.1.set_ 1 _,hps⟩,HU2.out.set (.inl (by simp)) _⟩
 ·have hf:f=false:=by
   cases f with
   |true=>exact absurd (.inl rfl) h1
   |false=>rfl
  subst hf
  have h2:p+2<=s.size:=by omega
  have h3:s.size<p+2+aL s p 2:=by
   rcases hn with h|h|h
   ·cases h
   ·omega
   ·exact h
  clear hn h1
  go_enter Tryz.func103,Tryz.ntmps103
  go_wp2_with fail
  refine(dL _ _ _ 2 _ H.out (by omega) h2).mono ?_
  rintro e w1 ⟨rfl,hr,hu⟩
  have HR1:=Lib.hid hr
  have HU1:=Lib.hid hu
  clear hr hu c0 c1 c2
  go_wp2_with fail
  refine(kB _ _ _ _ _ _ HR1.out (.inr (.inr (by omega)))).mono ?_
  rintro e w2 ⟨rfl,hr,hu⟩
  have HR2:=Lib.hid hr
  have HU2:=Lib.hid (HU1.out.trans hu)
  obtain⟨c0,c1,c2,z1,_⟩:=hr.cells
  clear hr hu
  go_wp2
  go_ret
  exact⟨rfl,⟨HR2.out.1.set_ 1 _,hps⟩,HU2.out.set (.inl (by simp)) _⟩
end
section
open Go.RowKit
def bl(s:ByteArray):List UInt8:=s.data.toList
def bH(l:List UInt8):ByteArray:=⟨l.toArray⟩
theorem bO(s:ByteArray):(bl s).length=s.size:=by simp[bl]
theorem iB(s:ByteArray):bH (bl s)=s:=by simp[bl,bH]
theorem rA(l:List UInt8):bl (bH l)=l:=by simp[bl,bH]
theorem cZ(a b:ByteArray):bl (a++b)=bl a++bl b:=by simp[bl,ByteArray.data_append]
theorem nO(a b:List UInt8):bH (a++b)=bH a++bH b:=by
 apply ByteArray.ext
 rw[ByteArray.data_append]
 simp[bH]
theorem lv(l:List UInt8):(bH l).size=l.length:=by simp[bH,ByteArray.size]
theorem gM{a b:ByteArray}(h:bl a=bl b):a=b:=by rw[<-iB a,<-iB b,h]
theorem gl(s:ByteArray)(p q:Nat):bl (s.extract p q)=((bl s).drop p).take (q-p):=by
 simp[bl,ByteArray.data_extract]
theorem xc{α:Type}(a b c:List α)(p k:Nat)(hp:a.length=p)(hk:b.length=k):((a++(b++c)).drop p).take k=b:=by
 subst hp hk
 simp
theorem kE{s:ByteArray}{a b c:List UInt8}(hs:bl s=a++(b++c)){p:Nat}(hp:a.length=p)(hq:p+b.length=q):s.extract p q=bH b:=by
 apply gM
 rw[gl,rA,hs,xc a b c p (q-p) hp (by omega)]
theorem mg{s:ByteArray}{a b c:List UInt8}(hs:bl s=a++(b++c)){p k:Nat}(hp:a.length=p)(hk:b.length=k):aL s p k=d5 b:=by
 have h:bl (s.extract p (p+k))=b:=by rw[kE hs hp (by rw[hk]),rA]
 exact congrArg d5 h
theorem yD:∀(n:Nat) (a b:List UInt8),a.length=n->b.length=n->d5 a=d5 b->a=b
 |0,a,b,ha,hb,_=>by rw[List.eq_nil_of_length_eq_zero ha,List.eq_nil_of_length_eq_zero hb]
 |n+1,a,b,ha,hb,h=>by
  rcases List.eq_nil_or_concat a with rfl|⟨a',x,rfl⟩
  ·simp at ha
  rcases List.eq_nil_or_concat b with rfl|⟨b',y,rfl⟩
  ·simp at hb
  simp only[List.concat_eq_append] at*
  rw[ng,ng] at h
  have hx:=x.toNat_lt
  have hy:=y.toNat_lt
  have h1:d5 a'=d5 b':=by omega
  have h2:x.toNat=y.toNat:=by omega
  rw[yD n a' b' (by simpa using ha) (by simpa using hb) h1,UInt8.toNat_inj.1 h2]
theorem qi(xs:List Int):d5 (bl (strOfNums xs))=xs.foldl (fun(n:Nat) x=>n*256+x.toNat % 256) 0:=by
 show d5 ((strOfNums xs).data.toList)= _
 rw[strOfNums_data,d5,List.foldl_map]
 rfl
theorem iJ(n:Int)(h0:0<=n)(h1:n<256):(d5 (bl (ag n 1)):Int)=n:=by
 have hu:IntKind.u64.wrap n=n:=by rw[IntKind.wrap_u64];omega
 rw[ag,qi,lP,hu]
 simp only[List.drop_succ_cons,List.drop_zero,List.foldl_cons,List.foldl_nil]
 omega
theorem ny(n:Int)(h0:0<=n)(h1:n<65536):(d5 (bl (ag n 2)):Int)=n:=by
 have hu:IntKind.u64.wrap n=n:=by rw[IntKind.wrap_u64];omega
 rw[ag,qi,lP,hu]
 simp only[List.drop_succ_cons,List.drop_zero,List.foldl_cons,List.foldl_nil]
 omega
theorem jH(n:Int)(h0:0<=n)(h1:n<4294967296):(d5 (bl (ag n 4)):Int)=n:=by
 have hu:IntKind.u64.wrap n=n:=by rw[IntKind.wrap_u64];omega
 rw[ag,qi,lP,hu]
 simp only[List.drop_succ_cons,List.drop_zero,List.foldl_cons,List.foldl_nil]
 omega
end
section
open Go.RowKit
def iE(ss:List ByteArray)(i:Int):ByteArray:=if i<0 then ByteArray.empty else ss.getD i.toNat ByteArray.empty
theorem mC(ss:List ByteArray)(i:Nat):iE ss i=ss.getD i ByteArray.empty:=by
 rw[iE,if_neg (by omega),Int.toNat_natCast]
theorem tU{a b:ByteArray}(h:a.toList=b.toList):a=b:=by
 rw[ByteArray.toList_eq,ByteArray.toList_eq] at h
 cases a;cases b
 simp at h
 rw[h]
theorem qu:ByteArray.empty.toList=[]:=by rw[ByteArray.toList_eq];rfl
def emp(s:ByteArray):Bool:=s.toList.isEmpty
theorem AL(s:ByteArray):emp s=true<->s=ByteArray.empty:=by
 unfold emp
 constructor
 ·intro h
  have h1:s.toList=[]:=by simpa using h
  exact tU (by rw[h1,qu])
 ·rintro rfl;rw[qu];rfl
theorem wo(ss:List ByteArray):∀n j,fW ss n<=j->j<n->emp (iE ss j)=true
 |0,j,_,h=>by omega
 |n+1,j,h1,h2=>by
  rw[ja] at h1
  split at h1
  ·rename_i he
   by_cases e:j=n
   ·subst e;rw[mC];exact he
   ·exact wo ss n j h1 (by omega)
  ·omega
theorem t8(ss:List ByteArray):∀n,0<fW ss n->emp (iE ss (fW ss n-1:Nat))=false
 |0,h=>absurd h (Nat.lt_irrefl 0)
 |n+1,h=>by
  rw[ja] at h |-
  split
  ·rename_i he;rw[if_pos he] at h;exact t8 ss n h
  ·rename_i he
   show emp (iE ss (n+1-1:Nat))=false
   rw[Nat.add_sub_cancel,mC]
   exact Bool.eq_false_iff.2 he
theorem yG(a b:List ByteArray):aO (a++b)=aO a+aO b:=by simp[aO]
theorem qd(h:i<(af ss).length):(af ss)[i]=iE ss i:=by
 have hl:=cu ss
 have ht:=d3 ss ss.length
 rw[mC]
 simp[af,List.getD,show i<ss.length by omega]
def dQ(l:List ByteArray)(n:Nat):List ByteArray:=l++List.replicate (n-l.length) ByteArray.empty
def ba(ss:List ByteArray)(slot:Nat)(s:ByteArray):List ByteArray:=(dQ (af ss) (slot+1)).set slot s
def di(k l:Int)(ss:List ByteArray)(slot:Int)(s:ByteArray):Int:=
 if bz k l ss=false then 22 else if slot<0\/24<=slot\/400<s.size then 21 else if 512<cK (ba ss slot.toNat s) then 20 else 0
theorem cC{k l:Int}{ss:List ByteArray}(h:bz k l ss=true):(0<=k/\k<=2)/\(0<=l/\l<=2147483647)/\(ss.length<=24/\∀s∈ss,s.size<=400)/\cK ss<=512:=by
 simp only[bz,Bool.and_eq_true,decide_eq_true_eq,Bool.not_eq_true',fX,List.any_eq_false,Nat.not_lt] at h
 exact⟨⟨h.1,h.2.1⟩,⟨h.2.2.1,h.2.2.2.1⟩,⟨h.2.2.2.2.1,h.2.2.2.2.2.1⟩,h.2.2.2.2.2.2⟩
theorem sU(h:ss.length<=i):iE ss i=ByteArray.empty:=by
 rw[mC];simp[List.getD,List.getElem?_eq_none h]
theorem J5(h:i<ss.length):iE ss i=ss[i]:=by
 rw[mC];simp[List.getD,h]
theorem t6(ss:List ByteArray)(i:Nat):iE (af ss) i=iE ss i:=by
 rcases Nat.lt_or_ge i (af ss).length with h|h
 ·rw[J5 h,qd h]
 ·rw[sU h]
  rcases Nat.lt_or_ge i ss.length with g|g
  ·rw[cu] at h
   exact((AL _).1 (wo ss ss.length i h g)).symm
  ·rw[sU g]
theorem xC{ts:List ByteArray}(h:∀i:Nat,iE ss i=iE ts i):(af ss).length<=(af ts).length:=by
 rcases Nat.lt_or_ge (af ts).length (af ss).length with g|g
 ·exfalso
  have h1:=t8 ss ss.length (by rw[<-cu];omega)
  rw[<-cu,h,<-t6 ts,sU (by omega)] at h1
  rw[(AL _).2 rfl] at h1
  cases h1
 ·exact g
theorem Ep{ts:List ByteArray}(h:∀i:Nat,iE ss i=iE ts i):af ss=af ts:=by
 refine List.ext_getElem (Nat.le_antisymm (xC h) (xC fun i=>(h i).symm)) fun i h1 h2=>?_
 rw[qd h1,qd h2,h]
theorem pf(ss:List ByteArray):af (af ss)=af ss:=Ep (t6 ss)
theorem ek{k l:Int}(h:bz k l ss=true):dP ss:=by
 have:=(cC h).2.2.1
 exact⟨by omega,fun x hx=>by have:=this.2 x hx;omega⟩
theorem iw(ss:List ByteArray):af (af ss)=af ss:=pf ss
theorem wx{k l:Int}(h:0<=k/\k<=2)(h':0<=l/\l<=2147483647):bz k l []=true:=by
 simp[bz,h,h',fX,cK,af,aO]
theorem EV(ss:List ByteArray)(K:Nat)(s:ByteArray):(ba ss K s).length=max (af ss).length (K+1):=by
 simp only[ba,dQ,List.length_set,List.length_append,List.length_replicate];omega
theorem DN{K:Nat}{s x:ByteArray}(h:x∈ba ss K s):x=s\/x∈ss\/x=ByteArray.empty:=by
 rcases List.mem_or_eq_of_mem_set h with h|h
 ·rcases List.mem_append.1 h with h1|h1
  ·exact .inr (.inl (List.mem_of_mem_take h1))
  ·exact .inr (.inr (List.mem_replicate.1 h1).2)
 ·exact .inl h
theorem Dv{k l:Int}{slot:Int}{s:ByteArray}(h:bz k l ss=true)(hp:di k l ss slot s=0):bz k l (af (ba ss slot.toNat s))=true:=by
 obtain⟨hk,hl,⟨h24,hsz⟩,_⟩:=cC h
 unfold di at hp
 rw[h,if_neg (by simp)] at hp
 split at hp
 ·cases hp
 ·rename_i hb
  split at hp
  ·cases hp
  ·rename_i hz
   have hpl:=cu (ba ss slot.toNat s)
   have htr:=d3 (ba ss slot.toNat s) (ba ss slot.toNat s).length
   have hwl:=EV ss slot.toNat s
   have hpl2:=cu ss
   have htr2:=d3 ss ss.length
   have hz2:cK (af (ba ss slot.toNat s))=cK (ba ss slot.toNat s):=by rw[cK,iw,cK]
   have hlong:fX (af (ba ss slot.toNat s))=false:=by
    rw[fX,List.any_eq_false]
    intro x hx
    have hx':=DN (List.mem_of_mem_take hx)
    rcases hx' with rfl|hx'|rfl
    ·simp;omega
    ·have:=hsz x hx';simp;omega
    ·simp
   simp only[bz,Bool.and_eq_true,decide_eq_true_eq,hlong,Bool.not_false,hz2,true_and]
   exact⟨hk.1,hk.2,hl.1,hl.2,by omega,by omega⟩
def jw(s:ByteArray):ByteArray:=ag s.size 2++s
def adl(l:List UInt8):Nat×Nat:=l.foldl (fun ab c=>((ab.1+c.toNat) % 65521,(ab.2+(ab.1+c.toNat) % 65521) % 65521)) (1,0)
def aY(s:ByteArray):Nat:=(adl s.data.toList).2*65536+(adl s.data.toList).1
theorem ym(l:List UInt8):(adl l).1<65521/\(adl l).2<65521:=by
 unfold adl
 have:∀(l:List UInt8) (p:Nat×Nat),p.1<65521/\p.2<65521->(l.foldl (fun ab c=>((ab.1+c.toNat) % 65521,(ab.2+(ab.1+c.toNat) % 65521) % 65521)) p).1<65521/\(l.foldl (fun ab c=>((ab.1+c.toNat) % 65521,(ab.2+(ab.1+c.toNat) % 65521) % 65521)) p).2<65521:=by
  intro l
  induction l with
  |nil=>exact fun p h=>h
  |cons c l ih=>exact fun p h=>ih _ ⟨Nat.mod_lt _ (by omega),Nat.mod_lt _ (by omega)⟩
 exact this l (1,0) ⟨by omega,by omega⟩
theorem yC(s:ByteArray)(k:Nat)(h:k<s.size):adl (s.data.toList.take (k+1))=(((adl (s.data.toList.take k)).1+s[k].toNat) % 65521,((adl (s.data.toList.take k)).2+((adl (s.data.toList.take k)).1+s[k].toNat) % 65521) % 65521):=by
 rw[List.take_succ_eq_append_getElem (by simpa using h),adl,List.foldl_append]
 rfl
def b9(k l n:Int):List UInt8:=bl ((ag k 1++ag l 4)++ag n 1)
def bg(I:List ByteArray):List UInt8:=(I.map fun s=>bl (jw s)).flatten
def bU(k l:Int)(I:List ByteArray):List UInt8:=(b9 k l I.length++bg I)++List.replicate (504-(6+aO I)) 0++bl (ag l 4)
def bP(k l:Int)(I:List ByteArray):ByteArray:=ag (aY (bH (bU k l I))) 4++bH (bU k l I)
theorem gg(k l n:Int):(b9 k l n).length=6:=by
 rw[b9,bO,ByteArray.size_append,ByteArray.size_append,aF _ _ (by omega),aF _ _ (by omega),aF _ _ (by omega)]
theorem oX(s:ByteArray):(jw s).size=2+s.size:=by rw[jw,ByteArray.size_append,aF _ _ (by omega)]
theorem dF(I:List ByteArray):(bg I).length=aO I:=by
 induction I with
 |nil=>rfl
 |cons a I ih=>
  have e:bg (a::I)=bl (jw a)++bg I:=by simp[bg]
  have e2:aO (a::I)=(2+a.size)+aO I:=by simp[aO]
  rw[e,List.length_append,ih,bO,oX,e2]
theorem nP(I:List ByteArray)(j:Nat)(h:j<I.length):bg (I.take (j+1))=bg (I.take j)++bl (jw I[j]):=by
 rw[List.take_succ_eq_append_getElem h,bg,List.map_append,List.flatten_append]
 simp[bg]
theorem qg(k l:Int)(I:List ByteArray)(h:6+aO I<=504):(bU k l I).length=508:=by
 rw[bU,List.length_append,List.length_append,List.length_append,gg,dF,List.length_replicate,bO,aF _ _ (by omega)]
 omega
theorem ir(s:ByteArray):aY s<4294967296:=by
 have h:=ym s.data.toList
 unfold aY
 omega
theorem lI(I:List ByteArray)(j:Nat):aO (I.take j)<=aO I:=by
 have e:=yG (I.take j) (I.drop j)
 rw[List.take_append_drop] at e
 omega
def rtx(s:ByteArray)(p:Nat):Nat->Option (List ByteArray×Nat)
 |0=>some ([],p)
 |n+1=>match rtx s p n with
  |some (xs,q)=>if q+2<=s.size/\q+2+aL s q 2<=s.size then some (xs++[eN s q],q+2+aL s q 2) else none
  |none=>none
theorem pv(k l:Int)(I:List ByteArray):bl (bP k l I)=bl (ag (aY (bH (bU k l I))) 4)++(bU k l I++[]):=by rw[bP,cZ,rA,List.append_nil]
theorem js(k l:Int)(I:List ByteArray):bl (bP k l I)=bl (ag (aY (bH (bU k l I))) 4)++(bl (ag k 1)++(bl (ag l 4)++(bl (ag I.length 1)++(bg I++(List.replicate (504-(6+aO I)) 0++bl (ag l 4)))))):=by
 rw[pv,List.append_nil,bU,b9,cZ,cZ]
 simp only[List.append_assoc]
theorem rX(k l:Int)(I:List ByteArray)(h:6+aO I<=504):(bP k l I).size=512:=by
 rw[bP,ByteArray.size_append,aF _ _ (by omega),lv,qg k l I h]
theorem Ej(k l:Int)(I:List ByteArray):aL (bP k l I) 0 4=aY (bH (bU k l I)):=by
 have h:=ir (bH (bU k l I))
 have h2:=jH (aY (bH (bU k l I))) (by omega) (by omega)
 rw[mg (p:=0) (a:=[]) (b:=bl (ag (aY (bH (bU k l I))) 4)) (by rw[List.nil_append];exact pv k l I) rfl (by rw[bO,aF _ _ (by omega)])]
 omega
theorem B6(k l:Int)(I:List ByteArray)(h:6+aO I<=504):(bP k l I).extract 4 512=bH (bU k l I):=
 kE (pv k l I) (by rw[bO,aF _ _ (by omega)]) (by rw[qg k l I h])
theorem B9(k l:Int)(I:List ByteArray)(h0:0<=k)(h1:k<256):(aL (bP k l I) 4 1:Int)=k:=by
 rw[mg (js k l I) (by rw[bO,aF _ _ (by omega)]) (by rw[bO,aF _ _ (by omega)])]
 exact iJ k h0 h1
theorem pZ(k l:Int)(I:List ByteArray):bl (bP k l I)=(bl (ag (aY (bH (bU k l I))) 4)++bl (ag k 1))++(bl (ag l 4)++(bl (ag I.length 1)++(bg I++(List.replicate (504-(6+aO I)) 0++bl (ag l 4))))):=by
 rw[js];simp only[List.append_assoc]
theorem El(k l:Int)(I:List ByteArray)(h0:0<=l)(h1:l<4294967296):(aL (bP k l I) 5 4:Int)=l:=by
 rw[mg (pZ k l I) (by rw[List.length_append,bO,bO,aF _ _ (by omega),aF _ _ (by omega)]) (by rw[bO,aF _ _ (by omega)])]
 exact jH l h0 h1
theorem Ag(k l:Int)(I:List ByteArray):(bP k l I).extract 5 9=ag l 4:=by
 rw[kE (pZ k l I) (p:=5) (q:=9) (by rw[List.length_append,bO,bO,aF _ _ (by omega),aF _ _ (by omega)]) (by rw[bO,aF _ _ (by omega)]),iB]
theorem yw(k l:Int)(I:List ByteArray):bl (bP k l I)=((bl (ag (aY (bH (bU k l I))) 4)++bl (ag k 1))++bl (ag l 4))++(bl (ag I.length 1)++(bg I++(List.replicate (504-(6+aO I)) 0++bl (ag l 4)))):=by
 rw[js];simp only[List.append_assoc]
theorem Ca(k l:Int)(I:List ByteArray)(h1:I.length<256):aL (bP k l I) 9 1=I.length:=by
 have h2:=iJ (I.length) (by omega) (by omega)
 rw[mg (yw k l I) (by simp only[List.length_append,bO];rw[aF _ _ (by omega),aF _ _ (by omega),aF _ _ (by omega)]) (by rw[bO,aF _ _ (by omega)])]
 omega
theorem Dy(k l:Int)(I:List ByteArray)(h:6+aO I<=504):(bP k l I).extract 508 512=ag l 4:=by
 have e:bl (bP k l I)=((((bl (ag (aY (bH (bU k l I))) 4)++bl (ag k 1))++bl (ag l 4))++bl (ag I.length 1))++bg I++List.replicate (504-(6+aO I)) 0)++(bl (ag l 4)++[]):=by
  rw[js,List.append_nil];simp only[List.append_assoc]
 rw[kE e (p:=508) (q:=512) (by
  simp only[List.length_append,bO,dF,List.length_replicate]
  rw[aF _ _ (by omega),aF _ _ (by omega),aF _ _ (by omega),aF _ _ (by omega)];omega) (by rw[bO,aF _ _ (by omega)]),iB]
theorem yb(I:List ByteArray)(j:Nat)(h:j<I.length):bg I=bg (I.take j)++(bl (ag I[j].size 2)++(bl I[j]++bg (I.drop (j+1)))):=by
 have e:I=I.take j++I[j]::I.drop (j+1):=by rw[List.getElem_cons_drop,List.take_append_drop]
 have e2:∀(a b:List ByteArray) (x:ByteArray),bg (a++x::b)=bg a++(bl (ag x.size 2)++(bl x++bg b)):=by
  intro a b x
  simp[bg,jw,cZ]
 conv=>lhs;rw[e]
 rw[e2]
theorem ww(k l:Int)(I:List ByteArray)(h:6+aO I<=504)(j:Nat)(hj:j<=I.length):rtx (bP k l I) 10 j=some (I.take j,10+aO (I.take j)):=by
 induction j with
 |zero=>simp[rtx,aO]
 |succ j ih=>
  have hz:=rX k l I h
  have e0:=yb I j (by omega)
  obtain⟨hd,hhd⟩:∃x,x=((bl (ag (aY (bH (bU k l I))) 4)++bl (ag k 1))++bl (ag l 4))++bl (ag I.length 1)++bg (I.take j):=⟨_,rfl⟩
  obtain⟨tl,htl⟩:∃x,x=bg (I.drop (j+1))++(List.replicate (504-(6+aO I)) 0++bl (ag l 4)):=⟨_,rfl⟩
  have hl:hd.length=10+aO (I.take j):=by
   rw[hhd]
   simp only[List.length_append,bO,dF]
   rw[aF _ _ (by omega),aF _ _ (by omega),aF _ _ (by omega),aF _ _ (by omega)]
  have e1:bl (bP k l I)=hd++(bl (ag I[j].size 2)++(bl I[j]++tl)):=by
   rw[js,e0,hhd,htl];simp only[List.append_assoc]
  have e2:bl (bP k l I)=(hd++bl (ag I[j].size 2))++(bl I[j]++tl):=by rw[e1,List.append_assoc]
  have bf:aO (I.take (j+1))=aO (I.take j)+2+I[j].size:=by
   have a1:=nP I j (by omega)
   have a2:=congrArg List.length a1
   rw[List.length_append,dF,dF,bO,oX] at a2
   omega
  have hle:=lI I (j+1)
  have hn:aL (bP k l I) (10+aO (I.take j)) 2=I[j].size:=by
   rw[mg e1 hl (by rw[bO,aF _ _ (by omega)])]
   have:=ny (I[j].size) (by omega) (by omega)
   omega
  have ht:eN (bP k l I) (10+aO (I.take j))=I[j]:=by
   rw[eN,hn,kE e2 (p:=10+aO (I.take j)+2) (by rw[List.length_append,hl,bO,aF _ _ (by omega)]) (by rw[bO]),iB]
  rw[rtx,ih (by omega)]
  simp only
  rw[hn,ht,hz,if_pos (by omega),bf,List.take_succ_eq_append_getElem (by omega),show 10+(aO (I.take j)+2+I[j].size)=10+aO (I.take j)+2+I[j].size by omega]
theorem By(k l:Int)(I:List ByteArray)(h:6+aO I<=504)(j:Nat)(hj:j<I.length):
  10+aO (I.take j)+2<=(bP k l I).size/\10+aO (I.take j)+2+aL (bP k l I) (10+aO (I.take j)) 2<=(bP k l I).size/\
   eN (bP k l I) (10+aO (I.take j))=I[j]/\10+aO (I.take j)+2+aL (bP k l I) (10+aO (I.take j)) 2=10+aO (I.take (j+1)):=by
 have h1:=ww k l I h j (by omega)
 have h2:=ww k l I h (j+1) (by omega)
 rw[rtx,h1] at h2
 simp only at h2
 split at h2
 ·rename_i hc
  have e1:=congrArg Prod.fst (Option.some.inj h2)
  have e2:=congrArg Prod.snd (Option.some.inj h2)
  have e3:I.take j++[eN (bP k l I) (10+aO (I.take j))]=I.take (j+1):=e1
  rw[List.take_succ_eq_append_getElem hj] at e3
  have e4:=List.append_cancel_left e3
  refine⟨hc.1,hc.2,?_,e2⟩
  injection e4
 ·cases h2
theorem E5(c a b:Nat)(A B:Nat)(w:World)(hc:c<256)(ha:a<65521)(hb:b<65521)(hA:Blk w A 125 #[.int .u32 a])(hB:Blk w B 125 #[.int .u32 b])(hne:A≠B):
  Calls Tryz.prog 150 #[.int .u8 c,po A 0,po B 0] w fun e w'=>e= .returned (.tuple #[])/\
   Blk w' A 125 #[.int .u32 ((a+c) % 65521:Nat)]/\Blk w' B 125 #[.int .u32 ((b+(a+c) % 65521) % 65521:Nat)]/\Upd [A,B] w w':=by
 have HA:=Lib.hid hA;have HB:=Lib.hid hB
 have cA:w.cell? ⟨A,0,none⟩=some (.int .u32 a):=hA.cell 0
 have cB:w.cell? ⟨B,0,none⟩=some (.int .u32 b):=hB.cell 0
 have fA:=hA.frozen 0;have fB:=hB.frozen 0
 have lA:=hA.lt;have lB:=hB.lt
 clear hA hB
 go_enter Tryz.func150,Tryz.ntmps150
 have e1:((a:Int)+(c:Int)) % 65521=(((a+c) % 65521:Nat):Int):=by omega
 have e2:((b:Int)+((a:Int)+(c:Int))) % 65521=(((b+(a+c) % 65521) % 65521:Nat):Int):=by omega
 have E1:=Lib.hid e1;have E2:=Lib.hid e2
 clear e1 e2
 go_wp2
 go_end0
 rw[E1.out,E2.out]
 exact⟨rfl,((HA.out.set_ 0 _).far hne _),((HB.out.far (fun e=>hne e.symm) _).set_ 0 _),((Upd.refl _ _).set (.inl (by simp)) _).set (.inl (by simp)) _⟩
theorem mP(s:ByteArray)(w:World)(hs:s.size<=9223372036854775807):
  Calls Tryz.prog 98 #[.string s] w (gJ (.int .u32 (aY s)) w):=by
 go_enter Tryz.func98,Tryz.ntmps98
 go_wp2
 go_loopw [10] (fun v wr=>∃k:Nat,v= .int .i64 k/\k<=s.size/\Blk wr w.heap.size 125 #[.int .u32 (adl (s.data.toList.take k)).1]/\Blk wr (w.heap.size+1) 125 #[.int .u32 (adl (s.data.toList.take k)).2]/\Ext w wr) (fun v _=>s.size-(intOf v).toNat)
 case atStart=>exact⟨0,rfl,Nat.zero_le _,(Blk.new' rfl).alloc _,Blk.new' (by simp),((Ext.refl w).alloc _).alloc _⟩
 case round=>
  obtain⟨k,rfl,hk,hA,hB,hx⟩:=hrel
  have HA:=Lib.hid hA;have HB:=Lib.hid hB;have XR:=Lib.hid hx
  have hlt:=ym (s.data.toList.take k)
  clear hA hB hx
  rcases Nat.lt_or_ge k s.size with hk1|hk1
  ·have HS:=Lib.hid (yC s k hk1)
   obtain⟨a,ha⟩:∃a,a=(adl (s.data.toList.take k)).1:=⟨_,rfl⟩
   obtain⟨b,hb⟩:∃b,b=(adl (s.data.toList.take k)).2:=⟨_,rfl⟩
   rw[<-ha,<-hb] at HS hlt
   rw[<-ha] at HA
   rw[<-hb] at HB
   have hcb:s[k].toNat<256:=UInt8.toNat_lt _
   clear ha hb
   have hk2:(k:Int)<(s.size:Int):=by omega
   have hk3:(0:Int)<=(k:Int):=by omega
   go_wp2_with fail
   refine(E5 _ a b _ _ _ hcb hlt.1 hlt.2 HA.out HB.out (by omega)).mono ?_
   rintro e w1 ⟨rfl,hA,hB,hu⟩
   have HA1:=Lib.hid hA;have HB1:=Lib.hid hB;have HU:=Lib.hid hu
   clear hA hB hu hlt
   go_wp2
   go_roundw
   case rel=>exact⟨k+1,by go_num,by omega,by rw[HS.out];exact HA1.out,by rw[HS.out];exact HB1.out,XR.out.upd HU.out (by simp)⟩
   case measure=>simp[intOf];omega
  ·obtain rfl:k=s.size:=by omega
   have e:s.data.toList.take s.size=s.data.toList:=List.take_of_length_le (by simp)
   rw[e] at HA HB hlt
   obtain⟨a,ha⟩:∃a,a=(adl s.data.toList).1:=⟨_,rfl⟩
   obtain⟨b,hb⟩:∃b,b=(adl s.data.toList).2:=⟨_,rfl⟩
   rw[<-ha,<-hb] at hlt
   rw[<-ha] at HA
   rw[<-hb] at HB
   obtain⟨hlt1,hlt2⟩:=hlt
   have HF:=Lib.hid (show aY s=b*65536+a by rw[aY,<-ha,<-hb])
   have cA:wr.cell? ⟨w.heap.size,0,none⟩=some (.int .u32 a):=HA.out.cell 0
   have cB:wr.cell? ⟨w.heap.size+1,0,none⟩=some (.int .u32 b):=HB.out.cell 0
   clear e ha hb
   go_wp2
   go_ret
   refine⟨?_,XR.out⟩
   have e1:((b:Int)*65536)=((b*65536:Nat):Int):=by omega
   rw[HF.out,e1,u32_or_nat _ _ (by omega) (by omega)]
   have e2:b*65536|||a=b*65536+a:=by
    have:=Nat.two_pow_add_eq_or_of_lt (i:=16) (b:=a) (by omega) b
    rw[Nat.mul_comm b 65536]
    exact this.symm
   rw[e2]
   rfl
end
section
open Go.RowKit
def bW(l:List UInt8)(m:Nat):Int:=((l.getD m 0).toNat:Int)
theorem sG(l:List UInt8)(m:Nat):0<=bW l m/\bW l m<256:=by
 have:=(l.getD m 0).toNat_lt
 unfold bW;omega
section
variable{P:Program}{o:Oper}{ρ:Operand->Value}{W:World}
theorem jY{t:TypeId}{s:ByteArray}{k:IntKind}{j:Int}{m:Nat}(h:o.op= .index t x y)(ht:P.underlying t=some .string)(hx:ρ x= .string s)(hy:ρ y= .int k j)(hj:j=(m:Int))(hm:m<s.size):
  (execOp ρ o).run P W= .ok (.value (.int .u8 (bW (bl s) m))) W:=by
 subst hj
 unfold execOp;rw[h]
 have h1:(0:Int)<=(m:Int):=by omega
 have h2:s[m]? =some ((bl s).getD m 0):=by
  have hm':m<s.data.size:=hm
  rw[getElem?_pos s m hm]
  simp[bl,ByteArray.getElem_eq_getElem_data]
  rw[Array.getElem?_eq_getElem hm'];rfl
 simp only[hx,hy,Instr.index,asIntOf,Sem.run_bind,Sem.run_pure,Result.andThen_ok,run_underlying ht,h1,if_true,Int.toNat_natCast,h2]
 rfl
end
end
section
open Go.RowKit
abbrev PgS:=Int×Int×List ByteArray
def bu:PgS:=(0,0,[])
abbrev EdT:=Int×Int×ByteArray
abbrev bC(p:PgS):Prop:=bz p.1 p.2.1 p.2.2=true/\af p.2.2=p.2.2
def eT(s:ByteArray):Bool:=decide (s.size≠1)||decide (2<bW (bl s) 0)
def doE(p:PgS)(e:EdT)(n:Int):Int:=if bz p.1 p.2.1 p.2.2=false then 22 else if n<0\/2147483647<n then 1 else if e.2.1= -1 then (if eT e.2.2=true then 21 else 0) else di p.1 p.2.1 p.2.2 e.2.1 e.2.2
def doV(p:PgS)(e:EdT)(n:Int):PgS:=if e.2.1= -1 then (bW (bl e.2.2) 0,n,[]) else (p.1,n,af (ba p.2.2 e.2.1.toNat e.2.2))
theorem xY:bC bu:=⟨wx (by decide) (by decide),rfl⟩
theorem kt{p:PgS}{e:EdT}{n:Int}(h:doE p e n=0):bC (doV p e n):=by
 unfold doE at h
 split at h
 ·cases h
 ·rename_i hr
  split at h
  ·cases h
  ·rename_i hn
   unfold doV
   split at h
   ·rename_i hs
    rw[if_pos hs]
    split at h
    ·cases h
    ·rename_i hk
     simp only[eT,Bool.or_eq_true,decide_eq_true_eq,not_or] at hk
     have:=sG (bl e.2.2) 0
     exact⟨wx (k:=bW (bl e.2.2) 0) (l:=n) (by omega) (by omega),rfl⟩
   ·rename_i hs
    rw[if_neg hs]
    have h1:=Dv (by simpa using hr) h
    obtain⟨a1,_,_,_⟩:=cC h1
    refine⟨?_,pf _⟩
    simp only[bz,Bool.and_eq_true,decide_eq_true_eq] at h1 |-
    exact⟨h1.1,by omega,by omega,by omega,h1.2.2.2.2⟩
end
section
open Go.RowKit
theorem Tryz.sizeSb:(Tryz.prog.info? 175).map (·.size)=some 2:=by kernel_rfl
theorem yO(b:Nat)(w:World)(h0:w.cell? ⟨b,0,none⟩=some (po b 0)):
  Calls Tryz.prog 164 #[po b 0] w fun e w'=>e= .returned (.tuple #[])/\w'=w:=by
 obtain⟨j,hj,_⟩:=Option.map_eq_some_iff.1 Tryz.sizeSb
 go_enter Tryz.func164,Tryz.ntmps164
 go_wp2
 rw[Lib.run_neq_ptr_same w _ Tryz.underlying173 hj]
 go_wp2
 go_end0
 exact⟨rfl,rfl⟩
theorem xa(b:Nat)(w:World)(h0:w.cell? ⟨b,0,none⟩=some (.pointer none))(hsh:w.shape? b=some (175,2))(hfz:w.frozen? ⟨b,0,none⟩=false):
  Calls Tryz.prog 164 #[po b 0] w fun e w'=>e= .returned (.tuple #[])/\w'=w.setCell ⟨b,0,none⟩ (po b 0):=by
 obtain⟨j,hj,hjs⟩:=Option.map_eq_some_iff.1 Tryz.sizeSb
 go_enter Tryz.func164,Tryz.ntmps164
 go_wp2
 rw[Lib.run_to_unsafe w ⟨b,0,none⟩ Tryz.underlying173 Tryz.underlying220 hj (by rw[hjs];decide) hsh (Nat.zero_lt_succ 1)]
 simp only[Result.andThen]
 rw[Oper.upon_value]
 go_wp2
 rw[run_callFunc_extern Tryz.func184 (by kernel_rfl) (by kernel_rfl) (by kernel_rfl) (e:=Extern.AbiNoEscape.same) (by kernel_rfl)]
 rw[Lib.run_noEscape]
 simp only[Result.andThen]
 rw[Oper.upon_value]
 go_wp2
 rw[Lib.run_from_unsafe w ⟨b,0,none⟩ Tryz.underlying220 Tryz.underlying173 hj hsh (by kernel_rfl)]
 simp only[Result.andThen]
 rw[Oper.upon_value]
 go_wp2
 go_end0
 exact⟨rfl,rfl⟩
theorem rW(b:Nat)(p v:Value)(w:World)(hb:Blk w b 175 #[p,v])(hp:p= .pointer none\/p=po b 0):
  Calls Tryz.prog 164 #[po b 0] w fun e w'=>e= .returned (.tuple #[])/\Blk w' b 175 #[po b 0,v]/\Upd [b] w w':=by
 rcases hp with rfl|rfl
 ·refine(xa b w (hb.cell 0) (by unfold Blk at hb;simp[World.shape?,hb]) (hb.frozen 0)).mono ?_
  rintro e w' ⟨rfl,rfl⟩
  exact⟨rfl,hb.set_ 0 _,(Upd.refl [b] w).set (p:=⟨b,0,none⟩) (.inl (by simp)) _⟩
 ·refine(yO b w (hb.cell 0)).mono ?_
  rintro e w' ⟨rfl,rfl⟩
  exact⟨rfl,hb,Upd.refl _ _⟩
end
section
open Go.RowKit
theorem DW{base:Nat}{e:TypeId}{v:Value}(h:w.ownsRow base e sz v n xs):w.ownsRow 0 e sz v n xs:=by
 refine⟨h.1,?_⟩
 rcases h.2 with hn|⟨g,cap,cur,hv,_,rest⟩
 ·exact .inl hn
 ·exact .inr ⟨g,cap,cur,hv,Nat.zero_le _,rest⟩
theorem nC(w:World)(t u ty e:TypeId)(i:TypeInfo)(ht:P.underlying t=some (.slice e))(hu:P.underlying u=some .string)(hi:P.info? e=some i)(hz:i.zero=some (.int .u8 0))
  (hsize:i.size=1) (hby:i.bytes=1) (v:Value) (n:Nat) (xs:List Value) (hown:w.ownsRow 0 e 1 v n xs) (s:ByteArray) (h63:n+s.size<=maxLen) (hbytes:n+s.size<=140737488355328):
  ∃v' w',(Builtin.append_ #[t,u] ty #[v,.string s]).run P w= .ok v' w'/\w'.ownsRow 0 e 1 v' (n+s.size) (xs++Lib.strCells s)/\w.grownBy w' v.ownBlock/\(∀k,v'.ownBlock=some k->v.ownBlock=some k\/w.heap.size<=k):=by
 have hsm:n+s.size<=9223372036854775807:=by simp only[maxLen] at h63;omega
 have h1:=hown.1
 rcases hown.2 with ⟨rfl,rfl⟩|⟨g,cap,cur,rfl,hbg,hg,hnc,hcm,hcs,htake⟩
 ·obtain⟨v',w',hr,h2,h3,h4⟩:=Lib.run_append_own_string (P:=P) w w.heap.size t u ty e i ht hu hi hz hsize hby _ _ xs ⟨hown.1,.inl ⟨rfl,rfl⟩⟩ s h63 hbytes (Nat.le_refl _)
  exact⟨v',w',hr,DW h2,h3,fun k hk=> .inr (Dz h2 k hk)⟩
 ·obtain⟨v',w',hr,h2,h3,h4⟩:=Lib.run_append_own_string (P:=P) w 0 t u ty e i ht hu hi hz hsize hby _ _ xs hown s h63 hbytes (Nat.zero_le _)
  refine⟨v',w',hr,h2,h3,fun k hk=>?_⟩
  by_cases hroom:n+s.size<=cap
  ·have hr':=Lib.run_append_room_string (P:=P) w t u ty e i ht hu hi hsize g n cap cur hg s hroom (by omega)
   rw[hr'] at hr
   injection hr with e1 e2
   subst e1
   exact .inl hk
  ·have hr':=Lib.run_append_grow_string (P:=P) w t u ty e i (.int .u8 0) ht hu hi hz ⟨g,0,none⟩ n cap xs (by rw[hsize];simpa using h1) (hown.cells (g:=g) rfl) s (by omega) (by omega) (by rw[hby];exact growslice_fits (by omega) (by omega))
   rw[hr'] at hr
   injection hr with e1 e2
   subst e1
   right
   have h5:some w.heap.size=some k:=hk
   injection h5 with h5
   omega
section
variable{P:Program}{ops:Array Oper}{L:List Nat}{a0:Act}{w0:World}{bor:List Nat}{X0:List Ent}{us cr kl:List (List Nat)}
 {D:Nat->(Tmp->Value)->(Tmp->Value)->(Nat->Ent)->Prop}{i:Nat}{o:Oper}{ρ:Operand->Value}{β:Tmp->Value}{W:World}{X:Nat->Ent}
theorem xJ{s:Operand}{t u:TypeId}{d:Tmp}{q':Nat}(ho:o.op= .call {callee:= .builtin .append,args:=#[s,x],argTypes:=#[t,u]})
  {e:TypeId}{inf:TypeInfo}(ht:P.underlying t=some (.slice e)) (hut:P.underlying u=some .string) (hi:P.info? e=some inf) (hz:inf.zero=some (.int .u8 0))
  (hsize:inf.size=1) (hby:inf.bytes=1){v:Value}(hs:ρ s=v) (c:CtxV ops L a0 w0 bor X0 us D i ρ β W X) (hX:X q=eO e 1 v n xs) (hu:(atV us i).contains q=true)
  {str:ByteArray}(hx:ρ x= .string str) (h63:n+str.size<=maxLen) (hbytes:n+str.size<=140737488355328) (hd:o.dst=some d) (hc:atV cr i=[q']) (hk:atV kl i=[q]){nm:Nat}{xs':List Value}(hnm:n+str.size=nm) (jM:xs++Lib.strCells str=xs')
  (hD:∀(h f:Tmp->Value) (X':Nat->Ent),(∀t,t≠d->h t=ρ (.tmp t))->(∀t,t≠d->f t=β t)->h d= .slice (sA (f d)) nm (sC (f d))->X' q'=eO e 1 (.slice (sA (f d)) nm (sC (f d))) nm xs'->D i h f X'):
  am P o ρ W (bX cr kl D i o.dst ρ β W X):=by
 have hok:=c.ok q hu
 rw[hX] at hok
 have hown:W.ownsRow 0 e 1 v n xs:=hok.holds
 obtain⟨v',W',hrun,hown',hg,hat⟩:=nC (P:=P) W t u o.type e inf ht hut hi hz hsize hby v n xs hown str h63 hbytes
 have he:(execOp ρ o).run P W= .ok (.value v') W':=by
  unfold execOp
  simp only[ho,resolve,invoke,builtin,Sem.run_bind,Sem.run_pure,Result.andThen_ok,List.map_toArray,List.map_cons,List.map_nil,hs,hx,hrun]
 refine am.value he ?_
 subst hnm;subst jM
 obtain⟨A',c',rfl,_⟩:=yL hown'
 have hin:∀k,(v.ownBlock=some k)->k∈((atV kl i).flatMap fun q=>(X q).fp):=fun k hk'=>by
  rw[hk]
  simp only[List.flatMap_cons,List.flatMap_nil,List.append_nil,hX]
  simp[eO,hk']
 refine⟨[eO e 1 (.slice A' (n+str.size) c') (n+str.size) (xs++Lib.strCells str)],by rw[hc];rfl,⟨(Upd.refl _ W).grown hg fun k hk'=> .inl (hin k hk'),fun e' he=>?_,List.pairwise_singleton _ _⟩,fun h f X' hs' hv hb hbv hx' hN=>hD h f X' (fun t ht=>hs' t (by rw[hd];simpa using ht.symm)) (fun t ht=>hb t (by rw[hd];simpa using ht.symm)) ?_ ?_⟩
 ·rw[List.mem_singleton] at he
  subst he
  refine⟨hown',go _ _ _ _ _,fun k hk'=>?_⟩
  have h2:(Value.slice A' (n+str.size) c').ownBlock=some k:=by simpa[eO] using hk'
  refine⟨?_,eY hown' k h2⟩
  rcases hat k h2 with h3|h3
  ·exact .inl (hin k h3)
  ·exact .inr h3
 ·rw[hv d hd,hbv d hd];rfl
 ·rw[hbv d hd]
  rw[hc] at hN
  exact(List.cons.inj hN).1
end
end
section
open Go.RowKit
def gK(W:World)(b:Nat)(r:Option Nat)(xs:List Value):Prop:=
 ∃p v,Blk W b 175 #[p,v]/\(p= .pointer none\/p=po b 0)/\W.ownsRow 0 5 1 v xs.length xs/\v.ownBlock=r
def eSb(b:Nat)(r:Option Nat)(xs:List Value):Ent:=⟨b::r.toList,fun W=>gK W b r xs⟩
def rO(e:Ent):Option Nat:=e.fp[1]?
theorem KX(b:Nat)(r:Option Nat)(xs:List Value):rO (eSb b r xs)=r:=by
 cases r<;>rfl
theorem JZ(b:Nat)(r:Option Nat)(xs:List Value):(eSb b r xs).loc:=fun W W' hk h=>by
 obtain⟨p,v,h1,h2,h3,h4⟩:=h
 refine⟨p,v,(hk b (by simp[eSb])).trans h1,h2,?_,h4⟩
 have:=go 5 1 v xs.length xs W W' (fun k hk'=>hk k (by
  have h5:v.ownBlock=some k:=by simpa[eO] using hk'
  rw[h4] at h5
  simp[eSb,h5])) h3
 exact this
theorem gK.fresh(h:Blk W b 175 #[.pointer none,sn]):gK W b none []:=⟨_,_,h,.inl rfl,World.ownsRow_nil _ _ _ _,rfl⟩
theorem gK.ne(h:gK W b r xs):r≠some b:=by
 obtain⟨p,v,h1,h2,h3,h4⟩:=h
 have:=oo h3 h1 (by decide)
 rw[h4] at this
 exact this
theorem rU{ops:Array Oper}{rest:List Oper}{o:Oper}(hgd:o.guard=none)(sl x:Operand)(t u:TypeId)
  (ho:o.op= .call {callee:= .builtin .append,args:=#[sl,x],argTypes:=#[t,u]})
  (e:TypeId) (i:TypeInfo) (ht:P.underlying t=some (.slice e)) (hu:P.underlying u=some .string) (hi:P.info? e=some i) (hz:i.zero=some (.int .u8 0))
  (hsize:i.size=1) (hby:i.bytes=1)
  (v:Value) (n:Nat) (xs:List Value) (hs:a.eval sl=v) (hown:w.ownsRow 0 e 1 v n xs) (s:ByteArray) (hx:a.eval x= .string s)
  (h63:n+s.size<=maxLen) (hbytes:n+s.size<=140737488355328)
  (h:∀v' w',w'.ownsRow 0 e 1 v' (n+s.size) (xs++Lib.strCells s)->w.grownBy w' v.ownBlock->(∀k,v'.ownBlock=some k->v.ownBlock=some k\/w.heap.size<=k)->wpList P ops Q rest (a.put o.dst v') w'):wpList P ops Q (o::rest) a w:=by
 refine wpList_plain hgd fun K hK=>?_
 obtain⟨v',w',hr,h2,h3,h4⟩:=nC (P:=P) w t u o.type e i ht hu hi hz hsize hby v n xs hown s h63 hbytes
 unfold Oper.wp execOp
 simp only[ho,resolve,invoke,builtin,Sem.run_bind,Sem.run_pure,Result.andThen_ok,List.map_toArray,List.map_cons,List.map_nil,hs,hx,hr]
 exact hK _ _ (h v' w' h2 h3 h4)
theorem Tryz.infoU8:(Tryz.prog.info? 5).map (fun i=>(i.zero,i.size,i.bytes))=some (some (.int .u8 0),1,1):=by kernel_rfl
def qp(b:Nat)(r:Option Nat)(xs:List Value)(w w':World):Prop:=∃r',gK w' b r' xs/\Upd (b::r.toList) w w'/\∀k,r'=some k->r=some k\/w.heap.size<=k
theorem Ks(b:Nat)(r:Option Nat)(xs:List Value)(s:ByteArray)(w:World)(h:gK w b r xs)(hlen:xs.length+s.size<=1000000):
  Calls Tryz.prog 121 #[po b 0,.string s] w fun e w'=>e= .returned (.tuple #[.int .i64 s.size,.nilIface])/\qp b r (xs++Lib.strCells s) w w':=by
 obtain⟨i0,hi,hz0,hz1,hz2⟩:=info_parts Tryz.infoU8
 have hnb:=h.ne
 obtain⟨p,v,hbk0,hp,hown0,hr⟩:=h
 subst hr
 go_enter Tryz.func121,Tryz.ntmps121
 go_wp2_with fail
 refine(rW b p v w hbk0 hp).mono ?_
 rintro e w1 ⟨rfl,hbk,hb1⟩
 have hown:w1.ownsRow 0 5 1 v xs.length xs:=go 5 1 v xs.length xs w w1 (fun k hk=>by
  have h5:v.ownBlock=some k:=by simpa[eO] using hk
  exact hb1.block k (eY hown0 k h5) (by simp;intro e;exact hnb (by rw[h5,e]))) hown0
 have c0:w1.cell? ⟨b,0,none⟩=some (po b 0):=hbk.cell 0
 have c1:w1.cell? ⟨b,1,none⟩=some v:=hbk.cell 1
 go_wp2_with (at_builtin;refine rU rfl _ _ 41 9 rfl 5 i0 Tryz.underlying41 Tryz.underlying9 hi hz0 hz1 hz2 _ _ _ rfl hown s rfl ?c3 ?c4 ?_)
 case c3=>unfold maxLen;omega
 case c4=>omega
 intro v' w2 hown' hgrow hat
 have hb2:Blk w2 b 175 #[po b 0,v]:=hbk.grown hgrow (oo hown hbk (by decide))
 have d0:w2.cell? ⟨b,0,none⟩=some (po b 0):=hb2.cell 0
 have d1:w2.cell? ⟨b,1,none⟩=some v:=hb2.cell 1
 have f1:w2.frozen? ⟨b,1,none⟩=false:=hb2.frozen 1
 obtain⟨ao,n',cap,rfl⟩:∃ao n' cap,v'= .slice ao n' cap:=by
  rcases hown'.2 with ⟨hv,_⟩|⟨g,cap,cur,hv,_⟩
  ·exact⟨_,_,_,hv⟩
  ·exact⟨_,_,_,hv⟩
 go_wp2
 go_ret2
 refine⟨rfl,_,⟨_,_,hb2.set_ 1 _,.inr rfl,Bn (by simpa[Lib.strCells_length] using hown') (oo hown' hb2 (by decide)) 1 _,rfl⟩,?_,fun k hk=>?_⟩
 ·exact((hb1.mono (fun k _ hk=>by simp at hk;simp[hk])).grown hgrow (fun k hk=> .inl (by simp[hk]))).set (p:=⟨b,1,none⟩) (.inl (by simp)) _
 ·rcases hat k hk with h|h
  ·exact .inl h
  ·exact .inr (Nat.le_trans hb1.size h)
theorem JV(b:Nat)(r:Option Nat)(xs:List Value)(k:Int)(w:World)(h:gK w b r xs)(hlen:xs.length+1<=1000000):
  Calls Tryz.prog 182 #[po b 0,.int .u8 k] w fun e w'=>e= .returned .nilIface/\qp b r (xs++[.int .u8 k]) w w':=by
 obtain⟨i0,hi,hz0,hz1,hz2⟩:=info_parts Tryz.infoU8
 have hnb:=h.ne
 obtain⟨p,v,hbk0,hp,hown0,hr⟩:=h
 subst hr
 go_enter Tryz.func182,Tryz.ntmps182
 go_wp2_with fail
 refine(rW b p v w hbk0 hp).mono ?_
 rintro e w1 ⟨rfl,hbk,hb1⟩
 have hown1:w1.ownsRow 0 5 1 v xs.length xs:=go 5 1 v xs.length xs w w1 (fun k hk=>by
  have h5:v.ownBlock=some k:=by simpa[eO] using hk
  exact hb1.block k (eY hown0 k h5) (by simp;intro e;exact hnb (by rw[h5,e]))) hown0
 have c0:w1.cell? ⟨b,0,none⟩=some (po b 0):=hbk.cell 0
 have c1:w1.cell? ⟨b,1,none⟩=some v:=hbk.cell 1
 have hX:Ext w1 (w1.alloc (.cells #[.int .u8 k] 5)):=(Ext.refl w1).alloc _
 have hown:=J9 hown1 hX
 have hbk':=hbk.ext hX
 go_wp2_with (at_builtin;refine BW _ rfl _ _ 41 rfl 0 5 i0 _ 1 Tryz.underlying41 hi hz0 hz1 hz2 rfl _ _ _ rfl hown _ 1 1 [.int .u8 k] rfl rfl ?c1 (by simp[Value.oneCell']) ?c3 ?c4 (Nat.zero_le _) ?_)
 case c1=>exact At.one_new _ _ _
 case c3=>unfold maxLen;omega
 case c4=>omega
 intro v' w2 hown' hgrow hat
 have hb2:Blk w2 b 175 #[po b 0,v]:=hbk'.grown hgrow (oo hown hbk' (by decide))
 have d0:w2.cell? ⟨b,0,none⟩=some (po b 0):=hb2.cell 0
 have d1:w2.cell? ⟨b,1,none⟩=some v:=hb2.cell 1
 have f1:w2.frozen? ⟨b,1,none⟩=false:=hb2.frozen 1
 obtain⟨ao,n',cap,rfl⟩:∃ao n' cap,v'= .slice ao n' cap:=by
  rcases hown'.2 with ⟨hv,_⟩|⟨g,cap,cur,hv,_⟩
  ·exact⟨_,_,_,hv⟩
  ·exact⟨_,_,_,hv⟩
 go_wp2
 go_ret
 refine⟨rfl,_,⟨_,_,hb2.set_ 1 _,.inr rfl,Bn (by simpa using hown') (oo hown' hb2 (by decide)) 1 _,rfl⟩,?_,fun k hk=>?_⟩
 ·exact(((hb1.mono (fun k _ hk=>by simp at hk;simp[hk])).alloc _).grown hgrow (fun k hk=> .inl (by simp[hk]))).set (p:=⟨b,1,none⟩) (.inl (by simp)) _
 ·rcases hat with h|h
  ·exact .inl (h.symm.trans hk)
  ·right
   have h6:=h.symm.trans hk
   injection h6 with h6
   have:=hb1.size
   have:=hX.size
   omega
def eBu(b:Nat)(r:Option Nat)(l:List UInt8):Ent:=eSb b r (Lib.byteCells l)
theorem LK(b:Nat)(r:Option Nat)(l:List UInt8):rO (eBu b r l)=r:=KX b r _
theorem BS(l:List UInt8)(k:Int)(h:0<=k/\k<256):Lib.byteCells l++[.int .u8 k]=Lib.byteCells (l++[UInt8.ofNat k.toNat]):=by
 have:((UInt8.ofNat k.toNat).toNat:Int)=k:=by
  rw[UInt8.toNat_ofNat']
  omega
 simp only[Lib.byteCells,List.map_append,List.map_cons,List.map_nil,this]
theorem Dl(l:List UInt8)(s:ByteArray):Lib.byteCells l++Lib.strCells s=Lib.byteCells (l++s.data.toList):=by simp[Lib.byteCells,Lib.strCells]
theorem ig(l:List UInt8):(Lib.byteCells l).length=l.length:=by simp[Lib.byteCells]
theorem Ny(b:Nat)(r:Option Nat)(l:List UInt8)(k:Int)(w:World)(h:gK w b r (Lib.byteCells l))(hk:0<=k/\k<256)(hlen:l.length+1<=1000000):
  Calls Tryz.prog 182 #[po b 0,.int .u8 k] w fun e w'=>e= .returned .nilIface/\qp b r (Lib.byteCells (l++[UInt8.ofNat k.toNat])) w w':=by
 have:=JV b r _ k w h (by rw[ig];exact hlen)
 rw[BS l k hk] at this
 exact this
theorem xj(b:Nat)(r:Option Nat)(l:List UInt8)(s:ByteArray)(w:World)(h:gK w b r (Lib.byteCells l))(hlen:l.length+s.size<=1000000):
  Calls Tryz.prog 121 #[po b 0,.string s] w fun e w'=>e= .returned (.tuple #[.int .i64 s.size,.nilIface])/\qp b r (Lib.byteCells (l++s.data.toList)) w w':=by
 have:=Ks b r _ s w h (by rw[ig];exact hlen)
 rw[Dl l s] at this
 exact this
theorem Upd.freeze{S:List Nat}{a b:World}(h:Upd S a b){p:Addr}(hp:p.block∈S\/a.heap.size<=p.block)(n:Nat):Upd S a (b.freeze p n):=by
 unfold World.freeze
 split
 ·exact h
 ·refine⟨h.os,h.tape,h.output,by simpa using h.size,fun k hk hn=>?_⟩
  simp only[Array.getElem?_modify]
  rw[if_neg (fun e=>?_)]
  ·exact h.block k hk hn
  ·rcases hp with hp|hp
   ·exact hn (by rw[<-e];exact hp)
   ·omega
section
variable{P:Program}{ops:Array Oper}{L:List Nat}{a0:Act}{w0:World}{bor:List Nat}{X0:List Ent}{us cr kl:List (List Nat)}
 {D:Nat->(Tmp->Value)->(Tmp->Value)->(Nat->Ent)->Prop}{i:Nat}{o:Oper}{ρ:Operand->Value}{β:Tmp->Value}{W:World}{X:Nat->Ent}
theorem CtxV.sb(cx:CtxV ops L a0 w0 bor X0 us D i ρ β W X)(hX:X q=eBu b r l)(hu:(atV us i).contains q=true):gK W b r (Lib.byteCells l):=by
 have h:=(cx.ok q hu).holds
 rw[hX] at h;exact h
theorem oq{v:Value}{q':Nat}(hX:(X q).fp=b::r.toList)(hc:atV cr i=[q'])(hk:atV kl i=[q])(hp:qp b r (Lib.byteCells l) W W')
  (hD:∀(f j:Tmp->Value) (X':Nat->Ent),(∀t,o.dst≠some t->f t=ρ (.tmp t))->(∀t,o.dst≠some t->j t=β t)->(∀d,o.dst=some d->f d=v/\j d=v)->X' q'=eBu b (rO (X' q')) l->D i f j X'):bX cr kl D i o.dst ρ β W X v W':=by
 obtain⟨r',hs,hu,hr⟩:=hp
 have hne:=hs.ne
 have hlt:∀k∈(eBu b r' l).fp,k<W'.heap.size:=fun k hk'=>by
  obtain⟨p,vv,h1,_,h3,h4⟩:=hs
  simp only[eBu,eSb,List.mem_cons,Option.mem_toList] at hk'
  rcases hk' with rfl|hk'
  ·exact h1.lt
  ·exact eY h3 k (by rw[h4];exact hk')
 refine⟨[eBu b r' l],by rw[hc];rfl,⟨?_,fun e he=>?_,List.pairwise_singleton _ _⟩,fun f j X' hs' hv hb' hbv hx' hN=>hD f j X' hs' hb' (fun d hd=>⟨hv d hd,hbv d hd⟩) ?_⟩
 ·rw[hk]
  simp only[List.flatMap_cons,List.flatMap_nil,List.append_nil,hX]
  exact hu
 ·rw[List.mem_singleton] at he
  subst he
  refine⟨hs,JZ _ _ _,fun k hk'=>⟨?_,hlt k hk'⟩⟩
  rw[hk]
  simp only[List.flatMap_cons,List.flatMap_nil,List.append_nil,hX]
  simp only[eBu,eSb,List.mem_cons,Option.mem_toList] at hk'
  rcases hk' with rfl|hk'
  ·exact .inl (by simp)
  ·rcases hr k hk' with h|h
   ·exact .inl (by simp[h])
   ·exact .inr h
 ·rw[hc] at hN
  have h1:=(List.cons.inj hN).1
  rw[h1,LK]
theorem wM{v:Value}{S:List Nat}(hX:(X q).fp=S)(hc:atV cr i=[])(hk:atV kl i=[q])(hu:Upd S W W')
  (hD:∀(e f:Tmp->Value) (X':Nat->Ent),(∀t,o.dst≠some t->e t=ρ (.tmp t))->(∀t,o.dst≠some t->f t=β t)->(∀d,o.dst=some d->e d=v/\f d=v)->D i e f X'):bX cr kl D i o.dst ρ β W X v W':=by
 refine⟨[],by rw[hc];rfl,⟨?_,by simp,List.Pairwise.nil⟩,fun e f X' hs' hv hb' hbv hx' hN=>hD e f X' hs' hb' (fun d hd=>⟨hv d hd,hbv d hd⟩)⟩
 rw[hk]
 simp only[List.flatMap_cons,List.flatMap_nil,List.append_nil,hX]
 exact hu
theorem pN{t:TypeId}{a:Addr}{c:Nat}(h:o.op= .call {callee:= .builtin .unsafeSliceData,args:=#[x],argTypes:=#[t]})(hx:ρ x= .slice (some a) n c)(hc:0<c):(execOp ρ o).run P W= .ok (.value (.pointer (some a))) W:=by
 have h0:=Lib.run_unsafeSliceData_row (P:=P) (w:=W) #[t] o.type a n c (by omega)
 unfold execOp;rw[h]
 simp only[resolve,invoke,builtin,Sem.run_bind,Sem.run_pure,Result.andThen_ok,List.map_toArray,List.map_cons,List.map_nil,hx,h0]
theorem yx{t u e:TypeId}{c:Nat}{d:Tmp}(h:o.op= .call {callee:= .builtin .unsafeString,args:=#[x,y],argTypes:=#[t,u]})(ht:P.underlying t=some (.pointer e))(hce:P.cellsOf e=1)
  (hx:ρ x=po g 0) (hy:ρ y= .int .i64 (l.length:Int)) (cx:CtxV ops L a0 w0 bor X0 us D i ρ β W X) (hX:X q=eO e 1 (.slice (some ⟨g,0,none⟩) l.length c) l.length (Lib.byteCells l)) (hu:(atV us i).contains q=true) (hl:l≠[]) (h63:l.length<=9223372036854775807)
  (hd:o.dst=some d) (hc:atV cr i=[]) (hk:atV kl i=[q]) (hD:∀(f k:Tmp->Value) (X':Nat->Ent),f d= .string ⟨l.toArray⟩->D i f k X'):am P o ρ W (bX cr kl D i o.dst ρ β W X):=by
 have hown:=cx.row hX hu
 obtain⟨hlen,h2⟩:=hown
 have hpos:0<l.length:=List.length_pos_iff.2 hl
 rcases h2 with ⟨hv,h0⟩|⟨g',cap,cur,hv,_,hg,hle,hmx,hcs,htk⟩
 ·omega
 ·injection hv with h1 h2 h3
  injection h1 with h1
  injection h1 with h1
  subst h1 h3
  have hcell:∀(j:Nat) (x:UInt8),l[j]? =some x->W.cell? ((⟨g,0,none⟩:Addr).add j)=some (.int .u8 x.toNat):=fun j x hj=>by
   have hjl:=(List.getElem?_eq_some_iff.1 hj).1
   rw[Addr.add_lit,Nat.zero_add,cell_of_row W g j cur e _ hg]
   have h5:(cur.toList.take (l.length*1))[j]? =(Lib.byteCells l)[j]? :=by rw[htk]
   rw[List.getElem?_take,if_pos (by omega)] at h5
   rw[<-Array.getElem?_toList,h5]
   simp[Lib.byteCells,hj]
  have hrun:=Lib.run_unsafeString_row (P:=P) (w:=W) t u o.type e ht hce g cur.size (by unfold World.shape?;rw[hg]) l hl (by omega) h63 hcell
  refine am.value (v:= .string ⟨l.toArray⟩) (w':=W.freeze ⟨g,0,none⟩ l.length) (by
   unfold execOp;rw[h]
   simp only[resolve,invoke,builtin,Sem.run_bind,Sem.run_pure,Result.andThen_ok,List.map_toArray,List.map_cons,List.map_nil,hx,hy,hrun]) ?_
  refine wM (S:=[g]) (by rw[hX];rfl) hc hk ((Upd.refl _ _).freeze (.inl (by simp)) _) fun f k X' _ _ hv=>hD f k X' (hv d hd).1
end
theorem St.lent2{t e c:Nat}(hb:Blk w b t cs)(ho:w.ownsRow 0 e 1 (.slice (some ⟨g,0,none⟩) n c) n xs)(hne:g≠b):St w [b,g] [eB b t cs,eO e 1 (.slice (some ⟨g,0,none⟩) n c) n xs] w:=by
 refine⟨Upd.refl _ _,fun x hx=>?_,?_⟩
 ·simp only[List.mem_cons,List.not_mem_nil,or_false] at hx
  rcases hx with rfl|rfl
  ·exact⟨hb,d7 _ _ _,fun k hk=>⟨.inl (by simp[eB] at hk;simp[hk]),by simp[eB] at hk;subst hk;exact hb.lt⟩⟩
  ·exact⟨ho,go _ _ _ _ _,fun k hk=>⟨.inl (by simp[eO,Value.ownBlock] at hk;simp[hk]),eY ho k (by simpa[eO] using hk)⟩⟩
 ·refine List.pairwise_pair.2 fun k hk hk'=>?_
  simp only[eB,List.mem_cons,List.not_mem_nil,or_false,eO,Value.ownBlock,Option.toList_some] at hk hk'
  omega
theorem Jy(b:Nat)(r:Option Nat)(l:List UInt8)(w:World)(h:gK w b r (Lib.byteCells l))(hl:l≠[])(h63:l.length<=1000000):
  Calls Tryz.prog 125 #[po b 0] w fun e w'=>e= .returned (.string ⟨l.toArray⟩)/\Upd (b::r.toList) w w':=by
 have hpos:0<l.length:=List.length_pos_iff.2 hl
 have hbne:=h.ne
 obtain⟨p,v,hb,hp,hown,hr⟩:=h
 rw[ig] at hown
 obtain⟨g,c,hv,hlc⟩:∃g c,v= .slice (some ⟨g,0,none⟩) l.length c/\l.length<=c:=by
  rcases hown.2 with ⟨hv,h0⟩|⟨g',cap,cur,hv,_,hg,hle,_⟩
  ·omega
  ·exact⟨g',cap,hv,hle⟩
 subst hv hr
 have hne:g≠b:=fun e=>hbne (by simp[Value.ownBlock,e])
 have st0:=St.lent2 hb hown hne
 show Calls _ _ _ w fun e w'=>e= .returned (.string ⟨l.toArray⟩)/\Upd [b,g] w w'
 go_enter Tryz.func125,Tryz.ntmps125
 have al:=st0
 refine wq (sqr (sqp [.k 2 (.string ⟨#[]⟩)] ?_))
 refine aa (wq (aH [0,1,3,7,15,0,32,96,224,480,1023,2047] [[],[],[],[0],[],[],[],[],[0],[],[1]] [] [[],[],[],[],[],[],[],[],[],[],[1]] [.k 3 (vp b),.k 4 (vp b),.k 5 (po b 1),.c 6 (.slice ((some ⟨g,0,none⟩)) l.length c),.c 7 (vp g),.k 8 (vp b),.k 9 (vp b),.k 10 (po b 1),.c 11 (.slice ((some ⟨g,0,none⟩)) l.length c),.k 12 (vi ((l.length:Int))),.a 13,.c 2 (.string ((⟨l.toArray⟩:ByteArray)))] (fun ix d f X=>match ix with|0|1|2|3|4|5|6|7|8|9=>True|10=>d 13= .string ((⟨l.toArray⟩:ByteArray))|_=>True) [0] [3,4,8,10,11] [(2,11,1,3),(0,0,11,11)] al ?_ ?_ ?_))
 ·exact fun ix _ _ _ _ _ _ hs hb hx h=>match ix,h with
  |10,h=>(hs _ rfl).symm.trans h
  |0,_|1,_|2,_|3,_|4,_|5,_|6,_|7,_|8,_|9,_|_+11,_=>trivial
 ·refine⟨?_,?_,?_,?_,?_,trivial⟩
  ·exact xs4 rfl id fun cx=>ae rfl (by kernel_rfl) (cx.an 2) ((cx.bi 0 rfl).cell 1)
  ·exact xs4 rfl id fun cx=>pN rfl (cx.an 3) (by omega)
  ·exact xs4 rfl id fun cx=>ae rfl (by kernel_rfl) (cx.an 7) ((cx.bi 0 rfl).cell 1)
  ·refine svA fun j f W X cx=>?_
   exact yx (e:=5) rfl (by kernel_rfl) (by kernel_rfl) (cx.an 4) (cx.an 9) cx (cx.init 1 _ rfl) rfl hl (by omega) rfl rfl rfl (fun d m X' hs=>hs)
  ·exact xs4 rfl id fun cx=>dm rfl (dTn (cx.an 10))
 intro d f X W2 hD bQ fr aG
 simp only[ed 13 ((dTn (hD 10 lq)))] at aG
 clear hD;subst aG;clear d f X
 refine aa (wp_ret ?_)
 refine bpr (.string ((⟨l.toArray⟩:ByteArray))) (ai Tryz.results125 rpt) ?_
 exact⟨rfl,bQ.upd⟩
end
section
open Go.RowKit
theorem Li(s:ByteArray):s.extract 0 s.size=s:=by
 apply ByteArray.ext
 simp
def aX(s:ByteArray):ByteArray:=ag s.size 2++s
section
variable{o:Oper}{ρ:Operand->Value}{W:World}
theorem w8{t:TypeId}{s:ByteArray}{k:IntKind}{j:Int}(h:o.op= .slice t x none (some y) none)(ht:P.underlying t=some .string)(hx:ρ x= .string s)(hy:ρ y= .int k j)(hj:j=(s.size:Int)):
  (execOp ρ o).run P W= .ok (.value (.string s)) W:=by
 have e:=fc (P:=P) (W:=W) h ht hx hy hj (Nat.le_refl _)
 rw[Li] at e
 exact e
end
theorem lj(s:ByteArray)(w:World)(hs:s.size<=65535):
  Calls Tryz.prog 122 #[.string s] w (Ret (.string (aX s)) w):=by
 have hp:=aF (s.size:Int) 2 (by omega)
 go_enter Tryz.func122,Tryz.ntmps122
 have al:=St.start w
 refine wq (sqr (sqp [.k 2 (.string ⟨#[]⟩)] ?_))
 refine aa (wq (sqr (sqp [.m 3 0,.m 4 0,.k 5 (vi ((s.size:Int)))] ?_)))
 refine sql (vi ((s.size:Int))) al (fun cx=>jE rfl (cx.ou 5) (cx.co _) (by omega)) ?_
 refine sql (.string s) al (fun cx=>w8 rfl (by kernel_rfl) (cx.ou 3) (cx.ou 6) (by omega)) ?_
 refine sqp [.m 0 7] ?_
 refine aa (wq (sqr (sqp [.m 8 0,.k 9 (vi ((s.size:Int)))] ?_)))
 refine sqk (.string (ag (s.size:Int) 2)) al (fun cx=>⟨_,wK (s.size:Int) _,(aP (cx.ou 9) (cx.co _))⟩) fun wY dR=>?_
 refine sqp [.m 11 0,sS 12 (ag (s.size:Int) 2) s (by omega),.m 2 12] ?_
 refine aa (wp_ret ?_)
 refine bpr (.string ((ag (s.size:Int) 2)++s)) (ai Tryz.results122 rpt) ?_
 exact Ret.of rfl dR.ext
end
section
open Go.RowKit
theorem ru(s:ByteArray)(w:World):Calls Tryz.prog 94 #[.string s] w fun e w'=>∃B,e= .returned (po B 0)/\(Blk w' B 193 #[.string s,.int .i64 0,.bool false]/\w.heap.size<=B)/\Ext w w':=by
 go_enter Tryz.func94,Tryz.ntmps94
 have al:=St.start w
 refine wq (sqr (sqp [.k 2 (.pointer none)] ?_))
 refine aa (wq (sqr (sqp [.m 3 0,.k 4 (.agg #[.string s,vi 0,.bool false])] ?_)))
 refine ce #[.string s,vi 0,.bool false] al fun LN W4 be=>?_
 refine sqp [.m 2 5] ?_
 refine aa (wp_ret ?_)
 refine bpr (vp LN) (ai Tryz.results94 rpt) ?_
 exact⟨_,rfl,⟨be.blk 0 rfl,((be.get 0 rfl).own _ (by simp[eB])).1.resolve_left (by simp)⟩,be.ext⟩
end
end Go.Proofs.YtcdjaepgahbhfaaGreat
namespace Go.Proofs
section
open Go.Shelf
def Tryz.lays170_ren:Go.Shelf.Ren:=⟨fun|170=>124|n=>n,fun|70=>173|3=>3|0=>0|72=>175|37=>41|5=>5|n=>n,fun|n=>n⟩
theorem Tryz.lays170:Go.Proofs.Lays.n170 Tryz.prog Tryz.lays170_ren:={
 mixed:=by kernel_rfl
 f170:=Tryz.func124.trans (congrArg some (by kernel_rfl))
 t0:=Tryz.underlying0
 a0:=Tryz.isAgg0
 z0:=Tryz.sizeOf0
 v0:=Tryz.zeroValue0
 t3:=Tryz.underlying3
 a3:=Tryz.isAgg3
 z3:=Tryz.sizeOf3
 v3:=Tryz.zeroValue3
 t37:=Tryz.underlying41
 a37:=Tryz.isAgg41
 z37:=Tryz.sizeOf41
 v37:=Tryz.zeroValue41
 t70:=Tryz.underlying173
 a70:=Tryz.isAgg173
 z70:=Tryz.sizeOf173
 v70:=Tryz.zeroValue173
 t72:=Tryz.underlying175
 a72:=Tryz.isAgg175
 z72:=Tryz.sizeOf175
 v72:=Tryz.zeroValue175}
def Tryz.lays156_ren:Go.Shelf.Ren:=⟨fun|156=>163|165=>167|166=>121|169=>125|240=>164|241=>188|276=>184|277=>192|n=>n,fun|31=>46|9=>9|3=>3|4=>4|0=>0|20=>20|72=>175|76=>178|70=>173|37=>41|75=>177|127=>208|164=>220|5=>5|80=>36|n=>n,fun|n=>n⟩
theorem Tryz.lays156:Go.Proofs.Lays.n156 Tryz.prog Tryz.lays156_ren:={
 mixed:=by kernel_rfl
 f156:=Tryz.func163.trans (congrArg some (by kernel_rfl))
 f165:=Tryz.func167.trans (congrArg some (by kernel_rfl))
 f166:=Tryz.func121.trans (congrArg some (by kernel_rfl))
 f169:=Tryz.func125.trans (congrArg some (by kernel_rfl))
 f240:=Tryz.func164.trans (congrArg some (by kernel_rfl))
 f241:=Tryz.func188.trans (congrArg some (by kernel_rfl))
 f276:=Tryz.func184.trans (congrArg some (by kernel_rfl))
 f277:=Tryz.func192.trans (congrArg some (by kernel_rfl))
 t0:=Tryz.underlying0
 a0:=Tryz.isAgg0
 z0:=Tryz.sizeOf0
 v0:=Tryz.zeroValue0
 t3:=Tryz.underlying3
 a3:=Tryz.isAgg3
 z3:=Tryz.sizeOf3
 v3:=Tryz.zeroValue3
 t4:=Tryz.underlying4
 a4:=Tryz.isAgg4
 z4:=Tryz.sizeOf4
 v4:=Tryz.zeroValue4
 t9:=Tryz.underlying9
 a9:=Tryz.isAgg9
 z9:=Tryz.sizeOf9
 v9:=Tryz.zeroValue9
 t20:=Tryz.underlying20
 a20:=Tryz.isAgg20
 z20:=Tryz.sizeOf20
 v20:=Tryz.zeroValue20
 t31:=Tryz.underlying46
 a31:=Tryz.isAgg46
 z31:=Tryz.sizeOf46
 v31:=Tryz.zeroValue46
 t37:=Tryz.underlying41
 a37:=Tryz.isAgg41
 z37:=Tryz.sizeOf41
 v37:=Tryz.zeroValue41
 t70:=Tryz.underlying173
 a70:=Tryz.isAgg173
 z70:=Tryz.sizeOf173
 v70:=Tryz.zeroValue173
 t72:=Tryz.underlying175
 a72:=Tryz.isAgg175
 z72:=Tryz.sizeOf175
 v72:=Tryz.zeroValue175
 t75:=Tryz.underlying177
 a75:=Tryz.isAgg177
 z75:=Tryz.sizeOf177
 v75:=Tryz.zeroValue177
 t76:=Tryz.underlying178
 a76:=Tryz.isAgg178
 z76:=Tryz.sizeOf178
 v76:=Tryz.zeroValue178
 t127:=Tryz.underlying208
 a127:=Tryz.isAgg208
 z127:=Tryz.sizeOf208
 v127:=Tryz.zeroValue208
 t164:=Tryz.underlying220
 a164:=Tryz.isAgg220
 z164:=Tryz.sizeOf220
 v164:=Tryz.zeroValue220}
theorem Tryz.Builder_Extra_156:Builder.Extra Tryz.prog Tryz.lays156_ren:={
 sizeBuilder:=by kernel_rfl
 liesBuilder:=by kernel_rfl
 t5:=Tryz.underlying5
 a5:=Tryz.isAgg5
 z5:=Tryz.sizeOf5
 v5:=Tryz.zeroValue5
 infoByte:=by kernel_rfl
 cellsByte:=by kernel_rfl
 sizeByte:=by kernel_rfl
 neB5:=by decide}
open Go.RowKit in
open Go.RowKit in
theorem Tryz.strings_Join(bk o c:Nat)(xs:List ByteArray)(sep:ByteArray)(w:World)(hcells:∀(j:Nat) x,xs[j]? =some x->w.cell? ⟨bk,o+j,none⟩=some (.string x))(hbk:bk<w.heap.size)(hN:xs.length<=140737488355328)(hcap:xs.length<=c)(hlen:(Lib.join (xs.map (·.data.toList)) sep.data.toList).length<=140737488355328):
  Calls Tryz.prog 163 #[.slice (some ⟨bk,o,none⟩) xs.length c,.string sep] w fun e w'=>e= .returned (.string ⟨(Lib.join (xs.map (·.data.toList)) sep.data.toList).toArray⟩)/\Below w.heap.size w w':=Any.strings_Join Tryz.lays156 Tryz.Builder_Extra_156 bk o c xs sep w hcells hbk hN hcap hlen
open Go.RowKit in
theorem Tryz.Builder_Len_f(B b:Nat)(bs:List Value)(w:World)(h:Lib.IsBuilderF 175 5 B b bs w):
  Calls Tryz.prog 124 #[.pointer (some ⟨b,0,none⟩)] w fun e w'=>e= .returned (.int .i64 bs.length)/\w'=w:=Any.Builder_Len_f Tryz.lays170 B b bs w h
open Go.RowKit in
open Go.RowKit Go.Lib in
def Tryz.lays105_ren:Go.Shelf.Ren:=⟨fun|105=>123|212=>165|99=>166|165=>167|166=>121|170=>124|169=>125|263=>185|264=>186|206=>187|240=>164|241=>188|276=>184|277=>192|n=>n,fun|9=>9|3=>3|4=>4|20=>20|0=>0|46=>184|109=>205|5=>5|72=>175|76=>178|51=>125|146=>222|53=>191|148=>224|70=>173|37=>41|75=>177|127=>208|164=>220|80=>36|n=>n,fun|n=>n⟩
theorem Tryz.lays105:Go.Proofs.Lays.n105 Tryz.prog Tryz.lays105_ren:={
 mixed:=by kernel_rfl
 f99:=Tryz.func166.trans (congrArg some (by kernel_rfl))
 f105:=Tryz.func123.trans (congrArg some (by kernel_rfl))
 f165:=Tryz.func167.trans (congrArg some (by kernel_rfl))
 f166:=Tryz.func121.trans (congrArg some (by kernel_rfl))
 f169:=Tryz.func125.trans (congrArg some (by kernel_rfl))
 f170:=Tryz.func124.trans (congrArg some (by kernel_rfl))
 f206:=Tryz.func187.trans (congrArg some (by kernel_rfl))
 f212:=Tryz.func165.trans (congrArg some (by kernel_rfl))
 f240:=Tryz.func164.trans (congrArg some (by kernel_rfl))
 f241:=Tryz.func188.trans (congrArg some (by kernel_rfl))
 f263:=Tryz.func185.trans (congrArg some (by kernel_rfl))
 f264:=Tryz.func186.trans (congrArg some (by kernel_rfl))
 f276:=Tryz.func184.trans (congrArg some (by kernel_rfl))
 f277:=Tryz.func192.trans (congrArg some (by kernel_rfl))
 t0:=Tryz.underlying0
 a0:=Tryz.isAgg0
 z0:=Tryz.sizeOf0
 v0:=Tryz.zeroValue0
 t3:=Tryz.underlying3
 a3:=Tryz.isAgg3
 z3:=Tryz.sizeOf3
 v3:=Tryz.zeroValue3
 t4:=Tryz.underlying4
 a4:=Tryz.isAgg4
 z4:=Tryz.sizeOf4
 v4:=Tryz.zeroValue4
 t5:=Tryz.underlying5
 a5:=Tryz.isAgg5
 z5:=Tryz.sizeOf5
 v5:=Tryz.zeroValue5
 t9:=Tryz.underlying9
 a9:=Tryz.isAgg9
 z9:=Tryz.sizeOf9
 v9:=Tryz.zeroValue9
 t20:=Tryz.underlying20
 a20:=Tryz.isAgg20
 z20:=Tryz.sizeOf20
 v20:=Tryz.zeroValue20
 t37:=Tryz.underlying41
 a37:=Tryz.isAgg41
 z37:=Tryz.sizeOf41
 v37:=Tryz.zeroValue41
 t46:=Tryz.underlying184
 a46:=Tryz.isAgg184
 z46:=Tryz.sizeOf184
 v46:=Tryz.zeroValue184
 t51:=Tryz.underlying125
 a51:=Tryz.isAgg125
 z51:=Tryz.sizeOf125
 v51:=Tryz.zeroValue125
 t53:=Tryz.underlying191
 a53:=Tryz.isAgg191
 z53:=Tryz.sizeOf191
 v53:=Tryz.zeroValue191
 t70:=Tryz.underlying173
 a70:=Tryz.isAgg173
 z70:=Tryz.sizeOf173
 v70:=Tryz.zeroValue173
 t72:=Tryz.underlying175
 a72:=Tryz.isAgg175
 z72:=Tryz.sizeOf175
 v72:=Tryz.zeroValue175
 t75:=Tryz.underlying177
 a75:=Tryz.isAgg177
 z75:=Tryz.sizeOf177
 v75:=Tryz.zeroValue177
 t76:=Tryz.underlying178
 a76:=Tryz.isAgg178
 z76:=Tryz.sizeOf178
 v76:=Tryz.zeroValue178
 t109:=Tryz.underlying205
 a109:=Tryz.isAgg205
 z109:=Tryz.sizeOf205
 v109:=Tryz.zeroValue205
 t127:=Tryz.underlying208
 a127:=Tryz.isAgg208
 z127:=Tryz.sizeOf208
 v127:=Tryz.zeroValue208
 t146:=Tryz.underlying222
 a146:=Tryz.isAgg222
 z146:=Tryz.sizeOf222
 v146:=Tryz.zeroValue222
 t148:=Tryz.underlying224
 a148:=Tryz.isAgg224
 z148:=Tryz.sizeOf224
 v148:=Tryz.zeroValue224
 t164:=Tryz.underlying220
 a164:=Tryz.isAgg220
 z164:=Tryz.sizeOf220
 v164:=Tryz.zeroValue220}
theorem Tryz.Builder_Extra_105:Builder.Extra Tryz.prog Tryz.lays105_ren:={
 sizeBuilder:=by kernel_rfl
 liesBuilder:=by kernel_rfl
 t5:=Tryz.underlying5
 a5:=Tryz.isAgg5
 z5:=Tryz.sizeOf5
 v5:=Tryz.zeroValue5
 infoByte:=by kernel_rfl
 cellsByte:=by kernel_rfl
 sizeByte:=by kernel_rfl
 neB5:=by decide}
open Go.RowKit Go.Lib in
theorem Tryz.strings_Repeat(s:ByteArray)(c:Nat)(w:World)(hc:c<=9223372036854775807)(hlen:s.size*c<=140737488355328):
  Calls Tryz.prog 123 #[.string s,.int .i64 c] w fun e w'=>e= .returned (.string ⟨(Lib.repeatL s.data.toList c).toArray⟩)/\Below w.heap.size w w':=Any.strings_Repeat Tryz.lays105 Tryz.Builder_Extra_105 s c w hc hlen
open Go.RowKit Go.Lib in
open Go.RowKit Go.Lib in
open Go.RowKit Go.Lib in
open Go.RowKit Go.Lib in
open Go.RowKit Go.Lib in
open Go.RowKit Go.Lib in
def Tryz.laysNm225_ren:Go.Shelf.Ren:=⟨fun|25=>67|31=>135|32=>136|37=>168|n=>n,fun|22=>25|3=>3|4=>4|40=>184|0=>0|n=>n,fun|n=>n⟩
theorem Tryz.laysNm225:Go.Proofs.Lays2.n25 Tryz.prog Tryz.laysNm225_ren:={
 mixed:=by kernel_rfl
 f25:=Tryz.func67.trans (congrArg some (by kernel_rfl))
 f31:=Tryz.func135.trans (congrArg some (by kernel_rfl))
 f32:=Tryz.func136.trans (congrArg some (by kernel_rfl))
 f37:=Tryz.func168.trans (congrArg some (by kernel_rfl))
 t0:=Tryz.underlying0
 a0:=Tryz.isAgg0
 z0:=Tryz.sizeOf0
 v0:=Tryz.zeroValue0
 t3:=Tryz.underlying3
 a3:=Tryz.isAgg3
 z3:=Tryz.sizeOf3
 v3:=Tryz.zeroValue3
 t4:=Tryz.underlying4
 a4:=Tryz.isAgg4
 z4:=Tryz.sizeOf4
 v4:=Tryz.zeroValue4
 t22:=Tryz.underlying25
 a22:=Tryz.isAgg25
 z22:=Tryz.sizeOf25
 v22:=Tryz.zeroValue25
 t40:=Tryz.underlying184
 a40:=Tryz.isAgg184
 z40:=Tryz.sizeOf184
 v40:=Tryz.zeroValue184}
open Go.RowKit Go.Lib in
theorem Tryz.slices_BinarySearch_int(b off n c:Nat)(zs:List Int)(x:Int)(w:World)(hz:n<=zs.length)(hbig:n<4611686018427387904)(hc:∀j,j<zs.length->w.cell? ⟨b,off+j,none⟩=some (.int .i64 (zs.getD j 0)))(hs:(zs.take n).Pairwise (·<=·)):
  Calls Tryz.prog 67 #[.slice (some ⟨b,off,none⟩) n c,.int .i64 x] w fun e w'=>e= .returned (.tuple #[.int .i64 ((zs.take n).countP (·<x):Nat),.bool ((zs.take n).contains x)])/\∃q,w'=w.drewN q:=Any.slices_BinarySearch_int Tryz.laysNm225 b off n c zs x w hz hbig hc hs
open Go.RowKit Go.Lib in
theorem Tryz.slices_BinarySearch_int_empty(a:Option Addr)(c:Nat)(x:Int)(w:World):
  Calls Tryz.prog 67 #[.slice a 0 c,.int .i64 x] w fun e w'=>e= .returned (.tuple #[.int .i64 0,.bool false])/\w'=w:=Any.slices_BinarySearch_int_empty Tryz.laysNm225 a c x w
end
end Go.Proofs
namespace Go.Proofs.YtcdjaepgahbhfaaGreat
variable{I ss:List ByteArray}{W w w':World}{b g n q:Nat}{l:List UInt8}{r:Option Nat}{slot:Int}
section
open Go.RowKit
abbrev gu(u:List Go.Value)(k:Nat):Go.Value:=u.getD k undef
theorem nle{a:Nat}(h:Nat.ble a b=true):a<=b:=Nat.le_of_ble_eq_true h
def oW(W:World)(g:Nat)(l:List UInt8):Prop:=∃cur fz,W.heap[g]? =some (.cells cur 5 fz)/\l.length<=cur.size/\cur.toList.take l.length=Lib.byteCells l
def eZr(g:Nat)(l:List UInt8):Ent:=⟨[g],fun W=>oW W g l⟩
theorem vS(g:Nat)(l:List UInt8):(eZr g l).loc:=fun W W' hk h=>by
 obtain⟨cur,fz,h1,h2⟩:=h
 exact⟨cur,fz,(hk g (by simp[eZr])).trans h1,h2⟩
theorem oW.lt(h:oW W g l):g<W.heap.size:=by
 obtain⟨cur,fz,h1,_⟩:=h
 exact(Array.getElem?_eq_some_iff.1 h1).1
theorem oW.freeze(h:oW W g l)(n:Nat):oW (W.freeze ⟨g,0,none⟩ n) g l:=by
 obtain⟨cur,⟨lo,hi⟩,h1,h2⟩:=h
 unfold World.freeze
 split
 ·exact⟨cur,(lo,hi),h1,h2⟩
 ·refine⟨cur,if lo==hi then (0,0+n) else (min lo 0,max hi (0+n)),?_,h2⟩
  simp only[Array.getElem?_modify,if_pos,h1,Option.map_some]
def SbZ(W:World)(b:Nat)(r:Option Nat)(l:List UInt8):Prop:=
 ∃p g c,Blk W b 175 #[p,.slice (some ⟨g,0,none⟩) l.length c]/\oW W g l/\l.length<=c/\g≠b/\r=some g
def eZb(b:Nat)(r:Option Nat)(l:List UInt8):Ent:=⟨b::r.toList,fun W=>SbZ W b r l⟩
theorem Bk(b:Nat)(r:Option Nat)(l:List UInt8):(eZb b r l).loc:=fun W W' hk h=>by
 obtain⟨p,g,c,h1,h2,h3,h4,rfl⟩:=h
 exact⟨p,g,c,(hk b (by simp[eZb])).trans h1,vS g l W W' (fun k hk'=>hk k (by simp[eZr] at hk';simp[eZb,hk'])) h2,h3,h4,rfl⟩
theorem SbZ.lt{b:Nat}{r:Option Nat}{l:List UInt8}(h:SbZ W b r l):∀k∈(eZb b r l).fp,k<W.heap.size:=fun k hk=>by
 obtain⟨p,g,c,h1,h2,h3,h4,rfl⟩:=h
 simp only[eZb,List.mem_cons,Option.mem_toList,Option.some.injEq] at hk
 rcases hk with rfl|rfl
 ·exact h1.lt
 ·exact h2.lt
theorem gK.z(h:gK W b r (Lib.byteCells l))(hl:l≠[]):SbZ W b r l:=by
 have hpos:0<l.length:=List.length_pos_iff.2 hl
 have hbne:=h.ne
 obtain⟨p,v,hb,hp,hown,hr⟩:=h
 rw[ig] at hown
 rcases hown.2 with ⟨hv,h0⟩|⟨g,cap,cur,hv,_,hg,hle,hmx,hcs,htk⟩
 ·omega
 ·subst hv
  refine⟨p,g,cap,hb,⟨cur,_,hg,by omega,by rw[Nat.mul_one] at htk;exact htk⟩,hle,fun e=>hbne (by rw[<-hr];simp[Value.ownBlock,e]),hr.symm⟩
section
variable{P:Program}{ops:Array Oper}{L:List Nat}{a0:Act}{w0:World}{bor:List Nat}{X0:List Ent}{us cr kl:List (List Nat)}
 {D:Nat->(Tmp->Value)->(Tmp->Value)->(Nat->Ent)->Prop}{i:Nat}{o:Oper}{ρ:Operand->Value}{β:Tmp->Value}{W:World}{X:Nat->Ent}
theorem o6{v:Value}{W':World}{q':Nat}{E E':Ent}(hX:X q=E)(hc:atV cr i=[q'])(hk:atV kl i=[q])(hu:Upd E.fp W W')(hh:E'.holds W')(hl:E'.loc)(hf:∀k∈E'.fp,k∈E.fp/\k<W'.heap.size)
  (hD:∀(a c:Tmp->Value) (X':Nat->Ent),(∀t,o.dst≠some t->a t=ρ (.tmp t))->(∀t,o.dst≠some t->c t=β t)->(∀d,o.dst=some d->a d=v/\c d=v)->X' q'=E'->D i a c X'):bX cr kl D i o.dst ρ β W X v W':=by
 subst hX
 refine⟨[E'],by rw[hc];rfl,⟨?_,fun e he=>?_,List.pairwise_singleton _ _⟩,fun a c X' hs' hv hb' hbv hx' hN=>hD a c X' hs' hb' (fun d hd=>⟨hv d hd,hbv d hd⟩) ?_⟩
 ·rw[hk]
  simp only[List.flatMap_cons,List.flatMap_nil,List.append_nil]
  exact hu
 ·rw[List.mem_singleton] at he
  subst he
  refine⟨hh,hl,fun k hk'=>⟨.inl ?_,(hf k hk').2⟩⟩
  rw[hk]
  simpa using (hf k hk').1
 ·rw[hc] at hN
  exact(List.cons.inj hN).1
theorem CtxV.z(cx:CtxV ops L a0 w0 bor X0 us D i ρ β W X)(hX:X q=eZb b r l)(hu:(atV us i).contains q=true):SbZ W b r l:=by
 have h:=(cx.ok q hu).holds
 rw[hX] at h;exact h
theorem w7{x y:Operand}{t u e:TypeId}{q':Nat}{d:Tmp}(he:e=5)(h:o.op= .call {callee:= .builtin .unsafeString,args:=#[x,y],argTypes:=#[t,u]})(ht:P.underlying t=some (.pointer e))(hce:P.cellsOf e=1)
  (hx:ρ x=po g 0) (hy:ρ y= .int .i64 (l.length:Int)) (cx:CtxV ops L a0 w0 bor X0 us D i ρ β W X) (hX:X q=eZr g l) (hu:(atV us i).contains q=true) (hl:l≠[]) (h63:l.length<=9223372036854775807)
  (hd:o.dst=some d) (hc:atV cr i=[q']) (hk:atV kl i=[q]) (hD:∀(a c:Tmp->Value) (X':Nat->Ent),a d= .string ⟨l.toArray⟩->X' q'=eZr g l->D i a c X'):am P o ρ W (bX cr kl D i o.dst ρ β W X):=by
 subst he
 have hz:oW W g l:=by
  have h:=(cx.ok q hu).holds
  rw[hX] at h;exact h
 obtain⟨cur,fz,hg,hle,htk⟩:=id hz
 have hcell:∀(j:Nat) (x:UInt8),l[j]? =some x->W.cell? ((⟨g,0,none⟩:Addr).add j)=some (.int .u8 x.toNat):=fun j x hj=>by
  have hjl:=(List.getElem?_eq_some_iff.1 hj).1
  rw[Addr.add_lit,Nat.zero_add,cell_of_row W g j cur _ _ hg]
  have h5:(cur.toList.take l.length)[j]? =(Lib.byteCells l)[j]? :=by rw[htk]
  rw[List.getElem?_take,if_pos (by omega)] at h5
  rw[<-Array.getElem?_toList,h5]
  simp[Lib.byteCells,hj]
 have hrun:=Lib.run_unsafeString_row (P:=P) (w:=W) t u o.type _ ht hce g cur.size (by unfold World.shape?;rw[hg]) l hl (by omega) h63 hcell
 refine am.value (v:= .string ⟨l.toArray⟩) (w':=W.freeze ⟨g,0,none⟩ l.length) (by
  unfold execOp;rw[h]
  simp only[resolve,invoke,builtin,Sem.run_bind,Sem.run_pure,Result.andThen_ok,List.map_toArray,List.map_cons,List.map_nil,hx,hy,hrun]) ?_
 have hz':=hz.freeze l.length
 exact o6 (E:=eZr g l) (E':=eZr g l) hX hc hk ((Upd.refl _ _).freeze (.inl (by simp[eZr])) _) hz' (vS g l) (fun k hk'=>⟨hk',by simp[eZr] at hk';subst hk';exact hz'.lt⟩) fun a c X' _ _ hv hX'=>hD a c X' (hv d hd).1 hX'
end
theorem St.lentZ{t:Nat}{cs:Array Value}(hb:Blk w b t cs)(hz:oW w g l)(hne:g≠b):St w [b,g] [eB b t cs,eZr g l] w:=by
 refine⟨Upd.refl _ _,fun x hx=>?_,?_⟩
 ·simp only[List.mem_cons,List.not_mem_nil,or_false] at hx
  rcases hx with rfl|rfl
  ·exact⟨hb,d7 _ _ _,fun k hk=>⟨.inl (by simp[eB] at hk;simp[hk]),by simp[eB] at hk;subst hk;exact hb.lt⟩⟩
  ·exact⟨hz,vS _ _,fun k hk=>⟨.inl (by simp[eZr] at hk;simp[hk]),by simp[eZr] at hk;subst hk;exact hz.lt⟩⟩
 ·refine List.pairwise_pair.2 fun k hk hk'=>?_
  simp only[eB,List.mem_cons,List.not_mem_nil,or_false,eZr] at hk hk'
  omega
theorem AK(b:Nat)(r:Option Nat)(l:List UInt8)(w:World)(h:SbZ w b r l)(hl:l≠[])(h63:l.length<=1000000):
  Calls Tryz.prog 125 #[po b 0] w fun e w'=>e= .returned (.string ⟨l.toArray⟩)/\SbZ w' b r l/\Upd (b::r.toList) w w':=by
 have hpos:0<l.length:=List.length_pos_iff.2 hl
 obtain⟨p,g,c,hb,hz,hlc,hne,rfl⟩:=h
 have st0:=St.lentZ hb hz hne
 show Calls _ _ _ w fun e w'=>e= .returned (.string ⟨l.toArray⟩)/\SbZ w' b (some g) l/\Upd [b,g] w w'
 go_enter Tryz.func125,Tryz.ntmps125
 have al:=st0
 refine wq (sqr (sqp [.k 2 (.string ⟨#[]⟩)] ?_))
 refine aa (wq (aH [0,1,3,7,15,0,32,96,224,480,1023,2047] [[],[],[],[0],[],[],[],[],[0],[],[1]] [[],[],[],[],[],[],[],[],[],[],[2]] [[],[],[],[],[],[],[],[],[],[],[1]] [.k 3 (vp b),.k 4 (vp b),.k 5 (po b 1),.c 6 (.slice ((some ⟨g,0,none⟩)) l.length c),.c 7 (vp g),.k 8 (vp b),.k 9 (vp b),.k 10 (po b 1),.c 11 (.slice ((some ⟨g,0,none⟩)) l.length c),.k 12 (vi ((l.length:Int))),.a 13,.c 2 (.string ((⟨l.toArray⟩:ByteArray)))] (fun ix d f X=>match ix with|0|1|2|3|4|5|6|7|8|9=>True|10=>d 13= .string ((⟨l.toArray⟩:ByteArray))/\X 2=eZr g l|_=>True) [0,2] [3,4,8,10,11] [(2,11,1,3),(0,0,11,11)] al ?_ ?_ ?_))
 ·exact fun ix _ _ _ _ _ _ hs hb hx h=>match ix,h with
  |10,h=>by dsimp only;rw[<-hs 13 rfl,<-hx 2 rfl];exact h
  |0,_|1,_|2,_|3,_|4,_|5,_|6,_|7,_|8,_|9,_|_+11,_=>trivial
 ·refine⟨?_,?_,?_,?_,?_,trivial⟩
  ·exact xs4 rfl id fun cx=>ae rfl (by kernel_rfl) (cx.an 2) ((cx.bi 0 rfl).cell 1)
  ·exact xs4 rfl id fun cx=>pN rfl (cx.an 3) (by omega)
  ·exact xs4 rfl id fun cx=>ae rfl (by kernel_rfl) (cx.an 7) ((cx.bi 0 rfl).cell 1)
  ·refine svA fun i f W X cx=>?_
   exact w7 (e:=5) rfl rfl (by kernel_rfl) (by kernel_rfl) (cx.an 4) (cx.an 9) cx (cx.init 1 _ rfl) rfl hl (by omega) rfl rfl rfl (fun d j X' hs hx=>⟨hs,hx⟩)
  ·exact xs4 rfl id fun cx=>dm rfl (dTn (cx.an 10)).1
 intro d f X W2 hD bQ fr aG
 simp only[exq 2 ((dTn (hD 10 lq)).2)] at bQ
 simp only[ed 13 ((dTn (hD 10 lq)).1)] at aG
 clear hD;subst aG;clear d f X
 refine aa (wp_ret ?_)
 refine bpr (.string ((⟨l.toArray⟩:ByteArray))) (ai Tryz.results125 rpt) ?_
 exact⟨rfl,⟨p,g,c,(bQ.ok (eB b 175 #[p,.slice (some ⟨g,0,none⟩) l.length c]) (by simp)).holds,(bQ.ok (eZr g l) (by simp)).holds,hlc,hne,rfl⟩,bQ.upd⟩
def d9(k l:Int)(ss:List ByteArray)(err:Int)(w:World)(e:Ending)(w':World):Prop:=
 ∃A c,e= .returned (.tuple #[.agg #[.int .i64 k,.int .i64 l,.slice A ss.length c],.int .i64 err])/\
  w'.ownsRow w.heap.size 9 1 (.slice A ss.length c) ss.length (ss.map Value.string)/\Ext w w'
def eU(k l:Int)(ss:List ByteArray)(slot:Int)(s:ByteArray)(w:World):Ending->World->Prop:=
 if di k l ss slot s=0 then d9 k l (af (ba ss slot.toNat s)) 0 w else d9 0 0 [] (di k l ss slot s) w
theorem d9.zero{err:Int}(h:Ext w w'):d9 0 0 [] err w (.returned (.tuple #[.agg #[.int .i64 0,.int .i64 0,sn],.int .i64 err])) w':=
 ⟨none,0,rfl,World.ownsRow_nil _ _ _ _,h⟩
theorem eU.bad{k l err:Int}{s:ByteArray}(he:di k l ss slot s=err)(hne:err≠0)(hx:Ext w w'):eU k l ss slot s w (.returned (.tuple #[.agg #[.int .i64 0,.int .i64 0,sn],.int .i64 err])) w':=by
 rw[eU,if_neg (by rw[he];exact hne),he];exact d9.zero hx
theorem eU.good{k l:Int}{s:ByteArray}{e:Ending}(he:di k l ss slot s=0)(h:d9 k l (af (ba ss slot.toNat s)) 0 w e w'):eU k l ss slot s w e w':=by
 rw[eU,if_pos he];exact h
theorem tv(l:List ByteArray):dQ l l.length=l:=by simp[dQ]
theorem vZ{l:List ByteArray}(h:l.length<=n):(dQ l n).length=n:=by simp[dQ];omega
theorem tK{l:List ByteArray}(h:l.length<=n):(dQ l n).map Value.string++[.string ⟨#[]⟩]=(dQ l (n+1)).map Value.string:=by
 rw[dQ,dQ,show n+1-l.length=(n-l.length)+1 by omega,List.replicate_succ',<-List.append_assoc,List.map_append (l₂:=[ByteArray.empty])];rfl
theorem wn{l:List ByteArray}{m:Nat}(h:l.length<=n)(hm:m<n)(h2:n<=m+1\/n=l.length):dQ l n=dQ l (m+1):=by
 rcases h2 with h2|h2
 ·rw[show n=m+1 by omega]
 ·rw[h2,dQ,dQ,show l.length-l.length=0 by omega,show m+1-l.length=0 by omega]
theorem nY(h:dP ss):dP (af ss):=
 ⟨Nat.le_trans (by rw[cu];exact d3 ss _) h.1,fun s hs=>h.2 s (List.mem_of_mem_take hs)⟩
theorem pj{m:Nat}{s:ByteArray}(h:dP ss)(hm:m<24)(hs:s.size<=400)(h24:ss.length<=24):dP (ba ss m s):=by
 have hp:=nY h
 have hpl:(af ss).length<=24:=Nat.le_trans (by rw[cu];exact d3 ss _) h24
 refine⟨?_,fun x hx=>?_⟩
 ·simp only[ba,dQ,List.length_set,List.length_append,List.length_replicate];omega
 ·rcases List.mem_or_eq_of_mem_set hx with hx|hx
  ·rcases List.mem_append.1 hx with hx|hx
   ·exact hp.2 x hx
   ·rw[List.eq_of_mem_replicate hx];exact Nat.zero_le _
  ·subst hx;omega
theorem wI{m:Nat}{s:ByteArray}:(ba ss m s).length=(dQ (af ss) (m+1)).length:=by simp[ba]
theorem Es(k:Int)(w:World):
  Calls Tryz.prog 133 #[.int .i64 k] w (Ret (.agg #[.int .i64 k,.int .i64 0,sn]) w):=by
 go_enter Tryz.func133,Tryz.ntmps133
 have al:=St.start w
 refine wq (sqr (bY #[vi 0,vi 0,sn] al fun bF W1 aA=>?_))
 refine aa (wq (sqr (sqp [.m 3 0,.k 4 (.agg #[vi k,vi 0,sn])] ?_)))
 refine aV (n:=3) 0 #[vi k,vi 0,sn] aA fun W4 be=>?_
 refine aa (wp_ret ?_)
 refine bpr (.agg #[vi k,vi 0,sn]) (bA (n:=3) Tryz.results133 rfl (by kernel_rfl) (by kernel_rfl) (be.blk 0 rfl) rfl) ?_
 exact Ret.of rfl be.ext
theorem v8(k l:Int)(A:Option Addr)(c:Nat)(ss:List ByteArray)(slot:Int)(s:ByteArray)(w:World)(hA:At w A (ss.map Value.string))(hS:dP ss)(hss:s.size<=9223372036854775807):
  Calls Tryz.prog 102 #[.agg #[.int .i64 k,.int .i64 l,.slice A ss.length c],.int .i64 slot,.string s] w (eU k l ss slot s w):=by
 go_enter Tryz.func102,Tryz.ntmps102
 have al:=St.start w
 refine wq (sqr ?_)
 refine ce #[vi k,vi l,.slice A ss.length c] al fun cT W1 aA=>?_
 refine bY #[vi 0,vi 0,sn] aA fun y0 W2 bQ=>?_
 refine sqp [.k 7 (vi 0)] ?_
 refine aa (wq (wq (sqr ?_)))
 refine bE 0 3 bQ ?_
 refine sqk (.bool (bz k l ss)) bQ (fun cx=>⟨_,qv k l _ _ ss _ (hA.ext cx.upd.to_ext) hS,(ax (cx.ou 9))⟩) fun W5 aR=>?_
 refine sqp [.k 11 (.bool (!(bz k l ss)))] ?_
 refine aa ?_
 rcases Bool.eq_false_or_eq_true (bz k l ss) with fF|fF
 ·refine wp_cond_false (show Act.eval _ _= .bool false from(congrArg Value.bool (by rw[fF];rfl))) (wp_skip (aa (wq (wq (sqr (sqp [.m 13 1,.k 14 (.bool (decide (slot<0))),.m 15 14] ?_))))))
  refine sqw 15 [16,17] rfl (fun _=>sqp [.m 16 1,.k 17 (.bool (decide (24<=slot)))] sqe) ?_
  refine sqp [sPo 18 (decide (slot<0)) (decide (24<=slot)),.m 19 18] ?_
  refine sqw 19 [20,21,22] rfl (fun _=>sqp [.m 20 2,.k 21 (vi ((s.size:Int))),.k 22 (.bool (decide (400<(s.size:Int))))] sqe) ?_
  refine sqp [sPo 23 ((decide (slot<0))||(decide (24<=slot))) (decide (400<(s.size:Int)))] ?_
  refine aa (wbs (fun kd=>?_) fun kd=>?_)
  ·have ke:=kd
   simp only[zB] at ke
   refine wq (sqr (sqp [.k 24 (.agg #[vi 0,vi 0,sn])] ?_))
   refine aV (n:=3) 1 #[vi 0,vi 0,sn] aR fun sa ef=>?_
   refine sqp [.k 7 (vi 21)] ?_
   refine aa (wp_ret (aj ?_))
   refine bpr (.tuple #[.agg #[vi 0,vi 0,sn],vi 21]) (aQ Tryz.results102 (rpa (ef.blk 1 rfl) 0 3) rpt) ?_
   exact eU.bad (by rw[di,if_neg (by simp[*]),if_pos (by omega)]) (by decide) ef.ext
  have ke:=kd
  simp only[zB] at ke
  obtain⟨⟨LO,LP⟩,Qf⟩:=ke
  refine wp_skip (aa (wq ?_))
  obtain⟨m,rfl⟩:∃m:Nat,slot=(m:Int):=⟨slot.toNat,by omega⟩
  have hm24:m<24:=by omega
  have aU:s.size<=400:=by omega
  have hpar:=cC (by assumption:bz k l ss=true)
  have hl24:ss.length<=24:=hpar.2.2.1.1
  have hws:=pj hS hm24 aU hl24
  refine sqr (sqp [.k 25 (po cT 2)] ?_)
  refine av 0 aR ?_
  refine sy (fun mR=> .slice mR ((af ss).length) ((af ss).length)) (fun mR=>eO 9 1 (.slice mR ((af ss).length) ((af ss).length)) ((af ss).length) ((af ss).map Value.string)) aR (fun cx=>⟨_,(lp _ _ ss _ (hA.ext cx.upd.to_ext) (by have h_:=(hS).1;omega)).mono (by rintro e W1 ⟨rfl,ho,hx⟩;exact⟨_,rfl,St.one hx (cm ho)⟩),(ax (cx.ou 26))⟩) fun mR sd cM=>?_
  refine sqp [.m 8 27] ?_
  refine aa (wq (wp_block ?_))
  obtain⟨pl,hpl⟩:∃z,af ss=z:=⟨_,rfl⟩
  have hpl24:pl.length<=24:=by rw[<-hpl,cu];exact Nat.le_trans (d3 ss _) hl24
  rw[hpl] at cM
  rw[show eO 9 1 (.slice mR pl.length pl.length) pl.length (pl.map Value.string)=eO 9 1 (.slice mR pl.length pl.length) pl.length ((dQ pl pl.length).map Value.string) from by rw[tv]] at cM
  refine aT (fun t_ mz az W=>∃j:Nat,∃RA:Option Addr,∃RC:Nat,pl.length<=j/\(j<=m+1\/j=pl.length)/\mz=m+1-j/\az=⟨(ovr (jv az) [(8,8,0,[.slice RA j RC]),(19,28,7,[])] t_).toArray,[]⟩/\St w [] [eB cT 48 #[vi k,vi l,.slice A ss.length c],eB y0 48 #[vi 0,vi 0,sn],eO 9 1 (.slice RA j RC) j ((dQ pl j).map Value.string)] W) (m+1-pl.length) ?_ ?_
  ·
   exact⟨pl.length,mR,pl.length,Nat.le_refl _,.inr rfl,rfl,(by rw[hpl];rfl),cM.pk [0,1,2]⟩
  rintro Ts a27 Bp ⟨j,RA,RC,hj,hj2,rfl,hj_,fx⟩
  refine ovz hj_ fun RP=>?_
  refine wq (wq (sqr (sqp [.m 28 8,.k 29 (vi ((j:Int))),.m 30 1,.k 31 (.bool (decide ((j:Int)<=(m:Int))))] ?_)))
  refine aa (wds (fun g0 kR=>?_) fun g0 kR=>?_)
  ·refine wp_skip (aa (wp_block (sqr (sqp [.m 32 8] ?_))))
   refine ej (fun x_=>sA x_) (fun uA=> .slice uA 1 1) (fun uA=>eO 9 1 (.slice uA 1 1) 1 ([.string ⟨#[]⟩])) fx (by
     refine svA fun i d W X cx=>?_
     exact du (e:=9) (xs:=[.string ⟨#[]⟩]) rfl (by simp[go_sem,cx.sees.const]) rfl (by decide) rfl rfl (fun _ _ _ _ _=> .intro)) fun uA uB dG=>?_
   refine sQ (fun x_=>sA x_) (fun x_=>sC x_) (fun qG qH=> .slice qG (j+1) qH) (fun qG qH=>eO 9 1 (.slice qG (j+1) qH) (j+1) ((dQ pl (j+1)).map Value.string)) 2 dG (by
     refine svA fun i d W X cx=>?_
     obtain⟨i0,hi0,hz0,hz1,hz2⟩:=info_parts Tryz.infoStr
     refine eH (n:=j) (m:=1) (nm:=j+1) (xs:=(dQ pl j).map Value.string) (news:=[.string ⟨#[]⟩]) (xs':=(dQ pl (j+1)).map Value.string) rfl (ty:=46) rfl (by kernel_rfl) hi0 hz0 hz1 hz2 rfl (cx.ou 32) cx (cx.init 2 _ rfl) rfl (cx.ou 33) (by first|(simp;done)|(simp;omega)) (At.of_own (cx.ri 3 rfl)) (by simp[Value.oneCell']) (by simp only[maxLen];omega) (by omega) rfl rfl rfl (by omega) (tK hj) (fun f o X' hs hb hv hx=>?_)
     exact⟨hv,hx⟩) fun qG qH y3 ew=>?_
   refine sqp [.m 8 34] ?_
   refine aw (aa ?_)
   refine⟨m+1-((j+1)),by omega,?_⟩
   exact⟨(j+1),qG,qH,by omega,by omega,rfl,(by kernel_rfl),ew.pk [0,1,2]⟩
  refine wp_exit (au (au (bh (aa (wq ?_)))))
  have hje:=wn hj (show m<j by omega) hj2
  have hjl:=vZ hj
  rw[hje] at fx
  rw[hje] at hjl
  refine sqr (sqp [.m 35 8,.m 36 1,.m 37 2] ?_)
  refine sql (.pointer (some ((ad RA).add m))) fx (fun cx=>bS (e:=9) (m:=m) rfl (by kernel_rfl) (by kernel_rfl) (cx.ou 35) (cx.ou 36) (by omega) (by omega) (At.of_own (cx.ri 2 rfl)) ((by simp only[List.length_map];exact hjl))) ?_
  refine sqc (eO 9 1 (.slice RA j RC) j ((ba ss m s).map Value.string)) 2 fx (by
    refine svA fun i d W X cx=>?_
    exact kO (m:=m) (n:=j) rfl (cx.ou 38) (show _=Value.string s from(cx.ou 37)) (by kernel_rfl) rfl rfl cx (cx.init 2 _ rfl) rfl (by omega) rfl (by rw[<-List.map_set,<-hpl];rfl) rfl rfl (fun _ _ _ _ _=>id)) fun Fd gp=>?_
  refine aa (wq (wq ?_))
  have hwl:(ba ss m s).length=j:=by rw[wI,hpl];exact hjl
  subst hwl
  refine sqr (sqp [.m 39 8] ?_)
  refine sqk (vi ((cK (ba ss m s):Int))) gp (fun cx=>⟨_,yh _ _ (ba ss m s) _ (At.of_own (cx.ri 2 rfl)) hws,(ax (cx.ou 39))⟩) fun LQ l5=>?_
  refine sqp [.k 41 (.bool (decide (512<(cK (ba ss m s):Int))))] ?_
  refine aa (wds (fun H2 CA=>?_) fun H2 CA=>?_)
  ·refine wq (sqr (sqp [.k 42 (.agg #[vi 0,vi 0,sn])] ?_))
   refine aV (n:=3) 1 #[vi 0,vi 0,sn] l5 fun LR gr=>?_
   refine sqp [.k 7 (vi 20)] ?_
   refine aa (wp_ret (aj ?_))
   refine bpr (.tuple #[.agg #[vi 0,vi 0,sn],vi 20]) (aQ Tryz.results102 (rpa (gr.blk 1 rfl) 0 3) rpt) ?_
   exact eU.bad (by rw[di,if_neg (by simp[*]),if_neg (by omega),if_pos (by rw[Int.toNat_natCast];omega)]) (by decide) gr.ext
  refine wp_skip (aa (wq (aH [0,1,0,4,0,16,63,127,255] [[],[0],[],[0],[],[2],[],[1]] [[],[],[],[],[],[3],[],[4]] [[],[],[],[],[],[],[],[1]] [.k 43 (vp cT),.c 44 (vi k),.k 45 (po cT 1),.c 46 (vi l),.k 47 (.slice RA ((ba ss m s).length) RC),.a 48,.a 49,.n,.k 7 (vi 0)] (fun ix f d X=>match ix with|0|1|2|3|4=>True|5=>f 48= .slice (sA (d 48)) ((af (ba ss m s)).length) ((af (ba ss m s)).length)/\X 3=eO 9 1 (.slice (sA (d 48)) ((af (ba ss m s)).length) ((af (ba ss m s)).length)) ((af (ba ss m s)).length) ((af (ba ss m s)).map Value.string)|6=>f 49= .agg #[vi k,vi l,.slice (sA (d 48)) ((af (ba ss m s)).length) ((af (ba ss m s)).length)]|7=>X 4=eB y0 48 #[vi k,vi l,.slice (sA (d 48)) ((af (ba ss m s)).length) ((af (ba ss m s)).length)]|_=>True) [0,2,3,4] [1,3,5,6,7] [(7,8,1,8),(35,0,7,42)] l5 ?_ ?_ ?_)))
  ·exact fun ix _ _ _ _ _ _ hs hb hx h=>match ix,h with
   |5,h=>by dsimp only;rw[<-hs 48 rfl,<-hb 48 rfl,<-hx 3 rfl];exact h
   |6,h=>by dsimp only;rw[<-hs 49 rfl,<-hb 48 rfl];exact h
   |7,h=>by dsimp only;rw[<-hb 48 rfl,<-hx 4 rfl];exact h
   |0,_|1,_|2,_|3,_|4,_|_+8,_=>trivial
  ·refine⟨?_,?_,?_,?_,?_,trivial⟩
   ·exact xs4 rfl id fun cx=>ae rfl (by kernel_rfl) (cx.an 0) ((cx.bi 0 rfl).cell 0)
   ·exact xs4 rfl id fun cx=>ae rfl (by kernel_rfl) (cx.an 2) ((cx.bi 0 rfl).cell 1)
   ·refine svA fun i d W X cx=>?_
    refine am.call (aq (args:=#[.slice RA ((ba ss m s).length) RC]) rfl cx.sees rfl (by kernel_rfl) (ax (cx.an 4))) ?_
    refine(lp _ _ (ba ss m s) _ (At.of_own (cx.ri 2 rfl)) (by have h_:=(hws).1;omega)).mono ?_
    rintro e W1 ⟨rfl,ho,hx⟩
    refine⟨_,rfl,bL [eO 9 1 (.slice (some ⟨W.heap.size,0,none⟩) ((af (ba ss m s)).length) ((af (ba ss m s)).length)) ((af (ba ss m s)).length) ((af (ba ss m s)).map Value.string)] rfl rfl hx (one_new (cm ho)) (List.pairwise_singleton _ _) (fun f o X' hs hb hv hN=>?_)⟩
    have aK:=(hv 48 rfl).1;have aW:=(hv 48 rfl).2
    exact⟨aK.trans (by rw[aW];exact rfl),(by rw[aW];exact(List.cons.inj hN).1)⟩
   ·exact sv rfl rfl rfl rfl rfl _ (fun _ _ _ h=>h) (fun d o h=>by rw[h 48 (by decide)]) fun i d W X cx=>jX rfl (pmc (cx.an 1) (pmc (cx.an 3) (pmc (dTn (cx.an 5)).1 pmn))) (by kernel_rfl)
   ·refine svA fun i d W X cx=>?_
    exact bx (n:=3) rfl (cx.ou 6) (dTn (cx.an 6)) (by kernel_rfl) (by kernel_rfl) (by kernel_rfl) cx (cx.init 1 _ rfl) rfl (nle rfl) (by kernel_rfl) rfl rfl rfl (fun f o X' hs hb hx=>by rw[hb 48];exact hx)
  intro f d X LS hD ey fr aG
  simp only[exq 3 ((dTn (hD 5 lq)).2),exq 4 ((dTn (hD 7 lq)))] at ey
  simp only[ed 48 ((dTn (hD 5 lq)).1),ed 49 ((dTn (hD 6 lq)))] at aG
  generalize sA (d 48)=LU at ey aG
  clear hD;subst aG;clear f d X
  refine aa (wp_ret ?_)
  refine bpr (.tuple #[.agg #[vi k,vi l,.slice LU ((af (ba ss m s)).length) ((af (ba ss m s)).length)],vi 0]) (aQ Tryz.results102 (rpa (ey.blk 3 rfl) 0 3) rpt) ?_
  exact eU.good (by rw[di,if_neg (by simp[*]),if_neg (by omega),if_neg (by rw[Int.toNat_natCast];omega)]) ⟨_,_,by rw[Int.toNat_natCast],by rw[Int.toNat_natCast];exact ey.own' 2 rfl,ey.ext⟩
 refine wp_cond_true (show Act.eval _ _= .bool true from(congrArg Value.bool (by rw[fF];rfl))) (wq (sqr (sqp [.k 12 (.agg #[vi 0,vi 0,sn])] ?_)))
 refine aV (n:=3) 1 #[vi 0,vi 0,sn] aR fun IP kT=>?_
 refine sqp [.k 7 (vi 22)] ?_
 refine aa (wp_ret (aj ?_))
 refine bpr (.tuple #[.agg #[vi 0,vi 0,sn],vi 22]) (aQ Tryz.results102 (rpa (kT.blk 1 rfl) 0 3) rpt) ?_
 exact eU.bad (by rw[di,if_pos (by assumption)]) (by decide) kT.ext
theorem gK.is{xs:List Value}(h:gK w b r xs):Lib.IsBuilderF 175 5 0 b xs w:=by
 obtain⟨p,v,h2,h3,h4,h5⟩:=h
 have hne:=oo h4 h2 (by decide)
 refine Lib.IsBuilderF.of ?_
 rcases h3 with rfl|rfl
 ·exact .inl ⟨Nat.zero_le _,v,h2,h4,hne⟩
 ·exact .inr ⟨Nat.zero_le _,v,h2,h4,hne⟩
theorem Kn(b:Nat)(r:Option Nat)(l:List UInt8)(w:World)(h:gK w b r (Lib.byteCells l)):Calls Tryz.prog 124 #[po b 0] w (Ret (.int .i64 (l.length:Int)) w):=
 (Tryz.Builder_Len_f 0 b _ w h.is).mono fun _ _ h=>⟨by rw[h.1,ig],by rw[h.2];exact Ext.refl _⟩
theorem yc(n:Nat):Lib.repeatL [0] n=List.replicate n (0:UInt8):=by
 induction n with
 |zero=>rfl
 |succ n ih=>rw[Lib.repeatL,ih,List.replicate_succ];rfl
def cO(n:Nat):ByteArray:=⟨(List.replicate n (0:UInt8)).toArray⟩
theorem mQ(n:Nat):(cO n).data.toList=List.replicate n 0:=rfl
theorem gy(n:Nat):(cO n).size=n:=by simp[cO,ByteArray.size]
theorem Gv(n:Nat)(w:World)(h:n<=1000000):Calls Tryz.prog 123 #[.string ⟨#[0]⟩,.int .i64 (n:Int)] w (Ret (.string (cO n)) w):=by
 refine(Tryz.strings_Repeat ⟨#[0]⟩ n w (by omega) (by show 1*n<= _;omega)).mono ?_
 rintro e w' ⟨rfl,hx⟩
 refine⟨?_,hx⟩
 have e1:(⟨#[0]⟩:ByteArray).data.toList=[0]:=rfl
 rw[e1,yc];rfl
theorem Lv(x:Int)(n:Nat)(w:World)(h:n<=1000000)(hx:x=n):Calls Tryz.prog 123 #[.string ⟨#[0]⟩,.int .i64 x] w (Ret (.string (cO n)) w):=by
 rw[hx];exact Gv n w h
theorem Gq{s:ByteArray}(h:s.size<=400):(aX s).size<=402:=by
 have:=aF (s.size:Int) 2 (by omega)
 rw[aX,ByteArray.size_append,this];omega
def fE(k l:Int)(ss:List ByteArray)(w:World):Ending->World->Prop:=
 if bz k l ss=true then Ret (.tuple #[.string (bP k l (af ss)),.int .i64 0]) w else Ret (.tuple #[.string ⟨#[]⟩,.int .i64 22]) w
theorem EB{k l:Int}(hr:bz k l ss=true)(hx:Ext w w'):fE k l ss w (.returned (.tuple #[.string (ag (aY (bH (bU k l (af ss))):Int) 4++bH (bU k l (af ss))),.int .i64 0])) w':=by
 rw[fE,if_pos hr];exact⟨rfl,hx⟩
theorem nR(k l:Int)(A:Option Addr)(c:Nat)(ss:List ByteArray)(w:World)(hA:At w A (ss.map Value.string))(hS:dP ss):
  Calls Tryz.prog 56 #[.agg #[.int .i64 k,.int .i64 l,.slice A ss.length c]] w (fE k l ss w):=by
 go_enter Tryz.func56,Tryz.ntmps56
 have al:=St.start w
 refine wq (sqr ?_)
 refine ce #[vi k,vi l,.slice A ss.length c] al fun aB W1 aA=>?_
 refine sqp [.k 2 (.string ⟨#[]⟩),.k 3 (vi 0)] ?_
 refine aa (wq (wq (sqr ?_)))
 refine bE 0 3 aA ?_
 refine sqk (.bool (bz k l ss)) aA (fun cx=>⟨_,qv k l _ _ ss _ (hA.ext cx.upd.to_ext) hS,(ax (cx.ou 8))⟩) fun W5 aR=>?_
 refine sqp [.k 10 (.bool (!(bz k l ss)))] ?_
 refine aa ?_
 rcases Bool.eq_false_or_eq_true (bz k l ss) with fF|fF
 ·refine wp_cond_false (show Act.eval _ _= .bool false from(congrArg Value.bool (by rw[fF];rfl))) (wp_skip (aa (wq (sqr (bY #[.pointer none,sn] aR fun iP W8 dO=>?_)))))
  refine aa (wq (sqr (sqp [.k 11 (po aB 2)] ?_)))
  refine av 0 dO ?_
  refine sy (fun mS=> .slice mS ((af ss).length) ((af ss).length)) (fun mS=>eO 9 1 (.slice mS ((af ss).length) ((af ss).length)) ((af ss).length) ((af ss).map Value.string)) dO (fun cx=>⟨_,(lp _ _ ss _ (hA.ext cx.upd.to_ext) (by have h_:=(hS).1;omega)).mono (by rintro e W1 ⟨rfl,ho,hx⟩;exact⟨_,rfl,St.one hx (cm ho)⟩),(ax (cx.ou 12))⟩) fun mS Bq fi=>?_
  refine sqp [.m 5 13] ?_
  refine aa (wq ?_)
  have hpar:=cC (by assumption:bz k l ss=true)
  have hT:6+aO (af ss)<=504:=by have h_:=hpar.2.2.2;rw[cK] at h_;omega
  have hpn:(af ss).length<=24:=by rw[cu];exact Nat.le_trans (d3 ss _) hpar.2.2.1.1
  have pS:=aF k 1 (by omega)
  have oA:=aF l 4 (by omega)
  have LV:=aF ((af ss).length:Int) 1 (by omega)
  have y4:((ag k 1)++(ag l 4)).size=5:=by rw[ByteArray.size_append,pS,oA]
  have Qg:(((ag k 1)++(ag l 4))++(ag ((af ss).length:Int) 1)).size=6:=by rw[ByteArray.size_append,LV,y4]
  refine aH [0,1,3,0,8,31,63,0,128,447,1023,2047] [[],[0],[],[],[0],[],[],[],[],[],[],[1]] [[],[],[],[],[],[],[],[],[],[],[],[3]] [[],[],[],[],[],[],[],[],[],[],[],[1]] [.k 14 (vp aB),.c 15 (vi k),.c 16 (.string (ag k 1)),.k 17 (po aB 1),.c 18 (vi l),.c 19 (.string (ag l 4)),tS 20 (ag k 1) (ag l 4) (by omega),.k 21 (.slice mS ((af ss).length) ((af ss).length)),.k 22 (vi (((af ss).length:Int))),.c 23 (.string (ag ((af ss).length:Int) 1)),tS 24 ((ag k 1)++(ag l 4)) (ag ((af ss).length:Int) 1) (by omega),.a 25] (fun ix d f X=>match ix with|0|1|2|3|4|5|6|7|8|9|10=>True|11=>d 25= .tuple #[vi (((((ag k 1)++(ag l 4))++(ag ((af ss).length:Int) 1)).size:Int)),.nilIface]/\X 3=eBu iP (rO (X 3)) ((((ag k 1)++(ag l 4))++(ag ((af ss).length:Int) 1)).data.toList)|_=>True) [0,2,3] [1,2,4,5,9,11] [(14,0,12,26)] fi ?_ ?_ ?_
  ·exact fun ix _ _ _ _ _ _ hs hb hx h=>match ix,h with
   |11,h=>by dsimp only;rw[<-hs 25 rfl,<-hx 3 rfl];exact h
   |0,_|1,_|2,_|3,_|4,_|5,_|6,_|7,_|8,_|9,_|10,_|_+12,_=>trivial
  ·refine⟨?_,?_,?_,?_,?_,?_,trivial⟩
   ·exact xs4 rfl id fun cx=>ae rfl (by kernel_rfl) (cx.an 0) ((cx.bi 0 rfl).cell 0)
   ·exact xsc rfl id rfl rfl fun cx=>⟨_,qy k _,(aP (cx.an 1) (cx.co _))⟩
   ·exact xs4 rfl id fun cx=>ae rfl (by kernel_rfl) (cx.an 3) ((cx.bi 0 rfl).cell 1)
   ·exact xsc rfl id rfl rfl fun cx=>⟨_,lg l _,(aP (cx.an 4) (cx.co _))⟩
   ·exact xsc rfl id rfl rfl fun cx=>⟨_,qy ((af ss).length:Int) _,(aP (cx.an 8) (cx.co _))⟩
   ·refine svA fun i f W X cx=>?_
    refine am.call (aq (args:=#[vp iP,.string (((ag k 1)++(ag l 4))++(ag ((af ss).length:Int) 1))]) rfl cx.sees rfl (by kernel_rfl) (aP (cx.ou 4) (cx.an 10))) ?_
    refine(xj _ _ [] _ _ (gK.fresh (cx.bi 1 rfl)) (by simp only[List.length_append,List.length_nil,gg,dF,ByteArray.size_append,gy,mQ,List.length_replicate];omega)).mono ?_
    rintro e W1 ⟨rfl,hu⟩
    refine⟨_,rfl,oq (by rw[(cx.init 1 _ rfl)];rfl) rfl rfl hu (fun d o X' hs hb hv hx=>?_)⟩
    exact⟨(hv 25 rfl).1,hx⟩
  intro d f X IQ hD je fr aG
  have LW:X 3= _:=(dTn (hD 11 lq)).2
  obtain⟨NS,y5⟩:∃z,rO (X 3)=z:=⟨_,rfl⟩
  rw[y5] at LW
  clear y5
  simp only[LW] at je
  simp only[ed 25 ((dTn (hD 11 lq)).1)] at aG
  clear hD LW;subst aG;clear d f X
  refine aa (wq (wq (sqr (sqp [.m 26 5,.k 27 (vi (((af ss).length:Int))),.k 28 (vi 0)] ?_))))
  refine aa (wp_block ?_)
  have hh0:(((ag k 1)++(ag l 4))++(ag ((af ss).length:Int) 1)).data.toList=b9 k l (af ss).length++bg ((af ss).take 0):=by simp[b9,bg,bl]
  rw[hh0] at je
  refine aT (fun t_ mz az W=>∃j:Nat,∃rb:Option Nat,j<=(af ss).length/\mz=(af ss).length-j/\az=⟨(ovr (jv az) [(7,7,1,[]),(20,28,0,[vi ((j:Int))]),(0,29,7,[])] t_).toArray,[]⟩/\St w [] [eB aB 48 #[vi k,vi l,.slice A ss.length c],eO 9 1 (.slice mS ((af ss).length) ((af ss).length)) ((af ss).length) ((af ss).map Value.string),eBu iP rb (b9 k l (af ss).length++bg ((af ss).take j))] W) ((af ss).length-0) ?_ ?_
  ·
   exact⟨0,NS,by omega,rfl,(by kernel_rfl),je.pk [0,1,2]⟩
  rintro Qh a17 uC ⟨j,rb,hj,rfl,hj_,dS⟩
  refine ovz hj_ fun O8=>?_
  have hil:=lI (af ss) j
  refine wq (sqr (sqp [.k 29 (.bool (decide ((j:Int)<((af ss).length:Int))))] ?_))
  refine aa (wq (wds (fun kd ke=>?_) fun kd ke=>?_))
  ·refine wp_skip (aa (wq (wp_block (wq (sqr ?_)))))
   refine sql (.pointer (some ((ad mS).add j))) dS (fun cx=>bS (e:=9) (m:=j) rfl (by kernel_rfl) (by kernel_rfl) (cx.ou 26) (cx.ou 28) (by omega) (by omega) (At.of_own (cx.ri 1 rfl)) (by simp)) ?_
   refine sql (.string (((af ss)).getD j ByteArray.empty)) dS (fun cx=>ae rfl (by kernel_rfl) (cx.ou 30) (At.cellAd (At.of_own (cx.ri 1 rfl)) (mH (by omega)))) ?_
   refine sqp [.m 7 31] ?_
   refine aa ?_
   have hx4:((af ss).getD j ByteArray.empty).size<=400:=by have h_:=hpar.2.2.1.2 ((af ss)[j]'(by omega)) (List.mem_of_mem_take (List.getElem_mem _));simpa[show j<(af ss).length by omega] using h_
   have hto:=Gq hx4
   refine sqr (sqp [.m 32 7] ?_)
   refine sqk (.string (aX (((af ss)).getD j ByteArray.empty))) dS (fun cx=>⟨_,lj (((af ss)).getD j ByteArray.empty) _ (by omega),(ax (cx.ou 32))⟩) fun y6 e9=>?_
   refine bN (fun X_=>rO X_) (.tuple #[vi (((aX (((af ss)).getD j ByteArray.empty)).size:Int)),.nilIface]) (fun CB=>eBu iP CB ((b9 k l (af ss).length++bg ((af ss).take j))++(aX (((af ss)).getD j ByteArray.empty)).data.toList)) 2 e9 (by
     refine svA fun i f W X cx=>?_
     refine am.call (aq (args:=#[vp iP,.string (aX (((af ss)).getD j ByteArray.empty))]) rfl cx.sees rfl (by kernel_rfl) (aP (cx.ou 4) (cx.ou 33))) ?_
     refine(xj _ _ (b9 k l (af ss).length++bg ((af ss).take j)) _ _ (cx.sb (cx.init 2 _ rfl) rfl) (by simp only[List.length_append,List.length_nil,gg,dF,ByteArray.size_append,gy,mQ,List.length_replicate];omega)).mono ?_
     rintro e W1 ⟨rfl,hu⟩
     refine⟨_,rfl,oq (by rw[(cx.init 2 _ rfl)];rfl) rfl rfl hu (fun d o X' hs hb hv hx=>?_)⟩
     exact⟨(hv 34 rfl).1,hx⟩) fun CB sd cM=>?_
   refine aw (aa (sqr (sqp [sI 35 ((j:Int)+1) (by omega),.m 28 35] ?_)))
   refine aa ?_
   have hq28:(b9 k l (af ss).length++bg ((af ss).take j))++(aX (((af ss)).getD j ByteArray.empty)).data.toList=b9 k l (af ss).length++bg ((af ss).take (j+1)):=by rw[nP _ j (by omega),<-List.append_assoc];simp[bl,aX,jw,show j<(af ss).length by omega]
   rw[hq28] at cM
   refine⟨(af ss).length-((j+1)),by omega,?_⟩
   exact⟨(j+1),CB,by omega,rfl,(by kernel_rfl),cM.pk [0,1,2]⟩
  refine wp_exit (au (au (bh (aa (wq ?_)))))
  have hje:j=(af ss).length:=by omega
  have hq29:b9 k l (af ss).length++bg ((af ss).take j)=b9 k l (af ss).length++bg (af ss):=by rw[hje,List.take_length]
  rw[hq29] at dS
  have hL6:(b9 k l (af ss).length++bg (af ss)).length=6+aO (af ss):=by rw[List.length_append,gg,dF]
  refine sqr (sqk (vi (((b9 k l (af ss).length++bg (af ss)).length:Int))) dS (fun cx=>⟨_,Kn _ _ (b9 k l (af ss).length++bg (af ss)) _ (cx.sb (cx.init 2 _ rfl) rfl),(ax (cx.ou 4))⟩) fun Fe jx=>?_)
  refine sqp [sI 37 (504-((b9 k l (af ss).length++bg (af ss)).length:Int)) (by omega)] ?_
  refine sqk (.string (cO (504-(6+aO (af ss))))) jx (fun cx=>⟨_,Lv (504-((b9 k l (af ss).length++bg (af ss)).length:Int)) (504-(6+aO (af ss))) _ (by omega) (by simp only[List.length_append,gg,dF];omega),(aP (cx.co _) (cx.ou 37))⟩) fun y7 dc=>?_
  refine bN (fun X_=>rO X_) (.tuple #[vi (((cO (504-(6+aO (af ss)))).size:Int)),.nilIface]) (fun uD=>eBu iP uD ((b9 k l (af ss).length++bg (af ss))++(cO (504-(6+aO (af ss)))).data.toList)) 2 dc (by
    refine svA fun i f W X cx=>?_
    refine am.call (aq (args:=#[vp iP,.string (cO (504-(6+aO (af ss))))]) rfl cx.sees rfl (by kernel_rfl) (aP (cx.ou 4) (cx.ou 38))) ?_
    refine(xj _ _ (b9 k l (af ss).length++bg (af ss)) _ _ (cx.sb (cx.init 2 _ rfl) rfl) (by simp only[List.length_append,List.length_nil,gg,dF,ByteArray.size_append,gy,mQ,List.length_replicate];omega)).mono ?_
    rintro e W1 ⟨rfl,hu⟩
    refine⟨_,rfl,oq (by rw[(cx.init 2 _ rfl)];rfl) rfl rfl hu (fun d o X' hs hb hv hx=>?_)⟩
    exact⟨(hv 39 rfl).1,hx⟩) fun uD OM rG=>?_
  refine aa (wq (sqr (sqp [.k 40 (po aB 1)] ?_)))
  refine av 0 rG ?_
  refine sqk (.string (ag l 4)) rG (fun cx=>⟨_,lg l _,(aP (cx.ou 41) (cx.co _))⟩) fun Br fj=>?_
  refine bN (fun X_=>rO X_) (.tuple #[vi (((ag l 4).size:Int)),.nilIface]) (fun nD=>eBu iP nD (((b9 k l (af ss).length++bg (af ss))++(cO (504-(6+aO (af ss)))).data.toList)++(ag l 4).data.toList)) 2 fj (by
    refine svA fun i f W X cx=>?_
    refine am.call (aq (args:=#[vp iP,.string (ag l 4)]) rfl cx.sees rfl (by kernel_rfl) (aP (cx.ou 4) (cx.ou 42))) ?_
    refine(xj _ _ ((b9 k l (af ss).length++bg (af ss))++(cO (504-(6+aO (af ss)))).data.toList) _ _ (cx.sb (cx.init 2 _ rfl) rfl) (by simp only[List.length_append,List.length_nil,gg,dF,ByteArray.size_append,gy,mQ,List.length_replicate];omega)).mono ?_
    rintro e W1 ⟨rfl,hu⟩
    refine⟨_,rfl,oq (by rw[(cx.init 2 _ rfl)];rfl) rfl rfl hu (fun d o X' hs hb hv hx=>?_)⟩
    exact⟨(hv 43 rfl).1,hx⟩) fun nD IR g9=>?_
  refine aa (wq ?_)
  have hq38:((b9 k l (af ss).length++bg (af ss))++(cO (504-(6+aO (af ss)))).data.toList)++(ag l 4).data.toList=bU k l (af ss):=rfl
  rw[hq38] at g9
  have hbl:=qg k l (af ss) hT
  have hbne:bU k l (af ss)≠[]:=fun h=>by rw[h] at hbl;simp at hbl
  have hsl:=ir (bH (bU k l (af ss)))
  have Tt:=aF (aY (bH (bU k l (af ss))):Int) 4 (by omega)
  have Tu:(bH (bU k l (af ss))).size=508:=by rw[lv,hbl]
  refine sqr ?_
  refine fO (.string (bH (bU k l (af ss)))) (eZb iP nD (bU k l (af ss))) 2 g9 (by
    refine svA fun i f W X cx=>?_
    refine am.call (aq (args:=#[vp iP]) rfl cx.sees rfl (by kernel_rfl) (ax (cx.ou 4))) ?_
    refine(AK _ _ (bU k l (af ss)) _ (gK.z (cx.sb (cx.init 2 _ rfl) rfl) hbne) hbne (by omega)).mono ?_
    rintro e W1 ⟨rfl,hz,hu⟩
    refine⟨_,rfl,o6 (E:=eBu iP nD (bU k l (af ss))) (E':=eZb iP nD (bU k l (af ss))) (cx.init 2 _ rfl) rfl rfl hu hz (Bk _ _ _) (fun k hk=>⟨hk,hz.lt k hk⟩) (fun d o X' hs hb hv hx=>?_)⟩
    exact⟨(hv 44 rfl).1,hx⟩) fun pT dd=>?_
  refine sqk (.int .u32 ((aY (bH (bU k l (af ss))):Int))) dd (fun cx=>⟨_,mP (bH (bU k l (af ss))) _ (by rw[lv];omega),(ax (cx.ou 44))⟩) fun se dz=>?_
  refine sqp [sW 46 .i64 (aY (bH (bU k l (af ss))):Int) (aY (bH (bU k l (af ss))):Int) (IntWalk.i64_in _ (by omega))] ?_
  refine sqk (.string (ag (aY (bH (bU k l (af ss))):Int) 4)) dz (fun cx=>⟨_,lg (aY (bH (bU k l (af ss))):Int) _,(aP (cx.ou 46) (cx.co _))⟩) fun uE fk=>?_
  refine fO (.string (bH (bU k l (af ss)))) (eZb iP nD (bU k l (af ss))) 2 fk (by
    refine svA fun i f W X cx=>?_
    refine am.call (aq (args:=#[vp iP]) rfl cx.sees rfl (by kernel_rfl) (ax (cx.ou 4))) ?_
    refine(AK _ _ (bU k l (af ss)) _ (cx.z (cx.init 2 _ rfl) rfl) hbne (by omega)).mono ?_
    rintro e W1 ⟨rfl,hz,hu⟩
    refine⟨_,rfl,o6 (E:=eZb iP nD (bU k l (af ss))) (E':=eZb iP nD (bU k l (af ss))) (cx.init 2 _ rfl) rfl rfl hu hz (Bk _ _ _) (fun k hk=>⟨hk,hz.lt k hk⟩) (fun d o X' hs hb hv hx=>?_)⟩
    exact⟨(hv 48 rfl).1,hx⟩) fun LQ l5=>?_
  refine sqp [sS 49 (ag (aY (bH (bU k l (af ss))):Int) 4) (bH (bU k l (af ss))) (by omega),.m 2 49,.k 3 (vi 0)] ?_
  refine aa (wp_ret ?_)
  refine bpr (.tuple #[.string ((ag (aY (bH (bU k l (af ss))):Int) 4)++(bH (bU k l (af ss)))),vi 0]) (aQ Tryz.results56 rpt rpt) ?_
  exact EB (by assumption) l5.ext
 refine wp_cond_true (show Act.eval _ _= .bool true from(congrArg Value.bool (by rw[fF];rfl))) (wq (sqr (sqp [.k 2 (.string ⟨#[]⟩),.k 3 (vi 22)] ?_)))
 refine aa (wp_ret (aj ?_))
 refine bpr (.tuple #[.string ⟨#[]⟩,vi 22]) (aQ Tryz.results56 rpt rpt) ?_
 show fE k l ss w _ _;rw[fE,fF];exact⟨rfl,aR.ext⟩
structure Says (s:ByteArray) (k l:Int) (I:List ByteArray):Prop where
 size:s.size=512
 sum:aL s 0 4=aY (s.extract 4 512)
 lsn2:s.extract 5 9=s.extract 508 512
 kind:(aL s 4 1:Int)=k
 lsn:(aL s 5 4:Int)=l
 many:aL s 9 1=I.length
 text:∀j,j<I.length->10+aO (I.take j)+2<=s.size/\10+aO (I.take j)+2+aL s (10+aO (I.take j)) 2<=s.size/\eN s (10+aO (I.take j))=I.getD j ByteArray.empty/\10+aO (I.take j)+2+aL s (10+aO (I.take j)) 2=10+aO (I.take (j+1))
 right:bz k l I=true
 bytes:bP k l (af I)=s
 plain:af I=I
theorem r6{k l:Int}(hr:bz k l ss=true):bz k l (af ss)=true:=by
 obtain⟨hk,hl,⟨h24,h400⟩,h512⟩:=cC hr
 have hln:(af ss).length<=24:=by rw[cu];have:=d3 ss ss.length;omega
 have hz:cK (af ss)=cK ss:=by rw[cK,iw,cK]
 have hlg:fX (af ss)=false:=by
  rcases h:fX (af ss) with _|_
  ·rfl
  ·rw[fX,List.any_eq_true] at h
   obtain⟨x,hx,h⟩:=h
   have:=h400 x (List.mem_of_mem_take hx)
   simp at h;omega
 simp[bz,hk,hl,hln,hlg,hz,h512]
theorem tx{k l:Int}(hr:bz k l ss=true):Says (bP k l (af ss)) k l (af ss):=by
 obtain⟨hk,hl,⟨h24,h400⟩,h512⟩:=cC hr
 have hT:6+aO (af ss)<=504:=by rw[cK] at h512;omega
 have hln:(af ss).length<=24:=by rw[cu];have:=d3 ss ss.length;omega
 refine⟨rX k l _ hT,by rw[Ej,B6 k l _ hT],by rw[Ag,Dy k l _ hT],B9 k l _ hk.1 (by omega),El k l _ hl.1 (by omega),Ca k l _ (by omega),fun j hj=>?_,r6 hr,by rw[iw],iw ss⟩
 have h:=By k l _ hT j hj
 exact⟨h.1,h.2.1,by rw[h.2.2.1];simp[hj],h.2.2.2⟩
theorem jC(s:ByteArray)(p:Nat):aL s p 4<4294967296:=by
 have h:=ot (s.extract p (p+4)).data.toList
 have h2:(s.extract p (p+4)).data.toList.length<=4:=by
  have:(s.extract p (p+4)).size<=4:=by rw[ByteArray.size_extract];omega
  show (bl (s.extract p (p+4))).length<=4
  rw[bO];exact this
 have h3:(256:Nat)^(s.extract p (p+4)).data.toList.length<=256^4:=Nat.pow_le_pow_right (by omega) h2
 unfold aL
 omega
theorem nx{s:ByteArray}{k l:Int}(h:Says s k l I)(A:Option Addr)(c:Nat)(w:World)(hA:At w A (I.map Value.string))(hS:dP I):Calls Tryz.prog 56 #[.agg #[.int .i64 k,.int .i64 l,.slice A I.length c]] w (Ret (.tuple #[.string s,.int .i64 0]) w):=by
 have h2:=nR k l A c I w hA hS
 rw[fE,if_pos h.right,h.bytes] at h2
 exact h2
theorem Be{j:Nat}(h:j<I.length):(I.take j).map Value.string++[.string (I.getD j ByteArray.empty)]=(I.take (j+1)).map Value.string:=by
 rw[List.take_succ_eq_append_getElem h,List.map_append];simp[h]
theorem Lm{s:ByteArray}{k l:Int}(hh:Says s k l I):(((aL s 0 4:Int) != (aY (s.extract 4 s.size):Int))||(!((s.extract 5 9).toList==(s.extract 508 s.size).toList)))=false:=by
 rw[hh.size,hh.sum,hh.lsn2];simp
theorem Gx(s:ByteArray)(k l:Int)(I:List ByteArray)(w:World)(hh:Says s k l I):
  Calls Tryz.prog 44 #[.string s] w (d9 k l (af I) 0 w):=by
 have hsz:=hh.size
 have hn4:=jC s 0
 have hS:dP I:=ek hh.right
 have hTI:aO I<=498:=by have h:=(cC hh.right).2.2.2;rw[cK,hh.plain] at h;omega
 have hI24:I.length<=24:=(cC hh.right).2.2.1.1
 go_enter Tryz.func44,Tryz.ntmps44
 have al:=St.start w
 refine wq (sqr (bY #[vi 0,vi 0,sn] al fun bF W1 aA=>?_))
 refine sqp [.k 3 (vi 0)] ?_
 refine aa (wq (wq (sqr (sqp [.m 9 0,.k 10 (vi ((s.size:Int))),.k 11 (.bool ((s.size:Int) != 512))] ?_))))
 refine aa (wbs (fun dC=>?_) fun dC=>?_)
 ·have s7:=bne_iff_ne.1 dC
  refine wq (sqr (sqp [.k 12 (.agg #[vi 0,vi 0,sn])] ?_))
  refine aV (n:=3) 0 #[vi 0,vi 0,sn] aA fun W8 dO=>?_
  refine sqp [.k 3 (vi 11)] ?_
  refine aa (wp_ret (aj ?_))
  refine bpr (.tuple #[.agg #[vi 0,vi 0,sn],vi 11]) (aQ Tryz.results44 (rpa (dO.blk 0 rfl) 0 3) rpt) ?_
  exact absurd ‹((s.size:Int) != 512)=true› (by simp[hsz])
 have s7:=bne_eq_false_iff_eq.1 dC
 refine wp_skip (aa (wq (sqr (sqp [.m 13 0] ?_))))
 refine sy (fun c5=>vp c5) (fun c5=>eB c5 193 #[.string s,vi 0,.bool false]) aA (fun cx=>⟨_,(ru s _).mono (by rintro e W1 ⟨B4,rfl,⟨hb4,hw4⟩,hx⟩;exact⟨_,rfl,St.one hx ⟨hb4,d7 _ _ _,fun k hk=>by simp[eB] at hk;subst hk;exact⟨hw4,hb4.lt⟩⟩⟩),(ax (cx.ou 13))⟩) fun c5 Bq fi=>?_
 refine sqp [.m 4 14] ?_
 refine aa (wq (sqr (sqp [.m 15 4] ?_)))
 refine kb (vi ((aL s 0 4:Int))) 1 #[.string s,vi 4,.bool false] fi (fun cx=>⟨_,(dL _ s 0 4 _ ⟨(cx.bi 1 rfl),by omega,by omega⟩ (by omega) (by omega)).mono (by rintro e W1 ⟨rfl,bR,hu⟩;exact⟨rfl,hu,bR.1⟩),(aP (cx.ou 15) (cx.co _))⟩) fun wZ cw=>?_
 refine sqp [.m 5 16] ?_
 refine aa (wq (sqr (sqp [.m 17 4] ?_)))
 refine fO (vi k) (eB c5 193 #[.string s,vi 5,.bool false]) 1 cw (by
   refine svA fun i d W X cx=>?_
   refine am.call (aq (args:=#[vp c5,vi 1]) rfl cx.sees rfl (by kernel_rfl) (aP (cx.ou 17) (cx.co _))) ?_
   refine(dL _ s 4 1 _ ⟨(cx.bi 1 rfl),by omega,by omega⟩ (by omega) (by omega)).mono ?_
   rintro e W1 ⟨rfl,bR,hu⟩
   refine⟨_,rfl,bZ (cx.init 1 _ rfl) rfl rfl hu bR.1 (fun f o X' hs hb hv hx=>?_)⟩
   exact⟨(hv 18 rfl).1.trans (congrArg (Value.int .i64) hh.kind),hx⟩) fun uC dS=>?_
 refine sqp [.m 19 4] ?_
 refine fO (vi l) (eB c5 193 #[.string s,vi 9,.bool false]) 1 dS (by
   refine svA fun i d W X cx=>?_
   refine am.call (aq (args:=#[vp c5,vi 4]) rfl cx.sees rfl (by kernel_rfl) (aP (cx.ou 19) (cx.co _))) ?_
   refine(dL _ s 5 4 _ ⟨(cx.bi 1 rfl),by omega,by omega⟩ (by omega) (by omega)).mono ?_
   rintro e W1 ⟨rfl,bR,hu⟩
   refine⟨_,rfl,bZ (cx.init 1 _ rfl) rfl rfl hu bR.1 (fun f o X' hs hb hv hx=>?_)⟩
   exact⟨(hv 20 rfl).1.trans (congrArg (Value.int .i64) hh.lsn),hx⟩) fun qI cU=>?_
 refine sqp [.k 21 (.agg #[vi k,vi l,sn])] ?_
 refine bY #[vi 0,vi 0,sn] cU fun fm sa ef=>?_
 refine aV (n:=3) 2 #[vi k,vi l,sn] ef fun w3 dH=>?_
 refine aa (wq (wq (bG [0,1,0,4,12,31,63,127,255,127,639,2047,4095] [] [.k 22 (vi ((aL s 0 4:Int))),tW 23 .u32 (aL s 0 4:Int) (aL s 0 4:Int) (IntWalk.u32_in _ (by omega)),.k 24 (.string s),.c 25 (.string (s.extract 4 s.size)),.c 26 (.int .u32 ((aY (s.extract 4 s.size):Int))),.k 27 (.bool ((aL s 0 4:Int) != (aY (s.extract 4 s.size):Int))),.k 28 (.bool ((aL s 0 4:Int) != (aY (s.extract 4 s.size):Int))),.z 29 (!((aL s 0 4:Int) != (aY (s.extract 4 s.size):Int))) (.string s),.y 30 (!((aL s 0 4:Int) != (aY (s.extract 4 s.size):Int))) (.string (s.extract 5 9)),.z 31 (!((aL s 0 4:Int) != (aY (s.extract 4 s.size):Int))) (.string s),.y 32 (!((aL s 0 4:Int) != (aY (s.extract 4 s.size):Int))) (.string (s.extract 508 s.size)),.y 33 (!((aL s 0 4:Int) != (aY (s.extract 4 s.size):Int))) (.bool (!((s.extract 5 9).toList==(s.extract 508 s.size).toList))),tO 34 ((aL s 0 4:Int) != (aY (s.extract 4 s.size):Int)) (!((s.extract 5 9).toList==(s.extract 508 s.size).toList))] [0,1,2] [3,4,8,10,11] [(22,0,13,35)] dH ?_ fun uF cG=>?_)))
 ·refine⟨?_,?_,?_,?_,?_,trivial⟩
  ·exact xs4 rfl id fun cx=>em (l:=4) rfl (by kernel_rfl) (cx.an 2) (cx.co _) (by omega) (by omega)
  ·exact xsc rfl id rfl rfl fun cx=>⟨_,mP (s.extract 4 s.size) _ (by simp;omega),(ax (cx.an 3))⟩
  ·exact m2 rfl (fun _ _ _ h=>h) (fun cx=>(cx.an 6)) fun cx hq=>mt (l:=5) (m:=9) rfl (by kernel_rfl) (mbv (cx.an 7) hq) (cx.co _) (cx.co _) (by have hq_:=hq;simp only[zB] at hq_;omega) (by have hq_:=hq;simp only[zB] at hq_;omega) (by have hq_:=hq;simp only[zB] at hq_;omega) (by have hq_:=hq;simp only[zB] at hq_;omega)
  ·exact m2 rfl (fun _ _ _ h=>h) (fun cx=>(cx.an 6)) fun cx hq=>em (l:=508) rfl (by kernel_rfl) (mbv (cx.an 9) hq) (cx.co _) (by have hq_:=hq;simp only[zB] at hq_;omega) (by have hq_:=hq;simp only[zB] at hq_;omega)
  ·exact m2 rfl (fun _ _ _ h=>h) (fun cx=>(cx.an 6)) fun cx hq=>qF rfl (mbv (cx.an 8) hq) (mbv (cx.an 10) hq)
 refine aa (wbs (fun mT=>?_) fun mT=>?_)
 ·have iF:=mT
  simp only[zB] at iF
  refine wq (sqr (sqp [.k 35 (.agg #[vi 0,vi 0,sn])] ?_))
  refine aV (n:=3) 0 #[vi 0,vi 0,sn] cG fun w4 fy=>?_
  refine sqp [.k 3 (vi 12)] ?_
  refine aa (wp_ret (aj ?_))
  refine bpr (.tuple #[.agg #[vi 0,vi 0,sn],vi 12]) (aQ Tryz.results44 (rpa (fy.blk 0 rfl) 0 3) rpt) ?_
  exact absurd ((Lm hh).symm.trans (by assumption)) (by decide)
 have iF:=mT
 simp only[zB] at iF
 obtain⟨Ff,Fg⟩:=iF
 refine wp_skip (aa (wq (wq (sqr (sqp [.m 36 4] ?_)))))
 refine fO (vi ((I.length:Int))) (eB c5 193 #[.string s,vi 10,.bool false]) 1 cG (by
   refine svA fun i d W X cx=>?_
   refine am.call (aq (args:=#[vp c5,vi 1]) rfl cx.sees rfl (by kernel_rfl) (aP (cx.ou 36) (cx.co _))) ?_
   refine(dL _ s 9 1 _ ⟨(cx.bi 1 rfl),by omega,by omega⟩ (by omega) (by omega)).mono ?_
   rintro e W1 ⟨rfl,bR,hu⟩
   refine⟨_,rfl,bZ (cx.init 1 _ rfl) rfl rfl hu bR.1 (fun f o X' hs hb hv hx=>?_)⟩
   exact⟨(hv 37 rfl).1.trans (congrArg (fun n:Nat=>Value.int .i64 (n:Int)) hh.many),hx⟩) fun LX kU=>?_
 refine sqp [.k 38 (vi 0)] ?_
 refine aa (wp_block ?_)
 have hn31:=St.nilrow kU 9
 simp only[List.cons_append,List.nil_append] at hn31
 refine aT (fun t_ mz az W=>∃j:Nat,∃A:Option Addr,∃c:Nat,j<=I.length/\mz=I.length-j/\az=⟨(ovr (jv az) [(38,38,0,[vi ((j:Int))]),(0,39,9,[])] t_).toArray,[]⟩/\St w [] [eB bF 48 #[vi 0,vi 0,sn],eB c5 193 #[.string s,vi (((10+aO (I.take j):Nat):Int)),.bool false],eB fm 48 #[vi k,vi l,.slice A j c],eO 9 1 (.slice A j c) j ((I.take j).map Value.string)] W) (I.length-0) ?_ ?_
 ·
  exact⟨0,none,0,by omega,rfl,(by kernel_rfl),hn31.pk [0,1,2,3]⟩
 rintro ON a32 y7 ⟨j,A,c,hj,rfl,hj_,dc⟩
 refine ovz hj_ fun H3=>?_
 refine wq (sqr (sqp [.k 39 (.bool (decide ((j:Int)<(I.length:Int))))] ?_))
 refine aa (wq (wds (fun kF py=>?_) fun kF py=>?_))
 ·refine wp_skip (aa (wq (wp_block ?_)))
  have htj:=hh.text j (by omega)
  refine aH [0,1,0,4,12,31,63,127] [[],[2],[],[1],[],[5,3],[],[2]] [[],[],[],[4],[5],[6],[],[7]] [[],[],[],[1],[],[3],[],[2]] [.k 40 (po fm 2),.c 41 (.slice A j c),.k 42 (vp c5),.a 43,.a 44,.a 45,.k 46 (po fm 2),.n] (fun ix f d X=>match ix with|0|1|2=>True|3=>f 43= .string ((I.getD j ByteArray.empty))/\X 4=eB c5 193 #[.string s,vi (((10+aO (I.take (j+1)):Nat):Int)),.bool false]|4=>f 44= .slice (sA (d 44)) 1 1/\X 5=eO 9 1 (.slice (sA (d 44)) 1 1) 1 ([.string ((I.getD j ByteArray.empty))])|5=>f 45= .slice (sA (d 45)) (j+1) (sC (d 45))/\X 6=eO 9 1 (.slice (sA (d 45)) (j+1) (sC (d 45))) (j+1) ((I.take (j+1)).map Value.string)|6=>True|7=>X 7=eB fm 48 #[vi k,vi l,.slice (sA (d 45)) (j+1) (sC (d 45))]|_=>True) [0,4,5,6,7] [1,3,4,5,7] [(40,0,7,47)] dc ?_ ?_ ?_
  ·exact fun ix _ _ _ _ _ _ hs hb hx h=>match ix,h with
   |3,h=>by dsimp only;rw[<-hs 43 rfl,<-hx 4 rfl];exact h
   |4,h=>by dsimp only;rw[<-hs 44 rfl,<-hb 44 rfl,<-hx 5 rfl];exact h
   |5,h=>by dsimp only;rw[<-hs 45 rfl,<-hb 45 rfl,<-hx 6 rfl];exact h
   |7,h=>by dsimp only;rw[<-hb 45 rfl,<-hx 7 rfl];exact h
   |0,_|1,_|2,_|6,_|_+8,_=>trivial
  ·refine⟨?_,?_,?_,?_,?_,trivial⟩
   ·exact xs4 rfl id fun cx=>ae rfl (by kernel_rfl) (cx.an 0) ((cx.bi 2 rfl).cell 2)
   ·refine svA fun i d W X cx=>?_
    refine am.call (aq (args:=#[vp c5]) rfl cx.sees rfl (by kernel_rfl) (ax (cx.an 2))) ?_
    refine(oe _ s (10+aO (I.take j)) _ ⟨(cx.bi 1 rfl),by omega,by omega⟩ htj.1 htj.2.1).mono ?_
    rintro e W1 ⟨rfl,bR,hu⟩
    have hb9:=bR.1
    rw[htj.2.2.2] at hb9
    refine⟨_,rfl,bZ (cx.init 1 _ rfl) rfl rfl hu hb9 (fun f o X' hs hb hv hx=>?_)⟩
    exact⟨(hv 43 rfl).1.trans (congrArg Value.string htj.2.2.1),hx⟩
   ·refine svA fun i d W X cx=>?_
    have H4:i (.tmp 43)= .string ((I.getD j ByteArray.empty)):=(dTn (cx.an 3)).1
    exact du (e:=9) (xs:=[.string ((I.getD j ByteArray.empty))]) rfl (by simp[go_sem,H4]) rfl (by decide) rfl rfl (fun _ _ _ _ _=> .intro)
   ·refine svA fun i d W X cx=>?_
    obtain⟨i0,hi0,hz0,hz1,hz2⟩:=info_parts Tryz.infoStr
    refine eH (n:=j) (m:=1) (nm:=j+1) (xs:=(I.take j).map Value.string) (news:=[.string ((I.getD j ByteArray.empty))]) (xs':=(I.take (j+1)).map Value.string) rfl (ty:=46) rfl (by kernel_rfl) hi0 hz0 hz1 hz2 rfl (cx.an 1) cx (cx.init 3 _ rfl) rfl (dTn (cx.an 4)).1 (by first|(simp;done)|(simp;omega)) (At.of_own (cx.row (dTn (cx.an 4)).2 rfl)) (by simp[Value.oneCell']) (by simp only[maxLen];omega) (by omega) rfl rfl rfl (by omega) (Be (by omega)) (fun f o X' hs hb hv hx=>?_)
    exact⟨hv,hx⟩
   ·refine svA fun i d W X cx=>?_
    exact bx (n:=1) rfl (cx.an 6) (dTn (cx.an 5)).1 (by kernel_rfl) (by kernel_rfl) (by kernel_rfl) cx (cx.init 2 _ rfl) rfl (nle rfl) (by kernel_rfl) rfl rfl rfl (fun f o X' hs hb hx=>by rw[hb 45];exact hx)
  intro f d X y3 hD ew fr aG
  simp only[exq 4 ((dTn (hD 3 lq)).2),exq 5 ((dTn (hD 4 lq)).2),exq 6 ((dTn (hD 5 lq)).2),exq 7 ((dTn (hD 7 lq)))] at ew
  simp only[ed 43 ((dTn (hD 3 lq)).1),ed 44 ((dTn (hD 4 lq)).1),ed 45 ((dTn (hD 5 lq)).1)] at aG
  generalize sA (d 44)=LY,sA (d 45)=y8,sC (d 45)=y9 at ew aG
  clear hD;subst aG;clear f d X
  refine aw (aa (sqr (sqp [sI 47 ((j:Int)+1) (by omega),.m 38 47] ?_)))
  refine aa ?_
  refine⟨I.length-((j+1)),by omega,?_⟩
  exact⟨(j+1),y8,y9,by omega,rfl,(by kernel_rfl),ew.pk [0,1,4,3]⟩
 refine wp_exit (au (au (bh (aa (wq (wq ?_))))))
 obtain rfl:j=I.length:=by omega
 rw[List.take_length] at dc
 refine sqr ?_
 refine bE 2 3 dc ?_
 refine sqk (.tuple #[.string s,vi 0]) dc (fun cx=>⟨_,nx hh _ _ _ (At.of_own (cx.ri 3 rfl)) hS,(ax (cx.ou 49))⟩) fun pT dd=>?_
 refine sqp [.m 48 50,.k 51 (.string s),.k 52 (vi 0),.m 7 51,.m 8 52] ?_
 refine aa (wq (sqr (sqp [.m 53 4] ?_)))
 refine sqv (.bool false) dd (by
   refine svA fun i d W X cx=>?_
   refine am.call (aq (args:=#[vp c5]) rfl cx.sees rfl (by kernel_rfl) (ax (cx.ou 53))) ?_
   refine(fv _ s (10+aO I) false _ ⟨(cx.bi 1 rfl),by omega,by omega⟩).mono ?_
   rintro e W1 ⟨rfl,rfl⟩
   refine⟨_,rfl,bL [] rfl rfl (Ext.refl _) (by simp) List.Pairwise.nil (fun f o X' hs hb hv hN=>?_)⟩
   have aK:=(hv 54 rfl).1;have aW:=(hv 54 rfl).2
   exact aK.trans rfl) fun Fh gv=>?_
 refine sqp [.k 55 (.bool false)] ?_
 refine dE 55 [56,57] rfl rfl ?_
 refine sqp [.m 56 8,.k 57 (.bool false)] ?_
 refine sqp [.k 58 (.bool false),.k 59 (.bool false)] ?_
 refine dE 59 [60,61,62] rfl rfl ?_
 refine sqp [.m 60 7,.m 61 0,.k 62 (.bool (!(s.toList==s.toList)))] ?_
 refine sqp [.k 63 (.bool (!(s.toList==s.toList)))] ?_
 refine aa ?_
 rcases Bool.eq_false_or_eq_true (s.toList==s.toList) with H7|H7
 ·refine wp_cond_false (show Act.eval _ _= .bool false from(congrArg Value.bool (by rw[H7];rfl))) (wp_skip (aa (wq (sqr (sqp [.k 65 (po fm 2)] ?_)))))
  refine av 2 gv ?_
  refine sy (fun mU=> .slice mU ((af I).length) ((af I).length)) (fun mU=>eO 9 1 (.slice mU ((af I).length) ((af I).length)) ((af I).length) ((af I).map Value.string)) gv (fun cx=>⟨_,(lp _ _ I _ (At.of_own (cx.ri 3 rfl)) (by have h_:=(hS).1;omega)).mono (by rintro e W1 ⟨rfl,ho,hx⟩;exact⟨_,rfl,St.one hx (cm ho)⟩),(ax (cx.ou 66))⟩) fun mU Fi fY=>?_
  refine sqp [.k 68 (po fm 2)] ?_
  refine aV (n:=1) 2 #[vi k,vi l,.slice mU ((af I).length) ((af I).length)] fY fun Bs fo=>?_
  refine aa (wq (sqr ?_))
  refine bE 2 3 fo ?_
  refine aV (n:=3) 0 #[vi k,vi l,.slice mU ((af I).length) ((af I).length)] fo fun Qi uG=>?_
  refine sqp [.k 3 (vi 0)] ?_
  refine aa (wp_ret ?_)
  refine bpr (.tuple #[.agg #[vi k,vi l,.slice mU ((af I).length) ((af I).length)],vi 0]) (aQ Tryz.results44 (rpa (uG.blk 0 rfl) 0 3) rpt) ?_
  exact⟨_,_,rfl,uG.own' 4 rfl,uG.ext⟩
 refine wp_cond_true (show Act.eval _ _= .bool true from(congrArg Value.bool (by rw[H7];rfl))) (wq (sqr (sqp [.k 64 (.agg #[vi 0,vi 0,sn])] ?_)))
 refine aV (n:=3) 0 #[vi 0,vi 0,sn] gv fun LZ nF=>?_
 refine sqp [.k 3 (vi 22)] ?_
 refine aa (wp_ret (aj ?_))
 refine bpr (.tuple #[.agg #[vi 0,vi 0,sn],vi 22]) (aQ Tryz.results44 (rpa (nF.blk 0 rfl) 0 3) rpt) ?_
 exact absurd ‹(s.toList==s.toList)=false› (by simp)
theorem BA(k l:Int)(ss:List ByteArray)(w:World)(hr:bz k l ss=true):Calls Tryz.prog 44 #[.string (bP k l (af ss))] w (d9 k l (af ss) 0 w):=by
 have h:=Gx _ k l (af ss) w (tx hr)
 rw[iw] at h
 exact h
end
section
open Go.RowKit
def gm(p:PgS)(e:EdT)(n:Int)(w:World):Ending->World->Prop:=
 if doE p e n=0 then d9 (doV p e n).1 (doV p e n).2.1 (doV p e n).2.2 0 w else d9 0 0 [] (doE p e n) w
theorem gm.bad{p:PgS}{e:EdT}{n er:Int}{e':Ending}(h:doE p e n=er)(h0:er≠0)(hp:d9 0 0 [] er w e' w'):gm p e n w e' w':=by
 subst h
 rw[gm,if_neg h0];exact hp
theorem gm.good{p:PgS}{e:EdT}{n:Int}{e':Ending}{q:PgS}(h:doE p e n=0)(hq:doV p e n=q)(hp:d9 q.1 q.2.1 q.2.2 0 w e' w'):gm p e n w e' w':=by
 subst hq
 rw[gm,if_pos h];exact hp
theorem Kv{k l:Int}{s:ByteArray}{f:FuncId}{args:Array Value}(he:di k l ss slot s=0)(hc:Calls Tryz.prog f args w (eU k l ss slot s w)):Calls Tryz.prog f args w (d9 k l (af (ba ss slot.toNat s)) 0 w):=by
 rw[eU,if_pos he] at hc;exact hc
theorem J0{k l:Int}{s:ByteArray}{f:FuncId}{args:Array Value}{er:Int}(he:di k l ss slot s=er)(h0:er≠0)(hc:Calls Tryz.prog f args w (eU k l ss slot s w)):Calls Tryz.prog f args w (d9 0 0 [] er w):=by
 subst he
 rw[eU,if_neg h0] at hc;exact hc
theorem x4(k l:Int)(A:Option Addr)(c:Nat)(ss:List ByteArray)(x sl:Int)(s:ByteArray)(n:Int)(w:World)(hA:At w A (ss.map Value.string))(hr_:bz k l ss=true)(hS:dP ss)(hss:s.size<=9223372036854775807):
  Calls Tryz.prog 40 #[.agg #[.int .i64 k,.int .i64 l,.slice A ss.length c],.agg #[.int .i64 x,.int .i64 sl,.string s],.int .i64 n] w (gm (k,l,ss) (x,sl,s) n w):=by
 go_enter Tryz.func40,Tryz.ntmps40
 have al:=St.start w
 refine wq (sqr ?_)
 refine ce #[vi k,vi l,.slice A ss.length c] al fun cT W1 aA=>?_
 refine ce #[vi x,vi sl,.string s] aA fun dI W2 bQ=>?_
 refine bY #[vi 0,vi 0,sn] bQ fun O9 W3 bc=>?_
 refine sqp [.k 7 (vi 0)] ?_
 refine aa (wq (wq ?_))
 have hbb_:=sG (bl s) 0
 refine sqr ?_
 refine bE 0 3 bc ?_
 have hd7:(bz k l ss)=true:=hr_
 refine sqv (.bool true) bc (iq rfl rfl rfl rfl rfl (fun _ _ _ h=>h.trans (congrArg Value.bool hd7)) fun a d W X cx=>⟨_,_,aq (args:=#[.agg #[vi k,vi l,.slice A ss.length c]]) rfl cx.sees rfl (by kernel_rfl) (ax (cx.ou 10)),qv k l _ _ ss _ (hA.ext cx.upd.to_ext) hS⟩) fun W6 bI=>?_
 refine sqp [.k 12 (.bool false)] ?_
 refine aa (wcf rfl (wp_skip (aa (wq (wq (sqr (sqp [.m 14 2,.k 15 (.bool (decide (n<0))),.m 16 15] ?_)))))))
 refine sqw 16 [17,18] rfl (fun _=>sqp [.m 17 2,.k 18 (.bool (decide (2147483647<n)))] sqe) ?_
 refine sqp [sPo 19 (decide (n<0)) (decide (2147483647<n))] ?_
 refine aa (wbs (fun dJ=>?_) fun dJ=>?_)
 ·have kV:=dJ
  simp only[zB] at kV
  refine wq (sqr (sqp [.k 20 (.agg #[vi 0,vi 0,sn])] ?_))
  refine aV (n:=3) 2 #[vi 0,vi 0,sn] bI fun uC dS=>?_
  refine sqp [.k 7 (vi 1)] ?_
  refine aa (wp_ret (aj ?_))
  refine bpr (.tuple #[.agg #[vi 0,vi 0,sn],vi 1]) (aQ Tryz.results40 (rpa (dS.blk 2 rfl) 0 3) rpt) ?_
  exact gm.bad (by rw[doE,if_neg (by rw[hr_];decide),if_pos (by have h_:=dJ;simp at h_;omega)]) (by decide) (d9.zero dS.ext)
 have kV:=dJ
 simp only[zB] at kV
 obtain⟨Qj,Qk⟩:=kV
 refine wp_skip (aa (wq (wq ?_)))
 by_cases hs1_:sl= -1
 ·refine sqr (sqp [.k 21 (po dI 1)] ?_)
  refine av 1 bI ?_
  have hd22:(sl==(-1))=true:=(beq_iff_eq.2 hs1_)
  refine sqp [.e 23 (.bool (sl==(-1))) (.bool true) (congrArg Value.bool hd22)] ?_
  refine aa (wct rfl (wq (wq (sqr (sqp [.k 24 (po dI 2)] ?_)))))
  refine av 1 bI ?_
  refine sqp [.k 26 (vi ((s.size:Int))),.k 27 (.bool ((s.size:Int) != 1)),.m 28 27] ?_
  refine d6 28 [29,30,31,32] ?_ rfl (fun hq=>?_) ?_
  rotate_left
  ·have hq_:=hq
   try simp only[zB] at hq_
   refine sqp [.k 29 (po dI 2)] ?_
   refine av 1 bI ?_
   refine sql (.int .u8 (bW (bl s) 0)) bI (fun cx=>jY (m:=0) rfl (by kernel_rfl) (cx.ou 30) (cx.co _) (by omega) (by omega)) ?_
   refine sqp [.k 32 (.bool (decide (2<bW (bl s) 0)))] ?_
   exact sqe
  refine c8 ?_
  refine sqp [sPo 33 ((s.size:Int) != 1) (decide (2<bW (bl s) 0))] ?_
  refine aa (wbs (fun kG=>?_) fun kG=>?_)
  ·have l6:=kG
   simp only[zB] at l6
   refine wq (sqr (sqp [.k 34 (.agg #[vi 0,vi 0,sn])] ?_))
   refine aV (n:=3) 2 #[vi 0,vi 0,sn] bI fun y3 ew=>?_
   refine sqp [.k 7 (vi 21)] ?_
   refine aa (wp_ret (aj (aj ?_)))
   refine bpr (.tuple #[.agg #[vi 0,vi 0,sn],vi 21]) (aQ Tryz.results40 (rpa (ew.blk 2 rfl) 0 3) rpt) ?_
   exact gm.bad (by rw[doE,if_neg (by rw[hr_];decide),if_neg (by have h_:=dJ;simp at h_;omega),if_pos hs1_,if_pos (by have h_:=kG;simp at h_;simp only[eT,Bool.or_eq_true,decide_eq_true_eq];omega)]) (by decide) (d9.zero ew.ext)
  have l6:=kG
  simp only[zB] at l6
  obtain⟨L3,L5⟩:=l6
  refine wp_skip (aa (wq (sqr (sqp [.k 35 (po dI 2)] ?_))))
  refine av 1 bI ?_
  refine sql (.int .u8 (bW (bl s) 0)) bI (fun cx=>jY (m:=0) rfl (by kernel_rfl) (cx.ou 36) (cx.co _) (by omega) (by omega)) ?_
  refine sqp [sW 38 .i64 (bW (bl s) 0) (bW (bl s) 0) (IntWalk.i64_in _ (by omega)),.m 39 2,.k 40 (.agg #[vi (bW (bl s) 0),vi n,sn])] ?_
  refine aV (n:=3) 2 #[vi (bW (bl s) 0),vi n,sn] bI fun LQ l5=>?_
  refine sqp [.k 7 (vi 0)] ?_
  refine aa (wp_ret (aj ?_))
  refine bpr (.tuple #[.agg #[vi (bW (bl s) 0),vi n,sn],vi 0]) (aQ Tryz.results40 (rpa (l5.blk 2 rfl) 0 3) rpt) ?_
  exact gm.good (q:=(bW (bl s) 0,n,[])) (by rw[doE,if_neg (by rw[hr_];decide),if_neg (by have h_:=dJ;simp at h_;omega),if_pos hs1_,if_neg (by have h_:=kG;simp at h_;simp only[eT,Bool.or_eq_true,decide_eq_true_eq];omega)]) (by rw[doV,if_pos hs1_]) ⟨none,0,rfl,World.ownsRow_nil _ _ _ _,l5.ext⟩
 ·refine sqr (sqp [.k 21 (po dI 1)] ?_)
  refine av 1 bI ?_
  have hd48:(sl==(-1))=false:=(beq_eq_false_iff_ne.2 hs1_)
  refine sqp [.e 23 (.bool (sl==(-1))) (.bool false) (congrArg Value.bool hd48)] ?_
  refine aa (wcf rfl (wp_skip (aa (wq ?_))))
  obtain⟨er,hpe⟩:∃z,di k l ss sl s=z:=⟨_,rfl⟩
  by_cases hpn:er=0
  ·subst hpn
   refine sqr ?_
   refine bE 0 3 bI ?_
   refine sqp [.k 43 (po dI 1)] ?_
   refine av 1 bI ?_
   refine sqp [.k 45 (po dI 2)] ?_
   refine av 1 bI ?_
   refine iC (fun kf kg=> .tuple #[.agg #[vi k,vi l,.slice kf ((af (ba ss sl.toNat s)).length) kg],vi 0]) (fun kf kg=>eO 9 1 (.slice kf ((af (ba ss sl.toNat s)).length) kg) ((af (ba ss sl.toNat s)).length) ((af (ba ss sl.toNat s)).map Value.string)) bI (fun cx=>⟨_,(Kv hpe (v8 k l _ _ ss sl s _ (hA.ext cx.upd.to_ext) hS (by omega))).mono (by rintro e W1 ⟨A4,c4,rfl,ho,hx⟩;exact⟨_,_,rfl,St.one hx (cm ho)⟩),(dN (cx.ou 42) (cx.ou 44) (cx.ou 46))⟩) fun kf kg Tv NT=>?_
   refine sqp [.m 41 47,.k 48 (.agg #[vi k,vi l,.slice kf ((af (ba ss sl.toNat s)).length) kg]),.k 49 (vi 0)] ?_
   refine bY #[vi 0,vi 0,sn] NT fun NU IT kh=>?_
   refine aV (n:=3) 4 #[vi k,vi l,.slice kf ((af (ba ss sl.toNat s)).length) kg] kh fun Fi fY=>?_
   refine sqp [.m 9 49] ?_
   refine aa (wq (wq (sqr (sqp [.m 50 9,.k 51 (.bool true)] ?_))))
   refine aa (wct rfl (sqr (sqp [.m 52 2,.k 53 (po NU 1)] ?_)))
   refine aV (n:=1) 4 #[vi k,vi n,.slice kf ((af (ba ss sl.toNat s)).length) kg] fY fun L6 nG=>?_
   refine aa (wq (sqr ?_))
   refine bE 4 3 nG ?_
   refine sqp [.m 55 9] ?_
   refine aV (n:=3) 2 #[vi k,vi n,.slice kf ((af (ba ss sl.toNat s)).length) kg] nG fun Fj gG=>?_
   refine sqp [.m 7 55] ?_
   refine aa (wp_ret ?_)
   refine bpr (.tuple #[.agg #[vi k,vi n,.slice kf ((af (ba ss sl.toNat s)).length) kg],vi 0]) (aQ Tryz.results40 (rpa (gG.blk 2 rfl) 0 3) rpt) ?_
   exact gm.good (q:=(k,n,af (ba ss sl.toNat s))) (by rw[doE,if_neg (by rw[hr_];decide),if_neg (by have h_:=dJ;simp at h_;omega),if_neg hs1_];exact hpe) (by rw[doV,if_neg hs1_]) ⟨_,_,rfl,gG.own' 3 rfl,gG.ext⟩
  ·refine sqr ?_
   refine bE 0 3 bI ?_
   refine sqp [.k 43 (po dI 1)] ?_
   refine av 1 bI ?_
   refine sqp [.k 45 (po dI 2)] ?_
   refine av 1 bI ?_
   refine iC (fun ly lz=> .tuple #[.agg #[vi 0,vi 0,.slice ly (([]:List ByteArray).length) lz],vi er]) (fun ly lz=>eO 9 1 (.slice ly (([]:List ByteArray).length) lz) (([]:List ByteArray).length) (([]:List ByteArray).map Value.string)) bI (fun cx=>⟨_,(J0 hpe hpn (v8 k l _ _ ss sl s _ (hA.ext cx.upd.to_ext) hS (by omega))).mono (by rintro e W1 ⟨A4,c4,rfl,ho,hx⟩;exact⟨_,_,rfl,St.one hx (cm ho)⟩),(dN (cx.ou 42) (cx.ou 44) (cx.ou 46))⟩) fun ly lz L7 kW=>?_
   refine sqp [.m 41 47,.k 48 (.agg #[vi 0,vi 0,.slice ly (([]:List ByteArray).length) lz]),.k 49 (vi er)] ?_
   refine bY #[vi 0,vi 0,sn] kW fun Rp Ql CC=>?_
   refine aV (n:=3) 4 #[vi 0,vi 0,.slice ly (([]:List ByteArray).length) lz] CC fun OO pz=>?_
   refine sqp [.m 9 49] ?_
   refine aa (wq (wq (sqr ?_)))
   have hd84:(er==0)=false:=(beq_eq_false_iff_ne.2 hpn)
   refine sqp [.m 50 9,.e 51 (.bool (er==0)) (.bool false) (congrArg Value.bool hd84)] ?_
   refine aa (wcf rfl (wp_skip (aa (wq (sqr ?_)))))
   refine bE 4 3 pz ?_
   refine sqp [.m 55 9] ?_
   refine aV (n:=3) 2 #[vi 0,vi 0,.slice ly (([]:List ByteArray).length) lz] pz fun OP pA=>?_
   refine sqp [.m 7 55] ?_
   refine aa (wp_ret ?_)
   refine bpr (.tuple #[.agg #[vi 0,vi 0,.slice ly (([]:List ByteArray).length) lz],vi er]) (aQ Tryz.results40 (rpa (pA.blk 2 rfl) 0 3) rpt) ?_
   exact gm.bad (by rw[doE,if_neg (by rw[hr_];decide),if_neg (by have h_:=dJ;simp at h_;omega),if_neg hs1_];exact hpe) hpn ⟨_,_,rfl,pA.own' 3 rfl,pA.ext⟩
end
end Go.Proofs.YtcdjaepgahbhfaaGreat
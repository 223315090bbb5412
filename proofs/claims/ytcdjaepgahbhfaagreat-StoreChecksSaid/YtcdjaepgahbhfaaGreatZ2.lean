import Derived.Test.YtcdjaepgahbhfaaGreatZ1
import Derived.Maps.OwnSet
import Derived.Maps.Views
import Derived.Carry
import Derived.StringKeys
import Derived.Maps.RangeWalk
import Derived.Laws.IdiomRangeMap
import Derived.Deep.QuietTactic
import Derived.BigQuiet
import Derived.Shelf.Strings.Builder1
import Derived.Lib.UnsafeStr
import Derived.Shelf.Strings.Builder2
import Derived.Shelf.Strings.OnBuilder
import Derived.Shelf.Strings.BuilderF
import Derived.Shelf.Strings.Prefix
import Derived.Shelf.Bits.Mul64
import Derived.Shelf.Strings.Repeat
import Derived.Ground.Names2Prog
import Derived.Shelf.Slices.Clone
import Derived.Shelf.Slices.SearchI
import Derived.Shelf.Slices.Empties
import Derived.Ground.SlgnProg
import Derived.Shelf.SlicesE.Clone
import Derived.Test.YtcdjaepgahbhfaaGreatProg
import Derived.Laws.RangeString
set_option linter.unusedVariables false
set_option linter.unusedSimpArgs false
set_option maxRecDepth 100000
set_option maxHeartbeats 16000000
open Go.Proofs.Tryz
open Go.Proofs.Tryz renaming prog->P_
namespace Go.Proofs.YtcdjaepgahbhfaaGreat
variable{D:Nat->(Tmp->Value)->(Tmp->Value)->(Nat->Ent)->Prop}{L':Nat->List Ent}{P:Program}{Q:Exit->Act->World->Prop}{W W' w w0 w1:World}{X0:List Ent}{a a0:Act}{b g i id n off q q' sz ty':Nat}{bor:List Nat}{c:Call}{cs:Array Value}{d0:List Deferred}{l:List UInt8}{ops:Array Oper}{os os' os1:List Oper}{p:Nat×Bool}{r:Option Nat}{ss:List ByteArray}{t t' t1 xs:List Value}{us:List (List Nat)}{x y:Operand}
section
open Go.RowKit
theorem bm{α:Type}{f:α->List Value}{ts:List α}(hf:∀x,(f x).length=sz)(h0:0<sz)(h:0<ts.length):0<(ts.flatMap f).length:=by
 cases ts with
 |nil=>simp at h
 |cons a l=>rw[List.flatMap_cons,List.length_append,hf];omega
def gS:List Value->Nat->Value
 | [],_=>undef
 |a:: _,0=>a
 |_::l,k+1=>gS l k
theorem uf:∀{l:List Value}{k:Nat},k<l.length->l[k]? =some (gS l k)
 | [],k,h=>by simp at h
 |a::l,0,h=>rfl
 |a::l,k+1,h=>by rw[List.getElem?_cons_succ,gS];exact uf (by simpa using h)
def eZ:Ent:=⟨[],fun _=>True⟩
def iH(kl:List Nat):Nat->List Ent->List Ent
 |_,[]=>[]
 |k,e::l=>if kl.contains k then iH kl (k+1) l else e::iH kl (k+1) l
theorem tm{kl:List Nat}:∀{l:List Ent}{k:Nat}{e:Ent},e∈iH kl k l->∃j,l[j]? =some e/\kl.contains (k+j)=false
 | [],k,e,h=>by cases h
 |x::l,k,e,h=>by
  rw[iH] at h
  split at h
  ·obtain⟨j,h1,h2⟩:=tm h
   exact⟨j+1,by simpa using h1,by rw[show k+(j+1)=k+1+j by omega];exact h2⟩
  ·rename_i hc
   rcases List.mem_cons.1 h with rfl|h
   ·exact⟨0,rfl,by simpa using hc⟩
   ·obtain⟨j,h1,h2⟩:=tm h
    exact⟨j+1,by simpa using h1,by rw[show k+(j+1)=k+1+j by omega];exact h2⟩
theorem mQ{kl:List Nat}:∀{l:List Ent}{k:Nat},(iH kl k l).Sublist l
 | [],k=>List.Sublist.refl _
 |x::l,k=>by
  rw[iH]
  split
  ·exact List.Sublist.cons _ mQ
  ·exact List.Sublist.cons_cons _ mQ
theorem mK(E:Ent)(q:Nat):∀(L:List Ent) (k:Nat),k<=q->q<k+L.length->(iH [q] k L++[E]).Perm (L.set (q-k) E)
 | [],k,h1,h2=>by simp at h2;omega
 |x::l,k,h1,h2=>by
  by_cases hq:k=q
  ·subst hq
   have hr:∀(l:List Ent) (j:Nat),k<j->iH [k] j l=l:=by
    intro l
    induction l with
    |nil=>intro j _;rfl
    |cons y l ih=>intro j hj;rw[iH,if_neg (by simp;omega),ih (j+1) (by omega)]
   rw[iH,if_pos (by simp),hr l (k+1) (by omega),Nat.sub_self]
   exact List.perm_append_singleton E l
  ·rw[iH,if_neg (by simp;omega),show q-k=(q-(k+1))+1 by omega,List.set_cons_succ]
   exact(mK E q l (k+1) (by omega) (by simp at h2;omega)).cons x
theorem St.perm{L L':List Ent}(h:St w0 bor L W)(hp:L.Perm L'):St w0 bor L' W:=
 ⟨h.upd,fun e he=>h.ok e (hp.mem_iff.2 he),(hp.pairwise_iff fun hab=>Ent.apart.symm hab).1 h.apart⟩
theorem mI:∀{l:List Ent}{k:Nat},iH [] k l=l
 | [],_=>rfl
 |x::l,k=>by rw[iH,if_neg (by simp),mI]
section
variable{P:Program}{Q:Exit->Act->World->Prop}{rest:List Oper}{o:Oper}{ops:Array Oper}{t0:Array Value}{d0:List Deferred}{w0 w:World}{bor:List Nat}{L:List Ent}
 {D:Nat->(Tmp->Value)->(Tmp->Value)->(Nat->Ent)->Prop}
theorem oT(bb:St w0 bor L w)(d:Tmp->Value):CtxV #[o] [0] ⟨t0,d0⟩ w0 bor L [List.range L.length] D 0 (Act.eval ⟨t0,d0⟩) d w (fun q=>L.getD q eZ) where
 sees:=⟨fun _=>rfl,fun _=>rfl,fun _=>rfl⟩
 upd:=bb.upd
 out:=fun _ _=>rfl
 anc:=fun j h=>by simp[ei] at h
 init:=fun q e h=>by simp[h]
 ok:=fun q h=>by
  have hq:q<L.length:=by simpa[atV] using h
  try dsimp only
  rw[List.getD_eq_getElem?_getD,List.getElem?_eq_getElem hq]
  exact bb.ok _ (List.getElem_mem hq)
 ap:=fun q q' h h' hne=>by
  have hq:q<L.length:=by simpa[atV] using h
  have hq':q'<L.length:=by simpa[atV] using h'
  try dsimp only
  rw[List.getD_eq_getElem?_getD,List.getElem?_eq_getElem hq,List.getD_eq_getElem?_getD,List.getElem?_eq_getElem hq']
  rcases Nat.lt_or_ge q q' with h1|h1
  ·exact List.pairwise_iff_getElem.1 bb.apart q q' hq hq' h1
  ·exact(List.pairwise_iff_getElem.1 bb.apart q' q hq' hq (by omega)).symm
theorem Mg(bb:St w0 bor L w){kl:List Nat}{N:List Ent}{w':World}(hk:∀q∈kl,q<L.length)(h:EffV (kl.flatMap fun q=>(L.getD q eZ).fp) w w' N):St w0 bor (iH kl 0 L++N) w':=by
 have hin:∀q,q<L.length->L.getD q eZ∈L:=fun q hq=>by
  rw[List.getD_eq_getElem?_getD,List.getElem?_eq_getElem hq];exact List.getElem_mem hq
 have hS:∀k∈kl.flatMap (fun q=>(L.getD q eZ).fp),(k∈bor\/w0.heap.size<=k)/\k<w.heap.size:=fun k hk'=>by
  obtain⟨q,hq,hkq⟩:=List.mem_flatMap.1 hk'
  exact(bb.ok _ (hin q (hk q hq))).own k hkq
 have hno:∀e∈iH kl 0 L,∀k∈e.fp,k∉kl.flatMap (fun q=>(L.getD q eZ).fp):=fun e he k hke hkS=>by
  obtain⟨j,h1,h2⟩:=tm he
  obtain⟨hj,rfl⟩:=List.getElem?_eq_some_iff.1 h1
  obtain⟨q,hq,hkq⟩:=List.mem_flatMap.1 hkS
  have hq':=hk q hq
  rw[List.getD_eq_getElem?_getD,List.getElem?_eq_getElem hq'] at hkq
  have hne:q≠j:=by
   rintro rfl
   rw[Nat.zero_add] at h2
   have:=List.contains_iff_mem.2 hq
   rw[h2] at this;cases this
  rcases Nat.lt_or_ge q j with h3|h3
  ·exact List.pairwise_iff_getElem.1 bb.apart q j hq' hj h3 k hkq hke
  ·exact List.pairwise_iff_getElem.1 bb.apart j q hj hq' (by omega) k hke hkq
 refine⟨bb.upd.join h.upd fun i hi=>(hS i hi).1,fun e he=>?_,?_⟩
 ·rcases List.mem_append.1 he with he|he
  ·exact(bb.ok e (mQ.subset he)).keep h.upd (hno e he)
  ·obtain⟨h1,h2,h3⟩:=h.ok e he
   refine⟨h1,h2,fun k hk'=>⟨?_,(h3 k hk').2⟩⟩
   rcases(h3 k hk').1 with h4|h4
   ·exact(hS k h4).1
   ·exact .inr (Nat.le_trans bb.upd.size h4)
 ·rw[List.pairwise_append]
  refine⟨bb.apart.sublist mQ,h.apart,fun a ha b hb k hka hkb=>?_⟩
  rcases((h.ok b hb).2.2 k hkb).1 with h4|h4
  ·exact hno a ha k hka h4
  ·have:=((bb.ok a (mQ.subset ha)).own k hka).2
   omega
theorem sqD(m:Nat)(kl:List Nat)(bb:St w0 bor L w)(h2:ak P o (Act.eval ⟨t0,d0⟩) w (bQ [List.range' L.length m] [kl] D 0 o.dst (Act.eval ⟨t0,d0⟩) (fun _=>undef) w fun q=>L.getD q eZ))(hg:o.guard=none)(hk:∀q∈kl,q<L.length)
  (hn:∀(e f:Tmp->Value) (X:Nat->Ent) (v:Value) (w':World),D 0 e f X->(∀d,o.dst=some d->e d=v/\f d=v)->St w0 bor (iH kl 0 L++(List.range' L.length m).map X) w'->wpList P ops Q rest (Act.put ⟨t0,d0⟩ o.dst v) w'):
  wpList P ops Q (o::rest) ⟨t0,d0⟩ w:=by
 refine wpList_plain hg fun K hK=>?_
 refine h2.wp fun v w' ⟨N,hl,heff,hD⟩=>hK _ _ ?_
 have hl':N.length=m:=by simpa[atV] using hl
 have hmap:(List.range' L.length m).map (fun q=>if q<L.length then L.getD q eZ else N.getD (q-L.length) eZ)=N:=by
  apply List.ext_getElem
  ·simp[hl']
  ·intro i h3 h4
   simp only[List.getElem_map,List.getElem_range']
   rw[if_neg (by omega),List.getD_eq_getElem?_getD,show L.length+1*i-L.length=i by omega,List.getElem?_eq_getElem h4];rfl
 have hDD:=hD (fun t=>if o.dst=some t then v else Act.eval ⟨t0,d0⟩ (.tmp t)) (fun t=>if o.dst=some t then v else undef) (fun q=>if q<L.length then L.getD q eZ else N.getD (q-L.length) eZ)
  (fun t ht=>if_neg ht) (fun d hd=>if_pos hd) (fun t ht=>if_neg ht) (fun d hd=>if_pos hd) (fun q hq=>?_) (by simpa[atV] using hmap)
 ·exact hn _ _ _ v w' hDD (fun d hd=>⟨if_pos hd,if_pos hd⟩) (by rw[hmap];exact Mg bb hk (by simpa[atV] using heff))
 ·dsimp only
  split
  ·rfl
  ·rename_i h5
   have h6:¬q<L.length+m:=fun h7=>hq (by simp only[atV,List.getD_cons_zero,List.mem_range'_1];omega)
   rw[List.getD_eq_getElem?_getD,List.getElem?_eq_none (by omega),List.getD_eq_getElem?_getD,List.getElem?_eq_none (by omega)]
theorem sqG(m:Nat)(kl:List Nat)(bb:St w0 bor L w)(hs:bM P #[o] [0] ⟨t0,d0⟩ w0 bor L [List.range L.length] [List.range' L.length m] [kl] D 0)(hg:o.guard=none)(hk:∀q∈kl,q<L.length)
  (hn:∀(e f:Tmp->Value) (X:Nat->Ent) (v:Value) (w':World),D 0 e f X->(∀d,o.dst=some d->e d=v/\f d=v)->St w0 bor (iH kl 0 L++(List.range' L.length m).map X) w'->wpList P ops Q rest (Act.put ⟨t0,d0⟩ o.dst v) w'):
  wpList P ops Q (o::rest) ⟨t0,d0⟩ w:=by
 have h1:=hs _ (fun _=>undef) w _ (oT bb _)
 have h2:ak P o (Act.eval ⟨t0,d0⟩) w (bQ [List.range' L.length m] [kl] D 0 o.dst (Act.eval ⟨t0,d0⟩) (fun _=>undef) w fun q=>L.getD q eZ):=by
  have h1':cq #[o] (Act.eval ⟨t0,d0⟩) o (ak P o (Act.eval ⟨t0,d0⟩) w (bQ [List.range' L.length m] [kl] D 0 o.dst (Act.eval ⟨t0,d0⟩) (fun _=>undef) w fun q=>L.getD q eZ)) _:=h1
  unfold cq at h1'
  rw[hg] at h1'
  exact h1'
 exact sqD m kl bb h2 hg hk hn
end
section
variable{P:Program}{Q:Exit->Act->World->Prop}{rest:List Oper}{o:Oper}{ops:Array Oper}{t t':List Value}{d0:List Deferred}{w0 w:World}{bor:List Nat}{L:List Ent}
abbrev rg(L:List Ent):List (List Nat):=[List.range L.length]
theorem sqv{d:Tmp}(V:Value)(bb:St w0 bor L w)(hs:bM P #[o] [0] ⟨t.toArray,d0⟩ w0 bor L (rg L) [[]] [[]] (fun _ f _ _=>f d=V) 0)
  (h:∀w',St w0 bor L w'->wpList P ops Q rest ⟨t'.toArray,d0⟩ w') (hg:o.guard=none:=by rfl) (hd:o.dst=some d:=by rfl) (ht:t.set d V=t':=by dsimp only[List.set]):wpList P ops Q (o::rest) ⟨t.toArray,d0⟩ w:=by
 refine sqG 0 [] bb hs hg (fun q hq=>by cases hq) fun f j X v w' hD hv hs'=>?_
 have e:v=V:=by rw[<-hD,(hv d hd).1]
 subst e
 rw[mI,List.range'_zero,List.map_nil,List.append_nil] at hs'
 rw[hd]
 show wpList P ops Q rest ⟨t.toArray.setIfInBounds d v,d0⟩ w'
 rw[List.setIfInBounds_toArray,ht]
 exact h w' hs'
theorem sql{d:Tmp}(V:Value)(bb:St w0 bor L w)(hr:∀{e:Operand->Value}{j:Tmp->Value}{W:World}{X:Nat->Ent},CtxV #[o] [0] ⟨t.toArray,d0⟩ w0 bor L (rg L) (fun _ _ _ _=>True) 0 e j W X->(execOp e o).run P W= .ok (.value V) W)
  (h:wpList P ops Q rest ⟨t'.toArray,d0⟩ w) (hg:o.guard=none:=by rfl) (hd:o.dst=some d:=by rfl) (ht:t.set d V=t':=by dsimp only[List.set]):wpList P ops Q (o::rest) ⟨t.toArray,d0⟩ w:=by
 refine wpList_plain hg fun K hK=>?_
 refine ak.wp (post:=fun v w'=>v=V/\w'=w) (ak.value (hr (oT bb fun _=>undef)) ⟨rfl,rfl⟩) fun v w' ⟨e1,e2⟩=>hK _ _ ?_
 subst e1 e2
 rw[hd]
 show wpList P ops Q rest ⟨t.toArray.setIfInBounds d v,d0⟩ w'
 rw[List.setIfInBounds_toArray,ht]
 exact h
theorem sqN{Z:Type}{d:Tmp}(f:Value->Ent->Z)(V:Z->Value)(E:Z->Ent)(bb:St w0 bor L w)(hs:bM P #[o] [0] ⟨t.toArray,d0⟩ w0 bor L (rg L) [[L.length]] [[]] (fun _ j e X=>j d=V (f (e d) (X L.length))/\X L.length=E (f (e d) (X L.length))) 0)
  (h:∀z w',St w0 bor (L++[E z]) w'->wpList P ops Q rest ⟨(t.set d (V z)).toArray,d0⟩ w') (hg:o.guard=none) (hd:o.dst=some d):wpList P ops Q (o::rest) ⟨t.toArray,d0⟩ w:=by
 refine sqG 1 [] bb hs hg (fun q hq=>by cases hq) fun j e X v w' hD hv hs'=>?_
 rw[(hv d hd).1,(hv d hd).2] at hD
 have h2:=h (f v (X L.length)) w' (by rw[<-hD.2];rw[mI] at hs';exact hs')
 rw[<-hD.1] at h2
 rw[hd]
 show wpList P ops Q rest ⟨t.toArray.setIfInBounds d v,d0⟩ w'
 rw[List.setIfInBounds_toArray]
 exact h2
theorem sqC{Z:Type}{d:Tmp}(f:Value->Ent->Z)(V:Z->Value)(E:Z->Ent)(q:Nat)(bb:St w0 bor L w)(hs:bM P #[o] [0] ⟨t.toArray,d0⟩ w0 bor L (rg L) [[L.length]] [[q]] (fun _ j e X=>j d=V (f (e d) (X L.length))/\X L.length=E (f (e d) (X L.length))) 0)
  (h:∀z w',St w0 bor (L.set q (E z)) w'->wpList P ops Q rest ⟨(t.set d (V z)).toArray,d0⟩ w') (hk:Nat.blt q L.length=true) (hg:o.guard=none) (hd:o.dst=some d):wpList P ops Q (o::rest) ⟨t.toArray,d0⟩ w:=by
 refine sqG 1 [q] bb hs hg (fun x hx=>by rw[List.mem_singleton.1 hx];simpa using hk) fun j e X v w' hD hv hs'=>?_
 rw[(hv d hd).1,(hv d hd).2] at hD
 have h2:=h (f v (X L.length)) w' (by rw[<-hD.2];exact hs'.perm (mK _ q L 0 (Nat.zero_le _) (by simpa using hk)))
 rw[<-hD.1] at h2
 rw[hd]
 show wpList P ops Q rest ⟨t.toArray.setIfInBounds d v,d0⟩ w'
 rw[List.setIfInBounds_toArray]
 exact h2
theorem d9{Z:Type}{d:Tmp}{L':Z->List Ent}{t':Z->List Value}(f0:Value->Z)(V:Z->Value)(E:Z->Ent)(bb:St w0 bor L w)(hs:bM P #[o] [0] ⟨t.toArray,d0⟩ w0 bor L (rg L) [[L.length]] [[]] (fun _ f e X=>f d=V (f0 (e d))/\X L.length=E (f0 (e d))) 0)
  (h:∀z0 w',St w0 bor (L' z0) w'->wpList P ops Q rest ⟨(t' z0).toArray,d0⟩ w') (hg:o.guard=none:=by rfl) (hd:o.dst=some d:=by rfl) (ht:∀z0,t.set d (V z0)=(t' z0):=by intro z0;dsimp only[List.set]) (hL:∀z0,L++[E z0]=(L' z0):=by intro z0;dsimp only[List.cons_append,List.nil_append]):
  wpList P ops Q (o::rest) ⟨t.toArray,d0⟩ w:=
 sqN (fun v x=>f0 v) (fun r=>V r) (fun r=>E r) bb hs (fun r w' hw=>by rw[ht];exact h r w' (hL r ▸ hw)) hg hd
theorem gL{d:Tmp}{L':List Ent}{t':List Value}(V:Value)(E:Ent)(q:Nat)(bb:St w0 bor L w)(hs:bM P #[o] [0] ⟨t.toArray,d0⟩ w0 bor L (rg L) [[L.length]] [[q]] (fun _ e f X=>e d=V/\X L.length=E) 0)
  (h:∀w',St w0 bor L' w'->wpList P ops Q rest ⟨t'.toArray,d0⟩ w') (hg:o.guard=none:=by rfl) (hd:o.dst=some d:=by rfl) (ht:t.set d V=t':=by dsimp only[List.set]) (hL:L.set q (E)=L':=by dsimp only[List.set]) (hk:Nat.blt q L.length=true:=by rfl):
  wpList P ops Q (o::rest) ⟨t.toArray,d0⟩ w:=
 sqC (fun _ _=>()) (fun r=>V) (fun r=>E) q bb hs (fun r w' hw=>by rw[ht];exact h w' (hL ▸ hw)) hk hg hd
theorem bF{R:Type}{d:Tmp}{L':R->List Ent}{t':List Value}(g:Ent->R)(V:Value)(E:R->Ent)(q:Nat)(bb:St w0 bor L w)(hs:bM P #[o] [0] ⟨t.toArray,d0⟩ w0 bor L (rg L) [[L.length]] [[q]] (fun _ e f X=>e d=V/\X L.length=E (g (X L.length))) 0)
  (h:∀r w',St w0 bor (L' r) w'->wpList P ops Q rest ⟨t'.toArray,d0⟩ w') (hg:o.guard=none:=by rfl) (hd:o.dst=some d:=by rfl) (ht:t.set d V=t':=by dsimp only[List.set]) (hL:∀r,L.set q (E r)=(L' r):=by intro r;dsimp only[List.set]) (hk:Nat.blt q L.length=true:=by rfl):
  wpList P ops Q (o::rest) ⟨t.toArray,d0⟩ w:=
 sqC (fun v x=>g x) (fun r=>V) (fun r=>E r) q bb hs (fun r w' hw=>by rw[ht];exact h r w' (hL r ▸ hw)) hk hg hd
theorem P6{Z:Type}{d:Tmp}{L':Z->List Ent}{t':Z->List Value}(f0:Value->Z)(V:Z->Value)(E:Z->Ent)(q:Nat)(bb:St w0 bor L w)(hs:bM P #[o] [0] ⟨t.toArray,d0⟩ w0 bor L (rg L) [[L.length]] [[q]] (fun _ f e X=>f d=V (f0 (e d))/\X L.length=E (f0 (e d))) 0)
  (h:∀z0 w',St w0 bor (L' z0) w'->wpList P ops Q rest ⟨(t' z0).toArray,d0⟩ w') (hg:o.guard=none:=by rfl) (hd:o.dst=some d:=by rfl) (ht:∀z0,t.set d (V z0)=(t' z0):=by intro z0;dsimp only[List.set]) (hL:∀z0,L.set q (E z0)=(L' z0):=by intro z0;dsimp only[List.set]) (hk:Nat.blt q L.length=true:=by rfl):
  wpList P ops Q (o::rest) ⟨t.toArray,d0⟩ w:=
 sqC (fun v x=>f0 v) (fun r=>V r) (fun r=>E r) q bb hs (fun r w' hw=>by rw[ht];exact h r w' (hL r ▸ hw)) hk hg hd
theorem nv{Z:Type}{R:Type}{d:Tmp}{L':Z->R->List Ent}{t':Z->List Value}(f0:Value->Z)(g:Ent->R)(V:Z->Value)(E:Z->R->Ent)(q:Nat)(bb:St w0 bor L w)(hs:bM P #[o] [0] ⟨t.toArray,d0⟩ w0 bor L (rg L) [[L.length]] [[q]] (fun _ f e X=>f d=V (f0 (e d))/\X L.length=E (f0 (e d)) (g (X L.length))) 0)
  (h:∀z0 r w',St w0 bor (L' z0 r) w'->wpList P ops Q rest ⟨(t' z0).toArray,d0⟩ w') (hg:o.guard=none:=by rfl) (hd:o.dst=some d:=by rfl) (ht:∀z0,t.set d (V z0)=(t' z0):=by intro z0;dsimp only[List.set]) (hL:∀z0 r,L.set q (E z0 r)=(L' z0 r):=by intro z0 r;dsimp only[List.set]) (hk:Nat.blt q L.length=true:=by rfl):
  wpList P ops Q (o::rest) ⟨t.toArray,d0⟩ w:=
 sqC (fun v x=>((f0 v),(g x))) (fun r=>V r.1) (fun r=>E r.1 r.2) q bb hs (fun r w' hw=>by rw[ht];exact h r.1 r.2 w' (hL r.1 r.2 ▸ hw)) hk hg hd
theorem ti{Z:Type}{Y:Type}{d:Tmp}{L':Z->Y->List Ent}{t':Z->Y->List Value}(f0:Value->Z)(f1:Value->Y)(V:Z->Y->Value)(E:Z->Y->Ent)(q:Nat)(bb:St w0 bor L w)(hs:bM P #[o] [0] ⟨t.toArray,d0⟩ w0 bor L (rg L) [[L.length]] [[q]] (fun _ f e X=>f d=V (f0 (e d)) (f1 (e d))/\X L.length=E (f0 (e d)) (f1 (e d))) 0)
  (h:∀z0 z1 w',St w0 bor (L' z0 z1) w'->wpList P ops Q rest ⟨(t' z0 z1).toArray,d0⟩ w') (hg:o.guard=none:=by rfl) (hd:o.dst=some d:=by rfl) (ht:∀z0 z1,t.set d (V z0 z1)=(t' z0 z1):=by intro z0 z1;dsimp only[List.set]) (hL:∀z0 z1,L.set q (E z0 z1)=(L' z0 z1):=by intro z0 z1;dsimp only[List.set]) (hk:Nat.blt q L.length=true:=by rfl):
  wpList P ops Q (o::rest) ⟨t.toArray,d0⟩ w:=
 sqC (fun v x=>((f0 v),(f1 v))) (fun r=>V r.1 r.2) (fun r=>E r.1 r.2) q bb hs (fun r w' hw=>by rw[ht];exact h r.1 r.2 w' (hL r.1 r.2 ▸ hw)) hk hg hd
theorem xP{Z:Type}{Y:Type}{R:Type}{d:Tmp}{L':Z->Y->R->List Ent}{t':Z->Y->List Value}(f0:Value->Z)(f1:Value->Y)(g:Ent->R)(V:Z->Y->Value)(E:Z->Y->R->Ent)(q:Nat)(bb:St w0 bor L w)(hs:bM P #[o] [0] ⟨t.toArray,d0⟩ w0 bor L (rg L) [[L.length]] [[q]] (fun _ f e X=>f d=V (f0 (e d)) (f1 (e d))/\X L.length=E (f0 (e d)) (f1 (e d)) (g (X L.length))) 0)
  (h:∀z0 z1 r w',St w0 bor (L' z0 z1 r) w'->wpList P ops Q rest ⟨(t' z0 z1).toArray,d0⟩ w') (hg:o.guard=none:=by rfl) (hd:o.dst=some d:=by rfl) (ht:∀z0 z1,t.set d (V z0 z1)=(t' z0 z1):=by intro z0 z1;dsimp only[List.set]) (hL:∀z0 z1 r,L.set q (E z0 z1 r)=(L' z0 z1 r):=by intro z0 z1 r;dsimp only[List.set]) (hk:Nat.blt q L.length=true:=by rfl):
  wpList P ops Q (o::rest) ⟨t.toArray,d0⟩ w:=
 sqC (fun v x=>((f0 v),(f1 v),(g x))) (fun r=>V r.1 r.2.1) (fun r=>E r.1 r.2.1 r.2.2) q bb hs (fun r w' hw=>by rw[ht];exact h r.1 r.2.1 r.2.2 w' (hL r.1 r.2.1 r.2.2 ▸ hw)) hk hg hd
theorem sqc{L':List Ent}(E:Ent)(q:Nat)(bb:St w0 bor L w)(hs:bM P #[o] [0] ⟨t.toArray,d0⟩ w0 bor L (rg L) [[L.length]] [[q]] (fun _ _ _ X=>X L.length=E) 0)
  (h:∀w',St w0 bor (L') w'->wpList P ops Q rest ⟨t.toArray,d0⟩ w') (hL:L.set q (E)=(L'):=by dsimp only[List.set]) (hk:Nat.blt q L.length=true:=by rfl) (hg:o.guard=none:=by rfl) (hd:o.dst=none:=by rfl):
  wpList P ops Q (o::rest) ⟨t.toArray,d0⟩ w:=by
 refine sqG 1 [q] bb hs hg (fun x hx=>by rw[List.mem_singleton.1 hx];simpa using hk) fun d e X v w' hD hv hs'=>?_
 have e2:X L.length=E:=hD
 rw[show List.range' L.length 1=[L.length] from rfl,List.map_cons,List.map_nil,e2] at hs'
 have pY:=hs'.perm (mK _ q L 0 (Nat.zero_le _) (by simpa using hk))
 rw[Nat.sub_zero,hL] at pY
 have h2:=h w' pY
 rw[hd]
 exact h2
theorem sva{cr kl:List (List Nat)}(h:∀{d:Operand->Value}{e:Tmp->Value}{W:World}{X:Nat->Ent},CtxV #[o] [0] a0 w0 bor X0 us D 0 d e W X->ak P o d W (bQ cr kl D 0 o.dst d e W X))(hg:o.guard=none:=by rfl):bM P #[o] [0] a0 w0 bor X0 us cr kl D 0:=
 zw rfl hg fun _ _ _ _ cx=>h cx
def ov:Op->Array Operand
 | .call c=>c.args
 |_=>#[]
theorem sqk{d:Tmp}(V:Value)(bb:St w0 bor L w){f:FuncId}(hs:∀{j:Operand->Value}{m:Tmp->Value}{W:World}{X:Nat->Ent},CtxV #[o] [0] ⟨t.toArray,d0⟩ w0 bor L (rg L) (fun _ k _ _=>k d=V) 0 j m W X->∃args,Calls P f args W (fun e W'=>e= .returned V/\Ext W W')/\(ov o.op).map j=args)
  (h:∀w',St w0 bor L w'->wpList P ops Q rest ⟨t'.toArray,d0⟩ w') (hop:o.op= .call c:=by rfl) (hcal:c.callee= .value (.func f):=by rfl) (hg:o.guard=none:=by rfl) (hd:o.dst=some d:=by rfl) (ht:t.set d V=t':=by dsimp only[List.set]) (hf:gD P f=true:=by kernel_rfl):wpList P ops Q (o::rest) ⟨t.toArray,d0⟩ w:=
 sqv V bb (xsc rfl id hop hcal (fun cx=>by have h1:=hs cx;rw[hop] at h1;exact h1) hf hg hd) h (ht:=ht) (hg:=hg) (hd:=hd)
theorem am{d:Tmp}(q:Nat){ty:Nat}{cs:List Value}(bb:St w0 bor L w)(h:wpList P ops Q rest ⟨t'.toArray,d0⟩ w)(hop:o.op= .load ty' x:=by rfl)(hx:Act.eval ⟨t.toArray,d0⟩ x=po b off:=by rfl)(hq:L[q]? =some (eB b ty cs.toArray):=by rfl)(hc:Nat.blt off cs.length=true:=by rfl)
  (hz:jd P ty'=some false:=by kernel_rfl) (hg:o.guard=none:=by rfl) (hd:o.dst=some d:=by rfl) (ht:t.set d (gS cs off)=t':=by dsimp only[List.set,gS]):wpList P ops Q (o::rest) ⟨t.toArray,d0⟩ w:=by
 refine wpList_plain hg fun K hK=>?_
 have hb:Blk w b ty cs.toArray:=bb.blk q hq
 have hlt:off<cs.length:=by simpa using hc
 have hcell:w.cell? ⟨b,off,none⟩=some (gS cs off):=by
  rw[hb.cell off,List.getElem?_toArray,uf hlt]
 refine ak.wp (post:=fun v w'=>v=gS cs off/\w'=w) (ak.value (ce hop hz hx hcell) ⟨rfl,rfl⟩) fun v w' ⟨e1,e2⟩=>hK _ _ ?_
 subst e1 e2
 rw[hd]
 show wpList P ops Q rest ⟨t.toArray.setIfInBounds d _,d0⟩ w'
 rw[List.setIfInBounds_toArray,ht]
 exact h
theorem bW{d:Tmp}{ty:Nat}{t':Nat->List Value}(cs:Array Value)(bb:St w0 bor L w)(h:∀b w',St w0 bor (L' b) w'->wpList P ops Q rest ⟨(t' b).toArray,d0⟩ w')(hop:o.op= .alloc ty:=by rfl)(hz:lV P ty=some cs:=by kernel_rfl)
  (hg:o.guard=none:=by rfl) (hd:o.dst=some d:=by rfl) (ht:∀b,t.set d (vp b)=t' b:=by intro b;dsimp only[List.set]) (hL:∀b,L++[eB b ty cs]=L' b:=by intro b;dsimp only[List.cons_append,List.nil_append]):wpList P ops Q (o::rest) ⟨t.toArray,d0⟩ w:=
 d9 pb vp (fun b=>eB b ty cs) bb (sva (fun cx=>zf hop hz hd rfl (fun _ _ _ _ _=> .intro)) hg) h (ht:=ht) (hL:=hL) (hg:=hg) (hd:=hd)
theorem bD{d:Tmp}(q n:Nat){ty:Nat}{cs:List Value}(bb:St w0 bor L w)(h:wpList P ops Q rest ⟨t'.toArray,d0⟩ w)(hop:o.op= .load ty' x:=by rfl)(hx:Act.eval ⟨t.toArray,d0⟩ x=po b off:=by rfl)(hq:L[q]? =some (eB b ty cs.toArray):=by rfl)
  (ha:jd P ty'=some true:=by kernel_rfl) (hn:szP P ty'=some n:=by kernel_rfl) (hle:Nat.ble (off+n) cs.length=true:=by rfl) (hg:o.guard=none:=by rfl) (hd:o.dst=some d:=by rfl) (ht:t.set d (.agg ((cs.drop off).take n).toArray)=t':=by dsimp only[List.set,List.drop,List.take]):wpList P ops Q (o::rest) ⟨t.toArray,d0⟩ w:=by
 refine wpList_plain hg fun K hK=>?_
 have hb:Blk w b ty cs.toArray:=bb.blk q hq
 refine ak.wp (post:=fun v w'=>v= .agg ((cs.drop off).take n).toArray/\w'=w) (ak.value (nG hop ha hn hx hb (by simpa using Nat.le_of_ble_eq_true hle) rfl) ⟨rfl,rfl⟩) fun v w' ⟨e1,e2⟩=>hK _ _ ?_
 subst e1 e2
 rw[hd]
 show wpList P ops Q rest ⟨t.toArray.setIfInBounds d _,d0⟩ w'
 rw[List.setIfInBounds_toArray,ht]
 exact h
theorem bX{d:Tmp}{ty:Nat}{v:Value}{t':Nat->List Value}(cs:Array Value)(bb:St w0 bor L w)(h:∀b w',St w0 bor (L' b) w'->wpList P ops Q rest ⟨(t' b).toArray,d0⟩ w')(hop:o.op= .box ty x:=by rfl)(hx:Act.eval ⟨t.toArray,d0⟩ x=v:=by rfl)(hcs:v.cells=cs:=by rfl)
  (hg:o.guard=none:=by rfl) (hd:o.dst=some d:=by rfl) (ht:∀b,t.set d (vp b)=t' b:=by intro b;dsimp only[List.set]) (hL:∀b,L++[eB b ty cs]=L' b:=by intro b;dsimp only[List.cons_append,List.nil_append]):wpList P ops Q (o::rest) ⟨t.toArray,d0⟩ w:=by
 refine sqD (D:=fun _ f j X=>f d=vp (pb (j d))/\X L.length=eB (pb (j d)) ty cs) 1 [] bb (qp hop hx hcs hd rfl fun f k X' hs hb hv hx=>⟨hv,hx⟩) hg (fun q hq=>by cases hq) fun f j X u w' hD hv hs'=>?_
 have e:u=vp (pb u):=by
  have:=hD.1
  rw[(hv d hd).1,(hv d hd).2] at this
  exact this
 have e2:X L.length=eB (pb u) ty cs:=by
  have:=hD.2
  rw[(hv d hd).2] at this
  exact this
 rw[show List.range' L.length 1=[L.length] from rfl,List.map_cons,List.map_nil,e2,mI,hL] at hs'
 have h2:=h (pb u) w' hs'
 rw[<-ht,<-e] at h2
 rw[hd]
 show wpList P ops Q rest ⟨t.toArray.setIfInBounds d u,d0⟩ w'
 rw[List.setIfInBounds_toArray]
 exact h2
theorem aT{ty:Nat}{v:Value}{L':List Ent}(q:Nat)(cs':Array Value)(bb:St w0 bor L w)(h:∀w',St w0 bor L' w'->wpList P ops Q rest ⟨t.toArray,d0⟩ w')(hop:o.op= .store ty x y:=by rfl)(hx:Act.eval ⟨t.toArray,d0⟩ x=po b off:=by rfl)
  (hy:Act.eval ⟨t.toArray,d0⟩ y=v:=by rfl) (hq:L[q]? =some (eB b ty' cs):=by rfl) (hz:szP P ty=some n:=by kernel_rfl) (hn:v.cells.size=n:=by kernel_rfl) (h1:v.cells.toList.all Value.oneCell'=true:=by kernel_rfl) (hle:Nat.ble (off+n) cs.size=true:=by rfl) (hcs:jP cs off v.cells.toList=cs':=by kernel_rfl)
  (hL:L.set q (eB b ty' cs')=L':=by dsimp only[List.set]) (hg:o.guard=none:=by rfl) (hd:o.dst=none:=by rfl):wpList P ops Q (o::rest) ⟨t.toArray,d0⟩ w:=by
 have hql:q<L.length:=(List.getElem?_eq_some_iff.1 hq).1
 refine sqD (D:=fun _ _ _ X=>X L.length=eB b ty' cs') 1 [q] bb ?_ hg (fun z hz=>by rw[List.mem_singleton.1 hz];exact hql) fun d f X v w' hD hv hs'=>?_
 ·exact pa hop hx hy hz hn h1 (oT (o:=o) bb _) (by rw[List.getD_eq_getElem?_getD,hq];rfl) (by simp[atV];exact hql) (Nat.le_of_ble_eq_true hle) hcs hd rfl rfl (fun _ _ _ _ _ hX=>hX)
 ·rw[show List.range' L.length 1=[L.length] from rfl,List.map_cons,List.map_nil,show X L.length=eB b ty' cs' from hD] at hs'
  have pY:=hs'.perm (mK _ q L 0 (Nat.zero_le _) (by simpa using hql))
  rw[Nat.sub_zero,hL] at pY
  rw[hd]
  exact h w' pY
inductive SE where
 |k (d:Tmp) (v:Value)
 |m (d j:Tmp)
 |e (d:Tmp) (raw v:Value) (h:raw=v)
 |s (d:Tmp) (side:Prop) (raw v:Value) (hs:side) (h:raw=v)
def SE.d:SE->Tmp
 | .k d _=>d
 | .m d _=>d
 | .e d _ _ _=>d
 | .s d _ _ _ _ _=>d
def SE.v(t:List Value):SE->Value
 | .k _ v=>v
 | .m _ j=>gS t j
 | .e _ _ v _=>v
 | .s _ _ _ v _ _=>v
def SE.want(t:List Value):SE->Option (Prop×Value)
 | .k _ v=>some (True,v)
 | .m _ j=>some (True,gS t j)
 | .e _ raw _ _=>some (True,raw)
 | .s _ side raw _ _ _=>some (side,raw)
theorem SE.ok{t:List Value}{te:SE}{side:Prop}{raw:Value}(h:te.want t=some (side,raw)):side/\raw=te.v t:=by
 cases te with
 |k d v=>cases h;exact⟨trivial,rfl⟩
 |m d j=>cases h;exact⟨trivial,rfl⟩
 |e d raw v hr=>cases h;exact⟨trivial,hr⟩
 |s d side raw v hs hr=>cases h;exact⟨hs,hr⟩
def Jd(t:List Value):Operand->Option Value
 | .tmp j=>some (t.getD j undef)
 | .const v=>some v
 | .global g=>some (.pointer (some ⟨g,0,none⟩))
 | .func f=>some (.func (.func f) #[] #[])
def goS(P:Program):List Oper->List SE->List Value->List (Option (Nat×Bool)×Option Tmp×Option (Prop×Value))
 |o::os,te::tb,t=>(o.guard,o.dst,pOp P o.op (Jd t))::goS P os tb (t.set te.d (te.v t))
 |_,_,_=>[]
def wtS:List SE->List Value->List (Option (Nat×Bool)×Option Tmp×Option (Prop×Value))
 |te::tb,t=>(none,some te.d,te.want t)::wtS tb (t.set te.d (te.v t))
 |_,_=>[]
def nU:List SE->List Value->List Value
 |te::tb,t=>nU tb (t.set te.d (te.v t))
 | [],t=>t
theorem Ir{t:List Value}(x:Operand)(v:Value)(h:Jd t x=some v):Act.eval ⟨t.toArray,d0⟩ x=v:=by
 cases x with
 |tmp j=>
  cases h
  show t.toArray.getD j undef=t.getD j undef
  simp[List.getD_eq_getElem?_getD]
 |const v=>cases h;rfl
 |global g=>cases h;rfl
 |func f=>cases h;rfl
theorem My(tb:List SE):∀{os:List Oper}{t:List Value},os.length=tb.length->goS P os tb t=wtS tb t->wpList P ops Q rest ⟨(nU tb t).toArray,d0⟩ w->wpList P ops Q (os++rest) ⟨t.toArray,d0⟩ w:=by
 induction tb with
 |nil=>
  intro os t hl _ h
  have:=List.eq_nil_of_length_eq_zero hl
  subst this
  exact h
 |cons te tb ih=>
  intro os t hl hg h
  cases os with
  |nil=>cases hl
  |cons o os=>
   rw[goS,wtS,List.cons.injEq,Prod.mk.injEq,Prod.mk.injEq] at hg
   obtain⟨⟨h3,h5,h6⟩,h2⟩:=hg
   refine wpList_plain h3 fun K hK=>?_
   cases hw:te.want t with
   |none=>cases te<;>cases hw
   |some p=>
    obtain⟨side,raw⟩:=p
    rw[hw] at h6
    obtain⟨hs,hr⟩:=SE.ok hw
    refine ak.wp (post:=fun v w'=>v=raw/\w'=w) (ak.value (Bu (Ir (d0:=d0)) h6 hs w) ⟨rfl,rfl⟩) fun v w' e12=>hK _ _ ?_
    obtain⟨e1,e2⟩:=e12
    subst e1
    subst e2
    rw[h5]
    show wpList P ops Q (os++rest) ⟨t.toArray.setIfInBounds te.d v,d0⟩ w'
    rw[List.setIfInBounds_toArray,hr]
    exact ih (by simpa using hl) h2 h
theorem sqp(tb:List SE)(h:wpList P ops Q os' ⟨t'.toArray,d0⟩ w)(ht:nU tb t=t':=by dsimp only[nU,SE.d,SE.v,List.set,gS])(hos:os.drop tb.length=os':=by first|(dsimp only[List.drop,List.length];done)|rfl)(hg:goS P (os.take tb.length) tb t=wtS tb t:=by kernel_rfl)(hn:(os.take tb.length).length=tb.length:=by kernel_rfl):wpList P ops Q os ⟨t.toArray,d0⟩ w:=by
 have h2:=My (P:=P) (ops:=ops) (Q:=Q) (d0:=d0) (w:=w) (rest:=os.drop tb.length) tb hn hg (by rw[ht,hos];exact h)
 rw[List.take_append_drop] at h2
 exact h2
theorem sqr{l:List Oper}(h:wpList P l.toArray Q l ⟨t.toArray,d0⟩ w):(Code.region id l.toArray false).wp P Q ⟨t.toArray,d0⟩ w:=wp_region_lit h
theorem sqs{l:List Oper}(tb:List SE)(h:wpList P l.toArray Q os' ⟨t'.toArray,d0⟩ w)(ht:nU tb t=t':=by dsimp only[nU,SE.d,SE.v,List.set,gS])(hos:l.drop tb.length=os':=by first|(dsimp only[List.drop,List.length];done)|rfl)(hg:goS P (l.take tb.length) tb t=wtS tb t:=by kernel_rfl)(hn:(l.take tb.length).length=tb.length:=by kernel_rfl):(Code.region id l.toArray false).wp P Q ⟨t.toArray,d0⟩ w:=sqr (sqp tb h ht hos hg hn)
theorem wsq{l:List Oper}{c:Code}(tb:List SE)(h:wpList P l.toArray (Exit.then (c.wp P Q) Q) os' ⟨t'.toArray,d0⟩ w)(ht:nU tb t=t':=by dsimp only[nU,SE.d,SE.v,List.set,gS])(hos:l.drop tb.length=os':=by first|(dsimp only[List.drop,List.length];done)|rfl)(hg:goS P (l.take tb.length) tb t=wtS tb t:=by kernel_rfl)(hn:(l.take tb.length).length=tb.length:=by kernel_rfl):(Code.seq (Code.region id l.toArray false) c).wp P Q ⟨t.toArray,d0⟩ w:=wq (sqr (sqp tb h ht hos hg hn))
end
def jl(u:Nat->Value)(a:Nat):Nat->List Value
 |0=>[]
 |n+1=>u a::jl u (a+1) n
def ovr(u:Nat->Value):List (Nat×Nat×Nat×List Value)->List Value->List Value
 | [],t=>t
 |(k,a,n,vs)::l,t=>t.take k++(jl u a n++(vs++ovr u l (t.drop (k+n+vs.length))))
theorem aQ{w:World}{c:Code}(F:List Value->Nat->Act->World->Prop)(n0:Nat)(h0:F t n0 ⟨t.toArray,d0⟩ w)
  (round:∀n a w,F t n a w->c.wp P (Exit.then (fun a' w'=>∃m,m<n/\F t m a' w') Q) a w):(Code.loop c).wp P Q ⟨t.toArray,d0⟩ w:=Ho (F t) n0 h0 round
theorem mu{x y:Code}(R:List Value->Act->World->Prop)(hx:x.wp P (Exit.then (R t) Q) ⟨t.toArray,d0⟩ w)(hy:∀a' w',R t a' w'->y.wp P Q a' w'):(Code.seq x y).wp P Q ⟨t.toArray,d0⟩ w:=
 wq (Code.wp_mono (fun e a' w' h=>by cases e<;>first|exact hy _ _ h|exact h) hx)
theorem ovz{x:Code}{S:List (Nat×Nat×Nat×List Value)}{t':(Nat->Value)->List Value}(h:a=⟨(ovr (jv a) S t).toArray,d0⟩)(k:∀u,x.wp P Q ⟨(t' u).toArray,d0⟩ w)
  (ht:∀u,ovr u S t=t' u:=by intro u;dsimp only[ovr,jl,List.set,List.take,List.drop,List.cons_append,List.nil_append,List.append_nil,List.length_cons,List.length_nil,Nat.reduceAdd,Nat.add_zero,Nat.zero_add]):x.wp P Q a w:=by
 rw[h,ht];exact k _
theorem wct{c:Operand}{x y:Code}{b:Bool}(hb:b=true)(h:x.wp P Q a w)(hc:a.eval c= .bool b:=by rfl):(Code.cond c x y).wp P Q a w:=wp_cond_true (hc.trans (congrArg Value.bool hb)) h
theorem wcf{c:Operand}{x y:Code}{b:Bool}(hb:b=false)(h:y.wp P Q a w)(hc:a.eval c= .bool b:=by rfl):(Code.cond c x y).wp P Q a w:=wp_cond_false (hc.trans (congrArg Value.bool hb)) h
theorem wbs{c:Operand}{x y:Code}{b:Bool}(h1:b=true->x.wp P Q a w)(h2:b=false->y.wp P Q a w)(hc:a.eval c= .bool b:=by rfl):(Code.cond c x y).wp P Q a w:=by
 cases b with
 |true=>exact wct rfl (h1 rfl) hc
 |false=>exact wcf rfl (h2 rfl) hc
theorem wds{c:Operand}{x y:Code}{p:Prop}{i:Decidable p}(h1:decide p=true->p->x.wp P Q a w)(h2:decide p=false->¬p->y.wp P Q a w)(hc:a.eval c= .bool (decide p):=by rfl):(Code.cond c x y).wp P Q a w:=
 wbs (fun h=>h1 h (of_decide_eq_true h)) (fun h=>h2 h (of_decide_eq_false h)) hc
abbrev sI(d:Tmp)(z:Int)(h: -9223372036854775808<=z/\z<=9223372036854775807):SE:= .e d (.int .i64 (IntKind.i64.wrap z)) (.int .i64 z) (congrArg _ (IntWalk.i64_in _ h))
abbrev sJ(d:Tmp)(r z:Int)(h: -9223372036854775808<=r/\r<=9223372036854775807)(e:r=z):SE:= .e d (.int .i64 (IntKind.i64.wrap r)) (.int .i64 z) (congrArg _ ((IntWalk.i64_in _ h).trans e))
abbrev sW(d:Tmp)(k:IntKind)(r z:Int)(h:k.wrap r=z):SE:= .e d (.int k (k.wrap r)) (.int k z) (congrArg _ h)
abbrev sRe(d:Tmp)(k:IntKind)(a b z:Int)(h:a.tmod b=z)(hb:b≠0:=by decide):SE:= .s d (b≠0) (.int k (a.tmod b)) (.int k z) hb (congrArg _ h)
abbrev sQu(d:Tmp)(k:IntKind)(a b z:Int)(h:k.wrap (a.tdiv b)=z)(hb:b≠0:=by decide):SE:= .s d (b≠0) (.int k (k.wrap (a.tdiv b))) (.int k z) hb (congrArg _ h)
abbrev sAn(d:Tmp)(k:IntKind)(a b z:Int)(h:k.wrap ((BitVec.ofInt k.bits a&&& BitVec.ofInt k.bits b).toNat:Int)=z):SE:= .e d (.int k (k.wrap ((BitVec.ofInt k.bits a&&& BitVec.ofInt k.bits b).toNat:Int))) (.int k z) (congrArg _ h)
abbrev sS(d:Tmp)(a b:ByteArray)(h:a.size+b.size<=9223372036854775807):SE:= .s d (a.size+b.size<=9223372036854775807) (.string (a++b)) (.string (a++b)) h rfl
def isG(g:Nat):Bool->Option (Nat×Bool)->Bool
 |true,some (k,true)=>k==g
 |false,some (k,false)=>k==g
 |_,_=>false
def gOf(o:Oper):Nat×Bool:=o.guard.getD (0,true)
def ung(p:Nat×Bool)(o:Oper):Oper:=⟨o.dst,o.op,o.type,o.pos,o.after,bif isG p.1 p.2 o.guard then none else o.guard⟩
def kb(ops:Array Oper)(p:Nat×Bool)(dg:Option Tmp):List Oper->List Tmp->List Tmp->Bool
 | [],[],_=>true
 |o::os,d::ds,seen=>decide (o.dst=some d)&&!(decide (dg=some d))&&(isG p.1 p.2 o.guard||(match o.guard with
  |some (k,_)=>match bh ops k with
   |some e=>seen.contains e
   |none=>false
  |none=>false))&&kb ops p dg os ds (d::seen)
 |_,_,_=>false
def lL(q:Bool):List Tmp->List Value->List Value->List Value
 | [],t,_=>t
 |d::ds,t,t1=>lL q ds (t.set d (mb q (gS t1 d))) t1
def qb:Bool->Bool->Bool
 |x,true=>x
 |x,false=>!x
section
variable{P:Program}{Q:Exit->Act->World->Prop}{rest:List Oper}{o:Oper}{ops:Array Oper}{d0:List Deferred}{w0 w:World}{bor:List Nat}{L:List Ent}{g dg:Nat}{b:Bool}
theorem wu{o:Oper}{v:Value}{k:Nat}(h:o.dst≠some k):(a.put o.dst v).tmps[k]? =a.tmps[k]? :=by
 cases hd:o.dst with
 |none=>rfl
 |some d=>
  show (a.tmps.setIfInBounds d v)[k]? = _
  rw[Array.getElem?_setIfInBounds_ne]
  rintro rfl
  exact h hd
theorem D3{o:Oper}{v:Value}:(a.put o.dst v).tmps.size=a.tmps.size:=by
 cases hd:o.dst with
 |none=>rfl
 |some d=>exact Array.size_setIfInBounds
theorem yl{a:Act}{K K':Act->World->Prop}{Q Q':Exit->Act->World->Prop}(h:∀(a1:Act) v w',a1.tmps=a.tmps->K (a1.put o.dst v) w'->K' (a1.put o.dst v) w')(hQ:∀e a w,e≠ .normal->Q e a w->Q' e a w){r:Result Next}(hh:o.upon P a K Q r):o.upon P a K' Q' r:=by
 have hL:LetsOut Q->LetsOut Q':=fun⟨a,w,h⟩=>⟨a,w,hQ _ _ _ (by intro h;cases h) h⟩
 cases r with
 |ok n w'=>
  cases n<;>simp only[Oper.upon] at hh |- <;>
   first
    |exact h _ _ _ rfl hh
    |exact Calls.mono hh (fun e w'' he=>by cases e<;>first|exact h _ _ _ rfl he|exact hL he|exact hQ _ _ _ (by intro h;cases h) he)
    |exact Rows.mono hh (fun _ _ he=>h _ _ _ rfl he)
 |halt x w'=>cases x<;>simp only[Oper.upon] at hh |- <;>exact hQ _ _ _ (by intro h;cases h) hh
theorem EM{gd:Option (Nat×Bool)}(h:isG p.1 p.2 gd=true):gd=some p:=by
 obtain⟨g,b⟩:=p
 cases b<;>cases gd<;>try cases h
 all_goals
  rename_i x;obtain⟨k,c⟩:=x
  cases c<;>first|cases h|(have:=eq_of_beq h;dsimp only at this;subst this;rfl)
def vB:Value->Option Bool
 | .bool b=>some b
 |_=>none
theorem pt{t:Array Value}{v:Value}(hd:bh ops g=some dg)(hv:t[dg]? =some v):yielded ops t g=vB v:=by
 unfold yielded
 have:(ops[g]?).bind (·.dst)=some dg:=hd
 rw[this,Option.bind_some,hv]
 cases v<;>rfl
theorem ux{t:Array Value}(hd:bh ops p.1=some dg)(hv:t[dg]? =some (.bool p.2)):Region.wanted (ung p o) (yielded ops t)=Region.wanted o (yielded ops t):=by
 unfold Region.wanted ung
 dsimp only
 cases h:isG p.1 p.2 o.guard with
 |false=>rfl
 |true=>
  rw[EM h,cond_true]
  dsimp only
  rw[pt hd hv]
  simp[vB]
theorem Qb{F:Exit->Act->World->Prop}{DS:List Tmp}(hd:bh ops p.1=some dg)
  (hF:∀e a w,F e a w->e= .normal/\(a.tmps.size=a0.tmps.size->(∀k,k∉DS->a.tmps[k]? =a0.tmps[k]?)->wpList P ops Q rest a w)):
  ∀(os:List Oper) (ds seen:List Tmp) (a:Act) (w:World),kb ops p (some dg) os ds seen=true->(∀d∈ds,d∈DS)->a.tmps[dg]? =some (.bool p.2)->a.tmps.size=a0.tmps.size->(∀k,k∉DS->a.tmps[k]? =a0.tmps[k]?)->wpList P ops F (os.map (ung p)) a w->wpList P ops Q (os++rest) a w:=by
 intro os
 have hQ:∀e a w,e≠ .normal->F e a w->Q e a w:=fun e a w hn h=>absurd (hF e a w h).1 hn
 have hL:LetsOut F->LetsOut Q:=fun⟨a,w,h⟩=>⟨a,w,hQ _ _ _ (by intro h;cases h) h⟩
 induction os with
 |nil=>intro ds seen a w _ _ _ hs hk h;exact(hF _ _ _ h).2 hs hk
 |cons o os ih=>
  intro ds seen a w hc hD hv hs hk h
  cases ds with
  |nil=>cases hc
  |cons d ds=>
   rw[kb] at hc
   simp only[Bool.and_eq_true,decide_eq_true_eq,Bool.not_eq_true',decide_eq_false_iff_not] at hc
   obtain⟨⟨⟨h1,h2⟩,-⟩,h4⟩:=hc
   have hne:o.dst≠some dg:=by rw[h1];exact fun h=>h2 h.symm
   have step:∀(a1:Act) (v:Value) (w':World),a1.tmps=a.tmps->wpList P ops F (os.map (ung p)) (a1.put o.dst v) w'->wpList P ops Q (os++rest) (a1.put o.dst v) w':=fun a1 v w' ha hh=>
    ih ds (d::seen) _ w' h4 (fun x hx=>hD x (List.mem_cons_of_mem _ hx)) (by rw[wu hne,ha];exact hv) (by rw[D3,ha];exact hs)
     (fun k hk'=>by rw[wu,ha];·exact hk k hk'
                    ·rw[h1];rintro⟨⟩;exact hk' (hD d (List.mem_cons_self ..))) hh
   rw[List.map_cons] at h
   rw[List.cons_append]
   unfold wpList at h |-
   rw[ux hd hv] at h
   split
   ·rename_i hw
    rw[if_pos hw] at h
    rcases h with h|⟨ha,hl⟩
    ·exact .inl (yl step hQ h)
    ·exact .inr ⟨ha,hL hl⟩
   ·rename_i hw
    rw[if_neg hw] at h
    exact step a undef w rfl h
theorem OH(hd:bh ops p.1=some dg):∀(os:List Oper) (ds seen:List Tmp) (a:Act) (w:World),kb ops p (some dg) os ds seen=true->a.tmps[dg]? =some (.bool p.2)->wpList P ops Q (os.map (ung p)++rest) a w->wpList P ops Q (os++rest) a w:=by
 intro os
 induction os with
 |nil=>intro ds seen a w _ _ h;exact h
 |cons o os ih=>
  intro ds seen a w hc hv h
  cases ds with
  |nil=>cases hc
  |cons d ds=>
   rw[kb] at hc
   simp only[Bool.and_eq_true,decide_eq_true_eq,Bool.not_eq_true',decide_eq_false_iff_not] at hc
   obtain⟨⟨⟨h1,h2⟩,-⟩,h4⟩:=hc
   have hne:o.dst≠some dg:=by rw[h1];exact fun h=>h2 h.symm
   have step:∀(a1:Act) (v:Value) (w':World),a1.tmps=a.tmps->wpList P ops Q (os.map (ung p)++rest) (a1.put o.dst v) w'->wpList P ops Q (os++rest) (a1.put o.dst v) w':=fun a1 v w' ha hh=>
    ih ds (d::seen) _ w' h4 (by rw[wu hne,ha];exact hv) hh
   rw[List.map_cons,List.cons_append] at h
   rw[List.cons_append]
   unfold wpList at h |-
   rw[ux hd hv] at h
   split
   ·rename_i hw
    rw[if_pos hw] at h
    rcases h with h|⟨ha,hl⟩
    ·exact .inl (yl step (fun _ _ _ _ h=>h) h)
    ·exact .inr ⟨ha,hl⟩
   ·rename_i hw
    rw[if_neg hw] at h
    exact step a undef w rfl h
theorem EU{x:Bool}(hd:bh ops p.1=some dg)(hx:x≠p.2):∀(os:List Oper) (ds seen:List Tmp) (t:List Value),kb ops p (some dg) os ds seen=true->t[dg]? =some (.bool x)->(∀d∈seen,t[d]? =none\/t[d]? =some undef)->
  wpList P ops Q rest ⟨(ds.foldl (fun l d=>l.set d undef) t).toArray,d0⟩ w->wpList P ops Q (os++rest) ⟨t.toArray,d0⟩ w:=by
 intro os
 induction os with
 |nil=>
  intro ds seen t hc _ _ h
  cases ds with
  |nil=>exact h
  |cons d ds=>cases hc
 |cons o os ih=>
  intro ds seen t hc hv hs h
  cases ds with
  |nil=>cases hc
  |cons d ds=>
   rw[kb] at hc
   simp only[Bool.and_eq_true,decide_eq_true_eq,Bool.not_eq_true',decide_eq_false_iff_not] at hc
   obtain⟨⟨⟨h1,h2⟩,h3⟩,h4⟩:=hc
   have hw:Region.wanted o (yielded ops t.toArray)=false:=by
    unfold Region.wanted
    rw[Bool.or_eq_true] at h3
    rcases h3 with h3|h3
    ·rw[EM h3]
     dsimp only
     rw[pt hd (v:= .bool x) (by rw[List.getElem?_toArray];exact hv)]
     simpa[vB] using hx
    ·split at h3
     ·rename_i k c hg
      split at h3
      ·rename_i e he
       rw[hg]
       dsimp only
       rcases hs e (List.contains_iff_mem.1 h3) with h5|h5
       ·unfold yielded
        have:(ops[k]?).bind (·.dst)=some e:=he
        rw[this,Option.bind_some,List.getElem?_toArray,h5];rfl
       ·rw[pt he (v:=undef) (by rw[List.getElem?_toArray];exact h5)];rfl
      ·cases h3
     ·cases h3
   rw[List.cons_append]
   refine wpList_skip hw ?_
   rw[h1]
   show wpList P ops Q (os++rest) ⟨t.toArray.setIfInBounds d undef,d0⟩ w
   rw[List.setIfInBounds_toArray]
   refine ih ds (d::seen) (t.set d undef) h4 ?_ (fun e he=>?_) h
   ·rw[List.getElem?_set_ne (by rintro rfl;exact h2 rfl)];exact hv
   ·rw[List.getElem?_set]
    split
    ·split
     ·exact .inr rfl
     ·exact .inl rfl
    ·rename_i hne
     exact hs e ((List.mem_cons.1 he).resolve_left fun h=>hne h.symm)
theorem uJ:∀(ds:List Tmp) (t t1:List Value),lL false ds t t1=ds.foldl (fun l d=>l.set d undef) t
 | [],_,_=>rfl
 |d::ds,t,t1=>by rw[lL,List.foldl_cons];exact uJ ds _ t1
theorem xg:∀(ds:List Tmp) (t t1:List Value),t1.length=t.length->(∀k,k∉ds->t1[k]? =t[k]?)->lL true ds t t1=t1
 | [],t,t1,_,h=>by rw[lL];exact(List.ext_getElem? fun k=>h k (by simp)).symm
 |d::ds,t,t1,hl,h=>by
  rw[lL]
  refine xg ds _ t1 (by simpa using hl) fun k hk=>?_
  rw[List.getElem?_set]
  split
  ·rename_i e
   subst e
   split
   ·rename_i hd
    exact uf (by rw[hl];exact hd)
   ·rename_i hd
    exact List.getElem?_eq_none (by rw[hl];omega)
  ·rename_i hne
   exact h k (by simp only[List.mem_cons,not_or];exact⟨fun e=>hne e.symm,hk⟩)
def Fn(t:List Value)(d0:List Deferred)(R:World->Prop):Exit->Act->World->Prop:=fun e a w=>e= .normal/\a=⟨t.toArray,d0⟩/\R w
theorem sqe:wpList P ops (Fn t d0 (·=w)) [] ⟨t.toArray,d0⟩ w:=⟨rfl,rfl,rfl⟩
theorem sqE(h:St w0 bor L w):wpList P ops (Fn t d0 (St w0 bor L)) [] ⟨t.toArray,d0⟩ w:=⟨rfl,rfl,h⟩
theorem CI{k:Nat}{v:Value}(hv:gS t k=v)(hl:Nat.blt k t.length=true):t[k]? =some v:=by
 rw[uf (by simpa using hl),hv]
theorem G3(R:World->Prop)(dg:Nat)(ds:List Tmp){g:Nat}{b x:Bool}{t2:List Value}(hv:gS t dg= .bool x)(hR:R w)(h1:x=b->wpList P ops (Fn t1 d0 R) (((o::os).take ds.length).map (ung (gOf o))) ⟨t.toArray,d0⟩ w)
  (h2:∀w',R w'->wpList P ops Q ((o::os).drop ds.length) ⟨t2.toArray,d0⟩ w') (ht:lL (qb x b) ds t t1=t2) (hk:kb ops (gOf o) (bh ops (gOf o).1) ((o::os).take ds.length) ds []=true) (hgo:o.guard=some (g,b)) (hd:bh ops g=some dg) (hl:Nat.blt dg t.length=true):wpList P ops Q (o::os) ⟨t.toArray,d0⟩ w:=by
 replace hv:=CI hv hl
 have hp:gOf o=(g,b):=by unfold gOf;rw[hgo];rfl
 rw[hp] at h1 hk
 dsimp only at hk
 rw[hd] at hk
 rw[show o::os=(o::os).take ds.length++(o::os).drop ds.length from(List.take_append_drop _ _).symm]
 by_cases hx:x=b
 ·refine Qb (p:=(g,b)) (a0:=⟨t.toArray,d0⟩) (F:=Fn t1 d0 R) (DS:=ds) hd ?_ _ ds [] _ _ hk (fun d h=>h) (by rw[List.getElem?_toArray,hv,hx]) rfl (fun _ _=>rfl) (h1 hx)
  rintro e a w' ⟨rfl,rfl,hr⟩
  refine⟨rfl,fun hs hkk=>?_⟩
  have e2:t2=t1:=by
   rw[<-ht,hx,show qb b b=true by cases b<;>rfl]
   exact xg ds t t1 (by simpa using hs) fun k hk=>by simpa using hkk k hk
  rw[<-e2]
  exact h2 w' hr
 ·refine EU (p:=(g,b)) (x:=x) hd hx _ ds [] t hk hv (fun d h=>by cases h) ?_
  rw[<-uJ ds t t1,show false=qb x b by revert hx;cases x<;>cases b<;>simp[qb],ht]
  exact h2 w hR
theorem P7(dg:Nat)(ds:List Tmp){g:Nat}{b x:Bool}(hv:gS t dg= .bool x)(hx:x=b)(h:wpList P ops Q os' ⟨t'.toArray,d0⟩ w)(ht:ds.foldl (fun l d=>l.set d undef) t=t':=by dsimp only[List.foldl,List.set])(hos:(o::os).drop ds.length=os':=by dsimp only[List.drop,List.length])
  (hk:kb ops (gOf o) (bh ops (gOf o).1) ((o::os).take ds.length) ds []=true:=by kernel_rfl) (hgo:o.guard=some (g,!b):=by rfl) (hd:bh ops g=some dg:=by kernel_rfl) (hl:Nat.blt dg t.length=true:=by kernel_rfl):wpList P ops Q (o::os) ⟨t.toArray,d0⟩ w:=by
 replace hv:=CI hv hl
 have hp:gOf o=(g,!b):=by unfold gOf;rw[hgo];rfl
 rw[hp] at hk
 dsimp only at hk
 rw[hd] at hk
 rw[show o::os=(o::os).take ds.length++(o::os).drop ds.length from(List.take_append_drop _ _).symm]
 refine EU (p:=(g,!b)) (x:=x) hd (by rw[hx];cases b<;>simp) _ ds [] t hk hv (fun d h=>by cases h) ?_
 rw[ht,hos];exact h
theorem de(dg:Nat)(ds:List Tmp){g:Nat}{b x:Bool}(hv:gS t dg= .bool x)(hx:x=b)(h:wpList P ops Q os1 ⟨t.toArray,d0⟩ w)
  (hos:((o::os).take ds.length).map (ung (gOf o))++(o::os).drop ds.length=os1:=by dsimp only[List.take,List.drop,List.length,List.map,List.cons_append,List.nil_append,ung,gOf,isG,Option.getD,Nat.reduceBEq,cond_true,cond_false]) (hk:kb ops (gOf o) (bh ops (gOf o).1) ((o::os).take ds.length) ds []=true:=by kernel_rfl) (hgo:o.guard=some (g,b):=by rfl) (hd:bh ops g=some dg:=by kernel_rfl) (hl:Nat.blt dg t.length=true:=by kernel_rfl):wpList P ops Q (o::os) ⟨t.toArray,d0⟩ w:=by
 subst hos
 replace hv:=CI hv hl
 have hp:gOf o=(g,b):=by unfold gOf;rw[hgo];rfl
 rw[hp] at hk h
 dsimp only at hk
 rw[hd] at hk
 rw[show o::os=(o::os).take ds.length++(o::os).drop ds.length from(List.take_append_drop _ _).symm]
 exact OH (p:=(g,b)) hd _ ds [] _ _ hk (by rw[List.getElem?_toArray,hv,hx]) h
theorem sqw(dg:Nat)(ds:List Tmp){g:Nat}{b x:Bool}{t2:List Value}(hv:gS t dg= .bool x)(h1:x=b->wpList P ops (Fn t1 d0 (·=w)) (((o::os).take ds.length).map (ung (gOf o))) ⟨t.toArray,d0⟩ w)
  (h2:wpList P ops Q os' ⟨t2.toArray,d0⟩ w) (ht:lL (qb x b) ds t t1=t2:=by dsimp only[lL,List.set,gS,qb]) (hos:(o::os).drop ds.length=os':=by dsimp only[List.drop,List.length]) (hk:kb ops (gOf o) (bh ops (gOf o).1) ((o::os).take ds.length) ds []=true:=by kernel_rfl) (hgo:o.guard=some (g,b):=by rfl) (hd:bh ops g=some dg:=by kernel_rfl) (hl:Nat.blt dg t.length=true:=by kernel_rfl):wpList P ops Q (o::os) ⟨t.toArray,d0⟩ w:=
 G3 (·=w) dg ds hv rfl h1 (fun w' hw=>by subst hw;rw[hos];exact h2) ht hk hgo hd hl
theorem c7(h:wpList P ops Q os' ⟨t'.toArray,d0⟩ w)(ht:t=t':=by dsimp only[lL,List.set,gS,qb])(hos:os=os':=by dsimp only[List.drop,List.length]):wpList P ops Q os ⟨t.toArray,d0⟩ w:=by rw[ht,hos];exact h
theorem d3(dg:Nat)(ds:List Tmp)(t1:List Value){g:Nat}{b x:Bool}(hv:gS t dg= .bool x)(h1:x=b->wpList P ops (Fn t1 d0 (·=w)) os1 ⟨t.toArray,d0⟩ w)
  (h2:wpList P ops Q ((o::os).drop ds.length) ⟨(lL (qb x b) ds t t1).toArray,d0⟩ w) (hos:((o::os).take ds.length).map (ung (gOf o))=os1:=by dsimp only[List.take,List.drop,List.length,List.map,List.cons_append,List.nil_append,ung,gOf,isG,Option.getD,Nat.reduceBEq,cond_true,cond_false]) (hk:kb ops (gOf o) (bh ops (gOf o).1) ((o::os).take ds.length) ds []=true:=by kernel_rfl) (hgo:o.guard=some (g,b):=by rfl) (hd:bh ops g=some dg:=by kernel_rfl) (hl:Nat.blt dg t.length=true:=by kernel_rfl):wpList P ops Q (o::os) ⟨t.toArray,d0⟩ w:=
 G3 (·=w) dg ds hv rfl (by rw[hos];exact h1) (fun w' hw=>by subst hw;exact h2) rfl hk hgo hd hl
theorem qO(dg:Nat)(ds:List Tmp)(t1:List Value){g:Nat}{b x:Bool}(bb:St w0 bor L w)(hv:gS t dg= .bool x)(h1:x=b->wpList P ops (Fn t1 d0 (St w0 bor L)) os1 ⟨t.toArray,d0⟩ w)
  (h2:∀w',St w0 bor L w'->wpList P ops Q ((o::os).drop ds.length) ⟨(lL (qb x b) ds t t1).toArray,d0⟩ w') (hos:((o::os).take ds.length).map (ung (gOf o))=os1:=by dsimp only[List.take,List.drop,List.length,List.map,List.cons_append,List.nil_append,ung,gOf,isG,Option.getD,Nat.reduceBEq,cond_true,cond_false]) (hk:kb ops (gOf o) (bh ops (gOf o).1) ((o::os).take ds.length) ds []=true:=by kernel_rfl) (hgo:o.guard=some (g,b):=by rfl) (hd:bh ops g=some dg:=by kernel_rfl) (hl:Nat.blt dg t.length=true:=by kernel_rfl):wpList P ops Q (o::os) ⟨t.toArray,d0⟩ w:=
 G3 (St w0 bor L) dg ds hv bb (by rw[hos];exact h1) h2 rfl hk hgo hd hl
end
abbrev sPa(d:Tmp)(c x:Bool):SE:= .e d (bif c then mb c (.bool x) else .bool false) (.bool (c&&x)) (GN c x)
abbrev sPo(d:Tmp)(c x:Bool):SE:= .e d (bif c then .bool true else mb (!c) (.bool x)) (.bool (c||x)) (v7 c x)
abbrev C8(d:Tmp)(c x v:Bool)(h:(c||x)=v):SE:= .e d (bif c then .bool true else mb (!c) (.bool x)) (.bool v) ((v7 c x).trans (congrArg Value.bool h))
end
section
open Go.RowKit
theorem St.one{E:Ent}(hx:Ext W W')(h:E.holds W'/\E.loc/\∀k∈E.fp,W.heap.size<=k/\k<W'.heap.size):St W [] [E] W':=
 ⟨Upd.of_ext hx,fun e he=>by rw[List.mem_singleton] at he;subst he;exact⟨h.1,h.2.1,fun k hk=>⟨.inr (h.2.2 k hk).1,(h.2.2 k hk).2⟩⟩,List.pairwise_singleton _ _⟩
theorem CtxV.triv{A:List Nat}{D':Nat->(Tmp->Value)->(Tmp->Value)->(Nat->Ent)->Prop}{e:Operand->Value}{d:Tmp->Value}{X:Nat->Ent}(h:CtxV ops A a0 w0 bor X0 us D i e d W X)(hD:∀j f d X,D' j f d X):CtxV ops A a0 w0 bor X0 us D' i e d W X:=
 ⟨h.sees,h.upd,h.out,fun _ _=>hD _ _ _ _,h.init,h.ok,h.ap⟩
section
variable{P:Program}{Q:Exit->Act->World->Prop}{rest:List Oper}{o:Oper}{ops:Array Oper}{t:List Value}{d0:List Deferred}{w0 w:World}{bor:List Nat}{L:List Ent}
theorem H9{Z:Type}{d:Tmp}(V:Z->Value)(E:Z->Ent)(bb:St w0 bor L w){f:FuncId}(hs:∀{j:Operand->Value}{m:Tmp->Value}{W:World}{X:Nat->Ent},CtxV #[o] [0] ⟨t.toArray,d0⟩ w0 bor L (rg L) (fun _ _ _ _=>True) 0 j m W X->∃args,Calls P f args W (fun e W'=>∃z,e= .returned (V z)/\St W [] [E z] W')/\(ov o.op).map j=args)
  (h:∀z w',St w0 bor (L++[E z]) w'->wpList P ops Q rest ⟨(t.set d (V z)).toArray,d0⟩ w') (hop:o.op= .call c) (hcal:c.callee= .value (.func f)) (hg:o.guard=none) (hd:o.dst=some d) (hf:gD P f=true):wpList P ops Q (o::rest) ⟨t.toArray,d0⟩ w:=by
 refine wpList_plain hg fun K hK=>?_
 obtain⟨args,hc,hm⟩:=hs (oT bb fun _=>undef)
 rw[hop] at hm
 refine ak.wp (post:=fun v w'=>∃z,v=V z/\St w [] [E z] w') (ak.call (gl hop (oT (o:=o) (D:=fun _ _ _ _=>True) bb fun _=>undef).sees hcal hf hm) (hc.mono ?_)) fun v w' ⟨z,e1,fQ⟩=>hK _ _ ?_
 ·rintro e W1 ⟨z,rfl,h1⟩
  exact⟨_,rfl,z,rfl,h1⟩
 ·subst e1
  rw[hd]
  show wpList P ops Q rest ⟨t.toArray.setIfInBounds d (V z),d0⟩ w'
  rw[List.setIfInBounds_toArray]
  have h2:=Mg (kl:=[]) (N:=[E z]) bb (fun q hq=>by cases hq) ⟨fQ.upd,fun e he=>⟨(fQ.ok e he).holds,(fQ.ok e he).loc,fun k hk=>⟨((fQ.ok e he).own k hk).1,((fQ.ok e he).own k hk).2⟩⟩,fQ.apart⟩
  rw[mI] at h2
  exact h z w' h2
theorem qe{Z:Type}{d:Tmp}{L':Z->List Ent}{t':Z->List Value}(V:Z->Value)(E:Z->Ent)(bb:St w0 bor L w){f:FuncId}(hs:∀{j:Operand->Value}{k:Tmp->Value}{W:World}{X:Nat->Ent},CtxV #[o] [0] ⟨t.toArray,d0⟩ w0 bor L (rg L) (fun _ _ _ _=>True) 0 j k W X->∃args,Calls P f args W (fun e W'=>∃z0,e= .returned (V z0)/\St W [] [E z0] W')/\(ov o.op).map j=args)
  (h:∀z0 w',St w0 bor (L' z0) w'->wpList P ops Q rest ⟨(t' z0).toArray,d0⟩ w') (hop:o.op= .call c:=by rfl) (hcal:c.callee= .value (.func f):=by rfl) (hg:o.guard=none:=by rfl) (hd:o.dst=some d:=by rfl) (ht:∀z0,t.set d (V z0)=(t' z0):=by intro z0;dsimp only[List.set]) (hL:∀z0,L++[E z0]=(L' z0):=by intro z0;dsimp only[List.cons_append,List.nil_append]) (hf:gD P f=true:=by kernel_rfl):
  wpList P ops Q (o::rest) ⟨t.toArray,d0⟩ w:=
 H9 (Z:=Z) (fun r=>V r) (fun r=>E r) bb (fun cx=>let ⟨args,h1,h2⟩:=hs cx;⟨args,h1.mono (fun e W' ⟨z0,h1,h2⟩=>⟨z0,h1,h2⟩),h2⟩) (fun r w' hw=>by rw[ht];exact h r w' (hL r ▸ hw)) hop hcal hg hd hf
theorem C4{Z:Type}{R:Type}{d:Tmp}{L':Z->R->List Ent}{t':Z->List Value}(V:Z->Value)(E:Z->R->Ent)(bb:St w0 bor L w){f:FuncId}(hs:∀{j:Operand->Value}{k:Tmp->Value}{W:World}{X:Nat->Ent},CtxV #[o] [0] ⟨t.toArray,d0⟩ w0 bor L (rg L) (fun _ _ _ _=>True) 0 j k W X->∃args,Calls P f args W (fun e W'=>∃z0 r,e= .returned (V z0)/\St W [] [E z0 r] W')/\(ov o.op).map j=args)
  (h:∀z0 r w',St w0 bor (L' z0 r) w'->wpList P ops Q rest ⟨(t' z0).toArray,d0⟩ w') (hop:o.op= .call c:=by rfl) (hcal:c.callee= .value (.func f):=by rfl) (hg:o.guard=none:=by rfl) (hd:o.dst=some d:=by rfl) (ht:∀z0,t.set d (V z0)=(t' z0):=by intro z0;dsimp only[List.set]) (hL:∀z0 r,L++[E z0 r]=(L' z0 r):=by intro z0 r;dsimp only[List.cons_append,List.nil_append]) (hf:gD P f=true:=by kernel_rfl):
  wpList P ops Q (o::rest) ⟨t.toArray,d0⟩ w:=
 H9 (Z:=Z×R) (fun r=>V r.1) (fun r=>E r.1 r.2) bb (fun cx=>let ⟨args,h1,h2⟩:=hs cx;⟨args,h1.mono (fun e W' ⟨z0,r,h1,h2⟩=>⟨(z0,r),h1,h2⟩),h2⟩) (fun r w' hw=>by rw[ht];exact h r.1 r.2 w' (hL r.1 r.2 ▸ hw)) hop hcal hg hd hf
theorem iz{Z:Type}{Y:Type}{d:Tmp}{L':Z->Y->List Ent}{t':Z->Y->List Value}(V:Z->Y->Value)(E:Z->Y->Ent)(bb:St w0 bor L w){f:FuncId}(hs:∀{j:Operand->Value}{k:Tmp->Value}{W:World}{X:Nat->Ent},CtxV #[o] [0] ⟨t.toArray,d0⟩ w0 bor L (rg L) (fun _ _ _ _=>True) 0 j k W X->∃args,Calls P f args W (fun e W'=>∃z0 z1,e= .returned (V z0 z1)/\St W [] [E z0 z1] W')/\(ov o.op).map j=args)
  (h:∀z0 z1 w',St w0 bor (L' z0 z1) w'->wpList P ops Q rest ⟨(t' z0 z1).toArray,d0⟩ w') (hop:o.op= .call c:=by rfl) (hcal:c.callee= .value (.func f):=by rfl) (hg:o.guard=none:=by rfl) (hd:o.dst=some d:=by rfl) (ht:∀z0 z1,t.set d (V z0 z1)=(t' z0 z1):=by intro z0 z1;dsimp only[List.set]) (hL:∀z0 z1,L++[E z0 z1]=(L' z0 z1):=by intro z0 z1;dsimp only[List.cons_append,List.nil_append]) (hf:gD P f=true:=by kernel_rfl):
  wpList P ops Q (o::rest) ⟨t.toArray,d0⟩ w:=
 H9 (Z:=Z×Y) (fun r=>V r.1 r.2) (fun r=>E r.1 r.2) bb (fun cx=>let ⟨args,h1,h2⟩:=hs cx;⟨args,h1.mono (fun e W' ⟨z0,z1,h1,h2⟩=>⟨(z0,z1),h1,h2⟩),h2⟩) (fun r w' hw=>by rw[ht];exact h r.1 r.2 w' (hL r.1 r.2 ▸ hw)) hop hcal hg hd hf
theorem j0{d:Tmp}{L':List Ent}{ty:Nat}(V:Value)(q:Nat)(cs':Array Value)(bb:St w0 bor L w){f:FuncId}(hs:∀{j:Operand->Value}{k:Tmp->Value}{W:World}{X:Nat->Ent},CtxV #[o] [0] ⟨t.toArray,d0⟩ w0 bor L (rg L) (fun _ _ _ _=>True) 0 j k W X->∃args,Calls P f args W (fun e W'=>e= .returned V/\Upd [b] W W'/\Blk W' b ty cs')/\(ov o.op).map j=args)
  (h:∀w',St w0 bor L' w'->wpList P ops Q rest ⟨t'.toArray,d0⟩ w') (hq:L[q]? =some (eB b ty cs):=by rfl) (hop:o.op= .call c:=by rfl) (hcal:c.callee= .value (.func f):=by rfl) (hg:o.guard=none:=by rfl) (hd:o.dst=some d:=by rfl) (ht:t.set d V=t':=by dsimp only[List.set]) (hL:L.set q (eB b ty cs')=L':=by dsimp only[List.set]) (hf:gD P f=true:=by kernel_rfl):wpList P ops Q (o::rest) ⟨t.toArray,d0⟩ w:=by
 have hql:q<L.length:=(List.getElem?_eq_some_iff.1 hq).1
 refine gL V (eB b ty cs') q bb (svA (o:=o) (fun j k W X cx=>?_) rfl hg) h (ht:=ht) (hL:=hL) (hk:=by simpa using hql) (hg:=hg) (hd:=hd)
 obtain⟨args,hc,hm⟩:=hs (cx.triv fun _ _ _ _=>trivial)
 rw[hop] at hm
 refine ak.call (gl hop cx.sees hcal hf hm) (hc.mono ?_)
 rintro e W1 ⟨rfl,hu,hb⟩
 exact⟨_,rfl,cm (cx.init q _ hq) rfl rfl hu hb (fun s m X' hs hb hv hx=>⟨(hv d hd).1,hx⟩)⟩
theorem mX{d:Tmp}{ty:TypeId}{parts:Array (Nat×Operand)}{t':Nat->List Value}(e sz n:Nat)(xs:List Value)(bb:St w0 bor L w)
  (hr:∀{f:Operand->Value}{j:Tmp->Value}{W:World}{X:Nat->Ent},CtxV #[o] [0] ⟨t.toArray,d0⟩ w0 bor L (rg L) (fun _ _ _ _=>True) 0 f j W X->(execOp f o).run P W= .ok (.value (.slice (some ⟨W.heap.size,0,none⟩) n n)) (W.alloc (.cells xs.toArray e)))
  (h:∀B w',St w0 bor (L' B) w'->wpList P ops Q rest ⟨(t' B).toArray,d0⟩ w') (hop:o.op= .buildSlice ty n parts:=by rfl) (hg:o.guard=none:=by rfl) (hd:o.dst=some d:=by rfl) (ht:∀B,t.set d (.slice (some ⟨B,0,none⟩) n n)=t' B:=by intro B;dsimp only[List.set]) (hL:∀B,L++[eO e sz (.slice (some ⟨B,0,none⟩) n n) n xs]=L' B:=by intro B;dsimp only[List.cons_append,List.nil_append])
  (hn:xs.length=n*sz:=by rfl) (hm:n<=maxLen:=by decide):wpList P ops Q (o::rest) ⟨t.toArray,d0⟩ w:=
 d9 pb' _ _ bb (svA (o:=o) (fun f j W X cx=>ml hop (hr (cx.triv fun _ _ _ _=>trivial)) hn hm hd rfl (fun _ _ _ _ _=> .intro)) rfl hg) h (ht:=ht) (hL:=hL) (hg:=hg) (hd:=hd)
theorem v8{d ty:Tmp}{e m bytes cp:Nat}{z:Value}{A0:Option Addr}{c0:Nat}{a:Addr}{news:List Value}{L':Option Addr->Nat->List Ent}{t':Option Addr->Nat->List Value}(nm:Nat)(xs':List Value)(q:Nat)(bb:St w0 bor L w)
  (hinf:(P.info? e).map (fun i=>(i.zero,i.size,i.bytes))=some (some z,sz,bytes)) (hA:∀{k:Operand->Value}{f:Tmp->Value}{W:World}{X:Nat->Ent},CtxV #[o] [0] ⟨t.toArray,d0⟩ w0 bor L (rg L) (fun _ _ _ _=>True) 0 k f W X->At W (some a) news)
  (h:∀A c w',St w0 bor (L' A c) w'->wpList P ops Q rest ⟨(t' A c).toArray,d0⟩ w') (hop:o.op= .call {callee:= .builtin .append,args:=#[x,y],argTypes:=#[ty,ty]}:=by rfl) (hx:Act.eval ⟨t.toArray,d0⟩ x= .slice A0 n c0:=by rfl) (hy:Act.eval ⟨t.toArray,d0⟩ y= .slice (some a) m cp:=by rfl) (hq:L[q]? =some (eO e sz (.slice A0 n c0) n xs):=by rfl)
  (hg:o.guard=none:=by rfl) (hd:o.dst=some d:=by rfl) (ht:∀A c,t.set d (.slice A nm c)=t' A c:=by intro A c;dsimp only[List.set]) (hL:∀A c,L.set q (eO e sz (.slice A nm c) nm xs')=L' A c:=by intro A c;dsimp only[List.set]) (hl:news.length=m*sz:=by rfl) (h1:∀u∈news,u.oneCell'=true:=by simp[Value.oneCell']) (h63:n+m<=maxLen:=by simp only[maxLen];omega) (hbytes:(n+m)*bytes<=140737488355328:=by omega) (hnm:n+m=nm:=by omega) (jJ:xs++news=xs':=by rfl)
  (hu:P.underlying ty=some (.slice e):=by kernel_rfl) (hz:z.cells.size=sz:=by rfl) (hsz:Nat.blt 0 sz=true:=by rfl):wpList P ops Q (o::rest) ⟨t.toArray,d0⟩ w:=by
 have hql:q<L.length:=(List.getElem?_eq_some_iff.1 hq).1
 obtain⟨i0,hi0,hz0,hz1,hz2⟩:=info_parts hinf
 refine sqD (D:=fun _ j f X=>j d= .slice (sA (f d)) nm (sC (f d))/\X L.length=eO e sz (.slice (sA (f d)) nm (sC (f d))) nm xs') 1 [q] bb ?_ hg (fun z hz=>by rw[List.mem_singleton.1 hz];exact hql) fun j f X v w' hD hv hs'=>?_
 ·exact i6 hop rfl hu hi0 hz0 hz1 hz2 hz (by simpa using hsz) hx (oT (o:=o) bb _) (by rw[List.getD_eq_getElem?_getD,hq];rfl) (by simp[atV];exact hql) hy hl (hA (oT bb fun _=>undef)) h1 h63 hbytes hd rfl rfl hnm jJ (fun _ _ _ _ _=> .intro)
 ·rw[(hv d hd).1,(hv d hd).2] at hD
  have h2:=h (sA v) (sC v) w' (by rw[<-hL,<-hD.2];exact hs'.perm (mK _ q L 0 (Nat.zero_le _) (by simpa using hql)))
  rw[<-ht,<-hD.1] at h2
  rw[hd]
  show wpList P ops Q rest ⟨t.toArray.setIfInBounds d v,d0⟩ w'
  rw[List.setIfInBounds_toArray]
  exact h2
end
end
section
open Go.RowKit Go.Maps Go.ChangeMaps
structure Kc (κ:Type) where
 enc:κ->Value
 lit:κ->Lit
 ok:κ->Prop
 ty:Program->TypeId->Prop
 inj:∀{x y},lit x=lit y->x=y
 isk:∀x,WideAt.IsKeyLit (lit x)
 keyed:∀{P k},ty P k->Keyed P k
 key:∀{P k x},ty P k->ok x->keyOf P k (enc x)=some (lit x)
def kcI:Kc Int where
 enc:= .int .i64
 lit:= .int .i64
 ok x:= -9223372036854775808<=x/\x<=9223372036854775807
 ty P k:=P.underlying k=some (.int .i64)
 inj h:=by injection h
 isk _:=trivial
 keyed h:=int_keyed h
 key h hx:=keyOf_int_mk h (by
  show (decide (IntKind.i64.min<= _)&&decide (_<=IntKind.i64.max))=true
  have h1:IntKind.i64.min= -9223372036854775808:=by decide
  have h2:IntKind.i64.max=9223372036854775807:=by decide
  rw[h1,h2,decide_eq_true hx.1,decide_eq_true hx.2];rfl)
structure Ec (ε:Type) where
 enc:ε->Value
 dat:ε->DataW Unit
 R:Value->Option (DataW Unit×List MemPlace)
 e0:ε
 okE:ε->Prop
 read:∀e,okE e->R (enc e)=some (dat e,[])
 back:∀v d ps e,R v=some (d,ps)->d=dat e->v=enc e
 ok0:okE e0
def gx{d e:Type}(K:Kc d)(C:Ec e)(P:Program)(k b n:Nat)(m:d->Option e)(W:World):Prop:=
 ∃D:DataW Unit,W.ownsMap P k C.R b n D/\Tidy D/\size D=n/\∀x,K.ok x->has D (K.lit x)=(m x).isSome/\D.atKey (K.lit x) (C.dat C.e0)=C.dat ((m x).getD C.e0)
def eMx{d e:Type}(K:Kc d)(C:Ec e)(P:Program)(k b n:Nat)(m:d->Option e):Ent:=⟨[b],gx K C P k b n m⟩
def cd{d f:Type}[DecidableEq d](m:d->Option f)(x:d)(e:Option f):d->Option f:=fun y=>if y=x then e else m y
theorem wG{H:Type}{k:Nat}{R:Value->Option (DataW H×List MemPlace)}{D:DataW H}(h:W.ownsMap P k R b n D):W.ownsMap P k R b (size D) D:=by
 obtain⟨es,clock,hb,F,hs,rfl⟩:=h
 refine⟨es,clock,hb,F,?_,rfl⟩
 simp[Maps.size,length_sorted]
section
variable{κ ε:Type}{K:Kc κ}{C:Ec ε}
theorem mt(P:Program)(k b n:Nat)(m:κ->Option ε):(eMx K C P k b n m).loc:=fun W W' h hb=>by
 obtain⟨D,⟨es,clock,h1,h2⟩,h3⟩:=hb
 exact⟨D,⟨es,clock,(h b (by simp[eMx])).trans h1,h2⟩,h3⟩
variable{P:Program}{o:Oper}{ρ:Operand->Value}{W:World}{k e b n:Nat}{m:κ->Option ε}
theorem gx.lt(h:gx K C P k b n m W):b<W.heap.size:=by
 obtain⟨D,hD,_⟩:=h
 exact hD.lt
theorem da{t:TypeId}{z:Operand}{x:κ}(h:o.op= .lookup t y z false)(hy:ρ y= .map (some b))(hz:ρ z=K.enc x)(hb:gx K C P k b n m W)(h0:(zeroValue e).run P W= .ok (C.enc C.e0) W)(hx:K.ok x)
  (hk:K.ty P k:=by kernel_rfl) (ht:P.underlying t=some (.map k e):=by kernel_rfl):(execOp ρ o).run P W= .ok (.value (C.enc ((m x).getD C.e0))) W:=by
 obtain⟨D,hD,_,_,hm⟩:=hb
 obtain⟨v,ps,hrun,hv⟩:=hD.lookup (K.keyed hk) ht h0 (C.read C.e0 C.ok0) (K.key hk hx)
 rw[C.back v _ ps _ hv (hm x hx).2] at hrun
 unfold execOp
 rw[h]
 simp[hy,hz,hrun]
theorem EK{t:TypeId}(h:o.op= .call c)(hc:c.callee= .builtin .len)(ha:c.args=#[y])(hat:c.argTypes=#[t])(hy:ρ y= .map (some b))(hb:gx K C P k b n m W)(ht:P.underlying t=some (.map k e):=by kernel_rfl):
  (execOp ρ o).run P W= .ok (.value (.int .i64 (n:Int))) W:=by
 obtain⟨D,hD,_,hs,_⟩:=hb
 have hl:=hD.len ht o.type
 rw[hs] at hl
 unfold execOp
 rw[h]
 obtain⟨cal,args,tys⟩:=c
 simp only at hc ha hat
 subst hc ha hat
 simp[go_sem,hy,hl]
def mzP(m:κ->Option ε)(x:κ)(n:Nat):Nat:=if (m x).isSome then n else n+1
theorem EL [DecidableEq κ]{t:TypeId}{z u:Operand}{x:κ}{v:ε}(h:o.op= .mapUpdate t y z u\/o.op= .insert t y z u)(hy:ρ y= .map (some b))(hz:ρ z=K.enc x)(hu:ρ u=C.enc v)(hb:gx K C P k b n m W)(hv:C.okE v)(hn:n<1000000)(hx:K.ok x)
  (hk:K.ty P k:=by kernel_rfl) (ht:P.underlying t=some (.map k e):=by kernel_rfl):
  ∃W',(execOp ρ o).run P W= .ok .skip W'/\gx K C P k b (mzP m x n) (cd m x (some v)) W'/\Upd [b] W W':=by
 obtain⟨D,hD,hI,hs,hm⟩:=hb
 obtain⟨W',hrun,hown,hg⟩:=hD.update (K.keyed hk) ht (by simp only[maxLen];omega) (K.key hk hx) (C.read v hv)
 have hsz:size (D.put (K.lit x) (C.dat v))=mzP m x n:=by rw[size_put hI,(hm x hx).1,hs,mzP]
 refine⟨W',?_,⟨_,by have h9:=wG hown;rwa [hsz] at h9,hI.put (K.isk x) _,hsz,fun y hy=>?_⟩,⟨hg.os,hg.tape,hg.output,hg.size,fun i hi hn=>hg.block i hi (fun e'=>hn (by cases e';simp))⟩⟩
 ·unfold execOp
  rcases h with h|h<;>rw[h]<;>simp[hy,hz,hu,hrun]
 ·unfold cd
  by_cases e':y=x
  ·subst e'
   rw[if_pos rfl]
   exact⟨has_put_same hI.isMap (K.isk y) _,atKey_put_same hI.isMap (K.isk y) _ _⟩
  ·have e2:K.lit y≠K.lit x:=fun h=>e' (K.inj h)
   rw[if_neg e',has_put_other e2,atKey_put_other e2]
   exact hm y hy
def mzD(m:κ->Option ε)(x:κ)(n:Nat):Nat:=if (m x).isSome then n-1 else n
theorem DL [DecidableEq κ]{z:Operand}{x:κ}{t:TypeId}(h:o.op= .call c)(hc:c.callee= .builtin .delete)(ha:c.args=#[y,z])(hat:c.argTypes=#[t,k])(hy:ρ y= .map (some b))(hz:ρ z=K.enc x)(hb:gx K C P k b n m W)(hx:K.ok x)
  (hk:K.ty P k:=by kernel_rfl) (ht:P.underlying t=some (.map k e):=by kernel_rfl):
  ∃W',(execOp ρ o).run P W= .ok (.value (.tuple #[])) W'/\gx K C P k b (mzD m x n) (cd m x none) W'/\Upd [b] W W':=by
 obtain⟨D,hD,hI,hs,hm⟩:=hb
 obtain⟨W',hrun,hown,es,clock,es',clock',h1,h2⟩:=hD.drop (K.keyed hk) ht (K.key hk hx) o.type
 have hsz:size (D.del (K.lit x))=mzD m x n:=by
  have h9:=size_del (k:=K.lit x) hI
  rw[(hm x hx).1,hs] at h9
  unfold mzD
  split at h9
  ·rw[if_pos (by assumption)];omega
  ·rw[if_neg (by assumption)];omega
 refine⟨W',?_,⟨_,by have h9:=wG hown;rwa [hsz] at h9,hI.del _,hsz,fun y hy=>?_⟩,?_⟩
 ·unfold execOp
  rw[h]
  obtain⟨cal,args,tys⟩:=c
  simp only at hc ha hat
  subst hc ha hat
  simp[go_sem,hy,hz,hrun]
 ·unfold cd
  by_cases e':y=x
  ·subst e'
   rw[if_pos rfl]
   exact⟨has_del_same,atKey_del_same _⟩
  ·have e2:K.lit y≠K.lit x:=fun h=>e' (K.inj h)
   rw[if_neg e',has_del_other e2,atKey_del_other e2]
   exact hm y hy
 ·subst h2
  exact⟨rfl,rfl,rfl,by simp[setBlock],fun i hi hn=>heap_setBlock_other h1 _ (fun e'=>hn (by simp[e']))⟩
theorem gx.made:gx K C P k W.heap.size 0 (fun _=>none) (W.alloc (.map #[] 0)):=⟨.map [],World.ownsMap_made W P k C.R,tidy_empty,rfl,fun x hx=>⟨rfl,rfl⟩⟩
end
section
variable{κ ε:Type}{K:Kc κ}{C:Ec ε}{P:Program}{ops:Array Oper}{L:List Nat}{a0:Act}{w0:World}{bor:List Nat}{X0:List Ent}{us cr kl:List (List Nat)}
 {D:Nat->(Tmp->Value)->(Tmp->Value)->(Nat->Ent)->Prop}{i:Nat}{o:Oper}{ρ:Operand->Value}{β:Tmp->Value}{W:World}{X:Nat->Ent}
def pbx:Value->Nat
 | .map (some b)=>b
 |_=>0
theorem CtxV.mx{k:Nat}{m:κ->Option ε}(cx:CtxV ops L a0 w0 bor X0 us D i ρ β W X)(hX:X q=eMx K C P k b n m)(hu:(atV us i).contains q=true):gx K C P k b n m W:=by
 have h:=(cx.ok q hu).holds
 rw[hX] at h;exact h
theorem ln{t d k:Nat}(h:o.op= .makeMap t none)(hd:o.dst=some d)(hc:atV cr i=[q])(hk:atV kl i=[])
  (hD:∀(f e:Tmp->Value) (X':Nat->Ent),(∀t,t≠d->f t=ρ (.tmp t))->(∀t,t≠d->e t=β t)->f d= .map (some (pbx (e d)))->X' q=eMx K C P k (pbx (e d)) 0 (fun _=>none)->D i f e X'):ak P o ρ W (bQ cr kl D i o.dst ρ β W X):=by
 refine ak.value (v:= .map (some W.heap.size)) (w':=W.alloc (.map #[] 0)) (by unfold execOp;rw[h];rfl) ?_
 refine bK [eMx K C P k W.heap.size 0 (fun _=>none)] hk (by rw[hc];rfl) ((Ext.refl W).alloc _) (one_new ⟨gx.made,mt _ _ _ _ _,fun k' hk'=>?_⟩) (List.pairwise_singleton _ _) (fun f e X' hs hb hv hN=>?_)
 ·have:k'=W.heap.size:=by simpa[eMx] using hk'
  subst this
  exact⟨Nat.le_refl _,by simp⟩
 ·have aH:=(hv d hd).1;have aO:=(hv d hd).2
  rw[hc] at hN
  refine hD f e X' (fun t ht=>hs t (by rw[hd];simpa using ht.symm)) (fun t ht=>hb t (by rw[hd];simpa using ht.symm)) ?_ ?_
  ·rw[aH,aO];rfl
  ·rw[aO];exact(List.cons.inj hN).1
theorem p7{k b n' q:Nat}{m m':κ->Option ε}(hX:X q=eMx K C P k b n m)(h1:gx K C P k b n' m' W')(h2:Upd [b] W W')(hc:atV cr i=[q'])(hkl:atV kl i=[q]):
  ([eMx K C P k b n' m'].length=(atV cr i).length)/\(Upd ((atV kl i).flatMap fun q=>(X q).fp) W W')/\∀e'∈[eMx K C P k b n' m'],e'.holds W'/\e'.loc/\∀k'∈e'.fp,(k'∈((atV kl i).flatMap fun q=>(X q).fp)\/W.heap.size<=k')/\k'<W'.heap.size:=by
 refine⟨by rw[hc];rfl,?_,fun e' he'=>?_⟩
 ·rw[hkl]
  simp only[List.flatMap_cons,List.flatMap_nil,List.append_nil,hX]
  exact h2
 ·rw[List.mem_singleton] at he'
  subst he'
  refine⟨h1,mt _ _ _ _ _,fun k' hk'=>?_⟩
  have hkb:k'=b:=by simpa[eMx] using hk'
  subst hkb
  refine⟨.inl ?_,h1.lt⟩
  rw[hkl]
  simp[hX,eMx]
theorem gy [DecidableEq κ]{t k e:Nat}{m:κ->Option ε}{z u:Operand}{x:κ}{v:ε}(h:o.op= .mapUpdate t y z u\/o.op= .insert t y z u)(hy:ρ y= .map (some b))(hz:ρ z=K.enc x)(hu:ρ u=C.enc v)
  (cx:CtxV ops L a0 w0 bor X0 us D i ρ β W X) (hX:X q=eMx K C P k b n m) (hq:(atV us i).contains q=true) (hv:C.okE v) (hn:n<1000000) (hx:K.ok x) (hd:o.dst=none) (hc:atV cr i=[q']) (hkl:atV kl i=[q])
  (hD:∀(f d:Tmp->Value) (X':Nat->Ent),(∀t,f t=ρ (.tmp t))->(∀t,d t=β t)->X' q'=eMx K C P k b (mzP m x n) (cd m x (some v))->D i f d X')
  (hk:K.ty P k:=by kernel_rfl) (ht:P.underlying t=some (.map k e):=by kernel_rfl):ak P o ρ W (bQ cr kl D i o.dst ρ β W X):=by
 obtain⟨W',hrun,h1,h2⟩:=EL (v:=v) h hy hz hu (cx.mx hX hq) hv hn hx hk ht
 obtain⟨a1,a2,a3⟩:=p7 (cr:=cr) (kl:=kl) (i:=i) hX h1 h2 hc hkl
 refine ak.skip hrun ⟨[eMx K C P k b (mzP m x n) (cd m x (some v))],a1,⟨a2,a3,List.pairwise_singleton _ _⟩,fun f d X' hs hv hb' hbv hx' hN=>hD f d X' (fun t=>hs t (by rw[hd];simp)) (fun t=>hb' t (by rw[hd];simp)) ?_⟩
 rw[hc] at hN
 exact(List.cons.inj hN).1
theorem GV [DecidableEq κ]{t k e:Nat}{m:κ->Option ε}{z:Operand}{x:κ}(h:o.op= .call c)(hcc:c.callee= .builtin .delete)(ha:c.args=#[y,z])(hat:c.argTypes=#[t,k])(hy:ρ y= .map (some b))(hz:ρ z=K.enc x)
  (cx:CtxV ops L a0 w0 bor X0 us D i ρ β W X) (hX:X q=eMx K C P k b n m) (hq:(atV us i).contains q=true) (hx:K.ok x) (hd:o.dst=none) (hc:atV cr i=[q']) (hkl:atV kl i=[q])
  (hD:∀(f d:Tmp->Value) (X':Nat->Ent),(∀t,f t=ρ (.tmp t))->(∀t,d t=β t)->X' q'=eMx K C P k b (mzD m x n) (cd m x none)->D i f d X')
  (hk:K.ty P k:=by kernel_rfl) (ht:P.underlying t=some (.map k e):=by kernel_rfl):ak P o ρ W (bQ cr kl D i o.dst ρ β W X):=by
 obtain⟨W',hrun,h1,h2⟩:=DL h hcc ha hat hy hz (cx.mx hX hq) hx hk ht
 obtain⟨a1,a2,a3⟩:=p7 (cr:=cr) (kl:=kl) (i:=i) hX h1 h2 hc hkl
 refine ak.value hrun ⟨[eMx K C P k b (mzD m x n) (cd m x none)],a1,⟨a2,a3,List.pairwise_singleton _ _⟩,fun f d X' hs hv hb' hbv hx' hN=>hD f d X' (fun t=>hs t (by rw[hd];simp)) (fun t=>hb' t (by rw[hd];simp)) ?_⟩
 rw[hc] at hN
 exact(List.cons.inj hN).1
end
end
section
open Go.RowKit Go.Maps Go.ChangeMaps
structure Cod (E:Type) where
 enc:E->Value
 dat:E->DataW Unit
 R:Value->Option (DataW Unit×List MemPlace)
 e0:E
 read:∀e,R (enc e)=some (dat e,[])
 back:∀v d ps e,R v=some (d,ps)->d=dat e->v=enc e
def P9{E:Type}(C:Cod E)(P:Program)(k b n:Nat)(m:Int->Option E)(W:World):Prop:=
 ∃D:DataW Unit,W.ownsMap P k C.R b n D/\IsMap D/\∀x:Int,(Lit.int .i64 x).wf=true->has D (.int .i64 x)=(m x).isSome/\D.atKey (.int .i64 x) (C.dat C.e0)=C.dat ((m x).getD C.e0)
theorem Qa{x:Int}(h: -9223372036854775808<=x/\x<=9223372036854775807):(Lit.int .i64 x).wf=true:=by
 show (decide (IntKind.i64.min<=x)&&decide (x<=IntKind.i64.max))=true
 have h1:IntKind.i64.min= -9223372036854775808:=by decide
 have h2:IntKind.i64.max=9223372036854775807:=by decide
 rw[h1,h2,decide_eq_true h.1,decide_eq_true h.2];rfl
section
variable{E:Type}{C:Cod E}
variable{P:Program}{o:Oper}{ρ:Operand->Value}{W:World}{k e b n:Nat}{m:Int->Option E}
theorem l5{t:TypeId}{f:Nat}{v r:Value}(h:o.op= .field t x f)(hx:ρ x=v)(hf:∀w,(Instr.field t v f).run P w= .ok r w):(execOp ρ o).run P W= .ok (.value r) W:=by
 unfold execOp;rw[h];simp[hx,hf]
end
section
variable{E:Type}{C:Cod E}{P:Program}{ops:Array Oper}{L:List Nat}{a0:Act}{w0:World}{bor:List Nat}{X0:List Ent}{us cr kl:List (List Nat)}
 {D:Nat->(Tmp->Value)->(Tmp->Value)->(Nat->Ent)->Prop}{i:Nat}{o:Oper}{ρ:Operand->Value}{β:Tmp->Value}{W:World}{X:Nat->Ent}
end
theorem CtxV.holdE{L:List Nat}{d:Operand->Value}{e:Tmp->Value}{X:Nat->Ent}{E:Ent}(cx:CtxV ops L a0 w0 bor X0 us D i d e W X)(hX:X q=E)(hu:(atV us i).contains q=true):E.holds W:=by
 have h:=(cx.ok q hu).holds
 rw[hX] at h;exact h
end
section
open Go.RowKit Go.Maps Go.ChangeMaps
def eRg{E:Type}(C:Cod E)(P:Program)(k b r n:Nat)(m:Int->Option E)(left:Int->Bool)(cnt:Nat)(cur:Option (Int×E)):Ent:=⟨[b,r],fun W=>
 ∃(D:DataW Unit) (lf:Lit->Bool) (c0:Nat),W.ranges P k C.R b r n D lf c0/\c0<=cnt/\(∀x:Int,(Lit.int .i64 x).wf=true->lf (.int .i64 x)=left x)/\IsMap D/\
  (∀x:Int,(Lit.int .i64 x).wf=true->has D (.int .i64 x)=(m x).isSome/\D.atKey (.int .i64 x) (C.dat C.e0)=C.dat ((m x).getD C.e0))/\
  (∀x:Int,left x=true->(m x).isSome=true)/\
  ∀x c,cur=some (x,c)->∀W':World,W'.heap[b]? =W.heap[b]? ->W'.heap[r]? =W.heap[r]? ->(Instr.entry (po r 0)).run P W'= .ok (.tuple #[.int .i64 x,C.enc c]) W'⟩
def nxB:Value->Bool
 | .tuple a=>match (a[0]? :Option Value) with
   |some (.bool true)=>true
   |_=>false
 |_=>false
section
variable{E:Type}{C:Cod E}{P:Program}{k b r n cnt:Nat}{m:Int->Option E}{left:Int->Bool}{cur:Option (Int×E)}
theorem Kf:(eRg C P k b r n m left cnt cur).loc:=fun W W' h hb=>by
 obtain⟨D,lf,c0,⟨es,clock,since,seen,c1,h1,h2,h3,h4,h5,h6⟩,hc,h7,h8,h9,hs,h10⟩:=hb
 have eb:W'.heap[b]? =W.heap[b]? :=h b (by simp[eRg])
 have er:W'.heap[r]? =W.heap[r]? :=h r (by simp[eRg])
 exact⟨D,lf,c0,⟨es,clock,since,seen,c1,eb.trans h1,h2,h3,h4,er.trans h5,h6⟩,hc,h7,h8,h9,hs,fun x c hc W2 e1 e2=>h10 x c hc W2 (e1.trans eb) (e2.trans er)⟩
theorem AW{H:Type}{R:Value->Option (DataW H×List MemPlace)}{D:DataW H}{lf:Lit->Bool}{v:Value}(h:W.ranges P k R b r n D lf cnt)(hen:(Instr.entry (po r 0)).run P W= .ok v W)(eb:W'.heap[b]? =W.heap[b]?)(er:W'.heap[r]? =W.heap[r]?):
  (Instr.entry (po r 0)).run P W'= .ok v W':=by
 obtain⟨es,clock,since,seen,c0,hb,_,_,_,hr,_⟩:=h
 have hb':=eb.trans hb
 have hr':=er.trans hr
 simp only[Instr.entry,getObj,Sem.run_bind,Sem.run,hr,hb,Result.andThen] at hen
 simp only[Instr.entry,getObj,Sem.run_bind,Sem.run,hr',hb',Result.andThen]
 cases hs:seen.back? with
 |none=>rw[hs] at hen;simp[go_sem] at hen
 |some q=>
  rw[hs] at hen
  simp only[getObj,Sem.run_bind,Sem.run,hb,Result.andThen] at hen
  simp only[getObj,Sem.run_bind,Sem.run,hb',Result.andThen]
  by_cases hc:(clock != c0)=true
  ·rw[if_pos hc] at hen
   simp[go_sem] at hen
  ·rw[if_neg hc] at hen |-
   cases hf:es.find? (·.born==q) with
   |none=>rw[hf] at hen;simp[go_sem] at hen
   |some x=>
    rw[hf] at hen
    simp[go_sem] at hen |-
    exact hen
theorem E0{H:Type}{R:Value->Option (DataW H×List MemPlace)}{D:DataW H}{lf:Lit->Bool}(h:W.ranges P k R b r n D lf cnt):cnt<=n:=by
 obtain⟨es,clock,since,seen,c0,_,_,hs,_,_,_,hc,_⟩:=h
 rw[<-hc,leftOf]
 exact Nat.le_trans Array.size_filter_le hs
end
section
variable{E:Type}{C:Cod E}{P:Program}{ops:Array Oper}{L:List Nat}{a0:Act}{w0:World}{bor:List Nat}{X0:List Ent}{us cr kl:List (List Nat)}
 {D:Nat->(Tmp->Value)->(Tmp->Value)->(Nat->Ent)->Prop}{i:Nat}{o:Oper}{ρ:Operand->Value}{β:Tmp->Value}{W:World}{X:Nat->Ent}
theorem Cx{k r cnt:Nat}{m:Int->Option E}{left:Int->Bool}{x0:Int}{c:E}(h:o.op= .entry x)(hx:ρ x=po r 0)(hE:(eRg C P k b r n m left cnt (some (x0,c))).holds W):(execOp ρ o).run P W= .ok (.value (.tuple #[.int .i64 x0,C.enc c])) W:=by
 obtain⟨D0,lf,c0,hr,hle,hl,hI,hm,hls,hcur⟩:=hE
 have h1:=hcur x0 c rfl W rfl rfl
 unfold execOp;rw[h];simp[hx,h1]
theorem Om(x y:Value):nxB (.tuple #[.bool true,x,y])=true:=rfl
theorem Oo:nxB (.tuple #[.bool false])=false:=rfl
end
end
section
open Go.RowKit
section
variable{P:Program}{Q:Exit->Act->World->Prop}{ops:Array Oper}{d0:List Deferred}{w:World}
theorem yA(tb:List SE)(dg:Nat)(ds:List Tmp){o:Oper}{b x:Bool}(h:wpList P ops Q os' ⟨t'.toArray,d0⟩ w)(ht1:nU tb t=t1:=by dsimp only[nU,SE.d,SE.v,List.set,gS])(ho:os.drop tb.length=o::os1:=by first|(dsimp only[List.drop,List.length];done)|rfl)
  (hv:gS t1 dg= .bool x:=by rfl) (hx:x=b:=by rfl) (ht:ds.foldl (fun l d=>l.set d undef) t1=t':=by dsimp only[List.foldl,List.set]) (hos:(o::os1).drop ds.length=os':=by dsimp only[List.drop,List.length])
  (hk:kb ops (gOf o) (bh ops (gOf o).1) ((o::os1).take ds.length) ds []=true:=by kernel_rfl) (hgo:o.guard=some (g,!b):=by rfl) (hd:bh ops g=some dg:=by kernel_rfl) (hl:Nat.blt dg t1.length=true:=by kernel_rfl) (hg:goS P (os.take tb.length) tb t=wtS tb t:=by kernel_rfl) (hn:(os.take tb.length).length=tb.length:=by kernel_rfl):wpList P ops Q os ⟨t.toArray,d0⟩ w:=
 sqp tb (P7 dg ds hv hx h ht hos hk hgo hd hl) ht1 ho hg hn
end
end
section
open Go.RowKit
def fU(ss:List ByteArray):Nat->Nat
 |0=>0
 |n+1=>if (ss.getD n ByteArray.empty).toList.isEmpty then fU ss n else n+1
theorem dY(ss:List ByteArray):∀n,fU ss n<=n
 |0=>Nat.le_refl _
 |n+1=>by unfold fU;split;exact Nat.le_succ_of_le (dY ss n);exact Nat.le_refl _
theorem iZ(ss:List ByteArray)(n:Nat):fU ss (n+1)=if (ss.getD n ByteArray.empty).toList.isEmpty then fU ss n else n+1:=rfl
def ae(ss:List ByteArray):List ByteArray:=ss.take (fU ss ss.length)
theorem cn(ss:List ByteArray):(ae ss).length=fU ss ss.length:=by
 simp only[ae,List.length_take];exact Nat.min_eq_left (dY ss _)
theorem Tryz.infoStr:(Tryz.prog.info? 9).map (fun i=>(i.zero,i.size,i.bytes))=some (some (.string ByteArray.empty),1,16):=by kernel_rfl
theorem Tryz.sizeStr:(Tryz.prog.info? 9).map (·.size)=some 1:=by kernel_rfl
theorem Ie(ss:List ByteArray)(k:Nat):((ss.take k).map Value.string).length=Nat.min ss.length k:=by
 rw[List.length_map,List.length_take];exact Nat.min_comm _ _
theorem w6{w2:World}{k:Nat}(hk:k<=ss.length)(hb:ss.length<=100000)(ht:k=fU ss ss.length)(hg1:w.grownBy w1 none)
  (h2:w2.heap[w.heap.size]? =some (.cells (splice (List.replicate k (Value.string ByteArray.empty)) 0 ((ss.take k).map Value.string)).toArray 9 (0,0))) (hb2:Below w.heap.size w1 w2):
  w2.ownsRow w.heap.size 9 1 (.slice (some ⟨w.heap.size,0,none⟩) k k) k ((ae ss).map Value.string)/\Ext w w2/\(ae ss).length=k:=by
 have hl:(ae ss).length=k:=by rw[cn,ht]
 have e:splice (List.replicate k (Value.string ByteArray.empty)) 0 ((ss.take k).map Value.string)=(ae ss).map Value.string:=by
  subst ht
  simp[splice,ae,Nat.min_eq_left (dY ss ss.length)]
 rw[e] at h2
 exact⟨qL h2 (Nat.le_refl _) (by simp[hl]) (by simp only[maxLen];omega),((Ext.refl w).grown hg1 (by simp)).out.trans hb2,hl⟩
theorem li(A:Option Addr)(c:Nat)(ss:List ByteArray)(w:World)(h:At w A (ss.map Value.string))(hl:ss.length<=100000):
  Calls P_ 104 #[.slice A ss.length c] w fun e w'=>e= .returned (.slice (some ⟨w.heap.size,0,none⟩) (ae ss).length (ae ss).length)/\
   w'.ownsRow w.heap.size 9 1 (.slice (some ⟨w.heap.size,0,none⟩) (ae ss).length (ae ss).length) (ae ss).length ((ae ss).map Value.string)/\Ext w w':=by
 obtain⟨i0,hi0,hz0,hz1,hz2⟩:=info_parts Tryz.infoStr
 have H:=Lib.hid h;clear h
 go_enter func104,ntmps104
 go_wp2
 go_loop [3] (fun i=>∃k:Nat,k<=ss.length/\i= .int .i64 k/\fU ss k=fU ss ss.length) (fun i=>(intOf i).toNat)
 case atStart=>exact⟨_,Nat.le_refl _,rfl,rfl⟩
 case round=>
  obtain⟨k,hk,rfl,ht⟩:=hrel
  have Ht:=Lib.hid ht;clear ht
  rcases k with _|k
  ·go_wp2_with (first
    |(at_make;go_must (refine wpList_make_full _ rfl (.tmp 19) (.tmp 19) 46 rfl w.heap.size 9 i0 _ 1 underlying46 hi0 hz0 hz1 .i64 .i64 _ _ 0 rfl rfl rfl rfl (by rw[hz2];omega) (by simp only[maxLen];omega) (Nat.le_refl _) ?_);intro w1 hown1 hg1;have hm1:=zd hown1;clear hown1)
    |(with_reducible refine wpList_copy_splice rfl (.tmp 21) (.tmp 22) 46 46 rfl 9 underlying46 Tryz.sizeStr _ _ _ _ _ _ rfl rfl w.heap.size 0 _ 9 hm1 [] (by simp) (by simp) (by simp) (by simp) w.heap.size w1 (Below.refl _ _) (Nat.le_refl _) ?_;intro w2 hh2 hb2))
   go_ret
   have R:=w6 (k:=0) (Nat.zero_le _) hl Ht.out hg1 hh2.out hb2
   rw[R.2.2]
   exact⟨rfl,R.1,R.2.1⟩
  ·have hs:(ss.map Value.string)[k]? =some (.string (ss.getD k ByteArray.empty)):=by simp[List.getD,List.getElem?_eq_getElem (show k<ss.length by omega)]
   obtain⟨ad,rfl,hb,hc⟩:=H.out _ _ hs
   clear hs
   obtain⟨s,hs⟩:∃s,s=ss.getD k ByteArray.empty:=⟨_,rfl⟩
   rw[<-hs] at hc
   have Hs:=Lib.hid hs;clear hs
   go_wp2_with (first
    |(at_make;go_must (refine wpList_make_full _ rfl (.tmp 19) (.tmp 19) 46 rfl w.heap.size 9 i0 _ 1 underlying46 hi0 hz0 hz1 .i64 .i64 _ _ (k+1) rfl rfl (by omega) (by omega) (by rw[hz2];omega) (by simp only[maxLen];omega) (Nat.le_refl _) ?_);intro w1 hown1 hg1;have hm1:=zd hown1;clear hown1)
    |(with_reducible refine wpList_copy_splice rfl (.tmp 21) (.tmp 22) 46 46 rfl 9 underlying46 Tryz.sizeStr _ _ _ _ _ _ rfl rfl w.heap.size 0 _ 9 hm1 ((ss.take (k+1)).map Value.string) (Ie _ _) (fun _=>⟨rfl,_,rfl,fun j v hj=>((At.take H.out (k+1)).ext ((Ext.refl w).grown hg1 (by simp))).at_ j v (by simpa using hj)⟩) (by simp;omega) (wk _) w.heap.size w1 (Below.refl _ _) (Nat.le_refl _) ?_;intro w2 hh2 hb2))
   ·have hemp:s.toList.isEmpty=true:=by assumption
    go_round
    case rel=>exact⟨k,by omega,rfl,by rw[<-Ht.out,iZ,<-Hs.out,if_pos hemp]⟩
    case measure=>simp[intOf]
   ·have hemp:s.toList.isEmpty=false:=by assumption
    go_ret
    have R:=w6 (k:=k+1) hk hl (by rw[<-Ht.out,iZ,<-Hs.out,hemp];rfl) hg1 hh2.out hb2
    rw[R.2.2]
    exact⟨rfl,R.1,R.2.1⟩
end
section
open Go.RowKit
def aR(ss:List ByteArray):Nat:=(ss.map fun s=>2+s.size).sum
theorem nB(ss:List ByteArray)(k:Nat)(h:k<ss.length):aR (ss.take (k+1))=aR (ss.take k)+(2+ss[k].size):=by
 unfold aR
 rw[List.take_succ_eq_append_getElem h,List.map_append,List.sum_append]
 simp only[List.map_cons,List.map_nil,List.sum_cons,List.sum_nil,Nat.add_zero]
theorem G0(ss:List ByteArray)(B:Nat)(h:∀s∈ss,s.size<=B):aR ss<=ss.length*(2+B):=by
 unfold aR
 induction ss with
 |nil=>simp
 |cons a l ih=>
  have h1:=h a (by simp)
  have h2:=ih fun s hs=>h s (by simp[hs])
  simp only[List.map_cons,List.sum_cons,List.length_cons,Nat.add_mul]
  omega
def cO(ss:List ByteArray):Nat:=14+aR (ae ss)
def dJ(ss:List ByteArray):Prop:=ss.length<=100000/\∀s∈ss,s.size<=1000000
theorem dJ.plain(h:dJ ss):dJ (ae ss):=
 ⟨by have:=cn ss;have:=dY ss ss.length;have:=h.1;omega,fun s hs=>h.2 s (List.mem_of_mem_take hs)⟩
theorem dJ.take(h:dJ ss)(k:Nat):aR (ss.take k)<=100000*1000002:=by
 have h1:=G0 (ss.take k) 1000000 fun s hs=>h.2 s (List.mem_of_mem_take hs)
 have h2:(ss.take k).length<=100000:=by have:=h.1;simp;omega
 exact Nat.le_trans h1 (Nat.mul_le_mul h2 (by omega))
theorem yq(A:Option Addr)(c:Nat)(ss:List ByteArray)(w:World)(h:At w A (ss.map Value.string))(hs:dJ ss):
  Calls P_ 155 #[.slice A ss.length c] w fun e w'=>e= .returned (.int .i64 (cO ss))/\Ext w w':=by
 have H:=Lib.hid h;clear h
 have HS:=Lib.hid hs;clear hs
 go_enter func155,ntmps155
 go_wp2_with (go_at_call 104;refine(li _ _ _ _ H.out HS.out.1).mono ?_;rintro e w1 ⟨rfl,hown,hext⟩;have Hown:=Lib.hid hown;clear hown;have Hext:=Lib.hid hext;clear hext)
 have hsm:=dJ.plain HS.out
 have hpl:(ae ss).length<=100000:=hsm.1
 have Hp:=Lib.hid hsm;clear hsm
 obtain⟨ps,hps⟩:∃ps,ps=ae ss:=⟨_,rfl⟩
 rw[<-hps] at Hown Hp hpl |-
 have Hps:=Lib.hid hps;clear hps
 go_loop [3,9] (fun n i=>∃k:Nat,k<=ps.length/\i= .int .i64 k/\n= .int .i64 ((14+aR (ps.take k):Nat):Int)) (fun _ i=>ps.length-(intOf i).toNat)
 case atStart=>exact⟨0,Nat.zero_le _,rfl,rfl⟩
 case round=>
  obtain⟨k,hk,rfl,rfl⟩:=hrel
  have hb:=dJ.take Hp.out k
  rcases Nat.lt_or_ge k ps.length with hlt|hge
  ·have hc:=(At.of_own Hown.out).get0 (k:=k) (by simpa using hlt)
   have hsz:(ps[k]).size<=1000000:=Hp.out.2 _ (List.getElem_mem hlt)
   have Hn:=Lib.hid (nB ps k hlt)
   obtain⟨s,hs⟩:∃s,s=ps[k]:=⟨_,rfl⟩
   rw[<-hs] at hsz Hn
   rw[List.getElem_map,<-hs] at hc
   clear hs
   obtain⟨t,ht⟩:∃t,t=aR (ps.take k):=⟨_,rfl⟩
   rw[<-ht] at Hn hb |-
   clear ht
   go_wp2
   go_round
   case rel=>exact⟨k+1,by omega,by go_num,by rw[Hn.out];go_num⟩
   case measure=>simp[intOf];omega
  ·obtain rfl:k=ps.length:=by omega
   go_wp2
   go_ret
   exact⟨BJ (by rw[cO,<-Hps.out];omega),Hext.out⟩
end
section
open Go.RowKit
def fV(ss:List ByteArray):Bool:=ss.any fun s=>decide (400<s.size)
theorem uG(ss:List ByteArray)(k:Nat)(h:k<ss.length):fV (ss.take (k+1))=(fV (ss.take k)||decide (400<ss[k].size)):=by
 unfold fV
 rw[List.take_succ_eq_append_getElem h]
 simp only[List.any_append,List.any_cons,List.any_nil,Bool.or_false]
def KQ(ss:List ByteArray)(w:World)(e:Ending)(w':World):Prop:=∃r:Int,e= .returned (.int .i64 r)/\(0<=r<->fV ss=true)/\w=w'
theorem Hg(ss:List ByteArray)(k:Nat)(h:k<ss.length)(hl:400<ss[k].size):fV ss=true:=by
 unfold fV
 rw[List.any_eq_true]
 exact⟨ss[k],List.getElem_mem h,by simpa using hl⟩
theorem yD(s:ByteArray)(w:World)(hs:s.size<=9223372036854775807):
  Calls P_ 153 #[.string s] w fun e w'=>e= .returned (.bool (decide (400<s.size)))/\w=w':=by
 go_enter func153,ntmps153
 go_wp2
 go_ret
 exact⟨yb (by simp only[decide_eq_decide];omega),rfl⟩
theorem FD(A:Option Addr)(c:Nat)(ss:List ByteArray)(w:World)(h:At w A (ss.map Value.string))(hs:dJ ss):
  Calls P_ 179 #[.slice A ss.length c,.func (.func 153) #[] #[]] w (KQ ss w):=by
 have H:=Lib.hid h;clear h
 have hl:=hs.1
 have HS:=Lib.hid hs;clear hs
 go_enter func179,ntmps179
 go_wp2
 go_loop [8] (fun i=>∃k:Nat,k<=ss.length/\i= .int .i64 k/\fV (ss.take k)=false) (fun i=>ss.length-(intOf i).toNat)
 case atStart=>exact⟨0,Nat.zero_le _,rfl,rfl⟩
 case round=>
  obtain⟨k,hk,rfl,ht⟩:=hrel
  have Ht:=Lib.hid ht;clear ht
  rcases Nat.lt_or_ge k ss.length with hlt|hge
  ·obtain⟨ad,rfl,_,hc⟩:=H.out.get (k:=k) (by simpa using hlt)
   rw[List.getElem_map] at hc
   have hsz:(ss[k]).size<=1000000:=HS.out.2 _ (List.getElem_mem hlt)
   obtain⟨s,hs⟩:∃s,s=ss[k]:=⟨_,rfl⟩
   rw[<-hs] at hc hsz
   have Hs:=Lib.hid hs;clear hs
   rcases Nat.lt_or_ge 400 s.size with h4|h4
   ·have hd:decide (400<s.size)=true:=by simpa using h4
    go_wp2_with (go_at_call 153;refine(yD _ _ (by omega)).mono ?_;rintro e w1 ⟨rfl,rfl⟩)
    go_ret
    exact⟨_,rfl,⟨fun _=>Hg ss k hlt (by rw[<-Hs.out];exact h4),fun _=>by omega⟩,rfl⟩
   ·have hd:decide (400<s.size)=false:=by simpa using h4
    have hn:fV (ss.take (k+1))=false:=by rw[uG ss k hlt,Ht.out,<-Hs.out,hd];rfl
    have Hn:=Lib.hid hn;clear hn
    go_wp2_with (go_at_call 153;refine(yD _ _ (by omega)).mono ?_;rintro e w1 ⟨rfl,rfl⟩)
    go_round
    case rel=>exact⟨k+1,by omega,by go_num,Hn.out⟩
    case measure=>simp[intOf];omega
  ·obtain rfl:k=ss.length:=by omega
   rw[List.take_length] at Ht
   go_wp2
   go_ret
   exact⟨-1,rfl,⟨fun h=>absurd h (by decide),fun h=>by rw[Ht.out] at h;cases h⟩,rfl⟩
theorem qj(A:Option Addr)(c:Nat)(ss:List ByteArray)(w:World)(h:At w A (ss.map Value.string))(hs:dJ ss):
  Calls P_ 154 #[.slice A ss.length c,.func (.func 153) #[] #[]] w fun e w'=>e= .returned (.bool (fV ss))/\w=w':=by
 have H:=Lib.hid h;clear h
 have HS:=Lib.hid hs;clear hs
 go_enter func154,ntmps154
 go_wp2_with (go_at_call 179;refine(FD _ _ _ _ H.out HS.out).mono ?_;rintro e w1 ⟨r,rfl,hr,rfl⟩;have Hr:=Lib.hid hr;clear hr)
 go_ret
 refine⟨yb ?_,rfl⟩
 rw[Bool.eq_iff_iff,<-Hr.out,decide_eq_true_iff]
def bu(k l:Int)(ss:List ByteArray):Bool:=
 decide (0<=k)&&(decide (k<=2)&&(decide (0<=l)&&(decide (l<=2147483647)&&(decide (ss.length<=24)&&(!fV ss&&decide (cO ss<=512))))))
def gK(v:Value)(w:World)(e:Ending)(w':World):Prop:=e= .returned v/\Ext w w'
theorem gK.bool{a b:Bool}(h:a=b)(hx:Ext w w1):gK (.bool b) w (.returned (.bool a)) w1:=⟨by rw[h],hx⟩
theorem gK.int{k:IntKind}{a b:Int}(h:a=b)(hx:Ext w w1):gK (.int k b) w (.returned (.int k a)) w1:=⟨by rw[h],hx⟩
theorem ql(k l:Int)(A:Option Addr)(c:Nat)(ss:List ByteArray)(w:World)(h:At w A (ss.map Value.string))(hs:dJ ss):
  Calls P_ 101 #[.agg #[.int .i64 k,.int .i64 l,.slice A ss.length c]] w (gK (.bool (bu k l ss)) w):=by
 have H:=Lib.hid h;clear h
 have hl:=hs.1
 have HS:=Lib.hid hs;clear hs
 have X0:=Lib.hid ((Ext.refl w).alloc (.cells #[.int .i64 k,.int .i64 l,.slice A ss.length c] 48))
 by_cases h1:0<=k
 ·by_cases h2:k<=2
  ·by_cases h3:0<=l
   ·by_cases h4:l<=2147483647
    ·by_cases h5:ss.length<=24
     ·have h5':(ss.length:Int)<=24:=by omega
      rcases hb:fV ss with _|_
      ·have H6:=Lib.hid hb;clear hb
       by_cases h7:cO ss<=512
       all_goals
        go_enter func101,ntmps101
        go_wp2_with (first
         |(go_at_call 154;refine(qj _ _ _ _ (H.out.ext X0.out) HS.out).mono ?_;rw[H6.out];rintro e w1 ⟨rfl,rfl⟩)
         |(go_at_call 155;refine(yq _ _ _ _ (H.out.ext X0.out) HS.out).mono ?_;rintro e w1 ⟨rfl,hx⟩;have X1:=Lib.hid (X0.out.trans hx);clear hx))
        go_ret
        exact gK.bool (by simp[bu,h1,h2,h3,h4,h5,H6.out];omega) X1.out
      ·have H6:=Lib.hid hb;clear hb
       go_enter func101,ntmps101
       go_wp2_with (go_at_call 154;refine(qj _ _ _ _ (H.out.ext X0.out) HS.out).mono ?_;rw[H6.out];rintro e w1 ⟨rfl,rfl⟩)
       go_ret
       exact gK.bool (by simp[bu,H6.out]) X0.out
     ·have h5':¬(ss.length:Int)<=24:=by omega
      go_enter func101,ntmps101
      go_wp2
      go_ret
      exact gK.bool (by simp[bu,h5]) X0.out
    ·go_enter func101,ntmps101
     go_wp2
     go_ret
     exact gK.bool (by simp[bu];intros;omega) X0.out
   ·go_enter func101,ntmps101
    go_wp2
    go_ret
    exact gK.bool (by simp[bu];intros;omega) X0.out
  ·go_enter func101,ntmps101
   go_wp2
   go_ret
   exact gK.bool (by simp[bu];intros;omega) X0.out
 ·go_enter func101,ntmps101
  go_wp2
  go_ret
  exact gK.bool (by simp[bu];intros;omega) X0.out
end
section
open Go.RowKit
def lZ(n:Int):Int:=max 0 (min n 8)
theorem lm(n:Int)(w:World):Calls P_ 148 #[.int .i64 n] w fun e w'=>e= .returned (.int .i64 (lZ n))/\w=w':=by
 go_enter func148,ntmps148
 go_wp2
 all_goals
  go_ret
  exact⟨BJ (by unfold lZ;omega),rfl⟩
def lO(n:Int):List Int:=[IntKind.u64.wrap n / 72057594037927936 % 256,IntKind.u64.wrap n / 281474976710656 % 256,IntKind.u64.wrap n / 1099511627776 % 256,IntKind.u64.wrap n / 4294967296 % 256,
 IntKind.u64.wrap n / 16777216 % 256,IntKind.u64.wrap n / 65536 % 256,IntKind.u64.wrap n / 256 % 256,IntKind.u64.wrap n % 256]
def ah(n:Int)(k:Nat):ByteArray:=strOfNums ((lO n).drop (8-k))
theorem aE(n:Int)(k:Nat)(hk:k<=8):(ah n k).size=k:=by
 rw[ah,strOfNums_size,List.length_drop]
 show 8-(8-k)=k
 omega
theorem oX(n:Int)(k:Nat)(hk:k<=8)(m:Nat)(hm:m+k=8)(W:World)(B:Nat)(hB:B=W.heap.size)(w:World)(t:TypeId)(hw:w=W.alloc (.cells ((lO n).map (Value.int .u8)).toArray t)):
  (convert 41 9 (.slice (some ⟨B,m,none⟩) k k)).run P_ w= .ok (.string (ah n k)) w:=by
 subst hB
 refine run_convert_bytes_arg _ 41 5 underlying41 underlying5 W.heap.size m k k ((lO n).drop (8-k)) (by rw[List.length_drop];show 8-(8-k)=k;omega) (fun i hi=>?_) 9 underlying9
 rw[hw,World.cell?_alloc_at _ _ _ _ rfl]
 have hl:(lO n).length=8:=rfl
 have hlt:m+i<(lO n).length:=by omega
 rw[List.getElem?_toArray,List.getElem?_map,List.getElem?_eq_getElem hlt]
 have e:8-k=m:=by omega
 rw[e,List.getD_eq_getElem?_getD,List.getElem?_drop,List.getElem?_eq_getElem hlt]
 rfl
theorem qy(n:Int)(w:World):Calls P_ 120 #[.int .i64 n,.int .i64 1] w (gK (.string (ah n 1)) w):=by
 have hcv:=oX n 1 (by omega) 7 rfl w w.heap.size rfl _ 204 rfl
 simp only[lO,List.map_cons,List.map_nil] at hcv
 have hs:lZ 1=1:=by decide
 go_enter func120,ntmps120
 go_wp2_with fail
 refine wp_loop_rounds 9 ?_
 rw[rounds_succ];go_wp2_with fail
 rw[rounds_succ];go_wp2_with fail
 rw[rounds_succ];go_wp2_with fail
 rw[rounds_succ];go_wp2_with fail
 rw[rounds_succ];go_wp2_with fail
 rw[rounds_succ];go_wp2_with fail
 rw[rounds_succ];go_wp2_with fail
 rw[rounds_succ];go_wp2_with fail
 rw[rounds_succ];go_wp2_with fail
 refine(lm _ _).mono ?_
 rw[hs]
 rintro e w1 ⟨rfl,rfl⟩
 clear hs
 go_wp2
 go_ret
 exact⟨rfl,(Ext.refl w).alloc _⟩
theorem xu(n:Int)(w:World):Calls P_ 120 #[.int .i64 n,.int .i64 2] w (gK (.string (ah n 2)) w):=by
 have hcv:=oX n 2 (by omega) 6 rfl w w.heap.size rfl _ 204 rfl
 simp only[lO,List.map_cons,List.map_nil] at hcv
 have hs:lZ 2=2:=by decide
 go_enter func120,ntmps120
 go_wp2_with fail
 refine wp_loop_rounds 9 ?_
 rw[rounds_succ];go_wp2_with fail
 rw[rounds_succ];go_wp2_with fail
 rw[rounds_succ];go_wp2_with fail
 rw[rounds_succ];go_wp2_with fail
 rw[rounds_succ];go_wp2_with fail
 rw[rounds_succ];go_wp2_with fail
 rw[rounds_succ];go_wp2_with fail
 rw[rounds_succ];go_wp2_with fail
 rw[rounds_succ];go_wp2_with fail
 refine(lm _ _).mono ?_
 rw[hs]
 rintro e w1 ⟨rfl,rfl⟩
 clear hs
 go_wp2
 go_ret
 exact⟨rfl,(Ext.refl w).alloc _⟩
theorem lg(n:Int)(w:World):Calls P_ 120 #[.int .i64 n,.int .i64 4] w (gK (.string (ah n 4)) w):=by
 have hcv:=oX n 4 (by omega) 4 rfl w w.heap.size rfl _ 204 rfl
 simp only[lO,List.map_cons,List.map_nil] at hcv
 have hs:lZ 4=4:=by decide
 go_enter func120,ntmps120
 go_wp2_with fail
 refine wp_loop_rounds 9 ?_
 rw[rounds_succ];go_wp2_with fail
 rw[rounds_succ];go_wp2_with fail
 rw[rounds_succ];go_wp2_with fail
 rw[rounds_succ];go_wp2_with fail
 rw[rounds_succ];go_wp2_with fail
 rw[rounds_succ];go_wp2_with fail
 rw[rounds_succ];go_wp2_with fail
 rw[rounds_succ];go_wp2_with fail
 rw[rounds_succ];go_wp2_with fail
 refine(lm _ _).mono ?_
 rw[hs]
 rintro e w1 ⟨rfl,rfl⟩
 clear hs
 go_wp2
 go_ret
 exact⟨rfl,(Ext.refl w).alloc _⟩
end
section
open Go.RowKit
def Rd(t:TypeId)(w:World)(B:Nat)(s:ByteArray)(p:Nat)(f:Bool):Prop:=Blk w B t #[.string s,.int .i64 p,.bool f]/\p<=s.size/\s.size<=2000000
def my(t:TypeId)(v:Value)(B:Nat)(s:ByteArray)(p:Nat)(f:Bool)(w:World)(e:Ending)(w':World):Prop:=e= .returned v/\Rd t w' B s p f/\Upd [B] w w'
theorem sY(B:Nat)(s:ByteArray)(p:Nat)(f:Bool)(w:World)(h:Rd 193 w B s p f):
  Calls P_ 149 #[po B 0] w (gK (.int .i64 (s.size-p:Nat)) w):=by
 obtain⟨hb,hp,hs⟩:=h
 have c0:w.cell? ⟨B,0,none⟩=some (.string s):=hb.cell 0
 have c1:w.cell? ⟨B,1,none⟩=some (.int .i64 p):=hb.cell 1
 have e1:=Lib.hid (show (s.size:Int)-(p:Int)=((s.size-p:Nat):Int) by omega)
 clear hb
 go_enter func149,ntmps149
 go_wp2
 go_quiet (fail)
 go_wp2
 go_ret
 exact gK.int e1.out ((Ext.refl w).drewN _)
theorem fC(B:Nat)(s:ByteArray)(p:Nat)(f:Bool)(w:World)(h:Rd 193 w B s p f):
  Calls P_ 97 #[po B 0] w fun e w'=>e= .returned (.bool f)/\w=w':=by
 obtain⟨hb,hp,hs⟩:=h
 have c2:w.cell? ⟨B,2,none⟩=some (.bool f):=hb.cell 2
 clear hb
 go_enter func97,ntmps97
 go_wp2
 go_ret
 exact⟨rfl,rfl⟩
theorem vZ(B:Nat)(s:ByteArray)(p n:Nat)(w:World)(h:Rd 193 w B s p false)(hn:p+n<=s.size):
  Calls P_ 96 #[po B 0,.int .i64 n] w (my 193 (.string (s.extract p (p+n))) B s (p+n) false w):=by
 obtain⟨hb,hp,hs⟩:=h
 have HB:=Lib.hid hb
 have c0:w.cell? ⟨B,0,none⟩=some (.string s):=hb.cell 0
 have c1:w.cell? ⟨B,1,none⟩=some (.int .i64 p):=hb.cell 1
 have c2:w.cell? ⟨B,2,none⟩=some (.bool false):=hb.cell 2
 clear hb
 go_enter func96,ntmps96
 go_wp2_with fail
 refine(sY _ _ _ _ _ ⟨HB.out,hp,hs⟩).mono ?_
 rintro e w1 ⟨rfl,hx⟩
 have HB1:=Lib.hid (HB.out.ext hx)
 have X1:=Lib.hid hx
 clear hx c0 c1 c2
 have c0:w1.cell? ⟨B,0,none⟩=some (.string s):=HB1.out.cell 0
 have c1:w1.cell? ⟨B,1,none⟩=some (.int .i64 p):=HB1.out.cell 1
 have f1:=HB1.out.frozen 1
 have hlt:=HB1.out.lt
 have hn1:(n:Int)<=((s.size-p:Nat):Int):=by omega
 have e1:(0:Int)<=(p:Int)+(n:Int):=by omega
 have e2:(p:Int)+(n:Int)<=(s.size:Int):=by omega
 have e3:(p:Int)<=(p:Int)+(n:Int):=by omega
 go_wp2_with fail
 go_quiet (fail)
 go_wp2
 go_ret
 refine⟨rfl,⟨?_,hn,hs⟩,((Upd.of_ext X1.out).set (.inl (by simp)) _).drewN _⟩
 rw[show ((p+n:Nat):Int)=(p:Int)+(n:Int) by omega]
 exact(HB1.out.set_ 1 _).drewN _
theorem kp(B:Nat)(s:ByteArray)(p:Nat)(f:Bool)(n:Int)(w:World)(h:Rd 193 w B s p f)(hn:f=true\/n<0\/(s.size:Int)<p+n):
  Calls P_ 96 #[po B 0,.int .i64 n] w (my 193 (.string ByteArray.empty) B s p true w):=by
 obtain⟨hb,hp,hs⟩:=h
 have HB:=Lib.hid hb
 have c2:w.cell? ⟨B,2,none⟩=some (.bool f):=hb.cell 2
 have f2:=hb.frozen 2
 clear hb
 rcases f with _|_
 ·by_cases h0:n<0
  ·go_enter func96,ntmps96
   go_wp2
   go_ret
   exact⟨rfl,⟨HB.out.set_ 2 _,hp,hs⟩,(Upd.refl _ _).set (.inl (by simp)) _⟩
  ·have h1:(s.size:Int)<p+n:=by simpa[h0] using hn
   have h0':0<=n:=by omega
   have h2:((s.size-p:Nat):Int)<n:=by omega
   clear hn h1 h0
   go_enter func96,ntmps96
   go_wp2_with fail
   refine(sY _ _ _ _ _ ⟨HB.out,hp,hs⟩).mono ?_
   rintro e w1 ⟨rfl,hx⟩
   have HB1:=Lib.hid (HB.out.ext hx)
   have X1:=Lib.hid hx
   clear hx c2 f2
   have c2:w1.cell? ⟨B,2,none⟩=some (.bool false):=HB1.out.cell 2
   have f2:=HB1.out.frozen 2
   go_wp2
   go_ret
   exact⟨rfl,⟨HB1.out.set_ 2 _,hp,hs⟩,(Upd.of_ext X1.out).set (.inl (by simp)) _⟩
 ·clear hn
  go_enter func96,ntmps96
  go_wp2
  go_ret
  exact⟨rfl,⟨HB.out.set_ 2 _,hp,hs⟩,(Upd.refl _ _).set (.inl (by simp)) _⟩
def gH(l:List UInt8):Nat:=l.foldl (fun n c=>n*256+c.toNat) 0
theorem DO(l:List UInt8)(c:UInt8):gH (l++[c])=gH l*256+c.toNat:=by rw[gH,List.foldl_append];rfl
theorem wn(l:List UInt8):gH l<256^l.length:=by
 have h:∀(l:List UInt8) (n:Nat),l.foldl (fun n c=>n*256+c.toNat) n<(n+1)*256^l.length:=by
  intro l
  induction l with
  |nil=>intro n;simp
  |cons c l ih=>
   intro n
   have h1:=ih (n*256+c.toNat)
   have h2:c.toNat<256:=UInt8.toNat_lt _
   have h3:(n*256+c.toNat+1)*256^l.length<=((n+1)*256)*256^l.length:=Nat.mul_le_mul_right _ (by omega)
   rw[List.foldl_cons,List.length_cons,Nat.pow_succ,Nat.mul_comm (256^l.length) 256,<-Nat.mul_assoc]
   omega
 have:=h l 0
 simpa[gH] using this
def pd(s:ByteArray):List Value:=s.data.toList.map fun b=>Value.int .u8 b.toNat
theorem BX(s:ByteArray)(w:World):∃cap w',(convert 9 41 (.string s)).run P_ w= .ok (.slice (some ⟨w.heap.size,0,none⟩) s.size cap) w'/\Ext w w'/\At w' (some ⟨w.heap.size,0,none⟩) (pd s)/\s.size<=cap:=by
 have hcut:s.size<=grownCap w s.size 0 5:=grownCap_ge w s.size 0 5
 refine⟨_,_,run_bytes_of_string w 9 41 5 s underlying9 underlying41 underlying5,(Ext.refl w).drew.alloc _,?_,hcut⟩
 intro j u hj
 have hjl:j<s.data.toList.length:=by
  rcases Nat.lt_or_ge j s.data.toList.length with h|h
  ·exact h
  ·rw[pd,List.getElem?_eq_none (by simpa using h)] at hj;cases hj
 refine⟨_,rfl,by simp,?_⟩
 have hh:=heap_alloc_new w.drew (.cells (bytesRow s (grownCap w s.size 0 5)) 5 ((bytesRow s (grownCap w s.size 0 5)).size,(bytesRow s (grownCap w s.size 0 5)).size+1))
 have hh':(w.drew.alloc (.cells (bytesRow s (grownCap w s.size 0 5)) 5 ((bytesRow s (grownCap w s.size 0 5)).size,(bytesRow s (grownCap w s.size 0 5)).size+1))).heap[w.heap.size]? = _:=hh
 rw[Addr.add_lit,Nat.zero_add]
 unfold World.cell?
 rw[hh']
 show (bytesRow s (grownCap w s.size 0 5))[j]? =some u
 rw[bytesRow,Array.getElem?_append_left (by simpa using hjl),<-hj,pd]
 simp
theorem MD(a b:Nat)(ha:a<4611686018427387904)(hb:b<4611686018427387904):bits .or .i64 (a:Int) (b:Int)=((a|||b:Nat):Int):=by
 have e:bits .or .i64 (a:Int) (b:Int)=IntKind.i64.wrap ((BitVec.ofInt 64 (a:Int)|||BitVec.ofInt 64 (b:Int)).toNat:Int):=rfl
 have h1:∀n:Nat,n<4611686018427387904->(BitVec.ofInt 64 (n:Int)).toNat=n:=fun n hn=>by
  rw[BitVec.ofInt_natCast,BitVec.toNat_ofNat,Nat.mod_eq_of_lt (by omega)]
 have h2:a|||b<2^62:=Nat.or_lt_two_pow (by omega) (by omega)
 rw[e,BitVec.toNat_or,h1 a ha,h1 b hb,IntKind.wrap_i64]
 omega
theorem LO(a c:Nat)(hc:c<256):a*256|||c=a*256+c:=by
 have:=Nat.two_pow_add_eq_or_of_lt (i:=8) (b:=c) (by omega) a
 rw[Nat.mul_comm a 256]
 exact this.symm
def aP(s:ByteArray)(p k:Nat):Nat:=gH (s.extract p (p+k)).data.toList
theorem dG(B:Nat)(s:ByteArray)(p k:Nat)(w:World)(h:Rd 193 w B s p false)(hk:k<=4)(hn:p+k<=s.size):
  Calls P_ 95 #[po B 0,.int .i64 k] w (my 193 (.int .i64 (aP s p k)) B s (p+k) false w):=by
 have H:=Lib.hid h;clear h
 have hsk:=Lib.hid (show lZ k=k by unfold lZ;omega)
 go_enter func95,ntmps95
 go_wp2_with fail
 refine(lm _ _).mono ?_
 rw[hsk.out]
 rintro e w1 ⟨rfl,rfl⟩
 go_wp2_with fail
 refine(vZ _ _ _ _ _ H.out hn).mono ?_
 rintro e w1 ⟨rfl,hr,hu⟩
 obtain⟨t,ht⟩:∃t,t=s.extract p (p+k):=⟨_,rfl⟩
 rw[<-ht]
 have htk:t.size=k:=by rw[ht,ByteArray.size_extract];omega
 have HT:=Lib.hid (show aP s p k=gH t.data.toList by rw[aP,<-ht])
 have HK:=Lib.hid htk
 have HR:=Lib.hid hr
 have HU:=Lib.hid hu
 have hts:(t.size:Int)<=4:=by omega
 clear hr hu ht htk
 obtain⟨cap,w2,hcv,hx,hAt,hcap⟩:=BX t w1
 have X2:=Lib.hid hx
 have HA:=Lib.hid hAt
 clear hx hAt
 go_wp2
 go_loop [5,14] (fun x v=>∃j:Nat,v= .int .i64 j/\j<=t.size/\x= .int .i64 (gH (t.data.toList.take j))) (fun _ v=>t.size-(intOf v).toNat)
 case atStart=>exact⟨0,rfl,Nat.zero_le _,rfl⟩
 case round=>
  obtain⟨j,rfl,hj,rfl⟩:=hrel
  rcases Nat.lt_or_ge j t.size with hlt|hge
  ·have hb:=wn (t.data.toList.take j)
   have hlen:(t.data.toList.take j).length=j:=by simp;omega
   have h256:256^(t.data.toList.take j).length<=16777216:=by
    rw[hlen]
    exact Nat.le_trans (Nat.pow_le_pow_right (by omega) (show j<=3 by omega)) (by decide)
   have hsn:t.data.toList.take (j+1)=t.data.toList.take j++[t[j]]:=by rw[List.take_succ_eq_append_getElem (by simpa using hlt)];rfl
   have HN:=Lib.hid (show gH (t.data.toList.take (j+1))=gH (t.data.toList.take j)*256+t[j].toNat by rw[hsn,DO])
   have hcell:w2.cell? ⟨w1.heap.size,j,none⟩=some (.int .u8 t[j].toNat):=by
    obtain⟨ad,e,_,hc⟩:=HA.out j _ (by rw[pd,List.getElem?_map,List.getElem?_eq_getElem (by simpa using hlt)];rfl)
    injection e with e
    subst e
    rwa [Addr.add_lit,Nat.zero_add] at hc
   obtain⟨a,ha⟩:∃a,a=gH (t.data.toList.take j):=⟨_,rfl⟩
   obtain⟨c,hc⟩:∃c,c=t[j].toNat:=⟨_,rfl⟩
   have hc8:c<256:=by rw[hc];exact UInt8.toNat_lt _
   rw[<-ha] at hb HN |-
   rw[<-hc] at HN hcell
   have ha1:(a:Int)<=16777216:=by omega
   have i1:(0:Int)<=(j:Int):=by omega
   have i2:(j:Int)<(t.size:Int):=by omega
   have HO:=Lib.hid (show bits .or .i64 ((a:Int)*256) (c:Int)=((a*256+c:Nat):Int) by
    rw[show ((a:Int)*256)=((a*256:Nat):Int) by omega,MD _ _ (by omega) (by omega),LO a c hc8])
   clear hsn hlen h256 hb ha hc
   go_wp2
   go_round
   case rel=>exact⟨j+1,by go_num,by omega,by rw[HN.out,HO.out]⟩
   case measure=>simp[intOf];omega
  ·obtain rfl:j=t.size:=by omega
   have e:t.data.toList.take t.size=t.data.toList:=List.take_of_length_le (by simp)
   rw[e]
   clear e
   go_wp2
   go_ret
   refine⟨?_,⟨HR.out.1.ext X2.out,HR.out.2.1,HR.out.2.2⟩,HU.out.ext X2.out⟩
   rw[HT.out]
   rfl
theorem rX(B:Nat)(s:ByteArray)(p k:Nat)(f:Bool)(w:World)(h:Rd 193 w B s p f)(hk:k<=4)(hn:f=true\/s.size<p+k):
  Calls P_ 95 #[po B 0,.int .i64 k] w (my 193 (.int .i64 0) B s p true w):=by
 have H:=Lib.hid h;clear h
 have hsk:=Lib.hid (show lZ k=k by unfold lZ;omega)
 have HN:=Lib.hid (show f=true\/((k:Nat):Int)<0\/(s.size:Int)<p+(k:Nat) by
  rcases hn with h|h
  ·exact .inl h
  ·exact .inr (.inr (by omega)))
 clear hn
 go_enter func95,ntmps95
 go_wp2_with fail
 refine(lm _ _).mono ?_
 rw[hsk.out]
 rintro e w1 ⟨rfl,rfl⟩
 go_wp2_with fail
 refine(kp _ _ _ _ _ _ H.out HN.out).mono ?_
 rintro e w1 ⟨rfl,hr,hu⟩
 obtain⟨cap,w2,hcv,hx,hAt,hcap⟩:=BX ByteArray.empty w1
 have HR:=Lib.hid hr
 have HU:=Lib.hid hu
 have X2:=Lib.hid hx
 have hz:(ByteArray.empty).size=0:=rfl
 clear hr hu hx hAt hcap
 go_wp2
 go_loop [5,14] (fun x v=>x= .int .i64 0/\v= .int .i64 0) (fun _ _=>0)
 case atStart=>exact⟨rfl,rfl⟩
 case round=>
  obtain⟨rfl,rfl⟩:=hrel
  go_wp2
  go_ret
  exact⟨rfl,⟨HR.out.1.ext X2.out,HR.out.2.1,HR.out.2.2⟩,HU.out.ext X2.out⟩
def fo(s:ByteArray)(p:Nat):ByteArray:=s.extract (p+2) (p+2+aP s p 2)
theorem Rd.cells{t:TypeId}{B:Nat}{s:ByteArray}{p:Nat}{f:Bool}(h:Rd t w B s p f):
  w.cell? ⟨B,0,none⟩=some (.string s)/\w.cell? ⟨B,1,none⟩=some (.int .i64 p)/\w.cell? ⟨B,2,none⟩=some (.bool f)/\w.frozen? ⟨B,1,none⟩=false/\w.frozen? ⟨B,2,none⟩=false:=
 ⟨h.1.cell 0,h.1.cell 1,h.1.cell 2,h.1.frozen 1,h.1.frozen 2⟩
theorem oA(B:Nat)(s:ByteArray)(p:Nat)(w:World)(h:Rd 193 w B s p false)(h2:p+2<=s.size)(hn:p+2+aP s p 2<=s.size):
  Calls P_ 103 #[po B 0] w (my 193 (.string (fo s p)) B s (p+2+aP s p 2) false w):=by
 have H:=Lib.hid h
 obtain⟨c0,c1,c2,_,_⟩:=h.cells
 clear h
 go_enter func103,ntmps103
 go_wp2_with fail
 refine(dG _ _ _ 2 _ H.out (by omega) h2).mono ?_
 rintro e w1 ⟨rfl,hr,hu⟩
 have HR1:=Lib.hid hr
 have HU1:=Lib.hid hu
 clear hr hu c0 c1 c2
 go_wp2_with fail
 refine(vZ _ _ _ _ _ HR1.out hn).mono ?_
 rintro e w2 ⟨rfl,hr,hu⟩
 have HR2:=Lib.hid hr
 have HU2:=Lib.hid (HU1.out.trans hu)
 obtain⟨c0,c1,c2,_,_⟩:=hr.cells
 clear hr hu
 have HT:=Lib.hid (show fo s p=s.extract (p+2) (p+2+aP s p 2) from rfl)
 obtain⟨x,hx⟩:∃x,x=s.extract (p+2) (p+2+aP s p 2):=⟨_,rfl⟩
 rw[<-hx] at HT |-
 clear hx
 go_wp2
 go_ret
 exact⟨by rw[HT.out];rfl,HR2.out,HU2.out⟩
theorem H3(B:Nat)(s:ByteArray)(p:Nat)(f:Bool)(w:World)(h:Rd 193 w B s p f)(hn:f=true\/s.size<p+2\/s.size<p+2+aP s p 2):
  Calls P_ 103 #[po B 0] w (my 193 (.string ByteArray.empty) B s p true w):=by
 have H:=Lib.hid h
 obtain⟨c0,c1,c2,_,_⟩:=h.cells
 have hps:=h.2
 clear h
 by_cases h1:f=true\/s.size<p+2
 ·have HN:=Lib.hid h1
  clear hn h1
  go_enter func103,ntmps103
  go_wp2_with fail
  refine(rX _ _ _ 2 _ _ H.out (by omega) HN.out).mono ?_
  rintro e w1 ⟨rfl,hr,hu⟩
  have HR1:=Lib.hid hr
  have HU1:=Lib.hid hu
  clear hr hu c0 c1 c2
  go_wp2_with fail
  refine(kp _ _ _ _ _ _ HR1.out (.inl rfl)).mono ?_
  rintro e w2 ⟨rfl,hr,hu⟩
  have HR2:=Lib.hid hr
  have HU2:=Lib.hid (HU1.out.trans hu)
  obtain⟨c0,c1,c2,z1,_⟩:=hr.cells
  clear hr hu
  go_wp2
  go_ret
  exact⟨rfl,⟨HR2.out.1.set_ 1 _,hps⟩,HU2.out.set (.inl (by simp)) _⟩
 ·have hf:f=false:=by
   cases f with
   |true=>exact absurd (.inl rfl) h1
   |false=>rfl
  subst hf
  have h2:p+2<=s.size:=by omega
  have h3:s.size<p+2+aP s p 2:=by
   rcases hn with h|h|h
   ·cases h
   ·omega
   ·exact h
  clear hn h1
  go_enter func103,ntmps103
  go_wp2_with fail
  refine(dG _ _ _ 2 _ H.out (by omega) h2).mono ?_
  rintro e w1 ⟨rfl,hr,hu⟩
  have HR1:=Lib.hid hr
  have HU1:=Lib.hid hu
  clear hr hu c0 c1 c2
  go_wp2_with fail
  refine(kp _ _ _ _ _ _ HR1.out (.inr (.inr (by omega)))).mono ?_
  rintro e w2 ⟨rfl,hr,hu⟩
  have HR2:=Lib.hid hr
  have HU2:=Lib.hid (HU1.out.trans hu)
  obtain⟨c0,c1,c2,z1,_⟩:=hr.cells
  clear hr hu
  go_wp2
  go_ret
  exact⟨rfl,⟨HR2.out.1.set_ 1 _,hps⟩,HU2.out.set (.inl (by simp)) _⟩
end
section
open Go.RowKit
def bl(s:ByteArray):List UInt8:=s.data.toList
def bC(l:List UInt8):ByteArray:=⟨l.toArray⟩
theorem bO(s:ByteArray):(bl s).length=s.size:=by simp[bl]
theorem iv(s:ByteArray):bC (bl s)=s:=by simp[bl,bC]
theorem rM(l:List UInt8):bl (bC l)=l:=by simp[bl,bC]
theorem cN(a b:ByteArray):bl (a++b)=bl a++bl b:=by simp[bl,ByteArray.data_append]
theorem nP(a b:List UInt8):bC (a++b)=bC a++bC b:=by
 apply ByteArray.ext
 rw[ByteArray.data_append]
 simp[bC]
theorem la(l:List UInt8):(bC l).size=l.length:=by simp[bC,ByteArray.size]
theorem go{a b:ByteArray}(h:bl a=bl b):a=b:=by rw[<-iv a,<-iv b,h]
theorem eh(s:ByteArray)(p q:Nat):bl (s.extract p q)=((bl s).drop p).take (q-p):=by
 simp[bl,ByteArray.data_extract]
theorem xJ{α:Type}(a b c:List α)(p k:Nat)(hp:a.length=p)(hk:b.length=k):((a++(b++c)).drop p).take k=b:=by
 subst hp hk
 simp
theorem kx{s:ByteArray}{a b c:List UInt8}(hs:bl s=a++(b++c)){p:Nat}(hp:a.length=p)(hq:p+b.length=q):s.extract p q=bC b:=by
 apply go
 rw[eh,rM,hs,xJ a b c p (q-p) hp (by omega)]
theorem ms{s:ByteArray}{a b c:List UInt8}(hs:bl s=a++(b++c)){p k:Nat}(hp:a.length=p)(hk:b.length=k):aP s p k=gH b:=by
 have h:bl (s.extract p (p+k))=b:=by rw[kx hs hp (by rw[hk]),rM]
 exact congrArg gH h
theorem p9(xs:List Int):gH (bl (strOfNums xs))=xs.foldl (fun(n:Nat) x=>n*256+x.toNat % 256) 0:=by
 show gH ((strOfNums xs).data.toList)= _
 rw[strOfNums_data,gH,List.foldl_map]
 rfl
theorem iF(n:Int)(h0:0<=n)(h1:n<256):(gH (bl (ah n 1)):Int)=n:=by
 have hu:IntKind.u64.wrap n=n:=by rw[IntKind.wrap_u64];omega
 rw[ah,p9,lO,hu]
 simp only[List.drop_succ_cons,List.drop_zero,List.foldl_cons,List.foldl_nil]
 omega
theorem ng(n:Int)(h0:0<=n)(h1:n<65536):(gH (bl (ah n 2)):Int)=n:=by
 have hu:IntKind.u64.wrap n=n:=by rw[IntKind.wrap_u64];omega
 rw[ah,p9,lO,hu]
 simp only[List.drop_succ_cons,List.drop_zero,List.foldl_cons,List.foldl_nil]
 omega
theorem nC(n:Int)(h0:0<=n)(h1:n<4294967296):(gH (bl (ah n 4)):Int)=n:=by
 have hu:IntKind.u64.wrap n=n:=by rw[IntKind.wrap_u64];omega
 rw[ah,p9,lO,hu]
 simp only[List.drop_succ_cons,List.drop_zero,List.foldl_cons,List.foldl_nil]
 omega
end
section
open Go.RowKit
def iA(ss:List ByteArray)(i:Int):ByteArray:=if i<0 then ByteArray.empty else ss.getD i.toNat ByteArray.empty
theorem mT(ss:List ByteArray)(i:Nat):iA ss i=ss.getD i ByteArray.empty:=by
 rw[iA,if_neg (by omega),Int.toNat_natCast]
theorem x9{a b:ByteArray}(h:a.toList=b.toList):a=b:=by
 rw[ByteArray.toList_eq,ByteArray.toList_eq] at h
 cases a;cases b
 simp at h
 rw[h]
theorem qa:ByteArray.empty.toList=[]:=by rw[ByteArray.toList_eq];rfl
def emp(s:ByteArray):Bool:=s.toList.isEmpty
theorem BS(s:ByteArray):emp s=true<->s=ByteArray.empty:=by
 unfold emp
 constructor
 ·intro h
  have h1:s.toList=[]:=by simpa using h
  exact x9 (by rw[h1,qa])
 ·rintro rfl;rw[qa];rfl
theorem wP(ss:List ByteArray):∀n j,fU ss n<=j->j<n->emp (iA ss j)=true
 |0,j,_,h=>by omega
 |n+1,j,h1,h2=>by
  rw[iZ] at h1
  split at h1
  ·rename_i he
   by_cases e:j=n
   ·subst e;rw[mT];exact he
   ·exact wP ss n j h1 (by omega)
  ·omega
theorem um(ss:List ByteArray):∀n,0<fU ss n->emp (iA ss (fU ss n-1:Nat))=false
 |0,h=>absurd h (Nat.lt_irrefl 0)
 |n+1,h=>by
  rw[iZ] at h |-
  split
  ·rename_i he;rw[if_pos he] at h;exact um ss n h
  ·rename_i he
   show emp (iA ss (n+1-1:Nat))=false
   rw[Nat.add_sub_cancel,mT]
   exact Bool.eq_false_iff.2 he
theorem zp(a b:List ByteArray):aR (a++b)=aR a+aR b:=by simp[aR]
theorem qG(h:i<(ae ss).length):(ae ss)[i]=iA ss i:=by
 have hl:=cn ss
 have ht:=dY ss ss.length
 rw[mT]
 simp[ae,List.getD,show i<ss.length by omega]
def dK(l:List ByteArray)(n:Nat):List ByteArray:=l++List.replicate (n-l.length) ByteArray.empty
def aX(ss:List ByteArray)(slot:Nat)(s:ByteArray):List ByteArray:=(dK (ae ss) (slot+1)).set slot s
def di(k l:Int)(ss:List ByteArray)(slot:Int)(s:ByteArray):Int:=
 if bu k l ss=false then 22 else if slot<0\/24<=slot\/400<s.size then 21 else if 512<cO (aX ss slot.toNat s) then 20 else 0
theorem cT{k l:Int}{ss:List ByteArray}(h:bu k l ss=true):(0<=k/\k<=2)/\(0<=l/\l<=2147483647)/\(ss.length<=24/\∀s∈ss,s.size<=400)/\cO ss<=512:=by
 simp only[bu,Bool.and_eq_true,decide_eq_true_eq,Bool.not_eq_true',fV,List.any_eq_false,Nat.not_lt] at h
 exact⟨⟨h.1,h.2.1⟩,⟨h.2.2.1,h.2.2.2.1⟩,⟨h.2.2.2.2.1,h.2.2.2.2.2.1⟩,h.2.2.2.2.2.2⟩
theorem sP(h:ss.length<=i):iA ss i=ByteArray.empty:=by
 rw[mT];simp[List.getD,List.getElem?_eq_none h]
theorem Lg(h:i<ss.length):iA ss i=ss[i]:=by
 rw[mT];simp[List.getD,h]
theorem t8(ss:List ByteArray)(i:Nat):iA (ae ss) i=iA ss i:=by
 rcases Nat.lt_or_ge i (ae ss).length with h|h
 ·rw[Lg h,qG h]
 ·rw[sP h]
  rcases Nat.lt_or_ge i ss.length with g|g
  ·rw[cn] at h
   exact((BS _).1 (wP ss ss.length i h g)).symm
  ·rw[sP g]
theorem ya{ts:List ByteArray}(h:∀i:Nat,iA ss i=iA ts i):(ae ss).length<=(ae ts).length:=by
 rcases Nat.lt_or_ge (ae ts).length (ae ss).length with g|g
 ·exfalso
  have h1:=um ss ss.length (by rw[<-cn];omega)
  rw[<-cn,h,<-t8 ts,sP (by omega)] at h1
  rw[(BS _).2 rfl] at h1
  cases h1
 ·exact g
theorem D9{ts:List ByteArray}(h:∀i:Nat,iA ss i=iA ts i):ae ss=ae ts:=by
 refine List.ext_getElem (Nat.le_antisymm (ya h) (ya fun i=>(h i).symm)) fun i h1 h2=>?_
 rw[qG h1,qG h2,h]
theorem pf(ss:List ByteArray):ae (ae ss)=ae ss:=D9 (t8 ss)
theorem ef{k l:Int}(h:bu k l ss=true):dJ ss:=by
 have:=(cT h).2.2.1
 exact⟨by omega,fun x hx=>by have:=this.2 x hx;omega⟩
theorem iu(ss:List ByteArray):ae (ae ss)=ae ss:=pf ss
theorem xj{k l:Int}(h:0<=k/\k<=2)(h':0<=l/\l<=2147483647):bu k l []=true:=by
 simp[bu,h,h',fV,cO,ae,aR]
theorem Es(ss:List ByteArray)(K:Nat)(s:ByteArray):(aX ss K s).length=max (ae ss).length (K+1):=by
 simp only[aX,dK,List.length_set,List.length_append,List.length_replicate];omega
theorem ED{K:Nat}{s x:ByteArray}(h:x∈aX ss K s):x=s\/x∈ss\/x=ByteArray.empty:=by
 rcases List.mem_or_eq_of_mem_set h with h|h
 ·rcases List.mem_append.1 h with h1|h1
  ·exact .inr (.inl (List.mem_of_mem_take h1))
  ·exact .inr (.inr (List.mem_replicate.1 h1).2)
 ·exact .inl h
theorem E5{k l:Int}{slot:Int}{s:ByteArray}(h:bu k l ss=true)(hp:di k l ss slot s=0):bu k l (ae (aX ss slot.toNat s))=true:=by
 obtain⟨hk,hl,⟨h24,hsz⟩,_⟩:=cT h
 unfold di at hp
 rw[h,if_neg (by simp)] at hp
 split at hp
 ·cases hp
 ·rename_i hb
  split at hp
  ·cases hp
  ·rename_i hz
   have hpl:=cn (aX ss slot.toNat s)
   have htr:=dY (aX ss slot.toNat s) (aX ss slot.toNat s).length
   have hwl:=Es ss slot.toNat s
   have hpl2:=cn ss
   have htr2:=dY ss ss.length
   have hz2:cO (ae (aX ss slot.toNat s))=cO (aX ss slot.toNat s):=by rw[cO,iu,cO]
   have hlong:fV (ae (aX ss slot.toNat s))=false:=by
    rw[fV,List.any_eq_false]
    intro x hx
    have hx':=ED (List.mem_of_mem_take hx)
    rcases hx' with rfl|hx'|rfl
    ·simp;omega
    ·have:=hsz x hx';simp;omega
    ·simp
   simp only[bu,Bool.and_eq_true,decide_eq_true_eq,hlong,Bool.not_false,hz2,true_and]
   exact⟨hk.1,hk.2,hl.1,hl.2,by omega,by omega⟩
def jq(s:ByteArray):ByteArray:=ah s.size 2++s
def adl(l:List UInt8):Nat×Nat:=l.foldl (fun ab c=>((ab.1+c.toNat) % 65521,(ab.2+(ab.1+c.toNat) % 65521) % 65521)) (1,0)
def bc(s:ByteArray):Nat:=(adl s.data.toList).2*65536+(adl s.data.toList).1
theorem zo(l:List UInt8):(adl l).1<65521/\(adl l).2<65521:=by
 unfold adl
 have:∀(l:List UInt8) (p:Nat×Nat),p.1<65521/\p.2<65521->(l.foldl (fun ab c=>((ab.1+c.toNat) % 65521,(ab.2+(ab.1+c.toNat) % 65521) % 65521)) p).1<65521/\(l.foldl (fun ab c=>((ab.1+c.toNat) % 65521,(ab.2+(ab.1+c.toNat) % 65521) % 65521)) p).2<65521:=by
  intro l
  induction l with
  |nil=>exact fun p h=>h
  |cons c l ih=>exact fun p h=>ih _ ⟨Nat.mod_lt _ (by omega),Nat.mod_lt _ (by omega)⟩
 exact this l (1,0) ⟨by omega,by omega⟩
theorem yE(s:ByteArray)(k:Nat)(h:k<s.size):adl (s.data.toList.take (k+1))=(((adl (s.data.toList.take k)).1+s[k].toNat) % 65521,((adl (s.data.toList.take k)).2+((adl (s.data.toList.take k)).1+s[k].toNat) % 65521) % 65521):=by
 rw[List.take_succ_eq_append_getElem (by simpa using h),adl,List.foldl_append]
 rfl
def bY(k l n:Int):List UInt8:=bl ((ah k 1++ah l 4)++ah n 1)
def bg(I:List ByteArray):List UInt8:=(I.map fun s=>bl (jq s)).flatten
def bR(k l:Int)(I:List ByteArray):List UInt8:=(bY k l I.length++bg I)++List.replicate (504-(6+aR I)) 0++bl (ah l 4)
def bN(k l:Int)(I:List ByteArray):ByteArray:=ah (bc (bC (bR k l I))) 4++bC (bR k l I)
theorem gn(k l n:Int):(bY k l n).length=6:=by
 rw[bY,bO,ByteArray.size_append,ByteArray.size_append,aE _ _ (by omega),aE _ _ (by omega),aE _ _ (by omega)]
theorem o8(s:ByteArray):(jq s).size=2+s.size:=by rw[jq,ByteArray.size_append,aE _ _ (by omega)]
theorem dD(I:List ByteArray):(bg I).length=aR I:=by
 induction I with
 |nil=>rfl
 |cons a I ih=>
  have e:bg (a::I)=bl (jq a)++bg I:=by simp[bg]
  have e2:aR (a::I)=(2+a.size)+aR I:=by simp[aR]
  rw[e,List.length_append,ih,bO,o8,e2]
theorem n6(I:List ByteArray)(j:Nat)(h:j<I.length):bg (I.take (j+1))=bg (I.take j)++bl (jq I[j]):=by
 rw[List.take_succ_eq_append_getElem h,bg,List.map_append,List.flatten_append]
 simp[bg]
theorem qd(k l:Int)(I:List ByteArray)(h:6+aR I<=504):(bR k l I).length=508:=by
 rw[bR,List.length_append,List.length_append,List.length_append,gn,dD,List.length_replicate,bO,aE _ _ (by omega)]
 omega
theorem kD(s:ByteArray):bc s<4294967296:=by
 have h:=zo s.data.toList
 unfold bc
 omega
theorem lJ(I:List ByteArray)(j:Nat):aR (I.take j)<=aR I:=by
 have e:=zp (I.take j) (I.drop j)
 rw[List.take_append_drop] at e
 omega
def rtx(s:ByteArray)(p:Nat):Nat->Option (List ByteArray×Nat)
 |0=>some ([],p)
 |n+1=>match rtx s p n with
  |some (xs,q)=>if q+2<=s.size/\q+2+aP s q 2<=s.size then some (xs++[fo s q],q+2+aP s q 2) else none
  |none=>none
theorem pC(k l:Int)(I:List ByteArray):bl (bN k l I)=bl (ah (bc (bC (bR k l I))) 4)++(bR k l I++[]):=by rw[bN,cN,rM,List.append_nil]
theorem ji(k l:Int)(I:List ByteArray):bl (bN k l I)=bl (ah (bc (bC (bR k l I))) 4)++(bl (ah k 1)++(bl (ah l 4)++(bl (ah I.length 1)++(bg I++(List.replicate (504-(6+aR I)) 0++bl (ah l 4)))))):=by
 rw[pC,List.append_nil,bR,bY,cN,cN]
 simp only[List.append_assoc]
theorem sB(k l:Int)(I:List ByteArray)(h:6+aR I<=504):(bN k l I).size=512:=by
 rw[bN,ByteArray.size_append,aE _ _ (by omega),la,qd k l I h]
theorem FH(k l:Int)(I:List ByteArray):aP (bN k l I) 0 4=bc (bC (bR k l I)):=by
 have h:=kD (bC (bR k l I))
 have h2:=nC (bc (bC (bR k l I))) (by omega) (by omega)
 rw[ms (p:=0) (a:=[]) (b:=bl (ah (bc (bC (bR k l I))) 4)) (by rw[List.nil_append];exact pC k l I) rfl (by rw[bO,aE _ _ (by omega)])]
 omega
theorem Co(k l:Int)(I:List ByteArray)(h:6+aR I<=504):(bN k l I).extract 4 512=bC (bR k l I):=
 kx (pC k l I) (by rw[bO,aE _ _ (by omega)]) (by rw[qd k l I h])
theorem CD(k l:Int)(I:List ByteArray)(h0:0<=k)(h1:k<256):(aP (bN k l I) 4 1:Int)=k:=by
 rw[ms (ji k l I) (by rw[bO,aE _ _ (by omega)]) (by rw[bO,aE _ _ (by omega)])]
 exact iF k h0 h1
theorem qP(k l:Int)(I:List ByteArray):bl (bN k l I)=(bl (ah (bc (bC (bR k l I))) 4)++bl (ah k 1))++(bl (ah l 4)++(bl (ah I.length 1)++(bg I++(List.replicate (504-(6+aR I)) 0++bl (ah l 4))))):=by
 rw[ji];simp only[List.append_assoc]
theorem D7(k l:Int)(I:List ByteArray)(h0:0<=l)(h1:l<4294967296):(aP (bN k l I) 5 4:Int)=l:=by
 rw[ms (qP k l I) (by rw[List.length_append,bO,bO,aE _ _ (by omega),aE _ _ (by omega)]) (by rw[bO,aE _ _ (by omega)])]
 exact nC l h0 h1
theorem AP(k l:Int)(I:List ByteArray):(bN k l I).extract 5 9=ah l 4:=by
 rw[kx (qP k l I) (p:=5) (q:=9) (by rw[List.length_append,bO,bO,aE _ _ (by omega),aE _ _ (by omega)]) (by rw[bO,aE _ _ (by omega)]),iv]
theorem y5(k l:Int)(I:List ByteArray):bl (bN k l I)=((bl (ah (bc (bC (bR k l I))) 4)++bl (ah k 1))++bl (ah l 4))++(bl (ah I.length 1)++(bg I++(List.replicate (504-(6+aR I)) 0++bl (ah l 4)))):=by
 rw[ji];simp only[List.append_assoc]
theorem C7(k l:Int)(I:List ByteArray)(h1:I.length<256):aP (bN k l I) 9 1=I.length:=by
 have h2:=iF (I.length) (by omega) (by omega)
 rw[ms (y5 k l I) (by simp only[List.length_append,bO];rw[aE _ _ (by omega),aE _ _ (by omega),aE _ _ (by omega)]) (by rw[bO,aE _ _ (by omega)])]
 omega
theorem EW(k l:Int)(I:List ByteArray)(h:6+aR I<=504):(bN k l I).extract 508 512=ah l 4:=by
 have e:bl (bN k l I)=((((bl (ah (bc (bC (bR k l I))) 4)++bl (ah k 1))++bl (ah l 4))++bl (ah I.length 1))++bg I++List.replicate (504-(6+aR I)) 0)++(bl (ah l 4)++[]):=by
  rw[ji,List.append_nil];simp only[List.append_assoc]
 rw[kx e (p:=508) (q:=512) (by
  simp only[List.length_append,bO,dD,List.length_replicate]
  rw[aE _ _ (by omega),aE _ _ (by omega),aE _ _ (by omega),aE _ _ (by omega)];omega) (by rw[bO,aE _ _ (by omega)]),iv]
theorem yR(I:List ByteArray)(j:Nat)(h:j<I.length):bg I=bg (I.take j)++(bl (ah I[j].size 2)++(bl I[j]++bg (I.drop (j+1)))):=by
 have e:I=I.take j++I[j]::I.drop (j+1):=by rw[List.getElem_cons_drop,List.take_append_drop]
 have e2:∀(a b:List ByteArray) (x:ByteArray),bg (a++x::b)=bg a++(bl (ah x.size 2)++(bl x++bg b)):=by
  intro a b x
  simp[bg,jq,cN]
 conv=>lhs;rw[e]
 rw[e2]
theorem xc(k l:Int)(I:List ByteArray)(h:6+aR I<=504)(j:Nat)(hj:j<=I.length):rtx (bN k l I) 10 j=some (I.take j,10+aR (I.take j)):=by
 induction j with
 |zero=>simp[rtx,aR]
 |succ j ih=>
  have hz:=sB k l I h
  have e0:=yR I j (by omega)
  obtain⟨hd,hhd⟩:∃x,x=((bl (ah (bc (bC (bR k l I))) 4)++bl (ah k 1))++bl (ah l 4))++bl (ah I.length 1)++bg (I.take j):=⟨_,rfl⟩
  obtain⟨tl,htl⟩:∃x,x=bg (I.drop (j+1))++(List.replicate (504-(6+aR I)) 0++bl (ah l 4)):=⟨_,rfl⟩
  have hl:hd.length=10+aR (I.take j):=by
   rw[hhd]
   simp only[List.length_append,bO,dD]
   rw[aE _ _ (by omega),aE _ _ (by omega),aE _ _ (by omega),aE _ _ (by omega)]
  have e1:bl (bN k l I)=hd++(bl (ah I[j].size 2)++(bl I[j]++tl)):=by
   rw[ji,e0,hhd,htl];simp only[List.append_assoc]
  have e2:bl (bN k l I)=(hd++bl (ah I[j].size 2))++(bl I[j]++tl):=by rw[e1,List.append_assoc]
  have bb:aR (I.take (j+1))=aR (I.take j)+2+I[j].size:=by
   have a1:=n6 I j (by omega)
   have a2:=congrArg List.length a1
   rw[List.length_append,dD,dD,bO,o8] at a2
   omega
  have hle:=lJ I (j+1)
  have hn:aP (bN k l I) (10+aR (I.take j)) 2=I[j].size:=by
   rw[ms e1 hl (by rw[bO,aE _ _ (by omega)])]
   have:=ng (I[j].size) (by omega) (by omega)
   omega
  have ht:fo (bN k l I) (10+aR (I.take j))=I[j]:=by
   rw[fo,hn,kx e2 (p:=10+aR (I.take j)+2) (by rw[List.length_append,hl,bO,aE _ _ (by omega)]) (by rw[bO]),iv]
  rw[rtx,ih (by omega)]
  simp only
  rw[hn,ht,hz,if_pos (by omega),bb,List.take_succ_eq_append_getElem (by omega),show 10+(aR (I.take j)+2+I[j].size)=10+aR (I.take j)+2+I[j].size by omega]
theorem C9(k l:Int)(I:List ByteArray)(h:6+aR I<=504)(j:Nat)(hj:j<I.length):
  10+aR (I.take j)+2<=(bN k l I).size/\10+aR (I.take j)+2+aP (bN k l I) (10+aR (I.take j)) 2<=(bN k l I).size/\
   fo (bN k l I) (10+aR (I.take j))=I[j]/\10+aR (I.take j)+2+aP (bN k l I) (10+aR (I.take j)) 2=10+aR (I.take (j+1)):=by
 have h1:=xc k l I h j (by omega)
 have h2:=xc k l I h (j+1) (by omega)
 rw[rtx,h1] at h2
 simp only at h2
 split at h2
 ·rename_i hc
  have e1:=congrArg Prod.fst (Option.some.inj h2)
  have e2:=congrArg Prod.snd (Option.some.inj h2)
  have e3:I.take j++[fo (bN k l I) (10+aR (I.take j))]=I.take (j+1):=e1
  rw[List.take_succ_eq_append_getElem hj] at e3
  have e4:=List.append_cancel_left e3
  refine⟨hc.1,hc.2,?_,e2⟩
  injection e4
 ·cases h2
theorem DF(c a b:Nat)(A B:Nat)(w:World)(hc:c<256)(ha:a<65521)(hb:b<65521)(hA:Blk w A 125 #[.int .u32 a])(hB:Blk w B 125 #[.int .u32 b])(hne:A≠B):
  Calls P_ 150 #[.int .u8 c,po A 0,po B 0] w fun e w'=>e= .returned (.tuple #[])/\
   Blk w' A 125 #[.int .u32 ((a+c) % 65521:Nat)]/\Blk w' B 125 #[.int .u32 ((b+(a+c) % 65521) % 65521:Nat)]/\Upd [A,B] w w':=by
 have HA:=Lib.hid hA;have HB:=Lib.hid hB
 have cA:w.cell? ⟨A,0,none⟩=some (.int .u32 a):=hA.cell 0
 have cB:w.cell? ⟨B,0,none⟩=some (.int .u32 b):=hB.cell 0
 have fA:=hA.frozen 0;have fB:=hB.frozen 0
 have lA:=hA.lt;have lB:=hB.lt
 clear hA hB
 go_enter func150,ntmps150
 have e1:((a:Int)+(c:Int)) % 65521=(((a+c) % 65521:Nat):Int):=by omega
 have e2:((b:Int)+((a:Int)+(c:Int))) % 65521=(((b+(a+c) % 65521) % 65521:Nat):Int):=by omega
 have E1:=Lib.hid e1;have E2:=Lib.hid e2
 clear e1 e2
 go_wp2
 go_end0
 rw[E1.out,E2.out]
 exact⟨rfl,((HA.out.set_ 0 _).far hne _),((HB.out.far (fun e=>hne e.symm) _).set_ 0 _),((Upd.refl _ _).set (.inl (by simp)) _).set (.inl (by simp)) _⟩
theorem mR(s:ByteArray)(w:World)(hs:s.size<=9223372036854775807):
  Calls P_ 98 #[.string s] w (gK (.int .u32 (bc s)) w):=by
 go_enter func98,ntmps98
 go_wp2
 go_loopw [10] (fun v wr=>∃k:Nat,v= .int .i64 k/\k<=s.size/\Blk wr w.heap.size 125 #[.int .u32 (adl (s.data.toList.take k)).1]/\Blk wr (w.heap.size+1) 125 #[.int .u32 (adl (s.data.toList.take k)).2]/\Ext w wr) (fun v _=>s.size-(intOf v).toNat)
 case atStart=>exact⟨0,rfl,Nat.zero_le _,(Blk.new' rfl).alloc _,Blk.new' (by simp),((Ext.refl w).alloc _).alloc _⟩
 case round=>
  obtain⟨k,rfl,hk,hA,hB,hx⟩:=hrel
  have HA:=Lib.hid hA;have HB:=Lib.hid hB;have XR:=Lib.hid hx
  have hlt:=zo (s.data.toList.take k)
  clear hA hB hx
  rcases Nat.lt_or_ge k s.size with hk1|hk1
  ·have HS:=Lib.hid (yE s k hk1)
   obtain⟨a,ha⟩:∃a,a=(adl (s.data.toList.take k)).1:=⟨_,rfl⟩
   obtain⟨b,hb⟩:∃b,b=(adl (s.data.toList.take k)).2:=⟨_,rfl⟩
   rw[<-ha,<-hb] at HS hlt
   rw[<-ha] at HA
   rw[<-hb] at HB
   have hcb:s[k].toNat<256:=UInt8.toNat_lt _
   clear ha hb
   have hk2:(k:Int)<(s.size:Int):=by omega
   have hk3:(0:Int)<=(k:Int):=by omega
   go_wp2_with fail
   refine(DF _ a b _ _ _ hcb hlt.1 hlt.2 HA.out HB.out (by omega)).mono ?_
   rintro e w1 ⟨rfl,hA,hB,hu⟩
   have HA1:=Lib.hid hA;have HB1:=Lib.hid hB;have HU:=Lib.hid hu
   clear hA hB hu hlt
   go_wp2
   go_roundw
   case rel=>exact⟨k+1,by go_num,by omega,by rw[HS.out];exact HA1.out,by rw[HS.out];exact HB1.out,XR.out.upd HU.out (by simp)⟩
   case measure=>simp[intOf];omega
  ·obtain rfl:k=s.size:=by omega
   have e:s.data.toList.take s.size=s.data.toList:=List.take_of_length_le (by simp)
   rw[e] at HA HB hlt
   obtain⟨a,ha⟩:∃a,a=(adl s.data.toList).1:=⟨_,rfl⟩
   obtain⟨b,hb⟩:∃b,b=(adl s.data.toList).2:=⟨_,rfl⟩
   rw[<-ha,<-hb] at hlt
   rw[<-ha] at HA
   rw[<-hb] at HB
   obtain⟨hlt1,hlt2⟩:=hlt
   have HF:=Lib.hid (show bc s=b*65536+a by rw[bc,<-ha,<-hb])
   have cA:wr.cell? ⟨w.heap.size,0,none⟩=some (.int .u32 a):=HA.out.cell 0
   have cB:wr.cell? ⟨w.heap.size+1,0,none⟩=some (.int .u32 b):=HB.out.cell 0
   clear e ha hb
   go_wp2
   go_ret
   refine⟨?_,XR.out⟩
   have e1:((b:Int)*65536)=((b*65536:Nat):Int):=by omega
   rw[HF.out,e1,u32_or_nat _ _ (by omega) (by omega)]
   have e2:b*65536|||a=b*65536+a:=by
    have:=Nat.two_pow_add_eq_or_of_lt (i:=16) (b:=a) (by omega) b
    rw[Nat.mul_comm b 65536]
    exact this.symm
   rw[e2]
   rfl
end
section
open Go.RowKit
def bU(l:List UInt8)(m:Nat):Int:=((l.getD m 0).toNat:Int)
theorem s5(l:List UInt8)(m:Nat):0<=bU l m/\bU l m<256:=by
 have:=(l.getD m 0).toNat_lt
 unfold bU;omega
section
variable{P:Program}{o:Oper}{ρ:Operand->Value}{W:World}
theorem jS{t:TypeId}{s:ByteArray}{k:IntKind}{j:Int}{m:Nat}(h:o.op= .index t x y)(ht:P.underlying t=some .string)(hx:ρ x= .string s)(hy:ρ y= .int k j)(hj:j=(m:Int))(hm:m<s.size):
  (execOp ρ o).run P W= .ok (.value (.int .u8 (bU (bl s) m))) W:=by
 subst hj
 unfold execOp;rw[h]
 have h1:(0:Int)<=(m:Int):=by omega
 have h2:s[m]? =some ((bl s).getD m 0):=by
  have hm':m<s.data.size:=hm
  rw[getElem?_pos s m hm]
  simp[bl,ByteArray.getElem_eq_getElem_data]
  rw[Array.getElem?_eq_getElem hm'];rfl
 simp only[hx,hy,Instr.index,asIntOf,Sem.run_bind,Sem.run_pure,Result.andThen_ok,run_underlying ht,h1,if_true,Int.toNat_natCast,h2]
 rfl
end
end
section
open Go.RowKit
abbrev PgS:=Int×Int×List ByteArray
def bp:PgS:=(0,0,[])
abbrev EdT:=Int×Int×ByteArray
abbrev bI(p:PgS):Prop:=bu p.1 p.2.1 p.2.2=true/\ae p.2.2=p.2.2
def eX(s:ByteArray):Bool:=decide (s.size≠1)||decide (2<bU (bl s) 0)
def doE(p:PgS)(e:EdT)(n:Int):Int:=if bu p.1 p.2.1 p.2.2=false then 22 else if n<0\/2147483647<n then 1 else if e.2.1= -1 then (if eX e.2.2=true then 21 else 0) else di p.1 p.2.1 p.2.2 e.2.1 e.2.2
def doV(p:PgS)(e:EdT)(n:Int):PgS:=if e.2.1= -1 then (bU (bl e.2.2) 0,n,[]) else (p.1,n,ae (aX p.2.2 e.2.1.toNat e.2.2))
theorem yn:bI bp:=⟨xj (by decide) (by decide),rfl⟩
theorem kC{p:PgS}{e:EdT}{n:Int}(h:doE p e n=0):bI (doV p e n):=by
 unfold doE at h
 split at h
 ·cases h
 ·rename_i hr
  split at h
  ·cases h
  ·rename_i hn
   unfold doV
   split at h
   ·rename_i hs
    rw[if_pos hs]
    split at h
    ·cases h
    ·rename_i hk
     simp only[eX,Bool.or_eq_true,decide_eq_true_eq,not_or] at hk
     have:=s5 (bl e.2.2) 0
     exact⟨xj (k:=bU (bl e.2.2) 0) (l:=n) (by omega) (by omega),rfl⟩
   ·rename_i hs
    rw[if_neg hs]
    have h1:=E5 (by simpa using hr) h
    obtain⟨a1,_,_,_⟩:=cT h1
    refine⟨?_,pf _⟩
    simp only[bu,Bool.and_eq_true,decide_eq_true_eq] at h1 |-
    exact⟨h1.1,by omega,by omega,by omega,h1.2.2.2.2⟩
end
section
open Go.RowKit
theorem Tryz.sizeSb:(Tryz.prog.info? 175).map (·.size)=some 2:=by kernel_rfl
theorem zk(b:Nat)(w:World)(h0:w.cell? ⟨b,0,none⟩=some (po b 0)):
  Calls P_ 164 #[po b 0] w fun e w'=>e= .returned (.tuple #[])/\w'=w:=by
 obtain⟨j,hj,_⟩:=Option.map_eq_some_iff.1 Tryz.sizeSb
 go_enter func164,ntmps164
 go_wp2
 rw[Lib.run_neq_ptr_same w _ underlying173 hj]
 go_wp2
 go_end0
 exact⟨rfl,rfl⟩
theorem xG(b:Nat)(w:World)(h0:w.cell? ⟨b,0,none⟩=some (.pointer none))(hsh:w.shape? b=some (175,2))(hfz:w.frozen? ⟨b,0,none⟩=false):
  Calls P_ 164 #[po b 0] w fun e w'=>e= .returned (.tuple #[])/\w'=w.setCell ⟨b,0,none⟩ (po b 0):=by
 obtain⟨j,hj,hjs⟩:=Option.map_eq_some_iff.1 Tryz.sizeSb
 go_enter func164,ntmps164
 go_wp2
 rw[Lib.run_to_unsafe w ⟨b,0,none⟩ underlying173 underlying220 hj (by rw[hjs];decide) hsh (Nat.zero_lt_succ 1)]
 simp only[Result.andThen]
 rw[Oper.upon_value]
 go_wp2
 rw[run_callFunc_extern func184 (by kernel_rfl) (by kernel_rfl) (by kernel_rfl) (e:=Extern.AbiNoEscape.same) (by kernel_rfl)]
 rw[Lib.run_noEscape]
 simp only[Result.andThen]
 rw[Oper.upon_value]
 go_wp2
 rw[Lib.run_from_unsafe w ⟨b,0,none⟩ underlying220 underlying173 hj hsh (by kernel_rfl)]
 simp only[Result.andThen]
 rw[Oper.upon_value]
 go_wp2
 go_end0
 exact⟨rfl,rfl⟩
theorem su(b:Nat)(p v:Value)(w:World)(hb:Blk w b 175 #[p,v])(hp:p= .pointer none\/p=po b 0):
  Calls P_ 164 #[po b 0] w fun e w'=>e= .returned (.tuple #[])/\Blk w' b 175 #[po b 0,v]/\Upd [b] w w':=by
 rcases hp with rfl|rfl
 ·refine(xG b w (hb.cell 0) (by unfold Blk at hb;simp[World.shape?,hb]) (hb.frozen 0)).mono ?_
  rintro e w' ⟨rfl,rfl⟩
  exact⟨rfl,hb.set_ 0 _,(Upd.refl [b] w).set (p:=⟨b,0,none⟩) (.inl (by simp)) _⟩
 ·refine(zk b w (hb.cell 0)).mono ?_
  rintro e w' ⟨rfl,rfl⟩
  exact⟨rfl,hb,Upd.refl _ _⟩
end
section
open Go.RowKit
theorem Fu{base:Nat}{e:TypeId}{v:Value}(h:w.ownsRow base e sz v n xs):w.ownsRow 0 e sz v n xs:=by
 refine⟨h.1,?_⟩
 rcases h.2 with hn|⟨g,cap,cur,hv,_,rest⟩
 ·exact .inl hn
 ·exact .inr ⟨g,cap,cur,hv,Nat.zero_le _,rest⟩
theorem nu(w:World)(t u ty e:TypeId)(i:TypeInfo)(ht:P.underlying t=some (.slice e))(hu:P.underlying u=some .string)(hi:P.info? e=some i)(hz:i.zero=some (.int .u8 0))
  (hsize:i.size=1) (hby:i.bytes=1) (v:Value) (n:Nat) (xs:List Value) (hown:w.ownsRow 0 e 1 v n xs) (s:ByteArray) (h63:n+s.size<=maxLen) (hbytes:n+s.size<=140737488355328):
  ∃v' w',(Builtin.append_ #[t,u] ty #[v,.string s]).run P w= .ok v' w'/\w'.ownsRow 0 e 1 v' (n+s.size) (xs++Lib.strCells s)/\w.grownBy w' v.ownBlock/\(∀k,v'.ownBlock=some k->v.ownBlock=some k\/w.heap.size<=k):=by
 have hsm:n+s.size<=9223372036854775807:=by simp only[maxLen] at h63;omega
 have h1:=hown.1
 rcases hown.2 with ⟨rfl,rfl⟩|⟨g,cap,cur,rfl,hbg,hg,hnc,hcm,hcs,htake⟩
 ·obtain⟨v',w',hr,h2,h3,h4⟩:=Lib.run_append_own_string (P:=P) w w.heap.size t u ty e i ht hu hi hz hsize hby _ _ xs ⟨hown.1,.inl ⟨rfl,rfl⟩⟩ s h63 hbytes (Nat.le_refl _)
  exact⟨v',w',hr,Fu h2,h3,fun k hk=> .inr (EP h2 k hk)⟩
 ·obtain⟨v',w',hr,h2,h3,h4⟩:=Lib.run_append_own_string (P:=P) w 0 t u ty e i ht hu hi hz hsize hby _ _ xs hown s h63 hbytes (Nat.zero_le _)
  refine⟨v',w',hr,h2,h3,fun k hk=>?_⟩
  by_cases hroom:n+s.size<=cap
  ·have hr':=Lib.run_append_room_string (P:=P) w t u ty e i ht hu hi hsize g n cap cur hg s hroom (by omega)
   rw[hr'] at hr
   injection hr with e1 e2
   subst e1
   exact .inl hk
  ·have hr':=Lib.run_append_grow_string (P:=P) w t u ty e i (.int .u8 0) ht hu hi hz ⟨g,0,none⟩ n cap xs (by rw[hsize];simpa using h1) (hown.cells (g:=g) rfl) s (by omega) (by omega) (by rw[hby];exact growslice_fits (by omega) (by omega))
   rw[hr'] at hr
   injection hr with e1 e2
   subst e1
   right
   have h5:some w.heap.size=some k:=hk
   injection h5 with h5
   omega
section
variable{P:Program}{ops:Array Oper}{L:List Nat}{a0:Act}{w0:World}{bor:List Nat}{X0:List Ent}{us cr kl:List (List Nat)}
 {D:Nat->(Tmp->Value)->(Tmp->Value)->(Nat->Ent)->Prop}{i:Nat}{o:Oper}{ρ:Operand->Value}{β:Tmp->Value}{W:World}{X:Nat->Ent}
theorem zE{s:Operand}{t u:TypeId}{d:Tmp}(ho:o.op= .call {callee:= .builtin .append,args:=#[s,x],argTypes:=#[t,u]})
  {e:TypeId}{inf:TypeInfo}(ht:P.underlying t=some (.slice e)) (hut:P.underlying u=some .string) (hi:P.info? e=some inf) (hz:inf.zero=some (.int .u8 0))
  (hsize:inf.size=1) (hby:inf.bytes=1){v:Value}(hs:ρ s=v) (c:CtxV ops L a0 w0 bor X0 us D i ρ β W X) (hX:X q=eO e 1 v n xs) (hu:(atV us i).contains q=true)
  {str:ByteArray}(hx:ρ x= .string str) (h63:n+str.size<=maxLen) (hbytes:n+str.size<=140737488355328) (hd:o.dst=some d) (hc:atV cr i=[q']) (hk:atV kl i=[q]){nm:Nat}{xs':List Value}(hnm:n+str.size=nm) (jJ:xs++Lib.strCells str=xs')
  (hD:∀(h f:Tmp->Value) (X':Nat->Ent),(∀t,t≠d->h t=ρ (.tmp t))->(∀t,t≠d->f t=β t)->h d= .slice (sA (f d)) nm (sC (f d))->X' q'=eO e 1 (.slice (sA (f d)) nm (sC (f d))) nm xs'->D i h f X'):
  ak P o ρ W (bQ cr kl D i o.dst ρ β W X):=by
 have hok:=c.ok q hu
 rw[hX] at hok
 have hown:W.ownsRow 0 e 1 v n xs:=hok.holds
 obtain⟨v',W',hrun,hown',hg,hat⟩:=nu (P:=P) W t u o.type e inf ht hut hi hz hsize hby v n xs hown str h63 hbytes
 have he:(execOp ρ o).run P W= .ok (.value v') W':=by
  unfold execOp
  simp only[ho,resolve,invoke,builtin,Sem.run_bind,Sem.run_pure,Result.andThen_ok,List.map_toArray,List.map_cons,List.map_nil,hs,hx,hrun]
 refine ak.value he ?_
 subst hnm;subst jJ
 obtain⟨A',c',rfl,_⟩:=zi hown'
 have hin:∀k,(v.ownBlock=some k)->k∈((atV kl i).flatMap fun q=>(X q).fp):=fun k hk'=>by
  rw[hk]
  simp only[List.flatMap_cons,List.flatMap_nil,List.append_nil,hX]
  simp[eO,hk']
 refine⟨[eO e 1 (.slice A' (n+str.size) c') (n+str.size) (xs++Lib.strCells str)],by rw[hc];rfl,⟨(Upd.refl _ W).grown hg fun k hk'=> .inl (hin k hk'),fun e' he=>?_,List.pairwise_singleton _ _⟩,fun h f X' hs' hv hb hbv hx' hN=>hD h f X' (fun t ht=>hs' t (by rw[hd];simpa using ht.symm)) (fun t ht=>hb t (by rw[hd];simpa using ht.symm)) ?_ ?_⟩
 ·rw[List.mem_singleton] at he
  subst he
  refine⟨hown',gg _ _ _ _ _,fun k hk'=>?_⟩
  have h2:(Value.slice A' (n+str.size) c').ownBlock=some k:=by simpa[eO] using hk'
  refine⟨?_,fe hown' k h2⟩
  rcases hat k h2 with h3|h3
  ·exact .inl (hin k h3)
  ·exact .inr h3
 ·rw[hv d hd,hbv d hd];rfl
 ·rw[hbv d hd]
  rw[hc] at hN
  exact(List.cons.inj hN).1
end
end
section
open Go.RowKit
def gI(W:World)(b:Nat)(r:Option Nat)(xs:List Value):Prop:=
 ∃p v,Blk W b 175 #[p,v]/\(p= .pointer none\/p=po b 0)/\W.ownsRow 0 5 1 v xs.length xs/\v.ownBlock=r
def eSb(b:Nat)(r:Option Nat)(xs:List Value):Ent:=⟨b::r.toList,fun W=>gI W b r xs⟩
def rO(e:Ent):Option Nat:=e.fp[1]?
theorem L8(b:Nat)(r:Option Nat)(xs:List Value):rO (eSb b r xs)=r:=by
 cases r<;>rfl
theorem Lq(b:Nat)(r:Option Nat)(xs:List Value):(eSb b r xs).loc:=fun W W' hk h=>by
 obtain⟨p,v,h1,h2,h3,h4⟩:=h
 refine⟨p,v,(hk b (by simp[eSb])).trans h1,h2,?_,h4⟩
 have:=gg 5 1 v xs.length xs W W' (fun k hk'=>hk k (by
  have h5:v.ownBlock=some k:=by simpa[eO] using hk'
  rw[h4] at h5
  simp[eSb,h5])) h3
 exact this
theorem gI.fresh(h:Blk W b 175 #[.pointer none,sn]):gI W b none []:=⟨_,_,h,.inl rfl,World.ownsRow_nil _ _ _ _,rfl⟩
theorem gI.ne(h:gI W b r xs):r≠some b:=by
 obtain⟨p,v,h1,h2,h3,h4⟩:=h
 have:=ot h3 h1 (by decide)
 rw[h4] at this
 exact this
theorem si{rest:List Oper}{o:Oper}(hgd:o.guard=none)(sl x:Operand)(t u:TypeId)
  (ho:o.op= .call {callee:= .builtin .append,args:=#[sl,x],argTypes:=#[t,u]})
  (e:TypeId) (i:TypeInfo) (ht:P.underlying t=some (.slice e)) (hu:P.underlying u=some .string) (hi:P.info? e=some i) (hz:i.zero=some (.int .u8 0))
  (hsize:i.size=1) (hby:i.bytes=1)
  (v:Value) (n:Nat) (xs:List Value) (hs:a.eval sl=v) (hown:w.ownsRow 0 e 1 v n xs) (s:ByteArray) (hx:a.eval x= .string s)
  (h63:n+s.size<=maxLen) (hbytes:n+s.size<=140737488355328)
  (h:∀v' w',w'.ownsRow 0 e 1 v' (n+s.size) (xs++Lib.strCells s)->w.grownBy w' v.ownBlock->(∀k,v'.ownBlock=some k->v.ownBlock=some k\/w.heap.size<=k)->wpList P ops Q rest (a.put o.dst v') w'):wpList P ops Q (o::rest) a w:=by
 refine wpList_plain hgd fun K hK=>?_
 obtain⟨v',w',hr,h2,h3,h4⟩:=nu (P:=P) w t u o.type e i ht hu hi hz hsize hby v n xs hown s h63 hbytes
 unfold Oper.wp execOp
 simp only[ho,resolve,invoke,builtin,Sem.run_bind,Sem.run_pure,Result.andThen_ok,List.map_toArray,List.map_cons,List.map_nil,hs,hx,hr]
 exact hK _ _ (h v' w' h2 h3 h4)
theorem Tryz.infoU8:(Tryz.prog.info? 5).map (fun i=>(i.zero,i.size,i.bytes))=some (some (.int .u8 0),1,1):=by kernel_rfl
def qt(b:Nat)(r:Option Nat)(xs:List Value)(w w':World):Prop:=∃r',gI w' b r' xs/\Upd (b::r.toList) w w'/\∀k,r'=some k->r=some k\/w.heap.size<=k
theorem Ls(b:Nat)(r:Option Nat)(xs:List Value)(s:ByteArray)(w:World)(h:gI w b r xs)(hlen:xs.length+s.size<=1000000):
  Calls P_ 121 #[po b 0,.string s] w fun e w'=>e= .returned (.tuple #[.int .i64 s.size,.nilIface])/\qt b r (xs++Lib.strCells s) w w':=by
 obtain⟨i0,hi,hz0,hz1,hz2⟩:=info_parts Tryz.infoU8
 have hnb:=h.ne
 obtain⟨p,v,hbk0,hp,hown0,hr⟩:=h
 subst hr
 go_enter func121,ntmps121
 go_wp2_with fail
 refine(su b p v w hbk0 hp).mono ?_
 rintro e w1 ⟨rfl,hbk,hb1⟩
 have hown:w1.ownsRow 0 5 1 v xs.length xs:=gg 5 1 v xs.length xs w w1 (fun k hk=>by
  have h5:v.ownBlock=some k:=by simpa[eO] using hk
  exact hb1.block k (fe hown0 k h5) (by simp;intro e;exact hnb (by rw[h5,e]))) hown0
 have c0:w1.cell? ⟨b,0,none⟩=some (po b 0):=hbk.cell 0
 have c1:w1.cell? ⟨b,1,none⟩=some v:=hbk.cell 1
 go_wp2_with (at_builtin;refine si rfl _ _ 41 9 rfl 5 i0 underlying41 underlying9 hi hz0 hz1 hz2 _ _ _ rfl hown s rfl ?c3 ?c4 ?_)
 case c3=>unfold maxLen;omega
 case c4=>omega
 intro v' w2 hown' hgrow hat
 have hb2:Blk w2 b 175 #[po b 0,v]:=hbk.grown hgrow (ot hown hbk (by decide))
 have d0:w2.cell? ⟨b,0,none⟩=some (po b 0):=hb2.cell 0
 have d1:w2.cell? ⟨b,1,none⟩=some v:=hb2.cell 1
 have f1:w2.frozen? ⟨b,1,none⟩=false:=hb2.frozen 1
 obtain⟨ao,n',cap,rfl⟩:∃ao n' cap,v'= .slice ao n' cap:=by
  rcases hown'.2 with ⟨hv,_⟩|⟨g,cap,cur,hv,_⟩
  ·exact⟨_,_,_,hv⟩
  ·exact⟨_,_,_,hv⟩
 go_wp2
 go_ret2
 refine⟨rfl,_,⟨_,_,hb2.set_ 1 _,.inr rfl,Bt (by simpa[Lib.strCells_length] using hown') (ot hown' hb2 (by decide)) 1 _,rfl⟩,?_,fun k hk=>?_⟩
 ·exact((hb1.mono (fun k _ hk=>by simp at hk;simp[hk])).grown hgrow (fun k hk=> .inl (by simp[hk]))).set (p:=⟨b,1,none⟩) (.inl (by simp)) _
 ·rcases hat k hk with h|h
  ·exact .inl h
  ·exact .inr (Nat.le_trans hb1.size h)
theorem K2(b:Nat)(r:Option Nat)(xs:List Value)(k:Int)(w:World)(h:gI w b r xs)(hlen:xs.length+1<=1000000):
  Calls P_ 182 #[po b 0,.int .u8 k] w fun e w'=>e= .returned .nilIface/\qt b r (xs++[.int .u8 k]) w w':=by
 obtain⟨i0,hi,hz0,hz1,hz2⟩:=info_parts Tryz.infoU8
 have hnb:=h.ne
 obtain⟨p,v,hbk0,hp,hown0,hr⟩:=h
 subst hr
 go_enter func182,ntmps182
 go_wp2_with fail
 refine(su b p v w hbk0 hp).mono ?_
 rintro e w1 ⟨rfl,hbk,hb1⟩
 have hown1:w1.ownsRow 0 5 1 v xs.length xs:=gg 5 1 v xs.length xs w w1 (fun k hk=>by
  have h5:v.ownBlock=some k:=by simpa[eO] using hk
  exact hb1.block k (fe hown0 k h5) (by simp;intro e;exact hnb (by rw[h5,e]))) hown0
 have c0:w1.cell? ⟨b,0,none⟩=some (po b 0):=hbk.cell 0
 have c1:w1.cell? ⟨b,1,none⟩=some v:=hbk.cell 1
 have hX:Ext w1 (w1.alloc (.cells #[.int .u8 k] 5)):=(Ext.refl w1).alloc _
 have hown:=J5 hown1 hX
 have hbk':=hbk.ext hX
 go_wp2_with (at_builtin;refine CR _ rfl _ _ 41 rfl 0 5 i0 _ 1 underlying41 hi hz0 hz1 hz2 rfl _ _ _ rfl hown _ 1 1 [.int .u8 k] rfl rfl ?c1 (by simp[Value.oneCell']) ?c3 ?c4 (Nat.zero_le _) ?_)
 case c1=>exact At.one_new _ _ _
 case c3=>unfold maxLen;omega
 case c4=>omega
 intro v' w2 hown' hgrow hat
 have hb2:Blk w2 b 175 #[po b 0,v]:=hbk'.grown hgrow (ot hown hbk' (by decide))
 have d0:w2.cell? ⟨b,0,none⟩=some (po b 0):=hb2.cell 0
 have d1:w2.cell? ⟨b,1,none⟩=some v:=hb2.cell 1
 have f1:w2.frozen? ⟨b,1,none⟩=false:=hb2.frozen 1
 obtain⟨ao,n',cap,rfl⟩:∃ao n' cap,v'= .slice ao n' cap:=by
  rcases hown'.2 with ⟨hv,_⟩|⟨g,cap,cur,hv,_⟩
  ·exact⟨_,_,_,hv⟩
  ·exact⟨_,_,_,hv⟩
 go_wp2
 go_ret
 refine⟨rfl,_,⟨_,_,hb2.set_ 1 _,.inr rfl,Bt (by simpa using hown') (ot hown' hb2 (by decide)) 1 _,rfl⟩,?_,fun k hk=>?_⟩
 ·exact(((hb1.mono (fun k _ hk=>by simp at hk;simp[hk])).alloc _).grown hgrow (fun k hk=> .inl (by simp[hk]))).set (p:=⟨b,1,none⟩) (.inl (by simp)) _
 ·rcases hat with h|h
  ·exact .inl (h.symm.trans hk)
  ·right
   have h6:=h.symm.trans hk
   injection h6 with h6
   have:=hb1.size
   have:=hX.size
   omega
def eBu(b:Nat)(r:Option Nat)(l:List UInt8):Ent:=eSb b r (Lib.byteCells l)
theorem Mt(b:Nat)(r:Option Nat)(l:List UInt8):rO (eBu b r l)=r:=L8 b r _
theorem C5(l:List UInt8)(k:Int)(h:0<=k/\k<256):Lib.byteCells l++[.int .u8 k]=Lib.byteCells (l++[UInt8.ofNat k.toNat]):=by
 have:((UInt8.ofNat k.toNat).toNat:Int)=k:=by
  rw[UInt8.toNat_ofNat']
  omega
 simp only[Lib.byteCells,List.map_append,List.map_cons,List.map_nil,this]
theorem Fi(l:List UInt8)(s:ByteArray):Lib.byteCells l++Lib.strCells s=Lib.byteCells (l++s.data.toList):=by simp[Lib.byteCells,Lib.strCells]
theorem ig(l:List UInt8):(Lib.byteCells l).length=l.length:=by simp[Lib.byteCells]
theorem Oy(b:Nat)(r:Option Nat)(l:List UInt8)(k:Int)(w:World)(h:gI w b r (Lib.byteCells l))(hk:0<=k/\k<256)(hlen:l.length+1<=1000000):
  Calls P_ 182 #[po b 0,.int .u8 k] w fun e w'=>e= .returned .nilIface/\qt b r (Lib.byteCells (l++[UInt8.ofNat k.toNat])) w w':=by
 have:=K2 b r _ k w h (by rw[ig];exact hlen)
 rw[C5 l k hk] at this
 exact this
theorem xO(b:Nat)(r:Option Nat)(l:List UInt8)(s:ByteArray)(w:World)(h:gI w b r (Lib.byteCells l))(hlen:l.length+s.size<=1000000):
  Calls P_ 121 #[po b 0,.string s] w fun e w'=>e= .returned (.tuple #[.int .i64 s.size,.nilIface])/\qt b r (Lib.byteCells (l++s.data.toList)) w w':=by
 have:=Ls b r _ s w h (by rw[ig];exact hlen)
 rw[Fi l s] at this
 exact this
theorem Upd.freeze{S:List Nat}{a b:World}(h:Upd S a b){p:Addr}(hp:p.block∈S\/a.heap.size<=p.block)(n:Nat):Upd S a (b.freeze p n):=by
 unfold World.freeze
 split
 ·exact h
 ·refine⟨h.os,h.tape,h.output,by simpa using h.size,fun k hk hn=>?_⟩
  simp only[Array.getElem?_modify]
  rw[if_neg (fun e=>?_)]
  ·exact h.block k hk hn
  ·rcases hp with hp|hp
   ·exact hn (by rw[<-e];exact hp)
   ·omega
section
variable{P:Program}{ops:Array Oper}{L:List Nat}{a0:Act}{w0:World}{bor:List Nat}{X0:List Ent}{us cr kl:List (List Nat)}
 {D:Nat->(Tmp->Value)->(Tmp->Value)->(Nat->Ent)->Prop}{i:Nat}{o:Oper}{ρ:Operand->Value}{β:Tmp->Value}{W:World}{X:Nat->Ent}
theorem CtxV.sb(cx:CtxV ops L a0 w0 bor X0 us D i ρ β W X)(hX:X q=eBu b r l)(hu:(atV us i).contains q=true):gI W b r (Lib.byteCells l):=by
 have h:=(cx.ok q hu).holds
 rw[hX] at h;exact h
theorem oy{v:Value}(hX:(X q).fp=b::r.toList)(hc:atV cr i=[q'])(hk:atV kl i=[q])(hp:qt b r (Lib.byteCells l) W W')
  (hD:∀(j f:Tmp->Value) (X':Nat->Ent),(∀t,o.dst≠some t->j t=ρ (.tmp t))->(∀t,o.dst≠some t->f t=β t)->(∀d,o.dst=some d->j d=v/\f d=v)->X' q'=eBu b (rO (X' q')) l->D i j f X'):bQ cr kl D i o.dst ρ β W X v W':=by
 obtain⟨r',hs,hu,hr⟩:=hp
 have hne:=hs.ne
 have hlt:∀k∈(eBu b r' l).fp,k<W'.heap.size:=fun k hk'=>by
  obtain⟨p,vv,h1,_,h3,h4⟩:=hs
  simp only[eBu,eSb,List.mem_cons,Option.mem_toList] at hk'
  rcases hk' with rfl|hk'
  ·exact h1.lt
  ·exact fe h3 k (by rw[h4];exact hk')
 refine⟨[eBu b r' l],by rw[hc];rfl,⟨?_,fun e he=>?_,List.pairwise_singleton _ _⟩,fun j f X' hs' hv hb' hbv hx' hN=>hD j f X' hs' hb' (fun d hd=>⟨hv d hd,hbv d hd⟩) ?_⟩
 ·rw[hk]
  simp only[List.flatMap_cons,List.flatMap_nil,List.append_nil,hX]
  exact hu
 ·rw[List.mem_singleton] at he
  subst he
  refine⟨hs,Lq _ _ _,fun k hk'=>⟨?_,hlt k hk'⟩⟩
  rw[hk]
  simp only[List.flatMap_cons,List.flatMap_nil,List.append_nil,hX]
  simp only[eBu,eSb,List.mem_cons,Option.mem_toList] at hk'
  rcases hk' with rfl|hk'
  ·exact .inl (by simp)
  ·rcases hr k hk' with h|h
   ·exact .inl (by simp[h])
   ·exact .inr h
 ·rw[hc] at hN
  have h1:=(List.cons.inj hN).1
  rw[h1,Mt]
theorem wY{v:Value}{S:List Nat}(hX:(X q).fp=S)(hc:atV cr i=[])(hk:atV kl i=[q])(hu:Upd S W W')
  (hD:∀(f e:Tmp->Value) (X':Nat->Ent),(∀t,o.dst≠some t->f t=ρ (.tmp t))->(∀t,o.dst≠some t->e t=β t)->(∀d,o.dst=some d->f d=v/\e d=v)->D i f e X'):bQ cr kl D i o.dst ρ β W X v W':=by
 refine⟨[],by rw[hc];rfl,⟨?_,by simp,List.Pairwise.nil⟩,fun f e X' hs' hv hb' hbv hx' hN=>hD f e X' hs' hb' (fun d hd=>⟨hv d hd,hbv d hd⟩)⟩
 rw[hk]
 simp only[List.flatMap_cons,List.flatMap_nil,List.append_nil,hX]
 exact hu
theorem pW{t:TypeId}{a:Addr}{c:Nat}(h:o.op= .call {callee:= .builtin .unsafeSliceData,args:=#[x],argTypes:=#[t]})(hx:ρ x= .slice (some a) n c)(hc:0<c):(execOp ρ o).run P W= .ok (.value (.pointer (some a))) W:=by
 have h0:=Lib.run_unsafeSliceData_row (P:=P) (w:=W) #[t] o.type a n c (by omega)
 unfold execOp;rw[h]
 simp only[resolve,invoke,builtin,Sem.run_bind,Sem.run_pure,Result.andThen_ok,List.map_toArray,List.map_cons,List.map_nil,hx,h0]
theorem yv{t u e:TypeId}{c:Nat}{d:Tmp}(h:o.op= .call {callee:= .builtin .unsafeString,args:=#[x,y],argTypes:=#[t,u]})(ht:P.underlying t=some (.pointer e))(hce:P.cellsOf e=1)
  (hx:ρ x=po g 0) (hy:ρ y= .int .i64 (l.length:Int)) (cx:CtxV ops L a0 w0 bor X0 us D i ρ β W X) (hX:X q=eO e 1 (.slice (some ⟨g,0,none⟩) l.length c) l.length (Lib.byteCells l)) (hu:(atV us i).contains q=true) (hl:l≠[]) (h63:l.length<=9223372036854775807)
  (hd:o.dst=some d) (hc:atV cr i=[]) (hk:atV kl i=[q]) (hD:∀(f k:Tmp->Value) (X':Nat->Ent),f d= .string ⟨l.toArray⟩->D i f k X'):ak P o ρ W (bQ cr kl D i o.dst ρ β W X):=by
 have hown:=cx.row hX hu
 obtain⟨hlen,h2⟩:=hown
 have hpos:0<l.length:=List.length_pos_iff.2 hl
 rcases h2 with ⟨hv,h0⟩|⟨g',cap,cur,hv,_,hg,hle,hmx,hcs,htk⟩
 ·omega
 ·injection hv with h1 h2 h3
  injection h1 with h1
  injection h1 with h1
  subst h1 h3
  have hcell:∀(j:Nat) (x:UInt8),l[j]? =some x->W.cell? ((⟨g,0,none⟩:Addr).add j)=some (.int .u8 x.toNat):=fun j x hj=>by
   have hjl:=(List.getElem?_eq_some_iff.1 hj).1
   rw[Addr.add_lit,Nat.zero_add,cell_of_row W g j cur e _ hg]
   have h5:(cur.toList.take (l.length*1))[j]? =(Lib.byteCells l)[j]? :=by rw[htk]
   rw[List.getElem?_take,if_pos (by omega)] at h5
   rw[<-Array.getElem?_toList,h5]
   simp[Lib.byteCells,hj]
  have hrun:=Lib.run_unsafeString_row (P:=P) (w:=W) t u o.type e ht hce g cur.size (by unfold World.shape?;rw[hg]) l hl (by omega) h63 hcell
  refine ak.value (v:= .string ⟨l.toArray⟩) (w':=W.freeze ⟨g,0,none⟩ l.length) (by
   unfold execOp;rw[h]
   simp only[resolve,invoke,builtin,Sem.run_bind,Sem.run_pure,Result.andThen_ok,List.map_toArray,List.map_cons,List.map_nil,hx,hy,hrun]) ?_
  refine wY (S:=[g]) (by rw[hX];rfl) hc hk ((Upd.refl _ _).freeze (.inl (by simp)) _) fun f k X' _ _ hv=>hD f k X' (hv d hd).1
end
theorem St.lent2{t e c:Nat}(hb:Blk w b t cs)(ho:w.ownsRow 0 e 1 (.slice (some ⟨g,0,none⟩) n c) n xs)(hne:g≠b):St w [b,g] [eB b t cs,eO e 1 (.slice (some ⟨g,0,none⟩) n c) n xs] w:=by
 refine⟨Upd.refl _ _,fun x hx=>?_,?_⟩
 ·simp only[List.mem_cons,List.not_mem_nil,or_false] at hx
  rcases hx with rfl|rfl
  ·exact⟨hb,dW _ _ _,fun k hk=>⟨.inl (by simp[eB] at hk;simp[hk]),by simp[eB] at hk;subst hk;exact hb.lt⟩⟩
  ·exact⟨ho,gg _ _ _ _ _,fun k hk=>⟨.inl (by simp[eO,Value.ownBlock] at hk;simp[hk]),fe ho k (by simpa[eO] using hk)⟩⟩
 ·refine List.pairwise_pair.2 fun k hk hk'=>?_
  simp only[eB,List.mem_cons,List.not_mem_nil,or_false,eO,Value.ownBlock,Option.toList_some] at hk hk'
  omega
theorem Kg(b:Nat)(r:Option Nat)(l:List UInt8)(w:World)(h:gI w b r (Lib.byteCells l))(hl:l≠[])(h63:l.length<=1000000):
  Calls P_ 125 #[po b 0] w fun e w'=>e= .returned (.string ⟨l.toArray⟩)/\Upd (b::r.toList) w w':=by
 have hpos:0<l.length:=List.length_pos_iff.2 hl
 have hbne:=h.ne
 obtain⟨p,v,hb,hp,hown,hr⟩:=h
 rw[ig] at hown
 obtain⟨g,c,hv,hlc⟩:∃g c,v= .slice (some ⟨g,0,none⟩) l.length c/\l.length<=c:=by
  rcases hown.2 with ⟨hv,h0⟩|⟨g',cap,cur,hv,_,hg,hle,_⟩
  ·omega
  ·exact⟨g',cap,hv,hle⟩
 subst hv hr
 have hne:g≠b:=fun e=>hbne (by simp[Value.ownBlock,e])
 have st0:=St.lent2 hb hown hne
 show Calls _ _ _ w fun e w'=>e= .returned (.string ⟨l.toArray⟩)/\Upd [b,g] w w'
 go_enter func125,ntmps125
 have aj:=st0
 refine wsq [.k 2 (.string ⟨#[]⟩)] ?_
 refine aa (wq (aB [0,1,3,7,15,0,32,96,224,480,1023,2047] [[],[],[],[0],[],[],[],[],[0],[],[1]] [] [[],[],[],[],[],[],[],[],[],[],[1]] [.k 3 (vp b),.k 4 (vp b),.k 5 (po b 1),.c 6 (.slice ((some ⟨g,0,none⟩)) l.length c),.c 7 (vp g),.k 8 (vp b),.k 9 (vp b),.k 10 (po b 1),.c 11 (.slice ((some ⟨g,0,none⟩)) l.length c),.k 12 (vi ((l.length:Int))),.a 13,.c 2 (.string ((⟨l.toArray⟩:ByteArray)))] (fun ix d f X=>match ix with|0|1|2|3|4|5|6|7|8|9=>True|10=>d 13= .string ((⟨l.toArray⟩:ByteArray))|_=>True) [0] [3,4,8,10,11] [(2,11,1,3),(0,0,11,11)] aj ?_ ?_ ?_))
 ·exact fun ix _ _ _ _ _ _ hs hb hx h=>match ix,h with
  |10,h=>(hs _ rfl).symm.trans h
  |0,_|1,_|2,_|3,_|4,_|5,_|6,_|7,_|8,_|9,_|_+11,_=>trivial
 ·refine⟨?_,?_,?_,?_,?_,trivial⟩
  ·exact xs4 rfl id fun cx=>rL1 (cx.an 2) ((cx.bi 0 rfl).cell 1)
  ·exact xs4 rfl id fun cx=>pW rfl (cx.an 3) (by omega)
  ·exact xs4 rfl id fun cx=>rL1 (cx.an 7) ((cx.bi 0 rfl).cell 1)
  ·refine svA fun m f W X cx=>?_
   exact yv (e:=5) rfl (by kernel_rfl) (by kernel_rfl) (cx.an 4) (cx.an 9) cx (cx.init 1 _ rfl) rfl hl (by omega) rfl rfl rfl (fun d j X' hs=>hs)
  ·exact xs4 rfl id fun cx=>cS rfl (dTn (cx.an 10))
 intro d f X W2 hD bA fr aC
 simp only[ed 13 ((dTn (hD 10 lq)))] at aC
 clear hD;subst aC;clear d f X
 exact aa (wp_ret (bpr (.string ((⟨l.toArray⟩:ByteArray))) (ag results125 rpt) (⟨rfl,bA.upd⟩)))
end
section
open Go.RowKit
theorem Mm(s:ByteArray):s.extract 0 s.size=s:=by
 apply ByteArray.ext
 simp
def aV(s:ByteArray):ByteArray:=ah s.size 2++s
section
variable{o:Oper}{ρ:Operand->Value}{W:World}
theorem xM{t:TypeId}{s:ByteArray}{k:IntKind}{j:Int}(h:o.op= .slice t x none (some y) none)(ht:P.underlying t=some .string)(hx:ρ x= .string s)(hy:ρ y= .int k j)(hj:j=(s.size:Int)):
  (execOp ρ o).run P W= .ok (.value (.string s)) W:=by
 have e:=gJ (P:=P) (W:=W) h ht hx hy hj (Nat.le_refl _)
 rw[Mm] at e
 exact e
end
theorem lj(s:ByteArray)(w:World)(hs:s.size<=65535):
  Calls P_ 122 #[.string s] w (Ret (.string (aV s)) w):=by
 have hp:=aE (s.size:Int) 2 (by omega)
 go_enter func122,ntmps122
 have aj:=St.start w
 refine wsq [.k 2 (.string ⟨#[]⟩)] ?_
 refine aa (wsq [.m 3 0,.m 4 0,.k 5 (vi ((s.size:Int)))] ?_)
 refine sql (vi ((s.size:Int))) aj (fun cx=>jA rfl (cx.ou 5) (cx.co _) (by omega)) ?_
 refine sql (.string s) aj (fun cx=>xM rfl (by kernel_rfl) (cx.ou 3) (cx.ou 6) (by omega)) ?_
 refine sqp [.m 0 7] ?_
 refine aa (wsq [.m 8 0,.k 9 (vi ((s.size:Int)))] ?_)
 refine sqk (.string (ah (s.size:Int) 2)) aj (fun cx=>⟨_,xu (s.size:Int) _,(aN (cx.ou 9) (cx.co _))⟩) fun xw dL=>?_
 refine sqp [.m 11 0,sS 12 (ah (s.size:Int) 2) s (by omega),.m 2 12] ?_
 exact aa (wp_ret (bpr (.string ((ah (s.size:Int) 2)++s)) (ag results122 rpt) (Ret.of rfl dL.ext)))
end
section
open Go.RowKit
theorem rS(s:ByteArray)(w:World):Calls P_ 94 #[.string s] w fun e w'=>∃B,e= .returned (po B 0)/\(Blk w' B 193 #[.string s,.int .i64 0,.bool false]/\w.heap.size<=B)/\Ext w w':=by
 go_enter func94,ntmps94
 have aj:=St.start w
 refine wsq [.k 2 (.pointer none)] ?_
 refine aa (wsq [.m 3 0,.k 4 (.agg #[.string s,vi 0,.bool false])] ?_)
 refine bX #[.string s,vi 0,.bool false] aj fun ML W4 aZ=>?_
 refine sqp [.m 2 5] ?_
 exact aa (wp_ret (bpr (vp ML) (ag results94 rpt) (⟨_,rfl,⟨aZ.blk 0 rfl,((aZ.get 0 rfl).own _ (by simp[eB])).1.resolve_left (by simp)⟩,aZ.ext⟩)))
end
end Go.Proofs.YtcdjaepgahbhfaaGreat
namespace Go.Proofs
section
open Go.Shelf
def Tryz.lays170_ren:Go.Shelf.Ren:=⟨fun|170=>124|n=>n,fun|70=>173|3=>3|0=>0|72=>175|37=>41|5=>5|n=>n,fun|n=>n⟩
theorem Tryz.lays170:Go.Proofs.Lays.n170 P_ Tryz.lays170_ren:={
 mixed:=by kernel_rfl
 f170:=func124.trans (congrArg some (by kernel_rfl))
 t0:=underlying0
 a0:=isAgg0
 z0:=sizeOf0
 v0:=zeroValue0
 t3:=underlying3
 a3:=isAgg3
 z3:=sizeOf3
 v3:=zeroValue3
 t37:=underlying41
 a37:=isAgg41
 z37:=sizeOf41
 v37:=zeroValue41
 t70:=underlying173
 a70:=isAgg173
 z70:=sizeOf173
 v70:=zeroValue173
 t72:=underlying175
 a72:=isAgg175
 z72:=sizeOf175
 v72:=zeroValue175}
def Tryz.lays156_ren:Go.Shelf.Ren:=⟨fun|156=>163|165=>167|166=>121|169=>125|240=>164|241=>188|276=>184|277=>192|n=>n,fun|31=>46|9=>9|3=>3|4=>4|0=>0|20=>20|72=>175|76=>178|70=>173|37=>41|75=>177|127=>208|164=>220|5=>5|80=>36|n=>n,fun|n=>n⟩
theorem Tryz.lays156:Go.Proofs.Lays.n156 P_ Tryz.lays156_ren:={
 mixed:=by kernel_rfl
 f156:=func163.trans (congrArg some (by kernel_rfl))
 f165:=func167.trans (congrArg some (by kernel_rfl))
 f166:=func121.trans (congrArg some (by kernel_rfl))
 f169:=func125.trans (congrArg some (by kernel_rfl))
 f240:=func164.trans (congrArg some (by kernel_rfl))
 f241:=func188.trans (congrArg some (by kernel_rfl))
 f276:=func184.trans (congrArg some (by kernel_rfl))
 f277:=func192.trans (congrArg some (by kernel_rfl))
 t0:=underlying0
 a0:=isAgg0
 z0:=sizeOf0
 v0:=zeroValue0
 t3:=underlying3
 a3:=isAgg3
 z3:=sizeOf3
 v3:=zeroValue3
 t4:=underlying4
 a4:=isAgg4
 z4:=sizeOf4
 v4:=zeroValue4
 t9:=underlying9
 a9:=isAgg9
 z9:=sizeOf9
 v9:=zeroValue9
 t20:=underlying20
 a20:=isAgg20
 z20:=sizeOf20
 v20:=zeroValue20
 t31:=underlying46
 a31:=isAgg46
 z31:=sizeOf46
 v31:=zeroValue46
 t37:=underlying41
 a37:=isAgg41
 z37:=sizeOf41
 v37:=zeroValue41
 t70:=underlying173
 a70:=isAgg173
 z70:=sizeOf173
 v70:=zeroValue173
 t72:=underlying175
 a72:=isAgg175
 z72:=sizeOf175
 v72:=zeroValue175
 t75:=underlying177
 a75:=isAgg177
 z75:=sizeOf177
 v75:=zeroValue177
 t76:=underlying178
 a76:=isAgg178
 z76:=sizeOf178
 v76:=zeroValue178
 t127:=underlying208
 a127:=isAgg208
 z127:=sizeOf208
 v127:=zeroValue208
 t164:=underlying220
 a164:=isAgg220
 z164:=sizeOf220
 v164:=zeroValue220}
theorem Tryz.Builder_Extra_156:Builder.Extra P_ Tryz.lays156_ren:={
 sizeBuilder:=by kernel_rfl
 liesBuilder:=by kernel_rfl
 t5:=underlying5
 a5:=isAgg5
 z5:=sizeOf5
 v5:=zeroValue5
 infoByte:=by kernel_rfl
 cellsByte:=by kernel_rfl
 sizeByte:=by kernel_rfl
 neB5:=by decide}
open Go.RowKit in
open Go.RowKit in
theorem Tryz.strings_Join(bk o c:Nat)(xs:List ByteArray)(sep:ByteArray)(w:World)(hcells:∀(j:Nat) x,xs[j]? =some x->w.cell? ⟨bk,o+j,none⟩=some (.string x))(hbk:bk<w.heap.size)(hN:xs.length<=140737488355328)(hcap:xs.length<=c)(hlen:(Lib.join (xs.map (·.data.toList)) sep.data.toList).length<=140737488355328):
  Calls P_ 163 #[.slice (some ⟨bk,o,none⟩) xs.length c,.string sep] w fun e w'=>e= .returned (.string ⟨(Lib.join (xs.map (·.data.toList)) sep.data.toList).toArray⟩)/\Below w.heap.size w w':=Any.strings_Join Tryz.lays156 Tryz.Builder_Extra_156 bk o c xs sep w hcells hbk hN hcap hlen
open Go.RowKit in
theorem Tryz.Builder_Len_f(B b:Nat)(bs:List Value)(w:World)(h:Lib.IsBuilderF 175 5 B b bs w):
  Calls P_ 124 #[.pointer (some ⟨b,0,none⟩)] w fun e w'=>e= .returned (.int .i64 bs.length)/\w'=w:=Any.Builder_Len_f Tryz.lays170 B b bs w h
open Go.RowKit in
open Go.RowKit Go.Lib in
def Tryz.lays105_ren:Go.Shelf.Ren:=⟨fun|105=>123|212=>165|99=>166|165=>167|166=>121|170=>124|169=>125|263=>185|264=>186|206=>187|240=>164|241=>188|276=>184|277=>192|n=>n,fun|9=>9|3=>3|4=>4|20=>20|0=>0|46=>184|109=>205|5=>5|72=>175|76=>178|51=>125|146=>222|53=>191|148=>224|70=>173|37=>41|75=>177|127=>208|164=>220|80=>36|n=>n,fun|n=>n⟩
theorem Tryz.lays105:Go.Proofs.Lays.n105 P_ Tryz.lays105_ren:={
 mixed:=by kernel_rfl
 f99:=func166.trans (congrArg some (by kernel_rfl))
 f105:=func123.trans (congrArg some (by kernel_rfl))
 f165:=func167.trans (congrArg some (by kernel_rfl))
 f166:=func121.trans (congrArg some (by kernel_rfl))
 f169:=func125.trans (congrArg some (by kernel_rfl))
 f170:=func124.trans (congrArg some (by kernel_rfl))
 f206:=func187.trans (congrArg some (by kernel_rfl))
 f212:=func165.trans (congrArg some (by kernel_rfl))
 f240:=func164.trans (congrArg some (by kernel_rfl))
 f241:=func188.trans (congrArg some (by kernel_rfl))
 f263:=func185.trans (congrArg some (by kernel_rfl))
 f264:=func186.trans (congrArg some (by kernel_rfl))
 f276:=func184.trans (congrArg some (by kernel_rfl))
 f277:=func192.trans (congrArg some (by kernel_rfl))
 t0:=underlying0
 a0:=isAgg0
 z0:=sizeOf0
 v0:=zeroValue0
 t3:=underlying3
 a3:=isAgg3
 z3:=sizeOf3
 v3:=zeroValue3
 t4:=underlying4
 a4:=isAgg4
 z4:=sizeOf4
 v4:=zeroValue4
 t5:=underlying5
 a5:=isAgg5
 z5:=sizeOf5
 v5:=zeroValue5
 t9:=underlying9
 a9:=isAgg9
 z9:=sizeOf9
 v9:=zeroValue9
 t20:=underlying20
 a20:=isAgg20
 z20:=sizeOf20
 v20:=zeroValue20
 t37:=underlying41
 a37:=isAgg41
 z37:=sizeOf41
 v37:=zeroValue41
 t46:=underlying184
 a46:=isAgg184
 z46:=sizeOf184
 v46:=zeroValue184
 t51:=underlying125
 a51:=isAgg125
 z51:=sizeOf125
 v51:=zeroValue125
 t53:=underlying191
 a53:=isAgg191
 z53:=sizeOf191
 v53:=zeroValue191
 t70:=underlying173
 a70:=isAgg173
 z70:=sizeOf173
 v70:=zeroValue173
 t72:=underlying175
 a72:=isAgg175
 z72:=sizeOf175
 v72:=zeroValue175
 t75:=underlying177
 a75:=isAgg177
 z75:=sizeOf177
 v75:=zeroValue177
 t76:=underlying178
 a76:=isAgg178
 z76:=sizeOf178
 v76:=zeroValue178
 t109:=underlying205
 a109:=isAgg205
 z109:=sizeOf205
 v109:=zeroValue205
 t127:=underlying208
 a127:=isAgg208
 z127:=sizeOf208
 v127:=zeroValue208
 t146:=underlying222
 a146:=isAgg222
 z146:=sizeOf222
 v146:=zeroValue222
 t148:=underlying224
 a148:=isAgg224
 z148:=sizeOf224
 v148:=zeroValue224
 t164:=underlying220
 a164:=isAgg220
 z164:=sizeOf220
 v164:=zeroValue220}
theorem Tryz.Builder_Extra_105:Builder.Extra P_ Tryz.lays105_ren:={
 sizeBuilder:=by kernel_rfl
 liesBuilder:=by kernel_rfl
 t5:=underlying5
 a5:=isAgg5
 z5:=sizeOf5
 v5:=zeroValue5
 infoByte:=by kernel_rfl
 cellsByte:=by kernel_rfl
 sizeByte:=by kernel_rfl
 neB5:=by decide}
open Go.RowKit Go.Lib in
theorem Tryz.strings_Repeat(s:ByteArray)(c:Nat)(w:World)(hc:c<=9223372036854775807)(hlen:s.size*c<=140737488355328):
  Calls P_ 123 #[.string s,.int .i64 c] w fun e w'=>e= .returned (.string ⟨(Lib.repeatL s.data.toList c).toArray⟩)/\Below w.heap.size w w':=Any.strings_Repeat Tryz.lays105 Tryz.Builder_Extra_105 s c w hc hlen
open Go.RowKit Go.Lib in
open Go.RowKit Go.Lib in
open Go.RowKit Go.Lib in
open Go.RowKit Go.Lib in
open Go.RowKit Go.Lib in
open Go.RowKit Go.Lib in
def Tryz.laysNm225_ren:Go.Shelf.Ren:=⟨fun|25=>67|31=>135|32=>136|37=>168|n=>n,fun|22=>25|3=>3|4=>4|40=>184|0=>0|n=>n,fun|n=>n⟩
theorem Tryz.laysNm225:Go.Proofs.Lays2.n25 P_ Tryz.laysNm225_ren:={
 mixed:=by kernel_rfl
 f25:=func67.trans (congrArg some (by kernel_rfl))
 f31:=func135.trans (congrArg some (by kernel_rfl))
 f32:=func136.trans (congrArg some (by kernel_rfl))
 f37:=func168.trans (congrArg some (by kernel_rfl))
 t0:=underlying0
 a0:=isAgg0
 z0:=sizeOf0
 v0:=zeroValue0
 t3:=underlying3
 a3:=isAgg3
 z3:=sizeOf3
 v3:=zeroValue3
 t4:=underlying4
 a4:=isAgg4
 z4:=sizeOf4
 v4:=zeroValue4
 t22:=underlying25
 a22:=isAgg25
 z22:=sizeOf25
 v22:=zeroValue25
 t40:=underlying184
 a40:=isAgg184
 z40:=sizeOf184
 v40:=zeroValue184}
open Go.RowKit Go.Lib in
theorem Tryz.slices_BinarySearch_int(b off n c:Nat)(zs:List Int)(x:Int)(w:World)(hz:n<=zs.length)(hbig:n<4611686018427387904)(hc:∀j,j<zs.length->w.cell? ⟨b,off+j,none⟩=some (.int .i64 (zs.getD j 0)))(hs:(zs.take n).Pairwise (·<=·)):
  Calls P_ 67 #[.slice (some ⟨b,off,none⟩) n c,.int .i64 x] w fun e w'=>e= .returned (.tuple #[.int .i64 ((zs.take n).countP (·<x):Nat),.bool ((zs.take n).contains x)])/\∃q,w'=w.drewN q:=Any.slices_BinarySearch_int Tryz.laysNm225 b off n c zs x w hz hbig hc hs
open Go.RowKit Go.Lib in
theorem Tryz.slices_BinarySearch_int_empty(a:Option Addr)(c:Nat)(x:Int)(w:World):
  Calls P_ 67 #[.slice a 0 c,.int .i64 x] w fun e w'=>e= .returned (.tuple #[.int .i64 0,.bool false])/\w'=w:=Any.slices_BinarySearch_int_empty Tryz.laysNm225 a c x w
end
end Go.Proofs
namespace Go.Proofs.YtcdjaepgahbhfaaGreat
variable{I ss:List ByteArray}{W w w':World}{b g n q q':Nat}{l:List UInt8}{r:Option Nat}{x:Operand}
section
open Go.RowKit
abbrev gu(u:List Go.Value)(k:Nat):Go.Value:=u.getD k undef
theorem nle{a:Nat}(h:Nat.ble a b=true):a<=b:=Nat.le_of_ble_eq_true h
def o0(W:World)(g:Nat)(l:List UInt8):Prop:=∃cur fz,W.heap[g]? =some (.cells cur 5 fz)/\l.length<=cur.size/\cur.toList.take l.length=Lib.byteCells l
def eZr(g:Nat)(l:List UInt8):Ent:=⟨[g],fun W=>o0 W g l⟩
theorem vT(g:Nat)(l:List UInt8):(eZr g l).loc:=fun W W' hk h=>by
 obtain⟨cur,fz,h1,h2⟩:=h
 exact⟨cur,fz,(hk g (by simp[eZr])).trans h1,h2⟩
theorem o0.lt(h:o0 W g l):g<W.heap.size:=by
 obtain⟨cur,fz,h1,_⟩:=h
 exact(Array.getElem?_eq_some_iff.1 h1).1
theorem o0.freeze(h:o0 W g l)(n:Nat):o0 (W.freeze ⟨g,0,none⟩ n) g l:=by
 obtain⟨cur,⟨lo,hi⟩,h1,h2⟩:=h
 unfold World.freeze
 split
 ·exact⟨cur,(lo,hi),h1,h2⟩
 ·refine⟨cur,if lo==hi then (0,0+n) else (min lo 0,max hi (0+n)),?_,h2⟩
  simp only[Array.getElem?_modify,if_pos,h1,Option.map_some]
def SbZ(W:World)(b:Nat)(r:Option Nat)(l:List UInt8):Prop:=
 ∃p g c,Blk W b 175 #[p,.slice (some ⟨g,0,none⟩) l.length c]/\o0 W g l/\l.length<=c/\g≠b/\r=some g
def eZb(b:Nat)(r:Option Nat)(l:List UInt8):Ent:=⟨b::r.toList,fun W=>SbZ W b r l⟩
theorem BI(b:Nat)(r:Option Nat)(l:List UInt8):(eZb b r l).loc:=fun W W' hk h=>by
 obtain⟨p,g,c,h1,h2,h3,h4,rfl⟩:=h
 exact⟨p,g,c,(hk b (by simp[eZb])).trans h1,vT g l W W' (fun k hk'=>hk k (by simp[eZr] at hk';simp[eZb,hk'])) h2,h3,h4,rfl⟩
theorem SbZ.lt{b:Nat}{r:Option Nat}{l:List UInt8}(h:SbZ W b r l):∀k∈(eZb b r l).fp,k<W.heap.size:=fun k hk=>by
 obtain⟨p,g,c,h1,h2,h3,h4,rfl⟩:=h
 simp only[eZb,List.mem_cons,Option.mem_toList,Option.some.injEq] at hk
 rcases hk with rfl|rfl
 ·exact h1.lt
 ·exact h2.lt
theorem gI.z(h:gI W b r (Lib.byteCells l))(hl:l≠[]):SbZ W b r l:=by
 have hpos:0<l.length:=List.length_pos_iff.2 hl
 have hbne:=h.ne
 obtain⟨p,v,hb,hp,hown,hr⟩:=h
 rw[ig] at hown
 rcases hown.2 with ⟨hv,h0⟩|⟨g,cap,cur,hv,_,hg,hle,hmx,hcs,htk⟩
 ·omega
 ·subst hv
  refine⟨p,g,cap,hb,⟨cur,_,hg,by omega,by rw[Nat.mul_one] at htk;exact htk⟩,hle,fun e=>hbne (by rw[<-hr];simp[Value.ownBlock,e]),hr.symm⟩
section
variable{P:Program}{ops:Array Oper}{L:List Nat}{a0:Act}{w0:World}{bor:List Nat}{X0:List Ent}{us cr kl:List (List Nat)}
 {D:Nat->(Tmp->Value)->(Tmp->Value)->(Nat->Ent)->Prop}{i:Nat}{o:Oper}{ρ:Operand->Value}{β:Tmp->Value}{W:World}{X:Nat->Ent}
theorem oQ{v:Value}{W':World}{E E':Ent}(hX:X q=E)(hc:atV cr i=[q'])(hk:atV kl i=[q])(hu:Upd E.fp W W')(hh:E'.holds W')(hl:E'.loc)(hf:∀k∈E'.fp,k∈E.fp/\k<W'.heap.size)
  (hD:∀(c a:Tmp->Value) (X':Nat->Ent),(∀t,o.dst≠some t->c t=ρ (.tmp t))->(∀t,o.dst≠some t->a t=β t)->(∀d,o.dst=some d->c d=v/\a d=v)->X' q'=E'->D i c a X'):bQ cr kl D i o.dst ρ β W X v W':=by
 subst hX
 refine⟨[E'],by rw[hc];rfl,⟨?_,fun e he=>?_,List.pairwise_singleton _ _⟩,fun c a X' hs' hv hb' hbv hx' hN=>hD c a X' hs' hb' (fun d hd=>⟨hv d hd,hbv d hd⟩) ?_⟩
 ·rw[hk]
  simp only[List.flatMap_cons,List.flatMap_nil,List.append_nil]
  exact hu
 ·rw[List.mem_singleton] at he
  subst he
  refine⟨hh,hl,fun k hk'=>⟨.inl ?_,(hf k hk').2⟩⟩
  rw[hk]
  simpa using (hf k hk').1
 ·rw[hc] at hN
  exact(List.cons.inj hN).1
theorem CtxV.z(cx:CtxV ops L a0 w0 bor X0 us D i ρ β W X)(hX:X q=eZb b r l)(hu:(atV us i).contains q=true):SbZ W b r l:=by
 have h:=(cx.ok q hu).holds
 rw[hX] at h;exact h
theorem xK{y:Operand}{t u e:TypeId}{d:Tmp}(he:e=5)(h:o.op= .call {callee:= .builtin .unsafeString,args:=#[x,y],argTypes:=#[t,u]})(ht:P.underlying t=some (.pointer e))(hce:P.cellsOf e=1)
  (hx:ρ x=po g 0) (hy:ρ y= .int .i64 (l.length:Int)) (cx:CtxV ops L a0 w0 bor X0 us D i ρ β W X) (hX:X q=eZr g l) (hu:(atV us i).contains q=true) (hl:l≠[]) (h63:l.length<=9223372036854775807)
  (hd:o.dst=some d) (hc:atV cr i=[q']) (hk:atV kl i=[q]) (hD:∀(a c:Tmp->Value) (X':Nat->Ent),a d= .string ⟨l.toArray⟩->X' q'=eZr g l->D i a c X'):ak P o ρ W (bQ cr kl D i o.dst ρ β W X):=by
 subst he
 have hz:o0 W g l:=by
  have h:=(cx.ok q hu).holds
  rw[hX] at h;exact h
 obtain⟨cur,fz,hg,hle,htk⟩:=id hz
 have hcell:∀(j:Nat) (x:UInt8),l[j]? =some x->W.cell? ((⟨g,0,none⟩:Addr).add j)=some (.int .u8 x.toNat):=fun j x hj=>by
  have hjl:=(List.getElem?_eq_some_iff.1 hj).1
  rw[Addr.add_lit,Nat.zero_add,cell_of_row W g j cur _ _ hg]
  have h5:(cur.toList.take l.length)[j]? =(Lib.byteCells l)[j]? :=by rw[htk]
  rw[List.getElem?_take,if_pos (by omega)] at h5
  rw[<-Array.getElem?_toList,h5]
  simp[Lib.byteCells,hj]
 have hrun:=Lib.run_unsafeString_row (P:=P) (w:=W) t u o.type _ ht hce g cur.size (by unfold World.shape?;rw[hg]) l hl (by omega) h63 hcell
 refine ak.value (v:= .string ⟨l.toArray⟩) (w':=W.freeze ⟨g,0,none⟩ l.length) (by
  unfold execOp;rw[h]
  simp only[resolve,invoke,builtin,Sem.run_bind,Sem.run_pure,Result.andThen_ok,List.map_toArray,List.map_cons,List.map_nil,hx,hy,hrun]) ?_
 have hz':=hz.freeze l.length
 exact oQ (E:=eZr g l) (E':=eZr g l) hX hc hk ((Upd.refl _ _).freeze (.inl (by simp[eZr])) _) hz' (vT g l) (fun k hk'=>⟨hk',by simp[eZr] at hk';subst hk';exact hz'.lt⟩) fun a c X' _ _ hv hX'=>hD a c X' (hv d hd).1 hX'
end
theorem St.lentZ{t:Nat}{cs:Array Value}(hb:Blk w b t cs)(hz:o0 w g l)(hne:g≠b):St w [b,g] [eB b t cs,eZr g l] w:=by
 refine⟨Upd.refl _ _,fun x hx=>?_,?_⟩
 ·simp only[List.mem_cons,List.not_mem_nil,or_false] at hx
  rcases hx with rfl|rfl
  ·exact⟨hb,dW _ _ _,fun k hk=>⟨.inl (by simp[eB] at hk;simp[hk]),by simp[eB] at hk;subst hk;exact hb.lt⟩⟩
  ·exact⟨hz,vT _ _,fun k hk=>⟨.inl (by simp[eZr] at hk;simp[hk]),by simp[eZr] at hk;subst hk;exact hz.lt⟩⟩
 ·refine List.pairwise_pair.2 fun k hk hk'=>?_
  simp only[eB,List.mem_cons,List.not_mem_nil,or_false,eZr] at hk hk'
  omega
theorem Bs(b:Nat)(r:Option Nat)(l:List UInt8)(w:World)(h:SbZ w b r l)(hl:l≠[])(h63:l.length<=1000000):
  Calls P_ 125 #[po b 0] w fun e w'=>e= .returned (.string ⟨l.toArray⟩)/\SbZ w' b r l/\Upd (b::r.toList) w w':=by
 have hpos:0<l.length:=List.length_pos_iff.2 hl
 obtain⟨p,g,c,hb,hz,hlc,hne,rfl⟩:=h
 have st0:=St.lentZ hb hz hne
 show Calls _ _ _ w fun e w'=>e= .returned (.string ⟨l.toArray⟩)/\SbZ w' b (some g) l/\Upd [b,g] w w'
 go_enter func125,ntmps125
 have aj:=st0
 refine wsq [.k 2 (.string ⟨#[]⟩)] ?_
 refine aa (wq (aB [0,1,3,7,15,0,32,96,224,480,1023,2047] [[],[],[],[0],[],[],[],[],[0],[],[1]] [[],[],[],[],[],[],[],[],[],[],[2]] [[],[],[],[],[],[],[],[],[],[],[1]] [.k 3 (vp b),.k 4 (vp b),.k 5 (po b 1),.c 6 (.slice ((some ⟨g,0,none⟩)) l.length c),.c 7 (vp g),.k 8 (vp b),.k 9 (vp b),.k 10 (po b 1),.c 11 (.slice ((some ⟨g,0,none⟩)) l.length c),.k 12 (vi ((l.length:Int))),.a 13,.c 2 (.string ((⟨l.toArray⟩:ByteArray)))] (fun ix d f X=>match ix with|0|1|2|3|4|5|6|7|8|9=>True|10=>d 13= .string ((⟨l.toArray⟩:ByteArray))/\X 2=eZr g l|_=>True) [0,2] [3,4,8,10,11] [(2,11,1,3),(0,0,11,11)] aj ?_ ?_ ?_))
 ·exact fun ix _ _ _ _ _ _ hs hb hx h=>match ix,h with
  |10,h=>by dsimp only;rw[<-hs 13 rfl,<-hx 2 rfl];exact h
  |0,_|1,_|2,_|3,_|4,_|5,_|6,_|7,_|8,_|9,_|_+11,_=>trivial
 ·refine⟨?_,?_,?_,?_,?_,trivial⟩
  ·exact xs4 rfl id fun cx=>rL1 (cx.an 2) ((cx.bi 0 rfl).cell 1)
  ·exact xs4 rfl id fun cx=>pW rfl (cx.an 3) (by omega)
  ·exact xs4 rfl id fun cx=>rL1 (cx.an 7) ((cx.bi 0 rfl).cell 1)
  ·refine svA fun j f W X cx=>?_
   exact xK (e:=5) rfl rfl (by kernel_rfl) (by kernel_rfl) (cx.an 4) (cx.an 9) cx (cx.init 1 _ rfl) rfl hl (by omega) rfl rfl rfl (fun d i X' hs hx=>⟨hs,hx⟩)
  ·exact xs4 rfl id fun cx=>cS rfl (dTn (cx.an 10)).1
 intro d f X W2 hD bA fr aC
 simp only[exq 2 ((dTn (hD 10 lq)).2)] at bA
 simp only[ed 13 ((dTn (hD 10 lq)).1)] at aC
 clear hD;subst aC;clear d f X
 exact aa (wp_ret (bpr (.string ((⟨l.toArray⟩:ByteArray))) (ag results125 rpt) (⟨rfl,⟨p,g,c,(bA.ok (eB b 175 #[p,.slice (some ⟨g,0,none⟩) l.length c]) (by simp)).holds,(bA.ok (eZr g l) (by simp)).holds,hlc,hne,rfl⟩,bA.upd⟩)))
def dS(k l:Int)(ss:List ByteArray)(err:Int)(w:World)(e:Ending)(w':World):Prop:=
 ∃A c,e= .returned (.tuple #[.agg #[.int .i64 k,.int .i64 l,.slice A ss.length c],.int .i64 err])/\
  w'.ownsRow w.heap.size 9 1 (.slice A ss.length c) ss.length (ss.map Value.string)/\Ext w w'
def eS(k l:Int)(ss:List ByteArray)(slot:Int)(s:ByteArray)(w:World):Ending->World->Prop:=
 if di k l ss slot s=0 then dS k l (ae (aX ss slot.toNat s)) 0 w else dS 0 0 [] (di k l ss slot s) w
theorem dS.zero{err:Int}(h:Ext w w'):dS 0 0 [] err w (.returned (.tuple #[.agg #[.int .i64 0,.int .i64 0,sn],.int .i64 err])) w':=
 ⟨none,0,rfl,World.ownsRow_nil _ _ _ _,h⟩
theorem eS.bad{k l slot err:Int}{s:ByteArray}(he:di k l ss slot s=err)(hne:err≠0)(hx:Ext w w'):eS k l ss slot s w (.returned (.tuple #[.agg #[.int .i64 0,.int .i64 0,sn],.int .i64 err])) w':=by
 rw[eS,if_neg (by rw[he];exact hne),he];exact dS.zero hx
theorem eS.good{k l slot:Int}{s:ByteArray}{e:Ending}(he:di k l ss slot s=0)(h:dS k l (ae (aX ss slot.toNat s)) 0 w e w'):eS k l ss slot s w e w':=by
 rw[eS,if_pos he];exact h
theorem uA(l:List ByteArray):dK l l.length=l:=by simp[dK]
theorem xl{l:List ByteArray}(h:l.length<=n):(dK l n).length=n:=by simp[dK];omega
theorem uz{l:List ByteArray}(h:l.length<=n):(dK l n).map Value.string++[.string ⟨#[]⟩]=(dK l (n+1)).map Value.string:=by
 rw[dK,dK,show n+1-l.length=(n-l.length)+1 by omega,List.replicate_succ',<-List.append_assoc,List.map_append (l₂:=[ByteArray.empty])];rfl
theorem wO{l:List ByteArray}{m:Nat}(h:l.length<=n)(hm:m<n)(h2:n<=m+1\/n=l.length):dK l n=dK l (m+1):=by
 rcases h2 with h2|h2
 ·rw[show n=m+1 by omega]
 ·rw[h2,dK,dK,show l.length-l.length=0 by omega,show m+1-l.length=0 by omega]
theorem nZ(h:dJ ss):dJ (ae ss):=
 ⟨Nat.le_trans (by rw[cn];exact dY ss _) h.1,fun s hs=>h.2 s (List.mem_of_mem_take hs)⟩
theorem o5{m:Nat}{s:ByteArray}(h:dJ ss)(hm:m<24)(hs:s.size<=400)(h24:ss.length<=24):dJ (aX ss m s):=by
 have hp:=nZ h
 have hpl:(ae ss).length<=24:=Nat.le_trans (by rw[cn];exact dY ss _) h24
 refine⟨?_,fun x hx=>?_⟩
 ·simp only[aX,dK,List.length_set,List.length_append,List.length_replicate];omega
 ·rcases List.mem_or_eq_of_mem_set hx with hx|hx
  ·rcases List.mem_append.1 hx with hx|hx
   ·exact hp.2 x hx
   ·rw[List.eq_of_mem_replicate hx];exact Nat.zero_le _
  ·subst hx;omega
theorem wH{m:Nat}{s:ByteArray}:(aX ss m s).length=(dK (ae ss) (m+1)).length:=by simp[aX]
theorem FG(k:Int)(w:World):
  Calls P_ 133 #[.int .i64 k] w (Ret (.agg #[.int .i64 k,.int .i64 0,sn]) w):=by
 go_enter func133,ntmps133
 have aj:=St.start w
 refine wq (sqr (bW #[vi 0,vi 0,sn] aj fun bw W1 ax=>?_))
 refine aa (wsq [.m 3 0,.k 4 (.agg #[vi k,vi 0,sn])] ?_)
 refine aT (n:=3) 0 #[vi k,vi 0,sn] ax fun W4 aZ=>?_
 exact aa (wp_ret (bpr (.agg #[vi k,vi 0,sn]) (bB (n:=3) results133 rfl (by kernel_rfl) (by kernel_rfl) (aZ.blk 0 rfl) rfl) (Ret.of rfl aZ.ext)))
theorem wF(k l:Int)(A:Option Addr)(c:Nat)(ss:List ByteArray)(slot:Int)(s:ByteArray)(w:World)(hA:At w A (ss.map Value.string))(hS:dJ ss)(hss:s.size<=9223372036854775807):
  Calls P_ 102 #[.agg #[.int .i64 k,.int .i64 l,.slice A ss.length c],.int .i64 slot,.string s] w (eS k l ss slot s w):=by
 go_enter func102,ntmps102
 have aj:=St.start w
 refine wq (sqr ?_)
 refine bX #[vi k,vi l,.slice A ss.length c] aj fun bP W1 ax=>?_
 refine bW #[vi 0,vi 0,sn] ax fun zG W2 bA=>?_
 refine sqp [.k 7 (vi 0)] ?_
 refine aa (wq (wq (sqr ?_)))
 refine bD 0 3 bA ?_
 refine sqk (.bool (bu k l ss)) bA (fun cx=>⟨_,ql k l _ _ ss _ (hA.ext cx.upd.to_ext) hS,(av (cx.ou 9))⟩) fun W5 aK=>?_
 refine sqp [.k 11 (.bool (!(bu k l ss)))] ?_
 refine aa ?_
 rcases Bool.eq_false_or_eq_true (bu k l ss) with ea|ea
 ·refine wp_cond_false (show Act.eval _ _= .bool false from(congrArg Value.bool (by rw[ea];rfl))) (wp_skip (aa (wq (wsq [.m 13 1,.k 14 (.bool (decide (slot<0))),.m 15 14] ?_))))
  refine sqw 15 [16,17] rfl (fun _=>sqp [.m 16 1,.k 17 (.bool (decide (24<=slot)))] sqe) ?_
  refine sqp [sPo 18 (decide (slot<0)) (decide (24<=slot)),.m 19 18] ?_
  refine sqw 19 [20,21,22] rfl (fun _=>sqp [.m 20 2,.k 21 (vi ((s.size:Int))),.k 22 (.bool (decide (400<(s.size:Int))))] sqe) ?_
  refine sqp [sPo 23 ((decide (slot<0))||(decide (24<=slot))) (decide (400<(s.size:Int)))] ?_
  refine aa (wbs (fun kc=>?_) fun kc=>?_)
  ·have kd:=kc
   simp only[zB] at kd
   refine wsq [.k 24 (.agg #[vi 0,vi 0,sn])] ?_
   refine aT (n:=3) 1 #[vi 0,vi 0,sn] aK fun uT eN=>?_
   refine sqp [.k 7 (vi 21)] ?_
   refine aa (wp_ret (ai ?_))
   exact bpr (.tuple #[.agg #[vi 0,vi 0,sn],vi 21]) (aL results102 (rpa (eN.blk 1 rfl) 0 3) rpt) (eS.bad (by rw[di,if_neg (by simp[*]),if_pos (by omega)]) (by decide) eN.ext)
  have kd:=kc
  simp only[zB] at kd
  obtain⟨⟨MM,MN⟩,Rk⟩:=kd
  refine wp_skip (aa (wq ?_))
  obtain⟨m,rfl⟩:∃m:Nat,slot=(m:Int):=⟨slot.toNat,by omega⟩
  have hm24:m<24:=by omega
  have aM:s.size<=400:=by omega
  have hpar:=cT (by assumption:bu k l ss=true)
  have hl24:ss.length<=24:=hpar.2.2.1.1
  have hws:=o5 hS hm24 aM hl24
  refine sqs [.k 25 (po bP 2)] ?_
  refine am 0 aK ?_
  refine qe (fun mY=> .slice mY ((ae ss).length) ((ae ss).length)) (fun mY=>eO 9 1 (.slice mY ((ae ss).length) ((ae ss).length)) ((ae ss).length) ((ae ss).map Value.string)) aK (fun cx=>⟨_,(li _ _ ss _ (hA.ext cx.upd.to_ext) (by have h_:=(hS).1;omega)).mono (by rintro e W1 ⟨rfl,ho,hx⟩;exact⟨_,rfl,St.one hx (cf ho)⟩),(av (cx.ou 26))⟩) fun mY xy dM=>?_
  refine sqp [.m 8 27] ?_
  refine aa (wq (wp_block ?_))
  obtain⟨pl,hpl⟩:∃z,ae ss=z:=⟨_,rfl⟩
  have hpl24:pl.length<=24:=by rw[<-hpl,cn];exact Nat.le_trans (dY ss _) hl24
  rw[hpl] at dM
  rw[show eO 9 1 (.slice mY pl.length pl.length) pl.length (pl.map Value.string)=eO 9 1 (.slice mY pl.length pl.length) pl.length ((dK pl pl.length).map Value.string) from by rw[uA]] at dM
  refine aQ (fun t_ mz az W=>∃j:Nat,∃RA:Option Addr,∃RC:Nat,pl.length<=j/\(j<=m+1\/j=pl.length)/\mz=m+1-j/\az=⟨(ovr (jv az) [(8,8,0,[.slice RA j RC]),(19,28,7,[])] t_).toArray,[]⟩/\St w [] [eB bP 48 #[vi k,vi l,.slice A ss.length c],eB zG 48 #[vi 0,vi 0,sn],eO 9 1 (.slice RA j RC) j ((dK pl j).map Value.string)] W) (m+1-pl.length) ?_ ?_
  ·
   exact⟨pl.length,mY,pl.length,Nat.le_refl _,.inr rfl,rfl,(by rw[hpl];rfl),dM.pk [0,1,2]⟩
  rintro Rl a27 xz ⟨j,RA,RC,hj,hj2,rfl,hj_,d6⟩
  refine ovz hj_ fun Qe=>?_
  refine wq (wsq [.m 28 8,.k 29 (vi ((j:Int))),.m 30 1,.k 31 (.bool (decide ((j:Int)<=(m:Int))))] ?_)
  refine aa (wds (fun gX kT=>?_) fun gX kT=>?_)
  ·refine wp_skip (aa (wp_block (sqs [.m 32 8] ?_)))
   refine d9 (fun x_=>sA x_) (fun uU=> .slice uU 1 1) (fun uU=>eO 9 1 (.slice uU 1 1) 1 ([.string ⟨#[]⟩])) d6 (by
     refine svA fun i d W X cx=>?_
     exact dA (e:=9) (xs:=[.string ⟨#[]⟩]) rfl (by simp[go_sem,cx.sees.const]) rfl (by decide) rfl rfl (fun _ _ _ _ _=> .intro)) fun uU xA ek=>?_
   refine ti (fun x_=>sA x_) (fun x_=>sC x_) (fun qR qS=> .slice qR (j+1) qS) (fun qR qS=>eO 9 1 (.slice qR (j+1) qS) (j+1) ((dK pl (j+1)).map Value.string)) 2 ek (by
     refine svA fun i d W X cx=>?_
     obtain⟨i0,hi0,hz0,hz1,hz2⟩:=info_parts Tryz.infoStr
     refine fj (n:=j) (m:=1) (nm:=j+1) (xs:=(dK pl j).map Value.string) (news:=[.string ⟨#[]⟩]) (xs':=(dK pl (j+1)).map Value.string) rfl (ty:=46) rfl (by kernel_rfl) hi0 hz0 hz1 hz2 rfl (cx.ou 32) cx (cx.init 2 _ rfl) rfl (cx.ou 33) (by first|(simp;done)|(simp;omega)) (At.of_own (cx.ri 3 rfl)) (by simp[Value.oneCell']) (by simp only[maxLen];omega) (by omega) rfl rfl rfl (by omega) (uz hj) (fun f o X' hs hb hv hx=>?_)
     exact⟨hv,hx⟩) fun qR qS zH em=>?_
   refine sqp [.m 8 34] ?_
   refine aq (aa ?_)
   refine⟨m+1-((j+1)),by omega,?_⟩
   exact⟨(j+1),qR,qS,by omega,by omega,rfl,(by kernel_rfl),em.pk [0,1,2]⟩
  refine wp_exit (al (al (bf (aa (wq ?_)))))
  have hje:=wO hj (show m<j by omega) hj2
  have hjl:=xl hj
  rw[hje] at d6
  rw[hje] at hjl
  refine sqs [.m 35 8,.m 36 1,.m 37 2] ?_
  refine sql (.pointer (some ((ad RA).add m))) d6 (fun cx=>bz (e:=9) (m:=m) rfl (by kernel_rfl) (by kernel_rfl) (cx.ou 35) (cx.ou 36) (by omega) (by omega) (At.of_own (cx.ri 2 rfl)) ((by simp only[List.length_map];exact hjl))) ?_
  refine sqc (eO 9 1 (.slice RA j RC) j ((aX ss m s).map Value.string)) 2 d6 (by
    refine svA fun i d W X cx=>?_
    exact kR (m:=m) (n:=j) rfl (cx.ou 38) (show _=Value.string s from(cx.ou 37)) (by kernel_rfl) rfl rfl cx (cx.init 2 _ rfl) rfl (by omega) rfl (by rw[<-List.map_set,<-hpl];rfl) rfl rfl (fun _ _ _ _ _=>id)) fun Jl ke=>?_
  refine aa (wq (wq ?_))
  have hwl:(aX ss m s).length=j:=by rw[wH,hpl];exact hjl
  subst hwl
  refine sqs [.m 39 8] ?_
  refine sqk (vi ((cO (aX ss m s):Int))) ke (fun cx=>⟨_,yq _ _ (aX ss m s) _ (At.of_own (cx.ri 2 rfl)) hws,(av (cx.ou 39))⟩) fun MO l9=>?_
  refine sqp [.k 41 (.bool (decide (512<(cO (aX ss m s):Int))))] ?_
  refine aa (wds (fun IE Db=>?_) fun IE Db=>?_)
  ·refine wsq [.k 42 (.agg #[vi 0,vi 0,sn])] ?_
   refine aT (n:=3) 1 #[vi 0,vi 0,sn] l9 fun MP gp=>?_
   refine sqp [.k 7 (vi 20)] ?_
   refine aa (wp_ret (ai ?_))
   exact bpr (.tuple #[.agg #[vi 0,vi 0,sn],vi 20]) (aL results102 (rpa (gp.blk 1 rfl) 0 3) rpt) (eS.bad (by rw[di,if_neg (by simp[*]),if_neg (by omega),if_pos (by rw[Int.toNat_natCast];omega)]) (by decide) gp.ext)
  refine wp_skip (aa (wq (aB [0,1,0,4,0,16,63,127,255] [[],[0],[],[0],[],[2],[],[1]] [[],[],[],[],[],[3],[],[4]] [[],[],[],[],[],[],[],[1]] [.k 43 (vp bP),.c 44 (vi k),.k 45 (po bP 1),.c 46 (vi l),.k 47 (.slice RA ((aX ss m s).length) RC),.a 48,.a 49,.n,.k 7 (vi 0)] (fun ix f d X=>match ix with|0|1|2|3|4=>True|5=>f 48= .slice (sA (d 48)) ((ae (aX ss m s)).length) ((ae (aX ss m s)).length)/\X 3=eO 9 1 (.slice (sA (d 48)) ((ae (aX ss m s)).length) ((ae (aX ss m s)).length)) ((ae (aX ss m s)).length) ((ae (aX ss m s)).map Value.string)|6=>f 49= .agg #[vi k,vi l,.slice (sA (d 48)) ((ae (aX ss m s)).length) ((ae (aX ss m s)).length)]|7=>X 4=eB zG 48 #[vi k,vi l,.slice (sA (d 48)) ((ae (aX ss m s)).length) ((ae (aX ss m s)).length)]|_=>True) [0,2,3,4] [1,3,5,6,7] [(7,8,1,8),(35,0,7,42)] l9 ?_ ?_ ?_)))
  ·exact fun ix _ _ _ _ _ _ hs hb hx h=>match ix,h with
   |5,h=>by dsimp only;rw[<-hs 48 rfl,<-hb 48 rfl,<-hx 3 rfl];exact h
   |6,h=>by dsimp only;rw[<-hs 49 rfl,<-hb 48 rfl];exact h
   |7,h=>by dsimp only;rw[<-hb 48 rfl,<-hx 4 rfl];exact h
   |0,_|1,_|2,_|3,_|4,_|_+8,_=>trivial
  ·refine⟨?_,?_,?_,?_,?_,trivial⟩
   ·exact xs4 rfl id fun cx=>rL1 (cx.an 0) ((cx.bi 0 rfl).cell 0)
   ·exact xs4 rfl id fun cx=>rL1 (cx.an 2) ((cx.bi 0 rfl).cell 1)
   ·refine svA fun i d W X cx=>?_
    refine ak.call (rCF (args:=#[.slice RA ((aX ss m s).length) RC]) cx.sees (av (cx.an 4))) ?_
    refine(li _ _ (aX ss m s) _ (At.of_own (cx.ri 2 rfl)) (by have h_:=(hws).1;omega)).mono ?_
    rintro e W1 ⟨rfl,ho,hx⟩
    refine⟨_,rfl,bK [eO 9 1 (.slice (some ⟨W.heap.size,0,none⟩) ((ae (aX ss m s)).length) ((ae (aX ss m s)).length)) ((ae (aX ss m s)).length) ((ae (aX ss m s)).map Value.string)] rfl rfl hx (one_new (cf ho)) (List.pairwise_singleton _ _) (fun f o X' hs hb hv hN=>?_)⟩
    have aH:=(hv 48 rfl).1;have aO:=(hv 48 rfl).2
    exact⟨aH.trans (by rw[aO];exact rfl),(by rw[aO];exact(List.cons.inj hN).1)⟩
   ·exact sv rfl rfl rfl rfl rfl _ (fun _ _ _ h=>h) (fun d o h=>by rw[h 48 (by decide)]) fun i d W X cx=>jX rfl (pmc (cx.an 1) (pmc (cx.an 3) (pmc (dTn (cx.an 5)).1 pmn))) (by kernel_rfl)
   ·refine svA fun i d W X cx=>?_
    exact dVS (n:=3) rfl (cx.ou 6) (dTn (cx.an 6)) cx (cx.init 1 _ rfl) rfl (nle rfl) rfl rfl rfl (fun f o X' hs hb hx=>by rw[hb 48];exact hx)
  intro f d X MQ hD eo fr aC
  simp only[exq 3 ((dTn (hD 5 lq)).2),exq 4 ((dTn (hD 7 lq)))] at eo
  simp only[ed 48 ((dTn (hD 5 lq)).1),ed 49 ((dTn (hD 6 lq)))] at aC
  generalize sA (d 48)=MR at eo aC
  clear hD;subst aC;clear f d X
  exact aa (wp_ret (bpr (.tuple #[.agg #[vi k,vi l,.slice MR ((ae (aX ss m s)).length) ((ae (aX ss m s)).length)],vi 0]) (aL results102 (rpa (eo.blk 3 rfl) 0 3) rpt) (eS.good (by rw[di,if_neg (by simp[*]),if_neg (by omega),if_neg (by rw[Int.toNat_natCast];omega)]) ⟨_,_,by rw[Int.toNat_natCast],by rw[Int.toNat_natCast];exact eo.own' 2 rfl,eo.ext⟩)))
 refine wp_cond_true (show Act.eval _ _= .bool true from(congrArg Value.bool (by rw[ea];rfl))) (wsq [.k 12 (.agg #[vi 0,vi 0,sn])] ?_)
 refine aT (n:=3) 1 #[vi 0,vi 0,sn] aK fun Jm kU=>?_
 refine sqp [.k 7 (vi 22)] ?_
 refine aa (wp_ret (ai ?_))
 exact bpr (.tuple #[.agg #[vi 0,vi 0,sn],vi 22]) (aL results102 (rpa (kU.blk 1 rfl) 0 3) rpt) (eS.bad (by rw[di,if_pos (by assumption)]) (by decide) kU.ext)
theorem gI.is{xs:List Value}(h:gI w b r xs):Lib.IsBuilderF 175 5 0 b xs w:=by
 obtain⟨p,v,h2,h3,h4,h5⟩:=h
 have hne:=ot h4 h2 (by decide)
 refine Lib.IsBuilderF.of ?_
 rcases h3 with rfl|rfl
 ·exact .inl ⟨Nat.zero_le _,v,h2,h4,hne⟩
 ·exact .inr ⟨Nat.zero_le _,v,h2,h4,hne⟩
theorem K5(b:Nat)(r:Option Nat)(l:List UInt8)(w:World)(h:gI w b r (Lib.byteCells l)):Calls P_ 124 #[po b 0] w (Ret (.int .i64 (l.length:Int)) w):=
 (Tryz.Builder_Len_f 0 b _ w h.is).mono fun _ _ h=>⟨by rw[h.1,ig],by rw[h.2];exact Ext.refl _⟩
theorem yG(n:Nat):Lib.repeatL [0] n=List.replicate n (0:UInt8):=by
 induction n with
 |zero=>rfl
 |succ n ih=>rw[Lib.repeatL,ih,List.replicate_succ];rfl
def dQ(n:Nat):ByteArray:=⟨(List.replicate n (0:UInt8)).toArray⟩
theorem mS(n:Nat):(dQ n).data.toList=List.replicate n 0:=rfl
theorem jm(n:Nat):(dQ n).size=n:=by simp[dQ,ByteArray.size]
theorem HY(n:Nat)(w:World)(h:n<=1000000):Calls P_ 123 #[.string ⟨#[0]⟩,.int .i64 (n:Int)] w (Ret (.string (dQ n)) w):=by
 refine(Tryz.strings_Repeat ⟨#[0]⟩ n w (by omega) (by show 1*n<= _;omega)).mono ?_
 rintro e w' ⟨rfl,hx⟩
 refine⟨?_,hx⟩
 have e1:(⟨#[0]⟩:ByteArray).data.toList=[0]:=rfl
 rw[e1,yG];rfl
theorem LG(x:Int)(n:Nat)(w:World)(h:n<=1000000)(hx:x=n):Calls P_ 123 #[.string ⟨#[0]⟩,.int .i64 x] w (Ret (.string (dQ n)) w):=by
 rw[hx];exact HY n w h
theorem Gx{s:ByteArray}(h:s.size<=400):(aV s).size<=402:=by
 have:=aE (s.size:Int) 2 (by omega)
 rw[aV,ByteArray.size_append,this];omega
def fG(k l:Int)(ss:List ByteArray)(w:World):Ending->World->Prop:=
 if bu k l ss=true then Ret (.tuple #[.string (bN k l (ae ss)),.int .i64 0]) w else Ret (.tuple #[.string ⟨#[]⟩,.int .i64 22]) w
theorem Fj{k l:Int}(hr:bu k l ss=true)(hx:Ext w w'):fG k l ss w (.returned (.tuple #[.string (ah (bc (bC (bR k l (ae ss))):Int) 4++bC (bR k l (ae ss))),.int .i64 0])) w':=by
 rw[fG,if_pos hr];exact⟨rfl,hx⟩
theorem nR(k l:Int)(A:Option Addr)(c:Nat)(ss:List ByteArray)(w:World)(hA:At w A (ss.map Value.string))(hS:dJ ss):
  Calls P_ 56 #[.agg #[.int .i64 k,.int .i64 l,.slice A ss.length c]] w (fG k l ss w):=by
 go_enter func56,ntmps56
 have aj:=St.start w
 refine wq (sqr ?_)
 refine bX #[vi k,vi l,.slice A ss.length c] aj fun ay W1 ax=>?_
 refine sqp [.k 2 (.string ⟨#[]⟩),.k 3 (vi 0)] ?_
 refine aa (wq (wq (sqr ?_)))
 refine bD 0 3 ax ?_
 refine sqk (.bool (bu k l ss)) ax (fun cx=>⟨_,ql k l _ _ ss _ (hA.ext cx.upd.to_ext) hS,(av (cx.ou 8))⟩) fun W5 aK=>?_
 refine sqp [.k 10 (.bool (!(bu k l ss)))] ?_
 refine aa ?_
 rcases Bool.eq_false_or_eq_true (bu k l ss) with ea|ea
 ·refine wp_cond_false (show Act.eval _ _= .bool false from(congrArg Value.bool (by rw[ea];rfl))) (wp_skip (aa (wq (sqr (bW #[.pointer none,sn] aK fun iJ W8 dI=>?_)))))
  refine aa (wsq [.k 11 (po ay 2)] ?_)
  refine am 0 dI ?_
  refine qe (fun mZ=> .slice mZ ((ae ss).length) ((ae ss).length)) (fun mZ=>eO 9 1 (.slice mZ ((ae ss).length) ((ae ss).length)) ((ae ss).length) ((ae ss).map Value.string)) dI (fun cx=>⟨_,(li _ _ ss _ (hA.ext cx.upd.to_ext) (by have h_:=(hS).1;omega)).mono (by rintro e W1 ⟨rfl,ho,hx⟩;exact⟨_,rfl,St.one hx (cf ho)⟩),(av (cx.ou 12))⟩) fun mZ FK fY=>?_
  refine sqp [.m 5 13] ?_
  refine aa (wq ?_)
  have hpar:=cT (by assumption:bu k l ss=true)
  have hT:6+aR (ae ss)<=504:=by have h_:=hpar.2.2.2;rw[cO] at h_;omega
  have hpn:(ae ss).length<=24:=by rw[cn];exact Nat.le_trans (dY ss _) hpar.2.2.1.1
  have pZ:=aE k 1 (by omega)
  have oC:=aE l 4 (by omega)
  have MS:=aE ((ae ss).length:Int) 1 (by omega)
  have zI:((ah k 1)++(ah l 4)).size=5:=by rw[ByteArray.size_append,pZ,oC]
  have Rm:(((ah k 1)++(ah l 4))++(ah ((ae ss).length:Int) 1)).size=6:=by rw[ByteArray.size_append,MS,zI]
  refine aB [0,1,3,0,8,31,63,0,128,447,1023,2047] [[],[0],[],[],[0],[],[],[],[],[],[],[1]] [[],[],[],[],[],[],[],[],[],[],[],[3]] [[],[],[],[],[],[],[],[],[],[],[],[1]] [.k 14 (vp ay),.c 15 (vi k),.c 16 (.string (ah k 1)),.k 17 (po ay 1),.c 18 (vi l),.c 19 (.string (ah l 4)),tS 20 (ah k 1) (ah l 4) (by omega),.k 21 (.slice mZ ((ae ss).length) ((ae ss).length)),.k 22 (vi (((ae ss).length:Int))),.c 23 (.string (ah ((ae ss).length:Int) 1)),tS 24 ((ah k 1)++(ah l 4)) (ah ((ae ss).length:Int) 1) (by omega),.a 25] (fun ix d f X=>match ix with|0|1|2|3|4|5|6|7|8|9|10=>True|11=>d 25= .tuple #[vi (((((ah k 1)++(ah l 4))++(ah ((ae ss).length:Int) 1)).size:Int)),.nilIface]/\X 3=eBu iJ (rO (X 3)) ((((ah k 1)++(ah l 4))++(ah ((ae ss).length:Int) 1)).data.toList)|_=>True) [0,2,3] [1,2,4,5,9,11] [(14,0,12,26)] fY ?_ ?_ ?_
  ·exact fun ix _ _ _ _ _ _ hs hb hx h=>match ix,h with
   |11,h=>by dsimp only;rw[<-hs 25 rfl,<-hx 3 rfl];exact h
   |0,_|1,_|2,_|3,_|4,_|5,_|6,_|7,_|8,_|9,_|10,_|_+12,_=>trivial
  ·refine⟨?_,?_,?_,?_,?_,?_,trivial⟩
   ·exact xs4 rfl id fun cx=>rL1 (cx.an 0) ((cx.bi 0 rfl).cell 0)
   ·exact xsc rfl id rfl rfl fun cx=>⟨_,qy k _,(aN (cx.an 1) (cx.co _))⟩
   ·exact xs4 rfl id fun cx=>rL1 (cx.an 3) ((cx.bi 0 rfl).cell 1)
   ·exact xsc rfl id rfl rfl fun cx=>⟨_,lg l _,(aN (cx.an 4) (cx.co _))⟩
   ·exact xsc rfl id rfl rfl fun cx=>⟨_,qy ((ae ss).length:Int) _,(aN (cx.an 8) (cx.co _))⟩
   ·refine svA fun o f W X cx=>?_
    refine ak.call (rCF (args:=#[vp iJ,.string (((ah k 1)++(ah l 4))++(ah ((ae ss).length:Int) 1))]) cx.sees (aN (cx.ou 4) (cx.an 10))) ?_
    refine(xO _ _ [] _ _ (gI.fresh (cx.bi 1 rfl)) (by simp only[List.length_append,List.length_nil,gn,dD,ByteArray.size_append,jm,mS,List.length_replicate];omega)).mono ?_
    rintro e W1 ⟨rfl,hu⟩
    refine⟨_,rfl,oy (by rw[(cx.init 1 _ rfl)];rfl) rfl rfl hu (fun d i X' hs hb hv hx=>?_)⟩
    exact⟨(hv 25 rfl).1,hx⟩
  intro d f X FL hD fZ fr aC
  have MT:X 3= _:=(dTn (hD 11 lq)).2
  obtain⟨ON,zJ⟩:∃z,rO (X 3)=z:=⟨_,rfl⟩
  rw[zJ] at MT
  clear zJ
  simp only[MT] at fZ
  simp only[ed 25 ((dTn (hD 11 lq)).1)] at aC
  clear hD MT;subst aC;clear d f X
  refine aa (wq (wsq [.m 26 5,.k 27 (vi (((ae ss).length:Int))),.k 28 (vi 0)] ?_))
  refine aa (wp_block ?_)
  have hh0:(((ah k 1)++(ah l 4))++(ah ((ae ss).length:Int) 1)).data.toList=bY k l (ae ss).length++bg ((ae ss).take 0):=by simp[bY,bg,bl]
  rw[hh0] at fZ
  refine aQ (fun t_ mz az W=>∃j:Nat,∃rb:Option Nat,j<=(ae ss).length/\mz=(ae ss).length-j/\az=⟨(ovr (jv az) [(7,7,1,[]),(20,28,0,[vi ((j:Int))]),(0,29,7,[])] t_).toArray,[]⟩/\St w [] [eB ay 48 #[vi k,vi l,.slice A ss.length c],eO 9 1 (.slice mZ ((ae ss).length) ((ae ss).length)) ((ae ss).length) ((ae ss).map Value.string),eBu iJ rb (bY k l (ae ss).length++bg ((ae ss).take j))] W) ((ae ss).length-0) ?_ ?_
  ·
   exact⟨0,ON,by omega,rfl,(by kernel_rfl),fZ.pk [0,1,2]⟩
  rintro Rn a17 qT ⟨j,rb,hj,rfl,hj_,dt⟩
  refine ovz hj_ fun Qf=>?_
  have hil:=lJ (ae ss) j
  refine wsq [.k 29 (.bool (decide ((j:Int)<((ae ss).length:Int))))] ?_
  refine aa (wq (wds (fun kc kd=>?_) fun kc kd=>?_))
  ·refine wp_skip (aa (wq (wp_block (wq (sqr ?_)))))
   refine sql (.pointer (some ((ad mZ).add j))) dt (fun cx=>bz (e:=9) (m:=j) rfl (by kernel_rfl) (by kernel_rfl) (cx.ou 26) (cx.ou 28) (by omega) (by omega) (At.of_own (cx.ri 1 rfl)) (by simp)) ?_
   refine sql (.string (((ae ss)).getD j ByteArray.empty)) dt (fun cx=>ce rfl (by kernel_rfl) (cx.ou 30) (At.cellAd (At.of_own (cx.ri 1 rfl)) (jz (by omega)))) ?_
   refine sqp [.m 7 31] ?_
   refine aa ?_
   have hx4:((ae ss).getD j ByteArray.empty).size<=400:=by have h_:=hpar.2.2.1.2 ((ae ss)[j]'(by omega)) (List.mem_of_mem_take (List.getElem_mem _));simpa[show j<(ae ss).length by omega] using h_
   have hto:=Gx hx4
   refine sqs [.m 32 7] ?_
   refine sqk (.string (aV (((ae ss)).getD j ByteArray.empty))) dt (fun cx=>⟨_,lj (((ae ss)).getD j ByteArray.empty) _ (by omega),(av (cx.ou 32))⟩) fun uV et=>?_
   refine bF (fun X_=>rO X_) (.tuple #[vi (((aV (((ae ss)).getD j ByteArray.empty)).size:Int)),.nilIface]) (fun Dc=>eBu iJ Dc ((bY k l (ae ss).length++bg ((ae ss).take j))++(aV (((ae ss)).getD j ByteArray.empty)).data.toList)) 2 et (by
     refine svA fun o f W X cx=>?_
     refine ak.call (rCF (args:=#[vp iJ,.string (aV (((ae ss)).getD j ByteArray.empty))]) cx.sees (aN (cx.ou 4) (cx.ou 33))) ?_
     refine(xO _ _ (bY k l (ae ss).length++bg ((ae ss).take j)) _ _ (cx.sb (cx.init 2 _ rfl) rfl) (by simp only[List.length_append,List.length_nil,gn,dD,ByteArray.size_append,jm,mS,List.length_replicate];omega)).mono ?_
     rintro e W1 ⟨rfl,hu⟩
     refine⟨_,rfl,oy (by rw[(cx.init 2 _ rfl)];rfl) rfl rfl hu (fun d i X' hs hb hv hx=>?_)⟩
     exact⟨(hv 34 rfl).1,hx⟩) fun Dc xy dM=>?_
   refine aq (aa (sqs [sI 35 ((j:Int)+1) (by omega),.m 28 35] ?_))
   refine aa ?_
   have hq28:(bY k l (ae ss).length++bg ((ae ss).take j))++(aV (((ae ss)).getD j ByteArray.empty)).data.toList=bY k l (ae ss).length++bg ((ae ss).take (j+1)):=by rw[n6 _ j (by omega),<-List.append_assoc];simp[bl,aV,jq,show j<(ae ss).length by omega]
   rw[hq28] at dM
   refine⟨(ae ss).length-((j+1)),by omega,?_⟩
   exact⟨(j+1),Dc,by omega,rfl,(by kernel_rfl),dM.pk [0,1,2]⟩
  refine wp_exit (al (al (bf (aa (wq ?_)))))
  have hje:j=(ae ss).length:=by omega
  have hq29:bY k l (ae ss).length++bg ((ae ss).take j)=bY k l (ae ss).length++bg (ae ss):=by rw[hje,List.take_length]
  rw[hq29] at dt
  have hL6:(bY k l (ae ss).length++bg (ae ss)).length=6+aR (ae ss):=by rw[List.length_append,gn,dD]
  refine sqr (sqk (vi (((bY k l (ae ss).length++bg (ae ss)).length:Int))) dt (fun cx=>⟨_,K5 _ _ (bY k l (ae ss).length++bg (ae ss)) _ (cx.sb (cx.init 2 _ rfl) rfl),(av (cx.ou 4))⟩) fun FM jr=>?_)
  refine sqp [sI 37 (504-((bY k l (ae ss).length++bg (ae ss)).length:Int)) (by omega)] ?_
  refine sqk (.string (dQ (504-(6+aR (ae ss))))) jr (fun cx=>⟨_,LG (504-((bY k l (ae ss).length++bg (ae ss)).length:Int)) (504-(6+aR (ae ss))) _ (by omega) (by simp only[List.length_append,gn,dD];omega),(aN (cx.co _) (cx.ou 37))⟩) fun zK dc=>?_
  refine bF (fun X_=>rO X_) (.tuple #[vi (((dQ (504-(6+aR (ae ss)))).size:Int)),.nilIface]) (fun uW=>eBu iJ uW ((bY k l (ae ss).length++bg (ae ss))++(dQ (504-(6+aR (ae ss)))).data.toList)) 2 dc (by
    refine svA fun o f W X cx=>?_
    refine ak.call (rCF (args:=#[vp iJ,.string (dQ (504-(6+aR (ae ss))))]) cx.sees (aN (cx.ou 4) (cx.ou 38))) ?_
    refine(xO _ _ (bY k l (ae ss).length++bg (ae ss)) _ _ (cx.sb (cx.init 2 _ rfl) rfl) (by simp only[List.length_append,List.length_nil,gn,dD,ByteArray.size_append,jm,mS,List.length_replicate];omega)).mono ?_
    rintro e W1 ⟨rfl,hu⟩
    refine⟨_,rfl,oy (by rw[(cx.init 2 _ rfl)];rfl) rfl rfl hu (fun d i X' hs hb hv hx=>?_)⟩
    exact⟨(hv 39 rfl).1,hx⟩) fun uW PO rY=>?_
  refine aa (wsq [.k 40 (po ay 1)] ?_)
  refine am 0 rY ?_
  refine sqk (.string (ah l 4)) rY (fun cx=>⟨_,lg l _,(aN (cx.ou 41) (cx.co _))⟩) fun xB dX=>?_
  refine bF (fun X_=>rO X_) (.tuple #[vi (((ah l 4).size:Int)),.nilIface]) (fun nH=>eBu iJ nH (((bY k l (ae ss).length++bg (ae ss))++(dQ (504-(6+aR (ae ss)))).data.toList)++(ah l 4).data.toList)) 2 dX (by
    refine svA fun o f W X cx=>?_
    refine ak.call (rCF (args:=#[vp iJ,.string (ah l 4)]) cx.sees (aN (cx.ou 4) (cx.ou 42))) ?_
    refine(xO _ _ ((bY k l (ae ss).length++bg (ae ss))++(dQ (504-(6+aR (ae ss)))).data.toList) _ _ (cx.sb (cx.init 2 _ rfl) rfl) (by simp only[List.length_append,List.length_nil,gn,dD,ByteArray.size_append,jm,mS,List.length_replicate];omega)).mono ?_
    rintro e W1 ⟨rfl,hu⟩
    refine⟨_,rfl,oy (by rw[(cx.init 2 _ rfl)];rfl) rfl rfl hu (fun d i X' hs hb hv hx=>?_)⟩
    exact⟨(hv 43 rfl).1,hx⟩) fun nH Jn gY=>?_
  refine aa (wq ?_)
  have hq38:((bY k l (ae ss).length++bg (ae ss))++(dQ (504-(6+aR (ae ss)))).data.toList)++(ah l 4).data.toList=bR k l (ae ss):=rfl
  rw[hq38] at gY
  have hbl:=qd k l (ae ss) hT
  have hbne:bR k l (ae ss)≠[]:=fun h=>by rw[h] at hbl;simp at hbl
  have hsl:=kD (bC (bR k l (ae ss)))
  have Uz:=aE (bc (bC (bR k l (ae ss))):Int) 4 (by omega)
  have UA:(bC (bR k l (ae ss))).size=508:=by rw[la,hbl]
  refine sqr ?_
  refine gL (.string (bC (bR k l (ae ss)))) (eZb iJ nH (bR k l (ae ss))) 2 gY (by
    refine svA fun o f W X cx=>?_
    refine ak.call (rCF (args:=#[vp iJ]) cx.sees (av (cx.ou 4))) ?_
    refine(Bs _ _ (bR k l (ae ss)) _ (gI.z (cx.sb (cx.init 2 _ rfl) rfl) hbne) hbne (by omega)).mono ?_
    rintro e W1 ⟨rfl,hz,hu⟩
    refine⟨_,rfl,oQ (E:=eBu iJ nH (bR k l (ae ss))) (E':=eZb iJ nH (bR k l (ae ss))) (cx.init 2 _ rfl) rfl rfl hu hz (BI _ _ _) (fun k hk=>⟨hk,hz.lt k hk⟩) (fun d i X' hs hb hv hx=>?_)⟩
    exact⟨(hv 44 rfl).1,hx⟩) fun qU du=>?_
  refine sqk (.int .u32 ((bc (bC (bR k l (ae ss))):Int))) du (fun cx=>⟨_,mR (bC (bR k l (ae ss))) _ (by rw[la];omega),(av (cx.ou 44))⟩) fun xC d7=>?_
  refine sqp [sW 46 .i64 (bc (bC (bR k l (ae ss))):Int) (bc (bC (bR k l (ae ss))):Int) (IntWalk.i64_in _ (by omega))] ?_
  refine sqk (.string (ah (bc (bC (bR k l (ae ss))):Int) 4)) d7 (fun cx=>⟨_,lg (bc (bC (bR k l (ae ss))):Int) _,(aN (cx.ou 46) (cx.co _))⟩) fun uX fu=>?_
  refine gL (.string (bC (bR k l (ae ss)))) (eZb iJ nH (bR k l (ae ss))) 2 fu (by
    refine svA fun o f W X cx=>?_
    refine ak.call (rCF (args:=#[vp iJ]) cx.sees (av (cx.ou 4))) ?_
    refine(Bs _ _ (bR k l (ae ss)) _ (cx.z (cx.init 2 _ rfl) rfl) hbne (by omega)).mono ?_
    rintro e W1 ⟨rfl,hz,hu⟩
    refine⟨_,rfl,oQ (E:=eZb iJ nH (bR k l (ae ss))) (E':=eZb iJ nH (bR k l (ae ss))) (cx.init 2 _ rfl) rfl rfl hu hz (BI _ _ _) (fun k hk=>⟨hk,hz.lt k hk⟩) (fun d i X' hs hb hv hx=>?_)⟩
    exact⟨(hv 48 rfl).1,hx⟩) fun MO l9=>?_
  refine sqp [sS 49 (ah (bc (bC (bR k l (ae ss))):Int) 4) (bC (bR k l (ae ss))) (by omega),.m 2 49,.k 3 (vi 0)] ?_
  exact aa (wp_ret (bpr (.tuple #[.string ((ah (bc (bC (bR k l (ae ss))):Int) 4)++(bC (bR k l (ae ss)))),vi 0]) (aL results56 rpt rpt) (Fj (by assumption) l9.ext)))
 refine wp_cond_true (show Act.eval _ _= .bool true from(congrArg Value.bool (by rw[ea];rfl))) (wsq [.k 2 (.string ⟨#[]⟩),.k 3 (vi 22)] ?_)
 refine aa (wp_ret (ai ?_))
 refine bpr (.tuple #[.string ⟨#[]⟩,vi 22]) (aL results56 rpt rpt) ?_
 show fG k l ss w _ _;rw[fG,ea];exact⟨rfl,aK.ext⟩
structure Says (s:ByteArray) (k l:Int) (I:List ByteArray):Prop where
 size:s.size=512
 sum:aP s 0 4=bc (s.extract 4 512)
 lsn2:s.extract 5 9=s.extract 508 512
 kind:(aP s 4 1:Int)=k
 lsn:(aP s 5 4:Int)=l
 many:aP s 9 1=I.length
 text:∀j,j<I.length->10+aR (I.take j)+2<=s.size/\10+aR (I.take j)+2+aP s (10+aR (I.take j)) 2<=s.size/\fo s (10+aR (I.take j))=I.getD j ByteArray.empty/\10+aR (I.take j)+2+aP s (10+aR (I.take j)) 2=10+aR (I.take (j+1))
 right:bu k l I=true
 bytes:bN k l (ae I)=s
 plain:ae I=I
theorem sm{k l:Int}(hr:bu k l ss=true):bu k l (ae ss)=true:=by
 obtain⟨hk,hl,⟨h24,h400⟩,h512⟩:=cT hr
 have hln:(ae ss).length<=24:=by rw[cn];have:=dY ss ss.length;omega
 have hz:cO (ae ss)=cO ss:=by rw[cO,iu,cO]
 have hlg:fV (ae ss)=false:=by
  rcases h:fV (ae ss) with _|_
  ·rfl
  ·rw[fV,List.any_eq_true] at h
   obtain⟨x,hx,h⟩:=h
   have:=h400 x (List.mem_of_mem_take hx)
   simp at h;omega
 simp[bu,hk,hl,hln,hlg,hz,h512]
theorem ur{k l:Int}(hr:bu k l ss=true):Says (bN k l (ae ss)) k l (ae ss):=by
 obtain⟨hk,hl,⟨h24,h400⟩,h512⟩:=cT hr
 have hT:6+aR (ae ss)<=504:=by rw[cO] at h512;omega
 have hln:(ae ss).length<=24:=by rw[cn];have:=dY ss ss.length;omega
 refine⟨sB k l _ hT,by rw[FH,Co k l _ hT],by rw[AP,EW k l _ hT],CD k l _ hk.1 (by omega),D7 k l _ hl.1 (by omega),C7 k l _ (by omega),fun j hj=>?_,sm hr,by rw[iu],iu ss⟩
 have h:=C9 k l _ hT j hj
 exact⟨h.1,h.2.1,by rw[h.2.2.1];simp[hj],h.2.2.2⟩
theorem mD(s:ByteArray)(p:Nat):aP s p 4<4294967296:=by
 have h:=wn (s.extract p (p+4)).data.toList
 have h2:(s.extract p (p+4)).data.toList.length<=4:=by
  have:(s.extract p (p+4)).size<=4:=by rw[ByteArray.size_extract];omega
  show (bl (s.extract p (p+4))).length<=4
  rw[bO];exact this
 have h3:(256:Nat)^(s.extract p (p+4)).data.toList.length<=256^4:=Nat.pow_le_pow_right (by omega) h2
 unfold aP
 omega
theorem nq{s:ByteArray}{k l:Int}(h:Says s k l I)(A:Option Addr)(c:Nat)(w:World)(hA:At w A (I.map Value.string))(hS:dJ I):Calls P_ 56 #[.agg #[.int .i64 k,.int .i64 l,.slice A I.length c]] w (Ret (.tuple #[.string s,.int .i64 0]) w):=by
 have h2:=nR k l A c I w hA hS
 rw[fG,if_pos h.right,h.bytes] at h2
 exact h2
theorem Kz{j:Nat}(h:j<I.length):(I.take j).map Value.string++[.string (I.getD j ByteArray.empty)]=(I.take (j+1)).map Value.string:=by
 rw[List.take_succ_eq_append_getElem h,List.map_append];simp[h]
theorem Mv{s:ByteArray}{k l:Int}(hh:Says s k l I):(((aP s 0 4:Int) != (bc (s.extract 4 s.size):Int))||(!((s.extract 5 9).toList==(s.extract 508 s.size).toList)))=false:=by
 rw[hh.size,hh.sum,hh.lsn2];simp
theorem Gq(s:ByteArray)(k l:Int)(I:List ByteArray)(w:World)(hh:Says s k l I):
  Calls P_ 44 #[.string s] w (dS k l (ae I) 0 w):=by
 have hsz:=hh.size
 have hn4:=mD s 0
 have hS:dJ I:=ef hh.right
 have hTI:aR I<=498:=by have h:=(cT hh.right).2.2.2;rw[cO,hh.plain] at h;omega
 have hI24:I.length<=24:=(cT hh.right).2.2.1.1
 go_enter func44,ntmps44
 have aj:=St.start w
 refine wq (sqr (bW #[vi 0,vi 0,sn] aj fun bw W1 ax=>?_))
 refine sqp [.k 3 (vi 0)] ?_
 refine aa (wq (wsq [.m 9 0,.k 10 (vi ((s.size:Int))),.k 11 (.bool ((s.size:Int) != 512))] ?_))
 refine aa (wbs (fun dC=>?_) fun dC=>?_)
 ·have tw:=bne_iff_ne.1 dC
  refine wsq [.k 12 (.agg #[vi 0,vi 0,sn])] ?_
  refine aT (n:=3) 0 #[vi 0,vi 0,sn] ax fun W8 dI=>?_
  refine sqp [.k 3 (vi 11)] ?_
  refine aa (wp_ret (ai ?_))
  exact bpr (.tuple #[.agg #[vi 0,vi 0,sn],vi 11]) (aL results44 (rpa (dI.blk 0 rfl) 0 3) rpt) (absurd ‹((s.size:Int) != 512)=true› (by simp[hsz]))
 have tw:=bne_eq_false_iff_eq.1 dC
 refine wp_skip (aa (wsq [.m 13 0] ?_))
 refine qe (fun cZ=>vp cZ) (fun cZ=>eB cZ 193 #[.string s,vi 0,.bool false]) ax (fun cx=>⟨_,(rS s _).mono (by rintro e W1 ⟨B4,rfl,⟨hb4,hw4⟩,hx⟩;exact⟨_,rfl,St.one hx ⟨hb4,dW _ _ _,fun k hk=>by simp[eB] at hk;subst hk;exact⟨hw4,hb4.lt⟩⟩⟩),(av (cx.ou 13))⟩) fun cZ FK fY=>?_
 refine sqp [.m 4 14] ?_
 refine aa (wsq [.m 15 4] ?_)
 refine j0 (vi ((aP s 0 4:Int))) 1 #[.string s,vi 4,.bool false] fY (fun cx=>⟨_,(dG _ s 0 4 _ ⟨(cx.bi 1 rfl),by omega,by omega⟩ (by omega) (by omega)).mono (by rintro e W1 ⟨rfl,bV,hu⟩;exact⟨rfl,hu,bV.1⟩),(aN (cx.ou 15) (cx.co _))⟩) fun uY bZ=>?_
 refine sqp [.m 5 16] ?_
 refine aa (wsq [.m 17 4] ?_)
 refine gL (vi k) (eB cZ 193 #[.string s,vi 5,.bool false]) 1 bZ (by
   refine svA fun i d W X cx=>?_
   refine ak.call (rCF (args:=#[vp cZ,vi 1]) cx.sees (aN (cx.ou 17) (cx.co _))) ?_
   refine(dG _ s 4 1 _ ⟨(cx.bi 1 rfl),by omega,by omega⟩ (by omega) (by omega)).mono ?_
   rintro e W1 ⟨rfl,bV,hu⟩
   refine⟨_,rfl,cm (cx.init 1 _ rfl) rfl rfl hu bV.1 (fun f o X' hs hb hv hx=>?_)⟩
   exact⟨(hv 18 rfl).1.trans (congrArg (Value.int .i64) hh.kind),hx⟩) fun qT dt=>?_
 refine sqp [.m 19 4] ?_
 refine gL (vi l) (eB cZ 193 #[.string s,vi 9,.bool false]) 1 dt (by
   refine svA fun i d W X cx=>?_
   refine ak.call (rCF (args:=#[vp cZ,vi 4]) cx.sees (aN (cx.ou 19) (cx.co _))) ?_
   refine(dG _ s 5 4 _ ⟨(cx.bi 1 rfl),by omega,by omega⟩ (by omega) (by omega)).mono ?_
   rintro e W1 ⟨rfl,bV,hu⟩
   refine⟨_,rfl,cm (cx.init 1 _ rfl) rfl rfl hu bV.1 (fun f o X' hs hb hv hx=>?_)⟩
   exact⟨(hv 20 rfl).1.trans (congrArg (Value.int .i64) hh.lsn),hx⟩) fun qV cU=>?_
 refine sqp [.k 21 (.agg #[vi k,vi l,sn])] ?_
 refine bW #[vi 0,vi 0,sn] cU fun fv uT eN=>?_
 refine aT (n:=3) 2 #[vi k,vi l,sn] eN fun uZ dv=>?_
 refine aa (wq (wq (bG [0,1,0,4,12,31,63,127,255,127,639,2047,4095] [] [.k 22 (vi ((aP s 0 4:Int))),tW 23 .u32 (aP s 0 4:Int) (aP s 0 4:Int) (IntWalk.u32_in _ (by omega)),.k 24 (.string s),.c 25 (.string (s.extract 4 s.size)),.c 26 (.int .u32 ((bc (s.extract 4 s.size):Int))),.k 27 (.bool ((aP s 0 4:Int) != (bc (s.extract 4 s.size):Int))),.k 28 (.bool ((aP s 0 4:Int) != (bc (s.extract 4 s.size):Int))),.z 29 (!((aP s 0 4:Int) != (bc (s.extract 4 s.size):Int))) (.string s),.y 30 (!((aP s 0 4:Int) != (bc (s.extract 4 s.size):Int))) (.string (s.extract 5 9)),.z 31 (!((aP s 0 4:Int) != (bc (s.extract 4 s.size):Int))) (.string s),.y 32 (!((aP s 0 4:Int) != (bc (s.extract 4 s.size):Int))) (.string (s.extract 508 s.size)),.y 33 (!((aP s 0 4:Int) != (bc (s.extract 4 s.size):Int))) (.bool (!((s.extract 5 9).toList==(s.extract 508 s.size).toList))),tO 34 ((aP s 0 4:Int) != (bc (s.extract 4 s.size):Int)) (!((s.extract 5 9).toList==(s.extract 508 s.size).toList))] [0,1,2] [3,4,8,10,11] [(22,0,13,35)] dv ?_ fun sE cu=>?_)))
 ·refine⟨?_,?_,?_,?_,?_,trivial⟩
  ·exact xs4 rfl id fun cx=>gM (l:=4) rfl (by kernel_rfl) (cx.an 2) (cx.co _) (by omega) (by omega)
  ·exact xsc rfl id rfl rfl fun cx=>⟨_,mR (s.extract 4 s.size) _ (by simp;omega),(av (cx.an 3))⟩
  ·exact m2 rfl (fun _ _ _ h=>h) (fun cx=>(cx.an 6)) fun cx hq=>qg (l:=5) (m:=9) rfl (by kernel_rfl) (mbv (cx.an 7) hq) (cx.co _) (cx.co _) (by have hq_:=hq;simp only[zB] at hq_;omega) (by have hq_:=hq;simp only[zB] at hq_;omega) (by have hq_:=hq;simp only[zB] at hq_;omega) (by have hq_:=hq;simp only[zB] at hq_;omega)
  ·exact m2 rfl (fun _ _ _ h=>h) (fun cx=>(cx.an 6)) fun cx hq=>gM (l:=508) rfl (by kernel_rfl) (mbv (cx.an 9) hq) (cx.co _) (by have hq_:=hq;simp only[zB] at hq_;omega) (by have hq_:=hq;simp only[zB] at hq_;omega)
  ·exact m2 rfl (fun _ _ _ h=>h) (fun cx=>(cx.an 6)) fun cx hq=>qo rfl (mbv (cx.an 8) hq) (mbv (cx.an 10) hq)
 refine aa (wbs (fun tx=>?_) fun tx=>?_)
 ·have ma:=tx
  simp only[zB] at ma
  refine wsq [.k 35 (.agg #[vi 0,vi 0,sn])] ?_
  refine aT (n:=3) 0 #[vi 0,vi 0,sn] cu fun xD fD=>?_
  refine sqp [.k 3 (vi 12)] ?_
  refine aa (wp_ret (ai ?_))
  exact bpr (.tuple #[.agg #[vi 0,vi 0,sn],vi 12]) (aL results44 (rpa (fD.blk 0 rfl) 0 3) rpt) (absurd ((Mv hh).symm.trans (by assumption)) (by decide))
 have ma:=tx
 simp only[zB] at ma
 obtain⟨MU,MV⟩:=ma
 refine wp_skip (aa (wq (wsq [.m 36 4] ?_)))
 refine gL (vi ((I.length:Int))) (eB cZ 193 #[.string s,vi 10,.bool false]) 1 cu (by
   refine svA fun i d W X cx=>?_
   refine ak.call (rCF (args:=#[vp cZ,vi 1]) cx.sees (aN (cx.ou 36) (cx.co _))) ?_
   refine(dG _ s 9 1 _ ⟨(cx.bi 1 rfl),by omega,by omega⟩ (by omega) (by omega)).mono ?_
   rintro e W1 ⟨rfl,bV,hu⟩
   refine⟨_,rfl,cm (cx.init 1 _ rfl) rfl rfl hu bV.1 (fun f o X' hs hb hv hx=>?_)⟩
   exact⟨(hv 37 rfl).1.trans (congrArg (fun n:Nat=>Value.int .i64 (n:Int)) hh.many),hx⟩) fun Jo iB=>?_
 refine sqp [.k 38 (vi 0)] ?_
 refine aa (wp_block ?_)
 have hn31:=St.nilrow iB 9
 simp only[List.cons_append,List.nil_append] at hn31
 refine aQ (fun t_ mz az W=>∃j:Nat,∃A:Option Addr,∃c:Nat,j<=I.length/\mz=I.length-j/\az=⟨(ovr (jv az) [(38,38,0,[vi ((j:Int))]),(0,39,9,[])] t_).toArray,[]⟩/\St w [] [eB bw 48 #[vi 0,vi 0,sn],eB cZ 193 #[.string s,vi (((10+aR (I.take j):Nat):Int)),.bool false],eB fv 48 #[vi k,vi l,.slice A j c],eO 9 1 (.slice A j c) j ((I.take j).map Value.string)] W) (I.length-0) ?_ ?_
 ·
  exact⟨0,none,0,by omega,rfl,(by kernel_rfl),hn31.pk [0,1,2,3]⟩
 rintro PP a32 zK ⟨j,A,c,hj,rfl,hj_,dc⟩
 refine ovz hj_ fun IF=>?_
 refine wsq [.k 39 (.bool (decide ((j:Int)<(I.length:Int))))] ?_
 refine aa (wq (wds (fun kH pD=>?_) fun kH pD=>?_))
 ·refine wp_skip (aa (wq (wp_block ?_)))
  have htj:=hh.text j (by omega)
  refine aB [0,1,0,4,12,31,63,127] [[],[2],[],[1],[],[5,3],[],[2]] [[],[],[],[4],[5],[6],[],[7]] [[],[],[],[1],[],[3],[],[2]] [.k 40 (po fv 2),.c 41 (.slice A j c),.k 42 (vp cZ),.a 43,.a 44,.a 45,.k 46 (po fv 2),.n] (fun ix f d X=>match ix with|0|1|2=>True|3=>f 43= .string ((I.getD j ByteArray.empty))/\X 4=eB cZ 193 #[.string s,vi (((10+aR (I.take (j+1)):Nat):Int)),.bool false]|4=>f 44= .slice (sA (d 44)) 1 1/\X 5=eO 9 1 (.slice (sA (d 44)) 1 1) 1 ([.string ((I.getD j ByteArray.empty))])|5=>f 45= .slice (sA (d 45)) (j+1) (sC (d 45))/\X 6=eO 9 1 (.slice (sA (d 45)) (j+1) (sC (d 45))) (j+1) ((I.take (j+1)).map Value.string)|6=>True|7=>X 7=eB fv 48 #[vi k,vi l,.slice (sA (d 45)) (j+1) (sC (d 45))]|_=>True) [0,4,5,6,7] [1,3,4,5,7] [(40,0,7,47)] dc ?_ ?_ ?_
  ·exact fun ix _ _ _ _ _ _ hs hb hx h=>match ix,h with
   |3,h=>by dsimp only;rw[<-hs 43 rfl,<-hx 4 rfl];exact h
   |4,h=>by dsimp only;rw[<-hs 44 rfl,<-hb 44 rfl,<-hx 5 rfl];exact h
   |5,h=>by dsimp only;rw[<-hs 45 rfl,<-hb 45 rfl,<-hx 6 rfl];exact h
   |7,h=>by dsimp only;rw[<-hb 45 rfl,<-hx 7 rfl];exact h
   |0,_|1,_|2,_|6,_|_+8,_=>trivial
  ·refine⟨?_,?_,?_,?_,?_,trivial⟩
   ·exact xs4 rfl id fun cx=>rL1 (cx.an 0) ((cx.bi 2 rfl).cell 2)
   ·refine svA fun i d W X cx=>?_
    refine ak.call (rCF (args:=#[vp cZ]) cx.sees (av (cx.an 2))) ?_
    refine(oA _ s (10+aR (I.take j)) _ ⟨(cx.bi 1 rfl),by omega,by omega⟩ htj.1 htj.2.1).mono ?_
    rintro e W1 ⟨rfl,bV,hu⟩
    have hb9:=bV.1
    rw[htj.2.2.2] at hb9
    refine⟨_,rfl,cm (cx.init 1 _ rfl) rfl rfl hu hb9 (fun f o X' hs hb hv hx=>?_)⟩
    exact⟨(hv 43 rfl).1.trans (congrArg Value.string htj.2.2.1),hx⟩
   ·refine svA fun i d W X cx=>?_
    have IG:i (.tmp 43)= .string ((I.getD j ByteArray.empty)):=(dTn (cx.an 3)).1
    exact dA (e:=9) (xs:=[.string ((I.getD j ByteArray.empty))]) rfl (by simp[go_sem,IG]) rfl (by decide) rfl rfl (fun _ _ _ _ _=> .intro)
   ·refine svA fun i d W X cx=>?_
    obtain⟨i0,hi0,hz0,hz1,hz2⟩:=info_parts Tryz.infoStr
    refine fj (n:=j) (m:=1) (nm:=j+1) (xs:=(I.take j).map Value.string) (news:=[.string ((I.getD j ByteArray.empty))]) (xs':=(I.take (j+1)).map Value.string) rfl (ty:=46) rfl (by kernel_rfl) hi0 hz0 hz1 hz2 rfl (cx.an 1) cx (cx.init 3 _ rfl) rfl (dTn (cx.an 4)).1 (by first|(simp;done)|(simp;omega)) (At.of_own (cx.row (dTn (cx.an 4)).2 rfl)) (by simp[Value.oneCell']) (by simp only[maxLen];omega) (by omega) rfl rfl rfl (by omega) (Kz (by omega)) (fun f o X' hs hb hv hx=>?_)
    exact⟨hv,hx⟩
   ·refine svA fun i d W X cx=>?_
    exact dVS (n:=1) rfl (cx.an 6) (dTn (cx.an 5)).1 cx (cx.init 2 _ rfl) rfl (nle rfl) rfl rfl rfl (fun f o X' hs hb hx=>by rw[hb 45];exact hx)
  intro f d X zH hD em fr aC
  simp only[exq 4 ((dTn (hD 3 lq)).2),exq 5 ((dTn (hD 4 lq)).2),exq 6 ((dTn (hD 5 lq)).2),exq 7 ((dTn (hD 7 lq)))] at em
  simp only[ed 43 ((dTn (hD 3 lq)).1),ed 44 ((dTn (hD 4 lq)).1),ed 45 ((dTn (hD 5 lq)).1)] at aC
  generalize sA (d 44)=MW,sA (d 45)=zL,sC (d 45)=zM at em aC
  clear hD;subst aC;clear f d X
  refine aq (aa (sqs [sI 47 ((j:Int)+1) (by omega),.m 38 47] ?_))
  refine aa ?_
  refine⟨I.length-((j+1)),by omega,?_⟩
  exact⟨(j+1),zL,zM,by omega,rfl,(by kernel_rfl),em.pk [0,1,4,3]⟩
 refine wp_exit (al (al (bf (aa (wq (wq ?_))))))
 obtain rfl:j=I.length:=by omega
 rw[List.take_length] at dc
 refine sqr ?_
 refine bD 2 3 dc ?_
 refine sqk (.tuple #[.string s,vi 0]) dc (fun cx=>⟨_,nq hh _ _ _ (At.of_own (cx.ri 3 rfl)) hS,(av (cx.ou 49))⟩) fun qU du=>?_
 refine sqp [.m 48 50,.k 51 (.string s),.k 52 (vi 0),.m 7 51,.m 8 52] ?_
 refine aa (wsq [.m 53 4] ?_)
 refine sqv (.bool false) du (by
   refine svA fun i d W X cx=>?_
   refine ak.call (rCF (args:=#[vp cZ]) cx.sees (av (cx.ou 53))) ?_
   refine(fC _ s (10+aR I) false _ ⟨(cx.bi 1 rfl),by omega,by omega⟩).mono ?_
   rintro e W1 ⟨rfl,rfl⟩
   refine⟨_,rfl,bK [] rfl rfl (Ext.refl _) (by simp) List.Pairwise.nil (fun f o X' hs hb hv hN=>?_)⟩
   have aH:=(hv 54 rfl).1;have aO:=(hv 54 rfl).2
   exact aH.trans rfl) fun FN gr=>?_
 refine sqp [.k 55 (.bool false)] ?_
 refine de 55 [56,57] rfl rfl ?_
 refine sqp [.m 56 8,.k 57 (.bool false)] ?_
 refine sqp [.k 58 (.bool false),.k 59 (.bool false)] ?_
 refine de 59 [60,61,62] rfl rfl ?_
 refine sqp [.m 60 7,.m 61 0,.k 62 (.bool (!(s.toList==s.toList)))] ?_
 refine sqp [.k 63 (.bool (!(s.toList==s.toList)))] ?_
 refine aa ?_
 rcases Bool.eq_false_or_eq_true (s.toList==s.toList) with IH|IH
 ·refine wp_cond_false (show Act.eval _ _= .bool false from(congrArg Value.bool (by rw[IH];rfl))) (wp_skip (aa (wsq [.k 65 (po fv 2)] ?_)))
  refine am 2 gr ?_
  refine qe (fun m4=> .slice m4 ((ae I).length) ((ae I).length)) (fun m4=>eO 9 1 (.slice m4 ((ae I).length) ((ae I).length)) ((ae I).length) ((ae I).map Value.string)) gr (fun cx=>⟨_,(li _ _ I _ (At.of_own (cx.ri 3 rfl)) (by have h_:=(hS).1;omega)).mono (by rintro e W1 ⟨rfl,ho,hx⟩;exact⟨_,rfl,St.one hx (cf ho)⟩),(av (cx.ou 66))⟩) fun m4 FO f6=>?_
  refine sqp [.k 68 (po fv 2)] ?_
  refine aT (n:=1) 2 #[vi k,vi l,.slice m4 ((ae I).length) ((ae I).length)] f6 fun BZ fw=>?_
  refine aa (wq (sqr ?_))
  refine bD 2 3 fw ?_
  refine aT (n:=3) 0 #[vi k,vi l,.slice m4 ((ae I).length) ((ae I).length)] fw fun Ro va=>?_
  refine sqp [.k 3 (vi 0)] ?_
  exact aa (wp_ret (bpr (.tuple #[.agg #[vi k,vi l,.slice m4 ((ae I).length) ((ae I).length)],vi 0]) (aL results44 (rpa (va.blk 0 rfl) 0 3) rpt) (⟨_,_,rfl,va.own' 4 rfl,va.ext⟩)))
 refine wp_cond_true (show Act.eval _ _= .bool true from(congrArg Value.bool (by rw[IH];rfl))) (wsq [.k 64 (.agg #[vi 0,vi 0,sn])] ?_)
 refine aT (n:=3) 0 #[vi 0,vi 0,sn] gr fun PQ vb=>?_
 refine sqp [.k 3 (vi 22)] ?_
 refine aa (wp_ret (ai ?_))
 exact bpr (.tuple #[.agg #[vi 0,vi 0,sn],vi 22]) (aL results44 (rpa (vb.blk 0 rfl) 0 3) rpt) (absurd ‹(s.toList==s.toList)=false› (by simp))
theorem B8(k l:Int)(ss:List ByteArray)(w:World)(hr:bu k l ss=true):Calls P_ 44 #[.string (bN k l (ae ss))] w (dS k l (ae ss) 0 w):=by
 have h:=Gq _ k l (ae ss) w (ur hr)
 rw[iu] at h
 exact h
end
section
open Go.RowKit
def eIs(b:Nat)(s:ByteArray)(p:Nat):Ent:=⟨[b],fun W=>W.heap[b]? =some (.stringIter s p)⟩
theorem BT(b:Nat)(s:ByteArray)(p:Nat):(eIs b s p).loc:=fun W W' hk h=>(hk b (by simp[eIs])).trans h
theorem Upd.setIfIn(o:Obj):Upd [b] W {W with heap:=W.heap.setIfInBounds b o}:=by
 refine⟨rfl,rfl,rfl,by simp,fun k hk hn=>?_⟩
 have:b≠k:=fun e=>hn (by simp[e])
 simp[Array.getElem?_setIfInBounds,this]
section
variable{P:Program}{ops:Array Oper}{L:List Nat}{a0:Act}{w0:World}{bor:List Nat}{X0:List Ent}{us cr kl:List (List Nat)}
 {D:Nat->(Tmp->Value)->(Tmp->Value)->(Nat->Ent)->Prop}{i:Nat}{o:Oper}{ρ:Operand->Value}{β:Tmp->Value}{W:World}{X:Nat->Ent}
theorem CtxV.holdJ{E:Ent}(cx:CtxV ops L a0 w0 bor X0 us D i ρ β W X)(hX:X q=E)(hu:(atV us i).contains q=true):E.holds W:=by
 have h:=(cx.ok q hu).holds
 rw[hX] at h;exact h
theorem Ff{t:TypeId}{d:Nat}{s:ByteArray}(h:o.op= .range t x)(hx:ρ x= .string s)(hd:o.dst=some d)(hc:atV cr i=[q'])(hkl:atV kl i=[])
  (hD:∀(c a:Tmp->Value) (X':Nat->Ent),(∀t,t≠d->c t=ρ (.tmp t))->(∀t,t≠d->a t=β t)->c d= .pointer (some ⟨pb (a d),0,none⟩)->X' q'=eIs (pb (a d)) s 0->D i c a X')
  (ht:P.underlying t=some .string:=by kernel_rfl):ak P o ρ W (bQ cr kl D i o.dst ρ β W X):=by
 refine ak.value (v:=po W.heap.size 0) (w':=W.iter s 0) (by unfold execOp;rw[h];simp[hx,run_range_string W t s ht]) ?_
 refine bK [eIs W.heap.size s 0] hkl (by rw[hc];rfl) ((Ext.refl W).alloc _) (one_new ⟨W.iter_heap s 0,BT _ _ _,fun k' hk'=>?_⟩) (List.pairwise_singleton _ _) (fun c a X' hs hb hv hN=>?_)
 ·have:k'=W.heap.size:=by simpa[eIs] using hk'
  subst this
  exact⟨Nat.le_refl _,by show W.heap.size<(W.heap.push _).size;simp⟩
 ·have aH:=(hv d hd).1;have aO:=(hv d hd).2
  rw[hc] at hN
  refine hD c a X' (fun t ht=>hs t (by rw[hd];simpa using ht.symm)) (fun t ht=>hb t (by rw[hd];simpa using ht.symm)) ?_ ?_
  ·rw[aH,aO];rfl
  ·rw[aO];exact(List.cons.inj hN).1
theorem sR{p d:Nat}{s:ByteArray}{c:Nat}(h:o.op= .next x true)(hx:ρ x=po b 0)(cx:CtxV ops L a0 w0 bor X0 us D i ρ β W X)(hX:X q=eIs b s p)(hq:(atV us i).contains q=true)(hp:p<s.size)(hcc:(s[p]'hp).toNat=c)(hc8:c<128)(hd:o.dst=some d)(hc:atV cr i=[q'])(hkl:atV kl i=[q])
  (hD:∀(a e:Tmp->Value) (X':Nat->Ent),(∀t,t≠d->a t=ρ (.tmp t))->(∀t,t≠d->e t=β t)->a d= .tuple #[.bool true,.int .i64 (p:Int),.int .i32 (c:Int)]->X' q'=eIs b s (p+1)->D i a e X'):ak P o ρ W (bQ cr kl D i o.dst ρ β W X):=by
 subst hcc
 have hok:=cx.ok q hq
 rw[hX] at hok
 have hb:W.heap[b]? =some (.stringIter s p):=hok.holds
 have hlt:b<W.heap.size:=(hok.own b (by simp[eIs])).2
 refine ak.value (v:= .tuple #[.bool true,.int .i64 (p:Int),.int .i32 ((s[p]'hp).toNat:Int)]) (w':={W with heap:=W.heap.setIfInBounds b (.stringIter s (p+1))}) ?_ ?_
 ·unfold execOp;rw[h]
  simp only[hx]
  simp only[Instr.next,getObj,setObj,Sem.run_bind,Sem.run,hb,Result.andThen,hp,if_true,decode_ascii s p hp hc8]
  simp[goInt,Sem.run,hb]
 ·refine oQ (E:=eIs b s p) (E':=eIs b s (p+1)) hX hc hkl (Upd.setIfIn _) ?_ (BT _ _ _) (fun k hk=>⟨hk,by simp[eIs] at hk;subst hk;simpa using hlt⟩) fun a e X' hs hb hv hX'=>hD a e X' (fun t ht=>hs t (by rw[hd];simpa using ht.symm)) (fun t ht=>hb t (by rw[hd];simpa using ht.symm)) (hv d hd).1 hX'
  show (W.heap.setIfInBounds b _)[b]? = _
  simp[hlt]
theorem Cb{p:Nat}{s:ByteArray}(h:o.op= .next x true)(hx:ρ x=po b 0)(hE:(eIs b s p).holds W)(hp:¬p<s.size):(execOp ρ o).run P W= .ok (.value (.tuple #[.bool false])) W:=by
 have hb:W.heap[b]? =some (.stringIter s p):=hE
 unfold execOp;rw[h]
 simp only[hx]
 simp[Instr.next,getObj,Sem.run,hb,hp]
theorem pA{t t':TypeId}{k:IntKind}{n:Int}{r:ByteArray}(h:o.op= .convert t t' x)(ht:(P.underlying t).isSome=true)(ht':P.underlying t'=some .string)(hx:ρ x= .int k n)(hr:Utf8.encode n=r):(execOp ρ o).run P W= .ok (.value (.string r)) W:=by
 subst hr
 obtain⟨d,hd⟩:=Option.isSome_iff_exists.1 ht
 unfold execOp;rw[h]
 simp[hx,convert,run_underlying hd,run_underlying ht',Conv.intToString]
end
end
end Go.Proofs.YtcdjaepgahbhfaaGreat
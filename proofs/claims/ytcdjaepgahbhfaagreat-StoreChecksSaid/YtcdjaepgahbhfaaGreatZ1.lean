import Derived.Test.YtcdjaepgahbhfaaGreatRows
import Derived.WalkKit
import Derived.WalkSpells
import Derived.WalkLawsBesides
import Derived.Lib.Hide
import Derived.Laws.CopyOwn
import Derived.Deep.DeepMust
import Derived.Deep.Draws
import Derived.Maps.AppendAt
import Derived.Deep.AppendLies
import Derived.Deep.RegionHeld3
import Derived.StillTail
import Derived.Laws.OwnMore
import Derived.Laws.Sem
set_option linter.unusedVariables false
set_option linter.unusedSimpArgs false
set_option maxRecDepth 100000
set_option maxHeartbeats 16000000
namespace Go.Proofs.YtcdjaepgahbhfaaGreat
variable{A:Option Addr}{F:Nat->Prop}{L S bor:List Nat}{P:Program}{Q:Exit->Act->World->Prop}{V:Value}{W W' w w' w0:World}{args cs cs' tmps:Array Value}{b b' dr:Bool}{base bytes dg g i id m q q' sz t:Nat}{d:Tmp}{d0:List Deferred}{fn:Func}{j:Int}{k':IntKind}{listed:Array Bool}{next:Act->World->Prop}{no yes:Prop}{o:Oper}{ops:Array Oper}{p:Addr}{parts:Array (Nat×Operand)}{post:Value->World->Prop}{t0 xs xs':List Value}{x:Operand}{ρ:Operand->Value}
section
open Go.RowKit
def Ext(w w':World):Prop:=Below w.heap.size w w'
theorem Ext.out(h:Ext w w'):Below w.heap.size w w':=h
theorem Ext.refl(w:World):Ext w w:=Below.refl _ _
theorem Ext.trans{a b c:World}(h:Ext a b)(k:Ext b c):Ext a c:=Below.trans h (Below.mono k (Below.size h))
theorem Ext.size{a b:World}(h:Ext a b):a.heap.size<=b.heap.size:=Below.size h
theorem Ext.alloc{a b:World}(h:Ext a b)(o:Obj):Ext a (b.alloc o):=Below.alloc h h.size o
theorem Ext.drew{a b:World}(h:Ext a b):Ext a b.drew:=Below.drew h
theorem Ext.drewN{a b:World}(h:Ext a b)(n:Nat):Ext a (b.drewN n):=⟨h.out.os,h.out.tape,h.out.output,h.out.size,h.out.block⟩
theorem Ext.grown{a b c:World}{row:Option Nat}(h:Ext a b)(hg:b.grownBy c row)(hr:∀k,row=some k->a.heap.size<=k):Ext a c:=Below.grown h hg h.size hr
theorem Ext.cell{a b:World}(h:Ext a b)(hp:p.block<a.heap.size):b.cell? p=a.cell? p:=h.out.cell hp
theorem Ext.block{a b:World}(h:Ext a b){k:Nat}(hk:k<a.heap.size):b.heap[k]? =a.heap[k]? :=h.out.block k hk
def At(w:World)(A:Option Addr)(xs:List Value):Prop:=
 ∀j u,xs[j]? =some u->∃ad,A=some ad/\ad.block<w.heap.size/\w.cell? (ad.add j)=some u
theorem nF(a:Addr)(n:Nat):(a.add n).block=a.block:=by unfold Addr.add;split<;>rfl
theorem pz(a:Addr)(i j:Nat):(a.add i).add j=a.add (i+j):=by
 unfold Addr.add
 by_cases hi:i=0<;>by_cases hj:j=0<;>simp[hi,hj,Nat.add_assoc]
theorem At.nil(w:World)(A:Option Addr):At w A []:=by intro j u h;simp at h
theorem At.ext(h:At w A xs)(hb:Ext w w'):At w' A xs:=fun j u hj=>
 let ⟨ad,e,hl,hc⟩:=h j u hj
 ⟨ad,e,Nat.lt_of_lt_of_le hl hb.size,(hb.cell (by rw[nF];exact hl)).trans hc⟩
theorem At.take(h:At w A xs)(n:Nat):At w A (xs.take n):=fun j u hj=>
 h j u (by rw[List.getElem?_take] at hj;split at hj;exact hj;cases hj)
theorem At.get(h:At w A xs){k:Nat}(hk:k<xs.length):
  ∃ad,A=some ad/\ad.block<w.heap.size/\w.cell? (ad.add k)=some xs[k]:=h k _ (List.getElem?_eq_getElem hk)
theorem At.at_{ad:Addr}(h:At w (some ad) xs):∀j u,xs[j]? =some u->w.cell? (ad.add j)=some u:=fun j u hj=>by
 obtain⟨a,e,_,hc⟩:=h j u hj
 injection e with e
 subst e
 exact hc
theorem At.drop(h:At w A xs)(k cap:Nat)(hc:xs.length<=cap):
  At w (if cap=k then A else A.map (·.add k)) (xs.drop k):=by
 intro j u hj
 rw[List.getElem?_drop] at hj
 obtain⟨ad,rfl,hl,hc'⟩:=h _ _ hj
 have hlt:k+j<xs.length:=by
  rcases Nat.lt_or_ge (k+j) xs.length with h1|h1
  ·exact h1
  ·rw[List.getElem?_eq_none h1] at hj;cases hj
 rw[if_neg (by omega)]
 exact⟨_,rfl,by rw[nF];exact hl,by rw[pz];exact hc'⟩
theorem At.of_own{e:TypeId}{n c:Nat}(h:w.ownsRow base e 1 (.slice A n c) m xs):At w A xs:=by
 intro j u hj
 rcases h.2 with ⟨hv,hm⟩|⟨g,cap,cur,hv,hb,hh,_⟩
 ·have:=h.1;subst hm
  have hx:xs=[]:=List.eq_nil_of_length_eq_zero (by simpa using this)
  subst hx;simp at hj
 ·have hA:A=some ⟨g,0,none⟩:=by injection hv
  subst hA
  exact⟨_,rfl,(Array.getElem?_eq_some_iff.1 hh).1,h.cells (g:=g) rfl j u hj⟩
theorem J5{e:TypeId}{v:Value}{n:Nat}(h:w.ownsRow base e 1 v n xs)(hb:Ext w w'):w'.ownsRow base e 1 v n xs:=by
 refine⟨h.1,?_⟩
 rcases h.2 with hn|⟨g,cap,cur,rfl,hbg,hgg,rest⟩
 ·exact .inl hn
 ·exact .inr ⟨g,cap,cur,rfl,hbg,by rw[hb.block (Array.getElem?_eq_some_iff.1 hgg).1];exact hgg,rest⟩
theorem Ig{e:TypeId}{n:Nat}(h:w.ownsRow base e 1 (.slice (some ⟨g,0,none⟩) n n) n xs):
  w.heap[g]? =some (.cells xs.toArray e (0,0))/\base<=g/\xs.length=n:=by
 rcases h.2 with ⟨hv,_⟩|⟨g',cap,cur,hv,hbg,hgg,_,_,hs,ht⟩
 ·cases hv
 ·injection hv with h1 h2 h3
  injection h1 with h1
  injection h1 with h1
  subst h1;subst h3
  refine⟨?_,hbg,by have:=h.1;omega⟩
  rw[hgg,<-ht]
  have:cur.toList.take (n*1)=cur.toList:=List.take_of_length_le (by simp;omega)
  rw[this]
theorem qL{e:TypeId}{n:Nat}(h:w.heap[g]? =some (.cells xs.toArray e (0,0)))(hb:base<=g)(hn:xs.length=n)(hm:n<=maxLen):
  w.ownsRow base e 1 (.slice (some ⟨g,0,none⟩) n n) n xs:=
 ⟨by omega,.inr ⟨g,n,xs.toArray,rfl,hb,h,Nat.le_refl _,hm,by simp[hn],by simp[<-hn]⟩⟩
theorem EP{e:TypeId}{v:Value}{n:Nat}(h:w.ownsRow base e 1 v n xs):∀k,v.ownBlock=some k->base<=k:=fun k hk=>(h.lt k hk).1
theorem zi{e:TypeId}{v:Value}{n:Nat}(h:w.ownsRow base e 1 v n xs):∃A c,v= .slice A n c/\(A=none->n=0):=by
 rcases h.2 with ⟨rfl,rfl⟩|⟨g,cap,cur,rfl,_⟩
 ·exact⟨_,_,rfl,fun _=>rfl⟩
 ·exact⟨_,_,rfl,fun h=>by cases h⟩
theorem zd{e:TypeId}{n:Nat}{z:Value}(h:w.ownsRow base e 1 (.slice (some ⟨g,0,none⟩) n n) n (madeCells #[z] (n*1)).toList):
  w.heap[g]? =some (.cells (List.replicate n z).toArray e (0,0)):=by
 have:=(Ig h).1
 rwa [toList_madeCells_one,Nat.mul_one] at this
theorem BJ{k:IntKind}{a b:Int}(h:a=b):Ending.returned (.int k a)= .returned (.int k b):=by rw[h]
theorem yb{a:Bool}(h:a=b):Ending.returned (.bool a)= .returned (.bool b):=by rw[h]
theorem At.get0(h:At w (some ⟨g,0,none⟩) xs){k:Nat}(hk:k<xs.length):w.cell? ⟨g,k,none⟩=some xs[k]:=by
 obtain⟨ad,e,_,hc⟩:=h.get hk
 injection e with e;subst e
 rwa [Addr.add_lit,Nat.zero_add] at hc
theorem wk(ss:List ByteArray):∀u∈ss.map Value.string,u.oneCell'=true:=by
 intro u hu
 obtain⟨s,_,rfl⟩:=List.mem_map.1 hu
 rfl
end
section
open Go.RowKit
section
variable{P:Program}(w:World)
theorem np(base:Nat)(t ty e:TypeId)(i:TypeInfo)(z:Value)(bytes:Nat)(ht:P.underlying t=some (.slice e))(hi:P.info? e=some i)(hz:i.zero=some z)
  (hsize:i.size=1) (hby:i.bytes=bytes) (hzs:z.cells.size=1) (v:Value) (n:Nat) (xs:List Value) (hown:w.ownsRow base e 1 v n xs)
  (A:Option Addr) (m c:Nat) (news:List Value) (hl:news.length=m) (hA:At w A news) (h1:∀u∈news,u.oneCell'=true)
  (h63:n+m<=maxLen) (hbytes:(n+m)*bytes<=140737488355328) (hbase:base<=w.heap.size):
  ∃v' w',(Builtin.append_ #[t,t] ty #[v,.slice A m c]).run P w= .ok v' w'/\w'.ownsRow base e 1 v' (n+m) (xs++news)/\w.grownBy w' v.ownBlock/\
   (v'.ownBlock=v.ownBlock\/v'.ownBlock=some w.heap.size):=by
 rcases A with _|ad
 ·have hn:news=[]:=by
   rcases news with _|⟨u,l⟩
   ·rfl
   ·obtain⟨ad,h,_⟩:=hA 0 u rfl
    cases h
  subst hn
  obtain rfl:m=0:=by simpa using hl.symm
  refine⟨v,w,?_,by simpa using hown,World.grownBy.refl w _,.inl rfl⟩
  rcases hown.2 with ⟨rfl,rfl⟩|⟨g,cap,cur,rfl,_,_,hnc,_⟩
  ·simp[Builtin.append_,run_underlying ht,sizeOf,typeInfo,hi,Builtin.lenOf,Builtin.firstCells]
  ·simp[Builtin.append_,run_underlying ht,sizeOf,typeInfo,hi,Builtin.lenOf,Builtin.firstCells,hnc,storeCells]
 ·obtain⟨v',w',hrun,h2,h3,_,h5⟩:=run_append_own_at (P:=P) w base t ty e i z 1 bytes ht hi hz hsize hby hzs (by omega) v n xs hown ad m c news (by omega) hA.at_ h1 h63 hbytes hbase
  exact⟨v',w',hrun,h2,h3,h5⟩
theorem wx{a:Act}{K:Act->World->Prop}(s x:Operand)(t:TypeId)
  (ho:o.op= .call {callee:= .builtin .append,args:=#[s,x],argTypes:=#[t,t]})
  (base:Nat) (e:TypeId) (i:TypeInfo) (z:Value) (bytes:Nat) (ht:P.underlying t=some (.slice e)) (hi:P.info? e=some i) (hz:i.zero=some z)
  (hsize:i.size=1) (hby:i.bytes=bytes) (hzs:z.cells.size=1) (v:Value) (n:Nat) (xs:List Value) (hs:a.eval s=v) (hown:w.ownsRow base e 1 v n xs)
  (A:Option Addr) (m c:Nat) (news:List Value) (hx:a.eval x= .slice A m c) (hl:news.length=m) (hA:At w A news) (h1:∀u∈news,u.oneCell'=true)
  (h63:n+m<=maxLen) (hbytes:(n+m)*bytes<=140737488355328) (hbase:base<=w.heap.size)
  (h:∀v' w',w'.ownsRow base e 1 v' (n+m) (xs++news)->w.grownBy w' v.ownBlock->(v'.ownBlock=v.ownBlock\/v'.ownBlock=some w.heap.size)->K (a.put o.dst v') w'):o.wp P a w K Q:=by
 obtain⟨v',w',hrun,h2,h3,h4⟩:=np (P:=P) w base t o.type e i z bytes ht hi hz hsize hby hzs v n xs hown A m c news hl hA h1 h63 hbytes hbase
 unfold Oper.wp execOp
 simp only[ho,resolve,invoke,builtin,Sem.run_bind,Sem.run_pure,Result.andThen_ok,List.map_toArray,List.map_cons,List.map_nil,hs,hx,hrun]
 exact h v' w' h2 h3 h4
theorem CR{rest:List Oper}{a:Act}(hgd:o.guard=none)(s x:Operand)(t:TypeId)
  (ho:o.op= .call {callee:= .builtin .append,args:=#[s,x],argTypes:=#[t,t]})
  (base:Nat) (e:TypeId) (i:TypeInfo) (z:Value) (bytes:Nat) (ht:P.underlying t=some (.slice e)) (hi:P.info? e=some i) (hz:i.zero=some z)
  (hsize:i.size=1) (hby:i.bytes=bytes) (hzs:z.cells.size=1) (v:Value) (n:Nat) (xs:List Value) (hs:a.eval s=v) (hown:w.ownsRow base e 1 v n xs)
  (A:Option Addr) (m c:Nat) (news:List Value) (hx:a.eval x= .slice A m c) (hl:news.length=m) (hA:At w A news) (h1:∀u∈news,u.oneCell'=true)
  (h63:n+m<=maxLen) (hbytes:(n+m)*bytes<=140737488355328) (hbase:base<=w.heap.size)
  (h:∀v' w',w'.ownsRow base e 1 v' (n+m) (xs++news)->w.grownBy w' v.ownBlock->(v'.ownBlock=v.ownBlock\/v'.ownBlock=some w.heap.size)->wpList P ops Q rest (a.put o.dst v') w'):wpList P ops Q (o::rest) a w:=
 wpList_plain hgd fun _ hK=>wx w s x t ho base e i z bytes ht hi hz hsize hby hzs v n xs hs hown A m c news hx hl hA h1 h63 hbytes hbase fun v' w' h2 h3 h4=>hK _ _ (h v' w' h2 h3 h4)
end
end
section
open Go.RowKit
theorem At.one_new(w:World)(u:Value)(t:TypeId):At (w.alloc (.cells #[u] t)) (some ⟨w.heap.size,0,none⟩) [u]:=by
 intro j x hj
 rcases j with _|j
 ·simp at hj
  subst hj
  exact⟨_,rfl,by simp,by rw[Addr.add_lit];exact World.cell?_alloc_at _ _ _ _ rfl⟩
 ·simp at hj
def Blk(w:World)(g:Nat)(t:TypeId)(cs:Array Value):Prop:=w.heap[g]? =some (.cells cs t (0,0))
theorem Blk.lt{t:TypeId}(h:Blk w g t cs):g<w.heap.size:=(Array.getElem?_eq_some_iff.1 h).1
theorem Blk.cell{t:TypeId}(h:Blk w g t cs)(i:Nat):w.cell? ⟨g,i,none⟩=cs[i]? :=cell_of_row w g i cs t (0,0) h
theorem Blk.frozen{t:TypeId}(h:Blk w g t cs)(i:Nat):w.frozen? ⟨g,i,none⟩=false:=frozen_of_row w g i cs t h
theorem Blk.new(w:World)(t:TypeId)(cs:Array Value):Blk (w.alloc (.cells cs t)) w.heap.size t cs:=heap_alloc_new w _
theorem Blk.new'{t:TypeId}(h:g=w.heap.size):Blk (w.alloc (.cells cs t)) g t cs:=by subst h;exact heap_alloc_new w _
theorem Blk.drewN{t:TypeId}(h:Blk w g t cs)(n:Nat):Blk (w.drewN n) g t cs:=h
theorem Blk.alloc{t:TypeId}(h:Blk w g t cs)(o:Obj):Blk (w.alloc o) g t cs:=(Below.heap_alloc w o g h.lt).trans h
theorem Blk.ext{t:TypeId}(h:Blk w g t cs)(hx:Ext w w'):Blk w' g t cs:=(hx.block h.lt).trans h
theorem Blk.set_{t:TypeId}(h:Blk w g t cs)(i:Nat)(u:Value):Blk (w.setCell ⟨g,i,none⟩ u) g t (cs.setIfInBounds i u):=heap_setCell_same w g i cs t u h
theorem Blk.far{t:TypeId}(h:Blk w g t cs)(hp:g≠p.block)(u:Value):Blk (w.setCell p u) g t cs:=(Below.heap_setCell w p u g hp).trans h
theorem Blk.grown{t:TypeId}{row:Option Nat}(h:Blk w g t cs)(hg:w.grownBy w' row)(hr:row≠some g):Blk w' g t cs:=(hg.block g h.lt (fun e=>hr e.symm)).trans h
theorem ot{t:TypeId}{e:TypeId}{v:Value}{n:Nat}(h:w.ownsRow base e 1 v n xs)(hb:Blk w g t cs)(hne:e≠t):v.ownBlock≠some g:=by
 rcases h.2 with ⟨rfl,_⟩|⟨g',cap,cur,rfl,_,hh,_⟩
 ·simp[Value.ownBlock]
 ·intro he
  have hgg:g'=g:=by simpa[Value.ownBlock] using he
  subst hgg
  unfold Blk at hb
  rw[hb] at hh
  injection hh with hh
  injection hh with _ ht
  exact hne ht.symm
theorem Bt{e:TypeId}{v:Value}{n:Nat}(h:w.ownsRow base e 1 v n xs)(hne:v.ownBlock≠some g)(i:Nat)(u:Value):(w.setCell ⟨g,i,none⟩ u).ownsRow base e 1 v n xs:=by
 refine⟨h.1,?_⟩
 rcases h.2 with hn|⟨g',cap,cur,rfl,hb,hh,r⟩
 ·exact .inl hn
 ·exact .inr ⟨g',cap,cur,rfl,hb,by rw[Below.heap_setCell _ _ _ _ (fun e=>hne (by simp[Value.ownBlock,e]))];exact hh,r⟩
end
section
open Go.RowKit
def bh(ops:Array Oper)(i:Nat):Option Tmp:=(ops[i]?).bind (·.dst)
def dO:List Tmp->List Value->Array Value->Array Value
 |d::ds,v::vs,t=>dO ds vs (t.setIfInBounds d v)
 |_,_,t=>t
structure Sees (ρ:Operand->Value):Prop where
 const:∀v,ρ (.const v)=v
 glob:∀g,ρ (.global g)= .pointer (some ⟨g,0,none⟩)
 func:∀f,ρ (.func f)= .func (.func f) #[] #[]
theorem Hf(a:Act):Sees a.eval:=⟨fun _=>rfl,fun _=>rfl,fun _=>rfl⟩
theorem Kb{a b:Array Value}(hs:a.size=b.size)(h:∀k,a.getD k undef=b.getD k undef):a=b:=by
 apply Array.ext hs
 intro k h1 h2
 have:=h k
 simpa[h1,h2] using this
theorem Ci(n:Nat)(f g:Nat->Bool)(i:Nat)(hi:i<n)(hf:f i=true)(hg:g i=false)(h:∀j,j≠i->g j=f j):(List.range n).countP g+1=(List.range n).countP f:=by
 induction n with
 |zero=>omega
 |succ n ih=>
  rw[List.range_succ,List.countP_append,List.countP_append]
  by_cases hin:i=n
  ·subst hin
   have e:(List.range i).countP g=(List.range i).countP f:=List.countP_congr fun j hj=>by rw[h j (by have:=List.mem_range.1 hj;omega)]
   simp[e,hf,hg]
  ·have:=ih (by omega)
   have e:=h n (fun e=>hin e.symm)
   simp only[List.countP_cons,List.countP_nil,e]
   omega
section
variable{P:Program}{ops:Array Oper}{Q:Exit->Act->World->Prop}{n:Nat}{a0:Act}{w0:World}{D:Nat->Value->World->Prop}
theorem AN(ds:List Tmp)(vs:List Value)(t:Array Value)(hl:vs.length=ds.length)(hnd:ds.Nodup)(hb:∀d∈ds,d<t.size):
  (dO ds vs t).size=t.size/\(∀k,k∉ds->(dO ds vs t).getD k undef=t.getD k undef)/\∀(i:Nat) d v,ds[i]? =some d->vs[i]? =some v->(dO ds vs t).getD d undef=v:=by
 induction ds generalizing vs t with
 |nil=>simp[dO]
 |cons d ds ih=>
  rcases vs with _|⟨v,vs⟩
  ·simp at hl
  ·have hl':vs.length=ds.length:=by simpa using hl
   have hnd':=List.nodup_cons.1 hnd
   obtain⟨h1,h2,h3⟩:=ih vs (t.setIfInBounds d v) hl' hnd'.2 (fun x hx=>by rw[Array.size_setIfInBounds];exact hb x (by simp[hx]))
   refine⟨by rw[dO,h1,Array.size_setIfInBounds],fun k hk=>?_,fun i x u hi hu=>?_⟩
   ·have hkd:d≠k:=fun e=>hk (by simp[e])
    rw[dO,h2 k (fun e=>hk (by simp[e]))]
    simp[hkd]
   ·rcases i with _|i
    ·simp at hi hu
     subst hi;subst hu
     rw[dO,h2 d hnd'.1]
     have:=hb d (by simp)
     simp[this]
    ·exact h3 i x u (by simpa using hi) (by simpa using hu)
def i5(F:Nat->Prop):Nat->Prop
 |0=>True
 |n+1=>i5 F n/\F n
theorem i5.get:∀{n:Nat},i5 F n->∀i,i<n->F i
 |0,_,i,h=>absurd h (Nat.not_lt_zero i)
 |n+1,h,i,hi=>by
  by_cases e:i=n
  ·subst e;exact h.2
  ·exact h.1.get i (by omega)
end
end
section
open Go.RowKit
def ak(P:Program)(o:Oper)(ρ:Operand->Value)(w:World)(post:Value->World->Prop):Prop:=
 match (execOp ρ o).run P w with
 | .ok (.value v) w'=>post v w'
 | .ok .skip w'=>post undef w'
 | .ok (.enter f args) w'=>Calls P f args w' fun e w''=>∃v,e= .returned v/\post v w''
 |_=>False
theorem ak.wp{a:Act}
  (h:ak P o a.eval w post) (hn:∀v w',post v w'->next (a.put o.dst v) w'):o.wp P a w next Q:=by
 unfold Oper.wp
 unfold ak at h
 split at h
 ·rename_i v w' e
  rw[e];exact hn _ _ h
 ·rename_i w' e
  rw[e];exact hn _ _ h
 ·rename_i f args w' e
  rw[e]
  exact Calls.mono h (by rintro e w'' ⟨v,rfl,hp⟩;exact hn v w'' hp)
 ·exact h.elim
theorem ak.value{v:Value}(h:(execOp ρ o).run P w= .ok (.value v) w')(hp:post v w'):ak P o ρ w post:=by
 unfold ak;rw[h];exact hp
theorem ak.skip(h:(execOp ρ o).run P w= .ok .skip w')(hp:post undef w'):ak P o ρ w post:=by
 unfold ak;rw[h];exact hp
theorem ak.call{f:FuncId}(h:(execOp ρ o).run P w= .ok (.enter f args) w')
  (hp:Calls P f args w' fun e w''=>∃v,e= .returned v/\post v w''):ak P o ρ w post:=by
 unfold ak;rw[h];exact hp
def Me(o:Oper)(M:Nat->Nat):Nat:=o.after.toList.foldl (fun m e=>if Region.binds .any e then m|||((1 <<<e.on)|||M e.on) else m) 0
def gC(ops:Array Oper)(L:List Nat):Bool:=(List.range ops.size).all fun i=>match ops[i]? with
 |some o=>decide (L.getD i 0=Me o fun k=>L.getD k 0)&&o.after.all (fun e=>!Region.binds .any e||decide (e.on<i))
 |none=>true
def ei(L:List Nat)(i j:Nat):Bool:=(L.getD i 0).testBit j
theorem ut(M:Nat->Nat)(j:Nat):∀(l:List Edge) (m:Nat),(l.foldl (fun m e=>if Region.binds .any e then m|||((1 <<<e.on)|||M e.on) else m) m).testBit j=true->
  m.testBit j=true\/∃e∈l,Region.binds .any e=true/\(e.on=j\/(M e.on).testBit j=true)
 | [],m,h=> .inl h
 |e::l,m,h=>by
  rw[List.foldl_cons] at h
  rcases ut M j l _ h with h1|⟨e',h1,h2⟩
  ·by_cases hb:Region.binds .any e=true
   ·rw[if_pos hb,Nat.testBit_or,Nat.testBit_or] at h1
    simp only[Bool.or_eq_true] at h1
    rcases h1 with h1|h1|h1
    ·exact .inl h1
    ·refine .inr ⟨e,by simp,hb,.inl ?_⟩
     rw[Nat.one_shiftLeft,Nat.testBit_two_pow] at h1
     simpa using h1
    ·exact .inr ⟨e,by simp,hb,.inr h1⟩
   ·rw[if_neg hb] at h1
    exact .inl h1
  ·exact .inr ⟨e',List.mem_cons_of_mem _ h1,h2⟩
theorem pr(h:gC ops L=true){j:Nat}{o:Oper}(ho:ops[i]? =some o)(hj:ei L i j=true):
  ∃e∈o.after,Region.binds .any e=true/\(e.on=j\/ei L e.on j=true):=by
 have h1:=List.all_eq_true.1 h i (List.mem_range.2 (Array.getElem?_eq_some_iff.1 ho).1)
 rw[ho] at h1
 simp only[Bool.and_eq_true,decide_eq_true_eq] at h1
 unfold ei at hj
 rw[h1.1] at hj
 rcases ut (fun k=>L.getD k 0) j o.after.toList 0 hj with h2|⟨e,h2,h3⟩
 ·simp at h2
 ·exact⟨e,by simpa using h2,h3⟩
theorem l0(h:gC ops L=true){o:Oper}(ho:ops[i]? =some o):∀e∈o.after,Region.binds .any e=true->e.on<i:=by
 intro e he hb
 have h1:=List.all_eq_true.1 h i (List.mem_range.2 (Array.getElem?_eq_some_iff.1 ho).1)
 rw[ho] at h1
 simp only[Bool.and_eq_true] at h1
 have:=Array.all_eq_true'.1 h1.2 e he
 simpa[hb] using this
def rT(ops:Array Oper)(listed:Array Bool):Prop:=∀j oj,ops[j]? =some oj->listed.getD j false=true->∀e∈oj.after,Region.binds .any e=true->listed.getD e.on false=true
theorem jL(h:gC ops L=true)(hs:listed.size=ops.size)(hc:rT ops listed):
  ∀(n i:Nat),i<=n->listed.getD i false=true->∀j,ei L i j=true->listed.getD j false=true:=by
 intro n
 induction n with
 |zero=>
  intro i hi hl j hj
  obtain⟨o,ho⟩:∃o,ops[i]? =some o:=⟨_,Array.getElem?_eq_getElem (by
   rcases Nat.lt_or_ge i listed.size with g|g
   ·omega
   ·simp[Array.getElem?_eq_none g] at hl)⟩
  obtain⟨e,he,hb,_⟩:=pr h ho hj
  have:=l0 h ho e he hb
  omega
 |succ n ih=>
  intro i hi hl j hj
  obtain⟨o,ho⟩:∃o,ops[i]? =some o:=⟨_,Array.getElem?_eq_getElem (by
   rcases Nat.lt_or_ge i listed.size with g|g
   ·omega
   ·simp[Array.getElem?_eq_none g] at hl)⟩
  obtain⟨e,he,hb,hor⟩:=pr h ho hj
  have hlt:=l0 h ho e he hb
  have hel:=hc i o ho hl e he hb
  rcases hor with rfl|hor
  ·exact hel
  ·exact ih e.on (by omega) hel j hor
theorem wQ(h:gC ops L=true)(hs:listed.size=ops.size)(hc:rT ops listed)(hi:i∈Region.ready .any ops listed){j:Nat}(hj:ei L i j=true):
  listed.getD j false=true:=by
 obtain⟨_,o,ho,hall⟩:=mem_ready.1 hi
 obtain⟨e,he,hb,hor⟩:=pr h ho hj
 have hel:=hall e he hb
 rcases hor with rfl|hor
 ·exact hel
 ·exact jL h hs hc e.on e.on (Nat.le_refl _) hel j hor
def fW(ops:Array Oper)(size:Nat):Bool:=(List.range ops.size).all fun i=>match bh ops i with
 |some d=>decide (d<size)&&(List.range ops.size).all (fun j=>decide (j=i)||decide (bh ops j≠some d))
 |none=>true
theorem pv{d:Nat}(h:bh ops i=some d):i<ops.size:=by
 unfold bh at h
 rcases Nat.lt_or_ge i ops.size with g|g
 ·exact g
 ·rw[Array.getElem?_eq_none g] at h;cases h
theorem jN{size d:Nat}(h:fW ops size=true)(hd:bh ops i=some d):d<size/\∀j,j≠i->bh ops j≠some d:=by
 have h1:=List.all_eq_true.1 h i (List.mem_range.2 (pv hd))
 rw[hd] at h1
 simp only[Bool.and_eq_true,decide_eq_true_eq] at h1
 refine⟨h1.1,fun j hne hj=>?_⟩
 have:=List.all_eq_true.1 h1.2 j (List.mem_range.2 (pv hj))
 simp[hne] at this
 exact this hj
def oa(ops:Array Oper)(ρ:Operand->Value)(o:Oper)(yes no:Prop):Prop:=
 match o.guard with
 |none=>yes
 |some (g,b)=>match bh ops g with
  |some d=>∃c:Bool,ρ (.tmp d)= .bool c/\((c=b->yes)/\(c≠b->no))
  |none=>False
theorem oa.none(hg:o.guard=Option.none)(h:yes):oa ops ρ o yes no:=by unfold oa;rw[hg];exact h
theorem oa.wanted{a:Act}(h:oa ops a.eval o yes no):(Region.wanted o (yielded ops a.tmps)=true->yes)/\(Region.wanted o (yielded ops a.tmps)=false->no):=by
 unfold oa at h
 unfold Region.wanted
 cases hg:o.guard with
 |none=>rw[hg] at h;exact⟨fun _=>h,fun hh=>by cases hh⟩
 |some gb=>
  obtain⟨g,b⟩:=gb
  rw[hg] at h
  simp only at h |-
  split at h
  ·rename_i d hd
   obtain⟨c,hv,h1,h2⟩:=h
   have hv':a.tmps.getD d undef= .bool c:=hv
   have hy:yielded ops a.tmps g=some c:=by
    unfold yielded
    have hd':(ops[g]?).bind (·.dst)=some d:=hd
    rw[hd']
    simp only[Option.bind_some]
    rcases Nat.lt_or_ge d a.tmps.size with hlt|hge
    ·rw[Array.getD_eq_getD_getElem?,Array.getElem?_eq_getElem hlt,Option.getD_some] at hv'
     rw[Array.getElem?_eq_getElem hlt,hv']
    ·rw[Array.getD_eq_getD_getElem?,Array.getElem?_eq_none hge] at hv'
     cases hv'
   rw[hy]
   refine⟨fun e=>h1 (by simpa using e),fun e=>h2 (by simpa using e)⟩
  ·exact h.elim
section
variable{P:Program}{ops:Array Oper}{Q:Exit->Act->World->Prop}{L:List Nat}{Z:List Nat}{J:Nat->World->Prop}{a0:Act}{D:Nat->Value->(Tmp->Value)->World->Prop}
def fK(a:Act):Tmp->Value:=fun t=>a.tmps.getD t undef
def FF(ρ:Operand->Value):Tmp->Value:=fun t=>ρ (.tmp t)
def G5(ops:Array Oper)(L:List Nat)(i t:Nat):Bool:=(List.range ops.size).all fun j=>decide (bh ops j≠some t)||decide (j=i)||ei L j i
theorem fJ(hi:i<listed.size):(listed.setIfInBounds i true).getD i false=true:=by simp[hi]
theorem Bh{a:Act}{v:Value}(dst:Option Tmp)(h:dst≠some t):(a.put dst v).tmps.getD t undef=a.tmps.getD t undef:=by
 cases dst with
 |none=>rfl
 |some d=>
  have:d≠t:=fun e=>h (by rw[e])
  simp[Act.put,this]
theorem HZ{a:Act}{v:Value}(dst:Option Tmp):(a.put dst v).tmps.size=a.tmps.size:=by cases dst<;>simp[Act.put]
theorem Cv{a:Act}{v:Value}(dst:Option Tmp):(a.put dst v).defers=a.defers:=by cases dst<;>rfl
def je(ops:Array Oper):List Nat:=(List.range ops.size).filter fun i=>(bh ops i).isSome
def ct(ops:Array Oper):List Tmp:=(je ops).map fun i=>(bh ops i).getD 0
theorem Im{k:Nat}(hk:(je ops)[k]? =some i):∃d,bh ops i=some d/\(ct ops)[k]? =some d:=by
 obtain⟨_,h2⟩:=List.mem_filter.1 (List.mem_of_getElem? hk)
 obtain⟨d,hd⟩:=Option.isSome_iff_exists.1 h2
 exact⟨d,hd,by simp[ct,hk,hd]⟩
theorem Bd{size:Nat}(hd:fW ops size=true):(ct ops).Nodup:=by
 unfold ct
 rw[List.Nodup,List.pairwise_map]
 refine List.Pairwise.imp_of_mem ?_ ((List.nodup_range (n:=ops.size)).filter _)
 intro i j hi hj hne he
 obtain⟨d,h1⟩:=Option.isSome_iff_exists.1 (List.mem_filter.1 hi).2
 obtain⟨d',h2⟩:=Option.isSome_iff_exists.1 (List.mem_filter.1 hj).2
 rw[h1,h2] at he
 exact(jN hd h2).2 i hne (by rw[h1];exact congrArg some he)
end
section
variable{P:Program}{ops:Array Oper}{Q:Exit->Act->World->Prop}{L:List Nat}{a0:Act}
end
end
section
open Go.RowKit
structure Upd (S:List Nat) (w w':World):Prop where
 os:w'.os=w.os
 tape:w'.tape=w.tape
 output:w'.output=w.output
 size:w.heap.size<=w'.heap.size
 block:∀k,k<w.heap.size->k∉S->w'.heap[k]? =w.heap[k]?
theorem Upd.refl(S:List Nat)(w:World):Upd S w w:=⟨rfl,rfl,rfl,Nat.le_refl _,fun _ _ _=>rfl⟩
theorem Upd.of_ext(h:Ext w w'):Upd S w w':=⟨h.out.os,h.out.tape,h.out.output,h.out.size,fun k hk _=>h.out.block k hk⟩
theorem Upd.trans{a b c:World}(h:Upd S a b)(k:Upd S b c):Upd S a c:=
 ⟨k.os.trans h.os,k.tape.trans h.tape,k.output.trans h.output,Nat.le_trans h.size k.size,fun i hi hn=>(k.block i (Nat.lt_of_lt_of_le hi h.size) hn).trans (h.block i hi hn)⟩
theorem Upd.ext{a b c:World}(h:Upd S a b)(k:Ext b c):Upd S a c:=h.trans (Upd.of_ext k)
theorem Upd.mono{T:List Nat}{a b:World}(h:Upd S a b)(hs:∀k,k<a.heap.size->k∈S->k∈T):Upd T a b:=⟨h.os,h.tape,h.output,h.size,fun k hk hn=>h.block k hk fun hm=>hn (hs k hk hm)⟩
theorem Upd.alloc{a b:World}(h:Upd S a b)(o:Obj):Upd S a (b.alloc o):=h.ext ((Ext.refl b).alloc o)
theorem Upd.drew{a b:World}(h:Upd S a b):Upd S a b.drew:=h.ext (Ext.refl b).drew
theorem Upd.drewN{a b:World}(h:Upd S a b)(n:Nat):Upd S a (b.drewN n):=h.ext ((Ext.refl b).drewN n)
theorem Upd.set{a b:World}(h:Upd S a b)(hp:p.block∈S\/a.heap.size<=p.block)(u:Value):Upd S a (b.setCell p u):=by
 refine⟨h.os,h.tape,h.output,by simpa[World.setCell] using h.size,fun k hk hn=>(Below.heap_setCell b p u k (fun e=>?_)).trans (h.block k hk hn)⟩
 rcases hp with hp|hp
 ·exact hn (by rw[e];exact hp)
 ·omega
theorem Upd.grown{a b c:World}{row:Option Nat}(h:Upd S a b)(hg:b.grownBy c row)(hr:∀k,row=some k->k∈S\/a.heap.size<=k):Upd S a c:=
 ⟨hg.os.trans h.os,hg.tape.trans h.tape,hg.output.trans h.output,Nat.le_trans h.size hg.size,fun k hk hn=>(hg.block k (Nat.lt_of_lt_of_le hk h.size) (fun e=>by
  rcases hr k e.symm with h1|h1
  ·exact hn h1
  ·omega)).trans (h.block k hk hn)⟩
theorem Ext.upd{S:List Nat}{a b c:World}(h:Ext a b)(k:Upd S b c)(hs:∀i∈S,a.heap.size<=i):Ext a c:=
 ⟨k.os.trans h.out.os,k.tape.trans h.out.tape,k.output.trans h.out.output,Nat.le_trans h.out.size k.size,fun i hi=>(k.block i (Nat.lt_of_lt_of_le hi h.out.size) (fun hm=>by have:=hs i hm;omega)).trans (h.out.block i hi)⟩
theorem Upd.to_ext{a b:World}(h:Upd [] a b):Ext a b:=(Ext.refl a).upd h (by simp)
theorem Blk.upd{t:TypeId}(h:Blk w g t cs)(hx:Upd S w w')(hg:g∉S):Blk w' g t cs:=(hx.block g h.lt hg).trans h
theorem AM(s x:Operand)(t:TypeId)
  (ho:o.op= .call {callee:= .builtin .append,args:=#[s,x],argTypes:=#[t,t]})
  (base:Nat) (e:TypeId) (i:TypeInfo) (z:Value) (bytes:Nat) (ht:P.underlying t=some (.slice e)) (hi:P.info? e=some i) (hz:i.zero=some z)
  (hsize:i.size=1) (hby:i.bytes=bytes) (hzs:z.cells.size=1) (v:Value) (n:Nat) (xs:List Value) (hs:ρ s=v) (hown:w.ownsRow base e 1 v n xs)
  (A:Option Addr) (m c:Nat) (news:List Value) (hx:ρ x= .slice A m c) (hl:news.length=m) (hA:At w A news) (h1:∀u∈news,u.oneCell'=true)
  (h63:n+m<=maxLen) (hbytes:(n+m)*bytes<=140737488355328) (hbase:base<=w.heap.size)
  (h:∀v' w',w'.ownsRow base e 1 v' (n+m) (xs++news)->w.grownBy w' v.ownBlock->(v'.ownBlock=v.ownBlock\/v'.ownBlock=some w.heap.size)->post v' w'):ak P o ρ w post:=by
 obtain⟨v',w',hrun,h2,h3,h4⟩:=np (P:=P) w base t o.type e i z bytes ht hi hz hsize hby hzs v n xs hown A m c news hl hA h1 h63 hbytes hbase
 have e:(execOp ρ o).run P w= .ok (.value v') w':=by
  unfold execOp
  simp only[ho,resolve,invoke,builtin,Sem.run_bind,Sem.run_pure,Result.andThen_ok,List.map_toArray,List.map_cons,List.map_nil,hs,hx,hrun]
 exact ak.value e (h v' w' h2 h3 h4)
end
section
open Go.RowKit
structure Ent where
 fp:List Nat
 holds:World->Prop
def Ent.loc(e:Ent):Prop:=∀W W':World,(∀k∈e.fp,W'.heap[k]? =W.heap[k]?)->e.holds W->e.holds W'
structure Ent.ok (w0:World) (bor:List Nat) (W:World) (e:Ent):Prop where
 holds:e.holds W
 loc:e.loc
 own:∀k∈e.fp,(k∈bor\/w0.heap.size<=k)/\k<W.heap.size
def Ent.apart(a b:Ent):Prop:=∀k∈a.fp,k∉b.fp
theorem Ent.apart.symm{a b:Ent}(h:a.apart b):b.apart a:=fun k hk ha=>h k ha hk
structure St (w0:World) (bor:List Nat) (L:List Ent) (W:World):Prop where
 upd:Upd bor w0 W
 ok:∀e∈L,e.ok w0 bor W
 apart:L.Pairwise Ent.apart
structure EffV (S:List Nat) (W W':World) (N:List Ent):Prop where
 upd:Upd S W W'
 ok:∀e∈N,e.holds W'/\e.loc/\∀k∈e.fp,(k∈S\/W.heap.size<=k)/\k<W'.heap.size
 apart:N.Pairwise Ent.apart
theorem Ent.ok.keep{e:Ent}(h:e.ok w0 bor W)(hu:Upd S W W')(hS:∀k∈e.fp,k∉S):e.ok w0 bor W':=
 ⟨h.loc W W' (fun k hk=>hu.block k (h.own k hk).2 (hS k hk)) h.holds,h.loc,fun k hk=>⟨(h.own k hk).1,Nat.lt_of_lt_of_le (h.own k hk).2 hu.size⟩⟩
theorem Upd.join{S:List Nat}{a b c:World}(h:Upd bor a b)(k:Upd S b c)(hS:∀i∈S,i∈bor\/a.heap.size<=i):Upd bor a c:=
 ⟨k.os.trans h.os,k.tape.trans h.tape,k.output.trans h.output,Nat.le_trans h.size k.size,fun i hi hn=>(k.block i (Nat.lt_of_lt_of_le hi h.size) (fun hm=>by
   rcases hS i hm with h1|h1
   ·exact hn h1
   ·omega)).trans (h.block i hi hn)⟩
def atV(l:List (List Nat))(i:Nat):List Nat:=l.getD i []
section
variable{P:Program}{ops:Array Oper}{Q:Exit->Act->World->Prop}{L:List Nat}{a0:Act}{w0:World}{bor:List Nat}{X0:List Ent}
 {us cr kl:List (List Nat)}{D:Nat->(Tmp->Value)->(Tmp->Value)->(Nat->Ent)->Prop}
def j5(m0:Nat)(cr kl:List (List Nat))(listed:Array Bool)(q:Nat):Prop:=
 (q<m0\/∃i,listed.getD i false=true/\q∈atV cr i)/\∀i,listed.getD i false=true->q∉atV kl i
def nx(ops:Array Oper)(L:List Nat)(i d:Nat):Bool:=decide (bh ops i=some d)||(List.range ops.size).any fun j=>ei L i j&&decide (bh ops j=some d)
def Jg(m0 n:Nat)(L:List Nat)(cr:List (List Nat))(i q:Nat):Bool:=decide (q<m0)||(atV cr i).contains q||(List.range n).any fun j=>ei L i j&&(atV cr j).contains q
def jh(ops:Array Oper)(m0:Nat)(L:List Nat)(cr:List (List Nat))(D:Nat->(Tmp->Value)->(Tmp->Value)->(Nat->Ent)->Prop):Prop:=
 ∀i e a f c X X',(∀d,nx ops L i d=true->e d=a d)->(∀d,nx ops L i d=true->f d=c d)->(∀q,Jg m0 ops.size L cr i q=true->X q=X' q)->D i e f X->D i a c X'
def gB(n m0:Nat)(L:List Nat)(us cr kl:List (List Nat)):Bool:=
 (List.range n).all fun i=>
  ((atV us i).all fun q=>(decide (q<m0)||(List.range n).any fun j=>ei L i j&&(atV cr j).contains q)&&
    (List.range n).all fun j=>!((atV kl j).contains q)||decide (j=i)||ei L j i)&&
  ((atV kl i).all fun q=>(atV us i).contains q)&&
  (decide (atV cr i).Nodup&&(atV cr i).all fun q=>decide (m0<=q)&&(List.range n).all fun j=>decide (j=i)||!((atV cr j).contains q))
theorem In{n m0:Nat}(h:gB n m0 L us cr kl=true)(hi:i<n)(hq:q∈atV us i):
  (q<m0\/∃j,ei L i j=true/\q∈atV cr j)/\∀j,j<n->q∈atV kl j->j=i\/ei L j i=true:=by
 have h1:=List.all_eq_true.1 h i (List.mem_range.2 hi)
 simp only[Bool.and_eq_true] at h1
 have h2:=List.all_eq_true.1 h1.1.1 q hq
 simp only[Bool.and_eq_true,Bool.or_eq_true,decide_eq_true_eq] at h2
 refine⟨h2.1.imp id fun h3=>?_,fun j hj hk=>?_⟩
 ·obtain⟨j,_,h4⟩:=List.any_eq_true.1 h3
  simp only[Bool.and_eq_true] at h4
  exact⟨j,h4.1,by simpa using h4.2⟩
 ·have h3:=List.all_eq_true.1 h2.2 j (List.mem_range.2 hj)
  simp only[Bool.or_eq_true,decide_eq_true_eq] at h3
  rcases h3 with (h3|h3)|h3
  ·rw[List.contains_iff_mem.2 hk] at h3;cases h3
  ·exact .inl h3
  ·exact .inr h3
theorem HD{n m0:Nat}(h:gB n m0 L us cr kl=true)(hi:i<n)(hq:q∈atV kl i):q∈atV us i:=by
 have h1:=List.all_eq_true.1 h i (List.mem_range.2 hi)
 simp only[Bool.and_eq_true] at h1
 simpa using List.all_eq_true.1 h1.1.2 q hq
theorem sV{n m0:Nat}(h:gB n m0 L us cr kl=true)(hi:i<n)(hq:q∈atV cr i):m0<=q/\∀j,j<n->j≠i->q∉atV cr j:=by
 have h1:=List.all_eq_true.1 h i (List.mem_range.2 hi)
 simp only[Bool.and_eq_true] at h1
 have h2:=List.all_eq_true.1 h1.2.2 q hq
 simp only[Bool.and_eq_true,decide_eq_true_eq] at h2
 refine⟨h2.1,fun j hj hne hm=>?_⟩
 have h3:=List.all_eq_true.1 h2.2 j (List.mem_range.2 hj)
 rw[List.contains_iff_mem.2 hm] at h3
 simp[hne] at h3
theorem AQ{n m0:Nat}(h:gB n m0 L us cr kl=true)(hi:i<n):(atV cr i).Nodup:=by
 have h1:=List.all_eq_true.1 h i (List.mem_range.2 hi)
 simp only[Bool.and_eq_true,decide_eq_true_eq] at h1
 exact h1.2.1
structure VInv (ops:Array Oper) (L:List Nat) (a0:Act) (w0:World) (bor:List Nat) (X0:List Ent) (cr kl:List (List Nat)) (D:Nat->(Tmp->Value)->(Tmp->Value)->(Nat->Ent)->Prop)
  (listed:Array Bool) (a:Act) (w:World):Prop where
 size:listed.size=ops.size
 closed:rT ops listed
 defers:a.defers=a0.defers
 tsize:a.tmps.size=a0.tmps.size
 out:∀t,(∀i,listed.getD i false=true->bh ops i≠some t)->a.tmps.getD t undef=a0.tmps.getD t undef
 upd:Upd bor w0 w
 held:∃X:Nat->Ent,(∀i,listed.getD i false=true->D i (fK a) (fK a) X)/\(∀q e,X0[q]? =some e->X q=e)/\(∀q,j5 X0.length cr kl listed q->(X q).ok w0 bor w)/\
  ∀q q',j5 X0.length cr kl listed q->j5 X0.length cr kl listed q'->q≠q'->(X q).apart (X q')
def cq(ops:Array Oper)(ρ:Operand->Value)(o:Oper)(yes no:Prop):Prop:=
 match o.guard with
 |none=>yes
 |some (g,b)=>match bh ops g with
  |some d=>(∃c:Bool,ρ (.tmp d)= .bool c/\((c=b->yes)/\(c≠b->no)))\/(ρ (.tmp d)=undef/\no)
  |none=>False
theorem cq.none(hg:o.guard=Option.none)(h:yes):cq ops ρ o yes no:=by unfold cq;rw[hg];exact h
theorem cq.on{d:Nat}(hg:o.guard=some (g,b))(hd:bh ops g=some d)(hv:ρ (.tmp d)= .bool b)(h:yes):cq ops ρ o yes no:=by
 unfold cq;rw[hg];simp only[hd];exact .inl ⟨b,hv,fun _=>h,fun hn=>absurd rfl hn⟩
theorem cq.off{d:Nat}{c:Bool}(hg:o.guard=some (g,b))(hd:bh ops g=some d)(hv:ρ (.tmp d)= .bool c)(hc:c≠b)(h:no):cq ops ρ o yes no:=by
 unfold cq;rw[hg];simp only[hd];exact .inl ⟨c,hv,fun hn=>absurd hn hc,fun _=>h⟩
theorem cq.un{d:Nat}(hg:o.guard=some (g,b))(hd:bh ops g=some d)(hv:ρ (.tmp d)=undef)(h:no):cq ops ρ o yes no:=by
 unfold cq;rw[hg];simp only[hd];exact .inr ⟨hv,h⟩
theorem cq.wanted{a:Act}(h:cq ops a.eval o yes no):(Region.wanted o (yielded ops a.tmps)=true->yes)/\(Region.wanted o (yielded ops a.tmps)=false->no):=by
 unfold cq at h
 cases hg:o.guard with
 |none=>rw[hg] at h;exact oa.wanted (no:=no) (oa.none hg h)
 |some gb=>
  obtain⟨g,b⟩:=gb
  rw[hg] at h
  simp only at h
  split at h
  ·rename_i d hd
   rcases h with ⟨c,hv,h1,h2⟩|⟨hv,h2⟩
   ·refine oa.wanted ?_
    unfold oa
    rw[hg]
    simp only[hd]
    exact⟨c,hv,h1,h2⟩
   ·have hv':a.tmps.getD d undef=undef:=hv
    have hy:yielded ops a.tmps g=Option.none:=by
     unfold yielded
     have hd':(ops[g]?).bind (·.dst)=some d:=hd
     rw[hd']
     simp only[Option.bind_some]
     rcases Nat.lt_or_ge d a.tmps.size with hlt|hge
     ·rw[Array.getD_eq_getD_getElem?,Array.getElem?_eq_getElem hlt,Option.getD_some] at hv'
      rw[Array.getElem?_eq_getElem hlt,hv']
      rfl
     ·rw[Array.getElem?_eq_none hge]
    have hw:Region.wanted o (yielded ops a.tmps)=false:=by
     unfold Region.wanted
     rw[hg]
     simp[hy]
    exact⟨fun e=>absurd e (by rw[hw];decide),fun _=>h2⟩
  ·exact h.elim
structure CtxV (ops:Array Oper) (L:List Nat) (a0:Act) (w0:World) (bor:List Nat) (X0:List Ent) (us:List (List Nat)) (D:Nat->(Tmp->Value)->(Tmp->Value)->(Nat->Ent)->Prop) (i:Nat)
  (ρ:Operand->Value) (β:Tmp->Value) (W:World) (X:Nat->Ent):Prop where
 sees:Sees ρ
 upd:Upd bor w0 W
 out:∀t,G5 ops L i t=true->ρ (.tmp t)=a0.tmps.getD t undef
 anc:∀j,ei L i j=true->D j (FF ρ) β X
 init:∀q e,X0[q]? =some e->X q=e
 ok:∀q,(atV us i).contains q=true->(X q).ok w0 bor W
 ap:∀q q',(atV us i).contains q=true->(atV us i).contains q'=true->q≠q'->(X q).apart (X q')
def bQ(cr kl:List (List Nat))(D:Nat->(Tmp->Value)->(Tmp->Value)->(Nat->Ent)->Prop)(i:Nat)(dst:Option Tmp)(ρ:Operand->Value)(e:Tmp->Value)(W:World)(X:Nat->Ent)(v:Value)(W':World):Prop:=
 ∃N,N.length=(atV cr i).length/\EffV ((atV kl i).flatMap fun q=>(X q).fp) W W' N/\
  ∀(c a:Tmp->Value) (X':Nat->Ent),(∀t,dst≠some t->c t=ρ (.tmp t))->(∀d,dst=some d->c d=v)->(∀t,dst≠some t->a t=e t)->(∀d,dst=some d->a d=v)->
   (∀q,q∉atV cr i->X' q=X q)->(atV cr i).map X'=N->D i c a X'
def bM(P:Program)(ops:Array Oper)(L:List Nat)(a0:Act)(w0:World)(bor:List Nat)(X0:List Ent)(us cr kl:List (List Nat))(D:Nat->(Tmp->Value)->(Tmp->Value)->(Nat->Ent)->Prop)(i:Nat):Prop:=
 ∀(ρ:Operand->Value) (e:Tmp->Value) (W:World) (X:Nat->Ent),CtxV ops L a0 w0 bor X0 us D i ρ e W X->
  match ops[i]? with
  |some o=>cq ops ρ o (ak P o ρ W (bQ cr kl D i o.dst ρ e W X))
    (atV cr i=[]/\atV kl i=[]/\∀(c a:Tmp->Value),(∀t,o.dst≠some t->c t=ρ (.tmp t))->(∀d,o.dst=some d->c d=undef)->(∀t,o.dst≠some t->a t=e t)->(∀d,o.dst=some d->a d=undef)->D i c a X)
  |none=>False
theorem GR{l:List Nat}{X:Nat->Ent}{N:List Ent}(hl:l.length=N.length)(hnd:l.Nodup):∃X':Nat->Ent,(∀q,q∉l->X' q=X q)/\l.map X'=N:=by
 induction l generalizing N with
 |nil=>
  refine⟨X,fun _ _=>rfl,?_⟩
  rcases N with _|⟨e,N⟩
  ·rfl
  ·simp at hl
 |cons x l ih=>
  rcases N with _|⟨e,N⟩
  ·simp at hl
  ·obtain⟨X',h1,h2⟩:=ih (N:=N) (by simpa using hl) (List.nodup_cons.1 hnd).2
   refine⟨fun q=>if q=x then e else X' q,fun q hq=>?_,?_⟩
   ·have hne:q≠x:=fun h=>hq (by simp[h])
    simp only[if_neg hne]
    exact h1 q fun h=>hq (by simp[h])
   ·rw[List.map_cons,if_pos rfl]
    congr 1
    rw[<-h2]
    refine List.map_congr_left fun q hq=>?_
    have hne:q≠x:=fun h=>(List.nodup_cons.1 hnd).1 (by rw[<-h];exact hq)
    simp only[if_neg hne]
theorem A8{α:Type}{R:α->α->Prop}(hs:∀a b,R a b->R b a){l:List α}(hp:l.Pairwise R){a b:α}(ha:a∈l)(hb:b∈l)(hne:a≠b):R a b:=by
 induction l with
 |nil=>cases ha
 |cons x l ih=>
  obtain⟨h1,h2⟩:=List.pairwise_cons.1 hp
  rcases List.mem_cons.1 ha with e|ha
  ·rcases List.mem_cons.1 hb with e'|hb
   ·exact absurd (e.trans e'.symm) hne
   ·rw[e];exact h1 b hb
  ·rcases List.mem_cons.1 hb with e'|hb
   ·rw[e'];exact hs _ _ (h1 a ha)
   ·exact ih h2 ha hb
theorem jF{m0:Nat}(hil:i<listed.size)(hi:listed.getD i false=false)(h:j5 m0 cr kl (listed.setIfInBounds i true) q):
  (j5 m0 cr kl listed q\/q∈atV cr i)/\q∉atV kl i:=by
 have hkeep:∀k,listed.getD k false=true->(listed.setIfInBounds i true).getD k false=true:=fun k hk=>by
  by_cases e:i=k
  ·subst e;exact fJ hil
  ·rw[getD_set_ne false e];exact hk
 refine⟨?_,h.2 i (fJ hil)⟩
 rcases h.1 with h1|⟨j,hj,hq⟩
 ·exact .inl ⟨.inl h1,fun j hj=>h.2 j (hkeep j hj)⟩
 ·by_cases e:i=j
  ·subst e;exact .inr hq
  ·rw[getD_set_ne false e] at hj
   exact .inl ⟨.inr ⟨j,hj,hq⟩,fun k hk=>h.2 k (hkeep k hk)⟩
theorem VInv.step(hL:gC ops L=true)(hd:fW ops a0.tmps.size=true)(hflow:gB ops.size X0.length L us cr kl=true)(hloc:jh ops X0.length L cr D){a:Act}
  (fh:bM P ops L a0 w0 bor X0 us cr kl D i) (inv:VInv ops L a0 w0 bor X0 cr kl D listed a w) (hi:i∈Region.ready .any ops listed){K:Act->World->Prop}
  (hK:∀a' w',VInv ops L a0 w0 bor X0 cr kl D (listed.setIfInBounds i true) a' w'->K a' w'):wpOp P ops Q i K a w:=by
 obtain⟨hiu,oi,hoi,hall⟩:=mem_ready.1 hi
 have hisz:i<ops.size:=(Array.getElem?_eq_some_iff.1 hoi).1
 have hil:i<listed.size:=by rw[inv.size];exact hisz
 have hul:=getD_both hiu
 have hdst:bh ops i=oi.dst:=by simp[bh,hoi]
 have hmono:∀k,listed.getD k false=true->(listed.setIfInBounds i true).getD k false=true:=fun k hk=>by
  by_cases h:i=k
  ·subst h;exact fJ hil
  ·rw[getD_set_ne false h];exact hk
 have hback:∀k,(listed.setIfInBounds i true).getD k false=true->k=i\/listed.getD k false=true:=fun k hk=>by
  by_cases h:i=k
  ·exact .inl h.symm
  ·rw[getD_set_ne false h] at hk;exact .inr hk
 have hlt:∀k,listed.getD k false=true->k<ops.size:=fun k hk=>by
  rcases Nat.lt_or_ge k listed.size with g|g
  ·rw[<-inv.size];exact g
  ·simp[Array.getElem?_eq_none g] at hk
 obtain⟨X,hD,hX0,hok,hap⟩:=inv.held
 have hout:∀t,G5 ops L i t=true->a.eval (.tmp t)=a0.tmps.getD t undef:=fun t ht=>inv.out t fun j hj hd'=>by
  have h1:=List.all_eq_true.1 ht j (List.mem_range.2 (pv hd'))
  simp only[Bool.or_eq_true,decide_eq_true_eq] at h1
  rcases h1 with (h1|h1)|h1
  ·exact h1 hd'
  ·subst h1;rw[hj] at hul;cases hul
  ·have:=jL hL inv.size inv.closed j j (Nat.le_refl _) hj i h1
   rw[this] at hul;cases hul
 have hus:∀q,q∈atV us i->j5 X0.length cr kl listed q:=fun q hq=>by
  obtain⟨h1,h2⟩:=In hflow hisz hq
  refine⟨h1.imp id fun⟨j,hj,hc⟩=>⟨j,wQ hL inv.size inv.closed hi hj,hc⟩,fun j hj hk=>?_⟩
  rcases h2 j (hlt j hj) hk with rfl|h3
  ·rw[hj] at hul;cases hul
  ·have:=jL hL inv.size inv.closed j j (Nat.le_refl _) hj i h3
   rw[this] at hul;cases hul
 have h:=fh a.eval (fK a) w X ⟨Hf a,inv.upd,hout,fun j hj=>hD j (wQ hL inv.size inv.closed hi hj),hX0,fun q hq=>hok q (hus q (List.contains_iff_mem.1 hq)),fun q q' hq hq' hne=>hap q q' (hus q (List.contains_iff_mem.1 hq)) (hus q' (List.contains_iff_mem.1 hq')) hne⟩
 rw[hoi] at h
 have hw:=cq.wanted h
 have hslot:∀(v:Value) (t:Tmp),oi.dst≠some t->fK (a.put oi.dst v) t=a.eval (.tmp t):=fun v t ht=>Bh _ ht
 have hslotd:∀(v:Value) (d:Tmp),oi.dst=some d->fK (a.put oi.dst v) d=v:=fun v d hd'=>by
  have hlt':=(jN hd (by rw[hdst];exact hd')).1
  rw[hd']
  have h:d<a.tmps.size:=by rw[inv.tsize];exact hlt'
  simp[fK,Act.put,h]
 have hsees:∀(v:Value) (j:Nat),listed.getD j false=true->∀d,nx ops L j d=true->fK a d=fK (a.put oi.dst v) d:=fun v j hj d hs=>by
  refine(hslot v d fun e=>?_).symm
  have h1:=(jN hd (by rw[hdst];exact e)).2
  unfold nx at hs
  simp only[Bool.or_eq_true,decide_eq_true_eq] at hs
  have hcon:∀k,listed.getD k false=true->bh ops k=some d->False:=fun k hk hkd=>by
   by_cases hki:k=i
   ·subst hki;rw[hk] at hul;cases hul
   ·exact h1 k hki hkd
  rcases hs with hs|hs
  ·exact hcon j hj hs
  ·obtain⟨k,_,hk⟩:=List.any_eq_true.1 hs
   simp only[Bool.and_eq_true,decide_eq_true_eq] at hk
   exact hcon k (jL hL inv.size inv.closed j j (Nat.le_refl _) hj k hk.1) hk.2
 have hframe:∀v,(listed.setIfInBounds i true).size=ops.size/\rT ops (listed.setIfInBounds i true)/\(a.put oi.dst v).defers=a0.defers/\(a.put oi.dst v).tmps.size=a0.tmps.size/\
   (∀t,(∀j,(listed.setIfInBounds i true).getD j false=true->bh ops j≠some t)->(a.put oi.dst v).tmps.getD t undef=a0.tmps.getD t undef):=fun v=>by
  refine⟨by simp[inv.size],fun j oj hj hl e he hb=>?_,by rw[Cv];exact inv.defers,by rw[HZ];exact inv.tsize,fun t ht=>?_⟩
  ·rcases hback j hl with rfl|hl
   ·have:oj=oi:=Option.some.inj (hj.symm.trans hoi)
    subst this
    exact hmono _ (hall e he hb)
   ·exact hmono _ (inv.closed j oj hj hl e he hb)
  ·have h1:oi.dst≠some t:=by rw[<-hdst];exact ht i (fJ hil)
   rw[Bh _ h1]
   exact inv.out t fun j hj=>ht j (hmono j hj)
 refine wpOp_step hoi fun K' hK'=>?_
 split
 ·rename_i hwt
  refine(hw.1 hwt).wp fun v w' ⟨N,hlen,he,hN⟩=>hK' _ _ (hK _ _ ?_)
  obtain⟨f1,f2,f3,f4,f5⟩:=hframe v
  obtain⟨X',hX1,hX2⟩:=GR (X:=X) hlen.symm (AQ hflow hisz)
  have hold:∀q,j5 X0.length cr kl listed q->q∉atV cr i:=fun q hq hc=>by
   have h1:=sV hflow hisz hc
   rcases hq.1 with h2|⟨j,hj,h2⟩
   ·omega
   ·refine h1.2 j (hlt j hj) (fun e=>?_) h2
    subst e;rw[hj] at hul;cases hul
  have hkl:∀q,q∈atV kl i->j5 X0.length cr kl listed q:=fun q hq=>hus q (HD hflow hisz hq)
  have hS:∀k,k∈((atV kl i).flatMap fun q=>(X q).fp)->k∈bor\/w0.heap.size<=k:=fun k hk=>by
   obtain⟨q,hq,hkq⟩:=List.mem_flatMap.1 hk
   exact((hok q (hkl q hq)).own k hkq).1
  have hfar:∀q,j5 X0.length cr kl listed q->q∉atV kl i->∀k∈(X q).fp,k∉((atV kl i).flatMap fun q=>(X q).fp):=fun q hq hn k hk hm=>by
   obtain⟨q',hq',hkq⟩:=List.mem_flatMap.1 hm
   exact hap q q' hq (hkl q' hq') (fun e=>hn (by rw[e];exact hq')) k hk hkq
  have hnew:∀q,q∈atV cr i->X' q∈N:=fun q hq=>by rw[<-hX2];exact List.mem_map_of_mem hq
  have hnw:∀q q',j5 X0.length cr kl listed q->q∉atV kl i->q'∈atV cr i->(X q).apart (X' q'):=fun q q' hq hn hq' k hk hk'=>by
   have h1:=(he.ok _ (hnew q' hq')).2.2 k hk'
   rcases h1.1 with h2|h2
   ·exact hfar q hq hn k hk h2
   ·have h3:=((hok q hq).own k hk).2
    exact absurd h2 (Nat.not_le.2 h3)
  refine⟨f1,f2,f3,f4,f5,inv.upd.join he.upd hS,X',fun j hj=>?_,fun q e hq=>?_,fun q hq=>?_,fun q q' hq hq' hne=>?_⟩
  ·rcases hback j hj with rfl|hj
   ·exact hN _ _ _ (hslot v) (hslotd v) (hslot v) (hslotd v) hX1 hX2
   ·refine hloc j _ _ _ _ X X' (hsees v j hj) (hsees v j hj) (fun q hs=>(hX1 q fun hc=>?_).symm) (hD j hj)
    have h1:=sV hflow hisz hc
    have hcon:∀k,listed.getD k false=true->q∈atV cr k->False:=fun k hk hkq=>h1.2 k (hlt k hk) (fun e=>by subst e;rw[hk] at hul;cases hul) hkq
    unfold Jg at hs
    simp only[Bool.or_eq_true,decide_eq_true_eq] at hs
    rcases hs with (hs|hs)|hs
    ·omega
    ·exact hcon j hj (by simpa using hs)
    ·obtain⟨k,_,hk⟩:=List.any_eq_true.1 hs
     simp only[Bool.and_eq_true] at hk
     exact hcon k (jL hL inv.size inv.closed j j (Nat.le_refl _) hj k hk.1) (by simpa using hk.2)
  ·rw[hX1 q fun hc=>?_]
   ·exact hX0 q e hq
   ·have h1:=(sV hflow hisz hc).1
    have h2:=(List.getElem?_eq_some_iff.1 hq).1
    omega
  ·obtain⟨h1,hn⟩:=jF hil hul hq
   rcases h1 with hl|hc
   ·rw[hX1 q (hold q hl)]
    exact(hok q hl).keep he.upd (hfar q hl hn)
   ·obtain⟨g1,g2,g3⟩:=he.ok _ (hnew q hc)
    refine⟨g1,g2,fun k hk=>⟨?_,(g3 k hk).2⟩⟩
    rcases(g3 k hk).1 with h|h
    ·exact hS k h
    ·exact .inr (Nat.le_trans inv.upd.size h)
  ·obtain⟨h1,hn⟩:=jF hil hul hq
   obtain⟨h1',hn'⟩:=jF hil hul hq'
   rcases h1 with hl|hc
   ·rw[hX1 q (hold q hl)]
    rcases h1' with hl'|hc'
    ·rw[hX1 q' (hold q' hl')];exact hap q q' hl hl' hne
    ·exact hnw q q' hl hn hc'
   ·rcases h1' with hl'|hc'
    ·rw[hX1 q' (hold q' hl')];exact(hnw q' q hl' hn' hc).symm
    ·have hp:(atV cr i).Pairwise fun q q'=>(X' q).apart (X' q'):=by
      have h:=he.apart
      rw[<-hX2,List.pairwise_map] at h
      exact h
     exact A8 (fun _ _ h=>h.symm) hp hc hc' hne
 ·rename_i hwt
  obtain⟨h1,h2,h3⟩:=hw.2 (by simpa using hwt)
  obtain⟨f1,f2,f3,f4,f5⟩:=hframe undef
  refine hK' _ _ (hK _ _ ⟨f1,f2,f3,f4,f5,inv.upd,X,fun j hj=>?_,hX0,fun q hq=>?_,fun q q' hq hq' hne=>?_⟩)
  ·rcases hback j hj with rfl|hj
   ·exact h3 _ _ (hslot undef) (hslotd undef) (hslot undef) (hslotd undef)
   ·exact hloc j _ _ _ _ X X (hsees undef j hj) (hsees undef j hj) (fun _ _=>rfl) (hD j hj)
  ·rcases(jF hil hul hq).1 with hl|hl
   ·exact hok q hl
   ·rw[h1] at hl;cases hl
  ·rcases(jF hil hul hq).1 with hl|hl
   ·rcases(jF hil hul hq').1 with hl'|hl'
    ·exact hap q q' hl hl' hne
    ·rw[h1] at hl';cases hl'
   ·rw[h1] at hl;cases hl
theorem uR(hd:fW ops a0.tmps.size=true){a:Act}(h:VInv ops L a0 w0 bor X0 cr kl D listed a w):
  a=⟨dO (ct ops) ((ct ops).map (fK a)) a0.tmps,a0.defers⟩:=by
 have hb:∀d∈ct ops,d<a0.tmps.size:=fun d hd'=>by
  obtain⟨k,hk,he⟩:=List.mem_iff_getElem.1 hd'
  have hlen:(ct ops).length=(je ops).length:=by simp[ct]
  obtain⟨d',h1,h2⟩:=Im (List.getElem?_eq_getElem (show k<(je ops).length by omega))
  rw[List.getElem?_eq_getElem hk] at h2
  have:d'=d:=(Option.some.inj h2).symm.trans he
  rw[<-this];exact(jN hd h1).1
 obtain⟨h1,h2,h3⟩:=AN (ct ops) ((ct ops).map (fK a)) a0.tmps (by simp) (Bd hd) hb
 have e:a.tmps=dO (ct ops) ((ct ops).map (fK a)) a0.tmps:=by
  refine Kb (by rw[h1,h.tsize]) fun k=>?_
  by_cases hk:k∈ct ops
  ·obtain⟨i,hi,he⟩:=List.mem_iff_getElem.1 hk
   exact(h3 i k _ (by rw[List.getElem?_eq_getElem hi,he]) (by rw[List.getElem?_map,List.getElem?_eq_getElem hi,he];rfl)).symm
  ·rw[h2 k hk]
   refine h.out k fun i _ hdi=>hk ?_
   have hm:i∈je ops:=List.mem_filter.2 ⟨List.mem_range.2 (pv hdi),by rw[hdi];rfl⟩
   have:k=(bh ops i).getD 0:=by rw[hdi];rfl
   rw[this]
   exact List.mem_map_of_mem hm
 cases a with
 |mk t df=>
  have h4:df=a0.defers:=h.defers
  subst h4
  have h5:t= _:=e
  exact congrArg (fun x=>Act.mk x a0.defers) h5
def ky(n m0:Nat)(cr kl:List (List Nat))(fin:List Nat):Bool:=
 decide fin.Nodup&&fin.all fun q=>(decide (q<m0)||(List.range n).any fun i=>(atV cr i).contains q)&&(List.range n).all fun i=>!(atV kl i).contains q
theorem tv{n m0:Nat}{fin:List Nat}(h:ky n m0 cr kl fin=true)(hs:listed.size=n)(hall:∀i,i<n->listed.getD i false=true)(hq:q∈fin):j5 m0 cr kl listed q:=by
 unfold ky at h
 rw[Bool.and_eq_true] at h
 have h1:=List.all_eq_true.1 h.2 q hq
 rw[Bool.and_eq_true,Bool.or_eq_true,decide_eq_true_eq] at h1
 refine⟨h1.1.imp id fun h2=>?_,fun i hi hk=>?_⟩
 ·obtain⟨i,hi,h3⟩:=List.any_eq_true.1 h2
  exact⟨i,hall i (List.mem_range.1 hi),List.contains_iff_mem.1 h3⟩
 ·have hlt:i<n:=by
   rcases Nat.lt_or_ge i listed.size with g|g
   ·rw[<-hs];exact g
   ·simp[Array.getElem?_eq_none g] at hi
  have h2:=List.all_eq_true.1 h1.2 i (List.mem_range.2 hlt)
  rw[List.contains_iff_mem.2 hk] at h2
  cases h2
theorem zu{fin:List Nat}(hd:fW ops a0.tmps.size=true)(hfin:ky ops.size X0.length cr kl fin=true)
  (hrest:∀(c f:Tmp->Value) (X:Nat->Ent) (w':World),(∀i,i<ops.size->D i c f X)->(∀q e,X0[q]? =some e->X q=e)->St w0 bor (fin.map X) w'->Q .normal ⟨dO (ct ops) ((ct ops).map c) a0.tmps,a0.defers⟩ w')
   {a:Act}(hall:∀i,i<ops.size->listed.getD i false=true) (inv:VInv ops L a0 w0 bor X0 cr kl D listed a w):Q .normal a w:=by
 obtain⟨X,hD,hX0,hok,hap⟩:=inv.held
 have h:=hrest (fK a) (fK a) X w (fun i hi=>hD i (hall i hi)) hX0 ⟨inv.upd,fun e he=>?_,?_⟩
 ·rw[uR hd inv]
  rw[<-uR hd inv] at h |-
  exact h
 ·obtain⟨q,hq,rfl⟩:=List.mem_map.1 he
  exact hok q (tv hfin inv.size hall hq)
 ·rw[List.pairwise_map]
  have hn:fin.Nodup:=by
   unfold ky at hfin
   rw[Bool.and_eq_true,decide_eq_true_eq] at hfin
   exact hfin.1
  exact List.Pairwise.imp_of_mem (fun ha hb hne=>hap _ _ (tv hfin inv.size hall ha) (tv hfin inv.size hall hb) hne) hn
theorem lW(bb:St w0 bor X0 w):VInv ops L a0 w0 bor X0 cr kl D (Array.replicate ops.size false) a0 w:=by
 refine⟨by simp,fun j oj _ hl=>absurd hl (by rw[getD_replicate_false];simp),rfl,rfl,fun _ _=>rfl,bb.upd,fun q=>(X0[q]?).getD ⟨[],fun _=>False⟩,fun i hl=>absurd hl (by rw[getD_replicate_false];simp),fun q e he=>by simp[he],fun q hq=>?_,fun q q' hq hq' hne=>?_⟩
 ·rcases hq.1 with h|⟨i,hi,_⟩
  ·simp only[List.getElem?_eq_getElem h,Option.getD_some]
   exact bb.ok _ (List.getElem_mem h)
  ·rw[getD_replicate_false] at hi;cases hi
 ·rcases hq.1 with h|⟨i,hi,_⟩
  ·rcases hq'.1 with h'|⟨i,hi,_⟩
   ·simp only[List.getElem?_eq_getElem h,List.getElem?_eq_getElem h',Option.getD_some]
    rcases Nat.lt_or_gt_of_ne hne with hlt|hgt
    ·exact List.pairwise_iff_getElem.1 bb.apart q q' h h' hlt
    ·exact(List.pairwise_iff_getElem.1 bb.apart q' q h' h hgt).symm
   ·rw[getD_replicate_false] at hi;cases hi
  ·rw[getD_replicate_false] at hi;cases hi
theorem BQ(hL:gC ops L=true)(hd:fW ops a0.tmps.size=true)(hflow:gB ops.size X0.length L us cr kl=true)(hloc:jh ops X0.length L cr D)
  (fh:∀i,i<ops.size->bM P ops L a0 w0 bor X0 us cr kl D i)
  (hrest:∀(a:Act) (w:World) (listed:Array Bool),(∀i,i<ops.size->listed.getD i false=true)->VInv ops L a0 w0 bor X0 cr kl D listed a w->Q .normal a w):
  ∀(m:Nat) (listed:Array Bool) (a:Act) (w:World),(List.range ops.size).countP (fun i=>!listed.getD i false)=m->VInv ops L a0 w0 bor X0 cr kl D listed a w->wpAny P .any ops Q m listed a w:=by
 intro m
 induction m with
 |zero=>
  intro listed a w hcnt inv
  have hall:∀i,i<ops.size->listed.getD i false=true:=fun i hi=>by
   have:=List.countP_eq_zero.1 hcnt i (List.mem_range.2 hi)
   simpa using this
  refine⟨?_,hrest a w listed hall inv⟩
  cases hr:Region.ready .any ops listed with
  |nil=>rfl
  |cons x xs=>
   have hx:x∈Region.ready .any ops listed:=by rw[hr];simp
   obtain⟨h1,o,ho,_⟩:=mem_ready.1 hx
   have:=hall x (Array.getElem?_eq_some_iff.1 ho).1
   rw[getD_both h1] at this
   cases this
 |succ m ih=>
  intro listed a w hcnt inv
  have hun:∀i,i<ops.size->listed.getD i false=false->listed.getD i true=false:=fun i hi h=>getD_in (by rw[inv.size];exact hi) h
  refine⟨fun h0=>?_,fun i hi=>?_⟩
  ·exfalso
   have hex:∃i,i<ops.size/\listed.getD i false=false:=by
    have:0<(List.range ops.size).countP (fun i=>!listed.getD i false):=by omega
    obtain⟨i,hi,hu⟩:=List.countP_pos_iff.1 this
    exact⟨i,List.mem_range.1 hi,by simpa using hu⟩
   have hleast:∀k,∀i,i<ops.size->listed.getD i false=false->i<=k->∃j,j∈Region.ready .any ops listed:=by
    intro k
    induction k using Nat.strongRecOn with
    |_ k ihk=>
     intro i hi hu hik
     by_cases hlow:∃j,j<i/\listed.getD j false=false
     ·obtain⟨j,hj,hju⟩:=hlow
      exact ihk j (by omega) j (by omega) hju (Nat.le_refl _)
     ·obtain⟨o,ho⟩:∃o,ops[i]? =some o:=⟨_,Array.getElem?_eq_getElem hi⟩
      refine⟨i,mem_ready.2 ⟨hun i hi hu,o,ho,fun e he hb=>?_⟩⟩
      have hlt:=l0 hL ho e he hb
      cases hv:listed.getD e.on false with
      |true=>rfl
      |false=>exact(hlow ⟨e.on,hlt,hv⟩).elim
   obtain⟨i,hi,hu⟩:=hex
   obtain⟨j,hj⟩:=hleast i i hi hu (Nat.le_refl _)
   rw[h0] at hj
   cases hj
  ·obtain⟨hiu,o,ho,hall⟩:=mem_ready.1 hi
   have hisz:i<ops.size:=(Array.getElem?_eq_some_iff.1 ho).1
   have hil:i<listed.size:=by rw[inv.size];exact hisz
   have hul:=getD_both hiu
   have hcnt':(List.range ops.size).countP (fun j=>!(listed.setIfInBounds i true).getD j false)=m:=by
    have hc':=Ci ops.size (fun j=>!listed.getD j false) (fun j=>!(listed.setIfInBounds i true).getD j false) i hisz (by show (!listed.getD i false)=true;rw[hul];rfl)
     (by show (!(listed.setIfInBounds i true).getD i false)=false;rw[fJ hil];rfl)
     (fun j hj=>by show (!(listed.setIfInBounds i true).getD j false)=(!listed.getD j false);rw[getD_set_ne false (fun e=>hj e.symm)])
    omega
   exact inv.step hL hd hflow hloc (fh i hisz) hi fun a' w' h=>ih _ a' w' hcnt' h
theorem Bp(hL:gC ops L=true)(hd:fW ops a0.tmps.size=true)(hflow:gB ops.size X0.length L us cr kl=true)(hloc:jh ops X0.length L cr D)
  (fh:∀i,i<ops.size->bM P ops L a0 w0 bor X0 us cr kl D i)
  (hrest:∀(a:Act) (w:World) (listed:Array Bool),(∀i,i<ops.size->listed.getD i false=true)->VInv ops L a0 w0 bor X0 cr kl D listed a w->Q .normal a w):
  ∀(m k:Nat) (listed:Array Bool) (a:Act) (w:World),k+m=ops.size->(∀j,listed.getD j false=true<->j<k)->VInv ops L a0 w0 bor X0 cr kl D listed a w->wpOps P ops Q (List.range' k m) a w:=by
 intro m
 induction m with
 |zero=>
  intro k listed a w hk hl inv
  exact hrest a w listed (fun i hi=>(hl i).2 (by omega)) inv
 |succ m ih=>
  intro k listed a w hk hl inv
  rw[List.range'_succ,wpOps_cons]
  have hks:k<ops.size:=by omega
  have hkl:k<listed.size:=by rw[inv.size];exact hks
  obtain⟨o,ho⟩:∃o,ops[k]? =some o:=⟨_,Array.getElem?_eq_getElem hks⟩
  have hul:listed.getD k false=false:=by
   cases h:listed.getD k false with
   |false=>rfl
   |true=>have:=(hl k).1 h;omega
  refine inv.step hL hd hflow hloc (fh k hks) (mem_ready.2 ⟨getD_in hkl hul,o,ho,fun e he hb=>(hl e.on).2 (l0 hL ho e he hb)⟩) fun a' w' h=>?_
  refine ih (k+1) _ a' w' (by omega) (fun j=>?_) h
  by_cases e:k=j
  ·subst e
   exact⟨fun _=>by omega,fun _=>fJ hkl⟩
  ·rw[getD_set_ne false e,hl j]
   omega
theorem St.drew{X:List Ent}(h:St w0 bor X w):St w0 bor X w.drew:=
 ⟨h.upd.drew,fun e he=>(h.ok e he).keep (Upd.refl [] w).drew (fun _ _=>by simp),h.apart⟩
theorem A7(hm:P.follows .mixedOrders=true)(L:List Nat)(us cr kl:List (List Nat))(D:Nat->(Tmp->Value)->(Tmp->Value)->(Nat->Ent)->Prop)(fin:List Nat)
  (hL:gC ops L=true) (hd:fW ops a0.tmps.size=true) (hflow:gB ops.size X0.length L us cr kl=true) (hfin:ky ops.size X0.length cr kl fin=true)
  (hloc:jh ops X0.length L cr D) (bb:St w0 bor X0 w) (fh:i5 (bM P ops L a0 w0 bor X0 us cr kl D) ops.size)
  (hrest:∀(c f:Tmp->Value) (X:Nat->Ent) (w':World),(∀i,i<ops.size->D i c f X)->(∀q e,X0[q]? =some e->X q=e)->St w0 bor (fin.map X) w'->
   ∀fr,fr=dO (ct ops) ((ct ops).map c) a0.tmps->Q .normal ⟨fr,a0.defers⟩ w'):(Code.region id ops dr).wp P Q a0 w:=by
 have hs:∀i,i<ops.size->bM P ops L a0 w0 bor X0 us cr kl D i:=fun i hi=>fh.get i hi
 have hr:∀(a:Act) (w:World) (listed:Array Bool),(∀i,i<ops.size->listed.getD i false=true)->VInv ops L a0 w0 bor X0 cr kl D listed a w->Q .normal a w:=fun a w listed hall inv=>zu hd hfin (fun c f X w' h1 h2 h3=>hrest c f X w' h1 h2 h3 _ rfl) hall inv
 cases dr with
 |true=>
  refine wp_region_any hm (BQ hL hd hflow hloc hs hr ops.size (Array.replicate ops.size false) a0 w.drew ?_ (lW bb.drew))
  rw[List.countP_eq_length.2]
  ·simp
  ·intro i _
   rw[getD_replicate_false]
   rfl
 |false=>
  refine wp_region ?_
  rw[List.range_eq_range']
  exact Bp hL hd hflow hloc hs hr ops.size 0 (Array.replicate ops.size false) a0 w (by omega) (fun j=>by rw[getD_replicate_false];simp) (lW bb)
theorem nO{t0:Array Value}(hm:P.follows .mixedOrders=true)(L:List Nat)(us cr kl:List (List Nat))(D:Nat->(Tmp->Value)->(Tmp->Value)->(Nat->Ent)->Prop)(fin:List Nat)
  (hL:gC ops L=true) (hd:fW ops t0.size=true) (hflow:gB ops.size X0.length L us cr kl=true) (hfin:ky ops.size X0.length cr kl fin=true)
  (hloc:jh ops X0.length L cr D) (bb:St w0 bor X0 w) (fh:i5 (bM P ops L ⟨t0,d0⟩ w0 bor X0 us cr kl D) ops.size)
  (hrest:∀(a c:Tmp->Value) (X:Nat->Ent) (w':World),(∀i,i<ops.size->D i a c X)->(∀q e,X0[q]? =some e->X q=e)->St w0 bor (fin.map X) w'->
   ∀fr,fr=dO (ct ops) ((ct ops).map a) t0->Q .normal ⟨fr,d0⟩ w'):(Code.region id ops dr).wp P Q ⟨t0,d0⟩ w:=
 A7 (a0:=⟨t0,d0⟩) hm L us cr kl D fin hL hd hflow hfin hloc bb fh hrest
end
end
section
open Go.RowKit
def pb:Value->Nat
 | .pointer (some a)=>a.block
 |_=>0
def sA:Value->Option Addr
 | .slice A _ _=>A
 |_=>none
def sC:Value->Nat
 | .slice _ _ c=>c
 |_=>0
def tg(v:Value)(i:Nat):Value:=match v with
 | .tuple vs=>vs.getD i undef
 | .agg vs=>vs.getD i undef
 |_=>undef
def eB(b:Nat)(t:TypeId)(cs:Array Value):Ent:=⟨[b],fun W=>Blk W b t cs⟩
theorem dW(b:Nat)(t:TypeId)(cs:Array Value):(eB b t cs).loc:=fun W W' h hb=>(h b (by simp[eB])).trans hb
def eO(e:TypeId)(sz:Nat)(v:Value)(n:Nat)(xs:List Value):Ent:=⟨v.ownBlock.toList,fun W=>W.ownsRow 0 e sz v n xs⟩
theorem gg(e:TypeId)(sz:Nat)(v:Value)(n:Nat)(xs:List Value):(eO e sz v n xs).loc:=fun W W' hk h=>by
 refine⟨h.1,?_⟩
 rcases h.2 with hn|⟨g,cap,cur,rfl,hbg,hgg,rest⟩
 ·exact .inl hn
 ·exact .inr ⟨g,cap,cur,rfl,hbg,by rw[hk g (by simp[eO,Value.ownBlock])];exact hgg,rest⟩
theorem St.start(w:World):St w [] [] w:=⟨Upd.refl _ _,by simp,List.Pairwise.nil⟩
theorem St.ext{L:List Ent}(h:St w0 [] L W):Ext w0 W:=h.upd.to_ext
theorem St.get{L:List Ent}(h:St w0 bor L W)(i:Nat){e:Ent}(hi:L[i]? =some e):e.ok w0 bor W:=h.ok e (List.mem_of_getElem? hi)
theorem St.blk{L:List Ent}(h:St w0 bor L W)(i:Nat){b:Nat}{t:TypeId}(hi:L[i]? =some (eB b t cs)):Blk W b t cs:=(h.get i hi).holds
theorem St.own{L:List Ent}(h:St w0 bor L W)(i:Nat){e n:Nat}{v:Value}(hi:L[i]? =some (eO e sz v n xs)):W.ownsRow w0.heap.size e sz v n xs\/∃k,v.ownBlock=some k/\k∈bor:=by
 have hk:=h.get i hi
 have ho:W.ownsRow 0 e sz v n xs:=hk.holds
 rcases ho.2 with hn|⟨g,cap,cur,rfl,hbg,hgg,rest⟩
 ·exact .inl ⟨ho.1,.inl hn⟩
 ·rcases(hk.own g (by simp[eO,Value.ownBlock])).1 with h1|h1
  ·exact .inr ⟨g,rfl,h1⟩
  ·exact .inl ⟨ho.1,.inr ⟨g,cap,cur,rfl,h1,hgg,rest⟩⟩
theorem St.own'{L:List Ent}(h:St w0 [] L W)(i:Nat){e n:Nat}{v:Value}(hi:L[i]? =some (eO e sz v n xs)):W.ownsRow w0.heap.size e sz v n xs:=by
 rcases h.own i hi with h|⟨k,_,hk⟩
 ·exact h
 ·cases hk
theorem St.nilrow{L:List Ent}(h:St w0 bor L W)(e:TypeId):St w0 bor (L++[eO e 1 (.slice none 0 0) 0 []]) W:=by
 refine⟨h.upd,fun x hx=>?_,?_⟩
 ·rcases List.mem_append.1 hx with hx|hx
  ·exact h.ok x hx
  ·rw[List.mem_singleton] at hx
   subst hx
   exact⟨World.ownsRow_nil _ _ _ _,gg _ _ _ _ _,fun k hk=>by cases hk⟩
 ·rw[List.pairwise_append]
  refine⟨h.apart,List.pairwise_singleton _ _,fun a _ b hb=>?_⟩
  rw[List.mem_singleton] at hb
  subst hb
  exact fun k _ hk=>by cases hk
theorem St.pick{L:List Ent}(h:St w0 bor L W)(l:List Nat)(hn:l.Nodup)(hlb:(l.all fun i=>Nat.blt i L.length)=true):St w0 bor (l.map fun i=>L.getD i ⟨[],fun _=>True⟩) W:=by
 have hl:∀i∈l,i<L.length:=fun i hi=>by
  have h1:=List.all_eq_true.1 hlb i hi
  simpa using h1
 refine⟨h.upd,fun e he=>?_,?_⟩
 ·obtain⟨i,hi,rfl⟩:=List.mem_map.1 he
  rw[List.getD_eq_getElem?_getD,List.getElem?_eq_getElem (hl i hi),Option.getD_some]
  exact h.ok _ (List.getElem_mem _)
 ·rw[List.pairwise_map]
  refine List.Pairwise.imp_of_mem (fun {a b} ha hb hne=>?_) hn
  rw[List.getD_eq_getElem?_getD,List.getD_eq_getElem?_getD,List.getElem?_eq_getElem (hl a ha),List.getElem?_eq_getElem (hl b hb),Option.getD_some,Option.getD_some]
  rcases Nat.lt_or_gt_of_ne hne with hlt|hgt
  ·exact List.pairwise_iff_getElem.1 h.apart a b _ _ hlt
  ·exact(List.pairwise_iff_getElem.1 h.apart b a _ _ hgt).symm
theorem St.pk{L L':List Ent}(h:St w0 bor L W)(l:List Nat)(hL:(l.map fun i=>L.getD i ⟨[],fun _=>True⟩)=L':=by rfl)(hn:l.Nodup:=by decide)(hl:(l.all fun i=>Nat.blt i L.length)=true:=by rfl):St w0 bor L' W:=hL ▸ h.pick l hn hl
section
variable{P:Program}{ops:Array Oper}{L:List Nat}{a0:Act}{w0:World}{bor:List Nat}{X0:List Ent}{us cr kl:List (List Nat)}
 {D:Nat->(Tmp->Value)->(Tmp->Value)->(Nat->Ent)->Prop}{i:Nat}{o:Oper}{ρ:Operand->Value}{β:Tmp->Value}{W:World}{X:Nat->Ent}
theorem sv(ho:ops[i]? =some o)(hg:o.guard=none)(hd:o.dst=some d)(hc:atV cr i=[])(hk:atV kl i=[])(V:(Tmp->Value)->Value)
  (hD:∀f β X,f d=V β->D i f β X) (hV:∀β e:Tmp->Value,(∀t,t≠d->e t=β t)->V β=V e)
  (h:∀ρ β W X,CtxV ops L a0 w0 bor X0 us D i ρ β W X->(execOp ρ o).run P W= .ok (.value (V β)) W):bM P ops L a0 w0 bor X0 us cr kl D i:=by
 intro ρ β W X c
 rw[ho]
 refine cq.none hg (ak.value (h ρ β W X c) ⟨[],by rw[hc];rfl,⟨Upd.refl _ _,by simp,List.Pairwise.nil⟩,fun f e X' hs hv hb hbv hx hN=>hD f e X' ?_⟩)
 rw[hv d hd]
 exact hV β e fun t ht=>hb t (by rw[hd];simpa using ht.symm)
theorem OL(ho:ops[i]? =some o)(hg:o.guard=some (g,b))(hdg:bh ops g=some dg)(hd:o.dst=some d)(hc:atV cr i=[])(hk:atV kl i=[])(V:(Tmp->Value)->Value)
  (hD:∀f β X,f d=V β->D i f β X) (hV:∀β e:Tmp->Value,(∀t,t≠d->e t=β t)->V β=V e)
  (hgv:∀ρ β W X,CtxV ops L a0 w0 bor X0 us D i ρ β W X->ρ (.tmp dg)= .bool b)
  (h:∀ρ β W X,CtxV ops L a0 w0 bor X0 us D i ρ β W X->(execOp ρ o).run P W= .ok (.value (V β)) W):bM P ops L a0 w0 bor X0 us cr kl D i:=by
 intro ρ β W X c
 rw[ho]
 refine cq.on hg hdg (hgv ρ β W X c) (ak.value (h ρ β W X c) ⟨[],by rw[hc];rfl,⟨Upd.refl _ _,by simp,List.Pairwise.nil⟩,fun f e X' hs hv hb hbv hx hN=>hD f e X' ?_⟩)
 rw[hv d hd]
 exact hV β e fun t ht=>hb t (by rw[hd];simpa using ht.symm)
theorem Mp(ho:ops[i]? =some o)(hg:o.guard=some (g,b))(hdg:bh ops g=some dg)(hne:b'≠b)(hc:atV cr i=[])(hk:atV kl i=[])
  (hD:∀e β X,(∀d,o.dst=some d->e d=undef)->D i e β X)
  (hgv:∀ρ β W X,CtxV ops L a0 w0 bor X0 us D i ρ β W X->ρ (.tmp dg)= .bool b'):bM P ops L a0 w0 bor X0 us cr kl D i:=by
 intro ρ β W X c
 rw[ho]
 exact cq.off hg hdg (hgv ρ β W X c) hne ⟨hc,hk,fun e f hs hv hb hbv=>hD e f X hv⟩
theorem Oz(ho:ops[i]? =some o)(hg:o.guard=some (g,b))(hdg:bh ops g=some dg)(hc:atV cr i=[])(hk:atV kl i=[])
  (hD:∀e β X,(∀d,o.dst=some d->e d=undef)->D i e β X)
  (hgv:∀ρ β W X,CtxV ops L a0 w0 bor X0 us D i ρ β W X->ρ (.tmp dg)=undef):bM P ops L a0 w0 bor X0 us cr kl D i:=by
 intro ρ β W X c
 rw[ho]
 exact cq.un hg hdg (hgv ρ β W X c) ⟨hc,hk,fun e f hs hv hb hbv=>hD e f X hv⟩
theorem zw(ho:ops[i]? =some o)(hg:o.guard=none)(h:∀ρ β W X,CtxV ops L a0 w0 bor X0 us D i ρ β W X->ak P o ρ W (bQ cr kl D i o.dst ρ β W X)):bM P ops L a0 w0 bor X0 us cr kl D i:=by
 intro ρ β W X c
 rw[ho]
 exact cq.none hg (h ρ β W X c)
theorem svA(h:∀ρ β W X,CtxV ops L a0 w0 bor X0 us D i ρ β W X->ak P o ρ W (bQ cr kl D i o.dst ρ β W X))(ho:ops[i]? =some o:=by rfl)(hg:o.guard=none:=by rfl):bM P ops L a0 w0 bor X0 us cr kl D i:=zw ho hg h
theorem Eu(ho:ops[i]? =some o)(hg:o.guard=some (g,b))(hdg:bh ops g=some dg)
  (hgv:∀ρ β W X,CtxV ops L a0 w0 bor X0 us D i ρ β W X->ρ (.tmp dg)= .bool b)
  (h:∀ρ β W X,CtxV ops L a0 w0 bor X0 us D i ρ β W X->ak P o ρ W (bQ cr kl D i o.dst ρ β W X)):bM P ops L a0 w0 bor X0 us cr kl D i:=by
 intro ρ β W X c
 rw[ho]
 exact cq.on hg hdg (hgv ρ β W X c) (h ρ β W X c)
theorem sv0(ho:ops[i]? =some o)(hg:o.guard=none)(hd:o.dst=some d)(hc:atV cr i=[])(hk:atV kl i=[])
  (hD:∀c β X,c d=V->D i c β X) (h:∀ρ β W X,CtxV ops L a0 w0 bor X0 us D i ρ β W X->(execOp ρ o).run P W= .ok (.value V) W):bM P ops L a0 w0 bor X0 us cr kl D i:=
 sv ho hg hd hc hk (fun _=>V) hD (fun _ _ _=>rfl) h
theorem EZ(ho:ops[i]? =some o)(hg:o.guard=some (g,b))(hdg:bh ops g=some dg)(hd:o.dst=some d)(hc:atV cr i=[])(hk:atV kl i=[])
  (hD:∀c β X,c d=V->D i c β X) (hgv:∀ρ β W X,CtxV ops L a0 w0 bor X0 us D i ρ β W X->ρ (.tmp dg)= .bool b)
  (h:∀ρ β W X,CtxV ops L a0 w0 bor X0 us D i ρ β W X->(execOp ρ o).run P W= .ok (.value V) W):bM P ops L a0 w0 bor X0 us cr kl D i:=
 OL ho hg hdg hd hc hk (fun _=>V) hD (fun _ _ _=>rfl) hgv h
theorem CtxV.blk{b:Nat}(cx:CtxV ops L a0 w0 bor X0 us D i ρ β W X)(hX:X q=eB b t cs)(hu:(atV us i).contains q=true):Blk W b t cs:=by
 have h:=(cx.ok q hu).holds
 rw[hX] at h;exact h
theorem CtxV.row{e n:Nat}{v:Value}(cx:CtxV ops L a0 w0 bor X0 us D i ρ β W X)(hX:X q=eO e sz v n xs)(hu:(atV us i).contains q=true):W.ownsRow 0 e sz v n xs:=by
 have h:=(cx.ok q hu).holds
 rw[hX] at h;exact h
theorem jc:(#[]:Array Operand).map ρ=#[]:=by simp
theorem av{v:Value}(h:ρ x=v):#[x].map ρ=#[v]:=by simp[h]
theorem aN{y:Operand}{v u:Value}(h:ρ x=v)(h2:ρ y=u):#[x,y].map ρ=#[v,u]:=by simp[h,h2]
theorem dH{y z:Operand}{v u t:Value}(h:ρ x=v)(h2:ρ y=u)(h3:ρ z=t):#[x,y,z].map ρ=#[v,u,t]:=by simp[h,h2,h3]
theorem cM{v:Value}(h:o.op= .move x)(hx:ρ x=v):(execOp ρ o).run P W= .ok (.value v) W:=by unfold execOp;rw[h];simp only[hx];rfl
theorem cS{v:Value}(h:o.op= .assign x)(hx:ρ x=v):(execOp ρ o).run P W= .ok (.value v) W:=by unfold execOp;rw[h];simp only[hx];rfl
theorem uI{c a b:Operand}{v:Value}(h:o.op= .pick c a b)(hc:ρ c= .bool true)(ha:ρ a=v):(execOp ρ o).run P W= .ok (.value v) W:=by unfold execOp;rw[h];simp only[hc,ha];rfl
theorem ud{c a b:Operand}{v:Value}(h:o.op= .pick c a b)(hc:ρ c= .bool false)(hb:ρ b=v):(execOp ρ o).run P W= .ok (.value v) W:=by unfold execOp;rw[h];simp only[hc,hb];rfl
theorem bH{k:Nat}{vs:Array Value}{v:Value}(h:o.op= .extract x k)(hx:ρ x= .tuple vs)(hv:vs[k]? =some v):(execOp ρ o).run P W= .ok (.value v) W:=by
 unfold execOp;rw[h];simp only[hx,Instr.extract,hv];rfl
def jd(P:Program)(t:TypeId):Option Bool:=match P.underlying t with
 |none=>none
 |some (.struct _)=>some true
 |some (.array _ _)=>some true
 |some _=>some false
theorem lp{t:TypeId}(h:jd P t=some b):(isAgg t).run P W= .ok b W:=by
 unfold jd at h
 cases hu:P.underlying t with
 |none=>rw[hu] at h;cases h
 |some d=>
  rw[hu] at h
  unfold isAgg
  simp only[Sem.run_bind,run_underlying hu,Result.andThen_ok]
  cases d<;>simp at h<;>subst h<;>rfl
theorem ce{t:TypeId}{a:Addr}{v:Value}(h:o.op= .load t x)(ht:jd P t=some false)(hx:ρ x= .pointer (some a))(hc:W.cell? a=some v):(execOp ρ o).run P W= .ok (.value v) W:=by
 unfold execOp;rw[h]
 simp only[hx,Instr.loadAt,Instr.sureAddr,loadVar,Sem.run_bind,Sem.run_pure,Result.andThen_ok,lp ht,load]
 simp[Sem.run,hc]
theorem rL1{t:TypeId}{a:Addr}{v:Value}(hx:ρ x= .pointer (some a))(hc:W.cell? a=some v)(h:o.op= .load t x:=by rfl)(ht:jd P t=some false:=by kernel_rfl):(execOp ρ o).run P W= .ok (.value v) W:=ce h ht hx hc
theorem lK{b off:Nat}{t:TypeId}(hb:Blk W b t cs):∀(n i:Nat) (acc:Array Value),off+i+n<=cs.size->
  (loadCellsFrom ⟨b,off,none⟩ i n acc).run P W= .ok (acc++cs.extract (off+i) (off+i+n)) W:=by
 intro n
 induction n with
 |zero=>intro i acc h;simp[loadCellsFrom];omega
 |succ n ih=>
  intro i acc h
  have hlt:off+i<cs.size:=by omega
  have hc:W.cell? ((⟨b,off,none⟩:Addr).add i)=some cs[off+i]:=by rw[Addr.add_lit,hb.cell,Array.getElem?_eq_getElem hlt]
  unfold loadCellsFrom
  simp only[Sem.run_bind,load,Sem.run,hc,Result.andThen_ok]
  rw[ih (i+1) (acc.push cs[off+i]) (by omega)]
  congr 1
  rw[Array.push_eq_append,Array.append_assoc]
  congr 1
  apply Array.ext'
  simp only[Array.toList_append,Array.toList_extract,List.extract_eq_take_drop]
  have e1:off+(i+1)=off+i+1:=by omega
  rw[e1,show off+i+1+n-(off+i+1)=n by omega,show off+i+(n+1)-(off+i)=n+1 by omega]
  rw[List.drop_eq_getElem_cons (i:=off+i) (by simpa using hlt)]
  rfl
def szP(P:Program)(t:TypeId):Option Nat:=(P.info? t).map (·.size)
theorem c8{t:TypeId}{n:Nat}(h:szP P t=some n):(sizeOf t).run P W= .ok n W:=by
 unfold szP at h
 cases hi:P.info? t with
 |none=>rw[hi] at h;cases h
 |some i=>
  rw[hi] at h
  have h2:i.size=n:=Option.some.inj h
  rw[run_sizeOf _ hi]
  unfold Program.cellsOf
  rw[hi]
  simp[h2]
theorem nG{t t':TypeId}{b off n:Nat}(h:o.op= .load t x)(ht:jd P t=some true)(hn:szP P t=some n)(hx:ρ x= .pointer (some ⟨b,off,none⟩))(hb:Blk W b t' cs)
  (hle:off+n<=cs.size) (hcs:((cs.toList.drop off).take n).toArray=cs'):(execOp ρ o).run P W= .ok (.value (.agg cs')) W:=by
 replace hcs:cs.extract off (off+n)=cs':=by
  rw[<-hcs]
  apply Array.ext'
  simp[List.extract_eq_take_drop]
 unfold execOp;rw[h]
 simp only[hx,Instr.loadAt,Instr.sureAddr,loadVar,Sem.run_bind,Sem.run_pure,Result.andThen_ok,lp ht,if_true,c8 hn,loadCells]
 rw[lK hb n 0 #[] (by omega)]
 simp only[Result.andThen_ok,Nat.add_zero,hcs]
 simp
theorem rLB{t t':TypeId}{b off n:Nat}(hx:ρ x= .pointer (some ⟨b,off,none⟩))(hb:Blk W b t' cs)(hle:off+n<=cs.size)(hcs:((cs.toList.drop off).take n).toArray=cs')(h:o.op= .load t x:=by rfl)(ht:jd P t=some true:=by kernel_rfl)(hn:szP P t=some n:=by kernel_rfl):(execOp ρ o).run P W= .ok (.value (.agg cs')) W:=nG h ht hn hx hb hle hcs
def jP(cs:Array Value)(off:Nat):List Value->Array Value
 | []=>cs
 |v::l=>jP (cs.setIfInBounds off v) (off+1) l
theorem ol{b:Nat}{t:TypeId}:∀(vs:List Value) (off i:Nat) (cs:Array Value) (W:World),Blk W b t cs->off+i+vs.length<=cs.size->(∀v∈vs,v.oneCell'=true)->
  ∃W',(storeCells ⟨b,off,none⟩ vs i).run P W= .ok () W'/\Upd [b] W W'/\Blk W' b t (jP cs (off+i) vs):=by
 intro vs
 induction vs with
 |nil=>intro off i cs W hb _ _;exact⟨W,rfl,Upd.refl _ _,hb⟩
 |cons v vs ih=>
  intro off i cs W hb hle h1
  simp only[List.length_cons] at hle
  have hlt:off+i<cs.size:=by omega
  have hc:W.cell? ⟨b,off+i,none⟩=some cs[off+i]:=by rw[hb.cell,Array.getElem?_eq_getElem hlt]
  have hfz:W.frozen? ⟨b,off+i,none⟩=false:=hb.frozen _
  obtain⟨W',h2,h3,h4⟩:=ih off (i+1) (cs.setIfInBounds (off+i) v) (W.setCell ⟨b,off+i,none⟩ v) (hb.set_ _ _) (by rw[Array.size_setIfInBounds];omega) (fun x hx=>h1 x (by simp[hx]))
  refine⟨W',?_,((Upd.refl [b] W).set (.inl (by simp)) v).trans h3,h4⟩
  unfold storeCells
  have hv:=h1 v (by simp)
  have bb:(store ((⟨b,off,none⟩:Addr).add i) v).run P W= .ok () (W.setCell ⟨b,off+i,none⟩ v):=by
   rw[Addr.add_lit]
   unfold store
   cases v<;>first|(simp[Value.oneCell'] at hv;done)|(simp[Sem.run,hc,hfz])
  simp only[Sem.run_bind,bb,Result.andThen_ok,h2]
theorem Ck{t t':TypeId}{y:Operand}{b off n:Nat}{v:Value}(h:o.op= .store t x y)(hx:ρ x= .pointer (some ⟨b,off,none⟩))(hy:ρ y=v)(hz:szP P t=some n)(hn:v.cells.size=n)
  (h1:∀u∈v.cells.toList,u.oneCell'=true) (hb:Blk W b t' cs) (hle:off+n<=cs.size):∃W',(execOp ρ o).run P W= .ok .skip W'/\Upd [b] W W'/\Blk W' b t' (jP cs off v.cells.toList):=by
 obtain⟨W',h2,h3,h4⟩:=ol (P:=P) v.cells.toList off 0 cs W hb (by simp[hn];exact hle) h1
 refine⟨W',?_,h3,by simpa using h4⟩
 unfold execOp;rw[h]
 simp only[hx,hy,Instr.storeAt,Instr.sureAddr,storeVar,Sem.run_bind,Sem.run_pure,Result.andThen_ok,c8 hz,hn,ne_eq,not_true_eq_false,if_false]
 rw[h2]
 rfl
theorem pa{t t':TypeId}{y:Operand}{b off n:Nat}{v:Value}(h:o.op= .store t x y)(hx:ρ x= .pointer (some ⟨b,off,none⟩))(hy:ρ y=v)(hz:szP P t=some n)(hn:v.cells.size=n)
  (h1:v.cells.toList.all Value.oneCell'=true) (c:CtxV ops L a0 w0 bor X0 us D i ρ β W X) (hX:X q=eB b t' cs) (hu:(atV us i).contains q=true) (hle:off+n<=cs.size) (hcs:jP cs off v.cells.toList=cs') (hd:o.dst=none)
  (hc:atV cr i=[q']) (hk:atV kl i=[q]) (hD:∀(l f:Tmp->Value) (X':Nat->Ent),(∀t,l t=ρ (.tmp t))->(∀t,f t=β t)->X' q'=eB b t' cs'->D i l f X'):ak P o ρ W (bQ cr kl D i o.dst ρ β W X):=by
 have hok:=c.ok q hu
 rw[hX] at hok
 have hb:Blk W b t' cs:=hok.holds
 obtain⟨W',h2,h3,h4⟩:=Ck (P:=P) h hx hy hz hn (fun u hu=>List.all_eq_true.1 h1 u hu) hb hle
 rw[hcs] at h4
 refine ak.skip h2 ⟨[eB b t' cs'],by rw[hc];rfl,⟨?_,fun e he=>?_,List.pairwise_singleton _ _⟩,fun l f X' hs hv hb' hbv hx' hN=>hD l f X' (fun t=>hs t (by rw[hd];simp)) (fun t=>hb' t (by rw[hd];simp)) ?_⟩
 ·rw[hk]
  simp only[List.flatMap_cons,List.flatMap_nil,List.append_nil,hX]
  exact h3
 ·rw[List.mem_singleton] at he
  subst he
  refine⟨h4,dW _ _ _,fun k hk'=>?_⟩
  have hkb:k=b:=by simpa[eB] using hk'
  subst hkb
  refine⟨.inl ?_,h4.lt⟩
  rw[hk]
  simp[hX,eB]
 ·rw[hc] at hN
  exact(List.cons.inj hN).1
theorem dVS{t t':TypeId}{y:Operand}{b off n:Nat}{v:Value}(h:o.op= .store t x y)(hx:ρ x= .pointer (some ⟨b,off,none⟩))(hy:ρ y=v)(c:CtxV ops L a0 w0 bor X0 us D i ρ β W X)(hX:X q=eB b t' cs)(hu:(atV us i).contains q=true)(hle:off+n<=cs.size)(hd:o.dst=none)(hc:atV cr i=[q'])(hk:atV kl i=[q])(hD:∀(f e:Tmp->Value) (X':Nat->Ent),(∀t,f t=ρ (.tmp t))->(∀t,e t=β t)->X' q'=eB b t' cs'->D i f e X')(hz:szP P t=some n:=by kernel_rfl)(hn:v.cells.size=n:=by kernel_rfl)(h1:v.cells.toList.all Value.oneCell'=true:=by kernel_rfl)(hcs:jP cs off v.cells.toList=cs':=by kernel_rfl):ak P o ρ W (bQ cr kl D i o.dst ρ β W X):=pa h hx hy hz hn h1 c hX hu hle hcs hd hc hk hD
def lV(P:Program)(t:TypeId):Option (Array Value):=((P.info? t).bind (·.zero)).map (·.cells)
theorem y7{t:Nat}{v:Value}(hd:o.dst=some d)(hc:atV cr i=[q])(hv:v= .pointer (some ⟨W.heap.size,0,none⟩))
  (hD:∀(f c:Tmp->Value) (X':Nat->Ent),(∀t,t≠d->f t=ρ (.tmp t))->(∀t,t≠d->c t=β t)->f d= .pointer (some ⟨pb (c d),0,none⟩)->X' q=eB (pb (c d)) t cs->D i f c X'):
  bQ cr kl D i o.dst ρ β W X v (W.alloc (.cells cs t)):=by
 refine⟨[eB W.heap.size t cs],by rw[hc];rfl,⟨(Upd.refl _ _).alloc _,fun e he=>?_,List.pairwise_singleton _ _⟩,fun f c X' hs hv' hb hbv hx hN=>hD f c X' (fun t ht=>hs t (by rw[hd];simpa using ht.symm)) (fun t ht=>hb t (by rw[hd];simpa using ht.symm)) ?_ ?_⟩
 ·rw[List.mem_singleton] at he
  subst he
  refine⟨Blk.new _ _ _,dW _ _ _,fun k hk=>?_⟩
  have hkb:k=W.heap.size:=by simpa[eB] using hk
  subst hkb
  exact⟨.inr (Nat.le_refl _),by simp⟩
 ·rw[hv' d hd,hbv d hd,hv];rfl
 ·rw[hbv d hd,hv]
  rw[hc] at hN
  exact(List.cons.inj hN).1
theorem zf{t:TypeId}(h:o.op= .alloc t)(hz:lV P t=some cs)(hd:o.dst=some d)(hc:atV cr i=[q])
  (hD:∀(e c:Tmp->Value) (X':Nat->Ent),(∀t,t≠d->e t=ρ (.tmp t))->(∀t,t≠d->c t=β t)->e d= .pointer (some ⟨pb (c d),0,none⟩)->X' q=eB (pb (c d)) t cs->D i e c X'):
  ak P o ρ W (bQ cr kl D i o.dst ρ β W X):=by
 unfold lV at hz
 cases hi:P.info? t with
 |none=>rw[hi] at hz;cases hz
 |some inf=>
  rw[hi] at hz
  simp only[Option.bind_some] at hz
  cases hzv:inf.zero with
  |none=>rw[hzv] at hz;cases hz
  |some z=>
   rw[hzv] at hz
   have hcs:z.cells=cs:=Option.some.inj hz
   refine ak.value (v:= .pointer (some ⟨W.heap.size,0,none⟩)) (w':=W.alloc (.cells cs t)) ?_ (y7 hd hc rfl hD)
   unfold execOp;rw[h]
   have h0:(zeroValue t).run P W= .ok z W:=by
    unfold zeroValue
    simp only[Sem.run_bind,run_typeInfo _ hi,Result.andThen_ok,hzv,Sem.run_pure]
   simp only[Instr.alloc,Sem.run_bind,h0,Result.andThen_ok,newVar,newRow,newObj,hcs,Sem.run_pure]
   rfl
theorem dVA{t:TypeId}(h:o.op= .alloc t)(hd:o.dst=some d)(hc:atV cr i=[q])(hD:∀(e c:Tmp->Value) (X':Nat->Ent),(∀t,t≠d->e t=ρ (.tmp t))->(∀t,t≠d->c t=β t)->e d= .pointer (some ⟨pb (c d),0,none⟩)->X' q=eB (pb (c d)) t cs->D i e c X')(hz:lV P t=some cs:=by kernel_rfl):
  ak P o ρ W (bQ cr kl D i o.dst ρ β W X):=zf h hz hd hc hD
theorem qp{t:TypeId}{v:Value}(h:o.op= .box t x)(hx:ρ x=v)(hcs:v.cells=cs)(hd:o.dst=some d)(hc:atV cr i=[q])
  (hD:∀(e c:Tmp->Value) (X':Nat->Ent),(∀t,t≠d->e t=ρ (.tmp t))->(∀t,t≠d->c t=β t)->e d= .pointer (some ⟨pb (c d),0,none⟩)->X' q=eB (pb (c d)) t cs->D i e c X'):
  ak P o ρ W (bQ cr kl D i o.dst ρ β W X):=by
 refine ak.value (v:= .pointer (some ⟨W.heap.size,0,none⟩)) (w':=W.alloc (.cells cs t)) ?_ (y7 hd hc rfl hD)
 unfold execOp;rw[h]
 simp only[hx,Instr.box,newVar,newRow,newObj,Sem.run_bind,hcs,Sem.run_pure]
 rfl
def qx(P:Program)(t:TypeId)(f:Nat):Option Nat:=match P.underlying t with
 |some (.struct fs)=>match fs[f]? with
  |some fd=>match szP P fd.type with
   |some (n+1)=>some fd.offset
   |_=>none
  |none=>none
 |_=>none
theorem i7{t:TypeId}{f b off k n:Nat}(h:o.op= .fieldAddr t x f)(hf:qx P t f=some k)(hx:ρ x= .pointer (some ⟨b,off,none⟩))(hn:off+k=n):
  (execOp ρ o).run P W= .ok (.value (.pointer (some ⟨b,n,none⟩))) W:=by
 unfold qx at hf
 split at hf
 ·rename_i fs hu
  split at hf
  ·rename_i fd hfd
   split at hf
   ·rename_i m hm
    injection hf with hf
    unfold execOp;rw[h]
    simp only[hx,Instr.fieldAt,Instr.sureAddr,Sem.run_bind,run_underlying hu,Result.andThen_ok,hfd,Sem.run_pure,fieldPlace,c8 hm,Nat.add_one_ne_zero,if_false]
    simp[Addr.add_lit,hf,hn]
   ·cases hf
  ·cases hf
 ·cases hf
def gD(P:Program)(f:FuncId):Bool:=match P.funcs[f]? with
 |some fn=>fn.body.isSome&&!(fn.name== "runtime.NumGoroutine")
 |none=>false
theorem gl{c:Call}{f:FuncId}(h:o.op= .call c)(hs:Sees ρ)(hcal:c.callee= .value (.func f))(hf:gD P f=true)(ha:c.args.map ρ=args):(execOp ρ o).run P W= .ok (.enter f args) W:=by
 unfold gD at hf
 split at hf
 ·rename_i fn hfn
  simp only[Bool.and_eq_true,Bool.not_eq_true'] at hf
  have hb:fn.body.isNone=false:=by
   cases hh:fn.body with
   |none=>rw[hh] at hf;simp at hf
   |some _=>rfl
  unfold execOp;rw[h]
  simp only[resolve,hcal,hs.func,Deferred.ofValue,ha,Sem.run_bind,Sem.run_pure,Result.andThen_ok,invoke,callFunc,program,Sem.run,hfn,hf.2,hb]
  simp
 ·cases hf
theorem rCF{c:Call}{f:FuncId}(hs:Sees ρ)(ha:c.args.map ρ=args)(h:o.op= .call c:=by rfl)(hcal:c.callee= .value (.func f):=by rfl)(hf:gD P f=true:=by kernel_rfl):(execOp ρ o).run P W= .ok (.enter f args) W:=gl h hs hcal hf ha
theorem bK{v:Value}(N:List Ent)(hk:atV kl i=[])(hl:N.length=(atV cr i).length)(hx:Ext W W')(hok:∀e∈N,e.holds W'/\e.loc/\∀k∈e.fp,W.heap.size<=k/\k<W'.heap.size)(hap:N.Pairwise Ent.apart)
  (hD:∀(f c:Tmp->Value) (X':Nat->Ent),(∀t,o.dst≠some t->f t=ρ (.tmp t))->(∀t,o.dst≠some t->c t=β t)->(∀d,o.dst=some d->f d=v/\c d=v)->(atV cr i).map X'=N->D i f c X'):bQ cr kl D i o.dst ρ β W X v W':=
 ⟨N,hl,⟨Upd.of_ext hx,fun e he=>⟨(hok e he).1,(hok e he).2.1,fun k hk'=>⟨.inr ((hok e he).2.2 k hk').1,((hok e he).2.2 k hk').2⟩⟩,hap⟩,fun f c X' hs hv hb hbv _ hN=>hD f c X' hs hb (fun d hd=>⟨hv d hd,hbv d hd⟩) hN⟩
theorem cf{e sz n:Nat}{v:Value}{xs:List Value}(h:W'.ownsRow W.heap.size e sz v n xs):(eO e sz v n xs).holds W'/\(eO e sz v n xs).loc/\∀k∈(eO e sz v n xs).fp,W.heap.size<=k/\k<W'.heap.size:=by
 refine⟨⟨h.1,?_⟩,gg _ _ _ _ _,fun k hk=>?_⟩
 ·rcases h.2 with hn|⟨g,cap,cur,rfl,hbg,hgg,rest⟩
  ·exact .inl hn
  ·exact .inr ⟨g,cap,cur,rfl,Nat.zero_le _,hgg,rest⟩
 ·have h1:v.ownBlock=some k:=by simpa[eO] using hk
  exact h.lt k h1
theorem fe{e n:Nat}{v:Value}(h:W'.ownsRow 0 e sz v n xs):∀k,v.ownBlock=some k->k<W'.heap.size:=fun k hk=>(h.lt k hk).2
theorem one_new{e:Ent}(h:e.holds W'/\e.loc/\∀k∈e.fp,W.heap.size<=k/\k<W'.heap.size):∀e'∈[e],e'.holds W'/\e'.loc/\∀k∈e'.fp,W.heap.size<=k/\k<W'.heap.size:=by
 intro e' he
 rw[List.mem_singleton] at he
 subst he;exact h
theorem cm{v:Value}{B t:Nat}(hX:X q=eB B t cs)(hc:atV cr i=[q'])(hk:atV kl i=[q])(hu:Upd [B] W W')(hb:Blk W' B t cs')
  (hD:∀(f c:Tmp->Value) (X':Nat->Ent),(∀t,o.dst≠some t->f t=ρ (.tmp t))->(∀t,o.dst≠some t->c t=β t)->(∀d,o.dst=some d->f d=v/\c d=v)->X' q'=eB B t cs'->D i f c X'):bQ cr kl D i o.dst ρ β W X v W':=by
 refine⟨[eB B t cs'],by rw[hc];rfl,⟨?_,fun e he=>?_,List.pairwise_singleton _ _⟩,fun f c X' hs hv hb' hbv hx' hN=>hD f c X' hs hb' (fun d hd=>⟨hv d hd,hbv d hd⟩) ?_⟩
 ·rw[hk]
  simp only[List.flatMap_cons,List.flatMap_nil,List.append_nil,hX]
  exact hu
 ·rw[List.mem_singleton] at he
  subst he
  refine⟨hb,dW _ _ _,fun k hk'=>?_⟩
  have hkb:k=B:=by simpa[eB] using hk'
  subst hkb
  refine⟨.inl ?_,hb.lt⟩
  rw[hk]
  simp[hX,eB]
 ·rw[hc] at hN
  exact(List.cons.inj hN).1
theorem fj{s:Operand}{t ty:TypeId}(ho:o.op= .call {callee:= .builtin .append,args:=#[s,x],argTypes:=#[t,t]})(hty:ty=t)
  {e:TypeId}{inf:TypeInfo}{z:Value}(ht:P.underlying t=some (.slice e)) (hi:P.info? e=some inf) (hz:inf.zero=some z)
  (hsize:inf.size=1) (hby:inf.bytes=bytes) (hzs:z.cells.size=1){v:Value}{n:Nat}(hs:ρ s=v) (c:CtxV ops L a0 w0 bor X0 us D i ρ β W X) (hX:X q=eO e 1 v n xs) (hu:(atV us i).contains q=true)
   {cp:Nat}{news:List Value}(hx:ρ x= .slice A m cp) (hl:news.length=m) (hA:At W A news) (h1:∀u∈news,u.oneCell'=true)
  (h63:n+m<=maxLen) (hbytes:(n+m)*bytes<=140737488355328) (hd:o.dst=some d) (hc:atV cr i=[q']) (hk:atV kl i=[q]){nm:Nat}(hnm:n+m=nm) (jJ:xs++news=xs')
  (hD:∀(h f:Tmp->Value) (X':Nat->Ent),(∀t,t≠d->h t=ρ (.tmp t))->(∀t,t≠d->f t=β t)->h d= .slice (sA (f d)) nm (sC (f d))->X' q'=eO e 1 (.slice (sA (f d)) nm (sC (f d))) nm xs'->D i h f X'):
  ak P o ρ W (bQ cr kl D i o.dst ρ β W X):=by
 have hok:=c.ok q hu
 rw[hX] at hok
 have hown:W.ownsRow 0 e 1 v n xs:=hok.holds
 refine AM s x t ho 0 e inf z bytes ht hi hz hsize hby hzs v n xs hs hown A m cp news hx hl hA h1 h63 hbytes (Nat.zero_le _) fun v' W' hown' hg hat=>?_
 subst hnm;subst jJ
 obtain⟨A',c',rfl,_⟩:=zi hown'
 have hin:∀k,(v.ownBlock=some k)->k∈((atV kl i).flatMap fun q=>(X q).fp):=fun k hk'=>by
  rw[hk]
  simp only[List.flatMap_cons,List.flatMap_nil,List.append_nil,hX]
  simp[eO,hk']
 refine⟨[eO e 1 (.slice A' (n+m) c') (n+m) (xs++news)],by rw[hc];rfl,⟨(Upd.refl _ W).grown hg fun k hk'=> .inl (hin k hk'),fun e' he=>?_,List.pairwise_singleton _ _⟩,fun h f X' hs' hv hb hbv hx' hN=>hD h f X' (fun t ht=>hs' t (by rw[hd];simpa using ht.symm)) (fun t ht=>hb t (by rw[hd];simpa using ht.symm)) ?_ ?_⟩
 ·rw[List.mem_singleton] at he
  subst he
  refine⟨hown',gg _ _ _ _ _,fun k hk'=>?_⟩
  have h2:(Value.slice A' (n+m) c').ownBlock=some k:=by simpa[eO] using hk'
  refine⟨?_,fe hown' k h2⟩
  rcases hat with h3|h3
  ·exact .inl (hin k (h3.symm.trans h2))
  ·right
   rw[h3] at h2
   injection h2 with h2
   omega
 ·rw[hv d hd,hbv d hd];rfl
 ·rw[hbv d hd]
  rw[hc] at hN
  exact(List.cons.inj hN).1
theorem dA{t e:TypeId}{n:Nat}(h:o.op= .buildSlice t n parts)(hrun:(execOp ρ o).run P W= .ok (.value (.slice (some ⟨W.heap.size,0,none⟩) n n)) (W.alloc (.cells xs.toArray e)))
  (hn:xs.length=n) (hm:n<=maxLen) (hd:o.dst=some d) (hc:atV cr i=[q])
  (hD:∀(f c:Tmp->Value) (X':Nat->Ent),(∀t,t≠d->f t=ρ (.tmp t))->(∀t,t≠d->c t=β t)->f d= .slice (sA (c d)) n n->X' q=eO e 1 (.slice (sA (c d)) n n) n xs->D i f c X'):
  ak P o ρ W (bQ cr kl D i o.dst ρ β W X):=by
 have hb:Blk (W.alloc (.cells xs.toArray e)) W.heap.size e xs.toArray:=Blk.new _ _ _
 have ho:(W.alloc (.cells xs.toArray e)).ownsRow W.heap.size e 1 (.slice (some ⟨W.heap.size,0,none⟩) n n) n xs:=qL hb (Nat.le_refl _) hn hm
 refine ak.value hrun ⟨[eO e 1 (.slice (some ⟨W.heap.size,0,none⟩) n n) n xs],by rw[hc];rfl,⟨(Upd.refl _ _).alloc _,fun e' he=>?_,List.pairwise_singleton _ _⟩,fun f c X' hs' hv hb hbv hx' hN=>hD f c X' (fun t ht=>hs' t (by rw[hd];simpa using ht.symm)) (fun t ht=>hb t (by rw[hd];simpa using ht.symm)) ?_ ?_⟩
 ·rw[List.mem_singleton] at he
  subst he
  obtain⟨h1,h2,h3⟩:=cf ho
  exact⟨h1,h2,fun k hk=>⟨.inr (h3 k hk).1,(h3 k hk).2⟩⟩
 ·rw[hv d hd,hbv d hd];rfl
 ·rw[hbv d hd]
  rw[hc] at hN
  exact(List.cons.inj hN).1
theorem jZ{a:Addr}(h:o.op= .nilCheck x)(hx:ρ x= .pointer (some a)):(execOp ρ o).run P W= .ok (.value (.pointer (some a))) W:=by
 unfold execOp;rw[h];simp only[hx];rfl
def uM:BinOp->IntKind->Int->Int->Option Value
 | .add,k,a,b=>some (.int k (k.wrap (a+b)))
 | .sub,k,a,b=>some (.int k (k.wrap (a-b)))
 | .mul,k,a,b=>some (.int k (k.wrap (a*b)))
 | .eql,_,a,b=>some (.bool (a==b))
 | .neq,_,a,b=>some (.bool (a != b))
 | .lss,_,a,b=>some (.bool (decide (a<b)))
 | .leq,_,a,b=>some (.bool (decide (a<=b)))
 | .gtr,_,a,b=>some (.bool (decide (b<a)))
 | .geq,_,a,b=>some (.bool (decide (b<=a)))
 |_,_,_,_=>none
theorem mg{op:BinOp}{t t':TypeId}{y:Operand}{k:IntKind}{a b:Int}{v:Value}(h:o.op= .binOp op t x y t')(hx:ρ x= .int k a)(hy:ρ y= .int k b)(hv:uM op k a b=some v):(execOp ρ o).run P W= .ok (.value v) W:=by
 unfold execOp;rw[h]
 cases op<;>simp only[uM,Option.some.injEq,reduceCtorEq] at hv<;>subst hv<;>simp[hx,hy,eqGuard,binOp,Op.intArith,Op.intCmp]
theorem Bl{t:TypeId}(h:o.op= .unOp .not t x)(hx:ρ x= .bool b)(hb:(!b)=b'):(execOp ρ o).run P W= .ok (.value (.bool b')) W:=by
 subst hb
 unfold execOp;rw[h]
 simp[hx,Op.unary]
theorem DY{t:TypeId}{s:ByteArray}(h:o.op= .call {callee:= .builtin .len,args:=#[x],argTypes:=#[t]})(ht:P.underlying t=some .string)(hx:ρ x= .string s):(execOp ρ o).run P W= .ok (.value (.int .i64 s.size)) W:=by
 unfold execOp;rw[h]
 simp[hx,resolve,invoke,builtin,Builtin.len_,run_underlying ht,goInt]
theorem qB{t e:TypeId}{n c:Nat}(h:o.op= .call {callee:= .builtin .len,args:=#[x],argTypes:=#[t]})(ht:P.underlying t=some (.slice e))(hx:ρ x= .slice A n c):(execOp ρ o).run P W= .ok (.value (.int .i64 n)) W:=by
 unfold execOp;rw[h]
 simp[hx,resolve,invoke,builtin,Builtin.len_,run_underlying ht,goInt]
theorem gM{t:TypeId}{y:Operand}{s:ByteArray}{k:IntKind}{l:Nat}(h:o.op= .slice t x (some y) none none)(ht:P.underlying t=some .string)(hx:ρ x= .string s)(hy:ρ y= .int k j)(hj:j=(l:Int))(hl:l<=s.size):
  (execOp ρ o).run P W= .ok (.value (.string (s.extract l s.size))) W:=by
 subst hj
 unfold execOp;rw[h]
 have h1:(0:Int)<=(l:Int)/\(l:Int)<=((s.size:Nat):Int):=⟨by omega,by omega⟩
 simp only[hx,hy,Option.map_some,Option.map_none,Instr.sliceAt,Instr.slice,Sem.run_bind,run_underlying ht,Result.andThen_ok,Instr.sliceBounds,Instr.sliceBound,asIntOf,Sem.run_pure,h1,and_self,if_true]
 simp[h1,Instr.slice,Instr.sliceBounds,Instr.sliceBound,asIntOf,run_underlying ht,hl]
theorem gJ{t:TypeId}{y:Operand}{s:ByteArray}{k:IntKind}{l:Nat}(h:o.op= .slice t x none (some y) none)(ht:P.underlying t=some .string)(hx:ρ x= .string s)(hy:ρ y= .int k j)(hj:j=(l:Int))(hl:l<=s.size):
  (execOp ρ o).run P W= .ok (.value (.string (s.extract 0 l))) W:=by
 subst hj
 unfold execOp;rw[h]
 have h1:(0:Int)<=(l:Int)/\(l:Int)<=((s.size:Nat):Int):=⟨by omega,by omega⟩
 simp only[hx,hy,Option.map_some,Option.map_none,Instr.sliceAt,Instr.slice,Sem.run_bind,run_underlying ht,Result.andThen_ok,Instr.sliceBounds,Instr.sliceBound,asIntOf,Sem.run_pure,h1,and_self,if_true]
 simp[h1,Instr.slice,Instr.sliceBounds,Instr.sliceBound,asIntOf,run_underlying ht,hl]
theorem qg{t:TypeId}{y y':Operand}{s:ByteArray}{k:IntKind}{j':Int}{l:Nat}(h:o.op= .slice t x (some y) (some y') none)(ht:P.underlying t=some .string)(hx:ρ x= .string s)(hy:ρ y= .int k j)(hy':ρ y'= .int k' j')(hj:j=(l:Int))(hj':j'=(m:Int))(hl:l<=m)(hm:m<=s.size):
  (execOp ρ o).run P W= .ok (.value (.string (s.extract l m))) W:=by
 subst hj;subst hj'
 unfold execOp;rw[h]
 have h1:(0:Int)<=(m:Int)/\(m:Int)<=((s.size:Nat):Int):=⟨by omega,by omega⟩
 have h2:(0:Int)<=(l:Int)/\(l:Int)<=((m:Nat):Int):=⟨by omega,by omega⟩
 simp only[hx,hy,hy',Option.map_some,Option.map_none,Instr.sliceAt,Instr.slice,Sem.run_bind,run_underlying ht,Result.andThen_ok,Instr.sliceBounds,Instr.sliceBound,asIntOf,Sem.run_pure,h1,h2,and_self,if_true]
 simp[h1,h2,Instr.slice,Instr.sliceBounds,Instr.sliceBound,asIntOf,run_underlying ht,hl,hm]
theorem FE{t t':TypeId}{k:IntKind}{n z:Int}(h:o.op= .convert t t' x)(ht:(P.underlying t).isSome=true)(ht':P.underlying t'=some (.int k'))(hx:ρ x= .int k n)(hz:k'.wrap n=z):(execOp ρ o).run P W= .ok (.value (.int k' z)) W:=by
 subst hz
 obtain⟨d,hd⟩:=Option.isSome_iff_exists.1 ht
 unfold execOp;rw[h]
 simp[hx,convert,run_underlying hd,run_underlying ht',Conv.intToInt]
def ad(A:Option Addr):Addr:=A.getD ⟨0,0,none⟩
theorem At.cellAd(h:At W A xs){j:Nat}{u:Value}(hj:xs[j]? =some u):W.cell? ((ad A).add j)=some u:=by
 obtain⟨a,rfl,_,hc⟩:=h j u hj
 exact hc
theorem bz{y:Operand}{t e:TypeId}{n c:Nat}{k:IntKind}(h:o.op= .indexAddr t x y)(ht:P.underlying t=some (.slice e))(hz:szP P e=some 1)(hx:ρ x= .slice A n c)(hy:ρ y= .int k j)
  (hj:j=(m:Int)) (hm:m<n) (hA:At W A xs) (hl:xs.length=n):(execOp ρ o).run P W= .ok (.value (.pointer (some ((ad A).add m)))) W:=by
 subst hj
 obtain⟨a,rfl,_,_⟩:=hA.get (k:=m) (by omega)
 unfold execOp;rw[h]
 have h1:(0:Int)<=(m:Int)/\(m:Int)<(n:Int):=⟨by omega,by omega⟩
 simp only[hx,hy,Instr.indexAt,asIntOf,Sem.run_bind,Sem.run_pure,Result.andThen_ok,run_underlying ht,h1,and_self,if_true,c8 hz]
 simp[ad]
theorem rIS{y:Operand}{t e:TypeId}{n c:Nat}{k:IntKind}(hx:ρ x= .slice A n c)(hy:ρ y= .int k j)(hj:j=(m:Int))(hm:m<n)(hA:At W A xs)(hl:xs.length=n)(h:o.op= .indexAddr t x y:=by rfl)(ht:P.underlying t=some (.slice e):=by kernel_rfl)(hz:szP P e=some 1:=by kernel_rfl):(execOp ρ o).run P W= .ok (.value (.pointer (some ((ad A).add m)))) W:=bz h ht hz hx hy hj hm hA hl
theorem Fe{t t':TypeId}{y:Operand}{a b:ByteArray}(h:o.op= .binOp .eql t x y t')(hx:ρ x= .string a)(hy:ρ y= .string b):(execOp ρ o).run P W= .ok (.value (.bool (a.toList==b.toList))) W:=by
 unfold execOp;rw[h]
 simp[hx,hy,eqGuard,binOp,Op.stringOp]
theorem qo{t t':TypeId}{y:Operand}{a b:ByteArray}(h:o.op= .binOp .neq t x y t')(hx:ρ x= .string a)(hy:ρ y= .string b):(execOp ρ o).run P W= .ok (.value (.bool (!(a.toList==b.toList)))) W:=by
 unfold execOp;rw[h]
 simp[hx,hy,eqGuard,binOp,Op.stringOp]
theorem ub{t t':TypeId}{y:Operand}{a b:ByteArray}(h:o.op= .binOp .add t x y t')(hx:ρ x= .string a)(hy:ρ y= .string b)(hs:a.size+b.size<=9223372036854775807):(execOp ρ o).run P W= .ok (.value (.string (a++b))) W:=by
 unfold execOp;rw[h]
 have h2:¬((a.size+b.size:Nat):Int) > IntKind.i64.max:=by
  have:IntKind.i64.max=9223372036854775807:=by decide
  rw[this];omega
 simp only[hx,hy,eqGuard,binOp,Op.stringOp,if_neg h2]
 simp
theorem ip(ho:ops[i]? =some o)(hg:o.guard=none)(hd:o.dst=some d)(hc:atV cr i=[])(hk:atV kl i=[])(hD:∀c β X,c d=V->D i c β X)
  (h:∀ρ β W X,CtxV ops L a0 w0 bor X0 us D i ρ β W X->∃f args,(execOp ρ o).run P W= .ok (.enter f args) W/\Calls P f args W fun e W'=>e= .returned V/\Ext W W'):bM P ops L a0 w0 bor X0 us cr kl D i:=
 zw ho hg fun ρ β W X cx=>let ⟨_,_,h1,h2⟩:=h ρ β W X cx
  ak.call h1 (h2.mono fun _ _ ⟨he,hx⟩=>⟨V,he,bK [] hk (by rw[hc];rfl) hx (by simp) List.Pairwise.nil (fun c k X' _ _ hv _=>hD c k X' (hv d hd).1)⟩)
theorem l4(ho:ops[i]? =some o)(hg:o.guard=some (g,b))(hdg:bh ops g=some dg)(hd:o.dst=some d)(hc:atV cr i=[])(hk:atV kl i=[])(hD:∀c β X,c d=V->D i c β X)
  (hgv:∀ρ β W X,CtxV ops L a0 w0 bor X0 us D i ρ β W X->ρ (.tmp dg)= .bool b)
  (h:∀ρ β W X,CtxV ops L a0 w0 bor X0 us D i ρ β W X->∃f args,(execOp ρ o).run P W= .ok (.enter f args) W/\Calls P f args W fun e W'=>e= .returned V/\Ext W W'):bM P ops L a0 w0 bor X0 us cr kl D i:=
 Eu ho hg hdg hgv fun ρ β W X cx=>let ⟨_,_,h1,h2⟩:=h ρ β W X cx
  ak.call h1 (h2.mono fun _ _ ⟨he,hx⟩=>⟨V,he,bK [] hk (by rw[hc];rfl) hx (by simp) List.Pairwise.nil (fun c k X' _ _ hv _=>hD c k X' (hv d hd).1)⟩)
theorem lq{i n:Nat}(h:Nat.ble (i+1) n=true:=by rfl):i<n:=Nat.le_of_ble_eq_true h
end
theorem aa{a:Act}(h:next a w):Exit.then next Q .normal a w:=h
theorem al{a:Act}(h:Q (.exit id) a w):Exit.then next Q (.exit id) a w:=h
theorem ai{a:Act}(h:Q .ret a w):Exit.then next Q .ret a w:=h
theorem aq{a:Act}(h:Q .normal a w):Exit.inBlock id Q .normal a w:=h
theorem aY{a:Act}(h:Q .ret a w):Exit.inBlock id Q .ret a w:=h
theorem bf{a:Act}(h:Q .normal a w):Exit.inBlock id Q (.exit id) a w:=by simp only[Exit.inBlock,if_true];exact h
theorem Ho{a:Act}{w:World}{c:Code}(I:Nat->Act->World->Prop)(n0:Nat)(h₀:I n0 a w)
  (round:∀n a w,I n a w->c.wp P (Exit.then (fun a' w'=>∃m,m<n/\I m a' w') Q) a w):(Code.loop c).wp P Q a w:=by
 intro b k cs
 have key:∀n a w,I n a w->∃e a' w',Q e a' w'/\Arrives P (lone (b.at a (.code c:: .inLoop c::k)) cs w) b k cs e a' w':=by
  intro n
  induction n using Nat.strongRecOn with
  |_ n ih=>
   intro a w hI
   obtain⟨e,a₁,w₁,hq,harr⟩:=round n a w hI b (.inLoop c::k) cs
   cases e with
   |normal=>
    obtain⟨m,hlt,hI₁⟩:=hq
    obtain⟨e₂,a₂,w₂,hq₂,harr₂⟩:=ih m hlt a₁ w₁ hI₁
    exact⟨e₂,a₂,w₂,hq₂,.of_steps (Steps.trans harr (.one step_inLoop)) harr₂⟩
   |exit id=>exact⟨_,a₁,w₁,hq,.pass (x:= .inLoop c) rfl (fun _ _=> .inl (by simp)) harr⟩
   |goto l=>exact⟨_,a₁,w₁,hq,.pass (x:= .inLoop c) rfl (fun _ _=> .inl (by simp)) harr⟩
   |ret=>exact⟨_,a₁,w₁,hq,.pass (x:= .inLoop c) rfl (fun _ _=> .inl (by simp)) harr⟩
   |panic ch=>exact⟨_,a₁,w₁,hq,.pass (x:= .inLoop c) rfl (fun _ _=> .inl (by simp)) harr⟩
   |outgrown=>exact⟨_,a₁,w₁,hq,.pass (x:= .inLoop c) rfl (fun _ _=> .inl (by simp)) harr⟩
 obtain⟨e,a',w',hq,harr⟩:=key n0 a w h₀
 exact⟨e,a',w',hq,.of_steps (.one step_loop) harr⟩
theorem ed{c:Tmp->Value}(d:Tmp){v:Value}(h:c d=v):c d=v:=h
def jv(a:Act)(k:Nat):Value:=a.tmps.getD k undef
theorem exq{X:Nat->Ent}(q:Nat){e:Ent}(h:X q=e):X q=e:=h
section
variable{P:Program}{ops:Array Oper}{L:List Nat}{a0:Act}{w0:World}{bor:List Nat}{X0:List Ent}{us cr kl:List (List Nat)}
 {D:Nat->(Tmp->Value)->(Tmp->Value)->(Nat->Ent)->Prop}{i:Nat}{o:Oper}
theorem s0(ho:ops[i]? =some o)(h:∀{ρ:Operand->Value}{a:Tmp->Value}{W:World}{X:Nat->Ent},CtxV ops L a0 w0 bor X0 us D i ρ a W X->(execOp ρ o).run P W= .ok (.value V) W)
  (hg:o.guard=none:=by rfl) (hd:o.dst=some d:=by rfl) (hc:atV cr i=[]:=by rfl) (hk:atV kl i=[]:=by rfl) (hD:∀c a X,c d=V->D i c a X:=by exact fun _ _ _ h=>h):bM P ops L a0 w0 bor X0 us cr kl D i:=
 sv0 ho hg hd hc hk hD fun _ _ _ _ cx=>h cx
theorem s4(ho:ops[i]? =some o)(hD:∀c a X,c d=V->D i c a X)(h:∀{ρ:Operand->Value}{a:Tmp->Value}{W:World}{X:Nat->Ent},CtxV ops L a0 w0 bor X0 us D i ρ a W X->(execOp ρ o).run P W= .ok (.value V) W)
  (hg:o.guard=none:=by rfl) (hd:o.dst=some d:=by rfl) (hc:atV cr i=[]:=by rfl) (hk:atV kl i=[]:=by rfl):bM P ops L a0 w0 bor X0 us cr kl D i:=
 sv0 ho hg hd hc hk hD fun _ _ _ _ cx=>h cx
theorem s1(ho:ops[i]? =some o)(hgv:∀{ρ:Operand->Value}{a:Tmp->Value}{W:World}{X:Nat->Ent},CtxV ops L a0 w0 bor X0 us D i ρ a W X->ρ (.tmp dg)= .bool b)
  (h:∀{ρ:Operand->Value}{a:Tmp->Value}{W:World}{X:Nat->Ent},CtxV ops L a0 w0 bor X0 us D i ρ a W X->(execOp ρ o).run P W= .ok (.value V) W)
  (hg:o.guard=some (g,b):=by rfl) (hdg:bh ops g=some dg:=by rfl) (hd:o.dst=some d:=by rfl) (hc:atV cr i=[]:=by rfl) (hk:atV kl i=[]:=by rfl) (hD:∀c a X,c d=V->D i c a X:=by exact fun _ _ _ h=>h):bM P ops L a0 w0 bor X0 us cr kl D i:=
 EZ ho hg hdg hd hc hk hD (fun _ _ _ _ cx=>hgv cx) fun _ _ _ _ cx=>h cx
theorem s2(ho:ops[i]? =some o)(hgv:∀{ρ:Operand->Value}{a:Tmp->Value}{W:World}{X:Nat->Ent},CtxV ops L a0 w0 bor X0 us D i ρ a W X->ρ (.tmp dg)= .bool b')
  (hg:o.guard=some (g,b):=by rfl) (hdg:bh ops g=some dg:=by rfl) (hne:b'≠b:=by decide) (hc:atV cr i=[]:=by rfl) (hk:atV kl i=[]:=by rfl) (hD:∀c a X,(∀d,o.dst=some d->c d=undef)->D i c a X:=by first|exact fun _ _ _ h=>h _ rfl|exact fun _ _ _ _=>trivial):bM P ops L a0 w0 bor X0 us cr kl D i:=
 Mp ho hg hdg hne hc hk hD fun _ _ _ _ cx=>hgv cx
theorem s3(ho:ops[i]? =some o)(hgv:∀{ρ:Operand->Value}{a:Tmp->Value}{W:World}{X:Nat->Ent},CtxV ops L a0 w0 bor X0 us D i ρ a W X->ρ (.tmp dg)=undef)
  (hg:o.guard=some (g,b):=by rfl) (hdg:bh ops g=some dg:=by rfl) (hc:atV cr i=[]:=by rfl) (hk:atV kl i=[]:=by rfl) (hD:∀c a X,(∀d,o.dst=some d->c d=undef)->D i c a X:=by first|exact fun _ _ _ h=>h _ rfl|exact fun _ _ _ _=>trivial):bM P ops L a0 w0 bor X0 us cr kl D i:=
 Oz ho hg hdg hc hk hD fun _ _ _ _ cx=>hgv cx
end
end
section
open Go.RowKit
section
variable{P:Program}{ops:Array Oper}{L:List Nat}{a0:Act}{w0:World}{bor:List Nat}{X0:List Ent}{us cr kl:List (List Nat)}
 {D:Nat->(Tmp->Value)->(Tmp->Value)->(Nat->Ent)->Prop}{i:Nat}{o:Oper}{ρ:Operand->Value}{β:Tmp->Value}{W:World}{X:Nat->Ent}
theorem vY{t t':TypeId}{y:Operand}{k:IntKind}{a b z:Int}(h:o.op= .binOp .rem t x y t')(hx:ρ x= .int k a)(hy:ρ y= .int k b)(hb:b≠0)(hz:a.tmod b=z):(execOp ρ o).run P W= .ok (.value (.int k z)) W:=by
 subst hz
 unfold execOp;rw[h]
 simp[hx,hy,eqGuard,binOp,Op.intDiv,hb]
theorem KE{t t':TypeId}{y:Operand}{k:IntKind}{a b z:Int}(h:o.op= .binOp .quo t x y t')(hx:ρ x= .int k a)(hy:ρ y= .int k b)(hb:b≠0)(hz:k.wrap (a.tdiv b)=z):(execOp ρ o).run P W= .ok (.value (.int k z)) W:=by
 subst hz
 unfold execOp;rw[h]
 simp[hx,hy,eqGuard,binOp,Op.intDiv,hb]
theorem KJ{t t':TypeId}{y:Operand}{k:IntKind}{a b z:Int}(h:o.op= .binOp .and t x y t')(hx:ρ x= .int k a)(hy:ρ y= .int k b)(hz:k.wrap ((BitVec.ofInt k.bits a&&& BitVec.ofInt k.bits b).toNat:Int)=z):(execOp ρ o).run P W= .ok (.value (.int k z)) W:=by
 subst hz
 unfold execOp;rw[h]
 simp[hx,hy,eqGuard,binOp,Op.intBits]
theorem w9(a:Int)(n:Nat)(hn:n<=62):IntKind.i64.wrap ((BitVec.ofInt 64 a&&& BitVec.ofInt 64 (2^n-1)).toNat:Int)=a % 2^n:=by
 have h2:(BitVec.ofInt 64 ((2:Int)^n-1)).toNat=2^n-1:=by
  rw[BitVec.toNat_ofInt]
  have hp:(2:Int)^n=((2^n:Nat):Int):=by simp
  have h1:1<=2^n:=Nat.one_le_two_pow
  have h3:2^n<=2^62:=Nat.pow_le_pow_right (by omega) hn
  rw[hp]
  have h4:(2:Nat)^62=4611686018427387904:=by decide
  rw[h4] at h3
  omega
 have h3:(BitVec.ofInt 64 a&&& BitVec.ofInt 64 (2^n-1)).toNat=(BitVec.ofInt 64 a).toNat % 2^n:=by
  rw[BitVec.toNat_and,h2,Nat.and_two_pow_sub_one_eq_mod]
 rw[h3,BitVec.toNat_ofInt]
 have hd:(2:Nat)^64=2^n*2^(64-n):=by rw[<-Nat.pow_add];congr 1;omega
 have hlt:2^n<=2^62:=Nat.pow_le_pow_right (by omega) hn
 have h62:(2:Nat)^62=4611686018427387904:=by decide
 have hpos:0<2^n:=Nat.two_pow_pos n
 have e:(((a % ((2^64:Nat):Int)).toNat % 2^n:Nat):Int)=a % 2^n:=by
  have h0:0<=a % ((2^64:Nat):Int):=Int.emod_nonneg _ (by decide)
  rw[Int.natCast_emod,Int.toNat_of_nonneg h0,hd]
  push_cast
  exact Int.emod_emod_of_dvd _ (Int.dvd_mul_right _ _)
 rw[e]
 have h5:0<=a % 2^n:=Int.emod_nonneg _ (by have:(2:Int)^n=((2^n:Nat):Int):=by simp
                                           rw[this];omega)
 have h6:a % 2^n<2^n:=Int.emod_lt_of_pos _ (by have:(2:Int)^n=((2^n:Nat):Int):=by simp
                                               rw[this];omega)
 have h7:(2:Int)^n=((2^n:Nat):Int):=by simp
 refine IntWalk.i64_in _ ⟨by omega,?_⟩
 rw[h7] at h6 |-
 omega
theorem cD{c:Call}{f:FuncId}{first cap args':Array Value}(h:o.op= .call c)(hcal:c.callee= .value x)(hx:ρ x= .func (.func f) first cap)(hf:gD P f=true)(ha:c.args.map ρ=args)(hargs:first++args++cap=args'):
  (execOp ρ o).run P W= .ok (.enter f args') W:=by
 subst hargs
 unfold gD at hf
 split at hf
 ·rename_i fn hfn
  simp only[Bool.and_eq_true,Bool.not_eq_true'] at hf
  have hb:fn.body.isNone=false:=by
   cases hh:fn.body with
   |none=>rw[hh] at hf;simp at hf
   |some _=>rfl
  unfold execOp;rw[h]
  simp only[resolve,hcal,hx,Deferred.ofValue,ha,Sem.run_bind,Sem.run_pure,Result.andThen_ok,invoke,callFunc,program,Sem.run,hfn,hf.2,hb]
  simp
 ·cases hf
theorem zx{ls:List Int}(h:m<ls.length):(ls.map (Value.int .i64))[m]? =some (.int .i64 (ls.getD m 0)):=by simp[h]
theorem jz{ls:List ByteArray}(h:m<ls.length):(ls.map Value.string)[m]? =some (.string (ls.getD m ByteArray.empty)):=by simp[h]
theorem KN{ls:List Int}(h:m<ls.length):(ls.map (Value.int .u8))[m]? =some (.int .u8 (ls.getD m 0)):=by simp[h]
end
def Ret(v:Value)(w:World)(e:Ending)(w':World):Prop:=e= .returned v/\Ext w w'
theorem Ret.of{a b:Value}(h:a=b)(hx:Ext w w'):Ret b w (.returned a) w':=⟨by rw[h],hx⟩
theorem Ret.bool{a:Bool}(h:a=b)(hx:Ext w w'):Ret (.bool b) w (.returned (.bool a)) w':=⟨by rw[h],hx⟩
theorem Ret.int{k:IntKind}{a b:Int}(h:a=b)(hx:Ext w w'):Ret (.int k b) w (.returned (.int k a)) w':=⟨by rw[h],hx⟩
def pb':Value->Nat
 | .slice (some a) _ _=>a.block
 |_=>0
theorem At.of_ownN{e:TypeId}{n c:Nat}(h:w.ownsRow base e sz (.slice A n c) m xs):At w A xs:=by
 intro j u hj
 rcases h.2 with ⟨hv,hm⟩|⟨g,cap,cur,hv,hb,hh,_⟩
 ·have:=h.1;subst hm
  have hx:xs=[]:=List.eq_nil_of_length_eq_zero (by simpa using this)
  subst hx;simp at hj
 ·have hA:A=some ⟨g,0,none⟩:=by injection hv
  subst hA
  exact⟨_,rfl,(Array.getElem?_eq_some_iff.1 hh).1,h.cells (g:=g) rfl j u hj⟩
theorem E3{e:TypeId}{v:Value}{n:Nat}(h:w.ownsRow base e sz v n xs):∃A c,v= .slice A n c:=by
 rcases h.2 with ⟨rfl,rfl⟩|⟨g,cap,cur,rfl,_⟩
 ·exact⟨_,_,rfl⟩
 ·exact⟨_,_,rfl⟩
theorem lh{e n c:Nat}(h:w.ownsRow base e sz (.slice A n c) n xs):n<=c:=by
 rcases h.2 with ⟨hv,_⟩|⟨g,cap,cur,hv,_,_,hc,_⟩
 ·injection hv with h1 h2 h3;omega
 ·injection hv with h1 h2 h3;omega
section
variable{P:Program}{ops:Array Oper}{L:List Nat}{a0:Act}{w0:World}{bor:List Nat}{X0:List Ent}{us cr kl:List (List Nat)}
 {D:Nat->(Tmp->Value)->(Tmp->Value)->(Nat->Ent)->Prop}{i:Nat}{o:Oper}{ρ:Operand->Value}{β:Tmp->Value}{W:World}{X:Nat->Ent}
theorem jA{y:Operand}{ts:Array TypeId}{k:IntKind}{a b z:Int}(h:o.op= .call {callee:= .builtin .min,args:=#[x,y],argTypes:=ts})(hx:ρ x= .int k a)(hy:ρ y= .int k' b)(hz:min a b=z):(execOp ρ o).run P W= .ok (.value (.int k z)) W:=by
 subst hz
 unfold execOp;rw[h]
 simp only[resolve,invoke,builtin,List.map_toArray,List.map_cons,List.map_nil,hx,hy,Sem.run_bind,Sem.run_pure,Result.andThen_ok]
 have e:(Builtin.min_ ts o.type #[.int k a,.int k' b]).run P W= .ok (.int k (min a b)) W:=by
  unfold Builtin.min_
  show (List.foldlM Builtin.min2 (.int k a) [.int k' b]).run P W= _
  simp only[List.foldlM_cons,List.foldlM_nil,Builtin.min2]
  have h2:(if b<a then b else a)=min a b:=by omega
  rw[h2]
  rfl
 rw[e]
 rfl
theorem kR{t e:TypeId}{y:Operand}{n c:Nat}{v:Value}(h:o.op= .store t x y)(hx:ρ x= .pointer (some ((ad A).add m)))(hy:ρ y=v)(hz:szP P t=some 1)(hn:v.cells=#[v])
  (h1:v.oneCell'=true) (cx:CtxV ops L a0 w0 bor X0 us D i ρ β W X) (hX:X q=eO e 1 (.slice A n c) n xs) (hu:(atV us i).contains q=true) (hm:m<n) (hd:o.dst=none) (jJ:xs.set m v=xs')
  (hc:atV cr i=[q']) (hk:atV kl i=[q]) (hD:∀(l f:Tmp->Value) (X':Nat->Ent),(∀t,l t=ρ (.tmp t))->(∀t,f t=β t)->X' q'=eO e 1 (.slice A n c) n xs'->D i l f X'):ak P o ρ W (bQ cr kl D i o.dst ρ β W X):=by
 subst jJ
 have hok:=cx.ok q hu
 rw[hX] at hok
 have hown:W.ownsRow 0 e 1 (.slice A n c) n xs:=hok.holds
 obtain⟨g,rfl⟩:∃g,A=some ⟨g,0,none⟩:=by
  rcases hown.2 with ⟨hv,hm0⟩|⟨g,cap,cur,hv,_⟩
  ·omega
  ·injection hv with h1 h2 h3;exact⟨g,h1⟩
 have hlen:xs.length=n:=by have:=hown.1;omega
 have hcell:W.cell? ⟨g,m,none⟩=some (xs[m]'(by omega)):=by
  rw[hown.cellAt m (by omega)]
  exact List.getElem?_eq_getElem (by omega)
 have hfz:=hown.frozenAt m
 have bb:=(hown.stored m v).1
 have hadd:(ad (some ⟨g,0,none⟩)).add m=⟨g,m,none⟩:=by rw[ad,Option.getD_some,Addr.add_lit,Nat.zero_add]
 have hrun:(execOp ρ o).run P W= .ok .skip (W.setCell ⟨g,m,none⟩ v):=by
  unfold execOp;rw[h]
  have hsz:v.cells.size=1:=by rw[hn];rfl
  simp only[hx,hy,hadd,Instr.storeAt,Instr.sureAddr,storeVar,Sem.run_bind,Sem.run_pure,Result.andThen_ok,c8 hz,hsz,ne_eq,not_true_eq_false,if_false]
  have e1:(storeCells ⟨g,m,none⟩ v.cells.toList 0).run P W= .ok () (W.setCell ⟨g,m,none⟩ v):=by
   rw[hn]
   have fQ:(store ((⟨g,m,none⟩:Addr).add 0) v).run P W= .ok () (W.setCell ⟨g,m,none⟩ v):=by
    rw[Addr.add_lit]
    unfold store
    cases v<;>first|(simp[Value.oneCell'] at h1;done)|(simp[Sem.run,hcell,hfz])
   show (storeCells ⟨g,m,none⟩ [v] 0).run P W= _
   unfold storeCells
   simp only[Sem.run_bind,fQ,Result.andThen_ok]
   rfl
  rw[e1]
  rfl
 refine ak.skip hrun ⟨[eO e 1 (.slice (some ⟨g,0,none⟩) n c) n (xs.set m v)],by rw[hc];rfl,⟨?_,fun e' he=>?_,List.pairwise_singleton _ _⟩,fun l f X' hs hv hb' hbv hx' hN=>hD l f X' (fun t=>hs t (by rw[hd];simp)) (fun t=>hb' t (by rw[hd];simp)) ?_⟩
 ·rw[hk]
  simp only[List.flatMap_cons,List.flatMap_nil,List.append_nil,hX]
  exact(Upd.refl _ W).set (.inl (by simp[eO,Value.ownBlock])) v
 ·rw[List.mem_singleton] at he
  subst he
  refine⟨bb,gg _ _ _ _ _,fun k hk'=>?_⟩
  have hkb:k=g:=by simpa[eO,Value.ownBlock] using hk'
  subst hkb
  refine⟨.inl ?_,fe bb k rfl⟩
  rw[hk]
  simp[hX,eO,Value.ownBlock]
 ·rw[hc] at hN
  exact(List.cons.inj hN).1
theorem i6{s:Operand}{t ty:TypeId}(ho:o.op= .call {callee:= .builtin .append,args:=#[s,x],argTypes:=#[t,t]})(hty:ty=t)
  {e:TypeId}{inf:TypeInfo}{z:Value}(ht:P.underlying t=some (.slice e)) (hi:P.info? e=some inf) (hz:inf.zero=some z)
  (hsize:inf.size=sz) (hby:inf.bytes=bytes) (hzs:z.cells.size=sz) (hsz:0<sz){v:Value}{n:Nat}(hs:ρ s=v) (cx:CtxV ops L a0 w0 bor X0 us D i ρ β W X) (hX:X q=eO e sz v n xs) (hu:(atV us i).contains q=true)
  {a:Addr}{cp:Nat}{news:List Value}(hx:ρ x= .slice (some a) m cp) (hl:news.length=m*sz) (hA:At W (some a) news) (h1:∀u∈news,u.oneCell'=true)
  (h63:n+m<=maxLen) (hbytes:(n+m)*bytes<=140737488355328) (hd:o.dst=some d) (hc:atV cr i=[q']) (hk:atV kl i=[q]){nm:Nat}(hnm:n+m=nm) (jJ:xs++news=xs')
  (hD:∀(f c:Tmp->Value) (X':Nat->Ent),(∀t,t≠d->f t=ρ (.tmp t))->(∀t,t≠d->c t=β t)->f d= .slice (sA (c d)) nm (sC (c d))->X' q'=eO e sz (.slice (sA (c d)) nm (sC (c d))) nm xs'->D i f c X'):
  ak P o ρ W (bQ cr kl D i o.dst ρ β W X):=by
 have hok:=cx.ok q hu
 rw[hX] at hok
 have hown:W.ownsRow 0 e sz v n xs:=hok.holds
 obtain⟨v',W',hrun,hown',hg,_,hat⟩:=run_append_own_at (P:=P) W 0 t o.type e inf z sz bytes ht hi hz hsize hby hzs hsz v n xs hown a m cp news hl hA.at_ h1 h63 hbytes (Nat.zero_le _)
 have hr:(execOp ρ o).run P W= .ok (.value v') W':=by
  unfold execOp
  simp only[ho,resolve,invoke,builtin,Sem.run_bind,Sem.run_pure,Result.andThen_ok,List.map_toArray,List.map_cons,List.map_nil,hs,hx,hrun]
 subst hnm;subst jJ
 obtain⟨A',c',rfl⟩:=E3 hown'
 have hin:∀k,(v.ownBlock=some k)->k∈((atV kl i).flatMap fun q=>(X q).fp):=fun k hk'=>by
  rw[hk]
  simp only[List.flatMap_cons,List.flatMap_nil,List.append_nil,hX]
  simp[eO,hk']
 refine ak.value hr ⟨[eO e sz (.slice A' (n+m) c') (n+m) (xs++news)],by rw[hc];rfl,⟨(Upd.refl _ W).grown hg fun k hk'=> .inl (hin k hk'),fun e' he=>?_,List.pairwise_singleton _ _⟩,fun f c X' hs' hv hb hbv hx' hN=>hD f c X' (fun t ht=>hs' t (by rw[hd];simpa using ht.symm)) (fun t ht=>hb t (by rw[hd];simpa using ht.symm)) ?_ ?_⟩
 ·rw[List.mem_singleton] at he
  subst he
  refine⟨hown',gg _ _ _ _ _,fun k hk'=>?_⟩
  have h2:(Value.slice A' (n+m) c').ownBlock=some k:=by simpa[eO] using hk'
  refine⟨?_,fe hown' k h2⟩
  rcases hat with h3|h3
  ·exact .inl (hin k (h3.symm.trans h2))
  ·right
   rw[h3] at h2
   injection h2 with h2
   omega
 ·rw[hv d hd,hbv d hd];rfl
 ·rw[hbv d hd]
  rw[hc] at hN
  exact(List.cons.inj hN).1
theorem ml{t e:TypeId}{n:Nat}(h:o.op= .buildSlice t n parts)(hrun:(execOp ρ o).run P W= .ok (.value (.slice (some ⟨W.heap.size,0,none⟩) n n)) (W.alloc (.cells xs.toArray e)))
  (hn:xs.length=n*sz) (hm:n<=maxLen) (hd:o.dst=some d) (hc:atV cr i=[q])
  (hD:∀(c a:Tmp->Value) (X':Nat->Ent),(∀t,t≠d->c t=ρ (.tmp t))->(∀t,t≠d->a t=β t)->c d= .slice (some ⟨pb' (a d),0,none⟩) n n->X' q=eO e sz (.slice (some ⟨pb' (a d),0,none⟩) n n) n xs->D i c a X'):
  ak P o ρ W (bQ cr kl D i o.dst ρ β W X):=by
 have ho:(W.alloc (.cells xs.toArray e)).ownsRow W.heap.size e sz (.slice (some ⟨W.heap.size,0,none⟩) n n) n xs:=by
  have:=World.ownsRow_lit (base:=W.heap.size) (e:=e) (size:=sz) W xs.toArray n (Nat.le_refl _) hm (by simpa using hn)
  simpa using this
 refine ak.value hrun ⟨[eO e sz (.slice (some ⟨W.heap.size,0,none⟩) n n) n xs],by rw[hc];rfl,⟨(Upd.refl _ _).alloc _,fun e' he=>?_,List.pairwise_singleton _ _⟩,fun c a X' hs' hv hb hbv hx' hN=>hD c a X' (fun t ht=>hs' t (by rw[hd];simpa using ht.symm)) (fun t ht=>hb t (by rw[hd];simpa using ht.symm)) ?_ ?_⟩
 ·rw[List.mem_singleton] at he
  subst he
  obtain⟨h1,h2,h3⟩:=cf ho
  exact⟨h1,h2,fun k hk=>⟨.inr (h3 k hk).1,(h3 k hk).2⟩⟩
 ·rw[hv d hd,hbv d hd];rfl
 ·rw[hbv d hd]
  rw[hc] at hN
  exact(List.cons.inj hN).1
theorem K1{t e:TypeId}{y:Operand}{k:IntKind}{n:Nat}{j':Int}{inf:TypeInfo}{z:Value}(h:o.op= .makeSlice t x y)(ht:P.underlying t=some (.slice e))(hi:P.info? e=some inf)(hz:inf.zero=some z)(hsize:inf.size=1)(hby:inf.bytes=bytes)(hzs:z.cells=#[z])
  (hx:ρ x= .int k j) (hy:ρ y= .int k' j') (hj:j=(n:Int)) (hj':j'=(n:Int)) (hn:n<=16777216) (hb:bytes*n<=281474976710656) (hd:o.dst=some d) (hc:atV cr i=[q])
  (hD:∀(f c:Tmp->Value) (X':Nat->Ent),(∀t,t≠d->f t=ρ (.tmp t))->(∀t,t≠d->c t=β t)->f d= .slice (sA (c d)) n n->X' q=eO e 1 (.slice (sA (c d)) n n) n (List.replicate n z)->D i f c X'):
  ak P o ρ W (bQ cr kl D i o.dst ρ β W X):=by
 subst hj;subst hj';subst hby
 obtain⟨W',hrun,ho,hg⟩:=run_makeSlice_full (P:=P) W W.heap.size t e inf z 1 ht hi hz hsize k k' n (by omega) hb (by simp only[maxLen];omega) (Nat.le_refl _)
 rw[hzs,toList_madeCells_one,Nat.mul_one] at ho
 have hr:(execOp ρ o).run P W= .ok (.value (.slice (some ⟨W.heap.size,0,none⟩) n n)) W':=by
  unfold execOp;rw[h]
  simp only[hx,hy,Sem.run_bind,hrun,Result.andThen_ok,Sem.run_pure]
 refine ak.value hr ⟨[eO e 1 (.slice (some ⟨W.heap.size,0,none⟩) n n) n (List.replicate n z)],by rw[hc];rfl,⟨(Upd.refl _ W).grown hg (fun k hk=>by cases hk),fun e' he=>?_,List.pairwise_singleton _ _⟩,fun f c X' hs' hv hb hbv hx' hN=>hD f c X' (fun t ht=>hs' t (by rw[hd];simpa using ht.symm)) (fun t ht=>hb t (by rw[hd];simpa using ht.symm)) ?_ ?_⟩
 ·rw[List.mem_singleton] at he
  subst he
  obtain⟨h1,h2,h3⟩:=cf ho
  exact⟨h1,h2,fun k hk=>⟨.inr (h3 k hk).1,(h3 k hk).2⟩⟩
 ·rw[hv d hd,hbv d hd];rfl
 ·rw[hbv d hd]
  rw[hc] at hN
  exact(List.cons.inj hN).1
theorem k8{t t' e e' base:TypeId}{n c:Nat}{bs:List Int}(h:o.op= .convert t t' x)(ht:P.underlying t=some (.slice e))(he:P.underlying e=some (.int .u8))(ht':P.underlying t'=some .string)
  (hx:ρ x= .slice A n c) (hA:W.ownsRow base e' 1 (.slice A n c) n (bs.map (Value.int .u8))):(execOp ρ o).run P W= .ok (.value (.string (strOfNums bs))) W:=by
 have hn:bs.length=n:=by have:=hA.1;simpa using this
 have hr:(convert t t' (.slice A n c)).run P W= .ok (.string (strOfNums bs)) W:=by
  rcases hA.2 with ⟨hv,h0⟩|⟨g,cap,cur,hv,_⟩
  ·injection hv with h1 h2 h3
   subst h1
   have hb:bs=[]:=List.eq_nil_of_length_eq_zero (by omega)
   subst hb
   exact run_convert_bytes_nil W t e ht he n c t' ht'
  ·injection hv with h1 h2 h3
   subst h1
   refine run_convert_bytes_arg W t e ht he g 0 n c bs hn (fun i hi=>?_) t' ht'
   rw[Nat.zero_add,hA.cellAt i (by omega)]
   exact KN (by omega)
 unfold execOp;rw[h]
 simp only[hx,Sem.run_bind,hr,Result.andThen_ok,Sem.run_pure]
theorem vV{v:Value}(N:List Ent)(hk:atV kl i=[])(hl:N.length=(atV cr i).length)(h:St W [] N W')
  (hD:∀(f c:Tmp->Value) (X':Nat->Ent),(∀t,o.dst≠some t->f t=ρ (.tmp t))->(∀t,o.dst≠some t->c t=β t)->(∀d,o.dst=some d->f d=v/\c d=v)->(atV cr i).map X'=N->D i f c X'):bQ cr kl D i o.dst ρ β W X v W':=
 bK N hk hl h.ext (fun e he=>⟨(h.ok e he).holds,(h.ok e he).loc,fun k hk'=>⟨((h.ok e he).own k hk').1.resolve_left (by simp),((h.ok e he).own k hk').2⟩⟩) h.apart hD
theorem lQ{t e:TypeId}{y:Operand}{n c:Nat}{k:IntKind}(h:o.op= .slice t x none (some y) none)(ht:P.underlying t=some (.slice e))(hz:szP P e=some sz)
  (hx:ρ x= .slice A n c) (hy:ρ y= .int k j) (hj:j=(m:Int)) (hm:m<=c):(execOp ρ o).run P W= .ok (.value (.slice A m c)) W:=by
 subst hj
 unfold execOp;rw[h]
 have h1:(0:Int)<=(m:Int)/\(m:Int)<=((c:Nat):Int):=⟨by omega,by omega⟩
 have h2:(if c=0 then A else A.map (·.add (0*sz)))=A:=by
  split
  ·rfl
  ·rw[Nat.zero_mul]
   cases A with
   |none=>rfl
   |some a=>simp[Addr.add]
 simp only[hx,hy,Option.map_some,Option.map_none,Instr.sliceAt,Instr.slice,Sem.run_bind,run_underlying ht,Result.andThen_ok,Instr.sliceBounds,Instr.sliceBound,asIntOf,Sem.run_pure,h1,and_self,if_true,c8 hz]
 simp
 intro _
 cases A with
 |none=>rfl
 |some a=>simp[Addr.add]
theorem xF{t e:TypeId}{y:Operand}{n c l:Nat}{k:IntKind}(h:o.op= .slice t x (some y) none none)(ht:P.underlying t=some (.slice e))(hz:szP P e=some sz)
  (hx:ρ x= .slice A n c) (hy:ρ y= .int k j) (hj:j=(l:Int)) (hl:l<=n):(execOp ρ o).run P W= .ok (.value (.slice (if c=l then A else A.map (·.add (l*sz))) (n-l) (c-l))) W:=by
 subst hj
 unfold execOp;rw[h]
 have h1:(0:Int)<=(l:Int)/\(l:Int)<=((n:Nat):Int):=⟨by omega,by omega⟩
 simp only[hx,hy,Option.map_some,Option.map_none,Instr.sliceAt,Instr.slice,Sem.run_bind,run_underlying ht,Result.andThen_ok,Instr.sliceBounds,Instr.sliceBound,asIntOf,Sem.run_pure,h1,and_self,if_true,c8 hz]
 simp
end
def mb(c:Bool)(v:Value):Value:=bif c then v else undef
theorem zB:(∀{a b:Bool},((a||b)=true)<->(a=true\/b=true))/\(∀{a b:Bool},((a&&b)=true)<->(a=true/\b=true))/\(∀{a b:Bool},((a||b)=false)<->(a=false/\b=false))/\(∀{a b:Bool},((a&&b)=false)<->(a=false\/b=false))/\
  (∀{p:Prop} [Decidable p],(decide p=true)<->p)/\(∀{p:Prop} [Decidable p],(decide p=false)<->¬p)/\(∀{b:Bool},((!b)=true)<->b=false)/\(∀{b:Bool},((!b)=false)<->b=true)/\
  (∀{a b:Int},((a==b)=true)<->a=b)/\(∀{a b:Int},((a==b)=false)<->a≠b)/\(∀{a b:Int},((a != b)=true)<->a≠b)/\(∀{a b:Int},((a != b)=false)<->a=b):=by
 refine⟨?_,?_,?_,fun {a b}=>by cases a<;>cases b<;>simp,?_,?_,?_,?_,?_,?_,?_,?_⟩<;>intros<;>simp
theorem mbv{q:Bool}{v u:Value}(h:u=mb q v)(hq:q=true):u=v:=by rw[h,hq];rfl
theorem cq.maybe{d:Nat}{c x q:Bool}(hg:o.guard=some (g,b))(hd:bh ops g=some d)(hv:ρ (.tmp d)=mb c (.bool x))(hq:(c&&(x==b))=q)(hy:q=true->yes)(hn:q=false->no):cq ops ρ o yes no:=by
 cases c with
 |false=>
  have:q=false:=by rw[<-hq];rfl
  exact cq.un hg hd hv (hn this)
 |true=>
  by_cases e:x=b
  ·subst e
   exact cq.on hg hd hv (hy (by rw[<-hq];simp))
  ·exact cq.off hg hd hv e (hn (by rw[<-hq];cases x<;>cases b<;>simp_all))
section
variable{P:Program}{ops:Array Oper}{L:List Nat}{a0:Act}{w0:World}{bor:List Nat}{X0:List Ent}{us cr kl:List (List Nat)}
 {D:Nat->(Tmp->Value)->(Tmp->Value)->(Nat->Ent)->Prop}{i:Nat}{o:Oper}{ρ:Operand->Value}{W:World}
theorem m0(ho:ops[i]? =some o){c x q:Bool}(hD:∀f k X,f d=mb q V->D i f k X)(hgv:∀{ρ:Operand->Value}{k:Tmp->Value}{W:World}{X:Nat->Ent},CtxV ops L a0 w0 bor X0 us D i ρ k W X->ρ (.tmp dg)=mb c (.bool x))
  (h:∀{ρ:Operand->Value}{k:Tmp->Value}{W:World}{X:Nat->Ent},CtxV ops L a0 w0 bor X0 us D i ρ k W X->q=true->(execOp ρ o).run P W= .ok (.value V) W)
  (hg:o.guard=some (g,b):=by rfl) (hdg:bh ops g=some dg:=by rfl) (hd:o.dst=some d:=by rfl) (hc:atV cr i=[]:=by rfl) (hk:atV kl i=[]:=by rfl) (hq:(c&&(x==b))=q:=by simp):bM P ops L a0 w0 bor X0 us cr kl D i:=by
 intro ρ k W X cx
 rw[ho]
 refine cq.maybe hg hdg (hgv cx) hq (fun e=>ak.value (h cx e) ⟨[],by rw[hc];rfl,⟨Upd.refl _ _,by simp,List.Pairwise.nil⟩,fun f l X' hs hv hb hbv hx hN=>hD f l X' ?_⟩) fun e=>⟨hc,hk,fun f l hs hv hb hbv=>hD f l X ?_⟩
 ·rw[hv d hd,e];rfl
 ·rw[hv d hd,e];rfl
theorem m1(ho:ops[i]? =some o){c x q:Bool}(hD:∀k l X,k d=mb q V->D i k l X)(hgv:∀{ρ:Operand->Value}{l:Tmp->Value}{W:World}{X:Nat->Ent},CtxV ops L a0 w0 bor X0 us D i ρ l W X->ρ (.tmp dg)=mb c (.bool x))
  (h:∀{ρ:Operand->Value}{l:Tmp->Value}{W:World}{X:Nat->Ent},CtxV ops L a0 w0 bor X0 us D i ρ l W X->q=true->∃f args,(execOp ρ o).run P W= .ok (.enter f args) W/\Calls P f args W fun e W'=>e= .returned V/\Ext W W')
  (hg:o.guard=some (g,b):=by rfl) (hdg:bh ops g=some dg:=by rfl) (hd:o.dst=some d:=by rfl) (hc:atV cr i=[]:=by rfl) (hk:atV kl i=[]:=by rfl) (hq:(c&&(x==b))=q:=by simp):bM P ops L a0 w0 bor X0 us cr kl D i:=by
 intro ρ l W X cx
 rw[ho]
 refine cq.maybe hg hdg (hgv cx) hq (fun e=>?_) fun e=>⟨hc,hk,fun k n hs hv hb hbv=>hD k n X (by rw[hv d hd,e];rfl)⟩
 obtain⟨f,args,hr,hcall⟩:=h cx e
 refine ak.call hr (hcall.mono fun e' W' ⟨he,hx⟩=>⟨V,he,bK [] hk (by rw[hc];rfl) hx (by simp) List.Pairwise.nil fun k n X' hs hb hv hN=>hD k n X' ?_⟩)
 rw[(hv d hd).1,e];rfl
theorem m2(ho:ops[i]? =some o){x q:Bool}(hD:∀f e X,f d=mb q V->D i f e X)(hgv:∀{ρ:Operand->Value}{e:Tmp->Value}{W:World}{X:Nat->Ent},CtxV ops L a0 w0 bor X0 us D i ρ e W X->ρ (.tmp dg)= .bool x)
  (h:∀{ρ:Operand->Value}{e:Tmp->Value}{W:World}{X:Nat->Ent},CtxV ops L a0 w0 bor X0 us D i ρ e W X->q=true->(execOp ρ o).run P W= .ok (.value V) W)
  (hg:o.guard=some (g,b):=by rfl) (hdg:bh ops g=some dg:=by rfl) (hd:o.dst=some d:=by rfl) (hc:atV cr i=[]:=by rfl) (hk:atV kl i=[]:=by rfl) (hq:(x==b)=q:=by simp):bM P ops L a0 w0 bor X0 us cr kl D i:=
 m0 (c:=true) ho hD (fun cx=>hgv cx) h hg hdg hd hc hk (by rw[<-hq];simp)
theorem m3(ho:ops[i]? =some o){x q:Bool}(hD:∀l k X,l d=mb q V->D i l k X)(hgv:∀{ρ:Operand->Value}{k:Tmp->Value}{W:World}{X:Nat->Ent},CtxV ops L a0 w0 bor X0 us D i ρ k W X->ρ (.tmp dg)= .bool x)
  (h:∀{ρ:Operand->Value}{k:Tmp->Value}{W:World}{X:Nat->Ent},CtxV ops L a0 w0 bor X0 us D i ρ k W X->q=true->∃f args,(execOp ρ o).run P W= .ok (.enter f args) W/\Calls P f args W fun e W'=>e= .returned V/\Ext W W')
  (hg:o.guard=some (g,b):=by rfl) (hdg:bh ops g=some dg:=by rfl) (hd:o.dst=some d:=by rfl) (hc:atV cr i=[]:=by rfl) (hk:atV kl i=[]:=by rfl) (hq:(x==b)=q:=by simp):bM P ops L a0 w0 bor X0 us cr kl D i:=
 m1 (c:=true) ho hD (fun cx=>hgv cx) h hg hdg hd hc hk (by rw[<-hq];simp)
end
section
variable{P:Program}{o:Oper}{ρ:Operand->Value}{W:World}
theorem DQ{t t' e:TypeId}{y:Operand}{n c n' c':Nat}(h:o.op= .binOp .eql t x y t')(ht:P.underlying t=some (.slice e))(hx:ρ x= .slice A n c)(hy:ρ y= .slice none n' c')(hb:A.isNone=b):(execOp ρ o).run P W= .ok (.value (.bool b)) W:=by
 subst hb
 have hr:(Op.equal t (.slice A n c) (.slice none n' c')).run P W= .ok A.isNone W:=by
  unfold Op.equal Op.maxDepth Op.equalIn
  simp only[Sem.run_bind,run_underlying ht,Result.andThen_ok]
  cases A<;>rfl
 unfold execOp;rw[h]
 simp only[hx,hy,Sem.run_bind]
 have hg:(eqGuard .eql t x y (.slice A n c) (.slice none n' c')).run P W= .ok () W:=rfl
 rw[hg]
 simp only[Result.andThen_ok,binOp,Sem.run_bind,hr,Sem.run_pure]
end
end
section
open Go.RowKit
inductive TE where
 |n
 |a (d:Tmp)
 |k (d:Tmp) (v:Value)
 |c (d:Tmp) (v:Value)
 |e (d:Tmp) (raw v:Value) (h:raw=v)
 |s (d:Tmp) (side:Prop) (raw v:Value) (hs:side) (h:raw=v)
 |z (d:Tmp) (q:Bool) (v:Value)
 |y (d:Tmp) (q:Bool) (v:Value)
 |f (d:Tmp) (q:Bool) (side:Prop) (raw v:Value) (hs:q=true->side) (h:q=true->raw=v)
 |u (d:Tmp)
def TE.dst:TE->Option Tmp
 | .n=>none
 | .a _=>none
 | .k d _=>some d
 | .c d _=>some d
 | .e d _ _ _=>some d
 | .s d _ _ _ _ _=>some d
 | .z d _ _=>some d
 | .y d _ _=>some d
 | .f d _ _ _ _ _ _=>some d
 | .u d=>some d
def TE.on:TE->Bool
 | .z _ q _=>q
 | .y _ q _=>q
 | .f _ q _ _ _ _ _=>q
 | .u _=>false
 |_=>true
def TE.v:TE->Value
 | .n=>undef
 | .a _=>undef
 | .k _ v=>v
 | .c _ v=>v
 | .e _ _ v _=>v
 | .s _ _ _ v _ _=>v
 | .z _ _ v=>v
 | .y _ _ v=>v
 | .f _ _ _ _ v _ _=>v
 | .u _=>undef
def TE.val:TE->Value
 | .n=>undef
 | .a _=>undef
 | .k _ v=>v
 | .c _ v=>v
 | .e _ _ v _=>v
 | .s _ _ _ v _ _=>v
 | .z _ q v=>mb q v
 | .y _ q v=>mb q v
 | .f _ q _ _ v _ _=>mb q v
 | .u _=>undef
theorem TE.val_eq(t:TE):t.val=mb t.on t.v:=by cases t<;>rfl
def TE.apart:TE->Bool
 | .n=>true
 | .a _=>true
 | .c _ _=>true
 | .y _ _ _=>true
 |_=>false
def TE.side:TE->Prop
 | .s _ p _ _ _ _=>p
 | .f _ _ p _ _ _ _=>p
 |_=>True
def TE.raw:TE->Value
 | .e _ r _ _=>r
 | .s _ _ r _ _ _=>r
 | .f _ _ _ r _ _ _=>r
 |t=>t.v
theorem TE.ok(t:TE)(h:t.on=true):t.side/\t.raw=t.v:=by
 cases t with
 |s d side raw v hs h1=>exact⟨hs,h1⟩
 |e d raw v h1=>exact⟨trivial,h1⟩
 |f d q side raw v hs hr=>exact⟨hs h,hr h⟩
 |_=>exact⟨trivial,rfl⟩
def dT:List TE->Nat->(Tmp->Value)->Prop->Prop
 | [],_,_,p=>p
 |te:: _,0,h,p=>match te with
  | .n=>p
  | .a _=>p
  | .k d v=>h d=v
  | .c d v=>h d=v
  | .e d _ v _=>h d=v
  | .s d _ _ v _ _=>h d=v
  | .z d q v=>h d=mb q v
  | .y d q v=>h d=mb q v
  | .f d q _ _ v _ _=>h d=mb q v
  | .u d=>h d=undef
 |_::l,i+1,h,p=>dT l i h p
theorem ia:∀(tb:List TE) (i:Nat) (a:Tmp->Value) (p:Prop),dT tb i a p=match (tb.getD i .n).dst with
  |some d=>a d=(tb.getD i .n).val
  |none=>p
 | [],_,_,_=>rfl
 |te:: _,0,_,_=>by cases te<;>rfl
 |_::l,i+1,a,p=>ia l i a p
theorem dTn{tb:List TE}{a:Tmp->Value}{p:Prop}(h:dT tb i a p)(hn:(tb.getD i .n).dst=none:=by rfl):p:=by
 rw[ia,hn] at h;exact h
def uq(P:Program):List Field->Option (List (Nat×Nat))
 | []=>some []
 |f::l=>match szP P f.type,uq P l with
  |some n,some r=>some ((f.offset,n)::r)
  |_,_=>none
theorem uK:∀{fs:List Field}{pl:List (Nat×Nat)},uq P fs=some pl->(fs.mapM fun f=>(do pure (f.offset,<-sizeOf f.type):Sem (Nat×Nat))).run P W= .ok pl W
 | [],pl,h=>by
   cases h
   rw[List.mapM_nil]
   rfl
 |f::fs,pl,h=>by
  unfold uq at h
  split at h
  ·rename_i n r hn hr
   cases h
   rw[List.mapM_cons]
   simp only[Sem.run_bind,c8 hn,Result.andThen_ok,Sem.run_pure,uK hr]
  ·cases h
def qk(P:Program)(t:TypeId)(parts:List (Nat×Value)):Option (Array Value):=
 match lV P t,P.underlying t with
 |some zc,some (.struct fields)=>match uq P fields.toList with
  |some pl=>Instr.fill (pl.toArray[·]?) zc parts
  |none=>none
 |some zc,some (.array _ e)=>match szP P e with
  |some size=>Instr.fill (fun i=>some (i*size,size)) zc parts
  |none=>none
 |_,_=>none
theorem xm{t:TypeId}(h:o.op= .build t parts)(hb:qk P t (parts.toList.map fun p=>(p.1,ρ p.2))=some cs)(W:World):
  (execOp ρ o).run P W= .ok (.value (.agg cs)) W:=by
 unfold qk at hb
 split at hb
 ·rename_i zc fields hz hu
  split at hb
  ·rename_i pl hpl
   unfold lV at hz
   cases hi:P.info? t with
   |none=>rw[hi] at hz;cases hz
   |some inf=>
    rw[hi] at hz
    simp only[Option.bind_some] at hz
    cases hzv:inf.zero with
    |none=>rw[hzv] at hz;cases hz
    |some z=>
     rw[hzv] at hz
     have hcs:z.cells=zc:=Option.some.inj hz
     have h0:(zeroValue t).run P W= .ok z W:=by
      unfold zeroValue
      simp only[Sem.run_bind,run_typeInfo _ hi,Result.andThen_ok,hzv,Sem.run_pure]
     have hm:(fields.mapM fun f=>(do pure (f.offset,<-sizeOf f.type):Sem (Nat×Nat))).run P W= .ok pl.toArray W:=by
      have e:fields=fields.toList.toArray:=by simp
      rw[e,List.mapM_toArray]
      simp only[map_eq_pure_bind,Sem.run_bind,uK hpl,Result.andThen_ok,Sem.run_pure]
     have hpa:(parts.map fun x=>match x with|(i,x)=>(i,ρ x)).toList=parts.toList.map fun p=>(p.1,ρ p.2):=by simp
     unfold execOp;rw[h]
     simp only[Instr.build,Sem.run_bind,h0,Result.andThen_ok,run_underlying hu,hm,hcs,hpa,hb,Sem.run_pure]
  ·cases hb
 ·rename_i zc n e hz hu
  split at hb
  ·rename_i size hsz
   unfold lV at hz
   cases hi:P.info? t with
   |none=>rw[hi] at hz;cases hz
   |some inf=>
    rw[hi] at hz
    simp only[Option.bind_some] at hz
    cases hzv:inf.zero with
    |none=>rw[hzv] at hz;cases hz
    |some z=>
     rw[hzv] at hz
     have hcs:z.cells=zc:=Option.some.inj hz
     have h0:(zeroValue t).run P W= .ok z W:=by
      unfold zeroValue
      simp only[Sem.run_bind,run_typeInfo _ hi,Result.andThen_ok,hzv,Sem.run_pure]
     have hpa:(parts.map fun x=>match x with|(i,x)=>(i,ρ x)).toList=parts.toList.map fun p=>(p.1,ρ p.2):=by simp
     unfold execOp;rw[h]
     simp only[Instr.build,Sem.run_bind,h0,Result.andThen_ok,run_underlying hu,c8 hsz,hcs,hpa,hb,Sem.run_pure]
  ·cases hb
 ·cases hb
theorem pmn:([]:List (Nat×Operand)).map (fun p=>(p.1,ρ p.2))=[]:=rfl
theorem pmc{v:Value}{l:List (Nat×Operand)}{vs:List (Nat×Value)}(h:ρ x=v)(hl:l.map (fun p=>(p.1,ρ p.2))=vs):((i,x)::l).map (fun p=>(p.1,ρ p.2))=(i,v)::vs:=by
 rw[List.map_cons,hl,h]
theorem jX{t:TypeId}{vs:List (Nat×Value)}(h:o.op= .build t parts)(hm:parts.toList.map (fun p=>(p.1,ρ p.2))=vs)(hb:qk P t vs=some cs):
  (execOp ρ o).run P W= .ok (.value (.agg cs)) W:=xm h (by rw[hm];exact hb) W
def nD(l:Operand->Option Value):List (Nat×Operand)->Option (List (Nat×Value))
 | []=>some []
 |(i,x)::r=>match l x,nD l r with
  |some v,some r=>some ((i,v)::r)
  |_,_=>none
theorem qC{l:Operand->Option Value}(hl:∀x v,l x=some v->ρ x=v):∀{ps:List (Nat×Operand)}{r:List (Nat×Value)},nD l ps=some r->ps.map (fun p=>(p.1,ρ p.2))=r
 | [],r,h=>by cases h;rfl
 |(i,x)::ps,r,h=>by
  unfold nD at h
  split at h
  ·rename_i v r' hv hr
   cases h
   rw[List.map_cons,qC hl hr]
   simp[hl x v hv]
  ·cases h
def pOp(P:Program)(op:Op)(l:Operand->Option Value):Option (Prop×Value):=
 match op with
 | .move x=>(l x).map fun v=>(True,v)
 | .assign x=>(l x).map fun v=>(True,v)
 | .pick c a b=>match l c,l a,l b with
   |some (.bool c),some a,some b=>some (True,bif c then a else b)
   |_,_,_=>none
 | .extract x k=>match l x with
   |some (.tuple vs)=>(vs[k]?).map fun v=>(True,v)
   |_=>none
 | .fieldAddr t x f=>match l x,qx P t f with
   |some (.pointer (some ⟨b,off,none⟩)),some k=>some (True,.pointer (some ⟨b,off+k,none⟩))
   |_,_=>none
 | .nilCheck x=>match l x with
   |some (.pointer (some a))=>some (True,.pointer (some a))
   |_=>none
 | .unOp .not _ x=>match l x with
   |some (.bool b)=>some (True,.bool (!b))
   |_=>none
 | .binOp op t x y _=>match l x,l y with
   |some (.int k a),some (.int k' b)=>if k=k' then (match op with
    | .rem=>some (b≠0,.int k (a.tmod b))
    | .quo=>some (b≠0,.int k (k.wrap (a.tdiv b)))
    | .and=>some (True,.int k (k.wrap ((BitVec.ofInt k.bits a&&& BitVec.ofInt k.bits b).toNat:Int)))
    |op=>(uM op k a b).map fun v=>(True,v)) else none
   |some (.string a),some (.string b)=>match op with
    | .eql=>some (True,.bool (a.toList==b.toList))
    | .neq=>some (True,.bool (!(a.toList==b.toList)))
    | .add=>some (a.size+b.size<=9223372036854775807,.string (a++b))
    |_=>none
   |some (.slice A _ _),some (.slice none _ _)=>match op,P.underlying t with
    | .eql,some (.slice _)=>some (True,.bool A.isNone)
    |_,_=>none
   |_,_=>none
 | .convert t t' x=>match l x,P.underlying t' with
   |some (.int _ n),some (.int k')=>if (P.underlying t).isSome then some (True,.int k' (k'.wrap n)) else none
   |_,_=>none
 | .call ⟨.builtin .len,⟨[x]⟩,⟨[t]⟩⟩=>match l x,P.underlying t with
   |some (.string s),some .string=>some (True,.int .i64 s.size)
   |some (.slice _ n _),some (.slice _)=>some (True,.int .i64 n)
   |_,_=>none
 | .build t parts=>match nD l parts.toList with
   |some ps=>(qk P t ps).map fun cs=>(True,.agg cs)
   |none=>none
 |_=>none
theorem Bu{l:Operand->Option Value}(hl:∀x v,l x=some v->ρ x=v){side:Prop}{v:Value}(h:pOp P o.op l=some (side,v))(hs:side)(W:World):(execOp ρ o).run P W= .ok (.value v) W:=by
 generalize hop:o.op=op at h
 unfold pOp at h
 split at h
 ·rename_i x
  cases hx:l x with
  |none=>rw[hx] at h;cases h
  |some u=>rw[hx] at h;cases h;exact cM hop (hl _ _ hx)
 ·rename_i x
  cases hx:l x with
  |none=>rw[hx] at h;cases h
  |some u=>rw[hx] at h;cases h;exact cS hop (hl _ _ hx)
 ·rename_i c a b
  split at h
  ·rename_i c' a' b' hc ha hb
   cases h
   cases c' with
   |true=>exact uI hop (hl _ _ hc) (hl _ _ ha)
   |false=>exact ud hop (hl _ _ hc) (hl _ _ hb)
  ·cases h
 ·rename_i x k
  split at h
  ·rename_i vs hx
   cases hv:vs[k]? with
   |none=>rw[hv] at h;cases h
   |some u=>rw[hv] at h;cases h;exact bH hop (hl _ _ hx) hv
  ·cases h
 ·rename_i t x f
  split at h
  ·rename_i b off k hx hf
   cases h
   exact i7 hop hf (hl _ _ hx) rfl
  ·cases h
 ·rename_i x
  split at h
  ·rename_i a hx
   cases h
   exact jZ hop (hl _ _ hx)
  ·cases h
 ·rename_i x
  split at h
  ·rename_i b hx
   cases h
   exact Bl hop (hl _ _ hx) rfl
  ·cases h
 ·rename_i op t x y t2
  split at h
  ·rename_i k a k' b hx hy
   split at h
   ·rename_i hk
    subst hk
    split at h
    ·cases h
     exact vY hop (hl _ _ hx) (hl _ _ hy) hs rfl
    ·cases h
     exact KE hop (hl _ _ hx) (hl _ _ hy) hs rfl
    ·cases h
     exact KJ hop (hl _ _ hx) (hl _ _ hy) rfl
    ·cases hv:uM op k a b with
     |none=>rw[hv] at h;cases h
     |some u=>rw[hv] at h;cases h;exact mg hop (hl _ _ hx) (hl _ _ hy) hv
   ·cases h
  ·rename_i a b hx hy
   split at h
   ·cases h;exact Fe hop (hl _ _ hx) (hl _ _ hy)
   ·cases h;exact qo hop (hl _ _ hx) (hl _ _ hy)
   ·cases h;exact ub hop (hl _ _ hx) (hl _ _ hy) hs
   ·cases h
  ·rename_i A n c n' c' hx hy
   split at h
   ·rename_i e ht
    cases h
    exact DQ hop ht (hl _ _ hx) (hl _ _ hy) rfl
   ·cases h
  ·cases h
 ·rename_i t t' x
  split at h
  ·rename_i k n k' hx ht'
   split at h
   ·rename_i ht
    cases h
    exact FE hop ht ht' (hl _ _ hx) rfl
   ·cases h
  ·cases h
 ·rename_i x t
  split at h
  ·rename_i s hx ht
   cases h
   exact DY hop ht (hl _ _ hx)
  ·rename_i A n c e hx ht
   cases h
   exact qB hop ht (hl _ _ hx)
  ·cases h
 ·rename_i t parts
  split at h
  ·rename_i ps hps
   cases hb:qk P t ps with
   |none=>rw[hb] at h;cases h
   |some cs=>rw[hb] at h;cases h;exact xm hop (by rw[qC hl hps];exact hb) W
  ·cases h
 ·cases h
def gq(b x:Bool):Bool:=match b with
 |true=>x
 |false=>!x
def lN(tb:List TE):Option (Nat×Bool)->Option Bool
 |none=>some true
 |some (g,b)=>match tb.getD g .n with
  | .n=>none
  | .a _=>none
  | .u _=>some false
  |te=>match te.v with
   | .bool x=>some (te.on&&gq b x)
   |_=>none
def iW(t:Tmp):List Oper->List TE->Nat->Option (Nat×TE)
 |o::os,te::tb,j=>match o.dst with
  |some d=>bif Nat.beq d t then some (j,te) else iW t os tb (j+1)
  |none=>iW t os tb (j+1)
 |o::os,[],j=>match o.dst with
  |some d=>bif Nat.beq d t then some (j,.n) else iW t os [] (j+1)
  |none=>iW t os [] (j+1)
 | [],_,_=>none
def cQ(ops:Array Oper)(i:Nat):Option (Nat×Bool):=match ops[i]? with
 |some o=>o.guard
 |none=>none
def oo(ops:Array Oper):Nat->Option (Nat×Bool)->Option (Nat×Bool)->Nat->Bool
 |0,_,_,_=>false
 |fuel+1,some (g,b),gj,j=>(match gj with
   |some (g',b')=>Nat.beq g g'&&(b==b')
   |none=>true)||Nat.beq g j||oo ops fuel (cQ ops g) gj j
 |_+1,none,none,_=>true
 |_+1,none,some _,_=>false
def uL(ops:Array Oper)(L:List Nat)(t0:Array Value)(tb:List TE)(i:Nat):Operand->Option Value
 | .const v=>some v
 | .global g=>some (.pointer (some ⟨g,0,none⟩))
 | .func f=>some (.func (.func f) #[] #[])
 | .tmp t=>match iW t ops.toList tb 0 with
   |none=>some (t0.getD t undef)
   |some (j,te)=>bif ei L i j then (match te with
     | .n=>none
     | .a _=>none
     | .k _ v=>some v
     | .c _ v=>some v
     |te=>bif oo ops 4 (cQ ops i) (cQ ops j) j then some te.v else some te.val)
    else bif Nat.beq j i||ei L j i then some (t0.getD t undef) else none
theorem o3{t:Tmp}:∀{os:List Oper}{tb:List TE}{k j:Nat}{te:TE},iW t os tb k=some (j,te)->k<=j/\(os[j-k]?).bind (·.dst)=some t/\te=tb.getD (j-k) .n
 | [],_,_,_,_,h=>by cases h
 |o::os,te'::tb,k,j,te,h=>by
  have hrec:iW t os tb (k+1)=some (j,te)->k<=j/\((o::os)[j-k]?).bind (·.dst)=some t/\te=(te'::tb).getD (j-k) .n:=fun h=>by
   obtain⟨h1,h2,h3⟩:=o3 h
   have e:j-k=(j-(k+1))+1:=by omega
   rw[e]
   exact⟨by omega,by simpa using h2,by simpa using h3⟩
  unfold iW at h
  split at h
  ·rename_i d hd
   cases hb:Nat.beq d t with
   |true=>
    rw[hb] at h
    simp only[cond_true,Option.some.injEq,Prod.mk.injEq] at h
    obtain⟨rfl,rfl⟩:=h
    simp only[Nat.sub_self]
    exact⟨Nat.le_refl _,by simp[hd,Nat.eq_of_beq_eq_true hb],rfl⟩
   |false=>rw[hb] at h;exact hrec h
  ·exact hrec h
 |o::os,[],k,j,te,h=>by
  have hrec:iW t os [] (k+1)=some (j,te)->k<=j/\((o::os)[j-k]?).bind (·.dst)=some t/\te=([]:List TE).getD (j-k) .n:=fun h=>by
   obtain⟨h1,h2,h3⟩:=o3 h
   have e:j-k=(j-(k+1))+1:=by omega
   rw[e]
   exact⟨by omega,by simpa using h2,by simpa using h3⟩
  unfold iW at h
  split at h
  ·rename_i d hd
   cases hb:Nat.beq d t with
   |true=>
    rw[hb] at h
    simp only[cond_true,Option.some.injEq,Prod.mk.injEq] at h
    obtain⟨rfl,rfl⟩:=h
    simp only[Nat.sub_self]
    exact⟨Nat.le_refl _,by simp[hd,Nat.eq_of_beq_eq_true hb],rfl⟩
   |false=>rw[hb] at h;exact hrec h
  ·exact hrec h
theorem jK{t:Tmp}:∀{os:List Oper}{tb:List TE}{k:Nat},iW t os tb k=none->∀j:Nat,(os[j]?).bind (·.dst)≠some t
 | [],_,_,_,j=>by simp
 |o::os,te::tb,k,h,j=>by
  unfold iW at h
  split at h
  ·rename_i d hd
   cases hb:Nat.beq d t with
   |true=>rw[hb] at h;cases h
   |false=>
    rw[hb] at h
    cases j with
    |zero=>simp only[List.getElem?_cons_zero,Option.bind_some,hd,ne_eq,Option.some.injEq];exact Nat.ne_of_beq_eq_false hb
    |succ j=>simpa using jK h j
  ·rename_i hd
   cases j with
   |zero=>simp[hd]
   |succ j=>simpa using jK h j
 |o::os,[],k,h,j=>by
  unfold iW at h
  split at h
  ·rename_i d hd
   cases hb:Nat.beq d t with
   |true=>rw[hb] at h;cases h
   |false=>
    rw[hb] at h
    cases j with
    |zero=>simp only[List.getElem?_cons_zero,Option.bind_some,hd,ne_eq,Option.some.injEq];exact Nat.ne_of_beq_eq_false hb
    |succ j=>simpa using jK h j
  ·rename_i hd
   cases j with
   |zero=>simp[hd]
   |succ j=>simpa using jK h j
theorem uE{j:Nat}:(ops.toList[j]?).bind (·.dst)=bh ops j:=by
 unfold bh;rw[Array.getElem?_toList]
abbrev Chk:=Option Tmp×Option Bool×Option (Prop×Value)
def goT(P:Program)(ops:Array Oper)(L:List Nat)(t0:Array Value)(tb:List TE)(i:Nat)(te:TE):Chk:=match te with
 | .n=>(none,none,none)
 | .a d=>(bh ops i,none,none)
 | .u _=>(bh ops i,lN tb (cQ ops i),none)
 | .c _ _=>(bh ops i,lN tb (cQ ops i),none)
 | .y _ _ _=>(bh ops i,lN tb (cQ ops i),none)
 |_=>(bh ops i,lN tb (cQ ops i),match ops[i]? with
  |some o=>pOp P o.op (uL ops L t0 tb i)
  |none=>none)
def jp(te:TE):Chk:=match te with
 | .n=>(none,none,none)
 | .a d=>(some d,none,none)
 | .u d=>(some d,some false,none)
 | .c d _=>(some d,some true,none)
 | .y d q _=>(some d,some q,none)
 |te=>(te.dst,some te.on,some (te.side,te.raw))
theorem GI{t0:Array Value}{tb:List TE}{te:TE}(h:te.apart=false)(hon:te.on=true):goT P ops L t0 tb i te=(bh ops i,lN tb (cQ ops i),match ops[i]? with
  |some o=>pOp P o.op (uL ops L t0 tb i)
  |none=>none)/\jp te=(te.dst,some te.on,some (te.side,te.raw)):=by
 cases te<;>first|cases h;done|cases hon;done|exact⟨rfl,rfl⟩
theorem qD{tb:List TE}{r:Bool}(h:lN tb (some (g,b))=some r):(tb.getD g .n).dst≠none/\(((tb.getD g .n).on=false/\r=false)\/∃x,(tb.getD g .n).v= .bool x/\r=((tb.getD g .n).on&&gq b x)):=by
 have h':(match tb.getD g .n with
  | .n=>none
  | .a _=>none
  | .u _=>some false
  |te=>match te.v with
   | .bool x=>some (te.on&&gq b x)
   |_=>none)=some r:=h
 generalize tb.getD g .n=te at h' |-
 clear h
 split at h'
 ·cases h'
 ·cases h'
 ·injection h' with h
  exact⟨by simp[TE.dst],.inl ⟨rfl,h.symm⟩⟩
 ·rename_i h1 h2 h3
  split at h'
  ·rename_i x hx
   injection h' with h
   refine⟨?_,.inr ⟨x,hx,h.symm⟩⟩
   cases te<;>first|exact absurd rfl h1|exact absurd rfl (h2 _)|simp[TE.dst]
  ·cases h'
def nL(P:Program)(ops:Array Oper)(L:List Nat)(t0:Array Value)(tb:List TE):Nat->List TE->List Chk
 |_,[]=>[]
 |i,te::l=>goT P ops L t0 tb i te::nL P ops L t0 tb (i+1) l
theorem yU{t0:Array Value}{tb:List TE}:∀{l:List TE}{k i:Nat},nL P ops L t0 tb k l=l.map jp->i<l.length->goT P ops L t0 tb (k+i) (l.getD i .n)=jp (l.getD i .n)
 | [],_,_,_,h=>absurd h (Nat.not_lt_zero _)
 |te::l,k,i,h,hi=>by
  rw[nL,List.map_cons] at h
  obtain⟨h1,h2⟩:=List.cons.inj h
  cases i with
  |zero=>exact h1
  |succ i=>
   have:=yU (i:=i) h2 (by simpa using hi)
   rw[show k+(i+1)=k+1+i by omega]
   simpa using this
def jo(ops:Array Oper)(L:List Nat)(cr kl:List (List Nat))(sp:List Nat):Nat->List TE->Bool
 |_,[]=>true
 |i,te::l=>((te.apart&&sp.contains i)||(!te.apart&&(atV cr i).isEmpty&&(atV kl i).isEmpty&&(match cQ ops i with
   |some (g,_)=>ei L i g
   |none=>true)))&&jo ops L cr kl sp (i+1) l
theorem iV{cr kl:List (List Nat)}{sp:List Nat}:∀{l:List TE}{k i:Nat},jo ops L cr kl sp k l=true->i<l.length->
  ((l.getD i .n).apart=true/\(k+i)∈sp)\/((l.getD i .n).apart=false/\atV cr (k+i)=[]/\atV kl (k+i)=[]/\∀g b,cQ ops (k+i)=some (g,b)->ei L (k+i) g=true)
 | [],_,_,_,h=>absurd h (Nat.not_lt_zero _)
 |te::l,k,i,h,hi=>by
  rw[jo,Bool.and_eq_true] at h
  cases i with
  |zero=>
   have h1:=h.1
   rw[Bool.or_eq_true] at h1
   rcases h1 with h1|h1
   ·rw[Bool.and_eq_true] at h1
    exact .inl ⟨h1.1,List.contains_iff_mem.1 h1.2⟩
   ·simp only[Bool.and_eq_true,Bool.not_eq_true',List.isEmpty_iff] at h1
    refine .inr ⟨h1.1.1.1,h1.1.1.2,h1.1.2,fun g b hg=>?_⟩
    have:=h1.2
    rw[show k=k+0 from rfl,hg] at this
    exact this
  |succ i=>
   have:=iV (i:=i) h.2 (by simpa using hi)
   rw[show k+(i+1)=k+1+i by omega]
   simpa using this
def tOk(P:Program)(ops:Array Oper)(L:List Nat)(t0:Array Value)(tb:List TE):Prop:=nL P ops L t0 tb 0 tb=tb.map jp
section
variable{P:Program}{ops:Array Oper}{L:List Nat}{t0:Array Value}{d0:List Deferred}{w0:World}{bor:List Nat}{X0:List Ent}{us cr kl:List (List Nat)}{tb:List TE}
 {A:Nat->(Tmp->Value)->(Tmp->Value)->(Nat->Ent)->Prop}
theorem BL(h:tOk P ops L t0 tb)(hi:i<tb.length):goT P ops L t0 tb i (tb.getD i .n)=jp (tb.getD i .n):=by
 have:=yU h hi
 rwa [Nat.zero_add] at this
theorem fI(h:tOk P ops L t0 tb)(hi:i<tb.length)(hd:(tb.getD i .n).dst=some d):bh ops i=some d/\lN tb (cQ ops i)=some (tb.getD i .n).on:=by
 have h1:=BL h hi
 cases hte:tb.getD i .n with
 |n=>rw[hte] at hd;cases hd
 |a _=>rw[hte] at hd;cases hd
 |_=>
  rw[hte] at h1 hd
  simp only[goT,jp,Prod.mk.injEq,TE.dst,TE.on] at h1 hd |-
  injection hd with hd
  subst hd
  exact⟨h1.1,h1.2.1⟩
theorem jD{tb:List TE}(h:(tb.getD i .n).dst≠none):i<tb.length:=by
 rcases Nat.lt_or_ge i tb.length with g|g
 ·exact g
 ·rw[List.getD_eq_getElem?_getD,List.getElem?_eq_none g] at h;exact absurd rfl h
theorem mM{te:TE}(h:te.dst≠none):∃d,te.dst=some d:=by cases te<;>first|exact absurd rfl h|exact⟨_,rfl⟩
theorem E6(h:tOk P ops L t0 tb){j:Nat}(hj:(tb.getD j .n).dst≠none):∀(fuel:Nat) (gi:Option (Nat×Bool)),lN tb gi=some true->oo ops fuel gi (cQ ops j) j=true->(tb.getD j .n).on=true:=by
 obtain⟨d,hd⟩:=mM hj
 obtain⟨_,hact⟩:=fI h (jD hj) hd
 intro fuel
 induction fuel with
 |zero=>intro gi _ hc;cases hc
 |succ fuel ih=>
  intro gi hg hc
  cases gi with
  |none=>
   cases hgj:cQ ops j with
   |none=>rw[hgj] at hact;simp only[lN,Option.some.injEq] at hact;exact hact.symm
   |some gb=>rw[hgj] at hc;cases hc
  |some gb=>
   obtain⟨g,b⟩:=gb
   unfold oo at hc
   rw[Bool.or_eq_true,Bool.or_eq_true] at hc
   rcases hc with (hc|hc)|hc
   ·cases hgj:cQ ops j with
    |none=>rw[hgj] at hact;simp only[lN,Option.some.injEq] at hact;exact hact.symm
    |some gb'=>
     obtain⟨g',b'⟩:=gb'
     rw[hgj] at hc hact
     simp only[Bool.and_eq_true,beq_iff_eq] at hc
     obtain⟨h1,rfl⟩:=hc
     have:=Nat.eq_of_beq_eq_true h1
     subst this
     rw[hg] at hact
     exact(Option.some.inj hact).symm
   ·have:=Nat.eq_of_beq_eq_true hc
    subst this
    obtain⟨_,h1|⟨x,_,h1⟩⟩:=qD hg
    ·cases h1.2
    ·cases h2:(tb.getD g .n).on with
     |true=>rfl
     |false=>rw[h2] at h1;cases h1
   ·have hgo:lN tb (cQ ops g)=some true:=by
     obtain⟨hne,h1⟩:=qD hg
     obtain⟨d',hd'⟩:=mM hne
     obtain⟨_,h2⟩:=fI h (jD hne) hd'
     rw[h2]
     congr 1
     rcases h1 with h1|⟨x,_,h1⟩
     ·cases h1.2
     ·cases h3:(tb.getD g .n).on with
      |true=>rfl
      |false=>rw[h3] at h1;cases h1
    exact ih _ hgo hc
theorem BN{a:Tmp->Value}{X:Nat->Ent}(cx:CtxV ops L ⟨t0,d0⟩ w0 bor X0 us (fun ix c a X=>dT tb ix c (A ix c a X)) i ρ a W X){j:Nat}(ha:ei L i j=true)(hd:(tb.getD j .n).dst=some d):ρ (.tmp d)=(tb.getD j .n).val:=by
 have:=cx.anc j ha
 rw[ia,hd] at this
 exact this
theorem Bb(hdk:fW ops t0.size=true)(h:tOk P ops L t0 tb){f:Tmp->Value}{X:Nat->Ent}(cx:CtxV ops L ⟨t0,d0⟩ w0 bor X0 us (fun ix l f X=>dT tb ix l (A ix l f X)) i ρ f W X)
  (hon:lN tb (cQ ops i)=some true){v:Value}(hx:uL ops L t0 tb i x=some v):ρ x=v:=by
 unfold uL at hx
 split at hx
 ·cases hx;exact cx.sees.const _
 ·cases hx;exact cx.sees.glob _
 ·cases hx;exact cx.sees.func _
 ·rename_i t
  split at hx
  ·rename_i hf
   cases hx
   refine cx.out t (List.all_eq_true.2 fun j _=>?_)
   have:=jK hf j
   rw[uE] at this
   simp[this]
  ·rename_i j te hf
   obtain⟨_,h2,h3⟩:=o3 hf
   rw[uE,Nat.sub_zero] at h2
   rw[Nat.sub_zero] at h3
   cases ha:ei L i j with
   |true=>
    rw[ha,cond_true] at hx
    have hdd:te.dst≠none->te.dst=some t:=fun hne=>by
     rw[h3] at hne |-
     obtain⟨d',hd'⟩:=mM hne
     obtain⟨h5,_⟩:=fI h (jD hne) hd'
     rw[h2] at h5
     rw[hd',h5]
    have hval:te.dst≠none->ρ (.tmp t)=te.val:=fun hne=>by
     have:=hdd hne
     rw[h3] at this |-
     exact BN cx ha this
    have hch:te.dst≠none->(bif oo ops 4 (cQ ops i) (cQ ops j) j then some te.v else some te.val)=some v->ρ (.tmp t)=v:=fun hne hx=>by
     cases hc:oo ops 4 (cQ ops i) (cQ ops j) j with
     |true=>
      rw[hc,cond_true] at hx
      cases hx
      rw[hval hne,TE.val_eq]
      have:=E6 h (j:=j) (by rw[<-h3];exact hne) 4 _ hon hc
      rw[<-h3] at this
      rw[this];rfl
     |false=>rw[hc,cond_false] at hx;cases hx;exact hval hne
    cases te with
    |n=>cases hx
    |a _=>cases hx
    |k d u=>cases hx;exact hval (by simp[TE.dst])
    |c d u=>cases hx;exact hval (by simp[TE.dst])
    |_=>exact hch (by simp[TE.dst]) hx
   |false=>
    rw[ha,cond_false] at hx
    cases hb:Nat.beq j i||ei L j i with
    |false=>rw[hb] at hx;cases hx
    |true=>
     rw[hb,cond_true] at hx
     cases hx
     refine cx.out t (List.all_eq_true.2 fun j' _=>?_)
     by_cases e:bh ops j'=some t
     ·have hjj:j'=j:=by
       refine Classical.byContradiction fun hne=>?_
       exact absurd e ((jN hdk h2).2 j' hne)
      subst hjj
      rw[Bool.or_eq_true] at hb
      rcases hb with hb|hb
      ·simp[Nat.eq_of_beq_eq_true hb]
      ·simp[hb]
     ·simp[e]
theorem nr(hdk:fW ops t0.size=true)(h:tOk P ops L t0 tb){sp:List Nat}(hl:jo ops L cr kl sp 0 tb=true)(hi:i<tb.length)(hap:(tb.getD i .n).apart=false):
  bM P ops L ⟨t0,d0⟩ w0 bor X0 us cr kl (fun ix a c X=>dT tb ix a (A ix a c X)) i:=by
 have hne:(tb.getD i .n).dst≠none:=fun e=>by generalize tb.getD i .n=te at*;cases te<;>cases e<;>cases hap
 obtain⟨d,hd⟩:=mM hne
 obtain⟨hdst,hact⟩:=fI h hi hd
 have hl':=iV (i:=i) hl hi
 rw[Nat.zero_add] at hl'
 obtain⟨hc,hk,hga⟩:atV cr i=[]/\atV kl i=[]/\∀g b,cQ ops i=some (g,b)->ei L i g=true:=by
  rcases hl' with ⟨h1,_⟩|⟨_,h2,h3,h4⟩
  ·rw[hap] at h1;cases h1
  ·exact⟨h2,h3,h4⟩
 obtain⟨o,ho,hod⟩:∃o,ops[i]? =some o/\o.dst=some d:=by
  unfold bh at hdst
  cases ho:ops[i]? with
  |none=>rw[ho] at hdst;cases hdst
  |some o=>rw[ho] at hdst;exact⟨o,rfl,hdst⟩
 have hgo:cQ ops i=o.guard:=by simp[cQ,ho]
 intro ρ c W X cx
 rw[ho]
 dsimp only
 have hval:∀(a c:Tmp->Value) (X:Nat->Ent),a d=(tb.getD i .n).val->dT tb i a (A i a c X):=fun a c X e=>by rw[ia,hd];exact e
 have hno:(tb.getD i .n).on=false->(atV cr i=[]/\atV kl i=[]/\∀(a f:Tmp->Value),(∀t,o.dst≠some t->a t=ρ (.tmp t))->(∀d,o.dst=some d->a d=undef)->(∀t,o.dst≠some t->f t=c t)->(∀d,o.dst=some d->f d=undef)->dT tb i a (A i a f X)):=fun e=>
  ⟨hc,hk,fun a f hs hv hb hbv=>hval a f X (by rw[hv d hod,TE.val_eq,e];rfl)⟩
 have hyes:(tb.getD i .n).on=true->ak P o ρ W (bQ cr kl (fun ix a c X=>dT tb ix a (A ix a c X)) i o.dst ρ c W X):=fun e=>by
  have h1:=BL h hi
  obtain⟨hs,hr⟩:=(tb.getD i .n).ok e
  have h2:pOp P o.op (uL ops L t0 tb i)=some ((tb.getD i .n).side,(tb.getD i .n).raw):=by
   obtain⟨h3,h4⟩:=GI (P:=P) (ops:=ops) (L:=L) (t0:=t0) (tb:=tb) (i:=i) hap e
   rw[h3,h4,ho] at h1
   injection h1 with _ h1
   injection h1
  refine ak.value (Bu (fun x v hx=>Bb hdk h cx (by rw[hact,e]) hx) h2 hs W) ⟨[],by rw[hc];rfl,⟨Upd.refl _ _,by simp,List.Pairwise.nil⟩,fun a f X' hs' hv hb hbv hx hN=>hval a f X' ?_⟩
  rw[hv d hod,hr,TE.val_eq,e];rfl
 cases hg:o.guard with
 |none=>
  rw[hgo,hg] at hact
  exact cq.none hg (hyes (Option.some.inj hact).symm)
 |some gb=>
  obtain⟨g,b⟩:=gb
  have ha:=hga g b (by rw[hgo,hg])
  rw[hgo,hg] at hact
  obtain⟨hgn,hcase⟩:=qD hact
  obtain⟨dg,hdg⟩:=mM hgn
  have hgd:=(fI h (jD hgn) hdg).1
  have hgv:=BN cx ha hdg
  have hoff:(tb.getD g .n).on=false->(tb.getD i .n).on=false->cq ops ρ o (ak P o ρ W (bQ cr kl (fun ix a c X=>dT tb ix a (A ix a c X)) i o.dst ρ c W X)) (atV cr i=[]/\atV kl i=[]/\∀(a f:Tmp->Value),(∀t,o.dst≠some t->a t=ρ (.tmp t))->(∀d,o.dst=some d->a d=undef)->(∀t,o.dst≠some t->f t=c t)->(∀d,o.dst=some d->f d=undef)->dT tb i a (A i a f X)):=
   fun e1 e2=>cq.un hg hgd (by rw[hgv,TE.val_eq,e1];rfl) (hno e2)
  rcases hcase with ⟨e1,e2⟩|⟨x,hx,e2⟩
  ·exact hoff e1 e2
  ·cases e1:(tb.getD g .n).on with
   |false=>exact hoff e1 (by rw[e2,e1];rfl)
   |true=>
    have hv:ρ (.tmp dg)= .bool x:=by rw[hgv,TE.val_eq,e1,hx];rfl
    rw[e1,Bool.true_and] at e2
    by_cases e3:x=b
    ·subst e3
     exact cq.on hg hgd hv (hyes (by rw[e2];cases x<;>rfl))
    ·exact cq.off hg hgd hv e3 (hno (by rw[e2];cases x<;>cases b<;>first|rfl|exact absurd rfl e3))
end
def jy(ops:Array Oper)(tb:List TE)(c:Tmp->Value)(i:Nat):Value:=match (tb.getD i .n).dst with
 |some _=>(tb.getD i .n).val
 |none=>c ((bh ops i).getD 0)
def jw:List TE->(Tmp->Value)->List Value
 | [],_=>[]
 | .n::l,h=>jw l h
 | .a d::l,h=>h d::jw l h
 | .k _ v::l,h=>v::jw l h
 | .c _ v::l,h=>v::jw l h
 | .e _ _ v _::l,h=>v::jw l h
 | .s _ _ _ v _ _::l,h=>v::jw l h
 | .z _ q v::l,h=>mb q v::jw l h
 | .y _ q v::l,h=>mb q v::jw l h
 | .f _ q _ _ v _ _::l,h=>mb q v::jw l h
 | .u _::l,h=>undef::jw l h
def mgT(tb:List TE)(a:Tmp->Value):List (Nat×Nat×Nat×Nat)->List Value->List Value
 | [],l=>l
 |(g,f,n,k)::r,l=>l.take g++(jw ((tb.drop f).take n) a++mgT tb a r (l.drop k))
def oU(F:Nat->Prop):List Nat->Prop
 | []=>True
 |i::l=>F i/\oU F l
theorem nh:∀{l:List Nat},oU F l->∀i,i∈l->F i
 | [],_,_,h=>by cases h
 |x::l,h,i,hi=>by
  rcases List.mem_cons.1 hi with rfl|hi
  ·exact h.1
  ·exact nh h.2 i hi
theorem i5.of:∀{n:Nat},(∀i,i<n->F i)->i5 F n
 |0,_=>trivial
 |n+1,h=>⟨i5.of fun i hi=>h i (by omega),h n (by omega)⟩
theorem AX{X0:List Ent}(L:List Nat)(us cr kl:List (List Nat))(tb:List TE)
  (A:Nat->(Tmp->Value)->(Tmp->Value)->(Nat->Ent)->Prop) (fin sp:List Nat) (rs:List (Nat×Nat×Nat×Nat)) (bb:St w0 bor X0 w) (hloc:jh ops X0.length L cr A)
  (fh:oU (bM P ops L ⟨t0.toArray,d0⟩ w0 bor X0 us cr kl (fun ix c f X=>dT tb ix c (A ix c f X))) sp)
  (hrest:∀(c f:Tmp->Value) (X:Nat->Ent) (w':World),(∀i,i<ops.size->dT tb i c (A i c f X))->(∀q e,X0[q]? =some e->X q=e)->St w0 bor (fin.map X) w'->∀fr,fr=mgT tb c rs t0->Q .normal ⟨fr.toArray,d0⟩ w')
  (ht:nL P ops L t0.toArray tb 0 tb=tb.map jp:=by kernel_rfl) (hl:jo ops L cr kl sp 0 tb=true:=by kernel_rfl) (hn:tb.length=ops.size:=by kernel_rfl)
  (aC:∀c,dO (ct ops) ((je ops).map (jy ops tb c)) t0.toArray=(mgT tb c rs t0).toArray:=by intro c;kernel_rfl)
  (hm:P.follows .mixedOrders=true:=by kernel_rfl) (hL:gC ops L=true:=by kernel_rfl) (hd:fW ops t0.toArray.size=true:=by kernel_rfl) (hflow:gB ops.size X0.length L us cr kl=true:=by kernel_rfl) (hfin:ky ops.size X0.length cr kl fin=true:=by kernel_rfl):
  (Code.region id ops dr).wp P Q ⟨t0.toArray,d0⟩ w:=by
 refine nO hm L us cr kl (fun ix c f X=>dT tb ix c (A ix c f X)) fin hL hd hflow hfin (fun i c k f l X X' h1 h2 h3 h=>?_) bb (i5.of fun i hi=>?_) fun c f X w' hD hX hst' fr hfr'=>?_
 ·dsimp only at h |-
  rw[ia] at h |-
  cases hdd:(tb.getD i .n).dst with
  |some d=>
   rw[hdd] at h
   dsimp only at h |-
   have hi:i<tb.length:=jD (by rw[hdd];simp)
   have:=(fI ht hi hdd).1
   rw[<-h1 d (by unfold nx;simp[this])]
   exact h
  |none=>
   rw[hdd] at h
   exact hloc i c k f l X X' h1 h2 h3 h
 ·have hi':i<tb.length:=by rw[hn];exact hi
  have h:=iV (i:=i) hl hi'
  rw[Nat.zero_add] at h
  rcases h with ⟨_,h⟩|⟨h,_⟩
  ·exact nh fh i h
  ·exact nr hd ht hl hi' h
 ·subst hfr'
  have e:(ct ops).map c=(je ops).map (jy ops tb c):=by
   unfold ct
   rw[List.map_map]
   refine List.map_congr_left fun i hi=>?_
   have him:=List.mem_filter.1 hi
   have hlt:i<ops.size:=List.mem_range.1 him.1
   have h:=hD i hlt
   rw[ia] at h
   unfold jy
   cases hdd:(tb.getD i .n).dst with
   |none=>rfl
   |some d=>
    rw[hdd] at h
    dsimp only at h |-
    have:=(fI ht (i:=i) (by rw[hn];exact hlt) hdd).1
    simp only[Function.comp,this,Option.getD_some]
    exact h
  rw[e,aC c]
  exact hrest c f X w' hD hX hst' _ rfl
theorem AV{X0:List Ent}{t1:List Value}(L:List Nat)(tb:List TE)
  (rs:List (Nat×Nat×Nat×Nat)) (bb:St w0 bor X0 w) (hrest:∀w',St w0 bor X0 w'->Q .normal ⟨t1.toArray,d0⟩ w')
  (h1:mgT tb (fun _=>undef) rs t0=t1:=by dsimp only[mgT,jw,List.take,List.drop,List.cons_append,List.nil_append])
  (ht:nL P ops L t0.toArray tb 0 tb=tb.map jp:=by kernel_rfl) (hl:jo ops L [] [] [] 0 tb=true:=by kernel_rfl) (hn:tb.length=ops.size:=by kernel_rfl)
  (aC:∀a,dO (ct ops) ((je ops).map (jy ops tb a)) t0.toArray=(mgT tb (fun _=>undef) rs t0).toArray:=by intro a;kernel_rfl)
  (hm:P.follows .mixedOrders=true:=by kernel_rfl) (hL:gC ops L=true:=by kernel_rfl) (hd:fW ops t0.toArray.size=true:=by kernel_rfl):
  (Code.region id ops dr).wp P Q ⟨t0.toArray,d0⟩ w:=by
 have hat:∀i,atV ([]:List (List Nat)) i=[]:=fun i=>by simp[atV]
 refine nO hm L [] [] [] (fun ix a c X=>dT tb ix a True) (List.range X0.length) hL hd ?_ ?_ (fun i a f c k X X' h1 h2 h3 h=>?_) bb (i5.of fun i hi=>?_) fun a c X w' hD hX hst' fr hfr'=>?_
 ·unfold gB;simp[hat]
 ·unfold ky;simp[hat,List.nodup_range]
 ·dsimp only at h |-
  rw[ia] at h |-
  cases hdd:(tb.getD i .n).dst with
  |some d=>
   rw[hdd] at h
   dsimp only at h |-
   have hi:i<tb.length:=jD (by rw[hdd];simp)
   have:=(fI ht hi hdd).1
   rw[<-h1 d (by unfold nx;simp[this])]
   exact h
  |none=>trivial
 ·have hi':i<tb.length:=by rw[hn];exact hi
  have h:=iV (i:=i) hl hi'
  rw[Nat.zero_add] at h
  rcases h with ⟨_,h⟩|⟨h,_⟩
  ·cases h
  ·exact nr (A:=fun _ _ _ _=>True) hd ht hl hi' h
 ·subst hfr'
  have e:(ct ops).map a=(je ops).map (jy ops tb a):=by
   unfold ct
   rw[List.map_map]
   refine List.map_congr_left fun i hi=>?_
   have him:=List.mem_filter.1 hi
   have hlt:i<ops.size:=List.mem_range.1 him.1
   have h:=hD i hlt
   rw[ia] at h
   unfold jy
   cases hdd:(tb.getD i .n).dst with
   |none=>rfl
   |some d=>
    rw[hdd] at h
    dsimp only at h |-
    have:=(fI ht (i:=i) (by rw[hn];exact hlt) hdd).1
    simp only[Function.comp,this,Option.getD_some]
    exact h
  rw[e,aC a,h1]
  refine hrest w' ?_
  have:(List.range X0.length).map X=X0:=by
   apply List.ext_getElem (by simp)
   intro q h1 h2
   rw[List.getElem_map,List.getElem_range]
   exact hX q _ (List.getElem?_eq_getElem h2)
  rw[this] at hst'
  exact hst'
abbrev tI(d:Tmp)(z:Int)(h: -9223372036854775808<=z/\z<=9223372036854775807):TE:= .e d (.int .i64 (IntKind.i64.wrap z)) (.int .i64 z) (congrArg _ (IntWalk.i64_in _ h))
abbrev tJ(d:Tmp)(r z:Int)(h: -9223372036854775808<=r/\r<=9223372036854775807)(e:r=z):TE:= .e d (.int .i64 (IntKind.i64.wrap r)) (.int .i64 z) (congrArg _ ((IntWalk.i64_in _ h).trans e))
abbrev tW(d:Tmp)(k:IntKind)(r z:Int)(h:k.wrap r=z):TE:= .e d (.int k (k.wrap r)) (.int k z) (congrArg _ h)
abbrev tAn(d:Tmp)(k:IntKind)(a b z:Int)(h:k.wrap ((BitVec.ofInt k.bits a&&& BitVec.ofInt k.bits b).toNat:Int)=z):TE:= .e d (.int k (k.wrap ((BitVec.ofInt k.bits a&&& BitVec.ofInt k.bits b).toNat:Int))) (.int k z) (congrArg _ h)
abbrev tS(d:Tmp)(a b:ByteArray)(h:a.size+b.size<=9223372036854775807):TE:= .s d (a.size+b.size<=9223372036854775807) (.string (a++b)) (.string (a++b)) h rfl
theorem GN(c x:Bool):(bif c then mb c (.bool x) else .bool false)= .bool (c&&x):=by cases c<;>rfl
theorem v7(c x:Bool):(bif c then .bool true else mb (!c) (.bool x))= .bool (c||x):=by cases c<;>rfl
abbrev tO(d:Tmp)(c x:Bool):TE:= .e d (bif c then .bool true else mb (!c) (.bool x)) (.bool (c||x)) (v7 c x)
end
section
open Go.RowKit
theorem At.eltc{T:Type}{f:T->List Value}(hf:∀t,(f t).length=sz):∀{ts:List T},At w A (ts.flatMap f)->∀{m:Nat}{t:T},ts[m]? =some t->∀{k:Nat}{u:Value},(f t)[k]? =some u->w.cell? ((ad A).add (m*sz+k))=some u:=by
 have key:∀(ts:List T) (m:Nat) (t:T),ts[m]? =some t->∀(k:Nat) (u:Value),(f t)[k]? =some u->(ts.flatMap f)[m*sz+k]? =some u:=by
  intro ts
  induction ts with
  |nil=>intro m t h;simp at h
  |cons a ts ih=>
   intro m t h k u hu
   rw[List.flatMap_cons]
   cases m with
   |zero=>
    simp at h;subst h
    rw[Nat.zero_mul,Nat.zero_add]
    have:=(List.getElem?_eq_some_iff.1 hu).1
    rw[List.getElem?_append_left this]
    exact hu
   |succ m=>
    rw[List.getElem?_append_right (by rw[hf,Nat.add_mul];omega),hf,show (m+1)*sz+k-sz=m*sz+k by rw[Nat.add_mul];omega]
    exact ih m t (by simpa using h) k u hu
 intro ts hA m t hm k u hu
 exact hA.cellAd (key ts m t hm k u hu)
theorem kt{T:Type}{f:T->List Value}(hf:∀t,(f t).length=sz):∀ts:List T,(ts.flatMap f).length=ts.length*sz
 | []=>by simp
 |t::ts=>by rw[List.flatMap_cons,List.length_append,hf,kt hf ts,List.length_cons,Nat.add_mul];omega
section
variable{P:Program}{o:Oper}{ρ:Operand->Value}{W:World}
theorem aD{y:Operand}{t e:TypeId}{n c:Nat}{k:IntKind}(h:o.op= .indexAddr t x y)(ht:P.underlying t=some (.slice e))(hz:szP P e=some sz)(hx:ρ x= .slice A n c)(hy:ρ y= .int k j)
  (hj:j=(m:Int)) (hm:m<n) (hA:At W A xs) (hl:0<xs.length):(execOp ρ o).run P W= .ok (.value (.pointer (some ((ad A).add (m*sz))))) W:=by
 subst hj
 obtain⟨a,rfl,_,_⟩:=hA.get (k:=0) hl
 unfold execOp;rw[h]
 have h1:(0:Int)<=(m:Int)/\(m:Int)<(n:Int):=⟨by omega,by omega⟩
 simp only[hx,hy,Instr.indexAt,asIntOf,Sem.run_bind,Sem.run_pure,Result.andThen_ok,run_underlying ht,h1,and_self,if_true,c8 hz]
 simp[ad]
theorem rIM{y:Operand}{t e:TypeId}{n c:Nat}{k:IntKind}(hx:ρ x= .slice A n c)(hy:ρ y= .int k j)(hj:j=(m:Int))(hm:m<n)(hA:At W A xs)(hl:0<xs.length)(h:o.op= .indexAddr t x y:=by rfl)(ht:P.underlying t=some (.slice e):=by kernel_rfl)(hz:szP P e=some sz:=by kernel_rfl):(execOp ρ o).run P W= .ok (.value (.pointer (some ((ad A).add (m*sz))))) W:=aD h ht hz hx hy hj hm hA hl
theorem bn{t:TypeId}{f k:Nat}(h:o.op= .fieldAddr t x f)(hf:qx P t f=some k)(hx:ρ x= .pointer (some ((ad A).add m))):
  (execOp ρ o).run P W= .ok (.value (.pointer (some ((ad A).add (m+k))))) W:=by
 unfold qx at hf
 split at hf
 ·rename_i fs hu
  split at hf
  ·rename_i fd hfd
   split at hf
   ·rename_i mm hm
    injection hf with hf
    unfold execOp;rw[h]
    simp only[hx,Instr.fieldAt,Instr.sureAddr,Sem.run_bind,run_underlying hu,Result.andThen_ok,hfd,Sem.run_pure,fieldPlace,c8 hm,Nat.add_one_ne_zero,if_false,pz,hf]
   ·cases hf
  ·cases hf
 ·cases hf
def Hj(P:Program)(t:TypeId):Option (Nat×Nat):=match P.underlying t with
 |some (.array n e)=>(szP P e).map fun z=>(n,z)
 |_=>none
theorem yi{t:TypeId}{y:Operand}{a:Addr}{n:Nat}{k:IntKind}(h:o.op= .indexAddr t x y)(ht:Hj P t=some (n,sz))(hx:ρ x= .pointer (some a))(hy:ρ y= .int k j)(hj:j=(m:Int))(hm:m<n):
  (execOp ρ o).run P W= .ok (.value (.pointer (some (a.add (m*sz))))) W:=by
 subst hj
 unfold Hj at ht
 split at ht
 ·rename_i n' e hu
  cases hz:szP P e with
  |none=>rw[hz] at ht;cases ht
  |some z=>
   rw[hz] at ht
   simp only[Option.map_some,Option.some.injEq,Prod.mk.injEq] at ht
   obtain⟨rfl,rfl⟩:=ht
   unfold execOp;rw[h]
   have h1:(0:Int)<=(m:Int)/\(m:Int)<(n':Int):=⟨by omega,by omega⟩
   simp only[hx,hy,Instr.indexAt,asIntOf,Instr.sureAddr,Sem.run_bind,Sem.run_pure,Result.andThen_ok,run_underlying hu,h1,and_self,if_true,c8 hz]
   simp
 ·cases ht
theorem eE{t:TypeId}{y:Operand}{b off n:Nat}{k:IntKind}(h:o.op= .indexAddr t x y)(ht:Hj P t=some (n,sz))(hx:ρ x= .pointer (some ⟨b,off,none⟩))(hy:ρ y= .int k j)(hj:j=(m:Int))(hm:m<n)(hq:off+m*sz=q):
  (execOp ρ o).run P W= .ok (.value (.pointer (some ⟨b,q,none⟩))) W:=by
 rw[yi h ht hx hy hj hm,Addr.add_lit,hq]
theorem yu{a:Addr}(hA:∀(k:Nat) u,cs[k]? =some u->W.cell? (a.add k)=some u):∀(n i:Nat) (acc:Array Value),i+n=cs.size->(loadCellsFrom a i n acc).run P W= .ok (acc++cs.extract i cs.size) W:=by
 intro n
 induction n with
 |zero=>intro i acc h;simp[loadCellsFrom];omega
 |succ n ih=>
  intro i acc h
  have hlt:i<cs.size:=by omega
  have hc:=hA i cs[i] (Array.getElem?_eq_getElem hlt)
  unfold loadCellsFrom
  simp only[Sem.run_bind,load,Sem.run,hc,Result.andThen_ok]
  rw[ih (i+1) (acc.push cs[i]) (by omega)]
  congr 1
  rw[Array.push_eq_append,Array.append_assoc]
  congr 1
  apply Array.ext'
  simp only[Array.toList_append,Array.toList_extract,List.extract_eq_take_drop]
  rw[List.drop_eq_getElem_cons (i:=i) (by simpa using hlt),show cs.size-i=(cs.size-(i+1))+1 by omega]
  rfl
theorem AO{t:TypeId}{a:Addr}{n:Nat}(h:o.op= .load t x)(ht:jd P t=some true)(hn:szP P t=some n)(hx:ρ x= .pointer (some a))(hs:cs.size=n)(hA:∀(k:Nat) u,cs[k]? =some u->W.cell? (a.add k)=some u):(execOp ρ o).run P W= .ok (.value (.agg cs)) W:=by
 subst hs
 unfold execOp;rw[h]
 simp only[hx,Instr.loadAt,Instr.sureAddr,loadVar,Sem.run_bind,Sem.run_pure,Result.andThen_ok,lp ht,if_true,c8 hn,loadCells]
 rw[yu hA cs.size 0 #[] (by omega)]
 simp
theorem bS{T:Type}{f:T->List Value}{t:TypeId}{n off:Nat}{ts:List T}{u:T}(h:o.op= .load t x)(ht:jd P t=some true)(hn:szP P t=some n)(hx:ρ x= .pointer (some ((ad A).add (m*sz+off))))(hs:cs.size=n)
  (hf:∀t,(f t).length=sz) (hA:At W A (ts.flatMap f)) (hm:ts[m]? =some u) (hcs:∀k,k<n->(f u)[off+k]? =cs[k]?):(execOp ρ o).run P W= .ok (.value (.agg cs)) W:=
 AO h ht hn hx hs fun k v hk=>by
  have:=(Array.getElem?_eq_some_iff.1 hk).1
  rw[pz,Nat.add_assoc]
  exact hA.eltc hf hm (by rw[hcs k (by omega)];exact hk)
theorem rLE{T:Type}{f:T->List Value}{t:TypeId}{n off:Nat}{ts:List T}{u:T}(hx:ρ x= .pointer (some ((ad A).add (m*sz+off))))(hs:cs.size=n)(hf:∀t,(f t).length=sz)(hA:At W A (ts.flatMap f))(hm:ts[m]? =some u)(hcs:∀k,k<n->(f u)[off+k]? =cs[k]?)(h:o.op= .load t x:=by rfl)(ht:jd P t=some true:=by kernel_rfl)(hn:szP P t=some n:=by kernel_rfl):(execOp ρ o).run P W= .ok (.value (.agg cs)) W:=bS h ht hn hx hs hf hA hm hcs
end
end
section
open Go.RowKit
section
variable{P:Program}{ops:Array Oper}{L:List Nat}{a0:Act}{w0:World}{bor:List Nat}{X0:List Ent}{us cr kl:List (List Nat)}
 {D:Nat->(Tmp->Value)->(Tmp->Value)->(Nat->Ent)->Prop}{i:Nat}{o:Oper}{ρ:Operand->Value}{β:Tmp->Value}{W:World}{X:Nat->Ent}
theorem qK{t e sz:TypeId}{y:Operand}{n c:Nat}{v:Value}(h:o.op= .store t x y)(hx:ρ x= .pointer (some ((ad A).add m)))(hy:ρ y=v)(hz:szP P t=some 1)(hn:v.cells=#[v])
  (h1:v.oneCell'=true) (cx:CtxV ops L a0 w0 bor X0 us D i ρ β W X) (hX:X q=eO e sz (.slice A n c) n xs) (hu:(atV us i).contains q=true) (hm:m<n*sz) (hd:o.dst=none) (jJ:xs.set m v=xs')
  (hc:atV cr i=[q']) (hk:atV kl i=[q]) (hD:∀(l f:Tmp->Value) (X':Nat->Ent),(∀t,l t=ρ (.tmp t))->(∀t,f t=β t)->X' q'=eO e sz (.slice A n c) n xs'->D i l f X'):ak P o ρ W (bQ cr kl D i o.dst ρ β W X):=by
 subst jJ
 have hok:=cx.ok q hu
 rw[hX] at hok
 have hown:W.ownsRow 0 e sz (.slice A n c) n xs:=hok.holds
 obtain⟨g,rfl⟩:∃g,A=some ⟨g,0,none⟩:=by
  rcases hown.2 with ⟨hv,hm0⟩|⟨g,cap,cur,hv,_⟩
  ·subst hm0;rw[Nat.zero_mul] at hm;omega
  ·injection hv with h1 h2 h3;exact⟨g,h1⟩
 have hlen:xs.length=n*sz:=hown.1
 have hcell:W.cell? ⟨g,m,none⟩=some (xs[m]'(by omega)):=by
  rw[hown.cellAt m (by omega)]
  exact List.getElem?_eq_getElem (by omega)
 have hfz:=hown.frozenAt m
 have bb:=(hown.stored m v).1
 have hadd:(ad (some ⟨g,0,none⟩)).add m=⟨g,m,none⟩:=by rw[ad,Option.getD_some,Addr.add_lit,Nat.zero_add]
 have hrun:(execOp ρ o).run P W= .ok .skip (W.setCell ⟨g,m,none⟩ v):=by
  unfold execOp;rw[h]
  have hsz:v.cells.size=1:=by rw[hn];rfl
  simp only[hx,hy,hadd,Instr.storeAt,Instr.sureAddr,storeVar,Sem.run_bind,Sem.run_pure,Result.andThen_ok,c8 hz,hsz,ne_eq,not_true_eq_false,if_false]
  have e1:(storeCells ⟨g,m,none⟩ v.cells.toList 0).run P W= .ok () (W.setCell ⟨g,m,none⟩ v):=by
   rw[hn]
   have fQ:(store ((⟨g,m,none⟩:Addr).add 0) v).run P W= .ok () (W.setCell ⟨g,m,none⟩ v):=by
    rw[Addr.add_lit]
    unfold store
    cases v<;>first|(simp[Value.oneCell'] at h1;done)|(simp[Sem.run,hcell,hfz])
   show (storeCells ⟨g,m,none⟩ [v] 0).run P W= _
   unfold storeCells
   simp only[Sem.run_bind,fQ,Result.andThen_ok]
   rfl
  rw[e1]
  rfl
 refine ak.skip hrun ⟨[eO e sz (.slice (some ⟨g,0,none⟩) n c) n (xs.set m v)],by rw[hc];rfl,⟨?_,fun e' he=>?_,List.pairwise_singleton _ _⟩,fun l f X' hs hv hb' hbv hx' hN=>hD l f X' (fun t=>hs t (by rw[hd];simp)) (fun t=>hb' t (by rw[hd];simp)) ?_⟩
 ·rw[hk]
  simp only[List.flatMap_cons,List.flatMap_nil,List.append_nil,hX]
  exact(Upd.refl _ W).set (.inl (by simp[eO,Value.ownBlock])) v
 ·rw[List.mem_singleton] at he
  subst he
  refine⟨bb,gg _ _ _ _ _,fun k hk'=>?_⟩
  have hkg:k=g:=by simpa[eO,Value.ownBlock] using hk'
  subst hkg
  refine⟨.inl ?_,fe bb k (by simp[Value.ownBlock])⟩
  rw[hk]
  simp[hX,eO,Value.ownBlock]
 ·rw[hc] at hN
  exact(List.cons.inj hN).1
theorem CJ{t t':TypeId}{b n:Nat}(h:o.op= .load t x)(ht:jd P t=some true)(hn:szP P t=some n)(hx:ρ x= .pointer (some ⟨b,0,none⟩))(hb:Blk W b t' xs.toArray)(hl:xs.length=n):
  (execOp ρ o).run P W= .ok (.value (.agg xs.toArray)) W:=
 nG h ht hn hx hb (by simp[hl]) (by simp[<-hl])
theorem zt:∀(ys pre suf:List Value),ys.length=suf.length->jP (pre++suf).toArray pre.length ys=(pre++ys).toArray
 | [],pre,suf,h=>by
   have:suf=[]:=List.eq_nil_of_length_eq_zero h.symm
   subst this;rfl
 |y::ys,pre,[],h=>by simp at h
 |y::ys,pre,z::suf,h=>by
  rw[jP]
  have e:(pre++z::suf).toArray.setIfInBounds pre.length y=((pre++[y])++suf).toArray:=by simp
  rw[e,show pre.length+1=(pre++[y]).length by simp,zt ys (pre++[y]) suf (by simpa using h)]
  simp
theorem wZ{t t':TypeId}{y:Operand}{b n:Nat}{ys:List Value}(h:o.op= .store t x y)(hx:ρ x= .pointer (some ⟨b,0,none⟩))(hy:ρ y= .agg ys.toArray)(hz:szP P t=some n)(hl:ys.length=n)(hl0:xs.length=n)
  (h1:∀v∈ys,v.oneCell'=true) (c:CtxV ops L a0 w0 bor X0 us D i ρ β W X) (hX:X q=eB b t' xs.toArray) (hu:(atV us i).contains q=true) (hd:o.dst=none)
  (hc:atV cr i=[q']) (hk:atV kl i=[q]) (hD:∀(e a:Tmp->Value) (X':Nat->Ent),(∀t,e t=ρ (.tmp t))->(∀t,a t=β t)->X' q'=eB b t' ys.toArray->D i e a X'):ak P o ρ W (bQ cr kl D i o.dst ρ β W X):=
 pa h hx hy hz (by simp[Value.cells,hl]) (by simpa[Value.cells] using h1) c hX hu (by simp[hl0]) (by have:=zt ys [] xs (by rw[hl,hl0]);simpa[Value.cells] using this) hd hc hk hD
theorem bB{a t t':TypeId}{b n:Nat}(hr:fn.results=#[.cell a t])(ha:tmps.getD a undef= .pointer (some ⟨b,0,none⟩))(ht:jd P t=some true)(hn:szP P t=some n)(hb:Blk W b t' cs)(hs:cs.size=n):
  (results fn tmps).run P W= .ok (.agg cs) W:=by
 have h1:(loadVar t ⟨b,0,none⟩).run P W= .ok (.agg cs) W:=by
  subst hs
  simp only[loadVar,Sem.run_bind,Result.andThen_ok,lp ht,if_true,c8 hn,loadCells]
  rw[lK hb cs.size 0 #[] (by omega)]
  simp
 unfold results
 rw[hr]
 simp only[Array.getD_eq_getD_getElem?] at ha
 simp[ha,asAddr,h1]
def l6(tmps:Array Value):ResultVar->Sem Value
 | .tmp t=>pure (tmps.getD t undef)
 | .cell a t=>do loadVar t (<-asAddr (tmps.getD a undef))
section
variable{fn:Func}{tmps:Array Value}{r1 r2 r3 r4:ResultVar}{v1 v2 v3 v4:Value}
theorem ag(hr:fn.results=#[r1])(h1:(l6 tmps r1).run P W= .ok v1 W):(results fn tmps).run P W= .ok v1 W:=by
 show (do let vs <-fn.results.mapM (l6 tmps);pure (if h:vs.size=1 then vs[0] else .tuple vs)).run P W= _
 rw[hr];simp[go_sem,h1]
theorem aL(hr:fn.results=#[r1,r2])(h1:(l6 tmps r1).run P W= .ok v1 W)(h2:(l6 tmps r2).run P W= .ok v2 W):(results fn tmps).run P W= .ok (.tuple #[v1,v2]) W:=by
 show (do let vs <-fn.results.mapM (l6 tmps);pure (if h:vs.size=1 then vs[0] else .tuple vs)).run P W= _
 rw[hr];simp[go_sem,h1,h2]
end
theorem rpt{t:Tmp}{v:Value}(hv:tmps.getD t undef=v:=by rfl):(l6 tmps (.tmp t)).run P W= .ok v W:=by rw[l6,hv];rfl
theorem rpa{a t t':TypeId}{b:Nat}{vs:Array Value}(hb:Blk W b t' cs)(j n:Nat)(hj:cs.extract j (j+n)=vs:=by rfl)(hn:szP P t=some n:=by kernel_rfl)(hl:Nat.ble (j+n) cs.size=true:=by rfl)(ha:tmps.getD a undef= .pointer (some ⟨b,j,none⟩):=by rfl)(ht:jd P t=some true:=by kernel_rfl):(l6 tmps (.cell a t)).run P W= .ok (.agg vs) W:=by
 simp only[l6,ha,asAddr,loadVar,Sem.run_bind,Sem.run_pure,Result.andThen_ok,lp ht,if_true,c8 hn,loadCells]
 rw[lK hb n 0 #[] (by have:=Nat.le_of_ble_eq_true hl;omega)]
 subst hj
 simp
theorem bpr{R:Ending->World->Prop}{a:Act}(v:Value)(hr:(results fn a.tmps).run P w= .ok v w)(hR:R (.returned v) w)(hd:a.defers=[]:=by rfl):bodyPost P fn R .ret a w:=⟨hd,v,hr,hR⟩
theorem bpe{R:Ending->World->Prop}{a:Act}(v:Value)(hr:(results fn a.tmps).run P w= .ok v w)(hR:R (.returned v) w)(hd:a.defers=[]:=by rfl):bodyPost P fn R .normal a w:=⟨hd,v,hr,hR⟩
end
end
section
open Go.RowKit
abbrev vi(x:Int):Value:= .int .i64 x
abbrev vp(b:Nat):Value:= .pointer (some ⟨b,0,none⟩)
abbrev sn:Value:= .slice none 0 0
abbrev po(b k:Nat):Value:= .pointer (some ⟨b,k,none⟩)
abbrev wq:=@wp_seq
def qM:List Ent->Nat->Nat->(Nat->Ent)->Ent
 | [],_,q,X=>X q
 |e:: _,0,_,_=>e
 |_::l,k+1,q,X=>qM l k q X
def jR(X0:List Ent)(X:Nat->Ent):List Nat->List Ent
 | []=>[]
 |q::l=>qM X0 q q X::jR X0 X l
theorem Bz:∀{X0:List Ent}{k q:Nat}{X:Nat->Ent},(∀e,X0[k]? =some e->X q=e)->qM X0 k q X=X q
 | [],k,q,X,_=>rfl
 |e::l,0,q,X,h=>(h e rfl).symm
 |e::l,k+1,q,X,h=>Bz (X0:=l) (fun e' he=>h e' (by simpa using he))
theorem rU{X0:List Ent}{X:Nat->Ent}(h:∀q e,X0[q]? =some e->X q=e):∀l:List Nat,jR X0 X l=l.map X
 | []=>rfl
 |q::l=>by rw[jR,Bz (h q),rU h l];rfl
theorem t6{X X':Nat->Ent}:∀{l:List Ent}{k q:Nat},k<l.length->qM l k q X=qM l k q X'
 | [],k,q,h=>by simp at h
 |e::l,0,q,h=>rfl
 |e::l,k+1,q,h=>t6 (l:=l) (by simpa using h)
theorem uD{X0:List Ent}{X X':Nat->Ent}:∀{l:List Nat},l.all (fun q=>Nat.blt q X0.length)=true->jR X0 X l=jR X0 X' l
 | [],_=>rfl
 |q::l,h=>by
  rw[List.all_cons,Bool.and_eq_true] at h
  rw[jR,jR,t6 (X':=X') (by simpa using h.1),uD h.2]
theorem aB{X0:List Ent}{t1:(Tmp->Value)->List Value}{E:(Nat->Ent)->List Ent}(L:List Nat)(us cr kl:List (List Nat))(tb:List TE)
  (A:Nat->(Tmp->Value)->(Tmp->Value)->(Nat->Ent)->Prop) (fin sp:List Nat) (rs:List (Nat×Nat×Nat×Nat)) (bb:St w0 bor X0 w) (hloc:jh ops X0.length L cr A)
  (fh:oU (bM P ops L ⟨t0.toArray,d0⟩ w0 bor X0 us cr kl (fun ix a c X=>dT tb ix a (A ix a c X))) sp)
  (hrest:∀(a c:Tmp->Value) (X:Nat->Ent) (w':World),(∀i,i<ops.size->dT tb i a (A i a c X))->St w0 bor (E X) w'->∀fr,fr=t1 a->Q .normal ⟨fr.toArray,d0⟩ w')
  (h1:∀a,mgT tb a rs t0=t1 a:=by intro a;dsimp only[mgT,jw,List.take,List.drop,List.cons_append,List.nil_append]) (hE:∀X,jR X0 X fin=E X:=by intro X;dsimp only[jR,qM])
  (ht:nL P ops L t0.toArray tb 0 tb=tb.map jp:=by kernel_rfl) (hl:jo ops L cr kl sp 0 tb=true:=by kernel_rfl) (hn:tb.length=ops.size:=by kernel_rfl)
  (aC:∀a,dO (ct ops) ((je ops).map (jy ops tb a)) t0.toArray=(mgT tb a rs t0).toArray:=by intro a;kernel_rfl)
  (hm:P.follows .mixedOrders=true:=by kernel_rfl) (hL:gC ops L=true:=by kernel_rfl) (hd:fW ops t0.toArray.size=true:=by kernel_rfl) (hflow:gB ops.size X0.length L us cr kl=true:=by kernel_rfl) (hfin:ky ops.size X0.length cr kl fin=true:=by kernel_rfl):
  (Code.region id ops dr).wp P Q ⟨t0.toArray,d0⟩ w:=
 AX L us cr kl tb A fin sp rs bb hloc fh (fun a c X w' hD hX hs fr hf=>hrest a c X w' hD (by rw[<-hE X,rU hX];exact hs) fr (hf.trans (h1 a))) ht hl hn aC hm hL hd hflow hfin
theorem bG{X0 E:List Ent}{t1:List Value}(L:List Nat)(us:List (List Nat))(tb:List TE)
  (fin sp:List Nat) (rs:List (Nat×Nat×Nat×Nat)) (bb:St w0 bor X0 w)
  (fh:oU (bM P ops L ⟨t0.toArray,d0⟩ w0 bor X0 us [] [] (fun ix a c X=>dT tb ix a True)) sp)
  (hrest:∀(w':World),St w0 bor E w'->Q .normal ⟨t1.toArray,d0⟩ w')
  (h1:mgT tb (fun _=>undef) rs t0=t1:=by dsimp only[mgT,jw,List.take,List.drop,List.cons_append,List.nil_append]) (hE:jR X0 (fun _=>⟨[],fun _=>True⟩) fin=E:=by dsimp only[jR,qM])
  (hfz:fin.all (fun q=>Nat.blt q X0.length)=true:=by kernel_rfl)
  (ht:nL P ops L t0.toArray tb 0 tb=tb.map jp:=by kernel_rfl) (hl:jo ops L [] [] sp 0 tb=true:=by kernel_rfl) (hn:tb.length=ops.size:=by kernel_rfl)
  (aC:∀a,dO (ct ops) ((je ops).map (jy ops tb a)) t0.toArray=(mgT tb (fun _=>undef) rs t0).toArray:=by intro a;kernel_rfl)
  (hm:P.follows .mixedOrders=true:=by kernel_rfl) (hL:gC ops L=true:=by kernel_rfl) (hd:fW ops t0.toArray.size=true:=by kernel_rfl) (hflow:gB ops.size X0.length L us [] []=true:=by kernel_rfl) (hfin:ky ops.size X0.length [] [] fin=true:=by kernel_rfl):
  (Code.region id ops dr).wp P Q ⟨t0.toArray,d0⟩ w:=by
 have hfr2:∀a,dO (ct ops) ((je ops).map (jy ops tb a)) t0.toArray=t1.toArray:=fun a=>by rw[aC a,h1]
 refine nO hm L us [] [] (fun ix a c X=>dT tb ix a True) fin hL hd hflow hfin (fun i a f c k X X' h1 h2 h3 h=>?_) bb (i5.of fun i hi=>?_) fun a c X w' hD hX hst' fr hfr'=>?_
 ·dsimp only at h |-
  rw[ia] at h |-
  cases hdd:(tb.getD i .n).dst with
  |some d=>
   rw[hdd] at h
   dsimp only at h |-
   have hi:i<tb.length:=jD (by rw[hdd];simp)
   have:=(fI ht hi hdd).1
   rw[<-h1 d (by unfold nx;simp[this])]
   exact h
  |none=>trivial
 ·have hi':i<tb.length:=by rw[hn];exact hi
  have h:=iV (i:=i) hl hi'
  rw[Nat.zero_add] at h
  rcases h with ⟨_,h⟩|⟨h,_⟩
  ·exact nh fh i h
  ·exact nr (A:=fun _ _ _ _=>True) hd ht hl hi' h
 ·subst hfr'
  have e:(ct ops).map a=(je ops).map (jy ops tb a):=by
   unfold ct
   rw[List.map_map]
   refine List.map_congr_left fun i hi=>?_
   have him:=List.mem_filter.1 hi
   have hlt:i<ops.size:=List.mem_range.1 him.1
   have h:=hD i hlt
   rw[ia] at h
   unfold jy
   cases hdd:(tb.getD i .n).dst with
   |none=>rfl
   |some d=>
    rw[hdd] at h
    dsimp only at h |-
    have:=(fI ht (i:=i) (by rw[hn];exact hlt) hdd).1
    simp only[Function.comp,this,Option.getD_some]
    exact h
  rw[e,hfr2 a]
  refine hrest w' ?_
  have h2:jR X0 X fin=E:=by rw[<-hE];exact uD hfz
  rw[<-h2,rU hX]
  exact hst'
section
variable{P:Program}{ops:Array Oper}{L:List Nat}{a0:Act}{w0:World}{bor:List Nat}{X0:List Ent}{us cr kl:List (List Nat)}
 {D:Nat->(Tmp->Value)->(Tmp->Value)->(Nat->Ent)->Prop}{i:Nat}{o:Oper}{ρ:Operand->Value}{β:Tmp->Value}{W:World}{X:Nat->Ent}
theorem CtxV.ou(cx:CtxV ops L a0 w0 bor X0 us D i ρ β W X)(t:Nat)(h:G5 ops L i t=true:=by rfl):ρ (.tmp t)=a0.tmps.getD t undef:=cx.out t h
theorem CtxV.an(cx:CtxV ops L a0 w0 bor X0 us D i ρ β W X)(j:Nat)(h:ei L i j=true:=by rfl):D j (FF ρ) β X:=cx.anc j h
theorem CtxV.co(cx:CtxV ops L a0 w0 bor X0 us D i ρ β W X)(v:Value):ρ (.const v)=v:=cx.sees.const v
theorem CtxV.bi(cx:CtxV ops L a0 w0 bor X0 us D i ρ β W X)(q:Nat){b:Nat}(h:X0[q]? =some (eB b t cs))(hu:(atV us i).contains q=true:=by rfl):Blk W b t cs:=cx.blk (cx.init q _ h) hu
theorem CtxV.ri(cx:CtxV ops L a0 w0 bor X0 us D i ρ β W X)(q:Nat){e n:Nat}{v:Value}(h:X0[q]? =some (eO e sz v n xs))(hu:(atV us i).contains q=true:=by rfl):W.ownsRow 0 e sz v n xs:=cx.row (cx.init q _ h) hu
theorem xs4(ho:ops[i]? =some o)(hD:∀{a β X},a d=V->D i a β X)(h:∀{ρ:Operand->Value}{β:Tmp->Value}{W:World}{X:Nat->Ent},CtxV ops L a0 w0 bor X0 us D i ρ β W X->(execOp ρ o).run P W= .ok (.value V) W)
  (hg:o.guard=none:=by rfl) (hd:o.dst=some d:=by rfl) (hc:atV cr i=[]:=by rfl) (hk:atV kl i=[]:=by rfl):bM P ops L a0 w0 bor X0 us cr kl D i:=
 sv0 ho hg hd hc hk (fun _ _ _ h=>hD h) fun _ _ _ _ cx=>h cx
theorem xs5(ho:ops[i]? =some o)(hD:∀{a β X},a d=V->D i a β X)(hgv:∀{ρ:Operand->Value}{β:Tmp->Value}{W:World}{X:Nat->Ent},CtxV ops L a0 w0 bor X0 us D i ρ β W X->ρ (.tmp dg)= .bool b)
  (h:∀{ρ:Operand->Value}{β:Tmp->Value}{W:World}{X:Nat->Ent},CtxV ops L a0 w0 bor X0 us D i ρ β W X->(execOp ρ o).run P W= .ok (.value V) W)
  (hg:o.guard=some (g,b):=by rfl) (hdg:bh ops g=some dg:=by rfl) (hd:o.dst=some d:=by rfl) (hc:atV cr i=[]:=by rfl) (hk:atV kl i=[]:=by rfl):bM P ops L a0 w0 bor X0 us cr kl D i:=
 EZ ho hg hdg hd hc hk (fun _ _ _ h=>hD h) (fun _ _ _ _ cx=>hgv cx) fun _ _ _ _ cx=>h cx
theorem xsc(ho:ops[i]? =some o)(hD:∀{a β X},a d=V->D i a β X){c:Call}{f:FuncId}(hop:o.op= .call c)(hcal:c.callee= .value (.func f))
  (h:∀{ρ:Operand->Value}{β:Tmp->Value}{W:World}{X:Nat->Ent},CtxV ops L a0 w0 bor X0 us D i ρ β W X->∃args,Calls P f args W (fun e W'=>e= .returned V/\Ext W W')/\c.args.map ρ=args)
  (hf:gD P f=true:=by kernel_rfl) (hg:o.guard=none:=by rfl) (hd:o.dst=some d:=by rfl) (hc:atV cr i=[]:=by rfl) (hk:atV kl i=[]:=by rfl):bM P ops L a0 w0 bor X0 us cr kl D i:=
 ip ho hg hd hc hk (fun _ _ _ h=>hD h) fun ρ β W X cx=>let ⟨args,h1,h2⟩:=h cx;⟨f,args,gl hop cx.sees hcal hf h2,h1⟩
end
end
end Go.Proofs.YtcdjaepgahbhfaaGreat
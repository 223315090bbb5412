/- StoreRefusesRow: part 2 of the proof. -/
import Derived.Test.YtcdjaepgahbhfaaGreatZ1
import Derived.Maps.OwnSet
import Derived.Maps.Views
import Derived.Carry
import Derived.StringKeys
import Derived.Maps.RangeWalk
import Derived.Laws.IdiomRangeMap
import Derived.Deep.QuietTactic
import Derived.BigQuiet
import Derived.Shelf.Strings.Builder1
import Derived.Lib.UnsafeStr
import Derived.Shelf.Strings.Builder2
import Derived.Shelf.Strings.OnBuilder
import Derived.Shelf.Strings.BuilderF
import Derived.Shelf.Strings.Prefix
import Derived.Shelf.Bits.Mul64
import Derived.Shelf.Strings.Repeat
import Derived.Ground.Names2Prog
import Derived.Shelf.Slices.Clone
import Derived.Shelf.Slices.SearchI
import Derived.Shelf.Slices.Empties
import Derived.Ground.SlgnProg
import Derived.Shelf.SlicesE.Clone
import Derived.Test.YtcdjaepgahbhfaaGreatProg
import Derived.Laws.RangeString
set_option linter.unusedVariables false
set_option linter.unusedSimpArgs false
set_option maxRecDepth 100000
set_option maxHeartbeats 16000000
namespace Go.Proofs.YtcdjaepgahbhfaaGreat
section
open Go.RowKit
theorem St.one {W W':World} {E:Ent} (hx:Ext W W') (h:E.holds W'∧E.loc∧∀ k∈E.fp,W.heap.size≤k∧k < W'.heap.size):St W [] [E] W':=
 ⟨Upd.of_ext hx,fun e he=>by rw [List.mem_singleton] at he; subst he; exact ⟨h.1,h.2.1,fun k hk=>⟨.inr (h.2.2 k hk).1,(h.2.2 k hk).2⟩⟩,List.pairwise_singleton _ _⟩
theorem CtxV.triv {ops:Array Oper} {A:List Nat} {a0:Act} {w0:World} {bor:List Nat} {X0:List Ent} {us:List (List Nat)} {D D':Nat→(Tmp→Value)→(Tmp→Value)→(Nat→Ent)→Prop} {i:Nat} {ρ:Operand→Value} {β:Tmp→Value} {W:World} {X:Nat→Ent} (h:CtxV ops A a0 w0 bor X0 us D i ρ β W X) (hD:∀ j σ β X,D' j σ β X):CtxV ops A a0 w0 bor X0 us D' i ρ β W X:=
 ⟨h.sees,h.upd,h.out,fun _ _=>hD _ _ _ _,h.init,h.ok,h.ap⟩
section
variable {P:Program} {Q:Exit→Act→World→Prop} {rest:List Oper} {o:Oper} {ops:Array Oper} {t:List Value} {d0:List Deferred} {w0 w:World} {bor:List Nat} {L:List Ent}
theorem sqkN {Z:Type} {d:Tmp} (V:Z→Value) (E:Z→Ent) (hst:St w0 bor L w) {c:Call} {f:FuncId} (hs:∀ {ρ:Operand→Value} {β:Tmp→Value} {W:World} {X:Nat→Ent},CtxV #[o] [0] ⟨t.toArray,d0⟩ w0 bor L (rg L) (fun _ _ _ _=>True) 0 ρ β W X→∃ args,Calls P f args W (fun e W'=>∃ z,e= .returned (V z)∧St W [] [E z] W')∧(argsOf o.op).map ρ=args)
  (h:∀ z w',St w0 bor (L++[E z]) w'→wpList P ops Q rest ⟨(t.set d (V z)).toArray,d0⟩ w') (hop:o.op= .call c) (hcal:c.callee= .value (.func f)) (hg:o.guard=none) (hd:o.dst=some d) (hf:callP P f=true):wpList P ops Q (o::rest) ⟨t.toArray,d0⟩ w:=by
 refine wpList_plain hg fun K hK=>?_
 obtain ⟨args,hc,hm⟩:=hs (sqCtx hst fun _=>undef)
 rw [hop] at hm
 refine DoesU.wp (post:=fun v w'=>∃ z,v=V z∧St w [] [E z] w') (DoesU.call (run_callF hop (sqCtx (o:=o) (D:=fun _ _ _ _=>True) hst fun _=>undef).sees hcal hf hm) (hc.mono ?_)) fun v w' ⟨z,e1,hs1⟩=>hK _ _ ?_
 ·rintro e W1 ⟨z,rfl,h1⟩
  exact ⟨_,rfl,z,rfl,h1⟩
 ·subst e1
  rw [hd]
  show wpList P ops Q rest ⟨t.toArray.setIfInBounds d (V z),d0⟩ w'
  rw [List.setIfInBounds_toArray]
  have h2:=sqSt (kl:=[]) (N:=[E z]) hst (fun q hq=>by cases hq) ⟨hs1.upd,fun e he=>⟨(hs1.ok e he).holds,(hs1.ok e he).loc,fun k hk=>⟨((hs1.ok e he).own k hk).1,((hs1.ok e he).own k hk).2⟩⟩,hs1.apart⟩
  rw [remQ_nil] at h2
  exact h z w' h2
theorem sqk1 {Z:Type} {d:Tmp} {L':Z→List Ent} {t':Z→List Value} (V:Z→Value) (E:Z→Ent) (hst:St w0 bor L w) {c:Call} {f:FuncId} (hs:∀ {ρ:Operand→Value} {β:Tmp→Value} {W:World} {X:Nat→Ent},CtxV #[o] [0] ⟨t.toArray,d0⟩ w0 bor L (rg L) (fun _ _ _ _=>True) 0 ρ β W X→∃ args,Calls P f args W (fun e W'=>∃ z0,e= .returned (V z0)∧St W [] [E z0] W')∧(argsOf o.op).map ρ=args)
  (h:∀ z0 w',St w0 bor (L' z0) w'→wpList P ops Q rest ⟨(t' z0).toArray,d0⟩ w') (hop:o.op= .call c:=by rfl) (hcal:c.callee= .value (.func f):=by rfl) (hg:o.guard=none:=by rfl) (hd:o.dst=some d:=by rfl) (ht:∀ z0,t.set d (V z0)=(t' z0):=by intro z0; dsimp only [List.set]) (hL:∀ z0,L++[E z0]=(L' z0):=by intro z0; dsimp only [List.cons_append,List.nil_append]) (hf:callP P f=true:=by kernel_rfl):
  wpList P ops Q (o::rest) ⟨t.toArray,d0⟩ w:=
 sqkN (Z:=Z) (fun r=>V r) (fun r=>E r) hst (fun cx=>let ⟨args,h1,h2⟩:=hs cx; ⟨args,h1.mono (fun e W' ⟨z0,h1,h2⟩=>⟨z0,h1,h2⟩),h2⟩) (fun r w' hw=>by rw [ht]; exact h r w' (hL r ▸ hw)) hop hcal hg hd hf
theorem sqk1s {Z:Type} {R:Type} {d:Tmp} {L':Z→R→List Ent} {t':Z→List Value} (V:Z→Value) (E:Z→R→Ent) (hst:St w0 bor L w) {c:Call} {f:FuncId} (hs:∀ {ρ:Operand→Value} {β:Tmp→Value} {W:World} {X:Nat→Ent},CtxV #[o] [0] ⟨t.toArray,d0⟩ w0 bor L (rg L) (fun _ _ _ _=>True) 0 ρ β W X→∃ args,Calls P f args W (fun e W'=>∃ z0 r,e= .returned (V z0)∧St W [] [E z0 r] W')∧(argsOf o.op).map ρ=args)
  (h:∀ z0 r w',St w0 bor (L' z0 r) w'→wpList P ops Q rest ⟨(t' z0).toArray,d0⟩ w') (hop:o.op= .call c:=by rfl) (hcal:c.callee= .value (.func f):=by rfl) (hg:o.guard=none:=by rfl) (hd:o.dst=some d:=by rfl) (ht:∀ z0,t.set d (V z0)=(t' z0):=by intro z0; dsimp only [List.set]) (hL:∀ z0 r,L++[E z0 r]=(L' z0 r):=by intro z0 r; dsimp only [List.cons_append,List.nil_append]) (hf:callP P f=true:=by kernel_rfl):
  wpList P ops Q (o::rest) ⟨t.toArray,d0⟩ w:=
 sqkN (Z:=Z×R) (fun r=>V r.1) (fun r=>E r.1 r.2) hst (fun cx=>let ⟨args,h1,h2⟩:=hs cx; ⟨args,h1.mono (fun e W' ⟨z0,r,h1,h2⟩=>⟨(z0,r),h1,h2⟩),h2⟩) (fun r w' hw=>by rw [ht]; exact h r.1 r.2 w' (hL r.1 r.2 ▸ hw)) hop hcal hg hd hf
theorem sqk2 {Z:Type} {Y:Type} {d:Tmp} {L':Z→Y→List Ent} {t':Z→Y→List Value} (V:Z→Y→Value) (E:Z→Y→Ent) (hst:St w0 bor L w) {c:Call} {f:FuncId} (hs:∀ {ρ:Operand→Value} {β:Tmp→Value} {W:World} {X:Nat→Ent},CtxV #[o] [0] ⟨t.toArray,d0⟩ w0 bor L (rg L) (fun _ _ _ _=>True) 0 ρ β W X→∃ args,Calls P f args W (fun e W'=>∃ z0 z1,e= .returned (V z0 z1)∧St W [] [E z0 z1] W')∧(argsOf o.op).map ρ=args)
  (h:∀ z0 z1 w',St w0 bor (L' z0 z1) w'→wpList P ops Q rest ⟨(t' z0 z1).toArray,d0⟩ w') (hop:o.op= .call c:=by rfl) (hcal:c.callee= .value (.func f):=by rfl) (hg:o.guard=none:=by rfl) (hd:o.dst=some d:=by rfl) (ht:∀ z0 z1,t.set d (V z0 z1)=(t' z0 z1):=by intro z0 z1; dsimp only [List.set]) (hL:∀ z0 z1,L++[E z0 z1]=(L' z0 z1):=by intro z0 z1; dsimp only [List.cons_append,List.nil_append]) (hf:callP P f=true:=by kernel_rfl):
  wpList P ops Q (o::rest) ⟨t.toArray,d0⟩ w:=
 sqkN (Z:=Z×Y) (fun r=>V r.1 r.2) (fun r=>E r.1 r.2) hst (fun cx=>let ⟨args,h1,h2⟩:=hs cx; ⟨args,h1.mono (fun e W' ⟨z0,z1,h1,h2⟩=>⟨(z0,z1),h1,h2⟩),h2⟩) (fun r w' hw=>by rw [ht]; exact h r.1 r.2 w' (hL r.1 r.2 ▸ hw)) hop hcal hg hd hf
/-- a call that changes one block -/
theorem sqkm {d:Tmp} {L':List Ent} {t':List Value} {b ty:Nat} {cs:Array Value} (V:Value) (q:Nat) (cs':Array Value) (hst:St w0 bor L w) {c:Call} {f:FuncId} (hs:∀ {ρ:Operand→Value} {β:Tmp→Value} {W:World} {X:Nat→Ent},CtxV #[o] [0] ⟨t.toArray,d0⟩ w0 bor L (rg L) (fun _ _ _ _=>True) 0 ρ β W X→∃ args,Calls P f args W (fun e W'=>e= .returned V∧Upd [b] W W'∧Blk W' b ty cs')∧(argsOf o.op).map ρ=args)
  (h:∀ w',St w0 bor L' w'→wpList P ops Q rest ⟨t'.toArray,d0⟩ w') (hq:L[q]? =some (eB b ty cs):=by rfl) (hop:o.op= .call c:=by rfl) (hcal:c.callee= .value (.func f):=by rfl) (hg:o.guard=none:=by rfl) (hd:o.dst=some d:=by rfl) (ht:t.set d V=t':=by dsimp only [List.set]) (hL:L.set q (eB b ty cs')=L':=by dsimp only [List.set]) (hf:callP P f=true:=by kernel_rfl):wpList P ops Q (o::rest) ⟨t.toArray,d0⟩ w:=by
 have hql:q < L.length:=(List.getElem?_eq_some_iff.1 hq).1
 refine sqc0 V (eB b ty cs') q hst (svA (o:=o) (fun ρ β W X cx=>?_) rfl hg) h (ht:=ht) (hL:=hL) (hk:=by simpa using hql) (hg:=hg) (hd:=hd)
 obtain ⟨args,hc,hm⟩:=hs (cx.triv fun _ _ _ _=>trivial)
 rw [hop] at hm
 refine DoesU.call (run_callF hop cx.sees hcal hf hm) (hc.mono ?_)
 rintro e W1 ⟨rfl,hu,hb⟩
 exact ⟨_,rfl,post_mut (cx.init q _ hq) rfl rfl hu hb (fun σ β' X' hs hb hv hx=>⟨(hv d hd).1,hx⟩)⟩
/-- a row written out, its elements of several cells -/
theorem sqli {d:Tmp} {ty:TypeId} {parts:Array (Nat×Operand)} {L':Nat→List Ent} {t':Nat→List Value} (e sz n:Nat) (xs:List Value) (hst:St w0 bor L w)
  (hr:∀ {ρ:Operand→Value} {β:Tmp→Value} {W:World} {X:Nat→Ent},CtxV #[o] [0] ⟨t.toArray,d0⟩ w0 bor L (rg L) (fun _ _ _ _=>True) 0 ρ β W X→(execOp ρ o).run P W= .ok (.value (.slice (some ⟨W.heap.size,0,none⟩) n n)) (W.alloc (.cells xs.toArray e)))
  (h:∀ B w',St w0 bor (L' B) w'→wpList P ops Q rest ⟨(t' B).toArray,d0⟩ w') (hop:o.op= .buildSlice ty n parts:=by rfl) (hg:o.guard=none:=by rfl) (hd:o.dst=some d:=by rfl) (ht:∀ B,t.set d (.slice (some ⟨B,0,none⟩) n n)=t' B:=by intro B; dsimp only [List.set]) (hL:∀ B,L++[eO e sz (.slice (some ⟨B,0,none⟩) n n) n xs]=L' B:=by intro B; dsimp only [List.cons_append,List.nil_append])
  (hn:xs.length=n*sz:=by rfl) (hm:n≤maxLen:=by decide):wpList P ops Q (o::rest) ⟨t.toArray,d0⟩ w:=
 sqn1 pb' _ _ hst (svA (o:=o) (fun ρ β W X cx=>dv_litN hop (hr (cx.triv fun _ _ _ _=>trivial)) hn hm hd rfl (fun σ β' X' hs hb hv hx=>⟨hv,hx⟩)) rfl hg) h (ht:=ht) (hL:=hL) (hg:=hg) (hd:=hd)
/-- append of elements of several cells -/
theorem sqap {d ty:Tmp} {e sz n m bytes cp:Nat} {z:Value} {A0:Option Addr} {c0:Nat} {a:Addr} {xs news:List Value} {x y:Operand} {L':Option Addr→Nat→List Ent} {t':Option Addr→Nat→List Value} (nm:Nat) (xs':List Value) (q:Nat) (hst:St w0 bor L w)
  (hinf:(P.info? e).map (fun i=>(i.zero,i.size,i.bytes))=some (some z,sz,bytes)) (hA:∀ {ρ:Operand→Value} {β:Tmp→Value} {W:World} {X:Nat→Ent},CtxV #[o] [0] ⟨t.toArray,d0⟩ w0 bor L (rg L) (fun _ _ _ _=>True) 0 ρ β W X→At W (some a) news)
  (h:∀ A c w',St w0 bor (L' A c) w'→wpList P ops Q rest ⟨(t' A c).toArray,d0⟩ w') (hop:o.op= .call {callee:= .builtin .append,args:=#[x,y],argTypes:=#[ty,ty]}:=by rfl) (hx:Act.eval ⟨t.toArray,d0⟩ x= .slice A0 n c0:=by rfl) (hy:Act.eval ⟨t.toArray,d0⟩ y= .slice (some a) m cp:=by rfl) (hq:L[q]? =some (eO e sz (.slice A0 n c0) n xs):=by rfl)
  (hg:o.guard=none:=by rfl) (hd:o.dst=some d:=by rfl) (ht:∀ A c,t.set d (.slice A nm c)=t' A c:=by intro A c; dsimp only [List.set]) (hL:∀ A c,L.set q (eO e sz (.slice A nm c) nm xs')=L' A c:=by intro A c; dsimp only [List.set]) (hl:news.length=m*sz:=by rfl) (h1:∀ u∈news,u.oneCell'=true:=by simp [Value.oneCell']) (h63:n+m≤maxLen:=by simp only [maxLen]; omega) (hbytes:(n+m)*bytes≤140737488355328:=by omega) (hnm:n+m=nm:=by omega) (hxs:xs++news=xs':=by rfl)
  (hu:P.underlying ty=some (.slice e):=by kernel_rfl) (hz:z.cells.size=sz:=by rfl) (hsz:Nat.blt 0 sz=true:=by rfl):wpList P ops Q (o::rest) ⟨t.toArray,d0⟩ w:=by
 have hql:q < L.length:=(List.getElem?_eq_some_iff.1 hq).1
 obtain ⟨i0,hi0,hz0,hz1,hz2⟩:=info_parts hinf
 refine sqD (D:=fun _ σ β X=>σ d= .slice (sA (β d)) nm (sC (β d))∧X L.length=eO e sz (.slice (sA (β d)) nm (sC (β d))) nm xs') 1 [q] hst ?_ hg (fun z hz=>by rw [List.mem_singleton.1 hz]; exact hql) fun σ β X v w' hD hv hs'=>?_
 ·exact dv_appendN hop rfl hu hi0 hz0 hz1 hz2 hz (by simpa using hsz) hx (sqCtx (o:=o) hst _) (by rw [List.getD_eq_getElem?_getD,hq]; rfl) (by simp [atV]; exact hql) hy hl (hA (sqCtx hst fun _=>undef)) h1 h63 hbytes hd rfl rfl hnm hxs (fun σ β' X' hs hb hv hx=>⟨hv,hx⟩)
 ·rw [(hv d hd).1,(hv d hd).2] at hD
  have h2:=h (sA v) (sC v) w' (by rw [← hL,← hD.2]; exact hs'.perm (rem_perm _ q L 0 (Nat.zero_le _) (by simpa using hql)))
  rw [← ht,← hD.1] at h2
  rw [hd]
  show wpList P ops Q rest ⟨t.toArray.setIfInBounds d v,d0⟩ w'
  rw [List.setIfInBounds_toArray]
  exact h2
end
end
section
open Go.RowKit
section
variable {P:Program} {Q:Exit→Act→World→Prop} {ops:Array Oper} {d0:List Deferred} {w:World}
/-- lines of a table, then a stretch under a guard that says no: at once, for a goal at such a stretch is dear -/
theorem sqpn (tb:List SE) (dg:Nat) (ds:List Tmp) {os os1 os':List Oper} {o:Oper} {g:Nat} {b x:Bool} {t t1 t':List Value} (h:wpList P ops Q os' ⟨t'.toArray,d0⟩ w) (ht1:finS tb t=t1:=by dsimp only [finS,SE.d,SE.v,List.set,gS]) (ho:os.drop tb.length=o::os1:=by first | (dsimp only [List.drop,List.length]; done) | rfl)
  (hv:gS t1 dg= .bool x:=by rfl) (hx:x=b:=by rfl) (ht:ds.foldl (fun l d=>l.set d undef) t1=t':=by dsimp only [List.foldl,List.set]) (hos:(o::os1).drop ds.length=os':=by dsimp only [List.drop,List.length])
  (hk:stOk ops (gOf o) (dstAt ops (gOf o).1) ((o::os1).take ds.length) ds []=true:=by kernel_rfl) (hgo:o.guard=some (g,!b):=by rfl) (hd:dstAt ops g=some dg:=by kernel_rfl) (hl:Nat.blt dg t1.length=true:=by kernel_rfl) (hg:goS P (os.take tb.length) tb t=wtS tb t:=by kernel_rfl) (hn:(os.take tb.length).length=tb.length:=by kernel_rfl):wpList P ops Q os ⟨t.toArray,d0⟩ w:=
 sqp tb (sqgn dg ds hv hx h ht hos hk hgo hd hl) ht1 ho hg hn
end
end
section
open Go.RowKit Go.Maps Go.ChangeMaps
/-- how keys are written -/
structure Kc (κ:Type) where
 enc:κ→Value
 lit:κ→Lit
 ok:κ→Prop
 ty:Program→TypeId→Prop
 inj:∀ {x y},lit x=lit y→x=y
 isk:∀ x,WideAt.IsKeyLit (lit x)
 keyed:∀ {P k},ty P k→Keyed P k
 key:∀ {P k x},ty P k→ok x→keyOf P k (enc x)=some (lit x)
def kcI:Kc Int where
 enc:= .int .i64
 lit:= .int .i64
 ok x:= -9223372036854775808≤x∧x≤9223372036854775807
 ty P k:=P.underlying k=some (.int .i64)
 inj h:=by injection h
 isk _:=trivial
 keyed h:=int_keyed h
 key h hx:=keyOf_int_mk h (by
  show (decide (IntKind.i64.min≤ _)&&decide (_≤IntKind.i64.max))=true
  have h1:IntKind.i64.min= -9223372036854775808:=by decide
  have h2:IntKind.i64.max=9223372036854775807:=by decide
  rw [h1,h2,decide_eq_true hx.1,decide_eq_true hx.2]; rfl)
/-- how an element lies in a map and how it reads -/
structure Ec (ε:Type) where
 enc:ε→Value
 dat:ε→DataW Unit
 R:Value→Option (DataW Unit×List MemPlace)
 e0:ε
 okE:ε→Prop
 read:∀ e,okE e→R (enc e)=some (dat e,[])
 back:∀ v d ps e,R v=some (d,ps)→d=dat e→v=enc e
 ok0:okE e0
def MapX {κ ε:Type} (K:Kc κ) (C:Ec ε) (P:Program) (k b n:Nat) (m:κ→Option ε) (W:World):Prop:=
 ∃ D:DataW Unit,W.ownsMap P k C.R b n D∧Tidy D∧size D=n∧∀ x,K.ok x→has D (K.lit x)=(m x).isSome∧D.atKey (K.lit x) (C.dat C.e0)=C.dat ((m x).getD C.e0)
def eMx {κ ε:Type} (K:Kc κ) (C:Ec ε) (P:Program) (k b n:Nat) (m:κ→Option ε):Ent:=⟨[b],MapX K C P k b n m⟩
def putX {κ ε:Type} [DecidableEq κ] (m:κ→Option ε) (x:κ) (e:Option ε):κ→Option ε:=fun y=>if y=x then e else m y
theorem owns_size {H:Type} {P:Program} {k b n:Nat} {R:Value→Option (DataW H×List MemPlace)} {W:World} {D:DataW H} (h:W.ownsMap P k R b n D):W.ownsMap P k R b (size D) D:=by
 obtain ⟨es,clock,hb,F,hs,rfl⟩:=h
 refine ⟨es,clock,hb,F,?_,rfl⟩
 simp [Maps.size,length_sorted]
section
variable {κ ε:Type} {K:Kc κ} {C:Ec ε}
theorem eMx_loc (P:Program) (k b n:Nat) (m:κ→Option ε):(eMx K C P k b n m).loc:=fun W W' h hb=>by
 obtain ⟨D,⟨es,clock,h1,h2⟩,h3⟩:=hb
 exact ⟨D,⟨es,clock,(h b (by simp [eMx])).trans h1,h2⟩,h3⟩
variable {P:Program} {o:Oper} {ρ:Operand→Value} {W:World} {k e b n:Nat} {m:κ→Option ε}
theorem MapX.lt (h:MapX K C P k b n m W):b < W.heap.size:=by
 obtain ⟨D,hD, _⟩:=h
 exact hD.lt
theorem run_lookMx {t:TypeId} {y z:Operand} {x:κ} (h:o.op= .lookup t y z false) (hy:ρ y= .map (some b)) (hz:ρ z=K.enc x) (hb:MapX K C P k b n m W) (h0:(zeroValue e).run P W= .ok (C.enc C.e0) W) (hx:K.ok x)
  (hk:K.ty P k:=by kernel_rfl) (ht:P.underlying t=some (.map k e):=by kernel_rfl):(execOp ρ o).run P W= .ok (.value (C.enc ((m x).getD C.e0))) W:=by
 obtain ⟨D,hD, _, _,hm⟩:=hb
 obtain ⟨v,ps,hrun,hv⟩:=hD.lookup (K.keyed hk) ht h0 (C.read C.e0 C.ok0) (K.key hk hx)
 rw [C.back v _ ps _ hv (hm x hx).2] at hrun
 unfold execOp
 rw [h]
 simp [hy,hz,hrun]
theorem run_lenMx {c:Call} {y:Operand} {t:TypeId} (h:o.op= .call c) (hc:c.callee= .builtin .len) (ha:c.args=#[y]) (hat:c.argTypes=#[t]) (hy:ρ y= .map (some b)) (hb:MapX K C P k b n m W) (ht:P.underlying t=some (.map k e):=by kernel_rfl):
  (execOp ρ o).run P W= .ok (.value (.int .i64 (n:Int))) W:=by
 obtain ⟨D,hD, _,hs, _⟩:=hb
 have hl:=hD.len ht o.type
 rw [hs] at hl
 unfold execOp
 rw [h]
 obtain ⟨cal,args,tys⟩:=c
 simp only at hc ha hat
 subst hc ha hat
 simp [go_sem,hy,hl]
def mzP (m:κ→Option ε) (x:κ) (n:Nat):Nat:=if (m x).isSome then n else n+1
theorem run_setMx [DecidableEq κ] {t:TypeId} {y z u:Operand} {x:κ} {v:ε} (h:o.op= .mapUpdate t y z u∨o.op= .insert t y z u) (hy:ρ y= .map (some b)) (hz:ρ z=K.enc x) (hu:ρ u=C.enc v) (hb:MapX K C P k b n m W) (hv:C.okE v) (hn:n < 1000000) (hx:K.ok x)
  (hk:K.ty P k:=by kernel_rfl) (ht:P.underlying t=some (.map k e):=by kernel_rfl):
  ∃ W',(execOp ρ o).run P W= .ok .skip W'∧MapX K C P k b (mzP m x n) (putX m x (some v)) W'∧Upd [b] W W':=by
 obtain ⟨D,hD,hI,hs,hm⟩:=hb
 obtain ⟨W',hrun,hown,hg⟩:=hD.update (K.keyed hk) ht (by simp only [maxLen]; omega) (K.key hk hx) (C.read v hv)
 have hsz:size (D.put (K.lit x) (C.dat v))=mzP m x n:=by rw [size_put hI,(hm x hx).1,hs,mzP]
 refine ⟨W',?_,⟨_,by have h9:=owns_size hown; rwa [hsz] at h9,hI.put (K.isk x) _,hsz,fun y hy=>?_⟩,⟨hg.os,hg.tape,hg.output,hg.size,fun i hi hn=>hg.block i hi (fun e'=>hn (by cases e'; simp))⟩⟩
 ·unfold execOp
  rcases h with h | h<;>rw [h]<;>simp [hy,hz,hu,hrun]
 ·unfold putX
  by_cases e':y=x
  ·subst e'
   rw [if_pos rfl]
   exact ⟨has_put_same hI.isMap (K.isk y) _,atKey_put_same hI.isMap (K.isk y) _ _⟩
  ·have e2:K.lit y≠K.lit x:=fun h=>e' (K.inj h)
   rw [if_neg e',has_put_other e2,atKey_put_other e2]
   exact hm y hy
def mzD (m:κ→Option ε) (x:κ) (n:Nat):Nat:=if (m x).isSome then n - 1 else n
theorem run_delMx [DecidableEq κ] {c:Call} {y z:Operand} {x:κ} {t:TypeId} (h:o.op= .call c) (hc:c.callee= .builtin .delete) (ha:c.args=#[y,z]) (hat:c.argTypes=#[t,k]) (hy:ρ y= .map (some b)) (hz:ρ z=K.enc x) (hb:MapX K C P k b n m W) (hx:K.ok x)
  (hk:K.ty P k:=by kernel_rfl) (ht:P.underlying t=some (.map k e):=by kernel_rfl):
  ∃ W',(execOp ρ o).run P W= .ok (.value (.tuple #[])) W'∧MapX K C P k b (mzD m x n) (putX m x none) W'∧Upd [b] W W':=by
 obtain ⟨D,hD,hI,hs,hm⟩:=hb
 obtain ⟨W',hrun,hown,es,clock,es',clock',h1,h2⟩:=hD.drop (K.keyed hk) ht (K.key hk hx) o.type
 have hsz:size (D.del (K.lit x))=mzD m x n:=by
  have h9:=size_del (k:=K.lit x) hI
  rw [(hm x hx).1,hs] at h9
  unfold mzD
  split at h9
  ·rw [if_pos (by assumption)]; omega
  ·rw [if_neg (by assumption)]; omega
 refine ⟨W',?_,⟨_,by have h9:=owns_size hown; rwa [hsz] at h9,hI.del _,hsz,fun y hy=>?_⟩,?_⟩
 ·unfold execOp
  rw [h]
  obtain ⟨cal,args,tys⟩:=c
  simp only at hc ha hat
  subst hc ha hat
  simp [go_sem,hy,hz,hrun]
 ·unfold putX
  by_cases e':y=x
  ·subst e'
   rw [if_pos rfl]
   exact ⟨has_del_same,atKey_del_same _⟩
  ·have e2:K.lit y≠K.lit x:=fun h=>e' (K.inj h)
   rw [if_neg e',has_del_other e2,atKey_del_other e2]
   exact hm y hy
 ·subst h2
  exact ⟨rfl,rfl,rfl,by simp [setBlock],fun i hi hn=>heap_setBlock_other h1 _ (fun e'=>hn (by simp [e']))⟩
theorem MapX.made:MapX K C P k W.heap.size 0 (fun _=>none) (W.alloc (.map #[] 0)):=⟨.map [],World.ownsMap_made W P k C.R,tidy_empty,rfl,fun x hx=>⟨rfl,rfl⟩⟩
end
section
variable {κ ε:Type} {K:Kc κ} {C:Ec ε} {P:Program} {ops:Array Oper} {L:List Nat} {a0:Act} {w0:World} {bor:List Nat} {X0:List Ent} {us cr kl:List (List Nat)}
 {D:Nat→(Tmp→Value)→(Tmp→Value)→(Nat→Ent)→Prop} {i:Nat} {o:Oper} {ρ:Operand→Value} {β:Tmp→Value} {W:World} {X:Nat→Ent}
def pbx:Value→Nat
 | .map (some b)=>b
 | _=>0
theorem CtxV.mx {q k b n:Nat} {m:κ→Option ε} (cx:CtxV ops L a0 w0 bor X0 us D i ρ β W X) (hX:X q=eMx K C P k b n m) (hu:(atV us i).contains q=true):MapX K C P k b n m W:=by
 have h:=(cx.ok q hu).holds
 rw [hX] at h; exact h
theorem dv_makeMx {t d k q:Nat} (h:o.op= .makeMap t none) (hd:o.dst=some d) (hc:atV cr i=[q]) (hk:atV kl i=[])
  (hD:∀ (σ β':Tmp→Value) (X':Nat→Ent),(∀ t,t≠d→σ t=ρ (.tmp t))→(∀ t,t≠d→β' t=β t)→σ d= .map (some (pbx (β' d)))→X' q=eMx K C P k (pbx (β' d)) 0 (fun _=>none)→D i σ β' X'):DoesU P o ρ W (PostV cr kl D i o.dst ρ β W X):=by
 refine DoesU.value (v:= .map (some W.heap.size)) (w':=W.alloc (.map #[] 0)) (by unfold execOp; rw [h]; rfl) ?_
 refine post_call [eMx K C P k W.heap.size 0 (fun _=>none)] hk (by rw [hc]; rfl) ((Ext.refl W).alloc _) (one_new ⟨MapX.made,eMx_loc _ _ _ _ _,fun k' hk'=>?_⟩) (List.pairwise_singleton _ _) (fun σ β' X' hs hb hv hN=>?_)
 ·have:k'=W.heap.size:=by simpa [eMx] using hk'
  subst this
  exact ⟨Nat.le_refl _,by simp⟩
 ·have hv1:=(hv d hd).1; have hv2:=(hv d hd).2
  rw [hc] at hN
  refine hD σ β' X' (fun t ht=>hs t (by rw [hd]; simpa using ht.symm)) (fun t ht=>hb t (by rw [hd]; simpa using ht.symm)) ?_ ?_
  ·rw [hv1,hv2]; rfl
  ·rw [hv2]; exact (List.cons.inj hN).1
theorem post_mapX {k b n n' q q':Nat} {m m':κ→Option ε} {W':World} (hX:X q=eMx K C P k b n m) (h1:MapX K C P k b n' m' W') (h2:Upd [b] W W') (hc:atV cr i=[q']) (hkl:atV kl i=[q]):
  ([eMx K C P k b n' m'].length=(atV cr i).length)∧(Upd ((atV kl i).flatMap fun q=>(X q).fp) W W')∧∀ e'∈[eMx K C P k b n' m'],e'.holds W'∧e'.loc∧∀ k'∈e'.fp,(k'∈((atV kl i).flatMap fun q=>(X q).fp)∨W.heap.size≤k')∧k' < W'.heap.size:=by
 refine ⟨by rw [hc]; rfl,?_,fun e' he'=>?_⟩
 ·rw [hkl]
  simp only [List.flatMap_cons,List.flatMap_nil,List.append_nil,hX]
  exact h2
 ·rw [List.mem_singleton] at he'
  subst he'
  refine ⟨h1,eMx_loc _ _ _ _ _,fun k' hk'=>?_⟩
  have hkb:k'=b:=by simpa [eMx] using hk'
  subst hkb
  refine ⟨.inl ?_,h1.lt⟩
  rw [hkl]
  simp [hX,eMx]
theorem dv_setMx [DecidableEq κ] {t k e b n q q':Nat} {m:κ→Option ε} {y z u:Operand} {x:κ} {v:ε} (h:o.op= .mapUpdate t y z u∨o.op= .insert t y z u) (hy:ρ y= .map (some b)) (hz:ρ z=K.enc x) (hu:ρ u=C.enc v)
  (cx:CtxV ops L a0 w0 bor X0 us D i ρ β W X) (hX:X q=eMx K C P k b n m) (hq:(atV us i).contains q=true) (hv:C.okE v) (hn:n < 1000000) (hx:K.ok x) (hd:o.dst=none) (hc:atV cr i=[q']) (hkl:atV kl i=[q])
  (hD:∀ (σ β':Tmp→Value) (X':Nat→Ent),(∀ t,σ t=ρ (.tmp t))→(∀ t,β' t=β t)→X' q'=eMx K C P k b (mzP m x n) (putX m x (some v))→D i σ β' X')
  (hk:K.ty P k:=by kernel_rfl) (ht:P.underlying t=some (.map k e):=by kernel_rfl):DoesU P o ρ W (PostV cr kl D i o.dst ρ β W X):=by
 obtain ⟨W',hrun,h1,h2⟩:=run_setMx (v:=v) h hy hz hu (cx.mx hX hq) hv hn hx hk ht
 obtain ⟨a1,a2,a3⟩:=post_mapX (cr:=cr) (kl:=kl) (i:=i) hX h1 h2 hc hkl
 refine DoesU.skip hrun ⟨[eMx K C P k b (mzP m x n) (putX m x (some v))],a1,⟨a2,a3,List.pairwise_singleton _ _⟩,fun σ β' X' hs hv hb' hbv hx' hN=>hD σ β' X' (fun t=>hs t (by rw [hd]; simp)) (fun t=>hb' t (by rw [hd]; simp)) ?_⟩
 rw [hc] at hN
 exact (List.cons.inj hN).1
theorem dv_delMx [DecidableEq κ] {c:Call} {t k e b n q q':Nat} {m:κ→Option ε} {y z:Operand} {x:κ} (h:o.op= .call c) (hcc:c.callee= .builtin .delete) (ha:c.args=#[y,z]) (hat:c.argTypes=#[t,k]) (hy:ρ y= .map (some b)) (hz:ρ z=K.enc x)
  (cx:CtxV ops L a0 w0 bor X0 us D i ρ β W X) (hX:X q=eMx K C P k b n m) (hq:(atV us i).contains q=true) (hx:K.ok x) (hd:o.dst=none) (hc:atV cr i=[q']) (hkl:atV kl i=[q])
  (hD:∀ (σ β':Tmp→Value) (X':Nat→Ent),(∀ t,σ t=ρ (.tmp t))→(∀ t,β' t=β t)→X' q'=eMx K C P k b (mzD m x n) (putX m x none)→D i σ β' X')
  (hk:K.ty P k:=by kernel_rfl) (ht:P.underlying t=some (.map k e):=by kernel_rfl):DoesU P o ρ W (PostV cr kl D i o.dst ρ β W X):=by
 obtain ⟨W',hrun,h1,h2⟩:=run_delMx h hcc ha hat hy hz (cx.mx hX hq) hx hk ht
 obtain ⟨a1,a2,a3⟩:=post_mapX (cr:=cr) (kl:=kl) (i:=i) hX h1 h2 hc hkl
 refine DoesU.value hrun ⟨[eMx K C P k b (mzD m x n) (putX m x none)],a1,⟨a2,a3,List.pairwise_singleton _ _⟩,fun σ β' X' hs hv hb' hbv hx' hN=>hD σ β' X' (fun t=>hs t (by rw [hd]; simp)) (fun t=>hb' t (by rw [hd]; simp)) ?_⟩
 rw [hc] at hN
 exact (List.cons.inj hN).1
end
end
section
open Go.RowKit Go.Maps Go.ChangeMaps
/-- how an element lies in a map and how it reads -/
structure Cod (E:Type) where
 enc:E→Value
 dat:E→DataW Unit
 R:Value→Option (DataW Unit×List MemPlace)
 e0:E
 read:∀ e,R (enc e)=some (dat e,[])
 back:∀ v d ps e,R v=some (d,ps)→d=dat e→v=enc e
def MapG {E:Type} (C:Cod E) (P:Program) (k b n:Nat) (m:Int→Option E) (W:World):Prop:=
 ∃ D:DataW Unit,W.ownsMap P k C.R b n D∧IsMap D∧∀ x:Int,(Lit.int .i64 x).wf=true→has D (.int .i64 x)=(m x).isSome∧D.atKey (.int .i64 x) (C.dat C.e0)=C.dat ((m x).getD C.e0)
theorem wf64 {x:Int} (h: -9223372036854775808≤x∧x≤9223372036854775807):(Lit.int .i64 x).wf=true:=by
 show (decide (IntKind.i64.min≤x)&&decide (x≤IntKind.i64.max))=true
 have h1:IntKind.i64.min= -9223372036854775808:=by decide
 have h2:IntKind.i64.max=9223372036854775807:=by decide
 rw [h1,h2,decide_eq_true h.1,decide_eq_true h.2]; rfl
section
variable {E:Type} {C:Cod E}
variable {P:Program} {o:Oper} {ρ:Operand→Value} {W:World} {k e b n:Nat} {m:Int→Option E}
theorem run_fieldV {t:TypeId} {x:Operand} {f:Nat} {v r:Value} (h:o.op= .field t x f) (hx:ρ x=v) (hf:∀ w,(Instr.field t v f).run P w= .ok r w):(execOp ρ o).run P W= .ok (.value r) W:=by
 unfold execOp; rw [h]; simp [hx,hf]
end
section
variable {E:Type} {C:Cod E} {P:Program} {ops:Array Oper} {L:List Nat} {a0:Act} {w0:World} {bor:List Nat} {X0:List Ent} {us cr kl:List (List Nat)}
 {D:Nat→(Tmp→Value)→(Tmp→Value)→(Nat→Ent)→Prop} {i:Nat} {o:Oper} {ρ:Operand→Value} {β:Tmp→Value} {W:World} {X:Nat→Ent}
end
theorem CtxV.holdE {ops:Array Oper} {L:List Nat} {a0:Act} {w0:World} {bor:List Nat} {X0:List Ent} {us:List (List Nat)} {D:Nat→(Tmp→Value)→(Tmp→Value)→(Nat→Ent)→Prop} {i:Nat} {ρ:Operand→Value} {β:Tmp→Value} {W:World} {X:Nat→Ent} {q:Nat} {E:Ent} (cx:CtxV ops L a0 w0 bor X0 us D i ρ β W X) (hX:X q=E) (hu:(atV us i).contains q=true):E.holds W:=by
 have h:=(cx.ok q hu).holds
 rw [hX] at h; exact h
end
section
open Go.RowKit Go.Maps Go.ChangeMaps
/-- block b is a map with the answers m, block r an iterator over it: left: which keys are still to come (at most cnt of them); cur: the entry at hand -/
def eRg {E:Type} (C:Cod E) (P:Program) (k b r n:Nat) (m:Int→Option E) (left:Int→Bool) (cnt:Nat) (cur:Option (Int×E)):Ent:=⟨[b,r],fun W=>
 ∃ (D:DataW Unit) (lf:Lit→Bool) (c0:Nat),W.ranges P k C.R b r n D lf c0∧c0≤cnt∧(∀ x:Int,(Lit.int .i64 x).wf=true→lf (.int .i64 x)=left x)∧IsMap D∧
   (∀ x:Int,(Lit.int .i64 x).wf=true→has D (.int .i64 x)=(m x).isSome∧D.atKey (.int .i64 x) (C.dat C.e0)=C.dat ((m x).getD C.e0))∧
   (∀ x:Int,left x=true→(m x).isSome=true)∧
   ∀ x c,cur=some (x,c)→∀ W':World,W'.heap[b]? =W.heap[b]? →W'.heap[r]? =W.heap[r]? →(Instr.entry (.pointer (some ⟨r,0,none⟩))).run P W'= .ok (.tuple #[.int .i64 x,C.enc c]) W'⟩
def nxB:Value→Bool
 | .tuple a=>match (a[0]? :Option Value) with
   | some (.bool true)=>true
   | _=>false
 | _=>false
section
variable {E:Type} {C:Cod E} {P:Program} {k b r n cnt:Nat} {m:Int→Option E} {left:Int→Bool} {cur:Option (Int×E)}
theorem eRg_loc:(eRg C P k b r n m left cnt cur).loc:=fun W W' h hb=>by
 obtain ⟨D,lf,c0,⟨es,clock,since,seen,c1,h1,h2,h3,h4,h5,h6⟩,hc,h7,h8,h9,hs,h10⟩:=hb
 have eb:W'.heap[b]? =W.heap[b]? :=h b (by simp [eRg])
 have er:W'.heap[r]? =W.heap[r]? :=h r (by simp [eRg])
 exact ⟨D,lf,c0,⟨es,clock,since,seen,c1,eb.trans h1,h2,h3,h4,er.trans h5,h6⟩,hc,h7,h8,h9,hs,fun x c hc W2 e1 e2=>h10 x c hc W2 (e1.trans eb) (e2.trans er)⟩
theorem entry_local {W W':World} {H:Type} {R:Value→Option (DataW H×List MemPlace)} {D:DataW H} {lf:Lit→Bool} {v:Value} (h:W.ranges P k R b r n D lf cnt) (hen:(Instr.entry (.pointer (some ⟨r,0,none⟩))).run P W= .ok v W) (eb:W'.heap[b]? =W.heap[b]?) (er:W'.heap[r]? =W.heap[r]?):
  (Instr.entry (.pointer (some ⟨r,0,none⟩))).run P W'= .ok v W':=by
 obtain ⟨es,clock,since,seen,c0,hb, _, _, _,hr, _⟩:=h
 have hb':=eb.trans hb
 have hr':=er.trans hr
 simp only [Instr.entry,getObj,Sem.run_bind,Sem.run,hr,hb,Result.andThen] at hen
 simp only [Instr.entry,getObj,Sem.run_bind,Sem.run,hr',hb',Result.andThen]
 cases hs:seen.back? with
 | none=>rw [hs] at hen; simp [go_sem] at hen
 | some q=>
   rw [hs] at hen
   simp only [getObj,Sem.run_bind,Sem.run,hb,Result.andThen] at hen
   simp only [getObj,Sem.run_bind,Sem.run,hb',Result.andThen]
   by_cases hc:(clock != c0)=true
   ·rw [if_pos hc] at hen
    simp [go_sem] at hen
   ·rw [if_neg hc] at hen ⊢
    cases hf:es.find? (·.born==q) with
    | none=>rw [hf] at hen; simp [go_sem] at hen
    | some x=>
      rw [hf] at hen
      simp [go_sem] at hen ⊢
      exact hen
theorem ranges_le {W:World} {H:Type} {R:Value→Option (DataW H×List MemPlace)} {D:DataW H} {lf:Lit→Bool} (h:W.ranges P k R b r n D lf cnt):cnt≤n:=by
 obtain ⟨es,clock,since,seen,c0, _, _,hs, _, _, _,hc, _⟩:=h
 rw [← hc,leftOf]
 exact Nat.le_trans Array.size_filter_le hs
end
section
variable {E:Type} {C:Cod E} {P:Program} {ops:Array Oper} {L:List Nat} {a0:Act} {w0:World} {bor:List Nat} {X0:List Ent} {us cr kl:List (List Nat)}
 {D:Nat→(Tmp→Value)→(Tmp→Value)→(Nat→Ent)→Prop} {i:Nat} {o:Oper} {ρ:Operand→Value} {β:Tmp→Value} {W:World} {X:Nat→Ent}
theorem run_entryR {k b r n cnt:Nat} {m:Int→Option E} {left:Int→Bool} {x0:Int} {c:E} {x:Operand} (h:o.op= .entry x) (hx:ρ x= .pointer (some ⟨r,0,none⟩)) (hE:(eRg C P k b r n m left cnt (some (x0,c))).holds W):(execOp ρ o).run P W= .ok (.value (.tuple #[.int .i64 x0,C.enc c])) W:=by
 obtain ⟨D0,lf,c0,hr,hle,hl,hI,hm,hls,hcur⟩:=hE
 have h1:=hcur x0 c rfl W rfl rfl
 unfold execOp; rw [h]; simp [hx,h1]
theorem nxB_t (x y:Value):nxB (.tuple #[.bool true,x,y])=true:=rfl
theorem nxB_f:nxB (.tuple #[.bool false])=false:=rfl
end
end
section
open Go.RowKit
def trimN (ss:List ByteArray):Nat→Nat
 | 0=>0
 | n+1=>if (ss.getD n ByteArray.empty).toList.isEmpty then trimN ss n else n+1
theorem trimN_le (ss:List ByteArray):∀ n,trimN ss n≤n
 | 0=>Nat.le_refl _
 | n+1=>by unfold trimN; split; exact Nat.le_succ_of_le (trimN_le ss n); exact Nat.le_refl _
theorem trimN_succ (ss:List ByteArray) (n:Nat):trimN ss (n+1)=if (ss.getD n ByteArray.empty).toList.isEmpty then trimN ss n else n+1:=rfl
def plainL (ss:List ByteArray):List ByteArray:=ss.take (trimN ss ss.length)
theorem plainL_len (ss:List ByteArray):(plainL ss).length=trimN ss ss.length:=by
 simp only [plainL,List.length_take]; exact Nat.min_eq_left (trimN_le ss _)
theorem Tryz.infoStr:(Tryz.prog.info? 9).map (fun i=>(i.zero,i.size,i.bytes))=some (some (.string ByteArray.empty),1,16):=by kernel_rfl
theorem Tryz.sizeStr:(Tryz.prog.info? 9).map (·.size)=some 1:=by kernel_rfl
theorem take_min (ss:List ByteArray) (k:Nat):((ss.take k).map Value.string).length=Nat.min ss.length k:=by
 rw [List.length_map,List.length_take]; exact Nat.min_comm _ _
/-- what make and copy leave -/
theorem plain_end {w w1 w2:World} {ss:List ByteArray} {k:Nat} (hk:k≤ss.length) (hb:ss.length≤100000) (ht:k=trimN ss ss.length) (hg1:w.grownBy w1 none)
  (h2:w2.heap[w.heap.size]? =some (.cells (splice (List.replicate k (Value.string ByteArray.empty)) 0 ((ss.take k).map Value.string)).toArray 9 (0,0))) (hb2:Below w.heap.size w1 w2):
  w2.ownsRow w.heap.size 9 1 (.slice (some ⟨w.heap.size,0,none⟩) k k) k ((plainL ss).map Value.string)∧Ext w w2∧(plainL ss).length=k:=by
 have hl:(plainL ss).length=k:=by rw [plainL_len,ht]
 have e:splice (List.replicate k (Value.string ByteArray.empty)) 0 ((ss.take k).map Value.string)=(plainL ss).map Value.string:=by
  subst ht
  simp [splice,plainL,Nat.min_eq_left (trimN_le ss ss.length)]
 rw [e] at h2
 exact ⟨own_of_block h2 (Nat.le_refl _) (by simp [hl]) (by simp only [maxLen]; omega),((Ext.refl w).grown hg1 (by simp)).out.trans hb2,hl⟩
theorem plain_any (A:Option Addr) (c:Nat) (ss:List ByteArray) (w:World) (h:At w A (ss.map Value.string)) (hl:ss.length≤100000):
  Calls Tryz.prog 104 #[.slice A ss.length c] w fun e w'=>e= .returned (.slice (some ⟨w.heap.size,0,none⟩) (plainL ss).length (plainL ss).length)∧
   w'.ownsRow w.heap.size 9 1 (.slice (some ⟨w.heap.size,0,none⟩) (plainL ss).length (plainL ss).length) (plainL ss).length ((plainL ss).map Value.string)∧Ext w w':=by
 obtain ⟨i0,hi0,hz0,hz1,hz2⟩:=info_parts Tryz.infoStr
 have H:=Lib.hid h; clear h
 go_enter Tryz.func104,Tryz.ntmps104
 go_wp2
 go_loop [3] (fun i=>∃ k:Nat,k≤ss.length∧i= .int .i64 k∧trimN ss k=trimN ss ss.length) (fun i=>(intOf i).toNat)
 case atStart=>exact ⟨_,Nat.le_refl _,rfl,rfl⟩
 case round=>
  obtain ⟨k,hk,rfl,ht⟩:=hrel
  have Ht:=Lib.hid ht; clear ht
  rcases k with _ | k
  ·go_wp2_with (first
    | (at_make; go_must (refine wpList_make_full _ rfl (.tmp 19) (.tmp 19) 46 rfl w.heap.size 9 i0 _ 1 Tryz.underlying46 hi0 hz0 hz1 .i64 .i64 _ _ 0 rfl rfl rfl rfl (by rw [hz2]; omega) (by simp only [maxLen]; omega) (Nat.le_refl _) ?_); intro w1 hown1 hg1; have hm1:=own_made hown1; clear hown1)
    | (with_reducible refine wpList_copy_splice rfl (.tmp 21) (.tmp 22) 46 46 rfl 9 Tryz.underlying46 Tryz.sizeStr _ _ _ _ _ _ rfl rfl w.heap.size 0 _ 9 hm1 [] (by simp) (by simp) (by simp) (by simp) w.heap.size w1 (Below.refl _ _) (Nat.le_refl _) ?_; intro w2 hh2 hb2))
   go_ret
   have R:=plain_end (k:=0) (Nat.zero_le _) hl Ht.out hg1 hh2.out hb2
   rw [R.2.2]
   exact ⟨rfl,R.1,R.2.1⟩
  ·have hs:(ss.map Value.string)[k]? =some (.string (ss.getD k ByteArray.empty)):=by simp [List.getD,List.getElem?_eq_getElem (show k < ss.length by omega)]
   obtain ⟨ad,rfl,hb,hc⟩:=H.out _ _ hs
   clear hs
   obtain ⟨s,hs⟩:∃ s,s=ss.getD k ByteArray.empty:=⟨_,rfl⟩
   rw [← hs] at hc
   have Hs:=Lib.hid hs; clear hs
   go_wp2_with (first
    | (at_make; go_must (refine wpList_make_full _ rfl (.tmp 19) (.tmp 19) 46 rfl w.heap.size 9 i0 _ 1 Tryz.underlying46 hi0 hz0 hz1 .i64 .i64 _ _ (k+1) rfl rfl (by omega) (by omega) (by rw [hz2]; omega) (by simp only [maxLen]; omega) (Nat.le_refl _) ?_); intro w1 hown1 hg1; have hm1:=own_made hown1; clear hown1)
    | (with_reducible refine wpList_copy_splice rfl (.tmp 21) (.tmp 22) 46 46 rfl 9 Tryz.underlying46 Tryz.sizeStr _ _ _ _ _ _ rfl rfl w.heap.size 0 _ 9 hm1 ((ss.take (k+1)).map Value.string) (take_min _ _) (fun _=>⟨rfl, _,rfl,fun j v hj=>((At.take H.out (k+1)).ext ((Ext.refl w).grown hg1 (by simp))).at_ j v (by simpa using hj)⟩) (by simp; omega) (str_one _) w.heap.size w1 (Below.refl _ _) (Nat.le_refl _) ?_; intro w2 hh2 hb2))
   ·have hemp:s.toList.isEmpty=true:=by assumption
    go_round
    case rel=>exact ⟨k,by omega,rfl,by rw [← Ht.out,trimN_succ,← Hs.out,if_pos hemp]⟩
    case measure=>simp [intOf]
   ·have hemp:s.toList.isEmpty=false:=by assumption
    go_ret
    have R:=plain_end (k:=k+1) hk hl (by rw [← Ht.out,trimN_succ,← Hs.out,hemp]; rfl) hg1 hh2.out hb2
    rw [R.2.2]
    exact ⟨rfl,R.1,R.2.1⟩
end
section
open Go.RowKit
def sizeT (ss:List ByteArray):Nat:=(ss.map fun s=>2+s.size).sum
theorem sizeT_take_succ (ss:List ByteArray) (k:Nat) (h:k < ss.length):sizeT (ss.take (k+1))=sizeT (ss.take k)+(2+ss[k].size):=by
 unfold sizeT
 rw [List.take_succ_eq_append_getElem h,List.map_append,List.sum_append]
 simp only [List.map_cons,List.map_nil,List.sum_cons,List.sum_nil,Nat.add_zero]
theorem sizeT_le (ss:List ByteArray) (B:Nat) (h:∀ s∈ss,s.size≤B):sizeT ss≤ss.length*(2+B):=by
 unfold sizeT
 induction ss with
 | nil=>simp
 | cons a l ih=>
   have h1:=h a (by simp)
   have h2:=ih fun s hs=>h s (by simp [hs])
   simp only [List.map_cons,List.sum_cons,List.length_cons,Nat.add_mul]
   omega
def sizeL (ss:List ByteArray):Nat:=14+sizeT (plainL ss)
def Small (ss:List ByteArray):Prop:=ss.length≤100000∧∀ s∈ss,s.size≤1000000
theorem Small.plain {ss:List ByteArray} (h:Small ss):Small (plainL ss):=
 ⟨by have:=plainL_len ss; have:=trimN_le ss ss.length; have:=h.1; omega,fun s hs=>h.2 s (List.mem_of_mem_take hs)⟩
theorem Small.take {ss:List ByteArray} (h:Small ss) (k:Nat):sizeT (ss.take k)≤100000*1000002:=by
 have h1:=sizeT_le (ss.take k) 1000000 fun s hs=>h.2 s (List.mem_of_mem_take hs)
 have h2:(ss.take k).length≤100000:=by have:=h.1; simp; omega
 exact Nat.le_trans h1 (Nat.mul_le_mul h2 (by omega))
theorem size_any (A:Option Addr) (c:Nat) (ss:List ByteArray) (w:World) (h:At w A (ss.map Value.string)) (hs:Small ss):
  Calls Tryz.prog 155 #[.slice A ss.length c] w fun e w'=>e= .returned (.int .i64 (sizeL ss))∧Ext w w':=by
 have H:=Lib.hid h; clear h
 have HS:=Lib.hid hs; clear hs
 go_enter Tryz.func155,Tryz.ntmps155
 go_wp2_with (go_at_call 104; refine (plain_any _ _ _ _ H.out HS.out.1).mono ?_; rintro e w1 ⟨rfl,hown,hext⟩; have Hown:=Lib.hid hown; clear hown; have Hext:=Lib.hid hext; clear hext)
 have hsm:=Small.plain HS.out
 have hpl:(plainL ss).length≤100000:=hsm.1
 have Hp:=Lib.hid hsm; clear hsm
 obtain ⟨ps,hps⟩:∃ ps,ps=plainL ss:=⟨_,rfl⟩
 rw [← hps] at Hown Hp hpl ⊢
 have Hps:=Lib.hid hps; clear hps
 go_loop [3,9] (fun n i=>∃ k:Nat,k≤ps.length∧i= .int .i64 k∧n= .int .i64 ((14+sizeT (ps.take k):Nat):Int)) (fun _ i=>ps.length - (intOf i).toNat)
 case atStart=>exact ⟨0,Nat.zero_le _,rfl,rfl⟩
 case round=>
  obtain ⟨k,hk,rfl,rfl⟩:=hrel
  have hb:=Small.take Hp.out k
  rcases Nat.lt_or_ge k ps.length with hlt | hge
  ·have hc:=(At.of_own Hown.out).get0 (k:=k) (by simpa using hlt)
   have hsz:(ps[k]).size≤1000000:=Hp.out.2 _ (List.getElem_mem hlt)
   have Hn:=Lib.hid (sizeT_take_succ ps k hlt)
   obtain ⟨s,hs⟩:∃ s,s=ps[k]:=⟨_,rfl⟩
   rw [← hs] at hsz Hn
   rw [List.getElem_map,← hs] at hc
   clear hs
   obtain ⟨t,ht⟩:∃ t,t=sizeT (ps.take k):=⟨_,rfl⟩
   rw [← ht] at Hn hb ⊢
   clear ht
   go_wp2
   go_round
   case rel=>exact ⟨k+1,by omega,by go_num,by rw [Hn.out]; go_num⟩
   case measure=>simp [intOf]; omega
  ·obtain rfl:k=ps.length:=by omega
   go_wp2
   go_ret
   exact ⟨ret_int (by rw [sizeL,← Hps.out]; omega),Hext.out⟩
end
section
open Go.RowKit
def longB (ss:List ByteArray):Bool:=ss.any fun s=>decide (400 < s.size)
theorem longB_take_succ (ss:List ByteArray) (k:Nat) (h:k < ss.length):longB (ss.take (k+1))=(longB (ss.take k)||decide (400 < ss[k].size)):=by
 unfold longB
 rw [List.take_succ_eq_append_getElem h]
 simp only [List.any_append,List.any_cons,List.any_nil,Bool.or_false]
def IdxPost (ss:List ByteArray) (w:World) (e:Ending) (w':World):Prop:=∃ r:Int,e= .returned (.int .i64 r)∧(0≤r↔longB ss=true)∧w=w'
theorem longB_of (ss:List ByteArray) (k:Nat) (h:k < ss.length) (hl:400 < ss[k].size):longB ss=true:=by
 unfold longB
 rw [List.any_eq_true]
 exact ⟨ss[k],List.getElem_mem h,by simpa using hl⟩
theorem long_any (s:ByteArray) (w:World) (hs:s.size≤9223372036854775807):
  Calls Tryz.prog 153 #[.string s] w fun e w'=>e= .returned (.bool (decide (400 < s.size)))∧w=w':=by
 go_enter Tryz.func153,Tryz.ntmps153
 go_wp2
 go_ret
 exact ⟨ret_bool (by simp only [decide_eq_decide]; omega),rfl⟩
theorem index_any (A:Option Addr) (c:Nat) (ss:List ByteArray) (w:World) (h:At w A (ss.map Value.string)) (hs:Small ss):
  Calls Tryz.prog 179 #[.slice A ss.length c, .func (.func 153) #[] #[]] w (IdxPost ss w):=by
 have H:=Lib.hid h; clear h
 have hl:=hs.1
 have HS:=Lib.hid hs; clear hs
 go_enter Tryz.func179,Tryz.ntmps179
 go_wp2
 go_loop [8] (fun i=>∃ k:Nat,k≤ss.length∧i= .int .i64 k∧longB (ss.take k)=false) (fun i=>ss.length - (intOf i).toNat)
 case atStart=>exact ⟨0,Nat.zero_le _,rfl,rfl⟩
 case round=>
  obtain ⟨k,hk,rfl,ht⟩:=hrel
  have Ht:=Lib.hid ht; clear ht
  rcases Nat.lt_or_ge k ss.length with hlt | hge
  ·obtain ⟨ad,rfl, _,hc⟩:=H.out.get (k:=k) (by simpa using hlt)
   rw [List.getElem_map] at hc
   have hsz:(ss[k]).size≤1000000:=HS.out.2 _ (List.getElem_mem hlt)
   obtain ⟨s,hs⟩:∃ s,s=ss[k]:=⟨_,rfl⟩
   rw [← hs] at hc hsz
   have Hs:=Lib.hid hs; clear hs
   rcases Nat.lt_or_ge 400 s.size with h4 | h4
   ·have hd:decide (400 < s.size)=true:=by simpa using h4
    go_wp2_with (go_at_call 153; refine (long_any _ _ (by omega)).mono ?_; rintro e w1 ⟨rfl,rfl⟩)
    go_ret
    exact ⟨_,rfl,⟨fun _=>longB_of ss k hlt (by rw [← Hs.out]; exact h4),fun _=>by omega⟩,rfl⟩
   ·have hd:decide (400 < s.size)=false:=by simpa using h4
    have hn:longB (ss.take (k+1))=false:=by rw [longB_take_succ ss k hlt,Ht.out,← Hs.out,hd]; rfl
    have Hn:=Lib.hid hn; clear hn
    go_wp2_with (go_at_call 153; refine (long_any _ _ (by omega)).mono ?_; rintro e w1 ⟨rfl,rfl⟩)
    go_round
    case rel=>exact ⟨k+1,by omega,by go_num,Hn.out⟩
    case measure=>simp [intOf]; omega
  ·obtain rfl:k=ss.length:=by omega
   rw [List.take_length] at Ht
   go_wp2
   go_ret
   exact ⟨-1,rfl,⟨fun h=>absurd h (by decide),fun h=>by rw [Ht.out] at h; cases h⟩,rfl⟩
theorem contains_any (A:Option Addr) (c:Nat) (ss:List ByteArray) (w:World) (h:At w A (ss.map Value.string)) (hs:Small ss):
  Calls Tryz.prog 154 #[.slice A ss.length c, .func (.func 153) #[] #[]] w fun e w'=>e= .returned (.bool (longB ss))∧w=w':=by
 have H:=Lib.hid h; clear h
 have HS:=Lib.hid hs; clear hs
 go_enter Tryz.func154,Tryz.ntmps154
 go_wp2_with (go_at_call 179; refine (index_any _ _ _ _ H.out HS.out).mono ?_; rintro e w1 ⟨r,rfl,hr,rfl⟩; have Hr:=Lib.hid hr; clear hr)
 go_ret
 refine ⟨ret_bool ?_,rfl⟩
 rw [Bool.eq_iff_iff,← Hr.out,decide_eq_true_iff]
def rightB (k l:Int) (ss:List ByteArray):Bool:=
 decide (0≤k)&&(decide (k≤2)&&(decide (0≤l)&&(decide (l≤2147483647)&&(decide (ss.length≤24)&&(!longB ss&&decide (sizeL ss≤512))))))
def Ret1 (v:Value) (w:World) (e:Ending) (w':World):Prop:=e= .returned v∧Ext w w'
theorem Ret1.bool {a b:Bool} {w w1:World} (h:a=b) (hx:Ext w w1):Ret1 (.bool b) w (.returned (.bool a)) w1:=⟨by rw [h],hx⟩
theorem Ret1.int {k:IntKind} {a b:Int} {w w1:World} (h:a=b) (hx:Ext w w1):Ret1 (.int k b) w (.returned (.int k a)) w1:=⟨by rw [h],hx⟩
theorem right_any (k l:Int) (A:Option Addr) (c:Nat) (ss:List ByteArray) (w:World) (h:At w A (ss.map Value.string)) (hs:Small ss):
  Calls Tryz.prog 101 #[.agg #[.int .i64 k, .int .i64 l, .slice A ss.length c]] w (Ret1 (.bool (rightB k l ss)) w):=by
 have H:=Lib.hid h; clear h
 have hl:=hs.1
 have HS:=Lib.hid hs; clear hs
 have X0:=Lib.hid ((Ext.refl w).alloc (.cells #[.int .i64 k, .int .i64 l, .slice A ss.length c] 48))
 by_cases h1:0≤k
 ·by_cases h2:k≤2
  ·by_cases h3:0≤l
   ·by_cases h4:l≤2147483647
    ·by_cases h5:ss.length≤24
     ·have h5':(ss.length:Int)≤24:=by omega
      rcases hb:longB ss with _ | _
      ·have H6:=Lib.hid hb; clear hb
       by_cases h7:sizeL ss≤512
       all_goals
        go_enter Tryz.func101,Tryz.ntmps101
        go_wp2_with (first
         | (go_at_call 154; refine (contains_any _ _ _ _ (H.out.ext X0.out) HS.out).mono ?_; rw [H6.out]; rintro e w1 ⟨rfl,rfl⟩)
         | (go_at_call 155; refine (size_any _ _ _ _ (H.out.ext X0.out) HS.out).mono ?_; rintro e w1 ⟨rfl,hx⟩; have X1:=Lib.hid (X0.out.trans hx); clear hx))
        go_ret
        exact Ret1.bool (by simp [rightB,h1,h2,h3,h4,h5,H6.out]; omega) X1.out
      ·have H6:=Lib.hid hb; clear hb
       go_enter Tryz.func101,Tryz.ntmps101
       go_wp2_with (go_at_call 154; refine (contains_any _ _ _ _ (H.out.ext X0.out) HS.out).mono ?_; rw [H6.out]; rintro e w1 ⟨rfl,rfl⟩)
       go_ret
       exact Ret1.bool (by simp [rightB,H6.out]) X0.out
     ·have h5':¬ (ss.length:Int)≤24:=by omega
      go_enter Tryz.func101,Tryz.ntmps101
      go_wp2
      go_ret
      exact Ret1.bool (by simp [rightB,h5]) X0.out
    ·go_enter Tryz.func101,Tryz.ntmps101
     go_wp2
     go_ret
     exact Ret1.bool (by simp [rightB]; intros; omega) X0.out
   ·go_enter Tryz.func101,Tryz.ntmps101
    go_wp2
    go_ret
    exact Ret1.bool (by simp [rightB]; intros; omega) X0.out
  ·go_enter Tryz.func101,Tryz.ntmps101
   go_wp2
   go_ret
   exact Ret1.bool (by simp [rightB]; intros; omega) X0.out
 ·go_enter Tryz.func101,Tryz.ntmps101
  go_wp2
  go_ret
  exact Ret1.bool (by simp [rightB]; intros; omega) X0.out
end
section
open Go.RowKit
def sizeF (n:Int):Int:=max 0 (min n 8)
theorem osize_any (n:Int) (w:World):Calls Tryz.prog 148 #[.int .i64 n] w fun e w'=>e= .returned (.int .i64 (sizeF n))∧w=w':=by
 go_enter Tryz.func148,Tryz.ntmps148
 go_wp2
 all_goals
  go_ret
  exact ⟨ret_int (by unfold sizeF; omega),rfl⟩
/-- the eight bytes of a word, big endian -/
def oct8 (n:Int):List Int:=[IntKind.u64.wrap n / 72057594037927936 % 256,IntKind.u64.wrap n / 281474976710656 % 256,IntKind.u64.wrap n / 1099511627776 % 256,IntKind.u64.wrap n / 4294967296 % 256,
 IntKind.u64.wrap n / 16777216 % 256,IntKind.u64.wrap n / 65536 % 256,IntKind.u64.wrap n / 256 % 256,IntKind.u64.wrap n % 256]
def putS (n:Int) (k:Nat):ByteArray:=strOfNums ((oct8 n).drop (8 - k))
theorem putS_size (n:Int) (k:Nat) (hk:k≤8):(putS n k).size=k:=by
 rw [putS,strOfNums_size,List.length_drop]
 show 8 - (8 - k)=k
 omega
theorem run_cv_oct (n:Int) (k:Nat) (hk:k≤8) (m:Nat) (hm:m+k=8) (W:World) (B:Nat) (hB:B=W.heap.size) (w:World) (t:TypeId) (hw:w=W.alloc (.cells ((oct8 n).map (Value.int .u8)).toArray t)):
  (convert 41 9 (.slice (some ⟨B,m,none⟩) k k)).run Tryz.prog w= .ok (.string (putS n k)) w:=by
 subst hB
 refine run_convert_bytes_arg _ 41 5 Tryz.underlying41 Tryz.underlying5 W.heap.size m k k ((oct8 n).drop (8 - k)) (by rw [List.length_drop]; show 8 - (8 - k)=k; omega) (fun i hi=>?_) 9 Tryz.underlying9
 rw [hw,World.cell?_alloc_at _ _ _ _ rfl]
 have hl:(oct8 n).length=8:=rfl
 have hlt:m+i < (oct8 n).length:=by omega
 rw [List.getElem?_toArray,List.getElem?_map,List.getElem?_eq_getElem hlt]
 have e:8 - k=m:=by omega
 rw [e,List.getD_eq_getElem?_getD,List.getElem?_drop,List.getElem?_eq_getElem hlt]
 rfl
theorem oput1_any (n:Int) (w:World):Calls Tryz.prog 120 #[.int .i64 n, .int .i64 1] w (Ret1 (.string (putS n 1)) w):=by
 have hcv:=run_cv_oct n 1 (by omega) 7 rfl w w.heap.size rfl _ 204 rfl
 simp only [oct8,List.map_cons,List.map_nil] at hcv
 have hs:sizeF 1=1:=by decide
 go_enter Tryz.func120,Tryz.ntmps120
 go_wp2_with fail
 refine wp_loop_rounds 9 ?_
 rw [rounds_succ]; go_wp2_with fail
 rw [rounds_succ]; go_wp2_with fail
 rw [rounds_succ]; go_wp2_with fail
 rw [rounds_succ]; go_wp2_with fail
 rw [rounds_succ]; go_wp2_with fail
 rw [rounds_succ]; go_wp2_with fail
 rw [rounds_succ]; go_wp2_with fail
 rw [rounds_succ]; go_wp2_with fail
 rw [rounds_succ]; go_wp2_with fail
 refine (osize_any _ _).mono ?_
 rw [hs]
 rintro e w1 ⟨rfl,rfl⟩
 clear hs
 go_wp2
 go_ret
 exact ⟨rfl,(Ext.refl w).alloc _⟩
theorem oput2_any (n:Int) (w:World):Calls Tryz.prog 120 #[.int .i64 n, .int .i64 2] w (Ret1 (.string (putS n 2)) w):=by
 have hcv:=run_cv_oct n 2 (by omega) 6 rfl w w.heap.size rfl _ 204 rfl
 simp only [oct8,List.map_cons,List.map_nil] at hcv
 have hs:sizeF 2=2:=by decide
 go_enter Tryz.func120,Tryz.ntmps120
 go_wp2_with fail
 refine wp_loop_rounds 9 ?_
 rw [rounds_succ]; go_wp2_with fail
 rw [rounds_succ]; go_wp2_with fail
 rw [rounds_succ]; go_wp2_with fail
 rw [rounds_succ]; go_wp2_with fail
 rw [rounds_succ]; go_wp2_with fail
 rw [rounds_succ]; go_wp2_with fail
 rw [rounds_succ]; go_wp2_with fail
 rw [rounds_succ]; go_wp2_with fail
 rw [rounds_succ]; go_wp2_with fail
 refine (osize_any _ _).mono ?_
 rw [hs]
 rintro e w1 ⟨rfl,rfl⟩
 clear hs
 go_wp2
 go_ret
 exact ⟨rfl,(Ext.refl w).alloc _⟩
theorem oput4_any (n:Int) (w:World):Calls Tryz.prog 120 #[.int .i64 n, .int .i64 4] w (Ret1 (.string (putS n 4)) w):=by
 have hcv:=run_cv_oct n 4 (by omega) 4 rfl w w.heap.size rfl _ 204 rfl
 simp only [oct8,List.map_cons,List.map_nil] at hcv
 have hs:sizeF 4=4:=by decide
 go_enter Tryz.func120,Tryz.ntmps120
 go_wp2_with fail
 refine wp_loop_rounds 9 ?_
 rw [rounds_succ]; go_wp2_with fail
 rw [rounds_succ]; go_wp2_with fail
 rw [rounds_succ]; go_wp2_with fail
 rw [rounds_succ]; go_wp2_with fail
 rw [rounds_succ]; go_wp2_with fail
 rw [rounds_succ]; go_wp2_with fail
 rw [rounds_succ]; go_wp2_with fail
 rw [rounds_succ]; go_wp2_with fail
 rw [rounds_succ]; go_wp2_with fail
 refine (osize_any _ _).mono ?_
 rw [hs]
 rintro e w1 ⟨rfl,rfl⟩
 clear hs
 go_wp2
 go_ret
 exact ⟨rfl,(Ext.refl w).alloc _⟩
end
section
open Go.RowKit
/-- a reader: the string, the position, whether a call has failed -/
def Rd (t:TypeId) (w:World) (B:Nat) (s:ByteArray) (p:Nat) (f:Bool):Prop:=Blk w B t #[.string s, .int .i64 p, .bool f]∧p≤s.size∧s.size≤1000000
def RdPost (t:TypeId) (v:Value) (B:Nat) (s:ByteArray) (p:Nat) (f:Bool) (w:World) (e:Ending) (w':World):Prop:=e= .returned v∧Rd t w' B s p f∧Upd [B] w w'
theorem left_any (B:Nat) (s:ByteArray) (p:Nat) (f:Bool) (w:World) (h:Rd 193 w B s p f):
  Calls Tryz.prog 149 #[.pointer (some ⟨B,0,none⟩)] w (Ret1 (.int .i64 (s.size - p:Nat)) w):=by
 obtain ⟨hb,hp,hs⟩:=h
 have c0:w.cell? ⟨B,0,none⟩=some (.string s):=hb.cell 0
 have c1:w.cell? ⟨B,1,none⟩=some (.int .i64 p):=hb.cell 1
 have e1:=Lib.hid (show (s.size:Int) - (p:Int)=((s.size - p:Nat):Int) by omega)
 clear hb
 go_enter Tryz.func149,Tryz.ntmps149
 go_wp2
 go_quiet (fail)
 go_wp2
 go_ret
 exact Ret1.int e1.out ((Ext.refl w).drewN _)
theorem failed_any (B:Nat) (s:ByteArray) (p:Nat) (f:Bool) (w:World) (h:Rd 193 w B s p f):
  Calls Tryz.prog 97 #[.pointer (some ⟨B,0,none⟩)] w fun e w'=>e= .returned (.bool f)∧w=w':=by
 obtain ⟨hb,hp,hs⟩:=h
 have c2:w.cell? ⟨B,2,none⟩=some (.bool f):=hb.cell 2
 clear hb
 go_enter Tryz.func97,Tryz.ntmps97
 go_wp2
 go_ret
 exact ⟨rfl,rfl⟩
theorem take_ok (B:Nat) (s:ByteArray) (p n:Nat) (w:World) (h:Rd 193 w B s p false) (hn:p+n≤s.size):
  Calls Tryz.prog 96 #[.pointer (some ⟨B,0,none⟩), .int .i64 n] w (RdPost 193 (.string (s.extract p (p+n))) B s (p+n) false w):=by
 obtain ⟨hb,hp,hs⟩:=h
 have HB:=Lib.hid hb
 have c0:w.cell? ⟨B,0,none⟩=some (.string s):=hb.cell 0
 have c1:w.cell? ⟨B,1,none⟩=some (.int .i64 p):=hb.cell 1
 have c2:w.cell? ⟨B,2,none⟩=some (.bool false):=hb.cell 2
 clear hb
 go_enter Tryz.func96,Tryz.ntmps96
 go_wp2_with fail
 refine (left_any _ _ _ _ _ ⟨HB.out,hp,hs⟩).mono ?_
 rintro e w1 ⟨rfl,hx⟩
 have HB1:=Lib.hid (HB.out.ext hx)
 have X1:=Lib.hid hx
 clear hx c0 c1 c2
 have c0:w1.cell? ⟨B,0,none⟩=some (.string s):=HB1.out.cell 0
 have c1:w1.cell? ⟨B,1,none⟩=some (.int .i64 p):=HB1.out.cell 1
 have f1:=HB1.out.frozen 1
 have hlt:=HB1.out.lt
 have hn1:(n:Int)≤((s.size - p:Nat):Int):=by omega
 have e1:(0:Int)≤(p:Int)+(n:Int):=by omega
 have e2:(p:Int)+(n:Int)≤(s.size:Int):=by omega
 have e3:(p:Int)≤(p:Int)+(n:Int):=by omega
 go_wp2_with fail
 go_quiet (fail)
 go_wp2
 go_ret
 refine ⟨rfl,⟨?_,hn,hs⟩,((Upd.of_ext X1.out).set (.inl (by simp)) _).drewN _⟩
 rw [show ((p+n:Nat):Int)=(p:Int)+(n:Int) by omega]
 exact (HB1.out.set_ 1 _).drewN _
theorem take_bad (B:Nat) (s:ByteArray) (p:Nat) (f:Bool) (n:Int) (w:World) (h:Rd 193 w B s p f) (hn:f=true∨n < 0∨(s.size:Int) < p+n):
  Calls Tryz.prog 96 #[.pointer (some ⟨B,0,none⟩), .int .i64 n] w (RdPost 193 (.string ByteArray.empty) B s p true w):=by
 obtain ⟨hb,hp,hs⟩:=h
 have HB:=Lib.hid hb
 have c2:w.cell? ⟨B,2,none⟩=some (.bool f):=hb.cell 2
 have f2:=hb.frozen 2
 clear hb
 rcases f with _ | _
 ·by_cases h0:n < 0
  ·go_enter Tryz.func96,Tryz.ntmps96
   go_wp2
   go_ret
   exact ⟨rfl,⟨HB.out.set_ 2 _,hp,hs⟩,(Upd.refl _ _).set (.inl (by simp)) _⟩
  ·have h1:(s.size:Int) < p+n:=by simpa [h0] using hn
   have h0':0≤n:=by omega
   have h2:((s.size - p:Nat):Int) < n:=by omega
   clear hn h1 h0
   go_enter Tryz.func96,Tryz.ntmps96
   go_wp2_with fail
   refine (left_any _ _ _ _ _ ⟨HB.out,hp,hs⟩).mono ?_
   rintro e w1 ⟨rfl,hx⟩
   have HB1:=Lib.hid (HB.out.ext hx)
   have X1:=Lib.hid hx
   clear hx c2 f2
   have c2:w1.cell? ⟨B,2,none⟩=some (.bool false):=HB1.out.cell 2
   have f2:=HB1.out.frozen 2
   go_wp2
   go_ret
   exact ⟨rfl,⟨HB1.out.set_ 2 _,hp,hs⟩,(Upd.of_ext X1.out).set (.inl (by simp)) _⟩
 ·clear hn
  go_enter Tryz.func96,Tryz.ntmps96
  go_wp2
  go_ret
  exact ⟨rfl,⟨HB.out.set_ 2 _,hp,hs⟩,(Upd.refl _ _).set (.inl (by simp)) _⟩
def numL (l:List UInt8):Nat:=l.foldl (fun n c=>n*256+c.toNat) 0
theorem numL_snoc (l:List UInt8) (c:UInt8):numL (l++[c])=numL l*256+c.toNat:=by rw [numL,List.foldl_append]; rfl
theorem numL_lt (l:List UInt8):numL l < 256 ^ l.length:=by
 have h:∀ (l:List UInt8) (n:Nat),l.foldl (fun n c=>n*256+c.toNat) n < (n+1)*256 ^ l.length:=by
  intro l
  induction l with
  | nil=>intro n; simp
  | cons c l ih=>
    intro n
    have h1:=ih (n*256+c.toNat)
    have h2:c.toNat < 256:=UInt8.toNat_lt _
    have h3:(n*256+c.toNat+1)*256 ^ l.length≤((n+1)*256)*256 ^ l.length:=Nat.mul_le_mul_right _ (by omega)
    rw [List.foldl_cons,List.length_cons,Nat.pow_succ,Nat.mul_comm (256 ^ l.length) 256,← Nat.mul_assoc]
    omega
 have:=h l 0
 simpa [numL] using this
def byteVals (s:ByteArray):List Value:=s.data.toList.map fun b=>Value.int .u8 b.toNat
/-- []byte(s) -/
theorem conv_sb (s:ByteArray) (w:World):∃ cap w',(convert 9 41 (.string s)).run Tryz.prog w= .ok (.slice (some ⟨w.heap.size,0,none⟩) s.size cap) w'∧Ext w w'∧At w' (some ⟨w.heap.size,0,none⟩) (byteVals s)∧s.size≤cap:=by
 have hcut:s.size≤grownCap w s.size 0 5:=grownCap_ge w s.size 0 5
 refine ⟨_, _,run_bytes_of_string w 9 41 5 s Tryz.underlying9 Tryz.underlying41 Tryz.underlying5,(Ext.refl w).drew.alloc _,?_,hcut⟩
 intro j u hj
 have hjl:j < s.data.toList.length:=by
  rcases Nat.lt_or_ge j s.data.toList.length with h | h
  ·exact h
  ·rw [byteVals,List.getElem?_eq_none (by simpa using h)] at hj; cases hj
 refine ⟨_,rfl,by simp,?_⟩
 have hh:=heap_alloc_new w.drew (.cells (bytesRow s (grownCap w s.size 0 5)) 5 ((bytesRow s (grownCap w s.size 0 5)).size,(bytesRow s (grownCap w s.size 0 5)).size+1))
 have hh':(w.drew.alloc (.cells (bytesRow s (grownCap w s.size 0 5)) 5 ((bytesRow s (grownCap w s.size 0 5)).size,(bytesRow s (grownCap w s.size 0 5)).size+1))).heap[w.heap.size]? = _:=hh
 rw [Addr.add_lit,Nat.zero_add]
 unfold World.cell?
 rw [hh']
 show (bytesRow s (grownCap w s.size 0 5))[j]? =some u
 rw [bytesRow,Array.getElem?_append_left (by simpa using hjl),← hj,byteVals]
 simp
theorem or_i64 (a b:Nat) (ha:a < 4611686018427387904) (hb:b < 4611686018427387904):bits .or .i64 (a:Int) (b:Int)=((a||| b:Nat):Int):=by
 have e:bits .or .i64 (a:Int) (b:Int)=IntKind.i64.wrap ((BitVec.ofInt 64 (a:Int)||| BitVec.ofInt 64 (b:Int)).toNat:Int):=rfl
 have h1:∀ n:Nat,n < 4611686018427387904→(BitVec.ofInt 64 (n:Int)).toNat=n:=fun n hn=>by
  rw [BitVec.ofInt_natCast,BitVec.toNat_ofNat,Nat.mod_eq_of_lt (by omega)]
 have h2:a||| b < 2 ^ 62:=Nat.or_lt_two_pow (by omega) (by omega)
 rw [e,BitVec.toNat_or,h1 a ha,h1 b hb,IntKind.wrap_i64]
 omega
theorem or_256 (a c:Nat) (hc:c < 256):a*256||| c=a*256+c:=by
 have:=Nat.two_pow_add_eq_or_of_lt (i:=8) (b:=c) (by omega) a
 rw [Nat.mul_comm a 256]
 exact this.symm
def numS (s:ByteArray) (p k:Nat):Nat:=numL (s.extract p (p+k)).data.toList
theorem num_ok (B:Nat) (s:ByteArray) (p k:Nat) (w:World) (h:Rd 193 w B s p false) (hk:k≤4) (hn:p+k≤s.size):
  Calls Tryz.prog 95 #[.pointer (some ⟨B,0,none⟩), .int .i64 k] w (RdPost 193 (.int .i64 (numS s p k)) B s (p+k) false w):=by
 have H:=Lib.hid h; clear h
 have hsk:=Lib.hid (show sizeF k=k by unfold sizeF; omega)
 go_enter Tryz.func95,Tryz.ntmps95
 go_wp2_with fail
 refine (osize_any _ _).mono ?_
 rw [hsk.out]
 rintro e w1 ⟨rfl,rfl⟩
 go_wp2_with fail
 refine (take_ok _ _ _ _ _ H.out hn).mono ?_
 rintro e w1 ⟨rfl,hr,hu⟩
 obtain ⟨t,ht⟩:∃ t,t=s.extract p (p+k):=⟨_,rfl⟩
 rw [← ht]
 have htk:t.size=k:=by rw [ht,ByteArray.size_extract]; omega
 have HT:=Lib.hid (show numS s p k=numL t.data.toList by rw [numS,← ht])
 have HK:=Lib.hid htk
 have HR:=Lib.hid hr
 have HU:=Lib.hid hu
 have hts:(t.size:Int)≤4:=by omega
 clear hr hu ht htk
 obtain ⟨cap,w2,hcv,hx,hAt,hcap⟩:=conv_sb t w1
 have X2:=Lib.hid hx
 have HA:=Lib.hid hAt
 clear hx hAt
 go_wp2
 go_loop [5,14] (fun x v=>∃ j:Nat,v= .int .i64 j∧j≤t.size∧x= .int .i64 (numL (t.data.toList.take j))) (fun _ v=>t.size - (intOf v).toNat)
 case atStart=>exact ⟨0,rfl,Nat.zero_le _,rfl⟩
 case round=>
  obtain ⟨j,rfl,hj,rfl⟩:=hrel
  rcases Nat.lt_or_ge j t.size with hlt | hge
  ·have hb:=numL_lt (t.data.toList.take j)
   have hlen:(t.data.toList.take j).length=j:=by simp; omega
   have h256:256 ^ (t.data.toList.take j).length≤16777216:=by
    rw [hlen]
    exact Nat.le_trans (Nat.pow_le_pow_right (by omega) (show j≤3 by omega)) (by decide)
   have hsn:t.data.toList.take (j+1)=t.data.toList.take j++[t[j]]:=by rw [List.take_succ_eq_append_getElem (by simpa using hlt)]; rfl
   have HN:=Lib.hid (show numL (t.data.toList.take (j+1))=numL (t.data.toList.take j)*256+t[j].toNat by rw [hsn,numL_snoc])
   have hcell:w2.cell? ⟨w1.heap.size,j,none⟩=some (.int .u8 t[j].toNat):=by
    obtain ⟨ad,e, _,hc⟩:=HA.out j _ (by rw [byteVals,List.getElem?_map,List.getElem?_eq_getElem (by simpa using hlt)]; rfl)
    injection e with e
    subst e
    rwa [Addr.add_lit,Nat.zero_add] at hc
   obtain ⟨a,ha⟩:∃ a,a=numL (t.data.toList.take j):=⟨_,rfl⟩
   obtain ⟨c,hc⟩:∃ c,c=t[j].toNat:=⟨_,rfl⟩
   have hc8:c < 256:=by rw [hc]; exact UInt8.toNat_lt _
   rw [← ha] at hb HN ⊢
   rw [← hc] at HN hcell
   have ha1:(a:Int)≤16777216:=by omega
   have i1:(0:Int)≤(j:Int):=by omega
   have i2:(j:Int) < (t.size:Int):=by omega
   have HO:=Lib.hid (show bits .or .i64 ((a:Int)*256) (c:Int)=((a*256+c:Nat):Int) by
    rw [show ((a:Int)*256)=((a*256:Nat):Int) by omega,or_i64 _ _ (by omega) (by omega),or_256 a c hc8])
   clear hsn hlen h256 hb ha hc
   go_wp2
   go_round
   case rel=>exact ⟨j+1,by go_num,by omega,by rw [HN.out,HO.out]⟩
   case measure=>simp [intOf]; omega
  ·obtain rfl:j=t.size:=by omega
   have e:t.data.toList.take t.size=t.data.toList:=List.take_of_length_le (by simp)
   rw [e]
   clear e
   go_wp2
   go_ret
   refine ⟨?_,⟨HR.out.1.ext X2.out,HR.out.2.1,HR.out.2.2⟩,HU.out.ext X2.out⟩
   rw [HT.out]
   rfl
theorem num_bad (B:Nat) (s:ByteArray) (p k:Nat) (f:Bool) (w:World) (h:Rd 193 w B s p f) (hk:k≤4) (hn:f=true∨s.size < p+k):
  Calls Tryz.prog 95 #[.pointer (some ⟨B,0,none⟩), .int .i64 k] w (RdPost 193 (.int .i64 0) B s p true w):=by
 have H:=Lib.hid h; clear h
 have hsk:=Lib.hid (show sizeF k=k by unfold sizeF; omega)
 have HN:=Lib.hid (show f=true∨((k:Nat):Int) < 0∨(s.size:Int) < p+(k:Nat) by
  rcases hn with h | h
  ·exact .inl h
  ·exact .inr (.inr (by omega)))
 clear hn
 go_enter Tryz.func95,Tryz.ntmps95
 go_wp2_with fail
 refine (osize_any _ _).mono ?_
 rw [hsk.out]
 rintro e w1 ⟨rfl,rfl⟩
 go_wp2_with fail
 refine (take_bad _ _ _ _ _ _ H.out HN.out).mono ?_
 rintro e w1 ⟨rfl,hr,hu⟩
 obtain ⟨cap,w2,hcv,hx,hAt,hcap⟩:=conv_sb ByteArray.empty w1
 have HR:=Lib.hid hr
 have HU:=Lib.hid hu
 have X2:=Lib.hid hx
 have hz:(ByteArray.empty).size=0:=rfl
 clear hr hu hx hAt hcap
 go_wp2
 go_loop [5,14] (fun x v=>x= .int .i64 0∧v= .int .i64 0) (fun _ _=>0)
 case atStart=>exact ⟨rfl,rfl⟩
 case round=>
  obtain ⟨rfl,rfl⟩:=hrel
  go_wp2
  go_ret
  exact ⟨rfl,⟨HR.out.1.ext X2.out,HR.out.2.1,HR.out.2.2⟩,HU.out.ext X2.out⟩
def textS (s:ByteArray) (p:Nat):ByteArray:=s.extract (p+2) (p+2+numS s p 2)
theorem Rd.cells {t:TypeId} {w:World} {B:Nat} {s:ByteArray} {p:Nat} {f:Bool} (h:Rd t w B s p f):
  w.cell? ⟨B,0,none⟩=some (.string s)∧w.cell? ⟨B,1,none⟩=some (.int .i64 p)∧w.cell? ⟨B,2,none⟩=some (.bool f)∧w.frozen? ⟨B,1,none⟩=false∧w.frozen? ⟨B,2,none⟩=false:=
 ⟨h.1.cell 0,h.1.cell 1,h.1.cell 2,h.1.frozen 1,h.1.frozen 2⟩
theorem text_ok (B:Nat) (s:ByteArray) (p:Nat) (w:World) (h:Rd 193 w B s p false) (h2:p+2≤s.size) (hn:p+2+numS s p 2≤s.size):
  Calls Tryz.prog 103 #[.pointer (some ⟨B,0,none⟩)] w (RdPost 193 (.string (textS s p)) B s (p+2+numS s p 2) false w):=by
 have H:=Lib.hid h
 obtain ⟨c0,c1,c2, _, _⟩:=h.cells
 clear h
 go_enter Tryz.func103,Tryz.ntmps103
 go_wp2_with fail
 refine (num_ok _ _ _ 2 _ H.out (by omega) h2).mono ?_
 rintro e w1 ⟨rfl,hr,hu⟩
 have HR1:=Lib.hid hr
 have HU1:=Lib.hid hu
 clear hr hu c0 c1 c2
 go_wp2_with fail
 refine (take_ok _ _ _ _ _ HR1.out hn).mono ?_
 rintro e w2 ⟨rfl,hr,hu⟩
 have HR2:=Lib.hid hr
 have HU2:=Lib.hid (HU1.out.trans hu)
 obtain ⟨c0,c1,c2, _, _⟩:=hr.cells
 clear hr hu
 have HT:=Lib.hid (show textS s p=s.extract (p+2) (p+2+numS s p 2) from rfl)
 obtain ⟨x,hx⟩:∃ x,x=s.extract (p+2) (p+2+numS s p 2):=⟨_,rfl⟩
 rw [← hx] at HT ⊢
 clear hx
 go_wp2
 go_ret
 exact ⟨by rw [HT.out]; rfl,HR2.out,HU2.out⟩
theorem text_bad (B:Nat) (s:ByteArray) (p:Nat) (f:Bool) (w:World) (h:Rd 193 w B s p f) (hn:f=true∨s.size < p+2∨s.size < p+2+numS s p 2):
  Calls Tryz.prog 103 #[.pointer (some ⟨B,0,none⟩)] w (RdPost 193 (.string ByteArray.empty) B s p true w):=by
 have H:=Lib.hid h
 obtain ⟨c0,c1,c2, _, _⟩:=h.cells
 have hps:=h.2
 clear h
 by_cases h1:f=true∨s.size < p+2
 ·have HN:=Lib.hid h1
  clear hn h1
  go_enter Tryz.func103,Tryz.ntmps103
  go_wp2_with fail
  refine (num_bad _ _ _ 2 _ _ H.out (by omega) HN.out).mono ?_
  rintro e w1 ⟨rfl,hr,hu⟩
  have HR1:=Lib.hid hr
  have HU1:=Lib.hid hu
  clear hr hu c0 c1 c2
  go_wp2_with fail
  refine (take_bad _ _ _ _ _ _ HR1.out (.inl rfl)).mono ?_
  rintro e w2 ⟨rfl,hr,hu⟩
  have HR2:=Lib.hid hr
  have HU2:=Lib.hid (HU1.out.trans hu)
  obtain ⟨c0,c1,c2,z1, _⟩:=hr.cells
  clear hr hu
  go_wp2
  go_ret
  exact ⟨rfl,⟨HR2.out.1.set_ 1 _,hps⟩,HU2.out.set (.inl (by simp)) _⟩
 ·have hf:f=false:=by
   cases f with
   | true=>exact absurd (.inl rfl) h1
   | false=>rfl
  subst hf
  have h2:p+2≤s.size:=by omega
  have h3:s.size < p+2+numS s p 2:=by
   rcases hn with h | h | h
   ·cases h
   ·omega
   ·exact h
  clear hn h1
  go_enter Tryz.func103,Tryz.ntmps103
  go_wp2_with fail
  refine (num_ok _ _ _ 2 _ H.out (by omega) h2).mono ?_
  rintro e w1 ⟨rfl,hr,hu⟩
  have HR1:=Lib.hid hr
  have HU1:=Lib.hid hu
  clear hr hu c0 c1 c2
  go_wp2_with fail
  refine (take_bad _ _ _ _ _ _ HR1.out (.inr (.inr (by omega)))).mono ?_
  rintro e w2 ⟨rfl,hr,hu⟩
  have HR2:=Lib.hid hr
  have HU2:=Lib.hid (HU1.out.trans hu)
  obtain ⟨c0,c1,c2,z1, _⟩:=hr.cells
  clear hr hu
  go_wp2
  go_ret
  exact ⟨rfl,⟨HR2.out.1.set_ 1 _,hps⟩,HU2.out.set (.inl (by simp)) _⟩
end
section
open Go.RowKit
def bl (s:ByteArray):List UInt8:=s.data.toList
def baOf (l:List UInt8):ByteArray:=⟨l.toArray⟩
theorem bl_len (s:ByteArray):(bl s).length=s.size:=by simp [bl]
theorem baOf_bl (s:ByteArray):baOf (bl s)=s:=by simp [bl,baOf]
theorem bl_baOf (l:List UInt8):bl (baOf l)=l:=by simp [bl,baOf]
theorem bl_append (a b:ByteArray):bl (a++b)=bl a++bl b:=by simp [bl,ByteArray.data_append]
theorem baOf_append (a b:List UInt8):baOf (a++b)=baOf a++baOf b:=by
 apply ByteArray.ext
 rw [ByteArray.data_append]
 simp [baOf]
theorem baOf_size (l:List UInt8):(baOf l).size=l.length:=by simp [baOf,ByteArray.size]
theorem bl_inj {a b:ByteArray} (h:bl a=bl b):a=b:=by rw [← baOf_bl a,← baOf_bl b,h]
theorem bl_extract (s:ByteArray) (p q:Nat):bl (s.extract p q)=((bl s).drop p).take (q - p):=by
 simp [bl,ByteArray.data_extract]
theorem drop_take_mid {α:Type} (a b c:List α) (p k:Nat) (hp:a.length=p) (hk:b.length=k):((a++(b++c)).drop p).take k=b:=by
 subst hp hk
 simp
theorem extr_at {s:ByteArray} {a b c:List UInt8} (hs:bl s=a++(b++c)) {p q:Nat} (hp:a.length=p) (hq:p+b.length=q):s.extract p q=baOf b:=by
 apply bl_inj
 rw [bl_extract,bl_baOf,hs,drop_take_mid a b c p (q - p) hp (by omega)]
theorem numS_at {s:ByteArray} {a b c:List UInt8} (hs:bl s=a++(b++c)) {p k:Nat} (hp:a.length=p) (hk:b.length=k):numS s p k=numL b:=by
 have h:bl (s.extract p (p+k))=b:=by rw [extr_at hs hp (by rw [hk]),bl_baOf]
 exact congrArg numL h
theorem numL_nums (xs:List Int):numL (bl (strOfNums xs))=xs.foldl (fun (n:Nat) x=>n*256+x.toNat % 256) 0:=by
 show numL ((strOfNums xs).data.toList)= _
 rw [strOfNums_data,numL,List.foldl_map]
 rfl
theorem putS_num1 (n:Int) (h0:0≤n) (h1:n < 256):(numL (bl (putS n 1)):Int)=n:=by
 have hu:IntKind.u64.wrap n=n:=by rw [IntKind.wrap_u64]; omega
 rw [putS,numL_nums,oct8,hu]
 simp only [List.drop_succ_cons,List.drop_zero,List.foldl_cons,List.foldl_nil]
 omega
theorem putS_num2 (n:Int) (h0:0≤n) (h1:n < 65536):(numL (bl (putS n 2)):Int)=n:=by
 have hu:IntKind.u64.wrap n=n:=by rw [IntKind.wrap_u64]; omega
 rw [putS,numL_nums,oct8,hu]
 simp only [List.drop_succ_cons,List.drop_zero,List.foldl_cons,List.foldl_nil]
 omega
theorem putS_num4 (n:Int) (h0:0≤n) (h1:n < 4294967296):(numL (bl (putS n 4)):Int)=n:=by
 have hu:IntKind.u64.wrap n=n:=by rw [IntKind.wrap_u64]; omega
 rw [putS,numL_nums,oct8,hu]
 simp only [List.drop_succ_cons,List.drop_zero,List.foldl_cons,List.foldl_nil]
 omega
end
section
open Go.RowKit
def itemF (ss:List ByteArray) (i:Int):ByteArray:=if i < 0 then ByteArray.empty else ss.getD i.toNat ByteArray.empty
theorem item_get (ss:List ByteArray) (i:Nat):itemF ss i=ss.getD i ByteArray.empty:=by
 rw [itemF,if_neg (by omega),Int.toNat_natCast]
theorem ba_inj {a b:ByteArray} (h:a.toList=b.toList):a=b:=by
 rw [ByteArray.toList_eq,ByteArray.toList_eq] at h
 cases a; cases b
 simp at h
 rw [h]
theorem toList_empty:ByteArray.empty.toList=[]:=by rw [ByteArray.toList_eq]; rfl
def emp (s:ByteArray):Bool:=s.toList.isEmpty
theorem emp_iff (s:ByteArray):emp s=true↔s=ByteArray.empty:=by
 unfold emp
 constructor
 ·intro h
  have h1:s.toList=[]:=by simpa using h
  exact ba_inj (by rw [h1,toList_empty])
 ·rintro rfl; rw [toList_empty]; rfl
theorem trimN_emp (ss:List ByteArray):∀ n j,trimN ss n≤j→j < n→emp (itemF ss j)=true
 | 0,j, _,h=>by omega
 | n+1,j,h1,h2=>by
   rw [trimN_succ] at h1
   split at h1
   ·rename_i he
    by_cases e:j=n
    ·subst e; rw [item_get]; exact he
    ·exact trimN_emp ss n j h1 (by omega)
   ·omega
theorem trimN_last (ss:List ByteArray):∀ n,0 < trimN ss n→emp (itemF ss (trimN ss n - 1:Nat))=false
 | 0,h=>absurd h (Nat.lt_irrefl 0)
 | n+1,h=>by
   rw [trimN_succ] at h ⊢
   split
   ·rename_i he; rw [if_pos he] at h; exact trimN_last ss n h
   ·rename_i he
    show emp (itemF ss (n+1 - 1:Nat))=false
    rw [Nat.add_sub_cancel,item_get]
    exact Bool.eq_false_iff.2 he
theorem sizeT_append (a b:List ByteArray):sizeT (a++b)=sizeT a+sizeT b:=by simp [sizeT]
theorem plain_get {ss:List ByteArray} {i:Nat} (h:i < (plainL ss).length):(plainL ss)[i]=itemF ss i:=by
 have hl:=plainL_len ss
 have ht:=trimN_le ss ss.length
 rw [item_get]
 simp [plainL,List.getD,show i < ss.length by omega]
def padTo (l:List ByteArray) (n:Nat):List ByteArray:=l++List.replicate (n - l.length) ByteArray.empty
/-- the items with one put in -/
def withL (ss:List ByteArray) (slot:Nat) (s:ByteArray):List ByteArray:=(padTo (plainL ss) (slot+1)).set slot s
def putErr (k l:Int) (ss:List ByteArray) (slot:Int) (s:ByteArray):Int:=
 if rightB k l ss=false then 22 else if slot < 0∨24≤slot∨400 < s.size then 21 else if 512 < sizeL (withL ss slot.toNat s) then 20 else 0
theorem right_parts {k l:Int} {ss:List ByteArray} (h:rightB k l ss=true):(0≤k∧k≤2)∧(0≤l∧l≤2147483647)∧(ss.length≤24∧∀ s∈ss,s.size≤400)∧sizeL ss≤512:=by
 simp only [rightB,Bool.and_eq_true,decide_eq_true_eq,Bool.not_eq_true',longB,List.any_eq_false,Nat.not_lt] at h
 exact ⟨⟨h.1,h.2.1⟩,⟨h.2.2.1,h.2.2.2.1⟩,⟨h.2.2.2.2.1,h.2.2.2.2.2.1⟩,h.2.2.2.2.2.2⟩
theorem item_out {ss:List ByteArray} {i:Nat} (h:ss.length≤i):itemF ss i=ByteArray.empty:=by
 rw [item_get]; simp [List.getD,List.getElem?_eq_none h]
theorem item_in {ss:List ByteArray} {i:Nat} (h:i < ss.length):itemF ss i=ss[i]:=by
 rw [item_get]; simp [List.getD,h]
theorem item_plain (ss:List ByteArray) (i:Nat):itemF (plainL ss) i=itemF ss i:=by
 rcases Nat.lt_or_ge i (plainL ss).length with h | h
 ·rw [item_in h,plain_get h]
 ·rw [item_out h]
  rcases Nat.lt_or_ge i ss.length with g | g
  ·rw [plainL_len] at h
   exact ((emp_iff _).1 (trimN_emp ss ss.length i h g)).symm
  ·rw [item_out g]
theorem plain_le {ss ts:List ByteArray} (h:∀ i:Nat,itemF ss i=itemF ts i):(plainL ss).length≤(plainL ts).length:=by
 rcases Nat.lt_or_ge (plainL ts).length (plainL ss).length with g | g
 ·exfalso
  have h1:=trimN_last ss ss.length (by rw [← plainL_len]; omega)
  rw [← plainL_len,h,← item_plain ts,item_out (by omega)] at h1
  rw [(emp_iff _).2 rfl] at h1
  cases h1
 ·exact g
theorem plain_ext {ss ts:List ByteArray} (h:∀ i:Nat,itemF ss i=itemF ts i):plainL ss=plainL ts:=by
 refine List.ext_getElem (Nat.le_antisymm (plain_le h) (plain_le fun i=>(h i).symm)) fun i h1 h2=>?_
 rw [plain_get h1,plain_get h2,h]
theorem plain_idem (ss:List ByteArray):plainL (plainL ss)=plainL ss:=plain_ext (item_plain ss)
theorem right_small {k l:Int} {ss:List ByteArray} (h:rightB k l ss=true):Small ss:=by
 have:=(right_parts h).2.2.1
 exact ⟨by omega,fun x hx=>by have:=this.2 x hx; omega⟩
theorem plain_plain (ss:List ByteArray):plainL (plainL ss)=plainL ss:=plain_idem ss
/-- what a page is that is made so -/
theorem right_nil {k l:Int} (h:0≤k∧k≤2) (h':0≤l∧l≤2147483647):rightB k l []=true:=by
 simp [rightB,h,h',longB,sizeL,plainL,sizeT]
theorem withL_len (ss:List ByteArray) (K:Nat) (s:ByteArray):(withL ss K s).length=max (plainL ss).length (K+1):=by
 simp only [withL,padTo,List.length_set,List.length_append,List.length_replicate]; omega
theorem withL_mem {ss:List ByteArray} {K:Nat} {s x:ByteArray} (h:x∈withL ss K s):x=s∨x∈ss∨x=ByteArray.empty:=by
 rcases List.mem_or_eq_of_mem_set h with h | h
 ·rcases List.mem_append.1 h with h1 | h1
  ·exact .inr (.inl (List.mem_of_mem_take h1))
  ·exact .inr (.inr (List.mem_replicate.1 h1).2)
 ·exact .inl h
theorem put_right {k l:Int} {ss:List ByteArray} {slot:Int} {s:ByteArray} (h:rightB k l ss=true) (hp:putErr k l ss slot s=0):rightB k l (plainL (withL ss slot.toNat s))=true:=by
 obtain ⟨hk,hl,⟨h24,hsz⟩, _⟩:=right_parts h
 unfold putErr at hp
 rw [h,if_neg (by simp)] at hp
 split at hp
 ·cases hp
 ·rename_i hb
  split at hp
  ·cases hp
  ·rename_i hz
   have hpl:=plainL_len (withL ss slot.toNat s)
   have htr:=trimN_le (withL ss slot.toNat s) (withL ss slot.toNat s).length
   have hwl:=withL_len ss slot.toNat s
   have hpl2:=plainL_len ss
   have htr2:=trimN_le ss ss.length
   have hz2:sizeL (plainL (withL ss slot.toNat s))=sizeL (withL ss slot.toNat s):=by rw [sizeL,plain_plain,sizeL]
   have hlong:longB (plainL (withL ss slot.toNat s))=false:=by
    rw [longB,List.any_eq_false]
    intro x hx
    have hx':=withL_mem (List.mem_of_mem_take hx)
    rcases hx' with rfl | hx' | rfl
    ·simp; omega
    ·have:=hsz x hx'; simp; omega
    ·simp
   simp only [rightB,Bool.and_eq_true,decide_eq_true_eq,hlong,Bool.not_false,hz2,true_and]
   exact ⟨hk.1,hk.2,hl.1,hl.2,by omega,by omega⟩
/-- a string with its length ahead -/
def textB (s:ByteArray):ByteArray:=putS s.size 2++s
def adl (l:List UInt8):Nat×Nat:=l.foldl (fun ab c=>((ab.1+c.toNat) % 65521,(ab.2+(ab.1+c.toNat) % 65521) % 65521)) (1,0)
def sumF (s:ByteArray):Nat:=(adl s.data.toList).2*65536+(adl s.data.toList).1
theorem adl_lt (l:List UInt8):(adl l).1 < 65521∧(adl l).2 < 65521:=by
 unfold adl
 have:∀ (l:List UInt8) (p:Nat×Nat),p.1 < 65521∧p.2 < 65521→(l.foldl (fun ab c=>((ab.1+c.toNat) % 65521,(ab.2+(ab.1+c.toNat) % 65521) % 65521)) p).1 < 65521∧(l.foldl (fun ab c=>((ab.1+c.toNat) % 65521,(ab.2+(ab.1+c.toNat) % 65521) % 65521)) p).2 < 65521:=by
  intro l
  induction l with
  | nil=>exact fun p h=>h
  | cons c l ih=>exact fun p h=>ih _ ⟨Nat.mod_lt _ (by omega),Nat.mod_lt _ (by omega)⟩
 exact this l (1,0) ⟨by omega,by omega⟩
theorem adl_snoc (s:ByteArray) (k:Nat) (h:k < s.size):adl (s.data.toList.take (k+1))=(((adl (s.data.toList.take k)).1+s[k].toNat) % 65521,((adl (s.data.toList.take k)).2+((adl (s.data.toList.take k)).1+s[k].toNat) % 65521) % 65521):=by
 rw [List.take_succ_eq_append_getElem (by simpa using h),adl,List.foldl_append]
 rfl
def headL (k l n:Int):List UInt8:=bl ((putS k 1++putS l 4)++putS n 1)
def itemsL (I:List ByteArray):List UInt8:=(I.map fun s=>bl (textB s)).flatten
def bodyL (k l:Int) (I:List ByteArray):List UInt8:=(headL k l I.length++itemsL I)++List.replicate (504 - (6+sizeT I)) 0++bl (putS l 4)
def bytesF (k l:Int) (I:List ByteArray):ByteArray:=putS (sumF (baOf (bodyL k l I))) 4++baOf (bodyL k l I)
theorem headL_len (k l n:Int):(headL k l n).length=6:=by
 rw [headL,bl_len,ByteArray.size_append,ByteArray.size_append,putS_size _ _ (by omega),putS_size _ _ (by omega),putS_size _ _ (by omega)]
theorem textB_size (s:ByteArray):(textB s).size=2+s.size:=by rw [textB,ByteArray.size_append,putS_size _ _ (by omega)]
theorem itemsL_len (I:List ByteArray):(itemsL I).length=sizeT I:=by
 induction I with
 | nil=>rfl
 | cons a I ih=>
   have e:itemsL (a::I)=bl (textB a)++itemsL I:=by simp [itemsL]
   have e2:sizeT (a::I)=(2+a.size)+sizeT I:=by simp [sizeT]
   rw [e,List.length_append,ih,bl_len,textB_size,e2]
theorem itemsL_snoc (I:List ByteArray) (j:Nat) (h:j < I.length):itemsL (I.take (j+1))=itemsL (I.take j)++bl (textB I[j]):=by
 rw [List.take_succ_eq_append_getElem h,itemsL,List.map_append,List.flatten_append]
 simp [itemsL]
theorem bodyL_len (k l:Int) (I:List ByteArray) (h:6+sizeT I≤504):(bodyL k l I).length=508:=by
 rw [bodyL,List.length_append,List.length_append,List.length_append,headL_len,itemsL_len,List.length_replicate,bl_len,putS_size _ _ (by omega)]
 omega
theorem sumF_lt (s:ByteArray):sumF s < 4294967296:=by
 have h:=adl_lt s.data.toList
 unfold sumF
 omega
theorem sizeT_take_le (I:List ByteArray) (j:Nat):sizeT (I.take j)≤sizeT I:=by
 have e:=sizeT_append (I.take j) (I.drop j)
 rw [List.take_append_drop] at e
 omega
/-- n texts from p on, and where they end -/
def rtx (s:ByteArray) (p:Nat):Nat→Option (List ByteArray×Nat)
 | 0=>some ([],p)
 | n+1=>match rtx s p n with
   | some (xs,q)=>if q+2≤s.size∧q+2+numS s q 2≤s.size then some (xs++[textS s q],q+2+numS s q 2) else none
   | none=>none
theorem body_parts (k l:Int) (I:List ByteArray):bl (bytesF k l I)=bl (putS (sumF (baOf (bodyL k l I))) 4)++(bodyL k l I++[]):=by rw [bytesF,bl_append,bl_baOf,List.append_nil]
theorem bytes_parts (k l:Int) (I:List ByteArray):bl (bytesF k l I)=bl (putS (sumF (baOf (bodyL k l I))) 4)++(bl (putS k 1)++(bl (putS l 4)++(bl (putS I.length 1)++(itemsL I++(List.replicate (504 - (6+sizeT I)) 0++bl (putS l 4)))))):=by
 rw [body_parts,List.append_nil,bodyL,headL,bl_append,bl_append]
 simp only [List.append_assoc]
theorem bytesF_size (k l:Int) (I:List ByteArray) (h:6+sizeT I≤504):(bytesF k l I).size=512:=by
 rw [bytesF,ByteArray.size_append,putS_size _ _ (by omega),baOf_size,bodyL_len k l I h]
theorem bytes_sum (k l:Int) (I:List ByteArray):numS (bytesF k l I) 0 4=sumF (baOf (bodyL k l I)):=by
 have h:=sumF_lt (baOf (bodyL k l I))
 have h2:=putS_num4 (sumF (baOf (bodyL k l I))) (by omega) (by omega)
 rw [numS_at (p:=0) (a:=[]) (b:=bl (putS (sumF (baOf (bodyL k l I))) 4)) (by rw [List.nil_append]; exact body_parts k l I) rfl (by rw [bl_len,putS_size _ _ (by omega)])]
 omega
theorem bytes_rest (k l:Int) (I:List ByteArray) (h:6+sizeT I≤504):(bytesF k l I).extract 4 512=baOf (bodyL k l I):=
 extr_at (body_parts k l I) (by rw [bl_len,putS_size _ _ (by omega)]) (by rw [bodyL_len k l I h])
theorem bytes_kind (k l:Int) (I:List ByteArray) (h0:0≤k) (h1:k < 256):(numS (bytesF k l I) 4 1:Int)=k:=by
 rw [numS_at (bytes_parts k l I) (by rw [bl_len,putS_size _ _ (by omega)]) (by rw [bl_len,putS_size _ _ (by omega)])]
 exact putS_num1 k h0 h1
theorem bytes_parts5 (k l:Int) (I:List ByteArray):bl (bytesF k l I)=(bl (putS (sumF (baOf (bodyL k l I))) 4)++bl (putS k 1))++(bl (putS l 4)++(bl (putS I.length 1)++(itemsL I++(List.replicate (504 - (6+sizeT I)) 0++bl (putS l 4))))):=by
 rw [bytes_parts]; simp only [List.append_assoc]
theorem bytes_lsn (k l:Int) (I:List ByteArray) (h0:0≤l) (h1:l < 4294967296):(numS (bytesF k l I) 5 4:Int)=l:=by
 rw [numS_at (bytes_parts5 k l I) (by rw [List.length_append,bl_len,bl_len,putS_size _ _ (by omega),putS_size _ _ (by omega)]) (by rw [bl_len,putS_size _ _ (by omega)])]
 exact putS_num4 l h0 h1
theorem bytes_lsn_s (k l:Int) (I:List ByteArray):(bytesF k l I).extract 5 9=putS l 4:=by
 rw [extr_at (bytes_parts5 k l I) (p:=5) (q:=9) (by rw [List.length_append,bl_len,bl_len,putS_size _ _ (by omega),putS_size _ _ (by omega)]) (by rw [bl_len,putS_size _ _ (by omega)]),baOf_bl]
theorem bytes_parts9 (k l:Int) (I:List ByteArray):bl (bytesF k l I)=((bl (putS (sumF (baOf (bodyL k l I))) 4)++bl (putS k 1))++bl (putS l 4))++(bl (putS I.length 1)++(itemsL I++(List.replicate (504 - (6+sizeT I)) 0++bl (putS l 4)))):=by
 rw [bytes_parts]; simp only [List.append_assoc]
theorem bytes_many (k l:Int) (I:List ByteArray) (h1:I.length < 256):numS (bytesF k l I) 9 1=I.length:=by
 have h2:=putS_num1 (I.length) (by omega) (by omega)
 rw [numS_at (bytes_parts9 k l I) (by simp only [List.length_append,bl_len]; rw [putS_size _ _ (by omega),putS_size _ _ (by omega),putS_size _ _ (by omega)]) (by rw [bl_len,putS_size _ _ (by omega)])]
 omega
theorem bytes_end (k l:Int) (I:List ByteArray) (h:6+sizeT I≤504):(bytesF k l I).extract 508 512=putS l 4:=by
 have e:bl (bytesF k l I)=((((bl (putS (sumF (baOf (bodyL k l I))) 4)++bl (putS k 1))++bl (putS l 4))++bl (putS I.length 1))++itemsL I++List.replicate (504 - (6+sizeT I)) 0)++(bl (putS l 4)++[]):=by
  rw [bytes_parts,List.append_nil]; simp only [List.append_assoc]
 rw [extr_at e (p:=508) (q:=512) (by
  simp only [List.length_append,bl_len,itemsL_len,List.length_replicate]
  rw [putS_size _ _ (by omega),putS_size _ _ (by omega),putS_size _ _ (by omega),putS_size _ _ (by omega)]; omega) (by rw [bl_len,putS_size _ _ (by omega)]),baOf_bl]
theorem itemsL_split (I:List ByteArray) (j:Nat) (h:j < I.length):itemsL I=itemsL (I.take j)++(bl (putS I[j].size 2)++(bl I[j]++itemsL (I.drop (j+1)))):=by
 have e:I=I.take j++I[j]::I.drop (j+1):=by rw [List.getElem_cons_drop,List.take_append_drop]
 have e2:∀ (a b:List ByteArray) (x:ByteArray),itemsL (a++x::b)=itemsL a++(bl (putS x.size 2)++(bl x++itemsL b)):=by
  intro a b x
  simp [itemsL,textB,bl_append]
 conv=>lhs; rw [e]
 rw [e2]
theorem bytes_rtx (k l:Int) (I:List ByteArray) (h:6+sizeT I≤504) (j:Nat) (hj:j≤I.length):rtx (bytesF k l I) 10 j=some (I.take j,10+sizeT (I.take j)):=by
 induction j with
 | zero=>simp [rtx,sizeT]
 | succ j ih=>
   have hz:=bytesF_size k l I h
   have e0:=itemsL_split I j (by omega)
   obtain ⟨hd,hhd⟩:∃ x,x=((bl (putS (sumF (baOf (bodyL k l I))) 4)++bl (putS k 1))++bl (putS l 4))++bl (putS I.length 1)++itemsL (I.take j):=⟨_,rfl⟩
   obtain ⟨tl,htl⟩:∃ x,x=itemsL (I.drop (j+1))++(List.replicate (504 - (6+sizeT I)) 0++bl (putS l 4)):=⟨_,rfl⟩
   have hl:hd.length=10+sizeT (I.take j):=by
    rw [hhd]
    simp only [List.length_append,bl_len,itemsL_len]
    rw [putS_size _ _ (by omega),putS_size _ _ (by omega),putS_size _ _ (by omega),putS_size _ _ (by omega)]
   have e1:bl (bytesF k l I)=hd++(bl (putS I[j].size 2)++(bl I[j]++tl)):=by
    rw [bytes_parts,e0,hhd,htl]; simp only [List.append_assoc]
   have e2:bl (bytesF k l I)=(hd++bl (putS I[j].size 2))++(bl I[j]++tl):=by rw [e1,List.append_assoc]
   have hst:sizeT (I.take (j+1))=sizeT (I.take j)+2+I[j].size:=by
    have a1:=itemsL_snoc I j (by omega)
    have a2:=congrArg List.length a1
    rw [List.length_append,itemsL_len,itemsL_len,bl_len,textB_size] at a2
    omega
   have hle:=sizeT_take_le I (j+1)
   have hn:numS (bytesF k l I) (10+sizeT (I.take j)) 2=I[j].size:=by
    rw [numS_at e1 hl (by rw [bl_len,putS_size _ _ (by omega)])]
    have:=putS_num2 (I[j].size) (by omega) (by omega)
    omega
   have ht:textS (bytesF k l I) (10+sizeT (I.take j))=I[j]:=by
    rw [textS,hn,extr_at e2 (p:=10+sizeT (I.take j)+2) (by rw [List.length_append,hl,bl_len,putS_size _ _ (by omega)]) (by rw [bl_len]),baOf_bl]
   rw [rtx,ih (by omega)]
   simp only
   rw [hn,ht,hz,if_pos (by omega),hst,List.take_succ_eq_append_getElem (by omega),show 10+(sizeT (I.take j)+2+I[j].size)=10+sizeT (I.take j)+2+I[j].size by omega]
/-- the j-th text of a page's bytes -/
theorem bytes_text (k l:Int) (I:List ByteArray) (h:6+sizeT I≤504) (j:Nat) (hj:j < I.length):
  10+sizeT (I.take j)+2≤(bytesF k l I).size∧10+sizeT (I.take j)+2+numS (bytesF k l I) (10+sizeT (I.take j)) 2≤(bytesF k l I).size∧
   textS (bytesF k l I) (10+sizeT (I.take j))=I[j]∧10+sizeT (I.take j)+2+numS (bytesF k l I) (10+sizeT (I.take j)) 2=10+sizeT (I.take (j+1)):=by
 have h1:=bytes_rtx k l I h j (by omega)
 have h2:=bytes_rtx k l I h (j+1) (by omega)
 rw [rtx,h1] at h2
 simp only at h2
 split at h2
 ·rename_i hc
  have e1:=congrArg Prod.fst (Option.some.inj h2)
  have e2:=congrArg Prod.snd (Option.some.inj h2)
  have e3:I.take j++[textS (bytesF k l I) (10+sizeT (I.take j))]=I.take (j+1):=e1
  rw [List.take_succ_eq_append_getElem hj] at e3
  have e4:=List.append_cancel_left e3
  refine ⟨hc.1,hc.2,?_,e2⟩
  injection e4
 ·cases h2
theorem osum1_any (c a b:Nat) (A B:Nat) (w:World) (hc:c < 256) (ha:a < 65521) (hb:b < 65521) (hA:Blk w A 125 #[.int .u32 a]) (hB:Blk w B 125 #[.int .u32 b]) (hne:A≠B):
  Calls Tryz.prog 150 #[.int .u8 c, .pointer (some ⟨A,0,none⟩), .pointer (some ⟨B,0,none⟩)] w fun e w'=>e= .returned (.tuple #[])∧
   Blk w' A 125 #[.int .u32 ((a+c) % 65521:Nat)]∧Blk w' B 125 #[.int .u32 ((b+(a+c) % 65521) % 65521:Nat)]∧Upd [A,B] w w':=by
 have HA:=Lib.hid hA; have HB:=Lib.hid hB
 have cA:w.cell? ⟨A,0,none⟩=some (.int .u32 a):=hA.cell 0
 have cB:w.cell? ⟨B,0,none⟩=some (.int .u32 b):=hB.cell 0
 have fA:=hA.frozen 0; have fB:=hB.frozen 0
 have lA:=hA.lt; have lB:=hB.lt
 clear hA hB
 go_enter Tryz.func150,Tryz.ntmps150
 have e1:((a:Int)+(c:Int)) % 65521=(((a+c) % 65521:Nat):Int):=by omega
 have e2:((b:Int)+((a:Int)+(c:Int))) % 65521=(((b+(a+c) % 65521) % 65521:Nat):Int):=by omega
 have E1:=Lib.hid e1; have E2:=Lib.hid e2
 clear e1 e2
 go_wp2
 go_end0
 rw [E1.out,E2.out]
 exact ⟨rfl,((HA.out.set_ 0 _).far hne _),((HB.out.far (fun e=>hne e.symm) _).set_ 0 _),((Upd.refl _ _).set (.inl (by simp)) _).set (.inl (by simp)) _⟩
theorem osum_any (s:ByteArray) (w:World) (hs:s.size≤9223372036854775807):
  Calls Tryz.prog 98 #[.string s] w (Ret1 (.int .u32 (sumF s)) w):=by
 go_enter Tryz.func98,Tryz.ntmps98
 go_wp2
 go_loopw [10] (fun v wr=>∃ k:Nat,v= .int .i64 k∧k≤s.size∧Blk wr w.heap.size 125 #[.int .u32 (adl (s.data.toList.take k)).1]∧Blk wr (w.heap.size+1) 125 #[.int .u32 (adl (s.data.toList.take k)).2]∧Ext w wr) (fun v _=>s.size - (intOf v).toNat)
 case atStart=>exact ⟨0,rfl,Nat.zero_le _,(Blk.new' rfl).alloc _,Blk.new' (by simp),((Ext.refl w).alloc _).alloc _⟩
 case round=>
  obtain ⟨k,rfl,hk,hA,hB,hx⟩:=hrel
  have HA:=Lib.hid hA; have HB:=Lib.hid hB; have XR:=Lib.hid hx
  have hlt:=adl_lt (s.data.toList.take k)
  clear hA hB hx
  rcases Nat.lt_or_ge k s.size with hk1 | hk1
  ·have HS:=Lib.hid (adl_snoc s k hk1)
   obtain ⟨a,ha⟩:∃ a,a=(adl (s.data.toList.take k)).1:=⟨_,rfl⟩
   obtain ⟨b,hb⟩:∃ b,b=(adl (s.data.toList.take k)).2:=⟨_,rfl⟩
   rw [← ha,← hb] at HS hlt
   rw [← ha] at HA
   rw [← hb] at HB
   have hcb:s[k].toNat < 256:=UInt8.toNat_lt _
   clear ha hb
   have hk2:(k:Int) < (s.size:Int):=by omega
   have hk3:(0:Int)≤(k:Int):=by omega
   go_wp2_with fail
   refine (osum1_any _ a b _ _ _ hcb hlt.1 hlt.2 HA.out HB.out (by omega)).mono ?_
   rintro e w1 ⟨rfl,hA,hB,hu⟩
   have HA1:=Lib.hid hA; have HB1:=Lib.hid hB; have HU:=Lib.hid hu
   clear hA hB hu hlt
   go_wp2
   go_roundw
   case rel=>exact ⟨k+1,by go_num,by omega,by rw [HS.out]; exact HA1.out,by rw [HS.out]; exact HB1.out,XR.out.upd HU.out (by simp)⟩
   case measure=>simp [intOf]; omega
  ·obtain rfl:k=s.size:=by omega
   have e:s.data.toList.take s.size=s.data.toList:=List.take_of_length_le (by simp)
   rw [e] at HA HB hlt
   obtain ⟨a,ha⟩:∃ a,a=(adl s.data.toList).1:=⟨_,rfl⟩
   obtain ⟨b,hb⟩:∃ b,b=(adl s.data.toList).2:=⟨_,rfl⟩
   rw [← ha,← hb] at hlt
   rw [← ha] at HA
   rw [← hb] at HB
   obtain ⟨hlt1,hlt2⟩:=hlt
   have HF:=Lib.hid (show sumF s=b*65536+a by rw [sumF,← ha,← hb])
   have cA:wr.cell? ⟨w.heap.size,0,none⟩=some (.int .u32 a):=HA.out.cell 0
   have cB:wr.cell? ⟨w.heap.size+1,0,none⟩=some (.int .u32 b):=HB.out.cell 0
   clear e ha hb
   go_wp2
   go_ret
   refine ⟨?_,XR.out⟩
   have e1:((b:Int)*65536)=((b*65536:Nat):Int):=by omega
   rw [HF.out,e1,u32_or_nat _ _ (by omega) (by omega)]
   have e2:b*65536||| a=b*65536+a:=by
    have:=Nat.two_pow_add_eq_or_of_lt (i:=16) (b:=a) (by omega) b
    rw [Nat.mul_comm b 65536]
    exact this.symm
   rw [e2]
   rfl
end
section
open Go.RowKit
def byteI (l:List UInt8) (m:Nat):Int:=((l.getD m 0).toNat:Int)
theorem byteI_bd (l:List UInt8) (m:Nat):0≤byteI l m∧byteI l m < 256:=by
 have:=(l.getD m 0).toNat_lt
 unfold byteI; omega
section
variable {P:Program} {o:Oper} {ρ:Operand→Value} {W:World}
theorem run_indexS {t:TypeId} {x y:Operand} {s:ByteArray} {k:IntKind} {j:Int} {m:Nat} (h:o.op= .index t x y) (ht:P.underlying t=some .string) (hx:ρ x= .string s) (hy:ρ y= .int k j) (hj:j=(m:Int)) (hm:m < s.size):
  (execOp ρ o).run P W= .ok (.value (.int .u8 (byteI (bl s) m))) W:=by
 subst hj
 unfold execOp; rw [h]
 have h1:(0:Int)≤(m:Int):=by omega
 have h2:s[m]? =some ((bl s).getD m 0):=by
  have hm':m < s.data.size:=hm
  rw [getElem?_pos s m hm]
  simp [bl,ByteArray.getElem_eq_getElem_data]
  rw [Array.getElem?_eq_getElem hm']; rfl
 simp only [hx,hy,Instr.index,asIntOf,Sem.run_bind,Sem.run_pure,Result.andThen_ok,run_underlying ht,h1,if_true,Int.toNat_natCast,h2]
 rfl
end
end
section
open Go.RowKit
/-- a page: kind, LSN, items -/
abbrev PgS:=Int×Int×List ByteArray
def pgs0:PgS:=(0,0,[])
/-- an edit: page, slot, item -/
abbrev EdT:=Int×Int×ByteArray
abbrev rightP (p:PgS):Prop:=rightB p.1 p.2.1 p.2.2=true∧plainL p.2.2=p.2.2
def kindBad (s:ByteArray):Bool:=decide (s.size≠1)||decide (2 < byteI (bl s) 0)
/-- the error of page.Do -/
def doE (p:PgS) (e:EdT) (n:Int):Int:=if rightB p.1 p.2.1 p.2.2=false then 22 else if n < 0∨2147483647 < n then 1 else if e.2.1= -1 then (if kindBad e.2.2=true then 21 else 0) else putErr p.1 p.2.1 p.2.2 e.2.1 e.2.2
/-- the page that page.Do leaves -/
def doV (p:PgS) (e:EdT) (n:Int):PgS:=if e.2.1= -1 then (byteI (bl e.2.2) 0,n,[]) else (p.1,n,plainL (withL p.2.2 e.2.1.toNat e.2.2))
theorem right0:rightP pgs0:=⟨right_nil (by decide) (by decide),rfl⟩
theorem do_right {p:PgS} {e:EdT} {n:Int} (h:doE p e n=0):rightP (doV p e n):=by
 unfold doE at h
 split at h
 ·cases h
 ·rename_i hr
  split at h
  ·cases h
  ·rename_i hn
   unfold doV
   split at h
   ·rename_i hs
    rw [if_pos hs]
    split at h
    ·cases h
    ·rename_i hk
     simp only [kindBad,Bool.or_eq_true,decide_eq_true_eq,not_or] at hk
     have:=byteI_bd (bl e.2.2) 0
     exact ⟨right_nil (k:=byteI (bl e.2.2) 0) (l:=n) (by omega) (by omega),rfl⟩
   ·rename_i hs
    rw [if_neg hs]
    have h1:=put_right (by simpa using hr) h
    obtain ⟨a1, _, _, _⟩:=right_parts h1
    refine ⟨?_,plain_idem _⟩
    simp only [rightB,Bool.and_eq_true,decide_eq_true_eq] at h1 ⊢
    exact ⟨h1.1,by omega,by omega,by omega,h1.2.2.2.2⟩
end
section
open Go.RowKit
theorem Tryz.sizeSb:(Tryz.prog.info? 175).map (·.size)=some 2:=by kernel_rfl
theorem sbcheck_used (b:Nat) (w:World) (h0:w.cell? ⟨b,0,none⟩=some (.pointer (some ⟨b,0,none⟩))):
  Calls Tryz.prog 164 #[.pointer (some ⟨b,0,none⟩)] w fun e w'=>e= .returned (.tuple #[])∧w'=w:=by
 obtain ⟨j,hj, _⟩:=Option.map_eq_some_iff.1 Tryz.sizeSb
 go_enter Tryz.func164,Tryz.ntmps164
 go_wp2
 rw [Lib.run_neq_ptr_same w _ Tryz.underlying173 hj]
 go_wp2
 go_end0
 exact ⟨rfl,rfl⟩
theorem sbcheck_fresh (b:Nat) (w:World) (h0:w.cell? ⟨b,0,none⟩=some (.pointer none)) (hsh:w.shape? b=some (175,2)) (hfz:w.frozen? ⟨b,0,none⟩=false):
  Calls Tryz.prog 164 #[.pointer (some ⟨b,0,none⟩)] w fun e w'=>e= .returned (.tuple #[])∧w'=w.setCell ⟨b,0,none⟩ (.pointer (some ⟨b,0,none⟩)):=by
 obtain ⟨j,hj,hjs⟩:=Option.map_eq_some_iff.1 Tryz.sizeSb
 go_enter Tryz.func164,Tryz.ntmps164
 go_wp2
 rw [Lib.run_to_unsafe w ⟨b,0,none⟩ Tryz.underlying173 Tryz.underlying220 hj (by rw [hjs]; decide) hsh (Nat.zero_lt_succ 1)]
 simp only [Result.andThen]
 rw [Oper.upon_value]
 go_wp2
 rw [run_callFunc_extern Tryz.func184 (by kernel_rfl) (by kernel_rfl) (by kernel_rfl) (e:=Extern.AbiNoEscape.same) (by kernel_rfl)]
 rw [Lib.run_noEscape]
 simp only [Result.andThen]
 rw [Oper.upon_value]
 go_wp2
 rw [Lib.run_from_unsafe w ⟨b,0,none⟩ Tryz.underlying220 Tryz.underlying173 hj hsh (by kernel_rfl)]
 simp only [Result.andThen]
 rw [Oper.upon_value]
 go_wp2
 go_end0
 exact ⟨rfl,rfl⟩
/-- copyCheck: the builder's block alone may turn -/
theorem sbcheck_any (b:Nat) (p v:Value) (w:World) (hb:Blk w b 175 #[p,v]) (hp:p= .pointer none∨p= .pointer (some ⟨b,0,none⟩)):
  Calls Tryz.prog 164 #[.pointer (some ⟨b,0,none⟩)] w fun e w'=>e= .returned (.tuple #[])∧Blk w' b 175 #[.pointer (some ⟨b,0,none⟩),v]∧Upd [b] w w':=by
 rcases hp with rfl | rfl
 ·refine (sbcheck_fresh b w (hb.cell 0) (by unfold Blk at hb; simp [World.shape?,hb]) (hb.frozen 0)).mono ?_
  rintro e w' ⟨rfl,rfl⟩
  exact ⟨rfl,hb.set_ 0 _,(Upd.refl [b] w).set (p:=⟨b,0,none⟩) (.inl (by simp)) _⟩
 ·refine (sbcheck_used b w (hb.cell 0)).mono ?_
  rintro e w' ⟨rfl,rfl⟩
  exact ⟨rfl,hb,Upd.refl _ _⟩
end
section
open Go.RowKit
theorem own_lower {w:World} {base:Nat} {e:TypeId} {sz:Nat} {v:Value} {n:Nat} {xs:List Value} (h:w.ownsRow base e sz v n xs):w.ownsRow 0 e sz v n xs:=by
 refine ⟨h.1,?_⟩
 rcases h.2 with hn | ⟨g,cap,cur,hv, _,rest⟩
 ·exact .inl hn
 ·exact .inr ⟨g,cap,cur,hv,Nat.zero_le _,rest⟩
theorem run_append_str1 {P:Program} (w:World) (t u ty e:TypeId) (i:TypeInfo) (ht:P.underlying t=some (.slice e)) (hu:P.underlying u=some .string) (hi:P.info? e=some i) (hz:i.zero=some (.int .u8 0))
  (hsize:i.size=1) (hby:i.bytes=1) (v:Value) (n:Nat) (xs:List Value) (hown:w.ownsRow 0 e 1 v n xs) (s:ByteArray) (h63:n+s.size≤maxLen) (hbytes:n+s.size≤140737488355328):
  ∃ v' w',(Builtin.append_ #[t,u] ty #[v, .string s]).run P w= .ok v' w'∧w'.ownsRow 0 e 1 v' (n+s.size) (xs++Lib.strCells s)∧w.grownBy w' v.ownBlock∧(∀ k,v'.ownBlock=some k→v.ownBlock=some k∨w.heap.size≤k):=by
 have hsm:n+s.size≤9223372036854775807:=by simp only [maxLen] at h63; omega
 have h1:=hown.1
 rcases hown.2 with ⟨rfl,rfl⟩ | ⟨g,cap,cur,rfl,hbg,hg,hnc,hcm,hcs,htake⟩
 ·obtain ⟨v',w',hr,h2,h3,h4⟩:=Lib.run_append_own_string (P:=P) w w.heap.size t u ty e i ht hu hi hz hsize hby _ _ xs ⟨hown.1, .inl ⟨rfl,rfl⟩⟩ s h63 hbytes (Nat.le_refl _)
  exact ⟨v',w',hr,own_lower h2,h3,fun k hk=> .inr (own_block h2 k hk)⟩
 ·obtain ⟨v',w',hr,h2,h3,h4⟩:=Lib.run_append_own_string (P:=P) w 0 t u ty e i ht hu hi hz hsize hby _ _ xs hown s h63 hbytes (Nat.zero_le _)
  refine ⟨v',w',hr,h2,h3,fun k hk=>?_⟩
  by_cases hroom:n+s.size≤cap
  ·have hr':=Lib.run_append_room_string (P:=P) w t u ty e i ht hu hi hsize g n cap cur hg s hroom (by omega)
   rw [hr'] at hr
   injection hr with e1 e2
   subst e1
   exact .inl hk
  ·have hr':=Lib.run_append_grow_string (P:=P) w t u ty e i (.int .u8 0) ht hu hi hz ⟨g,0,none⟩ n cap xs (by rw [hsize]; simpa using h1) (hown.cells (g:=g) rfl) s (by omega) (by omega) (by rw [hby]; exact growslice_fits (by omega) (by omega))
   rw [hr'] at hr
   injection hr with e1 e2
   subst e1
   right
   have h5:some w.heap.size=some k:=hk
   injection h5 with h5
   omega
section
variable {P:Program} {ops:Array Oper} {L:List Nat} {a0:Act} {w0:World} {bor:List Nat} {X0:List Ent} {us cr kl:List (List Nat)}
 {D:Nat→(Tmp→Value)→(Tmp→Value)→(Nat→Ent)→Prop} {i:Nat} {o:Oper} {ρ:Operand→Value} {β:Tmp→Value} {W:World} {X:Nat→Ent}
/-- append of a string onto a row of bytes that the call owns -/
theorem dv_appendStr {s x:Operand} {t u:TypeId} {d:Tmp} {q q':Nat} (ho:o.op= .call {callee:= .builtin .append,args:=#[s,x],argTypes:=#[t,u]})
  {e:TypeId} {inf:TypeInfo} (ht:P.underlying t=some (.slice e)) (hut:P.underlying u=some .string) (hi:P.info? e=some inf) (hz:inf.zero=some (.int .u8 0))
  (hsize:inf.size=1) (hby:inf.bytes=1) {v:Value} {n:Nat} {xs:List Value} (hs:ρ s=v) (c:CtxV ops L a0 w0 bor X0 us D i ρ β W X) (hX:X q=eO e 1 v n xs) (hu:(atV us i).contains q=true)
  {str:ByteArray} (hx:ρ x= .string str) (h63:n+str.size≤maxLen) (hbytes:n+str.size≤140737488355328) (hd:o.dst=some d) (hc:atV cr i=[q']) (hk:atV kl i=[q]) {nm:Nat} {xs':List Value} (hnm:n+str.size=nm) (hxs:xs++Lib.strCells str=xs')
  (hD:∀ (σ β':Tmp→Value) (X':Nat→Ent),(∀ t,t≠d→σ t=ρ (.tmp t))→(∀ t,t≠d→β' t=β t)→σ d= .slice (sA (β' d)) nm (sC (β' d))→X' q'=eO e 1 (.slice (sA (β' d)) nm (sC (β' d))) nm xs'→D i σ β' X'):
  DoesU P o ρ W (PostV cr kl D i o.dst ρ β W X):=by
 have hok:=c.ok q hu
 rw [hX] at hok
 have hown:W.ownsRow 0 e 1 v n xs:=hok.holds
 obtain ⟨v',W',hrun,hown',hg,hat⟩:=run_append_str1 (P:=P) W t u o.type e inf ht hut hi hz hsize hby v n xs hown str h63 hbytes
 have he:(execOp ρ o).run P W= .ok (.value v') W':=by
  unfold execOp
  simp only [ho,resolve,invoke,builtin,Sem.run_bind,Sem.run_pure,Result.andThen_ok,List.map_toArray,List.map_cons,List.map_nil,hs,hx,hrun]
 refine DoesU.value he ?_
 subst hnm; subst hxs
 obtain ⟨A',c',rfl, _⟩:=own_form hown'
 have hin:∀ k,(v.ownBlock=some k)→k∈((atV kl i).flatMap fun q=>(X q).fp):=fun k hk'=>by
  rw [hk]
  simp only [List.flatMap_cons,List.flatMap_nil,List.append_nil,hX]
  simp [eO,hk']
 refine ⟨[eO e 1 (.slice A' (n+str.size) c') (n+str.size) (xs++Lib.strCells str)],by rw [hc]; rfl,⟨(Upd.refl _ W).grown hg fun k hk'=> .inl (hin k hk'),fun e' he=>?_,List.pairwise_singleton _ _⟩,fun σ β' X' hs' hv hb hbv hx' hN=>hD σ β' X' (fun t ht=>hs' t (by rw [hd]; simpa using ht.symm)) (fun t ht=>hb t (by rw [hd]; simpa using ht.symm)) ?_ ?_⟩
 ·rw [List.mem_singleton] at he
  subst he
  refine ⟨hown',eO_loc _ _ _ _ _,fun k hk'=>?_⟩
  have h2:(Value.slice A' (n+str.size) c').ownBlock=some k:=by simpa [eO] using hk'
  refine ⟨?_,own0_block hown' k h2⟩
  rcases hat k h2 with h3 | h3
  ·exact .inl (hin k h3)
  ·exact .inr h3
 ·rw [hv d hd,hbv d hd]; rfl
 ·rw [hbv d hd]
  rw [hc] at hN
  exact (List.cons.inj hN).1
end
end
section
open Go.RowKit
/-- the builder in block b, its bytes xs in a row of its own (block r, none while there is no row) -/
def SbAt (W:World) (b:Nat) (r:Option Nat) (xs:List Value):Prop:=
 ∃ p v,Blk W b 175 #[p,v]∧(p= .pointer none∨p= .pointer (some ⟨b,0,none⟩))∧W.ownsRow 0 5 1 v xs.length xs∧v.ownBlock=r
def eSb (b:Nat) (r:Option Nat) (xs:List Value):Ent:=⟨b::r.toList,fun W=>SbAt W b r xs⟩
def rO (e:Ent):Option Nat:=e.fp[1]?
theorem rO_eSb (b:Nat) (r:Option Nat) (xs:List Value):rO (eSb b r xs)=r:=by
 cases r<;>rfl
theorem eSb_loc (b:Nat) (r:Option Nat) (xs:List Value):(eSb b r xs).loc:=fun W W' hk h=>by
 obtain ⟨p,v,h1,h2,h3,h4⟩:=h
 refine ⟨p,v,(hk b (by simp [eSb])).trans h1,h2,?_,h4⟩
 have:=eO_loc 5 1 v xs.length xs W W' (fun k hk'=>hk k (by
  have h5:v.ownBlock=some k:=by simpa [eO] using hk'
  rw [h4] at h5
  simp [eSb,h5])) h3
 exact this
/-- a new builder -/
theorem SbAt.fresh {W:World} {b:Nat} (h:Blk W b 175 #[.pointer none, .slice none 0 0]):SbAt W b none []:=⟨_, _,h, .inl rfl,World.ownsRow_nil _ _ _ _,rfl⟩
theorem SbAt.ne {W:World} {b:Nat} {r:Option Nat} {xs:List Value} (h:SbAt W b r xs):r≠some b:=by
 obtain ⟨p,v,h1,h2,h3,h4⟩:=h
 have:=own_ne h3 h1 (by decide)
 rw [h4] at this
 exact this
theorem wpList_append_str {P:Program} {ops:Array Oper} {rest:List Oper} {o:Oper} {a:Act} {Q:Exit→Act→World→Prop} {w:World} (hgd:o.guard=none) (sl x:Operand) (t u:TypeId)
  (ho:o.op= .call {callee:= .builtin .append,args:=#[sl,x],argTypes:=#[t,u]})
  (e:TypeId) (i:TypeInfo) (ht:P.underlying t=some (.slice e)) (hu:P.underlying u=some .string) (hi:P.info? e=some i) (hz:i.zero=some (.int .u8 0))
  (hsize:i.size=1) (hby:i.bytes=1)
  (v:Value) (n:Nat) (xs:List Value) (hs:a.eval sl=v) (hown:w.ownsRow 0 e 1 v n xs) (s:ByteArray) (hx:a.eval x= .string s)
  (h63:n+s.size≤maxLen) (hbytes:n+s.size≤140737488355328)
  (h:∀ v' w',w'.ownsRow 0 e 1 v' (n+s.size) (xs++Lib.strCells s)→w.grownBy w' v.ownBlock→(∀ k,v'.ownBlock=some k→v.ownBlock=some k∨w.heap.size≤k)→wpList P ops Q rest (a.put o.dst v') w'):wpList P ops Q (o::rest) a w:=by
 refine wpList_plain hgd fun K hK=>?_
 obtain ⟨v',w',hr,h2,h3,h4⟩:=run_append_str1 (P:=P) w t u o.type e i ht hu hi hz hsize hby v n xs hown s h63 hbytes
 unfold Oper.wp execOp
 simp only [ho,resolve,invoke,builtin,Sem.run_bind,Sem.run_pure,Result.andThen_ok,List.map_toArray,List.map_cons,List.map_nil,hs,hx,hr]
 exact hK _ _ (h v' w' h2 h3 h4)
theorem Tryz.infoU8:(Tryz.prog.info? 5).map (fun i=>(i.zero,i.size,i.bytes))=some (some (.int .u8 0),1,1):=by kernel_rfl
/-- what a write leaves -/
def SbPost (b:Nat) (r:Option Nat) (xs:List Value) (w w':World):Prop:=∃ r',SbAt w' b r' xs∧Upd (b::r.toList) w w'∧∀ k,r'=some k→r=some k∨w.heap.size≤k
theorem sbw_any (b:Nat) (r:Option Nat) (xs:List Value) (s:ByteArray) (w:World) (h:SbAt w b r xs) (hlen:xs.length+s.size≤1000000):
  Calls Tryz.prog 121 #[.pointer (some ⟨b,0,none⟩), .string s] w fun e w'=>e= .returned (.tuple #[.int .i64 s.size, .nilIface])∧SbPost b r (xs++Lib.strCells s) w w':=by
 obtain ⟨i0,hi,hz0,hz1,hz2⟩:=info_parts Tryz.infoU8
 have hnb:=h.ne
 obtain ⟨p,v,hbk0,hp,hown0,hr⟩:=h
 subst hr
 go_enter Tryz.func121,Tryz.ntmps121
 go_wp2_with fail
 refine (sbcheck_any b p v w hbk0 hp).mono ?_
 rintro e w1 ⟨rfl,hbk,hb1⟩
 have hown:w1.ownsRow 0 5 1 v xs.length xs:=eO_loc 5 1 v xs.length xs w w1 (fun k hk=>by
  have h5:v.ownBlock=some k:=by simpa [eO] using hk
  exact hb1.block k (own0_block hown0 k h5) (by simp; intro e; exact hnb (by rw [h5,e]))) hown0
 have c0:w1.cell? ⟨b,0,none⟩=some (.pointer (some ⟨b,0,none⟩)):=hbk.cell 0
 have c1:w1.cell? ⟨b,1,none⟩=some v:=hbk.cell 1
 go_wp2_with (at_builtin; refine wpList_append_str rfl _ _ 41 9 rfl 5 i0 Tryz.underlying41 Tryz.underlying9 hi hz0 hz1 hz2 _ _ _ rfl hown s rfl ?c3 ?c4 ?_)
 case c3=>unfold maxLen; omega
 case c4=>omega
 intro v' w2 hown' hgrow hat
 have hb2:Blk w2 b 175 #[.pointer (some ⟨b,0,none⟩),v]:=hbk.grown hgrow (own_ne hown hbk (by decide))
 have d0:w2.cell? ⟨b,0,none⟩=some (.pointer (some ⟨b,0,none⟩)):=hb2.cell 0
 have d1:w2.cell? ⟨b,1,none⟩=some v:=hb2.cell 1
 have f1:w2.frozen? ⟨b,1,none⟩=false:=hb2.frozen 1
 obtain ⟨ao,n',cap,rfl⟩:∃ ao n' cap,v'= .slice ao n' cap:=by
  rcases hown'.2 with ⟨hv, _⟩ | ⟨g,cap,cur,hv, _⟩
  ·exact ⟨_, _, _,hv⟩
  ·exact ⟨_, _, _,hv⟩
 go_wp2
 go_ret2
 refine ⟨rfl, _,⟨_, _,hb2.set_ 1 _, .inr rfl,own_set (by simpa [Lib.strCells_length] using hown') (own_ne hown' hb2 (by decide)) 1 _,rfl⟩,?_,fun k hk=>?_⟩
 ·exact ((hb1.mono (fun k _ hk=>by simp at hk; simp [hk])).grown hgrow (fun k hk=> .inl (by simp [hk]))).set (p:=⟨b,1,none⟩) (.inl (by simp)) _
 ·rcases hat k hk with h | h
  ·exact .inl h
  ·exact .inr (Nat.le_trans hb1.size h)
theorem sbc_any (b:Nat) (r:Option Nat) (xs:List Value) (k:Int) (w:World) (h:SbAt w b r xs) (hlen:xs.length+1≤1000000):
  Calls Tryz.prog 182 #[.pointer (some ⟨b,0,none⟩), .int .u8 k] w fun e w'=>e= .returned .nilIface∧SbPost b r (xs++[.int .u8 k]) w w':=by
 obtain ⟨i0,hi,hz0,hz1,hz2⟩:=info_parts Tryz.infoU8
 have hnb:=h.ne
 obtain ⟨p,v,hbk0,hp,hown0,hr⟩:=h
 subst hr
 go_enter Tryz.func182,Tryz.ntmps182
 go_wp2_with fail
 refine (sbcheck_any b p v w hbk0 hp).mono ?_
 rintro e w1 ⟨rfl,hbk,hb1⟩
 have hown1:w1.ownsRow 0 5 1 v xs.length xs:=eO_loc 5 1 v xs.length xs w w1 (fun k hk=>by
  have h5:v.ownBlock=some k:=by simpa [eO] using hk
  exact hb1.block k (own0_block hown0 k h5) (by simp; intro e; exact hnb (by rw [h5,e]))) hown0
 have c0:w1.cell? ⟨b,0,none⟩=some (.pointer (some ⟨b,0,none⟩)):=hbk.cell 0
 have c1:w1.cell? ⟨b,1,none⟩=some v:=hbk.cell 1
 have hX:Ext w1 (w1.alloc (.cells #[.int .u8 k] 5)):=(Ext.refl w1).alloc _
 have hown:=own_ext hown1 hX
 have hbk':=hbk.ext hX
 go_wp2_with (at_builtin; refine wpl_append _ rfl _ _ 41 rfl 0 5 i0 _ 1 Tryz.underlying41 hi hz0 hz1 hz2 rfl _ _ _ rfl hown _ 1 1 [.int .u8 k] rfl rfl ?c1 (by simp [Value.oneCell']) ?c3 ?c4 (Nat.zero_le _) ?_)
 case c1=>exact At.one_new _ _ _
 case c3=>unfold maxLen; omega
 case c4=>omega
 intro v' w2 hown' hgrow hat
 have hb2:Blk w2 b 175 #[.pointer (some ⟨b,0,none⟩),v]:=hbk'.grown hgrow (own_ne hown hbk' (by decide))
 have d0:w2.cell? ⟨b,0,none⟩=some (.pointer (some ⟨b,0,none⟩)):=hb2.cell 0
 have d1:w2.cell? ⟨b,1,none⟩=some v:=hb2.cell 1
 have f1:w2.frozen? ⟨b,1,none⟩=false:=hb2.frozen 1
 obtain ⟨ao,n',cap,rfl⟩:∃ ao n' cap,v'= .slice ao n' cap:=by
  rcases hown'.2 with ⟨hv, _⟩ | ⟨g,cap,cur,hv, _⟩
  ·exact ⟨_, _, _,hv⟩
  ·exact ⟨_, _, _,hv⟩
 go_wp2
 go_ret
 refine ⟨rfl, _,⟨_, _,hb2.set_ 1 _, .inr rfl,own_set (by simpa using hown') (own_ne hown' hb2 (by decide)) 1 _,rfl⟩,?_,fun k hk=>?_⟩
 ·exact (((hb1.mono (fun k _ hk=>by simp at hk; simp [hk])).alloc _).grown hgrow (fun k hk=> .inl (by simp [hk]))).set (p:=⟨b,1,none⟩) (.inl (by simp)) _
 ·rcases hat with h | h
  ·exact .inl (h.symm.trans hk)
  ·right
   have h6:=h.symm.trans hk
   injection h6 with h6
   have:=hb1.size
   have:=hX.size
   omega
def eBu (b:Nat) (r:Option Nat) (l:List UInt8):Ent:=eSb b r (Lib.byteCells l)
theorem rO_eBu (b:Nat) (r:Option Nat) (l:List UInt8):rO (eBu b r l)=r:=rO_eSb b r _
theorem cells_byte (l:List UInt8) (k:Int) (h:0≤k∧k < 256):Lib.byteCells l++[.int .u8 k]=Lib.byteCells (l++[UInt8.ofNat k.toNat]):=by
 have:((UInt8.ofNat k.toNat).toNat:Int)=k:=by
  rw [UInt8.toNat_ofNat']
  omega
 simp only [Lib.byteCells,List.map_append,List.map_cons,List.map_nil,this]
theorem cells_str (l:List UInt8) (s:ByteArray):Lib.byteCells l++Lib.strCells s=Lib.byteCells (l++s.data.toList):=by simp [Lib.byteCells,Lib.strCells]
theorem byteCells_len (l:List UInt8):(Lib.byteCells l).length=l.length:=by simp [Lib.byteCells]
theorem sbc_l (b:Nat) (r:Option Nat) (l:List UInt8) (k:Int) (w:World) (h:SbAt w b r (Lib.byteCells l)) (hk:0≤k∧k < 256) (hlen:l.length+1≤1000000):
  Calls Tryz.prog 182 #[.pointer (some ⟨b,0,none⟩), .int .u8 k] w fun e w'=>e= .returned .nilIface∧SbPost b r (Lib.byteCells (l++[UInt8.ofNat k.toNat])) w w':=by
 have:=sbc_any b r _ k w h (by rw [byteCells_len]; exact hlen)
 rw [cells_byte l k hk] at this
 exact this
theorem sbw_l (b:Nat) (r:Option Nat) (l:List UInt8) (s:ByteArray) (w:World) (h:SbAt w b r (Lib.byteCells l)) (hlen:l.length+s.size≤1000000):
  Calls Tryz.prog 121 #[.pointer (some ⟨b,0,none⟩), .string s] w fun e w'=>e= .returned (.tuple #[.int .i64 s.size, .nilIface])∧SbPost b r (Lib.byteCells (l++s.data.toList)) w w':=by
 have:=sbw_any b r _ s w h (by rw [byteCells_len]; exact hlen)
 rw [cells_str l s] at this
 exact this
theorem Upd.freeze {S:List Nat} {a b:World} (h:Upd S a b) {p:Addr} (hp:p.block∈S∨a.heap.size≤p.block) (n:Nat):Upd S a (b.freeze p n):=by
 unfold World.freeze
 split
 ·exact h
 ·refine ⟨h.os,h.tape,h.output,by simpa using h.size,fun k hk hn=>?_⟩
  simp only [Array.getElem?_modify]
  rw [if_neg (fun e=>?_)]
  ·exact h.block k hk hn
  ·rcases hp with hp | hp
   ·exact hn (by rw [← e]; exact hp)
   ·omega
section
variable {P:Program} {ops:Array Oper} {L:List Nat} {a0:Act} {w0:World} {bor:List Nat} {X0:List Ent} {us cr kl:List (List Nat)}
 {D:Nat→(Tmp→Value)→(Tmp→Value)→(Nat→Ent)→Prop} {i:Nat} {o:Oper} {ρ:Operand→Value} {β:Tmp→Value} {W:World} {X:Nat→Ent}
theorem CtxV.sb {q b:Nat} {r:Option Nat} {l:List UInt8} (cx:CtxV ops L a0 w0 bor X0 us D i ρ β W X) (hX:X q=eBu b r l) (hu:(atV us i).contains q=true):SbAt W b r (Lib.byteCells l):=by
 have h:=(cx.ok q hu).holds
 rw [hX] at h; exact h
theorem post_sb {v:Value} {W':World} {b q q':Nat} {r:Option Nat} {l:List UInt8} (hX:(X q).fp=b::r.toList) (hc:atV cr i=[q']) (hk:atV kl i=[q]) (hp:SbPost b r (Lib.byteCells l) W W')
  (hD:∀ (σ β':Tmp→Value) (X':Nat→Ent),(∀ t,o.dst≠some t→σ t=ρ (.tmp t))→(∀ t,o.dst≠some t→β' t=β t)→(∀ d,o.dst=some d→σ d=v∧β' d=v)→X' q'=eBu b (rO (X' q')) l→D i σ β' X'):PostV cr kl D i o.dst ρ β W X v W':=by
 obtain ⟨r',hs,hu,hr⟩:=hp
 have hne:=hs.ne
 have hlt:∀ k∈(eBu b r' l).fp,k < W'.heap.size:=fun k hk'=>by
  obtain ⟨p,vv,h1, _,h3,h4⟩:=hs
  simp only [eBu,eSb,List.mem_cons,Option.mem_toList] at hk'
  rcases hk' with rfl | hk'
  ·exact h1.lt
  ·exact own0_block h3 k (by rw [h4]; exact hk')
 refine ⟨[eBu b r' l],by rw [hc]; rfl,⟨?_,fun e he=>?_,List.pairwise_singleton _ _⟩,fun σ β' X' hs' hv hb' hbv hx' hN=>hD σ β' X' hs' hb' (fun d hd=>⟨hv d hd,hbv d hd⟩) ?_⟩
 ·rw [hk]
  simp only [List.flatMap_cons,List.flatMap_nil,List.append_nil,hX]
  exact hu
 ·rw [List.mem_singleton] at he
  subst he
  refine ⟨hs,eSb_loc _ _ _,fun k hk'=>⟨?_,hlt k hk'⟩⟩
  rw [hk]
  simp only [List.flatMap_cons,List.flatMap_nil,List.append_nil,hX]
  simp only [eBu,eSb,List.mem_cons,Option.mem_toList] at hk'
  rcases hk' with rfl | hk'
  ·exact .inl (by simp)
  ·rcases hr k hk' with h | h
   ·exact .inl (by simp [h])
   ·exact .inr h
 ·rw [hc] at hN
  have h1:=(List.cons.inj hN).1
  rw [h1,rO_eBu]
/-- a call that ends an entry -/
theorem post_kill {v:Value} {W':World} {q:Nat} {S:List Nat} (hX:(X q).fp=S) (hc:atV cr i=[]) (hk:atV kl i=[q]) (hu:Upd S W W')
  (hD:∀ (σ β':Tmp→Value) (X':Nat→Ent),(∀ t,o.dst≠some t→σ t=ρ (.tmp t))→(∀ t,o.dst≠some t→β' t=β t)→(∀ d,o.dst=some d→σ d=v∧β' d=v)→D i σ β' X'):PostV cr kl D i o.dst ρ β W X v W':=by
 refine ⟨[],by rw [hc]; rfl,⟨?_,by simp,List.Pairwise.nil⟩,fun σ β' X' hs' hv hb' hbv hx' hN=>hD σ β' X' hs' hb' (fun d hd=>⟨hv d hd,hbv d hd⟩)⟩
 rw [hk]
 simp only [List.flatMap_cons,List.flatMap_nil,List.append_nil,hX]
 exact hu
theorem run_sliceData {x:Operand} {t:TypeId} {a:Addr} {n c:Nat} (h:o.op= .call {callee:= .builtin .unsafeSliceData,args:=#[x],argTypes:=#[t]}) (hx:ρ x= .slice (some a) n c) (hc:0 < c):(execOp ρ o).run P W= .ok (.value (.pointer (some a))) W:=by
 have h0:=Lib.run_unsafeSliceData_row (P:=P) (w:=W) #[t] o.type a n c (by omega)
 unfold execOp; rw [h]
 simp only [resolve,invoke,builtin,Sem.run_bind,Sem.run_pure,Result.andThen_ok,List.map_toArray,List.map_cons,List.map_nil,hx,h0]
/-- unsafe.String over a row of the call's own -/
theorem dv_unsafeStr {x y:Operand} {t u e:TypeId} {g c q:Nat} {d:Tmp} {l:List UInt8} (h:o.op= .call {callee:= .builtin .unsafeString,args:=#[x,y],argTypes:=#[t,u]}) (ht:P.underlying t=some (.pointer e)) (hce:P.cellsOf e=1)
  (hx:ρ x= .pointer (some ⟨g,0,none⟩)) (hy:ρ y= .int .i64 (l.length:Int)) (cx:CtxV ops L a0 w0 bor X0 us D i ρ β W X) (hX:X q=eO e 1 (.slice (some ⟨g,0,none⟩) l.length c) l.length (Lib.byteCells l)) (hu:(atV us i).contains q=true) (hl:l≠[]) (h63:l.length≤9223372036854775807)
  (hd:o.dst=some d) (hc:atV cr i=[]) (hk:atV kl i=[q]) (hD:∀ (σ β':Tmp→Value) (X':Nat→Ent),σ d= .string ⟨l.toArray⟩→D i σ β' X'):DoesU P o ρ W (PostV cr kl D i o.dst ρ β W X):=by
 have hown:=cx.row hX hu
 obtain ⟨hlen,h2⟩:=hown
 have hpos:0 < l.length:=List.length_pos_iff.2 hl
 rcases h2 with ⟨hv,h0⟩ | ⟨g',cap,cur,hv, _,hg,hle,hmx,hcs,htk⟩
 ·omega
 ·injection hv with h1 h2 h3
  injection h1 with h1
  injection h1 with h1
  subst h1 h3
  have hcell:∀ (j:Nat) (x:UInt8),l[j]? =some x→W.cell? ((⟨g,0,none⟩:Addr).add j)=some (.int .u8 x.toNat):=fun j x hj=>by
   have hjl:=(List.getElem?_eq_some_iff.1 hj).1
   rw [Addr.add_lit,Nat.zero_add,cell_of_row W g j cur e _ hg]
   have h5:(cur.toList.take (l.length*1))[j]? =(Lib.byteCells l)[j]? :=by rw [htk]
   rw [List.getElem?_take,if_pos (by omega)] at h5
   rw [← Array.getElem?_toList,h5]
   simp [Lib.byteCells,hj]
  have hrun:=Lib.run_unsafeString_row (P:=P) (w:=W) t u o.type e ht hce g cur.size (by unfold World.shape?; rw [hg]) l hl (by omega) h63 hcell
  refine DoesU.value (v:= .string ⟨l.toArray⟩) (w':=W.freeze ⟨g,0,none⟩ l.length) (by
   unfold execOp; rw [h]
   simp only [resolve,invoke,builtin,Sem.run_bind,Sem.run_pure,Result.andThen_ok,List.map_toArray,List.map_cons,List.map_nil,hx,hy,hrun]) ?_
  refine post_kill (S:=[g]) (by rw [hX]; rfl) hc hk ((Upd.refl _ _).freeze (.inl (by simp)) _) fun σ β' X' _ _ hv=>hD σ β' X' (hv d hd).1
end
theorem St.lent2 {w:World} {b g t e c n:Nat} {cs:Array Value} {xs:List Value} (hb:Blk w b t cs) (ho:w.ownsRow 0 e 1 (.slice (some ⟨g,0,none⟩) n c) n xs) (hne:g≠b):St w [b,g] [eB b t cs,eO e 1 (.slice (some ⟨g,0,none⟩) n c) n xs] w:=by
 refine ⟨Upd.refl _ _,fun x hx=>?_,?_⟩
 ·simp only [List.mem_cons,List.not_mem_nil,or_false] at hx
  rcases hx with rfl | rfl
  ·exact ⟨hb,eB_loc _ _ _,fun k hk=>⟨.inl (by simp [eB] at hk; simp [hk]),by simp [eB] at hk; subst hk; exact hb.lt⟩⟩
  ·exact ⟨ho,eO_loc _ _ _ _ _,fun k hk=>⟨.inl (by simp [eO,Value.ownBlock] at hk; simp [hk]),own0_block ho k (by simpa [eO] using hk)⟩⟩
 ·refine List.pairwise_pair.2 fun k hk hk'=>?_
  simp only [eB,List.mem_cons,List.not_mem_nil,or_false,eO,Value.ownBlock,Option.toList_some] at hk hk'
  omega
theorem sbstr_l (b:Nat) (r:Option Nat) (l:List UInt8) (w:World) (h:SbAt w b r (Lib.byteCells l)) (hl:l≠[]) (h63:l.length≤1000000):
  Calls Tryz.prog 125 #[.pointer (some ⟨b,0,none⟩)] w fun e w'=>e= .returned (.string ⟨l.toArray⟩)∧Upd (b::r.toList) w w':=by
 have hpos:0 < l.length:=List.length_pos_iff.2 hl
 have hbne:=h.ne
 obtain ⟨p,v,hb,hp,hown,hr⟩:=h
 rw [byteCells_len] at hown
 obtain ⟨g,c,hv,hlc⟩:∃ g c,v= .slice (some ⟨g,0,none⟩) l.length c∧l.length≤c:=by
  rcases hown.2 with ⟨hv,h0⟩ | ⟨g',cap,cur,hv, _,hg,hle, _⟩
  ·omega
  ·exact ⟨g',cap,hv,hle⟩
 subst hv hr
 have hne:g≠b:=fun e=>hbne (by simp [Value.ownBlock,e])
 have st0:=St.lent2 hb hown hne
 show Calls _ _ _ w fun e w'=>e= .returned (.string ⟨l.toArray⟩)∧Upd [b,g] w w'
 go_enter Tryz.func125,Tryz.ntmps125
 have hst0:=st0
 refine wp_seq (sqr (sqp [.k 2 (.string ⟨#[]⟩)] ?_))
 refine then_normal (wp_seq (wp_region_Y [0,1,3,7,15,0,32,96,224,480,1023,2047] [[],[],[],[0],[],[],[],[],[0],[],[1]] [] [[],[],[],[],[],[],[],[],[],[],[1]] [.k 3 (vp b), .k 4 (vp b), .k 5 (.pointer (some ⟨b,1,none⟩)), .c 6 (.slice ((some ⟨g,0,none⟩)) l.length c), .c 7 (vp g), .k 8 (vp b), .k 9 (vp b), .k 10 (.pointer (some ⟨b,1,none⟩)), .c 11 (.slice ((some ⟨g,0,none⟩)) l.length c), .k 12 (vi ((l.length:Int))), .a 13, .c 2 (.string ((⟨l.toArray⟩:ByteArray)))] (fun ix σ β X=>match ix with | 0=>True | 1=>True | 2=>True | 3=>True | 4=>True | 5=>True | 6=>True | 7=>True | 8=>True | 9=>True | 10=>σ 13= .string ((⟨l.toArray⟩:ByteArray)) | _=>True) [0] [3,4,8,10,11] [(2,11,1,3),(0,0,11,11)] hst0 ?_ ?_ ?_))
 ·exact fun ix _ _ _ _ _ _ hs hb hx h=>match ix,h with
  | 10,h=>(hs _ rfl).symm.trans h
  | 0, _ | 1, _ | 2, _ | 3, _ | 4, _ | 5, _ | 6, _ | 7, _ | 8, _ | 9, _ | _+11, _=>trivial
 ·refine ⟨?_,?_,?_,?_,?_,trivial⟩
  ·exact xs4 rfl id fun cx=>run_load1 rfl (by kernel_rfl) (cx.an 2) ((cx.bi 0 rfl).cell 1)
  ·exact xs4 rfl id fun cx=>run_sliceData rfl (cx.an 3) (by omega)
  ·exact xs4 rfl id fun cx=>run_load1 rfl (by kernel_rfl) (cx.an 7) ((cx.bi 0 rfl).cell 1)
  ·refine svA fun ρ β W X cx=>?_
   exact dv_unsafeStr (e:=5) rfl (by kernel_rfl) (by kernel_rfl) (cx.an 4) (cx.an 9) cx (cx.init 1 _ rfl) rfl hl (by omega) rfl rfl rfl (fun σ β' X' hs=>hs)
  ·exact xs4 rfl id fun cx=>run_assign' rfl (dTn (cx.an 10))
 intro σ β X W2 hD hst2 fr hfr
 simp only [ed 13 ((dTn (hD 10 lq)))] at hfr
 clear hD; subst hfr; clear σ β X
 refine then_normal (wp_ret ?_)
 refine bpr (.string ((⟨l.toArray⟩:ByteArray))) (results_1 Tryz.results125 rpt) ?_
 exact ⟨rfl,hst2.upd⟩
end
section
open Go.RowKit
theorem ex_all (s:ByteArray):s.extract 0 s.size=s:=by
 apply ByteArray.ext
 simp
def textO (s:ByteArray):ByteArray:=putS s.size 2++s
section
variable {o:Oper} {ρ:Operand→Value} {W:World}
theorem run_slice_all {P:Program} {t:TypeId} {x y:Operand} {s:ByteArray} {k:IntKind} {j:Int} (h:o.op= .slice t x none (some y) none) (ht:P.underlying t=some .string) (hx:ρ x= .string s) (hy:ρ y= .int k j) (hj:j=(s.size:Int)):
  (execOp ρ o).run P W= .ok (.value (.string s)) W:=by
 have e:=run_slice_hi (P:=P) (W:=W) h ht hx hy hj (Nat.le_refl _)
 rw [ex_all] at e
 exact e
end
theorem otext_any (s:ByteArray) (w:World) (hs:s.size≤65535):
  Calls Tryz.prog 122 #[.string s] w (Ret (.string (textO s)) w):=by
 have hp:=putS_size (s.size:Int) 2 (by omega)
 go_enter Tryz.func122,Tryz.ntmps122
 have hst0:=St.start w
 refine wp_seq (sqr (sqp [.k 2 (.string ⟨#[]⟩)] ?_))
 refine then_normal (wp_seq (sqr (sqp [.m 3 0, .m 4 0, .k 5 (vi ((s.size:Int)))] ?_)))
 refine sql (vi ((s.size:Int))) hst0 (fun cx=>run_min2 rfl (cx.ou 5) (cx.co _) (by omega)) ?_
 refine sql (.string s) hst0 (fun cx=>run_slice_all rfl (by kernel_rfl) (cx.ou 3) (cx.ou 6) (by omega)) ?_
 refine sqp [.m 0 7] ?_
 refine then_normal (wp_seq (sqr (sqp [.m 8 0, .k 9 (vi ((s.size:Int)))] ?_)))
 refine sqk (.string (putS (s.size:Int) 2)) hst0 (fun cx=>⟨_,oput2_any (s.size:Int) _,(map2 (cx.ou 9) (cx.co _))⟩) fun W10 hst10=>?_
 refine sqp [.m 11 0,sS 12 (putS (s.size:Int) 2) s (by omega), .m 2 12] ?_
 refine then_normal (wp_ret ?_)
 refine bpr (.string ((putS (s.size:Int) 2)++s)) (results_1 Tryz.results122 rpt) ?_
 exact Ret.of rfl hst10.ext
end
section
open Go.RowKit
theorem oread_b (s:ByteArray) (w:World):Calls Tryz.prog 94 #[.string s] w fun e w'=>∃ B,e= .returned (.pointer (some ⟨B,0,none⟩))∧(Blk w' B 193 #[.string s, .int .i64 0, .bool false]∧w.heap.size≤B)∧Ext w w':=by
 go_enter Tryz.func94,Tryz.ntmps94
 have hst0:=St.start w
 refine wp_seq (sqr (sqp [.k 2 (.pointer none)] ?_))
 refine then_normal (wp_seq (sqr (sqp [.m 3 0, .k 4 (.agg #[.string s,vi 0, .bool false])] ?_)))
 refine sqbx #[.string s,vi 0, .bool false] hst0 fun B5_4 W4 hst4=>?_
 refine sqp [.m 2 5] ?_
 refine then_normal (wp_ret ?_)
 refine bpr (vp B5_4) (results_1 Tryz.results94 rpt) ?_
 exact ⟨_,rfl,⟨hst4.blk 0 rfl,((hst4.get 0 rfl).own _ (by simp [eB])).1.resolve_left (by simp)⟩,hst4.ext⟩
end
end Go.Proofs.YtcdjaepgahbhfaaGreat
namespace Go.Proofs
section
open Go.Shelf
def Tryz.lays170_ren:Go.Shelf.Ren:=⟨fun | 170=>124 | n=>n,fun | 70=>173 | 3=>3 | 0=>0 | 72=>175 | 37=>41 | 5=>5 | n=>n,fun | n=>n⟩
theorem Tryz.lays170:Go.Proofs.Lays.n170 Tryz.prog Tryz.lays170_ren:={
 mixed:=by kernel_rfl
 f170:=Tryz.func124.trans (congrArg some (by kernel_rfl))
 t0:=Tryz.underlying0
 a0:=Tryz.isAgg0
 z0:=Tryz.sizeOf0
 v0:=Tryz.zeroValue0
 t3:=Tryz.underlying3
 a3:=Tryz.isAgg3
 z3:=Tryz.sizeOf3
 v3:=Tryz.zeroValue3
 t37:=Tryz.underlying41
 a37:=Tryz.isAgg41
 z37:=Tryz.sizeOf41
 v37:=Tryz.zeroValue41
 t70:=Tryz.underlying173
 a70:=Tryz.isAgg173
 z70:=Tryz.sizeOf173
 v70:=Tryz.zeroValue173
 t72:=Tryz.underlying175
 a72:=Tryz.isAgg175
 z72:=Tryz.sizeOf175
 v72:=Tryz.zeroValue175}
def Tryz.lays156_ren:Go.Shelf.Ren:=⟨fun | 156=>163 | 165=>167 | 166=>121 | 169=>125 | 240=>164 | 241=>188 | 276=>184 | 277=>192 | n=>n,fun | 31=>46 | 9=>9 | 3=>3 | 4=>4 | 0=>0 | 20=>20 | 72=>175 | 76=>178 | 70=>173 | 37=>41 | 75=>177 | 127=>208 | 164=>220 | 5=>5 | 80=>36 | n=>n,fun | n=>n⟩
theorem Tryz.lays156:Go.Proofs.Lays.n156 Tryz.prog Tryz.lays156_ren:={
 mixed:=by kernel_rfl
 f156:=Tryz.func163.trans (congrArg some (by kernel_rfl))
 f165:=Tryz.func167.trans (congrArg some (by kernel_rfl))
 f166:=Tryz.func121.trans (congrArg some (by kernel_rfl))
 f169:=Tryz.func125.trans (congrArg some (by kernel_rfl))
 f240:=Tryz.func164.trans (congrArg some (by kernel_rfl))
 f241:=Tryz.func188.trans (congrArg some (by kernel_rfl))
 f276:=Tryz.func184.trans (congrArg some (by kernel_rfl))
 f277:=Tryz.func192.trans (congrArg some (by kernel_rfl))
 t0:=Tryz.underlying0
 a0:=Tryz.isAgg0
 z0:=Tryz.sizeOf0
 v0:=Tryz.zeroValue0
 t3:=Tryz.underlying3
 a3:=Tryz.isAgg3
 z3:=Tryz.sizeOf3
 v3:=Tryz.zeroValue3
 t4:=Tryz.underlying4
 a4:=Tryz.isAgg4
 z4:=Tryz.sizeOf4
 v4:=Tryz.zeroValue4
 t9:=Tryz.underlying9
 a9:=Tryz.isAgg9
 z9:=Tryz.sizeOf9
 v9:=Tryz.zeroValue9
 t20:=Tryz.underlying20
 a20:=Tryz.isAgg20
 z20:=Tryz.sizeOf20
 v20:=Tryz.zeroValue20
 t31:=Tryz.underlying46
 a31:=Tryz.isAgg46
 z31:=Tryz.sizeOf46
 v31:=Tryz.zeroValue46
 t37:=Tryz.underlying41
 a37:=Tryz.isAgg41
 z37:=Tryz.sizeOf41
 v37:=Tryz.zeroValue41
 t70:=Tryz.underlying173
 a70:=Tryz.isAgg173
 z70:=Tryz.sizeOf173
 v70:=Tryz.zeroValue173
 t72:=Tryz.underlying175
 a72:=Tryz.isAgg175
 z72:=Tryz.sizeOf175
 v72:=Tryz.zeroValue175
 t75:=Tryz.underlying177
 a75:=Tryz.isAgg177
 z75:=Tryz.sizeOf177
 v75:=Tryz.zeroValue177
 t76:=Tryz.underlying178
 a76:=Tryz.isAgg178
 z76:=Tryz.sizeOf178
 v76:=Tryz.zeroValue178
 t127:=Tryz.underlying208
 a127:=Tryz.isAgg208
 z127:=Tryz.sizeOf208
 v127:=Tryz.zeroValue208
 t164:=Tryz.underlying220
 a164:=Tryz.isAgg220
 z164:=Tryz.sizeOf220
 v164:=Tryz.zeroValue220}
theorem Tryz.Builder_Extra_156:Builder.Extra Tryz.prog Tryz.lays156_ren:={
 sizeBuilder:=by kernel_rfl
 liesBuilder:=by kernel_rfl
 t5:=Tryz.underlying5
 a5:=Tryz.isAgg5
 z5:=Tryz.sizeOf5
 v5:=Tryz.zeroValue5
 infoByte:=by kernel_rfl
 cellsByte:=by kernel_rfl
 sizeByte:=by kernel_rfl
 neB5:=by decide}
open Go.RowKit in
open Go.RowKit in
theorem Tryz.strings_Join (bk o c:Nat) (xs:List ByteArray) (sep:ByteArray) (w:World) (hcells:∀ (j:Nat) x,xs[j]? =some x→w.cell? ⟨bk,o+j,none⟩=some (.string x)) (hbk:bk < w.heap.size) (hN:xs.length≤140737488355328) (hcap:xs.length≤c) (hlen:(Lib.join (xs.map (·.data.toList)) sep.data.toList).length≤140737488355328):
  Calls Tryz.prog 163 #[.slice (some ⟨bk,o,none⟩) xs.length c, .string sep] w fun e w'=>e= .returned (.string ⟨(Lib.join (xs.map (·.data.toList)) sep.data.toList).toArray⟩)∧Below w.heap.size w w':=Any.strings_Join Tryz.lays156 Tryz.Builder_Extra_156 bk o c xs sep w hcells hbk hN hcap hlen
open Go.RowKit in
theorem Tryz.Builder_Len_f (B b:Nat) (bs:List Value) (w:World) (h:Lib.IsBuilderF 175 5 B b bs w):
  Calls Tryz.prog 124 #[.pointer (some ⟨b,0,none⟩)] w fun e w'=>e= .returned (.int .i64 bs.length)∧w'=w:=Any.Builder_Len_f Tryz.lays170 B b bs w h
open Go.RowKit in
open Go.RowKit Go.Lib in
def Tryz.lays105_ren:Go.Shelf.Ren:=⟨fun | 105=>123 | 212=>165 | 99=>166 | 165=>167 | 166=>121 | 170=>124 | 169=>125 | 263=>185 | 264=>186 | 206=>187 | 240=>164 | 241=>188 | 276=>184 | 277=>192 | n=>n,fun | 9=>9 | 3=>3 | 4=>4 | 20=>20 | 0=>0 | 46=>184 | 109=>205 | 5=>5 | 72=>175 | 76=>178 | 51=>125 | 146=>222 | 53=>191 | 148=>224 | 70=>173 | 37=>41 | 75=>177 | 127=>208 | 164=>220 | 80=>36 | n=>n,fun | n=>n⟩
theorem Tryz.lays105:Go.Proofs.Lays.n105 Tryz.prog Tryz.lays105_ren:={
 mixed:=by kernel_rfl
 f99:=Tryz.func166.trans (congrArg some (by kernel_rfl))
 f105:=Tryz.func123.trans (congrArg some (by kernel_rfl))
 f165:=Tryz.func167.trans (congrArg some (by kernel_rfl))
 f166:=Tryz.func121.trans (congrArg some (by kernel_rfl))
 f169:=Tryz.func125.trans (congrArg some (by kernel_rfl))
 f170:=Tryz.func124.trans (congrArg some (by kernel_rfl))
 f206:=Tryz.func187.trans (congrArg some (by kernel_rfl))
 f212:=Tryz.func165.trans (congrArg some (by kernel_rfl))
 f240:=Tryz.func164.trans (congrArg some (by kernel_rfl))
 f241:=Tryz.func188.trans (congrArg some (by kernel_rfl))
 f263:=Tryz.func185.trans (congrArg some (by kernel_rfl))
 f264:=Tryz.func186.trans (congrArg some (by kernel_rfl))
 f276:=Tryz.func184.trans (congrArg some (by kernel_rfl))
 f277:=Tryz.func192.trans (congrArg some (by kernel_rfl))
 t0:=Tryz.underlying0
 a0:=Tryz.isAgg0
 z0:=Tryz.sizeOf0
 v0:=Tryz.zeroValue0
 t3:=Tryz.underlying3
 a3:=Tryz.isAgg3
 z3:=Tryz.sizeOf3
 v3:=Tryz.zeroValue3
 t4:=Tryz.underlying4
 a4:=Tryz.isAgg4
 z4:=Tryz.sizeOf4
 v4:=Tryz.zeroValue4
 t5:=Tryz.underlying5
 a5:=Tryz.isAgg5
 z5:=Tryz.sizeOf5
 v5:=Tryz.zeroValue5
 t9:=Tryz.underlying9
 a9:=Tryz.isAgg9
 z9:=Tryz.sizeOf9
 v9:=Tryz.zeroValue9
 t20:=Tryz.underlying20
 a20:=Tryz.isAgg20
 z20:=Tryz.sizeOf20
 v20:=Tryz.zeroValue20
 t37:=Tryz.underlying41
 a37:=Tryz.isAgg41
 z37:=Tryz.sizeOf41
 v37:=Tryz.zeroValue41
 t46:=Tryz.underlying184
 a46:=Tryz.isAgg184
 z46:=Tryz.sizeOf184
 v46:=Tryz.zeroValue184
 t51:=Tryz.underlying125
 a51:=Tryz.isAgg125
 z51:=Tryz.sizeOf125
 v51:=Tryz.zeroValue125
 t53:=Tryz.underlying191
 a53:=Tryz.isAgg191
 z53:=Tryz.sizeOf191
 v53:=Tryz.zeroValue191
 t70:=Tryz.underlying173
 a70:=Tryz.isAgg173
 z70:=Tryz.sizeOf173
 v70:=Tryz.zeroValue173
 t72:=Tryz.underlying175
 a72:=Tryz.isAgg175
 z72:=Tryz.sizeOf175
 v72:=Tryz.zeroValue175
 t75:=Tryz.underlying177
 a75:=Tryz.isAgg177
 z75:=Tryz.sizeOf177
 v75:=Tryz.zeroValue177
 t76:=Tryz.underlying178
 a76:=Tryz.isAgg178
 z76:=Tryz.sizeOf178
 v76:=Tryz.zeroValue178
 t109:=Tryz.underlying205
 a109:=Tryz.isAgg205
 z109:=Tryz.sizeOf205
 v109:=Tryz.zeroValue205
 t127:=Tryz.underlying208
 a127:=Tryz.isAgg208
 z127:=Tryz.sizeOf208
 v127:=Tryz.zeroValue208
 t146:=Tryz.underlying222
 a146:=Tryz.isAgg222
 z146:=Tryz.sizeOf222
 v146:=Tryz.zeroValue222
 t148:=Tryz.underlying224
 a148:=Tryz.isAgg224
 z148:=Tryz.sizeOf224
 v148:=Tryz.zeroValue224
 t164:=Tryz.underlying220
 a164:=Tryz.isAgg220
 z164:=Tryz.sizeOf220
 v164:=Tryz.zeroValue220}
theorem Tryz.Builder_Extra_105:Builder.Extra Tryz.prog Tryz.lays105_ren:={
 sizeBuilder:=by kernel_rfl
 liesBuilder:=by kernel_rfl
 t5:=Tryz.underlying5
 a5:=Tryz.isAgg5
 z5:=Tryz.sizeOf5
 v5:=Tryz.zeroValue5
 infoByte:=by kernel_rfl
 cellsByte:=by kernel_rfl
 sizeByte:=by kernel_rfl
 neB5:=by decide}
open Go.RowKit Go.Lib in
theorem Tryz.strings_Repeat (s:ByteArray) (c:Nat) (w:World) (hc:c≤9223372036854775807) (hlen:s.size*c≤140737488355328):
  Calls Tryz.prog 123 #[.string s, .int .i64 c] w fun e w'=>e= .returned (.string ⟨(Lib.repeatL s.data.toList c).toArray⟩)∧Below w.heap.size w w':=Any.strings_Repeat Tryz.lays105 Tryz.Builder_Extra_105 s c w hc hlen
open Go.RowKit Go.Lib in
open Go.RowKit Go.Lib in
open Go.RowKit Go.Lib in
open Go.RowKit Go.Lib in
open Go.RowKit Go.Lib in
open Go.RowKit Go.Lib in
def Tryz.laysNm225_ren:Go.Shelf.Ren:=⟨fun | 25=>67 | 31=>135 | 32=>136 | 37=>168 | n=>n,fun | 22=>25 | 3=>3 | 4=>4 | 40=>184 | 0=>0 | n=>n,fun | n=>n⟩
theorem Tryz.laysNm225:Go.Proofs.Lays2.n25 Tryz.prog Tryz.laysNm225_ren:={
 mixed:=by kernel_rfl
 f25:=Tryz.func67.trans (congrArg some (by kernel_rfl))
 f31:=Tryz.func135.trans (congrArg some (by kernel_rfl))
 f32:=Tryz.func136.trans (congrArg some (by kernel_rfl))
 f37:=Tryz.func168.trans (congrArg some (by kernel_rfl))
 t0:=Tryz.underlying0
 a0:=Tryz.isAgg0
 z0:=Tryz.sizeOf0
 v0:=Tryz.zeroValue0
 t3:=Tryz.underlying3
 a3:=Tryz.isAgg3
 z3:=Tryz.sizeOf3
 v3:=Tryz.zeroValue3
 t4:=Tryz.underlying4
 a4:=Tryz.isAgg4
 z4:=Tryz.sizeOf4
 v4:=Tryz.zeroValue4
 t22:=Tryz.underlying25
 a22:=Tryz.isAgg25
 z22:=Tryz.sizeOf25
 v22:=Tryz.zeroValue25
 t40:=Tryz.underlying184
 a40:=Tryz.isAgg184
 z40:=Tryz.sizeOf184
 v40:=Tryz.zeroValue184}
open Go.RowKit Go.Lib in
theorem Tryz.slices_BinarySearch_int (b off n c:Nat) (zs:List Int) (x:Int) (w:World) (hz:n≤zs.length) (hbig:n < 4611686018427387904) (hc:∀ j,j < zs.length→w.cell? ⟨b,off+j,none⟩=some (.int .i64 (zs.getD j 0))) (hs:(zs.take n).Pairwise (·≤·)):
  Calls Tryz.prog 67 #[.slice (some ⟨b,off,none⟩) n c, .int .i64 x] w fun e w'=>e= .returned (.tuple #[.int .i64 ((zs.take n).countP (·< x):Nat), .bool ((zs.take n).contains x)])∧∃ q,w'=w.drewN q:=Any.slices_BinarySearch_int Tryz.laysNm225 b off n c zs x w hz hbig hc hs
open Go.RowKit Go.Lib in
theorem Tryz.slices_BinarySearch_int_empty (a:Option Addr) (c:Nat) (x:Int) (w:World):
  Calls Tryz.prog 67 #[.slice a 0 c, .int .i64 x] w fun e w'=>e= .returned (.tuple #[.int .i64 0, .bool false])∧w'=w:=Any.slices_BinarySearch_int_empty Tryz.laysNm225 a c x w
end
end Go.Proofs
namespace Go.Proofs.YtcdjaepgahbhfaaGreat
section
open Go.RowKit
/-- a row of bytes, frozen or not -/
abbrev gu (u:List Go.Value) (k:Nat):Go.Value:=u.getD k undef
theorem nle {a b:Nat} (h:Nat.ble a b=true):a≤b:=Nat.le_of_ble_eq_true h
def ZrAt (W:World) (g:Nat) (l:List UInt8):Prop:=∃ cur fz,W.heap[g]? =some (.cells cur 5 fz)∧l.length≤cur.size∧cur.toList.take l.length=Lib.byteCells l
def eZr (g:Nat) (l:List UInt8):Ent:=⟨[g],fun W=>ZrAt W g l⟩
theorem eZr_loc (g:Nat) (l:List UInt8):(eZr g l).loc:=fun W W' hk h=>by
 obtain ⟨cur,fz,h1,h2⟩:=h
 exact ⟨cur,fz,(hk g (by simp [eZr])).trans h1,h2⟩
theorem ZrAt.lt {W:World} {g:Nat} {l:List UInt8} (h:ZrAt W g l):g < W.heap.size:=by
 obtain ⟨cur,fz,h1, _⟩:=h
 exact (Array.getElem?_eq_some_iff.1 h1).1
theorem ZrAt.freeze {W:World} {g:Nat} {l:List UInt8} (h:ZrAt W g l) (n:Nat):ZrAt (W.freeze ⟨g,0,none⟩ n) g l:=by
 obtain ⟨cur,⟨lo,hi⟩,h1,h2⟩:=h
 unfold World.freeze
 split
 ·exact ⟨cur,(lo,hi),h1,h2⟩
 ·refine ⟨cur,if lo==hi then (0,0+n) else (min lo 0,max hi (0+n)),?_,h2⟩
  simp only [Array.getElem?_modify,if_pos,h1,Option.map_some]
/-- the builder in block b, its bytes in the row r, frozen or not -/
def SbZ (W:World) (b:Nat) (r:Option Nat) (l:List UInt8):Prop:=
 ∃ p g c,Blk W b 175 #[p, .slice (some ⟨g,0,none⟩) l.length c]∧ZrAt W g l∧l.length≤c∧g≠b∧r=some g
def eZb (b:Nat) (r:Option Nat) (l:List UInt8):Ent:=⟨b::r.toList,fun W=>SbZ W b r l⟩
theorem eZb_loc (b:Nat) (r:Option Nat) (l:List UInt8):(eZb b r l).loc:=fun W W' hk h=>by
 obtain ⟨p,g,c,h1,h2,h3,h4,rfl⟩:=h
 exact ⟨p,g,c,(hk b (by simp [eZb])).trans h1,eZr_loc g l W W' (fun k hk'=>hk k (by simp [eZr] at hk'; simp [eZb,hk'])) h2,h3,h4,rfl⟩
theorem SbZ.lt {W:World} {b:Nat} {r:Option Nat} {l:List UInt8} (h:SbZ W b r l):∀ k∈(eZb b r l).fp,k < W.heap.size:=fun k hk=>by
 obtain ⟨p,g,c,h1,h2,h3,h4,rfl⟩:=h
 simp only [eZb,List.mem_cons,Option.mem_toList,Option.some.injEq] at hk
 rcases hk with rfl | rfl
 ·exact h1.lt
 ·exact h2.lt
theorem SbAt.z {W:World} {b:Nat} {r:Option Nat} {l:List UInt8} (h:SbAt W b r (Lib.byteCells l)) (hl:l≠[]):SbZ W b r l:=by
 have hpos:0 < l.length:=List.length_pos_iff.2 hl
 have hbne:=h.ne
 obtain ⟨p,v,hb,hp,hown,hr⟩:=h
 rw [byteCells_len] at hown
 rcases hown.2 with ⟨hv,h0⟩ | ⟨g,cap,cur,hv, _,hg,hle,hmx,hcs,htk⟩
 ·omega
 ·subst hv
  refine ⟨p,g,cap,hb,⟨cur, _,hg,by omega,by rw [Nat.mul_one] at htk; exact htk⟩,hle,fun e=>hbne (by rw [← hr]; simp [Value.ownBlock,e]),hr.symm⟩
section
variable {P:Program} {ops:Array Oper} {L:List Nat} {a0:Act} {w0:World} {bor:List Nat} {X0:List Ent} {us cr kl:List (List Nat)}
 {D:Nat→(Tmp→Value)→(Tmp→Value)→(Nat→Ent)→Prop} {i:Nat} {o:Oper} {ρ:Operand→Value} {β:Tmp→Value} {W:World} {X:Nat→Ent}
/-- an entry turns into another over the same blocks -/
theorem post_chg {v:Value} {W':World} {q q':Nat} {E E':Ent} (hX:X q=E) (hc:atV cr i=[q']) (hk:atV kl i=[q]) (hu:Upd E.fp W W') (hh:E'.holds W') (hl:E'.loc) (hf:∀ k∈E'.fp,k∈E.fp∧k < W'.heap.size)
  (hD:∀ (σ β':Tmp→Value) (X':Nat→Ent),(∀ t,o.dst≠some t→σ t=ρ (.tmp t))→(∀ t,o.dst≠some t→β' t=β t)→(∀ d,o.dst=some d→σ d=v∧β' d=v)→X' q'=E'→D i σ β' X'):PostV cr kl D i o.dst ρ β W X v W':=by
 subst hX
 refine ⟨[E'],by rw [hc]; rfl,⟨?_,fun e he=>?_,List.pairwise_singleton _ _⟩,fun σ β' X' hs' hv hb' hbv hx' hN=>hD σ β' X' hs' hb' (fun d hd=>⟨hv d hd,hbv d hd⟩) ?_⟩
 ·rw [hk]
  simp only [List.flatMap_cons,List.flatMap_nil,List.append_nil]
  exact hu
 ·rw [List.mem_singleton] at he
  subst he
  refine ⟨hh,hl,fun k hk'=>⟨.inl ?_,(hf k hk').2⟩⟩
  rw [hk]
  simpa using (hf k hk').1
 ·rw [hc] at hN
  exact (List.cons.inj hN).1
theorem CtxV.z {q b:Nat} {r:Option Nat} {l:List UInt8} (cx:CtxV ops L a0 w0 bor X0 us D i ρ β W X) (hX:X q=eZb b r l) (hu:(atV us i).contains q=true):SbZ W b r l:=by
 have h:=(cx.ok q hu).holds
 rw [hX] at h; exact h
theorem dv_unsafeStrZ {x y:Operand} {t u e:TypeId} {g q q':Nat} {d:Tmp} {l:List UInt8} (he:e=5) (h:o.op= .call {callee:= .builtin .unsafeString,args:=#[x,y],argTypes:=#[t,u]}) (ht:P.underlying t=some (.pointer e)) (hce:P.cellsOf e=1)
  (hx:ρ x= .pointer (some ⟨g,0,none⟩)) (hy:ρ y= .int .i64 (l.length:Int)) (cx:CtxV ops L a0 w0 bor X0 us D i ρ β W X) (hX:X q=eZr g l) (hu:(atV us i).contains q=true) (hl:l≠[]) (h63:l.length≤9223372036854775807)
  (hd:o.dst=some d) (hc:atV cr i=[q']) (hk:atV kl i=[q]) (hD:∀ (σ β':Tmp→Value) (X':Nat→Ent),σ d= .string ⟨l.toArray⟩→X' q'=eZr g l→D i σ β' X'):DoesU P o ρ W (PostV cr kl D i o.dst ρ β W X):=by
 subst he
 have hz:ZrAt W g l:=by
  have h:=(cx.ok q hu).holds
  rw [hX] at h; exact h
 obtain ⟨cur,fz,hg,hle,htk⟩:=id hz
 have hcell:∀ (j:Nat) (x:UInt8),l[j]? =some x→W.cell? ((⟨g,0,none⟩:Addr).add j)=some (.int .u8 x.toNat):=fun j x hj=>by
  have hjl:=(List.getElem?_eq_some_iff.1 hj).1
  rw [Addr.add_lit,Nat.zero_add,cell_of_row W g j cur _ _ hg]
  have h5:(cur.toList.take l.length)[j]? =(Lib.byteCells l)[j]? :=by rw [htk]
  rw [List.getElem?_take,if_pos (by omega)] at h5
  rw [← Array.getElem?_toList,h5]
  simp [Lib.byteCells,hj]
 have hrun:=Lib.run_unsafeString_row (P:=P) (w:=W) t u o.type _ ht hce g cur.size (by unfold World.shape?; rw [hg]) l hl (by omega) h63 hcell
 refine DoesU.value (v:= .string ⟨l.toArray⟩) (w':=W.freeze ⟨g,0,none⟩ l.length) (by
  unfold execOp; rw [h]
  simp only [resolve,invoke,builtin,Sem.run_bind,Sem.run_pure,Result.andThen_ok,List.map_toArray,List.map_cons,List.map_nil,hx,hy,hrun]) ?_
 have hz':=hz.freeze l.length
 exact post_chg (E:=eZr g l) (E':=eZr g l) hX hc hk ((Upd.refl _ _).freeze (.inl (by simp [eZr])) _) hz' (eZr_loc g l) (fun k hk'=>⟨hk',by simp [eZr] at hk'; subst hk'; exact hz'.lt⟩) fun σ β' X' _ _ hv hX'=>hD σ β' X' (hv d hd).1 hX'
end
theorem St.lentZ {w:World} {b g t:Nat} {cs:Array Value} {l:List UInt8} (hb:Blk w b t cs) (hz:ZrAt w g l) (hne:g≠b):St w [b,g] [eB b t cs,eZr g l] w:=by
 refine ⟨Upd.refl _ _,fun x hx=>?_,?_⟩
 ·simp only [List.mem_cons,List.not_mem_nil,or_false] at hx
  rcases hx with rfl | rfl
  ·exact ⟨hb,eB_loc _ _ _,fun k hk=>⟨.inl (by simp [eB] at hk; simp [hk]),by simp [eB] at hk; subst hk; exact hb.lt⟩⟩
  ·exact ⟨hz,eZr_loc _ _,fun k hk=>⟨.inl (by simp [eZr] at hk; simp [hk]),by simp [eZr] at hk; subst hk; exact hz.lt⟩⟩
 ·refine List.pairwise_pair.2 fun k hk hk'=>?_
  simp only [eB,List.mem_cons,List.not_mem_nil,or_false,eZr] at hk hk'
  omega
theorem sbstr_z (b:Nat) (r:Option Nat) (l:List UInt8) (w:World) (h:SbZ w b r l) (hl:l≠[]) (h63:l.length≤1000000):
  Calls Tryz.prog 125 #[.pointer (some ⟨b,0,none⟩)] w fun e w'=>e= .returned (.string ⟨l.toArray⟩)∧SbZ w' b r l∧Upd (b::r.toList) w w':=by
 have hpos:0 < l.length:=List.length_pos_iff.2 hl
 obtain ⟨p,g,c,hb,hz,hlc,hne,rfl⟩:=h
 have st0:=St.lentZ hb hz hne
 show Calls _ _ _ w fun e w'=>e= .returned (.string ⟨l.toArray⟩)∧SbZ w' b (some g) l∧Upd [b,g] w w'
 go_enter Tryz.func125,Tryz.ntmps125
 have hst0:=st0
 refine wp_seq (sqr (sqp [.k 2 (.string ⟨#[]⟩)] ?_))
 refine then_normal (wp_seq (wp_region_Y [0,1,3,7,15,0,32,96,224,480,1023,2047] [[],[],[],[0],[],[],[],[],[0],[],[1]] [[],[],[],[],[],[],[],[],[],[],[2]] [[],[],[],[],[],[],[],[],[],[],[1]] [.k 3 (vp b), .k 4 (vp b), .k 5 (.pointer (some ⟨b,1,none⟩)), .c 6 (.slice ((some ⟨g,0,none⟩)) l.length c), .c 7 (vp g), .k 8 (vp b), .k 9 (vp b), .k 10 (.pointer (some ⟨b,1,none⟩)), .c 11 (.slice ((some ⟨g,0,none⟩)) l.length c), .k 12 (vi ((l.length:Int))), .a 13, .c 2 (.string ((⟨l.toArray⟩:ByteArray)))] (fun ix σ β X=>match ix with | 0=>True | 1=>True | 2=>True | 3=>True | 4=>True | 5=>True | 6=>True | 7=>True | 8=>True | 9=>True | 10=>σ 13= .string ((⟨l.toArray⟩:ByteArray))∧X 2=eZr g l | _=>True) [0,2] [3,4,8,10,11] [(2,11,1,3),(0,0,11,11)] hst0 ?_ ?_ ?_))
 ·exact fun ix _ _ _ _ _ _ hs hb hx h=>match ix,h with
  | 10,h=>by dsimp only; rw [← hs 13 rfl,← hx 2 rfl]; exact h
  | 0, _ | 1, _ | 2, _ | 3, _ | 4, _ | 5, _ | 6, _ | 7, _ | 8, _ | 9, _ | _+11, _=>trivial
 ·refine ⟨?_,?_,?_,?_,?_,trivial⟩
  ·exact xs4 rfl id fun cx=>run_load1 rfl (by kernel_rfl) (cx.an 2) ((cx.bi 0 rfl).cell 1)
  ·exact xs4 rfl id fun cx=>run_sliceData rfl (cx.an 3) (by omega)
  ·exact xs4 rfl id fun cx=>run_load1 rfl (by kernel_rfl) (cx.an 7) ((cx.bi 0 rfl).cell 1)
  ·refine svA fun ρ β W X cx=>?_
   exact dv_unsafeStrZ (e:=5) rfl rfl (by kernel_rfl) (by kernel_rfl) (cx.an 4) (cx.an 9) cx (cx.init 1 _ rfl) rfl hl (by omega) rfl rfl rfl (fun σ β' X' hs hx=>⟨hs,hx⟩)
  ·exact xs4 rfl id fun cx=>run_assign' rfl (dTn (cx.an 10)).1
 intro σ β X W2 hD hst2 fr hfr
 simp only [exq 2 ((dTn (hD 10 lq)).2)] at hst2
 simp only [ed 13 ((dTn (hD 10 lq)).1)] at hfr
 clear hD; subst hfr; clear σ β X
 refine then_normal (wp_ret ?_)
 refine bpr (.string ((⟨l.toArray⟩:ByteArray))) (results_1 Tryz.results125 rpt) ?_
 exact ⟨rfl,⟨p,g,c,(hst2.ok (eB b 175 #[p, .slice (some ⟨g,0,none⟩) l.length c]) (by simp)).holds,(hst2.ok (eZr g l) (by simp)).holds,hlc,hne,rfl⟩,hst2.upd⟩
/-- a page and an error, the page's items in new memory -/
def PgPost (k l:Int) (ss:List ByteArray) (err:Int) (w:World) (e:Ending) (w':World):Prop:=
 ∃ A c,e= .returned (.tuple #[.agg #[.int .i64 k, .int .i64 l, .slice A ss.length c], .int .i64 err])∧
   w'.ownsRow w.heap.size 9 1 (.slice A ss.length c) ss.length (ss.map Value.string)∧Ext w w'
def PutPost (k l:Int) (ss:List ByteArray) (slot:Int) (s:ByteArray) (w:World):Ending→World→Prop:=
 if putErr k l ss slot s=0 then PgPost k l (plainL (withL ss slot.toNat s)) 0 w else PgPost 0 0 [] (putErr k l ss slot s) w
theorem PgPost.zero {err:Int} {w w':World} (h:Ext w w'):PgPost 0 0 [] err w (.returned (.tuple #[.agg #[.int .i64 0, .int .i64 0, .slice none 0 0], .int .i64 err])) w':=
 ⟨none,0,rfl,World.ownsRow_nil _ _ _ _,h⟩
theorem PutPost.bad {k l slot err:Int} {ss:List ByteArray} {s:ByteArray} {w w':World} (he:putErr k l ss slot s=err) (hne:err≠0) (hx:Ext w w'):PutPost k l ss slot s w (.returned (.tuple #[.agg #[.int .i64 0, .int .i64 0, .slice none 0 0], .int .i64 err])) w':=by
 rw [PutPost,if_neg (by rw [he]; exact hne),he]; exact PgPost.zero hx
theorem PutPost.good {k l slot:Int} {ss:List ByteArray} {s:ByteArray} {w w':World} {e:Ending} (he:putErr k l ss slot s=0) (h:PgPost k l (plainL (withL ss slot.toNat s)) 0 w e w'):PutPost k l ss slot s w e w':=by
 rw [PutPost,if_pos he]; exact h
theorem padTo_self (l:List ByteArray):padTo l l.length=l:=by simp [padTo]
theorem padTo_len {l:List ByteArray} {n:Nat} (h:l.length≤n):(padTo l n).length=n:=by simp [padTo]; omega
theorem padTo_succ {l:List ByteArray} {n:Nat} (h:l.length≤n):(padTo l n).map Value.string++[.string ⟨#[]⟩]=(padTo l (n+1)).map Value.string:=by
 rw [padTo,padTo,show n+1 - l.length=(n - l.length)+1 by omega,List.replicate_succ',← List.append_assoc,List.map_append (l₂:=[ByteArray.empty])]; rfl
theorem padTo_end {l:List ByteArray} {n m:Nat} (h:l.length≤n) (hm:m < n) (h2:n≤m+1∨n=l.length):padTo l n=padTo l (m+1):=by
 rcases h2 with h2 | h2
 ·rw [show n=m+1 by omega]
 ·rw [h2,padTo,padTo,show l.length - l.length=0 by omega,show m+1 - l.length=0 by omega]
theorem plain_small {ss:List ByteArray} (h:Small ss):Small (plainL ss):=
 ⟨Nat.le_trans (by rw [plainL_len]; exact trimN_le ss _) h.1,fun s hs=>h.2 s (List.mem_of_mem_take hs)⟩
theorem with_small {ss:List ByteArray} {m:Nat} {s:ByteArray} (h:Small ss) (hm:m < 24) (hs:s.size≤400) (h24:ss.length≤24):Small (withL ss m s):=by
 have hp:=plain_small h
 have hpl:(plainL ss).length≤24:=Nat.le_trans (by rw [plainL_len]; exact trimN_le ss _) h24
 refine ⟨?_,fun x hx=>?_⟩
 ·simp only [withL,padTo,List.length_set,List.length_append,List.length_replicate]; omega
 ·rcases List.mem_or_eq_of_mem_set hx with hx | hx
  ·rcases List.mem_append.1 hx with hx | hx
   ·exact hp.2 x hx
   ·rw [List.eq_of_mem_replicate hx]; exact Nat.zero_le _
  ·subst hx; omega
theorem withL_pad {ss:List ByteArray} {m:Nat} {s:ByteArray}:(withL ss m s).length=(padTo (plainL ss) (m+1)).length:=by simp [withL]
theorem pgnew_any (k:Int) (w:World):
  Calls Tryz.prog 133 #[.int .i64 k] w (Ret (.agg #[.int .i64 k, .int .i64 0, .slice none 0 0]) w):=by
 go_enter Tryz.func133,Tryz.ntmps133
 have hst0:=St.start w
 refine wp_seq (sqr (sqal #[vi 0,vi 0, .slice none 0 0] hst0 fun B2_1 W1 hst1=>?_))
 refine then_normal (wp_seq (sqr (sqp [.m 3 0, .k 4 (.agg #[vi k,vi 0, .slice none 0 0])] ?_)))
 refine sqst (n:=3) 0 #[vi k,vi 0, .slice none 0 0] hst1 fun W4 hst4=>?_
 refine then_normal (wp_ret ?_)
 refine bpr (.agg #[vi k,vi 0, .slice none 0 0]) (results_cell (n:=3) Tryz.results133 rfl (by kernel_rfl) (by kernel_rfl) (hst4.blk 0 rfl) rfl) ?_
 exact Ret.of rfl hst4.ext
theorem pgput_any (k l:Int) (A:Option Addr) (c:Nat) (ss:List ByteArray) (slot:Int) (s:ByteArray) (w:World) (hA:At w A (ss.map Value.string)) (hS:Small ss) (hss:s.size≤9223372036854775807):
  Calls Tryz.prog 102 #[.agg #[.int .i64 k, .int .i64 l, .slice A ss.length c], .int .i64 slot, .string s] w (PutPost k l ss slot s w):=by
 go_enter Tryz.func102,Tryz.ntmps102
 have hst0:=St.start w
 refine wp_seq (sqr ?_)
 refine sqbx #[vi k,vi l, .slice A ss.length c] hst0 fun B3_1 W1 hst1=>?_
 refine sqal #[vi 0,vi 0, .slice none 0 0] hst1 fun B6_2 W2 hst2=>?_
 refine sqp [.k 7 (vi 0)] ?_
 refine then_normal (wp_seq (wp_seq (sqr ?_)))
 refine sqlb 0 3 hst2 ?_
 refine sqk (.bool (rightB k l ss)) hst2 (fun cx=>⟨_,right_any k l _ _ ss _ (hA.ext cx.upd.to_ext) hS,(map1 (cx.ou 9))⟩) fun W5 hst5=>?_
 refine sqp [.k 11 (.bool (!(rightB k l ss)))] ?_
 refine then_normal ?_
 rcases Bool.eq_false_or_eq_true (rightB k l ss) with hs7 | hs7
 ·refine wp_cond_false (show Act.eval _ _= .bool false from (congrArg Value.bool (by rw [hs7]; rfl))) (wp_skip (then_normal (wp_seq (wp_seq (sqr (sqp [.m 13 1, .k 14 (.bool (decide (slot < 0))), .m 15 14] ?_))))))
  refine sqw 15 [16,17] rfl (fun _=>sqp [.m 16 1, .k 17 (.bool (decide (24≤slot)))] sqe) ?_
  refine sqp [sPo 18 (decide (slot < 0)) (decide (24≤slot)), .m 19 18] ?_
  refine sqw 19 [20,21,22] rfl (fun _=>sqp [.m 20 2, .k 21 (vi ((s.size:Int))), .k 22 (.bool (decide (400 < (s.size:Int))))] sqe) ?_
  refine sqp [sPo 23 ((decide (slot < 0))||(decide (24≤slot))) (decide (400 < (s.size:Int)))] ?_
  refine then_normal (wbs (fun hs19=>?_) fun hs19=>?_)
  ·have hs19p:=hs19
   simp only [zB] at hs19p
   refine wp_seq (sqr (sqp [.k 24 (.agg #[vi 0,vi 0, .slice none 0 0])] ?_))
   refine sqst (n:=3) 1 #[vi 0,vi 0, .slice none 0 0] hst5 fun W21 hst21=>?_
   refine sqp [.k 7 (vi 21)] ?_
   refine then_normal (wp_ret (then_ret ?_))
   refine bpr (.tuple #[.agg #[vi 0,vi 0, .slice none 0 0],vi 21]) (results_2 Tryz.results102 (rpa (hst21.blk 1 rfl) 0 3) rpt) ?_
   exact PutPost.bad (by rw [putErr,if_neg (by simp [*]),if_pos (by omega)]) (by decide) hst21.ext
  have hs19p:=hs19
  simp only [zB] at hs19p
  obtain ⟨⟨hs19p1,hs19p2⟩,hs19p3⟩:=hs19p
  refine wp_skip (then_normal (wp_seq ?_))
  obtain ⟨m,rfl⟩:∃ m:Nat,slot=(m:Int):=⟨slot.toNat,by omega⟩
  have hm24:m < 24:=by omega
  have hs4:s.size≤400:=by omega
  have hpar:=right_parts (by assumption:rightB k l ss=true)
  have hl24:ss.length≤24:=hpar.2.2.1.1
  have hws:=with_small hS hm24 hs4 hl24
  refine sqr (sqp [.k 25 (.pointer (some ⟨B3_1,2,none⟩))] ?_)
  refine sqld 0 hst5 ?_
  refine sqk1 (fun A27_25=> .slice A27_25 ((plainL ss).length) ((plainL ss).length)) (fun A27_25=>eO 9 1 (.slice A27_25 ((plainL ss).length) ((plainL ss).length)) ((plainL ss).length) ((plainL ss).map Value.string)) hst5 (fun cx=>⟨_,(plain_any _ _ ss _ (hA.ext cx.upd.to_ext) (by have h_:=(hS).1; omega)).mono (by rintro e W1 ⟨rfl,ho,hx⟩; exact ⟨_,rfl,St.one hx (eO_new ho)⟩),(map1 (cx.ou 26))⟩) fun A27_25 W25 hst25=>?_
  refine sqp [.m 8 27] ?_
  refine then_normal (wp_seq (wp_block ?_))
  obtain ⟨pl,hpl⟩:∃ z,plainL ss=z:=⟨_,rfl⟩
  have hpl24:pl.length≤24:=by rw [← hpl,plainL_len]; exact Nat.le_trans (trimN_le ss _) hl24
  rw [hpl] at hst25
  rw [show eO 9 1 (.slice A27_25 pl.length pl.length) pl.length (pl.map Value.string)=eO 9 1 (.slice A27_25 pl.length pl.length) pl.length ((padTo pl pl.length).map Value.string) from by rw [padTo_self]] at hst25
  refine wp_loopT (fun t_ mz az W=>∃ j:Nat,∃ RA:Option Addr,∃ RC:Nat,pl.length≤j∧(j≤m+1∨j=pl.length)∧mz=m+1 - j∧az=⟨(ovr (jv az) [(8,8,0,[.slice RA j RC]),(19,28,7,[])] t_).toArray,[]⟩∧St w [] [eB B3_1 48 #[vi k,vi l, .slice A ss.length c],eB B6_2 48 #[vi 0,vi 0, .slice none 0 0],eO 9 1 (.slice RA j RC) j ((padTo pl j).map Value.string)] W) (m+1 - pl.length) ?_ ?_
  · -- the loop begins
    exact ⟨pl.length,A27_25,pl.length,Nat.le_refl _, .inr rfl,rfl,(by rw [hpl]; rfl),hst25.pk [0,1,2]⟩
  rintro n27 a27 W27 ⟨j,RA,RC,hj,hj2,rfl,hj_,hst27⟩
  refine ovz hj_ fun u27_=>?_
  refine wp_seq (wp_seq (sqr (sqp [.m 28 8, .k 29 (vi ((j:Int))), .m 30 1, .k 31 (.bool (decide ((j:Int)≤(m:Int))))] ?_)))
  refine then_normal (wds (fun hs32 hs32p=>?_) fun hs32 hs32p=>?_)
  ·refine wp_skip (then_normal (wp_block (sqr (sqp [.m 32 8] ?_))))
   refine sqn1 (fun x_=>sA x_) (fun A33_34=> .slice A33_34 1 1) (fun A33_34=>eO 9 1 (.slice A33_34 1 1) 1 ([.string ⟨#[]⟩])) hst27 (by
     refine svA fun ρ β W X cx=>?_
     exact dv_lit (e:=9) (xs:=[.string ⟨#[]⟩]) rfl (by simp [go_sem,cx.sees.const]) rfl (by decide) rfl rfl (fun σ β' X' hs hb hv hx=>⟨hv,hx⟩)) fun A33_34 W34 hst34=>?_
   refine sqc2 (fun x_=>sA x_) (fun x_=>sC x_) (fun A34_35 c34_35=> .slice A34_35 (j+1) c34_35) (fun A34_35 c34_35=>eO 9 1 (.slice A34_35 (j+1) c34_35) (j+1) ((padTo pl (j+1)).map Value.string)) 2 hst34 (by
     refine svA fun ρ β W X cx=>?_
     obtain ⟨i0,hi0,hz0,hz1,hz2⟩:=info_parts Tryz.infoStr
     refine dv_append (n:=j) (m:=1) (nm:=j+1) (xs:=(padTo pl j).map Value.string) (news:=[.string ⟨#[]⟩]) (xs':=(padTo pl (j+1)).map Value.string) rfl (ty:=46) rfl (by kernel_rfl) hi0 hz0 hz1 hz2 rfl (cx.ou 32) cx (cx.init 2 _ rfl) rfl (cx.ou 33) (by first | (simp; done) | (simp; omega)) (At.of_own (cx.ri 3 rfl)) (by simp [Value.oneCell']) (by simp only [maxLen]; omega) (by omega) rfl rfl rfl (by omega) (padTo_succ hj) (fun σ β' X' hs hb hv hx=>?_)
     exact ⟨hv,hx⟩) fun A34_35 c34_35 W35 hst35=>?_
   refine sqp [.m 8 34] ?_
   refine blk_normal (then_normal ?_)
   refine ⟨m+1 - ((j+1)),by omega,?_⟩
   exact ⟨(j+1),A34_35,c34_35,by omega,by omega,rfl,(by kernel_rfl),hst35.pk [0,1,2]⟩
  refine wp_exit (then_exit (then_exit (blk_eq (then_normal (wp_seq ?_)))))
  have hje:=padTo_end hj (show m < j by omega) hj2
  have hjl:=padTo_len hj
  rw [hje] at hst27
  rw [hje] at hjl
  refine sqr (sqp [.m 35 8, .m 36 1, .m 37 2] ?_)
  refine sql (.pointer (some ((ad RA).add m))) hst27 (fun cx=>run_indexSl (e:=9) (m:=m) rfl (by kernel_rfl) (by kernel_rfl) (cx.ou 35) (cx.ou 36) (by omega) (by omega) (At.of_own (cx.ri 2 rfl)) ((by simp only [List.length_map]; exact hjl))) ?_
  refine sqc (eO 9 1 (.slice RA j RC) j ((withL ss m s).map Value.string)) 2 hst27 (by
    refine svA fun ρ β W X cx=>?_
    exact dv_storeRow (m:=m) (n:=j) rfl (cx.ou 38) (show _=Value.string s from (cx.ou 37)) (by kernel_rfl) rfl rfl cx (cx.init 2 _ rfl) rfl (by omega) rfl (by rw [← List.map_set,← hpl]; rfl) rfl rfl (fun σ β' X' hs hb hx=>hx)) fun W41 hst41=>?_
  refine then_normal (wp_seq (wp_seq ?_))
  have hwl:(withL ss m s).length=j:=by rw [withL_pad,hpl]; exact hjl
  subst hwl
  refine sqr (sqp [.m 39 8] ?_)
  refine sqk (vi ((sizeL (withL ss m s):Int))) hst41 (fun cx=>⟨_,size_any _ _ (withL ss m s) _ (At.of_own (cx.ri 2 rfl)) hws,(map1 (cx.ou 39))⟩) fun W43 hst43=>?_
  refine sqp [.k 41 (.bool (decide (512 < (sizeL (withL ss m s):Int))))] ?_
  refine then_normal (wds (fun hs45 hs45p=>?_) fun hs45 hs45p=>?_)
  ·refine wp_seq (sqr (sqp [.k 42 (.agg #[vi 0,vi 0, .slice none 0 0])] ?_))
   refine sqst (n:=3) 1 #[vi 0,vi 0, .slice none 0 0] hst43 fun W47 hst47=>?_
   refine sqp [.k 7 (vi 20)] ?_
   refine then_normal (wp_ret (then_ret ?_))
   refine bpr (.tuple #[.agg #[vi 0,vi 0, .slice none 0 0],vi 20]) (results_2 Tryz.results102 (rpa (hst47.blk 1 rfl) 0 3) rpt) ?_
   exact PutPost.bad (by rw [putErr,if_neg (by simp [*]),if_neg (by omega),if_pos (by rw [Int.toNat_natCast]; omega)]) (by decide) hst47.ext
  refine wp_skip (then_normal (wp_seq (wp_region_Y [0,1,0,4,0,16,63,127,255] [[],[0],[],[0],[],[2],[],[1]] [[],[],[],[],[],[3],[],[4]] [[],[],[],[],[],[],[],[1]] [.k 43 (vp B3_1), .c 44 (vi k), .k 45 (.pointer (some ⟨B3_1,1,none⟩)), .c 46 (vi l), .k 47 (.slice RA ((withL ss m s).length) RC), .a 48, .a 49, .n, .k 7 (vi 0)] (fun ix σ β X=>match ix with | 0=>True | 1=>True | 2=>True | 3=>True | 4=>True | 5=>σ 48= .slice (sA (β 48)) ((plainL (withL ss m s)).length) ((plainL (withL ss m s)).length)∧X 3=eO 9 1 (.slice (sA (β 48)) ((plainL (withL ss m s)).length) ((plainL (withL ss m s)).length)) ((plainL (withL ss m s)).length) ((plainL (withL ss m s)).map Value.string) | 6=>σ 49= .agg #[vi k,vi l, .slice (sA (β 48)) ((plainL (withL ss m s)).length) ((plainL (withL ss m s)).length)] | 7=>X 4=eB B6_2 48 #[vi k,vi l, .slice (sA (β 48)) ((plainL (withL ss m s)).length) ((plainL (withL ss m s)).length)] | _=>True) [0,2,3,4] [1,3,5,6,7] [(7,8,1,8),(35,0,7,42)] hst43 ?_ ?_ ?_)))
  ·exact fun ix _ _ _ _ _ _ hs hb hx h=>match ix,h with
   | 5,h=>by dsimp only; rw [← hs 48 rfl,← hb 48 rfl,← hx 3 rfl]; exact h
   | 6,h=>by dsimp only; rw [← hs 49 rfl,← hb 48 rfl]; exact h
   | 7,h=>by dsimp only; rw [← hb 48 rfl,← hx 4 rfl]; exact h
   | 0, _ | 1, _ | 2, _ | 3, _ | 4, _ | _+8, _=>trivial
  ·refine ⟨?_,?_,?_,?_,?_,trivial⟩
   ·exact xs4 rfl id fun cx=>run_load1 rfl (by kernel_rfl) (cx.an 0) ((cx.bi 0 rfl).cell 0)
   ·exact xs4 rfl id fun cx=>run_load1 rfl (by kernel_rfl) (cx.an 2) ((cx.bi 0 rfl).cell 1)
   ·refine svA fun ρ β W X cx=>?_
    refine DoesU.call (run_callF (args:=#[.slice RA ((withL ss m s).length) RC]) rfl cx.sees rfl (by kernel_rfl) (map1 (cx.an 4))) ?_
    refine (plain_any _ _ (withL ss m s) _ (At.of_own (cx.ri 2 rfl)) (by have h_:=(hws).1; omega)).mono ?_
    rintro e W1 ⟨rfl,ho,hx⟩
    refine ⟨_,rfl,post_call [eO 9 1 (.slice (some ⟨W.heap.size,0,none⟩) ((plainL (withL ss m s)).length) ((plainL (withL ss m s)).length)) ((plainL (withL ss m s)).length) ((plainL (withL ss m s)).map Value.string)] rfl rfl hx (one_new (eO_new ho)) (List.pairwise_singleton _ _) (fun σ β' X' hs hb hv hN=>?_)⟩
    have hv1:=(hv 48 rfl).1; have hv2:=(hv 48 rfl).2
    exact ⟨hv1.trans (by rw [hv2]; exact rfl),(by rw [hv2]; exact (List.cons.inj hN).1)⟩
   ·exact sv rfl rfl rfl rfl rfl _ (fun _ _ _ h=>h) (fun β β' h=>by rw [h 48 (by decide)]) fun ρ β W X cx=>run_buildL rfl (pmc (cx.an 1) (pmc (cx.an 3) (pmc (dTn (cx.an 5)).1 pmn))) (by kernel_rfl)
   ·refine svA fun ρ β W X cx=>?_
    exact dv_store (n:=3) rfl (cx.ou 6) (dTn (cx.an 6)) (by kernel_rfl) (by kernel_rfl) (by kernel_rfl) cx (cx.init 1 _ rfl) rfl (nle rfl) (by kernel_rfl) rfl rfl rfl (fun σ β' X' hs hb hx=>by rw [hb 48]; exact hx)
  intro σ β X W49 hD hst49 fr hfr
  obtain ⟨A48_49,hu_A48_49⟩:∃ z,sA (β 48)=z:=⟨_,rfl⟩
  simp only [exq 3 ((dTn (hD 5 lq)).2),exq 4 ((dTn (hD 7 lq))),hu_A48_49] at hst49
  simp only [ed 48 ((dTn (hD 5 lq)).1),ed 49 ((dTn (hD 6 lq))),hu_A48_49] at hfr
  clear hD hu_A48_49; subst hfr; clear σ β X
  refine then_normal (wp_ret ?_)
  refine bpr (.tuple #[.agg #[vi k,vi l, .slice A48_49 ((plainL (withL ss m s)).length) ((plainL (withL ss m s)).length)],vi 0]) (results_2 Tryz.results102 (rpa (hst49.blk 3 rfl) 0 3) rpt) ?_
  exact PutPost.good (by rw [putErr,if_neg (by simp [*]),if_neg (by omega),if_neg (by rw [Int.toNat_natCast]; omega)]) ⟨_, _,by rw [Int.toNat_natCast],by rw [Int.toNat_natCast]; exact hst49.own' 2 rfl,hst49.ext⟩
 refine wp_cond_true (show Act.eval _ _= .bool true from (congrArg Value.bool (by rw [hs7]; rfl))) (wp_seq (sqr (sqp [.k 12 (.agg #[vi 0,vi 0, .slice none 0 0])] ?_)))
 refine sqst (n:=3) 1 #[vi 0,vi 0, .slice none 0 0] hst5 fun W51 hst51=>?_
 refine sqp [.k 7 (vi 22)] ?_
 refine then_normal (wp_ret (then_ret ?_))
 refine bpr (.tuple #[.agg #[vi 0,vi 0, .slice none 0 0],vi 22]) (results_2 Tryz.results102 (rpa (hst51.blk 1 rfl) 0 3) rpt) ?_
 exact PutPost.bad (by rw [putErr,if_pos (by assumption)]) (by decide) hst51.ext
theorem SbAt.is {w:World} {b:Nat} {r:Option Nat} {xs:List Value} (h:SbAt w b r xs):Lib.IsBuilderF 175 5 0 b xs w:=by
 obtain ⟨p,v,h2,h3,h4,h5⟩:=h
 have hne:=own_ne h4 h2 (by decide)
 refine Lib.IsBuilderF.of ?_
 rcases h3 with rfl | rfl
 ·exact .inl ⟨Nat.zero_le _,v,h2,h4,hne⟩
 ·exact .inr ⟨Nat.zero_le _,v,h2,h4,hne⟩
theorem sblen_l (b:Nat) (r:Option Nat) (l:List UInt8) (w:World) (h:SbAt w b r (Lib.byteCells l)):Calls Tryz.prog 124 #[.pointer (some ⟨b,0,none⟩)] w (Ret (.int .i64 (l.length:Int)) w):=
 (Tryz.Builder_Len_f 0 b _ w h.is).mono fun _ _ h=>⟨by rw [h.1,byteCells_len],by rw [h.2]; exact Ext.refl _⟩
theorem repeatL_zero (n:Nat):Lib.repeatL [0] n=List.replicate n (0:UInt8):=by
 induction n with
 | zero=>rfl
 | succ n ih=>rw [Lib.repeatL,ih,List.replicate_succ]; rfl
def zerosS (n:Nat):ByteArray:=⟨(List.replicate n (0:UInt8)).toArray⟩
theorem zerosS_l (n:Nat):(zerosS n).data.toList=List.replicate n 0:=rfl
theorem zerosS_size (n:Nat):(zerosS n).size=n:=by simp [zerosS,ByteArray.size]
theorem repz_any (n:Nat) (w:World) (h:n≤1000000):Calls Tryz.prog 123 #[.string ⟨#[0]⟩, .int .i64 (n:Int)] w (Ret (.string (zerosS n)) w):=by
 refine (Tryz.strings_Repeat ⟨#[0]⟩ n w (by omega) (by show 1*n≤ _; omega)).mono ?_
 rintro e w' ⟨rfl,hx⟩
 refine ⟨?_,hx⟩
 have e1:(⟨#[0]⟩:ByteArray).data.toList=[0]:=rfl
 rw [e1,repeatL_zero]; rfl
theorem repz_n (x:Int) (n:Nat) (w:World) (h:n≤1000000) (hx:x=n):Calls Tryz.prog 123 #[.string ⟨#[0]⟩, .int .i64 x] w (Ret (.string (zerosS n)) w):=by
 rw [hx]; exact repz_any n w h
theorem textO_le {s:ByteArray} (h:s.size≤400):(textO s).size≤402:=by
 have:=putS_size (s.size:Int) 2 (by omega)
 rw [textO,ByteArray.size_append,this]; omega
/-- a page's bytes, or none and the error -/
def BytesPost (k l:Int) (ss:List ByteArray) (w:World):Ending→World→Prop:=
 if rightB k l ss=true then Ret (.tuple #[.string (bytesF k l (plainL ss)), .int .i64 0]) w else Ret (.tuple #[.string ⟨#[]⟩, .int .i64 22]) w
theorem fin_bytes {k l:Int} {ss:List ByteArray} {w w':World} (hr:rightB k l ss=true) (hx:Ext w w'):BytesPost k l ss w (.returned (.tuple #[.string (putS (sumF (baOf (bodyL k l (plainL ss))):Int) 4++baOf (bodyL k l (plainL ss))), .int .i64 0])) w':=by
 rw [BytesPost,if_pos hr]; exact ⟨rfl,hx⟩
theorem pgbytes_any (k l:Int) (A:Option Addr) (c:Nat) (ss:List ByteArray) (w:World) (hA:At w A (ss.map Value.string)) (hS:Small ss):
  Calls Tryz.prog 56 #[.agg #[.int .i64 k, .int .i64 l, .slice A ss.length c]] w (BytesPost k l ss w):=by
 go_enter Tryz.func56,Tryz.ntmps56
 have hst0:=St.start w
 refine wp_seq (sqr ?_)
 refine sqbx #[vi k,vi l, .slice A ss.length c] hst0 fun B1_1 W1 hst1=>?_
 refine sqp [.k 2 (.string ⟨#[]⟩), .k 3 (vi 0)] ?_
 refine then_normal (wp_seq (wp_seq (sqr ?_)))
 refine sqlb 0 3 hst1 ?_
 refine sqk (.bool (rightB k l ss)) hst1 (fun cx=>⟨_,right_any k l _ _ ss _ (hA.ext cx.upd.to_ext) hS,(map1 (cx.ou 8))⟩) fun W5 hst5=>?_
 refine sqp [.k 10 (.bool (!(rightB k l ss)))] ?_
 refine then_normal ?_
 rcases Bool.eq_false_or_eq_true (rightB k l ss) with hs7 | hs7
 ·refine wp_cond_false (show Act.eval _ _= .bool false from (congrArg Value.bool (by rw [hs7]; rfl))) (wp_skip (then_normal (wp_seq (sqr (sqal #[.pointer none, .slice none 0 0] hst5 fun B4_8 W8 hst8=>?_)))))
  refine then_normal (wp_seq (sqr (sqp [.k 11 (.pointer (some ⟨B1_1,2,none⟩))] ?_)))
  refine sqld 0 hst8 ?_
  refine sqk1 (fun A13_11=> .slice A13_11 ((plainL ss).length) ((plainL ss).length)) (fun A13_11=>eO 9 1 (.slice A13_11 ((plainL ss).length) ((plainL ss).length)) ((plainL ss).length) ((plainL ss).map Value.string)) hst8 (fun cx=>⟨_,(plain_any _ _ ss _ (hA.ext cx.upd.to_ext) (by have h_:=(hS).1; omega)).mono (by rintro e W1 ⟨rfl,ho,hx⟩; exact ⟨_,rfl,St.one hx (eO_new ho)⟩),(map1 (cx.ou 12))⟩) fun A13_11 W11 hst11=>?_
  refine sqp [.m 5 13] ?_
  refine then_normal (wp_seq ?_)
  have hpar:=right_parts (by assumption:rightB k l ss=true)
  have hT:6+sizeT (plainL ss)≤504:=by have h_:=hpar.2.2.2; rw [sizeL] at h_; omega
  have hpn:(plainL ss).length≤24:=by rw [plainL_len]; exact Nat.le_trans (trimN_le ss _) hpar.2.2.1.1
  have hp1:=putS_size k 1 (by omega)
  have hp2:=putS_size l 4 (by omega)
  have hp3:=putS_size ((plainL ss).length:Int) 1 (by omega)
  have hp4:((putS k 1)++(putS l 4)).size=5:=by rw [ByteArray.size_append,hp1,hp2]
  have hp5:(((putS k 1)++(putS l 4))++(putS ((plainL ss).length:Int) 1)).size=6:=by rw [ByteArray.size_append,hp3,hp4]
  refine wp_region_Y [0,1,3,0,8,31,63,0,128,447,1023,2047] [[],[0],[],[],[0],[],[],[],[],[],[],[1]] [[],[],[],[],[],[],[],[],[],[],[],[3]] [[],[],[],[],[],[],[],[],[],[],[],[1]] [.k 14 (vp B1_1), .c 15 (vi k), .c 16 (.string (putS k 1)), .k 17 (.pointer (some ⟨B1_1,1,none⟩)), .c 18 (vi l), .c 19 (.string (putS l 4)),tS 20 (putS k 1) (putS l 4) (by omega), .k 21 (.slice A13_11 ((plainL ss).length) ((plainL ss).length)), .k 22 (vi (((plainL ss).length:Int))), .c 23 (.string (putS ((plainL ss).length:Int) 1)),tS 24 ((putS k 1)++(putS l 4)) (putS ((plainL ss).length:Int) 1) (by omega), .a 25] (fun ix σ β X=>match ix with | 0=>True | 1=>True | 2=>True | 3=>True | 4=>True | 5=>True | 6=>True | 7=>True | 8=>True | 9=>True | 10=>True | 11=>σ 25= .tuple #[vi (((((putS k 1)++(putS l 4))++(putS ((plainL ss).length:Int) 1)).size:Int)), .nilIface]∧X 3=eBu B4_8 (rO (X 3)) ((((putS k 1)++(putS l 4))++(putS ((plainL ss).length:Int) 1)).data.toList) | _=>True) [0,2,3] [1,2,4,5,9,11] [(14,0,12,26)] hst11 ?_ ?_ ?_
  ·exact fun ix _ _ _ _ _ _ hs hb hx h=>match ix,h with
   | 11,h=>by dsimp only; rw [← hs 25 rfl,← hx 3 rfl]; exact h
   | 0, _ | 1, _ | 2, _ | 3, _ | 4, _ | 5, _ | 6, _ | 7, _ | 8, _ | 9, _ | 10, _ | _+12, _=>trivial
  ·refine ⟨?_,?_,?_,?_,?_,?_,trivial⟩
   ·exact xs4 rfl id fun cx=>run_load1 rfl (by kernel_rfl) (cx.an 0) ((cx.bi 0 rfl).cell 0)
   ·exact xsc rfl id rfl rfl fun cx=>⟨_,oput1_any k _,(map2 (cx.an 1) (cx.co _))⟩
   ·exact xs4 rfl id fun cx=>run_load1 rfl (by kernel_rfl) (cx.an 3) ((cx.bi 0 rfl).cell 1)
   ·exact xsc rfl id rfl rfl fun cx=>⟨_,oput4_any l _,(map2 (cx.an 4) (cx.co _))⟩
   ·exact xsc rfl id rfl rfl fun cx=>⟨_,oput1_any ((plainL ss).length:Int) _,(map2 (cx.an 8) (cx.co _))⟩
   ·refine svA fun ρ β W X cx=>?_
    refine DoesU.call (run_callF (args:=#[vp B4_8, .string (((putS k 1)++(putS l 4))++(putS ((plainL ss).length:Int) 1))]) rfl cx.sees rfl (by kernel_rfl) (map2 (cx.ou 4) (cx.an 10))) ?_
    refine (sbw_l _ _ [] _ _ (SbAt.fresh (cx.bi 1 rfl)) (by simp only [List.length_append,List.length_nil,headL_len,itemsL_len,ByteArray.size_append,zerosS_size,zerosS_l,List.length_replicate]; omega)).mono ?_
    rintro e W1 ⟨rfl,hu⟩
    refine ⟨_,rfl,post_sb (by rw [(cx.init 1 _ rfl)]; rfl) rfl rfl hu (fun σ β' X' hs hb hv hx=>?_)⟩
    exact ⟨(hv 25 rfl).1,hx⟩
  intro σ β X W13 hD hst13 fr hfr
  have xX3:X 3= _:=(dTn (hD 11 lq)).2
  obtain ⟨r3_13,hu_r3_13⟩:∃ z,rO (X 3)=z:=⟨_,rfl⟩
  rw [hu_r3_13] at xX3
  clear hu_r3_13
  simp only [xX3] at hst13
  simp only [ed 25 ((dTn (hD 11 lq)).1)] at hfr
  clear hD xX3; subst hfr; clear σ β X
  refine then_normal (wp_seq (wp_seq (sqr (sqp [.m 26 5, .k 27 (vi (((plainL ss).length:Int))), .k 28 (vi 0)] ?_))))
  refine then_normal (wp_block ?_)
  have hh0:(((putS k 1)++(putS l 4))++(putS ((plainL ss).length:Int) 1)).data.toList=headL k l (plainL ss).length++itemsL ((plainL ss).take 0):=by simp [headL,itemsL,bl]
  rw [hh0] at hst13
  refine wp_loopT (fun t_ mz az W=>∃ j:Nat,∃ rb:Option Nat,j≤(plainL ss).length∧mz=(plainL ss).length - j∧az=⟨(ovr (jv az) [(7,7,1,[]),(20,28,0,[vi ((j:Int))]),(0,29,7,[])] t_).toArray,[]⟩∧St w [] [eB B1_1 48 #[vi k,vi l, .slice A ss.length c],eO 9 1 (.slice A13_11 ((plainL ss).length) ((plainL ss).length)) ((plainL ss).length) ((plainL ss).map Value.string),eBu B4_8 rb (headL k l (plainL ss).length++itemsL ((plainL ss).take j))] W) ((plainL ss).length - 0) ?_ ?_
  · -- the loop begins
    exact ⟨0,r3_13,by omega,rfl,(by kernel_rfl),hst13.pk [0,1,2]⟩
  rintro n17 a17 W17 ⟨j,rb,hj,rfl,hj_,hst17⟩
  refine ovz hj_ fun u17_=>?_
  have hil:=sizeT_take_le (plainL ss) j
  refine wp_seq (sqr (sqp [.k 29 (.bool (decide ((j:Int) < ((plainL ss).length:Int))))] ?_))
  refine then_normal (wp_seq (wds (fun hs19 hs19p=>?_) fun hs19 hs19p=>?_))
  ·refine wp_skip (then_normal (wp_seq (wp_block (wp_seq (sqr ?_)))))
   refine sql (.pointer (some ((ad A13_11).add j))) hst17 (fun cx=>run_indexSl (e:=9) (m:=j) rfl (by kernel_rfl) (by kernel_rfl) (cx.ou 26) (cx.ou 28) (by omega) (by omega) (At.of_own (cx.ri 1 rfl)) (by simp)) ?_
   refine sql (.string (((plainL ss)).getD j ByteArray.empty)) hst17 (fun cx=>run_load1 rfl (by kernel_rfl) (cx.ou 30) (At.cellAd (At.of_own (cx.ri 1 rfl)) (getD_str (by omega)))) ?_
   refine sqp [.m 7 31] ?_
   refine then_normal ?_
   have hx4:((plainL ss).getD j ByteArray.empty).size≤400:=by have h_:=hpar.2.2.1.2 ((plainL ss)[j]'(by omega)) (List.mem_of_mem_take (List.getElem_mem _)); simpa [show j < (plainL ss).length by omega] using h_
   have hto:=textO_le hx4
   refine sqr (sqp [.m 32 7] ?_)
   refine sqk (.string (textO (((plainL ss)).getD j ByteArray.empty))) hst17 (fun cx=>⟨_,otext_any (((plainL ss)).getD j ByteArray.empty) _ (by omega),(map1 (cx.ou 32))⟩) fun W24 hst24=>?_
   refine sqc0s (fun X_=>rO X_) (.tuple #[vi (((textO (((plainL ss)).getD j ByteArray.empty)).size:Int)), .nilIface]) (fun r3_25=>eBu B4_8 r3_25 ((headL k l (plainL ss).length++itemsL ((plainL ss).take j))++(textO (((plainL ss)).getD j ByteArray.empty)).data.toList)) 2 hst24 (by
     refine svA fun ρ β W X cx=>?_
     refine DoesU.call (run_callF (args:=#[vp B4_8, .string (textO (((plainL ss)).getD j ByteArray.empty))]) rfl cx.sees rfl (by kernel_rfl) (map2 (cx.ou 4) (cx.ou 33))) ?_
     refine (sbw_l _ _ (headL k l (plainL ss).length++itemsL ((plainL ss).take j)) _ _ (cx.sb (cx.init 2 _ rfl) rfl) (by simp only [List.length_append,List.length_nil,headL_len,itemsL_len,ByteArray.size_append,zerosS_size,zerosS_l,List.length_replicate]; omega)).mono ?_
     rintro e W1 ⟨rfl,hu⟩
     refine ⟨_,rfl,post_sb (by rw [(cx.init 2 _ rfl)]; rfl) rfl rfl hu (fun σ β' X' hs hb hv hx=>?_)⟩
     exact ⟨(hv 34 rfl).1,hx⟩) fun r3_25 W25 hst25=>?_
   refine blk_normal (then_normal (sqr (sqp [sI 35 ((j:Int)+1) (by omega), .m 28 35] ?_)))
   refine then_normal ?_
   have hq28:(headL k l (plainL ss).length++itemsL ((plainL ss).take j))++(textO (((plainL ss)).getD j ByteArray.empty)).data.toList=headL k l (plainL ss).length++itemsL ((plainL ss).take (j+1)):=by rw [itemsL_snoc _ j (by omega),← List.append_assoc]; simp [bl,textO,textB,show j < (plainL ss).length by omega]
   rw [hq28] at hst25
   refine ⟨(plainL ss).length - ((j+1)),by omega,?_⟩
   exact ⟨(j+1),r3_25,by omega,rfl,(by kernel_rfl),hst25.pk [0,1,2]⟩
  refine wp_exit (then_exit (then_exit (blk_eq (then_normal (wp_seq ?_)))))
  have hje:j=(plainL ss).length:=by omega
  have hq29:headL k l (plainL ss).length++itemsL ((plainL ss).take j)=headL k l (plainL ss).length++itemsL (plainL ss):=by rw [hje,List.take_length]
  rw [hq29] at hst17
  have hL6:(headL k l (plainL ss).length++itemsL (plainL ss)).length=6+sizeT (plainL ss):=by rw [List.length_append,headL_len,itemsL_len]
  refine sqr (sqk (vi (((headL k l (plainL ss).length++itemsL (plainL ss)).length:Int))) hst17 (fun cx=>⟨_,sblen_l _ _ (headL k l (plainL ss).length++itemsL (plainL ss)) _ (cx.sb (cx.init 2 _ rfl) rfl),(map1 (cx.ou 4))⟩) fun W30 hst30=>?_)
  refine sqp [sI 37 (504 - ((headL k l (plainL ss).length++itemsL (plainL ss)).length:Int)) (by omega)] ?_
  refine sqk (.string (zerosS (504 - (6+sizeT (plainL ss))))) hst30 (fun cx=>⟨_,repz_n (504 - ((headL k l (plainL ss).length++itemsL (plainL ss)).length:Int)) (504 - (6+sizeT (plainL ss))) _ (by omega) (by simp only [List.length_append,headL_len,itemsL_len]; omega),(map2 (cx.co _) (cx.ou 37))⟩) fun W32 hst32=>?_
  refine sqc0s (fun X_=>rO X_) (.tuple #[vi (((zerosS (504 - (6+sizeT (plainL ss)))).size:Int)), .nilIface]) (fun r3_33=>eBu B4_8 r3_33 ((headL k l (plainL ss).length++itemsL (plainL ss))++(zerosS (504 - (6+sizeT (plainL ss)))).data.toList)) 2 hst32 (by
    refine svA fun ρ β W X cx=>?_
    refine DoesU.call (run_callF (args:=#[vp B4_8, .string (zerosS (504 - (6+sizeT (plainL ss))))]) rfl cx.sees rfl (by kernel_rfl) (map2 (cx.ou 4) (cx.ou 38))) ?_
    refine (sbw_l _ _ (headL k l (plainL ss).length++itemsL (plainL ss)) _ _ (cx.sb (cx.init 2 _ rfl) rfl) (by simp only [List.length_append,List.length_nil,headL_len,itemsL_len,ByteArray.size_append,zerosS_size,zerosS_l,List.length_replicate]; omega)).mono ?_
    rintro e W1 ⟨rfl,hu⟩
    refine ⟨_,rfl,post_sb (by rw [(cx.init 2 _ rfl)]; rfl) rfl rfl hu (fun σ β' X' hs hb hv hx=>?_)⟩
    exact ⟨(hv 39 rfl).1,hx⟩) fun r3_33 W33 hst33=>?_
  refine then_normal (wp_seq (sqr (sqp [.k 40 (.pointer (some ⟨B1_1,1,none⟩))] ?_)))
  refine sqld 0 hst33 ?_
  refine sqk (.string (putS l 4)) hst33 (fun cx=>⟨_,oput4_any l _,(map2 (cx.ou 41) (cx.co _))⟩) fun W36 hst36=>?_
  refine sqc0s (fun X_=>rO X_) (.tuple #[vi (((putS l 4).size:Int)), .nilIface]) (fun r3_37=>eBu B4_8 r3_37 (((headL k l (plainL ss).length++itemsL (plainL ss))++(zerosS (504 - (6+sizeT (plainL ss)))).data.toList)++(putS l 4).data.toList)) 2 hst36 (by
    refine svA fun ρ β W X cx=>?_
    refine DoesU.call (run_callF (args:=#[vp B4_8, .string (putS l 4)]) rfl cx.sees rfl (by kernel_rfl) (map2 (cx.ou 4) (cx.ou 42))) ?_
    refine (sbw_l _ _ ((headL k l (plainL ss).length++itemsL (plainL ss))++(zerosS (504 - (6+sizeT (plainL ss)))).data.toList) _ _ (cx.sb (cx.init 2 _ rfl) rfl) (by simp only [List.length_append,List.length_nil,headL_len,itemsL_len,ByteArray.size_append,zerosS_size,zerosS_l,List.length_replicate]; omega)).mono ?_
    rintro e W1 ⟨rfl,hu⟩
    refine ⟨_,rfl,post_sb (by rw [(cx.init 2 _ rfl)]; rfl) rfl rfl hu (fun σ β' X' hs hb hv hx=>?_)⟩
    exact ⟨(hv 43 rfl).1,hx⟩) fun r3_37 W37 hst37=>?_
  refine then_normal (wp_seq ?_)
  have hq38:((headL k l (plainL ss).length++itemsL (plainL ss))++(zerosS (504 - (6+sizeT (plainL ss)))).data.toList)++(putS l 4).data.toList=bodyL k l (plainL ss):=rfl
  rw [hq38] at hst37
  have hbl:=bodyL_len k l (plainL ss) hT
  have hbne:bodyL k l (plainL ss)≠[]:=fun h=>by rw [h] at hbl; simp at hbl
  have hsl:=sumF_lt (baOf (bodyL k l (plainL ss)))
  have hp7:=putS_size (sumF (baOf (bodyL k l (plainL ss))):Int) 4 (by omega)
  have hp8:(baOf (bodyL k l (plainL ss))).size=508:=by rw [baOf_size,hbl]
  refine sqr ?_
  refine sqc0 (.string (baOf (bodyL k l (plainL ss)))) (eZb B4_8 r3_37 (bodyL k l (plainL ss))) 2 hst37 (by
    refine svA fun ρ β W X cx=>?_
    refine DoesU.call (run_callF (args:=#[vp B4_8]) rfl cx.sees rfl (by kernel_rfl) (map1 (cx.ou 4))) ?_
    refine (sbstr_z _ _ (bodyL k l (plainL ss)) _ (SbAt.z (cx.sb (cx.init 2 _ rfl) rfl) hbne) hbne (by omega)).mono ?_
    rintro e W1 ⟨rfl,hz,hu⟩
    refine ⟨_,rfl,post_chg (E:=eBu B4_8 r3_37 (bodyL k l (plainL ss))) (E':=eZb B4_8 r3_37 (bodyL k l (plainL ss))) (cx.init 2 _ rfl) rfl rfl hu hz (eZb_loc _ _ _) (fun k hk=>⟨hk,hz.lt k hk⟩) (fun σ β' X' hs hb hv hx=>?_)⟩
    exact ⟨(hv 44 rfl).1,hx⟩) fun W39 hst39=>?_
  refine sqk (.int .u32 ((sumF (baOf (bodyL k l (plainL ss))):Int))) hst39 (fun cx=>⟨_,osum_any (baOf (bodyL k l (plainL ss))) _ (by rw [baOf_size]; omega),(map1 (cx.ou 44))⟩) fun W40 hst40=>?_
  refine sqp [sW 46 .i64 (sumF (baOf (bodyL k l (plainL ss))):Int) (sumF (baOf (bodyL k l (plainL ss))):Int) (IntWalk.i64_in _ (by omega))] ?_
  refine sqk (.string (putS (sumF (baOf (bodyL k l (plainL ss))):Int) 4)) hst40 (fun cx=>⟨_,oput4_any (sumF (baOf (bodyL k l (plainL ss))):Int) _,(map2 (cx.ou 46) (cx.co _))⟩) fun W42 hst42=>?_
  refine sqc0 (.string (baOf (bodyL k l (plainL ss)))) (eZb B4_8 r3_37 (bodyL k l (plainL ss))) 2 hst42 (by
    refine svA fun ρ β W X cx=>?_
    refine DoesU.call (run_callF (args:=#[vp B4_8]) rfl cx.sees rfl (by kernel_rfl) (map1 (cx.ou 4))) ?_
    refine (sbstr_z _ _ (bodyL k l (plainL ss)) _ (cx.z (cx.init 2 _ rfl) rfl) hbne (by omega)).mono ?_
    rintro e W1 ⟨rfl,hz,hu⟩
    refine ⟨_,rfl,post_chg (E:=eZb B4_8 r3_37 (bodyL k l (plainL ss))) (E':=eZb B4_8 r3_37 (bodyL k l (plainL ss))) (cx.init 2 _ rfl) rfl rfl hu hz (eZb_loc _ _ _) (fun k hk=>⟨hk,hz.lt k hk⟩) (fun σ β' X' hs hb hv hx=>?_)⟩
    exact ⟨(hv 48 rfl).1,hx⟩) fun W43 hst43=>?_
  refine sqp [sS 49 (putS (sumF (baOf (bodyL k l (plainL ss))):Int) 4) (baOf (bodyL k l (plainL ss))) (by omega), .m 2 49, .k 3 (vi 0)] ?_
  refine then_normal (wp_ret ?_)
  refine bpr (.tuple #[.string ((putS (sumF (baOf (bodyL k l (plainL ss))):Int) 4)++(baOf (bodyL k l (plainL ss)))),vi 0]) (results_2 Tryz.results56 rpt rpt) ?_
  exact fin_bytes (by assumption) hst43.ext
 refine wp_cond_true (show Act.eval _ _= .bool true from (congrArg Value.bool (by rw [hs7]; rfl))) (wp_seq (sqr (sqp [.k 2 (.string ⟨#[]⟩), .k 3 (vi 22)] ?_)))
 refine then_normal (wp_ret (then_ret ?_))
 refine bpr (.tuple #[.string ⟨#[]⟩,vi 22]) (results_2 Tryz.results56 rpt rpt) ?_
 show BytesPost k l ss w _ _; rw [BytesPost,hs7]; exact ⟨rfl,hst5.ext⟩
/-- what the bytes of a right page say -/
structure Says (s:ByteArray) (k l:Int) (I:List ByteArray):Prop where
 size:s.size=512
 sum:numS s 0 4=sumF (s.extract 4 512)
 lsn2:s.extract 5 9=s.extract 508 512
 kind:(numS s 4 1:Int)=k
 lsn:(numS s 5 4:Int)=l
 many:numS s 9 1=I.length
 text:∀ j,j < I.length→10+sizeT (I.take j)+2≤s.size∧10+sizeT (I.take j)+2+numS s (10+sizeT (I.take j)) 2≤s.size∧textS s (10+sizeT (I.take j))=I.getD j ByteArray.empty∧10+sizeT (I.take j)+2+numS s (10+sizeT (I.take j)) 2=10+sizeT (I.take (j+1))
 right:rightB k l I=true
 bytes:bytesF k l (plainL I)=s
 plain:plainL I=I
theorem right_plain {k l:Int} {ss:List ByteArray} (hr:rightB k l ss=true):rightB k l (plainL ss)=true:=by
 obtain ⟨hk,hl,⟨h24,h400⟩,h512⟩:=right_parts hr
 have hln:(plainL ss).length≤24:=by rw [plainL_len]; have:=trimN_le ss ss.length; omega
 have hz:sizeL (plainL ss)=sizeL ss:=by rw [sizeL,plain_plain,sizeL]
 have hlg:longB (plainL ss)=false:=by
  rcases h:longB (plainL ss) with _ | _
  ·rfl
  ·rw [longB,List.any_eq_true] at h
   obtain ⟨x,hx,h⟩:=h
   have:=h400 x (List.mem_of_mem_take hx)
   simp at h; omega
 simp [rightB,hk,hl,hln,hlg,hz,h512]
theorem says_bytes {k l:Int} {ss:List ByteArray} (hr:rightB k l ss=true):Says (bytesF k l (plainL ss)) k l (plainL ss):=by
 obtain ⟨hk,hl,⟨h24,h400⟩,h512⟩:=right_parts hr
 have hT:6+sizeT (plainL ss)≤504:=by rw [sizeL] at h512; omega
 have hln:(plainL ss).length≤24:=by rw [plainL_len]; have:=trimN_le ss ss.length; omega
 refine ⟨bytesF_size k l _ hT,by rw [bytes_sum,bytes_rest k l _ hT],by rw [bytes_lsn_s,bytes_end k l _ hT],bytes_kind k l _ hk.1 (by omega),bytes_lsn k l _ hl.1 (by omega),bytes_many k l _ (by omega),fun j hj=>?_,right_plain hr,by rw [plain_plain],plain_plain ss⟩
 have h:=bytes_text k l _ hT j hj
 exact ⟨h.1,h.2.1,by rw [h.2.2.1]; simp [hj],h.2.2.2⟩
theorem numS_lt4 (s:ByteArray) (p:Nat):numS s p 4 < 4294967296:=by
 have h:=numL_lt (s.extract p (p+4)).data.toList
 have h2:(s.extract p (p+4)).data.toList.length≤4:=by
  have:(s.extract p (p+4)).size≤4:=by rw [ByteArray.size_extract]; omega
  show (bl (s.extract p (p+4))).length≤4
  rw [bl_len]; exact this
 have h3:(256:Nat) ^ (s.extract p (p+4)).data.toList.length≤256 ^ 4:=Nat.pow_le_pow_right (by omega) h2
 unfold numS
 omega
theorem pgbytes_s {s:ByteArray} {k l:Int} {I:List ByteArray} (h:Says s k l I) (A:Option Addr) (c:Nat) (w:World) (hA:At w A (I.map Value.string)) (hS:Small I):Calls Tryz.prog 56 #[.agg #[.int .i64 k, .int .i64 l, .slice A I.length c]] w (Ret (.tuple #[.string s, .int .i64 0]) w):=by
 have h2:=pgbytes_any k l A c I w hA hS
 rw [BytesPost,if_pos h.right,h.bytes] at h2
 exact h2
theorem rd_snoc {I:List ByteArray} {j:Nat} (h:j < I.length):(I.take j).map Value.string++[.string (I.getD j ByteArray.empty)]=(I.take (j+1)).map Value.string:=by
 rw [List.take_succ_eq_append_getElem h,List.map_append]; simp [h]
theorem chk_ok {s:ByteArray} {k l:Int} {I:List ByteArray} (hh:Says s k l I):(((numS s 0 4:Int) != (sumF (s.extract 4 s.size):Int))||(!((s.extract 5 9).toList==(s.extract 508 s.size).toList)))=false:=by
 rw [hh.size,hh.sum,hh.lsn2]; simp
theorem pgread_s (s:ByteArray) (k l:Int) (I:List ByteArray) (w:World) (hh:Says s k l I):
  Calls Tryz.prog 44 #[.string s] w (PgPost k l (plainL I) 0 w):=by
 have hsz:=hh.size
 have hn4:=numS_lt4 s 0
 have hS:Small I:=right_small hh.right
 have hTI:sizeT I≤498:=by have h:=(right_parts hh.right).2.2.2; rw [sizeL,hh.plain] at h; omega
 have hI24:I.length≤24:=(right_parts hh.right).2.2.1.1
 go_enter Tryz.func44,Tryz.ntmps44
 have hst0:=St.start w
 refine wp_seq (sqr (sqal #[vi 0,vi 0, .slice none 0 0] hst0 fun B2_1 W1 hst1=>?_))
 refine sqp [.k 3 (vi 0)] ?_
 refine then_normal (wp_seq (wp_seq (sqr (sqp [.m 9 0, .k 10 (vi ((s.size:Int))), .k 11 (.bool ((s.size:Int) != 512))] ?_))))
 refine then_normal (wbs (fun hs6=>?_) fun hs6=>?_)
 ·have hs6p:=bne_iff_ne.1 hs6
  refine wp_seq (sqr (sqp [.k 12 (.agg #[vi 0,vi 0, .slice none 0 0])] ?_))
  refine sqst (n:=3) 0 #[vi 0,vi 0, .slice none 0 0] hst1 fun W8 hst8=>?_
  refine sqp [.k 3 (vi 11)] ?_
  refine then_normal (wp_ret (then_ret ?_))
  refine bpr (.tuple #[.agg #[vi 0,vi 0, .slice none 0 0],vi 11]) (results_2 Tryz.results44 (rpa (hst8.blk 0 rfl) 0 3) rpt) ?_
  exact absurd ‹((s.size:Int) != 512)=true› (by simp [hsz])
 have hs6p:=bne_eq_false_iff_eq.1 hs6
 refine wp_skip (then_normal (wp_seq (sqr (sqp [.m 13 0] ?_))))
 refine sqk1 (fun B14_11=>vp B14_11) (fun B14_11=>eB B14_11 193 #[.string s,vi 0, .bool false]) hst1 (fun cx=>⟨_,(oread_b s _).mono (by rintro e W1 ⟨B4,rfl,⟨hb4,hw4⟩,hx⟩; exact ⟨_,rfl,St.one hx ⟨hb4,eB_loc _ _ _,fun k hk=>by simp [eB] at hk; subst hk; exact ⟨hw4,hb4.lt⟩⟩⟩),(map1 (cx.ou 13))⟩) fun B14_11 W11 hst11=>?_
 refine sqp [.m 4 14] ?_
 refine then_normal (wp_seq (sqr (sqp [.m 15 4] ?_)))
 refine sqkm (vi ((numS s 0 4:Int))) 1 #[.string s,vi 4, .bool false] hst11 (fun cx=>⟨_,(num_ok _ s 0 4 _ ⟨(cx.bi 1 rfl),by omega,by omega⟩ (by omega) (by omega)).mono (by rintro e W1 ⟨rfl,hrd,hu⟩; exact ⟨rfl,hu,hrd.1⟩),(map2 (cx.ou 15) (cx.co _))⟩) fun W14 hst14=>?_
 refine sqp [.m 5 16] ?_
 refine then_normal (wp_seq (sqr (sqp [.m 17 4] ?_)))
 refine sqc0 (vi k) (eB B14_11 193 #[.string s,vi 5, .bool false]) 1 hst14 (by
   refine svA fun ρ β W X cx=>?_
   refine DoesU.call (run_callF (args:=#[vp B14_11,vi 1]) rfl cx.sees rfl (by kernel_rfl) (map2 (cx.ou 17) (cx.co _))) ?_
   refine (num_ok _ s 4 1 _ ⟨(cx.bi 1 rfl),by omega,by omega⟩ (by omega) (by omega)).mono ?_
   rintro e W1 ⟨rfl,hrd,hu⟩
   refine ⟨_,rfl,post_mut (cx.init 1 _ rfl) rfl rfl hu hrd.1 (fun σ β' X' hs hb hv hx=>?_)⟩
   exact ⟨(hv 18 rfl).1.trans (congrArg (Value.int .i64) hh.kind),hx⟩) fun W17 hst17=>?_
 refine sqp [.m 19 4] ?_
 refine sqc0 (vi l) (eB B14_11 193 #[.string s,vi 9, .bool false]) 1 hst17 (by
   refine svA fun ρ β W X cx=>?_
   refine DoesU.call (run_callF (args:=#[vp B14_11,vi 4]) rfl cx.sees rfl (by kernel_rfl) (map2 (cx.ou 19) (cx.co _))) ?_
   refine (num_ok _ s 5 4 _ ⟨(cx.bi 1 rfl),by omega,by omega⟩ (by omega) (by omega)).mono ?_
   rintro e W1 ⟨rfl,hrd,hu⟩
   refine ⟨_,rfl,post_mut (cx.init 1 _ rfl) rfl rfl hu hrd.1 (fun σ β' X' hs hb hv hx=>?_)⟩
   exact ⟨(hv 20 rfl).1.trans (congrArg (Value.int .i64) hh.lsn),hx⟩) fun W19 hst19=>?_
 refine sqp [.k 21 (.agg #[vi k,vi l, .slice none 0 0])] ?_
 refine sqal #[vi 0,vi 0, .slice none 0 0] hst19 fun B6_21 W21 hst21=>?_
 refine sqst (n:=3) 2 #[vi k,vi l, .slice none 0 0] hst21 fun W22 hst22=>?_
 refine then_normal (wp_seq (wp_seq (wp_region_Z [0,1,0,4,12,31,63,127,255,127,639,2047,4095] [] [.k 22 (vi ((numS s 0 4:Int))),tW 23 .u32 (numS s 0 4:Int) (numS s 0 4:Int) (IntWalk.u32_in _ (by omega)), .k 24 (.string s), .c 25 (.string (s.extract 4 s.size)), .c 26 (.int .u32 ((sumF (s.extract 4 s.size):Int))), .k 27 (.bool ((numS s 0 4:Int) != (sumF (s.extract 4 s.size):Int))), .k 28 (.bool ((numS s 0 4:Int) != (sumF (s.extract 4 s.size):Int))), .z 29 (!((numS s 0 4:Int) != (sumF (s.extract 4 s.size):Int))) (.string s), .y 30 (!((numS s 0 4:Int) != (sumF (s.extract 4 s.size):Int))) (.string (s.extract 5 9)), .z 31 (!((numS s 0 4:Int) != (sumF (s.extract 4 s.size):Int))) (.string s), .y 32 (!((numS s 0 4:Int) != (sumF (s.extract 4 s.size):Int))) (.string (s.extract 508 s.size)), .y 33 (!((numS s 0 4:Int) != (sumF (s.extract 4 s.size):Int))) (.bool (!((s.extract 5 9).toList==(s.extract 508 s.size).toList))),tO 34 ((numS s 0 4:Int) != (sumF (s.extract 4 s.size):Int)) (!((s.extract 5 9).toList==(s.extract 508 s.size).toList))] [0,1,2] [3,4,8,10,11] [(22,0,13,35)] hst22 ?_ fun W23 hst23=>?_)))
 ·refine ⟨?_,?_,?_,?_,?_,trivial⟩
  ·exact xs4 rfl id fun cx=>run_slice_lo (l:=4) rfl (by kernel_rfl) (cx.an 2) (cx.co _) (by omega) (by omega)
  ·exact xsc rfl id rfl rfl fun cx=>⟨_,osum_any (s.extract 4 s.size) _ (by simp; omega),(map1 (cx.an 3))⟩
  ·exact m2 rfl (fun _ _ _ h=>h) (fun cx=>(cx.an 6)) fun cx hq=>run_slice_lh (l:=5) (m:=9) rfl (by kernel_rfl) (mbv (cx.an 7) hq) (cx.co _) (cx.co _) (by have hq_:=hq; simp only [zB] at hq_; omega) (by have hq_:=hq; simp only [zB] at hq_; omega) (by have hq_:=hq; simp only [zB] at hq_; omega) (by have hq_:=hq; simp only [zB] at hq_; omega)
  ·exact m2 rfl (fun _ _ _ h=>h) (fun cx=>(cx.an 6)) fun cx hq=>run_slice_lo (l:=508) rfl (by kernel_rfl) (mbv (cx.an 9) hq) (cx.co _) (by have hq_:=hq; simp only [zB] at hq_; omega) (by have hq_:=hq; simp only [zB] at hq_; omega)
  ·exact m2 rfl (fun _ _ _ h=>h) (fun cx=>(cx.an 6)) fun cx hq=>run_strne rfl (mbv (cx.an 8) hq) (mbv (cx.an 10) hq)
 refine then_normal (wbs (fun hs24=>?_) fun hs24=>?_)
 ·have hs24p:=hs24
  simp only [zB] at hs24p
  refine wp_seq (sqr (sqp [.k 35 (.agg #[vi 0,vi 0, .slice none 0 0])] ?_))
  refine sqst (n:=3) 0 #[vi 0,vi 0, .slice none 0 0] hst23 fun W26 hst26=>?_
  refine sqp [.k 3 (vi 12)] ?_
  refine then_normal (wp_ret (then_ret ?_))
  refine bpr (.tuple #[.agg #[vi 0,vi 0, .slice none 0 0],vi 12]) (results_2 Tryz.results44 (rpa (hst26.blk 0 rfl) 0 3) rpt) ?_
  exact absurd ((chk_ok hh).symm.trans (by assumption)) (by decide)
 have hs24p:=hs24
 simp only [zB] at hs24p
 obtain ⟨hs24p1,hs24p2⟩:=hs24p
 refine wp_skip (then_normal (wp_seq (wp_seq (sqr (sqp [.m 36 4] ?_)))))
 refine sqc0 (vi ((I.length:Int))) (eB B14_11 193 #[.string s,vi 10, .bool false]) 1 hst23 (by
   refine svA fun ρ β W X cx=>?_
   refine DoesU.call (run_callF (args:=#[vp B14_11,vi 1]) rfl cx.sees rfl (by kernel_rfl) (map2 (cx.ou 36) (cx.co _))) ?_
   refine (num_ok _ s 9 1 _ ⟨(cx.bi 1 rfl),by omega,by omega⟩ (by omega) (by omega)).mono ?_
   rintro e W1 ⟨rfl,hrd,hu⟩
   refine ⟨_,rfl,post_mut (cx.init 1 _ rfl) rfl rfl hu hrd.1 (fun σ β' X' hs hb hv hx=>?_)⟩
   exact ⟨(hv 37 rfl).1.trans (congrArg (fun n:Nat=>Value.int .i64 (n:Int)) hh.many),hx⟩) fun W29 hst29=>?_
 refine sqp [.k 38 (vi 0)] ?_
 refine then_normal (wp_block ?_)
 have hn31:=St.nilrow hst29 9
 simp only [List.cons_append,List.nil_append] at hn31
 refine wp_loopT (fun t_ mz az W=>∃ j:Nat,∃ A:Option Addr,∃ c:Nat,j≤I.length∧mz=I.length - j∧az=⟨(ovr (jv az) [(38,38,0,[vi ((j:Int))]),(0,39,9,[])] t_).toArray,[]⟩∧St w [] [eB B2_1 48 #[vi 0,vi 0, .slice none 0 0],eB B14_11 193 #[.string s,vi (((10+sizeT (I.take j):Nat):Int)), .bool false],eB B6_21 48 #[vi k,vi l, .slice A j c],eO 9 1 (.slice A j c) j ((I.take j).map Value.string)] W) (I.length - 0) ?_ ?_
 · -- the loop begins
   exact ⟨0,none,0,by omega,rfl,(by kernel_rfl),hn31.pk [0,1,2,3]⟩
 rintro n32 a32 W32 ⟨j,A,c,hj,rfl,hj_,hst32⟩
 refine ovz hj_ fun u32_=>?_
 refine wp_seq (sqr (sqp [.k 39 (.bool (decide ((j:Int) < (I.length:Int))))] ?_))
 refine then_normal (wp_seq (wds (fun hs34 hs34p=>?_) fun hs34 hs34p=>?_))
 ·refine wp_skip (then_normal (wp_seq (wp_block ?_)))
  have htj:=hh.text j (by omega)
  refine wp_region_Y [0,1,0,4,12,31,63,127] [[],[2],[],[1],[],[5,3],[],[2]] [[],[],[],[4],[5],[6],[],[7]] [[],[],[],[1],[],[3],[],[2]] [.k 40 (.pointer (some ⟨B6_21,2,none⟩)), .c 41 (.slice A j c), .k 42 (vp B14_11), .a 43, .a 44, .a 45, .k 46 (.pointer (some ⟨B6_21,2,none⟩)), .n] (fun ix σ β X=>match ix with | 0=>True | 1=>True | 2=>True | 3=>σ 43= .string ((I.getD j ByteArray.empty))∧X 4=eB B14_11 193 #[.string s,vi (((10+sizeT (I.take (j+1)):Nat):Int)), .bool false] | 4=>σ 44= .slice (sA (β 44)) 1 1∧X 5=eO 9 1 (.slice (sA (β 44)) 1 1) 1 ([.string ((I.getD j ByteArray.empty))]) | 5=>σ 45= .slice (sA (β 45)) (j+1) (sC (β 45))∧X 6=eO 9 1 (.slice (sA (β 45)) (j+1) (sC (β 45))) (j+1) ((I.take (j+1)).map Value.string) | 6=>True | 7=>X 7=eB B6_21 48 #[vi k,vi l, .slice (sA (β 45)) (j+1) (sC (β 45))] | _=>True) [0,4,5,6,7] [1,3,4,5,7] [(40,0,7,47)] hst32 ?_ ?_ ?_
  ·exact fun ix _ _ _ _ _ _ hs hb hx h=>match ix,h with
   | 3,h=>by dsimp only; rw [← hs 43 rfl,← hx 4 rfl]; exact h
   | 4,h=>by dsimp only; rw [← hs 44 rfl,← hb 44 rfl,← hx 5 rfl]; exact h
   | 5,h=>by dsimp only; rw [← hs 45 rfl,← hb 45 rfl,← hx 6 rfl]; exact h
   | 7,h=>by dsimp only; rw [← hb 45 rfl,← hx 7 rfl]; exact h
   | 0, _ | 1, _ | 2, _ | 6, _ | _+8, _=>trivial
  ·refine ⟨?_,?_,?_,?_,?_,trivial⟩
   ·exact xs4 rfl id fun cx=>run_load1 rfl (by kernel_rfl) (cx.an 0) ((cx.bi 2 rfl).cell 2)
   ·refine svA fun ρ β W X cx=>?_
    refine DoesU.call (run_callF (args:=#[vp B14_11]) rfl cx.sees rfl (by kernel_rfl) (map1 (cx.an 2))) ?_
    refine (text_ok _ s (10+sizeT (I.take j)) _ ⟨(cx.bi 1 rfl),by omega,by omega⟩ htj.1 htj.2.1).mono ?_
    rintro e W1 ⟨rfl,hrd,hu⟩
    have hb9:=hrd.1
    rw [htj.2.2.2] at hb9
    refine ⟨_,rfl,post_mut (cx.init 1 _ rfl) rfl rfl hu hb9 (fun σ β' X' hs hb hv hx=>?_)⟩
    exact ⟨(hv 43 rfl).1.trans (congrArg Value.string htj.2.2.1),hx⟩
   ·refine svA fun ρ β W X cx=>?_
    have fF43:ρ (.tmp 43)= .string ((I.getD j ByteArray.empty)):=(dTn (cx.an 3)).1
    exact dv_lit (e:=9) (xs:=[.string ((I.getD j ByteArray.empty))]) rfl (by simp [go_sem,fF43]) rfl (by decide) rfl rfl (fun σ β' X' hs hb hv hx=>⟨hv,hx⟩)
   ·refine svA fun ρ β W X cx=>?_
    obtain ⟨i0,hi0,hz0,hz1,hz2⟩:=info_parts Tryz.infoStr
    refine dv_append (n:=j) (m:=1) (nm:=j+1) (xs:=(I.take j).map Value.string) (news:=[.string ((I.getD j ByteArray.empty))]) (xs':=(I.take (j+1)).map Value.string) rfl (ty:=46) rfl (by kernel_rfl) hi0 hz0 hz1 hz2 rfl (cx.an 1) cx (cx.init 3 _ rfl) rfl (dTn (cx.an 4)).1 (by first | (simp; done) | (simp; omega)) (At.of_own (cx.row (dTn (cx.an 4)).2 rfl)) (by simp [Value.oneCell']) (by simp only [maxLen]; omega) (by omega) rfl rfl rfl (by omega) (rd_snoc (by omega)) (fun σ β' X' hs hb hv hx=>?_)
    exact ⟨hv,hx⟩
   ·refine svA fun ρ β W X cx=>?_
    exact dv_store (n:=1) rfl (cx.an 6) (dTn (cx.an 5)).1 (by kernel_rfl) (by kernel_rfl) (by kernel_rfl) cx (cx.init 2 _ rfl) rfl (nle rfl) (by kernel_rfl) rfl rfl rfl (fun σ β' X' hs hb hx=>by rw [hb 45]; exact hx)
  intro σ β X W35 hD hst35 fr hfr
  obtain ⟨A44_35,hu_A44_35⟩:∃ z,sA (β 44)=z:=⟨_,rfl⟩
  obtain ⟨A45_35,hu_A45_35⟩:∃ z,sA (β 45)=z:=⟨_,rfl⟩
  obtain ⟨c45_35,hu_c45_35⟩:∃ z,sC (β 45)=z:=⟨_,rfl⟩
  simp only [exq 4 ((dTn (hD 3 lq)).2),exq 5 ((dTn (hD 4 lq)).2),exq 6 ((dTn (hD 5 lq)).2),exq 7 ((dTn (hD 7 lq))),hu_A44_35,hu_A45_35,hu_c45_35] at hst35
  simp only [ed 43 ((dTn (hD 3 lq)).1),ed 44 ((dTn (hD 4 lq)).1),ed 45 ((dTn (hD 5 lq)).1),hu_A44_35,hu_A45_35,hu_c45_35] at hfr
  clear hD hu_A44_35 hu_A45_35 hu_c45_35; subst hfr; clear σ β X
  refine blk_normal (then_normal (sqr (sqp [sI 47 ((j:Int)+1) (by omega), .m 38 47] ?_)))
  refine then_normal ?_
  refine ⟨I.length - ((j+1)),by omega,?_⟩
  exact ⟨(j+1),A45_35,c45_35,by omega,rfl,(by kernel_rfl),hst35.pk [0,1,4,3]⟩
 refine wp_exit (then_exit (then_exit (blk_eq (then_normal (wp_seq (wp_seq ?_))))))
 obtain rfl:j=I.length:=by omega
 rw [List.take_length] at hst32
 refine sqr ?_
 refine sqlb 2 3 hst32 ?_
 refine sqk (.tuple #[.string s,vi 0]) hst32 (fun cx=>⟨_,pgbytes_s hh _ _ _ (At.of_own (cx.ri 3 rfl)) hS,(map1 (cx.ou 49))⟩) fun W39 hst39=>?_
 refine sqp [.m 48 50, .k 51 (.string s), .k 52 (vi 0), .m 7 51, .m 8 52] ?_
 refine then_normal (wp_seq (sqr (sqp [.m 53 4] ?_)))
 refine sqv (.bool false) hst39 (by
   refine svA fun ρ β W X cx=>?_
   refine DoesU.call (run_callF (args:=#[vp B14_11]) rfl cx.sees rfl (by kernel_rfl) (map1 (cx.ou 53))) ?_
   refine (failed_any _ s (10+sizeT I) false _ ⟨(cx.bi 1 rfl),by omega,by omega⟩).mono ?_
   rintro e W1 ⟨rfl,rfl⟩
   refine ⟨_,rfl,post_call [] rfl rfl (Ext.refl _) (by simp) List.Pairwise.nil (fun σ β' X' hs hb hv hN=>?_)⟩
   have hv1:=(hv 54 rfl).1; have hv2:=(hv 54 rfl).2
   exact hv1.trans rfl) fun W46 hst46=>?_
 refine sqp [.k 55 (.bool false)] ?_
 refine sqgy 55 [56,57] rfl rfl ?_
 refine sqp [.m 56 8, .k 57 (.bool false)] ?_
 refine sqp [.k 58 (.bool false), .k 59 (.bool false)] ?_
 refine sqgy 59 [60,61,62] rfl rfl ?_
 refine sqp [.m 60 7, .m 61 0, .k 62 (.bool (!(s.toList==s.toList)))] ?_
 refine sqp [.k 63 (.bool (!(s.toList==s.toList)))] ?_
 refine then_normal ?_
 rcases Bool.eq_false_or_eq_true (s.toList==s.toList) with hs56 | hs56
 ·refine wp_cond_false (show Act.eval _ _= .bool false from (congrArg Value.bool (by rw [hs56]; rfl))) (wp_skip (then_normal (wp_seq (sqr (sqp [.k 65 (.pointer (some ⟨B6_21,2,none⟩))] ?_)))))
  refine sqld 2 hst46 ?_
  refine sqk1 (fun A67_59=> .slice A67_59 ((plainL I).length) ((plainL I).length)) (fun A67_59=>eO 9 1 (.slice A67_59 ((plainL I).length) ((plainL I).length)) ((plainL I).length) ((plainL I).map Value.string)) hst46 (fun cx=>⟨_,(plain_any _ _ I _ (At.of_own (cx.ri 3 rfl)) (by have h_:=(hS).1; omega)).mono (by rintro e W1 ⟨rfl,ho,hx⟩; exact ⟨_,rfl,St.one hx (eO_new ho)⟩),(map1 (cx.ou 66))⟩) fun A67_59 W59 hst59=>?_
  refine sqp [.k 68 (.pointer (some ⟨B6_21,2,none⟩))] ?_
  refine sqst (n:=1) 2 #[vi k,vi l, .slice A67_59 ((plainL I).length) ((plainL I).length)] hst59 fun W61 hst61=>?_
  refine then_normal (wp_seq (sqr ?_))
  refine sqlb 2 3 hst61 ?_
  refine sqst (n:=3) 0 #[vi k,vi l, .slice A67_59 ((plainL I).length) ((plainL I).length)] hst61 fun W63 hst63=>?_
  refine sqp [.k 3 (vi 0)] ?_
  refine then_normal (wp_ret ?_)
  refine bpr (.tuple #[.agg #[vi k,vi l, .slice A67_59 ((plainL I).length) ((plainL I).length)],vi 0]) (results_2 Tryz.results44 (rpa (hst63.blk 0 rfl) 0 3) rpt) ?_
  exact ⟨_, _,rfl,hst63.own' 4 rfl,hst63.ext⟩
 refine wp_cond_true (show Act.eval _ _= .bool true from (congrArg Value.bool (by rw [hs56]; rfl))) (wp_seq (sqr (sqp [.k 64 (.agg #[vi 0,vi 0, .slice none 0 0])] ?_)))
 refine sqst (n:=3) 0 #[vi 0,vi 0, .slice none 0 0] hst46 fun W66 hst66=>?_
 refine sqp [.k 3 (vi 22)] ?_
 refine then_normal (wp_ret (then_ret ?_))
 refine bpr (.tuple #[.agg #[vi 0,vi 0, .slice none 0 0],vi 22]) (results_2 Tryz.results44 (rpa (hst66.blk 0 rfl) 0 3) rpt) ?_
 exact absurd ‹(s.toList==s.toList)=false› (by simp)
/-- Read gives back what Bytes wrote -/
theorem pgread_any (k l:Int) (ss:List ByteArray) (w:World) (hr:rightB k l ss=true):Calls Tryz.prog 44 #[.string (bytesF k l (plainL ss))] w (PgPost k l (plainL ss) 0 w):=by
 have h:=pgread_s _ k l (plainL ss) w (says_bytes hr)
 rw [plain_plain] at h
 exact h
end
section
open Go.RowKit
def eIs (b:Nat) (s:ByteArray) (p:Nat):Ent:=⟨[b],fun W=>W.heap[b]? =some (.stringIter s p)⟩
theorem eIs_loc (b:Nat) (s:ByteArray) (p:Nat):(eIs b s p).loc:=fun W W' hk h=>(hk b (by simp [eIs])).trans h
theorem Upd.setIfIn {b:Nat} {W:World} (o:Obj):Upd [b] W {W with heap:=W.heap.setIfInBounds b o}:=by
 refine ⟨rfl,rfl,rfl,by simp,fun k hk hn=>?_⟩
 have:b≠k:=fun e=>hn (by simp [e])
 simp [Array.getElem?_setIfInBounds,this]
section
variable {P:Program} {ops:Array Oper} {L:List Nat} {a0:Act} {w0:World} {bor:List Nat} {X0:List Ent} {us cr kl:List (List Nat)}
 {D:Nat→(Tmp→Value)→(Tmp→Value)→(Nat→Ent)→Prop} {i:Nat} {o:Oper} {ρ:Operand→Value} {β:Tmp→Value} {W:World} {X:Nat→Ent}
theorem CtxV.holdJ {q:Nat} {E:Ent} (cx:CtxV ops L a0 w0 bor X0 us D i ρ β W X) (hX:X q=E) (hu:(atV us i).contains q=true):E.holds W:=by
 have h:=(cx.ok q hu).holds
 rw [hX] at h; exact h
theorem dv_rangeS {t:TypeId} {d q':Nat} {x:Operand} {s:ByteArray} (h:o.op= .range t x) (hx:ρ x= .string s) (hd:o.dst=some d) (hc:atV cr i=[q']) (hkl:atV kl i=[])
  (hD:∀ (σ β':Tmp→Value) (X':Nat→Ent),(∀ t,t≠d→σ t=ρ (.tmp t))→(∀ t,t≠d→β' t=β t)→σ d= .pointer (some ⟨pb (β' d),0,none⟩)→X' q'=eIs (pb (β' d)) s 0→D i σ β' X')
  (ht:P.underlying t=some .string:=by kernel_rfl):DoesU P o ρ W (PostV cr kl D i o.dst ρ β W X):=by
 refine DoesU.value (v:= .pointer (some ⟨W.heap.size,0,none⟩)) (w':=W.iter s 0) (by unfold execOp; rw [h]; simp [hx,run_range_string W t s ht]) ?_
 refine post_call [eIs W.heap.size s 0] hkl (by rw [hc]; rfl) ((Ext.refl W).alloc _) (one_new ⟨W.iter_heap s 0,eIs_loc _ _ _,fun k' hk'=>?_⟩) (List.pairwise_singleton _ _) (fun σ β' X' hs hb hv hN=>?_)
 ·have:k'=W.heap.size:=by simpa [eIs] using hk'
  subst this
  exact ⟨Nat.le_refl _,by show W.heap.size < (W.heap.push _).size; simp⟩
 ·have hv1:=(hv d hd).1; have hv2:=(hv d hd).2
  rw [hc] at hN
  refine hD σ β' X' (fun t ht=>hs t (by rw [hd]; simpa using ht.symm)) (fun t ht=>hb t (by rw [hd]; simpa using ht.symm)) ?_ ?_
  ·rw [hv1,hv2]; rfl
  ·rw [hv2]; exact (List.cons.inj hN).1
theorem dv_nextS {b p d q q':Nat} {x:Operand} {s:ByteArray} {c:Nat} (h:o.op= .next x true) (hx:ρ x= .pointer (some ⟨b,0,none⟩)) (cx:CtxV ops L a0 w0 bor X0 us D i ρ β W X) (hX:X q=eIs b s p) (hq:(atV us i).contains q=true) (hp:p < s.size) (hcc:(s[p]'hp).toNat=c) (hc8:c < 128) (hd:o.dst=some d) (hc:atV cr i=[q']) (hkl:atV kl i=[q])
  (hD:∀ (σ β':Tmp→Value) (X':Nat→Ent),(∀ t,t≠d→σ t=ρ (.tmp t))→(∀ t,t≠d→β' t=β t)→σ d= .tuple #[.bool true, .int .i64 (p:Int), .int .i32 (c:Int)]→X' q'=eIs b s (p+1)→D i σ β' X'):DoesU P o ρ W (PostV cr kl D i o.dst ρ β W X):=by
 subst hcc
 have hok:=cx.ok q hq
 rw [hX] at hok
 have hb:W.heap[b]? =some (.stringIter s p):=hok.holds
 have hlt:b < W.heap.size:=(hok.own b (by simp [eIs])).2
 refine DoesU.value (v:= .tuple #[.bool true, .int .i64 (p:Int), .int .i32 ((s[p]'hp).toNat:Int)]) (w':={W with heap:=W.heap.setIfInBounds b (.stringIter s (p+1))}) ?_ ?_
 ·unfold execOp; rw [h]
  simp only [hx]
  simp only [Instr.next,getObj,setObj,Sem.run_bind,Sem.run,hb,Result.andThen,hp,if_true,decode_ascii s p hp hc8]
  simp [goInt,Sem.run,hb]
 ·refine post_chg (E:=eIs b s p) (E':=eIs b s (p+1)) hX hc hkl (Upd.setIfIn _) ?_ (eIs_loc _ _ _) (fun k hk=>⟨hk,by simp [eIs] at hk; subst hk; simpa using hlt⟩) fun σ β' X' hs hb hv hX'=>hD σ β' X' (fun t ht=>hs t (by rw [hd]; simpa using ht.symm)) (fun t ht=>hb t (by rw [hd]; simpa using ht.symm)) (hv d hd).1 hX'
  show (W.heap.setIfInBounds b _)[b]? = _
  simp [hlt]
theorem run_nextSe {b p:Nat} {x:Operand} {s:ByteArray} (h:o.op= .next x true) (hx:ρ x= .pointer (some ⟨b,0,none⟩)) (hE:(eIs b s p).holds W) (hp:¬ p < s.size):(execOp ρ o).run P W= .ok (.value (.tuple #[.bool false])) W:=by
 have hb:W.heap[b]? =some (.stringIter s p):=hE
 unfold execOp; rw [h]
 simp only [hx]
 simp [Instr.next,getObj,Sem.run,hb,hp]
theorem run_convRn {t t':TypeId} {x:Operand} {k:IntKind} {n:Int} {r:ByteArray} (h:o.op= .convert t t' x) (ht:(P.underlying t).isSome=true) (ht':P.underlying t'=some .string) (hx:ρ x= .int k n) (hr:Utf8.encode n=r):(execOp ρ o).run P W= .ok (.value (.string r)) W:=by
 subst hr
 obtain ⟨d,hd⟩:=Option.isSome_iff_exists.1 ht
 unfold execOp; rw [h]
 simp [hx,convert,run_underlying hd,run_underlying ht',Conv.intToString]
end
end
section
open Go.RowKit
/-- a record without rows and ids -/
structure RecM where
 kind:Int
 xid:Int
 tbl:Int
 eds:List EdT
 note:ByteArray
def inB (n a b:Int):Bool:=decide (a≤n)&&decide (n≤b)
def edR (e:EdT):Bool:=inB e.1 0 399&&(if e.2.1= -1 then !kindBad e.2.2 else (inB e.2.1 0 23&&decide ((e.2.2.size:Int)≤400)))
def recR (r:RecM):Bool:=inB r.kind 1 10&&(inB r.xid 0 127&&(inB r.tbl 0 65535&&(decide ((r.eds.length:Int)≤64)&&(r.eds.all edR&&decide ((r.note.size:Int)≤60000)))))
theorem kb_no {s:ByteArray} {m:UInt8} (h:s=⟨#[m]⟩) (hm:m≤2):kindBad s=false:=by
 subst h
 simp only [kindBad,Bool.or_eq_false_iff,decide_eq_false_iff_not]
 refine ⟨fun h=>h rfl,?_⟩
 show ¬ (2:Int) < (m.toNat:Int)
 have:m.toNat≤2:=hm
 omega
theorem kb_yes {s:ByteArray} (h:∀ m:Nat,m < 3→s≠⟨#[UInt8.ofNat m]⟩):kindBad s=true:=by
 rcases hk:kindBad s with _ | _
 ·exfalso
  simp only [kindBad,Bool.or_eq_false_iff,decide_eq_false_iff_not] at hk
  obtain ⟨h1,h2⟩:=hk
  have h1:s.size=1:=by omega
  obtain ⟨⟨l⟩⟩:=s
  have hl:l.length=1:=h1
  match l,hl with
  | [c], _=>
    have h3:¬ (2:Int) < (c.toNat:Int):=h2
    refine h c.toNat (by omega) ?_
    have:UInt8.ofNat c.toNat=c:=by simp
    rw [this]
 ·rfl
theorem ba_eq {a b:ByteArray} (h:(a.toList==b.toList)=true):a=b:=ba_inj (by simpa using h)
theorem ba_ne {a b:ByteArray} (h:(a.toList==b.toList)=false):a≠b:=fun e=>by rw [e] at h; simp at h
theorem no_next {s:ByteArray} {p:Nat} (h:∀ m:Nat,m < p→s≠⟨#[UInt8.ofNat m]⟩) (h2:s≠⟨#[UInt8.ofNat p]⟩):∀ m:Nat,m < p+1→s≠⟨#[UInt8.ofNat m]⟩:=fun m hm=>by
 by_cases e:m=p
 ·subst e; exact h2
 ·exact h m (by omega)
theorem edR_in {x sl:Int} {s:ByteArray}:edR (x,sl,s)=(inB x 0 399&&(if sl= -1 then !kindBad s else (inB sl 0 23&&decide ((s.size:Int)≤400)))):=rfl
theorem jwithin_any (n a b:Int) (w:World):
  Calls Tryz.prog 108 #[.int .i64 n, .int .i64 a, .int .i64 b] w (Ret (.bool (inB n a b)) w):=by
 go_enter Tryz.func108,Tryz.ntmps108
 have hst0:=St.start w
 refine wp_seq (sqr (sqp [.k 6 (.bool false)] ?_))
 refine then_normal (wp_seq (sqr (sqp [.m 7 0, .m 8 1, .k 9 (.bool (decide (a≤n))), .m 10 9] ?_)))
 refine sqw 10 [11,12,13] rfl (fun _=>sqp [.m 11 0, .m 12 2, .k 13 (.bool (decide (n≤b)))] sqe) ?_
 refine sqp [sPa 14 (decide (a≤n)) (decide (n≤b)), .m 6 14] ?_
 refine then_normal (wp_ret ?_)
 refine bpr (.bool ((decide (a≤n))&&(decide (n≤b)))) (results_1 Tryz.results108 rpt) ?_
 exact Ret.of rfl hst0.ext
theorem jedit_any (x sl:Int) (s:ByteArray) (w:World) (hs:s.size≤9223372036854775807):
  Calls Tryz.prog 110 #[.agg #[.int .i64 x, .int .i64 sl, .string s]] w (Ret (.bool (edR (x,sl,s))) w):=by
 go_enter Tryz.func110,Tryz.ntmps110
 have hst0:=St.start w
 refine wp_seq (sqr ?_)
 refine sqbx #[vi x,vi sl, .string s] hst0 fun B1_1 W1 hst1=>?_
 refine sqp [.k 2 (.bool false)] ?_
 refine then_normal (wp_seq (wp_seq (sqr (sqp [.k 5 (.pointer (some ⟨B1_1,1,none⟩))] ?_))))
 refine sqld 0 hst1 ?_
 refine sqp [.k 7 (.bool (sl==(-1)))] ?_
 refine then_normal (wbs (fun hs6=>?_) fun hs6=>?_)
 ·have hs6p:=beq_iff_eq.1 hs6
  refine wp_seq (wp_seq (sqr ?_))
  refine sqn1 (fun x_=>pb x_) (fun R8_7=>vp R8_7) (fun R8_7=>eIs R8_7 ((⟨#[0,1,2]⟩:ByteArray)) 0) hst1 (by
    refine svA fun ρ β W X cx=>?_
    exact dv_rangeS rfl (cx.co _) rfl rfl rfl (fun σ β' X' hs hb hv hx=>⟨hv,hx⟩)) fun R8_7 W7 hst7=>?_
  refine then_normal (wp_block ?_)
  refine wp_loopT (fun t_ mz az W=>∃ p:Nat,p≤3∧(∀ m:Nat,m < p→s≠⟨#[UInt8.ofNat m]⟩)∧mz=3 - p∧az=⟨(ovr (jv az) [(2,2,1,[]),(1,4,1,[]),(4,9,11,[])] t_).toArray,[]⟩∧St w [] [eB B1_1 84 #[vi x,vi sl, .string s],eIs R8_7 ((⟨#[0,1,2]⟩:ByteArray)) p] W) (3 - 0) ?_ ?_
  · -- the loop begins
    exact ⟨0,by decide,fun m hm=>absurd hm (Nat.not_lt_zero m),rfl,(by kernel_rfl),hst7.pk [0,1]⟩
  rintro n8 a8 W8 ⟨p,hp,hno,rfl,hj_,hst8⟩
  refine ovz hj_ fun u8_=>?_
  refine wp_seq ?_
  rcases (by omega:p=0∨p=1∨p=2∨p=3) with rfl | rfl | rfl | rfl
  ·refine sqr ?_
   refine sqc0 (.tuple #[.bool true,vi 0, .int .i32 0]) (eIs R8_7 ((⟨#[0,1,2]⟩:ByteArray)) 1) 1 hst8 (by
     refine svA fun ρ β W X cx=>?_
     exact dv_nextS (c:=0) rfl (cx.ou 8) cx (cx.init 1 _ rfl) rfl (by decide) (by decide) (by decide) rfl rfl rfl (fun σ β' X' hs hb hv hx=>⟨hv,hx⟩)) fun W9 hst9=>?_
   refine sqp [.k 10 (.bool true)] ?_
   refine then_normal (wp_seq (wct rfl (wp_skip (then_normal (wp_block (wp_seq (sqr (sqp [.k 11 (.int .i32 0), .m 4 11] ?_))))))))
   refine then_normal (wp_seq (sqr (sqp [.k 12 (.pointer (some ⟨B1_1,2,none⟩))] ?_)))
   refine sqld 0 hst9 ?_
   refine sqp [.m 14 4] ?_
   refine sql (.string ((⟨#[0]⟩:ByteArray))) hst9 (fun cx=>run_convRn rfl (by kernel_rfl) (by kernel_rfl) (cx.ou 14) (by decide)) ?_
   refine sqp [.k 16 (.bool (s.toList==((⟨#[0]⟩:ByteArray)).toList))] ?_
   refine then_normal (wbs (fun hs18=>?_) fun hs18=>?_)
   ·refine wp_seq (sqr (sqp [.k 17 (vp B1_1)] ?_))
    refine sqld 0 hst9 ?_
    refine sqk (.bool (inB x 0 399)) hst9 (fun cx=>⟨_,jwithin_any x 0 399 _,(map3 (cx.ou 18) (cx.co _) (cx.co _))⟩) fun W21 hst21=>?_
    refine sqp [.m 2 19] ?_
    refine then_normal (wp_ret (blk_ret (then_ret (blk_ret (then_ret (then_ret ?_))))))
    refine bpr (.bool (inB x 0 399)) (results_1 Tryz.results110 rpt) ?_
    exact Ret.bool (by rw [edR_in,if_pos (by simpa using hs6),kb_no (ba_eq hs18) (by decide)]; simp) hst21.ext
   refine wp_skip (blk_normal (then_normal ?_))
   refine ⟨3 - 1,by decide,?_⟩
   exact ⟨1,by decide,no_next hno (ba_ne hs18),rfl,(by kernel_rfl),hst9.pk [0,1]⟩
  ·refine sqr ?_
   refine sqc0 (.tuple #[.bool true,vi 1, .int .i32 1]) (eIs R8_7 ((⟨#[0,1,2]⟩:ByteArray)) 2) 1 hst8 (by
     refine svA fun ρ β W X cx=>?_
     exact dv_nextS (c:=1) rfl (cx.ou 8) cx (cx.init 1 _ rfl) rfl (by decide) (by decide) (by decide) rfl rfl rfl (fun σ β' X' hs hb hv hx=>⟨hv,hx⟩)) fun W23 hst23=>?_
   refine sqp [.k 10 (.bool true)] ?_
   refine then_normal (wp_seq (wct rfl (wp_skip (then_normal (wp_block (wp_seq (sqr (sqp [.k 11 (.int .i32 1), .m 4 11] ?_))))))))
   refine then_normal (wp_seq (sqr (sqp [.k 12 (.pointer (some ⟨B1_1,2,none⟩))] ?_)))
   refine sqld 0 hst23 ?_
   refine sqp [.m 14 4] ?_
   refine sql (.string ((⟨#[1]⟩:ByteArray))) hst23 (fun cx=>run_convRn rfl (by kernel_rfl) (by kernel_rfl) (cx.ou 14) (by decide)) ?_
   refine sqp [.k 16 (.bool (s.toList==((⟨#[1]⟩:ByteArray)).toList))] ?_
   refine then_normal (wbs (fun hs32=>?_) fun hs32=>?_)
   ·refine wp_seq (sqr (sqp [.k 17 (vp B1_1)] ?_))
    refine sqld 0 hst23 ?_
    refine sqk (.bool (inB x 0 399)) hst23 (fun cx=>⟨_,jwithin_any x 0 399 _,(map3 (cx.ou 18) (cx.co _) (cx.co _))⟩) fun W35 hst35=>?_
    refine sqp [.m 2 19] ?_
    refine then_normal (wp_ret (blk_ret (then_ret (blk_ret (then_ret (then_ret ?_))))))
    refine bpr (.bool (inB x 0 399)) (results_1 Tryz.results110 rpt) ?_
    exact Ret.bool (by rw [edR_in,if_pos (by simpa using hs6),kb_no (ba_eq hs32) (by decide)]; simp) hst35.ext
   refine wp_skip (blk_normal (then_normal ?_))
   refine ⟨3 - 2,by decide,?_⟩
   exact ⟨2,by decide,no_next hno (ba_ne hs32),rfl,(by kernel_rfl),hst23.pk [0,1]⟩
  ·refine sqr ?_
   refine sqc0 (.tuple #[.bool true,vi 2, .int .i32 2]) (eIs R8_7 ((⟨#[0,1,2]⟩:ByteArray)) 3) 1 hst8 (by
     refine svA fun ρ β W X cx=>?_
     exact dv_nextS (c:=2) rfl (cx.ou 8) cx (cx.init 1 _ rfl) rfl (by decide) (by decide) (by decide) rfl rfl rfl (fun σ β' X' hs hb hv hx=>⟨hv,hx⟩)) fun W37 hst37=>?_
   refine sqp [.k 10 (.bool true)] ?_
   refine then_normal (wp_seq (wct rfl (wp_skip (then_normal (wp_block (wp_seq (sqr (sqp [.k 11 (.int .i32 2), .m 4 11] ?_))))))))
   refine then_normal (wp_seq (sqr (sqp [.k 12 (.pointer (some ⟨B1_1,2,none⟩))] ?_)))
   refine sqld 0 hst37 ?_
   refine sqp [.m 14 4] ?_
   refine sql (.string ((⟨#[2]⟩:ByteArray))) hst37 (fun cx=>run_convRn rfl (by kernel_rfl) (by kernel_rfl) (cx.ou 14) (by decide)) ?_
   refine sqp [.k 16 (.bool (s.toList==((⟨#[2]⟩:ByteArray)).toList))] ?_
   refine then_normal (wbs (fun hs46=>?_) fun hs46=>?_)
   ·refine wp_seq (sqr (sqp [.k 17 (vp B1_1)] ?_))
    refine sqld 0 hst37 ?_
    refine sqk (.bool (inB x 0 399)) hst37 (fun cx=>⟨_,jwithin_any x 0 399 _,(map3 (cx.ou 18) (cx.co _) (cx.co _))⟩) fun W49 hst49=>?_
    refine sqp [.m 2 19] ?_
    refine then_normal (wp_ret (blk_ret (then_ret (blk_ret (then_ret (then_ret ?_))))))
    refine bpr (.bool (inB x 0 399)) (results_1 Tryz.results110 rpt) ?_
    exact Ret.bool (by rw [edR_in,if_pos (by simpa using hs6),kb_no (ba_eq hs46) (by decide)]; simp) hst49.ext
   refine wp_skip (blk_normal (then_normal ?_))
   refine ⟨3 - 3,by decide,?_⟩
   exact ⟨3,by decide,no_next hno (ba_ne hs46),rfl,(by kernel_rfl),hst37.pk [0,1]⟩
  ·refine sqr ?_
   refine sql (.tuple #[.bool false]) hst8 (fun cx=>run_nextSe rfl (cx.ou 8) (CtxV.holdJ cx (cx.init 1 _ rfl) rfl) (by decide)) ?_
   refine sqp [.k 10 (.bool false)] ?_
   refine then_normal (wp_seq (wcf rfl (wp_exit (then_exit (then_exit (blk_eq (then_normal (wp_seq (sqr (sqp [.k 2 (.bool false)] ?_))))))))))
   refine then_normal (wp_ret (then_ret ?_))
   refine bpr (.bool false) (results_1 Tryz.results110 rpt) ?_
   exact Ret.bool (by rw [edR_in,if_pos (by simpa using hs6),kb_yes hno]; simp) hst8.ext
 have hs6p:=beq_eq_false_iff_ne.1 hs6
 refine wp_skip (then_normal (wp_seq (sqr (sqp [.k 20 (vp B1_1)] ?_))))
 refine sqld 0 hst1 ?_
 refine sqk (.bool (inB x 0 399)) hst1 (fun cx=>⟨_,jwithin_any x 0 399 _,(map3 (cx.ou 21) (cx.co _) (cx.co _))⟩) fun W56 hst56=>?_
 refine sqp [.m 23 22] ?_
 refine sqwW 23 [24,25,26] ?_ hst56 rfl (fun hq=>?_) fun W61 hst61=>?_
 rotate_left
 ·refine sqp [.k 24 (.pointer (some ⟨B1_1,1,none⟩))] ?_
  refine sqld 0 hst56 ?_
  refine sqk (.bool (inB sl 0 23)) hst56 (fun cx=>⟨_,jwithin_any sl 0 23 _,(map3 (cx.ou 25) (cx.co _) (cx.co _))⟩) fun W60 hst60=>?_
  exact sqE hst60
 refine sqwx ?_
 refine sqp [sPa 27 (inB x 0 399) (inB sl 0 23), .m 28 27] ?_
 refine sqw' 28 [29,30,31,32] ?_ rfl (fun hq=>?_) ?_
 rotate_left
 ·refine sqp [.k 29 (.pointer (some ⟨B1_1,2,none⟩))] ?_
  refine sqld 0 hst61 ?_
  refine sqp [.k 31 (vi ((s.size:Int))), .k 32 (.bool (decide ((s.size:Int)≤400)))] ?_
  exact sqe
 refine sqwx ?_
 refine sqp [sPa 33 ((inB x 0 399)&&(inB sl 0 23)) (decide ((s.size:Int)≤400)), .m 2 33] ?_
 refine then_normal (wp_ret ?_)
 refine bpr (.bool (((inB x 0 399)&&(inB sl 0 23))&&(decide ((s.size:Int)≤400)))) (results_1 Tryz.results110 rpt) ?_
 exact Ret.bool (by rw [edR_in,if_neg (by simpa using hs6),Bool.and_assoc]) hst61.ext
end
section
open Go.RowKit
def edC (e:EdT):List Value:=[.int .i64 e.1, .int .i64 e.2.1, .string e.2.2]
theorem edC_len (e:EdT):(edC e).length=3:=rfl
theorem getEdT {l:List EdT} {k:Nat} (h:k < l.length):∃ ep es eb,l[k]? =some (ep,es,eb):=⟨_, _, _,List.getElem?_eq_getElem h⟩
/-- the first edit that is not valid, or -1 -/
def badIx (l:List EdT):Int:=if l.all edR=true then -1 else ((l.findIdx fun e=>!edR e:Nat):Int)
theorem bad_all {l:List EdT}:decide ((0:Int)≤badIx l)=!l.all edR:=by
 unfold badIx
 rcases h:l.all edR with _ | _
 ·rw [if_neg (by decide)]; exact decide_eq_true (Int.natCast_nonneg _)
 ·rw [if_pos rfl]; rfl
theorem bad_at {l:List EdT} {j:Nat} {e:EdT} (he:l[j]? =some e) (h:edR e=false) (ha:∀ i x,i < j→l[i]? =some x→edR x=true):badIx l=(j:Int):=by
 obtain ⟨hj,rfl⟩:=List.getElem?_eq_some_iff.1 he
 have h1:l.all edR=false:=by
  rw [List.all_eq_false]
  exact ⟨l[j],List.getElem_mem hj,by rw [h]; decide⟩
 rw [badIx,h1,if_neg (by decide)]
 congr 1
 rw [List.findIdx_eq hj]
 exact ⟨by rw [h]; rfl,fun i hi=>by rw [ha i _ hi (List.getElem?_eq_getElem (by omega))]; rfl⟩
theorem bad_none {l:List EdT} {j:Nat} (hj:¬ ((j:Int) < (l.length:Int))) (ha:∀ i x,i < j→l[i]? =some x→edR x=true):badIx l= -1:=by
 have h1:l.all edR=true:=by
  rw [List.all_eq_true]
  intro x hx
  obtain ⟨i,hi,rfl⟩:=List.mem_iff_getElem.1 hx
  exact ha i _ (by omega) (List.getElem?_eq_getElem hi)
 rw [badIx,if_pos h1]
theorem bad_step {l:List EdT} {j:Nat} {e:EdT} (ha:∀ i x,i < j→l[i]? =some x→edR x=true) (he:l[j]? =some e) (h:edR e=true):∀ i x,i < j+1→l[i]? =some x→edR x=true:=fun i x hi hx=>by
 by_cases e2:i=j
 ·subst e2
  rw [he] at hx
  injection hx with hx
  subst hx; exact h
 ·exact ha i x (by omega) hx
theorem jright1_any (x sl:Int) (s:ByteArray) (w:World) (hs:s.size≤9223372036854775807):
  Calls Tryz.prog 109 #[.agg #[.int .i64 x, .int .i64 sl, .string s]] w (Ret (.bool (!edR (x,sl,s))) w):=by
 go_enter Tryz.func109,Tryz.ntmps109
 have hst0:=St.start w
 refine wp_seq (sqr ?_)
 refine sqbx #[vi x,vi sl, .string s] hst0 fun B1_1 W1 hst1=>?_
 refine sqp [.k 2 (.bool false)] ?_
 refine then_normal (wp_seq (sqr ?_))
 refine sqlb 0 3 hst1 ?_
 refine sqk (.bool (edR (x,sl,s))) hst1 (fun cx=>⟨_,jedit_any x sl s _ (by omega),(map1 (cx.ou 3))⟩) fun W4 hst4=>?_
 refine sqp [.k 5 (.bool (!(edR (x,sl,s)))), .m 2 5] ?_
 refine then_normal (wp_ret ?_)
 refine bpr (.bool (!(edR (x,sl,s)))) (results_1 Tryz.results109 rpt) ?_
 exact Ret.of rfl hst4.ext
theorem jixf_any (A:Option Addr) (c:Nat) (l:List EdT) (w:World) (hA:At w A (l.flatMap edC)) (hl:l.length≤1000000) (hz:∀ e∈l,e.2.2.size≤9223372036854775807):
  Calls Tryz.prog 117 #[.slice A l.length c, .func (.func 109) #[] #[]] w (Ret (.int .i64 (badIx l)) w):=by
 go_enter Tryz.func117,Tryz.ntmps117
 have hst0:=St.start w
 refine wp_seq (sqr (sqp [.k 4 (vi 0)] ?_))
 refine then_normal (wp_seq (wp_seq (sqr (sqp [.m 6 0, .k 7 (vi ((l.length:Int))), .k 8 (vi 0)] ?_))))
 refine then_normal (wp_block ?_)
 refine wp_loopT (fun t_ mz az W=>∃ j:Nat,j≤l.length∧(∀ i x,i < j→l[i]? =some x→edR x=true)∧mz=l.length - j∧az=⟨(ovr (jv az) [(4,4,2,[]),(2,8,0,[vi ((j:Int))]),(0,9,10,[])] t_).toArray,[]⟩∧St w [] [] W) (l.length - 0) ?_ ?_
 · -- the loop begins
   exact ⟨0,Nat.zero_le _,fun i x h=>absurd h (Nat.not_lt_zero i),rfl,(by kernel_rfl),hst0.pk []⟩
 rintro n5 a5 W5 ⟨j,hj,ha,rfl,hj_,hst5⟩
 refine ovz hj_ fun u5_=>?_
 refine wp_seq (sqr (sqp [.k 9 (.bool (decide ((j:Int) < (l.length:Int))))] ?_))
 refine then_normal (wp_seq (wds (fun hs7 hs7p=>?_) fun hs7 hs7p=>?_))
 ·refine wp_skip (then_normal (wp_seq (wp_block (wp_seq (sqr (sqp [.m 10 8, .m 5 10] ?_))))))
  refine then_normal (wp_seq ?_)
  obtain ⟨ep,es,eb,hek⟩:=getEdT (l:=l) (k:=j) (by omega)
  have hez:eb.size≤9223372036854775807:=hz _ (List.mem_of_getElem? hek)
  refine sqr (sqp [.m 11 1, .m 12 0, .m 13 5] ?_)
  refine sql (.pointer (some ((ad A).add (j*3)))) hst5 (fun cx=>run_indexSlM (e:=84) (m:=j) (sz:=3) rfl (by kernel_rfl) (by kernel_rfl) (cx.ou 12) (cx.ou 13) (by omega) (by omega) (hA.ext cx.upd.to_ext) (flatPos (sz:=3) edC_len (by decide) (by omega))) ?_
  refine sql (.agg #[vi ep,vi es, .string eb]) hst5 (fun cx=>run_loadElt (f:=edC) (m:=j) (sz:=3) (off:=0) (n:=3) rfl (by kernel_rfl) (by kernel_rfl) (cx.ou 14) rfl edC_len (hA.ext cx.upd.to_ext) hek (fun k hk=>match k,hk with | 0, _=>rfl | 1, _=>rfl | 2, _=>rfl | k+3,hk=>absurd hk (by omega))) ?_
  refine sqv (.bool (!(edR (ep,es,eb)))) hst5 (sv_call rfl rfl rfl rfl rfl (fun _ _ _ h=>h) fun ρ β W X cx=>⟨_, _,run_callV (f:=109) (args:=#[.agg #[vi ep,vi es, .string eb]]) (args':=#[.agg #[vi ep,vi es, .string eb]]) rfl rfl (cx.ou 11) (by kernel_rfl) (map1 (cx.ou 15)) rfl,jright1_any ep es eb _ hez⟩) fun W15 hst15=>?_
  refine then_normal ?_
  rcases Bool.eq_false_or_eq_true (edR (ep,es,eb)) with hs16 | hs16
  ·refine wp_cond_false (show Act.eval _ _= .bool false from (congrArg Value.bool (by rw [hs16]; rfl))) (wp_skip (blk_normal (then_normal (sqr (sqp [sI 18 ((j:Int)+1) (by omega), .m 8 18] ?_)))))
   refine then_normal ?_
   refine ⟨l.length - ((j+1)),by omega,?_⟩
   exact ⟨(j+1),by omega,bad_step ha hek (by simpa using hs16),rfl,(by kernel_rfl),hst15.pk []⟩
  refine wp_cond_true (show Act.eval _ _= .bool true from (congrArg Value.bool (by rw [hs16]; rfl))) (wp_seq (sqr (sqp [.m 17 5, .m 4 17] ?_)))
  refine then_normal (wp_ret (blk_ret (then_ret (then_ret (blk_ret (then_ret ?_))))))
  refine bpr (vi ((j:Int))) (results_1 Tryz.results117 rpt) ?_
  exact Ret.int (bad_at hek (by simpa using hs16) ha).symm hst15.ext
 refine wp_exit (then_exit (then_exit (blk_eq (then_normal (wp_seq (sqr (sqp [.k 4 (vi (-1))] ?_)))))))
 refine then_normal (wp_ret ?_)
 refine bpr (vi (-1)) (results_1 Tryz.results117 rpt) ?_
 exact Ret.int (bad_none (of_decide_eq_false hs7) ha).symm hst5.ext
theorem jcf_any (A:Option Addr) (c:Nat) (l:List EdT) (w:World) (hA:At w A (l.flatMap edC)) (hl:l.length≤1000000) (hz:∀ e∈l,e.2.2.size≤9223372036854775807):
  Calls Tryz.prog 53 #[.slice A l.length c, .func (.func 109) #[] #[]] w (Ret (.bool (!l.all edR)) w):=by
 go_enter Tryz.func53,Tryz.ntmps53
 have hst0:=St.start w
 refine wp_seq (sqr (sqp [.k 4 (.bool false)] ?_))
 refine then_normal (wp_seq (sqr (sqp [.m 5 0, .m 6 1] ?_)))
 refine sqk (vi ((badIx l))) hst0 (fun cx=>⟨_,jixf_any _ _ l _ (hA.ext cx.upd.to_ext) hl hz,(map2 (cx.ou 5) (cx.ou 6))⟩) fun W4 hst4=>?_
 refine sqp [.k 8 (.bool (decide (0≤(badIx l)))), .m 4 8] ?_
 refine then_normal (wp_ret ?_)
 refine bpr (.bool (decide (0≤(badIx l)))) (results_1 Tryz.results53 rpt) ?_
 exact Ret.bool bad_all hst4.ext
end
section
open Go.RowKit
/-- the record whose edits lie at A -/
def recV (r:RecM) (A:Option Addr) (c:Nat):Value:= .agg #[.int .i64 r.kind, .int .i64 r.xid, .int .i64 r.tbl, .slice none 0 0, .slice none 0 0, .slice A r.eds.length c, .slice none 0 0, .string r.note]
theorem jxi_0 (w:World):
  Calls Tryz.prog 156 #[.slice none 0 0, .func (.func 112) #[] #[]] w (Ret (.int .i64 (-1)) w):=by
 go_enter Tryz.func156,Tryz.ntmps156
 have hst0:=St.start w
 refine wp_seq (sqr (sqp [.k 4 (vi 0)] ?_))
 refine then_normal (wp_seq (wp_seq (sqr (sqp [.m 6 0, .k 7 (vi 0), .k 8 (vi 0)] ?_))))
 refine then_normal (wp_block ?_)
 refine wp_loopT (fun t_ mz az W=>∃ j:Nat,j≤0∧mz=0 - j∧az=⟨(ovr (jv az) [(4,4,2,[]),(2,8,0,[vi ((j:Int))]),(0,9,10,[])] t_).toArray,[]⟩∧St w [] [] W) (0 - 0) ?_ ?_
 · -- the loop begins
   exact ⟨0,Nat.zero_le _,rfl,(by kernel_rfl),hst0.pk []⟩
 rintro n5 a5 W5 ⟨j,hj,rfl,hj_,hst5⟩
 refine ovz hj_ fun u5_=>?_
 refine wp_seq (sqr ?_)
 have hd7:(decide ((j:Int) < 0))=false:=(decide_eq_false (by omega))
 refine sqp [.e 9 (.bool (decide ((j:Int) < 0))) (.bool false) (congrArg Value.bool hd7)] ?_
 refine then_normal (wp_seq (wcf rfl (wp_exit (then_exit (then_exit (blk_eq (then_normal (wp_seq (sqr (sqp [.k 4 (vi (-1))] ?_))))))))))
 refine then_normal (wp_ret ?_)
 refine bpr (vi (-1)) (results_1 Tryz.results156 rpt) ?_
 exact Ret.of rfl hst5.ext
theorem jxic_0 (w:World):
  Calls Tryz.prog 111 #[.slice none 0 0, .func (.func 112) #[] #[]] w (Ret (.bool false) w):=by
 go_enter Tryz.func111,Tryz.ntmps111
 have hst0:=St.start w
 refine wp_seq (sqr (sqp [.k 4 (.bool false)] ?_))
 refine then_normal (wp_seq (sqr (sqp [.m 5 0, .m 6 1] ?_)))
 refine sqk (vi ((-1))) hst0 (fun cx=>⟨_,jxi_0 _,(map2 (cx.ou 5) (cx.ou 6))⟩) fun W4 hst4=>?_
 refine sqp [.k 8 (.bool (decide (0≤(-1)))), .m 4 8] ?_
 refine then_normal (wp_ret ?_)
 refine bpr (.bool (decide (0≤(-1)))) (results_1 Tryz.results111 rpt) ?_
 exact Ret.bool (by decide) hst4.ext
theorem jxr_0 (w:World):
  Calls Tryz.prog 180 #[.slice none 0 0, .func (.func 158) #[] #[]] w (Ret (.int .i64 (-1)) w):=by
 go_enter Tryz.func180,Tryz.ntmps180
 have hst0:=St.start w
 refine wp_seq (sqr (sqp [.k 4 (vi 0)] ?_))
 refine then_normal (wp_seq (wp_seq (sqr (sqp [.m 6 0, .k 7 (vi 0), .k 8 (vi 0)] ?_))))
 refine then_normal (wp_block ?_)
 refine wp_loopT (fun t_ mz az W=>∃ j:Nat,j≤0∧mz=0 - j∧az=⟨(ovr (jv az) [(4,4,2,[]),(2,8,0,[vi ((j:Int))]),(0,9,10,[])] t_).toArray,[]⟩∧St w [] [] W) (0 - 0) ?_ ?_
 · -- the loop begins
   exact ⟨0,Nat.zero_le _,rfl,(by kernel_rfl),hst0.pk []⟩
 rintro n5 a5 W5 ⟨j,hj,rfl,hj_,hst5⟩
 refine ovz hj_ fun u5_=>?_
 refine wp_seq (sqr ?_)
 have hd7:(decide ((j:Int) < 0))=false:=(decide_eq_false (by omega))
 refine sqp [.e 9 (.bool (decide ((j:Int) < 0))) (.bool false) (congrArg Value.bool hd7)] ?_
 refine then_normal (wp_seq (wcf rfl (wp_exit (then_exit (then_exit (blk_eq (then_normal (wp_seq (sqr (sqp [.k 4 (vi (-1))] ?_))))))))))
 refine then_normal (wp_ret ?_)
 refine bpr (vi (-1)) (results_1 Tryz.results180 rpt) ?_
 exact Ret.of rfl hst5.ext
theorem jxrc_0 (w:World):
  Calls Tryz.prog 157 #[.slice none 0 0, .func (.func 158) #[] #[]] w (Ret (.bool false) w):=by
 go_enter Tryz.func157,Tryz.ntmps157
 have hst0:=St.start w
 refine wp_seq (sqr (sqp [.k 4 (.bool false)] ?_))
 refine then_normal (wp_seq (sqr (sqp [.m 5 0, .m 6 1] ?_)))
 refine sqk (vi ((-1))) hst0 (fun cx=>⟨_,jxr_0 _,(map2 (cx.ou 5) (cx.ou 6))⟩) fun W4 hst4=>?_
 refine sqp [.k 8 (.bool (decide (0≤(-1)))), .m 4 8] ?_
 refine then_normal (wp_ret ?_)
 refine bpr (.bool (decide (0≤(-1)))) (results_1 Tryz.results157 rpt) ?_
 exact Ret.bool (by decide) hst4.ext
theorem jrow_0 (w:World):
  Calls Tryz.prog 113 #[.slice none 0 0] w (Ret (.bool true) w):=by
 go_enter Tryz.func113,Tryz.ntmps113
 have hst0:=St.start w
 refine wp_seq (sqr (sqp [.k 2 (.bool false)] ?_))
 refine then_normal (wp_seq (sqr (sqp [.m 3 0, .k 4 (vi 0), .k 5 (.bool true), .k 6 (.bool true)] ?_)))
 refine sqgy 6 [7,8,9] rfl rfl ?_
 refine sqp [.m 7 0] ?_
 refine sqk (.bool false) hst0 (fun cx=>⟨_,jxrc_0 _,(map2 (cx.ou 7) (cx.sees.func _))⟩) fun W7 hst7=>?_
 refine sqp [.k 9 (.bool true)] ?_
 refine sqp [.k 10 (.bool true), .k 2 (.bool true)] ?_
 refine then_normal (wp_ret ?_)
 refine bpr (.bool true) (results_1 Tryz.results113 rpt) ?_
 exact Ret.bool (by decide) hst7.ext
theorem jright_any (k x t:Int) (A:Option Addr) (c:Nat) (l:List EdT) (note:ByteArray) (w:World) (hA:At w A (l.flatMap edC)) (hl:l.length≤1000000) (hz:∀ e∈l,e.2.2.size≤9223372036854775807) (hns:note.size≤9223372036854775807):
  Calls Tryz.prog 51 #[.agg #[.int .i64 k, .int .i64 x, .int .i64 t, .slice none 0 0, .slice none 0 0, .slice A l.length c, .slice none 0 0, .string note]] w (Ret (.bool (recR ⟨k,x,t,l,note⟩)) w):=by
 go_enter Tryz.func51,Tryz.ntmps51
 have hst0:=St.start w
 refine wp_seq (sqr ?_)
 refine sqbx #[vi k,vi x,vi t, .slice none 0 0, .slice none 0 0, .slice A l.length c, .slice none 0 0, .string note] hst0 fun B1_1 W1 hst1=>?_
 refine sqp [.k 2 (.bool false)] ?_
 refine then_normal (wp_seq (sqr (sqp [.k 6 (vp B1_1)] ?_)))
 refine sqld 0 hst1 ?_
 refine sqk (.bool (inB k 1 10)) hst1 (fun cx=>⟨_,jwithin_any k 1 10 _,(map3 (cx.ou 7) (cx.co _) (cx.co _))⟩) fun W5 hst5=>?_
 refine sqp [.m 9 8] ?_
 refine sqwW 9 [10,11,12] ?_ hst5 rfl (fun hq=>?_) fun W10 hst10=>?_
 rotate_left
 ·refine sqp [.k 10 (.pointer (some ⟨B1_1,1,none⟩))] ?_
  refine sqld 0 hst5 ?_
  refine sqk (.bool (inB x 0 127)) hst5 (fun cx=>⟨_,jwithin_any x 0 127 _,(map3 (cx.ou 11) (cx.co _) (cx.co _))⟩) fun W9 hst9=>?_
  exact sqE hst9
 refine sqwx ?_
 refine sqp [sPa 13 (inB k 1 10) (inB x 0 127), .m 14 13] ?_
 refine sqwW 14 [15,16,17] ?_ hst10 rfl (fun hq=>?_) fun W16 hst16=>?_
 rotate_left
 ·refine sqp [.k 15 (.pointer (some ⟨B1_1,2,none⟩))] ?_
  refine sqld 0 hst10 ?_
  refine sqk (.bool (inB t 0 65535)) hst10 (fun cx=>⟨_,jwithin_any t 0 65535 _,(map3 (cx.ou 16) (cx.co _) (cx.co _))⟩) fun W15 hst15=>?_
  exact sqE hst15
 refine sqwx ?_
 refine sqp [sPa 18 ((inB k 1 10)&&(inB x 0 127)) (inB t 0 65535), .m 3 18] ?_
 refine then_normal (wp_seq (sqr (sqp [.k 19 (.pointer (some ⟨B1_1,5,none⟩))] ?_)))
 refine sqld 0 hst16 ?_
 refine sqp [.k 21 (vi ((l.length:Int))), .k 22 (.bool (decide ((l.length:Int)≤64))), .m 23 22] ?_
 refine sqwW 23 [24,25,26,27] ?_ hst16 rfl (fun hq=>?_) fun W28 hst28=>?_
 rotate_left
 ·refine sqp [.k 24 (.pointer (some ⟨B1_1,5,none⟩))] ?_
  refine sqld 0 hst16 ?_
  refine sqk (.bool (!(l.all edR))) hst16 (fun cx=>⟨_,jcf_any _ _ l _ (hA.ext cx.upd.to_ext) hl hz,(map2 (cx.ou 25) (cx.sees.func _))⟩) fun W26 hst26=>?_
  refine sqp [.k 27 (.bool (!(!(l.all edR))))] ?_
  exact sqE hst26
 refine sqwx ?_
 refine sqp [sPa 28 (decide ((l.length:Int)≤64)) (!(!(l.all edR))), .m 4 28] ?_
 refine then_normal (wp_seq (sqr (sqp [.k 29 (.pointer (some ⟨B1_1,6,none⟩))] ?_)))
 refine sqld 0 hst28 ?_
 refine sqp [.k 31 (vi 0), .k 32 (.bool true), .k 33 (.bool true)] ?_
 refine sqgy 33 [34,35,36,37] rfl rfl ?_
 refine sqp [.k 34 (.pointer (some ⟨B1_1,6,none⟩))] ?_
 refine sqld 0 hst28 ?_
 refine sqk (.bool false) hst28 (fun cx=>⟨_,jxic_0 _,(map2 (cx.ou 35) (cx.sees.func _))⟩) fun W38 hst38=>?_
 refine sqp [.k 37 (.bool true)] ?_
 refine sqp [.k 38 (.bool true), .k 5 (.bool true)] ?_
 refine then_normal (wp_seq (sqr (sqp [.m 39 3, .m 40 39] ?_)))
 refine sqw 40 [41] rfl (fun _=>sqp [.m 41 4] sqe) ?_
 refine sqp [sPa 42 (((inB k 1 10)&&(inB x 0 127))&&(inB t 0 65535)) ((decide ((l.length:Int)≤64))&&(!(!(l.all edR)))), .m 43 42] ?_
 refine sqw 43 [44] rfl (fun _=>sqp [.k 44 (.bool true)] sqe) ?_
 refine sqp [sPa 45 ((((inB k 1 10)&&(inB x 0 127))&&(inB t 0 65535))&&((decide ((l.length:Int)≤64))&&(!(!(l.all edR))))) true, .m 46 45] ?_
 refine sqwW 46 [47,48,49] ?_ hst38 rfl (fun hq=>?_) fun W53 hst53=>?_
 rotate_left
 ·refine sqp [.k 47 (.pointer (some ⟨B1_1,3,none⟩))] ?_
  refine sqld 0 hst38 ?_
  refine sqk (.bool true) hst38 (fun cx=>⟨_,jrow_0 _,(map1 (cx.ou 48))⟩) fun W52 hst52=>?_
  exact sqE hst52
 refine sqwx ?_
 refine sqp [sPa 50 (((((inB k 1 10)&&(inB x 0 127))&&(inB t 0 65535))&&((decide ((l.length:Int)≤64))&&(!(!(l.all edR)))))&&true) true, .m 51 50] ?_
 refine sqwW 51 [52,53,54] ?_ hst53 rfl (fun hq=>?_) fun W59 hst59=>?_
 rotate_left
 ·refine sqp [.k 52 (.pointer (some ⟨B1_1,4,none⟩))] ?_
  refine sqld 0 hst53 ?_
  refine sqk (.bool true) hst53 (fun cx=>⟨_,jrow_0 _,(map1 (cx.ou 53))⟩) fun W58 hst58=>?_
  exact sqE hst58
 refine sqwx ?_
 refine sqp [sPa 55 ((((((inB k 1 10)&&(inB x 0 127))&&(inB t 0 65535))&&((decide ((l.length:Int)≤64))&&(!(!(l.all edR)))))&&true)&&true) true, .m 56 55] ?_
 refine sqw' 56 [57,58,59,60] ?_ rfl (fun hq=>?_) ?_
 rotate_left
 ·refine sqp [.k 57 (.pointer (some ⟨B1_1,7,none⟩))] ?_
  refine sqld 0 hst59 ?_
  refine sqp [.k 59 (vi ((note.size:Int))), .k 60 (.bool (decide ((note.size:Int)≤60000)))] ?_
  exact sqe
 refine sqwx ?_
 refine sqp [sPa 61 (((((((inB k 1 10)&&(inB x 0 127))&&(inB t 0 65535))&&((decide ((l.length:Int)≤64))&&(!(!(l.all edR)))))&&true)&&true)&&true) (decide ((note.size:Int)≤60000)), .m 2 61] ?_
 refine then_normal (wp_ret ?_)
 refine bpr (.bool ((((((((inB k 1 10)&&(inB x 0 127))&&(inB t 0 65535))&&((decide ((l.length:Int)≤64))&&(!(!(l.all edR)))))&&true)&&true)&&true)&&(decide ((note.size:Int)≤60000)))) (results_1 Tryz.results51 rpt) ?_
 exact Ret.bool (by simp [recR,Bool.and_assoc]) hst59.ext
end
section
open Go.RowKit
theorem Ext.below_ {x z:World} (k:Below x.heap.size x z):Ext x z:=⟨k.os,k.tape,k.output,k.size,fun i hi=>k.block i hi⟩
/-- strings, one behind the other -/
def catS (l:List ByteArray):ByteArray:=baOf (l.flatMap fun s=>s.data.toList)
theorem catS_nil:catS []=⟨#[]⟩:=rfl
theorem catS_cons (a:ByteArray) (l:List ByteArray):catS (a::l)=a++catS l:=by
 rw [catS,List.flatMap_cons,baOf_append]; congr 1
theorem catS_size (l:List ByteArray):(catS l).size=(l.map (·.size)).sum:=by
 induction l with
 | nil=>rfl
 | cons a l ih=>rw [catS_cons,ByteArray.size_append,ih,List.map_cons,List.sum_cons]
theorem join_at (g cap:Nat) (xs:List ByteArray) (w:World) (hA:At w (some ⟨g,0,none⟩) (xs.map Value.string)) (hg:g < w.heap.size) (hc:xs.length≤cap) (hlen:(catS xs).size≤2000000) (hN:xs.length≤100):
  Calls Tryz.prog 163 #[.slice (some ⟨g,0,none⟩) xs.length cap, .string ⟨#[]⟩] w (Ret (.string (catS xs)) w):=by
 have hj:Lib.join (xs.map (·.data.toList)) []=xs.flatMap fun s=>s.data.toList:=by
  rw [Lib.join,List.intercalate]
  have:∀ l:List (List UInt8),(List.intersperse [] l).flatten=l.flatten:=by
   intro l
   induction l with
   | nil=>rfl
   | cons a l ih=>
     cases l with
     | nil=>rfl
     | cons b l=>rw [List.intersperse_cons_cons,List.flatten_cons,List.flatten_cons,ih]; simp
  rw [this,List.flatMap_def]
 refine (Tryz.strings_Join g 0 cap xs ⟨#[]⟩ w (fun j x hx=>?_) hg (by omega) hc ?_).mono ?_
 ·obtain ⟨ad,h1,h2,h3⟩:=hA j (.string x) (by simp [hx])
  injection h1 with h1
  subst h1
  have e:(⟨g,0+j,none⟩:Addr)=(⟨g,0,none⟩:Addr).add j:=by simp [Addr.add]
  rw [e]; exact h3
 ·show (Lib.join (xs.map (·.data.toList)) []).length≤ _
  rw [hj]
  have:(xs.flatMap fun s=>s.data.toList).length=(catS xs).size:=(baOf_size _).symm
  omega
 ·rintro e w' ⟨rfl,hb⟩
  refine ⟨?_,Ext.below_ hb⟩
  show Ending.returned (.string ⟨(Lib.join (xs.map (·.data.toList)) []).toArray⟩)= _
  rw [hj]
  rfl
theorem jall_any (g cap:Nat) (xs:List ByteArray) (w:World) (hA:At w (some ⟨g,0,none⟩) (xs.map Value.string)) (hg:g < w.heap.size) (hcp:xs.length≤cap) (hlen:(catS xs).size≤2000000) (hN:xs.length≤100):
  Calls Tryz.prog 119 #[.slice ((some ⟨g,0,none⟩)) xs.length cap] w (Ret (.string (catS xs)) w):=by
 go_enter Tryz.func119,Tryz.ntmps119
 have hst0:=St.start w
 refine wp_seq (sqr (sqp [.k 2 (.string ⟨#[]⟩)] ?_))
 refine then_normal (wp_seq (sqr (sqp [.m 3 0] ?_)))
 refine sqk (.string ((catS xs))) hst0 (fun cx=>⟨_,join_at g cap xs _ (hA.ext cx.upd.to_ext) (Nat.lt_of_lt_of_le hg cx.upd.size) hcp hlen hN,(map2 (cx.ou 3) (cx.co _))⟩) fun W3 hst3=>?_
 refine sqp [.m 2 4] ?_
 refine then_normal (wp_ret ?_)
 refine bpr (.string ((catS xs))) (results_1 Tryz.results119 rpt) ?_
 exact Ret.of rfl hst3.ext
theorem jall_own (v:Value) (xs:List ByteArray) (w:World) (hown:w.ownsRow 0 9 1 v xs.length (xs.map Value.string)) (hne:0 < xs.length) (hlen:(catS xs).size≤2000000) (hN:xs.length≤100):Calls Tryz.prog 119 #[v] w (Ret (.string (catS xs)) w):=by
 have hlt:=hown.lt
 rcases hown.2 with ⟨hv,h0⟩ | ⟨g,cap,cur,hv,hb,hg,hle,hmx,hcs,htk⟩
 ·omega
 ·subst hv
  exact jall_any g cap xs w (At.of_own hown) (hlt g rfl).2 (by omega) hlen hN
theorem jput1_any (n:Int) (w:World):
  Calls Tryz.prog 160 #[.int .i64 n] w (Ret (.string (putS n 1)) w):=by
 go_enter Tryz.func160,Tryz.ntmps160
 have hst0:=St.start w
 refine wp_seq (sqr (sqp [.k 2 (.string ⟨#[]⟩)] ?_))
 refine then_normal (wp_seq (sqr (sqp [.m 3 0] ?_)))
 refine sqk (.string (putS n 1)) hst0 (fun cx=>⟨_,oput1_any n _,(map2 (cx.ou 3) (cx.co _))⟩) fun W3 hst3=>?_
 refine sqp [.m 2 4] ?_
 refine then_normal (wp_ret ?_)
 refine bpr (.string (putS n 1)) (results_1 Tryz.results160 rpt) ?_
 exact Ret.of rfl hst3.ext
theorem jput2_any (n:Int) (w:World):
  Calls Tryz.prog 161 #[.int .i64 n] w (Ret (.string (putS n 2)) w):=by
 go_enter Tryz.func161,Tryz.ntmps161
 have hst0:=St.start w
 refine wp_seq (sqr (sqp [.k 2 (.string ⟨#[]⟩)] ?_))
 refine then_normal (wp_seq (sqr (sqp [.m 3 0] ?_)))
 refine sqk (.string (putS n 2)) hst0 (fun cx=>⟨_,oput2_any n _,(map2 (cx.ou 3) (cx.co _))⟩) fun W3 hst3=>?_
 refine sqp [.m 2 4] ?_
 refine then_normal (wp_ret ?_)
 refine bpr (.string (putS n 2)) (results_1 Tryz.results161 rpt) ?_
 exact Ret.of rfl hst3.ext
end
end Go.Proofs.YtcdjaepgahbhfaaGreat

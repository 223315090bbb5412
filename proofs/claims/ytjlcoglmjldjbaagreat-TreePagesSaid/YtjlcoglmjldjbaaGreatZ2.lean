/- TreePagesRow: part 2 of the proof. -/
import Derived.Test.YtjlcoglmjldjbaaGreatZ1
import Derived.Deep.QuietTactic
import Derived.BigQuiet
set_option linter.unusedVariables false
set_option linter.unusedSimpArgs false
set_option maxRecDepth 100000
set_option maxHeartbeats 16000000
namespace Go.Proofs.YtjlcoglmjldjbaaGreat
section
open Go.RowKit
theorem St.one {W W':World} {E:Ent} (hx:Ext W W') (h:E.holds W'∧E.loc∧∀ k∈E.fp,W.heap.size≤k∧k < W'.heap.size):St W [] [E] W':=
 ⟨Upd.of_ext hx,fun e he=>by rw [List.mem_singleton] at he; subst he; exact ⟨h.1,h.2.1,fun k hk=>⟨.inr (h.2.2 k hk).1,(h.2.2 k hk).2⟩⟩,List.pairwise_singleton _ _⟩
theorem CtxV.triv {ops:Array Oper} {A:List Nat} {a0:Act} {w0:World} {bor:List Nat} {X0:List Ent} {us:List (List Nat)} {D D':Nat→(Tmp→Value)→(Tmp→Value)→(Nat→Ent)→Prop} {i:Nat} {ρ:Operand→Value} {β:Tmp→Value} {W:World} {X:Nat→Ent} (h:CtxV ops A a0 w0 bor X0 us D i ρ β W X) (hD:∀ j σ β X,D' j σ β X):CtxV ops A a0 w0 bor X0 us D' i ρ β W X:=
 ⟨h.sees,h.upd,h.out,fun _ _=>hD _ _ _ _,h.init,h.ok,h.ap⟩
section
variable {P:Program} {Q:Exit→Act→World→Prop} {rest:List Oper} {o:Oper} {ops:Array Oper} {t:List Value} {d0:List Deferred} {w0 w:World} {bor:List Nat} {L:List Ent}
theorem sqkN {Z:Type} {d:Tmp} (V:Z→Value) (E:Z→Ent) (hst:St w0 bor L w) {c:Call} {f:FuncId} (hs:∀ {ρ:Operand→Value} {β:Tmp→Value} {W:World} {X:Nat→Ent},CtxV #[o] [0] ⟨t.toArray,d0⟩ w0 bor L (rg L) (fun _ _ _ _=>True) 0 ρ β W X→∃ args,Calls P f args W (fun e W'=>∃ z,e= .returned (V z)∧St W [] [E z] W')∧(argsOf o.op).map ρ=args)
  (h:∀ z w',St w0 bor (L++[E z]) w'→wpList P ops Q rest ⟨(t.set d (V z)).toArray,d0⟩ w') (hop:o.op= .call c) (hcal:c.callee= .value (.func f)) (hg:o.guard=none) (hd:o.dst=some d) (hf:callP P f=true):wpList P ops Q (o::rest) ⟨t.toArray,d0⟩ w:=by
 refine wpList_plain hg fun K hK=>?_
 obtain ⟨args,hc,hm⟩:=hs (sqCtx hst fun _=>undef)
 rw [hop] at hm
 refine DoesU.wp (post:=fun v w'=>∃ z,v=V z∧St w [] [E z] w') (DoesU.call (run_callF hop (sqCtx (o:=o) (D:=fun _ _ _ _=>True) hst fun _=>undef).sees hcal hf hm) (hc.mono ?_)) fun v w' ⟨z,e1,hs1⟩=>hK _ _ ?_
 ·rintro e W1 ⟨z,rfl,h1⟩
  exact ⟨_,rfl,z,rfl,h1⟩
 ·subst e1
  rw [hd]
  show wpList P ops Q rest ⟨t.toArray.setIfInBounds d (V z),d0⟩ w'
  rw [List.setIfInBounds_toArray]
  have h2:=sqSt (kl:=[]) (N:=[E z]) hst (fun q hq=>by cases hq) ⟨hs1.upd,fun e he=>⟨(hs1.ok e he).holds,(hs1.ok e he).loc,fun k hk=>⟨((hs1.ok e he).own k hk).1,((hs1.ok e he).own k hk).2⟩⟩,hs1.apart⟩
  rw [remQ_nil] at h2
  exact h z w' h2
theorem sqk1 {Z:Type} {d:Tmp} {L':Z→List Ent} {t':Z→List Value} (V:Z→Value) (E:Z→Ent) (hst:St w0 bor L w) {c:Call} {f:FuncId} (hs:∀ {ρ:Operand→Value} {β:Tmp→Value} {W:World} {X:Nat→Ent},CtxV #[o] [0] ⟨t.toArray,d0⟩ w0 bor L (rg L) (fun _ _ _ _=>True) 0 ρ β W X→∃ args,Calls P f args W (fun e W'=>∃ z0,e= .returned (V z0)∧St W [] [E z0] W')∧(argsOf o.op).map ρ=args)
  (h:∀ z0 w',St w0 bor (L' z0) w'→wpList P ops Q rest ⟨(t' z0).toArray,d0⟩ w') (hop:o.op= .call c:=by rfl) (hcal:c.callee= .value (.func f):=by rfl) (hg:o.guard=none:=by rfl) (hd:o.dst=some d:=by rfl) (ht:∀ z0,t.set d (V z0)=(t' z0):=by intro z0; dsimp only [List.set]) (hL:∀ z0,L++[E z0]=(L' z0):=by intro z0; dsimp only [List.cons_append,List.nil_append]) (hf:callP P f=true:=by kernel_rfl):
  wpList P ops Q (o::rest) ⟨t.toArray,d0⟩ w:=
 sqkN (Z:=Z) (fun r=>V r) (fun r=>E r) hst (fun cx=>let ⟨args,h1,h2⟩:=hs cx; ⟨args,h1.mono (fun e W' ⟨z0,h1,h2⟩=>⟨z0,h1,h2⟩),h2⟩) (fun r w' hw=>by rw [ht]; exact h r w' (hL r ▸ hw)) hop hcal hg hd hf
theorem sqk1s {Z:Type} {R:Type} {d:Tmp} {L':Z→R→List Ent} {t':Z→List Value} (V:Z→Value) (E:Z→R→Ent) (hst:St w0 bor L w) {c:Call} {f:FuncId} (hs:∀ {ρ:Operand→Value} {β:Tmp→Value} {W:World} {X:Nat→Ent},CtxV #[o] [0] ⟨t.toArray,d0⟩ w0 bor L (rg L) (fun _ _ _ _=>True) 0 ρ β W X→∃ args,Calls P f args W (fun e W'=>∃ z0 r,e= .returned (V z0)∧St W [] [E z0 r] W')∧(argsOf o.op).map ρ=args)
  (h:∀ z0 r w',St w0 bor (L' z0 r) w'→wpList P ops Q rest ⟨(t' z0).toArray,d0⟩ w') (hop:o.op= .call c:=by rfl) (hcal:c.callee= .value (.func f):=by rfl) (hg:o.guard=none:=by rfl) (hd:o.dst=some d:=by rfl) (ht:∀ z0,t.set d (V z0)=(t' z0):=by intro z0; dsimp only [List.set]) (hL:∀ z0 r,L++[E z0 r]=(L' z0 r):=by intro z0 r; dsimp only [List.cons_append,List.nil_append]) (hf:callP P f=true:=by kernel_rfl):
  wpList P ops Q (o::rest) ⟨t.toArray,d0⟩ w:=
 sqkN (Z:=Z×R) (fun r=>V r.1) (fun r=>E r.1 r.2) hst (fun cx=>let ⟨args,h1,h2⟩:=hs cx; ⟨args,h1.mono (fun e W' ⟨z0,r,h1,h2⟩=>⟨(z0,r),h1,h2⟩),h2⟩) (fun r w' hw=>by rw [ht]; exact h r.1 r.2 w' (hL r.1 r.2 ▸ hw)) hop hcal hg hd hf
theorem sqk2 {Z:Type} {Y:Type} {d:Tmp} {L':Z→Y→List Ent} {t':Z→Y→List Value} (V:Z→Y→Value) (E:Z→Y→Ent) (hst:St w0 bor L w) {c:Call} {f:FuncId} (hs:∀ {ρ:Operand→Value} {β:Tmp→Value} {W:World} {X:Nat→Ent},CtxV #[o] [0] ⟨t.toArray,d0⟩ w0 bor L (rg L) (fun _ _ _ _=>True) 0 ρ β W X→∃ args,Calls P f args W (fun e W'=>∃ z0 z1,e= .returned (V z0 z1)∧St W [] [E z0 z1] W')∧(argsOf o.op).map ρ=args)
  (h:∀ z0 z1 w',St w0 bor (L' z0 z1) w'→wpList P ops Q rest ⟨(t' z0 z1).toArray,d0⟩ w') (hop:o.op= .call c:=by rfl) (hcal:c.callee= .value (.func f):=by rfl) (hg:o.guard=none:=by rfl) (hd:o.dst=some d:=by rfl) (ht:∀ z0 z1,t.set d (V z0 z1)=(t' z0 z1):=by intro z0 z1; dsimp only [List.set]) (hL:∀ z0 z1,L++[E z0 z1]=(L' z0 z1):=by intro z0 z1; dsimp only [List.cons_append,List.nil_append]) (hf:callP P f=true:=by kernel_rfl):
  wpList P ops Q (o::rest) ⟨t.toArray,d0⟩ w:=
 sqkN (Z:=Z×Y) (fun r=>V r.1 r.2) (fun r=>E r.1 r.2) hst (fun cx=>let ⟨args,h1,h2⟩:=hs cx; ⟨args,h1.mono (fun e W' ⟨z0,z1,h1,h2⟩=>⟨(z0,z1),h1,h2⟩),h2⟩) (fun r w' hw=>by rw [ht]; exact h r.1 r.2 w' (hL r.1 r.2 ▸ hw)) hop hcal hg hd hf
theorem sqk2s {Z:Type} {Y:Type} {R:Type} {d:Tmp} {L':Z→Y→R→List Ent} {t':Z→Y→List Value} (V:Z→Y→Value) (E:Z→Y→R→Ent) (hst:St w0 bor L w) {c:Call} {f:FuncId} (hs:∀ {ρ:Operand→Value} {β:Tmp→Value} {W:World} {X:Nat→Ent},CtxV #[o] [0] ⟨t.toArray,d0⟩ w0 bor L (rg L) (fun _ _ _ _=>True) 0 ρ β W X→∃ args,Calls P f args W (fun e W'=>∃ z0 z1 r,e= .returned (V z0 z1)∧St W [] [E z0 z1 r] W')∧(argsOf o.op).map ρ=args)
  (h:∀ z0 z1 r w',St w0 bor (L' z0 z1 r) w'→wpList P ops Q rest ⟨(t' z0 z1).toArray,d0⟩ w') (hop:o.op= .call c:=by rfl) (hcal:c.callee= .value (.func f):=by rfl) (hg:o.guard=none:=by rfl) (hd:o.dst=some d:=by rfl) (ht:∀ z0 z1,t.set d (V z0 z1)=(t' z0 z1):=by intro z0 z1; dsimp only [List.set]) (hL:∀ z0 z1 r,L++[E z0 z1 r]=(L' z0 z1 r):=by intro z0 z1 r; dsimp only [List.cons_append,List.nil_append]) (hf:callP P f=true:=by kernel_rfl):
  wpList P ops Q (o::rest) ⟨t.toArray,d0⟩ w:=
 sqkN (Z:=Z×Y×R) (fun r=>V r.1 r.2.1) (fun r=>E r.1 r.2.1 r.2.2) hst (fun cx=>let ⟨args,h1,h2⟩:=hs cx; ⟨args,h1.mono (fun e W' ⟨z0,z1,r,h1,h2⟩=>⟨(z0,z1,r),h1,h2⟩),h2⟩) (fun r w' hw=>by rw [ht]; exact h r.1 r.2.1 r.2.2 w' (hL r.1 r.2.1 r.2.2 ▸ hw)) hop hcal hg hd hf
/-- a call that changes one block -/
theorem sqkm {d:Tmp} {L':List Ent} {t':List Value} {b ty:Nat} {cs:Array Value} (V:Value) (q:Nat) (cs':Array Value) (hst:St w0 bor L w) {c:Call} {f:FuncId} (hs:∀ {ρ:Operand→Value} {β:Tmp→Value} {W:World} {X:Nat→Ent},CtxV #[o] [0] ⟨t.toArray,d0⟩ w0 bor L (rg L) (fun _ _ _ _=>True) 0 ρ β W X→∃ args,Calls P f args W (fun e W'=>e= .returned V∧Upd [b] W W'∧Blk W' b ty cs')∧(argsOf o.op).map ρ=args)
  (h:∀ w',St w0 bor L' w'→wpList P ops Q rest ⟨t'.toArray,d0⟩ w') (hq:L[q]? =some (eB b ty cs):=by rfl) (hop:o.op= .call c:=by rfl) (hcal:c.callee= .value (.func f):=by rfl) (hg:o.guard=none:=by rfl) (hd:o.dst=some d:=by rfl) (ht:t.set d V=t':=by dsimp only [List.set]) (hL:L.set q (eB b ty cs')=L':=by dsimp only [List.set]) (hf:callP P f=true:=by kernel_rfl):wpList P ops Q (o::rest) ⟨t.toArray,d0⟩ w:=by
 have hql:q < L.length:=(List.getElem?_eq_some_iff.1 hq).1
 refine sqc0 V (eB b ty cs') q hst (svA (o:=o) (fun ρ β W X cx=>?_) rfl hg) h (ht:=ht) (hL:=hL) (hk:=by simpa using hql) (hg:=hg) (hd:=hd)
 obtain ⟨args,hc,hm⟩:=hs (cx.triv fun _ _ _ _=>trivial)
 rw [hop] at hm
 refine DoesU.call (run_callF hop cx.sees hcal hf hm) (hc.mono ?_)
 rintro e W1 ⟨rfl,hu,hb⟩
 exact ⟨_,rfl,post_mut (cx.init q _ hq) rfl rfl hu hb (fun σ β' X' hs hb hv hx=>⟨(hv d hd).1,hx⟩)⟩
/-- a row written out, its elements of several cells -/
theorem sqli {d:Tmp} {ty:TypeId} {parts:Array (Nat×Operand)} {L':Nat→List Ent} {t':Nat→List Value} (e sz n:Nat) (xs:List Value) (hst:St w0 bor L w)
  (hr:∀ {ρ:Operand→Value} {β:Tmp→Value} {W:World} {X:Nat→Ent},CtxV #[o] [0] ⟨t.toArray,d0⟩ w0 bor L (rg L) (fun _ _ _ _=>True) 0 ρ β W X→(execOp ρ o).run P W= .ok (.value (.slice (some ⟨W.heap.size,0,none⟩) n n)) (W.alloc (.cells xs.toArray e)))
  (h:∀ B w',St w0 bor (L' B) w'→wpList P ops Q rest ⟨(t' B).toArray,d0⟩ w') (hop:o.op= .buildSlice ty n parts:=by rfl) (hg:o.guard=none:=by rfl) (hd:o.dst=some d:=by rfl) (ht:∀ B,t.set d (.slice (some ⟨B,0,none⟩) n n)=t' B:=by intro B; dsimp only [List.set]) (hL:∀ B,L++[eO e sz (.slice (some ⟨B,0,none⟩) n n) n xs]=L' B:=by intro B; dsimp only [List.cons_append,List.nil_append])
  (hn:xs.length=n*sz:=by rfl) (hm:n≤maxLen:=by decide):wpList P ops Q (o::rest) ⟨t.toArray,d0⟩ w:=
 sqn1 pb' _ _ hst (svA (o:=o) (fun ρ β W X cx=>dv_litN hop (hr (cx.triv fun _ _ _ _=>trivial)) hn hm hd rfl (fun σ β' X' hs hb hv hx=>⟨hv,hx⟩)) rfl hg) h (ht:=ht) (hL:=hL) (hg:=hg) (hd:=hd)
/-- append of elements of several cells -/
theorem sqap {d ty:Tmp} {e sz n m bytes cp:Nat} {z:Value} {A0:Option Addr} {c0:Nat} {a:Addr} {xs news:List Value} {x y:Operand} {L':Option Addr→Nat→List Ent} {t':Option Addr→Nat→List Value} (nm:Nat) (xs':List Value) (q:Nat) (hst:St w0 bor L w)
  (hinf:(P.info? e).map (fun i=>(i.zero,i.size,i.bytes))=some (some z,sz,bytes)) (hA:∀ {ρ:Operand→Value} {β:Tmp→Value} {W:World} {X:Nat→Ent},CtxV #[o] [0] ⟨t.toArray,d0⟩ w0 bor L (rg L) (fun _ _ _ _=>True) 0 ρ β W X→At W (some a) news)
  (h:∀ A c w',St w0 bor (L' A c) w'→wpList P ops Q rest ⟨(t' A c).toArray,d0⟩ w') (hop:o.op= .call {callee:= .builtin .append,args:=#[x,y],argTypes:=#[ty,ty]}:=by rfl) (hx:Act.eval ⟨t.toArray,d0⟩ x= .slice A0 n c0:=by rfl) (hy:Act.eval ⟨t.toArray,d0⟩ y= .slice (some a) m cp:=by rfl) (hq:L[q]? =some (eO e sz (.slice A0 n c0) n xs):=by rfl)
  (hg:o.guard=none:=by rfl) (hd:o.dst=some d:=by rfl) (ht:∀ A c,t.set d (.slice A nm c)=t' A c:=by intro A c; dsimp only [List.set]) (hL:∀ A c,L.set q (eO e sz (.slice A nm c) nm xs')=L' A c:=by intro A c; dsimp only [List.set]) (hl:news.length=m*sz:=by rfl) (h1:∀ u∈news,u.oneCell'=true:=by simp [Value.oneCell']) (h63:n+m≤maxLen:=by simp only [maxLen]; omega) (hbytes:(n+m)*bytes≤140737488355328:=by omega) (hnm:n+m=nm:=by omega) (hxs:xs++news=xs':=by rfl)
  (hu:P.underlying ty=some (.slice e):=by kernel_rfl) (hz:z.cells.size=sz:=by rfl) (hsz:Nat.blt 0 sz=true:=by rfl):wpList P ops Q (o::rest) ⟨t.toArray,d0⟩ w:=by
 have hql:q < L.length:=(List.getElem?_eq_some_iff.1 hq).1
 obtain ⟨i0,hi0,hz0,hz1,hz2⟩:=info_parts hinf
 refine sqD (D:=fun _ σ β X=>σ d= .slice (sA (β d)) nm (sC (β d))∧X L.length=eO e sz (.slice (sA (β d)) nm (sC (β d))) nm xs') 1 [q] hst ?_ hg (fun z hz=>by rw [List.mem_singleton.1 hz]; exact hql) fun σ β X v w' hD hv hs'=>?_
 ·exact dv_appendN hop rfl hu hi0 hz0 hz1 hz2 hz (by simpa using hsz) hx (sqCtx (o:=o) hst _) (by rw [List.getD_eq_getElem?_getD,hq]; rfl) (by simp [atV]; exact hql) hy hl (hA (sqCtx hst fun _=>undef)) h1 h63 hbytes hd rfl rfl hnm hxs (fun σ β' X' hs hb hv hx=>⟨hv,hx⟩)
 ·rw [(hv d hd).1,(hv d hd).2] at hD
  have h2:=h (sA v) (sC v) w' (by rw [← hL,← hD.2]; exact hs'.perm (rem_perm _ q L 0 (Nat.zero_le _) (by simpa using hql)))
  rw [← ht,← hD.1] at h2
  rw [hd]
  show wpList P ops Q rest ⟨t.toArray.setIfInBounds d v,d0⟩ w'
  rw [List.setIfInBounds_toArray]
  exact h2
end
end
section
open Go.RowKit
def trimN (ss:List ByteArray):Nat→Nat
 | 0=>0
 | n+1=>if (ss.getD n ByteArray.empty).toList.isEmpty then trimN ss n else n+1
theorem trimN_le (ss:List ByteArray):∀ n,trimN ss n≤n
 | 0=>Nat.le_refl _
 | n+1=>by unfold trimN; split; exact Nat.le_succ_of_le (trimN_le ss n); exact Nat.le_refl _
theorem trimN_succ (ss:List ByteArray) (n:Nat):trimN ss (n+1)=if (ss.getD n ByteArray.empty).toList.isEmpty then trimN ss n else n+1:=rfl
def plainL (ss:List ByteArray):List ByteArray:=ss.take (trimN ss ss.length)
theorem plainL_len (ss:List ByteArray):(plainL ss).length=trimN ss ss.length:=by
 simp only [plainL,List.length_take]; exact Nat.min_eq_left (trimN_le ss _)
theorem Tryz.infoStr:(Tryz.prog.info? 9).map (fun i=>(i.zero,i.size,i.bytes))=some (some (.string ByteArray.empty),1,16):=by kernel_rfl
theorem Tryz.sizeStr:(Tryz.prog.info? 9).map (·.size)=some 1:=by kernel_rfl
theorem take_min (ss:List ByteArray) (k:Nat):((ss.take k).map Value.string).length=Nat.min ss.length k:=by
 rw [List.length_map,List.length_take]; exact Nat.min_comm _ _
/-- what make and copy leave -/
theorem plain_end {w w1 w2:World} {ss:List ByteArray} {k:Nat} (hk:k≤ss.length) (hb:ss.length≤100000) (ht:k=trimN ss ss.length) (hg1:w.grownBy w1 none)
  (h2:w2.heap[w.heap.size]? =some (.cells (splice (List.replicate k (Value.string ByteArray.empty)) 0 ((ss.take k).map Value.string)).toArray 9 (0,0))) (hb2:Below w.heap.size w1 w2):
  w2.ownsRow w.heap.size 9 1 (.slice (some ⟨w.heap.size,0,none⟩) k k) k ((plainL ss).map Value.string)∧Ext w w2∧(plainL ss).length=k:=by
 have hl:(plainL ss).length=k:=by rw [plainL_len,ht]
 have e:splice (List.replicate k (Value.string ByteArray.empty)) 0 ((ss.take k).map Value.string)=(plainL ss).map Value.string:=by
  subst ht
  simp [splice,plainL,Nat.min_eq_left (trimN_le ss ss.length)]
 rw [e] at h2
 exact ⟨own_of_block h2 (Nat.le_refl _) (by simp [hl]) (by simp only [maxLen]; omega),((Ext.refl w).grown hg1 (by simp)).out.trans hb2,hl⟩
theorem plain_any (A:Option Addr) (c:Nat) (ss:List ByteArray) (w:World) (h:At w A (ss.map Value.string)) (hl:ss.length≤100000):
  Calls Tryz.prog 84 #[.slice A ss.length c] w fun e w'=>e= .returned (.slice (some ⟨w.heap.size,0,none⟩) (plainL ss).length (plainL ss).length)∧
   w'.ownsRow w.heap.size 9 1 (.slice (some ⟨w.heap.size,0,none⟩) (plainL ss).length (plainL ss).length) (plainL ss).length ((plainL ss).map Value.string)∧Ext w w':=by
 obtain ⟨i0,hi0,hz0,hz1,hz2⟩:=info_parts Tryz.infoStr
 have H:=Lib.hid h; clear h
 go_enter Tryz.func84,Tryz.ntmps84
 go_wp2
 go_loop [3] (fun i=>∃ k:Nat,k≤ss.length∧i= .int .i64 k∧trimN ss k=trimN ss ss.length) (fun i=>(intOf i).toNat)
 case atStart=>exact ⟨_,Nat.le_refl _,rfl,rfl⟩
 case round=>
  obtain ⟨k,hk,rfl,ht⟩:=hrel
  have Ht:=Lib.hid ht; clear ht
  rcases k with _ | k
  ·go_wp2_with (first
    | (at_make; go_must (refine wpList_make_full _ rfl (.tmp 19) (.tmp 19) 56 rfl w.heap.size 9 i0 _ 1 Tryz.underlying56 hi0 hz0 hz1 .i64 .i64 _ _ 0 rfl rfl rfl rfl (by rw [hz2]; omega) (by simp only [maxLen]; omega) (Nat.le_refl _) ?_); intro w1 hown1 hg1; have hm1:=own_made hown1; clear hown1)
    | (with_reducible refine wpList_copy_splice rfl (.tmp 21) (.tmp 22) 56 56 rfl 9 Tryz.underlying56 Tryz.sizeStr _ _ _ _ _ _ rfl rfl w.heap.size 0 _ 9 hm1 [] (by simp) (by simp) (by simp) (by simp) w.heap.size w1 (Below.refl _ _) (Nat.le_refl _) ?_; intro w2 hh2 hb2))
   go_ret
   have R:=plain_end (k:=0) (Nat.zero_le _) hl Ht.out hg1 hh2.out hb2
   rw [R.2.2]
   exact ⟨rfl,R.1,R.2.1⟩
  ·have hs:(ss.map Value.string)[k]? =some (.string (ss.getD k ByteArray.empty)):=by simp [List.getD,List.getElem?_eq_getElem (show k < ss.length by omega)]
   obtain ⟨ad,rfl,hb,hc⟩:=H.out _ _ hs
   clear hs
   obtain ⟨s,hs⟩:∃ s,s=ss.getD k ByteArray.empty:=⟨_,rfl⟩
   rw [← hs] at hc
   have Hs:=Lib.hid hs; clear hs
   go_wp2_with (first
    | (at_make; go_must (refine wpList_make_full _ rfl (.tmp 19) (.tmp 19) 56 rfl w.heap.size 9 i0 _ 1 Tryz.underlying56 hi0 hz0 hz1 .i64 .i64 _ _ (k+1) rfl rfl (by omega) (by omega) (by rw [hz2]; omega) (by simp only [maxLen]; omega) (Nat.le_refl _) ?_); intro w1 hown1 hg1; have hm1:=own_made hown1; clear hown1)
    | (with_reducible refine wpList_copy_splice rfl (.tmp 21) (.tmp 22) 56 56 rfl 9 Tryz.underlying56 Tryz.sizeStr _ _ _ _ _ _ rfl rfl w.heap.size 0 _ 9 hm1 ((ss.take (k+1)).map Value.string) (take_min _ _) (fun _=>⟨rfl, _,rfl,fun j v hj=>((At.take H.out (k+1)).ext ((Ext.refl w).grown hg1 (by simp))).at_ j v (by simpa using hj)⟩) (by simp; omega) (str_one _) w.heap.size w1 (Below.refl _ _) (Nat.le_refl _) ?_; intro w2 hh2 hb2))
   ·have hemp:s.toList.isEmpty=true:=by assumption
    go_round
    case rel=>exact ⟨k,by omega,rfl,by rw [← Ht.out,trimN_succ,← Hs.out,if_pos hemp]⟩
    case measure=>simp [intOf]
   ·have hemp:s.toList.isEmpty=false:=by assumption
    go_ret
    have R:=plain_end (k:=k+1) hk hl (by rw [← Ht.out,trimN_succ,← Hs.out,hemp]; rfl) hg1 hh2.out hb2
    rw [R.2.2]
    exact ⟨rfl,R.1,R.2.1⟩
end
section
open Go.RowKit
def sizeT (ss:List ByteArray):Nat:=(ss.map fun s=>2+s.size).sum
theorem sizeT_take_succ (ss:List ByteArray) (k:Nat) (h:k < ss.length):sizeT (ss.take (k+1))=sizeT (ss.take k)+(2+ss[k].size):=by
 unfold sizeT
 rw [List.take_succ_eq_append_getElem h,List.map_append,List.sum_append]
 simp only [List.map_cons,List.map_nil,List.sum_cons,List.sum_nil,Nat.add_zero]
theorem sizeT_le (ss:List ByteArray) (B:Nat) (h:∀ s∈ss,s.size≤B):sizeT ss≤ss.length*(2+B):=by
 unfold sizeT
 induction ss with
 | nil=>simp
 | cons a l ih=>
   have h1:=h a (by simp)
   have h2:=ih fun s hs=>h s (by simp [hs])
   simp only [List.map_cons,List.sum_cons,List.length_cons,Nat.add_mul]
   omega
def sizeL (ss:List ByteArray):Nat:=14+sizeT (plainL ss)
def Small (ss:List ByteArray):Prop:=ss.length≤100000∧∀ s∈ss,s.size≤1000000
theorem Small.plain {ss:List ByteArray} (h:Small ss):Small (plainL ss):=
 ⟨by have:=plainL_len ss; have:=trimN_le ss ss.length; have:=h.1; omega,fun s hs=>h.2 s (List.mem_of_mem_take hs)⟩
theorem Small.take {ss:List ByteArray} (h:Small ss) (k:Nat):sizeT (ss.take k)≤100000*1000002:=by
 have h1:=sizeT_le (ss.take k) 1000000 fun s hs=>h.2 s (List.mem_of_mem_take hs)
 have h2:(ss.take k).length≤100000:=by have:=h.1; simp; omega
 exact Nat.le_trans h1 (Nat.mul_le_mul h2 (by omega))
theorem size_any (A:Option Addr) (c:Nat) (ss:List ByteArray) (w:World) (h:At w A (ss.map Value.string)) (hs:Small ss):
  Calls Tryz.prog 113 #[.slice A ss.length c] w fun e w'=>e= .returned (.int .i64 (sizeL ss))∧Ext w w':=by
 have H:=Lib.hid h; clear h
 have HS:=Lib.hid hs; clear hs
 go_enter Tryz.func113,Tryz.ntmps113
 go_wp2_with (go_at_call 84; refine (plain_any _ _ _ _ H.out HS.out.1).mono ?_; rintro e w1 ⟨rfl,hown,hext⟩; have Hown:=Lib.hid hown; clear hown; have Hext:=Lib.hid hext; clear hext)
 have hsm:=Small.plain HS.out
 have hpl:(plainL ss).length≤100000:=hsm.1
 have Hp:=Lib.hid hsm; clear hsm
 obtain ⟨ps,hps⟩:∃ ps,ps=plainL ss:=⟨_,rfl⟩
 rw [← hps] at Hown Hp hpl ⊢
 have Hps:=Lib.hid hps; clear hps
 go_loop [3,9] (fun n i=>∃ k:Nat,k≤ps.length∧i= .int .i64 k∧n= .int .i64 ((14+sizeT (ps.take k):Nat):Int)) (fun _ i=>ps.length - (intOf i).toNat)
 case atStart=>exact ⟨0,Nat.zero_le _,rfl,rfl⟩
 case round=>
  obtain ⟨k,hk,rfl,rfl⟩:=hrel
  have hb:=Small.take Hp.out k
  rcases Nat.lt_or_ge k ps.length with hlt | hge
  ·have hc:=(At.of_own Hown.out).get0 (k:=k) (by simpa using hlt)
   have hsz:(ps[k]).size≤1000000:=Hp.out.2 _ (List.getElem_mem hlt)
   have Hn:=Lib.hid (sizeT_take_succ ps k hlt)
   obtain ⟨s,hs⟩:∃ s,s=ps[k]:=⟨_,rfl⟩
   rw [← hs] at hsz Hn
   rw [List.getElem_map,← hs] at hc
   clear hs
   obtain ⟨t,ht⟩:∃ t,t=sizeT (ps.take k):=⟨_,rfl⟩
   rw [← ht] at Hn hb ⊢
   clear ht
   go_wp2
   go_round
   case rel=>exact ⟨k+1,by omega,by go_num,by rw [Hn.out]; go_num⟩
   case measure=>simp [intOf]; omega
  ·obtain rfl:k=ps.length:=by omega
   go_wp2
   go_ret
   exact ⟨ret_int (by rw [sizeL,← Hps.out]; omega),Hext.out⟩
end
section
open Go.RowKit
def longB (ss:List ByteArray):Bool:=ss.any fun s=>decide (400 < s.size)
theorem longB_take_succ (ss:List ByteArray) (k:Nat) (h:k < ss.length):longB (ss.take (k+1))=(longB (ss.take k)||decide (400 < ss[k].size)):=by
 unfold longB
 rw [List.take_succ_eq_append_getElem h]
 simp only [List.any_append,List.any_cons,List.any_nil,Bool.or_false]
def IdxPost (ss:List ByteArray) (w:World) (e:Ending) (w':World):Prop:=∃ r:Int,e= .returned (.int .i64 r)∧(0≤r↔longB ss=true)∧w=w'
theorem longB_of (ss:List ByteArray) (k:Nat) (h:k < ss.length) (hl:400 < ss[k].size):longB ss=true:=by
 unfold longB
 rw [List.any_eq_true]
 exact ⟨ss[k],List.getElem_mem h,by simpa using hl⟩
theorem long_any (s:ByteArray) (w:World) (hs:s.size≤9223372036854775807):
  Calls Tryz.prog 111 #[.string s] w fun e w'=>e= .returned (.bool (decide (400 < s.size)))∧w=w':=by
 go_enter Tryz.func111,Tryz.ntmps111
 go_wp2
 go_ret
 exact ⟨ret_bool (by simp only [decide_eq_decide]; omega),rfl⟩
theorem index_any (A:Option Addr) (c:Nat) (ss:List ByteArray) (w:World) (h:At w A (ss.map Value.string)) (hs:Small ss):
  Calls Tryz.prog 128 #[.slice A ss.length c, .func (.func 111) #[] #[]] w (IdxPost ss w):=by
 have H:=Lib.hid h; clear h
 have hl:=hs.1
 have HS:=Lib.hid hs; clear hs
 go_enter Tryz.func128,Tryz.ntmps128
 go_wp2
 go_loop [8] (fun i=>∃ k:Nat,k≤ss.length∧i= .int .i64 k∧longB (ss.take k)=false) (fun i=>ss.length - (intOf i).toNat)
 case atStart=>exact ⟨0,Nat.zero_le _,rfl,rfl⟩
 case round=>
  obtain ⟨k,hk,rfl,ht⟩:=hrel
  have Ht:=Lib.hid ht; clear ht
  rcases Nat.lt_or_ge k ss.length with hlt | hge
  ·obtain ⟨ad,rfl, _,hc⟩:=H.out.get (k:=k) (by simpa using hlt)
   rw [List.getElem_map] at hc
   have hsz:(ss[k]).size≤1000000:=HS.out.2 _ (List.getElem_mem hlt)
   obtain ⟨s,hs⟩:∃ s,s=ss[k]:=⟨_,rfl⟩
   rw [← hs] at hc hsz
   have Hs:=Lib.hid hs; clear hs
   rcases Nat.lt_or_ge 400 s.size with h4 | h4
   ·have hd:decide (400 < s.size)=true:=by simpa using h4
    go_wp2_with (go_at_call 111; refine (long_any _ _ (by omega)).mono ?_; rintro e w1 ⟨rfl,rfl⟩)
    go_ret
    exact ⟨_,rfl,⟨fun _=>longB_of ss k hlt (by rw [← Hs.out]; exact h4),fun _=>by omega⟩,rfl⟩
   ·have hd:decide (400 < s.size)=false:=by simpa using h4
    have hn:longB (ss.take (k+1))=false:=by rw [longB_take_succ ss k hlt,Ht.out,← Hs.out,hd]; rfl
    have Hn:=Lib.hid hn; clear hn
    go_wp2_with (go_at_call 111; refine (long_any _ _ (by omega)).mono ?_; rintro e w1 ⟨rfl,rfl⟩)
    go_round
    case rel=>exact ⟨k+1,by omega,by go_num,Hn.out⟩
    case measure=>simp [intOf]; omega
  ·obtain rfl:k=ss.length:=by omega
   rw [List.take_length] at Ht
   go_wp2
   go_ret
   exact ⟨-1,rfl,⟨fun h=>absurd h (by decide),fun h=>by rw [Ht.out] at h; cases h⟩,rfl⟩
theorem contains_any (A:Option Addr) (c:Nat) (ss:List ByteArray) (w:World) (h:At w A (ss.map Value.string)) (hs:Small ss):
  Calls Tryz.prog 112 #[.slice A ss.length c, .func (.func 111) #[] #[]] w fun e w'=>e= .returned (.bool (longB ss))∧w=w':=by
 have H:=Lib.hid h; clear h
 have HS:=Lib.hid hs; clear hs
 go_enter Tryz.func112,Tryz.ntmps112
 go_wp2_with (go_at_call 128; refine (index_any _ _ _ _ H.out HS.out).mono ?_; rintro e w1 ⟨r,rfl,hr,rfl⟩; have Hr:=Lib.hid hr; clear hr)
 go_ret
 refine ⟨ret_bool ?_,rfl⟩
 rw [Bool.eq_iff_iff,← Hr.out,decide_eq_true_iff]
def rightB (k l:Int) (ss:List ByteArray):Bool:=
 decide (0≤k)&&(decide (k≤2)&&(decide (0≤l)&&(decide (l≤2147483647)&&(decide (ss.length≤24)&&(!longB ss&&decide (sizeL ss≤512))))))
def Ret1 (v:Value) (w:World) (e:Ending) (w':World):Prop:=e= .returned v∧Ext w w'
theorem Ret1.bool {a b:Bool} {w w1:World} (h:a=b) (hx:Ext w w1):Ret1 (.bool b) w (.returned (.bool a)) w1:=⟨by rw [h],hx⟩
theorem Ret1.int {k:IntKind} {a b:Int} {w w1:World} (h:a=b) (hx:Ext w w1):Ret1 (.int k b) w (.returned (.int k a)) w1:=⟨by rw [h],hx⟩
theorem right_any (k l:Int) (A:Option Addr) (c:Nat) (ss:List ByteArray) (w:World) (h:At w A (ss.map Value.string)) (hs:Small ss):
  Calls Tryz.prog 82 #[.agg #[.int .i64 k, .int .i64 l, .slice A ss.length c]] w (Ret1 (.bool (rightB k l ss)) w):=by
 have H:=Lib.hid h; clear h
 have hl:=hs.1
 have HS:=Lib.hid hs; clear hs
 have X0:=Lib.hid ((Ext.refl w).alloc (.cells #[.int .i64 k, .int .i64 l, .slice A ss.length c] 102))
 by_cases h1:0≤k
 ·by_cases h2:k≤2
  ·by_cases h3:0≤l
   ·by_cases h4:l≤2147483647
    ·by_cases h5:ss.length≤24
     ·have h5':(ss.length:Int)≤24:=by omega
      rcases hb:longB ss with _ | _
      ·have H6:=Lib.hid hb; clear hb
       by_cases h7:sizeL ss≤512
       all_goals
        go_enter Tryz.func82,Tryz.ntmps82
        go_wp2_with (first
         | (go_at_call 112; refine (contains_any _ _ _ _ (H.out.ext X0.out) HS.out).mono ?_; rw [H6.out]; rintro e w1 ⟨rfl,rfl⟩)
         | (go_at_call 113; refine (size_any _ _ _ _ (H.out.ext X0.out) HS.out).mono ?_; rintro e w1 ⟨rfl,hx⟩; have X1:=Lib.hid (X0.out.trans hx); clear hx))
        go_ret
        exact Ret1.bool (by simp [rightB,h1,h2,h3,h4,h5,H6.out]; omega) X1.out
      ·have H6:=Lib.hid hb; clear hb
       go_enter Tryz.func82,Tryz.ntmps82
       go_wp2_with (go_at_call 112; refine (contains_any _ _ _ _ (H.out.ext X0.out) HS.out).mono ?_; rw [H6.out]; rintro e w1 ⟨rfl,rfl⟩)
       go_ret
       exact Ret1.bool (by simp [rightB,H6.out]) X0.out
     ·have h5':¬ (ss.length:Int)≤24:=by omega
      go_enter Tryz.func82,Tryz.ntmps82
      go_wp2
      go_ret
      exact Ret1.bool (by simp [rightB,h5]) X0.out
    ·go_enter Tryz.func82,Tryz.ntmps82
     go_wp2
     go_ret
     exact Ret1.bool (by simp [rightB]; intros; omega) X0.out
   ·go_enter Tryz.func82,Tryz.ntmps82
    go_wp2
    go_ret
    exact Ret1.bool (by simp [rightB]; intros; omega) X0.out
  ·go_enter Tryz.func82,Tryz.ntmps82
   go_wp2
   go_ret
   exact Ret1.bool (by simp [rightB]; intros; omega) X0.out
 ·go_enter Tryz.func82,Tryz.ntmps82
  go_wp2
  go_ret
  exact Ret1.bool (by simp [rightB]; intros; omega) X0.out
end
section
open Go.RowKit
def sizeF (n:Int):Int:=max 0 (min n 8)
theorem osize_any (n:Int) (w:World):Calls Tryz.prog 115 #[.int .i64 n] w fun e w'=>e= .returned (.int .i64 (sizeF n))∧w=w':=by
 go_enter Tryz.func115,Tryz.ntmps115
 go_wp2
 all_goals
  go_ret
  exact ⟨ret_int (by unfold sizeF; omega),rfl⟩
/-- the eight bytes of a word, big endian -/
def oct8 (n:Int):List Int:=[IntKind.u64.wrap n / 72057594037927936 % 256,IntKind.u64.wrap n / 281474976710656 % 256,IntKind.u64.wrap n / 1099511627776 % 256,IntKind.u64.wrap n / 4294967296 % 256,
 IntKind.u64.wrap n / 16777216 % 256,IntKind.u64.wrap n / 65536 % 256,IntKind.u64.wrap n / 256 % 256,IntKind.u64.wrap n % 256]
def putS (n:Int) (k:Nat):ByteArray:=strOfNums ((oct8 n).drop (8 - k))
theorem putS_size (n:Int) (k:Nat) (hk:k≤8):(putS n k).size=k:=by
 rw [putS,strOfNums_size,List.length_drop]
 show 8 - (8 - k)=k
 omega
theorem run_cv_oct (n:Int) (k:Nat) (hk:k≤8) (m:Nat) (hm:m+k=8) (W:World) (B:Nat) (hB:B=W.heap.size) (w:World) (t:TypeId) (hw:w=W.alloc (.cells ((oct8 n).map (Value.int .u8)).toArray t)):
  (convert 65 9 (.slice (some ⟨B,m,none⟩) k k)).run Tryz.prog w= .ok (.string (putS n k)) w:=by
 subst hB
 refine run_convert_bytes_arg _ 65 5 Tryz.underlying65 Tryz.underlying5 W.heap.size m k k ((oct8 n).drop (8 - k)) (by rw [List.length_drop]; show 8 - (8 - k)=k; omega) (fun i hi=>?_) 9 Tryz.underlying9
 rw [hw,World.cell?_alloc_at _ _ _ _ rfl]
 have hl:(oct8 n).length=8:=rfl
 have hlt:m+i < (oct8 n).length:=by omega
 rw [List.getElem?_toArray,List.getElem?_map,List.getElem?_eq_getElem hlt]
 have e:8 - k=m:=by omega
 rw [e,List.getD_eq_getElem?_getD,List.getElem?_drop,List.getElem?_eq_getElem hlt]
 rfl
theorem oput1_any (n:Int) (w:World):Calls Tryz.prog 86 #[.int .i64 n, .int .i64 1] w (Ret1 (.string (putS n 1)) w):=by
 have hcv:=run_cv_oct n 1 (by omega) 7 rfl w w.heap.size rfl _ 193 rfl
 simp only [oct8,List.map_cons,List.map_nil] at hcv
 have hs:sizeF 1=1:=by decide
 go_enter Tryz.func86,Tryz.ntmps86
 go_wp2_with fail
 refine wp_loop_rounds 9 ?_
 rw [rounds_succ]; go_wp2_with fail
 rw [rounds_succ]; go_wp2_with fail
 rw [rounds_succ]; go_wp2_with fail
 rw [rounds_succ]; go_wp2_with fail
 rw [rounds_succ]; go_wp2_with fail
 rw [rounds_succ]; go_wp2_with fail
 rw [rounds_succ]; go_wp2_with fail
 rw [rounds_succ]; go_wp2_with fail
 rw [rounds_succ]; go_wp2_with fail
 refine (osize_any _ _).mono ?_
 rw [hs]
 rintro e w1 ⟨rfl,rfl⟩
 clear hs
 go_wp2
 go_ret
 exact ⟨rfl,(Ext.refl w).alloc _⟩
theorem oput2_any (n:Int) (w:World):Calls Tryz.prog 86 #[.int .i64 n, .int .i64 2] w (Ret1 (.string (putS n 2)) w):=by
 have hcv:=run_cv_oct n 2 (by omega) 6 rfl w w.heap.size rfl _ 193 rfl
 simp only [oct8,List.map_cons,List.map_nil] at hcv
 have hs:sizeF 2=2:=by decide
 go_enter Tryz.func86,Tryz.ntmps86
 go_wp2_with fail
 refine wp_loop_rounds 9 ?_
 rw [rounds_succ]; go_wp2_with fail
 rw [rounds_succ]; go_wp2_with fail
 rw [rounds_succ]; go_wp2_with fail
 rw [rounds_succ]; go_wp2_with fail
 rw [rounds_succ]; go_wp2_with fail
 rw [rounds_succ]; go_wp2_with fail
 rw [rounds_succ]; go_wp2_with fail
 rw [rounds_succ]; go_wp2_with fail
 rw [rounds_succ]; go_wp2_with fail
 refine (osize_any _ _).mono ?_
 rw [hs]
 rintro e w1 ⟨rfl,rfl⟩
 clear hs
 go_wp2
 go_ret
 exact ⟨rfl,(Ext.refl w).alloc _⟩
theorem oput4_any (n:Int) (w:World):Calls Tryz.prog 86 #[.int .i64 n, .int .i64 4] w (Ret1 (.string (putS n 4)) w):=by
 have hcv:=run_cv_oct n 4 (by omega) 4 rfl w w.heap.size rfl _ 193 rfl
 simp only [oct8,List.map_cons,List.map_nil] at hcv
 have hs:sizeF 4=4:=by decide
 go_enter Tryz.func86,Tryz.ntmps86
 go_wp2_with fail
 refine wp_loop_rounds 9 ?_
 rw [rounds_succ]; go_wp2_with fail
 rw [rounds_succ]; go_wp2_with fail
 rw [rounds_succ]; go_wp2_with fail
 rw [rounds_succ]; go_wp2_with fail
 rw [rounds_succ]; go_wp2_with fail
 rw [rounds_succ]; go_wp2_with fail
 rw [rounds_succ]; go_wp2_with fail
 rw [rounds_succ]; go_wp2_with fail
 rw [rounds_succ]; go_wp2_with fail
 refine (osize_any _ _).mono ?_
 rw [hs]
 rintro e w1 ⟨rfl,rfl⟩
 clear hs
 go_wp2
 go_ret
 exact ⟨rfl,(Ext.refl w).alloc _⟩
end
section
open Go.RowKit
/-- a reader: the string, the position, whether a call has failed -/
def Rd (t:TypeId) (w:World) (B:Nat) (s:ByteArray) (p:Nat) (f:Bool):Prop:=Blk w B t #[.string s, .int .i64 p, .bool f]∧p≤s.size∧s.size≤1000000
def RdPost (t:TypeId) (v:Value) (B:Nat) (s:ByteArray) (p:Nat) (f:Bool) (w:World) (e:Ending) (w':World):Prop:=e= .returned v∧Rd t w' B s p f∧Upd [B] w w'
theorem left_any (B:Nat) (s:ByteArray) (p:Nat) (f:Bool) (w:World) (h:Rd 202 w B s p f):
  Calls Tryz.prog 134 #[.pointer (some ⟨B,0,none⟩)] w (Ret1 (.int .i64 (s.size - p:Nat)) w):=by
 obtain ⟨hb,hp,hs⟩:=h
 have c0:w.cell? ⟨B,0,none⟩=some (.string s):=hb.cell 0
 have c1:w.cell? ⟨B,1,none⟩=some (.int .i64 p):=hb.cell 1
 have e1:=Lib.hid (show (s.size:Int) - (p:Int)=((s.size - p:Nat):Int) by omega)
 clear hb
 go_enter Tryz.func134,Tryz.ntmps134
 go_wp2
 go_quiet (fail)
 go_wp2
 go_ret
 exact Ret1.int e1.out ((Ext.refl w).drewN _)
theorem failed_any (B:Nat) (s:ByteArray) (p:Nat) (f:Bool) (w:World) (h:Rd 202 w B s p f):
  Calls Tryz.prog 95 #[.pointer (some ⟨B,0,none⟩)] w fun e w'=>e= .returned (.bool f)∧w=w':=by
 obtain ⟨hb,hp,hs⟩:=h
 have c2:w.cell? ⟨B,2,none⟩=some (.bool f):=hb.cell 2
 clear hb
 go_enter Tryz.func95,Tryz.ntmps95
 go_wp2
 go_ret
 exact ⟨rfl,rfl⟩
theorem take_ok (B:Nat) (s:ByteArray) (p n:Nat) (w:World) (h:Rd 202 w B s p false) (hn:p+n≤s.size):
  Calls Tryz.prog 120 #[.pointer (some ⟨B,0,none⟩), .int .i64 n] w (RdPost 202 (.string (s.extract p (p+n))) B s (p+n) false w):=by
 obtain ⟨hb,hp,hs⟩:=h
 have HB:=Lib.hid hb
 have c0:w.cell? ⟨B,0,none⟩=some (.string s):=hb.cell 0
 have c1:w.cell? ⟨B,1,none⟩=some (.int .i64 p):=hb.cell 1
 have c2:w.cell? ⟨B,2,none⟩=some (.bool false):=hb.cell 2
 clear hb
 go_enter Tryz.func120,Tryz.ntmps120
 go_wp2_with fail
 refine (left_any _ _ _ _ _ ⟨HB.out,hp,hs⟩).mono ?_
 rintro e w1 ⟨rfl,hx⟩
 have HB1:=Lib.hid (HB.out.ext hx)
 have X1:=Lib.hid hx
 clear hx c0 c1 c2
 have c0:w1.cell? ⟨B,0,none⟩=some (.string s):=HB1.out.cell 0
 have c1:w1.cell? ⟨B,1,none⟩=some (.int .i64 p):=HB1.out.cell 1
 have f1:=HB1.out.frozen 1
 have hlt:=HB1.out.lt
 have hn1:(n:Int)≤((s.size - p:Nat):Int):=by omega
 have e1:(0:Int)≤(p:Int)+(n:Int):=by omega
 have e2:(p:Int)+(n:Int)≤(s.size:Int):=by omega
 have e3:(p:Int)≤(p:Int)+(n:Int):=by omega
 go_wp2_with fail
 go_quiet (fail)
 go_wp2
 go_ret
 refine ⟨rfl,⟨?_,hn,hs⟩,((Upd.of_ext X1.out).set (.inl (by simp)) _).drewN _⟩
 rw [show ((p+n:Nat):Int)=(p:Int)+(n:Int) by omega]
 exact (HB1.out.set_ 1 _).drewN _
def numL (l:List UInt8):Nat:=l.foldl (fun n c=>n*256+c.toNat) 0
theorem numL_snoc (l:List UInt8) (c:UInt8):numL (l++[c])=numL l*256+c.toNat:=by rw [numL,List.foldl_append]; rfl
theorem numL_lt (l:List UInt8):numL l < 256 ^ l.length:=by
 have h:∀ (l:List UInt8) (n:Nat),l.foldl (fun n c=>n*256+c.toNat) n < (n+1)*256 ^ l.length:=by
  intro l
  induction l with
  | nil=>intro n; simp
  | cons c l ih=>
    intro n
    have h1:=ih (n*256+c.toNat)
    have h2:c.toNat < 256:=UInt8.toNat_lt _
    have h3:(n*256+c.toNat+1)*256 ^ l.length≤((n+1)*256)*256 ^ l.length:=Nat.mul_le_mul_right _ (by omega)
    rw [List.foldl_cons,List.length_cons,Nat.pow_succ,Nat.mul_comm (256 ^ l.length) 256,← Nat.mul_assoc]
    omega
 have:=h l 0
 simpa [numL] using this
def byteVals (s:ByteArray):List Value:=s.data.toList.map fun b=>Value.int .u8 b.toNat
/-- []byte(s) -/
theorem conv_sb (s:ByteArray) (w:World):∃ cap w',(convert 9 65 (.string s)).run Tryz.prog w= .ok (.slice (some ⟨w.heap.size,0,none⟩) s.size cap) w'∧Ext w w'∧At w' (some ⟨w.heap.size,0,none⟩) (byteVals s)∧s.size≤cap:=by
 have hcut:s.size≤grownCap w s.size 0 5:=grownCap_ge w s.size 0 5
 refine ⟨_, _,run_bytes_of_string w 9 65 5 s Tryz.underlying9 Tryz.underlying65 Tryz.underlying5,(Ext.refl w).drew.alloc _,?_,hcut⟩
 intro j u hj
 have hjl:j < s.data.toList.length:=by
  rcases Nat.lt_or_ge j s.data.toList.length with h | h
  ·exact h
  ·rw [byteVals,List.getElem?_eq_none (by simpa using h)] at hj; cases hj
 refine ⟨_,rfl,by simp,?_⟩
 have hh:=heap_alloc_new w.drew (.cells (bytesRow s (grownCap w s.size 0 5)) 5 ((bytesRow s (grownCap w s.size 0 5)).size,(bytesRow s (grownCap w s.size 0 5)).size+1))
 have hh':(w.drew.alloc (.cells (bytesRow s (grownCap w s.size 0 5)) 5 ((bytesRow s (grownCap w s.size 0 5)).size,(bytesRow s (grownCap w s.size 0 5)).size+1))).heap[w.heap.size]? = _:=hh
 rw [Addr.add_lit,Nat.zero_add]
 unfold World.cell?
 rw [hh']
 show (bytesRow s (grownCap w s.size 0 5))[j]? =some u
 rw [bytesRow,Array.getElem?_append_left (by simpa using hjl),← hj,byteVals]
 simp
theorem or_i64 (a b:Nat) (ha:a < 4611686018427387904) (hb:b < 4611686018427387904):bits .or .i64 (a:Int) (b:Int)=((a||| b:Nat):Int):=by
 have e:bits .or .i64 (a:Int) (b:Int)=IntKind.i64.wrap ((BitVec.ofInt 64 (a:Int)||| BitVec.ofInt 64 (b:Int)).toNat:Int):=rfl
 have h1:∀ n:Nat,n < 4611686018427387904→(BitVec.ofInt 64 (n:Int)).toNat=n:=fun n hn=>by
  rw [BitVec.ofInt_natCast,BitVec.toNat_ofNat,Nat.mod_eq_of_lt (by omega)]
 have h2:a||| b < 2 ^ 62:=Nat.or_lt_two_pow (by omega) (by omega)
 rw [e,BitVec.toNat_or,h1 a ha,h1 b hb,IntKind.wrap_i64]
 omega
theorem or_256 (a c:Nat) (hc:c < 256):a*256||| c=a*256+c:=by
 have:=Nat.two_pow_add_eq_or_of_lt (i:=8) (b:=c) (by omega) a
 rw [Nat.mul_comm a 256]
 exact this.symm
def numS (s:ByteArray) (p k:Nat):Nat:=numL (s.extract p (p+k)).data.toList
theorem num_ok (B:Nat) (s:ByteArray) (p k:Nat) (w:World) (h:Rd 202 w B s p false) (hk:k≤4) (hn:p+k≤s.size):
  Calls Tryz.prog 93 #[.pointer (some ⟨B,0,none⟩), .int .i64 k] w (RdPost 202 (.int .i64 (numS s p k)) B s (p+k) false w):=by
 have H:=Lib.hid h; clear h
 have hsk:=Lib.hid (show sizeF k=k by unfold sizeF; omega)
 go_enter Tryz.func93,Tryz.ntmps93
 go_wp2_with fail
 refine (osize_any _ _).mono ?_
 rw [hsk.out]
 rintro e w1 ⟨rfl,rfl⟩
 go_wp2_with fail
 refine (take_ok _ _ _ _ _ H.out hn).mono ?_
 rintro e w1 ⟨rfl,hr,hu⟩
 obtain ⟨t,ht⟩:∃ t,t=s.extract p (p+k):=⟨_,rfl⟩
 rw [← ht]
 have htk:t.size=k:=by rw [ht,ByteArray.size_extract]; omega
 have HT:=Lib.hid (show numS s p k=numL t.data.toList by rw [numS,← ht])
 have HK:=Lib.hid htk
 have HR:=Lib.hid hr
 have HU:=Lib.hid hu
 have hts:(t.size:Int)≤4:=by omega
 clear hr hu ht htk
 obtain ⟨cap,w2,hcv,hx,hAt,hcap⟩:=conv_sb t w1
 have X2:=Lib.hid hx
 have HA:=Lib.hid hAt
 clear hx hAt
 go_wp2
 go_loop [5,14] (fun x v=>∃ j:Nat,v= .int .i64 j∧j≤t.size∧x= .int .i64 (numL (t.data.toList.take j))) (fun _ v=>t.size - (intOf v).toNat)
 case atStart=>exact ⟨0,rfl,Nat.zero_le _,rfl⟩
 case round=>
  obtain ⟨j,rfl,hj,rfl⟩:=hrel
  rcases Nat.lt_or_ge j t.size with hlt | hge
  ·have hb:=numL_lt (t.data.toList.take j)
   have hlen:(t.data.toList.take j).length=j:=by simp; omega
   have h256:256 ^ (t.data.toList.take j).length≤16777216:=by
    rw [hlen]
    exact Nat.le_trans (Nat.pow_le_pow_right (by omega) (show j≤3 by omega)) (by decide)
   have hsn:t.data.toList.take (j+1)=t.data.toList.take j++[t[j]]:=by rw [List.take_succ_eq_append_getElem (by simpa using hlt)]; rfl
   have HN:=Lib.hid (show numL (t.data.toList.take (j+1))=numL (t.data.toList.take j)*256+t[j].toNat by rw [hsn,numL_snoc])
   have hcell:w2.cell? ⟨w1.heap.size,j,none⟩=some (.int .u8 t[j].toNat):=by
    obtain ⟨ad,e, _,hc⟩:=HA.out j _ (by rw [byteVals,List.getElem?_map,List.getElem?_eq_getElem (by simpa using hlt)]; rfl)
    injection e with e
    subst e
    rwa [Addr.add_lit,Nat.zero_add] at hc
   obtain ⟨a,ha⟩:∃ a,a=numL (t.data.toList.take j):=⟨_,rfl⟩
   obtain ⟨c,hc⟩:∃ c,c=t[j].toNat:=⟨_,rfl⟩
   have hc8:c < 256:=by rw [hc]; exact UInt8.toNat_lt _
   rw [← ha] at hb HN ⊢
   rw [← hc] at HN hcell
   have ha1:(a:Int)≤16777216:=by omega
   have i1:(0:Int)≤(j:Int):=by omega
   have i2:(j:Int) < (t.size:Int):=by omega
   have HO:=Lib.hid (show bits .or .i64 ((a:Int)*256) (c:Int)=((a*256+c:Nat):Int) by
    rw [show ((a:Int)*256)=((a*256:Nat):Int) by omega,or_i64 _ _ (by omega) (by omega),or_256 a c hc8])
   clear hsn hlen h256 hb ha hc
   go_wp2
   go_round
   case rel=>exact ⟨j+1,by go_num,by omega,by rw [HN.out,HO.out]⟩
   case measure=>simp [intOf]; omega
  ·obtain rfl:j=t.size:=by omega
   have e:t.data.toList.take t.size=t.data.toList:=List.take_of_length_le (by simp)
   rw [e]
   clear e
   go_wp2
   go_ret
   refine ⟨?_,⟨HR.out.1.ext X2.out,HR.out.2.1,HR.out.2.2⟩,HU.out.ext X2.out⟩
   rw [HT.out]
   rfl
def textS (s:ByteArray) (p:Nat):ByteArray:=s.extract (p+2) (p+2+numS s p 2)
theorem Rd.cells {t:TypeId} {w:World} {B:Nat} {s:ByteArray} {p:Nat} {f:Bool} (h:Rd t w B s p f):
  w.cell? ⟨B,0,none⟩=some (.string s)∧w.cell? ⟨B,1,none⟩=some (.int .i64 p)∧w.cell? ⟨B,2,none⟩=some (.bool f)∧w.frozen? ⟨B,1,none⟩=false∧w.frozen? ⟨B,2,none⟩=false:=
 ⟨h.1.cell 0,h.1.cell 1,h.1.cell 2,h.1.frozen 1,h.1.frozen 2⟩
theorem text_ok (B:Nat) (s:ByteArray) (p:Nat) (w:World) (h:Rd 202 w B s p false) (h2:p+2≤s.size) (hn:p+2+numS s p 2≤s.size):
  Calls Tryz.prog 94 #[.pointer (some ⟨B,0,none⟩)] w (RdPost 202 (.string (textS s p)) B s (p+2+numS s p 2) false w):=by
 have H:=Lib.hid h
 obtain ⟨c0,c1,c2, _, _⟩:=h.cells
 clear h
 go_enter Tryz.func94,Tryz.ntmps94
 go_wp2_with fail
 refine (num_ok _ _ _ 2 _ H.out (by omega) h2).mono ?_
 rintro e w1 ⟨rfl,hr,hu⟩
 have HR1:=Lib.hid hr
 have HU1:=Lib.hid hu
 clear hr hu c0 c1 c2
 go_wp2_with fail
 refine (take_ok _ _ _ _ _ HR1.out hn).mono ?_
 rintro e w2 ⟨rfl,hr,hu⟩
 have HR2:=Lib.hid hr
 have HU2:=Lib.hid (HU1.out.trans hu)
 obtain ⟨c0,c1,c2, _, _⟩:=hr.cells
 clear hr hu
 have HT:=Lib.hid (show textS s p=s.extract (p+2) (p+2+numS s p 2) from rfl)
 obtain ⟨x,hx⟩:∃ x,x=s.extract (p+2) (p+2+numS s p 2):=⟨_,rfl⟩
 rw [← hx] at HT ⊢
 clear hx
 go_wp2
 go_ret
 exact ⟨by rw [HT.out]; rfl,HR2.out,HU2.out⟩
end
section
open Go.RowKit
def bl (s:ByteArray):List UInt8:=s.data.toList
def baOf (l:List UInt8):ByteArray:=⟨l.toArray⟩
theorem bl_len (s:ByteArray):(bl s).length=s.size:=by simp [bl]
theorem baOf_bl (s:ByteArray):baOf (bl s)=s:=by simp [bl,baOf]
theorem bl_baOf (l:List UInt8):bl (baOf l)=l:=by simp [bl,baOf]
theorem bl_append (a b:ByteArray):bl (a++b)=bl a++bl b:=by simp [bl,ByteArray.data_append]
theorem baOf_size (l:List UInt8):(baOf l).size=l.length:=by simp [baOf,ByteArray.size]
theorem bl_inj {a b:ByteArray} (h:bl a=bl b):a=b:=by rw [← baOf_bl a,← baOf_bl b,h]
theorem bl_extract (s:ByteArray) (p q:Nat):bl (s.extract p q)=((bl s).drop p).take (q - p):=by
 simp [bl,ByteArray.data_extract]
theorem drop_take_mid {α:Type} (a b c:List α) (p k:Nat) (hp:a.length=p) (hk:b.length=k):((a++(b++c)).drop p).take k=b:=by
 subst hp hk
 simp
theorem extr_at {s:ByteArray} {a b c:List UInt8} (hs:bl s=a++(b++c)) {p q:Nat} (hp:a.length=p) (hq:p+b.length=q):s.extract p q=baOf b:=by
 apply bl_inj
 rw [bl_extract,bl_baOf,hs,drop_take_mid a b c p (q - p) hp (by omega)]
theorem numS_at {s:ByteArray} {a b c:List UInt8} (hs:bl s=a++(b++c)) {p k:Nat} (hp:a.length=p) (hk:b.length=k):numS s p k=numL b:=by
 have h:bl (s.extract p (p+k))=b:=by rw [extr_at hs hp (by rw [hk]),bl_baOf]
 exact congrArg numL h
theorem numL_inj:∀ (n:Nat) (a b:List UInt8),a.length=n→b.length=n→numL a=numL b→a=b
 | 0,a,b,ha,hb, _=>by rw [List.eq_nil_of_length_eq_zero ha,List.eq_nil_of_length_eq_zero hb]
 | n+1,a,b,ha,hb,h=>by
   rcases List.eq_nil_or_concat a with rfl | ⟨a',x,rfl⟩
   ·simp at ha
   rcases List.eq_nil_or_concat b with rfl | ⟨b',y,rfl⟩
   ·simp at hb
   simp only [List.concat_eq_append] at*
   rw [numL_snoc,numL_snoc] at h
   have hx:=x.toNat_lt
   have hy:=y.toNat_lt
   have h1:numL a'=numL b':=by omega
   have h2:x.toNat=y.toNat:=by omega
   rw [numL_inj n a' b' (by simpa using ha) (by simpa using hb) h1,UInt8.toNat_inj.1 h2]
theorem numL_nums (xs:List Int):numL (bl (strOfNums xs))=xs.foldl (fun (n:Nat) x=>n*256+x.toNat % 256) 0:=by
 show numL ((strOfNums xs).data.toList)= _
 rw [strOfNums_data,numL,List.foldl_map]
 rfl
theorem putS_num1 (n:Int) (h0:0≤n) (h1:n < 256):(numL (bl (putS n 1)):Int)=n:=by
 have hu:IntKind.u64.wrap n=n:=by rw [IntKind.wrap_u64]; omega
 rw [putS,numL_nums,oct8,hu]
 simp only [List.drop_succ_cons,List.drop_zero,List.foldl_cons,List.foldl_nil]
 omega
theorem putS_num2 (n:Int) (h0:0≤n) (h1:n < 65536):(numL (bl (putS n 2)):Int)=n:=by
 have hu:IntKind.u64.wrap n=n:=by rw [IntKind.wrap_u64]; omega
 rw [putS,numL_nums,oct8,hu]
 simp only [List.drop_succ_cons,List.drop_zero,List.foldl_cons,List.foldl_nil]
 omega
theorem putS_num4 (n:Int) (h0:0≤n) (h1:n < 4294967296):(numL (bl (putS n 4)):Int)=n:=by
 have hu:IntKind.u64.wrap n=n:=by rw [IntKind.wrap_u64]; omega
 rw [putS,numL_nums,oct8,hu]
 simp only [List.drop_succ_cons,List.drop_zero,List.foldl_cons,List.foldl_nil]
 omega
end
section
open Go.RowKit
def itemF (ss:List ByteArray) (i:Int):ByteArray:=if i < 0 then ByteArray.empty else ss.getD i.toNat ByteArray.empty
theorem item_get (ss:List ByteArray) (i:Nat):itemF ss i=ss.getD i ByteArray.empty:=by
 rw [itemF,if_neg (by omega),Int.toNat_natCast]
theorem ba_inj {a b:ByteArray} (h:a.toList=b.toList):a=b:=by
 rw [ByteArray.toList_eq,ByteArray.toList_eq] at h
 cases a; cases b
 simp at h
 rw [h]
theorem toList_empty:ByteArray.empty.toList=[]:=by rw [ByteArray.toList_eq]; rfl
def emp (s:ByteArray):Bool:=s.toList.isEmpty
theorem emp_iff (s:ByteArray):emp s=true↔s=ByteArray.empty:=by
 unfold emp
 constructor
 ·intro h
  have h1:s.toList=[]:=by simpa using h
  exact ba_inj (by rw [h1,toList_empty])
 ·rintro rfl; rw [toList_empty]; rfl
theorem trimN_emp (ss:List ByteArray):∀ n j,trimN ss n≤j→j < n→emp (itemF ss j)=true
 | 0,j, _,h=>by omega
 | n+1,j,h1,h2=>by
   rw [trimN_succ] at h1
   split at h1
   ·rename_i he
    by_cases e:j=n
    ·subst e; rw [item_get]; exact he
    ·exact trimN_emp ss n j h1 (by omega)
   ·omega
theorem trimN_last (ss:List ByteArray):∀ n,0 < trimN ss n→emp (itemF ss (trimN ss n - 1:Nat))=false
 | 0,h=>absurd h (Nat.lt_irrefl 0)
 | n+1,h=>by
   rw [trimN_succ] at h ⊢
   split
   ·rename_i he; rw [if_pos he] at h; exact trimN_last ss n h
   ·rename_i he
    show emp (itemF ss (n+1 - 1:Nat))=false
    rw [Nat.add_sub_cancel,item_get]
    exact Bool.eq_false_iff.2 he
theorem sizeT_append (a b:List ByteArray):sizeT (a++b)=sizeT a+sizeT b:=by simp [sizeT]
theorem plain_get {ss:List ByteArray} {i:Nat} (h:i < (plainL ss).length):(plainL ss)[i]=itemF ss i:=by
 have hl:=plainL_len ss
 have ht:=trimN_le ss ss.length
 rw [item_get]
 simp [plainL,List.getD,show i < ss.length by omega]
def padTo (l:List ByteArray) (n:Nat):List ByteArray:=l++List.replicate (n - l.length) ByteArray.empty
/-- the items with one put in -/
def withL (ss:List ByteArray) (slot:Nat) (s:ByteArray):List ByteArray:=(padTo (plainL ss) (slot+1)).set slot s
def putErr (k l:Int) (ss:List ByteArray) (slot:Int) (s:ByteArray):Int:=
 if rightB k l ss=false then 22 else if slot < 0∨24≤slot∨400 < s.size then 21 else if 512 < sizeL (withL ss slot.toNat s) then 20 else 0
theorem right_parts {k l:Int} {ss:List ByteArray} (h:rightB k l ss=true):(0≤k∧k≤2)∧(0≤l∧l≤2147483647)∧(ss.length≤24∧∀ s∈ss,s.size≤400)∧sizeL ss≤512:=by
 simp only [rightB,Bool.and_eq_true,decide_eq_true_eq,Bool.not_eq_true',longB,List.any_eq_false,Nat.not_lt] at h
 exact ⟨⟨h.1,h.2.1⟩,⟨h.2.2.1,h.2.2.2.1⟩,⟨h.2.2.2.2.1,h.2.2.2.2.2.1⟩,h.2.2.2.2.2.2⟩
theorem item_out {ss:List ByteArray} {i:Nat} (h:ss.length≤i):itemF ss i=ByteArray.empty:=by
 rw [item_get]; simp [List.getD,List.getElem?_eq_none h]
theorem item_in {ss:List ByteArray} {i:Nat} (h:i < ss.length):itemF ss i=ss[i]:=by
 rw [item_get]; simp [List.getD,h]
theorem item_plain (ss:List ByteArray) (i:Nat):itemF (plainL ss) i=itemF ss i:=by
 rcases Nat.lt_or_ge i (plainL ss).length with h | h
 ·rw [item_in h,plain_get h]
 ·rw [item_out h]
  rcases Nat.lt_or_ge i ss.length with g | g
  ·rw [plainL_len] at h
   exact ((emp_iff _).1 (trimN_emp ss ss.length i h g)).symm
  ·rw [item_out g]
theorem plain_le {ss ts:List ByteArray} (h:∀ i:Nat,itemF ss i=itemF ts i):(plainL ss).length≤(plainL ts).length:=by
 rcases Nat.lt_or_ge (plainL ts).length (plainL ss).length with g | g
 ·exfalso
  have h1:=trimN_last ss ss.length (by rw [← plainL_len]; omega)
  rw [← plainL_len,h,← item_plain ts,item_out (by omega)] at h1
  rw [(emp_iff _).2 rfl] at h1
  cases h1
 ·exact g
theorem plain_ext {ss ts:List ByteArray} (h:∀ i:Nat,itemF ss i=itemF ts i):plainL ss=plainL ts:=by
 refine List.ext_getElem (Nat.le_antisymm (plain_le h) (plain_le fun i=>(h i).symm)) fun i h1 h2=>?_
 rw [plain_get h1,plain_get h2,h]
theorem plain_idem (ss:List ByteArray):plainL (plainL ss)=plainL ss:=plain_ext (item_plain ss)
theorem item_pad (l:List ByteArray) (n j:Nat):itemF (padTo l n) j=itemF l j:=by
 rcases Nat.lt_or_ge j l.length with h | h
 ·rw [item_in h,item_in (by simp [padTo]; omega)]
  simp [padTo,h]
 ·rw [item_out h]
  rcases Nat.lt_or_ge j (padTo l n).length with g | g
  ·rw [item_in g]
   simp [padTo,List.getElem_append,Nat.not_lt.2 h]
  ·rw [item_out g]
theorem item_with (ss:List ByteArray) (K:Nat) (s:ByteArray) (j:Nat):itemF (withL ss K s) j=if j=K then s else itemF ss j:=by
 have hK:K < (padTo (plainL ss) (K+1)).length:=by simp [padTo]; omega
 rw [← item_plain ss,← item_pad (plainL ss) (K+1) j,withL]
 by_cases h:j=K
 ·subst h
  rw [if_pos rfl,item_in (by simpa using hK),List.getElem_set_self]
 ·rw [if_neg h]
  rcases Nat.lt_or_ge j (padTo (plainL ss) (K+1)).length with g | g
  ·rw [item_in g,item_in (by simpa using g)]
   rw [List.getElem_set_ne (fun e=>h e.symm)]
  ·rw [item_out g,item_out (by simpa using g)]
theorem right_small {k l:Int} {ss:List ByteArray} (h:rightB k l ss=true):Small ss:=by
 have:=(right_parts h).2.2.1
 exact ⟨by omega,fun x hx=>by have:=this.2 x hx; omega⟩
theorem plain_plain (ss:List ByteArray):plainL (plainL ss)=plainL ss:=plain_idem ss
/-- a string with its length ahead -/
def textB (s:ByteArray):ByteArray:=putS s.size 2++s
def adl (l:List UInt8):Nat×Nat:=l.foldl (fun ab c=>((ab.1+c.toNat) % 65521,(ab.2+(ab.1+c.toNat) % 65521) % 65521)) (1,0)
def sumF (s:ByteArray):Nat:=(adl s.data.toList).2*65536+(adl s.data.toList).1
theorem adl_lt (l:List UInt8):(adl l).1 < 65521∧(adl l).2 < 65521:=by
 unfold adl
 have:∀ (l:List UInt8) (p:Nat×Nat),p.1 < 65521∧p.2 < 65521→(l.foldl (fun ab c=>((ab.1+c.toNat) % 65521,(ab.2+(ab.1+c.toNat) % 65521) % 65521)) p).1 < 65521∧(l.foldl (fun ab c=>((ab.1+c.toNat) % 65521,(ab.2+(ab.1+c.toNat) % 65521) % 65521)) p).2 < 65521:=by
  intro l
  induction l with
  | nil=>exact fun p h=>h
  | cons c l ih=>exact fun p h=>ih _ ⟨Nat.mod_lt _ (by omega),Nat.mod_lt _ (by omega)⟩
 exact this l (1,0) ⟨by omega,by omega⟩
theorem adl_snoc (s:ByteArray) (k:Nat) (h:k < s.size):adl (s.data.toList.take (k+1))=(((adl (s.data.toList.take k)).1+s[k].toNat) % 65521,((adl (s.data.toList.take k)).2+((adl (s.data.toList.take k)).1+s[k].toNat) % 65521) % 65521):=by
 rw [List.take_succ_eq_append_getElem (by simpa using h),adl,List.foldl_append]
 rfl
def headL (k l n:Int):List UInt8:=bl ((putS k 1++putS l 4)++putS n 1)
def itemsL (I:List ByteArray):List UInt8:=(I.map fun s=>bl (textB s)).flatten
def bodyL (k l:Int) (I:List ByteArray):List UInt8:=(headL k l I.length++itemsL I)++List.replicate (504 - (6+sizeT I)) 0++bl (putS l 4)
def bytesF (k l:Int) (I:List ByteArray):ByteArray:=putS (sumF (baOf (bodyL k l I))) 4++baOf (bodyL k l I)
theorem headL_len (k l n:Int):(headL k l n).length=6:=by
 rw [headL,bl_len,ByteArray.size_append,ByteArray.size_append,putS_size _ _ (by omega),putS_size _ _ (by omega),putS_size _ _ (by omega)]
theorem textB_size (s:ByteArray):(textB s).size=2+s.size:=by rw [textB,ByteArray.size_append,putS_size _ _ (by omega)]
theorem itemsL_len (I:List ByteArray):(itemsL I).length=sizeT I:=by
 induction I with
 | nil=>rfl
 | cons a I ih=>
   have e:itemsL (a::I)=bl (textB a)++itemsL I:=by simp [itemsL]
   have e2:sizeT (a::I)=(2+a.size)+sizeT I:=by simp [sizeT]
   rw [e,List.length_append,ih,bl_len,textB_size,e2]
theorem itemsL_snoc (I:List ByteArray) (j:Nat) (h:j < I.length):itemsL (I.take (j+1))=itemsL (I.take j)++bl (textB I[j]):=by
 rw [List.take_succ_eq_append_getElem h,itemsL,List.map_append,List.flatten_append]
 simp [itemsL]
theorem bodyL_len (k l:Int) (I:List ByteArray) (h:6+sizeT I≤504):(bodyL k l I).length=508:=by
 rw [bodyL,List.length_append,List.length_append,List.length_append,headL_len,itemsL_len,List.length_replicate,bl_len,putS_size _ _ (by omega)]
 omega
theorem sumF_lt (s:ByteArray):sumF s < 4294967296:=by
 have h:=adl_lt s.data.toList
 unfold sumF
 omega
theorem sizeT_take_le (I:List ByteArray) (j:Nat):sizeT (I.take j)≤sizeT I:=by
 have e:=sizeT_append (I.take j) (I.drop j)
 rw [List.take_append_drop] at e
 omega
/-- n texts from p on, and where they end -/
def rtx (s:ByteArray) (p:Nat):Nat→Option (List ByteArray×Nat)
 | 0=>some ([],p)
 | n+1=>match rtx s p n with
   | some (xs,q)=>if q+2≤s.size∧q+2+numS s q 2≤s.size then some (xs++[textS s q],q+2+numS s q 2) else none
   | none=>none
theorem body_parts (k l:Int) (I:List ByteArray):bl (bytesF k l I)=bl (putS (sumF (baOf (bodyL k l I))) 4)++(bodyL k l I++[]):=by rw [bytesF,bl_append,bl_baOf,List.append_nil]
theorem bytes_parts (k l:Int) (I:List ByteArray):bl (bytesF k l I)=bl (putS (sumF (baOf (bodyL k l I))) 4)++(bl (putS k 1)++(bl (putS l 4)++(bl (putS I.length 1)++(itemsL I++(List.replicate (504 - (6+sizeT I)) 0++bl (putS l 4)))))):=by
 rw [body_parts,List.append_nil,bodyL,headL,bl_append,bl_append]
 simp only [List.append_assoc]
theorem bytesF_size (k l:Int) (I:List ByteArray) (h:6+sizeT I≤504):(bytesF k l I).size=512:=by
 rw [bytesF,ByteArray.size_append,putS_size _ _ (by omega),baOf_size,bodyL_len k l I h]
theorem bytes_sum (k l:Int) (I:List ByteArray):numS (bytesF k l I) 0 4=sumF (baOf (bodyL k l I)):=by
 have h:=sumF_lt (baOf (bodyL k l I))
 have h2:=putS_num4 (sumF (baOf (bodyL k l I))) (by omega) (by omega)
 rw [numS_at (p:=0) (a:=[]) (b:=bl (putS (sumF (baOf (bodyL k l I))) 4)) (by rw [List.nil_append]; exact body_parts k l I) rfl (by rw [bl_len,putS_size _ _ (by omega)])]
 omega
theorem bytes_rest (k l:Int) (I:List ByteArray) (h:6+sizeT I≤504):(bytesF k l I).extract 4 512=baOf (bodyL k l I):=
 extr_at (body_parts k l I) (by rw [bl_len,putS_size _ _ (by omega)]) (by rw [bodyL_len k l I h])
theorem bytes_kind (k l:Int) (I:List ByteArray) (h0:0≤k) (h1:k < 256):(numS (bytesF k l I) 4 1:Int)=k:=by
 rw [numS_at (bytes_parts k l I) (by rw [bl_len,putS_size _ _ (by omega)]) (by rw [bl_len,putS_size _ _ (by omega)])]
 exact putS_num1 k h0 h1
theorem bytes_parts5 (k l:Int) (I:List ByteArray):bl (bytesF k l I)=(bl (putS (sumF (baOf (bodyL k l I))) 4)++bl (putS k 1))++(bl (putS l 4)++(bl (putS I.length 1)++(itemsL I++(List.replicate (504 - (6+sizeT I)) 0++bl (putS l 4))))):=by
 rw [bytes_parts]; simp only [List.append_assoc]
theorem bytes_lsn (k l:Int) (I:List ByteArray) (h0:0≤l) (h1:l < 4294967296):(numS (bytesF k l I) 5 4:Int)=l:=by
 rw [numS_at (bytes_parts5 k l I) (by rw [List.length_append,bl_len,bl_len,putS_size _ _ (by omega),putS_size _ _ (by omega)]) (by rw [bl_len,putS_size _ _ (by omega)])]
 exact putS_num4 l h0 h1
theorem bytes_lsn_s (k l:Int) (I:List ByteArray):(bytesF k l I).extract 5 9=putS l 4:=by
 rw [extr_at (bytes_parts5 k l I) (p:=5) (q:=9) (by rw [List.length_append,bl_len,bl_len,putS_size _ _ (by omega),putS_size _ _ (by omega)]) (by rw [bl_len,putS_size _ _ (by omega)]),baOf_bl]
theorem bytes_parts9 (k l:Int) (I:List ByteArray):bl (bytesF k l I)=((bl (putS (sumF (baOf (bodyL k l I))) 4)++bl (putS k 1))++bl (putS l 4))++(bl (putS I.length 1)++(itemsL I++(List.replicate (504 - (6+sizeT I)) 0++bl (putS l 4)))):=by
 rw [bytes_parts]; simp only [List.append_assoc]
theorem bytes_many (k l:Int) (I:List ByteArray) (h1:I.length < 256):numS (bytesF k l I) 9 1=I.length:=by
 have h2:=putS_num1 (I.length) (by omega) (by omega)
 rw [numS_at (bytes_parts9 k l I) (by simp only [List.length_append,bl_len]; rw [putS_size _ _ (by omega),putS_size _ _ (by omega),putS_size _ _ (by omega)]) (by rw [bl_len,putS_size _ _ (by omega)])]
 omega
theorem bytes_end (k l:Int) (I:List ByteArray) (h:6+sizeT I≤504):(bytesF k l I).extract 508 512=putS l 4:=by
 have e:bl (bytesF k l I)=((((bl (putS (sumF (baOf (bodyL k l I))) 4)++bl (putS k 1))++bl (putS l 4))++bl (putS I.length 1))++itemsL I++List.replicate (504 - (6+sizeT I)) 0)++(bl (putS l 4)++[]):=by
  rw [bytes_parts,List.append_nil]; simp only [List.append_assoc]
 rw [extr_at e (p:=508) (q:=512) (by
  simp only [List.length_append,bl_len,itemsL_len,List.length_replicate]
  rw [putS_size _ _ (by omega),putS_size _ _ (by omega),putS_size _ _ (by omega),putS_size _ _ (by omega)]; omega) (by rw [bl_len,putS_size _ _ (by omega)]),baOf_bl]
theorem itemsL_split (I:List ByteArray) (j:Nat) (h:j < I.length):itemsL I=itemsL (I.take j)++(bl (putS I[j].size 2)++(bl I[j]++itemsL (I.drop (j+1)))):=by
 have e:I=I.take j++I[j]::I.drop (j+1):=by rw [List.getElem_cons_drop,List.take_append_drop]
 have e2:∀ (a b:List ByteArray) (x:ByteArray),itemsL (a++x::b)=itemsL a++(bl (putS x.size 2)++(bl x++itemsL b)):=by
  intro a b x
  simp [itemsL,textB,bl_append]
 conv=>lhs; rw [e]
 rw [e2]
theorem bytes_rtx (k l:Int) (I:List ByteArray) (h:6+sizeT I≤504) (j:Nat) (hj:j≤I.length):rtx (bytesF k l I) 10 j=some (I.take j,10+sizeT (I.take j)):=by
 induction j with
 | zero=>simp [rtx,sizeT]
 | succ j ih=>
   have hz:=bytesF_size k l I h
   have e0:=itemsL_split I j (by omega)
   obtain ⟨hd,hhd⟩:∃ x,x=((bl (putS (sumF (baOf (bodyL k l I))) 4)++bl (putS k 1))++bl (putS l 4))++bl (putS I.length 1)++itemsL (I.take j):=⟨_,rfl⟩
   obtain ⟨tl,htl⟩:∃ x,x=itemsL (I.drop (j+1))++(List.replicate (504 - (6+sizeT I)) 0++bl (putS l 4)):=⟨_,rfl⟩
   have hl:hd.length=10+sizeT (I.take j):=by
    rw [hhd]
    simp only [List.length_append,bl_len,itemsL_len]
    rw [putS_size _ _ (by omega),putS_size _ _ (by omega),putS_size _ _ (by omega),putS_size _ _ (by omega)]
   have e1:bl (bytesF k l I)=hd++(bl (putS I[j].size 2)++(bl I[j]++tl)):=by
    rw [bytes_parts,e0,hhd,htl]; simp only [List.append_assoc]
   have e2:bl (bytesF k l I)=(hd++bl (putS I[j].size 2))++(bl I[j]++tl):=by rw [e1,List.append_assoc]
   have hst:sizeT (I.take (j+1))=sizeT (I.take j)+2+I[j].size:=by
    have a1:=itemsL_snoc I j (by omega)
    have a2:=congrArg List.length a1
    rw [List.length_append,itemsL_len,itemsL_len,bl_len,textB_size] at a2
    omega
   have hle:=sizeT_take_le I (j+1)
   have hn:numS (bytesF k l I) (10+sizeT (I.take j)) 2=I[j].size:=by
    rw [numS_at e1 hl (by rw [bl_len,putS_size _ _ (by omega)])]
    have:=putS_num2 (I[j].size) (by omega) (by omega)
    omega
   have ht:textS (bytesF k l I) (10+sizeT (I.take j))=I[j]:=by
    rw [textS,hn,extr_at e2 (p:=10+sizeT (I.take j)+2) (by rw [List.length_append,hl,bl_len,putS_size _ _ (by omega)]) (by rw [bl_len]),baOf_bl]
   rw [rtx,ih (by omega)]
   simp only
   rw [hn,ht,hz,if_pos (by omega),hst,List.take_succ_eq_append_getElem (by omega),show 10+(sizeT (I.take j)+2+I[j].size)=10+sizeT (I.take j)+2+I[j].size by omega]
/-- the j-th text of a page's bytes -/
theorem bytes_text (k l:Int) (I:List ByteArray) (h:6+sizeT I≤504) (j:Nat) (hj:j < I.length):
  10+sizeT (I.take j)+2≤(bytesF k l I).size∧10+sizeT (I.take j)+2+numS (bytesF k l I) (10+sizeT (I.take j)) 2≤(bytesF k l I).size∧
   textS (bytesF k l I) (10+sizeT (I.take j))=I[j]∧10+sizeT (I.take j)+2+numS (bytesF k l I) (10+sizeT (I.take j)) 2=10+sizeT (I.take (j+1)):=by
 have h1:=bytes_rtx k l I h j (by omega)
 have h2:=bytes_rtx k l I h (j+1) (by omega)
 rw [rtx,h1] at h2
 simp only at h2
 split at h2
 ·rename_i hc
  have e1:=congrArg Prod.fst (Option.some.inj h2)
  have e2:=congrArg Prod.snd (Option.some.inj h2)
  have e3:I.take j++[textS (bytesF k l I) (10+sizeT (I.take j))]=I.take (j+1):=e1
  rw [List.take_succ_eq_append_getElem hj] at e3
  have e4:=List.append_cancel_left e3
  refine ⟨hc.1,hc.2,?_,e2⟩
  injection e4
 ·cases h2
theorem osum1_any (c a b:Nat) (A B:Nat) (w:World) (hc:c < 256) (ha:a < 65521) (hb:b < 65521) (hA:Blk w A 176 #[.int .u32 a]) (hB:Blk w B 176 #[.int .u32 b]) (hne:A≠B):
  Calls Tryz.prog 119 #[.int .u8 c, .pointer (some ⟨A,0,none⟩), .pointer (some ⟨B,0,none⟩)] w fun e w'=>e= .returned (.tuple #[])∧
   Blk w' A 176 #[.int .u32 ((a+c) % 65521:Nat)]∧Blk w' B 176 #[.int .u32 ((b+(a+c) % 65521) % 65521:Nat)]∧Upd [A,B] w w':=by
 have HA:=Lib.hid hA; have HB:=Lib.hid hB
 have cA:w.cell? ⟨A,0,none⟩=some (.int .u32 a):=hA.cell 0
 have cB:w.cell? ⟨B,0,none⟩=some (.int .u32 b):=hB.cell 0
 have fA:=hA.frozen 0; have fB:=hB.frozen 0
 have lA:=hA.lt; have lB:=hB.lt
 clear hA hB
 go_enter Tryz.func119,Tryz.ntmps119
 have e1:((a:Int)+(c:Int)) % 65521=(((a+c) % 65521:Nat):Int):=by omega
 have e2:((b:Int)+((a:Int)+(c:Int))) % 65521=(((b+(a+c) % 65521) % 65521:Nat):Int):=by omega
 have E1:=Lib.hid e1; have E2:=Lib.hid e2
 clear e1 e2
 go_wp2
 go_end0
 rw [E1.out,E2.out]
 exact ⟨rfl,((HA.out.set_ 0 _).far hne _),((HB.out.far (fun e=>hne e.symm) _).set_ 0 _),((Upd.refl _ _).set (.inl (by simp)) _).set (.inl (by simp)) _⟩
theorem osum_any (s:ByteArray) (w:World) (hs:s.size≤9223372036854775807):
  Calls Tryz.prog 90 #[.string s] w (Ret1 (.int .u32 (sumF s)) w):=by
 go_enter Tryz.func90,Tryz.ntmps90
 go_wp2
 go_loopw [10] (fun v wr=>∃ k:Nat,v= .int .i64 k∧k≤s.size∧Blk wr w.heap.size 176 #[.int .u32 (adl (s.data.toList.take k)).1]∧Blk wr (w.heap.size+1) 176 #[.int .u32 (adl (s.data.toList.take k)).2]∧Ext w wr) (fun v _=>s.size - (intOf v).toNat)
 case atStart=>exact ⟨0,rfl,Nat.zero_le _,(Blk.new' rfl).alloc _,Blk.new' (by simp),((Ext.refl w).alloc _).alloc _⟩
 case round=>
  obtain ⟨k,rfl,hk,hA,hB,hx⟩:=hrel
  have HA:=Lib.hid hA; have HB:=Lib.hid hB; have XR:=Lib.hid hx
  have hlt:=adl_lt (s.data.toList.take k)
  clear hA hB hx
  rcases Nat.lt_or_ge k s.size with hk1 | hk1
  ·have HS:=Lib.hid (adl_snoc s k hk1)
   obtain ⟨a,ha⟩:∃ a,a=(adl (s.data.toList.take k)).1:=⟨_,rfl⟩
   obtain ⟨b,hb⟩:∃ b,b=(adl (s.data.toList.take k)).2:=⟨_,rfl⟩
   rw [← ha,← hb] at HS hlt
   rw [← ha] at HA
   rw [← hb] at HB
   have hcb:s[k].toNat < 256:=UInt8.toNat_lt _
   clear ha hb
   have hk2:(k:Int) < (s.size:Int):=by omega
   have hk3:(0:Int)≤(k:Int):=by omega
   go_wp2_with fail
   refine (osum1_any _ a b _ _ _ hcb hlt.1 hlt.2 HA.out HB.out (by omega)).mono ?_
   rintro e w1 ⟨rfl,hA,hB,hu⟩
   have HA1:=Lib.hid hA; have HB1:=Lib.hid hB; have HU:=Lib.hid hu
   clear hA hB hu hlt
   go_wp2
   go_roundw
   case rel=>exact ⟨k+1,by go_num,by omega,by rw [HS.out]; exact HA1.out,by rw [HS.out]; exact HB1.out,XR.out.upd HU.out (by simp)⟩
   case measure=>simp [intOf]; omega
  ·obtain rfl:k=s.size:=by omega
   have e:s.data.toList.take s.size=s.data.toList:=List.take_of_length_le (by simp)
   rw [e] at HA HB hlt
   obtain ⟨a,ha⟩:∃ a,a=(adl s.data.toList).1:=⟨_,rfl⟩
   obtain ⟨b,hb⟩:∃ b,b=(adl s.data.toList).2:=⟨_,rfl⟩
   rw [← ha,← hb] at hlt
   rw [← ha] at HA
   rw [← hb] at HB
   obtain ⟨hlt1,hlt2⟩:=hlt
   have HF:=Lib.hid (show sumF s=b*65536+a by rw [sumF,← ha,← hb])
   have cA:wr.cell? ⟨w.heap.size,0,none⟩=some (.int .u32 a):=HA.out.cell 0
   have cB:wr.cell? ⟨w.heap.size+1,0,none⟩=some (.int .u32 b):=HB.out.cell 0
   clear e ha hb
   go_wp2
   go_ret
   refine ⟨?_,XR.out⟩
   have e1:((b:Int)*65536)=((b*65536:Nat):Int):=by omega
   rw [HF.out,e1,u32_or_nat _ _ (by omega) (by omega)]
   have e2:b*65536||| a=b*65536+a:=by
    have:=Nat.two_pow_add_eq_or_of_lt (i:=16) (b:=a) (by omega) b
    rw [Nat.mul_comm b 65536]
    exact this.symm
   rw [e2]
   rfl
end
section
open Go.RowKit
/-- a string stands ahead of another -/
def ltB (a b:ByteArray):Bool:=Op.bytesLess (bl a) (bl b)
theorem bytesLess_irr:∀ l:List UInt8,Op.bytesLess l l=false
 | []=>rfl
 | a::l=>by simp [Op.bytesLess,bytesLess_irr l,UInt8.lt_irrefl]
theorem bytesLess_asym:∀ {a b:List UInt8},Op.bytesLess a b=true→Op.bytesLess b a=false
 | [],[],h=>by simp [Op.bytesLess] at h
 | [], _:: _, _=>by simp [Op.bytesLess]
 | _:: _,[],h=>by simp [Op.bytesLess] at h
 | x::a,y::b,h=>by
   simp only [Op.bytesLess,Bool.or_eq_true,decide_eq_true_eq,Bool.and_eq_true,beq_iff_eq] at h
   simp only [Op.bytesLess,Bool.or_eq_false_iff,decide_eq_false_iff_not,Bool.and_eq_false_iff,beq_eq_false_iff_ne]
   rcases h with h | ⟨rfl,h⟩
   ·exact ⟨fun h2=>UInt8.lt_irrefl _ (UInt8.lt_trans h h2), .inl fun h2=>by subst h2; exact UInt8.lt_irrefl _ h⟩
   ·exact ⟨UInt8.lt_irrefl _, .inr (bytesLess_asym h)⟩
theorem bytesLess_eq:∀ {a b:List UInt8},Op.bytesLess a b=false→Op.bytesLess b a=false→a=b
 | [],[], _, _=>rfl
 | [], _:: _,h, _=>by simp [Op.bytesLess] at h
 | _:: _,[], _,h=>by simp [Op.bytesLess] at h
 | x::a,y::b,h1,h2=>by
   simp only [Op.bytesLess,Bool.or_eq_false_iff,decide_eq_false_iff_not,Bool.and_eq_false_iff,beq_eq_false_iff_ne] at h1 h2
   have hxy:x=y:=by
    have a1:=h1.1; have a2:=h2.1
    rw [UInt8.not_lt] at a1 a2
    exact UInt8.le_antisymm a2 a1
   subst hxy
   rw [bytesLess_eq (h1.2.resolve_left (by simp)) (h2.2.resolve_left (by simp))]
theorem ltB_irr (a:ByteArray):ltB a a=false:=bytesLess_irr _
theorem ltB_asym {a b:ByteArray} (h:ltB a b=true):ltB b a=false:=bytesLess_asym h
theorem ltB_eq {a b:ByteArray} (h1:ltB a b=false) (h2:ltB b a=false):a=b:=bl_inj (bytesLess_eq h1 h2)
theorem ltB_not (a b:ByteArray):(!(ltB a b||a.toList==b.toList))=ltB b a:=by
 have e:(a.toList==b.toList)=true↔a=b:=by
  rw [beq_iff_eq,ByteArray.toList_eq,ByteArray.toList_eq]
  exact ⟨fun h=>bl_inj h,fun h=>by rw [h]⟩
 cases h:ltB b a with
 | true=>
   rw [ltB_asym h]
   cases h2:(a.toList==b.toList) with
   | false=>rfl
   | true=>rw [e.1 h2,ltB_irr] at h; cases h
 | false=>
   cases h1:ltB a b with
   | true=>rfl
   | false=>rw [e.2 (ltB_eq h1 h)]; rfl
section
variable {P:Program} {o:Oper} {ρ:Operand→Value} {W:World}
theorem run_strls {t t':TypeId} {x y:Operand} {a b:ByteArray} (h:o.op= .binOp .lss t x y t') (hx:ρ x= .string a) (hy:ρ y= .string b):(execOp ρ o).run P W= .ok (.value (.bool (ltB a b))) W:=by
 unfold execOp; rw [h]
 simp [hx,hy,eqGuard,binOp,Op.stringOp,ltB,bl,ByteArray.toList_eq]
theorem run_strgt {t t':TypeId} {x y:Operand} {a b:ByteArray} (h:o.op= .binOp .gtr t x y t') (hx:ρ x= .string a) (hy:ρ y= .string b):(execOp ρ o).run P W= .ok (.value (.bool (ltB b a))) W:=by
 rw [← ltB_not]
 unfold execOp; rw [h]
 simp [hx,hy,eqGuard,binOp,Op.stringOp,ltB,bl,ByteArray.toList_eq]
end
/-- a number as two bytes -/
def twoB (n:Int):ByteArray:=strOfNums [n % 65536 / 256,n % 65536 % 256]
theorem twoB_put (n:Int):putS (n % 65536) 2=twoB n:=by
 have h0:0≤n % 65536:=Int.emod_nonneg _ (by decide)
 have h1:n % 65536 < 65536:=Int.emod_lt_of_pos _ (by decide)
 have hu:IntKind.u64.wrap (n % 65536)=n % 65536:=by rw [IntKind.wrap_u64]; omega
 rw [putS,oct8,hu,twoB]
 simp only [Nat.reduceSub,List.drop_succ_cons,List.drop_zero]
 congr 1
 have e1:n % 65536 / 256 % 256=n % 65536 / 256:=by omega
 rw [e1]
theorem twoB_size (n:Int):(twoB n).size=2:=by simp [twoB,strOfNums,ByteArray.size]
theorem twoB_num (n:Int):(numL (bl (twoB n)):Int)=n % 65536:=by
 rw [← twoB_put,putS_num2 _ (Int.emod_nonneg _ (by decide)) (Int.emod_lt_of_pos _ (by decide))]
/-- an entry: key, page, slot -/
def entF (k:ByteArray) (p s:Int):ByteArray:=k++twoB p++twoB s
theorem entF_size (k:ByteArray) (p s:Int):(entF k p s).size=k.size+4:=by
 rw [entF,ByteArray.size_append,ByteArray.size_append,twoB_size,twoB_size]
/-- the parts of an entry -/
def pkF (e:ByteArray):ByteArray:=e.extract 0 (e.size - 4)
def ppF (e:ByteArray):Int:=numS e (e.size - 4) 2
def psF (e:ByteArray):Int:=numS e (e.size - 2) 2
/-- what is compared: a string of less than four bytes is its own key -/
def okF (e:ByteArray):ByteArray:=if e.size < 4 then e else pkF e
def opF (e:ByteArray):Int:=if e.size < 4 then 0 else ppF e
def osF (e:ByteArray):Int:=if e.size < 4 then 0 else psF e
def lessF (a b:ByteArray):Bool:=
 if ltB (okF a) (okF b) then true else if ltB (okF b) (okF a) then false
 else if opF a < opF b then true else if opF b < opF a then false else decide (osF a < osF b)
theorem lessF_irr (a:ByteArray):lessF a a=false:=by simp [lessF,ltB_irr]
theorem lessF_asym {a b:ByteArray} (h:lessF a b=true):lessF b a=false:=by
 unfold lessF at h ⊢
 cases h1:ltB (okF a) (okF b) with
 | true=>rw [ltB_asym h1]; rfl
 | false=>
   rw [h1] at h
   cases h2:ltB (okF b) (okF a) with
   | true=>rw [h2] at h; simp at h
   | false=>
     rw [h2] at h
     simp only [Bool.false_eq_true,if_false] at h ⊢
     split at h
     ·rw [if_neg (by omega),if_pos (by assumption)]
     ·split at h
      ·cases h
      ·have h3:=of_decide_eq_true h
       rw [if_neg (by omega),if_neg (by omega)]
       exact decide_eq_false (by omega)
/-- the reference's way to say it -/
theorem lessF_ref (a b:ByteArray):lessF a b=(if okF a≠okF b then ltB (okF a) (okF b) else if opF a≠opF b then decide (opF a < opF b) else decide (osF a < osF b)):=by
 unfold lessF
 by_cases hk:okF a=okF b
 ·rw [hk,ltB_irr]
  simp only [Bool.false_eq_true,if_false,ne_eq,not_true_eq_false]
  by_cases hp:opF a=opF b
  ·rw [hp]; simp
  ·by_cases h:opF a < opF b
   ·rw [if_pos h]; simp [hp,h]
   ·rw [if_neg h,if_pos (by omega)]; simp [hp,h]
 ·rw [if_pos hk]
  cases h1:ltB (okF a) (okF b) with
  | true=>rfl
  | false=>
    cases h2:ltB (okF b) (okF a) with
    | true=>rfl
    | false=>exact absurd (ltB_eq h1 h2) hk
/-- what order returns -/
def cmpB (a b:ByteArray):Int:=if ltB a b then -1 else if ltB b a then 1 else 0
def cmpI (a b:Int):Int:=if a < b then -1 else if b < a then 1 else 0
def ordF (a b:ByteArray):Int:=if cmpB (okF a) (okF b)≠0 then cmpB (okF a) (okF b) else if cmpI (opF a) (opF b)≠0 then cmpI (opF a) (opF b) else cmpI (osF a) (osF b)
theorem ordF_less (a b:ByteArray):decide (ordF a b < 0)=lessF a b:=by
 unfold ordF lessF cmpB cmpI
 cases h1:ltB (okF a) (okF b) with
 | true=>simp
 | false=>
   cases h2:ltB (okF b) (okF a) with
   | true=>simp
   | false=>
     simp only [Bool.false_eq_true,if_false,ne_eq,not_true_eq_false]
     by_cases h3:opF a < opF b
     ·simp [h3]
     ·by_cases h4:opF b < opF a
      ·simp [h3,h4]
      ·by_cases h5:osF a < osF b
       ·simp [h3,h4,h5]
       ·by_cases h6:osF b < osF a<;>simp [h3,h4,h5,h6]
/-- an entry of a node: its bytes, its slot, its child -/
abbrev EnD:=ByteArray×Nat×Int
/-- an entry goes to its place, behind those that it does not stand ahead of: from the right end on -/
def insR (x:EnD):List EnD→List EnD
 | []=>[x]
 | y::l=>if lessF x.1 y.1 then y::insR x l else x::y::l
/-- the list turned round: the last entry at the head -/
def sortR:List EnD→List EnD
 | []=>[]
 | x::l=>insR x (sortR l)
/-- what stands in the slots from i on, the empty ones left out -/
def rawE:Nat→List ByteArray→List (Nat×ByteArray)
 | _,[]=>[]
 | i,x::l=>if x.size=0 then rawE (i+1) l else (i,x)::rawE (i+1) l
/-- an item as an entry of a node of the level -/
def parE (lv:Int) (p:Nat×ByteArray):EnD:=if 0 < lv then (p.2.extract 0 (p.2.size - 2),p.1,(numS p.2 (p.2.size - 2) 2:Int)) else (p.2,p.1, -1)
def badE (lv:Int) (p:Nat×ByteArray):Bool:=if 0 < lv then decide (p.2.size < 6) else decide (p.2.size < 4)
/-- a node: level, right, high, dead, entries -/
structure NoD where
 lv:Int
 right:Int
 high:ByteArray
 dead:Bool
 es:List EnD
 free:Nat
def hdOk (h:ByteArray):Bool:=decide (4≤h.size)&&decide (numS h 1 1≤1)&&(decide (h.size≤4)||decide (8≤h.size))
def freeE:Nat→List ByteArray→Nat→Nat
 | _,[],d=>d
 | i,x::l,d=>if x.size=0 then i else freeE (i+1) l d
/-- the node that a page holds -/
def nodF (k:Int) (its:List ByteArray):Option NoD:=
 if k≠2 then none else match its with
 | []=>none
 | h::l=>if hdOk h=false then none else if (rawE 1 l).any (badE (numS h 0 1)) then none else
   some ⟨numS h 0 1,(numS h 2 2:Int) - 1,h.extract 4 h.size,numS h 1 1==1,(sortR ((rawE 1 l).map (parE (numS h 0 1))).reverse).reverse,freeE 1 l (l.length+1)⟩
theorem insR_len (x:EnD):∀ l,(insR x l).length=l.length+1
 | []=>rfl
 | y::l=>by unfold insR; split<;>simp [insR_len x l]
theorem sortR_len:∀ l,(sortR l).length=l.length
 | []=>rfl
 | x::l=>by rw [sortR,insR_len,sortR_len l]; rfl
theorem insR_mem {x:EnD}:∀ {l:List EnD} {y:EnD},y∈insR x l→y=x∨y∈l
 | [],y,h=>by simpa [insR] using h
 | z::l,y,h=>by
   unfold insR at h
   split at h
   ·rcases List.mem_cons.1 h with rfl | h
    ·exact .inr (List.mem_cons_self ..)
    ·rcases insR_mem h with h | h
     ·exact .inl h
     ·exact .inr (List.mem_cons_of_mem _ h)
   ·rcases List.mem_cons.1 h with rfl | h
    ·exact .inl rfl
    ·exact .inr h
theorem sortR_mem:∀ {l:List EnD} {y:EnD},y∈sortR l→y∈l
 | [],y,h=>by cases h
 | x::l,y,h=>by
   rcases insR_mem h with rfl | h
   ·exact List.mem_cons_self ..
   ·exact List.mem_cons_of_mem _ (sortR_mem h)
theorem rawE_len:∀ (i:Nat) (l:List ByteArray),(rawE i l).length≤l.length
 | _,[]=>Nat.le_refl _
 | i,x::l=>by
   unfold rawE
   have:=rawE_len (i+1) l
   split<;>simp<;>omega
theorem bl_twoB_len (n:Int):(bl (twoB n)).length=2:=by rw [bl_len,twoB_size]
theorem pkF_ent (k:ByteArray) (p s:Int):pkF (entF k p s)=k:=by
 apply bl_inj
 rw [pkF,bl_extract,entF_size,List.drop_zero,Nat.sub_zero,Nat.add_sub_cancel,entF,bl_append,bl_append,List.append_assoc,← bl_len,List.take_left']
 rfl
theorem ppF_ent (k:ByteArray) (p s:Int):ppF (entF k p s)=p % 65536:=by
 rw [ppF,entF_size,Nat.add_sub_cancel,← twoB_num]
 congr 1
 exact numS_at (a:=bl k) (b:=bl (twoB p)) (c:=bl (twoB s)) (by rw [entF,bl_append,bl_append,List.append_assoc]) (bl_len _) (bl_twoB_len _)
theorem psF_ent (k:ByteArray) (p s:Int):psF (entF k p s)=s % 65536:=by
 rw [psF,entF_size,← twoB_num,show k.size+4 - 2=k.size+2 by omega]
 congr 1
 exact numS_at (a:=bl (k++twoB p)) (b:=bl (twoB s)) (c:=[]) (by rw [entF,bl_append,List.append_nil]) (by rw [bl_len,ByteArray.size_append,twoB_size]) (bl_twoB_len _)
/-- equal parts, equal entries -/
theorem ent_inj {a b:ByteArray} (ha:4≤a.size) (hb:4≤b.size) (hk:pkF a=pkF b) (hp:ppF a=ppF b) (hs:psF a=psF b):a=b:=by
 have hz:a.size=b.size:=by
  have:=congrArg ByteArray.size hk
  simp only [pkF,ByteArray.size_extract] at this
  omega
 have two:∀ {x y:ByteArray} {p:Nat},p+2≤x.size→p+2≤y.size→numS x p 2=numS y p 2→((bl x).drop p).take 2=((bl y).drop p).take 2:=by
  intro x y p hx hy h
  have e:∀ z:ByteArray,numS z p 2=numL (((bl z).drop p).take 2):=fun z=>by
   rw [numS,show (z.extract p (p+2)).data.toList=bl (z.extract p (p+2)) from rfl,bl_extract,Nat.add_sub_cancel_left]
  rw [e,e] at h
  refine numL_inj 2 _ _ ?_ ?_ h
  ·rw [List.length_take,List.length_drop,bl_len]; omega
  ·rw [List.length_take,List.length_drop,bl_len]; omega
 have h1:(bl a).take (a.size - 4)=(bl b).take (a.size - 4):=by
  have:=congrArg bl hk
  rw [pkF,pkF,bl_extract,bl_extract,List.drop_zero,List.drop_zero,Nat.sub_zero,Nat.sub_zero,← hz] at this
  exact this
 have h2:=two (x:=a) (y:=b) (p:=a.size - 4) (by omega) (by omega) (by have:=hp; rw [ppF,ppF,← hz] at this; omega)
 have h3:=two (x:=a) (y:=b) (p:=a.size - 2) (by omega) (by omega) (by have:=hs; rw [psF,psF,← hz] at this; omega)
 have cut:∀ z:ByteArray,z.size=a.size→bl z=(bl z).take (a.size - 4)++(((bl z).drop (a.size - 4)).take 2++((bl z).drop (a.size - 2)).take 2):=by
  intro z hz
  have e1:((bl z).drop (a.size - 2)).take 2=(bl z).drop (a.size - 2):=List.take_of_length_le (by rw [List.length_drop,bl_len]; omega)
  have e2:(bl z).drop (a.size - 2)=((bl z).drop (a.size - 4)).drop 2:=by rw [List.drop_drop]; congr 1; omega
  rw [e1,e2,List.take_append_drop,List.take_append_drop]
 apply bl_inj
 rw [cut a rfl,cut b hz.symm,h1,h2,h3]
/-- of two entries one stands ahead -/
theorem lessF_total {a b:ByteArray} (ha:4≤a.size) (hb:4≤b.size) (h1:lessF a b=false) (h2:lessF b a=false):a=b:=by
 have oa:∀ {z:ByteArray},4≤z.size→okF z=pkF z∧opF z=ppF z∧osF z=psF z:=fun {z} h=>by
  unfold okF opF osF
  rw [if_neg (by omega),if_neg (by omega),if_neg (by omega)]
  exact ⟨rfl,rfl,rfl⟩
 unfold lessF at h1 h2
 cases e1:ltB (okF a) (okF b) with
 | true=>rw [e1] at h1; simp at h1
 | false=>
   cases e2:ltB (okF b) (okF a) with
   | true=>rw [e2] at h2; simp at h2
   | false=>
     rw [e1,e2] at h1 h2
     simp only [Bool.false_eq_true,if_false] at h1 h2
     have hk:=ltB_eq e1 e2
     have hp:opF a=opF b:=by
      by_cases c1:opF a < opF b
      ·rw [if_pos c1] at h1; cases h1
      ·by_cases c2:opF b < opF a
       ·rw [if_pos c2] at h2; cases h2
       ·omega
     have hs:osF a=osF b:=by
      rw [if_neg (by omega),if_neg (by omega)] at h1 h2
      have:=of_decide_eq_false h1
      have:=of_decide_eq_false h2
      omega
     obtain ⟨a1,a2,a3⟩:=oa ha
     obtain ⟨b1,b2,b3⟩:=oa hb
     exact ent_inj ha hb (a1 ▸ b1 ▸ hk) (a2 ▸ b2 ▸ hp) (a3 ▸ b3 ▸ hs)
theorem insR_eq (x:EnD):∀ l,insR x l=l.takeWhile (fun y=>lessF x.1 y.1)++x::l.dropWhile (fun y=>lessF x.1 y.1)
 | []=>rfl
 | y::l=>by
   unfold insR
   cases h:lessF x.1 y.1 with
   | true=>rw [if_pos rfl,insR_eq x l]; simp [List.takeWhile_cons,List.dropWhile_cons,h]
   | false=>rw [if_neg (by simp)]; simp [List.takeWhile_cons,List.dropWhile_cons,h]
/-- the same, the list as it stands in memory: x goes behind the first m entries -/
theorem insR_at {x:EnD} {l a b:List EnD} (h:l=a.reverse++b.reverse) (ha:∀ y∈a,lessF x.1 y.1=true) (hb:∀ y,b.getLast?=some y→lessF x.1 y.1=false):(insR x l).reverse=b++x::a:=by
 subst h
 rw [insR_eq]
 have h1:(a.reverse++b.reverse).takeWhile (fun y=>lessF x.1 y.1)=a.reverse:=by
  rw [List.takeWhile_append_of_pos (fun y hy=>ha y (by simpa using hy))]
  cases hr:b.reverse with
  | nil=>simp
  | cons y r=>
    rw [List.takeWhile_cons_of_neg (by rw [hb y (by rw [← List.head?_reverse,hr]; rfl)]; simp),List.append_nil]
 have h2:(a.reverse++b.reverse).dropWhile (fun y=>lessF x.1 y.1)=b.reverse:=by
  rw [List.dropWhile_append_of_pos (fun y hy=>ha y (by simpa using hy))]
  cases hr:b.reverse with
  | nil=>rfl
  | cons y r=>rw [List.dropWhile_cons_of_neg (by rw [hb y (by rw [← List.head?_reverse,hr]; rfl)]; simp)]
 rw [h1,h2]
 simp
end
section
open Go.RowKit
theorem knum_any (n:Int) (w:World):
  Calls Tryz.prog 65 #[.int .i64 n] w (Ret (.string (twoB n)) w):=by
 go_enter Tryz.func65,Tryz.ntmps65
 have hst0:=St.start w
 refine wp_seq (sqr (sqp [.k 2 (.string ⟨#[]⟩)] ?_))
 refine then_normal (wp_seq (sqr (sqp [.m 3 0,sAn 4 .i64 n 65535 (n % 65536) (bits_mask n 16 (by decide))] ?_)))
 refine sqk (.string (putS (n % 65536) 2)) hst0 (fun cx=>⟨_,oput2_any (n % 65536) _,(map2 (cx.ou 4) (cx.co _))⟩) fun W4 hst4=>?_
 refine sqp [.m 2 5] ?_
 refine then_normal (wp_ret ?_)
 refine bpr (.string (putS (n % 65536) 2)) (results_1 Tryz.results65 rpt) ?_
 exact Ret.of (by rw [← twoB_put]) hst4.ext
theorem kentry_any (k:ByteArray) (p s:Int) (w:World) (hk:k.size≤1000000):
  Calls Tryz.prog 25 #[.string k, .agg #[.int .i64 p, .int .i64 s]] w (Ret (.string (entF k p s)) w):=by
 have h2_:=twoB_size p
 have h3_:=twoB_size s
 go_enter Tryz.func25,Tryz.ntmps25
 have hst0:=St.start w
 refine wp_seq (sqr ?_)
 refine sqbx #[vi p,vi s] hst0 fun B3_1 W1 hst1=>?_
 refine sqp [.k 4 (.string ⟨#[]⟩)] ?_
 refine then_normal (wp_seq (wp_region_Z [0,0,2,6,15,0,32,110,255,511] [[],[],[0],[],[],[],[0]] [.k 5 (.string k), .k 6 (vp B3_1), .c 7 (vi p), .c 8 (.string (twoB p)),tS 9 k (twoB p) (by first | omega | (rw [ByteArray.size_append]; omega)), .k 10 (.pointer (some ⟨B3_1,1,none⟩)), .c 11 (vi s), .c 12 (.string (twoB s)),tS 13 (k++(twoB p)) (twoB s) (by first | omega | (rw [ByteArray.size_append]; omega)), .k 4 (.string ((k++(twoB p))++(twoB s)))] [0] [2,3,6,7] [(4,9,1,5),(0,0,9,9)] hst1 ?_ fun W3 hst3=>?_))
 ·refine ⟨?_,?_,?_,?_,trivial⟩
  ·exact xs4 rfl id fun cx=>run_load1 rfl (by kernel_rfl) (cx.an 1) ((cx.bi 0 rfl).cell 0)
  ·exact xsc rfl id rfl rfl fun cx=>⟨_,knum_any p _,(map1 (cx.an 2))⟩
  ·exact xs4 rfl id fun cx=>run_load1 rfl (by kernel_rfl) (cx.an 5) ((cx.bi 0 rfl).cell 1)
  ·exact xsc rfl id rfl rfl fun cx=>⟨_,knum_any s _,(map1 (cx.an 6))⟩
 refine then_normal (wp_ret ?_)
 refine bpr (.string ((k++(twoB p))++(twoB s))) (results_1 Tryz.results25 rpt) ?_
 exact Ret.of rfl hst3.ext
theorem rtwo_any (n:Int) (w:World):
  Calls Tryz.prog 77 #[.int .i64 n] w (Ret (.string (twoB n)) w):=by
 go_enter Tryz.func77,Tryz.ntmps77
 have hst0:=St.start w
 refine wp_seq (sqr (sqp [.k 2 (.string ⟨#[]⟩)] ?_))
 refine then_normal (wp_seq (sqr (sqp [.m 3 0,sAn 4 .i64 n 65535 (n % 65536) (bits_mask n 16 (by decide)), .m 0 4] ?_)))
 refine then_normal (wp_seq (sqr (sqp [.m 5 0,sQu 6 .i64 (n % 65536) 256 ((n % 65536) / 256) (by rw [Int.tdiv_eq_ediv_of_nonneg (by omega)]; exact IntWalk.i64_in _ (by omega)),sW 7 .u8 ((n % 65536) / 256) ((n % 65536) / 256) (IntWalk.u8_in _ (by omega)), .m 8 0,sRe 9 .i64 (n % 65536) 256 ((n % 65536) % 256) (Int.tmod_eq_emod_of_nonneg (by omega)),sW 10 .u8 ((n % 65536) % 256) ((n % 65536) % 256) (IntWalk.u8_in _ (by omega))] ?_)))
 refine sqn1 (fun x_=>sA x_) (fun A11_11=> .slice A11_11 2 2) (fun A11_11=>eO 5 1 (.slice A11_11 2 2) 2 ([.int .u8 ((n % 65536) / 256), .int .u8 ((n % 65536) % 256)])) hst0 (by
   refine svA fun ρ β W X cx=>?_
   have fF7:ρ (.tmp 7)= .int .u8 ((n % 65536) / 256):=(cx.ou 7)
   have fF10:ρ (.tmp 10)= .int .u8 ((n % 65536) % 256):=(cx.ou 10)
   exact dv_lit (e:=5) (xs:=[.int .u8 ((n % 65536) / 256), .int .u8 ((n % 65536) % 256)]) rfl (by simp [go_sem,fF7,fF10]) rfl (by decide) rfl rfl (fun σ β' X' hs hb hv hx=>⟨hv,hx⟩)) fun A11_11 W11 hst11=>?_
 refine sql (.string (strOfNums ([((n % 65536) / 256),((n % 65536) % 256)]))) hst11 (fun cx=>run_convB (e:=5) rfl (by kernel_rfl) (by kernel_rfl) (by kernel_rfl) (cx.ou 11) (cx.ri 0 rfl)) ?_
 refine sqp [.m 2 12] ?_
 refine then_normal (wp_ret ?_)
 refine bpr (.string (strOfNums ([((n % 65536) / 256),((n % 65536) % 256)]))) (results_1 Tryz.results77 rpt) ?_
 exact Ret.of rfl hst11.ext
theorem cnans_any (x:ByteArray) (w:World):
  Calls Tryz.prog 124 #[.string x] w (Ret (.bool false) w):=by
 go_enter Tryz.func124,Tryz.ntmps124
 have hst0:=St.start w
 refine wp_seq (sqr (sqp [.k 2 (.bool false)] ?_))
 refine then_normal (wp_seq (sqr (sqp [.m 3 0, .m 4 0, .k 5 (.bool (!(x.toList==x.toList))), .m 2 5] ?_)))
 refine then_normal (wp_ret ?_)
 refine bpr (.bool (!(x.toList==x.toList))) (results_1 Tryz.results124 rpt) ?_
 exact Ret.bool (by simp) hst0.ext
theorem cnani_any (x:Int) (w:World):
  Calls Tryz.prog 125 #[.int .i64 x] w (Ret (.bool false) w):=by
 go_enter Tryz.func125,Tryz.ntmps125
 have hst0:=St.start w
 refine wp_seq (sqr (sqp [.k 2 (.bool false)] ?_))
 refine then_normal (wp_seq (sqr (sqp [.m 3 0, .m 4 0, .k 5 (.bool (x != x)), .m 2 5] ?_)))
 refine then_normal (wp_ret ?_)
 refine bpr (.bool (x != x)) (results_1 Tryz.results125 rpt) ?_
 exact Ret.bool (by simp) hst0.ext
theorem ccmps_any (a b:ByteArray) (w:World):
  Calls Tryz.prog 104 #[.string a, .string b] w (Ret (.int .i64 (cmpB a b)) w):=by
 go_enter Tryz.func104,Tryz.ntmps104
 have hst0:=St.start w
 refine wp_seq (sqr (sqp [.k 4 (vi 0)] ?_))
 refine then_normal (wp_seq (sqr (sqp [.m 7 0] ?_)))
 refine sqk (.bool false) hst0 (fun cx=>⟨_,cnans_any a _,(map1 (cx.ou 7))⟩) fun W3 hst3=>?_
 refine sqp [.k 5 (.bool false)] ?_
 refine then_normal (wp_seq (sqr (sqp [.m 9 1] ?_)))
 refine sqk (.bool false) hst3 (fun cx=>⟨_,cnans_any b _,(map1 (cx.ou 9))⟩) fun W6 hst6=>?_
 refine sqp [.k 6 (.bool false)] ?_
 refine then_normal (wp_seq (wp_seq (sqr (sqp [.k 11 (.bool false)] ?_))))
 refine then_normal (wcf rfl (wp_skip (then_normal (wp_seq (wp_seq (sqr (sqp [.k 13 (.bool false)] ?_)))))))
 refine then_normal (wcf rfl (wp_skip (then_normal (wp_seq (wp_seq (sqr (sqp [.m 14 0, .m 15 1] ?_)))))))
 refine sql (.bool (ltB a b)) hst6 (fun cx=>run_strls rfl (cx.ou 14) (cx.ou 15)) ?_
 refine then_normal (wbs (fun hs13=>?_) fun hs13=>?_)
 ·refine wp_seq (sqr (sqp [.k 4 (vi (-1))] ?_))
  refine then_normal (wp_ret (then_ret ?_))
  refine bpr (vi (-1)) (results_1 Tryz.results104 rpt) ?_
  exact Ret.of (by simp [cmpB, *]) hst6.ext
 refine wp_skip (then_normal (wp_seq (wp_seq (sqr (sqp [.m 17 0, .m 18 1] ?_)))))
 refine sql (.bool (ltB b a)) hst6 (fun cx=>run_strgt rfl (cx.ou 17) (cx.ou 18)) ?_
 refine then_normal (wbs (fun hs18=>?_) fun hs18=>?_)
 ·refine wp_seq (sqr (sqp [.k 4 (vi 1)] ?_))
  refine then_normal (wp_ret (then_ret ?_))
  refine bpr (vi 1) (results_1 Tryz.results104 rpt) ?_
  exact Ret.of (by simp [cmpB, *]) hst6.ext
 refine wp_skip (then_normal (wp_seq (sqr (sqp [.k 4 (vi 0)] ?_))))
 refine then_normal (wp_ret ?_)
 refine bpr (vi 0) (results_1 Tryz.results104 rpt) ?_
 exact Ret.of (by simp [cmpB, *]) hst6.ext
theorem ccmpi_any (a b:Int) (w:World):
  Calls Tryz.prog 105 #[.int .i64 a, .int .i64 b] w (Ret (.int .i64 (cmpI a b)) w):=by
 go_enter Tryz.func105,Tryz.ntmps105
 have hst0:=St.start w
 refine wp_seq (sqr (sqp [.k 4 (vi 0)] ?_))
 refine then_normal (wp_seq (sqr (sqp [.m 7 0] ?_)))
 refine sqk (.bool false) hst0 (fun cx=>⟨_,cnani_any a _,(map1 (cx.ou 7))⟩) fun W3 hst3=>?_
 refine sqp [.k 5 (.bool false)] ?_
 refine then_normal (wp_seq (sqr (sqp [.m 9 1] ?_)))
 refine sqk (.bool false) hst3 (fun cx=>⟨_,cnani_any b _,(map1 (cx.ou 9))⟩) fun W6 hst6=>?_
 refine sqp [.k 6 (.bool false)] ?_
 refine then_normal (wp_seq (wp_seq (sqr (sqp [.k 11 (.bool false)] ?_))))
 refine then_normal (wcf rfl (wp_skip (then_normal (wp_seq (wp_seq (sqr (sqp [.k 13 (.bool false)] ?_)))))))
 refine then_normal (wcf rfl (wp_skip (then_normal (wp_seq (wp_seq (sqr (sqp [.m 14 0, .m 15 1, .k 16 (.bool (decide (a < b)))] ?_)))))))
 refine then_normal (wds (fun hs13 hs13p=>?_) fun hs13 hs13p=>?_)
 ·refine wp_seq (sqr (sqp [.k 4 (vi (-1))] ?_))
  refine then_normal (wp_ret (then_ret ?_))
  refine bpr (vi (-1)) (results_1 Tryz.results105 rpt) ?_
  exact Ret.of (by simp [cmpI, *]) hst6.ext
 refine wp_skip (then_normal (wp_seq (wp_seq (sqr (sqp [.m 17 0, .m 18 1, .k 19 (.bool (decide (b < a)))] ?_)))))
 refine then_normal (wds (fun hs18 hs18p=>?_) fun hs18 hs18p=>?_)
 ·refine wp_seq (sqr (sqp [.k 4 (vi 1)] ?_))
  refine then_normal (wp_ret (then_ret ?_))
  refine bpr (vi 1) (results_1 Tryz.results105 rpt) ?_
  exact Ret.of (by simp [cmpI, *]) hst6.ext
 refine wp_skip (then_normal (wp_seq (sqr (sqp [.k 4 (vi 0)] ?_))))
 refine then_normal (wp_ret ?_)
 refine bpr (vi 0) (results_1 Tryz.results105 rpt) ?_
 exact Ret.of (by simp [cmpI, *]) hst6.ext
end
section
open Go.RowKit
/-- the key that Part returns -/
abbrev gu (u:List Go.Value) (k:Nat):Go.Value:=u.getD k undef
theorem nle {a b:Nat} (h:Nat.ble a b=true):a≤b:=Nat.le_of_ble_eq_true h
def qkF (e:ByteArray):ByteArray:=if e.size < 4 then ByteArray.empty else pkF e
def partV (e:ByteArray):Value:= .tuple #[.string (qkF e), .agg #[.int .i64 (opF e), .int .i64 (osF e)], .bool (decide (4≤e.size))]
theorem numS_sub (e:ByteArray) (m p k:Nat) (h:m+p+k≤e.size):numS (e.extract m e.size) p k=numS e (m+p) k:=by
 have e1:∀ z:ByteArray,∀ q,numS z q k=numL (((bl z).drop q).take k):=fun z q=>by
  rw [numS,show (z.extract q (q+k)).data.toList=bl (z.extract q (q+k)) from rfl,bl_extract,Nat.add_sub_cancel_left]
 rw [e1,e1,bl_extract,← bl_len,List.take_of_length_le (l:=(bl e).drop m) (by rw [List.length_drop]; exact Nat.le_refl _),List.drop_drop]
theorem part_bad {e:ByteArray} (h:e.size < 4):partV e= .tuple #[.string ByteArray.empty, .agg #[.int .i64 0, .int .i64 0], .bool false]:=by
 rw [partV,qkF,opF,osF,if_pos h,if_pos h,if_pos h,decide_eq_false (by omega)]
theorem part_ok {e:ByteArray} {m:Nat} (h:e.size=m+4):partV e= .tuple #[.string (e.extract 0 m), .agg #[.int .i64 (numS (e.extract m e.size) 0 2), .int .i64 (numS (e.extract m e.size) 2 2)], .bool true]:=by
 rw [partV,qkF,opF,osF,if_neg (by omega),if_neg (by omega),if_neg (by omega),decide_eq_true (by omega),pkF,ppF,psF,numS_sub _ _ _ _ (by omega),numS_sub _ _ _ _ (by omega),show e.size - 4=m by omega,show e.size - 2=m+2 by omega]; rfl
/-- the first number that is not zero -/
def orL:List Int→Int
 | []=>0
 | x::l=>if x≠0 then x else orL l
theorem orL_drop:∀ (ls:List Int) (k:Nat),k < ls.length→orL (ls.drop k)=if ls.getD k 0≠0 then ls.getD k 0 else orL (ls.drop (k+1))
 | [],k,h=>by simp at h
 | x::l,0, _=>rfl
 | x::l,k+1,h=>orL_drop l k (by simpa using h)
theorem ordF_or (a b:ByteArray):orL [cmpB (okF a) (okF b),cmpI (opF a) (opF b),cmpI (osF a) (osF b)]=ordF a b:=by
 simp only [orL,ordF]
 split
 ·rfl
 ·split
  ·rfl
  ·split
   ·rfl
   ·omega
theorem oread_b (s:ByteArray) (w:World):Calls Tryz.prog 92 #[.string s] w fun e w'=>∃ B,e= .returned (.pointer (some ⟨B,0,none⟩))∧(Blk w' B 202 #[.string s, .int .i64 0, .bool false]∧w.heap.size≤B)∧Ext w w':=by
 go_enter Tryz.func92,Tryz.ntmps92
 have hst0:=St.start w
 refine wp_seq (sqr (sqp [.k 2 (.pointer none)] ?_))
 refine then_normal (wp_seq (sqr (sqp [.m 3 0, .k 4 (.agg #[.string s,vi 0, .bool false])] ?_)))
 refine sqbx #[.string s,vi 0, .bool false] hst0 fun B5_4 W4 hst4=>?_
 refine sqp [.m 2 5] ?_
 refine then_normal (wp_ret ?_)
 refine bpr (vp B5_4) (results_1 Tryz.results92 rpt) ?_
 exact ⟨_,rfl,⟨hst4.blk 0 rfl,((hst4.get 0 rfl).own _ (by simp [eB])).1.resolve_left (by simp)⟩,hst4.ext⟩
theorem kpart_any (e:ByteArray) (w:World) (he:e.size≤1000000):
  Calls Tryz.prog 63 #[.string e] w (Ret (partV e) w):=by
 go_enter Tryz.func63,Tryz.ntmps63
 have hst0:=St.start w
 refine wp_seq (sqr (sqp [.k 2 (.string ⟨#[]⟩)] ?_))
 refine sqal #[vi 0,vi 0] hst0 fun B3_2 W2 hst2=>?_
 refine sqp [.k 4 (.bool false)] ?_
 refine then_normal (wp_seq (sqr (sqp [.m 8 0, .k 9 (vi ((e.size:Int))),sI 10 ((e.size:Int) - 4) (by omega), .m 5 10] ?_)))
 refine then_normal (wp_seq (wp_seq (sqr (sqp [.m 11 5, .k 12 (.bool (decide ((e.size:Int) - 4 < 0)))] ?_))))
 refine then_normal (wds (fun hs10 hs10p=>?_) fun hs10 hs10p=>?_)
 ·refine wp_seq (sqr (sqp [.k 13 (.agg #[vi 0,vi 0]), .k 2 (.string ⟨#[]⟩)] ?_))
  refine sqst (n:=2) 0 #[vi 0,vi 0] hst2 fun W13 hst13=>?_
  refine sqp [.k 4 (.bool false)] ?_
  refine then_normal (wp_ret (then_ret ?_))
  refine bpr (.tuple #[.string ⟨#[]⟩, .agg #[vi 0,vi 0], .bool false]) (results_3 Tryz.results63 rpt (rpa (hst13.blk 0 rfl) 0 2) rpt) ?_
  exact Ret.of (part_bad (by omega)).symm hst13.ext
 refine wp_skip (then_normal (wp_seq ?_))
 obtain ⟨m,hm⟩:∃ m:Nat,e.size=m+4:=⟨e.size - 4,by omega⟩
 obtain ⟨z,hz⟩:∃ z,(e.size:Int) - 4=z:=⟨_,rfl⟩
 rw [hz]
 obtain rfl:z=(m:Int):=by omega
 refine sqr (sqp [.m 14 0, .m 15 5] ?_)
 refine sql (.string (e.extract m e.size)) hst2 (fun cx=>run_slice_lo (l:=m) rfl (by kernel_rfl) (cx.ou 14) (cx.ou 15) (by omega) (by omega)) ?_
 refine sqk1 (fun B17_18=>vp B17_18) (fun B17_18=>eB B17_18 202 #[.string (e.extract m e.size),vi 0, .bool false]) hst2 (fun cx=>⟨_,(oread_b (e.extract m e.size) _).mono (by rintro e W1 ⟨B4,rfl,⟨hb4,hw4⟩,hx⟩; exact ⟨_,rfl,St.one hx ⟨hb4,eB_loc _ _ _,fun k hk=>by simp [eB] at hk; subst hk; exact ⟨hw4,hb4.lt⟩⟩⟩),(map1 (cx.ou 16))⟩) fun B17_18 W18 hst18=>?_
 refine sqp [.m 6 17] ?_
 refine then_normal (wp_seq (sqr (sqp [.m 18 6] ?_)))
 refine sqkm (vi ((numS (e.extract m e.size) 0 2:Int))) 1 #[.string (e.extract m e.size),vi 2, .bool false] hst18 (fun cx=>⟨_,(num_ok _ (e.extract m e.size) 0 2 _ ⟨(cx.bi 1 rfl),by first | omega | (rw [ByteArray.size_extract]; omega),by first | omega | (rw [ByteArray.size_extract]; omega)⟩ (by omega) (by first | omega | (rw [ByteArray.size_extract]; omega))).mono (by rintro e W1 ⟨rfl,hrd,hu⟩; exact ⟨rfl,hu,hrd.1⟩),(map2 (cx.ou 18) (cx.co _))⟩) fun W21 hst21=>?_
 refine sqp [.m 7 19] ?_
 refine then_normal (wp_seq (wp_region_Y [0,0,3,0,0,16,56,55,255,511] [[],[],[],[],[],[1],[],[],[0]] [[],[],[],[],[],[2],[],[],[3]] [[],[],[],[],[],[1],[],[],[0]] [.k 20 (.string e), .k 21 (vi ((m:Int))), .c 22 (.string (e.extract 0 m)), .k 23 (vi ((numS (e.extract m e.size) 0 2:Int))), .k 24 (vp B17_18), .a 25, .c 26 (.agg #[vi ((numS (e.extract m e.size) 0 2:Int)),vi ((numS (e.extract m e.size) 2 2:Int))]), .k 2 (.string (e.extract 0 m)), .n, .k 4 (.bool true)] (fun ix σ β X=>match ix with | 0=>True | 1=>True | 2=>True | 3=>True | 4=>True | 5=>σ 25=vi ((numS (e.extract m e.size) 2 2:Int))∧X 2=eB B17_18 202 #[.string (e.extract m e.size),vi 4, .bool false] | 6=>True | 7=>True | 8=>X 3=eB B3_2 33 #[vi ((numS (e.extract m e.size) 0 2:Int)),vi ((numS (e.extract m e.size) 2 2:Int))] | _=>True) [2,3] [2,5,6,8] [(2,7,1,3),(1,9,1,2),(15,0,7,22)] hst21 ?_ ?_ ?_))
 ·exact fun ix _ _ _ _ _ _ hs hb hx h=>match ix,h with
  | 5,h=>by dsimp only; rw [← hs 25 rfl,← hx 2 rfl]; exact h
  | 8,h=>by dsimp only; rw [← hx 3 rfl]; exact h
  | 0, _ | 1, _ | 2, _ | 3, _ | 4, _ | 6, _ | 7, _ | _+9, _=>trivial
 ·refine ⟨?_,?_,?_,?_,trivial⟩
  ·exact xs4 rfl id fun cx=>run_slice_hi (l:=m) rfl (by kernel_rfl) (cx.an 0) (cx.an 1) (by omega) (by omega)
  ·refine svA fun ρ β W X cx=>?_
   refine DoesU.call (run_callF (args:=#[vp B17_18,vi 2]) rfl cx.sees rfl (by kernel_rfl) (map2 (cx.an 4) (cx.co _))) ?_
   refine (num_ok _ (e.extract m e.size) 2 2 _ ⟨(cx.bi 1 rfl),by first | omega | (rw [ByteArray.size_extract]; omega),by first | omega | (rw [ByteArray.size_extract]; omega)⟩ (by omega) (by first | omega | (rw [ByteArray.size_extract]; omega))).mono ?_
   rintro e W1 ⟨rfl,hrd,hu⟩
   refine ⟨_,rfl,post_mut (cx.init 1 _ rfl) rfl rfl hu hrd.1 (fun σ β' X' hs hb hv hx=>?_)⟩
   exact ⟨(hv 25 rfl).1.trans rfl,hx⟩
  ·exact xs4 rfl id fun cx=>run_buildL rfl (pmc (cx.an 3) (pmc (dTn (cx.an 5)).1 pmn)) (by kernel_rfl)
  ·refine svA fun ρ β W X cx=>?_
   exact dv_store (n:=2) rfl (cx.ou 3) (cx.an 6) (by kernel_rfl) (by kernel_rfl) (by kernel_rfl) cx (cx.init 0 _ rfl) rfl (nle rfl) (by kernel_rfl) rfl rfl rfl (fun σ β' X' hs hb hx=>hx)
 intro σ β X W23 hD hst23 fr hfr
 simp only [exq 2 ((dTn (hD 5 lq)).2),exq 3 ((dTn (hD 8 lq)))] at hst23
 simp only [ed 25 ((dTn (hD 5 lq)).1)] at hfr
 clear hD; subst hfr; clear σ β X
 refine then_normal (wp_ret ?_)
 refine bpr (.tuple #[.string (e.extract 0 m), .agg #[vi ((numS (e.extract m e.size) 0 2:Int)),vi ((numS (e.extract m e.size) 2 2:Int))], .bool true]) (results_3 Tryz.results63 rpt (rpa (hst23.blk 1 rfl) 0 2) rpt) ?_
 exact Ret.of (part_ok hm).symm hst23.ext
theorem kor_any (A:Option Addr) (c:Nat) (ls:List Int) (w:World) (hA:At w A (ls.map (Value.int .i64))) (hl:ls.length≤100000):
  Calls Tryz.prog 103 #[.slice A ls.length c] w (Ret (.int .i64 (orL ls)) w):=by
 go_enter Tryz.func103,Tryz.ntmps103
 have hst0:=St.start w
 refine wp_seq (sqr (sqp [.k 2 (vi 0)] ?_))
 refine then_normal (wp_seq (sqr (sqp [.k 3 (vi 0)] ?_)))
 refine then_normal (wp_seq (wp_seq (sqr (sqp [.m 6 0, .k 7 (vi ((ls.length:Int))), .k 8 (vi 0)] ?_))))
 refine then_normal (wp_block ?_)
 refine wp_loopT (fun t_ mz az W=>∃ k:Nat,k≤ls.length∧orL ls=orL (ls.drop k)∧mz=ls.length - k∧az=⟨(ovr (jv az) [(2,2,1,[]),(2,5,1,[]),(2,8,0,[vi ((k:Int))]),(0,9,8,[])] t_).toArray,[]⟩∧St w [] [] W) (ls.length - 0) ?_ ?_
 · -- the loop begins
   exact ⟨0,Nat.zero_le _,rfl,rfl,(by kernel_rfl),hst0.pk []⟩
 rintro n6 a6 W6 ⟨k,hk,hI,rfl,hj_,hst6⟩
 refine ovz hj_ fun u6_=>?_
 refine wp_seq (sqr (sqp [.k 9 (.bool (decide ((k:Int) < (ls.length:Int))))] ?_))
 refine then_normal (wp_seq (wds (fun hs8 hs8p=>?_) fun hs8 hs8p=>?_))
 ·refine wp_skip (then_normal (wp_seq (wp_block (wp_seq (sqr ?_)))))
  refine sql (.pointer (some ((ad A).add k))) hst6 (fun cx=>run_indexSl (e:=3) (m:=k) rfl (by kernel_rfl) (by kernel_rfl) (cx.ou 6) (cx.ou 8) (by omega) (by omega) (hA.ext cx.upd.to_ext) (by simp)) ?_
  refine sql (vi (ls.getD k 0)) hst6 (fun cx=>run_load1 rfl (by kernel_rfl) (cx.ou 10) (At.cellAd (hA.ext cx.upd.to_ext) (getD_int (by omega)))) ?_
  refine sqp [.m 5 11] ?_
  refine then_normal (wp_seq (sqr (sqp [.m 12 5, .m 13 3, .k 14 (.bool ((ls.getD k 0) != 0))] ?_)))
  refine then_normal (wbs (fun hs15=>?_) fun hs15=>?_)
  ·have hs15p:=bne_iff_ne.1 hs15
   refine wp_seq (sqr (sqp [.m 15 5, .m 2 15] ?_))
   refine then_normal (wp_ret (blk_ret (then_ret (then_ret (blk_ret (then_ret ?_))))))
   refine bpr (vi (ls.getD k 0)) (results_1 Tryz.results103 rpt) ?_
   exact Ret.of (by rw [hI,orL_drop ls k (by omega),if_pos (by omega)]) hst6.ext
  have hs15p:=bne_eq_false_iff_eq.1 hs15
  refine wp_skip (blk_normal (then_normal (sqr (sqp [sI 16 ((k:Int)+1) (by omega), .m 8 16] ?_))))
  refine then_normal ?_
  refine ⟨ls.length - ((k+1)),by omega,?_⟩
  exact ⟨(k+1),by omega,by rw [hI,orL_drop ls k (by omega),if_neg (by omega)],rfl,(by kernel_rfl),hst6.pk []⟩
 refine wp_exit (then_exit (then_exit (blk_eq (then_normal (wp_seq (sqr (sqp [.m 17 3, .m 2 17] ?_)))))))
 refine then_normal (wp_ret ?_)
 refine bpr (vi 0) (results_1 Tryz.results103 rpt) ?_
 exact Ret.of (by rw [hI,List.drop_of_length_le (by omega)]; rfl) hst6.ext
theorem kord1_any (s:ByteArray) (w:World) (hs:s.size≤1000000):
  Calls Tryz.prog 102 #[.string s] w (Ret (.tuple #[.string (okF s), .agg #[.int .i64 (opF s), .int .i64 (osF s)]]) w):=by
 go_enter Tryz.func102,Tryz.ntmps102
 have hst0:=St.start w
 refine wp_seq (sqr (sqp [.k 2 (.string ⟨#[]⟩)] ?_))
 refine sqal #[vi 0,vi 0] hst0 fun B3_2 W2 hst2=>?_
 refine then_normal (wp_seq (sqr (sqp [.m 8 0] ?_)))
 refine sqk (.tuple #[.string (qkF s), .agg #[vi (opF s),vi (osF s)], .bool (decide (4≤s.size))]) hst2 (fun cx=>⟨_,kpart_any s _ (by omega),(map1 (cx.ou 8))⟩) fun W4 hst4=>?_
 refine sqp [.m 7 9, .k 10 (.string (qkF s)), .k 11 (.agg #[vi (opF s),vi (osF s)]), .k 12 (.bool (decide (4≤s.size)))] ?_
 refine sqal #[vi 0,vi 0] hst4 fun B5_9 W9 hst9=>?_
 refine sqp [.m 4 10] ?_
 refine sqst (n:=2) 1 #[vi (opF s),vi (osF s)] hst9 fun W11 hst11=>?_
 refine sqp [.m 6 12] ?_
 refine then_normal (wp_seq (wp_seq (sqr (sqp [.m 13 6, .k 14 (.bool (!(decide (4≤s.size))))] ?_))))
 refine then_normal ?_
 rcases Bool.eq_false_or_eq_true (decide (4≤s.size)) with hs15 | hs15
 ·have hs15p:=of_decide_eq_true hs15
  refine wp_cond_false (show Act.eval _ _= .bool false from (congrArg Value.bool (by rw [hs15]; rfl))) (wp_skip (then_normal (wp_seq (wp_region_Y [0,0,1,7] [[],[1],[],[0]] [[],[],[],[2]] [[],[],[],[0]] [.k 16 (.string (qkF s)), .c 17 (.agg #[vi (opF s),vi (osF s)]), .k 2 (.string (qkF s)), .n] (fun ix σ β X=>match ix with | 0=>True | 1=>True | 2=>True | 3=>X 2=eB B3_2 33 #[vi (opF s),vi (osF s)] | _=>True) [1,2] [1,3] [(2,2,1,3),(13,0,2,15)] hst11 ?_ ?_ ?_))))
  ·exact fun ix _ _ _ _ _ _ hs hb hx h=>match ix,h with
   | 3,h=>by dsimp only; rw [← hx 2 rfl]; exact h
   | 0, _ | 1, _ | 2, _ | _+4, _=>trivial
  ·refine ⟨?_,?_,trivial⟩
   ·exact xs4 rfl id fun cx=>run_loadB (n:=2) rfl (by kernel_rfl) (by kernel_rfl) (cx.ou 5) (cx.bi 1 rfl) (nle rfl) rfl
   ·refine svA fun ρ β W X cx=>?_
    exact dv_store (n:=2) rfl (cx.ou 3) (cx.an 1) (by kernel_rfl) (by kernel_rfl) (by kernel_rfl) cx (cx.init 0 _ rfl) rfl (nle rfl) (by kernel_rfl) rfl rfl rfl (fun σ β' X' hs hb hx=>hx)
  intro σ β X W16 hD hst16 fr hfr
  simp only [exq 2 ((dTn (hD 3 lq)))] at hst16
  clear hD; subst hfr; clear σ β X
  refine then_normal (wp_ret ?_)
  refine bpr (.tuple #[.string (qkF s), .agg #[vi (opF s),vi (osF s)]]) (results_2 Tryz.results102 rpt (rpa (hst16.blk 1 rfl) 0 2)) ?_
  exact Ret.of (by rw [okF,qkF,if_neg (by omega),if_neg (by omega)]) hst16.ext
 have hs15p:=of_decide_eq_false hs15
 refine wp_cond_true (show Act.eval _ _= .bool true from (congrArg Value.bool (by rw [hs15]; rfl))) (sqr (sqp [.m 15 0, .m 4 15] ?_))
 refine then_normal (wp_seq (wp_region_Y [0,0,1,7] [[],[1],[],[0]] [[],[],[],[2]] [[],[],[],[0]] [.k 16 (.string s), .c 17 (.agg #[vi (opF s),vi (osF s)]), .k 2 (.string s), .n] (fun ix σ β X=>match ix with | 0=>True | 1=>True | 2=>True | 3=>X 2=eB B3_2 33 #[vi (opF s),vi (osF s)] | _=>True) [1,2] [1,3] [(2,2,1,3),(13,0,2,15)] hst11 ?_ ?_ ?_))
 ·exact fun ix _ _ _ _ _ _ hs hb hx h=>match ix,h with
  | 3,h=>by dsimp only; rw [← hx 2 rfl]; exact h
  | 0, _ | 1, _ | 2, _ | _+4, _=>trivial
 ·refine ⟨?_,?_,trivial⟩
  ·exact xs4 rfl id fun cx=>run_loadB (n:=2) rfl (by kernel_rfl) (by kernel_rfl) (cx.ou 5) (cx.bi 1 rfl) (nle rfl) rfl
  ·refine svA fun ρ β W X cx=>?_
   exact dv_store (n:=2) rfl (cx.ou 3) (cx.an 1) (by kernel_rfl) (by kernel_rfl) (by kernel_rfl) cx (cx.init 0 _ rfl) rfl (nle rfl) (by kernel_rfl) rfl rfl rfl (fun σ β' X' hs hb hx=>hx)
 intro σ β X W19 hD hst19 fr hfr
 simp only [exq 2 ((dTn (hD 3 lq)))] at hst19
 clear hD; subst hfr; clear σ β X
 refine then_normal (wp_ret ?_)
 refine bpr (.tuple #[.string s, .agg #[vi (opF s),vi (osF s)]]) (results_2 Tryz.results102 rpt (rpa (hst19.blk 1 rfl) 0 2)) ?_
 exact Ret.of (by rw [okF,if_pos (by omega)]) hst19.ext
theorem kord_any (a b:ByteArray) (w:World) (ha:a.size≤1000000) (hb:b.size≤1000000):
  Calls Tryz.prog 64 #[.string a, .string b] w (Ret (.int .i64 (ordF a b)) w):=by
 go_enter Tryz.func64,Tryz.ntmps64
 have hst0:=St.start w
 refine wp_seq (sqr (sqp [.k 4 (vi 0)] ?_))
 refine then_normal (wp_seq (sqr (sqp [.k 5 (.func (.func 102) #[] #[])] ?_)))
 refine then_normal (wp_seq (sqr (sqp [.m 11 5, .m 12 0] ?_)))
 refine sqv (.tuple #[.string (okF a), .agg #[vi (opF a),vi (osF a)]]) hst0 (sv_call rfl rfl rfl rfl rfl (fun _ _ _ h=>h) fun ρ β W X cx=>⟨_, _,run_callV (f:=102) (args:=#[.string a]) (args':=#[.string a]) rfl rfl (cx.ou 11) (by kernel_rfl) (map1 (cx.ou 12)) rfl,kord1_any a _ (by omega)⟩) fun W5 hst5=>?_
 refine sqp [.m 10 13, .k 14 (.string (okF a)), .k 15 (.agg #[vi (opF a),vi (osF a)])] ?_
 refine sqal #[vi 0,vi 0] hst5 fun B7_9 W9 hst9=>?_
 refine sqp [.m 6 14] ?_
 refine sqst (n:=2) 0 #[vi (opF a),vi (osF a)] hst9 fun W11 hst11=>?_
 refine then_normal (wp_seq (sqr (sqp [.m 17 5, .m 18 1] ?_)))
 refine sqv (.tuple #[.string (okF b), .agg #[vi (opF b),vi (osF b)]]) hst11 (sv_call rfl rfl rfl rfl rfl (fun _ _ _ h=>h) fun ρ β W X cx=>⟨_, _,run_callV (f:=102) (args:=#[.string b]) (args':=#[.string b]) rfl rfl (cx.ou 17) (by kernel_rfl) (map1 (cx.ou 18)) rfl,kord1_any b _ (by omega)⟩) fun W14 hst14=>?_
 refine sqp [.m 16 19, .k 20 (.string (okF b)), .k 21 (.agg #[vi (opF b),vi (osF b)])] ?_
 refine sqal #[vi 0,vi 0] hst14 fun B9_18 W18 hst18=>?_
 refine sqp [.m 8 20] ?_
 refine sqst (n:=2) 1 #[vi (opF b),vi (osF b)] hst18 fun W20 hst20=>?_
 refine then_normal (wp_seq (wp_region_Y [0,0,3,0,8,0,32,127,0,256,0,1024,4095,8191,16383,32767] [[],[],[],[],[0],[],[1],[],[],[0],[],[1],[],[],[2]] [[],[],[],[],[],[],[],[],[],[],[],[],[],[2]] [] [.k 22 (.string (okF a)), .k 23 (.string (okF b)), .c 24 (vi (cmpB (okF a) (okF b))), .k 25 (vp B7_9), .c 26 (vi (opF a)), .k 27 (vp B9_18), .c 28 (vi (opF b)), .c 29 (vi (cmpI (opF a) (opF b))), .k 30 (.pointer (some ⟨B7_9,1,none⟩)), .c 31 (vi (osF a)), .k 32 (.pointer (some ⟨B9_18,1,none⟩)), .c 33 (vi (osF b)), .c 34 (vi (cmpI (osF a) (osF b))), .a 35, .c 36 (vi (orL [(cmpB (okF a) (okF b)),(cmpI (opF a) (opF b)),(cmpI (osF a) (osF b))])), .k 4 (vi (orL [(cmpB (okF a) (okF b)),(cmpI (opF a) (opF b)),(cmpI (osF a) (osF b))]))] (fun ix σ β X=>match ix with | 0=>True | 1=>True | 2=>True | 3=>True | 4=>True | 5=>True | 6=>True | 7=>True | 8=>True | 9=>True | 10=>True | 11=>True | 12=>True | 13=>σ 35= .slice (sA (β 35)) 3 3∧X 2=eO 3 1 (.slice (sA (β 35)) 3 3) 3 ([vi (cmpB (okF a) (okF b)),vi (cmpI (opF a) (opF b)),vi (cmpI (osF a) (osF b))]) | _=>True) [0,1,2] [2,4,6,7,9,11,12,13,14] [(4,15,1,5),(17,0,15,32)] hst20 ?_ ?_ ?_))
 ·exact fun ix _ _ _ _ _ _ hs hb hx h=>match ix,h with
  | 13,h=>by dsimp only; rw [← hs 35 rfl,← hb 35 rfl,← hx 2 rfl]; exact h
  | 0, _ | 1, _ | 2, _ | 3, _ | 4, _ | 5, _ | 6, _ | 7, _ | 8, _ | 9, _ | 10, _ | 11, _ | 12, _ | _+14, _=>trivial
 ·refine ⟨?_,?_,?_,?_,?_,?_,?_,?_,?_,trivial⟩
  ·exact xsc rfl id rfl rfl fun cx=>⟨_,ccmps_any (okF a) (okF b) _,(map2 (cx.an 0) (cx.an 1))⟩
  ·exact xs4 rfl id fun cx=>run_load1 rfl (by kernel_rfl) (cx.an 3) ((cx.bi 0 rfl).cell 0)
  ·exact xs4 rfl id fun cx=>run_load1 rfl (by kernel_rfl) (cx.an 5) ((cx.bi 1 rfl).cell 0)
  ·exact xsc rfl id rfl rfl fun cx=>⟨_,ccmpi_any (opF a) (opF b) _,(map2 (cx.an 4) (cx.an 6))⟩
  ·exact xs4 rfl id fun cx=>run_load1 rfl (by kernel_rfl) (cx.an 8) ((cx.bi 0 rfl).cell 1)
  ·exact xs4 rfl id fun cx=>run_load1 rfl (by kernel_rfl) (cx.an 10) ((cx.bi 1 rfl).cell 1)
  ·exact xsc rfl id rfl rfl fun cx=>⟨_,ccmpi_any (osF a) (osF b) _,(map2 (cx.an 9) (cx.an 11))⟩
  ·refine svA fun ρ β W X cx=>?_
   have fF24:ρ (.tmp 24)=vi (cmpB (okF a) (okF b)):=(cx.an 2)
   have fF29:ρ (.tmp 29)=vi (cmpI (opF a) (opF b)):=(cx.an 7)
   have fF34:ρ (.tmp 34)=vi (cmpI (osF a) (osF b)):=(cx.an 12)
   exact dv_lit (e:=3) (xs:=[vi (cmpB (okF a) (okF b)),vi (cmpI (opF a) (opF b)),vi (cmpI (osF a) (osF b))]) rfl (by simp [go_sem,fF24,fF29,fF34]) rfl (by decide) rfl rfl (fun σ β' X' hs hb hv hx=>⟨hv,hx⟩)
  ·exact xsc rfl id rfl rfl fun cx=>⟨_,kor_any _ _ [(cmpB (okF a) (okF b)),(cmpI (opF a) (opF b)),(cmpI (osF a) (osF b))] _ (At.of_own (cx.row (dTn (cx.an 13)).2 rfl)) (by simp),(map1 (dTn (cx.an 13)).1)⟩
 intro σ β X W21 hD hst21 fr hfr
 obtain ⟨A35_21,hu_A35_21⟩:∃ z,sA (β 35)=z:=⟨_,rfl⟩
 simp only [exq 2 ((dTn (hD 13 lq)).2),hu_A35_21] at hst21
 simp only [ed 35 ((dTn (hD 13 lq)).1),hu_A35_21] at hfr
 clear hD hu_A35_21; subst hfr; clear σ β X
 refine then_normal (wp_ret ?_)
 refine bpr (vi (orL [(cmpB (okF a) (okF b)),(cmpI (opF a) (opF b)),(cmpI (osF a) (osF b))])) (results_1 Tryz.results64 rpt) ?_
 exact Ret.of (by rw [← ordF_or]) hst21.ext
theorem kless_any (a b:ByteArray) (w:World) (ha:a.size≤1000000) (hb:b.size≤1000000):
  Calls Tryz.prog 24 #[.string a, .string b] w (Ret (.bool (lessF a b)) w):=by
 go_enter Tryz.func24,Tryz.ntmps24
 have hst0:=St.start w
 refine wp_seq (sqr (sqp [.k 4 (.bool false)] ?_))
 refine then_normal (wp_seq (sqr (sqp [.m 5 0, .m 6 1] ?_)))
 refine sqk (vi (ordF a b)) hst0 (fun cx=>⟨_,kord_any a b _ (by omega) (by omega),(map2 (cx.ou 5) (cx.ou 6))⟩) fun W4 hst4=>?_
 refine sqp [.k 8 (.bool (decide (ordF a b < 0))), .m 4 8] ?_
 refine then_normal (wp_ret ?_)
 refine bpr (.bool (decide (ordF a b < 0))) (results_1 Tryz.results24 rpt) ?_
 exact Ret.bool (ordF_less a b) hst4.ext
end
section
open Go.RowKit
def byteI (l:List UInt8) (m:Nat):Int:=((l.getD m 0).toNat:Int)
theorem byteI_bd (l:List UInt8) (m:Nat):0≤byteI l m∧byteI l m < 256:=by
 have:=(l.getD m 0).toNat_lt
 unfold byteI; omega
section
variable {P:Program} {o:Oper} {ρ:Operand→Value} {W:World}
theorem run_indexS {t:TypeId} {x y:Operand} {s:ByteArray} {k:IntKind} {j:Int} {m:Nat} (h:o.op= .index t x y) (ht:P.underlying t=some .string) (hx:ρ x= .string s) (hy:ρ y= .int k j) (hj:j=(m:Int)) (hm:m < s.size):
  (execOp ρ o).run P W= .ok (.value (.int .u8 (byteI (bl s) m))) W:=by
 subst hj
 unfold execOp; rw [h]
 have h1:(0:Int)≤(m:Int):=by omega
 have h2:s[m]? =some ((bl s).getD m 0):=by
  have hm':m < s.data.size:=hm
  rw [getElem?_pos s m hm]
  simp [bl,ByteArray.getElem_eq_getElem_data]
  rw [Array.getElem?_eq_getElem hm']; rfl
 simp only [hx,hy,Instr.index,asIntOf,Sem.run_bind,Sem.run_pure,Result.andThen_ok,run_underlying ht,h1,if_true,Int.toNat_natCast,h2]
 rfl
end
theorem numS_two (e:ByteArray) (m:Nat) (h:m+2≤e.size):(numS e m 2:Int)=byteI (bl e) m*256+byteI (bl e) (m+1):=by
 have e1:numS e m 2=numL (((bl e).drop m).take 2):=by
  rw [numS,show (e.extract m (m+2)).data.toList=bl (e.extract m (m+2)) from rfl,bl_extract,Nat.add_sub_cancel_left]
 have hl:m+2≤(bl e).length:=by rw [bl_len]; exact h
 have e2:((bl e).drop m).take 2=[(bl e).getD m 0,(bl e).getD (m+1) 0]:=by
  have a1:(bl e).drop m=(bl e)[m]'(by omega)::(bl e).drop (m+1):=List.drop_eq_getElem_cons (by omega)
  have a2:(bl e).drop (m+1)=(bl e)[m+1]'(by omega)::(bl e).drop (m+1+1):=List.drop_eq_getElem_cons (by omega)
  rw [a1,List.take_succ_cons,a2,List.take_succ_cons,List.take_zero]
  simp [List.getD_eq_getElem?_getD,List.getElem?_eq_getElem (show m < (bl e).length by omega),List.getElem?_eq_getElem (show m+1 < (bl e).length by omega)]
 rw [e1,e2,numL,List.foldl_cons,List.foldl_cons,List.foldl_nil,byteI,byteI]
 omega
theorem bqd (a b:ByteArray):(a.toList==b.toList)=decide (a=b):=by
 rw [Bool.eq_iff_iff,beq_iff_eq,ByteArray.toList_eq,ByteArray.toList_eq,decide_eq_true_eq]
 exact ⟨fun h=>bl_inj h,fun h=>by rw [h]⟩
end
section
open Go.RowKit
theorem two_sz (a b:Int):(strOfNums [a,b]).size=2:=by simp [strOfNums,ByteArray.size]
/-- a node's header -/
def hdB (lv right:Int) (dead:Bool) (high:ByteArray):ByteArray:=(strOfNums [lv,if dead then 1 else 0]++twoB (right+1))++high
/-- an entry as it is stored -/
def itB (lv kid:Int) (e:ByteArray):ByteArray:=if 0 < lv then e++twoB kid else e
/-- does a node send x on -/
def sndB (dead:Bool) (high x:ByteArray):Bool:=dead||(!(high.toList==(⟨#[]⟩:ByteArray).toList)&&!lessF x high)
theorem khead_any (pg lv rt fr:Int) (hi:ByteArray) (dead:Bool) (EA:Option Addr) (en ec:Nat) (w:World) (hlv:0≤lv∧lv≤255) (hrt: -1≤rt∧rt≤1000000) (hh:hi.size≤1000000):
  Calls Tryz.prog 62 #[.agg #[.int .i64 pg, .int .i64 lv, .int .i64 rt, .string hi, .bool dead, .slice EA en ec, .int .i64 fr]] w (Ret (.string (hdB lv rt dead hi)) w):=by
 go_enter Tryz.func62,Tryz.ntmps62
 have hst0:=St.start w
 refine wp_seq (sqr ?_)
 refine sqbx #[vi pg,vi lv,vi rt, .string hi, .bool dead, .slice EA en ec,vi fr] hst0 fun B1_1 W1 hst1=>?_
 refine sqp [.k 2 (.string ⟨#[]⟩)] ?_
 refine then_normal (wp_seq (sqr (sqp [.k 3 (vi 0)] ?_)))
 refine then_normal (wp_seq (wp_seq (sqr (sqp [.k 4 (.pointer (some ⟨B1_1,4,none⟩))] ?_))))
 refine sqld 0 hst1 ?_
 refine then_normal (wbs (fun hs6=>?_) fun hs6=>?_)
 ·refine sqr (sqp [.k 3 (vi 1)] ?_)
  refine then_normal (wp_seq (wp_region_Y [0,1,3,0,8,31,63,0,128,384,896,2047,0,4096,16383,32767] [[],[0],[],[],[],[],[1],[],[0],[],[],[],[],[0]] [[],[],[],[],[],[1]] [] [.k 6 (.pointer (some ⟨B1_1,1,none⟩)), .c 7 (vi lv),tW 8 .u8 lv lv (IntWalk.u8_in _ (by omega)), .k 9 (vi 1),tW 10 .u8 1 1 (by decide), .a 11, .c 12 (.string (strOfNums ([lv,1]))), .k 13 (.pointer (some ⟨B1_1,2,none⟩)), .c 14 (vi rt),tI 15 (rt+1) (by omega), .c 16 (.string (twoB (rt+1))),tS 17 (strOfNums ([lv,1])) (twoB (rt+1)) (by (try simp only [ByteArray.size_append,twoB_size,two_sz]); omega), .k 18 (.pointer (some ⟨B1_1,3,none⟩)), .c 19 (.string hi),tS 20 ((strOfNums ([lv,1]))++(twoB (rt+1))) hi (by (try simp only [ByteArray.size_append,twoB_size,two_sz]); omega), .k 2 (.string (((strOfNums ([lv,1]))++(twoB (rt+1)))++hi))] (fun ix σ β X=>match ix with | 0=>True | 1=>True | 2=>True | 3=>True | 4=>True | 5=>σ 11= .slice (sA (β 11)) 2 2∧X 1=eO 5 1 (.slice (sA (β 11)) 2 2) 2 ([.int .u8 lv, .int .u8 1]) | _=>True) [0,1] [1,5,6,8,10,13] [(2,15,1,3),(3,0,15,18)] hst1 ?_ ?_ ?_))
  ·exact fun ix _ _ _ _ _ _ hs hb hx h=>match ix,h with
   | 5,h=>by dsimp only; rw [← hs 11 rfl,← hb 11 rfl,← hx 1 rfl]; exact h
   | 0, _ | 1, _ | 2, _ | 3, _ | 4, _ | _+6, _=>trivial
  ·refine ⟨?_,?_,?_,?_,?_,?_,trivial⟩
   ·exact xs4 rfl id fun cx=>run_load1 rfl (by kernel_rfl) (cx.an 0) ((cx.bi 0 rfl).cell 1)
   ·refine svA fun ρ β W X cx=>?_
    have fF8:ρ (.tmp 8)= .int .u8 lv:=(cx.an 2)
    have fF10:ρ (.tmp 10)= .int .u8 1:=(cx.an 4)
    exact dv_lit (e:=5) (xs:=[.int .u8 lv, .int .u8 1]) rfl (by simp [go_sem,fF8,fF10]) rfl (by decide) rfl rfl (fun σ β' X' hs hb hv hx=>⟨hv,hx⟩)
   ·exact xs4 rfl id fun cx=>run_convB (e:=5) rfl (by kernel_rfl) (by kernel_rfl) (by kernel_rfl) (dTn (cx.an 5)).1 (cx.row (dTn (cx.an 5)).2 rfl)
   ·exact xs4 rfl id fun cx=>run_load1 rfl (by kernel_rfl) (cx.an 7) ((cx.bi 0 rfl).cell 2)
   ·exact xsc rfl id rfl rfl fun cx=>⟨_,knum_any (rt+1) _,(map1 (cx.an 9))⟩
   ·exact xs4 rfl id fun cx=>run_load1 rfl (by kernel_rfl) (cx.an 12) ((cx.bi 0 rfl).cell 3)
  intro σ β X W8 hD hst8 fr hfr
  obtain ⟨A11_8,hu_A11_8⟩:∃ z,sA (β 11)=z:=⟨_,rfl⟩
  simp only [exq 1 ((dTn (hD 5 lq)).2),hu_A11_8] at hst8
  simp only [ed 11 ((dTn (hD 5 lq)).1),hu_A11_8] at hfr
  clear hD hu_A11_8; subst hfr; clear σ β X
  refine then_normal (wp_ret ?_)
  refine bpr (.string (((strOfNums ([lv,1]))++(twoB (rt+1)))++hi)) (results_1 Tryz.results62 rpt) ?_
  exact Ret.of (by simp [hdB, *]) hst8.ext
 refine wp_skip (then_normal (wp_seq (wp_region_Y [0,1,3,0,8,31,63,0,128,384,896,2047,0,4096,16383,32767] [[],[0],[],[],[],[],[1],[],[0],[],[],[],[],[0]] [[],[],[],[],[],[1]] [] [.k 6 (.pointer (some ⟨B1_1,1,none⟩)), .c 7 (vi lv),tW 8 .u8 lv lv (IntWalk.u8_in _ (by omega)), .k 9 (vi 0),tW 10 .u8 0 0 (by decide), .a 11, .c 12 (.string (strOfNums ([lv,0]))), .k 13 (.pointer (some ⟨B1_1,2,none⟩)), .c 14 (vi rt),tI 15 (rt+1) (by omega), .c 16 (.string (twoB (rt+1))),tS 17 (strOfNums ([lv,0])) (twoB (rt+1)) (by (try simp only [ByteArray.size_append,twoB_size,two_sz]); omega), .k 18 (.pointer (some ⟨B1_1,3,none⟩)), .c 19 (.string hi),tS 20 ((strOfNums ([lv,0]))++(twoB (rt+1))) hi (by (try simp only [ByteArray.size_append,twoB_size,two_sz]); omega), .k 2 (.string (((strOfNums ([lv,0]))++(twoB (rt+1)))++hi))] (fun ix σ β X=>match ix with | 0=>True | 1=>True | 2=>True | 3=>True | 4=>True | 5=>σ 11= .slice (sA (β 11)) 2 2∧X 1=eO 5 1 (.slice (sA (β 11)) 2 2) 2 ([.int .u8 lv, .int .u8 0]) | _=>True) [0,1] [1,5,6,8,10,13] [(2,15,1,3),(3,0,15,18)] hst1 ?_ ?_ ?_)))
 ·exact fun ix _ _ _ _ _ _ hs hb hx h=>match ix,h with
  | 5,h=>by dsimp only; rw [← hs 11 rfl,← hb 11 rfl,← hx 1 rfl]; exact h
  | 0, _ | 1, _ | 2, _ | 3, _ | 4, _ | _+6, _=>trivial
 ·refine ⟨?_,?_,?_,?_,?_,?_,trivial⟩
  ·exact xs4 rfl id fun cx=>run_load1 rfl (by kernel_rfl) (cx.an 0) ((cx.bi 0 rfl).cell 1)
  ·refine svA fun ρ β W X cx=>?_
   have fF8:ρ (.tmp 8)= .int .u8 lv:=(cx.an 2)
   have fF10:ρ (.tmp 10)= .int .u8 0:=(cx.an 4)
   exact dv_lit (e:=5) (xs:=[.int .u8 lv, .int .u8 0]) rfl (by simp [go_sem,fF8,fF10]) rfl (by decide) rfl rfl (fun σ β' X' hs hb hv hx=>⟨hv,hx⟩)
  ·exact xs4 rfl id fun cx=>run_convB (e:=5) rfl (by kernel_rfl) (by kernel_rfl) (by kernel_rfl) (dTn (cx.an 5)).1 (cx.row (dTn (cx.an 5)).2 rfl)
  ·exact xs4 rfl id fun cx=>run_load1 rfl (by kernel_rfl) (cx.an 7) ((cx.bi 0 rfl).cell 2)
  ·exact xsc rfl id rfl rfl fun cx=>⟨_,knum_any (rt+1) _,(map1 (cx.an 9))⟩
  ·exact xs4 rfl id fun cx=>run_load1 rfl (by kernel_rfl) (cx.an 12) ((cx.bi 0 rfl).cell 3)
 intro σ β X W9 hD hst9 fr hfr
 obtain ⟨A11_9,hu_A11_9⟩:∃ z,sA (β 11)=z:=⟨_,rfl⟩
 simp only [exq 1 ((dTn (hD 5 lq)).2),hu_A11_9] at hst9
 simp only [ed 11 ((dTn (hD 5 lq)).1),hu_A11_9] at hfr
 clear hD hu_A11_9; subst hfr; clear σ β X
 refine then_normal (wp_ret ?_)
 refine bpr (.string (((strOfNums ([lv,0]))++(twoB (rt+1)))++hi)) (results_1 Tryz.results62 rpt) ?_
 exact Ret.of (by simp [hdB, *]) hst9.ext
theorem rhead_any (lv rt:Int) (hi:ByteArray) (ok dead:Bool) (EA SA KA:Option Addr) (en ec sn sc kn kc:Nat) (w:World) (hlv:0≤lv∧lv≤255) (hrt: -1≤rt∧rt≤1000000) (hh:hi.size≤1000000):
  Calls Tryz.prog 81 #[.agg #[.bool ok, .bool dead, .int .i64 lv, .int .i64 rt, .string hi, .slice EA en ec, .slice SA sn sc, .slice KA kn kc]] w (Ret (.string (hdB lv rt dead hi)) w):=by
 go_enter Tryz.func81,Tryz.ntmps81
 have hst0:=St.start w
 refine wp_seq (sqr ?_)
 refine sqbx #[.bool ok, .bool dead,vi lv,vi rt, .string hi, .slice EA en ec, .slice SA sn sc, .slice KA kn kc] hst0 fun B1_1 W1 hst1=>?_
 refine sqp [.k 2 (.string ⟨#[]⟩)] ?_
 refine then_normal (wp_seq (sqr (sqp [.k 3 (vi 0)] ?_)))
 refine then_normal (wp_seq (wp_seq (sqr (sqp [.k 4 (.pointer (some ⟨B1_1,1,none⟩))] ?_))))
 refine sqld 0 hst1 ?_
 refine then_normal (wbs (fun hs6=>?_) fun hs6=>?_)
 ·refine sqr (sqp [.k 3 (vi 1)] ?_)
  refine then_normal (wp_seq (wp_region_Y [0,1,3,0,8,31,63,0,128,384,896,2047,0,4096,16383,32767] [[],[0],[],[],[],[],[1],[],[0],[],[],[],[],[0]] [[],[],[],[],[],[1]] [] [.k 6 (.pointer (some ⟨B1_1,2,none⟩)), .c 7 (vi lv),tW 8 .u8 lv lv (IntWalk.u8_in _ (by omega)), .k 9 (vi 1),tW 10 .u8 1 1 (by decide), .a 11, .c 12 (.string (strOfNums ([lv,1]))), .k 13 (.pointer (some ⟨B1_1,3,none⟩)), .c 14 (vi rt),tI 15 (rt+1) (by omega), .c 16 (.string (twoB (rt+1))),tS 17 (strOfNums ([lv,1])) (twoB (rt+1)) (by (try simp only [ByteArray.size_append,twoB_size,two_sz]); omega), .k 18 (.pointer (some ⟨B1_1,4,none⟩)), .c 19 (.string hi),tS 20 ((strOfNums ([lv,1]))++(twoB (rt+1))) hi (by (try simp only [ByteArray.size_append,twoB_size,two_sz]); omega), .k 2 (.string (((strOfNums ([lv,1]))++(twoB (rt+1)))++hi))] (fun ix σ β X=>match ix with | 0=>True | 1=>True | 2=>True | 3=>True | 4=>True | 5=>σ 11= .slice (sA (β 11)) 2 2∧X 1=eO 5 1 (.slice (sA (β 11)) 2 2) 2 ([.int .u8 lv, .int .u8 1]) | _=>True) [0,1] [1,5,6,8,10,13] [(2,15,1,3),(3,0,15,18)] hst1 ?_ ?_ ?_))
  ·exact fun ix _ _ _ _ _ _ hs hb hx h=>match ix,h with
   | 5,h=>by dsimp only; rw [← hs 11 rfl,← hb 11 rfl,← hx 1 rfl]; exact h
   | 0, _ | 1, _ | 2, _ | 3, _ | 4, _ | _+6, _=>trivial
  ·refine ⟨?_,?_,?_,?_,?_,?_,trivial⟩
   ·exact xs4 rfl id fun cx=>run_load1 rfl (by kernel_rfl) (cx.an 0) ((cx.bi 0 rfl).cell 2)
   ·refine svA fun ρ β W X cx=>?_
    have fF8:ρ (.tmp 8)= .int .u8 lv:=(cx.an 2)
    have fF10:ρ (.tmp 10)= .int .u8 1:=(cx.an 4)
    exact dv_lit (e:=5) (xs:=[.int .u8 lv, .int .u8 1]) rfl (by simp [go_sem,fF8,fF10]) rfl (by decide) rfl rfl (fun σ β' X' hs hb hv hx=>⟨hv,hx⟩)
   ·exact xs4 rfl id fun cx=>run_convB (e:=5) rfl (by kernel_rfl) (by kernel_rfl) (by kernel_rfl) (dTn (cx.an 5)).1 (cx.row (dTn (cx.an 5)).2 rfl)
   ·exact xs4 rfl id fun cx=>run_load1 rfl (by kernel_rfl) (cx.an 7) ((cx.bi 0 rfl).cell 3)
   ·exact xsc rfl id rfl rfl fun cx=>⟨_,rtwo_any (rt+1) _,(map1 (cx.an 9))⟩
   ·exact xs4 rfl id fun cx=>run_load1 rfl (by kernel_rfl) (cx.an 12) ((cx.bi 0 rfl).cell 4)
  intro σ β X W8 hD hst8 fr hfr
  obtain ⟨A11_8,hu_A11_8⟩:∃ z,sA (β 11)=z:=⟨_,rfl⟩
  simp only [exq 1 ((dTn (hD 5 lq)).2),hu_A11_8] at hst8
  simp only [ed 11 ((dTn (hD 5 lq)).1),hu_A11_8] at hfr
  clear hD hu_A11_8; subst hfr; clear σ β X
  refine then_normal (wp_ret ?_)
  refine bpr (.string (((strOfNums ([lv,1]))++(twoB (rt+1)))++hi)) (results_1 Tryz.results81 rpt) ?_
  exact Ret.of (by simp [hdB, *]) hst8.ext
 refine wp_skip (then_normal (wp_seq (wp_region_Y [0,1,3,0,8,31,63,0,128,384,896,2047,0,4096,16383,32767] [[],[0],[],[],[],[],[1],[],[0],[],[],[],[],[0]] [[],[],[],[],[],[1]] [] [.k 6 (.pointer (some ⟨B1_1,2,none⟩)), .c 7 (vi lv),tW 8 .u8 lv lv (IntWalk.u8_in _ (by omega)), .k 9 (vi 0),tW 10 .u8 0 0 (by decide), .a 11, .c 12 (.string (strOfNums ([lv,0]))), .k 13 (.pointer (some ⟨B1_1,3,none⟩)), .c 14 (vi rt),tI 15 (rt+1) (by omega), .c 16 (.string (twoB (rt+1))),tS 17 (strOfNums ([lv,0])) (twoB (rt+1)) (by (try simp only [ByteArray.size_append,twoB_size,two_sz]); omega), .k 18 (.pointer (some ⟨B1_1,4,none⟩)), .c 19 (.string hi),tS 20 ((strOfNums ([lv,0]))++(twoB (rt+1))) hi (by (try simp only [ByteArray.size_append,twoB_size,two_sz]); omega), .k 2 (.string (((strOfNums ([lv,0]))++(twoB (rt+1)))++hi))] (fun ix σ β X=>match ix with | 0=>True | 1=>True | 2=>True | 3=>True | 4=>True | 5=>σ 11= .slice (sA (β 11)) 2 2∧X 1=eO 5 1 (.slice (sA (β 11)) 2 2) 2 ([.int .u8 lv, .int .u8 0]) | _=>True) [0,1] [1,5,6,8,10,13] [(2,15,1,3),(3,0,15,18)] hst1 ?_ ?_ ?_)))
 ·exact fun ix _ _ _ _ _ _ hs hb hx h=>match ix,h with
  | 5,h=>by dsimp only; rw [← hs 11 rfl,← hb 11 rfl,← hx 1 rfl]; exact h
  | 0, _ | 1, _ | 2, _ | 3, _ | 4, _ | _+6, _=>trivial
 ·refine ⟨?_,?_,?_,?_,?_,?_,trivial⟩
  ·exact xs4 rfl id fun cx=>run_load1 rfl (by kernel_rfl) (cx.an 0) ((cx.bi 0 rfl).cell 2)
  ·refine svA fun ρ β W X cx=>?_
   have fF8:ρ (.tmp 8)= .int .u8 lv:=(cx.an 2)
   have fF10:ρ (.tmp 10)= .int .u8 0:=(cx.an 4)
   exact dv_lit (e:=5) (xs:=[.int .u8 lv, .int .u8 0]) rfl (by simp [go_sem,fF8,fF10]) rfl (by decide) rfl rfl (fun σ β' X' hs hb hv hx=>⟨hv,hx⟩)
  ·exact xs4 rfl id fun cx=>run_convB (e:=5) rfl (by kernel_rfl) (by kernel_rfl) (by kernel_rfl) (dTn (cx.an 5)).1 (cx.row (dTn (cx.an 5)).2 rfl)
  ·exact xs4 rfl id fun cx=>run_load1 rfl (by kernel_rfl) (cx.an 7) ((cx.bi 0 rfl).cell 3)
  ·exact xsc rfl id rfl rfl fun cx=>⟨_,rtwo_any (rt+1) _,(map1 (cx.an 9))⟩
  ·exact xs4 rfl id fun cx=>run_load1 rfl (by kernel_rfl) (cx.an 12) ((cx.bi 0 rfl).cell 4)
 intro σ β X W9 hD hst9 fr hfr
 obtain ⟨A11_9,hu_A11_9⟩:∃ z,sA (β 11)=z:=⟨_,rfl⟩
 simp only [exq 1 ((dTn (hD 5 lq)).2),hu_A11_9] at hst9
 simp only [ed 11 ((dTn (hD 5 lq)).1),hu_A11_9] at hfr
 clear hD hu_A11_9; subst hfr; clear σ β X
 refine then_normal (wp_ret ?_)
 refine bpr (.string (((strOfNums ([lv,0]))++(twoB (rt+1)))++hi)) (results_1 Tryz.results81 rpt) ?_
 exact Ret.of (by simp [hdB, *]) hst9.ext
theorem kitem_any (pg lv rt fr:Int) (hi:ByteArray) (dead:Bool) (EA:Option Addr) (en ec:Nat) (e:ByteArray) (sl kid:Int) (w:World) (he:e.size≤1000000):
  Calls Tryz.prog 61 #[.agg #[.int .i64 pg, .int .i64 lv, .int .i64 rt, .string hi, .bool dead, .slice EA en ec, .int .i64 fr], .agg #[.string e, .int .i64 sl, .int .i64 kid]] w (Ret (.string (itB lv kid e)) w):=by
 go_enter Tryz.func61,Tryz.ntmps61
 have hst0:=St.start w
 refine wp_seq (sqr ?_)
 refine sqbx #[vi pg,vi lv,vi rt, .string hi, .bool dead, .slice EA en ec,vi fr] hst0 fun B2_1 W1 hst1=>?_
 refine sqbx #[.string e,vi sl,vi kid] hst1 fun B3_2 W2 hst2=>?_
 refine sqp [.k 4 (.string ⟨#[]⟩)] ?_
 refine then_normal (wp_seq (wp_seq (sqr (sqp [.k 5 (.pointer (some ⟨B2_1,1,none⟩))] ?_))))
 refine sqld 0 hst2 ?_
 refine sqp [.k 7 (.bool (decide (0 < lv)))] ?_
 refine then_normal (wds (fun hs7 hs7p=>?_) fun hs7 hs7p=>?_)
 ·refine wp_seq (wp_region_Z [0,1,0,4,12,31,63] [[],[1],[],[1]] [.k 8 (vp B3_2), .c 9 (.string e), .k 10 (.pointer (some ⟨B3_2,2,none⟩)), .c 11 (vi kid), .c 12 (.string (twoB kid)),tS 13 e (twoB kid) (by (try simp only [ByteArray.size_append,twoB_size,two_sz]); omega), .k 4 (.string (e++(twoB kid)))] [0,1] [1,3,4] [(4,6,1,5),(3,0,6,9)] hst2 ?_ fun W8 hst8=>?_)
  ·refine ⟨?_,?_,?_,trivial⟩
   ·exact xs4 rfl id fun cx=>run_load1 rfl (by kernel_rfl) (cx.an 0) ((cx.bi 1 rfl).cell 0)
   ·exact xs4 rfl id fun cx=>run_load1 rfl (by kernel_rfl) (cx.an 2) ((cx.bi 1 rfl).cell 2)
   ·exact xsc rfl id rfl rfl fun cx=>⟨_,knum_any kid _,(map1 (cx.an 3))⟩
  refine then_normal (wp_ret (then_ret ?_))
  refine bpr (.string (e++(twoB kid))) (results_1 Tryz.results61 rpt) ?_
  exact Ret.of (by simp [itB, *]) hst8.ext
 refine wp_skip (then_normal (wp_seq (sqr (sqp [.k 14 (vp B3_2)] ?_))))
 refine sqld 1 hst2 ?_
 refine sqp [.m 4 15] ?_
 refine then_normal (wp_ret ?_)
 refine bpr (.string e) (results_1 Tryz.results61 rpt) ?_
 exact Ret.of (by simp [itB, *]) hst2.ext
theorem ksends_any (pg lv rt fr:Int) (hi:ByteArray) (dead:Bool) (EA:Option Addr) (en ec:Nat) (x:ByteArray) (w:World) (hh:hi.size≤1000000) (hx:x.size≤1000000):
  Calls Tryz.prog 52 #[.agg #[.int .i64 pg, .int .i64 lv, .int .i64 rt, .string hi, .bool dead, .slice EA en ec, .int .i64 fr], .string x] w (Ret (.bool (sndB dead hi x)) w):=by
 go_enter Tryz.func52,Tryz.ntmps52
 have hst0:=St.start w
 refine wp_seq (sqr ?_)
 refine sqbx #[vi pg,vi lv,vi rt, .string hi, .bool dead, .slice EA en ec,vi fr] hst0 fun B2_1 W1 hst1=>?_
 refine sqp [.k 4 (.bool false)] ?_
 refine then_normal (wp_seq (sqr (sqp [.k 5 (.pointer (some ⟨B2_1,4,none⟩))] ?_)))
 refine sqld 0 hst1 ?_
 refine sqp [.m 7 6] ?_
 refine sqwW 7 [8,9,10,11,12,13,14,15,16,17] ?_ hst1 rfl (fun hq=>?_) fun W17 hst17=>?_
 rotate_left
 ·have hq_:=hq
  try simp only [zB] at hq_
  refine sqp [.k 8 (.pointer (some ⟨B2_1,3,none⟩))] ?_
  refine sqld 0 hst1 ?_
  refine sqp [.k 10 (.bool (!(hi.toList==((⟨#[]⟩:ByteArray)).toList))), .m 11 10] ?_
  refine sqwW 11 [12,13,14,15,16] ?_ hst1 rfl (fun hq=>?_) fun W15 hst15=>?_
  rotate_left
  ·have hq_:=hq
   try simp only [zB] at hq_
   refine sqp [.m 12 1, .k 13 (.pointer (some ⟨B2_1,3,none⟩))] ?_
   refine sqld 0 hst1 ?_
   refine sqk (.bool (lessF x hi)) hst1 (fun cx=>⟨_,kless_any x hi _ (by omega) (by omega),(map2 (cx.ou 12) (cx.ou 14))⟩) fun W13 hst13=>?_
   refine sqp [.k 16 (.bool (!(lessF x hi)))] ?_
   exact sqE hst13
  refine sqwx ?_
  refine sqp [sPa 17 (!(hi.toList==((⟨#[]⟩:ByteArray)).toList)) (!(lessF x hi))] ?_
  exact sqE hst15
 refine sqwx ?_
 refine sqp [sPo 18 dead ((!(hi.toList==((⟨#[]⟩:ByteArray)).toList))&&(!(lessF x hi))), .m 4 18] ?_
 refine then_normal (wp_ret ?_)
 refine bpr (.bool (dead||((!(hi.toList==((⟨#[]⟩:ByteArray)).toList))&&(!(lessF x hi))))) (results_1 Tryz.results52 rpt) ?_
 exact Ret.bool (by simp [sndB, *]) hst17.ext
end
section
open Go.RowKit
section
variable {P:Program} {o:Oper} {ρ:Operand→Value} {W:World}
theorem run_max2 {x y:Operand} {ts:Array TypeId} {k k':IntKind} {a b z:Int} (h:o.op= .call {callee:= .builtin .max,args:=#[x,y],argTypes:=ts}) (hx:ρ x= .int k a) (hy:ρ y= .int k' b) (hz:max a b=z):(execOp ρ o).run P W= .ok (.value (.int k z)) W:=by
 subst hz
 unfold execOp; rw [h]
 simp only [resolve,invoke,builtin,List.map_toArray,List.map_cons,List.map_nil,hx,hy,Sem.run_bind,Sem.run_pure,Result.andThen_ok]
 have e:(Builtin.max_ ts o.type #[.int k a, .int k' b]).run P W= .ok (.int k (max a b)) W:=by
  unfold Builtin.max_
  show (List.foldlM Builtin.max2 (.int k a) [.int k' b]).run P W= _
  simp only [List.foldlM_cons,List.foldlM_nil,Builtin.max2]
  have h2:(if a < b then b else a)=max a b:=by omega
  rw [h2]
  rfl
 rw [e]
 rfl
end
end
section
open Go.RowKit
/-- an edit: page, slot, item -/
abbrev EdT:=Int×Int×ByteArray
def edC (e:EdT):List Value:=[.int .i64 e.1, .int .i64 e.2.1, .string e.2.2]
def EdPost (l:List EdT) (w:World) (e:Ending) (w':World):Prop:=∃ A c,e= .returned (.slice A l.length c)∧w'.ownsRow w.heap.size 67 3 (.slice A l.length c) l.length (l.flatMap edC)∧Ext w w'
/-- the edits of an empty tree -/
def begF (n:Int):List EdT:=[(n, -1,strOfNums [2]),(n,0,hdB 0 (-1) false ⟨#[]⟩)]
theorem rbegin_any (n:Int) (w:World):
  Calls Tryz.prog 67 #[.int .i64 n] w (EdPost (begF n) w):=by
 go_enter Tryz.func67,Tryz.ntmps67
 have hst0:=St.start w
 refine wp_seq (sqr (sqp [.k 2 (.slice none 0 0)] ?_))
 refine then_normal (wp_seq (wp_region_Y [0,0,2,7,0,0,32,112,255,511] [[],[],[0]] [[],[0],[],[],[],[],[],[],[1]] [] [.k 3 (vi n), .a 4, .c 5 (.string (strOfNums ([2]))), .k 6 (.agg #[vi n,vi (-1), .string (strOfNums ([2]))]), .k 7 (vi n), .k 8 (.agg #[.bool false, .bool false,vi 0,vi (-1), .string ByteArray.empty, .slice none 0 0, .slice none 0 0, .slice none 0 0]), .c 9 (.string (hdB 0 (-1) false ByteArray.empty)), .k 10 (.agg #[vi n,vi 0, .string (hdB 0 (-1) false ByteArray.empty)]), .a 11, .a 2] (fun ix σ β X=>match ix with | 0=>True | 1=>σ 4= .slice (sA (β 4)) 1 1∧X 0=eO 5 1 (.slice (sA (β 4)) 1 1) 1 ([.int .u8 2]) | 2=>True | 3=>True | 4=>True | 5=>True | 6=>True | 7=>True | 8=>σ 11= .slice ((some ⟨(pb' (β 11)),0,none⟩)) 2 2∧X 1=eO 67 3 (.slice ((some ⟨(pb' (β 11)),0,none⟩)) 2 2) 2 ([vi n,vi (-1), .string (strOfNums ([2])),vi n,vi 0, .string (hdB 0 (-1) false ByteArray.empty)]) | 9=>σ 2= .slice ((some ⟨(pb' (β 11)),0,none⟩)) 2 2 | _=>True) [0,1] [1,2,6,8,9] [(2,9,1,3),(0,0,9,9)] hst0 ?_ ?_ ?_))
 ·exact fun ix _ _ _ _ _ _ hs hb hx h=>match ix,h with
  | 1,h=>by dsimp only; rw [← hs 4 rfl,← hb 4 rfl,← hx 0 rfl]; exact h
  | 8,h=>by dsimp only; rw [← hs 11 rfl,← hb 11 rfl,← hx 1 rfl]; exact h
  | 9,h=>by dsimp only; rw [← hs 2 rfl,← hb 11 rfl]; exact h
  | 0, _ | 2, _ | 3, _ | 4, _ | 5, _ | 6, _ | 7, _ | _+10, _=>trivial
 ·refine ⟨?_,?_,?_,?_,?_,trivial⟩
  ·refine svA fun ρ β W X cx=>?_
   exact dv_lit (e:=5) (xs:=[.int .u8 2]) rfl (by simp [go_sem,cx.sees.const]) rfl (by decide) rfl rfl (fun σ β' X' hs hb hv hx=>⟨hv,hx⟩)
  ·exact xs4 rfl id fun cx=>run_convB (e:=5) rfl (by kernel_rfl) (by kernel_rfl) (by kernel_rfl) (dTn (cx.an 1)).1 (cx.row (dTn (cx.an 1)).2 rfl)
  ·exact xsc rfl id rfl rfl fun cx=>⟨_,rhead_any 0 (-1) ByteArray.empty false false _ _ _ _ _ _ _ _ _ _ (by omega) (by omega) (by first | omega | decide),(map1 (cx.an 5))⟩
  ·refine svA fun ρ β W X cx=>?_
   have fF6:ρ (.tmp 6)= .agg #[vi n,vi (-1), .string (strOfNums ([2]))]:=(cx.an 3)
   have fF10:ρ (.tmp 10)= .agg #[vi n,vi 0, .string (hdB 0 (-1) false ByteArray.empty)]:=(cx.an 7)
   exact dv_litN (e:=67) (sz:=3) (xs:=[vi n,vi (-1), .string (strOfNums ([2])),vi n,vi 0, .string (hdB 0 (-1) false ByteArray.empty)]) rfl (by simp [go_sem,fF6,fF10]) rfl (by decide) rfl rfl (fun σ β' X' hs hb hv hx=>⟨hv,hx⟩)
  ·exact sv rfl rfl rfl rfl rfl _ (fun _ _ _ h=>h) (fun β β' h=>by rw [h 11 (by decide)]) fun ρ β W X cx=>run_assign' rfl (dTn (cx.an 8)).1
 intro σ β X W2 hD hst2 fr hfr
 obtain ⟨A4_2,hu_A4_2⟩:∃ z,sA (β 4)=z:=⟨_,rfl⟩
 obtain ⟨B11_2,hu_B11_2⟩:∃ z,pb' (β 11)=z:=⟨_,rfl⟩
 simp only [exq 0 ((dTn (hD 1 lq)).2),exq 1 ((dTn (hD 8 lq)).2),hu_A4_2,hu_B11_2] at hst2
 simp only [ed 4 ((dTn (hD 1 lq)).1),ed 11 ((dTn (hD 8 lq)).1),ed 2 ((dTn (hD 9 lq))),hu_A4_2,hu_B11_2] at hfr
 clear hD hu_A4_2 hu_B11_2; subst hfr; clear σ β X
 refine then_normal (wp_ret ?_)
 refine bpr (.slice ((some ⟨B11_2,0,none⟩)) 2 2) (results_1 Tryz.results67 rpt) ?_
 have ho_:=hst2.own' 1 rfl
 exact ⟨_, _,rfl,ho_,hst2.ext⟩
end
section
open Go.RowKit
theorem edC_len (e:EdT):(edC e).length=3:=rfl
theorem getEdT {l:List EdT} {k:Nat} (h:k < l.length):∃ p s b,l[k]? =some (p,s,b):=⟨l[k].1,l[k].2.1,l[k].2.2,List.getElem?_eq_getElem h⟩
theorem run_neEd {o:Oper} {ρ:Operand→Value} {W:World} {x y:Operand} {a b:Int} {s:ByteArray} (h:o.op= .binOp .neq 67 x y 67) (hx:ρ x= .agg #[.int .i64 a, .int .i64 b, .string s]) (hy:ρ y= .agg #[.int .i64 a, .int .i64 b, .string s]):
  (execOp ρ o).run Tryz.prog W= .ok (.value (.bool false)) W:=by
 unfold execOp; rw [h]
 simp [go_sem,hx,hy]
theorem rsame_any (A B:Option Addr) (c d:Nat) (l:List EdT) (w:World) (hA:At w A (l.flatMap edC)) (hB:At w B (l.flatMap edC)) (hl:l.length≤1000):
  Calls Tryz.prog 13 #[.slice A l.length c, .slice B l.length d] w (Ret (.bool true) w):=by
 go_enter Tryz.func13,Tryz.ntmps13
 have hst0:=St.start w
 refine wp_seq (sqr (sqp [.k 4 (.bool false)] ?_))
 refine then_normal (wp_seq (wp_seq (sqr (sqp [.m 6 0, .k 7 (vi ((l.length:Int))), .m 8 1, .k 9 (vi ((l.length:Int))), .e 10 (.bool ((l.length:Int) != (l.length:Int))) (.bool false) (congrArg Value.bool (show ((l.length:Int) != (l.length:Int))=false from (bne_self_eq_false _)))] ?_))))
 refine then_normal (wcf rfl (wp_skip (then_normal (wp_seq (wp_seq (sqr (sqp [.k 5 (vi 0)] ?_)))))))
 refine then_normal (wp_block ?_)
 refine wp_loopT (fun t_ mz az W=>∃ k:Nat,k≤l.length∧mz=l.length - k∧az=⟨(ovr (jv az) [(4,4,1,[vi ((k:Int))]),(5,11,15,[])] t_).toArray,[]⟩∧St w [] [] W) (l.length - 0) ?_ ?_
 · -- the loop begins
   exact ⟨0,Nat.zero_le _,rfl,(by kernel_rfl),hst0.pk []⟩
 rintro n8 a8 W8 ⟨k,hk,rfl,hj_,hst8⟩
 refine ovz hj_ fun u8_=>?_
 refine wp_seq (wp_seq (sqr (sqp [.m 11 5, .m 12 0, .k 13 (vi ((l.length:Int))), .k 14 (.bool (decide ((k:Int) < (l.length:Int))))] ?_)))
 refine then_normal (wds (fun hs13 hs13p=>?_) fun hs13 hs13p=>?_)
 ·refine wp_skip (then_normal (wp_seq (wp_block (wp_seq ?_))))
  obtain ⟨fp,fs,fb,hfj⟩:=getEdT (l:=l) (k:=k) (by omega)
  refine wp_region_Z [0,0,3,7,0,0,48,112,255] [] [.k 17 (.slice A l.length c), .k 18 (vi ((k:Int))), .c 19 (.pointer (some ((ad A).add (k*3)))), .c 20 (.agg #[vi fp,vi fs, .string fb]), .k 21 (.slice B l.length d), .k 22 (vi ((k:Int))), .c 23 (.pointer (some ((ad B).add (k*3)))), .c 24 (.agg #[vi fp,vi fs, .string fb]), .c 25 (.bool false)] [] [2,3,6,7,8] [(17,0,9,26)] hst8 ?_ fun W14 hst14=>?_
  ·refine ⟨?_,?_,?_,?_,?_,trivial⟩
   ·exact xs4 rfl id fun cx=>run_indexSlM (e:=67) (m:=k) (sz:=3) rfl (by kernel_rfl) (by kernel_rfl) (cx.an 0) (cx.an 1) (by omega) (by omega) (hA.ext cx.upd.to_ext) (flatPos (sz:=3) edC_len (by decide) (by omega))
   ·exact xs4 rfl id fun cx=>run_loadElt (f:=edC) (m:=k) (sz:=3) (off:=0) (n:=3) rfl (by kernel_rfl) (by kernel_rfl) (cx.an 2) rfl edC_len (hA.ext cx.upd.to_ext) hfj (fun k hk=>match k,hk with | 0, _=>rfl | 1, _=>rfl | 2, _=>rfl | k+3,hk=>absurd hk (by omega))
   ·exact xs4 rfl id fun cx=>run_indexSlM (e:=67) (m:=k) (sz:=3) rfl (by kernel_rfl) (by kernel_rfl) (cx.an 4) (cx.an 5) (by omega) (by omega) (hB.ext cx.upd.to_ext) (flatPos (sz:=3) edC_len (by decide) (by omega))
   ·exact xs4 rfl id fun cx=>run_loadElt (f:=edC) (m:=k) (sz:=3) (off:=0) (n:=3) rfl (by kernel_rfl) (by kernel_rfl) (cx.an 6) rfl edC_len (hB.ext cx.upd.to_ext) hfj (fun k hk=>match k,hk with | 0, _=>rfl | 1, _=>rfl | 2, _=>rfl | k+3,hk=>absurd hk (by omega))
   ·exact xs4 rfl id fun cx=>run_neEd rfl (cx.an 3) (cx.an 7)
  refine then_normal (wcf rfl (wp_skip (blk_normal (then_normal (sqr (sqp [.m 15 5,sI 16 ((k:Int)+1) (by omega), .m 5 16] ?_))))))
  refine then_normal ?_
  refine ⟨l.length - ((k+1)),by omega,?_⟩
  exact ⟨(k+1),by omega,rfl,(by kernel_rfl),hst14.pk []⟩
 refine wp_exit (then_exit (then_exit (blk_eq (then_normal (wp_seq (sqr (sqp [.k 4 (.bool true)] ?_)))))))
 refine then_normal (wp_ret ?_)
 refine bpr (.bool true) (results_1 Tryz.results13 rpt) ?_
 exact Ret.of rfl hst8.ext
end
section
open Go.RowKit
-- reading a node
theorem rawE_append:∀ (i:Nat) (a b:List ByteArray),rawE i (a++b)=rawE i a++rawE (i+a.length) b
 | _,[], _=>rfl
 | i,x::a,b=>by
   have h:=rawE_append (i+1) a b
   have e:i+1+a.length=i+(x::a).length:=by rw [List.length_cons]; omega
   rw [e] at h
   rw [List.cons_append,rawE,rawE,h]
   split<;>rfl
/-- what stands in the slots 1 .. i-1 -/
def preE (its:List ByteArray) (i:Nat):List (Nat×ByteArray):=rawE 1 ((its.drop 1).take (i - 1))
theorem preE_step {its:List ByteArray} {i:Nat} (h1:1≤i) (h:i < its.length):preE its (i+1)=preE its i++(if (its.getD i ByteArray.empty).size=0 then [] else [(i,its.getD i ByteArray.empty)]):=by
 have e1:(its.drop 1)[i - 1]? =some (its.getD i ByteArray.empty):=by
  rw [List.getElem?_drop,show 1+(i - 1)=i by omega,List.getD_eq_getElem?_getD,List.getElem?_eq_getElem h]; rfl
 rw [preE,preE,show i+1 - 1=i - 1+1 by omega,List.take_add_one,e1,rawE_append,List.length_take,List.length_drop,Nat.min_eq_left (by omega),show 1+(i - 1)=i by omega]
 show _++rawE i [its.getD i ByteArray.empty]= _
 rw [rawE]
 rfl
/-- the entries in their order -/
def srt (lv:Int) (l:List (Nat×ByteArray)):List EnD:=(sortR ((l.map (parE lv)).reverse)).reverse
theorem srt_len (lv:Int) (l:List (Nat×ByteArray)):(srt lv l).length=l.length:=by rw [srt,List.length_reverse,sortR_len,List.length_reverse,List.length_map]
theorem nodF_bad {k:Int} {its:List ByteArray} (h:k≠2∨its=[]∨(∃ x l,its=x::l∧hdOk x=false)∨(∃ x l,its=x::l∧((rawE 1 l).any (badE (numS x 0 1)))=true)):nodF k its=none:=by
 unfold nodF
 rcases h with h | rfl | ⟨x,l,rfl,h⟩ | ⟨x,l,rfl,h⟩
 ·rw [if_pos h]
 ·split<;>rfl
 ·split
  ·rfl
  ·simp [h]
 ·split
  ·rfl
  ·simp only [h]
   split<;>rfl
theorem nodF_good {x:ByteArray} {l:List ByteArray} (h:hdOk x=true) (hb:((rawE 1 l).any (badE (numS x 0 1)))=false):
  nodF 2 (x::l)=some ⟨numS x 0 1,(numS x 2 2:Int) - 1,x.extract 4 x.size,numS x 1 1==1,srt (numS x 0 1) (rawE 1 l),freeE 1 l (l.length+1)⟩:=by
 unfold nodF
 simp only [h,hb]
 rfl
-- books
/-- a page without its place in memory: kind, lsn, items -/
abbrev PgS:=Int×Int×List ByteArray
def pgs0:PgS:=(0,0,[])
def setI (its:List ByteArray) (k:Nat) (s:ByteArray):List ByteArray:=(its++List.replicate (k+1 - its.length) ByteArray.empty).set k s
theorem setI_len (its:List ByteArray) (k:Nat) (s:ByteArray):(setI its k s).length=max its.length (k+1):=by
 rw [setI,List.length_set,List.length_append,List.length_replicate]; omega
def kindB (s:ByteArray):Int:=if s.size=0 then 0 else byteI (bl s) 0
def edP (p:PgS) (e:EdT):PgS:=if e.2.1 < 0 then (kindB e.2.2,0,[]) else (p.1,p.2.1,setI p.2.2 e.2.1.toNat e.2.2)
def edOk (n:Nat) (e:EdT):Bool:=decide (0≤e.1∧e.1 < n∧ -1≤e.2.1∧e.2.1≤100)
def do1B (ps:List PgS) (e:EdT):List PgS:=if edOk ps.length e then ps.set e.1.toNat (edP (ps.getD e.1.toNat pgs0) e) else ps
def doB (ps:List PgS) (l:List EdT):List PgS:=l.foldl do1B ps
theorem do1B_len (ps:List PgS) (e:EdT):(do1B ps e).length=ps.length:=by
 unfold do1B; split
 ·rw [List.length_set]
 ·rfl
theorem doB_len:∀ (l:List EdT) (ps:List PgS),(doB ps l).length=ps.length
 | [], _=>rfl
 | e::l,ps=>by
   show (doB (do1B ps e) l).length= _
   rw [doB_len l,do1B_len]
theorem doB_take {ps:List PgS} {l:List EdT} {k:Nat} (h:k < l.length):doB ps (l.take (k+1))=do1B (doB ps (l.take k)) l[k]:=by
 rw [List.take_add_one,List.getElem?_eq_getElem h,doB,List.foldl_append]; rfl
/-- the node in a page of a book -/
def ndAt (ps:List PgS) (n:Int):Option NoD:=if 0≤n∧n < ps.length then nodF (ps.getD n.toNat pgs0).1 (ps.getD n.toNat pgs0).2.2 else none
-- an insertion
/-- a pending entry: entry, level, child -/
abbrev TaT:=ByteArray×Int×Int
structure PuT where
 root:Int
 pos:Int
 leaf:Int
 left:List TaT
 fro:Int
 to:Int
 spl:Bool
def downF (x:ByteArray):List EnD→Int→Int
 | [],d=>d
 | e::l,d=>downF x l (if d < 0∨lessF x e.1=false then e.2.2 else d)
def leastB:ByteArray:=entF ByteArray.empty 0 0
/-- the items of new slots, from slot i on -/
def itsE (pg lv:Int):Nat→List EnD→List EdT
 | _,[]=>[]
 | i,e::l=>(pg,(i:Int),itB lv e.2.2 e.1)::itsE pg lv (i+1) l
def freshE (pg lv rt:Int) (hi:ByteArray) (es:List EnD):List EdT:=[(pg, -1,strOfNums [2]),(pg,0,hdB lv rt false hi)]++itsE pg lv 1 es
def clearE (pg:Int) (es:List EnD):List EdT:=es.map fun e=>(pg,(e.2.1:Int),ByteArray.empty)
def growE (root:Int) (n:NoD) (pg:Int):List EdT:=freshE pg n.lv (-1) ByteArray.empty n.es++[(root,0,hdB (n.lv+1) (-1) false ByteArray.empty)]++clearE root n.es++[(root,1,itB 1 pg leastB)]
def halfE (n:NoD):List EnD:=n.es.drop (n.es.length / 2)
def midE (n:NoD):ByteArray:=(n.es.getD (n.es.length / 2) (ByteArray.empty,0,0)).1
def cutE (pos:Int) (n:NoD) (pg:Int):List EdT:=freshE pg n.lv n.right n.high (halfE n)++[(pos,0,hdB n.lv pg false (midE n))]++clearE pos (halfE n)
def hasE (es:List EnD) (x:ByteArray):Bool:=es.any fun e=>e.1.toList==x.toList
/-- what a step returns -/
structure GoT where
 eds:List EdT
 used:Bool
 err:Int
def stepF (ps:List PgS) (w:PuT) (fresh:Int):PuT×GoT:=
 let w0:PuT:=⟨w.root,w.pos,w.leaf,w.left,0,0,false⟩
 match w.left with
 | []=>(w0,⟨[],false,0⟩)
 | t::l=>match ndAt ps w.pos with
   | none=>(w0,⟨[],false,22⟩)
   | some n=>
     if sndB n.dead n.high t.1=true then (if n.right < 0 then (w0,⟨[],false,11⟩) else (⟨w.root,n.right,w.leaf,w.left,0,0,false⟩,⟨[],false,0⟩))
     else if t.2.1 < n.lv then (⟨w.root,downF t.1 n.es (-1),w.leaf,w.left,0,0,false⟩,⟨[],false,0⟩)
     else if n.lv < t.2.1 then (w0,⟨[],false,11⟩)
     else if hasE n.es t.1=true∨n.es.length < 8 then (⟨w.root,w.root,if t.2.1=0 then w.pos else w.leaf,l,0,0,false⟩,⟨if hasE n.es t.1=true then [] else [(w.pos,(n.free:Int),itB t.2.1 t.2.2 t.1)],false,0⟩)
     else if fresh < 0 then (w0,⟨[],false,23⟩)
     else if w.pos=w.root then (⟨w.root,fresh,w.leaf,w.left,0,0,false⟩,⟨growE w.root n fresh,true,0⟩)
     else (⟨w.root,w.pos,w.leaf,w.left++[(midE n,t.2.1+1,fresh)],if t.2.1=0 then w.pos else 0,if t.2.1=0 then fresh else 0,decide (t.2.1=0)⟩,⟨cutE w.pos n fresh,true,0⟩)
end
section
open Go.RowKit
/-- all of R as one entry -/
def eM (R:List Ent):Ent:=⟨R.flatMap (·.fp),fun W=>∀ e∈R,e.holds W∧e.loc⟩
theorem eM_loc (R:List Ent):(eM R).loc:=fun W W' hk h e he=>
 ⟨(h e he).2 W W' (fun k hk'=>hk k (List.mem_flatMap.2 ⟨e,he,hk'⟩)) (h e he).1,(h e he).2⟩
theorem St.emNil {w0 W:World} {bor:List Nat} {L:List Ent} (h:St w0 bor L W):St w0 bor (L++[eM []]) W:=by
 refine ⟨h.upd,fun x hx=>?_,?_⟩
 ·rcases List.mem_append.1 hx with hx | hx
  ·exact h.ok x hx
  ·rw [List.mem_singleton] at hx
   subst hx
   exact ⟨fun e he=>(by cases he),eM_loc _,fun k hk=>(by cases hk)⟩
 ·rw [List.pairwise_append]
  refine ⟨h.apart,List.pairwise_singleton _ _,fun a _ b hb=>?_⟩
  rw [List.mem_singleton] at hb
  subst hb
  exact fun k _ hk=>by cases hk
/-- the last entry joins the many -/
theorem St.merge {w0 W:World} {bor:List Nat} {L R:List Ent} {e:Ent} (h:St w0 bor (L++[eM R,e]) W):St w0 bor (L++[eM (R++[e])]) W:=by
 have hM:=h.ok (eM R) (by simp)
 have hE:=h.ok e (by simp)
 have hfp:∀ k,k∈(eM (R++[e])).fp↔k∈(eM R).fp∨k∈e.fp:=fun k=>by simp [eM]
 refine ⟨h.upd,fun x hx=>?_,?_⟩
 ·rcases List.mem_append.1 hx with hx | hx
  ·exact h.ok x (by simp [hx])
  ·rw [List.mem_singleton] at hx
   subst hx
   refine ⟨fun x hx=>?_,eM_loc _,fun k hk=>?_⟩
   ·rcases List.mem_append.1 hx with hx | hx
    ·exact hM.holds x hx
    ·rw [List.mem_singleton] at hx
     subst hx
     exact ⟨hE.holds,hE.loc⟩
   ·rcases (hfp k).1 hk with hk | hk
    ·exact hM.own k hk
    ·exact hE.own k hk
 ·have ha:=h.apart
  rw [List.pairwise_append] at ha ⊢
  refine ⟨ha.1,List.pairwise_singleton _ _,fun a ha' b hb=>?_⟩
  rw [List.mem_singleton] at hb
  subst hb
  intro k hk hkb
  rcases (hfp k).1 hkb with hkb | hkb
  ·exact ha.2.2 a ha' (eM R) (by simp) k hk hkb
  ·exact ha.2.2 a ha' e (by simp) k hk hkb
section
variable {P:Program} {ops:Array Oper} {L:List Nat} {a0:Act} {w0:World} {bor:List Nat} {X0:List Ent} {us cr kl:List (List Nat)}
 {D:Nat→(Tmp→Value)→(Tmp→Value)→(Nat→Ent)→Prop} {i:Nat} {o:Oper} {ρ:Operand→Value} {β:Tmp→Value} {W:World} {X:Nat→Ent}
/-- a callee that changes the entry E and leaves the entries N on its blocks and on new ones -/
theorem post_obj {v:Value} {W':World} {q:Nat} {E:Ent} (N:List Ent) (hX:X q=E) (hk:atV kl i=[q]) (hl:N.length=(atV cr i).length) (hs:St W E.fp N W')
  (hD:∀ (σ β':Tmp→Value) (X':Nat→Ent),(∀ t,o.dst≠some t→σ t=ρ (.tmp t))→(∀ t,o.dst≠some t→β' t=β t)→(∀ d,o.dst=some d→σ d=v∧β' d=v)→(atV cr i).map X'=N→D i σ β' X'):PostV cr kl D i o.dst ρ β W X v W':=by
 subst hX
 have e1:(atV kl i).flatMap (fun q=>(X q).fp)=(X q).fp:=by rw [hk]; simp
 exact ⟨N,hl,⟨by rw [e1]; exact hs.upd,fun e he=>⟨(hs.ok e he).holds,(hs.ok e he).loc,fun k hk'=>by rw [e1]; exact (hs.ok e he).own k hk'⟩,hs.apart⟩,
  fun σ β' X' hs' hv hb' hbv hx' hN=>hD σ β' X' hs' hb' (fun d hd=>⟨hv d hd,hbv d hd⟩) hN⟩
end
/-- an entry's own blocks lent to a callee -/
theorem St.lend {w:World} {E:Ent} (h:E.holds w) (hl:E.loc) (hb:∀ k∈E.fp,k < w.heap.size):St w E.fp [E] w:=
 ⟨Upd.refl _ _,fun x hx=>by rw [List.mem_singleton] at hx; subst hx; exact ⟨h,hl,fun k hk=>⟨.inl hk,hb k hk⟩⟩,List.pairwise_singleton _ _⟩
end
section
open Go.RowKit
def en0:EnD:=(ByteArray.empty,0,0)
theorem numS_one (e:ByteArray) (m:Nat) (h:m+1≤e.size):(numS e m 1:Int)=byteI (bl e) m:=by
 have e1:numS e m 1=numL (((bl e).drop m).take 1):=by
  rw [numS,show (e.extract m (m+1)).data.toList=bl (e.extract m (m+1)) from rfl,bl_extract,Nat.add_sub_cancel_left]
 have hl:m+1≤(bl e).length:=by rw [bl_len]; exact h
 have e2:((bl e).drop m).take 1=[(bl e).getD m 0]:=by
  rw [List.drop_eq_getElem_cons (by omega),List.take_succ_cons,List.take_zero]
  simp [List.getD_eq_getElem?_getD,List.getElem?_eq_getElem (show m < (bl e).length by omega)]
 rw [e1,e2,numL,List.foldl_cons,List.foldl_nil,byteI]; omega
theorem hdOk_not {h:ByteArray}:((decide ((h.size:Int) < 4)||decide (1 < byteI (bl h) 1))||(decide (4 < (h.size:Int))&&decide ((h.size:Int) < 8)))=!hdOk h:=by
 unfold hdOk
 by_cases h4:h.size < 4
 ·have e:decide (4≤h.size)=false:=decide_eq_false (by omega)
  have e2:decide ((h.size:Int) < 4)=true:=decide_eq_true (by omega)
  rw [e,e2]; rfl
 ·have h1:=numS_one h 1 (by omega)
  have e:decide (4≤h.size)=true:=decide_eq_true (by omega)
  have e2:decide ((h.size:Int) < 4)=false:=decide_eq_false (by omega)
  have e3:decide (numS h 1 1≤1)=!decide (1 < byteI (bl h) 1):=by rw [← decide_not]; congr 1; rw [← h1]; exact propext ⟨fun a b=>by omega,fun a=>by omega⟩
  have e4:(decide (h.size≤4)||decide (8≤h.size))=!(decide (4 < (h.size:Int))&&decide ((h.size:Int) < 8)):=by
   rw [Bool.not_and,← decide_not,← decide_not]; congr 1<;>(congr 1; exact propext ⟨fun a=>by omega,fun a=>by omega⟩)
  rw [e,e2,e3,e4]
  cases decide (1 < byteI (bl h) 1)<;>cases (decide (4 < (h.size:Int))&&decide ((h.size:Int) < 8))<;>rfl
theorem kind_bad {k:Int} {n:Nat} (h:(k != 2||((n:Int)==0))=true) (hn:0 < n):k≠2:=by
 simp only [Bool.or_eq_true,bne_iff_ne,beq_iff_eq] at h
 rcases h with h | h
 ·exact h
 ·omega
theorem kind_good {k:Int} {n:Nat} (h:(k != 2||((n:Int)==0))=false):k=2:=by
 simp only [Bool.or_eq_false_iff,bne_eq_false_iff_eq] at h
 exact h.1
theorem rawE_pre {l:List ByteArray} {i:Nat} {p:Nat×ByteArray} {x:ByteArray} (h:p∈preE (x::l) i):p∈rawE 1 l:=by
 have e:l=(l.take (i - 1))++l.drop (i - 1):=(List.take_append_drop ..).symm
 rw [e,rawE_append]
 exact List.mem_append_left _ h
theorem rd_badx {k:Int} {x:ByteArray} {l:List ByteArray} {i:Nat} {lv:Int} (hlv:(numS x 0 1:Int)=lv) (hi1:1≤i) (hi:i < (x::l).length) (hz:((x::l).getD i ByteArray.empty).size≠0) (hb:badE lv (i,(x::l).getD i ByteArray.empty)=true):nodF k (x::l)=none:=by
 refine nodF_bad (.inr (.inr (.inr ⟨x,l,rfl,?_⟩)))
 rw [hlv,List.any_eq_true]
 refine ⟨_,rawE_pre (x:=x) (i:=i+1) ?_,hb⟩
 rw [preE_step hi1 hi,if_neg hz]
 simp
theorem rawE_mem:∀ {i:Nat} {l:List ByteArray} {p:Nat×ByteArray},p∈rawE i l→p.2∈l∧i≤p.1∧p.1 < i+l.length
 | _,[], _,h=>by cases h
 | i,x::l,p,h=>by
   unfold rawE at h
   split at h
   ·have:=rawE_mem h; rw [List.length_cons]; exact ⟨List.mem_cons_of_mem _ this.1,by omega,by omega⟩
   ·rcases List.mem_cons.1 h with rfl | h
    ·exact ⟨List.mem_cons_self ..,Nat.le_refl _,by simp⟩
    ·have:=rawE_mem h; rw [List.length_cons]; exact ⟨List.mem_cons_of_mem _ this.1,by omega,by omega⟩
theorem parE_size (lv:Int) (p:Nat×ByteArray):(parE lv p).1.size≤p.2.size:=by
 unfold parE; split
 ·simp only [ByteArray.size_extract]; omega
 ·exact Nat.le_refl _
theorem srt_size {lv:Int} {l:List (Nat×ByteArray)} {M:Nat} (h:∀ p∈l,p.2.size≤M) (k:Nat):((srt lv l).getD k en0).1.size≤M:=by
 rcases Nat.lt_or_ge k (srt lv l).length with hk | hk
 ·rw [List.getD_eq_getElem?_getD,List.getElem?_eq_getElem hk,Option.getD_some]
  have h1:(srt lv l)[k]∈srt lv l:=List.getElem_mem hk
  have h2:=sortR_mem (List.mem_reverse.1 h1)
  obtain ⟨p,hp,he⟩:=List.mem_map.1 (List.mem_reverse.1 h2)
  rw [← he]
  exact Nat.le_trans (parE_size lv p) (h p hp)
 ·rw [List.getD_eq_getElem?_getD,List.getElem?_eq_none hk]
  exact Nat.zero_le _
theorem drop_less {S:List EnD} {m:Nat} {x:ByteArray} (hm:m+1≤S.length) (h:∀ y∈S.drop (m+1),lessF x y.1=true) (h2:lessF x (S.getD m en0).1=true):∀ y∈S.drop m,lessF x y.1=true:=by
 intro y hy
 rw [List.drop_eq_getElem_cons (by omega)] at hy
 rcases List.mem_cons.1 hy with rfl | hy
 ·rw [List.getD_eq_getElem?_getD,List.getElem?_eq_getElem (by omega)] at h2; exact h2
 ·exact h y hy
theorem size_nil {x:ByteArray}:(x.toList==(⟨#[]⟩:ByteArray).toList)=decide (x.size=0):=by
 rw [bqd]
 congr 1
 exact propext ⟨fun h=>by rw [h]; rfl,fun h=>bl_inj (by rw [List.eq_nil_of_length_eq_zero (l:=bl x) (by rw [bl_len,h])]; rfl)⟩
theorem Tryz.infoInt:(Tryz.prog.info? 3).map (fun i=>(i.zero,i.size,i.bytes))=some (some (.int .i64 0),1,8):=by kernel_rfl
end
section
open Go.RowKit
def putL (xs:List Value) (off:Nat):List Value→List Value
 | []=>xs
 | v::l=>putL (xs.set off v) (off+1) l
theorem putL_mid:∀ (vs A B C:List Value),B.length=vs.length→putL (A++(B++C)) A.length vs=A++(vs++C)
 | [],A,B,C,h=>by
   obtain rfl:B=[]:=List.eq_nil_of_length_eq_zero h
   rfl
 | v::vs,A,[],C,h=>by simp at h
 | v::vs,A,b::B,C,h=>by
   rw [putL]
   have e:(A++(b::B++C)).set A.length v=(A++[v])++(B++C):=by simp
   have e2:A.length+1=(A++[v]).length:=by simp
   rw [e,e2,putL_mid vs (A++[v]) B C (by simpa using h)]
   simp
theorem putL_flat {T:Type} {f:T→List Value} {sz:Nat} (hf:∀ t,(f t).length=sz) {ts:List T} {m:Nat} (h:m < ts.length) (t:T):putL (ts.flatMap f) (m*sz) (f t)=(ts.set m t).flatMap f:=by
 have hl:∀ l:List T,(l.flatMap f).length=l.length*sz:=fun l=>by
  induction l with
  | nil=>simp
  | cons a l ih=>rw [List.flatMap_cons,List.length_append,ih,hf,List.length_cons,Nat.add_mul]; omega
 have e:ts=ts.take m++(ts[m]::ts.drop (m+1)):=by rw [← List.drop_eq_getElem_cons h,List.take_append_drop]
 have e2:ts.set m t=ts.take m++(t::ts.drop (m+1)):=by rw [List.set_eq_take_append_cons_drop,if_pos h]
 have e3:m*sz=((ts.take m).flatMap f).length:=by rw [hl,List.length_take,Nat.min_eq_left (by omega)]
 have e4:ts.flatMap f=(ts.take m).flatMap f++(f ts[m]++(ts.drop (m+1)).flatMap f):=by
  conv=>lhs; rw [e]
  rw [List.flatMap_append,List.flatMap_cons]
 rw [e2,e4,List.flatMap_append,List.flatMap_cons,e3,putL_mid _ _ _ _ (by rw [hf,hf])]
section
variable {P:Program} {ops:Array Oper} {L:List Nat} {a0:Act} {w0:World} {bor:List Nat} {X0:List Ent} {us cr kl:List (List Nat)}
 {D:Nat→(Tmp→Value)→(Tmp→Value)→(Nat→Ent)→Prop} {i:Nat} {o:Oper} {ρ:Operand→Value} {β:Tmp→Value} {W:World} {X:Nat→Ent}
theorem run_storeRowCells {g e sz n c:Nat}:∀ (vs:List Value) (m i:Nat) (xs:List Value) (W:World),W.ownsRow 0 e sz (.slice (some ⟨g,0,none⟩) n c) n xs→m+i+vs.length≤n*sz→(∀ v∈vs,v.oneCell'=true)→
  ∃ W',(storeCells ⟨g,m,none⟩ vs i).run P W= .ok () W'∧Upd [g] W W'∧W'.ownsRow 0 e sz (.slice (some ⟨g,0,none⟩) n c) n (putL xs (m+i) vs):=by
 intro vs
 induction vs with
 | nil=>intro m i xs W hb _ _; exact ⟨W,rfl,Upd.refl _ _,hb⟩
 | cons v vs ih=>
   intro m i xs W hown hle h1
   simp only [List.length_cons] at hle
   have hlen:xs.length=n*sz:=hown.1
   have hcell:W.cell? ⟨g,m+i,none⟩=some (xs[m+i]'(by omega)):=by
    rw [hown.cellAt (m+i) (by omega)]
    exact List.getElem?_eq_getElem (by omega)
   have hfz:=hown.frozenAt (m+i)
   have hst:=(hown.stored (m+i) v).1
   obtain ⟨W',h2,h3,h4⟩:=ih m (i+1) (xs.set (m+i) v) (W.setCell ⟨g,m+i,none⟩ v) hst (by omega) (fun x hx=>h1 x (by simp [hx]))
   refine ⟨W',?_,((Upd.refl [g] W).set (.inl (by simp)) v).trans h3,h4⟩
   unfold storeCells
   have hv:=h1 v (by simp)
   have hs1:(store ((⟨g,m,none⟩:Addr).add i) v).run P W= .ok () (W.setCell ⟨g,m+i,none⟩ v):=by
    rw [Addr.add_lit]
    unfold store
    cases v<;>first | (simp [Value.oneCell'] at hv; done) | (simp [Sem.run,hcell,hfz])
   simp only [Sem.run_bind,hs1,Result.andThen_ok,h2]
theorem dv_storeElt {t e sz k:Nat} {x y:Operand} {A:Option Addr} {n c m q q':Nat} {v:Value} {xs:List Value} (h:o.op= .store t x y) (hx:ρ x= .pointer (some ((ad A).add m))) (hy:ρ y=v) (hz:szP P t=some k) (hn:v.cells.size=k)
  (h1:v.cells.toList.all Value.oneCell'=true) (cx:CtxV ops L a0 w0 bor X0 us D i ρ β W X) (hX:X q=eO e sz (.slice A n c) n xs) (hu:(atV us i).contains q=true) (hm:m+k≤n*sz) (hk0:0 < k) (hd:o.dst=none) {xs':List Value} (hxs:putL xs m v.cells.toList=xs')
  (hc:atV cr i=[q']) (hk:atV kl i=[q]) (hD:∀ (σ β':Tmp→Value) (X':Nat→Ent),(∀ t,σ t=ρ (.tmp t))→(∀ t,β' t=β t)→X' q'=eO e sz (.slice A n c) n xs'→D i σ β' X'):DoesU P o ρ W (PostV cr kl D i o.dst ρ β W X):=by
 subst hxs
 have hok:=cx.ok q hu
 rw [hX] at hok
 have hown:W.ownsRow 0 e sz (.slice A n c) n xs:=hok.holds
 obtain ⟨g,rfl⟩:∃ g,A=some ⟨g,0,none⟩:=by
  rcases hown.2 with ⟨hv,hm0⟩ | ⟨g,cap,cur,hv, _⟩
  ·subst hm0; rw [Nat.zero_mul] at hm; omega
  ·injection hv with h1 h2 h3; exact ⟨g,h1⟩
 have hadd:(ad (some ⟨g,0,none⟩)).add m=⟨g,m,none⟩:=by rw [ad,Option.getD_some,Addr.add_lit,Nat.zero_add]
 obtain ⟨W',h2,h3,h4⟩:=run_storeRowCells (P:=P) v.cells.toList m 0 xs W hown (by simp [hn]; exact hm) (fun u hu=>List.all_eq_true.1 h1 u hu)
 have hrun:(execOp ρ o).run P W= .ok .skip W':=by
  unfold execOp; rw [h]
  simp only [hx,hy,hadd,Instr.storeAt,Instr.sureAddr,storeVar,Sem.run_bind,Sem.run_pure,Result.andThen_ok,run_size hz,hn,ne_eq,not_true_eq_false,if_false]
  rw [h2]
  rfl
 rw [Nat.add_zero] at h4
 refine DoesU.skip hrun ⟨[eO e sz (.slice (some ⟨g,0,none⟩) n c) n (putL xs m v.cells.toList)],by rw [hc]; rfl,⟨?_,fun e' he=>?_,List.pairwise_singleton _ _⟩,fun σ β' X' hs hv hb' hbv hx' hN=>hD σ β' X' (fun t=>hs t (by rw [hd]; simp)) (fun t=>hb' t (by rw [hd]; simp)) ?_⟩
 ·rw [hk]
  simp only [List.flatMap_cons,List.flatMap_nil,List.append_nil,hX]
  exact h3.mono (fun k _ hk'=>by simp at hk'; subst hk'; simp [eO,Value.ownBlock])
 ·rw [List.mem_singleton] at he
  subst he
  refine ⟨h4,eO_loc _ _ _ _ _,fun k hk'=>?_⟩
  have hkg:k=g:=by simpa [eO,Value.ownBlock] using hk'
  subst hkg
  refine ⟨.inl ?_,own0_block h4 k (by simp [Value.ownBlock])⟩
  rw [hk]
  simp [hX,eO,Value.ownBlock]
 ·rw [hc] at hN
  exact (List.cons.inj hN).1
end
end
section
open Go.RowKit
theorem nilrowN {w0 W:World} {bor:List Nat} {L:List Ent} (h:St w0 bor L W) (e sz:Nat):St w0 bor (L++[eO e sz (.slice none 0 0) 0 []]) W:=by
 refine ⟨h.upd,fun x hx=>?_,?_⟩
 ·rcases List.mem_append.1 hx with hx | hx
  ·exact h.ok x hx
  ·rw [List.mem_singleton] at hx
   subst hx
   exact ⟨World.ownsRow_nil _ _ _ _,eO_loc _ _ _ _ _,fun k hk=>by cases hk⟩
 ·rw [List.pairwise_append]
  refine ⟨h.apart,List.pairwise_singleton _ _,fun a _ b hb=>?_⟩
  rw [List.mem_singleton] at hb
  subst hb
  exact fun k _ hk=>by cases hk
variable {P:Program} {o:Oper} {ρ:Operand→Value} {W:World}
def enC (e:EnD):List Value:=[.string e.1, .int .i64 (e.2.1:Int), .int .i64 e.2.2]
theorem enC_len (e:EnD):(enC e).length=3:=rfl
theorem en_get {l:List EnD} {k:Nat} (h:k < l.length):l[k]? =some (l.getD k en0):=by rw [List.getD_eq_getElem?_getD,List.getElem?_eq_getElem h]; rfl
def RwPost (A:Option Addr) (n c:Nat) (ls:List EnD) (w:World) (e:Ending) (w':World):Prop:=e= .returned (.tuple #[])∧St w (Value.ownBlock (.slice A n c)).toList [eO 89 3 (.slice A n c) n (ls.flatMap enC)] w'
theorem St.lentRw {w:World} {e:TypeId} {sz n:Nat} {v:Value} {xs:List Value} (h:w.ownsRow 0 e sz v n xs):St w v.ownBlock.toList [eO e sz v n xs] w:=
 St.lend (E:=eO e sz v n xs) h (eO_loc _ _ _ _ _) (fun k hk=>own0_block h k (by simpa [eO] using hk))
/-- the list behind i exchanges -/
def revL (L:List EnD) (i:Nat):List EnD:=(List.range L.length).map fun k=>if k < i∨L.length≤k+i then L.getD (L.length - 1 - k) en0 else L.getD k en0
theorem revL_len (L:List EnD) (i:Nat):(revL L i).length=L.length:=by simp [revL]
theorem revL_get {L:List EnD} {i k:Nat} (h:k < L.length):(revL L i)[k]? =some (if k < i∨L.length≤k+i then L.getD (L.length - 1 - k) en0 else L.getD k en0):=by simp [revL,h]
theorem revL_0 (L:List EnD):revL L 0=L:=by
 apply List.ext_getElem?
 intro k
 rcases Nat.lt_or_ge k L.length with h | h
 ·rw [revL_get h,if_neg (by omega),en_get h]
 ·rw [List.getElem?_eq_none (by rw [revL_len]; exact h),List.getElem?_eq_none h]
theorem revL_end {L:List EnD} {i:Nat} (h:L.length≤i+i+1):revL L i=L.reverse:=by
 apply List.ext_getElem?
 intro k
 rcases Nat.lt_or_ge k L.length with hk | hk
 ·rw [revL_get hk,List.getElem?_reverse hk,en_get (show L.length - 1 - k < L.length by omega)]
  split
  ·rfl
  ·congr 2; omega
 ·rw [List.getElem?_eq_none (by rw [revL_len]; exact hk),List.getElem?_eq_none (by rw [List.length_reverse]; exact hk)]
theorem revL_step {L:List EnD} {i j:Nat} (h:i+j+1=L.length) (hij:i < j):((revL L i).set i (L.getD j en0)).set j (L.getD i en0)=revL L (i+1):=by
 apply List.ext_getElem?
 intro k
 rcases Nat.lt_or_ge k L.length with hk | hk
 ·rw [revL_get hk,List.getElem?_set,List.getElem?_set]
  simp only [List.length_set,revL_len]
  by_cases h1:j=k
  ·rw [if_pos h1,if_pos (by omega),if_pos (by omega)]; congr 2; omega
  ·rw [if_neg h1]
   by_cases h2:i=k
   ·rw [if_pos h2,if_pos (by omega),if_pos (by omega)]; congr 2; omega
   ·rw [if_neg h2,revL_get hk]
    by_cases h3:k < i∨L.length≤k+i
    ·rw [if_pos h3,if_pos (by omega)]
    ·rw [if_neg h3,if_neg (by omega)]
 ·rw [List.getElem?_eq_none (by simp only [List.length_set,revL_len]; exact hk),List.getElem?_eq_none (by rw [revL_len]; exact hk)]
/-- an entry x on its way through the sorted ones -/
def inL (S:List EnD) (x:EnD) (j:Nat) (R:List EnD):List EnD:=S.take j++x::(S.drop j++R)
theorem inL_len {S:List EnD} {x:EnD} {j:Nat} {R:List EnD} (h:j≤S.length):(inL S x j R).length=S.length+1+R.length:=by
 rw [inL,List.length_append,List.length_cons,List.length_append,List.length_take,List.length_drop]; omega
theorem inL_at {S:List EnD} {x:EnD} {j:Nat} {R:List EnD} (h:j≤S.length):(inL S x j R)[j]? =some x:=by
 rw [inL,List.getElem?_append_right (by rw [List.length_take]; omega),List.length_take,Nat.min_eq_left h,Nat.sub_self]; rfl
theorem inL_pre {S:List EnD} {x:EnD} {j:Nat} {R:List EnD} (h:j≤S.length) (h0:0 < j):(inL S x j R)[j - 1]? =some (S.getD (j - 1) en0):=by
 rw [inL,List.getElem?_append_left (by rw [List.length_take]; omega),List.getElem?_take,if_pos (by omega),en_get (by omega)]
theorem inL_step {S:List EnD} {x:EnD} {j:Nat} {R:List EnD} (h:j≤S.length) (h0:0 < j):((inL S x j R).set j (S.getD (j - 1) en0)).set (j - 1) x=inL S x (j - 1) R:=by
 apply List.ext_getElem?
 intro k
 have e:S.drop (j - 1)=S.getD (j - 1) en0::S.drop j:=by
  rw [List.drop_eq_getElem_cons (by omega),List.getD_eq_getElem?_getD,List.getElem?_eq_getElem (show j - 1 < S.length by omega),Nat.sub_add_cancel h0]; rfl
 rw [List.getElem?_set,List.getElem?_set]
 simp only [List.length_set,inL_len h]
 by_cases h1:j - 1=k
 ·rw [if_pos h1,if_pos (by omega),← h1,inL_at (by omega)]
 ·rw [if_neg h1]
  by_cases h2:j=k
  ·rw [if_pos h2,if_pos (by omega),inL,List.getElem?_append_right (by rw [List.length_take]; omega),List.length_take,Nat.min_eq_left (by omega),show k - (j - 1)=1 by omega,e]; rfl
  ·rw [if_neg h2,inL,inL,e]
   rcases Nat.lt_or_ge k (j - 1) with h3 | h3
   ·rw [List.getElem?_append_left (by rw [List.length_take]; omega),List.getElem?_append_left (by rw [List.length_take]; omega),List.getElem?_take,List.getElem?_take,if_pos (by omega),if_pos (by omega)]
   ·rw [List.getElem?_append_right (by rw [List.length_take]; omega),List.getElem?_append_right (by rw [List.length_take]; omega),List.length_take,List.length_take,Nat.min_eq_left (by omega),Nat.min_eq_left (by omega)]
    obtain ⟨d,rfl⟩:∃ d,k=j+1+d:=⟨k - (j+1),by omega⟩
    rw [show j+1+d - j=d+1 by omega,show j+1+d - (j - 1)=d+1+1 by omega]
    rfl
/-- the list with its first i entries in order -/
def srL (L:List EnD) (i:Nat):List EnD:=(sortR (L.take i).reverse).reverse
theorem srL_len {L:List EnD} {i:Nat} (h:i≤L.length):(srL L i).length=i:=by rw [srL,List.length_reverse,sortR_len,List.length_reverse,List.length_take]; omega
theorem srL_one (L:List EnD):srL L 1=L.take 1:=by
 rw [srL]
 cases L with
 | nil=>rfl
 | cons a l=>rfl
theorem srL_all {L:List EnD} {i:Nat} (h:L.length≤i):srL L i=(sortR L.reverse).reverse:=by rw [srL,List.take_of_length_le h]
theorem srL_snoc {L:List EnD} {i j:Nat} (h:i < L.length) (hj:j≤i) (h1:∀ y∈(srL L i).drop j,lessF (L.getD i en0).1 y.1=true) (h2:j=0∨lessF (L.getD i en0).1 ((srL L i).getD (j - 1) en0).1=false):inL (srL L i) (L.getD i en0) j (L.drop (i+1))=srL L (i+1)++L.drop (i+1):=by
 have hl:=srL_len (Nat.le_of_lt h)
 have e:srL L (i+1)=(srL L i).take j++L.getD i en0::(srL L i).drop j:=by
  rw [srL,List.take_add_one,en_get h,Option.toList,List.reverse_append]
  show (insR (L.getD i en0) (sortR (L.take i).reverse)).reverse= _
  refine insR_at ?_ h1 fun y hy=>?_
  ·rw [← List.reverse_append,List.take_append_drop,srL,List.reverse_reverse]
  ·rcases h2 with rfl | h2
   ·simp at hy
   ·rcases Nat.eq_zero_or_pos j with h0 | h0
    ·subst h0; simp at hy
    ·rw [List.getLast?_eq_getElem?,List.length_take,Nat.min_eq_left (by omega),List.getElem?_take,if_pos (by omega),en_get (by omega)] at hy
     rw [← Option.some.inj hy]; exact h2
 rw [e,inL,List.append_assoc]; rfl
theorem srL_in {L:List EnD} {i:Nat} (h:i < L.length):srL L i++L.drop i=inL (srL L i) (L.getD i en0) i (L.drop (i+1)):=by
 have hl:=srL_len (Nat.le_of_lt h)
 rw [inL,List.take_of_length_le (by omega),List.drop_of_length_le (l:=srL L i) (by omega),List.drop_eq_getElem_cons h,List.nil_append,List.getD_eq_getElem?_getD,List.getElem?_eq_getElem h]; rfl
theorem srL_mem {L:List EnD} {i:Nat} {M:Nat} (h:∀ e∈L,e.1.size≤M) (k:Nat):((srL L i).getD k en0).1.size≤M:=by
 rcases Nat.lt_or_ge k (srL L i).length with hk | hk
 ·rw [List.getD_eq_getElem?_getD,List.getElem?_eq_getElem hk,Option.getD_some]
  have h1:(srL L i)[k]∈srL L i:=List.getElem_mem hk
  exact h _ (List.mem_of_mem_take (List.mem_reverse.1 (sortR_mem (List.mem_reverse.1 h1))))
 ·rw [List.getD_eq_getElem?_getD,List.getElem?_eq_none hk]
  exact Nat.zero_le _
theorem getD_size {L:List EnD} {M:Nat} (h:∀ e∈L,e.1.size≤M) (k:Nat):(L.getD k en0).1.size≤M:=by
 rcases Nat.lt_or_ge k L.length with hk | hk
 ·rw [List.getD_eq_getElem?_getD,List.getElem?_eq_getElem hk]; exact h _ (List.getElem_mem hk)
 ·rw [List.getD_eq_getElem?_getD,List.getElem?_eq_none hk]; exact Nat.zero_le _
theorem krev_any (A:Option Addr) (n c:Nat) (L:List EnD) (w:World) (hO:w.ownsRow 0 89 3 (.slice A n c) n (L.flatMap enC)) (hn:L.length=n) (hnb:n≤100000) (h0:0 < n):
  Calls Tryz.prog 121 #[.slice A n c] w (RwPost A n c L.reverse w):=by
 have st0:=St.lentRw hO
 have hcap:=eown_capN hO
 go_enter Tryz.func121,Tryz.ntmps121
 have hst0:=st0
 refine wp_seq (sqr (sqp [.m 4 0, .k 5 (vi ((n:Int))),sI 6 ((n:Int) - 1) (by omega), .k 2 (vi 0), .m 3 6] ?_))
 refine then_normal (wp_block ?_)
 obtain ⟨z6_,hN_z6_⟩:∃ z,(n:Int) - 1=z:=⟨_,rfl⟩
 rw [hN_z6_]
 obtain rfl:z6_=((n - 1:Nat):Int):=by omega
 rw [← revL_0 L] at hst0
 refine wp_loopT (fun t_ mz az W=>∃ i:Nat,∃ j:Nat,i+j+1=n∧mz=j+1∧az=⟨(ovr (jv az) [(2,2,0,[vi ((i:Int)),vi ((j:Int))]),(3,7,21,[])] t_).toArray,[]⟩∧St w (Value.ownBlock (.slice A n c)).toList [eO 89 3 (.slice A n c) n ((revL L i).flatMap enC)] W) (((n - 1))+1) ?_ ?_
 · -- the loop begins
   exact ⟨0,(n - 1),by omega,rfl,(by kernel_rfl),hst0.pk [0]⟩
 rintro n7 a7 W7 ⟨i,j,hij,rfl,hj_,hst7⟩
 refine ovz hj_ fun u7_=>?_
 refine wp_seq (wp_seq (sqr (sqp [.m 7 2, .m 8 3, .k 9 (.bool (decide ((i:Int) < (j:Int))))] ?_)))
 refine then_normal (wds (fun hs11 hs11p=>?_) fun hs11 hs11p=>?_)
 ·refine wp_skip (then_normal (wp_seq (wp_block ?_)))
  have hrl_:=revL_len L i
  refine wp_region_Y [0,0,0,0,0,0,48,112,0,0,768,1792,4083,8179,16383,32767] [[],[],[],[],[],[],[0],[0],[],[],[0],[0],[0],[0],[1],[1]] [[],[],[],[],[],[],[],[],[],[],[],[],[],[1],[],[2]] [[],[],[],[],[],[],[],[],[],[],[],[],[],[0],[],[1]] [.k 14 (.slice A n c), .k 15 (vi ((i:Int))), .k 16 (.slice A n c), .k 17 (vi ((j:Int))), .k 18 (.slice A n c), .k 19 (vi ((j:Int))), .c 20 (.pointer (some ((ad A).add (j*3)))), .c 21 (.agg #[.string ((L.getD j en0).1),vi (((L.getD j en0).2.1:Int)),vi ((L.getD j en0).2.2)]), .k 22 (.slice A n c), .k 23 (vi ((i:Int))), .c 24 (.pointer (some ((ad A).add (i*3)))), .c 25 (.agg #[.string ((L.getD i en0).1),vi (((L.getD i en0).2.1:Int)),vi ((L.getD i en0).2.2)]), .c 26 (.pointer (some ((ad A).add (i*3)))), .n, .c 27 (.pointer (some ((ad A).add (j*3)))), .n] (fun ix σ β X=>match ix with | 0=>True | 1=>True | 2=>True | 3=>True | 4=>True | 5=>True | 6=>True | 7=>True | 8=>True | 9=>True | 10=>True | 11=>True | 12=>True | 13=>X 1=eO 89 3 (.slice A n c) n (((revL L i).set i (L.getD j en0)).flatMap enC) | 14=>True | 15=>X 2=eO 89 3 (.slice A n c) n ((((revL L i).set i (L.getD j en0)).set j (L.getD i en0)).flatMap enC) | _=>True) [2] [6,7,10,11,12,13,14,15] [(14,0,15,28)] hst7 ?_ ?_ ?_
  ·exact fun ix _ _ _ _ _ _ hs hb hx h=>match ix,h with
   | 13,h=>by dsimp only; rw [← hx 1 rfl]; exact h
   | 15,h=>by dsimp only; rw [← hx 2 rfl]; exact h
   | 0, _ | 1, _ | 2, _ | 3, _ | 4, _ | 5, _ | 6, _ | 7, _ | 8, _ | 9, _ | 10, _ | 11, _ | 12, _ | 14, _ | _+16, _=>trivial
  ·refine ⟨?_,?_,?_,?_,?_,?_,?_,?_,trivial⟩
   ·exact xs4 rfl id fun cx=>run_indexSlM (e:=89) (m:=j) (sz:=3) rfl (by kernel_rfl) (by kernel_rfl) (cx.an 4) (cx.an 5) (by omega) (by omega) (At.of_ownN (cx.ri 0 rfl)) (flatPos (sz:=3) enC_len (by decide) (by first | omega | (simp only [List.length_set]; omega)))
   ·exact xs4 rfl id fun cx=>run_loadElt (f:=enC) (m:=j) (sz:=3) (off:=0) (n:=3) rfl (by kernel_rfl) (by kernel_rfl) (cx.an 6) rfl enC_len (At.of_ownN (cx.ri 0 rfl)) (by rw [revL_get (by omega),if_neg (by omega)]) (fun k hk=>match k,hk with | 0, _=>rfl | 1, _=>rfl | 2, _=>rfl | k+3,hk=>absurd hk (by omega))
   ·exact xs4 rfl id fun cx=>run_indexSlM (e:=89) (m:=i) (sz:=3) rfl (by kernel_rfl) (by kernel_rfl) (cx.an 8) (cx.an 9) (by omega) (by omega) (At.of_ownN (cx.ri 0 rfl)) (flatPos (sz:=3) enC_len (by decide) (by first | omega | (simp only [List.length_set]; omega)))
   ·exact xs4 rfl id fun cx=>run_loadElt (f:=enC) (m:=i) (sz:=3) (off:=0) (n:=3) rfl (by kernel_rfl) (by kernel_rfl) (cx.an 10) rfl enC_len (At.of_ownN (cx.ri 0 rfl)) (by rw [revL_get (by omega),if_neg (by omega)]) (fun k hk=>match k,hk with | 0, _=>rfl | 1, _=>rfl | 2, _=>rfl | k+3,hk=>absurd hk (by omega))
   ·exact xs4 rfl id fun cx=>run_indexSlM (e:=89) (m:=i) (sz:=3) rfl (by kernel_rfl) (by kernel_rfl) (cx.an 0) (cx.an 1) (by omega) (by omega) (At.of_ownN (cx.ri 0 rfl)) (flatPos (sz:=3) enC_len (by decide) (by first | omega | (simp only [List.length_set]; omega)))
   ·refine svA fun ρ β W X cx=>?_
    exact dv_storeElt (m:=i*3) (n:=n) (sz:=3) (k:=3) rfl (cx.an 12) (cx.an 7) (by kernel_rfl) (by kernel_rfl) (by kernel_rfl) cx (cx.init 0 _ rfl) rfl (by omega) (by decide) rfl (putL_flat enC_len (ts:=(revL L i)) (m:=i) (by first | omega | (simp only [List.length_set]; omega)) (L.getD j en0)) rfl rfl (fun σ β' X' hs hb hx=>hx)
   ·exact xs4 rfl id fun cx=>run_indexSlM (e:=89) (m:=j) (sz:=3) rfl (by kernel_rfl) (by kernel_rfl) (cx.an 2) (cx.an 3) (by omega) (by omega) (At.of_ownN (cx.row (dTn (cx.an 13)) rfl)) (flatPos (sz:=3) enC_len (by decide) (by first | omega | (simp only [List.length_set]; omega)))
   ·refine svA fun ρ β W X cx=>?_
    exact dv_storeElt (m:=j*3) (n:=n) (sz:=3) (k:=3) rfl (cx.an 14) (cx.an 11) (by kernel_rfl) (by kernel_rfl) (by kernel_rfl) cx (dTn (cx.an 13)) rfl (by omega) (by decide) rfl (putL_flat enC_len (ts:=((revL L i).set i (L.getD j en0))) (m:=j) (by first | omega | (simp only [List.length_set]; omega)) (L.getD i en0)) rfl rfl (fun σ β' X' hs hb hx=>hx)
  intro σ β X W12 hD hst12 fr hfr
  simp only [exq 2 ((dTn (hD 15 lq)))] at hst12
  clear hD; subst hfr; clear σ β X
  refine blk_normal (then_normal (sqr (sqp [.m 10 2,sI 11 ((i:Int)+1) (by omega), .m 12 3,sI 13 ((j:Int) - 1) (by omega), .m 2 11, .m 3 13] ?_)))
  refine then_normal ?_
  rw [revL_step (by omega) (by omega)] at hst12
  rw [show ((j:Int) - 1)=((j - 1:Nat):Int) by omega]
  refine ⟨((j - 1))+1,by omega,?_⟩
  exact ⟨(i+1),(j - 1),by omega,rfl,(by kernel_rfl),hst12.pk [0]⟩
 refine wp_exit (then_exit (then_exit (blk_eq ?_)))
 refine bpe (.tuple #[]) (by simp [results,Tryz.results121,go_sem]) ?_
 rw [revL_end (by omega)] at hst7; exact ⟨rfl,hst7⟩
theorem kcmp_any (a b:ByteArray) (p q r s:Int) (w:World) (ha:a.size≤1000000) (hb:b.size≤1000000):
  Calls Tryz.prog 123 #[.agg #[.string a, .int .i64 p, .int .i64 q], .agg #[.string b, .int .i64 r, .int .i64 s]] w (Ret (.int .i64 (ordF a b)) w):=by
 go_enter Tryz.func123,Tryz.ntmps123
 have hst0:=St.start w
 refine wp_seq (sqr ?_)
 refine sqbx #[.string a,vi p,vi q] hst0 fun B2_1 W1 hst1=>?_
 refine sqbx #[.string b,vi r,vi s] hst1 fun B3_2 W2 hst2=>?_
 refine sqp [.k 4 (vi 0)] ?_
 refine then_normal (wp_seq (sqr (sqp [.k 5 (vp B2_1)] ?_)))
 refine sqld 0 hst2 ?_
 refine sqp [.k 7 (vp B3_2)] ?_
 refine sqld 1 hst2 ?_
 refine sqk (vi (ordF a b)) hst2 (fun cx=>⟨_,kord_any a b _ (by omega) (by omega),(map2 (cx.ou 6) (cx.ou 8))⟩) fun W8 hst8=>?_
 refine sqp [.m 4 9] ?_
 refine then_normal (wp_ret ?_)
 refine bpr (vi (ordF a b)) (results_1 Tryz.results123 rpt) ?_
 exact Ret.of rfl hst8.ext
theorem kins_any (A:Option Addr) (n c:Nat) (L:List EnD) (w:World) (hO:w.ownsRow 0 89 3 (.slice A n c) n (L.flatMap enC)) (hn:L.length=n) (hnb:n≤100000) (hsz:∀ e∈L,e.1.size≤1000000):
  Calls Tryz.prog 137 #[.slice A n c, .int .i64 0, .int .i64 ((n:Int)), .func (.func 123) #[] #[]] w (RwPost A n c (sortR L.reverse).reverse w):=by
 have st0:=St.lentRw hO
 have hcap:=eown_capN hO
 go_enter Tryz.func137,Tryz.ntmps137
 have hst0:=st0
 refine wp_seq (sqr (sqp [.m 10 1, .k 11 (vi 1), .m 8 11] ?_))
 refine then_normal (wp_block ?_)
 have h1_:L.flatMap enC=(srL L 1++L.drop 1).flatMap enC:=by rw [srL_one,List.take_append_drop]
 rw [h1_] at hst0
 refine wp_loopT (fun t_ mz az W=>∃ i:Nat,1≤i∧i≤max 1 n∧mz=n - i∧az=⟨(ovr (jv az) [(8,8,0,[vi ((i:Int))]),(0,9,1,[]),(2,12,41,[])] t_).toArray,[]⟩∧St w (Value.ownBlock (.slice A n c)).toList [eO 89 3 (.slice A n c) n ((srL L i++L.drop i).flatMap enC)] W) (n - 1) ?_ ?_
 · -- the loop begins
   exact ⟨1,Nat.le_refl _,by omega,rfl,(by kernel_rfl),hst0.pk [0]⟩
 rintro n4 a4 W4 ⟨i,hi,hin,rfl,hj_,hst4⟩
 refine ovz hj_ fun u4_=>?_
 refine wp_seq (wp_seq (sqr (sqp [.m 12 8, .m 13 2, .k 14 (.bool (decide ((i:Int) < (n:Int))))] ?_)))
 refine then_normal (wds (fun hs8 hs8p=>?_) fun hs8 hs8p=>?_)
 ·refine wp_skip (then_normal (wp_seq (wp_block (wp_seq ?_))))
  have hsl:=srL_len (L:=L) (i:=i) (by omega)
  rw [srL_in (by omega)] at hst4
  have hxz:=getD_size hsz i
  have hyz:=srL_mem (i:=i) hsz
  have hdl:(L.drop (i+1)).length=n - (i+1):=by rw [List.length_drop,hn]
  obtain ⟨x,hN_x⟩:∃ z,L.getD i en0=z:=⟨_,rfl⟩
  rw [hN_x] at hxz hst4
  refine sqr (sqp [.m 17 8, .m 9 17] ?_)
  refine then_normal (wp_block ?_)
  refine wp_loopT (fun t_ mz az W=>∃ j:Nat,j≤i∧(∀ y∈(srL L i).drop j,lessF x.1 y.1=true)∧mz=j+1∧az=⟨(ovr (jv az) [(9,9,0,[vi ((j:Int))]),(8,18,35,[])] t_).toArray,[]⟩∧St w (Value.ownBlock (.slice A n c)).toList [eO 89 3 (.slice A n c) n ((inL (srL L i) x j (L.drop (i+1))).flatMap enC)] W) (i+1) ?_ ?_
  · -- the loop begins
    exact ⟨i,Nat.le_refl _,(by rw [List.drop_of_length_le (by omega)]; exact fun _ hy=>nomatch hy),rfl,(by kernel_rfl),hst4.pk [0]⟩
  rintro n11 a11 W11 ⟨j,hj,hj2,rfl,hj_,hst11⟩
  refine ovz hj_ fun u11_=>?_
  refine wp_seq (wp_seq ?_)
  have hil_:=inL_len (S:=srL L i) (x:=x) (j:=j) (R:=L.drop (i+1)) (by omega)
  refine wp_region_Z [0,0,3,7,15,15,15,111,239,15,15,1039,3599,7695,16383,32767,65535] [[],[],[],[],[],[],[],[0],[0],[],[],[],[0],[0]] [.k 18 (vi ((j:Int))), .k 19 (vi 0), .k 20 (.bool (decide (0 < (j:Int)))), .k 21 (.bool (decide (0 < (j:Int)))), .z 22 (decide (0 < (j:Int))) (.func (.func 123) #[] #[]), .z 23 (decide (0 < (j:Int))) (.slice A n c), .z 24 (decide (0 < (j:Int))) (vi ((j:Int))), .y 25 (decide (0 < (j:Int))) (.pointer (some ((ad A).add (j*3)))), .y 26 (decide (0 < (j:Int))) (.agg #[.string ((x).1),vi (((x).2.1:Int)),vi ((x).2.2)]), .z 27 (decide (0 < (j:Int))) (.slice A n c), .z 28 (decide (0 < (j:Int))) (vi ((j:Int))), .y 29 (decide (0 < (j:Int))) (vi ((j:Int) - 1)), .y 30 (decide (0 < (j:Int))) (.pointer (some ((ad A).add ((j - 1)*3)))), .y 31 (decide (0 < (j:Int))) (.agg #[.string (((srL L i).getD (j - 1) en0).1),vi ((((srL L i).getD (j - 1) en0).2.1:Int)),vi (((srL L i).getD (j - 1) en0).2.2)]), .y 32 (decide (0 < (j:Int))) (vi (ordF ((x).1) (((srL L i).getD (j - 1) en0).1))), .z 33 (decide (0 < (j:Int))) (.bool (decide (ordF ((x).1) (((srL L i).getD (j - 1) en0).1) < 0))),tA 34 (decide (0 < (j:Int))) (decide (ordF ((x).1) (((srL L i).getD (j - 1) en0).1) < 0))] [0] [7,8,11,12,13,14] [(18,0,17,35)] hst11 ?_ fun W12 hst12=>?_
  ·refine ⟨?_,?_,?_,?_,?_,?_,trivial⟩
   ·exact m2 rfl (fun _ _ _ h=>h) (fun cx=>(cx.an 3)) fun cx hq=>run_indexSlM (e:=89) (m:=j) (sz:=3) rfl (by kernel_rfl) (by kernel_rfl) (mbv (cx.an 5) hq) (mbv (cx.an 6) hq) (by have hq_:=hq; simp only [zB] at hq_; omega) (by have hq_:=hq; simp only [zB] at hq_; omega) (At.of_ownN (cx.ri 0 rfl)) (flatPos (sz:=3) enC_len (by decide) (by first | omega | (simp only [List.length_set]; omega)))
   ·exact m2 rfl (fun _ _ _ h=>h) (fun cx=>(cx.an 3)) fun cx hq=>run_loadElt (f:=enC) (m:=j) (sz:=3) (off:=0) (n:=3) rfl (by kernel_rfl) (by kernel_rfl) (mbv (cx.an 7) hq) rfl enC_len (At.of_ownN (cx.ri 0 rfl)) (inL_at (by have hq_:=hq; simp only [zB] at hq_; omega)) (fun k hk=>match k,hk with | 0, _=>rfl | 1, _=>rfl | 2, _=>rfl | k+3,hk=>absurd hk (by have hq_:=hq; simp only [zB] at hq_; omega))
   ·exact m2 rfl (fun _ _ _ h=>h) (fun cx=>(cx.an 3)) fun cx hq=>run_bin rfl (mbv (cx.an 10) hq) (cx.co _) (congrArg (fun z=>some (Value.int .i64 z)) ((IntWalk.i64_in _ (by have hq_:=hq; simp only [zB] at hq_; omega)).trans (by have hq_:=hq; simp only [zB] at hq_; omega)))
   ·exact m2 rfl (fun _ _ _ h=>h) (fun cx=>(cx.an 3)) fun cx hq=>run_indexSlM (e:=89) (m:=j - 1) (sz:=3) rfl (by kernel_rfl) (by kernel_rfl) (mbv (cx.an 9) hq) (mbv (cx.an 11) hq) (by have hq_:=hq; simp only [zB] at hq_; omega) (by have hq_:=hq; simp only [zB] at hq_; omega) (At.of_ownN (cx.ri 0 rfl)) (flatPos (sz:=3) enC_len (by decide) (by first | omega | (simp only [List.length_set]; omega)))
   ·exact m2 rfl (fun _ _ _ h=>h) (fun cx=>(cx.an 3)) fun cx hq=>run_loadElt (f:=enC) (m:=(j - 1)) (sz:=3) (off:=0) (n:=3) rfl (by kernel_rfl) (by kernel_rfl) (mbv (cx.an 12) hq) rfl enC_len (At.of_ownN (cx.ri 0 rfl)) (inL_pre (by have hq_:=hq; simp only [zB] at hq_; omega) (by have hq_:=hq; simp only [zB] at hq_; omega)) (fun k hk=>match k,hk with | 0, _=>rfl | 1, _=>rfl | 2, _=>rfl | k+3,hk=>absurd hk (by have hq_:=hq; simp only [zB] at hq_; omega))
   ·exact m3 rfl (fun _ _ _ h=>h) (fun cx=>(cx.an 3)) fun cx hq=>⟨_, _,run_callV (f:=123) (args:=#[.agg #[.string ((x).1),vi (((x).2.1:Int)),vi ((x).2.2)], .agg #[.string (((srL L i).getD (j - 1) en0).1),vi ((((srL L i).getD (j - 1) en0).2.1:Int)),vi (((srL L i).getD (j - 1) en0).2.2)]]) (args':=#[.agg #[.string ((x).1),vi (((x).2.1:Int)),vi ((x).2.2)], .agg #[.string (((srL L i).getD (j - 1) en0).1),vi ((((srL L i).getD (j - 1) en0).2.1:Int)),vi (((srL L i).getD (j - 1) en0).2.2)]]) rfl rfl (mbv (cx.an 4) hq) (by kernel_rfl) (map2 (mbv (cx.an 8) hq) (mbv (cx.an 13) hq)) rfl,kcmp_any ((x).1) (((srL L i).getD (j - 1) en0).1) _ _ _ _ _ hxz (hyz _)⟩
  refine then_normal (wbs (fun hs13=>?_) fun hs13=>?_)
  ·have hs13p:=hs13
   simp only [zB] at hs13p
   obtain ⟨hs13p1,hs13p2⟩:=hs13p
   refine wp_skip (then_normal (wp_seq (wp_block ?_)))
   have hil_:=inL_len (S:=srL L i) (x:=x) (j:=j) (R:=L.drop (i+1)) (by omega)
   refine wp_region_Y [0,0,0,0,8,0,0,64,224,480,0,0,3072,7168,16355,32739,65535,131071] [[],[],[],[],[],[],[],[],[0],[0],[],[],[0],[0],[0],[0],[1],[1]] [[],[],[],[],[],[],[],[],[],[],[],[],[],[],[],[1],[],[2]] [[],[],[],[],[],[],[],[],[],[],[],[],[],[],[],[0],[],[1]] [.k 37 (.slice A n c), .k 38 (vi ((j:Int))), .k 39 (.slice A n c), .k 40 (vi ((j:Int))),tI 41 ((j:Int) - 1) (by omega), .k 42 (.slice A n c), .k 43 (vi ((j:Int))),tI 44 ((j:Int) - 1) (by omega), .c 45 (.pointer (some ((ad A).add ((j - 1)*3)))), .c 46 (.agg #[.string (((srL L i).getD (j - 1) en0).1),vi ((((srL L i).getD (j - 1) en0).2.1:Int)),vi (((srL L i).getD (j - 1) en0).2.2)]), .k 47 (.slice A n c), .k 48 (vi ((j:Int))), .c 49 (.pointer (some ((ad A).add (j*3)))), .c 50 (.agg #[.string ((x).1),vi (((x).2.1:Int)),vi ((x).2.2)]), .c 51 (.pointer (some ((ad A).add (j*3)))), .n, .c 52 (.pointer (some ((ad A).add ((j - 1)*3)))), .n] (fun ix σ β X=>match ix with | 0=>True | 1=>True | 2=>True | 3=>True | 4=>True | 5=>True | 6=>True | 7=>True | 8=>True | 9=>True | 10=>True | 11=>True | 12=>True | 13=>True | 14=>True | 15=>X 1=eO 89 3 (.slice A n c) n (((inL (srL L i) x j (L.drop (i+1))).set j ((srL L i).getD (j - 1) en0)).flatMap enC) | 16=>True | 17=>X 2=eO 89 3 (.slice A n c) n ((((inL (srL L i) x j (L.drop (i+1))).set j ((srL L i).getD (j - 1) en0)).set (j - 1) (x)).flatMap enC) | _=>True) [2] [8,9,12,13,14,15,16,17] [(37,0,17,53)] hst12 ?_ ?_ ?_
   ·exact fun ix _ _ _ _ _ _ hs hb hx h=>match ix,h with
    | 15,h=>by dsimp only; rw [← hx 1 rfl]; exact h
    | 17,h=>by dsimp only; rw [← hx 2 rfl]; exact h
    | 0, _ | 1, _ | 2, _ | 3, _ | 4, _ | 5, _ | 6, _ | 7, _ | 8, _ | 9, _ | 10, _ | 11, _ | 12, _ | 13, _ | 14, _ | 16, _ | _+18, _=>trivial
   ·refine ⟨?_,?_,?_,?_,?_,?_,?_,?_,trivial⟩
    ·exact xs4 rfl id fun cx=>run_indexSlM (e:=89) (m:=j - 1) (sz:=3) rfl (by kernel_rfl) (by kernel_rfl) (cx.an 5) (cx.an 7) (by omega) (by omega) (At.of_ownN (cx.ri 0 rfl)) (flatPos (sz:=3) enC_len (by decide) (by first | omega | (simp only [List.length_set]; omega)))
    ·exact xs4 rfl id fun cx=>run_loadElt (f:=enC) (m:=(j - 1)) (sz:=3) (off:=0) (n:=3) rfl (by kernel_rfl) (by kernel_rfl) (cx.an 8) rfl enC_len (At.of_ownN (cx.ri 0 rfl)) (inL_pre (by omega) (by omega)) (fun k hk=>match k,hk with | 0, _=>rfl | 1, _=>rfl | 2, _=>rfl | k+3,hk=>absurd hk (by omega))
    ·exact xs4 rfl id fun cx=>run_indexSlM (e:=89) (m:=j) (sz:=3) rfl (by kernel_rfl) (by kernel_rfl) (cx.an 10) (cx.an 11) (by omega) (by omega) (At.of_ownN (cx.ri 0 rfl)) (flatPos (sz:=3) enC_len (by decide) (by first | omega | (simp only [List.length_set]; omega)))
    ·exact xs4 rfl id fun cx=>run_loadElt (f:=enC) (m:=j) (sz:=3) (off:=0) (n:=3) rfl (by kernel_rfl) (by kernel_rfl) (cx.an 12) rfl enC_len (At.of_ownN (cx.ri 0 rfl)) (inL_at (by omega)) (fun k hk=>match k,hk with | 0, _=>rfl | 1, _=>rfl | 2, _=>rfl | k+3,hk=>absurd hk (by omega))
    ·exact xs4 rfl id fun cx=>run_indexSlM (e:=89) (m:=j) (sz:=3) rfl (by kernel_rfl) (by kernel_rfl) (cx.an 0) (cx.an 1) (by omega) (by omega) (At.of_ownN (cx.ri 0 rfl)) (flatPos (sz:=3) enC_len (by decide) (by first | omega | (simp only [List.length_set]; omega)))
    ·refine svA fun ρ β W X cx=>?_
     exact dv_storeElt (m:=j*3) (n:=n) (sz:=3) (k:=3) rfl (cx.an 14) (cx.an 9) (by kernel_rfl) (by kernel_rfl) (by kernel_rfl) cx (cx.init 0 _ rfl) rfl (by omega) (by decide) rfl (putL_flat enC_len (ts:=(inL (srL L i) x j (L.drop (i+1)))) (m:=j) (by first | omega | (simp only [List.length_set]; omega)) ((srL L i).getD (j - 1) en0)) rfl rfl (fun σ β' X' hs hb hx=>hx)
    ·exact xs4 rfl id fun cx=>run_indexSlM (e:=89) (m:=j - 1) (sz:=3) rfl (by kernel_rfl) (by kernel_rfl) (cx.an 2) (cx.an 4) (by omega) (by omega) (At.of_ownN (cx.row (dTn (cx.an 15)) rfl)) (flatPos (sz:=3) enC_len (by decide) (by first | omega | (simp only [List.length_set]; omega)))
    ·refine svA fun ρ β W X cx=>?_
     exact dv_storeElt (m:=(j - 1)*3) (n:=n) (sz:=3) (k:=3) rfl (cx.an 16) (cx.an 13) (by kernel_rfl) (by kernel_rfl) (by kernel_rfl) cx (dTn (cx.an 15)) rfl (by omega) (by decide) rfl (putL_flat enC_len (ts:=((inL (srL L i) x j (L.drop (i+1))).set j ((srL L i).getD (j - 1) en0))) (m:=(j - 1)) (by first | omega | (simp only [List.length_set]; omega)) (x)) rfl rfl (fun σ β' X' hs hb hx=>hx)
   intro σ β X W14 hD hst14 fr hfr
   simp only [exq 2 ((dTn (hD 17 lq)))] at hst14
   clear hD; subst hfr; clear σ β X
   refine blk_normal (then_normal (sqr (sqp [.m 35 9,sI 36 ((j:Int) - 1) (by omega), .m 9 36] ?_)))
   refine then_normal ?_
   have hlt_:lessF x.1 ((srL L i).getD (j - 1) en0).1=true:=by have h_:=hs13; rw [Bool.and_eq_true] at h_; rw [← ordF_less]; exact h_.2
   rw [inL_step (by omega) (by omega)] at hst14
   rw [show ((j:Int) - 1)=((j - 1:Nat):Int) by omega]
   refine ⟨((j - 1))+1,by omega,?_⟩
   exact ⟨(j - 1),by omega,(drop_less (m:=j - 1) (by omega) (by rw [Nat.sub_add_cancel (by omega)]; exact hj2) hlt_),rfl,(by kernel_rfl),hst14.pk [0]⟩
  have hs13p:=hs13
  simp only [zB] at hs13p
  refine wp_exit (then_exit (then_exit (blk_eq (blk_normal (then_normal ?_)))))
  have hcut:j=0∨lessF x.1 ((srL L i).getD (j - 1) en0).1=false:=by
   rcases Nat.eq_zero_or_pos j with h0 | h0
   ·exact .inl h0
   ·refine .inr ?_
    have h_:=hs13
    rw [Bool.and_eq_false_iff] at h_
    rcases h_ with h_ | h_
    ·exact absurd (of_decide_eq_false h_) (by omega)
    ·rw [← ordF_less]; exact h_
  rw [← hN_x] at hj2 hcut hst12
  rw [srL_snoc (by omega) hj hj2 hcut] at hst12
  refine sqr (sqp [.m 15 8,sI 16 ((i:Int)+1) (by omega), .m 8 16] ?_)
  refine then_normal ?_
  refine ⟨n - ((i+1)),by omega,?_⟩
  exact ⟨(i+1),by omega,by omega,rfl,(by kernel_rfl),hst12.pk [0]⟩
 refine wp_exit (then_exit (then_exit (blk_eq ?_)))
 refine bpe (.tuple #[]) (by simp [results,Tryz.results137,go_sem]) ?_
 rw [srL_all (by omega),List.drop_of_length_le (by omega),List.append_nil] at hst4; exact ⟨rfl,hst4⟩
theorem kstab_any (A:Option Addr) (n c:Nat) (L:List EnD) (w:World) (hO:w.ownsRow 0 89 3 (.slice A n c) n (L.flatMap enC)) (hn:L.length=n) (hnb:n≤100000) (hsz:∀ e∈L,e.1.size≤1000000) (hn19:n≤19):
  Calls Tryz.prog 135 #[.slice A n c, .int .i64 ((n:Int)), .func (.func 123) #[] #[]] w (RwPost A n c (sortR L.reverse).reverse w):=by
 have st0:=St.lentRw hO
 have hcap:=eown_capN hO
 go_enter Tryz.func135,Tryz.ntmps135
 have hst0:=st0
 refine wp_seq (sqr (sqp [.k 6 (vi 20)] ?_))
 refine then_normal (wp_seq (sqr (sqp [.m 10 6, .k 7 (vi 0), .m 8 10] ?_)))
 refine then_normal (wp_seq (wp_block ?_))
 refine wp_loopT (fun t_ mz az W=>True∧mz=0∧az=⟨(ovr (jv az) [(11,11,12,[])] t_).toArray,[]⟩∧St w (Value.ownBlock (.slice A n c)).toList [eO 89 3 (.slice A n c) n (L.flatMap enC)] W) (0) ?_ ?_
 · -- the loop begins
   exact ⟨trivial,rfl,(by kernel_rfl),hst0.pk [0]⟩
 rintro n5 a5 W5 ⟨-,rfl,hj_,hst5⟩
 refine ovz hj_ fun u5_=>?_
 refine wp_seq (wp_seq (sqr ?_))
 have hd9:(decide (20≤(n:Int)))=false:=(decide_eq_false (by omega))
 refine sqp [.m 11 8, .m 12 1, .e 13 (.bool (decide (20≤(n:Int)))) (.bool false) (congrArg Value.bool hd9)] ?_
 refine then_normal (wcf rfl (wp_exit (then_exit (then_exit (blk_eq (then_normal (wp_seq (sqr (sqp [.m 23 0, .m 24 7, .m 25 1, .m 26 2] ?_)))))))))
 refine sqc0 (.tuple #[]) (eO 89 3 (.slice A n c) n (((sortR L.reverse).reverse).flatMap enC)) 0 hst5 (by
   refine svA fun ρ β W X cx=>?_
   refine DoesU.call (run_callF (args:=#[.slice A n c,vi 0,vi ((n:Int)), .func (.func 123) #[] #[]]) rfl cx.sees rfl (by kernel_rfl) (map4 (cx.ou 23) (cx.ou 24) (cx.ou 25) (cx.ou 26))) ?_
   refine (kins_any A n c L _ (cx.ri 0 rfl) hn hnb hsz).mono ?_
   rintro e W1 ⟨rfl,hs4⟩
   refine ⟨_,rfl,post_obj (E:=eO 89 3 (.slice A n c) n (L.flatMap enC)) [eO 89 3 (.slice A n c) n (((sortR L.reverse).reverse).flatMap enC)] (cx.init 0 _ rfl) rfl rfl hs4 (fun σ β' X' hs hb hv hN=>?_)⟩
   have hv1:=(hv 27 rfl).1; have hv2:=(hv 27 rfl).2
   exact ⟨hv1.trans rfl,(List.cons.inj hN).1⟩) fun W14 hst14=>?_
 refine then_normal (wp_block ?_)
 refine wp_loopT (fun t_ mz az W=>True∧mz=0∧az=⟨(ovr (jv az) [(7,7,3,[]),(18,28,35,[])] t_).toArray,[]⟩∧St w (Value.ownBlock (.slice A n c)).toList [eO 89 3 (.slice A n c) n (((sortR L.reverse).reverse).flatMap enC)] W) (0) ?_ ?_
 · -- the loop begins
   exact ⟨trivial,rfl,(by kernel_rfl),hst14.pk [0]⟩
 rintro n15 a15 W15 ⟨-,rfl,hj_,hst15⟩
 refine ovz hj_ fun u15_=>?_
 refine wp_seq (wp_seq (sqr ?_))
 have hd19:(decide (20 < (n:Int)))=false:=(decide_eq_false (by omega))
 refine sqp [.m 28 6, .m 29 1, .e 30 (.bool (decide (20 < (n:Int)))) (.bool false) (congrArg Value.bool hd19)] ?_
 refine then_normal (wcf rfl (wp_exit (then_exit (then_exit (blk_eq ?_)))))
 refine bpe (.tuple #[]) (by simp [results,Tryz.results135,go_sem]) ?_
 exact ⟨rfl,hst15⟩
theorem ksort_any (A:Option Addr) (n c:Nat) (L:List EnD) (w:World) (hO:w.ownsRow 0 89 3 (.slice A n c) n (L.flatMap enC)) (hn:L.length=n) (hnb:n≤100000) (hsz:∀ e∈L,e.1.size≤1000000) (hn19:n≤19):
  Calls Tryz.prog 122 #[.slice A n c, .func (.func 123) #[] #[]] w (RwPost A n c (sortR L.reverse).reverse w):=by
 have st0:=St.lentRw hO
 have hcap:=eown_capN hO
 go_enter Tryz.func122,Tryz.ntmps122
 have hst0:=st0
 refine sqr (sqp [.m 4 0, .m 5 0, .k 6 (vi ((n:Int))), .m 7 1] ?_)
 refine sqc0 (.tuple #[]) (eO 89 3 (.slice A n c) n (((sortR L.reverse).reverse).flatMap enC)) 0 hst0 (by
   refine svA fun ρ β W X cx=>?_
   refine DoesU.call (run_callF (args:=#[.slice A n c,vi ((n:Int)), .func (.func 123) #[] #[]]) rfl cx.sees rfl (by kernel_rfl) (map3 (cx.ou 4) (cx.ou 6) (cx.ou 7))) ?_
   refine (kstab_any A n c L _ (cx.ri 0 rfl) hn hnb hsz hn19).mono ?_
   rintro e W1 ⟨rfl,hs4⟩
   refine ⟨_,rfl,post_obj (E:=eO 89 3 (.slice A n c) n (L.flatMap enC)) [eO 89 3 (.slice A n c) n (((sortR L.reverse).reverse).flatMap enC)] (cx.init 0 _ rfl) rfl rfl hs4 (fun σ β' X' hs hb hv hN=>?_)⟩
   have hv1:=(hv 8 rfl).1; have hv2:=(hv 8 rfl).2
   exact ⟨hv1.trans rfl,(List.cons.inj hN).1⟩) fun W5 hst5=>?_
 refine bpe (.tuple #[]) (by simp [results,Tryz.results122,go_sem]) ?_
 exact ⟨rfl,hst5⟩
end
section
open Go.RowKit
/-- what stands in the slots from i on -/
def sufE (its:List ByteArray) (i:Nat):List (Nat×ByteArray):=rawE i (its.drop i)
theorem sufE_step {its:List ByteArray} {i:Nat} (h:i < its.length):sufE its i=if (its.getD i ByteArray.empty).size=0 then sufE its (i+1) else (i,its.getD i ByteArray.empty)::sufE its (i+1):=by
 rw [sufE,List.drop_eq_getElem_cons h,rawE,List.getD_eq_getElem?_getD,List.getElem?_eq_getElem h]; rfl
theorem sufF_step {its:List ByteArray} {i d:Nat} (h:i < its.length):freeE i (its.drop i) d=if (its.getD i ByteArray.empty).size=0 then i else freeE (i+1) (its.drop (i+1)) d:=by
 rw [List.drop_eq_getElem_cons h,freeE,List.getD_eq_getElem?_getD,List.getElem?_eq_getElem h]; rfl
def desE (lv:Int) (l:List (Nat×ByteArray)):List EnD:=(l.map (parE lv)).reverse
theorem desE_cons (lv:Int) (p:Nat×ByteArray) (l:List (Nat×ByteArray)):desE lv (p::l)=desE lv l++[parE lv p]:=by simp [desE]
theorem rk_badx {k:Int} {x:ByteArray} {l:List ByteArray} {i:Nat} (hi1:1≤i) (hi:i < (x::l).length) (hz:((x::l).getD i ByteArray.empty).size≠0) (hb:badE (numS x 0 1) (i,(x::l).getD i ByteArray.empty)=true):nodF k (x::l)=none:=rd_badx rfl hi1 hi hz hb
/-- the value of a node with its page -/
def knV (pg:Int) (n:NoD) (EA:Option Addr) (ec:Nat):Value:= .agg #[.int .i64 pg, .int .i64 n.lv, .int .i64 n.right, .string n.high, .bool n.dead, .slice EA n.es.length ec, .int .i64 (n.free:Int)]
def kn0 (pg:Int):Value:= .agg #[.int .i64 pg, .int .i64 0, .int .i64 0, .string ⟨#[]⟩, .bool false, .slice none 0 0, .int .i64 0]
def KdPost (pg:Int) (o:Option NoD) (w:World) (e:Ending) (w':World):Prop:=match o with
 | none=>∃ p,e= .returned (.tuple #[kn0 p, .bool false])∧Ext w w'
 | some n=>∃ EA ec,e= .returned (.tuple #[knV pg n EA ec, .bool true])∧St w [] [eO 89 3 (.slice EA n.es.length ec) n.es.length (n.es.flatMap enC)] w'
theorem kd_none {pg p:Int} {o:Option NoD} {w w':World} (h:o=none) (hx:Ext w w'):KdPost pg o w (.returned (.tuple #[kn0 p, .bool false])) w':=by subst h; exact ⟨p,rfl,hx⟩
theorem krev_all (A:Option Addr) (n c:Nat) (L:List EnD) (w:World) (hO:w.ownsRow 0 89 3 (.slice A n c) n (L.flatMap enC)) (hn:L.length=n) (hnb:n≤100000) (hr0:n=0→Calls Tryz.prog 121 #[.slice A n c] w (RwPost A n c L.reverse w)):Calls Tryz.prog 121 #[.slice A n c] w (RwPost A n c L.reverse w):=by
 rcases Nat.eq_zero_or_pos n with h | h
 ·exact hr0 h
 ·exact krev_any A n c L w hO hn hnb h
theorem Tryz.infoEnt:(Tryz.prog.info? 89).map (fun i=>(i.zero,i.size,i.bytes))=some (some (.agg #[.string ByteArray.empty, .int .i64 0, .int .i64 0]),3,32):=by kernel_rfl
theorem en_snoc (T:List EnD) (x:EnD):T.flatMap enC++enC x=(T++[x]).flatMap enC:=by simp
theorem krev_to {A:Option Addr} {n c:Nat} {L M:List EnD} {w:World} (h:L.reverse=M) (hc:Calls Tryz.prog 121 #[.slice A n c] w (RwPost A n c L.reverse w)):Calls Tryz.prog 121 #[.slice A n c] w (RwPost A n c M w):=h ▸ hc
theorem nat_b1 (a:Nat):((a:Int)==1)=(a==1):=by rw [Bool.eq_iff_iff,beq_iff_eq,beq_iff_eq]; omega
theorem krev_0 (A:Option Addr) (c:Nat) (w:World) (hO:w.ownsRow 0 89 3 (.slice A 0 c) 0 []):
  Calls Tryz.prog 121 #[.slice A 0 c] w (RwPost A 0 c [] w):=by
 have st0:=St.lentRw hO
 go_enter Tryz.func121,Tryz.ntmps121
 have hst0:=st0
 refine wp_seq (sqr (sqp [.m 4 0, .k 5 (vi 0), .k 6 (vi (-1)), .k 2 (vi 0), .m 3 6] ?_))
 refine then_normal (wp_block ?_)
 refine wp_loopT (fun t_ mz az W=>True∧mz=0∧az=⟨(ovr (jv az) [(7,7,21,[])] t_).toArray,[]⟩∧St w (Value.ownBlock (.slice A 0 c)).toList [eO 89 3 (.slice A 0 c) 0 ([])] W) (0) ?_ ?_
 · -- the loop begins
   exact ⟨trivial,rfl,(by kernel_rfl),hst0.pk [0]⟩
 rintro n6 a6 W6 ⟨-,rfl,hj_,hst6⟩
 refine ovz hj_ fun u6_=>?_
 refine wp_seq (wp_seq (sqr (sqp [.m 7 2, .m 8 3, .k 9 (.bool false)] ?_)))
 refine then_normal (wcf rfl (wp_exit (then_exit (then_exit (blk_eq ?_)))))
 refine bpe (.tuple #[]) (by simp [results,Tryz.results121,go_sem]) ?_
 exact ⟨rfl,hst6⟩
theorem krev_row (A:Option Addr) (n c:Nat) (L:List EnD) (w:World) (hO:w.ownsRow 0 89 3 (.slice A n c) n (L.flatMap enC)) (hn:L.length=n) (hnb:n≤100000):Calls Tryz.prog 121 #[.slice A n c] w (RwPost A n c L.reverse w):=by
 refine krev_all A n c L w hO hn hnb fun h=>?_
 subst h
 obtain rfl:=List.eq_nil_of_length_eq_zero hn
 exact krev_0 A c w hO
theorem kread_c (k lsn:Int) (A:Option Addr) (c n:Nat) (h:ByteArray) (l:List ByteArray) (w:World) (hA:At w A ((h::l).map Value.string)) (hn:(h::l).length=n) (hl:n≤100000) (hsz:∀ s∈h::l,s.size≤1000000) (hl19:(rawE 1 l).length≤19):
  Calls Tryz.prog 96 #[.agg #[.int .i64 k, .int .i64 lsn, .slice A n c]] w (KdPost 0 (nodF k (h::l)) w):=by
 have hn0:0 < n:=by rw [← hn]; simp
 have hhz:=hsz h (by simp)
 go_enter Tryz.func96,Tryz.ntmps96
 have hst0:=St.start w
 refine wp_seq (sqr ?_)
 refine sqbx #[vi k,vi lsn, .slice A n c] hst0 fun B1_1 W1 hst1=>?_
 refine sqal #[vi 0,vi 0,vi 0, .string ByteArray.empty, .bool false, .slice none 0 0,vi 0] hst1 fun B2_2 W2 hst2=>?_
 refine sqp [.k 3 (.bool false)] ?_
 refine then_normal (wp_seq (wp_seq (sqr (sqp [.k 11 (vp B1_1)] ?_))))
 refine sqld 0 hst2 ?_
 refine sqp [.k 13 (.bool (k != 2)), .m 14 13] ?_
 refine sqw' 14 [15,16,17,18] ?_ rfl (fun hq=>?_) ?_
 rotate_left
 ·refine sqp [.k 15 (.pointer (some ⟨B1_1,2,none⟩))] ?_
  refine sqld 0 hst2 ?_
  refine sqp [.k 17 (vi ((n:Int))), .k 18 (.bool ((n:Int)==0))] ?_
  exact sqe
 refine sqwx ?_
 refine sqp [sPo 19 (k != 2) ((n:Int)==0)] ?_
 refine then_normal (wbs (fun hs13=>?_) fun hs13=>?_)
 ·have hs13p:=hs13
  simp only [zB] at hs13p
  refine wp_seq (sqr (sqp [.k 20 (.agg #[vi 0,vi 0,vi 0, .string ByteArray.empty, .bool false, .slice none 0 0,vi 0])] ?_))
  refine sqst (n:=7) 1 #[vi 0,vi 0,vi 0, .string ByteArray.empty, .bool false, .slice none 0 0,vi 0] hst2 fun W15 hst15=>?_
  refine sqp [.k 3 (.bool false)] ?_
  refine then_normal (wp_ret (then_ret ?_))
  refine bpr (.tuple #[.agg #[vi 0,vi 0,vi 0, .string ByteArray.empty, .bool false, .slice none 0 0,vi 0], .bool false]) (results_2 Tryz.results96 (rpa (hst15.blk 1 rfl) 0 7) rpt) ?_
  exact kd_none (nodF_bad (.inl (kind_bad (by assumption) hn0))) hst15.ext
 have hs13p:=hs13
 simp only [zB] at hs13p
 obtain ⟨hs13p1,hs13p2⟩:=hs13p
 refine wp_skip (then_normal (wp_seq (sqr (sqp [.k 21 (.pointer (some ⟨B1_1,2,none⟩))] ?_))))
 refine sqld 0 hst2 ?_
 refine sql (.pointer (some ((ad A).add 0))) hst2 (fun cx=>run_indexSl (e:=9) (m:=0) rfl (by kernel_rfl) (by kernel_rfl) (cx.ou 22) (cx.co _) (by omega) (by omega) (hA.ext cx.upd.to_ext) (by rw [List.length_map]; exact hn)) ?_
 refine sql (.string h) hst2 (fun cx=>run_load1 rfl (by kernel_rfl) (cx.ou 23) (At.cellAd (hA.ext cx.upd.to_ext) rfl)) ?_
 refine sqp [.m 4 24] ?_
 refine then_normal (wp_seq (wp_seq (sqr (sqp [.m 25 4, .k 26 (vi ((h.size:Int))), .k 27 (.bool (decide ((h.size:Int) < 4))), .m 28 27] ?_))))
 refine sqw' 28 [29,30,31] ?_ rfl (fun hq=>?_) ?_
 rotate_left
 ·have hq_:=of_decide_eq_false hq
  refine sqp [.m 29 4] ?_
  refine sql (.int .u8 (byteI (bl h) 1)) hst2 (fun cx=>run_indexS (m:=1) rfl (by kernel_rfl) (cx.ou 29) (cx.co _) (by omega) (by omega)) ?_
  refine sqp [.k 31 (.bool (decide (1 < byteI (bl h) 1)))] ?_
  exact sqe
 refine sqwx ?_
 refine sqp [sPo 32 (decide ((h.size:Int) < 4)) (decide (1 < byteI (bl h) 1)), .m 33 32] ?_
 refine sqw' 33 [34,35,36,37,38,39,40,41] ?_ rfl (fun hq=>?_) ?_
 rotate_left
 ·refine sqp [.m 34 4, .k 35 (vi ((h.size:Int))), .k 36 (.bool (decide (4 < (h.size:Int)))), .m 37 36] ?_
  refine sqw 37 [38,39,40] rfl (fun _=>sqp [.m 38 4, .k 39 (vi ((h.size:Int))), .k 40 (.bool (decide ((h.size:Int) < 8)))] sqe) ?_
  refine sqp [sPa 41 (decide (4 < (h.size:Int))) (decide ((h.size:Int) < 8))] ?_
  exact sqe
 refine sqwx ?_
 refine sqp [sPo 42 ((decide ((h.size:Int) < 4))||(decide (1 < byteI (bl h) 1))) ((decide (4 < (h.size:Int)))&&(decide ((h.size:Int) < 8)))] ?_
 refine then_normal (wbs (fun hs40=>?_) fun hs40=>?_)
 ·have hs40p:=hs40
  simp only [zB] at hs40p
  refine wp_seq (sqr (sqp [.k 43 (.agg #[vi 0,vi 0,vi 0, .string ByteArray.empty, .bool false, .slice none 0 0,vi 0])] ?_))
  refine sqst (n:=7) 1 #[vi 0,vi 0,vi 0, .string ByteArray.empty, .bool false, .slice none 0 0,vi 0] hst2 fun W42 hst42=>?_
  refine sqp [.k 3 (.bool false)] ?_
  refine then_normal (wp_ret (then_ret ?_))
  refine bpr (.tuple #[.agg #[vi 0,vi 0,vi 0, .string ByteArray.empty, .bool false, .slice none 0 0,vi 0], .bool false]) (results_2 Tryz.results96 (rpa (hst42.blk 1 rfl) 0 7) rpt) ?_
  exact kd_none (nodF_bad (.inr (.inr (.inl ⟨h,l,rfl,by have h_:=hdOk_not (h:=h); rw [hs40] at h_; simpa using h_.symm⟩)))) hst42.ext
 have hs40p:=hs40
 simp only [zB] at hs40p
 obtain ⟨⟨hs40p1,hs40p2⟩,hs40p3⟩:=hs40p
 refine wp_skip (then_normal (wp_seq (sqr (sqp [.m 44 4] ?_))))
 refine sqk1 (fun B45_45=>vp B45_45) (fun B45_45=>eB B45_45 202 #[.string h,vi 0, .bool false]) hst2 (fun cx=>⟨_,(oread_b h _).mono (by rintro e W1 ⟨B4,rfl,⟨hb4,hw4⟩,hx⟩; exact ⟨_,rfl,St.one hx ⟨hb4,eB_loc _ _ _,fun k hk=>by simp [eB] at hk; subst hk; exact ⟨hw4,hb4.lt⟩⟩⟩),(map1 (cx.ou 44))⟩) fun B45_45 W45 hst45=>?_
 refine sqp [.m 5 45] ?_
 refine then_normal (wp_seq ?_)
 have hok:hdOk h=true:=by have h_:=hdOk_not (h:=h); rw [hs40] at h_; simpa using h_.symm
 have h4:4≤h.size:=by unfold hdOk at hok; simp only [Bool.and_eq_true,decide_eq_true_eq] at hok; exact hok.1.1
 have h2_:(numS h 2 2:Int)=byteI (bl h) 2*256+byteI (bl h) 3:=numS_two h 2 (by omega)
 have hb2_:=byteI_bd (bl h) 2
 have hb3_:=byteI_bd (bl h) 3
 refine wp_region_Y [0,1,0,7,15,0,47,111,0,256,0,1024,3072,7168,16383,0,65535] [[],[2],[],[3],[],[],[4],[],[],[],[],[0],[],[],[],[],[6]] [[],[3],[],[4],[],[],[5],[],[],[],[],[],[],[],[],[6],[7]] [[],[2],[],[3],[],[],[4],[],[],[],[],[],[],[],[],[],[6]] [.k 46 (vp B45_45), .a 47, .k 48 (vp B45_45), .a 49, .c 50 (.bool ((numS h 1 1:Int)==1)), .k 51 (vp B45_45), .a 52, .c 53 (vi ((numS h 2 2:Int) - 1)), .k 54 (.string h), .c 55 (.string (h.extract 4 h.size)), .k 56 (.pointer (some ⟨B1_1,2,none⟩)), .c 57 (.slice A n c), .k 58 (vi ((n:Int))), .c 59 (vi (max 1 (n:Int))), .c 60 (.agg #[vi 0,vi ((numS h 0 1:Int)),vi ((numS h 2 2:Int) - 1), .string (h.extract 4 h.size), .bool ((numS h 1 1:Int)==1), .slice none 0 0,vi (max 1 (n:Int))]), .a 6, .n] (fun ix σ β X=>match ix with | 0=>True | 1=>σ 47=vi ((numS h 0 1:Int))∧X 3=eB B45_45 202 #[.string h,vi 1, .bool false] | 2=>True | 3=>σ 49=vi ((numS h 1 1:Int))∧X 4=eB B45_45 202 #[.string h,vi 2, .bool false] | 4=>True | 5=>True | 6=>σ 52=vi ((numS h 2 2:Int))∧X 5=eB B45_45 202 #[.string h,vi 4, .bool false] | 7=>True | 8=>True | 9=>True | 10=>True | 11=>True | 12=>True | 13=>True | 14=>True | 15=>σ 6=vp (pb (β 6))∧X 6=eB (pb (β 6)) 84 #[vi 0,vi 0,vi 0, .string ByteArray.empty, .bool false, .slice none 0 0,vi 0] | 16=>X 7=eB (pb (β 6)) 84 #[vi 0,vi ((numS h 0 1:Int)),vi ((numS h 2 2:Int) - 1), .string (h.extract 4 h.size), .bool ((numS h 1 1:Int)==1), .slice none 0 0,vi (max 1 (n:Int))] | _=>True) [0,1,5,7] [1,3,4,6,7,9,11,13,14,15,16] [(6,15,1,7),(39,0,15,54)] hst45 ?_ ?_ ?_
 ·exact fun ix _ _ _ _ _ _ hs hb hx h=>match ix,h with
  | 1,h=>by dsimp only; rw [← hs 47 rfl,← hx 3 rfl]; exact h
  | 3,h=>by dsimp only; rw [← hs 49 rfl,← hx 4 rfl]; exact h
  | 6,h=>by dsimp only; rw [← hs 52 rfl,← hx 5 rfl]; exact h
  | 15,h=>by dsimp only; rw [← hs 6 rfl,← hb 6 rfl,← hx 6 rfl]; exact h
  | 16,h=>by dsimp only; rw [← hb 6 rfl,← hx 7 rfl]; exact h
  | 0, _ | 2, _ | 4, _ | 5, _ | 7, _ | 8, _ | 9, _ | 10, _ | 11, _ | 12, _ | 13, _ | 14, _ | _+17, _=>trivial
 ·refine ⟨?_,?_,?_,?_,?_,?_,?_,?_,?_,?_,?_,trivial⟩
  ·refine svA fun ρ β W X cx=>?_
   refine DoesU.call (run_callF (args:=#[vp B45_45,vi 1]) rfl cx.sees rfl (by kernel_rfl) (map2 (cx.an 0) (cx.co _))) ?_
   refine (num_ok _ h 0 1 _ ⟨(cx.bi 2 rfl),by first | omega | (rw [ByteArray.size_extract]; omega),by first | omega | (rw [ByteArray.size_extract]; omega)⟩ (by omega) (by first | omega | (rw [ByteArray.size_extract]; omega))).mono ?_
   rintro e W1 ⟨rfl,hrd,hu⟩
   refine ⟨_,rfl,post_mut (cx.init 2 _ rfl) rfl rfl hu hrd.1 (fun σ β' X' hs hb hv hx=>?_)⟩
   exact ⟨(hv 47 rfl).1.trans rfl,hx⟩
  ·refine svA fun ρ β W X cx=>?_
   refine DoesU.call (run_callF (args:=#[vp B45_45,vi 1]) rfl cx.sees rfl (by kernel_rfl) (map2 (cx.an 2) (cx.co _))) ?_
   refine (num_ok _ h 1 1 _ ⟨(cx.blk (dTn (cx.an 1)).2 rfl),by first | omega | (rw [ByteArray.size_extract]; omega),by first | omega | (rw [ByteArray.size_extract]; omega)⟩ (by omega) (by first | omega | (rw [ByteArray.size_extract]; omega))).mono ?_
   rintro e W1 ⟨rfl,hrd,hu⟩
   refine ⟨_,rfl,post_mut (dTn (cx.an 1)).2 rfl rfl hu hrd.1 (fun σ β' X' hs hb hv hx=>?_)⟩
   exact ⟨(hv 49 rfl).1.trans rfl,hx⟩
  ·exact xs4 rfl id fun cx=>run_bin rfl (dTn (cx.an 3)).1 (cx.co _) rfl
  ·refine svA fun ρ β W X cx=>?_
   refine DoesU.call (run_callF (args:=#[vp B45_45,vi 2]) rfl cx.sees rfl (by kernel_rfl) (map2 (cx.an 5) (cx.co _))) ?_
   refine (num_ok _ h 2 2 _ ⟨(cx.blk (dTn (cx.an 3)).2 rfl),by first | omega | (rw [ByteArray.size_extract]; omega),by first | omega | (rw [ByteArray.size_extract]; omega)⟩ (by omega) (by first | omega | (rw [ByteArray.size_extract]; omega))).mono ?_
   rintro e W1 ⟨rfl,hrd,hu⟩
   refine ⟨_,rfl,post_mut (dTn (cx.an 3)).2 rfl rfl hu hrd.1 (fun σ β' X' hs hb hv hx=>?_)⟩
   exact ⟨(hv 52 rfl).1.trans rfl,hx⟩
  ·exact xs4 rfl id fun cx=>run_bin rfl (dTn (cx.an 6)).1 (cx.co _) (congrArg (fun z=>some (Value.int .i64 z)) ((IntWalk.i64_in _ (by omega)).trans (by omega)))
  ·exact xs4 rfl id fun cx=>run_slice_lo (l:=4) rfl (by kernel_rfl) (cx.an 8) (cx.co _) (by omega) (by omega)
  ·exact xs4 rfl id fun cx=>run_load1 rfl (by kernel_rfl) (cx.an 10) ((cx.bi 0 rfl).cell 2)
  ·exact xs4 rfl id fun cx=>run_max2 rfl (cx.co _) (cx.an 12) rfl
  ·exact xs4 rfl id fun cx=>run_buildL rfl (pmc (dTn (cx.an 1)).1 (pmc (cx.an 4) (pmc (cx.an 7) (pmc (cx.an 9) (pmc (cx.an 13) pmn))))) (by kernel_rfl)
  ·refine svA fun ρ β W X cx=>?_
   exact dv_alloc (cs:=#[vi 0,vi 0,vi 0, .string ByteArray.empty, .bool false, .slice none 0 0,vi 0]) rfl (by kernel_rfl) rfl rfl (fun σ β' X' hs hb hv hx=>⟨hv,hx⟩)
  ·refine svA fun ρ β W X cx=>?_
   exact dv_store (n:=7) rfl (dTn (cx.an 15)).1 (cx.an 14) (by kernel_rfl) (by kernel_rfl) (by kernel_rfl) cx (dTn (cx.an 15)).2 rfl (nle rfl) (by kernel_rfl) rfl rfl rfl (fun σ β' X' hs hb hx=>by rw [hb 6]; exact hx)
 intro σ β X W47 hD hst47 fr hfr
 obtain ⟨B6_47,hu_B6_47⟩:∃ z,pb (β 6)=z:=⟨_,rfl⟩
 simp only [exq 5 ((dTn (hD 6 lq)).2),exq 7 ((dTn (hD 16 lq))),hu_B6_47] at hst47
 simp only [ed 47 ((dTn (hD 1 lq)).1),ed 49 ((dTn (hD 3 lq)).1),ed 52 ((dTn (hD 6 lq)).1),ed 6 ((dTn (hD 15 lq)).1),hu_B6_47] at hfr
 clear hD hu_B6_47; subst hfr; clear σ β X
 refine then_normal (wp_seq (wp_seq ?_))
 obtain ⟨z48_,hN_z48_⟩:∃ z,max 1 (n:Int)=z:=⟨_,rfl⟩
 rw [hN_z48_] at hst47 ⊢
 obtain rfl:z48_=(n:Int):=by omega
 refine sqr (sqp [.k 61 (.pointer (some ⟨B1_1,2,none⟩))] ?_)
 refine sqld 0 hst47 ?_
 refine sqp [.k 63 (vi ((n:Int))),sI 64 ((n:Int) - 1) (by omega), .m 7 64] ?_
 refine then_normal (wp_block ?_)
 obtain ⟨z54_,hN_z54_⟩:∃ z,(n:Int) - 1=z:=⟨_,rfl⟩
 rw [hN_z54_]
 obtain rfl:z54_=((n - 1:Nat):Int):=by omega
 obtain ⟨lv,hN_lv⟩:∃ z,(numS h 0 1:Int)=z:=⟨_,rfl⟩
 rw [hN_lv] at hst47 ⊢
 have hn55:=nilrowN hst47 89 3
 simp only [List.cons_append,List.nil_append] at hn55
 refine wp_loopT (fun t_ mz az W=>∃ j:Nat,∃ nn:Nat,∃ T:List EnD,∃ EA:Option Addr,∃ ec:Nat,∃ fr:Nat,j+1≤n∧T=desE lv (sufE (h::l) (j+1))∧(sufE (h::l) (j+1)).any (badE lv)=false∧T.length=nn∧nn+j+1≤n∧fr=freeE (j+1) ((h::l).drop (j+1)) n∧(∀ e∈T,e.1.size≤1000000)∧mz=j+1∧az=⟨(ovr (jv az) [(3,3,1,[]),(3,7,0,[vi ((j:Int))]),(0,8,3,[]),(54,65,47,[])] t_).toArray,[]⟩∧St w [] [eB B1_1 102 #[vi k,vi lsn, .slice A n c],eB B2_2 84 #[vi 0,vi 0,vi 0, .string ByteArray.empty, .bool false, .slice none 0 0,vi 0],eB B6_47 84 #[vi 0,vi (lv),vi ((numS h 2 2:Int) - 1), .string (h.extract 4 h.size), .bool ((numS h 1 1:Int)==1), .slice EA nn ec,vi ((fr:Int))],eO 89 3 (.slice EA nn ec) nn (T.flatMap enC)] W) (((n - 1))+1) ?_ ?_
 · -- the loop begins
   exact ⟨(n - 1),0,[],none,0,n,by omega,by rw [Nat.sub_add_cancel (by omega),sufE,List.drop_of_length_le (by omega)]; rfl,by rw [Nat.sub_add_cancel (by omega),sufE,List.drop_of_length_le (by omega)]; rfl,rfl,by omega,by rw [Nat.sub_add_cancel (by omega),List.drop_of_length_le (by omega)]; rfl,(fun e he=>nomatch he),rfl,(by kernel_rfl),hn55.pk [0,1,3,4]⟩
 rintro n56 a56 W56 ⟨j,nn,T,EA,ec,fr,hj,hT,hbad,hnn,hnj,hfr,hTz,rfl,hj_,hst56⟩
 refine ovz hj_ fun u56_=>?_
 refine wp_seq (wp_seq (sqr (sqp [.m 65 7, .k 66 (.bool (decide (0 < (j:Int))))] ?_)))
 refine then_normal (wds (fun hs59 hs59p=>?_) fun hs59 hs59p=>?_)
 ·refine wp_skip (then_normal (wp_seq (wp_block (wp_seq (sqr (sqp [.k 69 (.pointer (some ⟨B1_1,2,none⟩))] ?_))))))
  refine sqld 0 hst56 ?_
  refine sqp [.m 71 7] ?_
  refine sql (.pointer (some ((ad A).add j))) hst56 (fun cx=>run_indexSl (e:=9) (m:=j) rfl (by kernel_rfl) (by kernel_rfl) (cx.ou 70) (cx.ou 71) (by omega) (by omega) (hA.ext cx.upd.to_ext) (by rw [List.length_map]; exact hn)) ?_
  refine sql (.string ((h::l).getD j ByteArray.empty)) hst56 (fun cx=>run_load1 rfl (by kernel_rfl) (cx.ou 72) (At.cellAd (hA.ext cx.upd.to_ext) (getD_str (by omega)))) ?_
  refine sqp [.m 8 73] ?_
  refine then_normal (wp_seq (wp_seq ?_))
  have hyz:((h::l).getD j ByteArray.empty).size≤1000000:=hsz _ (by rw [List.getD_eq_getElem?_getD,List.getElem?_eq_getElem (show j < (h::l).length by rw [hn]; exact (by omega))]; exact List.getElem_mem _)
  have hps:=sufE_step (its:=h::l) (i:=j) (by rw [hn]; omega)
  have hpf:=sufF_step (its:=h::l) (i:=j) (d:=n) (by rw [hn]; omega)
  obtain ⟨y,hN_y⟩:∃ z,(h::l).getD j ByteArray.empty=z:=⟨_,rfl⟩
  rw [hN_y]
  rw [hN_y] at hyz hps hpf
  refine sqr (sqp [.m 74 8, .k 75 (.bool (y.toList==((⟨#[]⟩:ByteArray)).toList))] ?_)
  refine then_normal (wbs (fun hs68=>?_) fun hs68=>?_)
  ·refine wp_seq (sqr (sqp [.m 76 7, .k 77 (.pointer (some ⟨B6_47,6,none⟩))] ?_))
   refine sqst (n:=1) 2 #[vi 0,vi (lv),vi ((numS h 2 2:Int) - 1), .string (h.extract 4 h.size), .bool ((numS h 1 1:Int)==1), .slice EA nn ec,vi ((j:Int))] hst56 fun W71 hst71=>?_
   refine then_normal (wp_exit (then_exit (blk_eq (then_normal (sqr (sqp [.m 67 7,sI 68 ((j:Int) - 1) (by omega), .m 7 68] ?_))))))
   refine then_normal ?_
   have hyz_:y.size=0:=by have h_:=hs68; rw [size_nil] at h_; exact of_decide_eq_true h_
   rw [if_pos hyz_] at hps hpf
   rw [show ((j:Int) - 1)=((j - 1:Nat):Int) by omega]
   refine ⟨((j - 1))+1,by omega,?_⟩
   exact ⟨(j - 1),nn,T,EA,ec,j,by omega,by rw [Nat.sub_add_cancel (by omega),hps]; exact hT,by rw [Nat.sub_add_cancel (by omega),hps]; exact hbad,hnn,by omega,by rw [Nat.sub_add_cancel (by omega),hpf],hTz,rfl,(by kernel_rfl),hst71.pk [0,1,2,3]⟩
  refine wp_skip (then_normal (wp_seq ?_))
  have hy0:¬ y.size=0:=by have h_:=hs68; rw [size_nil] at h_; exact of_decide_eq_false h_
  rw [if_neg hy0] at hps hpf
  refine sqr (sqp [.m 78 8, .m 79 7, .k 80 (.agg #[.string (y),vi ((j:Int)),vi (-1)])] ?_)
  refine sqal #[.string ByteArray.empty,vi 0,vi 0] hst56 fun B9_78 W78 hst78=>?_
  refine sqst (n:=3) 4 #[.string (y),vi ((j:Int)),vi (-1)] hst78 fun W79 hst79=>?_
  refine then_normal ?_
  refine wp_cutT (fun t_ az W=>∃ x:ByteArray,∃ kd:Int,parE lv (j,y)=(x,j,kd)∧badE lv (j,y)=decide (x.size < 4)∧x.size≤1000000∧az=⟨(ovr (jv az) [(3,3,1,[]),(6,10,1,[]),(70,81,20,[])] t_).toArray,[]⟩∧St w [] [eB B1_1 102 #[vi k,vi lsn, .slice A n c],eB B2_2 84 #[vi 0,vi 0,vi 0, .string ByteArray.empty, .bool false, .slice none 0 0,vi 0],eB B6_47 84 #[vi 0,vi (lv),vi ((numS h 2 2:Int) - 1), .string (h.extract 4 h.size), .bool ((numS h 1 1:Int)==1), .slice EA nn ec,vi ((fr:Int))],eO 89 3 (.slice EA nn ec) nn (T.flatMap enC),eB B9_78 89 #[.string x,vi ((j:Int)),vi kd]] W) ?_ ?_
  ·refine wp_seq (sqr (sqp [.k 81 (.pointer (some ⟨B6_47,1,none⟩))] ?_))
   refine sqld 2 hst79 ?_
   refine sqp [.k 83 (.bool (decide (0 < lv)))] ?_
   refine then_normal (wds (fun hs84 hs84p=>?_) fun hs84 hs84p=>?_)
   ·refine wp_seq (wp_seq (sqr (sqp [.m 84 8, .k 85 (vi ((y.size:Int))), .k 86 (.bool (decide ((y.size:Int) < 6)))] ?_)))
    refine then_normal (wds (fun hs88 hs88p=>?_) fun hs88 hs88p=>?_)
    ·refine wp_seq (sqr (sqp [.k 87 (.agg #[vi 0,vi 0,vi 0, .string ByteArray.empty, .bool false, .slice none 0 0,vi 0])] ?_))
     refine sqst (n:=7) 1 #[vi 0,vi 0,vi 0, .string ByteArray.empty, .bool false, .slice none 0 0,vi 0] hst79 fun W90 hst90=>?_
     refine sqp [.k 3 (.bool false)] ?_
     refine then_normal (wp_ret (then_ret (then_ret (blk_ret (then_ret (then_ret (blk_ret (then_ret ?_))))))))
     refine bpr (.tuple #[.agg #[vi 0,vi 0,vi 0, .string ByteArray.empty, .bool false, .slice none 0 0,vi 0], .bool false]) (results_2 Tryz.results96 (rpa (hst90.blk 1 rfl) 0 7) rpt) ?_
     exact kd_none (rk_badx (i:=j) (by omega) (by rw [hn]; omega) (by rw [hN_y]; exact hy0) (by rw [hN_lv,hN_y]; rw [badE,if_pos (by omega)]; exact decide_eq_true (show y.size < 6 by omega))) hst90.ext
    refine wp_skip (then_normal (wp_seq (sqr (sqp [.m 88 8, .k 89 (vi ((y.size:Int))),sI 90 ((y.size:Int) - 2) (by omega), .m 10 90] ?_))))
    refine then_normal (wp_region_Y [0,0,3,0,0,24,56,120,7,511,1023,2047] [[],[],[],[],[],[],[],[5],[],[4],[],[7]] [[],[],[],[],[],[],[5],[6],[],[7],[],[8]] [[],[],[],[],[],[],[],[5],[],[4],[],[7]] [.k 91 (.string (y)), .k 92 (vi ((y.size:Int) - 2)), .c 93 (.string (y.extract 0 (((y.size:Int) - 2).toNat))), .k 94 (.string (y)), .k 95 (vi ((y.size:Int) - 2)), .c 96 (.string (y.extract (((y.size:Int) - 2).toNat) y.size)), .a 97, .a 98, .k 99 (vp B9_78), .n, .k 100 (.pointer (some ⟨B9_78,2,none⟩)), .n] (fun ix σ β X=>match ix with | 0=>True | 1=>True | 2=>True | 3=>True | 4=>True | 5=>True | 6=>σ 97=vp (pb (β 97))∧X 5=eB (pb (β 97)) 202 #[.string (y.extract (((y.size:Int) - 2).toNat) y.size),vi 0, .bool false] | 7=>σ 98=vi ((numS (y.extract (((y.size:Int) - 2).toNat) y.size) 0 2:Int))∧X 6=eB (pb (β 97)) 202 #[.string (y.extract (((y.size:Int) - 2).toNat) y.size),vi 2, .bool false] | 8=>True | 9=>X 7=eB B9_78 89 #[.string (y.extract 0 (((y.size:Int) - 2).toNat)),vi ((j:Int)),vi (-1)] | 10=>True | 11=>X 8=eB B9_78 89 #[.string (y.extract 0 (((y.size:Int) - 2).toNat)),vi ((j:Int)),vi ((numS (y.extract (((y.size:Int) - 2).toNat) y.size) 0 2:Int))] | _=>True) [0,1,2,3,6,8] [2,5,6,7,9,11] [(91,0,11,101)] hst79 ?_ ?_ ?_)
    ·exact fun ix _ _ _ _ _ _ hs hb hx h=>match ix,h with
     | 6,h=>by dsimp only; rw [← hs 97 rfl,← hb 97 rfl,← hx 5 rfl]; exact h
     | 7,h=>by dsimp only; rw [← hs 98 rfl,← hb 97 rfl,← hx 6 rfl]; exact h
     | 9,h=>by dsimp only; rw [← hx 7 rfl]; exact h
     | 11,h=>by dsimp only; rw [← hx 8 rfl]; exact h
     | 0, _ | 1, _ | 2, _ | 3, _ | 4, _ | 5, _ | 8, _ | 10, _ | _+12, _=>trivial
    ·refine ⟨?_,?_,?_,?_,?_,?_,trivial⟩
     ·exact xs4 rfl id fun cx=>run_slice_hi (l:=((y.size:Int) - 2).toNat) rfl (by kernel_rfl) (cx.an 0) (cx.an 1) (by omega) (by omega)
     ·exact xs4 rfl id fun cx=>run_slice_lo (l:=((y.size:Int) - 2).toNat) rfl (by kernel_rfl) (cx.an 3) (cx.an 4) (by omega) (by omega)
     ·refine svA fun ρ β W X cx=>?_
      refine DoesU.call (run_callF (args:=#[.string (y.extract (((y.size:Int) - 2).toNat) y.size)]) rfl cx.sees rfl (by kernel_rfl) (map1 (cx.an 5))) ?_
      refine (oread_b (y.extract (((y.size:Int) - 2).toNat) y.size) _).mono ?_
      rintro e W1 ⟨B4,rfl,⟨hb4,hw4⟩,hx⟩
      refine ⟨_,rfl,post_call [eB B4 202 #[.string (y.extract (((y.size:Int) - 2).toNat) y.size),vi 0, .bool false]] rfl rfl hx (one_new ⟨hb4,eB_loc _ _ _,fun k hk=>by simp [eB] at hk; subst hk; exact ⟨hw4,hb4.lt⟩⟩) (List.pairwise_singleton _ _) (fun σ β' X' hs hb hv hN=>?_)⟩
      have hv1:=(hv 97 rfl).1; have hv2:=(hv 97 rfl).2
      exact ⟨hv1.trans (by rw [hv2]; rfl),(by rw [hv2]; exact (List.cons.inj hN).1)⟩
     ·refine svA fun ρ β W X cx=>?_
      refine DoesU.call (run_callF (args:=#[vp (pb (β 97)),vi 2]) rfl cx.sees rfl (by kernel_rfl) (map2 (dTn (cx.an 6)).1 (cx.co _))) ?_
      refine (num_ok _ (y.extract (((y.size:Int) - 2).toNat) y.size) 0 2 _ ⟨(cx.blk (dTn (cx.an 6)).2 rfl),by first | omega | (rw [ByteArray.size_extract]; omega),by first | omega | (rw [ByteArray.size_extract]; omega)⟩ (by omega) (by first | omega | (rw [ByteArray.size_extract]; omega))).mono ?_
      rintro e W1 ⟨rfl,hrd,hu⟩
      refine ⟨_,rfl,post_mut (dTn (cx.an 6)).2 rfl rfl hu hrd.1 (fun σ β' X' hs hb hv hx=>?_)⟩
      rw [hb 97 (by decide)]
      exact ⟨(hv 98 rfl).1.trans rfl,hx⟩
     ·refine svA fun ρ β W X cx=>?_
      exact dv_store (n:=1) rfl (cx.an 8) (cx.an 2) (by kernel_rfl) (by kernel_rfl) (by kernel_rfl) cx (cx.init 4 _ rfl) rfl (nle rfl) (by kernel_rfl) rfl rfl rfl (fun σ β' X' hs hb hx=>hx)
     ·refine svA fun ρ β W X cx=>?_
      exact dv_store (n:=1) rfl (cx.an 10) (dTn (cx.an 7)).1 (by kernel_rfl) (by kernel_rfl) (by kernel_rfl) cx (dTn (cx.an 9)) rfl (nle rfl) (by kernel_rfl) rfl rfl rfl (fun σ β' X' hs hb hx=>hx)
    intro σ β X W96 hD hst96 fr hfr
    obtain ⟨B97_96,hu_B97_96⟩:∃ z,pb (β 97)=z:=⟨_,rfl⟩
    simp only [exq 6 ((dTn (hD 7 lq)).2),exq 8 ((dTn (hD 11 lq))),hu_B97_96] at hst96
    simp only [ed 97 ((dTn (hD 6 lq)).1),ed 98 ((dTn (hD 7 lq)).1),hu_B97_96] at hfr
    clear hD hu_B97_96; subst hfr; clear σ β X
    refine then_normal ?_
    exact ⟨(y.extract 0 (((y.size:Int) - 2).toNat)),(numS (y.extract (((y.size:Int) - 2).toNat) y.size) 0 2:Int),by rw [parE,if_pos (by omega)]; dsimp only; rw [show ((y.size:Int) - 2).toNat=y.size - 2 by omega,numS_sub _ _ _ _ (by omega)]; rfl,by rw [badE,if_pos (by omega),ByteArray.size_extract]; show decide (y.size < 6)= _; rw [decide_eq_false (by omega),decide_eq_false (by omega)],by rw [ByteArray.size_extract]; omega,(by kernel_rfl),hst96.pk [0,1,2,3,5]⟩
   refine wp_skip (then_normal ?_)
   exact ⟨y,(-1),by rw [parE,if_neg (by omega)],by rw [badE,if_neg (by omega)],hyz,(by kernel_rfl),hst79.pk [0,1,2,3,4]⟩
  rintro a80 W80 ⟨x,kd,hpx,hbx,hxz,hj_,hst80⟩
  refine ovz hj_ fun u80_=>?_
  refine wp_seq (wp_seq (sqr (sqp [.k 101 (vp B9_78)] ?_)))
  refine sqld 4 hst80 ?_
  refine sqp [.k 103 (vi ((x.size:Int))), .k 104 (.bool (decide ((x.size:Int) < 4)))] ?_
  refine then_normal (wds (fun hs101 hs101p=>?_) fun hs101 hs101p=>?_)
  ·refine wp_seq (sqr (sqp [.k 105 (.agg #[vi 0,vi 0,vi 0, .string ByteArray.empty, .bool false, .slice none 0 0,vi 0])] ?_))
   refine sqst (n:=7) 1 #[vi 0,vi 0,vi 0, .string ByteArray.empty, .bool false, .slice none 0 0,vi 0] hst80 fun W103 hst103=>?_
   refine sqp [.k 3 (.bool false)] ?_
   refine then_normal (wp_ret (then_ret (blk_ret (then_ret (then_ret (blk_ret (then_ret ?_)))))))
   refine bpr (.tuple #[.agg #[vi 0,vi 0,vi 0, .string ByteArray.empty, .bool false, .slice none 0 0,vi 0], .bool false]) (results_2 Tryz.results96 (rpa (hst103.blk 1 rfl) 0 7) rpt) ?_
   exact kd_none (rk_badx (i:=j) (by omega) (by rw [hn]; omega) (by rw [hN_y]; exact hy0) (by rw [hN_lv,hN_y]; rw [hbx]; exact decide_eq_true (by omega))) hst103.ext
  refine wp_skip (then_normal ?_)
  have hx4:badE lv (j,y)=false:=by rw [hbx]; exact decide_eq_false (by omega)
  have hTl_:(T.flatMap enC).length=nn*3:=by rw [flatLen enC_len,hnn]
  refine sqr (sqp [.k 106 (.pointer (some ⟨B6_47,5,none⟩))] ?_)
  refine sqld 2 hst80 ?_
  refine sqlb 4 3 hst80 ?_
  refine sqli 89 3 1 (enC (x,j,kd)) hst80 (@fun ρ β W X cx=>by have fF108:ρ (.tmp 108)= .agg #[.string x,vi ((j:Int)),vi kd]:=(cx.ou 108); simp [go_sem,fF108,enC]) fun B109_108 W108 hst108=>?_
  refine sqap (nn+1) ((T++[(x,j,kd)]).flatMap enC) 3 hst108 Tryz.infoEnt (fun cx=>(At.of_ownN (cx.ri 5 rfl))) (h1:=by simp [enC,Value.oneCell']) (hxs:=en_snoc _ _) fun A110_109 c110_109 W109 hst109=>?_
  refine sqp [.k 111 (.pointer (some ⟨B6_47,5,none⟩))] ?_
  refine sqst (n:=1) 2 #[vi 0,vi (lv),vi ((numS h 2 2:Int) - 1), .string (h.extract 4 h.size), .bool ((numS h 1 1:Int)==1), .slice A110_109 (nn+1) c110_109,vi ((fr:Int))] hst109 fun W111 hst111=>?_
  refine blk_normal (then_normal (sqr (sqp [.m 67 7,sI 68 ((j:Int) - 1) (by omega), .m 7 68] ?_)))
  refine then_normal ?_
  rw [show ((j:Int) - 1)=((j - 1:Nat):Int) by omega]
  refine ⟨((j - 1))+1,by omega,?_⟩
  exact ⟨(j - 1),(nn+1),(T++[(x,j,kd)]),A110_109,c110_109,fr,by omega,by rw [Nat.sub_add_cancel (by omega),hps,desE_cons,hpx,← hT],by rw [Nat.sub_add_cancel (by omega),hps,List.any_cons,hx4,hbad]; rfl,by rw [List.length_append,hnn]; rfl,by omega,by rw [Nat.sub_add_cancel (by omega),hpf]; exact hfr,(fun e he=>by rcases List.mem_append.1 he with h_ | h_; exact hTz e h_; rw [List.mem_singleton] at h_; subst h_; exact hxz),rfl,(by kernel_rfl),hst111.pk [0,1,2,3]⟩
 refine wp_exit (then_exit (then_exit (blk_eq (then_normal (wp_seq ?_)))))
 have hj0:j=0:=by omega
 rw [hj0] at hT hbad hfr
 obtain ⟨M,hM⟩:∃ M,(rawE 1 l).map (parE lv)=M:=⟨_,rfl⟩
 have hTM:T.reverse=M:=by rw [hT,← hM,desE,List.reverse_reverse]; rfl
 have hMl:M.length=nn:=by rw [← hTM,List.length_reverse,hnn]
 have hMz:∀ e∈M,e.1.size≤1000000:=by rw [← hTM]; exact fun e he=>hTz e (List.mem_reverse.1 he)
 have hr19:nn≤19:=by rw [← hMl,← hM,List.length_map]; exact hl19
 refine sqr (sqp [.k 112 (.pointer (some ⟨B6_47,5,none⟩))] ?_)
 refine sqld 2 hst56 ?_
 refine sqc0 (.tuple #[]) (eO 89 3 (.slice EA nn ec) nn (M.flatMap enC)) 3 hst56 (by
   refine svA fun ρ β W X cx=>?_
   refine DoesU.call (run_callF (args:=#[.slice EA nn ec]) rfl cx.sees rfl (by kernel_rfl) (map1 (cx.ou 113))) ?_
   refine (krev_to hTM (krev_row _ nn _ T _ (cx.ri 3 rfl) hnn (by omega))).mono ?_
   rintro e W1 ⟨rfl,hs4⟩
   refine ⟨_,rfl,post_obj (E:=eO 89 3 (.slice EA nn ec) nn (T.flatMap enC)) [eO 89 3 (.slice EA nn ec) nn (M.flatMap enC)] (cx.init 3 _ rfl) rfl rfl hs4 (fun σ β' X' hs hb hv hN=>?_)⟩
   have hv1:=(hv 114 rfl).1; have hv2:=(hv 114 rfl).2
   exact ⟨hv1.trans rfl,(List.cons.inj hN).1⟩) fun W117 hst117=>?_
 refine then_normal (wp_seq (sqr (sqp [.k 115 (.pointer (some ⟨B6_47,5,none⟩))] ?_)))
 refine sqld 2 hst117 ?_
 refine sqc0 (.tuple #[]) (eO 89 3 (.slice EA nn ec) nn (((sortR M.reverse).reverse).flatMap enC)) 3 hst117 (by
   refine svA fun ρ β W X cx=>?_
   refine DoesU.call (run_callF (args:=#[.slice EA nn ec, .func (.func 123) #[] #[]]) rfl cx.sees rfl (by kernel_rfl) (map2 (cx.ou 116) (cx.sees.func _))) ?_
   refine (ksort_any _ nn _ M _ (cx.ri 3 rfl) hMl (by omega) hMz (by omega)).mono ?_
   rintro e W1 ⟨rfl,hs4⟩
   refine ⟨_,rfl,post_obj (E:=eO 89 3 (.slice EA nn ec) nn (M.flatMap enC)) [eO 89 3 (.slice EA nn ec) nn (((sortR M.reverse).reverse).flatMap enC)] (cx.init 3 _ rfl) rfl rfl hs4 (fun σ β' X' hs hb hv hN=>?_)⟩
   have hv1:=(hv 117 rfl).1; have hv2:=(hv 117 rfl).2
   exact ⟨hv1.trans rfl,(List.cons.inj hN).1⟩) fun W120 hst120=>?_
 refine then_normal (wp_seq (sqr ?_))
 refine sqlb 2 7 hst120 ?_
 refine sqst (n:=7) 1 #[vi 0,vi (lv),vi ((numS h 2 2:Int) - 1), .string (h.extract 4 h.size), .bool ((numS h 1 1:Int)==1), .slice EA nn ec,vi ((fr:Int))] hst120 fun W122 hst122=>?_
 refine sqp [.k 3 (.bool true)] ?_
 refine then_normal (wp_ret ?_)
 refine bpr (.tuple #[.agg #[vi 0,vi (lv),vi ((numS h 2 2:Int) - 1), .string (h.extract 4 h.size), .bool ((numS h 1 1:Int)==1), .slice EA nn ec,vi ((fr:Int))], .bool true]) (results_2 Tryz.results96 (rpa (hst122.blk 1 rfl) 0 7) rpt) ?_
 have hpk_:=hst122.pick [3] (by decide) rfl
 have hEl:((sortR M.reverse).reverse).length=nn:=by rw [List.length_reverse,sortR_len,List.length_reverse,hMl]
 rw [kind_good hs13,nodF_good hok (by rw [hN_lv]; exact hbad),hN_lv,show srt lv (rawE 1 l)=(sortR M.reverse).reverse by rw [srt,hM]]
 exact ⟨EA,ec,by rw [knV]; dsimp only; rw [hEl,hfr,← hn,nat_b1]; rfl,by dsimp only; rw [hEl]; exact hpk_⟩
theorem kread_n (k lsn:Int) (A:Option Addr) (c:Nat) (w:World):
  Calls Tryz.prog 96 #[.agg #[.int .i64 k, .int .i64 lsn, .slice A 0 c]] w (KdPost 0 (nodF k []) w):=by
 go_enter Tryz.func96,Tryz.ntmps96
 have hst0:=St.start w
 refine wp_seq (sqr ?_)
 refine sqbx #[vi k,vi lsn, .slice A 0 c] hst0 fun B1_1 W1 hst1=>?_
 refine sqal #[vi 0,vi 0,vi 0, .string ByteArray.empty, .bool false, .slice none 0 0,vi 0] hst1 fun B2_2 W2 hst2=>?_
 refine sqp [.k 3 (.bool false)] ?_
 refine then_normal (wp_seq (wp_seq (sqr (sqp [.k 11 (vp B1_1)] ?_))))
 refine sqld 0 hst2 ?_
 refine sqp [.k 13 (.bool (k != 2)), .m 14 13] ?_
 refine sqw' 14 [15,16,17,18] ?_ rfl (fun hq=>?_) ?_
 rotate_left
 ·refine sqp [.k 15 (.pointer (some ⟨B1_1,2,none⟩))] ?_
  refine sqld 0 hst2 ?_
  refine sqp [.k 17 (vi 0), .k 18 (.bool true)] ?_
  exact sqe
 refine sqwx ?_
 have hd13:((k != 2)||true)=true:=Bool.or_true _
 refine sqp [sPok 19 (k != 2) true true hd13] ?_
 refine then_normal (wct rfl (wp_seq (sqr (sqp [.k 20 (.agg #[vi 0,vi 0,vi 0, .string ByteArray.empty, .bool false, .slice none 0 0,vi 0])] ?_))))
 refine sqst (n:=7) 1 #[vi 0,vi 0,vi 0, .string ByteArray.empty, .bool false, .slice none 0 0,vi 0] hst2 fun W15 hst15=>?_
 refine sqp [.k 3 (.bool false)] ?_
 refine then_normal (wp_ret (then_ret ?_))
 refine bpr (.tuple #[.agg #[vi 0,vi 0,vi 0, .string ByteArray.empty, .bool false, .slice none 0 0,vi 0], .bool false]) (results_2 Tryz.results96 (rpa (hst15.blk 1 rfl) 0 7) rpt) ?_
 exact kd_none (nodF_bad (.inr (.inl rfl))) hst15.ext
theorem kread_any (k lsn:Int) (A:Option Addr) (c:Nat) (its:List ByteArray) (w:World) (hA:At w A (its.map Value.string)) (hl:its.length≤100000) (hsz:∀ s∈its,s.size≤1000000) (hl19:(rawE 1 its.tail).length≤19):
  Calls Tryz.prog 96 #[.agg #[.int .i64 k, .int .i64 lsn, .slice A its.length c]] w (KdPost 0 (nodF k its) w):=by
 cases its with
 | nil=>exact kread_n k lsn A c w
 | cons h l=>exact kread_c k lsn A c _ h l w hA rfl hl hsz hl19
end
section
open Go.RowKit
def iv:Value→Int
 | .int _ n=>n
 | _=>0
/-- a page as it lies in a row of pages -/
structure PgT where
 k:Int
 l:Int
 A:Option Addr
 c:Nat
 its:List ByteArray
def pt0:PgT:=⟨0,0,none,0,[]⟩
def ptC (p:PgT):List Value:=[.int .i64 p.k, .int .i64 p.l, .slice p.A p.its.length p.c]
theorem ptC_len (p:PgT):(ptC p).length=3:=rfl
def abT (p:PgT):PgS:=(p.k,p.l,p.its)
structure BkO (W:World) (b:Nat) (LA:Option Addr) (lc n:Nat) (Ps:List PgT):Prop where
 blk:Blk W b 100 #[.slice LA n lc]
 at_:At W LA (Ps.flatMap ptC)
 len:Ps.length=n
 its:∀ p∈Ps,At W p.A (p.its.map Value.string)
def BkAt (W:World) (b:Nat) (ps:List PgS):Prop:=∃ LA lc Ps,Ps.map abT=ps∧BkO W b LA lc ps.length Ps
theorem BkO.ext {W W':World} {b lc n:Nat} {LA:Option Addr} {Ps:List PgT} (h:BkO W b LA lc n Ps) (hx:Ext W W'):BkO W' b LA lc n Ps:=⟨h.blk.ext hx,h.at_.ext hx,h.len,fun p hp=>(h.its p hp).ext hx⟩
/-- sizes: of lists and strings; entries in a page -/
structure OkS (ps:List PgS):Prop where
 len:ps.length≤1000
 its:∀ p∈ps,p.2.2.length≤101
 sz:∀ p∈ps,∀ s∈p.2.2,s.size≤900000
def OkC (ps:List PgS):Prop:=∀ p∈ps,(rawE 1 p.2.2.tail).length≤19
/-- what Page answers -/
def pgV (ps:List PgS) (n:Int):PgS:=if 0≤n∧n < ps.length then ps.getD n.toNat pgs0 else pgs0
def pgB (ps:List PgS) (n:Int):Bool:=decide (0≤n∧n < ps.length)
def pgT (ps:List PgS) (n:Int) (A:Option Addr) (c:Nat):Value:= .tuple #[.agg #[.int .i64 (pgV ps n).1, .int .i64 (pgV ps n).2.1, .slice A (pgV ps n).2.2.length c], .bool (pgB ps n)]
def pgR (Ps:List PgT) (n:Int):PgT:=if 0≤n∧n < Ps.length then Ps.getD n.toNat pt0 else pt0
theorem getD_mem' {α:Type} {l:List α} {n:Nat} {d:α} (h:n < l.length):l[n]? =some (l.getD n d)∧l.getD n d∈l:=by
 rw [List.getD_eq_getElem?_getD,List.getElem?_eq_getElem h]
 exact ⟨rfl,List.getElem_mem _⟩
theorem getD_abT (Ps:List PgT) (n:Nat):(Ps.map abT).getD n pgs0=abT (Ps.getD n pt0):=by
 rw [List.getD_eq_getElem?_getD,List.getD_eq_getElem?_getD,List.getElem?_map]
 cases Ps[n]? <;>rfl
theorem pgV_ok {ps:List PgS} (h:OkS ps) (n:Int):(pgV ps n).2.2.length≤101∧∀ s∈(pgV ps n).2.2,s.size≤900000:=by
 unfold pgV
 split
 ·rename_i hn
  have h1:=(getD_mem' (l:=ps) (n:=n.toNat) (d:=pgs0) (by omega)).2
  exact ⟨h.its _ h1,h.sz _ h1⟩
 ·exact ⟨by decide,fun s hs=>nomatch hs⟩
theorem pgV_c {ps:List PgS} (h:OkC ps) (n:Int):(rawE 1 (pgV ps n).2.2.tail).length≤19:=by
 unfold pgV
 split
 ·rename_i hn
  exact h _ (getD_mem' (l:=ps) (n:=n.toNat) (d:=pgs0) (by omega)).2
 ·exact Nat.zero_le _
theorem ndAt_pg (ps:List PgS) (n:Int):ndAt ps n=if pgB ps n then nodF (pgV ps n).1 (pgV ps n).2.2 else none:=by
 unfold ndAt pgB pgV
 by_cases h:0≤n∧n < ps.length
 ·rw [if_pos h,if_pos h,if_pos (decide_eq_true h)]
 ·rw [if_neg h,if_neg (by simpa using h)]
/-- what a value behind api.Pages answers -/
structure PgsOk (w:World) (tt:TypeId) (tv:Value) (ps:List PgS):Prop where
 ex:∃ f rv,Meth Tryz.prog tt tv "Page" f rv∧callP Tryz.prog f=true∧∀ n,∃ A c,At w A ((pgV ps n).2.2.map Value.string)∧∀ W,Ext w W→Calls Tryz.prog f #[rv, .int .i64 n] W (Ret (pgT ps n A c) W)
theorem PgsOk.ext {w W:World} {tt:TypeId} {tv:Value} {ps:List PgS} (h:PgsOk w tt tv ps) (hx:Ext w W):PgsOk W tt tv ps:=by
 obtain ⟨f,rv,h1,h2,h3⟩:=h.ex
 exact ⟨⟨f,rv,h1,h2,fun n=>let ⟨A,c,h4,h5⟩:=h3 n; ⟨A,c,h4.ext hx,fun W' hx'=>h5 W' (hx.trans hx')⟩⟩⟩
theorem kd_no {f:FuncId} {args:Array Value} {w:World} {pg:Int} {o:Option NoD} (h:o=none) (hc:Calls Tryz.prog f args w (KdPost pg o w)):Calls Tryz.prog f args w (KdPost pg none w):=h ▸ hc
theorem kd_yes {f:FuncId} {args:Array Value} {w:World} {pg:Int} {o:Option NoD} {n:NoD} (h:o=some n) (hc:Calls Tryz.prog f args w (KdPost pg o w)):Calls Tryz.prog f args w (KdPost pg (some n) w):=h ▸ hc
theorem pg_none {Ps:List PgT} {x:Int} (h:x < 0∨Ps.length≤x):pgT (Ps.map abT) x (pgR Ps x).A (pgR Ps x).c= .tuple #[.agg #[.int .i64 0, .int .i64 0, .slice none 0 0], .bool false]:=by
 have e1:pgV (Ps.map abT) x=pgs0:=by rw [pgV,if_neg (by rw [List.length_map]; omega)]
 have e2:pgB (Ps.map abT) x=false:=decide_eq_false (by rw [List.length_map]; omega)
 have e3:pgR Ps x=pt0:=by rw [pgR,if_neg (by omega)]
 rw [pgT,e1,e2,e3]; rfl
theorem pg_at {Ps:List PgT} {N:Nat} {p:PgT} (h:N < Ps.length) (hp:Ps.getD N pt0=p):pgV (Ps.map abT) (N:Int)=abT p∧pgR Ps (N:Int)=p:=by
 refine ⟨?_,by rw [pgR,if_pos (by omega)]; exact hp⟩
 rw [pgV,if_pos (by rw [List.length_map]; omega)]
 show (Ps.map abT).getD N pgs0= _
 rw [getD_abT,hp]
theorem pg_some {Ps:List PgT} {N:Nat} {p:PgT} (h:N < Ps.length) (hp:Ps.getD N pt0=p):pgT (Ps.map abT) (N:Int) (pgR Ps (N:Int)).A (pgR Ps (N:Int)).c= .tuple #[.agg #[.int .i64 p.k, .int .i64 p.l, .slice p.A p.its.length p.c], .bool true]:=by
 have e2:pgB (Ps.map abT) (N:Int)=true:=decide_eq_true (by rw [List.length_map]; omega)
 obtain ⟨e1,e3⟩:=pg_at h hp
 rw [pgT,e1,e2,e3]; rfl
theorem rpage_o (b:Nat) (LA:Option Addr) (lc n:Nat) (Ps:List PgT) (ps:List PgS) (x:Int) (w:World) (hB:BkO w b LA lc n Ps) (hps:Ps.map abT=ps) (hl:n≤1000):
  Calls Tryz.prog 71 #[.pointer (some ⟨b,0,none⟩), .int .i64 x] w (Ret (pgT ps x (pgR Ps x).A (pgR Ps x).c) w):=by
 have hPl:=hB.len
 go_enter Tryz.func71,Tryz.ntmps71
 have hst0:=St.start w
 refine wp_seq (sqr (sqal #[vi 0,vi 0, .slice none 0 0] hst0 fun B4_1 W1 hst1=>?_))
 refine sqp [.k 5 (.bool false)] ?_
 refine then_normal (wp_seq (wp_seq (sqr (sqp [.m 6 1, .k 7 (.bool (decide (x < 0))), .m 8 7] ?_))))
 refine sqw' 8 [9,10,11,12,13,14,15] ?_ rfl (fun hq=>?_) ?_
 rotate_left
 ·refine sqp [.m 9 1, .m 10 0, .k 11 (vp b), .k 12 (vp b)] ?_
  refine sql (.slice LA n lc) hst1 (fun cx=>run_load1 rfl (by kernel_rfl) (cx.ou 12) ((Blk.ext hB.blk cx.upd.to_ext).cell 0)) ?_
  refine sqp [.k 14 (vi ((n:Int))), .k 15 (.bool (decide ((n:Int)≤x)))] ?_
  exact sqe
 refine sqwx ?_
 refine sqp [sPo 16 (decide (x < 0)) (decide ((n:Int)≤x))] ?_
 refine then_normal (wbs (fun hs14=>?_) fun hs14=>?_)
 ·have hs14p:=hs14
  simp only [zB] at hs14p
  refine wp_seq (sqr (sqp [.k 17 (.agg #[vi 0,vi 0, .slice none 0 0])] ?_))
  refine sqst (n:=3) 0 #[vi 0,vi 0, .slice none 0 0] hst1 fun W16 hst16=>?_
  refine sqp [.k 5 (.bool false)] ?_
  refine then_normal (wp_ret (then_ret ?_))
  refine bpr (.tuple #[.agg #[vi 0,vi 0, .slice none 0 0], .bool false]) (results_2 Tryz.results71 (rpa (hst16.blk 0 rfl) 0 3) rpt) ?_
  exact Ret.of (by rw [← hps,pg_none (Ps:=Ps) (x:=x) (by omega)]) hst16.ext
 have hs14p:=hs14
 simp only [zB] at hs14p
 obtain ⟨hs14p1,hs14p2⟩:=hs14p
 refine wp_skip (then_normal (wp_seq ?_))
 obtain ⟨N,rfl⟩:∃ N:Nat,x=(N:Int):=⟨x.toNat,by omega⟩
 obtain ⟨p,hN_p⟩:∃ z,Ps.getD N pt0=z:=⟨_,rfl⟩
 have hp:=getD_mem' (l:=Ps) (n:=N) (d:=pt0) (by omega)
 rw [hN_p] at hp
 refine sqr (sqp [.m 18 0, .k 19 (vp b), .k 20 (vp b)] ?_)
 refine sql (.slice LA n lc) hst1 (fun cx=>run_load1 rfl (by kernel_rfl) (cx.ou 20) ((Blk.ext hB.blk cx.upd.to_ext).cell 0)) ?_
 refine sqp [.m 22 1] ?_
 refine sql (.pointer (some ((ad LA).add (N*3)))) hst1 (fun cx=>run_indexSlM (e:=102) (m:=N) (sz:=3) rfl (by kernel_rfl) (by kernel_rfl) (cx.ou 21) (cx.ou 22) (by omega) (by omega) (hB.at_.ext cx.upd.to_ext) (flatPos (sz:=3) ptC_len (by decide) (by omega))) ?_
 refine sql (.agg #[vi p.k,vi p.l, .slice p.A p.its.length p.c]) hst1 (fun cx=>run_loadElt (f:=ptC) (m:=N) (sz:=3) (off:=0) (n:=3) rfl (by kernel_rfl) (by kernel_rfl) (cx.ou 23) rfl ptC_len (hB.at_.ext cx.upd.to_ext) hp.1 (fun k hk=>match k,hk with | 0, _=>rfl | 1, _=>rfl | 2, _=>rfl | k+3,hk=>absurd hk (by omega))) ?_
 refine sqst (n:=3) 0 #[vi p.k,vi p.l, .slice p.A p.its.length p.c] hst1 fun W25 hst25=>?_
 refine sqp [.k 5 (.bool true)] ?_
 refine then_normal (wp_ret ?_)
 refine bpr (.tuple #[.agg #[vi p.k,vi p.l, .slice p.A p.its.length p.c], .bool true]) (results_2 Tryz.results71 (rpa (hst25.blk 0 rfl) 0 3) rpt) ?_
 exact Ret.of (by rw [← hps,pg_some (by omega) hN_p]) hst25.ext
theorem rpage_any (b:Nat) (ps:List PgS) (x:Int) (w:World) (hB:BkAt w b ps) (hl:ps.length≤1000):∃ A c,At w A ((pgV ps x).2.2.map Value.string)∧∀ W,Ext w W→Calls Tryz.prog 71 #[.pointer (some ⟨b,0,none⟩), .int .i64 x] W (Ret (pgT ps x A c) W):=by
 obtain ⟨LA,lc,Ps,h1,h2⟩:=hB
 refine ⟨(pgR Ps x).A,(pgR Ps x).c,?_,fun W hW=>rpage_o b LA lc _ Ps ps x W (h2.ext hW) h1 hl⟩
 by_cases h:0≤x∧x < Ps.length
 ·obtain ⟨N,rfl⟩:∃ N:Nat,x=(N:Int):=⟨x.toNat,by omega⟩
  obtain ⟨e1,e3⟩:=pg_at (Ps:=Ps) (N:=N) (by omega) rfl
  rw [← h1,e1,e3]
  exact h2.its _ (getD_mem' (by omega)).2
 ·have e1:pgV ps x=pgs0:=by rw [← h1,pgV,if_neg (by rw [List.length_map]; exact h)]
  rw [e1]; exact At.nil _ _
theorem kat_any (tt:TypeId) (tv:Value) (ps:List PgS) (x:Int) (w:World) (hS:PgsOk w tt tv ps) (hok:OkS ps) (hoc:OkC ps):
  Calls Tryz.prog 50 #[.iface tt (tv), .int .i64 x] w (KdPost x (ndAt ps x) w):=by
 have hvk:=pgV_ok hok x
 have hvc:=pgV_c hoc x
 obtain ⟨f0,rv,hm0,hf0,hc1⟩:=hS.ex
 obtain ⟨A,c,hA,hc0⟩:=hc1 x
 go_enter Tryz.func50,Tryz.ntmps50
 have hst0:=St.start w
 refine wp_seq (sqr (sqal #[vi 0,vi 0,vi 0, .string ByteArray.empty, .bool false, .slice none 0 0,vi 0] hst0 fun B4_1 W1 hst1=>?_))
 refine sqp [.k 5 (.bool false)] ?_
 refine then_normal (wp_seq (sqr (sqp [.m 10 0, .m 11 1] ?_)))
 refine sqv (.tuple #[.agg #[vi ((pgV ps x).1),vi ((pgV ps x).2.1), .slice A ((pgV ps x).2.2.length) c], .bool (pgB ps x)]) hst1 (sv_call rfl rfl rfl rfl rfl (fun _ _ _ h=>h) fun ρ β W X cx=>⟨_, _,run_invoke (args:=#[vi x]) (args':=#[rv,vi x]) rfl rfl (cx.ou 10) hm0 hf0 (map1 (cx.ou 11)) rfl,hc0 _ cx.upd.to_ext⟩) fun W5 hst5=>?_
 refine sqp [.m 9 12, .k 13 (.agg #[vi ((pgV ps x).1),vi ((pgV ps x).2.1), .slice A ((pgV ps x).2.2.length) c]), .k 14 (.bool (pgB ps x))] ?_
 refine sqal #[vi 0,vi 0, .slice none 0 0] hst5 fun B6_9 W9 hst9=>?_
 refine sqst (n:=3) 1 #[vi ((pgV ps x).1),vi ((pgV ps x).2.1), .slice A ((pgV ps x).2.2.length) c] hst9 fun W10 hst10=>?_
 refine sqp [.m 7 14] ?_
 refine then_normal (wp_seq (wp_seq (sqr (sqp [.m 15 7, .k 16 (.bool (!(pgB ps x)))] ?_))))
 refine then_normal ?_
 rcases Bool.eq_false_or_eq_true (pgB ps x) with hs14 | hs14
 ·refine wp_cond_false (show Act.eval _ _= .bool false from (congrArg Value.bool (by rw [hs14]; rfl))) (wp_skip (then_normal (wp_seq ?_)))
  rcases hnd:nodF (pgV ps x).1 (pgV ps x).2.2 with _ | nd
  ·refine wp_region_Y [0,1,3,7,7,0,47,127] [[1],[],[],[],[],[],[2]] [[],[],[],[],[],[2],[3]] [[],[],[],[],[],[],[2]] [.c 19 (.agg #[vi ((pgV ps x).1),vi ((pgV ps x).2.1), .slice A ((pgV ps x).2.2.length) c]), .a 20, .a 18, .a 21, .c 22 (.bool false), .a 8, .n, .k 7 (.bool false)] (fun ix σ β X=>match ix with | 0=>True | 1=>σ 20= .tuple #[.agg #[vi (iv (tg (tg (β 20) 0) 0)),vi 0,vi 0, .string ((⟨#[]⟩:ByteArray)), .bool false, .slice none 0 0,vi 0], .bool false] | 2=>σ 18= .tuple #[.agg #[vi (iv (tg (tg (β 20) 0) 0)),vi 0,vi 0, .string ((⟨#[]⟩:ByteArray)), .bool false, .slice none 0 0,vi 0], .bool false] | 3=>σ 21= .agg #[vi (iv (tg (tg (β 20) 0) 0)),vi 0,vi 0, .string ((⟨#[]⟩:ByteArray)), .bool false, .slice none 0 0,vi 0] | 4=>True | 5=>σ 8=vp (pb (β 8))∧X 2=eB (pb (β 8)) 84 #[vi 0,vi 0,vi 0, .string ByteArray.empty, .bool false, .slice none 0 0,vi 0] | 6=>X 3=eB (pb (β 8)) 84 #[vi (iv (tg (tg (β 20) 0) 0)),vi 0,vi 0, .string ((⟨#[]⟩:ByteArray)), .bool false, .slice none 0 0,vi 0] | _=>True) [0,1,3] [0,1,2,3,4,5,6] [(7,7,1,8),(0,5,1,1),(9,2,1,10),(0,0,2,2),(0,3,2,2)] hst10 ?_ ?_ ?_
   ·exact fun ix _ _ _ _ _ _ hs hb hx h=>match ix,h with
    | 1,h=>by dsimp only; rw [← hs 20 rfl,← hb 20 rfl]; exact h
    | 2,h=>by dsimp only; rw [← hs 18 rfl,← hb 20 rfl]; exact h
    | 3,h=>by dsimp only; rw [← hs 21 rfl,← hb 20 rfl]; exact h
    | 5,h=>by dsimp only; rw [← hs 8 rfl,← hb 8 rfl,← hx 2 rfl]; exact h
    | 6,h=>by dsimp only; rw [← hb 8 rfl,← hb 20 rfl,← hx 3 rfl]; exact h
    | 0, _ | 4, _ | _+7, _=>trivial
   ·refine ⟨?_,?_,?_,?_,?_,?_,?_,trivial⟩
    ·exact xs4 rfl id fun cx=>run_loadB (n:=3) rfl (by kernel_rfl) (by kernel_rfl) (cx.ou 6) (cx.bi 1 rfl) (nle rfl) rfl
    ·refine svA fun ρ β W X cx=>?_
     refine DoesU.call (run_callF (args:=#[.agg #[vi ((pgV ps x).1),vi ((pgV ps x).2.1), .slice A ((pgV ps x).2.2.length) c]]) rfl cx.sees rfl (by kernel_rfl) (map1 (cx.an 0))) ?_
     refine (kd_no hnd (kread_any _ _ _ _ _ _ (hA.ext cx.upd.to_ext) (Nat.le_trans hvk.1 (by decide)) (fun s hs=>Nat.le_trans (hvk.2 s hs) (by decide)) hvc)).mono ?_
     rintro e W1 ⟨p4,rfl,hx⟩
     refine ⟨_,rfl,post_call [] rfl rfl hx (by simp) List.Pairwise.nil (fun σ β' X' hs hb hv hN=>?_)⟩
     have hv1:=(hv 20 rfl).1; have hv2:=(hv 20 rfl).2
     exact hv1.trans (by rw [hv2]; rfl)
    ·exact sv rfl rfl rfl rfl rfl _ (fun _ _ _ h=>h) (fun β β' h=>by rw [h 20 (by decide)]) fun ρ β W X cx=>run_move' rfl (dTn (cx.an 1))
    ·exact sv rfl rfl rfl rfl rfl _ (fun _ _ _ h=>h) (fun β β' h=>by rw [h 20 (by decide)]) fun ρ β W X cx=>run_extract' rfl (dTn (cx.an 2)) rfl
    ·exact xs4 rfl id fun cx=>run_extract' rfl (dTn (cx.an 2)) rfl
    ·refine svA fun ρ β W X cx=>?_
     exact dv_alloc (cs:=#[vi 0,vi 0,vi 0, .string ByteArray.empty, .bool false, .slice none 0 0,vi 0]) rfl (by kernel_rfl) rfl rfl (fun σ β' X' hs hb hv hx=>⟨hv,hx⟩)
    ·refine svA fun ρ β W X cx=>?_
     exact dv_store (n:=7) rfl (dTn (cx.an 5)).1 (dTn (cx.an 3)) (by kernel_rfl) (by kernel_rfl) (by kernel_rfl) cx (dTn (cx.an 5)).2 rfl (nle rfl) (by kernel_rfl) rfl rfl rfl (fun σ β' X' hs hb hx=>by rw [hb 8,hb 20]; exact hx)
   intro σ β X W15 hD hst15 fr hfr
   obtain ⟨pg20_15,hu_pg20_15⟩:∃ z,iv (tg (tg (β 20) 0) 0)=z:=⟨_,rfl⟩
   obtain ⟨B8_15,hu_B8_15⟩:∃ z,pb (β 8)=z:=⟨_,rfl⟩
   simp only [exq 3 ((dTn (hD 6 lq))),hu_pg20_15,hu_B8_15] at hst15
   simp only [ed 20 ((dTn (hD 1 lq))),ed 18 ((dTn (hD 2 lq))),ed 21 ((dTn (hD 3 lq))),ed 8 ((dTn (hD 5 lq)).1),hu_pg20_15,hu_B8_15] at hfr
   clear hD hu_pg20_15 hu_B8_15; subst hfr; clear σ β X
   refine then_normal (wp_seq (sqr (sqp [.m 23 1, .k 24 (vp B8_15)] ?_)))
   refine sqst (n:=1) 2 #[vi x,vi 0,vi 0, .string ((⟨#[]⟩:ByteArray)), .bool false, .slice none 0 0,vi 0] hst15 fun W18 hst18=>?_
   refine then_normal (wp_seq (sqr ?_))
   refine sqlb 2 7 hst18 ?_
   refine sqp [.k 26 (.bool false)] ?_
   refine sqst (n:=7) 0 #[vi x,vi 0,vi 0, .string ((⟨#[]⟩:ByteArray)), .bool false, .slice none 0 0,vi 0] hst18 fun W21 hst21=>?_
   refine sqp [.k 5 (.bool false)] ?_
   refine then_normal (wp_ret ?_)
   refine bpr (.tuple #[.agg #[vi x,vi 0,vi 0, .string ((⟨#[]⟩:ByteArray)), .bool false, .slice none 0 0,vi 0], .bool false]) (results_2 Tryz.results50 (rpa (hst21.blk 0 rfl) 0 7) rpt) ?_
   exact kd_none (by rw [ndAt_pg,hs14]; exact hnd) hst21.ext
  ·refine sqr ?_
   refine sqlb 1 3 hst10 ?_
   refine sqk2 (fun EA20_24 ec20_24=> .tuple #[.agg #[vi 0,vi nd.lv,vi nd.right, .string nd.high, .bool nd.dead, .slice EA20_24 nd.es.length ec20_24,vi ((nd.free:Int))], .bool true]) (fun EA20_24 ec20_24=>eO 89 3 (.slice EA20_24 nd.es.length ec20_24) nd.es.length (nd.es.flatMap enC)) hst10 (fun cx=>⟨_,(kd_yes hnd (kread_any _ _ _ _ _ _ (hA.ext cx.upd.to_ext) (Nat.le_trans hvk.1 (by decide)) (fun s hs=>Nat.le_trans (hvk.2 s hs) (by decide)) hvc)).mono (by rintro e W1 ⟨EA4,ec4,rfl,hs4⟩; exact ⟨_, _,rfl,hs4⟩),(map1 (cx.ou 19))⟩) fun EA20_24 ec20_24 W24 hst24=>?_
   refine sqp [.m 18 20, .k 21 (.agg #[vi 0,vi nd.lv,vi nd.right, .string nd.high, .bool nd.dead, .slice EA20_24 nd.es.length ec20_24,vi ((nd.free:Int))]), .k 22 (.bool true)] ?_
   refine sqal #[vi 0,vi 0,vi 0, .string ByteArray.empty, .bool false, .slice none 0 0,vi 0] hst24 fun B8_28 W28 hst28=>?_
   refine sqst (n:=7) 3 #[vi 0,vi nd.lv,vi nd.right, .string nd.high, .bool nd.dead, .slice EA20_24 nd.es.length ec20_24,vi ((nd.free:Int))] hst28 fun W29 hst29=>?_
   refine sqp [.k 7 (.bool true)] ?_
   refine then_normal (wp_seq (sqr (sqp [.m 23 1, .k 24 (vp B8_28)] ?_)))
   refine sqst (n:=1) 3 #[vi x,vi nd.lv,vi nd.right, .string nd.high, .bool nd.dead, .slice EA20_24 nd.es.length ec20_24,vi ((nd.free:Int))] hst29 fun W33 hst33=>?_
   refine then_normal (wp_seq (sqr ?_))
   refine sqlb 3 7 hst33 ?_
   refine sqp [.k 26 (.bool true)] ?_
   refine sqst (n:=7) 0 #[vi x,vi nd.lv,vi nd.right, .string nd.high, .bool nd.dead, .slice EA20_24 nd.es.length ec20_24,vi ((nd.free:Int))] hst33 fun W36 hst36=>?_
   refine sqp [.k 5 (.bool true)] ?_
   refine then_normal (wp_ret ?_)
   refine bpr (.tuple #[.agg #[vi x,vi nd.lv,vi nd.right, .string nd.high, .bool nd.dead, .slice EA20_24 nd.es.length ec20_24,vi ((nd.free:Int))], .bool true]) (results_2 Tryz.results50 (rpa (hst36.blk 0 rfl) 0 7) rpt) ?_
   rw [ndAt_pg,hs14,if_pos rfl,hnd]
   exact ⟨_, _,rfl,hst36.pick [2] (by decide) rfl⟩
 refine wp_cond_true (show Act.eval _ _= .bool true from (congrArg Value.bool (by rw [hs14]; rfl))) (wp_seq (sqr (sqp [.k 17 (.agg #[vi 0,vi 0,vi 0, .string ByteArray.empty, .bool false, .slice none 0 0,vi 0])] ?_)))
 refine sqst (n:=7) 0 #[vi 0,vi 0,vi 0, .string ByteArray.empty, .bool false, .slice none 0 0,vi 0] hst10 fun W39 hst39=>?_
 refine sqp [.k 5 (.bool false)] ?_
 refine then_normal (wp_ret (then_ret ?_))
 refine bpr (.tuple #[.agg #[vi 0,vi 0,vi 0, .string ByteArray.empty, .bool false, .slice none 0 0,vi 0], .bool false]) (results_2 Tryz.results50 (rpa (hst39.blk 0 rfl) 0 7) rpt) ?_
 exact kd_none (by rw [ndAt_pg,hs14]; rfl) hst39.ext
end
end Go.Proofs.YtjlcoglmjldjbaaGreat

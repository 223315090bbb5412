/- StoreRefusesRow: part 4 of the proof. -/
import Derived.Test.YtcdjaepgahbhfaaGreatZ3
import Derived.RangeFuncBox
import Derived.RangeFuncBound
import Derived.RangeFuncCalls
import Derived.RangeFuncLeaves
import Derived.TacticsIn
import Derived.OrdersIn
import Derived.LoopNIn
set_option linter.unusedVariables false
set_option linter.unusedSimpArgs false
set_option maxRecDepth 100000
set_option maxHeartbeats 16000000
namespace Go.Proofs.YtcdjaepgahbhfaaGreat
section
open Go.RowKit
/-- inside a round -/
abbrev Rnd (l:Nat):Fence:=Fence.wide.inRound l
def noDefer (ops:Array Oper):Bool:=ops.all fun o=>match o.op with | .defer _=>false | _=>true
theorem noDefer_at {ops:Array Oper} (h:noDefer ops=true) {i:Nat} {o:Oper} (ho:ops[i]? =some o):∀ c,o.op≠ .defer c:=by
 intro c hc
 obtain ⟨hi,he⟩:=Array.getElem?_eq_some_iff.1 ho
 have h2:=(Array.all_eq_true.1 h) i hi
 rw [he,hc] at h2
 cases h2
theorem opIn {P:Program} {l n:Nat} {o:Oper} {a:Act} {w:World} {K:Act→World→Prop} {Q:Exit→Act→World→Prop} (hd:∀ c,o.op≠ .defer c) (h:o.wp P a w K Q):o.wpIn (Rnd l) n P a w K Q:=by
 unfold Oper.wp at h
 refine ⟨fun _ _=>trivial,?_⟩
 show o.uponIn (Rnd l) n P a K Q ((o.semAt (some l) a.eval).run P w)
 rw [Oper.semAt_eq (some l) a.eval o hd]
 generalize (execOp a.eval o).run P w=r at h ⊢
 cases r with
 | ok x w'=>
   cases x<;>simp only [Oper.upon,Oper.uponIn] at h ⊢<;>first
    | exact h
    | exact ⟨fun hh=>by simp [Rnd,Fence.wide] at hh,CallsIn.inRound l (callsIn_wide.2 h)⟩
    | exact ⟨fun hh=>by simp [Rnd,Fence.wide] at hh,fun c cs _=>let ⟨v,w',r,s⟩:=h c cs; ⟨v,w',r,stepsIn_wide.2 s⟩⟩
 | halt x w'=>cases x<;>simp only [Oper.upon,Oper.uponIn] at h ⊢<;>exact h
section
variable {P:Program} {l n:Nat} {ops:Array Oper} {Q:Exit→Act→World→Prop}
theorem wpOpIn_of (hnd:noDefer ops=true) (hLo:¬ LetsOut Q) {i:Nat} {K:Act→World→Prop} {a:Act} {w:World} (h:wpOp P ops Q i K a w):wpOpIn (Rnd l) n P ops Q i K a w:=by
 unfold wpOp at h
 unfold wpOpIn
 cases ho:ops[i]? with
 | none=>simp only [ho] at h ⊢; exact h
 | some o=>
   simp only [ho] at h ⊢
   split
   ·rename_i hw
    rw [if_pos hw] at h
    exact opIn (noDefer_at hnd ho) (h.resolve_right fun hh=>hLo hh.2)
   ·rename_i hw
    rw [if_neg hw] at h
    exact ⟨fun _ _=>trivial,h⟩
theorem wpAnyIn_of (hnd:noDefer ops=true) (hLo:¬ LetsOut Q):∀ (m:Nat) (listed:Array Bool) (a:Act) (w:World),wpAny P .any ops Q m listed a w→wpAnyIn (Rnd l) n P .any ops Q m listed a w
 | 0,listed,a,w,h=>h
 | m+1,listed,a,w,h=>⟨h.1,fun i hi=>wpOpIn_mono (fun a w hh=>wpAnyIn_of hnd hLo m _ a w hh) (wpOpIn_of hnd hLo (h.2 i hi))⟩
theorem wpOpsIn_of (hnd:noDefer ops=true) (hLo:¬ LetsOut Q):∀ (is:List Nat) (a:Act) (w:World),wpOps P ops Q is a w→wpOpsIn (Rnd l) n P ops Q is a w
 | [],a,w,h=>h
 | i::is,a,w,h=>by
   rw [wpOps_cons] at h
   rw [wpOpsIn_cons]
   exact wpOpIn_mono (fun a w hh=>wpOpsIn_of hnd hLo is a w hh) (wpOpIn_of hnd hLo h)
end
section
variable {P:Program} {ops:Array Oper} {L:List Nat} {w0:World} {bor:List Nat} {X0:List Ent} {us cr kl:List (List Nat)} {Q:Exit→Act→World→Prop} {l n:Nat}
/-- THE RULE, inside a round -/
theorem wpIn_region_W {id:Nat} {dr:Bool} {w:World} {t0:Array Value} {d0:List Deferred} (hnd:noDefer ops=true) (hm:P.follows .mixedOrders=true) (L:List Nat) (us cr kl:List (List Nat)) (D:Nat→(Tmp→Value)→(Tmp→Value)→(Nat→Ent)→Prop) (fin:List Nat)
  (hL:okAnc ops L=true) (hd:dstOk ops t0.size=true) (hflow:flowV ops.size X0.length L us cr kl=true) (hfin:finV ops.size X0.length cr kl fin=true)
  (hloc:LocalV ops X0.length L cr D) (hst:St w0 bor X0 w) (hstep:AllTo (StepV P ops L ⟨t0,d0⟩ w0 bor X0 us cr kl D) ops.size)
  (hrest:∀ (σ β:Tmp→Value) (X:Nat→Ent) (w':World),(∀ i,i < ops.size→D i σ β X)→(∀ q e,X0[q]? =some e→X q=e)→St w0 bor (fin.map X) w'→
   ∀ fr,fr=putAll (dstsU ops) ((dstsU ops).map σ) t0→Q .normal ⟨fr,d0⟩ w'):(Code.region id ops dr).wpIn (Rnd l) n P Q ⟨t0,d0⟩ w:=by
 have hs:∀ i,i < ops.size→StepV P ops L ⟨t0,d0⟩ w0 bor X0 us cr kl D i:=fun i hi=>hstep.get i hi
 obtain ⟨Q',hQ'⟩:∃ Q':Exit→Act→World→Prop,Q'=fun e a w=>e= .normal∧Q .normal a w:=⟨_,rfl⟩
 have hr:∀ (a:Act) (w:World) (listed:Array Bool),(∀ i,i < ops.size→listed.getD i false=true)→VInv ops L ⟨t0,d0⟩ w0 bor X0 cr kl D listed a w→Q' .normal a w:=fun a w listed hall inv=>by
  rw [hQ']; exact ⟨rfl,vinv_end (a0:=⟨t0,d0⟩) hd hfin (fun σ β X w' h1 h2 h3=>hrest σ β X w' h1 h2 h3 _ rfl) hall inv⟩
 have hLo:¬ LetsOut Q':=by rw [hQ']; rintro ⟨a,w,h, _⟩; cases h
 refine wpIn_mono (Q:=Q') ?_ fun e a w h=>by rw [hQ'] at h; obtain ⟨rfl,h⟩:=h; exact h
 cases dr with
 | true=>
   refine wpIn_region_any hm (wpAnyIn_of hnd hLo _ _ _ _ (wpAny_V hL hd hflow hloc hs hr ops.size (Array.replicate ops.size false) ⟨t0,d0⟩ w.drew ?_ (vinv_start hst.drew)))
   rw [List.countP_eq_length.2]
   ·simp
   ·intro i _
    rw [getD_replicate_false]
    rfl
 | false=>
   refine wpIn_region ?_
   rw [List.range_eq_range']
   exact wpOpsIn_of hnd hLo _ _ _ (wpOps_V hL hd hflow hloc hs hr ops.size 0 (Array.replicate ops.size false) ⟨t0,d0⟩ w (by omega) (fun j=>by rw [getD_replicate_false]; simp) (vinv_start hst))
end
theorem wpIn_region_T {l n:Nat} {P:Program} {ops:Array Oper} {Q:Exit→Act→World→Prop} {w0:World} {bor:List Nat} {X0:List Ent} {id:Nat} {dr:Bool} {w:World} {t0:List Value} {d0:List Deferred} (L:List Nat) (us cr kl:List (List Nat)) (tb:List TE)
  (A:Nat→(Tmp→Value)→(Tmp→Value)→(Nat→Ent)→Prop) (fin sp:List Nat) (rs:List (Nat×Nat×Nat×Nat)) (hst:St w0 bor X0 w) (hloc:LocalV ops X0.length L cr A)
  (hstep:inAll (StepV P ops L ⟨t0.toArray,d0⟩ w0 bor X0 us cr kl (fun ix σ β X=>dT tb ix σ (A ix σ β X))) sp)
  (hrest:∀ (σ β:Tmp→Value) (X:Nat→Ent) (w':World),(∀ i,i < ops.size→dT tb i σ (A i σ β X))→(∀ q e,X0[q]? =some e→X q=e)→St w0 bor (fin.map X) w'→∀ fr,fr=mgT tb σ rs t0→Q .normal ⟨fr.toArray,d0⟩ w')
  (ht:goTs P ops L t0.toArray tb 0 tb=tb.map wantT:=by kernel_rfl) (hl:lineOk ops L cr kl sp 0 tb=true:=by kernel_rfl) (hn:tb.length=ops.size:=by kernel_rfl)
  (hfr:∀ σ,putAll (dstsU ops) ((idxU ops).map (valT ops tb σ)) t0.toArray=(mgT tb σ rs t0).toArray:=by intro σ; kernel_rfl)
  (hm:P.follows .mixedOrders=true:=by kernel_rfl) (hnd:noDefer ops=true:=by kernel_rfl) (hL:okAnc ops L=true:=by kernel_rfl) (hd:dstOk ops t0.toArray.size=true:=by kernel_rfl) (hflow:flowV ops.size X0.length L us cr kl=true:=by kernel_rfl) (hfin:finV ops.size X0.length cr kl fin=true:=by kernel_rfl):
  (Code.region id ops dr).wpIn (Rnd l) n P Q ⟨t0.toArray,d0⟩ w:=by
 refine wpIn_region_W hnd hm L us cr kl (fun ix σ β X=>dT tb ix σ (A ix σ β X)) fin hL hd hflow hfin (fun i σ σ' β β' X X' h1 h2 h3 h=>?_) hst (AllTo.of fun i hi=>?_) fun σ β X w' hD hX hst' fr hfr'=>?_
 ·dsimp only at h ⊢
  rw [dT_iff] at h ⊢
  cases hdd:(tb.getD i .n).dst with
  | some d=>
    rw [hdd] at h
    dsimp only at h ⊢
    have hi:i < tb.length:=getD_lt (by rw [hdd]; simp)
    have:=(tOk_dst ht hi hdd).1
    rw [← h1 d (by unfold seesV; simp [this])]
    exact h
  | none=>
    rw [hdd] at h
    exact hloc i σ σ' β β' X X' h1 h2 h3 h
 ·have hi':i < tb.length:=by rw [hn]; exact hi
  have h:=lineOk_get (i:=i) hl hi'
  rw [Nat.zero_add] at h
  rcases h with ⟨_,h⟩ | ⟨h, _⟩
  ·exact inAll_get hstep i h
  ·exact pure_step hd ht hl hi' h
 ·subst hfr'
  have e:(dstsU ops).map σ=(idxU ops).map (valT ops tb σ):=by
   unfold dstsU
   rw [List.map_map]
   refine List.map_congr_left fun i hi=>?_
   have him:=List.mem_filter.1 hi
   have hlt:i < ops.size:=List.mem_range.1 him.1
   have h:=hD i hlt
   rw [dT_iff] at h
   unfold valT
   cases hdd:(tb.getD i .n).dst with
   | none=>rfl
   | some d=>
     rw [hdd] at h
     dsimp only at h ⊢
     have:=(tOk_dst ht (i:=i) (by rw [hn]; exact hlt) hdd).1
     simp only [Function.comp,this,Option.getD_some]
     exact h
  rw [e,hfr σ]
  exact hrest σ β X w' hD hX hst' _ rfl
theorem wpIn_region_Y {l n:Nat} {P:Program} {ops:Array Oper} {Q:Exit→Act→World→Prop} {w0:World} {bor:List Nat} {X0:List Ent} {id:Nat} {dr:Bool} {w:World} {t0:List Value} {t1:(Tmp→Value)→List Value} {E:(Nat→Ent)→List Ent} {d0:List Deferred} (L:List Nat) (us cr kl:List (List Nat)) (tb:List TE)
  (A:Nat→(Tmp→Value)→(Tmp→Value)→(Nat→Ent)→Prop) (fin sp:List Nat) (rs:List (Nat×Nat×Nat×Nat)) (hst:St w0 bor X0 w) (hloc:LocalV ops X0.length L cr A)
  (hstep:inAll (StepV P ops L ⟨t0.toArray,d0⟩ w0 bor X0 us cr kl (fun ix σ β X=>dT tb ix σ (A ix σ β X))) sp)
  (hrest:∀ (σ β:Tmp→Value) (X:Nat→Ent) (w':World),(∀ i,i < ops.size→dT tb i σ (A i σ β X))→St w0 bor (E X) w'→∀ fr,fr=t1 σ→Q .normal ⟨fr.toArray,d0⟩ w')
  (h1:∀ σ,mgT tb σ rs t0=t1 σ:=by intro σ; dsimp only [mgT,vals,List.take,List.drop,List.cons_append,List.nil_append]) (hE:∀ X,finE X0 X fin=E X:=by intro X; dsimp only [finE,entQ])
  (ht:goTs P ops L t0.toArray tb 0 tb=tb.map wantT:=by kernel_rfl) (hl:lineOk ops L cr kl sp 0 tb=true:=by kernel_rfl) (hn:tb.length=ops.size:=by kernel_rfl)
  (hfr:∀ σ,putAll (dstsU ops) ((idxU ops).map (valT ops tb σ)) t0.toArray=(mgT tb σ rs t0).toArray:=by intro σ; kernel_rfl)
  (hm:P.follows .mixedOrders=true:=by kernel_rfl) (hnd:noDefer ops=true:=by kernel_rfl) (hL:okAnc ops L=true:=by kernel_rfl) (hd:dstOk ops t0.toArray.size=true:=by kernel_rfl) (hflow:flowV ops.size X0.length L us cr kl=true:=by kernel_rfl) (hfin:finV ops.size X0.length cr kl fin=true:=by kernel_rfl):
  (Code.region id ops dr).wpIn (Rnd l) n P Q ⟨t0.toArray,d0⟩ w:=
 wpIn_region_T L us cr kl tb A fin sp rs hst hloc hstep (fun σ β X w' hD hX hs fr hf=>hrest σ β X w' hD (by rw [← hE X,finE_eq hX]; exact hs) fr (hf.trans (h1 σ))) ht hl hn hfr hm hnd hL hd hflow hfin
abbrev fps (L:List Ent):List Nat:=L.flatMap (·.fp)
theorem fps_mem {L:List Ent} {k:Nat}:k∈fps L↔∃ e∈L,k∈e.fp:=by simp [fps]
theorem St.fps_own {w0 w:World} {bor:List Nat} {L:List Ent} (h:St w0 bor L w) {k:Nat} (hk:k∈fps L):(k∈bor∨w0.heap.size≤k)∧k < w.heap.size:=by
 obtain ⟨e,he,hk⟩:=fps_mem.1 hk
 exact (h.ok e he).own k hk
/-- the block for the rounds' deferred calls -/
def eDfr (D:Nat):Ent:=⟨[D],fun W=>W.heap[D]? =some (.deferred (some []))⟩
theorem eD_loc (D:Nat):(eDfr D).loc:=fun W W' h hb=>(h D (by simp [eDfr])).trans hb
/-- at the function's return the block is shut -/
theorem St.takeD {w0 W:World} {bor:List Nat} {L:List Ent} {D:Nat} (h:St w0 bor (L++[eDfr D]) W):St w0 bor L (W.putObj D (.deferred none)):=by
 have hd:=h.ok (eDfr D) (by simp)
 have hown:=hd.own D (by simp [eDfr])
 have hap:∀ e∈L,D∉e.fp:=fun e he hk=>by
  have:=(List.pairwise_append.1 h.apart).2.2 e he (eDfr D) (by simp)
  exact this D hk (by simp [eDfr])
 have hg:=grownBy_putObj' W D (.deferred none)
 refine ⟨⟨hg.os.trans h.upd.os,hg.tape.trans h.upd.tape,hg.output.trans h.upd.output,Nat.le_trans h.upd.size hg.size,fun k hk hb=>?_⟩,fun e he=>?_,(List.pairwise_append.1 h.apart).1⟩
 ·rw [hg.block k (Nat.lt_of_lt_of_le hk h.upd.size) fun e'=>?_]
  ·exact h.upd.block k hk hb
  ·cases e'
   rcases hown.1 with h1 | h1
   ·exact hb h1
   ·omega
 ·have h2:=h.ok e (by simp [he])
  refine ⟨h2.loc W _ (fun k hk=>hg.block k (h2.own k hk).2 fun e'=>?_) h2.holds,h2.loc,fun k hk=>⟨(h2.own k hk).1,Nat.lt_of_lt_of_le (h2.own k hk).2 hg.size⟩⟩
  cases e'
  exact hap e he hk
theorem bpm_take {P:Program} {n:Nat} {fn:Func} {R:Ending→World→Prop} {t0:Array Value} {w0 w:World} {bor:List Nat} {L:List Ent} {D:Nat} (hst:St w0 bor (L++[eDfr D]) w)
  (h:∀ W,St w0 bor L W→∃ v,(results fn t0).run P W= .ok v W∧R (.returned v) W):bodyPostM Fence.wide n P fn R .ret ⟨t0,[{target:= .collected D,args:=#[]}]⟩ w:=by
 have hK:w.heap[D]? =some (.deferred (some [])):=(hst.ok (eDfr D) (by simp)).holds
 show LeavesInM Fence.wide n P fn t0 R [{target:= .collected D,args:=#[]}] .returning w
 exact ⟨by simp, .inl ⟨_, _,rfl,run_takeDeferred hK,h _ hst.takeD⟩⟩
theorem rnd_assign {P:Program} {l n id d s:Nat} {o:Oper} {K:Act→World→Prop} {a a1:Act} {W:World} (ho:o.op= .assign (.tmp s)) (hg:o.guard=none) (hd:o.dst=some d) (h:K a1 W) (he:a.put (some d) (a.eval (.tmp s))=a1):
  (Code.region id #[o] false).wpIn (Rnd l) n P (Exit.then K (fun _ _ _=>False)) a W:=by
 refine wpIn_region ?_
 refine wpOpsIn_of (by simp [noDefer,ho]) (by rintro ⟨a,w,h⟩; exact h) _ _ _ ?_
 show wpOps P _ _ [0] a W
 rw [wpOps_cons]
 refine wpOp_step (show (#[o]:Array Oper)[0]? =some o from rfl) fun K' hK'=>?_
 rw [if_pos (show Region.wanted o _=true by unfold Region.wanted; rw [hg])]
 refine DoesU.wp (post:=fun v w'=>v=a.eval (.tmp s)∧w'=W) (DoesU.value (run_assign' ho rfl) ⟨rfl,rfl⟩) fun v w' hv=>?_
 obtain ⟨rfl,rfl⟩:=hv
 refine hK' _ _ ?_
 rw [hd,he]
 exact h
end
section
open Go.RowKit
/-- the one who ranges, as an entry of the iterator's: his blocks, what he has been given -/
def eJ {α:Type} (J:List Nat→List α→World→Prop) (C:List Nat) (pre:List α):Ent:=⟨C,J C pre⟩
theorem Upd.putObj {S:List Nat} {A B:World} {l:Nat} {o:Obj} (h:Upd S A B) (hl:l∈S∨A.heap.size≤l):Upd S A (B.putObj l o):=by
 have hg:=grownBy_putObj' B l o
 refine ⟨hg.os.trans h.os,hg.tape.trans h.tape,hg.output.trans h.output,Nat.le_trans h.size hg.size,fun k hk hn=>?_⟩
 rw [hg.block k (Nat.lt_of_lt_of_le hk h.size) fun e=>?_]
 ·exact h.block k hk hn
 ·cases e
  rcases hl with h1 | h1
  ·exact hn h1
  ·omega
theorem putObj_size (W:World) (l:Nat) (o:Obj):(W.putObj l o).heap.size=W.heap.size:=by simp
end
section
open Go.RowKit
/-- no entry -/
def e00:Ent:=⟨[],fun _=>True⟩
theorem St.e00 (W:World):St W [] [e00] W:=⟨Upd.refl _ _,fun x hx=>by rw [List.mem_singleton] at hx; subst hx; exact ⟨trivial,fun _ _ _ _=>trivial,fun k hk=>by cases hk⟩,List.pairwise_singleton _ _⟩
/-- the iterator's contract: Rd is what it may read, Px what it gives -/
def SeqD {α:Type} (P:Program) (gf:Nat) (lb:Array Value) (encs:α→Array Value) (Px:List α→α→Prop) (Rd:List α→World→Prop) (Z:List α→Prop):Prop:=
 ∀ (l:Nat) (J:List Nat→List α→World→Prop) (W:World) (C0:List Nat),(∀ C pre,(eJ J C pre).loc)→(∀ k∈C0,k < W.heap.size)→J C0 [] W→(∀ C pre A,J C pre A→Rd pre A)→
   (∀ C pre x A,J C pre A→(∀ k∈C,k < A.heap.size)→Px pre x→YieldAt Fence.wide 1 P l (encs x) A fun e B=>e= .returned (.bool true)∧∃ C',St A C [eJ J C' (pre++[x])] B)→
   CallsIn Fence.wide 2 P gf (#[.func (.yield l) #[] #[]]++lb) W fun e B=>(∃ v,e= .returned v)∧∃ C xs,St W C0 [eJ J C xs] B∧Z xs
theorem wp_rangeSD {α:Type} {P:Program} {g:Operand} {ps:Array Tmp} {assign body:Code} {Q:Exit→Act→World→Prop} {t0:Array Value} {w0 w:World} {bor:List Nat} {L0:List Ent} (hst:St w0 bor L0 w)
  {gf:Nat} {lb:Array Value} (hg:Act.eval ⟨t0,[]⟩ g= .func (.func gf) #[] lb) (eg:∀ args w,(callFunc gf args).run P w= .ok (.enter gf args) w)
  {encs:α→Array Value} {Px:List α→α→Prop} {Rd:List α→World→Prop} {Z:List α→Prop} (hseq:SeqD P gf lb encs Px Rd Z) (hps:∀ x,(encs x).size=ps.size) (I:List α→List Ent→Prop) (h0:I [] L0) (hRd:∀ pre L A,I pre L→(∀ e∈L,e.holds A)→Rd pre A) (Ax:α→Act→Ent→Prop) (t1:α→List Value) (ht1:∀ x,(ps.zip (encs x)).foldl (fun t (p,v)=>t.setIfInBounds p v) t0=(t1 x).toArray)
  (hassign:∀ (l:Nat) (x:α) (W:World) (K:Act→World→Prop),(∀ a' W' E,Ax x a' E→St W [] [E] W'→K a' W')→assign.wpIn (Rnd l) 1 P (Exit.then K (fun _ _ _=>False)) ⟨(t1 x).toArray,[]⟩ W)
  (hbody:∀ (l:Nat) (pre:List α) (x:α) (W:World) (L:List Ent) (a':Act) (E:Ent),I pre L→Px pre x→Ax x a' E→St W (fps (L++[E])) (L++[E]) W→body.wpIn (Rnd l) 1 P (fun e _ W'=>e= .normal∧∃ L',I (pre++[x]) L'∧St W (fps (L++[E])) L' W') a' W)
  (hdone:∀ (D:Nat) (W:World) (L:List Ent) (xs:List α),I xs L→Z xs→St w0 bor (L++[eDfr D]) W→Q .normal ⟨t0,[{target:= .collected D,args:=#[]}]⟩ W):
  (Code.rangeFunc g ps assign body).wp P Q ⟨t0,[]⟩ w:=by
 refine (wpIn_wide (n:=3)).1 (wpIn_rangeFunc fun fn hfn=>?_)
 obtain ⟨D,hD⟩:∃ D,w.heap.size=D:=⟨_,rfl⟩
 obtain ⟨rec,hrec⟩:∃ rec:LoopState→Loop,rec=fun s=>{state:=s,pending:=none,fn,tmps:=t0,params:=ps,assign,body,defers:=D}:=⟨_,rfl⟩
 obtain ⟨W1,hW1⟩:∃ W1,(w.alloc (.deferred (some []))).alloc (.loop (rec .ready))=W1:=⟨_,rfl⟩
 have hL1:W1.heap[D+1]? =some (.loop (rec .ready)):=by
  rw [← hW1,← hD]; have:=World.alloc_heap_new (w.alloc (.deferred (some []))) (.loop (rec .ready)); rwa [World.size_alloc] at this
 have hK1:W1.heap[D]? =some (.deferred (some [])):=by
  rw [← hW1,← hD]; exact (Below.heap_alloc _ _ _ (by simp)).trans (World.alloc_heap_new w _)
 have hx1:Ext w W1:=by rw [← hW1]; exact ((Below.refl _ w).alloc (Nat.le_refl _) _).alloc (by simp) _
 have hs1:W1.heap.size=D+2:=by rw [← hW1,World.size_alloc,World.size_alloc,hD]
 have h0w:=hst.upd.size
 obtain ⟨J,hJ⟩:∃ J:List Nat→List α→World→Prop,J=fun C pre A=>∃ L,I pre L∧C=(D+1)::D::fps L∧(∀ e∈L,e.holds A∧e.loc)∧L.Pairwise Ent.apart∧(∀ k∈fps L,k≠D+1∧k≠D)∧A.heap[D+1]? =some (.loop (rec .ready))∧A.heap[D]? =some (.deferred (some [])):=⟨_,rfl⟩
 have hloc:∀ C pre,(eJ J C pre).loc:=fun C pre A B hk h=>by
  subst hJ
  obtain ⟨L,h1,rfl,h2,h3,h4,h5,h6⟩:=h
  refine ⟨L,h1,rfl,fun e he=>⟨(h2 e he).2 A B (fun k hk'=>hk k ?_) (h2 e he).1,(h2 e he).2⟩,h3,h4,(hk (D+1) (by simp [eJ])).trans h5,(hk D (by simp [eJ])).trans h6⟩
  exact List.mem_cons_of_mem _ (List.mem_cons_of_mem _ (fps_mem.2 ⟨e,he,hk'⟩))
 have hC0:∀ k∈(D+1)::D::fps L0,(k∈bor∨w0.heap.size≤k)∧k < W1.heap.size:=fun k hk=>by
  rcases List.mem_cons.1 hk with rfl | hk
  ·exact ⟨.inr (by omega),by omega⟩
  ·rcases List.mem_cons.1 hk with rfl | hk
   ·exact ⟨.inr (by omega),by omega⟩
   ·have:=hst.fps_own hk
    exact ⟨this.1,by omega⟩
 have hJ0:J ((D+1)::D::fps L0) [] W1:=by
  subst hJ
  refine ⟨L0,h0,rfl,fun e he=>⟨(hst.ok e he).loc w W1 (fun k hk=>hx1.block ((hst.ok e he).own k hk).2) (hst.ok e he).holds,(hst.ok e he).loc⟩,hst.apart,fun k hk=>?_,hL1,hK1⟩
  have:=(hst.fps_own hk).2
  exact ⟨by omega,by omega⟩
 refine ⟨D+1,[{target:= .collected D,args:=#[]}],W1,{target:= .fn (.func gf) lb,args:=#[.func (.yield (D+1)) #[] #[]]},W1,gf,#[.func (.yield (D+1)) #[] #[]]++lb,W1,?_,?_,?_,?_,fun _=>by omega,?_⟩
 ·rw [← hW1,hrec,← hD]; exact run_enterLoop_outer _ _ _ _ _
 ·simp only [resolve,hg]
  simp [go_sem]
 ·intro f' hf'; trivial
 ·simp [invoke,go_sem,eg]
 ·refine (hseq (D+1) J W1 _ hloc (fun k hk=>(hC0 k hk).2) hJ0 (fun C pre A hj=>by subst hJ; obtain ⟨L,hi,rfl,hall, _⟩:=hj; exact hRd pre L A hi fun e he=>(hall e he).1) ?_).mono ?_
  ·intro C pre x A hj hlt hlen
   subst hJ
   obtain ⟨L,hi,rfl,hall,hap,hne,hl,hk⟩:=hj
   have hlA:D+1 < A.heap.size:=hlt _ (by simp)
   have hDA:D < A.heap.size:=hlt _ (by simp)
   have hy:=run_yield (P:=P) (args:=encs x) hl (by rw [hrec]; exact hps x)
   rw [hrec] at hy
   refine ⟨fn, _,assign,body,hy,roundIn_of_wpIn hfn ?_⟩
   rw [ht1 x]
   refine hassign _ x A _ fun a' A1 E1 hAx hE1=>?_
   have hxA:=hE1.ext
   have hl1:A1.heap[D+1]? =some (.loop (rec .ready)):=(hxA.block hlA).trans hl
   have hk1:A1.heap[D]? =some (.deferred (some [])):=(hxA.block hDA).trans hk
   have hEo:=hE1.ok E1 (by simp)
   have hEn:∀ k∈E1.fp,A.heap.size≤k∧k < A1.heap.size:=fun k hk'=>⟨(hEo.own k hk').1.resolve_left (by simp),(hEo.own k hk').2⟩
   have hsA1:=hxA.size
   refine ⟨_,run_beginRound hl1 (by rw [hrec]),?_⟩
   obtain ⟨A2,hA2⟩:∃ A2,A1.putObj (D+1) (.loop {rec .ready with state:= .busy})=A2:=⟨_,rfl⟩
   have hsz:A2.heap.size=A1.heap.size:=by rw [← hA2]; exact putObj_size _ _ _
   have hoth:∀ k,k≠D+1→A2.heap[k]? =A1.heap[k]? :=fun k hk'=>by rw [← hA2]; exact World.putObj_heap_other hk'
   have hbusy:A2.heap[D+1]? =some (.loop {rec .ready with state:= .busy}):=by rw [← hA2]; exact World.putObj_heap_same (by omega)
   have hLlt:∀ k∈fps L,k < A.heap.size:=fun k hk'=>hlt k (List.mem_cons_of_mem _ (List.mem_cons_of_mem _ hk'))
   have hst2:St A2 (fps (L++[E1])) (L++[E1]) A2:=by
    refine ⟨Upd.refl _ _,fun e he=>?_,?_⟩
    ·have hin:∀ k∈e.fp,k∈fps (L++[E1]):=fun k hk'=>fps_mem.2 ⟨e,he,hk'⟩
     rcases List.mem_append.1 he with he | he
     ·refine ⟨(hall e he).2 A A2 (fun k hk'=>?_) (hall e he).1,(hall e he).2,fun k hk'=>⟨.inl (hin k hk'),?_⟩⟩
      ·have h1:=fps_mem.2 ⟨e,he,hk'⟩
       exact (hoth k (hne k h1).1).trans (hxA.block (hLlt k h1))
      ·have:=hLlt k (fps_mem.2 ⟨e,he,hk'⟩); omega
     ·rw [List.mem_singleton] at he
      subst he
      exact ⟨hEo.loc A1 A2 (fun k hk'=>hoth k (by have:=(hEn k hk').1; omega)) hEo.holds,hEo.loc,fun k hk'=>⟨.inl (hin k hk'),by have:=(hEn k hk').2; omega⟩⟩
    ·rw [List.pairwise_append]
     refine ⟨hap,List.pairwise_singleton _ _,fun a ha b hb k hk' hkb=>?_⟩
     rw [List.mem_singleton] at hb
     subst hb
     have h1:=hLlt k (fps_mem.2 ⟨a,ha,hk'⟩)
     have h2:=(hEn k hkb).1
     omega
   rw [hA2]
   have hfin:∀ k∈fps (L++[E1]),k∈fps L∨A.heap.size≤k:=fun k hk'=>by
    obtain ⟨e,he,hke⟩:=fps_mem.1 hk'
    rcases List.mem_append.1 he with he | he
    ·exact .inl (fps_mem.2 ⟨e,he,hke⟩)
    ·rw [List.mem_singleton] at he; subst he; exact .inr (hEn k hke).1
   refine wpIn_mono (hbody _ pre x A2 L a' E1 hi hlen hAx hst2) ?_
   rintro e a W3 ⟨rfl,L',hi',hs'⟩
   have hno:∀ m,m=D+1∨m=D→m∉fps (L++[E1]):=fun m hm hmm=>by
    rcases hfin m hmm with h1 | h1
    ·have:=hne m h1; rcases hm with rfl | rfl<;>simp at this
    ·omega
   have hl3:W3.heap[D+1]? =some (.loop {rec .ready with state:= .busy}):=(hs'.upd.block _ (by omega) (hno _ (.inl rfl))).trans hbusy
   have hk3:W3.heap[D]? =some (.deferred (some [])):=(hs'.upd.block _ (by omega) (hno _ (.inr rfl))).trans ((hoth D (by omega)).trans hk1)
   have hsz3:=hs'.upd.size
   have hne':∀ k∈fps L',k≠D+1∧k≠D:=fun k hk'=>by
    rcases (hs'.fps_own hk').1 with h1 | h1
    ·rcases hfin k h1 with h2 | h2
     ·exact hne k h2
     ·exact ⟨by omega,by omega⟩
    ·exact ⟨by omega,by omega⟩
   refine ⟨_, _,run_endRound none hl3,rfl,(D+1)::D::fps L',?_⟩
   have hupA:Upd ((D+1)::D::fps L) A A2:=by rw [← hA2]; exact (Upd.mono (S:=[]) (Upd.of_ext hxA) (fun k _ hk'=>by simp at hk')).putObj (.inl (List.mem_cons_self ..))
   have hup:Upd ((D+1)::D::fps L) A W3:=hupA.join hs'.upd (fun i hi=>by
    rcases hfin i hi with h1 | h1
    ·exact Or.inl (List.mem_cons_of_mem _ (List.mem_cons_of_mem _ h1))
    ·exact .inr h1)
   have h3l:D+1 < W3.heap.size:=by omega
   refine ⟨hup.putObj (.inl (by simp)),fun e he=>?_,List.pairwise_singleton _ _⟩
   rw [List.mem_singleton] at he
   subst he
   refine ⟨⟨L',hi',rfl,fun e he=>⟨(hs'.ok e he).loc W3 _ (fun k hk'=>World.putObj_heap_other (hne' k (fps_mem.2 ⟨e,he,hk'⟩)).1) (hs'.ok e he).holds,(hs'.ok e he).loc⟩,hs'.apart,hne',?_,?_⟩,hloc _ _,fun k hk'=>?_⟩
   ·rw [hrec]; exact World.putObj_heap_same h3l
   ·exact (World.putObj_heap_other (by omega)).trans hk3
   ·rw [putObj_size]
    have hk':k∈(D+1)::D::fps L':=hk'
    rcases List.mem_cons.1 hk' with rfl | hk'
    ·exact ⟨.inl (by simp),h3l⟩
    ·rcases List.mem_cons.1 hk' with rfl | hk'
     ·exact ⟨.inl (by simp),by omega⟩
     ·have h6:=hs'.fps_own hk'
      refine ⟨?_,h6.2⟩
      rcases h6.1 with h7 | h7
      ·rcases hfin k h7 with h8 | h8
       ·exact .inl (List.mem_cons_of_mem _ (List.mem_cons_of_mem _ h8))
       ·exact .inr h8
      ·exact .inr (by omega)
  ·rintro e W2 ⟨⟨v,rfl⟩,C,xs,hs,hz⟩
   have hjo:=hs.ok (eJ J C xs) (by simp)
   have hj:=hjo.holds
   subst hJ
   obtain ⟨L,hi,rfl,hall,hap,hne,hl,hk⟩:=hj
   have hend:=run_endLoop (P:=P) hl (by rw [hrec]; simp)
   have hpend:(rec .ready).pending=none:=by rw [hrec]
   rw [hpend] at hend
   refine ⟨none, _,hend,hdone D _ L xs hi hz ?_⟩
   have hCo:∀ k∈(D+1)::D::fps L,((k∈bor∨w0.heap.size≤k)∧k < W2.heap.size):=fun k hk'=>by
    have h5:=hjo.own k hk'
    refine ⟨?_,h5.2⟩
    rcases h5.1 with h6 | h6
    ·exact (hC0 k h6).1
    ·exact .inr (by omega)
   have hup:Upd bor w0 W2:=(hst.upd.join (show Upd [] w W1 from Upd.of_ext hx1) (fun i hi=>by cases hi)).join hs.upd (fun i hi=>(hC0 i hi).1)
   have hlA:=(hCo (D+1) (by simp)).2
   have hw0D:w0.heap.size≤D+1:=by omega
   refine ⟨hup.putObj (.inr hw0D),fun e he=>?_,?_⟩
   ·rcases List.mem_append.1 he with he | he
    ·refine ⟨(hall e he).2 W2 _ (fun k hk'=>World.putObj_heap_other (hne k (fps_mem.2 ⟨e,he,hk'⟩)).1) (hall e he).1,(hall e he).2,fun k hk'=>?_⟩
     rw [putObj_size]
     exact hCo k (List.mem_cons_of_mem _ (List.mem_cons_of_mem _ (fps_mem.2 ⟨e,he,hk'⟩)))
    ·rw [List.mem_singleton] at he
     subst he
     refine ⟨(World.putObj_heap_other (by omega)).trans hk,eD_loc D,fun k hk'=>?_⟩
     have:k=D:=by simpa [eDfr] using hk'
     subst this
     rw [putObj_size]
     exact ⟨.inr (by omega),by have:=(hCo k (by simp)).2; omega⟩
   ·rw [List.pairwise_append]
    refine ⟨hap,List.pairwise_singleton _ _,fun a ha b hb k hk' hkb=>?_⟩
    rw [List.mem_singleton] at hb
    subst hb
    have:k=D:=by simpa [eDfr] using hkb
    exact (hne k (fps_mem.2 ⟨a,ha,hk'⟩)).2 this
end
section
open Go.RowKit
section
variable {P:Program} {ops:Array Oper} {Q:Exit→Act→World→Prop} {i:Nat} {rest:List Nat} {o:Oper} {t:List Value} {d0:List Deferred} {W:World} {d:Tmp} {t':List Value}
theorem wr_callY {ρ:Operand→Value} {c:Call} {x:Operand} {l:Nat} {args:Array Value} (h:o.op= .call c) (hcal:c.callee= .value x) (hx:ρ x= .func (.yield l) #[] #[]) (ha:c.args.map ρ=args) {r:Result Next} (hr:(Instr.yield l args).run P W=r):(execOp ρ o).run P W=r:=by
 subst hr
 unfold execOp; rw [h]
 simp only [resolve,hcal,hx,Deferred.ofValue,ha,Sem.run_bind,Sem.run_pure,Result.andThen_ok,invoke]
 simp
theorem wr_val {v:Value} (ho:ops[i]? =some o) (hg:Region.wanted o (yielded ops t.toArray)=true) (hd:o.dst=some d) (hr:(execOp (Act.eval ⟨t.toArray,d0⟩) o).run P W= .ok (.value v) W) (ht:t.set d v=t') (h:wpOpsIn Fence.wide 2 P ops Q rest ⟨t'.toArray,d0⟩ W):wpOpsIn Fence.wide 2 P ops Q (i::rest) ⟨t.toArray,d0⟩ W:=by
 unfold wpOpsIn
 simp only [ho]
 rw [if_pos hg]
 refine ⟨fun _ _=>trivial,?_⟩
 show o.uponIn Fence.wide 2 P _ _ Q ((execOp (Act.eval ⟨t.toArray,d0⟩) o).run P W)
 rw [hr,Oper.uponIn_value,hd]
 show wpOpsIn Fence.wide 2 P ops Q rest ⟨t.toArray.setIfInBounds d v,d0⟩ W
 rw [List.setIfInBounds_toArray,ht]
 exact h
theorem wr_no (ho:ops[i]? =some o) (hg:Region.wanted o (yielded ops t.toArray)=false) (hd:o.dst=some d) (ht:t.set d undef=t') (h:wpOpsIn Fence.wide 2 P ops Q rest ⟨t'.toArray,d0⟩ W):wpOpsIn Fence.wide 2 P ops Q (i::rest) ⟨t.toArray,d0⟩ W:=by
 unfold wpOpsIn
 simp only [ho]
 rw [if_neg (by rw [hg]; decide)]
 refine ⟨fun _ _=>trivial,?_⟩
 rw [hd]
 show wpOpsIn Fence.wide 2 P ops Q rest ⟨t.toArray.setIfInBounds d undef,d0⟩ W
 rw [List.setIfInBounds_toArray,ht]
 exact h
theorem wr_yld {l:Nat} {args:Array Value} {R:World→Prop} (ho:ops[i]? =some o) (hg:Region.wanted o (yielded ops t.toArray)=true) (hd:o.dst=some d)
  (hr:∀ r,(Instr.yield l args).run P W=r→(execOp (Act.eval ⟨t.toArray,d0⟩) o).run P W=r) (hy:YieldAt Fence.wide 1 P l args W fun e B=>e= .returned (.bool true)∧R B) (ht:t.set d (.bool true)=t') (h:∀ B,R B→wpOpsIn Fence.wide 2 P ops Q rest ⟨t'.toArray,d0⟩ B):wpOpsIn Fence.wide 2 P ops Q (i::rest) ⟨t.toArray,d0⟩ W:=by
 obtain ⟨fn,tmps,assign,body,h1,h2⟩:=hy
 unfold wpOpsIn
 simp only [ho]
 rw [if_pos hg]
 refine ⟨fun _ _=>trivial,?_⟩
 show o.uponIn Fence.wide 2 P _ _ Q ((execOp (Act.eval ⟨t.toArray,d0⟩) o).run P W)
 rw [hr _ h1,Oper.uponIn_round]
 refine ⟨fun hh=>by simp [Fence.wide] at hh,h2.mono ?_⟩
 rintro e B ⟨rfl,hB⟩
 show wpOpsIn Fence.wide 2 P ops Q rest (Act.put ⟨t.toArray,d0⟩ o.dst (.bool true)) B
 rw [hd]
 show wpOpsIn Fence.wide 2 P ops Q rest ⟨t.toArray.setIfInBounds d (.bool true),d0⟩ B
 rw [List.setIfInBounds_toArray,ht]
 exact h B hB
theorem wr_end {a:Act} (h:Q .normal a W):wpOpsIn Fence.wide 2 P ops Q [] a W:=h
end
theorem wr_st {α:Type} {w A B:World} {bor C:List Nat} {L:List Ent} {J:List Nat→List α→World→Prop} {pre xs:List α} (h:St w bor (eJ J C pre::L) A) {C':List Nat} (hj:St A C [eJ J C' xs] B):St w bor (eJ J C' xs::L) B:=by
 have hC:=h.ok (eJ J C pre) (List.mem_cons_self ..)
 have hp:=List.pairwise_cons.1 h.apart
 have hN:=hj.ok (eJ J C' xs) (by simp)
 refine ⟨h.upd.join hj.upd (fun i hi=>(hC.own i hi).1),fun e he=>?_,List.pairwise_cons.2 ⟨fun e he k hk hke=>?_,hp.2⟩⟩
 ·rcases List.mem_cons.1 he with rfl | he'
  ·refine ⟨hN.holds,hN.loc,fun k hk=>⟨?_,(hN.own k hk).2⟩⟩
   rcases (hN.own k hk).1 with h1 | h1
   ·exact (hC.own k h1).1
   ·exact .inr (Nat.le_trans h.upd.size h1)
  ·have h2:=h.ok e (List.mem_cons_of_mem _ he')
   exact h2.keep hj.upd (fun k hk hkC=>hp.1 e he' k hkC hk)
 ·have h2:=h.ok e (List.mem_cons_of_mem _ he)
  rcases (hN.own k hk).1 with h1 | h1
  ·exact hp.1 e he k h1 hke
  ·have:=(h2.own k hke).2; omega
/-- what the iterator reads -/
def WrRd (q b:Nat) (PA:Option Addr) (Pc:Nat) (P0:List ShT) (pre:List Nat) (A:World):Prop:=Blk A q 30 #[.pointer (some ⟨b,0,none⟩)]∧∃ D GA gc Ps,DkO A b D PA Pc GA gc Ps∧Ps.length=P0.length∧∀ j,j∉pre→Ps[j]? =P0[j]?
theorem WrRd.c0 {q b Pc:Nat} {PA:Option Addr} {P0:List ShT} {pre:List Nat} {A:World} (h:WrRd q b PA Pc P0 pre A):A.cell? ⟨q,0,none⟩=some (.pointer (some ⟨b,0,none⟩)):=h.1.cell 0
theorem WrRd.c1 {q b Pc:Nat} {PA:Option Addr} {P0:List ShT} {pre:List Nat} {A:World} (h:WrRd q b PA Pc P0 pre A):A.cell? ⟨b,0,none⟩=some (.slice PA P0.length Pc):=by
 obtain ⟨_,D,GA,gc,Ps,hO,hlen, _⟩:=h
 have h1:=hO.blkL.cell 0
 have h2:D.pgs.length=P0.length:=by rw [← hlen,← hO.ab,List.length_map]
 rw [h1,← h2]; rfl
theorem WrRd.at_ {q b Pc:Nat} {PA:Option Addr} {P0:List ShT} {pre:List Nat} {A:World} (h:WrRd q b PA Pc P0 pre A) {j:Nat} {t:ShT} (hj:j∉pre) (ht:P0[j]? =some t):∃ Ps:List ShT,At A PA (Ps.flatMap shC)∧Ps[j]? =some t:=by
 obtain ⟨_,D,GA,gc,Ps,hO,hlen,hun⟩:=h
 exact ⟨Ps,hO.at_,(hun j hj).trans ht⟩
def WrPx (P0:List ShT) (pre:List Nat) (x:Nat):Prop:=(∃ t,P0[x]? =some t∧t.ws≠[])∧∀ y∈pre,y < x
def WrZ (P0:List ShT) (xs:List Nat):Prop:=∀ j t,P0[j]? =some t→t.ws≠[]→j∈xs
def wrA (PA:Option Addr) (x:Nat):Array Value:=#[.pointer (some ((ad PA).add (x*513)))]
def WrEnd (P0:List ShT) (C0:List Nat) (J:List Nat→List Nat→World→Prop) (w:World) (e:Ending) (B:World):Prop:=(∃ v,e= .returned v)∧∃ C xs,St w C0 [eJ J C xs] B∧WrZ P0 xs
theorem wp_regionI {P:Program} {id:Nat} {ops:Array Oper} {Q:Exit→Act→World→Prop} {a:Act} {W:World} (h:wpOpsIn Fence.wide 2 P ops Q (List.range ops.size) a W):(Code.region id ops false).wp P Q a W:=
 (wpIn_wide (n:=2)).1 (wpIn_region h)
theorem kwritten1_in (l q b:Nat) (PA:Option Addr) (Pc:Nat) (P0:List ShT) (J:List Nat→List Nat→World→Prop) (C0:List Nat) (w:World) (hloc:∀ C pre,(eJ J C pre).loc) (hlt:∀ k∈C0,k < w.heap.size) (hJ0:J C0 [] w) (hRd:∀ C pre A,J C pre A→WrRd q b PA Pc P0 pre A) (hY:∀ C pre x A,J C pre A→(∀ k∈C,k < A.heap.size)→WrPx P0 pre x→YieldAt Fence.wide 1 Tryz.prog l (wrA PA x) A fun e B=>e= .returned (.bool true)∧∃ C',St A C [eJ J C' (pre++[x])] B) (hn:P0.length≤400):
  Calls Tryz.prog 142 #[.func (.yield l) #[] #[], .pointer (some ⟨q,0,none⟩)] w (WrEnd P0 C0 J w):=by
 have st0:St w C0 [eJ J C0 []] w:=St.lend (E:=eJ J C0 []) hJ0 (hloc _ _) hlt
 go_enter Tryz.func142,Tryz.ntmps142
 have hst0:=st0
 refine wp_seq (sqr ?_)
 refine sql (vp b) hst0 (fun cx=>run_load1 rfl (by kernel_rfl) (cx.ou 1) (WrRd.c0 (hRd _ _ _ (CtxV.holdF cx (cx.init 0 _ rfl) rfl)))) ?_
 refine sqp [.k 5 (vp b), .k 6 (vp b)] ?_
 refine sql (.slice PA P0.length Pc) hst0 (fun cx=>run_load1 rfl (by kernel_rfl) (cx.ou 6) (WrRd.c1 (hRd _ _ _ (CtxV.holdF cx (cx.init 0 _ rfl) rfl)))) ?_
 refine sqp [.k 8 (vi ((P0.length:Int))), .k 9 (vi 0)] ?_
 refine then_normal (wp_block ?_)
 refine wp_loopT (fun t_ mz az W=>∃ j:Nat,∃ Cj:List Nat,∃ pre:List Nat,j≤P0.length∧(∀ y∈pre,y < j)∧(∀ i t,i < j→P0[i]? =some t→t.ws≠[]→i∈pre)∧mz=P0.length - j∧az=⟨(ovr (jv az) [(3,3,1,[]),(5,9,0,[vi ((j:Int))]),(0,10,24,[])] t_).toArray,[]⟩∧St w C0 [eJ J Cj pre] W) (P0.length - 0) ?_ ?_
 · -- the loop begins
   exact ⟨0,C0,[],Nat.zero_le _,(fun y hy=>by cases hy),fun i t hi=>absurd hi (Nat.not_lt_zero _),rfl,(by kernel_rfl),hst0.pk [0]⟩
 rintro n7 a7 W7 ⟨j,Cj,pre,hj,hup,hin,rfl,hj_,hst7⟩
 refine ovz hj_ fun u7_=>?_
 refine wp_seq (sqr (sqp [.k 10 (.bool (decide ((j:Int) < (P0.length:Int))))] ?_))
 refine then_normal (wp_seq (wds (fun hs9 hs9p=>?_) fun hs9 hs9p=>?_))
 ·refine wp_skip (then_normal (wp_seq (wp_block (wp_seq (sqr (sqp [.m 11 9, .m 3 11] ?_))))))
  refine then_normal (wp_seq ?_)
  have hR12_:=hRd _ _ _ (hst7.get 0 rfl).holds
  have hjl:j < P0.length:=by omega
  obtain ⟨t,htj⟩:=getPs hjl
  have hjn:j∉pre:=fun h_=>by have:=hup j h_; omega
  obtain ⟨Ps_,hA_,htk⟩:=hR12_.at_ hjn htj
  have hPsl:=(List.getElem?_eq_some_iff.1 htk).1
  refine wp_regionI ?_
  rcases List.eq_nil_or_concat t.ws with hw_ | ⟨wl,wz,hw_⟩
  ·have hwl_:decide ((0:Int) < (t.ws.length:Int))=false:=by rw [hw_]; rfl
   refine wr_val (v:=vp b) rfl rfl rfl (run_load1 rfl (by kernel_rfl) rfl hR12_.c0) (by dsimp only [List.set]) ?_
   refine wr_val (v:=vp b) rfl rfl rfl (run_nilCheck rfl rfl) (by dsimp only [List.set]) ?_
   refine wr_val (v:=vp b) rfl rfl rfl (run_fieldAddr' (k:=0) (n:=0) rfl (by kernel_rfl) rfl rfl) (by dsimp only [List.set]) ?_
   refine wr_val (v:= .slice PA P0.length Pc) rfl rfl rfl (run_load1 rfl (by kernel_rfl) rfl hR12_.c1) (by dsimp only [List.set]) ?_
   refine wr_val (v:=vi ((j:Int))) rfl rfl rfl (run_move' rfl rfl) (by dsimp only [List.set]) ?_
   refine wr_val (v:= .pointer (some ((ad PA).add (j*513)))) rfl rfl rfl (run_indexSlM (e:=144) (m:=j) (sz:=513) rfl (by kernel_rfl) (by kernel_rfl) rfl rfl (by omega) (by omega) hA_ (flatPos (sz:=513) shC_len (by decide) (by omega))) (by dsimp only [List.set]) ?_
   refine wr_val (v:= .pointer (some ((ad PA).add (j*513+512)))) rfl rfl rfl (run_fieldAd rfl (by kernel_rfl) rfl) (by dsimp only [List.set]) ?_
   refine wr_val (v:= .slice t.A t.ws.length t.c) rfl rfl rfl (run_load1 rfl (by kernel_rfl) rfl (At.eltc (f:=shC) (k:=512) shC_len hA_ htk (shC_at t))) (by dsimp only [List.set]) ?_
   refine wr_val (v:=vi ((t.ws.length:Int))) rfl rfl rfl (run_len_l (e:=142) rfl (by kernel_rfl) rfl) (by dsimp only [List.set]) ?_
   refine wr_val (v:= .bool false) rfl rfl rfl ((run_bin (v:= .bool (decide ((0:Int) < (t.ws.length:Int)))) rfl rfl rfl rfl).trans (by rw [hwl_])) (by dsimp only [List.set]) ?_
   refine wr_val (v:= .bool false) rfl rfl rfl (run_move' rfl rfl) (by dsimp only [List.set]) ?_
   refine wr_no rfl rfl rfl (by dsimp only [List.set]) ?_
   refine wr_no rfl rfl rfl (by dsimp only [List.set]) ?_
   refine wr_no rfl rfl rfl (by dsimp only [List.set]) ?_
   refine wr_no rfl rfl rfl (by dsimp only [List.set]) ?_
   refine wr_no rfl rfl rfl (by dsimp only [List.set]) ?_
   refine wr_no rfl rfl rfl (by dsimp only [List.set]) ?_
   refine wr_no rfl rfl rfl (by dsimp only [List.set]) ?_
   refine wr_no rfl rfl rfl (by dsimp only [List.set]) ?_
   refine wr_no rfl rfl rfl (by dsimp only [List.set]) ?_
   refine wr_val (v:= .bool false) rfl rfl rfl (run_pick_f rfl rfl rfl) (by dsimp only [List.set]) ?_
   have hup2:∀ y∈pre,y < j+1:=fun y hy=>by have:=hup y hy; omega
   have hin2:∀ i t,i < j+1→P0[i]? =some t→t.ws≠[]→i∈pre:=fun i t2 hi h1 h2=>by
    by_cases e_:i=j
    ·subst e_; rw [htj] at h1; cases h1; exact absurd hw_ h2
    ·exact hin i t2 (by omega) h1 h2
   refine wr_end ?_
   refine then_normal (wcf rfl (wp_skip (blk_normal (then_normal (sqr (sqp [sI 33 ((j:Int)+1) (by omega), .m 9 33] ?_))))))
   refine then_normal ?_
   refine ⟨P0.length - ((j+1)),by omega,?_⟩
   exact ⟨(j+1),Cj, _,by omega,hup2,hin2,rfl,(by kernel_rfl),hst7.pk [0]⟩
  ·have hwl_:decide ((0:Int) < (t.ws.length:Int))=true:=by rw [hw_]; simp
   have hwn_:t.ws≠[]:=by rw [hw_]; simp
   refine wr_val (v:=vp b) rfl rfl rfl (run_load1 rfl (by kernel_rfl) rfl hR12_.c0) (by dsimp only [List.set]) ?_
   refine wr_val (v:=vp b) rfl rfl rfl (run_nilCheck rfl rfl) (by dsimp only [List.set]) ?_
   refine wr_val (v:=vp b) rfl rfl rfl (run_fieldAddr' (k:=0) (n:=0) rfl (by kernel_rfl) rfl rfl) (by dsimp only [List.set]) ?_
   refine wr_val (v:= .slice PA P0.length Pc) rfl rfl rfl (run_load1 rfl (by kernel_rfl) rfl hR12_.c1) (by dsimp only [List.set]) ?_
   refine wr_val (v:=vi ((j:Int))) rfl rfl rfl (run_move' rfl rfl) (by dsimp only [List.set]) ?_
   refine wr_val (v:= .pointer (some ((ad PA).add (j*513)))) rfl rfl rfl (run_indexSlM (e:=144) (m:=j) (sz:=513) rfl (by kernel_rfl) (by kernel_rfl) rfl rfl (by omega) (by omega) hA_ (flatPos (sz:=513) shC_len (by decide) (by omega))) (by dsimp only [List.set]) ?_
   refine wr_val (v:= .pointer (some ((ad PA).add (j*513+512)))) rfl rfl rfl (run_fieldAd rfl (by kernel_rfl) rfl) (by dsimp only [List.set]) ?_
   refine wr_val (v:= .slice t.A t.ws.length t.c) rfl rfl rfl (run_load1 rfl (by kernel_rfl) rfl (At.eltc (f:=shC) (k:=512) shC_len hA_ htk (shC_at t))) (by dsimp only [List.set]) ?_
   refine wr_val (v:=vi ((t.ws.length:Int))) rfl rfl rfl (run_len_l (e:=142) rfl (by kernel_rfl) rfl) (by dsimp only [List.set]) ?_
   refine wr_val (v:= .bool true) rfl rfl rfl ((run_bin (v:= .bool (decide ((0:Int) < (t.ws.length:Int)))) rfl rfl rfl rfl).trans (by rw [hwl_])) (by dsimp only [List.set]) ?_
   refine wr_val (v:= .bool true) rfl rfl rfl (run_move' rfl rfl) (by dsimp only [List.set]) ?_
   refine wr_val (v:= .func (.yield l) #[] #[]) rfl rfl rfl (run_move' rfl rfl) (by dsimp only [List.set]) ?_
   refine wr_val (v:=vp b) rfl rfl rfl (run_load1 rfl (by kernel_rfl) rfl hR12_.c0) (by dsimp only [List.set]) ?_
   refine wr_val (v:=vp b) rfl rfl rfl (run_nilCheck rfl rfl) (by dsimp only [List.set]) ?_
   refine wr_val (v:=vp b) rfl rfl rfl (run_fieldAddr' (k:=0) (n:=0) rfl (by kernel_rfl) rfl rfl) (by dsimp only [List.set]) ?_
   refine wr_val (v:= .slice PA P0.length Pc) rfl rfl rfl (run_load1 rfl (by kernel_rfl) rfl hR12_.c1) (by dsimp only [List.set]) ?_
   refine wr_val (v:=vi ((j:Int))) rfl rfl rfl (run_move' rfl rfl) (by dsimp only [List.set]) ?_
   refine wr_val (v:= .pointer (some ((ad PA).add (j*513)))) rfl rfl rfl (run_indexSlM (e:=144) (m:=j) (sz:=513) rfl (by kernel_rfl) (by kernel_rfl) rfl rfl (by omega) (by omega) hA_ (flatPos (sz:=513) shC_len (by decide) (by omega))) (by dsimp only [List.set]) ?_
   have hjj_:=hst7.get 0 rfl
   have hyy_:=hY Cj pre j _ hjj_.holds (fun k hk=>(hjj_.own k hk).2) ⟨⟨t,htj,hwn_⟩,fun y hy=>hup y hy⟩
   refine wr_yld (args:=wrA PA j) (R:=fun B=>∃ C',St _ Cj [eJ J C' (pre++[j])] B) rfl rfl rfl (fun r hr=>wr_callY (args:=wrA PA j) rfl rfl rfl (map1 rfl) hr) hyy_ (by dsimp only [List.set]) fun W15 ⟨C2,hJ2⟩=>?_
   have hst15:=wr_st (L:=[]) hst7 hJ2
   refine wr_val (v:= .bool false) rfl rfl rfl (run_not rfl rfl rfl) (by dsimp only [List.set]) ?_
   refine wr_val (v:= .bool false) rfl rfl rfl (run_pick_t rfl rfl rfl) (by dsimp only [List.set]) ?_
   have hup2:∀ y∈pre++[j],y < j+1:=fun y hy=>by
    rcases List.mem_append.1 hy with h_ | h_
    ·have:=hup y h_; omega
    ·rw [List.mem_singleton] at h_; omega
   have hin2:∀ i t,i < j+1→P0[i]? =some t→t.ws≠[]→i∈pre++[j]:=fun i t2 hi h1 h2=>by
    by_cases e_:i=j
    ·subst e_; simp
    ·exact List.mem_append_left _ (hin i t2 (by omega) h1 h2)
   refine wr_end ?_
   refine then_normal (wcf rfl (wp_skip (blk_normal (then_normal (sqr (sqp [sI 33 ((j:Int)+1) (by omega), .m 9 33] ?_))))))
   refine then_normal ?_
   refine ⟨P0.length - ((j+1)),by omega,?_⟩
   exact ⟨(j+1),C2, _,by omega,hup2,hin2,rfl,(by kernel_rfl),hst15.pk [0]⟩
 refine wp_exit (then_exit (then_exit (blk_eq ?_)))
 refine bpe (.tuple #[]) (by simp [results,Tryz.results142,go_sem]) ?_
 exact ⟨⟨_,rfl⟩,Cj,pre,hst7,fun i t h1 h2=>hin i t (by have:=(List.getElem?_eq_some_iff.1 h1).1; omega) h1 h2⟩
theorem kwritten_seq (q b:Nat) (PA:Option Addr) (Pc:Nat) (P0:List ShT) (hn:P0.length≤400):SeqD Tryz.prog 142 #[.pointer (some ⟨q,0,none⟩)] (wrA PA) (WrPx P0) (WrRd q b PA Pc P0) (WrZ P0):=fun l J W C0 hloc hlt hJ0 hRd hY=>
 callsIn_wide.2 (kwritten1_in l q b PA Pc P0 J C0 W hloc hlt hJ0 hRd hY hn)
end
section
open Go.RowKit
def syS (x:ShD):ShD:=⟨rdT x,[]⟩
def syD (D:DkM):DkM:={D with pgs:=D.pgs.map syS}
def pbc:Value→Nat
 | .func _ _ cap=>pb (cap.getD 0 undef)
 | _=>0
theorem DkO.ofE {A:World} {b:Nat} {D:DkM} {PA:Option Addr} {Pc:Nat} {GA:Option Addr} {gc:Nat} {Ps2:List ShT} (hlen:Ps2.length=D.pgs.length) (h1:Blk A b 100 (dkC D PA Pc GA gc))
  (h2:(eO 144 513 (.slice PA D.pgs.length Pc) D.pgs.length (Ps2.flatMap shC)).holds A) (h3:(eO 5 1 (.slice GA D.log.size gc) D.log.size ((nums D.log).map (Value.int .u8))).holds A) (h4:(eWs Ps2).holds A):
  DkO A b {D with pgs:=Ps2.map shAb} PA Pc GA gc Ps2:=by
 refine ⟨?_,At.of_ownN h2,rfl,LogAt.own h3,fun p hp=>eWs_at h4 hp⟩
 rw [dkC] at h1 ⊢
 dsimp only
 rw [List.length_map,hlen]; exact h1
theorem wr_step {R:ShD→ShD→Prop} {P0 A B:List ShT} {t t2:ShT} {pre:List Nat} (hn:A.length∉pre) (hun:∀ j,j∉pre→(A++t::B)[j]? =P0[j]?) (hdo:∀ j∈pre,∀ u v,P0[j]? =some u→(A++t::B)[j]? =some v→R (shAb u) (shAb v)) (hR:R (shAb t) (shAb t2)):
  (∀ j,j∉pre++[A.length]→(A++t2::B)[j]? =P0[j]?)∧∀ j∈pre++[A.length],∀ u v,P0[j]? =some u→(A++t2::B)[j]? =some v→R (shAb u) (shAb v):=by
 have hne:∀ j,j≠A.length→(A++t2::B)[j]? =(A++t::B)[j]? :=fun j hj=>by
  rcases Nat.lt_or_ge j A.length with h | h
  ·rw [List.getElem?_append_left h,List.getElem?_append_left h]
  ·rw [List.getElem?_append_right h,List.getElem?_append_right h]
   obtain ⟨m,hm⟩:∃ m,j - A.length=m+1:=⟨j - A.length - 1,by omega⟩
   rw [hm]; rfl
 have hat:∀ x:ShT,(A++x::B)[A.length]? =some x:=fun x=>by rw [List.getElem?_append_right (Nat.le_refl _),Nat.sub_self]; rfl
 refine ⟨fun j hj=>?_,fun j hj u v hu hv=>?_⟩
 ·have h1:j∉pre∧j≠A.length:=⟨fun h=>hj (List.mem_append_left _ h),fun h=>hj (by simp [h])⟩
  rw [hne j h1.2]; exact hun j h1.1
 ·by_cases e:j=A.length
  ·subst e
   rw [hat] at hv
   have h2:=hun _ hn
   rw [hat,hu] at h2
   cases hv; cases h2
   exact hR
  ·rw [hne j e] at hv
   refine hdo j ?_ u v hu hv
   rcases List.mem_append.1 hj with h | h
   ·exact h
   ·exact absurd (List.mem_singleton.1 h) e
theorem wr_done {R:ShD→ShD→Prop} {Ps Ps2:List ShT} {xs:List Nat} (hun:∀ j,j∉xs→Ps2[j]? =Ps[j]?) (hdo:∀ j∈xs,∀ u v,Ps[j]? =some u→Ps2[j]? =some v→R (shAb u) (shAb v)) (hZ:WrZ Ps xs) (h0:∀ x:ShD,x.ws=[]→R x x):
  ∀ (j:Nat) x y,(Ps.map shAb)[j]? =some x→(Ps2.map shAb)[j]? =some y→R x y:=fun j x y hx hy=>by
 rw [List.getElem?_map] at hx hy
 obtain ⟨u,hu,rfl⟩:=Option.map_eq_some_iff.1 hx
 obtain ⟨v,hv,rfl⟩:=Option.map_eq_some_iff.1 hy
 by_cases h:j∈xs
 ·exact hdo j h u v hu hv
 ·rw [hun j h,hu] at hv
  cases hv
  refine h0 _ ?_
  by_cases hw:u.ws=[]
  ·exact hw
  ·exact absurd (hZ j u hu hw) h
theorem syS_nil (x:ShD) (h:x.ws=[]):x=syS x:=by
 obtain ⟨s,ws⟩:=x
 dsimp only at h
 subst h; rfl
theorem sy_done {Ps Ps2:List ShT} (hl:Ps2.length=Ps.length) (h:∀ (j:Nat) x y,(Ps.map shAb)[j]? =some x→(Ps2.map shAb)[j]? =some y→y=syS x):Ps2.map shAb=(Ps.map shAb).map syS:=by
 apply List.ext_getElem?
 intro j
 rcases hx:(Ps.map shAb)[j]? with _ | x
 ·have h1:=List.getElem?_eq_none_iff.1 hx
  rw [List.getElem?_map (f:=syS),hx,List.getElem?_eq_none (by rw [List.length_map] at h1 ⊢; omega)]; rfl
 ·have h1:=(List.getElem?_eq_some_iff.1 hx).1
  obtain ⟨y,hy⟩:∃ y,(Ps2.map shAb)[j]? =some y:=⟨_,List.getElem?_eq_getElem (by rw [List.length_map] at h1 ⊢; omega)⟩
  rw [hy,List.getElem?_map (f:=syS),hx,h j x y hx hy]; rfl
theorem kwritten_any (b:Nat) (w:World):
  Calls Tryz.prog 84 #[.pointer (some ⟨b,0,none⟩)] w ((fun w (e:Ending) (w':World)=>∃ q,e= .returned (.func (.func 142) #[] #[.pointer (some ⟨q,0,none⟩)])∧St w [] [eB q 30 #[.pointer (some ⟨b,0,none⟩)]] w') w):=by
 go_enter Tryz.func84,Tryz.ntmps84
 have hst0:=St.start w
 refine wp_seq (sqr ?_)
 refine sqbx #[vp b] hst0 fun B1_1 W1 hst1=>?_
 refine sqp [.k 2 (Go.Value.nilFunc)] ?_
 refine then_normal (wp_seq (sqr ?_))
 refine sqv (.func (.func 142) #[] #[vp B1_1]) hst1 (by
   exact sv0 rfl rfl rfl rfl rfl (fun _ _ _ h=>h) fun ρ β W X cx=>by
    have fF1:ρ (.tmp 1)=vp B1_1:=(cx.ou 1)
    simp [go_sem,Instr.makeFunc,fF1]) fun W3 hst3=>?_
 refine sqp [.m 2 3] ?_
 refine then_normal (wp_ret ?_)
 refine bpr (.func (.func 142) #[] #[vp B1_1]) (results_1 Tryz.results84 rpt) ?_
 exact ⟨_,rfl,hst3⟩
theorem sh_put (A B:List ShT) (t:ShT) (x:H5):putL ((A++t::B).flatMap shC) (A.length*513) (hvC x)=(A++⟨x,t.A,t.c,t.ws⟩::B).flatMap shC:=by
 have hl:(A.flatMap shC).length=A.length*513:=flatLen shC_len A
 have e1:(A++t::B).flatMap shC=A.flatMap shC++(hvC t.s++([.slice t.A t.ws.length t.c]++B.flatMap shC)):=by rw [List.flatMap_append,List.flatMap_cons,shC,List.append_assoc]
 have e2:(A++⟨x,t.A,t.c,t.ws⟩::B).flatMap shC=A.flatMap shC++(hvC x++([.slice t.A t.ws.length t.c]++B.flatMap shC)):=by rw [List.flatMap_append,List.flatMap_cons,shC,List.append_assoc]
 rw [e1,e2,← hl,putL_mid _ _ _ _ (by rw [hvC_len,hvC_len])]
theorem ksy1_any (b b2:Nat) (D:DkM) (fp:List Nat) (w:World) (hB:(eDk b D fp).holds w) (hlt:∀ k∈fp,k < w.heap.size) (h2:Blk w b2 30 #[.pointer (some ⟨b,0,none⟩)]) (n2:b2∉fp) (hw:∀ x∈D.pgs,x.ws.length≤1000000000) (hn:D.pgs.length≤400):
  Calls Tryz.prog 137 #[.pointer (some ⟨b2,0,none⟩)] w (DoPost0 b (syD D) fp w):=by
 have st1:=St.lend hB (eDk_loc _ _ _) hlt
 obtain ⟨PA,Pc,GA,gc,Ps,Qs,hps,hsub,hfp,hap,hall⟩:=hB
 have st0:=St.unpack st1 hfp hall hap
 subst hsub
 have hPl:Qs.length=D.pgs.length:=by rw [← hps,List.length_map]
 obtain ⟨Ps,rfl⟩:∃ z,z=Qs:=⟨_,rfl⟩
 have st2:St w fp [eB b 100 #[.slice PA D.pgs.length Pc, .slice GA D.log.size gc, .int .i64 ((D.fl:Int)), .bool D.off, .bool D.armed, .int .i64 D.left],eO 144 513 (.slice PA D.pgs.length Pc) D.pgs.length (Ps.flatMap shC),eO 5 1 (.slice GA D.log.size gc) D.log.size ((nums D.log).map (Value.int .u8)),eWs Ps] w:=st0
 refine (callsIn_wide (n:=3)).1 (callsIn_of_wp_marks Tryz.func137 rfl trivial (wpIn_wide.2 ?_) rfl)
 simp only [Tryz.ntmps137,List.size_toArray,List.length_cons,List.length_nil,Nat.reduceAdd,Nat.reduceSub,Array.replicate_succ,Array.replicate_zero,List.push_toArray,List.append_toArray,List.nil_append,List.cons_append]
 have hst0:=st2
 refine wp_seq (wp_region_Y [0,1] [] [[],[4]] [] [.c 2 (vp b), .a 3] (fun ix σ β X=>match ix with | 0=>True | 1=>σ 3= .func (.func 142) #[] #[vp (pbc (β 3))]∧X 4=eB (pbc (β 3)) 30 #[vp b] | _=>True) [0,1,2,3,4] [0,1] [(2,0,2,4)] hst0 ?_ ?_ ?_)
 ·exact fun ix _ _ _ _ _ _ hs hb hx h=>match ix,h with
  | 1,h=>by dsimp only; rw [← hs 3 rfl,← hb 3 rfl,← hx 4 rfl]; exact h
  | 0, _ | _+2, _=>trivial
 ·refine ⟨?_,?_,trivial⟩
  ·exact xs4 rfl id fun cx=>run_load1 rfl (by kernel_rfl) (cx.ou 0) (Blk.cell (h2.upd cx.upd n2) 0)
  ·refine svA fun ρ β W X cx=>?_
   refine DoesU.call (run_callF (args:=#[vp b]) rfl cx.sees rfl (by kernel_rfl) (map1 (cx.an 0))) ?_
   refine (kwritten_any b _).mono ?_
   rintro e W1 ⟨q4,rfl,hs4⟩
   refine ⟨_,rfl,post_st [eB q4 30 #[vp b]] rfl rfl hs4 (fun σ β' X' hs hb hv hN=>?_)⟩
   have hv1:=(hv 3 rfl).1; have hv2:=(hv 3 rfl).2
   exact ⟨hv1.trans (by rw [hv2]; rfl),(by rw [hv2]; exact (List.cons.inj hN).1)⟩
 intro σ β X W1 hD hst1 fr hfr
 obtain ⟨q3_1,hu_q3_1⟩:∃ z,pbc (β 3)=z:=⟨_,rfl⟩
 simp only [exq 4 ((dTn (hD 1 lq)).2),hu_q3_1] at hst1
 simp only [ed 3 ((dTn (hD 1 lq)).1),hu_q3_1] at hfr
 clear hD hu_q3_1; subst hfr; clear σ β X
 refine then_normal (wp_block ?_)
 have hp3:=hst1.pick [0,1,2,3,4] (by decide) rfl
 refine wp_rangeSD (α:=Nat) hp3 rfl (enters_of Tryz.func142 (by kernel_rfl) rfl) (encs:=wrA PA) (kwritten_seq q3_1 b PA Pc Ps (by omega)) (fun _=>rfl) (fun pre L=>∃ Ps2:List ShT,Ps2.length=D.pgs.length∧(∀ j,j∉pre→Ps2[j]? =Ps[j]?)∧(∀ j∈pre,∀ u v,Ps[j]? =some u→Ps2[j]? =some v→shAb v=syS (shAb u))∧L=[eB b 100 #[.slice PA D.pgs.length Pc, .slice GA D.log.size gc,vi ((D.fl:Int)), .bool D.off, .bool D.armed,vi D.left],eO 144 513 (.slice PA D.pgs.length Pc) D.pgs.length (Ps2.flatMap shC),eO 5 1 (.slice GA D.log.size gc) D.log.size ((nums D.log).map (Value.int .u8)),eWs Ps2,eB q3_1 30 #[vp b]]) ⟨Ps,hPl,fun j _=>rfl,(fun j hj=>by cases hj),rfl⟩ ?_ (fun xx a_ E_=>a_=⟨([vp b2, .pointer (some ((ad PA).add (xx*513))),vp b, .func (.func 142) #[] #[vp q3_1], .pointer (some ((ad PA).add (xx*513))),undef,undef,undef,undef,undef,undef,undef,undef,undef,undef,undef,undef,undef,undef,undef,undef,undef,undef]).toArray,[]⟩∧E_=e00) (fun xx=>[vp b2,undef,vp b, .func (.func 142) #[] #[vp q3_1], .pointer (some ((ad PA).add (xx*513))),undef,undef,undef,undef,undef,undef,undef,undef,undef,undef,undef,undef,undef,undef,undef,undef,undef,undef]) (fun xx=>by kernel_rfl) ?_ ?_ ?_
 ·rintro pre L A ⟨Ps2,hl2,hun2,hdo2,rfl⟩ hA_
  exact ⟨hA_ (eB q3_1 30 #[vp b]) (by simp), _,GA,gc,Ps2,DkO.ofE hl2 (hA_ (eB b 100 #[.slice PA D.pgs.length Pc, .slice GA D.log.size gc,vi ((D.fl:Int)), .bool D.off, .bool D.armed,vi D.left]) (by simp)) (hA_ (eO 144 513 (.slice PA D.pgs.length Pc) D.pgs.length (Ps2.flatMap shC)) (by simp)) (hA_ (eO 5 1 (.slice GA D.log.size gc) D.log.size ((nums D.log).map (Value.int .u8))) (by simp)) (hA_ (eWs Ps2) (by simp)),by omega,hun2⟩
 ·intro rl xx W K hK; exact rnd_assign rfl rfl rfl (hK _ _ e00 ⟨rfl,rfl⟩ (St.e00 W)) (by kernel_rfl)
 ·rintro rl pre xx W4 L4 a4 E4 ⟨Ps2,hl2,hun2,hdo2,rfl⟩ hPx ⟨rfl,rfl⟩ hst4r
  have hst4:St W4 (fps ([eB b 100 #[.slice PA D.pgs.length Pc, .slice GA D.log.size gc,vi ((D.fl:Int)), .bool D.off, .bool D.armed,vi D.left],eO 144 513 (.slice PA D.pgs.length Pc) D.pgs.length (Ps2.flatMap shC),eO 5 1 (.slice GA D.log.size gc) D.log.size ((nums D.log).map (Value.int .u8)),eWs Ps2,eB q3_1 30 #[vp b]]++[e00])) [eB b 100 #[.slice PA D.pgs.length Pc, .slice GA D.log.size gc,vi ((D.fl:Int)), .bool D.off, .bool D.armed,vi D.left],eO 144 513 (.slice PA D.pgs.length Pc) D.pgs.length (Ps2.flatMap shC),eO 5 1 (.slice GA D.log.size gc) D.log.size ((nums D.log).map (Value.int .u8)),eWs Ps2,eB q3_1 30 #[vp b],e00] W4:=hst4r
  clear hst4r
  obtain ⟨⟨t,ht0,hwn⟩,hlt_⟩:=hPx
  have hxn:xx∉pre:=fun h_=>Nat.lt_irrefl _ (hlt_ xx h_)
  have htk:=(hun2 xx hxn).trans ht0
  obtain ⟨A,B,rfl,rfl⟩:=split_at htk
  have ho5_:=St.outW (L:=[eB b 100 #[.slice PA D.pgs.length Pc, .slice GA D.log.size gc,vi ((D.fl:Int)), .bool D.off, .bool D.armed,vi D.left],eO 144 513 (.slice PA D.pgs.length Pc) D.pgs.length ((A++t::B).flatMap shC),eO 5 1 (.slice GA D.log.size gc) D.log.size ((nums D.log).map (Value.int .u8)),eB q3_1 30 #[vp b],e00]) (hst4.pick [0,1,2,4,5,3] (by decide) rfl)
  simp only [List.cons_append,List.nil_append,entW] at ho5_
  have hwt:t.ws.length≤1000000000:=hw _ (by rw [← hps]; exact List.mem_map.2 ⟨t,List.mem_of_getElem? ht0,rfl⟩)
  have hAl:A.length < D.pgs.length:=by have:=(List.getElem?_eq_some_iff.1 htk).1; omega
  obtain ⟨k2,hk2⟩:∃ k2:Nat,t.ws.length=k2+1:=⟨t.ws.length - 1,by have:=List.length_pos_iff.2 hwn; omega⟩
  obtain ⟨x,hxk⟩:∃ x,t.ws[k2]? =some x:=⟨_,List.getElem?_eq_getElem (by omega)⟩
  refine wpIn_block (wpIn_region_Y [0,0,0,4,12,28,0,64,192,448,960,1984,4092,8188,16381,32765,65533,131071,262143,524287] [[],[],[],[],[],[1],[],[],[],[1],[],[],[6],[6],[],[],[1],[],[],[7]] [[],[],[],[],[],[],[],[],[],[],[],[],[],[],[],[],[7],[],[],[8]] [[],[],[],[],[],[],[],[],[],[],[],[],[],[],[],[],[1],[],[],[7]] [.k 5 (.pointer (some ((ad PA).add (A.length*513)))), .k 6 (.pointer (some ((ad PA).add (A.length*513)))), .k 7 (.pointer (some ((ad PA).add (A.length*513)))), .k 8 (.pointer (some ((ad PA).add (A.length*513)))), .c 9 (.pointer (some ((ad PA).add (A.length*513+512)))), .c 10 (.slice t.A t.ws.length t.c), .k 11 (.pointer (some ((ad PA).add (A.length*513)))), .k 12 (.pointer (some ((ad PA).add (A.length*513)))), .c 13 (.pointer (some ((ad PA).add (A.length*513+512)))), .c 14 (.slice t.A t.ws.length t.c), .k 15 (vi ((t.ws.length:Int))),tJ 16 ((t.ws.length:Int) - 1) (k2:Int) (by omega) (by omega), .c 17 (.pointer (some ((ad t.A).add (k2*512)))), .c 18 (.agg (hvC x).toArray), .k 19 (.pointer (some ((ad PA).add (A.length*513)))), .c 20 (.pointer (some ((ad PA).add (A.length*513+0)))), .n, .k 21 (.pointer (some ((ad PA).add (A.length*513)))), .c 22 (.pointer (some ((ad PA).add (A.length*513+512)))), .n] (fun ix σ β X=>match ix with | 0=>True | 1=>True | 2=>True | 3=>True | 4=>True | 5=>True | 6=>True | 7=>True | 8=>True | 9=>True | 10=>True | 11=>True | 12=>True | 13=>True | 14=>True | 15=>True | 16=>X 7=eO 144 513 (.slice PA D.pgs.length Pc) D.pgs.length ((A++⟨x,t.A,t.c,t.ws⟩::B).flatMap shC) | 17=>True | 18=>True | 19=>X 8=eO 144 513 (.slice PA D.pgs.length Pc) D.pgs.length ((A++⟨x,none,0,[]⟩::B).flatMap shC) | _=>True) [0,2,3,4,5,6,8] [4,5,8,9,12,13,15,16,18,19] [(5,0,19,23)] ho5_ ?_ ?_ ?_)
  ·exact fun ix _ _ _ _ _ _ hs hb hx h=>match ix,h with
   | 16,h=>by dsimp only; rw [← hx 7 rfl]; exact h
   | 19,h=>by dsimp only; rw [← hx 8 rfl]; exact h
   | 0, _ | 1, _ | 2, _ | 3, _ | 4, _ | 5, _ | 6, _ | 7, _ | 8, _ | 9, _ | 10, _ | 11, _ | 12, _ | 13, _ | 14, _ | 15, _ | 17, _ | 18, _ | _+20, _=>trivial
  ·refine ⟨?_,?_,?_,?_,?_,?_,?_,?_,?_,?_,trivial⟩
   ·exact xs4 rfl id fun cx=>run_fieldAd rfl (by kernel_rfl) (cx.an 3)
   ·exact xs4 rfl id fun cx=>run_load1 rfl (by kernel_rfl) (cx.an 4) (At.eltc (f:=shC) (k:=512) shC_len (At.of_ownN (cx.ri 1 rfl)) htk (shC_at t))
   ·exact xs4 rfl id fun cx=>run_fieldAd rfl (by kernel_rfl) (cx.an 7)
   ·exact xs4 rfl id fun cx=>run_load1 rfl (by kernel_rfl) (cx.an 8) (At.eltc (f:=shC) (k:=512) shC_len (At.of_ownN (cx.ri 1 rfl)) htk (shC_at t))
   ·exact xs4 rfl id fun cx=>run_indexSlM (e:=142) (m:=k2) (sz:=512) rfl (by kernel_rfl) (by kernel_rfl) (cx.an 5) (cx.an 11) (by omega) (by omega) (At.of_ownN (cx.ri 6 rfl)) (by have h_:=flatLen (f:=hvC) (sz:=512) hvC_len t.ws; show 0 < (List.flatMap hvC t.ws).length; omega)
   ·exact xs4 rfl id fun cx=>run_loadElt (f:=hvC) (m:=k2) (sz:=512) (off:=0) (n:=512) rfl (by kernel_rfl) (by kernel_rfl) (cx.an 12) (List.size_toArray.trans (hvC_len _)) hvC_len (At.of_ownN (cx.ri 6 rfl)) hxk (fun k hk=>by rw [List.getElem?_toArray,Nat.zero_add])
   ·exact xs4 rfl id fun cx=>run_fieldAd rfl (by kernel_rfl) (cx.an 14)
   ·refine svA fun ρ β W X cx=>?_
    exact dv_storeElt (m:=A.length*513) (n:=D.pgs.length) (sz:=513) (k:=512) rfl (cx.an 15) (cx.an 13) (by kernel_rfl) (List.size_toArray.trans (hvC_len _)) (List.all_eq_true.2 (hvC_one _)) cx (cx.init 1 _ rfl) rfl (by omega) (by decide) rfl (sh_put A B t x) rfl rfl (fun σ β' X' hs hb hx=>hx)
   ·exact xs4 rfl id fun cx=>run_fieldAd rfl (by kernel_rfl) (cx.an 17)
   ·refine svA fun ρ β W X cx=>?_
    exact dv_storeRowN (m:=A.length*513+512) (n:=D.pgs.length) (sz:=513) rfl (cx.an 18) (cx.co _) (by kernel_rfl) rfl rfl cx (dTn (cx.an 16)) rfl (by omega) rfl (sh_set A B _ none 0 [] 0 rfl) rfl rfl (fun σ β' X' hs hb hx=>hx)
  intro σ β X W6 hD hst6 fr hfr
  simp only [exq 8 ((dTn (hD 19 lq)))] at hst6
  clear hD; subst hfr; clear σ β X
  refine blk_normal ?_
  have hm7_:=nilrowN (hst6.pick [0,6,1,2,4] (by decide) rfl) 142 512
  have hm7b_:=St.inW (L:=[eB b 100 #[.slice PA D.pgs.length Pc, .slice GA D.log.size gc,vi ((D.fl:Int)), .bool D.off, .bool D.armed,vi D.left],eO 144 513 (.slice PA D.pgs.length Pc) D.pgs.length ((A++⟨x,none,0,[]⟩::B).flatMap shC),eO 5 1 (.slice GA D.log.size gc) D.log.size ((nums D.log).map (Value.int .u8)),eB q3_1 30 #[vp b]]) (A:=A) (B:=B) (t:=(⟨x,none,0,[]⟩:ShT)) hm7_
  simp only [List.cons_append,List.nil_append] at hm7b_
  obtain ⟨hun3,hdo3⟩:=wr_step (R:=fun x y=>y=syS x) (t2:=(⟨x,none,0,[]⟩:ShT)) hxn hun2 hdo2 (by rw [syS,rdT_some hxk hk2]; rfl)
  exact ⟨rfl, _,⟨(A++⟨x,none,0,[]⟩::B),by rw [← hl2]; simp,hun3,hdo3,rfl⟩,hm7b_.pick [0,1,2,4,3] (by decide) rfl⟩
 ·rintro D2 W2d L2 XS_ ⟨Ps2,hl2,hun2,hdo2,rfl⟩ hZ_ hst2d
  simp only [List.cons_append,List.nil_append] at hst2d
  refine blk_normal ?_
  refine bpm_take (L:=[eB b 100 #[.slice PA D.pgs.length Pc, .slice GA D.log.size gc,vi ((D.fl:Int)), .bool D.off, .bool D.armed,vi D.left],eO 144 513 (.slice PA D.pgs.length Pc) D.pgs.length (Ps2.flatMap shC),eO 5 1 (.slice GA D.log.size gc) D.log.size ((nums D.log).map (Value.int .u8)),eWs Ps2,eB q3_1 30 #[vp b]]) (hst2d.pick [0,1,2,3,4,5] (by decide) rfl) fun Wt8 ht8=>?_
  refine ⟨.tuple #[],(by simp [results,Tryz.results137,go_sem]),?_⟩
  have hsy_:=sy_done (by omega) (wr_done (R:=fun x y=>y=syS x) hun2 hdo2 hZ_ syS_nil)
  rw [hps] at hsy_
  have hpl_:(syD D).pgs.length=D.pgs.length:=List.length_map ..
  exact ⟨rfl,St.dk (L:=[]) (D:=syD D) (PA:=PA) (Pc:=Pc) (GA:=GA) (gc:=gc) (Ps:=Ps2) (Qs:=Ps2) (by rw [dkL,dkC,hpl_]; exact ht8.pick [0,1,2,3] (by decide) rfl) hsy_ rfl⟩
theorem ksyop_any (b b2:Nat) (D:DkM) (fp:List Nat) (w:World) (hB:(eDk b D fp).holds w) (hlt:∀ k∈fp,k < w.heap.size) (h2:Blk w b2 30 #[.pointer (some ⟨b,0,none⟩)]) (n2:b2∉fp) (hw:∀ x∈D.pgs,x.ws.length≤1000000000) (hn:D.pgs.length≤400):Calls Tryz.prog 126 #[.pointer (some ⟨b,0,none⟩), .func (.func 131) #[] #[], .func (.func 137) #[] #[.pointer (some ⟨b2,0,none⟩)]] w (OpPost b (opD D 0 syD) fp w):=
 kop_any b D 0 syD 131 137 _ _ fp w hB hlt (by kernel_rfl) (by kernel_rfl) (fun W hU hA=>kfine_any W) fun he W fp1 hU hh hl ho=>ksy1_any b b2 _ fp1 W hh hl (h2.upd hU n2) (fun h10=>(ho b2 h10).elim n2 fun h11=>by have:=h2.lt; omega) hw hn
theorem ksync_any (b:Nat) (D:DkM) (fp:List Nat) (w:World) (hB:(eDk b D fp).holds w) (hlt:∀ k∈fp,k < w.heap.size) (hw:∀ x∈D.pgs,x.ws.length≤1000000000) (hn:D.pgs.length≤400):
  Calls Tryz.prog 69 #[.pointer (some ⟨b,0,none⟩)] w (OpPost b (opD D 0 syD) fp w):=by
 have st1:St w fp [eDk b D fp] w:=St.lend hB (eDk_loc _ _ _) hlt
 go_enter Tryz.func69,Tryz.ntmps69
 have hst0:=st1
 refine wp_seq (sqr ?_)
 refine sqbx #[vp b] hst0 fun B1_1 W1 hst1=>?_
 refine sqp [.k 2 (vi 0)] ?_
 refine then_normal (wp_seq (sqr (sqld 1 hst1 ?_)))
 refine sqv (.func (.func 137) #[] #[vp B1_1]) hst1 (by
   exact sv0 rfl rfl rfl rfl rfl (fun _ _ _ h=>h) fun ρ β W X cx=>by
    have fF1:ρ (.tmp 1)=vp B1_1:=(cx.ou 1)
    simp [go_sem,Instr.makeFunc,fF1]) fun W4 hst4=>?_
 refine sqc0s (fun X_=>X_.fp) (vi ((opD D 0 syD).2)) (fun r2_5=>eDk b ((opD D 0 syD).1) r2_5) 0 hst4 (by
   refine svA fun ρ β W X cx=>?_
   refine DoesU.call (run_callF (args:=#[vp b, .func (.func 131) #[] #[], .func (.func 137) #[] #[vp B1_1]]) rfl cx.sees rfl (by kernel_rfl) (map3 (cx.ou 3) (cx.sees.func _) (cx.ou 4))) ?_
   refine (ksyop_any b _ D _ _ (CtxV.holdF cx (cx.init 0 _ rfl) rfl) (CtxV.ltF cx (cx.init 0 _ rfl) rfl) (cx.bi 1 rfl) (by have h_:=cx.ap 1 0 rfl rfl (by decide); rw [(cx.init 1 _ rfl),(cx.init 0 _ rfl)] at h_; exact h_ _ (List.mem_singleton.2 rfl)) hw hn).mono ?_
   rintro e W1 ⟨rfl,fp4,hs4⟩
   refine ⟨_,rfl,post_obj (E:=eDk b D fp) [eDk b (opD D 0 syD).1 fp4] (cx.init 0 _ rfl) rfl rfl hs4 (fun σ β' X' hs hb hv hN=>?_)⟩
   have hv1:=(hv 5 rfl).1; have hv2:=(hv 5 rfl).2
   exact ⟨hv1.trans rfl,eDk_self ((List.cons.inj hN).1)⟩) fun r2_5 W5 hst5=>?_
 refine sqp [.m 2 5] ?_
 refine then_normal (wp_ret ?_)
 refine bpr (vi ((opD D 0 syD).2)) (results_1 Tryz.results69 rpt) ?_
 exact OpPost.of rfl (hst5.pick [0] (by decide) rfl)
end
section
open Go.RowKit
/-- an edit applied where it can be -/
def edA (n lsn:Int) (p:PgS) (e:EdT):PgS:=if e.1=n∧doE p e lsn=0 then doV p e lsn else p
/-- a record's edits of page n -/
def edRec (n lsn:Int) (p:PgS) (l:List EdT):PgS:=l.foldl (edA n lsn) p
/-- page n according to the log L -/
def contF (L:List RecM) (n:Int):PgS:=L.zipIdx.foldl (fun p x=>edRec n ((x.2:Int)+1) p x.1.eds) pgs0
/-- the LSN of the last checkpoint, or 0 -/
def fromF (L:List RecM):Nat:=L.zipIdx.foldl (fun f x=>if x.1.kind=9 then x.2+1 else f) 0
/-- has page n an image behind the last checkpoint? -/
def imgF (L:List RecM) (n:Int):Bool:=L.foldl (fun b r=>if r.kind=9 then false else b||(r.kind==8&&r.tbl==n)) false
theorem contF_snoc (L:List RecM) (r:RecM) (n:Int):contF (L++[r]) n=edRec n ((L.length:Int)+1) (contF L n) r.eds:=by
 rw [contF,List.zipIdx_append,List.foldl_append]
 simp [contF]
theorem fromF_snoc (L:List RecM) (r:RecM):fromF (L++[r])=if r.kind=9 then L.length+1 else fromF L:=by
 rw [fromF,List.zipIdx_append,List.foldl_append]
 simp [fromF]
theorem imgF_snoc (L:List RecM) (r:RecM) (n:Int):imgF (L++[r]) n=if r.kind=9 then false else (imgF L n||(r.kind==8&&r.tbl==n)):=by
 rw [imgF,List.foldl_append]; rfl
theorem edA_right {n lsn:Int} {p:PgS} {e:EdT} (h:rightP p):rightP (edA n lsn p e):=by
 unfold edA
 split
 ·rename_i h1; exact do_right h1.2
 ·exact h
theorem edRec_right {n lsn:Int} {l:List EdT}:∀ {p:PgS},rightP p→rightP (edRec n lsn p l):=by
 induction l with
 | nil=>intro p h; exact h
 | cons e l ih=>intro p h; exact ih (edA_right h)
theorem snoc_ind {P:List RecM→Prop} (h0:P []) (hs:∀ L r,P L→P (L++[r])) (L:List RecM):P L:=by
 have h:∀ k (L:List RecM),L.length=k→P L:=by
  intro k
  induction k with
  | zero=>intro L h; rw [List.eq_nil_of_length_eq_zero h]; exact h0
  | succ k ih=>
    intro L h
    rcases List.eq_nil_or_concat L with rfl | ⟨L',x,rfl⟩
    ·cases h
    ·rw [List.concat_eq_append] at h ⊢
     exact hs L' x (ih L' (by simpa using h))
 exact h _ L rfl
theorem contF_right (L:List RecM) (n:Int):rightP (contF L n):=by
 induction L using snoc_ind with
 | h0=>exact right0
 | hs L r ih=>rw [contF_snoc]; exact edRec_right ih
/-- a record without an edit of n leaves n -/
theorem edRec_no {n lsn:Int} {p:PgS} {l:List EdT} (h:∀ e∈l,e.1≠n):edRec n lsn p l=p:=by
 induction l generalizing p with
 | nil=>rfl
 | cons e l ih=>
   show edRec n lsn (edA n lsn p e) l=p
   rw [edA,if_neg (fun h1=>h e (by simp) h1.1)]
   exact ih fun x hx=>h x (by simp [hx])
theorem doV_lsn (p:PgS) (e:EdT) (n:Int):(doV p e n).2.1=n:=by unfold doV; split<;>rfl
/-- what the records behind the first k leave alone is as the first k say -/
theorem contF_keep {L L':List RecM} {n:Int} (h:∀ r∈L',∀ e∈r.eds,e.1≠n):contF (L++L') n=contF L n:=by
 induction L' using snoc_ind with
 | h0=>rw [List.append_nil]
 | hs L' r ih=>
   rw [← List.append_assoc,contF_snoc,edRec_no (h r (by simp))]
   exact ih fun x hx=>h x (by simp [hx])
end
section
open Go.RowKit
/-- what page.Do answers -/
def DoPost (p:PgS) (e:EdT) (n:Int) (w:World):Ending→World→Prop:=
 if doE p e n=0 then PgPost (doV p e n).1 (doV p e n).2.1 (doV p e n).2.2 0 w else PgPost 0 0 [] (doE p e n) w
theorem DoPost.bad {p:PgS} {e:EdT} {n er:Int} {w w':World} {e':Ending} (h:doE p e n=er) (h0:er≠0) (hp:PgPost 0 0 [] er w e' w'):DoPost p e n w e' w':=by
 subst h
 rw [DoPost,if_neg h0]; exact hp
theorem DoPost.good {p:PgS} {e:EdT} {n:Int} {w w':World} {e':Ending} {q:PgS} (h:doE p e n=0) (hq:doV p e n=q) (hp:PgPost q.1 q.2.1 q.2.2 0 w e' w'):DoPost p e n w e' w':=by
 subst hq
 rw [DoPost,if_pos h]; exact hp
theorem put_fit {k l slot:Int} {ss:List ByteArray} {s:ByteArray} {f:FuncId} {args:Array Value} {w:World} (he:putErr k l ss slot s=0) (hc:Calls Tryz.prog f args w (PutPost k l ss slot s w)):Calls Tryz.prog f args w (PgPost k l (plainL (withL ss slot.toNat s)) 0 w):=by
 rw [PutPost,if_pos he] at hc; exact hc
theorem put_bad {k l slot:Int} {ss:List ByteArray} {s:ByteArray} {f:FuncId} {args:Array Value} {w:World} {er:Int} (he:putErr k l ss slot s=er) (h0:er≠0) (hc:Calls Tryz.prog f args w (PutPost k l ss slot s w)):Calls Tryz.prog f args w (PgPost 0 0 [] er w):=by
 subst he
 rw [PutPost,if_neg h0] at hc; exact hc
theorem pgdo_any (k l:Int) (A:Option Addr) (c:Nat) (ss:List ByteArray) (x sl:Int) (s:ByteArray) (n:Int) (w:World) (hA:At w A (ss.map Value.string)) (hr_:rightB k l ss=true) (hS:Small ss) (hss:s.size≤9223372036854775807):
  Calls Tryz.prog 40 #[.agg #[.int .i64 k, .int .i64 l, .slice A ss.length c], .agg #[.int .i64 x, .int .i64 sl, .string s], .int .i64 n] w (DoPost (k,l,ss) (x,sl,s) n w):=by
 go_enter Tryz.func40,Tryz.ntmps40
 have hst0:=St.start w
 refine wp_seq (sqr ?_)
 refine sqbx #[vi k,vi l, .slice A ss.length c] hst0 fun B3_1 W1 hst1=>?_
 refine sqbx #[vi x,vi sl, .string s] hst1 fun B4_2 W2 hst2=>?_
 refine sqal #[vi 0,vi 0, .slice none 0 0] hst2 fun B6_3 W3 hst3=>?_
 refine sqp [.k 7 (vi 0)] ?_
 refine then_normal (wp_seq (wp_seq ?_))
 have hbb_:=byteI_bd (bl s) 0
 refine sqr ?_
 refine sqlb 0 3 hst3 ?_
 have hd7:(rightB k l ss)=true:=hr_
 refine sqv (.bool true) hst3 (sv_call rfl rfl rfl rfl rfl (fun _ _ _ h=>h.trans (congrArg Value.bool hd7)) fun ρ β W X cx=>⟨_, _,run_callF (args:=#[.agg #[vi k,vi l, .slice A ss.length c]]) rfl cx.sees rfl (by kernel_rfl) (map1 (cx.ou 10)),right_any k l _ _ ss _ (hA.ext cx.upd.to_ext) hS⟩) fun W6 hst6=>?_
 refine sqp [.k 12 (.bool false)] ?_
 refine then_normal (wcf rfl (wp_skip (then_normal (wp_seq (wp_seq (sqr (sqp [.m 14 2, .k 15 (.bool (decide (n < 0))), .m 16 15] ?_)))))))
 refine sqw 16 [17,18] rfl (fun _=>sqp [.m 17 2, .k 18 (.bool (decide (2147483647 < n)))] sqe) ?_
 refine sqp [sPo 19 (decide (n < 0)) (decide (2147483647 < n))] ?_
 refine then_normal (wbs (fun hs15=>?_) fun hs15=>?_)
 ·have hs15p:=hs15
  simp only [zB] at hs15p
  refine wp_seq (sqr (sqp [.k 20 (.agg #[vi 0,vi 0, .slice none 0 0])] ?_))
  refine sqst (n:=3) 2 #[vi 0,vi 0, .slice none 0 0] hst6 fun W17 hst17=>?_
  refine sqp [.k 7 (vi 1)] ?_
  refine then_normal (wp_ret (then_ret ?_))
  refine bpr (.tuple #[.agg #[vi 0,vi 0, .slice none 0 0],vi 1]) (results_2 Tryz.results40 (rpa (hst17.blk 2 rfl) 0 3) rpt) ?_
  exact DoPost.bad (by rw [doE,if_neg (by rw [hr_]; decide),if_pos (by have h_:=hs15; simp at h_; omega)]) (by decide) (PgPost.zero hst17.ext)
 have hs15p:=hs15
 simp only [zB] at hs15p
 obtain ⟨hs15p1,hs15p2⟩:=hs15p
 refine wp_skip (then_normal (wp_seq (wp_seq ?_)))
 by_cases hs1_:sl= -1
 ·refine sqr (sqp [.k 21 (.pointer (some ⟨B4_2,1,none⟩))] ?_)
  refine sqld 1 hst6 ?_
  have hd22:(sl==(-1))=true:=(beq_iff_eq.2 hs1_)
  refine sqp [.e 23 (.bool (sl==(-1))) (.bool true) (congrArg Value.bool hd22)] ?_
  refine then_normal (wct rfl (wp_seq (wp_seq (sqr (sqp [.k 24 (.pointer (some ⟨B4_2,2,none⟩))] ?_)))))
  refine sqld 1 hst6 ?_
  refine sqp [.k 26 (vi ((s.size:Int))), .k 27 (.bool ((s.size:Int) != 1)), .m 28 27] ?_
  refine sqw' 28 [29,30,31,32] ?_ rfl (fun hq=>?_) ?_
  rotate_left
  ·have hq_:=hq
   try simp only [zB] at hq_
   refine sqp [.k 29 (.pointer (some ⟨B4_2,2,none⟩))] ?_
   refine sqld 1 hst6 ?_
   refine sql (.int .u8 (byteI (bl s) 0)) hst6 (fun cx=>run_indexS (m:=0) rfl (by kernel_rfl) (cx.ou 30) (cx.co _) (by omega) (by omega)) ?_
   refine sqp [.k 32 (.bool (decide (2 < byteI (bl s) 0)))] ?_
   exact sqe
  refine sqwx ?_
  refine sqp [sPo 33 ((s.size:Int) != 1) (decide (2 < byteI (bl s) 0))] ?_
  refine then_normal (wbs (fun hs33=>?_) fun hs33=>?_)
  ·have hs33p:=hs33
   simp only [zB] at hs33p
   refine wp_seq (sqr (sqp [.k 34 (.agg #[vi 0,vi 0, .slice none 0 0])] ?_))
   refine sqst (n:=3) 2 #[vi 0,vi 0, .slice none 0 0] hst6 fun W35 hst35=>?_
   refine sqp [.k 7 (vi 21)] ?_
   refine then_normal (wp_ret (then_ret (then_ret ?_)))
   refine bpr (.tuple #[.agg #[vi 0,vi 0, .slice none 0 0],vi 21]) (results_2 Tryz.results40 (rpa (hst35.blk 2 rfl) 0 3) rpt) ?_
   exact DoPost.bad (by rw [doE,if_neg (by rw [hr_]; decide),if_neg (by have h_:=hs15; simp at h_; omega),if_pos hs1_,if_pos (by have h_:=hs33; simp at h_; simp only [kindBad,Bool.or_eq_true,decide_eq_true_eq]; omega)]) (by decide) (PgPost.zero hst35.ext)
  have hs33p:=hs33
  simp only [zB] at hs33p
  obtain ⟨hs33p1,hs33p2⟩:=hs33p
  refine wp_skip (then_normal (wp_seq (sqr (sqp [.k 35 (.pointer (some ⟨B4_2,2,none⟩))] ?_))))
  refine sqld 1 hst6 ?_
  refine sql (.int .u8 (byteI (bl s) 0)) hst6 (fun cx=>run_indexS (m:=0) rfl (by kernel_rfl) (cx.ou 36) (cx.co _) (by omega) (by omega)) ?_
  refine sqp [sW 38 .i64 (byteI (bl s) 0) (byteI (bl s) 0) (IntWalk.i64_in _ (by omega)), .m 39 2, .k 40 (.agg #[vi (byteI (bl s) 0),vi n, .slice none 0 0])] ?_
  refine sqst (n:=3) 2 #[vi (byteI (bl s) 0),vi n, .slice none 0 0] hst6 fun W43 hst43=>?_
  refine sqp [.k 7 (vi 0)] ?_
  refine then_normal (wp_ret (then_ret ?_))
  refine bpr (.tuple #[.agg #[vi (byteI (bl s) 0),vi n, .slice none 0 0],vi 0]) (results_2 Tryz.results40 (rpa (hst43.blk 2 rfl) 0 3) rpt) ?_
  exact DoPost.good (q:=(byteI (bl s) 0,n,[])) (by rw [doE,if_neg (by rw [hr_]; decide),if_neg (by have h_:=hs15; simp at h_; omega),if_pos hs1_,if_neg (by have h_:=hs33; simp at h_; simp only [kindBad,Bool.or_eq_true,decide_eq_true_eq]; omega)]) (by rw [doV,if_pos hs1_]) ⟨none,0,rfl,World.ownsRow_nil _ _ _ _,hst43.ext⟩
 ·refine sqr (sqp [.k 21 (.pointer (some ⟨B4_2,1,none⟩))] ?_)
  refine sqld 1 hst6 ?_
  have hd48:(sl==(-1))=false:=(beq_eq_false_iff_ne.2 hs1_)
  refine sqp [.e 23 (.bool (sl==(-1))) (.bool false) (congrArg Value.bool hd48)] ?_
  refine then_normal (wcf rfl (wp_skip (then_normal (wp_seq ?_))))
  obtain ⟨er,hpe⟩:∃ z,putErr k l ss sl s=z:=⟨_,rfl⟩
  by_cases hpn:er=0
  ·subst hpn
   refine sqr ?_
   refine sqlb 0 3 hst6 ?_
   refine sqp [.k 43 (.pointer (some ⟨B4_2,1,none⟩))] ?_
   refine sqld 1 hst6 ?_
   refine sqp [.k 45 (.pointer (some ⟨B4_2,2,none⟩))] ?_
   refine sqld 1 hst6 ?_
   refine sqk2 (fun A47_54 c47_54=> .tuple #[.agg #[vi k,vi l, .slice A47_54 ((plainL (withL ss sl.toNat s)).length) c47_54],vi 0]) (fun A47_54 c47_54=>eO 9 1 (.slice A47_54 ((plainL (withL ss sl.toNat s)).length) c47_54) ((plainL (withL ss sl.toNat s)).length) ((plainL (withL ss sl.toNat s)).map Value.string)) hst6 (fun cx=>⟨_,(put_fit hpe (pgput_any k l _ _ ss sl s _ (hA.ext cx.upd.to_ext) hS (by omega))).mono (by rintro e W1 ⟨A4,c4,rfl,ho,hx⟩; exact ⟨_, _,rfl,St.one hx (eO_new ho)⟩),(map3 (cx.ou 42) (cx.ou 44) (cx.ou 46))⟩) fun A47_54 c47_54 W54 hst54=>?_
   refine sqp [.m 41 47, .k 48 (.agg #[vi k,vi l, .slice A47_54 ((plainL (withL ss sl.toNat s)).length) c47_54]), .k 49 (vi 0)] ?_
   refine sqal #[vi 0,vi 0, .slice none 0 0] hst54 fun B8_58 W58 hst58=>?_
   refine sqst (n:=3) 4 #[vi k,vi l, .slice A47_54 ((plainL (withL ss sl.toNat s)).length) c47_54] hst58 fun W59 hst59=>?_
   refine sqp [.m 9 49] ?_
   refine then_normal (wp_seq (wp_seq (sqr (sqp [.m 50 9, .k 51 (.bool true)] ?_))))
   refine then_normal (wct rfl (sqr (sqp [.m 52 2, .k 53 (.pointer (some ⟨B8_58,1,none⟩))] ?_)))
   refine sqst (n:=1) 4 #[vi k,vi n, .slice A47_54 ((plainL (withL ss sl.toNat s)).length) c47_54] hst59 fun W65 hst65=>?_
   refine then_normal (wp_seq (sqr ?_))
   refine sqlb 4 3 hst65 ?_
   refine sqp [.m 55 9] ?_
   refine sqst (n:=3) 2 #[vi k,vi n, .slice A47_54 ((plainL (withL ss sl.toNat s)).length) c47_54] hst65 fun W68 hst68=>?_
   refine sqp [.m 7 55] ?_
   refine then_normal (wp_ret ?_)
   refine bpr (.tuple #[.agg #[vi k,vi n, .slice A47_54 ((plainL (withL ss sl.toNat s)).length) c47_54],vi 0]) (results_2 Tryz.results40 (rpa (hst68.blk 2 rfl) 0 3) rpt) ?_
   exact DoPost.good (q:=(k,n,plainL (withL ss sl.toNat s))) (by rw [doE,if_neg (by rw [hr_]; decide),if_neg (by have h_:=hs15; simp at h_; omega),if_neg hs1_]; exact hpe) (by rw [doV,if_neg hs1_]) ⟨_, _,rfl,hst68.own' 3 rfl,hst68.ext⟩
  ·refine sqr ?_
   refine sqlb 0 3 hst6 ?_
   refine sqp [.k 43 (.pointer (some ⟨B4_2,1,none⟩))] ?_
   refine sqld 1 hst6 ?_
   refine sqp [.k 45 (.pointer (some ⟨B4_2,2,none⟩))] ?_
   refine sqld 1 hst6 ?_
   refine sqk2 (fun A47_75 c47_75=> .tuple #[.agg #[vi 0,vi 0, .slice A47_75 (([]:List ByteArray).length) c47_75],vi er]) (fun A47_75 c47_75=>eO 9 1 (.slice A47_75 (([]:List ByteArray).length) c47_75) (([]:List ByteArray).length) (([]:List ByteArray).map Value.string)) hst6 (fun cx=>⟨_,(put_bad hpe hpn (pgput_any k l _ _ ss sl s _ (hA.ext cx.upd.to_ext) hS (by omega))).mono (by rintro e W1 ⟨A4,c4,rfl,ho,hx⟩; exact ⟨_, _,rfl,St.one hx (eO_new ho)⟩),(map3 (cx.ou 42) (cx.ou 44) (cx.ou 46))⟩) fun A47_75 c47_75 W75 hst75=>?_
   refine sqp [.m 41 47, .k 48 (.agg #[vi 0,vi 0, .slice A47_75 (([]:List ByteArray).length) c47_75]), .k 49 (vi er)] ?_
   refine sqal #[vi 0,vi 0, .slice none 0 0] hst75 fun B8_79 W79 hst79=>?_
   refine sqst (n:=3) 4 #[vi 0,vi 0, .slice A47_75 (([]:List ByteArray).length) c47_75] hst79 fun W80 hst80=>?_
   refine sqp [.m 9 49] ?_
   refine then_normal (wp_seq (wp_seq (sqr ?_)))
   have hd84:(er==0)=false:=(beq_eq_false_iff_ne.2 hpn)
   refine sqp [.m 50 9, .e 51 (.bool (er==0)) (.bool false) (congrArg Value.bool hd84)] ?_
   refine then_normal (wcf rfl (wp_skip (then_normal (wp_seq (sqr ?_)))))
   refine sqlb 4 3 hst80 ?_
   refine sqp [.m 55 9] ?_
   refine sqst (n:=3) 2 #[vi 0,vi 0, .slice A47_75 (([]:List ByteArray).length) c47_75] hst80 fun W87 hst87=>?_
   refine sqp [.m 7 55] ?_
   refine then_normal (wp_ret ?_)
   refine bpr (.tuple #[.agg #[vi 0,vi 0, .slice A47_75 (([]:List ByteArray).length) c47_75],vi er]) (results_2 Tryz.results40 (rpa (hst87.blk 2 rfl) 0 3) rpt) ?_
   exact DoPost.bad (by rw [doE,if_neg (by rw [hr_]; decide),if_neg (by have h_:=hs15; simp at h_; omega),if_neg hs1_]; exact hpe) hpn ⟨_, _,rfl,hst87.own' 3 rfl,hst87.ext⟩
end
section
open Go.RowKit
/-- the page that a string is the serialization of -/
noncomputable def rdX (s:ByteArray):Option PgS:=by
 classical exact if h:∃ p:PgS,rightP p∧bytesF p.1 p.2.1 p.2.2=s then some h.choose else none
theorem rdX_some {s:ByteArray} {p:PgS} (h:rdX s=some p):rightP p∧bytesF p.1 p.2.1 p.2.2=s:=by
 classical
 unfold rdX at h
 split at h
 ·rename_i h1
  injection h with h
  subst h
  exact h1.choose_spec
 ·cases h
theorem rdX_none {s:ByteArray} (h:rdX s=none) (p:PgS) (hr:rightP p):bytesF p.1 p.2.1 p.2.2≠s:=fun he=>by
 classical
 unfold rdX at h
 split at h
 ·cases h
 ·rename_i h1
  exact h1 ⟨p,hr,he⟩
def BadPost (w:World) (e:Ending) (w':World):Prop:=∃ er:Int,er≠0∧e= .returned (.tuple #[.agg #[.int .i64 0, .int .i64 0, .slice none 0 0], .int .i64 er])∧Ext w w'
theorem BadPost.of {er:Int} {w w':World} (h:er≠0) (hx:Ext w w'):BadPost w (.returned (.tuple #[.agg #[.int .i64 0, .int .i64 0, .slice none 0 0], .int .i64 er])) w':=⟨er,h,rfl,hx⟩
/-- a text read off, as it comes -/
def textR (s:ByteArray) (p:Nat) (f:Bool):ByteArray×Nat×Bool:=if f=true∨s.size < p+2∨s.size < p+2+numS s p 2 then (ByteArray.empty,p,true) else (textS s p,p+2+numS s p 2,false)
theorem text_x (B:Nat) (s:ByteArray) (p:Nat) (f:Bool) (w:World) (h:Rd 193 w B s p f):Calls Tryz.prog 103 #[.pointer (some ⟨B,0,none⟩)] w (RdPost 193 (.string (textR s p f).1) B s (textR s p f).2.1 (textR s p f).2.2 w):=by
 unfold textR
 split
 ·rename_i h1
  exact text_bad B s p f w h h1
 ·rename_i h1
  have hf:f=false:=by cases f; rfl; exact absurd (.inl rfl) h1
  subst hf
  exact text_ok B s p w h (by omega) (by omega)
theorem textR_le (s:ByteArray) (p:Nat) (f:Bool):(textR s p f).1.size≤s.size:=by
 unfold textR
 split
 ·exact Nat.zero_le _
 ·show (textS s p).size≤ _
  rw [textS,ByteArray.size_extract]; omega
theorem textR_at {s:ByteArray} {p:Nat} {f:Bool} (h:p≤s.size):(textR s p f).2.1≤s.size:=by
 unfold textR
 split
 ·exact h
 ·show p+2+numS s p 2≤s.size
  omega
theorem numS_lt1 (s:ByteArray) (p:Nat):numS s p 1 < 256:=by
 have h:=numL_lt (s.extract p (p+1)).data.toList
 have h2:(s.extract p (p+1)).data.toList.length≤1:=by
  have:(s.extract p (p+1)).size≤1:=by rw [ByteArray.size_extract]; omega
  show (bl (s.extract p (p+1))).length≤1
  rw [bl_len]; exact this
 have h3:(256:Nat) ^ (s.extract p (p+1)).data.toList.length≤256 ^ 1:=Nat.pow_le_pow_right (by omega) h2
 unfold numS
 omega
theorem it_snoc (I:List ByteArray) (x:ByteArray):I.map Value.string++[.string x]=(I++[x]).map Value.string:=by simp
theorem ne_bytes {k l:Int} {I:List ByteArray} {s:ByteArray} (hb:∀ p:PgS,rightP p→bytesF p.1 p.2.1 p.2.2≠s) (hr:rightB k l I=true):((bytesF k l (plainL I)).toList==s.toList)=false:=by
 rcases h:(bytesF k l (plainL I)).toList==s.toList with _ | _
 ·rfl
 ·exact absurd (ba_inj (by simpa using h)) (hb (k,l,plainL I) ⟨right_plain hr,plain_plain I⟩)
theorem bytes_no {k l:Int} {ss:List ByteArray} {f:FuncId} {args:Array Value} {w:World} (hr:rightB k l ss=false) (hc:Calls Tryz.prog f args w (BytesPost k l ss w)):Calls Tryz.prog f args w (Ret (.tuple #[.string ⟨#[]⟩, .int .i64 22]) w):=by
 rw [BytesPost,if_neg (by rw [hr]; decide)] at hc; exact hc
theorem bytes_yes {k l:Int} {ss:List ByteArray} {f:FuncId} {args:Array Value} {w:World} {tt:ByteArray} (hr:rightB k l ss=true) (ht:bytesF k l (plainL ss)=tt) (hc:Calls Tryz.prog f args w (BytesPost k l ss w)):Calls Tryz.prog f args w (Ret (.tuple #[.string tt, .int .i64 0]) w):=by
 subst ht
 rw [BytesPost,if_pos hr] at hc; exact hc
theorem pgread_bad (s:ByteArray) (w:World) (hs:s.size=512) (hb:∀ p:PgS,rightP p→bytesF p.1 p.2.1 p.2.2≠s):
  Calls Tryz.prog 44 #[.string s] w (BadPost w):=by
 have hn4:=numS_lt4 s 0
 have hn1:=numS_lt1 s 9
 go_enter Tryz.func44,Tryz.ntmps44
 have hst0:=St.start w
 refine wp_seq (sqr (sqal #[vi 0,vi 0, .slice none 0 0] hst0 fun B2_1 W1 hst1=>?_))
 refine sqp [.k 3 (vi 0)] ?_
 refine then_normal (wp_seq (wp_seq (sqr (sqp [.m 9 0, .k 10 (vi ((s.size:Int))), .k 11 (.bool ((s.size:Int) != 512))] ?_))))
 refine then_normal (wbs (fun hs6=>?_) fun hs6=>?_)
 ·have hs6p:=bne_iff_ne.1 hs6
  refine wp_seq (sqr (sqp [.k 12 (.agg #[vi 0,vi 0, .slice none 0 0])] ?_))
  refine sqst (n:=3) 0 #[vi 0,vi 0, .slice none 0 0] hst1 fun W8 hst8=>?_
  refine sqp [.k 3 (vi 11)] ?_
  refine then_normal (wp_ret (then_ret ?_))
  refine bpr (.tuple #[.agg #[vi 0,vi 0, .slice none 0 0],vi 11]) (results_2 Tryz.results44 (rpa (hst8.blk 0 rfl) 0 3) rpt) ?_
  exact BadPost.of (by decide) hst8.ext
 have hs6p:=bne_eq_false_iff_eq.1 hs6
 refine wp_skip (then_normal (wp_seq (sqr (sqp [.m 13 0] ?_))))
 refine sqk1 (fun B14_11=>vp B14_11) (fun B14_11=>eB B14_11 193 #[.string s,vi 0, .bool false]) hst1 (fun cx=>⟨_,(oread_b s _).mono (by rintro e W1 ⟨B4,rfl,⟨hb4,hw4⟩,hx⟩; exact ⟨_,rfl,St.one hx ⟨hb4,eB_loc _ _ _,fun k hk=>by simp [eB] at hk; subst hk; exact ⟨hw4,hb4.lt⟩⟩⟩),(map1 (cx.ou 13))⟩) fun B14_11 W11 hst11=>?_
 refine sqp [.m 4 14] ?_
 refine then_normal (wp_seq (sqr (sqp [.m 15 4] ?_)))
 refine sqkm (vi ((numS s 0 4:Int))) 1 #[.string s,vi 4, .bool false] hst11 (fun cx=>⟨_,(num_ok _ s 0 4 _ ⟨(cx.bi 1 rfl),by omega,by omega⟩ (by omega) (by omega)).mono (by rintro e W1 ⟨rfl,hrd,hu⟩; exact ⟨rfl,hu,hrd.1⟩),(map2 (cx.ou 15) (cx.co _))⟩) fun W14 hst14=>?_
 refine sqp [.m 5 16] ?_
 refine then_normal (wp_seq (sqr (sqp [.m 17 4] ?_)))
 refine sqkm (vi ((numS s 4 1:Int))) 1 #[.string s,vi 5, .bool false] hst14 (fun cx=>⟨_,(num_ok _ s 4 1 _ ⟨(cx.bi 1 rfl),by omega,by omega⟩ (by omega) (by omega)).mono (by rintro e W1 ⟨rfl,hrd,hu⟩; exact ⟨rfl,hu,hrd.1⟩),(map2 (cx.ou 17) (cx.co _))⟩) fun W17 hst17=>?_
 refine sqp [.m 19 4] ?_
 refine sqkm (vi ((numS s 5 4:Int))) 1 #[.string s,vi 9, .bool false] hst17 (fun cx=>⟨_,(num_ok _ s 5 4 _ ⟨(cx.bi 1 rfl),by omega,by omega⟩ (by omega) (by omega)).mono (by rintro e W1 ⟨rfl,hrd,hu⟩; exact ⟨rfl,hu,hrd.1⟩),(map2 (cx.ou 19) (cx.co _))⟩) fun W19 hst19=>?_
 refine sqp [.k 21 (.agg #[vi ((numS s 4 1:Int)),vi ((numS s 5 4:Int)), .slice none 0 0])] ?_
 refine sqal #[vi 0,vi 0, .slice none 0 0] hst19 fun B6_21 W21 hst21=>?_
 refine sqst (n:=3) 2 #[vi ((numS s 4 1:Int)),vi ((numS s 5 4:Int)), .slice none 0 0] hst21 fun W22 hst22=>?_
 refine then_normal (wp_seq (wp_seq (wp_region_Z [0,1,0,4,12,31,63,127,255,127,639,2047,4095] [] [.k 22 (vi ((numS s 0 4:Int))),tW 23 .u32 (numS s 0 4:Int) (numS s 0 4:Int) (IntWalk.u32_in _ (by omega)), .k 24 (.string s), .c 25 (.string (s.extract 4 s.size)), .c 26 (.int .u32 ((sumF (s.extract 4 s.size):Int))), .k 27 (.bool ((numS s 0 4:Int) != (sumF (s.extract 4 s.size):Int))), .k 28 (.bool ((numS s 0 4:Int) != (sumF (s.extract 4 s.size):Int))), .z 29 (!((numS s 0 4:Int) != (sumF (s.extract 4 s.size):Int))) (.string s), .y 30 (!((numS s 0 4:Int) != (sumF (s.extract 4 s.size):Int))) (.string (s.extract 5 9)), .z 31 (!((numS s 0 4:Int) != (sumF (s.extract 4 s.size):Int))) (.string s), .y 32 (!((numS s 0 4:Int) != (sumF (s.extract 4 s.size):Int))) (.string (s.extract 508 s.size)), .y 33 (!((numS s 0 4:Int) != (sumF (s.extract 4 s.size):Int))) (.bool (!((s.extract 5 9).toList==(s.extract 508 s.size).toList))),tO 34 ((numS s 0 4:Int) != (sumF (s.extract 4 s.size):Int)) (!((s.extract 5 9).toList==(s.extract 508 s.size).toList))] [0,1,2] [3,4,8,10,11] [(22,0,13,35)] hst22 ?_ fun W23 hst23=>?_)))
 ·refine ⟨?_,?_,?_,?_,?_,trivial⟩
  ·exact xs4 rfl id fun cx=>run_slice_lo (l:=4) rfl (by kernel_rfl) (cx.an 2) (cx.co _) (by omega) (by omega)
  ·exact xsc rfl id rfl rfl fun cx=>⟨_,osum_any (s.extract 4 s.size) _ (by rw [ByteArray.size_extract]; omega),(map1 (cx.an 3))⟩
  ·exact m2 rfl (fun _ _ _ h=>h) (fun cx=>(cx.an 6)) fun cx hq=>run_slice_lh (l:=5) (m:=9) rfl (by kernel_rfl) (mbv (cx.an 7) hq) (cx.co _) (cx.co _) (by have hq_:=hq; simp only [zB] at hq_; omega) (by have hq_:=hq; simp only [zB] at hq_; omega) (by have hq_:=hq; simp only [zB] at hq_; omega) (by have hq_:=hq; simp only [zB] at hq_; omega)
  ·exact m2 rfl (fun _ _ _ h=>h) (fun cx=>(cx.an 6)) fun cx hq=>run_slice_lo (l:=508) rfl (by kernel_rfl) (mbv (cx.an 9) hq) (cx.co _) (by have hq_:=hq; simp only [zB] at hq_; omega) (by have hq_:=hq; simp only [zB] at hq_; omega)
  ·exact m2 rfl (fun _ _ _ h=>h) (fun cx=>(cx.an 6)) fun cx hq=>run_strne rfl (mbv (cx.an 8) hq) (mbv (cx.an 10) hq)
 refine then_normal (wbs (fun hs24=>?_) fun hs24=>?_)
 ·have hs24p:=hs24
  simp only [zB] at hs24p
  refine wp_seq (sqr (sqp [.k 35 (.agg #[vi 0,vi 0, .slice none 0 0])] ?_))
  refine sqst (n:=3) 0 #[vi 0,vi 0, .slice none 0 0] hst23 fun W26 hst26=>?_
  refine sqp [.k 3 (vi 12)] ?_
  refine then_normal (wp_ret (then_ret ?_))
  refine bpr (.tuple #[.agg #[vi 0,vi 0, .slice none 0 0],vi 12]) (results_2 Tryz.results44 (rpa (hst26.blk 0 rfl) 0 3) rpt) ?_
  exact BadPost.of (by decide) hst26.ext
 have hs24p:=hs24
 simp only [zB] at hs24p
 obtain ⟨hs24p1,hs24p2⟩:=hs24p
 refine wp_skip (then_normal (wp_seq (wp_seq (sqr (sqp [.m 36 4] ?_)))))
 refine sqkm (vi ((numS s 9 1:Int))) 1 #[.string s,vi 10, .bool false] hst23 (fun cx=>⟨_,(num_ok _ s 9 1 _ ⟨(cx.bi 1 rfl),by omega,by omega⟩ (by omega) (by omega)).mono (by rintro e W1 ⟨rfl,hrd,hu⟩; exact ⟨rfl,hu,hrd.1⟩),(map2 (cx.ou 36) (cx.co _))⟩) fun W29 hst29=>?_
 refine sqp [.k 38 (vi 0)] ?_
 refine then_normal (wp_block ?_)
 have hn31:=St.nilrow hst29 9
 simp only [List.cons_append,List.nil_append] at hn31
 refine wp_loopT (fun t_ mz az W=>∃ j:Nat,∃ pp:Nat,∃ ff:Bool,∃ Is:List ByteArray,∃ AI:Option Addr,∃ cI:Nat,j≤numS s 9 1∧pp≤s.size∧Is.length=j∧(∀ x∈Is,x.size≤s.size)∧mz=numS s 9 1 - j∧az=⟨(ovr (jv az) [(38,38,0,[vi ((j:Int))]),(0,39,9,[])] t_).toArray,[]⟩∧St w [] [eB B2_1 48 #[vi 0,vi 0, .slice none 0 0],eB B14_11 193 #[.string s,vi ((pp:Int)), .bool ff],eB B6_21 48 #[vi ((numS s 4 1:Int)),vi ((numS s 5 4:Int)), .slice AI j cI],eO 9 1 (.slice AI j cI) j (Is.map Value.string)] W) (numS s 9 1 - 0) ?_ ?_
 · -- the loop begins
   exact ⟨0,10,false,[],none,0,Nat.zero_le _,by omega,rfl,(fun x hx=>absurd hx List.not_mem_nil),rfl,(by kernel_rfl),hn31.pk [0,1,2,3]⟩
 rintro n32 a32 W32 ⟨j,pp,ff,Is,AI,cI,hj,hpp,hIl,hIz,rfl,hj_,hst32⟩
 refine ovz hj_ fun u32_=>?_
 refine wp_seq (sqr (sqp [.k 39 (.bool (decide ((j:Int) < (numS s 9 1:Int))))] ?_))
 refine then_normal (wp_seq (wds (fun hs34 hs34p=>?_) fun hs34 hs34p=>?_))
 ·refine wp_skip (then_normal (wp_seq (wp_block (wp_region_Y [0,1,0,4,12,31,63,127] [[],[2],[],[1],[],[5,3],[],[2]] [[],[],[],[4],[5],[6],[],[7]] [[],[],[],[1],[],[3],[],[2]] [.k 40 (.pointer (some ⟨B6_21,2,none⟩)), .c 41 (.slice AI j cI), .k 42 (vp B14_11), .a 43, .a 44, .a 45, .k 46 (.pointer (some ⟨B6_21,2,none⟩)), .n] (fun ix σ β X=>match ix with | 0=>True | 1=>True | 2=>True | 3=>σ 43= .string ((textR s pp ff).1)∧X 4=eB B14_11 193 #[.string s,vi (((textR s pp ff).2.1:Int)), .bool ((textR s pp ff).2.2)] | 4=>σ 44= .slice (sA (β 44)) 1 1∧X 5=eO 9 1 (.slice (sA (β 44)) 1 1) 1 ([.string ((textR s pp ff).1)]) | 5=>σ 45= .slice (sA (β 45)) (j+1) (sC (β 45))∧X 6=eO 9 1 (.slice (sA (β 45)) (j+1) (sC (β 45))) (j+1) ((Is++[(textR s pp ff).1]).map Value.string) | 6=>True | 7=>X 7=eB B6_21 48 #[vi ((numS s 4 1:Int)),vi ((numS s 5 4:Int)), .slice (sA (β 45)) (j+1) (sC (β 45))] | _=>True) [0,4,5,6,7] [1,3,4,5,7] [(40,0,7,47)] hst32 ?_ ?_ ?_))))
  ·exact fun ix _ _ _ _ _ _ hs hb hx h=>match ix,h with
   | 3,h=>by dsimp only; rw [← hs 43 rfl,← hx 4 rfl]; exact h
   | 4,h=>by dsimp only; rw [← hs 44 rfl,← hb 44 rfl,← hx 5 rfl]; exact h
   | 5,h=>by dsimp only; rw [← hs 45 rfl,← hb 45 rfl,← hx 6 rfl]; exact h
   | 7,h=>by dsimp only; rw [← hb 45 rfl,← hx 7 rfl]; exact h
   | 0, _ | 1, _ | 2, _ | 6, _ | _+8, _=>trivial
  ·refine ⟨?_,?_,?_,?_,?_,trivial⟩
   ·exact xs4 rfl id fun cx=>run_load1 rfl (by kernel_rfl) (cx.an 0) ((cx.bi 2 rfl).cell 2)
   ·refine svA fun ρ β W X cx=>?_
    refine DoesU.call (run_callF (args:=#[vp B14_11]) rfl cx.sees rfl (by kernel_rfl) (map1 (cx.an 2))) ?_
    refine (text_x _ s pp ff _ ⟨(cx.bi 1 rfl),hpp,by omega⟩).mono ?_
    rintro e W1 ⟨rfl,hrd,hu⟩
    refine ⟨_,rfl,post_mut (cx.init 1 _ rfl) rfl rfl hu hrd.1 (fun σ β' X' hs hb hv hx=>?_)⟩
    exact ⟨(hv 43 rfl).1.trans rfl,hx⟩
   ·refine svA fun ρ β W X cx=>?_
    have fF43:ρ (.tmp 43)= .string ((textR s pp ff).1):=(dTn (cx.an 3)).1
    exact dv_lit (e:=9) (xs:=[.string ((textR s pp ff).1)]) rfl (by simp [go_sem,fF43]) rfl (by decide) rfl rfl (fun σ β' X' hs hb hv hx=>⟨hv,hx⟩)
   ·refine svA fun ρ β W X cx=>?_
    obtain ⟨i0,hi0,hz0,hz1,hz2⟩:=info_parts Tryz.infoStr
    refine dv_append (n:=j) (m:=1) (nm:=j+1) (xs:=Is.map Value.string) (news:=[.string ((textR s pp ff).1)]) (xs':=(Is++[(textR s pp ff).1]).map Value.string) rfl (ty:=46) rfl (by kernel_rfl) hi0 hz0 hz1 hz2 rfl (cx.an 1) cx (cx.init 3 _ rfl) rfl (dTn (cx.an 4)).1 (by first | (simp; done) | (simp; omega)) (At.of_own (cx.row (dTn (cx.an 4)).2 rfl)) (by simp [Value.oneCell']) (by simp only [maxLen]; omega) (by omega) rfl rfl rfl (by omega) (it_snoc _ _) (fun σ β' X' hs hb hv hx=>?_)
    exact ⟨hv,hx⟩
   ·refine svA fun ρ β W X cx=>?_
    exact dv_store (n:=1) rfl (cx.an 6) (dTn (cx.an 5)).1 (by kernel_rfl) (by kernel_rfl) (by kernel_rfl) cx (cx.init 2 _ rfl) rfl (nle rfl) (by kernel_rfl) rfl rfl rfl (fun σ β' X' hs hb hx=>by rw [hb 45]; exact hx)
  intro σ β X W35 hD hst35 fr hfr
  obtain ⟨A44_35,hu_A44_35⟩:∃ z,sA (β 44)=z:=⟨_,rfl⟩
  obtain ⟨A45_35,hu_A45_35⟩:∃ z,sA (β 45)=z:=⟨_,rfl⟩
  obtain ⟨c45_35,hu_c45_35⟩:∃ z,sC (β 45)=z:=⟨_,rfl⟩
  simp only [exq 4 ((dTn (hD 3 lq)).2),exq 5 ((dTn (hD 4 lq)).2),exq 6 ((dTn (hD 5 lq)).2),exq 7 ((dTn (hD 7 lq))),hu_A44_35,hu_A45_35,hu_c45_35] at hst35
  simp only [ed 43 ((dTn (hD 3 lq)).1),ed 44 ((dTn (hD 4 lq)).1),ed 45 ((dTn (hD 5 lq)).1),hu_A44_35,hu_A45_35,hu_c45_35] at hfr
  clear hD hu_A44_35 hu_A45_35 hu_c45_35; subst hfr; clear σ β X
  refine blk_normal (then_normal (sqr (sqp [sI 47 ((j:Int)+1) (by omega), .m 38 47] ?_)))
  refine then_normal ?_
  refine ⟨numS s 9 1 - ((j+1)),by omega,?_⟩
  exact ⟨(j+1),(textR s pp ff).2.1,(textR s pp ff).2.2,(Is++[(textR s pp ff).1]),A45_35,c45_35,by omega,textR_at hpp,by rw [List.length_append,hIl]; rfl,fun x hx=>(List.mem_append.1 hx).elim (hIz x) fun h_=>by rw [List.mem_singleton.1 h_]; exact textR_le s pp ff,rfl,(by kernel_rfl),hst35.pk [0,1,4,3]⟩
 refine wp_exit (then_exit (then_exit (blk_eq (then_normal (wp_seq (wp_seq ?_))))))
 subst hIl
 have hSm:Small Is:=⟨by have h_:=numS_lt1 s 9; omega,fun x hx=>by have h_:=hIz x hx; omega⟩
 rcases hrg:rightB (numS s 4 1:Int) (numS s 5 4:Int) Is with _ | _
 ·refine sqr ?_
  refine sqlb 2 3 hst32 ?_
  refine sqk (.tuple #[.string ((⟨#[]⟩:ByteArray)),vi 22]) hst32 (fun cx=>⟨_,bytes_no hrg (pgbytes_any (numS s 4 1:Int) (numS s 5 4:Int) _ _ Is _ (At.of_own (cx.ri 3 rfl)) hSm),(map1 (cx.ou 49))⟩) fun W39 hst39=>?_
  refine sqp [.m 48 50, .k 51 (.string ((⟨#[]⟩:ByteArray))), .k 52 (vi 22), .m 7 51, .m 8 52] ?_
  refine then_normal (wp_seq (sqr (sqp [.m 53 4] ?_)))
  refine sqv (.bool ff) hst39 (by
    refine svA fun ρ β W X cx=>?_
    refine DoesU.call (run_callF (args:=#[vp B14_11]) rfl cx.sees rfl (by kernel_rfl) (map1 (cx.ou 53))) ?_
    refine (failed_any _ s pp ff _ ⟨(cx.bi 1 rfl),hpp,by omega⟩).mono ?_
    rintro e W1 ⟨rfl,rfl⟩
    refine ⟨_,rfl,post_call [] rfl rfl (Ext.refl _) (by simp) List.Pairwise.nil (fun σ β' X' hs hb hv hN=>?_)⟩
    have hv1:=(hv 54 rfl).1; have hv2:=(hv 54 rfl).2
    exact hv1.trans rfl) fun W46 hst46=>?_
  refine sqp [.m 55 54] ?_
  refine sqw 55 [56,57] rfl (fun _=>sqp [.m 56 8, .k 57 (.bool true)] sqe) ?_
  refine sqp [sPo 58 ff true, .m 59 58] ?_
  refine sqw 59 [60,61,62] rfl (fun _=>sqp [.m 60 7, .m 61 0, .k 62 (.bool (!(((⟨#[]⟩:ByteArray)).toList==s.toList)))] sqe) ?_
  have hd56:((ff||true)||(!(((⟨#[]⟩:ByteArray)).toList==s.toList)))=true:=(by cases ff<;>rfl)
  refine sqp [sPok 63 (ff||true) (!(((⟨#[]⟩:ByteArray)).toList==s.toList)) true hd56] ?_
  refine then_normal (wct rfl (wp_seq (sqr (sqp [.k 64 (.agg #[vi 0,vi 0, .slice none 0 0])] ?_))))
  refine sqst (n:=3) 0 #[vi 0,vi 0, .slice none 0 0] hst46 fun W58 hst58=>?_
  refine sqp [.k 3 (vi 22)] ?_
  refine then_normal (wp_ret (then_ret ?_))
  refine bpr (.tuple #[.agg #[vi 0,vi 0, .slice none 0 0],vi 22]) (results_2 Tryz.results44 (rpa (hst58.blk 0 rfl) 0 3) rpt) ?_
  exact BadPost.of (by decide) hst58.ext
 ·have hnb_:=ne_bytes hb hrg
  obtain ⟨tt,htt⟩:∃ z,bytesF (numS s 4 1:Int) (numS s 5 4:Int) (plainL Is)=z:=⟨_,rfl⟩
  rw [htt] at hnb_
  refine sqr ?_
  refine sqlb 2 3 hst32 ?_
  refine sqk (.tuple #[.string tt,vi 0]) hst32 (fun cx=>⟨_,bytes_yes hrg htt (pgbytes_any (numS s 4 1:Int) (numS s 5 4:Int) _ _ Is _ (At.of_own (cx.ri 3 rfl)) hSm),(map1 (cx.ou 49))⟩) fun W61 hst61=>?_
  refine sqp [.m 48 50, .k 51 (.string tt), .k 52 (vi 0), .m 7 51, .m 8 52] ?_
  refine then_normal (wp_seq (sqr (sqp [.m 53 4] ?_)))
  refine sqv (.bool ff) hst61 (by
    refine svA fun ρ β W X cx=>?_
    refine DoesU.call (run_callF (args:=#[vp B14_11]) rfl cx.sees rfl (by kernel_rfl) (map1 (cx.ou 53))) ?_
    refine (failed_any _ s pp ff _ ⟨(cx.bi 1 rfl),hpp,by omega⟩).mono ?_
    rintro e W1 ⟨rfl,rfl⟩
    refine ⟨_,rfl,post_call [] rfl rfl (Ext.refl _) (by simp) List.Pairwise.nil (fun σ β' X' hs hb hv hN=>?_)⟩
    have hv1:=(hv 54 rfl).1; have hv2:=(hv 54 rfl).2
    exact hv1.trans rfl) fun W68 hst68=>?_
  refine sqp [.m 55 54] ?_
  refine sqw 55 [56,57] rfl (fun _=>sqp [.m 56 8, .k 57 (.bool false)] sqe) ?_
  refine sqp [sPo 58 ff false, .m 59 58] ?_
  refine sqw 59 [60,61,62] rfl (fun _=>sqp [.m 60 7, .m 61 0, .k 62 (.bool (!(tt.toList==s.toList)))] sqe) ?_
  have hd78:((ff||false)||(!(tt.toList==s.toList)))=true:=(by rw [hnb_]; cases ff<;>rfl)
  refine sqp [sPok 63 (ff||false) (!(tt.toList==s.toList)) true hd78] ?_
  refine then_normal (wct rfl (wp_seq (sqr (sqp [.k 64 (.agg #[vi 0,vi 0, .slice none 0 0])] ?_))))
  refine sqst (n:=3) 0 #[vi 0,vi 0, .slice none 0 0] hst68 fun W80 hst80=>?_
  refine sqp [.k 3 (vi 22)] ?_
  refine then_normal (wp_ret (then_ret ?_))
  refine bpr (.tuple #[.agg #[vi 0,vi 0, .slice none 0 0],vi 22]) (results_2 Tryz.results44 (rpa (hst80.blk 0 rfl) 0 3) rpt) ?_
  exact BadPost.of (by decide) hst80.ext
def RxPost (s:ByteArray) (w:World):Ending→World→Prop:=match rdX s with
 | some p=>PgPost p.1 p.2.1 p.2.2 0 w
 | none=>BadPost w
theorem pgread_x (s:ByteArray) (w:World) (hs:s.size=512):Calls Tryz.prog 44 #[.string s] w (RxPost s w):=by
 unfold RxPost
 rcases h:rdX s with _ | p
 ·exact pgread_bad s w hs fun p hp=>rdX_none h p hp
 ·obtain ⟨⟨h1,h2⟩,h3⟩:=rdX_some h
  have h4:=pgread_any p.1 p.2.1 p.2.2 w h1
  rw [h2,h3] at h4
  exact h4
end
section
open Go.RowKit
def bytesP (p:PgS):ByteArray:=bytesF p.1 p.2.1 p.2.2
/-- what a disk's page reads as -/
noncomputable def rdP (s:ByteArray):PgS:=(rdX s).getD pgs0
theorem says_p {p:PgS} (h:rightP p):Says (bytesP p) p.1 p.2.1 p.2.2:=by
 have h1:=says_bytes h.1
 rw [h.2] at h1; exact h1
theorem bytes_inj {p q:PgS} (hp:rightP p) (hq:rightP q) (h:bytesP p=bytesP q):p=q:=by
 have h1:=says_p hp
 have h2:=says_p hq
 rw [← h] at h2
 obtain ⟨k,l,I⟩:=p
 obtain ⟨k',l',I'⟩:=q
 have e1:=h1.kind.symm.trans h2.kind
 have e2:=h1.lsn.symm.trans h2.lsn
 have e3:=h1.many.symm.trans h2.many
 dsimp only at e1 e2 e3 h1 h2
 subst e1 e2
 have e4:∀ j,j≤I.length→I.take j=I'.take j:=by
  intro j
  induction j with
  | zero=>intro _; rfl
  | succ j ih=>
    intro hj
    have ih:=ih (by omega)
    have t1:=(h1.text j (by omega)).2.2.1
    have t2:=(h2.text j (by omega)).2.2.1
    rw [ih] at t1
    rw [List.take_succ_eq_append_getElem (by omega),List.take_succ_eq_append_getElem (by omega),ih]
    have g1:I.getD j ByteArray.empty=I'.getD j ByteArray.empty:=t1.symm.trans t2
    rw [List.getD_eq_getElem?_getD,List.getD_eq_getElem?_getD,List.getElem?_eq_getElem (by omega),List.getElem?_eq_getElem (by omega)] at g1
    have g1:I[j]=I'[j]:=g1
    rw [g1]
 have e5:=e4 I.length (Nat.le_refl _)
 rw [List.take_length,e3,List.take_length] at e5
 rw [e5]
theorem rd_bytes {p:PgS} (h:rightP p):rdP (bytesP p)=p:=by
 unfold rdP
 rcases hx:rdX (bytesP p) with _ | q
 ·exact absurd rfl (rdX_none hx p h)
 ·obtain ⟨h1,h2⟩:=rdX_some hx
  exact bytes_inj h1 h h2
theorem bytesP_size {p:PgS} (h:rightP p):(bytesP p).size=512:=(says_p h).size
theorem zero_no (p:PgS) (h:rightP p):bytesP p≠zerosS 512:=fun he=>by
 have h1:=(says_p h).sum
 rw [he] at h1
 have h2:numS (zerosS 512) 0 4=0:=by decide+kernel
 have h3:sumF ((zerosS 512).extract 4 512)≠0:=by decide+kernel
 omega
theorem rd_zero:rdP (zerosS 512)=pgs0:=by
 unfold rdP
 rcases hx:rdX (zerosS 512) with _ | q
 ·rfl
 ·obtain ⟨h1,h2⟩:=rdX_some hx
  exact absurd h2 (zero_no q h1)
def hf1 (s:ByteArray):ByteArray:=s.extract 0 256
def hf2 (s:ByteArray):ByteArray:=s.extract 256 512
end
section
open Go.RowKit Go.Maps Go.ChangeMaps
def ptrV:Option Nat→Value
 | none=> .pointer none
 | some k=> .pointer (some ⟨k,0,none⟩)
def ptrD:Option Nat→DataW Unit
 | none=> .lit (.int .i64 (-1))
 | some k=> .lit (.int .i64 (k:Int))
def ptrR:Value→Option (DataW Unit×List MemPlace)
 | .pointer none=>some (.lit (.int .i64 (-1)),[])
 | .pointer (some ⟨k,0,none⟩)=>some (.lit (.int .i64 (k:Int)),[])
 | _=>none
theorem ptr_back (v:Value) (d:DataW Unit) (ps:List MemPlace) (e:Option Nat) (h:ptrR v=some (d,ps)) (hd:d=ptrD e):v=ptrV e:=by
 subst hd
 unfold ptrR at h
 split at h
 ·cases e with
  | none=>rfl
  | some k=>simp [ptrD] at h
 ·rename_i j
  cases e with
  | none=>simp [ptrD] at h
  | some k=>
    simp [ptrD] at h
    obtain ⟨h, _⟩:=h
    have:j=k:=by omega
    subst this; rfl
 ·cases h
def ptC:Cod (Option Nat) where
 enc:=ptrV
 dat:=ptrD
 R:=ptrR
 e0:=none
 read:=fun e=>by cases e<;>rfl
 back:=ptr_back
def ptX:Ec (Option Nat) where
 enc:=ptrV
 dat:=ptrD
 R:=ptrR
 e0:=none
 okE:=fun _=>True
 read:=fun e _=>by cases e<;>rfl
 back:=ptr_back
 ok0:=trivial
noncomputable def ecB:Ec Bool where
 enc:= .bool
 dat:=fun v=> .lit (.bool v)
 R:=plainElem Tryz.prog 4
 e0:=false
 okE:=fun _=>True
 read:=fun e _=>plainElem_bool (by kernel_rfl) e
 back:=fun v d ps e h1 h2=>by
  subst h2
  unfold plainElem at h1
  have hu:Tryz.prog.underlying 4=some .bool:=by kernel_rfl
  rw [hu] at h1
  cases v<;>simp at h1
  rw [h1.1]
 ok0:=trivial
section
variable {P:Program} {k b r n cnt:Nat} {m:Int→Option (Option Nat)} {left:Int→Bool} {cur:Option (Int×Option Nat)}
theorem kc_ok {x:Int} (h:(Lit.int .i64 x).wf=true):kcI.ok x:=by
 have h1:(decide (IntKind.i64.min≤x)&&decide (x≤IntKind.i64.max))=true:=h
 rw [Bool.and_eq_true,decide_eq_true_eq,decide_eq_true_eq] at h1
 have e1:IntKind.i64.min= -9223372036854775808:=by decide
 have e2:IntKind.i64.max=9223372036854775807:=by decide
 rw [e1,e2] at h1
 exact h1
theorem MapX.g {W:World} (h:MapX kcI ptX P k b n m W):MapG ptC P k b n m W:=by
 obtain ⟨D,h1,h2, _,h4⟩:=h
 exact ⟨D,h1,h2.isMap,fun x hx=>h4 x (kc_ok hx)⟩
/-- the map, and an iterator over it in block r -/
def eRx (P:Program) (k b r n:Nat) (m:Int→Option (Option Nat)) (left:Int→Bool) (cnt:Nat) (cur:Option (Int×Option Nat)):Ent:=⟨[b,r],fun W=>(eRg ptC P k b r n m left cnt cur).holds W∧MapX kcI ptX P k b n m W⟩
theorem eRx_loc:(eRx P k b r n m left cnt cur).loc:=fun W W' h hb=>⟨eRg_loc W W' h hb.1,eMx_loc P k b n m W W' (fun j hj=>h j (by rw [List.mem_singleton.1 hj]; simp [eRx])) hb.2⟩
theorem St.endRx {w0 W:World} {bor:List Nat} {L:List Ent} (h:St w0 bor (L++[eRx P k b r n m left cnt cur]) W):St w0 bor (L++[eMx kcI ptX P k b n m]) W:=by
 have ha:=List.pairwise_append.1 h.apart
 have ht:=h.ok (eRx P k b r n m left cnt cur) (by simp)
 refine ⟨h.upd,fun x hx=>?_,List.pairwise_append.2 ⟨ha.1,List.pairwise_singleton _ _,fun x hx y hy j hj hj2=>?_⟩⟩
 ·rcases List.mem_append.1 hx with hx | hx
  ·exact h.ok x (List.mem_append_left _ hx)
  ·rw [List.mem_singleton] at hx
   subst hx
   exact ⟨ht.holds.2,eMx_loc _ _ _ _ _,fun j hj=>ht.own j (by rw [List.mem_singleton.1 hj]; simp [eRx])⟩
 ·rw [List.mem_singleton] at hy
  subst hy
  exact ha.2.2 x hx (eRx P k b r n m left cnt cur) (by simp) j hj (by rw [List.mem_singleton.1 hj2]; simp [eRx])
end
section
variable {P:Program} {ops:Array Oper} {L:List Nat} {a0:Act} {w0:World} {bor:List Nat} {X0:List Ent} {us cr kl:List (List Nat)}
 {D:Nat→(Tmp→Value)→(Tmp→Value)→(Nat→Ent)→Prop} {i:Nat} {o:Oper} {ρ:Operand→Value} {β:Tmp→Value} {W:World} {X:Nat→Ent}
theorem CtxV.rx {q k b r n cnt:Nat} {m:Int→Option (Option Nat)} {left:Int→Bool} {cur:Option (Int×Option Nat)} (cx:CtxV ops L a0 w0 bor X0 us D i ρ β W X) (hX:X q=eRx P k b r n m left cnt cur) (hu:(atV us i).contains q=true):MapX kcI ptX P k b n m W:=by
 have h:=(cx.ok q hu).holds
 rw [hX] at h; exact h.2
theorem dv_rangeX {t k e b n d q q':Nat} {m:Int→Option (Option Nat)} {x:Operand} (h:o.op= .range t x) (hx:ρ x= .map (some b)) (cx:CtxV ops L a0 w0 bor X0 us D i ρ β W X) (hX:X q=eMx kcI ptX P k b n m) (hq:(atV us i).contains q=true) (hd:o.dst=some d) (hc:atV cr i=[q']) (hkl:atV kl i=[q])
  (hD:∀ (σ β':Tmp→Value) (X':Nat→Ent),(∀ t,t≠d→σ t=ρ (.tmp t))→(∀ t,t≠d→β' t=β t)→σ d= .pointer (some ⟨pb (β' d),0,none⟩)→X' q'=eRx P k b (pb (β' d)) n m (fun x=>(m x).isSome) n none→D i σ β' X')
  (hk:P.underlying k=some (.int .i64):=by kernel_rfl) (ht:P.underlying t=some (.map k e):=by kernel_rfl):DoesU P o ρ W (PostV cr kl D i o.dst ρ β W X):=by
 have hmx:=cx.mx hX hq
 have hlt:=hmx.lt
 obtain ⟨D0,hD0,hI,hm⟩:=hmx.g
 obtain ⟨W',hrun,hr,hg,hsz⟩:=hD0.range (int_keyed hk) ht
 have hS:((atV kl i).flatMap fun q=>(X q).fp)=[b]:=by rw [hkl]; simp [hX,eMx]
 refine DoesU.value (v:= .pointer (some ⟨W.heap.size,0,none⟩)) (w':=W') (by unfold execOp; rw [h]; simp [hx,hrun]) ⟨[eRx P k b W.heap.size n m (fun x=>(m x).isSome) n none],by rw [hc]; rfl,⟨?_,fun e' he'=>?_,List.pairwise_singleton _ _⟩,fun σ β' X' hs hv hb' hbv hx' hN=>?_⟩
 ·rw [hS]
  exact ⟨hg.os,hg.tape,hg.output,hg.size,fun j hj hn=>hg.block j hj (by simp)⟩
 ·rw [List.mem_singleton] at he'
  subst he'
  refine ⟨⟨⟨D0, _, _,hr,ranges_le hr,fun x hx=>(hm x hx).1,hI,hm,fun x hx=>hx,fun x c hc'=>by cases hc'⟩,eMx_loc P k b n m W W' (fun j hj=>hg.block j (by rw [List.mem_singleton.1 hj]; exact hlt) (by simp)) hmx⟩,eRx_loc,fun j hj=>?_⟩
  rw [hS]
  rcases (by simpa [eRx] using hj:j=b∨j=W.heap.size) with rfl | rfl
  ·exact ⟨.inl (by simp),by omega⟩
  ·exact ⟨.inr (Nat.le_refl _),by omega⟩
 ·rw [hc] at hN
  refine hD σ β' X' (fun t ht=>hs t (by rw [hd]; simpa using ht.symm)) (fun t ht=>hb' t (by rw [hd]; simpa using ht.symm)) ?_ ?_
  ·rw [hv d hd,hbv d hd]; rfl
  ·rw [hbv d hd]; exact (List.cons.inj hN).1
/-- what the step of a range hands back -/
def NxtX (P:Program) (k b r n:Nat) (m:Int→Option (Option Nat)) (left:Int→Bool) (cnt:Nat) (v:Value) (e:Ent):Prop:=
 (v= .tuple #[.bool false]∧(∀ x:Int,(Lit.int .i64 x).wf=true→left x=false)∧e=eRx P k b r n m left cnt none)∨
 ∃ (x:Int) (c:Option Nat),v= .tuple #[.bool true, .int .i64 x,ptrV c]∧(-9223372036854775808≤x∧x≤9223372036854775807)∧left x=true∧m x=some c∧0 < cnt∧e=eRx P k b r n m (fun y=>left y&&y != x) (cnt - 1) (some (x,c))
theorem dv_nextX {k b r n cnt d q q':Nat} {m:Int→Option (Option Nat)} {left:Int→Bool} {cur:Option (Int×Option Nat)} {x:Operand} (h:o.op= .next x false) (hx:ρ x= .pointer (some ⟨r,0,none⟩)) (cx:CtxV ops L a0 w0 bor X0 us D i ρ β W X) (hX:X q=eRx P k b r n m left cnt cur) (hq:(atV us i).contains q=true) (hd:o.dst=some d) (hc:atV cr i=[q']) (hkl:atV kl i=[q])
  (hD:∀ (σ β':Tmp→Value) (X':Nat→Ent),(∀ t,t≠d→σ t=ρ (.tmp t))→(∀ t,t≠d→β' t=β t)→NxtX P k b r n m left cnt (σ d) (X' q')→D i σ β' X')
  (hk:P.underlying k=some (.int .i64):=by kernel_rfl):DoesU P o ρ W (PostV cr kl D i o.dst ρ β W X):=by
 have hok:=cx.ok q hq
 rw [hX] at hok
 have hS:((atV kl i).flatMap fun q=>(X q).fp)=[b,r]:=by rw [hkl]; simp [hX,eRx]
 have hlt:∀ j∈[b,r],j < W.heap.size:=fun j hj=>(hok.own j hj).2
 obtain ⟨⟨D0,lf,c0,hr,hle,hl,hI,hm,hls,hcur⟩,hMX⟩:=hok.holds
 have hbr:b≠r:=fun e=>by
  obtain ⟨es,clock,since,seen,c1,h1,h2,h3,h4,h5,h6⟩:=hr
  rw [e,h5] at h1; cases h1
 rcases hr.next (int_keyed hk) o.type with ⟨h0,hl0,hrun⟩ | ⟨key,v,kl',y,w',cnt',hkey,hlk,hv,hat,hrun,hrg,hlt',hgr,hsz,hen⟩
 ·refine DoesU.value (v:= .tuple #[.bool false]) (w':=W) (by unfold execOp; rw [h]; simp [hx,hrun]) ⟨[eRx P k b r n m left cnt none],by rw [hc]; rfl,⟨Upd.refl _ _,fun e' he'=>?_,List.pairwise_singleton _ _⟩,fun σ β' X' hs hv hb' hbv hx' hN=>?_⟩
  ·rw [List.mem_singleton] at he'
   subst he'
   refine ⟨⟨⟨D0,lf,c0,hr,hle,hl,hI,hm,hls,fun x c hc'=>by cases hc'⟩,hMX⟩,eRx_loc,fun j hj=>?_⟩
   rw [hS]
   exact ⟨.inl hj,hlt j hj⟩
  ·rw [hc] at hN
   exact hD σ β' X' (fun t ht=>hs t (by rw [hd]; simpa using ht.symm)) (fun t ht=>hb' t (by rw [hd]; simpa using ht.symm)) (.inl ⟨hv d hd,fun x hx=>by rw [← hl x hx,hl0],(List.cons.inj hN).1⟩)
 ·obtain ⟨x0,rfl,rfl,hwx⟩:=keyOf_int_inv hk hkey
  have hx0: -9223372036854775808≤x0∧x0≤9223372036854775807:=kc_ok hwx
  have hlx:left x0=true:=by rw [← hl x0 hwx]; exact hlk
  have hso:=hls x0 hlx
  obtain ⟨c,hmc⟩:=Option.isSome_iff_exists.1 hso
  have hvc:v=ptrV c:=by
   have h2:=(hm x0 hwx).2
   rw [hat,hmc] at h2
   obtain ⟨y1,y2⟩:=y
   exact ptC.back v _ y2 _ hv h2
  subst hvc
  have hb1:∀ W2:World,W2.heap[b]? =w'.heap[b]? →W2.heap[r]? =w'.heap[r]? →(Instr.entry (.pointer (some ⟨r,0,none⟩))).run P W2= .ok (.tuple #[.int .i64 x0,ptrV c]) W2:=fun W2 e1 e2=>entry_local hrg hen e1 e2
  have hMX2:MapX kcI ptX P k b n m w':=eMx_loc P k b n m W w' (fun j hj=>by
   rw [List.mem_singleton.1 hj]
   exact hgr.block b (hlt b (by simp)) (fun e'=>by cases e'; exact hbr rfl)) hMX
  refine DoesU.value (v:= .tuple #[.bool true, .int .i64 x0,ptrV c]) (w':=w') (by unfold execOp; rw [h]; simp [hx,hrun]) ⟨[eRx P k b r n m (fun y=>left y&&y != x0) (cnt - 1) (some (x0,c))],by rw [hc]; rfl,⟨?_,fun e' he'=>?_,List.pairwise_singleton _ _⟩,fun σ β' X' hs hv hb' hbv hx' hN=>?_⟩
  ·rw [hS]
   exact ⟨hgr.os,hgr.tape,hgr.output,hgr.size,fun j hj hn=>hgr.block j hj (fun e'=>hn (by cases e'; simp))⟩
  ·rw [List.mem_singleton] at he'
   subst he'
   refine ⟨⟨⟨D0, _,cnt',hrg,by omega,fun z hz=>?_,hI,hm,fun z hz=>hls z (by simp only [Bool.and_eq_true] at hz; exact hz.1),fun x c' hc'=>?_⟩,hMX2⟩,eRx_loc,fun j hj=>?_⟩
   ·show (lf (.int .i64 z)&&!(Lit.sameKey (.int .i64 z) (.int .i64 x0)))=(left z&&z != x0)
    rw [hl z hz]
    simp [Lit.sameKey,bne,BEq.beq]
   ·cases hc'
    exact hb1
   ·rw [hS]
    exact ⟨.inl hj,by rw [hsz]; exact hlt j hj⟩
  ·rw [hc] at hN
   exact hD σ β' X' (fun t ht=>hs t (by rw [hd]; simpa using ht.symm)) (fun t ht=>hb' t (by rw [hd]; simpa using ht.symm)) (.inr ⟨x0,c,hv d hd,hx0,hlx,hmc,by omega,(List.cons.inj hN).1⟩)
theorem run_entryX {k b r n cnt:Nat} {m:Int→Option (Option Nat)} {left:Int→Bool} {x0:Int} {c:Option Nat} {x:Operand} (h:o.op= .entry x) (hx:ρ x= .pointer (some ⟨r,0,none⟩)) (hE:(eRx P k b r n m left cnt (some (x0,c))).holds W):(execOp ρ o).run P W= .ok (.value (.tuple #[.int .i64 x0,ptrV c])) W:=run_entryR h hx hE.1
/-- clear(m) -/
theorem dv_clearMx {κ ε:Type} {K:Kc κ} {C:Ec ε} {t k e b n d q q':Nat} {m:κ→Option ε} {x:Operand} (h:o.op= .call {callee:= .builtin .clear,args:=#[x],argTypes:=#[t]}) (hx:ρ x= .map (some b)) (cx:CtxV ops L a0 w0 bor X0 us D i ρ β W X) (hX:X q=eMx K C P k b n m) (hq:(atV us i).contains q=true) (hc:atV cr i=[q']) (hkl:atV kl i=[q])
  (hD:∀ (σ β':Tmp→Value) (X':Nat→Ent),(∀ t,o.dst≠some t→σ t=ρ (.tmp t))→(∀ t,o.dst≠some t→β' t=β t)→X' q'=eMx K C P k b 0 (fun _=>none)→D i σ β' X')
  (ht:P.underlying t=some (.map k e):=by kernel_rfl):DoesU P o ρ W (PostV cr kl D i o.dst ρ β W X):=by
 have hmx:=cx.mx hX hq
 have hlt:=hmx.lt
 obtain ⟨D0,⟨es,clock,h1,h2,h3⟩,h4⟩:=hmx
 have hnew:=heap_setBlock_same h1 (.map #[] clock)
 have hup:Upd [b] W (setBlock W b (.map #[] clock)):=⟨rfl,rfl,rfl,by simp [setBlock],fun i hi hn=>heap_setBlock_other h1 _ (fun e'=>hn (by simp [e']))⟩
 have hmx2:MapX K C P k b 0 (fun _=>none) (setBlock W b (.map #[] clock)):=⟨.map [],⟨#[],clock,hnew,⟨by simp,MapKept.stamped_empty clock,by simp⟩,Nat.le_refl _,rfl⟩,tidy_empty,rfl,fun x hx=>⟨rfl,rfl⟩⟩
 have hrun:(execOp ρ o).run P W= .ok (.value (.tuple #[])) (setBlock W b (.map #[] clock)):=by
  unfold execOp; rw [h]
  simp [hx,resolve,invoke,builtin,Builtin.clear_,run_underlying ht,MapKept.run_getObj_map h1,MapKept.run_setObj_map _ h1,Result.andThen,setBlock]
 obtain ⟨a1,a2,a3⟩:=post_mapX (cr:=cr) (kl:=kl) (i:=i) hX hmx2 hup hc hkl
 refine DoesU.value hrun ⟨[eMx K C P k b 0 (fun _=>none)],a1,⟨a2,a3,List.pairwise_singleton _ _⟩,fun σ β' X' hs hv hb' hbv hx' hN=>hD σ β' X' hs hb' ?_⟩
 rw [hc] at hN
 exact (List.cons.inj hN).1
end
end
section
open Go.RowKit
/-- a page whose items lie at A -/
structure PgR where
 p:PgS
 A:Option Addr
 c:Nat
/-- a buffer: page n, in block blk -/
structure BfT where
 n:Int
 blk:Nat
 pg:PgR
 dirty:Bool
 used:Int
structure StM where
 D:DkM
 bufs:Int
 pool:List BfT
 time:Int
 recs:List RcT
 ni:Nat
 im:Int→Option Bool
 nt:Nat
 told:Int→Option Bool
 frm:Int
 rows:List PgR
 rr:List RcT
abbrev StM.L (S:StM):List RecM:=S.recs.map RcT.r
def atM (l:List BfT) (x:Int):Option (Option Nat):=(l.find? fun t=>t.n==x).map fun t=>some t.blk
def setB (l:List BfT) (n:Int) (f:BfT→BfT):List BfT:=l.map fun t=>if t.n=n then f t else t
/-- the number of records that are flushed -/
def flN (L:List RecM) (fl:Nat):Nat:=(endN L L.length).countP (·< (fl:Int)+1)
abbrev StM.F (S:StM):Nat:=flN S.L S.D.fl
/-- a buffer is written -/
def wrD0 (S:StM) (t:BfT):DkM×Int:=if (S.F:Int) < t.pg.p.2.1 then opD S.D 0 flD else (S.D,0)
def clB (t:BfT):BfT:={t with dirty:=false}
def writeF (S:StM) (t:BfT):StM×Int:=
 if (wrD0 S t).2≠0 then ({S with D:=(wrD0 S t).1},(wrD0 S t).2) else
 let D1:=(wrD0 S t).1
 let R:=opD D1 (wrE D1 t.n (bytesP t.pg.p)) (wrD t.n (bytesP t.pg.p))
 ({S with D:=R.1,pool:=if R.2=0 then setB S.pool t.n clB else S.pool},R.2)
def cleanF (S:StM) (t:BfT):StM×Int:=if t.dirty=true then writeF S t else (S,0)
def useB (k:Int) (t:BfT):BfT:={t with used:=k}
def tick (S:StM):StM:={S with time:=S.time+1}
def rmB (l:List BfT) (n:Int):List BfT:=l.filter fun t=>t.n != n
/-- the pool has room behind it: t goes, where it is full -/
def evictF (S:StM) (t:BfT):StM×Int:=if S.bufs≤(S.pool.length:Int) then (if (cleanF S t).2≠0 then cleanF S t else ({(cleanF S t).1 with pool:=rmB (cleanF S t).1.pool t.n},0)) else (S,0)
noncomputable def loadN (S:StM) (n:Int) (t:BfT) (blk:Nat) (A:Option Addr) (c:Nat):StM×Int:=
 if (evictF S t).2≠0 then evictF S t else
 let pg:PgR:=⟨rdP (rdS S.D n).1,A,c⟩
 ({(evictF S t).1 with pool:=(evictF S t).1.pool++[⟨n,blk,pg,false,S.time⟩],rows:=(evictF S t).1.rows++[pg]},0)
/-- what load leaves -/
inductive LdR (S:StM) (n:Int):StM→Int→Prop where
 | hit (t:BfT) (h:t∈S.pool) (hn:t.n=n):LdR S n {tick S with pool:=setB S.pool n (useB (S.time+1))} 0
 | bad (h:∀ t∈S.pool,t.n≠n) (he:(rdS S.D n).2≠0):LdR S n (tick S) (rdS S.D n).2
 | new (t:BfT) (blk:Nat) (A:Option Addr) (c:Nat) (h:∀ t∈S.pool,t.n≠n) (he:(rdS S.D n).2=0) (ht:S.bufs≤(S.pool.length:Int)→t∈S.pool):LdR S n (loadN (tick S) n t blk A c).1 (loadN (tick S) n t blk A c).2
/-- what the disk's page n reads as -/
noncomputable def shP (D:DkM) (n:Int):PgS:=rdP (rdT (D.pgs.getD n.toNat shd0)).1
/-- what page n is, as the store sees it -/
noncomputable def curF (S:StM) (n:Int):PgS:=match S.pool.find? (fun t=>t.n==n) with
 | some t=>t.pg.p
 | none=>shP S.D n
/-- what the walks need of a store -/
structure SOk (S:StM) (c:Nat):Prop where
 bufs:1≤S.bufs∧S.bufs≤64
 pgs:S.D.pgs.length≤400
 ws:∀ x∈S.D.pgs,x.ws.length≤c
 time:0≤S.time∧S.time≤(c:Int)
 ni:S.ni≤c
 nt:S.nt≤c
 right:∀ t∈S.pool,rightP t.pg.p
 nodup:(S.pool.map BfT.n).Nodup
 len:(S.pool.length:Int)≤S.bufs
 keys:∀ t∈S.pool,0≤t.n∧t.n < (S.D.pgs.length:Int)
 recs:∀ r∈S.L,recR r=true
 log:S.D.log=logF S.L
 lsz:S.D.log.size≤1048576
 fl:S.D.fl≤S.D.log.size
 cl:∀ t∈S.pool,t.dirty=false→t.pg.p=shP S.D t.n
def entB (t:BfT):Ent:=eB t.blk 120 #[.int .i64 t.pg.p.1, .int .i64 t.pg.p.2.1, .slice t.pg.A t.pg.p.2.2.length t.pg.c, .bool t.dirty, .int .i64 t.used]
def entP (r:PgR):Ent:=eO 9 1 (.slice r.A r.p.2.2.length r.c) r.p.2.2.length (r.p.2.2.map Value.string)
def stC (db:Nat) (S:StM) (mb:Nat) (RA:Option Addr) (rc:Nat) (EA:Option Addr) (ec ib tb:Nat):Array Value:=#[.pointer (some ⟨db,0,none⟩), .int .i64 S.bufs, .map (some mb), .int .i64 S.time, .slice RA S.recs.length rc, .slice EA S.recs.length ec, .map (some ib), .map (some tb), .int .i64 S.frm]
noncomputable def stL (sb db:Nat) (S:StM) (mb:Nat) (RA:Option Addr) (rc:Nat) (EA:Option Addr) (ec ib tb:Nat) (fpd:List Nat):List Ent:=
 [eB sb 109 (stC db S mb RA rc EA ec ib tb),eMx kcI ptX Tryz.prog 3 mb S.pool.length (atM S.pool),eA (S.pool.map entB),eM (S.rows.map entP),eO 27 8 (.slice RA S.recs.length rc) S.recs.length (S.recs.flatMap rcC),
  eO 3 1 (.slice EA S.recs.length ec) S.recs.length ((endN S.L S.recs.length).map (Value.int .i64)),eRc S.rr,eMx kcI ecB Tryz.prog 3 ib S.ni S.im,eMx kcI ecB Tryz.prog 3 tb S.nt S.told,eDk db S.D fpd]
/-- a store -/
def eSt (sb db:Nat) (S:StM) (fp:List Nat):Ent:=⟨fp,fun W=>((∀ t∈S.pool,t.pg∈S.rows)∧∀ t∈S.recs,t∈S.rr)∧∃ mb RA rc EA ec ib tb fpd,fp=(stL sb db S mb RA rc EA ec ib tb fpd).flatMap (·.fp)∧(stL sb db S mb RA rc EA ec ib tb fpd).Pairwise Ent.apart∧∀ e∈stL sb db S mb RA rc EA ec ib tb fpd,e.holds W∧e.loc⟩
theorem eSt_loc (sb db:Nat) (S:StM) (fp:List Nat):(eSt sb db S fp).loc:=fun W W' hk h=>by
 obtain ⟨h0,mb,RA,rc,EA,ec,ib,tb,fpd,h1,h2,h3⟩:=h
 exact ⟨h0,mb,RA,rc,EA,ec,ib,tb,fpd,h1,h2,fun e he=>⟨(h3 e he).2 W W' (fun k hk'=>hk k (by rw [eSt,h1]; exact List.mem_flatMap.2 ⟨e,he,hk'⟩)) (h3 e he).1,(h3 e he).2⟩⟩
theorem eSt_self {e:Ent} {sb db:Nat} {S:StM} {fp:List Nat} (h:e=eSt sb db S fp):e=eSt sb db S e.fp:=by subst h; rfl
theorem St.st {w0 W:World} {bor:List Nat} {L:List Ent} {sb db:Nat} {S:StM} {mb:Nat} {RA:Option Addr} {rc:Nat} {EA:Option Addr} {ec ib tb:Nat} {fpd:List Nat} (h:St w0 bor (L++stL sb db S mb RA rc EA ec ib tb fpd) W) (h1:∀ t∈S.pool,t.pg∈S.rows) (h2:∀ t∈S.recs,t∈S.rr):∃ fp,St w0 bor (L++[eSt sb db S fp]) W:=by
 refine ⟨_,St.pack (E:=eSt sb db S ((stL sb db S mb RA rc EA ec ib tb fpd).flatMap (·.fp))) h rfl ⟨⟨h1,h2⟩,mb,RA,rc,EA,ec,ib,tb,fpd,rfl,(List.pairwise_append.1 h.apart).2.1,fun e he=>?_⟩ (eSt_loc _ _ _ _)⟩
 have h3:=h.ok e (List.mem_append_right _ he)
 exact ⟨h3.holds,h3.loc⟩
theorem St.unst {w0 W:World} {bor:List Nat} {L:List Ent} {sb db:Nat} {S:StM} {fp:List Nat} (h:St w0 bor (L++[eSt sb db S fp]) W):((∀ t∈S.pool,t.pg∈S.rows)∧∀ t∈S.recs,t∈S.rr)∧∃ mb RA rc EA ec ib tb fpd,St w0 bor (L++stL sb db S mb RA rc EA ec ib tb fpd) W:=by
 obtain ⟨h0,mb,RA,rc,EA,ec,ib,tb,fpd,h1,h2,h3⟩:=(h.ok (eSt sb db S fp) (by simp)).holds
 exact ⟨h0,mb,RA,rc,EA,ec,ib,tb,fpd,h.unpackL h1 h3 h2⟩
/-- a store of which something is known -/
def eSx (sb db:Nat) (Φ:StM→Prop) (fp:List Nat):Ent:=⟨fp,fun W=>∃ S,Φ S∧(eSt sb db S fp).holds W⟩
theorem eSx_loc (sb db:Nat) (Φ:StM→Prop) (fp:List Nat):(eSx sb db Φ fp).loc:=fun W W' hk h=>let ⟨S,h1,h2⟩:=h; ⟨S,h1,eSt_loc sb db S fp W W' hk h2⟩
theorem eSx_self {e:Ent} {sb db:Nat} {Φ:StM→Prop} {fp:List Nat} (h:e=eSx sb db Φ fp):e=eSx sb db Φ e.fp:=by subst h; rfl
theorem St.sx {w0 W:World} {bor:List Nat} {L:List Ent} {sb db:Nat} {Φ:StM→Prop} {S:StM} {fp:List Nat} (h:St w0 bor (L++[eSt sb db S fp]) W) (hS:Φ S):St w0 bor (L++[eSx sb db Φ fp]) W:=St.repl (L2:=[]) h rfl (fun h1=>⟨S,hS,h1⟩) (eSx_loc _ _ _ _)
theorem St.unsx {w0 W:World} {bor:List Nat} {L:List Ent} {sb db:Nat} {Φ:StM→Prop} {fp:List Nat} (h:St w0 bor (L++[eSx sb db Φ fp]) W):∃ S,Φ S∧St w0 bor (L++[eSt sb db S fp]) W:=by
 obtain ⟨S,h1,h2⟩:=(h.ok (eSx sb db Φ fp) (by simp)).holds
 exact ⟨S,h1,St.repl (L2:=[]) h rfl (fun _=>h2) (eSt_loc _ _ _ _)⟩
/-- a buffer taken out of the pool -/
theorem St.outB {w0 W:World} {bor:List Nat} {L:List Ent} {A B:List BfT} {t:BfT} (h:St w0 bor (L++[eA ((A++t::B).map entB)]) W):St w0 bor (L++[eA ((A++B).map entB),entB t]) W:=by
 rw [List.map_append] at h ⊢
 exact St.outA h
theorem St.inB {w0 W:World} {bor:List Nat} {L:List Ent} {A B:List BfT} {t:BfT} (h:St w0 bor (L++[eA ((A++B).map entB),entB t]) W):St w0 bor (L++[eA ((A++t::B).map entB)]) W:=by
 rw [List.map_append] at h ⊢
 exact St.inA h
theorem rowP_at {rows:List PgR} {W:World} (h:(eM (rows.map entP)).holds W) {r:PgR} (hr:r∈rows):At W r.A (r.p.2.2.map Value.string):=At.of_own (h (entP r) (List.mem_map.2 ⟨_,hr,rfl⟩)).1
/-- a page's row joins the store's -/
theorem St.absP {w0 W:World} {bor:List Nat} {L:List Ent} {sb db:Nat} {S:StM} {fp:List Nat} {r:PgR} (h:St w0 bor (L++[entP r,eSt sb db S fp]) W):∃ fp',St w0 bor (L++[eSt sb db {S with rows:=S.rows++[r]} fp']) W:=by
 have h0:St w0 bor ((L++[entP r])++[eSt sb db S fp]) W:=by rw [List.append_assoc]; exact h
 obtain ⟨⟨h1,h2⟩,mb,RA,rc,EA,ec,ib,tb,fpd,h3⟩:=h0.unst
 have h4:St w0 bor ((L++[eB sb 109 (stC db S mb RA rc EA ec ib tb),eMx kcI ptX Tryz.prog 3 mb S.pool.length (atM S.pool),eA (S.pool.map entB),eO 27 8 (.slice RA S.recs.length rc) S.recs.length (S.recs.flatMap rcC),eO 3 1 (.slice EA S.recs.length ec) S.recs.length ((endN S.L S.recs.length).map (Value.int .i64)),eRc S.rr,eMx kcI ecB Tryz.prog 3 ib S.ni S.im,eMx kcI ecB Tryz.prog 3 tb S.nt S.told,eDk db S.D fpd])++[eM (S.rows.map entP),entP r]) W:=h3.perm (by
  simp only [List.append_assoc]
  refine List.Perm.append_left L ?_
  show List.Perm [entP r,eB _ _ _,eMx _ _ _ _ _ _ _,eA _,eM _,eO _ _ _ _ _,eO _ _ _ _ _,eRc _,eMx _ _ _ _ _ _ _,eMx _ _ _ _ _ _ _,eDk _ _ _] [eB _ _ _,eMx _ _ _ _ _ _ _,eA _,eO _ _ _ _ _,eO _ _ _ _ _,eRc _,eMx _ _ _ _ _ _ _,eMx _ _ _ _ _ _ _,eDk _ _ _,eM _,entP r]
  refine (List.perm_append_comm (l₁:=[entP r]) (l₂:=[_, _, _, _, _, _, _, _, _, _])).trans ?_
  refine List.Perm.cons _ (List.Perm.cons _ (List.Perm.cons _ ?_))
  exact (List.perm_append_comm (l₁:=[_]) (l₂:=[_, _, _, _, _, _])).append_right [entP r])
 have h5:=h4.merge
 have h6:St w0 bor (L++stL sb db {S with rows:=S.rows++[r]} mb RA rc EA ec ib tb fpd) W:=h5.perm (by
  rw [List.append_assoc]
  refine List.Perm.append_left L ?_
  show List.Perm [eB _ _ _,eMx _ _ _ _ _ _ _,eA _,eO _ _ _ _ _,eO _ _ _ _ _,eRc _,eMx _ _ _ _ _ _ _,eMx _ _ _ _ _ _ _,eDk _ _ _,eM _] [eB _ _ _,eMx _ _ _ _ _ _ _,eA _,eM (List.map entP (S.rows++[r])),eO _ _ _ _ _,eO _ _ _ _ _,eRc _,eMx _ _ _ _ _ _ _,eMx _ _ _ _ _ _ _,eDk _ _ _]
  refine List.Perm.cons _ (List.Perm.cons _ (List.Perm.cons _ ?_))
  rw [List.map_append]
  exact List.perm_append_comm (l₁:=[_, _, _, _, _, _]) (l₂:=[_]))
 exact h6.st (S:={S with rows:=S.rows++[r]}) (fun t ht=>List.mem_append_left _ (h1 t ht)) h2
/-- a record's row joins the store's -/
theorem St.absR {w0 W:World} {bor:List Nat} {L:List Ent} {sb db:Nat} {S:StM} {fp:List Nat} {r:RcT} (h:St w0 bor (L++[entR r,eSt sb db S fp]) W):∃ fp',St w0 bor (L++[eSt sb db {S with rr:=S.rr++[r]} fp']) W:=by
 have h0:St w0 bor ((L++[entR r])++[eSt sb db S fp]) W:=by rw [List.append_assoc]; exact h
 obtain ⟨⟨h1,h2⟩,mb,RA,rc,EA,ec,ib,tb,fpd,h3⟩:=h0.unst
 have h4:St w0 bor ((L++[eB sb 109 (stC db S mb RA rc EA ec ib tb),eMx kcI ptX Tryz.prog 3 mb S.pool.length (atM S.pool),eA (S.pool.map entB),eM (S.rows.map entP),eO 27 8 (.slice RA S.recs.length rc) S.recs.length (S.recs.flatMap rcC),eO 3 1 (.slice EA S.recs.length ec) S.recs.length ((endN S.L S.recs.length).map (Value.int .i64)),eMx kcI ecB Tryz.prog 3 ib S.ni S.im,eMx kcI ecB Tryz.prog 3 tb S.nt S.told,eDk db S.D fpd])++[eRc S.rr,entR r]) W:=h3.perm (by
  simp only [List.append_assoc]
  refine List.Perm.append_left L ?_
  show List.Perm [entR r,eB _ _ _,eMx _ _ _ _ _ _ _,eA _,eM _,eO _ _ _ _ _,eO _ _ _ _ _,eRc _,eMx _ _ _ _ _ _ _,eMx _ _ _ _ _ _ _,eDk _ _ _] [eB _ _ _,eMx _ _ _ _ _ _ _,eA _,eM _,eO _ _ _ _ _,eO _ _ _ _ _,eMx _ _ _ _ _ _ _,eMx _ _ _ _ _ _ _,eDk _ _ _,eRc _,entR r]
  refine (List.perm_append_comm (l₁:=[entR r]) (l₂:=[_, _, _, _, _, _, _, _, _, _])).trans ?_
  refine List.Perm.cons _ (List.Perm.cons _ (List.Perm.cons _ (List.Perm.cons _ (List.Perm.cons _ (List.Perm.cons _ ?_)))))
  exact (List.perm_append_comm (l₁:=[_]) (l₂:=[_, _, _])).append_right [entR r])
 have h5:=h4.mergeR
 have h6:St w0 bor (L++stL sb db {S with rr:=S.rr++[r]} mb RA rc EA ec ib tb fpd) W:=h5.perm (by
  rw [List.append_assoc]
  refine List.Perm.append_left L ?_
  show List.Perm [eB _ _ _,eMx _ _ _ _ _ _ _,eA _,eM _,eO _ _ _ _ _,eO _ _ _ _ _,eMx _ _ _ _ _ _ _,eMx _ _ _ _ _ _ _,eDk _ _ _,eRc (S.rr++[r])] [eB _ _ _,eMx _ _ _ _ _ _ _,eA _,eM _,eO _ _ _ _ _,eO _ _ _ _ _,eRc _,eMx _ _ _ _ _ _ _,eMx _ _ _ _ _ _ _,eDk _ _ _]
  refine List.Perm.cons _ (List.Perm.cons _ (List.Perm.cons _ (List.Perm.cons _ (List.Perm.cons _ (List.Perm.cons _ ?_)))))
  exact List.perm_append_comm (l₁:=[_, _, _]) (l₂:=[_]))
 exact h6.st (S:={S with rr:=S.rr++[r]}) h1 (fun t ht=>List.mem_append_left _ (h2 t ht))
theorem atM_at {A B:List BfT} {t:BfT} (h:((A++t::B).map BfT.n).Nodup):atM (A++t::B) t.n=some (some t.blk):=by
 rw [List.map_append,List.map_cons] at h
 have h1:A.find? (fun u=>u.n==t.n)=none:=by
  rw [List.find?_eq_none]
  intro u hu hc
  have h2:=(List.nodup_append.1 h).2.2 u.n (List.mem_map.2 ⟨u,hu,rfl⟩) t.n (by simp)
  exact h2 (by simpa using hc)
 rw [atM,List.find?_append,h1]
 simp
theorem atM_none {l:List BfT} {n:Int} (h:∀ t∈l,t.n≠n):atM l n=none:=by
 rw [atM,List.find?_eq_none.2 (fun t ht=>by simpa using h t ht)]; rfl
theorem atM_some {l:List BfT} {n:Int} {v:Option Nat} (h:atM l n=some v):∃ t∈l,t.n=n∧v=some t.blk:=by
 rw [atM] at h
 obtain ⟨t,h1,rfl⟩:=Option.map_eq_some_iff.1 h
 exact ⟨t,List.mem_of_find?_eq_some h1,by simpa using List.find?_some h1,rfl⟩
theorem pool_or (l:List BfT) (n:Int):(∀ t∈l,t.n≠n)∨∃ A t B,l=A++t::B∧t.n=n:=by
 by_cases h:∃ t∈l,t.n=n
 ·obtain ⟨t,ht,hn⟩:=h
  obtain ⟨A,B,e⟩:=List.append_of_mem ht
  exact .inr ⟨A,t,B,e,hn⟩
 ·exact .inl fun t ht hn=>h ⟨t,ht,hn⟩
theorem setB_mid {A B:List BfT} {t:BfT} (h:((A++t::B).map BfT.n).Nodup) (f:BfT→BfT):setB (A++t::B) t.n f=A++f t::B:=by
 rw [List.map_append,List.map_cons] at h
 have h1:=List.nodup_append.1 h
 have h2:=List.nodup_cons.1 h1.2.1
 have hid:∀ l:List BfT,(∀ u∈l,u.n≠t.n)→l.map (fun u=>if u.n=t.n then f u else u)=l:=fun l hl=>by
  conv=>rhs; rw [← List.map_id l]
  exact List.map_congr_left fun u hu=>by rw [if_neg (hl u hu)]; rfl
 rw [setB,List.map_append,List.map_cons,if_pos rfl,hid A (fun u hu e=>h1.2.2 u.n (List.mem_map.2 ⟨u,hu,rfl⟩) t.n (by simp) e),hid B (fun u hu e=>h2.1 (List.mem_map.2 ⟨u,hu,e⟩))]
theorem rmB_mid {A B:List BfT} {t:BfT} (h:((A++t::B).map BfT.n).Nodup):rmB (A++t::B) t.n=A++B:=by
 rw [List.map_append,List.map_cons] at h
 have h1:=List.nodup_append.1 h
 have h2:=List.nodup_cons.1 h1.2.1
 have hid:∀ l:List BfT,(∀ u∈l,u.n≠t.n)→l.filter (fun u=>u.n != t.n)=l:=fun l hl=>List.filter_eq_self.2 fun u hu=>by simpa using hl u hu
 rw [rmB,List.filter_append,List.filter_cons,if_neg (by simp),hid A (fun u hu e=>h1.2.2 u.n (List.mem_map.2 ⟨u,hu,rfl⟩) t.n (by simp) e),hid B (fun u hu e=>h2.1 (List.mem_map.2 ⟨u,hu,e⟩))]
/-- the answers stay where a buffer is changed in place -/
theorem atM_set {A B:List BfT} {t u:BfT} (hn:u.n=t.n) (hb:u.blk=t.blk):atM (A++u::B)=atM (A++t::B):=by
 funext x
 rw [atM,atM,List.find?_append,List.find?_append,List.find?_cons,List.find?_cons,hn]
 cases A.find? (fun t=>t.n==x) with
 | some v=>rfl
 | none=>
   cases hx:t.n==x with
   | true=>simp [hb]
   | false=>simp
end
section
open Go.RowKit Go.Maps Go.ChangeMaps
def addR (S:StM) (pg:PgR):StM:={S with rows:=S.rows++[pg]}
section
variable {w0 W:World} {bor:List Nat} {L:List Ent} {a0 a1 a2 a3 a4 a5 a6 a7 a8 a9 a10 a11 a12 a13 a14 a15 a16 a17 a18 a19 x:Ent}
theorem St.c0 (h:St w0 bor (x::L) W):St w0 bor L W:=⟨h.upd,fun e he=>h.ok e (List.mem_cons_of_mem _ he),(List.pairwise_cons.1 h.apart).2⟩
theorem St.fr {E:Ent} {R:List Ent} (h:St w0 bor (R++L) W) (f:∀ {L'},St w0 bor (L'++R) W→St w0 bor (L'++[E]) W):St w0 bor (E::L) W:=(f (h.perm List.perm_append_comm)).perm (List.perm_append_singleton _ _)
theorem St.u1 (h:St w0 bor (a0::x::L) W):St w0 bor (x::a0::L) W:=h.perm (List.perm_middle (l₁:=[a0]))
theorem St.u2 (h:St w0 bor (a0::a1::x::L) W):St w0 bor (x::a0::a1::L) W:=h.perm (List.perm_middle (l₁:=[a0,a1]))
theorem St.u3 (h:St w0 bor (a0::a1::a2::x::L) W):St w0 bor (x::a0::a1::a2::L) W:=h.perm (List.perm_middle (l₁:=[a0,a1,a2]))
theorem St.u4 (h:St w0 bor (a0::a1::a2::a3::x::L) W):St w0 bor (x::a0::a1::a2::a3::L) W:=h.perm (List.perm_middle (l₁:=[a0,a1,a2,a3]))
theorem St.u5 (h:St w0 bor (a0::a1::a2::a3::a4::x::L) W):St w0 bor (x::a0::a1::a2::a3::a4::L) W:=h.perm (List.perm_middle (l₁:=[a0,a1,a2,a3,a4]))
theorem St.u6 (h:St w0 bor (a0::a1::a2::a3::a4::a5::x::L) W):St w0 bor (x::a0::a1::a2::a3::a4::a5::L) W:=h.perm (List.perm_middle (l₁:=[a0,a1,a2,a3,a4,a5]))
theorem St.u7 (h:St w0 bor (a0::a1::a2::a3::a4::a5::a6::x::L) W):St w0 bor (x::a0::a1::a2::a3::a4::a5::a6::L) W:=h.perm (List.perm_middle (l₁:=[a0,a1,a2,a3,a4,a5,a6]))
theorem St.u8 (h:St w0 bor (a0::a1::a2::a3::a4::a5::a6::a7::x::L) W):St w0 bor (x::a0::a1::a2::a3::a4::a5::a6::a7::L) W:=h.perm (List.perm_middle (l₁:=[a0,a1,a2,a3,a4,a5,a6,a7]))
theorem St.u9 (h:St w0 bor (a0::a1::a2::a3::a4::a5::a6::a7::a8::x::L) W):St w0 bor (x::a0::a1::a2::a3::a4::a5::a6::a7::a8::L) W:=h.perm (List.perm_middle (l₁:=[a0,a1,a2,a3,a4,a5,a6,a7,a8]))
theorem St.u10 (h:St w0 bor (a0::a1::a2::a3::a4::a5::a6::a7::a8::a9::x::L) W):St w0 bor (x::a0::a1::a2::a3::a4::a5::a6::a7::a8::a9::L) W:=h.perm (List.perm_middle (l₁:=[a0,a1,a2,a3,a4,a5,a6,a7,a8,a9]))
theorem St.u11 (h:St w0 bor (a0::a1::a2::a3::a4::a5::a6::a7::a8::a9::a10::x::L) W):St w0 bor (x::a0::a1::a2::a3::a4::a5::a6::a7::a8::a9::a10::L) W:=h.perm (List.perm_middle (l₁:=[a0,a1,a2,a3,a4,a5,a6,a7,a8,a9,a10]))
theorem St.u13 (h:St w0 bor (a0::a1::a2::a3::a4::a5::a6::a7::a8::a9::a10::a11::a12::x::L) W):St w0 bor (x::a0::a1::a2::a3::a4::a5::a6::a7::a8::a9::a10::a11::a12::L) W:=h.perm (List.perm_middle (l₁:=[a0,a1,a2,a3,a4,a5,a6,a7,a8,a9,a10,a11,a12]))
theorem St.u14 (h:St w0 bor (a0::a1::a2::a3::a4::a5::a6::a7::a8::a9::a10::a11::a12::a13::x::L) W):St w0 bor (x::a0::a1::a2::a3::a4::a5::a6::a7::a8::a9::a10::a11::a12::a13::L) W:=h.perm (List.perm_middle (l₁:=[a0,a1,a2,a3,a4,a5,a6,a7,a8,a9,a10,a11,a12,a13]))
theorem St.u16 (h:St w0 bor (a0::a1::a2::a3::a4::a5::a6::a7::a8::a9::a10::a11::a12::a13::a14::a15::x::L) W):St w0 bor (x::a0::a1::a2::a3::a4::a5::a6::a7::a8::a9::a10::a11::a12::a13::a14::a15::L) W:=h.perm (List.perm_middle (l₁:=[a0,a1,a2,a3,a4,a5,a6,a7,a8,a9,a10,a11,a12,a13,a14,a15]))
variable {sb db:Nat} {S:StM} {fp:List Nat}
theorem St.unf (h:St w0 bor (eSt sb db S fp::L) W):((∀ t∈S.pool,t.pg∈S.rows)∧∀ t∈S.recs,t∈S.rr)∧∃ mb RA rc EA ec ib tb fpd,St w0 bor (eB sb 109 #[vp db,vi S.bufs, .map (some mb),vi S.time, .slice RA S.recs.length rc, .slice EA S.recs.length ec, .map (some ib), .map (some tb),vi S.frm]::eMx kcI ptX Tryz.prog 3 mb S.pool.length (atM S.pool)::eA (List.map entB S.pool)::eM (List.map entP S.rows)::eO 27 8 (.slice RA S.recs.length rc) S.recs.length (S.recs.flatMap rcC)::eO 3 1 (.slice EA S.recs.length ec) S.recs.length ((endN S.L S.recs.length).map (Value.int .i64))::eRc S.rr::eMx kcI ecB Tryz.prog 3 ib S.ni S.im::eMx kcI ecB Tryz.prog 3 tb S.nt S.told::eDk db S.D fpd::L) W:=by
 obtain ⟨h0,mb,RA,rc,EA,ec,ib,tb,fpd,h1⟩:=St.unst (h.perm (List.perm_append_singleton _ L).symm)
 exact ⟨h0,mb,RA,rc,EA,ec,ib,tb,fpd,h1.perm List.perm_append_comm⟩
theorem St.stf {mb:Nat} {RA:Option Addr} {rc:Nat} {EA:Option Addr} {ec ib tb:Nat} {fpd:List Nat} (h:St w0 bor (stL sb db S mb RA rc EA ec ib tb fpd++L) W) (h1:∀ t∈S.pool,t.pg∈S.rows) (h2:∀ t∈S.recs,t∈S.rr):∃ fp,St w0 bor (eSt sb db S fp::L) W:=by
 obtain ⟨fp,h3⟩:=St.st (h.perm List.perm_append_comm) h1 h2
 exact ⟨fp,h3.perm (List.perm_append_singleton _ _)⟩
theorem St.unx {Φ:StM→Prop} (h:St w0 bor (eSx sb db Φ fp::L) W):∃ S,Φ S∧St w0 bor (eSt sb db S fp::L) W:=by
 obtain ⟨S,h1,h2⟩:=St.unsx (h.perm (List.perm_append_singleton _ L).symm)
 exact ⟨S,h1,h2.perm (List.perm_append_singleton _ _)⟩
theorem St.obf {A B:List BfT} {t:BfT} (h:St w0 bor (eA (List.map entB (A++t::B))::L) W):St w0 bor (eA (List.map entB (A++B))::eB t.blk 120 #[vi t.pg.p.1,vi t.pg.p.2.1, .slice t.pg.A t.pg.p.2.2.length t.pg.c, .bool t.dirty,vi t.used]::L) W:=
 (St.outB (h.perm (List.perm_append_singleton _ L).symm)).perm List.perm_append_comm
theorem St.ibf {A B:List BfT} {t:BfT} (h:St w0 bor (eA (List.map entB (A++B))::entB t::L) W):St w0 bor (eA (List.map entB (A++t::B))::L) W:=St.fr (R:=[_, _]) h St.inB
theorem St.apf {l:List PgR} {r:PgR} (h:St w0 bor (eM (List.map entP l)::entP r::L) W):St w0 bor (eM (List.map entP (l++[r]))::L) W:=St.fr (R:=[_, _]) h (fun h=>by rw [List.map_append]; exact St.merge h)
theorem St.abf {l:List BfT} {t:BfT} (h:St w0 bor (eA (List.map entB l)::entB t::L) W):St w0 bor (eA (List.map entB (l++[t]))::L) W:=St.ibf (A:=l) (B:=[]) (by rw [List.append_nil]; exact h)
theorem St.erf {P:Program} {k b r n cnt:Nat} {m:Int→Option (Option Nat)} {left:Int→Bool} {cur:Option (Int×Option Nat)} (h:St w0 bor (eRx P k b r n m left cnt cur::L) W):St w0 bor (eMx kcI ptX P k b n m::L) W:=(St.endRx (h.perm (List.perm_append_singleton _ L).symm)).perm (List.perm_append_singleton _ _)
theorem St.nA {α:Type} (f:α→Ent) (h:St w0 bor L W):St w0 bor (eA (List.map f [])::L) W:=(St.packA (R:=[]) (by rw [List.append_nil]; exact h)).perm (List.perm_append_singleton _ _)
theorem St.nM {α:Type} (f:α→Ent) (h:St w0 bor L W):St w0 bor (eM (List.map f [])::L) W:=h.emNil.perm (List.perm_append_singleton _ _)
theorem St.rPf {r:PgR} (h:St w0 bor (entP r::eSt sb db S fp::L) W):∃ fp',St w0 bor (eSt sb db (addR S r) fp'::L) W:=by
 obtain ⟨f,h1⟩:=St.absP (L:=L) (h.perm (List.perm_append_comm (l₁:=[_, _])))
 exact ⟨f,h1.perm (List.perm_append_singleton _ _)⟩
theorem St.rRn {r:RcT} (h:St w0 bor (entR r::eSt sb db S fp::L) W):∃ S2 fp',{S with rr:=S.rr++[r]}=S2∧St w0 bor (eSt sb db S2 fp'::L) W:=by
 obtain ⟨f,h1⟩:=St.absR (L:=L) (h.perm (List.perm_append_comm (l₁:=[_, _])))
 exact ⟨_,f,rfl,h1.perm (List.perm_append_singleton _ _)⟩
end
end
section
open Go.RowKit
/-- a row: no address, or a whole block's -/
def RowAt (W:World) (A:Option Addr) (xs:List Value):Prop:=(A=none∧xs=[])∨∃ g,A=some ⟨g,0,none⟩∧At W A xs
theorem RowAt.ext {W W':World} {A:Option Addr} {xs:List Value} (h:RowAt W A xs) (hx:Ext W W'):RowAt W' A xs:=h.imp id fun ⟨g,h1,h3⟩=>⟨g,h1,h3.ext hx⟩
theorem RowAt.own {W:World} {A:Option Addr} {n c base:Nat} {xs:List Value} {e:TypeId} (h:W.ownsRow base e 1 (.slice A n c) n xs):RowAt W A xs:=by
 have hA:=At.of_own h
 have hl:=h.1
 rcases h.2 with ⟨hv,h0⟩ | ⟨g,cap,cur,hv, _⟩
 ·injection hv with h1 h2 h3
  exact .inl ⟨h1,List.eq_nil_of_length_eq_zero (by omega)⟩
 ·injection hv with h1 h2 h3
  exact .inr ⟨g,h1,hA⟩
/-- a store that is only read -/
structure StO (W:World) (sb db:Nat) (S:StM) (mb:Nat) (RA:Option Addr) (rc:Nat) (EA:Option Addr) (ec ib tb:Nat):Prop where
 blk:Blk W sb 109 (stC db S mb RA rc EA ec ib tb)
 dk:DkAt W db S.D
 recs:At W RA (S.recs.flatMap rcC)
 ends:RowAt W EA ((endN S.L S.recs.length).map (Value.int .i64))
 own:∀ t∈S.rr,At W t.A (t.r.eds.flatMap edC)
def StAt (W:World) (sb db:Nat) (S:StM):Prop:=∃ mb RA rc EA ec ib tb,StO W sb db S mb RA rc EA ec ib tb
theorem StO.blkL {W:World} {sb db:Nat} {S:StM} {mb:Nat} {RA:Option Addr} {rc:Nat} {EA:Option Addr} {ec ib tb:Nat} (h:StO W sb db S mb RA rc EA ec ib tb):Blk W sb 109 #[.pointer (some ⟨db,0,none⟩), .int .i64 S.bufs, .map (some mb), .int .i64 S.time, .slice RA S.recs.length rc, .slice EA S.recs.length ec, .map (some ib), .map (some tb), .int .i64 S.frm]:=h.blk
theorem StO.ext {W W':World} {sb db:Nat} {S:StM} {mb:Nat} {RA:Option Addr} {rc:Nat} {EA:Option Addr} {ec ib tb:Nat} (h:StO W sb db S mb RA rc EA ec ib tb) (hx:Ext W W'):StO W' sb db S mb RA rc EA ec ib tb:=⟨h.blk.ext hx,h.dk.ext hx,h.recs.ext hx,h.ends.ext hx,fun t ht=>(h.own t ht).ext hx⟩
theorem StAt.ext {W W':World} {sb db:Nat} {S:StM} (h:StAt W sb db S) (hx:Ext W W'):StAt W' sb db S:=let ⟨mb,RA,rc,EA,ec,ib,tb,h1⟩:=h; ⟨mb,RA,rc,EA,ec,ib,tb,h1.ext hx⟩
theorem stL_at {W:World} {sb db:Nat} {S:StM} {mb:Nat} {RA:Option Addr} {rc:Nat} {EA:Option Addr} {ec ib tb:Nat} {fpd:List Nat} (h:∀ e∈stL sb db S mb RA rc EA ec ib tb fpd,e.holds W):StO W sb db S mb RA rc EA ec ib tb:=
 ⟨h (eB sb 109 (stC db S mb RA rc EA ec ib tb)) (by simp [stL]),eDk_at (h (eDk db S.D fpd) (by simp [stL])),At.of_ownN (h (eO 27 8 (.slice RA S.recs.length rc) S.recs.length (S.recs.flatMap rcC)) (by simp [stL])),
  RowAt.own (h (eO 3 1 (.slice EA S.recs.length ec) S.recs.length ((endN S.L S.recs.length).map (Value.int .i64))) (by simp [stL])),fun t ht=>eRc_at (h (eRc S.rr) (by simp [stL])) ht⟩
theorem eSt_at {W:World} {sb db:Nat} {S:StM} {fp:List Nat} (h:(eSt sb db S fp).holds W):StAt W sb db S:=by
 obtain ⟨_,mb,RA,rc,EA,ec,ib,tb,fpd, _, _,h3⟩:=h
 exact ⟨mb,RA,rc,EA,ec,ib,tb,stL_at fun e he=>(h3 e he).1⟩
theorem szF_mono (L:List RecM) {i j:Nat} (h:i≤j):szF (L.take i)≤szF (L.take j):=by
 have e:L.take j=L.take i++(L.take j).drop i:=by
  have h1:=List.take_append_drop i (L.take j)
  rw [List.take_take,Nat.min_eq_left h] at h1
  exact h1.symm
 rw [e,szF,szF,List.map_append,List.sum_append]
 omega
theorem endN_sorted (L:List RecM) (j:Nat):(endN L j).Pairwise (·≤·):=by
 rw [endN,List.pairwise_map]
 refine List.Pairwise.imp ?_ (List.pairwise_lt_range (n:=j))
 intro a b h
 have h1:=szF_mono L (i:=a+1) (j:=b+1) (by omega)
 omega
theorem kbsearch_any (EA:Option Addr) (ec:Nat) (L:List RecM) (x:Int) (w:World) (hA:RowAt w EA ((endN L L.length).map (Value.int .i64))) (hL:L.length < 4611686018427387904):
  Calls Tryz.prog 67 #[.slice EA L.length ec, .int .i64 x] w (fun e w'=>∃ b,Ret (.tuple #[.int .i64 (((endN L L.length).countP (·< x):Nat):Int), .bool b]) w e w'):=by
 rcases Nat.eq_zero_or_pos L.length with h0 | h0
 ·obtain rfl:L=[]:=List.eq_nil_of_length_eq_zero h0
  refine (Tryz.slices_BinarySearch_int_empty EA ec x w).mono ?_
  rintro e w' ⟨rfl,rfl⟩
  exact ⟨false,Ret.of rfl (Ext.refl _)⟩
 ·rcases hA with ⟨_,h1⟩ | ⟨g,rfl,hA⟩
  ·have:=congrArg List.length h1
   rw [List.length_map,endN_len] at this
   have h2:L.length=0:=this
   omega
  refine (Tryz.slices_BinarySearch_int g 0 L.length ec (endN L L.length) x w (by rw [endN_len]; exact Nat.le_refl _) hL (fun j hj=>?_) ?_).mono ?_
  ·obtain ⟨ad,e1, _,e3⟩:=hA j (.int .i64 ((endN L L.length).getD j 0)) (by rw [List.getElem?_map,List.getD_eq_getElem?_getD,List.getElem?_eq_getElem hj]; rfl)
   cases e1
   rw [Addr.add_lit] at e3
   exact e3
  ·rw [List.take_of_length_le (by rw [endN_len]; exact Nat.le_refl _)]; exact endN_sorted _ _
  ·rintro e w' ⟨rfl,q,rfl⟩
   rw [List.take_of_length_le (by rw [endN_len]; exact Nat.le_refl _)]
   exact ⟨_,Ret.of rfl ((Ext.refl w).drewN _)⟩
def tB1:Value→Bool
 | .tuple a=>(match (a.getD 1 undef) with | .bool b=>b | _=>false)
 | _=>false
theorem len_ends {S:StM} {W:World} {EA:Option Addr} (h:RowAt W EA ((endN S.L S.recs.length).map (Value.int .i64))):RowAt W EA ((endN S.L S.L.length).map (Value.int .i64)):=by
 rw [StM.L,List.length_map]; exact h
theorem bs_len {S:StM} {w:World} {EA:Option Addr} {ec:Nat} {x:Int} {Q:Ending→World→Prop} (h:Calls Tryz.prog 67 #[.slice EA S.L.length ec, .int .i64 x] w Q):Calls Tryz.prog 67 #[.slice EA S.recs.length ec, .int .i64 x] w Q:=by
 rw [StM.L,List.length_map] at h; exact h
theorem sfrom_o (sb db:Nat) (S:StM) (mb:Nat) (RA:Option Addr) (rc:Nat) (EA:Option Addr) (ec ib tb:Nat) (w:World) (hB:StO w sb db S mb RA rc EA ec ib tb):
  Calls Tryz.prog 45 #[.pointer (some ⟨sb,0,none⟩)] w (Ret (.int .i64 S.frm) w):=by
 go_enter Tryz.func45,Tryz.ntmps45
 have hst0:=St.start w
 refine wp_seq (sqr (sqp [.k 2 (vi 0)] ?_))
 refine then_normal (wp_seq (wp_seq (sqr (sqp [.m 3 0] ?_))))
 refine sqv (.bool false) hst0 (by
   exact sv0 rfl rfl rfl rfl rfl (fun _ _ _ h=>h) fun ρ β W X cx=>by
    have fF3:ρ (.tmp 3)=vp sb:=(cx.ou 3)
    simp [go_sem,cx.sees.const,fF3]) fun W3 hst3=>?_
 refine then_normal (wcf rfl (wp_skip (then_normal (wp_seq (sqr (sqp [.m 5 0, .k 6 (vp sb), .k 7 (.pointer (some ⟨sb,8,none⟩))] ?_))))))
 refine sql (vi S.frm) hst3 (fun cx=>run_load1 rfl (by kernel_rfl) (cx.ou 7) ((Blk.ext hB.blkL cx.upd.to_ext).cell 8)) ?_
 refine sqp [.m 2 8] ?_
 refine then_normal (wp_ret ?_)
 refine bpr (vi S.frm) (results_1 Tryz.results45 rpt) ?_
 exact Ret.of rfl hst3.ext
theorem spages_o (sb db:Nat) (S:StM) (mb:Nat) (RA:Option Addr) (rc:Nat) (EA:Option Addr) (ec ib tb:Nat) (w:World) (hB:StO w sb db S mb RA rc EA ec ib tb):
  Calls Tryz.prog 24 #[.pointer (some ⟨sb,0,none⟩)] w (Ret (.int .i64 (S.D.pgs.length:Int)) w):=by
 go_enter Tryz.func24,Tryz.ntmps24
 have hst0:=St.start w
 refine wp_seq (sqr (sqp [.k 2 (vi 0)] ?_))
 refine then_normal (wp_seq (wp_seq (sqr (sqp [.m 3 0] ?_))))
 refine sqv (.bool false) hst0 (by
   exact sv0 rfl rfl rfl rfl rfl (fun _ _ _ h=>h) fun ρ β W X cx=>by
    have fF3:ρ (.tmp 3)=vp sb:=(cx.ou 3)
    simp [go_sem,cx.sees.const,fF3]) fun W3 hst3=>?_
 refine then_normal (wcf rfl (wp_skip (then_normal (wp_seq (sqr (sqp [.m 5 0, .k 6 (vp sb), .k 7 (vp sb)] ?_))))))
 refine sql (vp db) hst3 (fun cx=>run_load1 rfl (by kernel_rfl) (cx.ou 7) ((Blk.ext hB.blkL cx.upd.to_ext).cell 0)) ?_
 refine sqk (vi ((S.D.pgs.length:Int))) hst3 (fun cx=>⟨_,kpages_any db S.D _ (hB.dk.ext cx.upd.to_ext),(map1 (cx.ou 8))⟩) fun W8 hst8=>?_
 refine sqp [.m 2 9] ?_
 refine then_normal (wp_ret ?_)
 refine bpr (vi ((S.D.pgs.length:Int))) (results_1 Tryz.results24 rpt) ?_
 exact Ret.of rfl hst8.ext
theorem sflushed_o (sb db:Nat) (S:StM) (mb:Nat) (RA:Option Addr) (rc:Nat) (EA:Option Addr) (ec ib tb:Nat) (w:World) (hB:StO w sb db S mb RA rc EA ec ib tb) (hL0:S.L.length < 4611686018427387904) (hfl:S.D.fl≤10000000):
  Calls Tryz.prog 26 #[.pointer (some ⟨sb,0,none⟩)] w (Ret (.int .i64 (S.F:Int)) w):=by
 go_enter Tryz.func26,Tryz.ntmps26
 have hst0:=St.start w
 refine wp_seq (sqr (sqp [.k 2 (vi 0)] ?_))
 refine then_normal (wp_seq (wp_seq (sqr (sqp [.m 5 0] ?_))))
 refine sqv (.bool false) hst0 (by
   exact sv0 rfl rfl rfl rfl rfl (fun _ _ _ h=>h) fun ρ β W X cx=>by
    have fF5:ρ (.tmp 5)=vp sb:=(cx.ou 5)
    simp [go_sem,cx.sees.const,fF5]) fun W3 hst3=>?_
 refine then_normal (wcf rfl (wp_skip (then_normal (wp_seq (wp_region_Y [0,1,3,7,0,16,48,112,240,496,1023,2047,4095,4095,8191,32767] [] [] [] [.k 8 (vp sb), .k 9 (vp sb), .k 10 (.pointer (some ⟨sb,5,none⟩)), .c 11 (.slice EA S.recs.length ec), .k 12 (vp sb), .k 13 (vp sb), .k 14 (vp sb), .c 15 (vp db), .c 16 (vi ((S.D.fl:Int))),tI 17 ((S.D.fl:Int)+1) (by omega), .a 18, .a 7, .c 19 (vi ((S.F:Int))), .a 20, .k 3 (vi ((S.F:Int))), .a 4] (fun ix σ β X=>match ix with | 0=>True | 1=>True | 2=>True | 3=>True | 4=>True | 5=>True | 6=>True | 7=>True | 8=>True | 9=>True | 10=>σ 18= .tuple #[vi ((S.F:Int)), .bool (tB1 (β 18))] | 11=>σ 7= .tuple #[vi ((S.F:Int)), .bool (tB1 (β 18))] | 12=>True | 13=>σ 20= .bool (tB1 (β 18)) | 14=>True | 15=>σ 4= .bool (tB1 (β 18)) | _=>True) [] [3,7,8,10,11,12,13,15] [(3,14,2,5),(2,11,1,3),(0,0,11,11),(0,12,2,2)] hst3 ?_ ?_ ?_)))))
 ·exact fun ix _ _ _ _ _ _ hs hb hx h=>match ix,h with
  | 10,h=>by dsimp only; rw [← hs 18 rfl,← hb 18 rfl]; exact h
  | 11,h=>by dsimp only; rw [← hs 7 rfl,← hb 18 rfl]; exact h
  | 13,h=>by dsimp only; rw [← hs 20 rfl,← hb 18 rfl]; exact h
  | 15,h=>by dsimp only; rw [← hs 4 rfl,← hb 18 rfl]; exact h
  | 0, _ | 1, _ | 2, _ | 3, _ | 4, _ | 5, _ | 6, _ | 7, _ | 8, _ | 9, _ | 12, _ | 14, _ | _+16, _=>trivial
 ·refine ⟨?_,?_,?_,?_,?_,?_,?_,?_,trivial⟩
  ·exact xs4 rfl id fun cx=>run_load1 rfl (by kernel_rfl) (cx.an 2) ((Blk.ext hB.blkL cx.upd.to_ext).cell 5)
  ·exact xs4 rfl id fun cx=>run_load1 rfl (by kernel_rfl) (cx.an 6) ((Blk.ext hB.blkL cx.upd.to_ext).cell 0)
  ·exact xsc rfl id rfl rfl fun cx=>⟨_,kflushed_any db S.D _ (hB.dk.ext cx.upd.to_ext),(map1 (cx.an 7))⟩
  ·refine svA fun ρ β W X cx=>?_
   refine DoesU.call (run_callF (args:=#[.slice EA S.recs.length ec,vi ((S.D.fl:Int)+1)]) rfl cx.sees rfl (by kernel_rfl) (map2 (cx.an 3) (cx.an 9))) ?_
   refine (bs_len (kbsearch_any EA ec S.L ((S.D.fl:Int)+1) _ (len_ends (hB.ends.ext cx.upd.to_ext)) hL0)).mono ?_
   rintro e W1 ⟨b4,rfl,hx⟩
   refine ⟨_,rfl,post_call [] rfl rfl hx (by simp) List.Pairwise.nil (fun σ β' X' hs hb hv hN=>?_)⟩
   have hv1:=(hv 18 rfl).1; have hv2:=(hv 18 rfl).2
   exact hv1.trans (by rw [hv2]; exact rfl)
  ·exact sv rfl rfl rfl rfl rfl _ (fun _ _ _ h=>h) (fun β β' h=>by rw [h 18 (by decide)]) fun ρ β W X cx=>run_move' rfl (dTn (cx.an 10))
  ·exact xs4 rfl id fun cx=>run_extract' rfl (dTn (cx.an 11)) rfl
  ·exact sv rfl rfl rfl rfl rfl _ (fun _ _ _ h=>h) (fun β β' h=>by rw [h 18 (by decide)]) fun ρ β W X cx=>run_extract' rfl (dTn (cx.an 11)) rfl
  ·exact sv rfl rfl rfl rfl rfl _ (fun _ _ _ h=>h) (fun β β' h=>by rw [h 18 (by decide)]) fun ρ β W X cx=>run_assign' rfl (dTn (cx.an 13))
 intro σ β X W4 hD hst4 fr hfr
 obtain ⟨b18_4,hu_b18_4⟩:∃ z,tB1 (β 18)=z:=⟨_,rfl⟩
 simp only [ed 18 ((dTn (hD 10 lq))),ed 7 ((dTn (hD 11 lq))),ed 20 ((dTn (hD 13 lq))),ed 4 ((dTn (hD 15 lq))),hu_b18_4] at hfr
 clear hD hu_b18_4; subst hfr; clear σ β X
 refine then_normal (wp_seq (sqr (sqp [.m 21 3, .m 2 21] ?_)))
 refine then_normal (wp_ret ?_)
 refine bpr (vi ((S.F:Int))) (results_1 Tryz.results26 rpt) ?_
 exact Ret.of rfl hst4.ext
theorem sfrom_any (sb db:Nat) (S:StM) (w:World) (h:StAt w sb db S):Calls Tryz.prog 45 #[.pointer (some ⟨sb,0,none⟩)] w (Ret (.int .i64 S.frm) w):=by
 obtain ⟨mb,RA,rc,EA,ec,ib,tb,h1⟩:=h
 exact sfrom_o sb db S mb RA rc EA ec ib tb w h1
theorem spages_any (sb db:Nat) (S:StM) (w:World) (h:StAt w sb db S):Calls Tryz.prog 24 #[.pointer (some ⟨sb,0,none⟩)] w (Ret (.int .i64 (S.D.pgs.length:Int)) w):=by
 obtain ⟨mb,RA,rc,EA,ec,ib,tb,h1⟩:=h
 exact spages_o sb db S mb RA rc EA ec ib tb w h1
theorem sflushed_any (sb db:Nat) (S:StM) (w:World) (h:StAt w sb db S) (hL0:S.L.length < 4611686018427387904) (hfl:S.D.fl≤10000000):Calls Tryz.prog 26 #[.pointer (some ⟨sb,0,none⟩)] w (Ret (.int .i64 (S.F:Int)) w):=by
 obtain ⟨mb,RA,rc,EA,ec,ib,tb,h1⟩:=h
 exact sflushed_o sb db S mb RA rc EA ec ib tb w h1 hL0 hfl
theorem slast_nil (w:World):
  Calls Tryz.prog 23 #[.pointer none] w (Ret (.int .i64 0) w):=by
 go_enter Tryz.func23,Tryz.ntmps23
 have hst0:=St.start w
 refine wp_seq (sqr (sqp [.k 2 (vi 0)] ?_))
 refine then_normal (wp_seq (wp_seq (sqr (sqp [.m 3 0] ?_))))
 refine sqv (.bool true) hst0 (by
   exact sv0 rfl rfl rfl rfl rfl (fun _ _ _ h=>h) fun ρ β W X cx=>by
    have fF3:ρ (.tmp 3)= .pointer none:=(cx.ou 3)
    simp [go_sem,cx.sees.const,fF3]) fun W3 hst3=>?_
 refine then_normal (wct rfl (wp_seq (sqr (sqp [.k 2 (vi 0)] ?_))))
 refine then_normal (wp_ret (then_ret ?_))
 refine bpr (vi 0) (results_1 Tryz.results23 rpt) ?_
 exact Ret.of rfl hst3.ext
theorem spages_nil (w:World):
  Calls Tryz.prog 24 #[.pointer none] w (Ret (.int .i64 0) w):=by
 go_enter Tryz.func24,Tryz.ntmps24
 have hst0:=St.start w
 refine wp_seq (sqr (sqp [.k 2 (vi 0)] ?_))
 refine then_normal (wp_seq (wp_seq (sqr (sqp [.m 3 0] ?_))))
 refine sqv (.bool true) hst0 (by
   exact sv0 rfl rfl rfl rfl rfl (fun _ _ _ h=>h) fun ρ β W X cx=>by
    have fF3:ρ (.tmp 3)= .pointer none:=(cx.ou 3)
    simp [go_sem,cx.sees.const,fF3]) fun W3 hst3=>?_
 refine then_normal (wct rfl (wp_seq (sqr (sqp [.k 2 (vi 0)] ?_))))
 refine then_normal (wp_ret (then_ret ?_))
 refine bpr (vi 0) (results_1 Tryz.results24 rpt) ?_
 exact Ret.of rfl hst3.ext
theorem sflushed_nil (w:World):
  Calls Tryz.prog 26 #[.pointer none] w (Ret (.int .i64 0) w):=by
 go_enter Tryz.func26,Tryz.ntmps26
 have hst0:=St.start w
 refine wp_seq (sqr (sqp [.k 2 (vi 0)] ?_))
 refine then_normal (wp_seq (wp_seq (sqr (sqp [.m 5 0] ?_))))
 refine sqv (.bool true) hst0 (by
   exact sv0 rfl rfl rfl rfl rfl (fun _ _ _ h=>h) fun ρ β W X cx=>by
    have fF5:ρ (.tmp 5)= .pointer none:=(cx.ou 5)
    simp [go_sem,cx.sees.const,fF5]) fun W3 hst3=>?_
 refine then_normal (wct rfl (wp_seq (sqr (sqp [.k 2 (vi 0)] ?_))))
 refine then_normal (wp_ret (then_ret ?_))
 refine bpr (vi 0) (results_1 Tryz.results26 rpt) ?_
 exact Ret.of rfl hst3.ext
theorem snote_nil (w:World):
  Calls Tryz.prog 25 #[.pointer none] w (Ret (.string ⟨#[]⟩) w):=by
 go_enter Tryz.func25,Tryz.ntmps25
 have hst0:=St.start w
 refine wp_seq (sqr (sqp [.k 2 (.string ⟨#[]⟩)] ?_))
 refine then_normal (wp_seq (wp_seq (sqr (sqp [.m 3 0] ?_))))
 refine sqv (.bool true) hst0 (by
   exact sv0 rfl rfl rfl rfl rfl (fun _ _ _ h=>h) fun ρ β W X cx=>by
    have fF3:ρ (.tmp 3)= .pointer none:=(cx.ou 3)
    simp [go_sem,cx.sees.const,fF3]) fun W3 hst3=>?_
 refine then_normal (wct rfl (wp_seq (sqr (sqp [.k 2 (.string ⟨#[]⟩)] ?_))))
 refine then_normal (wp_ret (then_ret ?_))
 refine bpr (.string ⟨#[]⟩) (results_1 Tryz.results25 rpt) ?_
 exact Ret.of rfl hst3.ext
theorem snote_o (sb db:Nat) (S:StM) (mb:Nat) (RA:Option Addr) (rc:Nat) (EA:Option Addr) (ec ib tb:Nat) (k:Nat) (rt:RcT) (w:World) (hB:StO w sb db S mb RA rc EA ec ib tb) (hk:S.frm=(k:Int)+1) (hrt:S.recs[k]? =some rt) (hL0:S.recs.length < 4611686018427387904):
  Calls Tryz.prog 25 #[.pointer (some ⟨sb,0,none⟩)] w (Ret (.string rt.r.note) w):=by
 have hbk:Blk w sb 109 #[.pointer (some ⟨db,0,none⟩), .int .i64 S.bufs, .map (some mb), .int .i64 S.time, .slice RA S.recs.length rc, .slice EA S.recs.length ec, .map (some ib), .map (some tb), .int .i64 ((k:Int)+1)]:=by rw [← hk]; exact hB.blkL
 have hkl:=(List.getElem?_eq_some_iff.1 hrt).1
 go_enter Tryz.func25,Tryz.ntmps25
 have hst0:=St.start w
 refine wp_seq (sqr (sqp [.k 2 (.string ⟨#[]⟩)] ?_))
 refine then_normal (wp_seq (wp_seq (sqr (sqp [.m 3 0] ?_))))
 refine sqv (.bool false) hst0 (by
   exact sv0 rfl rfl rfl rfl rfl (fun _ _ _ h=>h) fun ρ β W X cx=>by
    have fF3:ρ (.tmp 3)=vp sb:=(cx.ou 3)
    simp [go_sem,cx.sees.const,fF3]) fun W3 hst3=>?_
 refine then_normal (wcf rfl (wp_skip (then_normal (wp_seq (wp_region_Z [0,1,3,7,0,16,48,112,240,511,1023,2047,4095] [] [.k 5 (vp sb), .k 6 (vp sb), .k 7 (.pointer (some ⟨sb,4,none⟩)), .c 8 (.slice RA S.recs.length rc), .k 9 (vp sb), .k 10 (vp sb), .k 11 (.pointer (some ⟨sb,8,none⟩)), .c 12 (vi ((k:Int)+1)),tJ 13 (((k:Int)+1) - 1) (k:Int) (by omega) (by omega), .c 14 (.pointer (some ((ad RA).add (k*8)))), .c 15 (.pointer (some ((ad RA).add (k*8+7)))), .c 16 (.string rt.r.note), .k 2 (.string rt.r.note)] [] [3,7,9,10,11] [(2,12,1,3),(2,0,12,14)] hst3 ?_ fun W4 hst4=>?_)))))
 ·refine ⟨?_,?_,?_,?_,?_,trivial⟩
  ·exact xs4 rfl id fun cx=>run_load1 rfl (by kernel_rfl) (cx.an 2) ((Blk.ext hbk cx.upd.to_ext).cell 4)
  ·exact xs4 rfl id fun cx=>run_load1 rfl (by kernel_rfl) (cx.an 6) ((Blk.ext hbk cx.upd.to_ext).cell 8)
  ·exact xs4 rfl id fun cx=>run_indexSlM (e:=27) (m:=k) (sz:=8) rfl (by kernel_rfl) (by kernel_rfl) (cx.an 3) (cx.an 8) (by omega) (by omega) (hB.recs.ext cx.upd.to_ext) (flatPos (sz:=8) rcC_len (by decide) (by omega))
  ·exact xs4 rfl id fun cx=>run_fieldAd rfl (by kernel_rfl) (cx.an 9)
  ·exact xs4 rfl id fun cx=>run_load1 rfl (by kernel_rfl) (cx.an 10) (At.eltc (f:=rcC) (k:=7) rcC_len (hB.recs.ext cx.upd.to_ext) hrt rfl)
 refine then_normal (wp_ret ?_)
 refine bpr (.string rt.r.note) (results_1 Tryz.results25 rpt) ?_
 exact Ret.of rfl hst4.ext
theorem snote_any (sb db:Nat) (S:StM) (k:Nat) (rt:RcT) (w:World) (h:StAt w sb db S) (hk:S.frm=(k:Int)+1) (hrt:S.recs[k]? =some rt) (hL0:S.recs.length < 4611686018427387904):Calls Tryz.prog 25 #[.pointer (some ⟨sb,0,none⟩)] w (Ret (.string rt.r.note) w):=by
 obtain ⟨mb,RA,rc,EA,ec,ib,tb,h1⟩:=h
 exact snote_o sb db S mb RA rc EA ec ib tb k rt w h1 hk hrt hL0
end
section
open Go.RowKit
def StPost (sb db:Nat) (R:StM×Int) (fp:List Nat) (w:World) (e:Ending) (w':World):Prop:=e= .returned (.int .i64 R.2)∧∃ fp',St w fp [eSt sb db R.1 fp'] w'
theorem StPost.of {sb db:Nat} {R R':StM×Int} {fp fp':List Nat} {w w':World} (h:R=R') (hs:St w fp ([]++[eSt sb db R'.1 fp']) w'):StPost sb db R fp w (.returned (.int .i64 R'.2)) w':=by
 subst h; exact ⟨rfl, _,hs⟩
theorem writeF_a {S:StM} {t:BfT} (h:(S.F:Int) < t.pg.p.2.1) (h2:(opD S.D 0 flD).2≠0):writeF S t=({S with D:=(opD S.D 0 flD).1},(opD S.D 0 flD).2):=by
 have e:wrD0 S t=opD S.D 0 flD:=if_pos h
 rw [writeF,e,if_pos h2]
theorem writeF_b {S:StM} {t:BfT} {D1:DkM} (h:wrD0 S t=(D1,0)) {R:DkM×Int} (hR:opD D1 (wrE D1 t.n (bytesP t.pg.p)) (wrD t.n (bytesP t.pg.p))=R) (h2:R.2≠0):writeF S t=({S with D:=R.1},R.2):=by
 subst hR
 rw [writeF,h,if_neg (by simp)]
 dsimp only
 rw [if_neg h2]
theorem writeF_c {S:StM} {A B:List BfT} {t:BfT} {D1:DkM} (h:wrD0 S t=(D1,0)) {R:DkM×Int} (hR:opD D1 (wrE D1 t.n (bytesP t.pg.p)) (wrD t.n (bytesP t.pg.p))=R) (h2:R.2=0) (hp:S.pool=A++t::B) (hd:((A++t::B).map BfT.n).Nodup):writeF S t=({S with D:=R.1,pool:=A++clB t::B},R.2):=by
 subst hR
 rw [writeF,h,if_neg (by simp)]
 dsimp only
 rw [if_pos h2,hp,setB_mid hd]
theorem wrD0_no {S:StM} {t:BfT} (h:¬ (S.F:Int) < t.pg.p.2.1):wrD0 S t=(S.D,0):=if_neg h
theorem wrD0_yes {S:StM} {t:BfT} (h:(S.F:Int) < t.pg.p.2.1) (h2:(opD S.D 0 flD).2=0):wrD0 S t=((opD S.D 0 flD).1,0):=by
 rw [wrD0,if_pos h]; exact Prod.ext rfl h2
theorem opD_pgs0 (D:DkM):(opD D 0 flD).1.pgs=D.pgs:=by unfold opD; split<;>first | rfl | (split<;>first | rfl | (split<;>rfl))
theorem hrw_cl {S:StM} {A B:List BfT} {t:BfT} (hAB:S.pool=A++t::B) (hrw:∀ t∈S.pool,t.pg∈S.rows):∀ u∈A++clB t::B,u.pg∈S.rows:=fun u hu=>by
 rcases List.mem_append.1 hu with h | h
 ·exact hrw u (by rw [hAB]; simp [h])
 ·rcases List.mem_cons.1 h with rfl | h
  ·exact hrw t (by rw [hAB]; simp)
  ·exact hrw u (by rw [hAB]; simp [h])
theorem swrite_any (sb db:Nat) (S:StM) (A B:List BfT) (t:BfT) (c:Nat) (fp:List Nat) (w:World) (hB:(eSt sb db S fp).holds w) (hlt:∀ k∈fp,k < w.heap.size) (hok:SOk S c) (hc:c≤900000000) (hAB:S.pool=A++t::B):
  Calls Tryz.prog 138 #[.pointer (some ⟨sb,0,none⟩), .int .i64 t.n, .pointer (some ⟨t.blk,0,none⟩)] w (StPost sb db (writeF S t) fp w):=by
 have st1:St w fp [eSt sb db S fp] w:=St.lend hB (eSt_loc _ _ _ _) hlt
 go_enter Tryz.func138,Tryz.ntmps138
 have hst0:=st1
 obtain ⟨⟨hrw,hrr⟩,mb,RA,rc,EA,ec,ib,tb,fpd,hv1_⟩:=hst0.unf
 rw [hAB] at hv1_
 have ho2_:=St.obf (t:=t) hv1_.u2
 have htm:t∈S.pool:=by rw [hAB]; simp
 have hri:=hok.right t htm
 have hrt:=hrw t htm
 have hw:∀ x∈S.D.pgs,x.ws.length≤1000000000:=fun x hx=>Nat.le_trans (hok.ws x hx) (by omega)
 have hlz:=hok.lsz
 have hfz:=hok.fl
 have hll:S.L.length≤1048576:=by have h1:=szF_len hok.recs; have h2:=hok.log; have h3:=congrArg ByteArray.size h2; rw [logF_size] at h3; omega
 have hrpp:=right_parts hri.1
 refine wp_seq (sqr (sqp [.k 6 (vi 0)] ?_))
 refine then_normal (wp_seq (wp_seq (wp_region_Z [0,1,3,7,15,0,32,127] [[],[],[],[],[1],[],[2,10,5,6,7]] [.k 10 (.pointer (some ⟨t.blk,0,none⟩)), .k 11 (.pointer (some ⟨t.blk,0,none⟩)), .k 12 (.pointer (some ⟨t.blk,0,none⟩)), .k 13 (.pointer (some ⟨t.blk,1,none⟩)), .c 14 (vi t.pg.p.2.1), .k 15 (vp sb), .c 16 (vi ((S.F:Int))), .k 17 (.bool (decide ((S.F:Int) < t.pg.p.2.1)))] [0,1,2,3,4,5,6,7,8,9,10] [4,6] [(10,0,8,18)] ho2_ ?_ fun W4 hst4=>?_)))
 ·refine ⟨?_,?_,trivial⟩
  ·exact xs4 rfl id fun cx=>run_load1 rfl (by kernel_rfl) (cx.an 3) ((cx.bi 1 rfl).cell 1)
  ·exact xsc rfl id rfl rfl fun cx=>⟨_,sflushed_any sb db S _ ⟨_, _, _, _, _, _, _,⟨(cx.bi 2 rfl),eDk_at (CtxV.holdF cx (cx.init 10 _ rfl) rfl),At.of_ownN (cx.ri 5 rfl),RowAt.own (cx.ri 6 rfl),fun t ht=>eRc_at (CtxV.holdF cx (cx.init 7 _ rfl) rfl) ht⟩⟩ (by omega) (by omega),(map1 (cx.an 5))⟩
 refine then_normal (wds (fun hs5 hs5p=>?_) fun hs5 hs5p=>?_)
 ·refine wp_seq (sqr (sqp [.m 18 0, .k 19 (vp sb), .k 20 (vp sb)] ?_))
  refine sqld 2 hst4 ?_
  refine sqc0s (fun X_=>X_.fp) (vi ((opD S.D 0 flD).2)) (fun r11_10=>eDk db ((opD S.D 0 flD).1) r11_10) 10 hst4 (by
    refine svA fun ρ β W X cx=>?_
    refine DoesU.call (run_callF (args:=#[vp db]) rfl cx.sees rfl (by kernel_rfl) (map1 (cx.ou 21))) ?_
    refine (kflush_any db S.D _ _ (CtxV.holdF cx (cx.init 10 _ rfl) rfl) (CtxV.ltF cx (cx.init 10 _ rfl) rfl) (by omega)).mono ?_
    rintro e W1 ⟨rfl,fp4,hs4⟩
    refine ⟨_,rfl,post_obj (E:=eDk db S.D fpd) [eDk db (opD S.D 0 flD).1 fp4] (cx.init 10 _ rfl) rfl rfl hs4 (fun σ β' X' hs hb hv hN=>?_)⟩
    have hv1:=(hv 22 rfl).1; have hv2:=(hv 22 rfl).2
    exact ⟨hv1.trans rfl,eDk_self ((List.cons.inj hN).1)⟩) fun r11_10 W10 hst10=>?_
  refine sqp [.m 7 22] ?_
  refine then_normal (wp_seq (sqr (sqp [.m 23 7, .k 24 (.bool (((opD S.D 0 flD).2) != 0))] ?_)))
  refine then_normal (wbs (fun hs14=>?_) fun hs14=>?_)
  ·have hs14p:=bne_iff_ne.1 hs14
   refine wp_seq (sqr (sqp [.m 25 7, .m 6 25] ?_))
   refine then_normal (wp_ret (then_ret ?_))
   refine bpr (vi ((opD S.D 0 flD).2)) (results_1 Tryz.results138 rpt) ?_
   have hi17_:=St.ibf (t:=t) hst10
   obtain ⟨fp18_,hk18_⟩:=St.stf (S:={S with D:=(opD S.D 0 flD).1}) (by have h_:=hi17_.u2.u2; rw [← hAB] at h_; exact h_) (hrw) (hrr)
   exact StPost.of (writeF_a (of_decide_eq_true hs5) (by simpa using hs14)) hk18_
  have hs14p:=bne_eq_false_iff_eq.1 hs14
  refine wp_skip (then_normal (wp_seq ?_))
  have hD1:=wrD0_yes (of_decide_eq_true hs5) (by simpa using hs14)
  have hw2:∀ x∈(opD S.D 0 flD).1.pgs,x.ws.length≤1000000000:=by rw [opD_pgs0]; exact hw
  refine sqr (sqp [.m 27 2, .k 28 (.pointer (some ⟨t.blk,0,none⟩)), .k 29 (.pointer (some ⟨t.blk,0,none⟩))] ?_)
  refine sqlb 1 3 hst10 ?_
  refine sqk (.tuple #[.string (bytesP t.pg.p),vi 0]) hst10 (fun cx=>⟨_,pgbytes_s (says_p hri) _ _ _ (rowP_at (CtxV.holdF cx (cx.init 4 _ rfl) rfl) hrt) (right_small hri.1),(map1 (cx.ou 30))⟩) fun W23 hst23=>?_
  refine sqp [.m 26 31, .k 32 (.string (bytesP t.pg.p)), .k 33 (vi 0), .m 8 32, .m 9 33] ?_
  refine then_normal (wp_seq (wp_seq (sqr (sqp [.m 34 9, .k 35 (.bool true)] ?_))))
  refine then_normal (wct rfl (sqr (sqp [.m 36 0, .k 37 (vp sb), .k 38 (vp sb)] ?_)))
  refine sqld 2 hst23 ?_
  refine sqp [.m 40 1, .m 41 8] ?_
  refine sqc0s (fun X_=>X_.fp) (vi ((opD ((opD S.D 0 flD).1) (wrE ((opD S.D 0 flD).1) t.n (bytesP t.pg.p)) (wrD t.n (bytesP t.pg.p))).2)) (fun r11_37=>eDk db ((opD ((opD S.D 0 flD).1) (wrE ((opD S.D 0 flD).1) t.n (bytesP t.pg.p)) (wrD t.n (bytesP t.pg.p))).1) r11_37) 10 hst23 (by
    refine svA fun ρ β W X cx=>?_
    refine DoesU.call (run_callF (args:=#[vp db,vi t.n, .string (bytesP t.pg.p)]) rfl cx.sees rfl (by kernel_rfl) (map3 (cx.ou 39) (cx.ou 40) (cx.ou 41))) ?_
    refine (kwrite_any db ((opD S.D 0 flD).1) t.n (bytesP t.pg.p) _ _ (CtxV.holdF cx (cx.init 10 _ rfl) rfl) (CtxV.ltF cx (cx.init 10 _ rfl) rfl) hw2).mono ?_
    rintro e W1 ⟨rfl,fp4,hs4⟩
    refine ⟨_,rfl,post_obj (E:=eDk db ((opD S.D 0 flD).1) r11_10) [eDk db (opD ((opD S.D 0 flD).1) (wrE ((opD S.D 0 flD).1) t.n (bytesP t.pg.p)) (wrD t.n (bytesP t.pg.p))).1 fp4] (cx.init 10 _ rfl) rfl rfl hs4 (fun σ β' X' hs hb hv hN=>?_)⟩
    have hv1:=(hv 42 rfl).1; have hv2:=(hv 42 rfl).2
    exact ⟨hv1.trans rfl,eDk_self ((List.cons.inj hN).1)⟩) fun r11_37 W37 hst37=>?_
  refine sqp [.m 9 42] ?_
  refine then_normal (wp_seq (wp_seq (sqr (sqp [.m 43 9, .k 44 (.bool (((opD ((opD S.D 0 flD).1) (wrE ((opD S.D 0 flD).1) t.n (bytesP t.pg.p)) (wrD t.n (bytesP t.pg.p))).2)==0))] ?_))))
  refine then_normal (wbs (fun hs41=>?_) fun hs41=>?_)
  ·have hs41p:=beq_iff_eq.1 hs41
   refine sqr (sqp [.m 45 2, .k 46 (.pointer (some ⟨t.blk,0,none⟩)), .k 47 (.pointer (some ⟨t.blk,3,none⟩))] ?_)
   refine sqst (n:=1) 1 #[vi t.pg.p.1,vi t.pg.p.2.1, .slice t.pg.A t.pg.p.2.2.length t.pg.c, .bool false,vi t.used] hst37 fun W45 hst45=>?_
   refine then_normal (wp_seq (sqr (sqp [.m 48 9, .m 6 48] ?_)))
   refine then_normal (wp_ret ?_)
   refine bpr (vi ((opD ((opD S.D 0 flD).1) (wrE ((opD S.D 0 flD).1) t.n (bytesP t.pg.p)) (wrD t.n (bytesP t.pg.p))).2)) (results_1 Tryz.results138 rpt) ?_
   have hi48_:=St.ibf (t:=(clB t)) hst45
   obtain ⟨fp49_,hk49_⟩:=St.stf (S:={S with D:=(opD ((opD S.D 0 flD).1) (wrE ((opD S.D 0 flD).1) t.n (bytesP t.pg.p)) (wrD t.n (bytesP t.pg.p))).1,pool:=A++clB t::B}) (by have h_:=hi48_.u2.u2; rw [← atM_set (A:=A) (B:=B) (t:=t) (u:=clB t) rfl rfl,show (A++t::B).length=(A++clB t::B).length by simp] at h_; exact h_) (fun u hu=>hrw_cl hAB hrw u hu) (hrr)
   exact StPost.of (writeF_c hD1 rfl (by simpa using hs41) hAB (by rw [← hAB]; exact hok.nodup)) hk49_
  have hs41p:=beq_eq_false_iff_ne.1 hs41
  refine wp_skip (then_normal (wp_seq (sqr (sqp [.m 48 9, .m 6 48] ?_))))
  refine then_normal (wp_ret ?_)
  refine bpr (vi ((opD ((opD S.D 0 flD).1) (wrE ((opD S.D 0 flD).1) t.n (bytesP t.pg.p)) (wrD t.n (bytesP t.pg.p))).2)) (results_1 Tryz.results138 rpt) ?_
  have hi52_:=St.ibf (t:=t) hst37
  obtain ⟨fp53_,hk53_⟩:=St.stf (S:={S with D:=(opD ((opD S.D 0 flD).1) (wrE ((opD S.D 0 flD).1) t.n (bytesP t.pg.p)) (wrD t.n (bytesP t.pg.p))).1}) (by have h_:=hi52_.u2.u2; rw [← hAB] at h_; exact h_) (hrw) (hrr)
  exact StPost.of (writeF_b hD1 rfl (by simpa using hs41)) hk53_
 refine wp_skip (then_normal (wp_seq ?_))
 have hD1:=wrD0_no (of_decide_eq_false hs5)
 refine sqr (sqp [.m 27 2, .k 28 (.pointer (some ⟨t.blk,0,none⟩)), .k 29 (.pointer (some ⟨t.blk,0,none⟩))] ?_)
 refine sqlb 1 3 hst4 ?_
 refine sqk (.tuple #[.string (bytesP t.pg.p),vi 0]) hst4 (fun cx=>⟨_,pgbytes_s (says_p hri) _ _ _ (rowP_at (CtxV.holdF cx (cx.init 4 _ rfl) rfl) hrt) (right_small hri.1),(map1 (cx.ou 30))⟩) fun W58 hst58=>?_
 refine sqp [.m 26 31, .k 32 (.string (bytesP t.pg.p)), .k 33 (vi 0), .m 8 32, .m 9 33] ?_
 refine then_normal (wp_seq (wp_seq (sqr (sqp [.m 34 9, .k 35 (.bool true)] ?_))))
 refine then_normal (wct rfl (sqr (sqp [.m 36 0, .k 37 (vp sb), .k 38 (vp sb)] ?_)))
 refine sqld 2 hst58 ?_
 refine sqp [.m 40 1, .m 41 8] ?_
 refine sqc0s (fun X_=>X_.fp) (vi ((opD S.D (wrE S.D t.n (bytesP t.pg.p)) (wrD t.n (bytesP t.pg.p))).2)) (fun r11_72=>eDk db ((opD S.D (wrE S.D t.n (bytesP t.pg.p)) (wrD t.n (bytesP t.pg.p))).1) r11_72) 10 hst58 (by
   refine svA fun ρ β W X cx=>?_
   refine DoesU.call (run_callF (args:=#[vp db,vi t.n, .string (bytesP t.pg.p)]) rfl cx.sees rfl (by kernel_rfl) (map3 (cx.ou 39) (cx.ou 40) (cx.ou 41))) ?_
   refine (kwrite_any db S.D t.n (bytesP t.pg.p) _ _ (CtxV.holdF cx (cx.init 10 _ rfl) rfl) (CtxV.ltF cx (cx.init 10 _ rfl) rfl) hw).mono ?_
   rintro e W1 ⟨rfl,fp4,hs4⟩
   refine ⟨_,rfl,post_obj (E:=eDk db S.D fpd) [eDk db (opD S.D (wrE S.D t.n (bytesP t.pg.p)) (wrD t.n (bytesP t.pg.p))).1 fp4] (cx.init 10 _ rfl) rfl rfl hs4 (fun σ β' X' hs hb hv hN=>?_)⟩
   have hv1:=(hv 42 rfl).1; have hv2:=(hv 42 rfl).2
   exact ⟨hv1.trans rfl,eDk_self ((List.cons.inj hN).1)⟩) fun r11_72 W72 hst72=>?_
 refine sqp [.m 9 42] ?_
 refine then_normal (wp_seq (wp_seq (sqr (sqp [.m 43 9, .k 44 (.bool (((opD S.D (wrE S.D t.n (bytesP t.pg.p)) (wrD t.n (bytesP t.pg.p))).2)==0))] ?_))))
 refine then_normal (wbs (fun hs76=>?_) fun hs76=>?_)
 ·have hs76p:=beq_iff_eq.1 hs76
  refine sqr (sqp [.m 45 2, .k 46 (.pointer (some ⟨t.blk,0,none⟩)), .k 47 (.pointer (some ⟨t.blk,3,none⟩))] ?_)
  refine sqst (n:=1) 1 #[vi t.pg.p.1,vi t.pg.p.2.1, .slice t.pg.A t.pg.p.2.2.length t.pg.c, .bool false,vi t.used] hst72 fun W80 hst80=>?_
  refine then_normal (wp_seq (sqr (sqp [.m 48 9, .m 6 48] ?_)))
  refine then_normal (wp_ret ?_)
  refine bpr (vi ((opD S.D (wrE S.D t.n (bytesP t.pg.p)) (wrD t.n (bytesP t.pg.p))).2)) (results_1 Tryz.results138 rpt) ?_
  have hi83_:=St.ibf (t:=(clB t)) hst80
  obtain ⟨fp84_,hk84_⟩:=St.stf (S:={S with D:=(opD S.D (wrE S.D t.n (bytesP t.pg.p)) (wrD t.n (bytesP t.pg.p))).1,pool:=A++clB t::B}) (by have h_:=hi83_.u2.u2; rw [← atM_set (A:=A) (B:=B) (t:=t) (u:=clB t) rfl rfl,show (A++t::B).length=(A++clB t::B).length by simp] at h_; exact h_) (fun u hu=>hrw_cl hAB hrw u hu) (hrr)
  exact StPost.of (writeF_c hD1 rfl (by simpa using hs76) hAB (by rw [← hAB]; exact hok.nodup)) hk84_
 have hs76p:=beq_eq_false_iff_ne.1 hs76
 refine wp_skip (then_normal (wp_seq (sqr (sqp [.m 48 9, .m 6 48] ?_))))
 refine then_normal (wp_ret ?_)
 refine bpr (vi ((opD S.D (wrE S.D t.n (bytesP t.pg.p)) (wrD t.n (bytesP t.pg.p))).2)) (results_1 Tryz.results138 rpt) ?_
 have hi87_:=St.ibf (t:=t) hst72
 obtain ⟨fp88_,hk88_⟩:=St.stf (S:={S with D:=(opD S.D (wrE S.D t.n (bytesP t.pg.p)) (wrD t.n (bytesP t.pg.p))).1}) (by have h_:=hi87_.u2.u2; rw [← hAB] at h_; exact h_) (hrw) (hrr)
 exact StPost.of (writeF_b hD1 rfl (by simpa using hs76)) hk88_
theorem sclean_any (sb db:Nat) (S:StM) (A B:List BfT) (t:BfT) (c:Nat) (fp:List Nat) (w:World) (hB:(eSt sb db S fp).holds w) (hlt:∀ k∈fp,k < w.heap.size) (hok:SOk S c) (hc:c≤900000000) (hAB:S.pool=A++t::B):
  Calls Tryz.prog 72 #[.pointer (some ⟨sb,0,none⟩), .int .i64 t.n] w (StPost sb db (cleanF S t) fp w):=by
 have st1:St w fp [eSt sb db S fp] w:=St.lend hB (eSt_loc _ _ _ _) hlt
 go_enter Tryz.func72,Tryz.ntmps72
 have hst0:=st1
 obtain ⟨⟨hrw,hrr⟩,mb,RA,rc,EA,ec,ib,tb,fpd,hv1_⟩:=hst0.unf
 rw [hAB] at hv1_
 have ho2_:=St.obf (t:=t) hv1_.u2
 have htm:t∈S.pool:=by rw [hAB]; simp
 have hki:kcI.ok t.n:=by have:=hok.keys t htm; have:=hok.pgs; constructor<;>omega
 have hnd:((A++t::B).map BfT.n).Nodup:=by rw [← hAB]; exact hok.nodup
 refine wp_seq (sqr (sqp [.k 4 (vi 0)] ?_))
 refine then_normal (wp_seq (wp_seq (sqr (sqp [.m 6 0, .k 7 (vp sb), .k 8 (.pointer (some ⟨sb,2,none⟩))] ?_))))
 refine sqld 2 ho2_ ?_
 refine sqp [.m 10 1] ?_
 refine sql (.pointer (some ⟨t.blk,0,none⟩)) ho2_ (fun cx=>(run_lookMx (e:=115) (C:=ptX) (K:=kcI) (x:=t.n) rfl (cx.ou 9) (cx.ou 10) (CtxV.mx cx (cx.init 3 _ rfl) rfl) (h0:=by rfl) (hx:=hki) (hk:=show Program.underlying _ _= _ from by kernel_rfl)).trans (by rw [atM_at hnd]; rfl)) ?_
 refine sqp [.m 5 11] ?_
 refine then_normal (wp_seq (sqr (sqp [.m 12 5, .k 13 (.pointer (some ⟨t.blk,0,none⟩)), .k 14 (.pointer (some ⟨t.blk,3,none⟩))] ?_)))
 refine sqld 1 ho2_ ?_
 refine then_normal (wbs (fun hs15=>?_) fun hs15=>?_)
 ·refine wp_seq ?_
  have hi16_:=St.ibf (t:=t) ho2_
  obtain ⟨fp17_,hk17_⟩:=St.stf (S:=S) (by have h_:=hi16_.u2.u2; rw [← hAB] at h_; exact h_) (hrw) (hrr)
  refine sqr (sqp [.m 16 0, .m 17 1, .m 18 5] ?_)
  refine sqc0s (fun X_=>X_.fp) (vi ((writeF S t).2)) (fun r1_21=>eSt sb db ((writeF S t).1) r1_21) 0 hk17_ (by
    refine svA fun ρ β W X cx=>?_
    refine DoesU.call (run_callF (args:=#[vp sb,vi t.n, .pointer (some ⟨t.blk,0,none⟩)]) rfl cx.sees rfl (by kernel_rfl) (map3 (cx.ou 16) (cx.ou 17) (cx.ou 18))) ?_
    refine (swrite_any sb db S A B t c _ _ (CtxV.holdF cx (cx.init 0 _ rfl) rfl) (CtxV.ltF cx (cx.init 0 _ rfl) rfl) hok hc hAB).mono ?_
    rintro e W1 ⟨rfl,fp4,hs4⟩
    refine ⟨_,rfl,post_obj (E:=eSt sb db S fp17_) [eSt sb db (writeF S t).1 fp4] (cx.init 0 _ rfl) rfl rfl hs4 (fun σ β' X' hs hb hv hN=>?_)⟩
    have hv1:=(hv 19 rfl).1; have hv2:=(hv 19 rfl).2
    exact ⟨hv1.trans rfl,eSt_self ((List.cons.inj hN).1)⟩) fun r1_21 W21 hst21=>?_
  refine sqp [.m 4 19] ?_
  refine then_normal (wp_ret (then_ret ?_))
  refine bpr (vi ((writeF S t).2)) (results_1 Tryz.results72 rpt) ?_
  exact StPost.of (by rw [cleanF,if_pos hs15]) hst21
 refine wp_skip (then_normal (wp_seq (sqr (sqp [.k 4 (vi 0)] ?_))))
 refine then_normal (wp_ret ?_)
 refine bpr (vi 0) (results_1 Tryz.results72 rpt) ?_
 have hi24_:=St.ibf (t:=t) ho2_
 obtain ⟨fp25_,hk25_⟩:=St.stf (S:=S) (by have h_:=hi24_.u2.u2; rw [← hAB] at h_; exact h_) (hrw) (hrr)
 exact StPost.of (R':=(S,0)) (by rw [cleanF,if_neg (by rw [hs15]; decide)]) hk25_
end
section
open Go.RowKit
theorem opD_ind {P:DkM→Prop} {D:DkM} {er:Int} {f:DkM→DkM} (h0:P D) (h1:P {D with off:=true}) (h2:er=0→P (f {D with left:=decL D.left})):P (opD D er f).1:=by
 unfold opD
 split
 ·exact h0
 ·split
  ·exact h0
  ·rename_i he
   split
   ·exact h1
   ·exact h2 (by simpa using he)
/-- an operation that went well -/
theorem opD_ok {D:DkM} {er:Int} {f:DkM→DkM} (h:(opD D er f).2=0):D.off=false∧er=0∧(opD D er f).1=f {D with left:=decL D.left}:=by
 unfold opD at h ⊢
 split at h
 ·cases h
 ·rename_i ho
  rw [if_neg ho]
  split at h
  ·rename_i he; exact absurd h he
  ·rename_i he
   rw [if_neg he]
   split at h
   ·cases h
   ·rename_i ha
    rw [if_neg ha]
    exact ⟨by simpa using ho,by simpa using he,rfl⟩
def bf0:BfT:=⟨0,0,⟨pgs0,none,0⟩,false,0⟩
theorem SOk.mono {S:StM} {c c':Nat} (h:SOk S c) (hc:c≤c'):SOk S c':=
 ⟨h.bufs,h.pgs,fun x hx=>Nat.le_trans (h.ws x hx) hc,⟨h.time.1,by have:=h.time.2; omega⟩,Nat.le_trans h.ni hc,Nat.le_trans h.nt hc,h.right,h.nodup,h.len,h.keys,h.recs,h.log,h.lsz,h.fl,h.cl⟩
theorem SOk.tick {S:StM} {c:Nat} (h:SOk S c):SOk (tick S) (c+1):=
 ⟨h.bufs,h.pgs,fun x hx=>Nat.le_succ_of_le (h.ws x hx),⟨by have:=h.time.1; show 0≤S.time+1; omega,by have:=h.time.2; show S.time+1≤ _; omega⟩,Nat.le_succ_of_le h.ni,Nat.le_succ_of_le h.nt,h.right,h.nodup,h.len,h.keys,h.recs,h.log,h.lsz,h.fl,h.cl⟩
/-- what a disk keeps for the walks' sake -/
structure DOk (D D':DkM) (k:Nat):Prop where
 pgs:D'.pgs.length=D.pgs.length
 ws:∀ c,(∀ x∈D.pgs,x.ws.length≤c)→∀ x∈D'.pgs,x.ws.length≤c+k
 log:D'.log=D.log
 fl:D.fl≤D.log.size→D'.fl≤D'.log.size
theorem DOk.refl (D:DkM):DOk D D 0:=⟨rfl,fun c h x hx=>h x hx,rfl,id⟩
theorem DOk.trans {A B C:DkM} {k l:Nat} (h:DOk A B k) (g:DOk B C l):DOk A C (k+l):=⟨g.pgs.trans h.pgs,fun c hc x hx=>by have:=g.ws _ (h.ws c hc) x hx; omega,g.log.trans h.log,fun hf=>g.fl (h.fl hf)⟩
theorem DOk.mono {A B:DkM} {k l:Nat} (h:DOk A B k) (hk:k≤l):DOk A B l:=⟨h.pgs,fun c hc x hx=>Nat.le_trans (h.ws c hc x hx) (by omega),h.log,h.fl⟩
theorem DOk.flush (D:DkM):DOk D (opD D 0 flD).1 0:=opD_ind (P:=fun D'=>DOk D D' 0) ⟨rfl,fun c h x hx=>h x hx,rfl,id⟩ ⟨rfl,fun c h x hx=>h x hx,rfl,id⟩ fun _=>⟨rfl,fun c h x hx=>h x hx,rfl,fun _=>Nat.le_refl _⟩
theorem wrD_ok (D:DkM) (n:Int) (s:ByteArray):DOk D (wrD n s D) 1:=by
 unfold wrD
 split
 ·refine ⟨List.length_set,fun c hc x hx=>?_,rfl,id⟩
  rcases List.mem_or_eq_of_mem_set hx with h | rfl
  ·exact Nat.le_succ_of_le (hc x h)
  ·show ((D.pgs.getD n.toNat shd0).ws++[_]).length≤c+1
   rw [List.length_append,List.length_singleton]
   have:(D.pgs.getD n.toNat shd0).ws.length≤c:=by
    rw [List.getD_eq_getElem?_getD]
    rcases hx2:D.pgs[n.toNat]? with _ | y
    ·exact Nat.zero_le _
    ·exact hc y (List.mem_of_getElem? hx2)
   omega
 ·exact (DOk.refl D).mono (Nat.zero_le _)
theorem DOk.write (D:DkM) (n:Int) (s:ByteArray):DOk D (opD D (wrE D n s) (wrD n s)).1 1:=
 opD_ind (P:=fun D'=>DOk D D' 1) ((DOk.refl D).mono (Nat.zero_le _)) ⟨rfl,fun c h x hx=>Nat.le_succ_of_le (h x hx),rfl,id⟩ fun _=>(show DOk D {D with left:=decL D.left} 0 from ⟨rfl,fun c h x hx=>h x hx,rfl,id⟩).trans (wrD_ok _ n s)
theorem SOk.disk {S:StM} {c k:Nat} {D:DkM} (h:SOk S c) (g:DOk S.D D k) (hcl:∀ t∈S.pool,t.dirty=false→t.pg.p=shP D t.n):SOk {S with D:=D} (c+k):=
 ⟨h.bufs,by show D.pgs.length≤400; rw [g.pgs]; exact h.pgs,g.ws c h.ws,⟨h.time.1,by have:=h.time.2; show S.time≤ _; omega⟩,Nat.le_trans h.ni (by omega),Nat.le_trans h.nt (by omega),h.right,h.nodup,h.len,fun t ht=>by have:=h.keys t ht; show 0≤t.n∧t.n < (D.pgs.length:Int); rw [g.pgs]; exact this,h.recs,by show D.log= _; rw [g.log]; exact h.log,by show D.log.size≤ _; rw [g.log]; exact h.lsz,g.fl h.fl,hcl⟩
theorem setB_n {l:List BfT} {n:Int} {f:BfT→BfT} (hf:∀ t,(f t).n=t.n):(setB l n f).map BfT.n=l.map BfT.n:=by
 rw [setB,List.map_map]
 refine List.map_congr_left fun t _=>?_
 show (if t.n=n then f t else t).n=t.n
 split
 ·exact hf t
 ·rfl
theorem setB_mem {l:List BfT} {n:Int} {f:BfT→BfT} {u:BfT} (hu:u∈setB l n f):∃ t∈l,u=f t∨u=t:=by
 obtain ⟨t,ht,rfl⟩:=List.mem_map.1 hu
 refine ⟨t,ht,?_⟩
 split
 ·exact .inl rfl
 ·exact .inr rfl
theorem SOk.setp {S:StM} {c:Nat} {n:Int} {f:BfT→BfT} (h:SOk S c) (hn:∀ t,(f t).n=t.n) (hr:∀ t∈S.pool,rightP (f t).pg.p) (hcl:∀ t∈S.pool,t.n=n→(f t).dirty=false→(f t).pg.p=shP S.D t.n):SOk {S with pool:=setB S.pool n f} c:=
 ⟨h.bufs,h.pgs,h.ws,h.time,h.ni,h.nt,fun u hu=>by obtain ⟨t,ht,rfl | rfl⟩:=setB_mem hu; exact hr t ht; exact h.right _ ht,by show ((setB S.pool n f).map BfT.n).Nodup; rw [setB_n hn]; exact h.nodup,by show ((setB S.pool n f).length:Int)≤S.bufs; rw [setB,List.length_map]; exact h.len,
  fun u hu=>by obtain ⟨t,ht,rfl | rfl⟩:=setB_mem hu; rw [hn]; exact h.keys _ ht; exact h.keys _ ht,h.recs,h.log,h.lsz,h.fl,fun u hu hd=>by
   obtain ⟨t,ht,rfl⟩:=List.mem_map.1 hu
   by_cases e:t.n=n
   ·rw [if_pos e] at hd ⊢
    rw [hn]; exact hcl t ht e hd
   ·rw [if_neg e] at hd ⊢
    exact h.cl t ht hd⟩
theorem shP_eq {D D':DkM} (h:D'.pgs=D.pgs) (n:Int):shP D' n=shP D n:=by rw [shP,shP,h]
theorem wr_cases (D:DkM) (n:Int) (s:ByteArray):((opD D (wrE D n s) (wrD n s)).2≠0∧(opD D (wrE D n s) (wrD n s)).1.pgs=D.pgs)∨((opD D (wrE D n s) (wrD n s)).2=0∧D.off=false∧(0≤n∧n < (D.pgs.length:Int))∧∃ h:s.size=512,(opD D (wrE D n s) (wrD n s)).1=wrD1 n.toNat ⟨s,h⟩ {D with left:=decL D.left}):=by
 by_cases h0:(opD D (wrE D n s) (wrD n s)).2=0
 ·obtain ⟨h1,h2,h3⟩:=opD_ok h0
  obtain ⟨h4,h5⟩:=wrE_zero h2
  exact .inr ⟨h0,h1,h4,h5,by rw [h3,wrD,dif_pos h5]⟩
 ·refine .inl ⟨h0,?_⟩
  unfold opD at h0 ⊢
  split
  ·rfl
  ·rename_i ho
   rw [if_neg ho] at h0
   split
   ·rfl
   ·rename_i he
    rw [if_neg he] at h0
    split
    ·rfl
    ·rename_i ha
     rw [if_neg ha] at h0
     exact absurd rfl h0
theorem shP_wr {D:DkM} {n:Int} {h:H5} (hn:0≤n∧n < (D.pgs.length:Int)) {m:Int} (hm:0≤m):shP (wrD1 n.toNat h D) m=if m=n then rdP h.1 else shP D m:=by
 rw [shP,wrD1]
 dsimp only
 split
 ·rename_i e
  subst e
  rw [List.getD_eq_getElem?_getD,List.getElem?_set_self (by omega)]
  show rdP (rdT ⟨_, _++[h]⟩).1= _
  rw [rdT]; simp
 ·rename_i e
  rw [List.getD_eq_getElem?_getD,List.getElem?_set_ne (by omega),← List.getD_eq_getElem?_getD]; rfl
theorem wrD0_ok (S:StM) (t:BfT):DOk S.D (wrD0 S t).1 0∧(wrD0 S t).1.pgs=S.D.pgs:=by
 unfold wrD0
 split
 ·exact ⟨DOk.flush _,opD_pgs0 _⟩
 ·exact ⟨DOk.refl _,rfl⟩
/-- what a write leaves of the disk's pages -/
theorem write_sh {S:StM} {t:BfT} (ht:rightP t.pg.p) {m:Int} (hm:0≤m):shP (writeF S t).1.D m=shP S.D m∨(m=t.n∧shP (writeF S t).1.D m=t.pg.p):=by
 have h0:=wrD0_ok S t
 unfold writeF
 split
 ·exact .inl (shP_eq h0.2 m)
 ·dsimp only
  rcases wr_cases (wrD0 S t).1 t.n (bytesP t.pg.p) with ⟨_,h2⟩ | ⟨_,h1,h2,h3,h4⟩
  ·exact .inl ((shP_eq h2 m).trans (shP_eq h0.2 m))
  ·rw [h4,shP_wr (D:={(wrD0 S t).1 with left:=decL (wrD0 S t).1.left}) h2 hm]
   split
   ·rename_i e
    exact .inr ⟨e,rd_bytes ht⟩
   ·exact .inl (shP_eq (D:=S.D) h0.2 m)
theorem write_ok_sh {S:StM} {t:BfT} (ht:rightP t.pg.p) (h0:(writeF S t).2=0):shP (writeF S t).1.D t.n=t.pg.p∧(writeF S t).1.pool=setB S.pool t.n clB:=by
 have h1:=wrD0_ok S t
 unfold writeF at h0 ⊢
 split at h0
 ·rename_i h2; exact absurd h0 h2
 ·rename_i h2
  rw [if_neg h2]
  dsimp only at h0 ⊢
  rcases wr_cases (wrD0 S t).1 t.n (bytesP t.pg.p) with ⟨h3, _⟩ | ⟨_, _,h4,h5,h6⟩
  ·exact absurd h0 h3
  ·rw [if_pos h0,h6,shP_wr (D:={(wrD0 S t).1 with left:=decL (wrD0 S t).1.left}) h4 h4.1,if_pos rfl]
   exact ⟨rd_bytes ht,rfl⟩
theorem SOk.write {S:StM} {c:Nat} (h:SOk S c) (t:BfT) (ht:t∈S.pool):SOk (writeF S t).1 (c+1):=by
 have hr:=h.right t ht
 have h0:=wrD0_ok S t
 have huniq:∀ u∈S.pool,u.n=t.n→u=t:=fun u hu e=>by
  obtain ⟨A,B,hp⟩:=List.append_of_mem ht
  have hd:=h.nodup
  rw [hp,List.map_append,List.map_cons] at hd
  have h1:=List.nodup_append.1 hd
  rw [hp] at hu
  rcases List.mem_append.1 hu with h2 | h2
  ·exact absurd e (h1.2.2 u.n (List.mem_map.2 ⟨u,h2,rfl⟩) t.n (by simp))
  ·rcases List.mem_cons.1 h2 with h2 | h2
   ·exact h2
   ·exact absurd (List.mem_map.2 ⟨u,h2,e⟩) (List.nodup_cons.1 h1.2.1).1
 have hcl:∀ u∈S.pool,u.dirty=false→u.pg.p=shP (writeF S t).1.D u.n:=fun u hu hd=>by
  rcases write_sh hr (S:=S) (h.keys u hu).1 with h1 | ⟨h1,h2⟩
  ·rw [h1]; exact h.cl u hu hd
  ·rw [h2,huniq u hu h1]
 have hw:=write_ok_sh (S:=S) hr
 unfold writeF at hcl hw ⊢
 split
 ·rename_i h1
  rw [if_pos h1] at hcl
  exact (h.disk h0.1 hcl).mono (by omega)
 ·rename_i h1
  rw [if_neg h1] at hcl hw
  dsimp only at hcl hw ⊢
  have h2:=h.disk (h0.1.trans (DOk.write (wrD0 S t).1 t.n (bytesP t.pg.p))) hcl
  split
  ·rename_i h3
   refine (h2.setp (f:=clB) (fun _=>rfl) (fun u hu=>h.right u hu) fun u hu e _=>?_).mono (by omega)
   rw [huniq u hu e]
   exact (hw h3).1.symm
  ·exact h2.mono (by omega)
theorem SOk.clean {S:StM} {c:Nat} (h:SOk S c) (t:BfT) (ht:t∈S.pool):SOk (cleanF S t).1 (c+1):=by
 unfold cleanF
 split
 ·exact h.write t ht
 ·exact h.mono (by omega)
theorem rmB_mem {l:List BfT} {n:Int} {u:BfT} (hu:u∈rmB l n):u∈l∧u.n≠n:=by
 rw [rmB,List.mem_filter] at hu
 exact ⟨hu.1,by simpa using hu.2⟩
theorem rmB_sub (l:List BfT) (n:Int):(rmB l n).Sublist l:=List.filter_sublist
theorem SOk.rm {S:StM} {c:Nat} (h:SOk S c) (n:Int):SOk {S with pool:=rmB S.pool n} c:=
 ⟨h.bufs,h.pgs,h.ws,h.time,h.ni,h.nt,fun u hu=>h.right u (rmB_mem hu).1,h.nodup.sublist ((rmB_sub S.pool n).map _),by have:=h.len; have:=(rmB_sub S.pool n).length_le; show ((rmB S.pool n).length:Int)≤S.bufs; omega,fun u hu=>h.keys u (rmB_mem hu).1,h.recs,h.log,h.lsz,h.fl,fun u hu=>h.cl u (rmB_mem hu).1⟩
/-- what write leaves of the pool -/
theorem clean_pool {S:StM} {A B:List BfT} {t:BfT} (hp:S.pool=A++t::B) (hd:((A++t::B).map BfT.n).Nodup):∃ u:BfT,(cleanF S t).1.pool=A++u::B∧u.n=t.n∧u.blk=t.blk∧u.pg=t.pg:=by
 unfold cleanF
 split
 ·unfold writeF
  split
  ·exact ⟨t,hp,rfl,rfl,rfl⟩
  ·dsimp only
   split
   ·exact ⟨clB t,by show setB S.pool t.n clB= _; rw [hp,setB_mid hd],rfl,rfl,rfl⟩
   ·exact ⟨t,hp,rfl,rfl,rfl⟩
 ·exact ⟨t,hp,rfl,rfl,rfl⟩
theorem clean_rows (S:StM) (t:BfT):(cleanF S t).1.rows=S.rows∧(cleanF S t).1.bufs=S.bufs∧(cleanF S t).1.time=S.time∧(cleanF S t).1.recs=S.recs∧(cleanF S t).1.frm=S.frm:=by
 unfold cleanF
 split
 ·unfold writeF
  split
  ·exact ⟨rfl,rfl,rfl,rfl,rfl⟩
  ·exact ⟨rfl,rfl,rfl,rfl,rfl⟩
 ·exact ⟨rfl,rfl,rfl,rfl,rfl⟩
theorem evict_yes {S:StM} {t:BfT} (h:S.bufs≤(S.pool.length:Int)) (h0:(cleanF S t).2=0):evictF S t=({(cleanF S t).1 with pool:=rmB (cleanF S t).1.pool t.n},0):=by
 rw [evictF,if_pos h,if_neg (by rw [h0]; decide)]
theorem evict_bad {S:StM} {t:BfT} (h:S.bufs≤(S.pool.length:Int)) (h0:(cleanF S t).2≠0):evictF S t=cleanF S t:=by
 rw [evictF,if_pos h,if_pos h0]
theorem evict_no {S:StM} {t:BfT} (h:¬ S.bufs≤(S.pool.length:Int)):evictF S t=(S,0):=by rw [evictF,if_neg h]
theorem SOk.evict {S:StM} {c:Nat} (h:SOk S c) (t:BfT) (ht:S.bufs≤(S.pool.length:Int)→t∈S.pool):SOk (evictF S t).1 (c+1):=by
 unfold evictF
 split
 ·rename_i hb
  split
  ·exact h.clean t (ht hb)
  ·exact (h.clean t (ht hb)).rm t.n
 ·exact h.mono (by omega)
theorem evict_keys {S:StM} {t:BfT} {n:Int} (hn:∀ u∈S.pool,u.n≠n):∀ u∈(evictF S t).1.pool,u.n≠n:=by
 have hc:∀ u∈(cleanF S t).1.pool,u.n≠n:=by
  unfold cleanF
  split
  ·unfold writeF
   split
   ·exact hn
   ·dsimp only
    split
    ·intro u hu
     obtain ⟨v,hv,rfl | rfl⟩:=setB_mem hu
     ·exact hn v hv
     ·exact hn _ hv
    ·exact hn
  ·exact hn
 unfold evictF
 split
 ·split
  ·exact hc
  ·exact fun u hu=>hc u (rmB_mem hu).1
 ·exact hn
theorem evict_len {S:StM} {c:Nat} {t:BfT} (h:SOk S c) (ht:S.bufs≤(S.pool.length:Int)→t∈S.pool) (h0:(evictF S t).2=0):((evictF S t).1.pool.length:Int) < S.bufs∧(evictF S t).1.bufs=S.bufs:=by
 by_cases hb:S.bufs≤(S.pool.length:Int)
 ·by_cases he:(cleanF S t).2=0
  ·rw [evict_yes hb he]
   obtain ⟨A,B,hp⟩:=List.append_of_mem (ht hb)
   have hd:((A++t::B).map BfT.n).Nodup:=by rw [← hp]; exact h.nodup
   obtain ⟨u,h1,h2,h3,h4⟩:=clean_pool hp hd
   refine ⟨?_,(clean_rows S t).2.1⟩
   show ((rmB (cleanF S t).1.pool t.n).length:Int) < S.bufs
   rw [h1,← h2,rmB_mid (by rw [List.map_append,List.map_cons,h2]; rw [List.map_append,List.map_cons] at hd; exact hd)]
   have:=h.len
   rw [hp] at this
   simp only [List.length_append,List.length_cons] at this ⊢
   omega
  ·rw [evict_bad hb he] at h0
   exact absurd h0 he
 ·rw [evict_no hb]
  exact ⟨by show (S.pool.length:Int) < S.bufs; omega,rfl⟩
end
section
open Go.RowKit
section
variable {P:Program} {ops:Array Oper} {L:List Nat} {a0:Act} {w0:World} {bor:List Nat} {X0:List Ent} {us cr kl:List (List Nat)}
 {D:Nat→(Tmp→Value)→(Tmp→Value)→(Nat→Ent)→Prop} {i:Nat} {o:Oper} {ρ:Operand→Value} {β:Tmp→Value} {W:World} {X:Nat→Ent}
theorem run_exX {k b r n cnt:Nat} {m:Int→Option (Option Nat)} {left:Int→Bool} {x:Operand} {v:Value} {e:Ent} (h:o.op= .extract x 0) (hx:ρ x=v) (hN:NxtX P k b r n m left cnt v e):(execOp ρ o).run P W= .ok (.value (.bool (nxB v))) W:=by
 rcases hN with ⟨rfl, _⟩ | ⟨x0,c,rfl, _⟩
 ·unfold execOp; rw [h]; simp [go_sem,hx,nxB]
 ·unfold execOp; rw [h]; simp [go_sem,hx,nxB]
theorem dv_exX {k b r n cnt d d1:Nat} {m:Int→Option (Option Nat)} {left:Int→Bool} {e:Ent} (h:o.op= .extract (.tmp d1) 0) (hN:NxtX P k b r n m left cnt (ρ (.tmp d1)) e) (hd:o.dst=some d) (hc:atV cr i=[]) (hkl:atV kl i=[])
  (hD:∀ (σ β':Tmp→Value) (X':Nat→Ent),(σ d= .bool (nxB (ρ (.tmp d1))))→(∀ t,t≠d→σ t=ρ (.tmp t))→D i σ β' X'):DoesU P o ρ W (PostV cr kl D i o.dst ρ β W X):=by
 refine DoesU.value (run_exX h rfl hN) ⟨[],by rw [hc]; rfl,⟨by rw [hkl]; exact Upd.refl _ _,(fun e' he'=>by cases he'),List.Pairwise.nil⟩,fun σ β' X' hs hv hb' hbv hx' hN'=>hD σ β' X' (hv d hd) (fun t ht=>hs t (by rw [hd]; simpa using ht.symm))⟩
end
def nzI (z:Int):Int:=if z=0 then 1 else z
theorem nz_self {z:Int} (h:z≠0):nzI z=z:=if_neg h
def tE:Value→Int
 | .tuple a=>(match (a.getD 1 undef) with | .int _ z=>z | _=>0)
 | _=>0
def tF:Value→Value
 | .tuple a=>a.getD 0 undef
 | _=>undef
theorem bufs_at {l:List BfT} {W:World} (h:(eA (l.map entB)).holds W) {t:BfT} (ht:t∈l):Blk W t.blk 120 #[.int .i64 t.pg.p.1, .int .i64 t.pg.p.2.1, .slice t.pg.A t.pg.p.2.2.length t.pg.c, .bool t.dirty, .int .i64 t.used]:=(h.1 (entB t) (List.mem_map.2 ⟨_,ht,rfl⟩)).1
theorem atM_mem {l:List BfT} {u:BfT} (hd:(l.map BfT.n).Nodup) (hu:u∈l):atM l u.n=some (some u.blk):=by
 obtain ⟨A,B,rfl⟩:=List.append_of_mem hu
 exact atM_at hd
theorem atM_put {l:List BfT} {t:BfT} (h:∀ u∈l,u.n≠t.n):putX (atM l) t.n (some (some t.blk))=atM (l++[t]):=by
 funext x
 unfold putX
 rw [atM,atM,List.find?_append]
 by_cases e:x=t.n
 ·subst e
  rw [if_pos rfl,List.find?_eq_none.2 (fun u hu=>by simpa using h u hu)]
  simp
 ·rw [if_neg e]
  have:(t.n==x)=false:=by simpa using fun h2=>e h2.symm
  cases l.find? (fun t=>t.n==x) with
  | some v=>rfl
  | none=>simp [this]
theorem atM_del {A B:List BfT} {t:BfT} (hd:((A++t::B).map BfT.n).Nodup):putX (atM (A++t::B)) t.n none=atM (A++B):=by
 funext x
 unfold putX
 by_cases e:x=t.n
 ·subst e
  rw [if_pos rfl]
  symm
  refine atM_none fun u hu he=>?_
  rw [List.map_append,List.map_cons] at hd
  have h1:=List.nodup_append.1 hd
  rcases List.mem_append.1 hu with h | h
  ·exact h1.2.2 u.n (List.mem_map.2 ⟨u,h,rfl⟩) t.n (by simp) he
  ·exact (List.nodup_cons.1 h1.2.1).1 (List.mem_map.2 ⟨u,h,he⟩)
 ·rw [if_neg e,atM,atM,List.find?_append,List.find?_append,List.find?_cons]
  have:(t.n==x)=false:=by simpa using fun h2=>e h2.symm
  rw [this]
/-- what load hands back -/
def LdQ (S:StM) (n:Int) (S2:StM) (er:Int) (v:Value):Prop:=LdR S n S2 er∧(er=0→∃ t∈S2.pool,t.n=n∧v= .pointer (some ⟨t.blk,0,none⟩))
def LdPost (sb db:Nat) (S:StM) (n:Int) (fp:List Nat) (w:World) (e:Ending) (w':World):Prop:=∃ er v,e= .returned (.tuple #[v, .int .i64 er])∧∃ fp',St w fp [eSx sb db (fun S2=>LdQ S n S2 er v) fp'] w'
theorem LdPost.of {sb db:Nat} {S S2:StM} {n er:Int} {v:Value} {fp fp':List Nat} {w w':World} (h:LdQ S n S2 er v) (hs:St w fp ([]++[eSt sb db S2 fp']) w'):LdPost sb db S n fp w (.returned (.tuple #[v, .int .i64 er])) w':=⟨er,v,rfl,fp',St.sx (L:=[]) hs h⟩
/-- the page that load reads -/
theorem rdP_some {s:ByteArray} {p:PgS} (h:rdX s=some p):rdP s=p:=by rw [rdP,h]; rfl
theorem rdP_none {s:ByteArray} (h:rdX s=none):rdP s=pgs0:=by rw [rdP,h]; rfl
theorem rd_some {s:ByteArray} {p:PgS} {f:FuncId} {args:Array Value} {w:World} (h:rdX s=some p) (hc:Calls Tryz.prog f args w (RxPost s w)):Calls Tryz.prog f args w (PgPost p.1 p.2.1 p.2.2 0 w):=by
 rw [RxPost,h] at hc; exact hc
theorem rd_none {s:ByteArray} {f:FuncId} {args:Array Value} {w:World} (h:rdX s=none) (hc:Calls Tryz.prog f args w (RxPost s w)):Calls Tryz.prog f args w (BadPost w):=by
 rw [RxPost,h] at hc; exact hc
theorem rdS_size {D:DkM} {n:Int} (h:(rdS D n).2=0):(rdS D n).1.size=512:=by
 unfold rdS at h ⊢
 split at h
 ·cases h
 ·rename_i ho
  rw [if_neg ho]
  split at h
  ·rename_i hn
   rw [if_pos hn]; exact (rdT _).2
  ·cases h
theorem rd_right (s:ByteArray):rightP (rdP s):=by
 rcases h:rdX s with _ | p
 ·rw [rdP_none h]; exact right0
 ·rw [rdP_some h]; exact (rdX_some h).1
theorem left_ex {l:List BfT} (h:1≤(l.length:Int)) {left:Int→Bool} (hl:∀ x,left x=(atM l x).isSome) (hk:∀ t∈l,kcI.ok t.n) (h0:∀ x:Int,(Lit.int .i64 x).wf=true→left x=false):False:=by
 cases l with
 | nil=>simp at h
 | cons t l=>
   have h1:=h0 t.n (wf64 (hk t (by simp)))
   rw [hl,atM,List.find?_cons,show (t.n==t.n)=true by simp] at h1
   cases h1
end
section
open Go.RowKit
theorem hrw_sub {l:List BfT} {rows:List PgR} (h:∀ t∈l,t.pg∈rows) {l2:List BfT} {rows2:List PgR} (hl:∀ u∈l2,(∃ t∈l,u.pg=t.pg)∨u.pg∈rows2) (hr:∀ r∈rows,r∈rows2):∀ u∈l2,u.pg∈rows2:=fun u hu=>by
 rcases hl u hu with ⟨t,ht,e⟩ | e
 ·rw [e]; exact hr _ (h t ht)
 ·exact e
theorem mid_sub {A B:List BfT} {t u:BfT} (he:u.pg=t.pg) {rows:List PgR}:∀ v∈A++u::B,(∃ t'∈A++t::B,v.pg=t'.pg)∨v.pg∈rows:=fun v hv=>by
 rcases List.mem_append.1 hv with h | h
 ·exact .inl ⟨v,by simp [h],rfl⟩
 ·rcases List.mem_cons.1 h with rfl | h
  ·exact .inl ⟨t,by simp,he⟩
  ·exact .inl ⟨v,by simp [h],rfl⟩
theorem ev_known {S0 S1 S2:StM} {er:Int} {u:BfT} (hb:S0.bufs≤(S0.pool.length:Int)) (hc:cleanF S0 u=(S1,er)) (h0:er=0) (hp:rmB S1.pool u.n=S2.pool) (hS:S2={S1 with pool:=S2.pool}):evictF S0 u=(S2,0):=by
 rw [evict_yes hb (by rw [hc]; exact h0),hc]
 dsimp only
 rw [hp,← hS]
theorem load_new {S:StM} {n:Int} {u:BfT} {S2:StM} (h:∀ t∈S.pool,t.n≠n) (he:(rdS S.D n).2=0) (hu:S.bufs≤(S.pool.length:Int)→u∈S.pool) (hev:evictF (tick S) u=(S2,0)) (blk:Nat) (A:Option Addr) (c:Nat) {k:Int} (hk:k=S.time+1):
  LdQ S n {S2 with pool:=S2.pool++[⟨n,blk,⟨rdP (rdS S.D n).1,A,c⟩,false,k⟩],rows:=S2.rows++[⟨rdP (rdS S.D n).1,A,c⟩]} 0 (.pointer (some ⟨blk,0,none⟩)):=by
 subst hk
 have h1:=LdR.new (S:=S) (n:=n) u blk A c h he hu
 have e:loadN (tick S) n u blk A c=({S2 with pool:=S2.pool++[⟨n,blk,⟨rdP (rdS S.D n).1,A,c⟩,false,S.time+1⟩],rows:=S2.rows++[⟨rdP (rdS S.D n).1,A,c⟩]},0):=by
  rw [loadN,hev,if_neg (by simp)]; rfl
 rw [e] at h1
 exact ⟨h1,fun _=>⟨_,List.mem_append_right _ (List.mem_singleton.2 rfl),rfl,rfl⟩⟩
theorem load_badE {S:StM} {n:Int} {u:BfT} (h:∀ t∈S.pool,t.n≠n) (he:(rdS S.D n).2=0) (hb:S.bufs≤(S.pool.length:Int)) (hu:u∈S.pool) (hc:(cleanF (tick S) u).2≠0):LdQ S n (cleanF (tick S) u).1 (cleanF (tick S) u).2 (.pointer none):=by
 have h1:=LdR.new (S:=S) (n:=n) u 0 none 0 h he (fun _=>hu)
 have e:loadN (tick S) n u 0 none 0=cleanF (tick S) u:=by
  have e1:evictF (tick S) u=cleanF (tick S) u:=evict_bad hb hc
  rw [loadN,e1,if_pos hc]
 rw [e] at h1
 exact ⟨h1,fun h0=>absurd h0 hc⟩
theorem eq_of_beq_ne {a b:Int} (h:(a != b)=false):a=b:=by simpa using h
theorem ne_of_bne {a b:Int} (h:(a != b)=true):a≠b:=by simpa using h
theorem nodup_snoc {l:List BfT} {t:BfT} (h:(l.map BfT.n).Nodup) (hn:∀ u∈l,u.n≠t.n):((l++[t]).map BfT.n).Nodup:=by
 rw [List.map_append,List.map_cons,List.map_nil]
 refine List.nodup_append.2 ⟨h,by simp,fun a ha b hb=>?_⟩
 obtain ⟨u,hu,rfl⟩:=List.mem_map.1 ha
 rw [List.mem_singleton.1 hb]
 exact hn u hu
theorem mzD_mid {A B:List BfT} {t:BfT} (h:((A++t::B).map BfT.n).Nodup):mzD (atM (A++t::B)) t.n (A++t::B).length=(A++B).length:=by
 rw [mzD,atM_at h]; simp
theorem evict_time {S:StM} {t:BfT}:(evictF S t).1.time=S.time:=by
 unfold evictF
 split
 ·split
  ·exact (clean_rows S t).2.2.1
  ·exact (clean_rows S t).2.2.1
 ·rfl
theorem sload_any (sb db:Nat) (S:StM) (n:Int) (c:Nat) (fp:List Nat) (w:World) (hB:(eSt sb db S fp).holds w) (hlt:∀ k∈fp,k < w.heap.size) (hok:SOk S c) (hc:c≤800000000) (hkn:kcI.ok n):
  Calls Tryz.prog 64 #[.pointer (some ⟨sb,0,none⟩), .int .i64 n] w (LdPost sb db S n fp w):=by
 have st1:St w fp [eSt sb db S fp] w:=St.lend hB (eSt_loc _ _ _ _) hlt
 go_enter Tryz.func64,Tryz.ntmps64
 have hst0:=st1
 obtain ⟨⟨hrw,hrr⟩,mb,RA,rc,EA,ec,ib,tb,fpd,hv1_⟩:=hst0.unf
 have hw:∀ x∈S.D.pgs,x.ws.length≤1000000000:=fun x hx=>Nat.le_trans (hok.ws x hx) (by omega)
 have hkk:∀ t∈S.pool,kcI.ok t.n:=fun t ht=>by have:=hok.keys t ht; have:=hok.pgs; constructor<;>omega
 have htt:=hok.time
 have hbb:=hok.bufs
 have hll:=hok.len
 refine wp_seq (sqr (sqp [.k 4 (.pointer none), .k 5 (vi 0)] ?_))
 refine then_normal (wp_seq (sqr (sqp [.m 15 0, .k 16 (vp sb), .k 17 (.pointer (some ⟨sb,3,none⟩))] ?_)))
 refine sqld 0 hv1_ ?_
 refine sqp [sI 19 (S.time+1) (by omega), .k 20 (vp sb), .k 21 (.pointer (some ⟨sb,3,none⟩))] ?_
 refine sqst (n:=1) 0 #[vp db,vi S.bufs, .map (some mb),vi (S.time+1), .slice RA S.recs.length rc, .slice EA S.recs.length ec, .map (some ib), .map (some tb),vi S.frm] hv1_ fun W11 hst11=>?_
 refine then_normal (wp_seq (wp_seq ?_))
 have htk:=hok.tick
 rcases pool_or S.pool n with hno | ⟨A,t,B,hAB,rfl⟩
 ·refine sqr (sqp [.m 22 0, .k 23 (vp sb), .k 24 (.pointer (some ⟨sb,2,none⟩))] ?_)
  refine sqld 0 hst11 ?_
  refine sqp [.m 26 1] ?_
  refine sql (.pointer none) hst11 (fun cx=>(run_lookMx (e:=115) (C:=ptX) (K:=kcI) (x:=n) rfl (cx.ou 25) (cx.ou 26) (CtxV.mx cx (cx.init 1 _ rfl) rfl) (h0:=by rfl) (hx:=hkn) (hk:=show Program.underlying _ _= _ from by kernel_rfl)).trans (by rw [atM_none hno]; rfl)) ?_
  refine sqp [.m 6 27] ?_
  refine then_normal (wp_seq (sqr (sqp [.m 28 6] ?_)))
  refine sqv (.bool false) hst11 (by
    exact sv0 rfl rfl rfl rfl rfl (fun _ _ _ h=>h) fun ρ β W X cx=>by
     have fF28:ρ (.tmp 28)= .pointer none:=(cx.ou 28)
     simp [go_sem,cx.sees.const,fF28]) fun W20 hst20=>?_
  refine then_normal (wcf rfl (wp_skip (then_normal (wp_seq (sqr (sqp [.m 39 0, .k 40 (vp sb), .k 41 (vp sb)] ?_))))))
  refine sqld 0 hst20 ?_
  refine sqp [.m 43 1] ?_
  refine sqk (.tuple #[.string ((rdS S.D n).1),vi ((rdS S.D n).2)]) hst20 (fun cx=>⟨_,kread_any db S.D n _ (eDk_at (CtxV.holdF cx (cx.init 9 _ rfl) rfl)) hw,(map2 (cx.ou 42) (cx.ou 43))⟩) fun W26 hst26=>?_
  refine sqp [.m 38 44, .k 45 (.string ((rdS S.D n).1)), .k 46 (vi ((rdS S.D n).2)), .m 7 45, .m 8 46] ?_
  refine then_normal (wp_seq (wp_seq (sqr (sqp [.m 47 8, .k 48 (.bool (((rdS S.D n).2) != 0))] ?_))))
  refine then_normal (wbs (fun hs34=>?_) fun hs34=>?_)
  ·have hs34p:=bne_iff_ne.1 hs34
   refine wp_seq (sqr (sqp [.m 49 8, .k 4 (.pointer none), .m 5 49] ?_))
   refine then_normal (wp_ret (then_ret ?_))
   refine bpr (.tuple #[.pointer none,vi ((rdS S.D n).2)]) (results_2 Tryz.results64 rpt rpt) ?_
   obtain ⟨fp38_,hk38_⟩:=St.stf (S:=(tick S)) (hst26) (hrw) (hrr)
   exact LdPost.of ⟨LdR.bad hno (ne_of_bne hs34),fun h_=>absurd h_ (ne_of_bne hs34)⟩ hk38_
  have hs34p:=bne_eq_false_iff_eq.1 hs34
  refine wp_skip (then_normal ?_)
  refine wp_cutT (fun t_ az W=>∃ S2:StM,∃ u:BfT,∃ fp2:List Nat,evictF (tick S) u=(S2,0)∧(S.bufs≤(S.pool.length:Int)→u∈S.pool)∧az=⟨(ovr (jv az) [(4,4,2,[]),(3,9,4,[]),(37,50,50,[])] t_).toArray,[]⟩∧St w fp [eSt sb db S2 fp2] W) ?_ ?_
  ·refine wp_seq (wp_region_Z [0,1,3,7,15,0,32,96,224,511] [[],[],[],[0],[1],[],[],[],[0]] [.k 50 (vp sb), .k 51 (vp sb), .k 52 (.pointer (some ⟨sb,2,none⟩)), .c 53 (.map (some mb)), .c 54 (vi ((S.pool.length:Int))), .k 55 (vp sb), .k 56 (vp sb), .k 57 (.pointer (some ⟨sb,1,none⟩)), .c 58 (vi S.bufs), .k 59 (.bool (decide (S.bufs≤(S.pool.length:Int))))] [0,1,2,3,4,5,6,7,8,9] [3,4,8] [(50,0,10,60)] hst26 ?_ fun W40 hst40=>?_)
   ·refine ⟨?_,?_,?_,trivial⟩
    ·exact xs4 rfl id fun cx=>run_load1 rfl (by kernel_rfl) (cx.an 2) ((cx.bi 0 rfl).cell 2)
    ·exact xs4 rfl id fun cx=>run_lenMx (e:=115) (m:=(atM S.pool)) (K:=kcI) (C:=ptX) rfl rfl rfl rfl (cx.an 3) (CtxV.mx cx (cx.init 1 _ rfl) rfl)
    ·exact xs4 rfl id fun cx=>run_load1 rfl (by kernel_rfl) (cx.an 7) ((cx.bi 0 rfl).cell 1)
   refine then_normal (wds (fun hs41 hs41p=>?_) fun hs41 hs41p=>?_)
   ·refine wp_seq (sqr (sqp [.k 9 (vi (-1))] ?_))
    refine then_normal (wp_seq (wp_seq (sqr (sqp [.m 60 0, .k 61 (vp sb), .k 62 (.pointer (some ⟨sb,2,none⟩))] ?_))))
    refine sqld 0 hst40 ?_
    refine sqc1 (fun x_=>pb x_) (fun R64_47=>vp R64_47) (fun R64_47=>eRx Tryz.prog 3 mb R64_47 S.pool.length (atM S.pool) (fun x=>((atM S.pool) x).isSome) S.pool.length none) 1 hst40 (by
      refine svA fun ρ β W X cx=>?_
      exact dv_rangeX (e:=115) rfl (cx.ou 63) cx (cx.init 1 _ rfl) rfl rfl rfl rfl (fun σ β' X' hs hb hv hx=>⟨hv,hx⟩)) fun R64_47 W47 hst47=>?_
    refine then_normal (wp_block ?_)
    refine wp_loopT (fun t_ mz az W=>∃ o:Int,∃ left:Int→Bool,∃ cnt:Nat,∃ cur:Option (Int×Option Nat),((o= -1∧∀ x,left x=(atM S.pool x).isSome)∨∃ u∈S.pool,u.n=o)∧mz=2*cnt∧az=⟨(ovr (jv az) [(9,9,0,[vi o]),(0,10,2,[]),(53,65,24,[])] t_).toArray,[]⟩∧St w fp [eB sb 109 #[vp db,vi S.bufs, .map (some mb),vi (S.time+1), .slice RA S.recs.length rc, .slice EA S.recs.length ec, .map (some ib), .map (some tb),vi S.frm],eRx Tryz.prog 3 mb R64_47 S.pool.length (atM S.pool) (left) cnt cur,eA (List.map entB S.pool),eM (List.map entP S.rows),eO 27 8 (.slice RA S.recs.length rc) S.recs.length (S.recs.flatMap rcC),eO 3 1 (.slice EA S.recs.length ec) S.recs.length ((endN S.L S.recs.length).map (Value.int .i64)),eRc S.rr,eMx kcI ecB Tryz.prog 3 ib S.ni (S.im),eMx kcI ecB Tryz.prog 3 tb S.nt (S.told),eDk db S.D fpd] W) (2*S.pool.length) ?_ ?_
    · -- the loop begins
      exact ⟨(-1),(fun x=>((atM S.pool) x).isSome),S.pool.length,none, .inl ⟨rfl,fun x=>rfl⟩,rfl,(by kernel_rfl),hst47.pk [0,1,2,3,4,5,6,7,8,9]⟩
    rintro n48 a48 W48 ⟨o,left,cnt,cur,ho,rfl,hj_,hst48⟩
    refine ovz hj_ fun u48_=>?_
    refine wp_seq (wp_region_Y [0,1] [[1],[]] [[10]] [[1]] [.a 65, .a 66] (fun ix σ β X=>match ix with | 0=>NxtX Tryz.prog 3 mb R64_47 S.pool.length (atM S.pool) (left) cnt (σ 65) (X 10) | 1=>σ 66= .bool (nxB (σ 65)) | _=>True) [0,2,3,4,5,6,7,8,9,10] [0,1] [(65,0,2,67)] hst48 ?_ ?_ ?_)
    ·exact fun ix _ _ _ _ _ _ hs hb hx h=>match ix,h with
     | 0,h=>by (try dsimp only at h ⊢); rw [← hs 65 rfl,← hx 10 rfl]; exact h
     | 1,h=>by (try dsimp only at h ⊢); rw [← hs 66 rfl,← hs 65 rfl]; exact h
     | _+2, _=>trivial
    ·refine ⟨?_,?_,trivial⟩
     ·refine svA fun ρ β W X cx=>?_
      exact dv_nextX rfl (cx.ou 64) cx (cx.init 1 _ rfl) rfl rfl rfl rfl (fun σ β' X' hs hb hN=>hN)
     ·refine svA fun ρ β W X cx=>?_
      exact dv_exX (d1:=65) rfl (dTn (cx.an 0)) rfl rfl rfl (fun σ β' X' hv hs=>by (try dsimp only); rw [hs 65 (by decide)]; exact hv)
    intro σ β X W49 hD hst49 fr hfr
    have hq0_:=dTn (hD 0 lq)
    have hq1_:=dTn (hD 1 lq)
    try dsimp only at hq0_ hq1_
    rcases hq0_ with ⟨ha_,hl49,hb_⟩ | ⟨kx49,kc49,ha_,hx49,hl49,hm49,hc49,hb_⟩
    ·rw [ha_] at hq1_
     simp only [exq 10 hb_] at hst49
     simp only [ed 65 ha_,ed 66 hq1_,nxB_f] at hfr
     clear hD ha_ hq1_ hb_; subst hfr; clear σ β X
     refine then_normal (wp_seq (wcf rfl (wp_exit (then_exit (then_exit (blk_eq (then_normal (wp_seq (wp_seq ?_)))))))))
     rcases ho with ⟨rfl,hl0⟩ | ⟨u,hu,rfl⟩
     ·exact (left_ex (by have h1_:=hok.bufs; have h2_:=of_decide_eq_true hs41; omega) hl0 hkk hl49).elim
     have hr51_:=hst49.u9.erf
     obtain ⟨fp52_,hk52_⟩:=St.stf (S:=(tick S)) (hr51_.u1) (hrw) (hrr)
     obtain ⟨A,B,hAB⟩:=List.append_of_mem hu
     have hAB2:(tick S).pool=A++u::B:=hAB
     have hnd:((A++u::B).map BfT.n).Nodup:=by rw [← hAB]; exact hok.nodup
     refine sqr (sqp [.m 89 0, .m 90 9] ?_)
     refine sqc0s (fun X_=>X_.fp) (vi ((cleanF (tick S) u).2)) (fun r1_55=>eSt sb db ((cleanF (tick S) u).1) r1_55) 0 hk52_ (by
       refine svA fun ρ β W X cx=>?_
       refine DoesU.call (run_callF (args:=#[vp sb,vi u.n]) rfl cx.sees rfl (by kernel_rfl) (map2 (cx.ou 89) (cx.ou 90))) ?_
       refine (sclean_any sb db (tick S) A B u (c+1) _ _ (CtxV.holdF cx (cx.init 0 _ rfl) rfl) (CtxV.ltF cx (cx.init 0 _ rfl) rfl) htk (by omega) hAB2).mono ?_
       rintro e W1 ⟨rfl,fp4,hs4⟩
       refine ⟨_,rfl,post_obj (E:=eSt sb db (tick S) fp52_) [eSt sb db (cleanF (tick S) u).1 fp4] (cx.init 0 _ rfl) rfl rfl hs4 (fun σ β' X' hs hb hv hN=>?_)⟩
       have hv1:=(hv 91 rfl).1; have hv2:=(hv 91 rfl).2
       exact ⟨hv1.trans rfl,eSt_self ((List.cons.inj hN).1)⟩) fun r1_55 W55 hst55=>?_
     refine sqp [.m 12 91] ?_
     refine then_normal (wp_seq (sqr (sqp [.m 92 12, .k 93 (.bool (((cleanF (tick S) u).2) != 0))] ?_)))
     refine then_normal (wbs (fun hs59=>?_) fun hs59=>?_)
     ·have hs59p:=bne_iff_ne.1 hs59
      refine wp_seq (sqr (sqp [.m 94 12, .k 4 (.pointer none), .m 5 94] ?_))
      refine then_normal (wp_ret (then_ret (then_ret ?_)))
      refine bpr (.tuple #[.pointer none,vi ((cleanF (tick S) u).2)]) (results_2 Tryz.results64 rpt rpt) ?_
      exact LdPost.of (load_badE hno (eq_of_beq_ne hs34) (of_decide_eq_true hs41) hu (ne_of_bne hs59)) hst55
     have hs59p:=bne_eq_false_iff_eq.1 hs59
     refine wp_skip (then_normal ?_)
     have hc0_:=eq_of_beq_ne hs59
     obtain ⟨u2,hu2,hn2,hb2,hp2⟩:=clean_pool hAB2 hnd
     obtain ⟨S1,hS1⟩:∃ z,(cleanF (tick S) u).1=z:=⟨_,rfl⟩
     rw [hS1] at hst55 hu2
     obtain ⟨⟨hrw1,hrr1⟩,mb1,RA1,rc1,EA1,ec1,ib1,tb1,fpd1,hv64_⟩:=hst55.unf
     rw [hu2] at hv64_
     have ho65_:=St.obf (t:=u2) hv64_.u2
     have hnd2:((A++u2::B).map BfT.n).Nodup:=by rw [List.map_append,List.map_cons,hn2]; rw [List.map_append,List.map_cons] at hnd; exact hnd
     refine sqr (sqp [.m 95 0, .k 96 (vp sb), .k 97 (.pointer (some ⟨sb,2,none⟩))] ?_)
     refine sqld 2 ho65_ ?_
     refine sqp [.m 99 9] ?_
     refine sqc (eMx kcI ptX Tryz.prog 3 mb1 ((mzD (atM (A++u2::B)) u.n ((A++u2::B).length))) (putX (atM (A++u2::B)) u.n none)) 3 ho65_ (by
       refine svA fun ρ β W X cx=>?_
       exact dv_delMx (e:=115) (x:=u.n) rfl rfl rfl rfl (cx.ou 98) (show ρ _=Kc.enc kcI _ from (cx.ou 99)) cx (cx.init 3 _ rfl) rfl ((hkk u hu)) rfl rfl rfl (fun σ β' X' hs hb hx=>hx) (hk:=show Program.underlying _ _= _ from by kernel_rfl)) fun W71 hst71=>?_
     refine then_normal ?_
     have hd72_:=hst71.u1.c0
     rw [← hn2,atM_del hnd2,show mzD (atM (A++u2::B)) u2.n (A++u2::B).length=(A++B).length from mzD_mid hnd2] at hd72_
     obtain ⟨fp73_,hk73_⟩:=St.stf (S:={S1 with pool:=A++B}) (hd72_.u2.u2) (hrw_sub hrw1 (fun v hv=> .inl ⟨v,by rw [hu2]; rcases List.mem_append.1 hv with h | h<;>simp [h],rfl⟩) (fun r h=>h)) (hrr1)
     exact ⟨{S1 with pool:=A++B},u,fp73_,ev_known (S1:=S1) (er:=(cleanF (tick S) u).2) (of_decide_eq_true hs41) (Prod.ext hS1 rfl) hc0_ (by rw [hu2,← hn2,rmB_mid hnd2]) rfl,(fun _=>hu),(by kernel_rfl),hk73_.pk [0]⟩
    rw [ha_] at hq1_
    simp only [exq 10 hb_] at hst49
    simp only [ed 65 ha_,ed 66 hq1_,nxB_t] at hfr
    clear hD ha_ hq1_ hb_; subst hfr; clear σ β X
    refine then_normal (wp_seq (wct rfl (wp_skip (then_normal (wp_block (wp_seq ?_))))))
    obtain ⟨t1,ht1,rfl,rfl⟩:=atM_some hm49
    refine sqr ?_
    refine sql (.tuple #[vi t1.n,ptrV (some t1.blk)]) hst49 (fun cx=>run_entryX rfl (cx.ou 64) (CtxV.holdE cx (cx.init 9 _ rfl) rfl)) ?_
    refine sqp [.k 68 (vi t1.n), .k 69 (ptrV (some t1.blk)), .m 10 68, .m 11 69] ?_
    refine then_normal (wp_seq ?_)
    rcases ho with ⟨rfl,hl0⟩ | ⟨u0,hu0,rfl⟩
    ·refine wp_region_P [0,1,3,7,15,31,63,7,135,391,903,7,3975,8071,16263,32647,65535,131071] [.k 70 (vi (-1)), .e 71 (.bool (decide ((-1) < 0))) (.bool true) (congrArg Value.bool (show (decide ((-1) < 0))=true from (by decide))), .k 72 (.bool true), .u 73, .u 74, .u 75, .u 76, .u 77, .u 78, .u 79, .u 80, .u 81, .u 82, .u 83, .u 84, .u 85, .u 86, .k 87 (.bool true)] [(70,0,18,88)] hst49 fun W79 hst79=>?_
     refine then_normal (wct rfl (sqr (sqp [.m 88 10, .m 9 88] ?_)))
     refine blk_normal (then_normal ?_)
     refine ⟨2*((cnt - 1)),by omega,?_⟩
     exact ⟨t1.n,(fun y=>(left) y&&y != t1.n),(cnt - 1),(some (t1.n,(some t1.blk))), .inr ⟨t1,ht1,rfl⟩,rfl,(by kernel_rfl),hst79.pk [0,9,1,2,3,4,5,6,7,8]⟩
    ·have hk0:=hok.keys u0 hu0
     have hd83:(decide (u0.n < 0))=false:=(by simp; omega)
     refine wp_region_Z [0,1,3,7,15,31,63,7,135,391,903,7,3975,8071,16263,32647,65535,131071] [[],[],[],[],[],[],[1],[],[],[],[0],[],[9],[],[],[1]] [.k 70 (vi u0.n), .e 71 (.bool (decide (u0.n < 0))) (.bool false) (congrArg Value.bool hd83), .k 72 (.bool false), .k 73 (.pointer (some ⟨t1.blk,0,none⟩)), .k 74 (.pointer (some ⟨t1.blk,0,none⟩)), .k 75 (.pointer (some ⟨t1.blk,4,none⟩)), .c 76 (vi t1.used), .k 77 (vp sb), .k 78 (vp sb), .k 79 (.pointer (some ⟨sb,2,none⟩)), .c 80 (.map (some mb)), .k 81 (vi u0.n), .c 82 (.pointer (some ⟨u0.blk,0,none⟩)), .k 83 (.pointer (some ⟨u0.blk,0,none⟩)), .k 84 (.pointer (some ⟨u0.blk,4,none⟩)), .c 85 (vi u0.used), .k 86 (.bool (decide (t1.used < u0.used))), .k 87 (.bool (decide (t1.used < u0.used)))] [0,1,2,3,4,5,6,7,8,9] [6,10,12,15] [(70,0,18,88)] hst49 ?_ fun W82 hst82=>?_
     ·refine ⟨?_,?_,?_,?_,trivial⟩
      ·exact xs5 rfl id (fun cx=>(cx.an 2)) fun cx=>run_load1 rfl (by kernel_rfl) (cx.an 5) (Blk.cell (bufs_at (CtxV.holdF cx (cx.init 1 _ rfl) rfl) ht1) 4)
      ·exact xs5 rfl id (fun cx=>(cx.an 2)) fun cx=>run_load1 rfl (by kernel_rfl) (cx.an 9) ((cx.bi 0 rfl).cell 2)
      ·exact xs5 rfl id (fun cx=>(cx.an 2)) fun cx=>(run_lookMx (e:=115) (C:=ptX) (K:=kcI) (x:=u0.n) rfl (cx.an 10) (cx.an 11) (CtxV.rx cx (cx.init 9 _ rfl) rfl) (h0:=by rfl) (hx:=hkk u0 hu0) (hk:=show Program.underlying _ _= _ from by kernel_rfl)).trans (by rw [atM_mem hok.nodup hu0]; rfl)
      ·exact xs5 rfl id (fun cx=>(cx.an 2)) fun cx=>run_load1 rfl (by kernel_rfl) (cx.an 14) (Blk.cell (bufs_at (CtxV.holdF cx (cx.init 1 _ rfl) rfl) hu0) 4)
     refine then_normal (wds (fun hs84 hs84p=>?_) fun hs84 hs84p=>?_)
     ·refine sqr (sqp [.m 88 10, .m 9 88] ?_)
      refine blk_normal (then_normal ?_)
      refine ⟨2*((cnt - 1)),by omega,?_⟩
      exact ⟨t1.n,(fun y=>(left) y&&y != t1.n),(cnt - 1),(some (t1.n,(some t1.blk))), .inr ⟨t1,ht1,rfl⟩,rfl,(by kernel_rfl),hst82.pk [0,9,1,2,3,4,5,6,7,8]⟩
     refine wp_skip (blk_normal (then_normal ?_))
     refine ⟨2*((cnt - 1)),by omega,?_⟩
     exact ⟨u0.n,(fun y=>(left) y&&y != t1.n),(cnt - 1),(some (t1.n,(some t1.blk))), .inr ⟨u0,hu0,rfl⟩,rfl,(by kernel_rfl),hst82.pk [0,9,1,2,3,4,5,6,7,8]⟩
   refine wp_skip (then_normal ?_)
   obtain ⟨fp87_,hk87_⟩:=St.stf (S:=(tick S)) (hst40) (hrw) (hrr)
   exact ⟨(tick S),bf0,fp87_,evict_no (S:=tick S) (of_decide_eq_false hs41),(fun h_=>absurd h_ (of_decide_eq_false hs41)),(by kernel_rfl),hk87_.pk [0]⟩
  rintro a39 W39 ⟨S2,u,fp2,hev,hu,hj_,hst39⟩
  refine ovz hj_ fun u39_=>?_
  refine wp_seq ?_
  have hok2:SOk S2 (c+2):=by have h_:=htk.evict u hu; rw [hev] at h_; exact h_
  have hlen2:=evict_len htk hu (by rw [hev])
  rw [hev] at hlen2
  have hno2:∀ x∈S2.pool,x.n≠n:=by have h_:=evict_keys (S:=tick S) (t:=u) hno; rw [hev] at h_; exact h_
  have he0:(rdS S.D n).2=0:=eq_of_beq_ne hs34
  have hsz5:=rdS_size he0
  obtain ⟨⟨hrw2,hrr2⟩,mb2,RA2,rc2,EA2,ec2,ib2,tb2,fpd2,hv88_⟩:=hst39.unf
  rcases hrd:rdX (rdS S.D n).1 with _ | p
  ·have hrp:=rdP_none hrd
   refine wp_region_Y [0,1,3,7,7,0,47,127] [[],[],[],[],[],[],[10]] [[],[],[],[],[],[10],[11]] [[],[],[],[],[],[],[10]] [.k 101 (.string ((rdS S.D n).1)), .a 102, .a 100, .c 103 (.agg #[vi 0,vi 0, .slice none 0 0]), .a 104, .a 13, .n, .a 14] (fun ix σ β X=>match ix with | 0=>True | 1=>σ 102= .tuple #[.agg #[vi 0,vi 0, .slice none 0 0],vi (nzI (tE (β 102)))] | 2=>σ 100= .tuple #[.agg #[vi 0,vi 0, .slice none 0 0],vi (nzI (tE (β 102)))] | 3=>True | 4=>σ 104=vi (nzI (tE (β 102))) | 5=>σ 13=vp (pb (β 13))∧X 10=eB (pb (β 13)) 48 #[vi 0,vi 0, .slice none 0 0] | 6=>X 11=eB (pb (β 13)) 48 #[vi 0,vi 0, .slice none 0 0] | 7=>σ 14=vi (nzI (tE (β 102))) | _=>True) [0,1,2,3,4,5,6,7,8,9,11] [1,2,3,4,5,6,7] [(13,5,3,15),(85,2,1,86),(0,0,2,2),(0,3,2,2)] hv88_ ?_ ?_ ?_
   ·exact fun ix _ _ _ _ _ _ hs hb hx h=>match ix,h with
    | 1,h=>by dsimp only; rw [← hs 102 rfl,← hb 102 rfl]; exact h
    | 2,h=>by dsimp only; rw [← hs 100 rfl,← hb 102 rfl]; exact h
    | 4,h=>by dsimp only; rw [← hs 104 rfl,← hb 102 rfl]; exact h
    | 5,h=>by dsimp only; rw [← hs 13 rfl,← hb 13 rfl,← hx 10 rfl]; exact h
    | 6,h=>by dsimp only; rw [← hb 13 rfl,← hx 11 rfl]; exact h
    | 7,h=>by dsimp only; rw [← hs 14 rfl,← hb 102 rfl]; exact h
    | 0, _ | 3, _ | _+8, _=>trivial
   ·refine ⟨?_,?_,?_,?_,?_,?_,?_,trivial⟩
    ·refine svA fun ρ β W X cx=>?_
     refine DoesU.call (run_callF (args:=#[.string ((rdS S.D n).1)]) rfl cx.sees rfl (by kernel_rfl) (map1 (cx.an 0))) ?_
     refine (rd_none hrd (pgread_x _ _ hsz5)).mono ?_
     rintro e W1 ⟨er4,hn4,rfl,hx⟩
     refine ⟨_,rfl,post_call [] rfl rfl hx (by simp) List.Pairwise.nil (fun σ β' X' hs hb hv hN=>?_)⟩
     have hv1:=(hv 102 rfl).1; have hv2:=(hv 102 rfl).2
     exact hv1.trans (by rw [hv2]; exact congrArg (fun z=>Value.tuple #[.agg #[vi 0,vi 0, .slice none 0 0],vi z]) (nz_self hn4).symm)
    ·exact sv rfl rfl rfl rfl rfl _ (fun _ _ _ h=>h) (fun β β' h=>by rw [h 102 (by decide)]) fun ρ β W X cx=>run_move' rfl (dTn (cx.an 1))
    ·exact xs4 rfl id fun cx=>run_extract' rfl (dTn (cx.an 2)) rfl
    ·exact sv rfl rfl rfl rfl rfl _ (fun _ _ _ h=>h) (fun β β' h=>by rw [h 102 (by decide)]) fun ρ β W X cx=>run_extract' rfl (dTn (cx.an 2)) rfl
    ·refine svA fun ρ β W X cx=>?_
     exact dv_alloc (cs:=#[vi 0,vi 0, .slice none 0 0]) rfl (by kernel_rfl) rfl rfl (fun σ β' X' hs hb hv hx=>⟨hv,hx⟩)
    ·refine svA fun ρ β W X cx=>?_
     exact dv_store (n:=3) rfl (dTn (cx.an 5)).1 (cx.an 3) (by kernel_rfl) (by kernel_rfl) (by kernel_rfl) cx (dTn (cx.an 5)).2 rfl (nle rfl) (by kernel_rfl) rfl rfl rfl (fun σ β' X' hs hb hx=>by rw [hb 13]; exact hx)
    ·exact sv rfl rfl rfl rfl rfl _ (fun _ _ _ h=>h) (fun β β' h=>by rw [h 102 (by decide)]) fun ρ β W X cx=>run_assign' rfl (dTn (cx.an 4))
   intro σ β X W89 hD hst89 fr hfr
   obtain ⟨e102_89,hu_e102_89⟩:∃ z,tE (β 102)=z:=⟨_,rfl⟩
   obtain ⟨B13_89,hu_B13_89⟩:∃ z,pb (β 13)=z:=⟨_,rfl⟩
   simp only [exq 11 ((dTn (hD 6 lq))),hu_e102_89,hu_B13_89] at hst89
   simp only [ed 102 ((dTn (hD 1 lq))),ed 100 ((dTn (hD 2 lq))),ed 104 ((dTn (hD 4 lq))),ed 13 ((dTn (hD 5 lq)).1),ed 14 ((dTn (hD 7 lq))),hu_e102_89,hu_B13_89] at hfr
   clear hD hu_e102_89 hu_B13_89; subst hfr; clear σ β X
   refine then_normal (wp_seq (wp_seq (sqr (sqp [.m 105 14, .k 106 (.bool ((nzI e102_89) != 0))] ?_))))
   refine then_normal (wbs (fun hs92=>?_) fun hs92=>?_)
   ·have hs92p:=bne_iff_ne.1 hs92
    refine sqr (sqk (.agg #[vi 0,vi 0, .slice none 0 0]) hst89 (fun cx=>⟨_,pgnew_any 0 _,(map1 (cx.co _))⟩) fun W93 hst93=>?_)
    refine sqst (n:=3) 10 #[vi 0,vi 0, .slice none 0 0] hst93 fun W94 hst94=>?_
    refine then_normal (wp_seq ?_)
    have hn95:=St.nilrow hst94 9
    simp only [List.cons_append,List.nil_append] at hn95
    have hmz:mzP (atM S2.pool) n S2.pool.length=S2.pool.length+1:=by rw [mzP,atM_none hno2]; rfl
    have hl5:S2.pool.length < 1000000:=by have:=hok2.len; have:=hok2.bufs; omega
    refine wp_region_Y [0,1,3,7,0,0,0,64,192,448,992,2016,4095] [[],[],[],[0],[],[10],[],[],[],[0],[],[],[1]] [[],[],[],[],[],[],[],[],[],[],[],[12],[13]] [[],[],[],[],[],[],[],[],[],[],[],[],[1]] [.k 108 (vp sb), .k 109 (vp sb), .k 110 (.pointer (some ⟨sb,2,none⟩)), .c 111 (.map (some mb2)), .k 112 (vi n), .c 113 (.agg #[vi 0,vi 0, .slice none 0 0]), .k 114 (vp sb), .k 115 (vp sb), .k 116 (.pointer (some ⟨sb,3,none⟩)), .c 117 (vi S2.time), .k 118 (.agg #[vi 0,vi 0, .slice none 0 0, .bool false,vi S2.time]), .a 119, .n] (fun ix σ β X=>match ix with | 0=>True | 1=>True | 2=>True | 3=>True | 4=>True | 5=>True | 6=>True | 7=>True | 8=>True | 9=>True | 10=>True | 11=>σ 119=vp (pb (β 119))∧X 12=eB (pb (β 119)) 120 #[vi 0,vi 0, .slice none 0 0, .bool false,vi S2.time] | 12=>X 13=eMx kcI ptX Tryz.prog 3 mb2 ((mzP (atM S2.pool) n S2.pool.length)) (putX (atM S2.pool) n (some (some (pb (β 119))))) | _=>True) [0,2,3,4,5,6,7,8,9,10,11,12,13] [3,5,9,11,12] [(108,0,12,120)] hn95 ?_ ?_ ?_
    ·exact fun ix _ _ _ _ _ _ hs hb hx h=>match ix,h with
     | 11,h=>by dsimp only; rw [← hs 119 rfl,← hb 119 rfl,← hx 12 rfl]; exact h
     | 12,h=>by dsimp only; rw [← hb 119 rfl,← hx 13 rfl]; exact h
     | 0, _ | 1, _ | 2, _ | 3, _ | 4, _ | 5, _ | 6, _ | 7, _ | 8, _ | 9, _ | 10, _ | _+13, _=>trivial
    ·refine ⟨?_,?_,?_,?_,?_,trivial⟩
     ·exact xs4 rfl id fun cx=>run_load1 rfl (by kernel_rfl) (cx.an 2) ((cx.bi 0 rfl).cell 2)
     ·exact xs4 rfl id fun cx=>run_loadB (n:=3) rfl (by kernel_rfl) (by kernel_rfl) (cx.ou 13) (cx.bi 10 rfl) (nle rfl) rfl
     ·exact xs4 rfl id fun cx=>run_load1 rfl (by kernel_rfl) (cx.an 8) ((cx.bi 0 rfl).cell 3)
     ·refine svA fun ρ β W X cx=>?_
      exact dv_box (cs:=#[vi 0,vi 0, .slice none 0 0, .bool false,vi S2.time]) rfl (cx.an 10) rfl rfl rfl (fun σ β' X' hs hb hv hx=>⟨hv,hx⟩)
     ·refine svA fun ρ β W X cx=>?_
      exact dv_setMx (e:=115) (v:=(some (pb (β 119)))) (.inl rfl) (cx.an 3) (show ρ _=Kc.enc kcI n from (cx.an 4)) (show ρ _=Ec.enc ptX (some (pb (β 119))) from (dTn (cx.an 11)).1) cx (cx.init 1 _ rfl) rfl (trivial) (by omega) (hkn) rfl rfl rfl (fun σ β' X' hs hb hx=>by rw [hb 119]; exact hx) (hk:=show Program.underlying _ _= _ from by kernel_rfl)
    intro σ β X W96 hD hst96 fr hfr
    obtain ⟨B119_96,hu_B119_96⟩:∃ z,pb (β 119)=z:=⟨_,rfl⟩
    simp only [exq 12 ((dTn (hD 11 lq)).2),exq 13 ((dTn (hD 12 lq))),hu_B119_96] at hst96
    simp only [ed 119 ((dTn (hD 11 lq)).1),hu_B119_96] at hfr
    clear hD hu_B119_96; subst hfr; clear σ β X
    refine then_normal (wp_seq ?_)
    have hg97_:=St.apf (r:=(⟨pgs0,none,0⟩:PgR)) hst96.u11.u2.u11.u4
    have hj97_:=St.abf (t:=(⟨n,B119_96,(⟨pgs0,none,0⟩:PgR),false,S2.time⟩:BfT)) hg97_.u2.u2
    rw [hmz,show putX (atM S2.pool) n (some (some B119_96))=atM (S2.pool++[(⟨n,B119_96,(⟨pgs0,none,0⟩:PgR),false,S2.time⟩:BfT)]) from atM_put (t:=(⟨n,B119_96,(⟨pgs0,none,0⟩:PgR),false,S2.time⟩:BfT)) hno2] at hj97_
    have hnd9:((S2.pool++[(⟨n,B119_96,(⟨pgs0,none,0⟩:PgR),false,S2.time⟩:BfT)]).map BfT.n).Nodup:=nodup_snoc hok2.nodup hno2
    refine sqr (sqp [.m 120 0, .k 121 (vp sb), .k 122 (.pointer (some ⟨sb,2,none⟩))] ?_)
    refine sqld 2 hj97_ ?_
    refine sqp [.m 124 1] ?_
    refine sql (vp B119_96) hj97_ (fun cx=>(run_lookMx (e:=115) (C:=ptX) (K:=kcI) (x:=n) rfl (cx.ou 123) (cx.ou 124) (CtxV.mx cx (cx.init 10 _ rfl) rfl) (h0:=by rfl) (hx:=hkn) (hk:=show Program.underlying _ _= _ from by kernel_rfl)).trans (by rw [show atM (S2.pool++[(⟨n,B119_96,(⟨pgs0,none,0⟩:PgR),false,S2.time⟩:BfT)]) n=some (some B119_96) from atM_at (A:=S2.pool) (B:=[]) hnd9]; rfl)) ?_
    refine sqp [.m 4 125, .k 5 (vi 0)] ?_
    refine then_normal (wp_ret ?_)
    refine bpr (.tuple #[vp B119_96,vi 0]) (results_2 Tryz.results64 rpt rpt) ?_
    obtain ⟨fp106_,hk106_⟩:=St.stf (S:={S2 with pool:=S2.pool++[(⟨n,B119_96,(⟨pgs0,none,0⟩:PgR),false,S2.time⟩:BfT)],rows:=S2.rows++[(⟨pgs0,none,0⟩:PgR)]}) (by have h_:=hj97_.u9.c0.u9.u3; rw [show S2.pool.length+1=(S2.pool++[(⟨n,B119_96,(⟨pgs0,none,0⟩:PgR),false,S2.time⟩:BfT)]).length by simp] at h_; exact h_) (hrw_sub hrw2 (l2:=S2.pool++[(⟨n,B119_96,(⟨pgs0,none,0⟩:PgR),false,S2.time⟩:BfT)]) (rows2:=S2.rows++[(⟨pgs0,none,0⟩:PgR)]) (fun v hv=>(List.mem_append.1 hv).elim (fun h=> .inl ⟨v,h,rfl⟩) (fun h=> .inr (by rw [List.mem_singleton.1 h]; simp))) (fun r h=>by simp [h])) (hrr2)
    exact LdPost.of (by have h_:=load_new hno he0 hu hev B119_96 none 0 (k:=S2.time) (by have h5:=evict_time (S:=tick S) (t:=u); rw [hev] at h5; exact h5); rw [hrp] at h_; exact h_) hk106_
   have hs92p:=bne_eq_false_iff_eq.1 hs92
   refine wp_skip (then_normal (wp_seq ?_))
   have hn107:=St.nilrow hst89 9
   simp only [List.cons_append,List.nil_append] at hn107
   have hmz:mzP (atM S2.pool) n S2.pool.length=S2.pool.length+1:=by rw [mzP,atM_none hno2]; rfl
   have hl5:S2.pool.length < 1000000:=by have:=hok2.len; have:=hok2.bufs; omega
   refine wp_region_Y [0,1,3,7,0,0,0,64,192,448,992,2016,4095] [[],[],[],[0],[],[10],[],[],[],[0],[],[],[1]] [[],[],[],[],[],[],[],[],[],[],[],[12],[13]] [[],[],[],[],[],[],[],[],[],[],[],[],[1]] [.k 108 (vp sb), .k 109 (vp sb), .k 110 (.pointer (some ⟨sb,2,none⟩)), .c 111 (.map (some mb2)), .k 112 (vi n), .c 113 (.agg #[vi 0,vi 0, .slice none 0 0]), .k 114 (vp sb), .k 115 (vp sb), .k 116 (.pointer (some ⟨sb,3,none⟩)), .c 117 (vi S2.time), .k 118 (.agg #[vi 0,vi 0, .slice none 0 0, .bool false,vi S2.time]), .a 119, .n] (fun ix σ β X=>match ix with | 0=>True | 1=>True | 2=>True | 3=>True | 4=>True | 5=>True | 6=>True | 7=>True | 8=>True | 9=>True | 10=>True | 11=>σ 119=vp (pb (β 119))∧X 12=eB (pb (β 119)) 120 #[vi 0,vi 0, .slice none 0 0, .bool false,vi S2.time] | 12=>X 13=eMx kcI ptX Tryz.prog 3 mb2 ((mzP (atM S2.pool) n S2.pool.length)) (putX (atM S2.pool) n (some (some (pb (β 119))))) | _=>True) [0,2,3,4,5,6,7,8,9,10,11,12,13] [3,5,9,11,12] [(108,0,12,120)] hn107 ?_ ?_ ?_
   ·exact fun ix _ _ _ _ _ _ hs hb hx h=>match ix,h with
    | 11,h=>by dsimp only; rw [← hs 119 rfl,← hb 119 rfl,← hx 12 rfl]; exact h
    | 12,h=>by dsimp only; rw [← hb 119 rfl,← hx 13 rfl]; exact h
    | 0, _ | 1, _ | 2, _ | 3, _ | 4, _ | 5, _ | 6, _ | 7, _ | 8, _ | 9, _ | 10, _ | _+13, _=>trivial
   ·refine ⟨?_,?_,?_,?_,?_,trivial⟩
    ·exact xs4 rfl id fun cx=>run_load1 rfl (by kernel_rfl) (cx.an 2) ((cx.bi 0 rfl).cell 2)
    ·exact xs4 rfl id fun cx=>run_loadB (n:=3) rfl (by kernel_rfl) (by kernel_rfl) (cx.ou 13) (cx.bi 10 rfl) (nle rfl) rfl
    ·exact xs4 rfl id fun cx=>run_load1 rfl (by kernel_rfl) (cx.an 8) ((cx.bi 0 rfl).cell 3)
    ·refine svA fun ρ β W X cx=>?_
     exact dv_box (cs:=#[vi 0,vi 0, .slice none 0 0, .bool false,vi S2.time]) rfl (cx.an 10) rfl rfl rfl (fun σ β' X' hs hb hv hx=>⟨hv,hx⟩)
    ·refine svA fun ρ β W X cx=>?_
     exact dv_setMx (e:=115) (v:=(some (pb (β 119)))) (.inl rfl) (cx.an 3) (show ρ _=Kc.enc kcI n from (cx.an 4)) (show ρ _=Ec.enc ptX (some (pb (β 119))) from (dTn (cx.an 11)).1) cx (cx.init 1 _ rfl) rfl (trivial) (by omega) (hkn) rfl rfl rfl (fun σ β' X' hs hb hx=>by rw [hb 119]; exact hx) (hk:=show Program.underlying _ _= _ from by kernel_rfl)
   intro σ β X W108 hD hst108 fr hfr
   obtain ⟨B119_108,hu_B119_108⟩:∃ z,pb (β 119)=z:=⟨_,rfl⟩
   simp only [exq 12 ((dTn (hD 11 lq)).2),exq 13 ((dTn (hD 12 lq))),hu_B119_108] at hst108
   simp only [ed 119 ((dTn (hD 11 lq)).1),hu_B119_108] at hfr
   clear hD hu_B119_108; subst hfr; clear σ β X
   refine then_normal (wp_seq ?_)
   have hg109_:=St.apf (r:=(⟨pgs0,none,0⟩:PgR)) hst108.u11.u2.u11.u4
   have hj109_:=St.abf (t:=(⟨n,B119_108,(⟨pgs0,none,0⟩:PgR),false,S2.time⟩:BfT)) hg109_.u2.u2
   rw [hmz,show putX (atM S2.pool) n (some (some B119_108))=atM (S2.pool++[(⟨n,B119_108,(⟨pgs0,none,0⟩:PgR),false,S2.time⟩:BfT)]) from atM_put (t:=(⟨n,B119_108,(⟨pgs0,none,0⟩:PgR),false,S2.time⟩:BfT)) hno2] at hj109_
   have hnd9:((S2.pool++[(⟨n,B119_108,(⟨pgs0,none,0⟩:PgR),false,S2.time⟩:BfT)]).map BfT.n).Nodup:=nodup_snoc hok2.nodup hno2
   refine sqr (sqp [.m 120 0, .k 121 (vp sb), .k 122 (.pointer (some ⟨sb,2,none⟩))] ?_)
   refine sqld 2 hj109_ ?_
   refine sqp [.m 124 1] ?_
   refine sql (vp B119_108) hj109_ (fun cx=>(run_lookMx (e:=115) (C:=ptX) (K:=kcI) (x:=n) rfl (cx.ou 123) (cx.ou 124) (CtxV.mx cx (cx.init 10 _ rfl) rfl) (h0:=by rfl) (hx:=hkn) (hk:=show Program.underlying _ _= _ from by kernel_rfl)).trans (by rw [show atM (S2.pool++[(⟨n,B119_108,(⟨pgs0,none,0⟩:PgR),false,S2.time⟩:BfT)]) n=some (some B119_108) from atM_at (A:=S2.pool) (B:=[]) hnd9]; rfl)) ?_
   refine sqp [.m 4 125, .k 5 (vi 0)] ?_
   refine then_normal (wp_ret ?_)
   refine bpr (.tuple #[vp B119_108,vi 0]) (results_2 Tryz.results64 rpt rpt) ?_
   obtain ⟨fp118_,hk118_⟩:=St.stf (S:={S2 with pool:=S2.pool++[(⟨n,B119_108,(⟨pgs0,none,0⟩:PgR),false,S2.time⟩:BfT)],rows:=S2.rows++[(⟨pgs0,none,0⟩:PgR)]}) (by have h_:=hj109_.u9.c0.u9.u3; rw [show S2.pool.length+1=(S2.pool++[(⟨n,B119_108,(⟨pgs0,none,0⟩:PgR),false,S2.time⟩:BfT)]).length by simp] at h_; exact h_) (hrw_sub hrw2 (l2:=S2.pool++[(⟨n,B119_108,(⟨pgs0,none,0⟩:PgR),false,S2.time⟩:BfT)]) (rows2:=S2.rows++[(⟨pgs0,none,0⟩:PgR)]) (fun v hv=>(List.mem_append.1 hv).elim (fun h=> .inl ⟨v,h,rfl⟩) (fun h=> .inr (by rw [List.mem_singleton.1 h]; simp))) (fun r h=>by simp [h])) (hrr2)
   exact LdPost.of (by have h_:=load_new hno he0 hu hev B119_108 none 0 (k:=S2.time) (by have h5:=evict_time (S:=tick S) (t:=u); rw [hev] at h5; exact h5); rw [hrp] at h_; exact h_) hk118_
  ·have hrp:=rdP_some hrd
   refine sqr (sqp [.m 101 7] ?_)
   refine sqk2 (fun A102_120 c102_120=> .tuple #[.agg #[vi p.1,vi p.2.1, .slice A102_120 p.2.2.length c102_120],vi 0]) (fun A102_120 c102_120=>eO 9 1 (.slice A102_120 p.2.2.length c102_120) p.2.2.length (p.2.2.map Value.string)) hv88_ (fun cx=>⟨_,(rd_some hrd (pgread_x _ _ hsz5)).mono (by rintro e W1 ⟨A4,c4,rfl,ho,hx⟩; exact ⟨_, _,rfl,St.one hx (eO_new ho)⟩),(map1 (cx.ou 101))⟩) fun A102_120 c102_120 W120 hst120=>?_
   refine sqp [.m 100 102, .k 103 (.agg #[vi p.1,vi p.2.1, .slice A102_120 p.2.2.length c102_120]), .k 104 (vi 0)] ?_
   refine sqal #[vi 0,vi 0, .slice none 0 0] hst120 fun B13_124 W124 hst124=>?_
   refine sqst (n:=3) 11 #[vi p.1,vi p.2.1, .slice A102_120 p.2.2.length c102_120] hst124 fun W125 hst125=>?_
   refine sqp [.m 14 104] ?_
   refine then_normal (wp_seq (wp_seq (sqr (sqp [.m 105 14, .k 106 (.bool false)] ?_))))
   refine then_normal (wcf rfl (wp_skip (then_normal (wp_seq ?_))))
   have hmz:mzP (atM S2.pool) n S2.pool.length=S2.pool.length+1:=by rw [mzP,atM_none hno2]; rfl
   have hl5:S2.pool.length < 1000000:=by have:=hok2.len; have:=hok2.bufs; omega
   refine wp_region_Y [0,1,3,7,0,0,0,64,192,448,992,2016,4095] [[],[],[],[0],[],[11],[],[],[],[0],[],[],[1]] [[],[],[],[],[],[],[],[],[],[],[],[12],[13]] [[],[],[],[],[],[],[],[],[],[],[],[],[1]] [.k 108 (vp sb), .k 109 (vp sb), .k 110 (.pointer (some ⟨sb,2,none⟩)), .c 111 (.map (some mb2)), .k 112 (vi n), .c 113 (.agg #[vi p.1,vi p.2.1, .slice A102_120 p.2.2.length c102_120]), .k 114 (vp sb), .k 115 (vp sb), .k 116 (.pointer (some ⟨sb,3,none⟩)), .c 117 (vi S2.time), .k 118 (.agg #[vi p.1,vi p.2.1, .slice A102_120 p.2.2.length c102_120, .bool false,vi S2.time]), .a 119, .n] (fun ix σ β X=>match ix with | 0=>True | 1=>True | 2=>True | 3=>True | 4=>True | 5=>True | 6=>True | 7=>True | 8=>True | 9=>True | 10=>True | 11=>σ 119=vp (pb (β 119))∧X 12=eB (pb (β 119)) 120 #[vi p.1,vi p.2.1, .slice A102_120 p.2.2.length c102_120, .bool false,vi S2.time] | 12=>X 13=eMx kcI ptX Tryz.prog 3 mb2 ((mzP (atM S2.pool) n S2.pool.length)) (putX (atM S2.pool) n (some (some (pb (β 119))))) | _=>True) [0,2,3,4,5,6,7,8,9,10,11,12,13] [3,5,9,11,12] [(108,0,12,120)] hst125 ?_ ?_ ?_
   ·exact fun ix _ _ _ _ _ _ hs hb hx h=>match ix,h with
    | 11,h=>by dsimp only; rw [← hs 119 rfl,← hb 119 rfl,← hx 12 rfl]; exact h
    | 12,h=>by dsimp only; rw [← hb 119 rfl,← hx 13 rfl]; exact h
    | 0, _ | 1, _ | 2, _ | 3, _ | 4, _ | 5, _ | 6, _ | 7, _ | 8, _ | 9, _ | 10, _ | _+13, _=>trivial
   ·refine ⟨?_,?_,?_,?_,?_,trivial⟩
    ·exact xs4 rfl id fun cx=>run_load1 rfl (by kernel_rfl) (cx.an 2) ((cx.bi 0 rfl).cell 2)
    ·exact xs4 rfl id fun cx=>run_loadB (n:=3) rfl (by kernel_rfl) (by kernel_rfl) (cx.ou 13) (cx.bi 11 rfl) (nle rfl) rfl
    ·exact xs4 rfl id fun cx=>run_load1 rfl (by kernel_rfl) (cx.an 8) ((cx.bi 0 rfl).cell 3)
    ·refine svA fun ρ β W X cx=>?_
     exact dv_box (cs:=#[vi p.1,vi p.2.1, .slice A102_120 p.2.2.length c102_120, .bool false,vi S2.time]) rfl (cx.an 10) rfl rfl rfl (fun σ β' X' hs hb hv hx=>⟨hv,hx⟩)
    ·refine svA fun ρ β W X cx=>?_
     exact dv_setMx (e:=115) (v:=(some (pb (β 119)))) (.inl rfl) (cx.an 3) (show ρ _=Kc.enc kcI n from (cx.an 4)) (show ρ _=Ec.enc ptX (some (pb (β 119))) from (dTn (cx.an 11)).1) cx (cx.init 1 _ rfl) rfl (trivial) (by omega) (hkn) rfl rfl rfl (fun σ β' X' hs hb hx=>by rw [hb 119]; exact hx) (hk:=show Program.underlying _ _= _ from by kernel_rfl)
   intro σ β X W129 hD hst129 fr hfr
   obtain ⟨B119_129,hu_B119_129⟩:∃ z,pb (β 119)=z:=⟨_,rfl⟩
   simp only [exq 12 ((dTn (hD 11 lq)).2),exq 13 ((dTn (hD 12 lq))),hu_B119_129] at hst129
   simp only [ed 119 ((dTn (hD 11 lq)).1),hu_B119_129] at hfr
   clear hD hu_B119_129; subst hfr; clear σ β X
   refine then_normal (wp_seq ?_)
   have hg130_:=St.apf (r:=(⟨p,A102_120,c102_120⟩:PgR)) hst129.u11.u2.u10.u4
   have hj130_:=St.abf (t:=(⟨n,B119_129,(⟨p,A102_120,c102_120⟩:PgR),false,S2.time⟩:BfT)) hg130_.u2.u2
   rw [hmz,show putX (atM S2.pool) n (some (some B119_129))=atM (S2.pool++[(⟨n,B119_129,(⟨p,A102_120,c102_120⟩:PgR),false,S2.time⟩:BfT)]) from atM_put (t:=(⟨n,B119_129,(⟨p,A102_120,c102_120⟩:PgR),false,S2.time⟩:BfT)) hno2] at hj130_
   have hnd9:((S2.pool++[(⟨n,B119_129,(⟨p,A102_120,c102_120⟩:PgR),false,S2.time⟩:BfT)]).map BfT.n).Nodup:=nodup_snoc hok2.nodup hno2
   refine sqr (sqp [.m 120 0, .k 121 (vp sb), .k 122 (.pointer (some ⟨sb,2,none⟩))] ?_)
   refine sqld 2 hj130_ ?_
   refine sqp [.m 124 1] ?_
   refine sql (vp B119_129) hj130_ (fun cx=>(run_lookMx (e:=115) (C:=ptX) (K:=kcI) (x:=n) rfl (cx.ou 123) (cx.ou 124) (CtxV.mx cx (cx.init 10 _ rfl) rfl) (h0:=by rfl) (hx:=hkn) (hk:=show Program.underlying _ _= _ from by kernel_rfl)).trans (by rw [show atM (S2.pool++[(⟨n,B119_129,(⟨p,A102_120,c102_120⟩:PgR),false,S2.time⟩:BfT)]) n=some (some B119_129) from atM_at (A:=S2.pool) (B:=[]) hnd9]; rfl)) ?_
   refine sqp [.m 4 125, .k 5 (vi 0)] ?_
   refine then_normal (wp_ret ?_)
   refine bpr (.tuple #[vp B119_129,vi 0]) (results_2 Tryz.results64 rpt rpt) ?_
   obtain ⟨fp139_,hk139_⟩:=St.stf (S:={S2 with pool:=S2.pool++[(⟨n,B119_129,(⟨p,A102_120,c102_120⟩:PgR),false,S2.time⟩:BfT)],rows:=S2.rows++[(⟨p,A102_120,c102_120⟩:PgR)]}) (by have h_:=hj130_.u9.c0.u9.u3; rw [show S2.pool.length+1=(S2.pool++[(⟨n,B119_129,(⟨p,A102_120,c102_120⟩:PgR),false,S2.time⟩:BfT)]).length by simp] at h_; exact h_) (hrw_sub hrw2 (l2:=S2.pool++[(⟨n,B119_129,(⟨p,A102_120,c102_120⟩:PgR),false,S2.time⟩:BfT)]) (rows2:=S2.rows++[(⟨p,A102_120,c102_120⟩:PgR)]) (fun v hv=>(List.mem_append.1 hv).elim (fun h=> .inl ⟨v,h,rfl⟩) (fun h=> .inr (by rw [List.mem_singleton.1 h]; simp))) (fun r h=>by simp [h])) (hrr2)
   exact LdPost.of (by have h_:=load_new hno he0 hu hev B119_129 A102_120 c102_120 (k:=S2.time) (by have h5:=evict_time (S:=tick S) (t:=u); rw [hev] at h5; exact h5); rw [hrp] at h_; exact h_) hk139_
 ·rw [hAB] at hst11
  have ho140_:=St.obf (t:=t) hst11.u2
  have htm:t∈S.pool:=by rw [hAB]; simp
  have hnd:((A++t::B).map BfT.n).Nodup:=by rw [← hAB]; exact hok.nodup
  refine sqr (sqp [.m 22 0, .k 23 (vp sb), .k 24 (.pointer (some ⟨sb,2,none⟩))] ?_)
  refine sqld 2 ho140_ ?_
  refine sqp [.m 26 1] ?_
  refine sql (.pointer (some ⟨t.blk,0,none⟩)) ho140_ (fun cx=>(run_lookMx (e:=115) (C:=ptX) (K:=kcI) (x:=t.n) rfl (cx.ou 25) (cx.ou 26) (CtxV.mx cx (cx.init 3 _ rfl) rfl) (h0:=by rfl) (hx:=hkn) (hk:=show Program.underlying _ _= _ from by kernel_rfl)).trans (by rw [atM_at hnd]; rfl)) ?_
  refine sqp [.m 6 27] ?_
  refine then_normal (wp_seq (sqr (sqp [.m 28 6] ?_)))
  refine sqv (.bool true) ho140_ (by
    exact sv0 rfl rfl rfl rfl rfl (fun _ _ _ h=>h) fun ρ β W X cx=>by
     have fF28:ρ (.tmp 28)= .pointer (some ⟨t.blk,0,none⟩):=(cx.ou 28)
     simp [go_sem,cx.sees.const,fF28]) fun W149 hst149=>?_
  refine then_normal (wct rfl (wp_seq (sqr (sqp [.m 30 6, .m 31 0, .k 32 (vp sb), .k 33 (.pointer (some ⟨sb,3,none⟩))] ?_))))
  refine sqld 2 hst149 ?_
  refine sqp [.k 35 (.pointer (some ⟨t.blk,0,none⟩)), .k 36 (.pointer (some ⟨t.blk,4,none⟩))] ?_
  refine sqst (n:=1) 1 #[vi t.pg.p.1,vi t.pg.p.2.1, .slice t.pg.A t.pg.p.2.2.length t.pg.c, .bool t.dirty,vi (S.time+1)] hst149 fun W157 hst157=>?_
  refine then_normal (wp_seq (sqr (sqp [.m 37 6, .m 4 37, .k 5 (vi 0)] ?_)))
  refine then_normal (wp_ret (then_ret ?_))
  refine bpr (.tuple #[.pointer (some ⟨t.blk,0,none⟩),vi 0]) (results_2 Tryz.results64 rpt rpt) ?_
  have hi161_:=St.ibf (t:=(useB (S.time+1) t)) hst157
  obtain ⟨fp162_,hk162_⟩:=St.stf (S:={tick S with pool:=A++useB (S.time+1) t::B}) (by have h_:=hi161_.u2.u2; rw [← atM_set (A:=A) (B:=B) (t:=t) (u:=useB (S.time+1) t) rfl rfl,show (A++t::B).length=(A++useB (S.time+1) t::B).length by simp] at h_; exact h_) (hrw_sub hrw (by rw [hAB]; exact mid_sub (t:=t) (u:=useB (S.time+1) t) rfl) (fun r h=>h)) (hrr)
  exact LdPost.of ⟨by have h_:=LdR.hit (S:=S) t htm rfl; rw [hAB,setB_mid hnd] at h_; exact h_,fun _=>⟨useB (S.time+1) t,by show _∈A++useB (S.time+1) t::B; simp,rfl,rfl⟩⟩ hk162_
end
section
open Go.RowKit
theorem rdS_in2 {D:DkM} {n:Int} (h:(rdS D n).2=0):0≤n∧n < (D.pgs.length:Int):=by
 unfold rdS at h
 split at h
 ·cases h
 ·split at h
  ·assumption
  ·cases h
theorem evict_pgs (S:StM) (t:BfT):(evictF S t).1.D.pgs.length=S.D.pgs.length:=by
 have hw:∀ S:StM,(writeF S t).1.D.pgs.length=S.D.pgs.length:=fun S=>by
  have h1:(wrD0 S t).1.pgs.length=S.D.pgs.length:=by
   unfold wrD0
   split
   ·rw [opD_pgs0]
   ·rfl
  unfold writeF
  split
  ·exact h1
  ·exact ((DOk.write _ t.n _).pgs).trans h1
 have hc:(cleanF S t).1.D.pgs.length=S.D.pgs.length:=by
  unfold cleanF
  split
  ·exact hw S
  ·rfl
 unfold evictF
 split
 ·split
  ·exact hc
  ·exact hc
 ·rfl
theorem evict_rows (S:StM) (t:BfT):(evictF S t).1.rows=S.rows∧(evictF S t).1.recs=S.recs∧(evictF S t).1.frm=S.frm∧(evictF S t).1.im=S.im∧(evictF S t).1.told=S.told:=by
 have hc:(cleanF S t).1.rows=S.rows∧(cleanF S t).1.recs=S.recs∧(cleanF S t).1.frm=S.frm∧(cleanF S t).1.im=S.im∧(cleanF S t).1.told=S.told:=by
  unfold cleanF
  split
  ·unfold writeF
   split<;>exact ⟨rfl,rfl,rfl,rfl,rfl⟩
  ·exact ⟨rfl,rfl,rfl,rfl,rfl⟩
 unfold evictF
 split
 ·split
  ·exact hc
  ·exact hc
 ·exact ⟨rfl,rfl,rfl,rfl,rfl⟩
theorem rdS_sh {D:DkM} {n:Int} (h:(rdS D n).2=0):(rdS D n).1=(rdT (D.pgs.getD n.toNat shd0)).1:=by
 unfold rdS at h ⊢
 split at h
 ·cases h
 ·rename_i ho
  rw [if_neg ho]
  split at h
  ·rename_i hn; rw [if_pos hn]
  ·cases h
theorem evict_sh {S:StM} {c:Nat} (h:SOk S c) {t:BfT} (ht:S.bufs≤(S.pool.length:Int)→t∈S.pool) {m:Int} (hm:0≤m) (hn:∀ u∈S.pool,u.n≠m):shP (evictF S t).1.D m=shP S.D m:=by
 unfold evictF
 split
 ·rename_i hb
  have hr:=h.right t (ht hb)
  have hc:shP (cleanF S t).1.D m=shP S.D m:=by
   unfold cleanF
   split
   ·rcases write_sh (S:=S) hr hm with h1 | ⟨h1, _⟩
    ·exact h1
    ·exact absurd h1.symm (hn t (ht hb))
   ·rfl
  split
  ·exact hc
  ·exact hc
 ·rfl
theorem SOk.load {S S':StM} {c:Nat} {n er:Int} (h:SOk S c) (hl:LdR S n S' er):SOk S' (c+3):=by
 cases hl with
 | hit t ht hn=>exact (h.tick.setp (f:=useB (S.time+1)) (fun _=>rfl) (fun t ht=>h.right t ht) (fun t ht _ hd=>h.cl t ht hd)).mono (by omega)
 | bad h1 h2=>exact h.tick.mono (by omega)
 | new t blk A cc h1 h2 h3=>
   have he:=(h.tick.evict t h3)
   unfold loadN
   split
   ·exact he.mono (by omega)
   ·rename_i h4
    have h4:(evictF (Go.Proofs.YtcdjaepgahbhfaaGreat.tick S) t).2=0:=by simpa using h4
    have hlen:=evict_len h.tick h3 h4
    have hr:=rdS_in2 h2
    have hp:(evictF (Go.Proofs.YtcdjaepgahbhfaaGreat.tick S) t).1.D.pgs.length=S.D.pgs.length:=evict_pgs _ _
    have he2:=he.mono (show c+1+1≤c+3 by omega)
    refine ⟨he2.bufs,he2.pgs,he2.ws,he2.time,he2.ni,he2.nt,fun u hu=>?_,nodup_snoc he2.nodup (evict_keys (S:=Go.Proofs.YtcdjaepgahbhfaaGreat.tick S) h1),?_,fun u hu=>?_,he2.recs,he2.log,he2.lsz,he2.fl,fun u hu hd=>?_⟩
    ·rcases List.mem_append.1 hu with hu | hu
     ·exact he2.right u hu
     ·rw [List.mem_singleton.1 hu]; exact rd_right _
    ·show (((evictF (Go.Proofs.YtcdjaepgahbhfaaGreat.tick S) t).1.pool++[_]).length:Int)≤(evictF (Go.Proofs.YtcdjaepgahbhfaaGreat.tick S) t).1.bufs
     rw [List.length_append,List.length_singleton]
     omega
    ·rcases List.mem_append.1 hu with hu | hu
     ·exact he2.keys u hu
     ·rw [List.mem_singleton.1 hu]
      show 0≤n∧n < ((evictF (Go.Proofs.YtcdjaepgahbhfaaGreat.tick S) t).1.D.pgs.length:Int)
      rw [hp]; exact hr
    ·rcases List.mem_append.1 hu with hu | hu
     ·exact he2.cl u hu hd
     ·rw [List.mem_singleton.1 hu]
      show rdP (rdS S.D n).1=shP (evictF (Go.Proofs.YtcdjaepgahbhfaaGreat.tick S) t).1.D n
      rw [evict_sh h.tick h3 hr.1 h1,rdS_sh h2]; rfl
theorem LdR.rows {S S':StM} {n er:Int} (hl:LdR S n S' er):(∀ r∈S.rows,r∈S'.rows)∧S'.recs=S.recs∧S'.frm=S.frm∧S'.im=S.im∧S'.told=S.told:=by
 cases hl with
 | hit t ht hn=>exact ⟨fun r h=>h,rfl,rfl,rfl,rfl⟩
 | bad h1 h2=>exact ⟨fun r h=>h,rfl,rfl,rfl,rfl⟩
 | new t blk A cc h1 h2 h3=>
   have he:=evict_rows (tick S) t
   unfold loadN
   split
   ·exact ⟨fun r h=>by rw [he.1]; exact h,he.2⟩
   ·exact ⟨fun r h=>List.mem_append_left _ (by rw [he.1]; exact h),he.2⟩
def putB (pg:PgR) (t:BfT):BfT:={t with pg:=pg,dirty:=true}
/-- what put leaves -/
def PutR (S:StM) (n:Int) (pg:PgR) (S':StM) (er:Int):Prop:=∃ S1,LdR S n S1 er∧((er≠0∧S'=S1)∨(er=0∧(∃ t∈S1.pool,t.n=n)∧S'={S1 with pool:=setB S1.pool n (putB pg)}))
theorem SOk.put {S S':StM} {c:Nat} {n er:Int} {pg:PgR} (h:SOk S c) (hr:rightP pg.p) (hp:PutR S n pg S' er):SOk S' (c+3):=by
 obtain ⟨S1,h1,⟨_,rfl⟩ | ⟨_, _,rfl⟩⟩:=hp
 ·exact h.load h1
 ·exact (h.load h1).setp (fun _=>rfl) (fun _ _=>hr) (fun _ _ _ hd=>by cases hd)
def PuPost (sb db:Nat) (S:StM) (n:Int) (pg:PgR) (fp:List Nat) (w:World) (e:Ending) (w':World):Prop:=∃ er,e= .returned (.int .i64 er)∧∃ fp',St w fp [eSx sb db (fun S2=>PutR S n pg S2 er) fp'] w'
theorem PuPost.of {sb db:Nat} {S S2:StM} {n er:Int} {pg:PgR} {fp fp':List Nat} {w w':World} (h:PutR S n pg S2 er) (hs:St w fp ([]++[eSt sb db S2 fp']) w'):PuPost sb db S n pg fp w (.returned (.int .i64 er)) w':=⟨er,rfl,fp',St.sx (L:=[]) hs h⟩
theorem sput_any (sb db:Nat) (S:StM) (n:Int) (pg:PgR) (c:Nat) (fp:List Nat) (w:World) (hB:(eSt sb db S fp).holds w) (hlt:∀ k∈fp,k < w.heap.size) (hok:SOk S c) (hc:c≤800000000) (hkn:kcI.ok n) (hpg:pg∈S.rows):
  Calls Tryz.prog 58 #[.pointer (some ⟨sb,0,none⟩), .int .i64 n, .agg #[.int .i64 pg.p.1, .int .i64 pg.p.2.1, .slice pg.A pg.p.2.2.length pg.c]] w (PuPost sb db S n pg fp w):=by
 have st1:St w fp [eSt sb db S fp] w:=St.lend hB (eSt_loc _ _ _ _) hlt
 go_enter Tryz.func58,Tryz.ntmps58
 have hst0:=st1
 refine wp_seq (sqr ?_)
 refine sqbx #[vi pg.p.1,vi pg.p.2.1, .slice pg.A pg.p.2.2.length pg.c] hst0 fun B5_1 W1 hst1=>?_
 refine sqp [.k 6 (vi 0)] ?_
 refine then_normal (wp_seq (sqr (sqp [.m 10 0, .m 11 1] ?_)))
 refine sqc2s (fun x_=>tE x_) (fun x_=>tF x_) (fun X_=>X_.fp) (fun er12_5 vp12_5=> .tuple #[vp12_5,vi er12_5]) (fun er12_5 vp12_5 r2_5=>eSx sb db (fun S2=>LdQ S n S2 er12_5 vp12_5) r2_5) 0 hst1 (by
   refine svA fun ρ β W X cx=>?_
   refine DoesU.call (run_callF (args:=#[vp sb,vi n]) rfl cx.sees rfl (by kernel_rfl) (map2 (cx.ou 10) (cx.ou 11))) ?_
   refine (sload_any sb db S n c _ _ (CtxV.holdF cx (cx.init 0 _ rfl) rfl) (CtxV.ltF cx (cx.init 0 _ rfl) rfl) hok hc hkn).mono ?_
   rintro e W1 ⟨er4,vp4,rfl,fp4,hs4⟩
   refine ⟨_,rfl,post_obj (E:=eSt sb db S fp) [eSx sb db (fun S2=>LdQ S n S2 er4 vp4) fp4] (cx.init 0 _ rfl) rfl rfl hs4 (fun σ β' X' hs hb hv hN=>?_)⟩
   have hv1:=(hv 12 rfl).1; have hv2:=(hv 12 rfl).2
   exact ⟨hv1.trans (by rw [hv2]; exact rfl),(by rw [hv2]; exact eSx_self ((List.cons.inj hN).1))⟩) fun er12_5 vp12_5 r2_5 W5 hst5=>?_
 refine sqp [.m 9 12, .k 13 (vp12_5), .k 14 (vi er12_5), .m 7 13, .m 8 14] ?_
 refine then_normal (wp_seq (wp_seq ?_))
 obtain ⟨S1,hL,hy11_⟩:=hst5.unx
 have hok1:=hok.load hL.1
 refine sqr (sqp [.m 15 8, .k 16 (.bool (er12_5==0))] ?_)
 refine then_normal (wbs (fun hs14=>?_) fun hs14=>?_)
 ·have hs14p:=beq_iff_eq.1 hs14
  obtain ⟨t,htm_t,rfl,rfl⟩:=hL.2 (by simpa using hs14)
  obtain ⟨⟨hrw1,hrr1⟩,mb1,RA1,rc1,EA1,ec1,ib1,tb1,fpd1,hv15_⟩:=hy11_.unf
  obtain ⟨A,B,hAB⟩:=List.append_of_mem htm_t
  have hnd:((A++t::B).map BfT.n).Nodup:=by rw [← hAB]; exact hok1.nodup
  rw [hAB] at hv15_
  have ho16_:=St.obf (t:=t) hv15_.u2
  refine sqr (sqp [.m 17 7, .m 18 7] ?_)
  refine sqlb 11 3 ho16_ ?_
  refine sqp [.k 20 (.pointer (some ⟨t.blk,0,none⟩)), .k 21 (.pointer (some ⟨t.blk,0,none⟩))] ?_
  refine sqst (n:=3) 1 #[vi pg.p.1,vi pg.p.2.1, .slice pg.A pg.p.2.2.length pg.c, .bool t.dirty,vi t.used] ho16_ fun W22 hst22=>?_
  refine sqp [.k 22 (.pointer (some ⟨t.blk,0,none⟩)), .k 23 (.pointer (some ⟨t.blk,3,none⟩))] ?_
  refine sqst (n:=1) 1 #[vi pg.p.1,vi pg.p.2.1, .slice pg.A pg.p.2.2.length pg.c, .bool true,vi t.used] hst22 fun W25 hst25=>?_
  refine then_normal (wp_seq (sqr (sqp [.m 24 8, .m 6 24] ?_)))
  refine then_normal (wp_ret ?_)
  refine bpr (vi er12_5) (results_1 Tryz.results58 rpt) ?_
  have hi28_:=St.ibf (t:=(putB pg t)) hst25
  obtain ⟨fp29_,hk29_⟩:=St.stf (S:={S1 with pool:=A++putB pg t::B}) (by have h_:=hi28_.u10.c0.u2.u2; rw [← atM_set (A:=A) (B:=B) (t:=t) (u:=putB pg t) rfl rfl,show (A++t::B).length=(A++putB pg t::B).length by simp] at h_; exact h_) (fun u hu=>(List.mem_append.1 hu).elim (fun h=>hrw1 u (by rw [hAB]; simp [h])) fun h=>(List.mem_cons.1 h).elim (fun h=>by rw [h]; exact hL.1.rows.1 pg hpg) fun h=>hrw1 u (by rw [hAB]; simp [h])) (hrr1)
  exact PuPost.of ⟨S1,hL.1, .inr ⟨by simpa using hs14,⟨t,htm_t,rfl⟩,by rw [hAB,setB_mid hnd]⟩⟩ hk29_
 have hs14p:=beq_eq_false_iff_ne.1 hs14
 refine wp_skip (then_normal (wp_seq (sqr (sqp [.m 24 8, .m 6 24] ?_))))
 refine then_normal (wp_ret ?_)
 refine bpr (vi er12_5) (results_1 Tryz.results58 rpt) ?_
 exact PuPost.of ⟨S1,hL.1, .inl ⟨by simpa using hs14,rfl⟩⟩ (hy11_.pick [0] (by decide) rfl)
end
end Go.Proofs.YtcdjaepgahbhfaaGreat

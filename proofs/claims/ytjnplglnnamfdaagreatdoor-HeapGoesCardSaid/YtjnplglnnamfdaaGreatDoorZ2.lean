/- HeapGoesRow9: part 2 of the proof. -/
import Derived.Test.YtjnplglnnamfdaaGreatDoorZ1
import Derived.Deep.QuietTactic
import Derived.BigQuiet
import Derived.Laws.StructEq
import Derived.Shelf.Strings.Builder1
import Derived.Laws.IdiomStrings
import Derived.Lib.UnsafeStr
import Derived.Shelf.Strings.Builder2
import Derived.Shelf.Strings.OnBuilder
import Derived.Shelf.Strings.BuilderF
import Derived.Test.YtjnplglnnamfdaaGreatDoorProg
import Derived.Recover
set_option linter.unusedVariables false
set_option linter.unusedSimpArgs false
set_option maxRecDepth 100000
set_option maxHeartbeats 16000000
namespace Go.Proofs.YtjnplglnnamfdaaGreatDoor
section
open Go.RowKit
theorem flatPos {α:Type} {f:α→List Value} {sz:Nat} {ts:List α} (hf:∀ x,(f x).length=sz) (h0:0 < sz) (h:0 < ts.length):0 < (ts.flatMap f).length:=by
 cases ts with
 | nil=>simp at h
 | cons a l=>rw [List.flatMap_cons,List.length_append,hf]; omega
def gS:List Value→Nat→Value
 | [], _=>undef
 | a:: _,0=>a
 | _::l,k+1=>gS l k
theorem gS_get:∀ {l:List Value} {k:Nat},k < l.length→l[k]? =some (gS l k)
 | [],k,h=>by simp at h
 | a::l,0,h=>rfl
 | a::l,k+1,h=>by rw [List.getElem?_cons_succ,gS]; exact gS_get (by simpa using h)
def eZ:Ent:=⟨[],fun _=>True⟩
/-- the entries but for those of kl -/
def remQ (kl:List Nat):Nat→List Ent→List Ent
 | _,[]=>[]
 | k,e::l=>if kl.contains k then remQ kl (k+1) l else e::remQ kl (k+1) l
theorem remQ_mem {kl:List Nat}:∀ {l:List Ent} {k:Nat} {e:Ent},e∈remQ kl k l→∃ j,l[j]? =some e∧kl.contains (k+j)=false
 | [],k,e,h=>by cases h
 | x::l,k,e,h=>by
   rw [remQ] at h
   split at h
   ·obtain ⟨j,h1,h2⟩:=remQ_mem h
    exact ⟨j+1,by simpa using h1,by rw [show k+(j+1)=k+1+j by omega]; exact h2⟩
   ·rename_i hc
    rcases List.mem_cons.1 h with rfl | h
    ·exact ⟨0,rfl,by simpa using hc⟩
    ·obtain ⟨j,h1,h2⟩:=remQ_mem h
     exact ⟨j+1,by simpa using h1,by rw [show k+(j+1)=k+1+j by omega]; exact h2⟩
theorem remQ_sub {kl:List Nat}:∀ {l:List Ent} {k:Nat},(remQ kl k l).Sublist l
 | [],k=>List.Sublist.refl _
 | x::l,k=>by
   rw [remQ]
   split
   ·exact List.Sublist.cons _ remQ_sub
   ·exact List.Sublist.cons_cons _ remQ_sub
theorem rem_perm (E:Ent) (q:Nat):∀ (L:List Ent) (k:Nat),k≤q→q < k+L.length→(remQ [q] k L++[E]).Perm (L.set (q - k) E)
 | [],k,h1,h2=>by simp at h2; omega
 | x::l,k,h1,h2=>by
   by_cases hq:k=q
   ·subst hq
    have hr:∀ (l:List Ent) (j:Nat),k < j→remQ [k] j l=l:=by
     intro l
     induction l with
     | nil=>intro j _; rfl
     | cons y l ih=>intro j hj; rw [remQ,if_neg (by simp; omega),ih (j+1) (by omega)]
    rw [remQ,if_pos (by simp),hr l (k+1) (by omega),Nat.sub_self]
    exact List.perm_append_singleton E l
   ·rw [remQ,if_neg (by simp; omega),show q - k=(q - (k+1))+1 by omega,List.set_cons_succ]
    exact (rem_perm E q l (k+1) (by omega) (by simp at h2; omega)).cons x
theorem St.perm {w0 W:World} {bor:List Nat} {L L':List Ent} (h:St w0 bor L W) (hp:L.Perm L'):St w0 bor L' W:=
 ⟨h.upd,fun e he=>h.ok e (hp.mem_iff.2 he),(hp.pairwise_iff fun hab=>Ent.apart.symm hab).1 h.apart⟩
theorem remQ_nil:∀ {l:List Ent} {k:Nat},remQ [] k l=l
 | [], _=>rfl
 | x::l,k=>by rw [remQ,if_neg (by simp),remQ_nil]
section
variable {P:Program} {Q:Exit→Act→World→Prop} {rest:List Oper} {o:Oper} {ops:Array Oper} {t0:Array Value} {d0:List Deferred} {w0 w:World} {bor:List Nat} {L:List Ent}
 {D:Nat→(Tmp→Value)→(Tmp→Value)→(Nat→Ent)→Prop}
theorem sqCtx (hst:St w0 bor L w) (β:Tmp→Value):CtxV #[o] [0] ⟨t0,d0⟩ w0 bor L [List.range L.length] D 0 (Act.eval ⟨t0,d0⟩) β w (fun q=>L.getD q eZ) where
 sees:=⟨fun _=>rfl,fun _=>rfl,fun _=>rfl⟩
 upd:=hst.upd
 out:=fun _ _=>rfl
 anc:=fun j h=>by simp [isAnc] at h
 init:=fun q e h=>by simp [h]
 ok:=fun q h=>by
  have hq:q < L.length:=by simpa [atV] using h
  try dsimp only
  rw [List.getD_eq_getElem?_getD,List.getElem?_eq_getElem hq]
  exact hst.ok _ (List.getElem_mem hq)
 ap:=fun q q' h h' hne=>by
  have hq:q < L.length:=by simpa [atV] using h
  have hq':q' < L.length:=by simpa [atV] using h'
  try dsimp only
  rw [List.getD_eq_getElem?_getD,List.getElem?_eq_getElem hq,List.getD_eq_getElem?_getD,List.getElem?_eq_getElem hq']
  rcases Nat.lt_or_ge q q' with h1 | h1
  ·exact List.pairwise_iff_getElem.1 hst.apart q q' hq hq' h1
  ·exact (List.pairwise_iff_getElem.1 hst.apart q' q hq' hq (by omega)).symm
/-- what an operation leaves, as a state -/
theorem sqSt (hst:St w0 bor L w) {kl:List Nat} {N:List Ent} {w':World} (hk:∀ q∈kl,q < L.length) (h:EffV (kl.flatMap fun q=>(L.getD q eZ).fp) w w' N):St w0 bor (remQ kl 0 L++N) w':=by
 have hin:∀ q,q < L.length→L.getD q eZ∈L:=fun q hq=>by
  rw [List.getD_eq_getElem?_getD,List.getElem?_eq_getElem hq]; exact List.getElem_mem hq
 have hS:∀ k∈kl.flatMap (fun q=>(L.getD q eZ).fp),(k∈bor∨w0.heap.size≤k)∧k < w.heap.size:=fun k hk'=>by
  obtain ⟨q,hq,hkq⟩:=List.mem_flatMap.1 hk'
  exact (hst.ok _ (hin q (hk q hq))).own k hkq
 have hno:∀ e∈remQ kl 0 L,∀ k∈e.fp,k∉kl.flatMap (fun q=>(L.getD q eZ).fp):=fun e he k hke hkS=>by
  obtain ⟨j,h1,h2⟩:=remQ_mem he
  obtain ⟨hj,rfl⟩:=List.getElem?_eq_some_iff.1 h1
  obtain ⟨q,hq,hkq⟩:=List.mem_flatMap.1 hkS
  have hq':=hk q hq
  rw [List.getD_eq_getElem?_getD,List.getElem?_eq_getElem hq'] at hkq
  have hne:q≠j:=by
   rintro rfl
   rw [Nat.zero_add] at h2
   have:=List.contains_iff_mem.2 hq
   rw [h2] at this; cases this
  rcases Nat.lt_or_ge q j with h3 | h3
  ·exact List.pairwise_iff_getElem.1 hst.apart q j hq' hj h3 k hkq hke
  ·exact List.pairwise_iff_getElem.1 hst.apart j q hj hq' (by omega) k hke hkq
 refine ⟨hst.upd.join h.upd fun i hi=>(hS i hi).1,fun e he=>?_,?_⟩
 ·rcases List.mem_append.1 he with he | he
  ·exact (hst.ok e (remQ_sub.subset he)).keep h.upd (hno e he)
  ·obtain ⟨h1,h2,h3⟩:=h.ok e he
   refine ⟨h1,h2,fun k hk'=>⟨?_,(h3 k hk').2⟩⟩
   rcases (h3 k hk').1 with h4 | h4
   ·exact (hS k h4).1
   ·exact .inr (Nat.le_trans hst.upd.size h4)
 ·rw [List.pairwise_append]
  refine ⟨hst.apart.sublist remQ_sub,h.apart,fun a ha b hb k hka hkb=>?_⟩
  rcases ((h.ok b hb).2.2 k hkb).1 with h4 | h4
  ·exact hno a ha k hka h4
  ·have:=((hst.ok a (remQ_sub.subset ha)).own k hka).2
   omega
theorem sqD (m:Nat) (kl:List Nat) (hst:St w0 bor L w) (h2:DoesU P o (Act.eval ⟨t0,d0⟩) w (PostV [List.range' L.length m] [kl] D 0 o.dst (Act.eval ⟨t0,d0⟩) (fun _=>undef) w fun q=>L.getD q eZ)) (hg:o.guard=none) (hk:∀ q∈kl,q < L.length)
  (hn:∀ (σ β:Tmp→Value) (X:Nat→Ent) (v:Value) (w':World),D 0 σ β X→(∀ d,o.dst=some d→σ d=v∧β d=v)→St w0 bor (remQ kl 0 L++(List.range' L.length m).map X) w'→wpList P ops Q rest (Act.put ⟨t0,d0⟩ o.dst v) w'):
  wpList P ops Q (o::rest) ⟨t0,d0⟩ w:=by
 refine wpList_plain hg fun K hK=>?_
 refine h2.wp fun v w' ⟨N,hl,heff,hD⟩=>hK _ _ ?_
 have hl':N.length=m:=by simpa [atV] using hl
 have hmap:(List.range' L.length m).map (fun q=>if q < L.length then L.getD q eZ else N.getD (q - L.length) eZ)=N:=by
  apply List.ext_getElem
  ·simp [hl']
  ·intro i h3 h4
   simp only [List.getElem_map,List.getElem_range']
   rw [if_neg (by omega),List.getD_eq_getElem?_getD,show L.length+1*i - L.length=i by omega,List.getElem?_eq_getElem h4]; rfl
 have hDD:=hD (fun t=>if o.dst=some t then v else Act.eval ⟨t0,d0⟩ (.tmp t)) (fun t=>if o.dst=some t then v else undef) (fun q=>if q < L.length then L.getD q eZ else N.getD (q - L.length) eZ)
  (fun t ht=>if_neg ht) (fun d hd=>if_pos hd) (fun t ht=>if_neg ht) (fun d hd=>if_pos hd) (fun q hq=>?_) (by simpa [atV] using hmap)
 ·exact hn _ _ _ v w' hDD (fun d hd=>⟨if_pos hd,if_pos hd⟩) (by rw [hmap]; exact sqSt hst hk (by simpa [atV] using heff))
 ·dsimp only
  split
  ·rfl
  ·rename_i h5
   have h6:¬ q < L.length+m:=fun h7=>hq (by simp only [atV,List.getD_cons_zero,List.mem_range'_1]; omega)
   rw [List.getD_eq_getElem?_getD,List.getElem?_eq_none (by omega),List.getD_eq_getElem?_getD,List.getElem?_eq_none (by omega)]
theorem sqG (m:Nat) (kl:List Nat) (hst:St w0 bor L w) (hs:StepV P #[o] [0] ⟨t0,d0⟩ w0 bor L [List.range L.length] [List.range' L.length m] [kl] D 0) (hg:o.guard=none) (hk:∀ q∈kl,q < L.length)
  (hn:∀ (σ β:Tmp→Value) (X:Nat→Ent) (v:Value) (w':World),D 0 σ β X→(∀ d,o.dst=some d→σ d=v∧β d=v)→St w0 bor (remQ kl 0 L++(List.range' L.length m).map X) w'→wpList P ops Q rest (Act.put ⟨t0,d0⟩ o.dst v) w'):
  wpList P ops Q (o::rest) ⟨t0,d0⟩ w:=by
 have h1:=hs _ (fun _=>undef) w _ (sqCtx hst _)
 have h2:DoesU P o (Act.eval ⟨t0,d0⟩) w (PostV [List.range' L.length m] [kl] D 0 o.dst (Act.eval ⟨t0,d0⟩) (fun _=>undef) w fun q=>L.getD q eZ):=by
  have h1':GSayV #[o] (Act.eval ⟨t0,d0⟩) o (DoesU P o (Act.eval ⟨t0,d0⟩) w (PostV [List.range' L.length m] [kl] D 0 o.dst (Act.eval ⟨t0,d0⟩) (fun _=>undef) w fun q=>L.getD q eZ)) _:=h1
  unfold GSayV at h1'
  rw [hg] at h1'
  exact h1'
 exact sqD m kl hst h2 hg hk hn
end
section
variable {P:Program} {Q:Exit→Act→World→Prop} {rest:List Oper} {o:Oper} {ops:Array Oper} {t t':List Value} {d0:List Deferred} {w0 w:World} {bor:List Nat} {L:List Ent}
abbrev rg (L:List Ent):List (List Nat):=[List.range L.length]
/-- an operation whose value is known -/
theorem sqv {d:Tmp} (V:Value) (hst:St w0 bor L w) (hs:StepV P #[o] [0] ⟨t.toArray,d0⟩ w0 bor L (rg L) [[]] [[]] (fun _ σ _ _=>σ d=V) 0)
  (h:∀ w',St w0 bor L w'→wpList P ops Q rest ⟨t'.toArray,d0⟩ w') (hg:o.guard=none:=by rfl) (hd:o.dst=some d:=by rfl) (ht:t.set d V=t':=by dsimp only [List.set]):wpList P ops Q (o::rest) ⟨t.toArray,d0⟩ w:=by
 refine sqG 0 [] hst hs hg (fun q hq=>by cases hq) fun σ β X v w' hD hv hs'=>?_
 have e:v=V:=by rw [← hD,(hv d hd).1]
 subst e
 rw [remQ_nil,List.range'_zero,List.map_nil,List.append_nil] at hs'
 rw [hd]
 show wpList P ops Q rest ⟨t.toArray.setIfInBounds d v,d0⟩ w'
 rw [List.setIfInBounds_toArray,ht]
 exact h w' hs'
/-- the same, the world stays -/
theorem sql {d:Tmp} (V:Value) (hst:St w0 bor L w) (hr:∀ {ρ:Operand→Value} {β:Tmp→Value} {W:World} {X:Nat→Ent},CtxV #[o] [0] ⟨t.toArray,d0⟩ w0 bor L (rg L) (fun _ _ _ _=>True) 0 ρ β W X→(execOp ρ o).run P W= .ok (.value V) W)
  (h:wpList P ops Q rest ⟨t'.toArray,d0⟩ w) (hg:o.guard=none:=by rfl) (hd:o.dst=some d:=by rfl) (ht:t.set d V=t':=by dsimp only [List.set]):wpList P ops Q (o::rest) ⟨t.toArray,d0⟩ w:=by
 refine wpList_plain hg fun K hK=>?_
 refine DoesU.wp (post:=fun v w'=>v=V∧w'=w) (DoesU.value (hr (sqCtx hst fun _=>undef)) ⟨rfl,rfl⟩) fun v w' ⟨e1,e2⟩=>hK _ _ ?_
 subst e1 e2
 rw [hd]
 show wpList P ops Q rest ⟨t.toArray.setIfInBounds d v,d0⟩ w'
 rw [List.setIfInBounds_toArray,ht]
 exact h
-- an operation with a new entry (n) or a changed one (c): what is unknown is read off the value (f..) or off the entry (g)
theorem sqN {Z:Type} {d:Tmp} (f:Value→Ent→Z) (V:Z→Value) (E:Z→Ent) (hst:St w0 bor L w) (hs:StepV P #[o] [0] ⟨t.toArray,d0⟩ w0 bor L (rg L) [[L.length]] [[]] (fun _ σ β X=>σ d=V (f (β d) (X L.length))∧X L.length=E (f (β d) (X L.length))) 0)
  (h:∀ z w',St w0 bor (L++[E z]) w'→wpList P ops Q rest ⟨(t.set d (V z)).toArray,d0⟩ w') (hg:o.guard=none) (hd:o.dst=some d):wpList P ops Q (o::rest) ⟨t.toArray,d0⟩ w:=by
 refine sqG 1 [] hst hs hg (fun q hq=>by cases hq) fun σ β X v w' hD hv hs'=>?_
 rw [(hv d hd).1,(hv d hd).2] at hD
 have h2:=h (f v (X L.length)) w' (by rw [← hD.2]; rw [remQ_nil] at hs'; exact hs')
 rw [← hD.1] at h2
 rw [hd]
 show wpList P ops Q rest ⟨t.toArray.setIfInBounds d v,d0⟩ w'
 rw [List.setIfInBounds_toArray]
 exact h2
theorem sqC {Z:Type} {d:Tmp} (f:Value→Ent→Z) (V:Z→Value) (E:Z→Ent) (q:Nat) (hst:St w0 bor L w) (hs:StepV P #[o] [0] ⟨t.toArray,d0⟩ w0 bor L (rg L) [[L.length]] [[q]] (fun _ σ β X=>σ d=V (f (β d) (X L.length))∧X L.length=E (f (β d) (X L.length))) 0)
  (h:∀ z w',St w0 bor (L.set q (E z)) w'→wpList P ops Q rest ⟨(t.set d (V z)).toArray,d0⟩ w') (hk:Nat.blt q L.length=true) (hg:o.guard=none) (hd:o.dst=some d):wpList P ops Q (o::rest) ⟨t.toArray,d0⟩ w:=by
 refine sqG 1 [q] hst hs hg (fun x hx=>by rw [List.mem_singleton.1 hx]; simpa using hk) fun σ β X v w' hD hv hs'=>?_
 rw [(hv d hd).1,(hv d hd).2] at hD
 have h2:=h (f v (X L.length)) w' (by rw [← hD.2]; exact hs'.perm (rem_perm _ q L 0 (Nat.zero_le _) (by simpa using hk)))
 rw [← hD.1] at h2
 rw [hd]
 show wpList P ops Q rest ⟨t.toArray.setIfInBounds d v,d0⟩ w'
 rw [List.setIfInBounds_toArray]
 exact h2
theorem sqn1 {Z:Type} {d:Tmp} {L':Z→List Ent} {t':Z→List Value} (f0:Value→Z) (V:Z→Value) (E:Z→Ent) (hst:St w0 bor L w) (hs:StepV P #[o] [0] ⟨t.toArray,d0⟩ w0 bor L (rg L) [[L.length]] [[]] (fun _ σ β X=>σ d=V (f0 (β d))∧X L.length=E (f0 (β d))) 0)
  (h:∀ z0 w',St w0 bor (L' z0) w'→wpList P ops Q rest ⟨(t' z0).toArray,d0⟩ w') (hg:o.guard=none:=by rfl) (hd:o.dst=some d:=by rfl) (ht:∀ z0,t.set d (V z0)=(t' z0):=by intro z0; dsimp only [List.set]) (hL:∀ z0,L++[E z0]=(L' z0):=by intro z0; dsimp only [List.cons_append,List.nil_append]):
  wpList P ops Q (o::rest) ⟨t.toArray,d0⟩ w:=
 sqN (fun v x=>f0 v) (fun r=>V r) (fun r=>E r) hst hs (fun r w' hw=>by rw [ht]; exact h r w' (hL r ▸ hw)) hg hd
theorem sqn2 {Z:Type} {Y:Type} {d:Tmp} {L':Z→Y→List Ent} {t':Z→Y→List Value} (f0:Value→Z) (f1:Value→Y) (V:Z→Y→Value) (E:Z→Y→Ent) (hst:St w0 bor L w) (hs:StepV P #[o] [0] ⟨t.toArray,d0⟩ w0 bor L (rg L) [[L.length]] [[]] (fun _ σ β X=>σ d=V (f0 (β d)) (f1 (β d))∧X L.length=E (f0 (β d)) (f1 (β d))) 0)
  (h:∀ z0 z1 w',St w0 bor (L' z0 z1) w'→wpList P ops Q rest ⟨(t' z0 z1).toArray,d0⟩ w') (hg:o.guard=none:=by rfl) (hd:o.dst=some d:=by rfl) (ht:∀ z0 z1,t.set d (V z0 z1)=(t' z0 z1):=by intro z0 z1; dsimp only [List.set]) (hL:∀ z0 z1,L++[E z0 z1]=(L' z0 z1):=by intro z0 z1; dsimp only [List.cons_append,List.nil_append]):
  wpList P ops Q (o::rest) ⟨t.toArray,d0⟩ w:=
 sqN (fun v x=>((f0 v),(f1 v))) (fun r=>V r.1 r.2) (fun r=>E r.1 r.2) hst hs (fun r w' hw=>by rw [ht]; exact h r.1 r.2 w' (hL r.1 r.2 ▸ hw)) hg hd
theorem sqc0 {d:Tmp} {L':List Ent} {t':List Value} (V:Value) (E:Ent) (q:Nat) (hst:St w0 bor L w) (hs:StepV P #[o] [0] ⟨t.toArray,d0⟩ w0 bor L (rg L) [[L.length]] [[q]] (fun _ σ β X=>σ d=V∧X L.length=E) 0)
  (h:∀ w',St w0 bor L' w'→wpList P ops Q rest ⟨t'.toArray,d0⟩ w') (hg:o.guard=none:=by rfl) (hd:o.dst=some d:=by rfl) (ht:t.set d V=t':=by dsimp only [List.set]) (hL:L.set q (E)=L':=by dsimp only [List.set]) (hk:Nat.blt q L.length=true:=by rfl):
  wpList P ops Q (o::rest) ⟨t.toArray,d0⟩ w:=
 sqC (fun _ _=>()) (fun r=>V) (fun r=>E) q hst hs (fun r w' hw=>by rw [ht]; exact h w' (hL ▸ hw)) hk hg hd
theorem sqc0s {R:Type} {d:Tmp} {L':R→List Ent} {t':List Value} (g:Ent→R) (V:Value) (E:R→Ent) (q:Nat) (hst:St w0 bor L w) (hs:StepV P #[o] [0] ⟨t.toArray,d0⟩ w0 bor L (rg L) [[L.length]] [[q]] (fun _ σ β X=>σ d=V∧X L.length=E (g (X L.length))) 0)
  (h:∀ r w',St w0 bor (L' r) w'→wpList P ops Q rest ⟨t'.toArray,d0⟩ w') (hg:o.guard=none:=by rfl) (hd:o.dst=some d:=by rfl) (ht:t.set d V=t':=by dsimp only [List.set]) (hL:∀ r,L.set q (E r)=(L' r):=by intro r; dsimp only [List.set]) (hk:Nat.blt q L.length=true:=by rfl):
  wpList P ops Q (o::rest) ⟨t.toArray,d0⟩ w:=
 sqC (fun v x=>g x) (fun r=>V) (fun r=>E r) q hst hs (fun r w' hw=>by rw [ht]; exact h r w' (hL r ▸ hw)) hk hg hd
theorem sqc1 {Z:Type} {d:Tmp} {L':Z→List Ent} {t':Z→List Value} (f0:Value→Z) (V:Z→Value) (E:Z→Ent) (q:Nat) (hst:St w0 bor L w) (hs:StepV P #[o] [0] ⟨t.toArray,d0⟩ w0 bor L (rg L) [[L.length]] [[q]] (fun _ σ β X=>σ d=V (f0 (β d))∧X L.length=E (f0 (β d))) 0)
  (h:∀ z0 w',St w0 bor (L' z0) w'→wpList P ops Q rest ⟨(t' z0).toArray,d0⟩ w') (hg:o.guard=none:=by rfl) (hd:o.dst=some d:=by rfl) (ht:∀ z0,t.set d (V z0)=(t' z0):=by intro z0; dsimp only [List.set]) (hL:∀ z0,L.set q (E z0)=(L' z0):=by intro z0; dsimp only [List.set]) (hk:Nat.blt q L.length=true:=by rfl):
  wpList P ops Q (o::rest) ⟨t.toArray,d0⟩ w:=
 sqC (fun v x=>f0 v) (fun r=>V r) (fun r=>E r) q hst hs (fun r w' hw=>by rw [ht]; exact h r w' (hL r ▸ hw)) hk hg hd
theorem sqc2 {Z:Type} {Y:Type} {d:Tmp} {L':Z→Y→List Ent} {t':Z→Y→List Value} (f0:Value→Z) (f1:Value→Y) (V:Z→Y→Value) (E:Z→Y→Ent) (q:Nat) (hst:St w0 bor L w) (hs:StepV P #[o] [0] ⟨t.toArray,d0⟩ w0 bor L (rg L) [[L.length]] [[q]] (fun _ σ β X=>σ d=V (f0 (β d)) (f1 (β d))∧X L.length=E (f0 (β d)) (f1 (β d))) 0)
  (h:∀ z0 z1 w',St w0 bor (L' z0 z1) w'→wpList P ops Q rest ⟨(t' z0 z1).toArray,d0⟩ w') (hg:o.guard=none:=by rfl) (hd:o.dst=some d:=by rfl) (ht:∀ z0 z1,t.set d (V z0 z1)=(t' z0 z1):=by intro z0 z1; dsimp only [List.set]) (hL:∀ z0 z1,L.set q (E z0 z1)=(L' z0 z1):=by intro z0 z1; dsimp only [List.set]) (hk:Nat.blt q L.length=true:=by rfl):
  wpList P ops Q (o::rest) ⟨t.toArray,d0⟩ w:=
 sqC (fun v x=>((f0 v),(f1 v))) (fun r=>V r.1 r.2) (fun r=>E r.1 r.2) q hst hs (fun r w' hw=>by rw [ht]; exact h r.1 r.2 w' (hL r.1 r.2 ▸ hw)) hk hg hd
theorem sqc2s {Z:Type} {Y:Type} {R:Type} {d:Tmp} {L':Z→Y→R→List Ent} {t':Z→Y→List Value} (f0:Value→Z) (f1:Value→Y) (g:Ent→R) (V:Z→Y→Value) (E:Z→Y→R→Ent) (q:Nat) (hst:St w0 bor L w) (hs:StepV P #[o] [0] ⟨t.toArray,d0⟩ w0 bor L (rg L) [[L.length]] [[q]] (fun _ σ β X=>σ d=V (f0 (β d)) (f1 (β d))∧X L.length=E (f0 (β d)) (f1 (β d)) (g (X L.length))) 0)
  (h:∀ z0 z1 r w',St w0 bor (L' z0 z1 r) w'→wpList P ops Q rest ⟨(t' z0 z1).toArray,d0⟩ w') (hg:o.guard=none:=by rfl) (hd:o.dst=some d:=by rfl) (ht:∀ z0 z1,t.set d (V z0 z1)=(t' z0 z1):=by intro z0 z1; dsimp only [List.set]) (hL:∀ z0 z1 r,L.set q (E z0 z1 r)=(L' z0 z1 r):=by intro z0 z1 r; dsimp only [List.set]) (hk:Nat.blt q L.length=true:=by rfl):
  wpList P ops Q (o::rest) ⟨t.toArray,d0⟩ w:=
 sqC (fun v x=>((f0 v),(f1 v),(g x))) (fun r=>V r.1 r.2.1) (fun r=>E r.1 r.2.1 r.2.2) q hst hs (fun r w' hw=>by rw [ht]; exact h r.1 r.2.1 r.2.2 w' (hL r.1 r.2.1 r.2.2 ▸ hw)) hk hg hd
theorem sqc {L':List Ent} (E:Ent) (q:Nat) (hst:St w0 bor L w) (hs:StepV P #[o] [0] ⟨t.toArray,d0⟩ w0 bor L (rg L) [[L.length]] [[q]] (fun _ _ _ X=>X L.length=E) 0)
  (h:∀ w',St w0 bor (L') w'→wpList P ops Q rest ⟨t.toArray,d0⟩ w') (hL:L.set q (E)=(L'):=by dsimp only [List.set]) (hk:Nat.blt q L.length=true:=by rfl) (hg:o.guard=none:=by rfl) (hd:o.dst=none:=by rfl):
  wpList P ops Q (o::rest) ⟨t.toArray,d0⟩ w:=by
 refine sqG 1 [q] hst hs hg (fun x hx=>by rw [List.mem_singleton.1 hx]; simpa using hk) fun σ β X v w' hD hv hs'=>?_
 have e2:X L.length=E:=hD
 rw [show List.range' L.length 1=[L.length] from rfl,List.map_cons,List.map_nil,e2] at hs'
 have hs2:=hs'.perm (rem_perm _ q L 0 (Nat.zero_le _) (by simpa using hk))
 rw [Nat.sub_zero,hL] at hs2
 have h2:=h w' hs2
 rw [hd]
 exact h2
theorem sva {a0:Act} {X0:List Ent} {us cr kl:List (List Nat)} {D:Nat→(Tmp→Value)→(Tmp→Value)→(Nat→Ent)→Prop} (h:∀ {ρ:Operand→Value} {β:Tmp→Value} {W:World} {X:Nat→Ent},CtxV #[o] [0] a0 w0 bor X0 us D 0 ρ β W X→DoesU P o ρ W (PostV cr kl D 0 o.dst ρ β W X)) (hg:o.guard=none:=by rfl):StepV P #[o] [0] a0 w0 bor X0 us cr kl D 0:=
 sv_any rfl hg fun _ _ _ _ cx=>h cx
def argsOf:Op→Array Operand
 | .call c=>c.args
 | _=>#[]
/-- a call without new memory, its answer known -/
theorem sqk {d:Tmp} (V:Value) (hst:St w0 bor L w) {c:Call} {f:FuncId} (hs:∀ {ρ:Operand→Value} {β:Tmp→Value} {W:World} {X:Nat→Ent},CtxV #[o] [0] ⟨t.toArray,d0⟩ w0 bor L (rg L) (fun _ σ _ _=>σ d=V) 0 ρ β W X→∃ args,Calls P f args W (fun e W'=>e= .returned V∧Ext W W')∧(argsOf o.op).map ρ=args)
  (h:∀ w',St w0 bor L w'→wpList P ops Q rest ⟨t'.toArray,d0⟩ w') (hop:o.op= .call c:=by rfl) (hcal:c.callee= .value (.func f):=by rfl) (hg:o.guard=none:=by rfl) (hd:o.dst=some d:=by rfl) (ht:t.set d V=t':=by dsimp only [List.set]) (hf:callP P f=true:=by kernel_rfl):wpList P ops Q (o::rest) ⟨t.toArray,d0⟩ w:=
 sqv V hst (xsc rfl id hop hcal (fun cx=>by have h1:=hs cx; rw [hop] at h1; exact h1) hf hg hd) h (ht:=ht) (hg:=hg) (hd:=hd)
/-- a cell of a block that stands among the entries -/
theorem sqld {d:Tmp} (q:Nat) {b off ty ty':Nat} {cs:List Value} {x:Operand} (hst:St w0 bor L w) (h:wpList P ops Q rest ⟨t'.toArray,d0⟩ w) (hop:o.op= .load ty' x:=by rfl) (hx:Act.eval ⟨t.toArray,d0⟩ x= .pointer (some ⟨b,off,none⟩):=by rfl) (hq:L[q]? =some (eB b ty cs.toArray):=by rfl) (hc:Nat.blt off cs.length=true:=by rfl)
  (hz:aggP P ty'=some false:=by kernel_rfl) (hg:o.guard=none:=by rfl) (hd:o.dst=some d:=by rfl) (ht:t.set d (gS cs off)=t':=by dsimp only [List.set,gS]):wpList P ops Q (o::rest) ⟨t.toArray,d0⟩ w:=by
 refine wpList_plain hg fun K hK=>?_
 have hb:Blk w b ty cs.toArray:=hst.blk q hq
 have hlt:off < cs.length:=by simpa using hc
 have hcell:w.cell? ⟨b,off,none⟩=some (gS cs off):=by
  rw [hb.cell off,List.getElem?_toArray,gS_get hlt]
 refine DoesU.wp (post:=fun v w'=>v=gS cs off∧w'=w) (DoesU.value (run_load1 hop hz hx hcell) ⟨rfl,rfl⟩) fun v w' ⟨e1,e2⟩=>hK _ _ ?_
 subst e1 e2
 rw [hd]
 show wpList P ops Q rest ⟨t.toArray.setIfInBounds d _,d0⟩ w'
 rw [List.setIfInBounds_toArray,ht]
 exact h
/-- a new block of a type's zero -/
theorem sqal {d:Tmp} {ty:Nat} {L':Nat→List Ent} {t':Nat→List Value} (cs:Array Value) (hst:St w0 bor L w) (h:∀ b w',St w0 bor (L' b) w'→wpList P ops Q rest ⟨(t' b).toArray,d0⟩ w') (hop:o.op= .alloc ty:=by rfl) (hz:zeroP P ty=some cs:=by kernel_rfl)
  (hg:o.guard=none:=by rfl) (hd:o.dst=some d:=by rfl) (ht:∀ b,t.set d (vp b)=t' b:=by intro b; dsimp only [List.set]) (hL:∀ b,L++[eB b ty cs]=L' b:=by intro b; dsimp only [List.cons_append,List.nil_append]):wpList P ops Q (o::rest) ⟨t.toArray,d0⟩ w:=
 sqn1 pb vp (fun b=>eB b ty cs) hst (sva (fun cx=>dv_alloc hop hz hd rfl (fun σ β' X' hs hb hv hx=>⟨hv,hx⟩)) hg) h (ht:=ht) (hL:=hL) (hg:=hg) (hd:=hd)
/-- a load of a block's cells, as they stand among the entries -/
theorem sqlb {d:Tmp} (q n:Nat) {b off ty ty':Nat} {cs:List Value} {x:Operand} (hst:St w0 bor L w) (h:wpList P ops Q rest ⟨t'.toArray,d0⟩ w) (hop:o.op= .load ty' x:=by rfl) (hx:Act.eval ⟨t.toArray,d0⟩ x= .pointer (some ⟨b,off,none⟩):=by rfl) (hq:L[q]? =some (eB b ty cs.toArray):=by rfl)
  (ha:aggP P ty'=some true:=by kernel_rfl) (hn:szP P ty'=some n:=by kernel_rfl) (hle:Nat.ble (off+n) cs.length=true:=by rfl) (hg:o.guard=none:=by rfl) (hd:o.dst=some d:=by rfl) (ht:t.set d (.agg ((cs.drop off).take n).toArray)=t':=by dsimp only [List.set,List.drop,List.take]):wpList P ops Q (o::rest) ⟨t.toArray,d0⟩ w:=by
 refine wpList_plain hg fun K hK=>?_
 have hb:Blk w b ty cs.toArray:=hst.blk q hq
 refine DoesU.wp (post:=fun v w'=>v= .agg ((cs.drop off).take n).toArray∧w'=w) (DoesU.value (run_loadB hop ha hn hx hb (by simpa using Nat.le_of_ble_eq_true hle) rfl) ⟨rfl,rfl⟩) fun v w' ⟨e1,e2⟩=>hK _ _ ?_
 subst e1 e2
 rw [hd]
 show wpList P ops Q rest ⟨t.toArray.setIfInBounds d _,d0⟩ w'
 rw [List.setIfInBounds_toArray,ht]
 exact h
/-- a new block that holds a value -/
theorem sqbx {d:Tmp} {ty:Nat} {v:Value} {x:Operand} {L':Nat→List Ent} {t':Nat→List Value} (cs:Array Value) (hst:St w0 bor L w) (h:∀ b w',St w0 bor (L' b) w'→wpList P ops Q rest ⟨(t' b).toArray,d0⟩ w') (hop:o.op= .box ty x:=by rfl) (hx:Act.eval ⟨t.toArray,d0⟩ x=v:=by rfl) (hcs:v.cells=cs:=by rfl)
  (hg:o.guard=none:=by rfl) (hd:o.dst=some d:=by rfl) (ht:∀ b,t.set d (vp b)=t' b:=by intro b; dsimp only [List.set]) (hL:∀ b,L++[eB b ty cs]=L' b:=by intro b; dsimp only [List.cons_append,List.nil_append]):wpList P ops Q (o::rest) ⟨t.toArray,d0⟩ w:=by
 refine sqD (D:=fun _ σ β X=>σ d=vp (pb (β d))∧X L.length=eB (pb (β d)) ty cs) 1 [] hst (dv_box hop hx hcs hd rfl fun σ β' X' hs hb hv hx=>⟨hv,hx⟩) hg (fun q hq=>by cases hq) fun σ β X u w' hD hv hs'=>?_
 have e:u=vp (pb u):=by
  have:=hD.1
  rw [(hv d hd).1,(hv d hd).2] at this
  exact this
 have e2:X L.length=eB (pb u) ty cs:=by
  have:=hD.2
  rw [(hv d hd).2] at this
  exact this
 rw [show List.range' L.length 1=[L.length] from rfl,List.map_cons,List.map_nil,e2,remQ_nil,hL] at hs'
 have h2:=h (pb u) w' hs'
 rw [← ht,← e] at h2
 rw [hd]
 show wpList P ops Q rest ⟨t.toArray.setIfInBounds d u,d0⟩ w'
 rw [List.setIfInBounds_toArray]
 exact h2
/-- a store into a block that stands among the entries -/
theorem sqst {b off n ty ty':Nat} {v:Value} {x y:Operand} {cs:Array Value} {L':List Ent} (q:Nat) (cs':Array Value) (hst:St w0 bor L w) (h:∀ w',St w0 bor L' w'→wpList P ops Q rest ⟨t.toArray,d0⟩ w') (hop:o.op= .store ty x y:=by rfl) (hx:Act.eval ⟨t.toArray,d0⟩ x= .pointer (some ⟨b,off,none⟩):=by rfl)
  (hy:Act.eval ⟨t.toArray,d0⟩ y=v:=by rfl) (hq:L[q]? =some (eB b ty' cs):=by rfl) (hz:szP P ty=some n:=by kernel_rfl) (hn:v.cells.size=n:=by kernel_rfl) (h1:v.cells.toList.all Value.oneCell'=true:=by kernel_rfl) (hle:Nat.ble (off+n) cs.size=true:=by rfl) (hcs:putC cs off v.cells.toList=cs':=by kernel_rfl)
  (hL:L.set q (eB b ty' cs')=L':=by dsimp only [List.set]) (hg:o.guard=none:=by rfl) (hd:o.dst=none:=by rfl):wpList P ops Q (o::rest) ⟨t.toArray,d0⟩ w:=by
 have hql:q < L.length:=(List.getElem?_eq_some_iff.1 hq).1
 refine sqD (D:=fun _ _ _ X=>X L.length=eB b ty' cs') 1 [q] hst ?_ hg (fun z hz=>by rw [List.mem_singleton.1 hz]; exact hql) fun σ β X v w' hD hv hs'=>?_
 ·exact dv_store hop hx hy hz hn h1 (sqCtx (o:=o) hst _) (by rw [List.getD_eq_getElem?_getD,hq]; rfl) (by simp [atV]; exact hql) (Nat.le_of_ble_eq_true hle) hcs hd rfl rfl (fun _ _ _ _ _ hX=>hX)
 ·rw [show List.range' L.length 1=[L.length] from rfl,List.map_cons,List.map_nil,show X L.length=eB b ty' cs' from hD] at hs'
  have hs2:=hs'.perm (rem_perm _ q L 0 (Nat.zero_le _) (by simpa using hql))
  rw [Nat.sub_zero,hL] at hs2
  rw [hd]
  exact h w' hs2
-- operations that only compute
/-- k: computes v; m: moves slot j; e, s: as in the table -/
inductive SE where
 | k (d:Tmp) (v:Value)
 | m (d j:Tmp)
 | e (d:Tmp) (raw v:Value) (h:raw=v)
 | s (d:Tmp) (side:Prop) (raw v:Value) (hs:side) (h:raw=v)
def SE.d:SE→Tmp
 | .k d _=>d
 | .m d _=>d
 | .e d _ _ _=>d
 | .s d _ _ _ _ _=>d
def SE.v (t:List Value):SE→Value
 | .k _ v=>v
 | .m _ j=>gS t j
 | .e _ _ v _=>v
 | .s _ _ _ v _ _=>v
def SE.want (t:List Value):SE→Option (Prop×Value)
 | .k _ v=>some (True,v)
 | .m _ j=>some (True,gS t j)
 | .e _ raw _ _=>some (True,raw)
 | .s _ side raw _ _ _=>some (side,raw)
theorem SE.ok {t:List Value} {te:SE} {side:Prop} {raw:Value} (h:te.want t=some (side,raw)):side∧raw=te.v t:=by
 cases te with
 | k d v=>cases h; exact ⟨trivial,rfl⟩
 | m d j=>cases h; exact ⟨trivial,rfl⟩
 | e d raw v hr=>cases h; exact ⟨trivial,hr⟩
 | s d side raw v hs hr=>cases h; exact ⟨hs,hr⟩
def lookS (t:List Value):Operand→Option Value
 | .tmp j=>some (t.getD j undef)
 | .const v=>some v
 | .global g=>some (.pointer (some ⟨g,0,none⟩))
 | .func f=>some (.func (.func f) #[] #[])
def goS (P:Program):List Oper→List SE→List Value→List (Option (Nat×Bool)×Option Tmp×Option (Prop×Value))
 | o::os,te::tb,t=>(o.guard,o.dst,pOp P o.op (lookS t))::goS P os tb (t.set te.d (te.v t))
 | _, _, _=>[]
def wtS:List SE→List Value→List (Option (Nat×Bool)×Option Tmp×Option (Prop×Value))
 | te::tb,t=>(none,some te.d,te.want t)::wtS tb (t.set te.d (te.v t))
 | _, _=>[]
def finS:List SE→List Value→List Value
 | te::tb,t=>finS tb (t.set te.d (te.v t))
 | [],t=>t
theorem lookS_ok {t:List Value} (x:Operand) (v:Value) (h:lookS t x=some v):Act.eval ⟨t.toArray,d0⟩ x=v:=by
 cases x with
 | tmp j=>
   cases h
   show t.toArray.getD j undef=t.getD j undef
   simp [List.getD_eq_getElem?_getD]
 | const v=>cases h; rfl
 | global g=>cases h; rfl
 | func f=>cases h; rfl
theorem sqP_go (tb:List SE):∀ {os:List Oper} {t:List Value},os.length=tb.length→goS P os tb t=wtS tb t→wpList P ops Q rest ⟨(finS tb t).toArray,d0⟩ w→wpList P ops Q (os++rest) ⟨t.toArray,d0⟩ w:=by
 induction tb with
 | nil=>
   intro os t hl _ h
   have:=List.eq_nil_of_length_eq_zero hl
   subst this
   exact h
 | cons te tb ih=>
   intro os t hl hg h
   cases os with
   | nil=>cases hl
   | cons o os=>
     rw [goS,wtS,List.cons.injEq,Prod.mk.injEq,Prod.mk.injEq] at hg
     obtain ⟨⟨h3,h5,h6⟩,h2⟩:=hg
     refine wpList_plain h3 fun K hK=>?_
     cases hw:te.want t with
     | none=>cases te<;>cases hw
     | some p=>
       obtain ⟨side,raw⟩:=p
       rw [hw] at h6
       obtain ⟨hs,hr⟩:=SE.ok hw
       refine DoesU.wp (post:=fun v w'=>v=raw∧w'=w) (DoesU.value (pOp_run (lookS_ok (d0:=d0)) h6 hs w) ⟨rfl,rfl⟩) fun v w' e12=>hK _ _ ?_
       obtain ⟨e1,e2⟩:=e12
       subst e1
       subst e2
       rw [h5]
       show wpList P ops Q (os++rest) ⟨t.toArray.setIfInBounds te.d v,d0⟩ w'
       rw [List.setIfInBounds_toArray,hr]
       exact ih (by simpa using hl) h2 h
/-- a stretch of operations that only compute -/
theorem sqp (tb:List SE) {os os':List Oper} (h:wpList P ops Q os' ⟨t'.toArray,d0⟩ w) (ht:finS tb t=t':=by dsimp only [finS,SE.d,SE.v,List.set,gS]) (hos:os.drop tb.length=os':=by first | (dsimp only [List.drop,List.length]; done) | rfl) (hg:goS P (os.take tb.length) tb t=wtS tb t:=by kernel_rfl) (hn:(os.take tb.length).length=tb.length:=by kernel_rfl):wpList P ops Q os ⟨t.toArray,d0⟩ w:=by
 have h2:=sqP_go (P:=P) (ops:=ops) (Q:=Q) (d0:=d0) (w:=w) (rest:=os.drop tb.length) tb hn hg (by rw [ht,hos]; exact h)
 rw [List.take_append_drop] at h2
 exact h2
theorem sqr {id:Nat} {l:List Oper} (h:wpList P l.toArray Q l ⟨t.toArray,d0⟩ w):(Code.region id l.toArray false).wp P Q ⟨t.toArray,d0⟩ w:=wp_region_lit h
end
/-- slots a, a + 1 .. -/
def jl (u:Nat→Value) (a:Nat):Nat→List Value
 | 0=>[]
 | n+1=>u a::jl u (a+1) n
/-- a frame, but for some slots: k kept, n junk (from slot a on), then the values vs, and so on -/
def ovr (u:Nat→Value):List (Nat×Nat×Nat×List Value)→List Value→List Value
 | [],t=>t
 | (k,a,n,vs)::l,t=>t.take k++(jl u a n++(vs++ovr u l (t.drop (k+n+vs.length))))
theorem wp_loopT {P:Program} {Q:Exit→Act→World→Prop} {t:List Value} {d0:List Deferred} {w:World} {c:Code} (F:List Value→Nat→Act→World→Prop) (n0:Nat) (h0:F t n0 ⟨t.toArray,d0⟩ w)
  (round:∀ n a w,F t n a w→c.wp P (Exit.then (fun a' w'=>∃ m,m < n∧F t m a' w') Q) a w):(Code.loop c).wp P Q ⟨t.toArray,d0⟩ w:=wp_loopN (F t) n0 h0 round
theorem wp_cutT {P:Program} {x y:Code} {Q:Exit→Act→World→Prop} {t:List Value} {d0:List Deferred} {w:World} (R:List Value→Act→World→Prop) (hx:x.wp P (Exit.then (R t) Q) ⟨t.toArray,d0⟩ w) (hy:∀ a' w',R t a' w'→y.wp P Q a' w'):(Code.seq x y).wp P Q ⟨t.toArray,d0⟩ w:=
 wp_seq (Code.wp_mono (fun e a' w' h=>by cases e<;>first | exact hy _ _ h | exact h) hx)
theorem ovz {P:Program} {x:Code} {Q:Exit→Act→World→Prop} {w:World} {a:Act} {S:List (Nat×Nat×Nat×List Value)} {t:List Value} {d0:List Deferred} {t':(Nat→Value)→List Value} (h:a=⟨(ovr (jv a) S t).toArray,d0⟩) (k:∀ u,x.wp P Q ⟨(t' u).toArray,d0⟩ w)
  (ht:∀ u,ovr u S t=t' u:=by intro u; dsimp only [ovr,jl,List.set,List.take,List.drop,List.cons_append,List.nil_append,List.append_nil,List.length_cons,List.length_nil,Nat.reduceAdd,Nat.add_zero,Nat.zero_add]):x.wp P Q a w:=by
 rw [h,ht]; exact k _
theorem wct {P:Program} {Q:Exit→Act→World→Prop} {a:Act} {w:World} {c:Operand} {x y:Code} {b:Bool} (hb:b=true) (h:x.wp P Q a w) (hc:a.eval c= .bool b:=by rfl):(Code.cond c x y).wp P Q a w:=wp_cond_true (hc.trans (congrArg Value.bool hb)) h
theorem wcf {P:Program} {Q:Exit→Act→World→Prop} {a:Act} {w:World} {c:Operand} {x y:Code} {b:Bool} (hb:b=false) (h:y.wp P Q a w) (hc:a.eval c= .bool b:=by rfl):(Code.cond c x y).wp P Q a w:=wp_cond_false (hc.trans (congrArg Value.bool hb)) h
theorem wbs {P:Program} {Q:Exit→Act→World→Prop} {a:Act} {w:World} {c:Operand} {x y:Code} {b:Bool} (h1:b=true→x.wp P Q a w) (h2:b=false→y.wp P Q a w) (hc:a.eval c= .bool b:=by rfl):(Code.cond c x y).wp P Q a w:=by
 cases b with
 | true=>exact wct rfl (h1 rfl) hc
 | false=>exact wcf rfl (h2 rfl) hc
theorem wds {P:Program} {Q:Exit→Act→World→Prop} {a:Act} {w:World} {c:Operand} {x y:Code} {p:Prop} {i:Decidable p} (h1:decide p=true→p→x.wp P Q a w) (h2:decide p=false→¬ p→y.wp P Q a w) (hc:a.eval c= .bool (decide p):=by rfl):(Code.cond c x y).wp P Q a w:=
 wbs (fun h=>h1 h (of_decide_eq_true h)) (fun h=>h2 h (of_decide_eq_false h)) hc
abbrev sI (d:Tmp) (z:Int) (h: -9223372036854775808≤z∧z≤9223372036854775807):SE:= .e d (.int .i64 (IntKind.i64.wrap z)) (.int .i64 z) (congrArg _ (IntWalk.i64_in _ h))
abbrev sJ (d:Tmp) (r z:Int) (h: -9223372036854775808≤r∧r≤9223372036854775807) (e:r=z):SE:= .e d (.int .i64 (IntKind.i64.wrap r)) (.int .i64 z) (congrArg _ ((IntWalk.i64_in _ h).trans e))
abbrev sW (d:Tmp) (k:IntKind) (r z:Int) (h:k.wrap r=z):SE:= .e d (.int k (k.wrap r)) (.int k z) (congrArg _ h)
abbrev sRe (d:Tmp) (k:IntKind) (a b z:Int) (h:a.tmod b=z) (hb:b≠0:=by decide):SE:= .s d (b≠0) (.int k (a.tmod b)) (.int k z) hb (congrArg _ h)
abbrev sQu (d:Tmp) (k:IntKind) (a b z:Int) (h:k.wrap (a.tdiv b)=z) (hb:b≠0:=by decide):SE:= .s d (b≠0) (.int k (k.wrap (a.tdiv b))) (.int k z) hb (congrArg _ h)
abbrev sAn (d:Tmp) (k:IntKind) (a b z:Int) (h:k.wrap ((BitVec.ofInt k.bits a&&& BitVec.ofInt k.bits b).toNat:Int)=z):SE:= .e d (.int k (k.wrap ((BitVec.ofInt k.bits a&&& BitVec.ofInt k.bits b).toNat:Int))) (.int k z) (congrArg _ h)
abbrev sS (d:Tmp) (a b:ByteArray) (h:a.size+b.size≤9223372036854775807):SE:= .s d (a.size+b.size≤9223372036854775807) (.string (a++b)) (.string (a++b)) h rfl
-- operations under a guard
def isG (g:Nat):Bool→Option (Nat×Bool)→Bool
 | true,some (k,true)=>k==g
 | false,some (k,false)=>k==g
 | _, _=>false
def gOf (o:Oper):Nat×Bool:=o.guard.getD (0,true)
/-- without the guard p -/
def ung (p:Nat×Bool) (o:Oper):Oper:=⟨o.dst,o.op,o.type,o.pos,o.after,bif isG p.1 p.2 o.guard then none else o.guard⟩
/-- the stretch l writes ds; each of its guards is p's, or one of its own -/
def stOk (ops:Array Oper) (p:Nat×Bool) (dg:Option Tmp):List Oper→List Tmp→List Tmp→Bool
 | [],[], _=>true
 | o::os,d::ds,seen=>decide (o.dst=some d)&&!(decide (dg=some d))&&(isG p.1 p.2 o.guard||(match o.guard with
   | some (k, _)=>match dstAt ops k with
     | some e=>seen.contains e
     | none=>false
   | none=>false))&&stOk ops p dg os ds (d::seen)
 | _, _, _=>false
def mixS (q:Bool):List Tmp→List Value→List Value→List Value
 | [],t, _=>t
 | d::ds,t,t1=>mixS q ds (t.set d (mb q (gS t1 d))) t1
def qb:Bool→Bool→Bool
 | x,true=>x
 | x,false=>!x
section
variable {P:Program} {Q:Exit→Act→World→Prop} {rest:List Oper} {o:Oper} {ops:Array Oper} {d0:List Deferred} {w0 w:World} {bor:List Nat} {L:List Ent} {g dg:Nat} {b:Bool}
theorem putg_ne {a:Act} {o:Oper} {v:Value} {k:Nat} (h:o.dst≠some k):(a.put o.dst v).tmps[k]? =a.tmps[k]? :=by
 cases hd:o.dst with
 | none=>rfl
 | some d=>
   show (a.tmps.setIfInBounds d v)[k]? = _
   rw [Array.getElem?_setIfInBounds_ne]
   rintro rfl
   exact h hd
theorem putg_size {a:Act} {o:Oper} {v:Value}:(a.put o.dst v).tmps.size=a.tmps.size:=by
 cases hd:o.dst with
 | none=>rfl
 | some d=>exact Array.size_setIfInBounds
theorem upon_put {a:Act} {K K':Act→World→Prop} {Q Q':Exit→Act→World→Prop} (h:∀ (a1:Act) v w',a1.tmps=a.tmps→K (a1.put o.dst v) w'→K' (a1.put o.dst v) w') (hQ:∀ e a w,e≠ .normal→Q e a w→Q' e a w) {r:Result Next} (hh:o.upon P a K Q r):o.upon P a K' Q' r:=by
 have hL:LetsOut Q→LetsOut Q':=fun ⟨a,w,h⟩=>⟨a,w,hQ _ _ _ (by intro h; cases h) h⟩
 cases r with
 | ok n w'=>
   cases n<;>simp only [Oper.upon] at hh ⊢<;>
    first
     | exact h _ _ _ rfl hh
     | exact Calls.mono hh (fun e w'' he=>by cases e<;>first | exact h _ _ _ rfl he | exact hL he | exact hQ _ _ _ (by intro h; cases h) he)
     | exact Rows.mono hh (fun _ _ he=>h _ _ _ rfl he)
 | halt x w'=>cases x<;>simp only [Oper.upon] at hh ⊢<;>exact hQ _ _ _ (by intro h; cases h) hh
theorem isG_eq {p:Nat×Bool} {gd:Option (Nat×Bool)} (h:isG p.1 p.2 gd=true):gd=some p:=by
 obtain ⟨g,b⟩:=p
 cases b<;>cases gd<;>try cases h
 all_goals
  rename_i x; obtain ⟨k,c⟩:=x
  cases c<;>first | cases h | (have:=eq_of_beq h; dsimp only at this; subst this; rfl)
def vB:Value→Option Bool
 | .bool b=>some b
 | _=>none
theorem yielded_at {t:Array Value} {v:Value} (hd:dstAt ops g=some dg) (hv:t[dg]? =some v):yielded ops t g=vB v:=by
 unfold yielded
 have:(ops[g]?).bind (·.dst)=some dg:=hd
 rw [this,Option.bind_some,hv]
 cases v<;>rfl
theorem wanted_ung {p:Nat×Bool} {t:Array Value} (hd:dstAt ops p.1=some dg) (hv:t[dg]? =some (.bool p.2)):Region.wanted (ung p o) (yielded ops t)=Region.wanted o (yielded ops t):=by
 unfold Region.wanted ung
 dsimp only
 cases h:isG p.1 p.2 o.guard with
 | false=>rfl
 | true=>
   rw [isG_eq h,cond_true]
   dsimp only
   rw [yielded_at hd hv]
   simp [vB]
theorem w_go {p:Nat×Bool} {a0:Act} {F:Exit→Act→World→Prop} {DS:List Tmp} (hd:dstAt ops p.1=some dg)
  (hF:∀ e a w,F e a w→e= .normal∧(a.tmps.size=a0.tmps.size→(∀ k,k∉DS→a.tmps[k]? =a0.tmps[k]?)→wpList P ops Q rest a w)):
  ∀ (os:List Oper) (ds seen:List Tmp) (a:Act) (w:World),stOk ops p (some dg) os ds seen=true→(∀ d∈ds,d∈DS)→a.tmps[dg]? =some (.bool p.2)→a.tmps.size=a0.tmps.size→(∀ k,k∉DS→a.tmps[k]? =a0.tmps[k]?)→wpList P ops F (os.map (ung p)) a w→wpList P ops Q (os++rest) a w:=by
 intro os
 have hQ:∀ e a w,e≠ .normal→F e a w→Q e a w:=fun e a w hn h=>absurd (hF e a w h).1 hn
 have hL:LetsOut F→LetsOut Q:=fun ⟨a,w,h⟩=>⟨a,w,hQ _ _ _ (by intro h; cases h) h⟩
 induction os with
 | nil=>intro ds seen a w _ _ _ hs hk h; exact (hF _ _ _ h).2 hs hk
 | cons o os ih=>
   intro ds seen a w hc hD hv hs hk h
   cases ds with
   | nil=>cases hc
   | cons d ds=>
     rw [stOk] at hc
     simp only [Bool.and_eq_true,decide_eq_true_eq,Bool.not_eq_true',decide_eq_false_iff_not] at hc
     obtain ⟨⟨⟨h1,h2⟩, -⟩,h4⟩:=hc
     have hne:o.dst≠some dg:=by rw [h1]; exact fun h=>h2 h.symm
     have step:∀ (a1:Act) (v:Value) (w':World),a1.tmps=a.tmps→wpList P ops F (os.map (ung p)) (a1.put o.dst v) w'→wpList P ops Q (os++rest) (a1.put o.dst v) w':=fun a1 v w' ha hh=>
      ih ds (d::seen) _ w' h4 (fun x hx=>hD x (List.mem_cons_of_mem _ hx)) (by rw [putg_ne hne,ha]; exact hv) (by rw [putg_size,ha]; exact hs)
       (fun k hk'=>by rw [putg_ne,ha]; ·exact hk k hk'
                      ·rw [h1]; rintro ⟨⟩; exact hk' (hD d (List.mem_cons_self ..))) hh
     rw [List.map_cons] at h
     rw [List.cons_append]
     unfold wpList at h ⊢
     rw [wanted_ung hd hv] at h
     split
     ·rename_i hw
      rw [if_pos hw] at h
      rcases h with h | ⟨ha,hl⟩
      ·exact .inl (upon_put step hQ h)
      ·exact .inr ⟨ha,hL hl⟩
     ·rename_i hw
      rw [if_neg hw] at h
      exact step a undef w rfl h
theorem on_go {p:Nat×Bool} (hd:dstAt ops p.1=some dg):∀ (os:List Oper) (ds seen:List Tmp) (a:Act) (w:World),stOk ops p (some dg) os ds seen=true→a.tmps[dg]? =some (.bool p.2)→wpList P ops Q (os.map (ung p)++rest) a w→wpList P ops Q (os++rest) a w:=by
 intro os
 induction os with
 | nil=>intro ds seen a w _ _ h; exact h
 | cons o os ih=>
   intro ds seen a w hc hv h
   cases ds with
   | nil=>cases hc
   | cons d ds=>
     rw [stOk] at hc
     simp only [Bool.and_eq_true,decide_eq_true_eq,Bool.not_eq_true',decide_eq_false_iff_not] at hc
     obtain ⟨⟨⟨h1,h2⟩, -⟩,h4⟩:=hc
     have hne:o.dst≠some dg:=by rw [h1]; exact fun h=>h2 h.symm
     have step:∀ (a1:Act) (v:Value) (w':World),a1.tmps=a.tmps→wpList P ops Q (os.map (ung p)++rest) (a1.put o.dst v) w'→wpList P ops Q (os++rest) (a1.put o.dst v) w':=fun a1 v w' ha hh=>
      ih ds (d::seen) _ w' h4 (by rw [putg_ne hne,ha]; exact hv) hh
     rw [List.map_cons,List.cons_append] at h
     rw [List.cons_append]
     unfold wpList at h ⊢
     rw [wanted_ung hd hv] at h
     split
     ·rename_i hw
      rw [if_pos hw] at h
      rcases h with h | ⟨ha,hl⟩
      ·exact .inl (upon_put step (fun _ _ _ _ h=>h) h)
      ·exact .inr ⟨ha,hl⟩
     ·rename_i hw
      rw [if_neg hw] at h
      exact step a undef w rfl h
theorem off_go {p:Nat×Bool} {x:Bool} (hd:dstAt ops p.1=some dg) (hx:x≠p.2):∀ (os:List Oper) (ds seen:List Tmp) (t:List Value),stOk ops p (some dg) os ds seen=true→t[dg]? =some (.bool x)→(∀ d∈seen,t[d]? =none∨t[d]? =some undef)→
  wpList P ops Q rest ⟨(ds.foldl (fun l d=>l.set d undef) t).toArray,d0⟩ w→wpList P ops Q (os++rest) ⟨t.toArray,d0⟩ w:=by
 intro os
 induction os with
 | nil=>
   intro ds seen t hc _ _ h
   cases ds with
   | nil=>exact h
   | cons d ds=>cases hc
 | cons o os ih=>
   intro ds seen t hc hv hs h
   cases ds with
   | nil=>cases hc
   | cons d ds=>
     rw [stOk] at hc
     simp only [Bool.and_eq_true,decide_eq_true_eq,Bool.not_eq_true',decide_eq_false_iff_not] at hc
     obtain ⟨⟨⟨h1,h2⟩,h3⟩,h4⟩:=hc
     have hw:Region.wanted o (yielded ops t.toArray)=false:=by
      unfold Region.wanted
      rw [Bool.or_eq_true] at h3
      rcases h3 with h3 | h3
      ·rw [isG_eq h3]
       dsimp only
       rw [yielded_at hd (v:= .bool x) (by rw [List.getElem?_toArray]; exact hv)]
       simpa [vB] using hx
      ·split at h3
       ·rename_i k c hg
        split at h3
        ·rename_i e he
         rw [hg]
         dsimp only
         rcases hs e (List.contains_iff_mem.1 h3) with h5 | h5
         ·unfold yielded
          have:(ops[k]?).bind (·.dst)=some e:=he
          rw [this,Option.bind_some,List.getElem?_toArray,h5]; rfl
         ·rw [yielded_at he (v:=undef) (by rw [List.getElem?_toArray]; exact h5)]; rfl
        ·cases h3
       ·cases h3
     rw [List.cons_append]
     refine wpList_skip hw ?_
     rw [h1]
     show wpList P ops Q (os++rest) ⟨t.toArray.setIfInBounds d undef,d0⟩ w
     rw [List.setIfInBounds_toArray]
     refine ih ds (d::seen) (t.set d undef) h4 ?_ (fun e he=>?_) h
     ·rw [List.getElem?_set_ne (by rintro rfl; exact h2 rfl)]; exact hv
     ·rw [List.getElem?_set]
      split
      ·split
       ·exact .inr rfl
       ·exact .inl rfl
      ·rename_i hne
       exact hs e ((List.mem_cons.1 he).resolve_left fun h=>hne h.symm)
theorem mixS_false:∀ (ds:List Tmp) (t t1:List Value),mixS false ds t t1=ds.foldl (fun l d=>l.set d undef) t
 | [], _, _=>rfl
 | d::ds,t,t1=>by rw [mixS,List.foldl_cons]; exact mixS_false ds _ t1
theorem mixS_true:∀ (ds:List Tmp) (t t1:List Value),t1.length=t.length→(∀ k,k∉ds→t1[k]? =t[k]?)→mixS true ds t t1=t1
 | [],t,t1, _,h=>by rw [mixS]; exact (List.ext_getElem? fun k=>h k (by simp)).symm
 | d::ds,t,t1,hl,h=>by
   rw [mixS]
   refine mixS_true ds _ t1 (by simpa using hl) fun k hk=>?_
   rw [List.getElem?_set]
   split
   ·rename_i e
    subst e
    split
    ·rename_i hd
     exact gS_get (by rw [hl]; exact hd)
    ·rename_i hd
     exact List.getElem?_eq_none (by rw [hl]; omega)
   ·rename_i hne
    exact h k (by simp only [List.mem_cons,not_or]; exact ⟨fun e=>hne e.symm,hk⟩)
def Fn (t:List Value) (d0:List Deferred) (R:World→Prop):Exit→Act→World→Prop:=fun e a w=>e= .normal∧a=⟨t.toArray,d0⟩∧R w
theorem sqe {t:List Value}:wpList P ops (Fn t d0 (·=w)) [] ⟨t.toArray,d0⟩ w:=⟨rfl,rfl,rfl⟩
theorem sqE {t:List Value} (h:St w0 bor L w):wpList P ops (Fn t d0 (St w0 bor L)) [] ⟨t.toArray,d0⟩ w:=⟨rfl,rfl,h⟩
theorem gS_at {t:List Value} {k:Nat} {v:Value} (hv:gS t k=v) (hl:Nat.blt k t.length=true):t[k]? =some v:=by
 rw [gS_get (by simpa using hl),hv]
theorem sqwR (R:World→Prop) (dg:Nat) (ds:List Tmp) {os:List Oper} {g:Nat} {b x:Bool} {t t1 t2:List Value} (hv:gS t dg= .bool x) (hR:R w) (h1:x=b→wpList P ops (Fn t1 d0 R) (((o::os).take ds.length).map (ung (gOf o))) ⟨t.toArray,d0⟩ w)
  (h2:∀ w',R w'→wpList P ops Q ((o::os).drop ds.length) ⟨t2.toArray,d0⟩ w') (ht:mixS (qb x b) ds t t1=t2) (hk:stOk ops (gOf o) (dstAt ops (gOf o).1) ((o::os).take ds.length) ds []=true) (hgo:o.guard=some (g,b)) (hd:dstAt ops g=some dg) (hl:Nat.blt dg t.length=true):wpList P ops Q (o::os) ⟨t.toArray,d0⟩ w:=by
 replace hv:=gS_at hv hl
 have hp:gOf o=(g,b):=by unfold gOf; rw [hgo]; rfl
 rw [hp] at h1 hk
 dsimp only at hk
 rw [hd] at hk
 rw [show o::os=(o::os).take ds.length++(o::os).drop ds.length from (List.take_append_drop _ _).symm]
 by_cases hx:x=b
 ·refine w_go (p:=(g,b)) (a0:=⟨t.toArray,d0⟩) (F:=Fn t1 d0 R) (DS:=ds) hd ?_ _ ds [] _ _ hk (fun d h=>h) (by rw [List.getElem?_toArray,hv,hx]) rfl (fun _ _=>rfl) (h1 hx)
  rintro e a w' ⟨rfl,rfl,hr⟩
  refine ⟨rfl,fun hs hkk=>?_⟩
  have e2:t2=t1:=by
   rw [← ht,hx,show qb b b=true by cases b<;>rfl]
   exact mixS_true ds t t1 (by simpa using hs) fun k hk=>by simpa using hkk k hk
  rw [← e2]
  exact h2 w' hr
 ·refine off_go (p:=(g,b)) (x:=x) hd hx _ ds [] t hk hv (fun d h=>by cases h) ?_
  rw [← mixS_false ds t t1,show false=qb x b by revert hx; cases x<;>cases b<;>simp [qb],ht]
  exact h2 w hR
/-- a stretch under a guard that says no -/
theorem sqgn (dg:Nat) (ds:List Tmp) {os os':List Oper} {g:Nat} {b x:Bool} {t t':List Value} (hv:gS t dg= .bool x) (hx:x=b) (h:wpList P ops Q os' ⟨t'.toArray,d0⟩ w) (ht:ds.foldl (fun l d=>l.set d undef) t=t':=by dsimp only [List.foldl,List.set]) (hos:(o::os).drop ds.length=os':=by dsimp only [List.drop,List.length])
  (hk:stOk ops (gOf o) (dstAt ops (gOf o).1) ((o::os).take ds.length) ds []=true:=by kernel_rfl) (hgo:o.guard=some (g,!b):=by rfl) (hd:dstAt ops g=some dg:=by kernel_rfl) (hl:Nat.blt dg t.length=true:=by kernel_rfl):wpList P ops Q (o::os) ⟨t.toArray,d0⟩ w:=by
 replace hv:=gS_at hv hl
 have hp:gOf o=(g,!b):=by unfold gOf; rw [hgo]; rfl
 rw [hp] at hk
 dsimp only at hk
 rw [hd] at hk
 rw [show o::os=(o::os).take ds.length++(o::os).drop ds.length from (List.take_append_drop _ _).symm]
 refine off_go (p:=(g,!b)) (x:=x) hd (by rw [hx]; cases b<;>simp) _ ds [] t hk hv (fun d h=>by cases h) ?_
 rw [ht,hos]; exact h
/-- a stretch under a guard that says yes -/
theorem sqgy (dg:Nat) (ds:List Tmp) {os os1:List Oper} {g:Nat} {b x:Bool} {t:List Value} (hv:gS t dg= .bool x) (hx:x=b) (h:wpList P ops Q os1 ⟨t.toArray,d0⟩ w)
  (hos:((o::os).take ds.length).map (ung (gOf o))++(o::os).drop ds.length=os1:=by dsimp only [List.take,List.drop,List.length,List.map,List.cons_append,List.nil_append,ung,gOf,isG,Option.getD,Nat.reduceBEq,cond_true,cond_false]) (hk:stOk ops (gOf o) (dstAt ops (gOf o).1) ((o::os).take ds.length) ds []=true:=by kernel_rfl) (hgo:o.guard=some (g,b):=by rfl) (hd:dstAt ops g=some dg:=by kernel_rfl) (hl:Nat.blt dg t.length=true:=by kernel_rfl):wpList P ops Q (o::os) ⟨t.toArray,d0⟩ w:=by
 subst hos
 replace hv:=gS_at hv hl
 have hp:gOf o=(g,b):=by unfold gOf; rw [hgo]; rfl
 rw [hp] at hk h
 dsimp only at hk
 rw [hd] at hk
 rw [show o::os=(o::os).take ds.length++(o::os).drop ds.length from (List.take_append_drop _ _).symm]
 exact on_go (p:=(g,b)) hd _ ds [] _ _ hk (by rw [List.getElem?_toArray,hv,hx]) h
/-- a stretch under a guard that is not decided; the world stays -/
theorem sqw (dg:Nat) (ds:List Tmp) {os os':List Oper} {g:Nat} {b x:Bool} {t t1 t2:List Value} (hv:gS t dg= .bool x) (h1:x=b→wpList P ops (Fn t1 d0 (·=w)) (((o::os).take ds.length).map (ung (gOf o))) ⟨t.toArray,d0⟩ w)
  (h2:wpList P ops Q os' ⟨t2.toArray,d0⟩ w) (ht:mixS (qb x b) ds t t1=t2:=by dsimp only [mixS,List.set,gS,qb]) (hos:(o::os).drop ds.length=os':=by dsimp only [List.drop,List.length]) (hk:stOk ops (gOf o) (dstAt ops (gOf o).1) ((o::os).take ds.length) ds []=true:=by kernel_rfl) (hgo:o.guard=some (g,b):=by rfl) (hd:dstAt ops g=some dg:=by kernel_rfl) (hl:Nat.blt dg t.length=true:=by kernel_rfl):wpList P ops Q (o::os) ⟨t.toArray,d0⟩ w:=
 sqwR (·=w) dg ds hv rfl h1 (fun w' hw=>by subst hw; rw [hos]; exact h2) ht hk hgo hd hl
/-- the same, the frame behind it found by the proof of h1 -/
theorem sqwx {os os':List Oper} {t t':List Value} (h:wpList P ops Q os' ⟨t'.toArray,d0⟩ w) (ht:t=t':=by dsimp only [mixS,List.set,gS,qb]) (hos:os=os':=by dsimp only [List.drop,List.length]):wpList P ops Q os ⟨t.toArray,d0⟩ w:=by rw [ht,hos]; exact h
theorem sqw' (dg:Nat) (ds:List Tmp) (t1:List Value) {os os1:List Oper} {g:Nat} {b x:Bool} {t:List Value} (hv:gS t dg= .bool x) (h1:x=b→wpList P ops (Fn t1 d0 (·=w)) os1 ⟨t.toArray,d0⟩ w)
  (h2:wpList P ops Q ((o::os).drop ds.length) ⟨(mixS (qb x b) ds t t1).toArray,d0⟩ w) (hos:((o::os).take ds.length).map (ung (gOf o))=os1:=by dsimp only [List.take,List.drop,List.length,List.map,List.cons_append,List.nil_append,ung,gOf,isG,Option.getD,Nat.reduceBEq,cond_true,cond_false]) (hk:stOk ops (gOf o) (dstAt ops (gOf o).1) ((o::os).take ds.length) ds []=true:=by kernel_rfl) (hgo:o.guard=some (g,b):=by rfl) (hd:dstAt ops g=some dg:=by kernel_rfl) (hl:Nat.blt dg t.length=true:=by kernel_rfl):wpList P ops Q (o::os) ⟨t.toArray,d0⟩ w:=
 sqwR (·=w) dg ds hv rfl (by rw [hos]; exact h1) (fun w' hw=>by subst hw; exact h2) rfl hk hgo hd hl
theorem sqwW (dg:Nat) (ds:List Tmp) (t1:List Value) {os os1:List Oper} {g:Nat} {b x:Bool} {t:List Value} (hst:St w0 bor L w) (hv:gS t dg= .bool x) (h1:x=b→wpList P ops (Fn t1 d0 (St w0 bor L)) os1 ⟨t.toArray,d0⟩ w)
  (h2:∀ w',St w0 bor L w'→wpList P ops Q ((o::os).drop ds.length) ⟨(mixS (qb x b) ds t t1).toArray,d0⟩ w') (hos:((o::os).take ds.length).map (ung (gOf o))=os1:=by dsimp only [List.take,List.drop,List.length,List.map,List.cons_append,List.nil_append,ung,gOf,isG,Option.getD,Nat.reduceBEq,cond_true,cond_false]) (hk:stOk ops (gOf o) (dstAt ops (gOf o).1) ((o::os).take ds.length) ds []=true:=by kernel_rfl) (hgo:o.guard=some (g,b):=by rfl) (hd:dstAt ops g=some dg:=by kernel_rfl) (hl:Nat.blt dg t.length=true:=by kernel_rfl):wpList P ops Q (o::os) ⟨t.toArray,d0⟩ w:=
 sqwR (St w0 bor L) dg ds hv hst (by rw [hos]; exact h1) h2 rfl hk hgo hd hl
end
abbrev sPa (d:Tmp) (c x:Bool):SE:= .e d (bif c then mb c (.bool x) else .bool false) (.bool (c&&x)) (and_line c x)
abbrev sPo (d:Tmp) (c x:Bool):SE:= .e d (bif c then .bool true else mb (!c) (.bool x)) (.bool (c||x)) (or_line c x)
abbrev sPok (d:Tmp) (c x v:Bool) (h:(c||x)=v):SE:= .e d (bif c then .bool true else mb (!c) (.bool x)) (.bool v) ((or_line c x).trans (congrArg Value.bool h))
end
section
open Go.RowKit
theorem St.one {W W':World} {E:Ent} (hx:Ext W W') (h:E.holds W'∧E.loc∧∀ k∈E.fp,W.heap.size≤k∧k < W'.heap.size):St W [] [E] W':=
 ⟨Upd.of_ext hx,fun e he=>by rw [List.mem_singleton] at he; subst he; exact ⟨h.1,h.2.1,fun k hk=>⟨.inr (h.2.2 k hk).1,(h.2.2 k hk).2⟩⟩,List.pairwise_singleton _ _⟩
theorem CtxV.triv {ops:Array Oper} {A:List Nat} {a0:Act} {w0:World} {bor:List Nat} {X0:List Ent} {us:List (List Nat)} {D D':Nat→(Tmp→Value)→(Tmp→Value)→(Nat→Ent)→Prop} {i:Nat} {ρ:Operand→Value} {β:Tmp→Value} {W:World} {X:Nat→Ent} (h:CtxV ops A a0 w0 bor X0 us D i ρ β W X) (hD:∀ j σ β X,D' j σ β X):CtxV ops A a0 w0 bor X0 us D' i ρ β W X:=
 ⟨h.sees,h.upd,h.out,fun _ _=>hD _ _ _ _,h.init,h.ok,h.ap⟩
section
variable {P:Program} {Q:Exit→Act→World→Prop} {rest:List Oper} {o:Oper} {ops:Array Oper} {t:List Value} {d0:List Deferred} {w0 w:World} {bor:List Nat} {L:List Ent}
theorem sqkN {Z:Type} {d:Tmp} (V:Z→Value) (E:Z→Ent) (hst:St w0 bor L w) {c:Call} {f:FuncId} (hs:∀ {ρ:Operand→Value} {β:Tmp→Value} {W:World} {X:Nat→Ent},CtxV #[o] [0] ⟨t.toArray,d0⟩ w0 bor L (rg L) (fun _ _ _ _=>True) 0 ρ β W X→∃ args,Calls P f args W (fun e W'=>∃ z,e= .returned (V z)∧St W [] [E z] W')∧(argsOf o.op).map ρ=args)
  (h:∀ z w',St w0 bor (L++[E z]) w'→wpList P ops Q rest ⟨(t.set d (V z)).toArray,d0⟩ w') (hop:o.op= .call c) (hcal:c.callee= .value (.func f)) (hg:o.guard=none) (hd:o.dst=some d) (hf:callP P f=true):wpList P ops Q (o::rest) ⟨t.toArray,d0⟩ w:=by
 refine wpList_plain hg fun K hK=>?_
 obtain ⟨args,hc,hm⟩:=hs (sqCtx hst fun _=>undef)
 rw [hop] at hm
 refine DoesU.wp (post:=fun v w'=>∃ z,v=V z∧St w [] [E z] w') (DoesU.call (run_callF hop (sqCtx (o:=o) (D:=fun _ _ _ _=>True) hst fun _=>undef).sees hcal hf hm) (hc.mono ?_)) fun v w' ⟨z,e1,hs1⟩=>hK _ _ ?_
 ·rintro e W1 ⟨z,rfl,h1⟩
  exact ⟨_,rfl,z,rfl,h1⟩
 ·subst e1
  rw [hd]
  show wpList P ops Q rest ⟨t.toArray.setIfInBounds d (V z),d0⟩ w'
  rw [List.setIfInBounds_toArray]
  have h2:=sqSt (kl:=[]) (N:=[E z]) hst (fun q hq=>by cases hq) ⟨hs1.upd,fun e he=>⟨(hs1.ok e he).holds,(hs1.ok e he).loc,fun k hk=>⟨((hs1.ok e he).own k hk).1,((hs1.ok e he).own k hk).2⟩⟩,hs1.apart⟩
  rw [remQ_nil] at h2
  exact h z w' h2
theorem sqk1 {Z:Type} {d:Tmp} {L':Z→List Ent} {t':Z→List Value} (V:Z→Value) (E:Z→Ent) (hst:St w0 bor L w) {c:Call} {f:FuncId} (hs:∀ {ρ:Operand→Value} {β:Tmp→Value} {W:World} {X:Nat→Ent},CtxV #[o] [0] ⟨t.toArray,d0⟩ w0 bor L (rg L) (fun _ _ _ _=>True) 0 ρ β W X→∃ args,Calls P f args W (fun e W'=>∃ z0,e= .returned (V z0)∧St W [] [E z0] W')∧(argsOf o.op).map ρ=args)
  (h:∀ z0 w',St w0 bor (L' z0) w'→wpList P ops Q rest ⟨(t' z0).toArray,d0⟩ w') (hop:o.op= .call c:=by rfl) (hcal:c.callee= .value (.func f):=by rfl) (hg:o.guard=none:=by rfl) (hd:o.dst=some d:=by rfl) (ht:∀ z0,t.set d (V z0)=(t' z0):=by intro z0; dsimp only [List.set]) (hL:∀ z0,L++[E z0]=(L' z0):=by intro z0; dsimp only [List.cons_append,List.nil_append]) (hf:callP P f=true:=by kernel_rfl):
  wpList P ops Q (o::rest) ⟨t.toArray,d0⟩ w:=
 sqkN (Z:=Z) (fun r=>V r) (fun r=>E r) hst (fun cx=>let ⟨args,h1,h2⟩:=hs cx; ⟨args,h1.mono (fun e W' ⟨z0,h1,h2⟩=>⟨z0,h1,h2⟩),h2⟩) (fun r w' hw=>by rw [ht]; exact h r w' (hL r ▸ hw)) hop hcal hg hd hf
theorem sqk2 {Z:Type} {Y:Type} {d:Tmp} {L':Z→Y→List Ent} {t':Z→Y→List Value} (V:Z→Y→Value) (E:Z→Y→Ent) (hst:St w0 bor L w) {c:Call} {f:FuncId} (hs:∀ {ρ:Operand→Value} {β:Tmp→Value} {W:World} {X:Nat→Ent},CtxV #[o] [0] ⟨t.toArray,d0⟩ w0 bor L (rg L) (fun _ _ _ _=>True) 0 ρ β W X→∃ args,Calls P f args W (fun e W'=>∃ z0 z1,e= .returned (V z0 z1)∧St W [] [E z0 z1] W')∧(argsOf o.op).map ρ=args)
  (h:∀ z0 z1 w',St w0 bor (L' z0 z1) w'→wpList P ops Q rest ⟨(t' z0 z1).toArray,d0⟩ w') (hop:o.op= .call c:=by rfl) (hcal:c.callee= .value (.func f):=by rfl) (hg:o.guard=none:=by rfl) (hd:o.dst=some d:=by rfl) (ht:∀ z0 z1,t.set d (V z0 z1)=(t' z0 z1):=by intro z0 z1; dsimp only [List.set]) (hL:∀ z0 z1,L++[E z0 z1]=(L' z0 z1):=by intro z0 z1; dsimp only [List.cons_append,List.nil_append]) (hf:callP P f=true:=by kernel_rfl):
  wpList P ops Q (o::rest) ⟨t.toArray,d0⟩ w:=
 sqkN (Z:=Z×Y) (fun r=>V r.1 r.2) (fun r=>E r.1 r.2) hst (fun cx=>let ⟨args,h1,h2⟩:=hs cx; ⟨args,h1.mono (fun e W' ⟨z0,z1,h1,h2⟩=>⟨(z0,z1),h1,h2⟩),h2⟩) (fun r w' hw=>by rw [ht]; exact h r.1 r.2 w' (hL r.1 r.2 ▸ hw)) hop hcal hg hd hf
theorem sqk2s {Z:Type} {Y:Type} {R:Type} {d:Tmp} {L':Z→Y→R→List Ent} {t':Z→Y→List Value} (V:Z→Y→Value) (E:Z→Y→R→Ent) (hst:St w0 bor L w) {c:Call} {f:FuncId} (hs:∀ {ρ:Operand→Value} {β:Tmp→Value} {W:World} {X:Nat→Ent},CtxV #[o] [0] ⟨t.toArray,d0⟩ w0 bor L (rg L) (fun _ _ _ _=>True) 0 ρ β W X→∃ args,Calls P f args W (fun e W'=>∃ z0 z1 r,e= .returned (V z0 z1)∧St W [] [E z0 z1 r] W')∧(argsOf o.op).map ρ=args)
  (h:∀ z0 z1 r w',St w0 bor (L' z0 z1 r) w'→wpList P ops Q rest ⟨(t' z0 z1).toArray,d0⟩ w') (hop:o.op= .call c:=by rfl) (hcal:c.callee= .value (.func f):=by rfl) (hg:o.guard=none:=by rfl) (hd:o.dst=some d:=by rfl) (ht:∀ z0 z1,t.set d (V z0 z1)=(t' z0 z1):=by intro z0 z1; dsimp only [List.set]) (hL:∀ z0 z1 r,L++[E z0 z1 r]=(L' z0 z1 r):=by intro z0 z1 r; dsimp only [List.cons_append,List.nil_append]) (hf:callP P f=true:=by kernel_rfl):
  wpList P ops Q (o::rest) ⟨t.toArray,d0⟩ w:=
 sqkN (Z:=Z×Y×R) (fun r=>V r.1 r.2.1) (fun r=>E r.1 r.2.1 r.2.2) hst (fun cx=>let ⟨args,h1,h2⟩:=hs cx; ⟨args,h1.mono (fun e W' ⟨z0,z1,r,h1,h2⟩=>⟨(z0,z1,r),h1,h2⟩),h2⟩) (fun r w' hw=>by rw [ht]; exact h r.1 r.2.1 r.2.2 w' (hL r.1 r.2.1 r.2.2 ▸ hw)) hop hcal hg hd hf
/-- a call that changes one block -/
theorem sqkm {d:Tmp} {L':List Ent} {t':List Value} {b ty:Nat} {cs:Array Value} (V:Value) (q:Nat) (cs':Array Value) (hst:St w0 bor L w) {c:Call} {f:FuncId} (hs:∀ {ρ:Operand→Value} {β:Tmp→Value} {W:World} {X:Nat→Ent},CtxV #[o] [0] ⟨t.toArray,d0⟩ w0 bor L (rg L) (fun _ _ _ _=>True) 0 ρ β W X→∃ args,Calls P f args W (fun e W'=>e= .returned V∧Upd [b] W W'∧Blk W' b ty cs')∧(argsOf o.op).map ρ=args)
  (h:∀ w',St w0 bor L' w'→wpList P ops Q rest ⟨t'.toArray,d0⟩ w') (hq:L[q]? =some (eB b ty cs):=by rfl) (hop:o.op= .call c:=by rfl) (hcal:c.callee= .value (.func f):=by rfl) (hg:o.guard=none:=by rfl) (hd:o.dst=some d:=by rfl) (ht:t.set d V=t':=by dsimp only [List.set]) (hL:L.set q (eB b ty cs')=L':=by dsimp only [List.set]) (hf:callP P f=true:=by kernel_rfl):wpList P ops Q (o::rest) ⟨t.toArray,d0⟩ w:=by
 have hql:q < L.length:=(List.getElem?_eq_some_iff.1 hq).1
 refine sqc0 V (eB b ty cs') q hst (svA (o:=o) (fun ρ β W X cx=>?_) rfl hg) h (ht:=ht) (hL:=hL) (hk:=by simpa using hql) (hg:=hg) (hd:=hd)
 obtain ⟨args,hc,hm⟩:=hs (cx.triv fun _ _ _ _=>trivial)
 rw [hop] at hm
 refine DoesU.call (run_callF hop cx.sees hcal hf hm) (hc.mono ?_)
 rintro e W1 ⟨rfl,hu,hb⟩
 exact ⟨_,rfl,post_mut (cx.init q _ hq) rfl rfl hu hb (fun σ β' X' hs hb hv hx=>⟨(hv d hd).1,hx⟩)⟩
/-- a row written out, its elements of several cells -/
theorem sqli {d:Tmp} {ty:TypeId} {parts:Array (Nat×Operand)} {L':Nat→List Ent} {t':Nat→List Value} (e sz n:Nat) (xs:List Value) (hst:St w0 bor L w)
  (hr:∀ {ρ:Operand→Value} {β:Tmp→Value} {W:World} {X:Nat→Ent},CtxV #[o] [0] ⟨t.toArray,d0⟩ w0 bor L (rg L) (fun _ _ _ _=>True) 0 ρ β W X→(execOp ρ o).run P W= .ok (.value (.slice (some ⟨W.heap.size,0,none⟩) n n)) (W.alloc (.cells xs.toArray e)))
  (h:∀ B w',St w0 bor (L' B) w'→wpList P ops Q rest ⟨(t' B).toArray,d0⟩ w') (hop:o.op= .buildSlice ty n parts:=by rfl) (hg:o.guard=none:=by rfl) (hd:o.dst=some d:=by rfl) (ht:∀ B,t.set d (.slice (some ⟨B,0,none⟩) n n)=t' B:=by intro B; dsimp only [List.set]) (hL:∀ B,L++[eO e sz (.slice (some ⟨B,0,none⟩) n n) n xs]=L' B:=by intro B; dsimp only [List.cons_append,List.nil_append])
  (hn:xs.length=n*sz:=by rfl) (hm:n≤maxLen:=by decide):wpList P ops Q (o::rest) ⟨t.toArray,d0⟩ w:=
 sqn1 pb' _ _ hst (svA (o:=o) (fun ρ β W X cx=>dv_litN hop (hr (cx.triv fun _ _ _ _=>trivial)) hn hm hd rfl (fun σ β' X' hs hb hv hx=>⟨hv,hx⟩)) rfl hg) h (ht:=ht) (hL:=hL) (hg:=hg) (hd:=hd)
/-- append of elements of several cells -/
theorem sqap {d ty:Tmp} {e sz n m bytes cp:Nat} {z:Value} {A0:Option Addr} {c0:Nat} {a:Addr} {xs news:List Value} {x y:Operand} {L':Option Addr→Nat→List Ent} {t':Option Addr→Nat→List Value} (nm:Nat) (xs':List Value) (q:Nat) (hst:St w0 bor L w)
  (hinf:(P.info? e).map (fun i=>(i.zero,i.size,i.bytes))=some (some z,sz,bytes)) (hA:∀ {ρ:Operand→Value} {β:Tmp→Value} {W:World} {X:Nat→Ent},CtxV #[o] [0] ⟨t.toArray,d0⟩ w0 bor L (rg L) (fun _ _ _ _=>True) 0 ρ β W X→At W (some a) news)
  (h:∀ A c w',St w0 bor (L' A c) w'→wpList P ops Q rest ⟨(t' A c).toArray,d0⟩ w') (hop:o.op= .call {callee:= .builtin .append,args:=#[x,y],argTypes:=#[ty,ty]}:=by rfl) (hx:Act.eval ⟨t.toArray,d0⟩ x= .slice A0 n c0:=by rfl) (hy:Act.eval ⟨t.toArray,d0⟩ y= .slice (some a) m cp:=by rfl) (hq:L[q]? =some (eO e sz (.slice A0 n c0) n xs):=by rfl)
  (hg:o.guard=none:=by rfl) (hd:o.dst=some d:=by rfl) (ht:∀ A c,t.set d (.slice A nm c)=t' A c:=by intro A c; dsimp only [List.set]) (hL:∀ A c,L.set q (eO e sz (.slice A nm c) nm xs')=L' A c:=by intro A c; dsimp only [List.set]) (hl:news.length=m*sz:=by rfl) (h1:∀ u∈news,u.oneCell'=true:=by simp [Value.oneCell']) (h63:n+m≤maxLen:=by simp only [maxLen]; omega) (hbytes:(n+m)*bytes≤140737488355328:=by omega) (hnm:n+m=nm:=by omega) (hxs:xs++news=xs':=by rfl)
  (hu:P.underlying ty=some (.slice e):=by kernel_rfl) (hz:z.cells.size=sz:=by rfl) (hsz:Nat.blt 0 sz=true:=by rfl):wpList P ops Q (o::rest) ⟨t.toArray,d0⟩ w:=by
 have hql:q < L.length:=(List.getElem?_eq_some_iff.1 hq).1
 obtain ⟨i0,hi0,hz0,hz1,hz2⟩:=info_parts hinf
 refine sqD (D:=fun _ σ β X=>σ d= .slice (sA (β d)) nm (sC (β d))∧X L.length=eO e sz (.slice (sA (β d)) nm (sC (β d))) nm xs') 1 [q] hst ?_ hg (fun z hz=>by rw [List.mem_singleton.1 hz]; exact hql) fun σ β X v w' hD hv hs'=>?_
 ·exact dv_appendN hop rfl hu hi0 hz0 hz1 hz2 hz (by simpa using hsz) hx (sqCtx (o:=o) hst _) (by rw [List.getD_eq_getElem?_getD,hq]; rfl) (by simp [atV]; exact hql) hy hl (hA (sqCtx hst fun _=>undef)) h1 h63 hbytes hd rfl rfl hnm hxs (fun σ β' X' hs hb hv hx=>⟨hv,hx⟩)
 ·rw [(hv d hd).1,(hv d hd).2] at hD
  have h2:=h (sA v) (sC v) w' (by rw [← hL,← hD.2]; exact hs'.perm (rem_perm _ q L 0 (Nat.zero_le _) (by simpa using hql)))
  rw [← ht,← hD.1] at h2
  rw [hd]
  show wpList P ops Q rest ⟨t.toArray.setIfInBounds d v,d0⟩ w'
  rw [List.setIfInBounds_toArray]
  exact h2
end
end
section
open Go.RowKit
def trimN (ss:List ByteArray):Nat→Nat
 | 0=>0
 | n+1=>if (ss.getD n ByteArray.empty).toList.isEmpty then trimN ss n else n+1
theorem trimN_le (ss:List ByteArray):∀ n,trimN ss n≤n
 | 0=>Nat.le_refl _
 | n+1=>by unfold trimN; split; exact Nat.le_succ_of_le (trimN_le ss n); exact Nat.le_refl _
theorem trimN_succ (ss:List ByteArray) (n:Nat):trimN ss (n+1)=if (ss.getD n ByteArray.empty).toList.isEmpty then trimN ss n else n+1:=rfl
def plainL (ss:List ByteArray):List ByteArray:=ss.take (trimN ss ss.length)
theorem plainL_len (ss:List ByteArray):(plainL ss).length=trimN ss ss.length:=by
 simp only [plainL,List.length_take]; exact Nat.min_eq_left (trimN_le ss _)
theorem Tryz.infoStr:(Tryz.prog.info? 9).map (fun i=>(i.zero,i.size,i.bytes))=some (some (.string ByteArray.empty),1,16):=by kernel_rfl
theorem Tryz.sizeStr:(Tryz.prog.info? 9).map (·.size)=some 1:=by kernel_rfl
theorem take_min (ss:List ByteArray) (k:Nat):((ss.take k).map Value.string).length=Nat.min ss.length k:=by
 rw [List.length_map,List.length_take]; exact Nat.min_comm _ _
/-- what make and copy leave -/
theorem plain_end {w w1 w2:World} {ss:List ByteArray} {k:Nat} (hk:k≤ss.length) (hb:ss.length≤100000) (ht:k=trimN ss ss.length) (hg1:w.grownBy w1 none)
  (h2:w2.heap[w.heap.size]? =some (.cells (splice (List.replicate k (Value.string ByteArray.empty)) 0 ((ss.take k).map Value.string)).toArray 9 (0,0))) (hb2:Below w.heap.size w1 w2):
  w2.ownsRow w.heap.size 9 1 (.slice (some ⟨w.heap.size,0,none⟩) k k) k ((plainL ss).map Value.string)∧Ext w w2∧(plainL ss).length=k:=by
 have hl:(plainL ss).length=k:=by rw [plainL_len,ht]
 have e:splice (List.replicate k (Value.string ByteArray.empty)) 0 ((ss.take k).map Value.string)=(plainL ss).map Value.string:=by
  subst ht
  simp [splice,plainL,Nat.min_eq_left (trimN_le ss ss.length)]
 rw [e] at h2
 exact ⟨own_of_block h2 (Nat.le_refl _) (by simp [hl]) (by simp only [maxLen]; omega),((Ext.refl w).grown hg1 (by simp)).out.trans hb2,hl⟩
theorem plain_any (A:Option Addr) (c:Nat) (ss:List ByteArray) (w:World) (h:At w A (ss.map Value.string)) (hl:ss.length≤100000):
  Calls Tryz.prog 185 #[.slice A ss.length c] w fun e w'=>e= .returned (.slice (some ⟨w.heap.size,0,none⟩) (plainL ss).length (plainL ss).length)∧
   w'.ownsRow w.heap.size 9 1 (.slice (some ⟨w.heap.size,0,none⟩) (plainL ss).length (plainL ss).length) (plainL ss).length ((plainL ss).map Value.string)∧Ext w w':=by
 obtain ⟨i0,hi0,hz0,hz1,hz2⟩:=info_parts Tryz.infoStr
 have H:=Lib.hid h; clear h
 go_enter Tryz.func185,Tryz.ntmps185
 go_wp2
 go_loop [3] (fun i=>∃ k:Nat,k≤ss.length∧i= .int .i64 k∧trimN ss k=trimN ss ss.length) (fun i=>(intOf i).toNat)
 case atStart=>exact ⟨_,Nat.le_refl _,rfl,rfl⟩
 case round=>
  obtain ⟨k,hk,rfl,ht⟩:=hrel
  have Ht:=Lib.hid ht; clear ht
  rcases k with _ | k
  ·go_wp2_with (first
    | (at_make; go_must (refine wpList_make_full _ rfl (.tmp 19) (.tmp 19) 62 rfl w.heap.size 9 i0 _ 1 Tryz.underlying62 hi0 hz0 hz1 .i64 .i64 _ _ 0 rfl rfl rfl rfl (by rw [hz2]; omega) (by simp only [maxLen]; omega) (Nat.le_refl _) ?_); intro w1 hown1 hg1; have hm1:=own_made hown1; clear hown1)
    | (with_reducible refine wpList_copy_splice rfl (.tmp 21) (.tmp 22) 62 62 rfl 9 Tryz.underlying62 Tryz.sizeStr _ _ _ _ _ _ rfl rfl w.heap.size 0 _ 9 hm1 [] (by simp) (by simp) (by simp) (by simp) w.heap.size w1 (Below.refl _ _) (Nat.le_refl _) ?_; intro w2 hh2 hb2))
   go_ret
   have R:=plain_end (k:=0) (Nat.zero_le _) hl Ht.out hg1 hh2.out hb2
   rw [R.2.2]
   exact ⟨rfl,R.1,R.2.1⟩
  ·have hs:(ss.map Value.string)[k]? =some (.string (ss.getD k ByteArray.empty)):=by simp [List.getD,List.getElem?_eq_getElem (show k < ss.length by omega)]
   obtain ⟨ad,rfl,hb,hc⟩:=H.out _ _ hs
   clear hs
   obtain ⟨s,hs⟩:∃ s,s=ss.getD k ByteArray.empty:=⟨_,rfl⟩
   rw [← hs] at hc
   have Hs:=Lib.hid hs; clear hs
   go_wp2_with (first
    | (at_make; go_must (refine wpList_make_full _ rfl (.tmp 19) (.tmp 19) 62 rfl w.heap.size 9 i0 _ 1 Tryz.underlying62 hi0 hz0 hz1 .i64 .i64 _ _ (k+1) rfl rfl (by omega) (by omega) (by rw [hz2]; omega) (by simp only [maxLen]; omega) (Nat.le_refl _) ?_); intro w1 hown1 hg1; have hm1:=own_made hown1; clear hown1)
    | (with_reducible refine wpList_copy_splice rfl (.tmp 21) (.tmp 22) 62 62 rfl 9 Tryz.underlying62 Tryz.sizeStr _ _ _ _ _ _ rfl rfl w.heap.size 0 _ 9 hm1 ((ss.take (k+1)).map Value.string) (take_min _ _) (fun _=>⟨rfl, _,rfl,fun j v hj=>((At.take H.out (k+1)).ext ((Ext.refl w).grown hg1 (by simp))).at_ j v (by simpa using hj)⟩) (by simp; omega) (str_one _) w.heap.size w1 (Below.refl _ _) (Nat.le_refl _) ?_; intro w2 hh2 hb2))
   ·have hemp:s.toList.isEmpty=true:=by assumption
    go_round
    case rel=>exact ⟨k,by omega,rfl,by rw [← Ht.out,trimN_succ,← Hs.out,if_pos hemp]⟩
    case measure=>simp [intOf]
   ·have hemp:s.toList.isEmpty=false:=by assumption
    go_ret
    have R:=plain_end (k:=k+1) hk hl (by rw [← Ht.out,trimN_succ,← Hs.out,hemp]; rfl) hg1 hh2.out hb2
    rw [R.2.2]
    exact ⟨rfl,R.1,R.2.1⟩
end
section
open Go.RowKit
def sizeT (ss:List ByteArray):Nat:=(ss.map fun s=>2+s.size).sum
theorem sizeT_take_succ (ss:List ByteArray) (k:Nat) (h:k < ss.length):sizeT (ss.take (k+1))=sizeT (ss.take k)+(2+ss[k].size):=by
 unfold sizeT
 rw [List.take_succ_eq_append_getElem h,List.map_append,List.sum_append]
 simp only [List.map_cons,List.map_nil,List.sum_cons,List.sum_nil,Nat.add_zero]
theorem sizeT_le (ss:List ByteArray) (B:Nat) (h:∀ s∈ss,s.size≤B):sizeT ss≤ss.length*(2+B):=by
 unfold sizeT
 induction ss with
 | nil=>simp
 | cons a l ih=>
   have h1:=h a (by simp)
   have h2:=ih fun s hs=>h s (by simp [hs])
   simp only [List.map_cons,List.sum_cons,List.length_cons,Nat.add_mul]
   omega
def sizeL (ss:List ByteArray):Nat:=14+sizeT (plainL ss)
def Small (ss:List ByteArray):Prop:=ss.length≤100000∧∀ s∈ss,s.size≤1000000
theorem Small.plain {ss:List ByteArray} (h:Small ss):Small (plainL ss):=
 ⟨by have:=plainL_len ss; have:=trimN_le ss ss.length; have:=h.1; omega,fun s hs=>h.2 s (List.mem_of_mem_take hs)⟩
theorem Small.take {ss:List ByteArray} (h:Small ss) (k:Nat):sizeT (ss.take k)≤100000*1000002:=by
 have h1:=sizeT_le (ss.take k) 1000000 fun s hs=>h.2 s (List.mem_of_mem_take hs)
 have h2:(ss.take k).length≤100000:=by have:=h.1; simp; omega
 exact Nat.le_trans h1 (Nat.mul_le_mul h2 (by omega))
theorem size_any (A:Option Addr) (c:Nat) (ss:List ByteArray) (w:World) (h:At w A (ss.map Value.string)) (hs:Small ss):
  Calls Tryz.prog 197 #[.slice A ss.length c] w fun e w'=>e= .returned (.int .i64 (sizeL ss))∧Ext w w':=by
 have H:=Lib.hid h; clear h
 have HS:=Lib.hid hs; clear hs
 go_enter Tryz.func197,Tryz.ntmps197
 go_wp2_with (go_at_call 185; refine (plain_any _ _ _ _ H.out HS.out.1).mono ?_; rintro e w1 ⟨rfl,hown,hext⟩; have Hown:=Lib.hid hown; clear hown; have Hext:=Lib.hid hext; clear hext)
 have hsm:=Small.plain HS.out
 have hpl:(plainL ss).length≤100000:=hsm.1
 have Hp:=Lib.hid hsm; clear hsm
 obtain ⟨ps,hps⟩:∃ ps,ps=plainL ss:=⟨_,rfl⟩
 rw [← hps] at Hown Hp hpl ⊢
 have Hps:=Lib.hid hps; clear hps
 go_loop [3,9] (fun n i=>∃ k:Nat,k≤ps.length∧i= .int .i64 k∧n= .int .i64 ((14+sizeT (ps.take k):Nat):Int)) (fun _ i=>ps.length - (intOf i).toNat)
 case atStart=>exact ⟨0,Nat.zero_le _,rfl,rfl⟩
 case round=>
  obtain ⟨k,hk,rfl,rfl⟩:=hrel
  have hb:=Small.take Hp.out k
  rcases Nat.lt_or_ge k ps.length with hlt | hge
  ·have hc:=(At.of_own Hown.out).get0 (k:=k) (by simpa using hlt)
   have hsz:(ps[k]).size≤1000000:=Hp.out.2 _ (List.getElem_mem hlt)
   have Hn:=Lib.hid (sizeT_take_succ ps k hlt)
   obtain ⟨s,hs⟩:∃ s,s=ps[k]:=⟨_,rfl⟩
   rw [← hs] at hsz Hn
   rw [List.getElem_map,← hs] at hc
   clear hs
   obtain ⟨t,ht⟩:∃ t,t=sizeT (ps.take k):=⟨_,rfl⟩
   rw [← ht] at Hn hb ⊢
   clear ht
   go_wp2
   go_round
   case rel=>exact ⟨k+1,by omega,by go_num,by rw [Hn.out]; go_num⟩
   case measure=>simp [intOf]; omega
  ·obtain rfl:k=ps.length:=by omega
   go_wp2
   go_ret
   exact ⟨ret_int (by rw [sizeL,← Hps.out]; omega),Hext.out⟩
end
section
open Go.RowKit
def longB (ss:List ByteArray):Bool:=ss.any fun s=>decide (400 < s.size)
theorem longB_take_succ (ss:List ByteArray) (k:Nat) (h:k < ss.length):longB (ss.take (k+1))=(longB (ss.take k)||decide (400 < ss[k].size)):=by
 unfold longB
 rw [List.take_succ_eq_append_getElem h]
 simp only [List.any_append,List.any_cons,List.any_nil,Bool.or_false]
def IdxPost (ss:List ByteArray) (w:World) (e:Ending) (w':World):Prop:=∃ r:Int,e= .returned (.int .i64 r)∧(0≤r↔longB ss=true)∧w=w'
theorem longB_of (ss:List ByteArray) (k:Nat) (h:k < ss.length) (hl:400 < ss[k].size):longB ss=true:=by
 unfold longB
 rw [List.any_eq_true]
 exact ⟨ss[k],List.getElem_mem h,by simpa using hl⟩
theorem long_any (s:ByteArray) (w:World) (hs:s.size≤9223372036854775807):
  Calls Tryz.prog 233 #[.string s] w fun e w'=>e= .returned (.bool (decide (400 < s.size)))∧w=w':=by
 go_enter Tryz.func233,Tryz.ntmps233
 go_wp2
 go_ret
 exact ⟨ret_bool (by simp only [decide_eq_decide]; omega),rfl⟩
theorem index_any (A:Option Addr) (c:Nat) (ss:List ByteArray) (w:World) (h:At w A (ss.map Value.string)) (hs:Small ss):
  Calls Tryz.prog 250 #[.slice A ss.length c, .func (.func 233) #[] #[]] w (IdxPost ss w):=by
 have H:=Lib.hid h; clear h
 have hl:=hs.1
 have HS:=Lib.hid hs; clear hs
 go_enter Tryz.func250,Tryz.ntmps250
 go_wp2
 go_loop [8] (fun i=>∃ k:Nat,k≤ss.length∧i= .int .i64 k∧longB (ss.take k)=false) (fun i=>ss.length - (intOf i).toNat)
 case atStart=>exact ⟨0,Nat.zero_le _,rfl,rfl⟩
 case round=>
  obtain ⟨k,hk,rfl,ht⟩:=hrel
  have Ht:=Lib.hid ht; clear ht
  rcases Nat.lt_or_ge k ss.length with hlt | hge
  ·obtain ⟨ad,rfl, _,hc⟩:=H.out.get (k:=k) (by simpa using hlt)
   rw [List.getElem_map] at hc
   have hsz:(ss[k]).size≤1000000:=HS.out.2 _ (List.getElem_mem hlt)
   obtain ⟨s,hs⟩:∃ s,s=ss[k]:=⟨_,rfl⟩
   rw [← hs] at hc hsz
   have Hs:=Lib.hid hs; clear hs
   rcases Nat.lt_or_ge 400 s.size with h4 | h4
   ·have hd:decide (400 < s.size)=true:=by simpa using h4
    go_wp2_with (go_at_call 233; refine (long_any _ _ (by omega)).mono ?_; rintro e w1 ⟨rfl,rfl⟩)
    go_ret
    exact ⟨_,rfl,⟨fun _=>longB_of ss k hlt (by rw [← Hs.out]; exact h4),fun _=>by omega⟩,rfl⟩
   ·have hd:decide (400 < s.size)=false:=by simpa using h4
    have hn:longB (ss.take (k+1))=false:=by rw [longB_take_succ ss k hlt,Ht.out,← Hs.out,hd]; rfl
    have Hn:=Lib.hid hn; clear hn
    go_wp2_with (go_at_call 233; refine (long_any _ _ (by omega)).mono ?_; rintro e w1 ⟨rfl,rfl⟩)
    go_round
    case rel=>exact ⟨k+1,by omega,by go_num,Hn.out⟩
    case measure=>simp [intOf]; omega
  ·obtain rfl:k=ss.length:=by omega
   rw [List.take_length] at Ht
   go_wp2
   go_ret
   exact ⟨-1,rfl,⟨fun h=>absurd h (by decide),fun h=>by rw [Ht.out] at h; cases h⟩,rfl⟩
theorem contains_any (A:Option Addr) (c:Nat) (ss:List ByteArray) (w:World) (h:At w A (ss.map Value.string)) (hs:Small ss):
  Calls Tryz.prog 234 #[.slice A ss.length c, .func (.func 233) #[] #[]] w fun e w'=>e= .returned (.bool (longB ss))∧w=w':=by
 have H:=Lib.hid h; clear h
 have HS:=Lib.hid hs; clear hs
 go_enter Tryz.func234,Tryz.ntmps234
 go_wp2_with (go_at_call 250; refine (index_any _ _ _ _ H.out HS.out).mono ?_; rintro e w1 ⟨r,rfl,hr,rfl⟩; have Hr:=Lib.hid hr; clear hr)
 go_ret
 refine ⟨ret_bool ?_,rfl⟩
 rw [Bool.eq_iff_iff,← Hr.out,decide_eq_true_iff]
def rightB (k l:Int) (ss:List ByteArray):Bool:=
 decide (0≤k)&&(decide (k≤2)&&(decide (0≤l)&&(decide (l≤2147483647)&&(decide (ss.length≤24)&&(!longB ss&&decide (sizeL ss≤512))))))
def Ret1 (v:Value) (w:World) (e:Ending) (w':World):Prop:=e= .returned v∧Ext w w'
theorem Ret1.bool {a b:Bool} {w w1:World} (h:a=b) (hx:Ext w w1):Ret1 (.bool b) w (.returned (.bool a)) w1:=⟨by rw [h],hx⟩
theorem Ret1.int {k:IntKind} {a b:Int} {w w1:World} (h:a=b) (hx:Ext w w1):Ret1 (.int k b) w (.returned (.int k a)) w1:=⟨by rw [h],hx⟩
theorem right_any (k l:Int) (A:Option Addr) (c:Nat) (ss:List ByteArray) (w:World) (h:At w A (ss.map Value.string)) (hs:Small ss):
  Calls Tryz.prog 184 #[.agg #[.int .i64 k, .int .i64 l, .slice A ss.length c]] w (Ret1 (.bool (rightB k l ss)) w):=by
 have H:=Lib.hid h; clear h
 have hl:=hs.1
 have HS:=Lib.hid hs; clear hs
 have X0:=Lib.hid ((Ext.refl w).alloc (.cells #[.int .i64 k, .int .i64 l, .slice A ss.length c] 64))
 by_cases h1:0≤k
 ·by_cases h2:k≤2
  ·by_cases h3:0≤l
   ·by_cases h4:l≤2147483647
    ·by_cases h5:ss.length≤24
     ·have h5':(ss.length:Int)≤24:=by omega
      rcases hb:longB ss with _ | _
      ·have H6:=Lib.hid hb; clear hb
       by_cases h7:sizeL ss≤512
       all_goals
        go_enter Tryz.func184,Tryz.ntmps184
        go_wp2_with (first
         | (go_at_call 234; refine (contains_any _ _ _ _ (H.out.ext X0.out) HS.out).mono ?_; rw [H6.out]; rintro e w1 ⟨rfl,rfl⟩)
         | (go_at_call 197; refine (size_any _ _ _ _ (H.out.ext X0.out) HS.out).mono ?_; rintro e w1 ⟨rfl,hx⟩; have X1:=Lib.hid (X0.out.trans hx); clear hx))
        go_ret
        exact Ret1.bool (by simp [rightB,h1,h2,h3,h4,h5,H6.out]; omega) X1.out
      ·have H6:=Lib.hid hb; clear hb
       go_enter Tryz.func184,Tryz.ntmps184
       go_wp2_with (go_at_call 234; refine (contains_any _ _ _ _ (H.out.ext X0.out) HS.out).mono ?_; rw [H6.out]; rintro e w1 ⟨rfl,rfl⟩)
       go_ret
       exact Ret1.bool (by simp [rightB,H6.out]) X0.out
     ·have h5':¬ (ss.length:Int)≤24:=by omega
      go_enter Tryz.func184,Tryz.ntmps184
      go_wp2
      go_ret
      exact Ret1.bool (by simp [rightB,h5]) X0.out
    ·go_enter Tryz.func184,Tryz.ntmps184
     go_wp2
     go_ret
     exact Ret1.bool (by simp [rightB]; intros; omega) X0.out
   ·go_enter Tryz.func184,Tryz.ntmps184
    go_wp2
    go_ret
    exact Ret1.bool (by simp [rightB]; intros; omega) X0.out
  ·go_enter Tryz.func184,Tryz.ntmps184
   go_wp2
   go_ret
   exact Ret1.bool (by simp [rightB]; intros; omega) X0.out
 ·go_enter Tryz.func184,Tryz.ntmps184
  go_wp2
  go_ret
  exact Ret1.bool (by simp [rightB]; intros; omega) X0.out
end
section
open Go.RowKit
def sizeF (n:Int):Int:=max 0 (min n 8)
theorem osize_any (n:Int) (w:World):Calls Tryz.prog 199 #[.int .i64 n] w fun e w'=>e= .returned (.int .i64 (sizeF n))∧w=w':=by
 go_enter Tryz.func199,Tryz.ntmps199
 go_wp2
 all_goals
  go_ret
  exact ⟨ret_int (by unfold sizeF; omega),rfl⟩
/-- the eight bytes of a word, big endian -/
def oct8 (n:Int):List Int:=[IntKind.u64.wrap n / 72057594037927936 % 256,IntKind.u64.wrap n / 281474976710656 % 256,IntKind.u64.wrap n / 1099511627776 % 256,IntKind.u64.wrap n / 4294967296 % 256,
 IntKind.u64.wrap n / 16777216 % 256,IntKind.u64.wrap n / 65536 % 256,IntKind.u64.wrap n / 256 % 256,IntKind.u64.wrap n % 256]
def putS (n:Int) (k:Nat):ByteArray:=strOfNums ((oct8 n).drop (8 - k))
theorem putS_size (n:Int) (k:Nat) (hk:k≤8):(putS n k).size=k:=by
 rw [putS,strOfNums_size,List.length_drop]
 show 8 - (8 - k)=k
 omega
theorem run_cv_oct (n:Int) (k:Nat) (hk:k≤8) (m:Nat) (hm:m+k=8) (W:World) (B:Nat) (hB:B=W.heap.size) (w:World) (t:TypeId) (hw:w=W.alloc (.cells ((oct8 n).map (Value.int .u8)).toArray t)):
  (convert 173 9 (.slice (some ⟨B,m,none⟩) k k)).run Tryz.prog w= .ok (.string (putS n k)) w:=by
 subst hB
 refine run_convert_bytes_arg _ 173 5 Tryz.underlying173 Tryz.underlying5 W.heap.size m k k ((oct8 n).drop (8 - k)) (by rw [List.length_drop]; show 8 - (8 - k)=k; omega) (fun i hi=>?_) 9 Tryz.underlying9
 rw [hw,World.cell?_alloc_at _ _ _ _ rfl]
 have hl:(oct8 n).length=8:=rfl
 have hlt:m+i < (oct8 n).length:=by omega
 rw [List.getElem?_toArray,List.getElem?_map,List.getElem?_eq_getElem hlt]
 have e:8 - k=m:=by omega
 rw [e,List.getD_eq_getElem?_getD,List.getElem?_drop,List.getElem?_eq_getElem hlt]
 rfl
theorem oput1_any (n:Int) (w:World):Calls Tryz.prog 149 #[.int .i64 n, .int .i64 1] w (Ret1 (.string (putS n 1)) w):=by
 have hcv:=run_cv_oct n 1 (by omega) 7 rfl w w.heap.size rfl _ 315 rfl
 simp only [oct8,List.map_cons,List.map_nil] at hcv
 have hs:sizeF 1=1:=by decide
 go_enter Tryz.func149,Tryz.ntmps149
 go_wp2_with fail
 refine wp_loop_rounds 9 ?_
 rw [rounds_succ]; go_wp2_with fail
 rw [rounds_succ]; go_wp2_with fail
 rw [rounds_succ]; go_wp2_with fail
 rw [rounds_succ]; go_wp2_with fail
 rw [rounds_succ]; go_wp2_with fail
 rw [rounds_succ]; go_wp2_with fail
 rw [rounds_succ]; go_wp2_with fail
 rw [rounds_succ]; go_wp2_with fail
 rw [rounds_succ]; go_wp2_with fail
 refine (osize_any _ _).mono ?_
 rw [hs]
 rintro e w1 ⟨rfl,rfl⟩
 clear hs
 go_wp2
 go_ret
 exact ⟨rfl,(Ext.refl w).alloc _⟩
theorem oput2_any (n:Int) (w:World):Calls Tryz.prog 149 #[.int .i64 n, .int .i64 2] w (Ret1 (.string (putS n 2)) w):=by
 have hcv:=run_cv_oct n 2 (by omega) 6 rfl w w.heap.size rfl _ 315 rfl
 simp only [oct8,List.map_cons,List.map_nil] at hcv
 have hs:sizeF 2=2:=by decide
 go_enter Tryz.func149,Tryz.ntmps149
 go_wp2_with fail
 refine wp_loop_rounds 9 ?_
 rw [rounds_succ]; go_wp2_with fail
 rw [rounds_succ]; go_wp2_with fail
 rw [rounds_succ]; go_wp2_with fail
 rw [rounds_succ]; go_wp2_with fail
 rw [rounds_succ]; go_wp2_with fail
 rw [rounds_succ]; go_wp2_with fail
 rw [rounds_succ]; go_wp2_with fail
 rw [rounds_succ]; go_wp2_with fail
 rw [rounds_succ]; go_wp2_with fail
 refine (osize_any _ _).mono ?_
 rw [hs]
 rintro e w1 ⟨rfl,rfl⟩
 clear hs
 go_wp2
 go_ret
 exact ⟨rfl,(Ext.refl w).alloc _⟩
end
section
open Go.RowKit
/-- a reader: the string, the position, whether a call has failed -/
def Rd (t:TypeId) (w:World) (B:Nat) (s:ByteArray) (p:Nat) (f:Bool):Prop:=Blk w B t #[.string s, .int .i64 p, .bool f]∧p≤s.size∧s.size≤1000000
def RdPost (t:TypeId) (v:Value) (B:Nat) (s:ByteArray) (p:Nat) (f:Bool) (w:World) (e:Ending) (w':World):Prop:=e= .returned v∧Rd t w' B s p f∧Upd [B] w w'
theorem left_any (B:Nat) (s:ByteArray) (p:Nat) (f:Bool) (w:World) (h:Rd 304 w B s p f):
  Calls Tryz.prog 225 #[.pointer (some ⟨B,0,none⟩)] w (Ret1 (.int .i64 (s.size - p:Nat)) w):=by
 obtain ⟨hb,hp,hs⟩:=h
 have c0:w.cell? ⟨B,0,none⟩=some (.string s):=hb.cell 0
 have c1:w.cell? ⟨B,1,none⟩=some (.int .i64 p):=hb.cell 1
 have e1:=Lib.hid (show (s.size:Int) - (p:Int)=((s.size - p:Nat):Int) by omega)
 clear hb
 go_enter Tryz.func225,Tryz.ntmps225
 go_wp2
 go_quiet (fail)
 go_wp2
 go_ret
 exact Ret1.int e1.out ((Ext.refl w).drewN _)
theorem failed_any (B:Nat) (s:ByteArray) (p:Nat) (f:Bool) (w:World) (h:Rd 304 w B s p f):
  Calls Tryz.prog 132 #[.pointer (some ⟨B,0,none⟩)] w fun e w'=>e= .returned (.bool f)∧w=w':=by
 obtain ⟨hb,hp,hs⟩:=h
 have c2:w.cell? ⟨B,2,none⟩=some (.bool f):=hb.cell 2
 clear hb
 go_enter Tryz.func132,Tryz.ntmps132
 go_wp2
 go_ret
 exact ⟨rfl,rfl⟩
theorem take_ok (B:Nat) (s:ByteArray) (p n:Nat) (w:World) (h:Rd 304 w B s p false) (hn:p+n≤s.size):
  Calls Tryz.prog 165 #[.pointer (some ⟨B,0,none⟩), .int .i64 n] w (RdPost 304 (.string (s.extract p (p+n))) B s (p+n) false w):=by
 obtain ⟨hb,hp,hs⟩:=h
 have HB:=Lib.hid hb
 have c0:w.cell? ⟨B,0,none⟩=some (.string s):=hb.cell 0
 have c1:w.cell? ⟨B,1,none⟩=some (.int .i64 p):=hb.cell 1
 have c2:w.cell? ⟨B,2,none⟩=some (.bool false):=hb.cell 2
 clear hb
 go_enter Tryz.func165,Tryz.ntmps165
 go_wp2_with fail
 refine (left_any _ _ _ _ _ ⟨HB.out,hp,hs⟩).mono ?_
 rintro e w1 ⟨rfl,hx⟩
 have HB1:=Lib.hid (HB.out.ext hx)
 have X1:=Lib.hid hx
 clear hx c0 c1 c2
 have c0:w1.cell? ⟨B,0,none⟩=some (.string s):=HB1.out.cell 0
 have c1:w1.cell? ⟨B,1,none⟩=some (.int .i64 p):=HB1.out.cell 1
 have f1:=HB1.out.frozen 1
 have hlt:=HB1.out.lt
 have hn1:(n:Int)≤((s.size - p:Nat):Int):=by omega
 have e1:(0:Int)≤(p:Int)+(n:Int):=by omega
 have e2:(p:Int)+(n:Int)≤(s.size:Int):=by omega
 have e3:(p:Int)≤(p:Int)+(n:Int):=by omega
 go_wp2_with fail
 go_quiet (fail)
 go_wp2
 go_ret
 refine ⟨rfl,⟨?_,hn,hs⟩,((Upd.of_ext X1.out).set (.inl (by simp)) _).drewN _⟩
 rw [show ((p+n:Nat):Int)=(p:Int)+(n:Int) by omega]
 exact (HB1.out.set_ 1 _).drewN _
theorem take_bad (B:Nat) (s:ByteArray) (p:Nat) (f:Bool) (n:Int) (w:World) (h:Rd 304 w B s p f) (hn:f=true∨n < 0∨(s.size:Int) < p+n):
  Calls Tryz.prog 165 #[.pointer (some ⟨B,0,none⟩), .int .i64 n] w (RdPost 304 (.string ByteArray.empty) B s p true w):=by
 obtain ⟨hb,hp,hs⟩:=h
 have HB:=Lib.hid hb
 have c2:w.cell? ⟨B,2,none⟩=some (.bool f):=hb.cell 2
 have f2:=hb.frozen 2
 clear hb
 rcases f with _ | _
 ·by_cases h0:n < 0
  ·go_enter Tryz.func165,Tryz.ntmps165
   go_wp2
   go_ret
   exact ⟨rfl,⟨HB.out.set_ 2 _,hp,hs⟩,(Upd.refl _ _).set (.inl (by simp)) _⟩
  ·have h1:(s.size:Int) < p+n:=by simpa [h0] using hn
   have h0':0≤n:=by omega
   have h2:((s.size - p:Nat):Int) < n:=by omega
   clear hn h1 h0
   go_enter Tryz.func165,Tryz.ntmps165
   go_wp2_with fail
   refine (left_any _ _ _ _ _ ⟨HB.out,hp,hs⟩).mono ?_
   rintro e w1 ⟨rfl,hx⟩
   have HB1:=Lib.hid (HB.out.ext hx)
   have X1:=Lib.hid hx
   clear hx c2 f2
   have c2:w1.cell? ⟨B,2,none⟩=some (.bool false):=HB1.out.cell 2
   have f2:=HB1.out.frozen 2
   go_wp2
   go_ret
   exact ⟨rfl,⟨HB1.out.set_ 2 _,hp,hs⟩,(Upd.of_ext X1.out).set (.inl (by simp)) _⟩
 ·clear hn
  go_enter Tryz.func165,Tryz.ntmps165
  go_wp2
  go_ret
  exact ⟨rfl,⟨HB.out.set_ 2 _,hp,hs⟩,(Upd.refl _ _).set (.inl (by simp)) _⟩
def numL (l:List UInt8):Nat:=l.foldl (fun n c=>n*256+c.toNat) 0
theorem numL_snoc (l:List UInt8) (c:UInt8):numL (l++[c])=numL l*256+c.toNat:=by rw [numL,List.foldl_append]; rfl
theorem numL_lt (l:List UInt8):numL l < 256 ^ l.length:=by
 have h:∀ (l:List UInt8) (n:Nat),l.foldl (fun n c=>n*256+c.toNat) n < (n+1)*256 ^ l.length:=by
  intro l
  induction l with
  | nil=>intro n; simp
  | cons c l ih=>
    intro n
    have h1:=ih (n*256+c.toNat)
    have h2:c.toNat < 256:=UInt8.toNat_lt _
    have h3:(n*256+c.toNat+1)*256 ^ l.length≤((n+1)*256)*256 ^ l.length:=Nat.mul_le_mul_right _ (by omega)
    rw [List.foldl_cons,List.length_cons,Nat.pow_succ,Nat.mul_comm (256 ^ l.length) 256,← Nat.mul_assoc]
    omega
 have:=h l 0
 simpa [numL] using this
def byteVals (s:ByteArray):List Value:=s.data.toList.map fun b=>Value.int .u8 b.toNat
/-- []byte(s) -/
theorem conv_sb (s:ByteArray) (w:World):∃ cap w',(convert 9 173 (.string s)).run Tryz.prog w= .ok (.slice (some ⟨w.heap.size,0,none⟩) s.size cap) w'∧Ext w w'∧At w' (some ⟨w.heap.size,0,none⟩) (byteVals s)∧s.size≤cap:=by
 have hcut:s.size≤grownCap w s.size 0 5:=grownCap_ge w s.size 0 5
 refine ⟨_, _,run_bytes_of_string w 9 173 5 s Tryz.underlying9 Tryz.underlying173 Tryz.underlying5,(Ext.refl w).drew.alloc _,?_,hcut⟩
 intro j u hj
 have hjl:j < s.data.toList.length:=by
  rcases Nat.lt_or_ge j s.data.toList.length with h | h
  ·exact h
  ·rw [byteVals,List.getElem?_eq_none (by simpa using h)] at hj; cases hj
 refine ⟨_,rfl,by simp,?_⟩
 have hh:=heap_alloc_new w.drew (.cells (bytesRow s (grownCap w s.size 0 5)) 5 ((bytesRow s (grownCap w s.size 0 5)).size,(bytesRow s (grownCap w s.size 0 5)).size+1))
 have hh':(w.drew.alloc (.cells (bytesRow s (grownCap w s.size 0 5)) 5 ((bytesRow s (grownCap w s.size 0 5)).size,(bytesRow s (grownCap w s.size 0 5)).size+1))).heap[w.heap.size]? = _:=hh
 rw [Addr.add_lit,Nat.zero_add]
 unfold World.cell?
 rw [hh']
 show (bytesRow s (grownCap w s.size 0 5))[j]? =some u
 rw [bytesRow,Array.getElem?_append_left (by simpa using hjl),← hj,byteVals]
 simp
theorem or_i64 (a b:Nat) (ha:a < 4611686018427387904) (hb:b < 4611686018427387904):bits .or .i64 (a:Int) (b:Int)=((a||| b:Nat):Int):=by
 have e:bits .or .i64 (a:Int) (b:Int)=IntKind.i64.wrap ((BitVec.ofInt 64 (a:Int)||| BitVec.ofInt 64 (b:Int)).toNat:Int):=rfl
 have h1:∀ n:Nat,n < 4611686018427387904→(BitVec.ofInt 64 (n:Int)).toNat=n:=fun n hn=>by
  rw [BitVec.ofInt_natCast,BitVec.toNat_ofNat,Nat.mod_eq_of_lt (by omega)]
 have h2:a||| b < 2 ^ 62:=Nat.or_lt_two_pow (by omega) (by omega)
 rw [e,BitVec.toNat_or,h1 a ha,h1 b hb,IntKind.wrap_i64]
 omega
theorem or_256 (a c:Nat) (hc:c < 256):a*256||| c=a*256+c:=by
 have:=Nat.two_pow_add_eq_or_of_lt (i:=8) (b:=c) (by omega) a
 rw [Nat.mul_comm a 256]
 exact this.symm
def numS (s:ByteArray) (p k:Nat):Nat:=numL (s.extract p (p+k)).data.toList
theorem num_ok (B:Nat) (s:ByteArray) (p k:Nat) (w:World) (h:Rd 304 w B s p false) (hk:k≤4) (hn:p+k≤s.size):
  Calls Tryz.prog 130 #[.pointer (some ⟨B,0,none⟩), .int .i64 k] w (RdPost 304 (.int .i64 (numS s p k)) B s (p+k) false w):=by
 have H:=Lib.hid h; clear h
 have hsk:=Lib.hid (show sizeF k=k by unfold sizeF; omega)
 go_enter Tryz.func130,Tryz.ntmps130
 go_wp2_with fail
 refine (osize_any _ _).mono ?_
 rw [hsk.out]
 rintro e w1 ⟨rfl,rfl⟩
 go_wp2_with fail
 refine (take_ok _ _ _ _ _ H.out hn).mono ?_
 rintro e w1 ⟨rfl,hr,hu⟩
 obtain ⟨t,ht⟩:∃ t,t=s.extract p (p+k):=⟨_,rfl⟩
 rw [← ht]
 have htk:t.size=k:=by rw [ht,ByteArray.size_extract]; omega
 have HT:=Lib.hid (show numS s p k=numL t.data.toList by rw [numS,← ht])
 have HK:=Lib.hid htk
 have HR:=Lib.hid hr
 have HU:=Lib.hid hu
 have hts:(t.size:Int)≤4:=by omega
 clear hr hu ht htk
 obtain ⟨cap,w2,hcv,hx,hAt,hcap⟩:=conv_sb t w1
 have X2:=Lib.hid hx
 have HA:=Lib.hid hAt
 clear hx hAt
 go_wp2
 go_loop [5,14] (fun x v=>∃ j:Nat,v= .int .i64 j∧j≤t.size∧x= .int .i64 (numL (t.data.toList.take j))) (fun _ v=>t.size - (intOf v).toNat)
 case atStart=>exact ⟨0,rfl,Nat.zero_le _,rfl⟩
 case round=>
  obtain ⟨j,rfl,hj,rfl⟩:=hrel
  rcases Nat.lt_or_ge j t.size with hlt | hge
  ·have hb:=numL_lt (t.data.toList.take j)
   have hlen:(t.data.toList.take j).length=j:=by simp; omega
   have h256:256 ^ (t.data.toList.take j).length≤16777216:=by
    rw [hlen]
    exact Nat.le_trans (Nat.pow_le_pow_right (by omega) (show j≤3 by omega)) (by decide)
   have hsn:t.data.toList.take (j+1)=t.data.toList.take j++[t[j]]:=by rw [List.take_succ_eq_append_getElem (by simpa using hlt)]; rfl
   have HN:=Lib.hid (show numL (t.data.toList.take (j+1))=numL (t.data.toList.take j)*256+t[j].toNat by rw [hsn,numL_snoc])
   have hcell:w2.cell? ⟨w1.heap.size,j,none⟩=some (.int .u8 t[j].toNat):=by
    obtain ⟨ad,e, _,hc⟩:=HA.out j _ (by rw [byteVals,List.getElem?_map,List.getElem?_eq_getElem (by simpa using hlt)]; rfl)
    injection e with e
    subst e
    rwa [Addr.add_lit,Nat.zero_add] at hc
   obtain ⟨a,ha⟩:∃ a,a=numL (t.data.toList.take j):=⟨_,rfl⟩
   obtain ⟨c,hc⟩:∃ c,c=t[j].toNat:=⟨_,rfl⟩
   have hc8:c < 256:=by rw [hc]; exact UInt8.toNat_lt _
   rw [← ha] at hb HN ⊢
   rw [← hc] at HN hcell
   have ha1:(a:Int)≤16777216:=by omega
   have i1:(0:Int)≤(j:Int):=by omega
   have i2:(j:Int) < (t.size:Int):=by omega
   have HO:=Lib.hid (show bits .or .i64 ((a:Int)*256) (c:Int)=((a*256+c:Nat):Int) by
    rw [show ((a:Int)*256)=((a*256:Nat):Int) by omega,or_i64 _ _ (by omega) (by omega),or_256 a c hc8])
   clear hsn hlen h256 hb ha hc
   go_wp2
   go_round
   case rel=>exact ⟨j+1,by go_num,by omega,by rw [HN.out,HO.out]⟩
   case measure=>simp [intOf]; omega
  ·obtain rfl:j=t.size:=by omega
   have e:t.data.toList.take t.size=t.data.toList:=List.take_of_length_le (by simp)
   rw [e]
   clear e
   go_wp2
   go_ret
   refine ⟨?_,⟨HR.out.1.ext X2.out,HR.out.2.1,HR.out.2.2⟩,HU.out.ext X2.out⟩
   rw [HT.out]
   rfl
theorem num_bad (B:Nat) (s:ByteArray) (p k:Nat) (f:Bool) (w:World) (h:Rd 304 w B s p f) (hk:k≤4) (hn:f=true∨s.size < p+k):
  Calls Tryz.prog 130 #[.pointer (some ⟨B,0,none⟩), .int .i64 k] w (RdPost 304 (.int .i64 0) B s p true w):=by
 have H:=Lib.hid h; clear h
 have hsk:=Lib.hid (show sizeF k=k by unfold sizeF; omega)
 have HN:=Lib.hid (show f=true∨((k:Nat):Int) < 0∨(s.size:Int) < p+(k:Nat) by
  rcases hn with h | h
  ·exact .inl h
  ·exact .inr (.inr (by omega)))
 clear hn
 go_enter Tryz.func130,Tryz.ntmps130
 go_wp2_with fail
 refine (osize_any _ _).mono ?_
 rw [hsk.out]
 rintro e w1 ⟨rfl,rfl⟩
 go_wp2_with fail
 refine (take_bad _ _ _ _ _ _ H.out HN.out).mono ?_
 rintro e w1 ⟨rfl,hr,hu⟩
 obtain ⟨cap,w2,hcv,hx,hAt,hcap⟩:=conv_sb ByteArray.empty w1
 have HR:=Lib.hid hr
 have HU:=Lib.hid hu
 have X2:=Lib.hid hx
 have hz:(ByteArray.empty).size=0:=rfl
 clear hr hu hx hAt hcap
 go_wp2
 go_loop [5,14] (fun x v=>x= .int .i64 0∧v= .int .i64 0) (fun _ _=>0)
 case atStart=>exact ⟨rfl,rfl⟩
 case round=>
  obtain ⟨rfl,rfl⟩:=hrel
  go_wp2
  go_ret
  exact ⟨rfl,⟨HR.out.1.ext X2.out,HR.out.2.1,HR.out.2.2⟩,HU.out.ext X2.out⟩
def textS (s:ByteArray) (p:Nat):ByteArray:=s.extract (p+2) (p+2+numS s p 2)
theorem Rd.cells {t:TypeId} {w:World} {B:Nat} {s:ByteArray} {p:Nat} {f:Bool} (h:Rd t w B s p f):
  w.cell? ⟨B,0,none⟩=some (.string s)∧w.cell? ⟨B,1,none⟩=some (.int .i64 p)∧w.cell? ⟨B,2,none⟩=some (.bool f)∧w.frozen? ⟨B,1,none⟩=false∧w.frozen? ⟨B,2,none⟩=false:=
 ⟨h.1.cell 0,h.1.cell 1,h.1.cell 2,h.1.frozen 1,h.1.frozen 2⟩
theorem text_ok (B:Nat) (s:ByteArray) (p:Nat) (w:World) (h:Rd 304 w B s p false) (h2:p+2≤s.size) (hn:p+2+numS s p 2≤s.size):
  Calls Tryz.prog 131 #[.pointer (some ⟨B,0,none⟩)] w (RdPost 304 (.string (textS s p)) B s (p+2+numS s p 2) false w):=by
 have H:=Lib.hid h
 obtain ⟨c0,c1,c2, _, _⟩:=h.cells
 clear h
 go_enter Tryz.func131,Tryz.ntmps131
 go_wp2_with fail
 refine (num_ok _ _ _ 2 _ H.out (by omega) h2).mono ?_
 rintro e w1 ⟨rfl,hr,hu⟩
 have HR1:=Lib.hid hr
 have HU1:=Lib.hid hu
 clear hr hu c0 c1 c2
 go_wp2_with fail
 refine (take_ok _ _ _ _ _ HR1.out hn).mono ?_
 rintro e w2 ⟨rfl,hr,hu⟩
 have HR2:=Lib.hid hr
 have HU2:=Lib.hid (HU1.out.trans hu)
 obtain ⟨c0,c1,c2, _, _⟩:=hr.cells
 clear hr hu
 have HT:=Lib.hid (show textS s p=s.extract (p+2) (p+2+numS s p 2) from rfl)
 obtain ⟨x,hx⟩:∃ x,x=s.extract (p+2) (p+2+numS s p 2):=⟨_,rfl⟩
 rw [← hx] at HT ⊢
 clear hx
 go_wp2
 go_ret
 exact ⟨by rw [HT.out]; rfl,HR2.out,HU2.out⟩
theorem text_bad (B:Nat) (s:ByteArray) (p:Nat) (f:Bool) (w:World) (h:Rd 304 w B s p f) (hn:f=true∨s.size < p+2∨s.size < p+2+numS s p 2):
  Calls Tryz.prog 131 #[.pointer (some ⟨B,0,none⟩)] w (RdPost 304 (.string ByteArray.empty) B s p true w):=by
 have H:=Lib.hid h
 obtain ⟨c0,c1,c2, _, _⟩:=h.cells
 have hps:=h.2
 clear h
 by_cases h1:f=true∨s.size < p+2
 ·have HN:=Lib.hid h1
  clear hn h1
  go_enter Tryz.func131,Tryz.ntmps131
  go_wp2_with fail
  refine (num_bad _ _ _ 2 _ _ H.out (by omega) HN.out).mono ?_
  rintro e w1 ⟨rfl,hr,hu⟩
  have HR1:=Lib.hid hr
  have HU1:=Lib.hid hu
  clear hr hu c0 c1 c2
  go_wp2_with fail
  refine (take_bad _ _ _ _ _ _ HR1.out (.inl rfl)).mono ?_
  rintro e w2 ⟨rfl,hr,hu⟩
  have HR2:=Lib.hid hr
  have HU2:=Lib.hid (HU1.out.trans hu)
  obtain ⟨c0,c1,c2,z1, _⟩:=hr.cells
  clear hr hu
  go_wp2
  go_ret
  exact ⟨rfl,⟨HR2.out.1.set_ 1 _,hps⟩,HU2.out.set (.inl (by simp)) _⟩
 ·have hf:f=false:=by
   cases f with
   | true=>exact absurd (.inl rfl) h1
   | false=>rfl
  subst hf
  have h2:p+2≤s.size:=by omega
  have h3:s.size < p+2+numS s p 2:=by
   rcases hn with h | h | h
   ·cases h
   ·omega
   ·exact h
  clear hn h1
  go_enter Tryz.func131,Tryz.ntmps131
  go_wp2_with fail
  refine (num_ok _ _ _ 2 _ H.out (by omega) h2).mono ?_
  rintro e w1 ⟨rfl,hr,hu⟩
  have HR1:=Lib.hid hr
  have HU1:=Lib.hid hu
  clear hr hu c0 c1 c2
  go_wp2_with fail
  refine (take_bad _ _ _ _ _ _ HR1.out (.inr (.inr (by omega)))).mono ?_
  rintro e w2 ⟨rfl,hr,hu⟩
  have HR2:=Lib.hid hr
  have HU2:=Lib.hid (HU1.out.trans hu)
  obtain ⟨c0,c1,c2,z1, _⟩:=hr.cells
  clear hr hu
  go_wp2
  go_ret
  exact ⟨rfl,⟨HR2.out.1.set_ 1 _,hps⟩,HU2.out.set (.inl (by simp)) _⟩
end
section
open Go.RowKit
def bl (s:ByteArray):List UInt8:=s.data.toList
def baOf (l:List UInt8):ByteArray:=⟨l.toArray⟩
theorem bl_len (s:ByteArray):(bl s).length=s.size:=by simp [bl]
theorem baOf_bl (s:ByteArray):baOf (bl s)=s:=by simp [bl,baOf]
theorem bl_baOf (l:List UInt8):bl (baOf l)=l:=by simp [bl,baOf]
theorem bl_append (a b:ByteArray):bl (a++b)=bl a++bl b:=by simp [bl,ByteArray.data_append]
theorem bl_inj {a b:ByteArray} (h:bl a=bl b):a=b:=by rw [← baOf_bl a,← baOf_bl b,h]
theorem bl_extract (s:ByteArray) (p q:Nat):bl (s.extract p q)=((bl s).drop p).take (q - p):=by
 simp [bl,ByteArray.data_extract]
theorem drop_take_mid {α:Type} (a b c:List α) (p k:Nat) (hp:a.length=p) (hk:b.length=k):((a++(b++c)).drop p).take k=b:=by
 subst hp hk
 simp
theorem extr_at {s:ByteArray} {a b c:List UInt8} (hs:bl s=a++(b++c)) {p q:Nat} (hp:a.length=p) (hq:p+b.length=q):s.extract p q=baOf b:=by
 apply bl_inj
 rw [bl_extract,bl_baOf,hs,drop_take_mid a b c p (q - p) hp (by omega)]
theorem numS_at {s:ByteArray} {a b c:List UInt8} (hs:bl s=a++(b++c)) {p k:Nat} (hp:a.length=p) (hk:b.length=k):numS s p k=numL b:=by
 have h:bl (s.extract p (p+k))=b:=by rw [extr_at hs hp (by rw [hk]),bl_baOf]
 exact congrArg numL h
theorem numL_nums (xs:List Int):numL (bl (strOfNums xs))=xs.foldl (fun (n:Nat) x=>n*256+x.toNat % 256) 0:=by
 show numL ((strOfNums xs).data.toList)= _
 rw [strOfNums_data,numL,List.foldl_map]
 rfl
theorem putS_num1 (n:Int) (h0:0≤n) (h1:n < 256):(numL (bl (putS n 1)):Int)=n:=by
 have hu:IntKind.u64.wrap n=n:=by rw [IntKind.wrap_u64]; omega
 rw [putS,numL_nums,oct8,hu]
 simp only [List.drop_succ_cons,List.drop_zero,List.foldl_cons,List.foldl_nil]
 omega
theorem putS_num2 (n:Int) (h0:0≤n) (h1:n < 65536):(numL (bl (putS n 2)):Int)=n:=by
 have hu:IntKind.u64.wrap n=n:=by rw [IntKind.wrap_u64]; omega
 rw [putS,numL_nums,oct8,hu]
 simp only [List.drop_succ_cons,List.drop_zero,List.foldl_cons,List.foldl_nil]
 omega
end
section
open Go.RowKit
def onF (x:Int):Bool:=decide (3≤x)&&decide (x < 128)
def stepsF (a b:Int):Int:=(b - a+125) % 125
def beforeF (a b:Int):Bool:=if a=2 then onF b else onF a&&onF b&&decide (0 < stepsF a b)&&decide (stepsF a b≤62)
theorem onF_iff {x:Int}:onF x=true↔3≤x∧x < 128:=by simp [onF]
theorem con_any (x:Int) (w:World):
  Calls Tryz.prog 239 #[.int .i64 x] w (Ret (.bool (onF x)) w):=by
 go_enter Tryz.func239,Tryz.ntmps239
 have hst0:=St.start w
 refine wp_seq (sqr (sqp [.k 2 (.bool false)] ?_))
 refine then_normal (wp_seq (sqr (sqp [.m 3 0, .k 4 (.bool (decide (3≤x))), .m 5 4] ?_)))
 refine sqw 5 [6,7] rfl (fun _=>sqp [.m 6 0, .k 7 (.bool (decide (x < 128)))] sqe) ?_
 refine sqp [sPa 8 (decide (3≤x)) (decide (x < 128)), .m 2 8] ?_
 refine then_normal (wp_ret ?_)
 refine bpr (.bool ((decide (3≤x))&&(decide (x < 128)))) (results_1 Tryz.results239 rpt) ?_
 exact Ret.bool (by simp [onF, *]) hst0.ext
theorem csteps_any (a b:Int) (w:World) (ha:onF a=true) (hb:onF b=true):
  Calls Tryz.prog 242 #[.int .i64 a, .int .i64 b] w (Ret (.int .i64 (stepsF a b)) w):=by
 have ha2:=onF_iff.1 ha
 have hb2:=onF_iff.1 hb
 clear ha hb
 go_enter Tryz.func242,Tryz.ntmps242
 have hst0:=St.start w
 refine wp_seq (sqr (sqp [.k 4 (vi 0)] ?_))
 refine then_normal (wp_seq (sqr (sqp [.m 5 1, .m 6 0,sI 7 (b - a) (by omega),sI 8 ((b - a)+125) (by omega),sRe 9 .i64 ((b - a)+125) 125 (((b - a)+125) % 125) (Int.tmod_eq_emod_of_nonneg (by omega)), .m 4 9] ?_)))
 refine then_normal (wp_ret ?_)
 refine bpr (vi (((b - a)+125) % 125)) (results_1 Tryz.results242 rpt) ?_
 exact Ret.int rfl hst0.ext
theorem cbefore_any (a b:Int) (w:World):
  Calls Tryz.prog 206 #[.int .i64 a, .int .i64 b] w (Ret (.bool (beforeF a b)) w):=by
 go_enter Tryz.func206,Tryz.ntmps206
 have hst0:=St.start w
 refine wp_seq (sqr (sqp [.k 4 (.bool false)] ?_))
 refine then_normal (wp_seq (wp_seq (sqr (sqp [.m 6 0, .k 7 (.bool (a==2)), .m 8 7] ?_))))
 refine sqwW 8 [9,10,11] ?_ hst0 rfl (fun hq=>?_) fun W8 hst8=>?_
 rotate_left
 ·refine sqp [.m 9 0] ?_
  refine sqk (.bool (onF a)) hst0 (fun cx=>⟨_,con_any a _,(map1 (cx.ou 9))⟩) fun W6 hst6=>?_
  refine sqp [.k 11 (.bool (!(onF a)))] ?_
  exact sqE hst6
 refine sqwx ?_
 refine sqp [sPo 12 (a==2) (!(onF a)), .m 13 12] ?_
 refine sqwW 13 [14,15,16] ?_ hst8 rfl (fun hq=>?_) fun W14 hst14=>?_
 rotate_left
 ·refine sqp [.m 14 1] ?_
  refine sqk (.bool (onF b)) hst8 (fun cx=>⟨_,con_any b _,(map1 (cx.ou 14))⟩) fun W12 hst12=>?_
  refine sqp [.k 16 (.bool (!(onF b)))] ?_
  exact sqE hst12
 refine sqwx ?_
 refine sqp [sPo 17 ((a==2)||(!(onF a))) (!(onF b))] ?_
 refine then_normal (wbs (fun hs16=>?_) fun hs16=>?_)
 ·have hs16p:=hs16
  simp only [zB] at hs16p
  refine wp_seq (sqr (sqp [.m 18 0, .k 19 (.bool (a==2)), .m 20 19] ?_))
  refine sqwW 20 [21,22] ?_ hst14 rfl (fun hq=>?_) fun W22 hst22=>?_
  rotate_left
  ·refine sqp [.m 21 1] ?_
   refine sqk (.bool (onF b)) hst14 (fun cx=>⟨_,con_any b _,(map1 (cx.ou 21))⟩) fun W21 hst21=>?_
   exact sqE hst21
  refine sqwx ?_
  refine sqp [sPa 23 (a==2) (onF b), .m 4 23] ?_
  refine then_normal (wp_ret (then_ret ?_))
  refine bpr (.bool ((a==2)&&(onF b))) (results_1 Tryz.results206 rpt) ?_
  exact Ret.bool (by by_cases h2:a=2<;>cases h3:onF a<;>cases h4:onF b<;>first | (simp_all [beforeF]; done) | (simp_all [beforeF]; omega)) hst22.ext
 have hs16p:=hs16
 simp only [zB] at hs16p
 obtain ⟨⟨hs16p1,hs16p2⟩,hs16p3⟩:=hs16p
 refine wp_skip (then_normal (wp_seq (sqr (sqp [.m 24 0, .m 25 1] ?_))))
 refine sqk (vi (stepsF a b)) hst14 (fun cx=>⟨_,csteps_any a b _ (by assumption) (by assumption),(map2 (cx.ou 24) (cx.ou 25))⟩) fun W27 hst27=>?_
 refine sqp [.m 5 26] ?_
 refine then_normal (wp_seq (sqr (sqp [.m 27 5, .k 28 (.bool (decide (0 < stepsF a b))), .m 29 28] ?_)))
 refine sqw 29 [30,31] rfl (fun _=>sqp [.m 30 5, .k 31 (.bool (decide (stepsF a b≤62)))] sqe) ?_
 refine sqp [sPa 32 (decide (0 < stepsF a b)) (decide (stepsF a b≤62)), .m 4 32] ?_
 refine then_normal (wp_ret ?_)
 refine bpr (.bool ((decide (0 < stepsF a b))&&(decide (stepsF a b≤62)))) (results_1 Tryz.results206 rpt) ?_
 exact Ret.bool (by by_cases h2:a=2<;>cases h3:onF a<;>cases h4:onF b<;>first | (simp_all [beforeF]; done) | (simp_all [beforeF]; omega)) hst27.ext
end
section
open Go.RowKit
theorem Tryz.infoInt:(Tryz.prog.info? 3).map (fun i=>(i.zero,i.size,i.bytes))=some (some (.int .i64 0),1,8):=by kernel_rfl
theorem Tryz.infoVal:(Tryz.prog.info? 45).map (fun i=>(i.zero,i.size,i.bytes))=some (some (.agg #[.int .i64 0, .int .i64 0, .string ByteArray.empty]),3,32):=by kernel_rfl
def turnF (x by':Int):Int:=if onF x then 3+(x - 3+by') % 125 else x
theorem turnF_on {x k:Int} (h:onF x=true) (hk:0≤k):turnF x k=3+(x - 3+k) % 125:=by rw [turnF,if_pos h]
theorem turnF_0 {x:Int} (h:onF x=true):turnF x 0=x:=by rw [turnF_on h (Int.le_refl 0)]; have:=onF_iff.1 h; omega
def nextF (x:Int):Int:=if !onF x||x==127 then 3 else x+1
theorem nextF_turn {x k:Int} (h:onF x=true) (hk:0≤k):nextF (turnF x k)=turnF x (k+1):=by
 have h2:=onF_iff.1 h
 rw [turnF_on h hk,turnF_on h (by omega)]
 have h3:onF (3+(x - 3+k) % 125)=true:=onF_iff.2 (by omega)
 unfold nextF
 rw [h3]
 simp only [Bool.not_true,Bool.false_or,beq_iff_eq]
 split<;>omega
def oneS (n:Int):ByteArray:=strOfNums [n % 256]
theorem oneS_size (n:Int):(oneS n).size=1:=by rw [oneS,strOfNums_size]; rfl
def digA:Nat→Int→ByteArray→ByteArray
 | 0, _,s=>s
 | f+1,m,s=>if m=0 then s else digA f (m / 10) (oneS (48+m % 10)++s)
def digG (first:Bool) (f:Nat) (m:Int) (s:ByteArray):ByteArray:=if first then digA f (m / 10) (oneS (48+m % 10)++s) else digA f m s
def digF (n:Int):ByteArray:=digG true 5 n ⟨#[]⟩
theorem digG_true (f:Nat) (m:Int) (s:ByteArray):digG true f m s=digG false f (m / 10) (oneS (48+m % 10)++s):=rfl
theorem digG_false (f:Nat) (m:Int) (s:ByteArray) (h:m≠0):digG false (f+1) m s=digG false f (m / 10) (oneS (48+m % 10)++s):=by
 show digA (f+1) m s= _
 rw [digA,if_neg h]; rfl
theorem digG_end (f:Nat) (s:ByteArray):digG false f 0 s=s:=by
 show digA f 0 s=s
 cases f<;>simp [digA]
theorem int_one {k:IntKind} (l:List Int):∀ u∈l.map (Value.int k),u.oneCell'=true:=by
 intro u hu
 obtain ⟨s, _,rfl⟩:=List.mem_map.1 hu
 rfl
abbrev Val:=Int×Int×ByteArray
def cellsV (v:Val):List Value:=[.int .i64 v.1, .int .i64 v.2.1, .string v.2.2]
def flatR (rs:List Val):List Value:=rs.flatMap cellsV
theorem flatR_snoc (rs:List Val) (v:Val):flatR (rs++[v])=flatR rs++cellsV v:=by simp [flatR]
def valF (x:Int):Val:=if x % 5=0 then (0,0,ByteArray.empty) else if x % 5=1 then (2,0,(⟨#[97,98,99]⟩:ByteArray).extract 0 (x / 5 % 4).toNat) else if x % 5=2 then (2,0,digF (x / 5)) else (1,x / 5 % 9 - 2,ByteArray.empty)
def madeR (k:Nat) (l:List Int):List Val:=(List.range k).map fun i=>valF (l.getD i 0 % 65536)
theorem madeR_succ (k:Nat) (l:List Int):madeR (k+1) l=madeR k l++[valF (l.getD k 0 % 65536)]:=by simp [madeR,List.range_succ]
theorem madeR_len (k:Nat) (l:List Int):(madeR k l).length=k:=by simp [madeR]
def RowPost (rs:List Val) (w:World) (e:Ending) (w':World):Prop:=∃ A c,e= .returned (.slice A rs.length c)∧w'.ownsRow w.heap.size 45 3 (.slice A rs.length c) rs.length (flatR rs)∧Ext w w'
theorem ron_any (x:Int) (w:World):
  Calls Tryz.prog 208 #[.int .i64 x] w (Ret (.bool (onF x)) w):=by
 go_enter Tryz.func208,Tryz.ntmps208
 have hst0:=St.start w
 refine wp_seq (sqr (sqp [.k 2 (.bool false)] ?_))
 refine then_normal (wp_seq (sqr (sqp [.m 3 0, .k 4 (.bool (decide (3≤x))), .m 5 4] ?_)))
 refine sqw 5 [6,7] rfl (fun _=>sqp [.m 6 0, .k 7 (.bool (decide (x≤127)))] sqe) ?_
 refine sqp [sPa 8 (decide (3≤x)) (decide (x≤127)), .m 2 8] ?_
 refine then_normal (wp_ret ?_)
 refine bpr (.bool ((decide (3≤x))&&(decide (x≤127)))) (results_1 Tryz.results208 rpt) ?_
 exact Ret.bool (Bool.eq_iff_iff.2 (by simp [onF]; omega)) hst0.ext
theorem rnext_any (x:Int) (w:World):
  Calls Tryz.prog 256 #[.int .i64 x] w (Ret (.int .i64 (nextF x)) w):=by
 go_enter Tryz.func256,Tryz.ntmps256
 have hst0:=St.start w
 refine wp_seq (sqr (sqp [.k 2 (vi 0)] ?_))
 refine then_normal (wp_seq (sqr (sqp [.m 4 0] ?_)))
 refine sqk (.bool (onF x)) hst0 (fun cx=>⟨_,ron_any x _,(map1 (cx.ou 4))⟩) fun W3 hst3=>?_
 refine sqp [.m 3 5] ?_
 refine then_normal (wp_seq (wp_seq (sqr (sqp [.m 6 3, .k 7 (.bool (!(onF x))), .m 8 7] ?_))))
 refine sqw 8 [9,10] rfl (fun _=>sqp [.m 9 0, .k 10 (.bool (x==127))] sqe) ?_
 refine sqp [sPo 11 (!(onF x)) (x==127)] ?_
 refine then_normal (wbs (fun hs11=>?_) fun hs11=>?_)
 ·have hs11p:=hs11
  simp only [zB] at hs11p
  refine wp_seq (sqr (sqp [.k 2 (vi 3)] ?_))
  refine then_normal (wp_ret (then_ret ?_))
  refine bpr (vi 3) (results_1 Tryz.results256 rpt) ?_
  exact Ret.int (by simp_all [nextF]) hst3.ext
 have hs11p:=hs11
 simp only [zB] at hs11p
 obtain ⟨hs11p1,hs11p2⟩:=hs11p
 refine wp_skip (then_normal (wp_seq ?_))
 have hon:=onF_iff.1 (by assumption)
 refine sqr (sqp [.m 12 0,sI 13 (x+1) (by omega), .m 2 13] ?_)
 refine then_normal (wp_ret ?_)
 refine bpr (vi (x+1)) (results_1 Tryz.results256 rpt) ?_
 exact Ret.int (by simp_all [nextF]) hst3.ext
theorem one_any (n:Int) (w:World):
  Calls Tryz.prog 146 #[.int .i64 n] w (Ret (.string (oneS n)) w):=by
 go_enter Tryz.func146,Tryz.ntmps146
 have hst0:=St.start w
 refine wp_seq (sqr (sqp [.k 2 (.string ⟨#[]⟩)] ?_))
 refine then_normal (wp_seq (sqr (sqp [.m 3 0,sW 4 .u8 n (n % 256) (IntKind.wrap_u8 _)] ?_)))
 refine sqn1 (fun x_=>sA x_) (fun A5_4=> .slice A5_4 1 1) (fun A5_4=>eO 5 1 (.slice A5_4 1 1) 1 ([.int .u8 (n % 256)])) hst0 (by
   refine svA fun ρ β W X cx=>?_
   have fF4:ρ (.tmp 4)= .int .u8 (n % 256):=(cx.ou 4)
   exact dv_lit (e:=5) (xs:=[.int .u8 (n % 256)]) rfl (by simp [go_sem,fF4]) rfl (by decide) rfl rfl (fun σ β' X' hs hb hv hx=>⟨hv,hx⟩)) fun A5_4 W4 hst4=>?_
 refine sql (.string (strOfNums ([(n % 256)]))) hst4 (fun cx=>run_convB (e:=5) rfl (by kernel_rfl) (by kernel_rfl) (by kernel_rfl) (cx.ou 5) (cx.ri 0 rfl)) ?_
 refine sqp [.m 2 6] ?_
 refine then_normal (wp_ret ?_)
 refine bpr (.string (strOfNums ([(n % 256)]))) (results_1 Tryz.results146 rpt) ?_
 exact Ret.of rfl hst4.ext
theorem digbound {m:Int} {f:Nat} (hm:0 < m) (hf:1≤f) (h:m < 10 ^ f):m / 10 < 10 ^ (f - 1):=by
 obtain ⟨g,rfl⟩:∃ g,f=g+1:=⟨f - 1,by omega⟩
 rw [Nat.add_sub_cancel]
 rw [Int.pow_succ] at h
 omega
theorem digfirst {m:Int} {f:Nat} (h:m < 100000) (hf:f=5):m / 10 < 10 ^ f:=by
 subst hf
 have h6:(10:Int) ^ 5=100000:=by decide
 omega
theorem digsmall {m:Int} {f:Nat} (h:m < 10 ^ f) (hf:f≤5):m < 100000:=by
 have h2:(10:Int) ^ f≤10 ^ 5:=by
  have:(10:Nat) ^ f≤10 ^ 5:=Nat.pow_le_pow_right (by omega) hf
  exact_mod_cast this
 have h3:(10:Int) ^ 5=100000:=by decide
 omega
theorem dig_any (n:Int) (w:World) (hn:0≤n∧n < 100000):
  Calls Tryz.prog 81 #[.int .i64 n] w (Ret (.string (digF n)) w):=by
 go_enter Tryz.func81,Tryz.ntmps81
 have hst0:=St.start w
 refine wp_seq (sqr (sqp [.k 2 (.string ⟨#[]⟩)] ?_))
 refine then_normal (wp_seq (sqr (sqp [.k 3 (.string ⟨#[]⟩)] ?_)))
 refine then_normal (wp_seq (sqr (sqp [.m 7 0, .m 4 7] ?_)))
 refine then_normal (wp_seq (wp_seq (sqr (sqp [.k 5 (.bool true)] ?_))))
 refine then_normal (wp_block ?_)
 refine wp_loopT (fun t_ mz az W=>∃ f:Nat,∃ m:Int,∃ s:ByteArray,∃ fs:Bool,digF n=digG fs f m s∧0≤m∧(fs=false→m < 10 ^ f)∧(fs=true→m < 100000∧f=5)∧s.size+f+fs.toNat≤30∧f≤5∧mz=2*f+fs.toNat∧az=⟨(ovr (jv az) [(3,3,0,[.string s,vi m, .bool fs]),(0,6,1,[]),(1,8,18,[])] t_).toArray,[]⟩∧St w [] [] W) (2*5+true.toNat) ?_ ?_
 · -- the loop begins
   exact ⟨5,n,⟨#[]⟩,true,rfl,hn.1,fun h=>(by cases h),fun _=>⟨by omega,rfl⟩,by show 0+5+1≤30; omega,Nat.le_refl 5,rfl,(by kernel_rfl),hst0.pk []⟩
 rintro n6 a6 W6 ⟨f,m,s,fs,hG,hm,hff,hft,hsz,hf5,rfl,hj_,hst6⟩
 refine ovz hj_ fun u6_=>?_
 refine wp_seq (wp_seq ?_)
 rcases Bool.eq_false_or_eq_true (fs) with hs7 | hs7
 ·refine sqr ?_
  refine sql (.bool true) hst6 (fun cx=>run_move' rfl (Eq.trans (cx.ou 5) (congrArg Value.bool hs7))) ?_
  refine sqp [.k 9 (.bool true)] ?_
  refine sqgn 9 [10,11] rfl rfl ?_
  refine sqp [.k 12 (.bool true)] ?_
  refine then_normal (wct rfl (wp_skip (then_normal (wp_seq (wp_block (wp_seq ?_))))))
  have hs1:=oneS_size (48+m % 10)
  have hr:0≤m % 10∧m % 10 < 10:=by omega
  have hml:m < 100000:=by
   cases fs
   ·have h3:=hff rfl; exact digsmall h3 hf5
   ·exact (hft rfl).1
  have hs0:fs=true:=by assumption
  refine sqr (sqp [.m 13 4,sRe 14 .i64 m 10 (m % 10) (Int.tmod_eq_emod_of_nonneg (by omega)), .m 6 14] ?_)
  refine then_normal (wp_seq (wp_seq (sqr ?_)))
  have hd16:(decide (m % 10 < 0))=false:=decide_eq_false (by omega)
  refine sqp [.m 15 6, .e 16 (.bool (decide (m % 10 < 0))) (.bool false) (congrArg Value.bool hd16)] ?_
  refine then_normal (wcf rfl (wp_skip (then_normal (wp_seq (sqr (sqp [.m 19 6,sI 20 (48+(m % 10)) (by omega)] ?_))))))
  refine sqk (.string (oneS (48+(m % 10)))) hst6 (fun cx=>⟨_,one_any (48+(m % 10)) _,(map1 (cx.ou 20))⟩) fun W19 hst19=>?_
  refine sqp [.m 22 3,sS 23 (oneS (48+(m % 10))) s (by omega), .m 3 23] ?_
  refine then_normal (sqr (sqp [.m 24 4,sQu 25 .i64 m 10 (m / 10) (by rw [Int.tdiv_eq_ediv_of_nonneg (by omega)]; exact IntWalk.i64_in _ (by omega)), .m 4 25] ?_))
  refine blk_normal (then_normal (sqr (sqp [.k 5 (.bool false)] ?_)))
  refine then_normal ?_
  refine ⟨2*f+false.toNat,by rw [hs0]; first | (simp; done) | (simp; omega),?_⟩
  exact ⟨f,(m / 10),(oneS (48+m % 10)++s),false,by rw [hG,hs0,digG_true],by omega,fun _=>digfirst (hft hs0).1 (hft hs0).2,fun h=>(by cases h),by rw [ByteArray.size_append]; rw [hs0] at hsz; simp at hsz ⊢; omega,by omega,rfl,(by kernel_rfl),hst19.pk []⟩
 refine sqr ?_
 refine sql (.bool false) hst6 (fun cx=>run_move' rfl (Eq.trans (cx.ou 5) (congrArg Value.bool hs7))) ?_
 refine sqp [.k 9 (.bool false)] ?_
 refine sqgy 9 [10,11] rfl rfl ?_
 refine sqp [.m 10 4, .k 11 (.bool (m != 0))] ?_
 refine sqp [.k 12 (.bool (m != 0))] ?_
 refine then_normal (wbs (fun hs32=>?_) fun hs32=>?_)
 ·have hs32p:=bne_iff_ne.1 hs32
  refine wp_skip (then_normal (wp_seq (wp_block (wp_seq ?_))))
  have hs1:=oneS_size (48+m % 10)
  have hr:0≤m % 10∧m % 10 < 10:=by omega
  have hml:m < 100000:=by
   cases fs
   ·have h3:=hff rfl; exact digsmall h3 hf5
   ·exact (hft rfl).1
  have hm0:m≠0:=by assumption
  have hm0p:0 < m:=by omega
  have hf1:1≤f:=by
   rcases Nat.lt_or_ge f 1 with h | h
   ·have h3:=hff (by assumption); have:f=0:=by omega
    subst this; simp at h3; omega
   ·exact h
  have hs0:fs=false:=by assumption
  refine sqr (sqp [.m 13 4,sRe 14 .i64 m 10 (m % 10) (Int.tmod_eq_emod_of_nonneg (by omega)), .m 6 14] ?_)
  refine then_normal (wp_seq (wp_seq (sqr ?_)))
  have hd38:(decide (m % 10 < 0))=false:=decide_eq_false (by omega)
  refine sqp [.m 15 6, .e 16 (.bool (decide (m % 10 < 0))) (.bool false) (congrArg Value.bool hd38)] ?_
  refine then_normal (wcf rfl (wp_skip (then_normal (wp_seq (sqr (sqp [.m 19 6,sI 20 (48+(m % 10)) (by omega)] ?_))))))
  refine sqk (.string (oneS (48+(m % 10)))) hst6 (fun cx=>⟨_,one_any (48+(m % 10)) _,(map1 (cx.ou 20))⟩) fun W41 hst41=>?_
  refine sqp [.m 22 3,sS 23 (oneS (48+(m % 10))) s (by omega), .m 3 23] ?_
  refine then_normal (sqr (sqp [.m 24 4,sQu 25 .i64 m 10 (m / 10) (by rw [Int.tdiv_eq_ediv_of_nonneg (by omega)]; exact IntWalk.i64_in _ (by omega)), .m 4 25] ?_))
  refine blk_normal (then_normal (sqr (sqp [.k 5 (.bool false)] ?_)))
  refine then_normal ?_
  refine ⟨2*((f - 1))+false.toNat,by rw [hs0]; first | (simp; done) | (simp; omega),?_⟩
  exact ⟨(f - 1),(m / 10),(oneS (48+m % 10)++s),false,by rw [hG,hs0,← digG_false (f - 1) m s hm0,Nat.sub_add_cancel hf1],by omega,fun _=>digbound hm0p hf1 (hff hs0),fun h=>(by cases h),by rw [ByteArray.size_append]; rw [hs0] at hsz; simp at hsz ⊢; omega,by omega,rfl,(by kernel_rfl),hst41.pk []⟩
 have hs32p:=bne_eq_false_iff_eq.1 hs32
 refine wp_exit (then_exit (then_exit (blk_eq (then_normal (wp_seq (wp_seq (sqr ?_)))))))
 have hd51:(decide (n < 0))=false:=decide_eq_false (by omega)
 refine sqp [.m 26 0, .e 27 (.bool (decide (n < 0))) (.bool false) (congrArg Value.bool hd51)] ?_
 refine then_normal (wcf rfl (wp_skip (then_normal (wp_seq (sqr (sqp [.m 30 3, .m 2 30] ?_))))))
 refine then_normal (wp_ret ?_)
 refine bpr (.string s) (results_1 Tryz.results81 rpt) ?_
 exact Ret.of (by rw [hG,show fs=false by assumption,show m=0 by assumption,digG_end]) hst6.ext
end
section
open Go.RowKit
/-- the interface value .iface tt tv answers g -/
structure StOk (w:World) (tt:TypeId) (tv:Value) (g:Int→Int):Prop where
 ex:∃ f rv,Meth Tryz.prog tt tv "State" f rv∧callP Tryz.prog f=true∧∀ W x,Ext w W→Calls Tryz.prog f #[rv, .int .i64 x] W (Ret (.int .i64 (g x)) W)
theorem StOk.ext {w W:World} {tt:TypeId} {tv:Value} {g:Int→Int} (h:StOk w tt tv g) (hx:Ext w W):StOk W tt tv g:=by
 obtain ⟨f,rv,h1,h2,h3⟩:=h.ex
 exact ⟨f,rv,h1,h2,fun W' x hx'=>h3 W' x (hx.trans hx')⟩
section
variable (hi:Int) (ls own:List Int) (g:Int→Int)
def oldF (hz x:Int):Bool:=onF x&&beforeF x hz&&g x==2
def deadF (hz a b:Int):Bool:=g a==3||oldF g hz b
end
theorem ton_any (x:Int) (w:World):
  Calls Tryz.prog 205 #[.int .i64 x] w (Ret (.bool (onF x)) w):=by
 go_enter Tryz.func205,Tryz.ntmps205
 have hst0:=St.start w
 refine wp_seq (sqr (sqp [.k 2 (.bool false)] ?_))
 refine then_normal (wp_seq (sqr (sqp [.m 3 0, .k 4 (.bool (decide (3≤x))), .m 5 4] ?_)))
 refine sqw 5 [6,7] rfl (fun _=>sqp [.m 6 0, .k 7 (.bool (decide (x < 128)))] sqe) ?_
 refine sqp [sPa 8 (decide (3≤x)) (decide (x < 128)), .m 2 8] ?_
 refine then_normal (wp_ret ?_)
 refine bpr (.bool ((decide (3≤x))&&(decide (x < 128)))) (results_1 Tryz.results205 rpt) ?_
 exact Ret.bool (by simp [onF, *]) hst0.ext
end
section
open Go.RowKit
theorem cut_len (ls:List Int) (k:Nat):∃ m:Nat,min (ls.length:Int) (k:Int)=(m:Int)∧ls.take m=ls.take k∧m≤ls.length∧m=(ls.take k).length:=by
 refine ⟨min ls.length k,by omega,?_,by omega,by rw [List.length_take]; omega⟩
 rcases Nat.le_total k ls.length with h | h
 ·rw [Nat.min_eq_right h]
 ·rw [Nat.min_eq_left h,List.take_length,List.take_of_length_le h]
theorem made02_any (n:Int) (LA:Option Addr) (lc:Nat) (l:List Int) (w:World) (hA:At w LA (l.map (Value.int .i64))) (hn:0≤n∧n≤6) (hll:l.length≤1000000000000000):
  Calls Tryz.prog 19 #[.int .i64 n, .slice LA l.length lc] w (RowPost (madeR n.toNat l) w):=by
 go_enter Tryz.func19,Tryz.ntmps19
 have hst0:=St.start w
 refine wp_seq (sqr (sqp [.k 4 (.slice none 0 0)] ?_))
 refine then_normal (wp_seq (sqr ?_))
 refine sqli 45 3 0 [] hst0 (@fun ρ β W X cx=>by simp [go_sem]) fun B8_2 W2 hst2=>?_
 refine sqp [.m 5 8] ?_
 refine then_normal (wp_seq (wp_seq (sqr (sqp [.k 6 (vi 0)] ?_))))
 refine then_normal (wp_block ?_)
 refine wp_loopT (fun t_ mz az W=>∃ k:Nat,∃ A:Option Addr,∃ c:Nat,(k:Int)≤n∧n≤6∧mz=n.toNat - k∧az=⟨(ovr (jv az) [(5,5,0,[.slice A k c,vi ((k:Int))]),(0,7,1,[]),(1,9,49,[])] t_).toArray,[]⟩∧St w [] [eO 45 3 (.slice A k c) k (flatR (madeR k l))] W) (n.toNat - 0) ?_ ?_
 · -- the loop begins
   exact ⟨0,(some ⟨B8_2,0,none⟩),0,by omega,by omega,rfl,(by kernel_rfl),hst2.pk [0]⟩
 rintro n5 a5 W5 ⟨k,A,c,hk,hn3,rfl,hj_,hst5⟩
 refine ovz hj_ fun u5_=>?_
 refine wp_seq (wp_seq (sqr (sqp [.m 9 6, .m 10 0, .k 11 (.bool (decide ((k:Int) < n)))] ?_)))
 refine then_normal (wds (fun hs9 hs9p=>?_) fun hs9 hs9p=>?_)
 ·refine wp_skip (then_normal (wp_seq (wp_block (wp_seq (sqr (sqp [.k 7 (vi 0)] ?_))))))
  refine then_normal (wp_seq (wp_seq (sqr (sqp [.m 14 6, .m 15 1, .k 16 (vi ((l.length:Int))), .k 17 (.bool (decide ((k:Int) < (l.length:Int))))] ?_))))
  refine then_normal (wds (fun hs15 hs15p=>?_) fun hs15 hs15p=>?_)
  ·refine sqr (sqp [.m 18 1, .m 19 6] ?_)
   refine sql (.pointer (some ((ad LA).add k))) hst5 (fun cx=>run_indexSl (e:=3) (m:=k) rfl (by kernel_rfl) (by kernel_rfl) (cx.ou 18) (cx.ou 19) (by omega) (by omega) (hA.ext cx.upd.to_ext) (by simp)) ?_
   refine sql (vi (l.getD k 0)) hst5 (fun cx=>run_load1 rfl (by kernel_rfl) (cx.ou 20) (At.cellAd (hA.ext cx.upd.to_ext) (getD_int (by omega)))) ?_
   refine sqp [sAn 22 .i64 (l.getD k 0) 65535 ((l.getD k 0) % 65536) (bits_mask (l.getD k 0) 16 (by decide)), .m 7 22] ?_
   refine then_normal (wp_seq (sqr (sqp [.m 23 7,sRe 24 .i64 ((l.getD k 0) % 65536) 5 (((l.getD k 0) % 65536) % 5) (Int.tmod_eq_emod_of_nonneg (by omega))] ?_)))
   refine then_normal (wp_block (wp_seq (sqr (sqp [.k 34 (.bool ((((l.getD k 0) % 65536) % 5)==0)), .m 33 34] ?_))))
   refine then_normal (wbs (fun hs26=>?_) fun hs26=>?_)
   ·have hs26p:=beq_iff_eq.1 hs26
    refine sqr (sqp [.m 35 5, .k 36 (.agg #[vi 0,vi 0, .string ByteArray.empty])] ?_)
    refine sqli 45 3 1 [vi 0,vi 0, .string ByteArray.empty] hst5 (@fun ρ β W X cx=>by have fF36:ρ (.tmp 36)= .agg #[vi 0,vi 0, .string ByteArray.empty]:=(cx.ou 36); simp [go_sem,fF36]) fun B37_29 W29 hst29=>?_
    refine sqap (k+1) (flatR (madeR (k+1) l)) 0 hst29 Tryz.infoVal (fun cx=>(At.of_ownN (cx.ri 1 rfl))) (hl:=rfl) (hxs:=by rw [madeR_succ,flatR_snoc]; simp_all [valF,cellsV]) fun A38_30 c38_30 W30 hst30=>?_
    refine sqp [.m 5 38] ?_
    refine blk_normal (blk_normal (then_normal (sqr (sqp [.m 12 6,sI 13 ((k:Int)+1) (by omega), .m 6 13] ?_))))
    refine then_normal ?_
    refine ⟨n.toNat - ((k+1)),by omega,?_⟩
    exact ⟨(k+1),A38_30,c38_30,by omega,hn3,rfl,(by kernel_rfl),hst30.pk [0]⟩
   have hs26p:=beq_eq_false_iff_ne.1 hs26
   refine wp_seq (sqr (sqp [.k 40 (.bool ((((l.getD k 0) % 65536) % 5)==1)), .m 39 40] ?_))
   refine then_normal (wbs (fun hs37=>?_) fun hs37=>?_)
   ·have hs37p:=beq_iff_eq.1 hs37
    refine sqr (sqp [.m 41 5, .m 42 7,sQu 43 .i64 ((l.getD k 0) % 65536) 5 (((l.getD k 0) % 65536) / 5) (by rw [Int.tdiv_eq_ediv_of_nonneg (by omega)]; exact IntWalk.i64_in _ (by omega)),sRe 44 .i64 (((l.getD k 0) % 65536) / 5) 4 ((((l.getD k 0) % 65536) / 5) % 4) (Int.tmod_eq_emod_of_nonneg (by omega))] ?_)
    refine sql (.string (((⟨#[97,98,99]⟩:ByteArray)).extract 0 (((((l.getD k 0) % 65536) / 5) % 4).toNat))) hst5 (fun cx=>run_slice_hi (l:=((((l.getD k 0) % 65536) / 5) % 4).toNat) rfl (by kernel_rfl) (cx.co _) (cx.ou 44) (by omega) (by first | omega | (show _≤3; omega))) ?_
    refine sqp [.k 46 (.agg #[vi 2,vi 0, .string (((⟨#[97,98,99]⟩:ByteArray)).extract 0 (((((l.getD k 0) % 65536) / 5) % 4).toNat))])] ?_
    refine sqli 45 3 1 [vi 2,vi 0, .string (((⟨#[97,98,99]⟩:ByteArray)).extract 0 (((((l.getD k 0) % 65536) / 5) % 4).toNat))] hst5 (@fun ρ β W X cx=>by have fF46:ρ (.tmp 46)= .agg #[vi 2,vi 0, .string (((⟨#[97,98,99]⟩:ByteArray)).extract 0 (((((l.getD k 0) % 65536) / 5) % 4).toNat))]:=(cx.ou 46); simp [go_sem,fF46]) fun B47_44 W44 hst44=>?_
    refine sqap (k+1) (flatR (madeR (k+1) l)) 0 hst44 Tryz.infoVal (fun cx=>(At.of_ownN (cx.ri 1 rfl))) (hl:=rfl) (hxs:=by rw [madeR_succ,flatR_snoc]; simp_all [valF,cellsV]) fun A48_45 c48_45 W45 hst45=>?_
    refine sqp [.m 5 48] ?_
    refine blk_normal (blk_normal (then_normal (sqr (sqp [.m 12 6,sI 13 ((k:Int)+1) (by omega), .m 6 13] ?_))))
    refine then_normal ?_
    refine ⟨n.toNat - ((k+1)),by omega,?_⟩
    exact ⟨(k+1),A48_45,c48_45,by omega,hn3,rfl,(by kernel_rfl),hst45.pk [0]⟩
   have hs37p:=beq_eq_false_iff_ne.1 hs37
   refine wp_seq (sqr (sqp [.k 50 (.bool ((((l.getD k 0) % 65536) % 5)==2)), .m 49 50] ?_))
   refine then_normal (wbs (fun hs52=>?_) fun hs52=>?_)
   ·have hs52p:=beq_iff_eq.1 hs52
    refine sqr (sqp [.m 51 5, .m 52 7,sQu 53 .i64 ((l.getD k 0) % 65536) 5 (((l.getD k 0) % 65536) / 5) (by rw [Int.tdiv_eq_ediv_of_nonneg (by omega)]; exact IntWalk.i64_in _ (by omega))] ?_)
    refine sqk (.string (digF (((l.getD k 0) % 65536) / 5))) hst5 (fun cx=>⟨_,dig_any (((l.getD k 0) % 65536) / 5) _ (by omega),(map1 (cx.ou 53))⟩) fun W56 hst56=>?_
    refine sqp [.k 55 (.agg #[vi 2,vi 0, .string (digF (((l.getD k 0) % 65536) / 5))])] ?_
    refine sqli 45 3 1 [vi 2,vi 0, .string (digF (((l.getD k 0) % 65536) / 5))] hst56 (@fun ρ β W X cx=>by have fF55:ρ (.tmp 55)= .agg #[vi 2,vi 0, .string (digF (((l.getD k 0) % 65536) / 5))]:=(cx.ou 55); simp [go_sem,fF55]) fun B56_58 W58 hst58=>?_
    refine sqap (k+1) (flatR (madeR (k+1) l)) 0 hst58 Tryz.infoVal (fun cx=>(At.of_ownN (cx.ri 1 rfl))) (hl:=rfl) (hxs:=by rw [madeR_succ,flatR_snoc]; simp_all [valF,cellsV]) fun A57_59 c57_59 W59 hst59=>?_
    refine sqp [.m 5 57] ?_
    refine blk_normal (blk_normal (then_normal (sqr (sqp [.m 12 6,sI 13 ((k:Int)+1) (by omega), .m 6 13] ?_))))
    refine then_normal ?_
    refine ⟨n.toNat - ((k+1)),by omega,?_⟩
    exact ⟨(k+1),A57_59,c57_59,by omega,hn3,rfl,(by kernel_rfl),hst59.pk [0]⟩
   have hs52p:=beq_eq_false_iff_ne.1 hs52
   refine sqr (sqp [.m 25 5, .m 26 7,sQu 27 .i64 ((l.getD k 0) % 65536) 5 (((l.getD k 0) % 65536) / 5) (by rw [Int.tdiv_eq_ediv_of_nonneg (by omega)]; exact IntWalk.i64_in _ (by omega)),sRe 28 .i64 (((l.getD k 0) % 65536) / 5) 9 ((((l.getD k 0) % 65536) / 5) % 9) (Int.tmod_eq_emod_of_nonneg (by omega)),sI 29 (((((l.getD k 0) % 65536) / 5) % 9) - 2) (by omega), .k 30 (.agg #[vi 1,vi ((((l.getD k 0) % 65536) / 5) % 9 - 2), .string ByteArray.empty])] ?_)
   refine sqli 45 3 1 [vi 1,vi ((((l.getD k 0) % 65536) / 5) % 9 - 2), .string ByteArray.empty] hst5 (@fun ρ β W X cx=>by have fF30:ρ (.tmp 30)= .agg #[vi 1,vi ((((l.getD k 0) % 65536) / 5) % 9 - 2), .string ByteArray.empty]:=(cx.ou 30); simp [go_sem,fF30]) fun B31_70 W70 hst70=>?_
   refine sqap (k+1) (flatR (madeR (k+1) l)) 0 hst70 Tryz.infoVal (fun cx=>(At.of_ownN (cx.ri 1 rfl))) (hl:=rfl) (hxs:=by rw [madeR_succ,flatR_snoc]; simp_all [valF,cellsV]) fun A32_71 c32_71 W71 hst71=>?_
   refine sqp [.m 5 32] ?_
   refine blk_normal (blk_normal (then_normal (sqr (sqp [.m 12 6,sI 13 ((k:Int)+1) (by omega), .m 6 13] ?_))))
   refine then_normal ?_
   refine ⟨n.toNat - ((k+1)),by omega,?_⟩
   exact ⟨(k+1),A32_71,c32_71,by omega,hn3,rfl,(by kernel_rfl),hst71.pk [0]⟩
  refine wp_skip (then_normal (wp_seq (sqr (sqp [.m 23 7,sRe 24 .i64 0 5 0 (by decide)] ?_))))
  refine then_normal (wp_block (wp_seq (sqr (sqp [.k 34 (.bool true), .k 33 (.bool true)] ?_))))
  refine then_normal (wct rfl (sqr (sqp [.m 35 5, .k 36 (.agg #[vi 0,vi 0, .string ByteArray.empty])] ?_)))
  refine sqli 45 3 1 [vi 0,vi 0, .string ByteArray.empty] hst5 (@fun ρ β W X cx=>by have fF36:ρ (.tmp 36)= .agg #[vi 0,vi 0, .string ByteArray.empty]:=(cx.ou 36); simp [go_sem,fF36]) fun B37_82 W82 hst82=>?_
  refine sqap (k+1) (flatR (madeR (k+1) l)) 0 hst82 Tryz.infoVal (fun cx=>(At.of_ownN (cx.ri 1 rfl))) (hl:=rfl) (hxs:=by rw [madeR_succ,flatR_snoc]; simp_all [valF,cellsV]) fun A38_83 c38_83 W83 hst83=>?_
  refine sqp [.m 5 38] ?_
  refine blk_normal (blk_normal (then_normal (sqr (sqp [.m 12 6,sI 13 ((k:Int)+1) (by omega), .m 6 13] ?_))))
  refine then_normal ?_
  refine ⟨n.toNat - ((k+1)),by omega,?_⟩
  exact ⟨(k+1),A38_83,c38_83,by omega,hn3,rfl,(by kernel_rfl),hst83.pk [0]⟩
 refine wp_exit (then_exit (then_exit (blk_eq (then_normal (wp_seq (sqr (sqp [.m 58 5, .m 4 58] ?_)))))))
 refine then_normal (wp_ret ?_)
 refine bpr (.slice A k c) (results_1 Tryz.results19 rpt) ?_
 exact ⟨_, _,by rw [madeR_len,show n.toNat=k by omega],by rw [madeR_len,show n.toNat=k by omega]; exact hst5.own' 0 rfl,hst5.ext⟩
end
section
open Go.RowKit
abbrev gu (u:List Go.Value) (k:Nat):Go.Value:=u.getD k undef
theorem nle {a b:Nat} (h:Nat.ble a b=true):a≤b:=Nat.le_of_ble_eq_true h
def curL (s:List Int) (k:Nat):List Int:=(List.range 8).map fun i=>if i < k then s.getD i 0 % 65536 else 0
def mk8 (s:List Int):List Int:=(List.range 8).map fun i=>s.getD i 0 % 65536
theorem curL_len (s:List Int) (k:Nat):(curL s k).length=8:=by simp [curL]
theorem mk8_len (s:List Int):(mk8 s).length=8:=by simp [mk8]
theorem curL_set (s:List Int) (k:Nat) (h:k < 8):(curL s k).set k (s.getD k 0 % 65536)=curL s (k+1):=by
 apply List.ext_getElem
 ·simp [curL]
 ·intro i h1 h2
  simp only [curL,List.length_set,List.length_map,List.length_range] at h1
  rw [List.getElem_set]
  simp only [curL,List.getElem_map,List.getElem_range]
  by_cases e:k=i
  ·subst e; simp
  ·rw [if_neg e]
   by_cases h3:i < k
   ·rw [if_pos h3,if_pos (by omega)]
   ·rw [if_neg h3,if_neg (by omega)]
theorem curL_end (s:List Int) (k:Nat) (h:8≤k∨s.length≤k):curL s k=mk8 s:=by
 apply List.ext_getElem
 ·simp [curL,mk8]
 ·intro i h1 h2
  simp only [curL,List.length_map,List.length_range] at h1
  simp only [curL,mk8,List.getElem_map,List.getElem_range]
  by_cases h3:i < k
  ·rw [if_pos h3]
  ·have h4:s.getD i 0=0:=by simp [show s.length≤i by omega]
   rw [if_neg h3,h4]; rfl
theorem mk8_bd (s:List Int) (i:Nat):0≤(mk8 s).getD i 0∧(mk8 s).getD i 0≤65535:=by
 rcases Nat.lt_or_ge i 8 with h | h
 ·have e:(mk8 s).getD i 0=s.getD i 0 % 65536:=by simp [mk8,h]
  rw [e]; omega
 ·have e:(mk8 s).getD i 0=0:=by simp [mk8,h]
  rw [e]; omega
theorem At.drop8 {w:World} {A:Option Addr} {s:List Int} (h:At w A ((mk8 s).map (Value.int .i64))):At w (if 8=4 then A else A.map (·.add (4*1))) (((mk8 s).drop 4).map (Value.int .i64)):=by
 have:=h.drop 4 8 (by simp [mk8_len])
 rw [List.map_drop]
 exact this
def vminF (s:List Int):Int:=2+(mk8 s).getD 0 0 % 126
def vmaxF (s:List Int):Int:=if decide (0 < (mk8 s).getD 1 0 % 3)=true then 3+(mk8 s).getD 1 0 / 3 % 125 else 0
def vpgF (s:List Int):Int:=if ((mk8 s).getD 2 0 % 2==1)=true then (mk8 s).getD 2 0 / 2 % 400 else -1
def vslF (s:List Int):Int:=if ((mk8 s).getD 2 0 % 2==1)=true then (mk8 s).getD 3 0 / 4 % 24 else 0
def vhotF (s:List Int):Bool:=(mk8 s).getD 2 0 % 3==1
def vrowF (s:List Int):List Val:=madeR ((mk8 s).getD 3 0 % 4).toNat ((mk8 s).drop 4)
def VerPost (s:List Int) (w:World) (e:Ending) (w':World):Prop:=∃ A c,e= .returned (.agg #[.int .i64 (vminF s), .int .i64 (vmaxF s), .int .i64 (vpgF s), .int .i64 (vslF s), .bool (vhotF s), .slice A (vrowF s).length c])∧
 w'.ownsRow w.heap.size 45 3 (.slice A (vrowF s).length c) (vrowF s).length (flatR (vrowF s))∧Ext w w'
theorem VerPost.of {s:List Int} {w w':World} {a b n1 n2:Int} {ho:Bool} {rr:List Val} {A:Option Addr} {c:Nat} (ha:a=vminF s) (hb:b=vmaxF s) (h1:n1=vpgF s) (h2:n2=vslF s) (hh:ho=vhotF s) (hr:rr=vrowF s)
  (ho':w'.ownsRow w.heap.size 45 3 (.slice A rr.length c) rr.length (flatR rr)) (hx:Ext w w'):VerPost s w (.returned (.agg #[.int .i64 a, .int .i64 b, .int .i64 n1, .int .i64 n2, .bool ho, .slice A rr.length c])) w':=by
 subst ha hb h1 h2 hh hr
 exact ⟨A,c,rfl,ho',hx⟩
theorem made08_any (LA:Option Addr) (lc:Nat) (s:List Int) (w:World) (hA:At w LA (s.map (Value.int .i64))) (hll:s.length≤9223372036854775807):
  Calls Tryz.prog 119 #[.slice LA s.length lc] w (VerPost s w):=by
 go_enter Tryz.func119,Tryz.ntmps119
 have hst0:=St.start w
 refine wp_seq (sqr (sqal #[vi 0,vi 0,vi 0,vi 0, .bool false, .slice none 0 0] hst0 fun B2_1 W1 hst1=>?_))
 refine then_normal (wp_seq (sqr ?_))
 refine sqn1 (fun x_=>sA x_) (fun A6_2=> .slice A6_2 8 8) (fun A6_2=>eO 3 1 (.slice A6_2 8 8) 8 ((List.replicate 8 (0:Int)).map (Value.int .i64))) hst1 (by
   refine svA fun ρ β W X cx=>?_
   obtain ⟨i0,hi0,hz0,hz1,hz2⟩:=info_parts Tryz.infoInt
   exact dv_make (n:=8) rfl (by kernel_rfl) hi0 hz0 hz1 hz2 rfl (cx.co _) (cx.co _) (by omega) (by omega) (by omega) (by omega) rfl rfl (fun σ β' X' hs hb hv hx=>⟨hv,by rw [List.map_replicate]; exact hx⟩)) fun A6_2 W2 hst2=>?_
 refine sqp [.m 3 6] ?_
 refine then_normal (wp_seq (wp_seq (sqr (sqp [.k 4 (vi 0)] ?_))))
 refine then_normal (wp_block ?_)
 refine wp_loopT (fun t_ mz az W=>∃ k:Nat,k≤8∧mz=8 - k∧az=⟨(ovr (jv az) [(4,4,0,[vi ((k:Int))]),(2,7,18,[])] t_).toArray,[]⟩∧St w [] [eB B2_1 41 #[vi 0,vi 0,vi 0,vi 0, .bool false, .slice none 0 0],eO 3 1 (.slice A6_2 8 8) 8 ((curL s k).map (Value.int .i64))] W) (8 - 0) ?_ ?_
 · -- the loop begins
   exact ⟨0,by omega,rfl,(by kernel_rfl),hst2.pk [0,1]⟩
 rintro n5 a5 W5 ⟨k,hk8,rfl,hj_,hst5⟩
 refine ovz hj_ fun u5_=>?_
 refine wp_seq (wp_seq (sqr (sqp [.m 7 4, .k 8 (.bool (decide ((k:Int) < 8))), .m 9 8] ?_)))
 refine sqw 9 [10,11,12,13] rfl (fun _=>sqp [.m 10 4, .m 11 0, .k 12 (vi ((s.length:Int))), .k 13 (.bool (decide ((k:Int) < (s.length:Int))))] sqe) ?_
 refine sqp [sPa 14 (decide ((k:Int) < 8)) (decide ((k:Int) < (s.length:Int)))] ?_
 refine then_normal (wbs (fun hs14=>?_) fun hs14=>?_)
 ·have hs14p:=hs14
  simp only [zB] at hs14p
  obtain ⟨hs14p1,hs14p2⟩:=hs14p
  refine wp_skip (then_normal (wp_seq (wp_block (sqr (sqp [.m 17 3, .m 18 4, .m 19 0, .m 20 4] ?_)))))
  refine sql (.pointer (some ((ad LA).add k))) hst5 (fun cx=>run_indexSl (e:=3) (m:=k) rfl (by kernel_rfl) (by kernel_rfl) (cx.ou 19) (cx.ou 20) (by omega) (by omega) (hA.ext cx.upd.to_ext) (by simp [mk8_len,curL_len])) ?_
  refine sql (vi (s.getD k 0)) hst5 (fun cx=>run_load1 rfl (by kernel_rfl) (cx.ou 21) (At.cellAd (hA.ext cx.upd.to_ext) (getD_int (by omega)))) ?_
  refine sqp [sAn 23 .i64 (s.getD k 0) 65535 ((s.getD k 0) % 65536) (bits_mask (s.getD k 0) 16 (by decide))] ?_
  refine sql (.pointer (some ((ad A6_2).add k))) hst5 (fun cx=>run_indexSl (e:=3) (m:=k) rfl (by kernel_rfl) (by kernel_rfl) (cx.ou 17) (cx.ou 18) (by omega) (by omega) (At.of_own (cx.ri 1 rfl)) (by simp [mk8_len,curL_len])) ?_
  refine sqc (eO 3 1 (.slice A6_2 8 8) 8 ((curL s (k+1)).map (Value.int .i64))) 1 hst5 (by
    refine svA fun ρ β W X cx=>?_
    exact dv_storeRow (m:=k) (n:=8) rfl (cx.ou 24) (show _=Value.int .i64 ((s.getD k 0) % 65536) from (cx.ou 23)) (by kernel_rfl) rfl rfl cx (cx.init 1 _ rfl) rfl (by omega) rfl (by rw [← List.map_set,curL_set s k (by omega)]) rfl rfl (fun σ β' X' hs hb hx=>hx)) fun W23 hst23=>?_
  refine blk_normal (then_normal (sqr (sqp [.m 15 4,sI 16 ((k:Int)+1) (by omega), .m 4 16] ?_)))
  refine then_normal ?_
  refine ⟨8 - ((k+1)),by omega,?_⟩
  exact ⟨(k+1),by omega,rfl,(by kernel_rfl),hst23.pk [0,1]⟩
 have hs14p:=hs14
 simp only [zB] at hs14p
 refine wp_exit (then_exit (then_exit (blk_eq (then_normal (wp_seq ?_)))))
 have hm8:=mk8_len s
 have hcur:curL s k=mk8 s:=curL_end s k (by omega)
 rw [hcur] at hst5
 have hb0:=mk8_bd s 0
 have hb1:=mk8_bd s 1
 have hb2:=mk8_bd s 2
 have hb3:=mk8_bd s 3
 obtain ⟨rr,hrr⟩:∃ z,z=vrowF s:=⟨_,rfl⟩
 have HM:=Lib.hid (fun (A:Option Addr) (c:Nat) (w:World) (h:At w A (((mk8 s).drop 4).map (Value.int .i64)))=>made02_any ((mk8 s).getD 3 0 % 4) A c ((mk8 s).drop 4) w h (by omega) (by rw [List.length_drop,mk8_len]; omega))
 rw [show ((mk8 s).drop 4).length=8 - 4 by rw [List.length_drop,mk8_len],show madeR ((mk8 s).getD 3 0 % 4).toNat ((mk8 s).drop 4)=rr from hrr.symm] at HM
 refine wp_region_Y [0,1,3,7,15,0,0,64,192,448,960,0,2048,6144,14336,0,32768,129024,262143,0,1048575] [[],[1],[1],[],[],[],[],[1],[1],[],[],[],[1],[1],[],[],[],[1],[],[],[3]] [[],[],[],[],[],[],[],[],[],[],[],[],[],[],[],[],[],[2],[],[3],[4]] [[],[],[],[],[],[],[],[],[],[],[],[],[],[],[],[],[],[],[],[],[3]] [.k 25 (.slice A6_2 8 8), .c 26 (.pointer (some ((ad A6_2).add 0))), .c 27 (vi (((mk8 s)).getD 0 0)),tRe 28 .i64 (((mk8 s)).getD 0 0) 126 ((((mk8 s)).getD 0 0) % 126) (Int.tmod_eq_emod_of_nonneg (by omega)),tI 29 (2+((((mk8 s)).getD 0 0) % 126)) (by omega), .k 30 (.agg #[vi (-1),vi 0]), .k 31 (.slice A6_2 8 8), .c 32 (.pointer (some ((ad A6_2).add 2))), .c 33 (vi (((mk8 s)).getD 2 0)),tRe 34 .i64 (((mk8 s)).getD 2 0) 3 ((((mk8 s)).getD 2 0) % 3) (Int.tmod_eq_emod_of_nonneg (by omega)), .k 35 (.bool (((((mk8 s)).getD 2 0) % 3)==1)), .k 36 (.slice A6_2 8 8), .c 37 (.pointer (some ((ad A6_2).add 3))), .c 38 (vi (((mk8 s)).getD 3 0)),tRe 39 .i64 (((mk8 s)).getD 3 0) 4 ((((mk8 s)).getD 3 0) % 4) (Int.tmod_eq_emod_of_nonneg (by omega)), .k 40 (.slice A6_2 8 8), .c 41 (.slice ((if 8=4 then A6_2 else A6_2.map (·.add (4*1)))) ((8 - 4)) ((8 - 4))), .a 42, .a 43, .a 5, .n] (fun ix σ β X=>match ix with | 0=>True | 1=>True | 2=>True | 3=>True | 4=>True | 5=>True | 6=>True | 7=>True | 8=>True | 9=>True | 10=>True | 11=>True | 12=>True | 13=>True | 14=>True | 15=>True | 16=>True | 17=>σ 42= .slice (sA (β 42)) rr.length (sC (β 42))∧X 2=eO 45 3 (.slice (sA (β 42)) rr.length (sC (β 42))) rr.length (flatR rr) | 18=>σ 43= .agg #[vi (2+((((mk8 s)).getD 0 0) % 126)),vi 0,vi (-1),vi 0, .bool (((((mk8 s)).getD 2 0) % 3)==1), .slice (sA (β 42)) rr.length (sC (β 42))] | 19=>σ 5=vp (pb (β 5))∧X 3=eB (pb (β 5)) 41 #[vi 0,vi 0,vi 0,vi 0, .bool false, .slice none 0 0] | 20=>X 4=eB (pb (β 5)) 41 #[vi (2+((((mk8 s)).getD 0 0) % 126)),vi 0,vi (-1),vi 0, .bool (((((mk8 s)).getD 2 0) % 3)==1), .slice (sA (β 42)) rr.length (sC (β 42))] | _=>True) [0,1,2,4] [1,2,7,8,12,13,16,17,18,19,20] [(5,19,1,6),(19,0,19,38)] hst5 ?_ ?_ ?_
 ·exact fun ix _ _ _ _ _ _ hs hb hx h=>match ix,h with
  | 17,h=>by dsimp only; rw [← hs 42 rfl,← hb 42 rfl,← hx 2 rfl]; exact h
  | 18,h=>by dsimp only; rw [← hs 43 rfl,← hb 42 rfl]; exact h
  | 19,h=>by dsimp only; rw [← hs 5 rfl,← hb 5 rfl,← hx 3 rfl]; exact h
  | 20,h=>by dsimp only; rw [← hb 5 rfl,← hb 42 rfl,← hx 4 rfl]; exact h
  | 0, _ | 1, _ | 2, _ | 3, _ | 4, _ | 5, _ | 6, _ | 7, _ | 8, _ | 9, _ | 10, _ | 11, _ | 12, _ | 13, _ | 14, _ | 15, _ | 16, _ | _+21, _=>trivial
 ·refine ⟨?_,?_,?_,?_,?_,?_,?_,?_,?_,?_,?_,trivial⟩
  ·exact xs4 rfl id fun cx=>run_indexSl (e:=3) (m:=0) rfl (by kernel_rfl) (by kernel_rfl) (cx.an 0) (cx.co _) (by omega) (by omega) (At.of_own (cx.ri 1 rfl)) (by simp [mk8_len,curL_len])
  ·exact xs4 rfl id fun cx=>run_load1 rfl (by kernel_rfl) (cx.an 1) (At.cellAd (At.of_own (cx.ri 1 rfl)) (getD_int (by omega)))
  ·exact xs4 rfl id fun cx=>run_indexSl (e:=3) (m:=2) rfl (by kernel_rfl) (by kernel_rfl) (cx.an 6) (cx.co _) (by omega) (by omega) (At.of_own (cx.ri 1 rfl)) (by simp [mk8_len,curL_len])
  ·exact xs4 rfl id fun cx=>run_load1 rfl (by kernel_rfl) (cx.an 7) (At.cellAd (At.of_own (cx.ri 1 rfl)) (getD_int (by omega)))
  ·exact xs4 rfl id fun cx=>run_indexSl (e:=3) (m:=3) rfl (by kernel_rfl) (by kernel_rfl) (cx.an 11) (cx.co _) (by omega) (by omega) (At.of_own (cx.ri 1 rfl)) (by simp [mk8_len,curL_len])
  ·exact xs4 rfl id fun cx=>run_load1 rfl (by kernel_rfl) (cx.an 12) (At.cellAd (At.of_own (cx.ri 1 rfl)) (getD_int (by omega)))
  ·exact xs4 rfl id fun cx=>run_sliceL_lo (e:=3) (sz:=1) (l:=4) rfl (by kernel_rfl) (by kernel_rfl) (cx.an 15) (cx.co _) (by omega) (by omega)
  ·refine svA fun ρ β W X cx=>?_
   refine DoesU.call (run_callF (args:=#[vi ((((mk8 s)).getD 3 0) % 4), .slice ((if 8=4 then A6_2 else A6_2.map (·.add (4*1)))) ((8 - 4)) ((8 - 4))]) rfl cx.sees rfl (by kernel_rfl) (map2 (cx.an 14) (cx.an 16))) ?_
   refine (HM.out _ _ _ (At.drop8 (At.of_own (cx.ri 1 rfl)))).mono ?_
   rintro e W1 ⟨A4,c4,rfl,ho,hx⟩
   refine ⟨_,rfl,post_call [eO 45 3 (.slice A4 rr.length c4) rr.length (flatR rr)] rfl rfl hx (one_new (eO_new ho)) (List.pairwise_singleton _ _) (fun σ β' X' hs hb hv hN=>?_)⟩
   have hv1:=(hv 42 rfl).1; have hv2:=(hv 42 rfl).2
   exact ⟨hv1.trans (by rw [hv2]; rfl),(by rw [hv2]; exact (List.cons.inj hN).1)⟩
  ·exact sv rfl rfl rfl rfl rfl _ (fun _ _ _ h=>h) (fun β β' h=>by rw [h 42 (by decide)]) fun ρ β W X cx=>run_buildL rfl (pmc (cx.an 4) (pmc (cx.an 5) (pmc (cx.an 10) (pmc (dTn (cx.an 17)).1 pmn)))) (by kernel_rfl)
  ·refine svA fun ρ β W X cx=>?_
   exact dv_alloc (cs:=#[vi 0,vi 0,vi 0,vi 0, .bool false, .slice none 0 0]) rfl (by kernel_rfl) rfl rfl (fun σ β' X' hs hb hv hx=>⟨hv,hx⟩)
  ·refine svA fun ρ β W X cx=>?_
   exact dv_store (n:=6) rfl (dTn (cx.an 19)).1 (dTn (cx.an 18)) (by kernel_rfl) (by kernel_rfl) (by kernel_rfl) cx (dTn (cx.an 19)).2 rfl (nle rfl) (by kernel_rfl) rfl rfl rfl (fun σ β' X' hs hb hx=>by rw [hb 5,hb 42]; exact hx)
 intro σ β X W27 hD hst27 fr hfr
 obtain ⟨A42_27,hu_A42_27⟩:∃ z,sA (β 42)=z:=⟨_,rfl⟩
 obtain ⟨c42_27,hu_c42_27⟩:∃ z,sC (β 42)=z:=⟨_,rfl⟩
 obtain ⟨B5_27,hu_B5_27⟩:∃ z,pb (β 5)=z:=⟨_,rfl⟩
 simp only [exq 2 ((dTn (hD 17 lq)).2),exq 4 ((dTn (hD 20 lq))),hu_A42_27,hu_c42_27,hu_B5_27] at hst27
 simp only [ed 42 ((dTn (hD 17 lq)).1),ed 43 ((dTn (hD 18 lq))),ed 5 ((dTn (hD 19 lq)).1),hu_A42_27,hu_c42_27,hu_B5_27] at hfr
 clear hD hu_A42_27 hu_c42_27 hu_B5_27; subst hfr; clear σ β X
 refine then_normal (wp_seq (wp_seq (sqr (sqp [.m 44 3] ?_))))
 refine sql (.pointer (some ((ad A6_2).add 1))) hst27 (fun cx=>run_indexSl (e:=3) (m:=1) rfl (by kernel_rfl) (by kernel_rfl) (cx.ou 44) (cx.co _) (by omega) (by omega) (At.of_own (cx.ri 1 rfl)) (by simp [mk8_len,curL_len])) ?_
 refine sql (vi (((mk8 s)).getD 1 0)) hst27 (fun cx=>run_load1 rfl (by kernel_rfl) (cx.ou 45) (At.cellAd (At.of_own (cx.ri 1 rfl)) (getD_int (by omega)))) ?_
 refine sqp [sRe 47 .i64 (((mk8 s)).getD 1 0) 3 ((((mk8 s)).getD 1 0) % 3) (Int.tmod_eq_emod_of_nonneg (by omega)), .k 48 (.bool (decide (0 < (((mk8 s)).getD 1 0) % 3)))] ?_
 refine then_normal (wds (fun hs33 hs33p=>?_) fun hs33 hs33p=>?_)
 ·refine sqr (sqp [.m 49 3] ?_)
  refine sql (.pointer (some ((ad A6_2).add 1))) hst27 (fun cx=>run_indexSl (e:=3) (m:=1) rfl (by kernel_rfl) (by kernel_rfl) (cx.ou 49) (cx.co _) (by omega) (by omega) (At.of_own (cx.ri 1 rfl)) (by simp [mk8_len,curL_len])) ?_
  refine sql (vi (((mk8 s)).getD 1 0)) hst27 (fun cx=>run_load1 rfl (by kernel_rfl) (cx.ou 50) (At.cellAd (At.of_own (cx.ri 1 rfl)) (getD_int (by omega)))) ?_
  refine sqp [sQu 52 .i64 (((mk8 s)).getD 1 0) 3 ((((mk8 s)).getD 1 0) / 3) (by rw [Int.tdiv_eq_ediv_of_nonneg (by omega)]; exact IntWalk.i64_in _ (by omega)),sRe 53 .i64 ((((mk8 s)).getD 1 0) / 3) 125 (((((mk8 s)).getD 1 0) / 3) % 125) (Int.tmod_eq_emod_of_nonneg (by omega)),sI 54 (3+(((((mk8 s)).getD 1 0) / 3) % 125)) (by omega), .k 55 (.pointer (some ⟨B5_27,1,none⟩))] ?_
  refine sqst (n:=1) 3 #[vi (2+((((mk8 s)).getD 0 0) % 126)),vi (3+(((((mk8 s)).getD 1 0) / 3) % 125)),vi (-1),vi 0, .bool (((((mk8 s)).getD 2 0) % 3)==1), .slice A42_27 rr.length c42_27] hst27 fun W41 hst41=>?_
  refine then_normal (wp_seq (wp_seq (sqr (sqp [.m 56 3] ?_))))
  refine sql (.pointer (some ((ad A6_2).add 2))) hst41 (fun cx=>run_indexSl (e:=3) (m:=2) rfl (by kernel_rfl) (by kernel_rfl) (cx.ou 56) (cx.co _) (by omega) (by omega) (At.of_own (cx.ri 1 rfl)) (by simp [mk8_len,curL_len])) ?_
  refine sql (vi (((mk8 s)).getD 2 0)) hst41 (fun cx=>run_load1 rfl (by kernel_rfl) (cx.ou 57) (At.cellAd (At.of_own (cx.ri 1 rfl)) (getD_int (by omega)))) ?_
  refine sqp [sRe 59 .i64 (((mk8 s)).getD 2 0) 2 ((((mk8 s)).getD 2 0) % 2) (Int.tmod_eq_emod_of_nonneg (by omega)), .k 60 (.bool (((((mk8 s)).getD 2 0) % 2)==1))] ?_
  refine then_normal (wbs (fun hs47=>?_) fun hs47=>?_)
  ·have hs47p:=beq_iff_eq.1 hs47
   refine wp_region_Y [0,1,3,7,15,0,32,96,224,480,1023,2047,4095] [[],[1],[1],[],[],[],[1],[1],[],[],[],[],[3]] [[],[],[],[],[],[],[],[],[],[],[],[],[4]] [[],[],[],[],[],[],[],[],[],[],[],[],[3]] [.k 61 (.slice A6_2 8 8), .c 62 (.pointer (some ((ad A6_2).add 2))), .c 63 (vi (((mk8 s)).getD 2 0)),tQu 64 .i64 (((mk8 s)).getD 2 0) 2 ((((mk8 s)).getD 2 0) / 2) (by rw [Int.tdiv_eq_ediv_of_nonneg (by omega)]; exact IntWalk.i64_in _ (by omega)),tRe 65 .i64 ((((mk8 s)).getD 2 0) / 2) 400 (((((mk8 s)).getD 2 0) / 2) % 400) (Int.tmod_eq_emod_of_nonneg (by omega)), .k 66 (.slice A6_2 8 8), .c 67 (.pointer (some ((ad A6_2).add 3))), .c 68 (vi (((mk8 s)).getD 3 0)),tQu 69 .i64 (((mk8 s)).getD 3 0) 4 ((((mk8 s)).getD 3 0) / 4) (by rw [Int.tdiv_eq_ediv_of_nonneg (by omega)]; exact IntWalk.i64_in _ (by omega)),tRe 70 .i64 ((((mk8 s)).getD 3 0) / 4) 24 (((((mk8 s)).getD 3 0) / 4) % 24) (Int.tmod_eq_emod_of_nonneg (by omega)), .k 71 (.agg #[vi (((((mk8 s)).getD 2 0) / 2) % 400),vi (((((mk8 s)).getD 3 0) / 4) % 24)]), .k 72 (.pointer (some ⟨B5_27,2,none⟩)), .n] (fun ix σ β X=>match ix with | 0=>True | 1=>True | 2=>True | 3=>True | 4=>True | 5=>True | 6=>True | 7=>True | 8=>True | 9=>True | 10=>True | 11=>True | 12=>X 4=eB B5_27 41 #[vi (2+((((mk8 s)).getD 0 0) % 126)),vi (3+(((((mk8 s)).getD 1 0) / 3) % 125)),vi (((((mk8 s)).getD 2 0) / 2) % 400),vi (((((mk8 s)).getD 3 0) / 4) % 24), .bool (((((mk8 s)).getD 2 0) % 3)==1), .slice A42_27 rr.length c42_27] | _=>True) [0,1,2,4] [1,2,6,7,12] [(61,0,12,73)] hst41 ?_ ?_ ?_
   ·exact fun ix _ _ _ _ _ _ hs hb hx h=>match ix,h with
    | 12,h=>by dsimp only; rw [← hx 4 rfl]; exact h
    | 0, _ | 1, _ | 2, _ | 3, _ | 4, _ | 5, _ | 6, _ | 7, _ | 8, _ | 9, _ | 10, _ | 11, _ | _+13, _=>trivial
   ·refine ⟨?_,?_,?_,?_,?_,trivial⟩
    ·exact xs4 rfl id fun cx=>run_indexSl (e:=3) (m:=2) rfl (by kernel_rfl) (by kernel_rfl) (cx.an 0) (cx.co _) (by omega) (by omega) (At.of_own (cx.ri 1 rfl)) (by simp [mk8_len,curL_len])
    ·exact xs4 rfl id fun cx=>run_load1 rfl (by kernel_rfl) (cx.an 1) (At.cellAd (At.of_own (cx.ri 1 rfl)) (getD_int (by omega)))
    ·exact xs4 rfl id fun cx=>run_indexSl (e:=3) (m:=3) rfl (by kernel_rfl) (by kernel_rfl) (cx.an 5) (cx.co _) (by omega) (by omega) (At.of_own (cx.ri 1 rfl)) (by simp [mk8_len,curL_len])
    ·exact xs4 rfl id fun cx=>run_load1 rfl (by kernel_rfl) (cx.an 6) (At.cellAd (At.of_own (cx.ri 1 rfl)) (getD_int (by omega)))
    ·refine svA fun ρ β W X cx=>?_
     exact dv_store (n:=2) rfl (cx.an 11) (cx.an 10) (by kernel_rfl) (by kernel_rfl) (by kernel_rfl) cx (cx.init 3 _ rfl) rfl (nle rfl) (by kernel_rfl) rfl rfl rfl (fun σ β' X' hs hb hx=>hx)
   intro σ β X W48 hD hst48 fr hfr
   simp only [exq 4 ((dTn (hD 12 lq)))] at hst48
   clear hD; subst hfr; clear σ β X
   refine then_normal (wp_seq (sqr ?_))
   refine sqlb 3 6 hst48 ?_
   refine sqst (n:=6) 0 #[vi (2+((((mk8 s)).getD 0 0) % 126)),vi (3+(((((mk8 s)).getD 1 0) / 3) % 125)),vi (((((mk8 s)).getD 2 0) / 2) % 400),vi (((((mk8 s)).getD 3 0) / 4) % 24), .bool (((((mk8 s)).getD 2 0) % 3)==1), .slice A42_27 rr.length c42_27] hst48 fun W50 hst50=>?_
   refine then_normal (wp_ret ?_)
   refine bpr (.agg #[vi (2+((((mk8 s)).getD 0 0) % 126)),vi (3+(((((mk8 s)).getD 1 0) / 3) % 125)),vi (((((mk8 s)).getD 2 0) / 2) % 400),vi (((((mk8 s)).getD 3 0) / 4) % 24), .bool (((((mk8 s)).getD 2 0) % 3)==1), .slice A42_27 rr.length c42_27]) (results_cell (n:=6) Tryz.results119 rfl (by kernel_rfl) (by kernel_rfl) (hst50.blk 0 rfl) rfl) ?_
   exact VerPost.of rfl (by rw [vmaxF,hs33]; rfl) (by rw [vpgF,hs47]; rfl) (by rw [vslF,hs47]; rfl) rfl hrr (hst50.own' 2 rfl) hst50.ext
  have hs47p:=beq_eq_false_iff_ne.1 hs47
  refine wp_skip (then_normal (wp_seq (sqr ?_)))
  refine sqlb 3 6 hst41 ?_
  refine sqst (n:=6) 0 #[vi (2+((((mk8 s)).getD 0 0) % 126)),vi (3+(((((mk8 s)).getD 1 0) / 3) % 125)),vi (-1),vi 0, .bool (((((mk8 s)).getD 2 0) % 3)==1), .slice A42_27 rr.length c42_27] hst41 fun W52 hst52=>?_
  refine then_normal (wp_ret ?_)
  refine bpr (.agg #[vi (2+((((mk8 s)).getD 0 0) % 126)),vi (3+(((((mk8 s)).getD 1 0) / 3) % 125)),vi (-1),vi 0, .bool (((((mk8 s)).getD 2 0) % 3)==1), .slice A42_27 rr.length c42_27]) (results_cell (n:=6) Tryz.results119 rfl (by kernel_rfl) (by kernel_rfl) (hst52.blk 0 rfl) rfl) ?_
  exact VerPost.of rfl (by rw [vmaxF,hs33]; rfl) (by rw [vpgF,hs47]; rfl) (by rw [vslF,hs47]; rfl) rfl hrr (hst52.own' 2 rfl) hst52.ext
 refine wp_skip (then_normal (wp_seq (wp_seq (sqr (sqp [.m 56 3] ?_)))))
 refine sql (.pointer (some ((ad A6_2).add 2))) hst27 (fun cx=>run_indexSl (e:=3) (m:=2) rfl (by kernel_rfl) (by kernel_rfl) (cx.ou 56) (cx.co _) (by omega) (by omega) (At.of_own (cx.ri 1 rfl)) (by simp [mk8_len,curL_len])) ?_
 refine sql (vi (((mk8 s)).getD 2 0)) hst27 (fun cx=>run_load1 rfl (by kernel_rfl) (cx.ou 57) (At.cellAd (At.of_own (cx.ri 1 rfl)) (getD_int (by omega)))) ?_
 refine sqp [sRe 59 .i64 (((mk8 s)).getD 2 0) 2 ((((mk8 s)).getD 2 0) % 2) (Int.tmod_eq_emod_of_nonneg (by omega)), .k 60 (.bool (((((mk8 s)).getD 2 0) % 2)==1))] ?_
 refine then_normal (wbs (fun hs58=>?_) fun hs58=>?_)
 ·have hs58p:=beq_iff_eq.1 hs58
  refine wp_region_Y [0,1,3,7,15,0,32,96,224,480,1023,2047,4095] [[],[1],[1],[],[],[],[1],[1],[],[],[],[],[3]] [[],[],[],[],[],[],[],[],[],[],[],[],[4]] [[],[],[],[],[],[],[],[],[],[],[],[],[3]] [.k 61 (.slice A6_2 8 8), .c 62 (.pointer (some ((ad A6_2).add 2))), .c 63 (vi (((mk8 s)).getD 2 0)),tQu 64 .i64 (((mk8 s)).getD 2 0) 2 ((((mk8 s)).getD 2 0) / 2) (by rw [Int.tdiv_eq_ediv_of_nonneg (by omega)]; exact IntWalk.i64_in _ (by omega)),tRe 65 .i64 ((((mk8 s)).getD 2 0) / 2) 400 (((((mk8 s)).getD 2 0) / 2) % 400) (Int.tmod_eq_emod_of_nonneg (by omega)), .k 66 (.slice A6_2 8 8), .c 67 (.pointer (some ((ad A6_2).add 3))), .c 68 (vi (((mk8 s)).getD 3 0)),tQu 69 .i64 (((mk8 s)).getD 3 0) 4 ((((mk8 s)).getD 3 0) / 4) (by rw [Int.tdiv_eq_ediv_of_nonneg (by omega)]; exact IntWalk.i64_in _ (by omega)),tRe 70 .i64 ((((mk8 s)).getD 3 0) / 4) 24 (((((mk8 s)).getD 3 0) / 4) % 24) (Int.tmod_eq_emod_of_nonneg (by omega)), .k 71 (.agg #[vi (((((mk8 s)).getD 2 0) / 2) % 400),vi (((((mk8 s)).getD 3 0) / 4) % 24)]), .k 72 (.pointer (some ⟨B5_27,2,none⟩)), .n] (fun ix σ β X=>match ix with | 0=>True | 1=>True | 2=>True | 3=>True | 4=>True | 5=>True | 6=>True | 7=>True | 8=>True | 9=>True | 10=>True | 11=>True | 12=>X 4=eB B5_27 41 #[vi (2+((((mk8 s)).getD 0 0) % 126)),vi 0,vi (((((mk8 s)).getD 2 0) / 2) % 400),vi (((((mk8 s)).getD 3 0) / 4) % 24), .bool (((((mk8 s)).getD 2 0) % 3)==1), .slice A42_27 rr.length c42_27] | _=>True) [0,1,2,4] [1,2,6,7,12] [(61,0,12,73)] hst27 ?_ ?_ ?_
  ·exact fun ix _ _ _ _ _ _ hs hb hx h=>match ix,h with
   | 12,h=>by dsimp only; rw [← hx 4 rfl]; exact h
   | 0, _ | 1, _ | 2, _ | 3, _ | 4, _ | 5, _ | 6, _ | 7, _ | 8, _ | 9, _ | 10, _ | 11, _ | _+13, _=>trivial
  ·refine ⟨?_,?_,?_,?_,?_,trivial⟩
   ·exact xs4 rfl id fun cx=>run_indexSl (e:=3) (m:=2) rfl (by kernel_rfl) (by kernel_rfl) (cx.an 0) (cx.co _) (by omega) (by omega) (At.of_own (cx.ri 1 rfl)) (by simp [mk8_len,curL_len])
   ·exact xs4 rfl id fun cx=>run_load1 rfl (by kernel_rfl) (cx.an 1) (At.cellAd (At.of_own (cx.ri 1 rfl)) (getD_int (by omega)))
   ·exact xs4 rfl id fun cx=>run_indexSl (e:=3) (m:=3) rfl (by kernel_rfl) (by kernel_rfl) (cx.an 5) (cx.co _) (by omega) (by omega) (At.of_own (cx.ri 1 rfl)) (by simp [mk8_len,curL_len])
   ·exact xs4 rfl id fun cx=>run_load1 rfl (by kernel_rfl) (cx.an 6) (At.cellAd (At.of_own (cx.ri 1 rfl)) (getD_int (by omega)))
   ·refine svA fun ρ β W X cx=>?_
    exact dv_store (n:=2) rfl (cx.an 11) (cx.an 10) (by kernel_rfl) (by kernel_rfl) (by kernel_rfl) cx (cx.init 3 _ rfl) rfl (nle rfl) (by kernel_rfl) rfl rfl rfl (fun σ β' X' hs hb hx=>hx)
  intro σ β X W59 hD hst59 fr hfr
  simp only [exq 4 ((dTn (hD 12 lq)))] at hst59
  clear hD; subst hfr; clear σ β X
  refine then_normal (wp_seq (sqr ?_))
  refine sqlb 3 6 hst59 ?_
  refine sqst (n:=6) 0 #[vi (2+((((mk8 s)).getD 0 0) % 126)),vi 0,vi (((((mk8 s)).getD 2 0) / 2) % 400),vi (((((mk8 s)).getD 3 0) / 4) % 24), .bool (((((mk8 s)).getD 2 0) % 3)==1), .slice A42_27 rr.length c42_27] hst59 fun W61 hst61=>?_
  refine then_normal (wp_ret ?_)
  refine bpr (.agg #[vi (2+((((mk8 s)).getD 0 0) % 126)),vi 0,vi (((((mk8 s)).getD 2 0) / 2) % 400),vi (((((mk8 s)).getD 3 0) / 4) % 24), .bool (((((mk8 s)).getD 2 0) % 3)==1), .slice A42_27 rr.length c42_27]) (results_cell (n:=6) Tryz.results119 rfl (by kernel_rfl) (by kernel_rfl) (hst61.blk 0 rfl) rfl) ?_
  exact VerPost.of rfl (by rw [vmaxF,hs33]; rfl) (by rw [vpgF,hs58]; rfl) (by rw [vslF,hs58]; rfl) rfl hrr (hst61.own' 2 rfl) hst61.ext
 have hs58p:=beq_eq_false_iff_ne.1 hs58
 refine wp_skip (then_normal (wp_seq (sqr ?_)))
 refine sqlb 3 6 hst27 ?_
 refine sqst (n:=6) 0 #[vi (2+((((mk8 s)).getD 0 0) % 126)),vi 0,vi (-1),vi 0, .bool (((((mk8 s)).getD 2 0) % 3)==1), .slice A42_27 rr.length c42_27] hst27 fun W63 hst63=>?_
 refine then_normal (wp_ret ?_)
 refine bpr (.agg #[vi (2+((((mk8 s)).getD 0 0) % 126)),vi 0,vi (-1),vi 0, .bool (((((mk8 s)).getD 2 0) % 3)==1), .slice A42_27 rr.length c42_27]) (results_cell (n:=6) Tryz.results119 rfl (by kernel_rfl) (by kernel_rfl) (hst63.blk 0 rfl) rfl) ?_
 exact VerPost.of rfl (by rw [vmaxF,hs33]; rfl) (by rw [vpgF,hs58]; rfl) (by rw [vslF,hs58]; rfl) rfl hrr (hst63.own' 2 rfl) hst63.ext
end
section
open Go.RowKit
theorem old_any (hz x:Int) (tt:TypeId) (tv:Value) (g:Int→Int) (w:World) (hS:StOk w tt tv g):
  Calls Tryz.prog 134 #[.int .i64 x, .int .i64 hz, .iface tt (tv)] w (Ret (.bool (oldF g hz x)) w):=by
 obtain ⟨f0,rv,hM,hC,hG⟩:=hS.ex
 go_enter Tryz.func134,Tryz.ntmps134
 have hst0:=St.start w
 refine wp_seq (sqr (sqp [.k 6 (.bool false)] ?_))
 refine then_normal (wp_seq (sqr (sqp [.m 7 0] ?_)))
 refine sqk (.bool (onF x)) hst0 (fun cx=>⟨_,ton_any x _,(map1 (cx.ou 7))⟩) fun W3 hst3=>?_
 refine sqp [.m 9 8] ?_
 refine sqwW 9 [10,11,12] ?_ hst3 rfl (fun hq=>?_) fun W8 hst8=>?_
 rotate_left
 ·refine sqp [.m 10 0, .m 11 1] ?_
  refine sqk (.bool (beforeF x hz)) hst3 (fun cx=>⟨_,cbefore_any x hz _,(map2 (cx.ou 10) (cx.ou 11))⟩) fun W7 hst7=>?_
  exact sqE hst7
 refine sqwx ?_
 refine sqp [sPa 13 (onF x) (beforeF x hz), .m 14 13] ?_
 refine sqwW 14 [15,16,17,18] ?_ hst8 rfl (fun hq=>?_) fun W15 hst15=>?_
 rotate_left
 ·refine sqp [.m 15 2, .m 16 0] ?_
  refine sqv (vi (g x)) hst8 (sv_call rfl rfl rfl rfl rfl (fun _ _ _ h=>h) fun ρ β W X cx=>⟨_, _,run_invoke (args:=#[vi x]) (args':=#[rv,vi x]) rfl rfl (cx.ou 15) hM hC (map1 (cx.ou 16)) rfl,hG _ x cx.upd.to_ext⟩) fun W13 hst13=>?_
  refine sqp [.k 18 (.bool ((g x)==2))] ?_
  exact sqE hst13
 refine sqwx ?_
 refine sqp [sPa 19 ((onF x)&&(beforeF x hz)) ((g x)==2), .m 6 19] ?_
 refine then_normal (wp_ret ?_)
 refine bpr (.bool (((onF x)&&(beforeF x hz))&&((g x)==2))) (results_1 Tryz.results134 rpt) ?_
 exact Ret.bool (by simp_all [oldF]) hst15.ext
theorem dead_any (a b n1 n2:Int) (ho:Bool) (RA:Option Addr) (rn rc:Nat) (hz:Int) (tt:TypeId) (tv:Value) (g:Int→Int) (w:World) (hS:StOk w tt tv g):
  Calls Tryz.prog 62 #[.agg #[.int .i64 a, .int .i64 b, .int .i64 n1, .int .i64 n2, .bool ho, .slice RA rn rc], .int .i64 hz, .iface tt (tv)] w (Ret (.bool (deadF g hz a b)) w):=by
 obtain ⟨f0,rv,hM,hC,hG⟩:=hS.ex
 go_enter Tryz.func62,Tryz.ntmps62
 have hst0:=St.start w
 refine wp_seq (sqr ?_)
 refine sqbx #[vi a,vi b,vi n1,vi n2, .bool ho, .slice RA rn rc] hst0 fun B3_1 W1 hst1=>?_
 refine sqp [.k 6 (.bool false)] ?_
 refine then_normal (wp_seq (sqr (sqp [.m 7 2, .k 8 (vp B3_1)] ?_)))
 refine sqld 0 hst1 ?_
 refine sqv (vi (g a)) hst1 (sv_call rfl rfl rfl rfl rfl (fun _ _ _ h=>h) fun ρ β W X cx=>⟨_, _,run_invoke (args:=#[vi a]) (args':=#[rv,vi a]) rfl rfl (cx.ou 7) hM hC (map1 (cx.ou 9)) rfl,hG _ a cx.upd.to_ext⟩) fun W6 hst6=>?_
 refine sqp [.k 11 (.bool ((g a)==3)), .m 12 11] ?_
 refine sqwW 12 [13,14,15,16,17] ?_ hst6 rfl (fun hq=>?_) fun W14 hst14=>?_
 rotate_left
 ·refine sqp [.k 13 (.pointer (some ⟨B3_1,1,none⟩))] ?_
  refine sqld 0 hst6 ?_
  refine sqp [.m 15 1, .m 16 2] ?_
  refine sqk (.bool (oldF g hz b)) hst6 (fun cx=>⟨_,old_any hz b _ _ _ _ (hS.ext cx.upd.to_ext),(map3 (cx.ou 14) (cx.ou 15) (cx.ou 16))⟩) fun W13 hst13=>?_
  exact sqE hst13
 refine sqwx ?_
 refine sqp [sPo 18 ((g a)==3) (oldF g hz b), .m 6 18] ?_
 refine then_normal (wp_ret ?_)
 refine bpr (.bool (((g a)==3)||(oldF g hz b))) (results_1 Tryz.results62 rpt) ?_
 exact Ret.bool (by simp_all [deadF]) hst14.ext
end
section
open Go.RowKit
/-- the package's variable none -/
def NoneAt (w:World):Prop:=At w (some ⟨0,0,none⟩) [.int .i64 (-1), .int .i64 0]
end
section
open Go.RowKit
theorem ex_all (s:ByteArray):s.extract 0 s.size=s:=by
 apply ByteArray.ext
 simp
def textO (s:ByteArray):ByteArray:=putS s.size 2++s
section
variable {P:Program} {o:Oper} {ρ:Operand→Value} {W:World}
theorem run_eqTID {x y:Operand} {a b c d:Int} (h:o.op= .binOp .eql 24 x y 24) (hx:ρ x= .agg #[.int .i64 a, .int .i64 b]) (hy:ρ y= .agg #[.int .i64 c, .int .i64 d]):
  (execOp ρ o).run Tryz.prog W= .ok (.value (.bool (a==c&&b==d))) W:=by
 unfold execOp; rw [h]
 simp [go_sem,hx,hy]
 by_cases h1:a=c<;>by_cases h2:b=d<;>simp [h1,h2]
theorem run_slice_all {P:Program} {t:TypeId} {x y:Operand} {s:ByteArray} {k:IntKind} {j:Int} (h:o.op= .slice t x none (some y) none) (ht:P.underlying t=some .string) (hx:ρ x= .string s) (hy:ρ y= .int k j) (hj:j=(s.size:Int)):
  (execOp ρ o).run P W= .ok (.value (.string s)) W:=by
 have e:=run_slice_hi (P:=P) (W:=W) h ht hx hy hj (Nat.le_refl _)
 rw [ex_all] at e
 exact e
end
theorem otext_any (s:ByteArray) (w:World) (hs:s.size≤65535):
  Calls Tryz.prog 150 #[.string s] w (Ret (.string (textO s)) w):=by
 have hp:=putS_size (s.size:Int) 2 (by omega)
 go_enter Tryz.func150,Tryz.ntmps150
 have hst0:=St.start w
 refine wp_seq (sqr (sqp [.k 2 (.string ⟨#[]⟩)] ?_))
 refine then_normal (wp_seq (sqr (sqp [.m 3 0, .m 4 0, .k 5 (vi ((s.size:Int)))] ?_)))
 refine sql (vi ((s.size:Int))) hst0 (fun cx=>run_min2 rfl (cx.ou 5) (cx.co _) (by omega)) ?_
 refine sql (.string s) hst0 (fun cx=>run_slice_all rfl (by kernel_rfl) (cx.ou 3) (cx.ou 6) (by omega)) ?_
 refine sqp [.m 0 7] ?_
 refine then_normal (wp_seq (sqr (sqp [.m 8 0, .k 9 (vi ((s.size:Int)))] ?_)))
 refine sqk (.string (putS (s.size:Int) 2)) hst0 (fun cx=>⟨_,oput2_any (s.size:Int) _,(map2 (cx.ou 9) (cx.co _))⟩) fun W10 hst10=>?_
 refine sqp [.m 11 0,sS 12 (putS (s.size:Int) 2) s (by omega), .m 2 12] ?_
 refine then_normal (wp_ret ?_)
 refine bpr (.string ((putS (s.size:Int) 2)++s)) (results_1 Tryz.results150 rpt) ?_
 exact Ret.of rfl hst10.ext
end
section
open Go.RowKit
theorem Tryz.sizeSb:(Tryz.prog.info? 286).map (·.size)=some 2:=by kernel_rfl
theorem sbcheck_used (b:Nat) (w:World) (h0:w.cell? ⟨b,0,none⟩=some (.pointer (some ⟨b,0,none⟩))):
  Calls Tryz.prog 235 #[.pointer (some ⟨b,0,none⟩)] w fun e w'=>e= .returned (.tuple #[])∧w'=w:=by
 obtain ⟨j,hj, _⟩:=Option.map_eq_some_iff.1 Tryz.sizeSb
 go_enter Tryz.func235,Tryz.ntmps235
 go_wp2
 rw [Lib.run_neq_ptr_same w _ Tryz.underlying284 hj]
 go_wp2
 go_end0
 exact ⟨rfl,rfl⟩
theorem sbcheck_fresh (b:Nat) (w:World) (h0:w.cell? ⟨b,0,none⟩=some (.pointer none)) (hsh:w.shape? b=some (286,2)) (hfz:w.frozen? ⟨b,0,none⟩=false):
  Calls Tryz.prog 235 #[.pointer (some ⟨b,0,none⟩)] w fun e w'=>e= .returned (.tuple #[])∧w'=w.setCell ⟨b,0,none⟩ (.pointer (some ⟨b,0,none⟩)):=by
 obtain ⟨j,hj,hjs⟩:=Option.map_eq_some_iff.1 Tryz.sizeSb
 go_enter Tryz.func235,Tryz.ntmps235
 go_wp2
 rw [Lib.run_to_unsafe w ⟨b,0,none⟩ Tryz.underlying284 Tryz.underlying335 hj (by rw [hjs]; decide) hsh (Nat.zero_lt_succ 1)]
 simp only [Result.andThen]
 rw [Oper.upon_value]
 go_wp2
 rw [run_callFunc_extern Tryz.func251 (by kernel_rfl) (by kernel_rfl) (by kernel_rfl) (e:=Extern.AbiNoEscape.same) (by kernel_rfl)]
 rw [Lib.run_noEscape]
 simp only [Result.andThen]
 rw [Oper.upon_value]
 go_wp2
 rw [Lib.run_from_unsafe w ⟨b,0,none⟩ Tryz.underlying335 Tryz.underlying284 hj hsh (by kernel_rfl)]
 simp only [Result.andThen]
 rw [Oper.upon_value]
 go_wp2
 go_end0
 exact ⟨rfl,rfl⟩
/-- copyCheck: the builder's block alone may turn -/
theorem sbcheck_any (b:Nat) (p v:Value) (w:World) (hb:Blk w b 286 #[p,v]) (hp:p= .pointer none∨p= .pointer (some ⟨b,0,none⟩)):
  Calls Tryz.prog 235 #[.pointer (some ⟨b,0,none⟩)] w fun e w'=>e= .returned (.tuple #[])∧Blk w' b 286 #[.pointer (some ⟨b,0,none⟩),v]∧Upd [b] w w':=by
 rcases hp with rfl | rfl
 ·refine (sbcheck_fresh b w (hb.cell 0) (by unfold Blk at hb; simp [World.shape?,hb]) (hb.frozen 0)).mono ?_
  rintro e w' ⟨rfl,rfl⟩
  exact ⟨rfl,hb.set_ 0 _,(Upd.refl [b] w).set (p:=⟨b,0,none⟩) (.inl (by simp)) _⟩
 ·refine (sbcheck_used b w (hb.cell 0)).mono ?_
  rintro e w' ⟨rfl,rfl⟩
  exact ⟨rfl,hb,Upd.refl _ _⟩
end
section
open Go.RowKit
theorem own_lower {w:World} {base:Nat} {e:TypeId} {sz:Nat} {v:Value} {n:Nat} {xs:List Value} (h:w.ownsRow base e sz v n xs):w.ownsRow 0 e sz v n xs:=by
 refine ⟨h.1,?_⟩
 rcases h.2 with hn | ⟨g,cap,cur,hv, _,rest⟩
 ·exact .inl hn
 ·exact .inr ⟨g,cap,cur,hv,Nat.zero_le _,rest⟩
theorem run_append_str1 {P:Program} (w:World) (t u ty e:TypeId) (i:TypeInfo) (ht:P.underlying t=some (.slice e)) (hu:P.underlying u=some .string) (hi:P.info? e=some i) (hz:i.zero=some (.int .u8 0))
  (hsize:i.size=1) (hby:i.bytes=1) (v:Value) (n:Nat) (xs:List Value) (hown:w.ownsRow 0 e 1 v n xs) (s:ByteArray) (h63:n+s.size≤maxLen) (hbytes:n+s.size≤140737488355328):
  ∃ v' w',(Builtin.append_ #[t,u] ty #[v, .string s]).run P w= .ok v' w'∧w'.ownsRow 0 e 1 v' (n+s.size) (xs++Lib.strCells s)∧w.grownBy w' v.ownBlock∧(∀ k,v'.ownBlock=some k→v.ownBlock=some k∨w.heap.size≤k):=by
 have hsm:n+s.size≤9223372036854775807:=by simp only [maxLen] at h63; omega
 have h1:=hown.1
 rcases hown.2 with ⟨rfl,rfl⟩ | ⟨g,cap,cur,rfl,hbg,hg,hnc,hcm,hcs,htake⟩
 ·obtain ⟨v',w',hr,h2,h3,h4⟩:=Lib.run_append_own_string (P:=P) w w.heap.size t u ty e i ht hu hi hz hsize hby _ _ xs ⟨hown.1, .inl ⟨rfl,rfl⟩⟩ s h63 hbytes (Nat.le_refl _)
  exact ⟨v',w',hr,own_lower h2,h3,fun k hk=> .inr (own_block h2 k hk)⟩
 ·obtain ⟨v',w',hr,h2,h3,h4⟩:=Lib.run_append_own_string (P:=P) w 0 t u ty e i ht hu hi hz hsize hby _ _ xs hown s h63 hbytes (Nat.zero_le _)
  refine ⟨v',w',hr,h2,h3,fun k hk=>?_⟩
  by_cases hroom:n+s.size≤cap
  ·have hr':=Lib.run_append_room_string (P:=P) w t u ty e i ht hu hi hsize g n cap cur hg s hroom (by omega)
   rw [hr'] at hr
   injection hr with e1 e2
   subst e1
   exact .inl hk
  ·have hr':=Lib.run_append_grow_string (P:=P) w t u ty e i (.int .u8 0) ht hu hi hz ⟨g,0,none⟩ n cap xs (by rw [hsize]; simpa using h1) (hown.cells (g:=g) rfl) s (by omega) (by omega) (by rw [hby]; exact growslice_fits (by omega) (by omega))
   rw [hr'] at hr
   injection hr with e1 e2
   subst e1
   right
   have h5:some w.heap.size=some k:=hk
   injection h5 with h5
   omega
section
variable {P:Program} {ops:Array Oper} {L:List Nat} {a0:Act} {w0:World} {bor:List Nat} {X0:List Ent} {us cr kl:List (List Nat)}
 {D:Nat→(Tmp→Value)→(Tmp→Value)→(Nat→Ent)→Prop} {i:Nat} {o:Oper} {ρ:Operand→Value} {β:Tmp→Value} {W:World} {X:Nat→Ent}
end
end
section
open Go.RowKit
/-- block g is a row whose first cells are the bytes L; no cell of it is frozen -/
def BRow (W:World) (g:Nat) (t:TypeId) (L:List Int):Prop:=∃ (cur:Array Value) (m:Nat),W.heap[g]? =some (.cells cur t (m,m+1))∧cur.size=m∧L.length≤m∧∀ j,j < L.length→cur[j]? =some (.int .u8 (L.getD j 0))
theorem BRow.cell {W:World} {g:Nat} {t:TypeId} {L:List Int} (h:BRow W g t L) {j:Nat} (hj:j < L.length):W.cell? ⟨g,j,none⟩=some (.int .u8 (L.getD j 0)):=by
 obtain ⟨cur,m,hh,hm,hl,hc⟩:=h
 rw [cell_of_row W g j cur t _ hh]
 exact hc j hj
def eW (g:Nat) (t:TypeId) (L:List Int):Ent:=⟨[g],fun W=>BRow W g t L⟩
theorem eW_loc (g:Nat) (t:TypeId) (L:List Int):(eW g t L).loc:=fun W W' h ⟨cur,m,hh,r⟩=>⟨cur,m,(h g (by simp [eW])).trans hh,r⟩
def bI (s:ByteArray):List Int:=s.data.toList.map fun b=>(b.toNat:Int)
theorem bI_len (s:ByteArray):(bI s).length=s.size:=by rw [bI,List.length_map,Array.length_toList]; rfl
def sK:Value→Nat
 | .slice _ n c=>c - n
 | _=>0
section
variable {P:Program} {ops:Array Oper} {L:List Nat} {a0:Act} {w0:World} {bor:List Nat} {X0:List Ent} {us cr kl:List (List Nat)}
 {D:Nat→(Tmp→Value)→(Tmp→Value)→(Nat→Ent)→Prop} {i:Nat} {o:Oper} {ρ:Operand→Value} {β:Tmp→Value} {W:World} {X:Nat→Ent}
theorem CtxV.brow {q g t:Nat} {M:List Int} (cx:CtxV ops L a0 w0 bor X0 us D i ρ β W X) (hX:X q=eW g t M) (hu:(atV us i).contains q=true):BRow W g t M:=by
 have h:=(cx.ok q hu).holds
 rw [hX] at h; exact h
/-- a store into an element of an array that is known as a list -/
theorem dv_storeAr {t t':TypeId} {x y:Operand} {b m q q':Nat} {v:Value} {xs xs':List Value} (h:o.op= .store t x y) (hx:ρ x= .pointer (some ⟨b,m,none⟩)) (hy:ρ y=v) (hz:szP P t=some 1) (hn:v.cells=#[v]) (h1:v.oneCell'=true)
  (cx:CtxV ops L a0 w0 bor X0 us D i ρ β W X) (hX:X q=eB b t' xs.toArray) (hu:(atV us i).contains q=true) (hm:m < xs.length) (hd:o.dst=none) (hxs:xs.set m v=xs') (hc:atV cr i=[q']) (hk:atV kl i=[q])
  (hD:∀ (σ β':Tmp→Value) (X':Nat→Ent),(∀ t,σ t=ρ (.tmp t))→(∀ t,β' t=β t)→X' q'=eB b t' xs'.toArray→D i σ β' X'):DoesU P o ρ W (PostV cr kl D i o.dst ρ β W X):=by
 subst hxs
 have hb:=cx.blk hX hu
 have hcell:W.cell? ⟨b,m,none⟩=some xs[m]:=by rw [hb.cell]; simp [hm]
 have hfz:=hb.frozen m
 have hst:=hb.set_ m v
 have e0:xs.toArray.setIfInBounds m v=(xs.set m v).toArray:=by simp
 rw [e0] at hst
 have hrun:(execOp ρ o).run P W= .ok .skip (W.setCell ⟨b,m,none⟩ v):=by
  unfold execOp; rw [h]
  have hsz:v.cells.size=1:=by rw [hn]; rfl
  simp only [hx,hy,Instr.storeAt,Instr.sureAddr,storeVar,Sem.run_bind,Sem.run_pure,Result.andThen_ok,run_size hz,hsz,ne_eq,not_true_eq_false,if_false]
  have e1:(storeCells ⟨b,m,none⟩ v.cells.toList 0).run P W= .ok () (W.setCell ⟨b,m,none⟩ v):=by
   rw [hn]
   have hs1:(Go.store ((⟨b,m,none⟩:Addr).add 0) v).run P W= .ok () (W.setCell ⟨b,m,none⟩ v):=by
    rw [Addr.add_lit]
    unfold Go.store
    cases v<;>first | (simp [Value.oneCell'] at h1; done) | (simp [Sem.run,hcell,hfz])
   show (storeCells ⟨b,m,none⟩ [v] 0).run P W= _
   unfold storeCells
   simp only [Sem.run_bind,hs1,Result.andThen_ok]
   rfl
  rw [e1]
  rfl
 refine DoesU.skip hrun ⟨[eB b t' (xs.set m v).toArray],by rw [hc]; rfl,⟨?_,fun e' he=>?_,List.pairwise_singleton _ _⟩,fun σ β' X' hs hv hb' hbv hx' hN=>hD σ β' X' (fun t=>hs t (by rw [hd]; simp)) (fun t=>hb' t (by rw [hd]; simp)) ?_⟩
 ·rw [hk]
  simp only [List.flatMap_cons,List.flatMap_nil,List.append_nil,hX]
  exact (Upd.refl _ W).set (.inl (by simp [eB])) v
 ·rw [List.mem_singleton] at he
  subst he
  refine ⟨hst,eB_loc _ _ _,fun k hk'=>?_⟩
  have hkb:k=b:=by simpa [eB] using hk'
  subst hkb
  refine ⟨.inl ?_,hst.lt⟩
  rw [hk]
  simp [hX,eB]
 ·rw [hc] at hN
  exact (List.cons.inj hN).1
/-- '[]byte(s)' -/
theorem dv_convS {t t' e:TypeId} {x:Operand} {s:ByteArray} {d:Tmp} {q:Nat} (h:o.op= .convert t t' x) (ht:P.underlying t=some .string) (ht':P.underlying t'=some (.slice e)) (he:P.underlying e=some (.int .u8)) (hx:ρ x= .string s) (hd:o.dst=some d) (hc:atV cr i=[q])
  (hD:∀ (σ β':Tmp→Value) (X':Nat→Ent),(∀ t,t≠d→σ t=ρ (.tmp t))→(∀ t,t≠d→β' t=β t)→σ d= .slice (some ⟨pb' (β' d),0,none⟩) s.size (s.size+sK (β' d))→X' q=eW (pb' (β' d)) e (bI s)→D i σ β' X'):
  DoesU P o ρ W (PostV cr kl D i o.dst ρ β W X):=by
 have hrun:=run_bytes_of_string (P:=P) W t t' e s ht ht' he
 refine DoesU.value (v:= .slice (some ⟨W.heap.size,0,none⟩) s.size (grownCap W s.size 0 e)) (w':=W.drew.alloc (.cells (bytesRow s (grownCap W s.size 0 e)) e ((bytesRow s (grownCap W s.size 0 e)).size,(bytesRow s (grownCap W s.size 0 e)).size+1))) (by unfold execOp; rw [h]; simp only [hx,Sem.run_bind,hrun,Result.andThen_ok,Sem.run_pure]) ?_
 refine ⟨[eW W.heap.size e (bI s)],by rw [hc]; rfl,⟨((Upd.refl _ W).drew).alloc _,fun e' he'=>?_,List.pairwise_singleton _ _⟩,fun σ β' X' hs hv' hb hbv hx' hN=>hD σ β' X' (fun t ht=>hs t (by rw [hd]; simpa using ht.symm)) (fun t ht=>hb t (by rw [hd]; simpa using ht.symm)) ?_ ?_⟩
 ·rw [List.mem_singleton] at he'
  subst he'
  refine ⟨⟨bytesRow s (grownCap W s.size 0 e), _,heap_alloc_new W.drew _,rfl,?_,fun j hj=>?_⟩,eW_loc _ _ _,fun k hk=>?_⟩
  ·rw [bI_len,bytesRow,Array.size_append,Array.size_map]
   exact Nat.le_add_right _ _
  ·rw [bI_len] at hj
   rw [bytesRow_at s _ j hj]
   have:j < s.data.toList.length:=by simpa using hj
   rw [bI,List.getD_eq_getElem?_getD,List.getElem?_eq_getElem (by simpa using hj),Option.getD_some,List.getElem_map,Array.getElem_toList]
  ·have hkb:k=W.heap.size:=by simpa [eW] using hk
   subst hkb
   exact ⟨.inr (Nat.le_refl _),by rw [World.size_alloc]; exact Nat.lt_succ_self _⟩
 ·rw [hv' d hd,hbv d hd]
  have hg:s.size≤grownCap W s.size 0 e:=grownCap_ge W s.size 0 e
  show Value.slice _ _ _=Value.slice _ _ _
  congr 1
  show grownCap W s.size 0 e=s.size+(grownCap W s.size 0 e - s.size)
  omega
 ·rw [hbv d hd]
  rw [hc] at hN
  exact (List.cons.inj hN).1
/-- the address of an element -/
theorem run_indexW {x y:Operand} {t e:TypeId} {g n c m:Nat} {k:IntKind} {j:Int} (h:o.op= .indexAddr t x y) (ht:P.underlying t=some (.slice e)) (hz:szP P e=some 1) (hx:ρ x= .slice (some ⟨g,0,none⟩) n c) (hy:ρ y= .int k j) (hj:j=(m:Int)) (hm:m < n):
  (execOp ρ o).run P W= .ok (.value (.pointer (some ⟨g,m,none⟩))) W:=by
 subst hj
 unfold execOp; rw [h]
 have h1:(0:Int)≤(m:Int)∧(m:Int) < (n:Int):=⟨by omega,by omega⟩
 simp only [hx,hy,Instr.indexAt,asIntOf,Sem.run_bind,Sem.run_pure,Result.andThen_ok,run_underlying ht,h1,and_self,if_true,run_size hz]
 simp [Addr.add_lit]
end
end
section
open Go.RowKit
/-- the builder in block b, its bytes xs in a row of its own (block r, none while there is no row) -/
def SbAt (W:World) (b:Nat) (r:Option Nat) (xs:List Value):Prop:=
 ∃ p v,Blk W b 286 #[p,v]∧(p= .pointer none∨p= .pointer (some ⟨b,0,none⟩))∧W.ownsRow 0 5 1 v xs.length xs∧v.ownBlock=r
def eSb (b:Nat) (r:Option Nat) (xs:List Value):Ent:=⟨b::r.toList,fun W=>SbAt W b r xs⟩
def rO (e:Ent):Option Nat:=e.fp[1]?
theorem rO_eSb (b:Nat) (r:Option Nat) (xs:List Value):rO (eSb b r xs)=r:=by
 cases r<;>rfl
theorem eSb_loc (b:Nat) (r:Option Nat) (xs:List Value):(eSb b r xs).loc:=fun W W' hk h=>by
 obtain ⟨p,v,h1,h2,h3,h4⟩:=h
 refine ⟨p,v,(hk b (by simp [eSb])).trans h1,h2,?_,h4⟩
 have:=eO_loc 5 1 v xs.length xs W W' (fun k hk'=>hk k (by
  have h5:v.ownBlock=some k:=by simpa [eO] using hk'
  rw [h4] at h5
  simp [eSb,h5])) h3
 exact this
/-- a new builder -/
theorem SbAt.fresh {W:World} {b:Nat} (h:Blk W b 286 #[.pointer none, .slice none 0 0]):SbAt W b none []:=⟨_, _,h, .inl rfl,World.ownsRow_nil _ _ _ _,rfl⟩
theorem SbAt.ne {W:World} {b:Nat} {r:Option Nat} {xs:List Value} (h:SbAt W b r xs):r≠some b:=by
 obtain ⟨p,v,h1,h2,h3,h4⟩:=h
 have:=own_ne h3 h1 (by decide)
 rw [h4] at this
 exact this
theorem wpList_append_str {P:Program} {ops:Array Oper} {rest:List Oper} {o:Oper} {a:Act} {Q:Exit→Act→World→Prop} {w:World} (hgd:o.guard=none) (sl x:Operand) (t u:TypeId)
  (ho:o.op= .call {callee:= .builtin .append,args:=#[sl,x],argTypes:=#[t,u]})
  (e:TypeId) (i:TypeInfo) (ht:P.underlying t=some (.slice e)) (hu:P.underlying u=some .string) (hi:P.info? e=some i) (hz:i.zero=some (.int .u8 0))
  (hsize:i.size=1) (hby:i.bytes=1)
  (v:Value) (n:Nat) (xs:List Value) (hs:a.eval sl=v) (hown:w.ownsRow 0 e 1 v n xs) (s:ByteArray) (hx:a.eval x= .string s)
  (h63:n+s.size≤maxLen) (hbytes:n+s.size≤140737488355328)
  (h:∀ v' w',w'.ownsRow 0 e 1 v' (n+s.size) (xs++Lib.strCells s)→w.grownBy w' v.ownBlock→(∀ k,v'.ownBlock=some k→v.ownBlock=some k∨w.heap.size≤k)→wpList P ops Q rest (a.put o.dst v') w'):wpList P ops Q (o::rest) a w:=by
 refine wpList_plain hgd fun K hK=>?_
 obtain ⟨v',w',hr,h2,h3,h4⟩:=run_append_str1 (P:=P) w t u o.type e i ht hu hi hz hsize hby v n xs hown s h63 hbytes
 unfold Oper.wp execOp
 simp only [ho,resolve,invoke,builtin,Sem.run_bind,Sem.run_pure,Result.andThen_ok,List.map_toArray,List.map_cons,List.map_nil,hs,hx,hr]
 exact hK _ _ (h v' w' h2 h3 h4)
theorem Tryz.infoU8:(Tryz.prog.info? 5).map (fun i=>(i.zero,i.size,i.bytes))=some (some (.int .u8 0),1,1):=by kernel_rfl
/-- what a write leaves -/
def SbPost (b:Nat) (r:Option Nat) (xs:List Value) (w w':World):Prop:=∃ r',SbAt w' b r' xs∧Upd (b::r.toList) w w'∧∀ k,r'=some k→r=some k∨w.heap.size≤k
theorem sbw_any (b:Nat) (r:Option Nat) (xs:List Value) (s:ByteArray) (w:World) (h:SbAt w b r xs) (hlen:xs.length+s.size≤1000000):
  Calls Tryz.prog 186 #[.pointer (some ⟨b,0,none⟩), .string s] w fun e w'=>e= .returned (.tuple #[.int .i64 s.size, .nilIface])∧SbPost b r (xs++Lib.strCells s) w w':=by
 obtain ⟨i0,hi,hz0,hz1,hz2⟩:=info_parts Tryz.infoU8
 have hnb:=h.ne
 obtain ⟨p,v,hbk0,hp,hown0,hr⟩:=h
 subst hr
 go_enter Tryz.func186,Tryz.ntmps186
 go_wp2_with fail
 refine (sbcheck_any b p v w hbk0 hp).mono ?_
 rintro e w1 ⟨rfl,hbk,hb1⟩
 have hown:w1.ownsRow 0 5 1 v xs.length xs:=eO_loc 5 1 v xs.length xs w w1 (fun k hk=>by
  have h5:v.ownBlock=some k:=by simpa [eO] using hk
  exact hb1.block k (own0_block hown0 k h5) (by simp; intro e; exact hnb (by rw [h5,e]))) hown0
 have c0:w1.cell? ⟨b,0,none⟩=some (.pointer (some ⟨b,0,none⟩)):=hbk.cell 0
 have c1:w1.cell? ⟨b,1,none⟩=some v:=hbk.cell 1
 go_wp2_with (at_builtin; refine wpList_append_str rfl _ _ 173 9 rfl 5 i0 Tryz.underlying173 Tryz.underlying9 hi hz0 hz1 hz2 _ _ _ rfl hown s rfl ?c3 ?c4 ?_)
 case c3=>unfold maxLen; omega
 case c4=>omega
 intro v' w2 hown' hgrow hat
 have hb2:Blk w2 b 286 #[.pointer (some ⟨b,0,none⟩),v]:=hbk.grown hgrow (own_ne hown hbk (by decide))
 have d0:w2.cell? ⟨b,0,none⟩=some (.pointer (some ⟨b,0,none⟩)):=hb2.cell 0
 have d1:w2.cell? ⟨b,1,none⟩=some v:=hb2.cell 1
 have f1:w2.frozen? ⟨b,1,none⟩=false:=hb2.frozen 1
 obtain ⟨ao,n',cap,rfl⟩:∃ ao n' cap,v'= .slice ao n' cap:=by
  rcases hown'.2 with ⟨hv, _⟩ | ⟨g,cap,cur,hv, _⟩
  ·exact ⟨_, _, _,hv⟩
  ·exact ⟨_, _, _,hv⟩
 go_wp2
 go_ret2
 refine ⟨rfl, _,⟨_, _,hb2.set_ 1 _, .inr rfl,own_set (by simpa [Lib.strCells_length] using hown') (own_ne hown' hb2 (by decide)) 1 _,rfl⟩,?_,fun k hk=>?_⟩
 ·exact ((hb1.mono (fun k _ hk=>by simp at hk; simp [hk])).grown hgrow (fun k hk=> .inl (by simp [hk]))).set (p:=⟨b,1,none⟩) (.inl (by simp)) _
 ·rcases hat k hk with h | h
  ·exact .inl h
  ·exact .inr (Nat.le_trans hb1.size h)
theorem sbc_any (b:Nat) (r:Option Nat) (xs:List Value) (k:Int) (w:World) (h:SbAt w b r xs) (hlen:xs.length+1≤1000000):
  Calls Tryz.prog 217 #[.pointer (some ⟨b,0,none⟩), .int .u8 k] w fun e w'=>e= .returned .nilIface∧SbPost b r (xs++[.int .u8 k]) w w':=by
 obtain ⟨i0,hi,hz0,hz1,hz2⟩:=info_parts Tryz.infoU8
 have hnb:=h.ne
 obtain ⟨p,v,hbk0,hp,hown0,hr⟩:=h
 subst hr
 go_enter Tryz.func217,Tryz.ntmps217
 go_wp2_with fail
 refine (sbcheck_any b p v w hbk0 hp).mono ?_
 rintro e w1 ⟨rfl,hbk,hb1⟩
 have hown1:w1.ownsRow 0 5 1 v xs.length xs:=eO_loc 5 1 v xs.length xs w w1 (fun k hk=>by
  have h5:v.ownBlock=some k:=by simpa [eO] using hk
  exact hb1.block k (own0_block hown0 k h5) (by simp; intro e; exact hnb (by rw [h5,e]))) hown0
 have c0:w1.cell? ⟨b,0,none⟩=some (.pointer (some ⟨b,0,none⟩)):=hbk.cell 0
 have c1:w1.cell? ⟨b,1,none⟩=some v:=hbk.cell 1
 have hX:Ext w1 (w1.alloc (.cells #[.int .u8 k] 5)):=(Ext.refl w1).alloc _
 have hown:=own_ext hown1 hX
 have hbk':=hbk.ext hX
 go_wp2_with (at_builtin; refine wpl_append _ rfl _ _ 173 rfl 0 5 i0 _ 1 Tryz.underlying173 hi hz0 hz1 hz2 rfl _ _ _ rfl hown _ 1 1 [.int .u8 k] rfl rfl ?c1 (by simp [Value.oneCell']) ?c3 ?c4 (Nat.zero_le _) ?_)
 case c1=>exact At.one_new _ _ _
 case c3=>unfold maxLen; omega
 case c4=>omega
 intro v' w2 hown' hgrow hat
 have hb2:Blk w2 b 286 #[.pointer (some ⟨b,0,none⟩),v]:=hbk'.grown hgrow (own_ne hown hbk' (by decide))
 have d0:w2.cell? ⟨b,0,none⟩=some (.pointer (some ⟨b,0,none⟩)):=hb2.cell 0
 have d1:w2.cell? ⟨b,1,none⟩=some v:=hb2.cell 1
 have f1:w2.frozen? ⟨b,1,none⟩=false:=hb2.frozen 1
 obtain ⟨ao,n',cap,rfl⟩:∃ ao n' cap,v'= .slice ao n' cap:=by
  rcases hown'.2 with ⟨hv, _⟩ | ⟨g,cap,cur,hv, _⟩
  ·exact ⟨_, _, _,hv⟩
  ·exact ⟨_, _, _,hv⟩
 go_wp2
 go_ret
 refine ⟨rfl, _,⟨_, _,hb2.set_ 1 _, .inr rfl,own_set (by simpa using hown') (own_ne hown' hb2 (by decide)) 1 _,rfl⟩,?_,fun k hk=>?_⟩
 ·exact (((hb1.mono (fun k _ hk=>by simp at hk; simp [hk])).alloc _).grown hgrow (fun k hk=> .inl (by simp [hk]))).set (p:=⟨b,1,none⟩) (.inl (by simp)) _
 ·rcases hat with h | h
  ·exact .inl (h.symm.trans hk)
  ·right
   have h6:=h.symm.trans hk
   injection h6 with h6
   have:=hb1.size
   have:=hX.size
   omega
def eBu (b:Nat) (r:Option Nat) (l:List UInt8):Ent:=eSb b r (Lib.byteCells l)
theorem rO_eBu (b:Nat) (r:Option Nat) (l:List UInt8):rO (eBu b r l)=r:=rO_eSb b r _
theorem cells_byte (l:List UInt8) (k:Int) (h:0≤k∧k < 256):Lib.byteCells l++[.int .u8 k]=Lib.byteCells (l++[UInt8.ofNat k.toNat]):=by
 have:((UInt8.ofNat k.toNat).toNat:Int)=k:=by
  rw [UInt8.toNat_ofNat']
  omega
 simp only [Lib.byteCells,List.map_append,List.map_cons,List.map_nil,this]
theorem cells_str (l:List UInt8) (s:ByteArray):Lib.byteCells l++Lib.strCells s=Lib.byteCells (l++s.data.toList):=by simp [Lib.byteCells,Lib.strCells]
theorem byteCells_len (l:List UInt8):(Lib.byteCells l).length=l.length:=by simp [Lib.byteCells]
theorem sbc_l (b:Nat) (r:Option Nat) (l:List UInt8) (k:Int) (w:World) (h:SbAt w b r (Lib.byteCells l)) (hk:0≤k∧k < 256) (hlen:l.length+1≤1000000):
  Calls Tryz.prog 217 #[.pointer (some ⟨b,0,none⟩), .int .u8 k] w fun e w'=>e= .returned .nilIface∧SbPost b r (Lib.byteCells (l++[UInt8.ofNat k.toNat])) w w':=by
 have:=sbc_any b r _ k w h (by rw [byteCells_len]; exact hlen)
 rw [cells_byte l k hk] at this
 exact this
theorem sbw_l (b:Nat) (r:Option Nat) (l:List UInt8) (s:ByteArray) (w:World) (h:SbAt w b r (Lib.byteCells l)) (hlen:l.length+s.size≤1000000):
  Calls Tryz.prog 186 #[.pointer (some ⟨b,0,none⟩), .string s] w fun e w'=>e= .returned (.tuple #[.int .i64 s.size, .nilIface])∧SbPost b r (Lib.byteCells (l++s.data.toList)) w w':=by
 have:=sbw_any b r _ s w h (by rw [byteCells_len]; exact hlen)
 rw [cells_str l s] at this
 exact this
theorem Upd.freeze {S:List Nat} {a b:World} (h:Upd S a b) {p:Addr} (hp:p.block∈S∨a.heap.size≤p.block) (n:Nat):Upd S a (b.freeze p n):=by
 unfold World.freeze
 split
 ·exact h
 ·refine ⟨h.os,h.tape,h.output,by simpa using h.size,fun k hk hn=>?_⟩
  simp only [Array.getElem?_modify]
  rw [if_neg (fun e=>?_)]
  ·exact h.block k hk hn
  ·rcases hp with hp | hp
   ·exact hn (by rw [← e]; exact hp)
   ·omega
section
variable {P:Program} {ops:Array Oper} {L:List Nat} {a0:Act} {w0:World} {bor:List Nat} {X0:List Ent} {us cr kl:List (List Nat)}
 {D:Nat→(Tmp→Value)→(Tmp→Value)→(Nat→Ent)→Prop} {i:Nat} {o:Oper} {ρ:Operand→Value} {β:Tmp→Value} {W:World} {X:Nat→Ent}
theorem CtxV.sb {q b:Nat} {r:Option Nat} {l:List UInt8} (cx:CtxV ops L a0 w0 bor X0 us D i ρ β W X) (hX:X q=eBu b r l) (hu:(atV us i).contains q=true):SbAt W b r (Lib.byteCells l):=by
 have h:=(cx.ok q hu).holds
 rw [hX] at h; exact h
theorem post_sb {v:Value} {W':World} {b q q':Nat} {r:Option Nat} {l:List UInt8} (hX:(X q).fp=b::r.toList) (hc:atV cr i=[q']) (hk:atV kl i=[q]) (hp:SbPost b r (Lib.byteCells l) W W')
  (hD:∀ (σ β':Tmp→Value) (X':Nat→Ent),(∀ t,o.dst≠some t→σ t=ρ (.tmp t))→(∀ t,o.dst≠some t→β' t=β t)→(∀ d,o.dst=some d→σ d=v∧β' d=v)→X' q'=eBu b (rO (X' q')) l→D i σ β' X'):PostV cr kl D i o.dst ρ β W X v W':=by
 obtain ⟨r',hs,hu,hr⟩:=hp
 have hne:=hs.ne
 have hlt:∀ k∈(eBu b r' l).fp,k < W'.heap.size:=fun k hk'=>by
  obtain ⟨p,vv,h1, _,h3,h4⟩:=hs
  simp only [eBu,eSb,List.mem_cons,Option.mem_toList] at hk'
  rcases hk' with rfl | hk'
  ·exact h1.lt
  ·exact own0_block h3 k (by rw [h4]; exact hk')
 refine ⟨[eBu b r' l],by rw [hc]; rfl,⟨?_,fun e he=>?_,List.pairwise_singleton _ _⟩,fun σ β' X' hs' hv hb' hbv hx' hN=>hD σ β' X' hs' hb' (fun d hd=>⟨hv d hd,hbv d hd⟩) ?_⟩
 ·rw [hk]
  simp only [List.flatMap_cons,List.flatMap_nil,List.append_nil,hX]
  exact hu
 ·rw [List.mem_singleton] at he
  subst he
  refine ⟨hs,eSb_loc _ _ _,fun k hk'=>⟨?_,hlt k hk'⟩⟩
  rw [hk]
  simp only [List.flatMap_cons,List.flatMap_nil,List.append_nil,hX]
  simp only [eBu,eSb,List.mem_cons,Option.mem_toList] at hk'
  rcases hk' with rfl | hk'
  ·exact .inl (by simp)
  ·rcases hr k hk' with h | h
   ·exact .inl (by simp [h])
   ·exact .inr h
 ·rw [hc] at hN
  have h1:=(List.cons.inj hN).1
  rw [h1,rO_eBu]
/-- a call that ends an entry -/
theorem post_kill {v:Value} {W':World} {q:Nat} {S:List Nat} (hX:(X q).fp=S) (hc:atV cr i=[]) (hk:atV kl i=[q]) (hu:Upd S W W')
  (hD:∀ (σ β':Tmp→Value) (X':Nat→Ent),(∀ t,o.dst≠some t→σ t=ρ (.tmp t))→(∀ t,o.dst≠some t→β' t=β t)→(∀ d,o.dst=some d→σ d=v∧β' d=v)→D i σ β' X'):PostV cr kl D i o.dst ρ β W X v W':=by
 refine ⟨[],by rw [hc]; rfl,⟨?_,by simp,List.Pairwise.nil⟩,fun σ β' X' hs' hv hb' hbv hx' hN=>hD σ β' X' hs' hb' (fun d hd=>⟨hv d hd,hbv d hd⟩)⟩
 rw [hk]
 simp only [List.flatMap_cons,List.flatMap_nil,List.append_nil,hX]
 exact hu
theorem run_sliceData {x:Operand} {t:TypeId} {a:Addr} {n c:Nat} (h:o.op= .call {callee:= .builtin .unsafeSliceData,args:=#[x],argTypes:=#[t]}) (hx:ρ x= .slice (some a) n c) (hc:0 < c):(execOp ρ o).run P W= .ok (.value (.pointer (some a))) W:=by
 have h0:=Lib.run_unsafeSliceData_row (P:=P) (w:=W) #[t] o.type a n c (by omega)
 unfold execOp; rw [h]
 simp only [resolve,invoke,builtin,Sem.run_bind,Sem.run_pure,Result.andThen_ok,List.map_toArray,List.map_cons,List.map_nil,hx,h0]
/-- unsafe.String over a row of the call's own -/
theorem dv_unsafeStr {x y:Operand} {t u e:TypeId} {g c q:Nat} {d:Tmp} {l:List UInt8} (h:o.op= .call {callee:= .builtin .unsafeString,args:=#[x,y],argTypes:=#[t,u]}) (ht:P.underlying t=some (.pointer e)) (hce:P.cellsOf e=1)
  (hx:ρ x= .pointer (some ⟨g,0,none⟩)) (hy:ρ y= .int .i64 (l.length:Int)) (cx:CtxV ops L a0 w0 bor X0 us D i ρ β W X) (hX:X q=eO e 1 (.slice (some ⟨g,0,none⟩) l.length c) l.length (Lib.byteCells l)) (hu:(atV us i).contains q=true) (hl:l≠[]) (h63:l.length≤9223372036854775807)
  (hd:o.dst=some d) (hc:atV cr i=[]) (hk:atV kl i=[q]) (hD:∀ (σ β':Tmp→Value) (X':Nat→Ent),σ d= .string ⟨l.toArray⟩→D i σ β' X'):DoesU P o ρ W (PostV cr kl D i o.dst ρ β W X):=by
 have hown:=cx.row hX hu
 obtain ⟨hlen,h2⟩:=hown
 have hpos:0 < l.length:=List.length_pos_iff.2 hl
 rcases h2 with ⟨hv,h0⟩ | ⟨g',cap,cur,hv, _,hg,hle,hmx,hcs,htk⟩
 ·omega
 ·injection hv with h1 h2 h3
  injection h1 with h1
  injection h1 with h1
  subst h1 h3
  have hcell:∀ (j:Nat) (x:UInt8),l[j]? =some x→W.cell? ((⟨g,0,none⟩:Addr).add j)=some (.int .u8 x.toNat):=fun j x hj=>by
   have hjl:=(List.getElem?_eq_some_iff.1 hj).1
   rw [Addr.add_lit,Nat.zero_add,cell_of_row W g j cur e _ hg]
   have h5:(cur.toList.take (l.length*1))[j]? =(Lib.byteCells l)[j]? :=by rw [htk]
   rw [List.getElem?_take,if_pos (by omega)] at h5
   rw [← Array.getElem?_toList,h5]
   simp [Lib.byteCells,hj]
  have hrun:=Lib.run_unsafeString_row (P:=P) (w:=W) t u o.type e ht hce g cur.size (by unfold World.shape?; rw [hg]) l hl (by omega) h63 hcell
  refine DoesU.value (v:= .string ⟨l.toArray⟩) (w':=W.freeze ⟨g,0,none⟩ l.length) (by
   unfold execOp; rw [h]
   simp only [resolve,invoke,builtin,Sem.run_bind,Sem.run_pure,Result.andThen_ok,List.map_toArray,List.map_cons,List.map_nil,hx,hy,hrun]) ?_
  refine post_kill (S:=[g]) (by rw [hX]; rfl) hc hk ((Upd.refl _ _).freeze (.inl (by simp)) _) fun σ β' X' _ _ hv=>hD σ β' X' (hv d hd).1
end
theorem St.lent2 {w:World} {b g t e c n:Nat} {cs:Array Value} {xs:List Value} (hb:Blk w b t cs) (ho:w.ownsRow 0 e 1 (.slice (some ⟨g,0,none⟩) n c) n xs) (hne:g≠b):St w [b,g] [eB b t cs,eO e 1 (.slice (some ⟨g,0,none⟩) n c) n xs] w:=by
 refine ⟨Upd.refl _ _,fun x hx=>?_,?_⟩
 ·simp only [List.mem_cons,List.not_mem_nil,or_false] at hx
  rcases hx with rfl | rfl
  ·exact ⟨hb,eB_loc _ _ _,fun k hk=>⟨.inl (by simp [eB] at hk; simp [hk]),by simp [eB] at hk; subst hk; exact hb.lt⟩⟩
  ·exact ⟨ho,eO_loc _ _ _ _ _,fun k hk=>⟨.inl (by simp [eO,Value.ownBlock] at hk; simp [hk]),own0_block ho k (by simpa [eO] using hk)⟩⟩
 ·refine List.pairwise_pair.2 fun k hk hk'=>?_
  simp only [eB,List.mem_cons,List.not_mem_nil,or_false,eO,Value.ownBlock,Option.toList_some] at hk hk'
  omega
theorem sbstr_l (b:Nat) (r:Option Nat) (l:List UInt8) (w:World) (h:SbAt w b r (Lib.byteCells l)) (hl:l≠[]) (h63:l.length≤1000000):
  Calls Tryz.prog 189 #[.pointer (some ⟨b,0,none⟩)] w fun e w'=>e= .returned (.string ⟨l.toArray⟩)∧Upd (b::r.toList) w w':=by
 have hpos:0 < l.length:=List.length_pos_iff.2 hl
 have hbne:=h.ne
 obtain ⟨p,v,hb,hp,hown,hr⟩:=h
 rw [byteCells_len] at hown
 obtain ⟨g,c,hv,hlc⟩:∃ g c,v= .slice (some ⟨g,0,none⟩) l.length c∧l.length≤c:=by
  rcases hown.2 with ⟨hv,h0⟩ | ⟨g',cap,cur,hv, _,hg,hle, _⟩
  ·omega
  ·exact ⟨g',cap,hv,hle⟩
 subst hv hr
 have hne:g≠b:=fun e=>hbne (by simp [Value.ownBlock,e])
 have st0:=St.lent2 hb hown hne
 show Calls _ _ _ w fun e w'=>e= .returned (.string ⟨l.toArray⟩)∧Upd [b,g] w w'
 go_enter Tryz.func189,Tryz.ntmps189
 have hst0:=st0
 refine wp_seq (sqr (sqp [.k 2 (.string ⟨#[]⟩)] ?_))
 refine then_normal (wp_seq (wp_region_Y [0,1,3,7,15,0,32,96,224,480,1023,2047] [[],[],[],[0],[],[],[],[],[0],[],[1]] [] [[],[],[],[],[],[],[],[],[],[],[1]] [.k 3 (vp b), .k 4 (vp b), .k 5 (.pointer (some ⟨b,1,none⟩)), .c 6 (.slice ((some ⟨g,0,none⟩)) l.length c), .c 7 (vp g), .k 8 (vp b), .k 9 (vp b), .k 10 (.pointer (some ⟨b,1,none⟩)), .c 11 (.slice ((some ⟨g,0,none⟩)) l.length c), .k 12 (vi ((l.length:Int))), .a 13, .c 2 (.string ((⟨l.toArray⟩:ByteArray)))] (fun ix σ β X=>match ix with | 0=>True | 1=>True | 2=>True | 3=>True | 4=>True | 5=>True | 6=>True | 7=>True | 8=>True | 9=>True | 10=>σ 13= .string ((⟨l.toArray⟩:ByteArray)) | _=>True) [0] [3,4,8,10,11] [(2,11,1,3),(0,0,11,11)] hst0 ?_ ?_ ?_))
 ·exact fun ix _ _ _ _ _ _ hs hb hx h=>match ix,h with
  | 10,h=>(hs _ rfl).symm.trans h
  | 0, _ | 1, _ | 2, _ | 3, _ | 4, _ | 5, _ | 6, _ | 7, _ | 8, _ | 9, _ | _+11, _=>trivial
 ·refine ⟨?_,?_,?_,?_,?_,trivial⟩
  ·exact xs4 rfl id fun cx=>run_load1 rfl (by kernel_rfl) (cx.an 2) ((cx.bi 0 rfl).cell 1)
  ·exact xs4 rfl id fun cx=>run_sliceData rfl (cx.an 3) (by omega)
  ·exact xs4 rfl id fun cx=>run_load1 rfl (by kernel_rfl) (cx.an 7) ((cx.bi 0 rfl).cell 1)
  ·refine svA fun ρ β W X cx=>?_
   exact dv_unsafeStr (e:=5) rfl (by kernel_rfl) (by kernel_rfl) (cx.an 4) (cx.an 9) cx (cx.init 1 _ rfl) rfl hl (by omega) rfl rfl rfl (fun σ β' X' hs=>hs)
  ·exact xs4 rfl id fun cx=>run_assign' rfl (dTn (cx.an 10))
 intro σ β X W2 hD hst2 fr hfr
 simp only [ed 13 ((dTn (hD 10 lq)))] at hfr
 clear hD; subst hfr; clear σ β X
 refine then_normal (wp_ret ?_)
 refine bpr (.string ((⟨l.toArray⟩:ByteArray))) (results_1 Tryz.results189 rpt) ?_
 exact ⟨rfl,hst2.upd⟩
end
section
open Go.RowKit
theorem cellsV_len (v:Val):(cellsV v).length=3:=rfl
abbrev v0:Val:=(0,0,ByteArray.empty)
def knownF (k:Int):Bool:=decide (0≤k)&&decide (k≤2)
def vrightF (v:Val):Bool:=knownF v.1&&(v.1 != 2||decide (v.2.2.size≤40))
def rrightF (r:List Val):Bool:=r.all vrightF&&decide (r.length≤6)
theorem vright_parts {v:Val} (h:vrightF v=true):0≤v.1∧v.1≤2∧(v.1=2→v.2.2.size≤40):=by
 simp only [vrightF,knownF,Bool.and_eq_true,Bool.or_eq_true,decide_eq_true_eq,bne_iff_ne,ne_eq] at h
 refine ⟨h.1.1,h.1.2,fun e=>?_⟩
 rcases h.2 with h2 | h2
 ·exact absurd e h2
 ·exact h2
theorem rright_bad {r:List Val} {k:Nat} (hk:k < r.length) (h:vrightF (r.getD k v0)=false):rrightF r=false:=by
 rw [rrightF,Bool.and_eq_false_iff]
 left
 rw [List.all_eq_false]
 refine ⟨r[k],List.getElem_mem hk,?_⟩
 rw [List.getD_eq_getElem?_getD,List.getElem?_eq_getElem hk] at h
 simpa using h
theorem rright_step {r:List Val} {k:Nat} (hk:k < r.length) (h:(r.take k).all vrightF=true) (h2:vrightF (r.getD k v0)=true):(r.take (k+1)).all vrightF=true:=by
 rw [List.getD_eq_getElem?_getD,List.getElem?_eq_getElem hk] at h2
 rw [List.take_add_one,List.getElem?_eq_getElem hk,List.all_append,h]
 simpa using h2
theorem rright_end {r:List Val} {k:Nat} (hk:r.length≤k) (h:(r.take k).all vrightF=true):rrightF r=decide (r.length≤6):=by
 rw [List.take_of_length_le hk] at h
 rw [rrightF,h,Bool.true_and]
theorem rright_at {r:List Val} (h:rrightF r=true) {k:Nat} (hk:k < r.length):vrightF (r.getD k v0)=true:=by
 rw [rrightF,Bool.and_eq_true,List.all_eq_true] at h
 rw [List.getD_eq_getElem?_getD,List.getElem?_eq_getElem hk]
 exact h.1 _ (List.getElem_mem hk)
theorem rright_len {r:List Val} (h:rrightF r=true):r.length≤6:=by
 rw [rrightF,Bool.and_eq_true,decide_eq_true_eq] at h
 exact h.2
/-- a value's bytes, a row's bytes -/
def valB (v:Val):List UInt8:=UInt8.ofNat v.1.toNat::(if v.1=1 then (putS v.2.1 8).data.toList else if v.1=2 then UInt8.ofNat ((v.2.2.size:Nat):Int).toNat::v.2.2.data.toList else [])
def bytesTo (r:List Val) (k:Nat):List UInt8:=UInt8.ofNat ((r.length:Nat):Int).toNat::(r.take k).flatMap valB
def strL (l:List UInt8):ByteArray:=⟨l.toArray⟩
def vbytesF (r:List Val):ByteArray:=if rrightF r=true then strL (bytesTo r r.length) else ByteArray.empty
theorem bt_succ {r:List Val} {k:Nat} (hk:k < r.length):bytesTo r (k+1)=bytesTo r k++valB (r.getD k v0):=by
 rw [List.getD_eq_getElem?_getD,List.getElem?_eq_getElem hk,bytesTo,List.take_add_one,List.getElem?_eq_getElem hk,bytesTo,List.cons_append,List.flatMap_append]
 simp
theorem bt_0 (r:List Val):bytesTo r 0=[UInt8.ofNat ((r.length:Nat):Int).toNat]:=rfl
theorem bt_int {r:List Val} {k:Nat} (hk:k < r.length) (h1:(r.getD k v0).1=1):(bytesTo r k++[UInt8.ofNat (r.getD k v0).1.toNat])++(putS (r.getD k v0).2.1 8).data.toList=bytesTo r (k+1):=by
 rw [bt_succ hk,valB,if_pos h1,List.append_assoc]; rfl
theorem bt_text {r:List Val} {k:Nat} (hk:k < r.length) (h1:(r.getD k v0).1≠1) (h2:(r.getD k v0).1=2):((bytesTo r k++[UInt8.ofNat (r.getD k v0).1.toNat])++[UInt8.ofNat ((((r.getD k v0).2.2.size:Nat):Int)).toNat])++(r.getD k v0).2.2.data.toList=bytesTo r (k+1):=by
 rw [bt_succ hk,valB,if_neg h1,if_pos h2,List.append_assoc,List.append_assoc]; rfl
theorem bt_none {r:List Val} {k:Nat} (hk:k < r.length) (h1:(r.getD k v0).1≠1) (h2:(r.getD k v0).1≠2):bytesTo r k++[UInt8.ofNat (r.getD k v0).1.toNat]=bytesTo r (k+1):=by
 rw [bt_succ hk,valB,if_neg h1,if_neg h2]
theorem valB_len {v:Val} (h:vrightF v=true):(valB v).length≤50:=by
 have hp:=vright_parts h
 rw [valB,List.length_cons]
 split
 ·have:=putS_size v.2.1 8 (by omega)
  have h2:(putS v.2.1 8).data.toList.length=8:=by rw [Array.length_toList]; exact this
  omega
 ·split
  ·rename_i h2
   have h3:=hp.2.2 h2
   have h4:v.2.2.data.toList.length=v.2.2.size:=by rw [Array.length_toList]; rfl
   rw [List.length_cons,h4]; omega
  ·simp
theorem flat_le {l:List Val} (h:l.all vrightF=true):(l.flatMap valB).length≤l.length*50:=by
 induction l with
 | nil=>simp
 | cons v l ih=>
   rw [List.all_cons,Bool.and_eq_true] at h
   have h1:=ih h.2
   have h2:=valB_len h.1
   rw [List.flatMap_cons,List.length_append,List.length_cons,Nat.add_mul]
   omega
theorem bt_len {r:List Val} (h:rrightF r=true) (k:Nat):(bytesTo r k).length≤301:=by
 have hl:=rright_len h
 rw [rrightF,Bool.and_eq_true] at h
 have h1:(r.take k).all vrightF=true:=by
  rw [List.all_eq_true] at h ⊢
  exact fun x hx=>h.1 x (List.mem_of_mem_take hx)
 have h2:=flat_le h1
 have h3:(r.take k).length≤6:=by rw [List.length_take]; omega
 rw [bytesTo,List.length_cons]
 have h4:(r.take k).length*50≤6*50:=Nat.mul_le_mul_right _ h3
 omega
theorem bt_ne (r:List Val) (k:Nat):bytesTo r k≠[]:=by rw [bytesTo]; exact List.cons_ne_nil _ _
theorem vwhole_any (n:Int) (w:World):Calls Tryz.prog 218 #[.int .u64 (IntKind.u64.wrap n)] w (Ret1 (.string (putS n 8)) w):=by
 have hcv:=run_cv_oct n 8 (by omega) 0 rfl w w.heap.size rfl _ 315 rfl
 simp only [oct8,List.map_cons,List.map_nil] at hcv
 go_enter Tryz.func218,Tryz.ntmps218
 go_wp2_with fail
 refine wp_loop_rounds 9 ?_
 rw [rounds_succ]; go_wp2_with fail
 rw [rounds_succ]; go_wp2_with fail
 rw [rounds_succ]; go_wp2_with fail
 rw [rounds_succ]; go_wp2_with fail
 rw [rounds_succ]; go_wp2_with fail
 rw [rounds_succ]; go_wp2_with fail
 rw [rounds_succ]; go_wp2_with fail
 rw [rounds_succ]; go_wp2_with fail
 rw [rounds_succ]; go_wp2_with fail
 go_ret
 exact ⟨rfl,(Ext.refl w).alloc _⟩
theorem vknown_any (k:Int) (w:World):
  Calls Tryz.prog 204 #[.int .i64 k] w (Ret (.bool (knownF k)) w):=by
 go_enter Tryz.func204,Tryz.ntmps204
 have hst0:=St.start w
 refine wp_seq (sqr (sqp [.k 2 (.bool false)] ?_))
 refine then_normal (wp_seq (sqr (sqp [.m 3 0, .k 4 (.bool (decide (0≤k))), .m 5 4] ?_)))
 refine sqw 5 [6,7] rfl (fun _=>sqp [.m 6 0, .k 7 (.bool (decide (k≤2)))] sqe) ?_
 refine sqp [sPa 8 (decide (0≤k)) (decide (k≤2)), .m 2 8] ?_
 refine then_normal (wp_ret ?_)
 refine bpr (.bool ((decide (0≤k))&&(decide (k≤2)))) (results_1 Tryz.results204 rpt) ?_
 exact Ret.bool (by simp_all [knownF]<;>omega) hst0.ext
theorem vright_any (v:Val) (w:World):
  Calls Tryz.prog 214 #[.agg #[.int .i64 v.1, .int .i64 v.2.1, .string v.2.2]] w (Ret (.bool (vrightF v)) w):=by
 go_enter Tryz.func214,Tryz.ntmps214
 have hst0:=St.start w
 refine wp_seq (sqr ?_)
 refine sqbx #[vi v.1,vi v.2.1, .string v.2.2] hst0 fun B1_1 W1 hst1=>?_
 refine sqp [.k 2 (.bool false)] ?_
 refine then_normal (wp_seq (sqr (sqp [.k 3 (vp B1_1)] ?_)))
 refine sqld 0 hst1 ?_
 refine sqk (.bool (knownF v.1)) hst1 (fun cx=>⟨_,vknown_any v.1 _,(map1 (cx.ou 4))⟩) fun W5 hst5=>?_
 refine sqp [.m 6 5] ?_
 refine sqw' 6 [7,8,9,10,11,12,13,14,15] ?_ rfl (fun hq=>?_) ?_
 rotate_left
 ·refine sqp [.k 7 (vp B1_1)] ?_
  refine sqld 0 hst5 ?_
  refine sqp [.k 9 (.bool (v.1 != 2)), .m 10 9] ?_
  refine sqw' 10 [11,12,13,14] ?_ rfl (fun hq=>?_) ?_
  rotate_left
  ·refine sqp [.k 11 (.pointer (some ⟨B1_1,2,none⟩))] ?_
   refine sqld 0 hst5 ?_
   refine sqp [.k 13 (vi ((v.2.2.size:Int))), .k 14 (.bool (decide ((v.2.2.size:Int)≤40)))] ?_
   exact sqe
  refine sqwx ?_
  refine sqp [sPo 15 (v.1 != 2) (decide ((v.2.2.size:Int)≤40))] ?_
  exact sqe
 refine sqwx ?_
 refine sqp [sPa 16 (knownF v.1) ((v.1 != 2)||(decide ((v.2.2.size:Int)≤40))), .m 2 16] ?_
 refine then_normal (wp_ret ?_)
 refine bpr (.bool ((knownF v.1)&&((v.1 != 2)||(decide ((v.2.2.size:Int)≤40))))) (results_1 Tryz.results214 rpt) ?_
 exact Ret.bool (by simp only [vrightF]; congr 2; exact decide_eq_decide.2 (by omega)) hst5.ext
theorem vrow_any (RA:Option Addr) (rc:Nat) (r:List Val) (w:World) (hA:At w RA (flatR r)) (hlr:r.length≤9223372036854775807):
  Calls Tryz.prog 216 #[.slice RA r.length rc] w (Ret (.bool (rrightF r)) w):=by
 go_enter Tryz.func216,Tryz.ntmps216
 have hst0:=St.start w
 refine wp_seq (sqr (sqp [.k 2 (.bool false)] ?_))
 refine then_normal (wp_seq (wp_seq (sqr (sqp [.m 5 0, .k 6 (vi ((r.length:Int))), .k 7 (vi 0)] ?_))))
 refine then_normal (wp_block ?_)
 refine wp_loopT (fun t_ mz az W=>∃ k:Nat,k≤r.length∧(r.take k).all vrightF=true∧mz=r.length - k∧az=⟨(ovr (jv az) [(2,2,1,[]),(1,4,1,[]),(2,7,0,[vi ((k:Int))]),(0,8,7,[])] t_).toArray,[]⟩∧St w [] [] W) (r.length - 0) ?_ ?_
 · -- the loop begins
   exact ⟨0,by omega,rfl,rfl,(by kernel_rfl),hst0.pk []⟩
 rintro n5 a5 W5 ⟨k,hkl,hka,rfl,hj_,hst5⟩
 refine ovz hj_ fun u5_=>?_
 refine wp_seq (sqr (sqp [.k 8 (.bool (decide ((k:Int) < (r.length:Int))))] ?_))
 refine then_normal (wp_seq (wds (fun hs7 hs7p=>?_) fun hs7 hs7p=>?_))
 ·refine wp_skip (then_normal (wp_seq (wp_block (wp_seq (sqr ?_)))))
  refine sql (.pointer (some ((ad RA).add (k*3)))) hst5 (fun cx=>run_indexSlM (e:=45) (m:=k) (sz:=3) rfl (by kernel_rfl) (by kernel_rfl) (cx.ou 5) (cx.ou 7) (by omega) (by omega) (hA.ext cx.upd.to_ext) (flatPos (sz:=3) cellsV_len (by decide) (by omega))) ?_
  refine sql (.agg #[vi ((r.getD k v0).1),vi ((r.getD k v0).2.1), .string ((r.getD k v0).2.2)]) hst5 (fun cx=>run_loadElt (f:=cellsV) (m:=k) (sz:=3) (off:=0) (n:=3) rfl (by kernel_rfl) (by kernel_rfl) (cx.ou 9) rfl cellsV_len (hA.ext cx.upd.to_ext) (getD_some (ts:=r) (m:=k) v0 (by omega)) (fun k hk=>match k,hk with | 0, _=>rfl | 1, _=>rfl | 2, _=>rfl | k+3,hk=>absurd hk (by omega))) ?_
  refine sqal #[vi 0,vi 0, .string ByteArray.empty] hst5 fun B4_10 W10 hst10=>?_
  refine sqst (n:=3) 0 #[vi ((r.getD k v0).1),vi ((r.getD k v0).2.1), .string ((r.getD k v0).2.2)] hst10 fun W11 hst11=>?_
  refine then_normal (wp_seq (sqr ?_))
  refine sqlb 0 3 hst11 ?_
  refine sqk (.bool (vrightF (r.getD k v0))) hst11 (fun cx=>⟨_,vright_any (r.getD k v0) _,(map1 (cx.ou 11))⟩) fun W13 hst13=>?_
  refine sqp [.k 13 (.bool (!(vrightF (r.getD k v0))))] ?_
  refine then_normal ?_
  rcases Bool.eq_false_or_eq_true (vrightF (r.getD k v0)) with hs15 | hs15
  ·refine wp_cond_false (show Act.eval _ _= .bool false from (congrArg Value.bool (by rw [hs15]; rfl))) (wp_skip (blk_normal (then_normal (sqr (sqp [sI 14 ((k:Int)+1) (by omega), .m 7 14] ?_)))))
   refine then_normal ?_
   refine ⟨r.length - ((k+1)),by omega,?_⟩
   exact ⟨(k+1),by omega,rright_step (by omega) hka hs15,rfl,(by kernel_rfl),hst13.pk []⟩
  refine wp_cond_true (show Act.eval _ _= .bool true from (congrArg Value.bool (by rw [hs15]; rfl))) (wp_seq (sqr (sqp [.k 2 (.bool false)] ?_)))
  refine then_normal (wp_ret (blk_ret (then_ret (then_ret (blk_ret (then_ret ?_))))))
  refine bpr (.bool false) (results_1 Tryz.results216 rpt) ?_
  exact Ret.bool (rright_bad (by omega) hs15).symm hst13.ext
 refine wp_exit (then_exit (then_exit (blk_eq (then_normal (wp_seq (sqr (sqp [.m 15 0, .k 16 (vi ((r.length:Int))), .k 17 (.bool (decide ((r.length:Int)≤6))), .m 2 17] ?_)))))))
 refine then_normal (wp_ret ?_)
 refine bpr (.bool (decide ((r.length:Int)≤6))) (results_1 Tryz.results216 rpt) ?_
 exact Ret.bool ((rright_end (by omega) hka).trans (by simp only [decide_eq_decide]; omega)).symm hst5.ext
end
section
open Go.RowKit
theorem vbytes_any (RA:Option Addr) (rc:Nat) (r:List Val) (w:World) (hA:At w RA (flatR r)) (hlr:r.length≤9223372036854775807):
  Calls Tryz.prog 151 #[.slice RA r.length rc] w (Ret (.string (vbytesF r)) w):=by
 go_enter Tryz.func151,Tryz.ntmps151
 have hst0:=St.start w
 refine wp_seq (sqr (sqp [.k 2 (.string ⟨#[]⟩)] ?_))
 refine then_normal (wp_seq (wp_seq (sqr (sqp [.m 6 0] ?_))))
 refine sqk (.bool (rrightF r)) hst0 (fun cx=>⟨_,vrow_any _ _ r _ (hA.ext cx.upd.to_ext) (by omega),(map1 (cx.ou 6))⟩) fun W3 hst3=>?_
 refine sqp [.k 8 (.bool (!(rrightF r)))] ?_
 refine then_normal ?_
 rcases Bool.eq_false_or_eq_true (rrightF r) with hs5 | hs5
 ·refine wp_cond_false (show Act.eval _ _= .bool false from (congrArg Value.bool (by rw [hs5]; rfl))) (wp_skip (then_normal (wp_seq ?_)))
  have hr6:=rright_len hs5
  have hR:=Lib.hid hs5
  refine sqr (sqal #[.pointer none, .slice none 0 0] hst3 fun B3_6 W6 hst6=>?_)
  refine then_normal (wp_seq (sqr (sqp [.m 9 0, .k 10 (vi ((r.length:Int))),sW 11 .u8 (r.length:Int) (r.length:Int) (IntWalk.u8_in _ (by omega))] ?_)))
  refine sqc0s (fun X_=>rO X_) (.nilIface) (fun r1_10=>eBu B3_6 r1_10 [UInt8.ofNat (r.length:Int).toNat]) 0 hst6 (by
    refine svA fun ρ β W X cx=>?_
    refine DoesU.call (run_callF (args:=#[vp B3_6, .int .u8 ((r.length:Int))]) rfl cx.sees rfl (by kernel_rfl) (map2 (cx.ou 3) (cx.ou 11))) ?_
    refine (sbc_l _ _ [] _ _ (SbAt.fresh (cx.bi 0 rfl)) (by omega) (by (try simp only [List.length_append,List.length_cons,List.length_nil]); omega)).mono ?_
    rintro e W1 ⟨rfl,hu⟩
    refine ⟨_,rfl,post_sb (by rw [(cx.init 0 _ rfl)]; rfl) rfl rfl hu (fun σ β' X' hs hb hv hx=>?_)⟩
    exact ⟨(hv 12 rfl).1,hx⟩) fun r1_10 W10 hst10=>?_
  refine then_normal (wp_seq (wp_seq (sqr (sqp [.m 13 0, .k 14 (vi ((r.length:Int))), .k 15 (vi 0)] ?_))))
  refine then_normal (wp_block ?_)
  refine wp_loopT (fun t_ mz az W=>∃ k:Nat,∃ rb:Option Nat,k≤r.length∧mz=r.length - k∧az=⟨(ovr (jv az) [(5,5,1,[]),(9,15,0,[vi ((k:Int))]),(0,16,27,[])] t_).toArray,[]⟩∧St w [] [eBu B3_6 rb (bytesTo r k)] W) (r.length - 0) ?_ ?_
  · -- the loop begins
    exact ⟨0,r1_10,by omega,rfl,(by kernel_rfl),hst10.pk [0]⟩
  rintro n14 a14 W14 ⟨k,rb,hkl,rfl,hj_,hst14⟩
  refine ovz hj_ fun u14_=>?_
  have hbl:=bt_len hR.out k
  refine wp_seq (sqr (sqp [.k 16 (.bool (decide ((k:Int) < (r.length:Int))))] ?_))
  refine then_normal (wp_seq (wds (fun hs16 hs16p=>?_) fun hs16 hs16p=>?_))
  ·refine wp_skip (then_normal (wp_seq (wp_block (wp_seq (sqr ?_)))))
   refine sql (.pointer (some ((ad RA).add (k*3)))) hst14 (fun cx=>run_indexSlM (e:=45) (m:=k) (sz:=3) rfl (by kernel_rfl) (by kernel_rfl) (cx.ou 13) (cx.ou 15) (by omega) (by omega) (hA.ext cx.upd.to_ext) (flatPos (sz:=3) cellsV_len (by decide) (by omega))) ?_
   refine sql (.agg #[vi ((r.getD k v0).1),vi ((r.getD k v0).2.1), .string ((r.getD k v0).2.2)]) hst14 (fun cx=>run_loadElt (f:=cellsV) (m:=k) (sz:=3) (off:=0) (n:=3) rfl (by kernel_rfl) (by kernel_rfl) (cx.ou 17) rfl cellsV_len (hA.ext cx.upd.to_ext) (getD_some (ts:=r) (m:=k) v0 (by omega)) (fun k hk=>match k,hk with | 0, _=>rfl | 1, _=>rfl | 2, _=>rfl | k+3,hk=>absurd hk (by omega))) ?_
   refine sqal #[vi 0,vi 0, .string ByteArray.empty] hst14 fun B5_19 W19 hst19=>?_
   refine sqst (n:=3) 1 #[vi ((r.getD k v0).1),vi ((r.getD k v0).2.1), .string ((r.getD k v0).2.2)] hst19 fun W20 hst20=>?_
   refine then_normal (wp_seq ?_)
   have hvp:=vright_parts (rright_at hR.out (k:=k) (by omega))
   have hps:(putS (r.getD k v0).2.1 8).size=8:=putS_size _ 8 (by omega)
   refine sqr (sqp [.k 19 (vp B5_19)] ?_)
   refine sqld 1 hst20 ?_
   refine sqp [sW 21 .u8 ((r.getD k v0).1) ((r.getD k v0).1) (IntWalk.u8_in _ (by omega))] ?_
   refine sqc0s (fun X_=>rO X_) (.nilIface) (fun r2_24=>eBu B3_6 r2_24 (bytesTo r k++[UInt8.ofNat ((r.getD k v0).1).toNat])) 0 hst20 (by
     refine svA fun ρ β W X cx=>?_
     refine DoesU.call (run_callF (args:=#[vp B3_6, .int .u8 ((r.getD k v0).1)]) rfl cx.sees rfl (by kernel_rfl) (map2 (cx.ou 3) (cx.ou 21))) ?_
     refine (sbc_l _ _ (bytesTo r k) _ _ (cx.sb (cx.init 0 _ rfl) rfl) (by omega) (by (try simp only [List.length_append,List.length_cons,List.length_nil]); omega)).mono ?_
     rintro e W1 ⟨rfl,hu⟩
     refine ⟨_,rfl,post_sb (by rw [(cx.init 0 _ rfl)]; rfl) rfl rfl hu (fun σ β' X' hs hb hv hx=>?_)⟩
     exact ⟨(hv 22 rfl).1,hx⟩) fun r2_24 W24 hst24=>?_
   refine then_normal (wp_seq (sqr (sqp [.k 23 (vp B5_19)] ?_)))
   refine sqld 1 hst24 ?_
   refine then_normal (wp_block (wp_seq (sqr (sqp [.k 26 (.bool (((r.getD k v0).1)==1)), .m 25 26] ?_))))
   refine then_normal (wbs (fun hs29=>?_) fun hs29=>?_)
   ·have hs29p:=beq_iff_eq.1 hs29
    refine sqr (sqp [.k 27 (.pointer (some ⟨B5_19,1,none⟩))] ?_)
    refine sqld 1 hst24 ?_
    refine sqp [sW 29 .u64 ((r.getD k v0).2.1) (IntKind.u64.wrap ((r.getD k v0).2.1)) (rfl)] ?_
    refine sqk (.string (putS ((r.getD k v0).2.1) 8)) hst24 (fun cx=>⟨_,vwhole_any ((r.getD k v0).2.1) _,(map1 (cx.ou 29))⟩) fun W33 hst33=>?_
    refine sqc0s (fun X_=>rO X_) (.tuple #[vi (((putS ((r.getD k v0).2.1) 8).size:Int)), .nilIface]) (fun r2_34=>eBu B3_6 r2_34 ((bytesTo r k++[UInt8.ofNat ((r.getD k v0).1).toNat])++(putS ((r.getD k v0).2.1) 8).data.toList)) 0 hst33 (by
      refine svA fun ρ β W X cx=>?_
      refine DoesU.call (run_callF (args:=#[vp B3_6, .string (putS ((r.getD k v0).2.1) 8)]) rfl cx.sees rfl (by kernel_rfl) (map2 (cx.ou 3) (cx.ou 30))) ?_
      refine (sbw_l _ _ (bytesTo r k++[UInt8.ofNat ((r.getD k v0).1).toNat]) _ _ (cx.sb (cx.init 0 _ rfl) rfl) (by (try simp only [List.length_append,List.length_cons,List.length_nil]); omega)).mono ?_
      rintro e W1 ⟨rfl,hu⟩
      refine ⟨_,rfl,post_sb (by rw [(cx.init 0 _ rfl)]; rfl) rfl rfl hu (fun σ β' X' hs hb hv hx=>?_)⟩
      exact ⟨(hv 31 rfl).1,hx⟩) fun r2_34 W34 hst34=>?_
    refine blk_normal (blk_normal (then_normal (sqr (sqp [sI 42 ((k:Int)+1) (by omega), .m 15 42] ?_))))
    refine then_normal ?_
    have hq37:(bytesTo r k++[UInt8.ofNat ((r.getD k v0).1).toNat])++(putS ((r.getD k v0).2.1) 8).data.toList=bytesTo r (k+1):=bt_int (by omega) (by simpa using hs29)
    rw [hq37] at hst34
    refine ⟨r.length - ((k+1)),by omega,?_⟩
    exact ⟨(k+1),r2_34,by omega,rfl,(by kernel_rfl),hst34.pk [0]⟩
   have hs29p:=beq_eq_false_iff_ne.1 hs29
   refine wp_seq (sqr (sqp [.k 33 (.bool (((r.getD k v0).1)==2)), .m 32 33] ?_))
   refine then_normal (wbs (fun hs40=>?_) fun hs40=>?_)
   ·have hs40p:=beq_iff_eq.1 hs40
    refine wp_seq ?_
    have hz40:(r.getD k v0).2.2.size≤40:=hvp.2.2 (by simpa using hs40)
    refine sqr (sqp [.k 34 (.pointer (some ⟨B5_19,2,none⟩))] ?_)
    refine sqld 1 hst24 ?_
    refine sqp [.k 36 (vi ((((r.getD k v0).2.2).size:Int))),sW 37 .u8 (((r.getD k v0).2.2).size:Int) (((r.getD k v0).2.2).size:Int) (IntWalk.u8_in _ (by omega))] ?_
    refine sqc0s (fun X_=>rO X_) (.nilIface) (fun r2_45=>eBu B3_6 r2_45 ((bytesTo r k++[UInt8.ofNat ((r.getD k v0).1).toNat])++[UInt8.ofNat (((r.getD k v0).2.2).size:Int).toNat])) 0 hst24 (by
      refine svA fun ρ β W X cx=>?_
      refine DoesU.call (run_callF (args:=#[vp B3_6, .int .u8 ((((r.getD k v0).2.2).size:Int))]) rfl cx.sees rfl (by kernel_rfl) (map2 (cx.ou 3) (cx.ou 37))) ?_
      refine (sbc_l _ _ (bytesTo r k++[UInt8.ofNat ((r.getD k v0).1).toNat]) _ _ (cx.sb (cx.init 0 _ rfl) rfl) (by omega) (by (try simp only [List.length_append,List.length_cons,List.length_nil]); omega)).mono ?_
      rintro e W1 ⟨rfl,hu⟩
      refine ⟨_,rfl,post_sb (by rw [(cx.init 0 _ rfl)]; rfl) rfl rfl hu (fun σ β' X' hs hb hv hx=>?_)⟩
      exact ⟨(hv 38 rfl).1,hx⟩) fun r2_45 W45 hst45=>?_
    refine then_normal (sqr (sqp [.k 39 (.pointer (some ⟨B5_19,2,none⟩))] ?_))
    refine sqld 1 hst45 ?_
    refine sqc0s (fun X_=>rO X_) (.tuple #[vi ((((r.getD k v0).2.2).size:Int)), .nilIface]) (fun r2_48=>eBu B3_6 r2_48 (((bytesTo r k++[UInt8.ofNat ((r.getD k v0).1).toNat])++[UInt8.ofNat (((r.getD k v0).2.2).size:Int).toNat])++((r.getD k v0).2.2).data.toList)) 0 hst45 (by
      refine svA fun ρ β W X cx=>?_
      refine DoesU.call (run_callF (args:=#[vp B3_6, .string ((r.getD k v0).2.2)]) rfl cx.sees rfl (by kernel_rfl) (map2 (cx.ou 3) (cx.ou 40))) ?_
      refine (sbw_l _ _ ((bytesTo r k++[UInt8.ofNat ((r.getD k v0).1).toNat])++[UInt8.ofNat (((r.getD k v0).2.2).size:Int).toNat]) _ _ (cx.sb (cx.init 0 _ rfl) rfl) (by (try simp only [List.length_append,List.length_cons,List.length_nil]); omega)).mono ?_
      rintro e W1 ⟨rfl,hu⟩
      refine ⟨_,rfl,post_sb (by rw [(cx.init 0 _ rfl)]; rfl) rfl rfl hu (fun σ β' X' hs hb hv hx=>?_)⟩
      exact ⟨(hv 41 rfl).1,hx⟩) fun r2_48 W48 hst48=>?_
    refine blk_normal (blk_normal (then_normal (sqr (sqp [sI 42 ((k:Int)+1) (by omega), .m 15 42] ?_))))
    refine then_normal ?_
    have hq51:((bytesTo r k++[UInt8.ofNat ((r.getD k v0).1).toNat])++[UInt8.ofNat (((r.getD k v0).2.2).size:Int).toNat])++((r.getD k v0).2.2).data.toList=bytesTo r (k+1):=bt_text (by omega) (by simpa using hs29) (by simpa using hs40)
    rw [hq51] at hst48
    refine ⟨r.length - ((k+1)),by omega,?_⟩
    exact ⟨(k+1),r2_48,by omega,rfl,(by kernel_rfl),hst48.pk [0]⟩
   have hs40p:=beq_eq_false_iff_ne.1 hs40
   refine wp_skip (blk_normal (blk_normal (then_normal (sqr (sqp [sI 42 ((k:Int)+1) (by omega), .m 15 42] ?_)))))
   refine then_normal ?_
   have hq54:bytesTo r k++[UInt8.ofNat ((r.getD k v0).1).toNat]=bytesTo r (k+1):=bt_none (by omega) (by simpa using hs29) (by simpa using hs40)
   rw [hq54] at hst24
   refine ⟨r.length - ((k+1)),by omega,?_⟩
   exact ⟨(k+1),r2_24,by omega,rfl,(by kernel_rfl),hst24.pk [0]⟩
  refine wp_exit (then_exit (then_exit (blk_eq (then_normal (wp_seq (wp_region_Y [0,1] [[0]] [] [[0]] [.a 43, .c 2 (.string (strL (bytesTo r k)))] (fun ix σ β X=>match ix with | 0=>σ 43= .string (strL (bytesTo r k)) | _=>True) [] [0,1] [(2,1,1,3),(40,0,1,41)] hst14 ?_ ?_ ?_))))))
  ·exact fun ix _ _ _ _ _ _ hs hb hx h=>match ix,h with
   | 0,h=>(hs _ rfl).symm.trans h
   | _+1, _=>trivial
  ·refine ⟨?_,?_,trivial⟩
   ·refine svA fun ρ β W X cx=>?_
    refine DoesU.call (run_callF (args:=#[vp B3_6]) rfl cx.sees rfl (by kernel_rfl) (map1 (cx.ou 3))) ?_
    refine (sbstr_l _ _ (bytesTo r k) _ (cx.sb (cx.init 0 _ rfl) rfl) (bt_ne r k) (by (try simp only [List.length_append,List.length_cons,List.length_nil]); omega)).mono ?_
    rintro e W1 ⟨rfl,hu⟩
    refine ⟨_,rfl,post_kill (by rw [(cx.init 0 _ rfl)]; rfl) rfl rfl hu (fun σ β' X' hs hb hv=>?_)⟩
    exact (hv 43 rfl).1
   ·exact xs4 rfl id fun cx=>run_assign' rfl (dTn (cx.an 0))
  intro σ β X W55 hD hst55 fr hfr
  simp only [ed 43 ((dTn (hD 0 lq)))] at hfr
  clear hD; subst hfr; clear σ β X
  refine then_normal (wp_ret ?_)
  refine bpr (.string (strL (bytesTo r k))) (results_1 Tryz.results151 rpt) ?_
  exact ⟨by rw [vbytesF,if_pos hR.out,show r.length=k by omega],hst55.ext⟩
 refine wp_cond_true (show Act.eval _ _= .bool true from (congrArg Value.bool (by rw [hs5]; rfl))) (wp_seq (sqr (sqp [.k 2 (.string ⟨#[]⟩)] ?_)))
 refine then_normal (wp_ret (then_ret ?_))
 refine bpr (.string ⟨#[]⟩) (results_1 Tryz.results151 rpt) ?_
 exact ⟨by rw [vbytesF,hs5]; rfl,hst3.ext⟩
end
end Go.Proofs.YtjnplglnnamfdaaGreatDoor
namespace Go.Proofs
section
open Go.Shelf
open Go.RowKit in
open Go.RowKit in
def Tryz.lays156_ren:Go.Shelf.Ren:=⟨fun | 156=>148 | 165=>215 | 166=>186 | 169=>189 | 240=>235 | 241=>246 | 276=>251 | 277=>257 | n=>n,fun | 31=>62 | 9=>9 | 3=>3 | 4=>4 | 0=>0 | 20=>20 | 72=>286 | 76=>290 | 70=>284 | 37=>173 | 75=>289 | 127=>329 | 164=>335 | 5=>5 | 80=>176 | n=>n,fun | n=>n⟩
theorem Tryz.lays156:Go.Proofs.Lays.n156 Tryz.prog Tryz.lays156_ren:={
 mixed:=by kernel_rfl
 f156:=Tryz.func148.trans (congrArg some (by kernel_rfl))
 f165:=Tryz.func215.trans (congrArg some (by kernel_rfl))
 f166:=Tryz.func186.trans (congrArg some (by kernel_rfl))
 f169:=Tryz.func189.trans (congrArg some (by kernel_rfl))
 f240:=Tryz.func235.trans (congrArg some (by kernel_rfl))
 f241:=Tryz.func246.trans (congrArg some (by kernel_rfl))
 f276:=Tryz.func251.trans (congrArg some (by kernel_rfl))
 f277:=Tryz.func257.trans (congrArg some (by kernel_rfl))
 t0:=Tryz.underlying0
 a0:=Tryz.isAgg0
 z0:=Tryz.sizeOf0
 v0:=Tryz.zeroValue0
 t3:=Tryz.underlying3
 a3:=Tryz.isAgg3
 z3:=Tryz.sizeOf3
 v3:=Tryz.zeroValue3
 t4:=Tryz.underlying4
 a4:=Tryz.isAgg4
 z4:=Tryz.sizeOf4
 v4:=Tryz.zeroValue4
 t9:=Tryz.underlying9
 a9:=Tryz.isAgg9
 z9:=Tryz.sizeOf9
 v9:=Tryz.zeroValue9
 t20:=Tryz.underlying20
 a20:=Tryz.isAgg20
 z20:=Tryz.sizeOf20
 v20:=Tryz.zeroValue20
 t31:=Tryz.underlying62
 a31:=Tryz.isAgg62
 z31:=Tryz.sizeOf62
 v31:=Tryz.zeroValue62
 t37:=Tryz.underlying173
 a37:=Tryz.isAgg173
 z37:=Tryz.sizeOf173
 v37:=Tryz.zeroValue173
 t70:=Tryz.underlying284
 a70:=Tryz.isAgg284
 z70:=Tryz.sizeOf284
 v70:=Tryz.zeroValue284
 t72:=Tryz.underlying286
 a72:=Tryz.isAgg286
 z72:=Tryz.sizeOf286
 v72:=Tryz.zeroValue286
 t75:=Tryz.underlying289
 a75:=Tryz.isAgg289
 z75:=Tryz.sizeOf289
 v75:=Tryz.zeroValue289
 t76:=Tryz.underlying290
 a76:=Tryz.isAgg290
 z76:=Tryz.sizeOf290
 v76:=Tryz.zeroValue290
 t127:=Tryz.underlying329
 a127:=Tryz.isAgg329
 z127:=Tryz.sizeOf329
 v127:=Tryz.zeroValue329
 t164:=Tryz.underlying335
 a164:=Tryz.isAgg335
 z164:=Tryz.sizeOf335
 v164:=Tryz.zeroValue335}
theorem Tryz.Builder_Extra_156:Builder.Extra Tryz.prog Tryz.lays156_ren:={
 sizeBuilder:=by kernel_rfl
 liesBuilder:=by kernel_rfl
 t5:=Tryz.underlying5
 a5:=Tryz.isAgg5
 z5:=Tryz.sizeOf5
 v5:=Tryz.zeroValue5
 infoByte:=by kernel_rfl
 cellsByte:=by kernel_rfl
 sizeByte:=by kernel_rfl
 neB5:=by decide}
open Go.RowKit in
open Go.RowKit in
theorem Tryz.strings_Join (bk o c:Nat) (xs:List ByteArray) (sep:ByteArray) (w:World) (hcells:∀ (j:Nat) x,xs[j]? =some x→w.cell? ⟨bk,o+j,none⟩=some (.string x)) (hbk:bk < w.heap.size) (hN:xs.length≤140737488355328) (hcap:xs.length≤c) (hlen:(Lib.join (xs.map (·.data.toList)) sep.data.toList).length≤140737488355328):
  Calls Tryz.prog 148 #[.slice (some ⟨bk,o,none⟩) xs.length c, .string sep] w fun e w'=>e= .returned (.string ⟨(Lib.join (xs.map (·.data.toList)) sep.data.toList).toArray⟩)∧Below w.heap.size w w':=Any.strings_Join Tryz.lays156 Tryz.Builder_Extra_156 bk o c xs sep w hcells hbk hN hcap hlen
open Go.RowKit in
open Go.RowKit in
end
end Go.Proofs
namespace Go.Proofs.YtjnplglnnamfdaaGreatDoor
section
open Go.RowKit
def idxBad (r:List Val):Int:=if r.all vrightF=true then -1 else ((r.takeWhile vrightF).length:Int)
theorem idx_bad {r:List Val} {k:Nat} (hk:k < r.length) (h:(r.take k).all vrightF=true) (h2:vrightF (r.getD k v0)=false):(k:Int)=idxBad r:=by
 have hb:r.all vrightF=false:=by
  rw [List.all_eq_false]
  rw [List.getD_eq_getElem?_getD,List.getElem?_eq_getElem hk] at h2
  exact ⟨r[k],List.getElem_mem hk,by simpa using h2⟩
 rw [idxBad,hb,if_neg (by simp)]
 congr 1
 have hs:r=r.take k++r[k]::r.drop (k+1):=by rw [List.getElem_cons_drop,List.take_append_drop]
 have e1:r.takeWhile vrightF=r.take k:=by
  conv=>lhs; rw [hs]
  rw [List.takeWhile_append_of_pos (by rw [List.all_eq_true] at h; exact h)]
  rw [List.getD_eq_getElem?_getD,List.getElem?_eq_getElem hk] at h2
  rw [List.takeWhile_cons_of_neg (by simpa using h2),List.append_nil]
 rw [e1,List.length_take]; omega
theorem idx_none {r:List Val} {k:Nat} (hk:r.length≤k) (h:(r.take k).all vrightF=true):(-1:Int)=idxBad r:=by
 rw [List.take_of_length_le hk] at h
 rw [idxBad,if_pos h]
theorem idx_ge (r:List Val):decide (0≤idxBad r)=!(r.all vrightF):=by
 rw [idxBad]
 cases h:r.all vrightF with
 | true=>simp
 | false=>simp
theorem Ext.below_ {x z:World} (k:Below x.heap.size x z):Ext x z:=
 ⟨k.os,k.tape,k.output,k.size,fun i hi=>k.block i hi⟩
def catS (l:List ByteArray):ByteArray:=strL (l.flatMap fun s=>s.data.toList)
theorem join_any (v:Value) (xs:List ByteArray) (w:World) (hown:w.ownsRow 0 9 1 v xs.length (xs.map Value.string)) (hne:0 < xs.length) (hlen:∀ s∈xs,s.size≤1000000) (hN:xs.length≤100):
  Calls Tryz.prog 148 #[v, .string ⟨#[]⟩] w (Ret (.string (catS xs)) w):=by
 have hlt:=hown.lt
 rcases hown.2 with ⟨hv,h0⟩ | ⟨g,cap,cur,hv,hb,hg,hle,hmx,hcs,htk⟩
 ·omega
 ·subst hv
  have hj:Lib.join (xs.map (·.data.toList)) []=xs.flatMap fun s=>s.data.toList:=by
   rw [Lib.join,List.intercalate]
   have:∀ l:List (List UInt8),(List.intersperse [] l).flatten=l.flatten:=by
    intro l
    induction l with
    | nil=>rfl
    | cons a l ih=>
      cases l with
      | nil=>rfl
      | cons b l=>rw [List.intersperse_cons_cons,List.flatten_cons,List.flatten_cons,ih]; simp
   rw [this,List.flatMap_def]
  have hl:∀ l:List ByteArray,(∀ s∈l,s.size≤1000000)→(l.flatMap fun s=>s.data.toList).length≤l.length*1000000:=by
   intro l
   induction l with
   | nil=>simp
   | cons a l ih=>
     intro h
     have h1:=ih fun s hs=>h s (by simp [hs])
     have h2:a.data.toList.length≤1000000:=by rw [Array.length_toList]; exact h a (by simp)
     rw [List.flatMap_cons,List.length_append,List.length_cons,Nat.add_mul]
     omega
  have hl':=hl xs hlen
  refine (Tryz.strings_Join g 0 cap xs ⟨#[]⟩ w (fun j x hx=>?_) (hlt g rfl).2 (by omega) (by omega) ?_).mono ?_
  ·have hjl:=(List.getElem?_eq_some_iff.1 hx).1
   rw [Nat.zero_add,hown.cellAt j (by simpa using hjl)]
   simp [hx]
  ·show (Lib.join (xs.map (·.data.toList)) []).length≤ _
   rw [hj]
   have:xs.length*1000000≤100*1000000:=Nat.mul_le_mul_right _ hN
   omega
  ·rintro e w' ⟨rfl,hb⟩
   refine ⟨?_,Ext.below_ hb⟩
   show Ending.returned (.string ⟨(Lib.join (xs.map (·.data.toList)) []).toArray⟩)= _
   rw [hj]
   rfl
def onZ (b:Int):Bool:=b==0||onF b
def tnextF (n1 n2:Int):Bool:=(n1== -1&&n2==0)||(decide (0≤n1)&&decide (n1 < 400)&&decide (0≤n2)&&decide (n2 < 24))
def trightF (a b n1 n2:Int) (rs:List Val):Bool:=(a==2||onF a)&&onZ b&&tnextF n1 n2&&rrightF rs
def hotI (ho:Bool):Int:=if ho then 1 else 0
def tbytesF (a b n1 n2:Int) (ho:Bool) (rs:List Val):ByteArray:=
 if trightF a b n1 n2 rs=true then catS [putS a 1,putS b 1,putS (n1+1) 2,putS n2 1,putS (hotI ho) 1,textO (vbytesF rs)] else ByteArray.empty
theorem vbytes_size (r:List Val):(vbytesF r).size≤301:=by
 rw [vbytesF]
 split
 ·rename_i h
  have:=bt_len h r.length
  show (bytesTo r r.length).toArray.size≤301
  simpa using this
 ·exact Nat.zero_le _
theorem tright_parts {a b n1 n2:Int} {rs:List Val} (h:trightF a b n1 n2 rs=true):0≤a∧a < 128∧0≤b∧b < 128∧ -1≤n1∧n1 < 400∧0≤n2∧n2 < 24∧rrightF rs=true:=by
 simp only [trightF,onZ,tnextF,onF,Bool.and_eq_true,Bool.or_eq_true,decide_eq_true_eq,beq_iff_eq] at h
 refine ⟨?_,?_,?_,?_,?_,?_,?_,?_,h.2⟩<;>omega
theorem trightv_any (v:Val) (w:World):
  Calls Tryz.prog 213 #[.agg #[.int .i64 v.1, .int .i64 v.2.1, .string v.2.2]] w (Ret (.bool (!(vrightF v))) w):=by
 go_enter Tryz.func213,Tryz.ntmps213
 have hst0:=St.start w
 refine wp_seq (sqr ?_)
 refine sqbx #[vi v.1,vi v.2.1, .string v.2.2] hst0 fun B1_1 W1 hst1=>?_
 refine sqp [.k 2 (.bool false)] ?_
 refine then_normal (wp_seq (sqr ?_))
 refine sqlb 0 3 hst1 ?_
 refine sqk (.bool (vrightF (v.1,v.2.1,v.2.2))) hst1 (fun cx=>⟨_,vright_any (v.1,v.2.1,v.2.2) _,(map1 (cx.ou 3))⟩) fun W4 hst4=>?_
 refine sqp [.k 5 (.bool (!(vrightF (v.1,v.2.1,v.2.2)))), .m 2 5] ?_
 refine then_normal (wp_ret ?_)
 refine bpr (.bool (!(vrightF (v.1,v.2.1,v.2.2)))) (results_1 Tryz.results213 rpt) ?_
 exact Ret.of rfl hst4.ext
theorem indexf_any (RA:Option Addr) (rc:Nat) (r:List Val) (w:World) (hA:At w RA (flatR r)) (hlr:r.length≤9223372036854775807):
  Calls Tryz.prog 245 #[.slice RA r.length rc, .func (.func 213) #[] #[]] w (Ret (.int .i64 (idxBad r)) w):=by
 go_enter Tryz.func245,Tryz.ntmps245
 have hst0:=St.start w
 refine wp_seq (sqr (sqp [.k 4 (vi 0)] ?_))
 refine then_normal (wp_seq (wp_seq (sqr (sqp [.m 6 0, .k 7 (vi ((r.length:Int))), .k 8 (vi 0)] ?_))))
 refine then_normal (wp_block ?_)
 refine wp_loopT (fun t_ mz az W=>∃ k:Nat,k≤r.length∧(r.take k).all vrightF=true∧mz=r.length - k∧az=⟨(ovr (jv az) [(4,4,2,[]),(2,8,0,[vi ((k:Int))]),(0,9,10,[])] t_).toArray,[]⟩∧St w [] [] W) (r.length - 0) ?_ ?_
 · -- the loop begins
   exact ⟨0,by omega,rfl,rfl,(by kernel_rfl),hst0.pk []⟩
 rintro n5 a5 W5 ⟨k,hkl,hka,rfl,hj_,hst5⟩
 refine ovz hj_ fun u5_=>?_
 refine wp_seq (sqr (sqp [.k 9 (.bool (decide ((k:Int) < (r.length:Int))))] ?_))
 refine then_normal (wp_seq (wds (fun hs7 hs7p=>?_) fun hs7 hs7p=>?_))
 ·refine wp_skip (then_normal (wp_seq (wp_block (wp_seq (sqr (sqp [.m 10 8, .m 5 10] ?_))))))
  refine then_normal (wp_seq (sqr (sqp [.m 11 1, .m 12 0, .m 13 5] ?_)))
  refine sql (.pointer (some ((ad RA).add (k*3)))) hst5 (fun cx=>run_indexSlM (e:=45) (m:=k) (sz:=3) rfl (by kernel_rfl) (by kernel_rfl) (cx.ou 12) (cx.ou 13) (by omega) (by omega) (hA.ext cx.upd.to_ext) (flatPos (sz:=3) cellsV_len (by decide) (by omega))) ?_
  refine sql (.agg #[vi ((r.getD k v0).1),vi ((r.getD k v0).2.1), .string ((r.getD k v0).2.2)]) hst5 (fun cx=>run_loadElt (f:=cellsV) (m:=k) (sz:=3) (off:=0) (n:=3) rfl (by kernel_rfl) (by kernel_rfl) (cx.ou 14) rfl cellsV_len (hA.ext cx.upd.to_ext) (getD_some (ts:=r) (m:=k) v0 (by omega)) (fun k hk=>match k,hk with | 0, _=>rfl | 1, _=>rfl | 2, _=>rfl | k+3,hk=>absurd hk (by omega))) ?_
  refine sqv (.bool (!(vrightF (r.getD k v0)))) hst5 (sv_call rfl rfl rfl rfl rfl (fun _ _ _ h=>h) fun ρ β W X cx=>⟨_, _,run_callV (f:=213) (args:=#[.agg #[vi ((r.getD k v0).1),vi ((r.getD k v0).2.1), .string ((r.getD k v0).2.2)]]) (args':=#[.agg #[vi ((r.getD k v0).1),vi ((r.getD k v0).2.1), .string ((r.getD k v0).2.2)]]) rfl rfl (cx.ou 11) (by kernel_rfl) (map1 (cx.ou 15)) rfl,trightv_any (r.getD k v0) _⟩) fun W15 hst15=>?_
  refine then_normal ?_
  rcases Bool.eq_false_or_eq_true (vrightF (r.getD k v0)) with hs16 | hs16
  ·refine wp_cond_false (show Act.eval _ _= .bool false from (congrArg Value.bool (by rw [hs16]; rfl))) (wp_skip (blk_normal (then_normal (sqr (sqp [sI 18 ((k:Int)+1) (by omega), .m 8 18] ?_)))))
   refine then_normal ?_
   refine ⟨r.length - ((k+1)),by omega,?_⟩
   exact ⟨(k+1),by omega,rright_step (by omega) hka hs16,rfl,(by kernel_rfl),hst15.pk []⟩
  refine wp_cond_true (show Act.eval _ _= .bool true from (congrArg Value.bool (by rw [hs16]; rfl))) (wp_seq (sqr (sqp [.m 17 5, .m 4 17] ?_)))
  refine then_normal (wp_ret (blk_ret (then_ret (then_ret (blk_ret (then_ret ?_))))))
  refine bpr (vi ((k:Int))) (results_1 Tryz.results245 rpt) ?_
  exact Ret.int (idx_bad (by omega) hka hs16) hst15.ext
 refine wp_exit (then_exit (then_exit (blk_eq (then_normal (wp_seq (sqr (sqp [.k 4 (vi (-1))] ?_)))))))
 refine then_normal (wp_ret ?_)
 refine bpr (vi (-1)) (results_1 Tryz.results245 rpt) ?_
 exact Ret.int (idx_none (by omega) hka) hst5.ext
theorem containsf_any (RA:Option Addr) (rc:Nat) (r:List Val) (w:World) (hA:At w RA (flatR r)) (hlr:r.length≤9223372036854775807):
  Calls Tryz.prog 212 #[.slice RA r.length rc, .func (.func 213) #[] #[]] w (Ret (.bool (!(r.all vrightF))) w):=by
 go_enter Tryz.func212,Tryz.ntmps212
 have hst0:=St.start w
 refine wp_seq (sqr (sqp [.k 4 (.bool false)] ?_))
 refine then_normal (wp_seq (sqr (sqp [.m 5 0, .m 6 1] ?_)))
 refine sqk (vi (idxBad r)) hst0 (fun cx=>⟨_,indexf_any _ _ r _ (hA.ext cx.upd.to_ext) (by omega),(map2 (cx.ou 5) (cx.ou 6))⟩) fun W4 hst4=>?_
 refine sqp [.k 8 (.bool (decide (0≤idxBad r))), .m 4 8] ?_
 refine then_normal (wp_ret ?_)
 refine bpr (.bool (decide (0≤idxBad r))) (results_1 Tryz.results212 rpt) ?_
 exact Ret.bool (idx_ge r) hst4.ext
theorem tright_any (a b n1 n2:Int) (ho:Bool) (RA:Option Addr) (rc:Nat) (r:List Val) (w:World) (hA:At w RA (flatR r)) (hlr:r.length≤9223372036854775807) (hN:NoneAt w):
  Calls Tryz.prog 147 #[.agg #[.int .i64 a, .int .i64 b, .int .i64 n1, .int .i64 n2, .bool ho, .slice RA r.length rc]] w (Ret (.bool (trightF a b n1 n2 r)) w):=by
 have hn6:decide (r.length≤6)=decide ((r.length:Int)≤6):=by simp only [decide_eq_decide]; omega
 go_enter Tryz.func147,Tryz.ntmps147
 have hst0:=St.start w
 refine wp_seq (sqr ?_)
 refine sqbx #[vi a,vi b,vi n1,vi n2, .bool ho, .slice RA r.length rc] hst0 fun B1_1 W1 hst1=>?_
 refine sqp [.k 2 (.bool false)] ?_
 refine then_normal (wp_seq (sqr (sqp [.k 5 (.pointer (some ⟨B1_1,2,none⟩))] ?_)))
 refine sqlb 0 2 hst1 ?_
 refine sql (.agg #[vi (-1),vi 0]) hst1 (fun cx=>run_loadAt2 rfl (by kernel_rfl) (by kernel_rfl) (cx.sees.glob _) (hN.ext cx.upd.to_ext)) ?_
 refine sql (.bool (n1==(-1)&&n2==0)) hst1 (fun cx=>run_eqTID rfl (cx.ou 6) (cx.ou 7)) ?_
 refine sqp [.m 9 8] ?_
 refine sqw' 9 [10,11,12,13,14,15,16,17,18,19,20,21,22,23,24,25,26,27,28,29,30,31] ?_ rfl (fun hq=>?_) ?_
 rotate_left
 ·refine sqp [.k 10 (.pointer (some ⟨B1_1,2,none⟩)), .k 11 (.pointer (some ⟨B1_1,2,none⟩))] ?_
  refine sqld 0 hst1 ?_
  refine sqp [.k 13 (.bool (decide (0≤n1))), .m 14 13] ?_
  refine sqw' 14 [15,16,17,18] ?_ rfl (fun hq=>?_) ?_
  rotate_left
  ·refine sqp [.k 15 (.pointer (some ⟨B1_1,2,none⟩)), .k 16 (.pointer (some ⟨B1_1,2,none⟩))] ?_
   refine sqld 0 hst1 ?_
   refine sqp [.k 18 (.bool (decide (n1 < 400)))] ?_
   exact sqe
  refine sqwx ?_
  refine sqp [sPa 19 (decide (0≤n1)) (decide (n1 < 400)), .m 20 19] ?_
  refine sqw' 20 [21,22,23,24] ?_ rfl (fun hq=>?_) ?_
  rotate_left
  ·refine sqp [.k 21 (.pointer (some ⟨B1_1,2,none⟩)), .k 22 (.pointer (some ⟨B1_1,3,none⟩))] ?_
   refine sqld 0 hst1 ?_
   refine sqp [.k 24 (.bool (decide (0≤n2)))] ?_
   exact sqe
  refine sqwx ?_
  refine sqp [sPa 25 ((decide (0≤n1))&&(decide (n1 < 400))) (decide (0≤n2)), .m 26 25] ?_
  refine sqw' 26 [27,28,29,30] ?_ rfl (fun hq=>?_) ?_
  rotate_left
  ·refine sqp [.k 27 (.pointer (some ⟨B1_1,2,none⟩)), .k 28 (.pointer (some ⟨B1_1,3,none⟩))] ?_
   refine sqld 0 hst1 ?_
   refine sqp [.k 30 (.bool (decide (n2 < 24)))] ?_
   exact sqe
  refine sqwx ?_
  refine sqp [sPa 31 (((decide (0≤n1))&&(decide (n1 < 400)))&&(decide (0≤n2))) (decide (n2 < 24))] ?_
  exact sqe
 refine sqwx ?_
 refine sqp [sPo 32 (n1==(-1)&&n2==0) ((((decide (0≤n1))&&(decide (n1 < 400)))&&(decide (0≤n2)))&&(decide (n2 < 24))), .m 3 32] ?_
 refine then_normal (wp_seq (sqr (sqp [.k 33 (.pointer (some ⟨B1_1,5,none⟩))] ?_)))
 refine sqld 0 hst1 ?_
 refine sqp [.k 35 (vi ((r.length:Int))), .k 36 (.bool (decide ((r.length:Int)≤6))), .m 37 36] ?_
 refine sqwW 37 [38,39,40,41] ?_ hst1 rfl (fun hq=>?_) fun W41 hst41=>?_
 rotate_left
 ·have hq_:=of_decide_eq_true hq
  refine sqp [.k 38 (.pointer (some ⟨B1_1,5,none⟩))] ?_
  refine sqld 0 hst1 ?_
  refine sqk (.bool (!(r.all vrightF))) hst1 (fun cx=>⟨_,containsf_any _ _ r _ (hA.ext cx.upd.to_ext) (by omega),(map2 (cx.ou 39) (cx.sees.func _))⟩) fun W39 hst39=>?_
  refine sqp [.k 41 (.bool (!(!(r.all vrightF))))] ?_
  exact sqE hst39
 refine sqwx ?_
 refine sqp [sPa 42 (decide ((r.length:Int)≤6)) (!(!(r.all vrightF))), .m 4 42] ?_
 refine then_normal (wp_seq (sqr (sqp [.k 43 (vp B1_1)] ?_)))
 refine sqld 0 hst41 ?_
 refine sqp [.k 45 (.bool (a==2)), .m 46 45] ?_
 refine sqwW 46 [47,48,49] ?_ hst41 rfl (fun hq=>?_) fun W51 hst51=>?_
 rotate_left
 ·refine sqp [.k 47 (vp B1_1)] ?_
  refine sqld 0 hst41 ?_
  refine sqk (.bool (onF a)) hst41 (fun cx=>⟨_,ton_any a _,(map1 (cx.ou 48))⟩) fun W50 hst50=>?_
  exact sqE hst50
 refine sqwx ?_
 refine sqp [sPo 50 (a==2) (onF a), .m 51 50] ?_
 refine sqwW 51 [52,53,54,55,56,57,58,59] ?_ hst51 rfl (fun hq=>?_) fun W63 hst63=>?_
 rotate_left
 ·refine sqp [.k 52 (.pointer (some ⟨B1_1,1,none⟩))] ?_
  refine sqld 0 hst51 ?_
  refine sqp [.k 54 (.bool (b==0)), .m 55 54] ?_
  refine sqwW 55 [56,57,58] ?_ hst51 rfl (fun hq=>?_) fun W61 hst61=>?_
  rotate_left
  ·refine sqp [.k 56 (.pointer (some ⟨B1_1,1,none⟩))] ?_
   refine sqld 0 hst51 ?_
   refine sqk (.bool (onF b)) hst51 (fun cx=>⟨_,ton_any b _,(map1 (cx.ou 57))⟩) fun W60 hst60=>?_
   exact sqE hst60
  refine sqwx ?_
  refine sqp [sPo 59 (b==0) (onF b)] ?_
  exact sqE hst61
 refine sqwx ?_
 refine sqp [sPa 60 ((a==2)||(onF a)) ((b==0)||(onF b)), .m 61 60] ?_
 refine sqw 61 [62] rfl (fun _=>sqp [.m 62 3] sqe) ?_
 refine sqp [sPa 63 (((a==2)||(onF a))&&((b==0)||(onF b))) ((n1==(-1)&&n2==0)||((((decide (0≤n1))&&(decide (n1 < 400)))&&(decide (0≤n2)))&&(decide (n2 < 24)))), .m 64 63] ?_
 refine sqw 64 [65] rfl (fun _=>sqp [.m 65 4] sqe) ?_
 refine sqp [sPa 66 ((((a==2)||(onF a))&&((b==0)||(onF b)))&&((n1==(-1)&&n2==0)||((((decide (0≤n1))&&(decide (n1 < 400)))&&(decide (0≤n2)))&&(decide (n2 < 24))))) ((decide ((r.length:Int)≤6))&&(!(!(r.all vrightF)))), .m 2 66] ?_
 refine then_normal (wp_ret ?_)
 refine bpr (.bool (((((a==2)||(onF a))&&((b==0)||(onF b)))&&((n1==(-1)&&n2==0)||((((decide (0≤n1))&&(decide (n1 < 400)))&&(decide (0≤n2)))&&(decide (n2 < 24)))))&&((decide ((r.length:Int)≤6))&&(!(!(r.all vrightF)))))) (results_1 Tryz.results147 rpt) ?_
 exact Ret.bool (by simp only [trightF,onZ,tnextF,Bool.not_not,Bool.and_assoc]; simp only [rrightF,hn6]; rw [Bool.and_comm (r.all vrightF)]) hst63.ext
end
section
open Go.RowKit
theorem textO_size {s:ByteArray} (h:s.size≤301):(textO s).size≤303:=by
 have:=putS_size (s.size:Int) 2 (by omega)
 rw [textO,ByteArray.size_append,this]; omega
theorem tbytes_any (a b n1 n2:Int) (ho:Bool) (RA:Option Addr) (rc:Nat) (r:List Val) (w:World) (hA:At w RA (flatR r)) (hlr:r.length≤9223372036854775807) (hN:NoneAt w):
  Calls Tryz.prog 82 #[.agg #[.int .i64 a, .int .i64 b, .int .i64 n1, .int .i64 n2, .bool ho, .slice RA r.length rc]] w (Ret (.string (tbytesF a b n1 n2 ho r)) w):=by
 go_enter Tryz.func82,Tryz.ntmps82
 have hst0:=St.start w
 refine wp_seq (sqr ?_)
 refine sqbx #[vi a,vi b,vi n1,vi n2, .bool ho, .slice RA r.length rc] hst0 fun B1_1 W1 hst1=>?_
 refine sqp [.k 2 (.string ⟨#[]⟩)] ?_
 refine then_normal (wp_seq (wp_seq (sqr ?_)))
 refine sqlb 0 6 hst1 ?_
 refine sqk (.bool (trightF a b n1 n2 r)) hst1 (fun cx=>⟨_,tright_any a b n1 n2 _ _ _ r _ (hA.ext cx.upd.to_ext) (by omega) (hN.ext cx.upd.to_ext),(map1 (cx.ou 4))⟩) fun W4 hst4=>?_
 refine sqp [.k 6 (.bool (!(trightF a b n1 n2 r)))] ?_
 refine then_normal ?_
 rcases Bool.eq_false_or_eq_true (trightF a b n1 n2 r) with hs6 | hs6
 ·refine wp_cond_false (show Act.eval _ _= .bool false from (congrArg Value.bool (by rw [hs6]; rfl))) (wp_skip (then_normal (wp_seq (sqr (sqp [.k 3 (vi 0)] ?_)))))
  refine then_normal ?_
  refine wp_cutT (fun t_ az W=>True∧az=⟨(ovr (jv az) [(3,3,0,[vi (hotI ho)]),(3,7,2,[])] t_).toArray,[]⟩∧St w [] [eB B1_1 41 #[vi a,vi b,vi n1,vi n2, .bool ho, .slice RA r.length rc]] W) ?_ ?_
  ·refine wp_seq (sqr (sqp [.k 7 (.pointer (some ⟨B1_1,4,none⟩))] ?_))
   refine sqld 0 hst4 ?_
   refine then_normal (wbs (fun hs11=>?_) fun hs11=>?_)
   ·refine sqr (sqp [.k 3 (vi 1)] ?_)
    refine then_normal ?_
    have hj:hotI ho=1:=by simp [hotI,hs6,hs11]
    exact ⟨trivial,by rw [hj]; rfl,hst4.pk [0]⟩
   refine wp_skip (then_normal ?_)
   have hj:hotI ho=0:=by simp [hotI,hs6,hs11]
   exact ⟨trivial,by rw [hj]; rfl,hst4.pk [0]⟩
  rintro a8 W8 ⟨-,hj_,hst8⟩
  refine ovz hj_ fun u8_=>?_
  refine wp_seq ?_
  have htr:=hs6
  obtain ⟨t1,t2,t3,t4,t5,t6,t7,t8,t9⟩:=tright_parts htr
  have hvs:=vbytes_size r
  have hjs:∀ s∈[putS a 1,putS b 1,putS (n1+1) 2,putS n2 1,putS (hotI ho) 1,textO (vbytesF r)],s.size≤1000000:=by
   intro s hs
   simp only [List.mem_cons,List.not_mem_nil,or_false] at hs
   have h1:=textO_size hvs
   rcases hs with rfl | rfl | rfl | rfl | rfl | rfl
   ·rw [putS_size _ _ (by omega)]; omega
   ·rw [putS_size _ _ (by omega)]; omega
   ·rw [putS_size _ _ (by omega)]; omega
   ·rw [putS_size _ _ (by omega)]; omega
   ·rw [putS_size _ _ (by omega)]; omega
   ·omega
  refine wp_region_Y [0,1,3,0,8,31,0,64,192,448,1023,0,2048,6144,16383,0,65535,0,131072,524287,1048575,2097151,4194303,8388607] [[],[0],[],[],[0],[],[],[],[0],[],[],[],[],[0],[],[],[],[],[0],[],[],[],[1]] [[],[],[],[],[],[],[],[],[],[],[],[],[],[],[],[],[],[],[],[],[],[1]] [] [.k 9 (vp B1_1), .c 10 (vi a), .c 11 (.string (putS a 1)), .k 12 (.pointer (some ⟨B1_1,1,none⟩)), .c 13 (vi b), .c 14 (.string (putS b 1)), .k 15 (.pointer (some ⟨B1_1,2,none⟩)), .k 16 (.pointer (some ⟨B1_1,2,none⟩)), .c 17 (vi n1),tI 18 (n1+1) (by omega), .c 19 (.string (putS (n1+1) 2)), .k 20 (.pointer (some ⟨B1_1,2,none⟩)), .k 21 (.pointer (some ⟨B1_1,3,none⟩)), .c 22 (vi n2), .c 23 (.string (putS n2 1)), .k 24 (vi (hotI ho)), .c 25 (.string (putS (hotI ho) 1)), .k 26 (.pointer (some ⟨B1_1,5,none⟩)), .c 27 (.slice RA r.length rc), .c 28 (.string (vbytesF r)), .c 29 (.string (textO (vbytesF r))), .a 30, .c 31 (.string (catS [(putS a 1),(putS b 1),(putS (n1+1) 2),(putS n2 1),(putS (hotI ho) 1),(textO (vbytesF r))])), .k 2 (.string (catS [(putS a 1),(putS b 1),(putS (n1+1) 2),(putS n2 1),(putS (hotI ho) 1),(textO (vbytesF r))]))] (fun ix σ β X=>match ix with | 0=>True | 1=>True | 2=>True | 3=>True | 4=>True | 5=>True | 6=>True | 7=>True | 8=>True | 9=>True | 10=>True | 11=>True | 12=>True | 13=>True | 14=>True | 15=>True | 16=>True | 17=>True | 18=>True | 19=>True | 20=>True | 21=>σ 30= .slice (sA (β 30)) 6 6∧X 1=eO 9 1 (.slice (sA (β 30)) 6 6) 6 ([.string (putS a 1), .string (putS b 1), .string (putS (n1+1) 2), .string (putS n2 1), .string (putS (hotI ho) 1), .string (textO (vbytesF r))]) | _=>True) [0,1] [1,2,4,5,8,10,13,14,16,18,19,20,21,22] [(2,23,1,3),(6,0,23,29)] hst8 ?_ ?_ ?_
  ·exact fun ix _ _ _ _ _ _ hs hb hx h=>match ix,h with
   | 21,h=>by dsimp only; rw [← hs 30 rfl,← hb 30 rfl,← hx 1 rfl]; exact h
   | 0, _ | 1, _ | 2, _ | 3, _ | 4, _ | 5, _ | 6, _ | 7, _ | 8, _ | 9, _ | 10, _ | 11, _ | 12, _ | 13, _ | 14, _ | 15, _ | 16, _ | 17, _ | 18, _ | 19, _ | 20, _ | _+22, _=>trivial
  ·refine ⟨?_,?_,?_,?_,?_,?_,?_,?_,?_,?_,?_,?_,?_,?_,trivial⟩
   ·exact xs4 rfl id fun cx=>run_load1 rfl (by kernel_rfl) (cx.an 0) ((cx.bi 0 rfl).cell 0)
   ·exact xsc rfl id rfl rfl fun cx=>⟨_,oput1_any a _,(map2 (cx.an 1) (cx.co _))⟩
   ·exact xs4 rfl id fun cx=>run_load1 rfl (by kernel_rfl) (cx.an 3) ((cx.bi 0 rfl).cell 1)
   ·exact xsc rfl id rfl rfl fun cx=>⟨_,oput1_any b _,(map2 (cx.an 4) (cx.co _))⟩
   ·exact xs4 rfl id fun cx=>run_load1 rfl (by kernel_rfl) (cx.an 7) ((cx.bi 0 rfl).cell 2)
   ·exact xsc rfl id rfl rfl fun cx=>⟨_,oput2_any (n1+1) _,(map2 (cx.an 9) (cx.co _))⟩
   ·exact xs4 rfl id fun cx=>run_load1 rfl (by kernel_rfl) (cx.an 12) ((cx.bi 0 rfl).cell 3)
   ·exact xsc rfl id rfl rfl fun cx=>⟨_,oput1_any n2 _,(map2 (cx.an 13) (cx.co _))⟩
   ·exact xsc rfl id rfl rfl fun cx=>⟨_,oput1_any (hotI ho) _,(map2 (cx.an 15) (cx.co _))⟩
   ·exact xs4 rfl id fun cx=>run_load1 rfl (by kernel_rfl) (cx.an 17) ((cx.bi 0 rfl).cell 5)
   ·exact xsc rfl id rfl rfl fun cx=>⟨_,vbytes_any _ _ r _ (hA.ext cx.upd.to_ext) (by omega),(map1 (cx.an 18))⟩
   ·exact xsc rfl id rfl rfl fun cx=>⟨_,otext_any (vbytesF r) _ (by omega),(map1 (cx.an 19))⟩
   ·refine svA fun ρ β W X cx=>?_
    have fF11:ρ (.tmp 11)= .string (putS a 1):=(cx.an 2)
    have fF14:ρ (.tmp 14)= .string (putS b 1):=(cx.an 5)
    have fF19:ρ (.tmp 19)= .string (putS (n1+1) 2):=(cx.an 10)
    have fF23:ρ (.tmp 23)= .string (putS n2 1):=(cx.an 14)
    have fF25:ρ (.tmp 25)= .string (putS (hotI ho) 1):=(cx.an 16)
    have fF29:ρ (.tmp 29)= .string (textO (vbytesF r)):=(cx.an 20)
    exact dv_lit (e:=9) (xs:=[.string (putS a 1), .string (putS b 1), .string (putS (n1+1) 2), .string (putS n2 1), .string (putS (hotI ho) 1), .string (textO (vbytesF r))]) rfl (by simp [go_sem,fF11,fF14,fF19,fF23,fF25,fF29]) rfl (by decide) rfl rfl (fun σ β' X' hs hb hv hx=>⟨hv,hx⟩)
   ·exact xsc rfl id rfl rfl fun cx=>⟨_,join_any _ [(putS a 1),(putS b 1),(putS (n1+1) 2),(putS n2 1),(putS (hotI ho) 1),(textO (vbytesF r))] _ (cx.row (dTn (cx.an 21)).2 rfl) (by simp) hjs (by simp),(map2 (dTn (cx.an 21)).1 (cx.co _))⟩
  intro σ β X W13 hD hst13 fr hfr
  obtain ⟨A30_13,hu_A30_13⟩:∃ z,sA (β 30)=z:=⟨_,rfl⟩
  simp only [exq 1 ((dTn (hD 21 lq)).2),hu_A30_13] at hst13
  simp only [ed 30 ((dTn (hD 21 lq)).1),hu_A30_13] at hfr
  clear hD hu_A30_13; subst hfr; clear σ β X
  refine then_normal (wp_ret ?_)
  refine bpr (.string (catS [(putS a 1),(putS b 1),(putS (n1+1) 2),(putS n2 1),(putS (hotI ho) 1),(textO (vbytesF r))])) (results_1 Tryz.results82 rpt) ?_
  exact Ret.of (by rw [tbytesF,if_pos htr]) hst13.ext
 refine wp_cond_true (show Act.eval _ _= .bool true from (congrArg Value.bool (by rw [hs6]; rfl))) (wp_seq (sqr (sqp [.k 2 (.string ⟨#[]⟩)] ?_)))
 refine then_normal (wp_ret (then_ret ?_))
 refine bpr (.string ⟨#[]⟩) (results_1 Tryz.results82 rpt) ?_
 exact Ret.of (by rw [tbytesF,hs6]; rfl) hst4.ext
end
section
open Go.RowKit
theorem strL_size (l:List UInt8):(strL l).size=l.length:=by show l.toArray.size= _; simp
theorem strL_ext (l:List UInt8) (a b:Nat):(strL l).extract a b=strL ((l.drop a).take (b - a)):=by
 apply ByteArray.ext
 rw [ByteArray.data_extract]
 apply Array.ext'
 simp [strL,List.extract_eq_take_drop]
theorem strL_take (l:List UInt8) (n:Nat):(strL l).extract 0 n=strL (l.take n):=by rw [strL_ext]; simp
theorem strL_drop (l:List UInt8) (n:Nat):(strL l).extract n (strL l).size=strL (l.drop n):=by
 rw [strL_ext,strL_size,List.take_of_length_le (by simp)]
theorem Upd.less {b c:Nat} {w W:World} (h:Upd [b,c] w W) (hc:W.heap[c]? =w.heap[c]?):Upd [b] w W:=⟨h.os,h.tape,h.output,h.size,fun k hk hn=>by
 by_cases e:k=c
 ·rw [e]; exact hc
 ·exact h.block k hk (by simp at hn ⊢; exact ⟨hn,e⟩)⟩
def byteI (l:List UInt8) (m:Nat):Int:=((l.getD m 0).toNat:Int)
theorem St.lent1 {w:World} {b t:Nat} {cs:Array Value} (hb:Blk w b t cs):St w [b] [eB b t cs] w:=by
 refine ⟨Upd.refl _ _,fun x hx=>?_,List.pairwise_singleton _ _⟩
 simp only [List.mem_cons,List.not_mem_nil,or_false] at hx
 subst hx
 exact ⟨hb,eB_loc _ _ _,fun k hk=>⟨.inl (by simp [eB] at hk; simp [hk]),by simp [eB] at hk; subst hk; exact hb.lt⟩⟩
theorem St.lentB2 {w:World} {b t c u:Nat} {cs ds:Array Value} (hb:Blk w b t cs) (hc:Blk w c u ds) (hne:b≠c):St w [b,c] [eB b t cs,eB c u ds] w:=by
 refine ⟨Upd.refl _ _,fun x hx=>?_,List.pairwise_pair.2 fun k hk hk'=>by simp [eB] at hk hk'; omega⟩
 simp only [List.mem_cons,List.not_mem_nil,or_false] at hx
 rcases hx with rfl | rfl
 ·exact ⟨hb,eB_loc _ _ _,fun k hk=>⟨.inl (by simp [eB] at hk; simp [hk]),by simp [eB] at hk; subst hk; exact hb.lt⟩⟩
 ·exact ⟨hc,eB_loc _ _ _,fun k hk=>⟨.inl (by simp [eB] at hk; simp [hk]),by simp [eB] at hk; subst hk; exact hc.lt⟩⟩
section
variable {P:Program} {o:Oper} {ρ:Operand→Value} {W:World}
theorem run_indexStr {t:TypeId} {x y:Operand} {l:List UInt8} {k:IntKind} {j:Int} {m:Nat} (h:o.op= .index t x y) (ht:P.underlying t=some .string) (hx:ρ x= .string (strL l)) (hy:ρ y= .int k j) (hj:j=(m:Int)) (hm:m < l.length):
  (execOp ρ o).run P W= .ok (.value (.int .u8 (byteI l m))) W:=by
 subst hj
 unfold execOp; rw [h]
 have h1:(0:Int)≤(m:Int):=by omega
 have h2:(strL l)[m]? =some (l.getD m 0):=by
  rw [getElem?_pos (strL l) m (by rw [strL_size]; exact hm)]
  simp [strL,ByteArray.getElem_eq_getElem_data,hm]
 simp only [hx,hy,Instr.index,asIntOf,Sem.run_bind,Sem.run_pure,Result.andThen_ok,run_underlying ht,h1,if_true,Int.toNat_natCast,h2]
 rfl
end
theorem must_true (e:Int) (w:World):
  Calls Tryz.prog 202 #[.bool true, .int .i64 e] w (Ret (.tuple #[]) w):=by
 go_enter Tryz.func202,Tryz.ntmps202
 have hst0:=St.start w
 refine wp_seq (sqr (sqp [.k 4 (.bool true), .k 5 (.bool false)] ?_))
 refine then_normal (wcf rfl (wp_skip ?_))
 refine bpe (.tuple #[]) (by simp [results,Tryz.results202,go_sem]) ?_
 exact Ret.of rfl hst0.ext
def TakePost (b:Nat) (v:Value) (l:List UInt8) (w:World) (e:Ending) (w':World):Prop:=e= .returned v∧Blk w' b 9 #[.string (strL l)]∧Upd [b] w w'
theorem take_any (n:Nat) (b:Nat) (l:List UInt8) (w:World) (hb:Blk w b 9 #[.string (strL l)]) (hn:n≤l.length):
  Calls Tryz.prog 201 #[.int .i64 ((n:Int)), .pointer (some ⟨b,0,none⟩)] w (TakePost b (.string (strL (l.take n))) (l.drop n) w):=by
 have st0:=St.lent1 hb
 have hsl:=strL_size l
 go_enter Tryz.func201,Tryz.ntmps201
 have hst0:=st0
 refine wp_seq (sqr (sqp [.k 3 (.string ⟨#[]⟩)] ?_))
 refine then_normal (wp_seq (sqr (sqld 0 hst0 ?_)))
 have hd6:(decide ((n:Int)≤((strL l).size:Int)))=true:=by rw [decide_eq_true_eq]; omega
 refine sqp [.k 6 (vi (((strL l).size:Int))), .m 7 0, .e 8 (.bool (decide ((n:Int)≤((strL l).size:Int)))) (.bool true) (congrArg Value.bool hd6)] ?_
 refine sqk (.tuple #[]) hst0 (fun cx=>⟨_,must_true _ _,(map2 (cx.ou 8) (cx.co _))⟩) fun W7 hst7=>?_
 refine then_normal (wp_seq (sqr (sqld 0 hst7 ?_)))
 refine sqp [.m 11 0] ?_
 refine sql (.string (strL (l.take n))) hst7 (fun cx=>(by rw [← strL_take]; exact run_slice_hi (l:=n) rfl (by kernel_rfl) (cx.ou 10) (cx.ou 11) (by omega) (by rw [strL_size]; omega))) ?_
 refine sqp [.m 4 12] ?_
 refine then_normal (wp_seq (sqr (sqld 0 hst7 ?_)))
 refine sqp [.m 14 0] ?_
 refine sql (.string (strL (l.drop n))) hst7 (fun cx=>(by rw [← strL_drop]; exact run_slice_lo (l:=n) rfl (by kernel_rfl) (cx.ou 13) (cx.ou 14) (by omega) (by rw [strL_size]; omega))) ?_
 refine sqst (n:=1) 0 #[.string (strL (l.drop n))] hst7 fun W15 hst15=>?_
 refine then_normal (wp_seq (sqr (sqp [.m 16 4, .m 3 16] ?_)))
 refine then_normal (wp_ret ?_)
 refine bpr (.string (strL (l.take n))) (results_1 Tryz.results201 rpt) ?_
 exact ⟨rfl,hst15.blk 0 rfl,hst15.upd⟩
theorem byte_lt (l:List UInt8) (m:Nat):0≤byteI l m∧byteI l m < 256:=by
 have:=(l.getD m 0).toNat_lt
 unfold byteI; omega
theorem byte_take (l:List UInt8) (h:1≤l.length):byteI (l.take 1) 0=byteI l 0:=by
 cases l with
 | nil=>simp at h
 | cons a l=>rfl
theorem one1_any (b c:Nat) (l:List UInt8) (w:World) (hb:Blk w b 9 #[.string (strL l)]) (hc:Blk w c 161 #[.func (.func 201) #[] #[.pointer (some ⟨b,0,none⟩)]]) (hne:b≠c) (hn:1≤l.length):
  Calls Tryz.prog 203 #[.pointer (some ⟨c,0,none⟩)] w (TakePost b (.int .i64 (byteI l 0)) (l.drop 1) w):=by
 have st0:=St.lentB2 hb hc hne
 have hb256:=byte_lt (l.take 1) 0
 go_enter Tryz.func203,Tryz.ntmps203
 have hst0:=st0
 refine wp_seq (sqr (sqp [.k 1 (vi 0)] ?_))
 refine then_normal (wp_seq (sqr (sqld 1 hst0 ?_)))
 refine sqc0 (.string (strL (l.take 1))) (eB b 9 #[.string (strL (l.drop 1))]) 0 hst0 (by
   refine svA fun ρ β W X cx=>?_
   refine DoesU.call (run_callV (f:=201) (args:=#[vi 1]) (args':=#[vi 1,vp b]) rfl rfl (cx.ou 2) (by kernel_rfl) (map1 (cx.co _)) rfl) ?_
   refine (take_any 1 b l _ (cx.bi 0 rfl) (by omega)).mono ?_
   rintro e W1 ⟨rfl,hb1,hu⟩
   refine ⟨_,rfl,post_mut (cx.init 0 _ rfl) rfl rfl hu hb1 (fun σ β' X' hs hb hv hx=>?_)⟩
   exact ⟨(hv 3 rfl).1.trans rfl,hx⟩) fun W3 hst3=>?_
 refine sql (.int .u8 (byteI (l.take 1) 0)) hst3 (fun cx=>run_indexStr (m:=0) rfl (by kernel_rfl) (cx.ou 3) (cx.co _) (by omega) (by rw [List.length_take]; omega)) ?_
 refine sqp [sW 5 .i64 (byteI (l.take 1) 0) (byteI (l.take 1) 0) (IntWalk.i64_in _ (by omega)), .m 1 5] ?_
 refine then_normal (wp_ret ?_)
 refine bpr (vi (byteI (l.take 1) 0)) (results_1 Tryz.results203 rpt) ?_
 exact ⟨by rw [byte_take l hn],hst3.blk 0 rfl,hst3.upd.less ((hst3.blk 1 rfl).trans hc.symm)⟩
end
section
open Go.RowKit
theorem wp_mkdefer {P:Program} {id:Nat} {o1 o2:Oper} {a:Act} {w:World} {Q:Exit→Act→World→Prop} {v:Value} {d:Deferred} (h1:o1.guard=none) (h2:o2.guard=none) (r1:(execOp a.eval o1).run P w= .ok (.value v) w)
  (r2:(execOp (a.put o1.dst v).eval o2).run P w= .ok (.defer d) w) (hd2:o2.dst=none) (h:Q .normal {a.put o1.dst v with defers:=d::(a.put o1.dst v).defers} w):(Code.region id #[o1,o2] false).wp P Q a w:=by
 refine wp_region ?_
 show wpOps P #[o1,o2] Q [0,1] a w
 have w1:∀ y,Region.wanted o1 y=true:=fun y=>by simp [Region.wanted,h1]
 have w2:∀ y,Region.wanted o2 y=true:=fun y=>by simp [Region.wanted,h2]
 simp only [wpOps]
 show (if Region.wanted o1 _=true then _ else _)
 rw [if_pos (w1 _)]
 left
 unfold Oper.wp Oper.upon
 rw [show (#[o1,o2]:Array Oper)[0]=o1 from rfl,r1]
 show (if Region.wanted o2 _=true then _ else _)
 rw [if_pos (w2 _)]
 left
 rw [show (#[o1,o2]:Array Oper)[1]=o2 from rfl,r2]
 rw [hd2]
 exact h
theorem catch_idle (p q:Addr) (w:World):
  CallsD Tryz.prog 200 #[.pointer (some p), .pointer (some q)] .returning w fun e u' w'=>e= .returned (.tuple #[])∧u'= .returning∧w'=w:=by
 refine callsD_of_wpS Tryz.func200 rfl fun c₀ cs hu=>?_
 apply wpS_seq
 apply wpS_region
 simp [wpOpsS,go_sem,recoverD,hu,Tryz.ntmps200,Exit.thenS]
 refine wpS_of_wp ?_
 go_wp2
 cases c₀
 simp_all [bodyPostS,results,Tryz.results200]
end
end Go.Proofs.YtjnplglnnamfdaaGreatDoor

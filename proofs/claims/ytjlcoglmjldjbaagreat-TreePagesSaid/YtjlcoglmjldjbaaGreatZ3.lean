/- TreePagesRow: part 3 of the proof. -/
import Derived.Test.YtjlcoglmjldjbaaGreatZ2
import Derived.RangeFuncBox
import Derived.RangeFuncBound
import Derived.RangeFuncCalls
import Derived.RangeFuncLeaves
import Derived.TacticsIn
import Derived.OrdersIn
import Derived.LoopNIn
import Derived.Shelf.Abstract
set_option linter.unusedVariables false
set_option linter.unusedSimpArgs false
set_option maxRecDepth 100000
set_option maxHeartbeats 16000000
namespace Go.Proofs.YtjlcoglmjldjbaaGreat
section
open Go.RowKit
theorem madeCells_cons (z:Array Value) (hz:0 < z.size) (n:Nat):(madeCells z ((n+1)*z.size)).toList=z.toList++(madeCells z (n*z.size)).toList:=by
 apply List.ext_getElem?
 intro j
 have e:∀ m j,(madeCells z m).toList[j]? =if j < m then some (z[j % z.size]!) else none:=fun m j=>by
  by_cases h:j < m
  ·rw [if_pos h]; simp [madeCells,h]
  ·rw [if_neg h]; simp [madeCells,h]
 have hm:(n+1)*z.size=z.size+n*z.size:=by rw [Nat.add_mul]; omega
 rw [e,hm]
 by_cases h:j < z.size
 ·rw [if_pos (by omega),List.getElem?_append_left (by simpa using h),Nat.mod_eq_of_lt h]
  simp [h]
 ·rw [List.getElem?_append_right (by simpa using h),Array.length_toList,e]
  by_cases h2:j < z.size+n*z.size
  ·rw [if_pos h2,if_pos (by omega),Nat.mod_eq_sub_mod (by omega)]
  ·rw [if_neg h2,if_neg (by omega)]
theorem madeCells_flat {T:Type} (f:T→List Value) (t:T) (z:Array Value) (hz:z.toList=f t) (h0:0 < z.size) (n:Nat):(madeCells z (n*z.size)).toList=(List.replicate n t).flatMap f:=by
 induction n with
 | zero=>
   rw [Nat.zero_mul]
   have:(madeCells z 0).toList.length=0:=by rw [Array.length_toList,size_madeCells]
   rw [List.eq_nil_of_length_eq_zero this]; rfl
 | succ n ih=>rw [madeCells_cons z h0,ih,List.replicate_succ,List.flatMap_cons,hz]
section
variable {P:Program} {ops:Array Oper} {L:List Nat} {a0:Act} {w0:World} {bor:List Nat} {X0:List Ent} {us cr kl:List (List Nat)}
 {D:Nat→(Tmp→Value)→(Tmp→Value)→(Nat→Ent)→Prop} {i:Nat} {o:Oper} {ρ:Operand→Value} {β:Tmp→Value} {W:World} {X:Nat→Ent}
theorem dv_makeN {t e:TypeId} {x y:Operand} {k k':IntKind} {n sz:Nat} {j j':Int} {d:Tmp} {q:Nat} {inf:TypeInfo} {z:Value} {bytes:Nat} {xs:List Value} (h:o.op= .makeSlice t x y) (ht:P.underlying t=some (.slice e)) (hi:P.info? e=some inf) (hz:inf.zero=some z) (hsize:inf.size=sz) (hby:inf.bytes=bytes)
  (hx:ρ x= .int k j) (hy:ρ y= .int k' j') (hj:j=(n:Int)) (hj':j'=(n:Int)) (hn:n*sz≤16777216) (hb:bytes*n≤281474976710656) (hml:n≤maxLen) (hxs:(madeCells z.cells (n*sz)).toList=xs) (hd:o.dst=some d) (hc:atV cr i=[q])
  (hD:∀ (σ β':Tmp→Value) (X':Nat→Ent),(∀ t,t≠d→σ t=ρ (.tmp t))→(∀ t,t≠d→β' t=β t)→σ d= .slice (sA (β' d)) n n→X' q=eO e sz (.slice (sA (β' d)) n n) n xs→D i σ β' X'):
  DoesU P o ρ W (PostV cr kl D i o.dst ρ β W X):=by
 subst hj; subst hj'; subst hby; subst hsize; subst hxs
 obtain ⟨W',hrun,ho,hg⟩:=run_makeSlice_full (P:=P) W W.heap.size t e inf z inf.size ht hi hz rfl k k' n hn hb hml (Nat.le_refl _)
 have hr:(execOp ρ o).run P W= .ok (.value (.slice (some ⟨W.heap.size,0,none⟩) n n)) W':=by
  unfold execOp; rw [h]
  simp only [hx,hy,Sem.run_bind,hrun,Result.andThen_ok,Sem.run_pure]
 refine DoesU.value hr ⟨[eO e inf.size (.slice (some ⟨W.heap.size,0,none⟩) n n) n (madeCells z.cells (n*inf.size)).toList],by rw [hc]; rfl,⟨(Upd.refl _ W).grown hg (fun k hk=>by cases hk),fun e' he=>?_,List.pairwise_singleton _ _⟩,fun σ β' X' hs' hv hb hbv hx' hN=>hD σ β' X' (fun t ht=>hs' t (by rw [hd]; simpa using ht.symm)) (fun t ht=>hb t (by rw [hd]; simpa using ht.symm)) ?_ ?_⟩
 ·rw [List.mem_singleton] at he
  subst he
  obtain ⟨h1,h2,h3⟩:=eO_new ho
  exact ⟨h1,h2,fun k hk=>⟨.inr (h3 k hk).1,(h3 k hk).2⟩⟩
 ·rw [hv d hd,hbv d hd]; rfl
 ·rw [hbv d hd]
  rw [hc] at hN
  exact (List.cons.inj hN).1
end
theorem CtxV.holdF {ops:Array Oper} {L:List Nat} {a0:Act} {w0:World} {bor:List Nat} {X0:List Ent} {us:List (List Nat)} {D:Nat→(Tmp→Value)→(Tmp→Value)→(Nat→Ent)→Prop} {i:Nat} {ρ:Operand→Value} {β:Tmp→Value} {W:World} {X:Nat→Ent} {q:Nat} {E:Ent} (cx:CtxV ops L a0 w0 bor X0 us D i ρ β W X) (hX:X q=E) (hu:(atV us i).contains q=true):E.holds W:=by
 have h:=(cx.ok q hu).holds
 rw [hX] at h; exact h
theorem CtxV.ltF {ops:Array Oper} {L:List Nat} {a0:Act} {w0:World} {bor:List Nat} {X0:List Ent} {us:List (List Nat)} {D:Nat→(Tmp→Value)→(Tmp→Value)→(Nat→Ent)→Prop} {i:Nat} {ρ:Operand→Value} {β:Tmp→Value} {W:World} {X:Nat→Ent} {q:Nat} {E:Ent} (cx:CtxV ops L a0 w0 bor X0 us D i ρ β W X) (hX:X q=E) (hu:(atV us i).contains q=true):∀ k∈E.fp,k < W.heap.size:=fun k hk=>by
 subst hX; exact ((cx.ok q hu).own k hk).2
theorem CtxV.keepF {ops:Array Oper} {L:List Nat} {a0:Act} {w0:World} {bor:List Nat} {X0:List Ent} {us:List (List Nat)} {D:Nat→(Tmp→Value)→(Tmp→Value)→(Nat→Ent)→Prop} {i:Nat} {ρ:Operand→Value} {β:Tmp→Value} {W:World} {X:Nat→Ent} {q q':Nat} {E F:Ent} (cx:CtxV ops L a0 w0 bor X0 us D i ρ β W X) (hX:X q=E) (hX':X q'=F) (hu:(atV us i).contains q=true) (hu':(atV us i).contains q'=true) (hne:q≠q'):∀ W',Upd F.fp W W'→E.holds W':=fun W' hU=>by
 subst hX hX'
 have h1:=cx.ok q hu
 exact h1.loc W W' (fun k hk=>hU.block k (h1.own k hk).2 (cx.ap q q' hu hu' hne k hk)) h1.holds
theorem CtxV.keepAt {ops:Array Oper} {L:List Nat} {a0:Act} {w0:World} {bor:List Nat} {X0:List Ent} {us:List (List Nat)} {D:Nat→(Tmp→Value)→(Tmp→Value)→(Nat→Ent)→Prop} {i:Nat} {ρ:Operand→Value} {β:Tmp→Value} {W:World} {X:Nat→Ent} {q q' e sz n m c:Nat} {A:Option Addr} {xs:List Value} {F:Ent} (cx:CtxV ops L a0 w0 bor X0 us D i ρ β W X) (hX:X q=eO e sz (.slice A n c) m xs) (hX':X q'=F) (hu:(atV us i).contains q=true) (hu':(atV us i).contains q'=true) (hne:q≠q'):∀ W',Upd F.fp W W'→At W' A xs:=fun W' hU=>
 At.of_ownN (cx.keepF hX hX' hu hu' hne W' hU)
theorem rep_snoc (L:List ByteArray) (r:Nat):(L++List.replicate r ByteArray.empty).map Value.string++[.string ⟨#[]⟩]=(L++List.replicate (r+1) ByteArray.empty).map Value.string:=by
 rw [List.replicate_succ',← List.append_assoc,List.map_append (l₂:=[ByteArray.empty])]; rfl
theorem St.pack {w0 W:World} {bor:List Nat} {L S:List Ent} {E:Ent} (h:St w0 bor (L++S) W) (hfp:E.fp=S.flatMap (·.fp)) (hh:E.holds W) (hl:E.loc):St w0 bor (L++[E]) W:=by
 have hin:∀ k,k∈E.fp→∃ e∈S,k∈e.fp:=fun k hk=>by rw [hfp] at hk; exact List.mem_flatMap.1 hk
 refine ⟨h.upd,fun x hx=>?_,?_⟩
 ·rcases List.mem_append.1 hx with hx | hx
  ·exact h.ok x (List.mem_append_left _ hx)
  ·rw [List.mem_singleton] at hx
   subst hx
   exact ⟨hh,hl,fun k hk=>let ⟨e,he,hke⟩:=hin k hk; (h.ok e (List.mem_append_right _ he)).own k hke⟩
 ·have ha:=h.apart
  rw [List.pairwise_append] at ha ⊢
  refine ⟨ha.1,List.pairwise_singleton _ _,fun a ha' b hb k hk hkb=>?_⟩
  rw [List.mem_singleton] at hb
  subst hb
  obtain ⟨e,he,hke⟩:=hin k hkb
  exact ha.2.2 a ha' e he k hk hke
theorem St.unpack {w0 W:World} {bor:List Nat} {S:List Ent} {E:Ent} (h:St w0 bor [E] W) (hfp:E.fp=S.flatMap (·.fp)) (hS:∀ e∈S,e.holds W∧e.loc) (ha:S.Pairwise Ent.apart):St w0 bor S W:=
 ⟨h.upd,fun x hx=>⟨(hS x hx).1,(hS x hx).2,fun k hk=>(h.ok E (List.mem_singleton.2 rfl)).own k (by rw [hfp]; exact List.mem_flatMap.2 ⟨x,hx,hk⟩)⟩,ha⟩
def entT (p:PgT):Ent:=eO 9 1 (.slice p.A p.its.length p.c) p.its.length (p.its.map Value.string)
def ePt (Qs:List PgT):Ent:=eM (Qs.map entT)
theorem ePt_at {Qs:List PgT} {W:World} (h:(ePt Qs).holds W) {p:PgT} (hp:p∈Qs):At W p.A (p.its.map Value.string):=At.of_own (h (entT p) (List.mem_map.2 ⟨_,hp,rfl⟩)).1
theorem St.mergeT {w0 W:World} {bor:List Nat} {L:List Ent} {Qs:List PgT} {p:PgT} (h:St w0 bor (L++[ePt Qs,entT p]) W):St w0 bor (L++[ePt (Qs++[p])]) W:=by
 have h1:=St.merge h
 rw [ePt,List.map_append]
 exact h1
def bkL (b:Nat) (LA:Option Addr) (lc n:Nat) (Ps Qs:List PgT):List Ent:=[eB b 100 #[.slice LA n lc],eO 102 3 (.slice LA n lc) n (Ps.flatMap ptC),ePt Qs]
def eBk (b:Nat) (ps:List PgS) (fp:List Nat):Ent:=⟨fp,fun W=>∃ LA lc Ps Qs,Ps.map abT=ps∧(∀ p∈Ps,p∈Qs)∧fp=(bkL b LA lc ps.length Ps Qs).flatMap (·.fp)∧(bkL b LA lc ps.length Ps Qs).Pairwise Ent.apart∧∀ e∈bkL b LA lc ps.length Ps Qs,e.holds W∧e.loc⟩
theorem eBk_loc (b:Nat) (ps:List PgS) (fp:List Nat):(eBk b ps fp).loc:=fun W W' hk h=>by
 obtain ⟨LA,lc,Ps,Qs,h1,h2,h3,h4,h5⟩:=h
 exact ⟨LA,lc,Ps,Qs,h1,h2,h3,h4,fun e he=>⟨(h5 e he).2 W W' (fun k hk'=>hk k (by rw [eBk,h3]; exact List.mem_flatMap.2 ⟨e,he,hk'⟩)) (h5 e he).1,(h5 e he).2⟩⟩
theorem eBk_self {e:Ent} {b:Nat} {ps:List PgS} {fp:List Nat} (h:e=eBk b ps fp):e=eBk b ps e.fp:=by subst h; rfl
theorem eBk_at {b:Nat} {ps:List PgS} {fp:List Nat} {W:World} (h:(eBk b ps fp).holds W):BkAt W b ps:=by
 obtain ⟨LA,lc,Ps,Qs,h1,h2,h3,h4,h5⟩:=h
 have hl:Ps.length=ps.length:=by rw [← h1,List.length_map]
 refine ⟨LA,lc,Ps,h1,(h5 (eB b 100 #[.slice LA ps.length lc]) (List.mem_cons_self ..)).1,?_,hl,fun p hp=>ePt_at (h5 (ePt Qs) (by simp [bkL])).1 (h2 p hp)⟩
 exact At.of_ownN (h5 (eO 102 3 (.slice LA ps.length lc) ps.length (Ps.flatMap ptC)) (by simp [bkL])).1
theorem St.bk {w0 W:World} {bor:List Nat} {L:List Ent} {b lc n:Nat} {LA:Option Addr} {Ps Qs:List PgT} {ps:List PgS} (h:St w0 bor (L++bkL b LA lc n Ps Qs) W) (h1:Ps.map abT=ps) (hn:ps.length=n) (h2:∀ p∈Ps,p∈Qs):∃ fp,St w0 bor (L++[eBk b ps fp]) W:=by
 subst hn
 refine ⟨_,St.pack (E:=eBk b ps ((bkL b LA lc ps.length Ps Qs).flatMap (·.fp))) h rfl ⟨LA,lc,Ps,Qs,h1,h2,rfl,(List.pairwise_append.1 h.apart).2.1,fun e he=>?_⟩ (eBk_loc _ _ _)⟩
 have h3:=h.ok e (List.mem_append_right _ he)
 exact ⟨h3.holds,h3.loc⟩
def DoPost (b:Nat) (ps:List PgS) (fp:List Nat) (w:World) (e:Ending) (w':World):Prop:=e= .returned (.tuple #[])∧∃ fp',St w fp [eBk b ps fp'] w'
theorem map_setT (Ps:List PgT) (n:Nat) (q:PgT):(Ps.set n q).map abT=(Ps.map abT).set n (abT q):=List.map_set
theorem edOk_yes {n:Nat} {e:EdT} (h:0≤e.1∧e.1 < n∧ -1≤e.2.1∧e.2.1≤100):edOk n e=true:=decide_eq_true h
theorem edOk_no {n:Nat} {e:EdT} (h:¬ (0≤e.1∧e.1 < n∧ -1≤e.2.1∧e.2.1≤100)):edOk n e=false:=decide_eq_false h
theorem do_skip {ps:List PgS} {l:List EdT} {k:Nat} {e:EdT} (he:l[k]? =some e) (h:edOk ps.length e=false):doB ps (l.take (k+1))=doB ps (l.take k):=by
 obtain ⟨hk,rfl⟩:=List.getElem?_eq_some_iff.1 he
 rw [doB_take hk,do1B,doB_len,h]; rfl
theorem do_put {ps:List PgS} {l:List EdT} {k:Nat} {e:EdT} (he:l[k]? =some e) (h:edOk ps.length e=true):doB ps (l.take (k+1))=(doB ps (l.take k)).set e.1.toNat (edP ((doB ps (l.take k)).getD e.1.toNat pgs0) e):=by
 obtain ⟨hk,rfl⟩:=List.getElem?_eq_some_iff.1 he
 rw [doB_take hk,do1B,doB_len,h]; rfl
theorem edP_new {p:PgS} {pg s:Int} {x:ByteArray} (h:s < 0):edP p (pg,s,x)=(kindB x,0,[]):=if_pos h
theorem edP_set {p:PgS} {pg s:Int} {x:ByteArray} (h:¬ s < 0):edP p (pg,s,x)=(p.1,p.2.1,setI p.2.2 s.toNat x):=if_neg h
theorem memT {Ps Qs:List PgT} (h:∀ p∈Ps,p∈Qs) (n:Nat) (q:PgT):∀ p∈Ps.set n q,p∈Qs++[q]:=fun p hp=>by
 rcases List.mem_or_eq_of_mem_set hp with h1 | rfl
 ·exact List.mem_append_left _ (h p h1)
 ·simp
theorem setT_len {Ps:List PgT} (h:∀ p∈Ps,p.its.length≤101) (n:Nat) {q:PgT} (hq:q.its.length≤101):∀ p∈Ps.set n q,p.its.length≤101:=fun p hp=>by
 rcases List.mem_or_eq_of_mem_set hp with h1 | rfl
 ·exact h p h1
 ·exact hq
theorem rdo_any (b:Nat) (ps:List PgS) (fp:List Nat) (n:Nat) (A:Option Addr) (c:Nat) (l:List EdT) (w:World) (hB:(eBk b ps fp).holds w) (hlt:∀ k∈fp,k < w.heap.size) (hL:∀ W,Upd fp w W→At W A (l.flatMap edC)) (hl:l.length≤100000) (hn:ps.length=n) (hnb:n≤1000) (hits0:∀ p∈ps,p.2.2.length≤101):
  Calls Tryz.prog 14 #[.pointer (some ⟨b,0,none⟩), .slice A l.length c] w (DoPost b (doB ps l) fp w):=by
 have st1:=St.lend hB (eBk_loc _ _ _) hlt
 obtain ⟨LA,lc,Ps,Qs,hps,hsub,hfp,hap,hall⟩:=hB
 have st0:=St.unpack st1 hfp hall hap
 rw [hn] at st0
 have hPl:Ps.length=n:=by rw [← hn,← hps,List.length_map]
 have hits:∀ p∈Ps,p.its.length≤101:=fun p hp=>hits0 (abT p) (by rw [← hps]; exact List.mem_map.2 ⟨p,hp,rfl⟩)
 go_enter Tryz.func14,Tryz.ntmps14
 have hst0:=st0
 refine wp_seq (sqr (sqp [.k 4 (vi 0)] ?_))
 refine then_normal (wp_block ?_)
 refine wp_loopT (fun t_ mz az W=>∃ k:Nat,∃ Ps:List PgT,∃ Qs:List PgT,k≤l.length∧Ps.map abT=doB ps (l.take k)∧(∀ p∈Ps,p∈Qs)∧Ps.length=n∧(∀ p∈Ps,p.its.length≤101)∧mz=l.length - k∧az=⟨(ovr (jv az) [(4,4,0,[vi ((k:Int))]),(0,5,84,[])] t_).toArray,[]⟩∧St w fp [eB b 100 #[.slice LA n lc],eO 102 3 (.slice LA n lc) n (Ps.flatMap ptC),ePt Qs] W) (l.length - 0) ?_ ?_
 · -- the loop begins
   exact ⟨0,Ps,Qs,Nat.zero_le _,hps,hsub,hPl,hits,rfl,(by kernel_rfl),hst0.pk [0,1,2]⟩
 rintro n2 a2 W2 ⟨k,Ps,Qs,hk,hPs,hsub,hPl,hits,rfl,hj_,hst2⟩
 refine ovz hj_ fun u2_=>?_
 refine wp_seq (wp_seq (sqr (sqp [.m 8 4, .m 9 1, .k 10 (vi ((l.length:Int))), .k 11 (.bool (decide ((k:Int) < (l.length:Int))))] ?_)))
 refine then_normal (wds (fun hs7 hs7p=>?_) fun hs7 hs7p=>?_)
 ·refine wp_skip (then_normal (wp_seq (wp_block (wp_seq ?_))))
  obtain ⟨ep,es,eb,hek⟩:=getEdT (l:=l) (k:=k) (by omega)
  refine sqr (sqp [.m 14 1, .m 15 4] ?_)
  refine sql (.pointer (some ((ad A).add (k*3)))) hst2 (fun cx=>run_indexSlM (e:=67) (m:=k) (sz:=3) rfl (by kernel_rfl) (by kernel_rfl) (cx.ou 14) (cx.ou 15) (by omega) (by omega) (hL _ cx.upd) (flatPos (sz:=3) edC_len (by decide) (by omega))) ?_
  refine sql (.agg #[vi ep,vi es, .string eb]) hst2 (fun cx=>run_loadElt (f:=edC) (m:=k) (sz:=3) (off:=0) (n:=3) rfl (by kernel_rfl) (by kernel_rfl) (cx.ou 16) rfl edC_len (hL _ cx.upd) hek (fun k hk=>match k,hk with | 0, _=>rfl | 1, _=>rfl | 2, _=>rfl | k+3,hk=>absurd hk (by omega))) ?_
  refine sqal #[vi 0,vi 0, .string ByteArray.empty] hst2 fun B5_12 W12 hst12=>?_
  refine sqst (n:=3) 3 #[vi ep,vi es, .string eb] hst12 fun W13 hst13=>?_
  refine then_normal (wp_seq (wp_seq (wp_region_Z [0,1,3,7,15,31,15,79,207,463,975,2047,4095,8191,16383,32767,65535,131071,262143,524287,1048575,2097151,4194303] [[],[3],[],[],[],[3],[],[],[],[0],[],[],[],[],[],[3],[],[],[],[],[3]] [.k 18 (vp B5_12), .c 19 (vi ep), .k 20 (.bool (decide (ep < 0))), .k 21 (.bool (decide (ep < 0))), .z 22 (!(decide (ep < 0))) (vp B5_12), .y 23 (!(decide (ep < 0))) (vi ep), .z 24 (!(decide (ep < 0))) (vp b), .z 25 (!(decide (ep < 0))) (vp b), .z 26 (!(decide (ep < 0))) (vp b), .y 27 (!(decide (ep < 0))) (.slice LA n lc), .z 28 (!(decide (ep < 0))) (vi ((n:Int))), .z 29 (!(decide (ep < 0))) (.bool (decide ((n:Int)≤ep))),tO 30 (decide (ep < 0)) (decide ((n:Int)≤ep)), .k 31 (.bool ((decide (ep < 0))||(decide ((n:Int)≤ep)))), .z 32 (!((decide (ep < 0))||(decide ((n:Int)≤ep)))) (.pointer (some ⟨B5_12,1,none⟩)), .y 33 (!((decide (ep < 0))||(decide ((n:Int)≤ep)))) (vi es), .z 34 (!((decide (ep < 0))||(decide ((n:Int)≤ep)))) (.bool (decide (es < -1))),tO 35 ((decide (ep < 0))||(decide ((n:Int)≤ep))) (decide (es < -1)), .k 36 (.bool (((decide (ep < 0))||(decide ((n:Int)≤ep)))||(decide (es < -1)))), .z 37 (!(((decide (ep < 0))||(decide ((n:Int)≤ep)))||(decide (es < -1)))) (.pointer (some ⟨B5_12,1,none⟩)), .y 38 (!(((decide (ep < 0))||(decide ((n:Int)≤ep)))||(decide (es < -1)))) (vi es), .z 39 (!(((decide (ep < 0))||(decide ((n:Int)≤ep)))||(decide (es < -1)))) (.bool (decide (100 < es))),tO 40 (((decide (ep < 0))||(decide ((n:Int)≤ep)))||(decide (es < -1))) (decide (100 < es))] [0,1,2,3] [1,5,9,15,20] [(18,0,23,41)] hst13 ?_ fun W14 hst14=>?_)))
  ·refine ⟨?_,?_,?_,?_,?_,trivial⟩
   ·exact xs4 rfl id fun cx=>run_load1 rfl (by kernel_rfl) (cx.an 0) ((cx.bi 3 rfl).cell 0)
   ·exact m2 rfl (fun _ _ _ h=>h) (fun cx=>(cx.an 3)) fun cx hq=>run_load1 rfl (by kernel_rfl) (mbv (cx.an 4) hq) ((cx.bi 3 rfl).cell 0)
   ·exact m2 rfl (fun _ _ _ h=>h) (fun cx=>(cx.an 3)) fun cx hq=>run_load1 rfl (by kernel_rfl) (mbv (cx.an 8) hq) ((cx.bi 0 rfl).cell 0)
   ·exact m2 rfl (fun _ _ _ h=>h) (fun cx=>(cx.an 13)) fun cx hq=>run_load1 rfl (by kernel_rfl) (mbv (cx.an 14) hq) ((cx.bi 3 rfl).cell 1)
   ·exact m2 rfl (fun _ _ _ h=>h) (fun cx=>(cx.an 18)) fun cx hq=>run_load1 rfl (by kernel_rfl) (mbv (cx.an 19) hq) ((cx.bi 3 rfl).cell 1)
  refine then_normal (wbs (fun hs15=>?_) fun hs15=>?_)
  ·have hs15p:=hs15
   simp only [zB] at hs15p
   refine wp_exit (then_exit (blk_eq (then_normal (sqr (sqp [.m 12 4,sI 13 ((k:Int)+1) (by omega), .m 4 13] ?_)))))
   refine then_normal ?_
   have hno:=edOk_no (n:=n) (e:=(ep,es,eb)) (by dsimp only; have h_:=hs15; simp only [Bool.or_eq_true,decide_eq_true_eq] at h_; omega)
   refine ⟨l.length - ((k+1)),by omega,?_⟩
   exact ⟨(k+1),Ps,Qs,by omega,by rw [do_skip hek (by rw [hn]; exact hno)]; exact hPs,hsub,hPl,hits,rfl,(by kernel_rfl),hst14.pk [0,1,2]⟩
  have hs15p:=hs15
  simp only [zB] at hs15p
  obtain ⟨⟨⟨hs15p1,hs15p2⟩,hs15p3⟩,hs15p4⟩:=hs15p
  refine wp_skip (then_normal (wp_seq ?_))
  have hbd:=hs15
  simp only [Bool.or_eq_false_iff,decide_eq_false_iff_not] at hbd
  have hed:=edOk_yes (n:=n) (e:=(ep,es,eb)) (by dsimp only; omega)
  obtain ⟨pg,hN_pg⟩:∃ z,Ps.getD (ep).toNat pt0=z:=⟨_,rfl⟩
  have hpg:=getD_mem' (l:=Ps) (n:=(ep).toNat) (d:=pt0) (by omega)
  rw [hN_pg] at hpg
  have hpl:=hits _ hpg.2
  have hgD:(doB ps (l.take k)).getD (ep).toNat pgs0=abT pg:=by rw [← hPs,getD_abT,hN_pg]
  refine wp_region_Y [0,1,3,7,0,16,63,127,0,511] [[],[],[],[0],[],[3],[1],[1],[],[4]] [[],[],[],[],[],[],[],[],[4],[5]] [[],[],[],[],[],[],[],[],[],[4]] [.k 41 (vp b), .k 42 (vp b), .k 43 (vp b), .c 44 (.slice LA n lc), .k 45 (vp B5_12), .c 46 (vi ep), .c 47 (.pointer (some ((ad LA).add (((ep).toNat)*3)))), .c 48 (.agg #[vi pg.k,vi pg.l, .slice pg.A pg.its.length pg.c]), .a 6, .n] (fun ix σ β X=>match ix with | 0=>True | 1=>True | 2=>True | 3=>True | 4=>True | 5=>True | 6=>True | 7=>True | 8=>σ 6=vp (pb (β 6))∧X 4=eB (pb (β 6)) 102 #[vi 0,vi 0, .slice none 0 0] | 9=>X 5=eB (pb (β 6)) 102 #[vi pg.k,vi pg.l, .slice pg.A pg.its.length pg.c] | _=>True) [0,1,2,3,5] [3,5,6,7,8,9] [(6,8,1,7),(34,0,8,42)] hst14 ?_ ?_ ?_
  ·exact fun ix _ _ _ _ _ _ hs hb hx h=>match ix,h with
   | 8,h=>by dsimp only; rw [← hs 6 rfl,← hb 6 rfl,← hx 4 rfl]; exact h
   | 9,h=>by dsimp only; rw [← hb 6 rfl,← hx 5 rfl]; exact h
   | 0, _ | 1, _ | 2, _ | 3, _ | 4, _ | 5, _ | 6, _ | 7, _ | _+10, _=>trivial
  ·refine ⟨?_,?_,?_,?_,?_,?_,trivial⟩
   ·exact xs4 rfl id fun cx=>run_load1 rfl (by kernel_rfl) (cx.an 2) ((cx.bi 0 rfl).cell 0)
   ·exact xs4 rfl id fun cx=>run_load1 rfl (by kernel_rfl) (cx.an 4) ((cx.bi 3 rfl).cell 0)
   ·exact xs4 rfl id fun cx=>run_indexSlM (e:=102) (m:=(ep).toNat) (sz:=3) rfl (by kernel_rfl) (by kernel_rfl) (cx.an 3) (cx.an 5) (by omega) (by omega) (At.of_ownN (cx.ri 1 rfl)) (flatPos (sz:=3) ptC_len (by decide) (by omega))
   ·exact xs4 rfl id fun cx=>run_loadElt (f:=ptC) (m:=((ep).toNat)) (sz:=3) (off:=0) (n:=3) rfl (by kernel_rfl) (by kernel_rfl) (cx.an 6) rfl ptC_len (At.of_ownN (cx.ri 1 rfl)) hpg.1 (fun k hk=>match k,hk with | 0, _=>rfl | 1, _=>rfl | 2, _=>rfl | k+3,hk=>absurd hk (by omega))
   ·refine svA fun ρ β W X cx=>?_
    exact dv_alloc (cs:=#[vi 0,vi 0, .slice none 0 0]) rfl (by kernel_rfl) rfl rfl (fun σ β' X' hs hb hv hx=>⟨hv,hx⟩)
   ·refine svA fun ρ β W X cx=>?_
    exact dv_store (n:=3) rfl (dTn (cx.an 8)).1 (cx.an 7) (by kernel_rfl) (by kernel_rfl) (by kernel_rfl) cx (dTn (cx.an 8)).2 rfl (nle rfl) (by kernel_rfl) rfl rfl rfl (fun σ β' X' hs hb hx=>by rw [hb 6]; exact hx)
  intro σ β X W19 hD hst19 fr hfr
  obtain ⟨B6_19,hu_B6_19⟩:∃ z,pb (β 6)=z:=⟨_,rfl⟩
  simp only [exq 5 ((dTn (hD 9 lq))),hu_B6_19] at hst19
  simp only [ed 6 ((dTn (hD 8 lq)).1),hu_B6_19] at hfr
  clear hD hu_B6_19; subst hfr; clear σ β X
  refine then_normal ?_
  refine wp_cutT (fun t_ az W=>∃ pk:Int,∃ pl:Int,∃ pA:Option Addr,∃ pc:Nat,∃ pits:List ByteArray,edP (abT pg) (ep,es,eb)=(pk,pl,pits)∧pits.length≤101∧az=⟨(ovr (jv az) [(7,7,1,[]),(41,49,32,[])] t_).toArray,[]⟩∧St w fp [eB b 100 #[.slice LA n lc],eO 102 3 (.slice LA n lc) n (Ps.flatMap ptC),ePt Qs,eB B5_12 67 #[vi ep,vi es, .string eb],eB B6_19 102 #[vi pk,vi pl, .slice pA pits.length pc],eO 9 1 (.slice pA pits.length pc) pits.length (pits.map Value.string)] W) ?_ ?_
  ·refine wp_seq (sqr (sqp [.k 49 (.pointer (some ⟨B5_12,1,none⟩))] ?_))
   refine sqld 3 hst19 ?_
   refine sqp [.k 51 (.bool (decide (es < 0)))] ?_
   refine then_normal (wds (fun hs24 hs24p=>?_) fun hs24 hs24p=>?_)
   ·refine wp_seq (sqr (sqp [.k 52 (.agg #[vi 0,vi 0, .slice none 0 0])] ?_))
    refine sqst (n:=3) 4 #[vi 0,vi 0, .slice none 0 0] hst19 fun W26 hst26=>?_
    refine then_normal (wp_seq (sqr (sqp [.k 53 (.pointer (some ⟨B5_12,2,none⟩))] ?_)))
    refine sqld 3 hst26 ?_
    refine sqp [.k 55 (.bool (!(eb.toList==((⟨#[]⟩:ByteArray)).toList)))] ?_
    refine then_normal ?_
    rcases Bool.eq_false_or_eq_true (eb.toList==((⟨#[]⟩:ByteArray)).toList) with hs30 | hs30
    ·refine wp_cond_false (show Act.eval _ _= .bool false from (congrArg Value.bool (by rw [hs30]; rfl))) (wp_skip (then_normal ?_))
     have hn31:=St.nilrow hst26 9
     simp only [List.cons_append,List.nil_append] at hn31
     exact ⟨(0),0,none,0,([]:List ByteArray),by rw [edP_new (by omega),kindB,if_pos (by have h_:=hs30; rw [size_nil] at h_; exact of_decide_eq_true h_)],by decide,(by kernel_rfl),hn31.pk [0,1,2,3,4,5]⟩
    refine wp_cond_true (show Act.eval _ _= .bool true from (congrArg Value.bool (by rw [hs30]; rfl))) ?_
    have he0:0 < eb.size:=by have h_:=hs30; rw [size_nil] at h_; have h2_:=of_decide_eq_false h_; omega
    have hbb_:=byteI_bd (bl eb) 0
    refine sqr (sqp [.k 56 (.pointer (some ⟨B5_12,2,none⟩))] ?_)
    refine sqld 3 hst26 ?_
    refine sql (.int .u8 (byteI (bl eb) 0)) hst26 (fun cx=>run_indexS (m:=0) rfl (by kernel_rfl) (cx.ou 57) (cx.co _) (by omega) (by omega)) ?_
    refine sqp [sW 59 .i64 (byteI (bl eb) 0) (byteI (bl eb) 0) (IntWalk.i64_in _ (by omega)), .k 60 (vp B6_19)] ?_
    refine sqst (n:=1) 4 #[vi (byteI (bl eb) 0),vi 0, .slice none 0 0] hst26 fun W37 hst37=>?_
    refine then_normal ?_
    have hn38:=St.nilrow hst37 9
    simp only [List.cons_append,List.nil_append] at hn38
    exact ⟨(byteI (bl eb) 0),0,none,0,([]:List ByteArray),by rw [edP_new (by omega),kindB,if_neg (by omega)],by decide,(by kernel_rfl),hn38.pk [0,1,2,3,4,5]⟩
   refine wp_seq (sqr ?_)
   refine sqn1 (fun x_=>sA x_) (fun A61_39=> .slice A61_39 0 0) (fun A61_39=>eO 9 1 (.slice A61_39 0 0) 0 ([])) hst19 (by
     refine svA fun ρ β W X cx=>?_
     exact dv_lit (e:=9) (xs:=[]) rfl (by simp [go_sem]) rfl (by decide) rfl rfl (fun σ β' X' hs hb hv hx=>⟨hv,hx⟩)) fun A61_39 W39 hst39=>?_
   refine sqp [.k 62 (.pointer (some ⟨B6_19,2,none⟩))] ?_
   refine sqld 4 hst39 ?_
   refine sqc2 (fun x_=>sA x_) (fun x_=>sC x_) (fun A64_42 c64_42=> .slice A64_42 pg.its.length c64_42) (fun A64_42 c64_42=>eO 9 1 (.slice A64_42 pg.its.length c64_42) pg.its.length (pg.its.map Value.string)) 5 hst39 (by
     refine svA fun ρ β W X cx=>?_
     obtain ⟨i0,hi0,hz0,hz1,hz2⟩:=info_parts Tryz.infoStr
     refine dv_append (n:=0) (m:=pg.its.length) (nm:=pg.its.length) (xs:=[]) (news:=pg.its.map Value.string) (xs':=pg.its.map Value.string) rfl (ty:=56) rfl (by kernel_rfl) hi0 hz0 hz1 hz2 rfl (cx.ou 61) cx (cx.init 5 _ rfl) rfl (cx.ou 63) (by first | (simp; done) | (simp; omega)) (ePt_at (CtxV.holdF cx (cx.init 2 _ rfl) rfl) (hsub _ hpg.2)) (str_one _) (by simp only [maxLen]; omega) (by omega) rfl rfl rfl (by omega) (rfl) (fun σ β' X' hs hb hv hx=>?_)
     exact ⟨hv,hx⟩) fun A64_42 c64_42 W42 hst42=>?_
   refine sqp [.m 7 64] ?_
   refine then_normal (wp_seq (wp_block ?_))
   rw [show pg.its.map Value.string=(pg.its++List.replicate 0 ByteArray.empty).map Value.string by simp] at hst42
   refine wp_loopT (fun t_ mz az W=>∃ m:Nat,∃ rr:Nat,∃ XA:Option Addr,∃ XC:Nat,m=pg.its.length+rr∧(rr=0∨(m:Int)≤es+1)∧m≤101∧mz=102 - m∧az=⟨(ovr (jv az) [(7,7,0,[.slice XA m XC]),(57,65,8,[])] t_).toArray,[]⟩∧St w fp [eB b 100 #[.slice LA n lc],eO 102 3 (.slice LA n lc) n (Ps.flatMap ptC),ePt Qs,eB B5_12 67 #[vi ep,vi es, .string eb],eB B6_19 102 #[vi pg.k,vi pg.l, .slice pg.A pg.its.length pg.c],eO 9 1 (.slice XA m XC) m ((pg.its++List.replicate rr ByteArray.empty).map Value.string)] W) (102 - pg.its.length) ?_ ?_
   · -- the loop begins
     exact ⟨pg.its.length,0,A64_42,c64_42,rfl, .inl rfl,hpl,rfl,(by kernel_rfl),hst42.pk [0,1,2,3,4,5]⟩
   rintro n44 a44 W44 ⟨m,rr,XA,XC,hmr,hr0,hm1,rfl,hj_,hst44⟩
   refine ovz hj_ fun u44_=>?_
   refine wp_seq (wp_seq (sqr (sqp [.m 65 7, .k 66 (vi ((m:Int))), .k 67 (.pointer (some ⟨B5_12,1,none⟩))] ?_)))
   refine sqld 3 hst44 ?_
   refine sqp [.k 69 (.bool (decide ((m:Int)≤es)))] ?_
   refine then_normal (wds (fun hs50 hs50p=>?_) fun hs50 hs50p=>?_)
   ·refine wp_skip (then_normal (wp_block (sqr (sqp [.m 70 7] ?_))))
    refine sqn1 (fun x_=>sA x_) (fun A71_52=> .slice A71_52 1 1) (fun A71_52=>eO 9 1 (.slice A71_52 1 1) 1 ([.string ⟨#[]⟩])) hst44 (by
      refine svA fun ρ β W X cx=>?_
      exact dv_lit (e:=9) (xs:=[.string ⟨#[]⟩]) rfl (by simp [go_sem,cx.sees.const]) rfl (by decide) rfl rfl (fun σ β' X' hs hb hv hx=>⟨hv,hx⟩)) fun A71_52 W52 hst52=>?_
    refine sqc2 (fun x_=>sA x_) (fun x_=>sC x_) (fun A72_53 c72_53=> .slice A72_53 (m+1) c72_53) (fun A72_53 c72_53=>eO 9 1 (.slice A72_53 (m+1) c72_53) (m+1) ((pg.its++List.replicate (rr+1) ByteArray.empty).map Value.string)) 5 hst52 (by
      refine svA fun ρ β W X cx=>?_
      obtain ⟨i0,hi0,hz0,hz1,hz2⟩:=info_parts Tryz.infoStr
      refine dv_append (n:=m) (m:=1) (nm:=m+1) (xs:=(pg.its++List.replicate rr ByteArray.empty).map Value.string) (news:=[.string ⟨#[]⟩]) (xs':=(pg.its++List.replicate (rr+1) ByteArray.empty).map Value.string) rfl (ty:=56) rfl (by kernel_rfl) hi0 hz0 hz1 hz2 rfl (cx.ou 70) cx (cx.init 5 _ rfl) rfl (cx.ou 71) (by first | (simp; done) | (simp; omega)) (At.of_own (cx.ri 6 rfl)) (by simp [Value.oneCell']) (by simp only [maxLen]; omega) (by omega) rfl rfl rfl (by omega) (rep_snoc _ _) (fun σ β' X' hs hb hv hx=>?_)
      exact ⟨hv,hx⟩) fun A72_53 c72_53 W53 hst53=>?_
    refine sqp [.m 7 72] ?_
    refine blk_normal (then_normal ?_)
    refine ⟨102 - ((m+1)),by omega,?_⟩
    exact ⟨(m+1),(rr+1),A72_53,c72_53,by omega, .inr (by omega),by omega,rfl,(by kernel_rfl),hst53.pk [0,1,2,3,4,5]⟩
   refine wp_exit (then_exit (then_exit (blk_eq (then_normal (wp_seq (sqr (sqp [.m 73 7, .k 74 (.pointer (some ⟨B5_12,1,none⟩))] ?_)))))))
   refine sqld 3 hst44 ?_
   refine sqp [.k 76 (.pointer (some ⟨B5_12,2,none⟩))] ?_
   refine sqld 3 hst44 ?_
   refine sql (.pointer (some ((ad XA).add ((es).toNat)))) hst44 (fun cx=>run_indexSl (e:=9) (m:=(es).toNat) rfl (by kernel_rfl) (by kernel_rfl) (cx.ou 73) (cx.ou 75) (by omega) (by omega) (At.of_own (cx.ri 5 rfl)) (by rw [List.length_map,List.length_append,List.length_replicate]; omega)) ?_
   refine sqc (eO 9 1 (.slice XA m XC) m (((pg.its++List.replicate rr ByteArray.empty).set (es).toNat eb).map Value.string)) 5 hst44 (by
     refine svA fun ρ β W X cx=>?_
     exact dv_storeRow (m:=(es).toNat) (n:=m) rfl (cx.ou 78) (show _=Value.string eb from (cx.ou 77)) (by kernel_rfl) rfl rfl cx (cx.init 5 _ rfl) rfl (by omega) rfl (by rw [List.map_set]) rfl rfl (fun σ β' X' hs hb hx=>hx)) fun W61 hst61=>?_
   refine then_normal (sqr (sqp [.m 79 7, .k 80 (.pointer (some ⟨B6_19,2,none⟩))] ?_))
   refine sqst (n:=1) 4 #[vi pg.k,vi pg.l, .slice XA m XC] hst61 fun W64 hst64=>?_
   refine then_normal ?_
   have hs9:(pg.its++List.replicate rr ByteArray.empty).set (es).toNat eb=(setI pg.its (es).toNat eb):=by rw [setI,show rr=(es).toNat+1 - pg.its.length by omega]
   have hm9:m=(setI pg.its (es).toNat eb).length:=by rw [setI_len]; omega
   rw [hs9] at hst64
   subst hm9
   exact ⟨pg.k,pg.l,XA,XC,(setI pg.its (es).toNat eb),by rw [edP_set (by omega)]; rfl,by rw [setI_len]; omega,(by kernel_rfl),hst64.pk [0,1,2,3,4,5]⟩
  rintro a20 W20 ⟨pk,pl,pA,pc,pits,hpe,hpz,hj_,hst20⟩
  refine ovz hj_ fun u20_=>?_
  refine wp_region_Y [0,1,3,7,0,16,0,127,255] [[],[],[],[0],[],[3],[4],[1],[1]] [[],[],[],[],[],[],[],[],[6]] [[],[],[],[],[],[],[],[],[1]] [.k 81 (vp b), .k 82 (vp b), .k 83 (vp b), .c 84 (.slice LA n lc), .k 85 (vp B5_12), .c 86 (vi ep), .c 87 (.agg #[vi pk,vi pl, .slice pA pits.length pc]), .c 88 (.pointer (some ((ad LA).add (((ep).toNat)*3)))), .n] (fun ix σ β X=>match ix with | 0=>True | 1=>True | 2=>True | 3=>True | 4=>True | 5=>True | 6=>True | 7=>True | 8=>X 6=eO 102 3 (.slice LA n lc) n ((Ps.set (ep).toNat (PgT.mk pk pl pA pc pits)).flatMap ptC) | _=>True) [0,2,3,4,5,6] [3,5,6,7,8] [(81,0,8,89)] hst20 ?_ ?_ ?_
  ·exact fun ix _ _ _ _ _ _ hs hb hx h=>match ix,h with
   | 8,h=>by dsimp only; rw [← hx 6 rfl]; exact h
   | 0, _ | 1, _ | 2, _ | 3, _ | 4, _ | 5, _ | 6, _ | 7, _ | _+9, _=>trivial
  ·refine ⟨?_,?_,?_,?_,?_,trivial⟩
   ·exact xs4 rfl id fun cx=>run_load1 rfl (by kernel_rfl) (cx.an 2) ((cx.bi 0 rfl).cell 0)
   ·exact xs4 rfl id fun cx=>run_load1 rfl (by kernel_rfl) (cx.an 4) ((cx.bi 3 rfl).cell 0)
   ·exact xs4 rfl id fun cx=>run_loadB (n:=3) rfl (by kernel_rfl) (by kernel_rfl) (cx.ou 6) (cx.bi 4 rfl) (nle rfl) rfl
   ·exact xs4 rfl id fun cx=>run_indexSlM (e:=102) (m:=(ep).toNat) (sz:=3) rfl (by kernel_rfl) (by kernel_rfl) (cx.an 3) (cx.an 5) (by omega) (by omega) (At.of_ownN (cx.ri 1 rfl)) (flatPos (sz:=3) ptC_len (by decide) (by omega))
   ·refine svA fun ρ β W X cx=>?_
    exact dv_storeElt (m:=((ep).toNat)*3) (n:=n) (sz:=3) (k:=3) rfl (cx.an 7) (cx.an 6) (by kernel_rfl) (by kernel_rfl) (by kernel_rfl) cx (cx.init 1 _ rfl) rfl (by omega) (by decide) rfl (putL_flat ptC_len (by omega) (PgT.mk pk pl pA pc pits)) rfl rfl (fun σ β' X' hs hb hx=>hx)
  intro σ β X W65 hD hst65 fr hfr
  simp only [exq 6 ((dTn (hD 8 lq)))] at hst65
  clear hD; subst hfr; clear σ β X
  refine blk_normal (then_normal (sqr (sqp [.m 12 4,sI 13 ((k:Int)+1) (by omega), .m 4 13] ?_)))
  refine then_normal ?_
  have hm69:=St.mergeT (Qs:=Qs) (p:=(PgT.mk pk pl pA pc pits)) (L:=[eB b 100 #[.slice LA n lc],eO 102 3 (.slice LA n lc) n ((Ps.set (ep).toNat (PgT.mk pk pl pA pc pits)).flatMap ptC)]) (hst65.pick [0,5,1,4] (by decide) rfl)
  refine ⟨l.length - ((k+1)),by omega,?_⟩
  exact ⟨(k+1),(Ps.set (ep).toNat (PgT.mk pk pl pA pc pits)),(Qs++[(PgT.mk pk pl pA pc pits)]),by omega,by rw [do_put hek (by rw [hn]; exact hed),map_setT,hPs,hgD]; congr 1; exact hpe.symm,memT hsub _ _,by rw [List.length_set]; exact hPl,setT_len hits _ hpz,rfl,(by kernel_rfl),hm69.pk [0,1,2]⟩
 refine wp_exit (then_exit (then_exit (blk_eq ?_)))
 refine bpe (.tuple #[]) (by simp [results,Tryz.results14,go_sem]) ?_
 rw [List.take_of_length_le (by omega)] at hPs
 have hpk_:=hst2.pick [0,1,2] (by decide) rfl
 exact ⟨rfl,St.bk (L:=[]) hpk_ hPs (by rw [doB_len,hn]) hsub⟩
theorem Tryz.infoPage:(Tryz.prog.info? 102).map (fun i=>(i.zero,i.size,i.bytes))=some (some (.agg #[.int .i64 0, .int .i64 0, .slice none 0 0]),3,40):=by kernel_rfl
theorem pgt_zero (n:Nat):(madeCells (Value.agg #[.int .i64 0, .int .i64 0, .slice none 0 0]).cells (n*3)).toList=(List.replicate n pt0).flatMap ptC:=madeCells_flat ptC pt0 #[.int .i64 0, .int .i64 0, .slice none 0 0] rfl (by decide) n
/-- an empty tree in page 0 of n pages -/
def blankF (n:Nat):List PgS:=doB (List.replicate n pgs0) (begF 0)
def BkPost (ps:List PgS) (w:World) (e:Ending) (w':World):Prop:=∃ b fp,e= .returned (.pointer (some ⟨b,0,none⟩))∧St w [] [eBk b ps fp] w'
theorem St.bkNew {w0 W:World} {bor:List Nat} {a b:Ent} (h:St w0 bor [a,b] W):St w0 bor ([]++[a,b,ePt [pt0]]) W:=by
 have h1:=St.emNil h
 have h2:=St.nilrow h1 9
 have h3:=St.merge (L:=[a,b]) (R:=[]) (e:=entT pt0) h2
 exact h3
theorem rblank_any (n:Nat) (w:World) (hn:n≤1000):
  Calls Tryz.prog 27 #[.int .i64 ((n:Int))] w (BkPost (blankF n) w):=by
 go_enter Tryz.func27,Tryz.ntmps27
 have hst0:=St.start w
 refine wp_seq (sqr (sqp [.k 2 (.pointer none)] ?_))
 refine then_normal (wp_seq (sqr (sqp [.m 4 0] ?_)))
 refine sqn1 (fun x_=>sA x_) (fun A5_3=> .slice A5_3 n n) (fun A5_3=>eO 102 3 (.slice A5_3 n n) n ((List.replicate n pt0).flatMap ptC)) hst0 (by
   refine svA fun ρ β W X cx=>?_
   obtain ⟨i0,hi0,hz0,hz1,hz2⟩:=info_parts Tryz.infoPage
   exact dv_makeN (n:=n) (sz:=3) rfl (by kernel_rfl) hi0 hz0 hz1 hz2 (cx.ou 4) (cx.ou 4) (by omega) (by omega) (by omega) (by omega) (by simp only [maxLen]; omega) (pgt_zero n) rfl rfl (fun σ β' X' hs hb hv hx=>⟨hv,hx⟩)) fun A5_3 W3 hst3=>?_
 refine sqp [.k 6 (.agg #[.slice A5_3 n n])] ?_
 refine sqbx #[.slice A5_3 n n] hst3 fun B7_5 W5 hst5=>?_
 refine sqp [.m 3 7] ?_
 refine then_normal (wp_seq ?_)
 obtain ⟨fpB,hm7⟩:=St.bk (L:=[]) (Qs:=[pt0]) (St.bkNew (hst5.pick [1,0] (by decide) rfl)) (ps:=List.replicate n pgs0) (by rw [List.map_replicate]; rfl) (by rw [List.length_replicate]) (fun p hp=>by rw [(List.mem_replicate.1 hp).2]; simp)
 simp only [List.nil_append] at hm7
 refine sqr (sqp [.m 8 3] ?_)
 refine sqk2 (fun A9_9 c9_9=> .slice A9_9 2 c9_9) (fun A9_9 c9_9=>eO 67 3 (.slice A9_9 2 c9_9) 2 ((begF 0).flatMap edC)) hm7 (fun cx=>⟨_,(rbegin_any 0 _).mono (by rintro e W1 ⟨A4,c4,rfl,ho_,hx⟩; exact ⟨_, _,rfl,St.one hx (eO_new (n:=2) (xs:=(begF 0).flatMap edC) ho_)⟩),(map1 (cx.co _))⟩) fun A9_9 c9_9 W9 hst9=>?_
 refine sqc0s (fun X_=>X_.fp) (.tuple #[]) (fun r2_10=>eBk B7_5 (doB (List.replicate n pgs0) (begF 0)) r2_10) 0 hst9 (by
   refine svA fun ρ β W X cx=>?_
   refine DoesU.call (run_callF (args:=#[vp B7_5, .slice A9_9 2 c9_9]) rfl cx.sees rfl (by kernel_rfl) (map2 (cx.ou 8) (cx.ou 9))) ?_
   refine (rdo_any B7_5 (List.replicate n pgs0) _ n _ _ (begF 0) _ (CtxV.holdF cx (cx.init 0 _ rfl) rfl) (CtxV.ltF cx (cx.init 0 _ rfl) rfl) (CtxV.keepAt cx (cx.init 1 _ rfl) (cx.init 0 _ rfl) rfl rfl (by decide)) (by decide) (by rw [List.length_replicate]) hn (fun p hp=>by rw [(List.mem_replicate.1 hp).2]; decide)).mono ?_
   rintro e W1 ⟨rfl,fp4,hs4⟩
   refine ⟨_,rfl,post_obj (E:=eBk B7_5 (List.replicate n pgs0) fpB) [eBk B7_5 (doB (List.replicate n pgs0) (begF 0)) fp4] (cx.init 0 _ rfl) rfl rfl hs4 (fun σ β' X' hs hb hv hN=>?_)⟩
   have hv1:=(hv 10 rfl).1; have hv2:=(hv 10 rfl).2
   exact ⟨hv1.trans rfl,eBk_self ((List.cons.inj hN).1)⟩) fun r2_10 W10 hst10=>?_
 refine then_normal (wp_seq (sqr (sqp [.m 11 3, .m 2 11] ?_)))
 refine then_normal (wp_ret ?_)
 refine bpr (vp B7_5) (results_1 Tryz.results27 rpt) ?_
 exact ⟨_, _,rfl,hst10.pick [0] (by decide) rfl⟩
end
section
open Go.RowKit
theorem hdB_256 (rt:Int) (dead:Bool) (hi:ByteArray):hdB 0 rt dead hi=hdB 256 rt dead hi:=rfl
theorem khead_w (pg rt fr:Int) (hi:ByteArray) (dead:Bool) (EA:Option Addr) (en ec:Nat) (w:World) (hrt: -1≤rt∧rt≤1000000) (hh:hi.size≤1000000):
  Calls Tryz.prog 62 #[.agg #[.int .i64 pg, .int .i64 256, .int .i64 rt, .string hi, .bool dead, .slice EA en ec, .int .i64 fr]] w (Ret (.string (hdB 256 rt dead hi)) w):=by
 go_enter Tryz.func62,Tryz.ntmps62
 have hst0:=St.start w
 refine wp_seq (sqr ?_)
 refine sqbx #[vi pg,vi 256,vi rt, .string hi, .bool dead, .slice EA en ec,vi fr] hst0 fun B1_1 W1 hst1=>?_
 refine sqp [.k 2 (.string ⟨#[]⟩)] ?_
 refine then_normal (wp_seq (sqr (sqp [.k 3 (vi 0)] ?_)))
 refine then_normal (wp_seq (wp_seq (sqr (sqp [.k 4 (.pointer (some ⟨B1_1,4,none⟩))] ?_))))
 refine sqld 0 hst1 ?_
 refine then_normal (wbs (fun hs6=>?_) fun hs6=>?_)
 ·refine sqr (sqp [.k 3 (vi 1)] ?_)
  refine then_normal (wp_seq (wp_region_Y [0,1,3,0,8,31,63,0,128,384,896,2047,0,4096,16383,32767] [[],[0],[],[],[],[],[1],[],[0],[],[],[],[],[0]] [[],[],[],[],[],[1]] [] [.k 6 (.pointer (some ⟨B1_1,1,none⟩)), .c 7 (vi 256),tW 8 .u8 256 0 (by decide), .k 9 (vi 1),tW 10 .u8 1 1 (by decide), .a 11, .c 12 (.string (strOfNums ([0,1]))), .k 13 (.pointer (some ⟨B1_1,2,none⟩)), .c 14 (vi rt),tI 15 (rt+1) (by omega), .c 16 (.string (twoB (rt+1))),tS 17 (strOfNums ([0,1])) (twoB (rt+1)) (by (try simp only [ByteArray.size_append,twoB_size,two_sz]); omega), .k 18 (.pointer (some ⟨B1_1,3,none⟩)), .c 19 (.string hi),tS 20 ((strOfNums ([0,1]))++(twoB (rt+1))) hi (by (try simp only [ByteArray.size_append,twoB_size,two_sz]); omega), .k 2 (.string (((strOfNums ([0,1]))++(twoB (rt+1)))++hi))] (fun ix σ β X=>match ix with | 0=>True | 1=>True | 2=>True | 3=>True | 4=>True | 5=>σ 11= .slice (sA (β 11)) 2 2∧X 1=eO 5 1 (.slice (sA (β 11)) 2 2) 2 ([.int .u8 0, .int .u8 1]) | _=>True) [0,1] [1,5,6,8,10,13] [(2,15,1,3),(3,0,15,18)] hst1 ?_ ?_ ?_))
  ·exact fun ix _ _ _ _ _ _ hs hb hx h=>match ix,h with
   | 5,h=>by dsimp only; rw [← hs 11 rfl,← hb 11 rfl,← hx 1 rfl]; exact h
   | 0, _ | 1, _ | 2, _ | 3, _ | 4, _ | _+6, _=>trivial
  ·refine ⟨?_,?_,?_,?_,?_,?_,trivial⟩
   ·exact xs4 rfl id fun cx=>run_load1 rfl (by kernel_rfl) (cx.an 0) ((cx.bi 0 rfl).cell 1)
   ·refine svA fun ρ β W X cx=>?_
    have fF8:ρ (.tmp 8)= .int .u8 0:=(cx.an 2)
    have fF10:ρ (.tmp 10)= .int .u8 1:=(cx.an 4)
    exact dv_lit (e:=5) (xs:=[.int .u8 0, .int .u8 1]) rfl (by simp [go_sem,fF8,fF10]) rfl (by decide) rfl rfl (fun σ β' X' hs hb hv hx=>⟨hv,hx⟩)
   ·exact xs4 rfl id fun cx=>run_convB (e:=5) rfl (by kernel_rfl) (by kernel_rfl) (by kernel_rfl) (dTn (cx.an 5)).1 (cx.row (dTn (cx.an 5)).2 rfl)
   ·exact xs4 rfl id fun cx=>run_load1 rfl (by kernel_rfl) (cx.an 7) ((cx.bi 0 rfl).cell 2)
   ·exact xsc rfl id rfl rfl fun cx=>⟨_,knum_any (rt+1) _,(map1 (cx.an 9))⟩
   ·exact xs4 rfl id fun cx=>run_load1 rfl (by kernel_rfl) (cx.an 12) ((cx.bi 0 rfl).cell 3)
  intro σ β X W8 hD hst8 fr hfr
  obtain ⟨A11_8,hu_A11_8⟩:∃ z,sA (β 11)=z:=⟨_,rfl⟩
  simp only [exq 1 ((dTn (hD 5 lq)).2),hu_A11_8] at hst8
  simp only [ed 11 ((dTn (hD 5 lq)).1),hu_A11_8] at hfr
  clear hD hu_A11_8; subst hfr; clear σ β X
  refine then_normal (wp_ret ?_)
  refine bpr (.string (((strOfNums ([0,1]))++(twoB (rt+1)))++hi)) (results_1 Tryz.results62 rpt) ?_
  exact Ret.of (by rw [← hdB_256]; simp [hdB, *]) hst8.ext
 refine wp_skip (then_normal (wp_seq (wp_region_Y [0,1,3,0,8,31,63,0,128,384,896,2047,0,4096,16383,32767] [[],[0],[],[],[],[],[1],[],[0],[],[],[],[],[0]] [[],[],[],[],[],[1]] [] [.k 6 (.pointer (some ⟨B1_1,1,none⟩)), .c 7 (vi 256),tW 8 .u8 256 0 (by decide), .k 9 (vi 0),tW 10 .u8 0 0 (by decide), .a 11, .c 12 (.string (strOfNums ([0,0]))), .k 13 (.pointer (some ⟨B1_1,2,none⟩)), .c 14 (vi rt),tI 15 (rt+1) (by omega), .c 16 (.string (twoB (rt+1))),tS 17 (strOfNums ([0,0])) (twoB (rt+1)) (by (try simp only [ByteArray.size_append,twoB_size,two_sz]); omega), .k 18 (.pointer (some ⟨B1_1,3,none⟩)), .c 19 (.string hi),tS 20 ((strOfNums ([0,0]))++(twoB (rt+1))) hi (by (try simp only [ByteArray.size_append,twoB_size,two_sz]); omega), .k 2 (.string (((strOfNums ([0,0]))++(twoB (rt+1)))++hi))] (fun ix σ β X=>match ix with | 0=>True | 1=>True | 2=>True | 3=>True | 4=>True | 5=>σ 11= .slice (sA (β 11)) 2 2∧X 1=eO 5 1 (.slice (sA (β 11)) 2 2) 2 ([.int .u8 0, .int .u8 0]) | _=>True) [0,1] [1,5,6,8,10,13] [(2,15,1,3),(3,0,15,18)] hst1 ?_ ?_ ?_)))
 ·exact fun ix _ _ _ _ _ _ hs hb hx h=>match ix,h with
  | 5,h=>by dsimp only; rw [← hs 11 rfl,← hb 11 rfl,← hx 1 rfl]; exact h
  | 0, _ | 1, _ | 2, _ | 3, _ | 4, _ | _+6, _=>trivial
 ·refine ⟨?_,?_,?_,?_,?_,?_,trivial⟩
  ·exact xs4 rfl id fun cx=>run_load1 rfl (by kernel_rfl) (cx.an 0) ((cx.bi 0 rfl).cell 1)
  ·refine svA fun ρ β W X cx=>?_
   have fF8:ρ (.tmp 8)= .int .u8 0:=(cx.an 2)
   have fF10:ρ (.tmp 10)= .int .u8 0:=(cx.an 4)
   exact dv_lit (e:=5) (xs:=[.int .u8 0, .int .u8 0]) rfl (by simp [go_sem,fF8,fF10]) rfl (by decide) rfl rfl (fun σ β' X' hs hb hv hx=>⟨hv,hx⟩)
  ·exact xs4 rfl id fun cx=>run_convB (e:=5) rfl (by kernel_rfl) (by kernel_rfl) (by kernel_rfl) (dTn (cx.an 5)).1 (cx.row (dTn (cx.an 5)).2 rfl)
  ·exact xs4 rfl id fun cx=>run_load1 rfl (by kernel_rfl) (cx.an 7) ((cx.bi 0 rfl).cell 2)
  ·exact xsc rfl id rfl rfl fun cx=>⟨_,knum_any (rt+1) _,(map1 (cx.an 9))⟩
  ·exact xs4 rfl id fun cx=>run_load1 rfl (by kernel_rfl) (cx.an 12) ((cx.bi 0 rfl).cell 3)
 intro σ β X W9 hD hst9 fr hfr
 obtain ⟨A11_9,hu_A11_9⟩:∃ z,sA (β 11)=z:=⟨_,rfl⟩
 simp only [exq 1 ((dTn (hD 5 lq)).2),hu_A11_9] at hst9
 simp only [ed 11 ((dTn (hD 5 lq)).1),hu_A11_9] at hfr
 clear hD hu_A11_9; subst hfr; clear σ β X
 refine then_normal (wp_ret ?_)
 refine bpr (.string (((strOfNums ([0,0]))++(twoB (rt+1)))++hi)) (results_1 Tryz.results62 rpt) ?_
 exact Ret.of (by rw [← hdB_256]; simp [hdB, *]) hst9.ext
theorem khead_le (pg lv rt fr:Int) (hi:ByteArray) (dead:Bool) (EA:Option Addr) (en ec:Nat) (w:World) (hlv:0≤lv∧lv≤256) (hrt: -1≤rt∧rt≤1000000) (hh:hi.size≤1000000):Calls Tryz.prog 62 #[.agg #[.int .i64 pg, .int .i64 lv, .int .i64 rt, .string hi, .bool dead, .slice EA en ec, .int .i64 fr]] w (Ret (.string (hdB lv rt dead hi)) w):=by
 rcases Int.lt_or_eq_of_le hlv.2 with h | h
 ·exact khead_any pg lv rt fr hi dead EA en ec w ⟨hlv.1,by omega⟩ hrt hh
 ·subst h; exact khead_w pg rt fr hi dead EA en ec w hrt hh
theorem kleast_any (w:World):
  Calls Tryz.prog 99 #[] w (Ret (.string leastB) w):=by
 go_enter Tryz.func99,Tryz.ntmps99
 have hst0:=St.start w
 refine wp_seq (sqr (sqp [.k 0 (.string ⟨#[]⟩)] ?_))
 refine then_normal (wp_seq (sqr (sqp [.k 1 (.agg #[vi 0,vi 0])] ?_)))
 refine sqk (.string (entF (⟨#[]⟩:ByteArray) 0 0)) hst0 (fun cx=>⟨_,kentry_any (⟨#[]⟩:ByteArray) 0 0 _ (by decide),(map2 (cx.co _) (cx.ou 1))⟩) fun W3 hst3=>?_
 refine sqp [.m 0 2] ?_
 refine then_normal (wp_ret ?_)
 refine bpr (.string (entF (⟨#[]⟩:ByteArray) 0 0)) (results_1 Tryz.results99 rpt) ?_
 exact Ret.of rfl hst3.ext
theorem downF_at {x:ByteArray} {es:List EnD} {j:Nat} {d:Int} (h:j < es.length):downF x (es.drop j) d=downF x (es.drop (j+1)) (if d < 0∨lessF x (es.getD j en0).1=false then (es.getD j en0).2.2 else d):=by
 rw [List.drop_eq_getElem_cons h,downF,List.getD_eq_getElem?_getD,List.getElem?_eq_getElem h]; rfl
theorem dn_yes {d:Int} {q:Bool} (h:(decide (d < 0)||!q)=true):d < 0∨q=false:=by simpa using h
theorem dn_no {d:Int} {q:Bool} (h:(decide (d < 0)||!q)=false):¬ (d < 0∨q=false):=by
 intro h2
 rw [Bool.or_eq_false_iff,decide_eq_false_iff_not] at h
 rcases h2 with h2 | h2
 ·exact h.1 h2
 ·rw [h2] at h; exact absurd h.2 (by decide)
theorem ed_snoc (O:List EdT) (e:EdT):O.flatMap edC++edC e=(O++[e]).flatMap edC:=by simp
theorem itsE_snoc {pg lv:Int} {i:Nat} {es:List EnD}:∀ {k:Nat},i < es.length→itsE pg lv k (es.take (i+1))=itsE pg lv k (es.take i)++[(pg,((k+i:Nat):Int),itB lv (es.getD i en0).2.2 (es.getD i en0).1)]:=by
 induction i generalizing es with
 | zero=>
   intro k h
   cases es with
   | nil=>simp at h
   | cons e es=>simp [itsE]
 | succ i ih=>
   intro k h
   cases es with
   | nil=>simp at h
   | cons e es=>
     rw [List.take_succ_cons,itsE,ih (k:=k+1) (by simpa using h),List.take_succ_cons,itsE,show k+1+i=k+(i+1) by omega]
     simp
theorem clearE_snoc {pg:Int} {i:Nat} {es:List EnD} (h:i < es.length):clearE pg (es.take (i+1))=clearE pg (es.take i)++[(pg,((es.getD i en0).2.1:Int),ByteArray.empty)]:=by
 rw [List.take_add_one,clearE,List.map_append,List.getD_eq_getElem?_getD,List.getElem?_eq_getElem h]; rfl
def hd2E (pg lv rt:Int) (hi:ByteArray):List EdT:=[(pg, -1,strOfNums [2]),(pg,0,hdB lv rt false hi)]
theorem fresh_all {pg lv rt:Int} {hi:ByteArray} {es:List EnD} {i:Nat} (h:es.length≤i):hd2E pg lv rt hi++itsE pg lv 1 (es.take i)=freshE pg lv rt hi es:=by rw [List.take_of_length_le h]; rfl
theorem Tryz.infoEdit:(Tryz.prog.info? 67).map (fun i=>(i.zero,i.size,i.bytes))=some (some (.agg #[.int .i64 0, .int .i64 0, .string ByteArray.empty]),3,32):=by kernel_rfl
theorem clearE_all {pg:Int} {es:List EnD} {i:Nat} (h:es.length≤i):clearE pg (es.take i)=clearE pg es:=by rw [List.take_of_length_le h]
end
section
open Go.RowKit
theorem getD_drop {es:List EnD} {k i:Nat}:(es.drop k).getD i en0=es.getD (k+i) en0:=by
 rw [List.getD_eq_getElem?_getD,List.getD_eq_getElem?_getD,List.getElem?_drop]
end
section
open Go.RowKit
theorem nodF_inv {k:Int} {its:List ByteArray} {n:NoD} (h:nodF k its=some n):∃ x l,its=x::l∧k=2∧hdOk x=true∧n=⟨numS x 0 1,(numS x 2 2:Int) - 1,x.extract 4 x.size,numS x 1 1==1,srt (numS x 0 1) (rawE 1 l),freeE 1 l (l.length+1)⟩:=by
 unfold nodF at h
 split at h
 ·cases h
 ·rename_i hk
  split at h
  ·cases h
  ·rename_i x l
   split at h
   ·cases h
   ·split at h
    ·cases h
    ·rename_i h1 h2
     exact ⟨x,l,rfl,by simpa using hk,by simpa using h1,(Option.some.inj h).symm⟩
theorem freeE_le:∀ (l:List ByteArray) (i d:Nat),i≤d→freeE i l d≤max d (i+l.length)
 | [],i,d,h=>by unfold freeE; omega
 | x::l,i,d,h=>by
   unfold freeE
   split
   ·rw [List.length_cons]; omega
   ·have e:freeE (i+1) l d≤max d (i+1+l.length):=by
     rcases Nat.lt_or_ge i d with h1 | h1
     ·exact freeE_le l (i+1) d h1
     ·have:i=d:=by omega
      have h2:∀ (l:List ByteArray) (i d:Nat),freeE i l d≤max d (i+l.length):=by
       intro l
       induction l with
       | nil=>intro i d; unfold freeE; omega
       | cons y l ih=>
         intro i d; unfold freeE
         split
         ·rw [List.length_cons]; omega
         ·have:=ih (i+1) d; rw [List.length_cons]; omega
      exact h2 l (i+1) d
    rw [List.length_cons]; omega
/-- what is known of a node of a book -/
structure NdOk (n:NoD):Prop where
 lv:0≤n.lv∧n.lv≤255
 rt: -1≤n.right∧n.right≤65535
 hi:n.high.size≤900000
 len:n.es.length≤100
 es:∀ e∈n.es,e.1.size≤900000
 fr:n.free≤101
theorem nd_ok {ps:List PgS} {x:Int} {n:NoD} (hok:OkS ps) (h:ndAt ps x=some n):NdOk n:=by
 rw [ndAt_pg] at h
 split at h
 ·have hv:=pgV_ok hok x
  obtain ⟨y,l,h1,h2,h3,rfl⟩:=nodF_inv h
  rw [h1] at hv
  have h4:4≤y.size:=by unfold hdOk at h3; simp only [Bool.and_eq_true,decide_eq_true_eq] at h3; exact h3.1.1
  have e0:=numS_one y 0 (by omega)
  have e2:=numS_two y 2 (by omega)
  have b0:=byteI_bd (bl y) 0
  have b2:=byteI_bd (bl y) 2
  have b3:=byteI_bd (bl y) (2+1)
  have hy:=hv.2 y (by simp)
  have hl:=hv.1
  rw [List.length_cons] at hl
  have hr:=rawE_len 1 l
  refine ⟨by dsimp only; omega,by dsimp only; omega,by dsimp only; rw [ByteArray.size_extract]; omega,by dsimp only; rw [srt_len]; omega,fun e he=>?_,?_⟩
  ·obtain ⟨k,hk,rfl⟩:=List.getElem_of_mem he
   have h5:=srt_size (lv:=(numS y 0 1:Int)) (l:=rawE 1 l) (M:=900000) (fun p hp=>hv.2 _ (List.mem_cons_of_mem _ (rawE_mem hp).1)) k
   rwa [List.getD_eq_getElem?_getD,List.getElem?_eq_getElem hk] at h5
  ·have:=freeE_le l 1 (l.length+1) (by omega)
   show freeE 1 l (l.length+1)≤101
   omega
 ·cases h
section
variable {ps:List PgS} {fresh root pos leaf fro to tl tk:Int} {spl:Bool} {te:ByteArray} {lf:List TaT} {nd:NoD}
theorem st_none (h:ndAt ps pos=none):stepF ps ⟨root,pos,leaf,(te,tl,tk)::lf,fro,to,spl⟩ fresh=(⟨root,pos,leaf,(te,tl,tk)::lf,0,0,false⟩,⟨[],false,22⟩):=by simp [stepF,h]
theorem st_lost (h:ndAt ps pos=some nd) (hs:sndB nd.dead nd.high te=true) (hr:nd.right < 0):stepF ps ⟨root,pos,leaf,(te,tl,tk)::lf,fro,to,spl⟩ fresh=(⟨root,pos,leaf,(te,tl,tk)::lf,0,0,false⟩,⟨[],false,11⟩):=by simp [stepF,h,hs,hr]
theorem st_right (h:ndAt ps pos=some nd) (hs:sndB nd.dead nd.high te=true) (hr:¬ nd.right < 0):stepF ps ⟨root,pos,leaf,(te,tl,tk)::lf,fro,to,spl⟩ fresh=(⟨root,nd.right,leaf,(te,tl,tk)::lf,0,0,false⟩,⟨[],false,0⟩):=by simp [stepF,h,hs,hr]
theorem st_down (h:ndAt ps pos=some nd) (hs:sndB nd.dead nd.high te=false) (hl:tl < nd.lv):stepF ps ⟨root,pos,leaf,(te,tl,tk)::lf,fro,to,spl⟩ fresh=(⟨root,downF te nd.es (-1),leaf,(te,tl,tk)::lf,0,0,false⟩,⟨[],false,0⟩):=by simp [stepF,h,hs,hl]
theorem st_form (h:ndAt ps pos=some nd) (hs:sndB nd.dead nd.high te=false) (hl:¬ tl < nd.lv) (hm:nd.lv < tl):stepF ps ⟨root,pos,leaf,(te,tl,tk)::lf,fro,to,spl⟩ fresh=(⟨root,pos,leaf,(te,tl,tk)::lf,0,0,false⟩,⟨[],false,11⟩):=by simp [stepF,h,hs,hl,hm]
theorem st_there (h:ndAt ps pos=some nd) (hs:sndB nd.dead nd.high te=false) (hl:¬ tl < nd.lv) (hm:¬ nd.lv < tl) (ht:hasE nd.es te=true):stepF ps ⟨root,pos,leaf,(te,tl,tk)::lf,fro,to,spl⟩ fresh=(⟨root,root,if tl=0 then pos else leaf,lf,0,0,false⟩,⟨[],false,0⟩):=by simp [stepF,h,hs,hl,hm,ht]
theorem st_put (h:ndAt ps pos=some nd) (hs:sndB nd.dead nd.high te=false) (hl:¬ tl < nd.lv) (hm:¬ nd.lv < tl) (ht:hasE nd.es te=false) (h8:nd.es.length < 8):stepF ps ⟨root,pos,leaf,(te,tl,tk)::lf,fro,to,spl⟩ fresh=(⟨root,root,if tl=0 then pos else leaf,lf,0,0,false⟩,⟨[(pos,(nd.free:Int),itB tl tk te)],false,0⟩):=by simp [stepF,h,hs,hl,hm,ht,h8]
theorem st_full (h:ndAt ps pos=some nd) (hs:sndB nd.dead nd.high te=false) (hl:¬ tl < nd.lv) (hm:¬ nd.lv < tl) (ht:hasE nd.es te=false) (h8:¬ nd.es.length < 8) (hf:fresh < 0):stepF ps ⟨root,pos,leaf,(te,tl,tk)::lf,fro,to,spl⟩ fresh=(⟨root,pos,leaf,(te,tl,tk)::lf,0,0,false⟩,⟨[],false,23⟩):=by simp [stepF,h,hs,hl,hm,ht,h8,hf]
theorem st_grow (h:ndAt ps pos=some nd) (hs:sndB nd.dead nd.high te=false) (hl:¬ tl < nd.lv) (hm:¬ nd.lv < tl) (ht:hasE nd.es te=false) (h8:¬ nd.es.length < 8) (hf:¬ fresh < 0) (hr:pos=root):stepF ps ⟨root,pos,leaf,(te,tl,tk)::lf,fro,to,spl⟩ fresh=(⟨root,fresh,leaf,(te,tl,tk)::lf,0,0,false⟩,⟨growE root nd fresh,true,0⟩):=by
 simp only [stepF,h,hs,hl,hm,ht,h8,hf,if_false,Bool.false_eq_true,or_self,if_pos hr]
theorem st_cut (h:ndAt ps pos=some nd) (hs:sndB nd.dead nd.high te=false) (hl:¬ tl < nd.lv) (hm:¬ nd.lv < tl) (ht:hasE nd.es te=false) (h8:¬ nd.es.length < 8) (hf:¬ fresh < 0) (hr:¬ pos=root):stepF ps ⟨root,pos,leaf,(te,tl,tk)::lf,fro,to,spl⟩ fresh=(⟨root,pos,leaf,((te,tl,tk)::lf)++[(midE nd,tl+1,fresh)],if tl=0 then pos else 0,if tl=0 then fresh else 0,if tl=0 then true else false⟩,⟨cutE pos nd fresh,true,0⟩):=by
 simp only [stepF,h,hs,hl,hm,ht,h8,hf,hr,if_false,Bool.false_eq_true,or_self]
 by_cases h0:tl=0<;>simp [h0]
end
/-- the suffix of a row -/
theorem At.dropF {T:Type} {w:World} {A:Option Addr} {f:T→List Value} {sz:Nat} {ts:List T} (hf:∀ t,(f t).length=sz) (h:At w A (ts.flatMap f)) (l cap:Nat) (hc:ts.length≤cap):At w (if cap=l then A else A.map (·.add (l*sz))) ((ts.drop l).flatMap f):=by
 have hl:=flatLen hf
 by_cases e:cap=l
 ·rw [List.drop_of_length_le (by omega)]; exact At.nil _ _
 ·rw [if_neg e]
  intro j u hj
  rcases Nat.lt_or_ge ts.length l with h1 | h1
  ·rw [List.drop_of_length_le (by omega)] at hj; simp at hj
  ·have e2:ts.flatMap f=(ts.take l).flatMap f++(ts.drop l).flatMap f:=by rw [← List.flatMap_append,List.take_append_drop]
   have e3:((ts.take l).flatMap f).length=l*sz:=by rw [hl,List.length_take,Nat.min_eq_left h1]
   have h2:(ts.flatMap f)[l*sz+j]? =some u:=by rw [e2,List.getElem?_append_right (by omega),e3,Nat.add_sub_cancel_left]; exact hj
   obtain ⟨ad,rfl,h3,h4⟩:=h _ _ h2
   exact ⟨_,rfl,by rw [add_block]; exact h3,by rw [add_add']; exact h4⟩
end
section
open Go.RowKit
def puC (p:PuT) (A:Option Addr) (c:Nat):Array Value:=#[.int .i64 p.root, .int .i64 p.pos, .int .i64 p.leaf, .slice A p.left.length c, .int .i64 p.fro, .int .i64 p.to, .bool p.spl]
theorem at_blocks {T:Type} {W W':World} {A:Option Addr} {f:T→List Value} {l:List T} (h:At W A (l.flatMap f)) (hk:∀ ad,A=some ad→l≠[]→W'.heap[ad.block]? =W.heap[ad.block]?):At W' A (l.flatMap f):=fun j u hj=>by
 have hl:l≠[]:=by rintro rfl; simp at hj
 obtain ⟨ad,rfl,h1,h2⟩:=h j u hj
 have h3:=hk ad rfl hl
 refine ⟨ad,rfl,?_,?_⟩
 ·rcases Nat.lt_or_ge ad.block W'.heap.size with h4 | h4
  ·exact h4
  ·rw [Array.getElem?_eq_none h4,Array.getElem?_eq_getElem h1] at h3; cases h3
 ·unfold World.cell? at h2 ⊢
  rw [add_block] at h2 ⊢
  rw [h3]; exact h2
/-- a book that stays while the blocks S change -/
def BkU (S:List Nat) (w:World) (bk:Nat) (ps:List PgS):Prop:=∃ LA lc Ps,Ps.map abT=ps∧∀ W,Upd S w W→BkO W bk LA lc ps.length Ps
theorem BkU.of {S:List Nat} {w:World} {bk:Nat} {ps:List PgS} {fb:List Nat} (h:(eBk bk ps fb).holds w) (hS:∀ k∈fb,k < w.heap.size∧k∉S):BkU S w bk ps:=by
 obtain ⟨LA,lc,Ps,Qs,h1,h2,h3,h4,h5⟩:=h
 refine ⟨LA,lc,Ps,h1,fun W hW=>?_⟩
 have h6:∀ e∈bkL bk LA lc ps.length Ps Qs,e.holds W:=fun e he=>(h5 e he).2 w W (fun k hk=>hW.block k (hS k (by rw [h3]; exact List.mem_flatMap.2 ⟨e,he,hk⟩)).1 (hS k (by rw [h3]; exact List.mem_flatMap.2 ⟨e,he,hk⟩)).2) (h5 e he).1
 refine ⟨h6 (eB bk 100 #[.slice LA ps.length lc]) (List.mem_cons_self ..),?_,by rw [← h1,List.length_map],fun p hp=>ePt_at (h6 (ePt Qs) (by simp [bkL])) (h2 p hp)⟩
 exact At.of_ownN (h6 (eO 102 3 (.slice LA ps.length lc) ps.length (Ps.flatMap ptC)) (by simp [bkL]))
theorem St.monoB {S T:List Nat} {w W:World} {L:List Ent} (h:St w S L W) (hs:∀ k∈S,k∈T):St w T L W:=
 ⟨h.upd.mono (fun k _ hk=>hs k hk),fun e he=>⟨(h.ok e he).holds,(h.ok e he).loc,fun k hk=>⟨((h.ok e he).own k hk).1.imp (hs k) id,((h.ok e he).own k hk).2⟩⟩,h.apart⟩
structure NdQ (n:NoD):Prop where
 lv:0≤n.lv∧n.lv≤255
 es6:∀ e∈n.es,e.1.size≤1000000
end
section
open Go.RowKit
def keyM (n:Int):Int:=(n.tmod 200+200) % 200
def keyF (n:Int):ByteArray:=if 0 < keyM n % 3 then strOfNums [97+keyM n % 26]++strOfNums [97+keyM n / 26] else strOfNums [97+keyM n % 26]
theorem keyF_size (n:Int):(keyF n).size≤2:=by
 unfold keyF
 split
 ·rw [ByteArray.size_append,strOfNums_size,strOfNums_size]; exact Nat.le_refl 2
 ·rw [strOfNums_size]; exact Nat.le_succ 1
def putT (root:Int) (key:ByteArray) (pg sl:Int):PuT:=⟨root,root, -1,[(entF key pg sl,0,0)],0,0,false⟩
-- sizes
/-- edits of slots that are not too high need no care; items of at most M bytes -/
def EdM (M:Nat) (l:List EdT):Prop:=∀ e∈l,e.2.2.size≤M
structure BdM (M:Nat) (ps:List PgS):Prop where
 its:∀ p∈ps,p.2.2.length≤101
 sz:∀ p∈ps,∀ s∈p.2.2,s.size≤M
theorem BdM.do1 {M:Nat} {ps:List PgS} {e:EdT} (h:BdM M ps) (he:e.2.2.size≤M):BdM M (do1B ps e):=by
 unfold do1B
 split
 ·rename_i hok
  have hok:=of_decide_eq_true hok
  have hg:=(getD_mem' (l:=ps) (n:=e.1.toNat) (d:=pgs0) (by omega)).2
  have key:(edP (ps.getD e.1.toNat pgs0) e).2.2.length≤101∧∀ s∈(edP (ps.getD e.1.toNat pgs0) e).2.2,s.size≤M:=by
   unfold edP
   split
   ·exact ⟨Nat.zero_le _,fun s hs=>nomatch hs⟩
   ·refine ⟨by rw [setI_len]; have:=h.its _ hg; omega,fun s hs=>?_⟩
    rcases List.mem_or_eq_of_mem_set hs with h1 | rfl
    ·rcases List.mem_append.1 h1 with h1 | h1
     ·exact h.sz _ hg s h1
     ·rw [(List.mem_replicate.1 h1).2]; exact Nat.zero_le _
    ·exact he
  refine ⟨fun p hp=>?_,fun p hp s hs=>?_⟩
  ·rcases List.mem_or_eq_of_mem_set hp with h1 | rfl
   ·exact h.its p h1
   ·exact key.1
  ·rcases List.mem_or_eq_of_mem_set hp with h1 | rfl
   ·exact h.sz p h1 s hs
   ·exact key.2 s hs
 ·exact h
theorem BdM.do {M:Nat}:∀ {l:List EdT} {ps:List PgS},BdM M ps→EdM M l→BdM M (doB ps l)
 | [],ps,h, _=>h
 | e::l,ps,h,he=>BdM.do (l:=l) (h.do1 (he e (by simp))) (fun x hx=>he x (by simp [hx]))
theorem hdB_size (lv rt:Int) (d:Bool) (hi:ByteArray):(hdB lv rt d hi).size=hi.size+4:=by
 rw [hdB,ByteArray.size_append,ByteArray.size_append,two_sz,twoB_size]; omega
theorem itB_size (lv k:Int) (e:ByteArray):(itB lv k e).size≤e.size+2:=by
 unfold itB; split
 ·rw [ByteArray.size_append,twoB_size]; exact Nat.le_refl _
 ·omega
theorem itsE_sz {pg lv:Int} {M:Nat}:∀ {l:List EnD} {i:Nat},(∀ e∈l,e.1.size≤M)→EdM (M+10) (itsE pg lv i l)
 | [], _, _=>fun e he=>nomatch he
 | x::l,i,h=>fun e he=>by
   rw [itsE] at he
   rcases List.mem_cons.1 he with rfl | he
   ·have:=itB_size lv x.2.2 x.1
    have:=h x (by simp)
    show (itB lv x.2.2 x.1).size≤M+10
    omega
   ·exact itsE_sz (fun y hy=>h y (by simp [hy])) e he
theorem EdM.app {M:Nat} {a b:List EdT} (ha:EdM M a) (hb:EdM M b):EdM M (a++b):=fun e he=>by
 rcases List.mem_append.1 he with h | h
 ·exact ha e h
 ·exact hb e h
theorem freshE_sz {pg lv rt:Int} {hi:ByteArray} {M:Nat} {l:List EnD} (hh:hi.size≤M) (h:∀ e∈l,e.1.size≤M):EdM (M+10) (freshE pg lv rt hi l):=by
 refine EdM.app (fun e he=>?_) (itsE_sz h)
 simp only [List.mem_cons,List.not_mem_nil,or_false] at he
 rcases he with rfl | rfl
 ·show (strOfNums [2]).size≤M+10
  rw [strOfNums_size]; simp
 ·show (hdB lv rt false hi).size≤M+10
  rw [hdB_size]; omega
theorem midE_sz {n:NoD} {M:Nat} (h:∀ e∈n.es,e.1.size≤M):(midE n).size≤M:=getD_size h _
theorem itsE_len (pg lv:Int):∀ (l:List EnD) (i:Nat),(itsE pg lv i l).length=l.length
 | [], _=>rfl
 | x::l,i=>by rw [itsE,List.length_cons,itsE_len pg lv l,List.length_cons]
theorem stepF_len {ps:List PgS} {p:PuT} {fresh:Int} (hok:OkS ps):(stepF ps p fresh).2.eds.length≤1000:=by
 unfold stepF
 cases hl:p.left with
 | nil=>exact Nat.zero_le _
 | cons t l=>
   cases hn:ndAt ps p.pos with
   | none=>exact Nat.zero_le _
   | some n=>
     have hz:=(nd_ok hok hn).len
     dsimp only
     split
     ·split<;>exact Nat.zero_le _
     ·split
      ·exact Nat.zero_le _
      ·split
       ·exact Nat.zero_le _
       ·split
        ·dsimp only; split
         ·exact Nat.zero_le _
         ·exact Nat.le_of_ble_eq_true rfl
        ·split
         ·exact Nat.zero_le _
         ·split
          ·simp only [growE,freshE,clearE,List.length_append,itsE_len,List.length_map,List.length_cons,List.length_nil]; omega
          ·simp only [cutE,freshE,clearE,halfE,List.length_append,itsE_len,List.length_map,List.length_cons,List.length_nil,List.length_drop]; omega
theorem blank_sz (n:Nat):BdM 16 (blankF n)∧(blankF n).length=n:=by
 refine ⟨BdM.do ⟨fun p hp=>?_,fun p hp s hs=>?_⟩ fun e he=>?_,?_⟩
 ·rw [(List.mem_replicate.1 hp).2]; decide
 ·rw [(List.mem_replicate.1 hp).2] at hs; exact nomatch hs
 ·simp only [begF,List.mem_cons,List.not_mem_nil,or_false] at he
  rcases he with rfl | rfl
  ·show (strOfNums [2]).size≤16; rw [strOfNums_size]; decide
  ·show (hdB 0 (-1) false ⟨#[]⟩).size≤16; rw [hdB_size]; decide
 ·rw [blankF,doB_len,List.length_replicate]
end
section
open Go.RowKit
section
variable {P:Program} {ops:Array Oper} {L:List Nat} {a0:Act} {w0:World} {bor:List Nat} {X0:List Ent} {us cr kl:List (List Nat)}
 {D:Nat→(Tmp→Value)→(Tmp→Value)→(Nat→Ent)→Prop} {i:Nat} {o:Oper} {ρ:Operand→Value} {β:Tmp→Value} {W:World} {X:Nat→Ent}
theorem CtxV.bkU {q q':Nat} {bk:Nat} {ps:List PgS} {fb:List Nat} {F:Ent} (cx:CtxV ops L a0 w0 bor X0 us D i ρ β W X) (hX:X q=eBk bk ps fb) (hX':X q'=F) (hu:(atV us i).contains q=true) (hu':(atV us i).contains q'=true) (hne:q≠q'):BkU F.fp W bk ps:=by
 subst hX'
 refine BkU.of (CtxV.holdF cx hX hu) fun k hk=>⟨CtxV.ltF cx hX hu k hk,fun hm=>?_⟩
 exact cx.ap q q' hu hu' hne k (by rw [hX]; exact hk) hm
end
theorem keyM_bd (n:Int):0≤keyM n∧keyM n < 200:=⟨Int.emod_nonneg _ (by decide),Int.emod_lt_of_pos _ (by decide)⟩
theorem rkey_any (n:Int) (w:World):
  Calls Tryz.prog 10 #[.int .i64 n] w (Ret (.string (keyF n)) w):=by
 have h1_:=Int.lt_tmod_of_pos n (b:=200) (by decide)
 have h2_:=Int.tmod_lt_of_pos n (b:=200) (by decide)
 go_enter Tryz.func10,Tryz.ntmps10
 have hst0:=St.start w
 refine wp_seq (sqr (sqp [.k 2 (.string ⟨#[]⟩)] ?_))
 refine then_normal (wp_seq (sqr (sqp [.m 4 0,sRe 5 .i64 n 200 (n.tmod 200) (rfl),sI 6 ((n.tmod 200)+200) (by omega),sRe 7 .i64 ((n.tmod 200)+200) 200 (((n.tmod 200)+200) % 200) (Int.tmod_eq_emod_of_nonneg (by omega)), .m 0 7] ?_)))
 refine then_normal (wp_seq ?_)
 obtain ⟨m,hN_m⟩:∃ z,((n.tmod 200)+200) % 200=z:=⟨_,rfl⟩
 rw [hN_m]
 have hm_:keyM n=m:=hN_m
 have hmb:=keyM_bd n
 rw [hm_] at hmb
 refine sqr (sqp [.m 8 0,sRe 9 .i64 m 26 (m % 26) (Int.tmod_eq_emod_of_nonneg (by omega)),sI 10 (97+(m % 26)) (by omega),sW 11 .u8 (97+(m % 26)) (97+(m % 26)) (IntWalk.u8_in _ (by omega))] ?_)
 refine sqn1 (fun x_=>sA x_) (fun A12_11=> .slice A12_11 1 1) (fun A12_11=>eO 5 1 (.slice A12_11 1 1) 1 ([.int .u8 (97+(m % 26))])) hst0 (by
   refine svA fun ρ β W X cx=>?_
   have fF11:ρ (.tmp 11)= .int .u8 (97+(m % 26)):=(cx.ou 11)
   exact dv_lit (e:=5) (xs:=[.int .u8 (97+(m % 26))]) rfl (by simp [go_sem,fF11]) rfl (by decide) rfl rfl (fun σ β' X' hs hb hv hx=>⟨hv,hx⟩)) fun A12_11 W11 hst11=>?_
 refine sql (.string (strOfNums ([(97+(m % 26))]))) hst11 (fun cx=>run_convB (e:=5) rfl (by kernel_rfl) (by kernel_rfl) (by kernel_rfl) (cx.ou 12) (cx.ri 0 rfl)) ?_
 refine sqp [.m 3 13] ?_
 refine then_normal (wp_seq (wp_seq (sqr (sqp [.m 14 0,sRe 15 .i64 m 3 (m % 3) (Int.tmod_eq_emod_of_nonneg (by omega)), .k 16 (.bool (decide (0 < m % 3)))] ?_))))
 refine then_normal (wds (fun hs17 hs17p=>?_) fun hs17 hs17p=>?_)
 ·refine sqr (sqp [.m 17 3, .m 18 0,sQu 19 .i64 m 26 (m / 26) (by rw [Int.tdiv_eq_ediv_of_nonneg (by omega)]; exact IntWalk.i64_in _ (by omega)),sI 20 (97+(m / 26)) (by omega),sW 21 .u8 (97+(m / 26)) (97+(m / 26)) (IntWalk.u8_in _ (by omega))] ?_)
  refine sqn1 (fun x_=>sA x_) (fun A22_23=> .slice A22_23 1 1) (fun A22_23=>eO 5 1 (.slice A22_23 1 1) 1 ([.int .u8 (97+(m / 26))])) hst11 (by
    refine svA fun ρ β W X cx=>?_
    have fF21:ρ (.tmp 21)= .int .u8 (97+(m / 26)):=(cx.ou 21)
    exact dv_lit (e:=5) (xs:=[.int .u8 (97+(m / 26))]) rfl (by simp [go_sem,fF21]) rfl (by decide) rfl rfl (fun σ β' X' hs hb hv hx=>⟨hv,hx⟩)) fun A22_23 W23 hst23=>?_
  refine sql (.string (strOfNums ([(97+(m / 26))]))) hst23 (fun cx=>run_convB (e:=5) rfl (by kernel_rfl) (by kernel_rfl) (by kernel_rfl) (cx.ou 22) (cx.ri 1 rfl)) ?_
  refine sqp [sS 24 (strOfNums ([(97+(m % 26))])) (strOfNums ([(97+(m / 26))])) (by rw [strOfNums_size,strOfNums_size]; exact Nat.le_of_ble_eq_true rfl), .m 3 24] ?_
  refine then_normal (wp_seq (sqr (sqp [.m 25 3, .m 2 25] ?_)))
  refine then_normal (wp_ret ?_)
  refine bpr (.string ((strOfNums ([(97+(m % 26))]))++(strOfNums ([(97+(m / 26))])))) (results_1 Tryz.results10 rpt) ?_
  exact Ret.of (by rw [keyF,hm_,if_pos (by omega)]) hst23.ext
 refine wp_skip (then_normal (wp_seq (sqr (sqp [.m 25 3, .m 2 25] ?_))))
 refine then_normal (wp_ret ?_)
 refine bpr (.string (strOfNums ([(97+(m % 26))]))) (results_1 Tryz.results10 rpt) ?_
 exact Ret.of (by rw [keyF,hm_,if_neg (by omega)]) hst11.ext
end
section
open Go.RowKit
def nz (s:ByteArray):Bool:=decide (s.size≠0)
def cnt (l:List ByteArray):Nat:=l.tail.countP nz
theorem rawE_cnt:∀ (l:List ByteArray) (i:Nat),(rawE i l).length=l.countP nz
 | [], _=>rfl
 | x::l,i=>by
   rw [rawE]
   by_cases h:x.size=0
   ·rw [if_pos h,rawE_cnt l,List.countP_cons_of_neg (by simp [nz,h])]
   ·rw [if_neg h,List.length_cons,rawE_cnt l,List.countP_cons_of_pos (by simp [nz,h])]
theorem rawE_at:∀ {l:List ByteArray} {k s:Nat} {y:ByteArray},(s,y)∈rawE k l→k≤s∧l[s - k]? =some y∧y.size≠0
 | [], _, _, _,h=>nomatch h
 | x::l,k,s,y,h=>by
   rw [rawE] at h
   have hr:(s,y)∈rawE (k+1) l→k≤s∧(x::l)[s - k]? =some y∧y.size≠0:=fun h=>by
    obtain ⟨h1,h2,h3⟩:=rawE_at h
    refine ⟨by omega,?_,h3⟩
    rw [show s - k=(s - (k+1))+1 by omega,List.getElem?_cons_succ]; exact h2
   by_cases hx:x.size=0
   ·rw [if_pos hx] at h; exact hr h
   ·rw [if_neg hx] at h
    rcases List.mem_cons.1 h with h | h
    ·cases h
     exact ⟨Nat.le_refl _,by rw [Nat.sub_self]; rfl,hx⟩
    ·exact hr h
theorem setI_le (l:List ByteArray) (k:Nat):k < (l++List.replicate (k+1 - l.length) ByteArray.empty).length:=by rw [List.length_append,List.length_replicate]; omega
/-- entries in page i -/
def cntAt (ps:List PgS) (i:Nat):Nat:=cnt (ps.getD i pgs0).2.2
theorem do1_other {ps:List PgS} {e:EdT} {i:Nat} (h:e.1≠(i:Int)):(do1B ps e).getD i pgs0=ps.getD i pgs0:=by
 unfold do1B
 split
 ·rename_i hok
  have hok:=of_decide_eq_true hok
  rw [List.getD_eq_getElem?_getD,List.getElem?_set_ne (by omega),← List.getD_eq_getElem?_getD]
 ·rfl
theorem doB_other {i:Nat}:∀ {L:List EdT} {ps:List PgS},(∀ e∈L,e.1≠(i:Int))→(doB ps L).getD i pgs0=ps.getD i pgs0
 | [], _, _=>rfl
 | e::L,ps,h=>by
   show (doB (do1B ps e) L).getD i pgs0= _
   rw [doB_other (L:=L) fun x hx=>h x (by simp [hx]),do1_other (h e (by simp))]
theorem do1_at {ps:List PgS} {e:EdT} {i:Nat} (hok:edOk ps.length e=true) (h:e.1=(i:Int)):(do1B ps e).getD i pgs0=edP (ps.getD i pgs0) e:=by
 have hb:=of_decide_eq_true hok
 rw [do1B,if_pos hok,h,Int.toNat_natCast,List.getD_eq_getElem?_getD,List.getElem?_set_self (by omega)]; rfl
theorem itsE_pg {pg lv:Int}:∀ {es:List EnD} {k:Nat},∀ e∈itsE pg lv k es,e.1=pg
 | [], _,e,h=>nomatch h
 | x::l,k,e,h=>by
   rw [itsE] at h
   rcases List.mem_cons.1 h with rfl | h
   ·rfl
   ·exact itsE_pg e h
theorem freshE_pg {pg lv rt:Int} {hi:ByteArray} {es:List EnD}:∀ e∈freshE pg lv rt hi es,e.1=pg:=fun e he=>by
 rcases List.mem_append.1 he with h | h
 ·simp only [List.mem_cons,List.not_mem_nil,or_false] at h
  rcases h with rfl | rfl<;>rfl
 ·exact itsE_pg e h
theorem doB_app (ps:List PgS) (a b:List EdT):doB ps (a++b)=doB (doB ps a) b:=List.foldl_append
/-- a node and its page -/
theorem nd_cnt {ps:List PgS} {x:Int} {n:NoD} (h:ndAt ps x=some n):0≤x∧x < ps.length∧n.es.length=cntAt ps x.toNat∧(∀ e∈n.es,1≤e.2.1∧∃ y,(ps.getD x.toNat pgs0).2.2[e.2.1]? =some y∧y.size≠0):=by
 unfold ndAt at h
 split at h
 ·rename_i hx
  obtain ⟨y,l,h1,h2,h3,rfl⟩:=nodF_inv h
  refine ⟨hx.1,hx.2,?_,fun e he=>?_⟩
  ·show (srt _ (rawE 1 l)).length= _
   rw [srt_len,rawE_cnt,cntAt,h1]; rfl
  ·have hm:∃ p∈rawE 1 l,e=parE (numS y 0 1) p:=by
    obtain ⟨p,hp,rfl⟩:=List.mem_map.1 (List.mem_reverse.1 (sortR_mem (List.mem_reverse.1 he)))
    exact ⟨p,hp,rfl⟩
   obtain ⟨⟨s,z⟩,hp,rfl⟩:=hm
   obtain ⟨h4,h5,h6⟩:=rawE_at hp
   have h7:(parE (numS y 0 1) (s,z)).2.1=s:=by unfold parE; split<;>rfl
   rw [h7,h1]
   refine ⟨h4,z,?_,h6⟩
   rw [show s=(s - 1)+1 by omega,List.getElem?_cons_succ]; exact h5
 ·cases h
end
section
open Go.RowKit
/-- the first node of a level, k nodes looked at -/
def dscF (ps:List PgS) (lv:Int):Nat→Int→Option (Int×NoD)
 | 0, _=>none
 | k+1,x=>match ndAt ps x with
   | none=>none
   | some n=>if n.lv=lv then some (x,n) else if n.lv < lv∨n.es.length=0 then none else dscF ps lv k (n.es.getD 0 en0).2.2
/-- a level from a node on -/
def chnF (ps:List PgS) (lv:Int):Nat→Int→List (Int×NoD)
 | 0, _=>[]
 | k+1,x=>match ndAt ps x with
   | none=>[]
   | some n=>if n.lv=lv then (x,n)::chnF ps lv k n.right else []
def rowF (ps:List PgS) (root lv:Int):List (Int×NoD):=match dscF ps lv 1000 root with
 | none=>[]
 | some (x, _)=>chnF ps lv 1000 x
/-- all entries in order -/
def allF (ps:List PgS) (root:Int):List EnD:=(rowF ps root 0).flatMap fun x=>x.2.es
theorem dsc_none {ps:List PgS} {lv x:Int} {k:Nat} (h:ndAt ps x=none):dscF ps lv k x=none:=by
 cases k with
 | zero=>rfl
 | succ k=>rw [dscF,h]
theorem dsc_hit {ps:List PgS} {lv x:Int} {k:Nat} {n:NoD} (h:ndAt ps x=some n) (hl:n.lv=lv):dscF ps lv (k+1) x=some (x,n):=by rw [dscF,h]; exact if_pos hl
theorem dsc_miss {ps:List PgS} {lv x:Int} {k:Nat} {n:NoD} (h:ndAt ps x=some n) (hl:n.lv≠lv) (h2:n.lv < lv∨n.es.length=0):dscF ps lv k x=none:=by
 cases k with
 | zero=>rfl
 | succ k=>rw [dscF,h]; dsimp only; rw [if_neg hl,if_pos h2]
theorem dsc_down {ps:List PgS} {lv x:Int} {k:Nat} {n:NoD} (h:ndAt ps x=some n) (hl:lv < n.lv) (h2:n.es.length≠0):dscF ps lv (k+1) x=dscF ps lv k (n.es.getD 0 en0).2.2:=by rw [dscF,h]; dsimp only; rw [if_neg (by omega),if_neg (by omega)]
theorem chn_none {ps:List PgS} {lv x:Int} {k:Nat} (h:ndAt ps x=none):chnF ps lv k x=[]:=by
 cases k with
 | zero=>rfl
 | succ k=>rw [chnF,h]
theorem chn_hit {ps:List PgS} {lv x:Int} {k:Nat} {n:NoD} (h:ndAt ps x=some n) (hl:n.lv=lv):chnF ps lv (k+1) x=(x,n)::chnF ps lv k n.right:=by rw [chnF,h]; exact if_pos hl
theorem chn_miss {ps:List PgS} {lv x:Int} {k:Nat} {n:NoD} (h:ndAt ps x=some n) (hl:n.lv≠lv):chnF ps lv k x=[]:=by
 cases k with
 | zero=>rfl
 | succ k=>rw [chnF,h]; exact if_neg hl
theorem chn_at {ps:List PgS} {lv:Int}:∀ {k:Nat} {x:Int},∀ y∈chnF ps lv k x,ndAt ps y.1=some y.2∧y.2.lv=lv
 | k+1,x,y,h=>by
   rw [chnF] at h
   split at h
   ·cases h
   ·rename_i m hm
    split at h
    ·rename_i hl
     rcases List.mem_cons.1 h with rfl | h
     ·exact ⟨hm,hl⟩
     ·exact chn_at y h
    ·cases h
theorem chn_len (ps:List PgS) (lv:Int):∀ (k:Nat) (x:Int),(chnF ps lv k x).length≤k
 | 0, _=>Nat.le_refl _
 | k+1,x=>by
   rw [chnF]
   split
   ·exact Nat.zero_le _
   ·split
    ·rw [List.length_cons]; have:=chn_len ps lv k (by assumption:NoD).right; omega
    ·exact Nat.zero_le _
theorem row_len (ps:List PgS) (root lv:Int):(rowF ps root lv).length≤1000:=by
 unfold rowF
 split
 ·exact Nat.zero_le _
 ·exact chn_len _ _ _ _
end
section
open Go.RowKit
def idxP {α:Type} (p:α→Bool) (k:Int):List α→Int
 | []=> -1
 | x::l=>if p x then k else idxP p (k+1) l
theorem idxP_at {α:Type} {p:α→Bool} {l:List α} {x:α} {k:Nat} (h:l[k]? =some x):idxP p (k:Int) (l.drop k)=if p x then (k:Int) else idxP p ((k+1:Nat):Int) (l.drop (k+1)):=by
 obtain ⟨hk,rfl⟩:=List.getElem?_eq_some_iff.1 h
 rw [List.drop_eq_getElem_cons hk,idxP]; rfl
theorem idxP_any {α:Type} (p:α→Bool) (l:List α):∀ k:Int,0≤k→decide (0≤idxP p k l)=l.any p:=by
 induction l with
 | nil=>intro k _; rfl
 | cons x l ih=>
   intro k hk
   rw [idxP,List.any_cons]
   cases p x with
   | true=>rw [if_pos rfl,Bool.true_or]; exact decide_eq_true hk
   | false=>rw [if_neg (by decide),Bool.false_or]; exact ih (k+1) (by omega)
theorem getE3 {l:List EnD} {k:Nat} (h:k < l.length):∃ x y z,l[k]? =some (x,y,z):=⟨l[k].1,l[k].2.1,l[k].2.2,List.getElem?_eq_getElem h⟩
theorem kfresh_any (pg:Int) (np lv rt fr:Int) (hg:ByteArray) (EA:Option Addr) (ec n:Nat) (es:List EnD) (w:World) (hE:At w EA (es.flatMap enC)) (hn:es.length=n) (hez:∀ e∈es,e.1.size≤1000000) (hnb:n≤1000) (hlv:0≤lv∧lv≤256) (hrt: -1≤rt∧rt≤1000000) (hhi:hg.size≤1000000):
  Calls Tryz.prog 49 #[.int .i64 pg, .agg #[.int .i64 np, .int .i64 lv, .int .i64 rt, .string hg, .bool false, .slice EA n ec, .int .i64 fr]] w (EdPost (freshE pg lv rt hg es) w):=by
 go_enter Tryz.func49,Tryz.ntmps49
 have hst0:=St.start w
 refine wp_seq (sqr ?_)
 refine sqbx #[vi np,vi lv,vi rt, .string hg, .bool false, .slice EA n ec,vi fr] hst0 fun B3_1 W1 hst1=>?_
 refine sqp [.k 4 (.slice none 0 0)] ?_
 refine then_normal (wp_seq (wp_region_Y [0,0,2,7,0,0,32,112,255,511] [[],[],[1],[],[],[0]] [[],[1],[],[],[],[],[],[],[2]] [] [.k 8 (vi pg), .a 9, .c 10 (.string (strOfNums ([2]))), .k 11 (.agg #[vi pg,vi (-1), .string (strOfNums ([2]))]), .k 12 (vi pg), .c 13 (.agg #[vi np,vi lv,vi rt, .string hg, .bool false, .slice EA n ec,vi fr]), .c 14 (.string (hdB lv rt false hg)), .k 15 (.agg #[vi pg,vi 0, .string (hdB lv rt false hg)]), .a 16, .a 5] (fun ix σ β X=>match ix with | 0=>True | 1=>σ 9= .slice (sA (β 9)) 1 1∧X 1=eO 5 1 (.slice (sA (β 9)) 1 1) 1 ([.int .u8 2]) | 2=>True | 3=>True | 4=>True | 5=>True | 6=>True | 7=>True | 8=>σ 16= .slice ((some ⟨(pb' (β 16)),0,none⟩)) 2 2∧X 2=eO 67 3 (.slice ((some ⟨(pb' (β 16)),0,none⟩)) 2 2) 2 ([vi pg,vi (-1), .string (strOfNums ([2])),vi pg,vi 0, .string (hdB lv rt false hg)]) | 9=>σ 5= .slice ((some ⟨(pb' (β 16)),0,none⟩)) 2 2 | _=>True) [0,1,2] [1,2,5,6,8,9] [(5,9,1,6),(2,0,9,11)] hst1 ?_ ?_ ?_))
 ·exact fun ix _ _ _ _ _ _ hs hb hx h=>match ix,h with
  | 1,h=>by dsimp only; rw [← hs 9 rfl,← hb 9 rfl,← hx 1 rfl]; exact h
  | 8,h=>by dsimp only; rw [← hs 16 rfl,← hb 16 rfl,← hx 2 rfl]; exact h
  | 9,h=>by dsimp only; rw [← hs 5 rfl,← hb 16 rfl]; exact h
  | 0, _ | 2, _ | 3, _ | 4, _ | 5, _ | 6, _ | 7, _ | _+10, _=>trivial
 ·refine ⟨?_,?_,?_,?_,?_,?_,trivial⟩
  ·refine svA fun ρ β W X cx=>?_
   exact dv_lit (e:=5) (xs:=[.int .u8 2]) rfl (by simp [go_sem,cx.sees.const]) rfl (by decide) rfl rfl (fun σ β' X' hs hb hv hx=>⟨hv,hx⟩)
  ·exact xs4 rfl id fun cx=>run_convB (e:=5) rfl (by kernel_rfl) (by kernel_rfl) (by kernel_rfl) (dTn (cx.an 1)).1 (cx.row (dTn (cx.an 1)).2 rfl)
  ·exact xs4 rfl id fun cx=>run_loadB (n:=7) rfl (by kernel_rfl) (by kernel_rfl) (cx.ou 3) (cx.bi 0 rfl) (nle rfl) rfl
  ·exact xsc rfl id rfl rfl fun cx=>⟨_,khead_le np lv rt fr hg false _ _ _ _ (by omega) (by omega) (by first | omega | decide),(map1 (cx.an 5))⟩
  ·refine svA fun ρ β W X cx=>?_
   have fF11:ρ (.tmp 11)= .agg #[vi pg,vi (-1), .string (strOfNums ([2]))]:=(cx.an 3)
   have fF15:ρ (.tmp 15)= .agg #[vi pg,vi 0, .string (hdB lv rt false hg)]:=(cx.an 7)
   exact dv_litN (e:=67) (sz:=3) (xs:=[vi pg,vi (-1), .string (strOfNums ([2])),vi pg,vi 0, .string (hdB lv rt false hg)]) rfl (by simp [go_sem,fF11,fF15]) rfl (by decide) rfl rfl (fun σ β' X' hs hb hv hx=>⟨hv,hx⟩)
  ·exact sv rfl rfl rfl rfl rfl _ (fun _ _ _ h=>h) (fun β β' h=>by rw [h 16 (by decide)]) fun ρ β W X cx=>run_assign' rfl (dTn (cx.an 8)).1
 intro σ β X W3 hD hst3 fr hfr
 obtain ⟨A9_3,hu_A9_3⟩:∃ z,sA (β 9)=z:=⟨_,rfl⟩
 obtain ⟨B16_3,hu_B16_3⟩:∃ z,pb' (β 16)=z:=⟨_,rfl⟩
 simp only [exq 1 ((dTn (hD 1 lq)).2),exq 2 ((dTn (hD 8 lq)).2),hu_A9_3,hu_B16_3] at hst3
 simp only [ed 9 ((dTn (hD 1 lq)).1),ed 16 ((dTn (hD 8 lq)).1),ed 5 ((dTn (hD 9 lq))),hu_A9_3,hu_B16_3] at hfr
 clear hD hu_A9_3 hu_B16_3; subst hfr; clear σ β X
 refine then_normal (wp_seq (wp_seq (sqr (sqp [.k 17 (.pointer (some ⟨B3_1,5,none⟩))] ?_))))
 refine sqld 0 hst3 ?_
 refine sqp [.k 19 (vi ((n:Int))), .k 20 (vi 0)] ?_
 refine then_normal (wp_block ?_)
 rw [show [vi pg,vi (-1), .string (strOfNums ([2])),vi pg,vi 0, .string (hdB lv rt false hg)]=(hd2E pg lv rt hg).flatMap edC from rfl] at hst3
 refine wp_loopT (fun t_ mz az W=>∃ i:Nat,∃ nn:Nat,∃ O:List EdT,∃ OA:Option Addr,∃ OC:Nat,i≤n∧O=hd2E pg lv rt hg++itsE pg lv 1 (es.take i)∧O.length=nn∧nn≤10+i∧mz=n - i∧az=⟨(ovr (jv az) [(5,5,0,[.slice OA nn OC]),(0,6,2,[]),(12,20,0,[vi ((i:Int))]),(0,21,15,[])] t_).toArray,[]⟩∧St w [] [eB B3_1 84 #[vi np,vi lv,vi rt, .string hg, .bool false, .slice EA n ec,vi fr],eO 5 1 (.slice A9_3 1 1) 1 ([.int .u8 2]),eO 67 3 (.slice OA nn OC) nn (O.flatMap edC)] W) (n - 0) ?_ ?_
 · -- the loop begins
   exact ⟨0,2,(hd2E pg lv rt hg),(some ⟨B16_3,0,none⟩),2,Nat.zero_le _,rfl,rfl,by omega,rfl,(by kernel_rfl),hst3.pk [0,1,2]⟩
 rintro n8 a8 W8 ⟨i,nn,O,OA,OC,hi,hO,hOl,hnn,rfl,hj_,hst8⟩
 refine ovz hj_ fun u8_=>?_
 refine wp_seq (sqr (sqp [.k 21 (.bool (decide ((i:Int) < (n:Int))))] ?_))
 refine then_normal (wp_seq (wds (fun hs10 hs10p=>?_) fun hs10 hs10p=>?_))
 ·refine wp_skip (then_normal (wp_seq (wp_block (wp_seq (sqr (sqp [.m 22 20] ?_))))))
  refine sql (.pointer (some ((ad EA).add (i*3)))) hst8 (fun cx=>run_indexSlM (e:=89) (m:=i) (sz:=3) rfl (by kernel_rfl) (by kernel_rfl) (cx.ou 18) (cx.ou 20) (by omega) (by omega) (hE.ext cx.upd.to_ext) (flatPos (sz:=3) enC_len (by decide) (by omega))) ?_
  refine sql (.agg #[.string ((es.getD i en0).1),vi (((es.getD i en0).2.1:Int)),vi ((es.getD i en0).2.2)]) hst8 (fun cx=>run_loadElt (f:=enC) (m:=i) (sz:=3) (off:=0) (n:=3) rfl (by kernel_rfl) (by kernel_rfl) (cx.ou 23) rfl enC_len (hE.ext cx.upd.to_ext) (en_get (by omega)) (fun k hk=>match k,hk with | 0, _=>rfl | 1, _=>rfl | 2, _=>rfl | k+3,hk=>absurd hk (by omega))) ?_
  refine sqal #[.string ByteArray.empty,vi 0,vi 0] hst8 fun B7_14 W14 hst14=>?_
  refine sqp [.m 6 22] ?_
  refine sqst (n:=3) 3 #[.string ((es.getD i en0).1),vi (((es.getD i en0).2.1:Int)),vi ((es.getD i en0).2.2)] hst14 fun W16 hst16=>?_
  refine then_normal (sqr (sqp [.m 25 5, .m 26 0, .m 27 6,sI 28 ((i:Int)+1) (by omega)] ?_))
  refine sqlb 0 7 hst16 ?_
  refine sqlb 3 3 hst16 ?_
  refine sqk (.string (itB lv ((es.getD i en0).2.2) ((es.getD i en0).1))) hst16 (fun cx=>⟨_,kitem_any np lv rt fr hg false _ _ _ ((es.getD i en0).1) ((es.getD i en0).2.1:Int) ((es.getD i en0).2.2) _ (getD_size hez _),(map2 (cx.ou 29) (cx.ou 30))⟩) fun W23 hst23=>?_
  refine sqp [.k 32 (.agg #[vi pg,vi ((i:Int)+1), .string (itB lv ((es.getD i en0).2.2) ((es.getD i en0).1))])] ?_
  refine sqli 67 3 1 (edC (pg,(i:Int)+1,itB lv ((es.getD i en0).2.2) ((es.getD i en0).1))) hst23 (@fun ρ β W X cx=>by have fF32:ρ (.tmp 32)= .agg #[vi pg,vi ((i:Int)+1), .string (itB lv ((es.getD i en0).2.2) ((es.getD i en0).1))]:=(cx.ou 32); simp [go_sem,fF32,edC]) fun B33_25 W25 hst25=>?_
  refine sqap (nn+1) ((O++[(pg,(i:Int)+1,itB lv ((es.getD i en0).2.2) ((es.getD i en0).1))]).flatMap edC) 2 hst25 Tryz.infoEdit (fun cx=>(At.of_ownN (cx.ri 4 rfl))) (h1:=by simp [edC,Value.oneCell']) (hxs:=ed_snoc _ _) fun A34_26 c34_26 W26 hst26=>?_
  refine sqp [.m 5 34] ?_
  refine blk_normal (then_normal (sqr (sqp [sI 35 ((i:Int)+1) (by omega), .m 20 35] ?_)))
  refine then_normal ?_
  refine ⟨n - ((i+1)),by omega,?_⟩
  exact ⟨(i+1),(nn+1),(O++[(pg,(i:Int)+1,itB lv ((es.getD i en0).2.2) ((es.getD i en0).1))]),A34_26,c34_26,by omega,by rw [hO,itsE_snoc (by omega),← List.append_assoc]; (first | rfl | (congr 4; omega) | simp),by rw [List.length_append,hOl]; rfl,by omega,rfl,(by kernel_rfl),hst26.pk [0,1,2]⟩
 refine wp_exit (then_exit (then_exit (blk_eq (then_normal (wp_seq (sqr (sqp [.m 36 5, .m 4 36] ?_)))))))
 refine then_normal (wp_ret ?_)
 refine bpr (.slice OA nn OC) (results_1 Tryz.results49 rpt) ?_
 rw [fresh_all (by omega)] at hO
 rw [hO] at hst8 hOl
 rw [← hOl] at hst8 ⊢
 have ho_:=hst8.own' 2 rfl
 exact ⟨_, _,rfl,ho_,hst8.ext⟩
theorem kfresh_0 (pg:Int) (w:World):Calls Tryz.prog 49 #[.int .i64 pg, .agg #[.int .i64 0, .int .i64 0, .int .i64 (-1), .string ⟨#[]⟩, .bool false, .slice none 0 0, .int .i64 0]] w (EdPost (begF pg) w):=kfresh_any pg 0 0 (-1) 0 ⟨#[]⟩ none 0 0 [] w (At.nil _ _) rfl (fun e he=>nomatch he) (by decide) (by decide) (by decide) (by decide)
theorem kbegin_any (n:Int) (w:World):
  Calls Tryz.prog 18 #[.int .i64 n] w (EdPost (begF n) w):=by
 go_enter Tryz.func18,Tryz.ntmps18
 have hst0:=St.start w
 refine wp_seq (sqr (sqp [.k 2 (.slice none 0 0)] ?_))
 refine then_normal (wp_seq (sqr (sqp [.m 3 0, .k 4 (.agg #[vi 0,vi 0,vi (-1), .string ByteArray.empty, .bool false, .slice none 0 0,vi 0])] ?_)))
 refine sqk2 (fun A5_4 c5_4=> .slice A5_4 2 c5_4) (fun A5_4 c5_4=>eO 67 3 (.slice A5_4 2 c5_4) 2 ((begF n).flatMap edC)) hst0 (fun cx=>⟨_,(kfresh_0 n _).mono (by rintro e W1 ⟨A4,c4,rfl,ho_,hx⟩; exact ⟨_, _,rfl,St.one hx (eO_new (n:=2) (xs:=(begF n).flatMap edC) ho_)⟩),(map2 (cx.ou 3) (cx.ou 4))⟩) fun A5_4 c5_4 W4 hst4=>?_
 refine sqp [.m 2 5] ?_
 refine then_normal (wp_ret ?_)
 refine bpr (.slice A5_4 2 c5_4) (results_1 Tryz.results18 rpt) ?_
 have ho_:=hst4.own' 0 rfl
 exact ⟨_, _,rfl,ho_,hst4.ext⟩
theorem kidx_any (FA:Option Addr) (fc:Nat) (ks:List EnD) (f0:FuncId) (cap:Array Value) (p:EnD→Bool) (w:World) (hF:At w FA (ks.flatMap enC)) (hl:ks.length≤100000) (hcf:callP Tryz.prog f0=true) (hf:∀ (W:World) (k:EnD),Ext w W→Calls Tryz.prog f0 (#[.agg #[.string k.1, .int .i64 (k.2.1:Int), .int .i64 k.2.2]]++cap) W (Ret (.bool (p k)) W)):
  Calls Tryz.prog 76 #[.slice FA ks.length fc, .func (.func f0) #[] cap] w (Ret (.int .i64 (idxP p 0 ks)) w):=by
 go_enter Tryz.func76,Tryz.ntmps76
 have hst0:=St.start w
 refine wp_seq (sqr (sqp [.k 4 (vi 0)] ?_))
 refine then_normal (wp_seq (wp_seq (sqr (sqp [.m 6 0, .k 7 (vi ((ks.length:Int))), .k 8 (vi 0)] ?_))))
 refine then_normal (wp_block ?_)
 refine wp_loopT (fun t_ mz az W=>∃ k:Nat,k≤ks.length∧idxP p 0 ks=idxP p (k:Int) (ks.drop k)∧mz=ks.length - k∧az=⟨(ovr (jv az) [(4,4,2,[]),(2,8,0,[vi ((k:Int))]),(0,9,10,[])] t_).toArray,[]⟩∧St w [] [] W) (ks.length - 0) ?_ ?_
 · -- the loop begins
   exact ⟨0,Nat.zero_le _,rfl,rfl,(by kernel_rfl),hst0.pk []⟩
 rintro n5 a5 W5 ⟨k,hk,hkr,rfl,hj_,hst5⟩
 refine ovz hj_ fun u5_=>?_
 refine wp_seq (sqr (sqp [.k 9 (.bool (decide ((k:Int) < (ks.length:Int))))] ?_))
 refine then_normal (wp_seq (wds (fun hs7 hs7p=>?_) fun hs7 hs7p=>?_))
 ·refine wp_skip (then_normal (wp_seq (wp_block (wp_seq (sqr (sqp [.m 10 8, .m 5 10] ?_))))))
  refine then_normal (wp_seq ?_)
  obtain ⟨kx,ky,kz,hkj⟩:=getE3 (l:=ks) (k:=k) (by omega)
  refine sqr (sqp [.m 11 1, .m 12 0, .m 13 5] ?_)
  refine sql (.pointer (some ((ad FA).add (k*3)))) hst5 (fun cx=>run_indexSlM (e:=89) (m:=k) (sz:=3) rfl (by kernel_rfl) (by kernel_rfl) (cx.ou 12) (cx.ou 13) (by omega) (by omega) (hF.ext cx.upd.to_ext) (flatPos (sz:=3) enC_len (by decide) (by omega))) ?_
  refine sql (.agg #[.string kx,vi ((ky:Int)),vi kz]) hst5 (fun cx=>run_loadElt (f:=enC) (m:=k) (sz:=3) (off:=0) (n:=3) rfl (by kernel_rfl) (by kernel_rfl) (cx.ou 14) rfl enC_len (hF.ext cx.upd.to_ext) hkj (fun k hk=>match k,hk with | 0, _=>rfl | 1, _=>rfl | 2, _=>rfl | k+3,hk=>absurd hk (by omega))) ?_
  refine sqv (.bool ((p (kx,ky,kz)))) hst5 (sv_call rfl rfl rfl rfl rfl (fun _ _ _ h=>h) fun ρ β W X cx=>⟨_, _,run_callV (f:=f0) (args:=#[.agg #[.string kx,vi ((ky:Int)),vi kz]]) (args':=#[.agg #[.string kx,vi ((ky:Int)),vi kz]]++cap) rfl rfl (cx.ou 11) hcf (map1 (cx.ou 15)) (by rw [Array.empty_append]),(by have h9:=hf W (kx,ky,kz) cx.upd.to_ext; dsimp only at h9; exact h9)⟩) fun W15 hst15=>?_
  refine then_normal (wbs (fun hs16=>?_) fun hs16=>?_)
  ·refine wp_seq (sqr (sqp [.m 17 5, .m 4 17] ?_))
   refine then_normal (wp_ret (blk_ret (then_ret (then_ret (blk_ret (then_ret ?_))))))
   refine bpr (vi ((k:Int))) (results_1 Tryz.results76 rpt) ?_
   exact Ret.of (by rw [hkr,idxP_at hkj,hs16]; rfl) hst15.ext
  refine wp_skip (blk_normal (then_normal (sqr (sqp [sI 18 ((k:Int)+1) (by omega), .m 8 18] ?_))))
  refine then_normal ?_
  refine ⟨ks.length - ((k+1)),by omega,?_⟩
  exact ⟨(k+1),by omega,by rw [hkr,idxP_at hkj,hs16]; rfl,rfl,(by kernel_rfl),hst15.pk []⟩
 refine wp_exit (then_exit (then_exit (blk_eq (then_normal (wp_seq (sqr (sqp [.k 4 (vi (-1))] ?_)))))))
 refine then_normal (wp_ret ?_)
 refine bpr (vi (-1)) (results_1 Tryz.results76 rpt) ?_
 exact Ret.of (by rw [hkr,List.drop_of_length_le (by omega)]; rfl) hst5.ext
theorem kcon_any (FA:Option Addr) (fc:Nat) (ks:List EnD) (f0:FuncId) (cap:Array Value) (p:EnD→Bool) (w:World) (hF:At w FA (ks.flatMap enC)) (hl:ks.length≤100000) (hcf:callP Tryz.prog f0=true) (hf:∀ (W:World) (k:EnD),Ext w W→Calls Tryz.prog f0 (#[.agg #[.string k.1, .int .i64 (k.2.1:Int), .int .i64 k.2.2]]++cap) W (Ret (.bool (p k)) W)):
  Calls Tryz.prog 54 #[.slice FA ks.length fc, .func (.func f0) #[] cap] w (Ret (.bool (ks.any p)) w):=by
 go_enter Tryz.func54,Tryz.ntmps54
 have hst0:=St.start w
 refine wp_seq (sqr (sqp [.k 4 (.bool false)] ?_))
 refine then_normal (wp_seq (sqr (sqp [.m 5 0, .m 6 1] ?_)))
 refine sqv (vi ((idxP p 0 ks))) hst0 (sv_call rfl rfl rfl rfl rfl (fun _ _ _ h=>h) fun ρ β W X cx=>⟨_, _,run_callF (args:=#[.slice FA ks.length fc, .func (.func f0) #[] cap]) rfl cx.sees rfl (by kernel_rfl) (map2 (cx.ou 5) (cx.ou 6)),kidx_any _ _ ks _ _ p _ (hF.ext cx.upd.to_ext) hl hcf (fun W k hW=>hf W k (cx.upd.to_ext.trans hW))⟩) fun W4 hst4=>?_
 refine sqp [.k 8 (.bool (decide (0≤(idxP p 0 ks)))), .m 4 8] ?_
 refine then_normal (wp_ret ?_)
 refine bpr (.bool (decide (0≤(idxP p 0 ks)))) (results_1 Tryz.results54 rpt) ?_
 exact Ret.of (by rw [← idxP_any _ _ 0 (by omega)]) hst4.ext
theorem kput1_any (x:ByteArray) (y z:Int) (tb:Nat) (te:ByteArray) (t1 tk tl:Int) (w:World) (h1:Blk w tb 120 #[.string te, .int .i64 t1, .int .i64 tk, .int .i64 tl]):
  Calls Tryz.prog 97 #[.agg #[.string x, .int .i64 y, .int .i64 z], .pointer (some ⟨tb,0,none⟩)] w (Ret (.bool (x.toList==te.toList)) w):=by
 go_enter Tryz.func97,Tryz.ntmps97
 have hst0:=St.start w
 refine wp_seq (sqr ?_)
 refine sqbx #[.string x,vi y,vi z] hst0 fun B2_1 W1 hst1=>?_
 refine sqp [.k 3 (.bool false)] ?_
 refine then_normal (wp_seq (sqr (sqp [.k 4 (vp B2_1)] ?_)))
 refine sqld 0 hst1 ?_
 refine sqp [.k 6 (vp tb), .k 7 (vp tb)] ?_
 refine sql (.string te) hst1 (fun cx=>run_load1 rfl (by kernel_rfl) (cx.ou 7) ((Blk.ext h1 cx.upd.to_ext).cell 0)) ?_
 refine sqp [.k 9 (.bool (x.toList==te.toList)), .m 3 9] ?_
 refine then_normal (wp_ret ?_)
 refine bpr (.bool (x.toList==te.toList)) (results_1 Tryz.results97 rpt) ?_
 exact Ret.bool rfl hst1.ext
theorem kput1_con {A:Option Addr} {c:Nat} {es:List EnD} {w:World} {tb:Nat} {te:ByteArray} {t1 tk tl:Int} (hE:At w A (es.flatMap enC)) (hl:es.length≤100000) (h1:Blk w tb 120 #[.string te, .int .i64 t1, .int .i64 tk, .int .i64 tl]):
  Calls Tryz.prog 54 #[.slice A es.length c, .func (.func 97) #[] #[.pointer (some ⟨tb,0,none⟩)]] w (Ret (.bool (hasE es te)) w):=
 kcon_any A c es 97 #[.pointer (some ⟨tb,0,none⟩)] (fun e=>e.1.toList==te.toList) w hE hl (by kernel_rfl) (fun W k hW=>kput1_any k.1 _ k.2.2 tb te t1 tk tl W (h1.ext hW))
theorem kstep1_any (x:ByteArray) (y z:Int) (tb:Nat) (te:ByteArray) (t1 tk tl:Int) (w:World) (h1:Blk w tb 120 #[.string te, .int .i64 t1, .int .i64 tk, .int .i64 tl]):
  Calls Tryz.prog 51 #[.agg #[.string x, .int .i64 y, .int .i64 z], .pointer (some ⟨tb,0,none⟩)] w (Ret (.bool (x.toList==te.toList)) w):=by
 go_enter Tryz.func51,Tryz.ntmps51
 have hst0:=St.start w
 refine wp_seq (sqr ?_)
 refine sqbx #[.string x,vi y,vi z] hst0 fun B2_1 W1 hst1=>?_
 refine sqp [.k 3 (.bool false)] ?_
 refine then_normal (wp_seq (sqr (sqp [.k 4 (vp B2_1)] ?_)))
 refine sqld 0 hst1 ?_
 refine sqp [.k 6 (vp tb), .k 7 (vp tb)] ?_
 refine sql (.string te) hst1 (fun cx=>run_load1 rfl (by kernel_rfl) (cx.ou 7) ((Blk.ext h1 cx.upd.to_ext).cell 0)) ?_
 refine sqp [.k 9 (.bool (x.toList==te.toList)), .m 3 9] ?_
 refine then_normal (wp_ret ?_)
 refine bpr (.bool (x.toList==te.toList)) (results_1 Tryz.results51 rpt) ?_
 exact Ret.bool rfl hst1.ext
theorem kstep1_con {A:Option Addr} {c:Nat} {es:List EnD} {w:World} {tb:Nat} {te:ByteArray} {t1 tk tl:Int} (hE:At w A (es.flatMap enC)) (hl:es.length≤100000) (h1:Blk w tb 120 #[.string te, .int .i64 t1, .int .i64 tk, .int .i64 tl]):
  Calls Tryz.prog 54 #[.slice A es.length c, .func (.func 51) #[] #[.pointer (some ⟨tb,0,none⟩)]] w (Ret (.bool (hasE es te)) w):=
 kcon_any A c es 51 #[.pointer (some ⟨tb,0,none⟩)] (fun e=>e.1.toList==te.toList) w hE hl (by kernel_rfl) (fun W k hW=>kstep1_any k.1 _ k.2.2 tb te t1 tk tl W (h1.ext hW))
end
section
open Go.RowKit
def tkK (t:TaT):List Value:=[.string t.1, .int .i64 0, .int .i64 t.2.2, .int .i64 t.2.1]
theorem tkK_len (t:TaT):(tkK t).length=4:=rfl
/-- an insertion: its block; its pending entries lie in the blocks behind it -/
def ePk (b:Nat) (p:PuT) (fp:List Nat):Ent:=⟨fp,fun W=>∃ A c g,fp=b::g∧b∉g∧p.left.length≤c∧(∀ ad,A=some ad→p.left≠[]→ad.block∈g)∧(∀ k∈g,k < W.heap.size)∧Blk W b 123 (puC p A c)∧At W A (p.left.flatMap tkK)⟩
theorem ePk_self {e:Ent} {b:Nat} {p:PuT} {fp:List Nat} (h:e=ePk b p fp):e=ePk b p e.fp:=by subst h; rfl
theorem ePk_loc (b:Nat) (p:PuT) (fp:List Nat):(ePk b p fp).loc:=fun W W' hk h=>by
 obtain ⟨A,c,g,rfl,h2,h3,h4,h5,h6,h7⟩:=h
 refine ⟨A,c,g,rfl,h2,h3,h4,fun k hkg=>?_,(hk b (by simp [ePk])).trans h6,at_blocks h7 fun ad e hl=>hk _ (by simp [ePk,h4 ad e hl])⟩
 have h8:=hk k (by simp [ePk,hkg])
 rcases Nat.lt_or_ge k W'.heap.size with h9 | h9
 ·exact h9
 ·rw [Array.getElem?_eq_none h9,Array.getElem?_eq_getElem (h5 k hkg)] at h8; cases h8
/-- behind a step: the pending entries lie where they lay -/
theorem pk_old {w W:World} {b:Nat} {g fp:List Nat} {p:PuT} {A:Option Addr} {c:Nat} {E:Ent} (h:St w [b] [eB b 123 (puC p A c),E] W) (hfp:fp=b::g) (hbg:b∉g) (hlt:∀ k∈g,k < w.heap.size) (hc:p.left.length≤c) (hA:At W A (p.left.flatMap tkK)) (hAg:∀ ad,A=some ad→p.left≠[]→ad.block∈g):∃ fp',St w fp [ePk b p fp',E] W:=by
 subst hfp
 have h1:=h.ok _ (List.mem_cons_self ..)
 have h2:=h.ok E (by simp)
 have ha:=List.pairwise_pair.1 h.apart
 have hB:Blk W b 123 (puC p A c):=h1.holds
 have hnew:∀ k∈E.fp,w.heap.size≤k:=fun k hk=>by
  rcases (h2.own k hk).1 with h3 | h3
  ·exact absurd hk (ha k (by simpa [eB] using h3))
  ·exact h3
 refine ⟨b::g,h.upd.mono (fun k _ hk=>by simp at hk; simp [hk]),fun x hx=>?_,List.pairwise_pair.2 fun k hk hk'=>?_⟩
 ·simp only [List.mem_cons,List.not_mem_nil,or_false] at hx
  rcases hx with rfl | rfl
  ·refine ⟨⟨A,c,g,rfl,hbg,hc,hAg,fun k hk=>Nat.lt_of_lt_of_le (hlt k hk) h.upd.size,hB,hA⟩,ePk_loc _ _ _,fun k hk=>⟨.inl hk,?_⟩⟩
   rcases List.mem_cons.1 hk with e | hk
   ·rw [e]; exact hB.lt
   ·exact Nat.lt_of_lt_of_le (hlt k hk) h.upd.size
  ·exact ⟨h2.holds,h2.loc,fun k hk=>⟨.inr (hnew k hk),(h2.own k hk).2⟩⟩
 ·have h4:=hnew k hk'
  rcases List.mem_cons.1 hk with e | hk
  ·exact ha k (by simp [eB,e]) hk'
  ·exact absurd (hlt k hk) (by omega)
/-- behind a step: the pending entries lie in a new row -/
theorem pk_new {w W:World} {b:Nat} {g fp:List Nat} {p:PuT} {A:Option Addr} {c:Nat} {E:Ent} (h:St w [b] [eB b 123 (puC p A c),eO 120 4 (.slice A p.left.length c) p.left.length (p.left.flatMap tkK),E] W) (hfp:fp=b::g):∃ fp',St w fp [ePk b p fp',E] W:=by
 subst hfp
 have h1:=h.ok (eB b 123 (puC p A c)) (by simp)
 have h3:=h.ok (eO 120 4 (.slice A p.left.length c) p.left.length (p.left.flatMap tkK)) (by simp)
 have h2:=h.ok E (by simp)
 have hp:=h.apart
 rw [List.pairwise_cons,List.pairwise_pair] at hp
 have hB:Blk W b 123 (puC p A c):=h1.holds
 have hO:W.ownsRow 0 120 4 (.slice A p.left.length c) p.left.length (p.left.flatMap tkK):=h3.holds
 have hAb:∀ k,k∈(Value.slice A p.left.length c).ownBlock.toList→w.heap.size≤k∧k < W.heap.size∧k≠b∧k∉E.fp:=fun k hk=>by
  have h4:=h3.own k hk
  have hne:k≠b:=fun e=>hp.1 (eO 120 4 (.slice A p.left.length c) p.left.length (p.left.flatMap tkK)) (by simp) b (by simp [eB]) (e ▸ hk)
  exact ⟨h4.1.resolve_left (by simpa using hne),h4.2,hne,hp.2 k hk⟩
 have hnew:∀ k∈E.fp,w.heap.size≤k:=fun k hk=>by
  rcases (h2.own k hk).1 with h4 | h4
  ·exact absurd hk (hp.1 E (by simp) k (by simpa [eB] using h4))
  ·exact h4
 refine ⟨b::(Value.slice A p.left.length c).ownBlock.toList,h.upd.mono (fun k _ hk=>by simp at hk; simp [hk]),fun x hx=>?_,List.pairwise_pair.2 fun k hk hk'=>?_⟩
 ·simp only [List.mem_cons,List.not_mem_nil,or_false] at hx
  rcases hx with rfl | rfl
  ·refine ⟨⟨A,c, _,rfl,fun hm=>(hAb b hm).2.2.1 rfl,eown_capN hO,fun ad e hl=>?_,fun k hk=>(hAb k hk).2.1,hB,At.of_ownN hO⟩,ePk_loc _ _ _,fun k hk=>?_⟩
   ·subst e
    rcases hO.2 with ⟨hv,hm⟩ | ⟨g',cap,cur,hv, _⟩
    ·injection hv with h5; cases h5
    ·injection hv with h5; injection h5 with h5; subst h5; simp [Value.ownBlock]
   ·rcases List.mem_cons.1 hk with e | hk
    ·rw [e]; exact ⟨.inl (List.mem_cons_self ..),hB.lt⟩
    ·exact ⟨.inr (hAb k hk).1,(hAb k hk).2.1⟩
  ·exact ⟨h2.holds,h2.loc,fun k hk=>⟨.inr (hnew k hk),(h2.own k hk).2⟩⟩
 ·rcases List.mem_cons.1 hk with e | hk
  ·exact hp.1 E (by simp) k (by simp [eB,e]) hk'
  ·exact (hAb k hk).2.2.2 hk'
theorem gk_new {w W:World} {b:Nat} {p:PuT} {A:Option Addr} {c:Nat} (h:St w [] [eB b 123 (puC p A c),eO 120 4 (.slice A p.left.length c) p.left.length (p.left.flatMap tkK)] W):∃ fp,St w [] [ePk b p fp] W:=by
 have h1:=h.ok (eB b 123 (puC p A c)) (by simp)
 have h3:=h.ok (eO 120 4 (.slice A p.left.length c) p.left.length (p.left.flatMap tkK)) (by simp)
 have hp:=List.pairwise_pair.1 h.apart
 have hB:Blk W b 123 (puC p A c):=h1.holds
 have hO:W.ownsRow 0 120 4 (.slice A p.left.length c) p.left.length (p.left.flatMap tkK):=h3.holds
 refine ⟨b::(Value.slice A p.left.length c).ownBlock.toList,h.upd,fun x hx=>?_,List.pairwise_singleton _ _⟩
 rw [List.mem_singleton] at hx
 subst hx
 refine ⟨⟨A,c, _,rfl,fun hm=>hp b (by simp [eB]) hm,eown_capN hO,fun ad e hl=>?_,fun k hk=>(h3.own k hk).2,hB,At.of_ownN hO⟩,ePk_loc _ _ _,fun k hk=>?_⟩
 ·subst e
  rcases hO.2 with ⟨hv,hm⟩ | ⟨g',cap,cur,hv, _⟩
  ·injection hv with h5; cases h5
  ·injection hv with h5; injection h5 with h5; subst h5; simp [Value.ownBlock]
 ·rcases List.mem_cons.1 hk with e | hk
  ·rw [e]; exact h1.own b (by simp [eB])
  ·exact h3.own k hk
theorem tail_blk4 {lc:Nat} {la ad:Addr} (h:(if lc=1 then some la else (some la).map (·.add (1*4)))=some ad):ad.block=la.block:=by
 split at h
 ·rw [← Option.some.inj h]
 ·have h2:=Option.some.inj h; rw [← h2,add_block]
def GkPost (p:PuT) (w:World) (e:Ending) (w':World):Prop:=∃ b fp,e= .returned (.pointer (some ⟨b,0,none⟩))∧St w [] [ePk b p fp] w'
def PtPost (b:Nat) (cells:Array Value) (eds:List EdT) (w:World) (e:Ending) (w':World):Prop:=∃ A c,e= .returned (.slice A eds.length c)∧St w [b] [eB b 123 cells,eO 67 3 (.slice A eds.length c) eds.length (eds.flatMap edC)] w'
def KtPost (b:Nat) (r:PuT×GoT) (fp:List Nat) (w:World) (e:Ending) (w':World):Prop:=∃ A c,e= .returned (.tuple #[.slice A r.2.eds.length c, .bool r.2.used, .int .i64 r.2.err])∧∃ fp',St w fp [ePk b r.1 fp',eO 67 3 (.slice A r.2.eds.length c) r.2.eds.length (r.2.eds.flatMap edC)] w'
theorem kgrowN_any (root:Int) (key:ByteArray) (pg sl:Int) (w:World) (hk:key.size≤1000000):
  Calls Tryz.prog 19 #[.int .i64 root, .string key, .agg #[.int .i64 pg, .int .i64 sl]] w (GkPost (putT root key pg sl) w):=by
 go_enter Tryz.func19,Tryz.ntmps19
 have hst0:=St.start w
 refine wp_seq (sqr ?_)
 refine sqbx #[vi pg,vi sl] hst0 fun B5_1 W1 hst1=>?_
 refine sqp [.k 6 (.pointer none)] ?_
 refine then_normal (wp_seq (sqr (sqp [.m 7 0, .m 8 0, .m 9 1] ?_)))
 refine sqlb 0 2 hst1 ?_
 refine sqk (.string (entF key pg sl)) hst1 (fun cx=>⟨_,kentry_any key pg sl _ (by omega),(map2 (cx.ou 9) (cx.ou 10))⟩) fun W7 hst7=>?_
 refine sqp [.k 12 (.agg #[.string (entF key pg sl),vi 0,vi 0]), .k 13 (.agg #[.string (entF key pg sl),vi 0,vi 0,vi 0])] ?_
 refine sqli 120 4 1 [.string (entF key pg sl),vi 0,vi 0,vi 0] hst7 (@fun ρ β W X cx=>by have fF13:ρ (.tmp 13)= .agg #[.string (entF key pg sl),vi 0,vi 0,vi 0]:=(cx.ou 13); simp [go_sem,fF13]) fun B14_10 W10 hst10=>?_
 refine sqp [.k 15 (.agg #[vi root,vi root,vi (-1), .slice ((some ⟨B14_10,0,none⟩)) 1 1,vi 0,vi 0, .bool false])] ?_
 refine sqbx #[vi root,vi root,vi (-1), .slice ((some ⟨B14_10,0,none⟩)) 1 1,vi 0,vi 0, .bool false] hst10 fun B16_12 W12 hst12=>?_
 refine sqp [.m 6 16] ?_
 refine then_normal (wp_ret ?_)
 refine bpr (vp B16_12) (results_1 Tryz.results19 rpt) ?_
 obtain ⟨fp_,hgw_⟩:=gk_new (p:=putT root key pg sl) (hst12.pick [2,1] (by decide) rfl)
 exact ⟨_, _,rfl,hgw_⟩
theorem kdone_o (b:Nat) (root pos leaf fro to:Int) (spl:Bool) (LA:Option Addr) (ln lc:Nat) (w:World) (hb:Blk w b 123 #[.int .i64 root, .int .i64 pos, .int .i64 leaf, .slice LA ln lc, .int .i64 fro, .int .i64 to, .bool spl]):
  Calls Tryz.prog 20 #[.pointer (some ⟨b,0,none⟩)] w (Ret (.bool ((ln:Int)==0)) w):=by
 go_enter Tryz.func20,Tryz.ntmps20
 have hst0:=St.start w
 refine wp_seq (sqr (sqp [.k 2 (.bool false)] ?_))
 refine then_normal (wp_seq (sqr (sqp [.m 3 0] ?_)))
 refine sqv (.bool false) hst0 (by
   exact sv0 rfl rfl rfl rfl rfl (fun _ _ _ h=>h) fun ρ β W X cx=>by
    have fF3:ρ (.tmp 3)=vp b:=(cx.ou 3)
    simp [go_sem,cx.sees.const,fF3]) fun W3 hst3=>?_
 refine sqp [.k 5 (.bool false)] ?_
 refine sqgy 5 [6,7,8,9,10,11] rfl rfl ?_
 refine sqp [.m 6 0, .k 7 (vp b), .k 8 (.pointer (some ⟨b,3,none⟩))] ?_
 refine sql (.slice LA ln lc) hst3 (fun cx=>run_load1 rfl (by kernel_rfl) (cx.ou 8) ((Blk.ext hb cx.upd.to_ext).cell 3)) ?_
 refine sqp [.k 10 (vi ((ln:Int))), .k 11 (.bool ((ln:Int)==0))] ?_
 refine sqp [.k 12 (.bool ((ln:Int)==0)), .m 2 12] ?_
 refine then_normal (wp_ret ?_)
 refine bpr (.bool ((ln:Int)==0)) (results_1 Tryz.results20 rpt) ?_
 exact Ret.bool (by simp) hst3.ext
theorem kleaf_o (b:Nat) (root pos leaf fro to:Int) (spl:Bool) (LA:Option Addr) (ln lc:Nat) (w:World) (hb:Blk w b 123 #[.int .i64 root, .int .i64 pos, .int .i64 leaf, .slice LA ln lc, .int .i64 fro, .int .i64 to, .bool spl]):
  Calls Tryz.prog 28 #[.pointer (some ⟨b,0,none⟩)] w (Ret (.int .i64 leaf) w):=by
 go_enter Tryz.func28,Tryz.ntmps28
 have hst0:=St.start w
 refine wp_seq (sqr (sqp [.k 2 (vi 0)] ?_))
 refine then_normal (wp_seq (wp_seq (sqr (sqp [.m 3 0] ?_))))
 refine sqv (.bool false) hst0 (by
   exact sv0 rfl rfl rfl rfl rfl (fun _ _ _ h=>h) fun ρ β W X cx=>by
    have fF3:ρ (.tmp 3)=vp b:=(cx.ou 3)
    simp [go_sem,cx.sees.const,fF3]) fun W3 hst3=>?_
 refine then_normal (wcf rfl (wp_skip (then_normal (wp_seq (sqr (sqp [.m 5 0, .k 6 (vp b), .k 7 (.pointer (some ⟨b,2,none⟩))] ?_))))))
 refine sql (vi leaf) hst3 (fun cx=>run_load1 rfl (by kernel_rfl) (cx.ou 7) ((Blk.ext hb cx.upd.to_ext).cell 2)) ?_
 refine sqp [.m 2 8] ?_
 refine then_normal (wp_ret ?_)
 refine bpr (vi leaf) (results_1 Tryz.results28 rpt) ?_
 exact Ret.of rfl hst3.ext
theorem kdone_pk {b:Nat} {p:PuT} {fp:List Nat} {w:World} (h:(ePk b p fp).holds w):Calls Tryz.prog 20 #[.pointer (some ⟨b,0,none⟩)] w (Ret (.bool ((p.left.length:Int)==0)) w):=by
 obtain ⟨A,c,g, _, _, _, _, _,hB, _⟩:=h
 exact kdone_o b p.root p.pos p.leaf p.fro p.to p.spl A p.left.length c w hB
theorem kleaf_pk {b:Nat} {p:PuT} {fp:List Nat} {w:World} (h:(ePk b p fp).holds w):Calls Tryz.prog 28 #[.pointer (some ⟨b,0,none⟩)] w (Ret (.int .i64 p.leaf) w):=by
 obtain ⟨A,c,g, _, _, _, _, _,hB, _⟩:=h
 exact kleaf_o b p.root p.pos p.leaf p.fro p.to p.spl A p.left.length c w hB
theorem kput_any (b:Nat) (root pos leaf fro to:Int) (spl:Bool) (la:Addr) (ln lc:Nat) (nd:NoD) (np:Int) (EA:Option Addr) (ec:Nat) (te:ByteArray) (t1 tk tl:Int) (q:Bool) (w:World) (hb:Blk w b 123 #[.int .i64 root, .int .i64 pos, .int .i64 leaf, .slice ((some la)) ln lc, .int .i64 fro, .int .i64 to, .bool spl]) (hE:∀ W,Upd [b] w W→At W EA (nd.es.flatMap enC)) (hel:nd.es.length≤1000) (hln:1≤ln) (hlc:ln≤lc) (hte:te.size≤1000000) (hq:hasE nd.es te=q):
  Calls Tryz.prog 55 #[.pointer (some ⟨b,0,none⟩), .agg #[.int .i64 np, .int .i64 nd.lv, .int .i64 nd.right, .string nd.high, .bool nd.dead, .slice EA nd.es.length ec, .int .i64 ((nd.free:Int))], .agg #[.string te, .int .i64 t1, .int .i64 tk, .int .i64 tl]] w (PtPost b #[.int .i64 root, .int .i64 root, .int .i64 ((if tl=0 then np else leaf)), .slice ((if lc=1 then some la else (some la).map (·.add (1*4)))) ((ln - 1)) ((lc - 1)), .int .i64 fro, .int .i64 to, .bool spl] (if q=true then [] else [(np,(nd.free:Int),itB nd.lv tk te)]) w):=by
 have st0:=St.lend (E:=eB b 123 #[.int .i64 root, .int .i64 pos, .int .i64 leaf, .slice ((some la)) ln lc, .int .i64 fro, .int .i64 to, .bool spl]) hb (eB_loc _ _ _) (fun k hk=>by simp [eB] at hk; subst hk; exact hb.lt)
 go_enter Tryz.func55,Tryz.ntmps55
 have hst0:=st0
 refine wp_seq (sqr ?_)
 refine sqbx #[vi np,vi nd.lv,vi nd.right, .string nd.high, .bool nd.dead, .slice EA nd.es.length ec,vi ((nd.free:Int))] hst0 fun B4_1 W1 hst1=>?_
 refine sqbx #[.string te,vi t1,vi tk,vi tl] hst1 fun B5_2 W2 hst2=>?_
 refine sqp [.k 6 (.slice none 0 0)] ?_
 refine then_normal (wp_seq (sqr (sqp [.k 7 (.slice none 0 0)] ?_)))
 refine then_normal (wp_seq (wp_seq (sqr (sqp [.k 8 (.pointer (some ⟨B4_1,5,none⟩))] ?_))))
 refine sqld 1 hst2 ?_
 refine sqv (.func (.func 97) #[] #[vp B5_2]) hst2 (by
   exact sv0 rfl rfl rfl rfl rfl (fun _ _ _ h=>h) fun ρ β W X cx=>by
    have fF5:ρ (.tmp 5)=vp B5_2:=(cx.ou 5)
    simp [go_sem,Instr.makeFunc,fF5]) fun W7 hst7=>?_
 refine sqk (.bool ((hasE nd.es te))) hst7 (fun cx=>⟨_,kput1_con (hE _ cx.upd) (by omega) (cx.bi 2 rfl),(map2 (cx.ou 9) (cx.ou 10))⟩) fun W8 hst8=>?_
 refine sqp [.k 12 (.bool (!((hasE nd.es te))))] ?_
 refine then_normal ?_
 rcases Bool.eq_false_or_eq_true ((hasE nd.es te)) with hs10 | hs10
 ·refine wp_cond_false (show Act.eval _ _= .bool false from (congrArg Value.bool (by rw [hs10]; rfl))) (wp_skip (then_normal (wp_seq (wp_seq (sqr (sqp [.k 23 (.pointer (some ⟨B5_2,3,none⟩))] ?_))))))
  refine sqld 2 hst8 ?_
  refine sqp [.k 25 (.bool (tl==0))] ?_
  refine then_normal (wbs (fun hs14=>?_) fun hs14=>?_)
  ·have hs14p:=beq_iff_eq.1 hs14
   refine sqr (sqp [.m 26 0, .k 27 (vp B4_1)] ?_)
   refine sqld 1 hst8 ?_
   refine sqp [.k 29 (vp b), .k 30 (.pointer (some ⟨b,2,none⟩))] ?_
   refine sqst (n:=1) 0 #[vi root,vi pos,vi np, .slice ((some la)) ln lc,vi fro,vi to, .bool spl] hst8 fun W20 hst20=>?_
   refine then_normal (wp_seq (wp_region_Y [0,0,0,4,12,28,60,0,128,384,896,2045,4093,8189,16383,32767,65535] [[],[],[],[],[],[0],[],[],[],[],[0],[],[],[0],[],[],[3]] [[],[],[],[],[],[],[],[],[],[],[],[],[],[3],[],[],[4]] [[],[],[],[],[],[],[],[],[],[],[],[],[],[0],[],[],[3]] [.k 31 (vp b), .k 32 (vp b), .k 33 (vp b), .k 34 (vp b), .k 35 (.pointer (some ⟨b,3,none⟩)), .c 36 (.slice ((some la)) ln lc), .c 37 (.slice ((if lc=1 then (some la) else ((some la)).map (·.add (1*4)))) ((ln - 1)) ((lc - 1))), .k 38 (vp b), .k 39 (vp b), .k 40 (vp b), .c 41 (vi root), .k 42 (vp b), .k 43 (.pointer (some ⟨b,3,none⟩)), .n, .k 44 (vp b), .k 45 (.pointer (some ⟨b,1,none⟩)), .n] (fun ix σ β X=>match ix with | 0=>True | 1=>True | 2=>True | 3=>True | 4=>True | 5=>True | 6=>True | 7=>True | 8=>True | 9=>True | 10=>True | 11=>True | 12=>True | 13=>X 3=eB b 123 #[vi root,vi pos,vi np, .slice ((if lc=1 then (some la) else ((some la)).map (·.add (1*4)))) ((ln - 1)) ((lc - 1)),vi fro,vi to, .bool spl] | 14=>True | 15=>True | 16=>X 4=eB b 123 #[vi root,vi root,vi np, .slice ((if lc=1 then (some la) else ((some la)).map (·.add (1*4)))) ((ln - 1)) ((lc - 1)),vi fro,vi to, .bool spl] | _=>True) [1,2,4] [5,6,10,13,16] [(31,0,16,46)] hst20 ?_ ?_ ?_))
   ·exact fun ix _ _ _ _ _ _ hs hb hx h=>match ix,h with
    | 13,h=>by dsimp only; rw [← hx 3 rfl]; exact h
    | 16,h=>by dsimp only; rw [← hx 4 rfl]; exact h
    | 0, _ | 1, _ | 2, _ | 3, _ | 4, _ | 5, _ | 6, _ | 7, _ | 8, _ | 9, _ | 10, _ | 11, _ | 12, _ | 14, _ | 15, _ | _+17, _=>trivial
   ·refine ⟨?_,?_,?_,?_,?_,trivial⟩
    ·exact xs4 rfl id fun cx=>run_load1 rfl (by kernel_rfl) (cx.an 4) ((cx.bi 0 rfl).cell 3)
    ·exact xs4 rfl id fun cx=>run_sliceL_lo (e:=120) (sz:=4) (l:=1) rfl (by kernel_rfl) (by kernel_rfl) (cx.an 5) (cx.co _) (by omega) (by omega)
    ·exact xs4 rfl id fun cx=>run_load1 rfl (by kernel_rfl) (cx.an 9) ((cx.bi 0 rfl).cell 0)
    ·refine svA fun ρ β W X cx=>?_
     exact dv_store (n:=1) rfl (cx.an 12) (cx.an 6) (by kernel_rfl) (by kernel_rfl) (by kernel_rfl) cx (cx.init 0 _ rfl) rfl (nle rfl) (by kernel_rfl) rfl rfl rfl (fun σ β' X' hs hb hx=>hx)
    ·refine svA fun ρ β W X cx=>?_
     exact dv_store (n:=1) rfl (cx.an 15) (cx.an 10) (by kernel_rfl) (by kernel_rfl) (by kernel_rfl) cx (dTn (cx.an 13)) rfl (nle rfl) (by kernel_rfl) rfl rfl rfl (fun σ β' X' hs hb hx=>hx)
   intro σ β X W21 hD hst21 fr hfr
   simp only [exq 4 ((dTn (hD 16 lq)))] at hst21
   clear hD; subst hfr; clear σ β X
   refine then_normal (wp_seq (sqr (sqp [.m 46 7, .m 6 46] ?_)))
   refine then_normal (wp_ret ?_)
   refine bpr (.slice none 0 0) (results_1 Tryz.results55 rpt) ?_
   have hqq:q=true:=hq.symm.trans hs10
   have htl0:tl=0:=by have h_:=hs14; simpa using h_
   rw [if_pos htl0,hqq]
   have hn24:=nilrowN hst21 67 3
   simp only [List.cons_append,List.nil_append] at hn24
   exact ⟨_, _,rfl,hn24.pick [2,3] (by decide) rfl⟩
  have hs14p:=beq_eq_false_iff_ne.1 hs14
  refine wp_skip (then_normal (wp_seq (wp_region_Y [0,0,0,4,12,28,60,0,128,384,896,2045,4093,8189,16383,32767,65535] [[],[],[],[],[],[0],[],[],[],[],[0],[],[],[0],[],[],[3]] [[],[],[],[],[],[],[],[],[],[],[],[],[],[3],[],[],[4]] [[],[],[],[],[],[],[],[],[],[],[],[],[],[0],[],[],[3]] [.k 31 (vp b), .k 32 (vp b), .k 33 (vp b), .k 34 (vp b), .k 35 (.pointer (some ⟨b,3,none⟩)), .c 36 (.slice ((some la)) ln lc), .c 37 (.slice ((if lc=1 then (some la) else ((some la)).map (·.add (1*4)))) ((ln - 1)) ((lc - 1))), .k 38 (vp b), .k 39 (vp b), .k 40 (vp b), .c 41 (vi root), .k 42 (vp b), .k 43 (.pointer (some ⟨b,3,none⟩)), .n, .k 44 (vp b), .k 45 (.pointer (some ⟨b,1,none⟩)), .n] (fun ix σ β X=>match ix with | 0=>True | 1=>True | 2=>True | 3=>True | 4=>True | 5=>True | 6=>True | 7=>True | 8=>True | 9=>True | 10=>True | 11=>True | 12=>True | 13=>X 3=eB b 123 #[vi root,vi pos,vi leaf, .slice ((if lc=1 then (some la) else ((some la)).map (·.add (1*4)))) ((ln - 1)) ((lc - 1)),vi fro,vi to, .bool spl] | 14=>True | 15=>True | 16=>X 4=eB b 123 #[vi root,vi root,vi leaf, .slice ((if lc=1 then (some la) else ((some la)).map (·.add (1*4)))) ((ln - 1)) ((lc - 1)),vi fro,vi to, .bool spl] | _=>True) [1,2,4] [5,6,10,13,16] [(31,0,16,46)] hst8 ?_ ?_ ?_)))
  ·exact fun ix _ _ _ _ _ _ hs hb hx h=>match ix,h with
   | 13,h=>by dsimp only; rw [← hx 3 rfl]; exact h
   | 16,h=>by dsimp only; rw [← hx 4 rfl]; exact h
   | 0, _ | 1, _ | 2, _ | 3, _ | 4, _ | 5, _ | 6, _ | 7, _ | 8, _ | 9, _ | 10, _ | 11, _ | 12, _ | 14, _ | 15, _ | _+17, _=>trivial
  ·refine ⟨?_,?_,?_,?_,?_,trivial⟩
   ·exact xs4 rfl id fun cx=>run_load1 rfl (by kernel_rfl) (cx.an 4) ((cx.bi 0 rfl).cell 3)
   ·exact xs4 rfl id fun cx=>run_sliceL_lo (e:=120) (sz:=4) (l:=1) rfl (by kernel_rfl) (by kernel_rfl) (cx.an 5) (cx.co _) (by omega) (by omega)
   ·exact xs4 rfl id fun cx=>run_load1 rfl (by kernel_rfl) (cx.an 9) ((cx.bi 0 rfl).cell 0)
   ·refine svA fun ρ β W X cx=>?_
    exact dv_store (n:=1) rfl (cx.an 12) (cx.an 6) (by kernel_rfl) (by kernel_rfl) (by kernel_rfl) cx (cx.init 0 _ rfl) rfl (nle rfl) (by kernel_rfl) rfl rfl rfl (fun σ β' X' hs hb hx=>hx)
   ·refine svA fun ρ β W X cx=>?_
    exact dv_store (n:=1) rfl (cx.an 15) (cx.an 10) (by kernel_rfl) (by kernel_rfl) (by kernel_rfl) cx (dTn (cx.an 13)) rfl (nle rfl) (by kernel_rfl) rfl rfl rfl (fun σ β' X' hs hb hx=>hx)
  intro σ β X W25 hD hst25 fr hfr
  simp only [exq 4 ((dTn (hD 16 lq)))] at hst25
  clear hD; subst hfr; clear σ β X
  refine then_normal (wp_seq (sqr (sqp [.m 46 7, .m 6 46] ?_)))
  refine then_normal (wp_ret ?_)
  refine bpr (.slice none 0 0) (results_1 Tryz.results55 rpt) ?_
  have hqq:q=true:=hq.symm.trans hs10
  have htl0:¬ tl=0:=by have h_:=hs14; simpa using h_
  rw [if_neg htl0,hqq]
  have hn28:=nilrowN hst25 67 3
  simp only [List.cons_append,List.nil_append] at hn28
  exact ⟨_, _,rfl,hn28.pick [2,3] (by decide) rfl⟩
 refine wp_cond_true (show Act.eval _ _= .bool true from (congrArg Value.bool (by rw [hs10]; rfl))) (wp_region_Y [0,1,0,4,0,0,32,112,255,511,1023] [[],[1],[],[1],[1],[],[2]] [[],[],[],[],[],[],[],[],[],[3]] [] [.k 13 (vp B4_1), .c 14 (vi np), .k 15 (.pointer (some ⟨B4_1,6,none⟩)), .c 16 (vi ((nd.free:Int))), .c 17 (.agg #[vi np,vi nd.lv,vi nd.right, .string nd.high, .bool nd.dead, .slice EA nd.es.length ec,vi ((nd.free:Int))]), .k 18 (vp B5_2), .c 19 (.agg #[.string te,vi t1,vi tk]), .c 20 (.string (itB nd.lv tk te)), .k 21 (.agg #[vi np,vi ((nd.free:Int)), .string (itB nd.lv tk te)]), .a 22, .a 7] (fun ix σ β X=>match ix with | 0=>True | 1=>True | 2=>True | 3=>True | 4=>True | 5=>True | 6=>True | 7=>True | 8=>True | 9=>σ 22= .slice ((some ⟨(pb' (β 22)),0,none⟩)) 1 1∧X 3=eO 67 3 (.slice ((some ⟨(pb' (β 22)),0,none⟩)) 1 1) 1 ([vi np,vi ((nd.free:Int)), .string (itB nd.lv tk te)]) | 10=>σ 7= .slice ((some ⟨(pb' (β 22)),0,none⟩)) 1 1 | _=>True) [0,1,2,3] [1,3,4,6,7,9,10] [(7,10,1,8),(5,0,10,15)] hst8 ?_ ?_ ?_)
 ·exact fun ix _ _ _ _ _ _ hs hb hx h=>match ix,h with
  | 9,h=>by dsimp only; rw [← hs 22 rfl,← hb 22 rfl,← hx 3 rfl]; exact h
  | 10,h=>by dsimp only; rw [← hs 7 rfl,← hb 22 rfl]; exact h
  | 0, _ | 1, _ | 2, _ | 3, _ | 4, _ | 5, _ | 6, _ | 7, _ | 8, _ | _+11, _=>trivial
 ·refine ⟨?_,?_,?_,?_,?_,?_,?_,trivial⟩
  ·exact xs4 rfl id fun cx=>run_load1 rfl (by kernel_rfl) (cx.an 0) ((cx.bi 1 rfl).cell 0)
  ·exact xs4 rfl id fun cx=>run_load1 rfl (by kernel_rfl) (cx.an 2) ((cx.bi 1 rfl).cell 6)
  ·exact xs4 rfl id fun cx=>run_loadB (n:=7) rfl (by kernel_rfl) (by kernel_rfl) (cx.ou 4) (cx.bi 1 rfl) (nle rfl) rfl
  ·exact xs4 rfl id fun cx=>run_loadB (n:=3) rfl (by kernel_rfl) (by kernel_rfl) (cx.an 5) (cx.bi 2 rfl) (nle rfl) rfl
  ·exact xsc rfl id rfl rfl fun cx=>⟨_,kitem_any np nd.lv nd.right (nd.free:Int) nd.high nd.dead _ _ _ te t1 tk _ (by omega),(map2 (cx.an 4) (cx.an 6))⟩
  ·refine svA fun ρ β W X cx=>?_
   have fF21:ρ (.tmp 21)= .agg #[vi np,vi ((nd.free:Int)), .string (itB nd.lv tk te)]:=(cx.an 8)
   exact dv_litN (e:=67) (sz:=3) (xs:=[vi np,vi ((nd.free:Int)), .string (itB nd.lv tk te)]) rfl (by simp [go_sem,fF21]) rfl (by decide) rfl rfl (fun σ β' X' hs hb hv hx=>⟨hv,hx⟩)
  ·exact sv rfl rfl rfl rfl rfl _ (fun _ _ _ h=>h) (fun β β' h=>by rw [h 22 (by decide)]) fun ρ β W X cx=>run_assign' rfl (dTn (cx.an 9)).1
 intro σ β X W29 hD hst29 fr hfr
 obtain ⟨B22_29,hu_B22_29⟩:∃ z,pb' (β 22)=z:=⟨_,rfl⟩
 simp only [exq 3 ((dTn (hD 9 lq)).2),hu_B22_29] at hst29
 simp only [ed 22 ((dTn (hD 9 lq)).1),ed 7 ((dTn (hD 10 lq))),hu_B22_29] at hfr
 clear hD hu_B22_29; subst hfr; clear σ β X
 refine then_normal (wp_seq (wp_seq (sqr (sqp [.k 23 (.pointer (some ⟨B5_2,3,none⟩))] ?_))))
 refine sqld 2 hst29 ?_
 refine sqp [.k 25 (.bool (tl==0))] ?_
 refine then_normal (wbs (fun hs33=>?_) fun hs33=>?_)
 ·have hs33p:=beq_iff_eq.1 hs33
  refine sqr (sqp [.m 26 0, .k 27 (vp B4_1)] ?_)
  refine sqld 1 hst29 ?_
  refine sqp [.k 29 (vp b), .k 30 (.pointer (some ⟨b,2,none⟩))] ?_
  refine sqst (n:=1) 0 #[vi root,vi pos,vi np, .slice ((some la)) ln lc,vi fro,vi to, .bool spl] hst29 fun W39 hst39=>?_
  refine then_normal (wp_seq (wp_region_Y [0,0,0,4,12,28,60,0,128,384,896,2045,4093,8189,16383,32767,65535] [[],[],[],[],[],[0],[],[],[],[],[0],[],[],[0],[],[],[4]] [[],[],[],[],[],[],[],[],[],[],[],[],[],[4],[],[],[5]] [[],[],[],[],[],[],[],[],[],[],[],[],[],[0],[],[],[4]] [.k 31 (vp b), .k 32 (vp b), .k 33 (vp b), .k 34 (vp b), .k 35 (.pointer (some ⟨b,3,none⟩)), .c 36 (.slice ((some la)) ln lc), .c 37 (.slice ((if lc=1 then (some la) else ((some la)).map (·.add (1*4)))) ((ln - 1)) ((lc - 1))), .k 38 (vp b), .k 39 (vp b), .k 40 (vp b), .c 41 (vi root), .k 42 (vp b), .k 43 (.pointer (some ⟨b,3,none⟩)), .n, .k 44 (vp b), .k 45 (.pointer (some ⟨b,1,none⟩)), .n] (fun ix σ β X=>match ix with | 0=>True | 1=>True | 2=>True | 3=>True | 4=>True | 5=>True | 6=>True | 7=>True | 8=>True | 9=>True | 10=>True | 11=>True | 12=>True | 13=>X 4=eB b 123 #[vi root,vi pos,vi np, .slice ((if lc=1 then (some la) else ((some la)).map (·.add (1*4)))) ((ln - 1)) ((lc - 1)),vi fro,vi to, .bool spl] | 14=>True | 15=>True | 16=>X 5=eB b 123 #[vi root,vi root,vi np, .slice ((if lc=1 then (some la) else ((some la)).map (·.add (1*4)))) ((ln - 1)) ((lc - 1)),vi fro,vi to, .bool spl] | _=>True) [1,2,3,5] [5,6,10,13,16] [(31,0,16,46)] hst39 ?_ ?_ ?_))
  ·exact fun ix _ _ _ _ _ _ hs hb hx h=>match ix,h with
   | 13,h=>by dsimp only; rw [← hx 4 rfl]; exact h
   | 16,h=>by dsimp only; rw [← hx 5 rfl]; exact h
   | 0, _ | 1, _ | 2, _ | 3, _ | 4, _ | 5, _ | 6, _ | 7, _ | 8, _ | 9, _ | 10, _ | 11, _ | 12, _ | 14, _ | 15, _ | _+17, _=>trivial
  ·refine ⟨?_,?_,?_,?_,?_,trivial⟩
   ·exact xs4 rfl id fun cx=>run_load1 rfl (by kernel_rfl) (cx.an 4) ((cx.bi 0 rfl).cell 3)
   ·exact xs4 rfl id fun cx=>run_sliceL_lo (e:=120) (sz:=4) (l:=1) rfl (by kernel_rfl) (by kernel_rfl) (cx.an 5) (cx.co _) (by omega) (by omega)
   ·exact xs4 rfl id fun cx=>run_load1 rfl (by kernel_rfl) (cx.an 9) ((cx.bi 0 rfl).cell 0)
   ·refine svA fun ρ β W X cx=>?_
    exact dv_store (n:=1) rfl (cx.an 12) (cx.an 6) (by kernel_rfl) (by kernel_rfl) (by kernel_rfl) cx (cx.init 0 _ rfl) rfl (nle rfl) (by kernel_rfl) rfl rfl rfl (fun σ β' X' hs hb hx=>hx)
   ·refine svA fun ρ β W X cx=>?_
    exact dv_store (n:=1) rfl (cx.an 15) (cx.an 10) (by kernel_rfl) (by kernel_rfl) (by kernel_rfl) cx (dTn (cx.an 13)) rfl (nle rfl) (by kernel_rfl) rfl rfl rfl (fun σ β' X' hs hb hx=>hx)
  intro σ β X W40 hD hst40 fr hfr
  simp only [exq 5 ((dTn (hD 16 lq)))] at hst40
  clear hD; subst hfr; clear σ β X
  refine then_normal (wp_seq (sqr (sqp [.m 46 7, .m 6 46] ?_)))
  refine then_normal (wp_ret ?_)
  refine bpr (.slice ((some ⟨B22_29,0,none⟩)) 1 1) (results_1 Tryz.results55 rpt) ?_
  have hqq:q=false:=hq.symm.trans hs10
  have htl0:tl=0:=by have h_:=hs33; simpa using h_
  rw [if_pos htl0,hqq]
  exact ⟨_, _,rfl,hst40.pick [3,2] (by decide) rfl⟩
 have hs33p:=beq_eq_false_iff_ne.1 hs33
 refine wp_skip (then_normal (wp_seq (wp_region_Y [0,0,0,4,12,28,60,0,128,384,896,2045,4093,8189,16383,32767,65535] [[],[],[],[],[],[0],[],[],[],[],[0],[],[],[0],[],[],[4]] [[],[],[],[],[],[],[],[],[],[],[],[],[],[4],[],[],[5]] [[],[],[],[],[],[],[],[],[],[],[],[],[],[0],[],[],[4]] [.k 31 (vp b), .k 32 (vp b), .k 33 (vp b), .k 34 (vp b), .k 35 (.pointer (some ⟨b,3,none⟩)), .c 36 (.slice ((some la)) ln lc), .c 37 (.slice ((if lc=1 then (some la) else ((some la)).map (·.add (1*4)))) ((ln - 1)) ((lc - 1))), .k 38 (vp b), .k 39 (vp b), .k 40 (vp b), .c 41 (vi root), .k 42 (vp b), .k 43 (.pointer (some ⟨b,3,none⟩)), .n, .k 44 (vp b), .k 45 (.pointer (some ⟨b,1,none⟩)), .n] (fun ix σ β X=>match ix with | 0=>True | 1=>True | 2=>True | 3=>True | 4=>True | 5=>True | 6=>True | 7=>True | 8=>True | 9=>True | 10=>True | 11=>True | 12=>True | 13=>X 4=eB b 123 #[vi root,vi pos,vi leaf, .slice ((if lc=1 then (some la) else ((some la)).map (·.add (1*4)))) ((ln - 1)) ((lc - 1)),vi fro,vi to, .bool spl] | 14=>True | 15=>True | 16=>X 5=eB b 123 #[vi root,vi root,vi leaf, .slice ((if lc=1 then (some la) else ((some la)).map (·.add (1*4)))) ((ln - 1)) ((lc - 1)),vi fro,vi to, .bool spl] | _=>True) [1,2,3,5] [5,6,10,13,16] [(31,0,16,46)] hst29 ?_ ?_ ?_)))
 ·exact fun ix _ _ _ _ _ _ hs hb hx h=>match ix,h with
  | 13,h=>by dsimp only; rw [← hx 4 rfl]; exact h
  | 16,h=>by dsimp only; rw [← hx 5 rfl]; exact h
  | 0, _ | 1, _ | 2, _ | 3, _ | 4, _ | 5, _ | 6, _ | 7, _ | 8, _ | 9, _ | 10, _ | 11, _ | 12, _ | 14, _ | 15, _ | _+17, _=>trivial
 ·refine ⟨?_,?_,?_,?_,?_,trivial⟩
  ·exact xs4 rfl id fun cx=>run_load1 rfl (by kernel_rfl) (cx.an 4) ((cx.bi 0 rfl).cell 3)
  ·exact xs4 rfl id fun cx=>run_sliceL_lo (e:=120) (sz:=4) (l:=1) rfl (by kernel_rfl) (by kernel_rfl) (cx.an 5) (cx.co _) (by omega) (by omega)
  ·exact xs4 rfl id fun cx=>run_load1 rfl (by kernel_rfl) (cx.an 9) ((cx.bi 0 rfl).cell 0)
  ·refine svA fun ρ β W X cx=>?_
   exact dv_store (n:=1) rfl (cx.an 12) (cx.an 6) (by kernel_rfl) (by kernel_rfl) (by kernel_rfl) cx (cx.init 0 _ rfl) rfl (nle rfl) (by kernel_rfl) rfl rfl rfl (fun σ β' X' hs hb hx=>hx)
  ·refine svA fun ρ β W X cx=>?_
   exact dv_store (n:=1) rfl (cx.an 15) (cx.an 10) (by kernel_rfl) (by kernel_rfl) (by kernel_rfl) cx (dTn (cx.an 13)) rfl (nle rfl) (by kernel_rfl) rfl rfl rfl (fun σ β' X' hs hb hx=>hx)
 intro σ β X W43 hD hst43 fr hfr
 simp only [exq 5 ((dTn (hD 16 lq)))] at hst43
 clear hD; subst hfr; clear σ β X
 refine then_normal (wp_seq (sqr (sqp [.m 46 7, .m 6 46] ?_)))
 refine then_normal (wp_ret ?_)
 refine bpr (.slice ((some ⟨B22_29,0,none⟩)) 1 1) (results_1 Tryz.results55 rpt) ?_
 have hqq:q=false:=hq.symm.trans hs10
 have htl0:¬ tl=0:=by have h_:=hs33; simpa using h_
 rw [if_neg htl0,hqq]
 exact ⟨_, _,rfl,hst43.pick [3,2] (by decide) rfl⟩
theorem kdown_any (np lv rt fr:Int) (hg:ByteArray) (dead:Bool) (EA:Option Addr) (ec n:Nat) (x:ByteArray) (es:List EnD) (w:World) (hE:At w EA (es.flatMap enC)) (hn:es.length=n) (hez:∀ e∈es,e.1.size≤1000000) (hnb:n≤100000) (hx:x.size≤1000000):
  Calls Tryz.prog 53 #[.agg #[.int .i64 np, .int .i64 lv, .int .i64 rt, .string hg, .bool dead, .slice EA n ec, .int .i64 fr], .string x] w (Ret (.int .i64 (downF x es (-1))) w):=by
 go_enter Tryz.func53,Tryz.ntmps53
 have hst0:=St.start w
 refine wp_seq (sqr ?_)
 refine sqbx #[vi np,vi lv,vi rt, .string hg, .bool dead, .slice EA n ec,vi fr] hst0 fun B2_1 W1 hst1=>?_
 refine sqp [.k 4 (vi 0)] ?_
 refine then_normal (wp_seq (sqr (sqp [.k 5 (vi (-1))] ?_)))
 refine then_normal (wp_seq (wp_seq (sqr (sqp [.k 8 (.pointer (some ⟨B2_1,5,none⟩))] ?_))))
 refine sqld 0 hst1 ?_
 refine sqp [.k 10 (vi ((n:Int))), .k 11 (vi 0)] ?_
 refine then_normal (wp_block ?_)
 refine wp_loopT (fun t_ mz az W=>∃ j:Nat,∃ d:Int,j≤n∧downF x es (-1)=downF x (es.drop j) d∧mz=n - j∧az=⟨(ovr (jv az) [(5,5,0,[vi d]),(1,7,1,[]),(3,11,0,[vi ((j:Int))]),(0,12,15,[])] t_).toArray,[]⟩∧St w [] [eB B2_1 84 #[vi np,vi lv,vi rt, .string hg, .bool dead, .slice EA n ec,vi fr]] W) (n - 0) ?_ ?_
 · -- the loop begins
   exact ⟨0,(-1),Nat.zero_le _,rfl,rfl,(by kernel_rfl),hst1.pk [0]⟩
 rintro n8 a8 W8 ⟨j,d,hj,hI,rfl,hj_,hst8⟩
 refine ovz hj_ fun u8_=>?_
 refine wp_seq (sqr (sqp [.k 12 (.bool (decide ((j:Int) < (n:Int))))] ?_))
 refine then_normal (wp_seq (wds (fun hs10 hs10p=>?_) fun hs10 hs10p=>?_))
 ·refine wp_skip (then_normal (wp_seq (wp_block (wp_seq (sqr ?_)))))
  refine sql (.pointer (some ((ad EA).add (j*3)))) hst8 (fun cx=>run_indexSlM (e:=89) (m:=j) (sz:=3) rfl (by kernel_rfl) (by kernel_rfl) (cx.ou 9) (cx.ou 11) (by omega) (by omega) (hE.ext cx.upd.to_ext) (flatPos (sz:=3) enC_len (by decide) (by omega))) ?_
  refine sql (.agg #[.string ((es.getD j en0).1),vi (((es.getD j en0).2.1:Int)),vi ((es.getD j en0).2.2)]) hst8 (fun cx=>run_loadElt (f:=enC) (m:=j) (sz:=3) (off:=0) (n:=3) rfl (by kernel_rfl) (by kernel_rfl) (cx.ou 13) rfl enC_len (hE.ext cx.upd.to_ext) (en_get (by omega)) (fun k hk=>match k,hk with | 0, _=>rfl | 1, _=>rfl | 2, _=>rfl | k+3,hk=>absurd hk (by omega))) ?_
  refine sqal #[.string ByteArray.empty,vi 0,vi 0] hst8 fun B7_13 W13 hst13=>?_
  refine sqst (n:=3) 1 #[.string ((es.getD j en0).1),vi (((es.getD j en0).2.1:Int)),vi ((es.getD j en0).2.2)] hst13 fun W14 hst14=>?_
  refine then_normal (wp_seq (sqr (sqp [.m 15 5, .k 16 (.bool (decide (d < 0))), .m 17 16] ?_)))
  refine sqwW 17 [18,19,20,21,22] ?_ hst14 rfl (fun hq=>?_) fun W23 hst23=>?_
  rotate_left
  ·have hq_:=of_decide_eq_false hq
   refine sqp [.m 18 1, .k 19 (vp B7_13)] ?_
   refine sqld 1 hst14 ?_
   refine sqk (.bool (lessF x ((es.getD j en0).1))) hst14 (fun cx=>⟨_,kless_any x ((es.getD j en0).1) _ (by omega) (getD_size hez _),(map2 (cx.ou 18) (cx.ou 20))⟩) fun W21 hst21=>?_
   refine sqp [.k 22 (.bool (!(lessF x ((es.getD j en0).1))))] ?_
   exact sqE hst21
  refine sqwx ?_
  refine sqp [sPo 23 (decide (d < 0)) (!(lessF x ((es.getD j en0).1)))] ?_
  refine then_normal (wbs (fun hs25=>?_) fun hs25=>?_)
  ·have hs25p:=hs25
   simp only [zB] at hs25p
   refine sqr (sqp [.k 24 (.pointer (some ⟨B7_13,2,none⟩))] ?_)
   refine sqld 1 hst23 ?_
   refine sqp [.m 5 25] ?_
   refine blk_normal (then_normal (sqr (sqp [sI 26 ((j:Int)+1) (by omega), .m 11 26] ?_)))
   refine then_normal ?_
   refine ⟨n - ((j+1)),by omega,?_⟩
   exact ⟨(j+1),((es.getD j en0).2.2),by omega,by rw [hI,downF_at (by omega),if_pos (dn_yes hs25)],rfl,(by kernel_rfl),hst23.pk [0]⟩
  have hs25p:=hs25
  simp only [zB] at hs25p
  obtain ⟨hs25p1,hs25p2⟩:=hs25p
  refine wp_skip (blk_normal (then_normal (sqr (sqp [sI 26 ((j:Int)+1) (by omega), .m 11 26] ?_))))
  refine then_normal ?_
  refine ⟨n - ((j+1)),by omega,?_⟩
  exact ⟨(j+1),d,by omega,by rw [hI,downF_at (by omega),if_neg (dn_no hs25)],rfl,(by kernel_rfl),hst23.pk [0]⟩
 refine wp_exit (then_exit (then_exit (blk_eq (then_normal (wp_seq (sqr (sqp [.m 27 5, .m 4 27] ?_)))))))
 refine then_normal (wp_ret ?_)
 refine bpr (vi d) (results_1 Tryz.results53 rpt) ?_
 exact Ret.of (by rw [hI,List.drop_of_length_le (by omega)]; rfl) hst8.ext
theorem kstep_s (b:Nat) (tt:TypeId) (tv:Value) (root pos leaf fro to:Int) (spl:Bool) (la:Addr) (ln lc:Nat) (te:ByteArray) (tl tk:Int) (lf:List TaT) (ps:List PgS) (fresh:Int) (fp g:List Nat) (w:World) (hb:Blk w b 123 #[.int .i64 root, .int .i64 pos, .int .i64 leaf, .slice ((some la)) ln lc, .int .i64 fro, .int .i64 to, .bool spl]) (hL:∀ W,Upd [b] w W→At W (some la) (((te,tl,tk)::lf).flatMap tkK)) (hln:((te,tl,tk)::lf).length=ln) (hlc:((te,tl,tk)::lf).length≤lc) (hlnb:ln≤10000) (hS:∀ W,Upd [b] w W→PgsOk W tt tv ps) (hok:OkS ps) (hoc:OkC ps) (hfp:fp=b::g) (hbg:b∉g) (hlt:∀ k∈g,k < w.heap.size) (hla:la.block∈g) (hte:te.size≤900000) (htl:0≤tl∧tl≤90000) (h8:∀ nd,ndAt ps pos=some nd→nd.es.length < 8):
  Calls Tryz.prog 21 #[.pointer (some ⟨b,0,none⟩), .iface tt (tv), .int .i64 fresh] w (KtPost b (stepF ps ⟨root,pos,leaf,(te,tl,tk)::lf,fro,to,spl⟩ fresh) fp w):=by
 have st0:=St.lend (E:=eB b 123 #[.int .i64 root, .int .i64 pos, .int .i64 leaf, .slice ((some la)) ln lc, .int .i64 fro, .int .i64 to, .bool spl]) hb (eB_loc _ _ _) (fun k hk=>by simp [eB] at hk; subst hk; exact hb.lt)
 have hln1:1≤ln:=by rw [← hln]; simp
 have hlc1:lf.length+1≤lc:=hlc
 have hln2:lf.length+1=ln:=hln
 go_enter Tryz.func21,Tryz.ntmps21
 have hst0:=st0
 refine wp_seq (sqr (sqp [.k 6 (.slice none 0 0), .k 7 (.bool false), .k 8 (vi 0)] ?_))
 refine then_normal (wp_seq (wp_seq (sqr (sqp [.m 14 0] ?_))))
 refine sqv (.bool false) hst0 (by
   exact sv0 rfl rfl rfl rfl rfl (fun _ _ _ h=>h) fun ρ β W X cx=>by
    have fF14:ρ (.tmp 14)=vp b:=(cx.ou 14)
    simp [go_sem,cx.sees.const,fF14]) fun W5 hst5=>?_
 refine then_normal (wcf rfl (wp_skip (then_normal (wp_seq (sqr (sqp [.m 16 0, .m 17 0, .m 18 0, .k 19 (vp b), .k 20 (.pointer (some ⟨b,4,none⟩))] ?_))))))
 refine sqst (n:=1) 0 #[vi root,vi pos,vi leaf, .slice ((some la)) ln lc,vi 0,vi to, .bool spl] hst5 fun W11 hst11=>?_
 refine sqp [.k 21 (vp b), .k 22 (.pointer (some ⟨b,5,none⟩))] ?_
 refine sqst (n:=1) 0 #[vi root,vi pos,vi leaf, .slice ((some la)) ln lc,vi 0,vi 0, .bool spl] hst11 fun W14 hst14=>?_
 refine sqp [.k 23 (vp b), .k 24 (.pointer (some ⟨b,6,none⟩))] ?_
 refine sqst (n:=1) 0 #[vi root,vi pos,vi leaf, .slice ((some la)) ln lc,vi 0,vi 0, .bool false] hst14 fun W17 hst17=>?_
 refine then_normal (wp_seq (wp_seq (sqr (sqp [.m 25 0, .k 26 (vp b), .k 27 (.pointer (some ⟨b,3,none⟩))] ?_))))
 refine sqld 0 hst17 ?_
 have hd24:((ln:Int)==0)=false:=(by rw [beq_eq_false_iff_ne]; omega)
 refine sqp [.k 29 (vi ((ln:Int))), .e 30 (.bool ((ln:Int)==0)) (.bool false) (congrArg Value.bool hd24)] ?_
 refine then_normal (wcf rfl (wp_skip (then_normal (wp_seq (sqr (sqp [.m 31 0, .k 32 (vp b), .k 33 (.pointer (some ⟨b,3,none⟩))] ?_))))))
 refine sqld 0 hst17 ?_
 refine sql (.pointer (some ((ad ((some la))).add (0*4)))) hst17 (fun cx=>run_indexSlM (e:=120) (m:=0) (sz:=4) rfl (by kernel_rfl) (by kernel_rfl) (cx.ou 34) (cx.co _) (by omega) (by omega) (hL _ cx.upd) (flatPos (sz:=4) tkK_len (by decide) (by omega))) ?_
 refine sql (.agg #[.string te,vi 0,vi tk,vi tl]) hst17 (fun cx=>run_loadElt (f:=tkK) (m:=0) (sz:=4) (off:=0) (n:=4) rfl (by kernel_rfl) (by kernel_rfl) (cx.ou 35) rfl tkK_len (hL _ cx.upd) rfl (fun k hk=>match k,hk with | 0, _=>rfl | 1, _=>rfl | 2, _=>rfl | 3, _=>rfl | k+4,hk=>absurd hk (by omega))) ?_
 refine sqal #[.string ByteArray.empty,vi 0,vi 0,vi 0] hst17 fun B9_31 W31 hst31=>?_
 refine sqst (n:=4) 1 #[.string te,vi 0,vi tk,vi tl] hst31 fun W32 hst32=>?_
 refine then_normal (wp_seq ?_)
 rcases hnd:ndAt ps pos with _ | nd
 ·refine wp_region_Y [0,0,2,6,14,31,63,127,127,0,767,2047] [[],[],[],[],[0],[],[],[],[],[],[2]] [[],[],[],[],[],[],[],[],[],[2],[3]] [[],[],[],[],[],[],[],[],[],[],[2]] [.k 38 (.iface tt (tv)), .k 39 (vp b), .k 40 (vp b), .k 41 (.pointer (some ⟨b,1,none⟩)), .c 42 (vi pos), .a 43, .a 37, .a 44, .c 45 (.bool false), .a 10, .n, .k 11 (.bool false)] (fun ix σ β X=>match ix with | 0=>True | 1=>True | 2=>True | 3=>True | 4=>True | 5=>σ 43= .tuple #[.agg #[vi (iv (tg (tg (β 43) 0) 0)),vi 0,vi 0, .string ((⟨#[]⟩:ByteArray)), .bool false, .slice none 0 0,vi 0], .bool false] | 6=>σ 37= .tuple #[.agg #[vi (iv (tg (tg (β 43) 0) 0)),vi 0,vi 0, .string ((⟨#[]⟩:ByteArray)), .bool false, .slice none 0 0,vi 0], .bool false] | 7=>σ 44= .agg #[vi (iv (tg (tg (β 43) 0) 0)),vi 0,vi 0, .string ((⟨#[]⟩:ByteArray)), .bool false, .slice none 0 0,vi 0] | 8=>True | 9=>σ 10=vp (pb (β 10))∧X 2=eB (pb (β 10)) 84 #[vi 0,vi 0,vi 0, .string ByteArray.empty, .bool false, .slice none 0 0,vi 0] | 10=>X 3=eB (pb (β 10)) 84 #[vi (iv (tg (tg (β 43) 0) 0)),vi 0,vi 0, .string ((⟨#[]⟩:ByteArray)), .bool false, .slice none 0 0,vi 0] | _=>True) [0,1,3] [4,5,6,7,8,9,10] [(10,9,3,12),(25,6,1,26),(0,0,6,6),(0,7,2,2)] hst32 ?_ ?_ ?_
  ·exact fun ix _ _ _ _ _ _ hs hb hx h=>match ix,h with
   | 5,h=>by dsimp only; rw [← hs 43 rfl,← hb 43 rfl]; exact h
   | 6,h=>by dsimp only; rw [← hs 37 rfl,← hb 43 rfl]; exact h
   | 7,h=>by dsimp only; rw [← hs 44 rfl,← hb 43 rfl]; exact h
   | 9,h=>by dsimp only; rw [← hs 10 rfl,← hb 10 rfl,← hx 2 rfl]; exact h
   | 10,h=>by dsimp only; rw [← hb 10 rfl,← hb 43 rfl,← hx 3 rfl]; exact h
   | 0, _ | 1, _ | 2, _ | 3, _ | 4, _ | 8, _ | _+11, _=>trivial
  ·refine ⟨?_,?_,?_,?_,?_,?_,?_,trivial⟩
   ·exact xs4 rfl id fun cx=>run_load1 rfl (by kernel_rfl) (cx.an 3) ((cx.bi 0 rfl).cell 1)
   ·refine svA fun ρ β W X cx=>?_
    refine DoesU.call (run_callF (args:=#[.iface tt (tv),vi pos]) rfl cx.sees rfl (by kernel_rfl) (map2 (cx.an 0) (cx.an 4))) ?_
    refine (kd_no hnd (kat_any _ _ ps pos _ (hS _ cx.upd) hok hoc)).mono ?_
    rintro e W1 ⟨p4,rfl,hx⟩
    refine ⟨_,rfl,post_call [] rfl rfl hx (by simp) List.Pairwise.nil (fun σ β' X' hs hb hv hN=>?_)⟩
    have hv1:=(hv 43 rfl).1; have hv2:=(hv 43 rfl).2
    exact hv1.trans (by rw [hv2]; rfl)
   ·exact sv rfl rfl rfl rfl rfl _ (fun _ _ _ h=>h) (fun β β' h=>by rw [h 43 (by decide)]) fun ρ β W X cx=>run_move' rfl (dTn (cx.an 5))
   ·exact sv rfl rfl rfl rfl rfl _ (fun _ _ _ h=>h) (fun β β' h=>by rw [h 43 (by decide)]) fun ρ β W X cx=>run_extract' rfl (dTn (cx.an 6)) rfl
   ·exact xs4 rfl id fun cx=>run_extract' rfl (dTn (cx.an 6)) rfl
   ·refine svA fun ρ β W X cx=>?_
    exact dv_alloc (cs:=#[vi 0,vi 0,vi 0, .string ByteArray.empty, .bool false, .slice none 0 0,vi 0]) rfl (by kernel_rfl) rfl rfl (fun σ β' X' hs hb hv hx=>⟨hv,hx⟩)
   ·refine svA fun ρ β W X cx=>?_
    exact dv_store (n:=7) rfl (dTn (cx.an 9)).1 (dTn (cx.an 7)) (by kernel_rfl) (by kernel_rfl) (by kernel_rfl) cx (dTn (cx.an 9)).2 rfl (nle rfl) (by kernel_rfl) rfl rfl rfl (fun σ β' X' hs hb hx=>by rw [hb 10,hb 43]; exact hx)
  intro σ β X W33 hD hst33 fr hfr
  obtain ⟨pg43_33,hu_pg43_33⟩:∃ z,iv (tg (tg (β 43) 0) 0)=z:=⟨_,rfl⟩
  obtain ⟨B10_33,hu_B10_33⟩:∃ z,pb (β 10)=z:=⟨_,rfl⟩
  simp only [exq 3 ((dTn (hD 10 lq))),hu_pg43_33,hu_B10_33] at hst33
  simp only [ed 43 ((dTn (hD 5 lq))),ed 37 ((dTn (hD 6 lq))),ed 44 ((dTn (hD 7 lq))),ed 10 ((dTn (hD 9 lq)).1),hu_pg43_33,hu_B10_33] at hfr
  clear hD hu_pg43_33 hu_B10_33; subst hfr; clear σ β X
  refine then_normal (wp_seq (sqr ?_))
  refine sqv (.func (.func 51) #[] #[vp B9_31]) hst33 (by
    exact sv0 rfl rfl rfl rfl rfl (fun _ _ _ h=>h) fun ρ β W X cx=>by
     have fF9:ρ (.tmp 9)=vp B9_31:=(cx.ou 9)
     simp [go_sem,Instr.makeFunc,fF9]) fun W34 hst34=>?_
  refine sqp [.m 12 46] ?_
  refine then_normal (wp_seq (wp_block (wp_seq (sqr (sqp [.k 48 (.bool false), .k 49 (.bool true), .k 47 (.bool true)] ?_)))))
  refine then_normal (wct rfl (wp_seq (sqr (sqp [.k 6 (.slice none 0 0), .k 7 (.bool false), .k 8 (vi 22)] ?_))))
  refine then_normal (wp_ret (blk_ret (then_ret ?_)))
  refine bpr (.tuple #[.slice none 0 0, .bool false,vi 22]) (results_3 Tryz.results21 rpt rpt rpt) ?_
  rw [st_none hnd]
  have hn42:=nilrowN hst34 67 3
  simp only [List.cons_append,List.nil_append] at hn42
  have hup_:=hn42.upd
  have hpk_:=hn42.pick [0,3] (by decide) rfl
  subst hln
  exact ⟨_, _,rfl,pk_old hpk_ hfp hbg hlt hlc (hL _ hup_) (fun ad e _=>by rw [← Option.some.inj e]; exact hla)⟩
 ·have hN0:=nd_ok hok hnd
  have hN:NdQ nd:=⟨hN0.lv,fun e he=>Nat.le_trans (hN0.es e he) (by decide)⟩
  have hN1:=hN0.len
  have hN2:=hN0.rt
  have hN3:=hN0.hi
  have hN4:=hN0.lv
  have hN5:=hN0.fr
  have hN7:=hN0.es
  have hn8:=h8 nd hnd
  refine sqr (sqp [.m 38 1, .m 39 0, .k 40 (vp b), .k 41 (.pointer (some ⟨b,1,none⟩))] ?_)
  refine sqld 0 hst32 ?_
  refine sqk2 (fun EA43_48 ec43_48=> .tuple #[.agg #[vi pos,vi nd.lv,vi nd.right, .string nd.high, .bool nd.dead, .slice EA43_48 nd.es.length ec43_48,vi ((nd.free:Int))], .bool true]) (fun EA43_48 ec43_48=>eO 89 3 (.slice EA43_48 nd.es.length ec43_48) nd.es.length (nd.es.flatMap enC)) hst32 (fun cx=>⟨_,(kd_yes hnd (kat_any _ _ ps pos _ (hS _ cx.upd) hok hoc)).mono (by rintro e W1 ⟨EA4,ec4,rfl,hs4⟩; exact ⟨_, _,rfl,hs4⟩),(map2 (cx.ou 38) (cx.ou 42))⟩) fun EA43_48 ec43_48 W48 hst48=>?_
  refine sqp [.m 37 43, .k 44 (.agg #[vi pos,vi nd.lv,vi nd.right, .string nd.high, .bool nd.dead, .slice EA43_48 nd.es.length ec43_48,vi ((nd.free:Int))]), .k 45 (.bool true)] ?_
  refine sqal #[vi 0,vi 0,vi 0, .string ByteArray.empty, .bool false, .slice none 0 0,vi 0] hst48 fun B10_52 W52 hst52=>?_
  refine sqst (n:=7) 3 #[vi pos,vi nd.lv,vi nd.right, .string nd.high, .bool nd.dead, .slice EA43_48 nd.es.length ec43_48,vi ((nd.free:Int))] hst52 fun W53 hst53=>?_
  refine sqp [.k 11 (.bool true)] ?_
  refine then_normal (wp_seq (sqr ?_))
  refine sqv (.func (.func 51) #[] #[vp B9_31]) hst53 (by
    exact sv0 rfl rfl rfl rfl rfl (fun _ _ _ h=>h) fun ρ β W X cx=>by
     have fF9:ρ (.tmp 9)=vp B9_31:=(cx.ou 9)
     simp [go_sem,Instr.makeFunc,fF9]) fun W55 hst55=>?_
  refine sqp [.m 12 46] ?_
  refine then_normal (wp_seq (wp_block (wp_seq (sqr (sqp [.k 48 (.bool true), .k 49 (.bool false), .k 47 (.bool false)] ?_)))))
  refine then_normal (wcf rfl (wp_seq (sqr ?_)))
  refine sqlb 3 7 hst55 ?_
  refine sqp [.k 52 (vp B9_31), .k 53 (vp B9_31)] ?_
  refine sqld 1 hst55 ?_
  refine sqk (.bool (sndB nd.dead nd.high te)) hst55 (fun cx=>⟨_,ksends_any pos nd.lv nd.right (nd.free:Int) nd.high nd.dead _ _ _ te _ (by omega) (by omega),(map2 (cx.ou 51) (cx.ou 54))⟩) fun W64 hst64=>?_
  refine sqp [.m 50 55] ?_
  refine then_normal (wbs (fun hs66=>?_) fun hs66=>?_)
  ·refine wp_seq (wp_seq (sqr (sqp [.k 56 (.pointer (some ⟨B10_52,2,none⟩))] ?_)))
   refine sqld 3 hst64 ?_
   refine sqp [.k 58 (.bool (decide (nd.right < 0)))] ?_
   refine then_normal (wds (fun hs70 hs70p=>?_) fun hs70 hs70p=>?_)
   ·refine wp_seq (sqr (sqp [.k 6 (.slice none 0 0), .k 7 (.bool false), .k 8 (vi 11)] ?_))
    refine then_normal (wp_ret (then_ret (blk_ret (then_ret ?_))))
    refine bpr (.tuple #[.slice none 0 0, .bool false,vi 11]) (results_3 Tryz.results21 rpt rpt rpt) ?_
    rw [st_lost hnd hs66 (by omega)]
    have hn74:=nilrowN hst64 67 3
    simp only [List.cons_append,List.nil_append] at hn74
    have hup_:=hn74.upd
    have hpk_:=hn74.pick [0,4] (by decide) rfl
    subst hln
    exact ⟨_, _,rfl,pk_old hpk_ hfp hbg hlt hlc (hL _ hup_) (fun ad e _=>by rw [← Option.some.inj e]; exact hla)⟩
   refine wp_skip (then_normal (wp_seq (sqr (sqp [.m 59 0, .k 60 (.pointer (some ⟨B10_52,2,none⟩))] ?_))))
   refine sqld 3 hst64 ?_
   refine sqp [.k 62 (vp b), .k 63 (.pointer (some ⟨b,1,none⟩))] ?_
   refine sqst (n:=1) 0 #[vi root,vi nd.right,vi leaf, .slice ((some la)) ln lc,vi 0,vi 0, .bool false] hst64 fun W80 hst80=>?_
   refine then_normal (wp_seq (sqr (sqp [.k 6 (.slice none 0 0), .k 7 (.bool false), .k 8 (vi 0)] ?_)))
   refine then_normal (wp_ret (blk_ret (then_ret ?_)))
   refine bpr (.tuple #[.slice none 0 0, .bool false,vi 0]) (results_3 Tryz.results21 rpt rpt rpt) ?_
   rw [st_right hnd hs66 (by omega)]
   have hn84:=nilrowN hst80 67 3
   simp only [List.cons_append,List.nil_append] at hn84
   have hup_:=hn84.upd
   have hpk_:=hn84.pick [0,4] (by decide) rfl
   subst hln
   exact ⟨_, _,rfl,pk_old hpk_ hfp hbg hlt hlc (hL _ hup_) (fun ad e _=>by rw [← Option.some.inj e]; exact hla)⟩
  refine wp_seq (sqr (sqp [.k 65 (.pointer (some ⟨B10_52,1,none⟩))] ?_))
  refine sqld 3 hst64 ?_
  refine sqp [.k 67 (.pointer (some ⟨B9_31,3,none⟩))] ?_
  refine sqld 1 hst64 ?_
  refine sqp [.k 69 (.bool (decide (tl < nd.lv))), .m 64 69] ?_
  refine then_normal (wds (fun hs91 hs91p=>?_) fun hs91 hs91p=>?_)
  ·refine wp_seq (sqr (sqp [.m 70 0] ?_))
   refine sqlb 3 7 hst64 ?_
   refine sqp [.k 72 (vp B9_31), .k 73 (vp B9_31)] ?_
   refine sqld 1 hst64 ?_
   refine sqk (vi (downF te nd.es (-1))) hst64 (fun cx=>⟨_,kdown_any _ _ _ _ _ _ _ _ _ _ nd.es _ (At.of_ownN (cx.ri 2 rfl)) rfl hN.es6 (by omega) (by omega),(map2 (cx.ou 71) (cx.ou 74))⟩) fun W97 hst97=>?_
   refine sqp [.k 76 (vp b), .k 77 (.pointer (some ⟨b,1,none⟩))] ?_
   refine sqst (n:=1) 0 #[vi root,vi (downF te nd.es (-1)),vi leaf, .slice ((some la)) ln lc,vi 0,vi 0, .bool false] hst97 fun W100 hst100=>?_
   refine then_normal (wp_seq (sqr (sqp [.k 6 (.slice none 0 0), .k 7 (.bool false), .k 8 (vi 0)] ?_)))
   refine then_normal (wp_ret (blk_ret (then_ret ?_)))
   refine bpr (.tuple #[.slice none 0 0, .bool false,vi 0]) (results_3 Tryz.results21 rpt rpt rpt) ?_
   rw [st_down hnd hs66 (by omega)]
   have hn104:=nilrowN hst100 67 3
   simp only [List.cons_append,List.nil_append] at hn104
   have hup_:=hn104.upd
   have hpk_:=hn104.pick [0,4] (by decide) rfl
   subst hln
   exact ⟨_, _,rfl,pk_old hpk_ hfp hbg hlt hlc (hL _ hup_) (fun ad e _=>by rw [← Option.some.inj e]; exact hla)⟩
  refine wp_seq (sqr (sqp [.k 79 (.pointer (some ⟨B10_52,1,none⟩))] ?_))
  refine sqld 3 hst64 ?_
  refine sqp [.k 81 (.pointer (some ⟨B9_31,3,none⟩))] ?_
  refine sqld 1 hst64 ?_
  refine sqp [.k 83 (.bool (decide (nd.lv < tl))), .m 78 83] ?_
  refine then_normal (wds (fun hs111 hs111p=>?_) fun hs111 hs111p=>?_)
  ·refine wp_seq (sqr (sqp [.k 6 (.slice none 0 0), .k 7 (.bool false), .k 8 (vi 11)] ?_))
   refine then_normal (wp_ret (blk_ret (then_ret ?_)))
   refine bpr (.tuple #[.slice none 0 0, .bool false,vi 11]) (results_3 Tryz.results21 rpt rpt rpt) ?_
   rw [st_form hnd hs66 (by omega) (by omega)]
   have hn115:=nilrowN hst64 67 3
   simp only [List.cons_append,List.nil_append] at hn115
   have hup_:=hn115.upd
   have hpk_:=hn115.pick [0,4] (by decide) rfl
   subst hln
   exact ⟨_, _,rfl,pk_old hpk_ hfp hbg hlt hlc (hL _ hup_) (fun ad e _=>by rw [← Option.some.inj e]; exact hla)⟩
  refine wp_seq (sqr (sqp [.k 85 (.pointer (some ⟨B10_52,5,none⟩))] ?_))
  refine sqld 3 hst64 ?_
  have hd120:(decide ((nd.es.length:Int) < 8))=true:=(decide_eq_true (by omega))
  refine sqp [.k 87 (vi ((nd.es.length:Int))), .e 88 (.bool (decide ((nd.es.length:Int) < 8))) (.bool true) (congrArg Value.bool hd120), .k 89 (.bool true)] ?_
  refine sqgn 89 [90,91,92,93] rfl rfl ?_
  refine sqp [.k 94 (.bool true), .k 84 (.bool true)] ?_
  refine then_normal (wct rfl (wp_seq ?_))
  rcases hq:hasE nd.es te with _ | _
  ·refine wp_region_Y [0,0,0,7,15,31,63] [[],[3],[1],[0,2]] [[],[],[],[4,5]] [[],[],[],[0]] [.k 95 (vp b), .c 96 (.agg #[vi pos,vi nd.lv,vi nd.right, .string nd.high, .bool nd.dead, .slice EA43_48 nd.es.length ec43_48,vi ((nd.free:Int))]), .c 97 (.agg #[.string te,vi 0,vi tk,vi tl]), .a 98, .a 6, .k 7 (.bool false), .k 8 (vi 0)] (fun ix σ β X=>match ix with | 0=>True | 1=>True | 2=>True | 3=>σ 98= .slice (sA (β 98)) 1 (sC (β 98))∧X 4=eB b 123 #[vi root,vi root,vi ((if tl=0 then pos else leaf)), .slice ((if lc=1 then some la else (some la).map (·.add (1*4)))) ((ln - 1)) ((lc - 1)),vi 0,vi 0, .bool false]∧X 5=eO 67 3 (.slice (sA (β 98)) 1 (sC (β 98))) 1 ([(pos,(nd.free:Int),itB nd.lv tk te)].flatMap edC) | 4=>σ 6= .slice (sA (β 98)) 1 (sC (β 98)) | _=>True) [1,2,3,4,5] [1,2,3,4] [(6,4,3,9),(86,0,4,90)] hst64 ?_ ?_ ?_
   ·exact fun ix _ _ _ _ _ _ hs hb hx h=>match ix,h with
    | 3,h=>by dsimp only; rw [← hs 98 rfl,← hb 98 rfl,← hx 4 rfl,← hx 5 rfl]; exact h
    | 4,h=>by dsimp only; rw [← hs 6 rfl,← hb 98 rfl]; exact h
    | 0, _ | 1, _ | 2, _ | _+5, _=>trivial
   ·refine ⟨?_,?_,?_,?_,trivial⟩
    ·exact xs4 rfl id fun cx=>run_loadB (n:=7) rfl (by kernel_rfl) (by kernel_rfl) (cx.ou 10) (cx.bi 3 rfl) (nle rfl) rfl
    ·exact xs4 rfl id fun cx=>run_loadB (n:=4) rfl (by kernel_rfl) (by kernel_rfl) (cx.ou 9) (cx.bi 1 rfl) (nle rfl) rfl
    ·refine svA fun ρ β W X cx=>?_
     refine DoesU.call (run_callF (args:=#[vp b, .agg #[vi pos,vi nd.lv,vi nd.right, .string nd.high, .bool nd.dead, .slice EA43_48 nd.es.length ec43_48,vi ((nd.free:Int))], .agg #[.string te,vi 0,vi tk,vi tl]]) rfl cx.sees rfl (by kernel_rfl) (map3 (cx.an 0) (cx.an 1) (cx.an 2))) ?_
     refine (kput_any _ _ _ _ _ _ _ _ _ _ nd pos _ _ te 0 tk tl false _ (cx.bi 0 rfl) (CtxV.keepAt cx (cx.init 2 _ rfl) (cx.init 0 _ rfl) rfl rfl (by decide)) (by omega) (by omega) (by omega) (by omega) hq).mono ?_
     rintro e W1 ⟨A4,c4,rfl,hs4⟩
     refine ⟨_,rfl,post_obj (E:=eB b 123 #[vi root,vi pos,vi leaf, .slice ((some la)) ln lc,vi 0,vi 0, .bool false]) [eB b 123 #[vi root,vi root,vi ((if tl=0 then pos else leaf)), .slice ((if lc=1 then some la else (some la).map (·.add (1*4)))) ((ln - 1)) ((lc - 1)),vi 0,vi 0, .bool false],eO 67 3 (.slice A4 1 c4) 1 ([(pos,(nd.free:Int),itB nd.lv tk te)].flatMap edC)] (cx.init 0 _ rfl) rfl rfl hs4 (fun σ β' X' hs hb hv hN=>?_)⟩
     have hv1:=(hv 98 rfl).1; have hv2:=(hv 98 rfl).2
     exact ⟨hv1.trans (by rw [hv2]; rfl),(List.cons.inj hN).1,(by rw [hv2]; exact (List.cons.inj (List.cons.inj hN).2).1)⟩
    ·exact sv rfl rfl rfl rfl rfl _ (fun _ _ _ h=>h) (fun β β' h=>by rw [h 98 (by decide)]) fun ρ β W X cx=>run_assign' rfl (dTn (cx.an 3)).1
   intro σ β X W124 hD hst124 fr hfr
   obtain ⟨A98_124,hu_A98_124⟩:∃ z,sA (β 98)=z:=⟨_,rfl⟩
   obtain ⟨c98_124,hu_c98_124⟩:∃ z,sC (β 98)=z:=⟨_,rfl⟩
   simp only [exq 4 ((dTn (hD 3 lq)).2.1),exq 5 ((dTn (hD 3 lq)).2.2),hu_A98_124,hu_c98_124] at hst124
   simp only [ed 98 ((dTn (hD 3 lq)).1),ed 6 ((dTn (hD 4 lq))),hu_A98_124,hu_c98_124] at hfr
   clear hD hu_A98_124 hu_c98_124; subst hfr; clear σ β X
   refine then_normal (wp_ret (blk_ret (then_ret ?_)))
   refine bpr (.tuple #[.slice A98_124 1 c98_124, .bool false,vi 0]) (results_3 Tryz.results21 rpt rpt rpt) ?_
   rw [st_put hnd hs66 (by omega) (by omega) hq hn8]
   have hup_:=hst124.upd
   have hpk_:=hst124.pick [3,4] (by decide) rfl
   have hl1_:ln - 1=lf.length:=by omega
   have hlv_:nd.lv=tl:=by omega
   rw [hl1_,hlv_] at hpk_
   exact ⟨_, _,rfl,pk_old hpk_ hfp hbg hlt (by show lf.length≤lc - 1; omega) (At.dropF (ts:=(te,tl,tk)::lf) tkK_len (hL _ hup_) 1 lc hlc) (fun ad e _=>by rw [tail_blk4 e]; exact hla)⟩
  ·refine wp_region_Y [0,0,0,7,15,31,63] [[],[3],[1],[0,2]] [[],[],[],[4,5]] [[],[],[],[0]] [.k 95 (vp b), .c 96 (.agg #[vi pos,vi nd.lv,vi nd.right, .string nd.high, .bool nd.dead, .slice EA43_48 nd.es.length ec43_48,vi ((nd.free:Int))]), .c 97 (.agg #[.string te,vi 0,vi tk,vi tl]), .a 98, .a 6, .k 7 (.bool false), .k 8 (vi 0)] (fun ix σ β X=>match ix with | 0=>True | 1=>True | 2=>True | 3=>σ 98= .slice (sA (β 98)) 0 (sC (β 98))∧X 4=eB b 123 #[vi root,vi root,vi ((if tl=0 then pos else leaf)), .slice ((if lc=1 then some la else (some la).map (·.add (1*4)))) ((ln - 1)) ((lc - 1)),vi 0,vi 0, .bool false]∧X 5=eO 67 3 (.slice (sA (β 98)) 0 (sC (β 98))) 0 (([]:List EdT).flatMap edC) | 4=>σ 6= .slice (sA (β 98)) 0 (sC (β 98)) | _=>True) [1,2,3,4,5] [1,2,3,4] [(6,4,3,9),(86,0,4,90)] hst64 ?_ ?_ ?_
   ·exact fun ix _ _ _ _ _ _ hs hb hx h=>match ix,h with
    | 3,h=>by dsimp only; rw [← hs 98 rfl,← hb 98 rfl,← hx 4 rfl,← hx 5 rfl]; exact h
    | 4,h=>by dsimp only; rw [← hs 6 rfl,← hb 98 rfl]; exact h
    | 0, _ | 1, _ | 2, _ | _+5, _=>trivial
   ·refine ⟨?_,?_,?_,?_,trivial⟩
    ·exact xs4 rfl id fun cx=>run_loadB (n:=7) rfl (by kernel_rfl) (by kernel_rfl) (cx.ou 10) (cx.bi 3 rfl) (nle rfl) rfl
    ·exact xs4 rfl id fun cx=>run_loadB (n:=4) rfl (by kernel_rfl) (by kernel_rfl) (cx.ou 9) (cx.bi 1 rfl) (nle rfl) rfl
    ·refine svA fun ρ β W X cx=>?_
     refine DoesU.call (run_callF (args:=#[vp b, .agg #[vi pos,vi nd.lv,vi nd.right, .string nd.high, .bool nd.dead, .slice EA43_48 nd.es.length ec43_48,vi ((nd.free:Int))], .agg #[.string te,vi 0,vi tk,vi tl]]) rfl cx.sees rfl (by kernel_rfl) (map3 (cx.an 0) (cx.an 1) (cx.an 2))) ?_
     refine (kput_any _ _ _ _ _ _ _ _ _ _ nd pos _ _ te 0 tk tl true _ (cx.bi 0 rfl) (CtxV.keepAt cx (cx.init 2 _ rfl) (cx.init 0 _ rfl) rfl rfl (by decide)) (by omega) (by omega) (by omega) (by omega) hq).mono ?_
     rintro e W1 ⟨A4,c4,rfl,hs4⟩
     refine ⟨_,rfl,post_obj (E:=eB b 123 #[vi root,vi pos,vi leaf, .slice ((some la)) ln lc,vi 0,vi 0, .bool false]) [eB b 123 #[vi root,vi root,vi ((if tl=0 then pos else leaf)), .slice ((if lc=1 then some la else (some la).map (·.add (1*4)))) ((ln - 1)) ((lc - 1)),vi 0,vi 0, .bool false],eO 67 3 (.slice A4 0 c4) 0 (([]:List EdT).flatMap edC)] (cx.init 0 _ rfl) rfl rfl hs4 (fun σ β' X' hs hb hv hN=>?_)⟩
     have hv1:=(hv 98 rfl).1; have hv2:=(hv 98 rfl).2
     exact ⟨hv1.trans (by rw [hv2]; rfl),(List.cons.inj hN).1,(by rw [hv2]; exact (List.cons.inj (List.cons.inj hN).2).1)⟩
    ·exact sv rfl rfl rfl rfl rfl _ (fun _ _ _ h=>h) (fun β β' h=>by rw [h 98 (by decide)]) fun ρ β W X cx=>run_assign' rfl (dTn (cx.an 3)).1
   intro σ β X W125 hD hst125 fr hfr
   obtain ⟨A98_125,hu_A98_125⟩:∃ z,sA (β 98)=z:=⟨_,rfl⟩
   obtain ⟨c98_125,hu_c98_125⟩:∃ z,sC (β 98)=z:=⟨_,rfl⟩
   simp only [exq 4 ((dTn (hD 3 lq)).2.1),exq 5 ((dTn (hD 3 lq)).2.2),hu_A98_125,hu_c98_125] at hst125
   simp only [ed 98 ((dTn (hD 3 lq)).1),ed 6 ((dTn (hD 4 lq))),hu_A98_125,hu_c98_125] at hfr
   clear hD hu_A98_125 hu_c98_125; subst hfr; clear σ β X
   refine then_normal (wp_ret (blk_ret (then_ret ?_)))
   refine bpr (.tuple #[.slice A98_125 0 c98_125, .bool false,vi 0]) (results_3 Tryz.results21 rpt rpt rpt) ?_
   rw [st_there hnd hs66 (by omega) (by omega) hq]
   have hup_:=hst125.upd
   have hpk_:=hst125.pick [3,4] (by decide) rfl
   have hl1_:ln - 1=lf.length:=by omega
   have hlv_:nd.lv=tl:=by omega
   rw [hl1_] at hpk_
   exact ⟨_, _,rfl,pk_old hpk_ hfp hbg hlt (by show lf.length≤lc - 1; omega) (At.dropF (ts:=(te,tl,tk)::lf) tkK_len (hL _ hup_) 1 lc hlc) (fun ad e _=>by rw [tail_blk4 e]; exact hla)⟩
end
section
open Go.RowKit
/-- inside a round -/
abbrev Rnd (l:Nat):Fence:=Fence.wide.inRound l
def noDefer (ops:Array Oper):Bool:=ops.all fun o=>match o.op with | .defer _=>false | _=>true
theorem noDefer_at {ops:Array Oper} (h:noDefer ops=true) {i:Nat} {o:Oper} (ho:ops[i]? =some o):∀ c,o.op≠ .defer c:=by
 intro c hc
 obtain ⟨hi,he⟩:=Array.getElem?_eq_some_iff.1 ho
 have h2:=(Array.all_eq_true.1 h) i hi
 rw [he,hc] at h2
 cases h2
theorem opIn {P:Program} {l n:Nat} {o:Oper} {a:Act} {w:World} {K:Act→World→Prop} {Q:Exit→Act→World→Prop} (hd:∀ c,o.op≠ .defer c) (h:o.wp P a w K Q):o.wpIn (Rnd l) n P a w K Q:=by
 unfold Oper.wp at h
 refine ⟨fun _ _=>trivial,?_⟩
 show o.uponIn (Rnd l) n P a K Q ((o.semAt (some l) a.eval).run P w)
 rw [Oper.semAt_eq (some l) a.eval o hd]
 generalize (execOp a.eval o).run P w=r at h ⊢
 cases r with
 | ok x w'=>
   cases x<;>simp only [Oper.upon,Oper.uponIn] at h ⊢<;>first
    | exact h
    | exact ⟨fun hh=>by simp [Rnd,Fence.wide] at hh,CallsIn.inRound l (callsIn_wide.2 h)⟩
    | exact ⟨fun hh=>by simp [Rnd,Fence.wide] at hh,fun c cs _=>let ⟨v,w',r,s⟩:=h c cs; ⟨v,w',r,stepsIn_wide.2 s⟩⟩
 | halt x w'=>cases x<;>simp only [Oper.upon,Oper.uponIn] at h ⊢<;>exact h
section
variable {P:Program} {l n:Nat} {ops:Array Oper} {Q:Exit→Act→World→Prop}
theorem wpOpIn_of (hnd:noDefer ops=true) (hLo:¬ LetsOut Q) {i:Nat} {K:Act→World→Prop} {a:Act} {w:World} (h:wpOp P ops Q i K a w):wpOpIn (Rnd l) n P ops Q i K a w:=by
 unfold wpOp at h
 unfold wpOpIn
 cases ho:ops[i]? with
 | none=>simp only [ho] at h ⊢; exact h
 | some o=>
   simp only [ho] at h ⊢
   split
   ·rename_i hw
    rw [if_pos hw] at h
    exact opIn (noDefer_at hnd ho) (h.resolve_right fun hh=>hLo hh.2)
   ·rename_i hw
    rw [if_neg hw] at h
    exact ⟨fun _ _=>trivial,h⟩
theorem wpAnyIn_of (hnd:noDefer ops=true) (hLo:¬ LetsOut Q):∀ (m:Nat) (listed:Array Bool) (a:Act) (w:World),wpAny P .any ops Q m listed a w→wpAnyIn (Rnd l) n P .any ops Q m listed a w
 | 0,listed,a,w,h=>h
 | m+1,listed,a,w,h=>⟨h.1,fun i hi=>wpOpIn_mono (fun a w hh=>wpAnyIn_of hnd hLo m _ a w hh) (wpOpIn_of hnd hLo (h.2 i hi))⟩
theorem wpOpsIn_of (hnd:noDefer ops=true) (hLo:¬ LetsOut Q):∀ (is:List Nat) (a:Act) (w:World),wpOps P ops Q is a w→wpOpsIn (Rnd l) n P ops Q is a w
 | [],a,w,h=>h
 | i::is,a,w,h=>by
   rw [wpOps_cons] at h
   rw [wpOpsIn_cons]
   exact wpOpIn_mono (fun a w hh=>wpOpsIn_of hnd hLo is a w hh) (wpOpIn_of hnd hLo h)
end
section
variable {P:Program} {ops:Array Oper} {L:List Nat} {w0:World} {bor:List Nat} {X0:List Ent} {us cr kl:List (List Nat)} {Q:Exit→Act→World→Prop} {l n:Nat}
/-- THE RULE, inside a round -/
theorem wpIn_region_W {id:Nat} {dr:Bool} {w:World} {t0:Array Value} {d0:List Deferred} (hnd:noDefer ops=true) (hm:P.follows .mixedOrders=true) (L:List Nat) (us cr kl:List (List Nat)) (D:Nat→(Tmp→Value)→(Tmp→Value)→(Nat→Ent)→Prop) (fin:List Nat)
  (hL:okAnc ops L=true) (hd:dstOk ops t0.size=true) (hflow:flowV ops.size X0.length L us cr kl=true) (hfin:finV ops.size X0.length cr kl fin=true)
  (hloc:LocalV ops X0.length L cr D) (hst:St w0 bor X0 w) (hstep:AllTo (StepV P ops L ⟨t0,d0⟩ w0 bor X0 us cr kl D) ops.size)
  (hrest:∀ (σ β:Tmp→Value) (X:Nat→Ent) (w':World),(∀ i,i < ops.size→D i σ β X)→(∀ q e,X0[q]? =some e→X q=e)→St w0 bor (fin.map X) w'→
   ∀ fr,fr=putAll (dstsU ops) ((dstsU ops).map σ) t0→Q .normal ⟨fr,d0⟩ w'):(Code.region id ops dr).wpIn (Rnd l) n P Q ⟨t0,d0⟩ w:=by
 have hs:∀ i,i < ops.size→StepV P ops L ⟨t0,d0⟩ w0 bor X0 us cr kl D i:=fun i hi=>hstep.get i hi
 obtain ⟨Q',hQ'⟩:∃ Q':Exit→Act→World→Prop,Q'=fun e a w=>e= .normal∧Q .normal a w:=⟨_,rfl⟩
 have hr:∀ (a:Act) (w:World) (listed:Array Bool),(∀ i,i < ops.size→listed.getD i false=true)→VInv ops L ⟨t0,d0⟩ w0 bor X0 cr kl D listed a w→Q' .normal a w:=fun a w listed hall inv=>by
  rw [hQ']; exact ⟨rfl,vinv_end (a0:=⟨t0,d0⟩) hd hfin (fun σ β X w' h1 h2 h3=>hrest σ β X w' h1 h2 h3 _ rfl) hall inv⟩
 have hLo:¬ LetsOut Q':=by rw [hQ']; rintro ⟨a,w,h, _⟩; cases h
 refine wpIn_mono (Q:=Q') ?_ fun e a w h=>by rw [hQ'] at h; obtain ⟨rfl,h⟩:=h; exact h
 cases dr with
 | true=>
   refine wpIn_region_any hm (wpAnyIn_of hnd hLo _ _ _ _ (wpAny_V hL hd hflow hloc hs hr ops.size (Array.replicate ops.size false) ⟨t0,d0⟩ w.drew ?_ (vinv_start hst.drew)))
   rw [List.countP_eq_length.2]
   ·simp
   ·intro i _
    rw [getD_replicate_false]
    rfl
 | false=>
   refine wpIn_region ?_
   rw [List.range_eq_range']
   exact wpOpsIn_of hnd hLo _ _ _ (wpOps_V hL hd hflow hloc hs hr ops.size 0 (Array.replicate ops.size false) ⟨t0,d0⟩ w (by omega) (fun j=>by rw [getD_replicate_false]; simp) (vinv_start hst))
end
theorem wpIn_region_T {l n:Nat} {P:Program} {ops:Array Oper} {Q:Exit→Act→World→Prop} {w0:World} {bor:List Nat} {X0:List Ent} {id:Nat} {dr:Bool} {w:World} {t0:List Value} {d0:List Deferred} (L:List Nat) (us cr kl:List (List Nat)) (tb:List TE)
  (A:Nat→(Tmp→Value)→(Tmp→Value)→(Nat→Ent)→Prop) (fin sp:List Nat) (rs:List (Nat×Nat×Nat×Nat)) (hst:St w0 bor X0 w) (hloc:LocalV ops X0.length L cr A)
  (hstep:inAll (StepV P ops L ⟨t0.toArray,d0⟩ w0 bor X0 us cr kl (fun ix σ β X=>dT tb ix σ (A ix σ β X))) sp)
  (hrest:∀ (σ β:Tmp→Value) (X:Nat→Ent) (w':World),(∀ i,i < ops.size→dT tb i σ (A i σ β X))→(∀ q e,X0[q]? =some e→X q=e)→St w0 bor (fin.map X) w'→∀ fr,fr=mgT tb σ rs t0→Q .normal ⟨fr.toArray,d0⟩ w')
  (ht:goTs P ops L t0.toArray tb 0 tb=tb.map wantT:=by kernel_rfl) (hl:lineOk ops L cr kl sp 0 tb=true:=by kernel_rfl) (hn:tb.length=ops.size:=by kernel_rfl)
  (hfr:∀ σ,putAll (dstsU ops) ((idxU ops).map (valT ops tb σ)) t0.toArray=(mgT tb σ rs t0).toArray:=by intro σ; kernel_rfl)
  (hm:P.follows .mixedOrders=true:=by kernel_rfl) (hnd:noDefer ops=true:=by kernel_rfl) (hL:okAnc ops L=true:=by kernel_rfl) (hd:dstOk ops t0.toArray.size=true:=by kernel_rfl) (hflow:flowV ops.size X0.length L us cr kl=true:=by kernel_rfl) (hfin:finV ops.size X0.length cr kl fin=true:=by kernel_rfl):
  (Code.region id ops dr).wpIn (Rnd l) n P Q ⟨t0.toArray,d0⟩ w:=by
 refine wpIn_region_W hnd hm L us cr kl (fun ix σ β X=>dT tb ix σ (A ix σ β X)) fin hL hd hflow hfin (fun i σ σ' β β' X X' h1 h2 h3 h=>?_) hst (AllTo.of fun i hi=>?_) fun σ β X w' hD hX hst' fr hfr'=>?_
 ·dsimp only at h ⊢
  rw [dT_iff] at h ⊢
  cases hdd:(tb.getD i .n).dst with
  | some d=>
    rw [hdd] at h
    dsimp only at h ⊢
    have hi:i < tb.length:=getD_lt (by rw [hdd]; simp)
    have:=(tOk_dst ht hi hdd).1
    rw [← h1 d (by unfold seesV; simp [this])]
    exact h
  | none=>
    rw [hdd] at h
    exact hloc i σ σ' β β' X X' h1 h2 h3 h
 ·have hi':i < tb.length:=by rw [hn]; exact hi
  have h:=lineOk_get (i:=i) hl hi'
  rw [Nat.zero_add] at h
  rcases h with ⟨_,h⟩ | ⟨h, _⟩
  ·exact inAll_get hstep i h
  ·exact pure_step hd ht hl hi' h
 ·subst hfr'
  have e:(dstsU ops).map σ=(idxU ops).map (valT ops tb σ):=by
   unfold dstsU
   rw [List.map_map]
   refine List.map_congr_left fun i hi=>?_
   have him:=List.mem_filter.1 hi
   have hlt:i < ops.size:=List.mem_range.1 him.1
   have h:=hD i hlt
   rw [dT_iff] at h
   unfold valT
   cases hdd:(tb.getD i .n).dst with
   | none=>rfl
   | some d=>
     rw [hdd] at h
     dsimp only at h ⊢
     have:=(tOk_dst ht (i:=i) (by rw [hn]; exact hlt) hdd).1
     simp only [Function.comp,this,Option.getD_some]
     exact h
  rw [e,hfr σ]
  exact hrest σ β X w' hD hX hst' _ rfl
/-- a region that only computes -/
theorem wpIn_region_P {l n:Nat} {P:Program} {ops:Array Oper} {Q:Exit→Act→World→Prop} {w0:World} {bor:List Nat} {X0:List Ent} {id:Nat} {dr:Bool} {w:World} {t0 t1:List Value} {d0:List Deferred} (L:List Nat) (tb:List TE)
  (rs:List (Nat×Nat×Nat×Nat)) (hst:St w0 bor X0 w) (hrest:∀ w',St w0 bor X0 w'→Q .normal ⟨t1.toArray,d0⟩ w')
  (h1:mgT tb (fun _=>undef) rs t0=t1:=by dsimp only [mgT,vals,List.take,List.drop,List.cons_append,List.nil_append])
  (ht:goTs P ops L t0.toArray tb 0 tb=tb.map wantT:=by kernel_rfl) (hl:lineOk ops L [] [] [] 0 tb=true:=by kernel_rfl) (hn:tb.length=ops.size:=by kernel_rfl)
  (hfr:∀ σ,putAll (dstsU ops) ((idxU ops).map (valT ops tb σ)) t0.toArray=(mgT tb (fun _=>undef) rs t0).toArray:=by intro σ; kernel_rfl)
  (hm:P.follows .mixedOrders=true:=by kernel_rfl) (hnd:noDefer ops=true:=by kernel_rfl) (hL:okAnc ops L=true:=by kernel_rfl) (hd:dstOk ops t0.toArray.size=true:=by kernel_rfl):
  (Code.region id ops dr).wpIn (Rnd l) n P Q ⟨t0.toArray,d0⟩ w:=by
 have hat:∀ i,atV ([]:List (List Nat)) i=[]:=fun i=>by simp [atV]
 refine wpIn_region_W hnd hm L [] [] [] (fun ix σ β X=>dT tb ix σ True) (List.range X0.length) hL hd ?_ ?_ (fun i σ σ' β β' X X' h1 h2 h3 h=>?_) hst (AllTo.of fun i hi=>?_) fun σ β X w' hD hX hst' fr hfr'=>?_
 ·unfold flowV; simp [hat]
 ·unfold finV; simp [hat,List.nodup_range]
 ·dsimp only at h ⊢
  rw [dT_iff] at h ⊢
  cases hdd:(tb.getD i .n).dst with
  | some d=>
    rw [hdd] at h
    dsimp only at h ⊢
    have hi:i < tb.length:=getD_lt (by rw [hdd]; simp)
    have:=(tOk_dst ht hi hdd).1
    rw [← h1 d (by unfold seesV; simp [this])]
    exact h
  | none=>trivial
 ·have hi':i < tb.length:=by rw [hn]; exact hi
  have h:=lineOk_get (i:=i) hl hi'
  rw [Nat.zero_add] at h
  rcases h with ⟨_,h⟩ | ⟨h, _⟩
  ·cases h
  ·exact pure_step (A:=fun _ _ _ _=>True) hd ht hl hi' h
 ·subst hfr'
  have e:(dstsU ops).map σ=(idxU ops).map (valT ops tb σ):=by
   unfold dstsU
   rw [List.map_map]
   refine List.map_congr_left fun i hi=>?_
   have him:=List.mem_filter.1 hi
   have hlt:i < ops.size:=List.mem_range.1 him.1
   have h:=hD i hlt
   rw [dT_iff] at h
   unfold valT
   cases hdd:(tb.getD i .n).dst with
   | none=>rfl
   | some d=>
     rw [hdd] at h
     dsimp only at h ⊢
     have:=(tOk_dst ht (i:=i) (by rw [hn]; exact hlt) hdd).1
     simp only [Function.comp,this,Option.getD_some]
     exact h
  rw [e,hfr σ,h1]
  refine hrest w' ?_
  have:(List.range X0.length).map X=X0:=by
   apply List.ext_getElem (by simp)
   intro q h1 h2
   rw [List.getElem_map,List.getElem_range]
   exact hX q _ (List.getElem?_eq_getElem h2)
  rw [this] at hst'
  exact hst'
theorem wpIn_region_Y {l n:Nat} {P:Program} {ops:Array Oper} {Q:Exit→Act→World→Prop} {w0:World} {bor:List Nat} {X0:List Ent} {id:Nat} {dr:Bool} {w:World} {t0:List Value} {t1:(Tmp→Value)→List Value} {E:(Nat→Ent)→List Ent} {d0:List Deferred} (L:List Nat) (us cr kl:List (List Nat)) (tb:List TE)
  (A:Nat→(Tmp→Value)→(Tmp→Value)→(Nat→Ent)→Prop) (fin sp:List Nat) (rs:List (Nat×Nat×Nat×Nat)) (hst:St w0 bor X0 w) (hloc:LocalV ops X0.length L cr A)
  (hstep:inAll (StepV P ops L ⟨t0.toArray,d0⟩ w0 bor X0 us cr kl (fun ix σ β X=>dT tb ix σ (A ix σ β X))) sp)
  (hrest:∀ (σ β:Tmp→Value) (X:Nat→Ent) (w':World),(∀ i,i < ops.size→dT tb i σ (A i σ β X))→St w0 bor (E X) w'→∀ fr,fr=t1 σ→Q .normal ⟨fr.toArray,d0⟩ w')
  (h1:∀ σ,mgT tb σ rs t0=t1 σ:=by intro σ; dsimp only [mgT,vals,List.take,List.drop,List.cons_append,List.nil_append]) (hE:∀ X,finE X0 X fin=E X:=by intro X; dsimp only [finE,entQ])
  (ht:goTs P ops L t0.toArray tb 0 tb=tb.map wantT:=by kernel_rfl) (hl:lineOk ops L cr kl sp 0 tb=true:=by kernel_rfl) (hn:tb.length=ops.size:=by kernel_rfl)
  (hfr:∀ σ,putAll (dstsU ops) ((idxU ops).map (valT ops tb σ)) t0.toArray=(mgT tb σ rs t0).toArray:=by intro σ; kernel_rfl)
  (hm:P.follows .mixedOrders=true:=by kernel_rfl) (hnd:noDefer ops=true:=by kernel_rfl) (hL:okAnc ops L=true:=by kernel_rfl) (hd:dstOk ops t0.toArray.size=true:=by kernel_rfl) (hflow:flowV ops.size X0.length L us cr kl=true:=by kernel_rfl) (hfin:finV ops.size X0.length cr kl fin=true:=by kernel_rfl):
  (Code.region id ops dr).wpIn (Rnd l) n P Q ⟨t0.toArray,d0⟩ w:=
 wpIn_region_T L us cr kl tb A fin sp rs hst hloc hstep (fun σ β X w' hD hX hs fr hf=>hrest σ β X w' hD (by rw [← hE X,finE_eq hX]; exact hs) fr (hf.trans (h1 σ))) ht hl hn hfr hm hnd hL hd hflow hfin
theorem wpIn_region_Z {l n:Nat} {P:Program} {ops:Array Oper} {Q:Exit→Act→World→Prop} {w0:World} {bor:List Nat} {X0 E:List Ent} {id:Nat} {dr:Bool} {w:World} {t0 t1:List Value} {d0:List Deferred} (L:List Nat) (us:List (List Nat)) (tb:List TE)
  (fin sp:List Nat) (rs:List (Nat×Nat×Nat×Nat)) (hst:St w0 bor X0 w)
  (hstep:inAll (StepV P ops L ⟨t0.toArray,d0⟩ w0 bor X0 us [] [] (fun ix σ β X=>dT tb ix σ True)) sp)
  (hrest:∀ (w':World),St w0 bor E w'→Q .normal ⟨t1.toArray,d0⟩ w')
  (h1:mgT tb (fun _=>undef) rs t0=t1:=by dsimp only [mgT,vals,List.take,List.drop,List.cons_append,List.nil_append]) (hE:finE X0 (fun _=>⟨[],fun _=>True⟩) fin=E:=by dsimp only [finE,entQ])
  (hfz:fin.all (fun q=>Nat.blt q X0.length)=true:=by kernel_rfl)
  (ht:goTs P ops L t0.toArray tb 0 tb=tb.map wantT:=by kernel_rfl) (hl:lineOk ops L [] [] sp 0 tb=true:=by kernel_rfl) (hn:tb.length=ops.size:=by kernel_rfl)
  (hfr:∀ σ,putAll (dstsU ops) ((idxU ops).map (valT ops tb σ)) t0.toArray=(mgT tb (fun _=>undef) rs t0).toArray:=by intro σ; kernel_rfl)
  (hm:P.follows .mixedOrders=true:=by kernel_rfl) (hnd:noDefer ops=true:=by kernel_rfl) (hL:okAnc ops L=true:=by kernel_rfl) (hd:dstOk ops t0.toArray.size=true:=by kernel_rfl) (hflow:flowV ops.size X0.length L us [] []=true:=by kernel_rfl) (hfin:finV ops.size X0.length [] [] fin=true:=by kernel_rfl):
  (Code.region id ops dr).wpIn (Rnd l) n P Q ⟨t0.toArray,d0⟩ w:=by
 have hfr2:∀ σ,putAll (dstsU ops) ((idxU ops).map (valT ops tb σ)) t0.toArray=t1.toArray:=fun σ=>by rw [hfr σ,h1]
 refine wpIn_region_W hnd hm L us [] [] (fun ix σ β X=>dT tb ix σ True) fin hL hd hflow hfin (fun i σ σ' β β' X X' h1 h2 h3 h=>?_) hst (AllTo.of fun i hi=>?_) fun σ β X w' hD hX hst' fr hfr'=>?_
 ·dsimp only at h ⊢
  rw [dT_iff] at h ⊢
  cases hdd:(tb.getD i .n).dst with
  | some d=>
    rw [hdd] at h
    dsimp only at h ⊢
    have hi:i < tb.length:=getD_lt (by rw [hdd]; simp)
    have:=(tOk_dst ht hi hdd).1
    rw [← h1 d (by unfold seesV; simp [this])]
    exact h
  | none=>trivial
 ·have hi':i < tb.length:=by rw [hn]; exact hi
  have h:=lineOk_get (i:=i) hl hi'
  rw [Nat.zero_add] at h
  rcases h with ⟨_,h⟩ | ⟨h, _⟩
  ·exact inAll_get hstep i h
  ·exact pure_step (A:=fun _ _ _ _=>True) hd ht hl hi' h
 ·subst hfr'
  have e:(dstsU ops).map σ=(idxU ops).map (valT ops tb σ):=by
   unfold dstsU
   rw [List.map_map]
   refine List.map_congr_left fun i hi=>?_
   have him:=List.mem_filter.1 hi
   have hlt:i < ops.size:=List.mem_range.1 him.1
   have h:=hD i hlt
   rw [dT_iff] at h
   unfold valT
   cases hdd:(tb.getD i .n).dst with
   | none=>rfl
   | some d=>
     rw [hdd] at h
     dsimp only at h ⊢
     have:=(tOk_dst ht (i:=i) (by rw [hn]; exact hlt) hdd).1
     simp only [Function.comp,this,Option.getD_some]
     exact h
  rw [e,hfr2 σ]
  refine hrest w' ?_
  have h2:finE X0 X fin=E:=by rw [← hE]; exact finE_const hfz
  rw [← h2,finE_eq hX]
  exact hst'
abbrev fps (L:List Ent):List Nat:=L.flatMap (·.fp)
theorem fps_mem {L:List Ent} {k:Nat}:k∈fps L↔∃ e∈L,k∈e.fp:=by simp [fps]
theorem St.fps_own {w0 w:World} {bor:List Nat} {L:List Ent} (h:St w0 bor L w) {k:Nat} (hk:k∈fps L):(k∈bor∨w0.heap.size≤k)∧k < w.heap.size:=by
 obtain ⟨e,he,hk⟩:=fps_mem.1 hk
 exact (h.ok e he).own k hk
/-- the block for the rounds' deferred calls -/
def eDfr (D:Nat):Ent:=⟨[D],fun W=>W.heap[D]? =some (.deferred (some []))⟩
theorem eD_loc (D:Nat):(eDfr D).loc:=fun W W' h hb=>(h D (by simp [eDfr])).trans hb
/-- at the function's return the block is shut -/
theorem St.takeD {w0 W:World} {bor:List Nat} {L:List Ent} {D:Nat} (h:St w0 bor (L++[eDfr D]) W):St w0 bor L (W.putObj D (.deferred none)):=by
 have hd:=h.ok (eDfr D) (by simp)
 have hown:=hd.own D (by simp [eDfr])
 have hap:∀ e∈L,D∉e.fp:=fun e he hk=>by
  have:=(List.pairwise_append.1 h.apart).2.2 e he (eDfr D) (by simp)
  exact this D hk (by simp [eDfr])
 have hg:=grownBy_putObj' W D (.deferred none)
 refine ⟨⟨hg.os.trans h.upd.os,hg.tape.trans h.upd.tape,hg.output.trans h.upd.output,Nat.le_trans h.upd.size hg.size,fun k hk hb=>?_⟩,fun e he=>?_,(List.pairwise_append.1 h.apart).1⟩
 ·rw [hg.block k (Nat.lt_of_lt_of_le hk h.upd.size) fun e'=>?_]
  ·exact h.upd.block k hk hb
  ·cases e'
   rcases hown.1 with h1 | h1
   ·exact hb h1
   ·omega
 ·have h2:=h.ok e (by simp [he])
  refine ⟨h2.loc W _ (fun k hk=>hg.block k (h2.own k hk).2 fun e'=>?_) h2.holds,h2.loc,fun k hk=>⟨(h2.own k hk).1,Nat.lt_of_lt_of_le (h2.own k hk).2 hg.size⟩⟩
  cases e'
  exact hap e he hk
theorem bpm_take {P:Program} {n:Nat} {fn:Func} {R:Ending→World→Prop} {t0:Array Value} {w0 w:World} {bor:List Nat} {L:List Ent} {D:Nat} (hst:St w0 bor (L++[eDfr D]) w)
  (h:∀ W,St w0 bor L W→∃ v,(results fn t0).run P W= .ok v W∧R (.returned v) W):bodyPostM Fence.wide n P fn R .ret ⟨t0,[{target:= .collected D,args:=#[]}]⟩ w:=by
 have hK:w.heap[D]? =some (.deferred (some [])):=(hst.ok (eDfr D) (by simp)).holds
 show LeavesInM Fence.wide n P fn t0 R [{target:= .collected D,args:=#[]}] .returning w
 exact ⟨by simp, .inl ⟨_, _,rfl,run_takeDeferred hK,h _ hst.takeD⟩⟩
end
section
open Go.RowKit
/-- the one who ranges, as an entry of the iterator's: his blocks, what he has been given -/
def eJ {α:Type} (J:List Nat→List α→World→Prop) (C:List Nat) (pre:List α):Ent:=⟨C,J C pre⟩
theorem Upd.putObj {S:List Nat} {A B:World} {l:Nat} {o:Obj} (h:Upd S A B) (hl:l∈S∨A.heap.size≤l):Upd S A (B.putObj l o):=by
 have hg:=grownBy_putObj' B l o
 refine ⟨hg.os.trans h.os,hg.tape.trans h.tape,hg.output.trans h.output,Nat.le_trans h.size hg.size,fun k hk hn=>?_⟩
 rw [hg.block k (Nat.lt_of_lt_of_le hk h.size) fun e=>?_]
 ·exact h.block k hk hn
 ·cases e
  rcases hl with h1 | h1
  ·exact hn h1
  ·omega
theorem putObj_size (W:World) (l:Nat) (o:Obj):(W.putObj l o).heap.size=W.heap.size:=by simp
end
section
open Go.RowKit
section
variable {P:Program} {o:Oper} {ρ:Operand→Value} {W:World}
theorem run_callY {c:Call} {x:Operand} {l:Nat} {args:Array Value} (h:o.op= .call c) (hcal:c.callee= .value x) (hx:ρ x= .func (.yield l) #[] #[]) (ha:c.args.map ρ=args) {r:Result Next} (hr:(Instr.yield l args).run P W=r):(execOp ρ o).run P W=r:=by
 subst hr
 unfold execOp; rw [h]
 simp only [resolve,hcal,hx,Deferred.ofValue,ha,Sem.run_bind,Sem.run_pure,Result.andThen_ok,invoke]
 simp
end
theorem wpOpsIn_val {P:Program} {ops:Array Oper} {Q:Exit→Act→World→Prop} {i:Nat} {rest:List Nat} {o:Oper} {t:List Value} {d0:List Deferred} {W:World} {v:Value} {d:Tmp} {t':List Value} (ho:ops[i]? =some o) (hg:o.guard=none) (hd:o.dst=some d) (hr:(execOp (Act.eval ⟨t.toArray,d0⟩) o).run P W= .ok (.value v) W) (ht:t.set d v=t') (h:wpOpsIn Fence.wide 2 P ops Q rest ⟨t'.toArray,d0⟩ W):wpOpsIn Fence.wide 2 P ops Q (i::rest) ⟨t.toArray,d0⟩ W:=by
 unfold wpOpsIn
 simp only [ho]
 rw [if_pos (show Region.wanted o _=true by unfold Region.wanted; rw [hg])]
 refine ⟨fun _ _=>trivial,?_⟩
 show o.uponIn Fence.wide 2 P _ _ Q ((execOp (Act.eval ⟨t.toArray,d0⟩) o).run P W)
 rw [hr,Oper.uponIn_value,hd]
 show wpOpsIn Fence.wide 2 P ops Q rest ⟨t.toArray.setIfInBounds d v,d0⟩ W
 rw [List.setIfInBounds_toArray,ht]
 exact h
theorem wp_region4In {P:Program} {id:Nat} {o0 o1 o2 o3:Oper} {Q:Exit→Act→World→Prop} {a:Act} {W:World} (h:wpOpsIn Fence.wide 2 P #[o0,o1,o2,o3] Q [0,1,2,3] a W):(Code.region id #[o0,o1,o2,o3] false).wp P Q a W:=
 (wpIn_wide (n:=2)).1 (wpIn_region h)
/-- a node as the iterator gives it -/
abbrev YnD:=NoD×Int×Option Addr×Nat
def ynE (x:YnD):Array Value:=#[knV x.2.1 x.1 x.2.2.1 x.2.2.2]
def ynC (x:YnD):List Value:=[.int .i64 x.2.1, .int .i64 x.1.lv, .int .i64 x.1.right, .string x.1.high, .bool x.1.dead, .slice x.2.2.1 x.1.es.length x.2.2.2, .int .i64 (x.1.free:Int)]
def ynR (x:YnD):Ent:=eO 89 3 (.slice x.2.2.1 x.1.es.length x.2.2.2) x.1.es.length (x.1.es.flatMap enC)
end
section
open Go.RowKit
theorem wpIn_loopN {F:Fence} {nf:Nat} {P:Program} {Q:Exit→Act→World→Prop} {a:Act} {w:World} {c:Code} (I:Nat→Act→World→Prop) (n0:Nat) (h₀:I n0 a w)
  (round:∀ n a w,I n a w→c.wpIn F nf P (Exit.then (fun a' w'=>∃ m,m < n∧I m a' w') Q) a w):(Code.loop c).wpIn F nf P Q a w:=by
 intro b k cs hro hb hr
 have key:∀ m a w,I m a w→∃ e a' w',Q e a' w'∧ArrivesIn (Machine.fenced P F) P (lone (b.atR a (.code c:: .inLoop c::k)) cs w) b k cs e a' w':=by
  intro m
  induction m using Nat.strongRecOn with
  | _ m ih=>
    intro a w h
    obtain ⟨e,a₁,w₁,hq,harr⟩:=round m a w h b (.inLoop c::k) cs hro hb hr
    cases e with
    | normal=>
      obtain ⟨m',hlt,hI₁⟩:=hq
      obtain ⟨e₂,a₂,w₂,hq₂,harr₂⟩:=ih m' hlt a₁ w₁ hI₁
      exact ⟨e₂,a₂,w₂,hq₂, .of_steps (StepsIn.trans harr (.one (fenced_calm hb hr rfl) stepR_inLoop)) harr₂⟩
    | exit id=>exact ⟨_,a₁,w₁,hq, .pass (x:= .inLoop c) rfl (fun _ _=> .inl (by simp)) harr⟩
    | goto l=>exact ⟨_,a₁,w₁,hq, .pass (x:= .inLoop c) rfl (fun _ _=> .inl (by simp)) harr⟩
    | ret=>exact ⟨_,a₁,w₁,hq, .pass (x:= .inLoop c) rfl (fun _ _=> .inl (by simp)) harr⟩
    | panic ch=>exact ⟨_,a₁,w₁,hq, .pass (x:= .inLoop c) rfl (fun _ _=> .inl (by simp)) harr⟩
    | outgrown=>exact ⟨_,a₁,w₁,hq, .pass (x:= .inLoop c) rfl (fun _ _=> .inl (by simp)) harr⟩
 obtain ⟨e,a',w',hq,harr⟩:=key n0 a w h₀
 exact ⟨e,a',w',hq, .of_steps (.one (fenced_calm hb hr rfl) stepR_loop) harr⟩
/-- the iterator's contract: it gives elements, each with an entry that the round may read, until the round says no; it leaves an entry of its own; Rd: what it reads -/
def SeqG {α:Type} (P:Program) (gf:Nat) (lb:Array Value) (encs:α→Array Value) (Ex:α→Ent) (Px:α→Prop) (N:Nat) (Z:Bool→List α→Ent→Prop) (Rd:World→Prop):Prop:=
 ∀ (l:Nat) (J:Bool→List Nat→List α→World→Prop) (W:World) (C0:List Nat),(∀ A,Upd C0 W A→Rd A)→(∀ b C pre,(eJ (J b) C pre).loc)→(∀ k∈C0,k < W.heap.size)→J true C0 [] W→
   (∀ C pre x A,Px x→St A (C++(Ex x).fp) [eJ (J true) C pre,Ex x] A→pre.length < N→YieldAt Fence.wide 1 P l (encs x) A fun e B=>∃ b,e= .returned (.bool b)∧∃ C',St A (C++(Ex x).fp) [eJ (J b) C' (pre++[x]),Ex x] B)→
   CallsIn Fence.wide 2 P gf (#[.func (.yield l) #[] #[]]++lb) W fun e B=>(∃ v,e= .returned v)∧∃ b C xs E,St W C0 [eJ (J b) C xs,E] B∧Z b xs E
theorem wp_rangeSG {α:Type} {P:Program} {g:Operand} {ps:Array Tmp} {assign body:Code} {Q:Exit→Act→World→Prop} {t0:Array Value} {w0 w:World} {L0:List Ent} (hst:St w0 [] L0 w)
  {gf:Nat} {lb:Array Value} (hg:Act.eval ⟨t0,[]⟩ g= .func (.func gf) #[] lb) (eg:∀ args w,(callFunc gf args).run P w= .ok (.enter gf args) w)
  {encs:α→Array Value} {Ex:α→Ent} {Px:α→Prop} {N:Nat} {Z:Bool→List α→Ent→Prop} {Rd:World→Prop} (hseq:SeqG P gf lb encs Ex Px N Z Rd) (hRd:∀ A,Upd (fps L0) w A→Rd A) (hps:∀ x,(encs x).size=ps.size) (I:Bool→List α→List Ent→Prop) (h0:I true [] L0) (Ax:α→Act→Ent→Prop) (t1:α→List Value) (ht1:∀ x,(ps.zip (encs x)).foldl (fun t (p,v)=>t.setIfInBounds p v) t0=(t1 x).toArray)
  (hassign:∀ (l:Nat) (x:α) (W:World) (K:Act→World→Prop),(∀ a' W' E,Ax x a' E→St W [] [E] W'→K a' W')→assign.wpIn (Rnd l) 1 P (Exit.then K (fun _ _ _=>False)) ⟨(t1 x).toArray,[]⟩ W)
  (hbody:∀ (l:Nat) (pre:List α) (x:α) (W:World) (L:List Ent) (a':Act) (E:Ent),I true pre L→pre.length < N→Px x→Ax x a' E→St W (fps (L++[Ex x,E])) (L++[Ex x,E]) W→body.wpIn (Rnd l) 1 P (fun e _ W'=>∃ b,((b=true∧e= .normal)∨(b=false∧e= .ret))∧∃ L',I b (pre++[x]) L'∧St W (fps (L++[Ex x,E])) (L'++[Ex x]) W') a' W)
  (hdone:∀ (D:Nat) (W:World) (L:List Ent) (xs:List α) (E:Ent),I true xs L→Z true xs E→St w0 [] (L++[E,eDfr D]) W→Q .normal ⟨t0,[{target:= .collected D,args:=#[]}]⟩ W)
  (hret:∀ (D:Nat) (W:World) (L:List Ent) (xs:List α) (E:Ent),I false xs L→Z false xs E→St w0 [] (L++[E,eDfr D]) W→Q .ret ⟨t0,[{target:= .collected D,args:=#[]}]⟩ W):
  (Code.rangeFunc g ps assign body).wp P Q ⟨t0,[]⟩ w:=by
 refine (wpIn_wide (n:=3)).1 (wpIn_rangeFunc fun fn hfn=>?_)
 obtain ⟨D,hD⟩:∃ D,w.heap.size=D:=⟨_,rfl⟩
 obtain ⟨rec,hrec⟩:∃ rec:LoopState→Option Code→Loop,rec=fun s p=>{state:=s,pending:=p,fn,tmps:=t0,params:=ps,assign,body,defers:=D}:=⟨_,rfl⟩
 obtain ⟨rb,hrb⟩:∃ rb:Bool→Loop,rb=fun b=>if b then rec .ready none else rec .done (some .ret):=⟨_,rfl⟩
 obtain ⟨W1,hW1⟩:∃ W1,(w.alloc (.deferred (some []))).alloc (.loop (rec .ready none))=W1:=⟨_,rfl⟩
 have hL1:W1.heap[D+1]? =some (.loop (rec .ready none)):=by
  rw [← hW1,← hD]; have:=World.alloc_heap_new (w.alloc (.deferred (some []))) (.loop (rec .ready none)); rwa [World.size_alloc] at this
 have hK1:W1.heap[D]? =some (.deferred (some [])):=by
  rw [← hW1,← hD]; exact (Below.heap_alloc _ _ _ (by simp)).trans (World.alloc_heap_new w _)
 have hx1:Ext w W1:=by rw [← hW1]; exact ((Below.refl _ w).alloc (Nat.le_refl _) _).alloc (by simp) _
 have hs1:W1.heap.size=D+2:=by rw [← hW1,World.size_alloc,World.size_alloc,hD]
 have h0w:=hst.upd.size
 obtain ⟨J,hJ⟩:∃ J:Bool→List Nat→List α→World→Prop,J=fun b C pre A=>∃ L,I b pre L∧C=(D+1)::D::fps L∧(∀ e∈L,e.holds A∧e.loc)∧L.Pairwise Ent.apart∧(∀ k∈fps L,k≠D+1∧k≠D)∧A.heap[D+1]? =some (.loop (rb b))∧A.heap[D]? =some (.deferred (some [])):=⟨_,rfl⟩
 have hloc:∀ b C pre,(eJ (J b) C pre).loc:=fun b C pre A B hk h=>by
  subst hJ
  obtain ⟨L,h1,rfl,h2,h3,h4,h5,h6⟩:=h
  refine ⟨L,h1,rfl,fun e he=>⟨(h2 e he).2 A B (fun k hk'=>hk k ?_) (h2 e he).1,(h2 e he).2⟩,h3,h4,(hk (D+1) (by simp [eJ])).trans h5,(hk D (by simp [eJ])).trans h6⟩
  exact List.mem_cons_of_mem _ (List.mem_cons_of_mem _ (fps_mem.2 ⟨e,he,hk'⟩))
 have hC0:∀ k∈(D+1)::D::fps L0,w0.heap.size≤k∧k < W1.heap.size:=fun k hk=>by
  rcases List.mem_cons.1 hk with rfl | hk
  ·exact ⟨by omega,by omega⟩
  ·rcases List.mem_cons.1 hk with rfl | hk
   ·exact ⟨by omega,by omega⟩
   ·have:=hst.fps_own hk
    have h5:=this.1.resolve_left (by simp)
    exact ⟨h5,by omega⟩
 have hrbt:rb true=rec .ready none:=by rw [hrb]; rfl
 have hrbf:rb false=rec .done (some .ret):=by rw [hrb]; rfl
 have hJ0:J true ((D+1)::D::fps L0) [] W1:=by
  subst hJ
  refine ⟨L0,h0,rfl,fun e he=>⟨(hst.ok e he).loc w W1 (fun k hk=>hx1.block ((hst.ok e he).own k hk).2) (hst.ok e he).holds,(hst.ok e he).loc⟩,hst.apart,fun k hk=>?_,by rw [hrbt]; exact hL1,hK1⟩
  have:=(hst.fps_own hk).2
  exact ⟨by omega,by omega⟩
 refine ⟨D+1,[{target:= .collected D,args:=#[]}],W1,{target:= .fn (.func gf) lb,args:=#[.func (.yield (D+1)) #[] #[]]},W1,gf,#[.func (.yield (D+1)) #[] #[]]++lb,W1,?_,?_,?_,?_,fun _=>by omega,?_⟩
 ·rw [← hW1,hrec,← hD]; exact run_enterLoop_outer _ _ _ _ _
 ·simp only [resolve,hg]
  simp [go_sem]
 ·intro f' hf'; trivial
 ·simp [invoke,go_sem,eg]
 ·refine (hseq (D+1) J W1 _ (fun A hA=>hRd A ((Upd.mono (S:=[]) (Upd.of_ext hx1) (fun k _ hk'=>by simp at hk')).join hA fun i hi=>?_)) hloc (fun k hk=>(hC0 k hk).2) hJ0 ?_).mono ?_
  ·rcases List.mem_cons.1 hi with rfl | hi
   ·exact .inr (by omega)
   ·rcases List.mem_cons.1 hi with rfl | hi
    ·exact .inr (by omega)
    ·exact .inl hi
  ·intro C pre x A hPx hsA hlen
   have hjo:=hsA.ok (eJ (J true) C pre) (by simp)
   have hxo:=hsA.ok (Ex x) (by simp)
   have hapx:=List.pairwise_pair.1 hsA.apart
   have hlt:∀ k∈C,k < A.heap.size:=fun k hk=>(hjo.own k hk).2
   have hj:J true C pre A:=hjo.holds
   clear hjo hsA
   subst hJ
   obtain ⟨L,hi,rfl,hall,hap,hne,hl,hk⟩:=hj
   rw [hrbt] at hl
   have hlA:D+1 < A.heap.size:=hlt _ (by simp)
   have hDA:D < A.heap.size:=hlt _ (by simp)
   have hxne:∀ k∈(Ex x).fp,k≠D+1∧k≠D∧k∉fps L:=fun k hk'=>by
    refine ⟨fun e=>?_,fun e=>?_,fun e=>?_⟩
    ·subst e; exact hapx (D+1) (by simp [eJ]) hk'
    ·subst e; exact hapx k (by simp [eJ]) hk'
    ·exact hapx k (by simp [eJ,e]) hk'
   have hxlt:∀ k∈(Ex x).fp,k < A.heap.size:=fun k hk'=>(hxo.own k hk').2
   have hy:=run_yield (P:=P) (args:=encs x) hl (by rw [hrec]; exact hps x)
   rw [hrec] at hy
   refine ⟨fn, _,assign,body,hy,roundIn_of_wpIn hfn ?_⟩
   rw [ht1 x]
   refine hassign _ x A _ fun a' A1 E1 hAx hE1=>?_
   have hxA:=hE1.ext
   have hl1:A1.heap[D+1]? =some (.loop (rec .ready none)):=(hxA.block hlA).trans hl
   have hk1:A1.heap[D]? =some (.deferred (some [])):=(hxA.block hDA).trans hk
   have hEo:=hE1.ok E1 (by simp)
   have hEn:∀ k∈E1.fp,A.heap.size≤k∧k < A1.heap.size:=fun k hk'=>⟨(hEo.own k hk').1.resolve_left (by simp),(hEo.own k hk').2⟩
   have hsA1:=hxA.size
   refine ⟨_,run_beginRound hl1 (by rw [hrec]),?_⟩
   obtain ⟨A2,hA2⟩:∃ A2,A1.putObj (D+1) (.loop {rec .ready none with state:= .busy})=A2:=⟨_,rfl⟩
   have hsz:A2.heap.size=A1.heap.size:=by rw [← hA2]; exact putObj_size _ _ _
   have hoth:∀ k,k≠D+1→A2.heap[k]? =A1.heap[k]? :=fun k hk'=>by rw [← hA2]; exact World.putObj_heap_other hk'
   have hbusy:A2.heap[D+1]? =some (.loop {rec .ready none with state:= .busy}):=by rw [← hA2]; exact World.putObj_heap_same (by omega)
   have hLlt:∀ k∈fps L,k < A.heap.size:=fun k hk'=>hlt k (List.mem_cons_of_mem _ (List.mem_cons_of_mem _ hk'))
   have hst2:St A2 (fps (L++[Ex x,E1])) (L++[Ex x,E1]) A2:=by
    refine ⟨Upd.refl _ _,fun e he=>?_,?_⟩
    ·have hin:∀ k∈e.fp,k∈fps (L++[Ex x,E1]):=fun k hk'=>fps_mem.2 ⟨e,he,hk'⟩
     rcases List.mem_append.1 he with he | he
     ·refine ⟨(hall e he).2 A A2 (fun k hk'=>?_) (hall e he).1,(hall e he).2,fun k hk'=>⟨.inl (hin k hk'),?_⟩⟩
      ·have h1:=fps_mem.2 ⟨e,he,hk'⟩
       exact (hoth k (hne k h1).1).trans (hxA.block (hLlt k h1))
      ·have:=hLlt k (fps_mem.2 ⟨e,he,hk'⟩); omega
     ·simp only [List.mem_cons,List.not_mem_nil,or_false] at he
      rcases he with rfl | rfl
      ·refine ⟨hxo.loc A A2 (fun k hk'=>(hoth k (hxne k hk').1).trans (hxA.block (hxlt k hk'))) hxo.holds,hxo.loc,fun k hk'=>⟨.inl (hin k hk'),?_⟩⟩
       have:=hxlt k hk'; omega
      ·exact ⟨hEo.loc A1 A2 (fun k hk'=>hoth k (by have:=(hEn k hk').1; omega)) hEo.holds,hEo.loc,fun k hk'=>⟨.inl (hin k hk'),by have:=(hEn k hk').2; omega⟩⟩
    ·rw [List.pairwise_append,List.pairwise_pair]
     refine ⟨hap,fun k hk' hkb=>?_,fun a ha b hb k hk' hkb=>?_⟩
     ·have h1:=hxlt k hk'
      have h2:=(hEn k hkb).1
      omega
     ·simp only [List.mem_cons,List.not_mem_nil,or_false] at hb
      have hkf:k∈fps L:=fps_mem.2 ⟨a,ha,hk'⟩
      rcases hb with rfl | rfl
      ·exact (hxne k hkb).2.2 hkf
      ·have h1:=hLlt k hkf
       have h2:=(hEn k hkb).1
       omega
   rw [hA2]
   have hfin:∀ k∈fps (L++[Ex x,E1]),k∈fps L∨k∈(Ex x).fp∨A.heap.size≤k:=fun k hk'=>by
    obtain ⟨e,he,hke⟩:=fps_mem.1 hk'
    rcases List.mem_append.1 he with he | he
    ·exact .inl (fps_mem.2 ⟨e,he,hke⟩)
    ·simp only [List.mem_cons,List.not_mem_nil,or_false] at he
     rcases he with rfl | rfl
     ·exact .inr (.inl hke)
     ·exact .inr (.inr (hEn k hke).1)
   refine wpIn_mono (hbody _ pre x A2 L a' E1 hi hlen hPx hAx hst2) ?_
   rintro e a W3 ⟨b,hbe,L',hi',hs'⟩
   have hno:∀ m,m=D+1∨m=D→m∉fps (L++[Ex x,E1]):=fun m hm hmm=>by
    rcases hfin m hmm with h1 | h1 | h1
    ·have:=hne m h1; rcases hm with rfl | rfl<;>simp at this
    ·have:=hxne m h1; rcases hm with rfl | rfl<;>simp at this
    ·omega
   have hl3:W3.heap[D+1]? =some (.loop {rec .ready none with state:= .busy}):=(hs'.upd.block _ (by omega) (hno _ (.inl rfl))).trans hbusy
   have hk3:W3.heap[D]? =some (.deferred (some [])):=(hs'.upd.block _ (by omega) (hno _ (.inr rfl))).trans ((hoth D (by omega)).trans hk1)
   have hsz3:=hs'.upd.size
   have hne':∀ k∈fps (L'++[Ex x]),k≠D+1∧k≠D:=fun k hk'=>by
    rcases (hs'.fps_own hk').1 with h1 | h1
    ·rcases hfin k h1 with h2 | h2 | h2
     ·exact hne k h2
     ·exact ⟨(hxne k h2).1,(hxne k h2).2.1⟩
     ·exact ⟨by omega,by omega⟩
    ·exact ⟨by omega,by omega⟩
   have hupA:Upd (((D+1)::D::fps L)++(Ex x).fp) A A2:=by rw [← hA2]; exact (Upd.mono (S:=[]) (Upd.of_ext hxA) (fun k _ hk'=>by simp at hk')).putObj (.inl (by simp))
   have hup:Upd (((D+1)::D::fps L)++(Ex x).fp) A W3:=hupA.join hs'.upd (fun i hi=>by
    rcases hfin i hi with h1 | h1 | h1
    ·exact Or.inl (List.mem_append_left _ (List.mem_cons_of_mem _ (List.mem_cons_of_mem _ h1)))
    ·exact Or.inl (List.mem_append_right _ h1)
    ·exact .inr h1)
   have h3l:D+1 < W3.heap.size:=by omega
   have hapL:=List.pairwise_append.1 hs'.apart
   have fin:∀ (ob:Loop),rb b=ob→St A (((D+1)::D::fps L)++(Ex x).fp) [eJ (fun C pre A=>∃ L,I b pre L∧C=(D+1)::D::fps L∧(∀ e∈L,e.holds A∧e.loc)∧L.Pairwise Ent.apart∧(∀ k∈fps L,k≠D+1∧k≠D)∧A.heap[D+1]? =some (.loop (rb b))∧A.heap[D]? =some (.deferred (some []))) ((D+1)::D::fps L') (pre++[x]),Ex x] (W3.putObj (D+1) (.loop ob)):=by
    intro ob hob
    have own3:∀ k,k∈fps (L'++[Ex x])→(k∈((D+1)::D::fps L)++(Ex x).fp∨A.heap.size≤k)∧k < W3.heap.size:=fun k hk'=>by
     have h6:=hs'.fps_own hk'
     refine ⟨?_,h6.2⟩
     rcases h6.1 with h7 | h7
     ·rcases hfin k h7 with h8 | h8 | h8
      ·exact .inl (List.mem_append_left _ (List.mem_cons_of_mem _ (List.mem_cons_of_mem _ h8)))
      ·exact .inl (List.mem_append_right _ h8)
      ·exact .inr h8
     ·exact .inr (by omega)
    have inL:∀ k∈fps L',k∈fps (L'++[Ex x]):=fun k hk'=>by
     obtain ⟨e,he,hke⟩:=fps_mem.1 hk'
     exact fps_mem.2 ⟨e,List.mem_append_left _ he,hke⟩
    have inX:∀ k∈(Ex x).fp,k∈fps (L'++[Ex x]):=fun k hk'=>fps_mem.2 ⟨Ex x,by simp,hk'⟩
    have hxo3:=hs'.ok (Ex x) (by simp)
    refine ⟨hup.putObj (.inl (by simp)),fun e he=>?_,List.pairwise_pair.2 fun k hk' hkx=>?_⟩
    ·simp only [List.mem_cons,List.not_mem_nil,or_false] at he
     rcases he with rfl | rfl
     ·refine ⟨⟨L',hi',rfl,fun e he=>⟨(hs'.ok e (List.mem_append_left _ he)).loc W3 _ (fun k hk'=>World.putObj_heap_other (hne' k (inL k (fps_mem.2 ⟨e,he,hk'⟩))).1) (hs'.ok e (List.mem_append_left _ he)).holds,(hs'.ok e (List.mem_append_left _ he)).loc⟩,hapL.1,fun k hk'=>hne' k (inL k hk'),?_,?_⟩,hloc b _ _,fun k hk'=>?_⟩
      ·rw [hob]; exact World.putObj_heap_same h3l
      ·exact (World.putObj_heap_other (by omega)).trans hk3
      ·rw [putObj_size]
       have hk':k∈(D+1)::D::fps L':=hk'
       rcases List.mem_cons.1 hk' with rfl | hk'
       ·exact ⟨.inl (by simp),h3l⟩
       ·rcases List.mem_cons.1 hk' with rfl | hk'
        ·exact ⟨.inl (by simp),by omega⟩
        ·exact own3 k (inL k hk')
     ·refine ⟨hxo3.loc W3 _ (fun k hk'=>World.putObj_heap_other (hne' k (inX k hk')).1) hxo3.holds,hxo3.loc,fun k hk'=>?_⟩
      rw [putObj_size]
      exact own3 k (inX k hk')
    ·have hk':k∈(D+1)::D::fps L':=hk'
     rcases List.mem_cons.1 hk' with rfl | hk'
     ·exact (hne' _ (inX _ hkx)).1 rfl
     ·rcases List.mem_cons.1 hk' with rfl | hk'
      ·exact (hne' _ (inX _ hkx)).2 rfl
      ·obtain ⟨e,he,hke⟩:=fps_mem.1 hk'
       exact hapL.2.2 e he (Ex x) (by simp) k hke hkx
   rcases hbe with ⟨rfl,rfl⟩ | ⟨rfl,rfl⟩
   ·refine ⟨_, _,run_endRound none hl3,true,rfl,(D+1)::D::fps L',?_⟩
    exact fin _ (by rw [hrbt,hrec]; rfl)
   ·refine ⟨_, _,run_endRound (some .ret) hl3,false,rfl,(D+1)::D::fps L',?_⟩
    exact fin _ (by rw [hrbf,hrec]; rfl)
  ·rintro e W2 ⟨⟨v,rfl⟩,b,C,xs,E,hs,hz⟩
   have hE:=hs.ok E (by simp)
   have hjo:=hs.ok (eJ (J b) C xs) (by simp)
   have hap2:=List.pairwise_pair.1 hs.apart
   have hj:J b C xs W2:=hjo.holds
   have hjown:∀ k∈C,(k∈(D+1)::D::fps L0∨W1.heap.size≤k)∧k < W2.heap.size:=fun k hk'=>hjo.own k hk'
   have hsupd:=hs.upd
   clear hjo hs
   subst hJ
   obtain ⟨L,hi,rfl,hall,hap,hne,hl,hk⟩:=hj
   have hap2:∀ k∈(D+1)::D::fps L,k∉E.fp:=hap2
   have hend:=run_endLoop (P:=P) hl (by rw [hrb,hrec]; cases b<;>simp)
   have hCo:∀ k∈(D+1)::D::fps L,(w0.heap.size≤k∧k < W2.heap.size):=fun k hk'=>by
    have h5:=hjown k hk'
    refine ⟨?_,h5.2⟩
    rcases h5.1 with h6 | h6
    ·exact (hC0 k h6).1
    ·omega
   have hup:Upd [] w0 W2:=(Upd.of_ext (hst.ext.trans hx1)).join hsupd (fun i hi=> .inr (hC0 i hi).1)
   have hlA:=(hCo (D+1) (by simp)).2
   have hw0D:w0.heap.size≤D+1:=by omega
   have fin:∀ ob:Obj,St w0 [] (L++[E,eDfr D]) (W2.putObj (D+1) ob):=by
    intro ob
    refine ⟨hup.putObj (.inr hw0D),fun e he=>?_,?_⟩
    ·rcases List.mem_append.1 he with he | he
     ·refine ⟨(hall e he).2 W2 _ (fun k hk'=>World.putObj_heap_other (hne k (fps_mem.2 ⟨e,he,hk'⟩)).1) (hall e he).1,(hall e he).2,fun k hk'=>?_⟩
      rw [putObj_size]
      have:=hCo k (List.mem_cons_of_mem _ (List.mem_cons_of_mem _ (fps_mem.2 ⟨e,he,hk'⟩)))
      exact ⟨.inr this.1,this.2⟩
     ·simp only [List.mem_cons,List.not_mem_nil,or_false] at he
      rcases he with rfl | rfl
      ·refine ⟨hE.loc W2 _ (fun k hk'=>World.putObj_heap_other fun e=>?_) hE.holds,hE.loc,fun k hk'=>?_⟩
       ·subst e; exact hap2 (D+1) (by simp) hk'
       ·rw [putObj_size]
        have h5:=hE.own k hk'
        refine ⟨.inr ?_,h5.2⟩
        rcases h5.1 with h6 | h6
        ·exact (hC0 k h6).1
        ·omega
      ·refine ⟨(World.putObj_heap_other (by omega)).trans hk,eD_loc D,fun k hk'=>?_⟩
       have:k=D:=by simpa [eDfr] using hk'
       subst this
       rw [putObj_size]
       exact ⟨.inr (by omega),by omega⟩
    ·rw [List.pairwise_append,List.pairwise_pair]
     refine ⟨hap,fun k hk' hkD=>?_,fun a ha b hb k hk' hkb=>?_⟩
     ·have:k=D:=by simpa [eDfr] using hkD
      subst this
      exact hap2 k (by simp) hk'
     ·simp only [List.mem_cons,List.not_mem_nil,or_false] at hb
      have hkf:k∈fps L:=fps_mem.2 ⟨a,ha,hk'⟩
      rcases hb with rfl | rfl
      ·exact hap2 k (List.mem_cons_of_mem _ (List.mem_cons_of_mem _ hkf)) hkb
      ·have:k=D:=by simpa [eDfr] using hkb
       exact (hne k hkf).2 this
   cases b with
   | true=>
     have hpend:(rb true).pending=none:=by rw [hrb,hrec]; rfl
     rw [hpend] at hend
     exact ⟨none, _,hend,hdone D _ L xs E hi hz (fin _)⟩
   | false=>
     have hpend:(rb false).pending=some .ret:=by rw [hrb,hrec]; rfl
     rw [hpend] at hend
     exact ⟨some .ret, _,hend,wpIn_ret (hret D _ L xs E hi hz (fin _))⟩
end
section
open Go.RowKit
def nodZ:NoD:=⟨0,0,⟨#[]⟩,false,[],0⟩
/-- a node that may be none -/
def ndZ (ps:List PgS) (x:Int):NoD:=(ndAt ps x).getD nodZ
def pgN (y:YnD):Int×NoD:=(y.2.1,y.1)
/-- a fact as an entry -/
def eFt (φ:Prop):Ent:=⟨[],fun _=>φ⟩
theorem eFt_ok {φ:Prop} {w W:World} {bor:List Nat} {L:List Ent} (h:St w bor L W) (hp:φ):St w bor (L++[eFt φ]) W:=by
 refine ⟨h.upd,fun e he=>?_,List.pairwise_append.2 ⟨h.apart,List.pairwise_singleton _ _,fun a ha b hb k hk hkb=>?_⟩⟩
 ·rcases List.mem_append.1 he with he | he
  ·exact h.ok e he
  ·rw [List.mem_singleton] at he; subst he
   exact ⟨hp,fun W W' _ h=>h,fun k hk=>by simp [eFt] at hk⟩
 ·rw [List.mem_singleton] at hb; subst hb; simp [eFt] at hkb
/-- the rows of the nodes that were given -/
def eYs (xs:List YnD) (fp:List Nat):Ent:=⟨fp,fun W=>∀ y∈xs,(∀ ad,y.2.2.1=some ad→ad.block∈fp)∧At W y.2.2.1 (y.1.es.flatMap enC)⟩
theorem eYs_loc (xs:List YnD) (fp:List Nat):(eYs xs fp).loc:=fun W W' hk h y hy=>⟨(h y hy).1,at_blocks (h y hy).2 fun ad e _=>hk _ ((h y hy).1 ad e)⟩
theorem St.yn0 {w W:World} {bor:List Nat} {L:List Ent} (h:St w bor L W):St w bor (L++[eYs [] []]) W:=by
 refine ⟨h.upd,fun e he=>?_,List.pairwise_append.2 ⟨h.apart,List.pairwise_singleton _ _,fun a ha b hb k hk hkb=>?_⟩⟩
 ·rcases List.mem_append.1 he with he | he
  ·exact h.ok e he
  ·rw [List.mem_singleton] at he; subst he
   exact ⟨fun y hy=>absurd hy (by simp),eYs_loc _ _,fun k hk=>by simp [eYs] at hk⟩
 ·rw [List.mem_singleton] at hb; subst hb; simp [eYs] at hkb
theorem row_blk {W:World} {t sz m lc:Nat} {LA:Option Addr} {xs:List Value} (h:W.ownsRow 0 t sz (.slice LA m lc) m xs):∀ ad,LA=some ad→ad.block∈(Value.ownBlock (.slice LA m lc)).toList:=fun ad e=>by
 rcases h.2 with ⟨hv, _⟩ | ⟨g,cap,cur,hv, _⟩
 ·injection hv with h2; rw [e] at h2; cases h2
 ·subst e; injection hv with h5; injection h5 with h5; subst h5; simp [Value.ownBlock]
/-- one more row among those given -/
theorem St.yn1 {w W:World} {bor:List Nat} {L:List Ent} {xs:List YnD} {fp:List Nat} {y:YnD} (h:St w bor (eYs xs fp::ynR y::L) W):St w bor (eYs (xs++[y]) (fp++(ynR y).fp)::L) W:=by
 have h1:=h.ok (eYs xs fp) (by simp)
 have h2:=h.ok (ynR y) (by simp)
 have hp:=List.pairwise_cons.1 h.apart
 have hp2:=List.pairwise_cons.1 hp.2
 have hR:W.ownsRow 0 89 3 (.slice y.2.2.1 y.1.es.length y.2.2.2) y.1.es.length (y.1.es.flatMap enC):=h2.holds
 refine ⟨h.upd,fun e he=>?_,List.pairwise_cons.2 ⟨fun e he k hk hke=>?_,hp2.2⟩⟩
 ·rcases List.mem_cons.1 he with rfl | he
  ·refine ⟨fun z hz=>?_,eYs_loc _ _,fun k hk=>?_⟩
   ·rcases List.mem_append.1 hz with hz | hz
    ·exact ⟨fun ad e=>List.mem_append_left _ ((h1.holds z hz).1 ad e),(h1.holds z hz).2⟩
    ·rw [List.mem_singleton] at hz; subst hz
     exact ⟨fun ad e=>List.mem_append_right _ (row_blk hR ad e),At.of_ownN hR⟩
   ·rcases List.mem_append.1 hk with hk | hk
    ·exact h1.own k hk
    ·exact h2.own k hk
  ·exact h.ok e (by simp [he])
 ·rcases List.mem_append.1 hk with hk | hk
  ·exact hp.1 e (by simp [he]) k hk hke
  ·exact hp2.1 e he k hk hke
/-- two entries lent, and given back -/
theorem St.borrow {w W:World} {bor:List Nat} {a b:Ent} {L:List Ent} (h:St w bor (a::b::L) W):St W (a.fp++b.fp) [a,b] W:=by
 have ha:=h.ok a (by simp)
 have hb:=h.ok b (by simp)
 refine ⟨Upd.refl _ _,fun e he=>?_,List.pairwise_pair.2 ((List.pairwise_cons.1 h.apart).1 b (by simp))⟩
 simp only [List.mem_cons,List.not_mem_nil,or_false] at he
 rcases he with rfl | rfl
 ·exact ⟨ha.holds,ha.loc,fun k hk=>⟨.inl (List.mem_append_left _ hk),(ha.own k hk).2⟩⟩
 ·exact ⟨hb.holds,hb.loc,fun k hk=>⟨.inl (List.mem_append_right _ hk),(hb.own k hk).2⟩⟩
theorem St.back {w A B:World} {bor:List Nat} {a b a' b':Ent} {L:List Ent} (h:St w bor (a::b::L) A) (hj:St A (a.fp++b.fp) [a',b'] B):St w bor (a'::b'::L) B:=by
 have hp:=List.pairwise_cons.1 h.apart
 have hp2:=List.pairwise_cons.1 hp.2
 have hab:∀ k∈a.fp++b.fp,(k∈bor∨w.heap.size≤k)∧k < A.heap.size:=fun k hk=>by
  rcases List.mem_append.1 hk with hk | hk
  ·exact (h.ok a (by simp)).own k hk
  ·exact (h.ok b (by simp)).own k hk
 have hL:∀ e∈L,∀ k∈e.fp,k∉a.fp++b.fp:=fun e he k hke hk=>by
  rcases List.mem_append.1 hk with hk | hk
  ·exact hp.1 e (by simp [he]) k hk hke
  ·exact hp2.1 e he k hk hke
 have hnew:∀ e∈[a',b'],∀ k∈e.fp,(k∈a.fp++b.fp∨A.heap.size≤k):=fun e he k hk=>((hj.ok e he).own k hk).1
 have hapart:∀ e∈[a',b'],∀ x∈L,e.apart x:=fun e he x hx k hk hkx=>by
  rcases hnew e he k hk with h1 | h1
  ·exact hL x hx k hkx h1
  ·have:=((h.ok x (by simp [hx])).own k hkx).2; omega
 refine ⟨h.upd.join hj.upd (fun i hi=>(hab i hi).1),fun e he=>?_,List.pairwise_cons.2 ⟨fun e he=>?_,List.pairwise_cons.2 ⟨fun e he=>hapart b' (by simp) e he,hp2.2⟩⟩⟩
 ·have key:∀ e∈[a',b'],e.ok w bor B:=fun e he=>by
   have h2:=hj.ok e he
   refine ⟨h2.holds,h2.loc,fun k hk=>⟨?_,(h2.own k hk).2⟩⟩
   rcases (h2.own k hk).1 with h1 | h1
   ·exact (hab k h1).1
   ·exact .inr (Nat.le_trans h.upd.size h1)
  rcases List.mem_cons.1 he with rfl | he
  ·exact key _ (by simp)
  ·rcases List.mem_cons.1 he with rfl | he
   ·exact key _ (by simp)
   ·exact (h.ok e (by simp [he])).keep hj.upd (fun k hk hkC=>hL e he k hk hkC)
 ·rcases List.mem_cons.1 he with rfl | he
  ·exact (List.pairwise_pair.1 hj.apart)
  ·exact hapart a' (by simp) e he
/-- what the iterator has given -/
def YnZ (L:List (Int×NoD)) (b:Bool) (xs:List YnD) (E:Ent):Prop:=E=eYs xs E.fp∧(b=true→xs.map pgN=L)∧∃ r,xs.map pgN++r=L
theorem YnZ.all {L:List (Int×NoD)} {xs:List YnD} {fp:List Nat} (h:xs.map pgN=L):YnZ L true xs (eYs xs fp):=⟨rfl,fun _=>h,[],by rw [h,List.append_nil]⟩
theorem YnZ.some {L r:List (Int×NoD)} {xs:List YnD} {fp:List Nat} (h:xs.map pgN++r=L):YnZ L false xs (eYs xs fp):=⟨rfl,fun h=>(nomatch h),r,h⟩
/-- what the iterator reads -/
structure RdR (b1 b2 b3:Nat) (tt:TypeId) (tv:Value) (root lv:Int) (ps:List PgS) (A:World):Prop where
 b1:Blk A b1 78 #[.iface tt tv]
 b2:Blk A b2 3 #[.int .i64 root]
 b3:Blk A b3 3 #[.int .i64 lv]
 pgs:PgsOk A tt tv ps
/-- at, where the node may be none -/
def KuPost (o:Option NoD) (x:Int) (w:World) (e:Ending) (w':World):Prop:=∃ px EA ec,e= .returned (.tuple #[knV px (o.getD nodZ) EA ec, .bool o.isSome])∧St w [] [eO 89 3 (.slice EA (o.getD nodZ).es.length ec) (o.getD nodZ).es.length ((o.getD nodZ).es.flatMap enC),eFt (o.isSome=true→px=x)] w'
theorem kat_u (tt:TypeId) (tv:Value) (ps:List PgS) (x:Int) (w:World) (hS:PgsOk w tt tv ps) (hok:OkS ps) (hoc:OkC ps):Calls Tryz.prog 50 #[.iface tt tv, .int .i64 x] w (KuPost (ndAt ps x) x w):=by
 refine (kat_any tt tv ps x w hS hok hoc).mono fun e w' h=>?_
 cases ho:ndAt ps x with
 | none=>
   rw [ho] at h
   obtain ⟨p,rfl,hx⟩:=h
   exact ⟨p,none,0,rfl,eFt_ok (L:=[_]) (by have h1:=nilrowN (⟨Upd.of_ext hx,(fun e he=>absurd he (by simp)),List.Pairwise.nil⟩:St w [] [] w') 89 3; exact h1) fun h=>(nomatch h)⟩
 | some n=>
   rw [ho] at h
   obtain ⟨EA,ec,rfl,hs⟩:=h
   exact ⟨x,EA,ec,rfl,eFt_ok hs fun _=>rfl⟩
theorem ndz_ok {ps:List PgS} (hok:OkS ps) (x:Int):NdOk (ndZ ps x):=by
 unfold ndZ
 cases h:ndAt ps x with
 | none=>exact ⟨by decide,by decide,by decide,by decide,(fun e he=>nomatch he),by decide⟩
 | some n=>exact nd_ok hok h
theorem wpOpsIn_ylb {P:Program} {ops:Array Oper} {Q:Exit→Act→World→Prop} {i:Nat} {rest:List Nat} {o:Oper} {t:List Value} {d0:List Deferred} {W:World} {d l:Nat} {args:Array Value} {R:Bool→World→Prop} (t':Bool→List Value) (ho:ops[i]? =some o) (hg:o.guard=none) (hd:o.dst=some d)
  (hr:∀ r,(Instr.yield l args).run P W=r→(execOp (Act.eval ⟨t.toArray,d0⟩) o).run P W=r) (hy:YieldAt Fence.wide 1 P l args W fun e B=>∃ b,e= .returned (.bool b)∧R b B) (ht:∀ b,t.set d (.bool b)=t' b) (h:∀ b B,R b B→∀ tt,tt=t' b→wpOpsIn Fence.wide 2 P ops Q rest ⟨tt.toArray,d0⟩ B):wpOpsIn Fence.wide 2 P ops Q (i::rest) ⟨t.toArray,d0⟩ W:=by
 obtain ⟨fn,tmps,assign,body,h1,h2⟩:=hy
 unfold wpOpsIn
 simp only [ho]
 rw [if_pos (show Region.wanted o _=true by unfold Region.wanted; rw [hg])]
 refine ⟨fun _ _=>trivial,?_⟩
 show o.uponIn Fence.wide 2 P _ _ Q ((execOp (Act.eval ⟨t.toArray,d0⟩) o).run P W)
 rw [hr _ h1,Oper.uponIn_round]
 refine ⟨fun hh=>by simp [Fence.wide] at hh,h2.mono ?_⟩
 rintro e B ⟨b,rfl,hB⟩
 show wpOpsIn Fence.wide 2 P ops Q rest (Act.put ⟨t.toArray,d0⟩ o.dst (.bool b)) B
 rw [hd]
 show wpOpsIn Fence.wide 2 P ops Q rest ⟨t.toArray.setIfInBounds d (.bool b),d0⟩ B
 rw [List.setIfInBounds_toArray,ht]
 exact h b B hB _ rfl
theorem dsc_step {ps:List PgS} {root lv x:Int} {nd:NoD} {s:Nat} (hd:dscF ps lv 1000 root=dscF ps lv (1001 - s) x) (hs:1≤s∧s < 1000) (hn:ndAt ps x=some nd) (hl:lv < nd.lv) (h2:0 < nd.es.length):dscF ps lv 1000 root=dscF ps lv (1001 - (s+1)) (nd.es.getD 0 en0).2.2:=by
 rw [hd,show 1001 - s=(1001 - (s+1))+1 by omega]; exact dsc_down hn hl (by omega)
theorem row_none {ps:List PgS} {root lv:Int} (h:dscF ps lv 1000 root=none):rowF ps root lv=[]:=by rw [rowF,h]
theorem row_some' {ps:List PgS} {root lv x:Int} {nd:NoD} (h:dscF ps lv 1000 root=some (x,nd)):rowF ps root lv=chnF ps lv 1000 x:=by rw [rowF,h]
theorem dsc_end {ps:List PgS} {lv x:Int} {nd:NoD} {s:Nat} (hn:ndAt ps x=some nd) (hl:nd.lv≠lv) (h:¬ (lv < nd.lv∧0 < nd.es.length∧s < 1000)) (hs:1≤s∧s≤1000):dscF ps lv (1001 - s) x=none:=by
 by_cases h1:nd.lv < lv∨nd.es.length=0
 ·exact dsc_miss hn hl h1
 ·have:s=1000:=by omega
  subst this
  rw [show 1001 - 1000=0+1 by omega,dsc_down hn (by omega) (by omega)]; rfl
theorem row_off {ps:List PgS} {root lv x:Int} {s:Bool} {nd:NoD} {k:Nat} (his:s=(ndAt ps x).isSome) (hnz:nd=ndZ ps x) (hds:dscF ps lv 1000 root=dscF ps lv (1001 - k) x) (hs:1≤k∧k≤1000) (h1:s=true→¬ (lv < nd.lv∧0 < nd.es.length∧k < 1000)) (h2:s=true→nd.lv≠lv):rowF ps root lv=[]:=by
 refine row_none (hds.trans ?_)
 cases ho:ndAt ps x with
 | none=>exact dsc_none ho
 | some n=>
   have e:s=true:=by rw [his,ho]; rfl
   have hn:nd=n:=by rw [hnz,ndZ,ho]; rfl
   subst hn
   exact dsc_end ho (h2 e) (h1 e) hs
theorem chn_off {ps:List PgS} {lv x:Int} {k:Nat} (h:(ndAt ps x).isSome=true→(ndZ ps x).lv≠lv):chnF ps lv k x=[]:=by
 cases ho:ndAt ps x with
 | none=>exact chn_none ho
 | some n=>exact chn_miss ho (by have:=h (by rw [ho]; rfl); rwa [ndZ,ho] at this)
theorem row_begin {ps:List PgS} {root lv x:Int} {nd:NoD} {k:Nat} (hds:dscF ps lv 1000 root=dscF ps lv (1001 - k) x) (hs:1≤k∧k≤1000) (hn:ndAt ps x=some nd) (hl:nd.lv=lv):([]:List YnD).map pgN++chnF ps lv (1000 - 0) x=rowF ps root lv:=by
 rw [row_some' (hds.trans (by rw [show 1001 - k=(1000 - k)+1 by omega]; exact dsc_hit hn hl))]; rfl
theorem row_fin {L:List (Int×NoD)} {ps:List PgS} {lv x:Int} {i:Nat} {pre:List YnD} (h:pre.map pgN++chnF ps lv (1000 - i) x=L) (hi:¬ i < 1000):pre.map pgN=L:=by
 rw [show 1000 - i=0 by omega] at h
 rw [← h,chnF,List.append_nil]
theorem row_fin2 {ps:List PgS} {root lv x:Int} {nd:NoD} {i:Nat} {pre:List YnD} {EA:Option Addr} {ec:Nat} (hrow:pre.map pgN++chnF ps lv (1000 - i) x=rowF ps root lv) (hn:ndAt ps x=some nd) (hl:nd.lv=lv) (hi:i < 1000) (h:(ndAt ps nd.right).isSome=true→(ndZ ps nd.right).lv≠lv):(pre++[(nd,x,EA,ec)]).map pgN=rowF ps root lv:=by
 rw [← hrow,show 1000 - i=(1000 - (i+1))+1 by omega,chn_hit hn hl,chn_off h,List.map_append]; rfl
theorem nd_is {ps:List PgS} {x:Int} {s:Bool} {nd:NoD} (his:s=(ndAt ps x).isSome) (hnz:nd=ndZ ps x) (h:s=true):ndAt ps x=some nd:=by
 subst h
 cases ho:ndAt ps x with
 | none=>rw [ho] at his; cases his
 | some n=>rw [hnz,ndZ,ho]; rfl
def RyPost (w:World) (root lv:Int) (ps:List PgS) (J:Bool→List Nat→List YnD→World→Prop) (C0:List Nat) (e:Ending) (B:World):Prop:=(∃ v,e= .returned v)∧∃ b C xs E,St w C0 [eJ (J b) C xs,E] B∧YnZ (rowF ps root lv) b xs E
theorem row_next {ps:List PgS} {root lv x:Int} {nd:NoD} {i:Nat} {pre:List YnD} {EA:Option Addr} {ec:Nat} (hrow:pre.map pgN++chnF ps lv (1000 - i) x=rowF ps root lv) (hn:ndAt ps x=some nd) (hl:nd.lv=lv) (hi:i < 1000):(pre++[(nd,x,EA,ec)]).map pgN++chnF ps lv (1000 - (i+1)) nd.right=rowF ps root lv:=by
 rw [← hrow,show 1000 - i=(1000 - (i+1))+1 by omega,chn_hit hn hl,List.map_append,List.append_assoc]; rfl
theorem krowg_in (l:Nat) (b1 b2 b3:Nat) (tt:TypeId) (tv:Value) (root lv:Int) (ps:List PgS) (J:Bool→List Nat→List YnD→World→Prop) (C0:List Nat) (w:World) (hRd:∀ A,Upd C0 w A→RdR b1 b2 b3 tt tv root lv ps A) (hok:OkS ps) (hoc:OkC ps) (hloc:∀ b C pre,(eJ (J b) C pre).loc) (hlt:∀ k∈C0,k < w.heap.size) (hJ0:J true C0 [] w) (hY:∀ C pre x A,ndAt ps x.2.1=some x.1→St A (C++(ynR x).fp) [eJ (J true) C pre,ynR x] A→pre.length < 1000→YieldAt Fence.wide 1 Tryz.prog l (ynE x) A fun e B=>∃ b,e= .returned (.bool b)∧∃ C',St A (C++(ynR x).fp) [eJ (J b) C' (pre++[x]),ynR x] B):
  Calls Tryz.prog 101 #[.func (.yield l) #[] #[], .pointer (some ⟨b1,0,none⟩), .pointer (some ⟨b2,0,none⟩), .pointer (some ⟨b3,0,none⟩)] w (RyPost w root lv ps J C0):=by
 have st0:St w C0 [eJ (J true) C0 [],eYs [] []] w:=(St.lend (E:=eJ (J true) C0 []) hJ0 (hloc _ _ _) hlt).yn0
 go_enter Tryz.func101,Tryz.ntmps101
 have hst0:=st0
 refine wp_seq (wp_region_Y [0,0,3,7,15,15,0,95,255] [[],[],[],[],[],[],[],[4]] [[],[],[2,3],[],[],[],[4],[5]] [[],[],[],[],[],[],[],[4]] [.c 9 (.iface tt (tv)), .c 10 (vi root), .a 11, .a 8, .a 12, .c 13 (.bool ((ndAt ps root).isSome)), .a 5, .n, .k 6 (.bool ((ndAt ps root).isSome))] (fun ix σ β X=>match ix with | 0=>True | 1=>True | 2=>σ 11= .tuple #[.agg #[vi (iv (tg (tg (β 11) 0) 0)),vi ((ndZ ps root).lv),vi ((ndZ ps root).right), .string ((ndZ ps root).high), .bool ((ndZ ps root).dead), .slice (sA (tg (tg (β 11) 0) 5)) ((ndZ ps root).es.length) (sC (tg (tg (β 11) 0) 5)),vi (((ndZ ps root).free:Int))], .bool ((ndAt ps root).isSome)]∧X 2=eO 89 3 (.slice (sA (tg (tg (β 11) 0) 5)) ((ndZ ps root).es.length) (sC (tg (tg (β 11) 0) 5))) ((ndZ ps root).es.length) ((ndZ ps root).es.flatMap enC)∧X 3=eFt ((ndAt ps root).isSome=true→(iv (tg (tg (β 11) 0) 0))=root) | 3=>σ 8= .tuple #[.agg #[vi (iv (tg (tg (β 11) 0) 0)),vi ((ndZ ps root).lv),vi ((ndZ ps root).right), .string ((ndZ ps root).high), .bool ((ndZ ps root).dead), .slice (sA (tg (tg (β 11) 0) 5)) ((ndZ ps root).es.length) (sC (tg (tg (β 11) 0) 5)),vi (((ndZ ps root).free:Int))], .bool ((ndAt ps root).isSome)] | 4=>σ 12= .agg #[vi (iv (tg (tg (β 11) 0) 0)),vi ((ndZ ps root).lv),vi ((ndZ ps root).right), .string ((ndZ ps root).high), .bool ((ndZ ps root).dead), .slice (sA (tg (tg (β 11) 0) 5)) ((ndZ ps root).es.length) (sC (tg (tg (β 11) 0) 5)),vi (((ndZ ps root).free:Int))] | 5=>True | 6=>σ 5=vp (pb (β 5))∧X 4=eB (pb (β 5)) 84 #[vi 0,vi 0,vi 0, .string ByteArray.empty, .bool false, .slice none 0 0,vi 0] | 7=>X 5=eB (pb (β 5)) 84 #[vi (iv (tg (tg (β 11) 0) 0)),vi ((ndZ ps root).lv),vi ((ndZ ps root).right), .string ((ndZ ps root).high), .bool ((ndZ ps root).dead), .slice (sA (tg (tg (β 11) 0) 5)) ((ndZ ps root).es.length) (sC (tg (tg (β 11) 0) 5)),vi (((ndZ ps root).free:Int))] | _=>True) [0,1,2,3,5] [0,1,2,3,4,5,6,7] [(5,6,3,7),(1,3,1,2),(0,0,3,3),(0,4,2,2)] hst0 ?_ ?_ ?_)
 ·exact fun ix _ _ _ _ _ _ hs hb hx h=>match ix,h with
  | 2,h=>by dsimp only; rw [← hs 11 rfl,← hb 11 rfl,← hx 2 rfl,← hx 3 rfl]; exact h
  | 3,h=>by dsimp only; rw [← hs 8 rfl,← hb 11 rfl]; exact h
  | 4,h=>by dsimp only; rw [← hs 12 rfl,← hb 11 rfl]; exact h
  | 6,h=>by dsimp only; rw [← hs 5 rfl,← hb 5 rfl,← hx 4 rfl]; exact h
  | 7,h=>by dsimp only; rw [← hb 5 rfl,← hb 11 rfl,← hx 5 rfl]; exact h
  | 0, _ | 1, _ | 5, _ | _+8, _=>trivial
 ·refine ⟨?_,?_,?_,?_,?_,?_,?_,?_,trivial⟩
  ·exact xs4 rfl id fun cx=>run_load1 rfl (by kernel_rfl) (cx.ou 1) ((Blk.ext (hRd _ cx.upd).b1 (Ext.refl _)).cell 0)
  ·exact xs4 rfl id fun cx=>run_load1 rfl (by kernel_rfl) (cx.ou 2) ((Blk.ext (hRd _ cx.upd).b2 (Ext.refl _)).cell 0)
  ·refine svA fun ρ β W X cx=>?_
   refine DoesU.call (run_callF (args:=#[.iface tt (tv),vi root]) rfl cx.sees rfl (by kernel_rfl) (map2 (cx.an 0) (cx.an 1))) ?_
   refine (kat_u _ _ ps root _ (hRd _ cx.upd).pgs hok hoc).mono ?_
   rintro e W1 ⟨px4,EA4,ec4,rfl,hs4⟩
   refine ⟨_,rfl,post_st [eO 89 3 (.slice EA4 (ndZ ps root).es.length ec4) (ndZ ps root).es.length ((ndZ ps root).es.flatMap enC),eFt ((ndAt ps root).isSome=true→px4=root)] rfl rfl hs4 (fun σ β' X' hs hb hv hN=>?_)⟩
   have hv1:=(hv 11 rfl).1; have hv2:=(hv 11 rfl).2
   exact ⟨hv1.trans (by rw [hv2]; rfl),(by rw [hv2]; exact (List.cons.inj hN).1),(by rw [hv2]; exact (List.cons.inj (List.cons.inj hN).2).1)⟩
  ·exact sv rfl rfl rfl rfl rfl _ (fun _ _ _ h=>h) (fun β β' h=>by rw [h 11 (by decide)]) fun ρ β W X cx=>run_move' rfl (dTn (cx.an 2)).1
  ·exact sv rfl rfl rfl rfl rfl _ (fun _ _ _ h=>h) (fun β β' h=>by rw [h 11 (by decide)]) fun ρ β W X cx=>run_extract' rfl (dTn (cx.an 3)) rfl
  ·exact xs4 rfl id fun cx=>run_extract' rfl (dTn (cx.an 3)) rfl
  ·refine svA fun ρ β W X cx=>?_
   exact dv_alloc (cs:=#[vi 0,vi 0,vi 0, .string ByteArray.empty, .bool false, .slice none 0 0,vi 0]) rfl (by kernel_rfl) rfl rfl (fun σ β' X' hs hb hv hx=>⟨hv,hx⟩)
  ·refine svA fun ρ β W X cx=>?_
   exact dv_store (n:=7) rfl (dTn (cx.an 6)).1 (dTn (cx.an 4)) (by kernel_rfl) (by kernel_rfl) (by kernel_rfl) cx (dTn (cx.an 6)).2 rfl (nle rfl) (by kernel_rfl) rfl rfl rfl (fun σ β' X' hs hb hx=>by rw [hb 5,hb 11]; exact hx)
 intro σ β X W1 hD hst1 fr hfr
 obtain ⟨px11_1,hu_px11_1⟩:∃ z,iv (tg (tg (β 11) 0) 0)=z:=⟨_,rfl⟩
 obtain ⟨EA11_1,hu_EA11_1⟩:∃ z,sA (tg (tg (β 11) 0) 5)=z:=⟨_,rfl⟩
 obtain ⟨ec11_1,hu_ec11_1⟩:∃ z,sC (tg (tg (β 11) 0) 5)=z:=⟨_,rfl⟩
 obtain ⟨B5_1,hu_B5_1⟩:∃ z,pb (β 5)=z:=⟨_,rfl⟩
 simp only [exq 2 ((dTn (hD 2 lq)).2.1),exq 3 ((dTn (hD 2 lq)).2.2),exq 5 ((dTn (hD 7 lq))),hu_px11_1,hu_EA11_1,hu_ec11_1,hu_B5_1] at hst1
 simp only [ed 11 ((dTn (hD 2 lq)).1),ed 8 ((dTn (hD 3 lq))),ed 12 ((dTn (hD 4 lq))),ed 5 ((dTn (hD 6 lq)).1),hu_px11_1,hu_EA11_1,hu_ec11_1,hu_B5_1] at hfr
 clear hD hu_px11_1 hu_EA11_1 hu_ec11_1 hu_B5_1; subst hfr; clear σ β X
 refine then_normal (wp_seq (sqr (sqp [.k 7 (vi 1)] ?_)))
 refine then_normal (wp_seq (wp_block ?_))
 refine wp_loopT (fun t_ mz az W=>∃ x:Int,∃ px:Int,∃ nd:NoD,∃ is:Bool,∃ EA:Option Addr,∃ ec:Nat,∃ s:Nat,(1≤s∧s≤1000)∧is=(ndAt ps x).isSome∧nd=ndZ ps x∧(is=true→px=x)∧dscF ps lv 1000 root=dscF ps lv (1001 - s) x∧mz=1000 - s∧az=⟨(ovr (jv az) [(6,6,0,[.bool is,vi ((s:Int))]),(6,14,29,[])] t_).toArray,[]⟩∧St w C0 [eJ (J true) C0 [],eB B5_1 84 #[vi px,vi nd.lv,vi nd.right, .string nd.high, .bool nd.dead, .slice EA nd.es.length ec,vi ((nd.free:Int))],eO 89 3 (.slice EA nd.es.length ec) nd.es.length (nd.es.flatMap enC),eYs [] []] W) (1000 - 1) ?_ ?_
 · -- the loop begins
   exact ⟨root,px11_1,(ndZ ps root),(ndAt ps root).isSome,EA11_1,ec11_1,1,⟨Nat.le_refl _,by decide⟩,rfl,rfl,fun h=>(hst1.get 3 rfl).holds h,rfl,rfl,(by kernel_rfl),hst1.pk [0,4,2,1]⟩
 rintro n3 a3 W3 ⟨x,px,nd,is,EA,ec,s,hs,his,hnz,hpx,hds,rfl,hj_,hst3⟩
 refine ovz hj_ fun u3_=>?_
 have hN:=ndz_ok hok x
 rw [← hnz] at hN
 have hN1:=hN.len
 refine wp_seq (wp_seq (sqr (sqp [.m 14 6, .m 15 14] ?_)))
 refine sqw' 15 [16,17,18,19] ?_ rfl (fun hq=>?_) ?_
 rotate_left
 ·refine sqp [.k 16 (.pointer (some ⟨B5_1,1,none⟩))] ?_
  refine sqld 1 hst3 ?_
  refine sql (vi lv) hst3 (fun cx=>run_load1 rfl (by kernel_rfl) (cx.ou 3) ((Blk.ext (hRd _ cx.upd).b3 (Ext.refl _)).cell 0)) ?_
  refine sqp [.k 19 (.bool (decide (lv < nd.lv)))] ?_
  exact sqe
 refine sqwx ?_
 refine sqp [sPa 20 is (decide (lv < nd.lv)), .m 21 20] ?_
 refine sqw' 21 [22,23,24,25] ?_ rfl (fun hq=>?_) ?_
 rotate_left
 ·refine sqp [.k 22 (.pointer (some ⟨B5_1,5,none⟩))] ?_
  refine sqld 1 hst3 ?_
  refine sqp [.k 24 (vi ((nd.es.length:Int))), .k 25 (.bool (decide (0 < (nd.es.length:Int))))] ?_
  exact sqe
 refine sqwx ?_
 refine sqp [sPa 26 (is&&(decide (lv < nd.lv))) (decide (0 < (nd.es.length:Int))), .m 27 26] ?_
 refine sqw 27 [28,29] rfl (fun _=>sqp [.m 28 7, .k 29 (.bool (decide ((s:Int) < 1000)))] sqe) ?_
 refine sqp [sPa 30 ((is&&(decide (lv < nd.lv)))&&(decide (0 < (nd.es.length:Int)))) (decide ((s:Int) < 1000))] ?_
 refine then_normal (wbs (fun hs21=>?_) fun hs21=>?_)
 ·have hs21p:=hs21
  simp only [zB] at hs21p
  obtain ⟨⟨⟨hs21p1,hs21p2⟩,hs21p3⟩,hs21p4⟩:=hs21p
  refine wp_skip (then_normal (wp_seq (wp_block ?_)))
  have hno_:ndAt ps x=some nd:=nd_is his hnz hs21p1
  refine wp_region_Y [0,0,2,6,14,30,63,127,255,255,511,2047] [[],[],[1],[2],[],[2],[],[],[],[],[1]] [[],[],[],[],[],[],[4,5],[],[],[],[6]] [[],[],[],[],[],[],[],[],[],[],[1]] [.c 34 (.iface tt (tv)), .k 35 (.pointer (some ⟨B5_1,5,none⟩)), .c 36 (.slice EA nd.es.length ec), .c 37 (.pointer (some ((ad EA).add (0*3)))), .c 38 (.pointer (some ((ad EA).add (0*3+2)))), .c 39 (vi ((nd.es.getD 0 en0).2.2)), .a 40, .a 33, .a 41, .c 42 (.bool ((ndAt ps ((nd.es.getD 0 en0).2.2)).isSome)), .n, .k 6 (.bool ((ndAt ps ((nd.es.getD 0 en0).2.2)).isSome))] (fun ix σ β X=>match ix with | 0=>True | 1=>True | 2=>True | 3=>True | 4=>True | 5=>True | 6=>σ 40= .tuple #[.agg #[vi (iv (tg (tg (β 40) 0) 0)),vi ((ndZ ps ((nd.es.getD 0 en0).2.2)).lv),vi ((ndZ ps ((nd.es.getD 0 en0).2.2)).right), .string ((ndZ ps ((nd.es.getD 0 en0).2.2)).high), .bool ((ndZ ps ((nd.es.getD 0 en0).2.2)).dead), .slice (sA (tg (tg (β 40) 0) 5)) ((ndZ ps ((nd.es.getD 0 en0).2.2)).es.length) (sC (tg (tg (β 40) 0) 5)),vi (((ndZ ps ((nd.es.getD 0 en0).2.2)).free:Int))], .bool ((ndAt ps ((nd.es.getD 0 en0).2.2)).isSome)]∧X 4=eO 89 3 (.slice (sA (tg (tg (β 40) 0) 5)) ((ndZ ps ((nd.es.getD 0 en0).2.2)).es.length) (sC (tg (tg (β 40) 0) 5))) ((ndZ ps ((nd.es.getD 0 en0).2.2)).es.length) ((ndZ ps ((nd.es.getD 0 en0).2.2)).es.flatMap enC)∧X 5=eFt ((ndAt ps ((nd.es.getD 0 en0).2.2)).isSome=true→(iv (tg (tg (β 40) 0) 0))=((nd.es.getD 0 en0).2.2)) | 7=>σ 33= .tuple #[.agg #[vi (iv (tg (tg (β 40) 0) 0)),vi ((ndZ ps ((nd.es.getD 0 en0).2.2)).lv),vi ((ndZ ps ((nd.es.getD 0 en0).2.2)).right), .string ((ndZ ps ((nd.es.getD 0 en0).2.2)).high), .bool ((ndZ ps ((nd.es.getD 0 en0).2.2)).dead), .slice (sA (tg (tg (β 40) 0) 5)) ((ndZ ps ((nd.es.getD 0 en0).2.2)).es.length) (sC (tg (tg (β 40) 0) 5)),vi (((ndZ ps ((nd.es.getD 0 en0).2.2)).free:Int))], .bool ((ndAt ps ((nd.es.getD 0 en0).2.2)).isSome)] | 8=>σ 41= .agg #[vi (iv (tg (tg (β 40) 0) 0)),vi ((ndZ ps ((nd.es.getD 0 en0).2.2)).lv),vi ((ndZ ps ((nd.es.getD 0 en0).2.2)).right), .string ((ndZ ps ((nd.es.getD 0 en0).2.2)).high), .bool ((ndZ ps ((nd.es.getD 0 en0).2.2)).dead), .slice (sA (tg (tg (β 40) 0) 5)) ((ndZ ps ((nd.es.getD 0 en0).2.2)).es.length) (sC (tg (tg (β 40) 0) 5)),vi (((ndZ ps ((nd.es.getD 0 en0).2.2)).free:Int))] | 9=>True | 10=>X 6=eB B5_1 84 #[vi (iv (tg (tg (β 40) 0) 0)),vi ((ndZ ps ((nd.es.getD 0 en0).2.2)).lv),vi ((ndZ ps ((nd.es.getD 0 en0).2.2)).right), .string ((ndZ ps ((nd.es.getD 0 en0).2.2)).high), .bool ((ndZ ps ((nd.es.getD 0 en0).2.2)).dead), .slice (sA (tg (tg (β 40) 0) 5)) ((ndZ ps ((nd.es.getD 0 en0).2.2)).es.length) (sC (tg (tg (β 40) 0) 5)),vi (((ndZ ps ((nd.es.getD 0 en0).2.2)).free:Int))] | _=>True) [0,2,3,4,5,6] [0,2,3,4,5,6,7,8,9,10] [(6,11,1,7),(26,7,1,27),(0,0,7,7),(0,8,2,2)] hst3 ?_ ?_ ?_
  ·exact fun ix _ _ _ _ _ _ hs hb hx h=>match ix,h with
   | 6,h=>by dsimp only; rw [← hs 40 rfl,← hb 40 rfl,← hx 4 rfl,← hx 5 rfl]; exact h
   | 7,h=>by dsimp only; rw [← hs 33 rfl,← hb 40 rfl]; exact h
   | 8,h=>by dsimp only; rw [← hs 41 rfl,← hb 40 rfl]; exact h
   | 10,h=>by dsimp only; rw [← hb 40 rfl,← hx 6 rfl]; exact h
   | 0, _ | 1, _ | 2, _ | 3, _ | 4, _ | 5, _ | 9, _ | _+11, _=>trivial
  ·refine ⟨?_,?_,?_,?_,?_,?_,?_,?_,?_,?_,trivial⟩
   ·exact xs4 rfl id fun cx=>run_load1 rfl (by kernel_rfl) (cx.ou 1) ((Blk.ext (hRd _ cx.upd).b1 (Ext.refl _)).cell 0)
   ·exact xs4 rfl id fun cx=>run_load1 rfl (by kernel_rfl) (cx.an 1) ((cx.bi 1 rfl).cell 5)
   ·exact xs4 rfl id fun cx=>run_indexSlM (e:=89) (m:=0) (sz:=3) rfl (by kernel_rfl) (by kernel_rfl) (cx.an 2) (cx.co _) (by omega) (by omega) (At.of_ownN (cx.ri 2 rfl)) (flatPos (sz:=3) enC_len (by decide) (by omega))
   ·exact xs4 rfl id fun cx=>run_fieldAd rfl (by kernel_rfl) (cx.an 3)
   ·exact xs4 rfl id fun cx=>run_load1 rfl (by kernel_rfl) (cx.an 4) (At.eltc (f:=enC) (k:=2) enC_len (At.of_ownN (cx.ri 2 rfl)) (en_get (by omega)) rfl)
   ·refine svA fun ρ β W X cx=>?_
    refine DoesU.call (run_callF (args:=#[.iface tt (tv),vi ((nd.es.getD 0 en0).2.2)]) rfl cx.sees rfl (by kernel_rfl) (map2 (cx.an 0) (cx.an 5))) ?_
    refine (kat_u _ _ ps ((nd.es.getD 0 en0).2.2) _ (hRd _ cx.upd).pgs hok hoc).mono ?_
    rintro e W1 ⟨px4,EA4,ec4,rfl,hs4⟩
    refine ⟨_,rfl,post_st [eO 89 3 (.slice EA4 (ndZ ps ((nd.es.getD 0 en0).2.2)).es.length ec4) (ndZ ps ((nd.es.getD 0 en0).2.2)).es.length ((ndZ ps ((nd.es.getD 0 en0).2.2)).es.flatMap enC),eFt ((ndAt ps ((nd.es.getD 0 en0).2.2)).isSome=true→px4=((nd.es.getD 0 en0).2.2))] rfl rfl hs4 (fun σ β' X' hs hb hv hN=>?_)⟩
    have hv1:=(hv 40 rfl).1; have hv2:=(hv 40 rfl).2
    exact ⟨hv1.trans (by rw [hv2]; rfl),(by rw [hv2]; exact (List.cons.inj hN).1),(by rw [hv2]; exact (List.cons.inj (List.cons.inj hN).2).1)⟩
   ·exact sv rfl rfl rfl rfl rfl _ (fun _ _ _ h=>h) (fun β β' h=>by rw [h 40 (by decide)]) fun ρ β W X cx=>run_move' rfl (dTn (cx.an 6)).1
   ·exact sv rfl rfl rfl rfl rfl _ (fun _ _ _ h=>h) (fun β β' h=>by rw [h 40 (by decide)]) fun ρ β W X cx=>run_extract' rfl (dTn (cx.an 7)) rfl
   ·exact xs4 rfl id fun cx=>run_extract' rfl (dTn (cx.an 7)) rfl
   ·refine svA fun ρ β W X cx=>?_
    exact dv_store (n:=7) rfl (cx.ou 5) (dTn (cx.an 8)) (by kernel_rfl) (by kernel_rfl) (by kernel_rfl) cx (cx.init 1 _ rfl) rfl (nle rfl) (by kernel_rfl) rfl rfl rfl (fun σ β' X' hs hb hx=>by rw [hb 40]; exact hx)
  intro σ β X W22 hD hst22 fr hfr
  obtain ⟨px40_22,hu_px40_22⟩:∃ z,iv (tg (tg (β 40) 0) 0)=z:=⟨_,rfl⟩
  obtain ⟨EA40_22,hu_EA40_22⟩:∃ z,sA (tg (tg (β 40) 0) 5)=z:=⟨_,rfl⟩
  obtain ⟨ec40_22,hu_ec40_22⟩:∃ z,sC (tg (tg (β 40) 0) 5)=z:=⟨_,rfl⟩
  simp only [exq 4 ((dTn (hD 6 lq)).2.1),exq 5 ((dTn (hD 6 lq)).2.2),exq 6 ((dTn (hD 10 lq))),hu_px40_22,hu_EA40_22,hu_ec40_22] at hst22
  simp only [ed 40 ((dTn (hD 6 lq)).1),ed 33 ((dTn (hD 7 lq))),ed 41 ((dTn (hD 8 lq))),hu_px40_22,hu_EA40_22,hu_ec40_22] at hfr
  clear hD hu_px40_22 hu_EA40_22 hu_ec40_22; subst hfr; clear σ β X
  refine blk_normal (then_normal (sqr (sqp [.m 31 7,sI 32 ((s:Int)+1) (by omega), .m 7 32] ?_)))
  refine then_normal ?_
  have hft_:=(hst22.get 4 rfl).holds
  refine ⟨1000 - ((s+1)),by omega,?_⟩
  exact ⟨(nd.es.getD 0 en0).2.2,px40_22,(ndZ ps (nd.es.getD 0 en0).2.2),(ndAt ps (nd.es.getD 0 en0).2.2).isSome,EA40_22,ec40_22,(s+1),by omega,rfl,rfl,hft_,dsc_step hds ⟨by omega,by omega⟩ hno_ (by omega) (by omega),rfl,(by kernel_rfl),hst22.pk [0,5,3,2]⟩
 have hs21p:=hs21
 simp only [zB] at hs21p
 refine wp_exit (then_exit (then_exit (blk_eq (then_normal (wp_seq (wp_seq (sqr (sqp [.m 43 6, .k 44 (.bool (!(is))), .m 45 44] ?_))))))))
 refine sqw' 45 [46,47,48,49] ?_ rfl (fun hq=>?_) ?_
 rotate_left
 ·refine sqp [.k 46 (.pointer (some ⟨B5_1,1,none⟩))] ?_
  refine sqld 1 hst3 ?_
  refine sql (vi lv) hst3 (fun cx=>run_load1 rfl (by kernel_rfl) (cx.ou 3) ((Blk.ext (hRd _ cx.upd).b3 (Ext.refl _)).cell 0)) ?_
  refine sqp [.k 49 (.bool (nd.lv != lv))] ?_
  exact sqe
 refine sqwx ?_
 refine sqp [sPo 50 (!(is)) (nd.lv != lv)] ?_
 refine then_normal (wbs (fun hs34=>?_) fun hs34=>?_)
 ·have hs34p:=hs34
  simp only [zB] at hs34p
  refine wp_ret (then_ret ?_)
  refine bpr (.tuple #[]) (by simp [results,Tryz.results101,go_sem]) ?_
  exact ⟨⟨_,rfl⟩,true, _, _, _,hst3.pick [0,3] (by decide) rfl,YnZ.all (row_off his hnz hds hs (fun e hh=>by have h_:=hs21; rw [e,decide_eq_true hh.1,decide_eq_true (show 0 < (nd.es.length:Int) by omega),decide_eq_true (show (s:Int) < 1000 by omega)] at h_; cases h_) (fun e=>by have h_:=hs34; rw [e] at h_; simpa using h_)).symm⟩
 have hs34p:=hs34
 simp only [zB] at hs34p
 obtain ⟨hs34p1,hs34p2⟩:=hs34p
 refine wp_skip (then_normal (wp_seq (sqr (sqp [.k 51 (vi 0)] ?_))))
 refine then_normal (wp_block ?_)
 have hno_:ndAt ps x=some nd:=nd_is his hnz hs34p1
 obtain rfl:x=px:=(hpx hs34p1).symm
 have hlv_:nd.lv=lv:=hs34p2
 have hrow_:=row_begin hds hs hno_ hlv_
 refine wp_loopT (fun t_ mz az W=>∃ i:Nat,∃ y:Int,∃ n1:NoD,∃ EB:Option Addr,∃ eb:Nat,∃ CC:List Nat,∃ pre:List YnD,∃ fp:List Nat,i≤1000∧ndAt ps y=some n1∧n1.lv=lv∧pre.map pgN++chnF ps lv (1000 - i) y=rowF ps root lv∧pre.length=i∧mz=1000 - i∧az=⟨(ovr (jv az) [(6,6,1,[]),(44,51,0,[vi ((i:Int))]),(0,52,21,[])] t_).toArray,[]⟩∧St w C0 [eJ (J true) CC pre,eB B5_1 84 #[vi y,vi n1.lv,vi n1.right, .string n1.high, .bool n1.dead, .slice EB n1.es.length eb,vi ((n1.free:Int))],eO 89 3 (.slice EB n1.es.length eb) n1.es.length (n1.es.flatMap enC),eYs pre fp] W) (1000 - 0) ?_ ?_
 · -- the loop begins
   exact ⟨0,x,nd,EA,ec,C0,[],[],Nat.zero_le _,hno_,hlv_,hrow_,rfl,rfl,(by kernel_rfl),hst3.pk [0,1,2,3]⟩
 rintro n36 a36 W36 ⟨i,y,n1,EB,eb,CC,pre,fp,hi,hn7,hlv,hrow,hpl,rfl,hj_,hst36⟩
 refine ovz hj_ fun u36_=>?_
 have hN:=nd_ok hok hn7
 have hN1:=hN.len
 refine wp_seq (sqr (sqp [.k 52 (.bool (decide ((i:Int) < 1000)))] ?_))
 refine then_normal (wp_seq (wds (fun hs38 hs38p=>?_) fun hs38 hs38p=>?_))
 ·refine wp_skip (then_normal (wp_seq (wp_block (wp_seq (wp_seq ?_)))))
  have hi7:i < 1000:=by omega
  have hyb_:=hst36.blk 1 rfl
  have hpk_:=hst36.pick [0,2,1,3] (by decide) rfl
  have hyy_:=hY CC pre (n1,y,EB,eb) _ hn7 hpk_.borrow (by omega)
  refine wp_region4In (wpOpsIn_val rfl rfl rfl (run_move' rfl rfl) rfl (wpOpsIn_val rfl rfl rfl (run_loadB (n:=7) rfl (by kernel_rfl) (by kernel_rfl) rfl hyb_ (nle rfl) rfl) rfl (wpOpsIn_ylb (args:=ynE (n1,y,EB,eb)) (R:=fun b B=>∃ C',St _ (CC++(ynR (n1,y,EB,eb)).fp) [eJ (J b) C' (pre++[(n1,y,EB,eb)]),ynR (n1,y,EB,eb)] B) (fun b_=>[.func (.yield l) #[] #[],vp b1,vp b2,vp b3,undef,vp B5_1,u36_ 6,vi ((s:Int)), .tuple #[.agg #[vi px11_1,vi ((ndZ ps root).lv),vi ((ndZ ps root).right), .string ((ndZ ps root).high), .bool ((ndZ ps root).dead), .slice EA11_1 ((ndZ ps root).es.length) ec11_1,vi (((ndZ ps root).free:Int))], .bool ((ndAt ps root).isSome)], .iface tt (tv),vi root, .tuple #[.agg #[vi px11_1,vi ((ndZ ps root).lv),vi ((ndZ ps root).right), .string ((ndZ ps root).high), .bool ((ndZ ps root).dead), .slice EA11_1 ((ndZ ps root).es.length) ec11_1,vi (((ndZ ps root).free:Int))], .bool ((ndAt ps root).isSome)], .agg #[vi px11_1,vi ((ndZ ps root).lv),vi ((ndZ ps root).right), .string ((ndZ ps root).high), .bool ((ndZ ps root).dead), .slice EA11_1 ((ndZ ps root).es.length) ec11_1,vi (((ndZ ps root).free:Int))], .bool ((ndAt ps root).isSome), .bool is, .bool is,mb is (.pointer (some ⟨B5_1,1,none⟩)),mb is (vi nd.lv),mb is (vi lv),mb is (.bool (decide (lv < nd.lv))), .bool (is&&(decide (lv < nd.lv))), .bool (is&&(decide (lv < nd.lv))),mb (is&&(decide (lv < nd.lv))) (.pointer (some ⟨B5_1,5,none⟩)),mb (is&&(decide (lv < nd.lv))) (.slice EA nd.es.length ec),mb (is&&(decide (lv < nd.lv))) (vi ((nd.es.length:Int))),mb (is&&(decide (lv < nd.lv))) (.bool (decide (0 < (nd.es.length:Int)))), .bool ((is&&(decide (lv < nd.lv)))&&(decide (0 < (nd.es.length:Int)))), .bool ((is&&(decide (lv < nd.lv)))&&(decide (0 < (nd.es.length:Int)))),mb ((is&&(decide (lv < nd.lv)))&&(decide (0 < (nd.es.length:Int)))) (vi ((s:Int))),mb ((is&&(decide (lv < nd.lv)))&&(decide (0 < (nd.es.length:Int)))) (.bool (decide ((s:Int) < 1000))), .bool (((is&&(decide (lv < nd.lv)))&&(decide (0 < (nd.es.length:Int))))&&(decide ((s:Int) < 1000))),u3_ 31,u3_ 32,u3_ 33,u3_ 34,u3_ 35,u3_ 36,u3_ 37,u3_ 38,u3_ 39,u3_ 40,u3_ 41,u3_ 42, .bool is, .bool (!(is)), .bool (!(is)),mb (!(!(is))) (.pointer (some ⟨B5_1,1,none⟩)),mb (!(!(is))) (vi nd.lv),mb (!(!(is))) (vi lv),mb (!(!(is))) (.bool (nd.lv != lv)), .bool ((!(is))||(nd.lv != lv)),vi ((i:Int)), .bool (decide ((i:Int) < 1000)), .func (.yield l) #[] #[], .agg #[vi y,vi n1.lv,vi n1.right, .string n1.high, .bool n1.dead, .slice EB n1.es.length eb,vi ((n1.free:Int))], .bool b_,u36_ 56,u36_ 57,u36_ 58,u36_ 59,u36_ 60,u36_ 61,u36_ 62,u36_ 63,u36_ 64,u36_ 65,u36_ 66,u36_ 67,u36_ 68,u36_ 69,u36_ 70,u36_ 71,u36_ 72]) rfl rfl rfl (fun r hr=>run_callY rfl rfl rfl (map1 rfl) hr) hyy_ (fun _=>rfl) fun b_ W39 ⟨C2,hJ2⟩ tt_ htt_=>?_)))
  have htt2_:tt_=[.func (.yield l) #[] #[],vp b1,vp b2,vp b3,undef,vp B5_1,u36_ 6,vi ((s:Int)), .tuple #[.agg #[vi px11_1,vi ((ndZ ps root).lv),vi ((ndZ ps root).right), .string ((ndZ ps root).high), .bool ((ndZ ps root).dead), .slice EA11_1 ((ndZ ps root).es.length) ec11_1,vi (((ndZ ps root).free:Int))], .bool ((ndAt ps root).isSome)], .iface tt (tv),vi root, .tuple #[.agg #[vi px11_1,vi ((ndZ ps root).lv),vi ((ndZ ps root).right), .string ((ndZ ps root).high), .bool ((ndZ ps root).dead), .slice EA11_1 ((ndZ ps root).es.length) ec11_1,vi (((ndZ ps root).free:Int))], .bool ((ndAt ps root).isSome)], .agg #[vi px11_1,vi ((ndZ ps root).lv),vi ((ndZ ps root).right), .string ((ndZ ps root).high), .bool ((ndZ ps root).dead), .slice EA11_1 ((ndZ ps root).es.length) ec11_1,vi (((ndZ ps root).free:Int))], .bool ((ndAt ps root).isSome), .bool is, .bool is,mb is (.pointer (some ⟨B5_1,1,none⟩)),mb is (vi nd.lv),mb is (vi lv),mb is (.bool (decide (lv < nd.lv))), .bool (is&&(decide (lv < nd.lv))), .bool (is&&(decide (lv < nd.lv))),mb (is&&(decide (lv < nd.lv))) (.pointer (some ⟨B5_1,5,none⟩)),mb (is&&(decide (lv < nd.lv))) (.slice EA nd.es.length ec),mb (is&&(decide (lv < nd.lv))) (vi ((nd.es.length:Int))),mb (is&&(decide (lv < nd.lv))) (.bool (decide (0 < (nd.es.length:Int)))), .bool ((is&&(decide (lv < nd.lv)))&&(decide (0 < (nd.es.length:Int)))), .bool ((is&&(decide (lv < nd.lv)))&&(decide (0 < (nd.es.length:Int)))),mb ((is&&(decide (lv < nd.lv)))&&(decide (0 < (nd.es.length:Int)))) (vi ((s:Int))),mb ((is&&(decide (lv < nd.lv)))&&(decide (0 < (nd.es.length:Int)))) (.bool (decide ((s:Int) < 1000))), .bool (((is&&(decide (lv < nd.lv)))&&(decide (0 < (nd.es.length:Int))))&&(decide ((s:Int) < 1000))),u3_ 31,u3_ 32,u3_ 33,u3_ 34,u3_ 35,u3_ 36,u3_ 37,u3_ 38,u3_ 39,u3_ 40,u3_ 41,u3_ 42, .bool is, .bool (!(is)), .bool (!(is)),mb (!(!(is))) (.pointer (some ⟨B5_1,1,none⟩)),mb (!(!(is))) (vi nd.lv),mb (!(!(is))) (vi lv),mb (!(!(is))) (.bool (nd.lv != lv)), .bool ((!(is))||(nd.lv != lv)),vi ((i:Int)), .bool (decide ((i:Int) < 1000)), .func (.yield l) #[] #[], .agg #[vi y,vi n1.lv,vi n1.right, .string n1.high, .bool n1.dead, .slice EB n1.es.length eb,vi ((n1.free:Int))], .bool b_,u36_ 56,u36_ 57,u36_ 58,u36_ 59,u36_ 60,u36_ 61,u36_ 62,u36_ 63,u36_ 64,u36_ 65,u36_ 66,u36_ 67,u36_ 68,u36_ 69,u36_ 70,u36_ 71,u36_ 72]:=htt_
  clear htt_; subst htt2_
  have hst39:St w C0 [eJ (J b_) C2 (pre++[(n1,y,EB,eb)]),eO 89 3 (.slice EB n1.es.length eb) n1.es.length (n1.es.flatMap enC),eB B5_1 84 #[vi y,vi n1.lv,vi n1.right, .string n1.high, .bool n1.dead, .slice EB n1.es.length eb,vi ((n1.free:Int))],eYs pre fp] W39:=hpk_.back hJ2
  refine wpOpsIn_val rfl rfl rfl (run_not rfl rfl rfl) rfl ?_
  unfold wpOpsIn
  refine then_normal ?_
  rcases Bool.eq_false_or_eq_true (b_) with hs40 | hs40
  ·subst hs40
   refine wcf rfl (wp_skip (then_normal (wp_seq (wp_region_Y [0,0,2,7,15,31,31,63,255] [[],[],[2],[],[],[],[],[2]] [[],[],[],[4,5],[],[],[],[6]] [[],[],[],[],[],[],[],[2]] [.c 58 (.iface tt (tv)), .k 59 (.pointer (some ⟨B5_1,2,none⟩)), .c 60 (vi n1.right), .a 61, .a 57, .a 62, .c 63 (.bool ((ndAt ps n1.right).isSome)), .n, .k 6 (.bool ((ndAt ps n1.right).isSome))] (fun ix σ β X=>match ix with | 0=>True | 1=>True | 2=>True | 3=>σ 61= .tuple #[.agg #[vi (iv (tg (tg (β 61) 0) 0)),vi ((ndZ ps n1.right).lv),vi ((ndZ ps n1.right).right), .string ((ndZ ps n1.right).high), .bool ((ndZ ps n1.right).dead), .slice (sA (tg (tg (β 61) 0) 5)) ((ndZ ps n1.right).es.length) (sC (tg (tg (β 61) 0) 5)),vi (((ndZ ps n1.right).free:Int))], .bool ((ndAt ps n1.right).isSome)]∧X 4=eO 89 3 (.slice (sA (tg (tg (β 61) 0) 5)) ((ndZ ps n1.right).es.length) (sC (tg (tg (β 61) 0) 5))) ((ndZ ps n1.right).es.length) ((ndZ ps n1.right).es.flatMap enC)∧X 5=eFt ((ndAt ps n1.right).isSome=true→(iv (tg (tg (β 61) 0) 0))=n1.right) | 4=>σ 57= .tuple #[.agg #[vi (iv (tg (tg (β 61) 0) 0)),vi ((ndZ ps n1.right).lv),vi ((ndZ ps n1.right).right), .string ((ndZ ps n1.right).high), .bool ((ndZ ps n1.right).dead), .slice (sA (tg (tg (β 61) 0) 5)) ((ndZ ps n1.right).es.length) (sC (tg (tg (β 61) 0) 5)),vi (((ndZ ps n1.right).free:Int))], .bool ((ndAt ps n1.right).isSome)] | 5=>σ 62= .agg #[vi (iv (tg (tg (β 61) 0) 0)),vi ((ndZ ps n1.right).lv),vi ((ndZ ps n1.right).right), .string ((ndZ ps n1.right).high), .bool ((ndZ ps n1.right).dead), .slice (sA (tg (tg (β 61) 0) 5)) ((ndZ ps n1.right).es.length) (sC (tg (tg (β 61) 0) 5)),vi (((ndZ ps n1.right).free:Int))] | 6=>True | 7=>X 6=eB B5_1 84 #[vi (iv (tg (tg (β 61) 0) 0)),vi ((ndZ ps n1.right).lv),vi ((ndZ ps n1.right).right), .string ((ndZ ps n1.right).high), .bool ((ndZ ps n1.right).dead), .slice (sA (tg (tg (β 61) 0) 5)) ((ndZ ps n1.right).es.length) (sC (tg (tg (β 61) 0) 5)),vi (((ndZ ps n1.right).free:Int))] | _=>True) [0,1,3,4,5,6] [0,2,3,4,5,6,7] [(6,8,1,7),(50,4,1,51),(0,0,4,4),(0,5,2,2)] hst39 ?_ ?_ ?_))))
   ·exact fun ix _ _ _ _ _ _ hs hb hx h=>match ix,h with
    | 3,h=>by dsimp only; rw [← hs 61 rfl,← hb 61 rfl,← hx 4 rfl,← hx 5 rfl]; exact h
    | 4,h=>by dsimp only; rw [← hs 57 rfl,← hb 61 rfl]; exact h
    | 5,h=>by dsimp only; rw [← hs 62 rfl,← hb 61 rfl]; exact h
    | 7,h=>by dsimp only; rw [← hb 61 rfl,← hx 6 rfl]; exact h
    | 0, _ | 1, _ | 2, _ | 6, _ | _+8, _=>trivial
   ·refine ⟨?_,?_,?_,?_,?_,?_,?_,trivial⟩
    ·exact xs4 rfl id fun cx=>run_load1 rfl (by kernel_rfl) (cx.ou 1) ((Blk.ext (hRd _ cx.upd).b1 (Ext.refl _)).cell 0)
    ·exact xs4 rfl id fun cx=>run_load1 rfl (by kernel_rfl) (cx.an 1) ((cx.bi 2 rfl).cell 2)
    ·refine svA fun ρ β W X cx=>?_
     refine DoesU.call (run_callF (args:=#[.iface tt (tv),vi n1.right]) rfl cx.sees rfl (by kernel_rfl) (map2 (cx.an 0) (cx.an 2))) ?_
     refine (kat_u _ _ ps n1.right _ (hRd _ cx.upd).pgs hok hoc).mono ?_
     rintro e W1 ⟨px4,EA4,ec4,rfl,hs4⟩
     refine ⟨_,rfl,post_st [eO 89 3 (.slice EA4 (ndZ ps n1.right).es.length ec4) (ndZ ps n1.right).es.length ((ndZ ps n1.right).es.flatMap enC),eFt ((ndAt ps n1.right).isSome=true→px4=n1.right)] rfl rfl hs4 (fun σ β' X' hs hb hv hN=>?_)⟩
     have hv1:=(hv 61 rfl).1; have hv2:=(hv 61 rfl).2
     exact ⟨hv1.trans (by rw [hv2]; rfl),(by rw [hv2]; exact (List.cons.inj hN).1),(by rw [hv2]; exact (List.cons.inj (List.cons.inj hN).2).1)⟩
    ·exact sv rfl rfl rfl rfl rfl _ (fun _ _ _ h=>h) (fun β β' h=>by rw [h 61 (by decide)]) fun ρ β W X cx=>run_move' rfl (dTn (cx.an 3)).1
    ·exact sv rfl rfl rfl rfl rfl _ (fun _ _ _ h=>h) (fun β β' h=>by rw [h 61 (by decide)]) fun ρ β W X cx=>run_extract' rfl (dTn (cx.an 4)) rfl
    ·exact xs4 rfl id fun cx=>run_extract' rfl (dTn (cx.an 4)) rfl
    ·refine svA fun ρ β W X cx=>?_
     exact dv_store (n:=7) rfl (cx.ou 5) (dTn (cx.an 5)) (by kernel_rfl) (by kernel_rfl) (by kernel_rfl) cx (cx.init 2 _ rfl) rfl (nle rfl) (by kernel_rfl) rfl rfl rfl (fun σ β' X' hs hb hx=>by rw [hb 61]; exact hx)
   intro σ β X W41 hD hst41 fr hfr
   obtain ⟨px61_41,hu_px61_41⟩:∃ z,iv (tg (tg (β 61) 0) 0)=z:=⟨_,rfl⟩
   obtain ⟨EA61_41,hu_EA61_41⟩:∃ z,sA (tg (tg (β 61) 0) 5)=z:=⟨_,rfl⟩
   obtain ⟨ec61_41,hu_ec61_41⟩:∃ z,sC (tg (tg (β 61) 0) 5)=z:=⟨_,rfl⟩
   simp only [exq 4 ((dTn (hD 3 lq)).2.1),exq 5 ((dTn (hD 3 lq)).2.2),exq 6 ((dTn (hD 7 lq))),hu_px61_41,hu_EA61_41,hu_ec61_41] at hst41
   simp only [ed 61 ((dTn (hD 3 lq)).1),ed 57 ((dTn (hD 4 lq))),ed 62 ((dTn (hD 5 lq))),hu_px61_41,hu_EA61_41,hu_ec61_41] at hfr
   clear hD hu_px61_41 hu_EA61_41 hu_ec61_41; subst hfr; clear σ β X
   refine then_normal (wp_seq (sqr (sqp [.m 64 6, .k 65 (.bool (!((ndAt ps n1.right).isSome))), .m 66 65] ?_)))
   refine sqw' 66 [67,68,69,70] ?_ rfl (fun hq=>?_) ?_
   rotate_left
   ·refine sqp [.k 67 (.pointer (some ⟨B5_1,1,none⟩))] ?_
    refine sqld 5 hst41 ?_
    refine sql (vi lv) hst41 (fun cx=>run_load1 rfl (by kernel_rfl) (cx.ou 3) ((Blk.ext (hRd _ cx.upd).b3 (Ext.refl _)).cell 0)) ?_
    refine sqp [.k 70 (.bool (((ndZ ps n1.right).lv) != lv))] ?_
    exact sqe
   refine sqwx ?_
   refine sqp [sPo 71 (!((ndAt ps n1.right).isSome)) (((ndZ ps n1.right).lv) != lv)] ?_
   refine then_normal (wbs (fun hs50=>?_) fun hs50=>?_)
   ·have hs50p:=hs50
    simp only [zB] at hs50p
    refine wp_ret (blk_ret (then_ret (then_ret (blk_ret ?_))))
    refine bpr (.tuple #[]) (by simp [results,Tryz.results101,go_sem]) ?_
    have hy51:=St.yn1 (y:=(n1,y,EB,eb)) (hst41.pick [2,1,0,3,4,5] (by decide) rfl)
    exact ⟨⟨_,rfl⟩,true, _, _, _,hy51.pick [1,0] (by decide) rfl,YnZ.all (row_fin2 hrow hn7 hlv hi7 (fun e=>by have h_:=hs50; rw [e] at h_; simpa using h_))⟩
   have hs50p:=hs50
   simp only [zB] at hs50p
   obtain ⟨hs50p1,hs50p2⟩:=hs50p
   refine wp_skip (blk_normal (then_normal (sqr (sqp [sI 72 ((i:Int)+1) (by omega), .m 51 72] ?_))))
   refine then_normal ?_
   have hft_:=(hst41.get 4 rfl).holds hs50p1
   obtain ⟨n2,hn2⟩:=Option.isSome_iff_exists.1 hs50p1
   have hz2:ndZ ps n1.right=n2:=by rw [ndZ,hn2]; rfl
   rw [hft_,hz2] at hst41
   have hlq_:n2.lv=lv:=by rw [← hz2]; exact hs50p2
   have hy54:=St.yn1 (y:=(n1,y,EB,eb)) (hst41.pick [2,1,0,3,4,5] (by decide) rfl)
   refine ⟨1000 - ((i+1)),by omega,?_⟩
   exact ⟨(i+1),n1.right,n2,EA61_41,ec61_41,C2,(pre++[(n1,y,EB,eb)]),(fp++(ynR (n1,y,EB,eb)).fp),by omega,hn2,hlq_,row_next hrow hn7 hlv hi7,by rw [List.length_append,hpl]; rfl,rfl,(by kernel_rfl),hy54.pk [1,4,2,0]⟩
  subst hs40
  have hy55:=St.yn1 (y:=(n1,y,EB,eb)) (hst39.pick [3,1,0,2] (by decide) rfl)
  refine wct rfl (wp_ret (then_ret (blk_ret (then_ret (then_ret (blk_ret ?_))))))
  refine bpr (.tuple #[]) (by simp [results,Tryz.results101,go_sem]) ?_
  exact ⟨⟨_,rfl⟩,false, _, _, _,hy55.pick [1,0] (by decide) rfl,YnZ.some (row_next (EA:=EB) (ec:=eb) hrow hn7 hlv hi7)⟩
 refine wp_exit (then_exit (then_exit (blk_eq ?_)))
 refine bpe (.tuple #[]) (by simp [results,Tryz.results101,go_sem]) ?_
 exact ⟨⟨_,rfl⟩,true, _, _, _,hst36.pick [0,3] (by decide) rfl,YnZ.all (row_fin hrow (by omega))⟩
theorem krow_seqG (b1 b2 b3:Nat) (tt:TypeId) (tv:Value) (root lv:Int) {ps:List PgS} (hok:OkS ps) (hoc:OkC ps):
  SeqG Tryz.prog 101 #[.pointer (some ⟨b1,0,none⟩), .pointer (some ⟨b2,0,none⟩), .pointer (some ⟨b3,0,none⟩)] ynE ynR (fun y=>ndAt ps y.2.1=some y.1) 1000 (YnZ (rowF ps root lv)) (RdR b1 b2 b3 tt tv root lv ps):=fun l J W C0 hRd hloc hC0 hJ0 hY=>
 callsIn_wide.2 (krowg_in l b1 b2 b3 tt tv root lv ps J C0 W hRd hok hoc hloc hC0 hJ0 hY)
/-- what it reads stays under changes elsewhere -/
theorem RdR.keep {b1 b2 b3:Nat} {tt:TypeId} {tv:Value} {root lv:Int} {ps:List PgS} {w0 W A:World} {L:List Ent} (h:St w0 [] (eB b1 78 #[.iface tt tv]::eB b2 3 #[.int .i64 root]::eB b3 3 #[.int .i64 lv]::L) W) (hS:PgsOk w0 tt tv ps) (hA:Upd (fps L) W A):RdR b1 b2 b3 tt tv root lv ps A:=by
 have hp1:=List.pairwise_cons.1 h.apart
 have hp2:=List.pairwise_cons.1 hp1.2
 have hp3:=List.pairwise_cons.1 hp2.2
 have key:∀ (b:Nat) (t:TypeId) (cs:Array Value),eB b t cs∈(eB b1 78 #[.iface tt tv]::eB b2 3 #[.int .i64 root]::eB b3 3 #[.int .i64 lv]::L)→(∀ e∈L,(eB b t cs).apart e)→Blk A b t cs:=fun b t cs hm hap=>by
  have ho:=h.ok _ hm
  refine ho.loc W A (fun k hk=>hA.block k (ho.own k hk).2 fun hkf=>?_) ho.holds
  obtain ⟨e,he,hke⟩:=fps_mem.1 hkf
  exact hap e he k hk hke
 refine ⟨key _ _ _ (by simp) fun e he=>hp1.1 e (by simp [he]),key _ _ _ (by simp) fun e he=>hp2.1 e (by simp [he]),key _ _ _ (by simp) fun e he=>hp3.1 e he,hS.ext (h.upd.join hA fun i hi=>?_).to_ext⟩
 obtain ⟨e,he,hke⟩:=fps_mem.1 hi
 have:=((h.ok e (by simp [he])).own i hke).1
 exact this
end
section
open Go.RowKit
theorem ynC_len (x:YnD):(ynC x).length=7:=rfl
theorem yn_snoc (L:List YnD) (x:YnD):L.flatMap ynC++ynC x=(L++[x]).flatMap ynC:=by simp
theorem Tryz.infoNd:(Tryz.prog.info? 84).map (fun i=>(i.zero,i.size,i.bytes))=some (some (.agg #[.int .i64 0, .int .i64 0, .int .i64 0, .string ByteArray.empty, .bool false, .slice none 0 0, .int .i64 0]),7,80):=by kernel_rfl
def pcp (i:Nat):Value→Nat
 | .func _ _ cs=>pb (cs.getD i undef)
 | _=>0
def RowPost (tt:TypeId) (tv:Value) (root lv:Int) (w:World) (e:Ending) (w':World):Prop:=∃ b1 b2 b3,e= .returned (.func (.func 101) #[] #[.pointer (some ⟨b1,0,none⟩), .pointer (some ⟨b2,0,none⟩), .pointer (some ⟨b3,0,none⟩)])∧St w [] [eB b1 78 #[.iface tt tv],eB b2 3 #[.int .i64 root],eB b3 3 #[.int .i64 lv]] w'
theorem krowc_any (tt:TypeId) (tv:Value) (root lv:Int) (w:World):
  Calls Tryz.prog 59 #[.iface tt (tv), .int .i64 root, .int .i64 lv] w (RowPost tt tv root lv w):=by
 go_enter Tryz.func59,Tryz.ntmps59
 have hst0:=St.start w
 refine wp_seq (sqr ?_)
 refine sqbx #[.iface tt (tv)] hst0 fun B3_1 W1 hst1=>?_
 refine sqbx #[vi root] hst1 fun B4_2 W2 hst2=>?_
 refine sqbx #[vi lv] hst2 fun B5_3 W3 hst3=>?_
 refine sqp [.k 6 (Go.Value.nilFunc)] ?_
 refine then_normal (wp_seq (sqr ?_))
 refine sqv (.func (.func 101) #[] #[vp B3_1,vp B4_2,vp B5_3]) hst3 (by
   exact sv0 rfl rfl rfl rfl rfl (fun _ _ _ h=>h) fun ρ β W X cx=>by
    have fF3:ρ (.tmp 3)=vp B3_1:=(cx.ou 3)
    have fF4:ρ (.tmp 4)=vp B4_2:=(cx.ou 4)
    have fF5:ρ (.tmp 5)=vp B5_3:=(cx.ou 5)
    simp [go_sem,Instr.makeFunc,fF3,fF4,fF5]) fun W5 hst5=>?_
 refine sqp [.m 6 7] ?_
 refine then_normal (wp_ret ?_)
 refine bpr (.func (.func 101) #[] #[vp B3_1,vp B4_2,vp B5_3]) (results_1 Tryz.results59 rpt) ?_
 exact ⟨_, _, _,rfl,hst5.pick [0,1,2] (by decide) rfl⟩
end
section
open Go.RowKit
/-- nodes collected, each with its entries -/
def eCL (SA:Option Addr) (L:List (Int×NoD)) (fp:List Nat):Ent:=⟨fp,fun W=>∃ xs:List YnD,xs.map pgN=L∧(∀ ad,SA=some ad→ad.block∈fp)∧At W SA (xs.flatMap ynC)∧∀ y∈xs,(∀ ad,y.2.2.1=some ad→ad.block∈fp)∧At W y.2.2.1 (y.1.es.flatMap enC)⟩
theorem eCL_self {e:Ent} {SA:Option Addr} {L:List (Int×NoD)} {fp:List Nat} (h:e=eCL SA L fp):e=eCL SA L e.fp:=by subst h; rfl
theorem eCL_loc (SA:Option Addr) (L:List (Int×NoD)) (fp:List Nat):(eCL SA L fp).loc:=fun W W' hk h=>by
 obtain ⟨xs,h1,h2,h3,h4⟩:=h
 exact ⟨xs,h1,h2,at_blocks h3 fun ad e _=>hk _ (h2 ad e),fun y hy=>⟨(h4 y hy).1,at_blocks (h4 y hy).2 fun ad e _=>hk _ ((h4 y hy).1 ad e)⟩⟩
def CgPost (L:List (Int×NoD)) (w:World) (e:Ending) (w':World):Prop:=∃ SA sc fp,e= .returned (.slice SA L.length sc)∧St w [] [eCL SA L fp] w'
theorem cg_done {w W:World} {SA:Option Addr} {sc n:Nat} {L:List (Int×NoD)} {xs:List YnD} {E:Ent} (hz:YnZ L true xs E) (h:St w [] [eO 84 7 (.slice SA n sc) n (xs.flatMap ynC),E] W) (hn:n=xs.length):CgPost L w (.returned (.slice SA n sc)) W:=by
 obtain ⟨hE,hL, _⟩:=hz
 have hL:=hL rfl
 subst hn hL
 have h1:=h.ok (eO 84 7 (.slice SA xs.length sc) xs.length (xs.flatMap ynC)) (by simp)
 have h2:=h.ok E (by simp)
 have hO:W.ownsRow 0 84 7 (.slice SA xs.length sc) xs.length (xs.flatMap ynC):=h1.holds
 have hR:(eYs xs E.fp).holds W:=by rw [← hE]; exact h2.holds
 refine ⟨SA,sc,(Value.ownBlock (.slice SA xs.length sc)).toList++E.fp,by rw [List.length_map],h.upd,fun x hx=>?_,List.pairwise_singleton _ _⟩
 rw [List.mem_singleton] at hx
 subst hx
 refine ⟨⟨xs,rfl,fun ad e=>List.mem_append_left _ (row_blk hO ad e),At.of_ownN hO,fun y hy=>⟨fun ad e=>List.mem_append_right _ ((hR y hy).1 ad e),(hR y hy).2⟩⟩,eCL_loc _ _ _,fun k hk=>?_⟩
 rcases List.mem_append.1 hk with hk | hk
 ·exact h1.own k hk
 ·exact h2.own k hk
theorem kapp_g (b1 b2 b3:Nat) (L:List (Int×NoD)) (w:World) (Px:YnD→Prop) (Rd:World→Prop) (hseq:SeqG Tryz.prog 101 #[.pointer (some ⟨b1,0,none⟩), .pointer (some ⟨b2,0,none⟩), .pointer (some ⟨b3,0,none⟩)] ynE ynR Px 1000 (YnZ L) Rd) (hRd:∀ A,Ext w A→Rd A):
  Calls Tryz.prog 100 #[.slice none 0 0, .func (.func 101) #[] #[.pointer (some ⟨b1,0,none⟩), .pointer (some ⟨b2,0,none⟩), .pointer (some ⟨b3,0,none⟩)]] w (CgPost L w):=by
 refine (callsIn_wide (n:=3)).1 (callsIn_of_wp_marks Tryz.func100 rfl trivial (wpIn_wide.2 ?_) rfl)
 simp only [Tryz.ntmps100,List.size_toArray,List.length_cons,List.length_nil,Nat.reduceAdd,Nat.reduceSub,Array.replicate_succ,Array.replicate_zero,List.push_toArray,List.append_toArray,List.nil_append,List.cons_append]
 have hst0:=St.start w
 refine wp_seq (wp_region_Y [0,0] [] [[0]] [] [.a 2, .k 4 (.slice none 0 0)] (fun ix σ β X=>match ix with | 0=>σ 2=vp (pb (β 2))∧X 0=eB (pb (β 2)) 131 #[.slice none 0 0] | _=>True) [0] [0] [(2,0,1,3),(1,1,1,2)] hst0 ?_ ?_ ?_)
 ·exact fun ix _ _ _ _ _ _ hs hb hx h=>match ix,h with
  | 0,h=>by dsimp only; rw [← hs 2 rfl,← hb 2 rfl,← hx 0 rfl]; exact h
  | _+1, _=>trivial
 ·refine ⟨?_,trivial⟩
  ·refine svA fun ρ β W X cx=>?_
   exact dv_box (cs:=#[.slice none 0 0]) rfl (cx.ou 0) rfl rfl rfl (fun σ β' X' hs hb hv hx=>⟨hv,hx⟩)
 intro σ β X W1 hD hst1 fr hfr
 obtain ⟨B2_1,hu_B2_1⟩:∃ z,pb (β 2)=z:=⟨_,rfl⟩
 simp only [exq 0 ((dTn (hD 0 lq)).2),hu_B2_1] at hst1
 simp only [ed 2 ((dTn (hD 0 lq)).1),hu_B2_1] at hfr
 clear hD hu_B2_1; subst hfr; clear σ β X
 refine then_normal (wp_seq (wp_seq (wp_region_P [0] [.k 6 (.func (.func 101) #[] #[vp b1,vp b2,vp b3])] [(6,0,1,7)] hst1 fun W2 hst2=>?_)))
 refine then_normal (wp_block ?_)
 have hn3:=nilrowN hst2 84 7
 simp only [List.cons_append,List.nil_append] at hn3
 have hp5:=hn3.pick [0,1] (by decide) rfl
 refine wp_rangeSG (α:=YnD) hp5 rfl (enters_of Tryz.func101 (by kernel_rfl) rfl) (encs:=ynE) (Ex:=ynR) (N:=1000) (Z:=YnZ L) (hseq) (fun A hA=>hRd A (Upd.to_ext (hp5.upd.join hA fun i hi=>(hp5.fps_own hi).1))) (fun _=>rfl) (fun bb pre L=>cond bb (∃ SA:Option Addr,∃ n:Nat,∃ sc:Nat,n=pre.length∧L=[eB B2_1 131 #[.slice SA n sc],eO 84 7 (.slice SA n sc) n (pre.flatMap ynC)]) (False)) ⟨none,0,0,rfl,rfl⟩ (fun xx a_ E_=>∃ BV:Nat,a_=⟨([.slice none 0 0, .func (.func 101) #[] #[vp b1,vp b2,vp b3],vp B2_1,undef, .slice none 0 0,vp BV, .func (.func 101) #[] #[vp b1,vp b2,vp b3], .agg #[vi xx.2.1,vi xx.1.lv,vi xx.1.right, .string xx.1.high, .bool xx.1.dead, .slice xx.2.2.1 xx.1.es.length xx.2.2.2,vi ((xx.1.free:Int))],undef,undef,undef,undef,undef]).toArray,[]⟩∧E_=eB BV 84 #[vi xx.2.1,vi xx.1.lv,vi xx.1.right, .string xx.1.high, .bool xx.1.dead, .slice xx.2.2.1 xx.1.es.length xx.2.2.2,vi ((xx.1.free:Int))]) (fun xx=>[.slice none 0 0, .func (.func 101) #[] #[vp b1,vp b2,vp b3],vp B2_1,undef, .slice none 0 0,undef, .func (.func 101) #[] #[vp b1,vp b2,vp b3], .agg #[vi xx.2.1,vi xx.1.lv,vi xx.1.right, .string xx.1.high, .bool xx.1.dead, .slice xx.2.2.1 xx.1.es.length xx.2.2.2,vi ((xx.1.free:Int))],undef,undef,undef,undef,undef]) (fun xx=>by kernel_rfl) ?_ ?_ ?_ ?_
 ·intro rl xx W4 K hK
  have hst4:=St.start W4
  refine wpIn_region_Y [0,1] [[],[0]] [[0],[1]] [[],[0]] [.a 5, .n] (fun ix σ β X=>match ix with | 0=>σ 5=vp (pb (β 5))∧X 0=eB (pb (β 5)) 84 #[vi 0,vi 0,vi 0, .string ByteArray.empty, .bool false, .slice none 0 0,vi 0] | 1=>X 1=eB (pb (β 5)) 84 #[vi xx.2.1,vi xx.1.lv,vi xx.1.right, .string xx.1.high, .bool xx.1.dead, .slice xx.2.2.1 xx.1.es.length xx.2.2.2,vi ((xx.1.free:Int))] | _=>True) [1] [0,1] [(5,0,1,6)] hst4 ?_ ?_ ?_
  ·exact fun ix _ _ _ _ _ _ hs hb hx h=>match ix,h with
   | 0,h=>by dsimp only; rw [← hs 5 rfl,← hb 5 rfl,← hx 0 rfl]; exact h
   | 1,h=>by dsimp only; rw [← hb 5 rfl,← hx 1 rfl]; exact h
   | _+2, _=>trivial
  ·refine ⟨?_,?_,trivial⟩
   ·refine svA fun ρ β W X cx=>?_
    exact dv_alloc (cs:=#[vi 0,vi 0,vi 0, .string ByteArray.empty, .bool false, .slice none 0 0,vi 0]) rfl (by kernel_rfl) rfl rfl (fun σ β' X' hs hb hv hx=>⟨hv,hx⟩)
   ·refine svA fun ρ β W X cx=>?_
    exact dv_store (n:=7) rfl (dTn (cx.an 0)).1 (cx.ou 7) (by kernel_rfl) (by kernel_rfl) (by kernel_rfl) cx (dTn (cx.an 0)).2 rfl (nle rfl) (by kernel_rfl) rfl rfl rfl (fun σ β' X' hs hb hx=>by rw [hb 5]; exact hx)
  intro σ β X W6 hD hst6 fr hfr
  obtain ⟨B5_6,hu_B5_6⟩:∃ z,pb (β 5)=z:=⟨_,rfl⟩
  simp only [exq 1 ((dTn (hD 1 lq))),hu_B5_6] at hst6
  simp only [ed 5 ((dTn (hD 0 lq)).1),hu_B5_6] at hfr
  clear hD hu_B5_6; subst hfr; clear σ β X
  exact hK _ _ _ ⟨_,rfl,rfl⟩ (hst6.pick [0] (by decide) rfl)
 ·rintro rl pre xx W7 L7 a7 E7 ⟨SA,n,sc,hn,rfl⟩ hlen7 hPx7 ⟨BV,rfl,rfl⟩ hst7r
  have hst7:St W7 (fps ([eB B2_1 131 #[.slice SA n sc],eO 84 7 (.slice SA n sc) n (pre.flatMap ynC)]++[eO 89 3 (.slice xx.2.2.1 xx.1.es.length xx.2.2.2) xx.1.es.length (xx.1.es.flatMap enC),eB BV 84 #[vi xx.2.1,vi xx.1.lv,vi xx.1.right, .string xx.1.high, .bool xx.1.dead, .slice xx.2.2.1 xx.1.es.length xx.2.2.2,vi ((xx.1.free:Int))]])) [eB B2_1 131 #[.slice SA n sc],eO 84 7 (.slice SA n sc) n (pre.flatMap ynC),eO 89 3 (.slice xx.2.2.1 xx.1.es.length xx.2.2.2) xx.1.es.length (xx.1.es.flatMap enC),eB BV 84 #[vi xx.2.1,vi xx.1.lv,vi xx.1.right, .string xx.1.high, .bool xx.1.dead, .slice xx.2.2.1 xx.1.es.length xx.2.2.2,vi ((xx.1.free:Int))]] W7:=hst7r
  clear hst7r
  refine wpIn_block (wpIn_region_Y [0,0,2,7,15] [[0],[3],[],[4,1],[0]] [[],[],[4],[5],[6]] [[],[],[],[1],[0]] [.c 8 (.slice SA n sc), .c 9 (.agg #[vi xx.2.1,vi xx.1.lv,vi xx.1.right, .string xx.1.high, .bool xx.1.dead, .slice xx.2.2.1 xx.1.es.length xx.2.2.2,vi ((xx.1.free:Int))]), .a 10, .a 11, .n] (fun ix σ β X=>match ix with | 0=>True | 1=>True | 2=>σ 10= .slice ((some ⟨(pb' (β 10)),0,none⟩)) 1 1∧X 4=eO 84 7 (.slice ((some ⟨(pb' (β 10)),0,none⟩)) 1 1) 1 (ynC xx) | 3=>σ 11= .slice (sA (β 11)) (n+1) (sC (β 11))∧X 5=eO 84 7 (.slice (sA (β 11)) (n+1) (sC (β 11))) (n+1) ((pre++[xx]).flatMap ynC) | 4=>X 6=eB B2_1 131 #[.slice (sA (β 11)) (n+1) (sC (β 11))] | _=>True) [2,3,4,5,6] [0,1,2,3,4] [(8,0,4,12)] hst7 ?_ ?_ ?_)
  ·exact fun ix _ _ _ _ _ _ hs hb hx h=>match ix,h with
   | 2,h=>by dsimp only; rw [← hs 10 rfl,← hb 10 rfl,← hx 4 rfl]; exact h
   | 3,h=>by dsimp only; rw [← hs 11 rfl,← hb 11 rfl,← hx 5 rfl]; exact h
   | 4,h=>by dsimp only; rw [← hb 11 rfl,← hx 6 rfl]; exact h
   | 0, _ | 1, _ | _+5, _=>trivial
  ·refine ⟨?_,?_,?_,?_,?_,trivial⟩
   ·exact xs4 rfl id fun cx=>run_load1 rfl (by kernel_rfl) (cx.ou 2) ((cx.bi 0 rfl).cell 0)
   ·exact xs4 rfl id fun cx=>run_loadB (n:=7) rfl (by kernel_rfl) (by kernel_rfl) (cx.ou 5) (cx.bi 3 rfl) (nle rfl) rfl
   ·refine svA fun ρ β W X cx=>?_
    have fF9:ρ (.tmp 9)= .agg #[vi xx.2.1,vi xx.1.lv,vi xx.1.right, .string xx.1.high, .bool xx.1.dead, .slice xx.2.2.1 xx.1.es.length xx.2.2.2,vi ((xx.1.free:Int))]:=(cx.an 1)
    exact dv_litN (e:=84) (sz:=7) (xs:=[vi xx.2.1,vi xx.1.lv,vi xx.1.right, .string xx.1.high, .bool xx.1.dead, .slice xx.2.2.1 xx.1.es.length xx.2.2.2,vi ((xx.1.free:Int))]) rfl (by simp [go_sem,fF9]) rfl (by decide) rfl rfl (fun σ β' X' hs hb hv hx=>⟨hv,hx⟩)
   ·refine svA fun ρ β W X cx=>?_
    obtain ⟨i0,hi0,hz0,hz1,hz2⟩:=info_parts Tryz.infoNd
    refine dv_appendN (n:=n) (m:=1) (nm:=n+1) (sz:=7) (xs:=pre.flatMap ynC) (news:=ynC xx) (xs':=(pre++[xx]).flatMap ynC) rfl (ty:=131) rfl (by kernel_rfl) hi0 hz0 hz1 hz2 rfl (by decide) (cx.an 0) cx (cx.init 1 _ rfl) rfl (dTn (cx.an 2)).1 (by rfl) (At.of_ownN (cx.row (dTn (cx.an 2)).2 rfl)) (by simp [ynC,Value.oneCell']) (by simp only [maxLen]; omega) (by omega) rfl rfl rfl (by omega) (yn_snoc _ _) (fun σ β' X' hs hb hv hx=>?_)
    exact ⟨hv,hx⟩
   ·refine svA fun ρ β W X cx=>?_
    exact dv_store (n:=1) rfl (cx.ou 2) (dTn (cx.an 3)).1 (by kernel_rfl) (by kernel_rfl) (by kernel_rfl) cx (cx.init 0 _ rfl) rfl (nle rfl) (by kernel_rfl) rfl rfl rfl (fun σ β' X' hs hb hx=>by rw [hb 11]; exact hx)
  intro σ β X W8 hD hst8 fr hfr
  obtain ⟨B10_8,hu_B10_8⟩:∃ z,pb' (β 10)=z:=⟨_,rfl⟩
  obtain ⟨A11_8,hu_A11_8⟩:∃ z,sA (β 11)=z:=⟨_,rfl⟩
  obtain ⟨c11_8,hu_c11_8⟩:∃ z,sC (β 11)=z:=⟨_,rfl⟩
  simp only [exq 4 ((dTn (hD 2 lq)).2),exq 5 ((dTn (hD 3 lq)).2),exq 6 ((dTn (hD 4 lq))),hu_B10_8,hu_A11_8,hu_c11_8] at hst8
  simp only [ed 10 ((dTn (hD 2 lq)).1),ed 11 ((dTn (hD 3 lq)).1),hu_B10_8,hu_A11_8,hu_c11_8] at hfr
  clear hD hu_B10_8 hu_A11_8 hu_c11_8; subst hfr; clear σ β X
  refine blk_normal ?_
  exact ⟨true, .inl ⟨rfl,rfl⟩, _,⟨A11_8,(n+1),c11_8,by rw [hn,List.length_append]; rfl,rfl⟩,hst8.pick [4,3,0] (by decide) rfl⟩
 ·rintro D4 W4d L4 XS_ E_ ⟨SA,n,sc,hn,rfl⟩ hZ_ hst4r
  have hst4d:St w [] [eB B2_1 131 #[.slice SA n sc],eO 84 7 (.slice SA n sc) n (XS_.flatMap ynC),E_,eDfr D4] W4d:=hst4r
  clear hst4r
  refine blk_normal (then_normal (wp_seq (wp_region_Z [0,1] [[0]] [.c 12 (.slice SA n sc), .k 4 (.slice SA n sc)] [0,1,2,3] [0] [(4,1,1,5),(7,0,1,8)] hst4d ?_ fun W9 hst9=>?_)))
  ·refine ⟨?_,trivial⟩
   ·exact xs4 rfl id fun cx=>run_load1 rfl (by kernel_rfl) (cx.ou 2) ((cx.bi 0 rfl).cell 0)
  refine then_normal (wp_ret ?_)
  refine bpm_take (L:=[eB B2_1 131 #[.slice SA n sc],eO 84 7 (.slice SA n sc) n (XS_.flatMap ynC),E_]) (hst9.pick [0,1,2,3] (by decide) rfl) fun Wt10 ht10=>?_
  refine ⟨.slice SA n sc,(results_1 Tryz.results100 rpt),?_⟩
  exact cg_done hZ_ (ht10.pick [1,2] (by decide) rfl) hn
 ·exact fun D W L xs E h=>h.elim
theorem kcol_g (b1 b2 b3:Nat) (L:List (Int×NoD)) (w:World) (Px:YnD→Prop) (Rd:World→Prop) (hseq:SeqG Tryz.prog 101 #[.pointer (some ⟨b1,0,none⟩), .pointer (some ⟨b2,0,none⟩), .pointer (some ⟨b3,0,none⟩)] ynE ynR Px 1000 (YnZ L) Rd) (hRd:∀ A,Ext w A→Rd A):
  Calls Tryz.prog 58 #[.func (.func 101) #[] #[.pointer (some ⟨b1,0,none⟩), .pointer (some ⟨b2,0,none⟩), .pointer (some ⟨b3,0,none⟩)]] w (CgPost L w):=by
 go_enter Tryz.func58,Tryz.ntmps58
 have hst0:=St.start w
 refine wp_seq (sqr (sqp [.k 2 (.slice none 0 0)] ?_))
 refine then_normal (wp_seq (sqr (sqp [.m 3 0] ?_)))
 refine sqk2s (fun A4_3 c4_3=> .slice A4_3 L.length c4_3) (fun A4_3 c4_3 r0_3=>eCL A4_3 L r0_3) hst0 (fun cx=>⟨_,(kapp_g b1 b2 b3 L _ Px Rd hseq (fun A hA=>hRd A (cx.upd.to_ext.trans hA))).mono (by rintro e W1 ⟨A4,c4,fp4,rfl,hs4⟩; exact ⟨_, _, _,rfl,hs4⟩),(map2 (cx.co _) (cx.ou 3))⟩) fun A4_3 c4_3 r0_3 W3 hst3=>?_
 refine sqp [.m 2 4] ?_
 refine then_normal (wp_ret ?_)
 refine bpr (.slice A4_3 L.length c4_3) (results_1 Tryz.results58 rpt) ?_
 exact ⟨_, _, _,rfl,hst3.pick [0] (by decide) rfl⟩
end
end Go.Proofs.YtjlcoglmjldjbaaGreat

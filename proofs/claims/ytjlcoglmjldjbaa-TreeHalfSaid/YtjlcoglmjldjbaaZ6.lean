/- TreeHalfRow: part 6 of the proof. -/
import Derived.Test.YtjlcoglmjldjbaaZ5
import Derived.Shelf.Abstract
set_option linter.unusedVariables false
set_option linter.unusedSimpArgs false
set_option maxRecDepth 100000
set_option maxHeartbeats 16000000
namespace Go.Proofs.Ytjlcoglmjldjbaa
section
open Go.RowKit
def nodZ:NoD:=⟨0,0,⟨#[]⟩,false,[],0⟩
/-- a node that may be none -/
def ndZ (ps:List PgS) (x:Int):NoD:=(ndAt ps x).getD nodZ
def pgN (y:YnD):Int×NoD:=(y.2.1,y.1)
/-- a fact as an entry -/
def eFt (φ:Prop):Ent:=⟨[],fun _=>φ⟩
theorem eFt_ok {φ:Prop} {w W:World} {bor:List Nat} {L:List Ent} (h:St w bor L W) (hp:φ):St w bor (L++[eFt φ]) W:=by
 refine ⟨h.upd,fun e he=>?_,List.pairwise_append.2 ⟨h.apart,List.pairwise_singleton _ _,fun a ha b hb k hk hkb=>?_⟩⟩
 ·rcases List.mem_append.1 he with he | he
  ·exact h.ok e he
  ·rw [List.mem_singleton] at he; subst he
   exact ⟨hp,fun W W' _ h=>h,fun k hk=>by simp [eFt] at hk⟩
 ·rw [List.mem_singleton] at hb; subst hb; simp [eFt] at hkb
/-- the rows of the nodes that were given -/
def eYs (xs:List YnD) (fp:List Nat):Ent:=⟨fp,fun W=>∀ y∈xs,(∀ ad,y.2.2.1=some ad→ad.block∈fp)∧At W y.2.2.1 (y.1.es.flatMap enC)⟩
theorem eYs_loc (xs:List YnD) (fp:List Nat):(eYs xs fp).loc:=fun W W' hk h y hy=>⟨(h y hy).1,at_blocks (h y hy).2 fun ad e _=>hk _ ((h y hy).1 ad e)⟩
theorem St.yn0 {w W:World} {bor:List Nat} {L:List Ent} (h:St w bor L W):St w bor (L++[eYs [] []]) W:=by
 refine ⟨h.upd,fun e he=>?_,List.pairwise_append.2 ⟨h.apart,List.pairwise_singleton _ _,fun a ha b hb k hk hkb=>?_⟩⟩
 ·rcases List.mem_append.1 he with he | he
  ·exact h.ok e he
  ·rw [List.mem_singleton] at he; subst he
   exact ⟨fun y hy=>absurd hy (by simp),eYs_loc _ _,fun k hk=>by simp [eYs] at hk⟩
 ·rw [List.mem_singleton] at hb; subst hb; simp [eYs] at hkb
theorem row_blk {W:World} {t sz m lc:Nat} {LA:Option Addr} {xs:List Value} (h:W.ownsRow 0 t sz (.slice LA m lc) m xs):∀ ad,LA=some ad→ad.block∈(Value.ownBlock (.slice LA m lc)).toList:=fun ad e=>by
 rcases h.2 with ⟨hv, _⟩ | ⟨g,cap,cur,hv, _⟩
 ·injection hv with h2; rw [e] at h2; cases h2
 ·subst e; injection hv with h5; injection h5 with h5; subst h5; simp [Value.ownBlock]
/-- one more row among those given -/
theorem St.yn1 {w W:World} {bor:List Nat} {L:List Ent} {xs:List YnD} {fp:List Nat} {y:YnD} (h:St w bor (eYs xs fp::ynR y::L) W):St w bor (eYs (xs++[y]) (fp++(ynR y).fp)::L) W:=by
 have h1:=h.ok (eYs xs fp) (by simp)
 have h2:=h.ok (ynR y) (by simp)
 have hp:=List.pairwise_cons.1 h.apart
 have hp2:=List.pairwise_cons.1 hp.2
 have hR:W.ownsRow 0 104 3 (.slice y.2.2.1 y.1.es.length y.2.2.2) y.1.es.length (y.1.es.flatMap enC):=h2.holds
 refine ⟨h.upd,fun e he=>?_,List.pairwise_cons.2 ⟨fun e he k hk hke=>?_,hp2.2⟩⟩
 ·rcases List.mem_cons.1 he with rfl | he
  ·refine ⟨fun z hz=>?_,eYs_loc _ _,fun k hk=>?_⟩
   ·rcases List.mem_append.1 hz with hz | hz
    ·exact ⟨fun ad e=>List.mem_append_left _ ((h1.holds z hz).1 ad e),(h1.holds z hz).2⟩
    ·rw [List.mem_singleton] at hz; subst hz
     exact ⟨fun ad e=>List.mem_append_right _ (row_blk hR ad e),At.of_ownN hR⟩
   ·rcases List.mem_append.1 hk with hk | hk
    ·exact h1.own k hk
    ·exact h2.own k hk
  ·exact h.ok e (by simp [he])
 ·rcases List.mem_append.1 hk with hk | hk
  ·exact hp.1 e (by simp [he]) k hk hke
  ·exact hp2.1 e he k hk hke
/-- two entries lent, and given back -/
theorem St.borrow {w W:World} {bor:List Nat} {a b:Ent} {L:List Ent} (h:St w bor (a::b::L) W):St W (a.fp++b.fp) [a,b] W:=by
 have ha:=h.ok a (by simp)
 have hb:=h.ok b (by simp)
 refine ⟨Upd.refl _ _,fun e he=>?_,List.pairwise_pair.2 ((List.pairwise_cons.1 h.apart).1 b (by simp))⟩
 simp only [List.mem_cons,List.not_mem_nil,or_false] at he
 rcases he with rfl | rfl
 ·exact ⟨ha.holds,ha.loc,fun k hk=>⟨.inl (List.mem_append_left _ hk),(ha.own k hk).2⟩⟩
 ·exact ⟨hb.holds,hb.loc,fun k hk=>⟨.inl (List.mem_append_right _ hk),(hb.own k hk).2⟩⟩
theorem St.back {w A B:World} {bor:List Nat} {a b a' b':Ent} {L:List Ent} (h:St w bor (a::b::L) A) (hj:St A (a.fp++b.fp) [a',b'] B):St w bor (a'::b'::L) B:=by
 have hp:=List.pairwise_cons.1 h.apart
 have hp2:=List.pairwise_cons.1 hp.2
 have hab:∀ k∈a.fp++b.fp,(k∈bor∨w.heap.size≤k)∧k < A.heap.size:=fun k hk=>by
  rcases List.mem_append.1 hk with hk | hk
  ·exact (h.ok a (by simp)).own k hk
  ·exact (h.ok b (by simp)).own k hk
 have hL:∀ e∈L,∀ k∈e.fp,k∉a.fp++b.fp:=fun e he k hke hk=>by
  rcases List.mem_append.1 hk with hk | hk
  ·exact hp.1 e (by simp [he]) k hk hke
  ·exact hp2.1 e he k hk hke
 have hnew:∀ e∈[a',b'],∀ k∈e.fp,(k∈a.fp++b.fp∨A.heap.size≤k):=fun e he k hk=>((hj.ok e he).own k hk).1
 have hapart:∀ e∈[a',b'],∀ x∈L,e.apart x:=fun e he x hx k hk hkx=>by
  rcases hnew e he k hk with h1 | h1
  ·exact hL x hx k hkx h1
  ·have:=((h.ok x (by simp [hx])).own k hkx).2; omega
 refine ⟨h.upd.join hj.upd (fun i hi=>(hab i hi).1),fun e he=>?_,List.pairwise_cons.2 ⟨fun e he=>?_,List.pairwise_cons.2 ⟨fun e he=>hapart b' (by simp) e he,hp2.2⟩⟩⟩
 ·have key:∀ e∈[a',b'],e.ok w bor B:=fun e he=>by
   have h2:=hj.ok e he
   refine ⟨h2.holds,h2.loc,fun k hk=>⟨?_,(h2.own k hk).2⟩⟩
   rcases (h2.own k hk).1 with h1 | h1
   ·exact (hab k h1).1
   ·exact .inr (Nat.le_trans h.upd.size h1)
  rcases List.mem_cons.1 he with rfl | he
  ·exact key _ (by simp)
  ·rcases List.mem_cons.1 he with rfl | he
   ·exact key _ (by simp)
   ·exact (h.ok e (by simp [he])).keep hj.upd (fun k hk hkC=>hL e he k hk hkC)
 ·rcases List.mem_cons.1 he with rfl | he
  ·exact (List.pairwise_pair.1 hj.apart)
  ·exact hapart a' (by simp) e he
/-- what the iterator has given -/
def YnZ (L:List (Int×NoD)) (b:Bool) (xs:List YnD) (E:Ent):Prop:=E=eYs xs E.fp∧(b=true→xs.map pgN=L)∧∃ r,xs.map pgN++r=L
theorem YnZ.all {L:List (Int×NoD)} {xs:List YnD} {fp:List Nat} (h:xs.map pgN=L):YnZ L true xs (eYs xs fp):=⟨rfl,fun _=>h,[],by rw [h,List.append_nil]⟩
theorem YnZ.some {L r:List (Int×NoD)} {xs:List YnD} {fp:List Nat} (h:xs.map pgN++r=L):YnZ L false xs (eYs xs fp):=⟨rfl,fun h=>(nomatch h),r,h⟩
/-- what the iterator reads -/
structure RdR (b1 b2 b3:Nat) (tt:TypeId) (tv:Value) (root lv:Int) (ps:List PgS) (A:World):Prop where
 b1:Blk A b1 113 #[.iface tt tv]
 b2:Blk A b2 3 #[.int .i64 root]
 b3:Blk A b3 3 #[.int .i64 lv]
 pgs:PgsOk A tt tv ps
/-- at, where the node may be none -/
def KuPost (o:Option NoD) (x:Int) (w:World) (e:Ending) (w':World):Prop:=∃ px EA ec,e= .returned (.tuple #[knV px (o.getD nodZ) EA ec, .bool o.isSome])∧St w [] [eO 104 3 (.slice EA (o.getD nodZ).es.length ec) (o.getD nodZ).es.length ((o.getD nodZ).es.flatMap enC),eFt (o.isSome=true→px=x)] w'
theorem kat_u (tt:TypeId) (tv:Value) (ps:List PgS) (x:Int) (w:World) (hS:PgsOk w tt tv ps) (hok:OkS ps) (hoc:OkC ps):Calls Try.prog 47 #[.iface tt tv, .int .i64 x] w (KuPost (ndAt ps x) x w):=by
 refine (kat_any tt tv ps x w hS hok hoc).mono fun e w' h=>?_
 cases ho:ndAt ps x with
 | none=>
   rw [ho] at h
   obtain ⟨p,rfl,hx⟩:=h
   exact ⟨p,none,0,rfl,eFt_ok (L:=[_]) (by have h1:=nilrowN (⟨Upd.of_ext hx,(fun e he=>absurd he (by simp)),List.Pairwise.nil⟩:St w [] [] w') 104 3; exact h1) fun h=>(nomatch h)⟩
 | some n=>
   rw [ho] at h
   obtain ⟨EA,ec,rfl,hs⟩:=h
   exact ⟨x,EA,ec,rfl,eFt_ok hs fun _=>rfl⟩
theorem ndz_ok {ps:List PgS} (hok:OkS ps) (x:Int):NdOk (ndZ ps x):=by
 unfold ndZ
 cases h:ndAt ps x with
 | none=>exact ⟨by decide,by decide,by decide,by decide,(fun e he=>nomatch he),by decide⟩
 | some n=>exact nd_ok hok h
theorem wpOpsIn_ylb {P:Program} {ops:Array Oper} {Q:Exit→Act→World→Prop} {i:Nat} {rest:List Nat} {o:Oper} {t:List Value} {d0:List Deferred} {W:World} {d l:Nat} {args:Array Value} {R:Bool→World→Prop} (t':Bool→List Value) (ho:ops[i]? =some o) (hg:o.guard=none) (hd:o.dst=some d)
  (hr:∀ r,(Instr.yield l args).run P W=r→(execOp (Act.eval ⟨t.toArray,d0⟩) o).run P W=r) (hy:YieldAt Fence.wide 1 P l args W fun e B=>∃ b,e= .returned (.bool b)∧R b B) (ht:∀ b,t.set d (.bool b)=t' b) (h:∀ b B,R b B→∀ tt,tt=t' b→wpOpsIn Fence.wide 2 P ops Q rest ⟨tt.toArray,d0⟩ B):wpOpsIn Fence.wide 2 P ops Q (i::rest) ⟨t.toArray,d0⟩ W:=by
 obtain ⟨fn,tmps,assign,body,h1,h2⟩:=hy
 unfold wpOpsIn
 simp only [ho]
 rw [if_pos (show Region.wanted o _=true by unfold Region.wanted; rw [hg])]
 refine ⟨fun _ _=>trivial,?_⟩
 show o.uponIn Fence.wide 2 P _ _ Q ((execOp (Act.eval ⟨t.toArray,d0⟩) o).run P W)
 rw [hr _ h1,Oper.uponIn_round]
 refine ⟨fun hh=>by simp [Fence.wide] at hh,h2.mono ?_⟩
 rintro e B ⟨b,rfl,hB⟩
 show wpOpsIn Fence.wide 2 P ops Q rest (Act.put ⟨t.toArray,d0⟩ o.dst (.bool b)) B
 rw [hd]
 show wpOpsIn Fence.wide 2 P ops Q rest ⟨t.toArray.setIfInBounds d (.bool b),d0⟩ B
 rw [List.setIfInBounds_toArray,ht]
 exact h b B hB _ rfl
theorem dsc_step {ps:List PgS} {root lv x:Int} {nd:NoD} {s:Nat} (hd:dscF ps lv 1000 root=dscF ps lv (1001 - s) x) (hs:1≤s∧s < 1000) (hn:ndAt ps x=some nd) (hl:lv < nd.lv) (h2:0 < nd.es.length):dscF ps lv 1000 root=dscF ps lv (1001 - (s+1)) (nd.es.getD 0 en0).2.2:=by
 rw [hd,show 1001 - s=(1001 - (s+1))+1 by omega]; exact dsc_down hn hl (by omega)
theorem row_none {ps:List PgS} {root lv:Int} (h:dscF ps lv 1000 root=none):rowF ps root lv=[]:=by rw [rowF,h]
theorem row_some' {ps:List PgS} {root lv x:Int} {nd:NoD} (h:dscF ps lv 1000 root=some (x,nd)):rowF ps root lv=chnF ps lv 1000 x:=by rw [rowF,h]
theorem dsc_end {ps:List PgS} {lv x:Int} {nd:NoD} {s:Nat} (hn:ndAt ps x=some nd) (hl:nd.lv≠lv) (h:¬ (lv < nd.lv∧0 < nd.es.length∧s < 1000)) (hs:1≤s∧s≤1000):dscF ps lv (1001 - s) x=none:=by
 by_cases h1:nd.lv < lv∨nd.es.length=0
 ·exact dsc_miss hn hl h1
 ·have:s=1000:=by omega
  subst this
  rw [show 1001 - 1000=0+1 by omega,dsc_down hn (by omega) (by omega)]; rfl
theorem row_off {ps:List PgS} {root lv x:Int} {s:Bool} {nd:NoD} {k:Nat} (his:s=(ndAt ps x).isSome) (hnz:nd=ndZ ps x) (hds:dscF ps lv 1000 root=dscF ps lv (1001 - k) x) (hs:1≤k∧k≤1000) (h1:s=true→¬ (lv < nd.lv∧0 < nd.es.length∧k < 1000)) (h2:s=true→nd.lv≠lv):rowF ps root lv=[]:=by
 refine row_none (hds.trans ?_)
 cases ho:ndAt ps x with
 | none=>exact dsc_none ho
 | some n=>
   have e:s=true:=by rw [his,ho]; rfl
   have hn:nd=n:=by rw [hnz,ndZ,ho]; rfl
   subst hn
   exact dsc_end ho (h2 e) (h1 e) hs
theorem chn_off {ps:List PgS} {lv x:Int} {k:Nat} (h:(ndAt ps x).isSome=true→(ndZ ps x).lv≠lv):chnF ps lv k x=[]:=by
 cases ho:ndAt ps x with
 | none=>exact chn_none ho
 | some n=>exact chn_miss ho (by have:=h (by rw [ho]; rfl); rwa [ndZ,ho] at this)
theorem row_begin {ps:List PgS} {root lv x:Int} {nd:NoD} {k:Nat} (hds:dscF ps lv 1000 root=dscF ps lv (1001 - k) x) (hs:1≤k∧k≤1000) (hn:ndAt ps x=some nd) (hl:nd.lv=lv):([]:List YnD).map pgN++chnF ps lv (1000 - 0) x=rowF ps root lv:=by
 rw [row_some' (hds.trans (by rw [show 1001 - k=(1000 - k)+1 by omega]; exact dsc_hit hn hl))]; rfl
theorem row_fin {L:List (Int×NoD)} {ps:List PgS} {lv x:Int} {i:Nat} {pre:List YnD} (h:pre.map pgN++chnF ps lv (1000 - i) x=L) (hi:¬ i < 1000):pre.map pgN=L:=by
 rw [show 1000 - i=0 by omega] at h
 rw [← h,chnF,List.append_nil]
theorem row_fin2 {ps:List PgS} {root lv x:Int} {nd:NoD} {i:Nat} {pre:List YnD} {EA:Option Addr} {ec:Nat} (hrow:pre.map pgN++chnF ps lv (1000 - i) x=rowF ps root lv) (hn:ndAt ps x=some nd) (hl:nd.lv=lv) (hi:i < 1000) (h:(ndAt ps nd.right).isSome=true→(ndZ ps nd.right).lv≠lv):(pre++[(nd,x,EA,ec)]).map pgN=rowF ps root lv:=by
 rw [← hrow,show 1000 - i=(1000 - (i+1))+1 by omega,chn_hit hn hl,chn_off h,List.map_append]; rfl
theorem nd_is {ps:List PgS} {x:Int} {s:Bool} {nd:NoD} (his:s=(ndAt ps x).isSome) (hnz:nd=ndZ ps x) (h:s=true):ndAt ps x=some nd:=by
 subst h
 cases ho:ndAt ps x with
 | none=>rw [ho] at his; cases his
 | some n=>rw [hnz,ndZ,ho]; rfl
def RyPost (w:World) (root lv:Int) (ps:List PgS) (J:Bool→List Nat→List YnD→World→Prop) (C0:List Nat) (e:Ending) (B:World):Prop:=(∃ v,e= .returned v)∧∃ b C xs E,St w C0 [eJ (J b) C xs,E] B∧YnZ (rowF ps root lv) b xs E
theorem row_next {ps:List PgS} {root lv x:Int} {nd:NoD} {i:Nat} {pre:List YnD} {EA:Option Addr} {ec:Nat} (hrow:pre.map pgN++chnF ps lv (1000 - i) x=rowF ps root lv) (hn:ndAt ps x=some nd) (hl:nd.lv=lv) (hi:i < 1000):(pre++[(nd,x,EA,ec)]).map pgN++chnF ps lv (1000 - (i+1)) nd.right=rowF ps root lv:=by
 rw [← hrow,show 1000 - i=(1000 - (i+1))+1 by omega,chn_hit hn hl,List.map_append,List.append_assoc]; rfl
theorem krowg_in (l:Nat) (b1 b2 b3:Nat) (tt:TypeId) (tv:Value) (root lv:Int) (ps:List PgS) (J:Bool→List Nat→List YnD→World→Prop) (C0:List Nat) (w:World) (hRd:∀ A,Upd C0 w A→RdR b1 b2 b3 tt tv root lv ps A) (hok:OkS ps) (hoc:OkC ps) (hloc:∀ b C pre,(eJ (J b) C pre).loc) (hlt:∀ k∈C0,k < w.heap.size) (hJ0:J true C0 [] w) (hY:∀ C pre x A,ndAt ps x.2.1=some x.1→St A (C++(ynR x).fp) [eJ (J true) C pre,ynR x] A→pre.length < 1000→YieldAt Fence.wide 1 Try.prog l (ynE x) A fun e B=>∃ b,e= .returned (.bool b)∧∃ C',St A (C++(ynR x).fp) [eJ (J b) C' (pre++[x]),ynR x] B):
  Calls Try.prog 99 #[.func (.yield l) #[] #[], .pointer (some ⟨b1,0,none⟩), .pointer (some ⟨b2,0,none⟩), .pointer (some ⟨b3,0,none⟩)] w (RyPost w root lv ps J C0):=by
 have st0:St w C0 [eJ (J true) C0 [],eYs [] []] w:=(St.lend (E:=eJ (J true) C0 []) hJ0 (hloc _ _ _) hlt).yn0
 go_enter Try.func99,Try.ntmps99
 have hst0:=st0
 refine wp_seq (wp_region_Y [0,0,3,7,15,15,0,95,255] [[],[],[],[],[],[],[],[4]] [[],[],[2,3],[],[],[],[4],[5]] [[],[],[],[],[],[],[],[4]] [.c 9 (.iface tt (tv)), .c 10 (vi root), .a 11, .a 8, .a 12, .c 13 (.bool ((ndAt ps root).isSome)), .a 5, .n, .k 6 (.bool ((ndAt ps root).isSome))] (fun ix σ β X=>match ix with | 0=>True | 1=>True | 2=>σ 11= .tuple #[.agg #[vi (iv (tg (tg (β 11) 0) 0)),vi ((ndZ ps root).lv),vi ((ndZ ps root).right), .string ((ndZ ps root).high), .bool ((ndZ ps root).dead), .slice (sA (tg (tg (β 11) 0) 5)) ((ndZ ps root).es.length) (sC (tg (tg (β 11) 0) 5)),vi (((ndZ ps root).free:Int))], .bool ((ndAt ps root).isSome)]∧X 2=eO 104 3 (.slice (sA (tg (tg (β 11) 0) 5)) ((ndZ ps root).es.length) (sC (tg (tg (β 11) 0) 5))) ((ndZ ps root).es.length) ((ndZ ps root).es.flatMap enC)∧X 3=eFt ((ndAt ps root).isSome=true→(iv (tg (tg (β 11) 0) 0))=root) | 3=>σ 8= .tuple #[.agg #[vi (iv (tg (tg (β 11) 0) 0)),vi ((ndZ ps root).lv),vi ((ndZ ps root).right), .string ((ndZ ps root).high), .bool ((ndZ ps root).dead), .slice (sA (tg (tg (β 11) 0) 5)) ((ndZ ps root).es.length) (sC (tg (tg (β 11) 0) 5)),vi (((ndZ ps root).free:Int))], .bool ((ndAt ps root).isSome)] | 4=>σ 12= .agg #[vi (iv (tg (tg (β 11) 0) 0)),vi ((ndZ ps root).lv),vi ((ndZ ps root).right), .string ((ndZ ps root).high), .bool ((ndZ ps root).dead), .slice (sA (tg (tg (β 11) 0) 5)) ((ndZ ps root).es.length) (sC (tg (tg (β 11) 0) 5)),vi (((ndZ ps root).free:Int))] | 5=>True | 6=>σ 5=vp (pb (β 5))∧X 4=eB (pb (β 5)) 116 #[vi 0,vi 0,vi 0, .string ByteArray.empty, .bool false, .slice none 0 0,vi 0] | 7=>X 5=eB (pb (β 5)) 116 #[vi (iv (tg (tg (β 11) 0) 0)),vi ((ndZ ps root).lv),vi ((ndZ ps root).right), .string ((ndZ ps root).high), .bool ((ndZ ps root).dead), .slice (sA (tg (tg (β 11) 0) 5)) ((ndZ ps root).es.length) (sC (tg (tg (β 11) 0) 5)),vi (((ndZ ps root).free:Int))] | _=>True) [0,1,2,3,5] [0,1,2,3,4,5,6,7] [(5,6,3,7),(1,3,1,2),(0,0,3,3),(0,4,2,2)] hst0 ?_ ?_ ?_)
 ·exact fun ix _ _ _ _ _ _ hs hb hx h=>match ix,h with
  | 2,h=>by dsimp only; rw [← hs 11 rfl,← hb 11 rfl,← hx 2 rfl,← hx 3 rfl]; exact h
  | 3,h=>by dsimp only; rw [← hs 8 rfl,← hb 11 rfl]; exact h
  | 4,h=>by dsimp only; rw [← hs 12 rfl,← hb 11 rfl]; exact h
  | 6,h=>by dsimp only; rw [← hs 5 rfl,← hb 5 rfl,← hx 4 rfl]; exact h
  | 7,h=>by dsimp only; rw [← hb 5 rfl,← hb 11 rfl,← hx 5 rfl]; exact h
  | 0, _ | 1, _ | 5, _ | _+8, _=>trivial
 ·refine ⟨?_,?_,?_,?_,?_,?_,?_,?_,trivial⟩
  ·exact xs4 rfl id fun cx=>run_load1 rfl (by kernel_rfl) (cx.ou 1) ((Blk.ext (hRd _ cx.upd).b1 (Ext.refl _)).cell 0)
  ·exact xs4 rfl id fun cx=>run_load1 rfl (by kernel_rfl) (cx.ou 2) ((Blk.ext (hRd _ cx.upd).b2 (Ext.refl _)).cell 0)
  ·refine svA fun ρ β W X cx=>?_
   refine DoesU.call (run_callF (args:=#[.iface tt (tv),vi root]) rfl cx.sees rfl (by kernel_rfl) (map2 (cx.an 0) (cx.an 1))) ?_
   refine (kat_u _ _ ps root _ (hRd _ cx.upd).pgs hok hoc).mono ?_
   rintro e W1 ⟨px4,EA4,ec4,rfl,hs4⟩
   refine ⟨_,rfl,post_st [eO 104 3 (.slice EA4 (ndZ ps root).es.length ec4) (ndZ ps root).es.length ((ndZ ps root).es.flatMap enC),eFt ((ndAt ps root).isSome=true→px4=root)] rfl rfl hs4 (fun σ β' X' hs hb hv hN=>?_)⟩
   have hv1:=(hv 11 rfl).1; have hv2:=(hv 11 rfl).2
   exact ⟨hv1.trans (by rw [hv2]; rfl),(by rw [hv2]; exact (List.cons.inj hN).1),(by rw [hv2]; exact (List.cons.inj (List.cons.inj hN).2).1)⟩
  ·exact sv rfl rfl rfl rfl rfl _ (fun _ _ _ h=>h) (fun β β' h=>by rw [h 11 (by decide)]) fun ρ β W X cx=>run_move' rfl (dTn (cx.an 2)).1
  ·exact sv rfl rfl rfl rfl rfl _ (fun _ _ _ h=>h) (fun β β' h=>by rw [h 11 (by decide)]) fun ρ β W X cx=>run_extract' rfl (dTn (cx.an 3)) rfl
  ·exact xs4 rfl id fun cx=>run_extract' rfl (dTn (cx.an 3)) rfl
  ·refine svA fun ρ β W X cx=>?_
   exact dv_alloc (cs:=#[vi 0,vi 0,vi 0, .string ByteArray.empty, .bool false, .slice none 0 0,vi 0]) rfl (by kernel_rfl) rfl rfl (fun σ β' X' hs hb hv hx=>⟨hv,hx⟩)
  ·refine svA fun ρ β W X cx=>?_
   exact dv_store (n:=7) rfl (dTn (cx.an 6)).1 (dTn (cx.an 4)) (by kernel_rfl) (by kernel_rfl) (by kernel_rfl) cx (dTn (cx.an 6)).2 rfl (nle rfl) (by kernel_rfl) rfl rfl rfl (fun σ β' X' hs hb hx=>by rw [hb 5,hb 11]; exact hx)
 intro σ β X W1 hD hst1 fr hfr
 obtain ⟨px11_1,hu_px11_1⟩:∃ z,iv (tg (tg (β 11) 0) 0)=z:=⟨_,rfl⟩
 obtain ⟨EA11_1,hu_EA11_1⟩:∃ z,sA (tg (tg (β 11) 0) 5)=z:=⟨_,rfl⟩
 obtain ⟨ec11_1,hu_ec11_1⟩:∃ z,sC (tg (tg (β 11) 0) 5)=z:=⟨_,rfl⟩
 obtain ⟨B5_1,hu_B5_1⟩:∃ z,pb (β 5)=z:=⟨_,rfl⟩
 simp only [exq 2 ((dTn (hD 2 lq)).2.1),exq 3 ((dTn (hD 2 lq)).2.2),exq 5 ((dTn (hD 7 lq))),hu_px11_1,hu_EA11_1,hu_ec11_1,hu_B5_1] at hst1
 simp only [ed 11 ((dTn (hD 2 lq)).1),ed 8 ((dTn (hD 3 lq))),ed 12 ((dTn (hD 4 lq))),ed 5 ((dTn (hD 6 lq)).1),hu_px11_1,hu_EA11_1,hu_ec11_1,hu_B5_1] at hfr
 clear hD hu_px11_1 hu_EA11_1 hu_ec11_1 hu_B5_1; subst hfr; clear σ β X
 refine then_normal (wp_seq (sqr (sqp [.k 7 (vi 1)] ?_)))
 refine then_normal (wp_seq (wp_block ?_))
 refine wp_loopT (fun t_ mz az W=>∃ x:Int,∃ px:Int,∃ nd:NoD,∃ is:Bool,∃ EA:Option Addr,∃ ec:Nat,∃ s:Nat,(1≤s∧s≤1000)∧is=(ndAt ps x).isSome∧nd=ndZ ps x∧(is=true→px=x)∧dscF ps lv 1000 root=dscF ps lv (1001 - s) x∧mz=1000 - s∧az=⟨(ovr (jv az) [(6,6,0,[.bool is,vi ((s:Int))]),(6,14,29,[])] t_).toArray,[]⟩∧St w C0 [eJ (J true) C0 [],eB B5_1 116 #[vi px,vi nd.lv,vi nd.right, .string nd.high, .bool nd.dead, .slice EA nd.es.length ec,vi ((nd.free:Int))],eO 104 3 (.slice EA nd.es.length ec) nd.es.length (nd.es.flatMap enC),eYs [] []] W) (1000 - 1) ?_ ?_
 · -- the loop begins
   exact ⟨root,px11_1,(ndZ ps root),(ndAt ps root).isSome,EA11_1,ec11_1,1,⟨Nat.le_refl _,by decide⟩,rfl,rfl,fun h=>(hst1.get 3 rfl).holds h,rfl,rfl,(by kernel_rfl),hst1.pk [0,4,2,1]⟩
 rintro n3 a3 W3 ⟨x,px,nd,is,EA,ec,s,hs,his,hnz,hpx,hds,rfl,hj_,hst3⟩
 refine ovz hj_ fun u3_=>?_
 have hN:=ndz_ok hok x
 rw [← hnz] at hN
 have hN1:=hN.len
 refine wp_seq (wp_seq (sqr (sqp [.m 14 6, .m 15 14] ?_)))
 refine sqw' 15 [16,17,18,19] ?_ rfl (fun hq=>?_) ?_
 rotate_left
 ·refine sqp [.k 16 (.pointer (some ⟨B5_1,1,none⟩))] ?_
  refine sqld 1 hst3 ?_
  refine sql (vi lv) hst3 (fun cx=>run_load1 rfl (by kernel_rfl) (cx.ou 3) ((Blk.ext (hRd _ cx.upd).b3 (Ext.refl _)).cell 0)) ?_
  refine sqp [.k 19 (.bool (decide (lv < nd.lv)))] ?_
  exact sqe
 refine sqwx ?_
 refine sqp [sPa 20 is (decide (lv < nd.lv)), .m 21 20] ?_
 refine sqw' 21 [22,23,24,25] ?_ rfl (fun hq=>?_) ?_
 rotate_left
 ·refine sqp [.k 22 (.pointer (some ⟨B5_1,5,none⟩))] ?_
  refine sqld 1 hst3 ?_
  refine sqp [.k 24 (vi ((nd.es.length:Int))), .k 25 (.bool (decide (0 < (nd.es.length:Int))))] ?_
  exact sqe
 refine sqwx ?_
 refine sqp [sPa 26 (is&&(decide (lv < nd.lv))) (decide (0 < (nd.es.length:Int))), .m 27 26] ?_
 refine sqw 27 [28,29] rfl (fun _=>sqp [.m 28 7, .k 29 (.bool (decide ((s:Int) < 1000)))] sqe) ?_
 refine sqp [sPa 30 ((is&&(decide (lv < nd.lv)))&&(decide (0 < (nd.es.length:Int)))) (decide ((s:Int) < 1000))] ?_
 refine then_normal (wbs (fun hs21=>?_) fun hs21=>?_)
 ·have hs21p:=hs21
  simp only [zB] at hs21p
  obtain ⟨⟨⟨hs21p1,hs21p2⟩,hs21p3⟩,hs21p4⟩:=hs21p
  refine wp_skip (then_normal (wp_seq (wp_block ?_)))
  have hno_:ndAt ps x=some nd:=nd_is his hnz hs21p1
  refine wp_region_Y [0,0,2,6,14,30,63,127,255,255,511,2047] [[],[],[1],[2],[],[2],[],[],[],[],[1]] [[],[],[],[],[],[],[4,5],[],[],[],[6]] [[],[],[],[],[],[],[],[],[],[],[1]] [.c 34 (.iface tt (tv)), .k 35 (.pointer (some ⟨B5_1,5,none⟩)), .c 36 (.slice EA nd.es.length ec), .c 37 (.pointer (some ((ad EA).add (0*3)))), .c 38 (.pointer (some ((ad EA).add (0*3+2)))), .c 39 (vi ((nd.es.getD 0 en0).2.2)), .a 40, .a 33, .a 41, .c 42 (.bool ((ndAt ps ((nd.es.getD 0 en0).2.2)).isSome)), .n, .k 6 (.bool ((ndAt ps ((nd.es.getD 0 en0).2.2)).isSome))] (fun ix σ β X=>match ix with | 0=>True | 1=>True | 2=>True | 3=>True | 4=>True | 5=>True | 6=>σ 40= .tuple #[.agg #[vi (iv (tg (tg (β 40) 0) 0)),vi ((ndZ ps ((nd.es.getD 0 en0).2.2)).lv),vi ((ndZ ps ((nd.es.getD 0 en0).2.2)).right), .string ((ndZ ps ((nd.es.getD 0 en0).2.2)).high), .bool ((ndZ ps ((nd.es.getD 0 en0).2.2)).dead), .slice (sA (tg (tg (β 40) 0) 5)) ((ndZ ps ((nd.es.getD 0 en0).2.2)).es.length) (sC (tg (tg (β 40) 0) 5)),vi (((ndZ ps ((nd.es.getD 0 en0).2.2)).free:Int))], .bool ((ndAt ps ((nd.es.getD 0 en0).2.2)).isSome)]∧X 4=eO 104 3 (.slice (sA (tg (tg (β 40) 0) 5)) ((ndZ ps ((nd.es.getD 0 en0).2.2)).es.length) (sC (tg (tg (β 40) 0) 5))) ((ndZ ps ((nd.es.getD 0 en0).2.2)).es.length) ((ndZ ps ((nd.es.getD 0 en0).2.2)).es.flatMap enC)∧X 5=eFt ((ndAt ps ((nd.es.getD 0 en0).2.2)).isSome=true→(iv (tg (tg (β 40) 0) 0))=((nd.es.getD 0 en0).2.2)) | 7=>σ 33= .tuple #[.agg #[vi (iv (tg (tg (β 40) 0) 0)),vi ((ndZ ps ((nd.es.getD 0 en0).2.2)).lv),vi ((ndZ ps ((nd.es.getD 0 en0).2.2)).right), .string ((ndZ ps ((nd.es.getD 0 en0).2.2)).high), .bool ((ndZ ps ((nd.es.getD 0 en0).2.2)).dead), .slice (sA (tg (tg (β 40) 0) 5)) ((ndZ ps ((nd.es.getD 0 en0).2.2)).es.length) (sC (tg (tg (β 40) 0) 5)),vi (((ndZ ps ((nd.es.getD 0 en0).2.2)).free:Int))], .bool ((ndAt ps ((nd.es.getD 0 en0).2.2)).isSome)] | 8=>σ 41= .agg #[vi (iv (tg (tg (β 40) 0) 0)),vi ((ndZ ps ((nd.es.getD 0 en0).2.2)).lv),vi ((ndZ ps ((nd.es.getD 0 en0).2.2)).right), .string ((ndZ ps ((nd.es.getD 0 en0).2.2)).high), .bool ((ndZ ps ((nd.es.getD 0 en0).2.2)).dead), .slice (sA (tg (tg (β 40) 0) 5)) ((ndZ ps ((nd.es.getD 0 en0).2.2)).es.length) (sC (tg (tg (β 40) 0) 5)),vi (((ndZ ps ((nd.es.getD 0 en0).2.2)).free:Int))] | 9=>True | 10=>X 6=eB B5_1 116 #[vi (iv (tg (tg (β 40) 0) 0)),vi ((ndZ ps ((nd.es.getD 0 en0).2.2)).lv),vi ((ndZ ps ((nd.es.getD 0 en0).2.2)).right), .string ((ndZ ps ((nd.es.getD 0 en0).2.2)).high), .bool ((ndZ ps ((nd.es.getD 0 en0).2.2)).dead), .slice (sA (tg (tg (β 40) 0) 5)) ((ndZ ps ((nd.es.getD 0 en0).2.2)).es.length) (sC (tg (tg (β 40) 0) 5)),vi (((ndZ ps ((nd.es.getD 0 en0).2.2)).free:Int))] | _=>True) [0,2,3,4,5,6] [0,2,3,4,5,6,7,8,9,10] [(6,11,1,7),(26,7,1,27),(0,0,7,7),(0,8,2,2)] hst3 ?_ ?_ ?_
  ·exact fun ix _ _ _ _ _ _ hs hb hx h=>match ix,h with
   | 6,h=>by dsimp only; rw [← hs 40 rfl,← hb 40 rfl,← hx 4 rfl,← hx 5 rfl]; exact h
   | 7,h=>by dsimp only; rw [← hs 33 rfl,← hb 40 rfl]; exact h
   | 8,h=>by dsimp only; rw [← hs 41 rfl,← hb 40 rfl]; exact h
   | 10,h=>by dsimp only; rw [← hb 40 rfl,← hx 6 rfl]; exact h
   | 0, _ | 1, _ | 2, _ | 3, _ | 4, _ | 5, _ | 9, _ | _+11, _=>trivial
  ·refine ⟨?_,?_,?_,?_,?_,?_,?_,?_,?_,?_,trivial⟩
   ·exact xs4 rfl id fun cx=>run_load1 rfl (by kernel_rfl) (cx.ou 1) ((Blk.ext (hRd _ cx.upd).b1 (Ext.refl _)).cell 0)
   ·exact xs4 rfl id fun cx=>run_load1 rfl (by kernel_rfl) (cx.an 1) ((cx.bi 1 rfl).cell 5)
   ·exact xs4 rfl id fun cx=>run_indexSlM (e:=104) (m:=0) (sz:=3) rfl (by kernel_rfl) (by kernel_rfl) (cx.an 2) (cx.co _) (by omega) (by omega) (At.of_ownN (cx.ri 2 rfl)) (flatPos (sz:=3) enC_len (by decide) (by omega))
   ·exact xs4 rfl id fun cx=>run_fieldAd rfl (by kernel_rfl) (cx.an 3)
   ·exact xs4 rfl id fun cx=>run_load1 rfl (by kernel_rfl) (cx.an 4) (At.eltc (f:=enC) (k:=2) enC_len (At.of_ownN (cx.ri 2 rfl)) (en_get (by omega)) rfl)
   ·refine svA fun ρ β W X cx=>?_
    refine DoesU.call (run_callF (args:=#[.iface tt (tv),vi ((nd.es.getD 0 en0).2.2)]) rfl cx.sees rfl (by kernel_rfl) (map2 (cx.an 0) (cx.an 5))) ?_
    refine (kat_u _ _ ps ((nd.es.getD 0 en0).2.2) _ (hRd _ cx.upd).pgs hok hoc).mono ?_
    rintro e W1 ⟨px4,EA4,ec4,rfl,hs4⟩
    refine ⟨_,rfl,post_st [eO 104 3 (.slice EA4 (ndZ ps ((nd.es.getD 0 en0).2.2)).es.length ec4) (ndZ ps ((nd.es.getD 0 en0).2.2)).es.length ((ndZ ps ((nd.es.getD 0 en0).2.2)).es.flatMap enC),eFt ((ndAt ps ((nd.es.getD 0 en0).2.2)).isSome=true→px4=((nd.es.getD 0 en0).2.2))] rfl rfl hs4 (fun σ β' X' hs hb hv hN=>?_)⟩
    have hv1:=(hv 40 rfl).1; have hv2:=(hv 40 rfl).2
    exact ⟨hv1.trans (by rw [hv2]; rfl),(by rw [hv2]; exact (List.cons.inj hN).1),(by rw [hv2]; exact (List.cons.inj (List.cons.inj hN).2).1)⟩
   ·exact sv rfl rfl rfl rfl rfl _ (fun _ _ _ h=>h) (fun β β' h=>by rw [h 40 (by decide)]) fun ρ β W X cx=>run_move' rfl (dTn (cx.an 6)).1
   ·exact sv rfl rfl rfl rfl rfl _ (fun _ _ _ h=>h) (fun β β' h=>by rw [h 40 (by decide)]) fun ρ β W X cx=>run_extract' rfl (dTn (cx.an 7)) rfl
   ·exact xs4 rfl id fun cx=>run_extract' rfl (dTn (cx.an 7)) rfl
   ·refine svA fun ρ β W X cx=>?_
    exact dv_store (n:=7) rfl (cx.ou 5) (dTn (cx.an 8)) (by kernel_rfl) (by kernel_rfl) (by kernel_rfl) cx (cx.init 1 _ rfl) rfl (nle rfl) (by kernel_rfl) rfl rfl rfl (fun σ β' X' hs hb hx=>by rw [hb 40]; exact hx)
  intro σ β X W22 hD hst22 fr hfr
  obtain ⟨px40_22,hu_px40_22⟩:∃ z,iv (tg (tg (β 40) 0) 0)=z:=⟨_,rfl⟩
  obtain ⟨EA40_22,hu_EA40_22⟩:∃ z,sA (tg (tg (β 40) 0) 5)=z:=⟨_,rfl⟩
  obtain ⟨ec40_22,hu_ec40_22⟩:∃ z,sC (tg (tg (β 40) 0) 5)=z:=⟨_,rfl⟩
  simp only [exq 4 ((dTn (hD 6 lq)).2.1),exq 5 ((dTn (hD 6 lq)).2.2),exq 6 ((dTn (hD 10 lq))),hu_px40_22,hu_EA40_22,hu_ec40_22] at hst22
  simp only [ed 40 ((dTn (hD 6 lq)).1),ed 33 ((dTn (hD 7 lq))),ed 41 ((dTn (hD 8 lq))),hu_px40_22,hu_EA40_22,hu_ec40_22] at hfr
  clear hD hu_px40_22 hu_EA40_22 hu_ec40_22; subst hfr; clear σ β X
  refine blk_normal (then_normal (sqr (sqp [.m 31 7,sI 32 ((s:Int)+1) (by omega), .m 7 32] ?_)))
  refine then_normal ?_
  have hft_:=(hst22.get 4 rfl).holds
  refine ⟨1000 - ((s+1)),by omega,?_⟩
  exact ⟨(nd.es.getD 0 en0).2.2,px40_22,(ndZ ps (nd.es.getD 0 en0).2.2),(ndAt ps (nd.es.getD 0 en0).2.2).isSome,EA40_22,ec40_22,(s+1),by omega,rfl,rfl,hft_,dsc_step hds ⟨by omega,by omega⟩ hno_ (by omega) (by omega),rfl,(by kernel_rfl),hst22.pk [0,5,3,2]⟩
 have hs21p:=hs21
 simp only [zB] at hs21p
 refine wp_exit (then_exit (then_exit (blk_eq (then_normal (wp_seq (wp_seq (sqr (sqp [.m 43 6, .k 44 (.bool (!(is))), .m 45 44] ?_))))))))
 refine sqw' 45 [46,47,48,49] ?_ rfl (fun hq=>?_) ?_
 rotate_left
 ·refine sqp [.k 46 (.pointer (some ⟨B5_1,1,none⟩))] ?_
  refine sqld 1 hst3 ?_
  refine sql (vi lv) hst3 (fun cx=>run_load1 rfl (by kernel_rfl) (cx.ou 3) ((Blk.ext (hRd _ cx.upd).b3 (Ext.refl _)).cell 0)) ?_
  refine sqp [.k 49 (.bool (nd.lv != lv))] ?_
  exact sqe
 refine sqwx ?_
 refine sqp [sPo 50 (!(is)) (nd.lv != lv)] ?_
 refine then_normal (wbs (fun hs34=>?_) fun hs34=>?_)
 ·have hs34p:=hs34
  simp only [zB] at hs34p
  refine wp_ret (then_ret ?_)
  refine bpr (.tuple #[]) (by simp [results,Try.results99,go_sem]) ?_
  exact ⟨⟨_,rfl⟩,true, _, _, _,hst3.pick [0,3] (by decide) rfl,YnZ.all (row_off his hnz hds hs (fun e hh=>by have h_:=hs21; rw [e,decide_eq_true hh.1,decide_eq_true (show 0 < (nd.es.length:Int) by omega),decide_eq_true (show (s:Int) < 1000 by omega)] at h_; cases h_) (fun e=>by have h_:=hs34; rw [e] at h_; simpa using h_)).symm⟩
 have hs34p:=hs34
 simp only [zB] at hs34p
 obtain ⟨hs34p1,hs34p2⟩:=hs34p
 refine wp_skip (then_normal (wp_seq (sqr (sqp [.k 51 (vi 0)] ?_))))
 refine then_normal (wp_block ?_)
 have hno_:ndAt ps x=some nd:=nd_is his hnz hs34p1
 obtain rfl:x=px:=(hpx hs34p1).symm
 have hlv_:nd.lv=lv:=hs34p2
 have hrow_:=row_begin hds hs hno_ hlv_
 refine wp_loopT (fun t_ mz az W=>∃ i:Nat,∃ y:Int,∃ n1:NoD,∃ EB:Option Addr,∃ eb:Nat,∃ CC:List Nat,∃ pre:List YnD,∃ fp:List Nat,i≤1000∧ndAt ps y=some n1∧n1.lv=lv∧pre.map pgN++chnF ps lv (1000 - i) y=rowF ps root lv∧pre.length=i∧mz=1000 - i∧az=⟨(ovr (jv az) [(6,6,1,[]),(44,51,0,[vi ((i:Int))]),(0,52,21,[])] t_).toArray,[]⟩∧St w C0 [eJ (J true) CC pre,eB B5_1 116 #[vi y,vi n1.lv,vi n1.right, .string n1.high, .bool n1.dead, .slice EB n1.es.length eb,vi ((n1.free:Int))],eO 104 3 (.slice EB n1.es.length eb) n1.es.length (n1.es.flatMap enC),eYs pre fp] W) (1000 - 0) ?_ ?_
 · -- the loop begins
   exact ⟨0,x,nd,EA,ec,C0,[],[],Nat.zero_le _,hno_,hlv_,hrow_,rfl,rfl,(by kernel_rfl),hst3.pk [0,1,2,3]⟩
 rintro n36 a36 W36 ⟨i,y,n1,EB,eb,CC,pre,fp,hi,hn7,hlv,hrow,hpl,rfl,hj_,hst36⟩
 refine ovz hj_ fun u36_=>?_
 have hN:=nd_ok hok hn7
 have hN1:=hN.len
 refine wp_seq (sqr (sqp [.k 52 (.bool (decide ((i:Int) < 1000)))] ?_))
 refine then_normal (wp_seq (wds (fun hs38 hs38p=>?_) fun hs38 hs38p=>?_))
 ·refine wp_skip (then_normal (wp_seq (wp_block (wp_seq (wp_seq ?_)))))
  have hi7:i < 1000:=by omega
  have hyb_:=hst36.blk 1 rfl
  have hpk_:=hst36.pick [0,2,1,3] (by decide) rfl
  have hyy_:=hY CC pre (n1,y,EB,eb) _ hn7 hpk_.borrow (by omega)
  refine wp_region4In (wpOpsIn_val rfl rfl rfl (run_move' rfl rfl) rfl (wpOpsIn_val rfl rfl rfl (run_loadB (n:=7) rfl (by kernel_rfl) (by kernel_rfl) rfl hyb_ (nle rfl) rfl) rfl (wpOpsIn_ylb (args:=ynE (n1,y,EB,eb)) (R:=fun b B=>∃ C',St _ (CC++(ynR (n1,y,EB,eb)).fp) [eJ (J b) C' (pre++[(n1,y,EB,eb)]),ynR (n1,y,EB,eb)] B) (fun b_=>[.func (.yield l) #[] #[],vp b1,vp b2,vp b3,undef,vp B5_1,u36_ 6,vi ((s:Int)), .tuple #[.agg #[vi px11_1,vi ((ndZ ps root).lv),vi ((ndZ ps root).right), .string ((ndZ ps root).high), .bool ((ndZ ps root).dead), .slice EA11_1 ((ndZ ps root).es.length) ec11_1,vi (((ndZ ps root).free:Int))], .bool ((ndAt ps root).isSome)], .iface tt (tv),vi root, .tuple #[.agg #[vi px11_1,vi ((ndZ ps root).lv),vi ((ndZ ps root).right), .string ((ndZ ps root).high), .bool ((ndZ ps root).dead), .slice EA11_1 ((ndZ ps root).es.length) ec11_1,vi (((ndZ ps root).free:Int))], .bool ((ndAt ps root).isSome)], .agg #[vi px11_1,vi ((ndZ ps root).lv),vi ((ndZ ps root).right), .string ((ndZ ps root).high), .bool ((ndZ ps root).dead), .slice EA11_1 ((ndZ ps root).es.length) ec11_1,vi (((ndZ ps root).free:Int))], .bool ((ndAt ps root).isSome), .bool is, .bool is,mb is (.pointer (some ⟨B5_1,1,none⟩)),mb is (vi nd.lv),mb is (vi lv),mb is (.bool (decide (lv < nd.lv))), .bool (is&&(decide (lv < nd.lv))), .bool (is&&(decide (lv < nd.lv))),mb (is&&(decide (lv < nd.lv))) (.pointer (some ⟨B5_1,5,none⟩)),mb (is&&(decide (lv < nd.lv))) (.slice EA nd.es.length ec),mb (is&&(decide (lv < nd.lv))) (vi ((nd.es.length:Int))),mb (is&&(decide (lv < nd.lv))) (.bool (decide (0 < (nd.es.length:Int)))), .bool ((is&&(decide (lv < nd.lv)))&&(decide (0 < (nd.es.length:Int)))), .bool ((is&&(decide (lv < nd.lv)))&&(decide (0 < (nd.es.length:Int)))),mb ((is&&(decide (lv < nd.lv)))&&(decide (0 < (nd.es.length:Int)))) (vi ((s:Int))),mb ((is&&(decide (lv < nd.lv)))&&(decide (0 < (nd.es.length:Int)))) (.bool (decide ((s:Int) < 1000))), .bool (((is&&(decide (lv < nd.lv)))&&(decide (0 < (nd.es.length:Int))))&&(decide ((s:Int) < 1000))),u3_ 31,u3_ 32,u3_ 33,u3_ 34,u3_ 35,u3_ 36,u3_ 37,u3_ 38,u3_ 39,u3_ 40,u3_ 41,u3_ 42, .bool is, .bool (!(is)), .bool (!(is)),mb (!(!(is))) (.pointer (some ⟨B5_1,1,none⟩)),mb (!(!(is))) (vi nd.lv),mb (!(!(is))) (vi lv),mb (!(!(is))) (.bool (nd.lv != lv)), .bool ((!(is))||(nd.lv != lv)),vi ((i:Int)), .bool (decide ((i:Int) < 1000)), .func (.yield l) #[] #[], .agg #[vi y,vi n1.lv,vi n1.right, .string n1.high, .bool n1.dead, .slice EB n1.es.length eb,vi ((n1.free:Int))], .bool b_,u36_ 56,u36_ 57,u36_ 58,u36_ 59,u36_ 60,u36_ 61,u36_ 62,u36_ 63,u36_ 64,u36_ 65,u36_ 66,u36_ 67,u36_ 68,u36_ 69,u36_ 70,u36_ 71,u36_ 72]) rfl rfl rfl (fun r hr=>run_callY rfl rfl rfl (map1 rfl) hr) hyy_ (fun _=>rfl) fun b_ W39 ⟨C2,hJ2⟩ tt_ htt_=>?_)))
  have htt2_:tt_=[.func (.yield l) #[] #[],vp b1,vp b2,vp b3,undef,vp B5_1,u36_ 6,vi ((s:Int)), .tuple #[.agg #[vi px11_1,vi ((ndZ ps root).lv),vi ((ndZ ps root).right), .string ((ndZ ps root).high), .bool ((ndZ ps root).dead), .slice EA11_1 ((ndZ ps root).es.length) ec11_1,vi (((ndZ ps root).free:Int))], .bool ((ndAt ps root).isSome)], .iface tt (tv),vi root, .tuple #[.agg #[vi px11_1,vi ((ndZ ps root).lv),vi ((ndZ ps root).right), .string ((ndZ ps root).high), .bool ((ndZ ps root).dead), .slice EA11_1 ((ndZ ps root).es.length) ec11_1,vi (((ndZ ps root).free:Int))], .bool ((ndAt ps root).isSome)], .agg #[vi px11_1,vi ((ndZ ps root).lv),vi ((ndZ ps root).right), .string ((ndZ ps root).high), .bool ((ndZ ps root).dead), .slice EA11_1 ((ndZ ps root).es.length) ec11_1,vi (((ndZ ps root).free:Int))], .bool ((ndAt ps root).isSome), .bool is, .bool is,mb is (.pointer (some ⟨B5_1,1,none⟩)),mb is (vi nd.lv),mb is (vi lv),mb is (.bool (decide (lv < nd.lv))), .bool (is&&(decide (lv < nd.lv))), .bool (is&&(decide (lv < nd.lv))),mb (is&&(decide (lv < nd.lv))) (.pointer (some ⟨B5_1,5,none⟩)),mb (is&&(decide (lv < nd.lv))) (.slice EA nd.es.length ec),mb (is&&(decide (lv < nd.lv))) (vi ((nd.es.length:Int))),mb (is&&(decide (lv < nd.lv))) (.bool (decide (0 < (nd.es.length:Int)))), .bool ((is&&(decide (lv < nd.lv)))&&(decide (0 < (nd.es.length:Int)))), .bool ((is&&(decide (lv < nd.lv)))&&(decide (0 < (nd.es.length:Int)))),mb ((is&&(decide (lv < nd.lv)))&&(decide (0 < (nd.es.length:Int)))) (vi ((s:Int))),mb ((is&&(decide (lv < nd.lv)))&&(decide (0 < (nd.es.length:Int)))) (.bool (decide ((s:Int) < 1000))), .bool (((is&&(decide (lv < nd.lv)))&&(decide (0 < (nd.es.length:Int))))&&(decide ((s:Int) < 1000))),u3_ 31,u3_ 32,u3_ 33,u3_ 34,u3_ 35,u3_ 36,u3_ 37,u3_ 38,u3_ 39,u3_ 40,u3_ 41,u3_ 42, .bool is, .bool (!(is)), .bool (!(is)),mb (!(!(is))) (.pointer (some ⟨B5_1,1,none⟩)),mb (!(!(is))) (vi nd.lv),mb (!(!(is))) (vi lv),mb (!(!(is))) (.bool (nd.lv != lv)), .bool ((!(is))||(nd.lv != lv)),vi ((i:Int)), .bool (decide ((i:Int) < 1000)), .func (.yield l) #[] #[], .agg #[vi y,vi n1.lv,vi n1.right, .string n1.high, .bool n1.dead, .slice EB n1.es.length eb,vi ((n1.free:Int))], .bool b_,u36_ 56,u36_ 57,u36_ 58,u36_ 59,u36_ 60,u36_ 61,u36_ 62,u36_ 63,u36_ 64,u36_ 65,u36_ 66,u36_ 67,u36_ 68,u36_ 69,u36_ 70,u36_ 71,u36_ 72]:=htt_
  clear htt_; subst htt2_
  have hst39:St w C0 [eJ (J b_) C2 (pre++[(n1,y,EB,eb)]),eO 104 3 (.slice EB n1.es.length eb) n1.es.length (n1.es.flatMap enC),eB B5_1 116 #[vi y,vi n1.lv,vi n1.right, .string n1.high, .bool n1.dead, .slice EB n1.es.length eb,vi ((n1.free:Int))],eYs pre fp] W39:=hpk_.back hJ2
  refine wpOpsIn_val rfl rfl rfl (run_not rfl rfl rfl) rfl ?_
  unfold wpOpsIn
  refine then_normal ?_
  rcases Bool.eq_false_or_eq_true (b_) with hs40 | hs40
  ·subst hs40
   refine wcf rfl (wp_skip (then_normal (wp_seq (wp_region_Y [0,0,2,7,15,31,31,63,255] [[],[],[2],[],[],[],[],[2]] [[],[],[],[4,5],[],[],[],[6]] [[],[],[],[],[],[],[],[2]] [.c 58 (.iface tt (tv)), .k 59 (.pointer (some ⟨B5_1,2,none⟩)), .c 60 (vi n1.right), .a 61, .a 57, .a 62, .c 63 (.bool ((ndAt ps n1.right).isSome)), .n, .k 6 (.bool ((ndAt ps n1.right).isSome))] (fun ix σ β X=>match ix with | 0=>True | 1=>True | 2=>True | 3=>σ 61= .tuple #[.agg #[vi (iv (tg (tg (β 61) 0) 0)),vi ((ndZ ps n1.right).lv),vi ((ndZ ps n1.right).right), .string ((ndZ ps n1.right).high), .bool ((ndZ ps n1.right).dead), .slice (sA (tg (tg (β 61) 0) 5)) ((ndZ ps n1.right).es.length) (sC (tg (tg (β 61) 0) 5)),vi (((ndZ ps n1.right).free:Int))], .bool ((ndAt ps n1.right).isSome)]∧X 4=eO 104 3 (.slice (sA (tg (tg (β 61) 0) 5)) ((ndZ ps n1.right).es.length) (sC (tg (tg (β 61) 0) 5))) ((ndZ ps n1.right).es.length) ((ndZ ps n1.right).es.flatMap enC)∧X 5=eFt ((ndAt ps n1.right).isSome=true→(iv (tg (tg (β 61) 0) 0))=n1.right) | 4=>σ 57= .tuple #[.agg #[vi (iv (tg (tg (β 61) 0) 0)),vi ((ndZ ps n1.right).lv),vi ((ndZ ps n1.right).right), .string ((ndZ ps n1.right).high), .bool ((ndZ ps n1.right).dead), .slice (sA (tg (tg (β 61) 0) 5)) ((ndZ ps n1.right).es.length) (sC (tg (tg (β 61) 0) 5)),vi (((ndZ ps n1.right).free:Int))], .bool ((ndAt ps n1.right).isSome)] | 5=>σ 62= .agg #[vi (iv (tg (tg (β 61) 0) 0)),vi ((ndZ ps n1.right).lv),vi ((ndZ ps n1.right).right), .string ((ndZ ps n1.right).high), .bool ((ndZ ps n1.right).dead), .slice (sA (tg (tg (β 61) 0) 5)) ((ndZ ps n1.right).es.length) (sC (tg (tg (β 61) 0) 5)),vi (((ndZ ps n1.right).free:Int))] | 6=>True | 7=>X 6=eB B5_1 116 #[vi (iv (tg (tg (β 61) 0) 0)),vi ((ndZ ps n1.right).lv),vi ((ndZ ps n1.right).right), .string ((ndZ ps n1.right).high), .bool ((ndZ ps n1.right).dead), .slice (sA (tg (tg (β 61) 0) 5)) ((ndZ ps n1.right).es.length) (sC (tg (tg (β 61) 0) 5)),vi (((ndZ ps n1.right).free:Int))] | _=>True) [0,1,3,4,5,6] [0,2,3,4,5,6,7] [(6,8,1,7),(50,4,1,51),(0,0,4,4),(0,5,2,2)] hst39 ?_ ?_ ?_))))
   ·exact fun ix _ _ _ _ _ _ hs hb hx h=>match ix,h with
    | 3,h=>by dsimp only; rw [← hs 61 rfl,← hb 61 rfl,← hx 4 rfl,← hx 5 rfl]; exact h
    | 4,h=>by dsimp only; rw [← hs 57 rfl,← hb 61 rfl]; exact h
    | 5,h=>by dsimp only; rw [← hs 62 rfl,← hb 61 rfl]; exact h
    | 7,h=>by dsimp only; rw [← hb 61 rfl,← hx 6 rfl]; exact h
    | 0, _ | 1, _ | 2, _ | 6, _ | _+8, _=>trivial
   ·refine ⟨?_,?_,?_,?_,?_,?_,?_,trivial⟩
    ·exact xs4 rfl id fun cx=>run_load1 rfl (by kernel_rfl) (cx.ou 1) ((Blk.ext (hRd _ cx.upd).b1 (Ext.refl _)).cell 0)
    ·exact xs4 rfl id fun cx=>run_load1 rfl (by kernel_rfl) (cx.an 1) ((cx.bi 2 rfl).cell 2)
    ·refine svA fun ρ β W X cx=>?_
     refine DoesU.call (run_callF (args:=#[.iface tt (tv),vi n1.right]) rfl cx.sees rfl (by kernel_rfl) (map2 (cx.an 0) (cx.an 2))) ?_
     refine (kat_u _ _ ps n1.right _ (hRd _ cx.upd).pgs hok hoc).mono ?_
     rintro e W1 ⟨px4,EA4,ec4,rfl,hs4⟩
     refine ⟨_,rfl,post_st [eO 104 3 (.slice EA4 (ndZ ps n1.right).es.length ec4) (ndZ ps n1.right).es.length ((ndZ ps n1.right).es.flatMap enC),eFt ((ndAt ps n1.right).isSome=true→px4=n1.right)] rfl rfl hs4 (fun σ β' X' hs hb hv hN=>?_)⟩
     have hv1:=(hv 61 rfl).1; have hv2:=(hv 61 rfl).2
     exact ⟨hv1.trans (by rw [hv2]; rfl),(by rw [hv2]; exact (List.cons.inj hN).1),(by rw [hv2]; exact (List.cons.inj (List.cons.inj hN).2).1)⟩
    ·exact sv rfl rfl rfl rfl rfl _ (fun _ _ _ h=>h) (fun β β' h=>by rw [h 61 (by decide)]) fun ρ β W X cx=>run_move' rfl (dTn (cx.an 3)).1
    ·exact sv rfl rfl rfl rfl rfl _ (fun _ _ _ h=>h) (fun β β' h=>by rw [h 61 (by decide)]) fun ρ β W X cx=>run_extract' rfl (dTn (cx.an 4)) rfl
    ·exact xs4 rfl id fun cx=>run_extract' rfl (dTn (cx.an 4)) rfl
    ·refine svA fun ρ β W X cx=>?_
     exact dv_store (n:=7) rfl (cx.ou 5) (dTn (cx.an 5)) (by kernel_rfl) (by kernel_rfl) (by kernel_rfl) cx (cx.init 2 _ rfl) rfl (nle rfl) (by kernel_rfl) rfl rfl rfl (fun σ β' X' hs hb hx=>by rw [hb 61]; exact hx)
   intro σ β X W41 hD hst41 fr hfr
   obtain ⟨px61_41,hu_px61_41⟩:∃ z,iv (tg (tg (β 61) 0) 0)=z:=⟨_,rfl⟩
   obtain ⟨EA61_41,hu_EA61_41⟩:∃ z,sA (tg (tg (β 61) 0) 5)=z:=⟨_,rfl⟩
   obtain ⟨ec61_41,hu_ec61_41⟩:∃ z,sC (tg (tg (β 61) 0) 5)=z:=⟨_,rfl⟩
   simp only [exq 4 ((dTn (hD 3 lq)).2.1),exq 5 ((dTn (hD 3 lq)).2.2),exq 6 ((dTn (hD 7 lq))),hu_px61_41,hu_EA61_41,hu_ec61_41] at hst41
   simp only [ed 61 ((dTn (hD 3 lq)).1),ed 57 ((dTn (hD 4 lq))),ed 62 ((dTn (hD 5 lq))),hu_px61_41,hu_EA61_41,hu_ec61_41] at hfr
   clear hD hu_px61_41 hu_EA61_41 hu_ec61_41; subst hfr; clear σ β X
   refine then_normal (wp_seq (sqr (sqp [.m 64 6, .k 65 (.bool (!((ndAt ps n1.right).isSome))), .m 66 65] ?_)))
   refine sqw' 66 [67,68,69,70] ?_ rfl (fun hq=>?_) ?_
   rotate_left
   ·refine sqp [.k 67 (.pointer (some ⟨B5_1,1,none⟩))] ?_
    refine sqld 5 hst41 ?_
    refine sql (vi lv) hst41 (fun cx=>run_load1 rfl (by kernel_rfl) (cx.ou 3) ((Blk.ext (hRd _ cx.upd).b3 (Ext.refl _)).cell 0)) ?_
    refine sqp [.k 70 (.bool (((ndZ ps n1.right).lv) != lv))] ?_
    exact sqe
   refine sqwx ?_
   refine sqp [sPo 71 (!((ndAt ps n1.right).isSome)) (((ndZ ps n1.right).lv) != lv)] ?_
   refine then_normal (wbs (fun hs50=>?_) fun hs50=>?_)
   ·have hs50p:=hs50
    simp only [zB] at hs50p
    refine wp_ret (blk_ret (then_ret (then_ret (blk_ret ?_))))
    refine bpr (.tuple #[]) (by simp [results,Try.results99,go_sem]) ?_
    have hy51:=St.yn1 (y:=(n1,y,EB,eb)) (hst41.pick [2,1,0,3,4,5] (by decide) rfl)
    exact ⟨⟨_,rfl⟩,true, _, _, _,hy51.pick [1,0] (by decide) rfl,YnZ.all (row_fin2 hrow hn7 hlv hi7 (fun e=>by have h_:=hs50; rw [e] at h_; simpa using h_))⟩
   have hs50p:=hs50
   simp only [zB] at hs50p
   obtain ⟨hs50p1,hs50p2⟩:=hs50p
   refine wp_skip (blk_normal (then_normal (sqr (sqp [sI 72 ((i:Int)+1) (by omega), .m 51 72] ?_))))
   refine then_normal ?_
   have hft_:=(hst41.get 4 rfl).holds hs50p1
   obtain ⟨n2,hn2⟩:=Option.isSome_iff_exists.1 hs50p1
   have hz2:ndZ ps n1.right=n2:=by rw [ndZ,hn2]; rfl
   rw [hft_,hz2] at hst41
   have hlq_:n2.lv=lv:=by rw [← hz2]; exact hs50p2
   have hy54:=St.yn1 (y:=(n1,y,EB,eb)) (hst41.pick [2,1,0,3,4,5] (by decide) rfl)
   refine ⟨1000 - ((i+1)),by omega,?_⟩
   exact ⟨(i+1),n1.right,n2,EA61_41,ec61_41,C2,(pre++[(n1,y,EB,eb)]),(fp++(ynR (n1,y,EB,eb)).fp),by omega,hn2,hlq_,row_next hrow hn7 hlv hi7,by rw [List.length_append,hpl]; rfl,rfl,(by kernel_rfl),hy54.pk [1,4,2,0]⟩
  subst hs40
  have hy55:=St.yn1 (y:=(n1,y,EB,eb)) (hst39.pick [3,1,0,2] (by decide) rfl)
  refine wct rfl (wp_ret (then_ret (blk_ret (then_ret (then_ret (blk_ret ?_))))))
  refine bpr (.tuple #[]) (by simp [results,Try.results99,go_sem]) ?_
  exact ⟨⟨_,rfl⟩,false, _, _, _,hy55.pick [1,0] (by decide) rfl,YnZ.some (row_next (EA:=EB) (ec:=eb) hrow hn7 hlv hi7)⟩
 refine wp_exit (then_exit (then_exit (blk_eq ?_)))
 refine bpe (.tuple #[]) (by simp [results,Try.results99,go_sem]) ?_
 exact ⟨⟨_,rfl⟩,true, _, _, _,hst36.pick [0,3] (by decide) rfl,YnZ.all (row_fin hrow (by omega))⟩
theorem krow_seqG (b1 b2 b3:Nat) (tt:TypeId) (tv:Value) (root lv:Int) {ps:List PgS} (hok:OkS ps) (hoc:OkC ps):
  SeqG Try.prog 99 #[.pointer (some ⟨b1,0,none⟩), .pointer (some ⟨b2,0,none⟩), .pointer (some ⟨b3,0,none⟩)] ynE ynR (fun y=>ndAt ps y.2.1=some y.1) 1000 (YnZ (rowF ps root lv)) (RdR b1 b2 b3 tt tv root lv ps):=fun l J W C0 hRd hloc hC0 hJ0 hY=>
 callsIn_wide.2 (krowg_in l b1 b2 b3 tt tv root lv ps J C0 W hRd hok hoc hloc hC0 hJ0 hY)
/-- what it reads stays under changes elsewhere -/
theorem RdR.keep {b1 b2 b3:Nat} {tt:TypeId} {tv:Value} {root lv:Int} {ps:List PgS} {w0 W A:World} {L:List Ent} (h:St w0 [] (eB b1 113 #[.iface tt tv]::eB b2 3 #[.int .i64 root]::eB b3 3 #[.int .i64 lv]::L) W) (hS:PgsOk w0 tt tv ps) (hA:Upd (fps L) W A):RdR b1 b2 b3 tt tv root lv ps A:=by
 have hp1:=List.pairwise_cons.1 h.apart
 have hp2:=List.pairwise_cons.1 hp1.2
 have hp3:=List.pairwise_cons.1 hp2.2
 have key:∀ (b:Nat) (t:TypeId) (cs:Array Value),eB b t cs∈(eB b1 113 #[.iface tt tv]::eB b2 3 #[.int .i64 root]::eB b3 3 #[.int .i64 lv]::L)→(∀ e∈L,(eB b t cs).apart e)→Blk A b t cs:=fun b t cs hm hap=>by
  have ho:=h.ok _ hm
  refine ho.loc W A (fun k hk=>hA.block k (ho.own k hk).2 fun hkf=>?_) ho.holds
  obtain ⟨e,he,hke⟩:=fps_mem.1 hkf
  exact hap e he k hk hke
 refine ⟨key _ _ _ (by simp) fun e he=>hp1.1 e (by simp [he]),key _ _ _ (by simp) fun e he=>hp2.1 e (by simp [he]),key _ _ _ (by simp) fun e he=>hp3.1 e he,hS.ext (h.upd.join hA fun i hi=>?_).to_ext⟩
 obtain ⟨e,he,hke⟩:=fps_mem.1 hi
 have:=((h.ok e (by simp [he])).own i hke).1
 exact this
end
section
open Go.RowKit
theorem ynC_len (x:YnD):(ynC x).length=7:=rfl
/-- the nodes collected: one node, its entries -/
def eCo (SA:Option Addr) (nd:NoD) (pg:Int) (fp:List Nat):Ent:=⟨fp,fun W=>∃ EA ec,(∀ ad,SA=some ad→ad.block∈fp)∧(∀ ad,EA=some ad→ad.block∈fp)∧At W SA ([(nd,pg,EA,ec)].flatMap ynC)∧At W EA (nd.es.flatMap enC)⟩
theorem eCo_self {e:Ent} {SA:Option Addr} {nd:NoD} {pg:Int} {fp:List Nat} (h:e=eCo SA nd pg fp):e=eCo SA nd pg e.fp:=by subst h; rfl
theorem eCo_loc (SA:Option Addr) (nd:NoD) (pg:Int) (fp:List Nat):(eCo SA nd pg fp).loc:=fun W W' hk h=>by
 obtain ⟨EA,ec,h1,h2,h3,h4⟩:=h
 exact ⟨EA,ec,h1,h2,at_blocks h3 fun ad e _=>hk _ (h1 ad e),at_blocks h4 fun ad e _=>hk _ (h2 ad e)⟩
theorem own_blkN {W:World} {t sz m lc:Nat} {LA:Option Addr} {xs:List Value} (h:W.ownsRow 0 t sz (.slice LA m lc) m xs):∀ ad,LA=some ad→ad.block∈(Value.ownBlock (.slice LA m lc)).toList:=fun ad e=>by
 rcases h.2 with ⟨hv, _⟩ | ⟨g,cap,cur,hv, _⟩
 ·injection hv with h2; rw [e] at h2; cases h2
 ·subst e; injection hv with h5; injection h5 with h5; subst h5; simp [Value.ownBlock]
def CoPost (nd:NoD) (pg:Int) (w:World) (e:Ending) (w':World):Prop:=∃ SA sc fp,e= .returned (.slice SA 1 sc)∧St w [] [eCo SA nd pg fp] w'
theorem co_done {w W:World} {SA:Option Addr} {sc n:Nat} {nd:NoD} {pg:Int} {xs:List YnD} {E:Ent} (hz:OneZ pg nd xs E) (h:St w [] [eO 116 7 (.slice SA n sc) n (xs.flatMap ynC),E] W) (hn:n=xs.length):CoPost nd pg w (.returned (.slice SA n sc)) W:=by
 obtain ⟨EA,ec,rfl,rfl⟩:=hz
 subst hn
 have h1:=h.ok (eO 116 7 (.slice SA 1 sc) 1 ([(nd,pg,EA,ec)].flatMap ynC)) (by simp)
 have h2:=h.ok (ynR (nd,pg,EA,ec)) (by simp)
 have hO:W.ownsRow 0 116 7 (.slice SA 1 sc) 1 ([(nd,pg,EA,ec)].flatMap ynC):=h1.holds
 have hR:W.ownsRow 0 104 3 (.slice EA nd.es.length ec) nd.es.length (nd.es.flatMap enC):=h2.holds
 refine ⟨SA,sc,(Value.ownBlock (.slice SA 1 sc)).toList++(Value.ownBlock (.slice EA nd.es.length ec)).toList,rfl,h.upd,fun x hx=>?_,List.pairwise_singleton _ _⟩
 rw [List.mem_singleton] at hx
 subst hx
 refine ⟨⟨EA,ec,fun ad e=>List.mem_append_left _ (own_blkN hO ad e),fun ad e=>List.mem_append_right _ (own_blkN hR ad e),At.of_ownN hO,At.of_ownN hR⟩,eCo_loc _ _ _ _,fun k hk=>?_⟩
 rcases List.mem_append.1 hk with hk | hk
 ·exact h1.own k hk
 ·exact h2.own k hk
theorem yn_snoc (L:List YnD) (x:YnD):L.flatMap ynC++ynC x=(L++[x]).flatMap ynC:=by simp
theorem Try.infoNd:(Try.prog.info? 116).map (fun i=>(i.zero,i.size,i.bytes))=some (some (.agg #[.int .i64 0, .int .i64 0, .int .i64 0, .string ByteArray.empty, .bool false, .slice none 0 0, .int .i64 0]),7,80):=by kernel_rfl
theorem kapp_any (b1 b2 b3:Nat) (root:Int) (nd:NoD) (w:World) (hseq:SeqF Try.prog 99 #[.pointer (some ⟨b1,0,none⟩), .pointer (some ⟨b2,0,none⟩), .pointer (some ⟨b3,0,none⟩)] ynE 1 (OneZ root nd) w):
  Calls Try.prog 98 #[.slice none 0 0, .func (.func 99) #[] #[.pointer (some ⟨b1,0,none⟩), .pointer (some ⟨b2,0,none⟩), .pointer (some ⟨b3,0,none⟩)]] w (CoPost nd root w):=by
 refine (callsIn_wide (n:=3)).1 (callsIn_of_wp_marks Try.func98 rfl trivial (wpIn_wide.2 ?_) rfl)
 simp only [Try.ntmps98,List.size_toArray,List.length_cons,List.length_nil,Nat.reduceAdd,Nat.reduceSub,Array.replicate_succ,Array.replicate_zero,List.push_toArray,List.append_toArray,List.nil_append,List.cons_append]
 have hst0:=St.start w
 refine wp_seq (wp_region_Y [0,0] [] [[0]] [] [.a 2, .k 4 (.slice none 0 0)] (fun ix σ β X=>match ix with | 0=>σ 2=vp (pb (β 2))∧X 0=eB (pb (β 2)) 146 #[.slice none 0 0] | _=>True) [0] [0] [(2,0,1,3),(1,1,1,2)] hst0 ?_ ?_ ?_)
 ·exact fun ix _ _ _ _ _ _ hs hb hx h=>match ix,h with
  | 0,h=>by dsimp only; rw [← hs 2 rfl,← hb 2 rfl,← hx 0 rfl]; exact h
  | _+1, _=>trivial
 ·refine ⟨?_,trivial⟩
  ·refine svA fun ρ β W X cx=>?_
   exact dv_box (cs:=#[.slice none 0 0]) rfl (cx.ou 0) rfl rfl rfl (fun σ β' X' hs hb hv hx=>⟨hv,hx⟩)
 intro σ β X W1 hD hst1 fr hfr
 obtain ⟨B2_1,hu_B2_1⟩:∃ z,pb (β 2)=z:=⟨_,rfl⟩
 simp only [exq 0 ((dTn (hD 0 lq)).2),hu_B2_1] at hst1
 simp only [ed 2 ((dTn (hD 0 lq)).1),hu_B2_1] at hfr
 clear hD hu_B2_1; subst hfr; clear σ β X
 refine then_normal (wp_seq (wp_seq (wp_region_P [0] [.k 6 (.func (.func 99) #[] #[vp b1,vp b2,vp b3])] [(6,0,1,7)] hst1 fun W2 hst2=>?_)))
 refine then_normal (wp_block ?_)
 have hn3:=nilrowN hst2 116 7
 simp only [List.cons_append,List.nil_append] at hn3
 have hp5:=hn3.pick [0,1] (by decide) rfl
 refine wp_rangeSF (α:=YnD) hp5 rfl (enters_of Try.func99 (by kernel_rfl) rfl) (encs:=ynE) (N:=1) (Z:=OneZ root nd) (hseq) (fun _=>rfl) (fun pre L=>∃ SA:Option Addr,∃ n:Nat,∃ sc:Nat,n=pre.length∧L=[eB B2_1 146 #[.slice SA n sc],eO 116 7 (.slice SA n sc) n (pre.flatMap ynC)]) ⟨none,0,0,rfl,rfl⟩ (fun xx a_ E_=>∃ BV:Nat,a_=⟨([.slice none 0 0, .func (.func 99) #[] #[vp b1,vp b2,vp b3],vp B2_1,undef, .slice none 0 0,vp BV, .func (.func 99) #[] #[vp b1,vp b2,vp b3], .agg #[vi xx.2.1,vi xx.1.lv,vi xx.1.right, .string xx.1.high, .bool xx.1.dead, .slice xx.2.2.1 xx.1.es.length xx.2.2.2,vi ((xx.1.free:Int))],undef,undef,undef,undef,undef]).toArray,[]⟩∧E_=eB BV 116 #[vi xx.2.1,vi xx.1.lv,vi xx.1.right, .string xx.1.high, .bool xx.1.dead, .slice xx.2.2.1 xx.1.es.length xx.2.2.2,vi ((xx.1.free:Int))]) (fun xx=>[.slice none 0 0, .func (.func 99) #[] #[vp b1,vp b2,vp b3],vp B2_1,undef, .slice none 0 0,undef, .func (.func 99) #[] #[vp b1,vp b2,vp b3], .agg #[vi xx.2.1,vi xx.1.lv,vi xx.1.right, .string xx.1.high, .bool xx.1.dead, .slice xx.2.2.1 xx.1.es.length xx.2.2.2,vi ((xx.1.free:Int))],undef,undef,undef,undef,undef]) (fun xx=>by kernel_rfl) ?_ ?_ ?_
 ·intro rl xx W4 K hK
  have hst4:=St.start W4
  refine wpIn_region_Y [0,1] [[],[0]] [[0],[1]] [[],[0]] [.a 5, .n] (fun ix σ β X=>match ix with | 0=>σ 5=vp (pb (β 5))∧X 0=eB (pb (β 5)) 116 #[vi 0,vi 0,vi 0, .string ByteArray.empty, .bool false, .slice none 0 0,vi 0] | 1=>X 1=eB (pb (β 5)) 116 #[vi xx.2.1,vi xx.1.lv,vi xx.1.right, .string xx.1.high, .bool xx.1.dead, .slice xx.2.2.1 xx.1.es.length xx.2.2.2,vi ((xx.1.free:Int))] | _=>True) [1] [0,1] [(5,0,1,6)] hst4 ?_ ?_ ?_
  ·exact fun ix _ _ _ _ _ _ hs hb hx h=>match ix,h with
   | 0,h=>by dsimp only; rw [← hs 5 rfl,← hb 5 rfl,← hx 0 rfl]; exact h
   | 1,h=>by dsimp only; rw [← hb 5 rfl,← hx 1 rfl]; exact h
   | _+2, _=>trivial
  ·refine ⟨?_,?_,trivial⟩
   ·refine svA fun ρ β W X cx=>?_
    exact dv_alloc (cs:=#[vi 0,vi 0,vi 0, .string ByteArray.empty, .bool false, .slice none 0 0,vi 0]) rfl (by kernel_rfl) rfl rfl (fun σ β' X' hs hb hv hx=>⟨hv,hx⟩)
   ·refine svA fun ρ β W X cx=>?_
    exact dv_store (n:=7) rfl (dTn (cx.an 0)).1 (cx.ou 7) (by kernel_rfl) (by kernel_rfl) (by kernel_rfl) cx (dTn (cx.an 0)).2 rfl (nle rfl) (by kernel_rfl) rfl rfl rfl (fun σ β' X' hs hb hx=>by rw [hb 5]; exact hx)
  intro σ β X W6 hD hst6 fr hfr
  obtain ⟨B5_6,hu_B5_6⟩:∃ z,pb (β 5)=z:=⟨_,rfl⟩
  simp only [exq 1 ((dTn (hD 1 lq))),hu_B5_6] at hst6
  simp only [ed 5 ((dTn (hD 0 lq)).1),hu_B5_6] at hfr
  clear hD hu_B5_6; subst hfr; clear σ β X
  exact hK _ _ _ ⟨_,rfl,rfl⟩ (hst6.pick [0] (by decide) rfl)
 ·rintro rl pre xx W7 L7 a7 E7 ⟨SA,n,sc,hn,rfl⟩ hlen7 ⟨BV,rfl,rfl⟩ hst7r
  have hst7:St W7 (fps ([eB B2_1 146 #[.slice SA n sc],eO 116 7 (.slice SA n sc) n (pre.flatMap ynC)]++[eB BV 116 #[vi xx.2.1,vi xx.1.lv,vi xx.1.right, .string xx.1.high, .bool xx.1.dead, .slice xx.2.2.1 xx.1.es.length xx.2.2.2,vi ((xx.1.free:Int))]])) [eB B2_1 146 #[.slice SA n sc],eO 116 7 (.slice SA n sc) n (pre.flatMap ynC),eB BV 116 #[vi xx.2.1,vi xx.1.lv,vi xx.1.right, .string xx.1.high, .bool xx.1.dead, .slice xx.2.2.1 xx.1.es.length xx.2.2.2,vi ((xx.1.free:Int))]] W7:=hst7r
  clear hst7r
  refine wpIn_block (wpIn_region_Y [0,0,2,7,15] [[0],[2],[],[3,1],[0]] [[],[],[3],[4],[5]] [[],[],[],[1],[0]] [.c 8 (.slice SA n sc), .c 9 (.agg #[vi xx.2.1,vi xx.1.lv,vi xx.1.right, .string xx.1.high, .bool xx.1.dead, .slice xx.2.2.1 xx.1.es.length xx.2.2.2,vi ((xx.1.free:Int))]), .a 10, .a 11, .n] (fun ix σ β X=>match ix with | 0=>True | 1=>True | 2=>σ 10= .slice ((some ⟨(pb' (β 10)),0,none⟩)) 1 1∧X 3=eO 116 7 (.slice ((some ⟨(pb' (β 10)),0,none⟩)) 1 1) 1 (ynC xx) | 3=>σ 11= .slice (sA (β 11)) (n+1) (sC (β 11))∧X 4=eO 116 7 (.slice (sA (β 11)) (n+1) (sC (β 11))) (n+1) ((pre++[xx]).flatMap ynC) | 4=>X 5=eB B2_1 146 #[.slice (sA (β 11)) (n+1) (sC (β 11))] | _=>True) [2,3,4,5] [0,1,2,3,4] [(8,0,4,12)] hst7 ?_ ?_ ?_)
  ·exact fun ix _ _ _ _ _ _ hs hb hx h=>match ix,h with
   | 2,h=>by dsimp only; rw [← hs 10 rfl,← hb 10 rfl,← hx 3 rfl]; exact h
   | 3,h=>by dsimp only; rw [← hs 11 rfl,← hb 11 rfl,← hx 4 rfl]; exact h
   | 4,h=>by dsimp only; rw [← hb 11 rfl,← hx 5 rfl]; exact h
   | 0, _ | 1, _ | _+5, _=>trivial
  ·refine ⟨?_,?_,?_,?_,?_,trivial⟩
   ·exact xs4 rfl id fun cx=>run_load1 rfl (by kernel_rfl) (cx.ou 2) ((cx.bi 0 rfl).cell 0)
   ·exact xs4 rfl id fun cx=>run_loadB (n:=7) rfl (by kernel_rfl) (by kernel_rfl) (cx.ou 5) (cx.bi 2 rfl) (nle rfl) rfl
   ·refine svA fun ρ β W X cx=>?_
    have fF9:ρ (.tmp 9)= .agg #[vi xx.2.1,vi xx.1.lv,vi xx.1.right, .string xx.1.high, .bool xx.1.dead, .slice xx.2.2.1 xx.1.es.length xx.2.2.2,vi ((xx.1.free:Int))]:=(cx.an 1)
    exact dv_litN (e:=116) (sz:=7) (xs:=[vi xx.2.1,vi xx.1.lv,vi xx.1.right, .string xx.1.high, .bool xx.1.dead, .slice xx.2.2.1 xx.1.es.length xx.2.2.2,vi ((xx.1.free:Int))]) rfl (by simp [go_sem,fF9]) rfl (by decide) rfl rfl (fun σ β' X' hs hb hv hx=>⟨hv,hx⟩)
   ·refine svA fun ρ β W X cx=>?_
    obtain ⟨i0,hi0,hz0,hz1,hz2⟩:=info_parts Try.infoNd
    refine dv_appendN (n:=n) (m:=1) (nm:=n+1) (sz:=7) (xs:=pre.flatMap ynC) (news:=ynC xx) (xs':=(pre++[xx]).flatMap ynC) rfl (ty:=146) rfl (by kernel_rfl) hi0 hz0 hz1 hz2 rfl (by decide) (cx.an 0) cx (cx.init 1 _ rfl) rfl (dTn (cx.an 2)).1 (by rfl) (At.of_ownN (cx.row (dTn (cx.an 2)).2 rfl)) (by simp [ynC,Value.oneCell']) (by simp only [maxLen]; omega) (by omega) rfl rfl rfl (by omega) (yn_snoc _ _) (fun σ β' X' hs hb hv hx=>?_)
    exact ⟨hv,hx⟩
   ·refine svA fun ρ β W X cx=>?_
    exact dv_store (n:=1) rfl (cx.ou 2) (dTn (cx.an 3)).1 (by kernel_rfl) (by kernel_rfl) (by kernel_rfl) cx (cx.init 0 _ rfl) rfl (nle rfl) (by kernel_rfl) rfl rfl rfl (fun σ β' X' hs hb hx=>by rw [hb 11]; exact hx)
  intro σ β X W8 hD hst8 fr hfr
  obtain ⟨B10_8,hu_B10_8⟩:∃ z,pb' (β 10)=z:=⟨_,rfl⟩
  obtain ⟨A11_8,hu_A11_8⟩:∃ z,sA (β 11)=z:=⟨_,rfl⟩
  obtain ⟨c11_8,hu_c11_8⟩:∃ z,sC (β 11)=z:=⟨_,rfl⟩
  simp only [exq 3 ((dTn (hD 2 lq)).2),exq 4 ((dTn (hD 3 lq)).2),exq 5 ((dTn (hD 4 lq))),hu_B10_8,hu_A11_8,hu_c11_8] at hst8
  simp only [ed 10 ((dTn (hD 2 lq)).1),ed 11 ((dTn (hD 3 lq)).1),hu_B10_8,hu_A11_8,hu_c11_8] at hfr
  clear hD hu_B10_8 hu_A11_8 hu_c11_8; subst hfr; clear σ β X
  refine blk_normal ?_
  exact ⟨rfl, _,⟨A11_8,(n+1),c11_8,by rw [hn,List.length_append]; rfl,rfl⟩,hst8.pick [3,2] (by decide) rfl⟩
 ·rintro D4 W4d L4 XS_ E_ ⟨SA,n,sc,hn,rfl⟩ hZ_ hst4d
  simp only [List.cons_append,List.nil_append] at hst4d
  refine blk_normal (then_normal (wp_seq (wp_region_Z [0,1] [[0]] [.c 12 (.slice SA n sc), .k 4 (.slice SA n sc)] [0,1,2,3] [0] [(4,1,1,5),(7,0,1,8)] hst4d ?_ fun W9 hst9=>?_)))
  ·refine ⟨?_,trivial⟩
   ·exact xs4 rfl id fun cx=>run_load1 rfl (by kernel_rfl) (cx.ou 2) ((cx.bi 0 rfl).cell 0)
  refine then_normal (wp_ret ?_)
  refine bpm_take (L:=[eB B2_1 146 #[.slice SA n sc],eO 116 7 (.slice SA n sc) n (XS_.flatMap ynC),E_]) (hst9.pick [0,1,2,3] (by decide) rfl) fun Wt10 ht10=>?_
  refine ⟨.slice SA n sc,(results_1 Try.results98 rpt),?_⟩
  exact co_done hZ_ (ht10.pick [1,2] (by decide) rfl) hn
theorem seqF_ext {α:Type} {P:Program} {gf:Nat} {lb:Array Value} {encs:α→Array Value} {N:Nat} {Z:List α→Ent→Prop} {w w1:World} (h:SeqF P gf lb encs N Z w) (hx:Ext w w1):SeqF P gf lb encs N Z w1:=fun l J W C0 hW hloc hC hJ hY=>h l J W C0 (hx.trans hW) hloc (fun k hk=>⟨Nat.le_trans hx.size (hC k hk).1,(hC k hk).2⟩) hJ hY
theorem kcol_any (b1 b2 b3:Nat) (root:Int) (nd:NoD) (w:World) (hseq:SeqF Try.prog 99 #[.pointer (some ⟨b1,0,none⟩), .pointer (some ⟨b2,0,none⟩), .pointer (some ⟨b3,0,none⟩)] ynE 1 (OneZ root nd) w):
  Calls Try.prog 71 #[.func (.func 99) #[] #[.pointer (some ⟨b1,0,none⟩), .pointer (some ⟨b2,0,none⟩), .pointer (some ⟨b3,0,none⟩)]] w (CoPost nd root w):=by
 go_enter Try.func71,Try.ntmps71
 have hst0:=St.start w
 refine wp_seq (sqr (sqp [.k 2 (.slice none 0 0)] ?_))
 refine then_normal (wp_seq (sqr (sqp [.m 3 0] ?_)))
 refine sqk2s (fun A4_3 c4_3=> .slice A4_3 1 c4_3) (fun A4_3 c4_3 r0_3=>eCo A4_3 nd root r0_3) hst0 (fun cx=>⟨_,(kapp_any b1 b2 b3 root nd _ (seqF_ext hseq cx.upd.to_ext)).mono (by rintro e W1 ⟨A4,c4,fp4,rfl,hs4⟩; exact ⟨_, _, _,rfl,hs4⟩),(map2 (cx.co _) (cx.ou 3))⟩) fun A4_3 c4_3 r0_3 W3 hst3=>?_
 refine sqp [.m 2 4] ?_
 refine then_normal (wp_ret ?_)
 refine bpr (.slice A4_3 1 c4_3) (results_1 Try.results71 rpt) ?_
 exact ⟨_, _, _,rfl,hst3.pick [0] (by decide) rfl⟩
def pcp (i:Nat):Value→Nat
 | .func _ _ cs=>pb (cs.getD i undef)
 | _=>0
def RowPost (tt:TypeId) (tv:Value) (root lv:Int) (w:World) (e:Ending) (w':World):Prop:=∃ b1 b2 b3,e= .returned (.func (.func 99) #[] #[.pointer (some ⟨b1,0,none⟩), .pointer (some ⟨b2,0,none⟩), .pointer (some ⟨b3,0,none⟩)])∧St w [] [eB b1 113 #[.iface tt tv],eB b2 3 #[.int .i64 root],eB b3 3 #[.int .i64 lv]] w'
theorem krowc_any (tt:TypeId) (tv:Value) (root lv:Int) (w:World):
  Calls Try.prog 72 #[.iface tt (tv), .int .i64 root, .int .i64 lv] w (RowPost tt tv root lv w):=by
 go_enter Try.func72,Try.ntmps72
 have hst0:=St.start w
 refine wp_seq (sqr ?_)
 refine sqbx #[.iface tt (tv)] hst0 fun B3_1 W1 hst1=>?_
 refine sqbx #[vi root] hst1 fun B4_2 W2 hst2=>?_
 refine sqbx #[vi lv] hst2 fun B5_3 W3 hst3=>?_
 refine sqp [.k 6 (Go.Value.nilFunc)] ?_
 refine then_normal (wp_seq (sqr ?_))
 refine sqv (.func (.func 99) #[] #[vp B3_1,vp B4_2,vp B5_3]) hst3 (by
   exact sv0 rfl rfl rfl rfl rfl (fun _ _ _ h=>h) fun ρ β W X cx=>by
    have fF3:ρ (.tmp 3)=vp B3_1:=(cx.ou 3)
    have fF4:ρ (.tmp 4)=vp B4_2:=(cx.ou 4)
    have fF5:ρ (.tmp 5)=vp B5_3:=(cx.ou 5)
    simp [go_sem,Instr.makeFunc,fF3,fF4,fF5]) fun W5 hst5=>?_
 refine sqp [.m 6 7] ?_
 refine then_normal (wp_ret ?_)
 refine bpr (.func (.func 99) #[] #[vp B3_1,vp B4_2,vp B5_3]) (results_1 Try.results72 rpt) ?_
 exact ⟨_, _, _,rfl,hst5.pick [0,1,2] (by decide) rfl⟩
theorem ksorted_1 (pg fr:Int) (EA:Option Addr) (ec n:Nat) (es:List EnD) (w:World) (hE:At w EA (es.flatMap enC)) (hn:es.length=n) (hn1:n≤1):
  Calls Try.prog 100 #[.agg #[.int .i64 pg, .int .i64 0, .int .i64 (-1), .string ((⟨#[]⟩:ByteArray)), .bool false, .slice EA n ec, .int .i64 fr], .string ((⟨#[]⟩:ByteArray))] w (Ret (.bool true) w):=by
 go_enter Try.func100,Try.ntmps100
 have hst0:=St.start w
 refine wp_seq (sqr ?_)
 refine sqbx #[vi pg,vi 0,vi (-1), .string ((⟨#[]⟩:ByteArray)), .bool false, .slice EA n ec,vi fr] hst0 fun B2_1 W1 hst1=>?_
 refine sqp [.k 4 (.bool false)] ?_
 refine then_normal (wp_seq (wp_seq (sqr (sqp [.k 7 (.pointer (some ⟨B2_1,5,none⟩))] ?_))))
 refine sqld 0 hst1 ?_
 refine sqp [.k 9 (vi ((n:Int))), .k 10 (vi 0)] ?_
 refine then_normal (wp_block ?_)
 refine wp_loopT (fun t_ mz az W=>∃ i:Nat,i≤n∧mz=n - i∧az=⟨(ovr (jv az) [(4,4,3,[]),(3,10,0,[vi ((i:Int))]),(0,11,42,[])] t_).toArray,[]⟩∧St w [] [eB B2_1 116 #[vi pg,vi 0,vi (-1), .string ((⟨#[]⟩:ByteArray)), .bool false, .slice EA n ec,vi fr]] W) (n - 0) ?_ ?_
 · -- the loop begins
   exact ⟨0,Nat.zero_le _,rfl,(by kernel_rfl),hst1.pk [0]⟩
 rintro n7 a7 W7 ⟨i,hi,rfl,hj_,hst7⟩
 refine ovz hj_ fun u7_=>?_
 refine wp_seq (sqr (sqp [.k 11 (.bool (decide ((i:Int) < (n:Int))))] ?_))
 refine then_normal (wp_seq (wds (fun hs9 hs9p=>?_) fun hs9 hs9p=>?_))
 ·refine wp_skip (then_normal (wp_seq (wp_block (wp_seq (sqr (sqp [.m 12 10] ?_))))))
  refine sql (.pointer (some ((ad EA).add (i*3)))) hst7 (fun cx=>run_indexSlM (e:=104) (m:=i) (sz:=3) rfl (by kernel_rfl) (by kernel_rfl) (cx.ou 8) (cx.ou 10) (by omega) (by omega) (hE.ext cx.upd.to_ext) (flatPos (sz:=3) enC_len (by decide) (by omega))) ?_
  refine sql (.agg #[.string ((es.getD i en0).1),vi (((es.getD i en0).2.1:Int)),vi ((es.getD i en0).2.2)]) hst7 (fun cx=>run_loadElt (f:=enC) (m:=i) (sz:=3) (off:=0) (n:=3) rfl (by kernel_rfl) (by kernel_rfl) (cx.ou 13) rfl enC_len (hE.ext cx.upd.to_ext) (en_get (by omega)) (fun k hk=>match k,hk with | 0, _=>rfl | 1, _=>rfl | 2, _=>rfl | k+3,hk=>absurd hk (by omega))) ?_
  refine sqal #[.string ByteArray.empty,vi 0,vi 0] hst7 fun B6_13 W13 hst13=>?_
  refine sqp [.m 5 12] ?_
  refine sqst (n:=3) 1 #[.string ((es.getD i en0).1),vi (((es.getD i en0).2.1:Int)),vi ((es.getD i en0).2.2)] hst13 fun W15 hst15=>?_
  refine then_normal (wp_seq ?_)
  have hd17:(!(((⟨#[]⟩:ByteArray)).toList==((⟨#[]⟩:ByteArray)).toList))=false:=(by rw [beq_self_eq_true]; rfl)
  have hd18:(decide (0 < (i:Int)))=false:=(decide_eq_false (by omega))
  refine wp_region_Z [0,1,3,7,15,7,63,127,255,511,1023,2047,4095,8191,16383,8191,40959,131071,262143,524287,1048575,2097151,4194303,8388607,16777215,33554431,67108863,33554431,167772159,33554431,570425343,2046820351,4194303999,8489271295,17179869183,34359738367,68719476735] [[],[],[],[],[],[],[],[],[],[],[0]] [.k 15 (.string ((⟨#[]⟩:ByteArray))), .e 16 (.bool (!(((⟨#[]⟩:ByteArray)).toList==((⟨#[]⟩:ByteArray)).toList))) (.bool false) (congrArg Value.bool hd17), .k 17 (.bool false), .u 18, .u 19, .u 20, .u 21, .k 22 (.bool false), .k 23 (.bool false), .k 24 (.pointer (some ⟨B2_1,3,none⟩)), .c 25 (.string ((⟨#[]⟩:ByteArray))), .e 26 (.bool (!(((⟨#[]⟩:ByteArray)).toList==((⟨#[]⟩:ByteArray)).toList))) (.bool false) (congrArg Value.bool hd17), .k 27 (.bool false), .u 28, .u 29, .u 30, .u 31, .u 32, .u 33, .k 34 (.bool false), .k 35 (.bool false), .k 36 (.bool false), .k 37 (vi ((i:Int))), .e 38 (.bool (decide (0 < (i:Int)))) (.bool false) (congrArg Value.bool hd18), .k 39 (.bool false), .u 40, .u 41, .u 42, .u 43, .u 44, .u 45, .u 46, .u 47, .u 48, .u 49, .k 50 (.bool false), .k 51 (.bool false)] [0,1] [10] [(15,0,37,52)] hst15 ?_ fun W16 hst16=>?_
  ·refine ⟨?_,trivial⟩
   ·exact xs5 rfl id (fun cx=>(cx.an 8)) fun cx=>run_load1 rfl (by kernel_rfl) (cx.an 9) ((cx.bi 0 rfl).cell 3)
  refine then_normal (wcf rfl (wp_skip (blk_normal (then_normal (sqr (sqp [sI 52 ((i:Int)+1) (by omega), .m 10 52] ?_))))))
  refine then_normal ?_
  refine ⟨n - ((i+1)),by omega,?_⟩
  exact ⟨(i+1),by omega,rfl,(by kernel_rfl),hst16.pk [0]⟩
 refine wp_exit (then_exit (then_exit (blk_eq (then_normal (wp_seq (sqr (sqp [.k 4 (.bool true)] ?_)))))))
 refine then_normal (wp_ret ?_)
 refine bpr (.bool true) (results_1 Try.results100 rpt) ?_
 exact Ret.of rfl hst7.ext
def ny1 (pg fr:Int) (EA:Option Addr) (ec n:Nat) (u:Unit):List Value:=[.int .i64 pg, .int .i64 0, .int .i64 (-1), .string ((⟨#[]⟩:ByteArray)), .bool false, .slice EA n ec, .int .i64 fr]
theorem kright_1 (pg fr:Int) (EA SA:Option Addr) (ec sc n:Nat) (es:List EnD) (w:World) (hE:At w EA (es.flatMap enC)) (hn:es.length=n) (hn1:n≤1) (hN:At w SA ([()].flatMap (ny1 pg fr EA ec n))):
  Calls Try.prog 73 #[.slice SA 1 sc, .slice none 0 0] w (Ret (.bool true) w):=by
 go_enter Try.func73,Try.ntmps73
 have hst0:=St.start w
 refine wp_seq (sqr (sqp [.k 4 (.bool false)] ?_))
 refine then_normal (wp_seq (sqr (sqp [.k 5 (.string ⟨#[]⟩)] ?_)))
 refine then_normal (wp_seq (wp_seq (sqr (sqp [.m 9 0, .k 10 (vi 1), .k 11 (vi 0)] ?_))))
 refine then_normal (wp_block ?_)
 refine wp_loopT (fun t_ mz az W=>∃ i:Nat,i≤1∧mz=1 - i∧az=⟨(ovr (jv az) [(4,4,1,[.string ((⟨#[]⟩:ByteArray))]),(0,6,3,[]),(2,11,0,[vi ((i:Int))]),(0,12,73,[])] t_).toArray,[]⟩∧St w [] [] W) (1 - 0) ?_ ?_
 · -- the loop begins
   exact ⟨0,Nat.zero_le _,rfl,(by kernel_rfl),hst0.pk []⟩
 rintro n6 a6 W6 ⟨i,hi,rfl,hj_,hst6⟩
 refine ovz hj_ fun u6_=>?_
 refine wp_seq (sqr (sqp [.k 12 (.bool (decide ((i:Int) < 1)))] ?_))
 refine then_normal (wp_seq (wds (fun hs8 hs8p=>?_) fun hs8 hs8p=>?_))
 ·refine wp_skip (then_normal (wp_seq (wp_block (wp_seq ?_))))
  obtain rfl:i=0:=by omega
  refine sqr (sqp [.m 13 11] ?_)
  refine sql (.pointer (some ((ad SA).add (0*7)))) hst6 (fun cx=>run_indexSlM (e:=116) (m:=0) (sz:=7) rfl (by kernel_rfl) (by kernel_rfl) (cx.ou 9) (cx.ou 11) (by omega) (by omega) (hN.ext cx.upd.to_ext) (flatPos (sz:=7) (fun _=>rfl) (by decide) (by first | omega | decide))) ?_
  refine sql (.agg #[vi pg,vi 0,vi (-1), .string ((⟨#[]⟩:ByteArray)), .bool false, .slice EA n ec,vi fr]) hst6 (fun cx=>run_loadElt (f:=(ny1 pg fr EA ec n)) (m:=0) (sz:=7) (off:=0) (n:=7) rfl (by kernel_rfl) (by kernel_rfl) (cx.ou 14) rfl (fun _=>rfl) (hN.ext cx.upd.to_ext) rfl (fun k hk=>match k,hk with | 0, _=>rfl | 1, _=>rfl | 2, _=>rfl | 3, _=>rfl | 4, _=>rfl | 5, _=>rfl | 6, _=>rfl | k+7,hk=>absurd hk (by omega))) ?_
  refine sqal #[vi 0,vi 0,vi 0, .string ByteArray.empty, .bool false, .slice none 0 0,vi 0] hst6 fun B7_12 W12 hst12=>?_
  refine sqp [.m 6 13] ?_
  refine sqst (n:=7) 0 #[vi pg,vi 0,vi (-1), .string ((⟨#[]⟩:ByteArray)), .bool false, .slice EA n ec,vi fr] hst12 fun W14 hst14=>?_
  refine then_normal (wp_seq (sqr ?_))
  have hd20:((0:Int)==0)=true:=rfl
  refine sqp [.m 16 6, .m 17 0, .k 18 (vi 1), .k 19 (vi 0), .e 20 (.bool ((0:Int)==0)) (.bool true) (congrArg Value.bool hd20), .k 8 (.bool true)] ?_
  refine then_normal (wp_seq (wp_block (wp_seq (wp_seq (sqr (sqp [.k 22 (.pointer (some ⟨B7_12,4,none⟩))] ?_))))))
  refine sqld 0 hst14 ?_
  refine sqp [.k 21 (.bool false)] ?_
  refine then_normal (wcf rfl (wp_seq (sqr (sqp [.k 24 (.pointer (some ⟨B7_12,5,none⟩))] ?_))))
  refine sqld 0 hst14 ?_
  have hd29:(decide (8 < (n:Int)))=false:=(decide_eq_false (by omega))
  refine sqp [.k 26 (vi ((n:Int))), .e 27 (.bool (decide (8 < (n:Int)))) (.bool false) (congrArg Value.bool hd29), .k 21 (.bool false)] ?_
  refine then_normal (wcf rfl (wp_seq (sqr (sqp [.k 28 (.bool true), .k 29 (.pointer (some ⟨B7_12,3,none⟩))] ?_))))
  refine sqld 0 hst14 ?_
  have hd35:(((⟨#[]⟩:ByteArray)).toList==((⟨#[]⟩:ByteArray)).toList)=true:=beq_self_eq_true _
  have hd37:(!(true==true))=false:=rfl
  refine sqp [.e 31 (.bool (((⟨#[]⟩:ByteArray)).toList==((⟨#[]⟩:ByteArray)).toList)) (.bool true) (congrArg Value.bool hd35)] ?_
  refine sqv (.bool false) hst14 (by
    exact sv0 rfl rfl rfl rfl rfl (fun _ _ _ h=>h.trans (congrArg Value.bool hd37)) fun ρ β W X cx=>by
     have fF28:ρ (.tmp 28)= .bool true:=(cx.ou 28)
     have fF31:ρ (.tmp 31)= .bool true:=(cx.ou 31)
     simp [go_sem,fF28,fF31]) fun W36 hst36=>?_
  refine sqp [.k 21 (.bool false)] ?_
  refine then_normal (wcf rfl (wp_seq (sqr (sqp [.k 33 (.bool true), .k 34 (.pointer (some ⟨B7_12,2,none⟩))] ?_))))
  refine sqld 0 hst36 ?_
  refine sqp [.k 36 (.bool true)] ?_
  refine sqv (.bool false) hst36 (by
    exact sv0 rfl rfl rfl rfl rfl (fun _ _ _ h=>h.trans (congrArg Value.bool hd37)) fun ρ β W X cx=>by
     have fF33:ρ (.tmp 33)= .bool true:=(cx.ou 33)
     have fF36:ρ (.tmp 36)= .bool true:=(cx.ou 36)
     simp [go_sem,fF33,fF36]) fun W43 hst43=>?_
  refine sqp [.k 21 (.bool false)] ?_
  refine then_normal (wcf rfl (sqr ?_))
  refine sqlb 0 7 hst43 ?_
  refine sqp [.m 39 5] ?_
  refine sqk (.bool true) hst43 (fun cx=>⟨_,ksorted_1 pg fr EA ec n es _ (hE.ext cx.upd.to_ext) hn hn1,(map2 (cx.ou 38) (cx.ou 39))⟩) fun W47 hst47=>?_
  refine sqp [.k 41 (.bool false), .k 21 (.bool false)] ?_
  refine then_normal (wcf rfl (wp_seq (wp_region_Z [0,1,3,7,15,15,63,127,255,511,1023,2047,4095,8191,16383,32767,65535,4095,135167,397311,921599,2097151,4194303,8388607,16777215,33554431] [[],[0]] [.k 43 (.pointer (some ⟨B7_12,1,none⟩)), .c 44 (vi 0), .k 45 (.bool false), .k 46 (.bool false), .u 47, .u 48, .u 49, .u 50, .u 51, .u 52, .u 53, .u 54, .u 55, .u 56, .u 57, .u 58, .u 59, .u 60, .u 61, .u 62, .u 63, .u 64, .u 65, .u 66, .k 67 (.bool false), .k 42 (.bool false)] [0] [1] [(42,25,1,43),(0,0,25,25)] hst47 ?_ fun W50 hst50=>?_)))
  ·refine ⟨?_,trivial⟩
   ·exact xs4 rfl id fun cx=>run_load1 rfl (by kernel_rfl) (cx.an 0) ((cx.bi 0 rfl).cell 1)
  refine then_normal (wcf rfl (wp_seq (sqr (sqp [.m 69 5, .e 70 (.bool (!(((⟨#[]⟩:ByteArray)).toList==((⟨#[]⟩:ByteArray)).toList))) (.bool false) (congrArg Value.bool (by rw [hd35]; rfl)), .k 71 (.bool false)] ?_))))
  refine sqgn 71 [72,73,74] rfl rfl ?_
  refine sqp [.k 75 (.bool false), .k 76 (.bool false)] ?_
  refine sqgn 76 [77,78,79,80] rfl rfl ?_
  refine sqp [.k 81 (.bool false), .k 68 (.bool false)] ?_
  refine then_normal (wcf rfl (wp_skip (blk_normal (then_normal (sqr (sqp [.k 82 (.pointer (some ⟨B7_12,3,none⟩))] ?_))))))
  refine sqld 0 hst50 ?_
  refine sqp [.m 5 83] ?_
  refine blk_normal (then_normal (sqr (sqp [sI 84 ((0:Int)+1) (by omega), .m 11 84] ?_)))
  refine then_normal ?_
  refine ⟨1 - 1,by omega,?_⟩
  exact ⟨1,by omega,rfl,(by kernel_rfl),hst50.pk []⟩
 refine wp_exit (then_exit (then_exit (blk_eq (then_normal (wp_seq (sqr (sqp [.m 85 0, .k 86 (vi 1), .k 87 (.bool true), .k 88 (.bool true)] ?_)))))))
 refine sqgy 88 [89,90,91] rfl rfl ?_
 refine sqp [.m 89 0, .k 90 (vi 1), .k 91 (.bool true)] ?_
 refine sqp [.k 92 (.bool true), .k 4 (.bool true)] ?_
 refine then_normal (wp_ret ?_)
 refine bpr (.bool true) (results_1 Try.results73 rpt) ?_
 exact Ret.of rfl hst6.ext
/-- a root without a high key or a right neighbour, at most one entry -/
def Node1 (nd:NoD):Prop:=nd.lv=0∧nd.right= -1∧nd.high=⟨#[]⟩∧nd.dead=false∧nd.es.length≤1
theorem kright_co {SA:Option Addr} {sc:Nat} {nd:NoD} {pg:Int} {fp:List Nat} {w:World} (h:(eCo SA nd pg fp).holds w) (h1:Node1 nd):Calls Try.prog 73 #[.slice SA 1 sc, .slice none 0 0] w (Ret (.bool true) w):=by
 obtain ⟨EA,ec, _, _,hS,hE⟩:=h
 obtain ⟨lv,rt,hg,dd,es,fr⟩:=nd
 obtain ⟨rfl,rfl,rfl,rfl,h5⟩:=h1
 exact kright_1 pg fr EA SA ec sc _ es w hE rfl h5 hS
theorem ndAt_neg (ps:List PgS):ndAt ps (-1)=none:=by rw [ndAt,if_neg (by omega)]
theorem kcheck_1 (tt:TypeId) (tv:Value) (root:Int) (ps:List PgS) (nd:NoD) (w:World) (hS:PgsOk w tt tv ps) (hok:OkS ps) (hoc:OkC ps) (hnd:ndAt ps root=some nd) (h1:Node1 nd):
  Calls Try.prog 37 #[.iface tt (tv), .int .i64 root] w (Ret (.int .i64 0) w):=by
 have hlv0:nd.lv=0:=h1.1
 go_enter Try.func37,Try.ntmps37
 have hst0:=St.start w
 refine wp_seq (sqr (sqp [.k 4 (vi 0)] ?_))
 refine then_normal (wp_seq (sqr (sqp [.m 11 0, .m 12 1] ?_)))
 refine sqk2 (fun EA13_4 ec13_4=> .tuple #[.agg #[vi root,vi nd.lv,vi nd.right, .string nd.high, .bool nd.dead, .slice EA13_4 nd.es.length ec13_4,vi ((nd.free:Int))], .bool true]) (fun EA13_4 ec13_4=>eO 104 3 (.slice EA13_4 nd.es.length ec13_4) nd.es.length (nd.es.flatMap enC)) hst0 (fun cx=>⟨_,(kd_yes hnd (kat_any _ _ ps root _ (hS.ext cx.upd.to_ext) hok hoc)).mono (by rintro e W1 ⟨EA4,ec4,rfl,hs4⟩; exact ⟨_, _,rfl,hs4⟩),(map2 (cx.ou 11) (cx.ou 12))⟩) fun EA13_4 ec13_4 W4 hst4=>?_
 refine sqp [.m 10 13, .k 14 (.agg #[vi root,vi nd.lv,vi nd.right, .string nd.high, .bool nd.dead, .slice EA13_4 nd.es.length ec13_4,vi ((nd.free:Int))]), .k 15 (.bool true)] ?_
 refine sqal #[vi 0,vi 0,vi 0, .string ByteArray.empty, .bool false, .slice none 0 0,vi 0] hst4 fun B5_8 W8 hst8=>?_
 refine sqst (n:=7) 1 #[vi root,vi nd.lv,vi nd.right, .string nd.high, .bool nd.dead, .slice EA13_4 nd.es.length ec13_4,vi ((nd.free:Int))] hst8 fun W9 hst9=>?_
 refine sqp [.k 6 (.bool true)] ?_
 refine then_normal (wp_seq (wp_seq (sqr (sqp [.k 16 (.bool true), .k 17 (.bool false)] ?_))))
 refine then_normal (wcf rfl (wp_skip (then_normal (wp_seq (sqr (sqp [.k 7 (.slice none 0 0)] ?_))))))
 refine then_normal (wp_seq (wp_seq (sqr (sqp [.k 18 (.pointer (some ⟨B5_8,1,none⟩))] ?_))))
 refine sqld 1 hst9 ?_
 refine sqp [sI 20 (nd.lv+1) (by omega), .k 21 (vi 0)] ?_
 refine then_normal (wp_block ?_)
 obtain ⟨z18_,hN_z18_⟩:∃ z,nd.lv+1=z:=⟨_,rfl⟩
 rw [hN_z18_]
 obtain rfl:z18_=(1:Int):=by have:=h1.1; omega
 refine wp_loopT (fun t_ mz az W=>∃ k:Nat,∃ BA:Option Addr,∃ bn:Nat,∃ bc:Nat,k≤1∧(k=0→BA=none∧bn=0∧bc=0)∧mz=1 - k∧az=⟨(ovr (jv az) [(4,4,1,[]),(2,7,0,[.slice BA bn bc]),(0,8,2,[]),(11,21,0,[vi ((k:Int))]),(0,22,33,[])] t_).toArray,[]⟩∧St w [] [eB B5_8 116 #[vi root,vi nd.lv,vi nd.right, .string nd.high, .bool nd.dead, .slice EA13_4 nd.es.length ec13_4,vi ((nd.free:Int))]] W) (1 - 0) ?_ ?_
 · -- the loop begins
   exact ⟨0,none,0,0,Nat.zero_le _,(fun _=>⟨rfl,rfl,rfl⟩),rfl,(by kernel_rfl),hst9.pk [1]⟩
 rintro n19 a19 W19 ⟨k,BA,bn,bc,hk,hb,rfl,hj_,hst19⟩
 refine ovz hj_ fun u19_=>?_
 refine wp_seq (sqr (sqp [.k 22 (.bool (decide ((k:Int) < (1:Int))))] ?_))
 refine then_normal (wp_seq (wds (fun hs21 hs21p=>?_) fun hs21 hs21p=>?_))
 ·refine wp_skip (then_normal (wp_seq (wp_block (wp_seq ?_))))
  obtain rfl:k=0:=by omega
  obtain ⟨rfl,rfl,rfl⟩:=hb rfl
  refine sqr (sqp [.m 23 21, .m 8 23] ?_)
  refine then_normal (wp_seq (wp_region_Y [0,0,0,7,15,31] [[],[],[],[],[1,2,3]] [[],[],[],[1,2,3],[4]] [] [.k 24 (.iface tt (tv)), .k 25 (vi root), .k 26 (vi ((0:Int))), .a 27, .a 28, .a 9] (fun ix σ β X=>match ix with | 0=>True | 1=>True | 2=>True | 3=>σ 27= .func (.func 99) #[] #[vp (pcp 0 (β 27)),vp (pcp 1 (β 27)),vp (pcp 2 (β 27))]∧X 1=eB (pcp 0 (β 27)) 113 #[.iface tt (tv)]∧X 2=eB (pcp 1 (β 27)) 3 #[vi root]∧X 3=eB (pcp 2 (β 27)) 3 #[vi ((0:Int))] | 4=>σ 28= .slice (sA (β 28)) 1 (sC (β 28))∧X 4=eCo (sA (β 28)) nd root ((X 4).fp) | 5=>σ 9= .slice (sA (β 28)) 1 (sC (β 28)) | _=>True) [0,1,2,3,4] [3,4,5] [(9,5,1,10),(14,0,5,19)] hst19 ?_ ?_ ?_))
  ·exact fun ix _ _ _ _ _ _ hs hb hx h=>match ix,h with
   | 3,h=>by dsimp only; rw [← hs 27 rfl,← hb 27 rfl,← hx 1 rfl,← hx 2 rfl,← hx 3 rfl]; exact h
   | 4,h=>by dsimp only; rw [← hs 28 rfl,← hb 28 rfl,← hx 4 rfl]; exact h
   | 5,h=>by dsimp only; rw [← hs 9 rfl,← hb 28 rfl]; exact h
   | 0, _ | 1, _ | 2, _ | _+6, _=>trivial
  ·refine ⟨?_,?_,?_,trivial⟩
   ·refine svA fun ρ β W X cx=>?_
    refine DoesU.call (run_callF (args:=#[.iface tt (tv),vi root,vi ((0:Int))]) rfl cx.sees rfl (by kernel_rfl) (map3 (cx.an 0) (cx.an 1) (cx.an 2))) ?_
    refine (krowc_any tt tv root (0:Int) _).mono ?_
    rintro e W1 ⟨B4,B5,B6,rfl,hs4⟩
    refine ⟨_,rfl,post_st [eB B4 113 #[.iface tt (tv)],eB B5 3 #[vi root],eB B6 3 #[vi ((0:Int))]] rfl rfl hs4 (fun σ β' X' hs hb hv hN=>?_)⟩
    have hv1:=(hv 27 rfl).1; have hv2:=(hv 27 rfl).2
    exact ⟨hv1.trans (by rw [hv2]; rfl),(by rw [hv2]; exact (List.cons.inj hN).1),(by rw [hv2]; exact (List.cons.inj (List.cons.inj hN).2).1),(by rw [hv2]; exact (List.cons.inj (List.cons.inj (List.cons.inj hN).2).2).1)⟩
   ·refine svA fun ρ β W X cx=>?_
    refine DoesU.call (run_callF (args:=#[.func (.func 99) #[] #[vp (pcp 0 (β 27)),vp (pcp 1 (β 27)),vp (pcp 2 (β 27))]]) rfl cx.sees rfl (by kernel_rfl) (map1 (dTn (cx.an 3)).1)) ?_
    refine (kcol_any _ _ _ root nd _ (krow_seq (cx.blk (dTn (cx.an 3)).2.1 rfl) (cx.blk (dTn (cx.an 3)).2.2.1 rfl) (cx.blk (dTn (cx.an 3)).2.2.2 rfl) (hS.ext cx.upd.to_ext) hok hoc hnd h1.1 (by rw [h1.2.1]; exact ndAt_neg ps))).mono ?_
    rintro e W1 ⟨A4,c4,fp4,rfl,hs4⟩
    refine ⟨_,rfl,post_st [eCo A4 nd root fp4] rfl rfl hs4 (fun σ β' X' hs hb hv hN=>?_)⟩
    have hv1:=(hv 28 rfl).1; have hv2:=(hv 28 rfl).2
    exact ⟨hv1.trans (by rw [hv2]; rfl),(by rw [hv2]; exact eCo_self ((List.cons.inj hN).1))⟩
   ·exact sv rfl rfl rfl rfl rfl _ (fun _ _ _ h=>h) (fun β β' h=>by rw [h 28 (by decide)]) fun ρ β W X cx=>run_assign' rfl (dTn (cx.an 4)).1
  intro σ β X W24 hD hst24 fr hfr
  obtain ⟨B27a_24,hu_B27a_24⟩:∃ z,pcp 0 (β 27)=z:=⟨_,rfl⟩
  obtain ⟨B27b_24,hu_B27b_24⟩:∃ z,pcp 1 (β 27)=z:=⟨_,rfl⟩
  obtain ⟨B27c_24,hu_B27c_24⟩:∃ z,pcp 2 (β 27)=z:=⟨_,rfl⟩
  obtain ⟨A28_24,hu_A28_24⟩:∃ z,sA (β 28)=z:=⟨_,rfl⟩
  obtain ⟨c28_24,hu_c28_24⟩:∃ z,sC (β 28)=z:=⟨_,rfl⟩
  have xX4:X 4= _:=(dTn (hD 4 lq)).2
  obtain ⟨r4_24,hu_r4_24⟩:∃ z,(X 4).fp=z:=⟨_,rfl⟩
  rw [hu_r4_24] at xX4
  clear hu_r4_24
  simp only [exq 1 ((dTn (hD 3 lq)).2.1),exq 2 ((dTn (hD 3 lq)).2.2.1),exq 3 ((dTn (hD 3 lq)).2.2.2),xX4,hu_B27a_24,hu_B27b_24,hu_B27c_24,hu_A28_24,hu_c28_24] at hst24
  simp only [ed 27 ((dTn (hD 3 lq)).1),ed 28 ((dTn (hD 4 lq)).1),ed 9 ((dTn (hD 5 lq))),hu_B27a_24,hu_B27b_24,hu_B27c_24,hu_A28_24,hu_c28_24] at hfr
  clear hD xX4 hu_B27a_24 hu_B27b_24 hu_B27c_24 hu_A28_24 hu_c28_24; subst hfr; clear σ β X
  refine then_normal (wp_seq (wp_seq (sqr (sqp [.m 29 8, .k 30 (.pointer (some ⟨B5_8,1,none⟩))] ?_))))
  refine sqld 0 hst24 ?_
  have hd29:((0:Int)==nd.lv)=true:=(by rw [h1.1]; rfl)
  refine sqp [.e 32 (.bool ((0:Int)==nd.lv)) (.bool true) (congrArg Value.bool hd29), .k 33 (.bool true)] ?_
  refine sqgy 33 [34,35,36] rfl rfl ?_
  refine sqp [.m 34 9, .k 35 (vi 1), .k 36 (.bool false)] ?_
  refine sqp [.k 37 (.bool false), .k 38 (.bool false)] ?_
  refine sqgy 38 [39,40,41,42,43,44,45] rfl rfl ?_
  have hd38:(decide (0 < (0:Int)))=false:=rfl
  refine sqp [.m 39 8, .e 40 (.bool (decide (0 < (0:Int)))) (.bool false) (congrArg Value.bool hd38), .k 41 (.bool false)] ?_
  refine sqgn 41 [42,43,44] rfl rfl ?_
  refine sqp [.k 45 (.bool false)] ?_
  refine sqp [.k 46 (.bool false), .k 47 (.bool false)] ?_
  refine sqgy 47 [48,49,50,51] rfl rfl ?_
  refine sqp [.m 48 9, .m 49 7] ?_
  refine sqk (.bool true) hst24 (fun cx=>⟨_,kright_co (CtxV.holdF cx (cx.init 4 _ rfl) rfl) h1,(map2 (cx.ou 48) (cx.ou 49))⟩) fun W45 hst45=>?_
  refine sqp [.k 51 (.bool false)] ?_
  refine sqp [.k 52 (.bool false)] ?_
  refine then_normal (wcf rfl (wp_skip (then_normal (sqr (sqp [.m 53 9, .m 7 53] ?_)))))
  refine blk_normal (then_normal (sqr (sqp [sI 54 ((0:Int)+1) (by omega), .m 21 54] ?_)))
  refine then_normal ?_
  refine ⟨1 - 1,by omega,?_⟩
  exact ⟨1,A28_24,1,c28_24,by omega,(fun h=>absurd h (by decide)),rfl,(by kernel_rfl),hst45.pk [0]⟩
 refine wp_exit (then_exit (then_exit (blk_eq (then_normal (wp_seq (sqr (sqp [.k 4 (vi 0)] ?_)))))))
 refine then_normal (wp_ret ?_)
 refine bpr (vi 0) (results_1 Try.results37 rpt) ?_
 exact Ret.of rfl hst19.ext
end
section
open Go.RowKit
/-- nodes collected, each with its entries -/
def eCL (SA:Option Addr) (L:List (Int×NoD)) (fp:List Nat):Ent:=⟨fp,fun W=>∃ xs:List YnD,xs.map pgN=L∧(∀ ad,SA=some ad→ad.block∈fp)∧At W SA (xs.flatMap ynC)∧∀ y∈xs,(∀ ad,y.2.2.1=some ad→ad.block∈fp)∧At W y.2.2.1 (y.1.es.flatMap enC)⟩
theorem eCL_self {e:Ent} {SA:Option Addr} {L:List (Int×NoD)} {fp:List Nat} (h:e=eCL SA L fp):e=eCL SA L e.fp:=by subst h; rfl
theorem eCL_loc (SA:Option Addr) (L:List (Int×NoD)) (fp:List Nat):(eCL SA L fp).loc:=fun W W' hk h=>by
 obtain ⟨xs,h1,h2,h3,h4⟩:=h
 exact ⟨xs,h1,h2,at_blocks h3 fun ad e _=>hk _ (h2 ad e),fun y hy=>⟨(h4 y hy).1,at_blocks (h4 y hy).2 fun ad e _=>hk _ ((h4 y hy).1 ad e)⟩⟩
def CgPost (L:List (Int×NoD)) (w:World) (e:Ending) (w':World):Prop:=∃ SA sc fp,e= .returned (.slice SA L.length sc)∧St w [] [eCL SA L fp] w'
theorem cg_done {w W:World} {SA:Option Addr} {sc n:Nat} {L:List (Int×NoD)} {xs:List YnD} {E:Ent} (hz:YnZ L true xs E) (h:St w [] [eO 116 7 (.slice SA n sc) n (xs.flatMap ynC),E] W) (hn:n=xs.length):CgPost L w (.returned (.slice SA n sc)) W:=by
 obtain ⟨hE,hL, _⟩:=hz
 have hL:=hL rfl
 subst hn hL
 have h1:=h.ok (eO 116 7 (.slice SA xs.length sc) xs.length (xs.flatMap ynC)) (by simp)
 have h2:=h.ok E (by simp)
 have hO:W.ownsRow 0 116 7 (.slice SA xs.length sc) xs.length (xs.flatMap ynC):=h1.holds
 have hR:(eYs xs E.fp).holds W:=by rw [← hE]; exact h2.holds
 refine ⟨SA,sc,(Value.ownBlock (.slice SA xs.length sc)).toList++E.fp,by rw [List.length_map],h.upd,fun x hx=>?_,List.pairwise_singleton _ _⟩
 rw [List.mem_singleton] at hx
 subst hx
 refine ⟨⟨xs,rfl,fun ad e=>List.mem_append_left _ (row_blk hO ad e),At.of_ownN hO,fun y hy=>⟨fun ad e=>List.mem_append_right _ ((hR y hy).1 ad e),(hR y hy).2⟩⟩,eCL_loc _ _ _,fun k hk=>?_⟩
 rcases List.mem_append.1 hk with hk | hk
 ·exact h1.own k hk
 ·exact h2.own k hk
theorem kapp_g (b1 b2 b3:Nat) (L:List (Int×NoD)) (w:World) (Px:YnD→Prop) (Rd:World→Prop) (hseq:SeqG Try.prog 99 #[.pointer (some ⟨b1,0,none⟩), .pointer (some ⟨b2,0,none⟩), .pointer (some ⟨b3,0,none⟩)] ynE ynR Px 1000 (YnZ L) Rd) (hRd:∀ A,Ext w A→Rd A):
  Calls Try.prog 98 #[.slice none 0 0, .func (.func 99) #[] #[.pointer (some ⟨b1,0,none⟩), .pointer (some ⟨b2,0,none⟩), .pointer (some ⟨b3,0,none⟩)]] w (CgPost L w):=by
 refine (callsIn_wide (n:=3)).1 (callsIn_of_wp_marks Try.func98 rfl trivial (wpIn_wide.2 ?_) rfl)
 simp only [Try.ntmps98,List.size_toArray,List.length_cons,List.length_nil,Nat.reduceAdd,Nat.reduceSub,Array.replicate_succ,Array.replicate_zero,List.push_toArray,List.append_toArray,List.nil_append,List.cons_append]
 have hst0:=St.start w
 refine wp_seq (wp_region_Y [0,0] [] [[0]] [] [.a 2, .k 4 (.slice none 0 0)] (fun ix σ β X=>match ix with | 0=>σ 2=vp (pb (β 2))∧X 0=eB (pb (β 2)) 146 #[.slice none 0 0] | _=>True) [0] [0] [(2,0,1,3),(1,1,1,2)] hst0 ?_ ?_ ?_)
 ·exact fun ix _ _ _ _ _ _ hs hb hx h=>match ix,h with
  | 0,h=>by dsimp only; rw [← hs 2 rfl,← hb 2 rfl,← hx 0 rfl]; exact h
  | _+1, _=>trivial
 ·refine ⟨?_,trivial⟩
  ·refine svA fun ρ β W X cx=>?_
   exact dv_box (cs:=#[.slice none 0 0]) rfl (cx.ou 0) rfl rfl rfl (fun σ β' X' hs hb hv hx=>⟨hv,hx⟩)
 intro σ β X W1 hD hst1 fr hfr
 obtain ⟨B2_1,hu_B2_1⟩:∃ z,pb (β 2)=z:=⟨_,rfl⟩
 simp only [exq 0 ((dTn (hD 0 lq)).2),hu_B2_1] at hst1
 simp only [ed 2 ((dTn (hD 0 lq)).1),hu_B2_1] at hfr
 clear hD hu_B2_1; subst hfr; clear σ β X
 refine then_normal (wp_seq (wp_seq (wp_region_P [0] [.k 6 (.func (.func 99) #[] #[vp b1,vp b2,vp b3])] [(6,0,1,7)] hst1 fun W2 hst2=>?_)))
 refine then_normal (wp_block ?_)
 have hn3:=nilrowN hst2 116 7
 simp only [List.cons_append,List.nil_append] at hn3
 have hp5:=hn3.pick [0,1] (by decide) rfl
 refine wp_rangeSG (α:=YnD) hp5 rfl (enters_of Try.func99 (by kernel_rfl) rfl) (encs:=ynE) (Ex:=ynR) (N:=1000) (Z:=YnZ L) (hseq) (fun A hA=>hRd A (Upd.to_ext (hp5.upd.join hA fun i hi=>(hp5.fps_own hi).1))) (fun _=>rfl) (fun bb pre L=>cond bb (∃ SA:Option Addr,∃ n:Nat,∃ sc:Nat,n=pre.length∧L=[eB B2_1 146 #[.slice SA n sc],eO 116 7 (.slice SA n sc) n (pre.flatMap ynC)]) (False)) ⟨none,0,0,rfl,rfl⟩ (fun xx a_ E_=>∃ BV:Nat,a_=⟨([.slice none 0 0, .func (.func 99) #[] #[vp b1,vp b2,vp b3],vp B2_1,undef, .slice none 0 0,vp BV, .func (.func 99) #[] #[vp b1,vp b2,vp b3], .agg #[vi xx.2.1,vi xx.1.lv,vi xx.1.right, .string xx.1.high, .bool xx.1.dead, .slice xx.2.2.1 xx.1.es.length xx.2.2.2,vi ((xx.1.free:Int))],undef,undef,undef,undef,undef]).toArray,[]⟩∧E_=eB BV 116 #[vi xx.2.1,vi xx.1.lv,vi xx.1.right, .string xx.1.high, .bool xx.1.dead, .slice xx.2.2.1 xx.1.es.length xx.2.2.2,vi ((xx.1.free:Int))]) (fun xx=>[.slice none 0 0, .func (.func 99) #[] #[vp b1,vp b2,vp b3],vp B2_1,undef, .slice none 0 0,undef, .func (.func 99) #[] #[vp b1,vp b2,vp b3], .agg #[vi xx.2.1,vi xx.1.lv,vi xx.1.right, .string xx.1.high, .bool xx.1.dead, .slice xx.2.2.1 xx.1.es.length xx.2.2.2,vi ((xx.1.free:Int))],undef,undef,undef,undef,undef]) (fun xx=>by kernel_rfl) ?_ ?_ ?_ ?_
 ·intro rl xx W4 K hK
  have hst4:=St.start W4
  refine wpIn_region_Y [0,1] [[],[0]] [[0],[1]] [[],[0]] [.a 5, .n] (fun ix σ β X=>match ix with | 0=>σ 5=vp (pb (β 5))∧X 0=eB (pb (β 5)) 116 #[vi 0,vi 0,vi 0, .string ByteArray.empty, .bool false, .slice none 0 0,vi 0] | 1=>X 1=eB (pb (β 5)) 116 #[vi xx.2.1,vi xx.1.lv,vi xx.1.right, .string xx.1.high, .bool xx.1.dead, .slice xx.2.2.1 xx.1.es.length xx.2.2.2,vi ((xx.1.free:Int))] | _=>True) [1] [0,1] [(5,0,1,6)] hst4 ?_ ?_ ?_
  ·exact fun ix _ _ _ _ _ _ hs hb hx h=>match ix,h with
   | 0,h=>by dsimp only; rw [← hs 5 rfl,← hb 5 rfl,← hx 0 rfl]; exact h
   | 1,h=>by dsimp only; rw [← hb 5 rfl,← hx 1 rfl]; exact h
   | _+2, _=>trivial
  ·refine ⟨?_,?_,trivial⟩
   ·refine svA fun ρ β W X cx=>?_
    exact dv_alloc (cs:=#[vi 0,vi 0,vi 0, .string ByteArray.empty, .bool false, .slice none 0 0,vi 0]) rfl (by kernel_rfl) rfl rfl (fun σ β' X' hs hb hv hx=>⟨hv,hx⟩)
   ·refine svA fun ρ β W X cx=>?_
    exact dv_store (n:=7) rfl (dTn (cx.an 0)).1 (cx.ou 7) (by kernel_rfl) (by kernel_rfl) (by kernel_rfl) cx (dTn (cx.an 0)).2 rfl (nle rfl) (by kernel_rfl) rfl rfl rfl (fun σ β' X' hs hb hx=>by rw [hb 5]; exact hx)
  intro σ β X W6 hD hst6 fr hfr
  obtain ⟨B5_6,hu_B5_6⟩:∃ z,pb (β 5)=z:=⟨_,rfl⟩
  simp only [exq 1 ((dTn (hD 1 lq))),hu_B5_6] at hst6
  simp only [ed 5 ((dTn (hD 0 lq)).1),hu_B5_6] at hfr
  clear hD hu_B5_6; subst hfr; clear σ β X
  exact hK _ _ _ ⟨_,rfl,rfl⟩ (hst6.pick [0] (by decide) rfl)
 ·rintro rl pre xx W7 L7 a7 E7 ⟨SA,n,sc,hn,rfl⟩ hlen7 hPx7 ⟨BV,rfl,rfl⟩ hst7r
  have hst7:St W7 (fps ([eB B2_1 146 #[.slice SA n sc],eO 116 7 (.slice SA n sc) n (pre.flatMap ynC)]++[eO 104 3 (.slice xx.2.2.1 xx.1.es.length xx.2.2.2) xx.1.es.length (xx.1.es.flatMap enC),eB BV 116 #[vi xx.2.1,vi xx.1.lv,vi xx.1.right, .string xx.1.high, .bool xx.1.dead, .slice xx.2.2.1 xx.1.es.length xx.2.2.2,vi ((xx.1.free:Int))]])) [eB B2_1 146 #[.slice SA n sc],eO 116 7 (.slice SA n sc) n (pre.flatMap ynC),eO 104 3 (.slice xx.2.2.1 xx.1.es.length xx.2.2.2) xx.1.es.length (xx.1.es.flatMap enC),eB BV 116 #[vi xx.2.1,vi xx.1.lv,vi xx.1.right, .string xx.1.high, .bool xx.1.dead, .slice xx.2.2.1 xx.1.es.length xx.2.2.2,vi ((xx.1.free:Int))]] W7:=hst7r
  clear hst7r
  refine wpIn_block (wpIn_region_Y [0,0,2,7,15] [[0],[3],[],[4,1],[0]] [[],[],[4],[5],[6]] [[],[],[],[1],[0]] [.c 8 (.slice SA n sc), .c 9 (.agg #[vi xx.2.1,vi xx.1.lv,vi xx.1.right, .string xx.1.high, .bool xx.1.dead, .slice xx.2.2.1 xx.1.es.length xx.2.2.2,vi ((xx.1.free:Int))]), .a 10, .a 11, .n] (fun ix σ β X=>match ix with | 0=>True | 1=>True | 2=>σ 10= .slice ((some ⟨(pb' (β 10)),0,none⟩)) 1 1∧X 4=eO 116 7 (.slice ((some ⟨(pb' (β 10)),0,none⟩)) 1 1) 1 (ynC xx) | 3=>σ 11= .slice (sA (β 11)) (n+1) (sC (β 11))∧X 5=eO 116 7 (.slice (sA (β 11)) (n+1) (sC (β 11))) (n+1) ((pre++[xx]).flatMap ynC) | 4=>X 6=eB B2_1 146 #[.slice (sA (β 11)) (n+1) (sC (β 11))] | _=>True) [2,3,4,5,6] [0,1,2,3,4] [(8,0,4,12)] hst7 ?_ ?_ ?_)
  ·exact fun ix _ _ _ _ _ _ hs hb hx h=>match ix,h with
   | 2,h=>by dsimp only; rw [← hs 10 rfl,← hb 10 rfl,← hx 4 rfl]; exact h
   | 3,h=>by dsimp only; rw [← hs 11 rfl,← hb 11 rfl,← hx 5 rfl]; exact h
   | 4,h=>by dsimp only; rw [← hb 11 rfl,← hx 6 rfl]; exact h
   | 0, _ | 1, _ | _+5, _=>trivial
  ·refine ⟨?_,?_,?_,?_,?_,trivial⟩
   ·exact xs4 rfl id fun cx=>run_load1 rfl (by kernel_rfl) (cx.ou 2) ((cx.bi 0 rfl).cell 0)
   ·exact xs4 rfl id fun cx=>run_loadB (n:=7) rfl (by kernel_rfl) (by kernel_rfl) (cx.ou 5) (cx.bi 3 rfl) (nle rfl) rfl
   ·refine svA fun ρ β W X cx=>?_
    have fF9:ρ (.tmp 9)= .agg #[vi xx.2.1,vi xx.1.lv,vi xx.1.right, .string xx.1.high, .bool xx.1.dead, .slice xx.2.2.1 xx.1.es.length xx.2.2.2,vi ((xx.1.free:Int))]:=(cx.an 1)
    exact dv_litN (e:=116) (sz:=7) (xs:=[vi xx.2.1,vi xx.1.lv,vi xx.1.right, .string xx.1.high, .bool xx.1.dead, .slice xx.2.2.1 xx.1.es.length xx.2.2.2,vi ((xx.1.free:Int))]) rfl (by simp [go_sem,fF9]) rfl (by decide) rfl rfl (fun σ β' X' hs hb hv hx=>⟨hv,hx⟩)
   ·refine svA fun ρ β W X cx=>?_
    obtain ⟨i0,hi0,hz0,hz1,hz2⟩:=info_parts Try.infoNd
    refine dv_appendN (n:=n) (m:=1) (nm:=n+1) (sz:=7) (xs:=pre.flatMap ynC) (news:=ynC xx) (xs':=(pre++[xx]).flatMap ynC) rfl (ty:=146) rfl (by kernel_rfl) hi0 hz0 hz1 hz2 rfl (by decide) (cx.an 0) cx (cx.init 1 _ rfl) rfl (dTn (cx.an 2)).1 (by rfl) (At.of_ownN (cx.row (dTn (cx.an 2)).2 rfl)) (by simp [ynC,Value.oneCell']) (by simp only [maxLen]; omega) (by omega) rfl rfl rfl (by omega) (yn_snoc _ _) (fun σ β' X' hs hb hv hx=>?_)
    exact ⟨hv,hx⟩
   ·refine svA fun ρ β W X cx=>?_
    exact dv_store (n:=1) rfl (cx.ou 2) (dTn (cx.an 3)).1 (by kernel_rfl) (by kernel_rfl) (by kernel_rfl) cx (cx.init 0 _ rfl) rfl (nle rfl) (by kernel_rfl) rfl rfl rfl (fun σ β' X' hs hb hx=>by rw [hb 11]; exact hx)
  intro σ β X W8 hD hst8 fr hfr
  obtain ⟨B10_8,hu_B10_8⟩:∃ z,pb' (β 10)=z:=⟨_,rfl⟩
  obtain ⟨A11_8,hu_A11_8⟩:∃ z,sA (β 11)=z:=⟨_,rfl⟩
  obtain ⟨c11_8,hu_c11_8⟩:∃ z,sC (β 11)=z:=⟨_,rfl⟩
  simp only [exq 4 ((dTn (hD 2 lq)).2),exq 5 ((dTn (hD 3 lq)).2),exq 6 ((dTn (hD 4 lq))),hu_B10_8,hu_A11_8,hu_c11_8] at hst8
  simp only [ed 10 ((dTn (hD 2 lq)).1),ed 11 ((dTn (hD 3 lq)).1),hu_B10_8,hu_A11_8,hu_c11_8] at hfr
  clear hD hu_B10_8 hu_A11_8 hu_c11_8; subst hfr; clear σ β X
  refine blk_normal ?_
  exact ⟨true, .inl ⟨rfl,rfl⟩, _,⟨A11_8,(n+1),c11_8,by rw [hn,List.length_append]; rfl,rfl⟩,hst8.pick [4,3,0] (by decide) rfl⟩
 ·rintro D4 W4d L4 XS_ E_ ⟨SA,n,sc,hn,rfl⟩ hZ_ hst4r
  have hst4d:St w [] [eB B2_1 146 #[.slice SA n sc],eO 116 7 (.slice SA n sc) n (XS_.flatMap ynC),E_,eDfr D4] W4d:=hst4r
  clear hst4r
  refine blk_normal (then_normal (wp_seq (wp_region_Z [0,1] [[0]] [.c 12 (.slice SA n sc), .k 4 (.slice SA n sc)] [0,1,2,3] [0] [(4,1,1,5),(7,0,1,8)] hst4d ?_ fun W9 hst9=>?_)))
  ·refine ⟨?_,trivial⟩
   ·exact xs4 rfl id fun cx=>run_load1 rfl (by kernel_rfl) (cx.ou 2) ((cx.bi 0 rfl).cell 0)
  refine then_normal (wp_ret ?_)
  refine bpm_take (L:=[eB B2_1 146 #[.slice SA n sc],eO 116 7 (.slice SA n sc) n (XS_.flatMap ynC),E_]) (hst9.pick [0,1,2,3] (by decide) rfl) fun Wt10 ht10=>?_
  refine ⟨.slice SA n sc,(results_1 Try.results98 rpt),?_⟩
  exact cg_done hZ_ (ht10.pick [1,2] (by decide) rfl) hn
 ·exact fun D W L xs E h=>h.elim
theorem kcol_g (b1 b2 b3:Nat) (L:List (Int×NoD)) (w:World) (Px:YnD→Prop) (Rd:World→Prop) (hseq:SeqG Try.prog 99 #[.pointer (some ⟨b1,0,none⟩), .pointer (some ⟨b2,0,none⟩), .pointer (some ⟨b3,0,none⟩)] ynE ynR Px 1000 (YnZ L) Rd) (hRd:∀ A,Ext w A→Rd A):
  Calls Try.prog 71 #[.func (.func 99) #[] #[.pointer (some ⟨b1,0,none⟩), .pointer (some ⟨b2,0,none⟩), .pointer (some ⟨b3,0,none⟩)]] w (CgPost L w):=by
 go_enter Try.func71,Try.ntmps71
 have hst0:=St.start w
 refine wp_seq (sqr (sqp [.k 2 (.slice none 0 0)] ?_))
 refine then_normal (wp_seq (sqr (sqp [.m 3 0] ?_)))
 refine sqk2s (fun A4_3 c4_3=> .slice A4_3 L.length c4_3) (fun A4_3 c4_3 r0_3=>eCL A4_3 L r0_3) hst0 (fun cx=>⟨_,(kapp_g b1 b2 b3 L _ Px Rd hseq (fun A hA=>hRd A (cx.upd.to_ext.trans hA))).mono (by rintro e W1 ⟨A4,c4,fp4,rfl,hs4⟩; exact ⟨_, _, _,rfl,hs4⟩),(map2 (cx.co _) (cx.ou 3))⟩) fun A4_3 c4_3 r0_3 W3 hst3=>?_
 refine sqp [.m 2 4] ?_
 refine then_normal (wp_ret ?_)
 refine bpr (.slice A4_3 L.length c4_3) (results_1 Try.results71 rpt) ?_
 exact ⟨_, _, _,rfl,hst3.pick [0] (by decide) rfl⟩
end
section
open Go.RowKit
def neB (a:ByteArray):Bool:=!(a.toList==(⟨#[]⟩:ByteArray).toList)
/-- an entry that is not in its place -/
def srS (hi lo:ByteArray) (es:List EnD) (i:Nat):Bool:=(neB lo&&lessF (es.getD i en0).1 lo)||(neB hi&&!(lessF (es.getD i en0).1 hi))||(decide (0 < (i:Int))&&((es.getD i en0).1.toList==(es.getD ((i:Int) - 1).toNat en0).1.toList))
def srF (hi lo:ByteArray) (es:List EnD):Bool:=(List.range es.length).all fun i=>!srS hi lo es i
theorem all_step {p:Nat→Bool} {i:Nat} (h:(List.range i).all p=true) (hp:p i=true):(List.range (i+1)).all p=true:=by
 rw [List.range_succ,List.all_append,h]; simp [hp]
theorem all_fail {p:Nat→Bool} {i n:Nat} (hi:i < n) (hp:p i=false):(List.range n).all p=false:=by
 rw [List.all_eq_false]
 exact ⟨i,List.mem_range.2 hi,by rw [hp]; simp⟩
theorem ksorted_g (pg lv rt fr:Int) (hg:ByteArray) (dd:Bool) (EA:Option Addr) (ec n:Nat) (es:List EnD) (lo:ByteArray) (w:World) (hE:At w EA (es.flatMap enC)) (hn:es.length=n) (hn1:n≤100) (hez:∀ e∈es,e.1.size≤1000000) (hgz:hg.size≤1000000) (hlz:lo.size≤1000000):
  Calls Try.prog 100 #[.agg #[.int .i64 pg, .int .i64 lv, .int .i64 rt, .string hg, .bool dd, .slice EA n ec, .int .i64 fr], .string lo] w (Ret (.bool (srF hg lo es)) w):=by
 go_enter Try.func100,Try.ntmps100
 have hst0:=St.start w
 refine wp_seq (sqr ?_)
 refine sqbx #[vi pg,vi lv,vi rt, .string hg, .bool dd, .slice EA n ec,vi fr] hst0 fun B2_1 W1 hst1=>?_
 refine sqp [.k 4 (.bool false)] ?_
 refine then_normal (wp_seq (wp_seq (sqr (sqp [.k 7 (.pointer (some ⟨B2_1,5,none⟩))] ?_))))
 refine sqld 0 hst1 ?_
 refine sqp [.k 9 (vi ((n:Int))), .k 10 (vi 0)] ?_
 refine then_normal (wp_block ?_)
 refine wp_loopT (fun t_ mz az W=>∃ i:Nat,i≤n∧(List.range i).all (fun i=>!srS hg lo es i)=true∧mz=n - i∧az=⟨(ovr (jv az) [(4,4,3,[]),(3,10,0,[vi ((i:Int))]),(0,11,42,[])] t_).toArray,[]⟩∧St w [] [eB B2_1 116 #[vi pg,vi lv,vi rt, .string hg, .bool dd, .slice EA n ec,vi fr]] W) (n - 0) ?_ ?_
 · -- the loop begins
   exact ⟨0,Nat.zero_le _,rfl,rfl,(by kernel_rfl),hst1.pk [0]⟩
 rintro n7 a7 W7 ⟨i,hi,hall,rfl,hj_,hst7⟩
 refine ovz hj_ fun u7_=>?_
 refine wp_seq (sqr (sqp [.k 11 (.bool (decide ((i:Int) < (n:Int))))] ?_))
 refine then_normal (wp_seq (wds (fun hs9 hs9p=>?_) fun hs9 hs9p=>?_))
 ·refine wp_skip (then_normal (wp_seq (wp_block (wp_seq (sqr (sqp [.m 12 10] ?_))))))
  refine sql (.pointer (some ((ad EA).add (i*3)))) hst7 (fun cx=>run_indexSlM (e:=104) (m:=i) (sz:=3) rfl (by kernel_rfl) (by kernel_rfl) (cx.ou 8) (cx.ou 10) (by omega) (by omega) (hE.ext cx.upd.to_ext) (flatPos (sz:=3) enC_len (by decide) (by omega))) ?_
  refine sql (.agg #[.string ((es.getD i en0).1),vi (((es.getD i en0).2.1:Int)),vi ((es.getD i en0).2.2)]) hst7 (fun cx=>run_loadElt (f:=enC) (m:=i) (sz:=3) (off:=0) (n:=3) rfl (by kernel_rfl) (by kernel_rfl) (cx.ou 13) rfl enC_len (hE.ext cx.upd.to_ext) (en_get (by omega)) (fun k hk=>match k,hk with | 0, _=>rfl | 1, _=>rfl | 2, _=>rfl | k+3,hk=>absurd hk (by omega))) ?_
  refine sqal #[.string ByteArray.empty,vi 0,vi 0] hst7 fun B6_13 W13 hst13=>?_
  refine sqp [.m 5 12] ?_
  refine sqst (n:=3) 1 #[.string ((es.getD i en0).1),vi (((es.getD i en0).2.1:Int)),vi ((es.getD i en0).2.2)] hst13 fun W15 hst15=>?_
  refine then_normal (wp_seq (wp_region_Z [0,1,3,7,15,7,63,127,255,511,1023,2047,4095,8191,16383,8191,40959,131071,262143,524287,1048575,2097151,4194303,8388607,16777215,33554431,67108863,33554431,167772159,33554431,570425343,2046820351,4194303999,8489271295,17179869183,34359738367,68719476735] [[],[],[],[],[1],[],[],[],[],[],[0],[],[],[],[1],[],[0],[],[],[],[],[],[],[],[],[],[1],[],[0]] [.k 15 (.string lo), .k 16 (.bool (!(lo.toList==((⟨#[]⟩:ByteArray)).toList))), .k 17 (.bool (!(lo.toList==((⟨#[]⟩:ByteArray)).toList))), .z 18 (!(lo.toList==((⟨#[]⟩:ByteArray)).toList)) (vp B6_13), .y 19 (!(lo.toList==((⟨#[]⟩:ByteArray)).toList)) (.string ((es.getD i en0).1)), .z 20 (!(lo.toList==((⟨#[]⟩:ByteArray)).toList)) (.string lo), .y 21 (!(lo.toList==((⟨#[]⟩:ByteArray)).toList)) (.bool (lessF ((es.getD i en0).1) lo)),tA 22 (!(lo.toList==((⟨#[]⟩:ByteArray)).toList)) (lessF ((es.getD i en0).1) lo), .k 23 (.bool ((!(lo.toList==((⟨#[]⟩:ByteArray)).toList))&&(lessF ((es.getD i en0).1) lo))), .z 24 (!((!(lo.toList==((⟨#[]⟩:ByteArray)).toList))&&(lessF ((es.getD i en0).1) lo))) (.pointer (some ⟨B2_1,3,none⟩)), .y 25 (!((!(lo.toList==((⟨#[]⟩:ByteArray)).toList))&&(lessF ((es.getD i en0).1) lo))) (.string hg), .y 26 (!((!(lo.toList==((⟨#[]⟩:ByteArray)).toList))&&(lessF ((es.getD i en0).1) lo))) (.bool (!(hg.toList==((⟨#[]⟩:ByteArray)).toList))), .z 27 (!((!(lo.toList==((⟨#[]⟩:ByteArray)).toList))&&(lessF ((es.getD i en0).1) lo))) (.bool (!(hg.toList==((⟨#[]⟩:ByteArray)).toList))), .z 28 ((!((!(lo.toList==((⟨#[]⟩:ByteArray)).toList))&&(lessF ((es.getD i en0).1) lo)))&&(!(hg.toList==((⟨#[]⟩:ByteArray)).toList))) (vp B6_13), .y 29 ((!((!(lo.toList==((⟨#[]⟩:ByteArray)).toList))&&(lessF ((es.getD i en0).1) lo)))&&(!(hg.toList==((⟨#[]⟩:ByteArray)).toList))) (.string ((es.getD i en0).1)), .z 30 ((!((!(lo.toList==((⟨#[]⟩:ByteArray)).toList))&&(lessF ((es.getD i en0).1) lo)))&&(!(hg.toList==((⟨#[]⟩:ByteArray)).toList))) (.pointer (some ⟨B2_1,3,none⟩)), .y 31 ((!((!(lo.toList==((⟨#[]⟩:ByteArray)).toList))&&(lessF ((es.getD i en0).1) lo)))&&(!(hg.toList==((⟨#[]⟩:ByteArray)).toList))) (.string hg), .y 32 ((!((!(lo.toList==((⟨#[]⟩:ByteArray)).toList))&&(lessF ((es.getD i en0).1) lo)))&&(!(hg.toList==((⟨#[]⟩:ByteArray)).toList))) (.bool (lessF ((es.getD i en0).1) hg)), .z 33 ((!((!(lo.toList==((⟨#[]⟩:ByteArray)).toList))&&(lessF ((es.getD i en0).1) lo)))&&(!(hg.toList==((⟨#[]⟩:ByteArray)).toList))) (.bool (!(lessF ((es.getD i en0).1) hg))), .y 34 (!((!(lo.toList==((⟨#[]⟩:ByteArray)).toList))&&(lessF ((es.getD i en0).1) lo))) (.bool ((!(hg.toList==((⟨#[]⟩:ByteArray)).toList))&&(!(lessF ((es.getD i en0).1) hg)))),tO 35 ((!(lo.toList==((⟨#[]⟩:ByteArray)).toList))&&(lessF ((es.getD i en0).1) lo)) ((!(hg.toList==((⟨#[]⟩:ByteArray)).toList))&&(!(lessF ((es.getD i en0).1) hg))), .k 36 (.bool (((!(lo.toList==((⟨#[]⟩:ByteArray)).toList))&&(lessF ((es.getD i en0).1) lo))||((!(hg.toList==((⟨#[]⟩:ByteArray)).toList))&&(!(lessF ((es.getD i en0).1) hg))))), .z 37 (!(((!(lo.toList==((⟨#[]⟩:ByteArray)).toList))&&(lessF ((es.getD i en0).1) lo))||((!(hg.toList==((⟨#[]⟩:ByteArray)).toList))&&(!(lessF ((es.getD i en0).1) hg))))) (vi ((i:Int))), .z 38 (!(((!(lo.toList==((⟨#[]⟩:ByteArray)).toList))&&(lessF ((es.getD i en0).1) lo))||((!(hg.toList==((⟨#[]⟩:ByteArray)).toList))&&(!(lessF ((es.getD i en0).1) hg))))) (.bool (decide (0 < (i:Int)))), .z 39 (!(((!(lo.toList==((⟨#[]⟩:ByteArray)).toList))&&(lessF ((es.getD i en0).1) lo))||((!(hg.toList==((⟨#[]⟩:ByteArray)).toList))&&(!(lessF ((es.getD i en0).1) hg))))) (.bool (decide (0 < (i:Int)))), .z 40 ((!(((!(lo.toList==((⟨#[]⟩:ByteArray)).toList))&&(lessF ((es.getD i en0).1) lo))||((!(hg.toList==((⟨#[]⟩:ByteArray)).toList))&&(!(lessF ((es.getD i en0).1) hg)))))&&(decide (0 < (i:Int)))) (vp B6_13), .y 41 ((!(((!(lo.toList==((⟨#[]⟩:ByteArray)).toList))&&(lessF ((es.getD i en0).1) lo))||((!(hg.toList==((⟨#[]⟩:ByteArray)).toList))&&(!(lessF ((es.getD i en0).1) hg)))))&&(decide (0 < (i:Int)))) (.string ((es.getD i en0).1)), .z 42 ((!(((!(lo.toList==((⟨#[]⟩:ByteArray)).toList))&&(lessF ((es.getD i en0).1) lo))||((!(hg.toList==((⟨#[]⟩:ByteArray)).toList))&&(!(lessF ((es.getD i en0).1) hg)))))&&(decide (0 < (i:Int)))) (.pointer (some ⟨B2_1,5,none⟩)), .y 43 ((!(((!(lo.toList==((⟨#[]⟩:ByteArray)).toList))&&(lessF ((es.getD i en0).1) lo))||((!(hg.toList==((⟨#[]⟩:ByteArray)).toList))&&(!(lessF ((es.getD i en0).1) hg)))))&&(decide (0 < (i:Int)))) (.slice EA n ec), .z 44 ((!(((!(lo.toList==((⟨#[]⟩:ByteArray)).toList))&&(lessF ((es.getD i en0).1) lo))||((!(hg.toList==((⟨#[]⟩:ByteArray)).toList))&&(!(lessF ((es.getD i en0).1) hg)))))&&(decide (0 < (i:Int)))) (vi ((i:Int))), .y 45 ((!(((!(lo.toList==((⟨#[]⟩:ByteArray)).toList))&&(lessF ((es.getD i en0).1) lo))||((!(hg.toList==((⟨#[]⟩:ByteArray)).toList))&&(!(lessF ((es.getD i en0).1) hg)))))&&(decide (0 < (i:Int)))) (vi ((i:Int) - 1)), .y 46 ((!(((!(lo.toList==((⟨#[]⟩:ByteArray)).toList))&&(lessF ((es.getD i en0).1) lo))||((!(hg.toList==((⟨#[]⟩:ByteArray)).toList))&&(!(lessF ((es.getD i en0).1) hg)))))&&(decide (0 < (i:Int)))) (.pointer (some ((ad EA).add ((((i:Int) - 1).toNat)*3)))), .y 47 ((!(((!(lo.toList==((⟨#[]⟩:ByteArray)).toList))&&(lessF ((es.getD i en0).1) lo))||((!(hg.toList==((⟨#[]⟩:ByteArray)).toList))&&(!(lessF ((es.getD i en0).1) hg)))))&&(decide (0 < (i:Int)))) (.pointer (some ((ad EA).add ((((i:Int) - 1).toNat)*3+0)))), .y 48 ((!(((!(lo.toList==((⟨#[]⟩:ByteArray)).toList))&&(lessF ((es.getD i en0).1) lo))||((!(hg.toList==((⟨#[]⟩:ByteArray)).toList))&&(!(lessF ((es.getD i en0).1) hg)))))&&(decide (0 < (i:Int)))) (.string ((es.getD (((i:Int) - 1).toNat) en0).1)), .y 49 ((!(((!(lo.toList==((⟨#[]⟩:ByteArray)).toList))&&(lessF ((es.getD i en0).1) lo))||((!(hg.toList==((⟨#[]⟩:ByteArray)).toList))&&(!(lessF ((es.getD i en0).1) hg)))))&&(decide (0 < (i:Int)))) (.bool (((es.getD i en0).1).toList==((es.getD (((i:Int) - 1).toNat) en0).1).toList)), .y 50 (!(((!(lo.toList==((⟨#[]⟩:ByteArray)).toList))&&(lessF ((es.getD i en0).1) lo))||((!(hg.toList==((⟨#[]⟩:ByteArray)).toList))&&(!(lessF ((es.getD i en0).1) hg))))) (.bool ((decide (0 < (i:Int)))&&(((es.getD i en0).1).toList==((es.getD (((i:Int) - 1).toNat) en0).1).toList))),tO 51 (((!(lo.toList==((⟨#[]⟩:ByteArray)).toList))&&(lessF ((es.getD i en0).1) lo))||((!(hg.toList==((⟨#[]⟩:ByteArray)).toList))&&(!(lessF ((es.getD i en0).1) hg)))) ((decide (0 < (i:Int)))&&(((es.getD i en0).1).toList==((es.getD (((i:Int) - 1).toNat) en0).1).toList))] [0,1] [4,6,10,11,14,16,17,19,26,28,30,31,32,33,34,35] [(15,0,37,52)] hst15 ?_ fun W16 hst16=>?_))
  ·refine ⟨?_,?_,?_,?_,?_,?_,?_,?_,?_,?_,?_,?_,?_,?_,?_,?_,trivial⟩
   ·exact m2 rfl (fun _ _ _ h=>h) (fun cx=>(cx.an 2)) fun cx hq=>run_load1 rfl (by kernel_rfl) (mbv (cx.an 3) hq) ((cx.bi 1 rfl).cell 0)
   ·exact m3 rfl (fun _ _ _ h=>h) (fun cx=>(cx.an 2)) fun cx hq=>⟨_, _,run_callF (args:=#[.string ((es.getD i en0).1), .string lo]) rfl cx.sees rfl (by kernel_rfl) (map2 (mbv (cx.an 4) hq) (mbv (cx.an 5) hq)),kless_any ((es.getD i en0).1) lo _ (getD_size hez _) (by omega)⟩
   ·exact m2 rfl (fun _ _ _ h=>h) (fun cx=>(cx.an 8)) fun cx hq=>run_load1 rfl (by kernel_rfl) (mbv (cx.an 9) hq) ((cx.bi 0 rfl).cell 3)
   ·exact m2 rfl (fun _ _ _ h=>h) (fun cx=>(cx.an 8)) fun cx hq=>run_strne rfl (mbv (cx.an 10) hq) (cx.co _)
   ·exact m0 rfl (fun _ _ _ h=>h) (fun cx=>(cx.an 12)) fun cx hq=>run_load1 rfl (by kernel_rfl) (mbv (cx.an 13) hq) ((cx.bi 1 rfl).cell 0)
   ·exact m0 rfl (fun _ _ _ h=>h) (fun cx=>(cx.an 12)) fun cx hq=>run_load1 rfl (by kernel_rfl) (mbv (cx.an 15) hq) ((cx.bi 0 rfl).cell 3)
   ·exact m1 rfl (fun _ _ _ h=>h) (fun cx=>(cx.an 12)) fun cx hq=>⟨_, _,run_callF (args:=#[.string ((es.getD i en0).1), .string hg]) rfl cx.sees rfl (by kernel_rfl) (map2 (mbv (cx.an 14) hq) (mbv (cx.an 16) hq)),kless_any ((es.getD i en0).1) hg _ (getD_size hez _) (by omega)⟩
   ·exact m2 rfl (fun _ _ _ h=>h) (fun cx=>(cx.an 8)) fun cx hq=>run_pick_and rfl (mbv (cx.an 12) hq) (cx.an 18) (fun e_=>by rw [hq,e_]; rfl) (cx.co _)
   ·exact m0 rfl (fun _ _ _ h=>h) (fun cx=>(cx.an 24)) fun cx hq=>run_load1 rfl (by kernel_rfl) (mbv (cx.an 25) hq) ((cx.bi 1 rfl).cell 0)
   ·exact m0 rfl (fun _ _ _ h=>h) (fun cx=>(cx.an 24)) fun cx hq=>run_load1 rfl (by kernel_rfl) (mbv (cx.an 27) hq) ((cx.bi 0 rfl).cell 5)
   ·exact m0 rfl (fun _ _ _ h=>h) (fun cx=>(cx.an 24)) fun cx hq=>run_bin rfl (mbv (cx.an 29) hq) (cx.co _) (congrArg (fun z=>some (Value.int .i64 z)) ((IntWalk.i64_in _ (by have hq_:=hq; simp only [zB] at hq_; omega)).trans (by have hq_:=hq; simp only [zB] at hq_; omega)))
   ·exact m0 rfl (fun _ _ _ h=>h) (fun cx=>(cx.an 24)) fun cx hq=>run_indexSlM (e:=104) (m:=((i:Int) - 1).toNat) (sz:=3) rfl (by kernel_rfl) (by kernel_rfl) (mbv (cx.an 28) hq) (mbv (cx.an 30) hq) (by have hq_:=hq; simp only [zB] at hq_; omega) (by have hq_:=hq; simp only [zB] at hq_; omega) (hE.ext cx.upd.to_ext) (flatPos (sz:=3) enC_len (by decide) (by have hq_:=hq; simp only [zB] at hq_; omega))
   ·exact m0 rfl (fun _ _ _ h=>h) (fun cx=>(cx.an 24)) fun cx hq=>run_fieldAd rfl (by kernel_rfl) (mbv (cx.an 31) hq)
   ·exact m0 rfl (fun _ _ _ h=>h) (fun cx=>(cx.an 24)) fun cx hq=>run_load1 rfl (by kernel_rfl) (mbv (cx.an 32) hq) (At.eltc (f:=enC) (k:=0) enC_len (hE.ext cx.upd.to_ext) (en_get (by have hq_:=hq; simp only [zB] at hq_; omega)) rfl)
   ·exact m0 rfl (fun _ _ _ h=>h) (fun cx=>(cx.an 24)) fun cx hq=>run_streq rfl (mbv (cx.an 26) hq) (mbv (cx.an 33) hq)
   ·exact m2 rfl (fun _ _ _ h=>h) (fun cx=>(cx.an 21)) fun cx hq=>run_pick_and rfl (mbv (cx.an 24) hq) (cx.an 34) (fun e_=>by rw [hq,e_]; rfl) (cx.co _)
  refine then_normal (wbs (fun hs17=>?_) fun hs17=>?_)
  ·have hs17p:=hs17
   simp only [zB] at hs17p
   refine wp_seq (sqr (sqp [.k 4 (.bool false)] ?_))
   refine then_normal (wp_ret (blk_ret (then_ret (then_ret (blk_ret (then_ret ?_))))))
   refine bpr (.bool false) (results_1 Try.results100 rpt) ?_
   exact Ret.bool (by rw [srF,hn]; exact (all_fail (i:=i) (by omega) (by rw [show srS hg lo es i=true from hs17]; rfl)).symm) hst16.ext
  have hs17p:=hs17
  simp only [zB] at hs17p
  obtain ⟨⟨hs17p1,hs17p2⟩,hs17p3⟩:=hs17p
  refine wp_skip (blk_normal (then_normal (sqr (sqp [sI 52 ((i:Int)+1) (by omega), .m 10 52] ?_))))
  refine then_normal ?_
  refine ⟨n - ((i+1)),by omega,?_⟩
  exact ⟨(i+1),by omega,all_step hall (by rw [show srS hg lo es i=false from hs17]; rfl),rfl,(by kernel_rfl),hst16.pk [0]⟩
 refine wp_exit (then_exit (then_exit (blk_eq (then_normal (wp_seq (sqr (sqp [.k 4 (.bool true)] ?_)))))))
 refine then_normal (wp_ret ?_)
 refine bpr (.bool true) (results_1 Try.results100 rpt) ?_
 exact Ret.bool (by rw [srF,hn,show n=i by omega]; exact hall.symm) hst7.ext
def yn0:YnD:=(nodZ,0,none,0)
theorem yn_get {l:List YnD} {k:Nat} (h:k < l.length):l[k]? =some (l.getD k yn0):=by rw [List.getD_eq_getElem?_getD,List.getElem?_eq_getElem h]; rfl
/-- the node that leads to it is there, with the entry that it should have -/
def ldW (L:List (Int×NoD)) (k:Int):ByteArray:=if 0 < k then (L.getD (k - 1).toNat (0,nodZ)).2.high else leastB
def ldI (L:List (Int×NoD)) (kid:Int):Int:=idxP (fun m=>m.1==kid) 0 L
def ldS (L:List (Int×NoD)) (e:EnD):Bool:=decide (ldI L e.2.2 < 0)||!(e.1.toList==(ldW L (ldI L e.2.2)).toList)
def ldF (L:List (Int×NoD)) (es:List EnD):Bool:=((List.range es.length).all fun i=>!ldS L (es.getD i en0))&&decide (0 < (es.length:Int))
theorem idxP_map {α β:Type} (f:α→β) (p:β→Bool):∀ (l:List α) (k:Int),idxP p k (l.map f)=idxP (fun x=>p (f x)) k l
 | [], _=>rfl
 | x::l,k=>by rw [List.map_cons,idxP,idxP,idxP_map f p l]
theorem idxP_lt {α:Type} (p:α→Bool):∀ (l:List α) (k:Int),0≤k→ -1≤idxP p k l∧idxP p k l < k+l.length
 | [],k,h=>⟨Int.le_refl _,by rw [idxP,List.length_nil]; omega⟩
 | x::l,k,h=>by
   rw [idxP,List.length_cons]
   split
   ·exact ⟨by omega,by omega⟩
   ·have:=idxP_lt p l (k+1) (by omega)
    exact ⟨this.1,by omega⟩
theorem getD_pgN (xs:List YnD) (k:Nat):(xs.map pgN).getD k (0,nodZ)=pgN (xs.getD k yn0):=by
 rw [List.getD_eq_getElem?_getD,List.getD_eq_getElem?_getD,List.getElem?_map]
 cases xs[k]? <;>rfl
theorem kleads1_any (y:YnD) (eb:Nat) (x:ByteArray) (s kid:Int) (w:World) (h1:Blk w eb 104 #[.string x, .int .i64 s, .int .i64 kid]):
  Calls Try.prog 107 #[.agg #[.int .i64 y.2.1, .int .i64 y.1.lv, .int .i64 y.1.right, .string y.1.high, .bool y.1.dead, .slice y.2.2.1 y.1.es.length y.2.2.2, .int .i64 ((y.1.free:Int))], .pointer (some ⟨eb,0,none⟩)] w (Ret (.bool (y.2.1==kid)) w):=by
 go_enter Try.func107,Try.ntmps107
 have hst0:=St.start w
 refine wp_seq (sqr ?_)
 refine sqbx #[vi y.2.1,vi y.1.lv,vi y.1.right, .string y.1.high, .bool y.1.dead, .slice y.2.2.1 y.1.es.length y.2.2.2,vi ((y.1.free:Int))] hst0 fun B2_1 W1 hst1=>?_
 refine sqp [.k 3 (.bool false)] ?_
 refine then_normal (wp_seq (sqr (sqp [.k 4 (vp B2_1)] ?_)))
 refine sqld 0 hst1 ?_
 refine sqp [.k 6 (.pointer (some ⟨eb,2,none⟩))] ?_
 refine sql (vi kid) hst1 (fun cx=>run_load1 rfl (by kernel_rfl) (cx.ou 6) ((Blk.ext h1 cx.upd.to_ext).cell 2)) ?_
 refine sqp [.k 8 (.bool (y.2.1==kid)), .m 3 8] ?_
 refine then_normal (wp_ret ?_)
 refine bpr (.bool (y.2.1==kid)) (results_1 Try.results107 rpt) ?_
 exact Ret.bool rfl hst1.ext
theorem kidxn_any (FA:Option Addr) (fc:Nat) (ks:List YnD) (f0:FuncId) (cap:Array Value) (p:YnD→Bool) (w:World) (hF:At w FA (ks.flatMap ynC)) (hl:ks.length≤100000) (hcf:callP Try.prog f0=true) (hf:∀ (W:World) (k:YnD),Ext w W→Calls Try.prog f0 (#[.agg #[.int .i64 k.2.1, .int .i64 k.1.lv, .int .i64 k.1.right, .string k.1.high, .bool k.1.dead, .slice k.2.2.1 k.1.es.length k.2.2.2, .int .i64 ((k.1.free:Int))]]++cap) W (Ret (.bool (p k)) W)):
  Calls Try.prog 106 #[.slice FA ks.length fc, .func (.func f0) #[] cap] w (Ret (.int .i64 (idxP p 0 ks)) w):=by
 go_enter Try.func106,Try.ntmps106
 have hst0:=St.start w
 refine wp_seq (sqr (sqp [.k 4 (vi 0)] ?_))
 refine then_normal (wp_seq (wp_seq (sqr (sqp [.m 6 0, .k 7 (vi ((ks.length:Int))), .k 8 (vi 0)] ?_))))
 refine then_normal (wp_block ?_)
 refine wp_loopT (fun t_ mz az W=>∃ k:Nat,k≤ks.length∧idxP p 0 ks=idxP p (k:Int) (ks.drop k)∧mz=ks.length - k∧az=⟨(ovr (jv az) [(4,4,2,[]),(2,8,0,[vi ((k:Int))]),(0,9,10,[])] t_).toArray,[]⟩∧St w [] [] W) (ks.length - 0) ?_ ?_
 · -- the loop begins
   exact ⟨0,Nat.zero_le _,rfl,rfl,(by kernel_rfl),hst0.pk []⟩
 rintro n5 a5 W5 ⟨k,hk,hkr,rfl,hj_,hst5⟩
 refine ovz hj_ fun u5_=>?_
 refine wp_seq (sqr (sqp [.k 9 (.bool (decide ((k:Int) < (ks.length:Int))))] ?_))
 refine then_normal (wp_seq (wds (fun hs7 hs7p=>?_) fun hs7 hs7p=>?_))
 ·refine wp_skip (then_normal (wp_seq (wp_block (wp_seq (sqr (sqp [.m 10 8, .m 5 10] ?_))))))
  refine then_normal (wp_seq (sqr (sqp [.m 11 1, .m 12 0, .m 13 5] ?_)))
  refine sql (.pointer (some ((ad FA).add (k*7)))) hst5 (fun cx=>run_indexSlM (e:=116) (m:=k) (sz:=7) rfl (by kernel_rfl) (by kernel_rfl) (cx.ou 12) (cx.ou 13) (by omega) (by omega) (hF.ext cx.upd.to_ext) (flatPos (sz:=7) ynC_len (by decide) (by omega))) ?_
  refine sql (.agg #[vi ((ks.getD k yn0).2.1),vi ((ks.getD k yn0).1.lv),vi ((ks.getD k yn0).1.right), .string ((ks.getD k yn0).1.high), .bool ((ks.getD k yn0).1.dead), .slice ((ks.getD k yn0).2.2.1) ((ks.getD k yn0).1.es.length) ((ks.getD k yn0).2.2.2),vi (((ks.getD k yn0).1.free:Int))]) hst5 (fun cx=>run_loadElt (f:=ynC) (m:=k) (sz:=7) (off:=0) (n:=7) rfl (by kernel_rfl) (by kernel_rfl) (cx.ou 14) rfl ynC_len (hF.ext cx.upd.to_ext) (yn_get (by omega)) (fun k hk=>match k,hk with | 0, _=>rfl | 1, _=>rfl | 2, _=>rfl | 3, _=>rfl | 4, _=>rfl | 5, _=>rfl | 6, _=>rfl | k+7,hk=>absurd hk (by omega))) ?_
  refine sqv (.bool ((p (ks.getD k yn0)))) hst5 (sv_call rfl rfl rfl rfl rfl (fun _ _ _ h=>h) fun ρ β W X cx=>⟨_, _,run_callV (f:=f0) (args:=#[.agg #[vi ((ks.getD k yn0).2.1),vi ((ks.getD k yn0).1.lv),vi ((ks.getD k yn0).1.right), .string ((ks.getD k yn0).1.high), .bool ((ks.getD k yn0).1.dead), .slice ((ks.getD k yn0).2.2.1) ((ks.getD k yn0).1.es.length) ((ks.getD k yn0).2.2.2),vi (((ks.getD k yn0).1.free:Int))]]) (args':=#[.agg #[vi ((ks.getD k yn0).2.1),vi ((ks.getD k yn0).1.lv),vi ((ks.getD k yn0).1.right), .string ((ks.getD k yn0).1.high), .bool ((ks.getD k yn0).1.dead), .slice ((ks.getD k yn0).2.2.1) ((ks.getD k yn0).1.es.length) ((ks.getD k yn0).2.2.2),vi (((ks.getD k yn0).1.free:Int))]]++cap) rfl rfl (cx.ou 11) hcf (map1 (cx.ou 15)) (by rw [Array.empty_append]),(by have h9:=hf W (ks.getD k yn0) cx.upd.to_ext; exact h9)⟩) fun W15 hst15=>?_
  refine then_normal (wbs (fun hs16=>?_) fun hs16=>?_)
  ·refine wp_seq (sqr (sqp [.m 17 5, .m 4 17] ?_))
   refine then_normal (wp_ret (blk_ret (then_ret (then_ret (blk_ret (then_ret ?_))))))
   refine bpr (vi ((k:Int))) (results_1 Try.results106 rpt) ?_
   exact Ret.of (by rw [hkr,idxP_at (yn_get (l:=ks) (k:=k) (by omega)),hs16]; rfl) hst15.ext
  refine wp_skip (blk_normal (then_normal (sqr (sqp [sI 18 ((k:Int)+1) (by omega), .m 8 18] ?_))))
  refine then_normal ?_
  refine ⟨ks.length - ((k+1)),by omega,?_⟩
  exact ⟨(k+1),by omega,by rw [hkr,idxP_at (yn_get (l:=ks) (k:=k) (by omega)),hs16]; rfl,rfl,(by kernel_rfl),hst15.pk []⟩
 refine wp_exit (then_exit (then_exit (blk_eq (then_normal (wp_seq (sqr (sqp [.k 4 (vi (-1))] ?_)))))))
 refine then_normal (wp_ret ?_)
 refine bpr (vi (-1)) (results_1 Try.results106 rpt) ?_
 exact Ret.of (by rw [hkr,List.drop_of_length_le (by omega)]; rfl) hst5.ext
theorem kidxn_kid {A:Option Addr} {c:Nat} {xs:List YnD} {w:World} {eb:Nat} {x:ByteArray} {s kid:Int} (hF:At w A (xs.flatMap ynC)) (hl:xs.length≤100000) (h1:Blk w eb 104 #[.string x, .int .i64 s, .int .i64 kid]):
  Calls Try.prog 106 #[.slice A xs.length c, .func (.func 107) #[] #[.pointer (some ⟨eb,0,none⟩)]] w (Ret (.int .i64 (ldI (xs.map pgN) kid)) w):=by
 rw [ldI,idxP_map]
 exact kidxn_any A c xs 107 #[.pointer (some ⟨eb,0,none⟩)] (fun y=>y.2.1==kid) w hF hl (by kernel_rfl) (fun W k hW=>kleads1_any k eb x s kid W (h1.ext hW))
theorem kleads_g (pg lv rt fr:Int) (hg:ByteArray) (dd:Bool) (EA:Option Addr) (ec n:Nat) (es:List EnD) (BA:Option Addr) (bc:Nat) (xs:List YnD) (w:World) (hE:At w EA (es.flatMap enC)) (hn:es.length=n) (hn1:n≤100) (hB:At w BA (xs.flatMap ynC)) (hbl:xs.length≤100000):
  Calls Try.prog 101 #[.agg #[.int .i64 pg, .int .i64 lv, .int .i64 rt, .string hg, .bool dd, .slice EA n ec, .int .i64 fr], .slice BA xs.length bc] w (Ret (.bool (ldF (xs.map pgN) es)) w):=by
 go_enter Try.func101,Try.ntmps101
 have hst0:=St.start w
 refine wp_seq (sqr ?_)
 refine sqbx #[vi pg,vi lv,vi rt, .string hg, .bool dd, .slice EA n ec,vi fr] hst0 fun B2_1 W1 hst1=>?_
 refine sqp [.k 4 (.bool false)] ?_
 refine then_normal (wp_seq (wp_seq (sqr (sqp [.k 9 (.pointer (some ⟨B2_1,5,none⟩))] ?_))))
 refine sqld 0 hst1 ?_
 refine sqp [.k 11 (vi ((n:Int))), .k 12 (vi 0)] ?_
 refine then_normal (wp_block ?_)
 refine wp_loopT (fun t_ mz az W=>∃ i:Nat,i≤n∧(List.range i).all (fun i=>!ldS (xs.map pgN) (es.getD i en0))=true∧mz=n - i∧az=⟨(ovr (jv az) [(4,4,1,[]),(1,6,3,[]),(3,12,0,[vi ((i:Int))]),(0,13,24,[])] t_).toArray,[]⟩∧St w [] [eB B2_1 116 #[vi pg,vi lv,vi rt, .string hg, .bool dd, .slice EA n ec,vi fr]] W) (n - 0) ?_ ?_
 · -- the loop begins
   exact ⟨0,Nat.zero_le _,rfl,rfl,(by kernel_rfl),hst1.pk [0]⟩
 rintro n7 a7 W7 ⟨i,hi,hall,rfl,hj_,hst7⟩
 refine ovz hj_ fun u7_=>?_
 refine wp_seq (sqr (sqp [.k 13 (.bool (decide ((i:Int) < (n:Int))))] ?_))
 refine then_normal (wp_seq (wds (fun hs9 hs9p=>?_) fun hs9 hs9p=>?_))
 ·refine wp_skip (then_normal (wp_seq (wp_block (wp_seq (sqr ?_)))))
  refine sql (.pointer (some ((ad EA).add (i*3)))) hst7 (fun cx=>run_indexSlM (e:=104) (m:=i) (sz:=3) rfl (by kernel_rfl) (by kernel_rfl) (cx.ou 10) (cx.ou 12) (by omega) (by omega) (hE.ext cx.upd.to_ext) (flatPos (sz:=3) enC_len (by decide) (by omega))) ?_
  refine sql (.agg #[.string ((es.getD i en0).1),vi (((es.getD i en0).2.1:Int)),vi ((es.getD i en0).2.2)]) hst7 (fun cx=>run_loadElt (f:=enC) (m:=i) (sz:=3) (off:=0) (n:=3) rfl (by kernel_rfl) (by kernel_rfl) (cx.ou 14) rfl enC_len (hE.ext cx.upd.to_ext) (en_get (by omega)) (fun k hk=>match k,hk with | 0, _=>rfl | 1, _=>rfl | 2, _=>rfl | k+3,hk=>absurd hk (by omega))) ?_
  refine sqal #[.string ByteArray.empty,vi 0,vi 0] hst7 fun B6_12 W12 hst12=>?_
  refine sqst (n:=3) 1 #[.string ((es.getD i en0).1),vi (((es.getD i en0).2.1:Int)),vi ((es.getD i en0).2.2)] hst12 fun W13 hst13=>?_
  refine then_normal (wp_seq (sqr (sqp [.m 16 1] ?_)))
  refine sqv (.func (.func 107) #[] #[vp B6_12]) hst13 (by
    exact sv0 rfl rfl rfl rfl rfl (fun _ _ _ h=>h) fun ρ β W X cx=>by
     have fF6:ρ (.tmp 6)=vp B6_12:=(cx.ou 6)
     simp [go_sem,Instr.makeFunc,fF6]) fun W15 hst15=>?_
  refine sqk (vi ((ldI (xs.map pgN) ((es.getD i en0).2.2)))) hst15 (fun cx=>⟨_,kidxn_kid (hB.ext cx.upd.to_ext) hbl (cx.bi 1 rfl),(map2 (cx.ou 16) (cx.ou 17))⟩) fun W16 hst16=>?_
  refine sqp [.m 7 18] ?_
  refine then_normal (wp_seq ?_)
  obtain ⟨ix,hN_ix⟩:∃ z,(ldI (xs.map pgN) ((es.getD i en0).2.2))=z:=⟨_,rfl⟩
  rw [hN_ix]
  have hix:=idxP_lt (fun m:Int×NoD=>m.1==(es.getD i en0).2.2) (xs.map pgN) 0 (by omega)
  rw [show idxP (fun m:Int×NoD=>m.1==(es.getD i en0).2.2) 0 (xs.map pgN)=ix from hN_ix,List.length_map] at hix
  refine sqr (sqk (.string leastB) hst16 (fun cx=>⟨_,kleast_any _,map0⟩) fun W18 hst18=>?_)
  refine sqp [.m 8 19] ?_
  refine then_normal ?_
  refine wp_cutT (fun t_ az W=>∃ wt:ByteArray,wt=ldW (xs.map pgN) ix∧az=⟨(ovr (jv az) [(8,8,0,[.string wt]),(11,20,8,[])] t_).toArray,[]⟩∧St w [] [eB B2_1 116 #[vi pg,vi lv,vi rt, .string hg, .bool dd, .slice EA n ec,vi fr],eB B6_12 104 #[.string ((es.getD i en0).1),vi (((es.getD i en0).2.1:Int)),vi ((es.getD i en0).2.2)]] W) ?_ ?_
  ·refine wp_seq (sqr (sqp [.m 20 7, .k 21 (.bool (decide (0 < ix)))] ?_))
   refine then_normal (wds (fun hs23 hs23p=>?_) fun hs23 hs23p=>?_)
   ·refine sqr (sqp [.m 22 1, .m 23 7,sI 24 (ix - 1) (by omega)] ?_)
    refine sql (.pointer (some ((ad BA).add (((ix - 1).toNat)*7)))) hst18 (fun cx=>run_indexSlM (e:=116) (m:=(ix - 1).toNat) (sz:=7) rfl (by kernel_rfl) (by kernel_rfl) (cx.ou 22) (cx.ou 24) (by omega) (by omega) (hB.ext cx.upd.to_ext) (flatPos (sz:=7) ynC_len (by decide) (by omega))) ?_
    refine sql (.pointer (some ((ad BA).add (((ix - 1).toNat)*7+3)))) hst18 (fun cx=>run_fieldAd rfl (by kernel_rfl) (cx.ou 25)) ?_
    refine sql (.string ((xs.getD ((ix - 1).toNat) yn0).1.high)) hst18 (fun cx=>run_load1 rfl (by kernel_rfl) (cx.ou 26) (At.eltc (f:=ynC) (k:=3) ynC_len (hB.ext cx.upd.to_ext) (yn_get (by omega)) rfl)) ?_
    refine sqp [.m 8 27] ?_
    refine then_normal ?_
    exact ⟨((xs.getD ((ix - 1).toNat) yn0).1.high),by rw [ldW,if_pos (by omega)]; rw [getD_pgN]; rfl,(by kernel_rfl),hst18.pk [0,1]⟩
   refine wp_skip (then_normal ?_)
   exact ⟨leastB,by rw [ldW,if_neg (by omega)],(by kernel_rfl),hst18.pk [0,1]⟩
  rintro a20 W20 ⟨wt,hwt,hj_,hst20⟩
  refine ovz hj_ fun u20_=>?_
  refine wp_seq (sqr (sqp [.m 28 7, .k 29 (.bool (decide (ix < 0))), .m 30 29] ?_))
  refine sqw' 30 [31,32,33,34] ?_ rfl (fun hq=>?_) ?_
  rotate_left
  ·refine sqp [.k 31 (vp B6_12)] ?_
   refine sqld 1 hst20 ?_
   refine sqp [.m 33 8, .k 34 (.bool (!(((es.getD i en0).1).toList==wt.toList)))] ?_
   exact sqe
  refine sqwx ?_
  refine sqp [sPo 35 (decide (ix < 0)) (!(((es.getD i en0).1).toList==wt.toList))] ?_
  refine then_normal (wbs (fun hs39=>?_) fun hs39=>?_)
  ·have hs39p:=hs39
   simp only [zB] at hs39p
   refine wp_seq (sqr (sqp [.k 4 (.bool false)] ?_))
   refine then_normal (wp_ret (blk_ret (then_ret (then_ret (blk_ret (then_ret ?_))))))
   refine bpr (.bool false) (results_1 Try.results101 rpt) ?_
   exact Ret.bool (by rw [ldF,hn,all_fail (i:=i) (by omega) (by rw [show ldS (xs.map pgN) (es.getD i en0)=true by rw [ldS,hN_ix,← hwt]; exact hs39]; rfl),Bool.false_and]) hst20.ext
  have hs39p:=hs39
  simp only [zB] at hs39p
  obtain ⟨hs39p1,hs39p2⟩:=hs39p
  refine wp_skip (blk_normal (then_normal (sqr (sqp [sI 36 ((i:Int)+1) (by omega), .m 12 36] ?_))))
  refine then_normal ?_
  refine ⟨n - ((i+1)),by omega,?_⟩
  exact ⟨(i+1),by omega,all_step hall (by rw [show ldS (xs.map pgN) (es.getD i en0)=false by rw [ldS,hN_ix,← hwt]; exact hs39]; rfl),rfl,(by kernel_rfl),hst20.pk [0]⟩
 refine wp_exit (then_exit (then_exit (blk_eq (then_normal (wp_seq (sqr (sqp [.k 37 (.pointer (some ⟨B2_1,5,none⟩))] ?_)))))))
 refine sqld 0 hst7 ?_
 refine sqp [.k 39 (vi ((n:Int))), .k 40 (.bool (decide (0 < (n:Int)))), .m 4 40] ?_
 refine then_normal (wp_ret ?_)
 refine bpr (.bool (decide (0 < (n:Int)))) (results_1 Try.results101 rpt) ?_
 exact Ret.bool (by rw [ldF,hn,show n=i by omega,hall,Bool.true_and]) hst7.ext
/-- right: what fails at a node -/
def rgA (n:NoD) (last:Bool) (lo:ByteArray):Bool:=n.dead||decide (8 < (n.es.length:Int))||(last != (n.high.toList==(⟨#[]⟩:ByteArray).toList))||(last != decide (n.right < 0))||!(srF n.high lo n.es)
def rgB (n:NoD) (i:Nat) (Lb:List (Int×NoD)):Bool:=decide (0 < n.lv)&&(!(ldF Lb n.es)||(((i:Int)==0)&&((n.es.getD 0 en0).2.2 != (Lb.getD 0 (0,nodZ)).1)))
def rgC (n:NoD) (lo:ByteArray):Bool:=(neB lo&&neB n.high)&&lessF n.high lo
def lowF (L:List (Int×NoD)) (i:Nat):ByteArray:=if i=0 then ⟨#[]⟩ else (L.getD (i - 1) (0,nodZ)).2.high
def rgX (L Lb:List (Int×NoD)) (i:Nat):Bool:=rgA (L.getD i (0,nodZ)).2 ((i:Int)==(L.length:Int) - 1) (lowF L i)||rgB (L.getD i (0,nodZ)).2 i Lb||rgC (L.getD i (0,nodZ)).2 (lowF L i)
def rgF (L Lb:List (Int×NoD)):Bool:=((List.range L.length).all fun i=>!rgX L Lb i)&&(decide (0 < (L.length:Int))&&decide ((L.length:Int)≤400))
theorem ld_pos {L:List (Int×NoD)} {es:List EnD} (h:ldF L es=true):0 < L.length∧0 < es.length:=by
 rw [ldF,Bool.and_eq_true] at h
 have h2:0 < es.length:=by have:=of_decide_eq_true h.2; omega
 refine ⟨?_,h2⟩
 have h1:=List.all_eq_true.1 h.1 0 (List.mem_range.2 h2)
 have h3:ldS L (es.getD 0 en0)=false:=by simpa using h1
 rw [ldS,Bool.or_eq_false_iff] at h3
 have h4:=of_decide_eq_false h3.1
 have h5:=idxP_lt (fun m:Int×NoD=>m.1==(es.getD 0 en0).2.2) L 0 (by omega)
 rw [ldI] at h4
 omega
theorem rgx_eq {xs ys:List YnD} {i:Nat} {y:YnD} {lo:ByteArray} (h:(xs.map pgN).getD i (0,nodZ)=pgN y) (hl:lo=lowF (xs.map pgN) i):rgX (xs.map pgN) (ys.map pgN) i=(rgA y.1 ((i:Int)==(xs.length:Int) - 1) lo||rgB y.1 i (ys.map pgN)||rgC y.1 lo):=by rw [rgX,h,← hl,List.length_map]; rfl
theorem low_sz {xs:List YnD} (h:∀ y∈xs,NdOk y.1) (i:Nat):(lowF (xs.map pgN) i).size≤900000:=by
 unfold lowF; split
 ·exact Nat.zero_le _
 ·rw [getD_pgN,List.getD_eq_getElem?_getD]
  cases hx:xs[i - 1]? with
  | none=>exact Nat.zero_le _
  | some y=>exact (h y (List.mem_of_getElem? hx)).hi
theorem kright_g (SA BA:Option Addr) (sc bc:Nat) (xs ys:List YnD) (w:World) (hS:At w SA (xs.flatMap ynC)) (hR:∀ y∈xs,At w y.2.2.1 (y.1.es.flatMap enC)) (hB:At w BA (ys.flatMap ynC)) (hN:∀ y∈xs,NdOk y.1) (hxl:xs.length≤1000) (hyl:ys.length≤1000):
  Calls Try.prog 73 #[.slice SA xs.length sc, .slice BA ys.length bc] w (Ret (.bool (rgF (xs.map pgN) (ys.map pgN))) w):=by
 go_enter Try.func73,Try.ntmps73
 have hst0:=St.start w
 refine wp_seq (sqr (sqp [.k 4 (.bool false)] ?_))
 refine then_normal (wp_seq (sqr (sqp [.k 5 (.string ⟨#[]⟩)] ?_)))
 refine then_normal (wp_seq (wp_seq (sqr (sqp [.m 9 0, .k 10 (vi ((xs.length:Int))), .k 11 (vi 0)] ?_))))
 refine then_normal (wp_block ?_)
 refine wp_loopT (fun t_ mz az W=>∃ i:Nat,∃ lo:ByteArray,i≤xs.length∧lo=lowF (xs.map pgN) i∧(List.range i).all (fun i=>!rgX (xs.map pgN) (ys.map pgN) i)=true∧mz=xs.length - i∧az=⟨(ovr (jv az) [(4,4,1,[.string lo]),(0,6,3,[]),(2,11,0,[vi ((i:Int))]),(0,12,73,[])] t_).toArray,[]⟩∧St w [] [] W) (xs.length - 0) ?_ ?_
 · -- the loop begins
   exact ⟨0,(⟨#[]⟩:ByteArray),Nat.zero_le _,rfl,rfl,rfl,(by kernel_rfl),hst0.pk []⟩
 rintro n6 a6 W6 ⟨i,lo,hi,hlo,hall,rfl,hj_,hst6⟩
 refine ovz hj_ fun u6_=>?_
 refine wp_seq (sqr (sqp [.k 12 (.bool (decide ((i:Int) < (xs.length:Int))))] ?_))
 refine then_normal (wp_seq (wds (fun hs8 hs8p=>?_) fun hs8 hs8p=>?_))
 ·refine wp_skip (then_normal (wp_seq (wp_block (wp_seq ?_))))
  obtain ⟨y_,hy_⟩:∃ z,xs[i]? =some z:=⟨_,yn_get (by omega)⟩
  have hym_:=List.mem_of_getElem? hy_
  have hRy:=hR y_ hym_
  have hNy:=hN y_ hym_
  have hN1:=hNy.len
  have hN2:=hNy.lv
  have hN3:=hNy.rt
  have hN4:=hNy.hi
  have hNz:∀ e∈y_.1.es,e.1.size≤1000000:=fun e he=>Nat.le_trans (hNy.es e he) (by decide)
  have hloz:lo.size≤900000:=by rw [hlo]; exact low_sz hN i
  have hgd:(xs.map pgN).getD i (0,nodZ)=pgN y_:=by rw [getD_pgN,List.getD_eq_getElem?_getD,hy_]; rfl
  refine sqr (sqp [.m 13 11] ?_)
  refine sql (.pointer (some ((ad SA).add (i*7)))) hst6 (fun cx=>run_indexSlM (e:=116) (m:=i) (sz:=7) rfl (by kernel_rfl) (by kernel_rfl) (cx.ou 9) (cx.ou 11) (by omega) (by omega) (hS.ext cx.upd.to_ext) (flatPos (sz:=7) ynC_len (by decide) (by omega))) ?_
  refine sql (.agg #[vi y_.2.1,vi y_.1.lv,vi y_.1.right, .string y_.1.high, .bool y_.1.dead, .slice y_.2.2.1 y_.1.es.length y_.2.2.2,vi ((y_.1.free:Int))]) hst6 (fun cx=>run_loadElt (f:=ynC) (m:=i) (sz:=7) (off:=0) (n:=7) rfl (by kernel_rfl) (by kernel_rfl) (cx.ou 14) rfl ynC_len (hS.ext cx.upd.to_ext) hy_ (fun k hk=>match k,hk with | 0, _=>rfl | 1, _=>rfl | 2, _=>rfl | 3, _=>rfl | 4, _=>rfl | 5, _=>rfl | 6, _=>rfl | k+7,hk=>absurd hk (by omega))) ?_
  refine sqal #[vi 0,vi 0,vi 0, .string ByteArray.empty, .bool false, .slice none 0 0,vi 0] hst6 fun B7_12 W12 hst12=>?_
  refine sqp [.m 6 13] ?_
  refine sqst (n:=7) 0 #[vi y_.2.1,vi y_.1.lv,vi y_.1.right, .string y_.1.high, .bool y_.1.dead, .slice y_.2.2.1 y_.1.es.length y_.2.2.2,vi ((y_.1.free:Int))] hst12 fun W14 hst14=>?_
  refine then_normal (wp_seq (sqr (sqp [.m 16 6, .m 17 0, .k 18 (vi ((xs.length:Int))),sI 19 ((xs.length:Int) - 1) (by omega), .k 20 (.bool ((i:Int)==((xs.length:Int) - 1))), .m 8 20] ?_)))
  refine then_normal (wp_seq (wp_block (wp_seq (wp_seq (sqr (sqp [.k 22 (.pointer (some ⟨B7_12,4,none⟩))] ?_))))))
  refine sqld 0 hst14 ?_
  refine sqp [.m 21 23] ?_
  refine then_normal (wbs (fun hs24=>?_) fun hs24=>?_)
  ·refine wp_skip (then_normal (wct hs24 (wp_seq (sqr (sqp [.k 4 (.bool false)] ?_)))))
   refine then_normal (wp_ret (blk_ret (then_ret (blk_ret (then_ret (then_ret (blk_ret (then_ret ?_))))))))
   refine bpr (.bool false) (results_1 Try.results73 rpt) ?_
   exact Ret.bool (by rw [rgF,all_fail (i:=i) (by rw [List.length_map]; omega) (by rw [rgx_eq hgd hlo]; simp only [rgA,rgB,rgC,neB,bne,getD_pgN,pgN,hs24,Bool.or_false,Bool.false_or,Bool.not_true,Bool.not_false,Bool.or_true,Bool.true_or,Bool.and_true,Bool.true_and,Bool.and_false,Bool.false_and]),Bool.false_and]) hst14.ext
  refine wp_seq (sqr (sqp [.k 24 (.pointer (some ⟨B7_12,5,none⟩))] ?_))
  refine sqld 0 hst14 ?_
  refine sqp [.k 26 (vi ((y_.1.es.length:Int))), .k 27 (.bool (decide (8 < (y_.1.es.length:Int)))), .m 21 27] ?_
  refine then_normal (wds (fun hs31 hs31p=>?_) fun hs31 hs31p=>?_)
  ·refine wp_skip (then_normal (wct hs31 (wp_seq (sqr (sqp [.k 4 (.bool false)] ?_)))))
   refine then_normal (wp_ret (blk_ret (then_ret (blk_ret (then_ret (then_ret (blk_ret (then_ret ?_))))))))
   refine bpr (.bool false) (results_1 Try.results73 rpt) ?_
   exact Ret.bool (by rw [rgF,all_fail (i:=i) (by rw [List.length_map]; omega) (by rw [rgx_eq hgd hlo]; simp only [rgA,rgB,rgC,neB,bne,getD_pgN,pgN,hs24,hs31,Bool.or_false,Bool.false_or,Bool.not_true,Bool.not_false,Bool.or_true,Bool.true_or,Bool.and_true,Bool.true_and,Bool.and_false,Bool.false_and]),Bool.false_and]) hst14.ext
  refine wp_seq (sqr (sqp [.m 28 8, .k 29 (.pointer (some ⟨B7_12,3,none⟩))] ?_))
  refine sqld 0 hst14 ?_
  refine sqp [.k 31 (.bool (y_.1.high.toList==((⟨#[]⟩:ByteArray)).toList))] ?_
  refine sqv (.bool (!(((i:Int)==((xs.length:Int) - 1))==(y_.1.high.toList==((⟨#[]⟩:ByteArray)).toList)))) hst14 (by
    exact sv0 rfl rfl rfl rfl rfl (fun _ _ _ h=>h) fun ρ β W X cx=>by
     have fF28:ρ (.tmp 28)= .bool ((i:Int)==((xs.length:Int) - 1)):=(cx.ou 28)
     have fF31:ρ (.tmp 31)= .bool (y_.1.high.toList==((⟨#[]⟩:ByteArray)).toList):=(cx.ou 31)
     simp [go_sem,fF28,fF31]) fun W37 hst37=>?_
  refine sqp [.m 21 32] ?_
  refine then_normal ?_
  rcases Bool.eq_false_or_eq_true (((i:Int)==((xs.length:Int) - 1))==(y_.1.high.toList==((⟨#[]⟩:ByteArray)).toList)) with hs39 | hs39
  ·refine wp_cond_false (show Act.eval _ _= .bool false from (congrArg Value.bool (by rw [hs39]; rfl))) (wp_seq (sqr (sqp [.m 33 8, .k 34 (.pointer (some ⟨B7_12,2,none⟩))] ?_)))
   refine sqld 0 hst37 ?_
   refine sqp [.k 36 (.bool (decide (y_.1.right < 0)))] ?_
   refine sqv (.bool (!(((i:Int)==((xs.length:Int) - 1))==(decide (y_.1.right < 0))))) hst37 (by
     exact sv0 rfl rfl rfl rfl rfl (fun _ _ _ h=>h) fun ρ β W X cx=>by
      have fF33:ρ (.tmp 33)= .bool ((i:Int)==((xs.length:Int) - 1)):=(cx.ou 33)
      have fF36:ρ (.tmp 36)= .bool (decide (y_.1.right < 0)):=(cx.ou 36)
      simp [go_sem,fF33,fF36]) fun W44 hst44=>?_
   refine sqp [.m 21 37] ?_
   refine then_normal ?_
   rcases Bool.eq_false_or_eq_true (((i:Int)==((xs.length:Int) - 1))==(decide (y_.1.right < 0))) with hs46 | hs46
   ·have hs46p:=beq_iff_eq.1 hs46
    refine wp_cond_false (show Act.eval _ _= .bool false from (congrArg Value.bool (by rw [hs46]; rfl))) (sqr ?_)
    refine sqlb 0 7 hst44 ?_
    refine sqp [.m 39 5] ?_
    refine sqk (.bool (srF y_.1.high lo y_.1.es)) hst44 (fun cx=>⟨_,ksorted_g _ _ _ _ _ _ _ _ _ y_.1.es lo _ (hRy.ext cx.upd.to_ext) rfl (by omega) hNz (by omega) (by omega),(map2 (cx.ou 38) (cx.ou 39))⟩) fun W49 hst49=>?_
    refine sqp [.k 41 (.bool (!(srF y_.1.high lo y_.1.es))), .m 21 41] ?_
    refine then_normal ?_
    rcases Bool.eq_false_or_eq_true (srF y_.1.high lo y_.1.es) with hs52 | hs52
    ·refine wp_cond_false (show Act.eval _ _= .bool false from (congrArg Value.bool (by rw [hs52]; rfl))) (wp_seq ?_)
     rcases hlv_:decide (0 < y_.1.lv) with _ | _
     rotate_left
     rcases hlq_:ldF (ys.map pgN) y_.1.es with _ | _
     ·refine wp_region_Z [0,1,3,7,15,15,63,127,255,511,1023,2047,4095,8191,16383,32767,65535,4095,135167,397311,921599,2097151,4194303,8388607,16777215,33554431] [[],[0],[],[],[0]] [.k 43 (.pointer (some ⟨B7_12,1,none⟩)), .c 44 (vi y_.1.lv), .e 45 (.bool (decide (0 < y_.1.lv))) (.bool true) (congrArg Value.bool hlv_), .k 46 (.bool true), .c 47 (.agg #[vi y_.2.1,vi y_.1.lv,vi y_.1.right, .string y_.1.high, .bool y_.1.dead, .slice y_.2.2.1 y_.1.es.length y_.2.2.2,vi ((y_.1.free:Int))]), .k 48 (.slice BA ys.length bc), .c 49 (.bool false), .k 50 (.bool true), .k 51 (.bool true), .u 52, .u 53, .u 54, .u 55, .u 56, .u 57, .u 58, .u 59, .u 60, .u 61, .u 62, .u 63, .u 64, .u 65, .k 66 (.bool true), .k 67 (.bool true), .k 42 (.bool true)] [0] [1,4,6] [(42,25,1,43),(0,0,25,25)] hst49 ?_ fun W53 hst53=>?_
      ·refine ⟨?_,?_,?_,trivial⟩
       ·exact xs4 rfl id fun cx=>run_load1 rfl (by kernel_rfl) (cx.an 0) ((cx.bi 0 rfl).cell 1)
       ·exact xs5 rfl id (fun cx=>(cx.an 3)) fun cx=>run_loadB (n:=7) rfl (by kernel_rfl) (by kernel_rfl) (cx.ou 7) (cx.bi 0 rfl) (nle rfl) rfl
       ·exact sv_call_on rfl rfl rfl rfl rfl rfl (fun _ _ _ h=>h.trans (congrArg Value.bool hlq_)) (fun _ _ _ _ cx=>(cx.an 3)) fun ρ β W X cx=>⟨_, _,run_callF (args:=#[.agg #[vi y_.2.1,vi y_.1.lv,vi y_.1.right, .string y_.1.high, .bool y_.1.dead, .slice y_.2.2.1 y_.1.es.length y_.2.2.2,vi ((y_.1.free:Int))], .slice BA ys.length bc]) rfl cx.sees rfl (by kernel_rfl) (map2 (cx.an 4) (cx.an 5)),kleads_g _ _ _ _ _ _ _ _ _ y_.1.es BA bc ys _ (hRy.ext cx.upd.to_ext) rfl (by omega) (hB.ext cx.upd.to_ext) (by omega)⟩
      refine then_normal (wct rfl (wp_seq (sqr (sqp [.k 4 (.bool false)] ?_))))
      refine then_normal (wp_ret (blk_ret (then_ret (blk_ret (then_ret (then_ret (blk_ret (then_ret ?_))))))))
      refine bpr (.bool false) (results_1 Try.results73 rpt) ?_
      exact Ret.bool (by rw [rgF,all_fail (i:=i) (by rw [List.length_map]; omega) (by rw [rgx_eq hgd hlo]; simp only [rgA,rgB,rgC,neB,bne,getD_pgN,pgN,hs24,hs31,hs39,hs46,hs52,hlv_,hlq_,Bool.or_false,Bool.false_or,Bool.not_true,Bool.not_false,Bool.or_true,Bool.true_or,Bool.and_true,Bool.true_and,Bool.and_false,Bool.false_and]),Bool.false_and]) hst53.ext
     ·have hlp_:=ld_pos hlq_
      rw [List.length_map] at hlp_
      have hlp1_:=hlp_.1
      have hlp2_:=hlp_.2
      refine wp_region_Z [0,1,3,7,15,15,63,127,255,511,1023,2047,4095,8191,16383,32767,65535,4095,135167,397311,921599,2097151,4194303,8388607,16777215,33554431] [[],[0],[],[],[0],[],[],[],[],[],[],[],[],[0]] [.k 43 (.pointer (some ⟨B7_12,1,none⟩)), .c 44 (vi y_.1.lv), .e 45 (.bool (decide (0 < y_.1.lv))) (.bool true) (congrArg Value.bool hlv_), .k 46 (.bool true), .c 47 (.agg #[vi y_.2.1,vi y_.1.lv,vi y_.1.right, .string y_.1.high, .bool y_.1.dead, .slice y_.2.2.1 y_.1.es.length y_.2.2.2,vi ((y_.1.free:Int))]), .k 48 (.slice BA ys.length bc), .c 49 (.bool true), .k 50 (.bool false), .k 51 (.bool false), .k 52 (vi ((i:Int))), .k 53 (.bool ((i:Int)==0)), .k 54 (.bool ((i:Int)==0)), .z 55 ((i:Int)==0) (.pointer (some ⟨B7_12,5,none⟩)), .y 56 ((i:Int)==0) (.slice y_.2.2.1 y_.1.es.length y_.2.2.2), .y 57 ((i:Int)==0) (.pointer (some ((ad y_.2.2.1).add (0*3)))), .y 58 ((i:Int)==0) (.pointer (some ((ad y_.2.2.1).add (0*3+2)))), .y 59 ((i:Int)==0) (vi ((y_.1.es.getD 0 en0).2.2)), .z 60 ((i:Int)==0) (.slice BA ys.length bc), .y 61 ((i:Int)==0) (.pointer (some ((ad BA).add (0*7)))), .y 62 ((i:Int)==0) (.pointer (some ((ad BA).add (0*7+0)))), .y 63 ((i:Int)==0) (vi ((ys.getD 0 yn0).2.1)), .z 64 ((i:Int)==0) (.bool (((y_.1.es.getD 0 en0).2.2) != ((ys.getD 0 yn0).2.1))),tA 65 ((i:Int)==0) (((y_.1.es.getD 0 en0).2.2) != ((ys.getD 0 yn0).2.1)), .k 66 (.bool (((i:Int)==0)&&(((y_.1.es.getD 0 en0).2.2) != ((ys.getD 0 yn0).2.1)))), .k 67 (.bool (((i:Int)==0)&&(((y_.1.es.getD 0 en0).2.2) != ((ys.getD 0 yn0).2.1)))), .k 42 (.bool (((i:Int)==0)&&(((y_.1.es.getD 0 en0).2.2) != ((ys.getD 0 yn0).2.1))))] [0] [1,4,6,13,14,15,16,18,19,20] [(42,25,1,43),(0,0,25,25)] hst49 ?_ fun W55 hst55=>?_
      ·refine ⟨?_,?_,?_,?_,?_,?_,?_,?_,?_,?_,trivial⟩
       ·exact xs4 rfl id fun cx=>run_load1 rfl (by kernel_rfl) (cx.an 0) ((cx.bi 0 rfl).cell 1)
       ·exact xs5 rfl id (fun cx=>(cx.an 3)) fun cx=>run_loadB (n:=7) rfl (by kernel_rfl) (by kernel_rfl) (cx.ou 7) (cx.bi 0 rfl) (nle rfl) rfl
       ·exact sv_call_on rfl rfl rfl rfl rfl rfl (fun _ _ _ h=>h.trans (congrArg Value.bool hlq_)) (fun _ _ _ _ cx=>(cx.an 3)) fun ρ β W X cx=>⟨_, _,run_callF (args:=#[.agg #[vi y_.2.1,vi y_.1.lv,vi y_.1.right, .string y_.1.high, .bool y_.1.dead, .slice y_.2.2.1 y_.1.es.length y_.2.2.2,vi ((y_.1.free:Int))], .slice BA ys.length bc]) rfl cx.sees rfl (by kernel_rfl) (map2 (cx.an 4) (cx.an 5)),kleads_g _ _ _ _ _ _ _ _ _ y_.1.es BA bc ys _ (hRy.ext cx.upd.to_ext) rfl (by omega) (hB.ext cx.upd.to_ext) (by omega)⟩
       ·exact m2 rfl (fun _ _ _ h=>h) (fun cx=>(cx.an 11)) fun cx hq=>run_load1 rfl (by kernel_rfl) (mbv (cx.an 12) hq) ((cx.bi 0 rfl).cell 5)
       ·exact m2 rfl (fun _ _ _ h=>h) (fun cx=>(cx.an 11)) fun cx hq=>run_indexSlM (e:=104) (m:=0) (sz:=3) rfl (by kernel_rfl) (by kernel_rfl) (mbv (cx.an 13) hq) (cx.co _) (by have hq_:=hq; simp only [zB] at hq_; omega) (by have hq_:=hq; simp only [zB] at hq_; omega) (hRy.ext cx.upd.to_ext) (flatPos (sz:=3) enC_len (by decide) (by have hq_:=hq; simp only [zB] at hq_; omega))
       ·exact m2 rfl (fun _ _ _ h=>h) (fun cx=>(cx.an 11)) fun cx hq=>run_fieldAd rfl (by kernel_rfl) (mbv (cx.an 14) hq)
       ·exact m2 rfl (fun _ _ _ h=>h) (fun cx=>(cx.an 11)) fun cx hq=>run_load1 rfl (by kernel_rfl) (mbv (cx.an 15) hq) (At.eltc (f:=enC) (k:=2) enC_len (hRy.ext cx.upd.to_ext) (en_get (by have hq_:=hq; simp only [zB] at hq_; omega)) rfl)
       ·exact m2 rfl (fun _ _ _ h=>h) (fun cx=>(cx.an 11)) fun cx hq=>run_indexSlM (e:=116) (m:=0) (sz:=7) rfl (by kernel_rfl) (by kernel_rfl) (mbv (cx.an 17) hq) (cx.co _) (by have hq_:=hq; simp only [zB] at hq_; omega) (by have hq_:=hq; simp only [zB] at hq_; omega) (hB.ext cx.upd.to_ext) (flatPos (sz:=7) ynC_len (by decide) (by have hq_:=hq; simp only [zB] at hq_; omega))
       ·exact m2 rfl (fun _ _ _ h=>h) (fun cx=>(cx.an 11)) fun cx hq=>run_fieldAd rfl (by kernel_rfl) (mbv (cx.an 18) hq)
       ·exact m2 rfl (fun _ _ _ h=>h) (fun cx=>(cx.an 11)) fun cx hq=>run_load1 rfl (by kernel_rfl) (mbv (cx.an 19) hq) (At.eltc (f:=ynC) (k:=0) ynC_len (hB.ext cx.upd.to_ext) (yn_get (by have hq_:=hq; simp only [zB] at hq_; omega)) rfl)
      refine then_normal (wbs (fun hs56=>?_) fun hs56=>?_)
      ·have hs56p:=hs56
       simp only [zB] at hs56p
       obtain ⟨hs56p1,hs56p2⟩:=hs56p
       refine wp_seq (sqr (sqp [.k 4 (.bool false)] ?_))
       refine then_normal (wp_ret (blk_ret (then_ret (blk_ret (then_ret (then_ret (blk_ret (then_ret ?_))))))))
       refine bpr (.bool false) (results_1 Try.results73 rpt) ?_
       simp only [bne] at hs56
       exact Ret.bool (by rw [rgF,all_fail (i:=i) (by rw [List.length_map]; omega) (by rw [rgx_eq hgd hlo]; simp only [rgA,rgB,rgC,neB,bne,getD_pgN,pgN,hs24,hs31,hs39,hs46,hs52,hlv_,hlq_,hs56,Bool.or_false,Bool.false_or,Bool.not_true,Bool.not_false,Bool.or_true,Bool.true_or,Bool.and_true,Bool.true_and,Bool.and_false,Bool.false_and]),Bool.false_and]) hst55.ext
      have hs56p:=hs56
      simp only [zB] at hs56p
      refine wp_seq (sqr (sqp [.m 69 5, .k 70 (.bool (!(lo.toList==((⟨#[]⟩:ByteArray)).toList))), .m 71 70] ?_))
      refine sqw' 71 [72,73,74] ?_ rfl (fun hq=>?_) ?_
      rotate_left
      ·refine sqp [.k 72 (.pointer (some ⟨B7_12,3,none⟩))] ?_
       refine sqld 0 hst55 ?_
       refine sqp [.k 74 (.bool (!(y_.1.high.toList==((⟨#[]⟩:ByteArray)).toList)))] ?_
       exact sqe
      refine sqwx ?_
      refine sqp [sPa 75 (!(lo.toList==((⟨#[]⟩:ByteArray)).toList)) (!(y_.1.high.toList==((⟨#[]⟩:ByteArray)).toList)), .m 76 75] ?_
      refine sqwW 76 [77,78,79,80] ?_ hst55 rfl (fun hq=>?_) fun W70 hst70=>?_
      rotate_left
      ·have hq_:=hq
       try simp only [zB] at hq_
       refine sqp [.k 77 (.pointer (some ⟨B7_12,3,none⟩))] ?_
       refine sqld 0 hst55 ?_
       refine sqp [.m 79 5] ?_
       refine sqk (.bool (lessF y_.1.high lo)) hst55 (fun cx=>⟨_,kless_any y_.1.high lo _ (by omega) (by omega),(map2 (cx.ou 78) (cx.ou 79))⟩) fun W69 hst69=>?_
       exact sqE hst69
      refine sqwx ?_
      refine sqp [sPa 81 ((!(lo.toList==((⟨#[]⟩:ByteArray)).toList))&&(!(y_.1.high.toList==((⟨#[]⟩:ByteArray)).toList))) (lessF y_.1.high lo), .m 68 81] ?_
      refine then_normal (wbs (fun hs73=>?_) fun hs73=>?_)
      ·have hs73p:=hs73
       simp only [zB] at hs73p
       obtain ⟨⟨hs73p1,hs73p2⟩,hs73p3⟩:=hs73p
       refine wp_seq (sqr (sqp [.k 4 (.bool false)] ?_))
       refine then_normal (wp_ret (blk_ret (then_ret (blk_ret (then_ret (then_ret (blk_ret (then_ret ?_))))))))
       refine bpr (.bool false) (results_1 Try.results73 rpt) ?_
       simp only [bne] at hs56
       exact Ret.bool (by rw [rgF,all_fail (i:=i) (by rw [List.length_map]; omega) (by rw [rgx_eq hgd hlo]; simp only [rgA,rgB,rgC,neB,bne,getD_pgN,pgN,hs24,hs31,hs39,hs46,hs52,hlv_,hlq_,hs56,hs73,Bool.or_false,Bool.false_or,Bool.not_true,Bool.not_false,Bool.or_true,Bool.true_or,Bool.and_true,Bool.true_and,Bool.and_false,Bool.false_and]),Bool.false_and]) hst70.ext
      have hs73p:=hs73
      simp only [zB] at hs73p
      refine wp_skip (blk_normal (then_normal (sqr (sqp [.k 82 (.pointer (some ⟨B7_12,3,none⟩))] ?_))))
      refine sqld 0 hst70 ?_
      refine sqp [.m 5 83] ?_
      refine blk_normal (then_normal (sqr (sqp [sI 84 ((i:Int)+1) (by omega), .m 11 84] ?_)))
      refine then_normal ?_
      simp only [bne] at hs56
      refine ⟨xs.length - ((i+1)),by omega,?_⟩
      exact ⟨(i+1),y_.1.high,by omega,by rw [lowF,if_neg (by omega),Nat.add_sub_cancel,hgd]; rfl,all_step hall (by rw [rgx_eq hgd hlo]; simp only [rgA,rgB,rgC,neB,bne,getD_pgN,pgN,hs24,hs31,hs39,hs46,hs52,hlv_,hlq_,hs56,hs73,Bool.or_false,Bool.false_or,Bool.not_true,Bool.not_false,Bool.or_true,Bool.true_or,Bool.and_true,Bool.true_and,Bool.and_false,Bool.false_and]),rfl,(by kernel_rfl),hst70.pk []⟩
     ·refine wp_region_Z [0,1,3,7,15,15,63,127,255,511,1023,2047,4095,8191,16383,32767,65535,4095,135167,397311,921599,2097151,4194303,8388607,16777215,33554431] [[],[0]] [.k 43 (.pointer (some ⟨B7_12,1,none⟩)), .c 44 (vi y_.1.lv), .e 45 (.bool (decide (0 < y_.1.lv))) (.bool false) (congrArg Value.bool hlv_), .k 46 (.bool false), .u 47, .u 48, .u 49, .u 50, .u 51, .u 52, .u 53, .u 54, .u 55, .u 56, .u 57, .u 58, .u 59, .u 60, .u 61, .u 62, .u 63, .u 64, .u 65, .u 66, .k 67 (.bool false), .k 42 (.bool false)] [0] [1] [(42,25,1,43),(0,0,25,25)] hst49 ?_ fun W80 hst80=>?_
      ·refine ⟨?_,trivial⟩
       ·exact xs4 rfl id fun cx=>run_load1 rfl (by kernel_rfl) (cx.an 0) ((cx.bi 0 rfl).cell 1)
      refine then_normal (wcf rfl (wp_seq (sqr (sqp [.m 69 5, .k 70 (.bool (!(lo.toList==((⟨#[]⟩:ByteArray)).toList))), .m 71 70] ?_))))
      refine sqw' 71 [72,73,74] ?_ rfl (fun hq=>?_) ?_
      rotate_left
      ·refine sqp [.k 72 (.pointer (some ⟨B7_12,3,none⟩))] ?_
       refine sqld 0 hst80 ?_
       refine sqp [.k 74 (.bool (!(y_.1.high.toList==((⟨#[]⟩:ByteArray)).toList)))] ?_
       exact sqe
      refine sqwx ?_
      refine sqp [sPa 75 (!(lo.toList==((⟨#[]⟩:ByteArray)).toList)) (!(y_.1.high.toList==((⟨#[]⟩:ByteArray)).toList)), .m 76 75] ?_
      refine sqwW 76 [77,78,79,80] ?_ hst80 rfl (fun hq=>?_) fun W93 hst93=>?_
      rotate_left
      ·have hq_:=hq
       try simp only [zB] at hq_
       refine sqp [.k 77 (.pointer (some ⟨B7_12,3,none⟩))] ?_
       refine sqld 0 hst80 ?_
       refine sqp [.m 79 5] ?_
       refine sqk (.bool (lessF y_.1.high lo)) hst80 (fun cx=>⟨_,kless_any y_.1.high lo _ (by omega) (by omega),(map2 (cx.ou 78) (cx.ou 79))⟩) fun W92 hst92=>?_
       exact sqE hst92
      refine sqwx ?_
      refine sqp [sPa 81 ((!(lo.toList==((⟨#[]⟩:ByteArray)).toList))&&(!(y_.1.high.toList==((⟨#[]⟩:ByteArray)).toList))) (lessF y_.1.high lo), .m 68 81] ?_
      refine then_normal (wbs (fun hs96=>?_) fun hs96=>?_)
      ·have hs96p:=hs96
       simp only [zB] at hs96p
       obtain ⟨⟨hs96p1,hs96p2⟩,hs96p3⟩:=hs96p
       refine wp_seq (sqr (sqp [.k 4 (.bool false)] ?_))
       refine then_normal (wp_ret (blk_ret (then_ret (blk_ret (then_ret (then_ret (blk_ret (then_ret ?_))))))))
       refine bpr (.bool false) (results_1 Try.results73 rpt) ?_
       exact Ret.bool (by rw [rgF,all_fail (i:=i) (by rw [List.length_map]; omega) (by rw [rgx_eq hgd hlo]; simp only [rgA,rgB,rgC,neB,bne,getD_pgN,pgN,hs24,hs31,hs39,hs46,hs52,hlv_,hs96,Bool.or_false,Bool.false_or,Bool.not_true,Bool.not_false,Bool.or_true,Bool.true_or,Bool.and_true,Bool.true_and,Bool.and_false,Bool.false_and]),Bool.false_and]) hst93.ext
      have hs96p:=hs96
      simp only [zB] at hs96p
      refine wp_skip (blk_normal (then_normal (sqr (sqp [.k 82 (.pointer (some ⟨B7_12,3,none⟩))] ?_))))
      refine sqld 0 hst93 ?_
      refine sqp [.m 5 83] ?_
      refine blk_normal (then_normal (sqr (sqp [sI 84 ((i:Int)+1) (by omega), .m 11 84] ?_)))
      refine then_normal ?_
      refine ⟨xs.length - ((i+1)),by omega,?_⟩
      exact ⟨(i+1),y_.1.high,by omega,by rw [lowF,if_neg (by omega),Nat.add_sub_cancel,hgd]; rfl,all_step hall (by rw [rgx_eq hgd hlo]; simp only [rgA,rgB,rgC,neB,bne,getD_pgN,pgN,hs24,hs31,hs39,hs46,hs52,hlv_,hs96,Bool.or_false,Bool.false_or,Bool.not_true,Bool.not_false,Bool.or_true,Bool.true_or,Bool.and_true,Bool.true_and,Bool.and_false,Bool.false_and]),rfl,(by kernel_rfl),hst93.pk []⟩
    refine wp_cond_true (show Act.eval _ _= .bool true from (congrArg Value.bool (by rw [hs52]; rfl))) (wp_seq (sqr (sqp [.k 4 (.bool false)] ?_)))
    refine then_normal (wp_ret (blk_ret (then_ret (blk_ret (then_ret (then_ret (blk_ret (then_ret ?_))))))))
    refine bpr (.bool false) (results_1 Try.results73 rpt) ?_
    exact Ret.bool (by rw [rgF,all_fail (i:=i) (by rw [List.length_map]; omega) (by rw [rgx_eq hgd hlo]; simp only [rgA,rgB,rgC,neB,bne,getD_pgN,pgN,hs24,hs31,hs39,hs46,hs52,Bool.or_false,Bool.false_or,Bool.not_true,Bool.not_false,Bool.or_true,Bool.true_or,Bool.and_true,Bool.true_and,Bool.and_false,Bool.false_and]),Bool.false_and]) hst49.ext
   have hs46p:=beq_eq_false_iff_ne.1 hs46
   refine wp_cond_true (show Act.eval _ _= .bool true from (congrArg Value.bool (by rw [hs46]; rfl))) (wp_skip (then_normal (wp_cond_true (show Act.eval _ _= .bool true from (congrArg Value.bool (by rw [hs46]; rfl))) (wp_seq (sqr (sqp [.k 4 (.bool false)] ?_))))))
   refine then_normal (wp_ret (blk_ret (then_ret (blk_ret (then_ret (then_ret (blk_ret (then_ret ?_))))))))
   refine bpr (.bool false) (results_1 Try.results73 rpt) ?_
   exact Ret.bool (by rw [rgF,all_fail (i:=i) (by rw [List.length_map]; omega) (by rw [rgx_eq hgd hlo]; simp only [rgA,rgB,rgC,neB,bne,getD_pgN,pgN,hs24,hs31,hs39,hs46,Bool.or_false,Bool.false_or,Bool.not_true,Bool.not_false,Bool.or_true,Bool.true_or,Bool.and_true,Bool.true_and,Bool.and_false,Bool.false_and]),Bool.false_and]) hst44.ext
  refine wp_cond_true (show Act.eval _ _= .bool true from (congrArg Value.bool (by rw [hs39]; rfl))) (wp_skip (then_normal (wp_cond_true (show Act.eval _ _= .bool true from (congrArg Value.bool (by rw [hs39]; rfl))) (wp_seq (sqr (sqp [.k 4 (.bool false)] ?_))))))
  refine then_normal (wp_ret (blk_ret (then_ret (blk_ret (then_ret (then_ret (blk_ret (then_ret ?_))))))))
  refine bpr (.bool false) (results_1 Try.results73 rpt) ?_
  exact Ret.bool (by rw [rgF,all_fail (i:=i) (by rw [List.length_map]; omega) (by rw [rgx_eq hgd hlo]; simp only [rgA,rgB,rgC,neB,bne,getD_pgN,pgN,hs24,hs31,hs39,Bool.or_false,Bool.false_or,Bool.not_true,Bool.not_false,Bool.or_true,Bool.true_or,Bool.and_true,Bool.true_and,Bool.and_false,Bool.false_and]),Bool.false_and]) hst37.ext
 refine wp_exit (then_exit (then_exit (blk_eq (then_normal (wp_seq (sqr (sqp [.m 85 0, .k 86 (vi ((xs.length:Int))), .k 87 (.bool (decide (0 < (xs.length:Int)))), .m 88 87] ?_)))))))
 refine sqw 88 [89,90,91] rfl (fun _=>sqp [.m 89 0, .k 90 (vi ((xs.length:Int))), .k 91 (.bool (decide ((xs.length:Int)≤400)))] sqe) ?_
 refine sqp [sPa 92 (decide (0 < (xs.length:Int))) (decide ((xs.length:Int)≤400)), .m 4 92] ?_
 refine then_normal (wp_ret ?_)
 refine bpr (.bool ((decide (0 < (xs.length:Int)))&&(decide ((xs.length:Int)≤400)))) (results_1 Try.results73 rpt) ?_
 exact Ret.bool (by rw [rgF,List.length_map,show xs.length=i by omega,hall,Bool.true_and]) hst6.ext
end
section
open Go.RowKit
/-- the level below -/
def belowL (ps:List PgS) (root:Int):Nat→List (Int×NoD)
 | 0=>[]
 | k+1=>rowF ps root (k:Int)
/-- what fails at a level -/
def ckX (ps:List PgS) (root h:Int) (k:Nat):Bool:=(((k:Int)==h)&&(((rowF ps root (k:Int)).length:Int) != 1))||(decide (0 < (k:Int))&&(((belowL ps root k).length:Int)==0))||!(rgF (rowF ps root (k:Int)) (belowL ps root k))
def checkF (ps:List PgS) (root:Int):Int:=match ndAt ps root with
 | none=>22
 | some n=>if ((List.range (n.lv+1).toNat).all fun k=>!ckX ps root n.lv k) then 0 else 11
theorem row_nd {ps:List PgS} {root lv:Int}:∀ y∈rowF ps root lv,ndAt ps y.1=some y.2∧y.2.lv=lv:=fun y hy=>by
 unfold rowF at hy
 split at hy
 ·cases hy
 ·exact chn_at y hy
theorem below_len (ps:List PgS) (root:Int) (k:Nat):(belowL ps root k).length≤1000:=by
 cases k with
 | zero=>exact Nat.zero_le _
 | succ k=>exact row_len _ _ _
theorem kright_cl {SA BA:Option Addr} {sc bc:Nat} {L Lb:List (Int×NoD)} {fp fq:List Nat} {w:World} (h:(eCL SA L fp).holds w) (hb:(eCL BA Lb fq).holds w) (hN:∀ y∈L,NdOk y.2) (hl:L.length≤1000) (hlb:Lb.length≤1000):
  Calls Try.prog 73 #[.slice SA L.length sc, .slice BA Lb.length bc] w (Ret (.bool (rgF L Lb)) w):=by
 obtain ⟨xs,rfl, _,h1,h2⟩:=h
 obtain ⟨ys,rfl, _,h3, _⟩:=hb
 rw [List.length_map] at hl hlb ⊢
 rw [List.length_map]
 exact kright_g SA BA sc bc xs ys w h1 (fun y hy=>(h2 y hy).2) h3 (fun y hy=>hN (pgN y) (List.mem_map.2 ⟨y,hy,rfl⟩)) hl hlb
theorem St.cl0 {w W:World} {bor:List Nat} {L:List Ent} (h:St w bor L W):St w bor (L++[eCL none [] []]) W:=by
 refine ⟨h.upd,fun e he=>?_,List.pairwise_append.2 ⟨h.apart,List.pairwise_singleton _ _,fun a ha b hb k hk hkb=>?_⟩⟩
 ·rcases List.mem_append.1 he with he | he
  ·exact h.ok e he
  ·rw [List.mem_singleton] at he; subst he
   exact ⟨⟨[],rfl,(fun ad e=>nomatch e),At.nil _ _,fun y hy=>absurd hy (by simp)⟩,eCL_loc _ _ _,fun k hk=>by simp [eCL] at hk⟩
 ·rw [List.mem_singleton] at hb; subst hb; simp [eCL] at hkb
theorem ck_ok {ps:List PgS} {root:Int} {n:NoD} (h:ndAt ps root=some n) {k:Nat} (hk:(k:Int)=n.lv+1) (ha:(List.range k).all (fun k=>!ckX ps root n.lv k)=true):(0:Int)=checkF ps root:=by
 rw [checkF,h]
 dsimp only
 rw [show (n.lv+1).toNat=k by omega,if_pos ha]
theorem ck_bad {ps:List PgS} {root:Int} {n:NoD} (h:ndAt ps root=some n) {k:Nat} (hk:(k:Int) < n.lv+1) (ha:ckX ps root n.lv k=true):(11:Int)=checkF ps root:=by
 rw [checkF,h]
 dsimp only
 rw [all_fail (i:=k) (by omega) (by rw [ha]; rfl)]; rfl
theorem ck_none {ps:List PgS} {root:Int} (h:ndAt ps root=none):(22:Int)=checkF ps root:=by rw [checkF,h]
theorem kcheck_g (tt:TypeId) (tv:Value) (root:Int) (ps:List PgS) (w:World) (hS:PgsOk w tt tv ps) (hok:OkS ps) (hoc:OkC ps):
  Calls Try.prog 37 #[.iface tt (tv), .int .i64 root] w (Ret (.int .i64 (checkF ps root)) w):=by
 go_enter Try.func37,Try.ntmps37
 have hst0:=St.start w
 refine wp_seq (sqr (sqp [.k 4 (vi 0)] ?_))
 refine then_normal (wp_seq ?_)
 rcases hnd:ndAt ps root with _ | nd
 ·refine wp_region_Y [0,0,3,7,15,15,0,95,255] [[],[],[],[],[],[],[],[0]] [[],[],[],[],[],[],[0],[1]] [[],[],[],[],[],[],[],[0]] [.k 11 (.iface tt (tv)), .k 12 (vi root), .a 13, .a 10, .a 14, .c 15 (.bool false), .a 5, .n, .k 6 (.bool false)] (fun ix σ β X=>match ix with | 0=>True | 1=>True | 2=>σ 13= .tuple #[.agg #[vi (iv (tg (tg (β 13) 0) 0)),vi 0,vi 0, .string ((⟨#[]⟩:ByteArray)), .bool false, .slice none 0 0,vi 0], .bool false] | 3=>σ 10= .tuple #[.agg #[vi (iv (tg (tg (β 13) 0) 0)),vi 0,vi 0, .string ((⟨#[]⟩:ByteArray)), .bool false, .slice none 0 0,vi 0], .bool false] | 4=>σ 14= .agg #[vi (iv (tg (tg (β 13) 0) 0)),vi 0,vi 0, .string ((⟨#[]⟩:ByteArray)), .bool false, .slice none 0 0,vi 0] | 5=>True | 6=>σ 5=vp (pb (β 5))∧X 0=eB (pb (β 5)) 116 #[vi 0,vi 0,vi 0, .string ByteArray.empty, .bool false, .slice none 0 0,vi 0] | 7=>X 1=eB (pb (β 5)) 116 #[vi (iv (tg (tg (β 13) 0) 0)),vi 0,vi 0, .string ((⟨#[]⟩:ByteArray)), .bool false, .slice none 0 0,vi 0] | _=>True) [1] [2,3,4,5,6,7] [(5,6,3,7),(3,3,1,4),(0,0,3,3),(0,4,2,2)] hst0 ?_ ?_ ?_
  ·exact fun ix _ _ _ _ _ _ hs hb hx h=>match ix,h with
   | 2,h=>by dsimp only; rw [← hs 13 rfl,← hb 13 rfl]; exact h
   | 3,h=>by dsimp only; rw [← hs 10 rfl,← hb 13 rfl]; exact h
   | 4,h=>by dsimp only; rw [← hs 14 rfl,← hb 13 rfl]; exact h
   | 6,h=>by dsimp only; rw [← hs 5 rfl,← hb 5 rfl,← hx 0 rfl]; exact h
   | 7,h=>by dsimp only; rw [← hb 5 rfl,← hb 13 rfl,← hx 1 rfl]; exact h
   | 0, _ | 1, _ | 5, _ | _+8, _=>trivial
  ·refine ⟨?_,?_,?_,?_,?_,?_,trivial⟩
   ·refine svA fun ρ β W X cx=>?_
    refine DoesU.call (run_callF (args:=#[.iface tt (tv),vi root]) rfl cx.sees rfl (by kernel_rfl) (map2 (cx.an 0) (cx.an 1))) ?_
    refine (kd_no hnd (kat_any _ _ ps root _ (hS.ext cx.upd.to_ext) hok hoc)).mono ?_
    rintro e W1 ⟨p4,rfl,hx⟩
    refine ⟨_,rfl,post_call [] rfl rfl hx (by simp) List.Pairwise.nil (fun σ β' X' hs hb hv hN=>?_)⟩
    have hv1:=(hv 13 rfl).1; have hv2:=(hv 13 rfl).2
    exact hv1.trans (by rw [hv2]; rfl)
   ·exact sv rfl rfl rfl rfl rfl _ (fun _ _ _ h=>h) (fun β β' h=>by rw [h 13 (by decide)]) fun ρ β W X cx=>run_move' rfl (dTn (cx.an 2))
   ·exact sv rfl rfl rfl rfl rfl _ (fun _ _ _ h=>h) (fun β β' h=>by rw [h 13 (by decide)]) fun ρ β W X cx=>run_extract' rfl (dTn (cx.an 3)) rfl
   ·exact xs4 rfl id fun cx=>run_extract' rfl (dTn (cx.an 3)) rfl
   ·refine svA fun ρ β W X cx=>?_
    exact dv_alloc (cs:=#[vi 0,vi 0,vi 0, .string ByteArray.empty, .bool false, .slice none 0 0,vi 0]) rfl (by kernel_rfl) rfl rfl (fun σ β' X' hs hb hv hx=>⟨hv,hx⟩)
   ·refine svA fun ρ β W X cx=>?_
    exact dv_store (n:=7) rfl (dTn (cx.an 6)).1 (dTn (cx.an 4)) (by kernel_rfl) (by kernel_rfl) (by kernel_rfl) cx (dTn (cx.an 6)).2 rfl (nle rfl) (by kernel_rfl) rfl rfl rfl (fun σ β' X' hs hb hx=>by rw [hb 5,hb 13]; exact hx)
  intro σ β X W2 hD hst2 fr hfr
  obtain ⟨pg13_2,hu_pg13_2⟩:∃ z,iv (tg (tg (β 13) 0) 0)=z:=⟨_,rfl⟩
  obtain ⟨B5_2,hu_B5_2⟩:∃ z,pb (β 5)=z:=⟨_,rfl⟩
  simp only [exq 1 ((dTn (hD 7 lq))),hu_pg13_2,hu_B5_2] at hst2
  simp only [ed 13 ((dTn (hD 2 lq))),ed 10 ((dTn (hD 3 lq))),ed 14 ((dTn (hD 4 lq))),ed 5 ((dTn (hD 6 lq)).1),hu_pg13_2,hu_B5_2] at hfr
  clear hD hu_pg13_2 hu_B5_2; subst hfr; clear σ β X
  refine then_normal (wp_seq (wp_seq (sqr (sqp [.k 16 (.bool false), .k 17 (.bool true)] ?_))))
  refine then_normal (wct rfl (wp_seq (sqr (sqp [.k 4 (vi 22)] ?_))))
  refine then_normal (wp_ret (then_ret ?_))
  refine bpr (vi 22) (results_1 Try.results37 rpt) ?_
  exact Ret.of (by rw [← ck_none hnd]) hst2.ext
 ·have hN0:=nd_ok hok hnd
  have hN4:=hN0.lv
  refine sqr (sqp [.m 11 0, .m 12 1] ?_)
  refine sqk2 (fun EA13_8 ec13_8=> .tuple #[.agg #[vi root,vi nd.lv,vi nd.right, .string nd.high, .bool nd.dead, .slice EA13_8 nd.es.length ec13_8,vi ((nd.free:Int))], .bool true]) (fun EA13_8 ec13_8=>eO 104 3 (.slice EA13_8 nd.es.length ec13_8) nd.es.length (nd.es.flatMap enC)) hst0 (fun cx=>⟨_,(kd_yes hnd (kat_any _ _ ps root _ (hS.ext cx.upd.to_ext) hok hoc)).mono (by rintro e W1 ⟨EA4,ec4,rfl,hs4⟩; exact ⟨_, _,rfl,hs4⟩),(map2 (cx.ou 11) (cx.ou 12))⟩) fun EA13_8 ec13_8 W8 hst8=>?_
  refine sqp [.m 10 13, .k 14 (.agg #[vi root,vi nd.lv,vi nd.right, .string nd.high, .bool nd.dead, .slice EA13_8 nd.es.length ec13_8,vi ((nd.free:Int))]), .k 15 (.bool true)] ?_
  refine sqal #[vi 0,vi 0,vi 0, .string ByteArray.empty, .bool false, .slice none 0 0,vi 0] hst8 fun B5_12 W12 hst12=>?_
  refine sqst (n:=7) 1 #[vi root,vi nd.lv,vi nd.right, .string nd.high, .bool nd.dead, .slice EA13_8 nd.es.length ec13_8,vi ((nd.free:Int))] hst12 fun W13 hst13=>?_
  refine sqp [.k 6 (.bool true)] ?_
  refine then_normal (wp_seq (wp_seq (sqr (sqp [.k 16 (.bool true), .k 17 (.bool false)] ?_))))
  refine then_normal (wcf rfl (wp_skip (then_normal (wp_seq (sqr (sqp [.k 7 (.slice none 0 0)] ?_))))))
  refine then_normal (wp_seq (wp_seq (sqr (sqp [.k 18 (.pointer (some ⟨B5_12,1,none⟩))] ?_))))
  refine sqld 1 hst13 ?_
  refine sqp [sI 20 (nd.lv+1) (by omega), .k 21 (vi 0)] ?_
  refine then_normal (wp_block ?_)
  have hcl_:=hst13.cl0
  simp only [List.cons_append,List.nil_append] at hcl_
  refine wp_loopT (fun t_ mz az W=>∃ k:Nat,∃ BA:Option Addr,∃ bc:Nat,∃ fb:List Nat,(k:Int)≤nd.lv+1∧(List.range k).all (fun k=>!ckX ps root nd.lv k)=true∧mz=(nd.lv+1).toNat - k∧az=⟨(ovr (jv az) [(4,4,1,[]),(2,7,0,[.slice BA ((belowL ps root k).length) bc]),(0,8,2,[]),(11,21,0,[vi ((k:Int))]),(0,22,33,[])] t_).toArray,[]⟩∧St w [] [eB B5_12 116 #[vi root,vi nd.lv,vi nd.right, .string nd.high, .bool nd.dead, .slice EA13_8 nd.es.length ec13_8,vi ((nd.free:Int))],eCL BA (belowL ps root k) fb] W) ((nd.lv+1).toNat - 0) ?_ ?_
  · -- the loop begins
    exact ⟨0,none,0,[],by omega,rfl,rfl,(by kernel_rfl),hcl_.pk [1,2]⟩
  rintro n22 a22 W22 ⟨k,BA,bc,fb,hk,hall,rfl,hj_,hst22⟩
  refine ovz hj_ fun u22_=>?_
  have hbl_:=below_len ps root k
  have hrl_:=row_len ps root (k:Int)
  refine wp_seq (sqr (sqp [.k 22 (.bool (decide ((k:Int) < nd.lv+1)))] ?_))
  refine then_normal (wp_seq (wds (fun hs24 hs24p=>?_) fun hs24 hs24p=>?_))
  ·refine wp_skip (then_normal (wp_seq (wp_block (wp_seq (sqr (sqp [.m 23 21, .m 8 23] ?_))))))
   refine then_normal (wp_seq (wp_region_Y [0,0,0,7,15,31] [[],[],[],[],[2,3,4]] [[],[],[],[2,3,4],[5]] [] [.k 24 (.iface tt (tv)), .k 25 (vi root), .k 26 (vi ((k:Int))), .a 27, .a 28, .a 9] (fun ix σ β X=>match ix with | 0=>True | 1=>True | 2=>True | 3=>σ 27= .func (.func 99) #[] #[vp (pcp 0 (β 27)),vp (pcp 1 (β 27)),vp (pcp 2 (β 27))]∧X 2=eB (pcp 0 (β 27)) 113 #[.iface tt (tv)]∧X 3=eB (pcp 1 (β 27)) 3 #[vi root]∧X 4=eB (pcp 2 (β 27)) 3 #[vi ((k:Int))] | 4=>σ 28= .slice (sA (β 28)) (((rowF ps root (k:Int))).length) (sC (β 28))∧X 5=eCL (sA (β 28)) (rowF ps root (k:Int)) ((X 5).fp) | 5=>σ 9= .slice (sA (β 28)) (((rowF ps root (k:Int))).length) (sC (β 28)) | _=>True) [0,1,2,3,4,5] [3,4,5] [(9,5,1,10),(14,0,5,19)] hst22 ?_ ?_ ?_))
   ·exact fun ix _ _ _ _ _ _ hs hb hx h=>match ix,h with
    | 3,h=>by dsimp only; rw [← hs 27 rfl,← hb 27 rfl,← hx 2 rfl,← hx 3 rfl,← hx 4 rfl]; exact h
    | 4,h=>by dsimp only; rw [← hs 28 rfl,← hb 28 rfl,← hx 5 rfl]; exact h
    | 5,h=>by dsimp only; rw [← hs 9 rfl,← hb 28 rfl]; exact h
    | 0, _ | 1, _ | 2, _ | _+6, _=>trivial
   ·refine ⟨?_,?_,?_,trivial⟩
    ·refine svA fun ρ β W X cx=>?_
     refine DoesU.call (run_callF (args:=#[.iface tt (tv),vi root,vi ((k:Int))]) rfl cx.sees rfl (by kernel_rfl) (map3 (cx.an 0) (cx.an 1) (cx.an 2))) ?_
     refine (krowc_any tt tv root (k:Int) _).mono ?_
     rintro e W1 ⟨B4,B5,B6,rfl,hs4⟩
     refine ⟨_,rfl,post_st [eB B4 113 #[.iface tt (tv)],eB B5 3 #[vi root],eB B6 3 #[vi ((k:Int))]] rfl rfl hs4 (fun σ β' X' hs hb hv hN=>?_)⟩
     have hv1:=(hv 27 rfl).1; have hv2:=(hv 27 rfl).2
     exact ⟨hv1.trans (by rw [hv2]; rfl),(by rw [hv2]; exact (List.cons.inj hN).1),(by rw [hv2]; exact (List.cons.inj (List.cons.inj hN).2).1),(by rw [hv2]; exact (List.cons.inj (List.cons.inj (List.cons.inj hN).2).2).1)⟩
    ·refine svA fun ρ β W X cx=>?_
     refine DoesU.call (run_callF (args:=#[.func (.func 99) #[] #[vp (pcp 0 (β 27)),vp (pcp 1 (β 27)),vp (pcp 2 (β 27))]]) rfl cx.sees rfl (by kernel_rfl) (map1 (dTn (cx.an 3)).1)) ?_
     refine (kcol_g _ _ _ (rowF ps root (k:Int)) _ _ _ (krow_seqG _ _ _ _ _ _ _ hok hoc) (fun A hA=>⟨Blk.ext (cx.blk (dTn (cx.an 3)).2.1 rfl) hA,Blk.ext (cx.blk (dTn (cx.an 3)).2.2.1 rfl) hA,Blk.ext (cx.blk (dTn (cx.an 3)).2.2.2 rfl) hA,(hS.ext cx.upd.to_ext).ext hA⟩)).mono ?_
     rintro e W1 ⟨A4,c4,fp4,rfl,hs4⟩
     refine ⟨_,rfl,post_st [eCL A4 ((rowF ps root (k:Int))) fp4] rfl rfl hs4 (fun σ β' X' hs hb hv hN=>?_)⟩
     have hv1:=(hv 28 rfl).1; have hv2:=(hv 28 rfl).2
     exact ⟨hv1.trans (by rw [hv2]; rfl),(by rw [hv2]; exact eCL_self ((List.cons.inj hN).1))⟩
    ·exact sv rfl rfl rfl rfl rfl _ (fun _ _ _ h=>h) (fun β β' h=>by rw [h 28 (by decide)]) fun ρ β W X cx=>run_assign' rfl (dTn (cx.an 4)).1
   intro σ β X W27 hD hst27 fr hfr
   obtain ⟨B27a_27,hu_B27a_27⟩:∃ z,pcp 0 (β 27)=z:=⟨_,rfl⟩
   obtain ⟨B27b_27,hu_B27b_27⟩:∃ z,pcp 1 (β 27)=z:=⟨_,rfl⟩
   obtain ⟨B27c_27,hu_B27c_27⟩:∃ z,pcp 2 (β 27)=z:=⟨_,rfl⟩
   obtain ⟨A28_27,hu_A28_27⟩:∃ z,sA (β 28)=z:=⟨_,rfl⟩
   obtain ⟨c28_27,hu_c28_27⟩:∃ z,sC (β 28)=z:=⟨_,rfl⟩
   have xX5:X 5= _:=(dTn (hD 4 lq)).2
   obtain ⟨r5_27,hu_r5_27⟩:∃ z,(X 5).fp=z:=⟨_,rfl⟩
   rw [hu_r5_27] at xX5
   clear hu_r5_27
   simp only [exq 2 ((dTn (hD 3 lq)).2.1),exq 3 ((dTn (hD 3 lq)).2.2.1),exq 4 ((dTn (hD 3 lq)).2.2.2),xX5,hu_B27a_27,hu_B27b_27,hu_B27c_27,hu_A28_27,hu_c28_27] at hst27
   simp only [ed 27 ((dTn (hD 3 lq)).1),ed 28 ((dTn (hD 4 lq)).1),ed 9 ((dTn (hD 5 lq))),hu_B27a_27,hu_B27b_27,hu_B27c_27,hu_A28_27,hu_c28_27] at hfr
   clear hD xX5 hu_B27a_27 hu_B27b_27 hu_B27c_27 hu_A28_27 hu_c28_27; subst hfr; clear σ β X
   refine then_normal (wp_seq (wp_seq (sqr (sqp [.m 29 8, .k 30 (.pointer (some ⟨B5_12,1,none⟩))] ?_))))
   refine sqld 0 hst27 ?_
   refine sqp [.k 32 (.bool ((k:Int)==nd.lv)), .m 33 32] ?_
   refine sqw 33 [34,35,36] rfl (fun _=>sqp [.m 34 9, .k 35 (vi ((((rowF ps root (k:Int))).length:Int))), .k 36 (.bool ((((rowF ps root (k:Int))).length:Int) != 1))] sqe) ?_
   refine sqp [sPa 37 ((k:Int)==nd.lv) ((((rowF ps root (k:Int))).length:Int) != 1), .m 38 37] ?_
   refine sqw' 38 [39,40,41,42,43,44,45] ?_ rfl (fun hq=>?_) ?_
   rotate_left
   ·refine sqp [.m 39 8, .k 40 (.bool (decide (0 < (k:Int)))), .m 41 40] ?_
    refine sqw 41 [42,43,44] rfl (fun _=>sqp [.m 42 7, .k 43 (vi (((belowL ps root k).length:Int))), .k 44 (.bool (((belowL ps root k).length:Int)==0))] sqe) ?_
    refine sqp [sPa 45 (decide (0 < (k:Int))) (((belowL ps root k).length:Int)==0)] ?_
    exact sqe
   refine sqwx ?_
   refine sqp [sPo 46 (((k:Int)==nd.lv)&&((((rowF ps root (k:Int))).length:Int) != 1)) ((decide (0 < (k:Int)))&&(((belowL ps root k).length:Int)==0)), .m 47 46] ?_
   refine sqwW 47 [48,49,50,51] ?_ hst27 rfl (fun hq=>?_) fun W51 hst51=>?_
   rotate_left
   ·refine sqp [.m 48 9, .m 49 7] ?_
    refine sqk (.bool (rgF (rowF ps root (k:Int)) (belowL ps root k))) hst27 (fun cx=>⟨_,kright_cl (CtxV.holdF cx (cx.init 5 _ rfl) rfl) (CtxV.holdF cx (cx.init 1 _ rfl) rfl) (fun y hy=>nd_ok hok (row_nd y hy).1) (row_len _ _ _) (below_len _ _ _),(map2 (cx.ou 48) (cx.ou 49))⟩) fun W49 hst49=>?_
    refine sqp [.k 51 (.bool (!(rgF (rowF ps root (k:Int)) (belowL ps root k))))] ?_
    exact sqE hst49
   refine sqwx ?_
   refine sqp [sPo 52 ((((k:Int)==nd.lv)&&((((rowF ps root (k:Int))).length:Int) != 1))||((decide (0 < (k:Int)))&&(((belowL ps root k).length:Int)==0))) (!(rgF (rowF ps root (k:Int)) (belowL ps root k)))] ?_
   refine then_normal (wbs (fun hs53=>?_) fun hs53=>?_)
   ·have hs53p:=hs53
    simp only [zB] at hs53p
    refine wp_seq (sqr (sqp [.k 4 (vi 11)] ?_))
    refine then_normal (wp_ret (then_ret (blk_ret (then_ret (then_ret (blk_ret (then_ret ?_)))))))
    refine bpr (vi 11) (results_1 Try.results37 rpt) ?_
    exact Ret.of (by rw [← ck_bad hnd (k:=k) (by omega) hs53]) hst51.ext
   have hs53p:=hs53
   simp only [zB] at hs53p
   obtain ⟨⟨hs53p1,hs53p2⟩,hs53p3⟩:=hs53p
   refine wp_skip (then_normal (sqr (sqp [.m 53 9, .m 7 53] ?_)))
   refine blk_normal (then_normal (sqr (sqp [sI 54 ((k:Int)+1) (by omega), .m 21 54] ?_)))
   refine then_normal ?_
   refine ⟨(nd.lv+1).toNat - ((k+1)),by omega,?_⟩
   exact ⟨(k+1),A28_27,c28_27,r5_27,by omega,all_step hall (by rw [show ckX ps root nd.lv k=false from hs53]; rfl),rfl,(by kernel_rfl),hst51.pk [0,5]⟩
  refine wp_exit (then_exit (then_exit (blk_eq (then_normal (wp_seq (sqr (sqp [.k 4 (vi 0)] ?_)))))))
  refine then_normal (wp_ret ?_)
  refine bpr (vi 0) (results_1 Try.results37 rpt) ?_
  exact Ret.of (by rw [← ck_ok hnd (k:=k) (by omega) hall]) hst22.ext
end
section
open Go.RowKit
theorem neB_nil {a:ByteArray} (h:a.size=0):neB a=false:=by
 have:a=⟨#[]⟩:=by apply bl_inj; exact List.length_eq_zero_iff.1 (by rw [bl_len]; exact h)
 subst this; rw [neB,beq_self_eq_true]; rfl
theorem idxP_pos {α:Type} {p:α→Bool} {x:α} {B:List α} (hx:p x=true):∀ {A:List α} {k:Int},(∀ y∈A,p y=false)→idxP p k (A++x::B)=k+A.length
 | [],k, _=>by rw [List.nil_append,idxP,if_pos hx]; simp
 | y::A,k,h=>by
   rw [List.cons_append,idxP,if_neg (by rw [h y (by simp)]; decide),idxP_pos hx fun z hz=>h z (by simp [hz]),List.length_cons]
   omega
theorem getD_mid {α:Type} {A B:List α} {x d:α}:(A++x::B).getD A.length d=x:=by
 rw [List.getD_eq_getElem?_getD,List.getElem?_append_right (Nat.le_refl _),Nat.sub_self]; rfl
/-- the bound of the node ahead is the next node's least entry -/
theorem high_prev {ps:List PgS} {lv:Int} {A B:List AbN} {b c:AbN} (h:RepL ps lv (A++b::c::B)):(ndD ps b.pg).high=c.low:=by
 obtain ⟨⟨n,h1, _, _, _,h5, _⟩, _⟩:=RepL.mem h
 rw [ndD_some h1,h5]; rfl
theorem low_at {ps:List PgS} {lv:Int} {pre suf:List AbN} {a:AbN} (h:RepL ps lv (pre++a::suf)):lowF ((pre++a::suf).map (ndP ps)) pre.length=if pre=[] then ⟨#[]⟩ else a.low:=by
 rcases List.eq_nil_or_concat pre with rfl | ⟨A,b,rfl⟩
 ·rfl
 ·rw [lowF,if_neg (by simp),if_neg (by simp)]
  rw [List.concat_eq_append] at h ⊢
  have e:((A++[b])++a::suf).map (ndP ps)=A.map (ndP ps)++ndP ps b::(a::suf).map (ndP ps):=by simp
  have e2:(A++[b]).length - 1=(A.map (ndP ps)).length:=by simp
  rw [e,e2,getD_mid]
  exact high_prev (by simpa using h)
theorem low_idx {ps:List PgS} {lv:Int} {p s:List AbN} {m:AbN} (hL:LvOk (p++m::s)) (h:RepL ps lv (p++m::s)):ldW ((p++m::s).map (ndP ps)) (p.length:Int)=m.low:=by
 rcases List.eq_nil_or_concat p with rfl | ⟨A,b,rfl⟩
 ·rw [ldW,if_neg (by simp)]; exact hL.headlow.symm
 ·rw [ldW,if_pos (by simp)]
  rw [List.concat_eq_append] at h ⊢
  have e:((A++[b])++m::s).map (ndP ps)=A.map (ndP ps)++ndP ps b::(m::s).map (ndP ps):=by simp
  have e2:(((A++[b]).length:Int) - 1).toNat=(A.map (ndP ps)).length:=by simp
  have e3:ldW ((A++[b]++m::s).map (ndP ps)) ((A++[b]).length:Int)= _:=rfl
  rw [e,e2,show (0,nodZ)=((0,nodZ):Int×NoD) from rfl,getD_mid]
  exact high_prev (by simpa using h)
theorem ld_ok {ps:List PgS} {lv:Int} {below:List AbN} {es:List EnD} {a:AbN} (hL:LvOk below) (h:RepL ps lv below) (hd:(below.map AbN.pg).Nodup) (hes:es.map kv=a.es) (hne:0 < es.length) (hin:∀ e∈a.es,∃ m∈below,m.pg=e.2∧m.low=e.1):ldF (below.map (ndP ps)) es=true:=by
 rw [ldF,Bool.and_eq_true]
 refine ⟨List.all_eq_true.2 fun i hi=>?_,decide_eq_true (by omega)⟩
 have hi:=List.mem_range.1 hi
 obtain ⟨e,he⟩:∃ z,es.getD i en0=z:=⟨_,rfl⟩
 have hem:e∈es:=by rw [← he]; exact (getD_mem' hi).2
 rw [he]
 obtain ⟨m,hm,h1,h2⟩:=hin _ (kv_mem hes hem)
 obtain ⟨p,s,rfl⟩:=List.append_of_mem hm
 have hidx:ldI ((p++m::s).map (ndP ps)) e.2.2=(p.length:Int):=by
  rw [ldI,List.map_append,List.map_cons,idxP_pos (by show ((ndP ps m).1==e.2.2)=true; rw [beq_iff_eq]; exact h1),List.length_map]
  ·omega
  ·intro y hy
   obtain ⟨b,hb,rfl⟩:=List.mem_map.1 hy
   show ((ndP ps b).1==e.2.2)=false
   rw [beq_eq_false_iff_ne]
   intro e2
   have e2:b.pg=e.2.2:=e2
   rw [List.map_append] at hd
   exact (List.nodup_append.1 hd).2.2 b.pg (List.mem_map.2 ⟨b,hb,rfl⟩) m.pg (by simp) (e2.trans h1.symm)
 rw [ldS,hidx,low_idx hL h,h2,beq_self_eq_true,decide_eq_false (by omega)]; rfl
theorem sr_ok {n:NoD} {a:AbN} {suf:List AbN} {lo:ByteArray} (hv:NdV a) (hes:n.es.map kv=a.es) (hhi:n.high=hiA suf) (hlo:lo=⟨#[]⟩∨lo=a.low) (hlt:∀ c∈suf,LtA a c):srF n.high lo n.es=true:=by
 rw [srF]
 refine List.all_eq_true.2 fun i hi=>?_
 have hi:=List.mem_range.1 hi
 obtain ⟨e,he⟩:∃ z,n.es.getD i en0=z:=⟨_,rfl⟩
 have hem:e∈n.es:=by rw [← he]; exact (getD_mem' hi).2
 have hea:=kv_mem hes hem
 have h1:(neB lo&&lessF e.1 lo)=false:=by
  rcases hlo with rfl | rfl
  ·rw [neB_nil rfl]; rfl
  ·rw [hv.ge _ hea,Bool.and_false]
 have h2:(neB n.high&&!(lessF e.1 n.high))=false:=by
  rw [hhi]
  cases suf with
  | nil=>rw [show hiA []=ByteArray.empty from rfl,neB_nil rfl]; rfl
  | cons c s=>
    rw [show hiA (c::s)=c.low from rfl,(hlt c (by simp)).2 _ hea]
    simp
 have h3:(decide (0 < (i:Int))&&(e.1.toList==(n.es.getD ((i:Int) - 1).toNat en0).1.toList))=false:=by
  by_cases h0:0 < (i:Int)
  ·obtain ⟨j,rfl⟩:∃ j,i=j+1:=⟨i - 1,by omega⟩
   have hr:n.es.Pairwise (fun a b=>lessF a.1 b.1=true):=by have:=hv.ris; rw [← hes] at this; exact List.pairwise_map.1 this
   have hj:((((j+1:Nat):Int) - 1).toNat)=j:=by omega
   rw [hj]
   have h4:=List.pairwise_iff_getElem.1 hr j (j+1) (by omega) hi (by omega)
   have e1:n.es[j+1]=e:=by rw [← he,List.getD_eq_getElem?_getD,List.getElem?_eq_getElem hi]; rfl
   have e2:n.es.getD j en0=n.es[j]:=by rw [List.getD_eq_getElem?_getD,List.getElem?_eq_getElem (by omega)]; rfl
   rw [e1] at h4
   rw [e2]
   have:(e.1.toList==(n.es[j]).1.toList)=false:=by
    rw [beq_eq_false_iff_ne]
    intro e3
    rw [ByteArray.toList_eq,ByteArray.toList_eq] at e3
    rw [bl_inj e3,lessF_irr] at h4; cases h4
   rw [this,Bool.and_false]
  ·rw [decide_eq_false h0]; rfl
 rw [srS,he,h1,h2,h3]; rfl
theorem rg_ok {ps:List PgS} {T:List (List AbN)} {root:Int} (h:Tr ps T root) {k:Nat} {l:List AbN} (hk:T[k]? =some l) (hlen:l.length≤400) {Lb:List (Int×NoD)} (hb:∀ k0,k=k0+1→∃ below,T[k0]? =some below∧Lb=below.map (ndP ps)):rgF (l.map (ndP ps)) Lb=true:=by
 obtain ⟨hrep,hL⟩:=h.level hk
 have hpos:0 < l.length:=by obtain ⟨a,t,rfl, _⟩:=hL.hd; simp
 rw [rgF,Bool.and_eq_true,List.length_map]
 refine ⟨List.all_eq_true.2 fun i hi=>?_,by rw [decide_eq_true (by omega),decide_eq_true (by omega)]; rfl⟩
 have hi:=List.mem_range.1 hi
 obtain ⟨pre,a,suf,e,hpl⟩:∃ pre a suf,l=pre++a::suf∧pre.length=i:=⟨l.take i,l[i],l.drop (i+1),by rw [List.getElem_cons_drop,List.take_append_drop],by rw [List.length_take]; omega⟩
 subst e hpl
 obtain ⟨n,h1,h2,h3,h4,h5,h6⟩:=h.node hk
 have hA:=hL.nd a (by simp)
 obtain ⟨_,pp, _⟩:=List.pairwise_append.1 hL.pw
 have hlt:=(List.pairwise_cons.1 pp).1
 have hg:((pre++a::suf).map (ndP ps)).getD pre.length (0,nodZ)=(a.pg,n):=by
  have e:(pre++a::suf).map (ndP ps)=pre.map (ndP ps)++ndP ps a::suf.map (ndP ps):=by simp
  rw [e,show pre.length=(pre.map (ndP ps)).length by simp,getD_mid,ndP,ndD_some h1]
 have hlo:=low_at hrep
 obtain ⟨lo,hlo2⟩:∃ z,lowF ((pre++a::suf).map (ndP ps)) pre.length=z:=⟨_,rfl⟩
 rw [hlo2] at hlo
 have hlo3:lo=⟨#[]⟩∨lo=a.low:=by rw [hlo]; split; exact .inl rfl; exact .inr rfl
 rw [rgX,hg,hlo2,List.length_map]
 have lst:(((pre.length:Nat):Int)==((pre++a::suf).length:Int) - 1)=decide (suf=[]):=by
  rw [List.length_append,List.length_cons]
  cases suf with
  | nil=>simp
  | cons c s=>simp; omega
 have hA1:rgA n (((pre.length:Nat):Int)==((pre++a::suf).length:Int) - 1) lo=false:=by
  rw [rgA,h3,sr_ok hA h6 h5 hlo3 hlt,lst,decide_eq_false (show ¬ 8 < (n.es.length:Int) by have:=hA.len; rw [← h6,List.length_map] at this; omega),h4,h5]
  cases suf with
  | nil=>rw [show (hiA []).toList=(⟨#[]⟩:ByteArray).toList from rfl,beq_self_eq_true]; rfl
  | cons c s=>
    have hc:=h.pg_lt (pgs_mem hk (a:=c) (by simp))
    rw [show hiA (c::s)=c.low from rfl,ne_nil_size (hL.l4 c (by simp)),show rtA (c::s)=c.pg from rfl,decide_eq_false (show ¬ c.pg < 0 by omega)]; rfl
 have hB1:rgB n pre.length Lb=false:=by
  rw [rgB]
  by_cases h0:0 < n.lv
  ·obtain ⟨k0,rfl⟩:∃ k0,k=k0+1:=⟨k - 1,by omega⟩
   obtain ⟨below,hbl,rfl⟩:=hb k0 rfl
   obtain ⟨⟨k1,t,g1⟩,g2⟩:=h.inn k0 _ _ hk hbl a (by simp)
   obtain ⟨hrb,hLb⟩:=h.level hbl
   have hdist:(below.map AbN.pg).Nodup:=by
    obtain ⟨T1,T2,e2, _, _⟩:=lv_split hbl
    have hd:=h.dist
    rw [e2,pgs_app] at hd
    exact (List.nodup_append.1 (List.nodup_append.1 hd).2.1).1
   have hnl:0 < n.es.length:=by rw [← List.length_map (f:=kv),h6,g1]; simp
   rw [ld_ok hLb hrb hdist h6 hnl g2,decide_eq_true h0]
   by_cases hp:pre=[]
   ·subst hp
    obtain ⟨c,u,rfl,hcl⟩:=hLb.hd
    obtain ⟨m,hm,hm1,hm2⟩:=g2 (a.low,k1) (by rw [g1]; simp)
    have hmc:=hLb.first hm (by rw [hm2]; exact hL.headlow)
    have hx:(n.es.getD 0 en0).2.2=c.pg:=by
     obtain ⟨x,r,he⟩:=List.exists_cons_of_ne_nil (List.length_pos_iff.1 hnl)
     rw [he,g1] at h6
     injection h6 with h7 _
     have h7:kv x=(a.low,k1):=h7
     injection h7 with _ h8
     rw [he]
     show x.2.2=c.pg
     rw [h8,← hmc]; exact hm1.symm
    rw [hx]
    show (true&&(!true||((((0:Nat):Int)==0)&&(c.pg != (ndP ps c).1))))=false
    simp [ndP]
   ·have:(((pre.length:Nat):Int)==0)=false:=by
     rw [beq_eq_false_iff_ne]
     have:=List.length_pos_iff.2 hp
     omega
    rw [this]; rfl
  ·rw [decide_eq_false h0]; rfl
 have hC1:rgC n lo=false:=by
  rw [rgC]
  rcases hlo3 with rfl | rfl
  ·rw [neB_nil rfl]; rfl
  ·rw [h5]
   cases suf with
   | nil=>rw [show hiA []=ByteArray.empty from rfl,show neB ByteArray.empty=false from neB_nil rfl]; simp
   | cons c s=>rw [show hiA (c::s)=c.low from rfl,lessF_asym (hlt c (by simp)).1,Bool.and_false]
 rw [hA1,hB1,hC1]; rfl
theorem Tr.check {ps:List PgS} {T:List (List AbN)} {root:Int} (h:Tr ps T root) (hps:ps.length≤150):checkF ps root=0:=by
 obtain ⟨T0,r,e,h1,h2,h3⟩:=h.root
 obtain ⟨n,g1,g2, _⟩:=h.node (pre:=[]) h3
 rw [h1] at g1
 have hlT:T.length=T0.length+1:=by rw [e]; simp
 have hbd:=h.bd
 rw [checkF,g1]
 dsimp only
 rw [if_pos]
 refine List.all_eq_true.2 fun k hk=>?_
 have hk:=List.mem_range.1 hk
 have hkT:T[k]? =some (T[k]'(by omega)):=List.getElem?_eq_getElem (by omega)
 obtain ⟨l,hl⟩:∃ l,T[k]'(by omega)=l:=⟨_,rfl⟩
 rw [hl] at hkT
 have hrow:=h.row hps hkT
 have hll:l.length≤150:=by
  have:l.length≤(pgsA T).length:=by
   rw [pgs_flat]
   obtain ⟨T1,T2,e2, _, _⟩:=lv_split hkT
   rw [e2]; simp; omega
  omega
 have hbel:∀ k0,k=k0+1→∃ below,T[k0]? =some below∧belowL ps root k=below.map (ndP ps):=by
  rintro k0 rfl
  have hb:T[k0]? =some (T[k0]'(by omega)):=List.getElem?_eq_getElem (by omega)
  exact ⟨_,hb,h.row hps hb⟩
 have c1:(((k:Int)==n.lv)&&(((rowF ps root (k:Int)).length:Int) != 1))=false:=by
  by_cases hkn:k=T0.length
  ·subst hkn
   rw [h3] at hkT
   injection hkT with hkT
   rw [hrow,← hkT]; simp
  ·rw [show ((k:Int)==n.lv)=false by rw [beq_eq_false_iff_ne,g2]; omega]; rfl
 have c2:(decide (0 < (k:Int))&&(((belowL ps root k).length:Int)==0))=false:=by
  by_cases h0:0 < (k:Int)
  ·obtain ⟨k0,rfl⟩:∃ k0,k=k0+1:=⟨k - 1,by omega⟩
   obtain ⟨below,hb,hbe⟩:=hbel k0 rfl
   obtain ⟨c,u,rfl, _⟩:=(h.level hb).2.hd
   rw [hbe]
   rw [show ((((c::u).map (ndP ps)).length:Int)==0)=false by rw [beq_eq_false_iff_ne]; simp; omega,Bool.and_false]
  ·rw [decide_eq_false h0]; rfl
 have c3:rgF (rowF ps root (k:Int)) (belowL ps root k)=true:=by rw [hrow]; exact rg_ok h hkT (by omega) hbel
 rw [ckX,c1,c2,c3]; rfl
end
section
open Go.RowKit
/-- an insertion under way: its entry is still to come to a leaf, or it is there -/
def Way (E:List Kv) (x:ByteArray) (T:List (List AbN)) (p:PuT):Prop:=(∃ l,p.left=(x,0,0)::l∧(∀ t∈l,1≤t.2.1)∧(lfs T).Perm E∧p.leaf= -1)∨((∀ t∈p.left,1≤t.2.1)∧(lfs T).Perm ((x, -1)::E)∧0≤p.leaf)
theorem Way.len {E:List Kv} {x:ByteArray} {T:List (List AbN)} {p:PuT} (h:Way E x T p):(lfs T).length≤E.length+1:=by
 rcases h with ⟨_, _, _,h, _⟩ | ⟨_,h, _⟩<;>rw [h.length_eq]
 ·omega
 ·exact Nat.le_refl _
theorem Way.step {E:List Kv} {x:ByteArray} {ps:List PgS} {T T':List (List AbN)} {p p':PuT} {g:GoT} {fresh root:Int} (h:Tr ps T root) (hw:Way E x T p) (ho:Out T T' p p' g fresh) (hx:∀ y∈E,y.1≠x):Way E x T' p':=by
 rcases hw with ⟨l,hl,h1,hp,hlf⟩ | ⟨h1,hp,hlf⟩
 ·have nx:∀ y∈lfs T,y.1≠x:=fun y hy=>hx y (hp.mem_iff.1 hy)
  cases ho with
  | idle h=>rw [hl] at h; cases h
  | move t l2 h2 hT hl2 hf=>
    rw [hl] at h2; injection h2 with e1 e2; subst e1 e2 hT
    exact .inl ⟨l,hl2,h1,hp,hf.trans hlf⟩
  | there t l2 k pre suf a h2 hk hT ht hin=>
    rw [hl] at h2; injection h2 with e1 e2; subst e1
    have hk0:k=0:=by have:(0:Int)=(k:Int):=hk; omega
    subst hk0
    obtain ⟨y,hy,hyx⟩:=hin
    refine absurd hyx (nx y ?_)
    rw [lfs,lvA_some ht]
    exact List.mem_flatMap.2 ⟨a,by simp,hy⟩
  | put t l2 k pre suf a h2 hk ht hT hno hl2 hf=>
    rw [hl] at h2; injection h2 with e1 e2; subst e1
    have hk0:k=0:=by have:(0:Int)=(k:Int):=hk; omega
    subst hk0
    refine .inr ⟨by rw [hl2,← e2]; exact h1,?_,by rw [hf,if_pos rfl]; exact (h.pg_lt (pgs_mem ht (a:=a) (by simp))).1⟩
    refine List.Perm.trans ?_ (hp.cons _)
    rw [hT,lfs_set ht,if_pos rfl,lfs,lvA_some ht]
    simp only [List.flatMap_append,List.flatMap_cons]
    refine ((List.Perm.append_left _ ((insA_perm _ _).append_right _))).trans ?_
    exact List.perm_middle
  | cut t l2 k pre suf a mid h2 hk ht h8 htop hT hl2 hf hp2 hpa hu=>
    rw [hl] at h2; injection h2 with e1 e2; subst e1 e2
    refine .inl ⟨_,hl2,fun t ht=>?_,?_,hf.trans hlf⟩
    ·rcases List.mem_append.1 ht with ht | ht
     ·exact h1 t ht
     ·rw [List.mem_singleton.1 ht]; show (1:Int)≤(k:Int)+1; omega
    ·rcases (Out.cut (p':=p') (g:=g) _ l k pre suf a mid hl hk ht h8 htop hT hl2 hf hp2 hpa hu).lfs with h3 | ⟨t,l3,h3, _,h4, _⟩
     ·exact h3.trans hp
     ·rw [hl] at h3; injection h3 with e1 e2; rw [hl2,← e2] at h4; exact absurd (congrArg List.length h4) (by simp only [List.length_append,List.length_cons,List.length_nil]; omega)
  | grow t l2 T0 r h2 hk ht hr h8 hT hl2 hf=>
    rw [hl] at h2; injection h2 with e1 e2; subst e1 e2
    exact .inl ⟨l,hl2,h1,by rw [hT,lfs_grow,← ht]; exact hp,hf.trans hlf⟩
 ·obtain ⟨h3,h4,h5⟩:=rest_lfs ho h1
  exact .inr ⟨h4,h3.trans hp,by rw [h5]; exact hlf⟩
/-- the state of TreeHalf's first loop -/
def HalfI (l:List Int) (x:ByteArray) (ps:List PgS) (p:PuT) (nx:Int):Prop:=∃ T d,GS d ps T nx∧InsOk T 0 p∧Way (entsG l l.length) x T p∧(PM 61:Int)+d < 60
theorem ents_len (l:List Int) (n:Nat):(entsG l n).length=n:=by rw [entsG,List.length_map,List.length_range]
theorem ent_far {l:List Int} {n:Nat} (hn:n≤90) {k:ByteArray} {q s:Int} (hq:13≤q∧q < 65536):∀ y∈entsG l n,y.1≠entF k q s:=fun y hy e=>by
 obtain ⟨j,hj,rfl⟩:=List.mem_map.1 hy
 have hj:=List.mem_range.1 hj
 have h1:ppF (entG l j)=ppF (entF k q s):=congrArg ppF e
 rw [entG,ppF_ent,ppF_ent] at h1
 omega
theorem half_step {l:List Int} {x:ByteArray} {ps:List PgS} {p:PuT} {nx:Int} (h:HalfI l x ps p nx) (hl:l.length≤60) (hx:∀ y∈entsG l l.length,y.1≠x):HalfI l x (doB ps (stepF ps p nx).2.eds) (stepF ps p nx).1 (if (stepF ps p nx).2.used then nx+1 else nx)∧(stepF ps p nx).2.err=0:=by
 obtain ⟨T,d,h1,h2,h3,h4⟩:=h
 have hle:=h3.len
 rw [ents_len] at hle
 obtain ⟨T',g1,g2,g3,g4,g5⟩:=h1.step h2 (N:=61) (by omega) (by omega) h4
 exact ⟨⟨T',d,g1,g2,h3.step h1.tr g5 hx,h4⟩,g4⟩
theorem grown_gs (l:List Int):∃ T nx,GS 0 (grownF l) T nx∧(lfs T).Perm (entsG l (min l.length 90)):=by
 obtain ⟨T,h1,h2⟩:=grown_tr l (min l.length 90) (by omega)
 exact ⟨T, _,h1,h2⟩
/-- other fresh pages -/
theorem GS.shift {d nx nx':Int} {ps:List PgS} {T:List (List AbN)} (h:GS d ps T nx) (h1:nx≤nx'):GS (nx' - ((pgsA T).length:Int)) ps T nx':=⟨h.tr,h.its,h.len,h.occ,fun q hq=>by have:=h.pg q hq; omega,by omega,by have:=h.cnt; have:=h.d0; omega⟩
theorem half_start {l:List Int} (hl:l.length≤60) (k:ByteArray):HalfI l (entF k 50 1) (grownF l) (putT 0 k 50 1) 40:=by
 obtain ⟨T,nx,h1,h2⟩:=grown_gs l
 rw [show min l.length 90=l.length by omega] at h2
 have hlen:(lfs T).length≤60:=by rw [h2.length_eq,ents_len]; exact hl
 have hpg:=(h1.pages (N:=60) hlen (by omega)).1
 have e19:PM 60=19:=rfl
 have e61:PM 61=19:=rfl
 have hP:1≤(pgsA T).length:=by
  obtain ⟨T0,r,e, _, _,h2⟩:=h1.tr.root
  exact List.length_pos_of_mem (pgs_mem h2 (a:=r) (by simp))
 have hc:=h1.cnt
 have htask:TaskOk T (entF k 50 1,0,0):=⟨by show 4≤(entF _ _ _).size; rw [entF_size]; omega, .inl rfl⟩
 refine ⟨T, _,h1.shift (nx':=40) (by omega),⟨rfl,fun t l' e=>(by injection e with e1 e2; subst e1; exact pos_root h1.tr htask),fun t ht=>(by rw [List.mem_singleton.1 ht]; exact htask)⟩, .inl ⟨[],rfl,(fun t ht=>nomatch ht),h2,rfl⟩,by omega⟩
theorem half_check {l:List Int} {x:ByteArray} {ps:List PgS} {p:PuT} {nx:Int} (h:HalfI l x ps p nx):checkF ps 0=0:=by
 obtain ⟨T,d,h1, _⟩:=h
 exact h1.tr.check (by rw [h1.len]; omega)
theorem half_len {l:List Int} {x:ByteArray} {ps:List PgS} {p:PuT} {nx:Int} (h:HalfI l x ps p nx):(allF ps 0).length=l.length+(if 0≤p.leaf then 1 else 0):=by
 obtain ⟨T,d,h1, _,h3, _⟩:=h
 rw [← List.length_map (f:=kv),h1.tr.all (by rw [h1.len]; omega)]
 rcases h3 with ⟨_, _, _,h,h4⟩ | ⟨_,h,h4⟩
 ·rw [h.length_eq,ents_len,if_neg (by omega)]; rfl
 ·rw [h.length_eq,List.length_cons,ents_len,if_pos h4]
theorem half_rm {l:List Int} {x:ByteArray} {ps:List PgS} {p:PuT} {nx:Int} (h:HalfI l x ps p nx) {i:Nat} (hi:i < l.length):(rmF ps 0 (entG l i)).2=true:=by
 obtain ⟨T,d,h1, _,h3, _⟩:=h
 have h4:4≤(entG l i).size:=by rw [entG,entF_size]; omega
 obtain ⟨T', _, _,g3, _⟩:=h1.tr.rm (x:=entG l i) h4 (by rw [h1.len]; omega) h1.its
 refine g3.2 ⟨(entG l i, -1),?_,rfl⟩
 have hm:(entG l i,(-1:Int))∈entsG l l.length:=List.mem_map.2 ⟨i,List.mem_range.2 hi,rfl⟩
 rcases h3 with ⟨_, _, _,h, _⟩ | ⟨_,h, _⟩
 ·exact h.mem_iff.2 hm
 ·exact h.mem_iff.2 (List.mem_cons_of_mem _ hm)
end
section
open Go.RowKit
theorem tkK_one (l:List TaT):∀ u∈l.flatMap tkK,Value.oneCell' u=true:=fun u hu=>by
 obtain ⟨p, _,hp⟩:=List.mem_flatMap.1 hu
 simp only [tkK,List.mem_cons,List.not_mem_nil,or_false] at hp
 rcases hp with rfl | rfl | rfl | rfl<;>rfl
theorem tkK_snoc (l:List TaT) (t:TaT):l.flatMap tkK++tkK t=(l++[t]).flatMap tkK:=by simp
theorem Try.infoTkK:(Try.prog.info? 106).map (fun i=>(i.zero,i.size,i.bytes))=some (some (.agg #[.string ByteArray.empty, .int .i64 0, .int .i64 0, .int .i64 0]),4,40):=by kernel_rfl
def TkPost (l:List TaT) (w:World) (e:Ending) (w':World):Prop:=∃ A c,e= .returned (.slice A l.length c)∧w'.ownsRow w.heap.size 106 4 (.slice A l.length c) l.length (l.flatMap tkK)∧Ext w w'
/-- a split: the block of the insertion, its pending entries, the edits -/
def CkPost (b:Nat) (cells:Option Addr→Nat→Array Value) (l:List TaT) (eds:List EdT) (w:World) (e:Ending) (w':World):Prop:=∃ A c LA lc,e= .returned (.slice A eds.length c)∧St w [b] [eB b 109 (cells LA lc),eO 106 4 (.slice LA l.length lc) l.length (l.flatMap tkK),eO 99 3 (.slice A eds.length c) eds.length (eds.flatMap edC)] w'
theorem kclone_any (la:Addr) (ln lc:Nat) (lf:List TaT) (w:World) (hL:At w (some la) (lf.flatMap tkK)) (hln:lf.length=ln) (hlnb:ln≤10000):
  Calls Try.prog 84 #[.slice ((some la)) ln lc] w (TkPost lf w):=by
 go_enter Try.func84,Try.ntmps84
 have hst0:=St.start w
 refine wp_seq (sqr (sqp [.k 2 (.slice none 0 0)] ?_))
 refine then_normal (wp_seq (wp_seq (sqr (sqp [.m 3 0, .k 4 (.bool false)] ?_))))
 refine then_normal (wcf rfl (wp_skip (then_normal (wp_seq (sqr ?_)))))
 refine sqli 106 4 0 [] hst0 (@fun ρ β W X cx=>by simp [go_sem]) fun B5_4 W4 hst4=>?_
 refine sqp [.m 6 0] ?_
 refine sqap ln (lf.flatMap tkK) 0 hst4 Try.infoTkK (fun cx=>(hL.ext cx.upd.to_ext)) (hl:=by rw [flatLen tkK_len,hln]) (h1:=tkK_one _) fun A7_6 c7_6 W6 hst6=>?_
 refine sqp [.m 2 7] ?_
 refine then_normal (wp_ret ?_)
 refine bpr (.slice A7_6 ln c7_6) (results_1 Try.results84 rpt) ?_
 have ho_:=hst6.own' 0 rfl
 rw [← hln] at ho_ ⊢
 exact ⟨_, _,rfl,ho_,hst6.ext⟩
theorem kcut_any (b:Nat) (root pos leaf fro to:Int) (spl:Bool) (la:Addr) (ln lc:Nat) (nd:NoD) (np pg:Int) (EA:Option Addr) (ec:Nat) (lf:List TaT) (w:World) (hb:Blk w b 109 #[.int .i64 root, .int .i64 pos, .int .i64 leaf, .slice ((some la)) ln lc, .int .i64 fro, .int .i64 to, .bool spl]) (hE:∀ W,Upd [b] w W→At W EA (nd.es.flatMap enC)) (hez:∀ e∈nd.es,e.1.size≤1000000) (hnb:nd.es.length≤1000) (hlv:0≤nd.lv∧nd.lv≤255) (hpg:0≤pg∧pg≤1000000) (hes:0 < nd.es.length) (hec:nd.es.length≤ec) (hrt: -1≤nd.right∧nd.right≤1000000) (hhi:nd.high.size≤1000000) (hdd:nd.dead=false) (hL:∀ W,Upd [b] w W→At W (some la) (lf.flatMap tkK)) (hln:lf.length=ln) (hlnb:ln≤10000):
  Calls Try.prog 53 #[.pointer (some ⟨b,0,none⟩), .agg #[.int .i64 np, .int .i64 nd.lv, .int .i64 nd.right, .string nd.high, .bool nd.dead, .slice EA nd.es.length ec, .int .i64 ((nd.free:Int))], .int .i64 pg] w (CkPost b (fun LA' lc'=>#[.int .i64 root, .int .i64 pos, .int .i64 leaf, .slice (LA') ((ln+1)) (lc'), .int .i64 ((if nd.lv=0 then np else fro)), .int .i64 ((if nd.lv=0 then pg else to)), .bool ((if nd.lv=0 then true else spl))]) (lf++[(midE nd,nd.lv+1,pg)]) (cutE np nd pg) w):=by
 obtain ⟨hf,hhf⟩:∃ k:Nat,nd.es.length / 2=k:=⟨_,rfl⟩
 have hcl_:=clearE_len np (nd.es.drop hf)
 have hfl_:=freshE_len pg nd.lv nd.right nd.high (nd.es.drop hf)
 have hdl_:(nd.es.drop hf).length=nd.es.length - hf:=List.length_drop
 rw [hdl_] at hcl_ hfl_
 have hez2:∀ e∈nd.es.drop hf,e.1.size≤1000000:=fun e he=>hez e (List.mem_of_mem_drop he)
 have hmz:=getD_size hez2 0
 have st0:=St.lend (E:=eB b 109 #[.int .i64 root, .int .i64 pos, .int .i64 leaf, .slice ((some la)) ln lc, .int .i64 fro, .int .i64 to, .bool spl]) hb (eB_loc _ _ _) (fun k hk=>by simp [eB] at hk; subst hk; exact hb.lt)
 go_enter Try.func53,Try.ntmps53
 have hst0:=st0
 refine wp_seq (sqr ?_)
 refine sqbx #[vi np,vi nd.lv,vi nd.right, .string nd.high, .bool nd.dead, .slice EA nd.es.length ec,vi ((nd.free:Int))] hst0 fun B4_1 W1 hst1=>?_
 refine sqp [.k 6 (.slice none 0 0)] ?_
 refine then_normal (wp_seq (sqr (sqp [.k 10 (.pointer (some ⟨B4_1,5,none⟩))] ?_)))
 refine sqld 1 hst1 ?_
 refine sqp [.k 12 (vi ((nd.es.length:Int))),sQu 13 .i64 (nd.es.length:Int) 2 ((nd.es.length:Int) / 2) (by rw [Int.tdiv_eq_ediv_of_nonneg (by omega)]; exact IntWalk.i64_in _ (by omega)), .m 7 13] ?_
 refine then_normal (wp_seq ?_)
 obtain ⟨z8_,hN_z8_⟩:∃ z,(nd.es.length:Int) / 2=z:=⟨_,rfl⟩
 rw [hN_z8_]
 obtain rfl:z8_=(hf:Int):=by omega
 refine sqr (sqp [.k 14 (.pointer (some ⟨B4_1,5,none⟩))] ?_)
 refine sqld 1 hst1 ?_
 refine sqp [.m 16 7] ?_
 refine sql (.slice ((if ec=hf then EA else EA.map (·.add (hf*3)))) ((nd.es.length - hf)) ((ec - hf))) hst1 (fun cx=>run_sliceL_lo (e:=104) (sz:=3) (l:=hf) rfl (by kernel_rfl) (by kernel_rfl) (cx.ou 15) (cx.ou 16) (by omega) (by omega)) ?_
 refine sqp [.m 8 17] ?_
 refine then_normal (wp_seq (sqr (sqp [.m 18 2, .k 19 (.pointer (some ⟨B4_1,1,none⟩))] ?_)))
 refine sqld 1 hst1 ?_
 refine sqp [.k 21 (.pointer (some ⟨B4_1,2,none⟩))] ?_
 refine sqld 1 hst1 ?_
 refine sqp [.k 23 (.pointer (some ⟨B4_1,3,none⟩))] ?_
 refine sqld 1 hst1 ?_
 refine sqp [.m 25 8, .k 26 (.agg #[vi 0,vi nd.lv,vi nd.right, .string nd.high, .bool false, .slice ((if ec=hf then EA else EA.map (·.add (hf*3)))) ((nd.es.length - hf)) ((ec - hf)),vi 0])] ?_
 refine sqk2 (fun A27_23 c27_23=> .slice A27_23 ((freshE pg nd.lv nd.right nd.high (nd.es.drop hf)).length) c27_23) (fun A27_23 c27_23=>eO 99 3 (.slice A27_23 ((freshE pg nd.lv nd.right nd.high (nd.es.drop hf)).length) c27_23) ((freshE pg nd.lv nd.right nd.high (nd.es.drop hf)).length) ((freshE pg nd.lv nd.right nd.high (nd.es.drop hf)).flatMap edC)) hst1 (fun cx=>⟨_,(kfresh_any pg 0 nd.lv nd.right 0 nd.high _ _ _ (nd.es.drop hf) _ (At.dropF (ts:=nd.es) enC_len (hE _ cx.upd) hf ec hec) hdl_ hez2 (by omega) (by omega) (by omega) (by omega)).mono (by rintro e W1 ⟨A4,c4,rfl,ho_,hx⟩; exact ⟨_, _,rfl,St.one hx (eO_new (n:=(freshE pg nd.lv nd.right nd.high (nd.es.drop hf)).length) (xs:=(freshE pg nd.lv nd.right nd.high (nd.es.drop hf)).flatMap edC) ho_)⟩),(map2 (cx.ou 18) (cx.ou 26))⟩) fun A27_23 c27_23 W23 hst23=>?_
 refine sqp [.m 9 27] ?_
 refine then_normal (wp_seq (wp_region_Y [0,0,2,6,14,1,33,127,255] [[],[],[],[],[],[],[1],[],[3]] [[],[],[],[],[],[],[3],[],[4]] [[],[],[],[],[],[],[1],[],[3]] [.k 28 (vi pg), .k 29 (.slice ((if ec=hf then EA else EA.map (·.add (hf*3)))) ((nd.es.length - hf)) ((ec - hf))), .c 30 (.pointer (some ((ad ((if ec=hf then EA else EA.map (·.add (hf*3))))).add (0*3)))), .c 31 (.pointer (some ((ad ((if ec=hf then EA else EA.map (·.add (hf*3))))).add (0*3+0)))), .c 32 (.string (((nd.es.drop hf).getD 0 en0).1)), .k 33 (.pointer (some ⟨B4_1,2,none⟩)), .n, .k 34 (.pointer (some ⟨B4_1,3,none⟩)), .n] (fun ix σ β X=>match ix with | 0=>True | 1=>True | 2=>True | 3=>True | 4=>True | 5=>True | 6=>X 3=eB B4_1 116 #[vi np,vi nd.lv,vi pg, .string nd.high, .bool nd.dead, .slice EA nd.es.length ec,vi ((nd.free:Int))] | 7=>True | 8=>X 4=eB B4_1 116 #[vi np,vi nd.lv,vi pg, .string (((nd.es.drop hf).getD 0 en0).1), .bool nd.dead, .slice EA nd.es.length ec,vi ((nd.free:Int))] | _=>True) [0,2,4] [2,3,4,6,8] [(28,0,8,35)] hst23 ?_ ?_ ?_))
 ·exact fun ix _ _ _ _ _ _ hs hb hx h=>match ix,h with
  | 6,h=>by dsimp only; rw [← hx 3 rfl]; exact h
  | 8,h=>by dsimp only; rw [← hx 4 rfl]; exact h
  | 0, _ | 1, _ | 2, _ | 3, _ | 4, _ | 5, _ | 7, _ | _+9, _=>trivial
 ·refine ⟨?_,?_,?_,?_,?_,trivial⟩
  ·exact xs4 rfl id fun cx=>run_indexSlM (e:=104) (m:=0) (sz:=3) rfl (by kernel_rfl) (by kernel_rfl) (cx.an 1) (cx.co _) (by omega) (by omega) (At.dropF (ts:=nd.es) enC_len (hE _ cx.upd) hf ec hec) (flatPos (sz:=3) enC_len (by decide) (by omega))
  ·exact xs4 rfl id fun cx=>run_fieldAd rfl (by kernel_rfl) (cx.an 2)
  ·exact xs4 rfl id fun cx=>run_load1 rfl (by kernel_rfl) (cx.an 3) (At.eltc (f:=enC) (k:=0) enC_len (At.dropF (ts:=nd.es) enC_len (hE _ cx.upd) hf ec hec) (en_get (by rw [List.length_drop]; omega)) rfl)
  ·refine svA fun ρ β W X cx=>?_
   exact dv_store (n:=1) rfl (cx.an 5) (cx.an 0) (by kernel_rfl) (by kernel_rfl) (by kernel_rfl) cx (cx.init 1 _ rfl) rfl (nle rfl) (by kernel_rfl) rfl rfl rfl (fun σ β' X' hs hb hx=>hx)
  ·refine svA fun ρ β W X cx=>?_
   exact dv_store (n:=1) rfl (cx.an 7) (cx.an 4) (by kernel_rfl) (by kernel_rfl) (by kernel_rfl) cx (dTn (cx.an 6)) rfl (nle rfl) (by kernel_rfl) rfl rfl rfl (fun σ β' X' hs hb hx=>hx)
 intro σ β X W25 hD hst25 fr hfr
 simp only [exq 4 ((dTn (hD 8 lq)))] at hst25
 clear hD; subst hfr; clear σ β X
 refine then_normal (wp_seq (wp_region_Y [0,0,2,0,8,30,62,127,255] [[],[],[2],[2],[],[],[],[3,1]] [[],[],[],[],[],[],[3],[4]] [[],[],[],[],[],[],[],[1]] [.k 35 (.slice A27_23 ((freshE pg nd.lv nd.right nd.high (nd.es.drop hf)).length) c27_23), .k 36 (vp B4_1), .c 37 (vi np), .c 38 (.agg #[vi np,vi nd.lv,vi pg, .string (((nd.es.drop hf).getD 0 en0).1), .bool nd.dead, .slice EA nd.es.length ec,vi ((nd.free:Int))]), .c 39 (.string (hdB nd.lv pg nd.dead (((nd.es.drop hf).getD 0 en0).1))), .k 40 (.agg #[vi np,vi 0, .string (hdB nd.lv pg nd.dead (((nd.es.drop hf).getD 0 en0).1))]), .a 41, .a 42, .a 9] (fun ix σ β X=>match ix with | 0=>True | 1=>True | 2=>True | 3=>True | 4=>True | 5=>True | 6=>σ 41= .slice ((some ⟨(pb' (β 41)),0,none⟩)) 1 1∧X 3=eO 99 3 (.slice ((some ⟨(pb' (β 41)),0,none⟩)) 1 1) 1 (edC (np,0,hdB nd.lv pg nd.dead (((nd.es.drop hf).getD 0 en0).1))) | 7=>σ 42= .slice (sA (β 42)) ((freshE pg nd.lv nd.right nd.high (nd.es.drop hf)).length+1) (sC (β 42))∧X 4=eO 99 3 (.slice (sA (β 42)) ((freshE pg nd.lv nd.right nd.high (nd.es.drop hf)).length+1) (sC (β 42))) ((freshE pg nd.lv nd.right nd.high (nd.es.drop hf)).length+1) (((freshE pg nd.lv nd.right nd.high (nd.es.drop hf))++[(np,0,hdB nd.lv pg nd.dead (((nd.es.drop hf).getD 0 en0).1))]).flatMap edC) | 8=>σ 9= .slice (sA (β 42)) ((freshE pg nd.lv nd.right nd.high (nd.es.drop hf)).length+1) (sC (β 42)) | _=>True) [0,2,3,4] [2,3,4,6,7,8] [(9,8,1,10),(25,0,8,33)] hst25 ?_ ?_ ?_))
 ·exact fun ix _ _ _ _ _ _ hs hb hx h=>match ix,h with
  | 6,h=>by dsimp only; rw [← hs 41 rfl,← hb 41 rfl,← hx 3 rfl]; exact h
  | 7,h=>by dsimp only; rw [← hs 42 rfl,← hb 42 rfl,← hx 4 rfl]; exact h
  | 8,h=>by dsimp only; rw [← hs 9 rfl,← hb 42 rfl]; exact h
  | 0, _ | 1, _ | 2, _ | 3, _ | 4, _ | 5, _ | _+9, _=>trivial
 ·refine ⟨?_,?_,?_,?_,?_,?_,trivial⟩
  ·exact xs4 rfl id fun cx=>run_load1 rfl (by kernel_rfl) (cx.an 1) ((cx.bi 2 rfl).cell 0)
  ·exact xs4 rfl id fun cx=>run_loadB (n:=7) rfl (by kernel_rfl) (by kernel_rfl) (cx.ou 4) (cx.bi 2 rfl) (nle rfl) rfl
  ·exact xsc rfl id rfl rfl fun cx=>⟨_,khead_le np nd.lv pg (nd.free:Int) (((nd.es.drop hf).getD 0 en0).1) nd.dead _ _ _ _ (by omega) (by omega) (by first | omega | decide),(map1 (cx.an 3))⟩
  ·refine svA fun ρ β W X cx=>?_
   have fF40:ρ (.tmp 40)= .agg #[vi np,vi 0, .string (hdB nd.lv pg nd.dead (((nd.es.drop hf).getD 0 en0).1))]:=(cx.an 5)
   exact dv_litN (e:=99) (sz:=3) (xs:=[vi np,vi 0, .string (hdB nd.lv pg nd.dead (((nd.es.drop hf).getD 0 en0).1))]) rfl (by simp [go_sem,fF40]) rfl (by decide) rfl rfl (fun σ β' X' hs hb hv hx=>⟨hv,hx⟩)
  ·refine svA fun ρ β W X cx=>?_
   obtain ⟨i0,hi0,hz0,hz1,hz2⟩:=info_parts Try.infoEdit
   refine dv_appendN (n:=(freshE pg nd.lv nd.right nd.high (nd.es.drop hf)).length) (m:=1) (nm:=(freshE pg nd.lv nd.right nd.high (nd.es.drop hf)).length+1) (sz:=3) (xs:=(freshE pg nd.lv nd.right nd.high (nd.es.drop hf)).flatMap edC) (news:=edC (np,0,hdB nd.lv pg nd.dead (((nd.es.drop hf).getD 0 en0).1))) (xs':=((freshE pg nd.lv nd.right nd.high (nd.es.drop hf))++[(np,0,hdB nd.lv pg nd.dead (((nd.es.drop hf).getD 0 en0).1))]).flatMap edC) rfl (ty:=34) rfl (by kernel_rfl) hi0 hz0 hz1 hz2 rfl (by decide) (cx.an 0) cx (cx.init 1 _ rfl) rfl (dTn (cx.an 6)).1 (by rfl) (At.of_ownN (cx.row (dTn (cx.an 6)).2 rfl)) (by simp [edC,tkK,Value.oneCell']) (by simp only [maxLen]; omega) (by omega) rfl rfl rfl (by omega) (ed_snoc _ _) (fun σ β' X' hs hb hv hx=>?_)
   exact ⟨hv,hx⟩
  ·exact sv rfl rfl rfl rfl rfl _ (fun _ _ _ h=>h) (fun β β' h=>by rw [h 42 (by decide)]) fun ρ β W X cx=>run_assign' rfl (dTn (cx.an 7)).1
 intro σ β X W26 hD hst26 fr hfr
 obtain ⟨B41_26,hu_B41_26⟩:∃ z,pb' (β 41)=z:=⟨_,rfl⟩
 obtain ⟨A42_26,hu_A42_26⟩:∃ z,sA (β 42)=z:=⟨_,rfl⟩
 obtain ⟨c42_26,hu_c42_26⟩:∃ z,sC (β 42)=z:=⟨_,rfl⟩
 simp only [exq 3 ((dTn (hD 6 lq)).2),exq 4 ((dTn (hD 7 lq)).2),hu_B41_26,hu_A42_26,hu_c42_26] at hst26
 simp only [ed 41 ((dTn (hD 6 lq)).1),ed 42 ((dTn (hD 7 lq)).1),ed 9 ((dTn (hD 8 lq))),hu_B41_26,hu_A42_26,hu_c42_26] at hfr
 clear hD hu_B41_26 hu_A42_26 hu_c42_26; subst hfr; clear σ β X
 refine then_normal (wp_seq (wp_region_Y [0,0,2,6,14,30,0,64,192,448,0,1984,0,4096,12288,32704,65472,131070,262143,524287,1048575] [[],[],[],[],[0],[],[],[],[],[],[],[],[],[1],[],[],[],[5,4],[],[],[0]] [[],[],[],[],[],[4],[],[],[],[],[],[],[],[],[],[],[5],[6],[],[],[7]] [[],[],[],[],[],[],[],[],[],[],[],[],[],[],[],[],[],[4],[],[],[0]] [.k 43 (vp b), .k 44 (vp b), .k 45 (vp b), .k 46 (.pointer (some ⟨b,3,none⟩)), .c 47 (.slice ((some la)) ln lc), .a 48, .k 49 (.slice ((if ec=hf then EA else EA.map (·.add (hf*3)))) ((nd.es.length - hf)) ((ec - hf))), .c 50 (.pointer (some ((ad ((if ec=hf then EA else EA.map (·.add (hf*3))))).add (0*3)))), .c 51 (.pointer (some ((ad ((if ec=hf then EA else EA.map (·.add (hf*3))))).add (0*3+0)))), .c 52 (.string (((nd.es.drop hf).getD 0 en0).1)), .k 53 (vi pg), .k 54 (.agg #[.string (((nd.es.drop hf).getD 0 en0).1),vi 0,vi pg]), .k 55 (.pointer (some ⟨B4_1,1,none⟩)), .c 56 (vi nd.lv),tI 57 (nd.lv+1) (by omega), .k 58 (.agg #[.string (((nd.es.drop hf).getD 0 en0).1),vi 0,vi pg,vi (nd.lv+1)]), .a 59, .a 60, .k 61 (vp b), .k 62 (.pointer (some ⟨b,3,none⟩)), .n] (fun ix σ β X=>match ix with | 0=>True | 1=>True | 2=>True | 3=>True | 4=>True | 5=>σ 48= .slice (sA (β 48)) lf.length (sC (β 48))∧X 4=eO 106 4 (.slice (sA (β 48)) lf.length (sC (β 48))) lf.length (lf.flatMap tkK) | 6=>True | 7=>True | 8=>True | 9=>True | 10=>True | 11=>True | 12=>True | 13=>True | 14=>True | 15=>True | 16=>σ 59= .slice ((some ⟨(pb' (β 59)),0,none⟩)) 1 1∧X 5=eO 106 4 (.slice ((some ⟨(pb' (β 59)),0,none⟩)) 1 1) 1 (tkK (((nd.es.drop hf).getD 0 en0).1,nd.lv+1,pg)) | 17=>σ 60= .slice (sA (β 60)) (lf.length+1) (sC (β 60))∧X 6=eO 106 4 (.slice (sA (β 60)) (lf.length+1) (sC (β 60))) (lf.length+1) ((lf++[(((nd.es.drop hf).getD 0 en0).1,nd.lv+1,pg)]).flatMap tkK) | 18=>True | 19=>True | 20=>X 7=eB b 109 #[vi root,vi pos,vi leaf, .slice (sA (β 60)) (lf.length+1) (sC (β 60)),vi fro,vi to, .bool spl] | _=>True) [1,2,3,5,6,7] [4,5,7,8,9,13,16,17,20] [(43,0,20,63)] hst26 ?_ ?_ ?_))
 ·exact fun ix _ _ _ _ _ _ hs hb hx h=>match ix,h with
  | 5,h=>by dsimp only; rw [← hs 48 rfl,← hb 48 rfl,← hx 4 rfl]; exact h
  | 16,h=>by dsimp only; rw [← hs 59 rfl,← hb 59 rfl,← hx 5 rfl]; exact h
  | 17,h=>by dsimp only; rw [← hs 60 rfl,← hb 60 rfl,← hx 6 rfl]; exact h
  | 20,h=>by dsimp only; rw [← hb 60 rfl,← hx 7 rfl]; exact h
  | 0, _ | 1, _ | 2, _ | 3, _ | 4, _ | 6, _ | 7, _ | 8, _ | 9, _ | 10, _ | 11, _ | 12, _ | 13, _ | 14, _ | 15, _ | 18, _ | 19, _ | _+21, _=>trivial
 ·refine ⟨?_,?_,?_,?_,?_,?_,?_,?_,?_,trivial⟩
  ·exact xs4 rfl id fun cx=>run_load1 rfl (by kernel_rfl) (cx.an 3) ((cx.bi 0 rfl).cell 3)
  ·refine svA fun ρ β W X cx=>?_
   refine DoesU.call (run_callF (args:=#[.slice ((some la)) ln lc]) rfl cx.sees rfl (by kernel_rfl) (map1 (cx.an 4))) ?_
   refine (kclone_any la ln lc lf _ (hL _ cx.upd) hln hlnb).mono ?_
   rintro e W1 ⟨A4,c4,rfl,ho_,hx⟩
   refine ⟨_,rfl,post_call [eO 106 4 (.slice A4 lf.length c4) lf.length (lf.flatMap tkK)] rfl rfl hx (one_new (eO_new (n:=lf.length) (xs:=lf.flatMap tkK) ho_)) (List.pairwise_singleton _ _) (fun σ β' X' hs hb hv hN=>?_)⟩
   have hv1:=(hv 48 rfl).1; have hv2:=(hv 48 rfl).2
   exact ⟨hv1.trans (by rw [hv2]; rfl),(by rw [hv2]; exact (List.cons.inj hN).1)⟩
  ·exact xs4 rfl id fun cx=>run_indexSlM (e:=104) (m:=0) (sz:=3) rfl (by kernel_rfl) (by kernel_rfl) (cx.an 6) (cx.co _) (by omega) (by omega) (At.dropF (ts:=nd.es) enC_len (hE _ cx.upd) hf ec hec) (flatPos (sz:=3) enC_len (by decide) (by omega))
  ·exact xs4 rfl id fun cx=>run_fieldAd rfl (by kernel_rfl) (cx.an 7)
  ·exact xs4 rfl id fun cx=>run_load1 rfl (by kernel_rfl) (cx.an 8) (At.eltc (f:=enC) (k:=0) enC_len (At.dropF (ts:=nd.es) enC_len (hE _ cx.upd) hf ec hec) (en_get (by rw [List.length_drop]; omega)) rfl)
  ·exact xs4 rfl id fun cx=>run_load1 rfl (by kernel_rfl) (cx.an 12) ((cx.bi 1 rfl).cell 1)
  ·refine svA fun ρ β W X cx=>?_
   have fF58:ρ (.tmp 58)= .agg #[.string (((nd.es.drop hf).getD 0 en0).1),vi 0,vi pg,vi (nd.lv+1)]:=(cx.an 15)
   exact dv_litN (e:=106) (sz:=4) (xs:=[.string (((nd.es.drop hf).getD 0 en0).1),vi 0,vi pg,vi (nd.lv+1)]) rfl (by simp [go_sem,fF58]) rfl (by decide) rfl rfl (fun σ β' X' hs hb hv hx=>⟨hv,hx⟩)
  ·refine svA fun ρ β W X cx=>?_
   obtain ⟨i0,hi0,hz0,hz1,hz2⟩:=info_parts Try.infoTkK
   refine dv_appendN (n:=lf.length) (m:=1) (nm:=lf.length+1) (sz:=4) (xs:=lf.flatMap tkK) (news:=tkK (((nd.es.drop hf).getD 0 en0).1,nd.lv+1,pg)) (xs':=(lf++[(((nd.es.drop hf).getD 0 en0).1,nd.lv+1,pg)]).flatMap tkK) rfl (ty:=107) rfl (by kernel_rfl) hi0 hz0 hz1 hz2 rfl (by decide) (dTn (cx.an 5)).1 cx (dTn (cx.an 5)).2 rfl (dTn (cx.an 16)).1 (by rfl) (At.of_ownN (cx.row (dTn (cx.an 16)).2 rfl)) (by simp [edC,tkK,Value.oneCell']) (by simp only [maxLen]; omega) (by omega) rfl rfl rfl (by omega) (tkK_snoc _ _) (fun σ β' X' hs hb hv hx=>?_)
   exact ⟨hv,hx⟩
  ·refine svA fun ρ β W X cx=>?_
   exact dv_store (n:=1) rfl (cx.an 19) (dTn (cx.an 17)).1 (by kernel_rfl) (by kernel_rfl) (by kernel_rfl) cx (cx.init 0 _ rfl) rfl (nle rfl) (by kernel_rfl) rfl rfl rfl (fun σ β' X' hs hb hx=>by rw [hb 60]; exact hx)
 intro σ β X W27 hD hst27 fr hfr
 obtain ⟨A48_27,hu_A48_27⟩:∃ z,sA (β 48)=z:=⟨_,rfl⟩
 obtain ⟨c48_27,hu_c48_27⟩:∃ z,sC (β 48)=z:=⟨_,rfl⟩
 obtain ⟨B59_27,hu_B59_27⟩:∃ z,pb' (β 59)=z:=⟨_,rfl⟩
 obtain ⟨A60_27,hu_A60_27⟩:∃ z,sA (β 60)=z:=⟨_,rfl⟩
 obtain ⟨c60_27,hu_c60_27⟩:∃ z,sC (β 60)=z:=⟨_,rfl⟩
 simp only [exq 5 ((dTn (hD 16 lq)).2),exq 6 ((dTn (hD 17 lq)).2),exq 7 ((dTn (hD 20 lq))),hu_A48_27,hu_c48_27,hu_B59_27,hu_A60_27,hu_c60_27] at hst27
 simp only [ed 48 ((dTn (hD 5 lq)).1),ed 59 ((dTn (hD 16 lq)).1),ed 60 ((dTn (hD 17 lq)).1),hu_A48_27,hu_c48_27,hu_B59_27,hu_A60_27,hu_c60_27] at hfr
 clear hD hu_A48_27 hu_c48_27 hu_B59_27 hu_A60_27 hu_c60_27; subst hfr; clear σ β X
 refine then_normal (wp_seq (wp_seq (sqr (sqp [.k 63 (.pointer (some ⟨B4_1,1,none⟩))] ?_))))
 refine sqld 0 hst27 ?_
 refine sqp [.k 65 (.bool (nd.lv==0))] ?_
 refine then_normal (wbs (fun hs31=>?_) fun hs31=>?_)
 ·have hs31p:=beq_iff_eq.1 hs31
  refine sqr (sqp [.m 66 0, .m 67 0, .m 68 0, .k 69 (vp B4_1)] ?_)
  refine sqld 0 hst27 ?_
  refine sqp [.m 71 2, .k 72 (vp b), .k 73 (.pointer (some ⟨b,4,none⟩))] ?_
  refine sqst (n:=1) 5 #[vi root,vi pos,vi leaf, .slice A60_27 (lf.length+1) c60_27,vi np,vi to, .bool spl] hst27 fun W40 hst40=>?_
  refine sqp [.k 74 (vp b), .k 75 (.pointer (some ⟨b,5,none⟩))] ?_
  refine sqst (n:=1) 5 #[vi root,vi pos,vi leaf, .slice A60_27 (lf.length+1) c60_27,vi np,vi pg, .bool spl] hst40 fun W43 hst43=>?_
  refine sqp [.k 76 (vp b), .k 77 (.pointer (some ⟨b,6,none⟩))] ?_
  refine sqst (n:=1) 5 #[vi root,vi pos,vi leaf, .slice A60_27 (lf.length+1) c60_27,vi np,vi pg, .bool true] hst43 fun W46 hst46=>?_
  refine then_normal (wp_seq (sqr (sqp [.m 78 9, .k 79 (vp B4_1)] ?_)))
  refine sqld 0 hst46 ?_
  refine sqp [.m 81 8] ?_
  refine sqk2 (fun G82_51 c82_51=> .slice ((some ⟨G82_51,0,none⟩)) ((clearE np (nd.es.drop hf)).length) c82_51) (fun G82_51 c82_51=>eO 99 3 (.slice ((some ⟨G82_51,0,none⟩)) ((clearE np (nd.es.drop hf)).length) c82_51) ((clearE np (nd.es.drop hf)).length) ((clearE np (nd.es.drop hf)).flatMap edC)) hst46 (fun cx=>⟨_,(ed_some (by omega) (kclear_any np _ _ _ (nd.es.drop hf) _ (At.dropF (ts:=nd.es) enC_len (hE _ cx.upd) hf ec hec) hdl_ (by omega))).mono (by rintro e W1 ⟨G4,c4,rfl,ho_,hx⟩; exact ⟨_, _,rfl,St.one hx (eO_new (n:=(clearE np (nd.es.drop hf)).length) (xs:=(clearE np (nd.es.drop hf)).flatMap edC) ho_)⟩),(map2 (cx.ou 80) (cx.ou 81))⟩) fun G82_51 c82_51 W51 hst51=>?_
  refine sqap ((freshE pg nd.lv nd.right nd.high (nd.es.drop hf)).length+1+(clearE np (nd.es.drop hf)).length) ((((freshE pg nd.lv nd.right nd.high (nd.es.drop hf))++[(np,0,hdB nd.lv pg nd.dead (((nd.es.drop hf).getD 0 en0).1))])++(clearE np (nd.es.drop hf))).flatMap edC) 2 hst51 Try.infoEdit (fun cx=>(At.of_ownN (cx.ri 6 rfl))) (hl:=by rw [flatLen edC_len]) (h1:=edC_one _) (hxs:=ed_join _ _) fun A83_52 c83_52 W52 hst52=>?_
  refine sqp [.m 6 83] ?_
  refine then_normal (wp_ret ?_)
  refine bpr (.slice A83_52 ((freshE pg nd.lv nd.right nd.high (nd.es.drop hf)).length+1+(clearE np (nd.es.drop hf)).length) c83_52) (results_1 Try.results53 rpt) ?_
  have hmd:midE nd=((nd.es.drop hf).getD 0 en0).1:=by rw [midE,hhf,getD_drop]; rfl
  have hfin:(((freshE pg nd.lv nd.right nd.high (nd.es.drop hf))++[(np,0,hdB nd.lv pg nd.dead (((nd.es.drop hf).getD 0 en0).1))])++(clearE np (nd.es.drop hf)))=cutE np nd pg:=by rw [cutE,halfE,hhf,hmd,hdd]; try rfl
  have hfl:(freshE pg nd.lv nd.right nd.high (nd.es.drop hf)).length+1+(clearE np (nd.es.drop hf)).length=(cutE np nd pg).length:=by rw [← hfin]; simp only [List.length_append,List.length_cons,List.length_nil]; try omega
  have htl0:nd.lv=0:=by have h_:=hs31; simpa using h_
  have hpk_:=hst52.pick [5,4,2] (by decide) rfl
  rw [hfin,hfl] at hpk_
  have hll:(lf++[(midE nd,nd.lv+1,pg)]).length=lf.length+1:=by rw [List.length_append]; rfl
  rw [hfl,if_pos htl0,if_pos htl0,if_pos htl0]
  exact ⟨_, _, _, _,rfl,by rw [hll,hmd,← hln]; exact hpk_⟩
 have hs31p:=beq_eq_false_iff_ne.1 hs31
 refine wp_skip (then_normal (wp_seq (sqr (sqp [.m 78 9, .k 79 (vp B4_1)] ?_))))
 refine sqld 0 hst27 ?_
 refine sqp [.m 81 8] ?_
 refine sqk2 (fun G82_58 c82_58=> .slice ((some ⟨G82_58,0,none⟩)) ((clearE np (nd.es.drop hf)).length) c82_58) (fun G82_58 c82_58=>eO 99 3 (.slice ((some ⟨G82_58,0,none⟩)) ((clearE np (nd.es.drop hf)).length) c82_58) ((clearE np (nd.es.drop hf)).length) ((clearE np (nd.es.drop hf)).flatMap edC)) hst27 (fun cx=>⟨_,(ed_some (by omega) (kclear_any np _ _ _ (nd.es.drop hf) _ (At.dropF (ts:=nd.es) enC_len (hE _ cx.upd) hf ec hec) hdl_ (by omega))).mono (by rintro e W1 ⟨G4,c4,rfl,ho_,hx⟩; exact ⟨_, _,rfl,St.one hx (eO_new (n:=(clearE np (nd.es.drop hf)).length) (xs:=(clearE np (nd.es.drop hf)).flatMap edC) ho_)⟩),(map2 (cx.ou 80) (cx.ou 81))⟩) fun G82_58 c82_58 W58 hst58=>?_
 refine sqap ((freshE pg nd.lv nd.right nd.high (nd.es.drop hf)).length+1+(clearE np (nd.es.drop hf)).length) ((((freshE pg nd.lv nd.right nd.high (nd.es.drop hf))++[(np,0,hdB nd.lv pg nd.dead (((nd.es.drop hf).getD 0 en0).1))])++(clearE np (nd.es.drop hf))).flatMap edC) 2 hst58 Try.infoEdit (fun cx=>(At.of_ownN (cx.ri 6 rfl))) (hl:=by rw [flatLen edC_len]) (h1:=edC_one _) (hxs:=ed_join _ _) fun A83_59 c83_59 W59 hst59=>?_
 refine sqp [.m 6 83] ?_
 refine then_normal (wp_ret ?_)
 refine bpr (.slice A83_59 ((freshE pg nd.lv nd.right nd.high (nd.es.drop hf)).length+1+(clearE np (nd.es.drop hf)).length) c83_59) (results_1 Try.results53 rpt) ?_
 have hmd:midE nd=((nd.es.drop hf).getD 0 en0).1:=by rw [midE,hhf,getD_drop]; rfl
 have hfin:(((freshE pg nd.lv nd.right nd.high (nd.es.drop hf))++[(np,0,hdB nd.lv pg nd.dead (((nd.es.drop hf).getD 0 en0).1))])++(clearE np (nd.es.drop hf)))=cutE np nd pg:=by rw [cutE,halfE,hhf,hmd,hdd]; try rfl
 have hfl:(freshE pg nd.lv nd.right nd.high (nd.es.drop hf)).length+1+(clearE np (nd.es.drop hf)).length=(cutE np nd pg).length:=by rw [← hfin]; simp only [List.length_append,List.length_cons,List.length_nil]; try omega
 have htl0:¬ nd.lv=0:=by have h_:=hs31; simpa using h_
 have hpk_:=hst59.pick [5,4,2] (by decide) rfl
 rw [hfin,hfl] at hpk_
 have hll:(lf++[(midE nd,nd.lv+1,pg)]).length=lf.length+1:=by rw [List.length_append]; rfl
 rw [hfl,if_neg htl0,if_neg htl0,if_neg htl0]
 exact ⟨_, _, _, _,rfl,by rw [hll,hmd,← hln]; exact hpk_⟩
end
section
open Go.RowKit
theorem b8_cases (nd:NoD) (x:ByteArray):nd.es.length < 8∨(¬ nd.es.length < 8∧hasE nd.es x=false)∨(¬ nd.es.length < 8∧hasE nd.es x=true):=by
 by_cases h:nd.es.length < 8
 ·exact .inl h
 ·cases hasE nd.es x with
  | false=>exact .inr (.inl ⟨h,rfl⟩)
  | true=>exact .inr (.inr ⟨h,rfl⟩)
/-- a split, its insertion as an entry -/
def CqPost (b:Nat) (p:PuT) (L:List EdT) (w:World) (e:Ending) (w':World):Prop:=∃ A c fp,e= .returned (.slice A L.length c)∧St w [b] [ePk b p fp,eO 99 3 (.slice A L.length c) L.length (L.flatMap edC)] w'
theorem kcut_pk (b:Nat) (root pos leaf:Int) (la:Addr) (ln lc:Nat) (nd:NoD) (np pg:Int) (EA:Option Addr) (ec:Nat) (lf:List TaT) (w:World) (hb:Blk w b 109 #[.int .i64 root, .int .i64 pos, .int .i64 leaf, .slice (some la) ln lc, .int .i64 0, .int .i64 0, .bool false])
  (hE:∀ W,Upd [b] w W→At W EA (nd.es.flatMap enC)) (hez:∀ e∈nd.es,e.1.size≤1000000) (hnb:nd.es.length≤1000) (hlv:0≤nd.lv∧nd.lv≤255) (hpg:0≤pg∧pg≤1000000) (hes:0 < nd.es.length) (hec:nd.es.length≤ec) (hrt: -1≤nd.right∧nd.right≤1000000) (hhi:nd.high.size≤1000000) (hdd:nd.dead=false) (hL:∀ W,Upd [b] w W→At W (some la) (lf.flatMap tkK)) (hln:lf.length=ln) (hlnb:ln≤10000):
  Calls Try.prog 53 #[.pointer (some ⟨b,0,none⟩), .agg #[.int .i64 np, .int .i64 nd.lv, .int .i64 nd.right, .string nd.high, .bool nd.dead, .slice EA nd.es.length ec, .int .i64 (nd.free:Int)], .int .i64 pg] w
   (CqPost b ⟨root,pos,leaf,lf++[(midE nd,nd.lv+1,pg)],if nd.lv=0 then np else 0,if nd.lv=0 then pg else 0,if nd.lv=0 then true else false⟩ (cutE np nd pg) w):=by
 refine (kcut_any b root pos leaf 0 0 false la ln lc nd np pg EA ec lf w hb hE hez hnb hlv hpg hes hec hrt hhi hdd hL hln hlnb).mono fun e w' h=>?_
 obtain ⟨A,c,LA,lc',h1,h2⟩:=h
 have hll:ln+1=(lf++[(midE nd,nd.lv+1,pg)]).length:=by rw [List.length_append,hln]; rfl
 have h3:=h2
 dsimp only at h3
 rw [hll] at h3
 obtain ⟨fp,h4⟩:=pk_new (p:=⟨root,pos,leaf,lf++[(midE nd,nd.lv+1,pg)],if nd.lv=0 then np else 0,if nd.lv=0 then pg else 0,if nd.lv=0 then true else false⟩) (g:=[]) h3 rfl
 exact ⟨A,c,fp,h1,h4⟩
theorem kstep_g (b:Nat) (tt:TypeId) (tv:Value) (root pos leaf fro to:Int) (spl:Bool) (la:Addr) (ln lc:Nat) (te:ByteArray) (tl tk:Int) (lf:List TaT) (ps:List PgS) (fresh:Int) (fp g:List Nat) (w:World) (hb:Blk w b 109 #[.int .i64 root, .int .i64 pos, .int .i64 leaf, .slice ((some la)) ln lc, .int .i64 fro, .int .i64 to, .bool spl]) (hL:∀ W,Upd [b] w W→At W (some la) (((te,tl,tk)::lf).flatMap tkK)) (hln:((te,tl,tk)::lf).length=ln) (hlc:((te,tl,tk)::lf).length≤lc) (hlnb:ln≤10000) (hS:∀ W,Upd [b] w W→PgsOk W tt tv ps) (hok:OkS ps) (hoc:OkC ps) (hfp:fp=b::g) (hbg:b∉g) (hlt:∀ k∈g,k < w.heap.size) (hla:la.block∈g) (hte:te.size≤900000) (htl:0≤tl∧tl≤90000) (hfr: -1≤fresh∧fresh≤1000000):
  Calls Try.prog 16 #[.pointer (some ⟨b,0,none⟩), .iface tt (tv), .int .i64 fresh] w (KtPost b (stepF ps ⟨root,pos,leaf,(te,tl,tk)::lf,fro,to,spl⟩ fresh) fp w):=by
 have st0:=St.lend (E:=eB b 109 #[.int .i64 root, .int .i64 pos, .int .i64 leaf, .slice ((some la)) ln lc, .int .i64 fro, .int .i64 to, .bool spl]) hb (eB_loc _ _ _) (fun k hk=>by simp [eB] at hk; subst hk; exact hb.lt)
 have hln1:1≤ln:=by rw [← hln]; simp
 have hlc1:lf.length+1≤lc:=hlc
 have hln2:lf.length+1=ln:=hln
 go_enter Try.func16,Try.ntmps16
 have hst0:=st0
 refine wp_seq (sqr (sqp [.k 6 (.slice none 0 0), .k 7 (.bool false), .k 8 (vi 0)] ?_))
 refine then_normal (wp_seq (wp_seq (sqr (sqp [.m 14 0] ?_))))
 refine sqv (.bool false) hst0 (by
   exact sv0 rfl rfl rfl rfl rfl (fun _ _ _ h=>h) fun ρ β W X cx=>by
    have fF14:ρ (.tmp 14)=vp b:=(cx.ou 14)
    simp [go_sem,cx.sees.const,fF14]) fun W5 hst5=>?_
 refine then_normal (wcf rfl (wp_skip (then_normal (wp_seq (sqr (sqp [.m 16 0, .m 17 0, .m 18 0, .k 19 (vp b), .k 20 (.pointer (some ⟨b,4,none⟩))] ?_))))))
 refine sqst (n:=1) 0 #[vi root,vi pos,vi leaf, .slice ((some la)) ln lc,vi 0,vi to, .bool spl] hst5 fun W11 hst11=>?_
 refine sqp [.k 21 (vp b), .k 22 (.pointer (some ⟨b,5,none⟩))] ?_
 refine sqst (n:=1) 0 #[vi root,vi pos,vi leaf, .slice ((some la)) ln lc,vi 0,vi 0, .bool spl] hst11 fun W14 hst14=>?_
 refine sqp [.k 23 (vp b), .k 24 (.pointer (some ⟨b,6,none⟩))] ?_
 refine sqst (n:=1) 0 #[vi root,vi pos,vi leaf, .slice ((some la)) ln lc,vi 0,vi 0, .bool false] hst14 fun W17 hst17=>?_
 refine then_normal (wp_seq (wp_seq (sqr (sqp [.m 25 0, .k 26 (vp b), .k 27 (.pointer (some ⟨b,3,none⟩))] ?_))))
 refine sqld 0 hst17 ?_
 have hd24:((ln:Int)==0)=false:=(by rw [beq_eq_false_iff_ne]; omega)
 refine sqp [.k 29 (vi ((ln:Int))), .e 30 (.bool ((ln:Int)==0)) (.bool false) (congrArg Value.bool hd24)] ?_
 refine then_normal (wcf rfl (wp_skip (then_normal (wp_seq (sqr (sqp [.m 31 0, .k 32 (vp b), .k 33 (.pointer (some ⟨b,3,none⟩))] ?_))))))
 refine sqld 0 hst17 ?_
 refine sql (.pointer (some ((ad ((some la))).add (0*4)))) hst17 (fun cx=>run_indexSlM (e:=106) (m:=0) (sz:=4) rfl (by kernel_rfl) (by kernel_rfl) (cx.ou 34) (cx.co _) (by omega) (by omega) (hL _ cx.upd) (flatPos (sz:=4) tkK_len (by decide) (by omega))) ?_
 refine sql (.agg #[.string te,vi 0,vi tk,vi tl]) hst17 (fun cx=>run_loadElt (f:=tkK) (m:=0) (sz:=4) (off:=0) (n:=4) rfl (by kernel_rfl) (by kernel_rfl) (cx.ou 35) rfl tkK_len (hL _ cx.upd) rfl (fun k hk=>match k,hk with | 0, _=>rfl | 1, _=>rfl | 2, _=>rfl | 3, _=>rfl | k+4,hk=>absurd hk (by omega))) ?_
 refine sqal #[.string ByteArray.empty,vi 0,vi 0,vi 0] hst17 fun B9_31 W31 hst31=>?_
 refine sqst (n:=4) 1 #[.string te,vi 0,vi tk,vi tl] hst31 fun W32 hst32=>?_
 refine then_normal (wp_seq ?_)
 rcases hnd:ndAt ps pos with _ | nd
 ·refine wp_region_Y [0,0,2,6,14,31,63,127,127,0,767,2047] [[],[],[],[],[0],[],[],[],[],[],[2]] [[],[],[],[],[],[],[],[],[],[2],[3]] [[],[],[],[],[],[],[],[],[],[],[2]] [.k 38 (.iface tt (tv)), .k 39 (vp b), .k 40 (vp b), .k 41 (.pointer (some ⟨b,1,none⟩)), .c 42 (vi pos), .a 43, .a 37, .a 44, .c 45 (.bool false), .a 10, .n, .k 11 (.bool false)] (fun ix σ β X=>match ix with | 0=>True | 1=>True | 2=>True | 3=>True | 4=>True | 5=>σ 43= .tuple #[.agg #[vi (iv (tg (tg (β 43) 0) 0)),vi 0,vi 0, .string ((⟨#[]⟩:ByteArray)), .bool false, .slice none 0 0,vi 0], .bool false] | 6=>σ 37= .tuple #[.agg #[vi (iv (tg (tg (β 43) 0) 0)),vi 0,vi 0, .string ((⟨#[]⟩:ByteArray)), .bool false, .slice none 0 0,vi 0], .bool false] | 7=>σ 44= .agg #[vi (iv (tg (tg (β 43) 0) 0)),vi 0,vi 0, .string ((⟨#[]⟩:ByteArray)), .bool false, .slice none 0 0,vi 0] | 8=>True | 9=>σ 10=vp (pb (β 10))∧X 2=eB (pb (β 10)) 116 #[vi 0,vi 0,vi 0, .string ByteArray.empty, .bool false, .slice none 0 0,vi 0] | 10=>X 3=eB (pb (β 10)) 116 #[vi (iv (tg (tg (β 43) 0) 0)),vi 0,vi 0, .string ((⟨#[]⟩:ByteArray)), .bool false, .slice none 0 0,vi 0] | _=>True) [0,1,3] [4,5,6,7,8,9,10] [(10,9,3,12),(25,6,1,26),(0,0,6,6),(0,7,2,2)] hst32 ?_ ?_ ?_
  ·exact fun ix _ _ _ _ _ _ hs hb hx h=>match ix,h with
   | 5,h=>by dsimp only; rw [← hs 43 rfl,← hb 43 rfl]; exact h
   | 6,h=>by dsimp only; rw [← hs 37 rfl,← hb 43 rfl]; exact h
   | 7,h=>by dsimp only; rw [← hs 44 rfl,← hb 43 rfl]; exact h
   | 9,h=>by dsimp only; rw [← hs 10 rfl,← hb 10 rfl,← hx 2 rfl]; exact h
   | 10,h=>by dsimp only; rw [← hb 10 rfl,← hb 43 rfl,← hx 3 rfl]; exact h
   | 0, _ | 1, _ | 2, _ | 3, _ | 4, _ | 8, _ | _+11, _=>trivial
  ·refine ⟨?_,?_,?_,?_,?_,?_,?_,trivial⟩
   ·exact xs4 rfl id fun cx=>run_load1 rfl (by kernel_rfl) (cx.an 3) ((cx.bi 0 rfl).cell 1)
   ·refine svA fun ρ β W X cx=>?_
    refine DoesU.call (run_callF (args:=#[.iface tt (tv),vi pos]) rfl cx.sees rfl (by kernel_rfl) (map2 (cx.an 0) (cx.an 4))) ?_
    refine (kd_no hnd (kat_any _ _ ps pos _ (hS _ cx.upd) hok hoc)).mono ?_
    rintro e W1 ⟨p4,rfl,hx⟩
    refine ⟨_,rfl,post_call [] rfl rfl hx (by simp) List.Pairwise.nil (fun σ β' X' hs hb hv hN=>?_)⟩
    have hv1:=(hv 43 rfl).1; have hv2:=(hv 43 rfl).2
    exact hv1.trans (by rw [hv2]; rfl)
   ·exact sv rfl rfl rfl rfl rfl _ (fun _ _ _ h=>h) (fun β β' h=>by rw [h 43 (by decide)]) fun ρ β W X cx=>run_move' rfl (dTn (cx.an 5))
   ·exact sv rfl rfl rfl rfl rfl _ (fun _ _ _ h=>h) (fun β β' h=>by rw [h 43 (by decide)]) fun ρ β W X cx=>run_extract' rfl (dTn (cx.an 6)) rfl
   ·exact xs4 rfl id fun cx=>run_extract' rfl (dTn (cx.an 6)) rfl
   ·refine svA fun ρ β W X cx=>?_
    exact dv_alloc (cs:=#[vi 0,vi 0,vi 0, .string ByteArray.empty, .bool false, .slice none 0 0,vi 0]) rfl (by kernel_rfl) rfl rfl (fun σ β' X' hs hb hv hx=>⟨hv,hx⟩)
   ·refine svA fun ρ β W X cx=>?_
    exact dv_store (n:=7) rfl (dTn (cx.an 9)).1 (dTn (cx.an 7)) (by kernel_rfl) (by kernel_rfl) (by kernel_rfl) cx (dTn (cx.an 9)).2 rfl (nle rfl) (by kernel_rfl) rfl rfl rfl (fun σ β' X' hs hb hx=>by rw [hb 10,hb 43]; exact hx)
  intro σ β X W33 hD hst33 fr hfr
  obtain ⟨pg43_33,hu_pg43_33⟩:∃ z,iv (tg (tg (β 43) 0) 0)=z:=⟨_,rfl⟩
  obtain ⟨B10_33,hu_B10_33⟩:∃ z,pb (β 10)=z:=⟨_,rfl⟩
  simp only [exq 3 ((dTn (hD 10 lq))),hu_pg43_33,hu_B10_33] at hst33
  simp only [ed 43 ((dTn (hD 5 lq))),ed 37 ((dTn (hD 6 lq))),ed 44 ((dTn (hD 7 lq))),ed 10 ((dTn (hD 9 lq)).1),hu_pg43_33,hu_B10_33] at hfr
  clear hD hu_pg43_33 hu_B10_33; subst hfr; clear σ β X
  refine then_normal (wp_seq (sqr ?_))
  refine sqv (.func (.func 48) #[] #[vp B9_31]) hst33 (by
    exact sv0 rfl rfl rfl rfl rfl (fun _ _ _ h=>h) fun ρ β W X cx=>by
     have fF9:ρ (.tmp 9)=vp B9_31:=(cx.ou 9)
     simp [go_sem,Instr.makeFunc,fF9]) fun W34 hst34=>?_
  refine sqp [.m 12 46] ?_
  refine then_normal (wp_seq (wp_block (wp_seq (sqr (sqp [.k 48 (.bool false), .k 49 (.bool true), .k 47 (.bool true)] ?_)))))
  refine then_normal (wct rfl (wp_seq (sqr (sqp [.k 6 (.slice none 0 0), .k 7 (.bool false), .k 8 (vi 22)] ?_))))
  refine then_normal (wp_ret (blk_ret (then_ret ?_)))
  refine bpr (.tuple #[.slice none 0 0, .bool false,vi 22]) (results_3 Try.results16 rpt rpt rpt) ?_
  rw [st_none hnd]
  have hn42:=nilrowN hst34 99 3
  simp only [List.cons_append,List.nil_append] at hn42
  have hup_:=hn42.upd
  have hpk_:=hn42.pick [0,3] (by decide) rfl
  subst hln
  exact ⟨_, _,rfl,pk_old hpk_ hfp hbg hlt hlc (hL _ hup_) (fun ad e _=>by rw [← Option.some.inj e]; exact hla)⟩
 ·have hN0:=nd_ok hok hnd
  have hN:NdQ nd:=⟨hN0.lv,fun e he=>Nat.le_trans (hN0.es e he) (by decide)⟩
  have hN1:=hN0.len
  have hN2:=hN0.rt
  have hN3:=hN0.hi
  have hN4:=hN0.lv
  have hN5:=hN0.fr
  have hN7:=hN0.es
  refine sqr (sqp [.m 38 1, .m 39 0, .k 40 (vp b), .k 41 (.pointer (some ⟨b,1,none⟩))] ?_)
  refine sqld 0 hst32 ?_
  refine sqk2 (fun EA43_48 ec43_48=> .tuple #[.agg #[vi pos,vi nd.lv,vi nd.right, .string nd.high, .bool nd.dead, .slice EA43_48 nd.es.length ec43_48,vi ((nd.free:Int))], .bool true]) (fun EA43_48 ec43_48=>eO 104 3 (.slice EA43_48 nd.es.length ec43_48) nd.es.length (nd.es.flatMap enC)) hst32 (fun cx=>⟨_,(kd_yes hnd (kat_any _ _ ps pos _ (hS _ cx.upd) hok hoc)).mono (by rintro e W1 ⟨EA4,ec4,rfl,hs4⟩; exact ⟨_, _,rfl,hs4⟩),(map2 (cx.ou 38) (cx.ou 42))⟩) fun EA43_48 ec43_48 W48 hst48=>?_
  refine sqp [.m 37 43, .k 44 (.agg #[vi pos,vi nd.lv,vi nd.right, .string nd.high, .bool nd.dead, .slice EA43_48 nd.es.length ec43_48,vi ((nd.free:Int))]), .k 45 (.bool true)] ?_
  refine sqal #[vi 0,vi 0,vi 0, .string ByteArray.empty, .bool false, .slice none 0 0,vi 0] hst48 fun B10_52 W52 hst52=>?_
  refine sqst (n:=7) 3 #[vi pos,vi nd.lv,vi nd.right, .string nd.high, .bool nd.dead, .slice EA43_48 nd.es.length ec43_48,vi ((nd.free:Int))] hst52 fun W53 hst53=>?_
  refine sqp [.k 11 (.bool true)] ?_
  refine then_normal (wp_seq (sqr ?_))
  refine sqv (.func (.func 48) #[] #[vp B9_31]) hst53 (by
    exact sv0 rfl rfl rfl rfl rfl (fun _ _ _ h=>h) fun ρ β W X cx=>by
     have fF9:ρ (.tmp 9)=vp B9_31:=(cx.ou 9)
     simp [go_sem,Instr.makeFunc,fF9]) fun W55 hst55=>?_
  refine sqp [.m 12 46] ?_
  refine then_normal (wp_seq (wp_block (wp_seq (sqr (sqp [.k 48 (.bool true), .k 49 (.bool false), .k 47 (.bool false)] ?_)))))
  refine then_normal (wcf rfl (wp_seq (sqr ?_)))
  refine sqlb 3 7 hst55 ?_
  refine sqp [.k 52 (vp B9_31), .k 53 (vp B9_31)] ?_
  refine sqld 1 hst55 ?_
  refine sqk (.bool (sndB nd.dead nd.high te)) hst55 (fun cx=>⟨_,ksends_any pos nd.lv nd.right (nd.free:Int) nd.high nd.dead _ _ _ te _ (by omega) (by omega),(map2 (cx.ou 51) (cx.ou 54))⟩) fun W64 hst64=>?_
  refine sqp [.m 50 55] ?_
  refine then_normal (wbs (fun hs66=>?_) fun hs66=>?_)
  ·refine wp_seq (wp_seq (sqr (sqp [.k 56 (.pointer (some ⟨B10_52,2,none⟩))] ?_)))
   refine sqld 3 hst64 ?_
   refine sqp [.k 58 (.bool (decide (nd.right < 0)))] ?_
   refine then_normal (wds (fun hs70 hs70p=>?_) fun hs70 hs70p=>?_)
   ·refine wp_seq (sqr (sqp [.k 6 (.slice none 0 0), .k 7 (.bool false), .k 8 (vi 11)] ?_))
    refine then_normal (wp_ret (then_ret (blk_ret (then_ret ?_))))
    refine bpr (.tuple #[.slice none 0 0, .bool false,vi 11]) (results_3 Try.results16 rpt rpt rpt) ?_
    rw [st_lost hnd hs66 (by omega)]
    have hn74:=nilrowN hst64 99 3
    simp only [List.cons_append,List.nil_append] at hn74
    have hup_:=hn74.upd
    have hpk_:=hn74.pick [0,4] (by decide) rfl
    subst hln
    exact ⟨_, _,rfl,pk_old hpk_ hfp hbg hlt hlc (hL _ hup_) (fun ad e _=>by rw [← Option.some.inj e]; exact hla)⟩
   refine wp_skip (then_normal (wp_seq (sqr (sqp [.m 59 0, .k 60 (.pointer (some ⟨B10_52,2,none⟩))] ?_))))
   refine sqld 3 hst64 ?_
   refine sqp [.k 62 (vp b), .k 63 (.pointer (some ⟨b,1,none⟩))] ?_
   refine sqst (n:=1) 0 #[vi root,vi nd.right,vi leaf, .slice ((some la)) ln lc,vi 0,vi 0, .bool false] hst64 fun W80 hst80=>?_
   refine then_normal (wp_seq (sqr (sqp [.k 6 (.slice none 0 0), .k 7 (.bool false), .k 8 (vi 0)] ?_)))
   refine then_normal (wp_ret (blk_ret (then_ret ?_)))
   refine bpr (.tuple #[.slice none 0 0, .bool false,vi 0]) (results_3 Try.results16 rpt rpt rpt) ?_
   rw [st_right hnd hs66 (by omega)]
   have hn84:=nilrowN hst80 99 3
   simp only [List.cons_append,List.nil_append] at hn84
   have hup_:=hn84.upd
   have hpk_:=hn84.pick [0,4] (by decide) rfl
   subst hln
   exact ⟨_, _,rfl,pk_old hpk_ hfp hbg hlt hlc (hL _ hup_) (fun ad e _=>by rw [← Option.some.inj e]; exact hla)⟩
  refine wp_seq (sqr (sqp [.k 65 (.pointer (some ⟨B10_52,1,none⟩))] ?_))
  refine sqld 3 hst64 ?_
  refine sqp [.k 67 (.pointer (some ⟨B9_31,3,none⟩))] ?_
  refine sqld 1 hst64 ?_
  refine sqp [.k 69 (.bool (decide (tl < nd.lv))), .m 64 69] ?_
  refine then_normal (wds (fun hs91 hs91p=>?_) fun hs91 hs91p=>?_)
  ·refine wp_seq (sqr (sqp [.m 70 0] ?_))
   refine sqlb 3 7 hst64 ?_
   refine sqp [.k 72 (vp B9_31), .k 73 (vp B9_31)] ?_
   refine sqld 1 hst64 ?_
   refine sqk (vi (downF te nd.es (-1))) hst64 (fun cx=>⟨_,kdown_any _ _ _ _ _ _ _ _ _ _ nd.es _ (At.of_ownN (cx.ri 2 rfl)) rfl hN.es6 (by omega) (by omega),(map2 (cx.ou 71) (cx.ou 74))⟩) fun W97 hst97=>?_
   refine sqp [.k 76 (vp b), .k 77 (.pointer (some ⟨b,1,none⟩))] ?_
   refine sqst (n:=1) 0 #[vi root,vi (downF te nd.es (-1)),vi leaf, .slice ((some la)) ln lc,vi 0,vi 0, .bool false] hst97 fun W100 hst100=>?_
   refine then_normal (wp_seq (sqr (sqp [.k 6 (.slice none 0 0), .k 7 (.bool false), .k 8 (vi 0)] ?_)))
   refine then_normal (wp_ret (blk_ret (then_ret ?_)))
   refine bpr (.tuple #[.slice none 0 0, .bool false,vi 0]) (results_3 Try.results16 rpt rpt rpt) ?_
   rw [st_down hnd hs66 (by omega)]
   have hn104:=nilrowN hst100 99 3
   simp only [List.cons_append,List.nil_append] at hn104
   have hup_:=hn104.upd
   have hpk_:=hn104.pick [0,4] (by decide) rfl
   subst hln
   exact ⟨_, _,rfl,pk_old hpk_ hfp hbg hlt hlc (hL _ hup_) (fun ad e _=>by rw [← Option.some.inj e]; exact hla)⟩
  refine wp_seq (sqr (sqp [.k 79 (.pointer (some ⟨B10_52,1,none⟩))] ?_))
  refine sqld 3 hst64 ?_
  refine sqp [.k 81 (.pointer (some ⟨B9_31,3,none⟩))] ?_
  refine sqld 1 hst64 ?_
  refine sqp [.k 83 (.bool (decide (nd.lv < tl))), .m 78 83] ?_
  refine then_normal (wds (fun hs111 hs111p=>?_) fun hs111 hs111p=>?_)
  ·refine wp_seq (sqr (sqp [.k 6 (.slice none 0 0), .k 7 (.bool false), .k 8 (vi 11)] ?_))
   refine then_normal (wp_ret (blk_ret (then_ret ?_)))
   refine bpr (.tuple #[.slice none 0 0, .bool false,vi 11]) (results_3 Try.results16 rpt rpt rpt) ?_
   rw [st_form hnd hs66 (by omega) (by omega)]
   have hn115:=nilrowN hst64 99 3
   simp only [List.cons_append,List.nil_append] at hn115
   have hup_:=hn115.upd
   have hpk_:=hn115.pick [0,4] (by decide) rfl
   subst hln
   exact ⟨_, _,rfl,pk_old hpk_ hfp hbg hlt hlc (hL _ hup_) (fun ad e _=>by rw [← Option.some.inj e]; exact hla)⟩
  refine wp_seq ?_
  rcases b8_cases nd te with hn8 | ⟨hn8,hq⟩ | ⟨hn8,hq⟩
  ·refine sqr (sqp [.k 85 (.pointer (some ⟨B10_52,5,none⟩))] ?_)
   refine sqld 3 hst64 ?_
   refine sqp [.k 87 (vi ((nd.es.length:Int))), .e 88 (.bool (decide ((nd.es.length:Int) < 8))) (.bool true) (congrArg Value.bool (decide_eq_true (by omega))), .k 89 (.bool true)] ?_
   refine sqgn 89 [90,91,92,93] rfl rfl ?_
   refine sqp [.k 94 (.bool true), .k 84 (.bool true)] ?_
   refine then_normal (wct rfl (wp_seq ?_))
   rcases hq:hasE nd.es te with _ | _
   ·refine wp_region_Y [0,0,0,7,15,31,63] [[],[3],[1],[0,2]] [[],[],[],[4,5]] [[],[],[],[0]] [.k 95 (vp b), .c 96 (.agg #[vi pos,vi nd.lv,vi nd.right, .string nd.high, .bool nd.dead, .slice EA43_48 nd.es.length ec43_48,vi ((nd.free:Int))]), .c 97 (.agg #[.string te,vi 0,vi tk,vi tl]), .a 98, .a 6, .k 7 (.bool false), .k 8 (vi 0)] (fun ix σ β X=>match ix with | 0=>True | 1=>True | 2=>True | 3=>σ 98= .slice (sA (β 98)) 1 (sC (β 98))∧X 4=eB b 109 #[vi root,vi root,vi ((if tl=0 then pos else leaf)), .slice ((if lc=1 then some la else (some la).map (·.add (1*4)))) ((ln - 1)) ((lc - 1)),vi 0,vi 0, .bool false]∧X 5=eO 99 3 (.slice (sA (β 98)) 1 (sC (β 98))) 1 ([(pos,(nd.free:Int),itB nd.lv tk te)].flatMap edC) | 4=>σ 6= .slice (sA (β 98)) 1 (sC (β 98)) | _=>True) [1,2,3,4,5] [1,2,3,4] [(6,4,3,9),(86,0,4,90)] hst64 ?_ ?_ ?_
    ·exact fun ix _ _ _ _ _ _ hs hb hx h=>match ix,h with
     | 3,h=>by dsimp only; rw [← hs 98 rfl,← hb 98 rfl,← hx 4 rfl,← hx 5 rfl]; exact h
     | 4,h=>by dsimp only; rw [← hs 6 rfl,← hb 98 rfl]; exact h
     | 0, _ | 1, _ | 2, _ | _+5, _=>trivial
    ·refine ⟨?_,?_,?_,?_,trivial⟩
     ·exact xs4 rfl id fun cx=>run_loadB (n:=7) rfl (by kernel_rfl) (by kernel_rfl) (cx.ou 10) (cx.bi 3 rfl) (nle rfl) rfl
     ·exact xs4 rfl id fun cx=>run_loadB (n:=4) rfl (by kernel_rfl) (by kernel_rfl) (cx.ou 9) (cx.bi 1 rfl) (nle rfl) rfl
     ·refine svA fun ρ β W X cx=>?_
      refine DoesU.call (run_callF (args:=#[vp b, .agg #[vi pos,vi nd.lv,vi nd.right, .string nd.high, .bool nd.dead, .slice EA43_48 nd.es.length ec43_48,vi ((nd.free:Int))], .agg #[.string te,vi 0,vi tk,vi tl]]) rfl cx.sees rfl (by kernel_rfl) (map3 (cx.an 0) (cx.an 1) (cx.an 2))) ?_
      refine (kput_any _ _ _ _ _ _ _ _ _ _ nd pos _ _ te 0 tk tl false _ (cx.bi 0 rfl) (CtxV.keepAt cx (cx.init 2 _ rfl) (cx.init 0 _ rfl) rfl rfl (by decide)) (by omega) (by omega) (by omega) (by omega) hq).mono ?_
      rintro e W1 ⟨A4,c4,rfl,hs4⟩
      refine ⟨_,rfl,post_obj (E:=eB b 109 #[vi root,vi pos,vi leaf, .slice ((some la)) ln lc,vi 0,vi 0, .bool false]) [eB b 109 #[vi root,vi root,vi ((if tl=0 then pos else leaf)), .slice ((if lc=1 then some la else (some la).map (·.add (1*4)))) ((ln - 1)) ((lc - 1)),vi 0,vi 0, .bool false],eO 99 3 (.slice A4 1 c4) 1 ([(pos,(nd.free:Int),itB nd.lv tk te)].flatMap edC)] (cx.init 0 _ rfl) rfl rfl hs4 (fun σ β' X' hs hb hv hN=>?_)⟩
      have hv1:=(hv 98 rfl).1; have hv2:=(hv 98 rfl).2
      exact ⟨hv1.trans (by rw [hv2]; rfl),(List.cons.inj hN).1,(by rw [hv2]; exact (List.cons.inj (List.cons.inj hN).2).1)⟩
     ·exact sv rfl rfl rfl rfl rfl _ (fun _ _ _ h=>h) (fun β β' h=>by rw [h 98 (by decide)]) fun ρ β W X cx=>run_assign' rfl (dTn (cx.an 3)).1
    intro σ β X W123 hD hst123 fr hfr
    obtain ⟨A98_123,hu_A98_123⟩:∃ z,sA (β 98)=z:=⟨_,rfl⟩
    obtain ⟨c98_123,hu_c98_123⟩:∃ z,sC (β 98)=z:=⟨_,rfl⟩
    simp only [exq 4 ((dTn (hD 3 lq)).2.1),exq 5 ((dTn (hD 3 lq)).2.2),hu_A98_123,hu_c98_123] at hst123
    simp only [ed 98 ((dTn (hD 3 lq)).1),ed 6 ((dTn (hD 4 lq))),hu_A98_123,hu_c98_123] at hfr
    clear hD hu_A98_123 hu_c98_123; subst hfr; clear σ β X
    refine then_normal (wp_ret (blk_ret (then_ret ?_)))
    refine bpr (.tuple #[.slice A98_123 1 c98_123, .bool false,vi 0]) (results_3 Try.results16 rpt rpt rpt) ?_
    rw [st_put hnd hs66 (by omega) (by omega) hq hn8]
    have hup_:=hst123.upd
    have hpk_:=hst123.pick [3,4] (by decide) rfl
    have hl1_:ln - 1=lf.length:=by omega
    have hlv_:nd.lv=tl:=by omega
    rw [hl1_,hlv_] at hpk_
    exact ⟨_, _,rfl,pk_old hpk_ hfp hbg hlt (by show lf.length≤lc - 1; omega) (At.dropF (ts:=(te,tl,tk)::lf) tkK_len (hL _ hup_) 1 lc hlc) (fun ad e _=>by rw [tail_blk4 e]; exact hla)⟩
   ·refine wp_region_Y [0,0,0,7,15,31,63] [[],[3],[1],[0,2]] [[],[],[],[4,5]] [[],[],[],[0]] [.k 95 (vp b), .c 96 (.agg #[vi pos,vi nd.lv,vi nd.right, .string nd.high, .bool nd.dead, .slice EA43_48 nd.es.length ec43_48,vi ((nd.free:Int))]), .c 97 (.agg #[.string te,vi 0,vi tk,vi tl]), .a 98, .a 6, .k 7 (.bool false), .k 8 (vi 0)] (fun ix σ β X=>match ix with | 0=>True | 1=>True | 2=>True | 3=>σ 98= .slice (sA (β 98)) 0 (sC (β 98))∧X 4=eB b 109 #[vi root,vi root,vi ((if tl=0 then pos else leaf)), .slice ((if lc=1 then some la else (some la).map (·.add (1*4)))) ((ln - 1)) ((lc - 1)),vi 0,vi 0, .bool false]∧X 5=eO 99 3 (.slice (sA (β 98)) 0 (sC (β 98))) 0 (([]:List EdT).flatMap edC) | 4=>σ 6= .slice (sA (β 98)) 0 (sC (β 98)) | _=>True) [1,2,3,4,5] [1,2,3,4] [(6,4,3,9),(86,0,4,90)] hst64 ?_ ?_ ?_
    ·exact fun ix _ _ _ _ _ _ hs hb hx h=>match ix,h with
     | 3,h=>by dsimp only; rw [← hs 98 rfl,← hb 98 rfl,← hx 4 rfl,← hx 5 rfl]; exact h
     | 4,h=>by dsimp only; rw [← hs 6 rfl,← hb 98 rfl]; exact h
     | 0, _ | 1, _ | 2, _ | _+5, _=>trivial
    ·refine ⟨?_,?_,?_,?_,trivial⟩
     ·exact xs4 rfl id fun cx=>run_loadB (n:=7) rfl (by kernel_rfl) (by kernel_rfl) (cx.ou 10) (cx.bi 3 rfl) (nle rfl) rfl
     ·exact xs4 rfl id fun cx=>run_loadB (n:=4) rfl (by kernel_rfl) (by kernel_rfl) (cx.ou 9) (cx.bi 1 rfl) (nle rfl) rfl
     ·refine svA fun ρ β W X cx=>?_
      refine DoesU.call (run_callF (args:=#[vp b, .agg #[vi pos,vi nd.lv,vi nd.right, .string nd.high, .bool nd.dead, .slice EA43_48 nd.es.length ec43_48,vi ((nd.free:Int))], .agg #[.string te,vi 0,vi tk,vi tl]]) rfl cx.sees rfl (by kernel_rfl) (map3 (cx.an 0) (cx.an 1) (cx.an 2))) ?_
      refine (kput_any _ _ _ _ _ _ _ _ _ _ nd pos _ _ te 0 tk tl true _ (cx.bi 0 rfl) (CtxV.keepAt cx (cx.init 2 _ rfl) (cx.init 0 _ rfl) rfl rfl (by decide)) (by omega) (by omega) (by omega) (by omega) hq).mono ?_
      rintro e W1 ⟨A4,c4,rfl,hs4⟩
      refine ⟨_,rfl,post_obj (E:=eB b 109 #[vi root,vi pos,vi leaf, .slice ((some la)) ln lc,vi 0,vi 0, .bool false]) [eB b 109 #[vi root,vi root,vi ((if tl=0 then pos else leaf)), .slice ((if lc=1 then some la else (some la).map (·.add (1*4)))) ((ln - 1)) ((lc - 1)),vi 0,vi 0, .bool false],eO 99 3 (.slice A4 0 c4) 0 (([]:List EdT).flatMap edC)] (cx.init 0 _ rfl) rfl rfl hs4 (fun σ β' X' hs hb hv hN=>?_)⟩
      have hv1:=(hv 98 rfl).1; have hv2:=(hv 98 rfl).2
      exact ⟨hv1.trans (by rw [hv2]; rfl),(List.cons.inj hN).1,(by rw [hv2]; exact (List.cons.inj (List.cons.inj hN).2).1)⟩
     ·exact sv rfl rfl rfl rfl rfl _ (fun _ _ _ h=>h) (fun β β' h=>by rw [h 98 (by decide)]) fun ρ β W X cx=>run_assign' rfl (dTn (cx.an 3)).1
    intro σ β X W124 hD hst124 fr hfr
    obtain ⟨A98_124,hu_A98_124⟩:∃ z,sA (β 98)=z:=⟨_,rfl⟩
    obtain ⟨c98_124,hu_c98_124⟩:∃ z,sC (β 98)=z:=⟨_,rfl⟩
    simp only [exq 4 ((dTn (hD 3 lq)).2.1),exq 5 ((dTn (hD 3 lq)).2.2),hu_A98_124,hu_c98_124] at hst124
    simp only [ed 98 ((dTn (hD 3 lq)).1),ed 6 ((dTn (hD 4 lq))),hu_A98_124,hu_c98_124] at hfr
    clear hD hu_A98_124 hu_c98_124; subst hfr; clear σ β X
    refine then_normal (wp_ret (blk_ret (then_ret ?_)))
    refine bpr (.tuple #[.slice A98_124 0 c98_124, .bool false,vi 0]) (results_3 Try.results16 rpt rpt rpt) ?_
    rw [st_there hnd hs66 (by omega) (by omega) hq]
    have hup_:=hst124.upd
    have hpk_:=hst124.pick [3,4] (by decide) rfl
    have hl1_:ln - 1=lf.length:=by omega
    have hlv_:nd.lv=tl:=by omega
    rw [hl1_] at hpk_
    exact ⟨_, _,rfl,pk_old hpk_ hfp hbg hlt (by show lf.length≤lc - 1; omega) (At.dropF (ts:=(te,tl,tk)::lf) tkK_len (hL _ hup_) 1 lc hlc) (fun ad e _=>by rw [tail_blk4 e]; exact hla)⟩
  ·refine sqr (sqp [.k 85 (.pointer (some ⟨B10_52,5,none⟩))] ?_)
   refine sqld 3 hst64 ?_
   refine sqp [.k 87 (vi ((nd.es.length:Int))), .e 88 (.bool (decide ((nd.es.length:Int) < 8))) (.bool false) (congrArg Value.bool (decide_eq_false (by omega))), .k 89 (.bool false)] ?_
   refine sqgy 89 [90,91,92,93] rfl rfl ?_
   refine sqp [.k 90 (.pointer (some ⟨B10_52,5,none⟩))] ?_
   refine sqld 3 hst64 ?_
   refine sqp [.m 92 12] ?_
   refine sqv (.bool false) hst64 (sv_call rfl rfl rfl rfl rfl (fun _ _ _ h=>h.trans (congrArg Value.bool hq)) fun ρ β W X cx=>⟨_, _,run_callF (args:=#[.slice EA43_48 nd.es.length ec43_48, .func (.func 48) #[] #[vp B9_31]]) rfl cx.sees rfl (by kernel_rfl) (map2 (cx.ou 91) (cx.ou 92)),kstep1_con (At.of_ownN (cx.ri 2 rfl)) (by omega) (cx.bi 1 rfl)⟩) fun W133 hst133=>?_
   refine sqp [.k 94 (.bool false), .k 84 (.bool false)] ?_
   refine then_normal (wcf rfl (wp_seq (sqr (sqp [.m 100 2, .k 101 (.bool (decide (fresh < 0))), .m 99 101] ?_))))
   refine then_normal (wds (fun hs139 hs139p=>?_) fun hs139 hs139p=>?_)
   ·refine wp_seq (sqr (sqp [.k 6 (.slice none 0 0), .k 7 (.bool false), .k 8 (vi 23)] ?_))
    refine then_normal (wp_ret (blk_ret (then_ret ?_)))
    refine bpr (.tuple #[.slice none 0 0, .bool false,vi 23]) (results_3 Try.results16 rpt rpt rpt) ?_
    rw [st_full hnd hs66 (by omega) (by omega) hq hn8 (by omega)]
    have hn143:=nilrowN hst133 99 3
    simp only [List.cons_append,List.nil_append] at hn143
    have hup_:=hn143.upd
    have hpk_:=hn143.pick [0,4] (by decide) rfl
    subst hln
    exact ⟨_, _,rfl,pk_old hpk_ hfp hbg hlt hlc (hL _ hup_) (fun ad e _=>by rw [← Option.some.inj e]; exact hla)⟩
   refine wp_skip (blk_normal (then_normal (wp_seq ?_)))
   have hec:=eown_capN ((hst133.get 2 rfl).holds:World.ownsRow _ 0 104 3 (.slice EA43_48 nd.es.length ec43_48) nd.es.length (nd.es.flatMap enC))
   have hdd:nd.dead=false:=by have h_:=hs66; unfold sndB at h_; rw [Bool.or_eq_false_iff] at h_; exact h_.1
   refine sqr (sqp [.m 102 0] ?_)
   refine sqv (.func (.func 53) #[vp b] #[]) hst133 (by
     exact sv0 rfl rfl rfl rfl rfl (fun _ _ _ h=>h) fun ρ β W X cx=>by
      have fF102:ρ (.tmp 102)=vp b:=(cx.ou 102)
      simp [go_sem,Instr.makeFunc,fF102]) fun W145 hst145=>?_
   refine sqp [.m 13 103] ?_
   refine then_normal (wp_seq (wp_seq (wp_region_Z [0,1,3,7,0,16,48,112,255] [[],[],[],[0],[],[],[],[0]] [.k 104 (vp b), .k 105 (vp b), .k 106 (.pointer (some ⟨b,1,none⟩)), .c 107 (vi pos), .k 108 (vp b), .k 109 (vp b), .k 110 (vp b), .c 111 (vi root), .k 112 (.bool (pos==root))] [0,1,2,3] [3,7] [(104,0,9,113)] hst145 ?_ fun W147 hst147=>?_)))
   ·refine ⟨?_,?_,trivial⟩
    ·exact xs4 rfl id fun cx=>run_load1 rfl (by kernel_rfl) (cx.an 2) ((cx.bi 0 rfl).cell 1)
    ·exact xs4 rfl id fun cx=>run_load1 rfl (by kernel_rfl) (cx.an 6) ((cx.bi 0 rfl).cell 0)
   refine then_normal (wbs (fun hs148=>?_) fun hs148=>?_)
   ·have hs148p:=beq_iff_eq.1 hs148
    refine sqr (sqp [.m 113 0] ?_)
    refine sqv (.func (.func 54) #[vp b] #[]) hst147 (by
      exact sv0 rfl rfl rfl rfl rfl (fun _ _ _ h=>h) fun ρ β W X cx=>by
       have fF113:ρ (.tmp 113)=vp b:=(cx.ou 113)
       simp [go_sem,Instr.makeFunc,fF113]) fun W150 hst150=>?_
    refine sqp [.m 13 114] ?_
    refine then_normal (wp_seq (wp_region_Y [0,0,0,7,15,31,63] [[],[3],[],[0,2]] [[],[],[],[4,5]] [[],[],[],[0]] [.k 115 (.func (.func 54) #[vp b] #[]), .c 116 (.agg #[vi pos,vi nd.lv,vi nd.right, .string nd.high, .bool nd.dead, .slice EA43_48 nd.es.length ec43_48,vi ((nd.free:Int))]), .k 117 (vi fresh), .a 118, .a 6, .k 7 (.bool true), .k 8 (vi 0)] (fun ix σ β X=>match ix with | 0=>True | 1=>True | 2=>True | 3=>σ 118= .slice (sA (β 118)) ((growE root nd fresh).length) (sC (β 118))∧X 4=eB b 109 #[vi root,vi fresh,vi leaf, .slice ((some la)) ln lc,vi 0,vi 0, .bool false]∧X 5=eO 99 3 (.slice (sA (β 118)) ((growE root nd fresh).length) (sC (β 118))) ((growE root nd fresh).length) ((growE root nd fresh).flatMap edC) | 4=>σ 6= .slice (sA (β 118)) ((growE root nd fresh).length) (sC (β 118)) | _=>True) [1,2,3,4,5] [1,3,4] [(6,4,3,9),(106,0,4,110)] hst150 ?_ ?_ ?_))
    ·exact fun ix _ _ _ _ _ _ hs hb hx h=>match ix,h with
     | 3,h=>by dsimp only; rw [← hs 118 rfl,← hb 118 rfl,← hx 4 rfl,← hx 5 rfl]; exact h
     | 4,h=>by dsimp only; rw [← hs 6 rfl,← hb 118 rfl]; exact h
     | 0, _ | 1, _ | 2, _ | _+5, _=>trivial
    ·refine ⟨?_,?_,?_,trivial⟩
     ·exact xs4 rfl id fun cx=>run_loadB (n:=7) rfl (by kernel_rfl) (by kernel_rfl) (cx.ou 10) (cx.bi 3 rfl) (nle rfl) rfl
     ·refine svA fun ρ β W X cx=>?_
      refine DoesU.call (run_callV (f:=54) (args:=#[.agg #[vi pos,vi nd.lv,vi nd.right, .string nd.high, .bool nd.dead, .slice EA43_48 nd.es.length ec43_48,vi ((nd.free:Int))],vi fresh]) (args':=#[vp b, .agg #[vi pos,vi nd.lv,vi nd.right, .string nd.high, .bool nd.dead, .slice EA43_48 nd.es.length ec43_48,vi ((nd.free:Int))],vi fresh]) rfl rfl (cx.an 0) (by kernel_rfl) (map2 (cx.an 1) (cx.an 2)) rfl) ?_
      refine (kgrow_any _ _ _ _ _ _ _ _ _ _ nd pos fresh _ _ _ (cx.bi 0 rfl) (CtxV.keepAt cx (cx.init 2 _ rfl) (cx.init 0 _ rfl) rfl rfl (by decide)) hN.es6 (by omega) (by omega) (by omega) (by omega)).mono ?_
      rintro e W1 ⟨A4,c4,rfl,hs4⟩
      refine ⟨_,rfl,post_obj (E:=eB b 109 #[vi root,vi pos,vi leaf, .slice ((some la)) ln lc,vi 0,vi 0, .bool false]) [eB b 109 #[vi root,vi fresh,vi leaf, .slice ((some la)) ln lc,vi 0,vi 0, .bool false],eO 99 3 (.slice A4 (growE root nd fresh).length c4) (growE root nd fresh).length ((growE root nd fresh).flatMap edC)] (cx.init 0 _ rfl) rfl rfl hs4 (fun σ β' X' hs hb hv hN=>?_)⟩
      have hv1:=(hv 118 rfl).1; have hv2:=(hv 118 rfl).2
      exact ⟨hv1.trans (by rw [hv2]; rfl),(List.cons.inj hN).1,(by rw [hv2]; exact (List.cons.inj (List.cons.inj hN).2).1)⟩
     ·exact sv rfl rfl rfl rfl rfl _ (fun _ _ _ h=>h) (fun β β' h=>by rw [h 118 (by decide)]) fun ρ β W X cx=>run_assign' rfl (dTn (cx.an 3)).1
    intro σ β X W152 hD hst152 fr hfr
    obtain ⟨A118_152,hu_A118_152⟩:∃ z,sA (β 118)=z:=⟨_,rfl⟩
    obtain ⟨c118_152,hu_c118_152⟩:∃ z,sC (β 118)=z:=⟨_,rfl⟩
    simp only [exq 4 ((dTn (hD 3 lq)).2.1),exq 5 ((dTn (hD 3 lq)).2.2),hu_A118_152,hu_c118_152] at hst152
    simp only [ed 118 ((dTn (hD 3 lq)).1),ed 6 ((dTn (hD 4 lq))),hu_A118_152,hu_c118_152] at hfr
    clear hD hu_A118_152 hu_c118_152; subst hfr; clear σ β X
    refine then_normal (wp_ret ?_)
    refine bpr (.tuple #[.slice A118_152 ((growE root nd fresh).length) c118_152, .bool true,vi 0]) (results_3 Try.results16 rpt rpt rpt) ?_
    rw [st_grow hnd hs66 (by omega) (by omega) hq hn8 (by omega) (by omega)]
    have hup_:=hst152.upd
    have hpk_:=hst152.pick [3,4] (by decide) rfl
    subst hln
    exact ⟨_, _,rfl,pk_old hpk_ hfp hbg hlt hlc (hL _ hup_) (fun ad e _=>by rw [← Option.some.inj e]; exact hla)⟩
   have hs148p:=beq_eq_false_iff_ne.1 hs148
   refine wp_skip (then_normal (wp_seq (wp_region_Y [0,0,0,7,15,31,63] [[],[3],[],[0,2]] [[],[],[],[4,5]] [[],[],[],[0]] [.k 115 (.func (.func 53) #[vp b] #[]), .c 116 (.agg #[vi pos,vi nd.lv,vi nd.right, .string nd.high, .bool nd.dead, .slice EA43_48 nd.es.length ec43_48,vi ((nd.free:Int))]), .k 117 (vi fresh), .a 118, .a 6, .k 7 (.bool true), .k 8 (vi 0)] (fun ix σ β X=>match ix with | 0=>True | 1=>True | 2=>True | 3=>σ 118= .slice (sA (β 118)) ((cutE pos nd fresh).length) (sC (β 118))∧X 4=ePk b ⟨root,pos,leaf,(te,tl,tk)::lf++[(midE nd,nd.lv+1,fresh)],if nd.lv=0 then pos else 0,if nd.lv=0 then fresh else 0,if nd.lv=0 then true else false⟩ ((X 4).fp)∧X 5=eO 99 3 (.slice (sA (β 118)) ((cutE pos nd fresh).length) (sC (β 118))) ((cutE pos nd fresh).length) ((cutE pos nd fresh).flatMap edC) | 4=>σ 6= .slice (sA (β 118)) ((cutE pos nd fresh).length) (sC (β 118)) | _=>True) [1,2,3,4,5] [1,3,4] [(6,4,3,9),(106,0,4,110)] hst147 ?_ ?_ ?_)))
   ·exact fun ix _ _ _ _ _ _ hs hb hx h=>match ix,h with
    | 3,h=>by dsimp only; rw [← hs 118 rfl,← hb 118 rfl,← hx 4 rfl,← hx 5 rfl]; exact h
    | 4,h=>by dsimp only; rw [← hs 6 rfl,← hb 118 rfl]; exact h
    | 0, _ | 1, _ | 2, _ | _+5, _=>trivial
   ·refine ⟨?_,?_,?_,trivial⟩
    ·exact xs4 rfl id fun cx=>run_loadB (n:=7) rfl (by kernel_rfl) (by kernel_rfl) (cx.ou 10) (cx.bi 3 rfl) (nle rfl) rfl
    ·refine svA fun ρ β W X cx=>?_
     refine DoesU.call (run_callV (f:=53) (args:=#[.agg #[vi pos,vi nd.lv,vi nd.right, .string nd.high, .bool nd.dead, .slice EA43_48 nd.es.length ec43_48,vi ((nd.free:Int))],vi fresh]) (args':=#[vp b, .agg #[vi pos,vi nd.lv,vi nd.right, .string nd.high, .bool nd.dead, .slice EA43_48 nd.es.length ec43_48,vi ((nd.free:Int))],vi fresh]) rfl rfl (cx.an 0) (by kernel_rfl) (map2 (cx.an 1) (cx.an 2)) rfl) ?_
     refine (kcut_pk _ _ _ _ _ _ _ nd pos fresh _ _ ((te,tl,tk)::lf) _ (cx.bi 0 rfl) (CtxV.keepAt cx (cx.init 2 _ rfl) (cx.init 0 _ rfl) rfl rfl (by decide)) hN.es6 (by omega) (by omega) (by omega) (by omega) hec (by omega) (by omega) hdd (fun W' hu=>hL W' (cx.upd.join hu (fun i hi=> .inl hi))) hln (by omega)).mono ?_
     rintro e W1 ⟨A4,c4,fp4,rfl,hs4⟩
     refine ⟨_,rfl,post_obj (E:=eB b 109 #[vi root,vi pos,vi leaf, .slice ((some la)) ln lc,vi 0,vi 0, .bool false]) [ePk b ⟨root,pos,leaf,(te,tl,tk)::lf++[(midE nd,nd.lv+1,fresh)],if nd.lv=0 then pos else 0,if nd.lv=0 then fresh else 0,if nd.lv=0 then true else false⟩ fp4,eO 99 3 (.slice A4 (cutE pos nd fresh).length c4) (cutE pos nd fresh).length ((cutE pos nd fresh).flatMap edC)] (cx.init 0 _ rfl) rfl rfl hs4 (fun σ β' X' hs hb hv hN=>?_)⟩
     have hv1:=(hv 118 rfl).1; have hv2:=(hv 118 rfl).2
     exact ⟨hv1.trans (by rw [hv2]; rfl),ePk_self ((List.cons.inj hN).1),(by rw [hv2]; exact (List.cons.inj (List.cons.inj hN).2).1)⟩
    ·exact sv rfl rfl rfl rfl rfl _ (fun _ _ _ h=>h) (fun β β' h=>by rw [h 118 (by decide)]) fun ρ β W X cx=>run_assign' rfl (dTn (cx.an 3)).1
   intro σ β X W153 hD hst153 fr hfr
   obtain ⟨A118_153,hu_A118_153⟩:∃ z,sA (β 118)=z:=⟨_,rfl⟩
   obtain ⟨c118_153,hu_c118_153⟩:∃ z,sC (β 118)=z:=⟨_,rfl⟩
   have xX4:X 4= _:=(dTn (hD 3 lq)).2.1
   obtain ⟨r4_153,hu_r4_153⟩:∃ z,(X 4).fp=z:=⟨_,rfl⟩
   rw [hu_r4_153] at xX4
   clear hu_r4_153
   simp only [xX4,exq 5 ((dTn (hD 3 lq)).2.2),hu_A118_153,hu_c118_153] at hst153
   simp only [ed 118 ((dTn (hD 3 lq)).1),ed 6 ((dTn (hD 4 lq))),hu_A118_153,hu_c118_153] at hfr
   clear hD xX4 hu_A118_153 hu_c118_153; subst hfr; clear σ β X
   refine then_normal (wp_ret ?_)
   refine bpr (.tuple #[.slice A118_153 ((cutE pos nd fresh).length) c118_153, .bool true,vi 0]) (results_3 Try.results16 rpt rpt rpt) ?_
   rw [st_cut hnd hs66 (by omega) (by omega) hq hn8 (by omega) (by omega)]
   have hlv_:nd.lv=tl:=by omega
   have hpk_:=hst153.pick [3,4] (by decide) rfl
   rw [hlv_] at hpk_
   exact ⟨_, _,rfl, _,St.monoB hpk_ (by rw [hfp]; simp [eB])⟩
  ·refine sqr (sqp [.k 85 (.pointer (some ⟨B10_52,5,none⟩))] ?_)
   refine sqld 3 hst64 ?_
   refine sqp [.k 87 (vi ((nd.es.length:Int))), .e 88 (.bool (decide ((nd.es.length:Int) < 8))) (.bool false) (congrArg Value.bool (decide_eq_false (by omega))), .k 89 (.bool false)] ?_
   refine sqgy 89 [90,91,92,93] rfl rfl ?_
   refine sqp [.k 90 (.pointer (some ⟨B10_52,5,none⟩))] ?_
   refine sqld 3 hst64 ?_
   refine sqp [.m 92 12] ?_
   refine sqv (.bool true) hst64 (sv_call rfl rfl rfl rfl rfl (fun _ _ _ h=>h.trans (congrArg Value.bool hq)) fun ρ β W X cx=>⟨_, _,run_callF (args:=#[.slice EA43_48 nd.es.length ec43_48, .func (.func 48) #[] #[vp B9_31]]) rfl cx.sees rfl (by kernel_rfl) (map2 (cx.ou 91) (cx.ou 92)),kstep1_con (At.of_ownN (cx.ri 2 rfl)) (by omega) (cx.bi 1 rfl)⟩) fun W162 hst162=>?_
   refine sqp [.k 94 (.bool true), .k 84 (.bool true)] ?_
   refine then_normal (wct rfl (wp_seq (wp_region_Y [0,0,0,7,15,31,63] [[],[3],[1],[0,2]] [[],[],[],[4,5]] [[],[],[],[0]] [.k 95 (vp b), .c 96 (.agg #[vi pos,vi nd.lv,vi nd.right, .string nd.high, .bool nd.dead, .slice EA43_48 nd.es.length ec43_48,vi ((nd.free:Int))]), .c 97 (.agg #[.string te,vi 0,vi tk,vi tl]), .a 98, .a 6, .k 7 (.bool false), .k 8 (vi 0)] (fun ix σ β X=>match ix with | 0=>True | 1=>True | 2=>True | 3=>σ 98= .slice (sA (β 98)) 0 (sC (β 98))∧X 4=eB b 109 #[vi root,vi root,vi ((if tl=0 then pos else leaf)), .slice ((if lc=1 then some la else (some la).map (·.add (1*4)))) ((ln - 1)) ((lc - 1)),vi 0,vi 0, .bool false]∧X 5=eO 99 3 (.slice (sA (β 98)) 0 (sC (β 98))) 0 (([]:List EdT).flatMap edC) | 4=>σ 6= .slice (sA (β 98)) 0 (sC (β 98)) | _=>True) [1,2,3,4,5] [1,2,3,4] [(6,4,3,9),(86,0,4,90)] hst162 ?_ ?_ ?_)))
   ·exact fun ix _ _ _ _ _ _ hs hb hx h=>match ix,h with
    | 3,h=>by dsimp only; rw [← hs 98 rfl,← hb 98 rfl,← hx 4 rfl,← hx 5 rfl]; exact h
    | 4,h=>by dsimp only; rw [← hs 6 rfl,← hb 98 rfl]; exact h
    | 0, _ | 1, _ | 2, _ | _+5, _=>trivial
   ·refine ⟨?_,?_,?_,?_,trivial⟩
    ·exact xs4 rfl id fun cx=>run_loadB (n:=7) rfl (by kernel_rfl) (by kernel_rfl) (cx.ou 10) (cx.bi 3 rfl) (nle rfl) rfl
    ·exact xs4 rfl id fun cx=>run_loadB (n:=4) rfl (by kernel_rfl) (by kernel_rfl) (cx.ou 9) (cx.bi 1 rfl) (nle rfl) rfl
    ·refine svA fun ρ β W X cx=>?_
     refine DoesU.call (run_callF (args:=#[vp b, .agg #[vi pos,vi nd.lv,vi nd.right, .string nd.high, .bool nd.dead, .slice EA43_48 nd.es.length ec43_48,vi ((nd.free:Int))], .agg #[.string te,vi 0,vi tk,vi tl]]) rfl cx.sees rfl (by kernel_rfl) (map3 (cx.an 0) (cx.an 1) (cx.an 2))) ?_
     refine (kput_any _ _ _ _ _ _ _ _ _ _ nd pos _ _ te 0 tk tl true _ (cx.bi 0 rfl) (CtxV.keepAt cx (cx.init 2 _ rfl) (cx.init 0 _ rfl) rfl rfl (by decide)) (by omega) (by omega) (by omega) (by omega) hq).mono ?_
     rintro e W1 ⟨A4,c4,rfl,hs4⟩
     refine ⟨_,rfl,post_obj (E:=eB b 109 #[vi root,vi pos,vi leaf, .slice ((some la)) ln lc,vi 0,vi 0, .bool false]) [eB b 109 #[vi root,vi root,vi ((if tl=0 then pos else leaf)), .slice ((if lc=1 then some la else (some la).map (·.add (1*4)))) ((ln - 1)) ((lc - 1)),vi 0,vi 0, .bool false],eO 99 3 (.slice A4 0 c4) 0 (([]:List EdT).flatMap edC)] (cx.init 0 _ rfl) rfl rfl hs4 (fun σ β' X' hs hb hv hN=>?_)⟩
     have hv1:=(hv 98 rfl).1; have hv2:=(hv 98 rfl).2
     exact ⟨hv1.trans (by rw [hv2]; rfl),(List.cons.inj hN).1,(by rw [hv2]; exact (List.cons.inj (List.cons.inj hN).2).1)⟩
    ·exact sv rfl rfl rfl rfl rfl _ (fun _ _ _ h=>h) (fun β β' h=>by rw [h 98 (by decide)]) fun ρ β W X cx=>run_assign' rfl (dTn (cx.an 3)).1
   intro σ β X W165 hD hst165 fr hfr
   obtain ⟨A98_165,hu_A98_165⟩:∃ z,sA (β 98)=z:=⟨_,rfl⟩
   obtain ⟨c98_165,hu_c98_165⟩:∃ z,sC (β 98)=z:=⟨_,rfl⟩
   simp only [exq 4 ((dTn (hD 3 lq)).2.1),exq 5 ((dTn (hD 3 lq)).2.2),hu_A98_165,hu_c98_165] at hst165
   simp only [ed 98 ((dTn (hD 3 lq)).1),ed 6 ((dTn (hD 4 lq))),hu_A98_165,hu_c98_165] at hfr
   clear hD hu_A98_165 hu_c98_165; subst hfr; clear σ β X
   refine then_normal (wp_ret (blk_ret (then_ret ?_)))
   refine bpr (.tuple #[.slice A98_165 0 c98_165, .bool false,vi 0]) (results_3 Try.results16 rpt rpt rpt) ?_
   rw [st_there hnd hs66 (by omega) (by omega) hq]
   have hup_:=hst165.upd
   have hpk_:=hst165.pick [3,4] (by decide) rfl
   have hl1_:ln - 1=lf.length:=by omega
   have hlv_:nd.lv=tl:=by omega
   rw [hl1_] at hpk_
   exact ⟨_, _,rfl,pk_old hpk_ hfp hbg hlt (by show lf.length≤lc - 1; omega) (At.dropF (ts:=(te,tl,tk)::lf) tkK_len (hL _ hup_) 1 lc hlc) (fun ad e _=>by rw [tail_blk4 e]; exact hla)⟩
end
end Go.Proofs.Ytjlcoglmjldjbaa

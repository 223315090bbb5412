/- TreePagesRow: part 6 of the proof. -/
import Derived.Test.YtjlcoglmjldjbaaGreatZ5
import Derived.Shelf.Strings.Builder1
import Derived.Lib.UnsafeStr
import Derived.Shelf.Strings.Builder2
import Derived.Shelf.Strings.BuilderF
import Derived.Shelf.Strings.Prefix
import Derived.Shelf.Bits.Mul64
import Derived.Shelf.Strings.Repeat
import Derived.Test.YtjlcoglmjldjbaaGreatProg
set_option linter.unusedVariables false
set_option linter.unusedSimpArgs false
set_option maxRecDepth 100000
set_option maxHeartbeats 16000000
namespace Go.Proofs.YtjlcoglmjldjbaaGreat
section
open Go.RowKit
theorem setI_two {l:List ByteArray} {k:Nat} (h:k < l.length) (y x:ByteArray):setI (setI l k y) k x=setI l k x:=by
 have e:∀ (m:List ByteArray),k < m.length→∀ z,setI m k z=m.set k z:=fun m hm z=>by rw [setI,show k+1 - m.length=0 by omega,List.replicate_zero,List.append_nil]
 rw [e _ h,e _ (by rw [List.length_set]; exact h),e _ h,List.set_set]
/-- an entry led elsewhere -/
theorem rep_nd {ps:List PgS} {pos kid:Int} {n:NoD} {e:EnD} (h:ndAt ps pos=some n) (hits:(ps.getD pos.toNat pgs0).2.2.length≤101) (he:e∈n.es) (hk:0 < n.lv→0≤kid∧kid < 65536) (h4:4≤e.1.size):
  ∃ n' R,ndAt (doB ps [(pos,(e.2.1:Int),itB n.lv kid e.1)]) pos=some n'∧same4 n' n∧n.es.Perm (e::R)∧n'.es.Perm ((e.1,e.2.1,if 0 < n.lv then kid else -1)::R):=by
 obtain ⟨h0,h1,hn⟩:=nd_at h
 obtain ⟨hs1,hs2,hs3⟩:=slot_nd h hits he
 obtain ⟨n1,g1,g2,g3,g4,g5,g6⟩:=nodF_clr hn he
 obtain ⟨t,ht⟩:∃ t,e.2.1=t+1:=⟨e.2.1 - 1,by omega⟩
 have hz:((setI (ps.getD pos.toNat pgs0).2.2 e.2.1 ByteArray.empty).getD (t+1) ByteArray.empty).size=0:=by rw [setI_getD,if_pos ht.symm]; rfl
 obtain ⟨n2,k1,k2,k3,k4,k5,k6⟩:=nodF_put (kid:=kid) (x:=e.1) g1 hz (by rw [g2]; exact hk) h4
 refine ⟨n2,n1.es,nd_of h0 (by rw [doB_len]; exact h1) ?_,⟨k2.trans g2,k3.trans g3,k4.trans g4,k5.trans g5⟩,g6,?_⟩
 ·show nodF ((do1B ps (pos,(e.2.1:Int),itB n.lv kid e.1)).getD pos.toNat pgs0).1 ((do1B ps (pos,(e.2.1:Int),itB n.lv kid e.1)).getD pos.toNat pgs0).2.2=some n2
  rw [ed1 h0 h1 (by omega) (by omega)]
  dsimp only
  rw [Int.toNat_natCast]
  rw [← ht,g2,setI_two hs2] at k1
  exact k1
 ·rw [ht,← g2]; exact k6
theorem getD_mem1 {ps:List PgS} {x:Int} {n:NoD} (h:ndAt ps x=some n) (hits:∀ q∈ps,q.2.2.length≤101):(ps.getD x.toNat pgs0).2.2.length≤101:=by
 obtain ⟨h0,h1, _⟩:=nd_at h
 exact hits _ (getD_mem' (l:=ps) (n:=x.toNat) (d:=pgs0) (by omega)).2
theorem snoc_cases {α:Type} (l:List α):l=[]∨∃ p x,l=p++[x]:=by
 rcases List.eq_nil_or_concat l with h | ⟨p,x,h⟩
 ·exact .inl h
 ·exact .inr ⟨p,x,by rw [h,List.concat_eq_append]⟩
/-- what Unlink's edits do to the nodes -/
theorem unl_eff {ps:List PgS} (hps:ps.length≤150) (hits:∀ q∈ps,q.2.2.length≤101) {apg mpg bpg:Int} {na nm:NoD} (hna:ndAt ps apg=some na) (hnm:ndAt ps mpg=some nm) (hlv:0 < nm.lv) (hrt:na.right=bpg) (hb:0≤bpg∧bpg < 65535)
  (ham:apg≠mpg) {ah:Option (Int×NoD)} (hah:∀ c,ah=some c→ndAt ps c.1=some c.2∧c.1≠apg∧c.1≠mpg) {EA EB:List EnD} {ej ek:EnD} (hes:nm.es=EA++ej::ek::EB):
  ∃ ps',ps'=doB ps (unE ah (apg,na) (mpg,nm) EA.length)∧(∃ n',ndAt ps' mpg=some n'∧same4 n' nm∧n'.es.Perm ((ej.1,ej.2.1,bpg)::(EA++EB)))∧ndAt ps' apg=some ⟨na.lv,bpg,na.high,true,na.es,na.free⟩∧
    (∀ c,ah=some c→ndAt ps' c.1=some ⟨c.2.lv,bpg,c.2.high,c.2.dead,c.2.es,c.2.free⟩)∧(∀ q,q≠mpg→q≠apg→(∀ c,ah=some c→q≠c.1)→ndAt ps' q=ndAt ps q):=by
 have hgj:nm.es.getD EA.length en0=ej:=by rw [hes]; exact getD_mid
 have hgk:nm.es.getD (EA.length+1) en0=ek:=by
  rw [hes,show EA++ej::ek::EB=(EA++[ej])++ek::EB by simp,show EA.length+1=(EA++[ej]).length by simp]; exact getD_mid
 have hej:ej∈nm.es:=by rw [hes]; simp
 have h4:=(nd_srt hnm).2
 obtain ⟨n1,R1,c1,⟨c2a,c2b,c2c,c2d⟩,c3,c4⟩:=rep_nd (kid:=bpg) hnm (getD_mem1 hnm hits) hej (fun _=>⟨hb.1,by omega⟩) (h4 ej hej)
 rw [if_pos hlv] at c4
 obtain ⟨ps1,hps1⟩:∃ z,doB ps [(mpg,(ej.2.1:Int),itB nm.lv bpg ej.1)]=z:=⟨_,rfl⟩
 rw [hps1] at c1
 have hits1:∀ q∈ps1,q.2.2.length≤101:=by rw [← hps1]; exact its_do hits
 have hR1:R1.Perm (EA++ek::EB):=by
  have h:=c3.symm
  rw [hes] at h
  exact (List.perm_cons ej).1 (h.trans List.perm_middle)
 have hp1:n1.es.Perm ([ek]++((ej.1,ej.2.1,bpg)::(EA++EB))):=by
  refine c4.trans (((hR1.trans List.perm_middle).cons _).trans ?_)
  exact List.Perm.swap _ _ _
 obtain ⟨n2,d1,⟨d2a,d2b,d2c,d2d⟩,d3⟩:=clr_nd (L:=[ek]) c1 (getD_mem1 c1 hits1) hp1
 have hcl:clearE mpg [ek]=[(mpg,(ek.2.1:Int),ByteArray.empty)]:=rfl
 rw [hcl] at d1
 obtain ⟨ps2,hps2⟩:∃ z,doB ps1 [(mpg,(ek.2.1:Int),ByteArray.empty)]=z:=⟨_,rfl⟩
 rw [hps2] at d1
 have ho2:∀ q,q≠mpg→ndAt ps2 q=ndAt ps q:=fun q hq=>by
  rw [← hps2,← hps1,nd_other (fun e he=>by rw [List.mem_singleton.1 he]; exact fun h=>hq h.symm),nd_other (fun e he=>by rw [List.mem_singleton.1 he]; exact fun h=>hq h.symm)]
 have hna2:=(ho2 apg ham).trans hna
 have hhi:∀ {x:Int} {n:NoD},ndAt ps x=some n→n.high.size=0∨4≤n.high.size:=fun h=>by
  obtain ⟨_, _,h⟩:=nd_at h; exact (nd_hd h).2.2.1
 have heds:unE ah (apg,na) (mpg,nm) EA.length=[(mpg,(ej.2.1:Int),itB nm.lv bpg ej.1)]++([(mpg,(ek.2.1:Int),ByteArray.empty)]++((match ah with | none=>([]:List EdT) | some a=>[(a.1,(0:Int),hdB a.2.lv bpg a.2.dead a.2.high)])++[(apg,(0:Int),hdB na.lv bpg true na.high)])):=by
  unfold unE
  dsimp only
  rw [hgj,hgk,hrt,List.append_assoc]
  cases ah<;>rfl
 have hbr: -1≤bpg∧bpg≤65534:=by omega
 refine ⟨_,rfl,?_⟩
 rw [heds,doB_app,hps1,doB_app,hps2,doB_app]
 cases ah with
 | none=>
   dsimp only
   rw [show doB ps2 []=ps2 from rfl]
   refine ⟨⟨n2,?_,⟨d2a.trans c2a,d2b.trans c2b,d2c.trans c2c,d2d.trans c2d⟩,d3⟩,head_nd hna2 hbr (hhi hna),fun c e=>(nomatch e),fun q h1 h2 _=>?_⟩
   ·rw [nd_other (fun e he=>by rw [List.mem_singleton.1 he]; exact ham)]; exact d1
   ·rw [nd_other (fun e he=>by rw [List.mem_singleton.1 he]; exact fun h=>h2 h.symm)]; exact ho2 q h1
 | some c=>
   dsimp only
   obtain ⟨hc1,hc2,hc3⟩:=hah c rfl
   have hc4:=(ho2 c.1 hc3).trans hc1
   have e1:=head_nd (rt:=bpg) (d:=c.2.dead) (hi:=c.2.high) hc4 hbr (hhi hc1)
   obtain ⟨ps3,hps3⟩:∃ z,doB ps2 [(c.1,(0:Int),hdB c.2.lv bpg c.2.dead c.2.high)]=z:=⟨_,rfl⟩
   rw [hps3] at e1 ⊢
   have ho3:∀ q,q≠c.1→ndAt ps3 q=ndAt ps2 q:=fun q hq=>by
    rw [← hps3,nd_other (fun e he=>by rw [List.mem_singleton.1 he]; exact fun h=>hq h.symm)]
   have hna3:=(ho3 apg fun h=>hc2 h.symm).trans hna2
   refine ⟨⟨n2,?_,⟨d2a.trans c2a,d2b.trans c2b,d2c.trans c2c,d2d.trans c2d⟩,d3⟩,head_nd hna3 hbr (hhi hna),fun x e=>?_,fun q h1 h2 h3=>?_⟩
   ·rw [nd_other (fun e he=>by rw [List.mem_singleton.1 he]; exact ham),ho3 _ fun h=>hc3 h.symm]; exact d1
   ·injection e with e
    subst e
    rw [nd_other (fun e he=>by rw [List.mem_singleton.1 he]; exact fun h=>hc2 h.symm)]; exact e1
   ·rw [nd_other (fun e he=>by rw [List.mem_singleton.1 he]; exact fun h=>h2 h.symm),ho3 q (h3 c rfl)]; exact ho2 q h1
-- levels
/-- an empty node left out: the next one takes its place -/
theorem LvOk.drop {pre suf:List AbN} {a b:AbN} (h:LvOk (pre++a::b::suf)):LvOk (pre++⟨b.pg,a.low,b.es⟩::suf):=by
 obtain ⟨p1,p2,p3⟩:=List.pairwise_append.1 h.pw
 obtain ⟨pa,p4⟩:=List.pairwise_cons.1 p2
 obtain ⟨pb,p5⟩:=List.pairwise_cons.1 p4
 have hb:=h.nd b (by simp)
 have ha:=h.nd a (by simp)
 refine ⟨List.pairwise_append.2 ⟨p1,List.pairwise_cons.2 ⟨fun c hc=>⟨(pa c (by simp [hc])).1,(pb c hc).2⟩,p5⟩,fun c hc d hd=>?_⟩,fun c hc=>?_,?_⟩
 ·rcases List.mem_cons.1 hd with rfl | hd
  ·exact p3 c hc a (by simp)
  ·exact p3 c hc d (by simp [hd])
 ·rcases List.mem_append.1 hc with hc | hc
  ·exact h.nd c (by simp [hc])
  ·rcases List.mem_cons.1 hc with rfl | hc
   ·refine ⟨hb.ris,fun e he=>?_,hb.z4,ha.l4,hb.len⟩
    show lessF e.1 a.low=false
    cases hq:lessF e.1 a.low with
    | false=>rfl
    | true=>
      have h1:=lessF_trans hq (pa b (by simp)).1
      rw [hb.ge e he] at h1; cases h1
   ·exact h.nd c (by simp [hc])
 ·obtain ⟨x,t,e,hx⟩:=h.hd
  cases pre with
  | nil=>
    injection e with e1 e2
    exact ⟨_, _,rfl,by show a.low=leastB; rw [e1]; exact hx⟩
  | cons y pre=>
    injection e with e1 e2
    exact ⟨y, _,rfl,by rw [e1]; exact hx⟩
theorem keys_sub {A B:List Kv} {x y:ByteArray} {p q r:Int} (h:(A++(x,p)::(y,q)::B).Pairwise fun a b=>lessF a.1 b.1=true):(A++(x,r)::B).Pairwise fun a b=>lessF a.1 b.1=true:=by
 have h1:((A++(x,p)::(y,q)::B).map Prod.fst).Pairwise fun a b=>lessF a b=true:=List.pairwise_map.2 h
 have h2:((A++(x,r)::B).map Prod.fst).Pairwise fun a b=>lessF a b=true:=by
  refine h1.sublist ?_
  simp only [List.map_append,List.map_cons]
  exact (List.Sublist.refl _).append ((List.sublist_cons_self _ _).cons_cons _)
 exact List.pairwise_map.1 h2
/-- the tree behind an Unlink -/
def unT (pre suf u v:List AbN) (a b m:AbN) (A B:List Kv) (T2:List (List AbN)):List (List AbN):=(pre++⟨b.pg,a.low,b.es⟩::suf)::(u++⟨m.pg,m.low,A++(a.low,b.pg)::B⟩::v)::T2
theorem Tr.unl {ps:List PgS} {T2:List (List AbN)} {root:Int} {pre suf u v:List AbN} {a b m:AbN} {A B:List Kv} (h:Tr ps ((pre++a::b::suf)::(u++m::v)::T2) root) (hps:ps.length≤150) (hits:∀ q∈ps,q.2.2.length≤101)
  (hm:m.es=A++(a.low,a.pg)::(b.low,b.pg)::B):
  ∃ ps',ps'=doB ps (unE (ahd none (pre.map (ndP ps))) (ndP ps a) (ndP ps m) A.length)∧Tr ps' (unT pre suf u v a b m A B T2) root∧(∃ nd,ndAt ps' a.pg=some nd∧nd.dead=true∧nd.right=b.pg)∧(∀ q,q∉pgsA ((pre++a::b::suf)::(u++m::v)::T2)→ndAt ps' q=ndAt ps q):=by
 obtain ⟨na,a1,a2,a3,a4,a5,a6⟩:=h.node (k:=0) (pre:=pre) (suf:=b::suf) (a:=a) rfl
 obtain ⟨nm,m1,m2,m3,m4,m5,m6⟩:=h.node (k:=1) (pre:=u) (suf:=v) (a:=m) rfl
 have hbp:=h.pg_lt (pgs_mem (T:=(pre++a::b::suf)::(u++m::v)::T2) (k:=0) (l:=pre++a::b::suf) rfl (a:=b) (by simp))
 have a4:na.right=b.pg:=a4
 rw [hm] at m6
 obtain ⟨EA,ER,hes,e2,e3⟩:=List.map_eq_append_iff.1 m6
 obtain ⟨ej,ER1,rfl,e4,e5⟩:=List.map_eq_cons_iff.1 e3
 obtain ⟨ek,EB,rfl,e6,e7⟩:=List.map_eq_cons_iff.1 e5
 have hAl:A.length=EA.length:=by rw [← e2,List.length_map]
 have hne0:∀ {x y:AbN},x∈pre++a::b::suf→y∈u++m::v→x.pg≠y.pg:=fun hx hy=>h.other (k:=0) (j:=1) rfl rfl (by omega) hx hy
 obtain ⟨hsa1,hsa2⟩:=h.same (k:=0) (pre:=pre) (suf:=b::suf) (a:=a) rfl
 obtain ⟨hsm1,hsm2⟩:=h.same (k:=1) (pre:=u) (suf:=v) (a:=m) rfl
 have hcs:∀ {p0:List AbN} {c:AbN},pre=p0++[c]→(∀ x∈p0,x.pg≠c.pg)∧(∀ x∈a::b::suf,x.pg≠c.pg):=fun {p0 c} e=>by
  subst e
  exact h.same (k:=0) (pre:=p0) (suf:=a::b::suf) (a:=c) (by simp)
 have hahd:∀ c,ahd none (pre.map (ndP ps))=some c→∃ p0 x,pre=p0++[x]∧c=ndP ps x:=fun c e=>by
  rcases snoc_cases pre with rfl | ⟨p0,x,rfl⟩
  ·cases e
  ·rw [List.map_append,ahd] at e
   simp at e
   exact ⟨p0,x,rfl,e.symm⟩
 have hnode0:∀ {p0 s:List AbN} {x:AbN},pre++a::b::suf=p0++x::s→IsN ps 0 x s:=fun {p0 s x} e=>by
  have:=(h.rep 0 _ rfl); rw [e] at this; exact (RepL.mem this).1
 have hah:∀ c,ahd none (pre.map (ndP ps))=some c→ndAt ps c.1=some c.2∧c.1≠a.pg∧c.1≠m.pg:=fun c e=>by
  obtain ⟨p0,x,hp,rfl⟩:=hahd c e
  have hp2:pre++a::b::suf=p0++x::(a::b::suf):=by rw [hp]; simp
  obtain ⟨nx,x1, _⟩:=hnode0 hp2
  refine ⟨by show ndAt ps x.pg=some (ndD ps x.pg); rw [ndD_some x1]; exact x1,fun e2=>(hcs hp).2 a (by simp) e2.symm,hne0 (by rw [hp2]; simp) (by simp)⟩
 obtain ⟨ps',hps',⟨n',g1,⟨g2a,g2b,g2c,g2d⟩,g3⟩,g4,g5,g6⟩:=unl_eff hps hits a1 m1 (by omega) a4 (by omega) (hne0 (by simp) (by simp)) hah hes
 refine ⟨ps',by rw [hps',ndP,ndP,ndD_some a1,ndD_some m1,hAl],?_,⟨_,g4,rfl,rfl⟩,fun q hq=>?_⟩
 ·have hL0:LvOk (pre++a::b::suf):=h.lv _ (by simp)
  have hL1:LvOk (u++m::v):=h.lv _ (by simp)
  have hM:=hL1.nd m (by simp)
  have hin:=h.inn 0 _ _ rfl rfl
  have hoth:∀ q,q≠m.pg→q≠a.pg→(∀ p0 c,pre=p0++[c]→q≠c.pg)→ndAt ps' q=ndAt ps q:=fun q h1 h2 h3=>g6 q h1 h2 fun c e=>by
   obtain ⟨p0,x,hp,rfl⟩:=hahd c e
   exact h3 p0 x hp
  have hpm:∀ {p0:List AbN} {c:AbN},pre=p0++[c]→c∈pre:=fun e=>by rw [e]; simp
  have k0:∀ x∈b::suf,ndAt ps' x.pg=ndAt ps x.pg:=fun x hx=>hoth _ (hne0 (List.mem_append_right pre (List.mem_cons_of_mem a hx)) (by simp)) (hsa2 x hx) fun p0 c e=>(hcs e).2 x (List.mem_cons_of_mem _ hx)
  have k1:∀ x∈u++m::v,x.pg≠m.pg→ndAt ps' x.pg=ndAt ps x.pg:=fun x hx hxm=>hoth _ hxm (fun e=>hne0 (x:=a) (by simp) hx e.symm) fun p0 c e e2=>hne0 (x:=c) (by simp [hpm e]) hx e2.symm
  have hr0:=(RepL.mem (h.rep 0 _ rfl)).2
  have hb0:RepL ps' 0 (⟨b.pg,a.low,b.es⟩::suf):=⟨hr0.1.cong (k0 b (by simp)) rfl rfl,hr0.2.keep fun x hx=>k0 x (by simp [hx])⟩
  have rep0:RepL ps' 0 (pre++⟨b.pg,a.low,b.es⟩::suf):=by
   rcases snoc_cases pre with rfl | ⟨p0,c,hp⟩
   ·exact hb0
   ·have hp2:pre++a::b::suf=p0++c::(a::b::suf):=by rw [hp]; simp
    have hp3:pre++⟨b.pg,a.low,b.es⟩::suf=p0++c::(⟨b.pg,a.low,b.es⟩::suf):=by rw [hp]; simp
    have hr:=h.rep 0 _ rfl
    rw [hp2] at hr
    rw [hp3]
    obtain ⟨nc,x1,x2,x3,x4,x5,x6⟩:=hnode0 hp2
    have hc9:=g5 (ndP ps c) (by rw [hp,List.map_append]; simp [ahd])
    have hc8:ndP ps c=(c.pg,nc):=by rw [ndP,ndD_some x1]
    rw [hc8] at hc9
    have hic:IsN ps' 0 c (⟨b.pg,a.low,b.es⟩::suf):=⟨_,hc9,x2,x3,rfl,x5,x6⟩
    refine RepL.repl (a:=c) (a':=c) (suf:=a::b::suf) (suf':=⟨b.pg,a.low,b.es⟩::suf) rfl rfl ⟨hic,hb0⟩ hr fun x hx=>hoth _ (hne0 (by rw [hp2]; simp [hx]) (by simp)) (hsa1 x (by rw [hp]; simp [hx])) fun q0 c2 e=>?_
    obtain ⟨e1,e2⟩:=List.append_inj' (hp.symm.trans e) rfl
    injection e2 with e2
    subst e1 e2
    exact (hcs hp).1 x hx
  have hk9:(ej.1:ByteArray)=a.low:=congrArg Prod.fst e4
  have rep1:RepL ps' 1 (u++⟨m.pg,m.low,A++(a.low,b.pg)::B⟩::v):=by
   refine RepL.repl (a:=m) (a':=⟨m.pg,m.low,A++(a.low,b.pg)::B⟩) rfl rfl ⟨⟨n',g1,g2a.trans m2,g2d.trans m3,g2b.trans m4,g2c.trans m5,nd_eq g1 ?_ ?_⟩,(RepL.mem (h.rep 1 _ rfl)).2.keep fun x hx=>k1 x (by simp [hx]) (hsm2 x hx)⟩ (h.rep 1 _ rfl) fun x hx=>k1 x (by simp [hx]) (hsm1 x hx)
   ·refine (g3.map kv).trans ?_
    rw [List.map_cons,List.map_append,e2,e7]
    show ((ej.1,b.pg)::(A++B)).Perm _
    rw [hk9]
    exact List.perm_middle.symm
   ·have:=hM.ris
    rw [hm] at this
    exact keys_sub this
  have hkeep:∀ {j:Nat} {l:List AbN} {x:AbN},T2[j]? =some l→x∈l→ndAt ps' x.pg=ndAt ps x.pg:=fun {j l x} hj hx=>by
   have hj2:((pre++a::b::suf)::(u++m::v)::T2)[j+2]? =some l:=hj
   have h0:∀ {y:AbN},y∈pre++a::b::suf→x.pg≠y.pg:=fun hy=>h.other hj2 (j:=0) rfl (by omega) hx hy
   exact hoth _ (h.other hj2 (j:=1) rfl (by omega) hx (by simp)) (h0 (by simp)) fun p0 c e=>h0 (by simp [hpm e])
  have hlow:lessF a.low b.low=true:=((List.pairwise_cons.1 (List.pairwise_append.1 hL0.pw).2.1).1 b (by simp)).1
  have hrs:((u++m::v).flatMap AbN.es).Pairwise (fun x y=>lessF x.1 y.1=true):=hL1.rises
  rw [List.flatMap_append,List.flatMap_cons,hm] at hrs
  obtain ⟨r1,r2,r3⟩:=List.pairwise_append.1 hrs
  obtain ⟨r4,r5,r6⟩:=List.pairwise_append.1 r2
  obtain ⟨r7,r8,r9⟩:=List.pairwise_append.1 r4
  obtain ⟨r10,r11⟩:=List.pairwise_cons.1 r8
  obtain ⟨r12,r13⟩:=List.pairwise_cons.1 r11
  -- an entry of the level above that is none of the two
  have hother:∀ e:Kv,e.1≠a.low→e.1≠b.low→(∃ mm∈pre++a::b::suf,mm.pg=e.2∧mm.low=e.1)→∃ mm∈pre++⟨b.pg,a.low,b.es⟩::suf,mm.pg=e.2∧mm.low=e.1:=fun e h1 h2 ⟨mm,hmm,h3,h4⟩=>by
   refine ⟨mm,?_,h3,h4⟩
   rcases List.mem_append.1 hmm with hmm | hmm
   ·simp [hmm]
   ·rcases List.mem_cons.1 hmm with rfl | hmm
    ·exact absurd h4.symm h1
    ·rcases List.mem_cons.1 hmm with rfl | hmm
     ·exact absurd h4.symm h2
     ·simp [hmm]
  have hneq:∀ {x y:ByteArray},lessF x y=true→x≠y:=fun h e=>by rw [e,lessF_irr] at h; cases h
  have inn0:InOk (u++⟨m.pg,m.low,A++(a.low,b.pg)::B⟩::v) (pre++⟨b.pg,a.low,b.es⟩::suf):=by
   intro c hc
   have side:c∈u∨c∈v→(∃ k t,c.es=(c.low,k)::t)∧∀ e∈c.es,∃ mm∈pre++⟨b.pg,a.low,b.es⟩::suf,mm.pg=e.2∧mm.low=e.1:=fun hc=>by
    obtain ⟨h1,h2⟩:=hin c (by rcases hc with hc | hc<;>simp [hc])
    refine ⟨h1,fun e he=>?_⟩
    rcases hc with hc | hc
    ·have hu:=List.mem_flatMap.2 ⟨c,hc,he⟩
     exact hother e (hneq (r3 e hu (a.low,a.pg) (by simp))) (hneq (r3 e hu (b.low,b.pg) (by simp))) (h2 e he)
    ·have hv:=List.mem_flatMap.2 ⟨c,hc,he⟩
     exact hother e (hneq (r6 (a.low,a.pg) (by simp) e hv)).symm (hneq (r6 (b.low,b.pg) (by simp) e hv)).symm (h2 e he)
   rcases List.mem_append.1 hc with hc | hc
   ·exact side (.inl hc)
   rcases List.mem_cons.1 hc with rfl | hc
   ·obtain ⟨⟨k,t,h1⟩,h2⟩:=hin m (by simp)
    rw [hm] at h1 h2
    refine ⟨?_,fun e he=>?_⟩
    ·cases A with
     | nil=>
       injection h1 with h3 h4
       have h5:a.low=m.low:=congrArg Prod.fst h3
       exact ⟨b.pg,B,by rw [← h5]; rfl⟩
     | cons x A=>
       injection h1 with h3 h4
       subst h3
       exact ⟨k, _,rfl⟩
    ·rcases List.mem_append.1 he with he | he
     ·exact hother e (hneq (r9 e he (a.low,a.pg) (by simp))) (hneq (r9 e he (b.low,b.pg) (by simp))) (h2 e (by simp [he]))
     ·rcases List.mem_cons.1 he with rfl | he
      ·exact ⟨⟨b.pg,a.low,b.es⟩,by simp,rfl,rfl⟩
      ·exact hother e (hneq (r10 e (by simp [he]))).symm (hneq (r12 e he)).symm (h2 e (by simp [he]))
   ·exact side (.inr hc)
  refine ⟨fun j l hj=>?_,fun l hl=>?_,fun j up below hu hb=>?_,?_,?_,h.ht⟩
  ·match j with
   | 0=>injection hj with hj; subst hj; exact rep0
   | 1=>injection hj with hj; subst hj; exact rep1
   | j+2=>exact (h.rep (j+2) l hj).keep fun x hx=>hkeep (j:=j) hj hx
  ·rcases List.mem_cons.1 hl with rfl | hl
   ·exact hL0.drop
   ·rcases List.mem_cons.1 hl with rfl | hl
    ·refine hL1.one (a':=⟨m.pg,m.low,A++(a.low,b.pg)::B⟩) rfl ⟨keys_sub (by have:=hM.ris; rw [hm] at this; exact this),fun e he=>?_,fun e he=>?_,hM.l4,?_⟩ fun c hc e he=>?_
     ·rcases List.mem_append.1 he with he | he
      ·exact hM.ge e (by rw [hm]; simp [he])
      ·rcases List.mem_cons.1 he with rfl | he
       ·exact hM.ge (a.low,a.pg) (by rw [hm]; simp)
       ·exact hM.ge e (by rw [hm]; simp [he])
     ·rcases List.mem_append.1 he with he | he
      ·exact hM.z4 e (by rw [hm]; simp [he])
      ·rcases List.mem_cons.1 he with rfl | he
       ·exact hM.z4 (a.low,a.pg) (by rw [hm]; simp)
       ·exact hM.z4 e (by rw [hm]; simp [he])
     ·have:=hM.len
      rw [hm] at this
      simp only [List.length_append,List.length_cons] at this ⊢
      omega
     ·have hp:=(List.pairwise_cons.1 (List.pairwise_append.1 hL1.pw).2.1).1 c hc
      rcases List.mem_append.1 he with he | he
      ·exact hp.2 e (by rw [hm]; simp [he])
      ·rcases List.mem_cons.1 he with rfl | he
       ·exact hp.2 (a.low,a.pg) (by rw [hm]; simp)
       ·exact hp.2 e (by rw [hm]; simp [he])
    ·exact h.lv l (by simp [hl])
  ·match j with
   | 0=>
     injection hu with hu
     injection hb with hb
     subst hu hb
     exact inn0
   | 1=>
     injection hb with hb
     subst hb
     have hi:=h.inn 1 up _ hu rfl
     intro c hc
     obtain ⟨h1,h2⟩:=hi c hc
     refine ⟨h1,fun e he=>?_⟩
     obtain ⟨mm,hmm,h3,h4⟩:=h2 e he
     rcases List.mem_append.1 hmm with hmm | hmm
     ·exact ⟨mm,by simp [hmm],h3,h4⟩
     ·rcases List.mem_cons.1 hmm with rfl | hmm
      ·exact ⟨⟨mm.pg,mm.low,A++(a.low,b.pg)::B⟩,by simp,h3,h4⟩
      ·exact ⟨mm,by simp [hmm],h3,h4⟩
   | j+2=>exact h.inn (j+2) up below hu hb
  ·obtain ⟨r,hr1,hr2⟩:=h.top
   cases T2 with
   | nil=>
     have hr1:some (u++m::v)=some [r]:=hr1
     injection hr1 with hr1
     cases u with
     | nil=>
       injection hr1 with h1 h2
       subst h1 h2
       exact ⟨_,rfl,hr2⟩
     | cons x u=>exact absurd (congrArg List.length hr1) (by simp)
   | cons t T3=>exact ⟨r,by rw [unT,List.getLast?_cons_cons,List.getLast?_cons_cons] ; rw [List.getLast?_cons_cons,List.getLast?_cons_cons] at hr1; exact hr1,hr2⟩
  ·have hd:=h.dist
   refine hd.sublist ?_
   have e1:pgsA (unT pre suf u v a b m A B T2)=pre.map AbN.pg++(b.pg::(suf.map AbN.pg++(u.map AbN.pg++m.pg::(v.map AbN.pg++pgsA T2)))):=by simp [pgsA,unT]
   have e2:pgsA ((pre++a::b::suf)::(u++m::v)::T2)=pre.map AbN.pg++(a.pg::b.pg::(suf.map AbN.pg++(u.map AbN.pg++m.pg::(v.map AbN.pg++pgsA T2)))):=by simp [pgsA]
   rw [e1,e2]
   exact (List.Sublist.refl _).append (List.sublist_cons_self _ _)
 ·refine g6 q (fun e=>hq (e ▸ pgs_mem (k:=1) (l:=u++m::v) rfl (by simp))) (fun e=>hq (e ▸ pgs_mem (k:=0) (l:=pre++a::b::suf) rfl (by simp))) fun c e=>?_
  obtain ⟨p0,x,hp,rfl⟩:=hahd c e
  exact fun e=>hq (e ▸ pgs_mem (k:=0) (l:=pre++a::b::suf) (a:=x) rfl (by rw [hp]; simp))
theorem unl_find {ab:List (Int×NoD)} {root:Int}:∀ (L:List (Int×NoD)),(∀ y∈L,unOk ab root y=none)∨∃ P y Q i j,L=P++y::Q∧(∀ z∈P,unOk ab root z=none)∧unOk ab root y=some (i,j)
 | []=> .inl fun y hy=>nomatch hy
 | y::L=>by
   cases hy:unOk ab root y with
   | some q=>exact .inr ⟨[],y,L,q.1,q.2,rfl,(fun z hz=>nomatch hz),hy⟩
   | none=>
     rcases unl_find L with h | ⟨P,z,Q,i,j,e1,e2,e3⟩
     ·refine .inl fun z hz=>?_
      rcases List.mem_cons.1 hz with rfl | hz
      ·exact hy
      ·exact h z hz
     ·refine .inr ⟨y::P,z,Q,i,j,by rw [e1]; rfl,fun w hw=>?_,e3⟩
      rcases List.mem_cons.1 hw with rfl | hw
      ·exact hy
      ·exact e2 w hw
theorem two_split {α:Type} {l:List α} {j:Nat} {d:α} (h:j+1 < l.length):∃ A B,l=A++l.getD j d::l.getD (j+1) d::B∧A.length=j:=by
 refine ⟨l.take j,l.drop (j+2),?_,by rw [List.length_take]; omega⟩
 rw [List.getD_eq_getElem?_getD,List.getD_eq_getElem?_getD,List.getElem?_eq_getElem (by omega:j < l.length),List.getElem?_eq_getElem h]
 show l=l.take j++l[j]::l[j+1]::l.drop (j+1+1)
 rw [List.getElem_cons_drop,List.getElem_cons_drop,List.take_append_drop]
theorem one_split {α:Type} {l:List α} {i:Nat} (h:i < l.length):∃ u m v,l=u++m::v∧u.length=i:=
 ⟨l.take i,l[i],l.drop (i+1),by rw [List.getElem_cons_drop,List.take_append_drop],by rw [List.length_take]; omega⟩
/-- Unlink finds nothing, or a leaf whose entry and the next one's stand side by side -/
theorem Tr.unl_cases {ps:List PgS} {T:List (List AbN)} {root:Int} (h:Tr ps T root) (hps:ps.length≤150):unlF ps root=([], -1, -1)∨∃ pre suf u v a b m A B T2,T=(pre++a::b::suf)::(u++m::v)::T2∧a.es=[]∧a.pg≠root∧m.es=A++(a.low,a.pg)::(b.low,b.pg)::B∧
  unlF ps root=(unE (ahd none (pre.map (ndP ps))) (ndP ps a) (ndP ps m) A.length,a.pg,b.pg):=by
 cases T with
 | nil=>obtain ⟨r,hr, _⟩:=h.top; cases hr
 | cons l0 T1=>
   have row0:rowF ps root 0=l0.map (ndP ps):=h.row hps (k:=0) rfl
   rcases unl_find (ab:=rowF ps root 1) (root:=root) (l0.map (ndP ps)) with hn | ⟨P,y,Q,i,j,e1,e2,e3⟩
   ·left
    have h1:=unl_skip (r:=[]) (ah:=none) hn
    rw [List.append_nil] at h1
    rw [unlF,row0,h1,unlG]
   ·right
    have hu:unlF ps root=(unE (ahd none P) y ((rowF ps root 1).getD i (0,nodZ)) j,y.1,y.2.right):=by
     rw [unlF,row0,e1,unl_skip e2,unl_hit e3]
    obtain ⟨pre,R,rfl,f1,f2⟩:=List.map_eq_append_iff.1 e1
    obtain ⟨a,rest,rfl,f3,f4⟩:=List.map_eq_cons_iff.1 f2
    subst f3 f1
    obtain ⟨na,a1,a2,a3,a4,a5,a6⟩:=h.node (k:=0) (pre:=pre) (suf:=rest) (a:=a) rfl
    have hy:ndP ps a=(a.pg,na):=by rw [ndP,ndD_some a1]
    rw [hy] at e3
    unfold unOk at e3
    split at e3
    ·cases e3
    ·rename_i hc
     simp only [Bool.or_eq_true,decide_eq_true_eq,beq_iff_eq,not_or] at hc
     obtain ⟨⟨c1,c2⟩,c3⟩:=hc
     dsimp only at c1 c2 e3
     have hae:a.es=[]:=by
      rw [← a6]
      cases hq:na.es with
      | nil=>rfl
      | cons x l=>rw [hq] at c1; simp at c1
     cases T1 with
     | nil=>
       exfalso
       obtain ⟨r,hr,hr2⟩:=h.top
       have hr:some (pre++a::rest)=some [r]:=hr
       injection hr with hr
       cases pre with
       | nil=>injection hr with h1 h2; exact c2 (by rw [h1]; exact hr2)
       | cons x l=>exact absurd (congrArg List.length hr) (by simp)
     | cons l1 T2=>
       have row1:rowF ps root 1=l1.map (ndP ps):=h.row hps (k:=1) rfl
       rw [row1] at hu e3
       obtain ⟨g1,g2,g3,g4⟩:=led_some e3
       rw [List.length_map] at g1
       obtain ⟨u,m,v,rfl,hui⟩:=one_split g1
       have hgm:((u++m::v).map (ndP ps)).getD i (0,nodZ)=ndP ps m:=by
        rw [List.map_append,List.map_cons,← hui,← List.length_map (f:=ndP ps)]; exact getD_mid
       rw [hgm] at hu g2 g3 g4
       obtain ⟨nm,m1,m2,m3,m4,m5,m6⟩:=h.node (k:=1) (pre:=u) (suf:=v) (a:=m) rfl
       have hym:ndP ps m=(m.pg,nm):=by rw [ndP,ndD_some m1]
       rw [hym] at g2 g3 g4
       dsimp only at g2 g3 g4
       obtain ⟨EA,EB,k1,k2⟩:=two_split (d:=en0) g3
       rw [ledC,Bool.and_eq_true,beq_iff_eq,beq_iff_eq] at g4
       obtain ⟨ej,hej⟩:∃ z,nm.es.getD j en0=z:=⟨_,rfl⟩
       obtain ⟨ek,hek⟩:∃ z,nm.es.getD (j+1) en0=z:=⟨_,rfl⟩
       rw [hej,hek] at k1 g4
       have hme:m.es=EA.map kv++(ej.1,ej.2.2)::(ek.1,ek.2.2)::EB.map kv:=by
        rw [← m6,k1,List.map_append,List.map_cons,List.map_cons]; rfl
       have hin:=(h.inn 0 _ _ rfl rfl m (by simp)).2
       obtain ⟨s1,s2⟩:=h.same (k:=0) (pre:=pre) (suf:=rest) (a:=a) rfl
       have ka:a.low=ej.1:=by
        obtain ⟨mm,q1,q2,q3⟩:=hin (ej.1,ej.2.2) (by rw [hme]; simp)
        have q2:mm.pg=a.pg:=q2.trans g4.1
        rcases List.mem_append.1 q1 with q1 | q1
        ·exact absurd q2 (s1 mm q1)
        ·rcases List.mem_cons.1 q1 with rfl | q1
         ·exact q3
         ·exact absurd q2 (s2 mm q1)
       obtain ⟨mm,q1,q2,q3⟩:=hin (ek.1,ek.2.2) (by rw [hme]; simp)
       have q2:mm.pg=rtA rest:=(q2.trans g4.2).trans a4
       have q4:=h.pg_lt (pgs_mem (k:=0) rfl q1)
       cases rest with
       | nil=>
         have q2:mm.pg= -1:=q2
         omega
       | cons b suf=>
         have q2:mm.pg=b.pg:=q2
         obtain ⟨t1,t2⟩:=h.same (k:=0) (pre:=pre++[a]) (suf:=suf) (a:=b) (by simp)
         have kb:b.low=ek.1:=by
          rw [show pre++a::b::suf=(pre++[a])++b::suf by simp] at q1
          rcases List.mem_append.1 q1 with q1 | q1
          ·exact absurd q2 (t1 mm q1)
          ·rcases List.mem_cons.1 q1 with rfl | q1
           ·exact q3
           ·exact absurd q2 (t2 mm q1)
         have hr2:na.right=b.pg:=a4
         refine ⟨pre,suf,u,v,a,b,m,EA.map kv,EB.map kv,T2,rfl,hae,c2,by rw [hme,ka,kb,g4.1,g4.2,hr2],?_⟩
         rw [hu,List.length_map,k2,hy,hr2]
end
section
open Go.RowKit
/-- an insertion under way: its entry is still to come to a leaf, or it is there -/
def Way (E:List Kv) (x:ByteArray) (T:List (List AbN)) (p:PuT):Prop:=(∃ l,p.left=(x,0,0)::l∧(∀ t∈l,1≤t.2.1)∧(lfs T).Perm E∧p.leaf= -1)∨((∀ t∈p.left,1≤t.2.1)∧(lfs T).Perm ((x, -1)::E)∧0≤p.leaf)
theorem Way.len {E:List Kv} {x:ByteArray} {T:List (List AbN)} {p:PuT} (h:Way E x T p):(lfs T).length≤E.length+1:=by
 rcases h with ⟨_, _, _,h, _⟩ | ⟨_,h, _⟩<;>rw [h.length_eq]
 ·omega
 ·exact Nat.le_refl _
theorem Way.step {E:List Kv} {x:ByteArray} {ps:List PgS} {T T':List (List AbN)} {p p':PuT} {g:GoT} {fresh root:Int} (h:Tr ps T root) (hw:Way E x T p) (ho:Out T T' p p' g fresh) (hx:∀ y∈E,y.1≠x):Way E x T' p':=by
 rcases hw with ⟨l,hl,h1,hp,hlf⟩ | ⟨h1,hp,hlf⟩
 ·have nx:∀ y∈lfs T,y.1≠x:=fun y hy=>hx y (hp.mem_iff.1 hy)
  cases ho with
  | idle h=>rw [hl] at h; cases h
  | move t l2 h2 hT hl2 hf=>
    rw [hl] at h2; injection h2 with e1 e2; subst e1 e2 hT
    exact .inl ⟨l,hl2,h1,hp,hf.trans hlf⟩
  | there t l2 k pre suf a h2 hk hT ht hin=>
    rw [hl] at h2; injection h2 with e1 e2; subst e1
    have hk0:k=0:=by have:(0:Int)=(k:Int):=hk; omega
    subst hk0
    obtain ⟨y,hy,hyx⟩:=hin
    refine absurd hyx (nx y ?_)
    rw [lfs,lvA_some ht]
    exact List.mem_flatMap.2 ⟨a,by simp,hy⟩
  | put t l2 k pre suf a h2 hk ht hT hno hl2 hf=>
    rw [hl] at h2; injection h2 with e1 e2; subst e1
    have hk0:k=0:=by have:(0:Int)=(k:Int):=hk; omega
    subst hk0
    refine .inr ⟨by rw [hl2,← e2]; exact h1,?_,by rw [hf,if_pos rfl]; exact (h.pg_lt (pgs_mem ht (a:=a) (by simp))).1⟩
    refine List.Perm.trans ?_ (hp.cons _)
    rw [hT,lfs_set ht,if_pos rfl,lfs,lvA_some ht]
    simp only [List.flatMap_append,List.flatMap_cons]
    refine ((List.Perm.append_left _ ((insA_perm _ _).append_right _))).trans ?_
    exact List.perm_middle
  | cut t l2 k pre suf a mid h2 hk ht h8 htop hT hl2 hf hp2 hpa hu=>
    rw [hl] at h2; injection h2 with e1 e2; subst e1 e2
    refine .inl ⟨_,hl2,fun t ht=>?_,?_,hf.trans hlf⟩
    ·rcases List.mem_append.1 ht with ht | ht
     ·exact h1 t ht
     ·rw [List.mem_singleton.1 ht]; show (1:Int)≤(k:Int)+1; omega
    ·rcases (Out.cut (p':=p') (g:=g) _ l k pre suf a mid hl hk ht h8 htop hT hl2 hf hp2 hpa hu).lfs with h3 | ⟨t,l3,h3, _,h4, _⟩
     ·exact h3.trans hp
     ·rw [hl] at h3; injection h3 with e1 e2; rw [hl2,← e2] at h4; exact absurd (congrArg List.length h4) (by simp only [List.length_append,List.length_cons,List.length_nil]; omega)
  | grow t l2 T0 r h2 hk ht hr h8 hT hl2 hf=>
    rw [hl] at h2; injection h2 with e1 e2; subst e1 e2
    exact .inl ⟨l,hl2,h1,by rw [hT,lfs_grow,← ht]; exact hp,hf.trans hlf⟩
 ·obtain ⟨h3,h4,h5⟩:=rest_lfs ho h1
  exact .inr ⟨h4,h3.trans hp,by rw [h5]; exact hlf⟩
theorem ents_len (l:List Int) (n:Nat):(entsG l n).length=n:=by rw [entsG,List.length_map,List.length_range]
end
section
open Go.RowKit
theorem ord_app (T1:List (List AbN)) (l:List AbN) (T2:List (List AbN)):ordA (T1++l::T2)=ordA T2++(l.map AbN.pg++ordA T1):=by simp [ordA]
/-- a step lays one page more into the order, or none -/
theorem Out.ord {T T':List (List AbN)} {p p':PuT} {g:GoT} {fresh:Int} (ho:Out T T' p p' g fresh):(g.used=false∧ordA T'=ordA T)∨(g.used=true∧∃ A B,ordA T=A++B∧ordA T'=A++fresh::B):=by
 cases ho with
 | idle _ hT _ _ hu=>exact .inl ⟨hu,by rw [hT]⟩
 | move _ _ _ hT _ _ hu=>exact .inl ⟨hu,by rw [hT]⟩
 | there _ _ _ _ _ _ _ _ hT _ _ _ _ hu=>exact .inl ⟨hu,by rw [hT]⟩
 | put t l k pre suf a _ _ ht hT _ _ _ hu=>
   obtain ⟨T1,T2,e, _,h2⟩:=lv_split ht
   exact .inl ⟨hu,by rw [hT,h2,e,ord_app,ord_app]; simp⟩
 | cut t l k pre suf a mid _ _ ht _ _ hT _ _ _ _ hu=>
   obtain ⟨T1,T2,e, _,h2⟩:=lv_split ht
   refine .inr ⟨hu,ordA T2++(pre.map AbN.pg++[a.pg]),suf.map AbN.pg++ordA T1,?_,?_⟩
   ·rw [e,ord_app]; simp
   ·rw [hT,h2,ord_app]; simp
 | grow t l T0 r _ _ ht hr _ hT _ _ _ _ hu=>
   refine .inr ⟨hu,[p.root],ordA T0,?_,?_⟩
   ·rw [ht,ord_app,← hr]; simp [ordA]
   ·rw [hT]; simp [ordA]
theorem drop_ins {y x:Int} (hxy:y≠x):∀ (A B:List Int),((A++y::B).dropWhile fun q=>!(q==x)).length≤((A++B).dropWhile fun q=>!(q==x)).length+1
 | [],B=>by
   rw [List.nil_append,List.nil_append,List.dropWhile_cons_of_pos (by simpa using hxy)]; omega
 | a::A,B=>by
   rw [List.cons_append,List.cons_append]
   by_cases h:a=x
   ·rw [List.dropWhile_cons_of_neg (by simp [h]),List.dropWhile_cons_of_neg (by simp [h])]
    simp only [List.length_cons,List.length_append]; omega
   ·rw [List.dropWhile_cons_of_pos (by simpa using h),List.dropWhile_cons_of_pos (by simpa using h)]
    exact drop_ins hxy A B
theorem Out.rk {T T':List (List AbN)} {p p':PuT} {g:GoT} {fresh pos:Int} (ho:Out T T' p p' g fresh) (hne:fresh≠pos):rkF T' pos≤rkF T pos+(if g.used then 1 else 0):=by
 rcases ho.ord with ⟨h1,h2⟩ | ⟨h1,A,B,h2,h3⟩
 ·rw [rkF,rkF,h2]; exact Nat.le_add_right _ _
 ·rw [rkF,rkF,h2,h3,h1]; exact drop_ins hne A B
theorem PosOk.mem {T:List (List AbN)} {pos tl:Int} {x:ByteArray} (h:PosOk T pos x tl):pos∈pgsA T:=by
 obtain ⟨k,l,a,hk,ha,hp, _⟩:=h
 exact hp ▸ pgs_mem hk ha
end
section
open Go.RowKit
section
variable {ps ps':List PgS} {T2:List (List AbN)} {root:Int} {pre suf u v:List AbN} {a b m:AbN} {A B:List Kv}
theorem un_pgs {q:Int} (h:q∈pgsA (unT pre suf u v a b m A B T2)):q∈pgsA ((pre++a::b::suf)::(u++m::v)::T2):=by
 simp only [pgsA,unT,List.flatten_cons,List.map_append,List.map_cons,List.mem_append,List.mem_cons] at h ⊢
 rcases h with (h | h | h) | (h | h | h) | h
 ·exact .inl (.inl h)
 ·exact .inl (.inr (.inr (.inl h)))
 ·exact .inl (.inr (.inr (.inr h)))
 ·exact .inr (.inl (.inl h))
 ·exact .inr (.inl (.inr (.inl h)))
 ·exact .inr (.inl (.inr (.inr h)))
 ·exact .inr (.inr h)
end
end
section
open Go.RowKit
/-- where x belongs in a level there is room, and something -/
def TgS (T:List (List AbN)) (k:Nat) (x:ByteArray):Prop:=∀ pre suf a,T[k]? =some (pre++a::suf)→lessF x a.low=false→(∀ c s,suf=c::s→lessF x c.low=true)→1≤a.es.length∧a.es.length≤4
def Shp (T:List (List AbN)) (p:PuT):Prop:=p.left=[]∨(∃ t,p.left=[t])∨∃ (t u:TaT) (k:Nat),p.left=[t,u]∧t.2.1=(k:Int)∧k+1 < T.length∧u.2.1=(k:Int)+1∧TgS T k t.1
def rfull (T:List (List AbN)):Nat:=match T.getLast? with
 | some [r]=>if r.es.length=8 then 2 else 0
 | _=>0
/-- how many new pages an insertion may still ask for -/
def fz (T:List (List AbN)) (p:PuT):Nat:=match p.left with
 | []=>0
 | t::l=>(T.length - 1 - t.2.1.toNat - l.length)+rfull T
def mz (T:List (List AbN)) (p:PuT) (r:Nat):Nat:=if p.left=[] then 0 else r+61*(p.left.length - 1)+63*fz T p
structure GU (ps:List PgS) (T:List (List AbN)) (nx:Int):Prop where
 tr:Tr ps T 0
 its:∀ q∈ps,q.2.2.length≤101
 len:ps.length=60
 pg:∀ q∈pgsA T,q < nx
theorem fz_nil {T:List (List AbN)} {p:PuT} (h:p.left=[]):fz T p=0:=by rw [fz,h]
theorem fz_cons {T:List (List AbN)} {p:PuT} {t:TaT} {l:List TaT} (h:p.left=t::l):fz T p=(T.length - 1 - t.2.1.toNat - l.length)+rfull T:=by rw [fz,h]
theorem used_here {ps:List PgS} {p:PuT} {fresh:Int} {n:NoD} {t:TaT} {l:List TaT} (h:(stepF ps p fresh).2.used=true) (hl:p.left=t::l) (hn:ndAt ps p.pos=some n):sndB n.dead n.high t.1=false:=by
 cases hs:sndB n.dead n.high t.1 with
 | false=>rfl
 | true=>
   exfalso
   unfold stepF at h
   rw [hl] at h
   dsimp only at h
   rw [hn] at h
   dsimp only at h
   rw [if_pos hs] at h
   split at h<;>cases h
theorem clearE_pg {pos:Int} {L:List EnD}:∀ e∈clearE pos L,e.1=pos:=fun e he=>by obtain ⟨y, _,rfl⟩:=List.mem_map.1 he; rfl
/-- a split in two ways -/
theorem split_two {α:Type} {pre R pre' s':List α} {a c:α} (h:pre++a::R=pre'++c::s'):(pre'=pre∧c=a∧s'=R)∨(∃ q,pre'=pre++a::q∧R=q++c::s')∨∃ q,pre=pre'++c::q∧s'=q++a::R:=by
 rcases List.append_eq_append_iff.1 h with ⟨q,h1,h2⟩ | ⟨q,h1,h2⟩
 ·cases q with
  | nil=>injection h2 with h3 h4; exact .inl ⟨by rw [h1]; simp,h3.symm,h4.symm⟩
  | cons x q=>injection h2 with h3 h4; subst h3; exact .inr (.inl ⟨q,h1,h4⟩)
 ·cases q with
  | nil=>injection h2 with h3 h4; exact .inl ⟨by rw [h1]; simp,h3,h4⟩
  | cons x q=>injection h2 with h3 h4; subst h3; exact .inr (.inr ⟨q,h1,h4⟩)
theorem Tr.uniq {ps:List PgS} {T:List (List AbN)} {root:Int} (h:Tr ps T root) {k:Nat} {pre suf l:List AbN} {a c:AbN} {j:Nat} (hk:T[k]? =some (pre++a::suf)) (hj:T[j]? =some l) (hc:c∈l) (hp:c.pg=a.pg):c=a:=by
 by_cases e:j=k
 ·subst e
  rw [hk] at hj
  injection hj with hj
  subst hj
  obtain ⟨h1,h2⟩:=h.same hk
  rcases List.mem_append.1 hc with hc | hc
  ·exact absurd hp (h1 c hc)
  ·rcases List.mem_cons.1 hc with rfl | hc
   ·rfl
   ·exact absurd hp (h2 c hc)
 ·exact absurd hp (h.other hj hk e hc (by simp))
/-- where the insertion stands when it asks for a page -/
theorem used_at {ps:List PgS} {T:List (List AbN)} {p:PuT} {fresh:Int} {t:TaT} {l:List TaT} {k:Nat} {pre suf:List AbN} {a:AbN} (h:Tr ps T 0) (hi:InsOk T 0 p) (hu:(stepF ps p fresh).2.used=true) (hl:p.left=t::l) (hk:T[k]? =some (pre++a::suf)) (hpa:a.pg=p.pos):lessF t.1 a.low=false∧∀ c s,suf=c::s→lessF t.1 c.low=true:=by
 obtain ⟨j,lv,c,hj,hc,h1,h2,h3⟩:=hi.pos t l hl
 obtain rfl:=h.uniq hk hj hc (h1.trans hpa.symm)
 obtain ⟨n,hn,hlv,hdd,hrt,hhi,hes⟩:=h.node hk
 have hL:=(h.level hk).2
 have hsn:=snd_next (x:=t.1) hdd hhi fun b hb=>hL.l4 b (by simp [hb])
 rw [used_here hu hl (by rw [← hpa]; exact hn)] at hsn
 refine ⟨h3,?_⟩
 rintro b s rfl
 cases hc:lessF t.1 b.low with
 | true=>rfl
 | false=>simp [sndA,hc] at hsn
theorem low_le {l pre' s':List AbN} {a c:AbN} {q R:List AbN} {x:ByteArray} (h:LvOk (pre'++c::(q++a::R))) (hx:4≤x.size) (hge:lessF x a.low=false):∀ d s,q++a::R=d::s→lessF x d.low=false:=fun d s e=>by
 cases q with
 | nil=>injection e with e1 e2; rw [← e1]; exact hge
 | cons y q=>
   injection e with e1 e2
   subst e1
   have h1:=h.pw
   have h2:=(List.pairwise_cons.1 (List.pairwise_append.1 h1).2.1).2
   have h3:=((List.pairwise_cons.1 h2).1 a (by simp)).1
   cases hq:lessF x y.low with
   | false=>rfl
   | true=>rw [lessF_trans hq h3] at hge; cases hge
/-- the shape of what is pending, and the pages still asked for -/
theorem out_shp {ps:List PgS} {T T':List (List AbN)} {p:PuT} {nx:Int} {R:PuT×GoT} (hR:stepF ps p nx=R) (h:Tr ps T 0) (h':Tr (doB ps R.2.eds) T' 0) (hi:InsOk T 0 p) (ho:Out T T' p R.1 R.2 nx) (hs:Shp T p):Shp T' R.1∧fz T' R.1+(if R.2.used then 1 else 0)≤fz T p:=by
 have two:∀ {t:TaT} {l:List TaT} {k:Nat} {pre suf:List AbN} {a:AbN},p.left=t::l→t.2.1=(k:Int)→T[k]? =some (pre++a::suf)→a.es.length=8→R.2.used=true→a.pg=p.pos→l=[]:=fun {t l k pre suf a} e hk ht h8 hu hpa=>by
  rcases hs with hs | ⟨t0,hs⟩ | ⟨t0,u0,k0,hs,h2,h3,h4,h5⟩
  ·rw [e] at hs; cases hs
  ·rw [e] at hs; injection hs
  ·exfalso
   rw [e] at hs
   injection hs with e1 e2
   subst e1
   obtain rfl:k0=k:=by omega
   obtain ⟨q1,q2⟩:=used_at h hi (by rw [hR]; exact hu) e ht hpa
   have:=h5 pre suf a ht q1 q2
   omega
 cases ho with
 | idle e hT hl _ hu=>exact ⟨.inl hl,by rw [hu,fz_nil hl]; simp⟩
 | move t l e hT hl _ hu=>
   refine ⟨?_,by rw [hu,fz_cons hl,fz_cons e,hT]; simp⟩
   rw [hT]
   rcases hs with hs | ⟨t0,hs⟩ | ⟨t0,u0,k0,hs,h2⟩
   ·rw [e] at hs; cases hs
   ·exact .inr (.inl ⟨t0,by rw [hl,← e]; exact hs⟩)
   ·exact .inr (.inr ⟨t0,u0,k0,by rw [hl,← e]; exact hs,h2⟩)
 | there t l k pre suf a e hk hT ht _ hl _ hu=>
   rcases hs with hs | ⟨t0,hs⟩ | ⟨t0,u0,k0,hs,h2,h3,h4,h5⟩
   ·rw [e] at hs; cases hs
   ·rw [e] at hs; injection hs with _ e2; rw [e2] at hl
    exact ⟨.inl hl,by rw [hu,fz_nil hl]; simp⟩
   ·rw [e] at hs
    injection hs with e1 e2
    subst e1
    rw [e2] at hl
    refine ⟨.inr (.inl ⟨u0,hl⟩),?_⟩
    rw [hu,fz_cons hl,fz_cons e,e2,hT]
    simp only [List.length_cons,List.length_nil,Bool.false_eq_true,if_false]
    omega
 | put t l k pre suf a e hk ht hT _ hl _ hu=>
   rcases hs with hs | ⟨t0,hs⟩ | ⟨t0,u0,k0,hs,h2,h3,h4,h5⟩
   ·rw [e] at hs; cases hs
   ·rw [e] at hs; injection hs with _ e2; rw [e2] at hl
    exact ⟨.inl hl,by rw [hu,fz_nil hl]; simp⟩
   ·rw [e] at hs
    injection hs with e1 e2
    subst e1
    obtain rfl:k0=k:=by omega
    rw [e2] at hl
    refine ⟨.inr (.inl ⟨u0,hl⟩),?_⟩
    have hrf:rfull T'=rfull T:=by
     rw [rfull,rfull,hT,List.getLast?_eq_getElem?,List.getLast?_eq_getElem?,List.length_set,List.getElem?_set_ne (by omega)]
    rw [hu,fz_cons hl,fz_cons e,e2,hrf,hT,List.length_set]
    simp only [List.length_cons,List.length_nil,Bool.false_eq_true,if_false]
    omega
 | cut t l k pre suf a mid e hk ht h8 htop hT hl _ hp hpa hu=>
   obtain rfl:=two e hk ht h8 hu hpa
   obtain ⟨q1,q2⟩:=used_at h hi (by rw [hR]; exact hu) e ht hpa
   have hL:=(h.level ht).2
   have hkl:=(List.getElem?_eq_some_iff.1 ht).1
   have h4:4≤t.1.size:=(hi.tasks t (by rw [e]; simp)).1
   refine ⟨.inr (.inr ⟨t, _,k,hl,hk,by rw [hT,List.length_set]; exact htop,rfl,?_⟩),?_⟩
   ·intro pre' s' c hc hge hlt
    rw [hT,List.getElem?_set_self hkl] at hc
    injection hc with hc
    rcases split_two hc with ⟨_,rfl, _⟩ | ⟨q, _,h6⟩ | ⟨q,h6,h7⟩
    ·show 1≤(a.es.take 4).length∧(a.es.take 4).length≤4
     rw [List.length_take]; omega
    ·cases q with
     | nil=>
       injection h6 with h6 _
       subst h6
       show 1≤(a.es.drop 4).length∧(a.es.drop 4).length≤4
       rw [List.length_drop]; omega
     | cons y q=>
       exfalso
       injection h6 with _ h6
       have h8:=hL.behind q2 c (by rw [h6]; simp)
       rw [h8] at hge; cases hge
    ·exfalso
     subst h6
     have h8:LvOk (pre'++c::(q++a::suf)):=by rw [show pre'++c::(q++a::suf)=(pre'++c::q)++a::suf by simp]; exact hL
     cases q with
     | nil=>
       have h9:=hlt _ _ h7
       have h9:lessF t.1 a.low=true:=h9
       rw [q1] at h9; cases h9
     | cons d q=>
       have h9:=hlt _ _ h7
       rw [low_le (l:=[]) (s':=[]) h8 h4 q1 d _ rfl] at h9; cases h9
   ·have hl2:R.1.left=[t,(mid,(k:Int)+1,nx)]:=hl
    have hrf:rfull T'=rfull T:=by
     rw [rfull,rfull,hT,List.getLast?_eq_getElem?,List.getLast?_eq_getElem?,List.length_set,List.getElem?_set_ne (by omega)]
    rw [hu,if_pos rfl,fz_cons (T:=T') hl2,fz_cons e,hrf,hT,List.length_set,hk]
    simp only [List.length_cons,List.length_nil,Int.toNat_natCast]
    omega
 | grow t l T0 r e hk ht hr h8 hT hl _ hp hpa hu=>
   have hTk:T[T0.length]? =some ([]++r::[]):=by rw [ht]; simp
   obtain rfl:=two e hk hTk h8 hu (by rw [hr,hpa])
   refine ⟨.inr (.inl ⟨t,hl⟩),?_⟩
   have e1:rfull T=2:=by rw [rfull,ht,List.getLast?_concat]; simp only [h8,if_true]
   have e2:rfull T'=0:=by
    rw [rfull,hT,show T0++[[(⟨nx,r.low,r.es⟩:AbN)],[⟨p.root,leastB,[(leastB,nx)]⟩]]=(T0++[[(⟨nx,r.low,r.es⟩:AbN)]])++[[⟨p.root,leastB,[(leastB,nx)]⟩]] by simp,List.getLast?_concat]; rfl
   rw [hu,if_pos rfl,fz_cons (T:=T') hl,fz_cons e,e1,e2,hT,ht,hk]
   simp only [List.length_append,List.length_cons,List.length_nil,Int.toNat_natCast]
   omega
end
section
open Go.RowKit
theorem rawE_app0 (l:List ByteArray) (m i:Nat):rawE i (l++List.replicate m ByteArray.empty)=rawE i l:=by
 rw [rawE_append,rawE_nil (l:=List.replicate m ByteArray.empty),List.append_nil]
 intro k
 rw [List.getD_eq_getElem?_getD]
 cases h:(List.replicate m ByteArray.empty)[k]? with
 | none=>rfl
 | some x=>rw [(List.mem_replicate.1 (List.mem_of_getElem? h)).2]; rfl
theorem freeE_app0:∀ (l:List ByteArray) (m i:Nat),freeE i (l++List.replicate m ByteArray.empty) (i+l.length+m)=freeE i l (i+l.length)
 | [],0,i=>by simp [freeE]
 | [],m+1,i=>by
   rw [List.nil_append,List.replicate_succ]
   have h1:∀ l d,freeE i (ByteArray.empty::l) d=i:=fun l d=>if_pos rfl
   rw [h1]; rfl
 | x::l,m,i=>by
   rw [List.cons_append,freeE,freeE]
   split
   ·rfl
   ·have h:=freeE_app0 l m (i+1)
    rw [List.length_cons,show i+(l.length+1)+m=i+1+l.length+m by omega,show i+(l.length+1)=i+1+l.length by omega]
    exact h
theorem plain_rest (ss:List ByteArray):ss=plainL ss++List.replicate (ss.length - (plainL ss).length) ByteArray.empty:=by
 have hl:(plainL ss).length≤ss.length:=by rw [plainL_len]; exact trimN_le ss _
 refine List.ext_getElem (by rw [List.length_append,List.length_replicate]; omega) fun i h1 h2=>?_
 have e1:ss[i]=itemF ss i:=(item_in h1).symm
 rcases Nat.lt_or_ge i (plainL ss).length with g | g
 ·rw [List.getElem_append_left g,e1,plain_get g]
 ·rw [List.getElem_append_right g,List.getElem_replicate,e1,← item_plain,item_out g]
theorem hdOk_empty:hdOk ByteArray.empty=false:=by decide
theorem nodF_plain (k:Int) (its:List ByteArray):nodF k (plainL its)=nodF k its:=by
 obtain ⟨m,hm⟩:∃ m,its=plainL its++List.replicate m ByteArray.empty:=⟨_,plain_rest its⟩
 generalize plainL its=l at hm
 subst hm
 by_cases hk:k=2
 ·subst hk
  cases l with
  | nil=>
    cases m with
    | zero=>rfl
    | succ m=>
      rw [List.nil_append,List.replicate_succ]
      unfold nodF
      rw [if_neg (by decide),if_neg (by decide)]
      dsimp only
      rw [if_pos hdOk_empty]
  | cons h l=>
    rw [List.cons_append]
    unfold nodF
    rw [if_neg (by decide),if_neg (by decide)]
    dsimp only
    have e:=freeE_app0 l m 1
    rw [rawE_app0,List.length_append,List.length_replicate,show l.length+m+1=1+l.length+m by omega,e,show 1+l.length=l.length+1 by omega]
 ·unfold nodF
  rw [if_pos hk,if_pos hk]
/-- an edit of a page of layer 3: kind, LSN, items -/
def edS (p:PgS) (e:EdT) (n:Int):PgS:=if e.2.1 < 0 then (byteI (bl e.2.2) 0,n,[]) else (p.1,n,plainL (withL p.2.2 e.2.1.toNat e.2.2))
def do1S (sh:List PgS) (e:EdT) (n:Int):List PgS:=sh.set e.1.toNat (edS (sh.getD e.1.toNat pgs0) e n)
def doS (sh:List PgS) (l:List EdT) (n:Int):List PgS:=l.foldl (fun s e=>do1S s e n) sh
theorem do1S_len (sh:List PgS) (e:EdT) (n:Int):(do1S sh e n).length=sh.length:=List.length_set
theorem doS_len:∀ (l:List EdT) (sh:List PgS) (n:Int),(doS sh l n).length=sh.length
 | [], _, _=>rfl
 | e::l,sh,n=>by show (doS (do1S sh e n) l n).length= _; rw [doS_len l,do1S_len]
theorem doS_take {sh:List PgS} {l:List EdT} {n:Int} {k:Nat} (h:k < l.length):doS sh (l.take (k+1)) n=do1S (doS sh (l.take k) n) l[k] n:=by
 rw [List.take_succ_eq_append_getElem h,doS,List.foldl_append]; rfl
/-- a page that holds a node -/
def FitP (p:PgS):Prop:=(0≤p.1∧p.1≤2)∧(0≤p.2.1∧p.2.1≤1000)∧p.2.2.length≤10∧∀ s∈p.2.2,s.size≤20
def kind2:ByteArray:=strOfNums [2]
/-- an edit of a node -/
def FitE (N:Nat) (e:EdT):Prop:=(0≤e.1∧e.1 < N)∧((e.2.1= -1∧e.2.2=kind2)∨(0≤e.2.1∧e.2.1≤9∧e.2.2.size≤20))
def FitS (sh:List PgS):Prop:=∀ p∈sh,FitP p
theorem kind2_b:byteI (bl kind2) 0=2∧kind2.size=1∧kindB kind2=2:=by decide
theorem fit_right {k l:Int} {ss:List ByteArray} (h:FitP (k,l,ss)):rightB k l ss=true:=by
 obtain ⟨h1,h2,h3,h4⟩:=h
 have h3:ss.length≤10:=h3
 have h4:∀ s∈ss,s.size≤20:=h4
 have h1:0≤k∧k≤2:=h1
 have h2:0≤l∧l≤1000:=h2
 have h5:(plainL ss).length≤10:=by rw [plainL_len]; exact Nat.le_trans (trimN_le ss _) h3
 have h6:=sizeT_le (plainL ss) 20 fun s hs=>h4 s (List.mem_of_mem_take hs)
 have h7:sizeL ss≤512:=by
  have:=Nat.mul_le_mul_right (2+20) h5
  rw [sizeL]; omega
 have h8:longB ss=false:=by
  rw [longB,List.any_eq_false]
  intro s hs
  have:=h4 s hs
  simp; omega
 simp only [rightB,h8,Bool.not_false,Bool.true_and,Bool.and_eq_true,decide_eq_true_eq]
 omega
theorem withL_memZ {ss:List ByteArray} {K:Nat} {s:ByteArray}:∀ x∈withL ss K s,x=s∨x∈ss∨x=ByteArray.empty:=fun x hx=>by
 rcases List.mem_or_eq_of_mem_set hx with h | h
 ·rcases List.mem_append.1 h with h | h
  ·exact .inr (.inl (List.mem_of_mem_take h))
  ·exact .inr (.inr (List.mem_replicate.1 h).2)
 ·exact .inl h
theorem fit_ed {p:PgS} {e:EdT} {N:Nat} {n:Int} (hp:FitP p) (he:FitE N e) (hn:0≤n∧n≤1000):FitP (edS p e n)∧(0≤e.2.1→FitP (p.1,p.2.1,withL p.2.2 e.2.1.toNat e.2.2)):=by
 obtain ⟨h1,h2,h3,h4⟩:=hp
 have hw:0≤e.2.1→FitP (p.1,p.2.1,withL p.2.2 e.2.1.toNat e.2.2):=fun h0=>by
  rcases he.2 with ⟨h5, _⟩ | ⟨h5,h6,h7⟩
  ·omega
  ·have h8:(plainL p.2.2).length≤10:=by rw [plainL_len]; exact Nat.le_trans (trimN_le _ _) h3
   refine ⟨h1,h2,?_,fun s hs=>?_⟩
   ·show (withL _ _ _).length≤10
    simp only [withL,padTo,List.length_set,List.length_append,List.length_replicate]; omega
   ·rcases withL_memZ s hs with rfl | hs | rfl
    ·exact h7
    ·exact h4 s hs
    ·exact Nat.zero_le _
 refine ⟨?_,hw⟩
 unfold edS
 rcases he.2 with ⟨h5,h6⟩ | ⟨h5,h6,h7⟩
 ·rw [if_pos (by omega),h6,kind2_b.1]
  exact ⟨by dsimp only; omega,hn,Nat.zero_le _,fun s hs=>nomatch hs⟩
 ·rw [if_neg (by omega)]
  obtain ⟨_, _,g3,g4⟩:=hw h5
  exact ⟨h1,hn,Nat.le_trans (by rw [plainL_len]; exact trimN_le _ _) g3,fun s hs=>g4 s (List.mem_of_mem_take hs)⟩
theorem fit_do1 {sh:List PgS} {e:EdT} {n:Int} (h:FitS sh) (he:FitE sh.length e) (hn:0≤n∧n≤1000):FitS (do1S sh e n):=fun p hp=>by
 rcases List.mem_or_eq_of_mem_set hp with hp | rfl
 ·exact h p hp
 ·exact (fit_ed (h _ (getD_mem' (by have:=he.1; omega)).2) he hn).1
theorem fit_do:∀ {l:List EdT} {sh:List PgS} {n:Int},FitS sh→(∀ e∈l,FitE sh.length e)→(0≤n∧n≤1000)→FitS (doS sh l n)
 | [], _, _,h, _, _=>h
 | e::l,sh,n,h,he,hn=>fit_do (l:=l) (fit_do1 h (he e (by simp)) hn) (fun x hx=>by rw [do1S_len]; exact he x (by simp [hx])) hn
/-- the pages hold what the book's pages hold -/
structure RelS (sh ps:List PgS):Prop where
 le:sh.length≤ps.length
 pg:∀ i,i < sh.length→(sh.getD i pgs0).1=(ps.getD i pgs0).1∧(sh.getD i pgs0).2.2=plainL (ps.getD i pgs0).2.2
 out:∀ i:Nat,sh.length≤i→ndAt ps (i:Int)=none
theorem RelS.nd {sh ps:List PgS} (h:RelS sh ps):ndAt sh=ndAt ps:=by
 funext x
 by_cases h0:0≤x∧x < sh.length
 ·obtain ⟨h1,h2⟩:=h.pg x.toNat (by omega)
  have:=h.le
  rw [ndAt,ndAt,if_pos h0,if_pos (by omega),h1,h2,nodF_plain]
 ·rw [ndAt,if_neg h0]
  by_cases h1:0≤x
  ·obtain ⟨i,rfl⟩:∃ i:Nat,x=(i:Int):=⟨x.toNat,by omega⟩
   exact (h.out i (by omega)).symm
  ·rw [ndAt,if_neg (by omega)]
theorem getD_set_self {α:Type} {l:List α} {i:Nat} {x d:α} (h:i < l.length):(l.set i x).getD i d=x:=by
 rw [List.getD_eq_getElem?_getD,List.getElem?_set_self h]; rfl
theorem getD_set_ne {α:Type} {l:List α} {i j:Nat} {x d:α} (h:i≠j):(l.set i x).getD j d=l.getD j d:=by
 rw [List.getD_eq_getElem?_getD,List.getD_eq_getElem?_getD,List.getElem?_set_ne h]
theorem RelS.do1 {sh ps:List PgS} (h:RelS sh ps) {e:EdT} (he:FitE sh.length e) (n:Int):RelS (do1S sh e n) (do1B ps e):=by
 have hle:=h.le
 have h1:=he.1
 have hok:edOk ps.length e=true:=by
  refine edOk_yes ?_
  rcases he.2 with ⟨h2, _⟩ | ⟨h2,h3, _⟩<;>omega
 have hd:do1B ps e=ps.set e.1.toNat (edP (ps.getD e.1.toNat pgs0) e):=by rw [do1B,hok]; rfl
 refine ⟨by rw [do1S_len,do1B_len]; exact hle,fun i hi=>?_,fun i hi=>?_⟩
 ·rw [do1S_len] at hi
  by_cases hie:e.1.toNat=i
  ·subst hie
   rw [do1S,hd,getD_set_self (by omega),getD_set_self (by omega)]
   obtain ⟨g1,g2⟩:=h.pg e.1.toNat hi
   unfold edS edP
   rcases he.2 with ⟨h2,h3⟩ | ⟨h2,h3,h4⟩
   ·rw [if_pos (by omega),if_pos (by omega),h3,kind2_b.1,kind2_b.2.2]
    exact ⟨rfl,rfl⟩
   ·rw [if_neg (by omega),if_neg (by omega)]
    refine ⟨g1,plain_ext fun j=>?_⟩
    rw [item_with,g2,item_plain,item_get,item_get,setI_getD]
  ·rw [do1S,hd,getD_set_ne hie,getD_set_ne hie]; exact h.pg i hi
 ·rw [do1S_len] at hi
  have:ndAt (do1B ps e) (i:Int)=ndAt (doB ps [e]) (i:Int):=rfl
  rw [this,nd_other (fun y hy=>by rw [List.mem_singleton.1 hy]; omega)]
  exact h.out i hi
theorem RelS.do:∀ {l:List EdT} {sh ps:List PgS},RelS sh ps→(∀ e∈l,FitE sh.length e)→∀ n,RelS (doS sh l n) (doB ps l)
 | [], _, _,h, _, _=>h
 | e::l,sh,ps,h,he,n=>RelS.do (l:=l) (h.do1 (he e (by simp)) n) (fun x hx=>by rw [do1S_len]; exact he x (by simp [hx])) n
-- everything is told by the nodes
section
variable {sh ps:List PgS} (h:ndAt sh=ndAt ps)
include h
theorem step_cong (p:PuT) (f:Int):stepF sh p f=stepF ps p f:=by unfold stepF; rw [h]
theorem dsc_cong (lv:Int):∀ (k:Nat) (x:Int),dscF sh lv k x=dscF ps lv k x
 | 0, _=>rfl
 | k+1,x=>by
   rw [dscF,dscF,h]
   cases ndAt ps x with
   | none=>rfl
   | some n=>dsimp only; rw [dsc_cong lv k]
theorem chn_cong (lv:Int):∀ (k:Nat) (x:Int),chnF sh lv k x=chnF ps lv k x
 | 0, _=>rfl
 | k+1,x=>by
   rw [chnF,chnF,h]
   cases ndAt ps x with
   | none=>rfl
   | some n=>dsimp only; rw [chn_cong lv k]
theorem row_cong (root lv:Int):rowF sh root lv=rowF ps root lv:=by
 rw [rowF,rowF,dsc_cong h]
 cases dscF ps lv 1000 root with
 | none=>rfl
 | some y=>exact chn_cong h lv 1000 y.1
theorem all_cong (root:Int):allF sh root=allF ps root:=by rw [allF,allF,row_cong h]
theorem unl_cong (root:Int):unlF sh root=unlF ps root:=by rw [unlF,unlF,row_cong h,row_cong h]
theorem wkN_cong (w:WkT):wkN sh w=wkN ps w:=by unfold wkN; rw [h]
theorem rmG_cong (x:ByteArray):∀ (k:Nat) (w:WkT),rmG sh x k w=rmG ps x k w
 | 0, _=>rfl
 | k+1,w=>by
   rw [rmG,rmG,wkN_cong h]
   cases wkN ps w with
   | mk w1 r=>
     cases r with
     | off=>rfl
     | on=>exact rmG_cong x k w1
     | «at» n=>rfl
theorem rm_cong (root:Int) (x:ByteArray):rmF sh root x=rmF ps root x:=rmG_cong h x 1000 _
theorem belowL_cong (root:Int) (k:Nat):belowL sh root k=belowL ps root k:=by
 cases k with
 | zero=>rfl
 | succ k=>exact row_cong h root _
theorem check_cong (root:Int):checkF sh root=checkF ps root:=by
 unfold checkF ckX
 rw [h]
 simp only [row_cong h,belowL_cong h]
end
theorem fit_ok {sh:List PgS} (h:FitS sh) (hl:sh.length≤1000):OkS sh∧OkC sh:=by
 refine ⟨⟨hl,fun p hp=>Nat.le_trans (h p hp).2.2.1 (by decide),fun p hp s hs=>Nat.le_trans ((h p hp).2.2.2 s hs) (by decide)⟩,fun p hp=>?_⟩
 have h1:=(h p hp).2.2.1
 have h2:=rawE_len 1 p.2.2.tail
 rw [List.length_tail] at h2
 omega
end
section
open Go.RowKit
section
variable {ps ps':List PgS} {T2:List (List AbN)} {pre suf u v:List AbN} {a b m:AbN} {A B:List Kv}
theorem un_lfs (ha:a.es=[]):lfs (unT pre suf u v a b m A B T2)=lfs ((pre++a::b::suf)::(u++m::v)::T2):=by
 show (pre++⟨b.pg,a.low,b.es⟩::suf).flatMap AbN.es=(pre++a::b::suf).flatMap AbN.es
 rw [List.flatMap_append,List.flatMap_append,List.flatMap_cons,List.flatMap_cons,List.flatMap_cons,ha]; rfl
end
end
section
open Go.RowKit
/-- the book holds a valid tree with the entries of the numbers S -/
def SortI (l:List Int) (ps:List PgS) (S:List Nat):Prop:=∃ T,Tr ps T 0∧(lfs T).Perm (S.map fun i=>(entG l i, -1))∧S.Nodup∧(∀ i∈S,i < 90)∧(∀ q∈ps,q.2.2.length≤101)∧ps.length=60
def offS (S:List Nat) (k:Nat):List Nat:=S.filter fun i=>!(i==k)
theorem off_mem {S:List Nat} {k i:Nat}:i∈offS S k↔i∈S∧i≠k:=by simp [offS]
theorem sort_rm {l:List Int} {ps:List PgS} {S:List Nat} (h:SortI l ps S) {k:Nat} (hk:k < 90):(rmF ps 0 (entG l k)).2=decide (k∈S)∧SortI l (doB ps (rmF ps 0 (entG l k)).1) (offS S k):=by
 obtain ⟨T,h1,h2,h3,h4,h5,h6⟩:=h
 have hz:4≤(entG l k).size:=by rw [entG,entF_size]; omega
 obtain ⟨T',g1,g2,g3, _⟩:=h1.rm (x:=entG l k) hz (by omega) h5
 have hin:(∃ e∈lfs T,e.1=entG l k)↔k∈S:=by
  constructor
  ·rintro ⟨e,he,hx⟩
   obtain ⟨j,hj,rfl⟩:=List.mem_map.1 (h2.mem_iff.1 he)
   have:=entG_inj (by have:=h4 j hj; omega) (by omega) hx
   rwa [← this]
  ·intro hk
   exact ⟨_,h2.mem_iff.2 (List.mem_map.2 ⟨k,hk,rfl⟩),rfl⟩
 refine ⟨?_,T',g1,?_,h3.filter _,fun i hi=>h4 i (off_mem.1 hi).1,its_do h5,by rw [doB_len]; exact h6⟩
 ·cases hb:(rmF ps 0 (entG l k)).2 with
  | true=>rw [decide_eq_true (hin.1 (g3.1 hb))]
  | false=>rw [decide_eq_false]; intro hk; rw [g3.2 (hin.2 hk)] at hb; cases hb
 ·rw [g2,remA]
  refine (h2.filter _).trans (List.Perm.of_eq ?_)
  rw [List.filter_map,offS]
  congr 1
  refine List.filter_congr fun i hi=>?_
  show (!((entG l i).toList==(entG l k).toList))=!(i==k)
  congr 1
  by_cases e:i=k
  ·subst e; simp
  ·have:¬ entG l i=entG l k:=fun h=>e (entG_inj (by have:=h4 i hi; omega) (by omega) h)
   rw [show (i==k)=false by rw [beq_eq_false_iff_ne]; exact e]
   cases hc:((entG l i).toList==(entG l k).toList) with
   | true=>exact absurd (tl_eq.1 hc) this
   | false=>rfl
theorem sort_check {l:List Int} {ps:List PgS} {S:List Nat} (h:SortI l ps S):checkF ps 0=0:=by
 obtain ⟨T,h1, _, _, _, _,h6⟩:=h
 exact h1.check (by omega)
theorem sort_len {l:List Int} {ps:List PgS} {S:List Nat} (h:SortI l ps S):(allF ps 0).length=S.length∧S.Nodup∧S.length≤90:=by
 obtain ⟨T,h1,h2,h3,h4, _,h6⟩:=h
 refine ⟨by rw [← List.length_map (f:=kv),h1.all (by omega),h2.length_eq,List.length_map],h3,?_⟩
 have:=sub_len (m:=List.range 90) h3 fun i hi=>List.mem_range.2 (h4 i hi)
 rwa [List.length_range] at this
theorem sort_at {l:List Int} {ps:List PgS} {S:List Nat} (h:SortI l ps S) {i:Nat} (hi:i < (allF ps 0).length):∃ j∈S,j < 90∧((allF ps 0).getD i en0).1=entG l j:=by
 obtain ⟨T,h1,h2,h3,h4, _,h6⟩:=h
 obtain ⟨e,he⟩:∃ z,(allF ps 0).getD i en0=z:=⟨_,rfl⟩
 have hm:e∈allF ps 0:=by rw [← he]; exact (getD_mem' hi).2
 have hk:kv e∈lfs T:=by rw [← h1.all (by omega)]; exact List.mem_map.2 ⟨e,hm,rfl⟩
 obtain ⟨j,hj,hje⟩:=List.mem_map.1 (h2.mem_iff.1 hk)
 refine ⟨j,hj,h4 j hj,?_⟩
 rw [he]
 exact (congrArg Prod.fst hje).symm
theorem all_rises {ps:List PgS} {T:List (List AbN)} {root:Int} (h:Tr ps T root) (hps:ps.length≤150):(allF ps root).Pairwise (fun a b=>lessF a.1 b.1=true):=by
 have h2:=h.all hps
 obtain ⟨T0,r,e, _, _, _⟩:=h.root
 have h0:T[0]? =some (lvA T 0):=by
  have:0 < T.length:=by rw [e]; simp
  rw [lvA,List.getD_eq_getElem?_getD,List.getElem?_eq_getElem this]; rfl
 have h3:=(h.level h0).2.rises
 rw [show (lvA T 0).flatMap AbN.es=lfs T from rfl,← h2] at h3
 exact List.pairwise_map.1 h3
theorem sort_rise {l:List Int} {ps:List PgS} {S:List Nat} (h:SortI l ps S) {i j:Nat} (hi:i < (allF ps 0).length) (hj:j < i):lessF ((allF ps 0).getD j en0).1 ((allF ps 0).getD i en0).1=true:=by
 obtain ⟨T,h1, _, _, _, _,h6⟩:=h
 have h2:=List.pairwise_iff_getElem.1 (all_rises h1 (by omega)) j i (by omega) hi hj
 rw [List.getD_eq_getElem?_getD,List.getD_eq_getElem?_getD,List.getElem?_eq_getElem hi,List.getElem?_eq_getElem (show j < (allF ps 0).length by omega)]
 exact h2
-- the set of the entries left, as a map
end
section
open Go.RowKit
theorem ent_parts {x:ByteArray} {k:ByteArray} {p s:Int} (h:x=entF k p s) (hp:0≤p∧p < 65536) (hs:0≤s∧s < 65536):qkF x=k∧opF x=p∧osF x=s∧entF (qkF x) (opF x) (osF x)=x:=by
 have hz:¬ (entF k p s).size < 4:=by rw [entF_size]; omega
 have h1:qkF x=k:=by rw [h,qkF,if_neg hz,pkF_ent]
 have h2:opF x=p:=by rw [h,opF,if_neg hz,ppF_ent]; omega
 have h3:osF x=s:=by rw [h,osF,if_neg hz,psF_ent]; omega
 exact ⟨h1,h2,h3,by rw [h1,h2,h3,h]⟩
theorem rmG_is {ps:List PgS} {x:ByteArray} (hok:OkS ps):∀ (k:Nat) (w:WkT),∃ (pg:Int) (es:List EnD),es.length≤100000∧(rmG ps x k w).1=clearE pg es
 | 0,w=>⟨0,[],by simp,rfl⟩
 | k+1,w=>by
   obtain ⟨pos,st,fm,fin⟩:=w
   rcases hR:wkN ps ⟨pos,st,fm,fin⟩ with ⟨w1, _ | _ | nd⟩
   ·exact ⟨0,[],by simp,by rw [rm_off hR]; rfl⟩
   ·rw [rm_on hR]; exact rmG_is hok k w1
   ·have hN:=(nd_ok hok (wk_at2 hR)).len
    exact ⟨pos,onlyX x nd.es,Nat.le_trans (List.length_filter_le _ _) (by omega),by rw [rm_at hR]⟩
theorem rm_len {ps:List PgS} (hok:OkS ps) (root:Int) (x:ByteArray):(rmF ps root x).1.length≤100000:=by
 obtain ⟨pg,es,h1,h⟩:=rmG_is (x:=x) hok 1000 ⟨root,0,x,false⟩
 rw [rmF,h,clearE_len]; exact h1
theorem lrestn (x:Int) (n:Nat) (w:World) (hn0:0 < n) (hn9:n≤100000):
  Calls Tryz.prog 8 #[.int .i64 x, .int .i64 ((n:Int))] w (Ret (.int .i64 ((x.tmod (n:Int)+(n:Int)).tmod (n:Int))) w):=by
 have h1_:=Int.lt_tmod_of_pos x (b:=(n:Int)) (by omega)
 have h2_:=Int.tmod_lt_of_pos x (b:=(n:Int)) (by omega)
 go_enter Tryz.func8,Tryz.ntmps8
 have hst0:=St.start w
 refine wp_seq (sqr (sqp [.k 4 (vi 0)] ?_))
 refine then_normal (wp_seq (sqr (sqp [.m 5 0, .m 6 1] ?_)))
 refine sql (vi ((x.tmod (n:Int)))) hst0 (fun cx=>run_rem rfl (cx.ou 5) (cx.ou 6) (by omega) (rfl)) ?_
 refine sqp [.m 8 1,sI 9 ((x.tmod (n:Int))+(n:Int)) (by omega), .m 10 1] ?_
 refine sql (vi ((((x.tmod (n:Int))+(n:Int)).tmod (n:Int)))) hst0 (fun cx=>run_rem rfl (cx.ou 9) (cx.ou 10) (by omega) (rfl)) ?_
 refine sqp [.m 4 11] ?_
 refine then_normal (wp_ret ?_)
 refine bpr (vi ((((x.tmod (n:Int))+(n:Int)).tmod (n:Int)))) (results_1 Tryz.results8 rpt) ?_
 exact Ret.of rfl hst0.ext
end
section
open Go.RowKit
-- sizes
def SzT (T:List (List AbN)):Prop:=∀ l∈T,∀ a∈l,a.low.size≤6∧∀ e∈a.es,e.1.size≤6
def SzN (ps:List PgS) (T:List (List AbN)):Prop:=∀ q∈pgsA T,∀ n,ndAt ps q=some n→n.high.size≤6∧∀ e∈n.es,e.1.size≤6
theorem pgs_at {T:List (List AbN)} {q:Int} (h:q∈pgsA T):∃ (k:Nat) (l:List AbN) (a:AbN),T[k]? =some l∧a∈l∧a.pg=q:=by
 obtain ⟨a,ha,rfl⟩:=List.mem_map.1 h
 obtain ⟨l,hl,hal⟩:=List.mem_flatten.1 ha
 obtain ⟨k,hk⟩:=List.mem_iff_getElem?.1 hl
 exact ⟨k,l,a,hk,hal,rfl⟩
theorem es_keys {n:NoD} {a:AbN} (h:n.es.map kv=a.es) {M:Nat}:(∀ e∈a.es,e.1.size≤M)↔∀ e∈n.es,e.1.size≤M:=by
 rw [← h]
 constructor
 ·intro h e he; exact h (kv e) (List.mem_map.2 ⟨e,he,rfl⟩)
 ·intro h e he
  obtain ⟨y,hy,rfl⟩:=List.mem_map.1 he
  exact h y hy
theorem sz_TN {ps:List PgS} {T:List (List AbN)} {root:Int} (h:Tr ps T root) (hs:SzT T):SzN ps T:=fun q hq n hn=>by
 obtain ⟨k,l,a,hk,ha,rfl⟩:=pgs_at hq
 obtain ⟨pre,suf,rfl⟩:=List.append_of_mem ha
 obtain ⟨n0,h1,h2,h3,h4,h5,h6⟩:=h.node hk
 rw [hn] at h1
 injection h1 with h1
 subst h1
 have hl:=hs _ (List.mem_of_getElem? hk)
 refine ⟨?_,(es_keys h6).1 (hl a ha).2⟩
 rw [h5]
 cases suf with
 | nil=>exact Nat.zero_le _
 | cons b s=>exact (hl b (by simp)).1
theorem sz_NT {ps:List PgS} {T:List (List AbN)} {root:Int} (h:Tr ps T root) (hs:SzN ps T):SzT T:=fun l hl a ha=>by
 obtain ⟨k,hk⟩:=List.mem_iff_getElem?.1 hl
 obtain ⟨pre,suf,rfl⟩:=List.append_of_mem ha
 obtain ⟨n,h1,h2,h3,h4,h5,h6⟩:=h.node hk
 refine ⟨?_,(es_keys h6).2 (hs _ (pgs_mem hk ha) n h1).2⟩
 rcases snoc_cases pre with rfl | ⟨p0,c,rfl⟩
 ·have h7:=(h.level hk).2.headlow
  rw [show a.low=leastB from h7,leastB_size]; omega
 ·obtain ⟨nc,c1, _, _, _,c5, _⟩:=h.node (k:=k) (pre:=p0) (suf:=a::suf) (a:=c) (by rw [hk]; simp)
  have h8:=(hs _ (pgs_mem hk (a:=c) (by simp)) nc c1).1
  rw [c5] at h8
  exact h8
theorem midE_s6 {n:NoD} (h:∀ e∈n.es,e.1.size≤6):(midE n).size≤6:=midE_sz h
theorem used_cut {ps:List PgS} {p:PuT} {fresh:Int} {n:NoD} {t:TaT} {l:List TaT} (h:(stepF ps p fresh).2.used=true) (hl:p.left=t::l) (hn:ndAt ps p.pos=some n):(stepF ps p fresh).1.left=p.left∨(stepF ps p fresh).1.left=p.left++[(midE n,t.2.1+1,fresh)]:=by
 unfold stepF at h ⊢
 rw [hl] at h ⊢
 dsimp only at h ⊢
 rw [hn] at h ⊢
 dsimp only at h ⊢
 split at h
 ·split at h<;>cases h
 ·rename_i h1
  rw [if_neg h1]
  split at h
  ·cases h
  ·rename_i h2
   rw [if_neg h2]
   split at h
   ·cases h
   ·rename_i h3
    rw [if_neg h3]
    split at h
    ·cases h
    ·rename_i h4
     rw [if_neg h4]
     split at h
     ·cases h
     ·rename_i h5
      rw [if_neg h5]
      split
      ·exact .inl rfl
      ·exact .inr rfl
/-- sizes behind a step of an insertion -/
theorem out_sz {ps:List PgS} {T T':List (List AbN)} {p:PuT} {nx:Int} {R:PuT×GoT} (hR:stepF ps p nx=R) (h:Tr ps T 0) (ho:Out T T' p R.1 R.2 nx) (hs:SzT T) (ht:∀ t∈p.left,t.1.size≤6):SzT T'∧∀ t∈R.1.left,t.1.size≤6:=by
 have hset:∀ {k:Nat} {l':List AbN},(∀ a∈l',a.low.size≤6∧∀ e∈a.es,e.1.size≤6)→SzT (T.set k l'):=fun {k l'} hl l hm=>by
  rcases List.mem_or_eq_of_mem_set hm with hm | rfl
  ·exact hs l hm
  ·exact hl
 cases ho with
 | idle e hT hl=>rw [hT,hl]; exact ⟨hs,fun t ht=>nomatch ht⟩
 | move t l e hT hl=>rw [hT,hl,← e]; exact ⟨hs,ht⟩
 | there t l k pre suf a e _ hT _ _ hl=>rw [hT,hl]; exact ⟨hs,fun s hm=>ht s (by rw [e]; simp [hm])⟩
 | put t l k pre suf a e hk htk hT _ hl=>
   rw [hl,hT]
   have h0:=hs _ (List.mem_of_getElem? htk)
   refine ⟨hset fun c hc=>?_,fun s hm=>ht s (by rw [e]; simp [hm])⟩
   rcases List.mem_append.1 hc with hc | hc
   ·exact h0 c (by simp [hc])
   ·rcases List.mem_cons.1 hc with rfl | hc
    ·refine ⟨(h0 a (by simp)).1,fun y hy=>?_⟩
     rcases List.mem_cons.1 ((insA_perm _ _).mem_iff.1 hy) with rfl | hy
     ·exact ht t (by rw [e]; simp)
     ·exact (h0 a (by simp)).2 y hy
    ·exact h0 c (by simp [hc])
 | cut t l k pre suf a mid e hk htk h8 htop hT hl _ hp hpa hu=>
   have h0:=hs _ (List.mem_of_getElem? htk)
   obtain ⟨n,n1, _, _, _, _,n6⟩:=h.node htk
   have hmid:mid.size≤6:=by
    have:=used_cut (ps:=ps) (p:=p) (fresh:=nx) (by rw [hR]; exact hu) e (by rw [← hpa]; exact n1)
    rw [hR,hl,e] at this
    rcases this with h9 | h9
    ·exact absurd (congrArg List.length h9) (by simp)
    ·have h10:=List.append_cancel_left h9
     injection h10 with h10 _
     injection h10 with h10 _
     rw [h10]; exact midE_s6 ((es_keys n6).1 (h0 a (by simp)).2)
   rw [hl,hT]
   refine ⟨hset fun c hc=>?_,fun s hm=>?_⟩
   ·rcases List.mem_append.1 hc with hc | hc
    ·exact h0 c (by simp [hc])
    ·rcases List.mem_cons.1 hc with rfl | hc
     ·exact ⟨(h0 a (by simp)).1,fun y hy=>(h0 a (by simp)).2 y (List.mem_of_mem_take hy)⟩
     ·rcases List.mem_cons.1 hc with rfl | hc
      ·exact ⟨hmid,fun y hy=>(h0 a (by simp)).2 y (List.mem_of_mem_drop hy)⟩
      ·exact h0 c (by simp [hc])
   ·rcases List.mem_append.1 hm with hm | hm
    ·exact ht s (by rw [e]; exact hm)
    ·rw [List.mem_singleton.1 hm]; exact hmid
 | grow t l T0 r e hk htk hr h8 hT hl=>
   rw [hl,hT,← e]
   rw [htk] at hs
   have h0:=hs [r] (by simp) r (by simp)
   refine ⟨fun l' hl'=>?_,ht⟩
   rcases List.mem_append.1 hl' with hl' | hl'
   ·exact hs l' (by simp [hl'])
   ·simp only [List.mem_cons,List.not_mem_nil,or_false] at hl'
    rcases hl' with rfl | rfl
    ·intro c hc; rw [List.mem_singleton.1 hc]; exact h0
    ·intro c hc
     rw [List.mem_singleton.1 hc]
     exact ⟨by rw [leastB_size]; omega,fun y hy=>by rw [List.mem_singleton.1 hy]; show leastB.size≤6; rw [leastB_size]; omega⟩
-- edits that fit
theorem sh_nd {sh:List PgS} (hF:FitS sh) {q:Int} {n:NoD} (h:ndAt sh q=some n):(0≤q∧q < sh.length)∧∀ e∈n.es,e.2.1≤9:=by
 obtain ⟨h0,h1, _⟩:=nd_at h
 have h2:=hF _ (getD_mem' (l:=sh) (n:=q.toNat) (d:=pgs0) (by omega)).2
 exact ⟨⟨h0,h1⟩,fun e he=>by have:=slot_nd h (Nat.le_trans h2.2.2.1 (by decide)) he; have:=h2.2.2.1; omega⟩
theorem fitE_of {N:Nat} {q s:Int} {x:ByteArray} (h1:0≤q∧q < N) (h2:0≤s∧s≤9) (h3:x.size≤20):FitE N (q,s,x):=⟨h1, .inr ⟨h2.1,h2.2,h3⟩⟩
theorem clear_fit {N:Nat} {q:Int} {es:List EnD} (h1:0≤q∧q < N) (h2:∀ e∈es,e.2.1≤9):∀ e∈clearE q es,FitE N e:=fun e he=>by
 obtain ⟨y,hy,rfl⟩:=List.mem_map.1 he
 have:=h2 y hy
 exact fitE_of h1 ⟨by omega,by omega⟩ (Nat.zero_le _)
theorem its_fit {N:Nat} {q lv:Int} (h1:0≤q∧q < N):∀ {es:List EnD} {k:Nat},k+es.length≤10→(∀ e∈es,e.1.size≤6)→∀ e∈itsE q lv k es,FitE N e
 | [], _, _, _,e,he=>nomatch he
 | x::l,k,hk,hs,e,he=>by
   rw [itsE] at he
   rw [List.length_cons] at hk
   rcases List.mem_cons.1 he with rfl | he
   ·have:=itB_size lv x.2.2 x.1
    have:=hs x (by simp)
    exact fitE_of h1 ⟨by omega,by omega⟩ (by omega)
   ·exact its_fit h1 (by omega) (fun y hy=>hs y (by simp [hy])) e he
theorem fresh_fit {N:Nat} {q lv rt:Int} {hi:ByteArray} {es:List EnD} (h1:0≤q∧q < N) (h2:hi.size≤6) (h3:es.length≤8) (h4:∀ e∈es,e.1.size≤6):∀ e∈freshE q lv rt hi es,FitE N e:=fun e he=>by
 rcases List.mem_append.1 he with he | he
 ·simp only [List.mem_cons,List.not_mem_nil,or_false] at he
  rcases he with rfl | rfl
  ·exact ⟨h1, .inl ⟨rfl,rfl⟩⟩
  ·have:=hdB_size lv rt false hi
   exact fitE_of h1 ⟨by omega,by omega⟩ (by omega)
 ·exact its_fit h1 (by omega) h4 e he
theorem st_fit {sh:List PgS} {p:PuT} {fresh:Int} (hF:FitS sh) (hn:∀ n,ndAt sh p.pos=some n→n.es.length≤8∧n.high.size≤6∧∀ e∈n.es,e.1.size≤6) (ht:∀ t∈p.left,t.1.size≤6) (hf:0≤fresh∧fresh < sh.length) (hr:0≤p.root∧p.root < sh.length):∀ e∈(stepF sh p fresh).2.eds,FitE sh.length e:=fun e he=>by
 unfold stepF at he
 dsimp only at he
 split at he
 ·cases he
 ·rename_i t l hl
  split at he
  ·cases he
  ·rename_i n hnn
   obtain ⟨n1,n2,n3⟩:=hn n hnn
   obtain ⟨n4,n5⟩:=sh_nd hF hnn
   have hlb:leastB.size=4:=leastB_size
   split at he
   ·split at he<;>cases he
   ·split at he
    ·cases he
    ·split at he
     ·cases he
     ·split at he
      ·dsimp only at he
       split at he
       ·cases he
       ·rw [List.mem_singleton] at he
        subst he
        have h1:=ht t (by rw [hl]; simp)
        have h2:=itB_size t.2.1 t.2.2 t.1
        obtain ⟨_, _,hnf⟩:=nd_at hnn
        obtain ⟨s,hs1, _,hs2⟩:=nd_free hnf
        exact fitE_of n4 ⟨by omega,by omega⟩ (by omega)
      ·split at he
       ·cases he
       ·split at he
        ·rename_i hpr
         have he:e∈growE p.root n fresh:=he
         rw [growE] at he
         simp only [List.mem_append,List.mem_singleton] at he
         rcases he with ((he | he) | he) | he
         ·exact fresh_fit hf (Nat.zero_le _) n1 n3 e he
         ·subst he
          have:=hdB_size (n.lv+1) (-1) false ByteArray.empty
          have h0:ByteArray.empty.size=0:=rfl
          exact fitE_of hr ⟨by omega,by omega⟩ (by omega)
         ·exact clear_fit hr n5 e he
         ·subst he
          have:=itB_size 1 fresh leastB
          exact fitE_of hr ⟨by omega,by omega⟩ (by omega)
        ·have he:e∈cutE p.pos n fresh:=he
         have hhf:∀ y∈halfE n,y∈n.es:=fun y hy=>List.mem_of_mem_drop hy
         have hhl:(halfE n).length≤8:=by rw [halfE,List.length_drop]; omega
         rw [cutE] at he
         simp only [List.mem_append,List.mem_singleton] at he
         rcases he with (he | he) | he
         ·exact fresh_fit hf n2 hhl (fun y hy=>n3 y (hhf y hy)) e he
         ·subst he
          have:=hdB_size n.lv fresh false (midE n)
          have:=midE_s6 n3
          exact fitE_of n4 ⟨by omega,by omega⟩ (by omega)
         ·exact clear_fit n4 (fun y hy=>n5 y (hhf y hy)) e he
theorem beg_fit {N:Nat} (hN:0 < N):∀ e∈begF 0,FitE N e:=fun e he=>by
 have h:begF 0=freshE 0 0 (-1) ⟨#[]⟩ []:=rfl
 rw [h] at he
 exact fresh_fit (es:=[]) (by omega) (by decide) (by simp) (fun y hy=>absurd hy List.not_mem_nil) e he
theorem rmG_at {ps:List PgS} {x:ByteArray}:∀ (k:Nat) (w:WkT),(rmG ps x k w).1=[]∨∃ q n,ndAt ps q=some n∧(rmG ps x k w).1=clearE q (onlyX x n.es)
 | 0,w=> .inl rfl
 | k+1,w=>by
   obtain ⟨pos,st,fm,fin⟩:=w
   rcases hR:wkN ps ⟨pos,st,fm,fin⟩ with ⟨w1, _ | _ | nd⟩
   ·exact .inl (by rw [rm_off hR])
   ·rw [rm_on hR]; exact rmG_at k w1
   ·exact .inr ⟨pos,nd,(wk_at hR).1,by rw [rm_at hR]⟩
theorem rm_fit {sh:List PgS} (hF:FitS sh) (x:ByteArray):∀ e∈(rmF sh 0 x).1,FitE sh.length e:=fun e he=>by
 rcases rmG_at (ps:=sh) (x:=x) 1000 ⟨0,0,x,false⟩ with h | ⟨q,n,h1,h2⟩
 ·rw [rmF,h] at he; cases he
 ·rw [rmF,h2] at he
  obtain ⟨n4,n5⟩:=sh_nd hF h1
  exact clear_fit n4 (fun y hy=>n5 y (List.mem_filter.1 hy).1) e he
/-- sizes behind a removal -/
theorem rm_szN {ps:List PgS} {T T':List (List AbN)} (x:ByteArray) (hits:∀ q∈ps,q.2.2.length≤101) (hs:SzN ps T) (hp:pgsA T'=pgsA T):SzN (doB ps (rmF ps 0 x).1) T':=fun q hq n hn=>by
 rw [hp] at hq
 rcases rmG_at (ps:=ps) (x:=x) 1000 ⟨0,0,x,false⟩ with h | ⟨pos,m,h1,h2⟩
 ·rw [rmF,h] at hn; exact hs q hq n hn
 ·rw [rmF,h2] at hn
  by_cases e:q=pos
  ·subst e
   obtain ⟨n',c1,⟨_, _,c4, _⟩,c6⟩:=clr_nd h1 (getD_mem1 h1 hits) (only_perm x m.es)
   rw [c1] at hn
   injection hn with hn
   subst hn
   have:=hs q hq m h1
   exact ⟨by rw [c4]; exact this.1,fun y hy=>this.2 y (List.mem_filter.1 (c6.mem_iff.1 hy)).1⟩
  ·rw [nd_other (fun y hy=>by rw [clearE_pg y hy]; exact fun h=>e h.symm)] at hn
   exact hs q hq n hn
theorem unl_fit {sh ps:List PgS} {T:List (List AbN)} {nx:Int} (hF:FitS sh) (hrel:RelS sh ps) (h:GU ps T nx) (hs:SzN ps T):∀ e∈(unlF ps 0).1,FitE sh.length e:=by
 rcases h.tr.unl_cases (by rw [h.len]; omega) with h1 | ⟨pre,suf,u,v,a,b,m,A,B,T2,rfl,ha, _,hm,hu⟩
 ·rw [h1]; exact fun e he=>(by cases he)
 ·rw [hu]
  dsimp only
  obtain ⟨na,a1,a2,a3,a4,a5,a6⟩:=h.tr.node (k:=0) (pre:=pre) (suf:=b::suf) (a:=a) rfl
  obtain ⟨nm,m1,m2,m3,m4,m5,m6⟩:=h.tr.node (k:=1) (pre:=u) (suf:=v) (a:=m) rfl
  have ea:ndP ps a=(a.pg,na):=by rw [ndP,ndD_some a1]
  have em:ndP ps m=(m.pg,nm):=by rw [ndP,ndD_some m1]
  have za:=hs _ (pgs_mem (k:=0) rfl (by simp)) na a1
  have zm:=hs _ (pgs_mem (k:=1) rfl (by simp)) nm m1
  have pa:=sh_nd hF (by rw [hrel.nd]; exact a1)
  have pm:=sh_nd hF (by rw [hrel.nd]; exact m1)
  have zah:∀ c,ahd none (pre.map (ndP ps))=some c→c.2.high.size≤6∧0≤c.1∧c.1 < sh.length:=fun c hcc=>by
   rcases snoc_cases pre with rfl | ⟨p0,x,rfl⟩
   ·cases hcc
   ·rw [List.map_append,ahd] at hcc
    simp at hcc
    subst hcc
    obtain ⟨nx,x1, _⟩:=h.tr.node (k:=0) (pre:=p0) (suf:=a::b::suf) (a:=x) (by simp)
    have:=hs _ (pgs_mem (T:=(p0++[x]++a::b::suf)::(u++m::v)::T2) (k:=0) rfl (a:=x) (by simp)) nx x1
    rw [ndP,ndD_some x1]
    exact ⟨this.1,(sh_nd hF (by rw [hrel.nd]; exact x1)).1⟩
  have zk:∀ j,(nm.es.getD j en0).1.size≤6∧(nm.es.getD j en0).2.1≤9:=fun j=>by
   by_cases hl:j < nm.es.length
   ·have hmem:nm.es.getD j en0∈nm.es:=by rw [List.getD_eq_getElem?_getD,List.getElem?_eq_getElem hl]; exact List.getElem_mem hl
    exact ⟨zm.2 _ hmem,pm.2 _ hmem⟩
   ·rw [List.getD_eq_getElem?_getD,List.getElem?_eq_none (by omega)]; exact ⟨Nat.zero_le _,Nat.zero_le _⟩
  intro y hy
  rw [ea,em] at hy
  unfold unE at hy
  dsimp only at hy
  have i1:=itB_size nm.lv na.right (nm.es.getD A.length en0).1
  have i2:=hdB_size na.lv na.right true na.high
  have k1:=zk A.length
  have k2:=zk (A.length+1)
  rcases List.mem_append.1 hy with hy | hy
  ·rcases List.mem_append.1 hy with hy | hy
   ·rcases List.mem_cons.1 hy with rfl | hy
    ·exact fitE_of pm.1 ⟨by omega,by omega⟩ (by omega)
    ·rw [List.mem_singleton.1 hy]
     exact fitE_of pm.1 ⟨by omega,by omega⟩ (Nat.zero_le _)
   ·cases hh:ahd none (pre.map (ndP ps)) with
    | none=>rw [hh] at hy; cases hy
    | some c=>
      rw [hh] at hy
      rw [List.mem_singleton.1 hy]
      obtain ⟨z1,z2⟩:=zah c hh
      have i3:=hdB_size c.2.lv na.right c.2.dead c.2.high
      exact fitE_of z2 ⟨by omega,by omega⟩ (by omega)
  ·rw [List.mem_singleton.1 hy]
   exact fitE_of pa.1 ⟨by omega,by omega⟩ (by omega)
/-- sizes behind an Unlink -/
theorem un_sz {pre suf u v:List AbN} {a b m:AbN} {A B:List Kv} {T2:List (List AbN)} (hm:m.es=A++(a.low,a.pg)::(b.low,b.pg)::B) (hs:SzT ((pre++a::b::suf)::(u++m::v)::T2)):SzT (unT pre suf u v a b m A B T2):=fun l hl c hc=>by
 have h0:=hs _ (List.mem_cons_self ..)
 have h1:=hs (u++m::v) (by simp)
 rcases List.mem_cons.1 hl with rfl | hl
 ·rcases List.mem_append.1 hc with hc | hc
  ·exact h0 c (by simp [hc])
  ·rcases List.mem_cons.1 hc with rfl | hc
   ·exact ⟨(h0 a (by simp)).1,(h0 b (by simp)).2⟩
   ·exact h0 c (by simp [hc])
 ·rcases List.mem_cons.1 hl with rfl | hl
  ·rcases List.mem_append.1 hc with hc | hc
   ·exact h1 c (by simp [hc])
   ·rcases List.mem_cons.1 hc with rfl | hc
    ·have h2:=h1 m (by simp)
     rw [hm] at h2
     refine ⟨h2.1,fun y hy=>?_⟩
     rcases List.mem_append.1 hy with hy | hy
     ·exact h2.2 y (by simp [hy])
     ·rcases List.mem_cons.1 hy with rfl | hy
      ·exact h2.2 (a.low,a.pg) (by simp)
      ·exact h2.2 y (by simp [hy])
    ·exact h1 c (by simp [hc])
  ·exact hs l (by simp [hl]) c hc
theorem unl_szN {ps:List PgS} {T:List (List AbN)} {nx:Int} (h:GU ps T nx) (hs:SzN ps T):∃ T',GU (doB ps (unlF ps 0).1) T' nx∧SzN (doB ps (unlF ps 0).1) T'∧lfs T'=lfs T:=by
 rcases h.tr.unl_cases (by rw [h.len]; omega) with h1 | ⟨pre,suf,u,v,a,b,m,A,B,T2,rfl,ha, _,hm,hu⟩
 ·rw [h1]; exact ⟨T,h,hs,rfl⟩
 ·obtain ⟨ps',e,htr, _, _⟩:=h.tr.unl (by rw [h.len]; omega) h.its hm
  rw [hu]
  dsimp only
  rw [← e]
  exact ⟨_,⟨htr,by rw [e]; exact its_do h.its,by rw [e,doB_len]; exact h.len,fun q hq=>h.pg q (un_pgs hq)⟩,sz_TN htr (un_sz hm (sz_NT h.tr hs)),un_lfs ha⟩
end
section
open Go.RowKit
theorem sum_mono {T:List (List AbN)} {j k:Nat} (h:j≤k):sumA T j≤sumA T k:=by
 obtain ⟨d,rfl⟩:∃ d,k=j+d:=⟨k - j,by omega⟩
 rw [sumA,sumA,List.take_add,List.map_append,List.sum_append]
 exact Nat.le_add_right _ _
theorem sum_one (T:List (List AbN)):sumA T 1=(lvA T 0).length:=by
 cases T with
 | nil=>rfl
 | cons a t=>simp [sumA,lvA]
theorem rk_ge {T:List (List AbN)} {pos:Int} {x:ByteArray} {k:Nat} (hd:(pgsA T).Nodup) (h:PosOk T pos x (k:Int)):sumA T k+1≤rkF T pos:=by
 obtain ⟨j,l,a,hj,ha,rfl,h1, _⟩:=h
 obtain ⟨pre,suf,rfl⟩:=List.append_of_mem ha
 have:=sum_mono (T:=T) (show k≤j by omega)
 rw [rk_at hd hj]; omega
theorem occ_up {ps:List PgS} {T:List (List AbN)} {root:Int} (h:Tr ps T root) (ho:Occ T) (hN:(lfs T).length≤60):(pgsA T).length≤(lvA T 0).length+4∧T.length≤3∧(T.length=3→rfull T=0):=by
 have h3:=(occ_pages h ho hN (by omega)).2
 obtain ⟨T0,r,e, _, _,hr⟩:=h.root
 have hlf:∀ l:List AbN,T[0]? =some l→totA l≤60:=fun l hl=>by rw [← totA_len]; rw [lfs,lvA_some hl] at hN; exact hN
 have stp:∀ (k:Nat) (up below:List AbN),T[k+1]? =some up→T[k]? =some below→totA up≤below.length∧4*below.length≤totA below∧8≤totA below:=fun k up below hu hb=>by
  have hk:=(List.getElem?_eq_some_iff.1 hu).1
  exact ⟨(h.inn k _ _ hu hb).le (h.level hu).2,four_tot (ho.four k _ hb hk),ho.eight k _ hb hk⟩
 rw [pgs_flat]
 refine ⟨?_,h3,fun h4=>?_⟩
 ·match T,h3,e,hr,hlf,stp with
  | [], _,e, _, _, _=>exact absurd (congrArg List.length e) (by simp)
  | [l0], _,e,hr,hlf, _=>simp [lvA]
  | [l0,l1], _,e,hr,hlf,stp=>
    have h0:T0.length=1:=by have:=congrArg List.length e; simp at this; omega
    rw [h0] at hr
    have hl1:l1=[r]:=by injection hr with hr
    subst hl1
    simp [lvA]
  | [l0,l1,l2], _,e,hr,hlf,stp=>
    have h0:T0.length=2:=by have:=congrArg List.length e; simp at this; omega
    rw [h0] at hr
    have hl2:l2=[r]:=by injection hr with hr
    have s0:=stp 0 _ _ rfl rfl
    have s1:=stp 1 _ _ rfl rfl
    have:=hlf _ rfl
    subst hl2
    simp [lvA]
    omega
 ·match T,h4,e,hr,hlf,stp with
  | [l0,l1,l2], _,e,hr,hlf,stp=>
    have h0:T0.length=2:=by have:=congrArg List.length e; simp at this; omega
    rw [h0] at hr
    have hl2:l2=[r]:=by injection hr with hr
    subst hl2
    have s0:=stp 0 _ _ rfl rfl
    have s1:=stp 1 _ _ rfl rfl
    have:=hlf _ rfl
    have q6:totA [r]=r.es.length:=by simp [totA]
    show (if r.es.length=8 then 2 else 0)=0
    rw [if_neg (by omega)]
/-- how many steps an insertion may still take, alone in its tree -/
def mp (T:List (List AbN)) (p:PuT):Nat:=match p.left with
 | []=>0
 | t::l=>(rkF T p.pos - sumA T t.2.1.toNat)+5*l.length+7*fz T p
theorem mp_cons {T:List (List AbN)} {p:PuT} {t:TaT} {l:List TaT} (h:p.left=t::l):mp T p=(rkF T p.pos - sumA T t.2.1.toNat)+5*l.length+7*fz T p:=by rw [mp,h]
theorem task_nn {T:List (List AbN)} {t:TaT} (h:TaskOk T t):0≤t.2.1:=by
 rcases h.2 with h0 | ⟨j, _, _,h1, _⟩<;>omega
theorem out_mp {ps ps':List PgS} {T T':List (List AbN)} {p:PuT} {nx:Int} {R:PuT×GoT} (h:Tr ps T 0) (h':Tr ps' T' 0) (ho':Occ T') (hN:(lfs T').length≤60) (hi:InsOk T 0 p) (hi':InsOk T' 0 R.1) (ho:Out T T' p R.1 R.2 nx) (hs:Shp T p) (hff:nx∉pgsA T) (hf:fz T' R.1+(if R.2.used then 1 else 0)≤fz T p) (hne:p.left≠[]):R.1.left=[]∨mp T' R.1 < mp T p:=by
 obtain ⟨t0,l0,hl0⟩:=List.exists_cons_of_ne_nil hne
 have hpos:=hi.pos t0 l0 hl0
 have hn0:=task_nn (hi.tasks t0 (by rw [hl0]; simp))
 obtain ⟨k0,hk0⟩:∃ k:Nat,t0.2.1=(k:Int):=⟨t0.2.1.toNat,by omega⟩
 have hge:=rk_ge h.dist (by rw [← hk0]; exact hpos)
 have h1:=ho.rk (pos:=p.pos) (fun e=>hff (e ▸ hpos.mem))
 have hup:=(occ_up h' ho' hN).1
 have hrl:∀ q,rkF T' q≤(pgsA T').length:=fun q=>rk_le _ _
 have rest:∀ {l:List TaT},p.left=t0::l→R.1.left=l→R.2.used=false→R.1.left=[]∨mp T' R.1 < mp T p:=fun {l} e hl hu=>by
  cases l with
  | nil=>exact .inl hl
  | cons s l=>
    right
    rw [hu] at hf
    simp only [Bool.false_eq_true,if_false] at hf
    have hk1:1≤s.2.1.toNat:=by
     rcases hs with hs | ⟨t1,hs⟩ | ⟨t1,u1,k1,hs,h2, _,h3, _⟩
     ·rw [e] at hs; cases hs
     ·rw [e] at hs; injection hs with _ hs; cases hs
     ·rw [e] at hs
      injection hs with _ hs
      injection hs with hs _
      subst hs
      omega
    have:=sum_mono (T:=T') hk1
    rw [sum_one] at this
    have:=hrl R.1.pos
    rw [mp_cons hl,mp_cons e,hk0,Int.toNat_natCast,List.length_cons]
    omega
 cases ho with
 | idle e=>exact absurd e hne
 | move t l e hT hl _ hu _ hm=>
   right
   rw [hl0] at e
   injection e with e1 e2
   subst e1 e2
   rw [hu] at hf
   simp only [Bool.false_eq_true,if_false] at hf
   have h3:=hm.rk h.dist
   rw [mp_cons hl,mp_cons hl0,hk0,Int.toNat_natCast]
   rw [hT] at hf ⊢
   omega
 | there t l k pre suf a e _ _ _ _ hl _ hu=>
   rw [hl0] at e
   injection e with e1 e2
   subst e1 e2
   exact rest hl0 hl hu
 | put t l k pre suf a e _ _ _ _ hl _ hu=>
   rw [hl0] at e
   injection e with e1 e2
   subst e1 e2
   exact rest hl0 hl hu
 | cut t l k pre suf a mid e hk ht _ _ hT hl _ hp _ hu=>
   right
   rw [hl0] at e
   injection e with e1 e2
   subst e1 e2
   rw [hu] at hf h1
   simp only [if_true] at hf h1
   obtain rfl:k0=k:=by omega
   have h2:sumA T' k0=sumA T k0:=by rw [hT]; exact sum_set
   rw [mp_cons (l:=l0++[(mid,(k0:Int)+1,nx)]) hl,mp_cons hl0,hp,hk0,Int.toNat_natCast,h2,List.length_append,List.length_singleton]
   omega
 | grow t l T0 r e hk ht hr h8 hT hl _ hp _ hu=>
   right
   rw [hl0] at e
   injection e with e1 e2
   subst e1 e2
   rw [hu] at hf
   simp only [if_true] at hf
   obtain rfl:k0=T0.length:=by omega
   have h3:rkF T' nx=1+sumA T' T0.length:=by
    have:=rk_at h'.dist (k:=T0.length) (pre:=[]) (suf:=[]) (a:=⟨nx,r.low,r.es⟩) (by rw [hT]; simp)
    simpa using this
   rw [mp_cons hl,mp_cons hl0,hp,hk0,Int.toNat_natCast,h3]
   omega
-- the states
structure PgX (sh ps:List PgS):Prop where
 rel:RelS sh ps
 fit:FitS sh
 len:sh.length=50
theorem PgX.do {sh ps:List PgS} (h:PgX sh ps) {l:List EdT} (hl:∀ e∈l,FitE 50 e) {n:Int} (hn:0≤n∧n≤1000):PgX (doS sh l n) (doB ps l):=by
 have hl':∀ e∈l,FitE sh.length e:=by rw [h.len]; exact hl
 exact ⟨h.rel.do hl' n,fit_do h.fit hl' hn,by rw [doS_len]; exact h.len⟩
theorem PgX.ok {sh ps:List PgS} (h:PgX sh ps):OkS sh∧OkC sh:=fit_ok h.fit (by rw [h.len]; decide)
def PgA (l:List Int) (i:Nat) (sh ps:List PgS) (nx:Int):Prop:=PgX sh ps∧∃ T,GS 0 ps T nx∧(lfs T).Perm (entsG l i)∧SzT T
def PgB (l:List Int) (i k:Nat) (sh ps:List PgS) (nx:Int) (p:PuT):Prop:=PgX sh ps∧∃ T,GS 0 ps T nx∧InsOk T 0 p∧Way (entsG l i) (entG l i) T p∧Shp T p∧SzT T∧(∀ t∈p.left,t.1.size≤6)∧(p.left=[]∨mp T p+k≤60)
theorem pa_start (l:List Int):PgA l 0 (doS (List.replicate 50 pgs0) (begF 0) 1) (blankF 60) 1:=by
 have h0:PgX (List.replicate 50 pgs0) (List.replicate 60 pgs0):=by
  refine ⟨⟨by simp,fun i hi=>?_,fun i hi=>?_⟩,fun p hp=>?_,List.length_replicate⟩
  ·rw [List.length_replicate] at hi
   rw [List.getD_eq_getElem?_getD,List.getD_eq_getElem?_getD,List.getElem?_replicate,List.getElem?_replicate,if_pos hi,if_pos (by omega)]
   exact ⟨rfl,rfl⟩
  ·rw [ndAt]
   split
   ·rw [List.getD_eq_getElem?_getD,List.getElem?_replicate]
    split<;>rfl
   ·rfl
  ·rw [(List.mem_replicate.1 hp).2]
   exact ⟨⟨by decide,by decide⟩,⟨by decide,by decide⟩,Nat.zero_le _,fun s hs=>absurd hs List.not_mem_nil⟩
 refine ⟨h0.do (beg_fit (by omega)) ⟨by omega,by omega⟩, _,blank_tr,by simp [lfs,lvA,entsG],fun x hx a ha=>?_⟩
 rw [List.mem_singleton.1 hx] at ha
 rw [List.mem_singleton.1 ha]
 exact ⟨by show leastB.size≤6; rw [leastB_size]; omega,fun e he=>absurd he List.not_mem_nil⟩
theorem ent_sz6 (l:List Int) (i:Nat):(entG l i).size≤6∧4≤(entG l i).size:=by
 have:=keyF_size (l.getD i 0)
 rw [entG,entF_size]; omega
theorem ents_lt {l:List Int} {i:Nat} (hi:i < 90):∀ y∈entsG l i,y.1≠entG l i:=fun y hy e=>by
 obtain ⟨j,hj,rfl⟩:=List.mem_map.1 hy
 have hj:=List.mem_range.1 hj
 have:=entG_inj (l:=l) (l':=l) (by omega) (by omega) e
 omega
theorem pb_start {l:List Int} {i:Nat} {sh ps:List PgS} {nx:Int} (h:PgA l i sh ps nx) (hi:i < 60):PgB l i 0 sh ps nx (putT 0 (keyF (l.getD i 0)) (1+(i:Int) / 8) (1+(i:Int) % 8)):=by
 obtain ⟨hx,T,h1,h2,h3⟩:=h
 have hlen:(lfs T).length≤60:=by rw [h2.length_eq,ents_len]; omega
 have htask:TaskOk T (entG l i,0,0):=⟨(ent_sz6 l i).2, .inl rfl⟩
 have hpg:=(h1.pages hlen (by omega)).1
 have e19:PM 60=19:=rfl
 have hup:=occ_up h1.tr h1.occ hlen
 have hfz:fz T (putT 0 (keyF (l.getD i 0)) (1+(i:Int) / 8) (1+(i:Int) % 8))≤3:=by
  rw [fz_cons (t:=(entG l i,0,0)) (l:=[]) rfl]
  have hr2:rfull T≤2:=by unfold rfull; split; split<;>omega; omega
  show T.length - 1 - 0 - 0+rfull T≤3
  by_cases e3:T.length=3
  ·rw [hup.2.2 e3]; omega
  ·have:=hup.2.1; omega
 refine ⟨hx,T,h1,⟨rfl,fun t l' e=>?_,fun t ht=>?_⟩, .inl ⟨[],rfl,(fun t ht=>absurd ht List.not_mem_nil),h2,rfl⟩, .inr (.inl ⟨_,rfl⟩),h3,fun t ht=>?_, .inr ?_⟩
 ·injection e with e1 e2
  subst e1
  exact pos_root h1.tr htask
 ·rw [List.mem_singleton.1 ht]; exact htask
 ·rw [List.mem_singleton.1 ht]; exact (ent_sz6 l i).1
 ·rw [mp_cons (t:=(entG l i,0,0)) (l:=[]) rfl]
  have:=rk_le T (putT 0 (keyF (l.getD i 0)) (1+(i:Int) / 8) (1+(i:Int) % 8)).pos
  rw [List.length_nil]
  omega
theorem gs_nx {ps:List PgS} {T:List (List AbN)} {nx:Int} (h:GS 0 ps T nx) (hl:(lfs T).length≤60):0 < nx∧nx≤19:=by
 have h1:=(h.pages hl (by omega)).1
 have e19:PM 60=19:=rfl
 have h2:=h.cnt
 obtain ⟨T0,r0, _,q1, _,q3⟩:=h.tr.root
 have:=List.length_pos_of_mem (pgs_mem q3 (a:=r0) (by simp))
 omega
theorem pb_step {l:List Int} {i k:Nat} {sh ps:List PgS} {nx:Int} {p:PuT} (h:PgB l i k sh ps nx p) (hi:i < 60) {R:PuT×GoT} (hR:stepF sh p nx=R) (hne:p.left≠[]):
  R.2.err=0∧(∀ e∈R.2.eds,FitE 50 e)∧∀ n,0≤n∧n≤1000→PgB l i (k+1) (doS sh R.2.eds n) (doB ps R.2.eds) (if R.2.used then nx+1 else nx) R.1:=by
 obtain ⟨hx,T,h1,h2,h3,h4,h5,h6,h7⟩:=h
 have hw:=h3.len
 rw [ents_len] at hw
 have hnx:=gs_nx h1 (by omega)
 have hRb:stepF ps p nx=R:=by rw [← step_cong hx.rel.nd]; exact hR
 obtain ⟨T',g1,g2,g3,g4,g5⟩:=h1.step h2 (N:=60) (by omega) (by omega) (by decide)
 rw [hRb] at g1 g2 g4 g5
 have hff:nx∉pgsA T:=fun hq=>by have:=h1.pg nx hq; omega
 have hw':=h3.step h1.tr g5 (ents_lt (by omega))
 have hwl:=hw'.len
 rw [ents_len] at hwl
 obtain ⟨s1,s2⟩:=out_shp hRb h1.tr g1.tr h2 g5 h4
 obtain ⟨z1,z2⟩:=out_sz hRb h1.tr g5 h5 h6
 have hroot:(0:Int)∈pgsA T:=by
  obtain ⟨T0,r0, _,q1, _,q3⟩:=h1.tr.root
  rw [← q1]; exact pgs_mem q3 (by simp)
 obtain ⟨t0,l0,hl0⟩:=List.exists_cons_of_ne_nil hne
 have hfit:∀ e∈R.2.eds,FitE 50 e:=by
  rw [← hR,← hx.len]
  refine st_fit hx.fit (fun n hn=>?_) h6 ⟨by omega,by rw [hx.len]; omega⟩ ⟨by rw [h2.rt]; omega,by rw [h2.rt,hx.len]; omega⟩
  rw [hx.rel.nd] at hn
  have hp:=(h2.pos t0 l0 hl0).mem
  obtain ⟨j,lv,a,hj,ha,hpa⟩:=pgs_at hp
  obtain ⟨pre,suf,rfl⟩:=List.append_of_mem ha
  obtain ⟨n0,n1, _, _, _, _,n6⟩:=h1.tr.node hj
  rw [hpa,hn] at n1
  injection n1 with n1
  subst n1
  have h8:=((h1.tr.level hj).2.nd a (by simp)).len
  rw [← n6,List.length_map] at h8
  exact ⟨h8,sz_TN h1.tr h5 _ hp n hn⟩
 refine ⟨g4,hfit,fun n hn=>⟨hx.do hfit hn,T',g1,g2,hw',s1,z1,z2,?_⟩⟩
 rcases out_mp h1.tr g1.tr g1.occ (by omega) h2 g2 g5 h4 hff s2 hne with h8 | h8
 ·exact .inl h8
 ·exact .inr (by have:=h7.resolve_left hne; omega)
theorem pb_end {l:List Int} {i k:Nat} {sh ps:List PgS} {nx:Int} {p:PuT} (h:PgB l i k sh ps nx p) (hk:k=60∨p.left=[]):p.left=[]∧PgA l (i+1) sh ps nx:=by
 obtain ⟨hx,T,h1,h2,h3,h4,h5,h6,h7⟩:=h
 have hl:p.left=[]:=by
  rcases hk with rfl | hk
  ·by_cases hl:p.left=[]
   ·exact hl
   ·exfalso
    have h8:=h7.resolve_left hl
    obtain ⟨t0,l0,hl0⟩:=List.exists_cons_of_ne_nil hl
    have hn0:=task_nn (h2.tasks t0 (by rw [hl0]; simp))
    have hge:=rk_ge h1.tr.dist (k:=t0.2.1.toNat) (by rw [show ((t0.2.1.toNat:Nat):Int)=t0.2.1 by omega]; exact h2.pos t0 l0 hl0)
    rw [mp_cons hl0] at h8
    omega
  ·exact hk
 refine ⟨hl,hx,T,h1,?_,h5⟩
 rcases h3 with ⟨l',q1, _⟩ | ⟨_,q2, _⟩
 ·rw [hl] at q1; cases q1
 ·refine q2.trans ?_
  have e:entsG l (i+1)=entsG l i++[(entG l i, -1)]:=by rw [entsG,entsG,List.range_succ,List.map_append]; rfl
  rw [e]
  exact (List.perm_append_comm (l₁:=[_]))
/-- what the walk needs at each round -/
theorem pb_facts {l:List Int} {i k:Nat} {sh ps:List PgS} {nx:Int} {p:PuT} (h:PgB l i k sh ps nx p) (hi:i < 60):OkS sh∧OkC sh∧sh.length=50∧(0 < nx∧nx≤19)∧p.left.length≤2∧(∀ t∈p.left,t.1.size≤900000∧0≤t.2.1∧t.2.1≤90000)∧FitS sh:=by
 obtain ⟨hx,T,h1,h2,h3,h4,h5,h6,h7⟩:=h
 have hw:=h3.len
 rw [ents_len] at hw
 refine ⟨hx.ok.1,hx.ok.2,hx.len,gs_nx h1 (by omega),?_,fun t ht=>?_,hx.fit⟩
 ·rcases h4 with h | ⟨t,h⟩ | ⟨t,u,k,h, _⟩<;>rw [h]<;>simp
 ·have h8:=h6 t ht
  have h9:=task_nn (h2.tasks t ht)
  refine ⟨by omega,h9,?_⟩
  rcases (h2.tasks t ht).2 with h0 | ⟨j, _, _,e1,e2, _⟩
  ·omega
  ·have:=h1.tr.ht; omega
-- removals
def PgC (l:List Int) (S:List Nat) (sh ps:List PgS):Prop:=PgX sh ps∧∃ T,GU ps T 50∧SzN ps T∧(lfs T).Perm (S.map fun i=>(entG l i, -1))∧S.Nodup∧∀ i∈S,i < 90
theorem pc_start {l:List Int} {m:Nat} {sh ps:List PgS} {nx:Int} (h:PgA l m sh ps nx) (hm:m≤60):PgC l (List.range m) sh ps:=by
 obtain ⟨hx,T,h1,h2,h3⟩:=h
 have hnx:=gs_nx h1 (by rw [h2.length_eq,ents_len]; omega)
 exact ⟨hx,T,⟨h1.tr,h1.its,h1.len,fun q hq=>by have:=h1.pg q hq; omega⟩,sz_TN h1.tr h3,h2,List.nodup_range,fun i hi=>by have:=List.mem_range.1 hi; omega⟩
theorem pc_rm {l:List Int} {S:List Nat} {sh ps:List PgS} (h:PgC l S sh ps) {k:Nat} (hk:k < 90) {R:List EdT×Bool} (hR:rmF sh 0 (entG l k)=R):R.2=decide (k∈S)∧(∀ e∈R.1,FitE 50 e)∧∀ n,0≤n∧n≤1000→PgC l (offS S k) (doS sh R.1 n) (doB ps R.1):=by
 obtain ⟨hx,T,h1,h2,h3,h4,h5⟩:=h
 have hfit:∀ e∈R.1,FitE 50 e:=by rw [← hR,← hx.len]; exact rm_fit hx.fit _
 have hRb:rmF ps 0 (entG l k)=R:=by rw [← rm_cong hx.rel.nd]; exact hR
 have hz:=(ent_sz6 l k).2
 obtain ⟨T',g1,g2,g3,g4,g5, _⟩:=h1.tr.rm (x:=entG l k) hz (by rw [h1.len]; omega) h1.its
 have hso:SortI l ps S:=⟨T,h1.tr,h3,h4,h5,h1.its,h1.len⟩
 have hsr:=sort_rm hso hk
 have hsn:=rm_szN (entG l k) h1.its h2 g5
 rw [hRb] at g1 hsr hsn
 refine ⟨hsr.1,hfit,fun n hn=>⟨hx.do hfit hn,T',⟨g1,its_do h1.its,by rw [doB_len]; exact h1.len,by rw [g5]; exact h1.pg⟩,hsn,?_,h4.filter _,fun i hi=>h5 i (off_mem.1 hi).1⟩⟩
 obtain ⟨T2,k1,k2, _⟩:=hsr.2
 have e1:=g1.all (by rw [doB_len,h1.len]; omega)
 have e2:=k1.all (by rw [doB_len,h1.len]; omega)
 rw [← e1,e2]; exact k2
theorem pc_unl {l:List Int} {S:List Nat} {sh ps:List PgS} (h:PgC l S sh ps) {U:List EdT×Int×Int} (hU:unlF sh 0=U):(∀ e∈U.1,FitE 50 e)∧∀ n,0≤n∧n≤1000→PgC l S (doS sh U.1 n) (doB ps U.1):=by
 obtain ⟨hx,T,h1,h2,h3,h4,h5⟩:=h
 have hUb:unlF ps 0=U:=by rw [← unl_cong hx.rel.nd]; exact hU
 have hfit:=unl_fit hx.fit hx.rel h1 h2
 obtain ⟨T',g1,g2,g3⟩:=unl_szN h1 h2
 rw [hUb] at hfit g1 g2
 rw [hx.len] at hfit
 exact ⟨hfit,fun n hn=>⟨hx.do hfit hn,T',g1,g2,by rw [g3]; exact h3,h4,h5⟩⟩
theorem pc_facts {l:List Int} {S:List Nat} {sh ps:List PgS} (h:PgC l S sh ps):OkS sh∧OkC sh∧sh.length=50∧FitS sh∧S.Nodup∧checkF sh 0=0∧(allF sh 0).length=S.length∧S.length≤90:=by
 obtain ⟨hx,T,h1,h2,h3,h4,h5⟩:=h
 have hso:SortI l ps S:=⟨T,h1.tr,h3,h4,h5,h1.its,h1.len⟩
 refine ⟨hx.ok.1,hx.ok.2,hx.len,hx.fit,h4,by rw [check_cong hx.rel.nd]; exact sort_check hso,by rw [all_cong hx.rel.nd]; exact (sort_len hso).1,(sort_len hso).2.2⟩
theorem pc_ent {l:List Int} {S:List Nat} {sh ps:List PgS} (h:PgC l S sh ps) {i:Nat} (hi:i < (allF sh 0).length):entF (qkF ((allF sh 0).getD i en0).1) (opF ((allF sh 0).getD i en0).1) (osF ((allF sh 0).getD i en0).1)=((allF sh 0).getD i en0).1∧(qkF ((allF sh 0).getD i en0).1).size≤1000∧((allF sh 0).getD i en0).1.size≤1000∧∀ j,j < i→lessF ((allF sh 0).getD j en0).1 ((allF sh 0).getD i en0).1=true:=by
 obtain ⟨hx,T,h1,h2,h3,h4,h5⟩:=h
 have hso:SortI l ps S:=⟨T,h1.tr,h3,h4,h5,h1.its,h1.len⟩
 rw [all_cong hx.rel.nd] at hi ⊢
 obtain ⟨j,hj,hj9,e⟩:=sort_at hso hi
 have hj9:=h5 j hj
 obtain ⟨_, _, _,e4⟩:=ent_parts (x:=entG l j) (k:=keyF (l.getD j 0)) rfl (by omega) (by omega)
 obtain ⟨e1, _, _, _⟩:=ent_parts (x:=entG l j) (k:=keyF (l.getD j 0)) rfl (by omega) (by omega)
 have:=keyF_size (l.getD j 0)
 have:=(ent_sz6 l j).1
 refine ⟨by rw [e]; exact e4,by rw [e,e1]; omega,by rw [e]; omega,fun q hq=>sort_rise hso hi hq⟩
end
section
open Go.RowKit
theorem Tryz.sizeSb:(Tryz.prog.info? 167).map (·.size)=some 2:=by kernel_rfl
theorem sbcheck_used (b:Nat) (w:World) (h0:w.cell? ⟨b,0,none⟩=some (.pointer (some ⟨b,0,none⟩))):
  Calls Tryz.prog 114 #[.pointer (some ⟨b,0,none⟩)] w fun e w'=>e= .returned (.tuple #[])∧w'=w:=by
 obtain ⟨j,hj, _⟩:=Option.map_eq_some_iff.1 Tryz.sizeSb
 go_enter Tryz.func114,Tryz.ntmps114
 go_wp2
 rw [Lib.run_neq_ptr_same w _ Tryz.underlying165 hj]
 go_wp2
 go_end0
 exact ⟨rfl,rfl⟩
theorem sbcheck_fresh (b:Nat) (w:World) (h0:w.cell? ⟨b,0,none⟩=some (.pointer none)) (hsh:w.shape? b=some (167,2)) (hfz:w.frozen? ⟨b,0,none⟩=false):
  Calls Tryz.prog 114 #[.pointer (some ⟨b,0,none⟩)] w fun e w'=>e= .returned (.tuple #[])∧w'=w.setCell ⟨b,0,none⟩ (.pointer (some ⟨b,0,none⟩)):=by
 obtain ⟨j,hj,hjs⟩:=Option.map_eq_some_iff.1 Tryz.sizeSb
 go_enter Tryz.func114,Tryz.ntmps114
 go_wp2
 rw [Lib.run_to_unsafe w ⟨b,0,none⟩ Tryz.underlying165 Tryz.underlying209 hj (by rw [hjs]; decide) hsh (Nat.zero_lt_succ 1)]
 simp only [Result.andThen]
 rw [Oper.upon_value]
 go_wp2
 rw [run_callFunc_extern Tryz.func129 (by kernel_rfl) (by kernel_rfl) (by kernel_rfl) (e:=Extern.AbiNoEscape.same) (by kernel_rfl)]
 rw [Lib.run_noEscape]
 simp only [Result.andThen]
 rw [Oper.upon_value]
 go_wp2
 rw [Lib.run_from_unsafe w ⟨b,0,none⟩ Tryz.underlying209 Tryz.underlying165 hj hsh (by kernel_rfl)]
 simp only [Result.andThen]
 rw [Oper.upon_value]
 go_wp2
 go_end0
 exact ⟨rfl,rfl⟩
/-- copyCheck: the builder's block alone may turn -/
theorem sbcheck_any (b:Nat) (p v:Value) (w:World) (hb:Blk w b 167 #[p,v]) (hp:p= .pointer none∨p= .pointer (some ⟨b,0,none⟩)):
  Calls Tryz.prog 114 #[.pointer (some ⟨b,0,none⟩)] w fun e w'=>e= .returned (.tuple #[])∧Blk w' b 167 #[.pointer (some ⟨b,0,none⟩),v]∧Upd [b] w w':=by
 rcases hp with rfl | rfl
 ·refine (sbcheck_fresh b w (hb.cell 0) (by unfold Blk at hb; simp [World.shape?,hb]) (hb.frozen 0)).mono ?_
  rintro e w' ⟨rfl,rfl⟩
  exact ⟨rfl,hb.set_ 0 _,(Upd.refl [b] w).set (p:=⟨b,0,none⟩) (.inl (by simp)) _⟩
 ·refine (sbcheck_used b w (hb.cell 0)).mono ?_
  rintro e w' ⟨rfl,rfl⟩
  exact ⟨rfl,hb,Upd.refl _ _⟩
end
section
open Go.RowKit
theorem own_lower {w:World} {base:Nat} {e:TypeId} {sz:Nat} {v:Value} {n:Nat} {xs:List Value} (h:w.ownsRow base e sz v n xs):w.ownsRow 0 e sz v n xs:=by
 refine ⟨h.1,?_⟩
 rcases h.2 with hn | ⟨g,cap,cur,hv, _,rest⟩
 ·exact .inl hn
 ·exact .inr ⟨g,cap,cur,hv,Nat.zero_le _,rest⟩
theorem run_append_str1 {P:Program} (w:World) (t u ty e:TypeId) (i:TypeInfo) (ht:P.underlying t=some (.slice e)) (hu:P.underlying u=some .string) (hi:P.info? e=some i) (hz:i.zero=some (.int .u8 0))
  (hsize:i.size=1) (hby:i.bytes=1) (v:Value) (n:Nat) (xs:List Value) (hown:w.ownsRow 0 e 1 v n xs) (s:ByteArray) (h63:n+s.size≤maxLen) (hbytes:n+s.size≤140737488355328):
  ∃ v' w',(Builtin.append_ #[t,u] ty #[v, .string s]).run P w= .ok v' w'∧w'.ownsRow 0 e 1 v' (n+s.size) (xs++Lib.strCells s)∧w.grownBy w' v.ownBlock∧(∀ k,v'.ownBlock=some k→v.ownBlock=some k∨w.heap.size≤k):=by
 have hsm:n+s.size≤9223372036854775807:=by simp only [maxLen] at h63; omega
 have h1:=hown.1
 rcases hown.2 with ⟨rfl,rfl⟩ | ⟨g,cap,cur,rfl,hbg,hg,hnc,hcm,hcs,htake⟩
 ·obtain ⟨v',w',hr,h2,h3,h4⟩:=Lib.run_append_own_string (P:=P) w w.heap.size t u ty e i ht hu hi hz hsize hby _ _ xs ⟨hown.1, .inl ⟨rfl,rfl⟩⟩ s h63 hbytes (Nat.le_refl _)
  exact ⟨v',w',hr,own_lower h2,h3,fun k hk=> .inr (own_block h2 k hk)⟩
 ·obtain ⟨v',w',hr,h2,h3,h4⟩:=Lib.run_append_own_string (P:=P) w 0 t u ty e i ht hu hi hz hsize hby _ _ xs hown s h63 hbytes (Nat.zero_le _)
  refine ⟨v',w',hr,h2,h3,fun k hk=>?_⟩
  by_cases hroom:n+s.size≤cap
  ·have hr':=Lib.run_append_room_string (P:=P) w t u ty e i ht hu hi hsize g n cap cur hg s hroom (by omega)
   rw [hr'] at hr
   injection hr with e1 e2
   subst e1
   exact .inl hk
  ·have hr':=Lib.run_append_grow_string (P:=P) w t u ty e i (.int .u8 0) ht hu hi hz ⟨g,0,none⟩ n cap xs (by rw [hsize]; simpa using h1) (hown.cells (g:=g) rfl) s (by omega) (by omega) (by rw [hby]; exact growslice_fits (by omega) (by omega))
   rw [hr'] at hr
   injection hr with e1 e2
   subst e1
   right
   have h5:some w.heap.size=some k:=hk
   injection h5 with h5
   omega
section
variable {P:Program} {ops:Array Oper} {L:List Nat} {a0:Act} {w0:World} {bor:List Nat} {X0:List Ent} {us cr kl:List (List Nat)}
 {D:Nat→(Tmp→Value)→(Tmp→Value)→(Nat→Ent)→Prop} {i:Nat} {o:Oper} {ρ:Operand→Value} {β:Tmp→Value} {W:World} {X:Nat→Ent}
end
end
section
open Go.RowKit
/-- the builder in block b, its bytes xs in a row of its own (block r, none while there is no row) -/
def SbAt (W:World) (b:Nat) (r:Option Nat) (xs:List Value):Prop:=
 ∃ p v,Blk W b 167 #[p,v]∧(p= .pointer none∨p= .pointer (some ⟨b,0,none⟩))∧W.ownsRow 0 5 1 v xs.length xs∧v.ownBlock=r
def eSb (b:Nat) (r:Option Nat) (xs:List Value):Ent:=⟨b::r.toList,fun W=>SbAt W b r xs⟩
def rO (e:Ent):Option Nat:=e.fp[1]?
theorem rO_eSb (b:Nat) (r:Option Nat) (xs:List Value):rO (eSb b r xs)=r:=by
 cases r<;>rfl
theorem eSb_loc (b:Nat) (r:Option Nat) (xs:List Value):(eSb b r xs).loc:=fun W W' hk h=>by
 obtain ⟨p,v,h1,h2,h3,h4⟩:=h
 refine ⟨p,v,(hk b (by simp [eSb])).trans h1,h2,?_,h4⟩
 have:=eO_loc 5 1 v xs.length xs W W' (fun k hk'=>hk k (by
  have h5:v.ownBlock=some k:=by simpa [eO] using hk'
  rw [h4] at h5
  simp [eSb,h5])) h3
 exact this
/-- a new builder -/
theorem SbAt.fresh {W:World} {b:Nat} (h:Blk W b 167 #[.pointer none, .slice none 0 0]):SbAt W b none []:=⟨_, _,h, .inl rfl,World.ownsRow_nil _ _ _ _,rfl⟩
theorem SbAt.ne {W:World} {b:Nat} {r:Option Nat} {xs:List Value} (h:SbAt W b r xs):r≠some b:=by
 obtain ⟨p,v,h1,h2,h3,h4⟩:=h
 have:=own_ne h3 h1 (by decide)
 rw [h4] at this
 exact this
theorem wpList_append_str {P:Program} {ops:Array Oper} {rest:List Oper} {o:Oper} {a:Act} {Q:Exit→Act→World→Prop} {w:World} (hgd:o.guard=none) (sl x:Operand) (t u:TypeId)
  (ho:o.op= .call {callee:= .builtin .append,args:=#[sl,x],argTypes:=#[t,u]})
  (e:TypeId) (i:TypeInfo) (ht:P.underlying t=some (.slice e)) (hu:P.underlying u=some .string) (hi:P.info? e=some i) (hz:i.zero=some (.int .u8 0))
  (hsize:i.size=1) (hby:i.bytes=1)
  (v:Value) (n:Nat) (xs:List Value) (hs:a.eval sl=v) (hown:w.ownsRow 0 e 1 v n xs) (s:ByteArray) (hx:a.eval x= .string s)
  (h63:n+s.size≤maxLen) (hbytes:n+s.size≤140737488355328)
  (h:∀ v' w',w'.ownsRow 0 e 1 v' (n+s.size) (xs++Lib.strCells s)→w.grownBy w' v.ownBlock→(∀ k,v'.ownBlock=some k→v.ownBlock=some k∨w.heap.size≤k)→wpList P ops Q rest (a.put o.dst v') w'):wpList P ops Q (o::rest) a w:=by
 refine wpList_plain hgd fun K hK=>?_
 obtain ⟨v',w',hr,h2,h3,h4⟩:=run_append_str1 (P:=P) w t u o.type e i ht hu hi hz hsize hby v n xs hown s h63 hbytes
 unfold Oper.wp execOp
 simp only [ho,resolve,invoke,builtin,Sem.run_bind,Sem.run_pure,Result.andThen_ok,List.map_toArray,List.map_cons,List.map_nil,hs,hx,hr]
 exact hK _ _ (h v' w' h2 h3 h4)
theorem Tryz.infoU8:(Tryz.prog.info? 5).map (fun i=>(i.zero,i.size,i.bytes))=some (some (.int .u8 0),1,1):=by kernel_rfl
/-- what a write leaves -/
def SbPost (b:Nat) (r:Option Nat) (xs:List Value) (w w':World):Prop:=∃ r',SbAt w' b r' xs∧Upd (b::r.toList) w w'∧∀ k,r'=some k→r=some k∨w.heap.size≤k
theorem sbw_any (b:Nat) (r:Option Nat) (xs:List Value) (s:ByteArray) (w:World) (h:SbAt w b r xs) (hlen:xs.length+s.size≤1000000):
  Calls Tryz.prog 85 #[.pointer (some ⟨b,0,none⟩), .string s] w fun e w'=>e= .returned (.tuple #[.int .i64 s.size, .nilIface])∧SbPost b r (xs++Lib.strCells s) w w':=by
 obtain ⟨i0,hi,hz0,hz1,hz2⟩:=info_parts Tryz.infoU8
 have hnb:=h.ne
 obtain ⟨p,v,hbk0,hp,hown0,hr⟩:=h
 subst hr
 go_enter Tryz.func85,Tryz.ntmps85
 go_wp2_with fail
 refine (sbcheck_any b p v w hbk0 hp).mono ?_
 rintro e w1 ⟨rfl,hbk,hb1⟩
 have hown:w1.ownsRow 0 5 1 v xs.length xs:=eO_loc 5 1 v xs.length xs w w1 (fun k hk=>by
  have h5:v.ownBlock=some k:=by simpa [eO] using hk
  exact hb1.block k (own0_block hown0 k h5) (by simp; intro e; exact hnb (by rw [h5,e]))) hown0
 have c0:w1.cell? ⟨b,0,none⟩=some (.pointer (some ⟨b,0,none⟩)):=hbk.cell 0
 have c1:w1.cell? ⟨b,1,none⟩=some v:=hbk.cell 1
 go_wp2_with (at_builtin; refine wpList_append_str rfl _ _ 65 9 rfl 5 i0 Tryz.underlying65 Tryz.underlying9 hi hz0 hz1 hz2 _ _ _ rfl hown s rfl ?c3 ?c4 ?_)
 case c3=>unfold maxLen; omega
 case c4=>omega
 intro v' w2 hown' hgrow hat
 have hb2:Blk w2 b 167 #[.pointer (some ⟨b,0,none⟩),v]:=hbk.grown hgrow (own_ne hown hbk (by decide))
 have d0:w2.cell? ⟨b,0,none⟩=some (.pointer (some ⟨b,0,none⟩)):=hb2.cell 0
 have d1:w2.cell? ⟨b,1,none⟩=some v:=hb2.cell 1
 have f1:w2.frozen? ⟨b,1,none⟩=false:=hb2.frozen 1
 obtain ⟨ao,n',cap,rfl⟩:∃ ao n' cap,v'= .slice ao n' cap:=by
  rcases hown'.2 with ⟨hv, _⟩ | ⟨g,cap,cur,hv, _⟩
  ·exact ⟨_, _, _,hv⟩
  ·exact ⟨_, _, _,hv⟩
 go_wp2
 go_ret2
 refine ⟨rfl, _,⟨_, _,hb2.set_ 1 _, .inr rfl,own_set (by simpa [Lib.strCells_length] using hown') (own_ne hown' hb2 (by decide)) 1 _,rfl⟩,?_,fun k hk=>?_⟩
 ·exact ((hb1.mono (fun k _ hk=>by simp at hk; simp [hk])).grown hgrow (fun k hk=> .inl (by simp [hk]))).set (p:=⟨b,1,none⟩) (.inl (by simp)) _
 ·rcases hat k hk with h | h
  ·exact .inl h
  ·exact .inr (Nat.le_trans hb1.size h)
def eBu (b:Nat) (r:Option Nat) (l:List UInt8):Ent:=eSb b r (Lib.byteCells l)
theorem rO_eBu (b:Nat) (r:Option Nat) (l:List UInt8):rO (eBu b r l)=r:=rO_eSb b r _
theorem cells_str (l:List UInt8) (s:ByteArray):Lib.byteCells l++Lib.strCells s=Lib.byteCells (l++s.data.toList):=by simp [Lib.byteCells,Lib.strCells]
theorem byteCells_len (l:List UInt8):(Lib.byteCells l).length=l.length:=by simp [Lib.byteCells]
theorem sbw_l (b:Nat) (r:Option Nat) (l:List UInt8) (s:ByteArray) (w:World) (h:SbAt w b r (Lib.byteCells l)) (hlen:l.length+s.size≤1000000):
  Calls Tryz.prog 85 #[.pointer (some ⟨b,0,none⟩), .string s] w fun e w'=>e= .returned (.tuple #[.int .i64 s.size, .nilIface])∧SbPost b r (Lib.byteCells (l++s.data.toList)) w w':=by
 have:=sbw_any b r _ s w h (by rw [byteCells_len]; exact hlen)
 rw [cells_str l s] at this
 exact this
theorem Upd.freeze {S:List Nat} {a b:World} (h:Upd S a b) {p:Addr} (hp:p.block∈S∨a.heap.size≤p.block) (n:Nat):Upd S a (b.freeze p n):=by
 unfold World.freeze
 split
 ·exact h
 ·refine ⟨h.os,h.tape,h.output,by simpa using h.size,fun k hk hn=>?_⟩
  simp only [Array.getElem?_modify]
  rw [if_neg (fun e=>?_)]
  ·exact h.block k hk hn
  ·rcases hp with hp | hp
   ·exact hn (by rw [← e]; exact hp)
   ·omega
section
variable {P:Program} {ops:Array Oper} {L:List Nat} {a0:Act} {w0:World} {bor:List Nat} {X0:List Ent} {us cr kl:List (List Nat)}
 {D:Nat→(Tmp→Value)→(Tmp→Value)→(Nat→Ent)→Prop} {i:Nat} {o:Oper} {ρ:Operand→Value} {β:Tmp→Value} {W:World} {X:Nat→Ent}
theorem CtxV.sb {q b:Nat} {r:Option Nat} {l:List UInt8} (cx:CtxV ops L a0 w0 bor X0 us D i ρ β W X) (hX:X q=eBu b r l) (hu:(atV us i).contains q=true):SbAt W b r (Lib.byteCells l):=by
 have h:=(cx.ok q hu).holds
 rw [hX] at h; exact h
theorem post_sb {v:Value} {W':World} {b q q':Nat} {r:Option Nat} {l:List UInt8} (hX:(X q).fp=b::r.toList) (hc:atV cr i=[q']) (hk:atV kl i=[q]) (hp:SbPost b r (Lib.byteCells l) W W')
  (hD:∀ (σ β':Tmp→Value) (X':Nat→Ent),(∀ t,o.dst≠some t→σ t=ρ (.tmp t))→(∀ t,o.dst≠some t→β' t=β t)→(∀ d,o.dst=some d→σ d=v∧β' d=v)→X' q'=eBu b (rO (X' q')) l→D i σ β' X'):PostV cr kl D i o.dst ρ β W X v W':=by
 obtain ⟨r',hs,hu,hr⟩:=hp
 have hne:=hs.ne
 have hlt:∀ k∈(eBu b r' l).fp,k < W'.heap.size:=fun k hk'=>by
  obtain ⟨p,vv,h1, _,h3,h4⟩:=hs
  simp only [eBu,eSb,List.mem_cons,Option.mem_toList] at hk'
  rcases hk' with rfl | hk'
  ·exact h1.lt
  ·exact own0_block h3 k (by rw [h4]; exact hk')
 refine ⟨[eBu b r' l],by rw [hc]; rfl,⟨?_,fun e he=>?_,List.pairwise_singleton _ _⟩,fun σ β' X' hs' hv hb' hbv hx' hN=>hD σ β' X' hs' hb' (fun d hd=>⟨hv d hd,hbv d hd⟩) ?_⟩
 ·rw [hk]
  simp only [List.flatMap_cons,List.flatMap_nil,List.append_nil,hX]
  exact hu
 ·rw [List.mem_singleton] at he
  subst he
  refine ⟨hs,eSb_loc _ _ _,fun k hk'=>⟨?_,hlt k hk'⟩⟩
  rw [hk]
  simp only [List.flatMap_cons,List.flatMap_nil,List.append_nil,hX]
  simp only [eBu,eSb,List.mem_cons,Option.mem_toList] at hk'
  rcases hk' with rfl | hk'
  ·exact .inl (by simp)
  ·rcases hr k hk' with h | h
   ·exact .inl (by simp [h])
   ·exact .inr h
 ·rw [hc] at hN
  have h1:=(List.cons.inj hN).1
  rw [h1,rO_eBu]
theorem run_sliceData {x:Operand} {t:TypeId} {a:Addr} {n c:Nat} (h:o.op= .call {callee:= .builtin .unsafeSliceData,args:=#[x],argTypes:=#[t]}) (hx:ρ x= .slice (some a) n c) (hc:0 < c):(execOp ρ o).run P W= .ok (.value (.pointer (some a))) W:=by
 have h0:=Lib.run_unsafeSliceData_row (P:=P) (w:=W) #[t] o.type a n c (by omega)
 unfold execOp; rw [h]
 simp only [resolve,invoke,builtin,Sem.run_bind,Sem.run_pure,Result.andThen_ok,List.map_toArray,List.map_cons,List.map_nil,hx,h0]
end
end
section
open Go.RowKit
theorem ex_all (s:ByteArray):s.extract 0 s.size=s:=by
 apply ByteArray.ext
 simp
def textO (s:ByteArray):ByteArray:=putS s.size 2++s
section
variable {o:Oper} {ρ:Operand→Value} {W:World}
theorem run_slice_all {P:Program} {t:TypeId} {x y:Operand} {s:ByteArray} {k:IntKind} {j:Int} (h:o.op= .slice t x none (some y) none) (ht:P.underlying t=some .string) (hx:ρ x= .string s) (hy:ρ y= .int k j) (hj:j=(s.size:Int)):
  (execOp ρ o).run P W= .ok (.value (.string s)) W:=by
 have e:=run_slice_hi (P:=P) (W:=W) h ht hx hy hj (Nat.le_refl _)
 rw [ex_all] at e
 exact e
end
theorem otext_any (s:ByteArray) (w:World) (hs:s.size≤65535):
  Calls Tryz.prog 87 #[.string s] w (Ret (.string (textO s)) w):=by
 have hp:=putS_size (s.size:Int) 2 (by omega)
 go_enter Tryz.func87,Tryz.ntmps87
 have hst0:=St.start w
 refine wp_seq (sqr (sqp [.k 2 (.string ⟨#[]⟩)] ?_))
 refine then_normal (wp_seq (sqr (sqp [.m 3 0, .m 4 0, .k 5 (vi ((s.size:Int)))] ?_)))
 refine sql (vi ((s.size:Int))) hst0 (fun cx=>run_min2 rfl (cx.ou 5) (cx.co _) (by omega)) ?_
 refine sql (.string s) hst0 (fun cx=>run_slice_all rfl (by kernel_rfl) (cx.ou 3) (cx.ou 6) (by omega)) ?_
 refine sqp [.m 0 7] ?_
 refine then_normal (wp_seq (sqr (sqp [.m 8 0, .k 9 (vi ((s.size:Int)))] ?_)))
 refine sqk (.string (putS (s.size:Int) 2)) hst0 (fun cx=>⟨_,oput2_any (s.size:Int) _,(map2 (cx.ou 9) (cx.co _))⟩) fun W10 hst10=>?_
 refine sqp [.m 11 0,sS 12 (putS (s.size:Int) 2) s (by omega), .m 2 12] ?_
 refine then_normal (wp_ret ?_)
 refine bpr (.string ((putS (s.size:Int) 2)++s)) (results_1 Tryz.results87 rpt) ?_
 exact Ret.of rfl hst10.ext
end
end Go.Proofs.YtjlcoglmjldjbaaGreat
namespace Go.Proofs
section
open Go.Shelf
def Tryz.lays170_ren:Go.Shelf.Ren:=⟨fun | 170=>89 | n=>n,fun | 70=>165 | 3=>3 | 0=>0 | 72=>167 | 37=>65 | 5=>5 | n=>n,fun | n=>n⟩
theorem Tryz.lays170:Go.Proofs.Lays.n170 Tryz.prog Tryz.lays170_ren:={
 mixed:=by kernel_rfl
 f170:=Tryz.func89.trans (congrArg some (by kernel_rfl))
 t0:=Tryz.underlying0
 a0:=Tryz.isAgg0
 z0:=Tryz.sizeOf0
 v0:=Tryz.zeroValue0
 t3:=Tryz.underlying3
 a3:=Tryz.isAgg3
 z3:=Tryz.sizeOf3
 v3:=Tryz.zeroValue3
 t37:=Tryz.underlying65
 a37:=Tryz.isAgg65
 z37:=Tryz.sizeOf65
 v37:=Tryz.zeroValue65
 t70:=Tryz.underlying165
 a70:=Tryz.isAgg165
 z70:=Tryz.sizeOf165
 v70:=Tryz.zeroValue165
 t72:=Tryz.underlying167
 a72:=Tryz.isAgg167
 z72:=Tryz.sizeOf167
 v72:=Tryz.zeroValue167}
open Go.RowKit in
theorem Tryz.Builder_Len_f (B b:Nat) (bs:List Value) (w:World) (h:Lib.IsBuilderF 167 5 B b bs w):
  Calls Tryz.prog 89 #[.pointer (some ⟨b,0,none⟩)] w fun e w'=>e= .returned (.int .i64 bs.length)∧w'=w:=Any.Builder_Len_f Tryz.lays170 B b bs w h
def Tryz.lays105_ren:Go.Shelf.Ren:=⟨fun | 105=>88 | 212=>116 | 99=>117 | 165=>118 | 166=>85 | 170=>89 | 169=>91 | 263=>130 | 264=>131 | 206=>132 | 240=>114 | 241=>133 | 276=>129 | 277=>136 | n=>n,fun | 9=>9 | 3=>3 | 4=>4 | 20=>20 | 0=>0 | 46=>195 | 109=>196 | 5=>5 | 72=>167 | 76=>171 | 51=>176 | 146=>211 | 53=>194 | 148=>213 | 70=>165 | 37=>65 | 75=>170 | 127=>200 | 164=>209 | 80=>139 | n=>n,fun | n=>n⟩
theorem Tryz.lays105:Go.Proofs.Lays.n105 Tryz.prog Tryz.lays105_ren:={
 mixed:=by kernel_rfl
 f99:=Tryz.func117.trans (congrArg some (by kernel_rfl))
 f105:=Tryz.func88.trans (congrArg some (by kernel_rfl))
 f165:=Tryz.func118.trans (congrArg some (by kernel_rfl))
 f166:=Tryz.func85.trans (congrArg some (by kernel_rfl))
 f169:=Tryz.func91.trans (congrArg some (by kernel_rfl))
 f170:=Tryz.func89.trans (congrArg some (by kernel_rfl))
 f206:=Tryz.func132.trans (congrArg some (by kernel_rfl))
 f212:=Tryz.func116.trans (congrArg some (by kernel_rfl))
 f240:=Tryz.func114.trans (congrArg some (by kernel_rfl))
 f241:=Tryz.func133.trans (congrArg some (by kernel_rfl))
 f263:=Tryz.func130.trans (congrArg some (by kernel_rfl))
 f264:=Tryz.func131.trans (congrArg some (by kernel_rfl))
 f276:=Tryz.func129.trans (congrArg some (by kernel_rfl))
 f277:=Tryz.func136.trans (congrArg some (by kernel_rfl))
 t0:=Tryz.underlying0
 a0:=Tryz.isAgg0
 z0:=Tryz.sizeOf0
 v0:=Tryz.zeroValue0
 t3:=Tryz.underlying3
 a3:=Tryz.isAgg3
 z3:=Tryz.sizeOf3
 v3:=Tryz.zeroValue3
 t4:=Tryz.underlying4
 a4:=Tryz.isAgg4
 z4:=Tryz.sizeOf4
 v4:=Tryz.zeroValue4
 t5:=Tryz.underlying5
 a5:=Tryz.isAgg5
 z5:=Tryz.sizeOf5
 v5:=Tryz.zeroValue5
 t9:=Tryz.underlying9
 a9:=Tryz.isAgg9
 z9:=Tryz.sizeOf9
 v9:=Tryz.zeroValue9
 t20:=Tryz.underlying20
 a20:=Tryz.isAgg20
 z20:=Tryz.sizeOf20
 v20:=Tryz.zeroValue20
 t37:=Tryz.underlying65
 a37:=Tryz.isAgg65
 z37:=Tryz.sizeOf65
 v37:=Tryz.zeroValue65
 t46:=Tryz.underlying195
 a46:=Tryz.isAgg195
 z46:=Tryz.sizeOf195
 v46:=Tryz.zeroValue195
 t51:=Tryz.underlying176
 a51:=Tryz.isAgg176
 z51:=Tryz.sizeOf176
 v51:=Tryz.zeroValue176
 t53:=Tryz.underlying194
 a53:=Tryz.isAgg194
 z53:=Tryz.sizeOf194
 v53:=Tryz.zeroValue194
 t70:=Tryz.underlying165
 a70:=Tryz.isAgg165
 z70:=Tryz.sizeOf165
 v70:=Tryz.zeroValue165
 t72:=Tryz.underlying167
 a72:=Tryz.isAgg167
 z72:=Tryz.sizeOf167
 v72:=Tryz.zeroValue167
 t75:=Tryz.underlying170
 a75:=Tryz.isAgg170
 z75:=Tryz.sizeOf170
 v75:=Tryz.zeroValue170
 t76:=Tryz.underlying171
 a76:=Tryz.isAgg171
 z76:=Tryz.sizeOf171
 v76:=Tryz.zeroValue171
 t109:=Tryz.underlying196
 a109:=Tryz.isAgg196
 z109:=Tryz.sizeOf196
 v109:=Tryz.zeroValue196
 t127:=Tryz.underlying200
 a127:=Tryz.isAgg200
 z127:=Tryz.sizeOf200
 v127:=Tryz.zeroValue200
 t146:=Tryz.underlying211
 a146:=Tryz.isAgg211
 z146:=Tryz.sizeOf211
 v146:=Tryz.zeroValue211
 t148:=Tryz.underlying213
 a148:=Tryz.isAgg213
 z148:=Tryz.sizeOf213
 v148:=Tryz.zeroValue213
 t164:=Tryz.underlying209
 a164:=Tryz.isAgg209
 z164:=Tryz.sizeOf209
 v164:=Tryz.zeroValue209}
theorem Tryz.Builder_Extra_105:Builder.Extra Tryz.prog Tryz.lays105_ren:={
 sizeBuilder:=by kernel_rfl
 liesBuilder:=by kernel_rfl
 t5:=Tryz.underlying5
 a5:=Tryz.isAgg5
 z5:=Tryz.sizeOf5
 v5:=Tryz.zeroValue5
 infoByte:=by kernel_rfl
 cellsByte:=by kernel_rfl
 sizeByte:=by kernel_rfl
 neB5:=by decide}
open Go.RowKit Go.Lib in
theorem Tryz.strings_Repeat (s:ByteArray) (c:Nat) (w:World) (hc:c≤9223372036854775807) (hlen:s.size*c≤140737488355328):
  Calls Tryz.prog 88 #[.string s, .int .i64 c] w fun e w'=>e= .returned (.string ⟨(Lib.repeatL s.data.toList c).toArray⟩)∧Below w.heap.size w w':=Any.strings_Repeat Tryz.lays105 Tryz.Builder_Extra_105 s c w hc hlen
end
end Go.Proofs
namespace Go.Proofs.YtjlcoglmjldjbaaGreat
section
open Go.RowKit
/-- a row of bytes, frozen or not -/
def ZrAt (W:World) (g:Nat) (l:List UInt8):Prop:=∃ cur fz,W.heap[g]? =some (.cells cur 5 fz)∧l.length≤cur.size∧cur.toList.take l.length=Lib.byteCells l
def eZr (g:Nat) (l:List UInt8):Ent:=⟨[g],fun W=>ZrAt W g l⟩
theorem eZr_loc (g:Nat) (l:List UInt8):(eZr g l).loc:=fun W W' hk h=>by
 obtain ⟨cur,fz,h1,h2⟩:=h
 exact ⟨cur,fz,(hk g (by simp [eZr])).trans h1,h2⟩
theorem ZrAt.lt {W:World} {g:Nat} {l:List UInt8} (h:ZrAt W g l):g < W.heap.size:=by
 obtain ⟨cur,fz,h1, _⟩:=h
 exact (Array.getElem?_eq_some_iff.1 h1).1
theorem ZrAt.freeze {W:World} {g:Nat} {l:List UInt8} (h:ZrAt W g l) (n:Nat):ZrAt (W.freeze ⟨g,0,none⟩ n) g l:=by
 obtain ⟨cur,⟨lo,hi⟩,h1,h2⟩:=h
 unfold World.freeze
 split
 ·exact ⟨cur,(lo,hi),h1,h2⟩
 ·refine ⟨cur,if lo==hi then (0,0+n) else (min lo 0,max hi (0+n)),?_,h2⟩
  simp only [Array.getElem?_modify,if_pos,h1,Option.map_some]
/-- the builder in block b, its bytes in the row r, frozen or not -/
def SbZ (W:World) (b:Nat) (r:Option Nat) (l:List UInt8):Prop:=
 ∃ p g c,Blk W b 167 #[p, .slice (some ⟨g,0,none⟩) l.length c]∧ZrAt W g l∧l.length≤c∧g≠b∧r=some g
def eZb (b:Nat) (r:Option Nat) (l:List UInt8):Ent:=⟨b::r.toList,fun W=>SbZ W b r l⟩
theorem eZb_loc (b:Nat) (r:Option Nat) (l:List UInt8):(eZb b r l).loc:=fun W W' hk h=>by
 obtain ⟨p,g,c,h1,h2,h3,h4,rfl⟩:=h
 exact ⟨p,g,c,(hk b (by simp [eZb])).trans h1,eZr_loc g l W W' (fun k hk'=>hk k (by simp [eZr] at hk'; simp [eZb,hk'])) h2,h3,h4,rfl⟩
theorem SbZ.lt {W:World} {b:Nat} {r:Option Nat} {l:List UInt8} (h:SbZ W b r l):∀ k∈(eZb b r l).fp,k < W.heap.size:=fun k hk=>by
 obtain ⟨p,g,c,h1,h2,h3,h4,rfl⟩:=h
 simp only [eZb,List.mem_cons,Option.mem_toList,Option.some.injEq] at hk
 rcases hk with rfl | rfl
 ·exact h1.lt
 ·exact h2.lt
theorem SbAt.z {W:World} {b:Nat} {r:Option Nat} {l:List UInt8} (h:SbAt W b r (Lib.byteCells l)) (hl:l≠[]):SbZ W b r l:=by
 have hpos:0 < l.length:=List.length_pos_iff.2 hl
 have hbne:=h.ne
 obtain ⟨p,v,hb,hp,hown,hr⟩:=h
 rw [byteCells_len] at hown
 rcases hown.2 with ⟨hv,h0⟩ | ⟨g,cap,cur,hv, _,hg,hle,hmx,hcs,htk⟩
 ·omega
 ·subst hv
  refine ⟨p,g,cap,hb,⟨cur, _,hg,by omega,by rw [Nat.mul_one] at htk; exact htk⟩,hle,fun e=>hbne (by rw [← hr]; simp [Value.ownBlock,e]),hr.symm⟩
section
variable {P:Program} {ops:Array Oper} {L:List Nat} {a0:Act} {w0:World} {bor:List Nat} {X0:List Ent} {us cr kl:List (List Nat)}
 {D:Nat→(Tmp→Value)→(Tmp→Value)→(Nat→Ent)→Prop} {i:Nat} {o:Oper} {ρ:Operand→Value} {β:Tmp→Value} {W:World} {X:Nat→Ent}
/-- an entry turns into another over the same blocks -/
theorem post_chg {v:Value} {W':World} {q q':Nat} {E E':Ent} (hX:X q=E) (hc:atV cr i=[q']) (hk:atV kl i=[q]) (hu:Upd E.fp W W') (hh:E'.holds W') (hl:E'.loc) (hf:∀ k∈E'.fp,k∈E.fp∧k < W'.heap.size)
  (hD:∀ (σ β':Tmp→Value) (X':Nat→Ent),(∀ t,o.dst≠some t→σ t=ρ (.tmp t))→(∀ t,o.dst≠some t→β' t=β t)→(∀ d,o.dst=some d→σ d=v∧β' d=v)→X' q'=E'→D i σ β' X'):PostV cr kl D i o.dst ρ β W X v W':=by
 subst hX
 refine ⟨[E'],by rw [hc]; rfl,⟨?_,fun e he=>?_,List.pairwise_singleton _ _⟩,fun σ β' X' hs' hv hb' hbv hx' hN=>hD σ β' X' hs' hb' (fun d hd=>⟨hv d hd,hbv d hd⟩) ?_⟩
 ·rw [hk]
  simp only [List.flatMap_cons,List.flatMap_nil,List.append_nil]
  exact hu
 ·rw [List.mem_singleton] at he
  subst he
  refine ⟨hh,hl,fun k hk'=>⟨.inl ?_,(hf k hk').2⟩⟩
  rw [hk]
  simpa using (hf k hk').1
 ·rw [hc] at hN
  exact (List.cons.inj hN).1
theorem CtxV.z {q b:Nat} {r:Option Nat} {l:List UInt8} (cx:CtxV ops L a0 w0 bor X0 us D i ρ β W X) (hX:X q=eZb b r l) (hu:(atV us i).contains q=true):SbZ W b r l:=by
 have h:=(cx.ok q hu).holds
 rw [hX] at h; exact h
theorem dv_unsafeStrZ {x y:Operand} {t u e:TypeId} {g q q':Nat} {d:Tmp} {l:List UInt8} (he:e=5) (h:o.op= .call {callee:= .builtin .unsafeString,args:=#[x,y],argTypes:=#[t,u]}) (ht:P.underlying t=some (.pointer e)) (hce:P.cellsOf e=1)
  (hx:ρ x= .pointer (some ⟨g,0,none⟩)) (hy:ρ y= .int .i64 (l.length:Int)) (cx:CtxV ops L a0 w0 bor X0 us D i ρ β W X) (hX:X q=eZr g l) (hu:(atV us i).contains q=true) (hl:l≠[]) (h63:l.length≤9223372036854775807)
  (hd:o.dst=some d) (hc:atV cr i=[q']) (hk:atV kl i=[q]) (hD:∀ (σ β':Tmp→Value) (X':Nat→Ent),σ d= .string ⟨l.toArray⟩→X' q'=eZr g l→D i σ β' X'):DoesU P o ρ W (PostV cr kl D i o.dst ρ β W X):=by
 subst he
 have hz:ZrAt W g l:=by
  have h:=(cx.ok q hu).holds
  rw [hX] at h; exact h
 obtain ⟨cur,fz,hg,hle,htk⟩:=id hz
 have hcell:∀ (j:Nat) (x:UInt8),l[j]? =some x→W.cell? ((⟨g,0,none⟩:Addr).add j)=some (.int .u8 x.toNat):=fun j x hj=>by
  have hjl:=(List.getElem?_eq_some_iff.1 hj).1
  rw [Addr.add_lit,Nat.zero_add,cell_of_row W g j cur _ _ hg]
  have h5:(cur.toList.take l.length)[j]? =(Lib.byteCells l)[j]? :=by rw [htk]
  rw [List.getElem?_take,if_pos (by omega)] at h5
  rw [← Array.getElem?_toList,h5]
  simp [Lib.byteCells,hj]
 have hrun:=Lib.run_unsafeString_row (P:=P) (w:=W) t u o.type _ ht hce g cur.size (by unfold World.shape?; rw [hg]) l hl (by omega) h63 hcell
 refine DoesU.value (v:= .string ⟨l.toArray⟩) (w':=W.freeze ⟨g,0,none⟩ l.length) (by
  unfold execOp; rw [h]
  simp only [resolve,invoke,builtin,Sem.run_bind,Sem.run_pure,Result.andThen_ok,List.map_toArray,List.map_cons,List.map_nil,hx,hy,hrun]) ?_
 have hz':=hz.freeze l.length
 exact post_chg (E:=eZr g l) (E':=eZr g l) hX hc hk ((Upd.refl _ _).freeze (.inl (by simp [eZr])) _) hz' (eZr_loc g l) (fun k hk'=>⟨hk',by simp [eZr] at hk'; subst hk'; exact hz'.lt⟩) fun σ β' X' _ _ hv hX'=>hD σ β' X' (hv d hd).1 hX'
end
theorem St.lentZ {w:World} {b g t:Nat} {cs:Array Value} {l:List UInt8} (hb:Blk w b t cs) (hz:ZrAt w g l) (hne:g≠b):St w [b,g] [eB b t cs,eZr g l] w:=by
 refine ⟨Upd.refl _ _,fun x hx=>?_,?_⟩
 ·simp only [List.mem_cons,List.not_mem_nil,or_false] at hx
  rcases hx with rfl | rfl
  ·exact ⟨hb,eB_loc _ _ _,fun k hk=>⟨.inl (by simp [eB] at hk; simp [hk]),by simp [eB] at hk; subst hk; exact hb.lt⟩⟩
  ·exact ⟨hz,eZr_loc _ _,fun k hk=>⟨.inl (by simp [eZr] at hk; simp [hk]),by simp [eZr] at hk; subst hk; exact hz.lt⟩⟩
 ·refine List.pairwise_pair.2 fun k hk hk'=>?_
  simp only [eB,List.mem_cons,List.not_mem_nil,or_false,eZr] at hk hk'
  omega
theorem sbstr_z (b:Nat) (r:Option Nat) (l:List UInt8) (w:World) (h:SbZ w b r l) (hl:l≠[]) (h63:l.length≤1000000):
  Calls Tryz.prog 91 #[.pointer (some ⟨b,0,none⟩)] w fun e w'=>e= .returned (.string ⟨l.toArray⟩)∧SbZ w' b r l∧Upd (b::r.toList) w w':=by
 have hpos:0 < l.length:=List.length_pos_iff.2 hl
 obtain ⟨p,g,c,hb,hz,hlc,hne,rfl⟩:=h
 have st0:=St.lentZ hb hz hne
 show Calls _ _ _ w fun e w'=>e= .returned (.string ⟨l.toArray⟩)∧SbZ w' b (some g) l∧Upd [b,g] w w'
 go_enter Tryz.func91,Tryz.ntmps91
 have hst0:=st0
 refine wp_seq (sqr (sqp [.k 2 (.string ⟨#[]⟩)] ?_))
 refine then_normal (wp_seq (wp_region_Y [0,1,3,7,15,0,32,96,224,480,1023,2047] [[],[],[],[0],[],[],[],[],[0],[],[1]] [[],[],[],[],[],[],[],[],[],[],[2]] [[],[],[],[],[],[],[],[],[],[],[1]] [.k 3 (vp b), .k 4 (vp b), .k 5 (.pointer (some ⟨b,1,none⟩)), .c 6 (.slice ((some ⟨g,0,none⟩)) l.length c), .c 7 (vp g), .k 8 (vp b), .k 9 (vp b), .k 10 (.pointer (some ⟨b,1,none⟩)), .c 11 (.slice ((some ⟨g,0,none⟩)) l.length c), .k 12 (vi ((l.length:Int))), .a 13, .c 2 (.string ((⟨l.toArray⟩:ByteArray)))] (fun ix σ β X=>match ix with | 0=>True | 1=>True | 2=>True | 3=>True | 4=>True | 5=>True | 6=>True | 7=>True | 8=>True | 9=>True | 10=>σ 13= .string ((⟨l.toArray⟩:ByteArray))∧X 2=eZr g l | _=>True) [0,2] [3,4,8,10,11] [(2,11,1,3),(0,0,11,11)] hst0 ?_ ?_ ?_))
 ·exact fun ix _ _ _ _ _ _ hs hb hx h=>match ix,h with
  | 10,h=>by dsimp only; rw [← hs 13 rfl,← hx 2 rfl]; exact h
  | 0, _ | 1, _ | 2, _ | 3, _ | 4, _ | 5, _ | 6, _ | 7, _ | 8, _ | 9, _ | _+11, _=>trivial
 ·refine ⟨?_,?_,?_,?_,?_,trivial⟩
  ·exact xs4 rfl id fun cx=>run_load1 rfl (by kernel_rfl) (cx.an 2) ((cx.bi 0 rfl).cell 1)
  ·exact xs4 rfl id fun cx=>run_sliceData rfl (cx.an 3) (by omega)
  ·exact xs4 rfl id fun cx=>run_load1 rfl (by kernel_rfl) (cx.an 7) ((cx.bi 0 rfl).cell 1)
  ·refine svA fun ρ β W X cx=>?_
   exact dv_unsafeStrZ (e:=5) rfl rfl (by kernel_rfl) (by kernel_rfl) (cx.an 4) (cx.an 9) cx (cx.init 1 _ rfl) rfl hl (by omega) rfl rfl rfl (fun σ β' X' hs hx=>⟨hs,hx⟩)
  ·exact xs4 rfl id fun cx=>run_assign' rfl (dTn (cx.an 10)).1
 intro σ β X W2 hD hst2 fr hfr
 simp only [exq 2 ((dTn (hD 10 lq)).2)] at hst2
 simp only [ed 13 ((dTn (hD 10 lq)).1)] at hfr
 clear hD; subst hfr; clear σ β X
 refine then_normal (wp_ret ?_)
 refine bpr (.string ((⟨l.toArray⟩:ByteArray))) (results_1 Tryz.results91 rpt) ?_
 exact ⟨rfl,⟨p,g,c,(hst2.ok (eB b 167 #[p, .slice (some ⟨g,0,none⟩) l.length c]) (by simp)).holds,(hst2.ok (eZr g l) (by simp)).holds,hlc,hne,rfl⟩,hst2.upd⟩
/-- a page and an error, the page's items in new memory -/
def PgPost (k l:Int) (ss:List ByteArray) (err:Int) (w:World) (e:Ending) (w':World):Prop:=
 ∃ A c,e= .returned (.tuple #[.agg #[.int .i64 k, .int .i64 l, .slice A ss.length c], .int .i64 err])∧
   w'.ownsRow w.heap.size 9 1 (.slice A ss.length c) ss.length (ss.map Value.string)∧Ext w w'
def PutPost (k l:Int) (ss:List ByteArray) (slot:Int) (s:ByteArray) (w:World):Ending→World→Prop:=
 if putErr k l ss slot s=0 then PgPost k l (plainL (withL ss slot.toNat s)) 0 w else PgPost 0 0 [] (putErr k l ss slot s) w
theorem PgPost.zero {err:Int} {w w':World} (h:Ext w w'):PgPost 0 0 [] err w (.returned (.tuple #[.agg #[.int .i64 0, .int .i64 0, .slice none 0 0], .int .i64 err])) w':=
 ⟨none,0,rfl,World.ownsRow_nil _ _ _ _,h⟩
theorem PutPost.bad {k l slot err:Int} {ss:List ByteArray} {s:ByteArray} {w w':World} (he:putErr k l ss slot s=err) (hne:err≠0) (hx:Ext w w'):PutPost k l ss slot s w (.returned (.tuple #[.agg #[.int .i64 0, .int .i64 0, .slice none 0 0], .int .i64 err])) w':=by
 rw [PutPost,if_neg (by rw [he]; exact hne),he]; exact PgPost.zero hx
theorem PutPost.good {k l slot:Int} {ss:List ByteArray} {s:ByteArray} {w w':World} {e:Ending} (he:putErr k l ss slot s=0) (h:PgPost k l (plainL (withL ss slot.toNat s)) 0 w e w'):PutPost k l ss slot s w e w':=by
 rw [PutPost,if_pos he]; exact h
theorem padTo_self (l:List ByteArray):padTo l l.length=l:=by simp [padTo]
theorem padTo_len {l:List ByteArray} {n:Nat} (h:l.length≤n):(padTo l n).length=n:=by simp [padTo]; omega
theorem padTo_succ {l:List ByteArray} {n:Nat} (h:l.length≤n):(padTo l n).map Value.string++[.string ⟨#[]⟩]=(padTo l (n+1)).map Value.string:=by
 rw [padTo,padTo,show n+1 - l.length=(n - l.length)+1 by omega,List.replicate_succ',← List.append_assoc,List.map_append (l₂:=[ByteArray.empty])]; rfl
theorem padTo_end {l:List ByteArray} {n m:Nat} (h:l.length≤n) (hm:m < n) (h2:n≤m+1∨n=l.length):padTo l n=padTo l (m+1):=by
 rcases h2 with h2 | h2
 ·rw [show n=m+1 by omega]
 ·rw [h2,padTo,padTo,show l.length - l.length=0 by omega,show m+1 - l.length=0 by omega]
theorem plain_small {ss:List ByteArray} (h:Small ss):Small (plainL ss):=
 ⟨Nat.le_trans (by rw [plainL_len]; exact trimN_le ss _) h.1,fun s hs=>h.2 s (List.mem_of_mem_take hs)⟩
theorem with_small {ss:List ByteArray} {m:Nat} {s:ByteArray} (h:Small ss) (hm:m < 24) (hs:s.size≤400) (h24:ss.length≤24):Small (withL ss m s):=by
 have hp:=plain_small h
 have hpl:(plainL ss).length≤24:=Nat.le_trans (by rw [plainL_len]; exact trimN_le ss _) h24
 refine ⟨?_,fun x hx=>?_⟩
 ·simp only [withL,padTo,List.length_set,List.length_append,List.length_replicate]; omega
 ·rcases List.mem_or_eq_of_mem_set hx with hx | hx
  ·rcases List.mem_append.1 hx with hx | hx
   ·exact hp.2 x hx
   ·rw [List.eq_of_mem_replicate hx]; exact Nat.zero_le _
  ·subst hx; omega
theorem withL_pad {ss:List ByteArray} {m:Nat} {s:ByteArray}:(withL ss m s).length=(padTo (plainL ss) (m+1)).length:=by simp [withL]
theorem pgput_any (k l:Int) (A:Option Addr) (c:Nat) (ss:List ByteArray) (slot:Int) (s:ByteArray) (w:World) (hA:At w A (ss.map Value.string)) (hS:Small ss) (hss:s.size≤9223372036854775807):
  Calls Tryz.prog 83 #[.agg #[.int .i64 k, .int .i64 l, .slice A ss.length c], .int .i64 slot, .string s] w (PutPost k l ss slot s w):=by
 go_enter Tryz.func83,Tryz.ntmps83
 have hst0:=St.start w
 refine wp_seq (sqr ?_)
 refine sqbx #[vi k,vi l, .slice A ss.length c] hst0 fun B3_1 W1 hst1=>?_
 refine sqal #[vi 0,vi 0, .slice none 0 0] hst1 fun B6_2 W2 hst2=>?_
 refine sqp [.k 7 (vi 0)] ?_
 refine then_normal (wp_seq (wp_seq (sqr ?_)))
 refine sqlb 0 3 hst2 ?_
 refine sqk (.bool (rightB k l ss)) hst2 (fun cx=>⟨_,right_any k l _ _ ss _ (hA.ext cx.upd.to_ext) hS,(map1 (cx.ou 9))⟩) fun W5 hst5=>?_
 refine sqp [.k 11 (.bool (!(rightB k l ss)))] ?_
 refine then_normal ?_
 rcases Bool.eq_false_or_eq_true (rightB k l ss) with hs7 | hs7
 ·refine wp_cond_false (show Act.eval _ _= .bool false from (congrArg Value.bool (by rw [hs7]; rfl))) (wp_skip (then_normal (wp_seq (wp_seq (sqr (sqp [.m 13 1, .k 14 (.bool (decide (slot < 0))), .m 15 14] ?_))))))
  refine sqw 15 [16,17] rfl (fun _=>sqp [.m 16 1, .k 17 (.bool (decide (24≤slot)))] sqe) ?_
  refine sqp [sPo 18 (decide (slot < 0)) (decide (24≤slot)), .m 19 18] ?_
  refine sqw 19 [20,21,22] rfl (fun _=>sqp [.m 20 2, .k 21 (vi ((s.size:Int))), .k 22 (.bool (decide (400 < (s.size:Int))))] sqe) ?_
  refine sqp [sPo 23 ((decide (slot < 0))||(decide (24≤slot))) (decide (400 < (s.size:Int)))] ?_
  refine then_normal (wbs (fun hs19=>?_) fun hs19=>?_)
  ·have hs19p:=hs19
   simp only [zB] at hs19p
   refine wp_seq (sqr (sqp [.k 24 (.agg #[vi 0,vi 0, .slice none 0 0])] ?_))
   refine sqst (n:=3) 1 #[vi 0,vi 0, .slice none 0 0] hst5 fun W21 hst21=>?_
   refine sqp [.k 7 (vi 21)] ?_
   refine then_normal (wp_ret (then_ret ?_))
   refine bpr (.tuple #[.agg #[vi 0,vi 0, .slice none 0 0],vi 21]) (results_2 Tryz.results83 (rpa (hst21.blk 1 rfl) 0 3) rpt) ?_
   exact PutPost.bad (by rw [putErr,if_neg (by simp [*]),if_pos (by omega)]) (by decide) hst21.ext
  have hs19p:=hs19
  simp only [zB] at hs19p
  obtain ⟨⟨hs19p1,hs19p2⟩,hs19p3⟩:=hs19p
  refine wp_skip (then_normal (wp_seq ?_))
  obtain ⟨m,rfl⟩:∃ m:Nat,slot=(m:Int):=⟨slot.toNat,by omega⟩
  have hm24:m < 24:=by omega
  have hs4:s.size≤400:=by omega
  have hpar:=right_parts (by assumption:rightB k l ss=true)
  have hl24:ss.length≤24:=hpar.2.2.1.1
  have hws:=with_small hS hm24 hs4 hl24
  refine sqr (sqp [.k 25 (.pointer (some ⟨B3_1,2,none⟩))] ?_)
  refine sqld 0 hst5 ?_
  refine sqk1 (fun A27_25=> .slice A27_25 ((plainL ss).length) ((plainL ss).length)) (fun A27_25=>eO 9 1 (.slice A27_25 ((plainL ss).length) ((plainL ss).length)) ((plainL ss).length) ((plainL ss).map Value.string)) hst5 (fun cx=>⟨_,(plain_any _ _ ss _ (hA.ext cx.upd.to_ext) (by have h_:=(hS).1; omega)).mono (by rintro e W1 ⟨rfl,ho,hx⟩; exact ⟨_,rfl,St.one hx (eO_new ho)⟩),(map1 (cx.ou 26))⟩) fun A27_25 W25 hst25=>?_
  refine sqp [.m 8 27] ?_
  refine then_normal (wp_seq (wp_block ?_))
  obtain ⟨pl,hpl⟩:∃ z,plainL ss=z:=⟨_,rfl⟩
  have hpl24:pl.length≤24:=by rw [← hpl,plainL_len]; exact Nat.le_trans (trimN_le ss _) hl24
  rw [hpl] at hst25
  rw [show eO 9 1 (.slice A27_25 pl.length pl.length) pl.length (pl.map Value.string)=eO 9 1 (.slice A27_25 pl.length pl.length) pl.length ((padTo pl pl.length).map Value.string) from by rw [padTo_self]] at hst25
  refine wp_loopT (fun t_ mz az W=>∃ j:Nat,∃ RA:Option Addr,∃ RC:Nat,pl.length≤j∧(j≤m+1∨j=pl.length)∧mz=m+1 - j∧az=⟨(ovr (jv az) [(8,8,0,[.slice RA j RC]),(19,28,7,[])] t_).toArray,[]⟩∧St w [] [eB B3_1 102 #[vi k,vi l, .slice A ss.length c],eB B6_2 102 #[vi 0,vi 0, .slice none 0 0],eO 9 1 (.slice RA j RC) j ((padTo pl j).map Value.string)] W) (m+1 - pl.length) ?_ ?_
  · -- the loop begins
    exact ⟨pl.length,A27_25,pl.length,Nat.le_refl _, .inr rfl,rfl,(by rw [hpl]; rfl),hst25.pk [0,1,2]⟩
  rintro n27 a27 W27 ⟨j,RA,RC,hj,hj2,rfl,hj_,hst27⟩
  refine ovz hj_ fun u27_=>?_
  refine wp_seq (wp_seq (sqr (sqp [.m 28 8, .k 29 (vi ((j:Int))), .m 30 1, .k 31 (.bool (decide ((j:Int)≤(m:Int))))] ?_)))
  refine then_normal (wds (fun hs32 hs32p=>?_) fun hs32 hs32p=>?_)
  ·refine wp_skip (then_normal (wp_block (sqr (sqp [.m 32 8] ?_))))
   refine sqn1 (fun x_=>sA x_) (fun A33_34=> .slice A33_34 1 1) (fun A33_34=>eO 9 1 (.slice A33_34 1 1) 1 ([.string ⟨#[]⟩])) hst27 (by
     refine svA fun ρ β W X cx=>?_
     exact dv_lit (e:=9) (xs:=[.string ⟨#[]⟩]) rfl (by simp [go_sem,cx.sees.const]) rfl (by decide) rfl rfl (fun σ β' X' hs hb hv hx=>⟨hv,hx⟩)) fun A33_34 W34 hst34=>?_
   refine sqc2 (fun x_=>sA x_) (fun x_=>sC x_) (fun A34_35 c34_35=> .slice A34_35 (j+1) c34_35) (fun A34_35 c34_35=>eO 9 1 (.slice A34_35 (j+1) c34_35) (j+1) ((padTo pl (j+1)).map Value.string)) 2 hst34 (by
     refine svA fun ρ β W X cx=>?_
     obtain ⟨i0,hi0,hz0,hz1,hz2⟩:=info_parts Tryz.infoStr
     refine dv_append (n:=j) (m:=1) (nm:=j+1) (xs:=(padTo pl j).map Value.string) (news:=[.string ⟨#[]⟩]) (xs':=(padTo pl (j+1)).map Value.string) rfl (ty:=56) rfl (by kernel_rfl) hi0 hz0 hz1 hz2 rfl (cx.ou 32) cx (cx.init 2 _ rfl) rfl (cx.ou 33) (by first | (simp; done) | (simp; omega)) (At.of_own (cx.ri 3 rfl)) (by simp [Value.oneCell']) (by simp only [maxLen]; omega) (by omega) rfl rfl rfl (by omega) (padTo_succ hj) (fun σ β' X' hs hb hv hx=>?_)
     exact ⟨hv,hx⟩) fun A34_35 c34_35 W35 hst35=>?_
   refine sqp [.m 8 34] ?_
   refine blk_normal (then_normal ?_)
   refine ⟨m+1 - ((j+1)),by omega,?_⟩
   exact ⟨(j+1),A34_35,c34_35,by omega,by omega,rfl,(by kernel_rfl),hst35.pk [0,1,2]⟩
  refine wp_exit (then_exit (then_exit (blk_eq (then_normal (wp_seq ?_)))))
  have hje:=padTo_end hj (show m < j by omega) hj2
  have hjl:=padTo_len hj
  rw [hje] at hst27
  rw [hje] at hjl
  refine sqr (sqp [.m 35 8, .m 36 1, .m 37 2] ?_)
  refine sql (.pointer (some ((ad RA).add m))) hst27 (fun cx=>run_indexSl (e:=9) (m:=m) rfl (by kernel_rfl) (by kernel_rfl) (cx.ou 35) (cx.ou 36) (by omega) (by omega) (At.of_own (cx.ri 2 rfl)) ((by simp only [List.length_map]; exact hjl))) ?_
  refine sqc (eO 9 1 (.slice RA j RC) j ((withL ss m s).map Value.string)) 2 hst27 (by
    refine svA fun ρ β W X cx=>?_
    exact dv_storeRow (m:=m) (n:=j) rfl (cx.ou 38) (show _=Value.string s from (cx.ou 37)) (by kernel_rfl) rfl rfl cx (cx.init 2 _ rfl) rfl (by omega) rfl (by rw [← List.map_set,← hpl]; rfl) rfl rfl (fun σ β' X' hs hb hx=>hx)) fun W41 hst41=>?_
  refine then_normal (wp_seq (wp_seq ?_))
  have hwl:(withL ss m s).length=j:=by rw [withL_pad,hpl]; exact hjl
  subst hwl
  refine sqr (sqp [.m 39 8] ?_)
  refine sqk (vi ((sizeL (withL ss m s):Int))) hst41 (fun cx=>⟨_,size_any _ _ (withL ss m s) _ (At.of_own (cx.ri 2 rfl)) hws,(map1 (cx.ou 39))⟩) fun W43 hst43=>?_
  refine sqp [.k 41 (.bool (decide (512 < (sizeL (withL ss m s):Int))))] ?_
  refine then_normal (wds (fun hs45 hs45p=>?_) fun hs45 hs45p=>?_)
  ·refine wp_seq (sqr (sqp [.k 42 (.agg #[vi 0,vi 0, .slice none 0 0])] ?_))
   refine sqst (n:=3) 1 #[vi 0,vi 0, .slice none 0 0] hst43 fun W47 hst47=>?_
   refine sqp [.k 7 (vi 20)] ?_
   refine then_normal (wp_ret (then_ret ?_))
   refine bpr (.tuple #[.agg #[vi 0,vi 0, .slice none 0 0],vi 20]) (results_2 Tryz.results83 (rpa (hst47.blk 1 rfl) 0 3) rpt) ?_
   exact PutPost.bad (by rw [putErr,if_neg (by simp [*]),if_neg (by omega),if_pos (by rw [Int.toNat_natCast]; omega)]) (by decide) hst47.ext
  refine wp_skip (then_normal (wp_seq (wp_region_Y [0,1,0,4,0,16,63,127,255] [[],[0],[],[0],[],[2],[],[1]] [[],[],[],[],[],[3],[],[4]] [[],[],[],[],[],[],[],[1]] [.k 43 (vp B3_1), .c 44 (vi k), .k 45 (.pointer (some ⟨B3_1,1,none⟩)), .c 46 (vi l), .k 47 (.slice RA ((withL ss m s).length) RC), .a 48, .a 49, .n, .k 7 (vi 0)] (fun ix σ β X=>match ix with | 0=>True | 1=>True | 2=>True | 3=>True | 4=>True | 5=>σ 48= .slice (sA (β 48)) ((plainL (withL ss m s)).length) ((plainL (withL ss m s)).length)∧X 3=eO 9 1 (.slice (sA (β 48)) ((plainL (withL ss m s)).length) ((plainL (withL ss m s)).length)) ((plainL (withL ss m s)).length) ((plainL (withL ss m s)).map Value.string) | 6=>σ 49= .agg #[vi k,vi l, .slice (sA (β 48)) ((plainL (withL ss m s)).length) ((plainL (withL ss m s)).length)] | 7=>X 4=eB B6_2 102 #[vi k,vi l, .slice (sA (β 48)) ((plainL (withL ss m s)).length) ((plainL (withL ss m s)).length)] | _=>True) [0,2,3,4] [1,3,5,6,7] [(7,8,1,8),(35,0,7,42)] hst43 ?_ ?_ ?_)))
  ·exact fun ix _ _ _ _ _ _ hs hb hx h=>match ix,h with
   | 5,h=>by dsimp only; rw [← hs 48 rfl,← hb 48 rfl,← hx 3 rfl]; exact h
   | 6,h=>by dsimp only; rw [← hs 49 rfl,← hb 48 rfl]; exact h
   | 7,h=>by dsimp only; rw [← hb 48 rfl,← hx 4 rfl]; exact h
   | 0, _ | 1, _ | 2, _ | 3, _ | 4, _ | _+8, _=>trivial
  ·refine ⟨?_,?_,?_,?_,?_,trivial⟩
   ·exact xs4 rfl id fun cx=>run_load1 rfl (by kernel_rfl) (cx.an 0) ((cx.bi 0 rfl).cell 0)
   ·exact xs4 rfl id fun cx=>run_load1 rfl (by kernel_rfl) (cx.an 2) ((cx.bi 0 rfl).cell 1)
   ·refine svA fun ρ β W X cx=>?_
    refine DoesU.call (run_callF (args:=#[.slice RA ((withL ss m s).length) RC]) rfl cx.sees rfl (by kernel_rfl) (map1 (cx.an 4))) ?_
    refine (plain_any _ _ (withL ss m s) _ (At.of_own (cx.ri 2 rfl)) (by have h_:=(hws).1; omega)).mono ?_
    rintro e W1 ⟨rfl,ho,hx⟩
    refine ⟨_,rfl,post_call [eO 9 1 (.slice (some ⟨W.heap.size,0,none⟩) ((plainL (withL ss m s)).length) ((plainL (withL ss m s)).length)) ((plainL (withL ss m s)).length) ((plainL (withL ss m s)).map Value.string)] rfl rfl hx (one_new (eO_new ho)) (List.pairwise_singleton _ _) (fun σ β' X' hs hb hv hN=>?_)⟩
    have hv1:=(hv 48 rfl).1; have hv2:=(hv 48 rfl).2
    exact ⟨hv1.trans (by rw [hv2]; rfl),(by rw [hv2]; exact (List.cons.inj hN).1)⟩
   ·exact sv rfl rfl rfl rfl rfl _ (fun _ _ _ h=>h) (fun β β' h=>by rw [h 48 (by decide)]) fun ρ β W X cx=>run_buildL rfl (pmc (cx.an 1) (pmc (cx.an 3) (pmc (dTn (cx.an 5)).1 pmn))) (by kernel_rfl)
   ·refine svA fun ρ β W X cx=>?_
    exact dv_store (n:=3) rfl (cx.ou 6) (dTn (cx.an 6)) (by kernel_rfl) (by kernel_rfl) (by kernel_rfl) cx (cx.init 1 _ rfl) rfl (nle rfl) (by kernel_rfl) rfl rfl rfl (fun σ β' X' hs hb hx=>by rw [hb 48]; exact hx)
  intro σ β X W49 hD hst49 fr hfr
  obtain ⟨A48_49,hu_A48_49⟩:∃ z,sA (β 48)=z:=⟨_,rfl⟩
  simp only [exq 3 ((dTn (hD 5 lq)).2),exq 4 ((dTn (hD 7 lq))),hu_A48_49] at hst49
  simp only [ed 48 ((dTn (hD 5 lq)).1),ed 49 ((dTn (hD 6 lq))),hu_A48_49] at hfr
  clear hD hu_A48_49; subst hfr; clear σ β X
  refine then_normal (wp_ret ?_)
  refine bpr (.tuple #[.agg #[vi k,vi l, .slice A48_49 ((plainL (withL ss m s)).length) ((plainL (withL ss m s)).length)],vi 0]) (results_2 Tryz.results83 (rpa (hst49.blk 3 rfl) 0 3) rpt) ?_
  exact PutPost.good (by rw [putErr,if_neg (by simp [*]),if_neg (by omega),if_neg (by rw [Int.toNat_natCast]; omega)]) ⟨_, _,by rw [Int.toNat_natCast],by rw [Int.toNat_natCast]; exact hst49.own' 2 rfl,hst49.ext⟩
 refine wp_cond_true (show Act.eval _ _= .bool true from (congrArg Value.bool (by rw [hs7]; rfl))) (wp_seq (sqr (sqp [.k 12 (.agg #[vi 0,vi 0, .slice none 0 0])] ?_)))
 refine sqst (n:=3) 1 #[vi 0,vi 0, .slice none 0 0] hst5 fun W51 hst51=>?_
 refine sqp [.k 7 (vi 22)] ?_
 refine then_normal (wp_ret (then_ret ?_))
 refine bpr (.tuple #[.agg #[vi 0,vi 0, .slice none 0 0],vi 22]) (results_2 Tryz.results83 (rpa (hst51.blk 1 rfl) 0 3) rpt) ?_
 exact PutPost.bad (by rw [putErr,if_pos (by assumption)]) (by decide) hst51.ext
theorem SbAt.is {w:World} {b:Nat} {r:Option Nat} {xs:List Value} (h:SbAt w b r xs):Lib.IsBuilderF 167 5 0 b xs w:=by
 obtain ⟨p,v,h2,h3,h4,h5⟩:=h
 have hne:=own_ne h4 h2 (by decide)
 refine Lib.IsBuilderF.of ?_
 rcases h3 with rfl | rfl
 ·exact .inl ⟨Nat.zero_le _,v,h2,h4,hne⟩
 ·exact .inr ⟨Nat.zero_le _,v,h2,h4,hne⟩
theorem sblen_l (b:Nat) (r:Option Nat) (l:List UInt8) (w:World) (h:SbAt w b r (Lib.byteCells l)):Calls Tryz.prog 89 #[.pointer (some ⟨b,0,none⟩)] w (Ret (.int .i64 (l.length:Int)) w):=
 (Tryz.Builder_Len_f 0 b _ w h.is).mono fun _ _ h=>⟨by rw [h.1,byteCells_len],by rw [h.2]; exact Ext.refl _⟩
theorem repeatL_zero (n:Nat):Lib.repeatL [0] n=List.replicate n (0:UInt8):=by
 induction n with
 | zero=>rfl
 | succ n ih=>rw [Lib.repeatL,ih,List.replicate_succ]; rfl
def zerosS (n:Nat):ByteArray:=⟨(List.replicate n (0:UInt8)).toArray⟩
theorem zerosS_l (n:Nat):(zerosS n).data.toList=List.replicate n 0:=rfl
theorem zerosS_size (n:Nat):(zerosS n).size=n:=by simp [zerosS,ByteArray.size]
theorem repz_any (n:Nat) (w:World) (h:n≤1000000):Calls Tryz.prog 88 #[.string ⟨#[0]⟩, .int .i64 (n:Int)] w (Ret (.string (zerosS n)) w):=by
 refine (Tryz.strings_Repeat ⟨#[0]⟩ n w (by omega) (by show 1*n≤ _; omega)).mono ?_
 rintro e w' ⟨rfl,hx⟩
 refine ⟨?_,hx⟩
 have e1:(⟨#[0]⟩:ByteArray).data.toList=[0]:=rfl
 rw [e1,repeatL_zero]; rfl
theorem repz_n (x:Int) (n:Nat) (w:World) (h:n≤1000000) (hx:x=n):Calls Tryz.prog 88 #[.string ⟨#[0]⟩, .int .i64 x] w (Ret (.string (zerosS n)) w):=by
 rw [hx]; exact repz_any n w h
theorem textO_le {s:ByteArray} (h:s.size≤400):(textO s).size≤402:=by
 have:=putS_size (s.size:Int) 2 (by omega)
 rw [textO,ByteArray.size_append,this]; omega
/-- a page's bytes, or none and the error -/
def BytesPost (k l:Int) (ss:List ByteArray) (w:World):Ending→World→Prop:=
 if rightB k l ss=true then Ret (.tuple #[.string (bytesF k l (plainL ss)), .int .i64 0]) w else Ret (.tuple #[.string ⟨#[]⟩, .int .i64 22]) w
theorem fin_bytes {k l:Int} {ss:List ByteArray} {w w':World} (hr:rightB k l ss=true) (hx:Ext w w'):BytesPost k l ss w (.returned (.tuple #[.string (putS (sumF (baOf (bodyL k l (plainL ss))):Int) 4++baOf (bodyL k l (plainL ss))), .int .i64 0])) w':=by
 rw [BytesPost,if_pos hr]; exact ⟨rfl,hx⟩
theorem pgbytes_any (k l:Int) (A:Option Addr) (c:Nat) (ss:List ByteArray) (w:World) (hA:At w A (ss.map Value.string)) (hS:Small ss):
  Calls Tryz.prog 47 #[.agg #[.int .i64 k, .int .i64 l, .slice A ss.length c]] w (BytesPost k l ss w):=by
 go_enter Tryz.func47,Tryz.ntmps47
 have hst0:=St.start w
 refine wp_seq (sqr ?_)
 refine sqbx #[vi k,vi l, .slice A ss.length c] hst0 fun B1_1 W1 hst1=>?_
 refine sqp [.k 2 (.string ⟨#[]⟩), .k 3 (vi 0)] ?_
 refine then_normal (wp_seq (wp_seq (sqr ?_)))
 refine sqlb 0 3 hst1 ?_
 refine sqk (.bool (rightB k l ss)) hst1 (fun cx=>⟨_,right_any k l _ _ ss _ (hA.ext cx.upd.to_ext) hS,(map1 (cx.ou 8))⟩) fun W5 hst5=>?_
 refine sqp [.k 10 (.bool (!(rightB k l ss)))] ?_
 refine then_normal ?_
 rcases Bool.eq_false_or_eq_true (rightB k l ss) with hs7 | hs7
 ·refine wp_cond_false (show Act.eval _ _= .bool false from (congrArg Value.bool (by rw [hs7]; rfl))) (wp_skip (then_normal (wp_seq (sqr (sqal #[.pointer none, .slice none 0 0] hst5 fun B4_8 W8 hst8=>?_)))))
  refine then_normal (wp_seq (sqr (sqp [.k 11 (.pointer (some ⟨B1_1,2,none⟩))] ?_)))
  refine sqld 0 hst8 ?_
  refine sqk1 (fun A13_11=> .slice A13_11 ((plainL ss).length) ((plainL ss).length)) (fun A13_11=>eO 9 1 (.slice A13_11 ((plainL ss).length) ((plainL ss).length)) ((plainL ss).length) ((plainL ss).map Value.string)) hst8 (fun cx=>⟨_,(plain_any _ _ ss _ (hA.ext cx.upd.to_ext) (by have h_:=(hS).1; omega)).mono (by rintro e W1 ⟨rfl,ho,hx⟩; exact ⟨_,rfl,St.one hx (eO_new ho)⟩),(map1 (cx.ou 12))⟩) fun A13_11 W11 hst11=>?_
  refine sqp [.m 5 13] ?_
  refine then_normal (wp_seq ?_)
  have hpar:=right_parts (by assumption:rightB k l ss=true)
  have hT:6+sizeT (plainL ss)≤504:=by have h_:=hpar.2.2.2; rw [sizeL] at h_; omega
  have hpn:(plainL ss).length≤24:=by rw [plainL_len]; exact Nat.le_trans (trimN_le ss _) hpar.2.2.1.1
  have hp1:=putS_size k 1 (by omega)
  have hp2:=putS_size l 4 (by omega)
  have hp3:=putS_size ((plainL ss).length:Int) 1 (by omega)
  have hp4:((putS k 1)++(putS l 4)).size=5:=by rw [ByteArray.size_append,hp1,hp2]
  have hp5:(((putS k 1)++(putS l 4))++(putS ((plainL ss).length:Int) 1)).size=6:=by rw [ByteArray.size_append,hp3,hp4]
  refine wp_region_Y [0,1,3,0,8,31,63,0,128,447,1023,2047] [[],[0],[],[],[0],[],[],[],[],[],[],[1]] [[],[],[],[],[],[],[],[],[],[],[],[3]] [[],[],[],[],[],[],[],[],[],[],[],[1]] [.k 14 (vp B1_1), .c 15 (vi k), .c 16 (.string (putS k 1)), .k 17 (.pointer (some ⟨B1_1,1,none⟩)), .c 18 (vi l), .c 19 (.string (putS l 4)),tS 20 (putS k 1) (putS l 4) (by omega), .k 21 (.slice A13_11 ((plainL ss).length) ((plainL ss).length)), .k 22 (vi (((plainL ss).length:Int))), .c 23 (.string (putS ((plainL ss).length:Int) 1)),tS 24 ((putS k 1)++(putS l 4)) (putS ((plainL ss).length:Int) 1) (by omega), .a 25] (fun ix σ β X=>match ix with | 0=>True | 1=>True | 2=>True | 3=>True | 4=>True | 5=>True | 6=>True | 7=>True | 8=>True | 9=>True | 10=>True | 11=>σ 25= .tuple #[vi (((((putS k 1)++(putS l 4))++(putS ((plainL ss).length:Int) 1)).size:Int)), .nilIface]∧X 3=eBu B4_8 (rO (X 3)) ((((putS k 1)++(putS l 4))++(putS ((plainL ss).length:Int) 1)).data.toList) | _=>True) [0,2,3] [1,2,4,5,9,11] [(14,0,12,26)] hst11 ?_ ?_ ?_
  ·exact fun ix _ _ _ _ _ _ hs hb hx h=>match ix,h with
   | 11,h=>by dsimp only; rw [← hs 25 rfl,← hx 3 rfl]; exact h
   | 0, _ | 1, _ | 2, _ | 3, _ | 4, _ | 5, _ | 6, _ | 7, _ | 8, _ | 9, _ | 10, _ | _+12, _=>trivial
  ·refine ⟨?_,?_,?_,?_,?_,?_,trivial⟩
   ·exact xs4 rfl id fun cx=>run_load1 rfl (by kernel_rfl) (cx.an 0) ((cx.bi 0 rfl).cell 0)
   ·exact xsc rfl id rfl rfl fun cx=>⟨_,oput1_any k _,(map2 (cx.an 1) (cx.co _))⟩
   ·exact xs4 rfl id fun cx=>run_load1 rfl (by kernel_rfl) (cx.an 3) ((cx.bi 0 rfl).cell 1)
   ·exact xsc rfl id rfl rfl fun cx=>⟨_,oput4_any l _,(map2 (cx.an 4) (cx.co _))⟩
   ·exact xsc rfl id rfl rfl fun cx=>⟨_,oput1_any ((plainL ss).length:Int) _,(map2 (cx.an 8) (cx.co _))⟩
   ·refine svA fun ρ β W X cx=>?_
    refine DoesU.call (run_callF (args:=#[vp B4_8, .string (((putS k 1)++(putS l 4))++(putS ((plainL ss).length:Int) 1))]) rfl cx.sees rfl (by kernel_rfl) (map2 (cx.ou 4) (cx.an 10))) ?_
    refine (sbw_l _ _ [] _ _ (SbAt.fresh (cx.bi 1 rfl)) (by simp only [List.length_append,List.length_nil,headL_len,itemsL_len,ByteArray.size_append,zerosS_size,zerosS_l,List.length_replicate]; omega)).mono ?_
    rintro e W1 ⟨rfl,hu⟩
    refine ⟨_,rfl,post_sb (by rw [(cx.init 1 _ rfl)]; rfl) rfl rfl hu (fun σ β' X' hs hb hv hx=>?_)⟩
    exact ⟨(hv 25 rfl).1,hx⟩
  intro σ β X W13 hD hst13 fr hfr
  have xX3:X 3= _:=(dTn (hD 11 lq)).2
  obtain ⟨r3_13,hu_r3_13⟩:∃ z,rO (X 3)=z:=⟨_,rfl⟩
  rw [hu_r3_13] at xX3
  clear hu_r3_13
  simp only [xX3] at hst13
  simp only [ed 25 ((dTn (hD 11 lq)).1)] at hfr
  clear hD xX3; subst hfr; clear σ β X
  refine then_normal (wp_seq (wp_seq (sqr (sqp [.m 26 5, .k 27 (vi (((plainL ss).length:Int))), .k 28 (vi 0)] ?_))))
  refine then_normal (wp_block ?_)
  have hh0:(((putS k 1)++(putS l 4))++(putS ((plainL ss).length:Int) 1)).data.toList=headL k l (plainL ss).length++itemsL ((plainL ss).take 0):=by simp [headL,itemsL,bl]
  rw [hh0] at hst13
  refine wp_loopT (fun t_ mz az W=>∃ j:Nat,∃ rb:Option Nat,j≤(plainL ss).length∧mz=(plainL ss).length - j∧az=⟨(ovr (jv az) [(7,7,1,[]),(20,28,0,[vi ((j:Int))]),(0,29,7,[])] t_).toArray,[]⟩∧St w [] [eB B1_1 102 #[vi k,vi l, .slice A ss.length c],eO 9 1 (.slice A13_11 ((plainL ss).length) ((plainL ss).length)) ((plainL ss).length) ((plainL ss).map Value.string),eBu B4_8 rb (headL k l (plainL ss).length++itemsL ((plainL ss).take j))] W) ((plainL ss).length - 0) ?_ ?_
  · -- the loop begins
    exact ⟨0,r3_13,by omega,rfl,(by kernel_rfl),hst13.pk [0,1,2]⟩
  rintro n17 a17 W17 ⟨j,rb,hj,rfl,hj_,hst17⟩
  refine ovz hj_ fun u17_=>?_
  have hil:=sizeT_take_le (plainL ss) j
  refine wp_seq (sqr (sqp [.k 29 (.bool (decide ((j:Int) < ((plainL ss).length:Int))))] ?_))
  refine then_normal (wp_seq (wds (fun hs19 hs19p=>?_) fun hs19 hs19p=>?_))
  ·refine wp_skip (then_normal (wp_seq (wp_block (wp_seq (sqr ?_)))))
   refine sql (.pointer (some ((ad A13_11).add j))) hst17 (fun cx=>run_indexSl (e:=9) (m:=j) rfl (by kernel_rfl) (by kernel_rfl) (cx.ou 26) (cx.ou 28) (by omega) (by omega) (At.of_own (cx.ri 1 rfl)) (by simp)) ?_
   refine sql (.string (((plainL ss)).getD j ByteArray.empty)) hst17 (fun cx=>run_load1 rfl (by kernel_rfl) (cx.ou 30) (At.cellAd (At.of_own (cx.ri 1 rfl)) (getD_str (by omega)))) ?_
   refine sqp [.m 7 31] ?_
   refine then_normal ?_
   have hx4:((plainL ss).getD j ByteArray.empty).size≤400:=by have h_:=hpar.2.2.1.2 ((plainL ss)[j]'(by omega)) (List.mem_of_mem_take (List.getElem_mem _)); simpa [show j < (plainL ss).length by omega] using h_
   have hto:=textO_le hx4
   refine sqr (sqp [.m 32 7] ?_)
   refine sqk (.string (textO (((plainL ss)).getD j ByteArray.empty))) hst17 (fun cx=>⟨_,otext_any (((plainL ss)).getD j ByteArray.empty) _ (by omega),(map1 (cx.ou 32))⟩) fun W24 hst24=>?_
   refine sqc0s (fun X_=>rO X_) (.tuple #[vi (((textO (((plainL ss)).getD j ByteArray.empty)).size:Int)), .nilIface]) (fun r3_25=>eBu B4_8 r3_25 ((headL k l (plainL ss).length++itemsL ((plainL ss).take j))++(textO (((plainL ss)).getD j ByteArray.empty)).data.toList)) 2 hst24 (by
     refine svA fun ρ β W X cx=>?_
     refine DoesU.call (run_callF (args:=#[vp B4_8, .string (textO (((plainL ss)).getD j ByteArray.empty))]) rfl cx.sees rfl (by kernel_rfl) (map2 (cx.ou 4) (cx.ou 33))) ?_
     refine (sbw_l _ _ (headL k l (plainL ss).length++itemsL ((plainL ss).take j)) _ _ (cx.sb (cx.init 2 _ rfl) rfl) (by simp only [List.length_append,List.length_nil,headL_len,itemsL_len,ByteArray.size_append,zerosS_size,zerosS_l,List.length_replicate]; omega)).mono ?_
     rintro e W1 ⟨rfl,hu⟩
     refine ⟨_,rfl,post_sb (by rw [(cx.init 2 _ rfl)]; rfl) rfl rfl hu (fun σ β' X' hs hb hv hx=>?_)⟩
     exact ⟨(hv 34 rfl).1,hx⟩) fun r3_25 W25 hst25=>?_
   refine blk_normal (then_normal (sqr (sqp [sI 35 ((j:Int)+1) (by omega), .m 28 35] ?_)))
   refine then_normal ?_
   have hq28:(headL k l (plainL ss).length++itemsL ((plainL ss).take j))++(textO (((plainL ss)).getD j ByteArray.empty)).data.toList=headL k l (plainL ss).length++itemsL ((plainL ss).take (j+1)):=by rw [itemsL_snoc _ j (by omega),← List.append_assoc]; simp [bl,textO,textB,show j < (plainL ss).length by omega]
   rw [hq28] at hst25
   refine ⟨(plainL ss).length - ((j+1)),by omega,?_⟩
   exact ⟨(j+1),r3_25,by omega,rfl,(by kernel_rfl),hst25.pk [0,1,2]⟩
  refine wp_exit (then_exit (then_exit (blk_eq (then_normal (wp_seq ?_)))))
  have hje:j=(plainL ss).length:=by omega
  have hq29:headL k l (plainL ss).length++itemsL ((plainL ss).take j)=headL k l (plainL ss).length++itemsL (plainL ss):=by rw [hje,List.take_length]
  rw [hq29] at hst17
  have hL6:(headL k l (plainL ss).length++itemsL (plainL ss)).length=6+sizeT (plainL ss):=by rw [List.length_append,headL_len,itemsL_len]
  refine sqr (sqk (vi (((headL k l (plainL ss).length++itemsL (plainL ss)).length:Int))) hst17 (fun cx=>⟨_,sblen_l _ _ (headL k l (plainL ss).length++itemsL (plainL ss)) _ (cx.sb (cx.init 2 _ rfl) rfl),(map1 (cx.ou 4))⟩) fun W30 hst30=>?_)
  refine sqp [sI 37 (504 - ((headL k l (plainL ss).length++itemsL (plainL ss)).length:Int)) (by omega)] ?_
  refine sqk (.string (zerosS (504 - (6+sizeT (plainL ss))))) hst30 (fun cx=>⟨_,repz_n (504 - ((headL k l (plainL ss).length++itemsL (plainL ss)).length:Int)) (504 - (6+sizeT (plainL ss))) _ (by omega) (by simp only [List.length_append,headL_len,itemsL_len]; omega),(map2 (cx.co _) (cx.ou 37))⟩) fun W32 hst32=>?_
  refine sqc0s (fun X_=>rO X_) (.tuple #[vi (((zerosS (504 - (6+sizeT (plainL ss)))).size:Int)), .nilIface]) (fun r3_33=>eBu B4_8 r3_33 ((headL k l (plainL ss).length++itemsL (plainL ss))++(zerosS (504 - (6+sizeT (plainL ss)))).data.toList)) 2 hst32 (by
    refine svA fun ρ β W X cx=>?_
    refine DoesU.call (run_callF (args:=#[vp B4_8, .string (zerosS (504 - (6+sizeT (plainL ss))))]) rfl cx.sees rfl (by kernel_rfl) (map2 (cx.ou 4) (cx.ou 38))) ?_
    refine (sbw_l _ _ (headL k l (plainL ss).length++itemsL (plainL ss)) _ _ (cx.sb (cx.init 2 _ rfl) rfl) (by simp only [List.length_append,List.length_nil,headL_len,itemsL_len,ByteArray.size_append,zerosS_size,zerosS_l,List.length_replicate]; omega)).mono ?_
    rintro e W1 ⟨rfl,hu⟩
    refine ⟨_,rfl,post_sb (by rw [(cx.init 2 _ rfl)]; rfl) rfl rfl hu (fun σ β' X' hs hb hv hx=>?_)⟩
    exact ⟨(hv 39 rfl).1,hx⟩) fun r3_33 W33 hst33=>?_
  refine then_normal (wp_seq (sqr (sqp [.k 40 (.pointer (some ⟨B1_1,1,none⟩))] ?_)))
  refine sqld 0 hst33 ?_
  refine sqk (.string (putS l 4)) hst33 (fun cx=>⟨_,oput4_any l _,(map2 (cx.ou 41) (cx.co _))⟩) fun W36 hst36=>?_
  refine sqc0s (fun X_=>rO X_) (.tuple #[vi (((putS l 4).size:Int)), .nilIface]) (fun r3_37=>eBu B4_8 r3_37 (((headL k l (plainL ss).length++itemsL (plainL ss))++(zerosS (504 - (6+sizeT (plainL ss)))).data.toList)++(putS l 4).data.toList)) 2 hst36 (by
    refine svA fun ρ β W X cx=>?_
    refine DoesU.call (run_callF (args:=#[vp B4_8, .string (putS l 4)]) rfl cx.sees rfl (by kernel_rfl) (map2 (cx.ou 4) (cx.ou 42))) ?_
    refine (sbw_l _ _ ((headL k l (plainL ss).length++itemsL (plainL ss))++(zerosS (504 - (6+sizeT (plainL ss)))).data.toList) _ _ (cx.sb (cx.init 2 _ rfl) rfl) (by simp only [List.length_append,List.length_nil,headL_len,itemsL_len,ByteArray.size_append,zerosS_size,zerosS_l,List.length_replicate]; omega)).mono ?_
    rintro e W1 ⟨rfl,hu⟩
    refine ⟨_,rfl,post_sb (by rw [(cx.init 2 _ rfl)]; rfl) rfl rfl hu (fun σ β' X' hs hb hv hx=>?_)⟩
    exact ⟨(hv 43 rfl).1,hx⟩) fun r3_37 W37 hst37=>?_
  refine then_normal (wp_seq ?_)
  have hq38:((headL k l (plainL ss).length++itemsL (plainL ss))++(zerosS (504 - (6+sizeT (plainL ss)))).data.toList)++(putS l 4).data.toList=bodyL k l (plainL ss):=rfl
  rw [hq38] at hst37
  have hbl:=bodyL_len k l (plainL ss) hT
  have hbne:bodyL k l (plainL ss)≠[]:=fun h=>by rw [h] at hbl; simp at hbl
  have hsl:=sumF_lt (baOf (bodyL k l (plainL ss)))
  have hp7:=putS_size (sumF (baOf (bodyL k l (plainL ss))):Int) 4 (by omega)
  have hp8:(baOf (bodyL k l (plainL ss))).size=508:=by rw [baOf_size,hbl]
  refine sqr ?_
  refine sqc0 (.string (baOf (bodyL k l (plainL ss)))) (eZb B4_8 r3_37 (bodyL k l (plainL ss))) 2 hst37 (by
    refine svA fun ρ β W X cx=>?_
    refine DoesU.call (run_callF (args:=#[vp B4_8]) rfl cx.sees rfl (by kernel_rfl) (map1 (cx.ou 4))) ?_
    refine (sbstr_z _ _ (bodyL k l (plainL ss)) _ (SbAt.z (cx.sb (cx.init 2 _ rfl) rfl) hbne) hbne (by omega)).mono ?_
    rintro e W1 ⟨rfl,hz,hu⟩
    refine ⟨_,rfl,post_chg (E:=eBu B4_8 r3_37 (bodyL k l (plainL ss))) (E':=eZb B4_8 r3_37 (bodyL k l (plainL ss))) (cx.init 2 _ rfl) rfl rfl hu hz (eZb_loc _ _ _) (fun k hk=>⟨hk,hz.lt k hk⟩) (fun σ β' X' hs hb hv hx=>?_)⟩
    exact ⟨(hv 44 rfl).1,hx⟩) fun W39 hst39=>?_
  refine sqk (.int .u32 ((sumF (baOf (bodyL k l (plainL ss))):Int))) hst39 (fun cx=>⟨_,osum_any (baOf (bodyL k l (plainL ss))) _ (by rw [baOf_size]; omega),(map1 (cx.ou 44))⟩) fun W40 hst40=>?_
  refine sqp [sW 46 .i64 (sumF (baOf (bodyL k l (plainL ss))):Int) (sumF (baOf (bodyL k l (plainL ss))):Int) (IntWalk.i64_in _ (by omega))] ?_
  refine sqk (.string (putS (sumF (baOf (bodyL k l (plainL ss))):Int) 4)) hst40 (fun cx=>⟨_,oput4_any (sumF (baOf (bodyL k l (plainL ss))):Int) _,(map2 (cx.ou 46) (cx.co _))⟩) fun W42 hst42=>?_
  refine sqc0 (.string (baOf (bodyL k l (plainL ss)))) (eZb B4_8 r3_37 (bodyL k l (plainL ss))) 2 hst42 (by
    refine svA fun ρ β W X cx=>?_
    refine DoesU.call (run_callF (args:=#[vp B4_8]) rfl cx.sees rfl (by kernel_rfl) (map1 (cx.ou 4))) ?_
    refine (sbstr_z _ _ (bodyL k l (plainL ss)) _ (cx.z (cx.init 2 _ rfl) rfl) hbne (by omega)).mono ?_
    rintro e W1 ⟨rfl,hz,hu⟩
    refine ⟨_,rfl,post_chg (E:=eZb B4_8 r3_37 (bodyL k l (plainL ss))) (E':=eZb B4_8 r3_37 (bodyL k l (plainL ss))) (cx.init 2 _ rfl) rfl rfl hu hz (eZb_loc _ _ _) (fun k hk=>⟨hk,hz.lt k hk⟩) (fun σ β' X' hs hb hv hx=>?_)⟩
    exact ⟨(hv 48 rfl).1,hx⟩) fun W43 hst43=>?_
  refine sqp [sS 49 (putS (sumF (baOf (bodyL k l (plainL ss))):Int) 4) (baOf (bodyL k l (plainL ss))) (by omega), .m 2 49, .k 3 (vi 0)] ?_
  refine then_normal (wp_ret ?_)
  refine bpr (.tuple #[.string ((putS (sumF (baOf (bodyL k l (plainL ss))):Int) 4)++(baOf (bodyL k l (plainL ss)))),vi 0]) (results_2 Tryz.results47 rpt rpt) ?_
  exact fin_bytes (by assumption) hst43.ext
 refine wp_cond_true (show Act.eval _ _= .bool true from (congrArg Value.bool (by rw [hs7]; rfl))) (wp_seq (sqr (sqp [.k 2 (.string ⟨#[]⟩), .k 3 (vi 22)] ?_)))
 refine then_normal (wp_ret (then_ret ?_))
 refine bpr (.tuple #[.string ⟨#[]⟩,vi 22]) (results_2 Tryz.results47 rpt rpt) ?_
 show BytesPost k l ss w _ _; rw [BytesPost,hs7]; exact ⟨rfl,hst5.ext⟩
/-- what the bytes of a right page say -/
structure Says (s:ByteArray) (k l:Int) (I:List ByteArray):Prop where
 size:s.size=512
 sum:numS s 0 4=sumF (s.extract 4 512)
 lsn2:s.extract 5 9=s.extract 508 512
 kind:(numS s 4 1:Int)=k
 lsn:(numS s 5 4:Int)=l
 many:numS s 9 1=I.length
 text:∀ j,j < I.length→10+sizeT (I.take j)+2≤s.size∧10+sizeT (I.take j)+2+numS s (10+sizeT (I.take j)) 2≤s.size∧textS s (10+sizeT (I.take j))=I.getD j ByteArray.empty∧10+sizeT (I.take j)+2+numS s (10+sizeT (I.take j)) 2=10+sizeT (I.take (j+1))
 right:rightB k l I=true
 bytes:bytesF k l (plainL I)=s
 plain:plainL I=I
theorem right_plain {k l:Int} {ss:List ByteArray} (hr:rightB k l ss=true):rightB k l (plainL ss)=true:=by
 obtain ⟨hk,hl,⟨h24,h400⟩,h512⟩:=right_parts hr
 have hln:(plainL ss).length≤24:=by rw [plainL_len]; have:=trimN_le ss ss.length; omega
 have hz:sizeL (plainL ss)=sizeL ss:=by rw [sizeL,plain_plain,sizeL]
 have hlg:longB (plainL ss)=false:=by
  rcases h:longB (plainL ss) with _ | _
  ·rfl
  ·rw [longB,List.any_eq_true] at h
   obtain ⟨x,hx,h⟩:=h
   have:=h400 x (List.mem_of_mem_take hx)
   simp at h; omega
 simp [rightB,hk,hl,hln,hlg,hz,h512]
theorem says_bytes {k l:Int} {ss:List ByteArray} (hr:rightB k l ss=true):Says (bytesF k l (plainL ss)) k l (plainL ss):=by
 obtain ⟨hk,hl,⟨h24,h400⟩,h512⟩:=right_parts hr
 have hT:6+sizeT (plainL ss)≤504:=by rw [sizeL] at h512; omega
 have hln:(plainL ss).length≤24:=by rw [plainL_len]; have:=trimN_le ss ss.length; omega
 refine ⟨bytesF_size k l _ hT,by rw [bytes_sum,bytes_rest k l _ hT],by rw [bytes_lsn_s,bytes_end k l _ hT],bytes_kind k l _ hk.1 (by omega),bytes_lsn k l _ hl.1 (by omega),bytes_many k l _ (by omega),fun j hj=>?_,right_plain hr,by rw [plain_plain],plain_plain ss⟩
 have h:=bytes_text k l _ hT j hj
 exact ⟨h.1,h.2.1,by rw [h.2.2.1]; simp [hj],h.2.2.2⟩
theorem numS_lt4 (s:ByteArray) (p:Nat):numS s p 4 < 4294967296:=by
 have h:=numL_lt (s.extract p (p+4)).data.toList
 have h2:(s.extract p (p+4)).data.toList.length≤4:=by
  have:(s.extract p (p+4)).size≤4:=by rw [ByteArray.size_extract]; omega
  show (bl (s.extract p (p+4))).length≤4
  rw [bl_len]; exact this
 have h3:(256:Nat) ^ (s.extract p (p+4)).data.toList.length≤256 ^ 4:=Nat.pow_le_pow_right (by omega) h2
 unfold numS
 omega
theorem pgbytes_s {s:ByteArray} {k l:Int} {I:List ByteArray} (h:Says s k l I) (A:Option Addr) (c:Nat) (w:World) (hA:At w A (I.map Value.string)) (hS:Small I):Calls Tryz.prog 47 #[.agg #[.int .i64 k, .int .i64 l, .slice A I.length c]] w (Ret (.tuple #[.string s, .int .i64 0]) w):=by
 have h2:=pgbytes_any k l A c I w hA hS
 rw [BytesPost,if_pos h.right,h.bytes] at h2
 exact h2
theorem rd_snoc {I:List ByteArray} {j:Nat} (h:j < I.length):(I.take j).map Value.string++[.string (I.getD j ByteArray.empty)]=(I.take (j+1)).map Value.string:=by
 rw [List.take_succ_eq_append_getElem h,List.map_append]; simp [h]
theorem chk_ok {s:ByteArray} {k l:Int} {I:List ByteArray} (hh:Says s k l I):(((numS s 0 4:Int) != (sumF (s.extract 4 s.size):Int))||(!((s.extract 5 9).toList==(s.extract 508 s.size).toList)))=false:=by
 rw [hh.size,hh.sum,hh.lsn2]; simp
theorem pgread_s (s:ByteArray) (k l:Int) (I:List ByteArray) (w:World) (hh:Says s k l I):
  Calls Tryz.prog 48 #[.string s] w (PgPost k l (plainL I) 0 w):=by
 have hsz:=hh.size
 have hn4:=numS_lt4 s 0
 have hS:Small I:=right_small hh.right
 have hTI:sizeT I≤498:=by have h:=(right_parts hh.right).2.2.2; rw [sizeL,hh.plain] at h; omega
 have hI24:I.length≤24:=(right_parts hh.right).2.2.1.1
 go_enter Tryz.func48,Tryz.ntmps48
 have hst0:=St.start w
 refine wp_seq (sqr (sqal #[vi 0,vi 0, .slice none 0 0] hst0 fun B2_1 W1 hst1=>?_))
 refine sqp [.k 3 (vi 0)] ?_
 refine then_normal (wp_seq (wp_seq (sqr (sqp [.m 9 0, .k 10 (vi ((s.size:Int))), .k 11 (.bool ((s.size:Int) != 512))] ?_))))
 refine then_normal (wbs (fun hs6=>?_) fun hs6=>?_)
 ·have hs6p:=bne_iff_ne.1 hs6
  refine wp_seq (sqr (sqp [.k 12 (.agg #[vi 0,vi 0, .slice none 0 0])] ?_))
  refine sqst (n:=3) 0 #[vi 0,vi 0, .slice none 0 0] hst1 fun W8 hst8=>?_
  refine sqp [.k 3 (vi 11)] ?_
  refine then_normal (wp_ret (then_ret ?_))
  refine bpr (.tuple #[.agg #[vi 0,vi 0, .slice none 0 0],vi 11]) (results_2 Tryz.results48 (rpa (hst8.blk 0 rfl) 0 3) rpt) ?_
  exact absurd ‹((s.size:Int) != 512)=true› (by simp [hsz])
 have hs6p:=bne_eq_false_iff_eq.1 hs6
 refine wp_skip (then_normal (wp_seq (sqr (sqp [.m 13 0] ?_))))
 refine sqk1 (fun B14_11=>vp B14_11) (fun B14_11=>eB B14_11 202 #[.string s,vi 0, .bool false]) hst1 (fun cx=>⟨_,(oread_b s _).mono (by rintro e W1 ⟨B4,rfl,⟨hb4,hw4⟩,hx⟩; exact ⟨_,rfl,St.one hx ⟨hb4,eB_loc _ _ _,fun k hk=>by simp [eB] at hk; subst hk; exact ⟨hw4,hb4.lt⟩⟩⟩),(map1 (cx.ou 13))⟩) fun B14_11 W11 hst11=>?_
 refine sqp [.m 4 14] ?_
 refine then_normal (wp_seq (sqr (sqp [.m 15 4] ?_)))
 refine sqkm (vi ((numS s 0 4:Int))) 1 #[.string s,vi 4, .bool false] hst11 (fun cx=>⟨_,(num_ok _ s 0 4 _ ⟨(cx.bi 1 rfl),by omega,by omega⟩ (by omega) (by omega)).mono (by rintro e W1 ⟨rfl,hrd,hu⟩; exact ⟨rfl,hu,hrd.1⟩),(map2 (cx.ou 15) (cx.co _))⟩) fun W14 hst14=>?_
 refine sqp [.m 5 16] ?_
 refine then_normal (wp_seq (sqr (sqp [.m 17 4] ?_)))
 refine sqc0 (vi k) (eB B14_11 202 #[.string s,vi 5, .bool false]) 1 hst14 (by
   refine svA fun ρ β W X cx=>?_
   refine DoesU.call (run_callF (args:=#[vp B14_11,vi 1]) rfl cx.sees rfl (by kernel_rfl) (map2 (cx.ou 17) (cx.co _))) ?_
   refine (num_ok _ s 4 1 _ ⟨(cx.bi 1 rfl),by omega,by omega⟩ (by omega) (by omega)).mono ?_
   rintro e W1 ⟨rfl,hrd,hu⟩
   refine ⟨_,rfl,post_mut (cx.init 1 _ rfl) rfl rfl hu hrd.1 (fun σ β' X' hs hb hv hx=>?_)⟩
   exact ⟨(hv 18 rfl).1.trans (congrArg (Value.int .i64) hh.kind),hx⟩) fun W17 hst17=>?_
 refine sqp [.m 19 4] ?_
 refine sqc0 (vi l) (eB B14_11 202 #[.string s,vi 9, .bool false]) 1 hst17 (by
   refine svA fun ρ β W X cx=>?_
   refine DoesU.call (run_callF (args:=#[vp B14_11,vi 4]) rfl cx.sees rfl (by kernel_rfl) (map2 (cx.ou 19) (cx.co _))) ?_
   refine (num_ok _ s 5 4 _ ⟨(cx.bi 1 rfl),by omega,by omega⟩ (by omega) (by omega)).mono ?_
   rintro e W1 ⟨rfl,hrd,hu⟩
   refine ⟨_,rfl,post_mut (cx.init 1 _ rfl) rfl rfl hu hrd.1 (fun σ β' X' hs hb hv hx=>?_)⟩
   exact ⟨(hv 20 rfl).1.trans (congrArg (Value.int .i64) hh.lsn),hx⟩) fun W19 hst19=>?_
 refine sqp [.k 21 (.agg #[vi k,vi l, .slice none 0 0])] ?_
 refine sqal #[vi 0,vi 0, .slice none 0 0] hst19 fun B6_21 W21 hst21=>?_
 refine sqst (n:=3) 2 #[vi k,vi l, .slice none 0 0] hst21 fun W22 hst22=>?_
 refine then_normal (wp_seq (wp_seq (wp_region_Z [0,1,0,4,12,31,63,127,255,127,639,2047,4095] [] [.k 22 (vi ((numS s 0 4:Int))),tW 23 .u32 (numS s 0 4:Int) (numS s 0 4:Int) (IntWalk.u32_in _ (by omega)), .k 24 (.string s), .c 25 (.string (s.extract 4 s.size)), .c 26 (.int .u32 ((sumF (s.extract 4 s.size):Int))), .k 27 (.bool ((numS s 0 4:Int) != (sumF (s.extract 4 s.size):Int))), .k 28 (.bool ((numS s 0 4:Int) != (sumF (s.extract 4 s.size):Int))), .z 29 (!((numS s 0 4:Int) != (sumF (s.extract 4 s.size):Int))) (.string s), .y 30 (!((numS s 0 4:Int) != (sumF (s.extract 4 s.size):Int))) (.string (s.extract 5 9)), .z 31 (!((numS s 0 4:Int) != (sumF (s.extract 4 s.size):Int))) (.string s), .y 32 (!((numS s 0 4:Int) != (sumF (s.extract 4 s.size):Int))) (.string (s.extract 508 s.size)), .y 33 (!((numS s 0 4:Int) != (sumF (s.extract 4 s.size):Int))) (.bool (!((s.extract 5 9).toList==(s.extract 508 s.size).toList))),tO 34 ((numS s 0 4:Int) != (sumF (s.extract 4 s.size):Int)) (!((s.extract 5 9).toList==(s.extract 508 s.size).toList))] [0,1,2] [3,4,8,10,11] [(22,0,13,35)] hst22 ?_ fun W23 hst23=>?_)))
 ·refine ⟨?_,?_,?_,?_,?_,trivial⟩
  ·exact xs4 rfl id fun cx=>run_slice_lo (l:=4) rfl (by kernel_rfl) (cx.an 2) (cx.co _) (by omega) (by omega)
  ·exact xsc rfl id rfl rfl fun cx=>⟨_,osum_any (s.extract 4 s.size) _ (by simp; omega),(map1 (cx.an 3))⟩
  ·exact m2 rfl (fun _ _ _ h=>h) (fun cx=>(cx.an 6)) fun cx hq=>run_slice_lh (l:=5) (m:=9) rfl (by kernel_rfl) (mbv (cx.an 7) hq) (cx.co _) (cx.co _) (by have hq_:=hq; simp only [zB] at hq_; omega) (by have hq_:=hq; simp only [zB] at hq_; omega) (by have hq_:=hq; simp only [zB] at hq_; omega) (by have hq_:=hq; simp only [zB] at hq_; omega)
  ·exact m2 rfl (fun _ _ _ h=>h) (fun cx=>(cx.an 6)) fun cx hq=>run_slice_lo (l:=508) rfl (by kernel_rfl) (mbv (cx.an 9) hq) (cx.co _) (by have hq_:=hq; simp only [zB] at hq_; omega) (by have hq_:=hq; simp only [zB] at hq_; omega)
  ·exact m2 rfl (fun _ _ _ h=>h) (fun cx=>(cx.an 6)) fun cx hq=>run_strne rfl (mbv (cx.an 8) hq) (mbv (cx.an 10) hq)
 refine then_normal (wbs (fun hs24=>?_) fun hs24=>?_)
 ·have hs24p:=hs24
  simp only [zB] at hs24p
  refine wp_seq (sqr (sqp [.k 35 (.agg #[vi 0,vi 0, .slice none 0 0])] ?_))
  refine sqst (n:=3) 0 #[vi 0,vi 0, .slice none 0 0] hst23 fun W26 hst26=>?_
  refine sqp [.k 3 (vi 12)] ?_
  refine then_normal (wp_ret (then_ret ?_))
  refine bpr (.tuple #[.agg #[vi 0,vi 0, .slice none 0 0],vi 12]) (results_2 Tryz.results48 (rpa (hst26.blk 0 rfl) 0 3) rpt) ?_
  exact absurd ((chk_ok hh).symm.trans (by assumption)) (by decide)
 have hs24p:=hs24
 simp only [zB] at hs24p
 obtain ⟨hs24p1,hs24p2⟩:=hs24p
 refine wp_skip (then_normal (wp_seq (wp_seq (sqr (sqp [.m 36 4] ?_)))))
 refine sqc0 (vi ((I.length:Int))) (eB B14_11 202 #[.string s,vi 10, .bool false]) 1 hst23 (by
   refine svA fun ρ β W X cx=>?_
   refine DoesU.call (run_callF (args:=#[vp B14_11,vi 1]) rfl cx.sees rfl (by kernel_rfl) (map2 (cx.ou 36) (cx.co _))) ?_
   refine (num_ok _ s 9 1 _ ⟨(cx.bi 1 rfl),by omega,by omega⟩ (by omega) (by omega)).mono ?_
   rintro e W1 ⟨rfl,hrd,hu⟩
   refine ⟨_,rfl,post_mut (cx.init 1 _ rfl) rfl rfl hu hrd.1 (fun σ β' X' hs hb hv hx=>?_)⟩
   exact ⟨(hv 37 rfl).1.trans (congrArg (fun n:Nat=>Value.int .i64 (n:Int)) hh.many),hx⟩) fun W29 hst29=>?_
 refine sqp [.k 38 (vi 0)] ?_
 refine then_normal (wp_block ?_)
 have hn31:=St.nilrow hst29 9
 simp only [List.cons_append,List.nil_append] at hn31
 refine wp_loopT (fun t_ mz az W=>∃ j:Nat,∃ A:Option Addr,∃ c:Nat,j≤I.length∧mz=I.length - j∧az=⟨(ovr (jv az) [(38,38,0,[vi ((j:Int))]),(0,39,9,[])] t_).toArray,[]⟩∧St w [] [eB B2_1 102 #[vi 0,vi 0, .slice none 0 0],eB B14_11 202 #[.string s,vi (((10+sizeT (I.take j):Nat):Int)), .bool false],eB B6_21 102 #[vi k,vi l, .slice A j c],eO 9 1 (.slice A j c) j ((I.take j).map Value.string)] W) (I.length - 0) ?_ ?_
 · -- the loop begins
   exact ⟨0,none,0,by omega,rfl,(by kernel_rfl),hn31.pk [0,1,2,3]⟩
 rintro n32 a32 W32 ⟨j,A,c,hj,rfl,hj_,hst32⟩
 refine ovz hj_ fun u32_=>?_
 refine wp_seq (sqr (sqp [.k 39 (.bool (decide ((j:Int) < (I.length:Int))))] ?_))
 refine then_normal (wp_seq (wds (fun hs34 hs34p=>?_) fun hs34 hs34p=>?_))
 ·refine wp_skip (then_normal (wp_seq (wp_block ?_)))
  have htj:=hh.text j (by omega)
  refine wp_region_Y [0,1,0,4,12,31,63,127] [[],[2],[],[1],[],[5,3],[],[2]] [[],[],[],[4],[5],[6],[],[7]] [[],[],[],[1],[],[3],[],[2]] [.k 40 (.pointer (some ⟨B6_21,2,none⟩)), .c 41 (.slice A j c), .k 42 (vp B14_11), .a 43, .a 44, .a 45, .k 46 (.pointer (some ⟨B6_21,2,none⟩)), .n] (fun ix σ β X=>match ix with | 0=>True | 1=>True | 2=>True | 3=>σ 43= .string ((I.getD j ByteArray.empty))∧X 4=eB B14_11 202 #[.string s,vi (((10+sizeT (I.take (j+1)):Nat):Int)), .bool false] | 4=>σ 44= .slice (sA (β 44)) 1 1∧X 5=eO 9 1 (.slice (sA (β 44)) 1 1) 1 ([.string ((I.getD j ByteArray.empty))]) | 5=>σ 45= .slice (sA (β 45)) (j+1) (sC (β 45))∧X 6=eO 9 1 (.slice (sA (β 45)) (j+1) (sC (β 45))) (j+1) ((I.take (j+1)).map Value.string) | 6=>True | 7=>X 7=eB B6_21 102 #[vi k,vi l, .slice (sA (β 45)) (j+1) (sC (β 45))] | _=>True) [0,4,5,6,7] [1,3,4,5,7] [(40,0,7,47)] hst32 ?_ ?_ ?_
  ·exact fun ix _ _ _ _ _ _ hs hb hx h=>match ix,h with
   | 3,h=>by dsimp only; rw [← hs 43 rfl,← hx 4 rfl]; exact h
   | 4,h=>by dsimp only; rw [← hs 44 rfl,← hb 44 rfl,← hx 5 rfl]; exact h
   | 5,h=>by dsimp only; rw [← hs 45 rfl,← hb 45 rfl,← hx 6 rfl]; exact h
   | 7,h=>by dsimp only; rw [← hb 45 rfl,← hx 7 rfl]; exact h
   | 0, _ | 1, _ | 2, _ | 6, _ | _+8, _=>trivial
  ·refine ⟨?_,?_,?_,?_,?_,trivial⟩
   ·exact xs4 rfl id fun cx=>run_load1 rfl (by kernel_rfl) (cx.an 0) ((cx.bi 2 rfl).cell 2)
   ·refine svA fun ρ β W X cx=>?_
    refine DoesU.call (run_callF (args:=#[vp B14_11]) rfl cx.sees rfl (by kernel_rfl) (map1 (cx.an 2))) ?_
    refine (text_ok _ s (10+sizeT (I.take j)) _ ⟨(cx.bi 1 rfl),by omega,by omega⟩ htj.1 htj.2.1).mono ?_
    rintro e W1 ⟨rfl,hrd,hu⟩
    have hb9:=hrd.1
    rw [htj.2.2.2] at hb9
    refine ⟨_,rfl,post_mut (cx.init 1 _ rfl) rfl rfl hu hb9 (fun σ β' X' hs hb hv hx=>?_)⟩
    exact ⟨(hv 43 rfl).1.trans (congrArg Value.string htj.2.2.1),hx⟩
   ·refine svA fun ρ β W X cx=>?_
    have fF43:ρ (.tmp 43)= .string ((I.getD j ByteArray.empty)):=(dTn (cx.an 3)).1
    exact dv_lit (e:=9) (xs:=[.string ((I.getD j ByteArray.empty))]) rfl (by simp [go_sem,fF43]) rfl (by decide) rfl rfl (fun σ β' X' hs hb hv hx=>⟨hv,hx⟩)
   ·refine svA fun ρ β W X cx=>?_
    obtain ⟨i0,hi0,hz0,hz1,hz2⟩:=info_parts Tryz.infoStr
    refine dv_append (n:=j) (m:=1) (nm:=j+1) (xs:=(I.take j).map Value.string) (news:=[.string ((I.getD j ByteArray.empty))]) (xs':=(I.take (j+1)).map Value.string) rfl (ty:=56) rfl (by kernel_rfl) hi0 hz0 hz1 hz2 rfl (cx.an 1) cx (cx.init 3 _ rfl) rfl (dTn (cx.an 4)).1 (by first | (simp; done) | (simp; omega)) (At.of_own (cx.row (dTn (cx.an 4)).2 rfl)) (by simp [Value.oneCell']) (by simp only [maxLen]; omega) (by omega) rfl rfl rfl (by omega) (rd_snoc (by omega)) (fun σ β' X' hs hb hv hx=>?_)
    exact ⟨hv,hx⟩
   ·refine svA fun ρ β W X cx=>?_
    exact dv_store (n:=1) rfl (cx.an 6) (dTn (cx.an 5)).1 (by kernel_rfl) (by kernel_rfl) (by kernel_rfl) cx (cx.init 2 _ rfl) rfl (nle rfl) (by kernel_rfl) rfl rfl rfl (fun σ β' X' hs hb hx=>by rw [hb 45]; exact hx)
  intro σ β X W35 hD hst35 fr hfr
  obtain ⟨A44_35,hu_A44_35⟩:∃ z,sA (β 44)=z:=⟨_,rfl⟩
  obtain ⟨A45_35,hu_A45_35⟩:∃ z,sA (β 45)=z:=⟨_,rfl⟩
  obtain ⟨c45_35,hu_c45_35⟩:∃ z,sC (β 45)=z:=⟨_,rfl⟩
  simp only [exq 4 ((dTn (hD 3 lq)).2),exq 5 ((dTn (hD 4 lq)).2),exq 6 ((dTn (hD 5 lq)).2),exq 7 ((dTn (hD 7 lq))),hu_A44_35,hu_A45_35,hu_c45_35] at hst35
  simp only [ed 43 ((dTn (hD 3 lq)).1),ed 44 ((dTn (hD 4 lq)).1),ed 45 ((dTn (hD 5 lq)).1),hu_A44_35,hu_A45_35,hu_c45_35] at hfr
  clear hD hu_A44_35 hu_A45_35 hu_c45_35; subst hfr; clear σ β X
  refine blk_normal (then_normal (sqr (sqp [sI 47 ((j:Int)+1) (by omega), .m 38 47] ?_)))
  refine then_normal ?_
  refine ⟨I.length - ((j+1)),by omega,?_⟩
  exact ⟨(j+1),A45_35,c45_35,by omega,rfl,(by kernel_rfl),hst35.pk [0,1,4,3]⟩
 refine wp_exit (then_exit (then_exit (blk_eq (then_normal (wp_seq (wp_seq ?_))))))
 obtain rfl:j=I.length:=by omega
 rw [List.take_length] at hst32
 refine sqr ?_
 refine sqlb 2 3 hst32 ?_
 refine sqk (.tuple #[.string s,vi 0]) hst32 (fun cx=>⟨_,pgbytes_s hh _ _ _ (At.of_own (cx.ri 3 rfl)) hS,(map1 (cx.ou 49))⟩) fun W39 hst39=>?_
 refine sqp [.m 48 50, .k 51 (.string s), .k 52 (vi 0), .m 7 51, .m 8 52] ?_
 refine then_normal (wp_seq (sqr (sqp [.m 53 4] ?_)))
 refine sqv (.bool false) hst39 (by
   refine svA fun ρ β W X cx=>?_
   refine DoesU.call (run_callF (args:=#[vp B14_11]) rfl cx.sees rfl (by kernel_rfl) (map1 (cx.ou 53))) ?_
   refine (failed_any _ s (10+sizeT I) false _ ⟨(cx.bi 1 rfl),by omega,by omega⟩).mono ?_
   rintro e W1 ⟨rfl,rfl⟩
   refine ⟨_,rfl,post_call [] rfl rfl (Ext.refl _) (by simp) List.Pairwise.nil (fun σ β' X' hs hb hv hN=>?_)⟩
   have hv1:=(hv 54 rfl).1; have hv2:=(hv 54 rfl).2
   exact hv1.trans rfl) fun W46 hst46=>?_
 refine sqp [.k 55 (.bool false)] ?_
 refine sqgy 55 [56,57] rfl rfl ?_
 refine sqp [.m 56 8, .k 57 (.bool false)] ?_
 refine sqp [.k 58 (.bool false), .k 59 (.bool false)] ?_
 refine sqgy 59 [60,61,62] rfl rfl ?_
 refine sqp [.m 60 7, .m 61 0, .k 62 (.bool (!(s.toList==s.toList)))] ?_
 refine sqp [.k 63 (.bool (!(s.toList==s.toList)))] ?_
 refine then_normal ?_
 rcases Bool.eq_false_or_eq_true (s.toList==s.toList) with hs56 | hs56
 ·refine wp_cond_false (show Act.eval _ _= .bool false from (congrArg Value.bool (by rw [hs56]; rfl))) (wp_skip (then_normal (wp_seq (sqr (sqp [.k 65 (.pointer (some ⟨B6_21,2,none⟩))] ?_)))))
  refine sqld 2 hst46 ?_
  refine sqk1 (fun A67_59=> .slice A67_59 ((plainL I).length) ((plainL I).length)) (fun A67_59=>eO 9 1 (.slice A67_59 ((plainL I).length) ((plainL I).length)) ((plainL I).length) ((plainL I).map Value.string)) hst46 (fun cx=>⟨_,(plain_any _ _ I _ (At.of_own (cx.ri 3 rfl)) (by have h_:=(hS).1; omega)).mono (by rintro e W1 ⟨rfl,ho,hx⟩; exact ⟨_,rfl,St.one hx (eO_new ho)⟩),(map1 (cx.ou 66))⟩) fun A67_59 W59 hst59=>?_
  refine sqp [.k 68 (.pointer (some ⟨B6_21,2,none⟩))] ?_
  refine sqst (n:=1) 2 #[vi k,vi l, .slice A67_59 ((plainL I).length) ((plainL I).length)] hst59 fun W61 hst61=>?_
  refine then_normal (wp_seq (sqr ?_))
  refine sqlb 2 3 hst61 ?_
  refine sqst (n:=3) 0 #[vi k,vi l, .slice A67_59 ((plainL I).length) ((plainL I).length)] hst61 fun W63 hst63=>?_
  refine sqp [.k 3 (vi 0)] ?_
  refine then_normal (wp_ret ?_)
  refine bpr (.tuple #[.agg #[vi k,vi l, .slice A67_59 ((plainL I).length) ((plainL I).length)],vi 0]) (results_2 Tryz.results48 (rpa (hst63.blk 0 rfl) 0 3) rpt) ?_
  exact ⟨_, _,rfl,hst63.own' 4 rfl,hst63.ext⟩
 refine wp_cond_true (show Act.eval _ _= .bool true from (congrArg Value.bool (by rw [hs56]; rfl))) (wp_seq (sqr (sqp [.k 64 (.agg #[vi 0,vi 0, .slice none 0 0])] ?_)))
 refine sqst (n:=3) 0 #[vi 0,vi 0, .slice none 0 0] hst46 fun W66 hst66=>?_
 refine sqp [.k 3 (vi 22)] ?_
 refine then_normal (wp_ret (then_ret ?_))
 refine bpr (.tuple #[.agg #[vi 0,vi 0, .slice none 0 0],vi 22]) (results_2 Tryz.results48 (rpa (hst66.blk 0 rfl) 0 3) rpt) ?_
 exact absurd ‹(s.toList==s.toList)=false› (by simp)
/-- Read gives back what Bytes wrote -/
theorem pgread_any (k l:Int) (ss:List ByteArray) (w:World) (hr:rightB k l ss=true):Calls Tryz.prog 48 #[.string (bytesF k l (plainL ss))] w (PgPost k l (plainL ss) 0 w):=by
 have h:=pgread_s _ k l (plainL ss) w (says_bytes hr)
 rw [plain_plain] at h
 exact h
end
section
open Go.RowKit
theorem put_fit {k l slot:Int} {ss:List ByteArray} {s:ByteArray} {f:FuncId} {args:Array Value} {w:World} (he:putErr k l ss slot s=0) (hc:Calls Tryz.prog f args w (PutPost k l ss slot s w)):Calls Tryz.prog f args w (PgPost k l (plainL (withL ss slot.toNat s)) 0 w):=by
 rw [PutPost,if_pos he] at hc; exact hc
theorem bytes_fit {k l:Int} {ss:List ByteArray} {f:FuncId} {args:Array Value} {w:World} (hr:rightB k l ss=true) (hc:Calls Tryz.prog f args w (BytesPost k l ss w)):Calls Tryz.prog f args w (Ret (.tuple #[.string (bytesF k l (plainL ss)), .int .i64 0]) w):=by
 rw [BytesPost,if_pos hr] at hc; exact hc
theorem fit_small {p:PgS} (h:FitP p):Small p.2.2:=⟨by have:=h.2.2.1; omega,fun s hs=>by have:=h.2.2.2 s hs; omega⟩
theorem fit_put {k l slot n:Int} {ss:List ByteArray} {s:ByteArray} {x:Int} {N:Nat} (hf:FitP (k,l,ss)) (he:FitE N (x,slot,s)) (h0:0≤slot) (hn:0≤n∧n≤1000):putErr k l ss slot s=0:=by
 have h1:=fit_right hf
 have h2:rightB k l (withL ss slot.toNat s)=true:=fit_right ((fit_ed hf he hn).2 h0)
 have h3:=(right_parts h2).2.2.2
 have h4:slot≤9∧s.size≤20:=by
  rcases he.2 with ⟨h, _⟩ | ⟨_,h5,h6⟩
  ·have h:slot= -1:=h
   omega
  ·exact ⟨h5,h6⟩
 rw [putErr,if_neg (by rw [h1]; decide),if_neg (by omega),if_neg (by omega)]
theorem pgdo_f (k l:Int) (A:Option Addr) (c:Nat) (ss:List ByteArray) (x sl:Int) (s:ByteArray) (n:Int) (N:Nat) (w:World) (hA:At w A (ss.map Value.string)) (hf:FitP (k,l,ss)) (he:FitE N (x,sl,s)) (hn:0≤n∧n≤1000):
  Calls Tryz.prog 46 #[.agg #[.int .i64 k, .int .i64 l, .slice A ss.length c], .agg #[.int .i64 x, .int .i64 sl, .string s], .int .i64 n] w (PgPost (edS (k,l,ss) (x,sl,s) n).1 n (edS (k,l,ss) (x,sl,s) n).2.2 0 w):=by
 go_enter Tryz.func46,Tryz.ntmps46
 have hst0:=St.start w
 refine wp_seq (sqr ?_)
 refine sqbx #[vi k,vi l, .slice A ss.length c] hst0 fun B3_1 W1 hst1=>?_
 refine sqbx #[vi x,vi sl, .string s] hst1 fun B4_2 W2 hst2=>?_
 refine sqal #[vi 0,vi 0, .slice none 0 0] hst2 fun B6_3 W3 hst3=>?_
 refine sqp [.k 7 (vi 0)] ?_
 refine then_normal (wp_seq (wp_seq ?_))
 have hr_:=fit_right hf
 have hS:=fit_small hf
 refine sqr ?_
 refine sqlb 0 3 hst3 ?_
 have hd7:(rightB k l ss)=true:=hr_
 refine sqv (.bool true) hst3 (sv_call rfl rfl rfl rfl rfl (fun _ _ _ h=>h.trans (congrArg Value.bool hd7)) fun ρ β W X cx=>⟨_, _,run_callF (args:=#[.agg #[vi k,vi l, .slice A ss.length c]]) rfl cx.sees rfl (by kernel_rfl) (map1 (cx.ou 10)),right_any k l _ _ ss _ (hA.ext cx.upd.to_ext) hS⟩) fun W6 hst6=>?_
 refine sqp [.k 12 (.bool false)] ?_
 refine then_normal (wcf rfl (wp_skip (then_normal (wp_seq (wp_seq (sqr ?_))))))
 have hd11:(decide (n < 0))=false:=(decide_eq_false (by omega))
 refine sqp [.m 14 2, .e 15 (.bool (decide (n < 0))) (.bool false) (congrArg Value.bool hd11), .k 16 (.bool false)] ?_
 refine sqgy 16 [17,18] rfl rfl ?_
 have hd15:(decide (2147483647 < n))=false:=(decide_eq_false (by omega))
 refine sqp [.m 17 2, .e 18 (.bool (decide (2147483647 < n))) (.bool false) (congrArg Value.bool hd15)] ?_
 refine sqp [.k 19 (.bool false)] ?_
 refine then_normal (wcf rfl (wp_skip (then_normal (wp_seq (wp_seq ?_)))))
 rcases he.2 with ⟨hs1_,hs2_⟩ | ⟨h0_,h9_,hs_⟩
 ·have hs1_:sl= -1:=hs1_
  have hs2_:s=kind2:=hs2_
  subst hs1_ hs2_
  have hk0_:=kind2_b.1
  have hk1_:=kind2_b.2.1
  refine sqr (sqp [.k 21 (.pointer (some ⟨B4_2,1,none⟩))] ?_)
  refine sqld 1 hst6 ?_
  have hd20:((-1)==(-1))=true:=(by rfl)
  refine sqp [.e 23 (.bool ((-1)==(-1))) (.bool true) (congrArg Value.bool hd20)] ?_
  refine then_normal (wct rfl (wp_seq (wp_seq (sqr (sqp [.k 24 (.pointer (some ⟨B4_2,2,none⟩))] ?_)))))
  refine sqld 1 hst6 ?_
  have hd25:((kind2.size:Int) != 1)=false:=(by rw [hk1_]; rfl)
  refine sqp [.k 26 (vi ((kind2.size:Int))), .e 27 (.bool ((kind2.size:Int) != 1)) (.bool false) (congrArg Value.bool hd25), .k 28 (.bool false)] ?_
  refine sqgy 28 [29,30,31,32] rfl rfl ?_
  refine sqp [.k 29 (.pointer (some ⟨B4_2,2,none⟩))] ?_
  refine sqld 1 hst6 ?_
  refine sql (.int .u8 (byteI (bl kind2) 0)) hst6 (fun cx=>run_indexS (m:=0) rfl (by kernel_rfl) (cx.ou 30) (cx.co _) (by omega) (by omega)) ?_
  have hd31:(decide (2 < byteI (bl kind2) 0))=false:=(by rw [hk0_]; rfl)
  refine sqp [.e 32 (.bool (decide (2 < byteI (bl kind2) 0))) (.bool false) (congrArg Value.bool hd31)] ?_
  refine sqp [.k 33 (.bool false)] ?_
  refine then_normal (wcf rfl (wp_skip (then_normal (wp_seq (sqr (sqp [.k 35 (.pointer (some ⟨B4_2,2,none⟩))] ?_))))))
  refine sqld 1 hst6 ?_
  refine sql (.int .u8 (byteI (bl kind2) 0)) hst6 (fun cx=>run_indexS (m:=0) rfl (by kernel_rfl) (cx.ou 36) (cx.co _) (by omega) (by omega)) ?_
  refine sqp [sW 38 .i64 (byteI (bl kind2) 0) (byteI (bl kind2) 0) (IntWalk.i64_in _ (by omega)), .m 39 2, .k 40 (.agg #[vi (byteI (bl kind2) 0),vi n, .slice none 0 0])] ?_
  refine sqst (n:=3) 2 #[vi (byteI (bl kind2) 0),vi n, .slice none 0 0] hst6 fun W39 hst39=>?_
  refine sqp [.k 7 (vi 0)] ?_
  refine then_normal (wp_ret (then_ret ?_))
  refine bpr (.tuple #[.agg #[vi (byteI (bl kind2) 0),vi n, .slice none 0 0],vi 0]) (results_2 Tryz.results46 (rpa (hst39.blk 2 rfl) 0 3) rpt) ?_
  rw [show edS (k,l,ss) (x, -1,kind2) n=(byteI (bl kind2) 0,n,[]) from if_pos (show (-1:Int) < 0 by omega)]; exact ⟨none,0,rfl,World.ownsRow_nil _ _ _ _,hst39.ext⟩
 ·have h0_:0≤sl:=h0_
  have h9_:sl≤9:=h9_
  have hs_:s.size≤20:=hs_
  have hpe:=fit_put hf he h0_ hn
  refine sqr (sqp [.k 21 (.pointer (some ⟨B4_2,1,none⟩))] ?_)
  refine sqld 1 hst6 ?_
  have hd44:(sl==(-1))=false:=(beq_eq_false_iff_ne.2 (by omega))
  refine sqp [.e 23 (.bool (sl==(-1))) (.bool false) (congrArg Value.bool hd44)] ?_
  refine then_normal (wcf rfl (wp_skip (then_normal (wp_seq (sqr ?_)))))
  refine sqlb 0 3 hst6 ?_
  refine sqp [.k 43 (.pointer (some ⟨B4_2,1,none⟩))] ?_
  refine sqld 1 hst6 ?_
  refine sqp [.k 45 (.pointer (some ⟨B4_2,2,none⟩))] ?_
  refine sqld 1 hst6 ?_
  refine sqk2 (fun A47_50 c47_50=> .tuple #[.agg #[vi k,vi l, .slice A47_50 ((plainL (withL ss sl.toNat s)).length) c47_50],vi 0]) (fun A47_50 c47_50=>eO 9 1 (.slice A47_50 ((plainL (withL ss sl.toNat s)).length) c47_50) ((plainL (withL ss sl.toNat s)).length) ((plainL (withL ss sl.toNat s)).map Value.string)) hst6 (fun cx=>⟨_,(put_fit hpe (pgput_any k l _ _ ss sl s _ (hA.ext cx.upd.to_ext) hS (by omega))).mono (by rintro e W1 ⟨A4,c4,rfl,ho,hx⟩; exact ⟨_, _,rfl,St.one hx (eO_new ho)⟩),(map3 (cx.ou 42) (cx.ou 44) (cx.ou 46))⟩) fun A47_50 c47_50 W50 hst50=>?_
  refine sqp [.m 41 47, .k 48 (.agg #[vi k,vi l, .slice A47_50 ((plainL (withL ss sl.toNat s)).length) c47_50]), .k 49 (vi 0)] ?_
  refine sqal #[vi 0,vi 0, .slice none 0 0] hst50 fun B8_54 W54 hst54=>?_
  refine sqst (n:=3) 4 #[vi k,vi l, .slice A47_50 ((plainL (withL ss sl.toNat s)).length) c47_50] hst54 fun W55 hst55=>?_
  refine sqp [.m 9 49] ?_
  refine then_normal (wp_seq (wp_seq (sqr (sqp [.m 50 9, .k 51 (.bool true)] ?_))))
  refine then_normal (wct rfl (sqr (sqp [.m 52 2, .k 53 (.pointer (some ⟨B8_54,1,none⟩))] ?_)))
  refine sqst (n:=1) 4 #[vi k,vi n, .slice A47_50 ((plainL (withL ss sl.toNat s)).length) c47_50] hst55 fun W61 hst61=>?_
  refine then_normal (wp_seq (sqr ?_))
  refine sqlb 4 3 hst61 ?_
  refine sqp [.m 55 9] ?_
  refine sqst (n:=3) 2 #[vi k,vi n, .slice A47_50 ((plainL (withL ss sl.toNat s)).length) c47_50] hst61 fun W64 hst64=>?_
  refine sqp [.m 7 55] ?_
  refine then_normal (wp_ret ?_)
  refine bpr (.tuple #[.agg #[vi k,vi n, .slice A47_50 ((plainL (withL ss sl.toNat s)).length) c47_50],vi 0]) (results_2 Tryz.results46 (rpa (hst64.blk 2 rfl) 0 3) rpt) ?_
  rw [show edS (k,l,ss) (x,sl,s) n=(k,n,plainL (withL ss sl.toNat s)) from if_neg (show ¬ sl < 0 by omega)]; exact ⟨_, _,rfl,hst64.own' 3 rfl,hst64.ext⟩
end
section
open Go.RowKit
theorem tkK_one (l:List TaT):∀ u∈l.flatMap tkK,Value.oneCell' u=true:=fun u hu=>by
 obtain ⟨p, _,hp⟩:=List.mem_flatMap.1 hu
 simp only [tkK,List.mem_cons,List.not_mem_nil,or_false] at hp
 rcases hp with rfl | rfl | rfl | rfl<;>rfl
theorem tkK_snoc (l:List TaT) (t:TaT):l.flatMap tkK++tkK t=(l++[t]).flatMap tkK:=by simp
theorem Tryz.infoTkK:(Tryz.prog.info? 120).map (fun i=>(i.zero,i.size,i.bytes))=some (some (.agg #[.string ByteArray.empty, .int .i64 0, .int .i64 0, .int .i64 0]),4,40):=by kernel_rfl
def TkPost (l:List TaT) (w:World) (e:Ending) (w':World):Prop:=∃ A c,e= .returned (.slice A l.length c)∧w'.ownsRow w.heap.size 120 4 (.slice A l.length c) l.length (l.flatMap tkK)∧Ext w w'
/-- a split: the block of the insertion, its pending entries, the edits -/
def CkPost (b:Nat) (cells:Option Addr→Nat→Array Value) (l:List TaT) (eds:List EdT) (w:World) (e:Ending) (w':World):Prop:=∃ A c LA lc,e= .returned (.slice A eds.length c)∧St w [b] [eB b 123 (cells LA lc),eO 120 4 (.slice LA l.length lc) l.length (l.flatMap tkK),eO 67 3 (.slice A eds.length c) eds.length (eds.flatMap edC)] w'
theorem kclone_any (la:Addr) (ln lc:Nat) (lf:List TaT) (w:World) (hL:At w (some la) (lf.flatMap tkK)) (hln:lf.length=ln) (hlnb:ln≤10000):
  Calls Tryz.prog 98 #[.slice ((some la)) ln lc] w (TkPost lf w):=by
 go_enter Tryz.func98,Tryz.ntmps98
 have hst0:=St.start w
 refine wp_seq (sqr (sqp [.k 2 (.slice none 0 0)] ?_))
 refine then_normal (wp_seq (wp_seq (sqr (sqp [.m 3 0, .k 4 (.bool false)] ?_))))
 refine then_normal (wcf rfl (wp_skip (then_normal (wp_seq (sqr ?_)))))
 refine sqli 120 4 0 [] hst0 (@fun ρ β W X cx=>by simp [go_sem]) fun B5_4 W4 hst4=>?_
 refine sqp [.m 6 0] ?_
 refine sqap ln (lf.flatMap tkK) 0 hst4 Tryz.infoTkK (fun cx=>(hL.ext cx.upd.to_ext)) (hl:=by rw [flatLen tkK_len,hln]) (h1:=tkK_one _) fun A7_6 c7_6 W6 hst6=>?_
 refine sqp [.m 2 7] ?_
 refine then_normal (wp_ret ?_)
 refine bpr (.slice A7_6 ln c7_6) (results_1 Tryz.results98 rpt) ?_
 have ho_:=hst6.own' 0 rfl
 rw [← hln] at ho_ ⊢
 exact ⟨_, _,rfl,ho_,hst6.ext⟩
theorem kcut_any (b:Nat) (root pos leaf fro too:Int) (spl:Bool) (la:Addr) (ln lc:Nat) (nd:NoD) (np pg:Int) (EA:Option Addr) (ec:Nat) (lf:List TaT) (w:World) (hb:Blk w b 123 #[.int .i64 root, .int .i64 pos, .int .i64 leaf, .slice ((some la)) ln lc, .int .i64 fro, .int .i64 too, .bool spl]) (hE:∀ W,Upd [b] w W→At W EA (nd.es.flatMap enC)) (hez:∀ e∈nd.es,e.1.size≤1000000) (hnb:nd.es.length≤1000) (hlv:0≤nd.lv∧nd.lv≤255) (hpg:0≤pg∧pg≤1000000) (hes:0 < nd.es.length) (hec:nd.es.length≤ec) (hrt: -1≤nd.right∧nd.right≤1000000) (hhi:nd.high.size≤1000000) (hdd:nd.dead=false) (hL:∀ W,Upd [b] w W→At W (some la) (lf.flatMap tkK)) (hln:lf.length=ln) (hlnb:ln≤10000):
  Calls Tryz.prog 56 #[.pointer (some ⟨b,0,none⟩), .agg #[.int .i64 np, .int .i64 nd.lv, .int .i64 nd.right, .string nd.high, .bool nd.dead, .slice EA nd.es.length ec, .int .i64 ((nd.free:Int))], .int .i64 pg] w (CkPost b (fun LA' lc'=>#[.int .i64 root, .int .i64 pos, .int .i64 leaf, .slice (LA') ((ln+1)) (lc'), .int .i64 ((if nd.lv=0 then np else fro)), .int .i64 ((if nd.lv=0 then pg else too)), .bool ((if nd.lv=0 then true else spl))]) (lf++[(midE nd,nd.lv+1,pg)]) (cutE np nd pg) w):=by
 obtain ⟨hf,hhf⟩:∃ k:Nat,nd.es.length / 2=k:=⟨_,rfl⟩
 have hcl_:=clearE_len np (nd.es.drop hf)
 have hfl_:=freshE_len pg nd.lv nd.right nd.high (nd.es.drop hf)
 have hdl_:(nd.es.drop hf).length=nd.es.length - hf:=List.length_drop
 rw [hdl_] at hcl_ hfl_
 have hez2:∀ e∈nd.es.drop hf,e.1.size≤1000000:=fun e he=>hez e (List.mem_of_mem_drop he)
 have hmz:=getD_size hez2 0
 have st0:=St.lend (E:=eB b 123 #[.int .i64 root, .int .i64 pos, .int .i64 leaf, .slice ((some la)) ln lc, .int .i64 fro, .int .i64 too, .bool spl]) hb (eB_loc _ _ _) (fun k hk=>by simp [eB] at hk; subst hk; exact hb.lt)
 go_enter Tryz.func56,Tryz.ntmps56
 have hst0:=st0
 refine wp_seq (sqr ?_)
 refine sqbx #[vi np,vi nd.lv,vi nd.right, .string nd.high, .bool nd.dead, .slice EA nd.es.length ec,vi ((nd.free:Int))] hst0 fun B4_1 W1 hst1=>?_
 refine sqp [.k 6 (.slice none 0 0)] ?_
 refine then_normal (wp_seq (sqr (sqp [.k 10 (.pointer (some ⟨B4_1,5,none⟩))] ?_)))
 refine sqld 1 hst1 ?_
 refine sqp [.k 12 (vi ((nd.es.length:Int))),sQu 13 .i64 (nd.es.length:Int) 2 ((nd.es.length:Int) / 2) (by rw [Int.tdiv_eq_ediv_of_nonneg (by omega)]; exact IntWalk.i64_in _ (by omega)), .m 7 13] ?_
 refine then_normal (wp_seq ?_)
 obtain ⟨z8_,hN_z8_⟩:∃ z,(nd.es.length:Int) / 2=z:=⟨_,rfl⟩
 rw [hN_z8_]
 obtain rfl:z8_=(hf:Int):=by omega
 refine sqr (sqp [.k 14 (.pointer (some ⟨B4_1,5,none⟩))] ?_)
 refine sqld 1 hst1 ?_
 refine sqp [.m 16 7] ?_
 refine sql (.slice ((if ec=hf then EA else EA.map (·.add (hf*3)))) ((nd.es.length - hf)) ((ec - hf))) hst1 (fun cx=>run_sliceL_lo (e:=89) (sz:=3) (l:=hf) rfl (by kernel_rfl) (by kernel_rfl) (cx.ou 15) (cx.ou 16) (by omega) (by omega)) ?_
 refine sqp [.m 8 17] ?_
 refine then_normal (wp_seq (sqr (sqp [.m 18 2, .k 19 (.pointer (some ⟨B4_1,1,none⟩))] ?_)))
 refine sqld 1 hst1 ?_
 refine sqp [.k 21 (.pointer (some ⟨B4_1,2,none⟩))] ?_
 refine sqld 1 hst1 ?_
 refine sqp [.k 23 (.pointer (some ⟨B4_1,3,none⟩))] ?_
 refine sqld 1 hst1 ?_
 refine sqp [.m 25 8, .k 26 (.agg #[vi 0,vi nd.lv,vi nd.right, .string nd.high, .bool false, .slice ((if ec=hf then EA else EA.map (·.add (hf*3)))) ((nd.es.length - hf)) ((ec - hf)),vi 0])] ?_
 refine sqk2 (fun A27_23 c27_23=> .slice A27_23 ((freshE pg nd.lv nd.right nd.high (nd.es.drop hf)).length) c27_23) (fun A27_23 c27_23=>eO 67 3 (.slice A27_23 ((freshE pg nd.lv nd.right nd.high (nd.es.drop hf)).length) c27_23) ((freshE pg nd.lv nd.right nd.high (nd.es.drop hf)).length) ((freshE pg nd.lv nd.right nd.high (nd.es.drop hf)).flatMap edC)) hst1 (fun cx=>⟨_,(kfresh_any pg 0 nd.lv nd.right 0 nd.high _ _ _ (nd.es.drop hf) _ (At.dropF (ts:=nd.es) enC_len (hE _ cx.upd) hf ec hec) hdl_ hez2 (by omega) (by omega) (by omega) (by omega)).mono (by rintro e W1 ⟨A4,c4,rfl,ho_,hx⟩; exact ⟨_, _,rfl,St.one hx (eO_new (n:=(freshE pg nd.lv nd.right nd.high (nd.es.drop hf)).length) (xs:=(freshE pg nd.lv nd.right nd.high (nd.es.drop hf)).flatMap edC) ho_)⟩),(map2 (cx.ou 18) (cx.ou 26))⟩) fun A27_23 c27_23 W23 hst23=>?_
 refine sqp [.m 9 27] ?_
 refine then_normal (wp_seq (wp_region_Y [0,0,2,6,14,1,33,127,255] [[],[],[],[],[],[],[1],[],[3]] [[],[],[],[],[],[],[3],[],[4]] [[],[],[],[],[],[],[1],[],[3]] [.k 28 (vi pg), .k 29 (.slice ((if ec=hf then EA else EA.map (·.add (hf*3)))) ((nd.es.length - hf)) ((ec - hf))), .c 30 (.pointer (some ((ad ((if ec=hf then EA else EA.map (·.add (hf*3))))).add (0*3)))), .c 31 (.pointer (some ((ad ((if ec=hf then EA else EA.map (·.add (hf*3))))).add (0*3+0)))), .c 32 (.string (((nd.es.drop hf).getD 0 en0).1)), .k 33 (.pointer (some ⟨B4_1,2,none⟩)), .n, .k 34 (.pointer (some ⟨B4_1,3,none⟩)), .n] (fun ix σ β X=>match ix with | 0=>True | 1=>True | 2=>True | 3=>True | 4=>True | 5=>True | 6=>X 3=eB B4_1 84 #[vi np,vi nd.lv,vi pg, .string nd.high, .bool nd.dead, .slice EA nd.es.length ec,vi ((nd.free:Int))] | 7=>True | 8=>X 4=eB B4_1 84 #[vi np,vi nd.lv,vi pg, .string (((nd.es.drop hf).getD 0 en0).1), .bool nd.dead, .slice EA nd.es.length ec,vi ((nd.free:Int))] | _=>True) [0,2,4] [2,3,4,6,8] [(28,0,8,35)] hst23 ?_ ?_ ?_))
 ·exact fun ix _ _ _ _ _ _ hs hb hx h=>match ix,h with
  | 6,h=>by dsimp only; rw [← hx 3 rfl]; exact h
  | 8,h=>by dsimp only; rw [← hx 4 rfl]; exact h
  | 0, _ | 1, _ | 2, _ | 3, _ | 4, _ | 5, _ | 7, _ | _+9, _=>trivial
 ·refine ⟨?_,?_,?_,?_,?_,trivial⟩
  ·exact xs4 rfl id fun cx=>run_indexSlM (e:=89) (m:=0) (sz:=3) rfl (by kernel_rfl) (by kernel_rfl) (cx.an 1) (cx.co _) (by omega) (by omega) (At.dropF (ts:=nd.es) enC_len (hE _ cx.upd) hf ec hec) (flatPos (sz:=3) enC_len (by decide) (by omega))
  ·exact xs4 rfl id fun cx=>run_fieldAd rfl (by kernel_rfl) (cx.an 2)
  ·exact xs4 rfl id fun cx=>run_load1 rfl (by kernel_rfl) (cx.an 3) (At.eltc (f:=enC) (k:=0) enC_len (At.dropF (ts:=nd.es) enC_len (hE _ cx.upd) hf ec hec) (en_get (by rw [List.length_drop]; omega)) rfl)
  ·refine svA fun ρ β W X cx=>?_
   exact dv_store (n:=1) rfl (cx.an 5) (cx.an 0) (by kernel_rfl) (by kernel_rfl) (by kernel_rfl) cx (cx.init 1 _ rfl) rfl (nle rfl) (by kernel_rfl) rfl rfl rfl (fun σ β' X' hs hb hx=>hx)
  ·refine svA fun ρ β W X cx=>?_
   exact dv_store (n:=1) rfl (cx.an 7) (cx.an 4) (by kernel_rfl) (by kernel_rfl) (by kernel_rfl) cx (dTn (cx.an 6)) rfl (nle rfl) (by kernel_rfl) rfl rfl rfl (fun σ β' X' hs hb hx=>hx)
 intro σ β X W25 hD hst25 fr hfr
 simp only [exq 4 ((dTn (hD 8 lq)))] at hst25
 clear hD; subst hfr; clear σ β X
 refine then_normal (wp_seq (wp_region_Y [0,0,2,0,8,30,62,127,255] [[],[],[2],[2],[],[],[],[3,1]] [[],[],[],[],[],[],[3],[4]] [[],[],[],[],[],[],[],[1]] [.k 35 (.slice A27_23 ((freshE pg nd.lv nd.right nd.high (nd.es.drop hf)).length) c27_23), .k 36 (vp B4_1), .c 37 (vi np), .c 38 (.agg #[vi np,vi nd.lv,vi pg, .string (((nd.es.drop hf).getD 0 en0).1), .bool nd.dead, .slice EA nd.es.length ec,vi ((nd.free:Int))]), .c 39 (.string (hdB nd.lv pg nd.dead (((nd.es.drop hf).getD 0 en0).1))), .k 40 (.agg #[vi np,vi 0, .string (hdB nd.lv pg nd.dead (((nd.es.drop hf).getD 0 en0).1))]), .a 41, .a 42, .a 9] (fun ix σ β X=>match ix with | 0=>True | 1=>True | 2=>True | 3=>True | 4=>True | 5=>True | 6=>σ 41= .slice ((some ⟨(pb' (β 41)),0,none⟩)) 1 1∧X 3=eO 67 3 (.slice ((some ⟨(pb' (β 41)),0,none⟩)) 1 1) 1 (edC (np,0,hdB nd.lv pg nd.dead (((nd.es.drop hf).getD 0 en0).1))) | 7=>σ 42= .slice (sA (β 42)) ((freshE pg nd.lv nd.right nd.high (nd.es.drop hf)).length+1) (sC (β 42))∧X 4=eO 67 3 (.slice (sA (β 42)) ((freshE pg nd.lv nd.right nd.high (nd.es.drop hf)).length+1) (sC (β 42))) ((freshE pg nd.lv nd.right nd.high (nd.es.drop hf)).length+1) (((freshE pg nd.lv nd.right nd.high (nd.es.drop hf))++[(np,0,hdB nd.lv pg nd.dead (((nd.es.drop hf).getD 0 en0).1))]).flatMap edC) | 8=>σ 9= .slice (sA (β 42)) ((freshE pg nd.lv nd.right nd.high (nd.es.drop hf)).length+1) (sC (β 42)) | _=>True) [0,2,3,4] [2,3,4,6,7,8] [(9,8,1,10),(25,0,8,33)] hst25 ?_ ?_ ?_))
 ·exact fun ix _ _ _ _ _ _ hs hb hx h=>match ix,h with
  | 6,h=>by dsimp only; rw [← hs 41 rfl,← hb 41 rfl,← hx 3 rfl]; exact h
  | 7,h=>by dsimp only; rw [← hs 42 rfl,← hb 42 rfl,← hx 4 rfl]; exact h
  | 8,h=>by dsimp only; rw [← hs 9 rfl,← hb 42 rfl]; exact h
  | 0, _ | 1, _ | 2, _ | 3, _ | 4, _ | 5, _ | _+9, _=>trivial
 ·refine ⟨?_,?_,?_,?_,?_,?_,trivial⟩
  ·exact xs4 rfl id fun cx=>run_load1 rfl (by kernel_rfl) (cx.an 1) ((cx.bi 2 rfl).cell 0)
  ·exact xs4 rfl id fun cx=>run_loadB (n:=7) rfl (by kernel_rfl) (by kernel_rfl) (cx.ou 4) (cx.bi 2 rfl) (nle rfl) rfl
  ·exact xsc rfl id rfl rfl fun cx=>⟨_,khead_le np nd.lv pg (nd.free:Int) (((nd.es.drop hf).getD 0 en0).1) nd.dead _ _ _ _ (by omega) (by omega) (by first | omega | decide),(map1 (cx.an 3))⟩
  ·refine svA fun ρ β W X cx=>?_
   have fF40:ρ (.tmp 40)= .agg #[vi np,vi 0, .string (hdB nd.lv pg nd.dead (((nd.es.drop hf).getD 0 en0).1))]:=(cx.an 5)
   exact dv_litN (e:=67) (sz:=3) (xs:=[vi np,vi 0, .string (hdB nd.lv pg nd.dead (((nd.es.drop hf).getD 0 en0).1))]) rfl (by simp [go_sem,fF40]) rfl (by decide) rfl rfl (fun σ β' X' hs hb hv hx=>⟨hv,hx⟩)
  ·refine svA fun ρ β W X cx=>?_
   obtain ⟨i0,hi0,hz0,hz1,hz2⟩:=info_parts Tryz.infoEdit
   refine dv_appendN (n:=(freshE pg nd.lv nd.right nd.high (nd.es.drop hf)).length) (m:=1) (nm:=(freshE pg nd.lv nd.right nd.high (nd.es.drop hf)).length+1) (sz:=3) (xs:=(freshE pg nd.lv nd.right nd.high (nd.es.drop hf)).flatMap edC) (news:=edC (np,0,hdB nd.lv pg nd.dead (((nd.es.drop hf).getD 0 en0).1))) (xs':=((freshE pg nd.lv nd.right nd.high (nd.es.drop hf))++[(np,0,hdB nd.lv pg nd.dead (((nd.es.drop hf).getD 0 en0).1))]).flatMap edC) rfl (ty:=28) rfl (by kernel_rfl) hi0 hz0 hz1 hz2 rfl (by decide) (cx.an 0) cx (cx.init 1 _ rfl) rfl (dTn (cx.an 6)).1 (by rfl) (At.of_ownN (cx.row (dTn (cx.an 6)).2 rfl)) (by simp [edC,tkK,Value.oneCell']) (by simp only [maxLen]; omega) (by omega) rfl rfl rfl (by omega) (ed_snoc _ _) (fun σ β' X' hs hb hv hx=>?_)
   exact ⟨hv,hx⟩
  ·exact sv rfl rfl rfl rfl rfl _ (fun _ _ _ h=>h) (fun β β' h=>by rw [h 42 (by decide)]) fun ρ β W X cx=>run_assign' rfl (dTn (cx.an 7)).1
 intro σ β X W26 hD hst26 fr hfr
 obtain ⟨B41_26,hu_B41_26⟩:∃ z,pb' (β 41)=z:=⟨_,rfl⟩
 obtain ⟨A42_26,hu_A42_26⟩:∃ z,sA (β 42)=z:=⟨_,rfl⟩
 obtain ⟨c42_26,hu_c42_26⟩:∃ z,sC (β 42)=z:=⟨_,rfl⟩
 simp only [exq 3 ((dTn (hD 6 lq)).2),exq 4 ((dTn (hD 7 lq)).2),hu_B41_26,hu_A42_26,hu_c42_26] at hst26
 simp only [ed 41 ((dTn (hD 6 lq)).1),ed 42 ((dTn (hD 7 lq)).1),ed 9 ((dTn (hD 8 lq))),hu_B41_26,hu_A42_26,hu_c42_26] at hfr
 clear hD hu_B41_26 hu_A42_26 hu_c42_26; subst hfr; clear σ β X
 refine then_normal (wp_seq (wp_region_Y [0,0,2,6,14,30,0,64,192,448,0,1984,0,4096,12288,32704,65472,131070,262143,524287,1048575] [[],[],[],[],[0],[],[],[],[],[],[],[],[],[1],[],[],[],[5,4],[],[],[0]] [[],[],[],[],[],[4],[],[],[],[],[],[],[],[],[],[],[5],[6],[],[],[7]] [[],[],[],[],[],[],[],[],[],[],[],[],[],[],[],[],[],[4],[],[],[0]] [.k 43 (vp b), .k 44 (vp b), .k 45 (vp b), .k 46 (.pointer (some ⟨b,3,none⟩)), .c 47 (.slice ((some la)) ln lc), .a 48, .k 49 (.slice ((if ec=hf then EA else EA.map (·.add (hf*3)))) ((nd.es.length - hf)) ((ec - hf))), .c 50 (.pointer (some ((ad ((if ec=hf then EA else EA.map (·.add (hf*3))))).add (0*3)))), .c 51 (.pointer (some ((ad ((if ec=hf then EA else EA.map (·.add (hf*3))))).add (0*3+0)))), .c 52 (.string (((nd.es.drop hf).getD 0 en0).1)), .k 53 (vi pg), .k 54 (.agg #[.string (((nd.es.drop hf).getD 0 en0).1),vi 0,vi pg]), .k 55 (.pointer (some ⟨B4_1,1,none⟩)), .c 56 (vi nd.lv),tI 57 (nd.lv+1) (by omega), .k 58 (.agg #[.string (((nd.es.drop hf).getD 0 en0).1),vi 0,vi pg,vi (nd.lv+1)]), .a 59, .a 60, .k 61 (vp b), .k 62 (.pointer (some ⟨b,3,none⟩)), .n] (fun ix σ β X=>match ix with | 0=>True | 1=>True | 2=>True | 3=>True | 4=>True | 5=>σ 48= .slice (sA (β 48)) lf.length (sC (β 48))∧X 4=eO 120 4 (.slice (sA (β 48)) lf.length (sC (β 48))) lf.length (lf.flatMap tkK) | 6=>True | 7=>True | 8=>True | 9=>True | 10=>True | 11=>True | 12=>True | 13=>True | 14=>True | 15=>True | 16=>σ 59= .slice ((some ⟨(pb' (β 59)),0,none⟩)) 1 1∧X 5=eO 120 4 (.slice ((some ⟨(pb' (β 59)),0,none⟩)) 1 1) 1 (tkK (((nd.es.drop hf).getD 0 en0).1,nd.lv+1,pg)) | 17=>σ 60= .slice (sA (β 60)) (lf.length+1) (sC (β 60))∧X 6=eO 120 4 (.slice (sA (β 60)) (lf.length+1) (sC (β 60))) (lf.length+1) ((lf++[(((nd.es.drop hf).getD 0 en0).1,nd.lv+1,pg)]).flatMap tkK) | 18=>True | 19=>True | 20=>X 7=eB b 123 #[vi root,vi pos,vi leaf, .slice (sA (β 60)) (lf.length+1) (sC (β 60)),vi fro,vi too, .bool spl] | _=>True) [1,2,3,5,6,7] [4,5,7,8,9,13,16,17,20] [(43,0,20,63)] hst26 ?_ ?_ ?_))
 ·exact fun ix _ _ _ _ _ _ hs hb hx h=>match ix,h with
  | 5,h=>by dsimp only; rw [← hs 48 rfl,← hb 48 rfl,← hx 4 rfl]; exact h
  | 16,h=>by dsimp only; rw [← hs 59 rfl,← hb 59 rfl,← hx 5 rfl]; exact h
  | 17,h=>by dsimp only; rw [← hs 60 rfl,← hb 60 rfl,← hx 6 rfl]; exact h
  | 20,h=>by dsimp only; rw [← hb 60 rfl,← hx 7 rfl]; exact h
  | 0, _ | 1, _ | 2, _ | 3, _ | 4, _ | 6, _ | 7, _ | 8, _ | 9, _ | 10, _ | 11, _ | 12, _ | 13, _ | 14, _ | 15, _ | 18, _ | 19, _ | _+21, _=>trivial
 ·refine ⟨?_,?_,?_,?_,?_,?_,?_,?_,?_,trivial⟩
  ·exact xs4 rfl id fun cx=>run_load1 rfl (by kernel_rfl) (cx.an 3) ((cx.bi 0 rfl).cell 3)
  ·refine svA fun ρ β W X cx=>?_
   refine DoesU.call (run_callF (args:=#[.slice ((some la)) ln lc]) rfl cx.sees rfl (by kernel_rfl) (map1 (cx.an 4))) ?_
   refine (kclone_any la ln lc lf _ (hL _ cx.upd) hln hlnb).mono ?_
   rintro e W1 ⟨A4,c4,rfl,ho_,hx⟩
   refine ⟨_,rfl,post_call [eO 120 4 (.slice A4 lf.length c4) lf.length (lf.flatMap tkK)] rfl rfl hx (one_new (eO_new (n:=lf.length) (xs:=lf.flatMap tkK) ho_)) (List.pairwise_singleton _ _) (fun σ β' X' hs hb hv hN=>?_)⟩
   have hv1:=(hv 48 rfl).1; have hv2:=(hv 48 rfl).2
   exact ⟨hv1.trans (by rw [hv2]; rfl),(by rw [hv2]; exact (List.cons.inj hN).1)⟩
  ·exact xs4 rfl id fun cx=>run_indexSlM (e:=89) (m:=0) (sz:=3) rfl (by kernel_rfl) (by kernel_rfl) (cx.an 6) (cx.co _) (by omega) (by omega) (At.dropF (ts:=nd.es) enC_len (hE _ cx.upd) hf ec hec) (flatPos (sz:=3) enC_len (by decide) (by omega))
  ·exact xs4 rfl id fun cx=>run_fieldAd rfl (by kernel_rfl) (cx.an 7)
  ·exact xs4 rfl id fun cx=>run_load1 rfl (by kernel_rfl) (cx.an 8) (At.eltc (f:=enC) (k:=0) enC_len (At.dropF (ts:=nd.es) enC_len (hE _ cx.upd) hf ec hec) (en_get (by rw [List.length_drop]; omega)) rfl)
  ·exact xs4 rfl id fun cx=>run_load1 rfl (by kernel_rfl) (cx.an 12) ((cx.bi 1 rfl).cell 1)
  ·refine svA fun ρ β W X cx=>?_
   have fF58:ρ (.tmp 58)= .agg #[.string (((nd.es.drop hf).getD 0 en0).1),vi 0,vi pg,vi (nd.lv+1)]:=(cx.an 15)
   exact dv_litN (e:=120) (sz:=4) (xs:=[.string (((nd.es.drop hf).getD 0 en0).1),vi 0,vi pg,vi (nd.lv+1)]) rfl (by simp [go_sem,fF58]) rfl (by decide) rfl rfl (fun σ β' X' hs hb hv hx=>⟨hv,hx⟩)
  ·refine svA fun ρ β W X cx=>?_
   obtain ⟨i0,hi0,hz0,hz1,hz2⟩:=info_parts Tryz.infoTkK
   refine dv_appendN (n:=lf.length) (m:=1) (nm:=lf.length+1) (sz:=4) (xs:=lf.flatMap tkK) (news:=tkK (((nd.es.drop hf).getD 0 en0).1,nd.lv+1,pg)) (xs':=(lf++[(((nd.es.drop hf).getD 0 en0).1,nd.lv+1,pg)]).flatMap tkK) rfl (ty:=121) rfl (by kernel_rfl) hi0 hz0 hz1 hz2 rfl (by decide) (dTn (cx.an 5)).1 cx (dTn (cx.an 5)).2 rfl (dTn (cx.an 16)).1 (by rfl) (At.of_ownN (cx.row (dTn (cx.an 16)).2 rfl)) (by simp [edC,tkK,Value.oneCell']) (by simp only [maxLen]; omega) (by omega) rfl rfl rfl (by omega) (tkK_snoc _ _) (fun σ β' X' hs hb hv hx=>?_)
   exact ⟨hv,hx⟩
  ·refine svA fun ρ β W X cx=>?_
   exact dv_store (n:=1) rfl (cx.an 19) (dTn (cx.an 17)).1 (by kernel_rfl) (by kernel_rfl) (by kernel_rfl) cx (cx.init 0 _ rfl) rfl (nle rfl) (by kernel_rfl) rfl rfl rfl (fun σ β' X' hs hb hx=>by rw [hb 60]; exact hx)
 intro σ β X W27 hD hst27 fr hfr
 obtain ⟨A48_27,hu_A48_27⟩:∃ z,sA (β 48)=z:=⟨_,rfl⟩
 obtain ⟨c48_27,hu_c48_27⟩:∃ z,sC (β 48)=z:=⟨_,rfl⟩
 obtain ⟨B59_27,hu_B59_27⟩:∃ z,pb' (β 59)=z:=⟨_,rfl⟩
 obtain ⟨A60_27,hu_A60_27⟩:∃ z,sA (β 60)=z:=⟨_,rfl⟩
 obtain ⟨c60_27,hu_c60_27⟩:∃ z,sC (β 60)=z:=⟨_,rfl⟩
 simp only [exq 5 ((dTn (hD 16 lq)).2),exq 6 ((dTn (hD 17 lq)).2),exq 7 ((dTn (hD 20 lq))),hu_A48_27,hu_c48_27,hu_B59_27,hu_A60_27,hu_c60_27] at hst27
 simp only [ed 48 ((dTn (hD 5 lq)).1),ed 59 ((dTn (hD 16 lq)).1),ed 60 ((dTn (hD 17 lq)).1),hu_A48_27,hu_c48_27,hu_B59_27,hu_A60_27,hu_c60_27] at hfr
 clear hD hu_A48_27 hu_c48_27 hu_B59_27 hu_A60_27 hu_c60_27; subst hfr; clear σ β X
 refine then_normal (wp_seq (wp_seq (sqr (sqp [.k 63 (.pointer (some ⟨B4_1,1,none⟩))] ?_))))
 refine sqld 0 hst27 ?_
 refine sqp [.k 65 (.bool (nd.lv==0))] ?_
 refine then_normal (wbs (fun hs31=>?_) fun hs31=>?_)
 ·have hs31p:=beq_iff_eq.1 hs31
  refine sqr (sqp [.m 66 0, .m 67 0, .m 68 0, .k 69 (vp B4_1)] ?_)
  refine sqld 0 hst27 ?_
  refine sqp [.m 71 2, .k 72 (vp b), .k 73 (.pointer (some ⟨b,4,none⟩))] ?_
  refine sqst (n:=1) 5 #[vi root,vi pos,vi leaf, .slice A60_27 (lf.length+1) c60_27,vi np,vi too, .bool spl] hst27 fun W40 hst40=>?_
  refine sqp [.k 74 (vp b), .k 75 (.pointer (some ⟨b,5,none⟩))] ?_
  refine sqst (n:=1) 5 #[vi root,vi pos,vi leaf, .slice A60_27 (lf.length+1) c60_27,vi np,vi pg, .bool spl] hst40 fun W43 hst43=>?_
  refine sqp [.k 76 (vp b), .k 77 (.pointer (some ⟨b,6,none⟩))] ?_
  refine sqst (n:=1) 5 #[vi root,vi pos,vi leaf, .slice A60_27 (lf.length+1) c60_27,vi np,vi pg, .bool true] hst43 fun W46 hst46=>?_
  refine then_normal (wp_seq (sqr (sqp [.m 78 9, .k 79 (vp B4_1)] ?_)))
  refine sqld 0 hst46 ?_
  refine sqp [.m 81 8] ?_
  refine sqk2 (fun G82_51 c82_51=> .slice ((some ⟨G82_51,0,none⟩)) ((clearE np (nd.es.drop hf)).length) c82_51) (fun G82_51 c82_51=>eO 67 3 (.slice ((some ⟨G82_51,0,none⟩)) ((clearE np (nd.es.drop hf)).length) c82_51) ((clearE np (nd.es.drop hf)).length) ((clearE np (nd.es.drop hf)).flatMap edC)) hst46 (fun cx=>⟨_,(ed_some (by omega) (kclear_any np _ _ _ (nd.es.drop hf) _ (At.dropF (ts:=nd.es) enC_len (hE _ cx.upd) hf ec hec) hdl_ (by omega))).mono (by rintro e W1 ⟨G4,c4,rfl,ho_,hx⟩; exact ⟨_, _,rfl,St.one hx (eO_new (n:=(clearE np (nd.es.drop hf)).length) (xs:=(clearE np (nd.es.drop hf)).flatMap edC) ho_)⟩),(map2 (cx.ou 80) (cx.ou 81))⟩) fun G82_51 c82_51 W51 hst51=>?_
  refine sqap ((freshE pg nd.lv nd.right nd.high (nd.es.drop hf)).length+1+(clearE np (nd.es.drop hf)).length) ((((freshE pg nd.lv nd.right nd.high (nd.es.drop hf))++[(np,0,hdB nd.lv pg nd.dead (((nd.es.drop hf).getD 0 en0).1))])++(clearE np (nd.es.drop hf))).flatMap edC) 2 hst51 Tryz.infoEdit (fun cx=>(At.of_ownN (cx.ri 6 rfl))) (hl:=by rw [flatLen edC_len]) (h1:=edC_one _) (hxs:=ed_join _ _) fun A83_52 c83_52 W52 hst52=>?_
  refine sqp [.m 6 83] ?_
  refine then_normal (wp_ret ?_)
  refine bpr (.slice A83_52 ((freshE pg nd.lv nd.right nd.high (nd.es.drop hf)).length+1+(clearE np (nd.es.drop hf)).length) c83_52) (results_1 Tryz.results56 rpt) ?_
  have hmd:midE nd=((nd.es.drop hf).getD 0 en0).1:=by rw [midE,hhf,getD_drop]; rfl
  have hfin:(((freshE pg nd.lv nd.right nd.high (nd.es.drop hf))++[(np,0,hdB nd.lv pg nd.dead (((nd.es.drop hf).getD 0 en0).1))])++(clearE np (nd.es.drop hf)))=cutE np nd pg:=by rw [cutE,halfE,hhf,hmd,hdd]; try rfl
  have hfl:(freshE pg nd.lv nd.right nd.high (nd.es.drop hf)).length+1+(clearE np (nd.es.drop hf)).length=(cutE np nd pg).length:=by rw [← hfin]; simp only [List.length_append,List.length_cons,List.length_nil]; try omega
  have htl0:nd.lv=0:=by have h_:=hs31; simpa using h_
  have hpk_:=hst52.pick [5,4,2] (by decide) rfl
  rw [hfin,hfl] at hpk_
  have hll:(lf++[(midE nd,nd.lv+1,pg)]).length=lf.length+1:=by rw [List.length_append]; rfl
  rw [hfl,if_pos htl0,if_pos htl0,if_pos htl0]
  exact ⟨_, _, _, _,rfl,by rw [hll,hmd,← hln]; exact hpk_⟩
 have hs31p:=beq_eq_false_iff_ne.1 hs31
 refine wp_skip (then_normal (wp_seq (sqr (sqp [.m 78 9, .k 79 (vp B4_1)] ?_))))
 refine sqld 0 hst27 ?_
 refine sqp [.m 81 8] ?_
 refine sqk2 (fun G82_58 c82_58=> .slice ((some ⟨G82_58,0,none⟩)) ((clearE np (nd.es.drop hf)).length) c82_58) (fun G82_58 c82_58=>eO 67 3 (.slice ((some ⟨G82_58,0,none⟩)) ((clearE np (nd.es.drop hf)).length) c82_58) ((clearE np (nd.es.drop hf)).length) ((clearE np (nd.es.drop hf)).flatMap edC)) hst27 (fun cx=>⟨_,(ed_some (by omega) (kclear_any np _ _ _ (nd.es.drop hf) _ (At.dropF (ts:=nd.es) enC_len (hE _ cx.upd) hf ec hec) hdl_ (by omega))).mono (by rintro e W1 ⟨G4,c4,rfl,ho_,hx⟩; exact ⟨_, _,rfl,St.one hx (eO_new (n:=(clearE np (nd.es.drop hf)).length) (xs:=(clearE np (nd.es.drop hf)).flatMap edC) ho_)⟩),(map2 (cx.ou 80) (cx.ou 81))⟩) fun G82_58 c82_58 W58 hst58=>?_
 refine sqap ((freshE pg nd.lv nd.right nd.high (nd.es.drop hf)).length+1+(clearE np (nd.es.drop hf)).length) ((((freshE pg nd.lv nd.right nd.high (nd.es.drop hf))++[(np,0,hdB nd.lv pg nd.dead (((nd.es.drop hf).getD 0 en0).1))])++(clearE np (nd.es.drop hf))).flatMap edC) 2 hst58 Tryz.infoEdit (fun cx=>(At.of_ownN (cx.ri 6 rfl))) (hl:=by rw [flatLen edC_len]) (h1:=edC_one _) (hxs:=ed_join _ _) fun A83_59 c83_59 W59 hst59=>?_
 refine sqp [.m 6 83] ?_
 refine then_normal (wp_ret ?_)
 refine bpr (.slice A83_59 ((freshE pg nd.lv nd.right nd.high (nd.es.drop hf)).length+1+(clearE np (nd.es.drop hf)).length) c83_59) (results_1 Tryz.results56 rpt) ?_
 have hmd:midE nd=((nd.es.drop hf).getD 0 en0).1:=by rw [midE,hhf,getD_drop]; rfl
 have hfin:(((freshE pg nd.lv nd.right nd.high (nd.es.drop hf))++[(np,0,hdB nd.lv pg nd.dead (((nd.es.drop hf).getD 0 en0).1))])++(clearE np (nd.es.drop hf)))=cutE np nd pg:=by rw [cutE,halfE,hhf,hmd,hdd]; try rfl
 have hfl:(freshE pg nd.lv nd.right nd.high (nd.es.drop hf)).length+1+(clearE np (nd.es.drop hf)).length=(cutE np nd pg).length:=by rw [← hfin]; simp only [List.length_append,List.length_cons,List.length_nil]; try omega
 have htl0:¬ nd.lv=0:=by have h_:=hs31; simpa using h_
 have hpk_:=hst59.pick [5,4,2] (by decide) rfl
 rw [hfin,hfl] at hpk_
 have hll:(lf++[(midE nd,nd.lv+1,pg)]).length=lf.length+1:=by rw [List.length_append]; rfl
 rw [hfl,if_neg htl0,if_neg htl0,if_neg htl0]
 exact ⟨_, _, _, _,rfl,by rw [hll,hmd,← hln]; exact hpk_⟩
end
end Go.Proofs.YtjlcoglmjldjbaaGreat

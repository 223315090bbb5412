/- StoreRefusesRow: part 5 of the proof. -/
import Derived.Test.YtcdjaepgahbhfaaGreatZ4

set_option linter.unusedVariables false
set_option linter.unusedSimpArgs false
set_option maxRecDepth 100000
set_option maxHeartbeats 16000000
namespace Go.Proofs.YtcdjaepgahbhfaaGreat
section
open Go.RowKit
theorem find_mem {l:List BfT} (hd:(l.map BfT.n).Nodup) {t:BfT} (ht:t∈l):l.find? (fun u=>u.n==t.n)=some t:=by
 obtain ⟨A,B,rfl⟩:=List.append_of_mem ht
 rw [List.map_append,List.map_cons] at hd
 have h1:A.find? (fun u=>u.n==t.n)=none:=by
  rw [List.find?_eq_none]
  intro u hu hc
  exact (List.nodup_append.1 hd).2.2 u.n (List.mem_map.2 ⟨u,hu,rfl⟩) t.n (by simp) (by simpa using hc)
 rw [List.find?_append,h1]
 simp
theorem curF_mem {S:StM} (hd:(S.pool.map BfT.n).Nodup) {t:BfT} (ht:t∈S.pool):curF S t.n=t.pg.p:=by
 rw [curF,find_mem hd ht]
theorem curF_no {S:StM} {m:Int} (h:∀ t∈S.pool,t.n≠m):curF S m=shP S.D m:=by
 rw [curF,List.find?_eq_none.2 (fun t ht=>by simpa using h t ht)]
theorem flN_mono (L:List RecM) {a b:Nat} (h:a≤b):flN L a≤flN L b:=by
 unfold flN
 refine List.countP_mono_left fun x _ hx=>?_
 simp only [decide_eq_true_eq] at hx ⊢
 omega
/-- the store goes on behind what is seen -/
structure Ev (S S':StM):Prop where
 bufs:S'.bufs=S.bufs
 recs:S'.recs=S.recs
 frm:S'.frm=S.frm
 im:S'.im=S.im
 told:S'.told=S.told
 rows:∀ r∈S.rows,r∈S'.rows
 log:S'.D.log=S.D.log
 len:S'.D.pgs.length=S.D.pgs.length
 fl:S'.D.fl=S.D.fl∨S'.D.fl=S.D.log.size
 armed:S'.D.armed=S.D.armed
 off:S.D.off=true→S'.D.off=true
 noarm:S.D.armed=false→S'.D.off=S.D.off
 pgs:∀ (j:Nat) x y,S.D.pgs[j]? =some x→S'.D.pgs[j]? =some y→y.safe=x.safe∧∃ zs,y.ws=x.ws++zs∧∀ z∈zs,z.1=bytesP (curF S (j:Int))∧((curF S (j:Int)).2.1≤(S'.F:Int)∨S'.D.fl=S'.D.log.size)
 cur:∀ m:Int,0≤m→curF S' m=curF S m
theorem Ev.refl (S:StM):Ev S S:=⟨rfl,rfl,rfl,rfl,rfl,fun r h=>h,rfl,rfl, .inl rfl,rfl,id,fun _=>rfl,fun j x y hx hy=>by rw [hx] at hy; cases hy; exact ⟨rfl,[],by simp,fun z hz=>by cases hz⟩,fun m _=>rfl⟩
theorem Ev.flm {S S':StM} (h:Ev S S') (hf:S.D.fl≤S.D.log.size):S.D.fl≤S'.D.fl:=by
 rcases h.fl with e | e<;>omega
theorem Ev.Fm {S S':StM} (h:Ev S S') (hf:S.D.fl≤S.D.log.size):S.F≤S'.F:=by
 have e:S'.L=S.L:=by rw [StM.L,h.recs]
 rw [StM.F,StM.F,e]
 exact flN_mono _ (h.flm hf)
theorem Ev.trans {A B C:StM} (h:Ev A B) (g:Ev B C) (hf:A.D.fl≤A.D.log.size):Ev A C:=by
 have hfB:B.D.fl≤B.D.log.size:=by rw [h.log]; rcases h.fl with e | e<;>omega
 refine ⟨g.bufs.trans h.bufs,g.recs.trans h.recs,g.frm.trans h.frm,g.im.trans h.im,g.told.trans h.told,fun r hr=>g.rows r (h.rows r hr),g.log.trans h.log,g.len.trans h.len,?_,g.armed.trans h.armed,fun ho=>g.off (h.off ho),fun ha=>(g.noarm (h.armed.trans ha)).trans (h.noarm ha),fun j x y hx hy=>?_,fun m hm=>(g.cur m hm).trans (h.cur m hm)⟩
 ·rcases g.fl with e | e
  ·rw [e]; exact h.fl
  ·exact .inr (e.trans (by rw [h.log]))
 ·obtain ⟨z,hz⟩:∃ z,B.D.pgs[j]? =some z:=⟨_,List.getElem?_eq_getElem (by rw [h.len]; exact (List.getElem?_eq_some_iff.1 hx).1)⟩
  obtain ⟨h1,zs,h2,h3⟩:=h.pgs j x z hx hz
  obtain ⟨g1,ys,g2,g3⟩:=g.pgs j z y hz hy
  have hFm:=g.Fm hfB
  refine ⟨g1.trans h1,zs++ys,by rw [g2,h2,List.append_assoc],fun v hv=>?_⟩
  rcases List.mem_append.1 hv with hv | hv
  ·obtain ⟨a,b⟩:=h3 v hv
   refine ⟨a,b.imp (fun b=>by omega) fun b=>?_⟩
   rcases g.fl with e | e
   ·rw [e,b,g.log]
   ·rw [e,g.log]
  ·obtain ⟨a,b⟩:=g3 v hv
   rw [h.cur (j:Int) (by omega)] at a b
   exact ⟨a,b⟩
theorem fl_cases (D:DkM):(D.off=true∧opD D 0 flD=(D,24))∨(D.off=false∧D.armed=true∧opD D 0 flD=({D with off:=true},24))∨(D.off=false∧opD D 0 flD=(flD {D with left:=decL D.left},0)):=by
 unfold opD
 split
 ·rename_i h; exact .inl ⟨h,rfl⟩
 ·rename_i h
  rw [if_neg (by decide)]
  split
  ·rename_i h2; exact .inr (.inl ⟨by simpa using h,h2.1,rfl⟩)
  ·exact .inr (.inr ⟨by simpa using h,rfl⟩)
/-- a step of the disk alone, with the pages as they were -/
theorem Ev.disk {S:StM} {D:DkM} (hp:D.pgs=S.D.pgs) (hl:D.log=S.D.log) (hf:D.fl=S.D.fl∨D.fl=S.D.log.size) (ha:D.armed=S.D.armed) (ho:S.D.off=true→D.off=true) (hn:S.D.armed=false→D.off=S.D.off):Ev S {S with D:=D}:=by
 refine ⟨rfl,rfl,rfl,rfl,rfl,fun r h=>h,hl,by show D.pgs.length= _; rw [hp],hf,ha,ho,hn,fun j x y hx hy=>?_,fun m _=>?_⟩
 ·have hy:D.pgs[j]? =some y:=hy
  rw [hp,hx] at hy; cases hy; exact ⟨rfl,[],by simp,fun z hz=>by cases hz⟩
 ·show curF {S with D:=D} m=curF S m
  rw [curF,curF,shP_eq hp]
theorem Ev.wrD0 (S:StM) (t:BfT):Ev S {S with D:=(wrD0 S t).1}∧((wrD0 S t).2=0→(t.pg.p.2.1≤(flN S.L (wrD0 S t).1.fl:Int)∨(wrD0 S t).1.fl=(wrD0 S t).1.log.size))∧((wrD0 S t).2≠0→(wrD0 S t).1.off=true):=by
 unfold Go.Proofs.YtcdjaepgahbhfaaGreat.wrD0
 split
 ·rename_i hlt
  rcases fl_cases S.D with ⟨h1,h2⟩ | ⟨h1,h2,h3⟩ | ⟨h1,h2⟩
  ·rw [h2]; exact ⟨Ev.refl S,(fun h=>by cases h),fun _=>h1⟩
  ·rw [h3]; exact ⟨Ev.disk rfl rfl (.inl rfl) rfl (fun _=>rfl) (fun h=>by rw [h2] at h; cases h),(fun h=>by cases h),fun _=>rfl⟩
  ·rw [h2]; exact ⟨Ev.disk rfl rfl (.inr rfl) rfl (fun h=>by rw [h1] at h; cases h) (fun _=>rfl),fun _=> .inr rfl,fun h=>absurd rfl h⟩
 ·rename_i hlt
  exact ⟨Ev.refl S,fun _=> .inl (Int.not_lt.1 hlt),fun h=>absurd rfl h⟩
theorem wr_cases2 (D:DkM) (n:Int) (s:ByteArray) (hn:0≤n∧n < (D.pgs.length:Int)) (hs:s.size=512):(D.off=true∧opD D (wrE D n s) (wrD n s)=(D,24))∨(D.off=false∧D.armed=true∧opD D (wrE D n s) (wrD n s)=({D with off:=true},24))∨(D.off=false∧opD D (wrE D n s) (wrD n s)=(wrD1 n.toNat ⟨s,hs⟩ {D with left:=decL D.left},0)):=by
 have he:wrE D n s=0:=by rw [wrE,if_pos hn,if_pos hs]
 have hw:∀ D':DkM,wrD n s D'=wrD1 n.toNat ⟨s,hs⟩ D':=fun D'=>by rw [wrD,dif_pos hs]
 unfold opD
 rw [he]
 split
 ·rename_i h; exact .inl ⟨h,rfl⟩
 ·rename_i h
  rw [if_neg (by decide)]
  split
  ·rename_i h2; exact .inr (.inl ⟨by simpa using h,h2.1,rfl⟩)
  ·exact .inr (.inr ⟨by simpa using h,by rw [hw]⟩)
theorem Ev.write {S:StM} {c:Nat} (h:SOk S c) {t:BfT} (ht:t∈S.pool):Ev S (writeF S t).1∧((writeF S t).2≠0→(writeF S t).1.D.off=true):=by
 obtain ⟨h1,h2,h3⟩:=Ev.wrD0 S t
 have hr:=h.right t ht
 have hpg:=(wrD0_ok S t).2
 unfold writeF
 split
 ·rename_i he; exact ⟨h1,fun _=>h3 he⟩
 ·rename_i he
  have he:(Go.Proofs.YtcdjaepgahbhfaaGreat.wrD0 S t).2=0:=by simpa using he
  dsimp only
  have hn:0≤t.n∧t.n < ((Go.Proofs.YtcdjaepgahbhfaaGreat.wrD0 S t).1.pgs.length:Int):=by rw [hpg]; exact h.keys t ht
  obtain ⟨D1,hD1⟩:∃ z,(Go.Proofs.YtcdjaepgahbhfaaGreat.wrD0 S t).1=z:=⟨_,rfl⟩
  rw [hD1] at h1 h2 hpg hn ⊢
  rcases wr_cases2 D1 t.n (bytesP t.pg.p) hn (bytesP_size hr) with ⟨a1,a2⟩ | ⟨a1,a2,a3⟩ | ⟨a1,a2⟩
  ·rw [a2]; exact ⟨h1,fun _=>a1⟩
  ·rw [a3]
   refine ⟨h1.trans (Ev.disk (S:={S with D:=D1}) rfl rfl (.inl rfl) rfl (fun _=>rfl) (fun hh=>by have hh:D1.armed=false:=hh; rw [a2] at hh; cases hh)) h.fl,fun _=>rfl⟩
  ·rw [a2,if_pos rfl]
   refine ⟨?_,fun hh=>absurd rfl hh⟩
   refine h1.trans (B:={S with D:=D1}) ?_ h.fl
   have hcur:∀ m:Int,0≤m→curF {S with D:=wrD1 t.n.toNat ⟨bytesP t.pg.p,bytesP_size hr⟩ {D1 with left:=decL D1.left},pool:=setB S.pool t.n clB} m=curF {S with D:=D1} m:=fun m hm=>by
    by_cases hmem:∃ u∈S.pool,u.n=m
    ·obtain ⟨u,hu,rfl⟩:=hmem
     have hd2:((setB S.pool t.n clB).map BfT.n).Nodup:=by rw [setB_n (f:=clB) (fun _=>rfl)]; exact h.nodup
     rw [curF_mem (S:={S with D:=D1}) h.nodup hu]
     by_cases e:u.n=t.n
     ·have hu2:clB u∈setB S.pool t.n clB:=List.mem_map.2 ⟨u,hu,by rw [if_pos e]⟩
      have h9:=curF_mem (S:={S with D:=wrD1 t.n.toNat ⟨bytesP t.pg.p,bytesP_size hr⟩ {D1 with left:=decL D1.left},pool:=setB S.pool t.n clB}) (t:=clB u) hd2 hu2
      exact h9
     ·have hu2:u∈setB S.pool t.n clB:=List.mem_map.2 ⟨u,hu,by rw [if_neg e]⟩
      exact curF_mem (S:={S with D:=wrD1 t.n.toNat ⟨bytesP t.pg.p,bytesP_size hr⟩ {D1 with left:=decL D1.left},pool:=setB S.pool t.n clB}) hd2 hu2
    ·have hno:∀ u∈S.pool,u.n≠m:=fun u hu e=>hmem ⟨u,hu,e⟩
     rw [curF_no (S:={S with D:=D1}) hno,curF_no (S:={S with D:=wrD1 t.n.toNat ⟨bytesP t.pg.p,bytesP_size hr⟩ {D1 with left:=decL D1.left},pool:=setB S.pool t.n clB}) (fun u hu=>by
      obtain ⟨v,hv,rfl | rfl⟩:=setB_mem hu
      ·exact hno v hv
      ·exact hno _ hv)]
     rw [shP_wr (D:={D1 with left:=decL D1.left}) hn hm,if_neg (fun e=>hno t ht e.symm)]
     exact shP_eq rfl m
   refine ⟨rfl,rfl,rfl,rfl,rfl,fun r hh=>hh,rfl,List.length_set, .inl rfl,rfl,(fun hh=>by have hh:D1.off=true:=hh; rw [a1] at hh; cases hh),fun _=>rfl,fun j x y hx hy=>?_,hcur⟩
   have hy:(D1.pgs.set t.n.toNat _)[j]? =some y:=hy
   have hx:D1.pgs[j]? =some x:=hx
   by_cases e:j=t.n.toNat
   ·subst e
    rw [List.getElem?_set_self (List.getElem?_eq_some_iff.1 hx).1] at hy
    cases hy
    have hg:D1.pgs.getD t.n.toNat shd0=x:=by rw [List.getD_eq_getElem?_getD,hx]; rfl
    refine ⟨by show (D1.pgs.getD t.n.toNat shd0).safe= _; rw [hg],[⟨bytesP t.pg.p,bytesP_size hr⟩],by show (D1.pgs.getD t.n.toNat shd0).ws++ _= _; rw [hg],fun z hz=>?_⟩
    rw [List.mem_singleton.1 hz]
    have hc:=curF_mem (S:={S with D:=D1}) h.nodup ht
    rw [show ((t.n.toNat:Nat):Int)=t.n by omega,hc]
    exact ⟨rfl,h2 he⟩
   ·rw [List.getElem?_set_ne (by omega),hx] at hy
    cases hy
    exact ⟨rfl,[],by simp,fun z hz=>by cases hz⟩
theorem Ev.clean {S:StM} {c:Nat} (h:SOk S c) {t:BfT} (ht:t∈S.pool):Ev S (cleanF S t).1∧((cleanF S t).2≠0→(cleanF S t).1.D.off=true):=by
 unfold cleanF
 split
 ·exact Ev.write h ht
 ·exact ⟨Ev.refl S,fun hh=>absurd rfl hh⟩
/-- a clean buffer may go -/
theorem Ev.rm {S:StM} (hd:(S.pool.map BfT.n).Nodup) {n:Int} (hn:∀ t∈S.pool,t.n=n→t.pg.p=shP S.D n):Ev S {S with pool:=rmB S.pool n}:=by
 have hd2:((rmB S.pool n).map BfT.n).Nodup:=hd.sublist ((rmB_sub S.pool n).map _)
 refine ⟨rfl,rfl,rfl,rfl,rfl,fun r h=>h,rfl,rfl, .inl rfl,rfl,id,fun _=>rfl,fun j x y hx hy=>by have hy:S.D.pgs[j]? =some y:=hy; rw [hx] at hy; cases hy; exact ⟨rfl,[],by simp,fun z hz=>by cases hz⟩,fun m _=>?_⟩
 by_cases hm:m=n
 ·subst hm
  rw [curF_no (S:={S with pool:=rmB S.pool m}) (fun u hu=>(rmB_mem hu).2)]
  by_cases hmem:∃ u∈S.pool,u.n=m
  ·obtain ⟨u,hu,rfl⟩:=hmem
   rw [curF_mem hd hu]; exact (hn u hu rfl).symm
  ·rw [curF_no (fun u hu e=>hmem ⟨u,hu,e⟩)]
 ·by_cases hmem:∃ u∈S.pool,u.n=m
  ·obtain ⟨u,hu,rfl⟩:=hmem
   rw [curF_mem hd hu]
   exact curF_mem (S:={S with pool:=rmB S.pool n}) hd2 (show u∈rmB S.pool n from List.mem_filter.2 ⟨hu,by simpa using hm⟩)
  ·rw [curF_no (fun u hu e=>hmem ⟨u,hu,e⟩),curF_no (S:={S with pool:=rmB S.pool n}) (fun u hu e=>hmem ⟨u,(rmB_mem hu).1,e⟩)]
theorem clean_cl {S:StM} {c:Nat} (h:SOk S c) {t:BfT} (ht:t∈S.pool) (h0:(cleanF S t).2=0):∀ u∈(cleanF S t).1.pool,u.n=t.n→u.pg.p=shP (cleanF S t).1.D t.n:=fun u hu e=>by
 have hok:=h.clean t ht
 have hev:=(Ev.clean h ht).1
 have hr:=h.right t ht
 have h1:=curF_mem hok.nodup hu
 rw [e,hev.cur t.n (h.keys t ht).1,curF_mem h.nodup ht] at h1
 rw [← h1]
 unfold cleanF at h0 ⊢
 split
 ·rename_i hd
  rw [if_pos hd] at h0
  exact (write_ok_sh hr h0).1.symm
 ·rename_i hd
  exact h.cl t ht (by simpa using hd)
theorem Ev.evict {S:StM} {c:Nat} (h:SOk S c) {t:BfT} (ht:S.bufs≤(S.pool.length:Int)→t∈S.pool):Ev S (evictF S t).1∧((evictF S t).2≠0→(evictF S t).1.D.off=true):=by
 unfold evictF
 split
 ·rename_i hb
  have hc:=Ev.clean h (ht hb)
  split
  ·rename_i he; exact ⟨hc.1,fun _=>hc.2 he⟩
  ·rename_i he
   have he:(cleanF S t).2=0:=by simpa using he
   exact ⟨hc.1.trans (Ev.rm (h.clean t (ht hb)).nodup (clean_cl h (ht hb) he)) h.fl,fun hh=>absurd rfl hh⟩
 ·exact ⟨Ev.refl S,fun hh=>absurd rfl hh⟩
theorem Ev.tick (S:StM):Ev S (Go.Proofs.YtcdjaepgahbhfaaGreat.tick S):=⟨rfl,rfl,rfl,rfl,rfl,fun r h=>h,rfl,rfl, .inl rfl,rfl,id,fun _=>rfl,fun j x y hx hy=>by have hy:S.D.pgs[j]? =some y:=hy; rw [hx] at hy; cases hy; exact ⟨rfl,[],by simp,fun z hz=>by cases hz⟩,fun m _=>rfl⟩
theorem curF_setB {S:StM} {n:Int} {f:BfT→BfT} (hd:(S.pool.map BfT.n).Nodup) (hn:∀ t,(f t).n=t.n) (m:Int):curF {S with pool:=setB S.pool n f} m=curF S m∨∃ t∈S.pool,t.n=n∧m=n∧curF {S with pool:=setB S.pool n f} m=(f t).pg.p:=by
 have hd2:((setB S.pool n f).map BfT.n).Nodup:=by rw [setB_n hn]; exact hd
 by_cases hmem:∃ u∈S.pool,u.n=m
 ·obtain ⟨u,hu,rfl⟩:=hmem
  by_cases e:u.n=n
  ·refine .inr ⟨u,hu,e,e,?_⟩
   have h1:=curF_mem (S:={S with pool:=setB S.pool n f}) hd2 (t:=f u) (List.mem_map.2 ⟨u,hu,by rw [if_pos e]⟩)
   rw [hn] at h1; exact h1
  ·refine .inl ?_
   rw [curF_mem hd hu]
   exact curF_mem (S:={S with pool:=setB S.pool n f}) hd2 (List.mem_map.2 ⟨u,hu,by rw [if_neg e]⟩)
 ·refine .inl ?_
  rw [curF_no (fun u hu e=>hmem ⟨u,hu,e⟩),curF_no (S:={S with pool:=setB S.pool n f}) (fun u hu=>by
   obtain ⟨v,hv,rfl | rfl⟩:=setB_mem hu
   ·rw [hn]; exact fun e=>hmem ⟨v,hv,e⟩
   ·exact fun e=>hmem ⟨_,hv,e⟩)]
theorem Ev.load {S S':StM} {c:Nat} {n er:Int} (h:SOk S c) (hl:LdR S n S' er):Ev S S'∧(er≠0→S'.D.off=true∨¬ (0≤n∧n < (S.D.pgs.length:Int)))∧(er=0→(0≤n∧n < (S.D.pgs.length:Int))∧∃ t∈S'.pool,t.n=n∧t.pg.p=curF S n):=by
 have hS':=h.load hl
 have key:Ev S S'→(∃ t∈S'.pool,t.n=n)→0≤n→∃ t∈S'.pool,t.n=n∧t.pg.p=curF S n:=fun hev ⟨t,ht,e⟩ h0=>⟨t,ht,e,by
  have h1:=curF_mem hS'.nodup ht
  rw [e,hev.cur n h0] at h1; exact h1.symm⟩
 cases hl with
 | hit t ht hn=>
   have h0:0≤n∧n < (S.D.pgs.length:Int):=by rw [← hn]; exact h.keys t ht
   have hev:Ev S {Go.Proofs.YtcdjaepgahbhfaaGreat.tick S with pool:=setB S.pool n (useB (S.time+1))}:=by
    refine ⟨rfl,rfl,rfl,rfl,rfl,fun r h=>h,rfl,rfl, .inl rfl,rfl,id,fun _=>rfl,fun j x y hx hy=>by have hy:S.D.pgs[j]? =some y:=hy; rw [hx] at hy; cases hy; exact ⟨rfl,[],by simp,fun z hz=>by cases hz⟩,fun m hm=>?_⟩
    rcases curF_setB (S:=Go.Proofs.YtcdjaepgahbhfaaGreat.tick S) (n:=n) (f:=useB (S.time+1)) h.nodup (fun _=>rfl) m with e | ⟨u,hu,e1,e2,e3⟩
    ·exact e
    ·subst e2
     refine e3.trans ?_
     have h5:=curF_mem h.nodup hu
     rw [e1] at h5; exact h5.symm
   exact ⟨hev,fun hh=>absurd rfl hh,fun _=>⟨h0,key hev ⟨useB (S.time+1) t,List.mem_map.2 ⟨t,ht,by rw [if_pos hn]⟩,hn⟩ h0.1⟩⟩
 | bad h1 h2=>
   refine ⟨Ev.tick S,fun _=>?_,fun hh=>absurd hh h2⟩
   unfold rdS at h2
   split at h2
   ·rename_i ho; exact .inl ho
   ·split at h2
    ·exact absurd rfl h2
    ·rename_i hr; exact .inr hr
 | new t blk A cc h1 h2 h3=>
   have hr:=rdS_in2 h2
   have he:=Ev.evict h.tick h3
   have hev0:=(Ev.tick S).trans he.1 h.fl
   unfold loadN at hS' key ⊢
   split
   ·rename_i h4
    rw [if_pos h4] at hS'
    exact ⟨hev0,fun _=> .inl (he.2 h4),fun hh=>absurd hh h4⟩
   ·rename_i h4
    rw [if_neg h4] at hS' key
    dsimp only at hS' key ⊢
    have hev:Ev S {(evictF (Go.Proofs.YtcdjaepgahbhfaaGreat.tick S) t).1 with pool:=(evictF (Go.Proofs.YtcdjaepgahbhfaaGreat.tick S) t).1.pool++[⟨n,blk,⟨rdP (rdS (Go.Proofs.YtcdjaepgahbhfaaGreat.tick S).D n).1,A,cc⟩,false,(Go.Proofs.YtcdjaepgahbhfaaGreat.tick S).time⟩],rows:=(evictF (Go.Proofs.YtcdjaepgahbhfaaGreat.tick S) t).1.rows++[⟨rdP (rdS (Go.Proofs.YtcdjaepgahbhfaaGreat.tick S).D n).1,A,cc⟩]}:=by
     refine ⟨hev0.bufs,hev0.recs,hev0.frm,hev0.im,hev0.told,fun r hh=>List.mem_append_left _ (hev0.rows r hh),hev0.log,hev0.len,hev0.fl,hev0.armed,hev0.off,hev0.noarm,hev0.pgs,fun m hm=>?_⟩
     have hk:=evict_keys (S:=Go.Proofs.YtcdjaepgahbhfaaGreat.tick S) (t:=t) h1
     by_cases e:m=n
     ·subst e
      have h7:=curF_mem hS'.nodup (t:=⟨m,blk,⟨rdP (rdS (Go.Proofs.YtcdjaepgahbhfaaGreat.tick S).D m).1,A,cc⟩,false,(Go.Proofs.YtcdjaepgahbhfaaGreat.tick S).time⟩) (by simp)
      refine h7.trans ?_
      show rdP (rdS S.D m).1=curF S m
      rw [curF_no h1,rdS_sh h2]; rfl
     ·have h9:=hev0.cur m hm
      rw [← h9]
      rw [curF,curF,List.find?_append,List.find?_cons]
      have:(n==m)=false:=by simpa using fun h2=>e h2.symm
      dsimp only
      rw [this]
      cases (evictF (Go.Proofs.YtcdjaepgahbhfaaGreat.tick S) t).1.pool.find? (fun t=>t.n==m)<;>rfl
    exact ⟨hev,fun hh=>absurd rfl hh,fun _=>⟨hr,key hev ⟨_,List.mem_append_right _ (List.mem_singleton.2 rfl),rfl⟩ hr.1⟩⟩
end
section
open Go.RowKit
theorem Tryz.infoStrJ:(Tryz.prog.info? 9).map (fun i=>(i.zero,i.size,i.bytes))=some (some (.string ⟨#[]⟩),1,16):=by kernel_rfl
theorem at_none {w:World} {xs:List Value} (h:At w none xs):xs=[]:=by
 cases xs with
 | nil=>rfl
 | cons x xs=>obtain ⟨a,h1, _⟩:=h.get (k:=0) (by simp); cases h1
def ClPost (I:List ByteArray) (w:World) (e:Ending) (w':World):Prop:=∃ A c,e= .returned (.slice A I.length c)∧St w [] [eO 9 1 (.slice A I.length c) I.length (I.map Value.string)] w'
def OwPost (p:PgS) (w:World) (e:Ending) (w':World):Prop:=∃ A c,e= .returned (.agg #[.int .i64 p.1, .int .i64 p.2.1, .slice A p.2.2.length c])∧St w [] [eO 9 1 (.slice A p.2.2.length c) p.2.2.length (p.2.2.map Value.string)] w'
noncomputable def pgF (S:StM) (n:Int) (ok:Bool):PgS:=if ok=true then curF S n else pgs0
def PaQ (S:StM) (n:Int) (S2:StM) (ok:Bool):Prop:=∃ er:Int,LdR S n S2 er∧ok=(er==0)
def PaPost (sb db:Nat) (S:StM) (n:Int) (fp:List Nat) (w:World) (e:Ending) (w':World):Prop:=∃ ok A c,e= .returned (.tuple #[.agg #[.int .i64 (pgF S n ok).1, .int .i64 (pgF S n ok).2.1, .slice A (pgF S n ok).2.2.length c], .bool ok])∧
 ∃ fp',St w fp [eSx sb db (fun S2=>PaQ S n S2 ok) fp',eO 9 1 (.slice A (pgF S n ok).2.2.length c) (pgF S n ok).2.2.length ((pgF S n ok).2.2.map Value.string)] w'
theorem PaPost.no {sb db:Nat} {S S2:StM} {n er:Int} {fp fp':List Nat} {w w':World} (h:LdR S n S2 er) (he:er≠0) (hs:St w fp ([]++[eSt sb db S2 fp']) w'):PaPost sb db S n fp w (.returned (.tuple #[.agg #[.int .i64 0, .int .i64 0, .slice none 0 0], .bool false])) w':=by
 have h1:=St.sx (L:=[]) (Φ:=fun S2=>PaQ S n S2 false) hs ⟨er,h,by symm; simpa using he⟩
 have h2:=nilrowN h1 9 1
 exact ⟨false,none,0,rfl,fp',h2⟩
theorem PaPost.yes {sb db:Nat} {S S2:StM} {n:Int} {fp fp':List Nat} {w w':World} {p:PgS} {A:Option Addr} {c:Nat} (h:LdR S n S2 0) (hp:p=curF S n) (hs:St w fp ([eO 9 1 (.slice A p.2.2.length c) p.2.2.length (p.2.2.map Value.string)]++[eSt sb db S2 fp']) w'):PaPost sb db S n fp w (.returned (.tuple #[.agg #[.int .i64 p.1, .int .i64 p.2.1, .slice A p.2.2.length c], .bool true])) w':=by
 subst hp
 have h1:=St.sx (Φ:=fun S2=>PaQ S n S2 true) hs ⟨0,h,rfl⟩
 exact ⟨true,A,c,rfl,fp',h1.pk [1,0]⟩
theorem ld_zero {S S2:StM} {n er:Int} (h:LdR S n S2 er) (h0:er=0):LdR S n S2 0:=h0 ▸ h
theorem clS_no {A:Option Addr} {I:List ByteArray} {w w':World} (hA:At w A (I.map Value.string)) (h:A=none) (hs:St w [] [eO 9 1 (.slice none 0 0) 0 []] w'):ClPost I w (.returned (.slice none 0 0)) w':=by
 subst h
 have h1:=at_none hA
 obtain rfl:I=[]:=by simpa using h1
 exact ⟨none,0,rfl,hs⟩
theorem clS_any (A:Option Addr) (c:Nat) (I:List ByteArray) (w:World) (hA:At w A (I.map Value.string)) (hI:I.length≤100000):
  Calls Tryz.prog 134 #[.slice A I.length c] w (ClPost I w):=by
 go_enter Tryz.func134,Tryz.ntmps134
 have hst0:=St.start w
 refine wp_seq (sqr (sqp [.k 2 (.slice none 0 0)] ?_))
 refine then_normal (wp_seq (wp_seq (sqr (sqp [.m 3 0, .k 4 (.bool A.isNone)] ?_))))
 refine then_normal (wbs (fun hs4=>?_) fun hs4=>?_)
 ·refine wp_seq (sqr (sqp [.k 2 (.slice none 0 0)] ?_))
  refine then_normal (wp_ret (then_ret ?_))
  refine bpr (.slice none 0 0) (results_1 Tryz.results134 rpt) ?_
  have hn6:=St.nilrow hst0 9
  simp only [List.cons_append,List.nil_append] at hn6
  exact clS_no hA (by simpa using hs4) hn6
 refine wp_skip (then_normal (wp_seq (sqr ?_)))
 refine sqn1 (fun x_=>sA x_) (fun A5_7=> .slice A5_7 0 0) (fun A5_7=>eO 9 1 (.slice A5_7 0 0) 0 ([])) hst0 (by
   refine svA fun ρ β W X cx=>?_
   exact dv_lit (e:=9) (xs:=[]) rfl (by simp [go_sem]) rfl (by decide) rfl rfl (fun σ β' X' hs hb hv hx=>⟨hv,hx⟩)) fun A5_7 W7 hst7=>?_
 refine sqp [.m 6 0] ?_
 refine sqc2 (fun x_=>sA x_) (fun x_=>sC x_) (fun A7_9 c7_9=> .slice A7_9 I.length c7_9) (fun A7_9 c7_9=>eO 9 1 (.slice A7_9 I.length c7_9) I.length (I.map Value.string)) 0 hst7 (by
   refine svA fun ρ β W X cx=>?_
   obtain ⟨i0,hi0,hz0,hz1,hz2⟩:=info_parts Tryz.infoStrJ
   refine dv_append (n:=0) (m:=I.length) (nm:=I.length) (xs:=[]) (news:=I.map Value.string) (xs':=I.map Value.string) rfl (ty:=46) rfl (by kernel_rfl) hi0 hz0 hz1 hz2 rfl (cx.ou 5) cx (cx.init 0 _ rfl) rfl (cx.ou 6) (by rw [List.length_map]) (hA.ext cx.upd.to_ext) (str_one _) (by simp only [maxLen]; omega) (by omega) rfl rfl rfl (by omega) (rfl) (fun σ β' X' hs hb hv hx=>?_)
   exact ⟨hv,hx⟩) fun A7_9 c7_9 W9 hst9=>?_
 refine sqp [.m 2 7] ?_
 refine then_normal (wp_ret ?_)
 refine bpr (.slice A7_9 I.length c7_9) (results_1 Tryz.results134 rpt) ?_
 exact ⟨_, _,rfl,hst9.pick [0] (by decide) rfl⟩
theorem sown_any (PA:Option Addr) (pc:Nat) (p:PgS) (w:World) (hA:At w PA (p.2.2.map Value.string)) (hI:p.2.2.length≤100000):
  Calls Tryz.prog 65 #[.agg #[.int .i64 p.1, .int .i64 p.2.1, .slice PA p.2.2.length pc]] w (OwPost p w):=by
 go_enter Tryz.func65,Tryz.ntmps65
 have hst0:=St.start w
 refine wp_seq (sqr ?_)
 refine sqbx #[vi p.1,vi p.2.1, .slice PA p.2.2.length pc] hst0 fun B1_1 W1 hst1=>?_
 refine sqal #[vi 0,vi 0, .slice none 0 0] hst1 fun B2_2 W2 hst2=>?_
 refine then_normal (wp_seq (sqr (sqp [.k 3 (.pointer (some ⟨B1_1,2,none⟩))] ?_)))
 refine sqld 0 hst2 ?_
 refine sqk2 (fun A5_5 c5_5=> .slice A5_5 p.2.2.length c5_5) (fun A5_5 c5_5=>eO 9 1 (.slice A5_5 p.2.2.length c5_5) p.2.2.length (p.2.2.map Value.string)) hst2 (fun cx=>⟨_,(clS_any PA pc p.2.2 _ (hA.ext cx.upd.to_ext) hI).mono (by rintro e W1 ⟨A4,c4,rfl,hs4⟩; exact ⟨_, _,rfl,hs4⟩),(map1 (cx.ou 4))⟩) fun A5_5 c5_5 W5 hst5=>?_
 refine sqp [.k 6 (.pointer (some ⟨B1_1,2,none⟩))] ?_
 refine sqst (n:=1) 0 #[vi p.1,vi p.2.1, .slice A5_5 p.2.2.length c5_5] hst5 fun W7 hst7=>?_
 refine then_normal (wp_seq (sqr ?_))
 refine sqlb 0 3 hst7 ?_
 refine sqst (n:=3) 1 #[vi p.1,vi p.2.1, .slice A5_5 p.2.2.length c5_5] hst7 fun W9 hst9=>?_
 refine then_normal (wp_ret ?_)
 refine bpr (.agg #[vi p.1,vi p.2.1, .slice A5_5 p.2.2.length c5_5]) (results_cell (n:=3) Tryz.results65 rfl (by kernel_rfl) (by kernel_rfl) (hst9.blk 1 rfl) rfl) ?_
 exact ⟨_, _,rfl,hst9.pick [2] (by decide) rfl⟩
theorem spage_any (sb db:Nat) (S:StM) (n:Int) (c:Nat) (fp:List Nat) (w:World) (hB:(eSt sb db S fp).holds w) (hlt:∀ k∈fp,k < w.heap.size) (hok:SOk S c) (hc:c≤800000000) (hkn:kcI.ok n):
  Calls Tryz.prog 21 #[.pointer (some ⟨sb,0,none⟩), .int .i64 n] w (PaPost sb db S n fp w):=by
 have st1:St w fp [eSt sb db S fp] w:=St.lend hB (eSt_loc _ _ _ _) hlt
 go_enter Tryz.func21,Tryz.ntmps21
 have hst0:=st1
 refine wp_seq (sqr (sqal #[vi 0,vi 0, .slice none 0 0] hst0 fun B4_1 W1 hst1=>?_))
 refine sqp [.k 5 (.bool false)] ?_
 refine then_normal (wp_seq (wp_seq (sqr (sqp [.m 8 0] ?_))))
 refine sqv (.bool false) hst1 (by
   exact sv0 rfl rfl rfl rfl rfl (fun _ _ _ h=>h) fun ρ β W X cx=>by
    have fF8:ρ (.tmp 8)=vp sb:=(cx.ou 8)
    simp [go_sem,cx.sees.const,fF8]) fun W4 hst4=>?_
 refine then_normal (wcf rfl (wp_skip (then_normal (wp_seq (sqr (sqp [.m 12 0, .m 13 1] ?_))))))
 refine sqc2s (fun x_=>tE x_) (fun x_=>tF x_) (fun X_=>X_.fp) (fun er14_7 vp14_7=> .tuple #[vp14_7,vi er14_7]) (fun er14_7 vp14_7 r2_7=>eSx sb db (fun S2=>LdQ S n S2 er14_7 vp14_7) r2_7) 0 hst4 (by
   refine svA fun ρ β W X cx=>?_
   refine DoesU.call (run_callF (args:=#[vp sb,vi n]) rfl cx.sees rfl (by kernel_rfl) (map2 (cx.ou 12) (cx.ou 13))) ?_
   refine (sload_any sb db S n c _ _ (CtxV.holdF cx (cx.init 0 _ rfl) rfl) (CtxV.ltF cx (cx.init 0 _ rfl) rfl) hok hc hkn).mono ?_
   rintro e W1 ⟨er4,vp4,rfl,fp4,hs4⟩
   refine ⟨_,rfl,post_obj (E:=eSt sb db S fp) [eSx sb db (fun S2=>LdQ S n S2 er4 vp4) fp4] (cx.init 0 _ rfl) rfl rfl hs4 (fun σ β' X' hs hb hv hN=>?_)⟩
   have hv1:=(hv 14 rfl).1; have hv2:=(hv 14 rfl).2
   exact ⟨hv1.trans (by rw [hv2]; exact rfl),(by rw [hv2]; exact eSx_self ((List.cons.inj hN).1))⟩) fun er14_7 vp14_7 r2_7 W7 hst7=>?_
 refine sqp [.m 11 14, .k 15 (vp14_7), .k 16 (vi er14_7), .m 6 15, .m 7 16] ?_
 refine then_normal (wp_seq (wp_seq ?_))
 obtain ⟨S1,hL,hy13_⟩:=hst7.unx
 have hok1:=hok.load hL.1
 refine sqr (sqp [.m 17 7, .k 18 (.bool (er14_7 != 0))] ?_)
 refine then_normal (wbs (fun hs16=>?_) fun hs16=>?_)
 ·have hs16p:=bne_iff_ne.1 hs16
  refine wp_seq (sqr (sqp [.k 19 (.agg #[vi 0,vi 0, .slice none 0 0])] ?_))
  refine sqst (n:=3) 1 #[vi 0,vi 0, .slice none 0 0] hy13_ fun W18 hst18=>?_
  refine sqp [.k 5 (.bool false)] ?_
  refine then_normal (wp_ret (then_ret ?_))
  refine bpr (.tuple #[.agg #[vi 0,vi 0, .slice none 0 0], .bool false]) (results_2 Tryz.results21 (rpa (hst18.blk 1 rfl) 0 3) rpt) ?_
  exact PaPost.no hL.1 (by simpa using hs16) (hst18.pick [0] (by decide) rfl)
 have hs16p:=bne_eq_false_iff_eq.1 hs16
 refine wp_skip (then_normal (wp_seq ?_))
 obtain ⟨t,htm_t,rfl,rfl⟩:=hL.2 (by simpa using hs16)
 obtain ⟨⟨hrw1,hrr1⟩,mb1,RA1,rc1,EA1,ec1,ib1,tb1,fpd1,hv20_⟩:=hy13_.unf
 obtain ⟨A,B,hAB⟩:=List.append_of_mem htm_t
 have hri:=hok1.right t htm_t
 have hrp:=right_small hri.1
 rw [hAB] at hv20_
 have ho21_:=St.obf (t:=t) hv20_.u2
 refine sqr (sqp [.m 20 6, .k 21 (.pointer (some ⟨t.blk,0,none⟩)), .k 22 (.pointer (some ⟨t.blk,0,none⟩))] ?_)
 refine sqlb 1 3 ho21_ ?_
 refine sqk2 (fun A24_26 c24_26=> .agg #[vi t.pg.p.1,vi t.pg.p.2.1, .slice A24_26 t.pg.p.2.2.length c24_26]) (fun A24_26 c24_26=>eO 9 1 (.slice A24_26 t.pg.p.2.2.length c24_26) t.pg.p.2.2.length (t.pg.p.2.2.map Value.string)) ho21_ (fun cx=>⟨_,(sown_any _ _ t.pg.p _ (rowP_at (CtxV.holdF cx (cx.init 4 _ rfl) rfl) (hrw1 t htm_t)) hrp.1).mono (by rintro e W1 ⟨A4,c4,rfl,hs4⟩; exact ⟨_, _,rfl,hs4⟩),(map1 (cx.ou 23))⟩) fun A24_26 c24_26 W26 hst26=>?_
 refine sqst (n:=3) 11 #[vi t.pg.p.1,vi t.pg.p.2.1, .slice A24_26 t.pg.p.2.2.length c24_26] hst26 fun W27 hst27=>?_
 refine sqp [.k 5 (.bool true)] ?_
 refine then_normal (wp_ret ?_)
 refine bpr (.tuple #[.agg #[vi t.pg.p.1,vi t.pg.p.2.1, .slice A24_26 t.pg.p.2.2.length c24_26], .bool true]) (results_2 Tryz.results21 (rpa (hst27.blk 11 rfl) 0 3) rpt) ?_
 have hi29_:=St.ibf (t:=t) hst27
 obtain ⟨fp30_,hk30_⟩:=St.stf (S:=S1) (by have h_:=hi29_.u10.c0.u2.u2; rw [← hAB] at h_; exact h_) (hrw1) (hrr1)
 exact PaPost.yes (ld_zero hL.1 (by simpa using hs16)) (by have h_:=(Ev.load hok hL.1).1.cur t.n (hok1.keys t htm_t).1; rw [curF_mem hok1.nodup htm_t] at h_; exact h_) hk30_.u1
theorem spage_nil (n:Int) (w:World):
  Calls Tryz.prog 21 #[.pointer none, .int .i64 n] w (Ret (.tuple #[.agg #[.int .i64 0, .int .i64 0, .slice none 0 0], .bool false]) w):=by
 go_enter Tryz.func21,Tryz.ntmps21
 have hst0:=St.start w
 refine wp_seq (sqr (sqal #[vi 0,vi 0, .slice none 0 0] hst0 fun B4_1 W1 hst1=>?_))
 refine sqp [.k 5 (.bool false)] ?_
 refine then_normal (wp_seq (wp_seq (sqr (sqp [.m 8 0] ?_))))
 refine sqv (.bool true) hst1 (by
   exact sv0 rfl rfl rfl rfl rfl (fun _ _ _ h=>h) fun ρ β W X cx=>by
    have fF8:ρ (.tmp 8)= .pointer none:=(cx.ou 8)
    simp [go_sem,cx.sees.const,fF8]) fun W4 hst4=>?_
 refine then_normal (wct rfl (wp_seq (sqr (sqp [.k 10 (.agg #[vi 0,vi 0, .slice none 0 0])] ?_))))
 refine sqst (n:=3) 0 #[vi 0,vi 0, .slice none 0 0] hst4 fun W6 hst6=>?_
 refine sqp [.k 5 (.bool false)] ?_
 refine then_normal (wp_ret (then_ret ?_))
 refine bpr (.tuple #[.agg #[vi 0,vi 0, .slice none 0 0], .bool false]) (results_2 Tryz.results21 (rpa (hst6.blk 0 rfl) 0 3) rpt) ?_
 exact Ret.of rfl hst6.ext
theorem sflush_nil (n:Int) (w:World):
  Calls Tryz.prog 27 #[.pointer none] w (Ret (.int .i64 1) w):=by
 go_enter Tryz.func27,Tryz.ntmps27
 have hst0:=St.start w
 refine wp_seq (sqr (sqp [.k 2 (vi 0)] ?_))
 refine then_normal (wp_seq (wp_seq (sqr (sqp [.m 3 0] ?_))))
 refine sqv (.bool true) hst0 (by
   exact sv0 rfl rfl rfl rfl rfl (fun _ _ _ h=>h) fun ρ β W X cx=>by
    have fF3:ρ (.tmp 3)= .pointer none:=(cx.ou 3)
    simp [go_sem,cx.sees.const,fF3]) fun W3 hst3=>?_
 refine then_normal (wct rfl (wp_seq (sqr (sqp [.k 2 (vi 1)] ?_))))
 refine then_normal (wp_ret (then_ret ?_))
 refine bpr (vi 1) (results_1 Tryz.results27 rpt) ?_
 exact Ret.of rfl hst3.ext
end
section
open Go.RowKit
theorem logF_snoc (L:List RecM) (r:RecM):logF (L++[r])=logF L++frameR r:=by
 rw [logF,List.map_append,catS_app,logF,List.map_cons,List.map_nil,catS_cons,catS_nil,ap_nil]
theorem szF_snoc (L:List RecM) (r:RecM):szF (L++[r])=szF L+(frameR r).size:=by
 rw [szF,szF,List.map_append,List.sum_append]; simp
theorem ends_snoc (L:List RecM) (r:RecM) {z:Int} (h:z=(szF (L++[r]):Int)) {n:Nat} (hn:L.length=n):(endN L n).map (Value.int .i64)++[.int .i64 z]=(endN (L++[r]) (n+1)).map (Value.int .i64):=by
 subst hn h
 have h1:=endN_succ (L++[r]) L.length
 rw [List.take_of_length_le (by simp)] at h1
 rw [← h1]
 congr 2
 rw [endN,endN]
 refine List.map_congr_left fun i hi=>?_
 rw [List.take_append_of_le_length (by have:=List.mem_range.1 hi; omega)]
def apR (S:StM) (r:RecM):DkM×Int:=opD S.D (apE S.D (frameR r)) (apD (frameR r))
/-- a record appended -/
def appF (S:StM) (rt:RcT):StM×Int:=if (apR S rt.r).2≠0 then ({S with D:=(apR S rt.r).1},(apR S rt.r).2) else ({S with D:=(apR S rt.r).1,recs:=S.recs++[rt]},0)
theorem apR_ok {S:StM} {r:RecM} (h:(apR S r).2=0):S.D.off=false∧(S.D.log.size:Int)+((frameR r).size:Int)≤1048576∧(apR S r).1=apD (frameR r) {S.D with left:=decL S.D.left}:=by
 obtain ⟨h1,h2,h3⟩:=opD_ok h
 refine ⟨h1,?_,h3⟩
 unfold apE at h2
 split at h2
 ·cases h2
 ·omega
theorem apR_pgs (S:StM) (r:RecM):(apR S r).1.pgs=S.D.pgs∧(apR S r).1.fl=S.D.fl:=by
 unfold apR
 refine ⟨opD_ind (P:=fun D'=>D'.pgs=S.D.pgs) rfl rfl fun _=>rfl,opD_ind (P:=fun D'=>D'.fl=S.D.fl) rfl rfl fun _=>rfl⟩
theorem apR_no {S:StM} {r:RecM} (h:(apR S r).2≠0):(apR S r).1.log=S.D.log:=by
 unfold apR opD at h ⊢
 split
 ·rfl
 ·rename_i ho
  rw [if_neg ho] at h
  split
  ·rfl
  ·rename_i he
   rw [if_neg he] at h
   split
   ·rfl
   ·rename_i ha
    rw [if_neg ha] at h
    exact absurd rfl h
theorem SOk.append {S:StM} {c:Nat} (h:SOk S c) {rt:RcT} (hr:recR rt.r=true):SOk (appF S rt).1 c:=by
 obtain ⟨hp,hf⟩:=apR_pgs S rt.r
 unfold appF
 have hcl:∀ t∈S.pool,t.dirty=false→t.pg.p=shP (apR S rt.r).1 t.n:=fun t ht hd=>by rw [shP_eq hp]; exact h.cl t ht hd
 split
 ·rename_i he
  have hl:=apR_no he
  exact ⟨h.bufs,by show (apR S rt.r).1.pgs.length≤400; rw [hp]; exact h.pgs,by show ∀ x∈(apR S rt.r).1.pgs, _; rw [hp]; exact h.ws,h.time,h.ni,h.nt,h.right,h.nodup,h.len,fun t ht=>by show 0≤t.n∧t.n < ((apR S rt.r).1.pgs.length:Int); rw [hp]; exact h.keys t ht,h.recs,hl.trans h.log,by show (apR S rt.r).1.log.size≤ _; rw [hl]; exact h.lsz,by show (apR S rt.r).1.fl≤(apR S rt.r).1.log.size; rw [hl,hf]; exact h.fl,hcl⟩
 ·rename_i he
  have he:(apR S rt.r).2=0:=by simpa using he
  obtain ⟨h1,h2,h3⟩:=apR_ok he
  have hl:(apR S rt.r).1.log=S.D.log++frameR rt.r:=by rw [h3]; rfl
  exact ⟨h.bufs,by show (apR S rt.r).1.pgs.length≤400; rw [hp]; exact h.pgs,by show ∀ x∈(apR S rt.r).1.pgs, _; rw [hp]; exact h.ws,h.time,h.ni,h.nt,h.right,h.nodup,h.len,fun t ht=>by show 0≤t.n∧t.n < ((apR S rt.r).1.pgs.length:Int); rw [hp]; exact h.keys t ht,fun r hr2=>by
   have hr2:r∈(S.recs++[rt]).map RcT.r:=hr2
   rw [List.map_append] at hr2
   rcases List.mem_append.1 hr2 with h4 | h4
   ·exact h.recs r h4
   ·rw [List.mem_singleton.1 h4]; exact hr,by show (apR S rt.r).1.log=logF ((S.recs++[rt]).map RcT.r); rw [hl,h.log,List.map_append]; exact (logF_snoc _ _).symm,by show (apR S rt.r).1.log.size≤ _; rw [hl,ByteArray.size_append]; omega,by show (apR S rt.r).1.fl≤(apR S rt.r).1.log.size; rw [hl,hf,ByteArray.size_append]; have:=h.fl; omega,hcl⟩
theorem appF_a {S:StM} {rt:RcT} (h:(apR S rt.r).2≠0):appF S rt=({S with D:=(apR S rt.r).1},(apR S rt.r).2):=if_pos h
theorem appF_b {S:StM} {rt:RcT} (h:(apR S rt.r).2=0):appF S rt=({S with D:=(apR S rt.r).1,recs:=S.recs++[rt]},0):=if_neg (by rw [h]; decide)
theorem fr_size {r:RecM} (h:recR r=true):(frameR r).size≤200000:=by
 rw [frameR_size h]
 have:=bytesR_size r
 omega
def ClRPost (r:RecM) (w:World) (e:Ending) (w':World):Prop:=∃ A c,e= .returned (recV r A c)∧St w [] [entR ⟨r,A,c⟩] w'
def ClEPost (l:List EdT) (w:World) (e:Ending) (w':World):Prop:=∃ A c,e= .returned (.slice A l.length c)∧St w [] [eO 84 3 (.slice A l.length c) l.length (l.flatMap edC)] w'
theorem clE_no {A:Option Addr} {l:List EdT} {w w':World} (hA:At w A (l.flatMap edC)) (h:A=none) (hs:St w [] [eO 84 3 (.slice none 0 0) 0 []] w'):ClEPost l w (.returned (.slice none 0 0)) w':=by
 subst h
 have h1:=at_none hA
 cases l with
 | nil=>exact ⟨none,0,rfl,hs⟩
 | cons x l=>simp [edC] at h1
theorem Tryz.infoEdJ:(Tryz.prog.info? 84).map (fun i=>(i.zero,i.size,i.bytes))=some (some (.agg #[.int .i64 0, .int .i64 0, .string ⟨#[]⟩]),3,32):=by kernel_rfl
theorem eds_one (l:List EdT):∀ v∈l.flatMap edC,v.oneCell'=true:=fun v hv=>by
 obtain ⟨x, _,h⟩:=List.mem_flatMap.1 hv
 simp only [edC,List.mem_cons,List.not_mem_nil,or_false] at h
 rcases h with rfl | rfl | rfl<;>rfl
theorem sappend_any (sb db:Nat) (S:StM) (rt:RcT) (c:Nat) (fp:List Nat) (w:World) (hB:(eSt sb db S fp).holds w) (hlt:∀ k∈fp,k < w.heap.size) (hok:SOk S c) (hr:recR rt.r=true) (hrt:rt∈S.rr):
  Calls Tryz.prog 57 #[.pointer (some ⟨sb,0,none⟩), .agg #[.int .i64 rt.r.kind, .int .i64 rt.r.xid, .int .i64 rt.r.tbl, .slice none 0 0, .slice none 0 0, .slice rt.A rt.r.eds.length rt.c, .slice none 0 0, .string rt.r.note]] w (StPost sb db (appF S rt) fp w):=by
 have st1:St w fp [eSt sb db S fp] w:=St.lend hB (eSt_loc _ _ _ _) hlt
 go_enter Tryz.func57,Tryz.ntmps57
 have hst0:=st1
 obtain ⟨⟨hrw,hrr⟩,mb,RA,rc,EA,ec,ib,tb,fpd,hv1_⟩:=hst0.unf
 have hlz:=hok.lsz
 have hll:S.recs.length≤1048576:=by have h1:=szF_len hok.recs; have h3:=congrArg ByteArray.size hok.log; rw [logF_size] at h3; have h2:S.L.length=S.recs.length:=List.length_map ..; omega
 have hro:=recR_ok hr
 have hez:∀ e∈rt.r.eds,e.2.2.size≤9223372036854775807:=fun e he=>by have:=edR_item (hro.eds e he); omega
 have hns:rt.r.note.size≤9223372036854775807:=by have:=hro.note; omega
 have hnl:=hro.many
 have hfs:=fr_size hr
 refine wp_seq (sqr ?_)
 refine sqbx #[vi rt.r.kind,vi rt.r.xid,vi rt.r.tbl, .slice none 0 0, .slice none 0 0, .slice rt.A rt.r.eds.length rt.c, .slice none 0 0, .string rt.r.note] hv1_ fun B3_2 W2 hst2=>?_
 refine sqp [.k 4 (vi 0)] ?_
 refine then_normal (wp_seq (sqr ?_))
 refine sqlb 10 8 hst2 ?_
 refine sqk (.string (frameR rt.r)) hst2 (fun cx=>⟨_,jframe_any rt.r.kind rt.r.xid rt.r.tbl _ _ rt.r.eds rt.r.note _ (eRc_at (CtxV.holdF cx (cx.init 6 _ rfl) rfl) hrt) (by omega) hez hns,(map1 (cx.ou 7))⟩) fun W5 hst5=>?_
 refine sqp [.m 5 8] ?_
 refine then_normal (wp_seq (wp_seq (sqr (sqp [.m 9 0, .k 10 (vp sb), .k 11 (vp sb)] ?_))))
 refine sqld 0 hst5 ?_
 refine sqp [.m 13 5] ?_
 refine sqc0s (fun X_=>X_.fp) (vi ((apR S rt.r).2)) (fun r11_12=>eDk db ((apR S rt.r).1) r11_12) 9 hst5 (by
   refine svA fun ρ β W X cx=>?_
   refine DoesU.call (run_callF (args:=#[vp db, .string (frameR rt.r)]) rfl cx.sees rfl (by kernel_rfl) (map2 (cx.ou 12) (cx.ou 13))) ?_
   refine (kappend_any db S.D (frameR rt.r) _ _ (CtxV.holdF cx (cx.init 9 _ rfl) rfl) (CtxV.ltF cx (cx.init 9 _ rfl) rfl) (by omega) (by omega)).mono ?_
   rintro e W1 ⟨rfl,fp4,hs4⟩
   refine ⟨_,rfl,post_obj (E:=eDk db S.D fpd) [eDk db (apR S rt.r).1 fp4] (cx.init 9 _ rfl) rfl rfl hs4 (fun σ β' X' hs hb hv hN=>?_)⟩
   have hv1:=(hv 14 rfl).1; have hv2:=(hv 14 rfl).2
   exact ⟨hv1.trans rfl,eDk_self ((List.cons.inj hN).1)⟩) fun r11_12 W12 hst12=>?_
 refine sqp [.m 6 14] ?_
 refine then_normal (wp_seq (sqr (sqp [.m 15 6, .k 16 (.bool (((apR S rt.r).2) != 0))] ?_)))
 refine then_normal (wbs (fun hs16=>?_) fun hs16=>?_)
 ·have hs16p:=bne_iff_ne.1 hs16
  refine wp_seq (sqr (sqp [.m 17 6, .m 4 17] ?_))
  refine then_normal (wp_ret (then_ret ?_))
  refine bpr (vi ((apR S rt.r).2)) (results_1 Tryz.results57 rpt) ?_
  obtain ⟨fp19_,hk19_⟩:=St.stf (S:={S with D:=(apR S rt.r).1}) (hst12.u10.c0) (hrw) (hrr)
  exact StPost.of (appF_a (by simpa using hs16)) hk19_
 have hs16p:=bne_eq_false_iff_eq.1 hs16
 refine wp_skip (then_normal (wp_seq ?_))
 have he0:(apR S rt.r).2=0:=by simpa using hs16
 obtain ⟨ho0,hl0,hD0⟩:=apR_ok he0
 obtain ⟨D1,hD1⟩:∃ z,(apR S rt.r).1=z:=⟨_,rfl⟩
 rw [hD1] at hst12 hD0
 have hlg:D1.log=S.D.log++frameR rt.r:=by rw [hD0]; rfl
 have hlg2:(D1.log.size:Int)=(szF (S.L++[rt.r]):Int):=by rw [hlg,ByteArray.size_append,szF_snoc,hok.log,logF_size]
 refine wp_region_Y [0,0,2,6,14,0,32,126,255,511,1023] [[],[],[],[],[0],[10],[],[11,4],[],[],[0]] [[],[],[],[],[],[],[11],[12],[],[],[13]] [[],[],[],[],[],[],[],[4],[],[],[0]] [.k 18 (vp sb), .k 19 (vp sb), .k 20 (vp sb), .k 21 (.pointer (some ⟨sb,4,none⟩)), .c 22 (.slice RA S.recs.length rc), .c 23 (.agg #[vi rt.r.kind,vi rt.r.xid,vi rt.r.tbl, .slice none 0 0, .slice none 0 0, .slice rt.A rt.r.eds.length rt.c, .slice none 0 0, .string rt.r.note]), .a 24, .a 25, .k 26 (vp sb), .k 27 (.pointer (some ⟨sb,4,none⟩)), .n] (fun ix σ β X=>match ix with | 0=>True | 1=>True | 2=>True | 3=>True | 4=>True | 5=>True | 6=>σ 24= .slice ((some ⟨(pb' (β 24)),0,none⟩)) 1 1∧X 11=eO 27 8 (.slice ((some ⟨(pb' (β 24)),0,none⟩)) 1 1) 1 (rcC rt) | 7=>σ 25= .slice (sA (β 25)) (S.recs.length+1) (sC (β 25))∧X 12=eO 27 8 (.slice (sA (β 25)) (S.recs.length+1) (sC (β 25))) (S.recs.length+1) ((S.recs++[rt]).flatMap rcC) | 8=>True | 9=>True | 10=>X 13=eB sb 109 #[vp db,vi S.bufs, .map (some mb),vi S.time, .slice (sA (β 25)) (S.recs.length+1) (sC (β 25)), .slice EA S.recs.length ec, .map (some ib), .map (some tb),vi S.frm] | _=>True) [1,2,3,5,6,7,8,9,10,11,12,13] [4,5,6,7,10] [(18,0,10,28)] hst12 ?_ ?_ ?_
 ·exact fun ix _ _ _ _ _ _ hs hb hx h=>match ix,h with
  | 6,h=>by dsimp only; rw [← hs 24 rfl,← hb 24 rfl,← hx 11 rfl]; exact h
  | 7,h=>by dsimp only; rw [← hs 25 rfl,← hb 25 rfl,← hx 12 rfl]; exact h
  | 10,h=>by dsimp only; rw [← hb 25 rfl,← hx 13 rfl]; exact h
  | 0, _ | 1, _ | 2, _ | 3, _ | 4, _ | 5, _ | 8, _ | 9, _ | _+11, _=>trivial
 ·refine ⟨?_,?_,?_,?_,?_,trivial⟩
  ·exact xs4 rfl id fun cx=>run_load1 rfl (by kernel_rfl) (cx.an 3) ((cx.bi 0 rfl).cell 4)
  ·exact xs4 rfl id fun cx=>run_loadB (n:=8) rfl (by kernel_rfl) (by kernel_rfl) (cx.ou 3) (cx.bi 10 rfl) (nle rfl) rfl
  ·refine svA fun ρ β W X cx=>?_
   have fF23:ρ (.tmp 23)= .agg #[vi rt.r.kind,vi rt.r.xid,vi rt.r.tbl, .slice none 0 0, .slice none 0 0, .slice rt.A rt.r.eds.length rt.c, .slice none 0 0, .string rt.r.note]:=(cx.an 5)
   exact dv_litN (e:=27) (sz:=8) (xs:=[vi rt.r.kind,vi rt.r.xid,vi rt.r.tbl, .slice none 0 0, .slice none 0 0, .slice rt.A rt.r.eds.length rt.c, .slice none 0 0, .string rt.r.note]) rfl (by simp [go_sem,fF23]) rfl (by decide) rfl rfl (fun σ β' X' hs hb hv hx=>⟨hv,hx⟩)
  ·refine svA fun ρ β W X cx=>?_
   obtain ⟨i0,hi0,hz0,hz1,hz2⟩:=info_parts Tryz.infoRecJ
   refine dv_appendN (n:=S.recs.length) (m:=1) (nm:=S.recs.length+1) (sz:=8) (xs:=S.recs.flatMap rcC) (news:=rcC rt) (xs':=(S.recs++[rt]).flatMap rcC) rfl (ty:=66) rfl (by kernel_rfl) hi0 hz0 hz1 hz2 rfl (by decide) (cx.an 4) cx (cx.init 4 _ rfl) rfl (dTn (cx.an 6)).1 (by rfl) (At.of_ownN (cx.row (dTn (cx.an 6)).2 rfl)) (by simp [rcC,Value.oneCell']) (by simp only [maxLen]; omega) (by omega) rfl rfl rfl (by omega) ((rc_snoc S.recs rt)) (fun σ β' X' hs hb hv hx=>?_)
   exact ⟨hv,hx⟩
  ·refine svA fun ρ β W X cx=>?_
   exact dv_store (n:=1) rfl (cx.an 9) (dTn (cx.an 7)).1 (by kernel_rfl) (by kernel_rfl) (by kernel_rfl) cx (cx.init 0 _ rfl) rfl (nle rfl) (by kernel_rfl) rfl rfl rfl (fun σ β' X' hs hb hx=>by rw [hb 25]; exact hx)
 intro σ β X W21 hD hst21 fr hfr
 obtain ⟨B24_21,hu_B24_21⟩:∃ z,pb' (β 24)=z:=⟨_,rfl⟩
 obtain ⟨A25_21,hu_A25_21⟩:∃ z,sA (β 25)=z:=⟨_,rfl⟩
 obtain ⟨c25_21,hu_c25_21⟩:∃ z,sC (β 25)=z:=⟨_,rfl⟩
 simp only [exq 11 ((dTn (hD 6 lq)).2),exq 12 ((dTn (hD 7 lq)).2),exq 13 ((dTn (hD 10 lq))),hu_B24_21,hu_A25_21,hu_c25_21] at hst21
 simp only [ed 24 ((dTn (hD 6 lq)).1),ed 25 ((dTn (hD 7 lq)).1),hu_B24_21,hu_A25_21,hu_c25_21] at hfr
 clear hD hu_B24_21 hu_A25_21 hu_c25_21; subst hfr; clear σ β X
 refine then_normal (wp_seq (wp_region_Y [0,0,2,6,14,0,32,96,224,480,992,2016,4094,8191,16383,32767] [[],[],[],[],[11],[],[],[],[11],[7],[],[],[12,3],[],[],[11]] [[],[],[],[],[],[],[],[],[],[],[],[12],[13],[],[],[14]] [[],[],[],[],[],[],[],[],[],[],[],[],[3],[],[],[11]] [.k 28 (vp sb), .k 29 (vp sb), .k 30 (vp sb), .k 31 (.pointer (some ⟨sb,5,none⟩)), .c 32 (.slice EA S.recs.length ec), .k 33 (vp sb), .k 34 (vp sb), .k 35 (vp sb), .c 36 (vp db), .c 37 (.string D1.log), .k 38 (vi ((D1.log.size:Int))), .a 39, .a 40, .k 41 (vp sb), .k 42 (.pointer (some ⟨sb,5,none⟩)), .n] (fun ix σ β X=>match ix with | 0=>True | 1=>True | 2=>True | 3=>True | 4=>True | 5=>True | 6=>True | 7=>True | 8=>True | 9=>True | 10=>True | 11=>σ 39= .slice (sA (β 39)) 1 1∧X 12=eO 3 1 (.slice (sA (β 39)) 1 1) 1 ([vi ((D1.log.size:Int))]) | 12=>σ 40= .slice (sA (β 40)) (S.recs.length+1) (sC (β 40))∧X 13=eO 3 1 (.slice (sA (β 40)) (S.recs.length+1) (sC (β 40))) (S.recs.length+1) ((endN (S.L++[rt.r]) (S.recs.length+1)).map (Value.int .i64)) | 13=>True | 14=>True | 15=>X 14=eB sb 109 #[vp db,vi S.bufs, .map (some mb),vi S.time, .slice A25_21 (S.recs.length+1) c25_21, .slice (sA (β 40)) (S.recs.length+1) (sC (β 40)), .map (some ib), .map (some tb),vi S.frm] | _=>True) [0,1,2,4,5,6,7,8,9,10,12,13,14] [4,8,9,11,12,15] [(28,0,15,43)] hst21 ?_ ?_ ?_))
 ·exact fun ix _ _ _ _ _ _ hs hb hx h=>match ix,h with
  | 11,h=>by dsimp only; rw [← hs 39 rfl,← hb 39 rfl,← hx 12 rfl]; exact h
  | 12,h=>by dsimp only; rw [← hs 40 rfl,← hb 40 rfl,← hx 13 rfl]; exact h
  | 15,h=>by dsimp only; rw [← hb 40 rfl,← hx 14 rfl]; exact h
  | 0, _ | 1, _ | 2, _ | 3, _ | 4, _ | 5, _ | 6, _ | 7, _ | 8, _ | 9, _ | 10, _ | 13, _ | 14, _ | _+16, _=>trivial
 ·refine ⟨?_,?_,?_,?_,?_,?_,trivial⟩
  ·exact xs4 rfl id fun cx=>run_load1 rfl (by kernel_rfl) (cx.an 3) ((cx.bi 11 rfl).cell 5)
  ·exact xs4 rfl id fun cx=>run_load1 rfl (by kernel_rfl) (cx.an 7) ((cx.bi 11 rfl).cell 0)
  ·exact xsc rfl id rfl rfl fun cx=>⟨_,klog_any db D1 _ (eDk_at (CtxV.holdF cx (cx.init 7 _ rfl) rfl)),(map1 (cx.an 8))⟩
  ·refine svA fun ρ β W X cx=>?_
   have fF38:ρ (.tmp 38)=vi ((D1.log.size:Int)):=(cx.an 10)
   exact dv_lit (e:=3) (xs:=[vi ((D1.log.size:Int))]) rfl (by simp [go_sem,fF38]) rfl (by decide) rfl rfl (fun σ β' X' hs hb hv hx=>⟨hv,hx⟩)
  ·refine svA fun ρ β W X cx=>?_
   obtain ⟨i0,hi0,hz0,hz1,hz2⟩:=info_parts Tryz.infoIntJ
   refine dv_append (n:=S.recs.length) (m:=1) (nm:=S.recs.length+1) (xs:=(endN S.L S.recs.length).map (Value.int .i64)) (news:=[vi ((D1.log.size:Int))]) (xs':=(endN (S.L++[rt.r]) (S.recs.length+1)).map (Value.int .i64)) rfl (ty:=25) rfl (by kernel_rfl) hi0 hz0 hz1 hz2 rfl (cx.an 4) cx (cx.init 3 _ rfl) rfl (dTn (cx.an 11)).1 (by first | (simp; done) | (simp; omega)) (At.of_own (cx.row (dTn (cx.an 11)).2 rfl)) (by simp [Value.oneCell']) (by simp only [maxLen]; omega) (by omega) rfl rfl rfl (by omega) ((ends_snoc S.L rt.r hlg2 (List.length_map ..))) (fun σ β' X' hs hb hv hx=>?_)
   exact ⟨hv,hx⟩
  ·refine svA fun ρ β W X cx=>?_
   exact dv_store (n:=1) rfl (cx.an 14) (dTn (cx.an 12)).1 (by kernel_rfl) (by kernel_rfl) (by kernel_rfl) cx (cx.init 11 _ rfl) rfl (nle rfl) (by kernel_rfl) rfl rfl rfl (fun σ β' X' hs hb hx=>by rw [hb 40]; exact hx)
 intro σ β X W22 hD hst22 fr hfr
 obtain ⟨A39_22,hu_A39_22⟩:∃ z,sA (β 39)=z:=⟨_,rfl⟩
 obtain ⟨A40_22,hu_A40_22⟩:∃ z,sA (β 40)=z:=⟨_,rfl⟩
 obtain ⟨c40_22,hu_c40_22⟩:∃ z,sC (β 40)=z:=⟨_,rfl⟩
 simp only [exq 12 ((dTn (hD 11 lq)).2),exq 13 ((dTn (hD 12 lq)).2),exq 14 ((dTn (hD 15 lq))),hu_A39_22,hu_A40_22,hu_c40_22] at hst22
 simp only [ed 39 ((dTn (hD 11 lq)).1),ed 40 ((dTn (hD 12 lq)).1),hu_A39_22,hu_A40_22,hu_c40_22] at hfr
 clear hD hu_A39_22 hu_A40_22 hu_c40_22; subst hfr; clear σ β X
 refine then_normal (wp_seq (sqr (sqp [.k 4 (vi 0)] ?_)))
 refine then_normal (wp_ret ?_)
 refine bpr (vi 0) (results_1 Tryz.results57 rpt) ?_
 obtain ⟨fp24_,hk24_⟩:=St.stf (S:={S with D:=D1,recs:=S.recs++[rt]}) (by have h_:=hst22.u7.c0.u7.c0.u8.c0.u8.u8.u4.u4.u4.u9; rw [stL,stC]; dsimp only [StM.L]; rw [List.length_append,List.length_singleton,List.map_append]; exact h_) (hrw) (fun t ht=>(List.mem_append.1 ht).elim (hrr t) fun h=>by rw [List.mem_singleton.1 h]; exact hrt)
 exact StPost.of ((appF_b he0).trans (by rw [hD1])) hk24_
theorem clE_any (A:Option Addr) (c:Nat) (l:List EdT) (w:World) (hA:At w A (l.flatMap edC)) (hI:l.length≤100000):
  Calls Tryz.prog 115 #[.slice A l.length c] w (ClEPost l w):=by
 go_enter Tryz.func115,Tryz.ntmps115
 have hst0:=St.start w
 refine wp_seq (sqr (sqp [.k 2 (.slice none 0 0)] ?_))
 refine then_normal (wp_seq (wp_seq (sqr (sqp [.m 3 0, .k 4 (.bool A.isNone)] ?_))))
 refine then_normal (wbs (fun hs4=>?_) fun hs4=>?_)
 ·refine wp_seq (sqr (sqp [.k 2 (.slice none 0 0)] ?_))
  refine then_normal (wp_ret (then_ret ?_))
  refine bpr (.slice none 0 0) (results_1 Tryz.results115 rpt) ?_
  have hn6:=nilrowN hst0 84 3
  simp only [List.cons_append,List.nil_append] at hn6
  exact clE_no hA (by simpa using hs4) hn6
 refine wp_skip (then_normal (wp_seq ?_))
 obtain ⟨a,rfl⟩:∃ a,A=some a:=by cases A with | none=>cases hs4 | some a=>exact ⟨a,rfl⟩
 refine sqr ?_
 refine sqli 84 3 0 [] hst0 (@fun ρ β W X cx=>by simp [go_sem]) fun B5_7 W7 hst7=>?_
 refine sqp [.m 6 0] ?_
 refine sqap l.length (l.flatMap edC) 0 hst7 Tryz.infoEdJ (fun cx=>(hA.ext cx.upd.to_ext)) (hl:=by rw [flatLen edC_len]) (h1:=eds_one _) fun A7_9 c7_9 W9 hst9=>?_
 refine sqp [.m 2 7] ?_
 refine then_normal (wp_ret ?_)
 refine bpr (.slice A7_9 l.length c7_9) (results_1 Tryz.results115 rpt) ?_
 exact ⟨_, _,rfl,hst9.pick [0] (by decide) rfl⟩
theorem clV_nil (w:World):
  Calls Tryz.prog 114 #[.slice none 0 0] w (Ret (.slice none 0 0) w):=by
 go_enter Tryz.func114,Tryz.ntmps114
 have hst0:=St.start w
 refine wp_seq (sqr (sqp [.k 2 (.slice none 0 0)] ?_))
 refine then_normal (wp_seq (wp_seq (sqr (sqp [.m 3 0, .k 4 (.bool true)] ?_))))
 refine then_normal (wct rfl (wp_seq (sqr (sqp [.k 2 (.slice none 0 0)] ?_))))
 refine then_normal (wp_ret (then_ret ?_))
 refine bpr (.slice none 0 0) (results_1 Tryz.results114 rpt) ?_
 exact Ret.of rfl hst0.ext
theorem clI_nil (w:World):
  Calls Tryz.prog 116 #[.slice none 0 0] w (Ret (.slice none 0 0) w):=by
 go_enter Tryz.func116,Tryz.ntmps116
 have hst0:=St.start w
 refine wp_seq (sqr (sqp [.k 2 (.slice none 0 0)] ?_))
 refine then_normal (wp_seq (wp_seq (sqr (sqp [.m 3 0, .k 4 (.bool true)] ?_))))
 refine then_normal (wct rfl (wp_seq (sqr (sqp [.k 2 (.slice none 0 0)] ?_))))
 refine then_normal (wp_ret (then_ret ?_))
 refine bpr (.slice none 0 0) (results_1 Tryz.results116 rpt) ?_
 exact Ret.of rfl hst0.ext
theorem sclone_any (A:Option Addr) (c:Nat) (r:RecM) (w:World) (hA:At w A (r.eds.flatMap edC)) (hI:r.eds.length≤100000):
  Calls Tryz.prog 52 #[.agg #[.int .i64 r.kind, .int .i64 r.xid, .int .i64 r.tbl, .slice none 0 0, .slice none 0 0, .slice A r.eds.length c, .slice none 0 0, .string r.note]] w (ClRPost r w):=by
 go_enter Tryz.func52,Tryz.ntmps52
 have hst0:=St.start w
 refine wp_seq (sqr ?_)
 refine sqbx #[vi r.kind,vi r.xid,vi r.tbl, .slice none 0 0, .slice none 0 0, .slice A r.eds.length c, .slice none 0 0, .string r.note] hst0 fun B1_1 W1 hst1=>?_
 refine sqal #[vi 0,vi 0,vi 0, .slice none 0 0, .slice none 0 0, .slice none 0 0, .slice none 0 0, .string ByteArray.empty] hst1 fun B2_2 W2 hst2=>?_
 refine then_normal (wp_seq (wp_region_Y [0,1,3,0,8,31,0,64,255,0,512,2047,1759,8191,16383,32767,65535,131071,262143,524287] [[],[0],[],[],[0],[],[],[0],[],[],[0],[],[],[0],[],[3],[],[4],[],[5]] [[],[],[],[],[],[],[],[],[2],[],[],[],[],[3],[],[4],[],[5],[],[6]] [[],[],[],[],[],[],[],[],[],[],[],[],[],[0],[],[3],[],[4],[],[5]] [.k 3 (.pointer (some ⟨B1_1,3,none⟩)), .c 4 (.slice none 0 0), .c 5 (.slice none 0 0), .k 6 (.pointer (some ⟨B1_1,4,none⟩)), .c 7 (.slice none 0 0), .c 8 (.slice none 0 0), .k 9 (.pointer (some ⟨B1_1,5,none⟩)), .c 10 (.slice A r.eds.length c), .a 11, .k 12 (.pointer (some ⟨B1_1,6,none⟩)), .c 13 (.slice none 0 0), .c 14 (.slice none 0 0), .k 15 (.pointer (some ⟨B1_1,3,none⟩)), .n, .k 16 (.pointer (some ⟨B1_1,4,none⟩)), .n, .k 17 (.pointer (some ⟨B1_1,5,none⟩)), .n, .k 18 (.pointer (some ⟨B1_1,6,none⟩)), .n] (fun ix σ β X=>match ix with | 0=>True | 1=>True | 2=>True | 3=>True | 4=>True | 5=>True | 6=>True | 7=>True | 8=>σ 11= .slice (sA (β 11)) r.eds.length (sC (β 11))∧X 2=eO 84 3 (.slice (sA (β 11)) r.eds.length (sC (β 11))) r.eds.length (r.eds.flatMap edC) | 9=>True | 10=>True | 11=>True | 12=>True | 13=>X 3=eB B1_1 27 #[vi r.kind,vi r.xid,vi r.tbl, .slice none 0 0, .slice none 0 0, .slice A r.eds.length c, .slice none 0 0, .string r.note] | 14=>True | 15=>X 4=eB B1_1 27 #[vi r.kind,vi r.xid,vi r.tbl, .slice none 0 0, .slice none 0 0, .slice A r.eds.length c, .slice none 0 0, .string r.note] | 16=>True | 17=>X 5=eB B1_1 27 #[vi r.kind,vi r.xid,vi r.tbl, .slice none 0 0, .slice none 0 0, .slice (sA (β 11)) r.eds.length (sC (β 11)), .slice none 0 0, .string r.note] | 18=>True | 19=>X 6=eB B1_1 27 #[vi r.kind,vi r.xid,vi r.tbl, .slice none 0 0, .slice none 0 0, .slice (sA (β 11)) r.eds.length (sC (β 11)), .slice none 0 0, .string r.note] | _=>True) [1,2,6] [1,2,4,5,7,8,10,11,13,15,17,19] [(3,0,19,19)] hst2 ?_ ?_ ?_))
 ·exact fun ix _ _ _ _ _ _ hs hb hx h=>match ix,h with
  | 8,h=>by dsimp only; rw [← hs 11 rfl,← hb 11 rfl,← hx 2 rfl]; exact h
  | 13,h=>by dsimp only; rw [← hx 3 rfl]; exact h
  | 15,h=>by dsimp only; rw [← hx 4 rfl]; exact h
  | 17,h=>by dsimp only; rw [← hb 11 rfl,← hx 5 rfl]; exact h
  | 19,h=>by dsimp only; rw [← hb 11 rfl,← hx 6 rfl]; exact h
  | 0, _ | 1, _ | 2, _ | 3, _ | 4, _ | 5, _ | 6, _ | 7, _ | 9, _ | 10, _ | 11, _ | 12, _ | 14, _ | 16, _ | 18, _ | _+20, _=>trivial
 ·refine ⟨?_,?_,?_,?_,?_,?_,?_,?_,?_,?_,?_,?_,trivial⟩
  ·exact xs4 rfl id fun cx=>run_load1 rfl (by kernel_rfl) (cx.an 0) ((cx.bi 0 rfl).cell 3)
  ·exact xsc rfl id rfl rfl fun cx=>⟨_,clV_nil _,(map1 (cx.an 1))⟩
  ·exact xs4 rfl id fun cx=>run_load1 rfl (by kernel_rfl) (cx.an 3) ((cx.bi 0 rfl).cell 4)
  ·exact xsc rfl id rfl rfl fun cx=>⟨_,clV_nil _,(map1 (cx.an 4))⟩
  ·exact xs4 rfl id fun cx=>run_load1 rfl (by kernel_rfl) (cx.an 6) ((cx.bi 0 rfl).cell 5)
  ·refine svA fun ρ β W X cx=>?_
   refine DoesU.call (run_callF (args:=#[.slice A r.eds.length c]) rfl cx.sees rfl (by kernel_rfl) (map1 (cx.an 7))) ?_
   refine (clE_any A c r.eds _ (hA.ext cx.upd.to_ext) hI).mono ?_
   rintro e W1 ⟨A4,c4,rfl,hs4⟩
   refine ⟨_,rfl,post_st [eO 84 3 (.slice A4 r.eds.length c4) r.eds.length (r.eds.flatMap edC)] rfl rfl hs4 (fun σ β' X' hs hb hv hN=>?_)⟩
   have hv1:=(hv 11 rfl).1; have hv2:=(hv 11 rfl).2
   exact ⟨hv1.trans (by rw [hv2]; rfl),(by rw [hv2]; exact (List.cons.inj hN).1)⟩
  ·exact xs4 rfl id fun cx=>run_load1 rfl (by kernel_rfl) (cx.an 9) ((cx.bi 0 rfl).cell 6)
  ·exact xsc rfl id rfl rfl fun cx=>⟨_,clI_nil _,(map1 (cx.an 10))⟩
  ·refine svA fun ρ β W X cx=>?_
   exact dv_store (n:=1) rfl (cx.an 12) (cx.an 2) (by kernel_rfl) (by kernel_rfl) (by kernel_rfl) cx (cx.init 0 _ rfl) rfl (nle rfl) (by kernel_rfl) rfl rfl rfl (fun σ β' X' hs hb hx=>hx)
  ·refine svA fun ρ β W X cx=>?_
   exact dv_store (n:=1) rfl (cx.an 14) (cx.an 5) (by kernel_rfl) (by kernel_rfl) (by kernel_rfl) cx (dTn (cx.an 13)) rfl (nle rfl) (by kernel_rfl) rfl rfl rfl (fun σ β' X' hs hb hx=>hx)
  ·refine svA fun ρ β W X cx=>?_
   exact dv_store (n:=1) rfl (cx.an 16) (dTn (cx.an 8)).1 (by kernel_rfl) (by kernel_rfl) (by kernel_rfl) cx (dTn (cx.an 15)) rfl (nle rfl) (by kernel_rfl) rfl rfl rfl (fun σ β' X' hs hb hx=>by rw [hb 11]; exact hx)
  ·refine svA fun ρ β W X cx=>?_
   exact dv_store (n:=1) rfl (cx.an 18) (cx.an 11) (by kernel_rfl) (by kernel_rfl) (by kernel_rfl) cx (dTn (cx.an 17)) rfl (nle rfl) (by kernel_rfl) rfl rfl rfl (fun σ β' X' hs hb hx=>by rw [hb 11]; exact hx)
 intro σ β X W3 hD hst3 fr hfr
 obtain ⟨A11_3,hu_A11_3⟩:∃ z,sA (β 11)=z:=⟨_,rfl⟩
 obtain ⟨c11_3,hu_c11_3⟩:∃ z,sC (β 11)=z:=⟨_,rfl⟩
 simp only [exq 2 ((dTn (hD 8 lq)).2),exq 6 ((dTn (hD 19 lq))),hu_A11_3,hu_c11_3] at hst3
 simp only [ed 11 ((dTn (hD 8 lq)).1),hu_A11_3,hu_c11_3] at hfr
 clear hD hu_A11_3 hu_c11_3; subst hfr; clear σ β X
 refine then_normal (wp_seq (sqr ?_))
 refine sqlb 2 8 hst3 ?_
 refine sqst (n:=8) 0 #[vi r.kind,vi r.xid,vi r.tbl, .slice none 0 0, .slice none 0 0, .slice A11_3 r.eds.length c11_3, .slice none 0 0, .string r.note] hst3 fun W5 hst5=>?_
 refine then_normal (wp_ret ?_)
 refine bpr (.agg #[vi r.kind,vi r.xid,vi r.tbl, .slice none 0 0, .slice none 0 0, .slice A11_3 r.eds.length c11_3, .slice none 0 0, .string r.note]) (results_cell (n:=8) Tryz.results52 rfl (by kernel_rfl) (by kernel_rfl) (hst5.blk 0 rfl) rfl) ?_
 exact ⟨_, _,rfl,hst5.pick [1] (by decide) rfl⟩
end
section
open Go.RowKit
/-- the page that page.Do hands back -/
def doR (p:PgS) (e:EdT) (n:Int):PgS:=if doE p e n=0 then doV p e n else pgs0
theorem doR_pos {p:PgS} {e:EdT} {n:Int} (h:doE p e n=0):doR p e n=doV p e n:=if_pos h
theorem do_uni {p:PgS} {e:EdT} {n:Int} {f:FuncId} {args:Array Value} {w:World} (h:Calls Tryz.prog f args w (DoPost p e n w)):Calls Tryz.prog f args w (PgPost (doR p e n).1 (doR p e n).2.1 (doR p e n).2.2 (doE p e n) w):=by
 refine h.mono fun e' w' h=>?_
 unfold DoPost at h
 split at h
 ·rename_i h0
  rw [doR_pos h0,h0]; exact h
 ·rename_i h0
  rw [doR,if_neg h0]; exact h
/-- the page that page.Read hands back -/
theorem rd_uni {s:ByteArray} {f:FuncId} {args:Array Value} {w:World} (h:Calls Tryz.prog f args w (RxPost s w)):Calls Tryz.prog f args w (fun e w'=>∃ er,PgPost (rdP s).1 (rdP s).2.1 (rdP s).2.2 er w e w'):=by
 refine h.mono fun e' w' h=>?_
 unfold RxPost at h
 rcases hx:rdX s with _ | p
 ·rw [hx] at h
  obtain ⟨er, _,h1,h2⟩:=h
  rw [rdP_none hx]
  exact ⟨er,none,0,h1,World.ownsRow_nil _ _ _ _,h2⟩
 ·rw [hx] at h
  rw [rdP_some hx]
  exact ⟨0,h⟩
theorem LdR.rr {S S':StM} {n er:Int} (hl:LdR S n S' er):S'.rr=S.rr:=by
 have hc:∀ (S:StM) (t:BfT),(cleanF S t).1.rr=S.rr:=fun S t=>by
  unfold cleanF
  split
  ·unfold writeF
   split<;>rfl
  ·rfl
 have he:∀ (S:StM) (t:BfT),(evictF S t).1.rr=S.rr:=fun S t=>by
  unfold evictF
  split
  ·split
   ·exact hc S t
   ·exact hc S t
  ·rfl
 cases hl with
 | hit t ht hn=>rfl
 | bad h1 h2=>rfl
 | new t blk A cc h1 h2 h3=>
   unfold loadN
   split
   ·exact he _ _
   ·exact he (Go.Proofs.YtcdjaepgahbhfaaGreat.tick S) t
def tZ:Value→Int
 | .int _ z=>z
 | _=>0
/-- edits redone -/
inductive RdE (lsn:Int):StM→List EdT→StM→Int→Prop where
 | nil (S:StM):RdE lsn S [] S 0
 | bad {S S1:StM} {x:EdT} {l:List EdT} {er:Int} (h:LdR S x.1 S1 er) (he:er≠0):RdE lsn S (x::l) S1 er
 | skip {S S1 S2:StM} {x:EdT} {l:List EdT} {er:Int} {t:BfT} (h:LdR S x.1 S1 0) (ht:t∈S1.pool) (hn:t.n=x.1) (hs:lsn < t.pg.p.2.1) (hr:RdE lsn S1 l S2 er):RdE lsn S (x::l) S2 er
 | fail {S S1 S2:StM} {x:EdT} {l:List EdT} {er:Int} {t:BfT} (h:LdR S x.1 S1 0) (ht:t∈S1.pool) (hn:t.n=x.1) (hs:¬ lsn < t.pg.p.2.1) (hd:doE t.pg.p x lsn≠0) (hr:RdE lsn S1 l S2 er):RdE lsn S (x::l) S2 er
 | good {S S1 S2:StM} {x:EdT} {l:List EdT} {er:Int} {t:BfT} {pg:PgR} (h:LdR S x.1 S1 0) (ht:t∈S1.pool) (hn:t.n=x.1) (hs:¬ lsn < t.pg.p.2.1) (hd:doE t.pg.p x lsn=0) (hp:pg.p=doV t.pg.p x lsn) (hr:RdE lsn {S1 with pool:=setB S1.pool x.1 (putB pg),rows:=S1.rows++[pg]} l S2 er):RdE lsn S (x::l) S2 er
def imS (S:StM) (n:Int):StM:={S with ni:=mzP S.im n S.ni,im:=putX S.im n (some true)}
/-- a record redone -/
def RdR (S:StM) (lsn:Int) (r:RecM) (S':StM) (er:Int):Prop:=(r.kind=8∧∃ A c,PutR (addR (imS S r.tbl) ⟨rdP r.note,A,c⟩) r.tbl ⟨rdP r.note,A,c⟩ S' er)∨(r.kind≠8∧RdE lsn S r.eds S' er)
theorem SOk.rows {S:StM} {c:Nat} (h:SOk S c) (pg:PgR):SOk (addR S pg) c:=⟨h.bufs,h.pgs,h.ws,h.time,h.ni,h.nt,h.right,h.nodup,h.len,h.keys,h.recs,h.log,h.lsz,h.fl,h.cl⟩
theorem mzP_le {κ ε:Type} (m:κ→Option ε) (x:κ) (n:Nat):mzP m x n≤n+1:=by unfold mzP; split<;>omega
theorem SOk.im {S:StM} {c:Nat} (h:SOk S c) (n:Int):SOk (imS S n) (c+1):=⟨h.bufs,h.pgs,fun x hx=>Nat.le_succ_of_le (h.ws x hx),⟨h.time.1,by have:=h.time.2; show S.time≤ _; omega⟩,by have h1:=mzP_le S.im n S.ni; have:=h.ni; show mzP S.im n S.ni≤c+1; omega,Nat.le_succ_of_le h.nt,h.right,h.nodup,h.len,h.keys,h.recs,h.log,h.lsz,h.fl,h.cl⟩
theorem SOk.setR {S:StM} {c:Nat} {n:Int} {pg:PgR} (h:SOk S c) (hr:rightP pg.p):SOk {S with pool:=setB S.pool n (putB pg),rows:=S.rows++[pg]} c:=
 ((h.setp (n:=n) (f:=putB pg) (fun _=>rfl) (fun _ _=>hr) (fun _ _ _ hd=>by cases hd))).rows pg
theorem RdE.ok {lsn:Int} {S S':StM} {l:List EdT} {er:Int} (h:RdE lsn S l S' er):∀ {c:Nat},SOk S c→SOk S' (c+3*l.length)∧S'.rr=S.rr∧S'.recs=S.recs∧S'.frm=S.frm:=by
 induction h with
 | nil S=>intro c hc; exact ⟨hc,rfl,rfl,rfl⟩
 | bad h he=>intro c hc; exact ⟨(hc.load h).mono (by simp only [List.length_cons]; omega),h.rr,h.rows.2.1,h.rows.2.2.1⟩
 | skip h ht hn hs hr ih=>intro c hc; obtain ⟨a,b,d,e⟩:=ih (hc.load h); exact ⟨a.mono (by simp only [List.length_cons]; omega),b.trans h.rr,d.trans h.rows.2.1,e.trans h.rows.2.2.1⟩
 | fail h ht hn hs hd hr ih=>intro c hc; obtain ⟨a,b,d,e⟩:=ih (hc.load h); exact ⟨a.mono (by simp only [List.length_cons]; omega),b.trans h.rr,d.trans h.rows.2.1,e.trans h.rows.2.2.1⟩
 | good h ht hn hs hd hp hr ih=>
   intro c hc
   obtain ⟨a,b,d,e⟩:=ih ((hc.load h).setR (by rw [hp]; exact do_right hd))
   exact ⟨a.mono (by simp only [List.length_cons]; omega),b.trans h.rr,d.trans h.rows.2.1,e.trans h.rows.2.2.1⟩
theorem PutR.rr {S S':StM} {n er:Int} {pg:PgR} (h:PutR S n pg S' er):S'.rr=S.rr∧S'.recs=S.recs∧S'.frm=S.frm:=by
 obtain ⟨S1,h1,⟨_,rfl⟩ | ⟨_, _,rfl⟩⟩:=h
 ·exact ⟨h1.rr,h1.rows.2.1,h1.rows.2.2.1⟩
 ·exact ⟨h1.rr,h1.rows.2.1,h1.rows.2.2.1⟩
theorem RdR.ok {S S':StM} {lsn:Int} {r:RecM} {er:Int} (h:RdR S lsn r S' er) {c:Nat} (hc:SOk S c) (hr:recR r=true):SOk S' (c+200)∧S'.rr=S.rr∧S'.recs=S.recs∧S'.frm=S.frm:=by
 have hro:=recR_ok hr
 rcases h with ⟨_,A,cc,h⟩ | ⟨_,h⟩
 ·have h1:=SOk.put ((hc.im r.tbl).rows ⟨rdP r.note,A,cc⟩) (rd_right r.note) h
  exact ⟨h1.mono (by omega),h.rr⟩
 ·obtain ⟨a,b⟩:=h.ok hc
  exact ⟨a.mono (by have:=hro.many; omega),b⟩
theorem eSt_own {W:World} {sb db:Nat} {S:StM} {fp:List Nat} (h:(eSt sb db S fp).holds W) {t:RcT} (ht:t∈S.rr):At W t.A (t.r.eds.flatMap edC):=by
 obtain ⟨mb,RA,rc,EA,ec,ib,tb,h1⟩:=eSt_at h
 exact h1.own t ht
def RedPost (sb db:Nat) (S:StM) (lsn:Int) (r:RecM) (fp:List Nat) (w:World) (e:Ending) (w':World):Prop:=∃ er,e= .returned (.int .i64 er)∧∃ fp',St w fp [eSx sb db (fun S2=>RdR S lsn r S2 er) fp'] w'
theorem RedPost.of {sb db:Nat} {S S2:StM} {lsn er:Int} {r:RecM} {fp fp':List Nat} {w w':World} (h:RdR S lsn r S2 er) (hs:St w fp ([]++[eSt sb db S2 fp']) w'):RedPost sb db S lsn r fp w (.returned (.int .i64 er)) w':=⟨er,rfl,fp',St.sx (L:=[]) hs h⟩
theorem sredo_any (sb db:Nat) (S:StM) (lsn:Int) (rt:RcT) (c:Nat) (fp:List Nat) (w:World) (hB:(eSt sb db S fp).holds w) (hlt:∀ k∈fp,k < w.heap.size) (hok:SOk S c) (hc:c≤900000) (hr:recR rt.r=true) (hrt:rt∈S.rr) (h8:rt.r.kind=8→rt.r.note.size=512):
  Calls Tryz.prog 61 #[.pointer (some ⟨sb,0,none⟩), .int .i64 lsn, .agg #[.int .i64 rt.r.kind, .int .i64 rt.r.xid, .int .i64 rt.r.tbl, .slice none 0 0, .slice none 0 0, .slice rt.A rt.r.eds.length rt.c, .slice none 0 0, .string rt.r.note]] w (RedPost sb db S lsn rt.r fp w):=by
 have st1:St w fp [eSt sb db S fp] w:=St.lend hB (eSt_loc _ _ _ _) hlt
 have hro:=recR_ok hr
 have hml:=hro.many
 have hkt:kcI.ok rt.r.tbl:=by have:=hro.tbl; constructor<;>omega
 have hni:=hok.ni
 go_enter Tryz.func61,Tryz.ntmps61
 have hst0:=st1
 refine wp_seq (sqr ?_)
 refine sqbx #[vi rt.r.kind,vi rt.r.xid,vi rt.r.tbl, .slice none 0 0, .slice none 0 0, .slice rt.A rt.r.eds.length rt.c, .slice none 0 0, .string rt.r.note] hst0 fun B5_1 W1 hst1=>?_
 refine sqp [.k 6 (vi 0)] ?_
 refine then_normal (wp_seq (wp_seq (sqr (sqp [.k 15 (vp B5_1)] ?_))))
 refine sqld 1 hst1 ?_
 refine sqp [.k 17 (.bool (rt.r.kind==8))] ?_
 refine then_normal (wbs (fun hs6=>?_) fun hs6=>?_)
 ·have hs6p:=beq_iff_eq.1 hs6
  refine wp_seq ?_
  have hk8:rt.r.kind=8:=by simpa using hs6
  refine wp_region_Y [0,1,3,7,15,15,0,95,255] [[],[1],[],[],[],[],[],[3]] [[],[],[2],[],[],[],[3],[4]] [[],[],[],[],[],[],[],[3]] [.k 19 (.pointer (some ⟨B5_1,7,none⟩)), .c 20 (.string rt.r.note), .a 21, .a 18, .a 22, .a 23, .a 7, .n, .a 8] (fun ix σ β X=>match ix with | 0=>True | 1=>True | 2=>σ 21= .tuple #[.agg #[vi ((rdP rt.r.note).1),vi ((rdP rt.r.note).2.1), .slice (sA (tg (tg (β 21) 0) 2)) ((rdP rt.r.note).2.2.length) (sC (tg (tg (β 21) 0) 2))],vi (tE (β 21))]∧X 2=eO 9 1 (.slice (sA (tg (tg (β 21) 0) 2)) ((rdP rt.r.note).2.2.length) (sC (tg (tg (β 21) 0) 2))) ((rdP rt.r.note).2.2.length) ((rdP rt.r.note).2.2.map Value.string) | 3=>σ 18= .tuple #[.agg #[vi ((rdP rt.r.note).1),vi ((rdP rt.r.note).2.1), .slice (sA (tg (tg (β 21) 0) 2)) ((rdP rt.r.note).2.2.length) (sC (tg (tg (β 21) 0) 2))],vi (tE (β 21))] | 4=>σ 22= .agg #[vi ((rdP rt.r.note).1),vi ((rdP rt.r.note).2.1), .slice (sA (tg (tg (β 21) 0) 2)) ((rdP rt.r.note).2.2.length) (sC (tg (tg (β 21) 0) 2))] | 5=>σ 23=vi (tE (β 21)) | 6=>σ 7=vp (pb (β 7))∧X 3=eB (pb (β 7)) 48 #[vi 0,vi 0, .slice none 0 0] | 7=>X 4=eB (pb (β 7)) 48 #[vi ((rdP rt.r.note).1),vi ((rdP rt.r.note).2.1), .slice (sA (tg (tg (β 21) 0) 2)) ((rdP rt.r.note).2.2.length) (sC (tg (tg (β 21) 0) 2))] | 8=>σ 8=vi (tE (β 21)) | _=>True) [0,1,2,4] [1,2,3,4,5,6,7,8] [(7,6,3,9),(9,3,1,10),(0,0,3,3),(0,4,2,2)] hst1 ?_ ?_ ?_
  ·exact fun ix _ _ _ _ _ _ hs hb hx h=>match ix,h with
   | 2,h=>by dsimp only; rw [← hs 21 rfl,← hb 21 rfl,← hx 2 rfl]; exact h
   | 3,h=>by dsimp only; rw [← hs 18 rfl,← hb 21 rfl]; exact h
   | 4,h=>by dsimp only; rw [← hs 22 rfl,← hb 21 rfl]; exact h
   | 5,h=>by dsimp only; rw [← hs 23 rfl,← hb 21 rfl]; exact h
   | 6,h=>by dsimp only; rw [← hs 7 rfl,← hb 7 rfl,← hx 3 rfl]; exact h
   | 7,h=>by dsimp only; rw [← hb 7 rfl,← hb 21 rfl,← hx 4 rfl]; exact h
   | 8,h=>by dsimp only; rw [← hs 8 rfl,← hb 21 rfl]; exact h
   | 0, _ | 1, _ | _+9, _=>trivial
  ·refine ⟨?_,?_,?_,?_,?_,?_,?_,?_,trivial⟩
   ·exact xs4 rfl id fun cx=>run_load1 rfl (by kernel_rfl) (cx.an 0) ((cx.bi 1 rfl).cell 7)
   ·refine svA fun ρ β W X cx=>?_
    refine DoesU.call (run_callF (args:=#[.string rt.r.note]) rfl cx.sees rfl (by kernel_rfl) (map1 (cx.an 1))) ?_
    refine (rd_uni (pgread_x rt.r.note _ (h8 hk8))).mono ?_
    rintro e W1 ⟨er4,A4,c4,rfl,ho,hx⟩
    refine ⟨_,rfl,post_call [eO 9 1 (.slice A4 (rdP rt.r.note).2.2.length c4) (rdP rt.r.note).2.2.length ((rdP rt.r.note).2.2.map Value.string)] rfl rfl hx (one_new (eO_new ho)) (List.pairwise_singleton _ _) (fun σ β' X' hs hb hv hN=>?_)⟩
    have hv1:=(hv 21 rfl).1; have hv2:=(hv 21 rfl).2
    exact ⟨hv1.trans (by rw [hv2]; exact rfl),(by rw [hv2]; exact (List.cons.inj hN).1)⟩
   ·exact sv rfl rfl rfl rfl rfl _ (fun _ _ _ h=>h) (fun β β' h=>by rw [h 21 (by decide)]) fun ρ β W X cx=>run_move' rfl (dTn (cx.an 2)).1
   ·exact sv rfl rfl rfl rfl rfl _ (fun _ _ _ h=>h) (fun β β' h=>by rw [h 21 (by decide)]) fun ρ β W X cx=>run_extract' rfl (dTn (cx.an 3)) rfl
   ·exact sv rfl rfl rfl rfl rfl _ (fun _ _ _ h=>h) (fun β β' h=>by rw [h 21 (by decide)]) fun ρ β W X cx=>run_extract' rfl (dTn (cx.an 3)) rfl
   ·refine svA fun ρ β W X cx=>?_
    exact dv_alloc (cs:=#[vi 0,vi 0, .slice none 0 0]) rfl (by kernel_rfl) rfl rfl (fun σ β' X' hs hb hv hx=>⟨hv,hx⟩)
   ·refine svA fun ρ β W X cx=>?_
    exact dv_store (n:=3) rfl (dTn (cx.an 6)).1 (dTn (cx.an 4)) (by kernel_rfl) (by kernel_rfl) (by kernel_rfl) cx (dTn (cx.an 6)).2 rfl (nle rfl) (by kernel_rfl) rfl rfl rfl (fun σ β' X' hs hb hx=>by rw [hb 7,hb 21]; exact hx)
   ·exact sv rfl rfl rfl rfl rfl _ (fun _ _ _ h=>h) (fun β β' h=>by rw [h 21 (by decide)]) fun ρ β W X cx=>run_assign' rfl (dTn (cx.an 5))
  intro σ β X W7 hD hst7 fr hfr
  obtain ⟨e21_7,hu_e21_7⟩:∃ z,tE (β 21)=z:=⟨_,rfl⟩
  obtain ⟨A21_7,hu_A21_7⟩:∃ z,sA (tg (tg (β 21) 0) 2)=z:=⟨_,rfl⟩
  obtain ⟨c21_7,hu_c21_7⟩:∃ z,sC (tg (tg (β 21) 0) 2)=z:=⟨_,rfl⟩
  obtain ⟨B7_7,hu_B7_7⟩:∃ z,pb (β 7)=z:=⟨_,rfl⟩
  simp only [exq 2 ((dTn (hD 2 lq)).2),exq 4 ((dTn (hD 7 lq))),hu_e21_7,hu_A21_7,hu_c21_7,hu_B7_7] at hst7
  simp only [ed 21 ((dTn (hD 2 lq)).1),ed 18 ((dTn (hD 3 lq))),ed 22 ((dTn (hD 4 lq))),ed 23 ((dTn (hD 5 lq))),ed 7 ((dTn (hD 6 lq)).1),ed 8 ((dTn (hD 8 lq))),hu_e21_7,hu_A21_7,hu_c21_7,hu_B7_7] at hfr
  clear hD hu_e21_7 hu_A21_7 hu_c21_7 hu_B7_7; subst hfr; clear σ β X
  refine then_normal (wp_seq ?_)
  obtain ⟨⟨hrw,hrr⟩,mb,RA,rc,EA,ec,ib,tb,fpd,hv8_⟩:=hst7.unf
  refine wp_region_Y [0,1,3,7,0,16,63] [[],[],[],[0],[],[10],[7]] [[],[],[],[],[],[],[13]] [[],[],[],[],[],[],[7]] [.k 24 (vp sb), .k 25 (vp sb), .k 26 (.pointer (some ⟨sb,6,none⟩)), .c 27 (.map (some ib)), .k 28 (.pointer (some ⟨B5_1,2,none⟩)), .c 29 (vi rt.r.tbl), .n] (fun ix σ β X=>match ix with | 0=>True | 1=>True | 2=>True | 3=>True | 4=>True | 5=>True | 6=>X 13=eMx kcI ecB Tryz.prog 3 ib ((mzP S.im rt.r.tbl S.ni)) (putX S.im rt.r.tbl (some true)) | _=>True) [0,1,2,3,4,5,6,8,9,10,11,12,13] [3,5,6] [(24,0,6,30)] hv8_ ?_ ?_ ?_
  ·exact fun ix _ _ _ _ _ _ hs hb hx h=>match ix,h with
   | 6,h=>by dsimp only; rw [← hx 13 rfl]; exact h
   | 0, _ | 1, _ | 2, _ | 3, _ | 4, _ | 5, _ | _+7, _=>trivial
  ·refine ⟨?_,?_,?_,trivial⟩
   ·exact xs4 rfl id fun cx=>run_load1 rfl (by kernel_rfl) (cx.an 2) ((cx.bi 0 rfl).cell 6)
   ·exact xs4 rfl id fun cx=>run_load1 rfl (by kernel_rfl) (cx.an 4) ((cx.bi 10 rfl).cell 2)
   ·refine svA fun ρ β W X cx=>?_
    exact dv_setMx (e:=4) (v:=true) (.inl rfl) (cx.an 3) (show ρ _=Kc.enc kcI rt.r.tbl from (cx.an 5)) (show ρ _=Ec.enc ecB true from (cx.co _)) cx (cx.init 7 _ rfl) rfl (trivial) (by omega) (hkt) rfl rfl rfl (fun σ β' X' hs hb hx=>hx) (hk:=show Program.underlying _ _= _ from by kernel_rfl)
  intro σ β X W9 hD hst9 fr hfr
  simp only [exq 13 ((dTn (hD 6 lq)))] at hst9
  clear hD; subst hfr; clear σ β X
  refine then_normal (wp_seq ?_)
  have hg10_:=St.apf (r:=(⟨rdP rt.r.note,A21_7,c21_7⟩:PgR)) hst9.u10.u4
  obtain ⟨fp11_,hk11_⟩:=St.stf (S:=(addR (imS S rt.r.tbl) (⟨rdP rt.r.note,A21_7,c21_7⟩:PgR))) (hg10_.u11.u7.u7.u7.u4.u7.u7.u7) (fun t ht=>List.mem_append_left _ (hrw t ht)) (hrr)
  have hok2:=(hok.im rt.r.tbl).rows (⟨rdP rt.r.note,A21_7,c21_7⟩:PgR)
  refine sqr (sqp [.m 30 0, .k 31 (.pointer (some ⟨B5_1,2,none⟩))] ?_)
  refine sqld 1 hk11_ ?_
  refine sqlb 2 3 hk11_ ?_
  refine sqc1s (fun x_=>tZ x_) (fun X_=>X_.fp) (fun er34_16=>vi er34_16) (fun er34_16 r3_16=>eSx sb db (fun S2=>PutR (addR (imS S rt.r.tbl) (⟨rdP rt.r.note,A21_7,c21_7⟩:PgR)) rt.r.tbl (⟨rdP rt.r.note,A21_7,c21_7⟩:PgR) S2 er34_16) r3_16) 0 hk11_ (by
    refine svA fun ρ β W X cx=>?_
    refine DoesU.call (run_callF (args:=#[vp sb,vi rt.r.tbl, .agg #[vi ((rdP rt.r.note).1),vi ((rdP rt.r.note).2.1), .slice A21_7 ((rdP rt.r.note).2.2.length) c21_7]]) rfl cx.sees rfl (by kernel_rfl) (map3 (cx.ou 30) (cx.ou 32) (cx.ou 33))) ?_
    refine (sput_any sb db (addR (imS S rt.r.tbl) (⟨rdP rt.r.note,A21_7,c21_7⟩:PgR)) rt.r.tbl (⟨rdP rt.r.note,A21_7,c21_7⟩:PgR) (c+1) _ _ (CtxV.holdF cx (cx.init 0 _ rfl) rfl) (CtxV.ltF cx (cx.init 0 _ rfl) rfl) hok2 (by omega) hkt (by simp [addR])).mono ?_
    rintro e W1 ⟨er4,rfl,fp4,hs4⟩
    refine ⟨_,rfl,post_obj (E:=eSt sb db (addR (imS S rt.r.tbl) (⟨rdP rt.r.note,A21_7,c21_7⟩:PgR)) fp11_) [eSx sb db (fun S2=>PutR (addR (imS S rt.r.tbl) (⟨rdP rt.r.note,A21_7,c21_7⟩:PgR)) rt.r.tbl (⟨rdP rt.r.note,A21_7,c21_7⟩:PgR) S2 er4) fp4] (cx.init 0 _ rfl) rfl rfl hs4 (fun σ β' X' hs hb hv hN=>?_)⟩
    have hv1:=(hv 34 rfl).1; have hv2:=(hv 34 rfl).2
    exact ⟨hv1.trans (by rw [hv2]; exact rfl),(by rw [hv2]; exact eSx_self ((List.cons.inj hN).1))⟩) fun er34_16 r3_16 W16 hst16=>?_
  refine sqp [.m 6 34] ?_
  refine then_normal (wp_ret (then_ret ?_))
  refine bpr (vi er34_16) (results_1 Tryz.results61 rpt) ?_
  obtain ⟨S3,hP,hy18_⟩:=hst16.unx
  exact RedPost.of (.inl ⟨hk8, _, _,hP⟩) (hy18_.pick [0] (by decide) rfl)
 have hs6p:=beq_eq_false_iff_ne.1 hs6
 refine wp_skip (then_normal (wp_seq (wp_seq (sqr (sqp [.k 35 (.pointer (some ⟨B5_1,5,none⟩))] ?_)))))
 refine sqld 1 hst1 ?_
 refine sqp [.k 37 (vi ((rt.r.eds.length:Int))), .k 38 (vi 0)] ?_
 refine then_normal (wp_block ?_)
 refine wp_loopT (fun t_ mz az W=>∃ j:Nat,∃ Sj:StM,∃ fpj:List Nat,j≤rt.r.eds.length∧(∀ S2 er,RdE lsn Sj (rt.r.eds.drop j) S2 er→RdE lsn S rt.r.eds S2 er)∧SOk Sj (c+3*j)∧rt∈Sj.rr∧mz=rt.r.eds.length - j∧az=⟨(ovr (jv az) [(6,6,1,[]),(3,10,5,[]),(23,38,0,[vi ((j:Int))]),(0,39,40,[])] t_).toArray,[]⟩∧St w fp [eB B5_1 27 #[vi rt.r.kind,vi rt.r.xid,vi rt.r.tbl, .slice none 0 0, .slice none 0 0, .slice rt.A rt.r.eds.length rt.c, .slice none 0 0, .string rt.r.note],eSt sb db Sj fpj] W) (rt.r.eds.length - 0) ?_ ?_
 · -- the loop begins
   exact ⟨0,S,fp,Nat.zero_le _,fun S2 er h=>h,hok,hrt,rfl,(by kernel_rfl),hst1.pk [1,0]⟩
 rintro n23 a23 W23 ⟨j,Sj,fpj,hj,hcont,hokj,hrtj,rfl,hj_,hst23⟩
 refine ovz hj_ fun u23_=>?_
 refine wp_seq (sqr (sqp [.k 39 (.bool (decide ((j:Int) < (rt.r.eds.length:Int))))] ?_))
 refine then_normal (wp_seq (wds (fun hs25 hs25p=>?_) fun hs25 hs25p=>?_))
 ·refine wp_skip (then_normal (wp_seq (wp_block (wp_seq ?_))))
  obtain ⟨ep,es,eb,hek⟩:=getEdT (l:=rt.r.eds) (k:=j) (by omega)
  have hke:edR (ep,es,eb)=true:=hro.eds _ (List.mem_of_getElem? hek)
  have hez:eb.size≤9223372036854775807:=by have:=edR_item hke; dsimp only at this; omega
  have hkn:kcI.ok ep:=by have:=(edR_bd hke).1; dsimp only at this; constructor<;>omega
  refine sqr ?_
  refine sql (.pointer (some ((ad rt.A).add (j*3)))) hst23 (fun cx=>run_indexSlM (e:=84) (m:=j) (sz:=3) rfl (by kernel_rfl) (by kernel_rfl) (cx.ou 36) (cx.ou 38) (by omega) (by omega) (eSt_own (CtxV.holdF cx (cx.init 1 _ rfl) rfl) hrtj) (flatPos (sz:=3) edC_len (by decide) (by omega))) ?_
  refine sql (.agg #[vi ep,vi es, .string eb]) hst23 (fun cx=>run_loadElt (f:=edC) (m:=j) (sz:=3) (off:=0) (n:=3) rfl (by kernel_rfl) (by kernel_rfl) (cx.ou 40) rfl edC_len (eSt_own (CtxV.holdF cx (cx.init 1 _ rfl) rfl) hrtj) hek (fun k hk=>match k,hk with | 0, _=>rfl | 1, _=>rfl | 2, _=>rfl | k+3,hk=>absurd hk (by omega))) ?_
  refine sqal #[vi 0,vi 0, .string ByteArray.empty] hst23 fun B10_28 W28 hst28=>?_
  refine sqst (n:=3) 2 #[vi ep,vi es, .string eb] hst28 fun W29 hst29=>?_
  refine then_normal (wp_seq (sqr (sqp [.m 43 0, .k 44 (vp B10_28)] ?_)))
  refine sqld 2 hst29 ?_
  refine sqc2s (fun x_=>tE x_) (fun x_=>tF x_) (fun X_=>X_.fp) (fun er46_33 vp46_33=> .tuple #[vp46_33,vi er46_33]) (fun er46_33 vp46_33 r3_33=>eSx sb db (fun S2=>LdQ Sj ep S2 er46_33 vp46_33) r3_33) 1 hst29 (by
    refine svA fun ρ β W X cx=>?_
    refine DoesU.call (run_callF (args:=#[vp sb,vi ep]) rfl cx.sees rfl (by kernel_rfl) (map2 (cx.ou 43) (cx.ou 45))) ?_
    refine (sload_any sb db Sj ep (c+3*j) _ _ (CtxV.holdF cx (cx.init 1 _ rfl) rfl) (CtxV.ltF cx (cx.init 1 _ rfl) rfl) hokj (by omega) hkn).mono ?_
    rintro e W1 ⟨er4,vp4,rfl,fp4,hs4⟩
    refine ⟨_,rfl,post_obj (E:=eSt sb db Sj fpj) [eSx sb db (fun S2=>LdQ Sj ep S2 er4 vp4) fp4] (cx.init 1 _ rfl) rfl rfl hs4 (fun σ β' X' hs hb hv hN=>?_)⟩
    have hv1:=(hv 46 rfl).1; have hv2:=(hv 46 rfl).2
    exact ⟨hv1.trans (by rw [hv2]; exact rfl),(by rw [hv2]; exact eSx_self ((List.cons.inj hN).1))⟩) fun er46_33 vp46_33 r3_33 W33 hst33=>?_
  refine sqp [.m 42 46, .k 47 (vp46_33), .k 48 (vi er46_33), .m 11 47, .m 12 48] ?_
  refine then_normal (wp_seq (wp_seq ?_))
  obtain ⟨S1,hL,hy39_⟩:=hst33.u1.unx
  have hok1:=hokj.load hL.1
  refine sqr (sqp [.m 49 12, .k 50 (.bool (er46_33 != 0))] ?_)
  refine then_normal (wbs (fun hs42=>?_) fun hs42=>?_)
  ·have hs42p:=bne_iff_ne.1 hs42
   refine wp_seq (sqr (sqp [.m 51 12, .m 6 51] ?_))
   refine then_normal (wp_ret (then_ret (blk_ret (then_ret (then_ret (blk_ret (then_ret ?_)))))))
   refine bpr (vi er46_33) (results_1 Tryz.results61 rpt) ?_
   exact RedPost.of (.inr ⟨(by simpa using hs6),hcont _ _ (by rw [List.drop_eq_getElem_cons (by omega:j < rt.r.eds.length),show rt.r.eds[j]'(by omega)=(ep,es,eb) from (List.getElem?_eq_some_iff.1 hek).2]; exact RdE.bad hL.1 (by simpa using hs42))⟩) (hy39_.pick [0] (by decide) rfl)
  have hs42p:=bne_eq_false_iff_eq.1 hs42
  refine wp_skip (then_normal (wp_seq (wp_seq ?_)))
  have hl0:=ld_zero hL.1 (by simpa using hs42)
  obtain ⟨t,htm_t,rfl,rfl⟩:=hL.2 (by simpa using hs42)
  obtain ⟨⟨hrw1,hrr1⟩,mb1,RA1,rc1,EA1,ec1,ib1,tb1,fpd1,hv45_⟩:=hy39_.unf
  obtain ⟨A,B,hAB⟩:=List.append_of_mem htm_t
  have hnd:((A++t::B).map BfT.n).Nodup:=by rw [← hAB]; exact hok1.nodup
  have hri:=hok1.right t htm_t
  rw [hAB] at hv45_
  have ho46_:=St.obf (t:=t) hv45_.u2
  refine sqr (sqp [.m 52 11, .k 53 (.pointer (some ⟨t.blk,0,none⟩)), .k 54 (.pointer (some ⟨t.blk,0,none⟩)), .k 55 (.pointer (some ⟨t.blk,1,none⟩))] ?_)
  refine sqld 1 ho46_ ?_
  refine sqp [.m 57 1, .k 58 (.bool (decide (lsn < t.pg.p.2.1)))] ?_
  refine then_normal (wds (fun hs54 hs54p=>?_) fun hs54 hs54p=>?_)
  ·refine wp_exit (then_exit (blk_eq (then_normal (sqr (sqp [sI 78 ((j:Int)+1) (by omega), .m 38 78] ?_)))))
   refine then_normal ?_
   have hi57_:=St.ibf (t:=t) ho46_
   obtain ⟨fp58_,hk58_⟩:=St.stf (S:=S1) (by have h_:=hi57_.u2.u2; rw [← hAB] at h_; exact h_) (hrw1) (hrr1)
   refine ⟨rt.r.eds.length - ((j+1)),by omega,?_⟩
   exact ⟨(j+1),S1,fp58_,by omega,(fun S2 er h=>hcont S2 er (by rw [List.drop_eq_getElem_cons (by omega:j < rt.r.eds.length),show rt.r.eds[j]'(by omega)=(t.n,es,eb) from (List.getElem?_eq_some_iff.1 hek).2]; exact RdE.skip (x:=(t.n,es,eb)) hl0 htm_t rfl (of_decide_eq_true hs54) h)),(hok1.mono (by omega)),(by show rt∈S1.rr; rw [hl0.rr]; exact hrtj),rfl,(by kernel_rfl),hk58_.pk [1,0]⟩
  refine wp_skip (then_normal (wp_seq (wp_region_Y [0,1,3,7,0,0,63,127,255,255,0,1535,4095] [[],[],[],[1],[12],[],[4],[],[],[],[],[14]] [[],[],[],[],[],[],[13],[],[],[],[14],[15]] [[],[],[],[],[],[],[],[],[],[],[],[14]] [.k 60 (.pointer (some ⟨t.blk,0,none⟩)), .k 61 (.pointer (some ⟨t.blk,0,none⟩)), .k 62 (.pointer (some ⟨t.blk,0,none⟩)), .c 63 (.agg #[vi t.pg.p.1,vi t.pg.p.2.1, .slice t.pg.A t.pg.p.2.2.length t.pg.c]), .c 64 (.agg #[vi t.n,vi es, .string eb]), .k 65 (vi lsn), .a 66, .a 59, .a 67, .c 68 (vi ((doE t.pg.p (t.n,es,eb) lsn))), .a 13, .n, .k 14 (vi ((doE t.pg.p (t.n,es,eb) lsn)))] (fun ix σ β X=>match ix with | 0=>True | 1=>True | 2=>True | 3=>True | 4=>True | 5=>True | 6=>σ 66= .tuple #[.agg #[vi ((doR t.pg.p (t.n,es,eb) lsn).1),vi ((doR t.pg.p (t.n,es,eb) lsn).2.1), .slice (sA (tg (tg (β 66) 0) 2)) ((doR t.pg.p (t.n,es,eb) lsn).2.2.length) (sC (tg (tg (β 66) 0) 2))],vi ((doE t.pg.p (t.n,es,eb) lsn))]∧X 13=eO 9 1 (.slice (sA (tg (tg (β 66) 0) 2)) ((doR t.pg.p (t.n,es,eb) lsn).2.2.length) (sC (tg (tg (β 66) 0) 2))) ((doR t.pg.p (t.n,es,eb) lsn).2.2.length) ((doR t.pg.p (t.n,es,eb) lsn).2.2.map Value.string) | 7=>σ 59= .tuple #[.agg #[vi ((doR t.pg.p (t.n,es,eb) lsn).1),vi ((doR t.pg.p (t.n,es,eb) lsn).2.1), .slice (sA (tg (tg (β 66) 0) 2)) ((doR t.pg.p (t.n,es,eb) lsn).2.2.length) (sC (tg (tg (β 66) 0) 2))],vi ((doE t.pg.p (t.n,es,eb) lsn))] | 8=>σ 67= .agg #[vi ((doR t.pg.p (t.n,es,eb) lsn).1),vi ((doR t.pg.p (t.n,es,eb) lsn).2.1), .slice (sA (tg (tg (β 66) 0) 2)) ((doR t.pg.p (t.n,es,eb) lsn).2.2.length) (sC (tg (tg (β 66) 0) 2))] | 9=>True | 10=>σ 13=vp (pb (β 13))∧X 14=eB (pb (β 13)) 48 #[vi 0,vi 0, .slice none 0 0] | 11=>X 15=eB (pb (β 13)) 48 #[vi ((doR t.pg.p (t.n,es,eb) lsn).1),vi ((doR t.pg.p (t.n,es,eb) lsn).2.1), .slice (sA (tg (tg (β 66) 0) 2)) ((doR t.pg.p (t.n,es,eb) lsn).2.2.length) (sC (tg (tg (β 66) 0) 2))] | _=>True) [0,1,2,3,4,5,6,7,8,9,10,11,12,13,15] [3,4,6,7,8,9,10,11] [(13,10,3,15),(44,7,1,45),(0,0,7,7),(0,8,2,2)] ho46_ ?_ ?_ ?_)))
  ·exact fun ix _ _ _ _ _ _ hs hb hx h=>match ix,h with
   | 6,h=>by dsimp only; rw [← hs 66 rfl,← hb 66 rfl,← hx 13 rfl]; exact h
   | 7,h=>by dsimp only; rw [← hs 59 rfl,← hb 66 rfl]; exact h
   | 8,h=>by dsimp only; rw [← hs 67 rfl,← hb 66 rfl]; exact h
   | 10,h=>by dsimp only; rw [← hs 13 rfl,← hb 13 rfl,← hx 14 rfl]; exact h
   | 11,h=>by dsimp only; rw [← hb 13 rfl,← hb 66 rfl,← hx 15 rfl]; exact h
   | 0, _ | 1, _ | 2, _ | 3, _ | 4, _ | 5, _ | 9, _ | _+12, _=>trivial
  ·refine ⟨?_,?_,?_,?_,?_,?_,?_,?_,trivial⟩
   ·exact xs4 rfl id fun cx=>run_loadB (n:=3) rfl (by kernel_rfl) (by kernel_rfl) (cx.an 2) (cx.bi 1 rfl) (nle rfl) rfl
   ·exact xs4 rfl id fun cx=>run_loadB (n:=3) rfl (by kernel_rfl) (by kernel_rfl) (cx.ou 10) (cx.bi 12 rfl) (nle rfl) rfl
   ·refine svA fun ρ β W X cx=>?_
    refine DoesU.call (run_callF (args:=#[.agg #[vi t.pg.p.1,vi t.pg.p.2.1, .slice t.pg.A t.pg.p.2.2.length t.pg.c], .agg #[vi t.n,vi es, .string eb],vi lsn]) rfl cx.sees rfl (by kernel_rfl) (map3 (cx.an 3) (cx.an 4) (cx.an 5))) ?_
    refine (do_uni (pgdo_any t.pg.p.1 t.pg.p.2.1 _ _ t.pg.p.2.2 t.n es eb lsn _ (rowP_at (CtxV.holdF cx (cx.init 4 _ rfl) rfl) (hrw1 t htm_t)) hri.1 (right_small hri.1) hez)).mono ?_
    rintro e W1 ⟨A4,c4,rfl,ho,hx⟩
    refine ⟨_,rfl,post_call [eO 9 1 (.slice A4 (doR t.pg.p (t.n,es,eb) lsn).2.2.length c4) (doR t.pg.p (t.n,es,eb) lsn).2.2.length ((doR t.pg.p (t.n,es,eb) lsn).2.2.map Value.string)] rfl rfl hx (one_new (eO_new ho)) (List.pairwise_singleton _ _) (fun σ β' X' hs hb hv hN=>?_)⟩
    have hv1:=(hv 66 rfl).1; have hv2:=(hv 66 rfl).2
    exact ⟨hv1.trans (by rw [hv2]; exact rfl),(by rw [hv2]; exact (List.cons.inj hN).1)⟩
   ·exact sv rfl rfl rfl rfl rfl _ (fun _ _ _ h=>h) (fun β β' h=>by rw [h 66 (by decide)]) fun ρ β W X cx=>run_move' rfl (dTn (cx.an 6)).1
   ·exact sv rfl rfl rfl rfl rfl _ (fun _ _ _ h=>h) (fun β β' h=>by rw [h 66 (by decide)]) fun ρ β W X cx=>run_extract' rfl (dTn (cx.an 7)) rfl
   ·exact xs4 rfl id fun cx=>run_extract' rfl (dTn (cx.an 7)) rfl
   ·refine svA fun ρ β W X cx=>?_
    exact dv_alloc (cs:=#[vi 0,vi 0, .slice none 0 0]) rfl (by kernel_rfl) rfl rfl (fun σ β' X' hs hb hv hx=>⟨hv,hx⟩)
   ·refine svA fun ρ β W X cx=>?_
    exact dv_store (n:=3) rfl (dTn (cx.an 10)).1 (dTn (cx.an 8)) (by kernel_rfl) (by kernel_rfl) (by kernel_rfl) cx (dTn (cx.an 10)).2 rfl (nle rfl) (by kernel_rfl) rfl rfl rfl (fun σ β' X' hs hb hx=>by rw [hb 13,hb 66]; exact hx)
  intro σ β X W59 hD hst59 fr hfr
  obtain ⟨A66_59,hu_A66_59⟩:∃ z,sA (tg (tg (β 66) 0) 2)=z:=⟨_,rfl⟩
  obtain ⟨c66_59,hu_c66_59⟩:∃ z,sC (tg (tg (β 66) 0) 2)=z:=⟨_,rfl⟩
  obtain ⟨B13_59,hu_B13_59⟩:∃ z,pb (β 13)=z:=⟨_,rfl⟩
  simp only [exq 13 ((dTn (hD 6 lq)).2),exq 15 ((dTn (hD 11 lq))),hu_A66_59,hu_c66_59,hu_B13_59] at hst59
  simp only [ed 66 ((dTn (hD 6 lq)).1),ed 59 ((dTn (hD 7 lq))),ed 67 ((dTn (hD 8 lq))),ed 13 ((dTn (hD 10 lq)).1),hu_A66_59,hu_c66_59,hu_B13_59] at hfr
  clear hD hu_A66_59 hu_c66_59 hu_B13_59; subst hfr; clear σ β X
  refine then_normal (wp_seq (sqr (sqp [.m 69 14, .k 70 (.bool ((doE t.pg.p (t.n,es,eb) lsn)==0))] ?_)))
  refine then_normal (wbs (fun hs62=>?_) fun hs62=>?_)
  ·have hs62p:=beq_iff_eq.1 hs62
   have hd0:doE t.pg.p (t.n,es,eb) lsn=0:=by simpa using hs62
   refine sqr (sqp [.m 71 11, .m 72 11] ?_)
   refine sqlb 14 3 hst59 ?_
   refine sqp [.k 74 (.pointer (some ⟨t.blk,0,none⟩)), .k 75 (.pointer (some ⟨t.blk,0,none⟩))] ?_
   refine sqst (n:=3) 1 #[vi ((doR t.pg.p (t.n,es,eb) lsn).1),vi ((doR t.pg.p (t.n,es,eb) lsn).2.1), .slice A66_59 ((doR t.pg.p (t.n,es,eb) lsn).2.2.length) c66_59, .bool t.dirty,vi t.used] hst59 fun W68 hst68=>?_
   refine sqp [.k 76 (.pointer (some ⟨t.blk,0,none⟩)), .k 77 (.pointer (some ⟨t.blk,3,none⟩))] ?_
   refine sqst (n:=1) 1 #[vi ((doR t.pg.p (t.n,es,eb) lsn).1),vi ((doR t.pg.p (t.n,es,eb) lsn).2.1), .slice A66_59 ((doR t.pg.p (t.n,es,eb) lsn).2.2.length) c66_59, .bool true,vi t.used] hst68 fun W71 hst71=>?_
   refine blk_normal (then_normal (sqr (sqp [sI 78 ((j:Int)+1) (by omega), .m 38 78] ?_)))
   refine then_normal ?_
   have hg74_:=St.apf (r:=(⟨doR t.pg.p (t.n,es,eb) lsn,A66_59,c66_59⟩:PgR)) hst71.u13.u5
   have hi75_:=St.ibf (t:=(putB (⟨doR t.pg.p (t.n,es,eb) lsn,A66_59,c66_59⟩:PgR) t)) hg74_.u2.u2
   obtain ⟨fp76_,hk76_⟩:=St.stf (S:={S1 with pool:=setB S1.pool t.n (putB (⟨doR t.pg.p (t.n,es,eb) lsn,A66_59,c66_59⟩:PgR)),rows:=S1.rows++[(⟨doR t.pg.p (t.n,es,eb) lsn,A66_59,c66_59⟩:PgR)]}) (by have h_:=hi75_.u3.u3; rw [stL,stC]; dsimp only; rw [hAB,setB_mid hnd,atM_set (A:=A) (B:=B) (t:=t) (u:=putB (⟨doR t.pg.p (t.n,es,eb) lsn,A66_59,c66_59⟩:PgR) t) rfl rfl,show (A++putB (⟨doR t.pg.p (t.n,es,eb) lsn,A66_59,c66_59⟩:PgR) t::B).length=(A++t::B).length by simp]; exact h_) (by show ∀ u∈setB S1.pool t.n (putB (⟨doR t.pg.p (t.n,es,eb) lsn,A66_59,c66_59⟩:PgR)),u.pg∈S1.rows++[(⟨doR t.pg.p (t.n,es,eb) lsn,A66_59,c66_59⟩:PgR)]; rw [hAB,setB_mid hnd]; exact fun u hu=>(List.mem_append.1 hu).elim (fun h=>List.mem_append_left _ (hrw1 u (by rw [hAB]; simp [h]))) fun h=>(List.mem_cons.1 h).elim (fun h=>by rw [h]; exact List.mem_append_right _ (List.mem_singleton.2 rfl)) fun h=>List.mem_append_left _ (hrw1 u (by rw [hAB]; simp [h]))) (hrr1)
   refine ⟨rt.r.eds.length - ((j+1)),by omega,?_⟩
   exact ⟨(j+1),{S1 with pool:=setB S1.pool t.n (putB (⟨doR t.pg.p (t.n,es,eb) lsn,A66_59,c66_59⟩:PgR)),rows:=S1.rows++[(⟨doR t.pg.p (t.n,es,eb) lsn,A66_59,c66_59⟩:PgR)]},fp76_,by omega,(fun S2 er h=>hcont S2 er (by rw [List.drop_eq_getElem_cons (by omega:j < rt.r.eds.length),show rt.r.eds[j]'(by omega)=(t.n,es,eb) from (List.getElem?_eq_some_iff.1 hek).2]; exact RdE.good (x:=(t.n,es,eb)) (pg:=(⟨doR t.pg.p (t.n,es,eb) lsn,A66_59,c66_59⟩:PgR)) hl0 htm_t rfl (of_decide_eq_false hs54) hd0 (doR_pos hd0) h)),((hok1.setR (n:=t.n) (pg:=(⟨doR t.pg.p (t.n,es,eb) lsn,A66_59,c66_59⟩:PgR)) (by rw [show ((⟨doR t.pg.p (t.n,es,eb) lsn,A66_59,c66_59⟩:PgR)).p= _ from doR_pos hd0]; exact do_right hd0)).mono (by omega)),(by show rt∈S1.rr; rw [hl0.rr]; exact hrtj),rfl,(by kernel_rfl),hk76_.pk [1,0]⟩
  have hs62p:=beq_eq_false_iff_ne.1 hs62
  refine wp_skip (blk_normal (then_normal (sqr (sqp [sI 78 ((j:Int)+1) (by omega), .m 38 78] ?_))))
  refine then_normal ?_
  have hi79_:=St.ibf (t:=t) hst59
  obtain ⟨fp80_,hk80_⟩:=St.stf (S:=S1) (by have h_:=hi79_.u2.u2; rw [← hAB] at h_; exact h_) (hrw1) (hrr1)
  refine ⟨rt.r.eds.length - ((j+1)),by omega,?_⟩
  exact ⟨(j+1),S1,fp80_,by omega,(fun S2 er h=>hcont S2 er (by rw [List.drop_eq_getElem_cons (by omega:j < rt.r.eds.length),show rt.r.eds[j]'(by omega)=(t.n,es,eb) from (List.getElem?_eq_some_iff.1 hek).2]; exact RdE.fail (x:=(t.n,es,eb)) hl0 htm_t rfl (of_decide_eq_false hs54) (by simpa using hs62) h)),(hok1.mono (by omega)),(by show rt∈S1.rr; rw [hl0.rr]; exact hrtj),rfl,(by kernel_rfl),hk80_.pk [1,0]⟩
 refine wp_exit (then_exit (then_exit (blk_eq (then_normal (wp_seq (sqr (sqp [.k 6 (vi 0)] ?_)))))))
 refine then_normal (wp_ret ?_)
 refine bpr (vi 0) (results_1 Tryz.results61 rpt) ?_
 exact RedPost.of (.inr ⟨(by simpa using hs6),hcont _ _ (by rw [List.drop_of_length_le (by omega)]; exact RdE.nil _)⟩) (hst23.pick [1] (by decide) rfl)
end
section
open Go.RowKit
/-- a store whose addresses are known -/
def eStA (sb db:Nat) (S:StM) (mb:Nat) (RA:Option Addr) (rc:Nat) (EA:Option Addr) (ec ib tb:Nat) (fpd fp:List Nat):Ent:=⟨fp,fun W=>((∀ t∈S.pool,t.pg∈S.rows)∧∀ t∈S.recs,t∈S.rr)∧fp=(stL sb db S mb RA rc EA ec ib tb fpd).flatMap (·.fp)∧(stL sb db S mb RA rc EA ec ib tb fpd).Pairwise Ent.apart∧∀ e∈stL sb db S mb RA rc EA ec ib tb fpd,e.holds W∧e.loc⟩
theorem eStA_st {W:World} {sb db:Nat} {S:StM} {mb:Nat} {RA:Option Addr} {rc:Nat} {EA:Option Addr} {ec ib tb:Nat} {fpd fp:List Nat} (h:(eStA sb db S mb RA rc EA ec ib tb fpd fp).holds W):(eSt sb db S fp).holds W:=⟨h.1,mb,RA,rc,EA,ec,ib,tb,fpd,h.2⟩
theorem eStA_loc (sb db:Nat) (S:StM) (mb:Nat) (RA:Option Addr) (rc:Nat) (EA:Option Addr) (ec ib tb:Nat) (fpd fp:List Nat):(eStA sb db S mb RA rc EA ec ib tb fpd fp).loc:=fun W W' hk h=>by
 obtain ⟨h0,h1,h2,h3⟩:=h
 exact ⟨h0,h1,h2,fun e he=>⟨(h3 e he).2 W W' (fun k hk'=>hk k (by rw [eStA,h1]; exact List.mem_flatMap.2 ⟨e,he,hk'⟩)) (h3 e he).1,(h3 e he).2⟩⟩
theorem St.toA {w0 W:World} {bor:List Nat} {L:List Ent} {sb db:Nat} {S:StM} {fp:List Nat} (h:St w0 bor (L++[eSt sb db S fp]) W):∃ mb RA rc EA ec ib tb fpd,St w0 bor (L++[eStA sb db S mb RA rc EA ec ib tb fpd fp]) W:=by
 obtain ⟨h0,mb,RA,rc,EA,ec,ib,tb,fpd,h1⟩:=(h.ok (eSt sb db S fp) (by simp)).holds
 exact ⟨mb,RA,rc,EA,ec,ib,tb,fpd,St.repl (L2:=[]) h rfl (fun _=>⟨h0,h1⟩) (eStA_loc _ _ _ _ _ _ _ _ _ _ _ _)⟩
theorem St.ofA {w0 W:World} {bor:List Nat} {L:List Ent} {sb db:Nat} {S:StM} {mb:Nat} {RA:Option Addr} {rc:Nat} {EA:Option Addr} {ec ib tb:Nat} {fpd fp:List Nat} (h:St w0 bor (L++[eStA sb db S mb RA rc EA ec ib tb fpd fp]) W):St w0 bor (L++[eSt sb db S fp]) W:=St.repl (L2:=[]) h rfl eStA_st (eSt_loc _ _ _ _)
theorem eStA_o {W:World} {sb db:Nat} {S:StM} {mb:Nat} {RA:Option Addr} {rc:Nat} {EA:Option Addr} {ec ib tb:Nat} {fpd fp:List Nat} (h:(eStA sb db S mb RA rc EA ec ib tb fpd fp).holds W):StO W sb db S mb RA rc EA ec ib tb:=stL_at fun e he=>(h.2.2.2 e he).1
/-- what Scan lays -/
def scL (L:List RecM) (Ps:List RcT) (LA:Option Addr) (lc:Nat) (EA:Option Addr) (ec:Nat):List Ent:=[eO 27 8 (.slice LA L.length lc) L.length (Ps.flatMap rcC),eO 3 1 (.slice EA L.length ec) L.length ((endN L L.length).map (Value.int .i64)),eRc Ps]
def eSc (L:List RecM) (LA:Option Addr) (lc:Nat) (EA:Option Addr) (ec:Nat) (fp:List Nat):Ent:=⟨fp,fun W=>∃ Ps,Ps.map RcT.r=L∧fp=(scL L Ps LA lc EA ec).flatMap (·.fp)∧(scL L Ps LA lc EA ec).Pairwise Ent.apart∧∀ e∈scL L Ps LA lc EA ec,e.holds W∧e.loc⟩
theorem eSc_loc (L:List RecM) (LA:Option Addr) (lc:Nat) (EA:Option Addr) (ec:Nat) (fp:List Nat):(eSc L LA lc EA ec fp).loc:=fun W W' hk h=>by
 obtain ⟨Ps,h0,h1,h2,h3⟩:=h
 exact ⟨Ps,h0,h1,h2,fun e he=>⟨(h3 e he).2 W W' (fun k hk'=>hk k (by rw [eSc,h1]; exact List.mem_flatMap.2 ⟨e,he,hk'⟩)) (h3 e he).1,(h3 e he).2⟩⟩
theorem eSc_self {e:Ent} {L:List RecM} {LA:Option Addr} {lc:Nat} {EA:Option Addr} {ec:Nat} {fp:List Nat} (h:e=eSc L LA lc EA ec fp):e=eSc L LA lc EA ec e.fp:=by subst h; rfl
theorem St.sc {w0 W:World} {bor:List Nat} {L0:List Ent} {L:List RecM} {Ps:List RcT} {LA:Option Addr} {lc:Nat} {EA:Option Addr} {ec:Nat} (h:St w0 bor (L0++scL L Ps LA lc EA ec) W) (hp:Ps.map RcT.r=L):∃ fp,St w0 bor (L0++[eSc L LA lc EA ec fp]) W:=by
 refine ⟨_,St.pack (E:=eSc L LA lc EA ec ((scL L Ps LA lc EA ec).flatMap (·.fp))) h rfl ⟨Ps,hp,rfl,(List.pairwise_append.1 h.apart).2.1,fun e he=>?_⟩ (eSc_loc _ _ _ _ _ _)⟩
 have h3:=h.ok e (List.mem_append_right _ he)
 exact ⟨h3.holds,h3.loc⟩
theorem St.unsc {w0 W:World} {bor:List Nat} {L0:List Ent} {L:List RecM} {LA:Option Addr} {lc:Nat} {EA:Option Addr} {ec:Nat} {fp:List Nat} (h:St w0 bor (L0++[eSc L LA lc EA ec fp]) W):∃ Ps,Ps.map RcT.r=L∧St w0 bor (L0++scL L Ps LA lc EA ec) W:=by
 obtain ⟨Ps,h0,h1,h2,h3⟩:=(h.ok (eSc L LA lc EA ec fp) (by simp)).holds
 exact ⟨Ps,h0,h.unpackL h1 h3 h2⟩
theorem St.unscf {w0 W:World} {bor:List Nat} {L0:List Ent} {L:List RecM} {LA:Option Addr} {lc:Nat} {EA:Option Addr} {ec:Nat} {fp:List Nat} (h:St w0 bor (eSc L LA lc EA ec fp::L0) W):∃ Ps,Ps.map RcT.r=L∧St w0 bor (eO 27 8 (.slice LA L.length lc) L.length (Ps.flatMap rcC)::eO 3 1 (.slice EA L.length ec) L.length ((endN L L.length).map (Value.int .i64))::eRc Ps::L0) W:=by
 obtain ⟨Ps,h1,h2⟩:=St.unsc (h.perm (List.perm_append_singleton _ _).symm)
 exact ⟨Ps,h1,h2.perm List.perm_append_comm⟩
theorem scan_uni {L:List RecM} {f:FuncId} {args:Array Value} {w:World} (h:Calls Tryz.prog f args w (ScPost L w)):Calls Tryz.prog f args w (fun e w'=>∃ LA lc EA ec fp,e= .returned (.tuple #[.slice LA L.length lc, .slice EA L.length ec])∧St w [] [eSc L LA lc EA ec fp] w'):=by
 refine h.mono fun e w' h=>?_
 obtain ⟨LA,lc,EA,ec,Ps,h1,h2,h3⟩:=h
 obtain ⟨fp,h4⟩:=St.sc (L0:=[]) h3 h1
 exact ⟨LA,lc,EA,ec,fp,h2,h4⟩
/-- the disk of a store, the rest let go -/
theorem St.dkOf {w0 W:World} {bor:List Nat} {L:List Ent} {sb db:Nat} {S:StM} {fp:List Nat} (h:St w0 bor (L++[eSt sb db S fp]) W):∃ fpd,St w0 bor (L++[eDk db S.D fpd]) W:=by
 obtain ⟨_,mb,RA,rc,EA,ec,ib,tb,fpd,h1⟩:=h.unst
 have h2:St w0 bor ((L++[eDk db S.D fpd])++[eB sb 109 (stC db S mb RA rc EA ec ib tb),eMx kcI ptX Tryz.prog 3 mb S.pool.length (atM S.pool),eA (S.pool.map entB),eM (S.rows.map entP),eO 27 8 (.slice RA S.recs.length rc) S.recs.length (S.recs.flatMap rcC),eO 3 1 (.slice EA S.recs.length ec) S.recs.length ((endN S.L S.recs.length).map (Value.int .i64)),eRc S.rr,eMx kcI ecB Tryz.prog 3 ib S.ni S.im,eMx kcI ecB Tryz.prog 3 tb S.nt S.told]) W:=h1.perm (by
  rw [List.append_assoc]
  refine List.Perm.append_left L ?_
  exact List.perm_append_comm (l₁:=[_, _, _, _, _, _, _, _, _]) (l₂:=[_]))
 exact ⟨fpd,⟨h2.upd,fun e he=>h2.ok e (List.mem_append_left _ he),(List.pairwise_append.1 h2.apart).1⟩⟩
/-- records redone -/
inductive RdL:Nat→StM→List RecM→StM→Int→Prop where
 | nil (k:Nat) (S:StM):RdL k S [] S 0
 | bad {k:Nat} {S S1:StM} {r:RecM} {l:List RecM} {er:Int} (h:RdR S ((k:Int)+1) r S1 er) (he:er≠0):RdL k S (r::l) S1 er
 | cons {k:Nat} {S S1 S2:StM} {r:RecM} {l:List RecM} {er:Int} (h:RdR S ((k:Int)+1) r S1 0) (hr:RdL (k+1) S1 l S2 er):RdL k S (r::l) S2 er
def opnD (D:DkM) (L:List RecM):DkM×Int:=if szF L < D.log.size then opD D (ctE D (szF L)) (ctD (szF L)) else (D,0)
def opnS (D:DkM) (bufs:Int) (rs:List RcT) (frm:Int):StM:=⟨D,bufs,[],0,rs,0,fun _=>none,0,fun _=>none,frm,[],rs⟩
/-- what Open leaves -/
inductive OpnR (D:DkM) (bufs:Int) (L:List RecM):(StM ⊕ DkM)→Int→Prop where
 | bufs (h:¬ (1≤bufs∧bufs≤64)):OpnR D bufs L (.inr D) 30
 | off (h:1≤bufs∧bufs≤64) (ho:D.off=true):OpnR D bufs L (.inr D) 24
 | form (h:1≤bufs∧bufs≤64) (ho:D.off=false) (hf:fromF L=0):OpnR D bufs L (.inr D) 11
 | cut (h:1≤bufs∧bufs≤64) (ho:D.off=false) (hf:fromF L≠0) (hc:(opnD D L).2≠0):OpnR D bufs L (.inr (opnD D L).1) (opnD D L).2
 | bad (h:1≤bufs∧bufs≤64) (ho:D.off=false) (hf:fromF L≠0) (hc:(opnD D L).2=0) (rs:List RcT) (hrs:rs.map RcT.r=L) {S:StM} {er:Int} (hr:RdL (fromF L) (opnS (opnD D L).1 bufs rs (fromF L)) (L.drop (fromF L)) S er) (he:er≠0):OpnR D bufs L (.inr S.D) er
 | ok (h:1≤bufs∧bufs≤64) (ho:D.off=false) (hf:fromF L≠0) (hc:(opnD D L).2=0) (rs:List RcT) (hrs:rs.map RcT.r=L) {S:StM} (hr:RdL (fromF L) (opnS (opnD D L).1 bufs rs (fromF L)) (L.drop (fromF L)) S 0):OpnR D bufs L (.inl S) 0
def opP (sb:Nat):(StM ⊕ DkM)→Value
 | .inl _=> .pointer (some ⟨sb,0,none⟩)
 | .inr _=> .pointer none
/-- a store, or a disk alone -/
def eOp (sb db:Nat) (R:StM ⊕ DkM) (fp:List Nat):Ent:=match R with
 | .inl S=>eSt sb db S fp
 | .inr D=>eDk db D fp
theorem eOp_fp (sb db:Nat) (R:StM ⊕ DkM) (fp:List Nat):(eOp sb db R fp).fp=fp:=by cases R<;>rfl
theorem eOp_loc (sb db:Nat) (R:StM ⊕ DkM) (fp:List Nat):(eOp sb db R fp).loc:=by
 cases R with
 | inl S=>exact eSt_loc _ _ _ _
 | inr D=>exact eDk_loc _ _ _
def eOx (db:Nat) (D:DkM) (bufs:Int) (L:List RecM) (v:Value) (er:Int) (fp:List Nat):Ent:=⟨fp,fun W=>∃ sb R,OpnR D bufs L R er∧v=opP sb R∧(eOp sb db R fp).holds W⟩
theorem eOx_loc (db:Nat) (D:DkM) (bufs:Int) (L:List RecM) (v:Value) (er:Int) (fp:List Nat):(eOx db D bufs L v er fp).loc:=fun W W' hk h=>by
 obtain ⟨sb,R,h1,h2,h3⟩:=h
 exact ⟨sb,R,h1,h2,eOp_loc sb db R fp W W' (fun k hk'=>hk k (by rw [eOp_fp] at hk'; exact hk')) h3⟩
def OpnPost (db:Nat) (D:DkM) (bufs:Int) (L:List RecM) (fp:List Nat) (w:World) (e:Ending) (w':World):Prop:=∃ v er,e= .returned (.tuple #[v, .int .i64 er])∧∃ fp',St w fp [eOx db D bufs L v er fp'] w'
theorem OpnPost.st {db sb:Nat} {D:DkM} {bufs:Int} {L:List RecM} {fp fp':List Nat} {w w':World} {S:StM} {er:Int} (h:OpnR D bufs L (.inl S) er) (hs:St w fp ([]++[eSt sb db S fp']) w'):OpnPost db D bufs L fp w (.returned (.tuple #[.pointer (some ⟨sb,0,none⟩), .int .i64 er])) w':=
 ⟨_,er,rfl,fp',St.repl (L1:=[]) (L2:=[]) (E':=eOx db D bufs L (.pointer (some ⟨sb,0,none⟩)) er fp') hs rfl (fun h1=>⟨sb, .inl S,h,rfl,h1⟩) (eOx_loc _ _ _ _ _ _ _)⟩
theorem OpnPost.dk {db:Nat} {D D':DkM} {bufs:Int} {L:List RecM} {fp fp':List Nat} {w w':World} {er:Int} (h:OpnR D bufs L (.inr D') er) (hs:St w fp ([]++[eDk db D' fp']) w'):OpnPost db D bufs L fp w (.returned (.tuple #[.pointer none, .int .i64 er])) w':=
 ⟨_,er,rfl,fp',St.repl (L1:=[]) (L2:=[]) (E':=eOx db D bufs L (.pointer none) er fp') hs rfl (fun h1=>⟨0, .inr D',h,rfl,h1⟩) (eOx_loc _ _ _ _ _ _ _)⟩
theorem fromF_take {L:List RecM} {j:Nat} {r:RecM} (h:L[j]? =some r):fromF (L.take (j+1))=if r.kind=9 then j+1 else fromF (L.take j):=by
 obtain ⟨hj,rfl⟩:=List.getElem?_eq_some_iff.1 h
 rw [List.take_succ_eq_append_getElem hj,fromF_snoc,List.length_take,Nat.min_eq_left (by omega)]
theorem fromF_le (L:List RecM):fromF L≤L.length:=by
 induction L using snoc_ind with
 | h0=>exact Nat.le_refl _
 | hs L r ih=>
   rw [fromF_snoc,List.length_append,List.length_singleton]
   split<;>omega
theorem SOk.opn {D:DkM} {bufs:Int} {rs:List RcT} {frm:Int} {c:Nat} (hb:1≤bufs∧bufs≤64) (hp:D.pgs.length≤400) (hw:∀ x∈D.pgs,x.ws.length≤c) (hr:∀ r∈rs.map RcT.r,recR r=true) (hl:D.log=logF (rs.map RcT.r)) (hz:D.log.size≤1048576) (hf:D.fl≤D.log.size):SOk (opnS D bufs rs frm) c:=
 ⟨hb,hp,hw,⟨Int.le_refl _,Int.natCast_nonneg _⟩,Nat.zero_le _,Nat.zero_le _,(fun t ht=>by cases ht),List.nodup_nil,by show ((0:Nat):Int)≤bufs; omega,(fun t ht=>by cases ht),hr,hl,hz,hf,fun t ht=>by cases ht⟩
/-- the disk behind the cut -/
theorem opnD_ok {D:DkM} {L:List RecM} {tl:ByteArray} (hl:D.log=logF L++tl) (hf:D.fl≤D.log.size) (h0:(opnD D L).2=0):(opnD D L).1.log=logF L∧(opnD D L).1.pgs=D.pgs∧(opnD D L).1.fl=min D.fl (szF L)∧(opnD D L).1.armed=D.armed∧(opnD D L).1.off=D.off:=by
 have hz:D.log.size=szF L+tl.size:=by rw [hl,ByteArray.size_append,logF_size]
 unfold opnD at h0 ⊢
 split
 ·rename_i h1
  rw [if_pos h1] at h0
  obtain ⟨h2,h3,h4⟩:=opD_ok h0
  rw [h4]
  refine ⟨?_,rfl,rfl,rfl,rfl⟩
  show D.log.extract 0 (szF L)=logF L
  rw [hl]
  apply bl_inj
  rw [bl_extract,bl_append,List.drop_zero,Nat.sub_zero,List.take_left' (by rw [bl_len,logF_size])]
 ·rename_i h1
  have h2:tl.size=0:=by omega
  have h3:tl=⟨#[]⟩:=bl_inj (List.eq_nil_of_length_eq_zero (by rw [bl_len]; exact h2))
  refine ⟨?_,rfl,?_,rfl,rfl⟩
  ·show D.log=logF L
   rw [hl,h3,ap_nil]
  ·show D.fl=min D.fl (szF L)
   omega
end
section
open Go.RowKit
theorem endN_last {L:List RecM} {n:Nat} (h:L.length=n+1):(endN L L.length)[n]? =some (szF L:Int):=by
 rw [endN,List.getElem?_map,List.getElem?_range (by omega)]
 rw [Option.map_some,← h,List.take_length]
theorem red_zero {S S2:StM} {lsn er:Int} {r:RecM} (h:RdR S lsn r S2 er) (h0:er=0):RdR S lsn r S2 0:=h0 ▸ h
theorem sopen_any (db:Nat) (D:DkM) (bufs:Int) (L:List RecM) (tl:ByteArray) (c:Nat) (fp:List Nat) (w:World) (hB:(eDk db D fp).holds w) (hlt:∀ k∈fp,k < w.heap.size) (hlog:D.log=logF L++tl) (hL:∀ r∈L,recR r=true) (hta:TailP D.log (szF L)) (hz6:D.log.size≤1000000) (hfz:D.fl≤D.log.size) (hpg:D.pgs.length≤400) (hws:∀ x∈D.pgs,x.ws.length≤c) (hc:c+200*L.length≤900000) (h8:∀ r∈L,r.kind=8→r.note.size=512):
  Calls Tryz.prog 18 #[.pointer (some ⟨db,0,none⟩), .int .i64 bufs] w (OpnPost db D bufs L fp w):=by
 have st1:St w fp [eDk db D fp] w:=St.lend hB (eDk_loc _ _ _) hlt
 go_enter Tryz.func18,Tryz.ntmps18
 have hst0:=st1
 refine wp_seq (sqr (sqp [.k 4 (.pointer none), .k 5 (vi 0)] ?_))
 refine then_normal (wp_seq (wp_seq (sqr (sqp [.m 13 1, .k 14 (.bool (decide (bufs < 1))), .m 15 14] ?_))))
 refine sqw 15 [16,17] rfl (fun _=>sqp [.m 16 1, .k 17 (.bool (decide (64 < bufs)))] sqe) ?_
 refine sqp [sPo 18 (decide (bufs < 1)) (decide (64 < bufs))] ?_
 refine then_normal (wbs (fun hs9=>?_) fun hs9=>?_)
 ·have hs9p:=hs9
  simp only [zB] at hs9p
  refine wp_seq (sqr (sqp [.k 4 (.pointer none), .k 5 (vi 30)] ?_))
  refine then_normal (wp_ret (then_ret ?_))
  refine bpr (.tuple #[.pointer none,vi 30]) (results_2 Tryz.results18 rpt rpt) ?_
  exact OpnPost.dk (.bufs (by have h_:=hs9; simp at h_; omega)) (hst0.pick [0] (by decide) rfl)
 have hs9p:=hs9
 simp only [zB] at hs9p
 obtain ⟨hs9p1,hs9p2⟩:=hs9p
 refine wp_skip (then_normal (wp_seq (wp_seq ?_)))
 obtain ⟨onv,hon⟩:∃ z,(!D.off)=z:=⟨_,rfl⟩
 have hbb:1≤bufs∧bufs≤64:=by have h_:=hs9; simp at h_; omega
 refine sqr (sqp [.m 19 0] ?_)
 refine sqk (.bool onv) hst0 (fun cx=>⟨_,on_to hon (kon_any db D _ (eDk_at (CtxV.holdF cx (cx.init 0 _ rfl) rfl))),(map1 (cx.ou 19))⟩) fun W13 hst13=>?_
 refine sqp [.k 21 (.bool (!(onv)))] ?_
 refine then_normal ?_
 rcases Bool.eq_false_or_eq_true (onv) with hs15 | hs15
 ·refine wp_cond_false (show Act.eval _ _= .bool false from (congrArg Value.bool (by rw [hs15]; rfl))) (wp_skip (then_normal (wp_seq (sqr (sqp [.m 22 0, .m 23 1] ?_)))))
  refine sqn1 (fun x_=>pbx x_) (fun M24_18=> .map (some M24_18)) (fun M24_18=>eMx kcI ptX Tryz.prog 3 M24_18 0 (fun _=>none)) hst13 (by
    refine svA fun ρ β W X cx=>?_
    exact dv_makeMx rfl rfl rfl rfl (fun σ β' X' hs hb hv hx=>⟨hv,hx⟩)) fun M24_18 W18 hst18=>?_
  refine sqn1 (fun x_=>pbx x_) (fun M25_19=> .map (some M25_19)) (fun M25_19=>eMx kcI ecB Tryz.prog 3 M25_19 0 (fun _=>none)) hst18 (by
    refine svA fun ρ β W X cx=>?_
    exact dv_makeMx rfl rfl rfl rfl (fun σ β' X' hs hb hv hx=>⟨hv,hx⟩)) fun M25_19 W19 hst19=>?_
  refine sqn1 (fun x_=>pbx x_) (fun M26_20=> .map (some M26_20)) (fun M26_20=>eMx kcI ecB Tryz.prog 3 M26_20 0 (fun _=>none)) hst19 (by
    refine svA fun ρ β W X cx=>?_
    exact dv_makeMx rfl rfl rfl rfl (fun σ β' X' hs hb hv hx=>⟨hv,hx⟩)) fun M26_20 W20 hst20=>?_
  refine sqp [.k 27 (.agg #[vp db,vi bufs, .map (some M24_18),vi 0, .slice none 0 0, .slice none 0 0, .map (some M25_19), .map (some M26_20),vi 0])] ?_
  refine sqbx #[vp db,vi bufs, .map (some M24_18),vi 0, .slice none 0 0, .slice none 0 0, .map (some M25_19), .map (some M26_20),vi 0] hst20 fun B28_22 W22 hst22=>?_
  refine sqp [.m 6 28] ?_
  refine then_normal (wp_seq (wp_region_Y [0,0,0,4,12,28,60,60,125,381,893,2047,4095,8191] [[],[],[],[0],[],[],[],[],[],[],[4],[],[],[6]] [[],[],[],[],[5],[],[],[],[],[],[6],[],[],[7]] [[],[],[],[],[],[],[],[],[],[],[4],[],[],[6]] [.k 30 (vp B28_22), .k 31 (vp B28_22), .k 32 (vp db), .c 33 (.string D.log), .a 34, .a 29, .a 35, .a 36, .k 37 (vp B28_22), .k 38 (.pointer (some ⟨B28_22,4,none⟩)), .n, .k 39 (vp B28_22), .k 40 (.pointer (some ⟨B28_22,5,none⟩)), .n] (fun ix σ β X=>match ix with | 0=>True | 1=>True | 2=>True | 3=>True | 4=>σ 34= .tuple #[.slice (sA (tg (β 34) 0)) L.length (sC (tg (β 34) 0)), .slice (sA (tg (β 34) 1)) L.length (sC (tg (β 34) 1))]∧X 5=eSc L (sA (tg (β 34) 0)) (sC (tg (β 34) 0)) (sA (tg (β 34) 1)) (sC (tg (β 34) 1)) ((X 5).fp) | 5=>σ 29= .tuple #[.slice (sA (tg (β 34) 0)) L.length (sC (tg (β 34) 0)), .slice (sA (tg (β 34) 1)) L.length (sC (tg (β 34) 1))] | 6=>σ 35= .slice (sA (tg (β 34) 0)) L.length (sC (tg (β 34) 0)) | 7=>σ 36= .slice (sA (tg (β 34) 1)) L.length (sC (tg (β 34) 1)) | 8=>True | 9=>True | 10=>X 6=eB B28_22 109 #[vp db,vi bufs, .map (some M24_18),vi 0, .slice (sA (tg (β 34) 0)) L.length (sC (tg (β 34) 0)), .slice none 0 0, .map (some M25_19), .map (some M26_20),vi 0] | 11=>True | 12=>True | 13=>X 7=eB B28_22 109 #[vp db,vi bufs, .map (some M24_18),vi 0, .slice (sA (tg (β 34) 0)) L.length (sC (tg (β 34) 0)), .slice (sA (tg (β 34) 1)) L.length (sC (tg (β 34) 1)), .map (some M25_19), .map (some M26_20),vi 0] | _=>True) [0,1,2,3,5,7] [3,4,5,6,7,10,13] [(29,5,1,30),(0,0,5,5),(0,6,7,6)] hst22 ?_ ?_ ?_))
  ·exact fun ix _ _ _ _ _ _ hs hb hx h=>match ix,h with
   | 4,h=>by dsimp only; rw [← hs 34 rfl,← hb 34 rfl,← hx 5 rfl]; exact h
   | 5,h=>by dsimp only; rw [← hs 29 rfl,← hb 34 rfl]; exact h
   | 6,h=>by dsimp only; rw [← hs 35 rfl,← hb 34 rfl]; exact h
   | 7,h=>by dsimp only; rw [← hs 36 rfl,← hb 34 rfl]; exact h
   | 10,h=>by dsimp only; rw [← hb 34 rfl,← hx 6 rfl]; exact h
   | 13,h=>by dsimp only; rw [← hb 34 rfl,← hx 7 rfl]; exact h
   | 0, _ | 1, _ | 2, _ | 3, _ | 8, _ | 9, _ | 11, _ | 12, _ | _+14, _=>trivial
  ·refine ⟨?_,?_,?_,?_,?_,?_,?_,trivial⟩
   ·exact xsc rfl id rfl rfl fun cx=>⟨_,klog_any db D _ (eDk_at (CtxV.holdF cx (cx.init 0 _ rfl) rfl)),(map1 (cx.an 2))⟩
   ·refine svA fun ρ β W X cx=>?_
    refine DoesU.call (run_callF (args:=#[.string D.log]) rfl cx.sees rfl (by kernel_rfl) (map1 (cx.an 3))) ?_
    refine (scan_uni (jscan_any D.log tl L _ hlog hL hta hz6)).mono ?_
    rintro e W1 ⟨LA4,lc4,EA4,ec4,fp4,rfl,hs4⟩
    refine ⟨_,rfl,post_st [eSc L LA4 lc4 EA4 ec4 fp4] rfl rfl hs4 (fun σ β' X' hs hb hv hN=>?_)⟩
    have hv1:=(hv 34 rfl).1; have hv2:=(hv 34 rfl).2
    exact ⟨hv1.trans (by rw [hv2]; rfl),(by rw [hv2]; exact eSc_self ((List.cons.inj hN).1))⟩
   ·exact sv rfl rfl rfl rfl rfl _ (fun _ _ _ h=>h) (fun β β' h=>by rw [h 34 (by decide)]) fun ρ β W X cx=>run_move' rfl (dTn (cx.an 4)).1
   ·exact sv rfl rfl rfl rfl rfl _ (fun _ _ _ h=>h) (fun β β' h=>by rw [h 34 (by decide)]) fun ρ β W X cx=>run_extract' rfl (dTn (cx.an 5)) rfl
   ·exact sv rfl rfl rfl rfl rfl _ (fun _ _ _ h=>h) (fun β β' h=>by rw [h 34 (by decide)]) fun ρ β W X cx=>run_extract' rfl (dTn (cx.an 5)) rfl
   ·refine svA fun ρ β W X cx=>?_
    exact dv_store (n:=1) rfl (cx.an 9) (dTn (cx.an 6)) (by kernel_rfl) (by kernel_rfl) (by kernel_rfl) cx (cx.init 4 _ rfl) rfl (nle rfl) (by kernel_rfl) rfl rfl rfl (fun σ β' X' hs hb hx=>by rw [hb 34]; exact hx)
   ·refine svA fun ρ β W X cx=>?_
    exact dv_store (n:=1) rfl (cx.an 12) (dTn (cx.an 7)) (by kernel_rfl) (by kernel_rfl) (by kernel_rfl) cx (dTn (cx.an 10)) rfl (nle rfl) (by kernel_rfl) rfl rfl rfl (fun σ β' X' hs hb hx=>by rw [hb 34]; exact hx)
  intro σ β X W24 hD hst24 fr hfr
  obtain ⟨LA34_24,hu_LA34_24⟩:∃ z,sA (tg (β 34) 0)=z:=⟨_,rfl⟩
  obtain ⟨lc34_24,hu_lc34_24⟩:∃ z,sC (tg (β 34) 0)=z:=⟨_,rfl⟩
  obtain ⟨EA34_24,hu_EA34_24⟩:∃ z,sA (tg (β 34) 1)=z:=⟨_,rfl⟩
  obtain ⟨ec34_24,hu_ec34_24⟩:∃ z,sC (tg (β 34) 1)=z:=⟨_,rfl⟩
  have xX5:X 5= _:=(dTn (hD 4 lq)).2
  obtain ⟨r5_24,hu_r5_24⟩:∃ z,(X 5).fp=z:=⟨_,rfl⟩
  rw [hu_r5_24] at xX5
  clear hu_r5_24
  simp only [xX5,exq 7 ((dTn (hD 13 lq))),hu_LA34_24,hu_lc34_24,hu_EA34_24,hu_ec34_24] at hst24
  simp only [ed 34 ((dTn (hD 4 lq)).1),ed 29 ((dTn (hD 5 lq))),ed 35 ((dTn (hD 6 lq))),ed 36 ((dTn (hD 7 lq))),hu_LA34_24,hu_lc34_24,hu_EA34_24,hu_ec34_24] at hfr
  clear hD xX5 hu_LA34_24 hu_lc34_24 hu_EA34_24 hu_ec34_24; subst hfr; clear σ β X
  refine then_normal (wp_seq (wp_seq ?_))
  obtain ⟨rs,hrs,ht25_⟩:=hst24.u4.unscf
  have hrl:rs.length=L.length:=by rw [← hrs,List.length_map]
  refine sqr (sqp [.m 41 6, .k 42 (vp B28_22), .k 43 (.pointer (some ⟨B28_22,4,none⟩))] ?_)
  refine sqld 7 ht25_ ?_
  refine sqp [.k 45 (vi ((L.length:Int))), .k 46 (vi 0)] ?_
  refine then_normal (wp_block ?_)
  refine wp_loopT (fun t_ mz az W=>∃ j:Nat,j≤L.length∧mz=L.length - j∧az=⟨(ovr (jv az) [(7,7,2,[]),(37,46,0,[vi ((j:Int))]),(0,47,13,[])] t_).toArray,[]⟩∧St w fp [eO 27 8 (.slice LA34_24 L.length lc34_24) L.length (rs.flatMap rcC),eO 3 1 (.slice EA34_24 L.length ec34_24) L.length ((endN L L.length).map (Value.int .i64)),eRc rs,eDk db D fp,eMx kcI ptX Tryz.prog 3 M24_18 0 (fun _=>none),eMx kcI ecB Tryz.prog 3 M25_19 0 (fun _=>none),eMx kcI ecB Tryz.prog 3 M26_20 0 (fun _=>none),eB B28_22 109 #[vp db,vi bufs, .map (some M24_18),vi 0, .slice LA34_24 L.length lc34_24, .slice EA34_24 L.length ec34_24, .map (some M25_19), .map (some M26_20),vi ((fromF (L.take j):Int))]] W) (L.length - 0) ?_ ?_
  · -- the loop begins
    exact ⟨0,Nat.zero_le _,rfl,(by kernel_rfl),ht25_.pk [0,1,2,3,4,5,6,7]⟩
  rintro n32 a32 W32 ⟨j,hj,rfl,hj_,hst32⟩
  refine ovz hj_ fun u32_=>?_
  refine wp_seq (sqr (sqp [.k 47 (.bool (decide ((j:Int) < (L.length:Int))))] ?_))
  refine then_normal (wp_seq (wds (fun hs34 hs34p=>?_) fun hs34 hs34p=>?_))
  ·refine wp_skip (then_normal (wp_seq (wp_block (wp_seq ?_))))
   obtain ⟨rt,hrt⟩:∃ rt,rs[j]? =some rt:=⟨_,List.getElem?_eq_getElem (by omega)⟩
   have hlj:L[j]? =some rt.r:=by rw [← hrs,List.getElem?_map,hrt]; rfl
   refine sqr (sqp [.m 48 46] ?_)
   refine sql (.pointer (some ((ad LA34_24).add (j*8)))) hst32 (fun cx=>run_indexSlM (e:=27) (m:=j) (sz:=8) rfl (by kernel_rfl) (by kernel_rfl) (cx.ou 44) (cx.ou 46) (by omega) (by omega) (At.of_ownN (cx.ri 0 rfl)) (flatPos (sz:=8) rcC_len (by decide) (by omega))) ?_
   refine sql (.agg #[vi rt.r.kind,vi rt.r.xid,vi rt.r.tbl, .slice none 0 0, .slice none 0 0, .slice rt.A rt.r.eds.length rt.c, .slice none 0 0, .string rt.r.note]) hst32 (fun cx=>run_loadElt (f:=rcC) (m:=j) (sz:=8) (off:=0) (n:=8) rfl (by kernel_rfl) (by kernel_rfl) (cx.ou 49) rfl rcC_len (At.of_ownN (cx.ri 0 rfl)) hrt (fun k hk=>match k,hk with | 0, _=>rfl | 1, _=>rfl | 2, _=>rfl | 3, _=>rfl | 4, _=>rfl | 5, _=>rfl | 6, _=>rfl | 7, _=>rfl | k+8,hk=>absurd hk (by omega))) ?_
   refine sqal #[vi 0,vi 0,vi 0, .slice none 0 0, .slice none 0 0, .slice none 0 0, .slice none 0 0, .string ByteArray.empty] hst32 fun B8_38 W38 hst38=>?_
   refine sqp [.m 7 48] ?_
   refine sqst (n:=8) 8 #[vi rt.r.kind,vi rt.r.xid,vi rt.r.tbl, .slice none 0 0, .slice none 0 0, .slice rt.A rt.r.eds.length rt.c, .slice none 0 0, .string rt.r.note] hst38 fun W40 hst40=>?_
   refine then_normal (wp_seq (sqr (sqp [.k 51 (vp B8_38)] ?_)))
   refine sqld 8 hst40 ?_
   refine sqp [.k 53 (.bool (rt.r.kind==9))] ?_
   refine then_normal (wbs (fun hs44=>?_) fun hs44=>?_)
   ·have hs44p:=beq_iff_eq.1 hs44
    refine sqr (sqp [.m 54 6, .m 55 7,sI 56 ((j:Int)+1) (by omega), .k 57 (vp B28_22), .k 58 (.pointer (some ⟨B28_22,8,none⟩))] ?_)
    refine sqst (n:=1) 7 #[vp db,vi bufs, .map (some M24_18),vi 0, .slice LA34_24 L.length lc34_24, .slice EA34_24 L.length ec34_24, .map (some M25_19), .map (some M26_20),vi ((j:Int)+1)] hst40 fun W50 hst50=>?_
    refine blk_normal (then_normal (sqr (sqp [sI 59 ((j:Int)+1) (by omega), .m 46 59] ?_)))
    refine then_normal ?_
    have hft:fromF (L.take (j+1))=j+1:=by rw [fromF_take hlj,if_pos (by simpa using hs44)]
    rw [show ((j:Int)+1)=((fromF (L.take (j+1)):Nat):Int) by rw [hft]; omega] at hst50
    refine ⟨L.length - ((j+1)),by omega,?_⟩
    exact ⟨(j+1),by omega,rfl,(by kernel_rfl),hst50.pk [0,1,2,3,4,5,6,7]⟩
   have hs44p:=beq_eq_false_iff_ne.1 hs44
   refine wp_skip (blk_normal (then_normal (sqr (sqp [sI 59 ((j:Int)+1) (by omega), .m 46 59] ?_))))
   refine then_normal ?_
   have hft:fromF (L.take (j+1))=fromF (L.take j):=by rw [fromF_take hlj,if_neg (by simpa using hs44)]
   rw [← hft] at hst40
   refine ⟨L.length - ((j+1)),by omega,?_⟩
   exact ⟨(j+1),by omega,rfl,(by kernel_rfl),hst40.pk [0,1,2,3,4,5,6,7]⟩
  refine wp_exit (then_exit (then_exit (blk_eq (then_normal (wp_seq (wp_seq ?_))))))
  obtain rfl:j=L.length:=by omega
  rw [List.take_length] at hst32
  refine sqr (sqp [.m 60 6, .k 61 (vp B28_22), .k 62 (.pointer (some ⟨B28_22,8,none⟩))] ?_)
  refine sqld 7 hst32 ?_
  refine sqp [.k 64 (.bool ((fromF L:Int)==0))] ?_
  refine then_normal (wbs (fun hs62=>?_) fun hs62=>?_)
  ·have hs62p:=beq_iff_eq.1 hs62
   refine wp_seq (sqr (sqp [.k 4 (.pointer none), .k 5 (vi 11)] ?_))
   refine then_normal (wp_ret (then_ret ?_))
   refine bpr (.tuple #[.pointer none,vi 11]) (results_2 Tryz.results18 rpt rpt) ?_
   exact OpnPost.dk (.form hbb (by have h_:=hon.trans hs15; simpa using h_) (by have h_:=hs62; simp at h_; omega)) (hst32.pick [3] (by decide) rfl)
  have hs62p:=beq_eq_false_iff_ne.1 hs62
  refine wp_skip (then_normal (wp_seq (wp_seq ?_)))
  have hf0:fromF L≠0:=by have h_:=hs62; simp at h_; omega
  have hfl:=fromF_le L
  obtain ⟨nl,hnl⟩:∃ n,L.length=n+1:=⟨L.length - 1,by omega⟩
  refine wp_region_Z [0,1,3,7,0,16,48,112,240,496,1023,2047,4095] [[],[],[],[7],[],[],[],[7],[],[],[1],[1]] [.k 65 (vp B28_22), .k 66 (vp B28_22), .k 67 (.pointer (some ⟨B28_22,5,none⟩)), .c 68 (.slice EA34_24 L.length ec34_24), .k 69 (vp B28_22), .k 70 (vp B28_22), .k 71 (.pointer (some ⟨B28_22,5,none⟩)), .c 72 (.slice EA34_24 L.length ec34_24), .k 73 (vi ((L.length:Int))),tJ 74 ((L.length:Int) - 1) (nl:Int) (by omega) (by omega), .c 75 (.pointer (some ((ad EA34_24).add nl))), .c 76 (vi ((szF L:Int))), .k 9 (vi ((szF L:Int)))] [0,1,2,3,4,5,6,7] [3,7,10,11] [(9,12,1,10),(55,0,12,67)] hst32 ?_ fun W65 hst65=>?_
  ·refine ⟨?_,?_,?_,?_,trivial⟩
   ·exact xs4 rfl id fun cx=>run_load1 rfl (by kernel_rfl) (cx.an 2) ((cx.bi 7 rfl).cell 5)
   ·exact xs4 rfl id fun cx=>run_load1 rfl (by kernel_rfl) (cx.an 6) ((cx.bi 7 rfl).cell 5)
   ·exact xs4 rfl id fun cx=>run_indexSl (e:=3) (m:=nl) rfl (by kernel_rfl) (by kernel_rfl) (cx.an 3) (cx.an 9) (by omega) (by omega) (At.of_own (cx.ri 1 rfl)) (by rw [List.length_map,endN_len]<;>omega)
   ·exact xs4 rfl id fun cx=>run_load1 rfl (by kernel_rfl) (cx.an 10) (At.cellAd (At.of_own (cx.ri 1 rfl)) ((List.getElem?_map ..).trans (by rw [endN_last hnl]; rfl)))
  refine then_normal (wp_seq (sqr (sqp [.m 77 9, .m 78 0] ?_)))
  refine sqk (.string D.log) hst65 (fun cx=>⟨_,klog_any db D _ (eDk_at (CtxV.holdF cx (cx.init 3 _ rfl) rfl)),(map1 (cx.ou 78))⟩) fun W68 hst68=>?_
  refine sqp [.k 80 (vi ((D.log.size:Int))), .k 81 (.bool (decide ((szF L:Int) < (D.log.size:Int))))] ?_
  refine then_normal (wds (fun hs71 hs71p=>?_) fun hs71 hs71p=>?_)
  ·refine wp_seq (sqr (sqp [.m 82 0, .m 83 9] ?_))
   refine sqc0s (fun X_=>X_.fp) (vi ((opD D (ctE D (szF L)) (ctD (szF L))).2)) (fun r8_74=>eDk db ((opD D (ctE D (szF L)) (ctD (szF L))).1) r8_74) 3 hst68 (by
     refine svA fun ρ β W X cx=>?_
     refine DoesU.call (run_callF (args:=#[vp db,vi ((szF L:Int))]) rfl cx.sees rfl (by kernel_rfl) (map2 (cx.ou 82) (cx.ou 83))) ?_
     refine (kcut_any db D (szF L:Int) _ _ (CtxV.holdF cx (cx.init 3 _ rfl) rfl) (CtxV.ltF cx (cx.init 3 _ rfl) rfl) (by omega)).mono ?_
     rintro e W1 ⟨rfl,fp4,hs4⟩
     refine ⟨_,rfl,post_obj (E:=eDk db D fp) [eDk db (opD D (ctE D (szF L)) (ctD (szF L))).1 fp4] (cx.init 3 _ rfl) rfl rfl hs4 (fun σ β' X' hs hb hv hN=>?_)⟩
     have hv1:=(hv 84 rfl).1; have hv2:=(hv 84 rfl).2
     exact ⟨hv1.trans rfl,eDk_self ((List.cons.inj hN).1)⟩) fun r8_74 W74 hst74=>?_
   refine sqp [.m 10 84] ?_
   refine then_normal (wp_seq (sqr (sqp [.m 85 10, .k 86 (.bool (((opD D (ctE D (szF L)) (ctD (szF L))).2) != 0))] ?_)))
   refine then_normal (wbs (fun hs78=>?_) fun hs78=>?_)
   ·have hs78p:=bne_iff_ne.1 hs78
    refine wp_seq (sqr (sqp [.m 87 10, .k 4 (.pointer none), .m 5 87] ?_))
    refine then_normal (wp_ret (then_ret ?_))
    refine bpr (.tuple #[.pointer none,vi ((opD D (ctE D (szF L)) (ctD (szF L))).2)]) (results_2 Tryz.results18 rpt rpt) ?_
    have hop:opnD D L=opD D (ctE D (szF L)) (ctD (szF L)):=if_pos (by have h_:=of_decide_eq_true hs71; omega)
    exact OpnPost.dk (by have h_:=OpnR.cut (L:=L) hbb (by have h_:=hon.trans hs15; simpa using h_) hf0 (by rw [hop]; simpa using hs78); rw [hop] at h_; exact h_) (hst74.pick [3] (by decide) rfl)
   have hs78p:=bne_eq_false_iff_eq.1 hs78
   refine wp_skip (then_normal (wp_seq (wp_seq ?_)))
   have hop:opnD D L=opD D (ctE D (szF L)) (ctD (szF L)):=if_pos (by have h_:=of_decide_eq_true hs71; omega)
   have hc0:(opnD D L).2=0:=by rw [hop]; simpa using hs78
   obtain ⟨D1,hD1⟩:∃ z,(opnD D L).1=z:=⟨_,rfl⟩
   rw [← hop,hD1] at hst74
   have hdk:=opnD_ok hlog hfz hc0
   rw [hD1] at hdk
   have hok0:SOk (opnS D1 bufs rs (fromF L)) c:=SOk.opn hbb (by rw [hdk.2.1]; exact hpg) (by rw [hdk.2.1]; exact hws) (by rw [hrs]; exact hL) (by rw [hrs]; exact hdk.1) (by rw [hdk.1,logF_size]; have h_:=congrArg ByteArray.size hlog; rw [ByteArray.size_append,logF_size] at h_; omega) (by rw [hdk.2.2.1,hdk.1,logF_size]; omega)
   have hn82_:=(hst74.nM entP).nA entB
   refine sqr (sqp [.m 88 6, .k 89 (vp B28_22), .k 90 (.pointer (some ⟨B28_22,8,none⟩))] ?_)
   refine sqld 9 hn82_ ?_
   refine sqp [.m 11 91] ?_
   refine then_normal (wp_block ?_)
   obtain ⟨fp88_,hk88_⟩:=St.stf (S:=opnS D1 bufs rs (fromF L)) (by have h_:=hn82_.u8.u8.u6.u6.u6.u6.u6.u8.u9; rw [stL,stC,StM.L,show (opnS D1 bufs rs (fromF L)).recs.map RcT.r=L from hrs,show (opnS D1 bufs rs (fromF L)).recs.length=L.length from hrl]; exact h_) (fun t ht=>by cases ht) (fun t ht=>ht)
   refine wp_loopT (fun t_ mz az W=>∃ j:Nat,∃ Sj:StM,∃ fpj:List Nat,j≤L.length∧(∀ S2 er,RdL j Sj (L.drop j) S2 er→RdL (fromF L) (opnS D1 bufs rs (fromF L)) (L.drop (fromF L)) S2 er)∧SOk Sj (c+200*j)∧Sj.recs=rs∧Sj.rr=rs∧mz=L.length - j∧az=⟨(ovr (jv az) [(4,4,2,[]),(5,11,0,[vi ((j:Int))]),(0,12,1,[]),(79,92,23,[])] t_).toArray,[]⟩∧St w fp [eSt B28_22 db Sj fpj] W) (L.length - ((fromF L))) ?_ ?_
   · -- the loop begins
     exact ⟨(fromF L),(opnS D1 bufs rs (fromF L)),fp88_,hfl,fun S2 er h=>h,hok0.mono (by omega),rfl,rfl,rfl,(by kernel_rfl),hk88_.pk [0]⟩
   rintro n89 a89 W89 ⟨j,Sj,fpj,hj,hcont,hokj,hrj,hrrj,rfl,hj_,hst89⟩
   refine ovz hj_ fun u89_=>?_
   refine wp_seq (wp_seq ?_)
   obtain ⟨mb90_,RA90_,rc90_,EA90_,ec90_,ib90_,tb90_,fpd90_,ha90_⟩:=St.toA (L:=[]) (hst89.pick [0] (by decide) rfl)
   have hb90_:St w fp [eStA B28_22 db Sj mb90_ RA90_ rc90_ EA90_ ec90_ ib90_ tb90_ fpd90_ fpj] W89:=ha90_
   have hrjl:Sj.recs.length=L.length:=by rw [hrj,hrl]
   have hcj:200*j≤200*L.length:=by omega
   refine sqr (sqp [.m 92 11, .m 93 6, .k 94 (vp B28_22), .k 95 (.pointer (some ⟨B28_22,4,none⟩))] ?_)
   refine sql (.slice RA90_ Sj.recs.length rc90_) hb90_ (fun cx=>run_load1 rfl (by kernel_rfl) (cx.ou 95) ((eStA_o (CtxV.holdF cx (cx.init 0 _ rfl) rfl)).blkL.cell 4)) ?_
   refine sqp [.k 97 (vi ((Sj.recs.length:Int))), .k 98 (.bool (decide ((j:Int) < (Sj.recs.length:Int))))] ?_
   refine then_normal (wds (fun hs98 hs98p=>?_) fun hs98 hs98p=>?_)
   ·refine wp_skip (then_normal (wp_seq (wp_block (wp_seq ?_))))
    have hjl:j < L.length:=by omega
    obtain ⟨rt,hrt⟩:∃ rt,rs[j]? =some rt:=⟨_,List.getElem?_eq_getElem (by omega)⟩
    have hrt2:Sj.recs[j]? =some rt:=by rw [hrj]; exact hrt
    have hlj:L[j]? =some rt.r:=by rw [← hrs,List.getElem?_map,hrt]; rfl
    have hrm:rt∈Sj.rr:=by rw [hrrj]; exact List.mem_of_getElem? hrt
    have hlm:=List.mem_of_getElem? hlj
    refine sqr (sqp [.m 101 6, .m 102 11,sI 103 ((j:Int)+1) (by omega), .m 104 6, .k 105 (vp B28_22), .k 106 (.pointer (some ⟨B28_22,4,none⟩))] ?_)
    refine sql (.slice RA90_ Sj.recs.length rc90_) hb90_ (fun cx=>run_load1 rfl (by kernel_rfl) (cx.ou 106) ((eStA_o (CtxV.holdF cx (cx.init 0 _ rfl) rfl)).blkL.cell 4)) ?_
    refine sqp [.m 108 11] ?_
    refine sql (.pointer (some ((ad RA90_).add (j*8)))) hb90_ (fun cx=>run_indexSlM (e:=27) (m:=j) (sz:=8) rfl (by kernel_rfl) (by kernel_rfl) (cx.ou 107) (cx.ou 108) (by omega) (by omega) (eStA_o (CtxV.holdF cx (cx.init 0 _ rfl) rfl)).recs (flatPos (sz:=8) rcC_len (by decide) (by omega))) ?_
    refine sql (.agg #[vi rt.r.kind,vi rt.r.xid,vi rt.r.tbl, .slice none 0 0, .slice none 0 0, .slice rt.A rt.r.eds.length rt.c, .slice none 0 0, .string rt.r.note]) hb90_ (fun cx=>run_loadElt (f:=rcC) (m:=j) (sz:=8) (off:=0) (n:=8) rfl (by kernel_rfl) (by kernel_rfl) (cx.ou 109) rfl rcC_len (eStA_o (CtxV.holdF cx (cx.init 0 _ rfl) rfl)).recs hrt2 (fun k hk=>match k,hk with | 0, _=>rfl | 1, _=>rfl | 2, _=>rfl | 3, _=>rfl | 4, _=>rfl | 5, _=>rfl | 6, _=>rfl | 7, _=>rfl | k+8,hk=>absurd hk (by omega))) ?_
    refine sqc1s (fun x_=>tZ x_) (fun X_=>X_.fp) (fun er111_109=>vi er111_109) (fun er111_109 r1_109=>eSx B28_22 db (fun S2=>RdR Sj ((j:Int)+1) rt.r S2 er111_109) r1_109) 0 hb90_ (by
      refine svA fun ρ β W X cx=>?_
      refine DoesU.call (run_callF (args:=#[vp B28_22,vi ((j:Int)+1), .agg #[vi rt.r.kind,vi rt.r.xid,vi rt.r.tbl, .slice none 0 0, .slice none 0 0, .slice rt.A rt.r.eds.length rt.c, .slice none 0 0, .string rt.r.note]]) rfl cx.sees rfl (by kernel_rfl) (map3 (cx.ou 101) (cx.ou 103) (cx.ou 110))) ?_
      refine (sredo_any B28_22 db Sj ((j:Int)+1) rt (c+200*j) _ _ (eStA_st (CtxV.holdF cx (cx.init 0 _ rfl) rfl)) (CtxV.ltF cx (cx.init 0 _ rfl) rfl) hokj (by omega) (hL _ hlm) hrm (h8 _ hlm)).mono ?_
      rintro e W1 ⟨er4,rfl,fp4,hs4⟩
      refine ⟨_,rfl,post_obj (E:=eStA B28_22 db Sj mb90_ RA90_ rc90_ EA90_ ec90_ ib90_ tb90_ fpd90_ fpj) [eSx B28_22 db (fun S2=>RdR Sj ((j:Int)+1) rt.r S2 er4) fp4] (cx.init 0 _ rfl) rfl rfl hs4 (fun σ β' X' hs hb hv hN=>?_)⟩
      have hv1:=(hv 111 rfl).1; have hv2:=(hv 111 rfl).2
      exact ⟨hv1.trans (by rw [hv2]; exact rfl),(by rw [hv2]; exact eSx_self ((List.cons.inj hN).1))⟩) fun er111_109 r1_109 W109 hst109=>?_
    refine sqp [.m 12 111] ?_
    refine then_normal (wp_seq ?_)
    obtain ⟨S1,hR,hy111_⟩:=hst109.unx
    have hrd_:=hR.ok hokj (hL _ hlm)
    refine sqr (sqp [.m 112 12, .k 113 (.bool (er111_109 != 0))] ?_)
    refine then_normal (wbs (fun hs114=>?_) fun hs114=>?_)
    ·have hs114p:=bne_iff_ne.1 hs114
     refine wp_seq (sqr (sqp [.m 114 12, .k 4 (.pointer none), .m 5 114] ?_))
     refine then_normal (wp_ret (blk_ret (then_ret (then_ret (blk_ret (then_ret ?_))))))
     refine bpr (.tuple #[.pointer none,vi er111_109]) (results_2 Tryz.results18 rpt rpt) ?_
     obtain ⟨fpz,hz118_⟩:=St.dkOf (L:=[]) (hy111_.pick [0] (by decide) rfl)
     exact OpnPost.dk (.bad hbb (by have h_:=hon.trans hs15; simpa using h_) hf0 hc0 rs hrs (by rw [hD1]; exact hcont _ _ (by rw [List.drop_eq_getElem_cons hjl,show L[j]'hjl=rt.r from (List.getElem?_eq_some_iff.1 hlj).2]; exact RdL.bad hR (by simpa using hs114))) (by simpa using hs114)) hz118_
    have hs114p:=bne_eq_false_iff_eq.1 hs114
    refine wp_skip (blk_normal (then_normal (sqr (sqp [.m 99 11,sI 100 ((j:Int)+1) (by omega), .m 11 100] ?_))))
    refine then_normal ?_
    refine ⟨L.length - ((j+1)),by omega,?_⟩
    exact ⟨(j+1),S1,r1_109,by omega,(fun S2 er h=>hcont S2 er (by rw [List.drop_eq_getElem_cons (by omega:j < L.length),show L[j]'(by omega)=rt.r from (List.getElem?_eq_some_iff.1 hlj).2]; exact RdL.cons (red_zero hR (by simpa using hs114)) h)),(hrd_.1.mono (by omega)),hrd_.2.2.1.trans hrj,hrd_.2.1.trans hrrj,rfl,(by kernel_rfl),hy111_.pk [0]⟩
   refine wp_exit (then_exit (then_exit (blk_eq (then_normal (wp_seq (sqr (sqp [.m 115 6, .m 4 115, .k 5 (vi 0)] ?_)))))))
   refine then_normal (wp_ret ?_)
   refine bpr (.tuple #[vp B28_22,vi 0]) (results_2 Tryz.results18 rpt rpt) ?_
   exact OpnPost.st (.ok hbb (by have h_:=hon.trans hs15; simpa using h_) hf0 hc0 rs hrs (by rw [hD1]; exact hcont _ _ (by rw [List.drop_of_length_le (by omega)]; exact RdL.nil _ _))) (St.ofA (L:=[]) (hb90_.pick [0] (by decide) rfl))
  refine wp_skip (then_normal (wp_seq (wp_seq ?_)))
  have hop:opnD D L=(D,0):=if_neg (by have h_:=of_decide_eq_false hs71; omega)
  have hc0:(opnD D L).2=0:=by rw [hop]
  obtain ⟨D1,hD1⟩:∃ z,(opnD D L).1=z:=⟨_,rfl⟩
  have hD2:D=D1:=by rw [← hD1,hop]
  rw [show eDk db D=eDk db D1 by rw [hD2]] at hst68
  have hdk:=opnD_ok hlog hfz hc0
  rw [hD1] at hdk
  have hok0:SOk (opnS D1 bufs rs (fromF L)) c:=SOk.opn hbb (by rw [hdk.2.1]; exact hpg) (by rw [hdk.2.1]; exact hws) (by rw [hrs]; exact hL) (by rw [hrs]; exact hdk.1) (by rw [hdk.1,logF_size]; have h_:=congrArg ByteArray.size hlog; rw [ByteArray.size_append,logF_size] at h_; omega) (by rw [hdk.2.2.1,hdk.1,logF_size]; omega)
  have hn125_:=(hst68.nM entP).nA entB
  refine sqr (sqp [.m 88 6, .k 89 (vp B28_22), .k 90 (.pointer (some ⟨B28_22,8,none⟩))] ?_)
  refine sqld 9 hn125_ ?_
  refine sqp [.m 11 91] ?_
  refine then_normal (wp_block ?_)
  obtain ⟨fp131_,hk131_⟩:=St.stf (S:=opnS D1 bufs rs (fromF L)) (by have h_:=hn125_.u8.u8.u6.u6.u6.u6.u6.u8.u9; rw [stL,stC,StM.L,show (opnS D1 bufs rs (fromF L)).recs.map RcT.r=L from hrs,show (opnS D1 bufs rs (fromF L)).recs.length=L.length from hrl]; exact h_) (fun t ht=>by cases ht) (fun t ht=>ht)
  refine wp_loopT (fun t_ mz az W=>∃ j:Nat,∃ Sj:StM,∃ fpj:List Nat,j≤L.length∧(∀ S2 er,RdL j Sj (L.drop j) S2 er→RdL (fromF L) (opnS D1 bufs rs (fromF L)) (L.drop (fromF L)) S2 er)∧SOk Sj (c+200*j)∧Sj.recs=rs∧Sj.rr=rs∧mz=L.length - j∧az=⟨(ovr (jv az) [(4,4,2,[]),(5,11,0,[vi ((j:Int))]),(0,12,1,[]),(79,92,23,[])] t_).toArray,[]⟩∧St w fp [eSt B28_22 db Sj fpj] W) (L.length - ((fromF L))) ?_ ?_
  · -- the loop begins
    exact ⟨(fromF L),(opnS D1 bufs rs (fromF L)),fp131_,hfl,fun S2 er h=>h,hok0.mono (by omega),rfl,rfl,rfl,(by kernel_rfl),hk131_.pk [0]⟩
  rintro n132 a132 W132 ⟨j,Sj,fpj,hj,hcont,hokj,hrj,hrrj,rfl,hj_,hst132⟩
  refine ovz hj_ fun u132_=>?_
  refine wp_seq (wp_seq ?_)
  obtain ⟨mb133_,RA133_,rc133_,EA133_,ec133_,ib133_,tb133_,fpd133_,ha133_⟩:=St.toA (L:=[]) (hst132.pick [0] (by decide) rfl)
  have hb133_:St w fp [eStA B28_22 db Sj mb133_ RA133_ rc133_ EA133_ ec133_ ib133_ tb133_ fpd133_ fpj] W132:=ha133_
  have hrjl:Sj.recs.length=L.length:=by rw [hrj,hrl]
  have hcj:200*j≤200*L.length:=by omega
  refine sqr (sqp [.m 92 11, .m 93 6, .k 94 (vp B28_22), .k 95 (.pointer (some ⟨B28_22,4,none⟩))] ?_)
  refine sql (.slice RA133_ Sj.recs.length rc133_) hb133_ (fun cx=>run_load1 rfl (by kernel_rfl) (cx.ou 95) ((eStA_o (CtxV.holdF cx (cx.init 0 _ rfl) rfl)).blkL.cell 4)) ?_
  refine sqp [.k 97 (vi ((Sj.recs.length:Int))), .k 98 (.bool (decide ((j:Int) < (Sj.recs.length:Int))))] ?_
  refine then_normal (wds (fun hs141 hs141p=>?_) fun hs141 hs141p=>?_)
  ·refine wp_skip (then_normal (wp_seq (wp_block (wp_seq ?_))))
   have hjl:j < L.length:=by omega
   obtain ⟨rt,hrt⟩:∃ rt,rs[j]? =some rt:=⟨_,List.getElem?_eq_getElem (by omega)⟩
   have hrt2:Sj.recs[j]? =some rt:=by rw [hrj]; exact hrt
   have hlj:L[j]? =some rt.r:=by rw [← hrs,List.getElem?_map,hrt]; rfl
   have hrm:rt∈Sj.rr:=by rw [hrrj]; exact List.mem_of_getElem? hrt
   have hlm:=List.mem_of_getElem? hlj
   refine sqr (sqp [.m 101 6, .m 102 11,sI 103 ((j:Int)+1) (by omega), .m 104 6, .k 105 (vp B28_22), .k 106 (.pointer (some ⟨B28_22,4,none⟩))] ?_)
   refine sql (.slice RA133_ Sj.recs.length rc133_) hb133_ (fun cx=>run_load1 rfl (by kernel_rfl) (cx.ou 106) ((eStA_o (CtxV.holdF cx (cx.init 0 _ rfl) rfl)).blkL.cell 4)) ?_
   refine sqp [.m 108 11] ?_
   refine sql (.pointer (some ((ad RA133_).add (j*8)))) hb133_ (fun cx=>run_indexSlM (e:=27) (m:=j) (sz:=8) rfl (by kernel_rfl) (by kernel_rfl) (cx.ou 107) (cx.ou 108) (by omega) (by omega) (eStA_o (CtxV.holdF cx (cx.init 0 _ rfl) rfl)).recs (flatPos (sz:=8) rcC_len (by decide) (by omega))) ?_
   refine sql (.agg #[vi rt.r.kind,vi rt.r.xid,vi rt.r.tbl, .slice none 0 0, .slice none 0 0, .slice rt.A rt.r.eds.length rt.c, .slice none 0 0, .string rt.r.note]) hb133_ (fun cx=>run_loadElt (f:=rcC) (m:=j) (sz:=8) (off:=0) (n:=8) rfl (by kernel_rfl) (by kernel_rfl) (cx.ou 109) rfl rcC_len (eStA_o (CtxV.holdF cx (cx.init 0 _ rfl) rfl)).recs hrt2 (fun k hk=>match k,hk with | 0, _=>rfl | 1, _=>rfl | 2, _=>rfl | 3, _=>rfl | 4, _=>rfl | 5, _=>rfl | 6, _=>rfl | 7, _=>rfl | k+8,hk=>absurd hk (by omega))) ?_
   refine sqc1s (fun x_=>tZ x_) (fun X_=>X_.fp) (fun er111_152=>vi er111_152) (fun er111_152 r1_152=>eSx B28_22 db (fun S2=>RdR Sj ((j:Int)+1) rt.r S2 er111_152) r1_152) 0 hb133_ (by
     refine svA fun ρ β W X cx=>?_
     refine DoesU.call (run_callF (args:=#[vp B28_22,vi ((j:Int)+1), .agg #[vi rt.r.kind,vi rt.r.xid,vi rt.r.tbl, .slice none 0 0, .slice none 0 0, .slice rt.A rt.r.eds.length rt.c, .slice none 0 0, .string rt.r.note]]) rfl cx.sees rfl (by kernel_rfl) (map3 (cx.ou 101) (cx.ou 103) (cx.ou 110))) ?_
     refine (sredo_any B28_22 db Sj ((j:Int)+1) rt (c+200*j) _ _ (eStA_st (CtxV.holdF cx (cx.init 0 _ rfl) rfl)) (CtxV.ltF cx (cx.init 0 _ rfl) rfl) hokj (by omega) (hL _ hlm) hrm (h8 _ hlm)).mono ?_
     rintro e W1 ⟨er4,rfl,fp4,hs4⟩
     refine ⟨_,rfl,post_obj (E:=eStA B28_22 db Sj mb133_ RA133_ rc133_ EA133_ ec133_ ib133_ tb133_ fpd133_ fpj) [eSx B28_22 db (fun S2=>RdR Sj ((j:Int)+1) rt.r S2 er4) fp4] (cx.init 0 _ rfl) rfl rfl hs4 (fun σ β' X' hs hb hv hN=>?_)⟩
     have hv1:=(hv 111 rfl).1; have hv2:=(hv 111 rfl).2
     exact ⟨hv1.trans (by rw [hv2]; exact rfl),(by rw [hv2]; exact eSx_self ((List.cons.inj hN).1))⟩) fun er111_152 r1_152 W152 hst152=>?_
   refine sqp [.m 12 111] ?_
   refine then_normal (wp_seq ?_)
   obtain ⟨S1,hR,hy154_⟩:=hst152.unx
   have hrd_:=hR.ok hokj (hL _ hlm)
   refine sqr (sqp [.m 112 12, .k 113 (.bool (er111_152 != 0))] ?_)
   refine then_normal (wbs (fun hs157=>?_) fun hs157=>?_)
   ·have hs157p:=bne_iff_ne.1 hs157
    refine wp_seq (sqr (sqp [.m 114 12, .k 4 (.pointer none), .m 5 114] ?_))
    refine then_normal (wp_ret (blk_ret (then_ret (then_ret (blk_ret (then_ret ?_))))))
    refine bpr (.tuple #[.pointer none,vi er111_152]) (results_2 Tryz.results18 rpt rpt) ?_
    obtain ⟨fpz,hz161_⟩:=St.dkOf (L:=[]) (hy154_.pick [0] (by decide) rfl)
    exact OpnPost.dk (.bad hbb (by have h_:=hon.trans hs15; simpa using h_) hf0 hc0 rs hrs (by rw [hD1]; exact hcont _ _ (by rw [List.drop_eq_getElem_cons hjl,show L[j]'hjl=rt.r from (List.getElem?_eq_some_iff.1 hlj).2]; exact RdL.bad hR (by simpa using hs157))) (by simpa using hs157)) hz161_
   have hs157p:=bne_eq_false_iff_eq.1 hs157
   refine wp_skip (blk_normal (then_normal (sqr (sqp [.m 99 11,sI 100 ((j:Int)+1) (by omega), .m 11 100] ?_))))
   refine then_normal ?_
   refine ⟨L.length - ((j+1)),by omega,?_⟩
   exact ⟨(j+1),S1,r1_152,by omega,(fun S2 er h=>hcont S2 er (by rw [List.drop_eq_getElem_cons (by omega:j < L.length),show L[j]'(by omega)=rt.r from (List.getElem?_eq_some_iff.1 hlj).2]; exact RdL.cons (red_zero hR (by simpa using hs157)) h)),(hrd_.1.mono (by omega)),hrd_.2.2.1.trans hrj,hrd_.2.1.trans hrrj,rfl,(by kernel_rfl),hy154_.pk [0]⟩
  refine wp_exit (then_exit (then_exit (blk_eq (then_normal (wp_seq (sqr (sqp [.m 115 6, .m 4 115, .k 5 (vi 0)] ?_)))))))
  refine then_normal (wp_ret ?_)
  refine bpr (.tuple #[vp B28_22,vi 0]) (results_2 Tryz.results18 rpt rpt) ?_
  exact OpnPost.st (.ok hbb (by have h_:=hon.trans hs15; simpa using h_) hf0 hc0 rs hrs (by rw [hD1]; exact hcont _ _ (by rw [List.drop_of_length_le (by omega)]; exact RdL.nil _ _))) (St.ofA (L:=[]) (hb133_.pick [0] (by decide) rfl))
 refine wp_cond_true (show Act.eval _ _= .bool true from (congrArg Value.bool (by rw [hs15]; rfl))) (wp_seq (sqr (sqp [.k 4 (.pointer none), .k 5 (vi 24)] ?_)))
 refine then_normal (wp_ret (then_ret ?_))
 refine bpr (.tuple #[.pointer none,vi 24]) (results_2 Tryz.results18 rpt rpt) ?_
 exact OpnPost.dk (.off hbb (by have h_:=hon.trans hs15; simpa using h_)) (hst13.pick [0] (by decide) rfl)
end
section
open Go.RowKit
def chkR (note:ByteArray):RecM:=⟨9,0,0,[],note⟩
theorem chk_right {note:ByteArray} (h:note.size≤60000):recR (chkR note)=true:=by
 have:decide ((note.size:Int)≤60000)=true:=decide_eq_true (by omega)
 show (inB 9 1 10&&(inB 0 0 127&&(inB 0 0 65535&&(decide ((([]:List EdT).length:Int)≤64)&&((([]:List EdT).all edR)&&decide ((note.size:Int)≤60000))))))=true
 rw [this]; decide
def fmR (D:DkM) (note:ByteArray):DkM×Int:=opD D (apE D (frameR (chkR note))) (apD (frameR (chkR note)))
def fmtF (D:DkM) (note:ByteArray):DkM×Int:=if 0 < D.log.size∨60000 < note.size then (D,1) else if (fmR D note).2≠0 then fmR D note else opD (fmR D note).1 0 flD
theorem PaQ.ok {S S2:StM} {n:Int} {ok:Bool} {c:Nat} (h:PaQ S n S2 ok) (hc:SOk S c):SOk S2 (c+3):=by
 obtain ⟨er,h1, _⟩:=h
 exact hc.load h1
theorem PaQ.ev {S S2:StM} {n:Int} {ok:Bool} {c:Nat} (h:PaQ S n S2 ok) (hc:SOk S c):Ev S S2∧(ok=false→S2.D.off=true∨¬ (0≤n∧n < (S.D.pgs.length:Int)))∧(ok=true→0≤n∧n < (S.D.pgs.length:Int)):=by
 obtain ⟨er,h1,h2⟩:=h
 obtain ⟨a,b,d⟩:=Ev.load hc h1
 refine ⟨a,fun h=>b ?_,fun h=>(d ?_).1⟩
 ·rw [h] at h2; simpa using h2.symm
 ·rw [h] at h2; simpa using h2.symm
def toldS (S:StM) (n:Int) (b:Bool):StM:={S with nt:=mzP S.told n S.nt,told:=putX S.told n (some b)}
theorem SOk.told {S:StM} {c:Nat} (h:SOk S c) (n:Int) (b:Bool):SOk (toldS S n b) (c+1):=⟨h.bufs,h.pgs,fun x hx=>Nat.le_succ_of_le (h.ws x hx),⟨h.time.1,by have:=h.time.2; show S.time≤ _; omega⟩,Nat.le_succ_of_le h.ni,by have h1:=mzP_le S.told n S.nt; have:=h.nt; show mzP S.told n S.nt≤c+1; omega,h.right,h.nodup,h.len,h.keys,h.recs,h.log,h.lsz,h.fl,h.cl⟩
/-- what Fresh does from page n on -/
inductive FrR:StM→Nat→StM→Int→Prop where
 | stop {S:StM} {n:Nat} (h:S.D.pgs.length≤n):FrR S n S (-1)
 | told {S S2:StM} {n:Nat} {r:Int} (h:n < S.D.pgs.length) (ht:(S.told (n:Int)).getD false=true) (hr:FrR S (n+1) S2 r):FrR S n S2 r
 | no {S S1 S2:StM} {n:Nat} {r:Int} {ok:Bool} (h:n < S.D.pgs.length) (ht:(S.told (n:Int)).getD false=false) (hp:PaQ S (n:Int) S1 ok) (hk:¬ (ok=true∧(curF S (n:Int)).1=0)) (hr:FrR S1 (n+1) S2 r):FrR S n S2 r
 | yes {S S1:StM} {n:Nat} (h:n < S.D.pgs.length) (ht:(S.told (n:Int)).getD false=false) (hp:PaQ S (n:Int) S1 true) (hk:(curF S (n:Int)).1=0):FrR S n (toldS S1 (n:Int) true) (n:Int)
def FrPost (sb db:Nat) (S:StM) (fp:List Nat) (w:World) (e:Ending) (w':World):Prop:=∃ r,e= .returned (.int .i64 r)∧∃ fp',St w fp [eSx sb db (fun S2=>FrR S 0 S2 r) fp'] w'
theorem FrPost.of {sb db:Nat} {S S2:StM} {r:Int} {fp fp':List Nat} {w w':World} (h:FrR S 0 S2 r) (hs:St w fp ([]++[eSt sb db S2 fp']) w'):FrPost sb db S fp w (.returned (.int .i64 r)) w':=⟨r,rfl,fp',St.sx (L:=[]) hs h⟩
theorem sformat_any (db:Nat) (D:DkM) (note:ByteArray) (fp:List Nat) (w:World) (hB:(eDk db D fp).holds w) (hlt:∀ k∈fp,k < w.heap.size) (hlz:D.log.size≤9000000) (hns:note.size≤9000000):
  Calls Tryz.prog 20 #[.pointer (some ⟨db,0,none⟩), .string note] w (OpPost db (fmtF D note) fp w):=by
 have st1:St w fp [eDk db D fp] w:=St.lend hB (eDk_loc _ _ _) hlt
 go_enter Tryz.func20,Tryz.ntmps20
 have hst0:=st1
 refine wp_seq (sqr (sqp [.k 4 (vi 0)] ?_))
 refine then_normal (wp_seq (wp_seq (sqr (sqp [.m 6 0] ?_))))
 refine sqk (.string D.log) hst0 (fun cx=>⟨_,klog_any db D _ (eDk_at (CtxV.holdF cx (cx.init 0 _ rfl) rfl)),(map1 (cx.ou 6))⟩) fun W3 hst3=>?_
 refine sqp [.k 8 (vi ((D.log.size:Int))), .k 9 (.bool (decide (0 < (D.log.size:Int)))), .m 10 9] ?_
 refine sqw 10 [11,12,13] rfl (fun _=>sqp [.m 11 1, .k 12 (vi ((note.size:Int))), .k 13 (.bool (decide (60000 < (note.size:Int))))] sqe) ?_
 refine sqp [sPo 14 (decide (0 < (D.log.size:Int))) (decide (60000 < (note.size:Int)))] ?_
 refine then_normal (wbs (fun hs11=>?_) fun hs11=>?_)
 ·have hs11p:=hs11
  simp only [zB] at hs11p
  refine wp_seq (sqr (sqp [.k 4 (vi 1)] ?_))
  refine then_normal (wp_ret (then_ret ?_))
  refine bpr (vi 1) (results_1 Tryz.results20 rpt) ?_
  exact OpPost.of (R':=(D,1)) (by rw [fmtF,if_pos (by have h_:=hs11; simp at h_; omega)]) (hst3.pick [0] (by decide) rfl)
 have hs11p:=hs11
 simp only [zB] at hs11p
 obtain ⟨hs11p1,hs11p2⟩:=hs11p
 refine wp_skip (then_normal (wp_seq (wp_seq ?_)))
 have hn6:note.size≤60000:=by have h_:=hs11; simp at h_; omega
 have hfs:=fr_size (chk_right hn6)
 refine sqr (sqp [.m 15 0, .m 16 1, .k 17 (.agg #[vi 9,vi 0,vi 0, .slice none 0 0, .slice none 0 0, .slice none 0 0, .slice none 0 0, .string note])] ?_)
 refine sqk (.string (frameR (chkR note))) hst3 (fun cx=>⟨_,jframe_any 9 0 0 none 0 [] note _ (fun j u h=>by cases j<;>cases h) (by decide) (fun e he=>by cases he) (by omega),(map1 (cx.ou 17))⟩) fun W16 hst16=>?_
 refine sqc0s (fun X_=>X_.fp) (vi ((fmR D note).2)) (fun r1_17=>eDk db ((fmR D note).1) r1_17) 0 hst16 (by
   refine svA fun ρ β W X cx=>?_
   refine DoesU.call (run_callF (args:=#[vp db, .string (frameR (chkR note))]) rfl cx.sees rfl (by kernel_rfl) (map2 (cx.ou 15) (cx.ou 18))) ?_
   refine (kappend_any db D (frameR (chkR note)) _ _ (CtxV.holdF cx (cx.init 0 _ rfl) rfl) (CtxV.ltF cx (cx.init 0 _ rfl) rfl) (by omega) (by omega)).mono ?_
   rintro e W1 ⟨rfl,fp4,hs4⟩
   refine ⟨_,rfl,post_obj (E:=eDk db D fp) [eDk db (fmR D note).1 fp4] (cx.init 0 _ rfl) rfl rfl hs4 (fun σ β' X' hs hb hv hN=>?_)⟩
   have hv1:=(hv 19 rfl).1; have hv2:=(hv 19 rfl).2
   exact ⟨hv1.trans rfl,eDk_self ((List.cons.inj hN).1)⟩) fun r1_17 W17 hst17=>?_
 refine sqp [.m 5 19] ?_
 refine then_normal (wp_seq (sqr (sqp [.m 20 5, .k 21 (.bool (((fmR D note).2) != 0))] ?_)))
 refine then_normal (wbs (fun hs21=>?_) fun hs21=>?_)
 ·have hs21p:=bne_iff_ne.1 hs21
  refine wp_seq (sqr (sqp [.m 22 5, .m 4 22] ?_))
  refine then_normal (wp_ret (then_ret ?_))
  refine bpr (vi ((fmR D note).2)) (results_1 Tryz.results20 rpt) ?_
  exact OpPost.of (R':=fmR D note) (by rw [fmtF,if_neg (by have h_:=hs11; simp at h_; omega),if_pos (by simpa using hs21)]) (hst17.pick [0] (by decide) rfl)
 have hs21p:=bne_eq_false_iff_eq.1 hs21
 refine wp_skip (then_normal (wp_seq ?_))
 have hlz2:(fmR D note).1.log.size≤10000000:=by
  unfold fmR; refine opD_ind (P:=fun D'=>D'.log.size≤10000000) (Nat.le_trans hlz (by decide)) (Nat.le_trans hlz (by decide)) fun _=>?_
  show (D.log++ _).size≤ _
  rw [ByteArray.size_append]; omega
 refine sqr (sqp [.m 23 0] ?_)
 refine sqc0s (fun X_=>X_.fp) (vi ((opD (fmR D note).1 0 flD).2)) (fun r1_25=>eDk db ((opD (fmR D note).1 0 flD).1) r1_25) 0 hst17 (by
   refine svA fun ρ β W X cx=>?_
   refine DoesU.call (run_callF (args:=#[vp db]) rfl cx.sees rfl (by kernel_rfl) (map1 (cx.ou 23))) ?_
   refine (kflush_any db (fmR D note).1 _ _ (CtxV.holdF cx (cx.init 0 _ rfl) rfl) (CtxV.ltF cx (cx.init 0 _ rfl) rfl) hlz2).mono ?_
   rintro e W1 ⟨rfl,fp4,hs4⟩
   refine ⟨_,rfl,post_obj (E:=eDk db ((fmR D note).1) r1_17) [eDk db (opD (fmR D note).1 0 flD).1 fp4] (cx.init 0 _ rfl) rfl rfl hs4 (fun σ β' X' hs hb hv hN=>?_)⟩
   have hv1:=(hv 24 rfl).1; have hv2:=(hv 24 rfl).2
   exact ⟨hv1.trans rfl,eDk_self ((List.cons.inj hN).1)⟩) fun r1_25 W25 hst25=>?_
 refine sqp [.m 4 24] ?_
 refine then_normal (wp_ret ?_)
 refine bpr (vi ((opD (fmR D note).1 0 flD).2)) (results_1 Tryz.results20 rpt) ?_
 exact OpPost.of (by rw [fmtF,if_neg (by have h_:=hs11; simp at h_; omega),if_neg (by simpa using hs21)]) (hst25.pick [0] (by decide) rfl)
theorem fr_yes {S S1:StM} {n:Nat} {ok:Bool} (h:n < S.D.pgs.length) (ht:(S.told (n:Int)).getD false=false) (hp:PaQ S (n:Int) S1 ok) (hk:ok=true∧(pgF S (n:Int) ok).1=0):FrR S n (toldS S1 (n:Int) true) (n:Int):=by
 obtain ⟨rfl,h2⟩:=hk
 exact .yes h ht hp (by rw [pgF,if_pos rfl] at h2; exact h2)
theorem sfresh_any (sb db:Nat) (S:StM) (c:Nat) (fp:List Nat) (w:World) (hB:(eSt sb db S fp).holds w) (hlt:∀ k∈fp,k < w.heap.size) (hok:SOk S c) (hc:c≤900000):
  Calls Tryz.prog 22 #[.pointer (some ⟨sb,0,none⟩)] w (FrPost sb db S fp w):=by
 have st1:St w fp [eSt sb db S fp] w:=St.lend hB (eSt_loc _ _ _ _) hlt
 have hpg:=hok.pgs
 go_enter Tryz.func22,Tryz.ntmps22
 have hst0:=st1
 refine wp_seq (sqr (sqp [.k 2 (vi 0)] ?_))
 refine then_normal (wp_seq (wp_seq (sqr (sqp [.m 6 0] ?_))))
 refine sqk (vi ((S.D.pgs.length:Int))) hst0 (fun cx=>⟨_,spages_any sb db S _ (eSt_at (CtxV.holdF cx (cx.init 0 _ rfl) rfl)),(map1 (cx.ou 6))⟩) fun W3 hst3=>?_
 refine sqp [.k 8 (vi 0)] ?_
 refine then_normal (wp_block ?_)
 refine wp_loopT (fun t_ mz az W=>∃ n:Nat,∃ Sj:StM,∃ fpj:List Nat,n≤S.D.pgs.length∧(∀ S2 r,FrR Sj n S2 r→FrR S 0 S2 r)∧SOk Sj (c+3*n)∧Sj.D.pgs.length=S.D.pgs.length∧mz=S.D.pgs.length - n∧az=⟨(ovr (jv az) [(2,2,4,[]),(2,8,0,[vi ((n:Int))]),(0,9,27,[])] t_).toArray,[]⟩∧St w fp [eSt sb db Sj fpj] W) (S.D.pgs.length - 0) ?_ ?_
 · -- the loop begins
   exact ⟨0,S,fp,Nat.zero_le _,fun S2 r h=>h,hok,rfl,rfl,(by kernel_rfl),hst3.pk [0]⟩
 rintro n5 a5 W5 ⟨n,Sj,fpj,hn,hcont,hokj,hpj,rfl,hj_,hst5⟩
 refine ovz hj_ fun u5_=>?_
 refine wp_seq (sqr (sqp [.k 9 (.bool (decide ((n:Int) < (S.D.pgs.length:Int))))] ?_))
 refine then_normal (wp_seq (wds (fun hs7 hs7p=>?_) fun hs7 hs7p=>?_))
 ·refine wp_skip (then_normal (wp_seq (wp_block (wp_seq (sqr (sqp [.m 10 8, .m 3 10] ?_))))))
  refine then_normal (wp_seq (wp_seq ?_))
  have hnp:n < Sj.D.pgs.length:=by omega
  have hpg:=hok.pgs
  have hkn:kcI.ok (n:Int):=by constructor<;>omega
  obtain ⟨⟨hrw1,hrr1⟩,mb1,RA1,rc1,EA1,ec1,ib1,tb1,fpd1,hv10_⟩:=hst5.unf
  refine sqr (sqp [.m 11 0, .k 12 (vp sb), .k 13 (.pointer (some ⟨sb,7,none⟩))] ?_)
  refine sqld 0 hv10_ ?_
  refine sqp [.m 15 3] ?_
  refine sql (.bool (((Sj.told (n:Int)).getD false))) hv10_ (fun cx=>run_lookMx (e:=4) (C:=ecB) (K:=kcI) (x:=(n:Int)) rfl (cx.ou 14) (cx.ou 15) (CtxV.mx cx (cx.init 8 _ rfl) rfl) (h0:=(by rfl)) (hx:=hkn) (hk:=show Program.underlying _ _= _ from by kernel_rfl)) ?_
  refine then_normal (wbs (fun hs17=>?_) fun hs17=>?_)
  ·refine wp_exit (then_exit (blk_eq (then_normal (sqr (sqp [sI 35 ((n:Int)+1) (by omega), .m 8 35] ?_)))))
   refine then_normal ?_
   obtain ⟨fp20_,hk20_⟩:=St.stf (S:=Sj) (hv10_) (hrw1) (hrr1)
   refine ⟨S.D.pgs.length - ((n+1)),by omega,?_⟩
   exact ⟨(n+1),Sj,fp20_,by omega,(fun S2 r h=>hcont S2 r (FrR.told hnp hs17 h)),(hokj.mono (by omega)),hpj,rfl,(by kernel_rfl),hk20_.pk [0]⟩
  refine wp_skip (then_normal (wp_seq ?_))
  obtain ⟨fp21_,hk21_⟩:=St.stf (S:=Sj) (hv10_) (hrw1) (hrr1)
  refine wp_region_Y [0,0,3,7,15,15,0,95,255] [[],[],[0],[],[],[],[],[3]] [[],[],[1,2],[],[],[],[3],[4]] [[],[],[0],[],[],[],[],[3]] [.k 18 (vp sb), .k 19 (vi ((n:Int))), .a 20, .a 17, .a 21, .a 22, .a 4, .n, .a 5] (fun ix σ β X=>match ix with | 0=>True | 1=>True | 2=>σ 20= .tuple #[.agg #[vi ((pgF Sj (n:Int) (tB1 (β 20))).1),vi ((pgF Sj (n:Int) (tB1 (β 20))).2.1), .slice (sA (tg (tg (β 20) 0) 2)) ((pgF Sj (n:Int) (tB1 (β 20))).2.2.length) (sC (tg (tg (β 20) 0) 2))], .bool (tB1 (β 20))]∧X 1=eSx sb db (fun S2=>PaQ Sj (n:Int) S2 (tB1 (β 20))) ((X 1).fp)∧X 2=eO 9 1 (.slice (sA (tg (tg (β 20) 0) 2)) ((pgF Sj (n:Int) (tB1 (β 20))).2.2.length) (sC (tg (tg (β 20) 0) 2))) ((pgF Sj (n:Int) (tB1 (β 20))).2.2.length) ((pgF Sj (n:Int) (tB1 (β 20))).2.2.map Value.string) | 3=>σ 17= .tuple #[.agg #[vi ((pgF Sj (n:Int) (tB1 (β 20))).1),vi ((pgF Sj (n:Int) (tB1 (β 20))).2.1), .slice (sA (tg (tg (β 20) 0) 2)) ((pgF Sj (n:Int) (tB1 (β 20))).2.2.length) (sC (tg (tg (β 20) 0) 2))], .bool (tB1 (β 20))] | 4=>σ 21= .agg #[vi ((pgF Sj (n:Int) (tB1 (β 20))).1),vi ((pgF Sj (n:Int) (tB1 (β 20))).2.1), .slice (sA (tg (tg (β 20) 0) 2)) ((pgF Sj (n:Int) (tB1 (β 20))).2.2.length) (sC (tg (tg (β 20) 0) 2))] | 5=>σ 22= .bool (tB1 (β 20)) | 6=>σ 4=vp (pb (β 4))∧X 3=eB (pb (β 4)) 48 #[vi 0,vi 0, .slice none 0 0] | 7=>X 4=eB (pb (β 4)) 48 #[vi ((pgF Sj (n:Int) (tB1 (β 20))).1),vi ((pgF Sj (n:Int) (tB1 (β 20))).2.1), .slice (sA (tg (tg (β 20) 0) 2)) ((pgF Sj (n:Int) (tB1 (β 20))).2.2.length) (sC (tg (tg (β 20) 0) 2))] | 8=>σ 5= .bool (tB1 (β 20)) | _=>True) [1,2,4] [2,3,4,5,6,7,8] [(4,6,3,6),(11,3,1,12),(0,0,3,3),(0,4,2,2)] hk21_ ?_ ?_ ?_
  ·exact fun ix _ _ _ _ _ _ hs hb hx h=>match ix,h with
   | 2,h=>by dsimp only; rw [← hs 20 rfl,← hb 20 rfl,← hx 1 rfl,← hx 2 rfl]; exact h
   | 3,h=>by dsimp only; rw [← hs 17 rfl,← hb 20 rfl]; exact h
   | 4,h=>by dsimp only; rw [← hs 21 rfl,← hb 20 rfl]; exact h
   | 5,h=>by dsimp only; rw [← hs 22 rfl,← hb 20 rfl]; exact h
   | 6,h=>by dsimp only; rw [← hs 4 rfl,← hb 4 rfl,← hx 3 rfl]; exact h
   | 7,h=>by dsimp only; rw [← hb 4 rfl,← hb 20 rfl,← hx 4 rfl]; exact h
   | 8,h=>by dsimp only; rw [← hs 5 rfl,← hb 20 rfl]; exact h
   | 0, _ | 1, _ | _+9, _=>trivial
  ·refine ⟨?_,?_,?_,?_,?_,?_,?_,trivial⟩
   ·refine svA fun ρ β W X cx=>?_
    refine DoesU.call (run_callF (args:=#[vp sb,vi ((n:Int))]) rfl cx.sees rfl (by kernel_rfl) (map2 (cx.an 0) (cx.an 1))) ?_
    refine (spage_any sb db Sj (n:Int) (c+3*n) _ _ (CtxV.holdF cx (cx.init 0 _ rfl) rfl) (CtxV.ltF cx (cx.init 0 _ rfl) rfl) hokj (by omega) hkn).mono ?_
    rintro e W1 ⟨ok4,A4,c4,rfl,fp4,hs4⟩
    refine ⟨_,rfl,post_obj (E:=eSt sb db Sj fp21_) [eSx sb db (fun S2=>PaQ Sj (n:Int) S2 ok4) fp4,eO 9 1 (.slice A4 ((pgF Sj (n:Int) ok4).2.2.length) c4) ((pgF Sj (n:Int) ok4).2.2.length) ((pgF Sj (n:Int) ok4).2.2.map Value.string)] (cx.init 0 _ rfl) rfl rfl hs4 (fun σ β' X' hs hb hv hN=>?_)⟩
    have hv1:=(hv 20 rfl).1; have hv2:=(hv 20 rfl).2
    exact ⟨hv1.trans (by rw [hv2]; exact rfl),(by rw [hv2]; exact eSx_self ((List.cons.inj hN).1)),(by rw [hv2]; exact (List.cons.inj (List.cons.inj hN).2).1)⟩
   ·exact sv rfl rfl rfl rfl rfl _ (fun _ _ _ h=>h) (fun β β' h=>by rw [h 20 (by decide)]) fun ρ β W X cx=>run_move' rfl (dTn (cx.an 2)).1
   ·exact sv rfl rfl rfl rfl rfl _ (fun _ _ _ h=>h) (fun β β' h=>by rw [h 20 (by decide)]) fun ρ β W X cx=>run_extract' rfl (dTn (cx.an 3)) rfl
   ·exact sv rfl rfl rfl rfl rfl _ (fun _ _ _ h=>h) (fun β β' h=>by rw [h 20 (by decide)]) fun ρ β W X cx=>run_extract' rfl (dTn (cx.an 3)) rfl
   ·refine svA fun ρ β W X cx=>?_
    exact dv_alloc (cs:=#[vi 0,vi 0, .slice none 0 0]) rfl (by kernel_rfl) rfl rfl (fun σ β' X' hs hb hv hx=>⟨hv,hx⟩)
   ·refine svA fun ρ β W X cx=>?_
    exact dv_store (n:=3) rfl (dTn (cx.an 6)).1 (dTn (cx.an 4)) (by kernel_rfl) (by kernel_rfl) (by kernel_rfl) cx (dTn (cx.an 6)).2 rfl (nle rfl) (by kernel_rfl) rfl rfl rfl (fun σ β' X' hs hb hx=>by rw [hb 4,hb 20]; exact hx)
   ·exact sv rfl rfl rfl rfl rfl _ (fun _ _ _ h=>h) (fun β β' h=>by rw [h 20 (by decide)]) fun ρ β W X cx=>run_assign' rfl (dTn (cx.an 5))
  intro σ β X W22 hD hst22 fr hfr
  obtain ⟨ok20_22,hu_ok20_22⟩:∃ z,tB1 (β 20)=z:=⟨_,rfl⟩
  obtain ⟨A20_22,hu_A20_22⟩:∃ z,sA (tg (tg (β 20) 0) 2)=z:=⟨_,rfl⟩
  obtain ⟨c20_22,hu_c20_22⟩:∃ z,sC (tg (tg (β 20) 0) 2)=z:=⟨_,rfl⟩
  obtain ⟨B4_22,hu_B4_22⟩:∃ z,pb (β 4)=z:=⟨_,rfl⟩
  have xX1:X 1= _:=(dTn (hD 2 lq)).2.1
  obtain ⟨r1_22,hu_r1_22⟩:∃ z,(X 1).fp=z:=⟨_,rfl⟩
  rw [hu_r1_22] at xX1
  clear hu_r1_22
  simp only [xX1,exq 2 ((dTn (hD 2 lq)).2.2),exq 4 ((dTn (hD 7 lq))),hu_ok20_22,hu_A20_22,hu_c20_22,hu_B4_22] at hst22
  simp only [ed 20 ((dTn (hD 2 lq)).1),ed 17 ((dTn (hD 3 lq))),ed 21 ((dTn (hD 4 lq))),ed 22 ((dTn (hD 5 lq))),ed 4 ((dTn (hD 6 lq)).1),ed 5 ((dTn (hD 8 lq))),hu_ok20_22,hu_A20_22,hu_c20_22,hu_B4_22] at hfr
  clear hD xX1 hu_ok20_22 hu_A20_22 hu_c20_22 hu_B4_22; subst hfr; clear σ β X
  refine then_normal (wp_seq ?_)
  obtain ⟨S1,hP,hy23_⟩:=hst22.unx
  refine sqr (sqp [.m 23 5, .m 24 23] ?_)
  refine sqw' 24 [25,26,27] ?_ rfl (fun hq=>?_) ?_
  rotate_left
  ·refine sqp [.k 25 (vp B4_22)] ?_
   refine sqld 2 hy23_ ?_
   refine sqp [.k 27 (.bool (((pgF Sj (n:Int) ok20_22).1)==0))] ?_
   exact sqe
  refine sqwx ?_
  refine sqp [sPa 28 ok20_22 (((pgF Sj (n:Int) ok20_22).1)==0)] ?_
  refine then_normal (wbs (fun hs30=>?_) fun hs30=>?_)
  ·have hs30p:=hs30
   simp only [zB] at hs30p
   obtain ⟨hs30p1,hs30p2⟩:=hs30p
   refine wp_seq ?_
   obtain ⟨⟨hrw2,hrr2⟩,mb2,RA2,rc2,EA2,ec2,ib2,tb2,fpd2,hv31_⟩:=hy23_.unf
   have hnt:=(hP.ok hokj).nt
   refine sqr (sqp [.m 29 0, .k 30 (vp sb), .k 31 (.pointer (some ⟨sb,7,none⟩))] ?_)
   refine sqld 0 hv31_ ?_
   refine sqp [.m 33 3] ?_
   refine sqc (eMx kcI ecB Tryz.prog 3 tb2 ((mzP S1.told (n:Int) S1.nt)) (putX S1.told (n:Int) (some true))) 8 hv31_ (by
     refine svA fun ρ β W X cx=>?_
     exact dv_setMx (e:=4) (v:=true) (.inl rfl) (cx.ou 32) (show ρ _=Kc.enc kcI (n:Int) from (cx.ou 33)) (show ρ _=Ec.enc ecB true from (cx.co _)) cx (cx.init 8 _ rfl) rfl (trivial) (by omega) (hkn) rfl rfl rfl (fun σ β' X' hs hb hx=>hx) (hk:=show Program.underlying _ _= _ from by kernel_rfl)) fun W37 hst37=>?_
   refine then_normal (wp_seq (sqr (sqp [.m 34 3, .m 2 34] ?_)))
   refine then_normal (wp_ret (blk_ret (then_ret (then_ret (blk_ret (then_ret ?_))))))
   refine bpr (vi ((n:Int))) (results_1 Tryz.results22 rpt) ?_
   obtain ⟨fp40_,hk40_⟩:=St.stf (S:=(toldS S1 (n:Int) true)) (hst37.u10.c0.u10.c0) (hrw2) (hrr2)
   exact FrPost.of (hcont _ _ (fr_yes hnp hs17 hP (by have h_:=hs30; simpa using h_))) hk40_
  have hs30p:=hs30
  simp only [zB] at hs30p
  refine wp_skip (blk_normal (then_normal (sqr (sqp [sI 35 ((n:Int)+1) (by omega), .m 8 35] ?_))))
  refine then_normal ?_
  refine ⟨S.D.pgs.length - ((n+1)),by omega,?_⟩
  exact ⟨(n+1),S1,r1_22,by omega,(fun S2 r h=>hcont S2 r (FrR.no hnp hs17 hP (fun hh=>by have h_:=hs30; simp [hh.1,pgF,hh.2] at h_) h)),((hP.ok hokj).mono (by omega)),((hP.ev hokj).1.len.trans hpj),rfl,(by kernel_rfl),hy23_.pk [0]⟩
 refine wp_exit (then_exit (then_exit (blk_eq (then_normal (wp_seq (sqr (sqp [.k 2 (vi (-1))] ?_)))))))
 refine then_normal (wp_ret ?_)
 refine bpr (vi (-1)) (results_1 Tryz.results22 rpt) ?_
 exact FrPost.of (hcont _ _ (.stop (by omega))) (hst5.pick [0] (by decide) rfl)
end
section
open Go.RowKit Go.Maps Go.ChangeMaps
section
variable {κ ε:Type} {K:Kc κ} {C:Ec ε} {P:Program} {o:Oper} {ρ:Operand→Value} {W:World} {k e b n:Nat} {m:κ→Option ε}
theorem run_lookOkMx {t:TypeId} {y z:Operand} {x:κ} (h:o.op= .lookup t y z true) (hy:ρ y= .map (some b)) (hz:ρ z=K.enc x) (hb:MapX K C P k b n m W) (h0:(zeroValue e).run P W= .ok (C.enc C.e0) W) (hx:K.ok x)
  (hk:K.ty P k:=by kernel_rfl) (ht:P.underlying t=some (.map k e):=by kernel_rfl):(execOp ρ o).run P W= .ok (.value (.tuple #[C.enc ((m x).getD C.e0), .bool (m x).isSome])) W:=by
 obtain ⟨D,hD, _, _,hm⟩:=hb
 obtain ⟨v,ps,hrun,hv⟩:=hD.look_ok (K.keyed hk) ht h0 (C.read C.e0 C.ok0) (K.key hk hx)
 rw [C.back v _ ps _ hv (hm x hx).2,(hm x hx).1] at hrun
 unfold execOp
 rw [h]
 simp [hy,hz,hrun]
end
/-- a page in a map: kind, LSN, where its items lie -/
abbrev PgV:=Int×Int×Option Addr×Nat×Nat
def pgvE (v:PgV):Value:= .agg #[.int .i64 v.1, .int .i64 v.2.1, .slice v.2.2.1 v.2.2.2.1 v.2.2.2.2]
def spD:Option Nat→DataW Unit
 | none=> .lit (.int .i64 (-1))
 | some j=> .lit (.int .i64 (j:Int))
theorem spD_inj:∀ {a b:Option Nat},spD a=spD b→a=b
 | none,none, _=>rfl
 | none,some j,h=>by simp [spD] at h
 | some i,none,h=>by simp [spD] at h
 | some i,some j,h=>by simp [spD] at h; congr 1; omega
def adD:Option Addr→DataW Unit
 | none=> .nil
 | some a=> .agg [.lit (.int .i64 (a.block:Int)), .lit (.int .i64 (a.off:Int)),spD a.spot]
theorem adD_inj:∀ {a b:Option Addr},adD a=adD b→a=b
 | none,none, _=>rfl
 | none,some j,h=>by simp [adD] at h
 | some i,none,h=>by simp [adD] at h
 | some ⟨i1,i2,i3⟩,some ⟨j1,j2,j3⟩,h=>by
   simp only [adD,DataW.agg.injEq,List.cons.injEq,DataW.lit.injEq,Lit.int.injEq,and_true,true_and] at h
   obtain ⟨h1,h2,h3⟩:=h
   rw [Int.ofNat.inj h1,Int.ofNat.inj h2,spD_inj h3]
def pgvD (v:PgV):DataW Unit:= .agg [.lit (.int .i64 v.1), .lit (.int .i64 v.2.1),adD v.2.2.1, .lit (.int .i64 (v.2.2.2.1:Int)), .lit (.int .i64 (v.2.2.2.2:Int))]
def pgvL:List Value→Option (DataW Unit×List MemPlace)
 | [.int .i64 k, .int .i64 l, .slice A n c]=>some (pgvD (k,l,A,n,c),[])
 | _=>none
def pgvR:Value→Option (DataW Unit×List MemPlace)
 | .agg cells=>pgvL cells.toList
 | _=>none
theorem pgv_backL (v:List Value) (d:DataW Unit) (ps:List MemPlace) (e:PgV) (h:pgvL v=some (d,ps)) (hd:d=pgvD e):v=[.int .i64 e.1, .int .i64 e.2.1, .slice e.2.2.1 e.2.2.2.1 e.2.2.2.2]:=by
 unfold pgvL at h
 split at h
 ·rename_i k l A n c
  injection h with h
  injection h with h _
  rw [hd] at h
  obtain ⟨e1,e2,e3,e4,e5⟩:=e
  simp only [pgvD,DataW.agg.injEq,List.cons.injEq,DataW.lit.injEq,Lit.int.injEq,and_true,true_and] at h
  obtain ⟨h1,h2,h3,h4,h5⟩:=h
  rw [h1,h2,adD_inj h3,Int.ofNat.inj h4,Int.ofNat.inj h5]
 ·cases h
theorem pgv_back (v:Value) (d:DataW Unit) (ps:List MemPlace) (e:PgV) (h:pgvR v=some (d,ps)) (hd:d=pgvD e):v=pgvE e:=by
 unfold pgvR at h
 split at h
 ·rename_i cells
  have h1:=pgv_backL _ _ _ _ h hd
  rw [pgvE]
  congr 1
  exact Array.toList_inj.1 h1
 ·cases h
def pgX:Ec PgV where
 enc:=pgvE
 dat:=pgvD
 R:=pgvR
 e0:=(0,0,none,0,0)
 okE:=fun _=>True
 read:=fun e _=>rfl
 back:=pgv_back
 ok0:=trivial
def ordS (os:List Int) (e:EdT):List Int:=if e.1∈os then os else os++[e.1]
def ordF (l:List EdT):List Int:=l.foldl ordS []
def nowS (N:Int→PgS) (e:EdT):Int→PgS:=fun n=>if n=e.1 then doV (N e.1) e 1 else N n
def nowF (cur:Int→PgS) (l:List EdT):Int→PgS:=l.foldl nowS cur
/-- the first edit that cannot be done: its error, or 0 -/
def errF (N:Int→PgS):List EdT→Int
 | []=>0
 | e::l=>if doE (N e.1) e 1=0 then errF (nowS N e) l else doE (N e.1) e 1
theorem ord_snoc (l:List EdT) (e:EdT):ordF (l++[e])=ordS (ordF l) e:=by rw [ordF,List.foldl_append]; rfl
theorem now_snoc (cur:Int→PgS) (l:List EdT) (e:EdT):nowF cur (l++[e])=nowS (nowF cur l) e:=by rw [nowF,List.foldl_append]; rfl
theorem err_app (l1:List EdT):∀ (N:Int→PgS) (l2:List EdT),errF N l1=0→errF N (l1++l2)=errF (nowF N l1) l2:=by
 induction l1 with
 | nil=>intro N l2 _; rfl
 | cons e l ih=>
   intro N l2 h
   rw [errF] at h
   rw [List.cons_append,errF]
   split at h
   ·rename_i h0
    rw [if_pos h0]
    exact ih _ _ h
   ·rename_i h0; exact absurd h h0
theorem take_succ_e {l:List EdT} {j:Nat} {e:EdT} (h:l[j]? =some e):l.take (j+1)=l.take j++[e]:=by rw [List.take_add_one,h]; rfl
theorem err_step {N:Int→PgS} {l:List EdT} {j:Nat} {e:EdT} (he:l[j]? =some e) (h:errF N (l.take j)=0) (h0:doE (nowF N (l.take j) e.1) e 1=0):errF N (l.take (j+1))=0:=by
 rw [take_succ_e he,err_app _ _ _ h,errF,if_pos h0]; rfl
theorem err_stop {N:Int→PgS} {l:List EdT} {j:Nat} {e:EdT} (he:l[j]? =some e) (h:errF N (l.take j)=0) (h0:doE (nowF N (l.take j) e.1) e 1≠0):errF N l=doE (nowF N (l.take j) e.1) e 1:=by
 obtain ⟨hj,rfl⟩:=List.getElem?_eq_some_iff.1 he
 have e1:l=l.take j++l[j]::l.drop (j+1):=by rw [← List.drop_eq_getElem_cons hj,List.take_append_drop]
 conv=>lhs; rw [e1]
 rw [err_app _ _ _ h,errF,if_neg h0]
theorem ord_len (l:List EdT):(ordF l).length≤l.length:=by
 have h:∀ (l:List EdT) (os:List Int),(l.foldl ordS os).length≤os.length+l.length:=by
  intro l
  induction l with
  | nil=>intro os; exact Nat.le_refl _
  | cons e l ih=>
    intro os
    refine Nat.le_trans (ih _) ?_
    unfold ordS
    split
    ·simp only [List.length_cons]; omega
    ·simp only [List.length_cons,List.length_append,List.length_nil]; omega
 have:=h l []
 simpa [ordF] using this
theorem ord_mem {l:List EdT} {n:Int}:n∈ordF l↔∃ e∈l,e.1=n:=by
 have h:∀ (l:List EdT) (os:List Int),n∈l.foldl ordS os↔(n∈os∨∃ e∈l,e.1=n):=by
  intro l
  induction l with
  | nil=>intro os; simp
  | cons e l ih=>
    intro os
    rw [List.foldl_cons,ih]
    unfold ordS
    split
    ·rename_i h1
     constructor
     ·rintro (h | ⟨x,hx,hn⟩)
      ·exact .inl h
      ·exact .inr ⟨x,List.mem_cons_of_mem _ hx,hn⟩
     ·rintro (h | ⟨x,hx,hn⟩)
      ·exact .inl h
      ·rcases List.mem_cons.1 hx with rfl | hx
       ·exact .inl (hn ▸ h1)
       ·exact .inr ⟨x,hx,hn⟩
    ·rw [List.mem_append,List.mem_singleton]
     constructor
     ·rintro ((h | h) | ⟨x,hx,hn⟩)
      ·exact .inl h
      ·exact .inr ⟨e,List.mem_cons_self,h.symm⟩
      ·exact .inr ⟨x,List.mem_cons_of_mem _ hx,hn⟩
     ·rintro (h | ⟨x,hx,hn⟩)
      ·exact .inl (.inl h)
      ·rcases List.mem_cons.1 hx with rfl | hx
       ·exact .inl (.inr hn.symm)
       ·exact .inr ⟨x,hx,hn⟩
 have:=h l []
 simpa [ordF] using this
def outR (n:Nat) (e:EdT):Bool:=decide (e.1 < 0)||decide ((n:Int)≤e.1)
def idxQ {α:Type} (p:α→Bool) (k:Int):List α→Int
 | []=> -1
 | x::l=>if p x then k else idxQ p (k+1) l
theorem idxQ_at {α:Type} {p:α→Bool} {l:List α} {x:α} {k:Nat} (h:l[k]? =some x):idxQ p (k:Int) (l.drop k)=if p x then (k:Int) else idxQ p ((k+1:Nat):Int) (l.drop (k+1)):=by
 obtain ⟨hk,rfl⟩:=List.getElem?_eq_some_iff.1 h
 rw [List.drop_eq_getElem_cons hk,idxQ]; rfl
theorem idxQ_any {α:Type} (p:α→Bool) (l:List α):∀ k:Int,0≤k→decide (0≤idxQ p k l)=l.any p:=by
 induction l with
 | nil=>intro k _; rfl
 | cons x l ih=>
   intro k hk
   rw [idxQ,List.any_cons]
   cases p x with
   | true=>rw [if_pos rfl,Bool.true_or]; exact decide_eq_true hk
   | false=>rw [if_neg (by decide),Bool.false_or]; exact ih (k+1) (by omega)
theorem outR_eq (n:Nat) (x:Int) (sl:Int) (s:ByteArray):(if decide (x < 0)=true then true else decide ((n:Int)≤x))=outR n (x,sl,s):=by
 unfold outR; cases decide (x < 0)<;>rfl
theorem sdo1_any (x sl:Int) (s:ByteArray) (q sb db:Nat) (S:StM) (w:World) (hbq:Blk w q 31 #[.pointer (some ⟨sb,0,none⟩)]) (hst:StAt w sb db S):
  Calls Tryz.prog 54 #[.agg #[.int .i64 x, .int .i64 sl, .string s], .pointer (some ⟨q,0,none⟩)] w (Ret (.bool (outR S.D.pgs.length (x,sl,s))) w):=by
 go_enter Tryz.func54,Tryz.ntmps54
 have hst0:=St.start w
 refine wp_seq (sqr ?_)
 refine sqbx #[vi x,vi sl, .string s] hst0 fun B2_1 W1 hst1=>?_
 refine sqp [.k 3 (.bool false)] ?_
 refine then_normal (wp_seq (wp_region_Z [0,1,3,7,15,31,15,79,255,511,1023] [[],[0],[],[],[],[0]] [.k 4 (vp B2_1), .c 5 (vi x), .k 6 (.bool (decide (x < 0))), .k 7 (.bool (decide (x < 0))), .z 8 (!(decide (x < 0))) (vp B2_1), .y 9 (!(decide (x < 0))) (vi x), .y 10 (!(decide (x < 0))) (vp sb), .y 11 (!(decide (x < 0))) (vi ((S.D.pgs.length:Int))), .z 12 (!(decide (x < 0))) (.bool (decide ((S.D.pgs.length:Int)≤x))),tO 13 (decide (x < 0)) (decide ((S.D.pgs.length:Int)≤x)), .k 3 (.bool ((decide (x < 0))||(decide ((S.D.pgs.length:Int)≤x))))] [0] [1,5,6,7] [(3,10,1,4),(0,0,10,10)] hst1 ?_ fun W3 hst3=>?_))
 ·refine ⟨?_,?_,?_,?_,trivial⟩
  ·exact xs4 rfl id fun cx=>run_load1 rfl (by kernel_rfl) (cx.an 0) ((cx.bi 0 rfl).cell 0)
  ·exact m2 rfl (fun _ _ _ h=>h) (fun cx=>(cx.an 3)) fun cx hq=>run_load1 rfl (by kernel_rfl) (mbv (cx.an 4) hq) ((cx.bi 0 rfl).cell 0)
  ·exact m2 rfl (fun _ _ _ h=>h) (fun cx=>(cx.an 3)) fun cx hq=>run_load1 rfl (by kernel_rfl) (cx.ou 1) ((Blk.ext hbq cx.upd.to_ext).cell 0)
  ·exact m3 rfl (fun _ _ _ h=>h) (fun cx=>(cx.an 3)) fun cx hq=>⟨_, _,run_callF (args:=#[vp sb]) rfl cx.sees rfl (by kernel_rfl) (map1 (mbv (cx.an 6) hq)),spages_any sb db S _ (StAt.ext hst cx.upd.to_ext)⟩
 refine then_normal (wp_ret ?_)
 refine bpr (.bool ((decide (x < 0))||(decide ((S.D.pgs.length:Int)≤x)))) (results_1 Tryz.results54 rpt) ?_
 exact Ret.bool (by rw [← outR_eq]; simp) hst3.ext
theorem geidx_any (A:Option Addr) (c:Nat) (l:List EdT) (f0:FuncId) (cap:Array Value) (p:EdT→Bool) (w:World) (hA:At w A (l.flatMap edC)) (hl:l.length≤100000) (hcf:callP Tryz.prog f0=true) (hf:∀ (W:World) (k:EdT),Ext w W→Calls Tryz.prog f0 (#[.agg #[.int .i64 k.1, .int .i64 k.2.1, .string k.2.2]]++cap) W (Ret (.bool (p k)) W)):
  Calls Tryz.prog 117 #[.slice A l.length c, .func (.func f0) #[] cap] w (Ret (.int .i64 (idxQ p 0 l)) w):=by
 go_enter Tryz.func117,Tryz.ntmps117
 have hst0:=St.start w
 refine wp_seq (sqr (sqp [.k 4 (vi 0)] ?_))
 refine then_normal (wp_seq (wp_seq (sqr (sqp [.m 6 0, .k 7 (vi ((l.length:Int))), .k 8 (vi 0)] ?_))))
 refine then_normal (wp_block ?_)
 refine wp_loopT (fun t_ mz az W=>∃ k:Nat,k≤l.length∧idxQ p 0 l=idxQ p (k:Int) (l.drop k)∧mz=l.length - k∧az=⟨(ovr (jv az) [(4,4,2,[]),(2,8,0,[vi ((k:Int))]),(0,9,10,[])] t_).toArray,[]⟩∧St w [] [] W) (l.length - 0) ?_ ?_
 · -- the loop begins
   exact ⟨0,Nat.zero_le _,rfl,rfl,(by kernel_rfl),hst0.pk []⟩
 rintro n5 a5 W5 ⟨k,hk,hkr,rfl,hj_,hst5⟩
 refine ovz hj_ fun u5_=>?_
 refine wp_seq (sqr (sqp [.k 9 (.bool (decide ((k:Int) < (l.length:Int))))] ?_))
 refine then_normal (wp_seq (wds (fun hs7 hs7p=>?_) fun hs7 hs7p=>?_))
 ·refine wp_skip (then_normal (wp_seq (wp_block (wp_seq (sqr (sqp [.m 10 8, .m 5 10] ?_))))))
  refine then_normal (wp_seq ?_)
  obtain ⟨ep,es,eb,hek⟩:=getEdT (l:=l) (k:=k) (by omega)
  refine sqr (sqp [.m 11 1, .m 12 0, .m 13 5] ?_)
  refine sql (.pointer (some ((ad A).add (k*3)))) hst5 (fun cx=>run_indexSlM (e:=84) (m:=k) (sz:=3) rfl (by kernel_rfl) (by kernel_rfl) (cx.ou 12) (cx.ou 13) (by omega) (by omega) (hA.ext cx.upd.to_ext) (flatPos (sz:=3) edC_len (by decide) (by omega))) ?_
  refine sql (.agg #[vi ep,vi es, .string eb]) hst5 (fun cx=>run_loadElt (f:=edC) (m:=k) (sz:=3) (off:=0) (n:=3) rfl (by kernel_rfl) (by kernel_rfl) (cx.ou 14) rfl edC_len (hA.ext cx.upd.to_ext) hek (fun k hk=>match k,hk with | 0, _=>rfl | 1, _=>rfl | 2, _=>rfl | k+3,hk=>absurd hk (by omega))) ?_
  refine sqv (.bool ((p (ep,es,eb)))) hst5 (sv_call rfl rfl rfl rfl rfl (fun _ _ _ h=>h) fun ρ β W X cx=>⟨_, _,run_callV (f:=f0) (args:=#[.agg #[vi ep,vi es, .string eb]]) (args':=#[.agg #[vi ep,vi es, .string eb]]++cap) rfl rfl (cx.ou 11) hcf (map1 (cx.ou 15)) (by rw [Array.empty_append]),(by have h9:=hf W (ep,es,eb) cx.upd.to_ext; dsimp only at h9; exact h9)⟩) fun W15 hst15=>?_
  refine then_normal (wbs (fun hs16=>?_) fun hs16=>?_)
  ·refine wp_seq (sqr (sqp [.m 17 5, .m 4 17] ?_))
   refine then_normal (wp_ret (blk_ret (then_ret (then_ret (blk_ret (then_ret ?_))))))
   refine bpr (vi ((k:Int))) (results_1 Tryz.results117 rpt) ?_
   exact Ret.of (by rw [hkr,idxQ_at hek,hs16]; rfl) hst15.ext
  refine wp_skip (blk_normal (then_normal (sqr (sqp [sI 18 ((k:Int)+1) (by omega), .m 8 18] ?_))))
  refine then_normal ?_
  refine ⟨l.length - ((k+1)),by omega,?_⟩
  exact ⟨(k+1),by omega,by rw [hkr,idxQ_at hek,hs16]; rfl,rfl,(by kernel_rfl),hst15.pk []⟩
 refine wp_exit (then_exit (then_exit (blk_eq (then_normal (wp_seq (sqr (sqp [.k 4 (vi (-1))] ?_)))))))
 refine then_normal (wp_ret ?_)
 refine bpr (vi (-1)) (results_1 Tryz.results117 rpt) ?_
 exact Ret.of (by rw [hkr,List.drop_of_length_le (by omega)]; rfl) hst5.ext
theorem gecon_any (A:Option Addr) (c:Nat) (l:List EdT) (f0:FuncId) (cap:Array Value) (p:EdT→Bool) (w:World) (hA:At w A (l.flatMap edC)) (hl:l.length≤100000) (hcf:callP Tryz.prog f0=true) (hf:∀ (W:World) (k:EdT),Ext w W→Calls Tryz.prog f0 (#[.agg #[.int .i64 k.1, .int .i64 k.2.1, .string k.2.2]]++cap) W (Ret (.bool (p k)) W)):
  Calls Tryz.prog 53 #[.slice A l.length c, .func (.func f0) #[] cap] w (Ret (.bool (l.any p)) w):=by
 go_enter Tryz.func53,Tryz.ntmps53
 have hst0:=St.start w
 refine wp_seq (sqr (sqp [.k 4 (.bool false)] ?_))
 refine then_normal (wp_seq (sqr (sqp [.m 5 0, .m 6 1] ?_)))
 refine sqv (vi ((idxQ p 0 l))) hst0 (sv_call rfl rfl rfl rfl rfl (fun _ _ _ h=>h) fun ρ β W X cx=>⟨_, _,run_callF (args:=#[.slice A l.length c, .func (.func f0) #[] cap]) rfl cx.sees rfl (by kernel_rfl) (map2 (cx.ou 5) (cx.ou 6)),geidx_any _ _ l _ _ p _ (hA.ext cx.upd.to_ext) hl hcf (fun W k hW=>hf W k (cx.upd.to_ext.trans hW))⟩) fun W4 hst4=>?_
 refine sqp [.k 8 (.bool (decide (0≤(idxQ p 0 l)))), .m 4 8] ?_
 refine then_normal (wp_ret ?_)
 refine bpr (.bool (decide (0≤(idxQ p 0 l)))) (results_1 Tryz.results53 rpt) ?_
 exact Ret.of (by rw [← idxQ_any _ _ 0 (by omega)]) hst4.ext
end
section
open Go.RowKit Go.Maps Go.ChangeMaps
noncomputable def imgR (S:StM) (n:Int):RecM:=⟨8,0,n,[],bytesP (curF S n)⟩
def needF (S:StM) (os:List Int):List Int:=os.filter fun n=>!(S.im n).getD false
def rcI (r:RecM):RcT:=⟨r,none,0⟩
noncomputable def icC (S:StM) (n:Int):List Value:=rcC (rcI (imgR S n))
theorem icC_len (S:StM) (n:Int):(icC S n).length=8:=rfl
noncomputable def imgsF (S:StM) (os:List Int):List RecM:=(needF S os).map (imgR S)
def setL (l:Int) (p:PgS):PgS:=(p.1,l,p.2.2)
def npV (p:PgS) (pg:PgR):PgV:=(p.1,p.2.1,pg.A,p.2.2.length,pg.c)
noncomputable def lsnF (S:StM) (r:RecM):Int:=(S.recs.length:Int)+((needF S (ordF r.eds)).length:Int)+1
theorem need_snoc (S:StM) (os:List Int) (n:Int):needF S (os++[n])=if (S.im n).getD false=true then needF S os else needF S os++[n]:=by
 rw [needF,List.filter_append]
 cases h:(S.im n).getD false
 ·rw [if_neg (by decide),List.filter_cons_of_pos (by rw [h]; rfl)]; rfl
 ·rw [if_pos rfl,List.filter_cons_of_neg (by rw [h]; decide),List.filter_nil,List.append_nil]; rfl
theorem need_len (S:StM) (os:List Int):(needF S os).length≤os.length:=List.length_filter_le _ _
theorem need_mem {S:StM} {os:List Int} {n:Int} (h:n∈needF S os):n∈os:=(List.mem_filter.1 h).1
theorem cur_right {S:StM} {c:Nat} (h:SOk S c) (n:Int):rightP (curF S n):=by
 unfold curF
 split
 ·rename_i t ht; exact h.right t (List.mem_of_find?_eq_some ht)
 ·exact rd_right _
theorem now_right {cur:Int→PgS} {l:List EdT} (hc:∀ n,rightP (cur n)) (h:errF cur l=0) (n:Int):rightP (nowF cur l n):=by
 induction l generalizing cur with
 | nil=>exact hc n
 | cons e l ih=>
   rw [errF] at h
   split at h
   ·rename_i h0
    refine ih (fun m=>?_) h
    unfold nowS
    split
    ·exact do_right h0
    ·exact hc m
   ·rename_i h0; exact absurd h h0
/-- the maps of Do: os are the pages met; at ex the page has not got its LSN -/
structure DoI (cur N:Int→PgS) (lsn:Int) (os:List Int) (mW mN:Int→Option PgV) (rows:List PgR) (ex:Option Int):Prop where
 w:∀ n∈os,∃ pg∈rows,mW n=some (npV (cur n) pg)∧pg.p.2.2=(cur n).2.2
 n:∀ n∈os,∃ pg∈rows,mN n=some (npV (N n) pg)∧pg.p.2.2=(N n).2.2∧(ex≠some n→pg.p=setL lsn (N n))
 no:∀ n,n∉os→mW n=none∧mN n=none∧N n=cur n
theorem DoI.init (cur:Int→PgS) (lsn:Int) (rows:List PgR):DoI cur cur lsn [] (fun _=>none) (fun _=>none) rows none:=⟨fun n h=>(by cases h),fun n h=>(by cases h),fun n _=>⟨rfl,rfl,rfl⟩⟩
theorem DoI.mono {cur N:Int→PgS} {lsn:Int} {os:List Int} {mW mN:Int→Option PgV} {rows rows':List PgR} {ex:Option Int} (h:DoI cur N lsn os mW mN rows ex) (hr:∀ r∈rows,r∈rows'):DoI cur N lsn os mW mN rows' ex:=
 ⟨fun n hn=>let ⟨pg,a,b⟩:=h.w n hn; ⟨pg,hr pg a,b⟩,fun n hn=>let ⟨pg,a,b⟩:=h.n n hn; ⟨pg,hr pg a,b⟩,h.no⟩
theorem ordS_mem {os:List Int} {e:EdT} (h:e.1∈os):ordS os e=os:=if_pos h
theorem ordS_new {os:List Int} {e:EdT} (h:e.1∉os):ordS os e=os++[e.1]:=if_neg h
theorem ordS_self (os:List Int) (e:EdT):e.1∈ordS os e:=by
 by_cases h:e.1∈os
 ·rw [ordS_mem h]; exact h
 ·rw [ordS_new h]; exact List.mem_append_right _ (List.mem_singleton.2 rfl)
theorem DoI.mem {cur N:Int→PgS} {lsn:Int} {os:List Int} {mW mN:Int→Option PgV} {rows:List PgR} {ex:Option Int} (h:DoI cur N lsn os mW mN rows ex) {n:Int}:((mW n).isSome=true↔n∈os):=by
 constructor
 ·intro h1
  refine Classical.byContradiction fun hn=>?_
  rw [(h.no n hn).1] at h1
  cases h1
 ·intro hn
  obtain ⟨pg, _,h2, _⟩:=h.w n hn
  rw [h2]; rfl
theorem DoI.old {cur N:Int→PgS} {lsn:Int} {os:List Int} {mW mN:Int→Option PgV} {rows:List PgR} (h:DoI cur N lsn os mW mN rows none) (e:EdT) (hs:(mW e.1).isSome=true):DoI cur N lsn (ordS os e) mW mN rows (some e.1):=by
 rw [ordS_mem (h.mem.1 hs)]
 exact ⟨h.w,fun n hn=>let ⟨pg,a,b,c,d⟩:=h.n n hn; ⟨pg,a,b,c,fun _=>d (by simp)⟩,h.no⟩
theorem DoI.new {cur N:Int→PgS} {lsn:Int} {os:List Int} {mW mN:Int→Option PgV} {rows:List PgR} (h:DoI cur N lsn os mW mN rows none) (e:EdT) (hs:(mW e.1).isSome=false) {q:PgS} (hq:q=cur e.1) (A:Option Addr) (c:Nat):
  DoI cur N lsn (ordS os e) (putX mW e.1 (some (q.1,q.2.1,A,q.2.2.length,c))) (putX mN e.1 (some (q.1,q.2.1,A,q.2.2.length,c))) (rows++[⟨q,A,c⟩]) (some e.1):=by
 have hn:e.1∉os:=fun hm=>by rw [h.mem.2 hm] at hs; cases hs
 rw [ordS_new hn]
 subst hq
 refine ⟨fun n hm=>?_,fun n hm=>?_,fun n hm=>?_⟩
 ·by_cases e1:n=e.1
  ·subst e1; exact ⟨_,List.mem_append_right _ (List.mem_singleton.2 rfl),if_pos rfl,rfl⟩
  ·obtain ⟨pg,a,b⟩:=h.w n ((List.mem_append.1 hm).elim id fun h=>absurd (List.mem_singleton.1 h) e1)
   exact ⟨pg,List.mem_append_left _ a,by rw [putX,if_neg e1]; exact b.1,b.2⟩
 ·by_cases e1:n=e.1
  ·subst e1
   exact ⟨_,List.mem_append_right _ (List.mem_singleton.2 rfl),by rw [putX,if_pos rfl,npV,(h.no _ hn).2.2],by rw [(h.no _ hn).2.2],fun h=>absurd rfl h⟩
  ·obtain ⟨pg,a,b,c,d⟩:=h.n n ((List.mem_append.1 hm).elim id fun h=>absurd (List.mem_singleton.1 h) e1)
   exact ⟨pg,List.mem_append_left _ a,by rw [putX,if_neg e1]; exact b,c,fun _=>d (by simp)⟩
 ·have h1:n∉os:=fun h2=>hm (List.mem_append_left _ h2)
  have e1:n≠e.1:=fun h2=>hm (List.mem_append_right _ (List.mem_singleton.2 h2))
  obtain ⟨a,b,c⟩:=h.no n h1
  exact ⟨by rw [putX,if_neg e1]; exact a,by rw [putX,if_neg e1]; exact b,c⟩
theorem DoI.edit {cur N:Int→PgS} {lsn:Int} {os:List Int} {mW mN:Int→Option PgV} {rows:List PgR} {e:EdT} (h:DoI cur N lsn os mW mN rows (some e.1)) (hm:e.1∈os) {q:PgS} (hq:q=doV (N e.1) e 1) (A:Option Addr) (c:Nat):
  DoI cur (nowS N e) lsn os mW (putX mN e.1 (some (q.1,q.2.1,A,q.2.2.length,c))) (rows++[⟨setL lsn q,A,c⟩]) none:=by
 subst hq
 refine ⟨fun n hn=>let ⟨pg,a,b⟩:=h.w n hn; ⟨pg,List.mem_append_left _ a,b⟩,fun n hn=>?_,fun n hn=>?_⟩
 ·by_cases e1:n=e.1
  ·subst e1
   have e2:nowS N e e.1=doV (N e.1) e 1:=if_pos rfl
   exact ⟨_,List.mem_append_right _ (List.mem_singleton.2 rfl),by rw [putX,if_pos rfl,npV,e2],by rw [e2]; rfl,fun _=>by rw [e2]⟩
  ·obtain ⟨pg,a,b,c,d⟩:=h.n n hn
   have e2:nowS N e n=N n:=if_neg e1
   exact ⟨pg,List.mem_append_left _ a,by rw [putX,if_neg e1,e2]; exact b,by rw [e2]; exact c,fun _=>by rw [e2]; exact d (fun h=>e1 (Option.some.inj h).symm)⟩
 ·obtain ⟨a,b,c⟩:=h.no n hn
  have e1:n≠e.1:=fun h2=>hn (h2 ▸ hm)
  exact ⟨a,by rw [putX,if_neg e1]; exact b,by rw [nowS,if_neg e1]; exact c⟩
/-- the images appended -/
inductive ApI:StM→List RecM→StM→Int→Prop where
 | nil (S:StM):ApI S [] S 0
 | bad {S:StM} {r:RecM} {l:List RecM} (q:List RcT) (h:(appF {S with rr:=q} (rcI r)).2≠0):ApI S (r::l) (appF {S with rr:=q} (rcI r)).1 (appF {S with rr:=q} (rcI r)).2
 | cons {S S2:StM} {r:RecM} {l:List RecM} {er:Int} (q:List RcT) (h:(appF {S with rr:=q} (rcI r)).2=0) (hr:ApI (imS (appF {S with rr:=q} (rcI r)).1 r.tbl) l S2 er):ApI S (r::l) S2 er
/-- the pages put -/
inductive PuA (cur N:Int→PgS) (lsn:Int):StM→List Int→StM→Int→Prop where
 | nil (S:StM):PuA cur N lsn S [] S 0
 | bad {S S2:StM} {n er:Int} {l:List Int} {pg:PgR} (hp:pg.p=setL lsn (N n)) (h:PutR (if (cur n).1≠0∧(N n).1=0 then toldS S n false else S) n pg S2 er) (he:er≠0):PuA cur N lsn S (n::l) S2 er
 | cons {S S1 S2:StM} {n er:Int} {l:List Int} {pg:PgR} (hp:pg.p=setL lsn (N n)) (h:PutR (if (cur n).1≠0∧(N n).1=0 then toldS S n false else S) n pg S1 0) (hr:PuA cur N lsn S1 l S2 er):PuA cur N lsn S (n::l) S2 er
def DoA (r:RecM):Prop:=recR r=true∧r.kind≠8∧r.kind≠9
noncomputable def needZ (S:StM) (r:RecM):Nat:=S.D.log.size+((frameR r).size+szF (imgsF S (ordF r.eds)))
/-- what Do does -/
inductive DoQ (S:StM) (r:RecM):StM→Int→Int→Prop where
 | arg (h:¬ DoA r):DoQ S r S 0 1
 | page {S':StM} (h:DoA r) (hp:r.eds.any (outR S.D.pgs.length)=true) (he:Ev S S'):DoQ S r S' 0 22
 | pow {S':StM} (h:DoA r) (hp:r.eds.any (outR S.D.pgs.length)=false) (he:Ev S S') (ho:S'.D.off=true):DoQ S r S' 0 24
 | err {S':StM} (h:DoA r) (hp:r.eds.any (outR S.D.pgs.length)=false) (he:Ev S S') (h0:errF (curF S) r.eds≠0):DoQ S r S' 0 (errF (curF S) r.eds)
 | full {S':StM} (h:DoA r) (hp:r.eds.any (outR S.D.pgs.length)=false) (he:Ev S S') (h0:errF (curF S) r.eds=0) (hf:1048576 < needZ S r):DoQ S r S' 0 31
 | img {S1 S2:StM} {er:Int} (h:DoA r) (hp:r.eds.any (outR S.D.pgs.length)=false) (he:Ev S S1) (hk:∃ c,SOk S1 c) (h0:errF (curF S) r.eds=0) (hf:needZ S r≤1048576) (hi:ApI S1 (imgsF S (ordF r.eds)) S2 er) (hn:er≠0):DoQ S r S2 0 er
 | app {S1 S2:StM} {rt:RcT} (h:DoA r) (hp:r.eds.any (outR S.D.pgs.length)=false) (he:Ev S S1) (hk:∃ c,SOk S1 c) (h0:errF (curF S) r.eds=0) (hf:needZ S r≤1048576) (hi:ApI S1 (imgsF S (ordF r.eds)) S2 0) (hr:rt.r=r) (hn:(appF S2 rt).2≠0):DoQ S r (appF S2 rt).1 0 (appF S2 rt).2
 | put {S1 S2 S3:StM} {rt:RcT} {er:Int} (h:DoA r) (hp:r.eds.any (outR S.D.pgs.length)=false) (he:Ev S S1) (hk:∃ c,SOk S1 c) (h0:errF (curF S) r.eds=0) (hf:needZ S r≤1048576) (hi:ApI S1 (imgsF S (ordF r.eds)) S2 0) (hr:rt.r=r) (ha:(appF S2 rt).2=0)
   (hu:PuA (curF S) (nowF (curF S) r.eds) (lsnF S r) (appF S2 rt).1 (ordF r.eds) S3 er):DoQ S r S3 (if er=0 then lsnF S r else 0) er
def DoSPost (sb db:Nat) (S:StM) (r:RecM) (c:Nat) (fp:List Nat) (w:World) (e:Ending) (w':World):Prop:=∃ n er,e= .returned (.tuple #[.int .i64 n, .int .i64 er])∧∃ fp',St w fp [eSx sb db (fun S2=>DoQ S r S2 n er∧SOk S2 (c+700)) fp'] w'
theorem DoSPost.of {sb db:Nat} {S S2:StM} {r:RecM} {c:Nat} {n er:Int} {fp fp':List Nat} {w w':World} (h:DoQ S r S2 n er) (ho:SOk S2 (c+700)) (hs:St w fp ([]++[eSt sb db S2 fp']) w'):DoSPost sb db S r c fp w (.returned (.tuple #[.int .i64 n, .int .i64 er])) w':=⟨n,er,rfl,fp',St.sx (L:=[]) hs ⟨h,ho⟩⟩
theorem SOk.rr {S:StM} {c:Nat} (h:SOk S c) (q:List RcT):SOk {S with rr:=q} c:=⟨h.bufs,h.pgs,h.ws,h.time,h.ni,h.nt,h.right,h.nodup,h.len,h.keys,h.recs,h.log,h.lsz,h.fl,h.cl⟩
theorem Ev.rr (S:StM) (q:List RcT):Ev S {S with rr:=q}:=⟨rfl,rfl,rfl,rfl,rfl,fun r h=>h,rfl,rfl, .inl rfl,rfl,id,fun _=>rfl,fun j x y hx hy=>by have hy:S.D.pgs[j]? =some y:=hy; rw [hx] at hy; cases hy; exact ⟨rfl,[],by simp,fun z hz=>by cases hz⟩,fun m _=>rfl⟩
theorem Ev.rows' (S:StM) (pg:PgR):Ev S (addR S pg):=⟨rfl,rfl,rfl,rfl,rfl,fun r h=>List.mem_append_left _ h,rfl,rfl, .inl rfl,rfl,id,fun _=>rfl,fun j x y hx hy=>by have hy:S.D.pgs[j]? =some y:=hy; rw [hx] at hy; cases hy; exact ⟨rfl,[],by simp,fun z hz=>by cases hz⟩,fun m _=>rfl⟩
theorem eSt_rowP {W:World} {sb db:Nat} {S:StM} {fp:List Nat} (h:(eSt sb db S fp).holds W) {r:PgR} (hr:r∈S.rows):At W r.A (r.p.2.2.map Value.string):=by
 obtain ⟨_,mb,RA,rc,EA,ec,ib,tb,fpd, _, _,h3⟩:=h
 exact rowP_at (h3 (eM (S.rows.map entP)) (by simp [stL])).1 hr
theorem img_right {S:StM} {c:Nat} {n:Int} (h:SOk S c) (hn:0≤n∧n < (S.D.pgs.length:Int)):recR (imgR S n)=true:=by
 have h1:=bytesP_size (cur_right h n)
 have h2:=h.pgs
 have a1:inB n 0 65535=true:=by unfold inB; rw [Bool.and_eq_true,decide_eq_true_eq,decide_eq_true_eq]; omega
 have a2:decide (((bytesP (curF S n)).size:Int)≤60000)=true:=decide_eq_true (by omega)
 show (inB 8 1 10&&(inB 0 0 127&&(inB n 0 65535&&(decide ((([]:List EdT).length:Int)≤64)&&((([]:List EdT).all edR)&&decide (((bytesP (curF S n)).size:Int)≤60000))))))=true
 rw [a1,a2]; decide
theorem out_in {l:List EdT} {n:Nat} (h:l.any (outR n)=false) {e:EdT} (he:e∈l):0≤e.1∧e.1 < (n:Int):=by
 have h1:=(List.any_eq_false.1 h) e he
 unfold outR at h1
 simp only [Bool.or_eq_true,decide_eq_true_eq,not_or] at h1
 omega
theorem szF_snoc1 (S:StM) (os:List Int) (n:Int) (h:(S.im n).getD false=false):szF (imgsF S (os++[n]))=szF (imgsF S os)+(frameR (imgR S n)).size:=by
 rw [imgsF,need_snoc,if_neg (by rw [h]; decide),List.map_append]; exact szF_snoc _ _
theorem imgs_skip (S:StM) (os:List Int) (n:Int) (h:(S.im n).getD false=true):needF S (os++[n])=needF S os:=by rw [need_snoc,if_pos h]
theorem need_add (S:StM) (os:List Int) (n:Int) (h:(S.im n).getD false=false):needF S (os++[n])=needF S os++[n]:=by rw [need_snoc,if_neg (by rw [h]; decide)]
theorem os_snoc (os:List Int) (n:Int):os.map (Value.int .i64)++[.int .i64 n]=(os++[n]).map (Value.int .i64):=by rw [List.map_append]; rfl
theorem ic_snoc (S:StM) (os:List Int) (n:Int):os.flatMap (icC S)++icC S n=(os++[n]).flatMap (icC S):=by rw [List.flatMap_append]; simp
theorem right_lsn {k l l2:Int} {ss:List ByteArray} (h:rightB k l ss=true) (hl:0≤l2∧l2≤2147483647):rightB k l2 ss=true:=by
 unfold rightB at h ⊢
 simp only [Bool.and_eq_true,decide_eq_true_eq] at h ⊢
 obtain ⟨a,b, _, _,d⟩:=h
 exact ⟨a,b,hl.1,hl.2,d⟩
theorem setL_right {p:PgS} {l:Int} (h:rightP p) (hl:0≤l∧l≤2147483647):rightP (setL l p):=⟨right_lsn h.1 hl,h.2⟩
theorem SOk.recs_len {S:StM} {c:Nat} (h:SOk S c):S.recs.length≤1048576:=by
 have h1:=szF_len h.recs
 have h3:=congrArg ByteArray.size h.log
 rw [logF_size] at h3
 have h2:S.L.length=S.recs.length:=List.length_map ..
 have:=h.lsz
 omega
theorem PutR.rows {S S2:StM} {n er:Int} {pg:PgR} (h:PutR S n pg S2 er):∀ p∈S.rows,p∈S2.rows:=by
 obtain ⟨S1,h1,⟨_,rfl⟩ | ⟨_, _,rfl⟩⟩:=h
 ·exact h1.rows.1
 ·exact h1.rows.1
theorem appF_keep (S:StM) (rt:RcT):(appF S rt).1.rows=S.rows∧(appF S rt).1.rr=S.rr∧(appF S rt).1.im=S.im∧(appF S rt).1.told=S.told∧(appF S rt).1.pool=S.pool∧(appF S rt).1.D.pgs=S.D.pgs∧(appF S rt).1.D.fl=S.D.fl:=by
 obtain ⟨a,b⟩:=apR_pgs S rt.r
 unfold appF
 split<;>exact ⟨rfl,rfl,rfl,rfl,rfl,a,b⟩
theorem appF_recs {S:StM} {rt:RcT} (h:(appF S rt).2=0):(appF S rt).1.recs=S.recs++[rt]:=by
 unfold appF at h ⊢
 split
 ·rename_i h1; rw [if_pos h1] at h; exact absurd h h1
 ·rfl
end
section
open Go.RowKit Go.Maps Go.ChangeMaps
theorem put_zero {S S2:StM} {n er:Int} {pg:PgR} (h:PutR S n pg S2 er) (h0:er=0):PutR S n pg S2 0:=h0 ▸ h
theorem sdo_any (sb db:Nat) (S:StM) (r:RecM) (A:Option Addr) (rc:Nat) (c:Nat) (fp:List Nat) (w:World) (hB:(eSt sb db S fp).holds w) (hlt:∀ k∈fp,k < w.heap.size) (hok:SOk S c) (hc:c≤800000) (hA:∀ W,Upd fp w W→At W A (r.eds.flatMap edC)) (hI:r.eds.length≤100000) (hz:∀ e∈r.eds,e.2.2.size≤9223372036854775807) (hns:r.note.size≤9223372036854775807):
  Calls Tryz.prog 17 #[.pointer (some ⟨sb,0,none⟩), .agg #[.int .i64 r.kind, .int .i64 r.xid, .int .i64 r.tbl, .slice none 0 0, .slice none 0 0, .slice A r.eds.length rc, .slice none 0 0, .string r.note]] w (DoSPost sb db S r c fp w):=by
 have st1:St w fp [eSt sb db S fp] w:=St.lend hB (eSt_loc _ _ _ _) hlt
 have hpg:=hok.pgs
 go_enter Tryz.func17,Tryz.ntmps17
 have hst0:=st1
 refine wp_seq (sqr ?_)
 refine sqbx #[vp sb] hst0 fun B2_1 W1 hst1=>?_
 refine sqbx #[vi r.kind,vi r.xid,vi r.tbl, .slice none 0 0, .slice none 0 0, .slice A r.eds.length rc, .slice none 0 0, .string r.note] hst1 fun B3_2 W2 hst2=>?_
 refine sqp [.k 4 (vi 0), .k 5 (vi 0)] ?_
 refine then_normal (wp_seq (wp_seq (sqr (sqld 1 hst2 ?_))))
 refine sqv (.bool false) hst2 (by
   exact sv0 rfl rfl rfl rfl rfl (fun _ _ _ h=>h) fun ρ β W X cx=>by
    have fF32:ρ (.tmp 32)=vp sb:=(cx.ou 32)
    simp [go_sem,cx.sees.const,fF32]) fun W6 hst6=>?_
 refine sqp [.k 34 (.bool false)] ?_
 refine sqgy 34 [35,36,37] rfl rfl ?_
 refine sqlb 2 8 hst6 ?_
 refine sqk (.bool (recR r)) hst6 (fun cx=>⟨_,jright_any r.kind r.xid r.tbl _ _ r.eds r.note _ (hA _ cx.upd) (by omega) hz hns,(map1 (cx.ou 35))⟩) fun W9 hst9=>?_
 refine sqp [.k 37 (.bool (!(recR r)))] ?_
 refine sqp [.k 38 (.bool (!(recR r))), .m 39 38] ?_
 refine sqw' 39 [40,41,42] ?_ rfl (fun hq=>?_) ?_
 rotate_left
 ·refine sqp [.k 40 (vp B3_2)] ?_
  refine sqld 2 hst9 ?_
  refine sqp [.k 42 (.bool (r.kind==8))] ?_
  exact sqe
 refine sqwx ?_
 refine sqp [sPo 43 (!(recR r)) (r.kind==8), .m 44 43] ?_
 refine sqw' 44 [45,46,47] ?_ rfl (fun hq=>?_) ?_
 rotate_left
 ·refine sqp [.k 45 (vp B3_2)] ?_
  refine sqld 2 hst9 ?_
  refine sqp [.k 47 (.bool (r.kind==9))] ?_
  exact sqe
 refine sqwx ?_
 refine sqp [sPo 48 ((!(recR r))||(r.kind==8)) (r.kind==9)] ?_
 refine then_normal (wbs (fun hs22=>?_) fun hs22=>?_)
 ·have hs22p:=hs22
  simp only [zB] at hs22p
  refine wp_seq (sqr (sqp [.k 4 (vi 0), .k 5 (vi 1)] ?_))
  refine then_normal (wp_ret (then_ret ?_))
  refine bpr (.tuple #[vi 0,vi 1]) (results_2 Tryz.results17 rpt rpt) ?_
  exact DoSPost.of (.arg (fun hh=>by have h_:=hs22; have h1:=hh.1; have h2:=hh.2.1; have h3:=hh.2.2; simp_all)) (hok.mono (by omega)) (hst9.pick [0] (by decide) rfl)
 have hs22p:=hs22
 simp only [zB] at hs22p
 obtain ⟨⟨hs22p1,hs22p2⟩,hs22p3⟩:=hs22p
 refine wp_skip (then_normal (wp_seq ?_))
 have hda:DoA r:=by have h_:=hs22; simp at h_; exact ⟨h_.1.1,h_.1.2,h_.2⟩
 refine sqr ?_
 refine sqlb 2 8 hst9 ?_
 refine sqk2 (fun A50_26 c50_26=> .agg #[vi r.kind,vi r.xid,vi r.tbl, .slice none 0 0, .slice none 0 0, .slice A50_26 r.eds.length c50_26, .slice none 0 0, .string r.note]) (fun A50_26 c50_26=>eO 84 3 (.slice A50_26 r.eds.length c50_26) r.eds.length (r.eds.flatMap edC)) hst9 (fun cx=>⟨_,(sclone_any A rc r _ (hA _ cx.upd) hI).mono (by rintro e W1 ⟨A4,c4,rfl,hs4⟩; exact ⟨_, _,rfl,hs4⟩),(map1 (cx.ou 49))⟩) fun A50_26 c50_26 W26 hst26=>?_
 refine sqst (n:=8) 2 #[vi r.kind,vi r.xid,vi r.tbl, .slice none 0 0, .slice none 0 0, .slice A50_26 r.eds.length c50_26, .slice none 0 0, .string r.note] hst26 fun W27 hst27=>?_
 refine then_normal (wp_seq (wp_seq ?_))
 obtain ⟨S0,fp28_,hS0,hg28_⟩:=St.rRn (r:=(⟨r,A50_26,c50_26⟩:RcT)) hst27.u3
 have hok0:SOk S0 c:=hS0 ▸ hok.rr _
 have hev0:Ev S S0:=hS0 ▸ Ev.rr S _
 have hrt0:(⟨r,A50_26,c50_26⟩:RcT)∈S0.rr:=by rw [← hS0]; exact List.mem_append_right _ (List.mem_singleton.2 rfl)
 have hp0:S0.D.pgs.length=S.D.pgs.length:=hev0.len
 refine sqr (sqp [.k 51 (.pointer (some ⟨B3_2,5,none⟩))] ?_)
 refine sqld 2 hg28_ ?_
 refine sqv (.func (.func 54) #[] #[vp B2_1]) hg28_ (by
   exact sv0 rfl rfl rfl rfl rfl (fun _ _ _ h=>h) fun ρ β W X cx=>by
    have fF2:ρ (.tmp 2)=vp B2_1:=(cx.ou 2)
    simp [go_sem,Instr.makeFunc,fF2]) fun W31 hst31=>?_
 refine sqk (.bool ((r.eds.any (outR S0.D.pgs.length)))) hst31 (fun cx=>⟨_,gecon_any _ _ r.eds 54 #[vp B2_1] (outR S0.D.pgs.length) _ (eSt_own (CtxV.holdF cx (cx.init 0 _ rfl) rfl) hrt0) hI (by kernel_rfl) (fun W2 k hW=>sdo1_any k.1 k.2.1 k.2.2 B2_1 sb db S0 W2 ((cx.bi 1 rfl).ext hW) (StAt.ext (eSt_at (CtxV.holdF cx (cx.init 0 _ rfl) rfl)) hW)),(map2 (cx.ou 52) (cx.ou 53))⟩) fun W32 hst32=>?_
 refine then_normal (wbs (fun hs33=>?_) fun hs33=>?_)
 ·refine wp_seq (sqr (sqp [.k 4 (vi 0), .k 5 (vi 22)] ?_))
  refine then_normal (wp_ret (then_ret ?_))
  refine bpr (.tuple #[vi 0,vi 22]) (results_2 Tryz.results17 rpt rpt) ?_
  exact DoSPost.of (.page hda (by rw [← hp0]; exact hs33) hev0) (hok0.mono (by omega)) (hst32.pick [0] (by decide) rfl)
 refine wp_skip (then_normal (wp_seq ?_))
 have hin:r.eds.any (outR S.D.pgs.length)=false:=by rw [← hp0]; exact hs33
 have hro:=recR_ok hda.1
 have hml:=hro.many
 refine sqr (sqp [.k 6 (.slice none 0 0)] ?_)
 refine then_normal (wp_seq (sqr ?_))
 refine sqn1 (fun x_=>pbx x_) (fun M55_37=> .map (some M55_37)) (fun M55_37=>eMx kcI pgX Tryz.prog 3 M55_37 0 (fun _=>none)) hst32 (by
   refine svA fun ρ β W X cx=>?_
   exact dv_makeMx rfl rfl rfl rfl (fun σ β' X' hs hb hv hx=>⟨hv,hx⟩)) fun M55_37 W37 hst37=>?_
 refine sqn1 (fun x_=>pbx x_) (fun M56_38=> .map (some M56_38)) (fun M56_38=>eMx kcI pgX Tryz.prog 3 M56_38 0 (fun _=>none)) hst37 (by
   refine svA fun ρ β W X cx=>?_
   exact dv_makeMx rfl rfl rfl rfl (fun σ β' X' hs hb hv hx=>⟨hv,hx⟩)) fun M56_38 W38 hst38=>?_
 refine sqp [.m 7 55, .m 8 56] ?_
 refine then_normal (wp_seq (wp_seq (sqr (sqp [.k 57 (.pointer (some ⟨B3_2,5,none⟩))] ?_))))
 refine sqld 2 hst38 ?_
 refine sqp [.k 59 (vi ((r.eds.length:Int))), .k 60 (vi 0)] ?_
 refine then_normal (wp_block ?_)
 have hn45:=St.nilrow hst38 3
 simp only [List.cons_append,List.nil_append] at hn45
 refine wp_loopT (fun t_ mz az W=>∃ j:Nat,∃ os:List Int,∃ m:Nat,∃ OA:Option Addr,∃ oc:Nat,∃ Sj:StM,∃ fpj:List Nat,∃ mW:Int→Option PgV,∃ nW:Nat,∃ mN:Int→Option PgV,∃ nN:Nat,j≤r.eds.length∧os=ordF (r.eds.take j)∧m=os.length∧Ev S Sj∧SOk Sj (c+3*j)∧(⟨r,A50_26,c50_26⟩:RcT)∈Sj.rr∧errF (curF S) (r.eds.take j)=0∧DoI (curF S) (nowF (curF S) (r.eds.take j)) (lsnF S r) os mW mN Sj.rows none∧nW≤j∧nN≤2*j∧mz=r.eds.length - j∧az=⟨(ovr (jv az) [(4,4,2,[.slice OA m oc]),(3,10,7,[]),(43,60,0,[vi ((j:Int))]),(0,61,51,[])] t_).toArray,[]⟩∧St w fp [eB B2_1 31 #[vp sb],eB B3_2 27 #[vi r.kind,vi r.xid,vi r.tbl, .slice none 0 0, .slice none 0 0, .slice A50_26 r.eds.length c50_26, .slice none 0 0, .string r.note],eMx kcI pgX Tryz.prog 3 M55_37 nW (mW),eMx kcI pgX Tryz.prog 3 M56_38 nN (mN),eO 3 1 (.slice OA m oc) m (os.map (Value.int .i64)),eSt sb db Sj fpj] W) (r.eds.length - 0) ?_ ?_
 · -- the loop begins
   exact ⟨0,[],0,none,0,S0,fp28_,(fun _=>none),0,(fun _=>none),0,Nat.zero_le _,rfl,rfl,hev0,hok0,hrt0,rfl,DoI.init _ _ _,Nat.zero_le _,Nat.zero_le _,rfl,(by kernel_rfl),hn45.pk [1,2,3,4,5,0]⟩
 rintro n46 a46 W46 ⟨j,os,m,OA,oc,Sj,fpj,mW,nW,mN,nN,hj,hos,hm,hevj,hokj,hrtj,herr,hIj,hnW,hnN,rfl,hj_,hst46⟩
 refine ovz hj_ fun u46_=>?_
 refine wp_seq (sqr (sqp [.k 61 (.bool (decide ((j:Int) < (r.eds.length:Int))))] ?_))
 refine then_normal (wp_seq (wds (fun hs48 hs48p=>?_) fun hs48 hs48p=>?_))
 ·refine wp_skip (then_normal (wp_seq (wp_block (wp_seq ?_))))
  have hmj:m≤j:=by rw [hm,hos]; have h1:=ord_len (r.eds.take j); rw [List.length_take] at h1; omega
  have hjl:j < r.eds.length:=by omega
  obtain ⟨ep,es,eb,hek⟩:=getEdT (l:=r.eds) (k:=j) (by omega)
  have hke:edR (ep,es,eb)=true:=hro.eds _ (List.mem_of_getElem? hek)
  have hez:eb.size≤9223372036854775807:=by have:=edR_item hke; dsimp only at this; omega
  have hkn:kcI.ok ep:=by have:=(edR_bd hke).1; dsimp only at this; constructor<;>omega
  have hpr:0≤ep∧ep < (S.D.pgs.length:Int):=out_in hin (List.mem_of_getElem? hek)
  refine sqr ?_
  refine sql (.pointer (some ((ad A50_26).add (j*3)))) hst46 (fun cx=>run_indexSlM (e:=84) (m:=j) (sz:=3) rfl (by kernel_rfl) (by kernel_rfl) (cx.ou 58) (cx.ou 60) (by omega) (by omega) (show At _ _ (r.eds.flatMap edC) from eSt_own (CtxV.holdF cx (cx.init 5 _ rfl) rfl) hrtj) (flatPos (sz:=3) edC_len (by decide) (by omega))) ?_
  refine sql (.agg #[vi ep,vi es, .string eb]) hst46 (fun cx=>run_loadElt (f:=edC) (m:=j) (sz:=3) (off:=0) (n:=3) rfl (by kernel_rfl) (by kernel_rfl) (cx.ou 62) rfl edC_len (show At _ _ (r.eds.flatMap edC) from eSt_own (CtxV.holdF cx (cx.init 5 _ rfl) rfl) hrtj) hek (fun k hk=>match k,hk with | 0, _=>rfl | 1, _=>rfl | 2, _=>rfl | k+3,hk=>absurd hk (by omega))) ?_
  refine sqal #[vi 0,vi 0, .string ByteArray.empty] hst46 fun B10_51 W51 hst51=>?_
  refine sqst (n:=3) 6 #[vi ep,vi es, .string eb] hst51 fun W52 hst52=>?_
  refine then_normal ?_
  refine wp_cutT (fun t_ az W=>∃ mW2:Int→Option PgV,∃ nW2:Nat,∃ mN2:Int→Option PgV,∃ nN2:Nat,∃ os2:List Int,∃ m2:Nat,∃ OA2:Option Addr,∃ oc2:Nat,∃ S2:StM,∃ fp2:List Nat,os2=ordS os (ep,es,eb)∧m2=os2.length∧Ev S S2∧SOk S2 (c+3*j+3)∧(⟨r,A50_26,c50_26⟩:RcT)∈S2.rr∧DoI (curF S) (nowF (curF S) (r.eds.take j)) (lsnF S r) os2 mW2 mN2 S2.rows (some ep)∧nW2≤j+1∧nN2≤2*j+1∧az=⟨(ovr (jv az) [(4,4,2,[.slice OA2 m2 oc2]),(4,11,4,[]),(49,64,31,[])] t_).toArray,[]⟩∧St w fp [eB B2_1 31 #[vp sb],eB B3_2 27 #[vi r.kind,vi r.xid,vi r.tbl, .slice none 0 0, .slice none 0 0, .slice A50_26 r.eds.length c50_26, .slice none 0 0, .string r.note],eB B10_51 84 #[vi ep,vi es, .string eb],eMx kcI pgX Tryz.prog 3 M55_37 nW2 (mW2),eMx kcI pgX Tryz.prog 3 M56_38 nN2 (mN2),eO 3 1 (.slice OA2 m2 oc2) m2 (os2.map (Value.int .i64)),eSt sb db S2 fp2] W) ?_ ?_
  ·refine wp_seq (sqr (sqp [.m 65 7, .k 66 (vp B10_51)] ?_))
   refine sqld 6 hst52 ?_
   refine sql (.tuple #[.agg #[vi (((mW ep).getD ((0:Int),(0:Int),(none:Option Addr),(0:Nat),(0:Nat))).1),vi (((mW ep).getD ((0:Int),(0:Int),(none:Option Addr),(0:Nat),(0:Nat))).2.1), .slice (((mW ep).getD ((0:Int),(0:Int),(none:Option Addr),(0:Nat),(0:Nat))).2.2.1) (((mW ep).getD ((0:Int),(0:Int),(none:Option Addr),(0:Nat),(0:Nat))).2.2.2.1) (((mW ep).getD ((0:Int),(0:Int),(none:Option Addr),(0:Nat),(0:Nat))).2.2.2.2)], .bool ((mW ep).isSome)]) hst52 (fun cx=>run_lookOkMx (e:=48) (C:=pgX) (K:=kcI) (x:=ep) rfl (cx.ou 65) (cx.ou 67) (CtxV.mx cx (cx.init 2 _ rfl) rfl) (h0:=(by rfl)) (hx:=hkn) (hk:=show Program.underlying _ _= _ from by kernel_rfl)) ?_
   refine sqp [.m 64 68, .k 69 (.agg #[vi (((mW ep).getD ((0:Int),(0:Int),(none:Option Addr),(0:Nat),(0:Nat))).1),vi (((mW ep).getD ((0:Int),(0:Int),(none:Option Addr),(0:Nat),(0:Nat))).2.1), .slice (((mW ep).getD ((0:Int),(0:Int),(none:Option Addr),(0:Nat),(0:Nat))).2.2.1) (((mW ep).getD ((0:Int),(0:Int),(none:Option Addr),(0:Nat),(0:Nat))).2.2.2.1) (((mW ep).getD ((0:Int),(0:Int),(none:Option Addr),(0:Nat),(0:Nat))).2.2.2.2)]), .k 70 (.bool ((mW ep).isSome))] ?_
   refine sqal #[vi 0,vi 0, .slice none 0 0] hst52 fun B11_61 W61 hst61=>?_
   refine sqst (n:=3) 7 #[vi (((mW ep).getD ((0:Int),(0:Int),(none:Option Addr),(0:Nat),(0:Nat))).1),vi (((mW ep).getD ((0:Int),(0:Int),(none:Option Addr),(0:Nat),(0:Nat))).2.1), .slice (((mW ep).getD ((0:Int),(0:Int),(none:Option Addr),(0:Nat),(0:Nat))).2.2.1) (((mW ep).getD ((0:Int),(0:Int),(none:Option Addr),(0:Nat),(0:Nat))).2.2.2.1) (((mW ep).getD ((0:Int),(0:Int),(none:Option Addr),(0:Nat),(0:Nat))).2.2.2.2)] hst61 fun W62 hst62=>?_
   refine sqp [.m 12 70] ?_
   refine then_normal (wp_seq (sqr (sqp [.m 71 12, .k 72 (.bool (!((mW ep).isSome)))] ?_)))
   refine then_normal ?_
   rcases Bool.eq_false_or_eq_true ((mW ep).isSome) with hs66 | hs66
   ·refine wp_cond_false (show Act.eval _ _= .bool false from (congrArg Value.bool (by rw [hs66]; rfl))) (wp_skip (then_normal ?_))
    exact ⟨mW,nW,mN,nN,os,m,OA,oc,Sj,fpj,(ordS_mem (e:=(ep,es,eb)) (hIj.mem.1 (by have h_:=hs66; simpa using h_))).symm,hm,hevj,hokj.mono (by omega),hrtj,(ordS_mem (e:=(ep,es,eb)) (hIj.mem.1 (by have h_:=hs66; simpa using h_))) ▸ hIj.old (ep,es,eb) (by have h_:=hs66; simpa using h_),by omega,by omega,(by kernel_rfl),hst62.pk [0,1,6,2,3,4,5]⟩
   refine wp_cond_true (show Act.eval _ _= .bool true from (congrArg Value.bool (by rw [hs66]; rfl))) (wp_seq (wp_region_Y [0,0,2,7,15,31,31,0,191,511] [[0],[],[6],[5],[],[],[],[],[10]] [[],[],[],[8,9],[],[],[],[10],[11]] [[],[],[],[5],[],[],[],[],[10]] [.c 74 (vp sb), .k 75 (vp B10_51), .c 76 (vi ep), .a 77, .a 73, .a 78, .a 79, .a 13, .n, .a 14] (fun ix σ β X=>match ix with | 0=>True | 1=>True | 2=>True | 3=>σ 77= .tuple #[.agg #[vi ((pgF Sj ep (tB1 (β 77))).1),vi ((pgF Sj ep (tB1 (β 77))).2.1), .slice (sA (tg (tg (β 77) 0) 2)) ((pgF Sj ep (tB1 (β 77))).2.2.length) (sC (tg (tg (β 77) 0) 2))], .bool (tB1 (β 77))]∧X 8=eSx sb db (fun S2=>PaQ Sj ep S2 (tB1 (β 77))) ((X 8).fp)∧X 9=eO 9 1 (.slice (sA (tg (tg (β 77) 0) 2)) ((pgF Sj ep (tB1 (β 77))).2.2.length) (sC (tg (tg (β 77) 0) 2))) ((pgF Sj ep (tB1 (β 77))).2.2.length) ((pgF Sj ep (tB1 (β 77))).2.2.map Value.string) | 4=>σ 73= .tuple #[.agg #[vi ((pgF Sj ep (tB1 (β 77))).1),vi ((pgF Sj ep (tB1 (β 77))).2.1), .slice (sA (tg (tg (β 77) 0) 2)) ((pgF Sj ep (tB1 (β 77))).2.2.length) (sC (tg (tg (β 77) 0) 2))], .bool (tB1 (β 77))] | 5=>σ 78= .agg #[vi ((pgF Sj ep (tB1 (β 77))).1),vi ((pgF Sj ep (tB1 (β 77))).2.1), .slice (sA (tg (tg (β 77) 0) 2)) ((pgF Sj ep (tB1 (β 77))).2.2.length) (sC (tg (tg (β 77) 0) 2))] | 6=>σ 79= .bool (tB1 (β 77)) | 7=>σ 13=vp (pb (β 13))∧X 10=eB (pb (β 13)) 48 #[vi 0,vi 0, .slice none 0 0] | 8=>X 11=eB (pb (β 13)) 48 #[vi ((pgF Sj ep (tB1 (β 77))).1),vi ((pgF Sj ep (tB1 (β 77))).2.1), .slice (sA (tg (tg (β 77) 0) 2)) ((pgF Sj ep (tB1 (β 77))).2.2.length) (sC (tg (tg (β 77) 0) 2))] | 9=>σ 14= .bool (tB1 (β 77)) | _=>True) [0,1,2,3,4,6,7,8,9,11] [0,2,3,4,5,6,7,8,9] [(13,7,3,15),(58,4,1,59),(0,0,4,4),(0,5,2,2)] hst62 ?_ ?_ ?_))
   ·exact fun ix _ _ _ _ _ _ hs hb hx h=>match ix,h with
    | 3,h=>by dsimp only; rw [← hs 77 rfl,← hb 77 rfl,← hx 8 rfl,← hx 9 rfl]; exact h
    | 4,h=>by dsimp only; rw [← hs 73 rfl,← hb 77 rfl]; exact h
    | 5,h=>by dsimp only; rw [← hs 78 rfl,← hb 77 rfl]; exact h
    | 6,h=>by dsimp only; rw [← hs 79 rfl,← hb 77 rfl]; exact h
    | 7,h=>by dsimp only; rw [← hs 13 rfl,← hb 13 rfl,← hx 10 rfl]; exact h
    | 8,h=>by dsimp only; rw [← hb 13 rfl,← hb 77 rfl,← hx 11 rfl]; exact h
    | 9,h=>by dsimp only; rw [← hs 14 rfl,← hb 77 rfl]; exact h
    | 0, _ | 1, _ | 2, _ | _+10, _=>trivial
   ·refine ⟨?_,?_,?_,?_,?_,?_,?_,?_,?_,trivial⟩
    ·exact xs4 rfl id fun cx=>run_load1 rfl (by kernel_rfl) (cx.ou 2) ((cx.bi 0 rfl).cell 0)
    ·exact xs4 rfl id fun cx=>run_load1 rfl (by kernel_rfl) (cx.an 1) ((cx.bi 6 rfl).cell 0)
    ·refine svA fun ρ β W X cx=>?_
     refine DoesU.call (run_callF (args:=#[vp sb,vi ep]) rfl cx.sees rfl (by kernel_rfl) (map2 (cx.an 0) (cx.an 2))) ?_
     refine (spage_any sb db Sj ep (c+3*j) _ _ (CtxV.holdF cx (cx.init 5 _ rfl) rfl) (CtxV.ltF cx (cx.init 5 _ rfl) rfl) hokj (by omega) hkn).mono ?_
     rintro e W1 ⟨ok4,A4,c4,rfl,fp4,hs4⟩
     refine ⟨_,rfl,post_obj (E:=eSt sb db Sj fpj) [eSx sb db (fun S2=>PaQ Sj ep S2 ok4) fp4,eO 9 1 (.slice A4 ((pgF Sj ep ok4).2.2.length) c4) ((pgF Sj ep ok4).2.2.length) ((pgF Sj ep ok4).2.2.map Value.string)] (cx.init 5 _ rfl) rfl rfl hs4 (fun σ β' X' hs hb hv hN=>?_)⟩
     have hv1:=(hv 77 rfl).1; have hv2:=(hv 77 rfl).2
     exact ⟨hv1.trans (by rw [hv2]; exact rfl),(by rw [hv2]; exact eSx_self ((List.cons.inj hN).1)),(by rw [hv2]; exact (List.cons.inj (List.cons.inj hN).2).1)⟩
    ·exact sv rfl rfl rfl rfl rfl _ (fun _ _ _ h=>h) (fun β β' h=>by rw [h 77 (by decide)]) fun ρ β W X cx=>run_move' rfl (dTn (cx.an 3)).1
    ·exact sv rfl rfl rfl rfl rfl _ (fun _ _ _ h=>h) (fun β β' h=>by rw [h 77 (by decide)]) fun ρ β W X cx=>run_extract' rfl (dTn (cx.an 4)) rfl
    ·exact sv rfl rfl rfl rfl rfl _ (fun _ _ _ h=>h) (fun β β' h=>by rw [h 77 (by decide)]) fun ρ β W X cx=>run_extract' rfl (dTn (cx.an 4)) rfl
    ·refine svA fun ρ β W X cx=>?_
     exact dv_alloc (cs:=#[vi 0,vi 0, .slice none 0 0]) rfl (by kernel_rfl) rfl rfl (fun σ β' X' hs hb hv hx=>⟨hv,hx⟩)
    ·refine svA fun ρ β W X cx=>?_
     exact dv_store (n:=3) rfl (dTn (cx.an 7)).1 (dTn (cx.an 5)) (by kernel_rfl) (by kernel_rfl) (by kernel_rfl) cx (dTn (cx.an 7)).2 rfl (nle rfl) (by kernel_rfl) rfl rfl rfl (fun σ β' X' hs hb hx=>by rw [hb 13,hb 77]; exact hx)
    ·exact sv rfl rfl rfl rfl rfl _ (fun _ _ _ h=>h) (fun β β' h=>by rw [h 77 (by decide)]) fun ρ β W X cx=>run_assign' rfl (dTn (cx.an 6))
   intro σ β X W67 hD hst67 fr hfr
   obtain ⟨ok77_67,hu_ok77_67⟩:∃ z,tB1 (β 77)=z:=⟨_,rfl⟩
   obtain ⟨A77_67,hu_A77_67⟩:∃ z,sA (tg (tg (β 77) 0) 2)=z:=⟨_,rfl⟩
   obtain ⟨c77_67,hu_c77_67⟩:∃ z,sC (tg (tg (β 77) 0) 2)=z:=⟨_,rfl⟩
   obtain ⟨B13_67,hu_B13_67⟩:∃ z,pb (β 13)=z:=⟨_,rfl⟩
   have xX8:X 8= _:=(dTn (hD 3 lq)).2.1
   obtain ⟨r8_67,hu_r8_67⟩:∃ z,(X 8).fp=z:=⟨_,rfl⟩
   rw [hu_r8_67] at xX8
   clear hu_r8_67
   simp only [xX8,exq 9 ((dTn (hD 3 lq)).2.2),exq 11 ((dTn (hD 8 lq))),hu_ok77_67,hu_A77_67,hu_c77_67,hu_B13_67] at hst67
   simp only [ed 77 ((dTn (hD 3 lq)).1),ed 73 ((dTn (hD 4 lq))),ed 78 ((dTn (hD 5 lq))),ed 79 ((dTn (hD 6 lq))),ed 13 ((dTn (hD 7 lq)).1),ed 14 ((dTn (hD 9 lq))),hu_ok77_67,hu_A77_67,hu_c77_67,hu_B13_67] at hfr
   clear hD xX8 hu_ok77_67 hu_A77_67 hu_c77_67 hu_B13_67; subst hfr; clear σ β X
   refine then_normal (wp_seq (wp_seq ?_))
   obtain ⟨S1,hP,hy68_⟩:=hst67.u7.unx
   have hok1:=hP.ok hokj
   have hev1:=hP.ev hokj
   have hrt1:(⟨r,A50_26,c50_26⟩:RcT)∈S1.rr:=by obtain ⟨er_,h_, _⟩:=hP; rw [h_.rr]; exact hrtj
   refine sqr (sqp [.m 80 14, .k 81 (.bool (!(ok77_67)))] ?_)
   refine then_normal ?_
   rcases Bool.eq_false_or_eq_true (ok77_67) with hs71 | hs71
   ·refine wp_cond_false (show Act.eval _ _= .bool false from (congrArg Value.bool (by rw [hs71]; rfl))) (wp_skip (then_normal (wp_seq ?_)))
    have hpc:pgF Sj ep ok77_67=curF S ep:=by rw [hs71,pgF,if_pos rfl]; exact hevj.cur ep hpr.1
    refine sqr (sqp [.m 82 6, .k 83 (vp B10_51)] ?_)
    refine sqld 6 hy68_ ?_
    refine sqn1 (fun x_=>sA x_) (fun A85_75=> .slice A85_75 1 1) (fun A85_75=>eO 3 1 (.slice A85_75 1 1) 1 ([vi ep])) hy68_ (by
      refine svA fun ρ β W X cx=>?_
      have fF84:ρ (.tmp 84)=vi ep:=(cx.ou 84)
      exact dv_lit (e:=3) (xs:=[vi ep]) rfl (by simp [go_sem,fF84]) rfl (by decide) rfl rfl (fun σ β' X' hs hb hv hx=>⟨hv,hx⟩)) fun A85_75 W75 hst75=>?_
    refine sqc2 (fun x_=>sA x_) (fun x_=>sC x_) (fun A86_76 c86_76=> .slice A86_76 (m+1) c86_76) (fun A86_76 c86_76=>eO 3 1 (.slice A86_76 (m+1) c86_76) (m+1) ((os++[ep]).map (Value.int .i64))) 5 hst75 (by
      refine svA fun ρ β W X cx=>?_
      obtain ⟨i0,hi0,hz0,hz1,hz2⟩:=info_parts Tryz.infoIntJ
      refine dv_append (n:=m) (m:=1) (nm:=m+1) (xs:=os.map (Value.int .i64)) (news:=[vi ep]) (xs':=(os++[ep]).map (Value.int .i64)) rfl (ty:=25) rfl (by kernel_rfl) hi0 hz0 hz1 hz2 rfl (cx.ou 82) cx (cx.init 5 _ rfl) rfl (cx.ou 85) (by first | (simp; done) | (simp; omega)) (At.of_own (cx.ri 10 rfl)) (by simp [Value.oneCell']) (by simp only [maxLen]; omega) (by omega) rfl rfl rfl (by omega) ((os_snoc _ _)) (fun σ β' X' hs hb hv hx=>?_)
      exact ⟨hv,hx⟩) fun A86_76 c86_76 W76 hst76=>?_
    refine sqp [.m 6 86] ?_
    refine then_normal (wp_region_Y [0,0,2,0,0,16,0,0,71,511] [[],[],[6],[],[],[6],[9],[9],[3],[4]] [[],[],[],[],[],[],[],[],[11],[12]] [[],[],[],[],[],[],[],[],[3],[4]] [.k 87 (.map (some M55_37)), .k 88 (vp B10_51), .c 89 (vi ep), .k 90 (.map (some M56_38)), .k 91 (vp B10_51), .c 92 (vi ep), .c 93 (.agg #[vi ((pgF Sj ep ok77_67).1),vi ((pgF Sj ep ok77_67).2.1), .slice A77_67 ((pgF Sj ep ok77_67).2.2.length) c77_67]), .c 94 (.agg #[vi ((pgF Sj ep ok77_67).1),vi ((pgF Sj ep ok77_67).2.1), .slice A77_67 ((pgF Sj ep ok77_67).2.2.length) c77_67]), .n, .n] (fun ix σ β X=>match ix with | 0=>True | 1=>True | 2=>True | 3=>True | 4=>True | 5=>True | 6=>True | 7=>True | 8=>X 11=eMx kcI pgX Tryz.prog 3 M55_37 ((mzP mW ep nW)) (putX mW ep (some ((pgF Sj ep ok77_67).1,(pgF Sj ep ok77_67).2.1,A77_67,(pgF Sj ep ok77_67).2.2.length,c77_67))) | 9=>X 12=eMx kcI pgX Tryz.prog 3 M56_38 ((mzP mN ep nN)) (putX mN ep (some ((pgF Sj ep ok77_67).1,(pgF Sj ep ok77_67).2.1,A77_67,(pgF Sj ep ok77_67).2.2.length,c77_67))) | _=>True) [0,1,2,5,6,7,8,9,10,11,12] [2,5,6,7,8,9] [(87,0,8,95)] hst76 ?_ ?_ ?_)
    ·exact fun ix _ _ _ _ _ _ hs hb hx h=>match ix,h with
     | 8,h=>by dsimp only; rw [← hx 11 rfl]; exact h
     | 9,h=>by dsimp only; rw [← hx 12 rfl]; exact h
     | 0, _ | 1, _ | 2, _ | 3, _ | 4, _ | 5, _ | 6, _ | 7, _ | _+10, _=>trivial
    ·refine ⟨?_,?_,?_,?_,?_,?_,trivial⟩
     ·exact xs4 rfl id fun cx=>run_load1 rfl (by kernel_rfl) (cx.an 1) ((cx.bi 6 rfl).cell 0)
     ·exact xs4 rfl id fun cx=>run_load1 rfl (by kernel_rfl) (cx.an 4) ((cx.bi 6 rfl).cell 0)
     ·exact xs4 rfl id fun cx=>run_loadB (n:=3) rfl (by kernel_rfl) (by kernel_rfl) (cx.ou 13) (cx.bi 9 rfl) (nle rfl) rfl
     ·exact xs4 rfl id fun cx=>run_loadB (n:=3) rfl (by kernel_rfl) (by kernel_rfl) (cx.ou 13) (cx.bi 9 rfl) (nle rfl) rfl
     ·refine svA fun ρ β W X cx=>?_
      exact dv_setMx (e:=48) (v:=((pgF Sj ep ok77_67).1,(pgF Sj ep ok77_67).2.1,A77_67,(pgF Sj ep ok77_67).2.2.length,c77_67)) (.inl rfl) (cx.an 0) (show ρ _=Kc.enc kcI ep from (cx.an 2)) (show ρ _=Ec.enc pgX ((pgF Sj ep ok77_67).1,(pgF Sj ep ok77_67).2.1,A77_67,(pgF Sj ep ok77_67).2.2.length,c77_67) from (cx.an 6)) cx (cx.init 3 _ rfl) rfl (trivial) (by omega) (hkn) rfl rfl rfl (fun σ β' X' hs hb hx=>hx) (hk:=show Program.underlying _ _= _ from by kernel_rfl)
     ·refine svA fun ρ β W X cx=>?_
      exact dv_setMx (e:=48) (v:=((pgF Sj ep ok77_67).1,(pgF Sj ep ok77_67).2.1,A77_67,(pgF Sj ep ok77_67).2.2.length,c77_67)) (.inl rfl) (cx.an 3) (show ρ _=Kc.enc kcI ep from (cx.an 5)) (show ρ _=Ec.enc pgX ((pgF Sj ep ok77_67).1,(pgF Sj ep ok77_67).2.1,A77_67,(pgF Sj ep ok77_67).2.2.length,c77_67) from (cx.an 7)) cx (cx.init 4 _ rfl) rfl (trivial) (by omega) (hkn) rfl rfl rfl (fun σ β' X' hs hb hx=>hx) (hk:=show Program.underlying _ _= _ from by kernel_rfl)
    intro σ β X W78 hD hst78 fr hfr
    simp only [exq 11 ((dTn (hD 8 lq))),exq 12 ((dTn (hD 9 lq)))] at hst78
    clear hD; subst hfr; clear σ β X
    refine then_normal ?_
    obtain ⟨fp79_,hg79_⟩:=St.rPf (r:=(⟨(pgF Sj ep ok77_67),A77_67,c77_67⟩:PgR)) hst78.u6
    have hnm:(ep,es,eb).1∉os:=fun hh=>by have h_:=hIj.mem.2 hh; have h2:=hs66; simp [h_] at h2
    exact ⟨putX mW ep (some ((pgF Sj ep ok77_67).1,(pgF Sj ep ok77_67).2.1,A77_67,(pgF Sj ep ok77_67).2.2.length,c77_67)),(mzP mW ep nW),putX mN ep (some ((pgF Sj ep ok77_67).1,(pgF Sj ep ok77_67).2.1,A77_67,(pgF Sj ep ok77_67).2.2.length,c77_67)),(mzP mN ep nN),(os++[ep]),m+1,A86_76,c86_76,(addR S1 (⟨(pgF Sj ep ok77_67),A77_67,c77_67⟩:PgR)),fp79_,(ordS_new hnm).symm,by rw [List.length_append,List.length_singleton]; omega,(hevj.trans hev1.1 hok.fl).trans (Ev.rows' _ _) hok.fl,hok1.rows _,hrt1,(ordS_new hnm) ▸ (hIj.mono hev1.1.rows).new (ep,es,eb) (by have h_:=hs66; simpa using h_) hpc _ _,by have:=mzP_le mW ep nW; omega,by have:=mzP_le mN ep nN; omega,(by kernel_rfl),hg79_.pk [1,2,4,8,9,3,0]⟩
   refine wp_cond_true (show Act.eval _ _= .bool true from (congrArg Value.bool (by rw [hs71]; rfl))) (wp_seq (sqr (sqp [.k 4 (vi 0), .k 5 (vi 24)] ?_)))
   refine then_normal (wp_ret (then_ret (then_ret (blk_ret (then_ret (then_ret (blk_ret (then_ret ?_))))))))
   refine bpr (.tuple #[vi 0,vi 24]) (results_2 Tryz.results17 rpt rpt) ?_
   exact DoSPost.of (.pow hda hin (hevj.trans hev1.1 hok.fl) ((hev1.2.1 hs71).elim id fun h=>absurd (by rw [hevj.len]; exact hpr) h)) (hok1.mono (by omega)) (hy68_.pick [0] (by decide) rfl)
  rintro a53 W53 ⟨mW2,nW2,mN2,nN2,os2,m2,OA2,oc2,S2,fp2,hos2,hm2,hev2,hok2,hrt2,hI2,hnW2,hnN2,hj_,hst53⟩
  refine ovz hj_ fun u53_=>?_
  refine wp_seq ?_
  have hme:ep∈os2:=by rw [hos2]; exact ordS_self os (ep,es,eb)
  obtain ⟨pg,hpm,hmN,hpi, _⟩:=hI2.n ep hme
  obtain ⟨pp,hpp⟩:∃ z,(nowF (curF S) (r.eds.take j)) ep=z:=⟨_,rfl⟩
  rw [hpp] at hmN hpi
  have hri:rightP pp:=hpp ▸ now_right (fun m=>cur_right hok m) herr ep
  refine sqr (sqp [.m 96 8, .k 97 (vp B10_51)] ?_)
  refine sqld 2 hst53 ?_
  refine sql (.agg #[vi pp.1,vi pp.2.1, .slice pg.A pp.2.2.length pg.c]) hst53 (fun cx=>(run_lookMx (e:=48) (C:=pgX) (K:=kcI) (x:=ep) rfl (cx.ou 96) (cx.ou 98) (CtxV.mx cx (cx.init 4 _ rfl) rfl) (h0:=by kernel_rfl) (hx:=hkn) (hk:=show Program.underlying _ _= _ from by kernel_rfl)).trans (by rw [hmN]; rfl)) ?_
  refine sqlb 2 3 hst53 ?_
  refine sqk2 (fun A101_87 c101_87=> .tuple #[.agg #[vi ((doR pp (ep,es,eb) 1).1),vi ((doR pp (ep,es,eb) 1).2.1), .slice A101_87 ((doR pp (ep,es,eb) 1).2.2.length) c101_87],vi ((doE pp (ep,es,eb) 1))]) (fun A101_87 c101_87=>eO 9 1 (.slice A101_87 ((doR pp (ep,es,eb) 1).2.2.length) c101_87) ((doR pp (ep,es,eb) 1).2.2.length) ((doR pp (ep,es,eb) 1).2.2.map Value.string)) hst53 (fun cx=>⟨_,(do_uni (pgdo_any pp.1 pp.2.1 _ _ pp.2.2 ep es eb 1 _ (hpi ▸ eSt_rowP (CtxV.holdF cx (cx.init 6 _ rfl) rfl) hpm) hri.1 (right_small hri.1) hez)).mono (by rintro e W1 ⟨A4,c4,rfl,ho,hx⟩; exact ⟨_, _,rfl,St.one hx (eO_new ho)⟩),(map3 (cx.ou 99) (cx.ou 100) (cx.co _))⟩) fun A101_87 c101_87 W87 hst87=>?_
  refine sqp [.m 95 101, .k 102 (.agg #[vi ((doR pp (ep,es,eb) 1).1),vi ((doR pp (ep,es,eb) 1).2.1), .slice A101_87 ((doR pp (ep,es,eb) 1).2.2.length) c101_87]), .k 103 (vi ((doE pp (ep,es,eb) 1)))] ?_
  refine sqal #[vi 0,vi 0, .slice none 0 0] hst87 fun B15_91 W91 hst91=>?_
  refine sqst (n:=3) 8 #[vi ((doR pp (ep,es,eb) 1).1),vi ((doR pp (ep,es,eb) 1).2.1), .slice A101_87 ((doR pp (ep,es,eb) 1).2.2.length) c101_87] hst91 fun W92 hst92=>?_
  refine sqp [.m 16 103] ?_
  refine then_normal (wp_seq (wp_seq (sqr (sqp [.m 104 16, .k 105 (.bool ((doE pp (ep,es,eb) 1) != 0))] ?_))))
  refine then_normal (wbs (fun hs96=>?_) fun hs96=>?_)
  ·have hs96p:=bne_iff_ne.1 hs96
   refine wp_seq (sqr (sqp [.m 106 16, .k 4 (vi 0), .m 5 106] ?_))
   refine then_normal (wp_ret (then_ret (blk_ret (then_ret (then_ret (blk_ret (then_ret ?_)))))))
   refine bpr (.tuple #[vi 0,vi ((doE pp (ep,es,eb) 1))]) (results_2 Tryz.results17 rpt rpt) ?_
   exact DoSPost.of (by have h_:=DoQ.err (S:=S) (r:=r) hda hin hev2 (by rw [err_stop hek herr (by rw [hpp]; simpa using hs96)]; rw [hpp]; simpa using hs96); rw [err_stop hek herr (by rw [hpp]; simpa using hs96),hpp] at h_; exact h_) (hok2.mono (by omega)) (hst92.pick [6] (by decide) rfl)
  have hs96p:=bne_eq_false_iff_eq.1 hs96
  refine wp_skip (then_normal ?_)
  have hd0:doE pp (ep,es,eb) 1=0:=by simpa using hs96
  have hd1:doE ((nowF (curF S) (r.eds.take j)) (ep,es,eb).1) (ep,es,eb) 1=0:=by rw [hpp]; exact hd0
  obtain ⟨fp100_,hg100_⟩:=St.rPf (r:=(⟨setL (lsnF S r) (doR pp (ep,es,eb) 1),A101_87,c101_87⟩:PgR)) hst92.u6.u7
  refine sqr (sqp [.m 107 8, .k 108 (vp B10_51)] ?_)
  refine sqld 3 hg100_ ?_
  refine sqlb 7 3 hg100_ ?_
  refine sqc (eMx kcI pgX Tryz.prog 3 M56_38 ((mzP mN2 ep nN2)) (putX mN2 ep (some ((doR pp (ep,es,eb) 1).1,(doR pp (ep,es,eb) 1).2.1,A101_87,(doR pp (ep,es,eb) 1).2.2.length,c101_87)))) 5 hg100_ (by
    refine svA fun ρ β W X cx=>?_
    exact dv_setMx (e:=48) (v:=((doR pp (ep,es,eb) 1).1,(doR pp (ep,es,eb) 1).2.1,A101_87,(doR pp (ep,es,eb) 1).2.2.length,c101_87)) (.inl rfl) (cx.ou 107) (show ρ _=Kc.enc kcI ep from (cx.ou 109)) (show ρ _=Ec.enc pgX ((doR pp (ep,es,eb) 1).1,(doR pp (ep,es,eb) 1).2.1,A101_87,(doR pp (ep,es,eb) 1).2.2.length,c101_87) from (cx.ou 110)) cx (cx.init 5 _ rfl) rfl (trivial) (by omega) (hkn) rfl rfl rfl (fun σ β' X' hs hb hx=>hx) (hk:=show Program.underlying _ _= _ from by kernel_rfl)) fun W105 hst105=>?_
  refine blk_normal (then_normal (sqr (sqp [sI 111 ((j:Int)+1) (by omega), .m 60 111] ?_)))
  refine then_normal ?_
  have hev3:Ev S (addR S2 (⟨setL (lsnF S r) (doR pp (ep,es,eb) 1),A101_87,c101_87⟩:PgR)):=hev2.trans (Ev.rows' _ _) hok.fl
  have hok3:=hok2.rows (⟨setL (lsnF S r) (doR pp (ep,es,eb) 1),A101_87,c101_87⟩:PgR)
  have hI3:DoI (curF S) (nowF (curF S) (r.eds.take (j+1))) (lsnF S r) os2 (mW2) (putX mN2 ep (some ((doR pp (ep,es,eb) 1).1,(doR pp (ep,es,eb) 1).2.1,A101_87,(doR pp (ep,es,eb) 1).2.2.length,c101_87))) (addR S2 (⟨setL (lsnF S r) (doR pp (ep,es,eb) 1),A101_87,c101_87⟩:PgR)).rows none:=by rw [take_succ_e hek,now_snoc]; exact hI2.edit hme (by rw [hpp]; exact doR_pos hd0) _ _
  refine ⟨r.eds.length - ((j+1)),by omega,?_⟩
  exact ⟨(j+1),os2,m2,OA2,oc2,(addR S2 (⟨setL (lsnF S r) (doR pp (ep,es,eb) 1),A101_87,c101_87⟩:PgR)),fp100_,mW2,nW2,putX mN2 ep (some ((doR pp (ep,es,eb) 1).1,(doR pp (ep,es,eb) 1).2.1,A101_87,(doR pp (ep,es,eb) 1).2.2.length,c101_87)),(mzP mN2 ep nN2),by omega,by rw [take_succ_e hek,ord_snoc,← hos]; exact hos2,hm2,hev3,hok3.mono (by omega),hrt2,err_step hek herr hd1,hI3,by omega,by have:=mzP_le mN2 ep nN2; omega,rfl,(by kernel_rfl),hst105.pk [1,2,4,5,6,0]⟩
 refine wp_exit (then_exit (then_exit (blk_eq (then_normal (wp_seq ?_)))))
 have hje:j=r.eds.length:=by omega
 have hI9:DoI (curF S) (nowF (curF S) r.eds) (lsnF S r) os mW mN Sj.rows none:=by have h_:=hIj; rw [hje,List.take_length] at h_; exact h_
 have hosF:os=ordF r.eds:=by rw [hos,hje,List.take_length]
 have her9:errF (curF S) r.eds=0:=by have h_:=herr; rw [hje,List.take_length] at h_; exact h_
 have hmo:m≤64:=by have h1:=ord_len r.eds; rw [hm,hosF]; omega
 have hfr:=fr_size hda.1
 have hlzj:Sj.D.log.size≤1048576:=hokj.lsz
 have hpro:∀ n∈os,0≤n∧n < (S.D.pgs.length:Int):=fun n hn=>by rw [hosF] at hn; obtain ⟨x,hx,rfl⟩:=ord_mem.1 hn; exact out_in hin hx
 refine sqr ?_
 refine sqlb 1 8 hst46 ?_
 refine sqk (.string (frameR r)) hst46 (fun cx=>⟨_,jframe_any r.kind r.xid r.tbl _ _ r.eds r.note _ (eSt_own (CtxV.holdF cx (cx.init 5 _ rfl) rfl) hrtj) (by omega) hz hns,(map1 (cx.ou 112))⟩) fun W109 hst109=>?_
 refine sqp [.k 114 (vi (((frameR r).size:Int))), .m 17 114] ?_
 refine then_normal (wp_seq (sqr (sqp [.k 18 (.slice none 0 0)] ?_)))
 refine then_normal (wp_seq (wp_seq (sqr (sqp [.m 115 6, .k 116 (vi ((m:Int))), .k 117 (vi 0)] ?_))))
 refine then_normal (wp_block ?_)
 have hn116:=nilrowN hst109 27 8
 simp only [List.cons_append,List.nil_append] at hn116
 refine wp_loopT (fun t_ mz az W=>∃ i:Nat,∃ g:Nat,∃ GA:Option Addr,∃ gc:Nat,∃ z:Int,∃ fpi:List Nat,i≤m∧g=(needF S (os.take i)).length∧z=((frameR r).size:Int)+(szF (imgsF S (os.take i)):Int)∧(0≤z∧z≤200000*((i:Int)+1))∧mz=m - i∧az=⟨(ovr (jv az) [(17,17,0,[vi z, .slice GA g gc]),(1,20,4,[]),(93,117,0,[vi ((i:Int))]),(0,118,30,[])] t_).toArray,[]⟩∧St w fp [eB B2_1 31 #[vp sb],eB B3_2 27 #[vi r.kind,vi r.xid,vi r.tbl, .slice none 0 0, .slice none 0 0, .slice A50_26 r.eds.length c50_26, .slice none 0 0, .string r.note],eMx kcI pgX Tryz.prog 3 M55_37 nW (mW),eMx kcI pgX Tryz.prog 3 M56_38 nN (mN),eO 3 1 (.slice OA m oc) m (os.map (Value.int .i64)),eO 27 8 (.slice GA g gc) g ((needF S (os.take i)).flatMap (icC S)),eSt sb db Sj fpi] W) (m - 0) ?_ ?_
 · -- the loop begins
   exact ⟨0,0,none,0,((frameR r).size:Int),fpj,Nat.zero_le _,rfl,by show _= _+((0:Nat):Int); omega,by omega,rfl,(by kernel_rfl),hn116.pk [0,1,2,3,4,6,5]⟩
 rintro n117 a117 W117 ⟨i,g,GA,gc,z,fpi,hi,hg,hz1,hz2,rfl,hj_,hst117⟩
 refine ovz hj_ fun u117_=>?_
 refine wp_seq (sqr (sqp [.k 118 (.bool (decide ((i:Int) < (m:Int))))] ?_))
 refine then_normal (wp_seq (wds (fun hs119 hs119p=>?_) fun hs119 hs119p=>?_))
 ·refine wp_skip (then_normal (wp_seq (wp_block (wp_seq ?_))))
  obtain ⟨nn,hnn⟩:∃ n,os[i]? =some n:=⟨_,List.getElem?_eq_getElem (by omega)⟩
  have hno:nn∈os:=List.mem_of_getElem? hnn
  have hpn:=hpro nn hno
  have hkn:kcI.ok nn:=by constructor<;>omega
  have htk:os.take (i+1)=os.take i++[nn]:=by rw [List.take_add_one,hnn]; rfl
  refine sqr ?_
  refine sql (.pointer (some ((ad OA).add i))) hst117 (fun cx=>run_indexSl (e:=3) (m:=i) rfl (by kernel_rfl) (by kernel_rfl) (cx.ou 115) (cx.ou 117) (by omega) (by omega) (At.of_own (cx.ri 4 rfl)) (by rw [List.length_map]; omega)) ?_
  refine sql (vi nn) hst117 (fun cx=>run_load1 rfl (by kernel_rfl) (cx.ou 119) (At.cellAd (At.of_own (cx.ri 4 rfl)) ((List.getElem?_map ..).trans (by rw [hnn]; rfl)))) ?_
  refine sqp [.m 20 120] ?_
  refine then_normal (wp_seq ?_)
  obtain ⟨⟨hrw1,hrr1⟩,mb1,RA1,rc1,EA1,ec1,ib1,tb1,fpd1,hv123_⟩:=hst117.u6.unf
  refine sqr (sqld 10 hv123_ ?_)
  refine sqp [.k 122 (vp sb), .k 123 (.pointer (some ⟨sb,6,none⟩))] ?_
  refine sqld 0 hv123_ ?_
  refine sqp [.m 125 20] ?_
  refine sql (.bool (((Sj.im nn).getD false))) hv123_ (fun cx=>run_lookMx (e:=4) (C:=ecB) (K:=kcI) (x:=nn) rfl (cx.ou 124) (cx.ou 125) (CtxV.mx cx (cx.init 7 _ rfl) rfl) (h0:=(by rfl)) (hx:=hkn) (hk:=show Program.underlying _ _= _ from by kernel_rfl)) ?_
  refine sqp [.k 127 (.bool (!(((Sj.im nn).getD false))))] ?_
  refine then_normal ?_
  rcases Bool.eq_false_or_eq_true (((Sj.im nn).getD false)) with hs131 | hs131
  ·refine wp_cond_false (show Act.eval _ _= .bool false from (congrArg Value.bool (by rw [hs131]; rfl))) (wp_skip (blk_normal (then_normal (sqr (sqp [sI 147 ((i:Int)+1) (by omega), .m 117 147] ?_)))))
   refine then_normal ?_
   obtain ⟨fp134_,hk134_⟩:=St.stf (S:=Sj) (hv123_) (hrw1) (hrr1)
   have him:(S.im nn).getD false=true:=by rw [← hevj.im]; simpa using hs131
   have hnd1:needF S (os.take (i+1))=needF S (os.take i):=by rw [htk]; exact imgs_skip S _ _ him
   rw [← hnd1] at hk134_
   refine ⟨m - ((i+1)),by omega,?_⟩
   exact ⟨(i+1),g,GA,gc,z,fp134_,by omega,by rw [hnd1]; exact hg,by rw [imgsF,hnd1]; exact hz1,by omega,rfl,(by kernel_rfl),hk134_.pk [1,2,3,4,5,6,0]⟩
  refine wp_cond_true (show Act.eval _ _= .bool true from (congrArg Value.bool (by rw [hs131]; rfl))) (wp_seq ?_)
  have him:(S.im nn).getD false=false:=by rw [← hevj.im]; simpa using hs131
  have hnd1:needF S (os.take (i+1))=needF S (os.take i)++[nn]:=by rw [htk]; exact need_add S _ _ him
  obtain ⟨pg,hpm,hmW,hpi⟩:=hI9.w nn hno
  have hri:=cur_right hok nn
  have hbz:=bytesP_size hri
  have hgi:g≤i:=by rw [hg]; have h1:=need_len S (os.take i); rw [List.length_take] at h1; omega
  have hfi:=fr_size (img_right hok hpn)
  refine sqr (sqp [.m 129 7, .m 130 20] ?_)
  refine sql (.agg #[vi ((curF S nn).1),vi ((curF S nn).2.1), .slice pg.A ((curF S nn).2.2.length) pg.c]) hv123_ (fun cx=>(run_lookMx (e:=48) (C:=pgX) (K:=kcI) (x:=nn) rfl (cx.ou 129) (cx.ou 130) (CtxV.mx cx (cx.init 12 _ rfl) rfl) (h0:=by kernel_rfl) (hx:=hkn) (hk:=show Program.underlying _ _= _ from by kernel_rfl)).trans (by rw [hmW]; rfl)) ?_
  refine sqk (.tuple #[.string (bytesP (curF S nn)),vi 0]) hv123_ (fun cx=>⟨_,pgbytes_s (says_p hri) _ _ _ (hpi ▸ rowP_at (CtxV.holdF cx (cx.init 3 _ rfl) rfl) hpm) (right_small hri.1),(map1 (cx.ou 131))⟩) fun W138 hst138=>?_
  refine sqp [.m 128 132, .k 133 (.string (bytesP (curF S nn))), .k 134 (vi 0), .m 21 133, .m 22 134] ?_
  refine then_normal (wp_seq (sqr (sqp [.m 135 20, .m 136 21, .k 137 (.agg #[vi 8,vi 0,vi nn, .slice none 0 0, .slice none 0 0, .slice none 0 0, .slice none 0 0, .string (bytesP (curF S nn))])] ?_)))
  refine sqal #[vi 0,vi 0,vi 0, .slice none 0 0, .slice none 0 0, .slice none 0 0, .slice none 0 0, .string ByteArray.empty] hst138 fun B23_147 W147 hst147=>?_
  refine sqst (n:=8) 16 #[vi 8,vi 0,vi nn, .slice none 0 0, .slice none 0 0, .slice none 0 0, .slice none 0 0, .string (bytesP (curF S nn))] hst147 fun W148 hst148=>?_
  refine then_normal (wp_seq (sqr (sqp [.m 138 18] ?_)))
  refine sqlb 16 8 hst148 ?_
  refine sqli 27 8 1 [vi 8,vi 0,vi nn, .slice none 0 0, .slice none 0 0, .slice none 0 0, .slice none 0 0, .string (bytesP (curF S nn))] hst148 (@fun ρ β W X cx=>by have fF139:ρ (.tmp 139)= .agg #[vi 8,vi 0,vi nn, .slice none 0 0, .slice none 0 0, .slice none 0 0, .slice none 0 0, .string (bytesP (curF S nn))]:=(cx.ou 139); simp [go_sem,fF139]) fun B140_151 W151 hst151=>?_
  refine sqap (g+1) ((needF S (os.take (i+1))).flatMap (icC S)) 15 hst151 Tryz.infoRecJ (fun cx=>(At.of_ownN (cx.ri 17 rfl))) (hxs:=(by rw [hnd1]; exact ic_snoc _ _ _)) fun A141_152 c141_152 W152 hst152=>?_
  refine sqp [.m 18 141] ?_
  refine then_normal (sqr (sqp [.m 142 17] ?_))
  refine sqlb 16 8 hst152 ?_
  refine sqk (.string (frameR (imgR S nn))) hst152 (fun cx=>⟨_,jframe_any 8 0 nn none 0 [] (bytesP (curF S nn)) _ (fun j u h=>by cases j<;>cases h) (by decide) (fun e he=>by cases he) (by omega),(map1 (cx.ou 143))⟩) fun W156 hst156=>?_
  refine sqp [.k 145 (vi (((frameR (imgR S nn)).size:Int))),sI 146 (z+((frameR (imgR S nn)).size:Int)) (by omega), .m 17 146] ?_
  refine blk_normal (then_normal (sqr (sqp [sI 147 ((i:Int)+1) (by omega), .m 117 147] ?_)))
  refine then_normal ?_
  obtain ⟨fp162_,hk162_⟩:=St.stf (S:=Sj) (hst156) (hrw1) (hrr1)
  refine ⟨m - ((i+1)),by omega,?_⟩
  exact ⟨(i+1),(g+1),A141_152,c141_152,(z+((frameR (imgR S nn)).size:Int)),fp162_,by omega,by rw [hnd1,List.length_append,hg]; rfl,by rw [htk,szF_snoc1 S _ _ him]; omega,by omega,rfl,(by kernel_rfl),hk162_.pk [1,2,3,4,5,6,0]⟩
 refine wp_exit (then_exit (then_exit (blk_eq (then_normal (wp_seq (wp_seq ?_))))))
 have hie:i=m:=by omega
 have hto:os.take i=os:=List.take_of_length_le (by omega)
 rw [hto] at hg hz1 hst117
 have hgm:g≤64:=by have h1:=need_len S os; omega
 have hnz:needZ S r=Sj.D.log.size+z.toNat:=by rw [needZ,← hosF,hevj.log,hz1]; omega
 obtain ⟨⟨hrw1,hrr1⟩,mb1,RA1,rc1,EA1,ec1,ib1,tb1,fpd1,hv163_⟩:=hst117.u6.unf
 refine sqr (sqld 10 hv163_ ?_)
 refine sqp [.k 149 (vp sb), .k 150 (vp sb)] ?_
 refine sqld 0 hv163_ ?_
 refine sqk (.string Sj.D.log) hv163_ (fun cx=>⟨_,klog_any db Sj.D _ (eDk_at (CtxV.holdF cx (cx.init 9 _ rfl) rfl)),(map1 (cx.ou 151))⟩) fun W168 hst168=>?_
 refine sqp [.k 153 (vi ((Sj.D.log.size:Int))), .m 154 17,sI 155 ((Sj.D.log.size:Int)+z) (by omega), .k 156 (.bool (decide (1048576 < (Sj.D.log.size:Int)+z)))] ?_
 refine then_normal (wds (fun hs173 hs173p=>?_) fun hs173 hs173p=>?_)
 ·refine wp_seq (sqr (sqp [.k 4 (vi 0), .k 5 (vi 31)] ?_))
  refine then_normal (wp_ret (then_ret ?_))
  refine bpr (.tuple #[vi 0,vi 31]) (results_2 Tryz.results17 rpt rpt) ?_
  obtain ⟨fp176_,hk176_⟩:=St.stf (S:=Sj) (hst168) (hrw1) (hrr1)
  exact DoSPost.of (.full hda hin hevj her9 (by have h_:=hs173; simp at h_; omega)) (hokj.mono (by omega)) (hk176_.pick [0] (by decide) rfl)
 refine wp_skip (then_normal (wp_seq (wp_seq ?_)))
 have hfit:needZ S r≤1048576:=by have h_:=hs173; simp at h_; omega
 obtain ⟨fp177_,hk177_⟩:=St.stf (S:=Sj) (hst168) (hrw1) (hrr1)
 refine sqr (sqp [.m 157 18, .k 158 (vi ((g:Int))), .k 159 (vi 0)] ?_)
 refine then_normal (wp_block ?_)
 refine wp_loopT (fun t_ mz az W=>∃ k:Nat,∃ Sk:StM,∃ fpk:List Nat,k≤g∧(∀ S9 er,ApI Sk ((imgsF S os).drop k) S9 er→ApI Sj (imgsF S os) S9 er)∧SOk Sk (c+200+k)∧(⟨r,A50_26,c50_26⟩:RcT)∈Sk.rr∧Sk.rows=Sj.rows∧Sk.recs.length=S.recs.length+k∧Sk.D.pgs.length=S.D.pgs.length∧mz=g - k∧az=⟨(ovr (jv az) [(4,4,2,[]),(19,25,2,[]),(132,159,0,[vi ((k:Int))]),(0,160,16,[])] t_).toArray,[]⟩∧St w fp [eB B2_1 31 #[vp sb],eB B3_2 27 #[vi r.kind,vi r.xid,vi r.tbl, .slice none 0 0, .slice none 0 0, .slice A50_26 r.eds.length c50_26, .slice none 0 0, .string r.note],eMx kcI pgX Tryz.prog 3 M55_37 nW (mW),eMx kcI pgX Tryz.prog 3 M56_38 nN (mN),eO 3 1 (.slice OA m oc) m (os.map (Value.int .i64)),eO 27 8 (.slice GA g gc) g ((needF S os).flatMap (icC S)),eSt sb db Sk fpk] W) (g - 0) ?_ ?_
 · -- the loop begins
   exact ⟨0,Sj,fp177_,Nat.zero_le _,fun S9 er h=>h,hokj.mono (by omega),hrtj,rfl,by rw [hevj.recs]; rfl,hevj.len,rfl,(by kernel_rfl),hk177_.pk [1,2,3,4,5,6,0]⟩
 rintro n181 a181 W181 ⟨k,Sk,fpk,hk,hcont,hokk,hrtk,hrowk,hreck,hpk,rfl,hj_,hst181⟩
 refine ovz hj_ fun u181_=>?_
 refine wp_seq (sqr (sqp [.k 160 (.bool (decide ((k:Int) < (g:Int))))] ?_))
 refine then_normal (wp_seq (wds (fun hs183 hs183p=>?_) fun hs183 hs183p=>?_))
 ·refine wp_skip (then_normal (wp_seq (wp_block (wp_seq ?_))))
  obtain ⟨nn,hnn⟩:∃ n,(needF S os)[k]? =some n:=⟨_,List.getElem?_eq_getElem (by omega)⟩
  have hno:nn∈os:=need_mem (List.mem_of_getElem? hnn)
  have hpn:=hpro nn hno
  have hkn:kcI.ok nn:=by constructor<;>omega
  have hdr:(imgsF S os).drop k=imgR S nn::(imgsF S os).drop (k+1):=by rw [List.drop_eq_getElem_cons (by rw [imgsF,List.length_map]; omega)]; congr 1; exact (List.getElem?_eq_some_iff.1 ((List.getElem?_map ..).trans (by rw [hnn]; rfl))).2
  have hir:=img_right hok hpn
  refine sqr ?_
  refine sql (.pointer (some ((ad GA).add (k*8)))) hst181 (fun cx=>run_indexSlM (e:=27) (m:=k) (sz:=8) rfl (by kernel_rfl) (by kernel_rfl) (cx.ou 157) (cx.ou 159) (by omega) (by omega) (At.of_ownN (cx.ri 5 rfl)) (flatPos (sz:=8) (icC_len S) (by decide) (by omega))) ?_
  refine sql (.agg #[vi 8,vi 0,vi nn, .slice none 0 0, .slice none 0 0, .slice none 0 0, .slice none 0 0, .string ((bytesP (curF S nn)))]) hst181 (fun cx=>run_loadElt (f:=(icC S)) (m:=k) (sz:=8) (off:=0) (n:=8) rfl (by kernel_rfl) (by kernel_rfl) (cx.ou 161) rfl (icC_len S) (At.of_ownN (cx.ri 5 rfl)) hnn (fun k hk=>match k,hk with | 0, _=>rfl | 1, _=>rfl | 2, _=>rfl | 3, _=>rfl | 4, _=>rfl | 5, _=>rfl | 6, _=>rfl | 7, _=>rfl | k+8,hk=>absurd hk (by omega))) ?_
  refine sqal #[vi 0,vi 0,vi 0, .slice none 0 0, .slice none 0 0, .slice none 0 0, .slice none 0 0, .string ByteArray.empty] hst181 fun B25_186 W186 hst186=>?_
  refine sqst (n:=8) 7 #[vi 8,vi 0,vi nn, .slice none 0 0, .slice none 0 0, .slice none 0 0, .slice none 0 0, .string ((bytesP (curF S nn)))] hst186 fun W187 hst187=>?_
  refine then_normal (wp_seq (wp_seq ?_))
  have hn188:=nilrowN hst187 84 3
  simp only [List.cons_append,List.nil_append] at hn188
  obtain ⟨Sq,fp189_,hSq,hg189_⟩:=St.rRn (r:=(rcI (imgR S nn))) hn188.u6.u8
  have hokq:SOk Sq (c+200+k):=hSq ▸ hokk.rr _
  have hrtq:rcI (imgR S nn)∈Sq.rr:=by rw [← hSq]; exact List.mem_append_right _ (List.mem_singleton.2 rfl)
  refine sqr (sqld 1 hg189_ ?_)
  refine sqlb 7 8 hg189_ ?_
  refine sqc0s (fun X_=>X_.fp) (vi ((appF Sq (rcI (imgR S nn))).2)) (fun r8_192=>eSt sb db ((appF Sq (rcI (imgR S nn))).1) r8_192) 0 hg189_ (by
    refine svA fun ρ β W X cx=>?_
    refine DoesU.call (run_callF (args:=#[vp sb, .agg #[vi 8,vi 0,vi nn, .slice none 0 0, .slice none 0 0, .slice none 0 0, .slice none 0 0, .string ((bytesP (curF S nn)))]]) rfl cx.sees rfl (by kernel_rfl) (map2 (cx.ou 163) (cx.ou 164))) ?_
    refine (sappend_any sb db Sq (rcI (imgR S nn)) (c+200+k) _ _ (CtxV.holdF cx (cx.init 0 _ rfl) rfl) (CtxV.ltF cx (cx.init 0 _ rfl) rfl) hokq hir hrtq).mono ?_
    rintro e W1 ⟨rfl,fp4,hs4⟩
    refine ⟨_,rfl,post_obj (E:=eSt sb db Sq fp189_) [eSt sb db (appF Sq (rcI (imgR S nn))).1 fp4] (cx.init 0 _ rfl) rfl rfl hs4 (fun σ β' X' hs hb hv hN=>?_)⟩
    have hv1:=(hv 165 rfl).1; have hv2:=(hv 165 rfl).2
    exact ⟨hv1.trans rfl,eSt_self ((List.cons.inj hN).1)⟩) fun r8_192 W192 hst192=>?_
  refine sqp [.m 26 165] ?_
  refine then_normal (wp_seq (sqr (sqp [.m 166 26, .k 167 (.bool (((appF Sq (rcI (imgR S nn))).2) != 0))] ?_)))
  refine then_normal (wbs (fun hs196=>?_) fun hs196=>?_)
  ·have hs196p:=bne_iff_ne.1 hs196
   refine wp_seq (sqr (sqp [.m 168 26, .k 4 (vi 0), .m 5 168] ?_))
   refine then_normal (wp_ret (then_ret (blk_ret (then_ret (then_ret (blk_ret (then_ret ?_)))))))
   refine bpr (.tuple #[vi 0,vi ((appF Sq (rcI (imgR S nn))).2)]) (results_2 Tryz.results17 rpt rpt) ?_
   exact DoSPost.of (.img hda hin hevj ⟨_,hokj⟩ her9 hfit (by rw [← hosF]; refine hcont _ _ ?_; rw [hdr]; have h_:=ApI.bad (S:=Sk) (l:=(imgsF S os).drop (k+1)) (Sk.rr++[rcI (imgR S nn)]) (by rw [hSq]; simpa using hs196); rw [hSq] at h_; exact h_) (by simpa using hs196)) ((hokq.append hir).mono (by omega)) (hst192.pick [0] (by decide) rfl)
  have hs196p:=bne_eq_false_iff_eq.1 hs196
  refine wp_skip (then_normal ?_)
  have he0:(appF Sq (rcI (imgR S nn))).2=0:=by simpa using hs196
  obtain ⟨S3,hS3⟩:∃ z,(appF Sq (rcI (imgR S nn))).1=z:=⟨_,rfl⟩
  rw [hS3] at hst192
  have hok3:SOk S3 (c+200+k):=hS3 ▸ hokq.append hir
  have hni3:=hok3.ni
  obtain ⟨⟨hrw3,hrr3⟩,mb3,RA3,rc3,EA3,ec3,ib3,tb3,fpd3,hv200_⟩:=hst192.unf
  refine wp_region_Y [0,1,3,7,0,16,63] [[10],[],[],[0],[],[16],[7]] [[],[],[],[],[],[],[17]] [[],[],[],[],[],[],[7]] [.c 169 (vp sb), .k 170 (vp sb), .k 171 (.pointer (some ⟨sb,6,none⟩)), .c 172 (.map (some ib3)), .k 173 (.pointer (some ⟨B25_186,2,none⟩)), .c 174 (vi nn), .n] (fun ix σ β X=>match ix with | 0=>True | 1=>True | 2=>True | 3=>True | 4=>True | 5=>True | 6=>X 17=eMx kcI ecB Tryz.prog 3 ib3 ((mzP S3.im nn S3.ni)) (putX S3.im nn (some true)) | _=>True) [0,1,2,3,4,5,6,8,9,10,11,12,13,14,15,16,17] [0,3,5,6] [(169,0,6,175)] hv200_ ?_ ?_ ?_
  ·exact fun ix _ _ _ _ _ _ hs hb hx h=>match ix,h with
   | 6,h=>by dsimp only; rw [← hx 17 rfl]; exact h
   | 0, _ | 1, _ | 2, _ | 3, _ | 4, _ | 5, _ | _+7, _=>trivial
  ·refine ⟨?_,?_,?_,?_,trivial⟩
   ·exact xs4 rfl id fun cx=>run_load1 rfl (by kernel_rfl) (cx.ou 2) ((cx.bi 10 rfl).cell 0)
   ·exact xs4 rfl id fun cx=>run_load1 rfl (by kernel_rfl) (cx.an 2) ((cx.bi 0 rfl).cell 6)
   ·exact xs4 rfl id fun cx=>run_load1 rfl (by kernel_rfl) (cx.an 4) ((cx.bi 16 rfl).cell 2)
   ·refine svA fun ρ β W X cx=>?_
    exact dv_setMx (e:=4) (v:=true) (.inl rfl) (cx.an 3) (show ρ _=Kc.enc kcI nn from (cx.an 5)) (show ρ _=Ec.enc ecB true from (cx.co _)) cx (cx.init 7 _ rfl) rfl (trivial) (by omega) (hkn) rfl rfl rfl (fun σ β' X' hs hb hx=>hx) (hk:=show Program.underlying _ _= _ from by kernel_rfl)
  intro σ β X W201 hD hst201 fr hfr
  simp only [exq 17 ((dTn (hD 6 lq)))] at hst201
  clear hD; subst hfr; clear σ β X
  refine blk_normal (then_normal (sqr (sqp [sI 175 ((k:Int)+1) (by omega), .m 159 175] ?_)))
  refine then_normal ?_
  obtain ⟨fp204_,hk204_⟩:=St.stf (S:=(imS S3 nn)) (hst201.u16.u7.u7.u7.u7.u7.u7.u7) (hrw3) (hrr3)
  refine ⟨g - ((k+1)),by omega,?_⟩
  exact ⟨(k+1),(imS S3 nn),fp204_,by omega,fun S9 er h=>hcont S9 er (by rw [hdr]; exact ApI.cons (Sk.rr++[rcI (imgR S nn)]) (by rw [hSq]; exact he0) (by rw [hSq,hS3]; exact h)),(hok3.im nn).mono (by omega),by show _∈S3.rr; rw [← hS3,(appF_keep _ _).2.1,← hSq]; exact List.mem_append_left _ hrtk,by show S3.rows= _; rw [← hS3,(appF_keep _ _).1,← hSq]; exact hrowk,by show S3.recs.length= _; rw [← hS3,appF_recs he0,List.length_append,← hSq]; show Sk.recs.length+1= _; omega,by show S3.D.pgs.length= _; rw [← hS3,(appF_keep _ _).2.2.2.2.2.1,← hSq]; exact hpk,rfl,(by kernel_rfl),hk204_.pk [1,2,3,4,5,6,0]⟩
 refine wp_exit (then_exit (then_exit (blk_eq (then_normal (wp_seq (wp_seq ?_))))))
 have hai:ApI Sj (imgsF S os) Sk 0:=hcont _ _ (by rw [List.drop_of_length_le (by rw [imgsF,List.length_map]; omega)]; exact ApI.nil _)
 refine sqr (sqld 0 hst181 ?_)
 refine sqlb 1 8 hst181 ?_
 refine sqc0s (fun X_=>X_.fp) (vi ((appF Sk (⟨r,A50_26,c50_26⟩:RcT)).2)) (fun r7_207=>eSt sb db ((appF Sk (⟨r,A50_26,c50_26⟩:RcT)).1) r7_207) 6 hst181 (by
   refine svA fun ρ β W X cx=>?_
   refine DoesU.call (run_callF (args:=#[vp sb, .agg #[vi r.kind,vi r.xid,vi r.tbl, .slice none 0 0, .slice none 0 0, .slice A50_26 r.eds.length c50_26, .slice none 0 0, .string r.note]]) rfl cx.sees rfl (by kernel_rfl) (map2 (cx.ou 176) (cx.ou 177))) ?_
   refine (sappend_any sb db Sk (⟨r,A50_26,c50_26⟩:RcT) (c+200+k) _ _ (CtxV.holdF cx (cx.init 6 _ rfl) rfl) (CtxV.ltF cx (cx.init 6 _ rfl) rfl) hokk hda.1 hrtk).mono ?_
   rintro e W1 ⟨rfl,fp4,hs4⟩
   refine ⟨_,rfl,post_obj (E:=eSt sb db Sk fpk) [eSt sb db (appF Sk (⟨r,A50_26,c50_26⟩:RcT)).1 fp4] (cx.init 6 _ rfl) rfl rfl hs4 (fun σ β' X' hs hb hv hN=>?_)⟩
   have hv1:=(hv 178 rfl).1; have hv2:=(hv 178 rfl).2
   exact ⟨hv1.trans rfl,eSt_self ((List.cons.inj hN).1)⟩) fun r7_207 W207 hst207=>?_
 refine sqp [.m 27 178] ?_
 refine then_normal (wp_seq (sqr (sqp [.m 179 27, .k 180 (.bool (((appF Sk (⟨r,A50_26,c50_26⟩:RcT)).2) != 0))] ?_)))
 refine then_normal (wbs (fun hs211=>?_) fun hs211=>?_)
 ·have hs211p:=bne_iff_ne.1 hs211
  refine wp_seq (sqr (sqp [.m 181 27, .k 4 (vi 0), .m 5 181] ?_))
  refine then_normal (wp_ret (then_ret ?_))
  refine bpr (.tuple #[vi 0,vi ((appF Sk (⟨r,A50_26,c50_26⟩:RcT)).2)]) (results_2 Tryz.results17 rpt rpt) ?_
  exact DoSPost.of (.app (rt:=(⟨r,A50_26,c50_26⟩:RcT)) hda hin hevj ⟨_,hokj⟩ her9 hfit (by rw [← hosF]; exact hai) rfl (by simpa using hs211)) ((hokk.append hda.1).mono (by omega)) (hst207.pick [6] (by decide) rfl)
 have hs211p:=bne_eq_false_iff_eq.1 hs211
 refine wp_skip (then_normal (wp_seq (wp_seq ?_)))
 have he5:(appF Sk (⟨r,A50_26,c50_26⟩:RcT)).2=0:=by simpa using hs211
 obtain ⟨S5,hS5⟩:∃ z,(appF Sk (⟨r,A50_26,c50_26⟩:RcT)).1=z:=⟨_,rfl⟩
 rw [hS5] at hst207
 have hok5:SOk S5 (c+300):=hS5 ▸ ((hokk.append hda.1).mono (by omega))
 have hlsn:(S5.recs.length:Int)=(lsnF S r):=by rw [← hS5,appF_recs he5,List.length_append,hreck,lsnF,← hosF]; simp only [List.length_singleton]; omega
 have hrow5:S5.rows=Sj.rows:=by rw [← hS5,(appF_keep _ _).1]; exact hrowk
 refine sqr (sqp [.m 182 6, .k 183 (vi ((m:Int))), .k 184 (vi 0)] ?_)
 refine then_normal (wp_block ?_)
 refine wp_loopT (fun t_ mz az W=>∃ ii:Nat,∃ Sl:StM,∃ fpl:List Nat,ii≤m∧(∀ S9 er,PuA (curF S) (nowF (curF S) r.eds) (lsnF S r) Sl (os.drop ii) S9 er→PuA (curF S) (nowF (curF S) r.eds) (lsnF S r) S5 os S9 er)∧SOk Sl (c+300+4*ii)∧Sl.recs=S5.recs∧(∀ p∈Sj.rows,p∈Sl.rows)∧mz=m - ii∧az=⟨(ovr (jv az) [(4,4,2,[]),(23,29,3,[]),(152,184,0,[vi ((ii:Int))]),(0,185,35,[])] t_).toArray,[]⟩∧St w fp [eB B2_1 31 #[vp sb],eMx kcI pgX Tryz.prog 3 M55_37 nW (mW),eMx kcI pgX Tryz.prog 3 M56_38 nN (mN),eO 3 1 (.slice OA m oc) m (os.map (Value.int .i64)),eSt sb db Sl fpl] W) (m - 0) ?_ ?_
 · -- the loop begins
   exact ⟨0,S5,r7_207,Nat.zero_le _,fun S9 er h=>h,hok5.mono (by omega),rfl,fun p hp=>by rw [hrow5]; exact hp,rfl,(by kernel_rfl),hst207.pk [0,2,3,4,6]⟩
 rintro n218 a218 W218 ⟨ii,Sl,fpl,hii,hcon4,hokl,hrecl,hrowl,rfl,hj_,hst218⟩
 refine ovz hj_ fun u218_=>?_
 refine wp_seq (sqr (sqp [.k 185 (.bool (decide ((ii:Int) < (m:Int))))] ?_))
 refine then_normal (wp_seq (wds (fun hs220 hs220p=>?_) fun hs220 hs220p=>?_))
 ·refine wp_skip (then_normal (wp_seq (wp_block (wp_seq ?_))))
  obtain ⟨nn,hnn⟩:∃ n,os[ii]? =some n:=⟨_,List.getElem?_eq_getElem (by omega)⟩
  have hno:nn∈os:=List.mem_of_getElem? hnn
  have hpn:=hpro nn hno
  have hkn:kcI.ok nn:=by constructor<;>omega
  have htk:os.take (ii+1)=os.take ii++[nn]:=by rw [List.take_add_one,hnn]; rfl
  obtain ⟨pg,hpm,hmN,hpi,hps⟩:=hI9.n nn hno
  obtain ⟨pgw,hpmw,hmW,hpiw⟩:=hI9.w nn hno
  have hdr:os.drop ii=nn::os.drop (ii+1):=by rw [List.drop_eq_getElem_cons (by omega)]; congr 1; exact (List.getElem?_eq_some_iff.1 hnn).2
  have hlsl:(Sl.recs.length:Int)=(lsnF S r):=by rw [hrecl]; exact hlsn
  have hgl:(⟨(((nowF (curF S) r.eds) nn).1,(Sl.recs.length:Int),((nowF (curF S) r.eds) nn).2.2),pg.A,pg.c⟩:PgR)∈Sj.rows:=by rw [hlsl]; have h_:=hps (by simp); obtain ⟨p1,p2,p3⟩:=pg; dsimp only at h_; subst h_; exact hpm
  refine sqr ?_
  refine sql (.pointer (some ((ad OA).add ii))) hst218 (fun cx=>run_indexSl (e:=3) (m:=ii) rfl (by kernel_rfl) (by kernel_rfl) (cx.ou 182) (cx.ou 184) (by omega) (by omega) (At.of_own (cx.ri 3 rfl)) (by rw [List.length_map]; omega)) ?_
  refine sql (vi nn) hst218 (fun cx=>run_load1 rfl (by kernel_rfl) (cx.ou 186) (At.cellAd (At.of_own (cx.ri 3 rfl)) ((List.getElem?_map ..).trans (by rw [hnn]; rfl)))) ?_
  refine sqp [.m 29 187] ?_
  refine then_normal (wp_seq (sqr (sqp [.m 188 8, .m 189 29] ?_)))
  refine sql (.agg #[vi (((nowF (curF S) r.eds) nn).1),vi (((nowF (curF S) r.eds) nn).2.1), .slice pg.A (((nowF (curF S) r.eds) nn).2.2.length) pg.c]) hst218 (fun cx=>(run_lookMx (e:=48) (C:=pgX) (K:=kcI) (x:=nn) rfl (cx.ou 188) (cx.ou 189) (CtxV.mx cx (cx.init 2 _ rfl) rfl) (h0:=by kernel_rfl) (hx:=hkn) (hk:=show Program.underlying _ _= _ from by kernel_rfl)).trans (by rw [hmN]; rfl)) ?_
  refine sqal #[vi 0,vi 0, .slice none 0 0] hst218 fun B30_227 W227 hst227=>?_
  refine sqst (n:=3) 5 #[vi (((nowF (curF S) r.eds) nn).1),vi (((nowF (curF S) r.eds) nn).2.1), .slice pg.A (((nowF (curF S) r.eds) nn).2.2.length) pg.c] hst227 fun W228 hst228=>?_
  refine then_normal (wp_seq ?_)
  obtain ⟨⟨hrw4,hrr4⟩,mb4,RA4,rc4,EA4,ec4,ib4,tb4,fpd4,hv229_⟩:=hst228.u4.unf
  have hntl:=hokl.nt
  refine sqr (sqld 10 hv229_ ?_)
  refine sqp [.k 192 (vp sb), .k 193 (.pointer (some ⟨sb,4,none⟩))] ?_
  refine sqld 0 hv229_ ?_
  refine sqp [.k 195 (vi ((Sl.recs.length:Int))), .k 196 (.pointer (some ⟨B30_227,1,none⟩))] ?_
  refine sqst (n:=1) 14 #[vi (((nowF (curF S) r.eds) nn).1),vi ((Sl.recs.length:Int)), .slice pg.A (((nowF (curF S) r.eds) nn).2.2.length) pg.c] hv229_ fun W236 hst236=>?_
  refine then_normal (wp_seq (wp_seq (sqr (sqp [.m 197 7, .m 198 29] ?_))))
  refine sql (.agg #[vi ((curF S nn).1),vi ((curF S nn).2.1), .slice pgw.A ((curF S nn).2.2.length) pgw.c]) hst236 (fun cx=>(run_lookMx (e:=48) (C:=pgX) (K:=kcI) (x:=nn) rfl (cx.ou 197) (cx.ou 198) (CtxV.mx cx (cx.init 11 _ rfl) rfl) (h0:=by kernel_rfl) (hx:=hkn) (hk:=show Program.underlying _ _= _ from by kernel_rfl)).trans (by rw [hmW]; rfl)) ?_
  refine sql (vi ((curF S nn).1)) hst236 (fun cx=>run_fieldV rfl (cx.ou 199) (fun _=>by kernel_rfl)) ?_
  refine sqp [.k 201 (.bool (((curF S nn).1) != 0)), .m 202 201] ?_
  refine sqw' 202 [203,204,205] ?_ rfl (fun hq=>?_) ?_
  rotate_left
  ·refine sqp [.k 203 (vp B30_227)] ?_
   refine sqld 14 hst236 ?_
   refine sqp [.k 205 (.bool ((((nowF (curF S) r.eds) nn).1)==0))] ?_
   exact sqe
  refine sqwx ?_
  refine sqp [sPa 206 (((curF S nn).1) != 0) ((((nowF (curF S) r.eds) nn).1)==0)] ?_
  refine then_normal (wbs (fun hs247=>?_) fun hs247=>?_)
  ·have hs247p:=hs247
   simp only [zB] at hs247p
   obtain ⟨hs247p1,hs247p2⟩:=hs247p
   refine sqr (sqld 10 hst236 ?_)
   refine sqp [.k 208 (vp sb), .k 209 (.pointer (some ⟨sb,7,none⟩))] ?_
   refine sqld 0 hst236 ?_
   refine sqp [.m 211 29] ?_
   refine sqc (eMx kcI ecB Tryz.prog 3 tb4 ((mzP Sl.told nn Sl.nt)) (putX Sl.told nn (some false))) 8 hst236 (by
     refine svA fun ρ β W X cx=>?_
     exact dv_setMx (e:=4) (v:=false) (.inl rfl) (cx.ou 210) (show ρ _=Kc.enc kcI nn from (cx.ou 211)) (show ρ _=Ec.enc ecB false from (cx.co _)) cx (cx.init 8 _ rfl) rfl (trivial) (by omega) (hkn) rfl rfl rfl (fun σ β' X' hs hb hx=>hx) (hk:=show Program.underlying _ _= _ from by kernel_rfl)) fun W253 hst253=>?_
   refine then_normal (wp_seq ?_)
   obtain ⟨fp254_,hk254_⟩:=St.stf (S:=(toldS Sl nn false)) (hst253) (hrw4) (hrr4)
   obtain ⟨Sx,hSx⟩:∃ z,(toldS Sl nn false)=z:=⟨_,rfl⟩
   have hxi:(if (curF S nn).1≠0∧((nowF (curF S) r.eds) nn).1=0 then toldS Sl nn false else Sl)=Sx:=by rw [← hSx]; exact if_pos (by have h_:=hs247; simpa using h_)
   have hokx:SOk Sx (c+300+4*ii+1):=hSx ▸ hokl.told nn false
   have hxrec:Sx.recs=Sl.recs:=by cases hSx; rfl
   have hxrow:∀ p∈Sl.rows,p∈Sx.rows:=fun p hp=>by rw [← hSx]; exact hp
   rw [show eSt sb db (toldS Sl nn false)=eSt sb db Sx by rw [hSx]] at hk254_
   refine sqr (sqld 1 hk254_ ?_)
   refine sqp [.m 213 29] ?_
   refine sqlb 5 3 hk254_ ?_
   refine sqc1s (fun x_=>tZ x_) (fun X_=>X_.fp) (fun er215_258=>vi er215_258) (fun er215_258 r6_258=>eSx sb db (fun S2=>PutR Sx nn (⟨(((nowF (curF S) r.eds) nn).1,(Sl.recs.length:Int),((nowF (curF S) r.eds) nn).2.2),pg.A,pg.c⟩:PgR) S2 er215_258) r6_258) 0 hk254_ (by
     refine svA fun ρ β W X cx=>?_
     refine DoesU.call (run_callF (args:=#[vp sb,vi nn, .agg #[vi (((nowF (curF S) r.eds) nn).1),vi ((Sl.recs.length:Int)), .slice pg.A (((nowF (curF S) r.eds) nn).2.2.length) pg.c]]) rfl cx.sees rfl (by kernel_rfl) (map3 (cx.ou 212) (cx.ou 213) (cx.ou 214))) ?_
     refine (sput_any sb db Sx nn (⟨(((nowF (curF S) r.eds) nn).1,(Sl.recs.length:Int),((nowF (curF S) r.eds) nn).2.2),pg.A,pg.c⟩:PgR) (c+300+4*ii+1) _ _ (CtxV.holdF cx (cx.init 0 _ rfl) rfl) (CtxV.ltF cx (cx.init 0 _ rfl) rfl) hokx (by omega) hkn (hxrow _ (hrowl _ hgl))).mono ?_
     rintro e W1 ⟨er4,rfl,fp4,hs4⟩
     refine ⟨_,rfl,post_obj (E:=eSt sb db Sx fp254_) [eSx sb db (fun S2=>PutR Sx nn (⟨(((nowF (curF S) r.eds) nn).1,(Sl.recs.length:Int),((nowF (curF S) r.eds) nn).2.2),pg.A,pg.c⟩:PgR) S2 er4) fp4] (cx.init 0 _ rfl) rfl rfl hs4 (fun σ β' X' hs hb hv hN=>?_)⟩
     have hv1:=(hv 215 rfl).1; have hv2:=(hv 215 rfl).2
     exact ⟨hv1.trans (by rw [hv2]; exact rfl),(by rw [hv2]; exact eSx_self ((List.cons.inj hN).1))⟩) fun er215_258 r6_258 W258 hst258=>?_
   refine sqp [.m 31 215] ?_
   refine then_normal (wp_seq ?_)
   obtain ⟨S7,hP7,hy260_⟩:=hst258.unx
   have hpl:(⟨(((nowF (curF S) r.eds) nn).1,(Sl.recs.length:Int),((nowF (curF S) r.eds) nn).2.2),pg.A,pg.c⟩:PgR).p=setL (lsnF S r) ((nowF (curF S) r.eds) nn):=by show (_, _, _)=(_, _, _); rw [hlsl]
   have hri:=now_right (fun n=>cur_right hok n) her9 nn
   have hok7:SOk S7 (c+300+4*(ii+1)):=(hokx.put (by rw [hpl]; exact setL_right hri (by have h1:=hokl.recs_len; omega)) hP7).mono (by omega)
   refine sqr (sqp [.m 216 31, .k 217 (.bool (er215_258 != 0))] ?_)
   refine then_normal (wbs (fun hs263=>?_) fun hs263=>?_)
   ·have hs263p:=bne_iff_ne.1 hs263
    refine wp_seq (sqr (sqp [.m 218 31, .k 4 (vi 0), .m 5 218] ?_))
    refine then_normal (wp_ret (blk_ret (then_ret (then_ret (blk_ret (then_ret ?_))))))
    refine bpr (.tuple #[vi 0,vi er215_258]) (results_2 Tryz.results17 rpt rpt) ?_
    exact DoSPost.of (by have h_:=DoQ.put (rt:=(⟨r,A50_26,c50_26⟩:RcT)) hda hin hevj ⟨_,hokj⟩ her9 hfit (by rw [← hosF]; exact hai) rfl he5 (by rw [hS5,← hosF]; exact hcon4 _ _ (by rw [hdr]; exact PuA.bad hpl (by rw [hxi]; exact hP7) (by simpa using hs263))); rw [if_neg (by simpa using hs263)] at h_; exact h_) (hok7.mono (by omega)) (hy260_.pick [0] (by decide) rfl)
   have hs263p:=bne_eq_false_iff_eq.1 hs263
   refine wp_skip (blk_normal (then_normal ?_))
   have hpu0:PutR (if (curF S nn).1≠0∧((nowF (curF S) r.eds) nn).1=0 then toldS Sl nn false else Sl) nn (⟨(((nowF (curF S) r.eds) nn).1,(Sl.recs.length:Int),((nowF (curF S) r.eds) nn).2.2),pg.A,pg.c⟩:PgR) S7 0:=by rw [hxi]; exact put_zero hP7 (by simpa using hs263)
   refine sqr (sqp [sI 219 ((ii:Int)+1) (by omega), .m 184 219] ?_)
   refine then_normal ?_
   refine ⟨m - ((ii+1)),by omega,?_⟩
   exact ⟨(ii+1),S7,r6_258,by omega,fun S9 er h=>hcon4 S9 er (by rw [hdr]; exact PuA.cons hpl hpu0 h),hok7,by rw [hP7.rr.2.1,hxrec]; exact hrecl,fun p hp=>hP7.rows p (hxrow p (hrowl p hp)),rfl,(by kernel_rfl),hy260_.pk [1,2,3,4,0]⟩
  have hs247p:=hs247
  simp only [zB] at hs247p
  refine wp_skip (then_normal (wp_seq ?_))
  obtain ⟨fp269_,hk269_⟩:=St.stf (S:=Sl) (hst236) (hrw4) (hrr4)
  obtain ⟨Sx,hSx⟩:∃ z,Sl=z:=⟨_,rfl⟩
  have hxi:(if (curF S nn).1≠0∧((nowF (curF S) r.eds) nn).1=0 then toldS Sl nn false else Sl)=Sx:=by rw [← hSx]; exact if_neg (by have h_:=hs247; simpa using h_)
  have hokx:SOk Sx (c+300+4*ii+1):=hSx ▸ hokl.mono (by omega)
  have hxrec:Sx.recs=Sl.recs:=by cases hSx; rfl
  have hxrow:∀ p∈Sl.rows,p∈Sx.rows:=fun p hp=>by rw [← hSx]; exact hp
  rw [show eSt sb db Sl=eSt sb db Sx by rw [hSx]] at hk269_
  refine sqr (sqld 1 hk269_ ?_)
  refine sqp [.m 213 29] ?_
  refine sqlb 5 3 hk269_ ?_
  refine sqc1s (fun x_=>tZ x_) (fun X_=>X_.fp) (fun er215_273=>vi er215_273) (fun er215_273 r6_273=>eSx sb db (fun S2=>PutR Sx nn (⟨(((nowF (curF S) r.eds) nn).1,(Sl.recs.length:Int),((nowF (curF S) r.eds) nn).2.2),pg.A,pg.c⟩:PgR) S2 er215_273) r6_273) 0 hk269_ (by
    refine svA fun ρ β W X cx=>?_
    refine DoesU.call (run_callF (args:=#[vp sb,vi nn, .agg #[vi (((nowF (curF S) r.eds) nn).1),vi ((Sl.recs.length:Int)), .slice pg.A (((nowF (curF S) r.eds) nn).2.2.length) pg.c]]) rfl cx.sees rfl (by kernel_rfl) (map3 (cx.ou 212) (cx.ou 213) (cx.ou 214))) ?_
    refine (sput_any sb db Sx nn (⟨(((nowF (curF S) r.eds) nn).1,(Sl.recs.length:Int),((nowF (curF S) r.eds) nn).2.2),pg.A,pg.c⟩:PgR) (c+300+4*ii+1) _ _ (CtxV.holdF cx (cx.init 0 _ rfl) rfl) (CtxV.ltF cx (cx.init 0 _ rfl) rfl) hokx (by omega) hkn (hxrow _ (hrowl _ hgl))).mono ?_
    rintro e W1 ⟨er4,rfl,fp4,hs4⟩
    refine ⟨_,rfl,post_obj (E:=eSt sb db Sx fp269_) [eSx sb db (fun S2=>PutR Sx nn (⟨(((nowF (curF S) r.eds) nn).1,(Sl.recs.length:Int),((nowF (curF S) r.eds) nn).2.2),pg.A,pg.c⟩:PgR) S2 er4) fp4] (cx.init 0 _ rfl) rfl rfl hs4 (fun σ β' X' hs hb hv hN=>?_)⟩
    have hv1:=(hv 215 rfl).1; have hv2:=(hv 215 rfl).2
    exact ⟨hv1.trans (by rw [hv2]; exact rfl),(by rw [hv2]; exact eSx_self ((List.cons.inj hN).1))⟩) fun er215_273 r6_273 W273 hst273=>?_
  refine sqp [.m 31 215] ?_
  refine then_normal (wp_seq ?_)
  obtain ⟨S7,hP7,hy275_⟩:=hst273.unx
  have hpl:(⟨(((nowF (curF S) r.eds) nn).1,(Sl.recs.length:Int),((nowF (curF S) r.eds) nn).2.2),pg.A,pg.c⟩:PgR).p=setL (lsnF S r) ((nowF (curF S) r.eds) nn):=by show (_, _, _)=(_, _, _); rw [hlsl]
  have hri:=now_right (fun n=>cur_right hok n) her9 nn
  have hok7:SOk S7 (c+300+4*(ii+1)):=(hokx.put (by rw [hpl]; exact setL_right hri (by have h1:=hokl.recs_len; omega)) hP7).mono (by omega)
  refine sqr (sqp [.m 216 31, .k 217 (.bool (er215_273 != 0))] ?_)
  refine then_normal (wbs (fun hs278=>?_) fun hs278=>?_)
  ·have hs278p:=bne_iff_ne.1 hs278
   refine wp_seq (sqr (sqp [.m 218 31, .k 4 (vi 0), .m 5 218] ?_))
   refine then_normal (wp_ret (blk_ret (then_ret (then_ret (blk_ret (then_ret ?_))))))
   refine bpr (.tuple #[vi 0,vi er215_273]) (results_2 Tryz.results17 rpt rpt) ?_
   exact DoSPost.of (by have h_:=DoQ.put (rt:=(⟨r,A50_26,c50_26⟩:RcT)) hda hin hevj ⟨_,hokj⟩ her9 hfit (by rw [← hosF]; exact hai) rfl he5 (by rw [hS5,← hosF]; exact hcon4 _ _ (by rw [hdr]; exact PuA.bad hpl (by rw [hxi]; exact hP7) (by simpa using hs278))); rw [if_neg (by simpa using hs278)] at h_; exact h_) (hok7.mono (by omega)) (hy275_.pick [0] (by decide) rfl)
  have hs278p:=bne_eq_false_iff_eq.1 hs278
  refine wp_skip (blk_normal (then_normal ?_))
  have hpu0:PutR (if (curF S nn).1≠0∧((nowF (curF S) r.eds) nn).1=0 then toldS Sl nn false else Sl) nn (⟨(((nowF (curF S) r.eds) nn).1,(Sl.recs.length:Int),((nowF (curF S) r.eds) nn).2.2),pg.A,pg.c⟩:PgR) S7 0:=by rw [hxi]; exact put_zero hP7 (by simpa using hs278)
  refine sqr (sqp [sI 219 ((ii:Int)+1) (by omega), .m 184 219] ?_)
  refine then_normal ?_
  refine ⟨m - ((ii+1)),by omega,?_⟩
  exact ⟨(ii+1),S7,r6_273,by omega,fun S9 er h=>hcon4 S9 er (by rw [hdr]; exact PuA.cons hpl hpu0 h),hok7,by rw [hP7.rr.2.1,hxrec]; exact hrecl,fun p hp=>hP7.rows p (hxrow p (hrowl p hp)),rfl,(by kernel_rfl),hy275_.pk [1,2,3,4,0]⟩
 refine wp_exit (then_exit (then_exit (blk_eq (then_normal (wp_seq ?_)))))
 obtain ⟨⟨hrw5,hrr5⟩,mb5,RA5,rc5,EA5,ec5,ib5,tb5,fpd5,hv284_⟩:=hst218.u4.unf
 refine sqr (sqld 10 hv284_ ?_)
 refine sqp [.k 221 (vp sb), .k 222 (.pointer (some ⟨sb,4,none⟩))] ?_
 refine sqld 0 hv284_ ?_
 refine sqp [.k 224 (vi ((Sl.recs.length:Int))), .m 4 224, .k 5 (vi 0)] ?_
 refine then_normal (wp_ret ?_)
 refine bpr (.tuple #[vi ((Sl.recs.length:Int)),vi 0]) (results_2 Tryz.results17 rpt rpt) ?_
 obtain ⟨fp292_,hk292_⟩:=St.stf (S:=Sl) (hv284_) (hrw5) (hrr5)
 exact DoSPost.of (by have h_:=DoQ.put (rt:=(⟨r,A50_26,c50_26⟩:RcT)) hda hin hevj ⟨_,hokj⟩ her9 hfit (by rw [← hosF]; exact hai) rfl he5 (by rw [hS5,← hosF]; exact hcon4 _ _ (by rw [List.drop_of_length_le (by omega)]; exact PuA.nil _)); rw [if_pos rfl,← hlsn,← hrecl] at h_; exact h_) (hokl.mono (by omega)) (hk292_.pick [0] (by decide) rfl)
end
end Go.Proofs.YtcdjaepgahbhfaaGreat

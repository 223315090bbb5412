import Derived.Test.YtcdjaepgahbhfaaGreatZ6
set_option linter.unusedVariables false
set_option linter.unusedSimpArgs false
set_option maxRecDepth 100000
set_option maxHeartbeats 16000000
namespace Go.Proofs.YtcdjaepgahbhfaaGreat
variable{N:Int->PgS}{S S' S2:StM}{W w w0:World}{args:Array Value}{bor fp:List Nat}{c c' db k m p sb:Nat}{e:Ent}{eds:List EdT}{er lsn n:Int}{f:FuncId}{note:ByteArray}{os:List Int}{pg:PgR}{r:RecM}{rs:List RcT}
section
open Go.RowKit
theorem wF(D:DkM)(er:Int)(f:DkM->DkM):(D.off=true/\opD D er f=(D,24))\/(D.off=false/\er≠0/\opD D er f=(D,er))\/(D.off=false/\er=0/\D.armed=true/\opD D er f=({D with off:=true},24))\/(D.off=false/\er=0/\opD D er f=(f {D with left:=cS D.left},0)):=by
 unfold opD
 split
 rename_i h;exact .inl ⟨h,rfl⟩
 rename_i h
 have h:D.off=false:=by simpa using h
 split
 rename_i h1;exact .inr (.inl ⟨h,h1,rfl⟩)
 rename_i h1
 have h1:er=0:=by simpa using h1
 split
 rename_i h2;exact .inr (.inr (.inl ⟨h,h1,h2.1,rfl⟩))
 exact .inr (.inr (.inr ⟨h,h1,rfl⟩))
structure ApS (S:StM) (rt:RcT) (S2:StM) (er:Int):Prop where
 ok:er=0->S2.D.off=false/\S2.recs=S.recs++[rt]/\S2.D.log=S.D.log++aC rt.r
 no:er≠0->S2.recs=S.recs/\S2.D.log=S.D.log/\((er=24/\S2.D.off=true)\/(er=31/\S2.D.off=S.D.off/\1048576<S.D.log.size+(aC rt.r).size))
 pool:S2.pool=S.pool
 pgs:S2.D.pgs=S.D.pgs
 fl:S2.D.fl=S.D.fl
 im:S2.im=S.im
 told:S2.told=S.told
 frm:S2.frm=S.frm
 armed:S2.D.armed=S.D.armed
 noarm:S.D.armed=false->S2.D.off=S.D.off
theorem jZ(S:StM)(rt:RcT):ApS S rt (bz S rt).1 (bz S rt).2:=by
 have hz:∀er:Int,apE S.D (aC rt.r)=er->er≠0->er=31/\1048576<S.D.log.size+(aC rt.r).size:=fun er h h0=>by
  unfold apE at h
  split at h
  exact⟨h.symm,by omega⟩
  exact absurd h.symm h0
 rcases wF S.D (apE S.D (aC rt.r)) (apD (aC rt.r)) with ⟨h1,h2⟩|⟨h1,h0,h2⟩|⟨h1,h0,h3,h2⟩|⟨h1,h0,h2⟩
 have e:(apR S rt.r)=(S.D,24):=h2
 rw[ua (by rw[e];exact(by decide:(24:Int)≠0)),e]
 exact⟨fun h=>(by cases h),fun _=>⟨rfl,rfl,.inl ⟨rfl,h1⟩⟩,rfl,rfl,rfl,rfl,rfl,rfl,rfl,fun _=>rfl⟩
 have e:(apR S rt.r)=(S.D,apE S.D (aC rt.r)):=h2
 rw[ua (by rw[e];exact h0),e]
 obtain⟨a,b⟩:=hz _ rfl h0
 exact⟨fun h=>absurd h h0,fun _=>⟨rfl,rfl,.inr ⟨a,rfl,b⟩⟩,rfl,rfl,rfl,rfl,rfl,rfl,rfl,fun _=>rfl⟩
 have e:(apR S rt.r)=({S.D with off:=true},24):=h2
 rw[ua (by rw[e];exact(by decide:(24:Int)≠0)),e]
 exact⟨fun h=>(by cases h),fun _=>⟨rfl,rfl,.inl ⟨rfl,rfl⟩⟩,rfl,rfl,rfl,rfl,rfl,rfl,rfl,fun h=>by rw[h3] at h;cases h⟩
 have e:(apR S rt.r)=(apD (aC rt.r) {S.D with left:=cS S.D.left},0):=h2
 rw[Ds (by rw[e]),e]
 exact⟨fun _=>⟨h1,rfl,rfl⟩,fun h=>absurd rfl h,rfl,rfl,rfl,rfl,rfl,rfl,rfl,fun _=>rfl⟩
structure ApO (S:StM) (ims:List RecM) (S2:StM) (er:Int) (k:Nat):Prop where
 kl:k<=ims.length
 ok:er=0->k=ims.length/\(S.D.off=false->S2.D.off=false)
 no:er≠0->(er=24/\S2.D.off=true)\/(er=31/\1048576<S.D.log.size+szF ims)
 L:S2.L=S.L++ims.take k
 log:S2.D.log.size=S.D.log.size+szF (ims.take k)
 pool:S2.pool=S.pool
 pgs:S2.D.pgs=S.D.pgs
 fl:S2.D.fl=S.D.fl
 im:∀n,(S2.im n).getD false=((S.im n).getD false||decide (n∈(ims.take k).map RecM.tbl))
 told:S2.told=S.told
 frm:S2.frm=S.frm
 armed:S2.D.armed=S.D.armed
 noarm:S.D.armed=false->S2.D.off=S.D.off
theorem oM(r:RecM)(l:List RecM):szF (r::l)=(aC r).size+szF l:=by simp[szF]
theorem ApI.run{ims:List RecM}(h:ApI S ims S2 er):∃k,ApO S ims S2 er k:=by
 induction h with
 |nil S=>exact⟨0,Nat.le_refl _,fun _=>⟨rfl,id⟩,fun h=>absurd rfl h,by simp,rfl,rfl,rfl,rfl,fun n=>by simp,rfl,rfl,rfl,fun _=>rfl⟩
 |bad q h=>
  rename_i S r l
  have hs:=jZ {S with rr:=q} (rcI r)
  obtain⟨a,b,c⟩:=hs.no h
  refine⟨0,Nat.zero_le _,fun h0=>absurd h0 h,fun _=>?_,(congrArg (List.map RcT.r) a).trans (List.append_nil _).symm,by rw[b];rfl,hs.pool,hs.pgs,hs.fl,fun n=>by rw[hs.im];simp,hs.told,hs.frm,hs.armed,hs.noarm⟩
  rcases c with c|c
  exact .inl c
  refine .inr ⟨c.1,?_⟩
  have:=c.2.2
  rw[oM]
  show 1048576<S.D.log.size+ _
  have e:(aC (rcI r).r).size=(aC r).size:=rfl
  have e2:({S with rr:=q}:StM).D.log.size=S.D.log.size:=rfl
  omega
 |cons q h hr ih=>
  rename_i S S2 r l er
  have hs:=jZ {S with rr:=q} (rcI r)
  obtain⟨a1,a2,a3⟩:=hs.ok h
  obtain⟨k,o⟩:=ih
  have hlog:(bz {S with rr:=q} (rcI r)).1.D.log=S.D.log++aC r:=a3
  refine⟨k+1,by have:=o.kl;simp only[List.length_cons];omega,fun h0=>?_,fun h0=>?_,?_,?_,o.pool.trans hs.pool,o.pgs.trans hs.pgs,o.fl.trans hs.fl,fun n=>?_,o.told.trans hs.told,o.frm.trans hs.frm,o.armed.trans hs.armed,fun h0=>?_⟩
  obtain⟨b1,b2⟩:=o.ok h0
  exact⟨by rw[b1];rfl,fun _=>b2 a1⟩
  rcases o.no h0 with c|⟨c1,c2⟩
  exact .inl c
  refine .inr ⟨c1,?_⟩
  have c2:1048576<(bz {S with rr:=q} (rcI r)).1.D.log.size+szF l:=c2
  rw[hlog,ByteArray.size_append] at c2
  rw[oM];omega
  rw[o.L,List.take_succ_cons]
  show (bz {S with rr:=q} (rcI r)).1.recs.map RcT.r++ _= _
  rw[a2,List.map_append]
  show S.L++[r]++l.take k= _
  simp
  have h1:=o.log
  have h1:S2.D.log.size=(bz {S with rr:=q} (rcI r)).1.D.log.size+szF (l.take k):=h1
  rw[h1,hlog,ByteArray.size_append,List.take_succ_cons,oM];omega
  rw[o.im,List.take_succ_cons,List.map_cons]
  show ((cj (bz {S with rr:=q} (rcI r)).1.im r.tbl (some true) n).getD false|| _)= _
  rw[hs.im]
  unfold cj
  by_cases hn:n=r.tbl
  subst hn;simp
  rw[if_neg hn]
  show ((S.im n).getD false|| _)= _
  congr 1
  have:(n∈r.tbl::(l.take k).map RecM.tbl)=(n∈(l.take k).map RecM.tbl):=propext ⟨fun h=>(List.mem_cons.1 h).elim (fun h=>absurd h hn) id,List.mem_cons_of_mem _⟩
  simp only[this]
  have h1:=hs.noarm h0
  have h2:=o.noarm (hs.armed.trans h0)
  exact h2.trans h1
theorem ApI.sok{ims:List RecM}(h:ApI S ims S2 er):∀{c:Nat},SOk S c->(∀r∈ims,bC r=true)->SOk S2 (c+ims.length):=by
 induction h with
 |nil S=>intro c h _;exact h
 |bad q h=>intro c hc hr;exact((hc.rr q).append (rt:=rcI _) (hr _ List.mem_cons_self)).mono (by omega)
 |cons q h hr ih=>
  intro c hc hr
  exact(ih (((hc.rr q).append (rt:=rcI _) (hr _ List.mem_cons_self)).im _) (fun r h=>hr r (by simp[h]))).mono (by simp only[List.length_cons];omega)
theorem ApO.cur{ims:List RecM}(h:ApO S ims S2 er k)(n:Int):aF S2 n=aF S n:=by
 rw[aF,aF,h.pool,hH h.pgs]
theorem ei.cur(hok:SOk S c)(h:ei S n pg S2 0):S2.L=S.L/\S2.frm=S.frm/\S2.im=S.im/\S2.told=S.told/\S2.D.pgs.length=S.D.pgs.length/\∀m:Int,0<=m->aF S2 m=if m=n then pg.p else aF S m:=by
 obtain⟨S1,h1,⟨h2,_⟩|⟨_,⟨t,ht,hn⟩,rfl⟩⟩:=h
 exact absurd rfl h2
 obtain⟨ev,_,_⟩:=Ev.load hok h1
 have hok1:=hok.load h1
 refine⟨ev.L,ev.frm,ev.im,ev.told,ev.len,fun m hm=>?_⟩
 have hnd:(S1.pool.map BfT.n).Nodup:=hok1.nodup
 by_cases e:m=n
 subst e
 rw[if_pos rfl]
 rcases pQ (S:=S1) (n:=m) (f:=gz pg) hnd (fun _=>rfl) m with h3|⟨u,hu,e1,_,e3⟩
 have h4:=dz (S:={S1 with pool:=da S1.pool m (gz pg)}) (by show ((da S1.pool m (gz pg)).map BfT.n).Nodup;rw[uq (f:=gz pg) (fun _=>rfl)];exact hnd) (t:=gz pg t) (List.mem_map.2 ⟨t,ht,by rw[if_pos hn]⟩)
 have h5:(gz pg t).n=m:=hn
 rw[h5] at h4;exact h4
 exact e3
 rw[if_neg e,<-ev.cur m hm]
 rcases pQ (S:=S1) (n:=n) (f:=gz pg) hnd (fun _=>rfl) m with h3|⟨u,hu,e1,e2,e3⟩
 exact h3
 exact absurd e2 e
theorem PuA.run{cur:Int->PgS}{l:List Int}(h:PuA cur N lsn S l S2 er):∀{c:Nat},SOk S c->(∀n∈l,bJ (iC lsn (N n)))->er=0->S2.L=S.L/\S2.frm=S.frm/\S2.im=S.im/\S2.D.pgs.length=S.D.pgs.length/\(∀m:Int,0<=m->aF S2 m=if m∈l then iC lsn (N m) else aF S m)/\∀m,(S2.told m).getD false=if m∈l/\(cur m).1≠0/\(N m).1=0 then false else (S.told m).getD false:=by
 induction h with
 |nil S=>intro c _ _ _;exact⟨rfl,rfl,rfl,rfl,fun m _=>by simp,fun m=>by simp⟩
 |bad hp h he=>intro c _ _ h0;exact absurd h0 he
 |cons hp h hr ih=>
  rename_i S S1 S2 n er l pg
  intro c hok hri h0
  have hokx:SOk (if (cur n).1≠0/\(N n).1=0 then eH S n false else S) (c+1):=by
   split
   exact hok.told n false
   exact hok.mono (by omega)
  obtain⟨a1,a2,a3,a4,a5,a6⟩:=ei.cur hokx h
  have hok1:=hokx.put (by rw[hp];exact hri n (by simp)) h
  obtain⟨b1,b2,b3,b5,b6,b7⟩:=ih hok1 (fun m hm=>hri m (by simp[hm])) h0
  have e1:∀X:StM->Prop,X S->X (eH S n false)->X (if (cur n).1≠0/\(N n).1=0 then eH S n false else S):=fun X h1 h2=>by split<;>assumption
  refine⟨b1.trans (a1.trans (e1 (fun Z=>Z.L=S.L) rfl rfl)),b2.trans (a2.trans (e1 (fun Z=>Z.frm=S.frm) rfl rfl)),b3.trans (a3.trans (e1 (fun Z=>Z.im=S.im) rfl rfl)),b5.trans (a5.trans (e1 (fun Z=>Z.D.pgs.length=S.D.pgs.length) rfl rfl)),fun m hm=>?_,fun m=>?_⟩
  rw[b6 m hm,a6 m hm,hp,e1 (fun Z=>aF Z m=aF S m) rfl rfl]
  by_cases h1:m∈l
  rw[if_pos h1,if_pos (by simp[h1])]
  rw[if_neg h1]
  by_cases h2:m=n
  subst h2;rw[if_pos rfl,if_pos (by simp)]
  rw[if_neg h2,if_neg (by simp[h1,h2])]
  rw[b7 m,a4]
  by_cases h1:m∈l/\(cur m).1≠0/\(N m).1=0
  rw[if_pos h1,if_pos ⟨by simp[h1.1],h1.2⟩]
  rw[if_neg h1]
  by_cases h2:m=n
  subst h2
  by_cases h3:(cur m).1≠0/\(N m).1=0
  rw[if_pos h3,if_pos ⟨by simp,h3⟩]
  show (cj S.told m (some false) m).getD false=false
  rw[cj,if_pos rfl];rfl
  rw[if_neg h3,if_neg (fun h=>h3 h.2)]
  have h4:¬(m∈n::l/\(cur m).1≠0/\(N m).1=0):=fun h=>h1 ⟨(List.mem_cons.1 h.1).elim (fun h=>absurd h h2) id,h.2⟩
  rw[if_neg h4]
  exact e1 (fun Z=>(Z.told m).getD false=(S.told m).getD false) rfl (by show (cj S.told n (some false) m).getD false= _;rw[cj,if_neg h2])
end
section
open Go.RowKit
theorem EN:¬DoA r<->(bC r=false\/r.kind=8\/r.kind=9):=by
 unfold DoA
 constructor
 intro h
 cases hr:bC r
 exact .inl rfl
 rw[hr] at h
 by_cases h8:r.kind=8
 exact .inr (.inl h8)
 exact .inr (.inr (Classical.byContradiction fun h9=>h ⟨rfl,h8,h9⟩))
 rintro(h|h|h) ⟨a,b,c⟩
 rw[h] at a;cases a
 exact b h
 exact c h
section
variable{pages:Nat}{L:List RecM}{r:RecM}{told:Int->Bool}
theorem II(h:¬DoA r):rfE pages L r=1:=if_pos (EN.1 h)
theorem ub(h:DoA r):¬(bC r=false\/r.kind=8\/r.kind=9):=fun h1=>EN.2 h1 h
theorem Df(h:DoA r)(h1:r.eds.any (d9 pages)=true):rfE pages L r=22:=by rw[rfE,if_neg (ub h),if_pos h1]
theorem IE(h:DoA r)(h1:r.eds.any (d9 pages)=false)(h2:cU (ak L) r.eds≠0):rfE pages L r=cU (ak L) r.eds:=by rw[rfE,if_neg (ub h),if_neg (by rw[h1];decide),if_pos h2]
theorem DP(h:DoA r)(h1:r.eds.any (d9 pages)=false)(h2:cU (ak L) r.eds=0)(h3:1048576<szF L+((aC r).size+szF (ek L (cH r.eds)))):rfE pages L r=31:=by rw[rfE,if_neg (ub h),if_neg (by rw[h1];decide),if_neg (by rw[h2];simp),if_pos h3]
theorem xj(h:DoA r)(h1:r.eds.any (d9 pages)=false)(h2:cU (ak L) r.eds=0)(h3:szF L+((aC r).size+szF (ek L (cH r.eds)))<=1048576):rfE pages L r=0:=by rw[rfE,if_neg (ub h),if_neg (by rw[h1];decide),if_neg (by rw[h2];simp),if_neg (by omega)]
theorem j8{e:Int}(h:rfE pages L r=e)(h0:e≠0):rfD pages L told r=(L,0,e,told):=by rw[rfD,if_neg (by rw[h];exact h0),h]
theorem qk(h:rfE pages L r=0):rfD pages L told r=(rfL L r,((rfL L r).length:Int),0,rfT told L r):=if_pos h
end
theorem GW(h:SOk S c){t:BfT}(ht:t∈S.pool)(he:(aL S t).2≠0):(aL S t).2=24:=by
 unfold aL at he |-
 split at he
 rename_i hd
 rw[if_pos hd]
 unfold bN at he |-
 have hw:(wrD0 S t).2=0\/(wrD0 S t).2=24:=by
  unfold wrD0
  split
  rcases mR S.D with ⟨_,e⟩|⟨_,_,e⟩|⟨_,e⟩<;>rw[e]<;>simp
  exact .inl rfl
 split at he
 rename_i h1
 rw[if_pos h1]
 exact hw.resolve_left h1
 rename_i h1
 rw[if_neg h1]
 have hn:0<=t.n/\t.n<(((wrD0 S t).1.pgs.length:Nat):Int):=by
  have hl:(wrD0 S t).1.pgs.length=S.D.pgs.length:=by
   unfold wrD0
   split
   exact cY (P:=fun D'=>D'.pgs.length=S.D.pgs.length) rfl rfl fun _=>rfl
   rfl
  rw[hl];exact h.keys t ht
 dsimp only at he |-
 rcases vV (wrD0 S t).1 t.n (aH t.pg.p) hn (dD (h.right t ht)) with ⟨_,e⟩|⟨_,_,e⟩|⟨_,e⟩
 rw[e]
 rw[e]
 rw[e] at he;exact absurd rfl he
 exact absurd rfl he
theorem LdR.e24(h:SOk S c)(hn:0<=n/\n<(S.D.pgs.length:Int))(hl:LdR S n S' er)(he:er≠0):er=24/\S'.D.off=true:=by
 have ho:=((Ev.load h hl).2.1 he).resolve_right (fun h1=>h1 hn)
 refine⟨?_,ho⟩
 cases hl with
 |hit t ht hn=>exact absurd rfl he
 |bad h1 h2=>
  unfold rdS at he |-
  split
  rfl
  rename_i h3;rw[if_neg h3,if_pos hn] at he;exact absurd rfl he
 |new t blk A cc h1 h2 h3=>
  unfold jU at he |-
  split
  rename_i h4
  unfold bv at h4 |-
  split
  rename_i h5
  rw[if_pos h5] at h4
  split
  rename_i h6
  exact GW h.tick (h3 h5) h6
  rename_i h6
  rw[if_neg h6] at h4
  exact absurd rfl h4
  rename_i h5;rw[if_neg h5] at h4;exact absurd rfl h4
  rename_i h4;rw[if_neg h4] at he;exact absurd rfl he
theorem ei.e24(h:SOk S c)(hn:0<=n/\n<(S.D.pgs.length:Int))(hl:ei S n pg S' er)(he:er≠0):er=24/\S'.D.off=true:=by
 obtain⟨S1,h1,⟨_,rfl⟩|⟨h2,_⟩⟩:=hl
 exact h1.e24 h hn he
 exact absurd h2 he
theorem PuA.e24{cur:Int->PgS}{l:List Int}(h:PuA cur N lsn S l S2 er):∀{c:Nat},SOk S c->(∀n∈l,bJ (iC lsn (N n)))->(∀n∈l,0<=n/\n<(S.D.pgs.length:Int))->er≠0->er=24/\S2.D.off=true:=by
 induction h with
 |nil S=>intro c _ _ _ h0;exact absurd rfl h0
 |bad hp h he=>
  rename_i S S2 n er l pg
  intro c hok hri hr _
  refine ei.e24 (S:=if (cur n).1≠0/\(N n).1=0 then eH S n false else S) (c:=c+1) ?_ ?_ h he
  split
  exact hok.told n false
  exact hok.mono (by omega)
  have:=hr n (by simp)
  split<;>exact this
 |cons hp h hr ih=>
  rename_i S S1 S2 n er l pg
  intro c hok hri hg h0
  have hokx:SOk (if (cur n).1≠0/\(N n).1=0 then eH S n false else S) (c+1):=by
   split
   exact hok.told n false
   exact hok.mono (by omega)
  have hl:S1.D.pgs.length=S.D.pgs.length:=(ei.cur hokx h).2.2.2.2.1.trans (by split<;>rfl)
  exact ih (hokx.put (by rw[hp];exact hri n (by simp)) h) (fun m hm=>hri m (by simp[hm])) (fun m hm=>by rw[hl];exact hg m (by simp[hm])) h0
def DoW(S:StM)(told:Int->Bool)(r:RecM)(S2:StM)(n er:Int):Prop:=
 (S2.D.off=true/\(er=24\/er=rfE S.D.pgs.length S.L r))\/(S2.D.off=false/\n=(rfD S.D.pgs.length S.L told r).2.1/\er=rfE S.D.pgs.length S.L r/\S2.L=(rfD S.D.pgs.length S.L told r).1/\S2.D.pgs.length=S.D.pgs.length/\WI S2 (rfD S.D.pgs.length S.L told r).2.2.2)
theorem DoW.no{told:Int->Bool}(hw:WI S told)(hev:Ev S S2)(he:rfE S.D.pgs.length S.L r=er)(h0:er≠0):DoW S told r S2 0 er:=by
 rcases Bool.eq_false_or_eq_true S2.D.off with ho|ho
 exact .inl ⟨ho,.inr he.symm⟩
 refine .inr ⟨ho,?_,he.symm,?_,hev.len,?_⟩<;>rw[j8 he h0]
 exact hev.L
 exact hev.wi hw
theorem DoQ.run{told:Int->Bool}(hok:SOk S c)(hw:WI S told)(h:DoQ S r S2 n er):DoW S told r S2 n er:=by
 have hcur:r.eds.any (d9 S.D.pgs.length)=false->∀e∈r.eds,aF S e.1=ak S.L e.1:=fun hp e he=>hw.cur _ (lh hp he).1 (lh hp he).2
 have hos:r.eds.any (d9 S.D.pgs.length)=false->∀n∈cH r.eds,0<=n/\n<(S.D.pgs.length:Int):=fun hp n hn=>by obtain⟨e,he,rfl⟩:=ky.1 hn;exact lh hp he
 have herr:r.eds.any (d9 S.D.pgs.length)=false->cU (aF S) r.eds=cU (ak S.L) r.eds:=fun hp=>B3 _ _ _ (hcur hp)
 have hims:r.eds.any (d9 S.D.pgs.length)=false->fk S (cH r.eds)=ek S.L (cH r.eds):=fun hp=>by
  have e1:eI S (cH r.eds)=(cH r.eds).filter fun n=>!fC S.L n:=List.filter_congr fun n hn=>by rw[hw.im n (hos hp n hn).1 (hos hp n hn).2]
  rw[fk,ek,e1]
  refine List.map_congr_left fun n hn=>?_
  have hn:=(List.mem_filter.1 hn).1
  rw[gg,hw.cur n (hos hp n hn).1 (hos hp n hn).2]
 have hlz:S.D.log.size=szF S.L:=by rw[hok.log,cE]
 have hnz:r.eds.any (d9 S.D.pgs.length)=false->jV S r=szF S.L+((aC r).size+szF (ek S.L (cH r.eds))):=fun hp=>by rw[jV,hims hp,hlz]
 cases h with
 |arg h=>exact DoW.no hw (Ev.refl S) (II h) (by decide)
 |page h hp he=>exact DoW.no hw he (Df h hp) (by decide)
 |pow h hp he ho=>exact .inl ⟨ho,.inl rfl⟩
 |err h hp he h0=>exact DoW.no hw he (by rw[herr hp] at h0 |-;exact IE h hp h0) h0
 |full h hp he h0 hf=>exact DoW.no hw he (DP h hp (by rw[<-herr hp];exact h0) (by rw[<-hnz hp];exact hf)) (by decide)
 |img h hp he hk h0 hf hi hn=>
  obtain⟨k,o⟩:=hi.run
  rcases o.no hn with ⟨c1,c2⟩|⟨_,c2⟩
  exact .inl ⟨c2,.inl c1⟩
  exfalso
  rw[he.log] at c2
  rw[jV] at hf;omega
 |app h hp he hk h0 hf hi hr hn=>
  rename_i S1 S2 rt
  obtain⟨k,o⟩:=hi.run
  rcases((jZ S2 rt).no hn).2.2 with ⟨c1,c2⟩|⟨_,_,c2⟩
  exact .inl ⟨c2,.inl c1⟩
  exfalso
  rw[o.log,(o.ok rfl).1,List.take_length,he.log,hr] at c2
  rw[jV] at hf;omega
 |put h hp he hk h0 hf hi hr ha hu=>
  rename_i S1 S3 rt
  obtain⟨c1,hk⟩:=hk
  obtain⟨k,o⟩:=hi.run
  obtain⟨ok1,_⟩:=o.ok rfl
  have s:=jZ S3 rt
  obtain⟨s1,s2,s3⟩:=s.ok ha
  have hro:=hos hp
  have hokI:=hi.sok hk (fun x hx=>by obtain⟨n,hn,rfl⟩:=List.mem_map.1 hx;exact ng hok (hro n (sH hn)))
  have hok4:=hokI.append (rt:=rt) (by rw[hr];exact h.1)
  have hlen4:(bz S3 rt).1.D.pgs.length=S.D.pgs.length:=by rw[s.pgs,o.pgs];exact he.len
  have hL4:(bz S3 rt).1.L=rfL S.L r:=by
   show (bz S3 rt).1.recs.map RcT.r= _
   rw[s2,List.map_append]
   show S3.L++[rt.r]= _
   rw[o.L,ok1,List.take_length,he.L,hr,hims hp,rfL]
  have hro2:=hok.recs_len
  have hnl:=o8 S (cH r.eds)
  have hol:=mi r.eds
  have hml:=(dU h.1).many
  have hlsn:eE S r=((rfL S.L r).length:Int):=by
   rw[rfL,eE,<-hims hp,fk,List.length_append,List.length_append,List.length_map]
   rw[List.length_map,List.length_singleton];omega
  have hlb:0<=eE S r/\eE S r<=2147483647:=by unfold eE;omega
  have hri:∀n∈cH r.eds,bJ (iC (eE S r) (bq (aF S) r.eds n)):=fun n _=>l0 (jO (fun m=>iP hok m) h0 n) hlb
  by_cases h00:er=0
  rcases Bool.eq_false_or_eq_true S2.D.off with ho|ho
  exact .inl ⟨ho,.inr (by rw[h00];exact(xj h hp (by rw[<-herr hp];exact h0) (by rw[<-hnz hp];exact hf)).symm)⟩
  have hE:=xj h hp (by rw[<-herr hp];exact h0) (by rw[<-hnz hp];exact hf) (pages:=S.D.pgs.length) (L:=S.L)
  obtain⟨a1,a2,a3,a4,a5,a6⟩:=hu.run hok4 hri h00
  have hL:=a1.trans hL4
  have hpl:=a4.trans hlen4
  refine .inr ⟨ho,?_,by rw[hE];exact h00,by rw[qk hE];exact hL,hpl,?_⟩
  rw[qk hE,if_pos h00];exact hlsn
  rw[qk hE]
  have hie:=vF (L:=S.L) (os:=cH r.eds)
  have hcI:ak (S.L++ek S.L (cH r.eds))=ak S.L:=funext fun n=>uf (fun x hx=>(hie x hx).1) n
  have hb1:((S.L++ek S.L (cH r.eds)).length:Int)+1=eE S r:=by rw[hlsn,rfL,List.length_append (bs:=[r])];simp
  refine⟨fun n n0 n1=>?_,fun n n0 n1=>?_,?_,fun n n0 n1=>?_⟩
  rw[hpl] at n1
  rw[a5 n n0,hL,rfL]
  by_cases hn:n∈cH r.eds
  rw[if_pos hn,Gh (by omega) (by rw[hcI,<-herr hp];exact h0) hn,hb1,hcI,uh r.eds n (aF S) (ak S.L) (hcur hp) (hw.cur n n0 n1)]
  rw[if_neg hn,Em hn,hcI,<-hw.cur n n0 n1,<-he.cur n n0,<-o.cur n,aF,aF,s.pool,hH s.pgs]
  rw[hpl] at n1
  rw[a3,s.im,o.im,he.im,hw.im n n0 n1,hL,rfL,nf,if_neg h.2.2,DN n S.L (fun x hx=>(hie x hx).2.1),ok1,List.take_length,hims hp]
  have:(r.kind==8)=false:=by simpa using h.2.1
  rw[this];simp
  rw[a2,s.frm,o.frm,he.frm,hw.frm,hL,rfL,go,if_neg h.2.2,Cl _ (fun x hx=>by rw[(hie x hx).2.1];decide)]
  rw[hpl] at n1
  show (S2.told n).getD false=if n∈cH r.eds/\(ak S.L n).1≠0/\(bq (ak S.L) r.eds n).1=0 then false else told n
  rw[a6 n,s.told,o.told,he.told,hw.told n n0 n1,hw.cur n n0 n1,uh r.eds n (aF S) (ak S.L) (hcur hp) (hw.cur n n0 n1)]
  obtain⟨e1,e2⟩:=hu.e24 hok4 hri (fun n hn=>by rw[hlen4];exact hro n hn) h00
  exact .inl ⟨e2,.inl e1⟩
end
section
open Go.RowKit
def bgD(n:Nat)(note:ByteArray):DkM:=⟨List.replicate n ⟨z5,[]⟩,aC (aI note),(aC (aI note)).size,false,false,cS (cS 0)⟩
theorem JS(n:Nat)(h:note.size<=60000):vI (kw n) note=(bgD n note,0):=by
 have hz:=eU (dA h)
 have e0:(⟨#[]⟩:ByteArray)++aC (aI note)=aC (aI note):=by apply ia;rw[cV];rfl
 have he:apE (kw n) (aC (aI note))=0:=by
  show (if 1048576<((0:Nat):Int)+ _ then (31:Int) else 0)=0
  rw[if_neg (by omega)]
 have h1:fmR (kw n) note=(⟨List.replicate n ⟨z5,[]⟩,aC (aI note),0,false,false,cS 0⟩,0):=by
  rw[fmR,he]
  show (apD (aC (aI note)) _,(0:Int))= _
  show (DkM.mk _ ((⟨#[]⟩:ByteArray)++aC (aI note)) _ _ _ _,(0:Int))= _
  rw[e0];rfl
 rw[vI,if_neg (by rintro(h2|h2);exact absurd h2 (Nat.lt_irrefl 0);omega),h1,if_neg (by exact(by decide:¬(0:Int)≠0))]
 rfl
theorem KO(note:ByteArray)(m:Int):ak [aI note] m=bw:=rfl
theorem E5(note:ByteArray):szF [aI note]=(aC (aI note)).size:=by simp[szF]
theorem AZ(note:ByteArray):ef [aI note]=aC (aI note):=by rw[ef,List.map_cons,List.map_nil,bE,fT,ld]
structure NewS (S:StM) (n:Nat) (note:ByteArray) (bufs:Int):Prop where
 D:S.D=bgD n note
 L:S.L=[aI note]
 ok:SOk S 0
 wi:WI S (fun _=>false)
 bufs:S.bufs=bufs
theorem NewS.pgs{n:Nat}{bufs:Int}(h:NewS S n note bufs):S.D.pgs.length=n:=by rw[h.D];exact List.length_replicate ..
theorem NI:rdP z5.1=bw:=Ju
theorem NK{n:Nat}{bufs:Int}(hn:n<=400)(hz:note.size<=60000)(hb:1<=bufs/\bufs<=64)(hrs:rs.map RcT.r=[aI note]):NewS (iN (bgD n note) bufs rs 1) n note bufs:=by
 have hf:=eU (dA hz)
 refine⟨rfl,hrs,?_,?_,rfl⟩
 refine SOk.opn hb ?_ (fun x hx=>?_) (fun r hr=>?_) ?_ ?_ (Nat.le_refl _)
 show (List.replicate n _).length<= _;rw[List.length_replicate];exact hn
 rw[List.eq_of_mem_replicate hx];exact Nat.le_refl _
 rw[hrs] at hr;rw[List.mem_singleton.1 hr];exact dA hz
 rw[hrs,AZ];rfl
 show (aC (aI note)).size<= _;omega
 refine⟨fun m h0 h1=>?_,fun m h0 h1=>?_,?_,fun m h0 h1=>rfl⟩
 show aF (iN (bgD n note) bufs rs 1) m=ak (rs.map RcT.r) m
 rw[hrs,KO,ir (fun t ht=>by cases ht)]
 show rdP (rdT ((List.replicate n (⟨z5,[]⟩:ShD)).getD m.toNat gL)).1= _
 have:(List.replicate n (⟨z5,[]⟩:ShD)).getD m.toNat gL=gL:=by
  rw[List.getD,List.getElem?_replicate]
  split<;>rfl
 rw[this];exact NI
 show _=fC (rs.map RcT.r) m
 rw[hrs];rfl
 show (1:Int)=(bn (rs.map RcT.r):Int)
 rw[hrs];rfl
theorem Ku{n:Nat}{bufs:Int}{R:StM ⊕ DkM}(hn:n<=400)(hz:note.size<=60000)(hb:1<=bufs/\bufs<=64)(h:OpnR (bgD n note) bufs [aI note] R er):er=0/\∃S,R= .inl S/\NewS S n note bufs:=by
 have hs:¬szF [aI note]<(bgD n note).log.size:=by rw[E5];exact Nat.lt_irrefl _
 have ho:gh (bgD n note) [aI note]=(bgD n note,0):=if_neg hs
 have hf:bn [aI note]=1:=rfl
 cases h with
 |bufs h1=>exact absurd hb h1
 |off _ h1=>cases h1
 |form _ _ h1=>rw[hf] at h1;cases h1
 |cut _ _ _ h1=>rw[ho] at h1;exact absurd rfl h1
 |bad _ _ _ _ rs hrs hr he=>
  rw[ho,hf] at hr
  cases hr with
  |nil=>exact absurd rfl he
 |ok _ _ _ _ rs hrs hr=>
  rw[ho,hf] at hr
  refine⟨rfl,_,rfl,?_⟩
  cases hr with
  |nil=>exact NK hn hz hb hrs
theorem St.opnN{L:List Ent}{n:Nat}{bufs:Int}{v:Value}(h:St w0 bor (L++[eOx db (bgD n note) bufs [aI note] v er fp]) W)(hn:n<=400)(hz:note.size<=60000)(hb:1<=bufs/\bufs<=64):
  ∃sb S,er=0/\v=po sb 0/\NewS S n note bufs/\St w0 bor (L++[eSt sb db S fp]) W:=by
 obtain⟨sb,R,h1,h2,h3⟩:=(h.ok (eOx db (bgD n note) bufs [aI note] v er fp) (by simp)).holds
 obtain⟨rfl,S,rfl,hS⟩:=Ku hn hz hb h1
 exact⟨sb,S,rfl,h2,hS,St.repl (L2:=[]) h rfl (fun _=>h3) (dv _ _ _ _)⟩
theorem FrR.off{n:Nat}{r:Int}(h:FrR S n S2 r):∀{c:Nat},SOk S c->S.D.off=true->S2.D.off=true:=by
 induction h with
 |stop h=>intro c _ h;exact h
 |told h ht hr ih=>intro c hok ho;exact ih hok ho
 |no h ht hp hk hr ih=>intro c hok ho;exact ih (hp.ok hok) ((hp.ev hok).1.off ho)
 |yes h ht hp hk=>intro c hok ho;exact(hp.ev hok).1.off ho
def FrW(S:StM)(told:Int->Bool)(n:Nat)(S2:StM)(r:Int):Prop:=
 (r= -1/\(∀m:Nat,n<=m->m<S.D.pgs.length->told (m:Int)=true\/(ak S.L (m:Int)).1≠0)/\WI S2 told)\/
 (∃k:Nat,r=(k:Int)/\n<=k/\k<S.D.pgs.length/\told (k:Int)=false/\(ak S.L (k:Int)).1=0/\(∀m:Nat,n<=m->m<k->told (m:Int)=true\/(ak S.L (m:Int)).1≠0)/\WI S2 (fun x=>if x=(k:Int) then true else told x))
theorem FrR.run{n:Nat}{r:Int}(h:FrR S n S2 r):∀{c:Nat}{told:Int->Bool},SOk S c->WI S told->S2.D.off=true\/(S2.D.pgs.length=S.D.pgs.length/\S2.L=S.L/\FrW S told n S2 r):=by
 induction h with
 |stop h=>intro c told hok hw;exact .inr ⟨rfl,rfl,.inl ⟨rfl,fun m h1 h2=>by omega,hw⟩⟩
 |told h ht hr ih=>
  rename_i S S2 n r
  intro c told hok hw
  have h0:told (n:Int)=true:=by rw[<-hw.told (n:Int) (by omega) (by omega)];exact ht
  refine(ih hok hw).imp id fun⟨a,b,h⟩=>⟨a,b,?_⟩
  rcases h with ⟨e,h1,h2⟩|⟨k,e,k1,k2,k3,k4,k5,k6⟩
  exact .inl ⟨e,fun m m1 m2=>by
   rcases Nat.eq_or_lt_of_le m1 with rfl|m1
   exact .inl h0
   exact h1 m m1 m2,h2⟩
  exact .inr ⟨k,e,by omega,k2,k3,k4,fun m m1 m2=>by
   rcases Nat.eq_or_lt_of_le m1 with rfl|m1
   exact .inl h0
   exact k5 m m1 m2,k6⟩
 |no h ht hp hk hr ih=>
  rename_i S S1 S2 n r ok
  intro c told hok hw
  obtain⟨ev,hno,_⟩:=hp.ev hok
  have hok1:=hp.ok hok
  cases hk1:ok with
  |false=>
   refine .inl (hr.off hok1 ((hno hk1).resolve_right (fun h1=>h1 (by omega))))
  |true=>
   have hk0:(ak S.L (n:Int)).1≠0:=by rw[<-hw.cur (n:Int) (by omega) (by omega)];exact fun h0=>hk ⟨hk1,h0⟩
   refine(ih hok1 (ev.wi hw)).imp id fun⟨a,b,h⟩=>⟨a.trans ev.len,b.trans ev.L,?_⟩
   have eL:=ev.L
   have el:=ev.len
   rcases h with ⟨e,h1,h2⟩|⟨k,e,k1,k2,k3,k4,k5,k6⟩
   exact .inl ⟨e,fun m m1 m2=>by
    rcases Nat.eq_or_lt_of_le m1 with rfl|m1
    exact .inr hk0
    rw[<-eL];exact h1 m m1 (by omega),h2⟩
   exact .inr ⟨k,e,by omega,by omega,k3,by rw[<-eL];exact k4,fun m m1 m2=>by
    rcases Nat.eq_or_lt_of_le m1 with rfl|m1
    exact .inr hk0
    rw[<-eL];exact k5 m m1 m2,k6⟩
 |yes h ht hp hk=>
  rename_i S S1 n
  intro c told hok hw
  obtain⟨ev,_,_⟩:=hp.ev hok
  have hw1:=ev.wi hw
  refine .inr ⟨ev.len,ev.L,.inr ⟨n,rfl,Nat.le_refl _,h,by rw[<-hw.told (n:Int) (by omega) (by omega)];exact ht,by rw[<-hw.cur (n:Int) (by omega) (by omega)];exact hk,fun m m1 m2=>by omega,⟨hw1.cur,hw1.im,hw1.frm,fun m m0 m1=>?_⟩⟩⟩
  show (cj S1.told (n:Int) (some true) m).getD false= _
  unfold cj
  split
  rfl
  exact hw1.told m m0 m1
theorem FrR.sok{n:Nat}{r:Int}(h:FrR S n S2 r):∀{c:Nat},SOk S c->SOk S2 (c+3*(S.D.pgs.length-n)+1):=by
 induction h with
 |stop h=>intro c hok;exact hok.mono (by omega)
 |told h ht hr ih=>intro c hok;exact(ih hok).mono (by omega)
 |no h ht hp hk hr ih=>
  intro c hok
  have h1:=ih (hp.ok hok)
  rw[(hp.ev hok).1.len] at h1
  exact h1.mono (by omega)
 |yes h ht hp hk=>intro c hok;exact((hp.ok hok).told _ true).mono (by omega)
end
section
open Go.RowKit
theorem ei.noarm(h:SOk S c)(hp:ei S n pg S2 er)(ha:S.D.armed=false):S2.D.off=S.D.off/\S2.D.armed=false:=by
 obtain⟨S1,h1,h2⟩:=hp
 have ev:=(Ev.load h h1).1
 have hD:S2.D=S1.D:=by
  rcases h2 with ⟨_,rfl⟩|⟨_,_,rfl⟩<;>rfl
 rw[hD]
 exact⟨ev.noarm ha,ev.armed.trans ha⟩
theorem PuA.noarm{cur:Int->PgS}{l:List Int}(h:PuA cur N lsn S l S2 er):∀{c:Nat},SOk S c->(∀n∈l,bJ (iC lsn (N n)))->S.D.armed=false->S2.D.off=S.D.off/\S2.D.armed=false:=by
 induction h with
 |nil S=>intro c _ _ h;exact⟨rfl,h⟩
 |bad hp h he=>
  rename_i S S2 n er l pg
  intro c hok hri ha
  have hokx:SOk (if (cur n).1≠0/\(N n).1=0 then eH S n false else S) (c+1):=by
   split
   exact hok.told n false
   exact hok.mono (by omega)
  have e:(if (cur n).1≠0/\(N n).1=0 then eH S n false else S).D=S.D:=by split<;>rfl
  have:=h.noarm hokx (by rw[e];exact ha)
  rw[e] at this;exact this
 |cons hp h hr ih=>
  rename_i S S1 S2 n er l pg
  intro c hok hri ha
  have hokx:SOk (if (cur n).1≠0/\(N n).1=0 then eH S n false else S) (c+1):=by
   split
   exact hok.told n false
   exact hok.mono (by omega)
  have e:(if (cur n).1≠0/\(N n).1=0 then eH S n false else S).D=S.D:=by split<;>rfl
  obtain⟨a,b⟩:=h.noarm hokx (by rw[e];exact ha)
  rw[e] at a
  obtain⟨a2,b2⟩:=ih (hokx.put (by rw[hp];exact hri n (by simp)) h) (fun m hm=>hri m (by simp[hm])) b
  exact⟨a2.trans a,b2⟩
theorem DoQ.noarm(hok:SOk S c)(h:DoQ S r S2 n er)(ha:S.D.armed=false):S2.D.off=S.D.off/\S2.D.armed=false:=by
 have hev:∀S':StM,Ev S S'->S'.D.off=S.D.off/\S'.D.armed=false:=fun S' ev=>⟨ev.noarm ha,ev.armed.trans ha⟩
 cases h with
 |arg h=>exact⟨rfl,ha⟩
 |page h hp he=>exact hev _ he
 |pow h hp he ho=>exact hev _ he
 |err h hp he h0=>exact hev _ he
 |full h hp he h0 hf=>exact hev _ he
 |img h hp he hk h0 hf hi hn=>
  obtain⟨k,o⟩:=hi.run
  obtain⟨a,b⟩:=hev _ he
  exact⟨(o.noarm b).trans a,o.armed.trans b⟩
 |app h hp he hk h0 hf hi hr hn=>
  rename_i S1 S2 rt
  obtain⟨k,o⟩:=hi.run
  obtain⟨a,b⟩:=hev _ he
  have s:=jZ S2 rt
  have b2:=o.armed.trans b
  exact⟨(s.noarm b2).trans ((o.noarm b).trans a),s.armed.trans b2⟩
 |put h hp he hk h0 hf hi hr ha2 hu=>
  rename_i S1 S3 rt
  obtain⟨c1,hk⟩:=hk
  obtain⟨k,o⟩:=hi.run
  obtain⟨a,b⟩:=hev _ he
  have s:=jZ S3 rt
  have b2:=o.armed.trans b
  have hro:∀n∈cH r.eds,0<=n/\n<(S.D.pgs.length:Int):=fun n hn=>by obtain⟨e,he,rfl⟩:=ky.1 hn;exact lh hp he
  have hokI:=hi.sok hk (fun x hx=>by obtain⟨n,hn,rfl⟩:=List.mem_map.1 hx;exact ng hok (hro n (sH hn)))
  have hok4:=hokI.append (rt:=rt) (by rw[hr];exact h.1)
  have hlb:0<=eE S r/\eE S r<=2147483647:=by
   have h1:=hok.recs_len
   have h2:=o8 S (cH r.eds)
   have h3:=mi r.eds
   have h4:=(dU h.1).many
   unfold eE;omega
  obtain⟨a3,b3⟩:=hu.noarm hok4 (fun n _=>l0 (jO (fun m=>iP hok m) h0 n) hlb) (s.armed.trans b2)
  exact⟨a3.trans ((s.noarm b2).trans ((o.noarm b).trans a)),b3⟩
structure Nice (S:StM) (L:List RecM) (told:Int->Bool) (p c:Nat):Prop where
 ok:SOk S c
 wi:WI S told
 on:S.D.off=false
 ar:S.D.armed=false
 eL:S.L=L
 ep:S.D.pgs.length=p
theorem Ev.nice{L:List RecM}{told:Int->Bool}(h:Ev S S')(ho:SOk S' c')(hn:Nice S L told p c):Nice S' L told p c':=
 ⟨ho,h.wi hn.wi,(h.noarm hn.ar).trans hn.on,h.armed.trans hn.ar,h.L.trans hn.eL,h.len.trans hn.ep⟩
theorem NewS.nice{n:Nat}{bufs:Int}(h:NewS S n note bufs):Nice S [aI note] (fun _=>false) n 0:=⟨h.ok,h.wi,by rw[h.D];rfl,by rw[h.D];rfl,h.L,h.pgs⟩
theorem Nice.do{L:List RecM}{told:Int->Bool}(h:Nice S L told p c)(hq:DoQ S r S2 n er)(ho:SOk S2 c'):n=(rfD p L told r).2.1/\er=rfE p L r/\Nice S2 (rfD p L told r).1 (rfD p L told r).2.2.2 p c':=by
 obtain⟨a,b⟩:=hq.noarm h.ok h.ar
 have e1:=h.eL
 have e2:=h.ep
 rcases hq.run h.ok h.wi with ⟨h1,_⟩|⟨h1,h2,h3,h4,h5,h6⟩
 rw[a,h.on] at h1;cases h1
 rw[e1,e2] at h2 h3 h4 h6
 exact⟨h2,h3,⟨ho,h6,h1,b,h4,h5.trans e2⟩⟩
theorem Nice.page{L:List RecM}{told:Int->Bool}{ok:Bool}(h:Nice S L told p c)(hq:PaQ S n S2 ok):ok=decide (0<=n/\n<(p:Int))/\pgF S n ok=(if 0<=n/\n<(p:Int) then ak L n else bw)/\Nice S2 L told p (c+3):=by
 obtain⟨ev,h1,h2⟩:=hq.ev h.ok
 have hS2:=ev.nice (hq.ok h.ok) h
 rw[h.ep] at h1 h2
 cases ok with
 |true=>
  have h3:=h2 rfl
  refine⟨(decide_eq_true h3).symm,?_,hS2⟩
  rw[if_pos h3,pgF,if_pos rfl,h.wi.cur n h3.1 (by rw[h.ep];exact h3.2),h.eL]
 |false=>
  rcases h1 rfl with h3|h3
  rw[hS2.on] at h3;cases h3
  exact⟨(decide_eq_false h3).symm,by rw[if_neg h3];rfl,hS2⟩
def frO(p:Nat)(L:List RecM)(told:Int->Bool):Option Nat:=(List.range p).find? fun k=>!told (k:Int)&&(ak L (k:Int)).1==0
def frF(p:Nat)(L:List RecM)(told:Int->Bool):Int:=match frO p L told with|some k=>(k:Int)|none=> -1
def frT(p:Nat)(L:List RecM)(told:Int->Bool):Int->Bool:=match frO p L told with|some k=>fun x=>if x=(k:Int) then true else told x|none=>told
theorem yW{L:List RecM}{told:Int->Bool}(h:∀m:Nat,0<=m->m<p->told (m:Int)=true\/(ak L (m:Int)).1≠0):frO p L told=none:=by
 rw[frO,List.find?_eq_none]
 intro k hk
 rcases h k (Nat.zero_le _) (List.mem_range.1 hk) with h1|h1<;>simp[h1]
theorem x1{L:List RecM}{told:Int->Bool}(hk:k<p)(h1:told (k:Int)=false)(h2:(ak L (k:Int)).1=0)(h:∀m:Nat,0<=m->m<k->told (m:Int)=true\/(ak L (m:Int)).1≠0):frO p L told=some k:=by
 have e:List.range p=List.range k++k::(List.range' (k+1) (p-k-1)):=by
  have h3:p=k+(1+(p-k-1)):=by omega
  conv=>lhs;rw[h3,List.range_eq_range',<-List.range'_append_1 (s:=0) (m:=k)]
  rw[List.range_eq_range',Nat.zero_add]
  congr 1
  rw[Nat.add_comm 1,List.range'_succ]
 rw[frO,e,List.find?_append,List.find?_eq_none.2 (fun m hm=>by rcases h m (Nat.zero_le _) (List.mem_range.1 hm) with h1|h1<;>simp[h1])]
 simp[h1,h2]
theorem Nice.fresh{L:List RecM}{told:Int->Bool}{r:Int}(h:Nice S L told p c)(hq:FrR S 0 S2 r):r=frF p L told/\Nice S2 L (frT p L told) p (c+3*p+1):=by
 have ho:=hq.sok h.ok
 rw[h.ep,Nat.sub_zero] at ho
 have hno:S2.D.off=S.D.off/\S2.D.armed=false:=by
  have hk:∀{S S2:StM}{n:Nat}{r:Int},FrR S n S2 r->∀{c:Nat},SOk S c->S.D.armed=false->S2.D.off=S.D.off/\S2.D.armed=false:=by
   intro S S2 n r h
   induction h with
   |stop h=>intro c _ ha;exact⟨rfl,ha⟩
   |told h ht hr ih=>intro c hok ha;exact ih hok ha
   |no h ht hp hk hr ih=>
    intro c hok ha
    obtain⟨ev,_,_⟩:=hp.ev hok
    obtain⟨a,b⟩:=ih (hp.ok hok) (ev.armed.trans ha)
    exact⟨a.trans (ev.noarm ha),b⟩
   |yes h ht hp hk=>intro c hok ha;have ev:=(hp.ev hok).1;exact⟨ev.noarm ha,ev.armed.trans ha⟩
  exact hk hq h.ok h.ar
 rcases hq.run h.ok h.wi with h1|⟨h1,h2,h3⟩
 rw[hno.1,h.on] at h1;cases h1
 have e1:=h.ep
 have e2:=h.eL
 rcases h3 with ⟨rfl,a,b⟩|⟨k,rfl,k1,k2,k3,k4,k5,k6⟩
 have e:=yW (p:=p) (L:=L) (told:=told) (fun m m1 m2=>by rw[<-e2];exact a m m1 (by omega))
 refine⟨by rw[frF,e],?_⟩
 rw[frT,e]
 exact⟨ho,b,hno.1.trans h.on,hno.2,h2.trans e2,h1.trans e1⟩
 have e:=x1 (p:=p) (L:=L) (told:=told) (by omega) k3 (by rw[<-e2];exact k4) (fun m m1 m2=>by rw[<-e2];exact k5 m m1 m2)
 refine⟨by rw[frF,e],?_⟩
 rw[frT,e]
 exact⟨ho,k6,hno.1.trans h.on,hno.2,h2.trans e2,h1.trans e1⟩
theorem Nice.flush{L:List RecM}{told:Int->Bool}(h:Nice S L told p c):(opD S.D 0 flD).2=0/\Nice (dX S (opD S.D 0 flD).1) L told p c:=by
 have ev:Ev S (dX S (opD S.D 0 flD).1):=Ev.disk (cY (P:=fun D'=>D'.pgs=S.D.pgs) rfl rfl fun _=>rfl) (cY (P:=fun D'=>D'.log=S.D.log) rfl rfl fun _=>rfl) (cY (P:=fun D'=>D'.fl=S.D.fl\/D'.fl=S.D.log.size) (.inl rfl) (.inl rfl) fun _=> .inr rfl) (cY (P:=fun D'=>D'.armed=S.D.armed) rfl rfl fun _=>rfl) (fun ho=>cY (P:=fun D'=>D'.off=true) ho rfl fun _=>ho) (fun ha=>by
  rcases mR S.D with ⟨_,e⟩|⟨_,h3,_⟩|⟨_,e⟩
  rw[e]
  rw[h3] at ha;cases ha
  rw[e];rfl)
 refine⟨?_,ev.nice h.ok.flush h⟩
 rcases mR S.D with ⟨h1,_⟩|⟨_,h3,_⟩|⟨_,e⟩
 rw[h.on] at h1;cases h1
 rw[h.ar] at h3;cases h3
 rw[e]
theorem Nice.write{L:List RecM}{told:Int->Bool}(h:Nice S L told p c)(hq:WrQ S n S2 er):er=(if 0<=n/\n<(p:Int) then 0 else 22)/\Nice S2 L told p (c+4):=by
 obtain⟨S1,er1,h1,h2⟩:=hq
 obtain⟨ev,a,b⟩:=Ev.load h.ok h1
 have hok1:=h.ok.load h1
 have hN1:=ev.nice hok1 h
 rcases h2 with ⟨h3,rfl,rfl⟩|⟨rfl,t,ht,hn,h4⟩
 have hnr:=(a h3).resolve_left (by rw[hN1.on];decide)
 rw[h.ep] at hnr
 refine⟨?_,⟨hok1.mono (by omega),hN1.wi,hN1.on,hN1.ar,hN1.eL,hN1.ep⟩⟩
 rw[if_neg hnr]
 cases h1 with
 |hit t ht hn=>exact absurd rfl h3
 |bad h5 h6=>
  unfold rdS at h3 |-
  rw[h.on,if_neg (by decide),h.ep,if_neg hnr]
 |new t blk A cc h5 h6 h7=>exact absurd (by rw[<-h.ep];exact vL h6) hnr
 have hr:=(b rfl).1
 rw[h.ep] at hr
 have e4:(bN S1 t).1=S2/\(bN S1 t).2=er:=⟨by rw[h4],by rw[h4]⟩
 obtain⟨ev2,ho2⟩:=Ev.write hok1 ht
 rw[e4.1] at ev2 ho2
 rw[e4.2] at ho2
 have hN2:=ev2.nice (e4.1 ▸ hok1.write t ht) hN1
 refine⟨?_,hN2⟩
 rw[if_pos hr]
 refine Classical.byContradiction fun h5=>?_
 have:=ho2 h5
 rw[hN2.on] at this;cases this
end
section
open Go.RowKit
theorem Nice.rr{L:List RecM}{told:Int->Bool}(h:Nice S L told p c)(q:List RcT):Nice {S with rr:=q} L told p c:=⟨h.ok.rr q,⟨h.wi.cur,h.wi.im,h.wi.frm,h.wi.told⟩,h.on,h.ar,h.eL,h.ep⟩
theorem ClA.run{l:List Int}(h:ClA S l S2 er):∀{c:Nat},SOk S c->Ev S S2/\SOk S2 (c+l.length)/\(er≠0->S2.D.off=true):=by
 induction h with
 |nil S=>intro c h;exact⟨Ev.refl S,h,fun h=>absurd rfl h⟩
 |bad ht he=>
  intro c h
  obtain⟨a,b⟩:=Ev.clean h ht
  exact⟨a,(h.clean _ ht).mono (by simp only[List.length_cons];omega),b⟩
 |cons ht he hr ih=>
  intro c h
  obtain⟨a,_⟩:=Ev.clean h ht
  obtain⟨a2,b2,d2⟩:=ih (h.clean _ ht)
  exact⟨a.trans a2 h.fl,b2.mono (by simp only[List.length_cons];omega),d2⟩
theorem Hq{D:DkM}(n:Int):shP (opD D 0 syD).1 n=shP D n:=cY (P:=fun D'=>shP D' n=shP D n) rfl rfl fun _=>by
 show rdP (rdT ((D.pgs.map syS).getD n.toNat gL)).1= _
 have e:(D.pgs.map syS).getD n.toNat gL=syS (D.pgs.getD n.toNat gL):=by
  rw[List.getD,List.getD,List.getElem?_map]
  cases D.pgs[n.toNat]? <;>rfl
 rw[e];rfl
theorem Gl(S:StM)(n:Int):aF (dX S (opD S.D 0 syD).1) n=aF S n:=by
 show (match S.pool.find? (fun t=>t.n==n) with|some t=>t.pg.p|none=>shP (opD S.D 0 syD).1 n)=aF S n
 rw[Hq];rfl
theorem Nice.sync{L:List RecM}{told:Int->Bool}(h:Nice S L told p c):(opD S.D 0 syD).2=0/\Nice (dX S (opD S.D 0 syD).1) L told p c:=by
 have hl:(opD S.D 0 syD).1.pgs.length=S.D.pgs.length:=cY (P:=fun D'=>D'.pgs.length=S.D.pgs.length) rfl rfl fun _=>List.length_map ..
 rcases wF S.D 0 syD with ⟨h1,_⟩|⟨_,h1,_⟩|⟨_,_,h1,_⟩|⟨_,_,e⟩
 rw[h.on] at h1;cases h1
 exact absurd rfl h1
 rw[h.ar] at h1;cases h1
 have hw:WI (dX S (opD S.D 0 syD).1) told:=⟨fun n n0 n1=>by
  rw[Gl]
  exact h.wi.cur n n0 (by rw[<-hl];exact n1),fun n n0 n1=>h.wi.im n n0 (by rw[<-hl];exact n1),h.wi.frm,fun n n0 n1=>h.wi.told n n0 (by rw[<-hl];exact n1)⟩
 refine⟨by rw[e],⟨h.ok.sync,hw,?_,?_,h.eL,hl.trans h.ep⟩⟩
 show (opD S.D 0 syD).1.off=false
 rw[e];exact h.on
 show (opD S.D 0 syD).1.armed=false
 rw[e];exact h.ar
def ga(L:List RecM)(note:ByteArray):Int:=if 60000<note.size then 1 else if 1048576<szF L+(aC (aI note)).size then 31 else 0
def ckL(L:List RecM)(note:ByteArray):List RecM:=if ga L note=0 then L++[aI note] else L
theorem Nice.app{L:List RecM}{told:Int->Bool}(h:Nice S L told p c)(hn:note.size<=60000)(he:bz S (rcI (aI note))=(S2,0)):SOk S2 c/\(∀n:Int,0<=n->n<(p:Int)->aF S2 n=ak (L++[aI note]) n)/\S2.D.off=false/\S2.D.armed=false/\S2.L=L++[aI note]/\S2.D.pgs.length=p/\S2.told=S.told/\S2.recs.length=S.recs.length+1:=by
 have s:=jZ S (rcI (aI note))
 have hok:=h.ok.append (rt:=rcI (aI note)) (dA hn)
 rw[he] at s hok
 obtain⟨s1,s2,s3⟩:=s.ok rfl
 refine⟨hok,fun n n0 n1=>?_,s1,s.armed.trans h.ar,?_,?_,s.told,?_⟩
 rw[jb]
 show aF S2 n=ak L n
 rw[aF,s.pool,hH s.pgs,<-h.eL,<-h.wi.cur n n0 (by rw[h.ep];exact n1)];rfl
 show S2.recs.map RcT.r= _
 rw[s2,List.map_append,<-h.eL];rfl
 rw[s.pgs];exact h.ep
 rw[s2];simp
theorem Nice.check{L:List RecM}{told:Int->Bool}(h:Nice S L told p c)(hq:CkQ S note S2 er)(ho:SOk S2 c'):er=ga L note/\Nice S2 (ckL L note) told p c':=by
 have hlz:S.D.log.size=szF L:=by rw[h.ok.log,cE,h.eL]
 have hno:∀e:Int,ga L note=e->e≠0->ckL L note=L:=fun e h1 h2=>if_neg (by rw[h1];exact h2)
 have hcl:∀{q:List RcT}{ns:List Int}{S1:StM}{e:Int},ClA {S with rr:=q} ns S1 e->Nice S1 L told p (c+ns.length)/\e=0:=fun {q ns S1 e} hc=>by
  obtain⟨ev,ok,off⟩:=hc.run (h.rr q).ok
  have hN:=ev.nice ok (h.rr q)
  refine⟨hN,Classical.byContradiction fun h1=>?_⟩
  have:=off h1
  rw[hN.on] at this;cases this
 cases hq with
 |arg h1=>
  have e:ga L note=1:=if_pos h1
  exact⟨e.symm,by rw[hno 1 e (by decide)];exact⟨ho,h.wi,h.on,h.ar,h.eL,h.ep⟩⟩
 |full h1 hf=>
  have e:ga L note=31:=by rw[ga,if_neg (by omega),if_pos (by omega)]
  rw[hno 31 e (by decide)]
  exact⟨e.symm,⟨ho,(h.rr _).wi,h.on,h.ar,h.eL,h.ep⟩⟩
 |cl h1 hf hns hc he=>exact absurd (hcl hc).2 he
 |sync h1 hf hns hc he=>exact absurd (hcl hc).1.sync.1 he
 |app h1 hf hns hc h3 he=>
  rename_i q ns S1
  have hN:=(hcl hc).1.sync.2
  exfalso
  rcases((jZ _ _).no he).2.2 with ⟨_,c1⟩|⟨_,_,c2⟩
  have:=(jZ (dX S1 (opD S1.D 0 syD).1) (rcI (aI note))).noarm hN.ar
  rw[this,hN.on] at c1;cases c1
  have:szF L+(aC (aI note)).size<=1048576:=by omega
  have h5:(dX S1 (opD S1.D 0 syD).1).D.log.size=szF L:=by rw[hN.ok.log,cE,hN.eL]
  rw[h5] at c2
  have h6:(aC (rcI (aI note)).r).size=(aC (aI note)).size:=rfl
  omega
 |flush h1 hf hns hc h3 h2 he=>
  rename_i q ns S1 S3
  have hN:=(hcl hc).1.sync.2
  obtain⟨a1,a2,a3,a4,a5,a6,a7,a8⟩:=hN.app h1 h2
  exfalso
  rcases mR S3.D with ⟨c1,_⟩|⟨_,c1,_⟩|⟨_,c1⟩
  rw[a3] at c1;cases c1
  rw[a4] at c1;cases c1
  rw[c1] at he;exact he rfl
 |ok h1 hf hns hc h3 h2 he=>
  rename_i q ns S1 S3
  have hN:=(hcl hc).1.sync.2
  obtain⟨a1,a2,a3,a4,a5,a6,a7,a8⟩:=hN.app h1 h2
  have e:ga L note=0:=by rw[ga,if_neg (by omega),if_neg (by omega)]
  have eL:ckL L note=L++[aI note]:=if_pos e
  refine⟨e.symm,?_⟩
  rw[eL]
  have hp:(opD S3.D 0 flD).1.pgs=S3.D.pgs:=cY (P:=fun D'=>D'.pgs=S3.D.pgs) rfl rfl fun _=>rfl
  have hoff:(opD S3.D 0 flD).1.off=false:=by rw[(pW he).2.2];exact a3
  have har:(opD S3.D 0 flD).1.armed=false:=by rw[(pW he).2.2];exact a4
  have hlen:(opD S3.D 0 flD).1.pgs.length=p:=by rw[hp];exact a6
  refine⟨ho,⟨fun n n0 n1=>?_,fun n n0 n1=>?_,?_,fun n n0 n1=>?_⟩,hoff,har,a5,hlen⟩
  have n1:n<((opD S3.D 0 flD).1.pgs.length:Int):=n1
  rw[hlen] at n1
  show (match S3.pool.find? (fun t=>t.n==n) with|some t=>t.pg.p|none=>shP (opD S3.D 0 flD).1 n)=ak S3.L n
  rw[a5,<-a2 n n0 n1,hH hp];rfl
  show false=fC S3.L n
  rw[a5,nf,if_pos (show (aI note).kind=9 from rfl)]
  show (S3.recs.length:Int)=(bn S3.L:Int)
  rw[a5,go,if_pos (show (aI note).kind=9 from rfl),a8]
  have:(dX S1 (opD S1.D 0 syD).1).recs.length=L.length:=by rw[<-hN.eL];exact(List.length_map ..).symm
  rw[this]
  have n1:n<((opD S3.D 0 flD).1.pgs.length:Int):=n1
  rw[hlen] at n1
  show (S3.told n).getD false=told n
  rw[a7]
  exact hN.wi.told n n0 (by rw[hN.ep];exact n1)
end
section
open Go.RowKit
theorem Tryz.infoBoolR:(Tryz.prog.info? 4).map (fun i=>(i.zero,i.size,i.bytes))=some (some (.bool false),1,1):=by kernel_rfl
def tB(told:Int->Bool)(p:Nat):List Value:=(List.range p).map fun k:Nat=>Value.bool (told (k:Int))
theorem oa(told:Int->Bool)(p:Nat):(tB told p).length=p:=by simp[tB]
theorem ue{told:Int->Bool}(h:k<p):(tB told p)[k]? =some (.bool (told (k:Int))):=by simp[tB,h]
theorem EJ{told:Int->Bool}(b:Bool):(tB told p).set k (.bool b)=tB (fun x=>if x=(k:Int) then b else told x) p:=by
 refine List.ext_getElem? fun i=>?_
 rw[List.getElem?_set,oa]
 by_cases hi:i<p
 rw[ue hi,ue hi]
 by_cases hk:k=i
 subst hk;rw[if_pos rfl,if_pos hi,if_pos rfl]
 rw[if_neg hk,if_neg (fun h=>hk (by omega))]
 have h2:∀f,(tB f p)[i]? =none:=fun f=>List.getElem?_eq_none (by rw[oa];omega)
 rw[h2,h2]
 by_cases hk:k=i
 rw[if_pos hk,if_neg (by omega)]
 rw[if_neg hk]
def rqL(rb:Nat)(rs:List RcT)(told:Int->Bool)(p:Nat)(rr:List RcT)(RA:Option Addr)(rc:Nat)(TA:Option Addr)(tc:Nat):List Ent:=
 [eB rb 69 #[vi p,.slice RA rs.length rc,vi (szF (rs.map RcT.r):Int),.slice TA p tc],eO 27 8 (.slice RA rs.length rc) rs.length (rs.flatMap rcC),eO 4 1 (.slice TA p tc) p (tB told p),eRc rr]
def eRq(rb:Nat)(rs:List RcT)(told:Int->Bool)(p:Nat)(rr:List RcT)(fp:List Nat):Ent:=⟨fp,fun W=>∃RA rc TA tc,fp=(rqL rb rs told p rr RA rc TA tc).flatMap (·.fp)/\(rqL rb rs told p rr RA rc TA tc).Pairwise Ent.apart/\∀e∈rqL rb rs told p rr RA rc TA tc,e.holds W/\e.loc⟩
theorem md(rb:Nat)(rs:List RcT)(told:Int->Bool)(p:Nat)(rr:List RcT)(fp:List Nat):(eRq rb rs told p rr fp).loc:=fun W W' hk h=>by
 obtain⟨RA,rc,TA,tc,h1,h2,h3⟩:=h
 exact⟨RA,rc,TA,tc,h1,h2,fun e he=>⟨(h3 e he).2 W W' (fun k hk'=>hk k (by rw[eRq,h1];exact List.mem_flatMap.2 ⟨e,he,hk'⟩)) (h3 e he).1,(h3 e he).2⟩⟩
theorem oJ{rb:Nat}{told:Int->Bool}{rr:List RcT}(h:e=eRq rb rs told p rr fp):e=eRq rb rs told p rr e.fp:=by subst h;rfl
section
variable{w0 W:World}{bor:List Nat}{L:List Ent}{rb:Nat}{rs:List RcT}{told:Int->Bool}{p:Nat}{rr:List RcT}{fp:List Nat}
theorem St.unrq(h:St w0 bor (eRq rb rs told p rr fp::L) W):∃RA rc TA tc,St w0 bor (eB rb 69 #[vi p,.slice RA rs.length rc,vi (szF (rs.map RcT.r):Int),.slice TA p tc]::eO 27 8 (.slice RA rs.length rc) rs.length (rs.flatMap rcC)::eO 4 1 (.slice TA p tc) p (tB told p)::eRc rr::L) W:=by
 obtain⟨RA,rc,TA,tc,h1,h2,h3⟩:=(h.ok (eRq rb rs told p rr fp) (by simp)).holds
 exact⟨RA,rc,TA,tc,((h.perm (List.perm_append_singleton _ L).symm).unpackL h1 h3 h2).perm List.perm_append_comm⟩
theorem St.rq{RA:Option Addr}{rc:Nat}{TA:Option Addr}{tc:Nat}(h:St w0 bor (rqL rb rs told p rr RA rc TA tc++L) W):∃fp,St w0 bor (eRq rb rs told p rr fp::L) W:=by
 have h':=h.perm List.perm_append_comm
 have h4:=St.pack (E:=eRq rb rs told p rr ((rqL rb rs told p rr RA rc TA tc).flatMap (·.fp))) h' rfl ⟨RA,rc,TA,tc,rfl,(List.pairwise_append.1 h'.apart).2.1,fun e he=>⟨(h'.ok e (List.mem_append_right _ he)).holds,(h'.ok e (List.mem_append_right _ he)).loc⟩⟩ (md _ _ _ _ _ _)
 exact⟨_,h4.perm (List.perm_append_singleton _ _)⟩
theorem St.rqR{t:RcT}(h:St w0 bor (fR t::eRq rb rs told p rr fp::L) W):∃fp',St w0 bor (eRq rb rs told p (rr++[t]) fp'::L) W:=by
 obtain⟨RA,rc,TA,tc,h1⟩:=(h.u1).unrq
 have h2:St w0 bor (eRc rr::fR t:: _:: _:: _::L) W:=h1.u4.u4
 have h3:St w0 bor (eRc (rr++[t]):: _:: _:: _::L) W:=St.fr (R:=[_,_]) h2 St.mergeR
 exact St.rq h3.u3.u3.u3
end
def eRf(rb:Nat)(L:List RecM)(told:Int->Bool)(p:Nat)(fp:List Nat):Ent:=⟨fp,fun W=>∃rs rr,rs.map RcT.r=L/\(∀t∈rs,t∈rr)/\(eRq rb rs told p rr fp).holds W⟩
theorem vA(rb:Nat)(L:List RecM)(told:Int->Bool)(p:Nat)(fp:List Nat):(eRf rb L told p fp).loc:=fun W W' hk h=>let ⟨rs,rr,h1,h2,h3⟩:=h;⟨rs,rr,h1,h2,md rb rs told p rr fp W W' hk h3⟩
theorem sY{rb:Nat}{L:List RecM}{told:Int->Bool}(h:e=eRf rb L told p fp):e=eRf rb L told p e.fp:=by subst h;rfl
section
variable{w0 W:World}{bor:List Nat}{R:List Ent}{rb:Nat}{rs:List RcT}{L:List RecM}{told:Int->Bool}{p:Nat}{rr:List RcT}{fp:List Nat}
theorem St.unrf(h:St w0 bor (eRf rb L told p fp::R) W):∃rs rr,rs.map RcT.r=L/\(∀t∈rs,t∈rr)/\St w0 bor (eRq rb rs told p rr fp::R) W:=by
 obtain⟨rs,rr,h1,h2,h3⟩:=(h.ok (eRf rb L told p fp) (by simp)).holds
 exact⟨rs,rr,h1,h2,St.repl (L1:=[]) h rfl (fun _=>h3) (md _ _ _ _ _ _)⟩
theorem St.rf(h:St w0 bor (eRq rb rs told p rr fp::R) W)(h1:rs.map RcT.r=L)(h2:∀t∈rs,t∈rr):St w0 bor (eRf rb L told p fp::R) W:=St.repl (L1:=[]) h rfl (fun h3=>⟨rs,rr,h1,h2,h3⟩) (vA _ _ _ _ _)
theorem St.nRc(note:ByteArray)(h:St w0 bor R W):St w0 bor (eRc [rcI (aI note)]::R) W:=by
 have h1:=(fi (h.nM (f:=fR)) 84 3).perm (List.perm_append_singleton _ _)
 have h2:St w0 bor (eRc []::fR (rcI (aI note))::R) W:=h1.u1
 exact St.fr (R:=[_,_]) h2 St.mergeR
end
theorem tT{L:List RecM}(h:∀r∈L,bC r=true)(hz:szF L<=1048576):L.length<=131072:=by have:=ob h;omega
theorem Gg(rs:List RcT)(t:RcT):rs.flatMap rcC++rcC t=(rs++[t]).flatMap rcC:=by rw[List.flatMap_append];simp
theorem oS(rb:Nat)(rs:List RcT)(told:Int->Bool)(p:Nat)(rr:List RcT)(t:RcT)(fp:List Nat)(w:World)(hB:(eRq rb rs told p rr fp).holds w)(hlt:∀k∈fp,k<w.heap.size)(ht:t∈rr)(hrt:bC t.r=true)(hl:rs.length<=200000)(hsz:szF (rs.map RcT.r)<=100000000):
  Calls Tryz.prog 85 #[po rb 0,.agg #[.int .i64 t.r.kind,.int .i64 t.r.xid,.int .i64 t.r.tbl,sn,sn,.slice t.A t.r.eds.length t.c,sn,.string t.r.note]] w ((fun e w2=>e= .returned (.tuple #[])/\∃fp2,St w fp [eRq rb (rs++[t]) told p rr fp2] w2)):=by
 have st1:St w fp [eRq rb rs told p rr fp] w:=St.lend hB (md _ _ _ _ _ _) hlt
 have hfz:=eU hrt
 have hro:=dU hrt
 go_enter Tryz.func85,Tryz.ntmps85
 have aj:=st1
 refine wq (sqr ?_)
 refine b9 #[vi t.r.kind,vi t.r.xid,vi t.r.tbl,sn,sn,.slice t.A t.r.eds.length t.c,sn,.string t.r.note] aj fun cR W1 ay=>?_
 refine aa (wq ?_)
 obtain⟨QA,qc,TA,tc,hq2_⟩:=ay.unrq
 refine aG [0,0,2,6,14,0,32,126,255,511,1023] [[],[],[],[],[0],[4],[],[5,1],[],[],[0]] [[],[],[],[],[],[],[5],[6],[],[],[7]] [[],[],[],[],[],[],[],[1],[],[],[0]] [.k 4 (vp rb),.k 5 (vp rb),.k 6 (vp rb),.k 7 (po rb 1),.c 8 (.slice QA rs.length qc),.c 9 (.agg #[vi t.r.kind,vi t.r.xid,vi t.r.tbl,sn,sn,.slice t.A t.r.eds.length t.c,sn,.string t.r.note]),.a 10,.a 11,.k 12 (vp rb),.k 13 (po rb 1),.n] (fun ix d b X=>match ix with|0|1|2|3|4|5=>True|6=>d 10= .slice ((some ⟨(pb' (b 10)),0,none⟩)) 1 1/\X 5=eO 27 8 (.slice ((some ⟨(pb' (b 10)),0,none⟩)) 1 1) 1 ([vi t.r.kind,vi t.r.xid,vi t.r.tbl,sn,sn,.slice t.A t.r.eds.length t.c,sn,.string t.r.note])|7=>d 11= .slice (sA (b 11)) (rs.length+1) (sC (b 11))/\X 6=eO 27 8 (.slice (sA (b 11)) (rs.length+1) (sC (b 11))) (rs.length+1) ((rs++[t]).flatMap rcC)|8|9=>True|10=>X 7=eB rb 69 #[vi ((p:Int)),.slice (sA (b 11)) (rs.length+1) (sC (b 11)),vi ((szF (rs.map RcT.r):Int)),.slice TA p tc]|_=>True) [2,3,4,5,6,7] [4,5,6,7,10] [(4,0,10,14)] hq2_ ?_ ?_ ?_
 exact fun ix _ _ _ _ _ _ hs hb hx h=>match ix,h with
 |6,h=>by dsimp only;rw[<-hs 10 rfl,<-hb 10 rfl,<-hx 5 rfl];exact h
 |7,h=>by dsimp only;rw[<-hs 11 rfl,<-hb 11 rfl,<-hx 6 rfl];exact h
 |10,h=>by dsimp only;rw[<-hb 11 rfl,<-hx 7 rfl];exact h
 |0,_|1,_|2,_|3,_|4,_|5,_|8,_|9,_|_+11,_=>trivial
 refine⟨?_,?_,?_,?_,?_,trivial⟩
 exact xs4 rfl id fun cx=>ae rfl (by kernel_rfl) (cx.an 3) ((cx.bi 0 rfl).cell 1)
 exact xs4 rfl id fun cx=>ce (n:=8) rfl (by kernel_rfl) (by kernel_rfl) (cx.ou 3) (cx.bi 4 rfl) (nle rfl) rfl
 refine svA fun g b W X cx=>?_
 have Rn:g (.tmp 9)= .agg #[vi t.r.kind,vi t.r.xid,vi t.r.tbl,sn,sn,.slice t.A t.r.eds.length t.c,sn,.string t.r.note]:=(cx.an 5)
 exact mp (e:=27) (sz:=8) (xs:=[vi t.r.kind,vi t.r.xid,vi t.r.tbl,sn,sn,.slice t.A t.r.eds.length t.c,sn,.string t.r.note]) rfl (by simp[go_sem,Rn]) rfl (by decide) rfl rfl (fun _ _ _ _ _=> .intro)
 refine svA fun g b W X cx=>?_
 obtain⟨i0,hi0,hz0,hz1,hz2⟩:=info_parts Tryz.infoRecJ
 refine jh (n:=rs.length) (m:=1) (nm:=rs.length+1) (sz:=8) (xs:=rs.flatMap rcC) (news:=[vi t.r.kind,vi t.r.xid,vi t.r.tbl,sn,sn,.slice t.A t.r.eds.length t.c,sn,.string t.r.note]) (xs':=(rs++[t]).flatMap rcC) rfl (ty:=66) rfl (by kernel_rfl) hi0 hz0 hz1 hz2 rfl (by decide) (cx.an 4) cx (cx.init 1 _ rfl) rfl (dTn (cx.an 6)).1 (by simp) (At.of_ownN (cx.row (dTn (cx.an 6)).2 rfl)) (by simp[Value.oneCell']) (by simp only[maxLen];omega) (by omega) rfl rfl rfl (by omega) ((Gg rs t)) (fun d i X' hs hb hv hx=>?_)
 exact⟨hv,hx⟩
 refine svA fun g b W X cx=>?_
 exact bx (n:=1) rfl (cx.an 9) (dTn (cx.an 7)).1 (by kernel_rfl) (by kernel_rfl) (by kernel_rfl) cx (cx.init 0 _ rfl) rfl (nle rfl) (by kernel_rfl) rfl rfl rfl (fun d i X' hs hb hx=>by rw[hb 11];exact hx)
 intro d b X W3 hD aW fr aD
 simp only[exq 5 ((dTn (hD 6 lq)).2),exq 6 ((dTn (hD 7 lq)).2),exq 7 ((dTn (hD 10 lq)))] at aW
 simp only[ed 10 ((dTn (hD 6 lq)).1),ed 11 ((dTn (hD 7 lq)).1)] at aD
 generalize pb' (b 10)=RW,sA (b 11)=xq,sC (b 11)=xr at aW aD
 clear hD;subst aD;clear d b X
 refine aa (aG [0,0,2,6,14,0,32,96,254,511,1023,2047] [[],[],[],[],[5],[2],[1],[],[],[],[],[5]] [[],[],[],[],[],[],[],[],[],[],[],[6]] [[],[],[],[],[],[],[],[],[],[],[],[5]] [.k 14 (vp rb),.k 15 (vp rb),.k 16 (vp rb),.k 17 (po rb 2),.c 18 (vi ((szF (rs.map RcT.r):Int))),.c 19 (.agg #[vi t.r.kind,vi t.r.xid,vi t.r.tbl,sn,sn,.slice t.A t.r.eds.length t.c,sn,.string t.r.note]),.c 20 (.string ((aC t.r))),.k 21 (vi ((((aC t.r)).size:Int))),tI 22 ((szF (rs.map RcT.r):Int)+(((aC t.r)).size:Int)) (by omega),.k 23 (vp rb),.k 24 (po rb 2),.n] (fun ix d b X=>match ix with|0|1|2|3|4|5|6|7|8|9|10=>True|11=>X 6=eB rb 69 #[vi ((p:Int)),.slice xq (rs.length+1) xr,vi ((szF (rs.map RcT.r):Int)+(((aC t.r)).size:Int)),.slice TA p tc]|_=>True) [0,1,2,3,4,6] [4,5,6,11] [(14,0,11,25)] aW ?_ ?_ ?_)
 exact fun ix _ _ _ _ _ _ hs hb hx h=>match ix,h with
 |11,h=>by dsimp only;rw[<-hx 6 rfl];exact h
 |0,_|1,_|2,_|3,_|4,_|5,_|6,_|7,_|8,_|9,_|10,_|_+12,_=>trivial
 refine⟨?_,?_,?_,?_,trivial⟩
 exact xs4 rfl id fun cx=>ae rfl (by kernel_rfl) (cx.an 3) ((cx.bi 5 rfl).cell 2)
 exact xs4 rfl id fun cx=>ce (n:=8) rfl (by kernel_rfl) (by kernel_rfl) (cx.ou 3) (cx.bi 2 rfl) (nle rfl) rfl
 exact xsc rfl id rfl rfl fun cx=>⟨_,jT t.r.kind t.r.xid t.r.tbl t.A t.c t.r.eds t.r.note _ (dI (CtxV.holdF cx (cx.init 1 _ rfl) rfl) ht) (by have h_:=hro.many;omega) (fun e he=>by have h_:=dx (hro.eds e he);omega) (by have h_:=hro.note;omega),(ax (cx.an 5))⟩
 refine svA fun g b W X cx=>?_
 exact bx (n:=1) rfl (cx.an 10) (cx.an 8) (by kernel_rfl) (by kernel_rfl) (by kernel_rfl) cx (cx.init 5 _ rfl) rfl (nle rfl) (by kernel_rfl) rfl rfl rfl (fun _ _ _ _ _=>id)
 intro d b X W4 hD bc fr aD
 simp only[exq 6 ((dTn (hD 11 lq)))] at bc
 clear hD;subst aD;clear d b X
 refine bpe (.tuple #[]) (by simp[results,Tryz.results85,go_sem]) ?_
 obtain⟨fp5_,hr5_⟩:=St.rq (rs:=(rs++[t])) (told:=told) (p:=p) (rr:=rr) (by have h_:=bc.u2.c0.u2.c0.u2.u3;rw[rqL,show (rs++[t]).length=rs.length+1 by simp,show (szF ((rs++[t]).map RcT.r):Int)=(szF (rs.map RcT.r):Int)+((aC t.r).size:Int) by rw[List.map_append,List.map_singleton,pf];omega];exact h_)
 exact⟨rfl,_,hr5_⟩
theorem By(note:ByteArray)(w:World)(hnt:note.size<=60000):
  Calls Tryz.prog 48 #[.int .i64 5,.string note] w ((fun e w2=>∃rb,e= .returned (po rb 0)/\∃fp2,St w [] [eRf rb [aI note] (fun _=>false) 5 fp2] w2)):=by
 go_enter Tryz.func48,Tryz.ntmps48
 have aj:=St.start w
 refine wq (sqr (sqp [.k 4 (.pointer none)] ?_))
 refine aa (wq (sqr (sqp [.m 6 0,.m 7 0] ?_)))
 refine ea (fun x_=>sA x_) (fun vU=> .slice vU 5 5) (fun vU=>eO 4 1 (.slice vU 5 5) 5 (List.replicate 5 (.bool false))) aj (by
   refine svA fun b a W X cx=>?_
   obtain⟨i0,hi0,hz0,hz1,hz2⟩:=info_parts Tryz.infoBoolR
   exact Jw (n:=5) rfl (by kernel_rfl) hi0 hz0 hz1 hz2 rfl (cx.ou 7) (cx.ou 7) (by omega) (by omega) (by omega) (by omega) rfl rfl (fun _ _ _ _ _=> .intro)) fun vU W4 bc=>?_
 refine sqp [.k 9 (.agg #[vi 5,sn,vi 0,.slice vU 5 5])] ?_
 refine b9 #[vi 5,sn,vi 0,.slice vU 5 5] bc fun rK W6 bK=>?_
 refine sqp [.m 5 10] ?_
 refine aa (wq ?_)
 have hn9:=fi bK 27 8
 simp only[List.cons_append,List.nil_append] at hn9
 have hn8_:=St.nRc note hn9
 obtain⟨fp10_,hr10_⟩:=St.rq (rs:=[]) (told:=(fun _=>false)) (p:=5) (rr:=[rcI (aI note)]) (hn8_.u1.u3.u3)
 refine sqr (sqp [.m 11 5,.m 12 1,.k 13 (.agg #[vi 9,vi 0,vi 0,sn,sn,sn,sn,.string note])] ?_)
 refine bM (fun X_=>X_.fp) (.tuple #[]) (fun I9=>eRq rK ([]++[(rcI (aI note))]) (fun _=>false) 5 ([rcI (aI note)]) I9) 0 hr10_ (by
   refine svA fun b a W X cx=>?_
   refine am.call (au (args:=#[vp rK,.agg #[vi 9,vi 0,vi 0,sn,sn,sn,sn,.string note]]) rfl cx.sees rfl (by kernel_rfl) (aM (cx.ou 11) (cx.ou 13))) ?_
   refine(oS rK ([]) (fun _=>false) 5 ([rcI (aI note)]) (rcI (aI note)) _ _ (CtxV.holdF cx (cx.init 0 _ rfl) rfl) (CtxV.ltF cx (cx.init 0 _ rfl) rfl) (by simp) (dA hnt) (by decide) (by decide)).mono ?_
   rintro e W1 ⟨rfl,fp4,aT⟩
   refine⟨_,rfl,aK (E:=eRq rK ([]) (fun _=>false) 5 ([rcI (aI note)]) fp10_) [eRq rK ([]++[(rcI (aI note))]) (fun _=>false) 5 ([rcI (aI note)]) fp4] (cx.init 0 _ rfl) rfl rfl aT (fun d g X' hs hb hv hN=>?_)⟩
   have aJ:=(hv 14 rfl).1;have aV:=(hv 14 rfl).2
   exact⟨aJ.trans rfl,oJ ((List.cons.inj hN).1)⟩) fun I9 wY cq=>?_
 refine aa (wq (sqr (sqp [.m 15 5,.m 4 15] ?_)))
 refine aa (wp_ret ?_)
 refine bpr (vp rK) (ag Tryz.results48 rpt) ?_
 have CX:=St.rf (L:=[aI note]) cq (rfl) (fun t h=>h)
 exact⟨_,rfl,_,CX⟩
theorem yp(rb:Nat)(L:List RecM)(told:Int->Bool)(p:Nat)(note:ByteArray)(fp:List Nat)(w:World)(hB:(eRf rb L told p fp).holds w)(hlt:∀k∈fp,k<w.heap.size)(hL:∀r∈L,bC r=true)(hz:szF L<=1048576)(hnt:note.size<=9000000):
  Calls Tryz.prog 80 #[po rb 0,.string note] w ((fun e w2=>e= .returned (.int .i64 (ga L note))/\∃fp2,St w fp [eRf rb (ckL L note) told p fp2] w2)):=by
 have st1:St w fp [eRf rb L told p fp] w:=St.lend hB (vA _ _ _ _ _) hlt
 have hll:=tT hL hz
 go_enter Tryz.func80,Tryz.ntmps80
 have aj:=st1
 refine wq (sqr (sqp [.k 4 (vi 0)] ?_))
 refine aa (wq (sqr (sqp [.m 6 1,.k 7 (.agg #[vi 9,vi 0,vi 0,sn,sn,sn,sn,.string note])] ?_)))
 refine b8 #[vi 0,vi 0,vi 0,sn,sn,sn,sn,.string ByteArray.empty] aj fun LX W4 bc=>?_
 refine aX (n:=8) 1 #[vi 9,vi 0,vi 0,sn,sn,sn,sn,.string note] bc fun W5 aR=>?_
 refine aa (wq (wq (sqr (sqp [.m 8 1,.k 9 (vi ((note.size:Int))),.k 10 (.bool (decide (60000<(note.size:Int))))] ?_))))
 refine aa (wds (fun nB nU=>?_) fun nB nU=>?_)
 refine wq (sqr (sqp [.k 4 (vi 1)] ?_))
 refine aa (wp_ret (ai ?_))
 refine bpr (vi 1) (ag Tryz.results80 rpt) ?_
 exact⟨by rw[ga,if_pos (by have h_:=nB;simp at h_;omega)],_,by rw[ckL,if_neg (by rw[ga,if_pos (by have h_:=nB;simp at h_;omega)];decide)];exact aR.u1.c0⟩
 refine wp_skip (aa (wq (wq ?_)))
 have hn6:note.size<=60000:=by have h_:=nB;simp at h_;omega
 have hfs:=eU (dA hn6)
 obtain⟨rs,rr,hrs,hsub,ho11_⟩:=aR.unrf
 have hzs:szF (rs.map RcT.r)<=1048576:=hrs ▸ hz
 have hls_:rs.length<=200000:=by have h_:=congrArg List.length hrs;rw[List.length_map] at h_;omega
 obtain⟨QA,qc,TA,tc,hq12_⟩:=ho11_.unrq
 refine bP [0,1,3,7,0,16,48,127,255] [[],[],[],[0],[4]] [.k 11 (vp rb),.k 12 (vp rb),.k 13 (po rb 2),.c 14 (vi ((szF (rs.map RcT.r):Int))),.c 15 (.agg #[vi 9,vi 0,vi 0,sn,sn,sn,sn,.string note]),.c 16 (.string ((aC (aI note)))),.k 17 (vi ((((aC (aI note))).size:Int))),tI 18 ((szF (rs.map RcT.r):Int)+(((aC (aI note))).size:Int)) (by omega),.k 19 (.bool (decide (1048576<(szF (rs.map RcT.r):Int)+(((aC (aI note))).size:Int))))] [0,1,2,3,4] [3,4,5] [(11,0,9,20)] hq12_ ?_ fun IQ jj=>?_
 refine⟨?_,?_,?_,trivial⟩
 exact xs4 rfl id fun cx=>ae rfl (by kernel_rfl) (cx.an 2) ((cx.bi 0 rfl).cell 2)
 exact xs4 rfl id fun cx=>ce (n:=8) rfl (by kernel_rfl) (by kernel_rfl) (cx.ou 5) (cx.bi 4 rfl) (nle rfl) rfl
 exact xsc rfl id rfl rfl fun cx=>⟨_,jT 9 0 0 none 0 [] note _ (fun j u h=>by cases j<;>cases h) (by decide) (fun e he=>by cases he) (by omega),(ax (cx.an 4))⟩
 refine aa (wds (fun gP py=>?_) fun gP py=>?_)
 refine wq (sqr (sqp [.k 4 (vi 31)] ?_))
 refine aa (wp_ret (ai ?_))
 refine bpr (vi 31) (ag Tryz.results80 rpt) ?_
 obtain⟨fp16_,hr16_⟩:=St.rq (rs:=rs) (told:=told) (p:=p) (rr:=rr) (jj)
 have CX:=St.rf (L:=L) hr16_ (hrs) (hsub)
 have he_:ga L note=31:=by rw[ga,if_neg (by omega:¬ 60000<note.size),if_pos (by rw[hrs] at gP;have h_:=gP;simp at h_;omega)]
 exact⟨by rw[he_],_,by rw[ckL,if_neg (by rw[he_];decide)];exact CX.u1.c0⟩
 refine wp_skip (aa (wq ?_))
 obtain⟨fp18_,hr18_⟩:=St.rq (rs:=rs) (told:=told) (p:=p) (rr:=rr) (jj)
 have hn19:=fi hr18_ 84 3
 simp only[List.cons_append,List.nil_append] at hn19
 have htm_:rcI (aI note)∈rr++[rcI (aI note)]:=by simp
 obtain⟨fp20_,hx20_⟩:=St.rqR (t:=rcI (aI note)) hn19.u2
 refine sqr (sqp [.m 20 0] ?_)
 refine bI 1 8 hx20_ ?_
 refine bM (fun X_=>X_.fp) (.tuple #[]) (fun ve=>eRq rb (rs++[(rcI (aI note))]) told p (rr++[rcI (aI note)]) ve) 0 hx20_ (by
   refine svA fun g a W X cx=>?_
   refine am.call (au (args:=#[vp rb,.agg #[vi 9,vi 0,vi 0,sn,sn,sn,sn,.string note]]) rfl cx.sees rfl (by kernel_rfl) (aM (cx.ou 20) (cx.ou 21))) ?_
   refine(oS rb rs told p (rr++[rcI (aI note)]) (rcI (aI note)) _ _ (CtxV.holdF cx (cx.init 0 _ rfl) rfl) (CtxV.ltF cx (cx.init 0 _ rfl) rfl) htm_ (dA hn6) hls_ (Nat.le_trans hzs (by decide))).mono ?_
   rintro e W1 ⟨rfl,fp4,aT⟩
   refine⟨_,rfl,aK (E:=eRq rb rs told p (rr++[rcI (aI note)]) fp20_) [eRq rb (rs++[(rcI (aI note))]) told p (rr++[rcI (aI note)]) fp4] (cx.init 0 _ rfl) rfl rfl aT (fun b d X' hs hb hv hN=>?_)⟩
   have aJ:=(hv 22 rfl).1;have aV:=(hv 22 rfl).2
   exact⟨aJ.trans rfl,oJ ((List.cons.inj hN).1)⟩) fun ve uA cF=>?_
 refine aa (wq (sqr (sqp [.k 4 (vi 0)] ?_)))
 refine aa (wp_ret ?_)
 refine bpr (vi 0) (ag Tryz.results80 rpt) ?_
 have he_:ga L note=0:=by rw[ga,if_neg (by omega:¬ 60000<note.size),if_neg (by rw[hrs] at gP;have h_:=gP;simp at h_;omega)]
 have Ow:=St.rf (L:=(L++[aI note])) cF (by rw[List.map_append,hrs];rfl) (fun t h=>(List.mem_append.1 h).elim (fun h=>List.mem_append_left _ (hsub t h)) fun h=>List.mem_append_right _ h)
 exact⟨by rw[he_],_,by rw[ckL,if_pos he_];exact Ow.u1.c0⟩
theorem x7(rb:Nat)(L:List RecM)(told:Int->Bool)(p:Nat)(fp:List Nat)(w:World)(hB:(eRf rb L told p fp).holds w)(hlt:∀k∈fp,k<w.heap.size)(hL:∀r∈L,bC r=true)(hz:szF L<=1048576)(hp:p<=400):
  Calls Tryz.prog 78 #[po rb 0] w ((fun e w2=>e= .returned (.int .i64 (frF p L told))/\∃fp2,St w fp [eRf rb L (frT p L told) p fp2] w2)):=by
 have st1:St w fp [eRf rb L told p fp] w:=St.lend hB (vA _ _ _ _ _) hlt
 have hll:=tT hL hz
 go_enter Tryz.func78,Tryz.ntmps78
 have aj:=st1
 refine wq (sqr (sqp [.k 2 (vi 0)] ?_))
 refine aa (wq (wq ?_))
 obtain⟨rs,rr,hrs,hsub,ho2_⟩:=aj.unrf
 have hzs:szF (rs.map RcT.r)<=1048576:=hrs ▸ hz
 have hrl:rs.length<=1000000:=by have h_:=congrArg List.length hrs;rw[List.length_map] at h_;omega
 have hrL:∀t∈rs,bC t.r=true:=fun t ht=>hL _ (hrs ▸ List.mem_map.2 ⟨t,ht,rfl⟩)
 obtain⟨QA,qc,TA,tc,hq3_⟩:=ho2_.unrq
 refine sqr (sqp [.k 3 (vi 0)] ?_)
 refine aa (wp_block ?_)
 refine aN (fun t_ mz az W=>∃k:Nat,k<=p/\(∀m:Nat,0<=m->m<k->told (m:Int)=true\/(ak L (m:Int)).1≠0)/\mz=p-k/\az=⟨(ovr (jv az) [(2,2,1,[vi ((k:Int))]),(0,4,33,[])] t_).toArray,[]⟩/\St w fp [eB rb 69 #[vi ((p:Int)),.slice QA rs.length qc,vi ((szF (rs.map RcT.r):Int)),.slice TA p tc],eO 27 8 (.slice QA rs.length qc) rs.length (rs.flatMap rcC),eO 4 1 (.slice TA p tc) p (tB told p),eRc rr] W) (p-0) ?_ ?_
 exact⟨0,Nat.zero_le _,fun m h0 h1=>absurd h1 (by omega),rfl,(by kernel_rfl),hq3_.pk [0,1,2,3]⟩
 rintro n5 a5 W5 ⟨k,hk,hno,rfl,hj_,aR⟩
 refine ovz hj_ fun w4=>?_
 refine wq (wq (sqr (sqp [.m 4 3,.m 5 0,.k 6 (vp rb),.k 7 (vp rb)] ?_)))
 refine aq 0 aR ?_
 refine sqp [.k 9 (.bool (decide ((k:Int)<(p:Int))))] ?_
 refine aa (wds (fun jp jC=>?_) fun jp jC=>?_)
 refine wp_skip (aa (wq (wp_block (wq ?_))))
 rcases htk:told (k:Int) with _|_
 refine sqr (sqp [.m 12 0,.k 13 (vp rb),.k 14 (po rb 3)] ?_)
 refine aq 0 aR ?_
 refine sqp [.m 16 3] ?_
 refine sql (.pointer (some ((ad TA).add k))) aR (fun cx=>bS (e:=4) (m:=k) rfl (by kernel_rfl) (by kernel_rfl) (cx.ou 15) (cx.ou 16) (by omega) (by omega) (At.of_own (cx.ri 2 rfl)) ((oa _ _))) ?_
 have hd20:((told (k:Int)))=false:=htk
 refine sqv (.bool false) aR (s4 rfl (fun _ _ _ h=>h.trans (congrArg Value.bool hd20)) fun cx=>ae rfl (by kernel_rfl) (cx.ou 17) (At.cellAd (At.of_own (cx.ri 2 rfl)) (ue (by omega)))) fun r9 dd=>?_
 refine sqp [.k 19 (.bool true),.k 20 (.bool true)] ?_
 refine c7 20 [21,22,23,24,25,26,27,28] rfl rfl ?_
 refine sqp [.m 21 0,.k 22 (vp rb),.k 23 (po rb 1)] ?_
 refine aq 0 dd ?_
 refine sqp [.m 25 3] ?_
 refine iE (fun iX iY=> .agg #[vi ((ak (rs.map RcT.r) (k:Int)).1),vi ((ak (rs.map RcT.r) (k:Int)).2.1),.slice iX ((ak (rs.map RcT.r) (k:Int)).2.2.length) iY]) (fun iX iY=>eO 9 1 (.slice iX ((ak (rs.map RcT.r) (k:Int)).2.2.length) iY) ((ak (rs.map RcT.r) (k:Int)).2.2.length) ((ak (rs.map RcT.r) (k:Int)).2.2.map Value.string)) dd (fun cx=>⟨_,(kL _ _ rs (k:Int) _ ⟨At.of_ownN (cx.ri 1 rfl),fun t ht=>dI (CtxV.holdF cx (cx.init 3 _ rfl) rfl) (hsub t ht)⟩ hrl hrL).mono (by rintro e W1 ⟨A4,c4,rfl,ho,hx⟩;exact⟨_,_,rfl,St.one hx (cu ho)⟩),(aM (cx.ou 24) (cx.ou 25))⟩) fun iX iY zh dS=>?_
 refine sql (vi ((ak (rs.map RcT.r) (k:Int)).1)) dS (fun cx=>lR rfl (cx.ou 26) (fun _=>by kernel_rfl)) ?_
 refine sqp [.k 28 (.bool (((ak (rs.map RcT.r) (k:Int)).1)==0))] ?_
 refine sqp [.k 29 (.bool (((ak (rs.map RcT.r) (k:Int)).1)==0))] ?_
 refine aa (wbs (fun fw=>?_) fun fw=>?_)
 have jA:=beq_iff_eq.1 fw
 refine wq (sqr (sqp [.m 30 0,.k 31 (vp rb),.k 32 (po rb 3)] ?_))
 refine aq 0 dS ?_
 refine sqp [.m 34 3] ?_
 refine sql (.pointer (some ((ad TA).add k))) dS (fun cx=>bS (e:=4) (m:=k) rfl (by kernel_rfl) (by kernel_rfl) (cx.ou 33) (cx.ou 34) (by omega) (by omega) (At.of_own (cx.ri 2 rfl)) ((oa _ _))) ?_
 refine sqc (eO 4 1 (.slice TA p tc) p (tB (fun x=>if x=(k:Int) then true else told x) p)) 2 dS (by
   refine svA fun b a W X cx=>?_
   exact kN (m:=k) (n:=p) rfl (cx.ou 35) (show _=Value.bool true from(cx.co _)) (by kernel_rfl) rfl rfl cx (cx.init 2 _ rfl) rfl (by omega) rfl ((EJ true)) rfl rfl (fun _ _ _ _ _=>id)) fun qD dq=>?_
 refine aa (wq (sqr (sqp [.m 36 3,.m 2 36] ?_)))
 refine aa (wp_ret (bb (ai (ai (bb (ai ?_))))))
 refine bpr (vi ((k:Int))) (ag Tryz.results78 rpt) ?_
 have hfo:=x1 (p:=p) (L:=L) (told:=told) (k:=k) (by omega) htk (by have h_:=fw;rw[hrs] at h_;simpa using h_) hno
 obtain⟨fp42_,hr42_⟩:=St.rq (rs:=rs) (told:=(fun x=>if x=(k:Int) then true else told x)) (p:=p) (rr:=rr) (dq.u4.c0)
 have Ox:=St.rf (L:=L) hr42_ (hrs) (hsub)
 exact⟨by rw[frF,hfo],_,by rw[frT,hfo];exact Ox⟩
 have jA:=beq_eq_false_iff_ne.1 fw
 refine wp_skip (av (aa (sqr (sqp [.m 10 3,sI 11 ((k:Int)+1) (by omega),.m 3 11] ?_))))
 refine aa ?_
 refine⟨p-((k+1)),by omega,?_⟩
 exact⟨(k+1),by omega,fun m h0 h1=>(Nat.lt_or_ge m k).elim (fun h2=>hno m h0 h2) fun h2=>by have hmk:m=k:=(by omega);subst hmk;exact .inr (by have h_:=fw;rw[hrs] at h_;simpa using h_),rfl,(by kernel_rfl),dS.pk [0,1,2,3]⟩
 refine sqr (sqp [.m 12 0,.k 13 (vp rb),.k 14 (po rb 3)] ?_)
 refine aq 0 aR ?_
 refine sqp [.m 16 3] ?_
 refine sql (.pointer (some ((ad TA).add k))) aR (fun cx=>bS (e:=4) (m:=k) rfl (by kernel_rfl) (by kernel_rfl) (cx.ou 15) (cx.ou 16) (by omega) (by omega) (At.of_own (cx.ri 2 rfl)) ((oa _ _))) ?_
 have hd54:((told (k:Int)))=true:=htk
 refine sqv (.bool true) aR (s4 rfl (fun _ _ _ h=>h.trans (congrArg Value.bool hd54)) fun cx=>ae rfl (by kernel_rfl) (cx.ou 17) (At.cellAd (At.of_own (cx.ri 2 rfl)) (ue (by omega)))) fun OY kT=>?_
 refine yI [.k 19 (.bool false),.k 20 (.bool false)] 20 [21,22,23,24,25,26,27,28] ?_
 refine sqp [.k 29 (.bool false)] ?_
 refine aa (wcf rfl (wp_skip (av (aa (sqr (sqp [.m 10 3,sI 11 ((k:Int)+1) (by omega),.m 3 11] ?_))))))
 refine aa ?_
 refine⟨p-((k+1)),by omega,?_⟩
 exact⟨(k+1),by omega,fun m h0 h1=>(Nat.lt_or_ge m k).elim (fun h2=>hno m h0 h2) fun h2=>by have hmk:m=k:=(by omega);subst hmk;exact .inl htk,rfl,(by kernel_rfl),kT.pk [0,1,2,3]⟩
 refine wp_exit (al (al (bf (aa (wq (sqr (sqp [.k 2 (vi (-1))] ?_)))))))
 refine aa (wp_ret ?_)
 refine bpr (vi (-1)) (ag Tryz.results78 rpt) ?_
 have hfo:=yW (p:=p) (L:=L) (told:=told) (fun m h0 h1=>hno m h0 (by omega))
 obtain⟨fp62_,hr62_⟩:=St.rq (rs:=rs) (told:=told) (p:=p) (rr:=rr) (aR)
 have Oy:=St.rf (L:=L) hr62_ (hrs) (hsub)
 exact⟨by rw[frF,hfo],_,by rw[frT,hfo];exact Oy⟩
end
section
open Go.RowKit
theorem Ag(s:ByteArray):s.extract 0 s.size=s:=by
 apply ByteArray.ext
 rw[ByteArray.data_extract]
 simp
theorem K7{N:Int}(h:0<=N/\N<=9223372036854775807)(k:Nat):0<=shN N k/\shN N k<=9223372036854775807:=by
 have h1:(0:Int)<256^k:=Int.pow_pos (by decide)
 exact⟨Int.ediv_nonneg h.1 (by omega),Int.le_trans (Int.ediv_le_self _ h.1) h.2⟩
theorem J9(N:Int)(k:Nat):shN N k / 256=shN N (k+1):=by
 rw[shN,shN,Int.pow_succ]
 exact Int.ediv_ediv_of_nonneg (Int.le_of_lt (Int.pow_pos (by decide)))
theorem yv(a b:List UInt8):bH a++bH b=bH (a++b):=(nG a b).symm
theorem DE{X:List UInt8}:bH (X++List.replicate m (0:UInt8))++(⟨#[0]⟩:ByteArray)=bH (X++List.replicate (m+1) (0:UInt8)):=by
 rw[show (⟨#[0]⟩:ByteArray)=bH [0] from rfl,yv,List.append_assoc,List.replicate_succ']
theorem DW(k l:Int)(pl:List ByteArray)(m:Nat):(bH (cf k l pl.length++bh pl++List.replicate m (0:UInt8))).size=6+aU pl+m:=by
 rw[ll,List.length_append,List.length_append,gm,dE,List.length_replicate]
theorem Co{k l:Int}{pl:List ByteArray}{j:Nat}(h:j<pl.length):bH (cf k l pl.length++bh (pl.take j))++jy (pl.getD j ByteArray.empty)=bH (cf k l pl.length++bh (pl.take (j+1))):=by
 rw[nI pl j h,<-List.append_assoc,nG (cf k l pl.length++bh (pl.take j)),iu,List.getD_eq_getElem?_getD,List.getElem?_eq_getElem h];rfl
theorem D5(k l:Int)(pl:List ByteArray)(j:Nat)(h:6+aU pl<=504):(bH (cf k l pl.length++bh (pl.take j))).size<=504:=by
 have h1:=lO pl j
 rw[<-bT,rz,List.length_append,gm,dE];omega
theorem Hg(m:Nat)(w:World)(hm:m<=8):
  Calls Tryz.prog 145 #[.int .i64 ((m:Int))] w (Ret (.int .i64 (m:Int)) w):=by
 go_enter Tryz.func145,Tryz.ntmps145
 have aj:=St.start w
 refine wq (sqr (sqp [.k 2 (vi 0)] ?_))
 refine aa (wq (sqr (sqp [.m 3 0] ?_)))
 refine sql (vi (min (m:Int) 8)) aj (fun cx=>jI rfl (cx.ou 3) (cx.co _) (rfl)) ?_
 refine sql (vi (max 0 (min (m:Int) 8))) aj (fun cx=>jG rfl (cx.co _) (cx.ou 4) rfl) ?_
 refine sqp [.m 2 5] ?_
 refine aa (wp_ret ?_)
 refine bpr (vi (max 0 (min (m:Int) 8))) (ag Tryz.results145 rpt) ?_
 exact Ret.of (by congr 1;omega) aj.ext
theorem je(N:Int)(m:Nat)(w:World)(hm:m<=8)(hN:0<=N/\N<=9223372036854775807):
  Calls Tryz.prog 89 #[.int .i64 N,.int .i64 ((m:Int))] w (Ret (.string (ah N m)) w):=by
 go_enter Tryz.func89,Tryz.ntmps89
 have aj:=St.start w
 refine wq (sqr (sqp [.k 4 (.string ⟨#[]⟩)] ?_))
 refine aa (wq (sqr (sqp [.k 5 (.string ⟨#[]⟩)] ?_)))
 refine aa (wq (sqr (sqp [.m 8 0,sW 9 .u64 N N (IntWalk.u64_in _ (by omega)),.m 6 9] ?_)))
 refine aa (wq (wq (sqr (sqp [.k 7 (vi 0)] ?_))))
 refine aa (wp_block ?_)
 refine aN (fun t_ mz az W=>∃k:Nat,k<=m/\mz=m-k/\az=⟨(ovr (jv az) [(5,5,0,[.string ((ah N k)),.int .u64 ((shN N k)),vi ((k:Int))]),(2,10,15,[])] t_).toArray,[]⟩/\St w [] [] W) (m-0) ?_ ?_
 exact⟨0,Nat.zero_le _,rfl,(by rw[IK,D6];rfl),aj.pk []⟩
 rintro n7 a7 W7 ⟨k,hk,rfl,hj_,aQ⟩
 refine ovz hj_ fun Fk=>?_
 refine wq (wq (sqr (sqp [.m 10 7,.m 11 1] ?_)))
 refine sqk (vi ((m:Int))) aQ (fun cx=>⟨_,Hg m _ hm,(ax (cx.ou 11))⟩) fun wU dO=>?_
 refine sqp [.k 13 (.bool (decide ((k:Int)<(m:Int))))] ?_
 refine aa (wds (fun jp jC=>?_) fun jp jC=>?_)
 refine wp_skip (aa (wq (wp_block (wq ?_))))
 have hz_:=aE N k (by omega)
 have hs_:(strOfNums [shN N k % 256]).size=1:=by rw[strOfNums_size];rfl
 have hb_:=K7 hN k
 refine sqr (sqp [.m 16 6,sRe 17 .u64 (shN N k) 256 ((shN N k) % 256) (Int.tmod_eq_emod_of_nonneg (by omega)),sW 18 .u8 ((shN N k) % 256) ((shN N k) % 256) (IntWalk.u8_in _ (by omega))] ?_)
 refine ea (fun x_=>sA x_) (fun vf=> .slice vf 1 1) (fun vf=>eO 5 1 (.slice vf 1 1) 1 ([.int .u8 ((shN N k) % 256)])) dO (by
   refine svA fun a b W X cx=>?_
   have PZ:a (.tmp 18)= .int .u8 ((shN N k) % 256):=(cx.ou 18)
   exact dy (e:=5) (xs:=[.int .u8 ((shN N k) % 256)]) rfl (by simp[go_sem,PZ]) rfl (by decide) rfl rfl (fun _ _ _ _ _=> .intro)) fun vf qH dw=>?_
 refine sql (.string (strOfNums ([((shN N k) % 256)]))) dw (fun cx=>kY (e:=5) rfl (by kernel_rfl) (by kernel_rfl) (by kernel_rfl) (cx.ou 19) (cx.ri 0 rfl)) ?_
 refine sqp [.m 21 5,sS 22 (strOfNums ([((shN N k) % 256)])) ((ah N k)) (by omega),.m 5 22] ?_
 refine aa (sqr (sqp [.m 23 6,sQu 24 .u64 (shN N k) 256 ((shN N k) / 256) (by rw[Int.tdiv_eq_ediv_of_nonneg (by omega)];exact IntWalk.u64_in _ (by omega)),.m 6 24] ?_))
 refine av (aa (sqr (sqp [.m 14 7,sI 15 ((k:Int)+1) (by omega),.m 7 15] ?_)))
 refine aa ?_
 rw[show strOfNums [shN N k % 256]++ah N k=ah N (k+1) from(wg N (by omega)).symm,J9]
 refine⟨m-((k+1)),by omega,?_⟩
 exact⟨(k+1),by omega,rfl,(by kernel_rfl),dw.pk []⟩
 refine wp_exit (al (al (bf (aa (wq (sqr (sqp [.m 25 5,.m 4 25] ?_)))))))
 refine aa (wp_ret ?_)
 refine bpr (.string ((ah N k))) (ag Tryz.results89 rpt) ?_
 exact Ret.of (by rw[show k=m by omega]) dO.ext
theorem Ap(s:ByteArray)(w:World)(hs:s.size<=65535):
  Calls Tryz.prog 147 #[.string s] w (Ret (.string (jy s)) w):=by
 go_enter Tryz.func147,Tryz.ntmps147
 have aj:=St.start w
 refine wq (sqr (sqp [.k 2 (.string ⟨#[]⟩)] ?_))
 refine aa (wq (sqr (sqp [.m 4 0,.m 5 0,.k 6 (vi ((s.size:Int)))] ?_)))
 refine sql (vi ((s.size:Int))) aj (fun cx=>jI rfl (cx.ou 6) (cx.co _) (by omega)) ?_
 refine sql (.string s) aj (fun cx=>by rw[<-Ag s];exact gO (l:=s.size) rfl (by kernel_rfl) (cx.ou 4) (cx.ou 7) (by omega) (by omega)) ?_
 refine sqp [.m 3 8] ?_
 refine aa (wq ?_)
 have hp_:=aE (s.size:Int) 2 (by omega)
 refine sqr (sqp [.m 9 3,.k 10 (vi ((s.size:Int)))] ?_)
 refine sqk (.string ((ah (s.size:Int) 2))) aj (fun cx=>⟨_,je (s.size:Int) 2 _ (by decide) (by omega),(aM (cx.ou 10) (cx.co _))⟩) fun wU dO=>?_
 refine sqp [.m 12 3,sS 13 ((ah (s.size:Int) 2)) s (by omega),.m 2 13] ?_
 refine aa (wp_ret ?_)
 refine bpr (.string (((ah (s.size:Int) 2))++s)) (ag Tryz.results147 rpt) ?_
 exact Ret.of rfl dO.ext
theorem Cf(k l:Int)(A:Option Addr)(c:Nat)(ss:List ByteArray)(w:World)(hA:At w A (ss.map Value.string))(hr:bA k l ss=true)(hc:ss.length<=c):
  Calls Tryz.prog 92 #[.agg #[.int .i64 k,.int .i64 l,.slice A ss.length c]] w (Ret (.agg #[.string (bQ k l (af ss)),.int .i64 0]) w):=by
 obtain⟨hk2,hl2,⟨hn24,hb4⟩,hz5⟩:=dh hr
 have hS:=eh hr
 go_enter Tryz.func92,Tryz.ntmps92
 have aj:=St.start w
 refine wq (sqr ?_)
 refine b9 #[vi k,vi l,.slice A ss.length c] aj fun aA W1 ay=>?_
 refine b8 #[.string ByteArray.empty,vi 0] ay fun kC W2 bu=>?_
 refine aa (wq (wq (sqr ?_)))
 refine bI 0 3 bu ?_
 refine sqk (.bool true) bu (fun cx=>⟨_,sB k l _ _ ss _ (hA.ext cx.upd.to_ext) hr (by omega),(ax (cx.ou 6))⟩) fun W4 bc=>?_
 refine sqp [.k 8 (.bool false)] ?_
 refine aa (wcf rfl (wp_skip (aa (wq (sqr ?_)))))
 refine bI 0 3 bc ?_
 refine iE (fun ko kU=> .agg #[vi k,vi l,.slice ko ((af ss).length) kU]) (fun ko kU=>eO 9 1 (.slice ko ((af ss).length) kU) ((af ss).length) ((af ss).map Value.string)) bc (fun cx=>⟨_,(lV k l _ _ ss _ (hA.ext cx.upd.to_ext) (by have:=hS.1;omega) (by omega)).mono (by rintro e W1 ⟨A4,c4,rfl,ho,hx⟩;exact⟨_,_,rfl,St.one hx (cu ho)⟩),(ax (cx.ou 10))⟩) fun ko kU W7 aQ=>?_
 refine b8 #[vi 0,vi 0,sn] aQ fun qZ W8 dB=>?_
 refine aX (n:=3) 3 #[vi k,vi l,.slice ko ((af ss).length) kU] dB fun W9 cv=>?_
 refine aa (wq ?_)
 obtain⟨pl,hpl⟩:∃z,af ss=z:=⟨_,rfl⟩
 have SV:pl.length<=24:=by rw[<-hpl,cy];exact Nat.le_trans (dZ ss _) hn24
 have y7:∀s∈pl,s.size<=400:=fun s hs=>hb4 s (by rw[<-hpl] at hs;exact List.mem_of_mem_take hs)
 have hpz:6+aU pl<=504:=by rw[cO,hpl] at hz5;omega
 rw[hpl] at cv
 have q1_:=aE k 1 (by omega)
 have q2_:=aE l 4 (by omega)
 have q3_:=aE (pl.length:Int) 1 (by omega)
 refine bP [0,1,3,0,8,31,63,0,128,384,959,2047,4095] [[],[3],[],[],[3],[],[],[],[3]] [.k 12 (vp qZ),.c 13 (vi k),.c 14 (.string ((ah k 1))),.k 15 (po qZ 1),.c 16 (vi l),.c 17 (.string ((ah l 4))),tS 18 ((ah k 1)) ((ah l 4)) (by first|omega|(simp only[ByteArray.size_append];omega)),.k 19 (po qZ 2),.c 20 (.slice ko pl.length kU),.k 21 (vi ((pl.length:Int))),.c 22 (.string ((ah (pl.length:Int) 1))),tS 23 (((ah k 1))++((ah l 4))) ((ah (pl.length:Int) 1)) (by first|omega|(simp only[ByteArray.size_append];omega)),.k 4 (.string ((((ah k 1))++((ah l 4)))++((ah (pl.length:Int) 1))))] [0,1,2,3] [1,2,4,5,8,10] [(4,12,1,5),(7,0,12,19)] cv ?_ fun wU dO=>?_
 refine⟨?_,?_,?_,?_,?_,?_,trivial⟩
 exact xs4 rfl id fun cx=>ae rfl (by kernel_rfl) (cx.an 0) ((cx.bi 3 rfl).cell 0)
 exact xsc rfl id rfl rfl fun cx=>⟨_,je k 1 _ (by decide) (by omega),(aM (cx.an 1) (cx.co _))⟩
 exact xs4 rfl id fun cx=>ae rfl (by kernel_rfl) (cx.an 3) ((cx.bi 3 rfl).cell 1)
 exact xsc rfl id rfl rfl fun cx=>⟨_,je l 4 _ (by decide) (by omega),(aM (cx.an 4) (cx.co _))⟩
 exact xs4 rfl id fun cx=>ae rfl (by kernel_rfl) (cx.an 7) ((cx.bi 3 rfl).cell 2)
 exact xsc rfl id rfl rfl fun cx=>⟨_,je (pl.length:Int) 1 _ (by decide) (by omega),(aM (cx.an 9) (cx.co _))⟩
 refine aa (wq (wq (sqr (sqp [.k 5 (vi 0)] ?_))))
 refine aa (wp_block ?_)
 have hhd:(ah k 1++ah l 4)++ah (pl.length:Int) 1=bH (cf k l pl.length++bh (pl.take 0)):=by rw[cf,List.take_zero];show _=bH (_++[]);rw[List.append_nil,iu]
 refine aN (fun t_ mz az W=>∃j:Nat,j<=pl.length/\mz=pl.length-j/\az=⟨(ovr (jv az) [(4,4,0,[.string ((bH (cf k l pl.length++bh (pl.take j)))),vi ((j:Int))]),(18,24,15,[])] t_).toArray,[]⟩/\St w [] [eB aA 48 #[vi k,vi l,.slice A ss.length c],eB kC 151 #[.string ByteArray.empty,vi 0],eO 9 1 (.slice ko pl.length kU) pl.length (pl.map Value.string),eB qZ 48 #[vi k,vi l,.slice ko pl.length kU]] W) (pl.length-0) ?_ ?_
 exact⟨0,Nat.zero_le _,rfl,(by rw[<-hhd];rfl),dO.pk [0,1,2,3]⟩
 rintro OZ a12 Bs ⟨j,hj,rfl,hj_,de⟩
 refine ovz hj_ fun Mn=>?_
 refine wq (wq (sqr (sqp [.m 24 5,.k 25 (po qZ 2)] ?_)))
 refine aq 3 de ?_
 refine sqp [.k 27 (vi ((pl.length:Int))),.k 28 (.bool (decide ((j:Int)<(pl.length:Int))))] ?_
 refine aa (wds (fun mY rL=>?_) fun mY rL=>?_)
 refine wp_skip (aa (wq (wp_block ?_)))
 have hjl:j<pl.length:=by omega
 have hg4:=DC y7 j
 have hsz_:=D5 k l pl j hpz
 have htz_:=oG (pl.getD j ByteArray.empty)
 refine sqr (sqp [.m 31 4,.k 32 (po qZ 2)] ?_)
 refine aq 3 de ?_
 refine sqp [.m 34 5] ?_
 refine sql (.pointer (some ((ad ko).add j))) de (fun cx=>bS (e:=9) (m:=j) rfl (by kernel_rfl) (by kernel_rfl) (cx.ou 33) (cx.ou 34) (by omega) (by omega) (At.of_own (cx.ri 2 rfl)) (by simp)) ?_
 refine sql (.string (pl.getD j ByteArray.empty)) de (fun cx=>ae rfl (by kernel_rfl) (cx.ou 35) (At.cellAd (At.of_own (cx.ri 2 rfl)) (mQ (by omega)))) ?_
 refine sqk (.string ((jy (pl.getD j ByteArray.empty)))) de (fun cx=>⟨_,Ap (pl.getD j ByteArray.empty) _ (by omega),(ax (cx.ou 36))⟩) fun wV dP=>?_
 refine sqp [sS 38 ((bH (cf k l pl.length++bh (pl.take j)))) ((jy (pl.getD j ByteArray.empty))) (by first|omega|(simp only[ByteArray.size_append];omega)),.m 4 38] ?_
 refine av (aa (sqr (sqp [.m 29 5,sI 30 ((j:Int)+1) (by omega),.m 5 30] ?_)))
 refine aa ?_
 rw[show bH (cf k l pl.length++bh (pl.take j))++jy (pl.getD j ByteArray.empty)=bH (cf k l pl.length++bh (pl.take (j+1))) from Co hjl]
 refine⟨pl.length-((j+1)),by omega,?_⟩
 exact⟨(j+1),by omega,rfl,(by kernel_rfl),dP.pk [0,1,2,3]⟩
 refine wp_exit (al (al (bf (aa (wq (wp_block ?_))))))
 have hje:j=pl.length:=by omega
 refine aN (fun t_ mz az W=>∃m:Nat,6+aU pl+m<=504/\mz=504-(6+aU pl+m)/\az=⟨(ovr (jv az) [(4,4,0,[.string ((bH (cf k l pl.length++bh pl++List.replicate m (0:UInt8))))]),(34,39,5,[])] t_).toArray,[]⟩/\St w [] [eB aA 48 #[vi k,vi l,.slice A ss.length c],eB kC 151 #[.string ByteArray.empty,vi 0],eO 9 1 (.slice ko pl.length kU) pl.length (pl.map Value.string),eB qZ 48 #[vi k,vi l,.slice ko pl.length kU]] W) (504-(6+aU pl+0)) ?_ ?_
 exact⟨0,by omega,rfl,(by rw[hje,List.take_length,List.replicate_zero,List.append_nil];rfl),de.pk [0,1,2,3]⟩
 rintro Ua a31 O3 ⟨m,hm,rfl,hj_,nC⟩
 refine ovz hj_ fun SW=>?_
 refine wq (wq ?_)
 have hbz_:=DW k l pl m
 have hz1_:(⟨#[0]⟩:ByteArray).size=1:=rfl
 refine sqr (sqp [.m 39 4,.k 40 (vi ((((bH (cf k l pl.length++bh pl++List.replicate m (0:UInt8)))).size:Int))),.k 41 (.bool (decide ((((bH (cf k l pl.length++bh pl++List.replicate m (0:UInt8)))).size:Int)<504)))] ?_)
 refine aa (wds (fun zP CY=>?_) fun zP CY=>?_)
 refine wp_skip (aa (wp_block (sqr (sqp [.m 42 4,sS 43 ((bH (cf k l pl.length++bh pl++List.replicate m (0:UInt8)))) ((⟨#[0]⟩:ByteArray)) (by first|omega|(simp only[ByteArray.size_append];omega)),.m 4 43] ?_))))
 refine av (aa ?_)
 rw[DE]
 refine⟨504-(6+aU pl+((m+1))),by omega,?_⟩
 exact⟨(m+1),by omega,rfl,(by kernel_rfl),nC.pk [0,1,2,3]⟩
 refine wp_exit (al (al (bf (aa (wq ?_)))))
 obtain rfl:m=504-(6+aU pl):=by omega
 refine sqr (sqp [.m 44 4,.k 45 (po qZ 1)] ?_)
 refine aq 3 nC ?_
 refine sqk (.string ((ah l 4))) nC (fun cx=>⟨_,je l 4 _ (by decide) (by omega),(aM (cx.ou 46) (cx.co _))⟩) fun pP eN=>?_
 refine sqp [sS 48 ((bH (cf k l pl.length++bh pl++List.replicate (504-(6+aU pl)) (0:UInt8)))) ((ah l 4)) (by first|omega|(simp only[ByteArray.size_append];omega)),.m 4 48] ?_
 refine aa (wq ?_)
 have hbd:bH (cf k l pl.length++bh pl++List.replicate (504-(6+aU pl)) (0:UInt8))++ah l 4=bH (bU k l pl):=by rw[bU,<-yv _ (bl (ah l 4)),iu]
 have hba_:(bH (cf k l pl.length++bh pl++List.replicate (504-(6+aU pl)) (0:UInt8))++ah l 4).size=508:=by rw[ByteArray.size_append,hbz_,q2_];omega
 obtain⟨bd,hbde⟩:∃z,bH (cf k l pl.length++bh pl++List.replicate (504-(6+aU pl)) (0:UInt8))++ah l 4=z:=⟨_,rfl⟩
 rw[hbde] at hbd hba_ |-
 have hsl_:=kx bd
 have q4_:=aE (bg bd:Int) 4 (by omega)
 refine sqr (sqp [.m 49 4] ?_)
 refine sqk (.int .u32 ((bg bd:Int))) eN (fun cx=>⟨_,yg bd _ (by omega),(ax (cx.ou 49))⟩) fun Bp fq=>?_
 refine sqp [sW 51 .i64 (bg bd:Int) (bg bd:Int) (IntWalk.i64_in _ (by omega))] ?_
 refine sqk (.string ((ah (bg bd:Int) 4))) fq (fun cx=>⟨_,je (bg bd:Int) 4 _ (by decide) (by omega),(aM (cx.ou 51) (cx.co _))⟩) fun O1 uO=>?_
 refine sqp [.m 53 4,sS 54 ((ah (bg bd:Int) 4)) bd (by first|omega|(simp only[ByteArray.size_append];omega)),.k 55 (.agg #[.string (((ah (bg bd:Int) 4))++bd),vi 0])] ?_
 refine aX (n:=2) 1 #[.string (((ah (bg bd:Int) 4))++bd),vi 0] uO fun Br cK=>?_
 refine aa (wp_ret ?_)
 refine bpr (.agg #[.string (((ah (bg bd:Int) 4))++bd),vi 0]) (bG (n:=2) Tryz.results92 rfl (by kernel_rfl) (by kernel_rfl) (cK.blk 1 rfl) rfl) ?_
 exact Ret.of (by rw[hpl,hbd];rfl) cK.ext
end
section
open Go.RowKit
theorem Tryz.infoPgJ:(Tryz.prog.info? 48).map (fun i=>(i.zero,i.size,i.bytes))=some (some (.agg #[.int .i64 0,.int .i64 0,sn]),3,40):=by kernel_rfl
def pgQ(q:PgR):List Value:=[.int .i64 q.p.1,.int .i64 q.p.2.1,.slice q.A q.p.2.2.length q.c]
theorem iz(q:PgR):(pgQ q).length=3:=rfl
def fY(L:List RecM)(os:List Int):List Int:=os.filter fun n=>!fC L n
noncomputable def imR(L:List RecM)(n:Int):RecM:=⟨8,0,n,[],aH (ak L n)⟩
noncomputable def icL(L:List RecM)(n:Int):List Value:=rcC (rcI (imR L n))
theorem Bo(L:List RecM)(n:Int):(icL L n).length=8:=rfl
theorem tU(L:List RecM)(os:List Int)(n:Int):fY L (os++[n])=if fC L n=true then fY L os else fY L os++[n]:=by
 rw[fY,List.filter_append,<-fY]
 rcases h:fC L n with _|_<;>simp[h]
theorem Et{L:List RecM}(h:n∈fY L os):n∈os:=(List.mem_filter.1 h).1
theorem v6(L:List RecM)(os:List Int):(fY L os).length<=os.length:=List.length_filter_le _ _
theorem F7(L:List RecM)(os:List Int)(n:Int):os.flatMap (icL L)++icL L n=(os++[n]).flatMap (icL L):=by rw[List.flatMap_append];simp
theorem yB(ps:List PgR)(q:PgR):ps.flatMap pgQ++pgQ q=(ps++[q]).flatMap pgQ:=by rw[List.flatMap_append];simp
theorem KU(ps:List PgR)(p:PgS)(A:Option Addr)(c:Nat):ps.flatMap pgQ++[.int .i64 p.1,.int .i64 p.2.1,.slice A p.2.2.length c]=(ps++[(⟨p,A,c⟩:PgR)]).flatMap pgQ:=yB ps ⟨p,A,c⟩
theorem tN(L:List RecM)(os:List Int):szF (ek L os)=szF ((fY L os).map (imR L)):=rfl
theorem qo{L:List RecM}(hn:0<=n/\n<=65535):bC (imR L n)=true:=by
 have h1:=dD (iB L n)
 have a1:inB n 0 65535=true:=by unfold inB;rw[Bool.and_eq_true,decide_eq_true_eq,decide_eq_true_eq];omega
 have a2:decide (((aH (ak L n)).size:Int)<=60000)=true:=decide_eq_true (by omega)
 show (inB 8 1 10&&(inB 0 0 127&&(inB n 0 65535&&(decide ((([]:List EdT).length:Int)<=64)&&((([]:List EdT).all edR)&&decide (((aH (ak L n)).size:Int)<=60000))))))=true
 rw[a1,a2];decide
theorem Bi{cur:Int->PgS}:∀{l:List EdT},n∉cH l->bq cur l n=cur n:=by
 intro l h
 have h2:∀e∈l,e.1≠n:=fun e he hn=>h (ky.2 ⟨e,he,hn⟩)
 clear h
 induction l generalizing cur with
 |nil=>rfl
 |cons e l ih=>
  rw[show bq cur (e::l)=bq (eR cur e) l from rfl,ih (fun x hx=>h2 x (by simp[hx]))]
  exact if_neg (fun h=>h2 e (by simp) h.symm)
theorem KH{cur:Int->PgS}{l:List EdT}{e:EdT}{ps:List PgR}{q:PgR}(hnd:os.Nodup)(hk:os[k]? =some e.1)(hps:ps.map PgR.p=os.map (bq cur l))(hq:q.p=doV (bq cur l e.1) e 1):
  (ps.set k q).map PgR.p=os.map (bq cur (l++[e])):=by
 rw[List.map_set,hps,yU]
 refine List.ext_getElem? fun i=>?_
 have hkl:k<os.length:=(List.getElem?_eq_some_iff.1 hk).1
 rw[List.getElem?_set,List.length_map,List.getElem?_map,List.getElem?_map]
 by_cases hi:k=i
 subst hi
 rw[if_pos rfl,if_pos hkl,hk,hq]
 show _=some (eR (bq cur l) e e.1)
 rw[eR,if_pos rfl]
 rw[if_neg hi]
 rcases h:os[i]? with _|n
 rfl
 show some _=some (eR (bq cur l) e n)
 rw[eR,if_neg (fun hn=>hi (by
  subst hn
  exact(List.getElem?_inj hkl hnd).1 (hk.trans h.symm)))]
noncomputable def tlF(L:List RecM)(told:Int->Bool)(eds:List EdT)(os:List Int):Int->Bool:=fun n=>if n∈os/\(ak L n).1≠0/\(bq (ak L) eds n).1=0 then false else told n
theorem JR{L:List RecM}{told:Int->Bool}(h1:(ak L n).1≠0)(h2:(bq (ak L) eds n).1=0):(fun x=>if x=n then false else tlF L told eds os x)=tlF L told eds (os++[n]):=by
 funext x
 by_cases hx:x=n
 subst hx;rw[if_pos rfl,tlF,if_pos ⟨by simp,h1,h2⟩]
 rw[if_neg hx,tlF,tlF];simp[hx]
theorem LO{L:List RecM}{told:Int->Bool}(h:¬((ak L n).1≠0/\(bq (ak L) eds n).1=0)):tlF L told eds os=tlF L told eds (os++[n]):=by
 funext x
 rw[tlF,tlF]
 by_cases hx:x=n
 subst hx;rw[if_neg (fun h1=>h h1.2),if_neg (fun h1=>h h1.2)]
 simp[hx]
def eRh(rb:Nat)(L:List RecM)(told:Int->Bool)(p:Nat)(t:RcT)(fp:List Nat):Ent:=⟨fp,fun W=>∃rs rr,rs.map RcT.r=L/\((∀t∈rs,t∈rr)/\t∈rr)/\(eRq rb rs told p rr fp).holds W⟩
theorem Bf(rb:Nat)(L:List RecM)(told:Int->Bool)(p:Nat)(t:RcT)(fp:List Nat):(eRh rb L told p t fp).loc:=fun W W' hk h=>let ⟨rs,rr,h1,h2,h3⟩:=h;⟨rs,rr,h1,h2,md rb rs told p rr fp W W' hk h3⟩
section
variable{w0 W:World}{bor:List Nat}{R:List Ent}{rb:Nat}{L:List RecM}{told:Int->Bool}{p:Nat}{t:RcT}{fp:List Nat}
theorem St.unrh(h:St w0 bor (eRh rb L told p t fp::R) W):∃rs rr,rs.map RcT.r=L/\((∀t∈rs,t∈rr)/\t∈rr)/\St w0 bor (eRq rb rs told p rr fp::R) W:=by
 obtain⟨rs,rr,h1,h2,h3⟩:=(h.ok (eRh rb L told p t fp) (by simp)).holds
 exact⟨rs,rr,h1,h2,St.repl (L1:=[]) h rfl (fun _=>h3) (md _ _ _ _ _ _)⟩
theorem St.rh(h:St w0 bor (fR t::eRf rb L told p fp::R) W):∃fp',St w0 bor (eRh rb L told p t fp'::R) W:=by
 obtain⟨rs,rr,h1,h2,h3⟩:=h.u1.unrf
 obtain⟨fp',h4⟩:=h3.u1.rqR
 exact⟨fp',St.repl (L1:=[]) h4 rfl (fun h5=>⟨rs,rr++[t],h1,⟨fun x hx=>List.mem_append_left _ (h2 x hx),by simp⟩,h5⟩) (Bf _ _ _ _ _ _)⟩
end
theorem JL{L:List RecM}(h:rs.map RcT.r=L)(hc:Calls Tryz.prog f args w (oN (ak (rs.map RcT.r) n) w)):Calls Tryz.prog f args w (oN (ak L n) w):=h ▸ hc
theorem GN{L:List RecM}(h:rs.map RcT.r=L)(hc:Calls Tryz.prog f args w (Ret (.bool (fC (rs.map RcT.r) n)) w)):Calls Tryz.prog f args w (Ret (.bool (fC L n)) w):=h ▸ hc
theorem Bz{p:PgS}{A:Option Addr}(hA:At w A (p.2.2.map Value.string))(hr:bJ p)(hc:p.2.2.length<=c):Calls Tryz.prog 92 #[.agg #[.int .i64 p.1,.int .i64 p.2.1,.slice A p.2.2.length c]] w (Ret (.agg #[.string (aH p),.int .i64 0]) w):=by
 have h:=Cf p.1 p.2.1 A c p.2.2 w hA hr.1 hc
 rw[hr.2] at h;exact h
theorem sg{rows:List PgR}(h:(eM (rows.map dK)).holds W){r:PgR}(hr:r∈rows):r.p.2.2.length<=r.c:=ln (h (dK r) (List.mem_map.2 ⟨_,hr,rfl⟩)).1
theorem HP{ep:Int}(hm:m=os.length)(h:(decide ((k:Int)<(m:Int))&&(os.getD k 0 != ep))=true)(hne:∀i,i<k->os[i]? ≠some ep):∀i,i<k+1->os[i]? ≠some ep:=fun i hi=>by
 rw[Bool.and_eq_true,decide_eq_true_eq,bne_iff_ne] at h
 rcases Nat.lt_or_ge i k with h1|h1
 exact hne i h1
 have e:i=k:=by omega
 subst e
 intro h2
 exact h.2 (by rw[List.getD_eq_getElem?_getD,h2];rfl)
theorem Gd{ep:Int}(hm:m=os.length)(hk:k<=m)(h:(decide ((k:Int)<(m:Int))&&(os.getD k 0 != ep))=false):k=m\/os[k]? =some ep:=by
 rcases Nat.lt_or_ge k m with h1|h1
 right
 rw[decide_eq_true (by omega),Bool.true_and,bne_eq_false_iff_eq,List.getD_eq_getElem?_getD,List.getElem?_eq_getElem (by omega)] at h
 rw[List.getElem?_eq_getElem (by omega),<-h];rfl
 left;omega
theorem Kh{ep:Int}(hk:k=os.length)(hne:∀i,i<k->os[i]? ≠some ep):ep∉os:=fun h=>by
 obtain⟨i,hi,he⟩:=List.mem_iff_getElem.1 h
 exact hne i (by omega) (by rw[List.getElem?_eq_getElem hi,he])
theorem yP{cur:Int->PgS}{ps:List PgR}(h:ps.map PgR.p=os.map cur)(hk:os[k]? =some n):∃q,ps[k]? =some q/\q.p=cur n:=by
 have h1:=congrArg (fun l=>l[k]?) h
 simp only[List.getElem?_map,hk] at h1
 rcases e:ps[k]? with _|q
 rw[e] at h1;cases h1
 rw[e] at h1;exact⟨q,rfl,Option.some.inj h1⟩
theorem Gj{L ims:List RecM}(h:rs.map RcT.r=L++ims)(hi:∀r∈ims,r.eds=[])(hc:Calls Tryz.prog f args w (oN (ak (rs.map RcT.r) n) w)):Calls Tryz.prog f args w (oN (ak L n) w):=by
 rw[h,uf hi] at hc;exact hc
theorem vQ(a b:List RecM):szF (a++b)=szF a+szF b:=by simp[szF]
theorem Cn(l:List RecM)(i:Nat):szF (l.take i)<=szF l:=by
 conv=>rhs;rw[<-List.take_append_drop i l,vQ]
 omega
theorem Kt{L:List RecM}{told:Int->Bool}:tlF L told eds []=told:=by funext x;rw[tlF,if_neg (by simp)]
theorem G2{L:List RecM}{i:Nat}(h:(fY L os)[i]? =some n):(ek L os).take (i+1)=(ek L os).take i++[imR L n]:=by
 have e:(ek L os)[i]? =some (imR L n):=by
  show ((fY L os).map _)[i]? = _
  rw[List.getElem?_map,h];rfl
 rw[List.take_add_one,e];rfl
theorem sX(L:List RecM)(os:List Int):(ek L os).length=(fY L os).length:=List.length_map ..
theorem DT(rb:Nat)(L:List RecM)(told:Int->Bool)(p:Nat)(t:RcT)(fp:List Nat)(w:World)(hB:(eRh rb L told p t fp).holds w)(hlt:∀k∈fp,k<w.heap.size)(hL:∀r∈L,bC r=true)(hz:szF L<=1048576)(hp:p<=400)(hI:t.r.eds.length<=100000)(hze:∀e∈t.r.eds,e.2.2.size<=9223372036854775807)(hzn:t.r.note.size<=9223372036854775807):
  Calls Tryz.prog 77 #[po rb 0,.agg #[.int .i64 t.r.kind,.int .i64 t.r.xid,.int .i64 t.r.tbl,sn,sn,.slice t.A t.r.eds.length t.c,sn,.string t.r.note]] w ((fun e w2=>e= .returned (.agg #[.int .i64 (rfD p L told t.r).2.1,.int .i64 (rfE p L t.r)])/\∃fp2,St w fp [eRf rb (rfD p L told t.r).1 (rfD p L told t.r).2.2.2 p fp2] w2)):=by
 have st1:St w fp [eRh rb L told p t fp] w:=St.lend hB (Bf _ _ _ _ _ _) hlt
 have hll:=tT hL hz
 go_enter Tryz.func77,Tryz.ntmps77
 have aj:=st1
 refine wq (sqr ?_)
 refine b9 #[vi t.r.kind,vi t.r.xid,vi t.r.tbl,sn,sn,.slice t.A t.r.eds.length t.c,sn,.string t.r.note] aj fun cR W1 ay=>?_
 refine b8 #[vi 0,vi 0] ay fun dG W2 bu=>?_
 refine aa (wq (wq ?_))
 obtain⟨rs,rr,hrs,⟨hsub,htr⟩,ho3_⟩:=bu.unrh
 have hzs:szF (rs.map RcT.r)<=1048576:=hrs ▸ hz
 have hrl:rs.length<=1000000:=by have h_:=congrArg List.length hrs;rw[List.length_map] at h_;omega
 have hrL:∀t∈rs,bC t.r=true:=fun t ht=>hL _ (hrs ▸ List.mem_map.2 ⟨t,ht,rfl⟩)
 obtain⟨QA,qc,TA,tc,hq4_⟩:=ho3_.unrq
 refine sqr ?_
 refine bI 4 8 hq4_ ?_
 refine sqk (.bool ((bC t.r))) hq4_ (fun cx=>⟨_,mA t.r.kind t.r.xid t.r.tbl t.A t.c t.r.eds t.r.note _ (dI (CtxV.holdF cx (cx.init 3 _ rfl) rfl) htr) (by omega) hze hzn,(ax (cx.ou 20))⟩) fun W6 bK=>?_
 refine sqp [.k 22 (.bool (!((bC t.r)))),.m 23 22] ?_
 refine d3 23 [24,25,26] ?_ rfl (fun hq=>?_) ?_
 rotate_left
 refine sqp [.k 24 (vp cR)] ?_
 refine aq 4 bK ?_
 refine sqp [.k 26 (.bool (t.r.kind==8))] ?_
 exact sqe
 refine c5 ?_
 refine sqp [sPo 27 (!((bC t.r))) (t.r.kind==8),.m 28 27] ?_
 refine d3 28 [29,30,31] ?_ rfl (fun hq=>?_) ?_
 rotate_left
 refine sqp [.k 29 (vp cR)] ?_
 refine aq 4 bK ?_
 refine sqp [.k 31 (.bool (t.r.kind==9))] ?_
 exact sqe
 refine c5 ?_
 refine sqp [sPo 32 ((!((bC t.r)))||(t.r.kind==8)) (t.r.kind==9)] ?_
 refine aa (wbs (fun mY=>?_) fun mY=>?_)
 have rL:=mY
 simp only[zB] at rL
 refine wq (sqr (sqp [.k 33 (.agg #[vi 0,vi 1])] ?_))
 refine aX (n:=2) 5 #[vi 0,vi 1] bK fun IZ iI=>?_
 refine aa (wp_ret (ai ?_))
 refine bpr (.agg #[vi 0,vi 1]) (bG (n:=2) Tryz.results77 rfl (by kernel_rfl) (by kernel_rfl) (iI.blk 5 rfl) rfl) ?_
 have hE_:rfE p L t.r=1:=II (fun hh=>by have h_:=mY;have h1:=hh.1;have h2:=hh.2.1;have h3:=hh.2.2;simp_all)
 obtain⟨fp21_,hr21_⟩:=St.rq (rs:=rs) (told:=told) (p:=p) (rr:=rr) (iI.u4.c0.u4.c0)
 have Oz:=St.rf (L:=L) hr21_ (hrs) (hsub)
 exact⟨by rw[j8 (told:=told) hE_ (by first|decide|assumption),hE_],_,by rw[j8 (told:=told) hE_ (by first|decide|assumption)];exact Oz⟩
 have rL:=mY
 simp only[zB] at rL
 obtain⟨⟨Ro,Rp⟩,Rq⟩:=rL
 refine wp_skip (aa (wq (wq ?_)))
 have hda:DoA t.r:=by have h_:=mY;simp at h_;exact⟨h_.1.1,h_.1.2,h_.2⟩
 have hro:=dU hda.1
 have hml:=hro.many
 refine sqr (sqp [.k 5 (vi 0)] ?_)
 refine aa (wp_block ?_)
 refine aN (fun t_ mz az W=>∃i:Nat,i<=t.r.eds.length/\(∀e∈t.r.eds.take i,d9 p e=false)/\mz=t.r.eds.length-i/\az=⟨(ovr (jv az) [(5,5,0,[vi ((i:Int))]),(28,34,28,[])] t_).toArray,[]⟩/\St w fp [eB rb 69 #[vi ((p:Int)),.slice QA rs.length qc,vi ((szF (rs.map RcT.r):Int)),.slice TA p tc],eO 27 8 (.slice QA rs.length qc) rs.length (rs.flatMap rcC),eO 4 1 (.slice TA p tc) p (tB told p),eRc rr,eB cR 27 #[vi t.r.kind,vi t.r.xid,vi t.r.tbl,sn,sn,.slice t.A t.r.eds.length t.c,sn,.string t.r.note],eB dG 129 #[vi 0,vi 0]] W) (t.r.eds.length-0) ?_ ?_
 exact⟨0,Nat.zero_le _,(fun e he=>by cases he),rfl,(by kernel_rfl),bK.pk [0,1,2,3,4,5]⟩
 rintro QE a24 y9 ⟨i,hi,hno,rfl,hj_,fa⟩
 refine ovz hj_ fun Pu=>?_
 refine wq (wq (sqr (sqp [.m 34 5,.k 35 (po cR 5)] ?_)))
 refine aq 4 fa ?_
 refine sqp [.k 37 (vi ((t.r.eds.length:Int))),.k 38 (.bool (decide ((i:Int)<(t.r.eds.length:Int))))] ?_
 refine aa (wds (fun jJ jm=>?_) fun jJ jm=>?_)
 refine wp_skip (aa (wq (wp_block (wq ?_))))
 obtain⟨ep,es,eb,hek⟩:=xe (l:=t.r.eds) (j:=i) (by omega)
 have hke:edR (ep,es,eb)=true:=hro.eds _ (List.mem_of_getElem? hek)
 have hez:eb.size<=9223372036854775807:=by have:=dx hke;dsimp only at this;omega
 have hebd:=kV hke
 dsimp only at hebd
 refine bP [0,1,0,7,15,31,63,127,255,511,255,2047,4095,8191,255,16639,49407,114943,262143,524287] [[],[4],[],[3],[],[3],[],[],[],[4],[],[3],[],[3],[],[],[],[0]] [.k 41 (po cR 5),.c 42 (.slice t.A t.r.eds.length t.c),.k 43 (vi ((i:Int))),.c 44 (.pointer (some ((ad t.A).add (i*3)))),.c 45 (.pointer (some ((ad t.A).add (i*3+0)))),.c 46 (vi ep),.k 47 (.bool (decide (ep<0))),.k 48 (.bool (decide (ep<0))),.z 49 (!(decide (ep<0))) (po cR 5),.y 50 (!(decide (ep<0))) (.slice t.A t.r.eds.length t.c),.z 51 (!(decide (ep<0))) (vi ((i:Int))),.y 52 (!(decide (ep<0))) (.pointer (some ((ad t.A).add (i*3)))),.y 53 (!(decide (ep<0))) (.pointer (some ((ad t.A).add (i*3+0)))),.y 54 (!(decide (ep<0))) (vi ep),.z 55 (!(decide (ep<0))) (vp rb),.z 56 (!(decide (ep<0))) (vp rb),.z 57 (!(decide (ep<0))) (vp rb),.y 58 (!(decide (ep<0))) (vi ((p:Int))),.z 59 (!(decide (ep<0))) (.bool (decide ((p:Int)<=ep))),tO 60 (decide (ep<0)) (decide ((p:Int)<=ep))] [0,1,2,3,4,5] [1,3,4,5,9,11,12,13,17] [(41,0,20,61)] fa ?_ fun O3 nC=>?_
 refine⟨?_,?_,?_,?_,?_,?_,?_,?_,?_,trivial⟩
 exact xs4 rfl id fun cx=>ae rfl (by kernel_rfl) (cx.an 0) ((cx.bi 4 rfl).cell 5)
 exact xs4 rfl id fun cx=>aB (e:=84) (m:=i) (sz:=3) rfl (by kernel_rfl) (by kernel_rfl) (cx.an 1) (cx.an 2) (by omega) (by omega) (dI (CtxV.holdF cx (cx.init 3 _ rfl) rfl) htr) (bj (sz:=3) bD (by decide) (by omega))
 exact xs4 rfl id fun cx=>bt rfl (by kernel_rfl) (cx.an 3)
 exact xs4 rfl id fun cx=>ae rfl (by kernel_rfl) (cx.an 4) (At.eltc (f:=edC) (k:=0) bD (dI (CtxV.holdF cx (cx.init 3 _ rfl) rfl) htr) hek rfl)
 exact m2 rfl (fun _ _ _ h=>h) (fun cx=>(cx.an 7)) fun cx hq=>ae rfl (by kernel_rfl) (mbv (cx.an 8) hq) ((cx.bi 4 rfl).cell 5)
 exact m2 rfl (fun _ _ _ h=>h) (fun cx=>(cx.an 7)) fun cx hq=>aB (e:=84) (m:=i) (sz:=3) rfl (by kernel_rfl) (by kernel_rfl) (mbv (cx.an 9) hq) (mbv (cx.an 10) hq) (by have hq_:=hq;simp only[zB] at hq_;omega) (by have hq_:=hq;simp only[zB] at hq_;omega) (dI (CtxV.holdF cx (cx.init 3 _ rfl) rfl) htr) (bj (sz:=3) bD (by decide) (by have hq_:=hq;simp only[zB] at hq_;omega))
 exact m2 rfl (fun _ _ _ h=>h) (fun cx=>(cx.an 7)) fun cx hq=>bt rfl (by kernel_rfl) (mbv (cx.an 11) hq)
 exact m2 rfl (fun _ _ _ h=>h) (fun cx=>(cx.an 7)) fun cx hq=>ae rfl (by kernel_rfl) (mbv (cx.an 12) hq) (At.eltc (f:=edC) (k:=0) bD (dI (CtxV.holdF cx (cx.init 3 _ rfl) rfl) htr) hek rfl)
 exact m2 rfl (fun _ _ _ h=>h) (fun cx=>(cx.an 7)) fun cx hq=>ae rfl (by kernel_rfl) (mbv (cx.an 16) hq) ((cx.bi 0 rfl).cell 0)
 refine aa (wbs (fun fw=>?_) fun fw=>?_)
 have jA:=fw
 simp only[zB] at jA
 refine wq (sqr (sqp [.k 61 (.agg #[vi 0,vi 22])] ?_))
 refine aX (n:=2) 5 #[vi 0,vi 22] nC fun wW eo=>?_
 refine aa (wp_ret (bb (ai (ai (bb (ai ?_))))))
 refine bpr (.agg #[vi 0,vi 22]) (bG (n:=2) Tryz.results77 rfl (by kernel_rfl) (by kernel_rfl) (eo.blk 5 rfl) rfl) ?_
 have hE_:rfE p L t.r=22:=Df hda (List.any_eq_true.2 ⟨_,List.mem_of_getElem? hek,by have h_:=fw;unfold d9;simpa using h_⟩)
 obtain⟨fp35_,hr35_⟩:=St.rq (rs:=rs) (told:=told) (p:=p) (rr:=rr) (eo.u4.c0.u4.c0)
 have OB:=St.rf (L:=L) hr35_ (hrs) (hsub)
 exact⟨by rw[j8 (told:=told) hE_ (by first|decide|assumption),hE_],_,by rw[j8 (told:=told) hE_ (by first|decide|assumption)];exact OB⟩
 have jA:=fw
 simp only[zB] at jA
 obtain⟨Rr,Rs⟩:=jA
 refine wp_skip (av (aa (sqr (sqp [.m 39 5,sI 40 ((i:Int)+1) (by omega),.m 5 40] ?_))))
 refine aa ?_
 refine⟨t.r.eds.length-((i+1)),by omega,?_⟩
 exact⟨(i+1),by omega,(fun e he=>by rw[List.take_add_one,hek] at he;rcases List.mem_append.1 he with h|h;exact hno e h;rw[show e=(ep,es,eb) by simpa using h];have h_:=fw;unfold d9;simpa using h_),rfl,(by kernel_rfl),nC.pk [0,1,2,3,4,5]⟩
 refine wp_exit (al (al (bf (aa (wq ?_)))))
 have hin:t.r.eds.any (d9 p)=false:=List.any_eq_false.2 fun e he=>by rw[hno e (by rw[List.take_of_length_le (by omega)];exact he)];decide
 have hfz:=eU hda.1
 refine sqr ?_
 refine ea (fun x_=>sA x_) (fun q3=> .slice q3 0 0) (fun q3=>eO 3 1 (.slice q3 0 0) 0 ([])) fa (by
   refine svA fun o b W X cx=>?_
   exact dy (e:=3) (xs:=[]) rfl (by simp[go_sem]) rfl (by decide) rfl rfl (fun _ _ _ _ _=> .intro)) fun q3 uz dR=>?_
 refine sqp [.m 6 62] ?_
 refine aa (wq (sqr ?_))
 refine mK 48 3 0 [] dR (@fun o b W X cx=>by simp[go_sem]) fun M5 pP eN=>?_
 refine sqp [.m 7 63] ?_
 refine aa (wq (sqr ?_))
 refine mK 27 8 0 [] eN (@fun o b W X cx=>by simp[go_sem]) fun M6 QG uH=>?_
 refine sqp [.m 8 64] ?_
 refine aa (wq ?_)
 have hzl:szF L<=1048576:=hz
 have hzq:(szF (rs.map RcT.r):Int)=(szF L:Int):=by rw[hrs]
 refine bP [0,1,3,7,0,16,48,127,255] [[],[],[],[0],[4],[3]] [.k 65 (vp rb),.k 66 (vp rb),.k 67 (po rb 2),.c 68 (vi ((szF (rs.map RcT.r):Int))),.c 69 (.agg #[vi t.r.kind,vi t.r.xid,vi t.r.tbl,sn,sn,.slice t.A t.r.eds.length t.c,sn,.string t.r.note]),.c 70 (.string ((aC t.r))),.k 71 (vi ((((aC t.r)).size:Int))),tI 72 ((szF (rs.map RcT.r):Int)+(((aC t.r)).size:Int)) (by omega),.k 9 (vi ((szF (rs.map RcT.r):Int)+(((aC t.r)).size:Int)))] [0,1,2,3,4,5,6,7,8] [3,4,5] [(9,8,1,10),(55,0,8,63)] uH ?_ fun Bp fq=>?_
 refine⟨?_,?_,?_,trivial⟩
 exact xs4 rfl id fun cx=>ae rfl (by kernel_rfl) (cx.an 2) ((cx.bi 0 rfl).cell 2)
 exact xs4 rfl id fun cx=>ce (n:=8) rfl (by kernel_rfl) (by kernel_rfl) (cx.ou 3) (cx.bi 4 rfl) (nle rfl) rfl
 exact xsc rfl id rfl rfl fun cx=>⟨_,jT t.r.kind t.r.xid t.r.tbl t.A t.c t.r.eds t.r.note _ (dI (CtxV.holdF cx (cx.init 3 _ rfl) rfl) htr) (by have h_:=hml;omega) (fun e he=>by have h_:=dx (hro.eds e he);omega) (by have h_:=hro.note;omega),(ax (cx.an 4))⟩
 refine aa (wq (wq (sqr (sqp [.k 10 (vi 0)] ?_))))
 refine aa (wp_block ?_)
 have hn48_:=fq.nM dK
 refine aN (fun t_ mz az W=>∃j:Nat,∃os:List Int,∃m:Nat,∃OA:Option Addr,∃oc:Nat,∃ps:List PgR,∃NA:Option Addr,∃nc:Nat,∃rws:List PgR,∃nl:List Int,∃g:Nat,∃IA:Option Addr,∃ic:Nat,∃z:Int,j<=t.r.eds.length/\os=cH (t.r.eds.take j)/\m=os.length/\cU (ak L) (t.r.eds.take j)=0/\ps.map PgR.p=os.map (bq (ak L) (t.r.eds.take j))/\(∀q∈ps,q∈rws)/\nl=fY L os/\g=nl.length/\z=(szF L:Int)+((aC t.r).size:Int)+(szF (ek L os):Int)/\(0<=z/\z<=2000000+200000*(j:Int))/\mz=t.r.eds.length-j/\az=⟨(ovr (jv az) [(6,6,0,[.slice OA m oc,.slice NA m nc,.slice IA g ic,vi z,vi ((j:Int))]),(0,11,5,[]),(57,73,87,[])] t_).toArray,[]⟩/\St w fp [eB rb 69 #[vi ((p:Int)),.slice QA rs.length qc,vi ((szF (rs.map RcT.r):Int)),.slice TA p tc],eO 27 8 (.slice QA rs.length qc) rs.length (rs.flatMap rcC),eO 4 1 (.slice TA p tc) p (tB told p),eRc rr,eB cR 27 #[vi t.r.kind,vi t.r.xid,vi t.r.tbl,sn,sn,.slice t.A t.r.eds.length t.c,sn,.string t.r.note],eB dG 129 #[vi 0,vi 0],eO 3 1 (.slice OA m oc) m (os.map (Value.int .i64)),eO 48 3 (.slice NA m nc) m (ps.flatMap pgQ),eO 27 8 (.slice IA g ic) g (nl.flatMap (icL L)),eM (List.map dK rws)] W) (t.r.eds.length-0) ?_ ?_
 exact⟨0,[],0,q3,0,[],(some ⟨M5,0,none⟩),0,[],[],0,(some ⟨M6,0,none⟩),0,(szF (rs.map RcT.r):Int)+(((aC t.r)).size:Int),Nat.zero_le _,rfl,rfl,rfl,rfl,(fun q hq=>by cases hq),rfl,rfl,(by rw[hrs];show _= _+((0:Nat):Int);omega),(by rw[hrs];omega),rfl,(by kernel_rfl),hn48_.pk [1,2,3,4,5,6,7,8,9,0]⟩
 rintro Ub a49 L5 ⟨j,os,m,OA,oc,ps,NA,nc,rws,nl,g,IA,ic,z,hj,hos,hm,herr,hps,hpr,hnl,hg,hz1,hzb,rfl,hj_,et⟩
 refine ovz hj_ fun SX=>?_
 refine wq (wq (sqr (sqp [.m 73 10,.k 74 (po cR 5)] ?_)))
 refine aq 4 et ?_
 refine sqp [.k 76 (vi ((t.r.eds.length:Int))),.k 77 (.bool (decide ((j:Int)<(t.r.eds.length:Int))))] ?_
 refine aa (wds (fun P1 OC=>?_) fun P1 OC=>?_)
 ·refine wp_skip (aa (wq (wp_block (wq ?_))))
  obtain⟨ep,es,eb,hek⟩:=xe (l:=t.r.eds) (j:=j) (by omega)
  have hke:edR (ep,es,eb)=true:=hro.eds _ (List.mem_of_getElem? hek)
  have hez:eb.size<=9223372036854775807:=by have:=dx hke;dsimp only at this;omega
  have hebd:=kV hke
  dsimp only at hebd
  have hpe:=lh hin (List.mem_of_getElem? hek)
  have hj64:j<=64:=by omega
  have hmj:m<=j:=by rw[hm,hos];have h1:=mi (t.r.eds.take j);rw[List.length_take] at h1;omega
  refine sqr (sqp [.k 80 (po cR 5)] ?_)
  refine aq 4 et ?_
  refine sqp [.m 82 10] ?_
  refine sql (.pointer (some ((ad t.A).add (j*3)))) et (fun cx=>aB (e:=84) (m:=j) (sz:=3) rfl (by kernel_rfl) (by kernel_rfl) (cx.ou 81) (cx.ou 82) (by omega) (by omega) (dI (CtxV.holdF cx (cx.init 3 _ rfl) rfl) htr) (bj (sz:=3) bD (by decide) (by omega))) ?_
  refine sql (.pointer (some ((ad t.A).add (j*3+0)))) et (fun cx=>bt rfl (by kernel_rfl) (cx.ou 83)) ?_
  refine sql (vi ep) et (fun cx=>ae rfl (by kernel_rfl) (cx.ou 84) (At.eltc (f:=edC) (k:=0) bD (dI (CtxV.holdF cx (cx.init 3 _ rfl) rfl) htr) hek rfl)) ?_
  refine sqp [.m 11 85] ?_
  refine aa (wq (sqr (sqp [.k 12 (vi 0)] ?_)))
  refine aa (wq (wp_block ?_))
  refine aN (fun t_ mz az W=>∃k:Nat,k<=m/\(∀i,i<k->os[i]? ≠some ep)/\mz=m-k/\az=⟨(ovr (jv az) [(12,12,0,[vi ((k:Int))]),(73,86,14,[])] t_).toArray,[]⟩/\St w fp [eB rb 69 #[vi ((p:Int)),.slice QA rs.length qc,vi ((szF (rs.map RcT.r):Int)),.slice TA p tc],eO 27 8 (.slice QA rs.length qc) rs.length (rs.flatMap rcC),eO 4 1 (.slice TA p tc) p (tB told p),eRc rr,eB cR 27 #[vi t.r.kind,vi t.r.xid,vi t.r.tbl,sn,sn,.slice t.A t.r.eds.length t.c,sn,.string t.r.note],eB dG 129 #[vi 0,vi 0],eO 3 1 (.slice OA m oc) m (os.map (Value.int .i64)),eO 48 3 (.slice NA m nc) m (ps.flatMap pgQ),eO 27 8 (.slice IA g ic) g (nl.flatMap (icL L)),eM (List.map dK rws)] W) (m-0) ?_ ?_
  exact⟨0,Nat.zero_le _,(fun i hi=>absurd hi (by omega)),rfl,(by kernel_rfl),et.pk [0,1,2,3,4,5,6,7,8,9]⟩
  rintro Uc a64 MD ⟨k,hk,hne,rfl,hj_,iJ⟩
  refine ovz hj_ fun SY=>?_
  refine wq (wq (sqr (sqp [.m 86 12,.m 87 6,.k 88 (vi ((m:Int))),.k 89 (.bool (decide ((k:Int)<(m:Int)))),.m 90 89] ?_)))
  refine d3 90 [91,92,93,94,95,96] ?_ rfl (fun hq=>?_) ?_
  rotate_left
  have hq_:=of_decide_eq_true hq
  refine sqp [.m 91 6,.m 92 12] ?_
  refine sql (.pointer (some ((ad OA).add k))) iJ (fun cx=>bS (e:=3) (m:=k) rfl (by kernel_rfl) (by kernel_rfl) (cx.ou 91) (cx.ou 92) (by omega) (by omega) (At.of_own (cx.ri 6 rfl)) (by rw[List.length_map];omega)) ?_
  refine sql (vi (os.getD k 0)) iJ (fun cx=>ae rfl (by kernel_rfl) (cx.ou 93) (At.cellAd (At.of_own (cx.ri 6 rfl)) (GD (by omega)))) ?_
  refine sqp [.m 95 11,.k 96 (.bool ((os.getD k 0) != ep))] ?_
  exact sqe
  refine c5 ?_
  refine sqp [sPa 97 (decide ((k:Int)<(m:Int))) ((os.getD k 0) != ep)] ?_
  refine aa (wbs (fun zQ=>?_) fun zQ=>?_)
  have xw:=zQ
  simp only[zB] at xw
  obtain⟨Rt,Ru⟩:=xw
  refine wp_skip (aa (wp_block (sqr (sqp [.m 98 12,sI 99 ((k:Int)+1) (by omega),.m 12 99] ?_))))
  refine av (aa ?_)
  refine⟨m-((k+1)),by omega,?_⟩
  exact⟨(k+1),by omega,HP hm zQ hne,rfl,(by kernel_rfl),iJ.pk [0,1,2,3,4,5,6,7,8,9]⟩
  have xw:=zQ
  simp only[zB] at xw
  refine wp_exit (al (al (bf (aa ?_))))
  refine ma (fun t_ az W=>∃os2:List Int,∃m2:Nat,∃OA2:Option Addr,∃oc2:Nat,∃ps2:List PgR,∃NA2:Option Addr,∃nc2:Nat,∃rws2:List PgR,∃nl2:List Int,∃g2:Nat,∃IA2:Option Addr,∃ic2:Nat,∃z2:Int,os2=jF os (ep,es,eb)/\m2=os2.length/\ps2.map PgR.p=os2.map (bq (ak L) (t.r.eds.take j))/\(∀q∈ps2,q∈rws2)/\nl2=fY L os2/\g2=nl2.length/\z2=(szF L:Int)+((aC t.r).size:Int)+(szF (ek L os2):Int)/\(0<=z2/\z2<=2000000+200000*((j:Int)+1))/\os2[k]? =some ep/\az=⟨(ovr (jv az) [(6,6,0,[.slice OA2 m2 oc2,.slice NA2 m2 nc2,.slice IA2 g2 ic2,vi z2]),(3,13,2,[]),(85,100,39,[])] t_).toArray,[]⟩/\St w fp [eB rb 69 #[vi ((p:Int)),.slice QA rs.length qc,vi ((szF (rs.map RcT.r):Int)),.slice TA p tc],eO 27 8 (.slice QA rs.length qc) rs.length (rs.flatMap rcC),eO 4 1 (.slice TA p tc) p (tB told p),eRc rr,eB cR 27 #[vi t.r.kind,vi t.r.xid,vi t.r.tbl,sn,sn,.slice t.A t.r.eds.length t.c,sn,.string t.r.note],eB dG 129 #[vi 0,vi 0],eO 3 1 (.slice OA2 m2 oc2) m2 (os2.map (Value.int .i64)),eO 48 3 (.slice NA2 m2 nc2) m2 (ps2.flatMap pgQ),eO 27 8 (.slice IA2 g2 ic2) g2 (nl2.flatMap (icL L)),eM (List.map dK rws2)] W) ?_ ?_
  refine wq ?_
  have hix:=Gd hm hk zQ
  by_cases hkm:k=m
  have hnew:=Kh (hkm.trans hm) hne
  have hcr:=iB L ep
  refine sqr ?_
  have hd86:((k:Int)==(m:Int))=true:=(beq_iff_eq.2 (by omega))
  refine sqp [.m 100 12,.m 101 6,.k 102 (vi ((m:Int))),.e 103 (.bool ((k:Int)==(m:Int))) (.bool true) (congrArg Value.bool hd86)] ?_
  refine aa (wct rfl (wq (sqr (sqp [.m 104 0,.k 105 (vp rb),.k 106 (po rb 1)] ?_))))
  refine aq 0 iJ ?_
  refine sqp [.m 108 11] ?_
  refine iE (fun eC eD=> .agg #[vi ((ak L ep).1),vi ((ak L ep).2.1),.slice eC ((ak L ep).2.2.length) eD]) (fun eC eD=>eO 9 1 (.slice eC ((ak L ep).2.2.length) eD) ((ak L ep).2.2.length) ((ak L ep).2.2.map Value.string)) iJ (fun cx=>⟨_,(JL hrs (kL _ _ rs ep _ ⟨At.of_ownN (cx.ri 1 rfl),fun t ht=>dI (CtxV.holdF cx (cx.init 3 _ rfl) rfl) (hsub t ht)⟩ hrl hrL)).mono (by rintro e W1 ⟨A4,c4,rfl,ho,hx⟩;exact⟨_,_,rfl,St.one hx (cu ho)⟩),(aM (cx.ou 107) (cx.ou 108))⟩) fun eC eD Mp l7=>?_
  refine b8 #[vi 0,vi 0,sn] l7 fun Rv QS CM=>?_
  refine aX (n:=3) 11 #[vi ((ak L ep).1),vi ((ak L ep).2.1),.slice eC ((ak L ep).2.2.length) eD] CM fun O0 uJ=>?_
  refine aa (wq (sqr (sqp [.m 110 6,.m 111 11] ?_)))
  refine ea (fun x_=>sA x_) (fun rM=> .slice rM 1 1) (fun rM=>eO 3 1 (.slice rM 1 1) 1 ([vi ep])) uJ (by
    refine svA fun o b W X cx=>?_
    have OD:o (.tmp 111)=vi ep:=(cx.ou 111)
    exact dy (e:=3) (xs:=[vi ep]) rfl (by simp[go_sem,OD]) rfl (by decide) rfl rfl (fun _ _ _ _ _=> .intro)) fun rM Ud OE=>?_
  refine sk (fun x_=>sA x_) (fun x_=>sC x_) (fun mr ms=> .slice mr (m+1) ms) (fun mr ms=>eO 3 1 (.slice mr (m+1) ms) (m+1) ((os++[ep]).map (Value.int .i64))) 6 OE (by
    refine svA fun o b W X cx=>?_
    obtain⟨i0,hi0,hz0,hz1,hz2⟩:=info_parts Tryz.infoIntJ
    refine fe (n:=m) (m:=1) (nm:=m+1) (xs:=os.map (Value.int .i64)) (news:=[vi ep]) (xs':=(os++[ep]).map (Value.int .i64)) rfl (ty:=25) rfl (by kernel_rfl) hi0 hz0 hz1 hz2 rfl (cx.ou 110) cx (cx.init 6 _ rfl) rfl (cx.ou 112) (by first|(simp;done)|(simp;omega)) (At.of_own (cx.ri 12 rfl)) (by simp[Value.oneCell']) (by simp only[maxLen];omega) (by omega) rfl rfl rfl (by omega) ((Bj _ _)) (fun d s X' hs hb hv hx=>?_)
    exact⟨hv,hx⟩) fun mr ms Ue OF=>?_
  refine sqp [.m 6 113] ?_
  refine aa (wq ?_)
  have hg100_:=St.apf (r:=(⟨ak L ep,eC,eD⟩:PgR)) OF.u10.u10
  have hpn:(⟨ak L ep,eC,eD⟩:PgR)∈rws++[(⟨ak L ep,eC,eD⟩:PgR)]:=by simp
  refine sqr (sqp [.m 114 7] ?_)
  refine bI 10 3 hg100_ ?_
  refine mK 48 3 1 [vi ((ak L ep).1),vi ((ak L ep).2.1),.slice eC ((ak L ep).2.2.length) eD] hg100_ (@fun o b W X cx=>by have OG:o (.tmp 115)= .agg #[vi ((ak L ep).1),vi ((ak L ep).2.1),.slice eC ((ak L ep).2.2.length) eD]:=(cx.ou 115);simp[go_sem,OG]) fun P2 SZ M7=>?_
  refine vw (m+1) ((ps++[(⟨ak L ep,eC,eD⟩:PgR)]).flatMap pgQ) 8 M7 Tryz.infoPgJ (fun cx=>(At.of_ownN (cx.ri 12 rfl))) (jP:=(yB ps (⟨ak L ep,eC,eD⟩:PgR))) fun zR zS S4 FC=>?_
  refine sqp [.m 7 117] ?_
  refine aa (wq (sqr (sqp [.m 118 0,.k 119 (vp rb),.k 120 (po rb 1)] ?_)))
  refine aq 1 FC ?_
  refine sqp [.m 122 11] ?_
  refine sqk (.bool ((fC L ep))) FC (fun cx=>⟨_,GN hrs (xC _ _ rs ep _ ⟨At.of_ownN (cx.ri 2 rfl),fun t ht=>dI (CtxV.holdF cx (cx.init 4 _ rfl) rfl) (hsub t ht)⟩ hrl),(aM (cx.ou 121) (cx.ou 122))⟩) fun S6 zT=>?_
  refine sqp [.k 124 (.bool (!((fC L ep))))] ?_
  refine aa ?_
  rcases Bool.eq_false_or_eq_true ((fC L ep)) with vg|vg
  refine wp_cond_false (show Act.eval _ _= .bool false from(congrArg Value.bool (by rw[vg];rfl))) (wp_skip (aa ?_))
  have hnd_:fY L (os++[ep])=fY L os:=by rw[tU,if_pos (by simpa using vg)]
  exact⟨(os++[ep]),(m+1),mr,ms,(ps++[(⟨ak L ep,eC,eD⟩:PgR)]),zR,zS,(rws++[(⟨ak L ep,eC,eD⟩:PgR)]),nl,g,IA,ic,z,(kq (e:=(ep,es,eb)) hnew).symm,(by rw[List.length_append,List.length_singleton];omega),(by rw[List.map_append,List.map_append,hps];show _++[ak L ep]= _++[bq (ak L) (t.r.eds.take j) ep];rw[Bi (by rw[<-hos];exact hnew)]),(fun q hq=>(List.mem_append.1 hq).elim (fun h=>List.mem_append_left _ (hpr q h)) fun h=>List.mem_append_right _ h),(by rw[hnd_,hnl]),hg,(by rw[tN,hnd_,<-tN];exact hz1),(by omega),(by rw[List.getElem?_append_right (by omega)];rw[show k-os.length=0 by omega];rfl),(by kernel_rfl),zT.pk [1,2,3,4,5,6,7,8,9,0]⟩
  refine wp_cond_true (show Act.eval _ _= .bool true from(congrArg Value.bool (by rw[vg];rfl))) (wq ?_)
  have hgb:g<=64:=by rw[hg,hnl];have h1:=v6 L os;omega
  have him:fC L ep=false:=by simpa using vg
  have hbz:=dD hcr
  have hfi:=eU (qo (L:=L) (n:=ep) (by omega))
  refine sqr (sqp [.m 125 11] ?_)
  refine bI 10 3 zT ?_
  refine sqk (.agg #[.string (aH (ak L ep)),vi 0]) zT (fun cx=>⟨_,Bz (p:=ak L ep) (jd (CtxV.holdF cx (cx.init 0 _ rfl) rfl) hpn) hcr (sg (CtxV.holdF cx (cx.init 0 _ rfl) rfl) hpn),(ax (cx.ou 126))⟩) fun S8 FD=>?_
  refine sql (.string (aH (ak L ep))) FD (fun cx=>lR rfl (cx.ou 127) (fun _=>by kernel_rfl)) ?_
  refine sqp [.k 129 (.agg #[vi 8,vi 0,vi ep,sn,sn,sn,sn,.string (aH (ak L ep))])] ?_
  refine b8 #[vi 0,vi 0,vi 0,sn,sn,sn,sn,.string ByteArray.empty] FD fun Qi Ta M8=>?_
  refine aX (n:=8) 13 #[vi 8,vi 0,vi ep,sn,sn,sn,sn,.string (aH (ak L ep))] M8 fun PE uQ=>?_
  refine aa (wq (sqr (sqp [.m 130 8] ?_)))
  refine bI 13 8 uQ ?_
  refine mK 27 8 1 [vi 8,vi 0,vi ep,sn,sn,sn,sn,.string (aH (ak L ep))] uQ (@fun o b W X cx=>by have OH:o (.tmp 131)= .agg #[vi 8,vi 0,vi ep,sn,sn,sn,sn,.string (aH (ak L ep))]:=(cx.ou 131);simp[go_sem,OH]) fun P3 Tb M9=>?_
  refine vw (g+1) ((nl++[ep]).flatMap (icL L)) 9 M9 Tryz.infoRecJ (fun cx=>(At.of_ownN (cx.ri 14 rfl))) (jP:=(F7 L nl ep)) fun Ir It PF uR=>?_
  refine sqp [.m 8 133] ?_
  refine aa (sqr (sqp [.m 134 9] ?_))
  refine bI 13 8 uR ?_
  refine sqk (.string ((aC (imR L ep)))) uR (fun cx=>⟨_,jT 8 0 ep none 0 [] (aH (ak L ep)) _ (fun j u h=>by cases j<;>cases h) (by decide) (fun e he=>by cases he) (by omega),(ax (cx.ou 135))⟩) fun Tc Na=>?_
  refine sqp [.k 137 (vi ((((aC (imR L ep))).size:Int))),sI 138 (z+(((aC (imR L ep))).size:Int)) (by omega),.m 9 138] ?_
  refine aa ?_
  have hnd_:fY L (os++[ep])=fY L os++[ep]:=by rw[tU,if_neg (by rw[him];decide)]
  exact⟨(os++[ep]),(m+1),mr,ms,(ps++[(⟨ak L ep,eC,eD⟩:PgR)]),zR,zS,(rws++[(⟨ak L ep,eC,eD⟩:PgR)]),(nl++[ep]),(g+1),Ir,It,z+(((aC (imR L ep))).size:Int),(kq (e:=(ep,es,eb)) hnew).symm,(by rw[List.length_append,List.length_singleton];omega),(by rw[List.map_append,List.map_append,hps];show _++[ak L ep]= _++[bq (ak L) (t.r.eds.take j) ep];rw[Bi (by rw[<-hos];exact hnew)]),(fun q hq=>(List.mem_append.1 hq).elim (fun h=>List.mem_append_left _ (hpr q h)) fun h=>List.mem_append_right _ h),(by rw[hnd_,hnl]),(by rw[List.length_append,List.length_singleton];omega),(by rw[tN,hnd_,List.map_append,List.map_singleton,pf,<-tN];omega),(by omega),(by rw[List.getElem?_append_right (by omega)];rw[show k-os.length=0 by omega];rfl),(by kernel_rfl),Na.pk [1,2,3,4,5,6,7,8,9,0]⟩
  have hko:os[k]? =some ep:=hix.resolve_left hkm
  refine sqr ?_
  have hd136:((k:Int)==(m:Int))=false:=(beq_eq_false_iff_ne.2 (by omega))
  refine sqp [.m 100 12,.m 101 6,.k 102 (vi ((m:Int))),.e 103 (.bool ((k:Int)==(m:Int))) (.bool false) (congrArg Value.bool hd136)] ?_
  refine aa (wcf rfl (wp_skip (aa ?_)))
  exact⟨os,m,OA,oc,ps,NA,nc,rws,nl,g,IA,ic,z,(mB (e:=(ep,es,eb)) (List.mem_of_getElem? hko)).symm,hm,hps,hpr,hnl,hg,hz1,(by omega),hko,(by kernel_rfl),iJ.pk [0,1,2,3,4,5,6,7,8,9]⟩
  rintro a81 QM ⟨os2,m2,OA2,oc2,ps2,NA2,nc2,rws2,nl2,g2,IA2,ic2,z2,hos2,hm2,hps2,hpr2,hnl2,hg2,hz2,hzb2,hk2,hj_,xm⟩
  refine ovz hj_ fun Td=>?_
  refine wq ?_
  obtain⟨pq,hpk,hpq⟩:=yP hps2 hk2
  have hpm:=hpr2 pq (List.mem_of_getElem? hpk)
  have hkl:k<m2:=by rw[hm2];exact(List.getElem?_eq_some_iff.1 hk2).1
  have hpl:ps2.length=m2:=by have h_:=congrArg List.length hps2;rw[List.length_map,List.length_map] at h_;omega
  have hri:bJ pq.p:=by rw[hpq];exact jO (iB L) herr ep
  obtain⟨er,hde⟩:∃z,doE pq.p (ep,es,eb) 1=z:=⟨_,rfl⟩
  by_cases hd0:er=0
  subst hd0
  have hd:=hde
  refine aG [0,0,3,7,0,16,0,112,240,511,0,2047] [[],[],[7],[7],[],[4],[],[3],[3],[9],[],[11]] [[],[],[],[],[],[],[],[],[],[10],[11],[12]] [[],[],[],[],[],[],[],[],[],[],[],[11]] [.k 139 (.slice NA2 m2 nc2),.k 140 (vi ((k:Int))),.c 141 (.pointer (some ((ad NA2).add (k*3)))),.c 142 (.agg #[vi pq.p.1,vi pq.p.2.1,.slice pq.A pq.p.2.2.length pq.c]),.k 143 (po cR 5),.c 144 (.slice t.A t.r.eds.length t.c),.k 145 (vi ((j:Int))),.c 146 (.pointer (some ((ad t.A).add (j*3)))),.c 147 (.agg #[vi ep,vi es,.string eb]),.a 148,.a 15,.n] (fun ix d b X=>match ix with|0|1|2|3|4|5|6|7|8=>True|9=>d 148= .agg #[vi ((doV pq.p (ep,es,eb) 1).1),vi ((doV pq.p (ep,es,eb) 1).2.1),.slice (sA (tg (b 148) 2)) ((doV pq.p (ep,es,eb) 1).2.2.length) (sC (tg (b 148) 2)),vi 0]/\X 10=eO 9 1 (.slice (sA (tg (b 148) 2)) ((doV pq.p (ep,es,eb) 1).2.2.length) (sC (tg (b 148) 2))) ((doV pq.p (ep,es,eb) 1).2.2.length) ((doV pq.p (ep,es,eb) 1).2.2.map Value.string)|10=>d 15=vp (pb (b 15))/\X 11=eB (pb (b 15)) 78 #[vi 0,vi 0,sn,vi 0]|11=>X 12=eB (pb (b 15)) 78 #[vi ((doV pq.p (ep,es,eb) 1).1),vi ((doV pq.p (ep,es,eb) 1).2.1),.slice (sA (tg (b 148) 2)) ((doV pq.p (ep,es,eb) 1).2.2.length) (sC (tg (b 148) 2)),vi 0]|_=>True) [0,1,2,3,4,5,6,7,8,9,10,12] [2,3,5,7,8,9,10,11] [(15,10,1,16),(123,0,10,133)] xm ?_ ?_ ?_
  exact fun ix _ _ _ _ _ _ hs hb hx h=>match ix,h with
  |9,h=>by dsimp only;rw[<-hs 148 rfl,<-hb 148 rfl,<-hx 10 rfl];exact h
  |10,h=>by dsimp only;rw[<-hs 15 rfl,<-hb 15 rfl,<-hx 11 rfl];exact h
  |11,h=>by dsimp only;rw[<-hb 15 rfl,<-hb 148 rfl,<-hx 12 rfl];exact h
  |0,_|1,_|2,_|3,_|4,_|5,_|6,_|7,_|8,_|_+12,_=>trivial
  refine⟨?_,?_,?_,?_,?_,?_,?_,?_,trivial⟩
  exact xs4 rfl id fun cx=>aB (e:=48) (m:=k) (sz:=3) rfl (by kernel_rfl) (by kernel_rfl) (cx.an 0) (cx.an 1) (by omega) (by omega) (At.of_ownN (cx.ri 7 rfl)) (bj (sz:=3) iz (by decide) (by omega))
  exact xs4 rfl id fun cx=>bF (f:=pgQ) (m:=k) (sz:=3) (off:=0) (n:=3) rfl (by kernel_rfl) (by kernel_rfl) (cx.an 2) rfl iz (At.of_ownN (cx.ri 7 rfl)) hpk (fun k hk=>match k,hk with|0,_=>rfl|1,_=>rfl|2,_=>rfl|k+3,hk=>absurd hk (by omega))
  exact xs4 rfl id fun cx=>ae rfl (by kernel_rfl) (cx.an 4) ((cx.bi 4 rfl).cell 5)
  exact xs4 rfl id fun cx=>aB (e:=84) (m:=j) (sz:=3) rfl (by kernel_rfl) (by kernel_rfl) (cx.an 5) (cx.an 6) (by omega) (by omega) (dI (CtxV.holdF cx (cx.init 3 _ rfl) rfl) htr) (bj (sz:=3) bD (by decide) (by omega))
  exact xs4 rfl id fun cx=>bF (f:=edC) (m:=j) (sz:=3) (off:=0) (n:=3) rfl (by kernel_rfl) (by kernel_rfl) (cx.an 7) rfl bD (dI (CtxV.holdF cx (cx.init 3 _ rfl) rfl) htr) hek (fun k hk=>match k,hk with|0,_=>rfl|1,_=>rfl|2,_=>rfl|k+3,hk=>absurd hk (by omega))
  refine svA fun o b W X cx=>?_
  refine am.call (au (args:=#[.agg #[vi pq.p.1,vi pq.p.2.1,.slice pq.A pq.p.2.2.length pq.c],.agg #[vi ep,vi es,.string eb],vi 1]) rfl cx.sees rfl (by kernel_rfl) (dL (cx.an 3) (cx.an 8) (cx.co _))) ?_
  refine(Bh hde (rj pq.p.1 pq.p.2.1 _ _ pq.p.2.2 ep es eb 1 _ (jd (CtxV.holdF cx (cx.init 9 _ rfl) rfl) hpm) hri.1 (sg (CtxV.holdF cx (cx.init 9 _ rfl) rfl) hpm) hez)).mono ?_
  rintro e W1 ⟨A4,c4,rfl,ho,hx⟩
  refine⟨_,rfl,bR [eO 9 1 (.slice A4 (doV pq.p (ep,es,eb) 1).2.2.length c4) (doV pq.p (ep,es,eb) 1).2.2.length ((doV pq.p (ep,es,eb) 1).2.2.map Value.string)] rfl rfl hx (one_new (cu ho)) (List.pairwise_singleton _ _) (fun d s X' hs hb hv hN=>?_)⟩
  have aJ:=(hv 148 rfl).1;have aV:=(hv 148 rfl).2
  exact⟨aJ.trans (by rw[aV];exact rfl),(by rw[aV];exact(List.cons.inj hN).1)⟩
  refine svA fun o b W X cx=>?_
  exact dm (cs:=#[vi 0,vi 0,sn,vi 0]) rfl (by kernel_rfl) rfl rfl (fun _ _ _ _ _=> .intro)
  refine svA fun o b W X cx=>?_
  exact bx (n:=4) rfl (dTn (cx.an 10)).1 (dTn (cx.an 9)).1 (by kernel_rfl) (by kernel_rfl) (by kernel_rfl) cx (dTn (cx.an 10)).2 rfl (nle rfl) (by kernel_rfl) rfl rfl rfl (fun d s X' hs hb hx=>by rw[hb 15,hb 148];exact hx)
  intro d b X Te hD oE fr aD
  simp only[exq 10 ((dTn (hD 9 lq)).2),exq 12 ((dTn (hD 11 lq)))] at oE
  simp only[ed 148 ((dTn (hD 9 lq)).1),ed 15 ((dTn (hD 10 lq)).1)] at aD
  generalize sA (tg (b 148) 2)=kG,sC (tg (b 148) 2)=kH,pb (b 15)=Bv at oE aD
  clear hD;subst aD;clear d b X
  refine aa (wq (wq (sqr (sqp [.k 149 (po Bv 3)] ?_))))
  refine aq 11 oE ?_
  refine sqp [.k 151 (.bool false)] ?_
  refine aa (wcf rfl (wp_skip (aa (sqr (sqp [.m 155 7,.m 156 12,.k 157 (vp Bv)] ?_)))))
  refine bI 11 3 oE ?_
  refine sql (.pointer (some ((ad NA2).add (k*3)))) oE (fun cx=>aB (e:=48) (m:=k) (sz:=3) rfl (by kernel_rfl) (by kernel_rfl) (cx.ou 155) (cx.ou 156) (by omega) (by omega) (At.of_ownN (cx.ri 7 rfl)) (bj (sz:=3) iz (by decide) (by omega))) ?_
  refine sqc (eO 48 3 (.slice NA2 m2 nc2) m2 ((ps2.set k (⟨doV pq.p (ep,es,eb) 1,kG,kH⟩:PgR)).flatMap pgQ)) 7 oE (by
    refine svA fun o b W X cx=>?_
    exact rV (m:=k*3) (n:=m2) (sz:=3) (k:=3) rfl (cx.ou 159) (show _=Value.agg #[vi ((doV pq.p (ep,es,eb) 1).1),vi ((doV pq.p (ep,es,eb) 1).2.1),.slice kG ((doV pq.p (ep,es,eb) 1).2.2.length) kH] from(cx.ou 158)) (by kernel_rfl) (by kernel_rfl) (by kernel_rfl) cx (cx.init 7 _ rfl) rfl (by omega) (by decide) rfl (Dn iz (ts:=ps2) (m:=k) (by omega) (⟨doV pq.p (ep,es,eb) 1,kG,kH⟩:PgR)) rfl rfl (fun _ _ _ _ _=>id)) fun Tf Nb=>?_
  refine av (aa (sqr (sqp [.m 78 10,sI 79 ((j:Int)+1) (by omega),.m 10 79] ?_)))
  refine aa ?_
  have hg150_:=St.apf (r:=(⟨doV pq.p (ep,es,eb) 1,kG,kH⟩:PgR)) Nb.u10.u10
  have hnd2:os2.Nodup:=by rw[hos2,hos,<-sF,<-ip hek];exact DI _
  refine⟨t.r.eds.length-((j+1)),by omega,?_⟩
  exact⟨(j+1),os2,m2,OA2,oc2,(ps2.set k (⟨doV pq.p (ep,es,eb) 1,kG,kH⟩:PgR)),NA2,nc2,(rws2++[(⟨doV pq.p (ep,es,eb) 1,kG,kH⟩:PgR)]),nl2,g2,IA2,ic2,z2,by omega,(by rw[ip hek,sF,<-hos];exact hos2),hm2,(yd hek herr (by rw[<-hpq];exact hd)),(by rw[ip hek];exact KH hnd2 hk2 hps2 (by rw[<-hpq])),(fun q hq=>(List.mem_or_eq_of_mem_set hq).elim (fun h=>List.mem_append_left _ (hpr2 q h)) fun h=>by rw[h];simp),hnl2,hg2,hz2,(by omega),rfl,(by kernel_rfl),hg150_.pk [1,2,3,4,5,6,7,8,9,0]⟩
  refine aG [0,0,3,7,0,16,0,112,240,511,0,2047] [[],[],[7],[7],[],[4],[],[3],[3],[9],[],[11]] [[],[],[],[],[],[],[],[],[],[10],[11],[12]] [[],[],[],[],[],[],[],[],[],[],[],[11]] [.k 139 (.slice NA2 m2 nc2),.k 140 (vi ((k:Int))),.c 141 (.pointer (some ((ad NA2).add (k*3)))),.c 142 (.agg #[vi pq.p.1,vi pq.p.2.1,.slice pq.A pq.p.2.2.length pq.c]),.k 143 (po cR 5),.c 144 (.slice t.A t.r.eds.length t.c),.k 145 (vi ((j:Int))),.c 146 (.pointer (some ((ad t.A).add (j*3)))),.c 147 (.agg #[vi ep,vi es,.string eb]),.a 148,.a 15,.n] (fun ix d b X=>match ix with|0|1|2|3|4|5|6|7|8=>True|9=>d 148= .agg #[vi bw.1,vi bw.2.1,.slice (sA (tg (b 148) 2)) bw.2.2.length (sC (tg (b 148) 2)),vi er]/\X 10=eO 9 1 (.slice (sA (tg (b 148) 2)) bw.2.2.length (sC (tg (b 148) 2))) bw.2.2.length (bw.2.2.map Value.string)|10=>d 15=vp (pb (b 15))/\X 11=eB (pb (b 15)) 78 #[vi 0,vi 0,sn,vi 0]|11=>X 12=eB (pb (b 15)) 78 #[vi bw.1,vi bw.2.1,.slice (sA (tg (b 148) 2)) bw.2.2.length (sC (tg (b 148) 2)),vi er]|_=>True) [0,1,2,3,4,5,6,7,8,9,10,12] [2,3,5,7,8,9,10,11] [(15,10,1,16),(123,0,10,133)] xm ?_ ?_ ?_
  exact fun ix _ _ _ _ _ _ hs hb hx h=>match ix,h with
  |9,h=>by dsimp only;rw[<-hs 148 rfl,<-hb 148 rfl,<-hx 10 rfl];exact h
  |10,h=>by dsimp only;rw[<-hs 15 rfl,<-hb 15 rfl,<-hx 11 rfl];exact h
  |11,h=>by dsimp only;rw[<-hb 15 rfl,<-hb 148 rfl,<-hx 12 rfl];exact h
  |0,_|1,_|2,_|3,_|4,_|5,_|6,_|7,_|8,_|_+12,_=>trivial
  refine⟨?_,?_,?_,?_,?_,?_,?_,?_,trivial⟩
  exact xs4 rfl id fun cx=>aB (e:=48) (m:=k) (sz:=3) rfl (by kernel_rfl) (by kernel_rfl) (cx.an 0) (cx.an 1) (by omega) (by omega) (At.of_ownN (cx.ri 7 rfl)) (bj (sz:=3) iz (by decide) (by omega))
  exact xs4 rfl id fun cx=>bF (f:=pgQ) (m:=k) (sz:=3) (off:=0) (n:=3) rfl (by kernel_rfl) (by kernel_rfl) (cx.an 2) rfl iz (At.of_ownN (cx.ri 7 rfl)) hpk (fun k hk=>match k,hk with|0,_=>rfl|1,_=>rfl|2,_=>rfl|k+3,hk=>absurd hk (by omega))
  exact xs4 rfl id fun cx=>ae rfl (by kernel_rfl) (cx.an 4) ((cx.bi 4 rfl).cell 5)
  exact xs4 rfl id fun cx=>aB (e:=84) (m:=j) (sz:=3) rfl (by kernel_rfl) (by kernel_rfl) (cx.an 5) (cx.an 6) (by omega) (by omega) (dI (CtxV.holdF cx (cx.init 3 _ rfl) rfl) htr) (bj (sz:=3) bD (by decide) (by omega))
  exact xs4 rfl id fun cx=>bF (f:=edC) (m:=j) (sz:=3) (off:=0) (n:=3) rfl (by kernel_rfl) (by kernel_rfl) (cx.an 7) rfl bD (dI (CtxV.holdF cx (cx.init 3 _ rfl) rfl) htr) hek (fun k hk=>match k,hk with|0,_=>rfl|1,_=>rfl|2,_=>rfl|k+3,hk=>absurd hk (by omega))
  refine svA fun o b W X cx=>?_
  refine am.call (au (args:=#[.agg #[vi pq.p.1,vi pq.p.2.1,.slice pq.A pq.p.2.2.length pq.c],.agg #[vi ep,vi es,.string eb],vi 1]) rfl cx.sees rfl (by kernel_rfl) (dL (cx.an 3) (cx.an 8) (cx.co _))) ?_
  refine(A7 hde hd0 (rj pq.p.1 pq.p.2.1 _ _ pq.p.2.2 ep es eb 1 _ (jd (CtxV.holdF cx (cx.init 9 _ rfl) rfl) hpm) hri.1 (sg (CtxV.holdF cx (cx.init 9 _ rfl) rfl) hpm) hez)).mono ?_
  rintro e W1 ⟨A4,c4,rfl,ho,hx⟩
  refine⟨_,rfl,bR [eO 9 1 (.slice A4 bw.2.2.length c4) bw.2.2.length (bw.2.2.map Value.string)] rfl rfl hx (one_new (cu ho)) (List.pairwise_singleton _ _) (fun d s X' hs hb hv hN=>?_)⟩
  have aJ:=(hv 148 rfl).1;have aV:=(hv 148 rfl).2
  exact⟨aJ.trans (by rw[aV];exact rfl),(by rw[aV];exact(List.cons.inj hN).1)⟩
  refine svA fun o b W X cx=>?_
  exact dm (cs:=#[vi 0,vi 0,sn,vi 0]) rfl (by kernel_rfl) rfl rfl (fun _ _ _ _ _=> .intro)
  refine svA fun o b W X cx=>?_
  exact bx (n:=4) rfl (dTn (cx.an 10)).1 (dTn (cx.an 9)).1 (by kernel_rfl) (by kernel_rfl) (by kernel_rfl) cx (dTn (cx.an 10)).2 rfl (nle rfl) (by kernel_rfl) rfl rfl rfl (fun d s X' hs hb hx=>by rw[hb 15,hb 148];exact hx)
  intro d b X PT hD m6 fr aD
  simp only[exq 10 ((dTn (hD 9 lq)).2),exq 12 ((dTn (hD 11 lq)))] at m6
  simp only[ed 148 ((dTn (hD 9 lq)).1),ed 15 ((dTn (hD 10 lq)).1)] at aD
  generalize sA (tg (b 148) 2)=P4,sC (tg (b 148) 2)=P5,pb (b 15)=Bw at m6 aD
  clear hD;subst aD;clear d b X
  refine aa (wq (wq (sqr (sqp [.k 149 (po Bw 3)] ?_))))
  refine aq 11 m6 ?_
  have hd155:(er != 0)=true:=(bne_iff_ne.2 hd0)
  refine sqp [.e 151 (.bool (er != 0)) (.bool true) (congrArg Value.bool hd155)] ?_
  refine aa (wct rfl (wq (sqr (sqp [.k 152 (po Bw 3)] ?_))))
  refine aq 11 m6 ?_
  refine sqp [.k 154 (.agg #[vi 0,vi er])] ?_
  refine aX (n:=2) 5 #[vi 0,vi er] m6 fun Tg FE=>?_
  refine aa (wp_ret (ai (bb (ai (ai (bb (ai ?_)))))))
  refine bpr (.agg #[vi 0,vi er]) (bG (n:=2) Tryz.results77 rfl (by kernel_rfl) (by kernel_rfl) (FE.blk 5 rfl) rfl) ?_
  have Nc:=sr hek herr (by rw[<-hpq,hde];exact hd0)
  have hE_:rfE p L t.r=er:=by rw[IE hda hin (by rw[Nc,<-hpq,hde];exact hd0),Nc,<-hpq];exact hde
  obtain⟨fp160_,hr160_⟩:=St.rq (rs:=rs) (told:=told) (p:=p) (rr:=rr) (FE.u4.c0.u4.c0.u4.c0.u4.c0.u4.c0.u4.c0.u4.c0.u4.c0)
  have Nd:=St.rf (L:=L) hr160_ (hrs) (hsub)
  exact⟨by rw[j8 (told:=told) hE_ (by first|decide|assumption),hE_],_,by rw[j8 (told:=told) hE_ (by first|decide|assumption)];exact Nd⟩
 refine wp_exit (al (al (bf (aa (wq (wq ?_))))))
 have hje:j=t.r.eds.length:=by omega
 have her9:cU (ak L) t.r.eds=0:=by have h_:=herr;rw[hje,List.take_length] at h_;exact h_
 have hosF:os=cH t.r.eds:=by rw[hos,hje,List.take_length]
 have hps9:ps.map PgR.p=os.map (bq (ak L) t.r.eds):=by rw[hps,hje,List.take_length]
 have hm64:m<=64:=by have h1:=mi t.r.eds;rw[hm,hosF];omega
 have hpro:∀n∈os,0<=n/\n<(p:Int):=fun n hn=>by rw[hosF] at hn;obtain⟨x,hx,rfl⟩:=ky.1 hn;exact lh hin hx
 have hgb:g<=64:=by rw[hg,hnl];have h1:=v6 L os;omega
 have hpl:ps.length=m:=by have h_:=congrArg List.length hps9;rw[List.length_map,List.length_map] at h_;omega
 refine sqr (sqp [.m 160 9,.k 161 (.bool (decide (1048576<z)))] ?_)
 refine aa (wds (fun CZ Nf=>?_) fun CZ Nf=>?_)
 refine wq (sqr (sqp [.k 162 (.agg #[vi 0,vi 31])] ?_))
 refine aX (n:=2) 5 #[vi 0,vi 31] et fun Th FF=>?_
 refine aa (wp_ret (ai ?_))
 refine bpr (.agg #[vi 0,vi 31]) (bG (n:=2) Tryz.results77 rfl (by kernel_rfl) (by kernel_rfl) (FF.blk 5 rfl) rfl) ?_
 have hE_:rfE p L t.r=31:=DP hda hin her9 (by rw[<-hosF];have h_:=CZ;simp at h_;omega)
 obtain⟨fp167_,hr167_⟩:=St.rq (rs:=rs) (told:=told) (p:=p) (rr:=rr) (FF.u4.c0.u4.c0.u4.c0.u4.c0.u4.c0.u4.c0)
 have Ng:=St.rf (L:=L) hr167_ (hrs) (hsub)
 exact⟨by rw[j8 (told:=told) hE_ (by first|decide|assumption),hE_],_,by rw[j8 (told:=told) hE_ (by first|decide|assumption)];exact Ng⟩
 refine wp_skip (aa (wq (wq ?_)))
 have hfit:szF L+((aC t.r).size+szF (ek L os))<=1048576:=by have h_:=CZ;simp at h_;omega
 have hE0:rfE p L t.r=0:=xj hda hin her9 (by rw[<-hosF];exact hfit)
 refine sqr (sqp [.k 16 (vi 0)] ?_)
 refine aa (wp_block ?_)
 obtain⟨fp170_,hr170_⟩:=St.rq (rs:=rs) (told:=told) (p:=p) (rr:=rr) (et)
 refine aN (fun t_ mz az W=>∃i:Nat,∃rs1:List RcT,∃rr1:List RcT,∃fp1:List Nat,i<=g/\rs1.map RcT.r=L++(ek L os).take i/\((∀x∈rs1,x∈rr1)/\t∈rr1)/\mz=g-i/\az=⟨(ovr (jv az) [(16,16,0,[vi ((i:Int))]),(146,163,12,[])] t_).toArray,[]⟩/\St w fp [eRq rb rs1 told p rr1 fp1,eB cR 27 #[vi t.r.kind,vi t.r.xid,vi t.r.tbl,sn,sn,.slice t.A t.r.eds.length t.c,sn,.string t.r.note],eB dG 129 #[vi 0,vi 0],eO 3 1 (.slice OA m oc) m (os.map (Value.int .i64)),eO 48 3 (.slice NA m nc) m (ps.flatMap pgQ),eO 27 8 (.slice IA g ic) g (nl.flatMap (icL L)),eM (List.map dK rws)] W) (g-0) ?_ ?_
 exact⟨0,rs,rr,fp170_,Nat.zero_le _,(by rw[hrs,List.take_zero,List.append_nil]),⟨hsub,htr⟩,rfl,(by kernel_rfl),hr170_.pk [0,1,2,3,4,5,6]⟩
 rintro Ti a171 Tj ⟨i,rs1,rr1,fp1,hi1,hr1,fK,rfl,hj_,FG⟩
 refine ovz hj_ fun RX=>?_
 refine wq (wq (sqr (sqp [.m 163 16,.m 164 8,.k 165 (vi ((g:Int))),.k 166 (.bool (decide ((i:Int)<(g:Int))))] ?_)))
 refine aa (wds (fun OI Nh=>?_) fun OI Nh=>?_)
 refine wp_skip (aa (wq (wp_block ?_)))
 obtain⟨nn,hnn⟩:∃n,nl[i]? =some n:=⟨_,List.getElem?_eq_getElem (by omega)⟩
 have hnn2:(fY L os)[i]? =some nn:=by rw[<-hnl];exact hnn
 have hpn2:=hpro nn (Et (List.mem_of_getElem? hnn2))
 have hit:=G2 hnn2
 have hl1_:rs1.length<=200000:=by have h_:=congrArg List.length hr1;rw[List.length_map,List.length_append,List.length_take,sX,<-hnl] at h_;omega
 have hz1_:szF (rs1.map RcT.r)<=100000000:=by rw[hr1,vQ];have h_:=Cn (ek L os) i;omega
 have hir:=qo (L:=L) (n:=nn) (by omega)
 have hn177:=fi FG 84 3
 simp only[List.cons_append,List.nil_append] at hn177
 obtain⟨fp178_,hx178_⟩:=St.rqR (t:=rcI (imR L nn)) hn177.u7
 have htm_:rcI (imR L nn)∈rr1++[rcI (imR L nn)]:=by simp
 refine sqr (sqp [.m 169 0,.m 170 8,.m 171 16] ?_)
 refine sql (.pointer (some ((ad IA).add (i*8)))) hx178_ (fun cx=>aB (e:=27) (m:=i) (sz:=8) rfl (by kernel_rfl) (by kernel_rfl) (cx.ou 170) (cx.ou 171) (by omega) (by omega) (At.of_ownN (cx.ri 5 rfl)) (bj (sz:=8) (Bo L) (by decide) (by omega))) ?_
 refine sql (.agg #[vi 8,vi 0,vi nn,sn,sn,sn,sn,.string ((aH (ak L nn)))]) hx178_ (fun cx=>bF (f:=(icL L)) (m:=i) (sz:=8) (off:=0) (n:=8) rfl (by kernel_rfl) (by kernel_rfl) (cx.ou 172) rfl (Bo L) (At.of_ownN (cx.ri 5 rfl)) hnn (fun k hk=>match k,hk with|0,_=>rfl|1,_=>rfl|2,_=>rfl|3,_=>rfl|4,_=>rfl|5,_=>rfl|6,_=>rfl|7,_=>rfl|k+8,hk=>absurd hk (by omega))) ?_
 refine bM (fun X_=>X_.fp) (.tuple #[]) (fun zU=>eRq rb (rs1++[(rcI (imR L nn))]) told p (rr1++[rcI (imR L nn)]) zU) 0 hx178_ (by
   refine svA fun o b W X cx=>?_
   refine am.call (au (args:=#[vp rb,.agg #[vi 8,vi 0,vi nn,sn,sn,sn,sn,.string ((aH (ak L nn)))]]) rfl cx.sees rfl (by kernel_rfl) (aM (cx.ou 169) (cx.ou 173))) ?_
   refine(oS rb rs1 told p (rr1++[rcI (imR L nn)]) (rcI (imR L nn)) _ _ (CtxV.holdF cx (cx.init 0 _ rfl) rfl) (CtxV.ltF cx (cx.init 0 _ rfl) rfl) htm_ hir hl1_ hz1_).mono ?_
   rintro e W1 ⟨rfl,fp4,aT⟩
   refine⟨_,rfl,aK (E:=eRq rb rs1 told p (rr1++[rcI (imR L nn)]) fp178_) [eRq rb (rs1++[(rcI (imR L nn))]) told p (rr1++[rcI (imR L nn)]) fp4] (cx.init 0 _ rfl) rfl rfl aT (fun d s X' hs hb hv hN=>?_)⟩
   have aJ:=(hv 174 rfl).1;have aV:=(hv 174 rfl).2
   exact⟨aJ.trans rfl,oJ ((List.cons.inj hN).1)⟩) fun zU Tk Ni=>?_
 refine av (aa (sqr (sqp [.m 167 16,sI 168 ((i:Int)+1) (by omega),.m 16 168] ?_)))
 refine aa ?_
 refine⟨g-((i+1)),by omega,?_⟩
 exact⟨(i+1),(rs1++[(rcI (imR L nn))]),(rr1++[rcI (imR L nn)]),zU,by omega,(by rw[List.map_append,hr1,hit,List.append_assoc];rfl),⟨fun x hx=>(List.mem_append.1 hx).elim (fun h=>List.mem_append_left _ (fK.1 x h)) fun h=>List.mem_append_right _ h,List.mem_append_left _ fK.2⟩,rfl,(by kernel_rfl),Ni.pk [0,1,2,3,4,5,6]⟩
 refine wp_exit (al (al (bf (aa (wq ?_)))))
 have hr9:rs1.map RcT.r=L++ek L os:=by rw[hr1,List.take_of_length_le (by rw[sX,<-hnl];omega)]
 have hie9:∀r∈ek L os,r.eds=[]:=fun r hr=>(vF r hr).1
 have hz9_:szF (rs1.map RcT.r)<=100000000:=by rw[hr9,vQ];omega
 have hl9_:rs1.length<=200000:=by have h_:=congrArg List.length hr9;rw[List.length_map,List.length_append,sX,<-hnl] at h_;omega
 have hrL9:∀x∈rs1,bC x.r=true:=fun x hx=>by have h_:=hr9 ▸ List.mem_map.2 ⟨x,hx,rfl⟩;exact(List.mem_append.1 h_).elim (hL _) fun h=>by obtain⟨_,_,n,hn,_,hne⟩:=vF _ h;rw[hne];exact qo (L:=L) (n:=n) (by have:=hpro n hn;omega)
 obtain⟨QA3,qc3,TA3,tc3,hq188_⟩:=FG.unrq
 refine sqr ?_
 refine mK 48 3 0 [] hq188_ (@fun o b W X cx=>by simp[go_sem]) fun Iu Tl Nj=>?_
 refine sqp [.m 17 175] ?_
 refine aa (wq (wq (sqr (sqp [.k 18 (vi 0)] ?_))))
 refine aa (wp_block ?_)
 refine aN (fun t_ mz az W=>∃i9:Nat,∃ws:List PgR,∃WA:Option Addr,∃wc:Nat,∃rws3:List PgR,i9<=m/\ws.map PgR.p=(os.take i9).map (ak L)/\(∀q∈ps,q∈rws3)/\mz=m-i9/\az=⟨(ovr (jv az) [(17,17,0,[.slice WA i9 wc,vi ((i9:Int))]),(157,176,18,[])] t_).toArray,[]⟩/\St w fp [eB rb 69 #[vi ((p:Int)),.slice QA3 rs1.length qc3,vi ((szF (rs1.map RcT.r):Int)),.slice TA3 p tc3],eO 27 8 (.slice QA3 rs1.length qc3) rs1.length (rs1.flatMap rcC),eO 4 1 (.slice TA3 p tc3) p (tB told p),eRc rr1,eB cR 27 #[vi t.r.kind,vi t.r.xid,vi t.r.tbl,sn,sn,.slice t.A t.r.eds.length t.c,sn,.string t.r.note],eB dG 129 #[vi 0,vi 0],eO 3 1 (.slice OA m oc) m (os.map (Value.int .i64)),eO 48 3 (.slice NA m nc) m (ps.flatMap pgQ),eO 27 8 (.slice IA g ic) g (nl.flatMap (icL L)),eO 48 3 (.slice WA i9 wc) i9 (ws.flatMap pgQ),eM (List.map dK rws3)] W) (m-0) ?_ ?_
 exact⟨0,[],(some ⟨Iu,0,none⟩),0,rws,Nat.zero_le _,rfl,hpr,rfl,(by kernel_rfl),Nj.pk [0,1,2,3,4,5,6,7,8,10,9]⟩
 rintro Tm a192 PV ⟨i9,ws,WA,wc,rws3,hi2,hws,hpr3,rfl,hj_,oD⟩
 refine ovz hj_ fun RY=>?_
 refine wq (wq (sqr (sqp [.m 176 18,.m 177 6,.k 178 (vi ((m:Int))),.k 179 (.bool (decide ((i9:Int)<(m:Int))))] ?_)))
 refine aa (wds (fun OJ Nk=>?_) fun OJ Nk=>?_)
 refine wp_skip (aa (wq (wp_block ?_)))
 obtain⟨nn,hnn⟩:∃n,os[i9]? =some n:=⟨_,List.getElem?_eq_getElem (by omega)⟩
 refine aG [0,0,2,6,14,0,0,96,224,510,1022,2047,4095] [[],[],[],[],[0],[],[],[6],[6],[1,3],[],[12,9]] [[],[],[],[],[],[],[],[],[],[11],[12],[13]] [[],[],[],[],[],[],[],[],[],[],[],[9]] [.k 182 (.slice WA i9 wc),.k 183 (vp rb),.k 184 (vp rb),.k 185 (po rb 1),.c 186 (.slice QA3 rs1.length qc3),.k 187 (.slice OA m oc),.k 188 (vi ((i9:Int))),.c 189 (.pointer (some ((ad OA).add i9))),.c 190 (vi nn),.a 191,.a 192,.a 193,.a 17] (fun ix d b X=>match ix with|0|1|2|3|4|5|6|7|8=>True|9=>d 191= .agg #[vi ((ak L nn).1),vi ((ak L nn).2.1),.slice (sA (tg (b 191) 2)) ((ak L nn).2.2.length) (sC (tg (b 191) 2))]/\X 11=eO 9 1 (.slice (sA (tg (b 191) 2)) ((ak L nn).2.2.length) (sC (tg (b 191) 2))) ((ak L nn).2.2.length) ((ak L nn).2.2.map Value.string)|10=>d 192= .slice ((some ⟨(pb' (b 192)),0,none⟩)) 1 1/\X 12=eO 48 3 (.slice ((some ⟨(pb' (b 192)),0,none⟩)) 1 1) 1 ([vi ((ak L nn).1),vi ((ak L nn).2.1),.slice (sA (tg (b 191) 2)) ((ak L nn).2.2.length) (sC (tg (b 191) 2))])|11=>d 193= .slice (sA (b 193)) (i9+1) (sC (b 193))/\X 13=eO 48 3 (.slice (sA (b 193)) (i9+1) (sC (b 193))) (i9+1) ((ws++[(⟨ak L nn,(sA (tg (b 191) 2)),(sC (tg (b 191) 2))⟩:PgR)]).flatMap pgQ)|12=>d 17= .slice (sA (b 193)) (i9+1) (sC (b 193))|_=>True) [0,1,2,3,4,5,6,7,8,10,11,12,13] [4,7,8,9,10,11,12] [(17,12,1,18),(164,0,12,176)] oD ?_ ?_ ?_
 exact fun ix _ _ _ _ _ _ hs hb hx h=>match ix,h with
 |9,h=>by dsimp only;rw[<-hs 191 rfl,<-hb 191 rfl,<-hx 11 rfl];exact h
 |10,h=>by dsimp only;rw[<-hs 192 rfl,<-hb 191 rfl,<-hb 192 rfl,<-hx 12 rfl];exact h
 |11,h=>by dsimp only;rw[<-hs 193 rfl,<-hb 191 rfl,<-hb 193 rfl,<-hx 13 rfl];exact h
 |12,h=>by dsimp only;rw[<-hs 17 rfl,<-hb 193 rfl];exact h
 |0,_|1,_|2,_|3,_|4,_|5,_|6,_|7,_|8,_|_+13,_=>trivial
 refine⟨?_,?_,?_,?_,?_,?_,?_,trivial⟩
 exact xs4 rfl id fun cx=>ae rfl (by kernel_rfl) (cx.an 3) ((cx.bi 0 rfl).cell 1)
 exact xs4 rfl id fun cx=>bS (e:=3) (m:=i9) rfl (by kernel_rfl) (by kernel_rfl) (cx.an 5) (cx.an 6) (by omega) (by omega) (At.of_own (cx.ri 6 rfl)) (by rw[List.length_map];omega)
 exact xs4 rfl id fun cx=>ae rfl (by kernel_rfl) (cx.an 7) (At.cellAd (At.of_own (cx.ri 6 rfl)) ((List.getElem?_map ..).trans (by rw[hnn];rfl)))
 refine svA fun o b W X cx=>?_
 refine am.call (au (args:=#[.slice QA3 rs1.length qc3,vi nn]) rfl cx.sees rfl (by kernel_rfl) (aM (cx.an 4) (cx.an 8))) ?_
 refine(Gj hr9 hie9 (kL _ _ rs1 nn _ ⟨At.of_ownN (cx.ri 1 rfl),fun t ht=>dI (CtxV.holdF cx (cx.init 3 _ rfl) rfl) (fK.1 t ht)⟩ (by omega) hrL9)).mono ?_
 rintro e W1 ⟨A4,c4,rfl,ho,hx⟩
 refine⟨_,rfl,bR [eO 9 1 (.slice A4 (ak L nn).2.2.length c4) (ak L nn).2.2.length ((ak L nn).2.2.map Value.string)] rfl rfl hx (one_new (cu ho)) (List.pairwise_singleton _ _) (fun d s X' hs hb hv hN=>?_)⟩
 have aJ:=(hv 191 rfl).1;have aV:=(hv 191 rfl).2
 exact⟨aJ.trans (by rw[aV];exact rfl),(by rw[aV];exact(List.cons.inj hN).1)⟩
 refine svA fun o b W X cx=>?_
 have OK:o (.tmp 191)= .agg #[vi ((ak L nn).1),vi ((ak L nn).2.1),.slice (sA (tg (b 191) 2)) ((ak L nn).2.2.length) (sC (tg (b 191) 2))]:=(dTn (cx.an 9)).1
 exact mp (e:=48) (sz:=3) (xs:=[vi ((ak L nn).1),vi ((ak L nn).2.1),.slice (sA (tg (b 191) 2)) ((ak L nn).2.2.length) (sC (tg (b 191) 2))]) rfl (by simp[go_sem,OK]) rfl (by decide) rfl rfl (fun d s X' hs hb hv hx=>⟨hv,by rw[hb 191 (by decide)];exact hx⟩)
 refine svA fun o b W X cx=>?_
 obtain⟨i0,hi0,hz0,hz1,hz2⟩:=info_parts Tryz.infoPgJ
 refine jh (n:=i9) (m:=1) (nm:=i9+1) (sz:=3) (xs:=ws.flatMap pgQ) (news:=[vi ((ak L nn).1),vi ((ak L nn).2.1),.slice (sA (tg (b 191) 2)) ((ak L nn).2.2.length) (sC (tg (b 191) 2))]) (xs':=(ws++[(⟨ak L nn,(sA (tg (b 191) 2)),(sC (tg (b 191) 2))⟩:PgR)]).flatMap pgQ) rfl (ty:=82) rfl (by kernel_rfl) hi0 hz0 hz1 hz2 rfl (by decide) (cx.an 0) cx (cx.init 9 _ rfl) rfl (dTn (cx.an 10)).1 (by rfl) (At.of_ownN (cx.row (dTn (cx.an 10)).2 rfl)) (by simp[Value.oneCell']) (by simp only[maxLen];omega) (by omega) rfl rfl rfl (by omega) ((KU ws (ak L nn) _ _)) (fun d s X' hs hb hv hx=>?_)
 rw[<-hb 191 (by decide)] at*;exact⟨hv,hx⟩
 exact sv rfl rfl rfl rfl rfl _ (fun _ _ _ h=>h) (fun b s h=>by rw[h 193 (by decide)]) fun o b W X cx=>di rfl (dTn (cx.an 11)).1
 intro d b X Tn hD zV fr aD
 simp only[exq 11 ((dTn (hD 9 lq)).2),exq 12 ((dTn (hD 10 lq)).2),exq 13 ((dTn (hD 11 lq)).2)] at zV
 simp only[ed 191 ((dTn (hD 9 lq)).1),ed 192 ((dTn (hD 10 lq)).1),ed 193 ((dTn (hD 11 lq)).1),ed 17 ((dTn (hD 12 lq)))] at aD
 generalize sA (tg (b 191) 2)=tk,sC (tg (b 191) 2)=tm,pb' (b 192)=P6,sA (b 193)=Iv,sC (b 193)=Iw at zV aD
 clear hD;subst aD;clear d b X
 refine av (aa (sqr (sqp [.m 180 18,sI 181 ((i9:Int)+1) (by omega),.m 18 181] ?_)))
 refine aa ?_
 have hg202_:=St.apf (r:=(⟨ak L nn,tk,tm⟩:PgR)) zV.u10.u10
 refine⟨m-((i9+1)),by omega,?_⟩
 exact⟨(i9+1),(ws++[(⟨ak L nn,tk,tm⟩:PgR)]),Iv,Iw,(rws3++[(⟨ak L nn,tk,tm⟩:PgR)]),by omega,(by rw[List.map_append,hws,List.take_add_one,hnn,List.map_append];rfl),(fun q hq=>List.mem_append_left _ (hpr3 q hq)),rfl,(by kernel_rfl),hg202_.pk [1,2,3,4,5,6,7,8,9,11,0]⟩
 refine wp_exit (al (al (bf (aa (wq ?_)))))
 have hi9:i9=m:=by omega
 have hws9:ws.map PgR.p=os.map (ak L):=by rw[hws,List.take_of_length_le (by omega)]
 obtain⟨fp203_,hr203_⟩:=St.rq (rs:=rs1) (told:=told) (p:=p) (rr:=rr1) (oD)
 refine sqr (sqp [.m 194 0] ?_)
 refine bI 1 8 hr203_ ?_
 refine bM (fun X_=>X_.fp) (.tuple #[]) (fun FH=>eRq rb (rs1++[t]) told p rr1 FH) 0 hr203_ (by
   refine svA fun o b W X cx=>?_
   refine am.call (au (args:=#[vp rb,.agg #[vi t.r.kind,vi t.r.xid,vi t.r.tbl,sn,sn,.slice t.A t.r.eds.length t.c,sn,.string t.r.note]]) rfl cx.sees rfl (by kernel_rfl) (aM (cx.ou 194) (cx.ou 195))) ?_
   refine(oS rb rs1 told p rr1 t _ _ (CtxV.holdF cx (cx.init 0 _ rfl) rfl) (CtxV.ltF cx (cx.init 0 _ rfl) rfl) fK.2 hda.1 hl9_ hz9_).mono ?_
   rintro e W1 ⟨rfl,fp4,aT⟩
   refine⟨_,rfl,aK (E:=eRq rb rs1 told p rr1 fp203_) [eRq rb (rs1++[t]) told p rr1 fp4] (cx.init 0 _ rfl) rfl rfl aT (fun d s X' hs hb hv hN=>?_)⟩
   have aJ:=(hv 196 rfl).1;have aV:=(hv 196 rfl).2
   exact⟨aJ.trans rfl,oJ ((List.cons.inj hN).1)⟩) fun FH To Nl=>?_
 refine aa (wq (wq (sqr (sqp [.k 19 (vi 0)] ?_))))
 refine aa (wp_block ?_)
 obtain⟨QA4,qc4,TA4,tc4,hq208_⟩:=Nl.unrq
 rw[show tB told p=tB (tlF L told t.r.eds (os.take 0)) p by rw[List.take_zero,Kt]] at hq208_
 refine aN (fun t_ mz az W=>∃i4:Nat,i4<=m/\mz=m-i4/\az=⟨(ovr (jv az) [(19,19,0,[vi ((i4:Int))]),(177,197,29,[])] t_).toArray,[]⟩/\St w fp [eB rb 69 #[vi ((p:Int)),.slice QA4 ((rs1++[t]).length) qc4,vi ((szF ((rs1++[t]).map RcT.r):Int)),.slice TA4 p tc4],eO 27 8 (.slice QA4 ((rs1++[t]).length) qc4) ((rs1++[t]).length) ((rs1++[t]).flatMap rcC),eO 4 1 (.slice TA4 p tc4) p (tB (tlF L told t.r.eds (os.take i4)) p),eRc rr1,eB cR 27 #[vi t.r.kind,vi t.r.xid,vi t.r.tbl,sn,sn,.slice t.A t.r.eds.length t.c,sn,.string t.r.note],eB dG 129 #[vi 0,vi 0],eO 3 1 (.slice OA m oc) m (os.map (Value.int .i64)),eO 48 3 (.slice NA m nc) m (ps.flatMap pgQ),eO 27 8 (.slice IA g ic) g (nl.flatMap (icL L)),eO 48 3 (.slice WA i9 wc) i9 (ws.flatMap pgQ),eM (List.map dK rws3)] W) (m-0) ?_ ?_
 exact⟨0,Nat.zero_le _,rfl,(by kernel_rfl),hq208_.pk [0,1,2,3,4,5,6,7,8,9,10]⟩
 rintro Tp a209 Tq ⟨i4,hi4,rfl,hj_,i8⟩
 refine ovz hj_ fun RZ=>?_
 refine wq (wq (sqr (sqp [.m 197 19,.m 198 6,.k 199 (vi ((m:Int))),.k 200 (.bool (decide ((i4:Int)<(m:Int))))] ?_)))
 refine aa (wds (fun OL Nm=>?_) fun OL Nm=>?_)
 ·refine wp_skip (aa (wq (wp_block (wq ?_))))
  obtain⟨n4,hnn4⟩:∃n,os[i4]? =some n:=⟨_,List.getElem?_eq_getElem (by omega)⟩
  have y7:=hpro n4 (List.mem_of_getElem? hnn4)
  obtain⟨nk,rfl⟩:∃nk:Nat,n4=(nk:Int):=⟨n4.toNat,by omega⟩
  have hnn:os[i4]? =some (nk:Int):=hnn4
  obtain⟨pw,hpw,hpw2⟩:=yP hws9 hnn
  obtain⟨pn,hpn,hpn2⟩:=yP hps9 hnn
  have hwl:ws.length=m:=by have h_:=congrArg List.length hws9;rw[List.length_map,List.length_map] at h_;omega
  refine sqr (sqp [.m 203 17,.m 204 19] ?_)
  refine sql (.pointer (some ((ad WA).add (i4*3)))) i8 (fun cx=>aB (e:=48) (m:=i4) (sz:=3) rfl (by kernel_rfl) (by kernel_rfl) (cx.ou 203) (cx.ou 204) (by omega) (by omega) (At.of_ownN (cx.ri 9 rfl)) (bj (sz:=3) iz (by decide) (by omega))) ?_
  refine sql (.pointer (some ((ad WA).add (i4*3+0)))) i8 (fun cx=>bt rfl (by kernel_rfl) (cx.ou 205)) ?_
  refine sql (vi pw.p.1) i8 (fun cx=>ae rfl (by kernel_rfl) (cx.ou 206) (At.eltc (f:=pgQ) (k:=0) iz (At.of_ownN (cx.ri 9 rfl)) hpw rfl)) ?_
  refine sqp [.k 208 (.bool (pw.p.1 != 0)),.m 209 208] ?_
  refine d3 209 [210,211,212,213,214,215] ?_ rfl (fun hq=>?_) ?_
  rotate_left
  have hq_:=hq
  try simp only[zB] at hq_
  refine sqp [.m 210 7,.m 211 19] ?_
  refine sql (.pointer (some ((ad NA).add (i4*3)))) i8 (fun cx=>aB (e:=48) (m:=i4) (sz:=3) rfl (by kernel_rfl) (by kernel_rfl) (cx.ou 210) (cx.ou 211) (by omega) (by omega) (At.of_ownN (cx.ri 7 rfl)) (bj (sz:=3) iz (by decide) (by omega))) ?_
  refine sql (.pointer (some ((ad NA).add (i4*3+0)))) i8 (fun cx=>bt rfl (by kernel_rfl) (cx.ou 212)) ?_
  refine sql (vi pn.p.1) i8 (fun cx=>ae rfl (by kernel_rfl) (cx.ou 213) (At.eltc (f:=pgQ) (k:=0) iz (At.of_ownN (cx.ri 7 rfl)) hpn rfl)) ?_
  refine sqp [.k 215 (.bool (pn.p.1==0))] ?_
  exact sqe
  refine c5 ?_
  refine sqp [sPa 216 (pw.p.1 != 0) (pn.p.1==0)] ?_
  refine aa (wbs (fun vh=>?_) fun vh=>?_)
  have vj:=vh
  simp only[zB] at vj
  obtain⟨Qj,Qk⟩:=vj
  refine aG [0,1,3,7,0,0,48,112,255,511] [[],[],[],[0],[],[],[6],[6],[2],[2]] [[],[],[],[],[],[],[],[],[],[11]] [[],[],[],[],[],[],[],[],[],[2]] [.k 217 (vp rb),.k 218 (vp rb),.k 219 (po rb 3),.c 220 (.slice TA4 p tc4),.k 221 (.slice OA m oc),.k 222 (vi ((i4:Int))),.c 223 (.pointer (some ((ad OA).add i4))),.c 224 (vi ((nk:Int))),.c 225 (.pointer (some ((ad TA4).add nk))),.n] (fun ix d b X=>match ix with|0|1|2|3|4|5|6|7|8=>True|9=>X 11=eO 4 1 (.slice TA4 p tc4) p (tB (fun x=>if x=(nk:Int) then false else (tlF L told t.r.eds (os.take i4)) x) p)|_=>True) [0,1,3,4,5,6,7,8,9,10,11] [3,6,7,8,9] [(217,0,9,226)] i8 ?_ ?_ ?_
  exact fun ix _ _ _ _ _ _ hs hb hx h=>match ix,h with
  |9,h=>by dsimp only;rw[<-hx 11 rfl];exact h
  |0,_|1,_|2,_|3,_|4,_|5,_|6,_|7,_|8,_|_+10,_=>trivial
  refine⟨?_,?_,?_,?_,?_,trivial⟩
  exact xs4 rfl id fun cx=>ae rfl (by kernel_rfl) (cx.an 2) ((cx.bi 0 rfl).cell 3)
  exact xs4 rfl id fun cx=>bS (e:=3) (m:=i4) rfl (by kernel_rfl) (by kernel_rfl) (cx.an 4) (cx.an 5) (by omega) (by omega) (At.of_own (cx.ri 6 rfl)) (by rw[List.length_map];omega)
  exact xs4 rfl id fun cx=>ae rfl (by kernel_rfl) (cx.an 6) (At.cellAd (At.of_own (cx.ri 6 rfl)) ((List.getElem?_map ..).trans (by rw[hnn];rfl)))
  exact xs4 rfl id fun cx=>bS (e:=4) (m:=nk) rfl (by kernel_rfl) (by kernel_rfl) (cx.an 3) (cx.an 7) (by omega) (by omega) (At.of_own (cx.ri 2 rfl)) ((oa _ _))
  refine svA fun o b W X cx=>?_
  exact kN (m:=nk) (n:=p) rfl (cx.an 8) (show _=Value.bool false from(cx.co _)) (by kernel_rfl) rfl rfl cx (cx.init 2 _ rfl) rfl (by omega) rfl ((EJ false)) rfl rfl (fun _ _ _ _ _=>id)
  intro d b X Tr hD zW fr aD
  simp only[exq 11 ((dTn (hD 9 lq)))] at zW
  clear hD;subst aD;clear d b X
  refine av (aa (sqr (sqp [.m 201 19,sI 202 ((i4:Int)+1) (by omega),.m 19 202] ?_)))
  refine aa ?_
  have htk:os.take (i4+1)=os.take i4++[(nk:Int)]:=by rw[List.take_add_one,hnn];rfl
  have hyn:(ak L (nk:Int)).1≠0/\(bq (ak L) t.r.eds (nk:Int)).1=0:=by have h_:=vh;rw[hpw2,hpn2] at h_;simpa using h_
  rw[JR hyn.1 hyn.2,<-htk] at zW
  refine⟨m-((i4+1)),by omega,?_⟩
  exact⟨(i4+1),by omega,rfl,(by kernel_rfl),zW.pk [0,1,10,2,3,4,5,6,7,8,9]⟩
  have vj:=vh
  simp only[zB] at vj
  refine wp_skip (av (aa (sqr (sqp [.m 201 19,sI 202 ((i4:Int)+1) (by omega),.m 19 202] ?_))))
  refine aa ?_
  have htk:os.take (i4+1)=os.take i4++[(nk:Int)]:=by rw[List.take_add_one,hnn];rfl
  rw[LO (L:=L) (told:=told) (eds:=t.r.eds) (os:=os.take i4) (n:=(nk:Int)) (by have h_:=vh;rw[hpw2,hpn2] at h_;simpa using h_),<-htk] at i8
  refine⟨m-((i4+1)),by omega,?_⟩
  exact⟨(i4+1),by omega,rfl,(by kernel_rfl),i8.pk [0,1,2,3,4,5,6,7,8,9,10]⟩
 refine wp_exit (al (al (bf (aa (wq (sqr (sqp [.m 226 0,.k 227 (vp rb),.k 228 (po rb 1)] ?_)))))))
 refine aq 0 i8 ?_
 refine sqp [.k 230 (vi (((rs1++[t]).length:Int))),.k 231 (.agg #[vi (((rs1++[t]).length:Int)),vi 0])] ?_
 refine aX (n:=2) 5 #[vi (((rs1++[t]).length:Int)),vi 0] i8 fun Ts zX=>?_
 refine aa (wp_ret ?_)
 refine bpr (.agg #[vi (((rs1++[t]).length:Int)),vi 0]) (bG (n:=2) Tryz.results77 rfl (by kernel_rfl) (by kernel_rfl) (zX.blk 5 rfl) rfl) ?_
 have hi9b:i4=m:=by omega
 have htl:(tlF L told t.r.eds (os.take i4))=rfT told L t.r:=by rw[List.take_of_length_le (by omega),hosF];rfl
 have hrD:=qk (told:=told) hE0
 have hrL9b:(rs1++[t]).map RcT.r=rfL L t.r:=by rw[List.map_append,hr9,rfL,<-hosF];rfl
 have hlen9:(rs1++[t]).length=(rfL L t.r).length:=by rw[<-hrL9b,List.length_map]
 rw[htl] at zX
 obtain⟨fp244_,hr244_⟩:=St.rq (rs:=(rs1++[t])) (told:=(rfT told L t.r)) (p:=p) (rr:=rr1) (zX.u4.c0.u4.c0.u4.c0.u4.c0.u4.c0.u4.c0.u4.c0)
 have Nn:=St.rf (L:=(rfL L t.r)) hr244_ (hrL9b) (fun x hx=>(List.mem_append.1 hx).elim (fK.1 x) fun h=>by rw[List.mem_singleton.1 h];exact fK.2)
 exact⟨by rw[hrD,hE0];show Ending.returned (.agg #[vi ((rs1++[t]).length:Int),vi 0])= _;rw[hlen9],_,by rw[hrD];exact Nn⟩
end
section
open Go.RowKit
theorem GK{s:ByteArray}{L:List RecM}(h:s=ef L):ul s (szF L):= .inl (by rw[h,cE];omega)
theorem LV{s:ByteArray}{L:List RecM}(h:s=ef L):s=ef L++⟨#[]⟩:=by rw[ld];exact h
abbrev nS:ByteArray:=⟨#[110]⟩
def kS(k:Nat):ByteArray:=⟨#[UInt8.ofNat k]⟩
def r1:RecM:=⟨1,0,0,[(1,-1,kS 1)],⟨#[]⟩⟩
theorem ym:bC r1=true:=by decide
theorem K0:cH r1.eds=[1]:=rfl
theorem Ln:r1.eds.any (d9 2)=false:=by decide
theorem NN:DoA r1:=⟨ym,by decide,by decide⟩
theorem K4:cU (ak [aI nS]) r1.eds=0:=by decide+kernel
theorem LL:rfE 2 [aI nS] r1=0:=xj NN Ln K4 (by
 have h1:=eU ym
 have h2:=eU (dA (note:=nS) (by decide))
 have h3:szF (ek [aI nS] (cH r1.eds))<=200000:=by
  rw[K0]
  show szF [⟨8,0,1,[],aH bw⟩]<= _
  have h4:bC ⟨8,0,1,[],aH bw⟩=true:=by
   have h1:=dD x3
   have a2:decide (((aH bw).size:Int)<=60000)=true:=decide_eq_true (by omega)
   show (inB 8 1 10&&(inB 0 0 127&&(inB 1 0 65535&&(decide ((([]:List EdT).length:Int)<=64)&&((([]:List EdT).all edR)&&decide (((aH bw).size:Int)<=60000))))))=true
   rw[a2];decide
  have:=eU h4
  have e0:szF []=0:=rfl
  rw[oM,e0];omega
 rw[E5];omega)
theorem O5:(rfL [aI nS] r1).length=3:=by decide+kernel
theorem LU:ak (rfL [aI nS] r1) 1=(1,3,[]):=by decide+kernel
theorem JN:bn (rfL [aI nS] r1)=1:=rfl
theorem yJ(p:Int)(k:Nat)(w:World)(hk:k<256):
  Calls Tryz.prog 42 #[.int .i64 p,.int .i64 ((k:Int))] w (Ret (.agg #[.int .i64 p,.int .i64 (-1),.string (kS k)]) w):=by
 go_enter Tryz.func42,Tryz.ntmps42
 have aj:=St.start w
 refine wq (sqr (b8 #[vi 0,vi 0,.string ByteArray.empty] aj fun kD W1 ay=>?_))
 refine aa (wq (sqr (sqp [.m 5 0,.m 6 1,sW 7 .u8 (k:Int) (k:Int) (IntWalk.u8_in _ (by omega))] ?_)))
 refine ea (fun x_=>sA x_) (fun C1=> .slice C1 1 1) (fun C1=>eO 5 1 (.slice C1 1 1) 1 ([.int .u8 ((k:Int))])) ay (by
   refine svA fun a b W X cx=>?_
   have Fu:a (.tmp 7)= .int .u8 ((k:Int)):=(cx.ou 7)
   exact dy (e:=5) (xs:=[.int .u8 ((k:Int))]) rfl (by simp[go_sem,Fu]) rfl (by decide) rfl rfl (fun _ _ _ _ _=> .intro)) fun C1 W5 aR=>?_
 refine sql (.string (strOfNums ([((k:Int))]))) aR (fun cx=>kY (e:=5) rfl (by kernel_rfl) (by kernel_rfl) (by kernel_rfl) (cx.ou 8) (cx.ri 1 rfl)) ?_
 refine sqp [.k 10 (.agg #[vi p,vi (-1),.string (strOfNums ([((k:Int))]))])] ?_
 refine aX (n:=3) 0 #[vi p,vi (-1),.string (strOfNums ([((k:Int))]))] aR fun W8 dB=>?_
 refine aa (wp_ret ?_)
 refine bpr (.agg #[vi p,vi (-1),.string (strOfNums ([((k:Int))]))]) (bG (n:=3) Tryz.results42 rfl (by kernel_rfl) (by kernel_rfl) (dB.blk 0 rfl) rfl) ?_
 exact Ret.of (rfl) dB.ext
end
section
open Go.RowKit
def eNi(sb db:Nat)(L:List RecM)(told:Int->Bool)(p c:Nat)(fp:List Nat):Ent:=eSx sb db (fun S=>Nice S L told p c) fp
theorem Kj(sb db:Nat)(L:List RecM)(told:Int->Bool)(p c:Nat)(fp:List Nat):(eNi sb db L told p c fp).loc:=vO _ _ _ _
theorem fu{L:List RecM}{told:Int->Bool}(h:e=eNi sb db L told p c fp):e=eNi sb db L told p c e.fp:=by subst h;rfl
theorem St.sxm{L1 L2:List Ent}{Φ Ψ:StM->Prop}(h:St w0 bor (L1++eSx sb db Φ fp::L2) W)(hi:∀S,Φ S->Ψ S):St w0 bor (L1++eSx sb db Ψ fp::L2) W:=St.repl h rfl (fun⟨S,a,b⟩=>⟨S,hi S a,b⟩) (vO _ _ _ _)
theorem St.sxe{L1 L2:List Ent}{Φ:StM->Prop}(h:St w0 bor (L1++eSx sb db Φ fp::L2) W):∃S,Φ S:=let ⟨S,a,_⟩:=(h.ok (eSx sb db Φ fp) (by simp)).holds;⟨S,a⟩
section
variable{sb db:Nat}{L:List RecM}{told:Int->Bool}{p c:Nat}{fp:List Nat}{w:World}
theorem A5(r:RecM)(A:Option Addr)(rc:Nat)(hB:(eNi sb db L told p c fp).holds w)(hlt:∀k∈fp,k<w.heap.size)(hc:c<=800000)(hA:∀W,Upd fp w W->At W A (r.eds.flatMap edC))(hI:r.eds.length<=100000)(hz:∀e∈r.eds,e.2.2.size<=9223372036854775807)(hns:r.note.size<=9223372036854775807):
  Calls Tryz.prog 17 #[po sb 0,.agg #[.int .i64 r.kind,.int .i64 r.xid,.int .i64 r.tbl,sn,sn,.slice A r.eds.length rc,sn,.string r.note]] w
   (fun e w'=>e= .returned (.tuple #[.int .i64 (rfD p L told r).2.1,.int .i64 (rfE p L r)])/\∃fp',St w fp [eNi sb db (rfD p L told r).1 (rfD p L told r).2.2.2 p (c+700) fp'] w'):=by
 obtain⟨S,hN,hS⟩:=hB
 refine(Ke sb db S r A rc c fp w hS hlt hN.ok hc hA hI hz hns).mono ?_
 rintro e w' ⟨n,er,rfl,fp',hs⟩
 obtain⟨S2,h1,h2⟩:=St.sxe (L1:=[]) (L2:=[]) hs
 obtain⟨rfl,rfl,_⟩:=hN.do h1 h2
 exact⟨rfl,fp',St.sxm (L1:=[]) (L2:=[]) hs fun S2 h=>(hN.do h.1 h.2).2.2⟩
noncomputable def pgC(L:List RecM)(p:Nat)(n:Int):PgS:=if 0<=n/\n<(p:Int) then ak L n else bw
theorem DM(n:Int)(hB:(eNi sb db L told p c fp).holds w)(hlt:∀k∈fp,k<w.heap.size)(hc:c<=800000)(hn:kcI.ok n):
  Calls Tryz.prog 21 #[po sb 0,.int .i64 n] w
   (fun e w'=>∃A cc,e= .returned (.tuple #[.agg #[.int .i64 (pgC L p n).1,.int .i64 (pgC L p n).2.1,.slice A (pgC L p n).2.2.length cc],.bool (decide (0<=n/\n<(p:Int)))])/\∃fp',St w fp [eNi sb db L told p (c+3) fp',eO 9 1 (.slice A (pgC L p n).2.2.length cc) (pgC L p n).2.2.length ((pgC L p n).2.2.map Value.string)] w'):=by
 obtain⟨S,hN,hS⟩:=hB
 refine(qi sb db S n c fp w hS hlt hN.ok (by omega) hn).mono ?_
 rintro e w' ⟨ok,A,cc,rfl,fp',hs⟩
 obtain⟨S2,h1⟩:=St.sxe (L1:=[]) hs
 obtain⟨e1,e2,_⟩:=hN.page h1
 have pN:=St.sxm (L1:=[]) (Ψ:=fun S=>Nice S L told p (c+3)) hs fun S2 h=>(hN.page h).2.2
 subst e1
 rw[show pgF S n _=pgC L p n from e2] at pN |-
 exact⟨A,cc,rfl,fp',pN⟩
theorem oQ(hB:(eNi sb db L told p c fp).holds w)(hlt:∀k∈fp,k<w.heap.size)(hc:c<=800000):
  Calls Tryz.prog 22 #[po sb 0] w
   (fun e w'=>e= .returned (.int .i64 (frF p L told))/\∃fp',St w fp [eNi sb db L (frT p L told) p (c+3*p+1) fp'] w'):=by
 obtain⟨S,hN,hS⟩:=hB
 refine(Cp sb db S c fp w hS hlt hN.ok (by omega)).mono ?_
 rintro e w' ⟨r,rfl,fp',hs⟩
 obtain⟨S2,h1⟩:=St.sxe (L1:=[]) (L2:=[]) hs
 obtain⟨rfl,_⟩:=hN.fresh h1
 exact⟨rfl,fp',St.sxm (L1:=[]) (L2:=[]) hs fun S2 h=>(hN.fresh h).2⟩
theorem BG(hB:(eNi sb db L told p c fp).holds w)(hlt:∀k∈fp,k<w.heap.size):
  Calls Tryz.prog 27 #[po sb 0] w
   (fun e w'=>e= .returned (.int .i64 0)/\∃fp',St w fp [eNi sb db L told p c fp'] w'):=by
 obtain⟨S,hN,hS⟩:=hB
 refine(BM sb db S fp w hS hlt (Nat.le_trans hN.ok.lsz (by decide))).mono ?_
 rintro e w' ⟨rfl,fp',hs⟩
 obtain⟨a,b⟩:=hN.flush
 refine⟨by rw[a],fp',St.sx (L:=[]) hs b⟩
theorem ui(n:Int)(hB:(eNi sb db L told p c fp).holds w)(hlt:∀k∈fp,k<w.heap.size)(hc:c<=800000)(hn:kcI.ok n):
  Calls Tryz.prog 79 #[po sb 0,.int .i64 n] w
   (fun e w'=>e= .returned (.int .i64 (if 0<=n/\n<(p:Int) then 0 else 22))/\∃fp',St w fp [eNi sb db L told p (c+4) fp'] w'):=by
 obtain⟨S,hN,hS⟩:=hB
 refine(AB sb db S n c fp w hS hlt hN.ok (by omega) hn).mono ?_
 rintro e w' ⟨er,rfl,fp',hs⟩
 obtain⟨S2,h1⟩:=St.sxe (L1:=[]) (L2:=[]) hs
 obtain⟨rfl,_⟩:=hN.write h1
 exact⟨rfl,fp',St.sxm (L1:=[]) (L2:=[]) hs fun S2 h=>(hN.write h).2⟩
theorem B0(note:ByteArray)(hB:(eNi sb db L told p c fp).holds w)(hlt:∀k∈fp,k<w.heap.size)(hc:c<=800000)(hn:note.size<=9000000):
  Calls Tryz.prog 28 #[po sb 0,.string note] w
   (fun e w'=>e= .returned (.int .i64 (ga L note))/\∃fp',St w fp [eNi sb db (ckL L note) told p (c+500) fp'] w'):=by
 obtain⟨S,hN,hS⟩:=hB
 refine(BJ sb db S note c fp w hS hlt hN.ok hc hn).mono ?_
 rintro e w' ⟨er,rfl,fp',hs⟩
 obtain⟨S2,h1,h2⟩:=St.sxe (L1:=[]) (L2:=[]) hs
 obtain⟨rfl,_⟩:=hN.check h1 h2
 exact⟨rfl,fp',St.sxm (L1:=[]) (L2:=[]) hs fun S2 h=>(hN.check h.1 h.2).2⟩
end
end
section
open Go.RowKit
section
variable{sb db:Nat}{L:List RecM}{told:Int->Bool}{p c:Nat}{fp:List Nat}{w:World}
theorem xG(hB:(eNi sb db L told p c fp).holds w):∃S,Nice S L told p c/\lz w sb db S:=let ⟨S,a,b⟩:=hB;⟨S,a,pR b⟩
theorem Nice.len(h:Nice S L told p c):S.recs.length=L.length:=by rw[<-h.eL];exact(List.length_map ..).symm
theorem Dy(hB:(eNi sb db L told p c fp).holds w):Calls Tryz.prog 45 #[po sb 0] w (Ret (.int .i64 (bn L:Int)) w):=by
 obtain⟨S,h,hs⟩:=xG hB
 have e:=h.wi.frm
 rw[h.eL] at e
 rw[<-e];exact Eb sb db S w hs
def xh(L:List RecM):ByteArray:=(L[bn L-1]?.map RecM.note).getD ⟨#[]⟩
theorem ET(hB:(eNi sb db L told p c fp).holds w)(h0:0<bn L):Calls Tryz.prog 25 #[po sb 0] w (Ret (.string (xh L)) w):=by
 obtain⟨S,h,hs⟩:=xG hB
 have hl:=h.len
 have hb:=h.ok.recs_len
 have hf:=oY L
 have e:=h.wi.frm
 rw[h.eL] at e
 obtain⟨rt,hrt⟩:∃rt,S.recs[bn L-1]? =some rt:=⟨_,List.getElem?_eq_getElem (by omega)⟩
 have e2:xh L=rt.r.note:=by
  have:L[bn L-1]? =some rt.r:=by rw[<-h.eL];exact(List.getElem?_map ..).trans (by rw[h.eL,hrt];rfl)
  rw[xh,this];rfl
 rw[e2]
 exact Ei sb db S (bn L-1) rt w hs (by rw[e];omega) hrt (by omega)
theorem rR(n:Nat)(note:ByteArray)(hB:(eDk db (kw n) fp).holds w)(hlt:∀k∈fp,k<w.heap.size)(hn:note.size<=60000):
  Calls Tryz.prog 20 #[po db 0,.string note] w (fun e w'=>e= .returned (.int .i64 0)/\∃fp',St w fp [eDk db (bgD n note) fp'] w'):=by
 refine(Al db (kw n) note fp w hB hlt (Nat.zero_le _) (by omega)).mono ?_
 rintro e w' ⟨rfl,fp',hs⟩
 rw[JS n hn] at hs |-
 exact⟨rfl,fp',hs⟩
theorem wb(n:Nat)(note:ByteArray)(bufs:Int)(hB:(eDk db (bgD n note) fp).holds w)(hlt:∀k∈fp,k<w.heap.size)(hn:note.size<=60000)(hp:n<=400)(hb:1<=bufs/\bufs<=64):
  Calls Tryz.prog 18 #[po db 0,.int .i64 bufs] w (fun e w'=>∃sb,e= .returned (.tuple #[po sb 0,.int .i64 0])/\∃fp',St w fp [eNi sb db [aI note] (fun _=>false) n 0 fp'] w'):=by
 have hf:=eU (dA hn)
 have hl:(bgD n note).log=ef [aI note]:=(AZ note).symm
 have hz:(bgD n note).log.size=(aC (aI note)).size:=rfl
 have hL:∀r∈[aI note],bC r=true:=fun r hr=>by rw[List.mem_singleton.1 hr];exact dA hn
 refine(Ey db (bgD n note) bufs [aI note] ⟨#[]⟩ 0 fp w hB hlt (LV hl) hL (GK hl) (by omega) (Nat.le_refl _) (by show (List.replicate n _).length<= _;rw[List.length_replicate];exact hp) (fun x hx=>by rw[List.eq_of_mem_replicate hx];exact Nat.le_refl _) (by show 0+200*1<=900000;decide) (fun r hr h8=>by rw[List.mem_singleton.1 hr] at h8;cases h8)).mono ?_
 rintro e w' ⟨v,er,rfl,fp',hs⟩
 obtain⟨sb,S,rfl,rfl,hN,pN⟩:=St.opnN (L:=[]) hs hp hn hb
 exact⟨sb,rfl,fp',St.sx (L:=[]) pN hN.nice⟩
end
theorem Pe:rfD 2 [aI nS] (fun _=>false) r1=(rfL [aI nS] r1,3,0,rfT (fun _=>false) [aI nS] r1):=by rw[qk LL,O5];rfl
def t1:Int->Bool:=rfT (fun _=>false) [aI nS] r1
def L1:List RecM:=rfL [aI nS] r1
theorem NS:frF 2 L1 t1=0:=by decide+kernel
theorem NH:frF 2 L1 (frT 2 L1 t1)= -1:=by decide+kernel
theorem Km:xh L1=nS:=by decide+kernel
theorem NP:pgC L1 2 1=(1,3,[]):=by rw[pgC,if_pos (by decide)];exact LU
section
variable{sb db c:Nat}{fp:List Nat}{w:World}
theorem Ll(A:Option Addr)(rc:Nat)(hB:(eNi sb db [aI nS] (fun _=>false) 2 0 fp).holds w)(hlt:∀k∈fp,k<w.heap.size)(hA:∀W,Upd fp w W->At W A (r1.eds.flatMap edC)):
  Calls Tryz.prog 17 #[po sb 0,.agg #[.int .i64 1,.int .i64 0,.int .i64 0,sn,sn,.slice A 1 rc,sn,.string ⟨#[]⟩]] w
   (fun e w'=>e= .returned (.tuple #[.int .i64 3,.int .i64 0])/\∃fp',St w fp [eNi sb db L1 t1 2 700 fp'] w'):=by
 have h:=A5 r1 A rc hB hlt (by decide) hA (by decide) (by decide) (by decide)
 rw[Pe,LL] at h
 exact h
theorem Hu(hB:(eNi sb db L1 t1 2 c fp).holds w)(hlt:∀k∈fp,k<w.heap.size)(hc:c<=800000):
  Calls Tryz.prog 21 #[po sb 0,.int .i64 1] w
   (fun e w'=>∃A cc,e= .returned (.tuple #[.agg #[.int .i64 1,.int .i64 3,.slice A 0 cc],.bool true])/\∃fp',St w fp [eNi sb db L1 t1 2 (c+3) fp',eO 9 1 (.slice A 0 cc) 0 []] w'):=by
 have h:=DM 1 hB hlt hc (by constructor<;>decide)
 rw[NP] at h
 exact h
theorem Ek(hB:(eNi sb db L1 t1 2 c fp).holds w)(hlt:∀k∈fp,k<w.heap.size)(hc:c<=800000):
  Calls Tryz.prog 22 #[po sb 0] w (fun e w'=>e= .returned (.int .i64 0)/\∃fp',St w fp [eNi sb db L1 (frT 2 L1 t1) 2 (c+7) fp'] w'):=by
 have h:=oQ hB hlt hc
 rw[NS] at h
 exact h
theorem Dq(hB:(eNi sb db L1 (frT 2 L1 t1) 2 c fp).holds w)(hlt:∀k∈fp,k<w.heap.size)(hc:c<=800000):
  Calls Tryz.prog 22 #[po sb 0] w (fun e w'=>e= .returned (.int .i64 (-1))/\∃fp',St w fp [eNi sb db L1 (frT 2 L1 (frT 2 L1 t1)) 2 (c+7) fp'] w'):=by
 have h:=oQ hB hlt hc
 rw[NH] at h
 exact h
theorem G5{told:Int->Bool}(hB:(eNi sb db L1 told 2 c fp).holds w):Calls Tryz.prog 25 #[po sb 0] w (Ret (.string ⟨#[110]⟩) w):=by
 have h:=ET hB (by decide+kernel)
 rw[Km] at h
 exact h
theorem F6{told:Int->Bool}(hB:(eNi sb db L1 told 2 c fp).holds w):Calls Tryz.prog 45 #[po sb 0] w (Ret (.int .i64 1) w):=by
 have h:=Dy hB
 rw[show bn L1=1 from JN] at h
 exact h
end
end
section
open Go.RowKit
theorem BB(w:World):
  Calls Tryz.prog 13 #[] w (Ret (.bool true) w):=by
 go_enter Tryz.func13,Tryz.ntmps13
 have aj:=St.start w
 refine wq (sqr (sqp [.k 0 (.bool false)] ?_))
 refine aa (wq (sqr ?_))
 refine BY (fun fG=>vp fG) (fun fG Ix=>eDk fG (kw 2) Ix) aj (fun cx=>⟨_,(yR 2 _ (by decide)).mono (by rintro e W1 ⟨b4,rfl,fp4,aT⟩;exact⟨_,_,rfl,aT⟩),(ax (cx.co _))⟩) fun fG Ix W2 bu=>?_
 refine sqp [.m 1 9] ?_
 refine aa (wq (sqr (sqp [.m 10 1] ?_)))
 refine bM (fun X_=>X_.fp) (vi 0) (fun Iy=>eDk fG (bgD 2 (⟨#[110]⟩:ByteArray)) Iy) 0 bu (by
   refine svA fun g b W X cx=>?_
   refine am.call (au (args:=#[vp fG,.string ⟨#[110]⟩]) rfl cx.sees rfl (by kernel_rfl) (aM (cx.ou 10) (cx.co _))) ?_
   refine(rR 2 (⟨#[110]⟩:ByteArray) (CtxV.holdF cx (cx.init 0 _ rfl) rfl) (CtxV.ltF cx (cx.init 0 _ rfl) rfl) (by decide)).mono ?_
   rintro e W1 ⟨rfl,fp4,aT⟩
   refine⟨_,rfl,aK (E:=eDk fG (kw 2) Ix) [eDk fG (bgD 2 (⟨#[110]⟩:ByteArray)) fp4] (cx.init 0 _ rfl) rfl rfl aT (fun d i X' hs hb hv hN=>?_)⟩
   have aJ:=(hv 11 rfl).1;have aV:=(hv 11 rfl).2
   exact⟨aJ.trans rfl,cJ ((List.cons.inj hN).1)⟩) fun Iy W5 aR=>?_
 refine sqp [.m 2 11] ?_
 refine aa (wq (sqr (sqp [.m 13 1] ?_)))
 refine oU (fun x_=>pb (tg x_ 0)) (fun X_=>X_.fp) (fun eu=> .tuple #[vp eu,vi 0]) (fun eu Iz=>eNi eu fG ([aI (⟨#[110]⟩:ByteArray)]) (fun _=>false) 2 0 Iz) 0 aR (by
   refine svA fun g b W X cx=>?_
   refine am.call (au (args:=#[vp fG,vi 1]) rfl cx.sees rfl (by kernel_rfl) (aM (cx.ou 13) (cx.co _))) ?_
   refine(wb 2 (⟨#[110]⟩:ByteArray) 1 (CtxV.holdF cx (cx.init 0 _ rfl) rfl) (CtxV.ltF cx (cx.init 0 _ rfl) rfl) (by decide) (by decide) (by decide)).mono ?_
   rintro e W1 ⟨sb4,rfl,fp4,aT⟩
   refine⟨_,rfl,aK (E:=eDk fG (bgD 2 (⟨#[110]⟩:ByteArray)) Iy) [eNi sb4 fG [aI (⟨#[110]⟩:ByteArray)] (fun _=>false) 2 0 fp4] (cx.init 0 _ rfl) rfl rfl aT (fun d i X' hs hb hv hN=>?_)⟩
   have aJ:=(hv 14 rfl).1;have aV:=(hv 14 rfl).2
   exact⟨aJ.trans (by rw[aV];exact rfl),(by rw[aV];exact fu ((List.cons.inj hN).1))⟩) fun eu Iz W8 dB=>?_
 refine sqp [.m 12 14,.k 15 (vp eu),.k 16 (vi 0),.m 3 15,.m 4 16] ?_
 refine aa (wq (wq (sqr (sqp [.m 17 2,.k 18 (.bool false),.k 19 (.bool false)] ?_))))
 refine c7 19 [20,21] rfl rfl ?_
 refine sqp [.m 20 4,.k 21 (.bool false)] ?_
 refine sqp [.k 22 (.bool false),.k 23 (.bool false)] ?_
 refine c7 23 [24,25] rfl rfl ?_
 refine sqp [.m 24 3] ?_
 refine sqv (.bool false) dB (by
   exact sv0 rfl rfl rfl rfl rfl (fun _ _ _ h=>h) fun g b W X cx=>by
    have P7:g (.tmp 24)=vp eu:=(cx.ou 24)
    simp[go_sem,cx.sees.const,P7]) fun wZ dF=>?_
 refine sqp [.k 26 (.bool false)] ?_
 refine aa (wcf rfl (wp_skip (aa (wq (sqr (sqp [.m 28 3] ?_))))))
 refine sqk (.agg #[vi 1,vi ((-1)),.string ((kS 1))]) dF (fun cx=>⟨_,yJ 1 1 _ (by decide),(aM (cx.co _) (cx.co _))⟩) fun wV dP=>?_
 refine mK 84 3 1 [vi 1,vi ((-1)),.string ((kS 1))] dP (@fun g b W X cx=>by have P8:g (.tmp 29)= .agg #[vi 1,vi ((-1)),.string ((kS 1))]:=(cx.ou 29);simp[go_sem,P8]) fun FI w3 fF=>?_
 refine sqp [.k 31 (.agg #[vi 1,vi 0,vi 0,sn,sn,.slice ((some ⟨FI,0,none⟩)) 1 1,sn,.string ByteArray.empty])] ?_
 refine bM (fun X_=>X_.fp) (.tuple #[vi 3,vi 0]) (fun C3=>eNi eu fG L1 t1 2 700 C3) 0 fF (by
   refine svA fun g b W X cx=>?_
   refine am.call (au (args:=#[vp eu,.agg #[vi 1,vi 0,vi 0,sn,sn,.slice ((some ⟨FI,0,none⟩)) 1 1,sn,.string ByteArray.empty]]) rfl cx.sees rfl (by kernel_rfl) (aM (cx.ou 28) (cx.ou 31))) ?_
   refine(Ll _ _ (CtxV.holdF cx (cx.init 0 _ rfl) rfl) (CtxV.ltF cx (cx.init 0 _ rfl) rfl) (CtxV.keepAt cx (cx.init 1 _ rfl) (cx.init 0 _ rfl) rfl rfl (by decide))).mono ?_
   rintro e W1 ⟨rfl,fp4,aT⟩
   refine⟨_,rfl,aK (E:=eNi eu fG ([aI (⟨#[110]⟩:ByteArray)]) (fun _=>false) 2 0 Iz) [eNi eu fG L1 t1 2 700 fp4] (cx.init 0 _ rfl) rfl rfl aT (fun d i X' hs hb hv hN=>?_)⟩
   have aJ:=(hv 32 rfl).1;have aV:=(hv 32 rfl).2
   exact⟨aJ.trans rfl,fu ((List.cons.inj hN).1)⟩) fun C3 zh dS=>?_
 refine sqp [.m 27 32,.k 33 (vi 3),.k 34 (vi 0),.m 5 33,.m 6 34] ?_
 refine aa (wq (aG [0,1,3,7,7,0,47,127] [[],[0],[],[],[],[],[4]] [[],[2,3],[],[],[],[4],[5]] [[],[0],[],[],[],[],[4]] [.k 36 (vp eu),.a 37,.a 35,.a 38,.c 39 (.bool true),.a 7,.n,.k 8 (.bool true)] (fun ix d b X=>match ix with|0=>True|1=>d 37= .tuple #[.agg #[vi 1,vi 3,.slice (sA (tg (tg (b 37) 0) 2)) 0 (sC (tg (tg (b 37) 0) 2))],.bool true]/\X 2=eNi eu fG L1 t1 2 (700+3) ((X 2).fp)/\X 3=eO 9 1 (.slice (sA (tg (tg (b 37) 0) 2)) 0 (sC (tg (tg (b 37) 0) 2))) 0 ([])|2=>d 35= .tuple #[.agg #[vi 1,vi 3,.slice (sA (tg (tg (b 37) 0) 2)) 0 (sC (tg (tg (b 37) 0) 2))],.bool true]|3=>d 38= .agg #[vi 1,vi 3,.slice (sA (tg (tg (b 37) 0) 2)) 0 (sC (tg (tg (b 37) 0) 2))]|4=>True|5=>d 7=vp (pb (b 7))/\X 4=eB (pb (b 7)) 48 #[vi 0,vi 0,sn]|6=>X 5=eB (pb (b 7)) 48 #[vi 1,vi 3,.slice (sA (tg (tg (b 37) 0) 2)) 0 (sC (tg (tg (b 37) 0) 2))]|_=>True) [1,2,3,5] [1,2,3,4,5,6] [(7,5,3,9),(26,2,1,27),(0,0,2,2),(0,3,2,2)] dS ?_ ?_ ?_))
 exact fun ix _ _ _ _ _ _ hs hb hx h=>match ix,h with
 |1,h=>by dsimp only;rw[<-hs 37 rfl,<-hb 37 rfl,<-hx 2 rfl,<-hx 3 rfl];exact h
 |2,h=>by dsimp only;rw[<-hs 35 rfl,<-hb 37 rfl];exact h
 |3,h=>by dsimp only;rw[<-hs 38 rfl,<-hb 37 rfl];exact h
 |5,h=>by dsimp only;rw[<-hs 7 rfl,<-hb 7 rfl,<-hx 4 rfl];exact h
 |6,h=>by dsimp only;rw[<-hb 7 rfl,<-hb 37 rfl,<-hx 5 rfl];exact h
 |0,_|4,_|_+7,_=>trivial
 refine⟨?_,?_,?_,?_,?_,?_,trivial⟩
 refine svA fun g b W X cx=>?_
 refine am.call (au (args:=#[vp eu,vi 1]) rfl cx.sees rfl (by kernel_rfl) (aM (cx.an 0) (cx.co _))) ?_
 refine(Hu (CtxV.holdF cx (cx.init 0 _ rfl) rfl) (CtxV.ltF cx (cx.init 0 _ rfl) rfl) (by decide)).mono ?_
 rintro e W1 ⟨A4,c4,rfl,fp4,aT⟩
 refine⟨_,rfl,aK (E:=eNi eu fG L1 t1 2 700 C3) [eNi eu fG L1 t1 2 (700+3) fp4,eO 9 1 (.slice A4 0 c4) 0 []] (cx.init 0 _ rfl) rfl rfl aT (fun d i X' hs hb hv hN=>?_)⟩
 have aJ:=(hv 37 rfl).1;have aV:=(hv 37 rfl).2
 exact⟨aJ.trans (by rw[aV];exact rfl),fu ((List.cons.inj hN).1),(by rw[aV];exact(List.cons.inj (List.cons.inj hN).2).1)⟩
 exact sv rfl rfl rfl rfl rfl _ (fun _ _ _ h=>h) (fun b i h=>by rw[h 37 (by decide)]) fun g b W X cx=>dj rfl (dTn (cx.an 1)).1
 exact sv rfl rfl rfl rfl rfl _ (fun _ _ _ h=>h) (fun b i h=>by rw[h 37 (by decide)]) fun g b W X cx=>cd rfl (dTn (cx.an 2)) rfl
 exact xs4 rfl id fun cx=>cd rfl (dTn (cx.an 2)) rfl
 refine svA fun g b W X cx=>?_
 exact dm (cs:=#[vi 0,vi 0,sn]) rfl (by kernel_rfl) rfl rfl (fun _ _ _ _ _=> .intro)
 refine svA fun g b W X cx=>?_
 exact bx (n:=3) rfl (dTn (cx.an 5)).1 (dTn (cx.an 3)) (by kernel_rfl) (by kernel_rfl) (by kernel_rfl) cx (dTn (cx.an 5)).2 rfl (nle rfl) (by kernel_rfl) rfl rfl rfl (fun d i X' hs hb hx=>by rw[hb 7,hb 37];exact hx)
 intro d b X wW hD eo fr aD
 obtain⟨Rw,q6⟩:∃z,sA (tg (tg (b 37) 0) 2)=z:=⟨_,rfl⟩
 obtain⟨Rx,q8⟩:∃z,sC (tg (tg (b 37) 0) 2)=z:=⟨_,rfl⟩
 obtain⟨jn,tp⟩:∃z,pb (b 7)=z:=⟨_,rfl⟩
 have No:X 2= _:=(dTn (hD 1 lq)).2.1
 obtain⟨OM,zY⟩:∃z,(X 2).fp=z:=⟨_,rfl⟩
 rw[zY] at No
 clear zY
 simp only[No,exq 3 ((dTn (hD 1 lq)).2.2),exq 5 ((dTn (hD 6 lq))),q6,q8,tp] at eo
 simp only[ed 37 ((dTn (hD 1 lq)).1),ed 35 ((dTn (hD 2 lq))),ed 38 ((dTn (hD 3 lq))),ed 7 ((dTn (hD 5 lq)).1),q6,q8,tp] at aD
 clear hD No q6 q8 tp;subst aD;clear d b X
 refine aa (wq (sqr (sqp [.m 40 5,.k 41 (.bool true),.k 42 (.bool true)] ?_)))
 refine c7 42 [43,44] rfl rfl ?_
 refine sqp [.m 43 6,.k 44 (.bool true)] ?_
 refine sqp [.k 45 (.bool true),.k 46 (.bool true)] ?_
 refine c7 46 [47] rfl rfl ?_
 refine sqp [.k 47 (.bool true)] ?_
 refine sqp [.k 48 (.bool true),.k 49 (.bool true)] ?_
 refine c7 49 [50,51,52] rfl rfl ?_
 refine sqp [.k 50 (vp jn)] ?_
 refine aq 3 eo ?_
 refine sqp [.k 52 (.bool true)] ?_
 refine sqp [.k 53 (.bool true),.k 54 (.bool true)] ?_
 refine c7 54 [55,56,57] rfl rfl ?_
 refine sqp [.k 55 (po jn 1)] ?_
 refine aq 3 eo ?_
 refine sqp [.k 57 (.bool true)] ?_
 refine sqp [.k 58 (.bool true),.k 59 (.bool true)] ?_
 refine c7 59 [60,61,62] rfl rfl ?_
 refine sqp [.m 60 3] ?_
 refine bM (fun X_=>X_.fp) (vi 0) (fun C4=>eNi eu fG L1 (frT 2 L1 t1) 2 ((700+3)+7) C4) 1 eo (by
   refine svA fun g b W X cx=>?_
   refine am.call (au (args:=#[vp eu]) rfl cx.sees rfl (by kernel_rfl) (ax (cx.ou 60))) ?_
   refine(Ek (CtxV.holdF cx (cx.init 1 _ rfl) rfl) (CtxV.ltF cx (cx.init 1 _ rfl) rfl) (by decide)).mono ?_
   rintro e W1 ⟨rfl,fp4,aT⟩
   refine⟨_,rfl,aK (E:=eNi eu fG L1 t1 2 (700+3) OM) [eNi eu fG L1 (frT 2 L1 t1) 2 ((700+3)+7) fp4] (cx.init 1 _ rfl) rfl rfl aT (fun d i X' hs hb hv hN=>?_)⟩
   have aJ:=(hv 61 rfl).1;have aV:=(hv 61 rfl).2
   exact⟨aJ.trans rfl,fu ((List.cons.inj hN).1)⟩) fun C4 Mm l6=>?_
 refine sqp [.k 62 (.bool true)] ?_
 refine sqp [.k 63 (.bool true),.k 64 (.bool true)] ?_
 refine c7 64 [65,66,67] rfl rfl ?_
 refine sqp [.m 65 3] ?_
 refine bM (fun X_=>X_.fp) (vi ((-1))) (fun Ja=>eNi eu fG L1 (frT 2 L1 (frT 2 L1 t1)) 2 (((700+3)+7)+7) Ja) 1 l6 (by
   refine svA fun g b W X cx=>?_
   refine am.call (au (args:=#[vp eu]) rfl cx.sees rfl (by kernel_rfl) (ax (cx.ou 65))) ?_
   refine(Dq (CtxV.holdF cx (cx.init 1 _ rfl) rfl) (CtxV.ltF cx (cx.init 1 _ rfl) rfl) (by decide)).mono ?_
   rintro e W1 ⟨rfl,fp4,aT⟩
   refine⟨_,rfl,aK (E:=eNi eu fG L1 (frT 2 L1 t1) 2 ((700+3)+7) C4) [eNi eu fG L1 (frT 2 L1 (frT 2 L1 t1)) 2 (((700+3)+7)+7) fp4] (cx.init 1 _ rfl) rfl rfl aT (fun d i X' hs hb hv hN=>?_)⟩
   have aJ:=(hv 66 rfl).1;have aV:=(hv 66 rfl).2
   exact⟨aJ.trans rfl,fu ((List.cons.inj hN).1)⟩) fun Ja zf eP=>?_
 refine sqp [.k 67 (.bool ((-1)==(-1)))] ?_
 refine sqp [.k 68 (.bool ((-1)==(-1))),.m 69 68] ?_
 refine pX 69 [70,71,72] ?_ eP rfl (fun hq=>?_) fun Fj gF=>?_
 rotate_left
 refine sqp [.m 70 3] ?_
 refine sqk (.string ((⟨#[110]⟩:ByteArray))) eP (fun cx=>⟨_,G5 (CtxV.holdF cx (cx.init 1 _ rfl) rfl),(ax (cx.ou 70))⟩) fun Md kP=>?_
 refine sqp [.k 72 (.bool (((⟨#[110]⟩:ByteArray)).toList==((⟨#[110]⟩:ByteArray)).toList))] ?_
 exact sqE kP
 refine c5 ?_
 refine sqp [sPa 73 ((-1)==(-1)) (((⟨#[110]⟩:ByteArray)).toList==((⟨#[110]⟩:ByteArray)).toList),.m 74 73] ?_
 refine pX 74 [75,76,77] ?_ gF rfl (fun hq=>?_) fun IV g0=>?_
 rotate_left
 refine sqp [.m 75 3] ?_
 refine sqk (vi 1) gF (fun cx=>⟨_,F6 (CtxV.holdF cx (cx.init 1 _ rfl) rfl),(ax (cx.ou 75))⟩) fun QP xp=>?_
 refine sqp [.k 77 (.bool true)] ?_
 exact sqE xp
 refine c5 ?_
 refine sqp [sPa 78 (((-1)==(-1))&&(((⟨#[110]⟩:ByteArray)).toList==((⟨#[110]⟩:ByteArray)).toList)) true,.m 0 78] ?_
 refine aa (wp_ret ?_)
 refine bpr (.bool ((((-1)==(-1))&&(((⟨#[110]⟩:ByteArray)).toList==((⟨#[110]⟩:ByteArray)).toList))&&true)) (ag Tryz.results13 rpt) ?_
 exact Ret.of (by first|rfl|simp) g0.ext
end
section
open Go.RowKit
def bgS:ByteArray:=⟨#[98,101,103,117,110]⟩
end
section
open Go.RowKit
section
variable{sb db:Nat}{L:List RecM}{told:Int->Bool}{p c:Nat}{fp:List Nat}{w:World}{note:ByteArray}
end
theorem O8{x:Int}(h:(Lit.int .u8 x).wf=true):0<=x/\x<=255:=by
 have h1:(decide (IntKind.u8.min<=x)&&decide (x<=IntKind.u8.max))=true:=h
 rw[Bool.and_eq_true,decide_eq_true_eq,decide_eq_true_eq] at h1
 have e1:IntKind.u8.min=0:=by decide
 have e2:IntKind.u8.max=255:=by decide
 rw[e1,e2] at h1
 exact h1
section
variable{sb db:Nat}{told:Int->Bool}{p c:Nat}{fp:List Nat}{w:World}
end
end
section
open Go.RowKit
theorem CtxV.oldAt{ops:Array Oper}{L:List Nat}{a0:Act}{X0:List Ent}{us:List (List Nat)}{D:Nat->(Tmp->Value)->(Tmp->Value)->(Nat->Ent)->Prop}{i:Nat}{b:Operand->Value}{a:Tmp->Value}{X:Nat->Ent}{q:Nat}{E:Ent}{A:Option Addr}{xs:List Value}(cx:CtxV ops L a0 w0 bor X0 us D i b a W X)(hX:X q=E)(hu:(atV us i).contains q=true)(hb:bor=[])(hA:At w0 A xs):∀W',Upd E.fp W W'->At W' A xs:=fun W' hU=>by
 subst hb
 exact hA.ext (cx.upd.join hU (fun k hk=>((cx.ok q hu).own k (by rw[hX];exact hk)).1)).to_ext
end
section
open Go.RowKit
structure ActT where
 what:Int
 page:Int
 slot:Int
 item:ByteArray
 QA:Option Addr
 qn:Nat
 qc:Nat
def acC(a:ActT):List Value:=[.int .u8 a.what,.int .i64 a.page,.int .i64 a.slot,.string a.item,.slice a.QA a.qn a.qc]
theorem mn(a:ActT):(acC a).length=5:=rfl
structure ActOk (a:ActT):Prop where
 what:0<=a.what/\a.what<=255
 page: -9223372036854775808<=a.page/\a.page<=9223372036854775807
 slot: -9223372036854775808<=a.slot/\a.slot<=9223372036854775807
 item:a.item.size<=9223372036854775807
 q:(a.qn:Int)<=9223372036854775807
def pgA(a:ActT):Int:=if a.what<128 then (a.page.tmod 5+5) % 5 else a.page
def slA(a:ActT):Int:=(a.slot.tmod 26+26) % 26-1
def it0(a:ActT):ByteArray:=a.item.extract 0 (min (a.item.size:Int) 401).toNat
def itA(a:ActT):ByteArray:=if slA a<0 then strOfNums [((it0 a).size:Int) % 4] else it0 a
def eF(a:ActT):List EdT:=if a.what % 2=1 then [((a.slot.tmod 5+5) % 5,-1,kS (1+a.qn % 2)),(pgA a,slA a,itA a)] else [(pgA a,slA a,itA a)]
theorem yH(a:ActT):(it0 a).size<=401:=by rw[it0,ByteArray.size_extract];omega
theorem Gc(a:ActT):(itA a).size<=401:=by
 unfold itA
 split
 rw[strOfNums_size];exact(by decide:1<=401)
 exact yH a
theorem yh(a:ActT):(eF a).length<=2:=by unfold eF;split<;>simp
theorem wI(a:ActT):∀e∈eF a,e.2.2.size<=9223372036854775807:=fun e he=>by
 have h1:=Gc a
 unfold eF at he
 split at he
 rcases List.mem_cons.1 he with rfl|he
 exact(by decide:1<=9223372036854775807)
 rw[List.mem_singleton.1 he];show (itA a).size<= _;omega
 rw[List.mem_singleton.1 he];show (itA a).size<= _;omega
theorem La(p:Int)(q:Nat)(w:World):Calls Tryz.prog 42 #[.int .i64 p,.int .i64 (1+(q:Int) % 2)] w (Ret (.agg #[.int .i64 p,.int .i64 (-1),.string (kS (1+q % 2))]) w):=by
 have h:=yJ p (1+q % 2) w (by omega)
 rw[show ((1+q % 2:Nat):Int)=1+(q:Int) % 2 by omega] at h;exact h
def K2(a:ActT)(w:World)(e:Ending)(w':World):Prop:=∃A c,e= .returned (.slice A (eF a).length c)/\w'.ownsRow w.heap.size 84 3 (.slice A (eF a).length c) (eF a).length ((eF a).flatMap edC)/\Ext w w'
theorem Ca(a:ActT)(w:World)(ha:ActOk a):
  Calls Tryz.prog 76 #[.agg #[.int .u8 a.what,.int .i64 a.page,.int .i64 a.slot,.string a.item,.slice a.QA a.qn a.qc]] w (K2 a w):=by
 obtain⟨hw,hpg,hsl,hit,hq⟩:=ha
 have Qm:=Int.lt_tmod_of_pos a.page (b:=5) (by decide)
 have Tt:=Int.tmod_lt_of_pos a.page (b:=5) (by decide)
 have eY:=Int.lt_tmod_of_pos a.slot (b:=5) (by decide)
 have hs5b:=Int.tmod_lt_of_pos a.slot (b:=5) (by decide)
 have fg:=Int.lt_tmod_of_pos a.slot (b:=26) (by decide)
 have hs26b:=Int.tmod_lt_of_pos a.slot (b:=26) (by decide)
 go_enter Tryz.func76,Tryz.ntmps76
 have aj:=St.start w
 refine wq (sqr ?_)
 refine b9 #[.int .u8 a.what,vi a.page,vi a.slot,.string a.item,.slice a.QA a.qn a.qc] aj fun aA W1 ay=>?_
 refine sqp [.k 2 (sn)] ?_
 refine aa (wq (sqr (sqp [.k 7 (po aA 1)] ?_)))
 refine aq 0 ay ?_
 refine sqp [.m 3 8] ?_
 refine aa ?_
 refine ma (fun t_ az W=>∃pg:Int,pg=pgA a/\az=⟨(ovr (jv az) [(3,3,0,[vi pg]),(5,9,8,[])] t_).toArray,[]⟩/\St w [] [eB aA 60 #[.int .u8 a.what,vi a.page,vi a.slot,.string a.item,.slice a.QA a.qn a.qc]] W) ?_ ?_
 refine wq (sqr (sqp [.k 9 (vp aA)] ?_))
 refine aq 0 ay ?_
 refine sqp [.k 11 (.bool (decide (a.what<128)))] ?_
 refine aa (wds (fun kE pC=>?_) fun kE pC=>?_)
 refine sqr (sqp [.k 12 (po aA 1)] ?_)
 refine aq 0 ay ?_
 refine sqp [sRe 14 .i64 a.page 5 (a.page.tmod 5) (rfl),sI 15 ((a.page.tmod 5)+5) (by omega),sRe 16 .i64 (a.page.tmod 5+5) 5 ((a.page.tmod 5+5) % 5) (Int.tmod_eq_emod_of_nonneg (by omega)),.m 3 16] ?_
 refine aa ?_
 exact⟨(a.page.tmod 5+5) % 5,(by rw[pgA,if_pos (by have h_:=kE;simpa using h_)]),(by kernel_rfl),ay.pk [0]⟩
 refine wp_skip (aa ?_)
 exact⟨a.page,(by rw[pgA,if_neg (by have h_:=kE;simpa using h_)]),(by kernel_rfl),ay.pk [0]⟩
 rintro a6 W6 ⟨pg,hpgA,hj_,bK⟩
 refine ovz hj_ fun Uf=>?_
 refine wq (sqr (sqp [.k 17 (po aA 2)] ?_))
 refine aq 0 bK ?_
 refine sqp [sRe 19 .i64 a.slot 26 (a.slot.tmod 26) (rfl),sI 20 ((a.slot.tmod 26)+26) (by omega),sRe 21 .i64 (a.slot.tmod 26+26) 26 ((a.slot.tmod 26+26) % 26) (Int.tmod_eq_emod_of_nonneg (by omega)),sI 22 (((a.slot.tmod 26+26) % 26)-1) (by omega),.m 4 22] ?_
 refine aa (wq (sqr (sqp [.k 23 (po aA 3)] ?_)))
 refine aq 0 bK ?_
 refine sqp [.k 25 (po aA 3)] ?_
 refine aq 0 bK ?_
 refine sqp [.k 27 (vi ((a.item.size:Int)))] ?_
 refine sql (vi (min (a.item.size:Int) 401)) bK (fun cx=>jI rfl (cx.ou 27) (cx.co _) (rfl)) ?_
 refine sql (.string (a.item.extract 0 ((min (a.item.size:Int) 401).toNat))) bK (fun cx=>gO (l:=(min (a.item.size:Int) 401).toNat) rfl (by kernel_rfl) (cx.ou 24) (cx.ou 28) (by omega) (by omega)) ?_
 refine sqp [.m 5 29] ?_
 refine aa ?_
 refine ma (fun t_ az W=>∃it:ByteArray,it=itA a/\az=⟨(ovr (jv az) [(5,5,0,[.string it]),(24,30,8,[])] t_).toArray,[]⟩/\St w [] [eB aA 60 #[.int .u8 a.what,vi a.page,vi a.slot,.string a.item,.slice a.QA a.qn a.qc]] W) ?_ ?_
 refine wq ?_
 obtain⟨s0,O4⟩:∃z,a.item.extract 0 ((min (a.item.size:Int) 401).toNat)=z:=⟨_,rfl⟩
 have hs0a:it0 a=s0:=O4
 have hs0z:s0.size<=401:=hs0a ▸ yH a
 simp only[O4]
 refine sqr (sqp [.m 30 4,.k 31 (.bool (decide ((a.slot.tmod 26+26) % 26-1<0)))] ?_)
 refine aa (wds (fun zP CY=>?_) fun zP CY=>?_)
 refine sqr (sqp [.m 32 5,.k 33 (vi ((s0.size:Int))),sRe 34 .i64 (s0.size:Int) 4 ((s0.size:Int) % 4) (Int.tmod_eq_emod_of_nonneg (by omega)),sW 35 .u8 ((s0.size:Int) % 4) ((s0.size:Int) % 4) (IntWalk.u8_in _ (by omega))] ?_)
 refine ea (fun x_=>sA x_) (fun vk=> .slice vk 1 1) (fun vk=>eO 5 1 (.slice vk 1 1) 1 ([.int .u8 ((s0.size:Int) % 4)])) bK (by
   refine svA fun d g W X cx=>?_
   have Ip:d (.tmp 35)= .int .u8 ((s0.size:Int) % 4):=(cx.ou 35)
   exact dy (e:=5) (xs:=[.int .u8 ((s0.size:Int) % 4)]) rfl (by simp[go_sem,Ip]) rfl (by decide) rfl rfl (fun _ _ _ _ _=> .intro)) fun vk uz dR=>?_
 refine sql (.string (strOfNums ([((s0.size:Int) % 4)]))) dR (fun cx=>kY (e:=5) rfl (by kernel_rfl) (by kernel_rfl) (by kernel_rfl) (cx.ou 36) (cx.ri 1 rfl)) ?_
 refine sqp [.m 5 37] ?_
 refine aa ?_
 exact⟨strOfNums ([((s0.size:Int) % 4)]),(by rw[itA,if_pos (by have h_:=zP;simpa[slA] using h_),hs0a]),(by kernel_rfl),dR.pk [0]⟩
 refine wp_skip (aa ?_)
 exact⟨s0,(by rw[itA,if_neg (by have h_:=zP;simpa[slA] using h_),hs0a]),(by kernel_rfl),bK.pk [0]⟩
 rintro a32 za ⟨it,hitA,hj_,c6⟩
 refine ovz hj_ fun H0=>?_
 refine wq (sqr (sqp [.m 38 3,.m 39 4,.m 40 5,.k 41 (.agg #[vi pg,vi ((a.slot.tmod 26+26) % 26-1),.string it])] ?_))
 refine mK 84 3 1 [vi pg,vi ((a.slot.tmod 26+26) % 26-1),.string it] c6 (@fun d g W X cx=>by have zj:d (.tmp 41)= .agg #[vi pg,vi ((a.slot.tmod 26+26) % 26-1),.string it]:=(cx.ou 41);simp[go_sem,zj]) fun Np L3 gw=>?_
 refine sqp [.m 6 42] ?_
 refine aa (wq (wq (sqr (sqp [.k 43 (vp aA)] ?_))))
 refine aq 0 gw ?_
 refine sqp [sRe 45 .u8 a.what 2 (a.what % 2) (Int.tmod_eq_emod_of_nonneg (by omega)),.k 46 (.bool ((a.what % 2)==1))] ?_
 refine aa (wbs (fun zZ=>?_) fun zZ=>?_)
 have ON:=beq_iff_eq.1 zZ
 refine sqr (sqp [.k 47 (po aA 2)] ?_)
 refine aq 0 gw ?_
 refine sqp [sRe 49 .i64 a.slot 5 (a.slot.tmod 5) (rfl),sI 50 ((a.slot.tmod 5)+5) (by omega),sRe 51 .i64 (a.slot.tmod 5+5) 5 ((a.slot.tmod 5+5) % 5) (Int.tmod_eq_emod_of_nonneg (by omega)),.k 52 (po aA 4)] ?_
 refine aq 0 gw ?_
 refine sqp [.k 54 (vi ((a.qn:Int))),sRe 55 .i64 (a.qn:Int) 2 ((a.qn:Int) % 2) (Int.tmod_eq_emod_of_nonneg (by omega)),sI 56 (1+((a.qn:Int) % 2)) (by omega)] ?_
 refine sqk (.agg #[vi ((a.slot.tmod 5+5) % 5),vi ((-1)),.string ((kS (1+a.qn % 2)))]) gw (fun cx=>⟨_,La ((a.slot.tmod 5+5) % 5) a.qn _,(aM (cx.ou 51) (cx.ou 56))⟩) fun MD iJ=>?_
 refine mK 84 3 1 [vi ((a.slot.tmod 5+5) % 5),vi ((-1)),.string ((kS (1+a.qn % 2)))] iJ (@fun d g W X cx=>by have P9:d (.tmp 57)= .agg #[vi ((a.slot.tmod 5+5) % 5),vi ((-1)),.string ((kS (1+a.qn % 2)))]:=(cx.ou 57);simp[go_sem,P9]) fun Ry OU rC=>?_
 refine sqp [.m 59 6] ?_
 refine vw 2 (([((a.slot.tmod 5+5) % 5,(-1:Int),kS (1+a.qn % 2)),(pg,slA a,it)]:List EdT).flatMap edC) 2 rC Tryz.infoEdJ (fun cx=>(At.of_ownN (cx.ri 1 rfl))) (jP:=(by rfl)) fun Nq Nr OX px=>?_
 refine sqp [.m 6 60] ?_
 refine aa (wq (sqr (sqp [.m 61 6,.m 2 61] ?_)))
 refine aa (wp_ret ?_)
 refine bpr (.slice Nq 2 Nr) (ag Tryz.results76 rpt) ?_
 have hE_:eF a=([((a.slot.tmod 5+5) % 5,(-1:Int),kS (1+a.qn % 2)),(pg,slA a,it)]:List EdT):=by rw[eF,if_pos (by have h_:=zZ;simpa using h_),<-hpgA,<-hitA]
 exact⟨_,_,by rw[hE_];rfl,by rw[hE_];exact px.own' 2 rfl,px.ext⟩
 have ON:=beq_eq_false_iff_ne.1 zZ
 refine wp_skip (aa (wq (sqr (sqp [.m 61 6,.m 2 61] ?_))))
 refine aa (wp_ret ?_)
 refine bpr (.slice ((some ⟨Np,0,none⟩)) 1 1) (ag Tryz.results76 rpt) ?_
 have hE_:eF a=([(pg,slA a,it)]:List EdT):=by rw[eF,if_neg (by have h_:=zZ;simpa using h_),<-hpgA,<-hitA]
 exact⟨_,_,by rw[hE_];rfl,by rw[hE_];exact gw.own' 1 rfl,gw.ext⟩
end
section
open Go.RowKit
def wdL(xb:Nat)(bufs safe:Int)(db sb rb:Nat)(L:List RecM)(told:Int->Bool)(c:Nat)(fps fpr:List Nat):List Ent:=[eB xb 34 #[vp db,vp sb,vp rb,vi bufs,vi safe],eNi sb db L told 5 c fps,eRf rb L told 5 fpr]
def eWd(xb:Nat)(bufs:Int)(L:List RecM)(told:Int->Bool)(c:Nat)(fp:List Nat):Ent:=⟨fp,fun W=>∃safe db sb rb fps fpr,fp=(wdL xb bufs safe db sb rb L told c fps fpr).flatMap (·.fp)/\(wdL xb bufs safe db sb rb L told c fps fpr).Pairwise Ent.apart/\∀e∈wdL xb bufs safe db sb rb L told c fps fpr,e.holds W/\e.loc⟩
theorem vo(xb:Nat)(bufs:Int)(L:List RecM)(told:Int->Bool)(c:Nat)(fp:List Nat):(eWd xb bufs L told c fp).loc:=fun W W' hk h=>by
 obtain⟨safe,db,sb,rb,fps,fpr,h1,h2,h3⟩:=h
 exact⟨safe,db,sb,rb,fps,fpr,h1,h2,fun e he=>⟨(h3 e he).2 W W' (fun k hk'=>hk k (by rw[eWd,h1];exact List.mem_flatMap.2 ⟨e,he,hk'⟩)) (h3 e he).1,(h3 e he).2⟩⟩
theorem sG{xb:Nat}{bufs:Int}{L:List RecM}{told:Int->Bool}(h:e=eWd xb bufs L told c fp):e=eWd xb bufs L told c e.fp:=by subst h;rfl
section
variable{w0 W:World}{bor:List Nat}{R:List Ent}{xb:Nat}{bufs safe:Int}{db sb rb:Nat}{L:List RecM}{told:Int->Bool}{c:Nat}{fp fps fpr:List Nat}
theorem St.unwd(h:St w0 bor (eWd xb bufs L told c fp::R) W):∃safe db sb rb fps fpr,St w0 bor (eB xb 34 #[vp db,vp sb,vp rb,vi bufs,vi safe]::eNi sb db L told 5 c fps::eRf rb L told 5 fpr::R) W:=by
 obtain⟨safe,db,sb,rb,fps,fpr,h1,h2,h3⟩:=(h.ok (eWd xb bufs L told c fp) (by simp)).holds
 exact⟨safe,db,sb,rb,fps,fpr,((h.perm (List.perm_append_singleton _ R).symm).unpackL h1 h3 h2).perm List.perm_append_comm⟩
theorem St.wd(h:St w0 bor (eB xb 34 #[vp db,vp sb,vp rb,vi bufs,vi safe]::eNi sb db L told 5 c fps::eRf rb L told 5 fpr::R) W):∃fp,St w0 bor (eWd xb bufs L told c fp::R) W:=by
 have h':St w0 bor (R++wdL xb bufs safe db sb rb L told c fps fpr) W:=h.perm (List.perm_append_comm (l₁:=[_,_,_]))
 have h4:=St.pack (E:=eWd xb bufs L told c ((wdL xb bufs safe db sb rb L told c fps fpr).flatMap (·.fp))) h' rfl ⟨safe,db,sb,rb,fps,fpr,rfl,(List.pairwise_append.1 h'.apart).2.1,fun e he=>⟨(h'.ok e (List.mem_append_right _ he)).holds,(h'.ok e (List.mem_append_right _ he)).loc⟩⟩ (vo _ _ _ _ _ _)
 exact⟨_,h4.perm (List.perm_append_singleton _ _)⟩
end
theorem GF{L:List RecM}{told:Int->Bool}{c2:Nat}(h:(eNi sb db L told p c fp).holds W)(hc:c<=c2):(eNi sb db L told p c2 fp).holds W:=let ⟨S,a,b⟩:=h;⟨S,⟨a.ok.mono hc,a.wi,a.on,a.ar,a.eL,a.ep⟩,b⟩
theorem St.wdm{R:List Ent}{xb:Nat}{bufs:Int}{L:List RecM}{told:Int->Bool}{c2:Nat}{fp:List Nat}(h:St w0 bor (eWd xb bufs L told c fp::R) W)(hc:c<=c2):∃fp,St w0 bor (eWd xb bufs L told c2 fp::R) W:=by
 obtain⟨safe,db,sb,rb,fps,fpr,h1⟩:=h.unwd
 have h2:=St.repl (L1:=[eB xb 34 #[vp db,vp sb,vp rb,vi bufs,vi safe]]) (E':=eNi sb db L told 5 c2 fps) h1 rfl (fun h=>GF h hc) (Kj _ _ _ _ _ _ _)
 exact St.wd h2
theorem mg{L:List RecM}{told:Int->Bool}(hB:(eNi sb db L told p c fp).holds w):Calls Tryz.prog 59 #[po db 0] w (Ret (.bool true) w):=by
 obtain⟨S,h,mb,RA,rc,EA,ec,ib,tb,hs⟩:=xG hB
 have h1:=ml db S.D w hs.dk
 rw[h.on] at h1;exact h1
theorem NF{L:List RecM}{told:Int->Bool}(hB:(eNi sb db L told p c fp).holds w):(∀r∈L,bC r=true)/\szF L<=1048576:=by
 obtain⟨S,h,_⟩:=hB
 have e:=h.ok.log
 have z:=h.ok.lsz
 rw[e,cE,h.eL] at z
 exact⟨fun r hr=>h.ok.recs r (h.eL ▸ hr),z⟩
def ntA(a:ActT):ByteArray:=a.item.extract 0 (min (a.item.size:Int) 50).toNat
theorem HY(a:ActT):(ntA a).size<=50:=by rw[ntA,ByteArray.size_extract];omega
def dt(a:ActT):RecM:=⟨1,a.page % 128,0,eF a,⟨#[]⟩⟩
noncomputable def gB(s:List RecM×(Int->Bool))(a:ActT):List RecM×(Int->Bool):=
 if a.what % 10<=3 then ((rfD 5 s.1 s.2 (dt a)).1,(rfD 5 s.1 s.2 (dt a)).2.2.2) else if a.what % 10=4 then (s.1,frT 5 s.1 s.2) else if a.what % 10<=6 then s else (ckL s.1 (ntA a),s.2)
theorem Cs(xb:Nat)(bufs:Int)(w:World)(hB:(eB xb 34 #[.pointer none,.pointer none,.pointer none,.int .i64 0,.int .i64 0]).holds w)(hlt:xb<w.heap.size)(hb:1<=bufs/\bufs<=64):
  Calls Tryz.prog 14 #[po xb 0,.int .i64 bufs] w ((fun e w2=>e= .returned (.bool true)/\∃fp2,St w [xb] [eWd xb bufs [aI bgS] (fun _=>false) 0 fp2] w2)):=by
 have st1:St w [xb] [eB xb 34 #[.pointer none,.pointer none,.pointer none,.int .i64 0,.int .i64 0]] w:=St.lend hB (d7 _ _ _) (fun k hk=>by rw[List.mem_singleton.1 hk];exact hlt)
 go_enter Tryz.func14,Tryz.ntmps14
 have aj:=st1
 refine wq (sqr (sqp [.k 4 (.bool false)] ?_))
 refine aa (wq (sqr (sqp [.m 8 0] ?_)))
 refine BY (fun ja=>vp ja) (fun ja IB=>eDk ja (kw 5) IB) aj (fun cx=>⟨_,(yR 5 _ (by decide)).mono (by rintro e W1 ⟨b4,rfl,fp4,aT⟩;exact⟨_,_,rfl,aT⟩),(ax (cx.co _))⟩) fun ja IB W3 aW=>?_
 refine sqp [.k 10 (vp xb),.k 11 (vp xb)] ?_
 refine aX (n:=1) 0 #[vp ja,.pointer none,.pointer none,vi 0,vi 0] aW fun W6 bK=>?_
 refine aa (wq (sqr (sqp [.m 12 0,.m 13 1,.k 14 (vp xb),.k 15 (po xb 3)] ?_)))
 refine aX (n:=1) 0 #[vp ja,.pointer none,.pointer none,vi bufs,vi 0] bK fun Ff f8=>?_
 refine aa (wq (sqr (sqp [.m 16 0,.k 17 (vp xb),.k 18 (vp xb)] ?_)))
 refine aq 0 f8 ?_
 refine bM (fun X_=>X_.fp) (vi 0) (fun C5=>eDk ja (bgD 5 (⟨#[98,101,103,117,110]⟩:ByteArray)) C5) 1 f8 (by
   refine svA fun a b W X cx=>?_
   refine am.call (au (args:=#[vp ja,.string ⟨#[98,101,103,117,110]⟩]) rfl cx.sees rfl (by kernel_rfl) (aM (cx.ou 19) (cx.co _))) ?_
   refine(rR 5 (⟨#[98,101,103,117,110]⟩:ByteArray) (CtxV.holdF cx (cx.init 1 _ rfl) rfl) (CtxV.ltF cx (cx.init 1 _ rfl) rfl) (by decide)).mono ?_
   rintro e W1 ⟨rfl,fp4,aT⟩
   refine⟨_,rfl,aK (E:=eDk ja (kw 5) IB) [eDk ja (bgD 5 (⟨#[98,101,103,117,110]⟩:ByteArray)) fp4] (cx.init 1 _ rfl) rfl rfl aT (fun d g X' hs hb hv hN=>?_)⟩
   have aJ:=(hv 20 rfl).1;have aV:=(hv 20 rfl).2
   exact⟨aJ.trans rfl,cJ ((List.cons.inj hN).1)⟩) fun C5 qH dw=>?_
 refine sqp [.m 5 20] ?_
 refine aa (wq (sqr (sqp [.m 22 0,.k 23 (vp xb),.k 24 (vp xb)] ?_)))
 refine aq 0 dw ?_
 refine sqp [.m 26 1] ?_
 refine oU (fun x_=>pb (tg x_ 0)) (fun X_=>X_.fp) (fun kp=> .tuple #[vp kp,vi 0]) (fun kp ve=>eNi kp ja ([aI (⟨#[98,101,103,117,110]⟩:ByteArray)]) (fun _=>false) 5 0 ve) 1 dw (by
   refine svA fun a b W X cx=>?_
   refine am.call (au (args:=#[vp ja,vi bufs]) rfl cx.sees rfl (by kernel_rfl) (aM (cx.ou 25) (cx.ou 26))) ?_
   refine(wb 5 (⟨#[98,101,103,117,110]⟩:ByteArray) bufs (CtxV.holdF cx (cx.init 1 _ rfl) rfl) (CtxV.ltF cx (cx.init 1 _ rfl) rfl) (by decide) (by decide) hb).mono ?_
   rintro e W1 ⟨sb4,rfl,fp4,aT⟩
   refine⟨_,rfl,aK (E:=eDk ja (bgD 5 (⟨#[98,101,103,117,110]⟩:ByteArray)) C5) [eNi sb4 ja [aI (⟨#[98,101,103,117,110]⟩:ByteArray)] (fun _=>false) 5 0 fp4] (cx.init 1 _ rfl) rfl rfl aT (fun d g X' hs hb hv hN=>?_)⟩
   have aJ:=(hv 27 rfl).1;have aV:=(hv 27 rfl).2
   exact⟨aJ.trans (by rw[aV];exact rfl),(by rw[aV];exact fu ((List.cons.inj hN).1))⟩) fun kp ve uA cF=>?_
 refine sqp [.m 21 27,.k 28 (vp kp),.k 29 (vi 0),.m 6 28,.m 7 29] ?_
 refine aa (wq (sqr (sqp [.m 30 0,.m 31 6,.k 32 (vp xb),.k 33 (po xb 1)] ?_)))
 refine aX (n:=1) 0 #[vp ja,vp kp,.pointer none,vi bufs,vi 0] cF fun OS rB=>?_
 refine aa (wq (sqr (sqp [.m 34 0] ?_)))
 refine BY (fun oF=>vp oF) (fun oF Jb=>eRf oF ([aI bgS]) (fun _=>false) 5 Jb) rB (fun cx=>⟨_,(By bgS _ (by decide)).mono (by rintro e W1 ⟨b4,rfl,fp4,aT⟩;exact⟨_,_,rfl,aT⟩),(aM (cx.co _) (cx.co _))⟩) fun oF Jb wX dY=>?_
 refine sqp [.k 36 (vp xb),.k 37 (po xb 2)] ?_
 refine aX (n:=1) 0 #[vp ja,vp kp,vp oF,vi bufs,vi 0] dY fun zi gG=>?_
 refine aa (wq (sqr (sqp [.m 38 0,.k 39 (vp xb),.k 40 (po xb 4)] ?_)))
 refine aX (n:=1) 0 #[vp ja,vp kp,vp oF,vi bufs,vi 1] gG fun pP eN=>?_
 refine aa (wq (sqr (sqp [.m 41 5,.k 42 (.bool true),.k 43 (.bool true)] ?_)))
 refine c7 43 [44,45] rfl rfl ?_
 refine sqp [.m 44 7,.k 45 (.bool true)] ?_
 refine sqp [.k 46 (.bool true),.k 47 (.bool true)] ?_
 refine c7 47 [48,49] rfl rfl ?_
 refine sqp [.m 48 6] ?_
 refine sqv (.bool true) eN (by
   exact sv0 rfl rfl rfl rfl rfl (fun _ _ _ h=>h) fun a b W X cx=>by
    have Ia:a (.tmp 48)=vp kp:=(cx.ou 48)
    simp[go_sem,cx.sees.const,Ia]) fun IP kO=>?_
 refine sqp [.k 50 (.bool true),.k 4 (.bool true)] ?_
 refine aa (wp_ret ?_)
 refine bpr (.bool true) (ag Tryz.results14 rpt) ?_
 obtain⟨fw54_,hw54_⟩:=St.wd kO
 exact⟨rfl,_,hw54_⟩
end
end Go.Proofs.YtcdjaepgahbhfaaGreat
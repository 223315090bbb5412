import Derived.Test.YtcdjaepgahbhfaaGreatZ4
set_option linter.unusedVariables false
set_option linter.unusedSimpArgs false
set_option maxRecDepth 100000
set_option maxHeartbeats 16000000
namespace Go.Proofs.YtcdjaepgahbhfaaGreat
variable{A EA LA RA:Option Addr}{B l:List BfT}{D:DkM}{L:List RecM}{L0:List Ent}{S S' S2:StM}{W w w' w0:World}{a er lsn n sl x z:Int}{args:Array Value}{b c db ec i ib j k lc mb rc sb tb:Nat}{bor fp fp' fpd:List Nat}{e:EdT}{f:FuncId}{left:Int->Bool}{p:PgS}{pg:PgR}{r:RecM}{rs:List RcT}{rt:RcT}{s:ByteArray}{t u:BfT}
section
open Go.RowKit
theorem c6{P:DkM->Prop}{f:DkM->DkM}(h0:P D)(h1:P {D with off:=true})(h2:er=0->P (f {D with left:=cX D.left})):P (opD D er f).1:=by
 unfold opD
 split
 exact h0
 split
 exact h0
 rename_i he
 split
 exact h1
 exact h2 (by simpa using he)
theorem mO{f:DkM->DkM}(h:(opD D er f).2=0):D.off=false/\er=0/\(opD D er f).1=f {D with left:=cX D.left}:=by
 unfold opD at h |-
 split at h
 cases h
 rename_i ho
 rw[if_neg ho]
 split at h
 rename_i he;exact absurd h he
 rename_i he
 rw[if_neg he]
 split at h
 cases h
 rename_i ha
 rw[if_neg ha]
 exact⟨by simpa using ho,by simpa using he,rfl⟩
def bf0:BfT:=⟨0,0,⟨bu,none,0⟩,false,0⟩
theorem SOk.mono{c':Nat}(h:SOk S c)(hc:c<=c'):SOk S c':=
 ⟨h.bufs,h.pgs,fun x hx=>Nat.le_trans (h.ws x hx) hc,⟨h.time.1,by have:=h.time.2;omega⟩,Nat.le_trans h.ni hc,Nat.le_trans h.nt hc,h.right,h.nodup,h.len,h.keys,h.recs,h.log,h.lsz,h.fl,h.cl⟩
theorem SOk.tick(h:SOk S c):SOk (tick S) (c+1):=
 ⟨h.bufs,h.pgs,fun x hx=>Nat.le_succ_of_le (h.ws x hx),⟨by have:=h.time.1;show 0<=S.time+1;omega,by have:=h.time.2;show S.time+1<= _;omega⟩,Nat.le_succ_of_le h.ni,Nat.le_succ_of_le h.nt,h.right,h.nodup,h.len,h.keys,h.recs,h.log,h.lsz,h.fl,h.cl⟩
structure DOk (D D':DkM) (k:Nat):Prop where
 pgs:D'.pgs.length=D.pgs.length
 ws:∀c,(∀x∈D.pgs,x.ws.length<=c)->∀x∈D'.pgs,x.ws.length<=c+k
 log:D'.log=D.log
 fl:D.fl<=D.log.size->D'.fl<=D'.log.size
theorem DOk.refl(D:DkM):DOk D D 0:=⟨rfl,fun c h x hx=>h x hx,rfl,id⟩
theorem DOk.trans{A B C:DkM}{l:Nat}(h:DOk A B k)(g:DOk B C l):DOk A C (k+l):=⟨g.pgs.trans h.pgs,fun c hc x hx=>by have:=g.ws _ (h.ws c hc) x hx;omega,g.log.trans h.log,fun hf=>g.fl (h.fl hf)⟩
theorem DOk.mono{A B:DkM}{l:Nat}(h:DOk A B k)(hk:k<=l):DOk A B l:=⟨h.pgs,fun c hc x hx=>Nat.le_trans (h.ws c hc x hx) (by omega),h.log,h.fl⟩
theorem DOk.flush(D:DkM):DOk D (opD D 0 flD).1 0:=c6 (P:=fun D'=>DOk D D' 0) ⟨rfl,fun c h x hx=>h x hx,rfl,id⟩ ⟨rfl,fun c h x hx=>h x hx,rfl,id⟩ fun _=>⟨rfl,fun c h x hx=>h x hx,rfl,fun _=>Nat.le_refl _⟩
theorem K8(D:DkM)(n:Int)(s:ByteArray):DOk D (wrD n s D) 1:=by
 unfold wrD
 split
 refine⟨List.length_set,fun c hc x hx=>?_,rfl,id⟩
 rcases List.mem_or_eq_of_mem_set hx with h|rfl
 exact Nat.le_succ_of_le (hc x h)
 show ((D.pgs.getD n.toNat gB).ws++[_]).length<=c+1
 rw[List.length_append,List.length_singleton]
 have:(D.pgs.getD n.toNat gB).ws.length<=c:=by
  rw[List.getD_eq_getElem?_getD]
  rcases hx2:D.pgs[n.toNat]? with _|y
  exact Nat.zero_le _
  exact hc y (List.mem_of_getElem? hx2)
 omega
 exact(DOk.refl D).mono (Nat.zero_le _)
theorem DOk.write(D:DkM)(n:Int)(s:ByteArray):DOk D (opD D (wrE D n s) (wrD n s)).1 1:=
 c6 (P:=fun D'=>DOk D D' 1) ((DOk.refl D).mono (Nat.zero_le _)) ⟨rfl,fun c h x hx=>Nat.le_succ_of_le (h x hx),rfl,id⟩ fun _=>(show DOk D {D with left:=cX D.left} 0 from⟨rfl,fun c h x hx=>h x hx,rfl,id⟩).trans (K8 _ n s)
theorem SOk.disk{S:StM}(h:SOk S c)(g:DOk S.D D k)(hcl:∀t∈S.pool,t.dirty=false->t.pg.p=shP D t.n):SOk {S with D:=D} (c+k):=
 ⟨h.bufs,by show D.pgs.length<=400;rw[g.pgs];exact h.pgs,g.ws c h.ws,⟨h.time.1,by have:=h.time.2;show S.time<= _;omega⟩,Nat.le_trans h.ni (by omega),Nat.le_trans h.nt (by omega),h.right,h.nodup,h.len,fun t ht=>by have:=h.keys t ht;show 0<=t.n/\t.n<(D.pgs.length:Int);rw[g.pgs];exact this,h.recs,by show D.log= _;rw[g.log];exact h.log,by show D.log.size<= _;rw[g.log];exact h.lsz,g.fl h.fl,hcl⟩
theorem tR{f:BfT->BfT}(hf:∀t,(f t).n=t.n):(de l n f).map BfT.n=l.map BfT.n:=by
 rw[de,List.map_map]
 refine List.map_congr_left fun t _=>?_
 show (if t.n=n then f t else t).n=t.n
 split
 exact hf t
 rfl
theorem mv{l:List BfT}{f:BfT->BfT}(hu:u∈de l n f):∃t∈l,u=f t\/u=t:=by
 obtain⟨t,ht,rfl⟩:=List.mem_map.1 hu
 refine⟨t,ht,?_⟩
 split
 exact .inl rfl
 exact .inr rfl
theorem SOk.setp{S:StM}{f:BfT->BfT}(h:SOk S c)(hn:∀t,(f t).n=t.n)(hr:∀t∈S.pool,bC (f t).pg.p)(hcl:∀t∈S.pool,t.n=n->(f t).dirty=false->(f t).pg.p=shP S.D t.n):SOk {S with pool:=de S.pool n f} c:=
 ⟨h.bufs,h.pgs,h.ws,h.time,h.ni,h.nt,fun u hu=>by obtain⟨t,ht,rfl|rfl⟩:=mv hu;exact hr t ht;exact h.right _ ht,by show ((de S.pool n f).map BfT.n).Nodup;rw[tR hn];exact h.nodup,by show ((de S.pool n f).length:Int)<=S.bufs;rw[de,List.length_map];exact h.len,
  fun u hu=>by obtain⟨t,ht,rfl|rfl⟩:=mv hu;rw[hn];exact h.keys _ ht;exact h.keys _ ht,h.recs,h.log,h.lsz,h.fl,fun u hu hd=>by
   obtain⟨t,ht,rfl⟩:=List.mem_map.1 hu
   by_cases e:t.n=n
   rw[if_pos e] at hd |-
   rw[hn];exact hcl t ht e hd
   rw[if_neg e] at hd |-
   exact h.cl t ht hd⟩
theorem gL{D':DkM}(h:D'.pgs=D.pgs)(n:Int):shP D' n=shP D n:=by rw[shP,shP,h]
theorem xH(D:DkM)(n:Int)(s:ByteArray):((opD D (wrE D n s) (wrD n s)).2≠0/\(opD D (wrE D n s) (wrD n s)).1.pgs=D.pgs)\/((opD D (wrE D n s) (wrD n s)).2=0/\D.off=false/\(0<=n/\n<(D.pgs.length:Int))/\∃h:s.size=512,(opD D (wrE D n s) (wrD n s)).1=jD n.toNat ⟨s,h⟩ {D with left:=cX D.left}):=by
 by_cases h0:(opD D (wrE D n s) (wrD n s)).2=0
 obtain⟨h1,h2,h3⟩:=mO h0
 obtain⟨h4,h5⟩:=yj h2
 exact .inr ⟨h0,h1,h4,h5,by rw[h3,wrD,dif_pos h5]⟩
 refine .inl ⟨h0,?_⟩
 unfold opD at h0 |-
 split
 rfl
 rename_i ho
 rw[if_neg ho] at h0
 split
 rfl
 rename_i he
 rw[if_neg he] at h0
 split
 rfl
 rename_i ha
 rw[if_neg ha] at h0
 exact absurd rfl h0
theorem yI{h:H5}(hn:0<=n/\n<(D.pgs.length:Int)){m:Int}(hm:0<=m):shP (jD n.toNat h D) m=if m=n then rdP h.1 else shP D m:=by
 rw[shP,jD]
 dsimp only
 split
 rename_i e
 subst e
 rw[List.getD_eq_getElem?_getD,List.getElem?_set_self (by omega)]
 show rdP (rdT ⟨_,_++[h]⟩).1= _
 rw[rdT];simp
 rename_i e
 rw[List.getD_eq_getElem?_getD,List.getElem?_set_ne (by omega),<-List.getD_eq_getElem?_getD];rfl
theorem rn(S:StM)(t:BfT):DOk S.D (wrD0 S t).1 0/\(wrD0 S t).1.pgs=S.D.pgs:=by
 unfold wrD0
 split
 exact⟨DOk.flush _,sM _⟩
 exact⟨DOk.refl _,rfl⟩
theorem xT(ht:bC t.pg.p){m:Int}(hm:0<=m):shP (bK S t).1.D m=shP S.D m\/(m=t.n/\shP (bK S t).1.D m=t.pg.p):=by
 have h0:=rn S t
 unfold bK
 split
 exact .inl (gL h0.2 m)
 dsimp only
 rcases xH (wrD0 S t).1 t.n (aE t.pg.p) with ⟨_,h2⟩|⟨_,h1,h2,h3,h4⟩
 exact .inl ((gL h2 m).trans (gL h0.2 m))
 rw[h4,yI (D:={(wrD0 S t).1 with left:=cX (wrD0 S t).1.left}) h2 hm]
 split
 rename_i e
 exact .inr ⟨e,pr ht⟩
 exact .inl (gL (D:=S.D) h0.2 m)
theorem rZ(ht:bC t.pg.p)(h0:(bK S t).2=0):shP (bK S t).1.D t.n=t.pg.p/\(bK S t).1.pool=de S.pool t.n clB:=by
 have h1:=rn S t
 unfold bK at h0 |-
 split at h0
 rename_i h2;exact absurd h0 h2
 rename_i h2
 rw[if_neg h2]
 dsimp only at h0 |-
 rcases xH (wrD0 S t).1 t.n (aE t.pg.p) with ⟨h3,_⟩|⟨_,_,h4,h5,h6⟩
 exact absurd h0 h3
 rw[if_pos h0,h6,yI (D:={(wrD0 S t).1 with left:=cX (wrD0 S t).1.left}) h4 h4.1,if_pos rfl]
 exact⟨pr ht,rfl⟩
theorem SOk.write(h:SOk S c)(t:BfT)(ht:t∈S.pool):SOk (bK S t).1 (c+1):=by
 have hr:=h.right t ht
 have h0:=rn S t
 have huniq:∀u∈S.pool,u.n=t.n->u=t:=fun u hu e=>by
  obtain⟨A,B,hp⟩:=List.append_of_mem ht
  have hd:=h.nodup
  rw[hp,List.map_append,List.map_cons] at hd
  have h1:=List.nodup_append.1 hd
  rw[hp] at hu
  rcases List.mem_append.1 hu with h2|h2
  exact absurd e (h1.2.2 u.n (List.mem_map.2 ⟨u,h2,rfl⟩) t.n (by simp))
  rcases List.mem_cons.1 h2 with h2|h2
  exact h2
  exact absurd (List.mem_map.2 ⟨u,h2,e⟩) (List.nodup_cons.1 h1.2.1).1
 have hcl:∀u∈S.pool,u.dirty=false->u.pg.p=shP (bK S t).1.D u.n:=fun u hu hd=>by
  rcases xT hr (S:=S) (h.keys u hu).1 with h1|⟨h1,h2⟩
  rw[h1];exact h.cl u hu hd
  rw[h2,huniq u hu h1]
 have hw:=rZ (S:=S) hr
 unfold bK at hcl hw |-
 split
 rename_i h1
 rw[if_pos h1] at hcl
 exact(h.disk h0.1 hcl).mono (by omega)
 rename_i h1
 rw[if_neg h1] at hcl hw
 dsimp only at hcl hw |-
 have h2:=h.disk (h0.1.trans (DOk.write (wrD0 S t).1 t.n (aE t.pg.p))) hcl
 split
 rename_i h3
 refine(h2.setp (f:=clB) (fun _=>rfl) (fun u hu=>h.right u hu) fun u hu e _=>?_).mono (by omega)
 rw[huniq u hu e]
 exact(hw h3).1.symm
 exact h2.mono (by omega)
theorem SOk.clean(h:SOk S c)(t:BfT)(ht:t∈S.pool):SOk (aM S t).1 (c+1):=by
 unfold aM
 split
 exact h.write t ht
 exact h.mono (by omega)
theorem mf(hu:u∈rmB l n):u∈l/\u.n≠n:=by
 rw[rmB,List.mem_filter] at hu
 exact⟨hu.1,by simpa using hu.2⟩
theorem vz(l:List BfT)(n:Int):(rmB l n).Sublist l:=List.filter_sublist
theorem SOk.rm(h:SOk S c)(n:Int):SOk {S with pool:=rmB S.pool n} c:=
 ⟨h.bufs,h.pgs,h.ws,h.time,h.ni,h.nt,fun u hu=>h.right u (mf hu).1,h.nodup.sublist ((vz S.pool n).map _),by have:=h.len;have:=(vz S.pool n).length_le;show ((rmB S.pool n).length:Int)<=S.bufs;omega,fun u hu=>h.keys u (mf hu).1,h.recs,h.log,h.lsz,h.fl,fun u hu=>h.cl u (mf hu).1⟩
theorem uo{A:List BfT}(hp:S.pool=A++t::B)(hd:((A++t::B).map BfT.n).Nodup):∃u:BfT,(aM S t).1.pool=A++u::B/\u.n=t.n/\u.blk=t.blk/\u.pg=t.pg:=by
 unfold aM
 split
 unfold bK
 split
 exact⟨t,hp,rfl,rfl,rfl⟩
 dsimp only
 split
 exact⟨clB t,by show de S.pool t.n clB= _;rw[hp,kr hd],rfl,rfl,rfl⟩
 exact⟨t,hp,rfl,rfl,rfl⟩
 exact⟨t,hp,rfl,rfl,rfl⟩
theorem ph(S:StM)(t:BfT):(aM S t).1.rows=S.rows/\(aM S t).1.bufs=S.bufs/\(aM S t).1.time=S.time/\(aM S t).1.recs=S.recs/\(aM S t).1.frm=S.frm:=by
 unfold aM
 split
 unfold bK
 split
 exact⟨rfl,rfl,rfl,rfl,rfl⟩
 exact⟨rfl,rfl,rfl,rfl,rfl⟩
 exact⟨rfl,rfl,rfl,rfl,rfl⟩
theorem wv(h:S.bufs<=(S.pool.length:Int))(h0:(aM S t).2=0):bw S t=({(aM S t).1 with pool:=rmB (aM S t).1.pool t.n},0):=by
 rw[bw,if_pos h,if_neg (by rw[h0];decide)]
theorem wC(h:S.bufs<=(S.pool.length:Int))(h0:(aM S t).2≠0):bw S t=aM S t:=by
 rw[bw,if_pos h,if_pos h0]
theorem yB(h:¬S.bufs<=(S.pool.length:Int)):bw S t=(S,0):=by rw[bw,if_neg h]
theorem SOk.evict(h:SOk S c)(t:BfT)(ht:S.bufs<=(S.pool.length:Int)->t∈S.pool):SOk (bw S t).1 (c+1):=by
 unfold bw
 split
 rename_i hb
 split
 exact h.clean t (ht hb)
 exact(h.clean t (ht hb)).rm t.n
 exact h.mono (by omega)
theorem pt{S:StM}{t:BfT}(hn:∀u∈S.pool,u.n≠n):∀u∈(bw S t).1.pool,u.n≠n:=by
 have hc:∀u∈(aM S t).1.pool,u.n≠n:=by
  unfold aM
  split
  unfold bK
  split
  exact hn
  dsimp only
  split
  intro u hu
  obtain⟨v,hv,rfl|rfl⟩:=mv hu
  exact hn v hv
  exact hn _ hv
  exact hn
  exact hn
 unfold bw
 split
 split
 exact hc
 exact fun u hu=>hc u (mf hu).1
 exact hn
theorem wL(h:SOk S c)(ht:S.bufs<=(S.pool.length:Int)->t∈S.pool)(h0:(bw S t).2=0):((bw S t).1.pool.length:Int)<S.bufs/\(bw S t).1.bufs=S.bufs:=by
 by_cases hb:S.bufs<=(S.pool.length:Int)
 by_cases he:(aM S t).2=0
 rw[wv hb he]
 obtain⟨A,B,hp⟩:=List.append_of_mem (ht hb)
 have hd:((A++t::B).map BfT.n).Nodup:=by rw[<-hp];exact h.nodup
 obtain⟨u,h1,h2,h3,h4⟩:=uo hp hd
 refine⟨?_,(ph S t).2.1⟩
 show ((rmB (aM S t).1.pool t.n).length:Int)<S.bufs
 rw[h1,<-h2,AP (by rw[List.map_append,List.map_cons,h2];rw[List.map_append,List.map_cons] at hd;exact hd)]
 have:=h.len
 rw[hp] at this
 simp only[List.length_append,List.length_cons] at this |-
 omega
 rw[wC hb he] at h0
 exact absurd h0 he
 rw[yB hb]
 exact⟨by show (S.pool.length:Int)<S.bufs;omega,rfl⟩
end
section
open Go.RowKit
section
variable{P:Program}{ops:Array Oper}{L:List Nat}{a0:Act}{w0:World}{bor:List Nat}{X0:List Ent}{us cr kl:List (List Nat)}
 {D:Nat->(Tmp->Value)->(Tmp->Value)->(Nat->Ent)->Prop}{i:Nat}{o:Oper}{ρ:Operand->Value}{β:Tmp->Value}{W:World}{X:Nat->Ent}
theorem JP{r n cnt:Nat}{m:Int->Option (Option Nat)}{x:Operand}{v:Value}{e:Ent}(h:o.op= .extract x 0)(hx:ρ x=v)(hN:BL P k b r n m left cnt v e):(execOp ρ o).run P W= .ok (.value (.bool (nxB v))) W:=by
 rcases hN with ⟨rfl,_⟩|⟨x0,c,rfl,_⟩
 unfold execOp;rw[h];simp[go_sem,hx,nxB]
 unfold execOp;rw[h];simp[go_sem,hx,nxB]
theorem Lj{r n cnt d d1:Nat}{m:Int->Option (Option Nat)}{e:Ent}(h:o.op= .extract (.tmp d1) 0)(hN:BL P k b r n m left cnt (ρ (.tmp d1)) e)(hd:o.dst=some d)(hc:atV cr i=[])(hkl:atV kl i=[])
  (hD:∀(g q:Tmp->Value) (X':Nat->Ent),(g d= .bool (nxB (ρ (.tmp d1))))->(∀t,t≠d->g t=ρ (.tmp t))->D i g q X'):am P o ρ W (bX cr kl D i o.dst ρ β W X):=by
 refine am.value (JP h rfl hN) ⟨[],by rw[hc];rfl,⟨by rw[hkl];exact Upd.refl _ _,(fun e' he'=>by cases he'),List.Pairwise.nil⟩,fun g q X' hs hv hb' hbv hx' hN'=>hD g q X' (hv d hd) (fun t ht=>hs t (by rw[hd];simpa using ht.symm))⟩
end
def nzI(z:Int):Int:=if z=0 then 1 else z
theorem JW(h:z≠0):nzI z=z:=if_neg h
def tE:Value->Int
 | .tuple a=>(match (a.getD 1 undef) with| .int _ z=>z|_=>0)
 |_=>0
def tF:Value->Value
 | .tuple a=>a.getD 0 undef
 |_=>undef
theorem AX(h:(eA (l.map fq)).holds W)(ht:t∈l):Blk W t.blk 120 #[.int .i64 t.pg.p.1,.int .i64 t.pg.p.2.1,.slice t.pg.A t.pg.p.2.2.length t.pg.c,.bool t.dirty,.int .i64 t.used]:=(h.1 (fq t) (List.mem_map.2 ⟨_,ht,rfl⟩)).1
theorem Jt(hd:(l.map BfT.n).Nodup)(hu:u∈l):atM l u.n=some (some u.blk):=by
 obtain⟨A,B,rfl⟩:=List.append_of_mem hu
 exact lw hd
theorem vI{l:List BfT}(h:∀u∈l,u.n≠t.n):cf (atM l) t.n (some (some t.blk))=atM (l++[t]):=by
 funext x
 unfold cf
 rw[atM,atM,List.find?_append]
 by_cases e:x=t.n
 subst e
 rw[if_pos rfl,List.find?_eq_none.2 (fun u hu=>by simpa using h u hu)]
 simp
 rw[if_neg e]
 have:(t.n==x)=false:=by simpa using fun h2=>e h2.symm
 cases l.find? (fun t=>t.n==x) with
 |some v=>rfl
 |none=>simp[this]
theorem J3{A:List BfT}(hd:((A++t::B).map BfT.n).Nodup):cf (atM (A++t::B)) t.n none=atM (A++B):=by
 funext x
 unfold cf
 by_cases e:x=t.n
 subst e
 rw[if_pos rfl]
 symm
 refine kD fun u hu he=>?_
 rw[List.map_append,List.map_cons] at hd
 have h1:=List.nodup_append.1 hd
 rcases List.mem_append.1 hu with h|h
 exact h1.2.2 u.n (List.mem_map.2 ⟨u,h,rfl⟩) t.n (by simp) he
 exact(List.nodup_cons.1 h1.2.1).1 (List.mem_map.2 ⟨u,h,he⟩)
 rw[if_neg e,atM,atM,List.find?_append,List.find?_append,List.find?_cons]
 have:(t.n==x)=false:=by simpa using fun h2=>e h2.symm
 rw[this]
def LdQ(S:StM)(n:Int)(S2:StM)(er:Int)(v:Value):Prop:=LdR S n S2 er/\(er=0->∃t∈S2.pool,t.n=n/\v= .pointer (some ⟨t.blk,0,none⟩))
def j0(sb db:Nat)(S:StM)(n:Int)(fp:List Nat)(w:World)(e:Ending)(w':World):Prop:=∃er v,e= .returned (.tuple #[v,.int .i64 er])/\∃fp',St w fp [eSx sb db (fun S2=>LdQ S n S2 er v) fp'] w'
theorem j0.of{v:Value}(h:LdQ S n S2 er v)(hs:St w fp ([]++[eSt sb db S2 fp']) w'):j0 sb db S n fp w (.returned (.tuple #[v,.int .i64 er])) w':=⟨er,v,rfl,fp',St.sx (L:=[]) hs h⟩
theorem sK(h:rdX s=some p):rdP s=p:=by rw[rdP,h];rfl
theorem sB(h:rdX s=none):rdP s=bu:=by rw[rdP,h];rfl
theorem KG(h:rdX s=some p)(hc:Calls Tryz.prog f args w (ll s w)):Calls Tryz.prog f args w (d9 p.1 p.2.1 p.2.2 0 w):=by
 rw[ll,h] at hc;exact hc
theorem JH(h:rdX s=none)(hc:Calls Tryz.prog f args w (ll s w)):Calls Tryz.prog f args w (iZ w):=by
 rw[ll,h] at hc;exact hc
theorem HI(h:(rdS D n).2=0):(rdS D n).1.size=512:=by
 unfold rdS at h |-
 split at h
 cases h
 rename_i ho
 rw[if_neg ho]
 split at h
 rename_i hn
 rw[if_pos hn];exact(rdT _).2
 cases h
theorem sk(s:ByteArray):bC (rdP s):=by
 rcases h:rdX s with _|p
 rw[sB h];exact xY
 rw[sK h];exact(ks h).1
theorem JD{l:List BfT}(h:1<=(l.length:Int))(hl:∀x,left x=(atM l x).isSome)(hk:∀t∈l,kcI.ok t.n)(h0:∀x:Int,(Lit.int .i64 x).wf=true->left x=false):False:=by
 cases l with
 |nil=>simp at h
 |cons t l=>
  have h1:=h0 t.n (O5 (hk t (by simp)))
  rw[hl,atM,List.find?_cons,show (t.n==t.n)=true by simp] at h1
  cases h1
end
section
open Go.RowKit
theorem oh{l:List BfT}{rows:List PgR}(h:∀t∈l,t.pg∈rows){l2:List BfT}{rows2:List PgR}(hl:∀u∈l2,(∃t∈l,u.pg=t.pg)\/u.pg∈rows2)(hr:∀r∈rows,r∈rows2):∀u∈l2,u.pg∈rows2:=fun u hu=>by
 rcases hl u hu with ⟨t,ht,e⟩|e
 rw[e];exact hr _ (h t ht)
 exact e
theorem Jo{A B:List BfT}{t u:BfT}(he:u.pg=t.pg){rows:List PgR}:∀v∈A++u::B,(∃t'∈A++t::B,v.pg=t'.pg)\/v.pg∈rows:=fun v hv=>by
 rcases List.mem_append.1 hv with h|h
 exact .inl ⟨v,by simp[h],rfl⟩
 rcases List.mem_cons.1 h with rfl|h
 exact .inl ⟨t,by simp,he⟩
 exact .inl ⟨v,by simp[h],rfl⟩
theorem Hm{S0 S1:StM}(hb:S0.bufs<=(S0.pool.length:Int))(hc:aM S0 u=(S1,er))(h0:er=0)(hp:rmB S1.pool u.n=S2.pool)(hS:S2={S1 with pool:=S2.pool}):bw S0 u=(S2,0):=by
 rw[wv hb (by rw[hc];exact h0),hc]
 dsimp only
 rw[hp,<-hS]
theorem sO{S:StM}(h:∀t∈S.pool,t.n≠n)(he:(rdS S.D n).2=0)(hu:S.bufs<=(S.pool.length:Int)->u∈S.pool)(hev:bw (tick S) u=(S2,0))(blk:Nat)(A:Option Addr)(c:Nat){k:Int}(hk:k=S.time+1):
  LdQ S n {S2 with pool:=S2.pool++[⟨n,blk,⟨rdP (rdS S.D n).1,A,c⟩,false,k⟩],rows:=S2.rows++[⟨rdP (rdS S.D n).1,A,c⟩]} 0 (po blk 0):=by
 subst hk
 have h1:=LdR.new (S:=S) (n:=n) u blk A c h he hu
 have e:jW (tick S) n u blk A c=({S2 with pool:=S2.pool++[⟨n,blk,⟨rdP (rdS S.D n).1,A,c⟩,false,S.time+1⟩],rows:=S2.rows++[⟨rdP (rdS S.D n).1,A,c⟩]},0):=by
  rw[jW,hev,if_neg (by simp)];rfl
 rw[e] at h1
 exact⟨h1,fun _=>⟨_,List.mem_append_right _ (List.mem_singleton.2 rfl),rfl,rfl⟩⟩
theorem EO{S:StM}(h:∀t∈S.pool,t.n≠n)(he:(rdS S.D n).2=0)(hb:S.bufs<=(S.pool.length:Int))(hu:u∈S.pool)(hc:(aM (tick S) u).2≠0):LdQ S n (aM (tick S) u).1 (aM (tick S) u).2 (.pointer none):=by
 have h1:=LdR.new (S:=S) (n:=n) u 0 none 0 h he (fun _=>hu)
 have e:jW (tick S) n u 0 none 0=aM (tick S) u:=by
  have e1:bw (tick S) u=aM (tick S) u:=wC hb hc
  rw[jW,e1,if_pos hc]
 rw[e] at h1
 exact⟨h1,fun h0=>absurd h0 hc⟩
theorem mD{b:Int}(h:(a != b)=false):a=b:=by simpa using h
theorem qj{b:Int}(h:(a != b)=true):a≠b:=by simpa using h
theorem lZ{l:List BfT}(h:(l.map BfT.n).Nodup)(hn:∀u∈l,u.n≠t.n):((l++[t]).map BfT.n).Nodup:=by
 rw[List.map_append,List.map_cons,List.map_nil]
 refine List.nodup_append.2 ⟨h,by simp,fun a ha b hb=>?_⟩
 obtain⟨u,hu,rfl⟩:=List.mem_map.1 ha
 rw[List.mem_singleton.1 hb]
 exact hn u hu
theorem J6{A:List BfT}(h:((A++t::B).map BfT.n).Nodup):mzD (atM (A++t::B)) t.n (A++t::B).length=(A++B).length:=by
 rw[mzD,lw h];simp
theorem pu:(bw S t).1.time=S.time:=by
 unfold bw
 split
 split
 exact(ph S t).2.2.1
 exact(ph S t).2.2.1
 rfl
theorem nf(sb db:Nat)(S:StM)(n:Int)(c:Nat)(fp:List Nat)(w:World)(hB:(eSt sb db S fp).holds w)(hlt:∀k∈fp,k<w.heap.size)(hok:SOk S c)(hc:c<=800000000)(hkn:kcI.ok n):
  Calls Tryz.prog 64 #[po sb 0,.int .i64 n] w (j0 sb db S n fp w):=by
 have st1:St w fp [eSt sb db S fp] w:=St.lend hB (dx _ _ _ _) hlt
 go_enter Tryz.func64,Tryz.ntmps64
 have al:=st1
 obtain⟨⟨hrw,hrr⟩,mb,RA,rc,EA,ec,ib,tb,fpd,hv1_⟩:=al.unf
 have hw:∀x∈S.D.pgs,x.ws.length<=1000000000:=fun x hx=>Nat.le_trans (hok.ws x hx) (by omega)
 have hkk:∀t∈S.pool,kcI.ok t.n:=fun t ht=>by have:=hok.keys t ht;have:=hok.pgs;constructor<;>omega
 have htt:=hok.time
 have hbb:=hok.bufs
 have hll:=hok.len
 refine wq (sqr (sqp [.k 4 (.pointer none),.k 5 (vi 0)] ?_))
 refine aa (wq (sqr (sqp [.m 15 0,.k 16 (vp sb),.k 17 (po sb 3)] ?_)))
 refine av 0 hv1_ ?_
 refine sqp [sI 19 (S.time+1) (by omega),.k 20 (vp sb),.k 21 (po sb 3)] ?_
 refine aV (n:=1) 0 #[vp db,vi S.bufs,.map (some mb),vi (S.time+1),.slice RA S.recs.length rc,.slice EA S.recs.length ec,.map (some ib),.map (some tb),vi S.frm] hv1_ fun Bq fi=>?_
 refine aa (wq (wq ?_))
 have htk:=hok.tick
 rcases AH S.pool n with hno|⟨A,t,B,hAB,rfl⟩
 refine sqr (sqp [.m 22 0,.k 23 (vp sb),.k 24 (po sb 2)] ?_)
 refine av 0 fi ?_
 refine sqp [.m 26 1] ?_
 refine sql (.pointer none) fi (fun cx=>(da (e:=115) (C:=ptX) (K:=kcI) (x:=n) rfl (cx.ou 25) (cx.ou 26) (CtxV.mx cx (cx.init 1 _ rfl) rfl) (h0:=by rfl) (hx:=hkn) (hk:=show Program.underlying _ _= _ from by kernel_rfl)).trans (by rw[kD hno];rfl)) ?_
 refine sqp [.m 6 27] ?_
 refine aa (wq (sqr (sqp [.m 28 6] ?_)))
 refine sqv (.bool false) fi (by
   exact sv0 rfl rfl rfl rfl rfl (fun _ _ _ h=>h) fun q d W X cx=>by
    have Ik:q (.tmp 28)= .pointer none:=(cx.ou 28)
    simp[go_sem,cx.sees.const,Ik]) fun Ml kj=>?_
 refine aa (wcf rfl (wp_skip (aa (wq (sqr (sqp [.m 39 0,.k 40 (vp sb),.k 41 (vp sb)] ?_))))))
 refine av 0 kj ?_
 refine sqp [.m 43 1] ?_
 refine sqk (.tuple #[.string ((rdS S.D n).1),vi ((rdS S.D n).2)]) kj (fun cx=>⟨_,wW db S.D n _ (fb (CtxV.holdF cx (cx.init 9 _ rfl) rfl)) hw,(aP (cx.ou 42) (cx.ou 43))⟩) fun w4 fy=>?_
 refine sqp [.m 38 44,.k 45 (.string ((rdS S.D n).1)),.k 46 (vi ((rdS S.D n).2)),.m 7 45,.m 8 46] ?_
 refine aa (wq (wq (sqr (sqp [.m 47 8,.k 48 (.bool (((rdS S.D n).2) != 0))] ?_))))
 refine aa (wbs (fun kF=>?_) fun kF=>?_)
 have py:=bne_iff_ne.1 kF
 refine wq (sqr (sqp [.m 49 8,.k 4 (.pointer none),.m 5 49] ?_))
 refine aa (wp_ret (aj ?_))
 refine bpr (.tuple #[.pointer none,vi ((rdS S.D n).2)]) (aQ Tryz.results64 rpt rpt) ?_
 obtain⟨fp38_,hk38_⟩:=St.stf (S:=(tick S)) (fy) (hrw) (hrr)
 exact j0.of ⟨LdR.bad hno (qj kF),fun h_=>absurd h_ (qj kF)⟩ hk38_
 have py:=bne_eq_false_iff_eq.1 kF
 refine wp_skip (aa ?_)
 refine kC (fun t_ az W=>∃S2:StM,∃u:BfT,∃fp2:List Nat,bw (tick S) u=(S2,0)/\(S.bufs<=(S.pool.length:Int)->u∈S.pool)/\az=⟨(ovr (jv az) [(4,4,2,[]),(3,9,4,[]),(37,50,50,[])] t_).toArray,[]⟩/\St w fp [eSt sb db S2 fp2] W) ?_ ?_
 refine wq (bG [0,1,3,7,15,0,32,96,224,511] [[],[],[],[0],[1],[],[],[],[0]] [.k 50 (vp sb),.k 51 (vp sb),.k 52 (po sb 2),.c 53 (.map (some mb)),.c 54 (vi ((S.pool.length:Int))),.k 55 (vp sb),.k 56 (vp sb),.k 57 (po sb 1),.c 58 (vi S.bufs),.k 59 (.bool (decide (S.bufs<=(S.pool.length:Int))))] [0,1,2,3,4,5,6,7,8,9] [3,4,8] [(50,0,10,60)] fy ?_ fun se dz=>?_)
 refine⟨?_,?_,?_,trivial⟩
 exact xs4 rfl id fun cx=>ae rfl (by kernel_rfl) (cx.an 2) ((cx.bi 0 rfl).cell 2)
 exact xs4 rfl id fun cx=>EX (e:=115) (m:=(atM S.pool)) (K:=kcI) (C:=ptX) rfl rfl rfl rfl (cx.an 3) (CtxV.mx cx (cx.init 1 _ rfl) rfl)
 exact xs4 rfl id fun cx=>ae rfl (by kernel_rfl) (cx.an 7) ((cx.bi 0 rfl).cell 1)
 refine aa (wds (fun lS CJ=>?_) fun lS CJ=>?_)
 refine wq (sqr (sqp [.k 9 (vi (-1))] ?_))
 refine aa (wq (wq (sqr (sqp [.m 60 0,.k 61 (vp sb),.k 62 (po sb 2)] ?_))))
 refine av 0 dz ?_
 refine O7 (fun x_=>pb x_) (fun oG=>vp oG) (fun oG=>eRx Tryz.prog 3 mb oG S.pool.length (atM S.pool) (fun x=>((atM S.pool) x).isSome) S.pool.length none) 1 dz (by
   refine svA fun q d W X cx=>?_
   exact DG (e:=115) rfl (cx.ou 63) cx (cx.init 1 _ rfl) rfl rfl rfl rfl (fun _ _ _ _ _=> .intro)) fun oG LR gr=>?_
 refine aa (wp_block ?_)
 refine aT (fun t_ mz az W=>∃o:Int,∃left:Int->Bool,∃cnt:Nat,∃cur:Option (Int×Option Nat),((o= -1/\∀x,left x=(atM S.pool x).isSome)\/∃u∈S.pool,u.n=o)/\mz=2*cnt/\az=⟨(ovr (jv az) [(9,9,0,[vi o]),(0,10,2,[]),(53,65,24,[])] t_).toArray,[]⟩/\St w fp [eB sb 109 #[vp db,vi S.bufs,.map (some mb),vi (S.time+1),.slice RA S.recs.length rc,.slice EA S.recs.length ec,.map (some ib),.map (some tb),vi S.frm],eRx Tryz.prog 3 mb oG S.pool.length (atM S.pool) (left) cnt cur,eA (List.map fq S.pool),eM (List.map dM S.rows),eO 27 8 (.slice RA S.recs.length rc) S.recs.length (S.recs.flatMap rcC),eO 3 1 (.slice EA S.recs.length ec) S.recs.length ((cy S.L S.recs.length).map (Value.int .i64)),eRc S.rr,eMx kcI ecB Tryz.prog 3 ib S.ni (S.im),eMx kcI ecB Tryz.prog 3 tb S.nt (S.told),eDk db S.D fpd] W) (2*S.pool.length) ?_ ?_
 exact⟨(-1),(fun x=>((atM S.pool) x).isSome),S.pool.length,none,.inl ⟨rfl,fun x=>rfl⟩,rfl,(by kernel_rfl),gr.pk [0,1,2,3,4,5,6,7,8,9]⟩
 rintro TI a48 QF ⟨o,left,cnt,cur,ho,rfl,hj_,CK⟩
 refine ovz hj_ fun RU=>?_
 refine wq (aH [0,1] [[1],[]] [[10]] [[1]] [.a 65,.a 66] (fun ix g d X=>match ix with|0=>BL Tryz.prog 3 mb oG S.pool.length (atM S.pool) (left) cnt (g 65) (X 10)|1=>g 66= .bool (nxB (g 65))|_=>True) [0,2,3,4,5,6,7,8,9,10] [0,1] [(65,0,2,67)] CK ?_ ?_ ?_)
 exact fun ix _ _ _ _ _ _ hs hb hx h=>match ix,h with
 |0,h=>by(try dsimp only at h |-);rw[<-hs 65 rfl,<-hx 10 rfl];exact h
 |1,h=>by(try dsimp only at h |-);rw[<-hs 66 rfl,<-hs 65 rfl];exact h
 |_+2,_=>trivial
 refine⟨?_,?_,trivial⟩
 refine svA fun q d W X cx=>?_
 exact Hd rfl (cx.ou 64) cx (cx.init 1 _ rfl) rfl rfl rfl rfl (fun g F X' hs hb hN=>hN)
 refine svA fun q d W X cx=>?_
 exact Lj (d1:=65) rfl (dTn (cx.an 0)) rfl rfl rfl (fun g F X' hv hs=>by(try dsimp only);rw[hs 65 (by decide)];exact hv)
 intro g d X LS hD ey fr aG
 have hq0_:=dTn (hD 0 lq)
 have hq1_:=dTn (hD 1 lq)
 try dsimp only at hq0_ hq1_
 rcases hq0_ with ⟨ha_,hl49,hb_⟩|⟨kx49,kc49,ha_,hx49,hl49,hm49,hc49,hb_⟩
 rw[ha_] at hq1_
 simp only[exq 10 hb_] at ey
 simp only[ed 65 ha_,ed 66 hq1_,NC] at aG
 clear hD ha_ hq1_ hb_;subst aG;clear g d X
 refine aa (wq (wcf rfl (wp_exit (au (au (bh (aa (wq (wq ?_)))))))))
 rcases ho with ⟨rfl,hl0⟩|⟨u,hu,rfl⟩
 exact(JD (by have h1_:=hok.bufs;have h2_:=of_decide_eq_true lS;omega) hl0 hkk hl49).elim
 have hr51_:=ey.u9.erf
 obtain⟨fp52_,hk52_⟩:=St.stf (S:=(tick S)) (hr51_.u1) (hrw) (hrr)
 obtain⟨A,B,hAB⟩:=List.append_of_mem hu
 have hAB2:(tick S).pool=A++u::B:=hAB
 have hnd:((A++u::B).map BfT.n).Nodup:=by rw[<-hAB];exact hok.nodup
 refine sqr (sqp [.m 89 0,.m 90 9] ?_)
 refine bN (fun X_=>X_.fp) (vi ((aM (tick S) u).2)) (fun I0=>eSt sb db ((aM (tick S) u).1) I0) 0 hk52_ (by
   refine svA fun q d W X cx=>?_
   refine am.call (aq (args:=#[vp sb,vi u.n]) rfl cx.sees rfl (by kernel_rfl) (aP (cx.ou 89) (cx.ou 90))) ?_
   refine(ud sb db (tick S) A B u (c+1) _ _ (CtxV.holdF cx (cx.init 0 _ rfl) rfl) (CtxV.ltF cx (cx.init 0 _ rfl) rfl) htk (by omega) hAB2).mono ?_
   rintro e W1 ⟨rfl,fp4,aU⟩
   refine⟨_,rfl,aN (E:=eSt sb db (tick S) fp52_) [eSt sb db (aM (tick S) u).1 fp4] (cx.init 0 _ rfl) rfl rfl aU (fun g F X' hs hb hv hN=>?_)⟩
   have aK:=(hv 91 rfl).1;have aW:=(hv 91 rfl).2
   exact⟨aK.trans rfl,gW ((List.cons.inj hN).1)⟩) fun I0 Qw rH=>?_
 refine sqp [.m 12 91] ?_
 refine aa (wq (sqr (sqp [.m 92 12,.k 93 (.bool (((aM (tick S) u).2) != 0))] ?_)))
 refine aa (wbs (fun m5=>?_) fun m5=>?_)
 have uT:=bne_iff_ne.1 m5
 refine wq (sqr (sqp [.m 94 12,.k 4 (.pointer none),.m 5 94] ?_))
 refine aa (wp_ret (aj (aj ?_)))
 refine bpr (.tuple #[.pointer none,vi ((aM (tick S) u).2)]) (aQ Tryz.results64 rpt rpt) ?_
 exact j0.of (EO hno (mD kF) (of_decide_eq_true lS) hu (qj m5)) rH
 have uT:=bne_eq_false_iff_eq.1 m5
 refine wp_skip (aa ?_)
 have hc0_:=mD m5
 obtain⟨u2,hu2,hn2,hb2,oA⟩:=uo hAB2 hnd
 obtain⟨S1,hS1⟩:∃z,(aM (tick S) u).1=z:=⟨_,rfl⟩
 rw[hS1] at rH hu2
 obtain⟨⟨hrw1,hrr1⟩,mb1,RA1,rc1,EA1,ec1,ib1,tb1,fpd1,hv64_⟩:=rH.unf
 rw[hu2] at hv64_
 have ho65_:=St.obf (t:=u2) hv64_.u2
 have hnd2:((A++u2::B).map BfT.n).Nodup:=by rw[List.map_append,List.map_cons,hn2];rw[List.map_append,List.map_cons] at hnd;exact hnd
 refine sqr (sqp [.m 95 0,.k 96 (vp sb),.k 97 (po sb 2)] ?_)
 refine av 2 ho65_ ?_
 refine sqp [.m 99 9] ?_
 refine sqc (eMx kcI ptX Tryz.prog 3 mb1 ((mzD (atM (A++u2::B)) u.n ((A++u2::B).length))) (cf (atM (A++u2::B)) u.n none)) 3 ho65_ (by
   refine svA fun q d W X cx=>?_
   exact GW (e:=115) (x:=u.n) rfl rfl rfl rfl (cx.ou 98) (show q _=Kc.enc kcI _ from(cx.ou 99)) cx (cx.init 3 _ rfl) rfl ((hkk u hu)) rfl rfl rfl (fun _ _ _ _ _=>id) (hk:=show Program.underlying _ _= _ from by kernel_rfl)) fun OW nI=>?_
 refine aa ?_
 have hd72_:=nI.u1.c0
 rw[<-hn2,J3 hnd2,show mzD (atM (A++u2::B)) u2.n (A++u2::B).length=(A++B).length from J6 hnd2] at hd72_
 obtain⟨fp73_,hk73_⟩:=St.stf (S:={S1 with pool:=A++B}) (hd72_.u2.u2) (oh hrw1 (fun v hv=> .inl ⟨v,by rw[hu2];rcases List.mem_append.1 hv with h|h<;>simp[h],rfl⟩) (fun r h=>h)) (hrr1)
 exact⟨{S1 with pool:=A++B},u,fp73_,Hm (S1:=S1) (er:=(aM (tick S) u).2) (of_decide_eq_true lS) (Prod.ext hS1 rfl) hc0_ (by rw[hu2,<-hn2,AP hnd2]) rfl,(fun _=>hu),(by kernel_rfl),hk73_.pk [0]⟩
 rw[ha_] at hq1_
 simp only[exq 10 hb_] at ey
 simp only[ed 65 ha_,ed 66 hq1_,NQ] at aG
 clear hD ha_ hq1_ hb_;subst aG;clear g d X
 refine aa (wq (wct rfl (wp_skip (aa (wp_block (wq ?_))))))
 obtain⟨t1,ht1,rfl,rfl⟩:=GS hm49
 refine sqr ?_
 refine sql (.tuple #[vi t1.n,nK (some t1.blk)]) ey (fun cx=>BE rfl (cx.ou 64) (CtxV.holdE cx (cx.init 9 _ rfl) rfl)) ?_
 refine sqp [.k 68 (vi t1.n),.k 69 (nK (some t1.blk)),.m 10 68,.m 11 69] ?_
 refine aa (wq ?_)
 rcases ho with ⟨rfl,hl0⟩|⟨u0,hu0,rfl⟩
 refine Ad [0,1,3,7,15,31,63,7,135,391,903,7,3975,8071,16263,32647,65535,131071] [.k 70 (vi (-1)),.e 71 (.bool (decide ((-1)<0))) (.bool true) (congrArg Value.bool (show (decide ((-1)<0))=true from(by decide))),.k 72 (.bool true),.u 73,.u 74,.u 75,.u 76,.u 77,.u 78,.u 79,.u 80,.u 81,.u 82,.u 83,.u 84,.u 85,.u 86,.k 87 (.bool true)] [(70,0,18,88)] ey fun Ql CC=>?_
 refine aa (wct rfl (sqr (sqp [.m 88 10,.m 9 88] ?_)))
 refine aw (aa ?_)
 refine⟨2*((cnt-1)),by omega,?_⟩
 exact⟨t1.n,(fun y=>(left) y&&y != t1.n),(cnt-1),(some (t1.n,(some t1.blk))),.inr ⟨t1,ht1,rfl⟩,rfl,(by kernel_rfl),CC.pk [0,9,1,2,3,4,5,6,7,8]⟩
 have hk0:=hok.keys u0 hu0
 have hd83:(decide (u0.n<0))=false:=(by simp;omega)
 refine bG [0,1,3,7,15,31,63,7,135,391,903,7,3975,8071,16263,32647,65535,131071] [[],[],[],[],[],[],[1],[],[],[],[0],[],[9],[],[],[1]] [.k 70 (vi u0.n),.e 71 (.bool (decide (u0.n<0))) (.bool false) (congrArg Value.bool hd83),.k 72 (.bool false),.k 73 (po t1.blk 0),.k 74 (po t1.blk 0),.k 75 (po t1.blk 4),.c 76 (vi t1.used),.k 77 (vp sb),.k 78 (vp sb),.k 79 (po sb 2),.c 80 (.map (some mb)),.k 81 (vi u0.n),.c 82 (po u0.blk 0),.k 83 (po u0.blk 0),.k 84 (po u0.blk 4),.c 85 (vi u0.used),.k 86 (.bool (decide (t1.used<u0.used))),.k 87 (.bool (decide (t1.used<u0.used)))] [0,1,2,3,4,5,6,7,8,9] [6,10,12,15] [(70,0,18,88)] ey ?_ fun TJ I1=>?_
 refine⟨?_,?_,?_,?_,trivial⟩
 exact xs5 rfl id (fun cx=>(cx.an 2)) fun cx=>ae rfl (by kernel_rfl) (cx.an 5) (Blk.cell (AX (CtxV.holdF cx (cx.init 1 _ rfl) rfl) ht1) 4)
 exact xs5 rfl id (fun cx=>(cx.an 2)) fun cx=>ae rfl (by kernel_rfl) (cx.an 9) ((cx.bi 0 rfl).cell 2)
 exact xs5 rfl id (fun cx=>(cx.an 2)) fun cx=>(da (e:=115) (C:=ptX) (K:=kcI) (x:=u0.n) rfl (cx.an 10) (cx.an 11) (CtxV.rx cx (cx.init 9 _ rfl) rfl) (h0:=by rfl) (hx:=hkk u0 hu0) (hk:=show Program.underlying _ _= _ from by kernel_rfl)).trans (by rw[Jt hok.nodup hu0];rfl)
 exact xs5 rfl id (fun cx=>(cx.an 2)) fun cx=>ae rfl (by kernel_rfl) (cx.an 14) (Blk.cell (AX (CtxV.holdF cx (cx.init 1 _ rfl) rfl) hu0) 4)
 refine aa (wds (fun zn CL=>?_) fun zn CL=>?_)
 refine sqr (sqp [.m 88 10,.m 9 88] ?_)
 refine aw (aa ?_)
 refine⟨2*((cnt-1)),by omega,?_⟩
 exact⟨t1.n,(fun y=>(left) y&&y != t1.n),(cnt-1),(some (t1.n,(some t1.blk))),.inr ⟨t1,ht1,rfl⟩,rfl,(by kernel_rfl),I1.pk [0,9,1,2,3,4,5,6,7,8]⟩
 refine wp_skip (aw (aa ?_))
 refine⟨2*((cnt-1)),by omega,?_⟩
 exact⟨u0.n,(fun y=>(left) y&&y != t1.n),(cnt-1),(some (t1.n,(some t1.blk))),.inr ⟨u0,hu0,rfl⟩,rfl,(by kernel_rfl),I1.pk [0,9,1,2,3,4,5,6,7,8]⟩
 refine wp_skip (aa ?_)
 obtain⟨fp87_,hk87_⟩:=St.stf (S:=(tick S)) (dz) (hrw) (hrr)
 exact⟨(tick S),bf0,fp87_,yB (S:=tick S) (of_decide_eq_false lS),(fun h_=>absurd h_ (of_decide_eq_false lS)),(by kernel_rfl),hk87_.pk [0]⟩
 rintro a39 pT ⟨S2,u,fp2,hev,hu,hj_,dd⟩
 refine ovz hj_ fun Pa=>?_
 refine wq ?_
 have hok2:SOk S2 (c+2):=by have h_:=htk.evict u hu;rw[hev] at h_;exact h_
 have hlen2:=wL htk hu (by rw[hev])
 rw[hev] at hlen2
 have hno2:∀x∈S2.pool,x.n≠n:=by have h_:=pt (S:=tick S) (t:=u) hno;rw[hev] at h_;exact h_
 have he0:(rdS S.D n).2=0:=mD kF
 have hsz5:=HI he0
 obtain⟨⟨hrw2,hrr2⟩,mb2,RA2,rc2,EA2,ec2,ib2,tb2,fpd2,hv88_⟩:=dd.unf
 rcases bR:rdX (rdS S.D n).1 with _|p
 have hrp:=sB bR
 refine aH [0,1,3,7,7,0,47,127] [[],[],[],[],[],[],[10]] [[],[],[],[],[],[10],[11]] [[],[],[],[],[],[],[10]] [.k 101 (.string ((rdS S.D n).1)),.a 102,.a 100,.c 103 (.agg #[vi 0,vi 0,sn]),.a 104,.a 13,.n,.a 14] (fun ix g d X=>match ix with|0=>True|1=>g 102= .tuple #[.agg #[vi 0,vi 0,sn],vi (nzI (tE (d 102)))]|2=>g 100= .tuple #[.agg #[vi 0,vi 0,sn],vi (nzI (tE (d 102)))]|3=>True|4=>g 104=vi (nzI (tE (d 102)))|5=>g 13=vp (pb (d 13))/\X 10=eB (pb (d 13)) 48 #[vi 0,vi 0,sn]|6=>X 11=eB (pb (d 13)) 48 #[vi 0,vi 0,sn]|7=>g 14=vi (nzI (tE (d 102)))|_=>True) [0,1,2,3,4,5,6,7,8,9,11] [1,2,3,4,5,6,7] [(13,5,3,15),(85,2,1,86),(0,0,2,2),(0,3,2,2)] hv88_ ?_ ?_ ?_
 exact fun ix _ _ _ _ _ _ hs hb hx h=>match ix,h with
 |1,h=>by dsimp only;rw[<-hs 102 rfl,<-hb 102 rfl];exact h
 |2,h=>by dsimp only;rw[<-hs 100 rfl,<-hb 102 rfl];exact h
 |4,h=>by dsimp only;rw[<-hs 104 rfl,<-hb 102 rfl];exact h
 |5,h=>by dsimp only;rw[<-hs 13 rfl,<-hb 13 rfl,<-hx 10 rfl];exact h
 |6,h=>by dsimp only;rw[<-hb 13 rfl,<-hx 11 rfl];exact h
 |7,h=>by dsimp only;rw[<-hs 14 rfl,<-hb 102 rfl];exact h
 |0,_|3,_|_+8,_=>trivial
 refine⟨?_,?_,?_,?_,?_,?_,?_,trivial⟩
 refine svA fun q d W X cx=>?_
 refine am.call (aq (args:=#[.string ((rdS S.D n).1)]) rfl cx.sees rfl (by kernel_rfl) (ax (cx.an 0))) ?_
 refine(JH bR (s6 _ _ hsz5)).mono ?_
 rintro e W1 ⟨er4,hn4,rfl,hx⟩
 refine⟨_,rfl,bL [] rfl rfl hx (by simp) List.Pairwise.nil (fun g F X' hs hb hv hN=>?_)⟩
 have aK:=(hv 102 rfl).1;have aW:=(hv 102 rfl).2
 exact aK.trans (by rw[aW];exact congrArg (fun z=>Value.tuple #[.agg #[vi 0,vi 0,sn],vi z]) (JW hn4).symm)
 exact sv rfl rfl rfl rfl rfl _ (fun _ _ _ h=>h) (fun d F h=>by rw[h 102 (by decide)]) fun q d W X cx=>dn rfl (dTn (cx.an 1))
 exact xs4 rfl id fun cx=>b8 rfl (dTn (cx.an 2)) rfl
 exact sv rfl rfl rfl rfl rfl _ (fun _ _ _ h=>h) (fun d F h=>by rw[h 102 (by decide)]) fun q d W X cx=>b8 rfl (dTn (cx.an 2)) rfl
 refine svA fun q d W X cx=>?_
 exact dp (cs:=#[vi 0,vi 0,sn]) rfl (by kernel_rfl) rfl rfl (fun _ _ _ _ _=> .intro)
 refine svA fun q d W X cx=>?_
 exact bx (n:=3) rfl (dTn (cx.an 5)).1 (cx.an 3) (by kernel_rfl) (by kernel_rfl) (by kernel_rfl) cx (dTn (cx.an 5)).2 rfl (nle rfl) (by kernel_rfl) rfl rfl rfl (fun g F X' hs hb hx=>by rw[hb 13];exact hx)
 exact sv rfl rfl rfl rfl rfl _ (fun _ _ _ h=>h) (fun d F h=>by rw[h 102 (by decide)]) fun q d W X cx=>dm rfl (dTn (cx.an 4))
 intro g d X Mm hD l9 fr aG
 simp only[exq 11 ((dTn (hD 6 lq)))] at l9
 simp only[ed 102 ((dTn (hD 1 lq))),ed 100 ((dTn (hD 2 lq))),ed 104 ((dTn (hD 4 lq))),ed 13 ((dTn (hD 5 lq)).1),ed 14 ((dTn (hD 7 lq)))] at aG
 generalize tE (d 102)=KI,pb (d 13)=QG at l9 aG
 clear hD;subst aG;clear g d X
 refine aa (wq (wq (sqr (sqp [.m 105 14,.k 106 (.bool ((nzI KI) != 0))] ?_))))
 refine aa (wbs (fun Il=>?_) fun Il=>?_)
 have N1:=bne_iff_ne.1 Il
 refine sqr (sqk (.agg #[vi 0,vi 0,sn]) l9 (fun cx=>⟨_,Es 0 _,(ax (cx.co _))⟩) fun QH CM=>?_)
 refine aV (n:=3) 10 #[vi 0,vi 0,sn] CM fun OU uN=>?_
 refine aa (wq ?_)
 have hn95:=St.nilrow uN 9
 simp only[List.cons_append,List.nil_append] at hn95
 have hmz:mzP (atM S2.pool) n S2.pool.length=S2.pool.length+1:=by rw[mzP,kD hno2];rfl
 have hl5:S2.pool.length<1000000:=by have:=hok2.len;have:=hok2.bufs;omega
 refine aH [0,1,3,7,0,0,0,64,192,448,992,2016,4095] [[],[],[],[0],[],[10],[],[],[],[0],[],[],[1]] [[],[],[],[],[],[],[],[],[],[],[],[12],[13]] [[],[],[],[],[],[],[],[],[],[],[],[],[1]] [.k 108 (vp sb),.k 109 (vp sb),.k 110 (po sb 2),.c 111 (.map (some mb2)),.k 112 (vi n),.c 113 (.agg #[vi 0,vi 0,sn]),.k 114 (vp sb),.k 115 (vp sb),.k 116 (po sb 3),.c 117 (vi S2.time),.k 118 (.agg #[vi 0,vi 0,sn,.bool false,vi S2.time]),.a 119,.n] (fun ix g d X=>match ix with|0|1|2|3|4|5|6|7|8|9|10=>True|11=>g 119=vp (pb (d 119))/\X 12=eB (pb (d 119)) 120 #[vi 0,vi 0,sn,.bool false,vi S2.time]|12=>X 13=eMx kcI ptX Tryz.prog 3 mb2 ((mzP (atM S2.pool) n S2.pool.length)) (cf (atM S2.pool) n (some (some (pb (d 119)))))|_=>True) [0,2,3,4,5,6,7,8,9,10,11,12,13] [3,5,9,11,12] [(108,0,12,120)] hn95 ?_ ?_ ?_
 exact fun ix _ _ _ _ _ _ hs hb hx h=>match ix,h with
 |11,h=>by dsimp only;rw[<-hs 119 rfl,<-hb 119 rfl,<-hx 12 rfl];exact h
 |12,h=>by dsimp only;rw[<-hb 119 rfl,<-hx 13 rfl];exact h
 |0,_|1,_|2,_|3,_|4,_|5,_|6,_|7,_|8,_|9,_|10,_|_+13,_=>trivial
 refine⟨?_,?_,?_,?_,?_,trivial⟩
 exact xs4 rfl id fun cx=>ae rfl (by kernel_rfl) (cx.an 2) ((cx.bi 0 rfl).cell 2)
 exact xs4 rfl id fun cx=>cg (n:=3) rfl (by kernel_rfl) (by kernel_rfl) (cx.ou 13) (cx.bi 10 rfl) (nle rfl) rfl
 exact xs4 rfl id fun cx=>ae rfl (by kernel_rfl) (cx.an 8) ((cx.bi 0 rfl).cell 3)
 refine svA fun q d W X cx=>?_
 exact qm (cs:=#[vi 0,vi 0,sn,.bool false,vi S2.time]) rfl (cx.an 10) rfl rfl rfl (fun _ _ _ _ _=> .intro)
 refine svA fun q d W X cx=>?_
 exact gA (e:=115) (v:=(some (pb (d 119)))) (.inl rfl) (cx.an 3) (show q _=Kc.enc kcI n from(cx.an 4)) (show q _=Ec.enc ptX (some (pb (d 119))) from(dTn (cx.an 11)).1) cx (cx.init 1 _ rfl) rfl (trivial) (by omega) (hkn) rfl rfl rfl (fun g F X' hs hb hx=>by rw[hb 119];exact hx) (hk:=show Program.underlying _ _= _ from by kernel_rfl)
 intro g d X TK hD CN fr aG
 simp only[exq 12 ((dTn (hD 11 lq)).2),exq 13 ((dTn (hD 12 lq)))] at CN
 simp only[ed 119 ((dTn (hD 11 lq)).1)] at aG
 generalize pb (d 119)=fL at CN aG
 clear hD;subst aG;clear g d X
 refine aa (wq ?_)
 have hg97_:=St.apf (r:=(⟨bu,none,0⟩:PgR)) CN.u11.u2.u11.u4
 have hj97_:=St.abf (t:=(⟨n,fL,(⟨bu,none,0⟩:PgR),false,S2.time⟩:BfT)) hg97_.u2.u2
 rw[hmz,show cf (atM S2.pool) n (some (some fL))=atM (S2.pool++[(⟨n,fL,(⟨bu,none,0⟩:PgR),false,S2.time⟩:BfT)]) from vI (t:=(⟨n,fL,(⟨bu,none,0⟩:PgR),false,S2.time⟩:BfT)) hno2] at hj97_
 have hnd9:((S2.pool++[(⟨n,fL,(⟨bu,none,0⟩:PgR),false,S2.time⟩:BfT)]).map BfT.n).Nodup:=lZ hok2.nodup hno2
 refine sqr (sqp [.m 120 0,.k 121 (vp sb),.k 122 (po sb 2)] ?_)
 refine av 2 hj97_ ?_
 refine sqp [.m 124 1] ?_
 refine sql (vp fL) hj97_ (fun cx=>(da (e:=115) (C:=ptX) (K:=kcI) (x:=n) rfl (cx.ou 123) (cx.ou 124) (CtxV.mx cx (cx.init 10 _ rfl) rfl) (h0:=by rfl) (hx:=hkn) (hk:=show Program.underlying _ _= _ from by kernel_rfl)).trans (by rw[show atM (S2.pool++[(⟨n,fL,(⟨bu,none,0⟩:PgR),false,S2.time⟩:BfT)]) n=some (some fL) from lw (A:=S2.pool) (B:=[]) hnd9];rfl)) ?_
 refine sqp [.m 4 125,.k 5 (vi 0)] ?_
 refine aa (wp_ret ?_)
 refine bpr (.tuple #[vp fL,vi 0]) (aQ Tryz.results64 rpt rpt) ?_
 obtain⟨fp106_,hk106_⟩:=St.stf (S:={S2 with pool:=S2.pool++[(⟨n,fL,(⟨bu,none,0⟩:PgR),false,S2.time⟩:BfT)],rows:=S2.rows++[(⟨bu,none,0⟩:PgR)]}) (by have h_:=hj97_.u9.c0.u9.u3;rw[show S2.pool.length+1=(S2.pool++[(⟨n,fL,(⟨bu,none,0⟩:PgR),false,S2.time⟩:BfT)]).length by simp] at h_;exact h_) (oh hrw2 (l2:=S2.pool++[(⟨n,fL,(⟨bu,none,0⟩:PgR),false,S2.time⟩:BfT)]) (rows2:=S2.rows++[(⟨bu,none,0⟩:PgR)]) (fun v hv=>(List.mem_append.1 hv).elim (fun h=> .inl ⟨v,h,rfl⟩) (fun h=> .inr (by rw[List.mem_singleton.1 h];simp))) (fun r h=>by simp[h])) (hrr2)
 exact j0.of (by have h_:=sO hno he0 hu hev fL none 0 (k:=S2.time) (by have h5:=pu (S:=tick S) (t:=u);rw[hev] at h5;exact h5);rw[hrp] at h_;exact h_) hk106_
 have N1:=bne_eq_false_iff_eq.1 Il
 refine wp_skip (aa (wq ?_))
 have hn107:=St.nilrow l9 9
 simp only[List.cons_append,List.nil_append] at hn107
 have hmz:mzP (atM S2.pool) n S2.pool.length=S2.pool.length+1:=by rw[mzP,kD hno2];rfl
 have hl5:S2.pool.length<1000000:=by have:=hok2.len;have:=hok2.bufs;omega
 refine aH [0,1,3,7,0,0,0,64,192,448,992,2016,4095] [[],[],[],[0],[],[10],[],[],[],[0],[],[],[1]] [[],[],[],[],[],[],[],[],[],[],[],[12],[13]] [[],[],[],[],[],[],[],[],[],[],[],[],[1]] [.k 108 (vp sb),.k 109 (vp sb),.k 110 (po sb 2),.c 111 (.map (some mb2)),.k 112 (vi n),.c 113 (.agg #[vi 0,vi 0,sn]),.k 114 (vp sb),.k 115 (vp sb),.k 116 (po sb 3),.c 117 (vi S2.time),.k 118 (.agg #[vi 0,vi 0,sn,.bool false,vi S2.time]),.a 119,.n] (fun ix g d X=>match ix with|0|1|2|3|4|5|6|7|8|9|10=>True|11=>g 119=vp (pb (d 119))/\X 12=eB (pb (d 119)) 120 #[vi 0,vi 0,sn,.bool false,vi S2.time]|12=>X 13=eMx kcI ptX Tryz.prog 3 mb2 ((mzP (atM S2.pool) n S2.pool.length)) (cf (atM S2.pool) n (some (some (pb (d 119)))))|_=>True) [0,2,3,4,5,6,7,8,9,10,11,12,13] [3,5,9,11,12] [(108,0,12,120)] hn107 ?_ ?_ ?_
 exact fun ix _ _ _ _ _ _ hs hb hx h=>match ix,h with
 |11,h=>by dsimp only;rw[<-hs 119 rfl,<-hb 119 rfl,<-hx 12 rfl];exact h
 |12,h=>by dsimp only;rw[<-hb 119 rfl,<-hx 13 rfl];exact h
 |0,_|1,_|2,_|3,_|4,_|5,_|6,_|7,_|8,_|9,_|10,_|_+13,_=>trivial
 refine⟨?_,?_,?_,?_,?_,trivial⟩
 exact xs4 rfl id fun cx=>ae rfl (by kernel_rfl) (cx.an 2) ((cx.bi 0 rfl).cell 2)
 exact xs4 rfl id fun cx=>cg (n:=3) rfl (by kernel_rfl) (by kernel_rfl) (cx.ou 13) (cx.bi 10 rfl) (nle rfl) rfl
 exact xs4 rfl id fun cx=>ae rfl (by kernel_rfl) (cx.an 8) ((cx.bi 0 rfl).cell 3)
 refine svA fun q d W X cx=>?_
 exact qm (cs:=#[vi 0,vi 0,sn,.bool false,vi S2.time]) rfl (cx.an 10) rfl rfl rfl (fun _ _ _ _ _=> .intro)
 refine svA fun q d W X cx=>?_
 exact gA (e:=115) (v:=(some (pb (d 119)))) (.inl rfl) (cx.an 3) (show q _=Kc.enc kcI n from(cx.an 4)) (show q _=Ec.enc ptX (some (pb (d 119))) from(dTn (cx.an 11)).1) cx (cx.init 1 _ rfl) rfl (trivial) (by omega) (hkn) rfl rfl rfl (fun g F X' hs hb hx=>by rw[hb 119];exact hx) (hk:=show Program.underlying _ _= _ from by kernel_rfl)
 intro g d X Pu hD oH fr aG
 simp only[exq 12 ((dTn (hD 11 lq)).2),exq 13 ((dTn (hD 12 lq)))] at oH
 simp only[ed 119 ((dTn (hD 11 lq)).1)] at aG
 generalize pb (d 119)=eV at oH aG
 clear hD;subst aG;clear g d X
 refine aa (wq ?_)
 have hg109_:=St.apf (r:=(⟨bu,none,0⟩:PgR)) oH.u11.u2.u11.u4
 have hj109_:=St.abf (t:=(⟨n,eV,(⟨bu,none,0⟩:PgR),false,S2.time⟩:BfT)) hg109_.u2.u2
 rw[hmz,show cf (atM S2.pool) n (some (some eV))=atM (S2.pool++[(⟨n,eV,(⟨bu,none,0⟩:PgR),false,S2.time⟩:BfT)]) from vI (t:=(⟨n,eV,(⟨bu,none,0⟩:PgR),false,S2.time⟩:BfT)) hno2] at hj109_
 have hnd9:((S2.pool++[(⟨n,eV,(⟨bu,none,0⟩:PgR),false,S2.time⟩:BfT)]).map BfT.n).Nodup:=lZ hok2.nodup hno2
 refine sqr (sqp [.m 120 0,.k 121 (vp sb),.k 122 (po sb 2)] ?_)
 refine av 2 hj109_ ?_
 refine sqp [.m 124 1] ?_
 refine sql (vp eV) hj109_ (fun cx=>(da (e:=115) (C:=ptX) (K:=kcI) (x:=n) rfl (cx.ou 123) (cx.ou 124) (CtxV.mx cx (cx.init 10 _ rfl) rfl) (h0:=by rfl) (hx:=hkn) (hk:=show Program.underlying _ _= _ from by kernel_rfl)).trans (by rw[show atM (S2.pool++[(⟨n,eV,(⟨bu,none,0⟩:PgR),false,S2.time⟩:BfT)]) n=some (some eV) from lw (A:=S2.pool) (B:=[]) hnd9];rfl)) ?_
 refine sqp [.m 4 125,.k 5 (vi 0)] ?_
 refine aa (wp_ret ?_)
 refine bpr (.tuple #[vp eV,vi 0]) (aQ Tryz.results64 rpt rpt) ?_
 obtain⟨fp118_,hk118_⟩:=St.stf (S:={S2 with pool:=S2.pool++[(⟨n,eV,(⟨bu,none,0⟩:PgR),false,S2.time⟩:BfT)],rows:=S2.rows++[(⟨bu,none,0⟩:PgR)]}) (by have h_:=hj109_.u9.c0.u9.u3;rw[show S2.pool.length+1=(S2.pool++[(⟨n,eV,(⟨bu,none,0⟩:PgR),false,S2.time⟩:BfT)]).length by simp] at h_;exact h_) (oh hrw2 (l2:=S2.pool++[(⟨n,eV,(⟨bu,none,0⟩:PgR),false,S2.time⟩:BfT)]) (rows2:=S2.rows++[(⟨bu,none,0⟩:PgR)]) (fun v hv=>(List.mem_append.1 hv).elim (fun h=> .inl ⟨v,h,rfl⟩) (fun h=> .inr (by rw[List.mem_singleton.1 h];simp))) (fun r h=>by simp[h])) (hrr2)
 exact j0.of (by have h_:=sO hno he0 hu hev eV none 0 (k:=S2.time) (by have h5:=pu (S:=tick S) (t:=u);rw[hev] at h5;exact h5);rw[hrp] at h_;exact h_) hk118_
 have hrp:=sK bR
 refine sqr (sqp [.m 101 7] ?_)
 refine iC (fun cE cF=> .tuple #[.agg #[vi p.1,vi p.2.1,.slice cE p.2.2.length cF],vi 0]) (fun cE cF=>eO 9 1 (.slice cE p.2.2.length cF) p.2.2.length (p.2.2.map Value.string)) hv88_ (fun cx=>⟨_,(KG bR (s6 _ _ hsz5)).mono (by rintro e W1 ⟨A4,c4,rfl,ho,hx⟩;exact⟨_,_,rfl,St.one hx (cm ho)⟩),(ax (cx.ou 101))⟩) fun cE cF Pv uU=>?_
 refine sqp [.m 100 102,.k 103 (.agg #[vi p.1,vi p.2.1,.slice cE p.2.2.length cF]),.k 104 (vi 0)] ?_
 refine bY #[vi 0,vi 0,sn] uU fun P8 Pw uV=>?_
 refine aV (n:=3) 11 #[vi p.1,vi p.2.1,.slice cE p.2.2.length cF] uV fun RV Mn=>?_
 refine sqp [.m 14 104] ?_
 refine aa (wq (wq (sqr (sqp [.m 105 14,.k 106 (.bool false)] ?_))))
 refine aa (wcf rfl (wp_skip (aa (wq ?_))))
 have hmz:mzP (atM S2.pool) n S2.pool.length=S2.pool.length+1:=by rw[mzP,kD hno2];rfl
 have hl5:S2.pool.length<1000000:=by have:=hok2.len;have:=hok2.bufs;omega
 refine aH [0,1,3,7,0,0,0,64,192,448,992,2016,4095] [[],[],[],[0],[],[11],[],[],[],[0],[],[],[1]] [[],[],[],[],[],[],[],[],[],[],[],[12],[13]] [[],[],[],[],[],[],[],[],[],[],[],[],[1]] [.k 108 (vp sb),.k 109 (vp sb),.k 110 (po sb 2),.c 111 (.map (some mb2)),.k 112 (vi n),.c 113 (.agg #[vi p.1,vi p.2.1,.slice cE p.2.2.length cF]),.k 114 (vp sb),.k 115 (vp sb),.k 116 (po sb 3),.c 117 (vi S2.time),.k 118 (.agg #[vi p.1,vi p.2.1,.slice cE p.2.2.length cF,.bool false,vi S2.time]),.a 119,.n] (fun ix g d X=>match ix with|0|1|2|3|4|5|6|7|8|9|10=>True|11=>g 119=vp (pb (d 119))/\X 12=eB (pb (d 119)) 120 #[vi p.1,vi p.2.1,.slice cE p.2.2.length cF,.bool false,vi S2.time]|12=>X 13=eMx kcI ptX Tryz.prog 3 mb2 ((mzP (atM S2.pool) n S2.pool.length)) (cf (atM S2.pool) n (some (some (pb (d 119)))))|_=>True) [0,2,3,4,5,6,7,8,9,10,11,12,13] [3,5,9,11,12] [(108,0,12,120)] Mn ?_ ?_ ?_
 exact fun ix _ _ _ _ _ _ hs hb hx h=>match ix,h with
 |11,h=>by dsimp only;rw[<-hs 119 rfl,<-hb 119 rfl,<-hx 12 rfl];exact h
 |12,h=>by dsimp only;rw[<-hb 119 rfl,<-hx 13 rfl];exact h
 |0,_|1,_|2,_|3,_|4,_|5,_|6,_|7,_|8,_|9,_|10,_|_+13,_=>trivial
 refine⟨?_,?_,?_,?_,?_,trivial⟩
 exact xs4 rfl id fun cx=>ae rfl (by kernel_rfl) (cx.an 2) ((cx.bi 0 rfl).cell 2)
 exact xs4 rfl id fun cx=>cg (n:=3) rfl (by kernel_rfl) (by kernel_rfl) (cx.ou 13) (cx.bi 11 rfl) (nle rfl) rfl
 exact xs4 rfl id fun cx=>ae rfl (by kernel_rfl) (cx.an 8) ((cx.bi 0 rfl).cell 3)
 refine svA fun q d W X cx=>?_
 exact qm (cs:=#[vi p.1,vi p.2.1,.slice cE p.2.2.length cF,.bool false,vi S2.time]) rfl (cx.an 10) rfl rfl rfl (fun _ _ _ _ _=> .intro)
 refine svA fun q d W X cx=>?_
 exact gA (e:=115) (v:=(some (pb (d 119)))) (.inl rfl) (cx.an 3) (show q _=Kc.enc kcI n from(cx.an 4)) (show q _=Ec.enc ptX (some (pb (d 119))) from(dTn (cx.an 11)).1) cx (cx.init 1 _ rfl) rfl (trivial) (by omega) (hkn) rfl rfl rfl (fun g F X' hs hb hx=>by rw[hb 119];exact hx) (hk:=show Program.underlying _ _= _ from by kernel_rfl)
 intro g d X RW hD zo fr aG
 simp only[exq 12 ((dTn (hD 11 lq)).2),exq 13 ((dTn (hD 12 lq)))] at zo
 simp only[ed 119 ((dTn (hD 11 lq)).1)] at aG
 generalize pb (d 119)=eW at zo aG
 clear hD;subst aG;clear g d X
 refine aa (wq ?_)
 have hg130_:=St.apf (r:=(⟨p,cE,cF⟩:PgR)) zo.u11.u2.u10.u4
 have hj130_:=St.abf (t:=(⟨n,eW,(⟨p,cE,cF⟩:PgR),false,S2.time⟩:BfT)) hg130_.u2.u2
 rw[hmz,show cf (atM S2.pool) n (some (some eW))=atM (S2.pool++[(⟨n,eW,(⟨p,cE,cF⟩:PgR),false,S2.time⟩:BfT)]) from vI (t:=(⟨n,eW,(⟨p,cE,cF⟩:PgR),false,S2.time⟩:BfT)) hno2] at hj130_
 have hnd9:((S2.pool++[(⟨n,eW,(⟨p,cE,cF⟩:PgR),false,S2.time⟩:BfT)]).map BfT.n).Nodup:=lZ hok2.nodup hno2
 refine sqr (sqp [.m 120 0,.k 121 (vp sb),.k 122 (po sb 2)] ?_)
 refine av 2 hj130_ ?_
 refine sqp [.m 124 1] ?_
 refine sql (vp eW) hj130_ (fun cx=>(da (e:=115) (C:=ptX) (K:=kcI) (x:=n) rfl (cx.ou 123) (cx.ou 124) (CtxV.mx cx (cx.init 10 _ rfl) rfl) (h0:=by rfl) (hx:=hkn) (hk:=show Program.underlying _ _= _ from by kernel_rfl)).trans (by rw[show atM (S2.pool++[(⟨n,eW,(⟨p,cE,cF⟩:PgR),false,S2.time⟩:BfT)]) n=some (some eW) from lw (A:=S2.pool) (B:=[]) hnd9];rfl)) ?_
 refine sqp [.m 4 125,.k 5 (vi 0)] ?_
 refine aa (wp_ret ?_)
 refine bpr (.tuple #[vp eW,vi 0]) (aQ Tryz.results64 rpt rpt) ?_
 obtain⟨fp139_,hk139_⟩:=St.stf (S:={S2 with pool:=S2.pool++[(⟨n,eW,(⟨p,cE,cF⟩:PgR),false,S2.time⟩:BfT)],rows:=S2.rows++[(⟨p,cE,cF⟩:PgR)]}) (by have h_:=hj130_.u9.c0.u9.u3;rw[show S2.pool.length+1=(S2.pool++[(⟨n,eW,(⟨p,cE,cF⟩:PgR),false,S2.time⟩:BfT)]).length by simp] at h_;exact h_) (oh hrw2 (l2:=S2.pool++[(⟨n,eW,(⟨p,cE,cF⟩:PgR),false,S2.time⟩:BfT)]) (rows2:=S2.rows++[(⟨p,cE,cF⟩:PgR)]) (fun v hv=>(List.mem_append.1 hv).elim (fun h=> .inl ⟨v,h,rfl⟩) (fun h=> .inr (by rw[List.mem_singleton.1 h];simp))) (fun r h=>by simp[h])) (hrr2)
 exact j0.of (by have h_:=sO hno he0 hu hev eW cE cF (k:=S2.time) (by have h5:=pu (S:=tick S) (t:=u);rw[hev] at h5;exact h5);rw[hrp] at h_;exact h_) hk139_
 rw[hAB] at fi
 have ho140_:=St.obf (t:=t) fi.u2
 have htm:t∈S.pool:=by rw[hAB];simp
 have hnd:((A++t::B).map BfT.n).Nodup:=by rw[<-hAB];exact hok.nodup
 refine sqr (sqp [.m 22 0,.k 23 (vp sb),.k 24 (po sb 2)] ?_)
 refine av 2 ho140_ ?_
 refine sqp [.m 26 1] ?_
 refine sql (po t.blk 0) ho140_ (fun cx=>(da (e:=115) (C:=ptX) (K:=kcI) (x:=t.n) rfl (cx.ou 25) (cx.ou 26) (CtxV.mx cx (cx.init 3 _ rfl) rfl) (h0:=by rfl) (hx:=hkn) (hk:=show Program.underlying _ _= _ from by kernel_rfl)).trans (by rw[lw hnd];rfl)) ?_
 refine sqp [.m 6 27] ?_
 refine aa (wq (sqr (sqp [.m 28 6] ?_)))
 refine sqv (.bool true) ho140_ (by
   exact sv0 rfl rfl rfl rfl rfl (fun _ _ _ h=>h) fun q d W X cx=>by
    have Ik:q (.tmp 28)=po t.blk 0:=(cx.ou 28)
    simp[go_sem,cx.sees.const,Ik]) fun RX Fu=>?_
 refine aa (wct rfl (wq (sqr (sqp [.m 30 6,.m 31 0,.k 32 (vp sb),.k 33 (po sb 3)] ?_))))
 refine av 2 Fu ?_
 refine sqp [.k 35 (po t.blk 0),.k 36 (po t.blk 4)] ?_
 refine aV (n:=1) 1 #[vi t.pg.p.1,vi t.pg.p.2.1,.slice t.pg.A t.pg.p.2.2.length t.pg.c,.bool t.dirty,vi (S.time+1)] Fu fun RY Mo=>?_
 refine aa (wq (sqr (sqp [.m 37 6,.m 4 37,.k 5 (vi 0)] ?_)))
 refine aa (wp_ret (aj ?_))
 refine bpr (.tuple #[po t.blk 0,vi 0]) (aQ Tryz.results64 rpt rpt) ?_
 have hi161_:=St.ibf (t:=(lM (S.time+1) t)) Mo
 obtain⟨fp162_,hk162_⟩:=St.stf (S:={tick S with pool:=A++lM (S.time+1) t::B}) (by have h_:=hi161_.u2.u2;rw[<-og (A:=A) (B:=B) (t:=t) (u:=lM (S.time+1) t) rfl rfl,show (A++t::B).length=(A++lM (S.time+1) t::B).length by simp] at h_;exact h_) (oh hrw (by rw[hAB];exact Jo (t:=t) (u:=lM (S.time+1) t) rfl) (fun r h=>h)) (hrr)
 exact j0.of ⟨by have h_:=LdR.hit (S:=S) t htm rfl;rw[hAB,kr hnd] at h_;exact h_,fun _=>⟨lM (S.time+1) t,by show _∈A++lM (S.time+1) t::B;simp,rfl,rfl⟩⟩ hk162_
end
section
open Go.RowKit
theorem vw(h:(rdS D n).2=0):0<=n/\n<(D.pgs.length:Int):=by
 unfold rdS at h
 split at h
 cases h
 split at h
 assumption
 cases h
theorem Da(S:StM)(t:BfT):(bw S t).1.D.pgs.length=S.D.pgs.length:=by
 have hw:∀S:StM,(bK S t).1.D.pgs.length=S.D.pgs.length:=fun S=>by
  have h1:(wrD0 S t).1.pgs.length=S.D.pgs.length:=by
   unfold wrD0
   split
   rw[sM]
   rfl
  unfold bK
  split
  exact h1
  exact((DOk.write _ t.n _).pgs).trans h1
 have hc:(aM S t).1.D.pgs.length=S.D.pgs.length:=by
  unfold aM
  split
  exact hw S
  rfl
 unfold bw
 split
 split
 exact hc
 exact hc
 rfl
theorem Cd(S:StM)(t:BfT):(bw S t).1.rows=S.rows/\(bw S t).1.recs=S.recs/\(bw S t).1.frm=S.frm/\(bw S t).1.im=S.im/\(bw S t).1.told=S.told:=by
 have hc:(aM S t).1.rows=S.rows/\(aM S t).1.recs=S.recs/\(aM S t).1.frm=S.frm/\(aM S t).1.im=S.im/\(aM S t).1.told=S.told:=by
  unfold aM
  split
  unfold bK
  split<;>exact⟨rfl,rfl,rfl,rfl,rfl⟩
  exact⟨rfl,rfl,rfl,rfl,rfl⟩
 unfold bw
 split
 split
 exact hc
 exact hc
 exact⟨rfl,rfl,rfl,rfl,rfl⟩
theorem Eg(h:(rdS D n).2=0):(rdS D n).1=(rdT (D.pgs.getD n.toNat gB)).1:=by
 unfold rdS at h |-
 split at h
 cases h
 rename_i ho
 rw[if_neg ho]
 split at h
 rename_i hn;rw[if_pos hn]
 cases h
theorem Gp{S:StM}(h:SOk S c)(ht:S.bufs<=(S.pool.length:Int)->t∈S.pool){m:Int}(hm:0<=m)(hn:∀u∈S.pool,u.n≠m):shP (bw S t).1.D m=shP S.D m:=by
 unfold bw
 split
 rename_i hb
 have hr:=h.right t (ht hb)
 have hc:shP (aM S t).1.D m=shP S.D m:=by
  unfold aM
  split
  rcases xT (S:=S) hr hm with h1|⟨h1,_⟩
  exact h1
  exact absurd h1.symm (hn t (ht hb))
  rfl
 split
 exact hc
 exact hc
 rfl
theorem SOk.load(h:SOk S c)(hl:LdR S n S' er):SOk S' (c+3):=by
 cases hl with
 |hit t ht hn=>exact(h.tick.setp (f:=lM (S.time+1)) (fun _=>rfl) (fun t ht=>h.right t ht) (fun t ht _ hd=>h.cl t ht hd)).mono (by omega)
 |bad h1 h2=>exact h.tick.mono (by omega)
 |new t blk A cc h1 h2 h3=>
  have he:=(h.tick.evict t h3)
  unfold jW
  split
  exact he.mono (by omega)
  rename_i h4
  have h4:(bw (Go.Proofs.YtcdjaepgahbhfaaGreat.tick S) t).2=0:=by simpa using h4
  have hlen:=wL h.tick h3 h4
  have hr:=vw h2
  have hp:(bw (Go.Proofs.YtcdjaepgahbhfaaGreat.tick S) t).1.D.pgs.length=S.D.pgs.length:=Da _ _
  have he2:=he.mono (show c+1+1<=c+3 by omega)
  refine⟨he2.bufs,he2.pgs,he2.ws,he2.time,he2.ni,he2.nt,fun u hu=>?_,lZ he2.nodup (pt (S:=Go.Proofs.YtcdjaepgahbhfaaGreat.tick S) h1),?_,fun u hu=>?_,he2.recs,he2.log,he2.lsz,he2.fl,fun u hu hd=>?_⟩
  rcases List.mem_append.1 hu with hu|hu
  exact he2.right u hu
  rw[List.mem_singleton.1 hu];exact sk _
  show (((bw (Go.Proofs.YtcdjaepgahbhfaaGreat.tick S) t).1.pool++[_]).length:Int)<=(bw (Go.Proofs.YtcdjaepgahbhfaaGreat.tick S) t).1.bufs
  rw[List.length_append,List.length_singleton]
  omega
  rcases List.mem_append.1 hu with hu|hu
  exact he2.keys u hu
  rw[List.mem_singleton.1 hu]
  show 0<=n/\n<((bw (Go.Proofs.YtcdjaepgahbhfaaGreat.tick S) t).1.D.pgs.length:Int)
  rw[hp];exact hr
  rcases List.mem_append.1 hu with hu|hu
  exact he2.cl u hu hd
  rw[List.mem_singleton.1 hu]
  show rdP (rdS S.D n).1=shP (bw (Go.Proofs.YtcdjaepgahbhfaaGreat.tick S) t).1.D n
  rw[Gp h.tick h3 hr.1 h1,Eg h2];rfl
theorem LdR.rows{S:StM}(hl:LdR S n S' er):(∀r∈S.rows,r∈S'.rows)/\S'.recs=S.recs/\S'.frm=S.frm/\S'.im=S.im/\S'.told=S.told:=by
 cases hl with
 |hit t ht hn=>exact⟨fun r h=>h,rfl,rfl,rfl,rfl⟩
 |bad h1 h2=>exact⟨fun r h=>h,rfl,rfl,rfl,rfl⟩
 |new t blk A cc h1 h2 h3=>
  have he:=Cd (tick S) t
  unfold jW
  split
  exact⟨fun r h=>by rw[he.1];exact h,he.2⟩
  exact⟨fun r h=>List.mem_append_left _ (by rw[he.1];exact h),he.2⟩
def gz(pg:PgR)(t:BfT):BfT:={t with pg:=pg,dirty:=true}
def dY(S:StM)(n:Int)(pg:PgR)(S':StM)(er:Int):Prop:=∃S1,LdR S n S1 er/\((er≠0/\S'=S1)\/(er=0/\(∃t∈S1.pool,t.n=n)/\S'={S1 with pool:=de S1.pool n (gz pg)}))
theorem SOk.put(h:SOk S c)(hr:bC pg.p)(hp:dY S n pg S' er):SOk S' (c+3):=by
 obtain⟨S1,h1,⟨_,rfl⟩|⟨_,_,rfl⟩⟩:=hp
 exact h.load h1
 exact(h.load h1).setp (fun _=>rfl) (fun _ _=>hr) (fun _ _ _ hd=>by cases hd)
def qe(sb db:Nat)(S:StM)(n:Int)(pg:PgR)(fp:List Nat)(w:World)(e:Ending)(w':World):Prop:=∃er,e= .returned (.int .i64 er)/\∃fp',St w fp [eSx sb db (fun S2=>dY S n pg S2 er) fp'] w'
theorem qe.of(h:dY S n pg S2 er)(hs:St w fp ([]++[eSt sb db S2 fp']) w'):qe sb db S n pg fp w (.returned (.int .i64 er)) w':=⟨er,rfl,fp',St.sx (L:=[]) hs h⟩
theorem sw(sb db:Nat)(S:StM)(n:Int)(pg:PgR)(c:Nat)(fp:List Nat)(w:World)(hB:(eSt sb db S fp).holds w)(hlt:∀k∈fp,k<w.heap.size)(hok:SOk S c)(hc:c<=800000000)(hkn:kcI.ok n)(hpg:pg∈S.rows):
  Calls Tryz.prog 58 #[po sb 0,.int .i64 n,.agg #[.int .i64 pg.p.1,.int .i64 pg.p.2.1,.slice pg.A pg.p.2.2.length pg.c]] w (qe sb db S n pg fp w):=by
 have st1:St w fp [eSt sb db S fp] w:=St.lend hB (dx _ _ _ _) hlt
 go_enter Tryz.func58,Tryz.ntmps58
 have al:=st1
 refine wq (sqr ?_)
 refine ce #[vi pg.p.1,vi pg.p.2.1,.slice pg.A pg.p.2.2.length pg.c] al fun tf W1 aA=>?_
 refine sqp [.k 6 (vi 0)] ?_
 refine aa (wq (sqr (sqp [.m 10 0,.m 11 1] ?_)))
 refine xf (fun x_=>tE x_) (fun x_=>tF x_) (fun X_=>X_.fp) (fun er12_5 vp12_5=> .tuple #[vp12_5,vi er12_5]) (fun er12_5 vp12_5 qP=>eSx sb db (fun S2=>LdQ S n S2 er12_5 vp12_5) qP) 0 aA (by
   refine svA fun g q W X cx=>?_
   refine am.call (aq (args:=#[vp sb,vi n]) rfl cx.sees rfl (by kernel_rfl) (aP (cx.ou 10) (cx.ou 11))) ?_
   refine(nf sb db S n c _ _ (CtxV.holdF cx (cx.init 0 _ rfl) rfl) (CtxV.ltF cx (cx.init 0 _ rfl) rfl) hok hc hkn).mono ?_
   rintro e W1 ⟨er4,vp4,rfl,fp4,aU⟩
   refine⟨_,rfl,aN (E:=eSt sb db S fp) [eSx sb db (fun S2=>LdQ S n S2 er4 vp4) fp4] (cx.init 0 _ rfl) rfl rfl aU (fun d o X' hs hb hv hN=>?_)⟩
   have aK:=(hv 12 rfl).1;have aW:=(hv 12 rfl).2
   exact⟨aK.trans (by rw[aW];exact rfl),(by rw[aW];exact fN ((List.cons.inj hN).1))⟩) fun er12_5 vp12_5 qP W5 aR=>?_
 refine sqp [.m 9 12,.k 13 (vp12_5),.k 14 (vi er12_5),.m 7 13,.m 8 14] ?_
 refine aa (wq (wq ?_))
 obtain⟨S1,hL,hy11_⟩:=aR.unx
 have hok1:=hok.load hL.1
 refine sqr (sqp [.m 15 8,.k 16 (.bool (er12_5==0))] ?_)
 refine aa (wbs (fun gN=>?_) fun gN=>?_)
 have pC:=beq_iff_eq.1 gN
 obtain⟨t,htm_t,rfl,rfl⟩:=hL.2 (by simpa using gN)
 obtain⟨⟨hrw1,hrr1⟩,mb1,RA1,rc1,EA1,ec1,ib1,tb1,fpd1,hv15_⟩:=hy11_.unf
 obtain⟨A,B,hAB⟩:=List.append_of_mem htm_t
 have hnd:((A++t::B).map BfT.n).Nodup:=by rw[<-hAB];exact hok1.nodup
 rw[hAB] at hv15_
 have ho16_:=St.obf (t:=t) hv15_.u2
 refine sqr (sqp [.m 17 7,.m 18 7] ?_)
 refine bE 11 3 ho16_ ?_
 refine sqp [.k 20 (po t.blk 0),.k 21 (po t.blk 0)] ?_
 refine aV (n:=3) 1 #[vi pg.p.1,vi pg.p.2.1,.slice pg.A pg.p.2.2.length pg.c,.bool t.dirty,vi t.used] ho16_ fun w3 dH=>?_
 refine sqp [.k 22 (po t.blk 0),.k 23 (po t.blk 3)] ?_
 refine aV (n:=1) 1 #[vi pg.p.1,vi pg.p.2.1,.slice pg.A pg.p.2.2.length pg.c,.bool true,vi t.used] dH fun sd cM=>?_
 refine aa (wq (sqr (sqp [.m 24 8,.m 6 24] ?_)))
 refine aa (wp_ret ?_)
 refine bpr (vi er12_5) (ai Tryz.results58 rpt) ?_
 have hi28_:=St.ibf (t:=(gz pg t)) cM
 obtain⟨fp29_,hk29_⟩:=St.stf (S:={S1 with pool:=A++gz pg t::B}) (by have h_:=hi28_.u10.c0.u2.u2;rw[<-og (A:=A) (B:=B) (t:=t) (u:=gz pg t) rfl rfl,show (A++t::B).length=(A++gz pg t::B).length by simp] at h_;exact h_) (fun u hu=>(List.mem_append.1 hu).elim (fun h=>hrw1 u (by rw[hAB];simp[h])) fun h=>(List.mem_cons.1 h).elim (fun h=>by rw[h];exact hL.1.rows.1 pg hpg) fun h=>hrw1 u (by rw[hAB];simp[h])) (hrr1)
 exact qe.of ⟨S1,hL.1,.inr ⟨by simpa using gN,⟨t,htm_t,rfl⟩,by rw[hAB,kr hnd]⟩⟩ hk29_
 have pC:=beq_eq_false_iff_ne.1 gN
 refine wp_skip (aa (wq (sqr (sqp [.m 24 8,.m 6 24] ?_))))
 refine aa (wp_ret ?_)
 refine bpr (vi er12_5) (ai Tryz.results58 rpt) ?_
 exact qe.of ⟨S1,hL.1,.inl ⟨by simpa using gN,rfl⟩⟩ (hy11_.pick [0] (by decide) rfl)
end
section
open Go.RowKit
theorem GQ(hd:(l.map BfT.n).Nodup)(ht:t∈l):l.find? (fun u=>u.n==t.n)=some t:=by
 obtain⟨A,B,rfl⟩:=List.append_of_mem ht
 rw[List.map_append,List.map_cons] at hd
 have h1:A.find? (fun u=>u.n==t.n)=none:=by
  rw[List.find?_eq_none]
  intro u hu hc
  exact(List.nodup_append.1 hd).2.2 u.n (List.mem_map.2 ⟨u,hu,rfl⟩) t.n (by simp) (by simpa using hc)
 rw[List.find?_append,h1]
 simp
theorem dB(hd:(S.pool.map BfT.n).Nodup)(ht:t∈S.pool):aD S t.n=t.pg.p:=by
 rw[aD,GQ hd ht]
theorem iy{S:StM}{m:Int}(h:∀t∈S.pool,t.n≠m):aD S m=shP S.D m:=by
 rw[aD,List.find?_eq_none.2 (fun t ht=>by simpa using h t ht)]
theorem s5(L:List RecM){a:Nat}(h:a<=b):flN L a<=flN L b:=by
 unfold flN
 refine List.countP_mono_left fun x _ hx=>?_
 simp only[decide_eq_true_eq] at hx |-
 omega
theorem HX(L:List RecM){fl:Nat}(h:szF L<=fl):flN L fl=L.length:=by
 unfold flN
 rw[List.countP_eq_length.2,ku]
 intro x hx
 obtain⟨i,hi,rfl⟩:=List.mem_map.1 hx
 have h1:=yl L (i:=i+1) (j:=L.length) (by have:=List.mem_range.1 hi;omega)
 rw[List.take_length] at h1
 simp only[decide_eq_true_eq]
 omega
structure Ev (S S':StM):Prop where
 bufs:S'.bufs=S.bufs
 recs:S'.recs=S.recs
 frm:S'.frm=S.frm
 im:S'.im=S.im
 told:S'.told=S.told
 rows:∀r∈S.rows,r∈S'.rows
 log:S'.D.log=S.D.log
 len:S'.D.pgs.length=S.D.pgs.length
 fl:S'.D.fl=S.D.fl\/S'.D.fl=S.D.log.size
 armed:S'.D.armed=S.D.armed
 off:S.D.off=true->S'.D.off=true
 noarm:S.D.armed=false->S'.D.off=S.D.off
 pgs:∀(j:Nat) x y,S.D.pgs[j]? =some x->S'.D.pgs[j]? =some y->y.safe=x.safe/\∃zs,y.ws=x.ws++zs/\∀z∈zs,z.1=aE (aD S (j:Int))/\((aD S (j:Int)).2.1<=(S'.F:Int)\/S'.D.fl=S'.D.log.size)
 cur:∀m:Int,0<=m->aD S' m=aD S m
theorem Ev.refl(S:StM):Ev S S:=⟨rfl,rfl,rfl,rfl,rfl,fun r h=>h,rfl,rfl,.inl rfl,rfl,id,fun _=>rfl,fun j x y hx hy=>by rw[hx] at hy;cases hy;exact⟨rfl,[],by simp,fun z hz=>by cases hz⟩,fun m _=>rfl⟩
theorem Ev.flm(h:Ev S S')(hf:S.D.fl<=S.D.log.size):S.D.fl<=S'.D.fl:=by
 rcases h.fl with e|e<;>omega
theorem Ev.Fm(h:Ev S S')(hf:S.D.fl<=S.D.log.size):S.F<=S'.F:=by
 have e:S'.L=S.L:=by rw[StM.L,h.recs]
 rw[StM.F,StM.F,e]
 exact s5 _ (h.flm hf)
theorem Ev.trans{A B C:StM}(h:Ev A B)(g:Ev B C)(hf:A.D.fl<=A.D.log.size):Ev A C:=by
 have hfB:B.D.fl<=B.D.log.size:=by rw[h.log];rcases h.fl with e|e<;>omega
 refine⟨g.bufs.trans h.bufs,g.recs.trans h.recs,g.frm.trans h.frm,g.im.trans h.im,g.told.trans h.told,fun r hr=>g.rows r (h.rows r hr),g.log.trans h.log,g.len.trans h.len,?_,g.armed.trans h.armed,fun ho=>g.off (h.off ho),fun ha=>(g.noarm (h.armed.trans ha)).trans (h.noarm ha),fun j x y hx hy=>?_,fun m hm=>(g.cur m hm).trans (h.cur m hm)⟩
 rcases g.fl with e|e
 rw[e];exact h.fl
 exact .inr (e.trans (by rw[h.log]))
 obtain⟨z,hz⟩:∃z,B.D.pgs[j]? =some z:=⟨_,List.getElem?_eq_getElem (by rw[h.len];exact(List.getElem?_eq_some_iff.1 hx).1)⟩
 obtain⟨h1,zs,h2,h3⟩:=h.pgs j x z hx hz
 obtain⟨g1,ys,g2,g3⟩:=g.pgs j z y hz hy
 have hFm:=g.Fm hfB
 refine⟨g1.trans h1,zs++ys,by rw[g2,h2,List.append_assoc],fun v hv=>?_⟩
 rcases List.mem_append.1 hv with hv|hv
 obtain⟨a,b⟩:=h3 v hv
 refine⟨a,b.imp (fun b=>by omega) fun b=>?_⟩
 rcases g.fl with e|e
 rw[e,b,g.log]
 rw[e,g.log]
 obtain⟨a,b⟩:=g3 v hv
 rw[h.cur (j:Int) (by omega)] at a b
 exact⟨a,b⟩
theorem kx(D:DkM):(D.off=true/\opD D 0 flD=(D,24))\/(D.off=false/\D.armed=true/\opD D 0 flD=({D with off:=true},24))\/(D.off=false/\opD D 0 flD=(flD {D with left:=cX D.left},0)):=by
 unfold opD
 split
 rename_i h;exact .inl ⟨h,rfl⟩
 rename_i h
 rw[if_neg (by decide)]
 split
 rename_i h2;exact .inr (.inl ⟨by simpa using h,h2.1,rfl⟩)
 exact .inr (.inr ⟨by simpa using h,rfl⟩)
theorem Ev.disk(hp:D.pgs=S.D.pgs)(hl:D.log=S.D.log)(hf:D.fl=S.D.fl\/D.fl=S.D.log.size)(ha:D.armed=S.D.armed)(ho:S.D.off=true->D.off=true)(hn:S.D.armed=false->D.off=S.D.off):Ev S {S with D:=D}:=by
 refine⟨rfl,rfl,rfl,rfl,rfl,fun r h=>h,hl,by show D.pgs.length= _;rw[hp],hf,ha,ho,hn,fun j x y hx hy=>?_,fun m _=>?_⟩
 have hy:D.pgs[j]? =some y:=hy
 rw[hp,hx] at hy;cases hy;exact⟨rfl,[],by simp,fun z hz=>by cases hz⟩
 show aD {S with D:=D} m=aD S m
 rw[aD,aD,gL hp]
theorem Ev.wrD0(S:StM)(t:BfT):Ev S {S with D:=(wrD0 S t).1}/\((wrD0 S t).2=0->(t.pg.p.2.1<=(flN S.L (wrD0 S t).1.fl:Int)\/(wrD0 S t).1.fl=(wrD0 S t).1.log.size))/\((wrD0 S t).2≠0->(wrD0 S t).1.off=true):=by
 unfold Go.Proofs.YtcdjaepgahbhfaaGreat.wrD0
 split
 rename_i hlt
 rcases kx S.D with ⟨h1,h2⟩|⟨h1,h2,h3⟩|⟨h1,h2⟩
 rw[h2];exact⟨Ev.refl S,(fun h=>by cases h),fun _=>h1⟩
 rw[h3];exact⟨Ev.disk rfl rfl (.inl rfl) rfl (fun _=>rfl) (fun h=>by rw[h2] at h;cases h),(fun h=>by cases h),fun _=>rfl⟩
 rw[h2];exact⟨Ev.disk rfl rfl (.inr rfl) rfl (fun h=>by rw[h1] at h;cases h) (fun _=>rfl),fun _=> .inr rfl,fun h=>absurd rfl h⟩
 rename_i hlt
 exact⟨Ev.refl S,fun _=> .inl (Int.not_lt.1 hlt),fun h=>absurd rfl h⟩
theorem wJ(D:DkM)(n:Int)(s:ByteArray)(hn:0<=n/\n<(D.pgs.length:Int))(hs:s.size=512):(D.off=true/\opD D (wrE D n s) (wrD n s)=(D,24))\/(D.off=false/\D.armed=true/\opD D (wrE D n s) (wrD n s)=({D with off:=true},24))\/(D.off=false/\opD D (wrE D n s) (wrD n s)=(jD n.toNat ⟨s,hs⟩ {D with left:=cX D.left},0)):=by
 have he:wrE D n s=0:=by rw[wrE,if_pos hn,if_pos hs]
 have hw:∀D':DkM,wrD n s D'=jD n.toNat ⟨s,hs⟩ D':=fun D'=>by rw[wrD,dif_pos hs]
 unfold opD
 rw[he]
 split
 rename_i h;exact .inl ⟨h,rfl⟩
 rename_i h
 rw[if_neg (by decide)]
 split
 rename_i h2;exact .inr (.inl ⟨by simpa using h,h2.1,rfl⟩)
 exact .inr (.inr ⟨by simpa using h,by rw[hw]⟩)
theorem Ev.write(h:SOk S c)(ht:t∈S.pool):Ev S (bK S t).1/\((bK S t).2≠0->(bK S t).1.D.off=true):=by
 obtain⟨h1,h2,h3⟩:=Ev.wrD0 S t
 have hr:=h.right t ht
 have hpg:=(rn S t).2
 unfold bK
 split
 rename_i he;exact⟨h1,fun _=>h3 he⟩
 rename_i he
 have he:(Go.Proofs.YtcdjaepgahbhfaaGreat.wrD0 S t).2=0:=by simpa using he
 dsimp only
 have hn:0<=t.n/\t.n<((Go.Proofs.YtcdjaepgahbhfaaGreat.wrD0 S t).1.pgs.length:Int):=by rw[hpg];exact h.keys t ht
 obtain⟨D1,hD1⟩:∃z,(Go.Proofs.YtcdjaepgahbhfaaGreat.wrD0 S t).1=z:=⟨_,rfl⟩
 rw[hD1] at h1 h2 hpg hn |-
 rcases wJ D1 t.n (aE t.pg.p) hn (dD hr) with ⟨a1,a2⟩|⟨a1,a2,a3⟩|⟨a1,a2⟩
 rw[a2];exact⟨h1,fun _=>a1⟩
 rw[a3]
 refine⟨h1.trans (Ev.disk (S:={S with D:=D1}) rfl rfl (.inl rfl) rfl (fun _=>rfl) (fun hh=>by have hh:D1.armed=false:=hh;rw[a2] at hh;cases hh)) h.fl,fun _=>rfl⟩
 rw[a2,if_pos rfl]
 refine⟨?_,fun hh=>absurd rfl hh⟩
 refine h1.trans (B:={S with D:=D1}) ?_ h.fl
 have hcur:∀m:Int,0<=m->aD {S with D:=jD t.n.toNat ⟨aE t.pg.p,dD hr⟩ {D1 with left:=cX D1.left},pool:=de S.pool t.n clB} m=aD {S with D:=D1} m:=fun m hm=>by
  by_cases hmem:∃u∈S.pool,u.n=m
  obtain⟨u,hu,rfl⟩:=hmem
  have hd2:((de S.pool t.n clB).map BfT.n).Nodup:=by rw[tR (f:=clB) (fun _=>rfl)];exact h.nodup
  rw[dB (S:={S with D:=D1}) h.nodup hu]
  by_cases e:u.n=t.n
  have hu2:clB u∈de S.pool t.n clB:=List.mem_map.2 ⟨u,hu,by rw[if_pos e]⟩
  have h9:=dB (S:={S with D:=jD t.n.toNat ⟨aE t.pg.p,dD hr⟩ {D1 with left:=cX D1.left},pool:=de S.pool t.n clB}) (t:=clB u) hd2 hu2
  exact h9
  have hu2:u∈de S.pool t.n clB:=List.mem_map.2 ⟨u,hu,by rw[if_neg e]⟩
  exact dB (S:={S with D:=jD t.n.toNat ⟨aE t.pg.p,dD hr⟩ {D1 with left:=cX D1.left},pool:=de S.pool t.n clB}) hd2 hu2
  have hno:∀u∈S.pool,u.n≠m:=fun u hu e=>hmem ⟨u,hu,e⟩
  rw[iy (S:={S with D:=D1}) hno,iy (S:={S with D:=jD t.n.toNat ⟨aE t.pg.p,dD hr⟩ {D1 with left:=cX D1.left},pool:=de S.pool t.n clB}) (fun u hu=>by
   obtain⟨v,hv,rfl|rfl⟩:=mv hu
   exact hno v hv
   exact hno _ hv)]
  rw[yI (D:={D1 with left:=cX D1.left}) hn hm,if_neg (fun e=>hno t ht e.symm)]
  exact gL rfl m
 refine⟨rfl,rfl,rfl,rfl,rfl,fun r hh=>hh,rfl,List.length_set,.inl rfl,rfl,(fun hh=>by have hh:D1.off=true:=hh;rw[a1] at hh;cases hh),fun _=>rfl,fun j x y hx hy=>?_,hcur⟩
 have hy:(D1.pgs.set t.n.toNat _)[j]? =some y:=hy
 have hx:D1.pgs[j]? =some x:=hx
 by_cases e:j=t.n.toNat
 subst e
 rw[List.getElem?_set_self (List.getElem?_eq_some_iff.1 hx).1] at hy
 cases hy
 have hg:D1.pgs.getD t.n.toNat gB=x:=by rw[List.getD_eq_getElem?_getD,hx];rfl
 refine⟨by show (D1.pgs.getD t.n.toNat gB).safe= _;rw[hg],[⟨aE t.pg.p,dD hr⟩],by show (D1.pgs.getD t.n.toNat gB).ws++ _= _;rw[hg],fun z hz=>?_⟩
 rw[List.mem_singleton.1 hz]
 have hc:=dB (S:={S with D:=D1}) h.nodup ht
 rw[show ((t.n.toNat:Nat):Int)=t.n by omega,hc]
 exact⟨rfl,h2 he⟩
 rw[List.getElem?_set_ne (by omega),hx] at hy
 cases hy
 exact⟨rfl,[],by simp,fun z hz=>by cases hz⟩
theorem Ev.clean(h:SOk S c)(ht:t∈S.pool):Ev S (aM S t).1/\((aM S t).2≠0->(aM S t).1.D.off=true):=by
 unfold aM
 split
 exact Ev.write h ht
 exact⟨Ev.refl S,fun hh=>absurd rfl hh⟩
theorem Ev.rm{S:StM}(hd:(S.pool.map BfT.n).Nodup)(hn:∀t∈S.pool,t.n=n->t.pg.p=shP S.D n):Ev S {S with pool:=rmB S.pool n}:=by
 have hd2:((rmB S.pool n).map BfT.n).Nodup:=hd.sublist ((vz S.pool n).map _)
 refine⟨rfl,rfl,rfl,rfl,rfl,fun r h=>h,rfl,rfl,.inl rfl,rfl,id,fun _=>rfl,fun j x y hx hy=>by have hy:S.D.pgs[j]? =some y:=hy;rw[hx] at hy;cases hy;exact⟨rfl,[],by simp,fun z hz=>by cases hz⟩,fun m _=>?_⟩
 by_cases hm:m=n
 subst hm
 rw[iy (S:={S with pool:=rmB S.pool m}) (fun u hu=>(mf hu).2)]
 by_cases hmem:∃u∈S.pool,u.n=m
 obtain⟨u,hu,rfl⟩:=hmem
 rw[dB hd hu];exact(hn u hu rfl).symm
 rw[iy (fun u hu e=>hmem ⟨u,hu,e⟩)]
 by_cases hmem:∃u∈S.pool,u.n=m
 obtain⟨u,hu,rfl⟩:=hmem
 rw[dB hd hu]
 exact dB (S:={S with pool:=rmB S.pool n}) hd2 (show u∈rmB S.pool n from List.mem_filter.2 ⟨hu,by simpa using hm⟩)
 rw[iy (fun u hu e=>hmem ⟨u,hu,e⟩),iy (S:={S with pool:=rmB S.pool n}) (fun u hu e=>hmem ⟨u,(mf hu).1,e⟩)]
theorem G0{S:StM}(h:SOk S c){t:BfT}(ht:t∈S.pool)(h0:(aM S t).2=0):∀u∈(aM S t).1.pool,u.n=t.n->u.pg.p=shP (aM S t).1.D t.n:=fun u hu e=>by
 have hok:=h.clean t ht
 have hev:=(Ev.clean h ht).1
 have hr:=h.right t ht
 have h1:=dB hok.nodup hu
 rw[e,hev.cur t.n (h.keys t ht).1,dB h.nodup ht] at h1
 rw[<-h1]
 unfold aM at h0 |-
 split
 rename_i hd
 rw[if_pos hd] at h0
 exact(rZ hr h0).1.symm
 rename_i hd
 exact h.cl t ht (by simpa using hd)
theorem Ev.evict(h:SOk S c)(ht:S.bufs<=(S.pool.length:Int)->t∈S.pool):Ev S (bw S t).1/\((bw S t).2≠0->(bw S t).1.D.off=true):=by
 unfold bw
 split
 rename_i hb
 have hc:=Ev.clean h (ht hb)
 split
 rename_i he;exact⟨hc.1,fun _=>hc.2 he⟩
 rename_i he
 have he:(aM S t).2=0:=by simpa using he
 exact⟨hc.1.trans (Ev.rm (h.clean t (ht hb)).nodup (G0 h (ht hb) he)) h.fl,fun hh=>absurd rfl hh⟩
 exact⟨Ev.refl S,fun hh=>absurd rfl hh⟩
theorem Ev.tick(S:StM):Ev S (Go.Proofs.YtcdjaepgahbhfaaGreat.tick S):=⟨rfl,rfl,rfl,rfl,rfl,fun r h=>h,rfl,rfl,.inl rfl,rfl,id,fun _=>rfl,fun j x y hx hy=>by have hy:S.D.pgs[j]? =some y:=hy;rw[hx] at hy;cases hy;exact⟨rfl,[],by simp,fun z hz=>by cases hz⟩,fun m _=>rfl⟩
theorem qE{S:StM}{f:BfT->BfT}(hd:(S.pool.map BfT.n).Nodup)(hn:∀t,(f t).n=t.n)(m:Int):aD {S with pool:=de S.pool n f} m=aD S m\/∃t∈S.pool,t.n=n/\m=n/\aD {S with pool:=de S.pool n f} m=(f t).pg.p:=by
 have hd2:((de S.pool n f).map BfT.n).Nodup:=by rw[tR hn];exact hd
 by_cases hmem:∃u∈S.pool,u.n=m
 obtain⟨u,hu,rfl⟩:=hmem
 by_cases e:u.n=n
 refine .inr ⟨u,hu,e,e,?_⟩
 have h1:=dB (S:={S with pool:=de S.pool n f}) hd2 (t:=f u) (List.mem_map.2 ⟨u,hu,by rw[if_pos e]⟩)
 rw[hn] at h1;exact h1
 refine .inl ?_
 rw[dB hd hu]
 exact dB (S:={S with pool:=de S.pool n f}) hd2 (List.mem_map.2 ⟨u,hu,by rw[if_neg e]⟩)
 refine .inl ?_
 rw[iy (fun u hu e=>hmem ⟨u,hu,e⟩),iy (S:={S with pool:=de S.pool n f}) (fun u hu=>by
  obtain⟨v,hv,rfl|rfl⟩:=mv hu
  rw[hn];exact fun e=>hmem ⟨v,hv,e⟩
  exact fun e=>hmem ⟨_,hv,e⟩)]
theorem Ev.load{S':StM}(h:SOk S c)(hl:LdR S n S' er):Ev S S'/\(er≠0->S'.D.off=true\/¬(0<=n/\n<(S.D.pgs.length:Int)))/\(er=0->(0<=n/\n<(S.D.pgs.length:Int))/\∃t∈S'.pool,t.n=n/\t.pg.p=aD S n):=by
 have hS':=h.load hl
 have key:Ev S S'->(∃t∈S'.pool,t.n=n)->0<=n->∃t∈S'.pool,t.n=n/\t.pg.p=aD S n:=fun hev ⟨t,ht,e⟩ h0=>⟨t,ht,e,by
  have h1:=dB hS'.nodup ht
  rw[e,hev.cur n h0] at h1;exact h1.symm⟩
 cases hl with
 |hit t ht hn=>
  have h0:0<=n/\n<(S.D.pgs.length:Int):=by rw[<-hn];exact h.keys t ht
  have hev:Ev S {Go.Proofs.YtcdjaepgahbhfaaGreat.tick S with pool:=de S.pool n (lM (S.time+1))}:=by
   refine⟨rfl,rfl,rfl,rfl,rfl,fun r h=>h,rfl,rfl,.inl rfl,rfl,id,fun _=>rfl,fun j x y hx hy=>by have hy:S.D.pgs[j]? =some y:=hy;rw[hx] at hy;cases hy;exact⟨rfl,[],by simp,fun z hz=>by cases hz⟩,fun m hm=>?_⟩
   rcases qE (S:=Go.Proofs.YtcdjaepgahbhfaaGreat.tick S) (n:=n) (f:=lM (S.time+1)) h.nodup (fun _=>rfl) m with e|⟨u,hu,e1,e2,e3⟩
   exact e
   subst e2
   refine e3.trans ?_
   have h5:=dB h.nodup hu
   rw[e1] at h5;exact h5.symm
  exact⟨hev,fun hh=>absurd rfl hh,fun _=>⟨h0,key hev ⟨lM (S.time+1) t,List.mem_map.2 ⟨t,ht,by rw[if_pos hn]⟩,hn⟩ h0.1⟩⟩
 |bad h1 h2=>
  refine⟨Ev.tick S,fun _=>?_,fun hh=>absurd hh h2⟩
  unfold rdS at h2
  split at h2
  rename_i ho;exact .inl ho
  split at h2
  exact absurd rfl h2
  rename_i hr;exact .inr hr
 |new t blk A cc h1 h2 h3=>
  have hr:=vw h2
  have he:=Ev.evict h.tick h3
  have hev0:=(Ev.tick S).trans he.1 h.fl
  unfold jW at hS' key |-
  split
  rename_i h4
  rw[if_pos h4] at hS'
  exact⟨hev0,fun _=> .inl (he.2 h4),fun hh=>absurd hh h4⟩
  rename_i h4
  rw[if_neg h4] at hS' key
  dsimp only at hS' key |-
  have hev:Ev S {(bw (Go.Proofs.YtcdjaepgahbhfaaGreat.tick S) t).1 with pool:=(bw (Go.Proofs.YtcdjaepgahbhfaaGreat.tick S) t).1.pool++[⟨n,blk,⟨rdP (rdS (Go.Proofs.YtcdjaepgahbhfaaGreat.tick S).D n).1,A,cc⟩,false,(Go.Proofs.YtcdjaepgahbhfaaGreat.tick S).time⟩],rows:=(bw (Go.Proofs.YtcdjaepgahbhfaaGreat.tick S) t).1.rows++[⟨rdP (rdS (Go.Proofs.YtcdjaepgahbhfaaGreat.tick S).D n).1,A,cc⟩]}:=by
   refine⟨hev0.bufs,hev0.recs,hev0.frm,hev0.im,hev0.told,fun r hh=>List.mem_append_left _ (hev0.rows r hh),hev0.log,hev0.len,hev0.fl,hev0.armed,hev0.off,hev0.noarm,hev0.pgs,fun m hm=>?_⟩
   have hk:=pt (S:=Go.Proofs.YtcdjaepgahbhfaaGreat.tick S) (t:=t) h1
   by_cases e:m=n
   subst e
   have h7:=dB hS'.nodup (t:=⟨m,blk,⟨rdP (rdS (Go.Proofs.YtcdjaepgahbhfaaGreat.tick S).D m).1,A,cc⟩,false,(Go.Proofs.YtcdjaepgahbhfaaGreat.tick S).time⟩) (by simp)
   refine h7.trans ?_
   show rdP (rdS S.D m).1=aD S m
   rw[iy h1,Eg h2];rfl
   have h9:=hev0.cur m hm
   rw[<-h9]
   rw[aD,aD,List.find?_append,List.find?_cons]
   have:(n==m)=false:=by simpa using fun h2=>e h2.symm
   dsimp only
   rw[this]
   cases (bw (Go.Proofs.YtcdjaepgahbhfaaGreat.tick S) t).1.pool.find? (fun t=>t.n==m)<;>rfl
  exact⟨hev,fun hh=>absurd rfl hh,fun _=>⟨hr,key hev ⟨_,List.mem_append_right _ (List.mem_singleton.2 rfl),rfl⟩ hr.1⟩⟩
end
section
open Go.RowKit
theorem Tryz.infoStrJ:(Tryz.prog.info? 9).map (fun i=>(i.zero,i.size,i.bytes))=some (some (.string ⟨#[]⟩),1,16):=by kernel_rfl
theorem A3{xs:List Value}(h:At w none xs):xs=[]:=by
 cases xs with
 |nil=>rfl
 |cons x xs=>obtain⟨a,h1,_⟩:=h.get (k:=0) (by simp);cases h1
def Dj(I:List ByteArray)(w:World)(e:Ending)(w':World):Prop:=∃A c,e= .returned (.slice A I.length c)/\St w [] [eO 9 1 (.slice A I.length c) I.length (I.map Value.string)] w'
def KU(p:PgS)(w:World)(e:Ending)(w':World):Prop:=∃A c,e= .returned (.agg #[.int .i64 p.1,.int .i64 p.2.1,.slice A p.2.2.length c])/\St w [] [eO 9 1 (.slice A p.2.2.length c) p.2.2.length (p.2.2.map Value.string)] w'
noncomputable def pgF(S:StM)(n:Int)(ok:Bool):PgS:=if ok=true then aD S n else bu
def PaQ(S:StM)(n:Int)(S2:StM)(ok:Bool):Prop:=∃er:Int,LdR S n S2 er/\ok=(er==0)
def ms(sb db:Nat)(S:StM)(n:Int)(fp:List Nat)(w:World)(e:Ending)(w':World):Prop:=∃ok A c,e= .returned (.tuple #[.agg #[.int .i64 (pgF S n ok).1,.int .i64 (pgF S n ok).2.1,.slice A (pgF S n ok).2.2.length c],.bool ok])/\
 ∃fp',St w fp [eSx sb db (fun S2=>PaQ S n S2 ok) fp',eO 9 1 (.slice A (pgF S n ok).2.2.length c) (pgF S n ok).2.2.length ((pgF S n ok).2.2.map Value.string)] w'
theorem ms.no(h:LdR S n S2 er)(he:er≠0)(hs:St w fp ([]++[eSt sb db S2 fp']) w'):ms sb db S n fp w (.returned (.tuple #[.agg #[.int .i64 0,.int .i64 0,sn],.bool false])) w':=by
 have h1:=St.sx (L:=[]) (Φ:=fun S2=>PaQ S n S2 false) hs ⟨er,h,by symm;simpa using he⟩
 have h2:=fh h1 9 1
 exact⟨false,none,0,rfl,fp',h2⟩
theorem ms.yes(h:LdR S n S2 0)(hp:p=aD S n)(hs:St w fp ([eO 9 1 (.slice A p.2.2.length c) p.2.2.length (p.2.2.map Value.string)]++[eSt sb db S2 fp']) w'):ms sb db S n fp w (.returned (.tuple #[.agg #[.int .i64 p.1,.int .i64 p.2.1,.slice A p.2.2.length c],.bool true])) w':=by
 subst hp
 have h1:=St.sx (Φ:=fun S2=>PaQ S n S2 true) hs ⟨0,h,rfl⟩
 exact⟨true,A,c,rfl,fp',h1.pk [1,0]⟩
def WrQ(S:StM)(n:Int)(S2:StM)(er:Int):Prop:=∃S1 er1,LdR S n S1 er1/\((er1≠0/\S2=S1/\er=er1)\/(er1=0/\∃t∈S1.pool,t.n=n/\bK S1 t=(S2,er)))
def qh(sb db:Nat)(S:StM)(n:Int)(fp:List Nat)(w:World)(e:Ending)(w':World):Prop:=∃er,e= .returned (.int .i64 er)/\∃fp',St w fp [eSx sb db (fun S2=>WrQ S n S2 er) fp'] w'
theorem qh.of(h:WrQ S n S2 er)(hs:St w fp ([]++[eSt sb db S2 fp']) w'):qh sb db S n fp w (.returned (.int .i64 er)) w':=⟨er,rfl,fp',St.sx (L:=[]) hs h⟩
theorem A7(h:LdR S n S2 er)(h0:er=0):LdR S n S2 0:=h0 ▸ h
theorem Ln{I:List ByteArray}(hA:At w A (I.map Value.string))(h:A=none)(hs:St w [] [eO 9 1 (sn) 0 []] w'):Dj I w (.returned (sn)) w':=by
 subst h
 have h1:=A3 hA
 obtain rfl:I=[]:=by simpa using h1
 exact⟨none,0,rfl,hs⟩
theorem J7(A:Option Addr)(c:Nat)(I:List ByteArray)(w:World)(hA:At w A (I.map Value.string))(hI:I.length<=100000):
  Calls Tryz.prog 134 #[.slice A I.length c] w (Dj I w):=by
 go_enter Tryz.func134,Tryz.ntmps134
 have al:=St.start w
 refine wq (sqr (sqp [.k 2 (sn)] ?_))
 refine aa (wq (wq (sqr (sqp [.m 3 0,.k 4 (.bool A.isNone)] ?_))))
 refine aa (wbs (fun aU=>?_) fun aU=>?_)
 refine wq (sqr (sqp [.k 2 (sn)] ?_))
 refine aa (wp_ret (aj ?_))
 refine bpr (sn) (ai Tryz.results134 rpt) ?_
 have hn6:=St.nilrow al 9
 simp only[List.cons_append,List.nil_append] at hn6
 exact Ln hA (by simpa using aU) hn6
 refine wp_skip (aa (wq (sqr ?_)))
 refine ej (fun x_=>sA x_) (fun CO=> .slice CO 0 0) (fun CO=>eO 9 1 (.slice CO 0 0) 0 ([])) al (by
   refine svA fun d g W X cx=>?_
   exact du (e:=9) (xs:=[]) rfl (by simp[go_sem]) rfl (by decide) rfl rfl (fun _ _ _ _ _=> .intro)) fun CO W7 aZ=>?_
 refine sqp [.m 6 0] ?_
 refine sQ (fun x_=>sA x_) (fun x_=>sC x_) (fun th ti=> .slice th I.length ti) (fun th ti=>eO 9 1 (.slice th I.length ti) I.length (I.map Value.string)) 0 aZ (by
   refine svA fun d g W X cx=>?_
   obtain⟨i0,hi0,hz0,hz1,hz2⟩:=info_parts Tryz.infoStrJ
   refine eH (n:=0) (m:=I.length) (nm:=I.length) (xs:=[]) (news:=I.map Value.string) (xs':=I.map Value.string) rfl (ty:=46) rfl (by kernel_rfl) hi0 hz0 hz1 hz2 rfl (cx.ou 5) cx (cx.init 0 _ rfl) rfl (cx.ou 6) (by rw[List.length_map]) (hA.ext cx.upd.to_ext) (vA _) (by simp only[maxLen];omega) (by omega) rfl rfl rfl (by omega) (rfl) (fun h o X' hs hb hv hx=>?_)
   exact⟨hv,hx⟩) fun th ti W9 cq=>?_
 refine sqp [.m 2 7] ?_
 refine aa (wp_ret ?_)
 refine bpr (.slice th I.length ti) (ai Tryz.results134 rpt) ?_
 exact⟨_,_,rfl,cq.pick [0] (by decide) rfl⟩
theorem G6(PA:Option Addr)(pc:Nat)(p:PgS)(w:World)(hA:At w PA (p.2.2.map Value.string))(hI:p.2.2.length<=100000):
  Calls Tryz.prog 65 #[.agg #[.int .i64 p.1,.int .i64 p.2.1,.slice PA p.2.2.length pc]] w (KU p w):=by
 go_enter Tryz.func65,Tryz.ntmps65
 have al:=St.start w
 refine wq (sqr ?_)
 refine ce #[vi p.1,vi p.2.1,.slice PA p.2.2.length pc] al fun aB W1 aA=>?_
 refine bY #[vi 0,vi 0,sn] aA fun kH W2 bQ=>?_
 refine aa (wq (sqr (sqp [.k 3 (po aB 2)] ?_)))
 refine av 0 bQ ?_
 refine iC (fun tj tk=> .slice tj p.2.2.length tk) (fun tj tk=>eO 9 1 (.slice tj p.2.2.length tk) p.2.2.length (p.2.2.map Value.string)) bQ (fun cx=>⟨_,(J7 PA pc p.2.2 _ (hA.ext cx.upd.to_ext) hI).mono (by rintro e W1 ⟨A4,c4,rfl,aU⟩;exact⟨_,_,rfl,aU⟩),(ax (cx.ou 4))⟩) fun tj tk W5 aR=>?_
 refine sqp [.k 6 (po aB 2)] ?_
 refine aV (n:=1) 0 #[vi p.1,vi p.2.1,.slice tj p.2.2.length tk] aR fun W7 aZ=>?_
 refine aa (wq (sqr ?_))
 refine bE 0 3 aZ ?_
 refine aV (n:=3) 1 #[vi p.1,vi p.2.1,.slice tj p.2.2.length tk] aZ fun W9 cq=>?_
 refine aa (wp_ret ?_)
 refine bpr (.agg #[vi p.1,vi p.2.1,.slice tj p.2.2.length tk]) (bA (n:=3) Tryz.results65 rfl (by kernel_rfl) (by kernel_rfl) (cq.blk 1 rfl) rfl) ?_
 exact⟨_,_,rfl,cq.pick [2] (by decide) rfl⟩
theorem qk(sb db:Nat)(S:StM)(n:Int)(c:Nat)(fp:List Nat)(w:World)(hB:(eSt sb db S fp).holds w)(hlt:∀k∈fp,k<w.heap.size)(hok:SOk S c)(hc:c<=800000000)(hkn:kcI.ok n):
  Calls Tryz.prog 21 #[po sb 0,.int .i64 n] w (ms sb db S n fp w):=by
 have st1:St w fp [eSt sb db S fp] w:=St.lend hB (dx _ _ _ _) hlt
 go_enter Tryz.func21,Tryz.ntmps21
 have al:=st1
 refine wq (sqr (bY #[vi 0,vi 0,sn] al fun CP W1 aA=>?_))
 refine sqp [.k 5 (.bool false)] ?_
 refine aa (wq (wq (sqr (sqp [.m 8 0] ?_))))
 refine sqv (.bool false) aA (by
   exact sv0 rfl rfl rfl rfl rfl (fun _ _ _ h=>h) fun d g W X cx=>by
    have QI:d (.tmp 8)=vp sb:=(cx.ou 8)
    simp[go_sem,cx.sees.const,QI]) fun W4 be=>?_
 refine aa (wcf rfl (wp_skip (aa (wq (sqr (sqp [.m 12 0,.m 13 1] ?_))))))
 refine xf (fun x_=>tE x_) (fun x_=>tF x_) (fun X_=>X_.fp) (fun er14_7 vp14_7=> .tuple #[vp14_7,vi er14_7]) (fun er14_7 vp14_7 Mp=>eSx sb db (fun S2=>LdQ S n S2 er14_7 vp14_7) Mp) 0 be (by
   refine svA fun d g W X cx=>?_
   refine am.call (aq (args:=#[vp sb,vi n]) rfl cx.sees rfl (by kernel_rfl) (aP (cx.ou 12) (cx.ou 13))) ?_
   refine(nf sb db S n c _ _ (CtxV.holdF cx (cx.init 0 _ rfl) rfl) (CtxV.ltF cx (cx.init 0 _ rfl) rfl) hok hc hkn).mono ?_
   rintro e W1 ⟨er4,vp4,rfl,fp4,aU⟩
   refine⟨_,rfl,aN (E:=eSt sb db S fp) [eSx sb db (fun S2=>LdQ S n S2 er4 vp4) fp4] (cx.init 0 _ rfl) rfl rfl aU (fun o q X' hs hb hv hN=>?_)⟩
   have aK:=(hv 14 rfl).1;have aW:=(hv 14 rfl).2
   exact⟨aK.trans (by rw[aW];exact rfl),(by rw[aW];exact fN ((List.cons.inj hN).1))⟩) fun er14_7 vp14_7 Mp W7 aZ=>?_
 refine sqp [.m 11 14,.k 15 (vp14_7),.k 16 (vi er14_7),.m 6 15,.m 7 16] ?_
 refine aa (wq (wq ?_))
 obtain⟨S1,hL,hy13_⟩:=aZ.unx
 have hok1:=hok.load hL.1
 refine sqr (sqp [.m 17 7,.k 18 (.bool (er14_7 != 0))] ?_)
 refine aa (wbs (fun dj=>?_) fun dj=>?_)
 have ma:=bne_iff_ne.1 dj
 refine wq (sqr (sqp [.k 19 (.agg #[vi 0,vi 0,sn])] ?_))
 refine aV (n:=3) 1 #[vi 0,vi 0,sn] hy13_ fun IV kY=>?_
 refine sqp [.k 5 (.bool false)] ?_
 refine aa (wp_ret (aj ?_))
 refine bpr (.tuple #[.agg #[vi 0,vi 0,sn],.bool false]) (aQ Tryz.results21 (rpa (kY.blk 1 rfl) 0 3) rpt) ?_
 exact ms.no hL.1 (by simpa using dj) (kY.pick [0] (by decide) rfl)
 have ma:=bne_eq_false_iff_eq.1 dj
 refine wp_skip (aa (wq ?_))
 obtain⟨t,htm_t,rfl,rfl⟩:=hL.2 (by simpa using dj)
 obtain⟨⟨hrw1,hrr1⟩,mb1,RA1,rc1,EA1,ec1,ib1,tb1,fpd1,hv20_⟩:=hy13_.unf
 obtain⟨A,B,hAB⟩:=List.append_of_mem htm_t
 have hri:=hok1.right t htm_t
 have hrp:=ek hri.1
 rw[hAB] at hv20_
 have ho21_:=St.obf (t:=t) hv20_.u2
 refine sqr (sqp [.m 20 6,.k 21 (po t.blk 0),.k 22 (po t.blk 0)] ?_)
 refine bE 1 3 ho21_ ?_
 refine iC (fun oI oJ=> .agg #[vi t.pg.p.1,vi t.pg.p.2.1,.slice oI t.pg.p.2.2.length oJ]) (fun oI oJ=>eO 9 1 (.slice oI t.pg.p.2.2.length oJ) t.pg.p.2.2.length (t.pg.p.2.2.map Value.string)) ho21_ (fun cx=>⟨_,(G6 _ _ t.pg.p _ (jd (CtxV.holdF cx (cx.init 4 _ rfl) rfl) (hrw1 t htm_t)) hrp.1).mono (by rintro e W1 ⟨A4,c4,rfl,aU⟩;exact⟨_,_,rfl,aU⟩),(ax (cx.ou 23))⟩) fun oI oJ w4 fy=>?_
 refine aV (n:=3) 11 #[vi t.pg.p.1,vi t.pg.p.2.1,.slice oI t.pg.p.2.2.length oJ] fy fun Bp fx=>?_
 refine sqp [.k 5 (.bool true)] ?_
 refine aa (wp_ret ?_)
 refine bpr (.tuple #[.agg #[vi t.pg.p.1,vi t.pg.p.2.1,.slice oI t.pg.p.2.2.length oJ],.bool true]) (aQ Tryz.results21 (rpa (fx.blk 11 rfl) 0 3) rpt) ?_
 have hi29_:=St.ibf (t:=t) fx
 obtain⟨fp30_,hk30_⟩:=St.stf (S:=S1) (by have h_:=hi29_.u10.c0.u2.u2;rw[<-hAB] at h_;exact h_) (hrw1) (hrr1)
 exact ms.yes (A7 hL.1 (by simpa using dj)) (by have h_:=(Ev.load hok hL.1).1.cur t.n (hok1.keys t htm_t).1;rw[dB hok1.nodup htm_t] at h_;exact h_) hk30_.u1
theorem z8(sb db:Nat)(S:StM)(n:Int)(c:Nat)(fp:List Nat)(w:World)(hB:(eSt sb db S fp).holds w)(hlt:∀k∈fp,k<w.heap.size)(hok:SOk S c)(hc:c<=800000000)(hkn:kcI.ok n):
  Calls Tryz.prog 79 #[po sb 0,.int .i64 n] w (qh sb db S n fp w):=by
 have st1:St w fp [eSt sb db S fp] w:=St.lend hB (dx _ _ _ _) hlt
 go_enter Tryz.func79,Tryz.ntmps79
 have al:=st1
 refine wq (sqr (sqp [.k 4 (vi 0)] ?_))
 refine aa (wq (wq (sqr (sqp [.m 7 0] ?_))))
 refine sqv (.bool false) al (by
   exact sv0 rfl rfl rfl rfl rfl (fun _ _ _ h=>h) fun d g W X cx=>by
    have Fv:d (.tmp 7)=vp sb:=(cx.ou 7)
    simp[go_sem,cx.sees.const,Fv]) fun W3 bc=>?_
 refine aa (wcf rfl (wp_skip (aa (wq (sqr (sqp [.m 10 0,.m 11 1] ?_))))))
 refine xf (fun x_=>tE x_) (fun x_=>tF x_) (fun X_=>X_.fp) (fun er12_6 vp12_6=> .tuple #[vp12_6,vi er12_6]) (fun er12_6 vp12_6 Im=>eSx sb db (fun S2=>LdQ S n S2 er12_6 vp12_6) Im) 0 bc (by
   refine svA fun d g W X cx=>?_
   refine am.call (aq (args:=#[vp sb,vi n]) rfl cx.sees rfl (by kernel_rfl) (aP (cx.ou 10) (cx.ou 11))) ?_
   refine(nf sb db S n c _ _ (CtxV.holdF cx (cx.init 0 _ rfl) rfl) (CtxV.ltF cx (cx.init 0 _ rfl) rfl) hok hc hkn).mono ?_
   rintro e W1 ⟨er4,vp4,rfl,fp4,aU⟩
   refine⟨_,rfl,aN (E:=eSt sb db S fp) [eSx sb db (fun S2=>LdQ S n S2 er4 vp4) fp4] (cx.init 0 _ rfl) rfl rfl aU (fun o q X' hs hb hv hN=>?_)⟩
   have aK:=(hv 12 rfl).1;have aW:=(hv 12 rfl).2
   exact⟨aK.trans (by rw[aW];exact rfl),(by rw[aW];exact fN ((List.cons.inj hN).1))⟩) fun er12_6 vp12_6 Im W6 bI=>?_
 refine sqp [.m 9 12,.k 13 (vp12_6),.k 14 (vi er12_6),.m 5 13,.m 6 14] ?_
 refine aa (wq (wq ?_))
 obtain⟨S1,hL,hy12_⟩:=bI.unx
 have hok1:=hok.load hL.1
 refine sqr (sqp [.m 15 6,.k 16 (.bool (er12_6 != 0))] ?_)
 refine aa (wbs (fun dJ=>?_) fun dJ=>?_)
 have kV:=bne_iff_ne.1 dJ
 refine wq (sqr (sqp [.m 17 6,.m 4 17] ?_))
 refine aa (wp_ret (aj ?_))
 refine bpr (vi er12_6) (ai Tryz.results79 rpt) ?_
 exact qh.of ⟨S1,_,hL.1,.inl ⟨by simpa using dJ,rfl,rfl⟩⟩ (hy12_.pick [0] (by decide) rfl)
 have kV:=bne_eq_false_iff_eq.1 dJ
 refine wp_skip (aa (wq ?_))
 obtain⟨t,htm_t,rfl,rfl⟩:=hL.2 (by simpa using dJ)
 obtain⟨A,B,hAB⟩:=List.append_of_mem htm_t
 refine sqr (sqp [.m 18 0,.m 19 1,.m 20 5] ?_)
 refine bN (fun X_=>X_.fp) (vi ((bK S1 t).2)) (fun uS=>eSt sb db ((bK S1 t).1) uS) 0 hy12_ (by
   refine svA fun d g W X cx=>?_
   refine am.call (aq (args:=#[vp sb,vi t.n,po t.blk 0]) rfl cx.sees rfl (by kernel_rfl) (dN (cx.ou 18) (cx.ou 19) (cx.ou 20))) ?_
   refine(ul sb db S1 A B t (c+3) _ _ (CtxV.holdF cx (cx.init 0 _ rfl) rfl) (CtxV.ltF cx (cx.init 0 _ rfl) rfl) hok1 (by omega) hAB).mono ?_
   rintro e W1 ⟨rfl,fp4,aU⟩
   refine⟨_,rfl,aN (E:=eSt sb db S1 Im) [eSt sb db (bK S1 t).1 fp4] (cx.init 0 _ rfl) rfl rfl aU (fun o q X' hs hb hv hN=>?_)⟩
   have aK:=(hv 21 rfl).1;have aW:=(hv 21 rfl).2
   exact⟨aK.trans rfl,gW ((List.cons.inj hN).1)⟩) fun uS sa ef=>?_
 refine sqp [.m 4 21] ?_
 refine aa (wp_ret ?_)
 refine bpr (vi ((bK S1 t).2)) (ai Tryz.results79 rpt) ?_
 exact qh.of ⟨S1,_,hL.1,.inr ⟨by simpa using dJ,t,htm_t,rfl,rfl⟩⟩ (ef.pick [0] (by decide) rfl)
theorem B5(sb db:Nat)(S:StM)(fp:List Nat)(w:World)(hB:(eSt sb db S fp).holds w)(hlt:∀k∈fp,k<w.heap.size)(hlz:S.D.log.size<=10000000):
  Calls Tryz.prog 27 #[po sb 0] w (ea sb db ({S with D:=(opD S.D 0 flD).1},(opD S.D 0 flD).2) fp w):=by
 have st1:St w fp [eSt sb db S fp] w:=St.lend hB (dx _ _ _ _) hlt
 go_enter Tryz.func27,Tryz.ntmps27
 have al:=st1
 obtain⟨⟨hrw,hrr⟩,mb,RA,rc,EA,ec,ib,tb,fpd,hv1_⟩:=al.unf
 refine wq (sqr (sqp [.k 2 (vi 0)] ?_))
 refine aa (wq (wq (sqr (sqp [.m 3 0] ?_))))
 refine sqv (.bool false) hv1_ (by
   exact sv0 rfl rfl rfl rfl rfl (fun _ _ _ h=>h) fun d g W X cx=>by
    have gw:d (.tmp 3)=vp sb:=(cx.ou 3)
    simp[go_sem,cx.sees.const,gw]) fun W4 be=>?_
 refine aa (wcf rfl (wp_skip (aa (wq (sqr (sqp [.m 5 0,.k 6 (vp sb),.k 7 (vp sb)] ?_))))))
 refine av 0 be ?_
 refine bN (fun X_=>X_.fp) (vi ((opD S.D 0 flD).2)) (fun I2=>eDk db ((opD S.D 0 flD).1) I2) 9 be (by
   refine svA fun d g W X cx=>?_
   refine am.call (aq (args:=#[vp db]) rfl cx.sees rfl (by kernel_rfl) (ax (cx.ou 8))) ?_
   refine(lX db S.D _ _ (CtxV.holdF cx (cx.init 9 _ rfl) rfl) (CtxV.ltF cx (cx.init 9 _ rfl) rfl) (by omega)).mono ?_
   rintro e W1 ⟨rfl,fp4,aU⟩
   refine⟨_,rfl,aN (E:=eDk db S.D fpd) [eDk db (opD S.D 0 flD).1 fp4] (cx.init 9 _ rfl) rfl rfl aU (fun o q X' hs hb hv hN=>?_)⟩
   have aK:=(hv 9 rfl).1;have aW:=(hv 9 rfl).2
   exact⟨aK.trans rfl,cJ ((List.cons.inj hN).1)⟩) fun I2 W9 cq=>?_
 refine sqp [.m 2 9] ?_
 refine aa (wp_ret ?_)
 refine bpr (vi ((opD S.D 0 flD).2)) (ai Tryz.results27 rpt) ?_
 obtain⟨fp11_,hk11_⟩:=St.stf (S:={S with D:=(opD S.D 0 flD).1}) (cq) (hrw) (hrr)
 exact ea.of rfl hk11_
end
section
open Go.RowKit
theorem Ed(L:List RecM)(r:RecM):ei (L++[r])=ei L++aC r:=by
 rw[ei,List.map_append,yZ,ei,List.map_cons,List.map_nil,bD,fP,lu]
theorem mr(L:List RecM)(r:RecM):szF (L++[r])=szF L+(aC r).size:=by
 rw[szF,szF,List.map_append,List.sum_append];simp
theorem EH(L:List RecM)(r:RecM)(h:z=(szF (L++[r]):Int)){n:Nat}(hn:L.length=n):(cy L n).map (Value.int .i64)++[.int .i64 z]=(cy (L++[r]) (n+1)).map (Value.int .i64):=by
 subst hn h
 have h1:=wU (L++[r]) L.length
 rw[List.take_of_length_le (by simp)] at h1
 rw[<-h1]
 congr 2
 rw[cy,cy]
 refine List.map_congr_left fun i hi=>?_
 rw[List.take_append_of_le_length (by have:=List.mem_range.1 hi;omega)]
def apR(S:StM)(r:RecM):DkM×Int:=opD S.D (apE S.D (aC r)) (apD (aC r))
def bt(S:StM)(rt:RcT):StM×Int:=if (apR S rt.r).2≠0 then ({S with D:=(apR S rt.r).1},(apR S rt.r).2) else ({S with D:=(apR S rt.r).1,recs:=S.recs++[rt]},0)
theorem EE(h:(apR S r).2=0):S.D.off=false/\(S.D.log.size:Int)+((aC r).size:Int)<=1048576/\(apR S r).1=apD (aC r) {S.D with left:=cX S.D.left}:=by
 obtain⟨h1,h2,h3⟩:=mO h
 refine⟨h1,?_,h3⟩
 unfold apE at h2
 split at h2
 cases h2
 omega
theorem Bf(S:StM)(r:RecM):(apR S r).1.pgs=S.D.pgs/\(apR S r).1.fl=S.D.fl:=by
 unfold apR
 refine⟨c6 (P:=fun D'=>D'.pgs=S.D.pgs) rfl rfl fun _=>rfl,c6 (P:=fun D'=>D'.fl=S.D.fl) rfl rfl fun _=>rfl⟩
theorem LC(h:(apR S r).2≠0):(apR S r).1.log=S.D.log:=by
 unfold apR opD at h |-
 split
 rfl
 rename_i ho
 rw[if_neg ho] at h
 split
 rfl
 rename_i he
 rw[if_neg he] at h
 split
 rfl
 rename_i ha
 rw[if_neg ha] at h
 exact absurd rfl h
theorem SOk.append(h:SOk S c)(hr:bv rt.r=true):SOk (bt S rt).1 c:=by
 obtain⟨hp,hf⟩:=Bf S rt.r
 unfold bt
 have hcl:∀t∈S.pool,t.dirty=false->t.pg.p=shP (apR S rt.r).1 t.n:=fun t ht hd=>by rw[gL hp];exact h.cl t ht hd
 split
 rename_i he
 have hl:=LC he
 exact⟨h.bufs,by show (apR S rt.r).1.pgs.length<=400;rw[hp];exact h.pgs,by show ∀x∈(apR S rt.r).1.pgs,_;rw[hp];exact h.ws,h.time,h.ni,h.nt,h.right,h.nodup,h.len,fun t ht=>by show 0<=t.n/\t.n<((apR S rt.r).1.pgs.length:Int);rw[hp];exact h.keys t ht,h.recs,hl.trans h.log,by show (apR S rt.r).1.log.size<= _;rw[hl];exact h.lsz,by show (apR S rt.r).1.fl<=(apR S rt.r).1.log.size;rw[hl,hf];exact h.fl,hcl⟩
 rename_i he
 have he:(apR S rt.r).2=0:=by simpa using he
 obtain⟨h1,h2,h3⟩:=EE he
 have hl:(apR S rt.r).1.log=S.D.log++aC rt.r:=by rw[h3];rfl
 exact⟨h.bufs,by show (apR S rt.r).1.pgs.length<=400;rw[hp];exact h.pgs,by show ∀x∈(apR S rt.r).1.pgs,_;rw[hp];exact h.ws,h.time,h.ni,h.nt,h.right,h.nodup,h.len,fun t ht=>by show 0<=t.n/\t.n<((apR S rt.r).1.pgs.length:Int);rw[hp];exact h.keys t ht,fun r hr2=>by
  have hr2:r∈(S.recs++[rt]).map RcT.r:=hr2
  rw[List.map_append] at hr2
  rcases List.mem_append.1 hr2 with h4|h4
  exact h.recs r h4
  rw[List.mem_singleton.1 h4];exact hr,by show (apR S rt.r).1.log=ei ((S.recs++[rt]).map RcT.r);rw[hl,h.log,List.map_append];exact(Ed _ _).symm,by show (apR S rt.r).1.log.size<= _;rw[hl,ByteArray.size_append];omega,by show (apR S rt.r).1.fl<=(apR S rt.r).1.log.size;rw[hl,hf,ByteArray.size_append];have:=h.fl;omega,hcl⟩
theorem tX(h:(apR S rt.r).2≠0):bt S rt=({S with D:=(apR S rt.r).1},(apR S rt.r).2):=if_pos h
theorem E9(h:(apR S rt.r).2=0):bt S rt=({S with D:=(apR S rt.r).1,recs:=S.recs++[rt]},0):=if_neg (by rw[h];decide)
theorem eR(h:bv r=true):(aC r).size<=200000:=by
 rw[jk h]
 have:=jo r
 omega
def Jq(r:RecM)(w:World)(e:Ending)(w':World):Prop:=∃A c,e= .returned (Ly r A c)/\St w [] [gU ⟨r,A,c⟩] w'
def Bj(l:List EdT)(w:World)(e:Ending)(w':World):Prop:=∃A c,e= .returned (.slice A l.length c)/\St w [] [eO 84 3 (.slice A l.length c) l.length (l.flatMap edC)] w'
theorem Lo{l:List EdT}(hA:At w A (l.flatMap edC))(h:A=none)(hs:St w [] [eO 84 3 (sn) 0 []] w'):Bj l w (.returned (sn)) w':=by
 subst h
 have h1:=A3 hA
 cases l with
 |nil=>exact⟨none,0,rfl,hs⟩
 |cons x l=>simp[edC] at h1
theorem Tryz.infoEdJ:(Tryz.prog.info? 84).map (fun i=>(i.zero,i.size,i.bytes))=some (some (.agg #[.int .i64 0,.int .i64 0,.string ⟨#[]⟩]),3,32):=by kernel_rfl
theorem Kg(l:List EdT):∀v∈l.flatMap edC,v.oneCell'=true:=fun v hv=>by
 obtain⟨x,_,h⟩:=List.mem_flatMap.1 hv
 simp only[edC,List.mem_cons,List.not_mem_nil,or_false] at h
 rcases h with rfl|rfl|rfl<;>rfl
theorem nV(sb db:Nat)(S:StM)(rt:RcT)(c:Nat)(fp:List Nat)(w:World)(hB:(eSt sb db S fp).holds w)(hlt:∀k∈fp,k<w.heap.size)(hok:SOk S c)(hr:bv rt.r=true)(hrt:rt∈S.rr):
  Calls Tryz.prog 57 #[po sb 0,.agg #[.int .i64 rt.r.kind,.int .i64 rt.r.xid,.int .i64 rt.r.tbl,sn,sn,.slice rt.A rt.r.eds.length rt.c,sn,.string rt.r.note]] w (ea sb db (bt S rt) fp w):=by
 have st1:St w fp [eSt sb db S fp] w:=St.lend hB (dx _ _ _ _) hlt
 go_enter Tryz.func57,Tryz.ntmps57
 have al:=st1
 obtain⟨⟨hrw,hrr⟩,mb,RA,rc,EA,ec,ib,tb,fpd,hv1_⟩:=al.unf
 have hlz:=hok.lsz
 have hll:S.recs.length<=1048576:=by have h1:=oz hok.recs;have h3:=congrArg ByteArray.size hok.log;rw[ck] at h3;have h2:S.L.length=S.recs.length:=List.length_map ..;omega
 have hro:=d8 hr
 have hez:∀e∈rt.r.eds,e.2.2.size<=9223372036854775807:=fun e he=>by have:=dA (hro.eds e he);omega
 have hns:rt.r.note.size<=9223372036854775807:=by have:=hro.note;omega
 have hnl:=hro.many
 have hfs:=eR hr
 refine wq (sqr ?_)
 refine ce #[vi rt.r.kind,vi rt.r.xid,vi rt.r.tbl,sn,sn,.slice rt.A rt.r.eds.length rt.c,sn,.string rt.r.note] hv1_ fun dK W2 bQ=>?_
 refine sqp [.k 4 (vi 0)] ?_
 refine aa (wq (sqr ?_))
 refine bE 10 8 bQ ?_
 refine sqk (.string (aC rt.r)) bQ (fun cx=>⟨_,j9 rt.r.kind rt.r.xid rt.r.tbl _ _ rt.r.eds rt.r.note _ (dW (CtxV.holdF cx (cx.init 6 _ rfl) rfl) hrt) (by omega) hez hns,(ax (cx.ou 7))⟩) fun W5 aR=>?_
 refine sqp [.m 5 8] ?_
 refine aa (wq (wq (sqr (sqp [.m 9 0,.k 10 (vp sb),.k 11 (vp sb)] ?_))))
 refine av 0 aR ?_
 refine sqp [.m 13 5] ?_
 refine bN (fun X_=>X_.fp) (vi ((apR S rt.r).2)) (fun Fw=>eDk db ((apR S rt.r).1) Fw) 9 aR (by
   refine svA fun o d W X cx=>?_
   refine am.call (aq (args:=#[vp db,.string (aC rt.r)]) rfl cx.sees rfl (by kernel_rfl) (aP (cx.ou 12) (cx.ou 13))) ?_
   refine(r5 db S.D (aC rt.r) _ _ (CtxV.holdF cx (cx.init 9 _ rfl) rfl) (CtxV.ltF cx (cx.init 9 _ rfl) rfl) (by omega) (by omega)).mono ?_
   rintro e W1 ⟨rfl,fp4,aU⟩
   refine⟨_,rfl,aN (E:=eDk db S.D fpd) [eDk db (apR S rt.r).1 fp4] (cx.init 9 _ rfl) rfl rfl aU (fun g q X' hs hb hv hN=>?_)⟩
   have aK:=(hv 14 rfl).1;have aW:=(hv 14 rfl).2
   exact⟨aK.trans rfl,cJ ((List.cons.inj hN).1)⟩) fun Fw ze cV=>?_
 refine sqp [.m 6 14] ?_
 refine aa (wq (sqr (sqp [.m 15 6,.k 16 (.bool (((apR S rt.r).2) != 0))] ?_)))
 refine aa (wbs (fun dj=>?_) fun dj=>?_)
 have ma:=bne_iff_ne.1 dj
 refine wq (sqr (sqp [.m 17 6,.m 4 17] ?_))
 refine aa (wp_ret (aj ?_))
 refine bpr (vi ((apR S rt.r).2)) (ai Tryz.results57 rpt) ?_
 obtain⟨fp19_,hk19_⟩:=St.stf (S:={S with D:=(apR S rt.r).1}) (cV.u10.c0) (hrw) (hrr)
 exact ea.of (tX (by simpa using dj)) hk19_
 have ma:=bne_eq_false_iff_eq.1 dj
 refine wp_skip (aa (wq ?_))
 have he0:(apR S rt.r).2=0:=by simpa using dj
 obtain⟨ho0,hl0,hD0⟩:=EE he0
 obtain⟨D1,hD1⟩:∃z,(apR S rt.r).1=z:=⟨_,rfl⟩
 rw[hD1] at cV hD0
 have hlg:D1.log=S.D.log++aC rt.r:=by rw[hD0];rfl
 have hlg2:(D1.log.size:Int)=(szF (S.L++[rt.r]):Int):=by rw[hlg,ByteArray.size_append,mr,hok.log,ck]
 refine aH [0,0,2,6,14,0,32,126,255,511,1023] [[],[],[],[],[0],[10],[],[11,4],[],[],[0]] [[],[],[],[],[],[],[11],[12],[],[],[13]] [[],[],[],[],[],[],[],[4],[],[],[0]] [.k 18 (vp sb),.k 19 (vp sb),.k 20 (vp sb),.k 21 (po sb 4),.c 22 (.slice RA S.recs.length rc),.c 23 (.agg #[vi rt.r.kind,vi rt.r.xid,vi rt.r.tbl,sn,sn,.slice rt.A rt.r.eds.length rt.c,sn,.string rt.r.note]),.a 24,.a 25,.k 26 (vp sb),.k 27 (po sb 4),.n] (fun ix g d X=>match ix with|0|1|2|3|4|5=>True|6=>g 24= .slice ((some ⟨(pb' (d 24)),0,none⟩)) 1 1/\X 11=eO 27 8 (.slice ((some ⟨(pb' (d 24)),0,none⟩)) 1 1) 1 (rcC rt)|7=>g 25= .slice (sA (d 25)) (S.recs.length+1) (sC (d 25))/\X 12=eO 27 8 (.slice (sA (d 25)) (S.recs.length+1) (sC (d 25))) (S.recs.length+1) ((S.recs++[rt]).flatMap rcC)|8|9=>True|10=>X 13=eB sb 109 #[vp db,vi S.bufs,.map (some mb),vi S.time,.slice (sA (d 25)) (S.recs.length+1) (sC (d 25)),.slice EA S.recs.length ec,.map (some ib),.map (some tb),vi S.frm]|_=>True) [1,2,3,5,6,7,8,9,10,11,12,13] [4,5,6,7,10] [(18,0,10,28)] cV ?_ ?_ ?_
 exact fun ix _ _ _ _ _ _ hs hb hx h=>match ix,h with
 |6,h=>by dsimp only;rw[<-hs 24 rfl,<-hb 24 rfl,<-hx 11 rfl];exact h
 |7,h=>by dsimp only;rw[<-hs 25 rfl,<-hb 25 rfl,<-hx 12 rfl];exact h
 |10,h=>by dsimp only;rw[<-hb 25 rfl,<-hx 13 rfl];exact h
 |0,_|1,_|2,_|3,_|4,_|5,_|8,_|9,_|_+11,_=>trivial
 refine⟨?_,?_,?_,?_,?_,trivial⟩
 exact xs4 rfl id fun cx=>ae rfl (by kernel_rfl) (cx.an 3) ((cx.bi 0 rfl).cell 4)
 exact xs4 rfl id fun cx=>cg (n:=8) rfl (by kernel_rfl) (by kernel_rfl) (cx.ou 3) (cx.bi 10 rfl) (nle rfl) rfl
 refine svA fun o d W X cx=>?_
 have Ic:o (.tmp 23)= .agg #[vi rt.r.kind,vi rt.r.xid,vi rt.r.tbl,sn,sn,.slice rt.A rt.r.eds.length rt.c,sn,.string rt.r.note]:=(cx.an 5)
 exact mn (e:=27) (sz:=8) (xs:=[vi rt.r.kind,vi rt.r.xid,vi rt.r.tbl,sn,sn,.slice rt.A rt.r.eds.length rt.c,sn,.string rt.r.note]) rfl (by simp[go_sem,Ic]) rfl (by decide) rfl rfl (fun _ _ _ _ _=> .intro)
 refine svA fun o d W X cx=>?_
 obtain⟨i0,hi0,hz0,hz1,hz2⟩:=info_parts Tryz.infoRecJ
 refine jc (n:=S.recs.length) (m:=1) (nm:=S.recs.length+1) (sz:=8) (xs:=S.recs.flatMap rcC) (news:=rcC rt) (xs':=(S.recs++[rt]).flatMap rcC) rfl (ty:=66) rfl (by kernel_rfl) hi0 hz0 hz1 hz2 rfl (by decide) (cx.an 4) cx (cx.init 4 _ rfl) rfl (dTn (cx.an 6)).1 (by rfl) (At.of_ownN (cx.row (dTn (cx.an 6)).2 rfl)) (by simp[rcC,Value.oneCell']) (by simp only[maxLen];omega) (by omega) rfl rfl rfl (by omega) ((Bo S.recs rt)) (fun g q X' hs hb hv hx=>?_)
 exact⟨hv,hx⟩
 refine svA fun o d W X cx=>?_
 exact bx (n:=1) rfl (cx.an 9) (dTn (cx.an 7)).1 (by kernel_rfl) (by kernel_rfl) (by kernel_rfl) cx (cx.init 0 _ rfl) rfl (nle rfl) (by kernel_rfl) rfl rfl rfl (fun g q X' hs hb hx=>by rw[hb 25];exact hx)
 intro g d X sa hD ef fr aG
 simp only[exq 11 ((dTn (hD 6 lq)).2),exq 12 ((dTn (hD 7 lq)).2),exq 13 ((dTn (hD 10 lq)))] at ef
 simp only[ed 24 ((dTn (hD 6 lq)).1),ed 25 ((dTn (hD 7 lq)).1)] at aG
 generalize pb' (d 24)=QJ,sA (d 25)=Mq,sC (d 25)=Mr at ef aG
 clear hD;subst aG;clear g d X
 refine aa (wq (aH [0,0,2,6,14,0,32,96,224,480,992,2016,4094,8191,16383,32767] [[],[],[],[],[11],[],[],[],[11],[7],[],[],[12,3],[],[],[11]] [[],[],[],[],[],[],[],[],[],[],[],[12],[13],[],[],[14]] [[],[],[],[],[],[],[],[],[],[],[],[],[3],[],[],[11]] [.k 28 (vp sb),.k 29 (vp sb),.k 30 (vp sb),.k 31 (po sb 5),.c 32 (.slice EA S.recs.length ec),.k 33 (vp sb),.k 34 (vp sb),.k 35 (vp sb),.c 36 (vp db),.c 37 (.string D1.log),.k 38 (vi ((D1.log.size:Int))),.a 39,.a 40,.k 41 (vp sb),.k 42 (po sb 5),.n] (fun ix g d X=>match ix with|0|1|2|3|4|5|6|7|8|9|10=>True|11=>g 39= .slice (sA (d 39)) 1 1/\X 12=eO 3 1 (.slice (sA (d 39)) 1 1) 1 ([vi ((D1.log.size:Int))])|12=>g 40= .slice (sA (d 40)) (S.recs.length+1) (sC (d 40))/\X 13=eO 3 1 (.slice (sA (d 40)) (S.recs.length+1) (sC (d 40))) (S.recs.length+1) ((cy (S.L++[rt.r]) (S.recs.length+1)).map (Value.int .i64))|13|14=>True|15=>X 14=eB sb 109 #[vp db,vi S.bufs,.map (some mb),vi S.time,.slice Mq (S.recs.length+1) Mr,.slice (sA (d 40)) (S.recs.length+1) (sC (d 40)),.map (some ib),.map (some tb),vi S.frm]|_=>True) [0,1,2,4,5,6,7,8,9,10,12,13,14] [4,8,9,11,12,15] [(28,0,15,43)] ef ?_ ?_ ?_))
 exact fun ix _ _ _ _ _ _ hs hb hx h=>match ix,h with
 |11,h=>by dsimp only;rw[<-hs 39 rfl,<-hb 39 rfl,<-hx 12 rfl];exact h
 |12,h=>by dsimp only;rw[<-hs 40 rfl,<-hb 40 rfl,<-hx 13 rfl];exact h
 |15,h=>by dsimp only;rw[<-hb 40 rfl,<-hx 14 rfl];exact h
 |0,_|1,_|2,_|3,_|4,_|5,_|6,_|7,_|8,_|9,_|10,_|13,_|14,_|_+16,_=>trivial
 refine⟨?_,?_,?_,?_,?_,?_,trivial⟩
 exact xs4 rfl id fun cx=>ae rfl (by kernel_rfl) (cx.an 3) ((cx.bi 11 rfl).cell 5)
 exact xs4 rfl id fun cx=>ae rfl (by kernel_rfl) (cx.an 7) ((cx.bi 11 rfl).cell 0)
 exact xsc rfl id rfl rfl fun cx=>⟨_,kz db D1 _ (fb (CtxV.holdF cx (cx.init 7 _ rfl) rfl)),(ax (cx.an 8))⟩
 refine svA fun o d W X cx=>?_
 have Py:o (.tmp 38)=vi ((D1.log.size:Int)):=(cx.an 10)
 exact du (e:=3) (xs:=[vi ((D1.log.size:Int))]) rfl (by simp[go_sem,Py]) rfl (by decide) rfl rfl (fun _ _ _ _ _=> .intro)
 refine svA fun o d W X cx=>?_
 obtain⟨i0,hi0,hz0,hz1,hz2⟩:=info_parts Tryz.infoIntJ
 refine eH (n:=S.recs.length) (m:=1) (nm:=S.recs.length+1) (xs:=(cy S.L S.recs.length).map (Value.int .i64)) (news:=[vi ((D1.log.size:Int))]) (xs':=(cy (S.L++[rt.r]) (S.recs.length+1)).map (Value.int .i64)) rfl (ty:=25) rfl (by kernel_rfl) hi0 hz0 hz1 hz2 rfl (cx.an 4) cx (cx.init 3 _ rfl) rfl (dTn (cx.an 11)).1 (by first|(simp;done)|(simp;omega)) (At.of_own (cx.row (dTn (cx.an 11)).2 rfl)) (by simp[Value.oneCell']) (by simp only[maxLen];omega) (by omega) rfl rfl rfl (by omega) ((EH S.L rt.r hlg2 (List.length_map ..))) (fun g q X' hs hb hv hx=>?_)
 exact⟨hv,hx⟩
 refine svA fun o d W X cx=>?_
 exact bx (n:=1) rfl (cx.an 14) (dTn (cx.an 12)).1 (by kernel_rfl) (by kernel_rfl) (by kernel_rfl) cx (cx.init 11 _ rfl) rfl (nle rfl) (by kernel_rfl) rfl rfl rfl (fun g q X' hs hb hx=>by rw[hb 40];exact hx)
 intro g d X w3 hD dH fr aG
 simp only[exq 12 ((dTn (hD 11 lq)).2),exq 13 ((dTn (hD 12 lq)).2),exq 14 ((dTn (hD 15 lq)))] at dH
 simp only[ed 39 ((dTn (hD 11 lq)).1),ed 40 ((dTn (hD 12 lq)).1)] at aG
 generalize sA (d 39)=QK,sA (d 40)=QL,sC (d 40)=QM at dH aG
 clear hD;subst aG;clear g d X
 refine aa (wq (sqr (sqp [.k 4 (vi 0)] ?_)))
 refine aa (wp_ret ?_)
 refine bpr (vi 0) (ai Tryz.results57 rpt) ?_
 obtain⟨fp24_,hk24_⟩:=St.stf (S:={S with D:=D1,recs:=S.recs++[rt]}) (by have h_:=dH.u7.c0.u7.c0.u8.c0.u8.u8.u4.u4.u4.u9;rw[stL,stC];dsimp only[StM.L];rw[List.length_append,List.length_singleton,List.map_append];exact h_) (hrw) (fun t ht=>(List.mem_append.1 ht).elim (hrr t) fun h=>by rw[List.mem_singleton.1 h];exact hrt)
 exact ea.of ((E9 he0).trans (by rw[hD1])) hk24_
theorem Kw(A:Option Addr)(c:Nat)(l:List EdT)(w:World)(hA:At w A (l.flatMap edC))(hI:l.length<=100000):
  Calls Tryz.prog 115 #[.slice A l.length c] w (Bj l w):=by
 go_enter Tryz.func115,Tryz.ntmps115
 have al:=St.start w
 refine wq (sqr (sqp [.k 2 (sn)] ?_))
 refine aa (wq (wq (sqr (sqp [.m 3 0,.k 4 (.bool A.isNone)] ?_))))
 refine aa (wbs (fun aU=>?_) fun aU=>?_)
 refine wq (sqr (sqp [.k 2 (sn)] ?_))
 refine aa (wp_ret (aj ?_))
 refine bpr (sn) (ai Tryz.results115 rpt) ?_
 have hn6:=fh al 84 3
 simp only[List.cons_append,List.nil_append] at hn6
 exact Lo hA (by simpa using aU) hn6
 refine wp_skip (aa (wq ?_))
 obtain⟨a,rfl⟩:∃a,A=some a:=by cases A with|none=>cases aU|some a=>exact⟨a,rfl⟩
 refine sqr ?_
 refine mJ 84 3 0 [] al (@fun d g W X cx=>by simp[go_sem]) fun s9 W7 aZ=>?_
 refine sqp [.m 6 0] ?_
 refine vE l.length (l.flatMap edC) 0 aZ Tryz.infoEdJ (fun cx=>(hA.ext cx.upd.to_ext)) (hl:=by rw[ol bJ]) (h1:=Kg _) fun th ti W9 cq=>?_
 refine sqp [.m 2 7] ?_
 refine aa (wp_ret ?_)
 refine bpr (.slice th l.length ti) (ai Tryz.results115 rpt) ?_
 exact⟨_,_,rfl,cq.pick [0] (by decide) rfl⟩
theorem Bh(w:World):
  Calls Tryz.prog 114 #[sn] w (Ret (sn) w):=by
 go_enter Tryz.func114,Tryz.ntmps114
 have al:=St.start w
 refine wq (sqr (sqp [.k 2 (sn)] ?_))
 refine aa (wq (wq (sqr (sqp [.m 3 0,.k 4 (.bool true)] ?_))))
 refine aa (wct rfl (wq (sqr (sqp [.k 2 (sn)] ?_))))
 refine aa (wp_ret (aj ?_))
 refine bpr (sn) (ai Tryz.results114 rpt) ?_
 exact Ret.of rfl al.ext
theorem Kk(w:World):
  Calls Tryz.prog 116 #[sn] w (Ret (sn) w):=by
 go_enter Tryz.func116,Tryz.ntmps116
 have al:=St.start w
 refine wq (sqr (sqp [.k 2 (sn)] ?_))
 refine aa (wq (wq (sqr (sqp [.m 3 0,.k 4 (.bool true)] ?_))))
 refine aa (wct rfl (wq (sqr (sqp [.k 2 (sn)] ?_))))
 refine aa (wp_ret (aj ?_))
 refine bpr (sn) (ai Tryz.results116 rpt) ?_
 exact Ret.of rfl al.ext
theorem BT(A:Option Addr)(c:Nat)(r:RecM)(w:World)(hA:At w A (r.eds.flatMap edC))(hI:r.eds.length<=100000):
  Calls Tryz.prog 52 #[.agg #[.int .i64 r.kind,.int .i64 r.xid,.int .i64 r.tbl,sn,sn,.slice A r.eds.length c,sn,.string r.note]] w (Jq r w):=by
 go_enter Tryz.func52,Tryz.ntmps52
 have al:=St.start w
 refine wq (sqr ?_)
 refine ce #[vi r.kind,vi r.xid,vi r.tbl,sn,sn,.slice A r.eds.length c,sn,.string r.note] al fun aB W1 aA=>?_
 refine bY #[vi 0,vi 0,vi 0,sn,sn,sn,sn,.string ByteArray.empty] aA fun kH W2 bQ=>?_
 refine aa (wq (aH [0,1,3,0,8,31,0,64,255,0,512,2047,1759,8191,16383,32767,65535,131071,262143,524287] [[],[0],[],[],[0],[],[],[0],[],[],[0],[],[],[0],[],[3],[],[4],[],[5]] [[],[],[],[],[],[],[],[],[2],[],[],[],[],[3],[],[4],[],[5],[],[6]] [[],[],[],[],[],[],[],[],[],[],[],[],[],[0],[],[3],[],[4],[],[5]] [.k 3 (po aB 3),.c 4 (sn),.c 5 (sn),.k 6 (po aB 4),.c 7 (sn),.c 8 (sn),.k 9 (po aB 5),.c 10 (.slice A r.eds.length c),.a 11,.k 12 (po aB 6),.c 13 (sn),.c 14 (sn),.k 15 (po aB 3),.n,.k 16 (po aB 4),.n,.k 17 (po aB 5),.n,.k 18 (po aB 6),.n] (fun ix g d X=>match ix with|0|1|2|3|4|5|6|7=>True|8=>g 11= .slice (sA (d 11)) r.eds.length (sC (d 11))/\X 2=eO 84 3 (.slice (sA (d 11)) r.eds.length (sC (d 11))) r.eds.length (r.eds.flatMap edC)|9|10|11|12=>True|13=>X 3=eB aB 27 #[vi r.kind,vi r.xid,vi r.tbl,sn,sn,.slice A r.eds.length c,sn,.string r.note]|14=>True|15=>X 4=eB aB 27 #[vi r.kind,vi r.xid,vi r.tbl,sn,sn,.slice A r.eds.length c,sn,.string r.note]|16=>True|17=>X 5=eB aB 27 #[vi r.kind,vi r.xid,vi r.tbl,sn,sn,.slice (sA (d 11)) r.eds.length (sC (d 11)),sn,.string r.note]|18=>True|19=>X 6=eB aB 27 #[vi r.kind,vi r.xid,vi r.tbl,sn,sn,.slice (sA (d 11)) r.eds.length (sC (d 11)),sn,.string r.note]|_=>True) [1,2,6] [1,2,4,5,7,8,10,11,13,15,17,19] [(3,0,19,19)] bQ ?_ ?_ ?_))
 exact fun ix _ _ _ _ _ _ hs hb hx h=>match ix,h with
 |8,h=>by dsimp only;rw[<-hs 11 rfl,<-hb 11 rfl,<-hx 2 rfl];exact h
 |13,h=>by dsimp only;rw[<-hx 3 rfl];exact h
 |15,h=>by dsimp only;rw[<-hx 4 rfl];exact h
 |17,h=>by dsimp only;rw[<-hb 11 rfl,<-hx 5 rfl];exact h
 |19,h=>by dsimp only;rw[<-hb 11 rfl,<-hx 6 rfl];exact h
 |0,_|1,_|2,_|3,_|4,_|5,_|6,_|7,_|9,_|10,_|11,_|12,_|14,_|16,_|18,_|_+20,_=>trivial
 refine⟨?_,?_,?_,?_,?_,?_,?_,?_,?_,?_,?_,?_,trivial⟩
 exact xs4 rfl id fun cx=>ae rfl (by kernel_rfl) (cx.an 0) ((cx.bi 0 rfl).cell 3)
 exact xsc rfl id rfl rfl fun cx=>⟨_,Bh _,(ax (cx.an 1))⟩
 exact xs4 rfl id fun cx=>ae rfl (by kernel_rfl) (cx.an 3) ((cx.bi 0 rfl).cell 4)
 exact xsc rfl id rfl rfl fun cx=>⟨_,Bh _,(ax (cx.an 4))⟩
 exact xs4 rfl id fun cx=>ae rfl (by kernel_rfl) (cx.an 6) ((cx.bi 0 rfl).cell 5)
 refine svA fun m d W X cx=>?_
 refine am.call (aq (args:=#[.slice A r.eds.length c]) rfl cx.sees rfl (by kernel_rfl) (ax (cx.an 7))) ?_
 refine(Kw A c r.eds _ (hA.ext cx.upd.to_ext) hI).mono ?_
 rintro e W1 ⟨A4,c4,rfl,aU⟩
 refine⟨_,rfl,vN [eO 84 3 (.slice A4 r.eds.length c4) r.eds.length (r.eds.flatMap edC)] rfl rfl aU (fun g o X' hs hb hv hN=>?_)⟩
 have aK:=(hv 11 rfl).1;have aW:=(hv 11 rfl).2
 exact⟨aK.trans (by rw[aW];rfl),(by rw[aW];exact(List.cons.inj hN).1)⟩
 exact xs4 rfl id fun cx=>ae rfl (by kernel_rfl) (cx.an 9) ((cx.bi 0 rfl).cell 6)
 exact xsc rfl id rfl rfl fun cx=>⟨_,Kk _,(ax (cx.an 10))⟩
 refine svA fun m d W X cx=>?_
 exact bx (n:=1) rfl (cx.an 12) (cx.an 2) (by kernel_rfl) (by kernel_rfl) (by kernel_rfl) cx (cx.init 0 _ rfl) rfl (nle rfl) (by kernel_rfl) rfl rfl rfl (fun _ _ _ _ _=>id)
 refine svA fun m d W X cx=>?_
 exact bx (n:=1) rfl (cx.an 14) (cx.an 5) (by kernel_rfl) (by kernel_rfl) (by kernel_rfl) cx (dTn (cx.an 13)) rfl (nle rfl) (by kernel_rfl) rfl rfl rfl (fun _ _ _ _ _=>id)
 refine svA fun m d W X cx=>?_
 exact bx (n:=1) rfl (cx.an 16) (dTn (cx.an 8)).1 (by kernel_rfl) (by kernel_rfl) (by kernel_rfl) cx (dTn (cx.an 15)) rfl (nle rfl) (by kernel_rfl) rfl rfl rfl (fun g o X' hs hb hx=>by rw[hb 11];exact hx)
 refine svA fun m d W X cx=>?_
 exact bx (n:=1) rfl (cx.an 18) (cx.an 11) (by kernel_rfl) (by kernel_rfl) (by kernel_rfl) cx (dTn (cx.an 17)) rfl (nle rfl) (by kernel_rfl) rfl rfl rfl (fun g o X' hs hb hx=>by rw[hb 11];exact hx)
 intro g d X W3 hD bc fr aG
 simp only[exq 2 ((dTn (hD 8 lq)).2),exq 6 ((dTn (hD 19 lq)))] at bc
 simp only[ed 11 ((dTn (hD 8 lq)).1)] at aG
 generalize sA (d 11)=xo,sC (d 11)=xp at bc aG
 clear hD;subst aG;clear g d X
 refine aa (wq (sqr ?_))
 refine bE 2 8 bc ?_
 refine aV (n:=8) 0 #[vi r.kind,vi r.xid,vi r.tbl,sn,sn,.slice xo r.eds.length xp,sn,.string r.note] bc fun W5 aR=>?_
 refine aa (wp_ret ?_)
 refine bpr (.agg #[vi r.kind,vi r.xid,vi r.tbl,sn,sn,.slice xo r.eds.length xp,sn,.string r.note]) (bA (n:=8) Tryz.results52 rfl (by kernel_rfl) (by kernel_rfl) (aR.blk 0 rfl) rfl) ?_
 exact⟨_,_,rfl,aR.pick [1] (by decide) rfl⟩
end
section
open Go.RowKit
def doR(p:PgS)(e:EdT)(n:Int):PgS:=if doE p e n=0 then doV p e n else bu
theorem rF(h:doE p e n=0):doR p e n=doV p e n:=if_pos h
theorem D8(h:Calls Tryz.prog f args w (gm p e n w)):Calls Tryz.prog f args w (d9 (doR p e n).1 (doR p e n).2.1 (doR p e n).2.2 (doE p e n) w):=by
 refine h.mono fun e' w' h=>?_
 unfold gm at h
 split at h
 rename_i h0
 rw[rF h0,h0];exact h
 rename_i h0
 rw[doR,if_neg h0];exact h
theorem Lh(h:Calls Tryz.prog f args w (ll s w)):Calls Tryz.prog f args w (fun e w'=>∃er,d9 (rdP s).1 (rdP s).2.1 (rdP s).2.2 er w e w'):=by
 refine h.mono fun e' w' h=>?_
 unfold ll at h
 rcases hx:rdX s with _|p
 rw[hx] at h
 obtain⟨er,_,h1,h2⟩:=h
 rw[sB hx]
 exact⟨er,none,0,h1,World.ownsRow_nil _ _ _ _,h2⟩
 rw[hx] at h
 rw[sK hx]
 exact⟨0,h⟩
theorem LdR.rr(hl:LdR S n S' er):S'.rr=S.rr:=by
 have hc:∀(S:StM) (t:BfT),(aM S t).1.rr=S.rr:=fun S t=>by
  unfold aM
  split
  unfold bK
  split<;>rfl
  rfl
 have he:∀(S:StM) (t:BfT),(bw S t).1.rr=S.rr:=fun S t=>by
  unfold bw
  split
  split
  exact hc S t
  exact hc S t
  rfl
 cases hl with
 |hit t ht hn=>rfl
 |bad h1 h2=>rfl
 |new t blk A cc h1 h2 h3=>
  unfold jW
  split
  exact he _ _
  exact he (Go.Proofs.YtcdjaepgahbhfaaGreat.tick S) t
def tZ:Value->Int
 | .int _ z=>z
 |_=>0
inductive RdE (lsn:Int):StM->List EdT->StM->Int->Prop where
 |nil (S:StM):RdE lsn S [] S 0
 |bad {S S1:StM}{x:EdT}{l:List EdT}{er:Int}(h:LdR S x.1 S1 er) (he:er≠0):RdE lsn S (x::l) S1 er
 |skip {S S1 S2:StM}{x:EdT}{l:List EdT}{er:Int}{t:BfT}(h:LdR S x.1 S1 0) (ht:t∈S1.pool) (hn:t.n=x.1) (hs:lsn<t.pg.p.2.1) (hr:RdE lsn S1 l S2 er):RdE lsn S (x::l) S2 er
 |fail {S S1 S2:StM}{x:EdT}{l:List EdT}{er:Int}{t:BfT}(h:LdR S x.1 S1 0) (ht:t∈S1.pool) (hn:t.n=x.1) (hs:¬lsn<t.pg.p.2.1) (hd:doE t.pg.p x lsn≠0) (hr:RdE lsn S1 l S2 er):RdE lsn S (x::l) S2 er
 |good {S S1 S2:StM}{x:EdT}{l:List EdT}{er:Int}{t:BfT}{pg:PgR}(h:LdR S x.1 S1 0) (ht:t∈S1.pool) (hn:t.n=x.1) (hs:¬lsn<t.pg.p.2.1) (hd:doE t.pg.p x lsn=0) (hp:pg.p=doV t.pg.p x lsn) (hr:RdE lsn {S1 with pool:=de S1.pool x.1 (gz pg),rows:=S1.rows++[pg]} l S2 er):RdE lsn S (x::l) S2 er
def imS(S:StM)(n:Int):StM:={S with ni:=mzP S.im n S.ni,im:=cf S.im n (some true)}
def RdR(S:StM)(lsn:Int)(r:RecM)(S':StM)(er:Int):Prop:=(r.kind=8/\∃A c,dY (jR (imS S r.tbl) ⟨rdP r.note,A,c⟩) r.tbl ⟨rdP r.note,A,c⟩ S' er)\/(r.kind≠8/\RdE lsn S r.eds S' er)
theorem SOk.rows(h:SOk S c)(pg:PgR):SOk (jR S pg) c:=⟨h.bufs,h.pgs,h.ws,h.time,h.ni,h.nt,h.right,h.nodup,h.len,h.keys,h.recs,h.log,h.lsz,h.fl,h.cl⟩
theorem qA{d g:Type}(m:d->Option g)(x:d)(n:Nat):mzP m x n<=n+1:=by unfold mzP;split<;>omega
theorem SOk.im(h:SOk S c)(n:Int):SOk (imS S n) (c+1):=⟨h.bufs,h.pgs,fun x hx=>Nat.le_succ_of_le (h.ws x hx),⟨h.time.1,by have:=h.time.2;show S.time<= _;omega⟩,by have h1:=qA S.im n S.ni;have:=h.ni;show mzP S.im n S.ni<=c+1;omega,Nat.le_succ_of_le h.nt,h.right,h.nodup,h.len,h.keys,h.recs,h.log,h.lsz,h.fl,h.cl⟩
theorem SOk.setR(h:SOk S c)(hr:bC pg.p):SOk {S with pool:=de S.pool n (gz pg),rows:=S.rows++[pg]} c:=
 ((h.setp (n:=n) (f:=gz pg) (fun _=>rfl) (fun _ _=>hr) (fun _ _ _ hd=>by cases hd))).rows pg
theorem RdE.ok{l:List EdT}(h:RdE lsn S l S' er):∀{c:Nat},SOk S c->SOk S' (c+3*l.length)/\S'.rr=S.rr/\S'.recs=S.recs/\S'.frm=S.frm:=by
 induction h with
 |nil S=>intro c hc;exact⟨hc,rfl,rfl,rfl⟩
 |bad h he=>intro c hc;exact⟨(hc.load h).mono (by simp only[List.length_cons];omega),h.rr,h.rows.2.1,h.rows.2.2.1⟩
 |skip h ht hn hs hr ih=>intro c hc;obtain⟨a,b,d,e⟩:=ih (hc.load h);exact⟨a.mono (by simp only[List.length_cons];omega),b.trans h.rr,d.trans h.rows.2.1,e.trans h.rows.2.2.1⟩
 |fail h ht hn hs hd hr ih=>intro c hc;obtain⟨a,b,d,e⟩:=ih (hc.load h);exact⟨a.mono (by simp only[List.length_cons];omega),b.trans h.rr,d.trans h.rows.2.1,e.trans h.rows.2.2.1⟩
 |good h ht hn hs hd hp hr ih=>
  intro c hc
  obtain⟨a,b,d,e⟩:=ih ((hc.load h).setR (by rw[hp];exact kt hd))
  exact⟨a.mono (by simp only[List.length_cons];omega),b.trans h.rr,d.trans h.rows.2.1,e.trans h.rows.2.2.1⟩
theorem dY.rr(h:dY S n pg S' er):S'.rr=S.rr/\S'.recs=S.recs/\S'.frm=S.frm:=by
 obtain⟨S1,h1,⟨_,rfl⟩|⟨_,_,rfl⟩⟩:=h
 exact⟨h1.rr,h1.rows.2.1,h1.rows.2.2.1⟩
 exact⟨h1.rr,h1.rows.2.1,h1.rows.2.2.1⟩
theorem RdR.ok(h:RdR S lsn r S' er)(hc:SOk S c)(hr:bv r=true):SOk S' (c+200)/\S'.rr=S.rr/\S'.recs=S.recs/\S'.frm=S.frm:=by
 have hro:=d8 hr
 rcases h with ⟨_,A,cc,h⟩|⟨_,h⟩
 have h1:=SOk.put ((hc.im r.tbl).rows ⟨rdP r.note,A,cc⟩) (sk r.note) h
 exact⟨h1.mono (by omega),h.rr⟩
 obtain⟨a,b⟩:=h.ok hc
 exact⟨a.mono (by have:=hro.many;omega),b⟩
theorem md(h:(eSt sb db S fp).holds W){t:RcT}(ht:t∈S.rr):At W t.A (t.r.eds.flatMap edC):=by
 obtain⟨mb,RA,rc,EA,ec,ib,tb,h1⟩:=qq h
 exact h1.own t ht
def mc(sb db:Nat)(S:StM)(lsn:Int)(r:RecM)(fp:List Nat)(w:World)(e:Ending)(w':World):Prop:=∃er,e= .returned (.int .i64 er)/\∃fp',St w fp [eSx sb db (fun S2=>RdR S lsn r S2 er) fp'] w'
theorem mc.of(h:RdR S lsn r S2 er)(hs:St w fp ([]++[eSt sb db S2 fp']) w'):mc sb db S lsn r fp w (.returned (.int .i64 er)) w':=⟨er,rfl,fp',St.sx (L:=[]) hs h⟩
theorem wa(sb db:Nat)(S:StM)(lsn:Int)(rt:RcT)(c:Nat)(fp:List Nat)(w:World)(hB:(eSt sb db S fp).holds w)(hlt:∀k∈fp,k<w.heap.size)(hok:SOk S c)(hc:c<=900000)(hr:bv rt.r=true)(hrt:rt∈S.rr)(h8:rt.r.kind=8->rt.r.note.size=512):
  Calls Tryz.prog 61 #[po sb 0,.int .i64 lsn,.agg #[.int .i64 rt.r.kind,.int .i64 rt.r.xid,.int .i64 rt.r.tbl,sn,sn,.slice rt.A rt.r.eds.length rt.c,sn,.string rt.r.note]] w (mc sb db S lsn rt.r fp w):=by
 have st1:St w fp [eSt sb db S fp] w:=St.lend hB (dx _ _ _ _) hlt
 have hro:=d8 hr
 have hml:=hro.many
 have hkt:kcI.ok rt.r.tbl:=by have:=hro.tbl;constructor<;>omega
 have hni:=hok.ni
 go_enter Tryz.func61,Tryz.ntmps61
 have al:=st1
 refine wq (sqr ?_)
 refine ce #[vi rt.r.kind,vi rt.r.xid,vi rt.r.tbl,sn,sn,.slice rt.A rt.r.eds.length rt.c,sn,.string rt.r.note] al fun tf W1 aA=>?_
 refine sqp [.k 6 (vi 0)] ?_
 refine aa (wq (wq (sqr (sqp [.k 15 (vp tf)] ?_))))
 refine av 1 aA ?_
 refine sqp [.k 17 (.bool (rt.r.kind==8))] ?_
 refine aa (wbs (fun dC=>?_) fun dC=>?_)
 have s7:=beq_iff_eq.1 dC
 refine wq ?_
 have hk8:rt.r.kind=8:=by simpa using dC
 refine aH [0,1,3,7,15,15,0,95,255] [[],[1],[],[],[],[],[],[3]] [[],[],[2],[],[],[],[3],[4]] [[],[],[],[],[],[],[],[3]] [.k 19 (po tf 7),.c 20 (.string rt.r.note),.a 21,.a 18,.a 22,.a 23,.a 7,.n,.a 8] (fun ix g d X=>match ix with|0|1=>True|2=>g 21= .tuple #[.agg #[vi ((rdP rt.r.note).1),vi ((rdP rt.r.note).2.1),.slice (sA (tg (tg (d 21) 0) 2)) ((rdP rt.r.note).2.2.length) (sC (tg (tg (d 21) 0) 2))],vi (tE (d 21))]/\X 2=eO 9 1 (.slice (sA (tg (tg (d 21) 0) 2)) ((rdP rt.r.note).2.2.length) (sC (tg (tg (d 21) 0) 2))) ((rdP rt.r.note).2.2.length) ((rdP rt.r.note).2.2.map Value.string)|3=>g 18= .tuple #[.agg #[vi ((rdP rt.r.note).1),vi ((rdP rt.r.note).2.1),.slice (sA (tg (tg (d 21) 0) 2)) ((rdP rt.r.note).2.2.length) (sC (tg (tg (d 21) 0) 2))],vi (tE (d 21))]|4=>g 22= .agg #[vi ((rdP rt.r.note).1),vi ((rdP rt.r.note).2.1),.slice (sA (tg (tg (d 21) 0) 2)) ((rdP rt.r.note).2.2.length) (sC (tg (tg (d 21) 0) 2))]|5=>g 23=vi (tE (d 21))|6=>g 7=vp (pb (d 7))/\X 3=eB (pb (d 7)) 48 #[vi 0,vi 0,sn]|7=>X 4=eB (pb (d 7)) 48 #[vi ((rdP rt.r.note).1),vi ((rdP rt.r.note).2.1),.slice (sA (tg (tg (d 21) 0) 2)) ((rdP rt.r.note).2.2.length) (sC (tg (tg (d 21) 0) 2))]|8=>g 8=vi (tE (d 21))|_=>True) [0,1,2,4] [1,2,3,4,5,6,7,8] [(7,6,3,9),(9,3,1,10),(0,0,3,3),(0,4,2,2)] aA ?_ ?_ ?_
 exact fun ix _ _ _ _ _ _ hs hb hx h=>match ix,h with
 |2,h=>by dsimp only;rw[<-hs 21 rfl,<-hb 21 rfl,<-hx 2 rfl];exact h
 |3,h=>by dsimp only;rw[<-hs 18 rfl,<-hb 21 rfl];exact h
 |4,h=>by dsimp only;rw[<-hs 22 rfl,<-hb 21 rfl];exact h
 |5,h=>by dsimp only;rw[<-hs 23 rfl,<-hb 21 rfl];exact h
 |6,h=>by dsimp only;rw[<-hs 7 rfl,<-hb 7 rfl,<-hx 3 rfl];exact h
 |7,h=>by dsimp only;rw[<-hb 7 rfl,<-hb 21 rfl,<-hx 4 rfl];exact h
 |8,h=>by dsimp only;rw[<-hs 8 rfl,<-hb 21 rfl];exact h
 |0,_|1,_|_+9,_=>trivial
 refine⟨?_,?_,?_,?_,?_,?_,?_,?_,trivial⟩
 exact xs4 rfl id fun cx=>ae rfl (by kernel_rfl) (cx.an 0) ((cx.bi 1 rfl).cell 7)
 refine svA fun o d W X cx=>?_
 refine am.call (aq (args:=#[.string rt.r.note]) rfl cx.sees rfl (by kernel_rfl) (ax (cx.an 1))) ?_
 refine(Lh (s6 rt.r.note _ (h8 hk8))).mono ?_
 rintro e W1 ⟨er4,A4,c4,rfl,ho,hx⟩
 refine⟨_,rfl,bL [eO 9 1 (.slice A4 (rdP rt.r.note).2.2.length c4) (rdP rt.r.note).2.2.length ((rdP rt.r.note).2.2.map Value.string)] rfl rfl hx (one_new (cm ho)) (List.pairwise_singleton _ _) (fun g q X' hs hb hv hN=>?_)⟩
 have aK:=(hv 21 rfl).1;have aW:=(hv 21 rfl).2
 exact⟨aK.trans (by rw[aW];exact rfl),(by rw[aW];exact(List.cons.inj hN).1)⟩
 exact sv rfl rfl rfl rfl rfl _ (fun _ _ _ h=>h) (fun d q h=>by rw[h 21 (by decide)]) fun o d W X cx=>dn rfl (dTn (cx.an 2)).1
 exact sv rfl rfl rfl rfl rfl _ (fun _ _ _ h=>h) (fun d q h=>by rw[h 21 (by decide)]) fun o d W X cx=>b8 rfl (dTn (cx.an 3)) rfl
 exact sv rfl rfl rfl rfl rfl _ (fun _ _ _ h=>h) (fun d q h=>by rw[h 21 (by decide)]) fun o d W X cx=>b8 rfl (dTn (cx.an 3)) rfl
 refine svA fun o d W X cx=>?_
 exact dp (cs:=#[vi 0,vi 0,sn]) rfl (by kernel_rfl) rfl rfl (fun _ _ _ _ _=> .intro)
 refine svA fun o d W X cx=>?_
 exact bx (n:=3) rfl (dTn (cx.an 6)).1 (dTn (cx.an 4)) (by kernel_rfl) (by kernel_rfl) (by kernel_rfl) cx (dTn (cx.an 6)).2 rfl (nle rfl) (by kernel_rfl) rfl rfl rfl (fun g q X' hs hb hx=>by rw[hb 7,hb 21];exact hx)
 exact sv rfl rfl rfl rfl rfl _ (fun _ _ _ h=>h) (fun d q h=>by rw[h 21 (by decide)]) fun o d W X cx=>dm rfl (dTn (cx.an 5))
 intro g d X W7 hD aZ fr aG
 simp only[exq 2 ((dTn (hD 2 lq)).2),exq 4 ((dTn (hD 7 lq)))] at aZ
 simp only[ed 21 ((dTn (hD 2 lq)).1),ed 18 ((dTn (hD 3 lq))),ed 22 ((dTn (hD 4 lq))),ed 23 ((dTn (hD 5 lq))),ed 7 ((dTn (hD 6 lq)).1),ed 8 ((dTn (hD 8 lq)))] at aG
 generalize tE (d 21)=Rx,sA (tg (tg (d 21) 0) 2)=kk,sC (tg (tg (d 21) 0) 2)=km,pb (d 7)=RZ at aZ aG
 clear hD;subst aG;clear g d X
 refine aa (wq ?_)
 obtain⟨⟨hrw,hrr⟩,mb,RA,rc,EA,ec,ib,tb,fpd,hv8_⟩:=aZ.unf
 refine aH [0,1,3,7,0,16,63] [[],[],[],[0],[],[10],[7]] [[],[],[],[],[],[],[13]] [[],[],[],[],[],[],[7]] [.k 24 (vp sb),.k 25 (vp sb),.k 26 (po sb 6),.c 27 (.map (some ib)),.k 28 (po tf 2),.c 29 (vi rt.r.tbl),.n] (fun ix g d X=>match ix with|0|1|2|3|4|5=>True|6=>X 13=eMx kcI ecB Tryz.prog 3 ib ((mzP S.im rt.r.tbl S.ni)) (cf S.im rt.r.tbl (some true))|_=>True) [0,1,2,3,4,5,6,8,9,10,11,12,13] [3,5,6] [(24,0,6,30)] hv8_ ?_ ?_ ?_
 exact fun ix _ _ _ _ _ _ hs hb hx h=>match ix,h with
 |6,h=>by dsimp only;rw[<-hx 13 rfl];exact h
 |0,_|1,_|2,_|3,_|4,_|5,_|_+7,_=>trivial
 refine⟨?_,?_,?_,trivial⟩
 exact xs4 rfl id fun cx=>ae rfl (by kernel_rfl) (cx.an 2) ((cx.bi 0 rfl).cell 6)
 exact xs4 rfl id fun cx=>ae rfl (by kernel_rfl) (cx.an 4) ((cx.bi 10 rfl).cell 2)
 refine svA fun o d W X cx=>?_
 exact gA (e:=4) (v:=true) (.inl rfl) (cx.an 3) (show o _=Kc.enc kcI rt.r.tbl from(cx.an 5)) (show o _=Ec.enc ecB true from(cx.co _)) cx (cx.init 7 _ rfl) rfl (trivial) (by omega) (hkt) rfl rfl rfl (fun _ _ _ _ _=>id) (hk:=show Program.underlying _ _= _ from by kernel_rfl)
 intro g d X W9 hD cq fr aG
 simp only[exq 13 ((dTn (hD 6 lq)))] at cq
 clear hD;subst aG;clear g d X
 refine aa (wq ?_)
 have hg10_:=St.apf (r:=(⟨rdP rt.r.note,kk,km⟩:PgR)) cq.u10.u4
 obtain⟨fp11_,hk11_⟩:=St.stf (S:=(jR (imS S rt.r.tbl) (⟨rdP rt.r.note,kk,km⟩:PgR))) (hg10_.u11.u7.u7.u7.u4.u7.u7.u7) (fun t ht=>List.mem_append_left _ (hrw t ht)) (hrr)
 have hok2:=(hok.im rt.r.tbl).rows (⟨rdP rt.r.note,kk,km⟩:PgR)
 refine sqr (sqp [.m 30 0,.k 31 (po tf 2)] ?_)
 refine av 1 hk11_ ?_
 refine bE 2 3 hk11_ ?_
 refine pi (fun x_=>tZ x_) (fun X_=>X_.fp) (fun er34_16=>vi er34_16) (fun er34_16 I3=>eSx sb db (fun S2=>dY (jR (imS S rt.r.tbl) (⟨rdP rt.r.note,kk,km⟩:PgR)) rt.r.tbl (⟨rdP rt.r.note,kk,km⟩:PgR) S2 er34_16) I3) 0 hk11_ (by
   refine svA fun o d W X cx=>?_
   refine am.call (aq (args:=#[vp sb,vi rt.r.tbl,.agg #[vi ((rdP rt.r.note).1),vi ((rdP rt.r.note).2.1),.slice kk ((rdP rt.r.note).2.2.length) km]]) rfl cx.sees rfl (by kernel_rfl) (dN (cx.ou 30) (cx.ou 32) (cx.ou 33))) ?_
   refine(sw sb db (jR (imS S rt.r.tbl) (⟨rdP rt.r.note,kk,km⟩:PgR)) rt.r.tbl (⟨rdP rt.r.note,kk,km⟩:PgR) (c+1) _ _ (CtxV.holdF cx (cx.init 0 _ rfl) rfl) (CtxV.ltF cx (cx.init 0 _ rfl) rfl) hok2 (by omega) hkt (by simp[jR])).mono ?_
   rintro e W1 ⟨er4,rfl,fp4,aU⟩
   refine⟨_,rfl,aN (E:=eSt sb db (jR (imS S rt.r.tbl) (⟨rdP rt.r.note,kk,km⟩:PgR)) fp11_) [eSx sb db (fun S2=>dY (jR (imS S rt.r.tbl) (⟨rdP rt.r.note,kk,km⟩:PgR)) rt.r.tbl (⟨rdP rt.r.note,kk,km⟩:PgR) S2 er4) fp4] (cx.init 0 _ rfl) rfl rfl aU (fun g q X' hs hb hv hN=>?_)⟩
   have aK:=(hv 34 rfl).1;have aW:=(hv 34 rfl).2
   exact⟨aK.trans (by rw[aW];exact rfl),(by rw[aW];exact fN ((List.cons.inj hN).1))⟩) fun er34_16 I3 pU dl=>?_
 refine sqp [.m 6 34] ?_
 refine aa (wp_ret (aj ?_))
 refine bpr (vi er34_16) (ai Tryz.results61 rpt) ?_
 obtain⟨S3,hP,hy18_⟩:=dl.unx
 exact mc.of (.inl ⟨hk8,_,_,hP⟩) (hy18_.pick [0] (by decide) rfl)
 have s7:=beq_eq_false_iff_ne.1 dC
 refine wp_skip (aa (wq (wq (sqr (sqp [.k 35 (po tf 5)] ?_)))))
 refine av 1 aA ?_
 refine sqp [.k 37 (vi ((rt.r.eds.length:Int))),.k 38 (vi 0)] ?_
 refine aa (wp_block ?_)
 refine aT (fun t_ mz az W=>∃j:Nat,∃Sj:StM,∃fpj:List Nat,j<=rt.r.eds.length/\(∀S2 er,RdE lsn Sj (rt.r.eds.drop j) S2 er->RdE lsn S rt.r.eds S2 er)/\SOk Sj (c+3*j)/\rt∈Sj.rr/\mz=rt.r.eds.length-j/\az=⟨(ovr (jv az) [(6,6,1,[]),(3,10,5,[]),(23,38,0,[vi ((j:Int))]),(0,39,40,[])] t_).toArray,[]⟩/\St w fp [eB tf 27 #[vi rt.r.kind,vi rt.r.xid,vi rt.r.tbl,sn,sn,.slice rt.A rt.r.eds.length rt.c,sn,.string rt.r.note],eSt sb db Sj fpj] W) (rt.r.eds.length-0) ?_ ?_
 exact⟨0,S,fp,Nat.zero_le _,fun S2 er h=>h,hok,hrt,rfl,(by kernel_rfl),aA.pk [1,0]⟩
 rintro uO a23 uF ⟨j,Sj,fpj,hj,hcont,hokj,hrtj,rfl,hj_,cG⟩
 refine ovz hj_ fun R0=>?_
 refine wq (sqr (sqp [.k 39 (.bool (decide ((j:Int)<(rt.r.eds.length:Int))))] ?_))
 refine aa (wq (wds (fun Pz N2=>?_) fun Pz N2=>?_))
 refine wp_skip (aa (wq (wp_block (wq ?_))))
 obtain⟨ep,es,eb,hek⟩:=k8 (l:=rt.r.eds) (k:=j) (by omega)
 have hke:edR (ep,es,eb)=true:=hro.eds _ (List.mem_of_getElem? hek)
 have hez:eb.size<=9223372036854775807:=by have:=dA hke;dsimp only at this;omega
 have hkn:kcI.ok ep:=by have:=(ld hke).1;dsimp only at this;constructor<;>omega
 refine sqr ?_
 refine sql (.pointer (some ((ad rt.A).add (j*3)))) cG (fun cx=>aI (e:=84) (m:=j) (sz:=3) rfl (by kernel_rfl) (by kernel_rfl) (cx.ou 36) (cx.ou 38) (by omega) (by omega) (md (CtxV.holdF cx (cx.init 1 _ rfl) rfl) hrtj) (bq (sz:=3) bJ (by decide) (by omega))) ?_
 refine sql (.agg #[vi ep,vi es,.string eb]) cG (fun cx=>bT (f:=edC) (m:=j) (sz:=3) (off:=0) (n:=3) rfl (by kernel_rfl) (by kernel_rfl) (cx.ou 40) rfl bJ (md (CtxV.holdF cx (cx.init 1 _ rfl) rfl) hrtj) hek (fun k hk=>match k,hk with|0,_=>rfl|1,_=>rfl|2,_=>rfl|k+3,hk=>absurd hk (by omega))) ?_
 refine bY #[vi 0,vi 0,.string ByteArray.empty] cG fun Ms zb dU=>?_
 refine aV (n:=3) 2 #[vi ep,vi es,.string eb] dU fun LX kU=>?_
 refine aa (wq (sqr (sqp [.m 43 0,.k 44 (vp Ms)] ?_)))
 refine av 2 kU ?_
 refine xf (fun x_=>tE x_) (fun x_=>tF x_) (fun X_=>X_.fp) (fun er46_33 vp46_33=> .tuple #[vp46_33,vi er46_33]) (fun er46_33 vp46_33 uD=>eSx sb db (fun S2=>LdQ Sj ep S2 er46_33 vp46_33) uD) 1 kU (by
   refine svA fun o d W X cx=>?_
   refine am.call (aq (args:=#[vp sb,vi ep]) rfl cx.sees rfl (by kernel_rfl) (aP (cx.ou 43) (cx.ou 45))) ?_
   refine(nf sb db Sj ep (c+3*j) _ _ (CtxV.holdF cx (cx.init 1 _ rfl) rfl) (CtxV.ltF cx (cx.init 1 _ rfl) rfl) hokj (by omega) hkn).mono ?_
   rintro e W1 ⟨er4,vp4,rfl,fp4,aU⟩
   refine⟨_,rfl,aN (E:=eSt sb db Sj fpj) [eSx sb db (fun S2=>LdQ Sj ep S2 er4 vp4) fp4] (cx.init 1 _ rfl) rfl rfl aU (fun g q X' hs hb hv hN=>?_)⟩
   have aK:=(hv 46 rfl).1;have aW:=(hv 46 rfl).2
   exact⟨aK.trans (by rw[aW];exact rfl),(by rw[aW];exact fN ((List.cons.inj hN).1))⟩) fun er46_33 vp46_33 uD OM rG=>?_
 refine sqp [.m 42 46,.k 47 (vp46_33),.k 48 (vi er46_33),.m 11 47,.m 12 48] ?_
 refine aa (wq (wq ?_))
 obtain⟨S1,hL,hy39_⟩:=rG.u1.unx
 have hok1:=hokj.load hL.1
 refine sqr (sqp [.m 49 12,.k 50 (.bool (er46_33 != 0))] ?_)
 refine aa (wbs (fun vV=>?_) fun vV=>?_)
 have N3:=bne_iff_ne.1 vV
 refine wq (sqr (sqp [.m 51 12,.m 6 51] ?_))
 refine aa (wp_ret (aj (bb (aj (aj (bb (aj ?_)))))))
 refine bpr (vi er46_33) (ai Tryz.results61 rpt) ?_
 exact mc.of (.inr ⟨(by simpa using dC),hcont _ _ (by rw[List.drop_eq_getElem_cons (by omega:j<rt.r.eds.length),show rt.r.eds[j]'(by omega)=(ep,es,eb) from(List.getElem?_eq_some_iff.1 hek).2];exact RdE.bad hL.1 (by simpa using vV))⟩) (hy39_.pick [0] (by decide) rfl)
 have N3:=bne_eq_false_iff_eq.1 vV
 refine wp_skip (aa (wq (wq ?_)))
 have hl0:=A7 hL.1 (by simpa using vV)
 obtain⟨t,htm_t,rfl,rfl⟩:=hL.2 (by simpa using vV)
 obtain⟨⟨hrw1,hrr1⟩,mb1,RA1,rc1,EA1,ec1,ib1,tb1,fpd1,hv45_⟩:=hy39_.unf
 obtain⟨A,B,hAB⟩:=List.append_of_mem htm_t
 have hnd:((A++t::B).map BfT.n).Nodup:=by rw[<-hAB];exact hok1.nodup
 have hri:=hok1.right t htm_t
 rw[hAB] at hv45_
 have ho46_:=St.obf (t:=t) hv45_.u2
 refine sqr (sqp [.m 52 11,.k 53 (po t.blk 0),.k 54 (po t.blk 0),.k 55 (po t.blk 1)] ?_)
 refine av 1 ho46_ ?_
 refine sqp [.m 57 1,.k 58 (.bool (decide (lsn<t.pg.p.2.1)))] ?_
 refine aa (wds (fun CQ N4=>?_) fun CQ N4=>?_)
 refine wp_exit (au (bh (aa (sqr (sqp [sI 78 ((j:Int)+1) (by omega),.m 38 78] ?_)))))
 refine aa ?_
 have hi57_:=St.ibf (t:=t) ho46_
 obtain⟨fp58_,hk58_⟩:=St.stf (S:=S1) (by have h_:=hi57_.u2.u2;rw[<-hAB] at h_;exact h_) (hrw1) (hrr1)
 refine⟨rt.r.eds.length-((j+1)),by omega,?_⟩
 exact⟨(j+1),S1,fp58_,by omega,(fun S2 er h=>hcont S2 er (by rw[List.drop_eq_getElem_cons (by omega:j<rt.r.eds.length),show rt.r.eds[j]'(by omega)=(t.n,es,eb) from(List.getElem?_eq_some_iff.1 hek).2];exact RdE.skip (x:=(t.n,es,eb)) hl0 htm_t rfl (of_decide_eq_true CQ) h)),(hok1.mono (by omega)),(by show rt∈S1.rr;rw[hl0.rr];exact hrtj),rfl,(by kernel_rfl),hk58_.pk [1,0]⟩
 refine wp_skip (aa (wq (aH [0,1,3,7,0,0,63,127,255,255,0,1535,4095] [[],[],[],[1],[12],[],[4],[],[],[],[],[14]] [[],[],[],[],[],[],[13],[],[],[],[14],[15]] [[],[],[],[],[],[],[],[],[],[],[],[14]] [.k 60 (po t.blk 0),.k 61 (po t.blk 0),.k 62 (po t.blk 0),.c 63 (.agg #[vi t.pg.p.1,vi t.pg.p.2.1,.slice t.pg.A t.pg.p.2.2.length t.pg.c]),.c 64 (.agg #[vi t.n,vi es,.string eb]),.k 65 (vi lsn),.a 66,.a 59,.a 67,.c 68 (vi ((doE t.pg.p (t.n,es,eb) lsn))),.a 13,.n,.k 14 (vi ((doE t.pg.p (t.n,es,eb) lsn)))] (fun ix g d X=>match ix with|0|1|2|3|4|5=>True|6=>g 66= .tuple #[.agg #[vi ((doR t.pg.p (t.n,es,eb) lsn).1),vi ((doR t.pg.p (t.n,es,eb) lsn).2.1),.slice (sA (tg (tg (d 66) 0) 2)) ((doR t.pg.p (t.n,es,eb) lsn).2.2.length) (sC (tg (tg (d 66) 0) 2))],vi ((doE t.pg.p (t.n,es,eb) lsn))]/\X 13=eO 9 1 (.slice (sA (tg (tg (d 66) 0) 2)) ((doR t.pg.p (t.n,es,eb) lsn).2.2.length) (sC (tg (tg (d 66) 0) 2))) ((doR t.pg.p (t.n,es,eb) lsn).2.2.length) ((doR t.pg.p (t.n,es,eb) lsn).2.2.map Value.string)|7=>g 59= .tuple #[.agg #[vi ((doR t.pg.p (t.n,es,eb) lsn).1),vi ((doR t.pg.p (t.n,es,eb) lsn).2.1),.slice (sA (tg (tg (d 66) 0) 2)) ((doR t.pg.p (t.n,es,eb) lsn).2.2.length) (sC (tg (tg (d 66) 0) 2))],vi ((doE t.pg.p (t.n,es,eb) lsn))]|8=>g 67= .agg #[vi ((doR t.pg.p (t.n,es,eb) lsn).1),vi ((doR t.pg.p (t.n,es,eb) lsn).2.1),.slice (sA (tg (tg (d 66) 0) 2)) ((doR t.pg.p (t.n,es,eb) lsn).2.2.length) (sC (tg (tg (d 66) 0) 2))]|9=>True|10=>g 13=vp (pb (d 13))/\X 14=eB (pb (d 13)) 48 #[vi 0,vi 0,sn]|11=>X 15=eB (pb (d 13)) 48 #[vi ((doR t.pg.p (t.n,es,eb) lsn).1),vi ((doR t.pg.p (t.n,es,eb) lsn).2.1),.slice (sA (tg (tg (d 66) 0) 2)) ((doR t.pg.p (t.n,es,eb) lsn).2.2.length) (sC (tg (tg (d 66) 0) 2))]|_=>True) [0,1,2,3,4,5,6,7,8,9,10,11,12,13,15] [3,4,6,7,8,9,10,11] [(13,10,3,15),(44,7,1,45),(0,0,7,7),(0,8,2,2)] ho46_ ?_ ?_ ?_)))
 exact fun ix _ _ _ _ _ _ hs hb hx h=>match ix,h with
 |6,h=>by dsimp only;rw[<-hs 66 rfl,<-hb 66 rfl,<-hx 13 rfl];exact h
 |7,h=>by dsimp only;rw[<-hs 59 rfl,<-hb 66 rfl];exact h
 |8,h=>by dsimp only;rw[<-hs 67 rfl,<-hb 66 rfl];exact h
 |10,h=>by dsimp only;rw[<-hs 13 rfl,<-hb 13 rfl,<-hx 14 rfl];exact h
 |11,h=>by dsimp only;rw[<-hb 13 rfl,<-hb 66 rfl,<-hx 15 rfl];exact h
 |0,_|1,_|2,_|3,_|4,_|5,_|9,_|_+12,_=>trivial
 refine⟨?_,?_,?_,?_,?_,?_,?_,?_,trivial⟩
 exact xs4 rfl id fun cx=>cg (n:=3) rfl (by kernel_rfl) (by kernel_rfl) (cx.an 2) (cx.bi 1 rfl) (nle rfl) rfl
 exact xs4 rfl id fun cx=>cg (n:=3) rfl (by kernel_rfl) (by kernel_rfl) (cx.ou 10) (cx.bi 12 rfl) (nle rfl) rfl
 refine svA fun o d W X cx=>?_
 refine am.call (aq (args:=#[.agg #[vi t.pg.p.1,vi t.pg.p.2.1,.slice t.pg.A t.pg.p.2.2.length t.pg.c],.agg #[vi t.n,vi es,.string eb],vi lsn]) rfl cx.sees rfl (by kernel_rfl) (dN (cx.an 3) (cx.an 4) (cx.an 5))) ?_
 refine(D8 (x4 t.pg.p.1 t.pg.p.2.1 _ _ t.pg.p.2.2 t.n es eb lsn _ (jd (CtxV.holdF cx (cx.init 4 _ rfl) rfl) (hrw1 t htm_t)) hri.1 (ek hri.1) hez)).mono ?_
 rintro e W1 ⟨A4,c4,rfl,ho,hx⟩
 refine⟨_,rfl,bL [eO 9 1 (.slice A4 (doR t.pg.p (t.n,es,eb) lsn).2.2.length c4) (doR t.pg.p (t.n,es,eb) lsn).2.2.length ((doR t.pg.p (t.n,es,eb) lsn).2.2.map Value.string)] rfl rfl hx (one_new (cm ho)) (List.pairwise_singleton _ _) (fun g q X' hs hb hv hN=>?_)⟩
 have aK:=(hv 66 rfl).1;have aW:=(hv 66 rfl).2
 exact⟨aK.trans (by rw[aW];exact rfl),(by rw[aW];exact(List.cons.inj hN).1)⟩
 exact sv rfl rfl rfl rfl rfl _ (fun _ _ _ h=>h) (fun d q h=>by rw[h 66 (by decide)]) fun o d W X cx=>dn rfl (dTn (cx.an 6)).1
 exact sv rfl rfl rfl rfl rfl _ (fun _ _ _ h=>h) (fun d q h=>by rw[h 66 (by decide)]) fun o d W X cx=>b8 rfl (dTn (cx.an 7)) rfl
 exact xs4 rfl id fun cx=>b8 rfl (dTn (cx.an 7)) rfl
 refine svA fun o d W X cx=>?_
 exact dp (cs:=#[vi 0,vi 0,sn]) rfl (by kernel_rfl) rfl rfl (fun _ _ _ _ _=> .intro)
 refine svA fun o d W X cx=>?_
 exact bx (n:=3) rfl (dTn (cx.an 10)).1 (dTn (cx.an 8)) (by kernel_rfl) (by kernel_rfl) (by kernel_rfl) cx (dTn (cx.an 10)).2 rfl (nle rfl) (by kernel_rfl) rfl rfl rfl (fun g q X' hs hb hx=>by rw[hb 13,hb 66];exact hx)
 intro g d X Fi hD fY fr aG
 simp only[exq 13 ((dTn (hD 6 lq)).2),exq 15 ((dTn (hD 11 lq)))] at fY
 simp only[ed 66 ((dTn (hD 6 lq)).1),ed 59 ((dTn (hD 7 lq))),ed 67 ((dTn (hD 8 lq))),ed 13 ((dTn (hD 10 lq)).1)] at aG
 generalize sA (tg (tg (d 66) 0) 2)=fR,sC (tg (tg (d 66) 0) 2)=fS,pb (d 13)=QN at fY aG
 clear hD;subst aG;clear g d X
 refine aa (wq (sqr (sqp [.m 69 14,.k 70 (.bool ((doE t.pg.p (t.n,es,eb) lsn)==0))] ?_)))
 refine aa (wbs (fun m6=>?_) fun m6=>?_)
 have CR:=beq_iff_eq.1 m6
 have hd0:doE t.pg.p (t.n,es,eb) lsn=0:=by simpa using m6
 refine sqr (sqp [.m 71 11,.m 72 11] ?_)
 refine bE 14 3 fY ?_
 refine sqp [.k 74 (po t.blk 0),.k 75 (po t.blk 0)] ?_
 refine aV (n:=3) 1 #[vi ((doR t.pg.p (t.n,es,eb) lsn).1),vi ((doR t.pg.p (t.n,es,eb) lsn).2.1),.slice fR ((doR t.pg.p (t.n,es,eb) lsn).2.2.length) fS,.bool t.dirty,vi t.used] fY fun Fj gG=>?_
 refine sqp [.k 76 (po t.blk 0),.k 77 (po t.blk 3)] ?_
 refine aV (n:=1) 1 #[vi ((doR t.pg.p (t.n,es,eb) lsn).1),vi ((doR t.pg.p (t.n,es,eb) lsn).2.1),.slice fR ((doR t.pg.p (t.n,es,eb) lsn).2.2.length) fS,.bool true,vi t.used] gG fun OW nI=>?_
 refine aw (aa (sqr (sqp [sI 78 ((j:Int)+1) (by omega),.m 38 78] ?_)))
 refine aa ?_
 have hg74_:=St.apf (r:=(⟨doR t.pg.p (t.n,es,eb) lsn,fR,fS⟩:PgR)) nI.u13.u5
 have hi75_:=St.ibf (t:=(gz (⟨doR t.pg.p (t.n,es,eb) lsn,fR,fS⟩:PgR) t)) hg74_.u2.u2
 obtain⟨fp76_,hk76_⟩:=St.stf (S:={S1 with pool:=de S1.pool t.n (gz (⟨doR t.pg.p (t.n,es,eb) lsn,fR,fS⟩:PgR)),rows:=S1.rows++[(⟨doR t.pg.p (t.n,es,eb) lsn,fR,fS⟩:PgR)]}) (by have h_:=hi75_.u3.u3;rw[stL,stC];dsimp only;rw[hAB,kr hnd,og (A:=A) (B:=B) (t:=t) (u:=gz (⟨doR t.pg.p (t.n,es,eb) lsn,fR,fS⟩:PgR) t) rfl rfl,show (A++gz (⟨doR t.pg.p (t.n,es,eb) lsn,fR,fS⟩:PgR) t::B).length=(A++t::B).length by simp];exact h_) (by show ∀u∈de S1.pool t.n (gz (⟨doR t.pg.p (t.n,es,eb) lsn,fR,fS⟩:PgR)),u.pg∈S1.rows++[(⟨doR t.pg.p (t.n,es,eb) lsn,fR,fS⟩:PgR)];rw[hAB,kr hnd];exact fun u hu=>(List.mem_append.1 hu).elim (fun h=>List.mem_append_left _ (hrw1 u (by rw[hAB];simp[h]))) fun h=>(List.mem_cons.1 h).elim (fun h=>by rw[h];exact List.mem_append_right _ (List.mem_singleton.2 rfl)) fun h=>List.mem_append_left _ (hrw1 u (by rw[hAB];simp[h]))) (hrr1)
 refine⟨rt.r.eds.length-((j+1)),by omega,?_⟩
 exact⟨(j+1),{S1 with pool:=de S1.pool t.n (gz (⟨doR t.pg.p (t.n,es,eb) lsn,fR,fS⟩:PgR)),rows:=S1.rows++[(⟨doR t.pg.p (t.n,es,eb) lsn,fR,fS⟩:PgR)]},fp76_,by omega,(fun S2 er h=>hcont S2 er (by rw[List.drop_eq_getElem_cons (by omega:j<rt.r.eds.length),show rt.r.eds[j]'(by omega)=(t.n,es,eb) from(List.getElem?_eq_some_iff.1 hek).2];exact RdE.good (x:=(t.n,es,eb)) (pg:=(⟨doR t.pg.p (t.n,es,eb) lsn,fR,fS⟩:PgR)) hl0 htm_t rfl (of_decide_eq_false CQ) hd0 (rF hd0) h)),((hok1.setR (n:=t.n) (pg:=(⟨doR t.pg.p (t.n,es,eb) lsn,fR,fS⟩:PgR)) (by rw[show ((⟨doR t.pg.p (t.n,es,eb) lsn,fR,fS⟩:PgR)).p= _ from rF hd0];exact kt hd0)).mono (by omega)),(by show rt∈S1.rr;rw[hl0.rr];exact hrtj),rfl,(by kernel_rfl),hk76_.pk [1,0]⟩
 have CR:=beq_eq_false_iff_ne.1 m6
 refine wp_skip (aw (aa (sqr (sqp [sI 78 ((j:Int)+1) (by omega),.m 38 78] ?_))))
 refine aa ?_
 have hi79_:=St.ibf (t:=t) fY
 obtain⟨fp80_,hk80_⟩:=St.stf (S:=S1) (by have h_:=hi79_.u2.u2;rw[<-hAB] at h_;exact h_) (hrw1) (hrr1)
 refine⟨rt.r.eds.length-((j+1)),by omega,?_⟩
 exact⟨(j+1),S1,fp80_,by omega,(fun S2 er h=>hcont S2 er (by rw[List.drop_eq_getElem_cons (by omega:j<rt.r.eds.length),show rt.r.eds[j]'(by omega)=(t.n,es,eb) from(List.getElem?_eq_some_iff.1 hek).2];exact RdE.fail (x:=(t.n,es,eb)) hl0 htm_t rfl (of_decide_eq_false CQ) (by simpa using m6) h)),(hok1.mono (by omega)),(by show rt∈S1.rr;rw[hl0.rr];exact hrtj),rfl,(by kernel_rfl),hk80_.pk [1,0]⟩
 refine wp_exit (au (au (bh (aa (wq (sqr (sqp [.k 6 (vi 0)] ?_)))))))
 refine aa (wp_ret ?_)
 refine bpr (vi 0) (ai Tryz.results61 rpt) ?_
 exact mc.of (.inr ⟨(by simpa using dC),hcont _ _ (by rw[List.drop_of_length_le (by omega)];exact RdE.nil _)⟩) (cG.pick [1] (by decide) rfl)
end
section
open Go.RowKit
def ky(sb db:Nat)(S:StM)(mb:Nat)(RA:Option Addr)(rc:Nat)(EA:Option Addr)(ec ib tb:Nat)(fpd fp:List Nat):Ent:=⟨fp,fun W=>((∀t∈S.pool,t.pg∈S.rows)/\∀t∈S.recs,t∈S.rr)/\fp=(stL sb db S mb RA rc EA ec ib tb fpd).flatMap (·.fp)/\(stL sb db S mb RA rc EA ec ib tb fpd).Pairwise Ent.apart/\∀e∈stL sb db S mb RA rc EA ec ib tb fpd,e.holds W/\e.loc⟩
theorem rv(h:(ky sb db S mb RA rc EA ec ib tb fpd fp).holds W):(eSt sb db S fp).holds W:=⟨h.1,mb,RA,rc,EA,ec,ib,tb,fpd,h.2⟩
theorem yq(sb db:Nat)(S:StM)(mb:Nat)(RA:Option Addr)(rc:Nat)(EA:Option Addr)(ec ib tb:Nat)(fpd fp:List Nat):(ky sb db S mb RA rc EA ec ib tb fpd fp).loc:=fun W W' hk h=>by
 obtain⟨h0,h1,h2,h3⟩:=h
 exact⟨h0,h1,h2,fun e he=>⟨(h3 e he).2 W W' (fun k hk'=>hk k (by rw[ky,h1];exact List.mem_flatMap.2 ⟨e,he,hk'⟩)) (h3 e he).1,(h3 e he).2⟩⟩
theorem St.toA{L:List Ent}(h:St w0 bor (L++[eSt sb db S fp]) W):∃mb RA rc EA ec ib tb fpd,St w0 bor (L++[ky sb db S mb RA rc EA ec ib tb fpd fp]) W:=by
 obtain⟨h0,mb,RA,rc,EA,ec,ib,tb,fpd,h1⟩:=(h.ok (eSt sb db S fp) (by simp)).holds
 exact⟨mb,RA,rc,EA,ec,ib,tb,fpd,St.repl (L2:=[]) h rfl (fun _=>⟨h0,h1⟩) (yq _ _ _ _ _ _ _ _ _ _ _ _)⟩
theorem St.ofA{L:List Ent}(h:St w0 bor (L++[ky sb db S mb RA rc EA ec ib tb fpd fp]) W):St w0 bor (L++[eSt sb db S fp]) W:=St.repl (L2:=[]) h rfl rv (dx _ _ _ _)
theorem jr(h:(ky sb db S mb RA rc EA ec ib tb fpd fp).holds W):StO W sb db S mb RA rc EA ec ib tb:=Ef fun e he=>(h.2.2.2 e he).1
def scL(L:List RecM)(Ps:List RcT)(LA:Option Addr)(lc:Nat)(EA:Option Addr)(ec:Nat):List Ent:=[eO 27 8 (.slice LA L.length lc) L.length (Ps.flatMap rcC),eO 3 1 (.slice EA L.length ec) L.length ((cy L L.length).map (Value.int .i64)),eRc Ps]
def eSc(L:List RecM)(LA:Option Addr)(lc:Nat)(EA:Option Addr)(ec:Nat)(fp:List Nat):Ent:=⟨fp,fun W=>∃Ps,Ps.map RcT.r=L/\fp=(scL L Ps LA lc EA ec).flatMap (·.fp)/\(scL L Ps LA lc EA ec).Pairwise Ent.apart/\∀e∈scL L Ps LA lc EA ec,e.holds W/\e.loc⟩
theorem Kj(L:List RecM)(LA:Option Addr)(lc:Nat)(EA:Option Addr)(ec:Nat)(fp:List Nat):(eSc L LA lc EA ec fp).loc:=fun W W' hk h=>by
 obtain⟨Ps,h0,h1,h2,h3⟩:=h
 exact⟨Ps,h0,h1,h2,fun e he=>⟨(h3 e he).2 W W' (fun k hk'=>hk k (by rw[eSc,h1];exact List.mem_flatMap.2 ⟨e,he,hk'⟩)) (h3 e he).1,(h3 e he).2⟩⟩
theorem GY{e:Ent}(h:e=eSc L LA lc EA ec fp):e=eSc L LA lc EA ec e.fp:=by subst h;rfl
theorem St.sc{Ps:List RcT}(h:St w0 bor (L0++scL L Ps LA lc EA ec) W)(hp:Ps.map RcT.r=L):∃fp,St w0 bor (L0++[eSc L LA lc EA ec fp]) W:=by
 refine⟨_,St.pack (E:=eSc L LA lc EA ec ((scL L Ps LA lc EA ec).flatMap (·.fp))) h rfl ⟨Ps,hp,rfl,(List.pairwise_append.1 h.apart).2.1,fun e he=>?_⟩ (Kj _ _ _ _ _ _)⟩
 have h3:=h.ok e (List.mem_append_right _ he)
 exact⟨h3.holds,h3.loc⟩
theorem St.unsc(h:St w0 bor (L0++[eSc L LA lc EA ec fp]) W):∃Ps,Ps.map RcT.r=L/\St w0 bor (L0++scL L Ps LA lc EA ec) W:=by
 obtain⟨Ps,h0,h1,h2,h3⟩:=(h.ok (eSc L LA lc EA ec fp) (by simp)).holds
 exact⟨Ps,h0,h.unpackL h1 h3 h2⟩
theorem St.unscf(h:St w0 bor (eSc L LA lc EA ec fp::L0) W):∃Ps,Ps.map RcT.r=L/\St w0 bor (eO 27 8 (.slice LA L.length lc) L.length (Ps.flatMap rcC)::eO 3 1 (.slice EA L.length ec) L.length ((cy L L.length).map (Value.int .i64))::eRc Ps::L0) W:=by
 obtain⟨Ps,h1,h2⟩:=St.unsc (h.perm (List.perm_append_singleton _ _).symm)
 exact⟨Ps,h1,h2.perm List.perm_append_comm⟩
theorem GH(h:Calls Tryz.prog f args w (Fb L w)):Calls Tryz.prog f args w (fun e w'=>∃LA lc EA ec fp,e= .returned (.tuple #[.slice LA L.length lc,.slice EA L.length ec])/\St w [] [eSc L LA lc EA ec fp] w'):=by
 refine h.mono fun e w' h=>?_
 obtain⟨LA,lc,EA,ec,Ps,h1,h2,h3⟩:=h
 obtain⟨fp,h4⟩:=St.sc (L0:=[]) h3 h1
 exact⟨LA,lc,EA,ec,fp,h2,h4⟩
theorem St.dkOf{L:List Ent}(h:St w0 bor (L++[eSt sb db S fp]) W):∃fpd,St w0 bor (L++[eDk db S.D fpd]) W:=by
 obtain⟨_,mb,RA,rc,EA,ec,ib,tb,fpd,h1⟩:=h.unst
 have h2:St w0 bor ((L++[eDk db S.D fpd])++[eB sb 109 (stC db S mb RA rc EA ec ib tb),eMx kcI ptX Tryz.prog 3 mb S.pool.length (atM S.pool),eA (S.pool.map fq),eM (S.rows.map dM),eO 27 8 (.slice RA S.recs.length rc) S.recs.length (S.recs.flatMap rcC),eO 3 1 (.slice EA S.recs.length ec) S.recs.length ((cy S.L S.recs.length).map (Value.int .i64)),eRc S.rr,eMx kcI ecB Tryz.prog 3 ib S.ni S.im,eMx kcI ecB Tryz.prog 3 tb S.nt S.told]) W:=h1.perm (by
  rw[List.append_assoc]
  refine List.Perm.append_left L ?_
  exact List.perm_append_comm (l₁:=[_,_,_,_,_,_,_,_,_]) (l₂:=[_]))
 exact⟨fpd,⟨h2.upd,fun e he=>h2.ok e (List.mem_append_left _ he),(List.pairwise_append.1 h2.apart).1⟩⟩
inductive RdL:Nat->StM->List RecM->StM->Int->Prop where
 |nil (k:Nat) (S:StM):RdL k S [] S 0
 |bad {k:Nat}{S S1:StM}{r:RecM}{l:List RecM}{er:Int}(h:RdR S ((k:Int)+1) r S1 er) (he:er≠0):RdL k S (r::l) S1 er
 |cons {k:Nat}{S S1 S2:StM}{r:RecM}{l:List RecM}{er:Int}(h:RdR S ((k:Int)+1) r S1 0) (hr:RdL (k+1) S1 l S2 er):RdL k S (r::l) S2 er
def f6(D:DkM)(L:List RecM):DkM×Int:=if szF L<D.log.size then opD D (ctE D (szF L)) (ctD (szF L)) else (D,0)
def iL(D:DkM)(bufs:Int)(rs:List RcT)(frm:Int):StM:=⟨D,bufs,[],0,rs,0,fun _=>none,0,fun _=>none,frm,[],rs⟩
inductive OpnR (D:DkM) (bufs:Int) (L:List RecM):(StM ⊕ DkM)->Int->Prop where
 |bufs (h:¬(1<=bufs/\bufs<=64)):OpnR D bufs L (.inr D) 30
 |off (h:1<=bufs/\bufs<=64) (ho:D.off=true):OpnR D bufs L (.inr D) 24
 |form (h:1<=bufs/\bufs<=64) (ho:D.off=false) (hf:bm L=0):OpnR D bufs L (.inr D) 11
 |cut (h:1<=bufs/\bufs<=64) (ho:D.off=false) (hf:bm L≠0) (hc:(f6 D L).2≠0):OpnR D bufs L (.inr (f6 D L).1) (f6 D L).2
 |bad (h:1<=bufs/\bufs<=64) (ho:D.off=false) (hf:bm L≠0) (hc:(f6 D L).2=0) (rs:List RcT) (hrs:rs.map RcT.r=L){S:StM}{er:Int}(hr:RdL (bm L) (iL (f6 D L).1 bufs rs (bm L)) (L.drop (bm L)) S er) (he:er≠0):OpnR D bufs L (.inr S.D) er
 |ok (h:1<=bufs/\bufs<=64) (ho:D.off=false) (hf:bm L≠0) (hc:(f6 D L).2=0) (rs:List RcT) (hrs:rs.map RcT.r=L){S:StM}(hr:RdL (bm L) (iL (f6 D L).1 bufs rs (bm L)) (L.drop (bm L)) S 0):OpnR D bufs L (.inl S) 0
def opP(sb:Nat):(StM ⊕ DkM)->Value
 | .inl _=> .pointer (some ⟨sb,0,none⟩)
 | .inr _=> .pointer none
def eOp(sb db:Nat)(R:StM ⊕ DkM)(fp:List Nat):Ent:=match R with
 | .inl S=>eSt sb db S fp
 | .inr D=>eDk db D fp
theorem K1(sb db:Nat)(R:StM ⊕ DkM)(fp:List Nat):(eOp sb db R fp).fp=fp:=by cases R<;>rfl
theorem JG(sb db:Nat)(R:StM ⊕ DkM)(fp:List Nat):(eOp sb db R fp).loc:=by
 cases R with
 |inl S=>exact dx _ _ _ _
 |inr D=>exact dV _ _ _
def eOx(db:Nat)(D:DkM)(bufs:Int)(L:List RecM)(v:Value)(er:Int)(fp:List Nat):Ent:=⟨fp,fun W=>∃sb R,OpnR D bufs L R er/\v=opP sb R/\(eOp sb db R fp).holds W⟩
theorem AO(db:Nat)(D:DkM)(bufs:Int)(L:List RecM)(v:Value)(er:Int)(fp:List Nat):(eOx db D bufs L v er fp).loc:=fun W W' hk h=>by
 obtain⟨sb,R,h1,h2,h3⟩:=h
 exact⟨sb,R,h1,h2,JG sb db R fp W W' (fun k hk'=>hk k (by rw[K1] at hk';exact hk')) h3⟩
def fK(db:Nat)(D:DkM)(bufs:Int)(L:List RecM)(fp:List Nat)(w:World)(e:Ending)(w':World):Prop:=∃v er,e= .returned (.tuple #[v,.int .i64 er])/\∃fp',St w fp [eOx db D bufs L v er fp'] w'
theorem fK.st{bufs:Int}(h:OpnR D bufs L (.inl S) er)(hs:St w fp ([]++[eSt sb db S fp']) w'):fK db D bufs L fp w (.returned (.tuple #[po sb 0,.int .i64 er])) w':=
 ⟨_,er,rfl,fp',St.repl (L1:=[]) (L2:=[]) (E':=eOx db D bufs L (po sb 0) er fp') hs rfl (fun h1=>⟨sb,.inl S,h,rfl,h1⟩) (AO _ _ _ _ _ _ _)⟩
theorem fK.dk{D':DkM}{bufs:Int}(h:OpnR D bufs L (.inr D') er)(hs:St w fp ([]++[eDk db D' fp']) w'):fK db D bufs L fp w (.returned (.tuple #[.pointer none,.int .i64 er])) w':=
 ⟨_,er,rfl,fp',St.repl (L1:=[]) (L2:=[]) (E':=eOx db D bufs L (.pointer none) er fp') hs rfl (fun h1=>⟨0,.inr D',h,rfl,h1⟩) (AO _ _ _ _ _ _ _)⟩
theorem tV(h:L[j]? =some r):bm (L.take (j+1))=if r.kind=9 then j+1 else bm (L.take j):=by
 obtain⟨hj,rfl⟩:=List.getElem?_eq_some_iff.1 h
 rw[List.take_succ_eq_append_getElem hj,gn,List.length_take,Nat.min_eq_left (by omega)]
theorem o4(L:List RecM):bm L<=L.length:=by
 induction L using mF with
 |h0=>exact Nat.le_refl _
 |hs L r ih=>
  rw[gn,List.length_append,List.length_singleton]
  split<;>omega
theorem SOk.opn{D:DkM}{bufs:Int}{rs:List RcT}{frm:Int}(hb:1<=bufs/\bufs<=64)(hp:D.pgs.length<=400)(hw:∀x∈D.pgs,x.ws.length<=c)(hr:∀r∈rs.map RcT.r,bv r=true)(hl:D.log=ei (rs.map RcT.r))(hz:D.log.size<=1048576)(hf:D.fl<=D.log.size):SOk (iL D bufs rs frm) c:=
 ⟨hb,hp,hw,⟨Int.le_refl _,Int.natCast_nonneg _⟩,Nat.zero_le _,Nat.zero_le _,(fun t ht=>by cases ht),List.nodup_nil,by show ((0:Nat):Int)<=bufs;omega,(fun t ht=>by cases ht),hr,hl,hz,hf,fun t ht=>by cases ht⟩
theorem Bl{tl:ByteArray}(hl:D.log=ei L++tl)(hf:D.fl<=D.log.size)(h0:(f6 D L).2=0):(f6 D L).1.log=ei L/\(f6 D L).1.pgs=D.pgs/\(f6 D L).1.fl=min D.fl (szF L)/\(f6 D L).1.armed=D.armed/\(f6 D L).1.off=D.off:=by
 have hz:D.log.size=szF L+tl.size:=by rw[hl,ByteArray.size_append,ck]
 unfold f6 at h0 |-
 split
 rename_i h1
 rw[if_pos h1] at h0
 obtain⟨h2,h3,h4⟩:=mO h0
 rw[h4]
 refine⟨?_,rfl,rfl,rfl,rfl⟩
 show D.log.extract 0 (szF L)=ei L
 rw[hl]
 apply gM
 rw[gl,cZ,List.drop_zero,Nat.sub_zero,List.take_left' (by rw[bO,ck])]
 rename_i h1
 have h2:tl.size=0:=by omega
 have h3:tl=⟨#[]⟩:=gM (List.eq_nil_of_length_eq_zero (by rw[bO];exact h2))
 refine⟨?_,rfl,?_,rfl,rfl⟩
 show D.log=ei L
 rw[hl,h3,lu]
 show D.fl=min D.fl (szF L)
 omega
end
section
open Go.RowKit
structure RAt (w:World) (RA:Option Addr) (rs:List RcT):Prop where
 row:At w RA (rs.flatMap rcC)
 eds:∀t∈rs,At w t.A (t.r.eds.flatMap edC)
theorem RAt.ext(h:RAt w RA rs)(hx:Ext w w'):RAt w' RA rs:=⟨h.row.ext hx,fun t ht=>(h.eds t ht).ext hx⟩
theorem vP(h:rs[i]? =some rt):(rs.map RcT.r).take (i+1)=(rs.map RcT.r).take i++[rt.r]:=by
 rw[List.take_add_one,List.getElem?_map,h];rfl
theorem Fc(h:rs[i]? =some rt):ak ((rs.map RcT.r).take (i+1)) n=bn n ((i:Int)+1) (ak ((rs.map RcT.r).take i) n) rt.r.eds:=by
 have hi:i<rs.length:=(List.getElem?_eq_some_iff.1 h).1
 rw[vP h,gX,List.length_take,List.length_map,Nat.min_eq_left (by omega)]
theorem px{l:List EdT}(h:l[j]? =some e):bn n lsn p (l.take (j+1))=edA n lsn (bn n lsn p (l.take j)) e:=by
 rw[List.take_add_one,h,bn,bn,List.foldl_append];rfl
theorem BX{l:List EdT}(h:j<l.length):∃ep es eb,l[j]? =some ((ep,es,eb):EdT):=⟨_,_,_,List.getElem?_eq_getElem h⟩
theorem AY(he:doE p e n=0)(hc:Calls Tryz.prog f args w (eC p e n w)):Calls Tryz.prog f args w (fT (doV p e n) 0 w):=by
 rw[eC,if_pos he] at hc;exact hc
theorem AD(he:doE p e n=er)(h0:er≠0)(hc:Calls Tryz.prog f args w (eC p e n w)):Calls Tryz.prog f args w (fT bu er w):=by
 subst he;rw[eC,if_neg h0] at hc;exact hc
theorem F9(h:rs[i]? =some rt)(hk:¬rt.r.kind=9):bm ((rs.map RcT.r).take (i+1))=bm ((rs.map RcT.r).take i):=by rw[vP h,gn,if_neg hk]
theorem Et(h:rs[i]? =some rt)(hk:rt.r.kind=9):bm ((rs.map RcT.r).take (i+1))=i+1:=by
 have hi:i<rs.length:=(List.getElem?_eq_some_iff.1 h).1
 rw[vP h,gn,if_pos hk,List.length_take,List.length_map,Nat.min_eq_left (by omega)]
def imN(L:List RecM)(n:Int)(i:Nat):Bool:=(L.drop i).any fun r=>r.kind==8&&r.tbl==n
theorem G4(L:List RecM)(n:Int):imN L n (bm L)=fw L n:=by
 refine mF (P:=fun L=>imN L n (bm L)=fw L n) rfl ?_ L
 intro L r ih
 rw[nu,gn]
 split
 rw[imN,List.drop_of_length_le (by simp)];rfl
 have hf:bm L<=L.length:=o4 L
 rw[<-ih,imN,imN,List.drop_append_of_le_length hf,List.any_append];simp
theorem xK(h:rs[i]? =some rt):imN (rs.map RcT.r) n i=((rt.r.kind==8&&rt.r.tbl==n)||imN (rs.map RcT.r) n (i+1)):=by
 have hi:i<rs.length:=(List.getElem?_eq_some_iff.1 h).1
 have e:(rs.map RcT.r).drop i=rt.r::(rs.map RcT.r).drop (i+1):=by
  rw[List.drop_eq_getElem_cons (by rw[List.length_map];exact hi),List.getElem_map,(List.getElem?_eq_some_iff.1 h).2]
 rw[imN,e,List.any_cons];rfl
theorem kQ(RA:Option Addr)(rc:Nat)(rs:List RcT)(n:Int)(w:World)(hR:RAt w RA rs)(hl:rs.length<=1000000)(hL:∀t∈rs,bv t.r=true):
  Calls Tryz.prog 36 #[.slice RA rs.length rc,.int .i64 n] w (o0 (ak (rs.map RcT.r) n) w):=by
 go_enter Tryz.func36,Tryz.ntmps36
 have al:=St.start w
 refine wq (sqr (bY #[vi 0,vi 0,sn] al fun CP W1 aA=>?_))
 refine aa (wq (sqr (sqp [.k 9 (.agg #[vi 0,vi 0,sn])] ?_)))
 refine bY #[vi 0,vi 0,sn] aA fun pF W3 bc=>?_
 refine aV (n:=3) 1 #[vi 0,vi 0,sn] bc fun W4 be=>?_
 refine aa (wq (wq (sqr (sqp [.k 6 (vi 0)] ?_))))
 refine aa (wp_block ?_)
 have hn6:=St.nilrow be 9
 simp only[List.cons_append,List.nil_append] at hn6
 refine aT (fun t_ mz az W=>∃i:Nat,∃PA:Option Addr,∃Pc:Nat,i<=rs.length/\mz=rs.length-i/\az=⟨(ovr (jv az) [(6,6,0,[vi ((i:Int))]),(0,7,2,[]),(1,10,44,[])] t_).toArray,[]⟩/\St w [] [eB CP 48 #[vi 0,vi 0,sn],eB pF 48 #[vi ((ak ((rs.map RcT.r).take i) n).1),vi ((ak ((rs.map RcT.r).take i) n).2.1),.slice PA ((ak ((rs.map RcT.r).take i) n).2.2.length) Pc],eO 9 1 (.slice PA ((ak ((rs.map RcT.r).take i) n).2.2.length) Pc) ((ak ((rs.map RcT.r).take i) n).2.2.length) ((ak ((rs.map RcT.r).take i) n).2.2.map Value.string)] W) (rs.length-0) ?_ ?_
 exact⟨0,none,0,Nat.zero_le _,rfl,(by kernel_rfl),hn6.pk [0,1,2]⟩
 rintro n7 a7 W7 ⟨i,PA,Pc,hi,rfl,hj_,aZ⟩
 refine ovz hj_ fun Fk=>?_
 refine wq (wq (sqr (sqp [.m 10 6,.m 11 0,.k 12 (vi ((rs.length:Int))),.k 13 (.bool (decide ((i:Int)<(rs.length:Int))))] ?_)))
 refine aa (wds (fun m4 pE=>?_) fun m4 pE=>?_)
 refine wp_skip (aa (wq (wp_block (wq (sqr (sqp [.k 7 (vi 0)] ?_))))))
 refine aa (wp_block ?_)
 obtain⟨rt,hrt⟩:∃rt,rs[i]? =some rt:=⟨_,List.getElem?_eq_getElem (by omega)⟩
 have hrm:=List.mem_of_getElem? hrt
 have hro:=d8 (hL rt hrm)
 have hml:=hro.many
 refine aT (fun t_ mz az W=>∃j:Nat,∃PB:Option Addr,∃Pd:Nat,j<=rt.r.eds.length/\mz=rt.r.eds.length-j/\az=⟨(ovr (jv az) [(7,7,0,[vi ((j:Int))]),(0,8,1,[]),(7,16,38,[])] t_).toArray,[]⟩/\St w [] [eB CP 48 #[vi 0,vi 0,sn],eB pF 48 #[vi ((bn n ((i:Int)+1) (ak ((rs.map RcT.r).take i) n) (rt.r.eds.take j)).1),vi ((bn n ((i:Int)+1) (ak ((rs.map RcT.r).take i) n) (rt.r.eds.take j)).2.1),.slice PB ((bn n ((i:Int)+1) (ak ((rs.map RcT.r).take i) n) (rt.r.eds.take j)).2.2.length) Pd],eO 9 1 (.slice PB ((bn n ((i:Int)+1) (ak ((rs.map RcT.r).take i) n) (rt.r.eds.take j)).2.2.length) Pd) ((bn n ((i:Int)+1) (ak ((rs.map RcT.r).take i) n) (rt.r.eds.take j)).2.2.length) ((bn n ((i:Int)+1) (ak ((rs.map RcT.r).take i) n) (rt.r.eds.take j)).2.2.map Value.string)] W) (rt.r.eds.length-0) ?_ ?_
 exact⟨0,PA,Pc,Nat.zero_le _,rfl,(by kernel_rfl),aZ.pk [0,1,2]⟩
 rintro TL a14 wZ ⟨j,PB,Pd,hj,rfl,hj_,cw⟩
 refine ovz hj_ fun R1=>?_
 refine wq (wq (sqr (sqp [.m 16 7,.m 17 0,.m 18 6] ?_)))
 refine sql (.pointer (some ((ad RA).add (i*8)))) cw (fun cx=>aI (e:=27) (m:=i) (sz:=8) rfl (by kernel_rfl) (by kernel_rfl) (cx.ou 17) (cx.ou 18) (by omega) (by omega) (hR.row.ext cx.upd.to_ext) (bq (sz:=8) cL (by decide) (by omega))) ?_
 refine sql (.pointer (some ((ad RA).add (i*8+5)))) cw (fun cx=>br rfl (by kernel_rfl) (cx.ou 19)) ?_
 refine sql (.slice rt.A rt.r.eds.length rt.c) cw (fun cx=>ae rfl (by kernel_rfl) (cx.ou 20) (At.eltc (f:=rcC) (k:=5) cL (hR.row.ext cx.upd.to_ext) hrt rfl)) ?_
 refine sqp [.k 22 (vi ((rt.r.eds.length:Int))),.k 23 (.bool (decide ((j:Int)<(rt.r.eds.length:Int))))] ?_
 refine aa (wds (fun td rI=>?_) fun td rI=>?_)
 refine wp_skip (aa (wq (wp_block (wq ?_))))
 obtain⟨ep,es,eb,hek⟩:=BX (l:=rt.r.eds) (j:=j) (by omega)
 have hke:edR (ep,es,eb)=true:=hro.eds _ (List.mem_of_getElem? hek)
 have hez:eb.size<=9223372036854775807:=by have:=dA hke;dsimp only at this;omega
 have hri:bC (bn n ((i:Int)+1) (ak ((rs.map RcT.r).take i) n) (rt.r.eds.take j)):=rY (iz _ _)
 by_cases hen:ep=n
 refine sqr (sqp [.m 26 0,.m 27 6] ?_)
 refine sql (.pointer (some ((ad RA).add (i*8)))) cw (fun cx=>aI (e:=27) (m:=i) (sz:=8) rfl (by kernel_rfl) (by kernel_rfl) (cx.ou 26) (cx.ou 27) (by omega) (by omega) (hR.row.ext cx.upd.to_ext) (bq (sz:=8) cL (by decide) (by omega))) ?_
 refine sql (.pointer (some ((ad RA).add (i*8+5)))) cw (fun cx=>br rfl (by kernel_rfl) (cx.ou 28)) ?_
 refine sql (.slice rt.A rt.r.eds.length rt.c) cw (fun cx=>ae rfl (by kernel_rfl) (cx.ou 29) (At.eltc (f:=rcC) (k:=5) cL (hR.row.ext cx.upd.to_ext) hrt rfl)) ?_
 refine sqp [.m 31 7] ?_
 refine sql (.pointer (some ((ad rt.A).add (j*3)))) cw (fun cx=>aI (e:=84) (m:=j) (sz:=3) rfl (by kernel_rfl) (by kernel_rfl) (cx.ou 30) (cx.ou 31) (by omega) (by omega) ((hR.eds rt hrm).ext cx.upd.to_ext) (bq (sz:=3) bJ (by decide) (by omega))) ?_
 refine sql (.pointer (some ((ad rt.A).add (j*3+0)))) cw (fun cx=>br rfl (by kernel_rfl) (cx.ou 32)) ?_
 refine sql (vi ep) cw (fun cx=>ae rfl (by kernel_rfl) (cx.ou 33) (At.eltc (f:=edC) (k:=0) bJ ((hR.eds rt hrm).ext cx.upd.to_ext) hek rfl)) ?_
 have hd35:(ep==n)=true:=(beq_iff_eq.2 hen)
 refine sqp [.m 35 1,.e 36 (.bool (ep==n)) (.bool true) (congrArg Value.bool hd35)] ?_
 refine aa (wct rfl (wq ?_))
 obtain⟨er,hde⟩:∃z,doE (bn n ((i:Int)+1) (ak ((rs.map RcT.r).take i) n) (rt.r.eds.take j)) (ep,es,eb) ((i:Int)+1)=z:=⟨_,rfl⟩
 by_cases hd0:er=0
 subst hd0
 have hd:=hde
 refine aH [0,0,0,6,14,30,0,126,254,0,512,2047,0,8191] [[1],[],[],[],[],[],[],[],[],[],[],[2],[],[4]] [[],[],[],[],[],[],[],[],[],[],[],[3],[4],[5]] [[],[],[],[],[],[],[],[],[],[],[],[],[],[4]] [.c 37 (.agg #[vi ((bn n ((i:Int)+1) (ak ((rs.map RcT.r).take i) n) (rt.r.eds.take j)).1),vi ((bn n ((i:Int)+1) (ak ((rs.map RcT.r).take i) n) (rt.r.eds.take j)).2.1),.slice PB ((bn n ((i:Int)+1) (ak ((rs.map RcT.r).take i) n) (rt.r.eds.take j)).2.2.length) Pd]),.k 38 (.slice RA rs.length rc),.k 39 (vi ((i:Int))),.c 40 (.pointer (some ((ad RA).add (i*8)))),.c 41 (.pointer (some ((ad RA).add (i*8+5)))),.c 42 (.slice rt.A rt.r.eds.length rt.c),.k 43 (vi ((j:Int))),.c 44 (.pointer (some ((ad rt.A).add (j*3)))),.c 45 (.agg #[vi ep,vi es,.string eb]),.k 46 (vi ((i:Int))),tI 47 ((i:Int)+1) (by omega),.a 48,.a 8,.n] (fun ix g d X=>match ix with|0|1|2|3|4|5|6|7|8|9|10=>True|11=>g 48= .agg #[vi ((doV (bn n ((i:Int)+1) (ak ((rs.map RcT.r).take i) n) (rt.r.eds.take j)) (ep,es,eb) ((i:Int)+1)).1),vi ((doV (bn n ((i:Int)+1) (ak ((rs.map RcT.r).take i) n) (rt.r.eds.take j)) (ep,es,eb) ((i:Int)+1)).2.1),.slice (sA (tg (d 48) 2)) ((doV (bn n ((i:Int)+1) (ak ((rs.map RcT.r).take i) n) (rt.r.eds.take j)) (ep,es,eb) ((i:Int)+1)).2.2.length) (sC (tg (d 48) 2)),vi 0]/\X 3=eO 9 1 (.slice (sA (tg (d 48) 2)) ((doV (bn n ((i:Int)+1) (ak ((rs.map RcT.r).take i) n) (rt.r.eds.take j)) (ep,es,eb) ((i:Int)+1)).2.2.length) (sC (tg (d 48) 2))) ((doV (bn n ((i:Int)+1) (ak ((rs.map RcT.r).take i) n) (rt.r.eds.take j)) (ep,es,eb) ((i:Int)+1)).2.2.length) ((doV (bn n ((i:Int)+1) (ak ((rs.map RcT.r).take i) n) (rt.r.eds.take j)) (ep,es,eb) ((i:Int)+1)).2.2.map Value.string)|12=>g 8=vp (pb (d 8))/\X 4=eB (pb (d 8)) 78 #[vi 0,vi 0,sn,vi 0]|13=>X 5=eB (pb (d 8)) 78 #[vi ((doV (bn n ((i:Int)+1) (ak ((rs.map RcT.r).take i) n) (rt.r.eds.take j)) (ep,es,eb) ((i:Int)+1)).1),vi ((doV (bn n ((i:Int)+1) (ak ((rs.map RcT.r).take i) n) (rt.r.eds.take j)) (ep,es,eb) ((i:Int)+1)).2.1),.slice (sA (tg (d 48) 2)) ((doV (bn n ((i:Int)+1) (ak ((rs.map RcT.r).take i) n) (rt.r.eds.take j)) (ep,es,eb) ((i:Int)+1)).2.2.length) (sC (tg (d 48) 2)),vi 0]|_=>True) [0,1,2,3,5] [0,3,4,5,7,8,11,12,13] [(8,12,1,9),(28,0,12,40)] cw ?_ ?_ ?_
 exact fun ix _ _ _ _ _ _ hs hb hx h=>match ix,h with
 |11,h=>by dsimp only;rw[<-hs 48 rfl,<-hb 48 rfl,<-hx 3 rfl];exact h
 |12,h=>by dsimp only;rw[<-hs 8 rfl,<-hb 8 rfl,<-hx 4 rfl];exact h
 |13,h=>by dsimp only;rw[<-hb 8 rfl,<-hb 48 rfl,<-hx 5 rfl];exact h
 |0,_|1,_|2,_|3,_|4,_|5,_|6,_|7,_|8,_|9,_|10,_|_+14,_=>trivial
 refine⟨?_,?_,?_,?_,?_,?_,?_,?_,?_,trivial⟩
 exact xs4 rfl id fun cx=>cg (n:=3) rfl (by kernel_rfl) (by kernel_rfl) (cx.ou 5) (cx.bi 1 rfl) (nle rfl) rfl
 exact xs4 rfl id fun cx=>aI (e:=27) (m:=i) (sz:=8) rfl (by kernel_rfl) (by kernel_rfl) (cx.an 1) (cx.an 2) (by omega) (by omega) (hR.row.ext cx.upd.to_ext) (bq (sz:=8) cL (by decide) (by omega))
 exact xs4 rfl id fun cx=>br rfl (by kernel_rfl) (cx.an 3)
 exact xs4 rfl id fun cx=>ae rfl (by kernel_rfl) (cx.an 4) (At.eltc (f:=rcC) (k:=5) cL (hR.row.ext cx.upd.to_ext) hrt rfl)
 exact xs4 rfl id fun cx=>aI (e:=84) (m:=j) (sz:=3) rfl (by kernel_rfl) (by kernel_rfl) (cx.an 5) (cx.an 6) (by omega) (by omega) ((hR.eds rt hrm).ext cx.upd.to_ext) (bq (sz:=3) bJ (by decide) (by omega))
 exact xs4 rfl id fun cx=>bT (f:=edC) (m:=j) (sz:=3) (off:=0) (n:=3) rfl (by kernel_rfl) (by kernel_rfl) (cx.an 7) rfl bJ ((hR.eds rt hrm).ext cx.upd.to_ext) hek (fun k hk=>match k,hk with|0,_=>rfl|1,_=>rfl|2,_=>rfl|k+3,hk=>absurd hk (by omega))
 refine svA fun o d W X cx=>?_
 refine am.call (aq (args:=#[.agg #[vi ((bn n ((i:Int)+1) (ak ((rs.map RcT.r).take i) n) (rt.r.eds.take j)).1),vi ((bn n ((i:Int)+1) (ak ((rs.map RcT.r).take i) n) (rt.r.eds.take j)).2.1),.slice PB ((bn n ((i:Int)+1) (ak ((rs.map RcT.r).take i) n) (rt.r.eds.take j)).2.2.length) Pd],.agg #[vi ep,vi es,.string eb],vi ((i:Int)+1)]) rfl cx.sees rfl (by kernel_rfl) (dN (cx.an 0) (cx.an 8) (cx.an 10))) ?_
 refine(AY hde (rC (bn n ((i:Int)+1) (ak ((rs.map RcT.r).take i) n) (rt.r.eds.take j)).1 (bn n ((i:Int)+1) (ak ((rs.map RcT.r).take i) n) (rt.r.eds.take j)).2.1 _ _ (bn n ((i:Int)+1) (ak ((rs.map RcT.r).take i) n) (rt.r.eds.take j)).2.2 ep es eb ((i:Int)+1) _ (At.of_own (cx.ri 2 rfl)) hri.1 (lk (cx.ri 2 rfl)) hez)).mono ?_
 rintro e W1 ⟨A4,c4,rfl,ho,hx⟩
 refine⟨_,rfl,bL [eO 9 1 (.slice A4 (doV (bn n ((i:Int)+1) (ak ((rs.map RcT.r).take i) n) (rt.r.eds.take j)) (ep,es,eb) ((i:Int)+1)).2.2.length c4) (doV (bn n ((i:Int)+1) (ak ((rs.map RcT.r).take i) n) (rt.r.eds.take j)) (ep,es,eb) ((i:Int)+1)).2.2.length ((doV (bn n ((i:Int)+1) (ak ((rs.map RcT.r).take i) n) (rt.r.eds.take j)) (ep,es,eb) ((i:Int)+1)).2.2.map Value.string)] rfl rfl hx (one_new (cm ho)) (List.pairwise_singleton _ _) (fun g q X' hs hb hv hN=>?_)⟩
 have aK:=(hv 48 rfl).1;have aW:=(hv 48 rfl).2
 exact⟨aK.trans (by rw[aW];exact rfl),(by rw[aW];exact(List.cons.inj hN).1)⟩
 refine svA fun o d W X cx=>?_
 exact dp (cs:=#[vi 0,vi 0,sn,vi 0]) rfl (by kernel_rfl) rfl rfl (fun _ _ _ _ _=> .intro)
 refine svA fun o d W X cx=>?_
 exact bx (n:=4) rfl (dTn (cx.an 12)).1 (dTn (cx.an 11)).1 (by kernel_rfl) (by kernel_rfl) (by kernel_rfl) cx (dTn (cx.an 12)).2 rfl (nle rfl) (by kernel_rfl) rfl rfl rfl (fun g q X' hs hb hx=>by rw[hb 8,hb 48];exact hx)
 intro g d X Br hD fj fr aG
 simp only[exq 3 ((dTn (hD 11 lq)).2),exq 5 ((dTn (hD 13 lq)))] at fj
 simp only[ed 48 ((dTn (hD 11 lq)).1),ed 8 ((dTn (hD 12 lq)).1)] at aG
 generalize sA (tg (d 48) 2)=Fx,sC (tg (d 48) 2)=Fy,pb (d 8)=I4 at fj aG
 clear hD;subst aG;clear g d X
 refine aa (wq (sqr (sqp [.k 49 (po I4 3)] ?_)))
 refine av 4 fj ?_
 refine sqp [.k 51 (.bool true)] ?_
 refine aa (wct rfl (sqr (sqp [.k 52 (vp I4)] ?_)))
 refine bE 4 3 fj ?_
 refine aV (n:=3) 1 #[vi ((doV (bn n ((i:Int)+1) (ak ((rs.map RcT.r).take i) n) (rt.r.eds.take j)) (ep,es,eb) ((i:Int)+1)).1),vi ((doV (bn n ((i:Int)+1) (ak ((rs.map RcT.r).take i) n) (rt.r.eds.take j)) (ep,es,eb) ((i:Int)+1)).2.1),.slice Fx ((doV (bn n ((i:Int)+1) (ak ((rs.map RcT.r).take i) n) (rt.r.eds.take j)) (ep,es,eb) ((i:Int)+1)).2.2.length) Fy] fj fun uE fk=>?_
 refine aw (aa (sqr (sqp [.m 24 7,sI 25 ((j:Int)+1) (by omega),.m 7 25] ?_)))
 refine aa ?_
 have hf46_:=fk.u2.c0
 have hee:(doV (bn n ((i:Int)+1) (ak ((rs.map RcT.r).take i) n) (rt.r.eds.take j)) (ep,es,eb) ((i:Int)+1))=bn n ((i:Int)+1) (ak ((rs.map RcT.r).take i) n) (rt.r.eds.take (j+1)):=by rw[px hek];rw[edA,if_pos ⟨hen,hd⟩]
 rw[hee] at hf46_
 refine⟨rt.r.eds.length-((j+1)),by omega,?_⟩
 exact⟨(j+1),Fx,Fy,by omega,rfl,(by kernel_rfl),hf46_.pk [0,1,2]⟩
 have hdn:¬doE (bn n ((i:Int)+1) (ak ((rs.map RcT.r).take i) n) (rt.r.eds.take j)) (ep,es,eb) ((i:Int)+1)=0:=fun h=>hd0 (hde.symm.trans h)
 refine aH [0,0,0,6,14,30,0,126,254,0,512,2047,0,8191] [[1],[],[],[],[],[],[],[],[],[],[],[2],[],[4]] [[],[],[],[],[],[],[],[],[],[],[],[3],[4],[5]] [[],[],[],[],[],[],[],[],[],[],[],[],[],[4]] [.c 37 (.agg #[vi ((bn n ((i:Int)+1) (ak ((rs.map RcT.r).take i) n) (rt.r.eds.take j)).1),vi ((bn n ((i:Int)+1) (ak ((rs.map RcT.r).take i) n) (rt.r.eds.take j)).2.1),.slice PB ((bn n ((i:Int)+1) (ak ((rs.map RcT.r).take i) n) (rt.r.eds.take j)).2.2.length) Pd]),.k 38 (.slice RA rs.length rc),.k 39 (vi ((i:Int))),.c 40 (.pointer (some ((ad RA).add (i*8)))),.c 41 (.pointer (some ((ad RA).add (i*8+5)))),.c 42 (.slice rt.A rt.r.eds.length rt.c),.k 43 (vi ((j:Int))),.c 44 (.pointer (some ((ad rt.A).add (j*3)))),.c 45 (.agg #[vi ep,vi es,.string eb]),.k 46 (vi ((i:Int))),tI 47 ((i:Int)+1) (by omega),.a 48,.a 8,.n] (fun ix g d X=>match ix with|0|1|2|3|4|5|6|7|8|9|10=>True|11=>g 48= .agg #[vi bu.1,vi bu.2.1,.slice (sA (tg (d 48) 2)) bu.2.2.length (sC (tg (d 48) 2)),vi er]/\X 3=eO 9 1 (.slice (sA (tg (d 48) 2)) bu.2.2.length (sC (tg (d 48) 2))) bu.2.2.length (bu.2.2.map Value.string)|12=>g 8=vp (pb (d 8))/\X 4=eB (pb (d 8)) 78 #[vi 0,vi 0,sn,vi 0]|13=>X 5=eB (pb (d 8)) 78 #[vi bu.1,vi bu.2.1,.slice (sA (tg (d 48) 2)) bu.2.2.length (sC (tg (d 48) 2)),vi er]|_=>True) [0,1,2,3,5] [0,3,4,5,7,8,11,12,13] [(8,12,1,9),(28,0,12,40)] cw ?_ ?_ ?_
 exact fun ix _ _ _ _ _ _ hs hb hx h=>match ix,h with
 |11,h=>by dsimp only;rw[<-hs 48 rfl,<-hb 48 rfl,<-hx 3 rfl];exact h
 |12,h=>by dsimp only;rw[<-hs 8 rfl,<-hb 8 rfl,<-hx 4 rfl];exact h
 |13,h=>by dsimp only;rw[<-hb 8 rfl,<-hb 48 rfl,<-hx 5 rfl];exact h
 |0,_|1,_|2,_|3,_|4,_|5,_|6,_|7,_|8,_|9,_|10,_|_+14,_=>trivial
 refine⟨?_,?_,?_,?_,?_,?_,?_,?_,?_,trivial⟩
 exact xs4 rfl id fun cx=>cg (n:=3) rfl (by kernel_rfl) (by kernel_rfl) (cx.ou 5) (cx.bi 1 rfl) (nle rfl) rfl
 exact xs4 rfl id fun cx=>aI (e:=27) (m:=i) (sz:=8) rfl (by kernel_rfl) (by kernel_rfl) (cx.an 1) (cx.an 2) (by omega) (by omega) (hR.row.ext cx.upd.to_ext) (bq (sz:=8) cL (by decide) (by omega))
 exact xs4 rfl id fun cx=>br rfl (by kernel_rfl) (cx.an 3)
 exact xs4 rfl id fun cx=>ae rfl (by kernel_rfl) (cx.an 4) (At.eltc (f:=rcC) (k:=5) cL (hR.row.ext cx.upd.to_ext) hrt rfl)
 exact xs4 rfl id fun cx=>aI (e:=84) (m:=j) (sz:=3) rfl (by kernel_rfl) (by kernel_rfl) (cx.an 5) (cx.an 6) (by omega) (by omega) ((hR.eds rt hrm).ext cx.upd.to_ext) (bq (sz:=3) bJ (by decide) (by omega))
 exact xs4 rfl id fun cx=>bT (f:=edC) (m:=j) (sz:=3) (off:=0) (n:=3) rfl (by kernel_rfl) (by kernel_rfl) (cx.an 7) rfl bJ ((hR.eds rt hrm).ext cx.upd.to_ext) hek (fun k hk=>match k,hk with|0,_=>rfl|1,_=>rfl|2,_=>rfl|k+3,hk=>absurd hk (by omega))
 refine svA fun o d W X cx=>?_
 refine am.call (aq (args:=#[.agg #[vi ((bn n ((i:Int)+1) (ak ((rs.map RcT.r).take i) n) (rt.r.eds.take j)).1),vi ((bn n ((i:Int)+1) (ak ((rs.map RcT.r).take i) n) (rt.r.eds.take j)).2.1),.slice PB ((bn n ((i:Int)+1) (ak ((rs.map RcT.r).take i) n) (rt.r.eds.take j)).2.2.length) Pd],.agg #[vi ep,vi es,.string eb],vi ((i:Int)+1)]) rfl cx.sees rfl (by kernel_rfl) (dN (cx.an 0) (cx.an 8) (cx.an 10))) ?_
 refine(AD hde hd0 (rC (bn n ((i:Int)+1) (ak ((rs.map RcT.r).take i) n) (rt.r.eds.take j)).1 (bn n ((i:Int)+1) (ak ((rs.map RcT.r).take i) n) (rt.r.eds.take j)).2.1 _ _ (bn n ((i:Int)+1) (ak ((rs.map RcT.r).take i) n) (rt.r.eds.take j)).2.2 ep es eb ((i:Int)+1) _ (At.of_own (cx.ri 2 rfl)) hri.1 (lk (cx.ri 2 rfl)) hez)).mono ?_
 rintro e W1 ⟨A4,c4,rfl,ho,hx⟩
 refine⟨_,rfl,bL [eO 9 1 (.slice A4 bu.2.2.length c4) bu.2.2.length (bu.2.2.map Value.string)] rfl rfl hx (one_new (cm ho)) (List.pairwise_singleton _ _) (fun g q X' hs hb hv hN=>?_)⟩
 have aK:=(hv 48 rfl).1;have aW:=(hv 48 rfl).2
 exact⟨aK.trans (by rw[aW];exact rfl),(by rw[aW];exact(List.cons.inj hN).1)⟩
 refine svA fun o d W X cx=>?_
 exact dp (cs:=#[vi 0,vi 0,sn,vi 0]) rfl (by kernel_rfl) rfl rfl (fun _ _ _ _ _=> .intro)
 refine svA fun o d W X cx=>?_
 exact bx (n:=4) rfl (dTn (cx.an 12)).1 (dTn (cx.an 11)).1 (by kernel_rfl) (by kernel_rfl) (by kernel_rfl) cx (dTn (cx.an 12)).2 rfl (nle rfl) (by kernel_rfl) rfl rfl rfl (fun g q X' hs hb hx=>by rw[hb 8,hb 48];exact hx)
 intro g d X LR hD gr fr aG
 simp only[exq 3 ((dTn (hD 11 lq)).2),exq 5 ((dTn (hD 13 lq)))] at gr
 simp only[ed 48 ((dTn (hD 11 lq)).1),ed 8 ((dTn (hD 12 lq)).1)] at aG
 generalize sA (tg (d 48) 2)=QO,sC (tg (d 48) 2)=QP,pb (d 8)=N5 at gr aG
 clear hD;subst aG;clear g d X
 refine aa (wq (sqr (sqp [.k 49 (po N5 3)] ?_)))
 refine av 4 gr ?_
 have hd51:(er==0)=false:=(beq_eq_false_iff_ne.2 hd0)
 refine sqp [.e 51 (.bool (er==0)) (.bool false) (congrArg Value.bool hd51)] ?_
 refine aa (wcf rfl (wp_skip (aw (aa (sqr (sqp [.m 24 7,sI 25 ((j:Int)+1) (by omega),.m 7 25] ?_))))))
 refine aa ?_
 have hee:(bn n ((i:Int)+1) (ak ((rs.map RcT.r).take i) n) (rt.r.eds.take j))=bn n ((i:Int)+1) (ak ((rs.map RcT.r).take i) n) (rt.r.eds.take (j+1)):=by rw[px hek];rw[edA,if_neg (fun h=>hdn h.2)]
 rw[hee] at gr
 refine⟨rt.r.eds.length-((j+1)),by omega,?_⟩
 exact⟨(j+1),PB,Pd,by omega,rfl,(by kernel_rfl),gr.pk [0,1,2]⟩
 have hne:¬(ep,es,eb).1=n:=hen
 refine sqr (sqp [.m 26 0,.m 27 6] ?_)
 refine sql (.pointer (some ((ad RA).add (i*8)))) cw (fun cx=>aI (e:=27) (m:=i) (sz:=8) rfl (by kernel_rfl) (by kernel_rfl) (cx.ou 26) (cx.ou 27) (by omega) (by omega) (hR.row.ext cx.upd.to_ext) (bq (sz:=8) cL (by decide) (by omega))) ?_
 refine sql (.pointer (some ((ad RA).add (i*8+5)))) cw (fun cx=>br rfl (by kernel_rfl) (cx.ou 28)) ?_
 refine sql (.slice rt.A rt.r.eds.length rt.c) cw (fun cx=>ae rfl (by kernel_rfl) (cx.ou 29) (At.eltc (f:=rcC) (k:=5) cL (hR.row.ext cx.upd.to_ext) hrt rfl)) ?_
 refine sqp [.m 31 7] ?_
 refine sql (.pointer (some ((ad rt.A).add (j*3)))) cw (fun cx=>aI (e:=84) (m:=j) (sz:=3) rfl (by kernel_rfl) (by kernel_rfl) (cx.ou 30) (cx.ou 31) (by omega) (by omega) ((hR.eds rt hrm).ext cx.upd.to_ext) (bq (sz:=3) bJ (by decide) (by omega))) ?_
 refine sql (.pointer (some ((ad rt.A).add (j*3+0)))) cw (fun cx=>br rfl (by kernel_rfl) (cx.ou 32)) ?_
 refine sql (vi ep) cw (fun cx=>ae rfl (by kernel_rfl) (cx.ou 33) (At.eltc (f:=edC) (k:=0) bJ ((hR.eds rt hrm).ext cx.upd.to_ext) hek rfl)) ?_
 have hd66:(ep==n)=false:=(beq_eq_false_iff_ne.2 hen)
 refine sqp [.m 35 1,.e 36 (.bool (ep==n)) (.bool false) (congrArg Value.bool hd66)] ?_
 refine aa (wcf rfl (wp_skip (aw (aa (sqr (sqp [.m 24 7,sI 25 ((j:Int)+1) (by omega),.m 7 25] ?_))))))
 refine aa ?_
 have hee:(bn n ((i:Int)+1) (ak ((rs.map RcT.r).take i) n) (rt.r.eds.take j))=bn n ((i:Int)+1) (ak ((rs.map RcT.r).take i) n) (rt.r.eds.take (j+1)):=by rw[px hek];rw[edA,if_neg (fun h=>hne h.1)]
 rw[hee] at cw
 refine⟨rt.r.eds.length-((j+1)),by omega,?_⟩
 exact⟨(j+1),PB,Pd,by omega,rfl,(by kernel_rfl),cw.pk [0,1,2]⟩
 refine wp_exit (au (au (bh (aw (aa (sqr (sqp [.m 14 6,sI 15 ((i:Int)+1) (by omega),.m 6 15] ?_)))))))
 refine aa ?_
 have hje:j=rt.r.eds.length:=by omega
 have hce:bn n ((i:Int)+1) (ak ((rs.map RcT.r).take i) n) (rt.r.eds.take j)=ak ((rs.map RcT.r).take (i+1)) n:=by rw[Fc hrt,hje,List.take_length]
 rw[hce] at cw
 refine⟨rs.length-((i+1)),by omega,?_⟩
 exact⟨(i+1),PB,Pd,by omega,rfl,(by kernel_rfl),cw.pk [0,1,2]⟩
 refine wp_exit (au (au (bh (aa (wq ?_)))))
 have hct:(ak ((rs.map RcT.r).take i) n)=ak (rs.map RcT.r) n:=by rw[List.take_of_length_le (by rw[List.length_map];omega)]
 rw[hct] at aZ
 refine sqr ?_
 refine bE 1 3 aZ ?_
 refine aV (n:=3) 0 #[vi ((ak (rs.map RcT.r) n).1),vi ((ak (rs.map RcT.r) n).2.1),.slice PA ((ak (rs.map RcT.r) n).2.2.length) Pc] aZ fun IW hG=>?_
 refine aa (wp_ret ?_)
 refine bpr (.agg #[vi ((ak (rs.map RcT.r) n).1),vi ((ak (rs.map RcT.r) n).2.1),.slice PA ((ak (rs.map RcT.r) n).2.2.length) Pc]) (bA (n:=3) Tryz.results36 rfl (by kernel_rfl) (by kernel_rfl) (hG.blk 0 rfl) rfl) ?_
 exact⟨_,_,rfl,hG.own' 2 rfl,hG.ext⟩
theorem Am(RA:Option Addr)(rc:Nat)(rs:List RcT)(w:World)(hR:RAt w RA rs)(hl:rs.length<=1000000):
  Calls Tryz.prog 82 #[.slice RA rs.length rc] w (Ret (.int .i64 (bm (rs.map RcT.r):Int)) w):=by
 go_enter Tryz.func82,Tryz.ntmps82
 have al:=St.start w
 refine wq (sqr (sqp [.k 2 (vi 0)] ?_))
 refine aa (wq (wq (sqr (sqp [.m 4 0,.k 5 (vi ((rs.length:Int))),.m 3 5] ?_))))
 refine aa (wp_block ?_)
 refine aT (fun t_ mz az W=>∃k:Nat,k<=rs.length/\bm ((rs.map RcT.r).take k)=bm (rs.map RcT.r)/\mz=k+1/\az=⟨(ovr (jv az) [(2,2,1,[vi ((k:Int))]),(2,6,12,[])] t_).toArray,[]⟩/\St w [] [] W) (rs.length+1) ?_ ?_
 exact⟨rs.length,Nat.le_refl _,by rw[List.take_of_length_le (by rw[List.length_map];omega)],rfl,(by kernel_rfl),al.pk []⟩
 rintro n5 a5 W5 ⟨k,hk,hft,rfl,hj_,aR⟩
 refine ovz hj_ fun w5=>?_
 refine wq (wq (sqr (sqp [.m 6 3,.k 7 (.bool (decide (0<(k:Int))))] ?_)))
 refine aa (wds (fun Mt In=>?_) fun Mt In=>?_)
 refine wp_skip (aa (wq (wp_block (wq ?_))))
 have hk0:0<k:=by omega
 obtain⟨rt,hrt⟩:∃rt,rs[k-1]? =some rt:=⟨_,List.getElem?_eq_getElem (by omega)⟩
 have hrm:=List.mem_of_getElem? hrt
 refine sqr (sqp [.m 10 0,.m 11 3,sI 12 ((k:Int)-1) (by omega)] ?_)
 refine sql (.pointer (some ((ad RA).add ((k-1)*8)))) aR (fun cx=>aI (e:=27) (m:=(k-1)) (sz:=8) rfl (by kernel_rfl) (by kernel_rfl) (cx.ou 10) (cx.ou 12) (by omega) (by omega) (hR.row.ext cx.upd.to_ext) (bq (sz:=8) cL (by decide) (by omega))) ?_
 refine sql (.pointer (some ((ad RA).add ((k-1)*8+0)))) aR (fun cx=>br rfl (by kernel_rfl) (cx.ou 13)) ?_
 refine sql (vi rt.r.kind) aR (fun cx=>ae rfl (by kernel_rfl) (cx.ou 14) (At.eltc (f:=rcC) (k:=0) cL (hR.row.ext cx.upd.to_ext) hrt rfl)) ?_
 refine sqp [.k 16 (.bool (rt.r.kind==9))] ?_
 refine aa (wbs (fun dj=>?_) fun dj=>?_)
 have ma:=beq_iff_eq.1 dj
 refine wq (sqr (sqp [.m 17 3,.m 2 17] ?_))
 refine aa (wp_ret (bb (aj (aj (bb (aj ?_))))))
 refine bpr (vi ((k:Int))) (ai Tryz.results82 rpt) ?_
 exact Ret.of (by rw[<-hft];have h_:=Et (i:=k-1) hrt (by simpa using dj);rw[show k-1+1=k by omega] at h_;rw[h_]) aR.ext
 have ma:=beq_eq_false_iff_ne.1 dj
 refine wp_skip (aw (aa (sqr (sqp [.m 8 3,sI 9 ((k:Int)-1) (by omega),.m 3 9] ?_))))
 refine aa ?_
 rw[show ((k:Int)-1)=((k-1:Nat):Int) by omega]
 refine⟨((k-1))+1,by omega,?_⟩
 exact⟨(k-1),by omega,((F9 (i:=k-1) hrt (by simpa using dj)).symm.trans (by rw[show k-1+1=k by omega])).trans hft,rfl,(by kernel_rfl),aR.pk []⟩
 refine wp_exit (au (au (bh (aa (wq (sqr (sqp [.k 2 (vi 0)] ?_)))))))
 refine aa (wp_ret ?_)
 refine bpr (vi 0) (ai Tryz.results82 rpt) ?_
 exact Ret.of (by rw[<-hft,show k=0 by omega];rfl) aR.ext
theorem yX(RA:Option Addr)(rc:Nat)(rs:List RcT)(n:Int)(w:World)(hR:RAt w RA rs)(hl:rs.length<=1000000):
  Calls Tryz.prog 141 #[.slice RA rs.length rc,.int .i64 n] w (Ret (.bool (fw (rs.map RcT.r) n)) w):=by
 go_enter Tryz.func141,Tryz.ntmps141
 have al:=St.start w
 refine wq (sqr (sqp [.k 4 (.bool false)] ?_))
 refine aa (wq (wq (sqr (sqp [.m 6 0] ?_))))
 refine sqk (vi ((bm (rs.map RcT.r):Int))) al (fun cx=>⟨_,Am _ _ rs _ (hR.ext cx.upd.to_ext) hl,(ax (cx.ou 6))⟩) fun W3 bc=>?_
 refine sqp [.m 5 7] ?_
 refine aa (wp_block ?_)
 have hfl:=o4 (rs.map RcT.r)
 rw[List.length_map] at hfl
 refine aT (fun t_ mz az W=>∃i:Nat,i<=rs.length/\imN (rs.map RcT.r) n i=fw (rs.map RcT.r) n/\mz=rs.length-i/\az=⟨(ovr (jv az) [(4,4,1,[vi ((i:Int))]),(2,8,21,[])] t_).toArray,[]⟩/\St w [] [] W) (rs.length-((bm (rs.map RcT.r)))) ?_ ?_
 exact⟨(bm (rs.map RcT.r)),hfl,G4 _ _,rfl,(by kernel_rfl),bc.pk []⟩
 rintro n5 a5 W5 ⟨i,hi,him,rfl,hj_,aR⟩
 refine ovz hj_ fun w5=>?_
 refine wq (wq (sqr (sqp [.m 8 5,.m 9 0,.k 10 (vi ((rs.length:Int))),.k 11 (.bool (decide ((i:Int)<(rs.length:Int))))] ?_)))
 refine aa (wds (fun kI pG=>?_) fun kI pG=>?_)
 ·refine wp_skip (aa (wq (wp_block (wq ?_))))
  obtain⟨rt,hrt⟩:∃rt,rs[i]? =some rt:=⟨_,List.getElem?_eq_getElem (by omega)⟩
  have hrm:=List.mem_of_getElem? hrt
  refine sqr (sqp [.m 14 0,.m 15 5] ?_)
  refine sql (.pointer (some ((ad RA).add (i*8)))) aR (fun cx=>aI (e:=27) (m:=i) (sz:=8) rfl (by kernel_rfl) (by kernel_rfl) (cx.ou 14) (cx.ou 15) (by omega) (by omega) (hR.row.ext cx.upd.to_ext) (bq (sz:=8) cL (by decide) (by omega))) ?_
  refine sql (.pointer (some ((ad RA).add (i*8+0)))) aR (fun cx=>br rfl (by kernel_rfl) (cx.ou 16)) ?_
  refine sql (vi rt.r.kind) aR (fun cx=>ae rfl (by kernel_rfl) (cx.ou 17) (At.eltc (f:=rcC) (k:=0) cL (hR.row.ext cx.upd.to_ext) hrt rfl)) ?_
  refine sqp [.k 19 (.bool (rt.r.kind==8)),.m 20 19] ?_
  refine d6 20 [21,22,23,24,25,26,27] ?_ rfl (fun hq=>?_) ?_
  rotate_left
  have hq_:=hq
  try simp only[zB] at hq_
  refine sqp [.m 21 0,.m 22 5] ?_
  refine sql (.pointer (some ((ad RA).add (i*8)))) aR (fun cx=>aI (e:=27) (m:=i) (sz:=8) rfl (by kernel_rfl) (by kernel_rfl) (cx.ou 21) (cx.ou 22) (by omega) (by omega) (hR.row.ext cx.upd.to_ext) (bq (sz:=8) cL (by decide) (by omega))) ?_
  refine sql (.pointer (some ((ad RA).add (i*8+2)))) aR (fun cx=>br rfl (by kernel_rfl) (cx.ou 23)) ?_
  refine sql (vi rt.r.tbl) aR (fun cx=>ae rfl (by kernel_rfl) (cx.ou 24) (At.eltc (f:=rcC) (k:=2) cL (hR.row.ext cx.upd.to_ext) hrt rfl)) ?_
  refine sqp [.m 26 1,.k 27 (.bool (rt.r.tbl==n))] ?_
  exact sqe
  refine c8 ?_
  refine sqp [sPa 28 (rt.r.kind==8) (rt.r.tbl==n)] ?_
  refine aa (wbs (fun fe=>?_) fun fe=>?_)
  have fa:=fe
  simp only[zB] at fa
  obtain⟨zi,zj⟩:=fa
  refine wq (sqr (sqp [.k 4 (.bool true)] ?_))
  refine aa (wp_ret (bb (aj (aj (bb (aj ?_))))))
  refine bpr (.bool true) (ai Tryz.results141 rpt) ?_
  exact Ret.of (by rw[<-him,xK hrt];have h_:=fe;rw[h_];rfl) aR.ext
  have fa:=fe
  simp only[zB] at fa
  refine wp_skip (aw (aa (sqr (sqp [.m 12 5,sI 13 ((i:Int)+1) (by omega),.m 5 13] ?_))))
  refine aa ?_
  refine⟨rs.length-((i+1)),by omega,?_⟩
  exact⟨(i+1),by omega,by rw[<-him,xK hrt];have h_:=fe;rw[h_];rfl,rfl,(by kernel_rfl),aR.pk []⟩
 refine wp_exit (au (au (bh (aa (wq (sqr (sqp [.k 4 (.bool false)] ?_)))))))
 refine aa (wp_ret ?_)
 refine bpr (.bool false) (ai Tryz.results141 rpt) ?_
 exact Ret.of (by rw[<-him,imN,List.drop_of_length_le (by rw[List.length_map];omega)];rfl) aR.ext
end
section
open Go.RowKit
theorem oU(s:ByteArray)(w:World)(hs:s.size<=9223372036854775807):
  Calls Tryz.prog 75 #[.string s] w (gJ (.int .u32 (aY s)) w):=by
 go_enter Tryz.func75,Tryz.ntmps75
 go_wp2
 go_loop [3,4,5] (fun x y v=>∃k:Nat,v= .int .i64 k/\k<=s.size/\x= .int .i64 (adl (s.data.toList.take k)).1/\y= .int .i64 (adl (s.data.toList.take k)).2) (fun _ _ v=>s.size-(intOf v).toNat)
 case atStart=>exact⟨0,rfl,Nat.zero_le _,rfl,rfl⟩
 case round=>
  obtain⟨k,rfl,hk,rfl,rfl⟩:=hrel
  have hlt:=ym (s.data.toList.take k)
  rcases Nat.lt_or_ge k s.size with hk1|hk1
  ·have HS:=Lib.hid (yC s k hk1)
   obtain⟨a,ha⟩:∃a,a=(adl (s.data.toList.take k)).1:=⟨_,rfl⟩
   obtain⟨b,hb⟩:∃b,b=(adl (s.data.toList.take k)).2:=⟨_,rfl⟩
   rw[<-ha,<-hb] at HS hlt |-
   obtain⟨hlt1,hlt2⟩:=hlt
   have hcb:s[k].toNat<256:=UInt8.toNat_lt _
   clear ha hb
   obtain⟨c,hc⟩:∃c:UInt8,c=s[k]:=⟨_,rfl⟩
   have HC:=Lib.hid hc
   have hk2:(k:Int)<(s.size:Int):=by omega
   have hk3:(0:Int)<=(k:Int):=by omega
   clear hc
   go_wp2
   go_round
   case rel=>exact⟨k+1,by go_num,by omega,by rw[HS.out];congr 1,by rw[HS.out];congr 1⟩
   case measure=>simp[intOf];omega
  obtain rfl:k=s.size:=by omega
  have e:s.data.toList.take s.size=s.data.toList:=List.take_of_length_le (by simp)
  rw[e] at hlt |-
  obtain⟨a,ha⟩:∃a,a=(adl s.data.toList).1:=⟨_,rfl⟩
  obtain⟨b,hb⟩:∃b,b=(adl s.data.toList).2:=⟨_,rfl⟩
  rw[<-ha,<-hb] at hlt |-
  obtain⟨hlt1,hlt2⟩:=hlt
  have HF:=Lib.hid (show aY s=b*65536+a by rw[aY,<-ha,<-hb])
  clear e ha hb
  go_wp2
  go_ret
  exact gJ.int (by rw[HF.out];omega) (Ext.refl _)
def shN(N:Int)(k:Nat):Int:=N / 256^k
theorem IG(N:Int):shN N 0=N:=by simp[shN]
theorem FS(N:Int)(k:Nat):(shN N k).fdiv (2^8)=shN N (k+1):=by
 rw[shN,shN,Int.fdiv_eq_ediv_of_nonneg _ (by decide),Int.pow_succ]
 exact Int.ediv_ediv_of_nonneg (Int.le_of_lt (Int.pow_pos (by decide)))
theorem DV(N:Int):ag N 0=⟨#[]⟩:=rfl
theorem wG(N:Int)(h:k<8):ag N (k+1)=strOfNums [shN N k % 256]++ag N k:=by
 apply gM
 rw[cZ]
 unfold ag bl
 rw[strOfNums_data,strOfNums_data,strOfNums_data,<-List.map_append]
 congr 1
 have hu:IntKind.u64.wrap N=N % 18446744073709551616:=by rw[IntKind.wrap_u64]
 unfold lP shN
 rw[hu]
 rcases(by omega:k=0\/k=1\/k=2\/k=3\/k=4\/k=5\/k=6\/k=7) with rfl|rfl|rfl|rfl|rfl|rfl|rfl|rfl<;>
  simp only[Nat.reduceSub,Nat.reduceAdd,Int.reducePow,List.drop_succ_cons,List.drop_zero,List.cons_append,List.nil_append,List.cons.injEq,and_true]<;>omega
theorem KN(h:(decide (x<0)||decide (399<x))=true):false=edR (x,sl,s):=by
 have:inB x 0 399=false:=by
  simp only[Bool.or_eq_true,decide_eq_true_eq] at h
  unfold inB
  rcases h with h|h
  rw[decide_eq_false (by omega)];rfl
  rw[decide_eq_false (p:=x<=399) (by omega)];simp
 rw[ln,this];rfl
theorem D9(h:(decide (x<0)||decide (399<x))=false):inB x 0 399=true:=by
 simp only[Bool.or_eq_false_iff,decide_eq_false_iff_not] at h
 unfold inB
 rw[decide_eq_true (by omega),decide_eq_true (by omega)];rfl
theorem JL(h:(decide (x<0)||decide (399<x))=false)(h2:(sl== -1)=true):(((s.size:Int)==1)&&decide (bW (bl s) 0<=2))=edR (x,sl,s):=by
 rw[ln,D9 h,if_pos (by simpa using h2),Bool.true_and,eT,Bool.not_or]
 congr 1
 rw[Bool.eq_iff_iff];simp;omega
 rw[Bool.eq_iff_iff];simp
theorem JF(h:(decide (x<0)||decide (399<x))=false)(h2:(sl== -1)=false):((decide (0<=sl)&&decide (sl<=23))&&decide ((s.size:Int)<=400))=edR (x,sl,s):=by
 rw[ln,D9 h,if_neg (by simpa using h2),Bool.true_and];rfl
theorem AT(h:bv r=true->False):false=bv r:=by
 cases hr:bv r
 rfl
 exact(h hr).elim
theorem Hw(h:RecOk r):true=bv r:=by
 symm
 simp only[bv,inB,Bool.and_eq_true,decide_eq_true_eq,List.all_eq_true]
 exact⟨h.kind,h.xid,h.tbl,by have:=h.many;omega,h.eds,by have:=h.note;omega⟩
theorem apn(s:ByteArray):s++(⟨#[]⟩:ByteArray)=s:=by apply gM;rw[cZ];exact List.append_nil _
theorem LL(a b c:ByteArray):(a++b)++c=cd [a,b,c]:=by rw[bD,bD,bD,fP,apn,ByteArray.append_assoc]
theorem NP(a b c:ByteArray):(a++b)++c=cd [cd [a,b],c]:=by rw[bD,bD,bD,bD,fP,apn,apn,ByteArray.append_assoc]
theorem NI(a b c d:ByteArray):cd [a,b,c,d]=((a++b)++c)++d:=by rw[bD,bD,bD,bD,fP,apn,ByteArray.append_assoc,ByteArray.append_assoc]
theorem NB(a b c d e f:ByteArray):((((a++b)++c)++d)++e)++f=cd [a,b,c,d,e,f]:=by rw[bD,bD,bD,bD,bD,bD,fP,apn,ByteArray.append_assoc,ByteArray.append_assoc,ByteArray.append_assoc,ByteArray.append_assoc]
section
variable{P:Program}{o:Oper}{ρ:Operand->Value}{W:World}
theorem JT{t t':TypeId}{x y:Operand}{k k':IntKind}{b:Int}(h:o.op= .binOp .shr t x y t')(hx:ρ x= .int k a)(hy:ρ y= .int k' b)(hb:0<=b)(hz:a.fdiv (2^min b.toNat k.bits)=z):(execOp ρ o).run P W= .ok (.value (.int k z)) W:=by
 subst hz
 unfold execOp;rw[h]
 have:¬b<0:=by omega
 simp[hx,hy,eqGuard,binOp,Op.shift,this]
end
theorem e6(N:Int)(m:Nat)(w:World)(hm:m<=8):
  Calls Tryz.prog 74 #[.int .i64 N,.int .i64 ((m:Int))] w (Ret (.string (ag N m)) w):=by
 go_enter Tryz.func74,Tryz.ntmps74
 have al:=St.start w
 refine wq (sqr (sqp [.k 4 (.string ⟨#[]⟩)] ?_))
 refine aa (wq (sqr (sqp [.k 5 (.string ⟨#[]⟩)] ?_)))
 refine aa (wq (wq (sqr (sqp [.k 6 (vi 0)] ?_))))
 refine aa (wp_block ?_)
 refine aT (fun t_ mz az W=>∃k:Nat,k<=m/\mz=m-k/\az=⟨(ovr (jv az) [(0,0,0,[vi (shN N k)]),(4,5,0,[.string (ag N k),vi ((k:Int))]),(0,7,14,[])] t_).toArray,[]⟩/\St w [] [] W) (m-0) ?_ ?_
 exact⟨0,by omega,rfl,(by rw[IG,DV];rfl),al.pk []⟩
 rintro n4 a4 W4 ⟨k,hk,rfl,hj_,be⟩
 refine ovz hj_ fun TM=>?_
 refine wq (wq (sqr (sqp [.m 7 6,.m 8 1,.k 9 (.bool (decide ((k:Int)<(m:Int))))] ?_)))
 refine aa (wds (fun Mt In=>?_) fun Mt In=>?_)
 refine wp_skip (aa (wq (wp_block (wq (sqr (sqp [.m 12 0,sAn 13 .i64 (shN N k) 255 ((shN N k) % 256) (wO (shN N k) 8 (by decide)),sW 14 .u8 ((shN N k) % 256) ((shN N k) % 256) (IntWalk.u8_in _ (by omega))] ?_))))))
 refine ej (fun x_=>sA x_) (fun uW=> .slice uW 1 1) (fun uW=>eO 5 1 (.slice uW 1 1) 1 ([.int .u8 ((shN N k) % 256)])) be (by
   refine svA fun d g W X cx=>?_
   have PC:d (.tmp 14)= .int .u8 ((shN N k) % 256):=(cx.ou 14)
   exact du (e:=5) (xs:=[.int .u8 ((shN N k) % 256)]) rfl (by simp[go_sem,PC]) rfl (by decide) rfl rfl (fun _ _ _ _ _=> .intro)) fun uW ze cV=>?_
 refine sql (.string (strOfNums ([((shN N k) % 256)]))) cV (fun cx=>la (e:=5) rfl (by kernel_rfl) (by kernel_rfl) (by kernel_rfl) (cx.ou 15) (cx.ri 0 rfl)) ?_
 refine sqp [.m 17 5] ?_
 refine sql (.string (ag N (k+1))) cV (fun cx=>(by rw[wG N (by omega)];exact uc rfl (cx.ou 16) (cx.ou 17) (by rw[strOfNums_size,aF N k (by omega)];first|omega|(simp only[List.length_cons,List.length_nil];omega)))) ?_
 refine sqp [.m 5 18] ?_
 refine aa (sqr (sqp [.m 19 0] ?_))
 refine sql (vi (shN N (k+1))) cV (fun cx=>JT rfl (cx.ou 19) (cx.co _) (by decide) (FS N k)) ?_
 refine sqp [.m 0 20] ?_
 refine aw (aa (sqr (sqp [.m 10 6,sI 11 ((k:Int)+1) (by omega),.m 6 11] ?_)))
 refine aa ?_
 refine⟨m-((k+1)),by omega,?_⟩
 exact⟨(k+1),by omega,rfl,(by kernel_rfl),cV.pk []⟩
 refine wp_exit (au (au (bh (aa (wq (sqr (sqp [.m 21 5,.m 4 21] ?_)))))))
 refine aa (wp_ret ?_)
 refine bpr (.string (ag N k)) (ai Tryz.results74 rpt) ?_
 exact Ret.of (by rw[show k=m by omega]) be.ext
theorem kN(s:ByteArray)(w:World)(hs:s.size<=65535):
  Calls Tryz.prog 139 #[.string s] w (Ret (.string (aX s)) w):=by
 have hp:=aF (s.size:Int) 2 (by omega)
 go_enter Tryz.func139,Tryz.ntmps139
 have al:=St.start w
 refine wq (sqr (sqp [.k 2 (.string ⟨#[]⟩)] ?_))
 refine aa (wq (sqr (sqp [.m 3 0,.k 4 (vi ((s.size:Int)))] ?_)))
 refine sqk (.string (ag (s.size:Int) 2)) al (fun cx=>⟨_,e6 (s.size:Int) 2 _ (by omega),(aP (cx.ou 4) (cx.co _))⟩) fun W4 be=>?_
 refine sqp [.m 6 0,sS 7 (ag (s.size:Int) 2) s (by omega),.m 2 7] ?_
 refine aa (wp_ret ?_)
 refine bpr (.string ((ag (s.size:Int) 2)++s)) (ai Tryz.results139 rpt) ?_
 exact Ret.of rfl be.ext
theorem Ak(x sl:Int)(s:ByteArray)(w:World)(hs:s.size<=9223372036854775807):
  Calls Tryz.prog 49 #[.agg #[.int .i64 x,.int .i64 sl,.string s]] w (Ret (.bool (edR (x,sl,s))) w):=by
 go_enter Tryz.func49,Tryz.ntmps49
 have al:=St.start w
 refine wq (sqr ?_)
 refine ce #[vi x,vi sl,.string s] al fun aB W1 aA=>?_
 refine sqp [.k 2 (.bool false)] ?_
 refine aa (wq (wq (sqr (sqp [.k 3 (vp aB)] ?_))))
 refine av 0 aA ?_
 refine sqp [.k 5 (.bool (decide (x<0))),.m 6 5] ?_
 refine d6 6 [7,8,9] ?_ rfl (fun hq=>?_) ?_
 rotate_left
 refine sqp [.k 7 (vp aB)] ?_
 refine av 0 aA ?_
 refine sqp [.k 9 (.bool (decide (399<x)))] ?_
 exact sqe
 refine c8 ?_
 refine sqp [sPo 10 (decide (x<0)) (decide (399<x))] ?_
 refine aa (wbs (fun dt=>?_) fun dt=>?_)
 have hH:=dt
 simp only[zB] at hH
 refine wq (sqr (sqp [.k 2 (.bool false)] ?_))
 refine aa (wp_ret (aj ?_))
 refine bpr (.bool false) (ai Tryz.results49 rpt) ?_
 exact Ret.bool (KN dt) aA.ext
 have hH:=dt
 simp only[zB] at hH
 obtain⟨Mu,Mv⟩:=hH
 refine wp_skip (aa (wq (wq (sqr (sqp [.k 11 (po aB 1)] ?_)))))
 refine av 0 aA ?_
 refine sqp [.k 13 (.bool (sl==(-1)))] ?_
 refine aa (wbs (fun dj=>?_) fun dj=>?_)
 ·have ma:=beq_iff_eq.1 dj
  refine wq (sqr (sqp [.k 14 (po aB 2)] ?_))
  refine av 0 aA ?_
  refine sqp [.k 16 (vi ((s.size:Int))),.k 17 (.bool ((s.size:Int)==1)),.m 18 17] ?_
  refine d6 18 [19,20,21,22] ?_ rfl (fun hq=>?_) ?_
  rotate_left
  have hq_:=hq
  try simp only[zB] at hq_
  refine sqp [.k 19 (po aB 2)] ?_
  refine av 0 aA ?_
  refine sql (.int .u8 (bW (bl s) 0)) aA (fun cx=>jY (m:=0) rfl (by kernel_rfl) (cx.ou 20) (cx.co _) (by omega) (by omega)) ?_
  refine sqp [.k 22 (.bool (decide (bW (bl s) 0<=2)))] ?_
  exact sqe
  refine c8 ?_
  refine sqp [sPa 23 ((s.size:Int)==1) (decide (bW (bl s) 0<=2)),.m 2 23] ?_
  refine aa (wp_ret (aj ?_))
  refine bpr (.bool (((s.size:Int)==1)&&(decide (bW (bl s) 0<=2)))) (ai Tryz.results49 rpt) ?_
  exact Ret.bool (JL dt dj) aA.ext
 have ma:=beq_eq_false_iff_ne.1 dj
 refine wp_skip (aa (wq (sqr (sqp [.k 24 (po aB 1)] ?_))))
 refine av 0 aA ?_
 refine sqp [.k 26 (.bool (decide (0<=sl))),.m 27 26] ?_
 refine d6 27 [28,29,30] ?_ rfl (fun hq=>?_) ?_
 rotate_left
 refine sqp [.k 28 (po aB 1)] ?_
 refine av 0 aA ?_
 refine sqp [.k 30 (.bool (decide (sl<=23)))] ?_
 exact sqe
 refine c8 ?_
 refine sqp [sPa 31 (decide (0<=sl)) (decide (sl<=23)),.m 32 31] ?_
 refine d6 32 [33,34,35,36] ?_ rfl (fun hq=>?_) ?_
 rotate_left
 refine sqp [.k 33 (po aB 2)] ?_
 refine av 0 aA ?_
 refine sqp [.k 35 (vi ((s.size:Int))),.k 36 (.bool (decide ((s.size:Int)<=400)))] ?_
 exact sqe
 refine c8 ?_
 refine sqp [sPa 37 ((decide (0<=sl))&&(decide (sl<=23))) (decide ((s.size:Int)<=400)),.m 2 37] ?_
 refine aa (wp_ret ?_)
 refine bpr (.bool (((decide (0<=sl))&&(decide (sl<=23)))&&(decide ((s.size:Int)<=400)))) (ai Tryz.results49 rpt) ?_
 exact Ret.bool (JF dt dj) aA.ext
theorem so(w:World):
  Calls Tryz.prog 50 #[sn] w (Ret (.bool true) w):=by
 go_enter Tryz.func50,Tryz.ntmps50
 have al:=St.start w
 refine wq (sqr (sqp [.k 2 (.bool false)] ?_))
 refine aa (wq (wq (sqr (sqp [.k 3 (vi 0)] ?_))))
 refine aa (wp_block ?_)
 refine aT (fun t_ mz az W=>∃j:Nat,j<=0/\mz=0-j/\az=⟨(ovr (jv az) [(2,2,1,[vi ((j:Int))]),(0,4,12,[])] t_).toArray,[]⟩/\St w [] [] W) (0-0) ?_ ?_
 exact⟨0,Nat.zero_le _,rfl,(by kernel_rfl),al.pk []⟩
 rintro n3 a3 W3 ⟨j,hj,rfl,hj_,bc⟩
 refine ovz hj_ fun TN=>?_
 refine wq (wq (sqr ?_))
 have hd8:(decide ((j:Int)<0))=false:=(decide_eq_false (by omega))
 refine sqp [.m 4 3,.m 5 0,.k 6 (vi 0),.e 7 (.bool (decide ((j:Int)<0))) (.bool false) (congrArg Value.bool hd8)] ?_
 refine aa (wcf rfl (wp_exit (au (au (bh (aa (wq (sqr (sqp [.m 16 0,.k 17 (vi 0),.k 18 (.bool true),.k 2 (.bool true)] ?_)))))))))
 refine aa (wp_ret ?_)
 refine bpr (.bool true) (ai Tryz.results50 rpt) ?_
 exact Ret.bool (by decide) bc.ext
theorem F8(w:World):
  Calls Tryz.prog 170 #[.int .i64 0] w (Ret (.string ⟨#[0]⟩) w):=by
 go_enter Tryz.func170,Tryz.ntmps170
 have al:=St.start w
 refine wq (sqr (sqp [.k 2 (.string ⟨#[]⟩)] ?_))
 refine aa (wq (sqr (sqp [.m 3 0,sW 4 .u8 0 0 (by decide)] ?_)))
 refine ej (fun x_=>sA x_) (fun CS=> .slice CS 1 1) (fun CS=>eO 5 1 (.slice CS 1 1) 1 ([.int .u8 0])) al (by
   refine svA fun d g W X cx=>?_
   have uK:d (.tmp 4)= .int .u8 0:=(cx.ou 4)
   exact du (e:=5) (xs:=[.int .u8 0]) rfl (by simp[go_sem,uK]) rfl (by decide) rfl rfl (fun _ _ _ _ _=> .intro)) fun CS W4 be=>?_
 refine sql (.string (strOfNums ([0]))) be (fun cx=>la (e:=5) rfl (by kernel_rfl) (by kernel_rfl) (by kernel_rfl) (cx.ou 5) (cx.ri 0 rfl)) ?_
 refine sqp [.m 2 6] ?_
 refine aa (wp_ret ?_)
 refine bpr (.string (strOfNums ([0]))) (ai Tryz.results170 rpt) ?_
 exact Ret.of rfl be.ext
theorem uf(w:World):
  Calls Tryz.prog 140 #[sn] w (Ret (.string ⟨#[0]⟩) w):=by
 go_enter Tryz.func140,Tryz.ntmps140
 have al:=St.start w
 refine wq (sqr (sqp [.k 2 (.string ⟨#[]⟩)] ?_))
 refine aa (wq (wq (sqr (sqp [.m 5 0] ?_))))
 refine sqk (.bool true) al (fun cx=>⟨_,so _,(ax (cx.ou 5))⟩) fun W3 bc=>?_
 refine sqp [.k 7 (.bool false)] ?_
 refine aa (wcf rfl (wp_skip (aa (wq (sqr (sqp [.m 8 0,.k 9 (vi 0)] ?_))))))
 refine sqk (.string ((⟨#[0]⟩:ByteArray))) bc (fun cx=>⟨_,F8 _,(ax (cx.ou 9))⟩) fun W7 aZ=>?_
 refine sqp [.m 3 10] ?_
 refine aa (wq (wq (sqr (sqp [.k 4 (vi 0)] ?_))))
 refine aa (wp_block ?_)
 refine aT (fun t_ mz az W=>∃j:Nat,j<=0/\mz=0-j/\az=⟨(ovr (jv az) [(4,4,0,[vi ((j:Int))]),(6,11,49,[])] t_).toArray,[]⟩/\St w [] [] W) (0-0) ?_ ?_
 exact⟨0,Nat.zero_le _,rfl,(by kernel_rfl),aZ.pk []⟩
 rintro TO a10 wY ⟨j,hj,rfl,hj_,dR⟩
 refine ovz hj_ fun R2=>?_
 refine wq (wq (sqr ?_))
 have hd15:(decide ((j:Int)<0))=false:=(decide_eq_false (by omega))
 refine sqp [.m 11 4,.m 12 0,.k 13 (vi 0),.e 14 (.bool (decide ((j:Int)<0))) (.bool false) (congrArg Value.bool hd15)] ?_
 refine aa (wcf rfl (wp_exit (au (au (bh (aa (wq (sqr (sqp [.m 60 3,.m 2 60] ?_)))))))))
 refine aa (wp_ret ?_)
 refine bpr (.string ((⟨#[0]⟩:ByteArray))) (ai Tryz.results140 rpt) ?_
 exact Ret.of rfl dR.ext
theorem mA(k x t:Int)(A:Option Addr)(c:Nat)(l:List EdT)(note:ByteArray)(w:World)(hA:At w A (l.flatMap edC))(hl:l.length<=1000000)(hz:∀e∈l,e.2.2.size<=9223372036854775807)(hns:note.size<=9223372036854775807):
  Calls Tryz.prog 16 #[.agg #[.int .i64 k,.int .i64 x,.int .i64 t,sn,sn,.slice A l.length c,sn,.string note]] w (Ret (.bool (bv ⟨k,x,t,l,note⟩)) w):=by
 go_enter Tryz.func16,Tryz.ntmps16
 have al:=St.start w
 refine wq (sqr ?_)
 refine ce #[vi k,vi x,vi t,sn,sn,.slice A l.length c,sn,.string note] al fun aB W1 aA=>?_
 refine sqp [.k 2 (.bool false)] ?_
 refine aa (wq (wq (sqr (sqp [.k 6 (vp aB)] ?_))))
 refine av 0 aA ?_
 refine sqp [.k 8 (.bool (decide (k<1))),.m 9 8] ?_
 refine d6 9 [10,11,12] ?_ rfl (fun hq=>?_) ?_
 rotate_left
 refine sqp [.k 10 (vp aB)] ?_
 refine av 0 aA ?_
 refine sqp [.k 12 (.bool (decide (10<k)))] ?_
 exact sqe
 refine c8 ?_
 refine sqp [sPo 13 (decide (k<1)) (decide (10<k)),.m 14 13] ?_
 refine d6 14 [15,16,17] ?_ rfl (fun hq=>?_) ?_
 rotate_left
 refine sqp [.k 15 (po aB 1)] ?_
 refine av 0 aA ?_
 refine sqp [.k 17 (.bool (decide (x<0)))] ?_
 exact sqe
 refine c8 ?_
 refine sqp [sPo 18 ((decide (k<1))||(decide (10<k))) (decide (x<0)),.m 19 18] ?_
 refine d6 19 [20,21,22] ?_ rfl (fun hq=>?_) ?_
 rotate_left
 refine sqp [.k 20 (po aB 1)] ?_
 refine av 0 aA ?_
 refine sqp [.k 22 (.bool (decide (127<x)))] ?_
 exact sqe
 refine c8 ?_
 refine sqp [sPo 23 (((decide (k<1))||(decide (10<k)))||(decide (x<0))) (decide (127<x)),.m 24 23] ?_
 refine d6 24 [25,26,27] ?_ rfl (fun hq=>?_) ?_
 rotate_left
 refine sqp [.k 25 (po aB 2)] ?_
 refine av 0 aA ?_
 refine sqp [.k 27 (.bool (decide (t<0)))] ?_
 exact sqe
 refine c8 ?_
 refine sqp [sPo 28 ((((decide (k<1))||(decide (10<k)))||(decide (x<0)))||(decide (127<x))) (decide (t<0)),.m 29 28] ?_
 refine d6 29 [30,31,32] ?_ rfl (fun hq=>?_) ?_
 rotate_left
 refine sqp [.k 30 (po aB 2)] ?_
 refine av 0 aA ?_
 refine sqp [.k 32 (.bool (decide (65535<t)))] ?_
 exact sqe
 refine c8 ?_
 refine sqp [sPo 33 (((((decide (k<1))||(decide (10<k)))||(decide (x<0)))||(decide (127<x)))||(decide (t<0))) (decide (65535<t)),.m 34 33] ?_
 refine d6 34 [35,36,37,38] ?_ rfl (fun hq=>?_) ?_
 rotate_left
 refine sqp [.k 35 (po aB 5)] ?_
 refine av 0 aA ?_
 refine sqp [.k 37 (vi ((l.length:Int))),.k 38 (.bool (decide (64<(l.length:Int))))] ?_
 exact sqe
 refine c8 ?_
 refine sqp [sPo 39 ((((((decide (k<1))||(decide (10<k)))||(decide (x<0)))||(decide (127<x)))||(decide (t<0)))||(decide (65535<t))) (decide (64<(l.length:Int))),.m 40 39] ?_
 refine d6 40 [41,42,43,44] ?_ rfl (fun hq=>?_) ?_
 rotate_left
 refine sqp [.k 41 (po aB 6)] ?_
 refine av 0 aA ?_
 refine sqp [.k 43 (vi 0),.k 44 (.bool false)] ?_
 exact sqe
 refine c8 ?_
 refine sqp [sPo 45 (((((((decide (k<1))||(decide (10<k)))||(decide (x<0)))||(decide (127<x)))||(decide (t<0)))||(decide (65535<t)))||(decide (64<(l.length:Int)))) false,.m 46 45] ?_
 refine d6 46 [47,48,49,50] ?_ rfl (fun hq=>?_) ?_
 rotate_left
 refine sqp [.k 47 (po aB 7)] ?_
 refine av 0 aA ?_
 refine sqp [.k 49 (vi ((note.size:Int))),.k 50 (.bool (decide (60000<(note.size:Int))))] ?_
 exact sqe
 refine c8 ?_
 refine sqp [sPo 51 ((((((((decide (k<1))||(decide (10<k)))||(decide (x<0)))||(decide (127<x)))||(decide (t<0)))||(decide (65535<t)))||(decide (64<(l.length:Int))))||false) (decide (60000<(note.size:Int)))] ?_
 refine aa (wbs (fun zp=>?_) fun zp=>?_)
 have xq:=zp
 simp only[zB] at xq
 refine wq (sqr (sqp [.k 2 (.bool false)] ?_))
 refine aa (wp_ret (aj ?_))
 refine bpr (.bool false) (ai Tryz.results16 rpt) ?_
 exact Ret.bool (AT fun hh=>by have h1:=d8 hh;have a1:=h1.kind;have a2:=h1.xid;have a3:=h1.tbl;have a4:=h1.many;have a5:=h1.note;dsimp only at a1 a2 a3 a4 a5;have h_:=zp;simp at h_;omega) aA.ext
 have xq:=zp
 simp only[zB] at xq
 obtain⟨⟨⟨⟨⟨⟨⟨⟨QQ,QR⟩,QS⟩,QT⟩,QU⟩,QV⟩,QW⟩,QX⟩,QY⟩:=xq
 refine wp_skip (aa (wq (wq (sqr (sqp [.k 3 (vi 0)] ?_)))))
 refine aa (wp_block ?_)
 refine aT (fun t_ mz az W=>∃j:Nat,j<=l.length/\(∀i x,i<j->l[i]? =some x->edR x=true)/\mz=l.length-j/\az=⟨(ovr (jv az) [(2,2,1,[vi ((j:Int))]),(0,4,1,[]),(47,52,15,[])] t_).toArray,[]⟩/\St w [] [eB aB 27 #[vi k,vi x,vi t,sn,sn,.slice A l.length c,sn,.string note]] W) (l.length-0) ?_ ?_
 exact⟨0,Nat.zero_le _,fun i x h=>absurd h (Nat.not_lt_zero i),rfl,(by kernel_rfl),aA.pk [0]⟩
 rintro QZ a52 Bt ⟨j,hj,ha,rfl,hj_,cN⟩
 refine ovz hj_ fun PD=>?_
 refine wq (wq (sqr (sqp [.m 52 3,.k 53 (po aB 5)] ?_)))
 refine av 0 cN ?_
 refine sqp [.k 55 (vi ((l.length:Int))),.k 56 (.bool (decide ((j:Int)<(l.length:Int))))] ?_
 refine aa (wds (fun PE N6=>?_) fun PE N6=>?_)
 refine wp_skip (aa (wq (wp_block (wq ?_))))
 obtain⟨ep,es,eb,hek⟩:=k8 (l:=l) (k:=j) (by omega)
 have hez:eb.size<=9223372036854775807:=hz _ (List.mem_of_getElem? hek)
 refine sqr (sqp [.k 59 (po aB 5)] ?_)
 refine av 0 cN ?_
 refine sqp [.m 61 3] ?_
 refine sql (.pointer (some ((ad A).add (j*3)))) cN (fun cx=>aI (e:=84) (m:=j) (sz:=3) rfl (by kernel_rfl) (by kernel_rfl) (cx.ou 60) (cx.ou 61) (by omega) (by omega) (hA.ext cx.upd.to_ext) (bq (sz:=3) bJ (by decide) (by omega))) ?_
 refine sql (.agg #[vi ep,vi es,.string eb]) cN (fun cx=>bT (f:=edC) (m:=j) (sz:=3) (off:=0) (n:=3) rfl (by kernel_rfl) (by kernel_rfl) (cx.ou 62) rfl bJ (hA.ext cx.upd.to_ext) hek (fun k hk=>match k,hk with|0,_=>rfl|1,_=>rfl|2,_=>rfl|k+3,hk=>absurd hk (by omega))) ?_
 refine sqk (.bool (edR (ep,es,eb))) cN (fun cx=>⟨_,Ak ep es eb _ hez,(ax (cx.ou 63))⟩) fun I5 gI=>?_
 refine sqp [.m 4 64] ?_
 refine aa (wq (sqr (sqp [.m 65 4,.k 66 (.bool (!(edR (ep,es,eb))))] ?_)))
 refine aa ?_
 rcases Bool.eq_false_or_eq_true (edR (ep,es,eb)) with zq|zq
 refine wp_cond_false (show Act.eval _ _= .bool false from(congrArg Value.bool (by rw[zq];rfl))) (wp_skip (aw (aa (sqr (sqp [.m 57 3,sI 58 ((j:Int)+1) (by omega),.m 3 58] ?_)))))
 refine aa ?_
 refine⟨l.length-((j+1)),by omega,?_⟩
 exact⟨(j+1),by omega,x5 ha hek (by simpa using zq),rfl,(by kernel_rfl),gI.pk [0]⟩
 refine wp_cond_true (show Act.eval _ _= .bool true from(congrArg Value.bool (by rw[zq];rfl))) (wq (sqr (sqp [.k 2 (.bool false)] ?_)))
 refine aa (wp_ret (bb (aj (aj (bb (aj ?_))))))
 refine bpr (.bool false) (ai Tryz.results16 rpt) ?_
 exact Ret.bool (AT fun hh=>by have h1:=(d8 hh).eds _ (List.mem_of_getElem? hek);have h_:=zq;simp[h1] at h_) gI.ext
 refine wp_exit (au (au (bh (aa (wq (wq (sqr (sqp [.k 5 (vi 0)] ?_))))))))
 refine aa (wp_block ?_)
 refine aT (fun t_ mz az W=>∃j2:Nat,j2<=0/\mz=0-j2/\az=⟨(ovr (jv az) [(2,2,1,[]),(2,5,0,[vi ((j2:Int))]),(61,67,21,[])] t_).toArray,[]⟩/\St w [] [eB aB 27 #[vi k,vi x,vi t,sn,sn,.slice A l.length c,sn,.string note]] W) (0-0) ?_ ?_
 exact⟨0,Nat.zero_le _,rfl,(by kernel_rfl),cN.pk [0]⟩
 rintro TP a74 IW ⟨j2,hj2,rfl,hj_,hG⟩
 refine ovz hj_ fun R3=>?_
 refine wq (wq (sqr (sqp [.m 67 5,.k 68 (po aB 6)] ?_)))
 refine av 0 hG ?_
 have hd80:(decide ((j2:Int)<0))=false:=(decide_eq_false (by omega))
 refine sqp [.k 70 (vi 0),.e 71 (.bool (decide ((j2:Int)<0))) (.bool false) (congrArg Value.bool hd80)] ?_
 refine aa (wcf rfl (wp_exit (au (au (bh (aa (wq (sqr (sqp [.k 88 (po aB 3)] ?_)))))))))
 refine av 0 hG ?_
 refine sqk (.bool true) hG (fun cx=>⟨_,so _,(ax (cx.ou 89))⟩) fun TQ I6=>?_
 refine sqp [.k 91 (.bool true)] ?_
 refine dE 91 [92,93,94] rfl rfl ?_
 refine sqp [.k 92 (po aB 4)] ?_
 refine av 0 I6 ?_
 refine sqk (.bool true) I6 (fun cx=>⟨_,so _,(ax (cx.ou 93))⟩) fun OP pA=>?_
 refine sqp [.k 95 (.bool true),.k 2 (.bool true)] ?_
 refine aa (wp_ret ?_)
 refine bpr (.bool true) (ai Tryz.results16 rpt) ?_
 exact Ret.bool (Hw (by have h_:=zp;simp at h_;exact⟨by dsimp only;omega,by dsimp only;omega,by dsimp only;omega,by dsimp only;omega,fun y hy=>by obtain⟨i,hi,rfl⟩:=List.mem_iff_getElem.1 hy;exact ha i _ (by dsimp only at hi;omega) (List.getElem?_eq_getElem hi),by dsimp only;omega⟩)) pA.ext
theorem yY(k x t:Int)(A:Option Addr)(c:Nat)(l:List EdT)(note:ByteArray)(w:World)(hA:At w A (l.flatMap edC))(hl:l.length<=1000000)(hz:∀e∈l,e.2.2.size<=9223372036854775807)(hns:note.size<=9223372036854775807):
  Calls Tryz.prog 73 #[.agg #[.int .i64 k,.int .i64 x,.int .i64 t,sn,sn,.slice A l.length c,sn,.string note]] w (Ret (.string (ay ⟨k,x,t,l,note⟩)) w):=by
 go_enter Tryz.func73,Tryz.ntmps73
 have al:=St.start w
 refine wq (sqr ?_)
 refine ce #[vi k,vi x,vi t,sn,sn,.slice A l.length c,sn,.string note] al fun aB W1 aA=>?_
 refine sqp [.k 2 (.string ⟨#[]⟩)] ?_
 refine aa (wq (wq (sqr ?_)))
 refine bE 0 8 aA ?_
 refine sqk (.bool (bv ⟨k,x,t,l,note⟩)) aA (fun cx=>⟨_,mA k x t _ _ l note _ (hA.ext cx.upd.to_ext) hl hz hns,(ax (cx.ou 6))⟩) fun W4 be=>?_
 refine sqp [.k 8 (.bool (!(bv ⟨k,x,t,l,note⟩)))] ?_
 refine aa ?_
 rcases Bool.eq_false_or_eq_true (bv ⟨k,x,t,l,note⟩) with dC|dC
 refine wp_cond_false (show Act.eval _ _= .bool false from(congrArg Value.bool (by rw[dC];rfl))) (wp_skip (aa (wq ?_)))
 have hrr:=dC
 have hro:=d8 hrr
 have hrm:l.length<=64:=hro.many
 have hrn:note.size<=60000:=hro.note
 have pS:∀z:Int,(ag z 1).size=1:=fun z=>aF z 1 (by omega)
 have oA:∀z:Int,(ag z 2).size=2:=fun z=>aF z 2 (by omega)
 have htz:(aX ⟨#[0]⟩).size=3:=gZ _
 refine bG [0,1,3,0,8,31,63,0,128,447,1023,0,2048,7103,15295,32767,0,65536,228287,490431,1048575,0,2097152,6291456,15694783,33554431,67108863] [[],[0],[],[],[0],[],[],[],[0],[],[],[],[0],[],[],[],[],[0],[],[],[],[],[0]] [.k 9 (vp aB),.c 10 (vi k),.c 11 (.string (ag k 1)),.k 12 (po aB 1),.c 13 (vi x),.c 14 (.string (ag x 1)),tS 15 (ag k 1) (ag x 1) (by simp only[ByteArray.size_append,pS,oA,htz];omega),.k 16 (po aB 2),.c 17 (vi t),.c 18 (.string (ag t 2)),tS 19 ((ag k 1)++(ag x 1)) (ag t 2) (by simp only[ByteArray.size_append,pS,oA,htz];omega),.k 20 (po aB 3),.c 21 (sn),.c 22 (.string ((⟨#[0]⟩:ByteArray))),.c 23 (.string (aX (⟨#[0]⟩:ByteArray))),tS 24 (((ag k 1)++(ag x 1))++(ag t 2)) (aX (⟨#[0]⟩:ByteArray)) (by simp only[ByteArray.size_append,pS,oA,htz];omega),.k 25 (po aB 4),.c 26 (sn),.c 27 (.string ((⟨#[0]⟩:ByteArray))),.c 28 (.string (aX (⟨#[0]⟩:ByteArray))),tS 29 ((((ag k 1)++(ag x 1))++(ag t 2))++(aX (⟨#[0]⟩:ByteArray))) (aX (⟨#[0]⟩:ByteArray)) (by simp only[ByteArray.size_append,pS,oA,htz];omega),.k 30 (po aB 5),.c 31 (.slice A l.length c),.k 32 (vi ((l.length:Int))),.c 33 (.string (ag (l.length:Int) 1)),tS 34 (((((ag k 1)++(ag x 1))++(ag t 2))++(aX (⟨#[0]⟩:ByteArray)))++(aX (⟨#[0]⟩:ByteArray))) (ag (l.length:Int) 1) (by simp only[ByteArray.size_append,pS,oA,htz];omega),.k 3 (.string ((((((ag k 1)++(ag x 1))++(ag t 2))++(aX (⟨#[0]⟩:ByteArray)))++(aX (⟨#[0]⟩:ByteArray)))++(ag (l.length:Int) 1)))] [0] [1,2,4,5,8,9,12,13,14,17,18,19,22,24] [(3,26,1,4),(5,0,26,31)] be ?_ fun W7 aZ=>?_
 refine⟨?_,?_,?_,?_,?_,?_,?_,?_,?_,?_,?_,?_,?_,?_,trivial⟩
 exact xs4 rfl id fun cx=>ae rfl (by kernel_rfl) (cx.an 0) ((cx.bi 0 rfl).cell 0)
 exact xsc rfl id rfl rfl fun cx=>⟨_,e6 k 1 _ (by omega),(aP (cx.an 1) (cx.co _))⟩
 exact xs4 rfl id fun cx=>ae rfl (by kernel_rfl) (cx.an 3) ((cx.bi 0 rfl).cell 1)
 exact xsc rfl id rfl rfl fun cx=>⟨_,e6 x 1 _ (by omega),(aP (cx.an 4) (cx.co _))⟩
 exact xs4 rfl id fun cx=>ae rfl (by kernel_rfl) (cx.an 7) ((cx.bi 0 rfl).cell 2)
 exact xsc rfl id rfl rfl fun cx=>⟨_,e6 t 2 _ (by omega),(aP (cx.an 8) (cx.co _))⟩
 exact xs4 rfl id fun cx=>ae rfl (by kernel_rfl) (cx.an 11) ((cx.bi 0 rfl).cell 3)
 exact xsc rfl id rfl rfl fun cx=>⟨_,uf _,(ax (cx.an 12))⟩
 exact xsc rfl id rfl rfl fun cx=>⟨_,kN (⟨#[0]⟩:ByteArray) _ (by decide),(ax (cx.an 13))⟩
 exact xs4 rfl id fun cx=>ae rfl (by kernel_rfl) (cx.an 16) ((cx.bi 0 rfl).cell 4)
 exact xsc rfl id rfl rfl fun cx=>⟨_,uf _,(ax (cx.an 17))⟩
 exact xsc rfl id rfl rfl fun cx=>⟨_,kN (⟨#[0]⟩:ByteArray) _ (by decide),(ax (cx.an 18))⟩
 exact xs4 rfl id fun cx=>ae rfl (by kernel_rfl) (cx.an 21) ((cx.bi 0 rfl).cell 5)
 exact xsc rfl id rfl rfl fun cx=>⟨_,e6 (l.length:Int) 1 _ (by omega),(aP (cx.an 23) (cx.co _))⟩
 refine aa (wq (wq (sqr (sqp [.k 4 (vi 0)] ?_))))
 refine aa (wp_block ?_)
 refine aT (fun t_ mz az W=>∃j:Nat,∃sj:ByteArray,j<=l.length/\sj=cW (hdB ⟨k,x,t,l,note⟩) (l.take j)/\mz=l.length-j/\az=⟨(ovr (jv az) [(3,3,0,[.string sj,vi ((j:Int))]),(30,35,33,[])] t_).toArray,[]⟩/\St w [] [eB aB 27 #[vi k,vi x,vi t,sn,sn,.slice A l.length c,sn,.string note]] W) (l.length-0) ?_ ?_
 exact⟨0,(((((ag k 1)++(ag x 1))++(ag t 2))++(aX (⟨#[0]⟩:ByteArray)))++(aX (⟨#[0]⟩:ByteArray)))++(ag (l.length:Int) 1),Nat.zero_le _,NB _ _ _ _ _ _,rfl,(by kernel_rfl),aZ.pk [0]⟩
 rintro n9 a9 W9 ⟨j,sj,hj,hsj,rfl,hj_,cq⟩
 refine ovz hj_ fun Qn=>?_
 refine wq (wq (sqr (sqp [.m 35 4,.k 36 (po aB 5)] ?_)))
 refine av 0 cq ?_
 refine sqp [.k 38 (vi ((l.length:Int))),.k 39 (.bool (decide ((j:Int)<(l.length:Int))))] ?_
 refine aa (wds (fun dJ kV=>?_) fun dJ kV=>?_)
 refine wp_skip (aa (wq (wp_block ?_)))
 obtain⟨ep,es,eb,hek⟩:=k8 (l:=l) (k:=j) (by omega)
 have her:edR (ep,es,eb)=true:=hro.eds _ (List.mem_of_getElem? hek)
 have hez:eb.size<=400:=dA her
 obtain⟨hep_,hes_⟩:=ld her
 have hes_: -1<=es/\es<=23:=hes_
 have hsz:=k9 (l:=l.take j) (fun e he=>dA (hro.eds e (List.mem_of_mem_take he))) (hdB ⟨k,x,t,l,note⟩)
 rw[<-hsj,iK,List.length_take] at hsz
 have htb:=gZ eb
 refine bG [0,0,2,0,14,30,62,126,255,0,512,0,3584,7680,15872,32256,65278,131071,0,262144,0,1835008,3932160,8126464,16645886,33554431,67108863] [[],[],[0],[],[],[],[],[],[],[],[0],[],[],[],[],[],[],[],[],[0]] [.k 42 (.string sj),.k 43 (po aB 5),.c 44 (.slice A l.length c),.k 45 (vi ((j:Int))),.c 46 (.pointer (some ((ad A).add (j*3)))),.c 47 (.pointer (some ((ad A).add (j*3+0)))),.c 48 (vi ep),.c 49 (.string (ag ep 2)),tS 50 sj (ag ep 2) (by simp only[ByteArray.size_append,pS,oA,htz];omega),.k 51 (po aB 5),.c 52 (.slice A l.length c),.k 53 (vi ((j:Int))),.c 54 (.pointer (some ((ad A).add (j*3)))),.c 55 (.pointer (some ((ad A).add (j*3+1)))),.c 56 (vi es),tI 57 (es+1) (by omega),.c 58 (.string (ag (es+1) 1)),tS 59 (sj++(ag ep 2)) (ag (es+1) 1) (by simp only[ByteArray.size_append,pS,oA,htz];omega),.k 60 (po aB 5),.c 61 (.slice A l.length c),.k 62 (vi ((j:Int))),.c 63 (.pointer (some ((ad A).add (j*3)))),.c 64 (.pointer (some ((ad A).add (j*3+2)))),.c 65 (.string eb),.c 66 (.string (aX eb)),tS 67 ((sj++(ag ep 2))++(ag (es+1) 1)) (aX eb) (by simp only[ByteArray.size_append,pS,oA,htz];omega),.k 3 (.string (((sj++(ag ep 2))++(ag (es+1) 1))++(aX eb)))] [0] [2,4,5,6,7,10,12,13,14,16,19,21,22,23,24] [(3,26,1,4),(38,0,26,64)] cq ?_ fun pU dl=>?_
 refine⟨?_,?_,?_,?_,?_,?_,?_,?_,?_,?_,?_,?_,?_,?_,?_,trivial⟩
 exact xs4 rfl id fun cx=>ae rfl (by kernel_rfl) (cx.an 1) ((cx.bi 0 rfl).cell 5)
 exact xs4 rfl id fun cx=>aI (e:=84) (m:=j) (sz:=3) rfl (by kernel_rfl) (by kernel_rfl) (cx.an 2) (cx.an 3) (by omega) (by omega) (hA.ext cx.upd.to_ext) (bq (sz:=3) bJ (by decide) (by omega))
 exact xs4 rfl id fun cx=>br rfl (by kernel_rfl) (cx.an 4)
 exact xs4 rfl id fun cx=>ae rfl (by kernel_rfl) (cx.an 5) (At.eltc (f:=edC) (k:=0) bJ (hA.ext cx.upd.to_ext) hek rfl)
 exact xsc rfl id rfl rfl fun cx=>⟨_,e6 ep 2 _ (by omega),(aP (cx.an 6) (cx.co _))⟩
 exact xs4 rfl id fun cx=>ae rfl (by kernel_rfl) (cx.an 9) ((cx.bi 0 rfl).cell 5)
 exact xs4 rfl id fun cx=>aI (e:=84) (m:=j) (sz:=3) rfl (by kernel_rfl) (by kernel_rfl) (cx.an 10) (cx.an 11) (by omega) (by omega) (hA.ext cx.upd.to_ext) (bq (sz:=3) bJ (by decide) (by omega))
 exact xs4 rfl id fun cx=>br rfl (by kernel_rfl) (cx.an 12)
 exact xs4 rfl id fun cx=>ae rfl (by kernel_rfl) (cx.an 13) (At.eltc (f:=edC) (k:=1) bJ (hA.ext cx.upd.to_ext) hek rfl)
 exact xsc rfl id rfl rfl fun cx=>⟨_,e6 (es+1) 1 _ (by omega),(aP (cx.an 15) (cx.co _))⟩
 exact xs4 rfl id fun cx=>ae rfl (by kernel_rfl) (cx.an 18) ((cx.bi 0 rfl).cell 5)
 exact xs4 rfl id fun cx=>aI (e:=84) (m:=j) (sz:=3) rfl (by kernel_rfl) (by kernel_rfl) (cx.an 19) (cx.an 20) (by omega) (by omega) (hA.ext cx.upd.to_ext) (bq (sz:=3) bJ (by decide) (by omega))
 exact xs4 rfl id fun cx=>br rfl (by kernel_rfl) (cx.an 21)
 exact xs4 rfl id fun cx=>ae rfl (by kernel_rfl) (cx.an 22) (At.eltc (f:=edC) (k:=2) bJ (hA.ext cx.upd.to_ext) hek rfl)
 exact xsc rfl id rfl rfl fun cx=>⟨_,kN eb _ (by omega),(ax (cx.an 23))⟩
 refine aw (aa (sqr (sqp [.m 40 4,sI 41 ((j:Int)+1) (by omega),.m 4 41] ?_)))
 refine aa ?_
 refine⟨l.length-((j+1)),by omega,?_⟩
 exact⟨(j+1),(((sj++(ag ep 2))++(ag (es+1) 1))++(aX eb)),by omega,by rw[wS hek,<-hsj];exact(NI _ _ _ _).symm,rfl,(by kernel_rfl),dl.pk [0]⟩
 refine wp_exit (au (au (bh (aa (wq ?_)))))
 obtain rfl:j=l.length:=by omega
 rw[List.take_length] at hsj
 have hsz:=k9 (l:=l) (fun e he=>dA (hro.eds e he)) (hdB ⟨k,x,t,l,note⟩)
 rw[<-hsj,iK] at hsz
 have htn:=gZ note
 refine sqr (sqp [.m 68 3,.k 69 (po aB 6)] ?_)
 refine av 0 cq ?_
 refine sqp [.k 71 (vi 0)] ?_
 refine sqk (.string (ag 0 1)) cq (fun cx=>⟨_,e6 0 1 _ (by omega),(aP (cx.ou 71) (cx.co _))⟩) fun y6 e9=>?_
 refine sqp [sS 73 sj (ag 0 1) (by simp only[ByteArray.size_append,pS,oA,htz];omega),.m 3 73] ?_
 refine aa (wq (wq (sqr (sqp [.k 5 (vi 0)] ?_))))
 refine aa (wp_block ?_)
 refine aT (fun t_ mz az W=>∃j2:Nat,j2<=0/\mz=0-j2/\az=⟨(ovr (jv az) [(5,5,0,[vi ((j2:Int))]),(68,74,15,[])] t_).toArray,[]⟩/\St w [] [eB aB 27 #[vi k,vi x,vi t,sn,sn,.slice A l.length c,sn,.string note]] W) (0-0) ?_ ?_
 exact⟨0,Nat.zero_le _,rfl,(by kernel_rfl),e9.pk [0]⟩
 rintro TR a28 zb ⟨j2,hj2,rfl,hj_,dU⟩
 refine ovz hj_ fun R4=>?_
 refine wq (wq (sqr (sqp [.m 74 5,.k 75 (po aB 6)] ?_)))
 refine av 0 dU ?_
 have hd34:(decide ((j2:Int)<0))=false:=(decide_eq_false (by omega))
 refine sqp [.k 77 (vi 0),.e 78 (.bool (decide ((j2:Int)<0))) (.bool false) (congrArg Value.bool hd34)] ?_
 refine aa (wcf rfl (wp_exit (au (au (bh (aa (wq (sqr (sqp [.m 89 3,.k 90 (po aB 7)] ?_)))))))))
 refine av 0 dU ?_
 refine sqk (.string (aX note)) dU (fun cx=>⟨_,kN note _ (by omega),(ax (cx.ou 91))⟩) fun Fl iG=>?_
 refine sqp [sS 93 (sj++(ag 0 1)) (aX note) (by simp only[ByteArray.size_append,pS,oA,htz];omega),.m 2 93] ?_
 refine aa (wp_ret ?_)
 refine bpr (.string ((sj++(ag 0 1))++(aX note))) (ai Tryz.results73 rpt) ?_
 exact Ret.of (congrArg Value.string (by rw[ay,if_pos hrr,<-hsj];exact(NP _ _ _))) iG.ext
 refine wp_cond_true (show Act.eval _ _= .bool true from(congrArg Value.bool (by rw[dC];rfl))) (wq (sqr (sqp [.k 2 (.string ⟨#[]⟩)] ?_)))
 refine aa (wp_ret (aj ?_))
 refine bpr (.string ⟨#[]⟩) (ai Tryz.results73 rpt) ?_
 exact Ret.of (by rw[ay,dC];rfl) be.ext
theorem j6(k x t:Int)(A:Option Addr)(c:Nat)(l:List EdT)(note:ByteArray)(w:World)(hA:At w A (l.flatMap edC))(hl:l.length<=1000000)(hz:∀e∈l,e.2.2.size<=9223372036854775807)(hns:note.size<=9223372036854775807):
  Calls Tryz.prog 29 #[.agg #[.int .i64 k,.int .i64 x,.int .i64 t,sn,sn,.slice A l.length c,sn,.string note]] w (Ret (.string (aC ⟨k,x,t,l,note⟩)) w):=by
 go_enter Tryz.func29,Tryz.ntmps29
 have al:=St.start w
 refine wq (sqr ?_)
 refine ce #[vi k,vi x,vi t,sn,sn,.slice A l.length c,sn,.string note] al fun aB W1 aA=>?_
 refine sqp [.k 2 (.string ⟨#[]⟩)] ?_
 refine aa (wq (wq (sqr ?_)))
 refine bE 0 8 aA ?_
 refine sqk (.bool (bv ⟨k,x,t,l,note⟩)) aA (fun cx=>⟨_,mA k x t _ _ l note _ (hA.ext cx.upd.to_ext) hl hz hns,(ax (cx.ou 4))⟩) fun W4 be=>?_
 refine sqp [.k 6 (.bool (!(bv ⟨k,x,t,l,note⟩)))] ?_
 refine aa ?_
 rcases Bool.eq_false_or_eq_true (bv ⟨k,x,t,l,note⟩) with dC|dC
 refine wp_cond_false (show Act.eval _ _= .bool false from(congrArg Value.bool (by rw[dC];rfl))) (wp_skip (aa (wq (sqr ?_))))
 refine bE 0 8 be ?_
 refine sqk (.string (ay ⟨k,x,t,l,note⟩)) be (fun cx=>⟨_,yY k x t _ _ l note _ (hA.ext cx.upd.to_ext) hl hz hns,(ax (cx.ou 7))⟩) fun W8 dO=>?_
 refine sqp [.m 3 8] ?_
 refine aa (wq ?_)
 have hbz:=jo ⟨k,x,t,l,note⟩
 have hsl:=ir (ay ⟨k,x,t,l,note⟩)
 have y4:∀z:Int,(ag z 4).size=4:=fun z=>aF z 4 (by omega)
 refine sqr (sqp [.m 9 3,.k 10 (vi (((ay ⟨k,x,t,l,note⟩).size:Int)))] ?_)
 refine sqk (.string (ag ((ay ⟨k,x,t,l,note⟩).size:Int) 4)) dO (fun cx=>⟨_,e6 ((ay ⟨k,x,t,l,note⟩).size:Int) 4 _ (by omega),(aP (cx.ou 10) (cx.co _))⟩) fun ze cV=>?_
 refine sqp [.m 12 3] ?_
 refine sqk (.int .u32 ((aY (ay ⟨k,x,t,l,note⟩):Int))) cV (fun cx=>⟨_,oU (ay ⟨k,x,t,l,note⟩) _ (by omega),(ax (cx.ou 12))⟩) fun wZ cw=>?_
 refine sqp [sW 14 .i64 (aY (ay ⟨k,x,t,l,note⟩):Int) (aY (ay ⟨k,x,t,l,note⟩):Int) (IntWalk.i64_in _ (by omega))] ?_
 refine sqk (.string (ag (aY (ay ⟨k,x,t,l,note⟩):Int) 4)) cw (fun cx=>⟨_,e6 (aY (ay ⟨k,x,t,l,note⟩):Int) 4 _ (by omega),(aP (cx.ou 14) (cx.co _))⟩) fun pU dl=>?_
 refine sqp [sS 16 (ag ((ay ⟨k,x,t,l,note⟩).size:Int) 4) (ag (aY (ay ⟨k,x,t,l,note⟩):Int) 4) (by simp only[ByteArray.size_append,y4];omega),.m 17 3,sS 18 ((ag ((ay ⟨k,x,t,l,note⟩).size:Int) 4)++(ag (aY (ay ⟨k,x,t,l,note⟩):Int) 4)) (ay ⟨k,x,t,l,note⟩) (by simp only[ByteArray.size_append,y4];omega),.m 2 18] ?_
 refine aa (wp_ret ?_)
 refine bpr (.string (((ag ((ay ⟨k,x,t,l,note⟩).size:Int) 4)++(ag (aY (ay ⟨k,x,t,l,note⟩):Int) 4))++(ay ⟨k,x,t,l,note⟩))) (ai Tryz.results29 rpt) ?_
 exact Ret.of (congrArg Value.string (by rw[aC,if_pos dC];exact LL _ _ _)) dl.ext
 refine wp_cond_true (show Act.eval _ _= .bool true from(congrArg Value.bool (by rw[dC];rfl))) (wq (sqr (sqp [.k 2 (.string ⟨#[]⟩)] ?_)))
 refine aa (wp_ret (aj ?_))
 refine bpr (.string ⟨#[]⟩) (ai Tryz.results29 rpt) ?_
 exact Ret.of (by rw[aC,dC];rfl) be.ext
end
end Go.Proofs.YtcdjaepgahbhfaaGreat
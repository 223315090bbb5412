import Derived.Test.YtjlcoglmjldjbaaZ6
import Derived.Maps.OwnSet
import Derived.Maps.Views
import Derived.Carry
import Derived.StringKeys
set_option linter.unusedVariables false
set_option linter.unusedSimpArgs false
set_option maxRecDepth 100000
set_option maxHeartbeats 16000000
namespace Go.Proofs.Ytjlcoglmjldjbaa
section
open Go.RowKit
theorem oV{a:ByteArray}(h:a.size=0):neB a=false:=by
 have:a=⟨#[]⟩:=by apply eP;exact List.length_eq_zero_iff.1 (by rw[cF];exact h)
 subst this;rw[neB,beq_self_eq_true];rfl
theorem uZ{α:Type}{p:α->Bool}{x:α}{B:List α}(hx:p x=true):∀{A:List α}{k:Int},(∀y∈A,p y=false)->cG p k (A++x::B)=k+A.length
 | [],k,_=>by rw[List.nil_append,cG,if_pos hx];simp
 |y::A,k,h=>by
  rw[List.cons_append,cG,if_neg (by rw[h y (by simp)];decide),uZ hx fun z hz=>h z (by simp[hz]),List.length_cons]
  omega
theorem jj{α:Type}{A B:List α}{x d:α}:(A++x::B).getD A.length d=x:=by
 rw[List.getD_eq_getElem?_getD,List.getElem?_append_right (Nat.le_refl _),Nat.sub_self];rfl
theorem tP{ps:List PgS}{lv:Int}{A B:List AbN}{b c:AbN}(h:cu ps lv (A++b::c::B)):(ndD ps b.pg).high=c.low:=by
 obtain⟨⟨n,h1,_,_,_,h5,_⟩,_⟩:=cu.mem h
 rw[dh h1,h5];rfl
theorem Hi{ps:List PgS}{lv:Int}{pre suf:List AbN}{a:AbN}(h:cu ps lv (pre++a::suf)):kF ((pre++a::suf).map (ndP ps)) pre.length=if pre=[] then ⟨#[]⟩ else a.low:=by
 rcases List.eq_nil_or_concat pre with rfl|⟨A,b,rfl⟩
 rfl
 rw[kF,if_neg (by simp),if_neg (by simp)]
 rw[List.concat_eq_append] at h |-
 have e:((A++[b])++a::suf).map (ndP ps)=A.map (ndP ps)++ndP ps b::(a::suf).map (ndP ps):=by simp
 have e2:(A++[b]).length-1=(A.map (ndP ps)).length:=by simp
 rw[e,e2,jj]
 exact tP (by simpa using h)
theorem Gw{ps:List PgS}{lv:Int}{p s:List AbN}{m:AbN}(hL:LvOk (p++m::s))(h:cu ps lv (p++m::s)):ldW ((p++m::s).map (ndP ps)) (p.length:Int)=m.low:=by
 rcases List.eq_nil_or_concat p with rfl|⟨A,b,rfl⟩
 rw[ldW,if_neg (by simp)];exact hL.headlow.symm
 rw[ldW,if_pos (by simp)]
 rw[List.concat_eq_append] at h |-
 have e:((A++[b])++m::s).map (ndP ps)=A.map (ndP ps)++ndP ps b::(m::s).map (ndP ps):=by simp
 have e2:(((A++[b]).length:Int)-1).toNat=(A.map (ndP ps)).length:=by simp
 have e3:ldW ((A++[b]++m::s).map (ndP ps)) ((A++[b]).length:Int)= _:=rfl
 rw[e,e2,show (0,cZ)=((0,cZ):Int×NoD) from rfl,jj]
 exact tP (by simpa using h)
theorem K1{ps:List PgS}{lv:Int}{below:List AbN}{es:List EnD}{a:AbN}(hL:LvOk below)(h:cu ps lv below)(hd:(below.map AbN.pg).Nodup)(hes:es.map kv=a.es)(hne:0<es.length)(hin:∀e∈a.es,∃m∈below,m.pg=e.2/\m.low=e.1):ldF (below.map (ndP ps)) es=true:=by
 rw[ldF,Bool.and_eq_true]
 refine⟨List.all_eq_true.2 fun i hi=>?_,decide_eq_true (by omega)⟩
 have hi:=List.mem_range.1 hi
 obtain⟨e,he⟩:∃z,es.getD i en0=z:=⟨_,rfl⟩
 have hem:e∈es:=by rw[<-he];exact(ct hi).2
 rw[he]
 obtain⟨m,hm,h1,h2⟩:=hin _ (md hes hem)
 obtain⟨p,s,rfl⟩:=List.append_of_mem hm
 have hidx:ldI ((p++m::s).map (ndP ps)) e.2.2=(p.length:Int):=by
  rw[ldI,List.map_append,List.map_cons,uZ (by show ((ndP ps m).1==e.2.2)=true;rw[beq_iff_eq];exact h1),List.length_map]
  omega
  intro y hy
  obtain⟨b,hb,rfl⟩:=List.mem_map.1 hy
  show ((ndP ps b).1==e.2.2)=false
  rw[beq_eq_false_iff_ne]
  intro e2
  have e2:b.pg=e.2.2:=e2
  rw[List.map_append] at hd
  exact(List.nodup_append.1 hd).2.2 b.pg (List.mem_map.2 ⟨b,hb,rfl⟩) m.pg (by simp) (e2.trans h1.symm)
 rw[ldS,hidx,Gw hL h,h2,beq_self_eq_true,decide_eq_false (by omega)];rfl
theorem K3{n:NoD}{a:AbN}{suf:List AbN}{lo:ByteArray}(hv:NdV a)(hes:n.es.map kv=a.es)(hhi:n.high=hiA suf)(hlo:lo=⟨#[]⟩\/lo=a.low)(hlt:∀c∈suf,LtA a c):srF n.high lo n.es=true:=by
 rw[srF]
 refine List.all_eq_true.2 fun i hi=>?_
 have hi:=List.mem_range.1 hi
 obtain⟨e,he⟩:∃z,n.es.getD i en0=z:=⟨_,rfl⟩
 have hem:e∈n.es:=by rw[<-he];exact(ct hi).2
 have hea:=md hes hem
 have h1:(neB lo&&ag e.1 lo)=false:=by
  rcases hlo with rfl|rfl
  rw[oV rfl];rfl
  rw[hv.ge _ hea,Bool.and_false]
 have h2:(neB n.high&&!(ag e.1 n.high))=false:=by
  rw[hhi]
  cases suf with
  |nil=>rw[show hiA []=ByteArray.empty from rfl,oV rfl];rfl
  |cons c s=>
   rw[show hiA (c::s)=c.low from rfl,(hlt c (by simp)).2 _ hea]
   simp
 have h3:(decide (0<(i:Int))&&(e.1.toList==(n.es.getD ((i:Int)-1).toNat en0).1.toList))=false:=by
  by_cases h0:0<(i:Int)
  obtain⟨j,rfl⟩:∃j,i=j+1:=⟨i-1,by omega⟩
  have hr:n.es.Pairwise (fun a b=>ag a.1 b.1=true):=by have:=hv.ris;rw[<-hes] at this;exact List.pairwise_map.1 this
  have hj:((((j+1:Nat):Int)-1).toNat)=j:=by omega
  rw[hj]
  have h4:=List.pairwise_iff_getElem.1 hr j (j+1) (by omega) hi (by omega)
  have e1:n.es[j+1]=e:=by rw[<-he,List.getD_eq_getElem?_getD,List.getElem?_eq_getElem hi];rfl
  have e2:n.es.getD j en0=n.es[j]:=by rw[List.getD_eq_getElem?_getD,List.getElem?_eq_getElem (by omega)];rfl
  rw[e1] at h4
  rw[e2]
  have:(e.1.toList==(n.es[j]).1.toList)=false:=by
   rw[beq_eq_false_iff_ne]
   intro e3
   rw[ByteArray.toList_eq,ByteArray.toList_eq] at e3
   rw[eP e3,eR] at h4;cases h4
  rw[this,Bool.and_false]
  rw[decide_eq_false h0];rfl
 rw[srS,he,h1,h2,h3];rfl
theorem KQ{ps:List PgS}{T:List (List AbN)}{root:Int}(h:Tr ps T root){k:Nat}{l:List AbN}(hk:T[k]? =some l)(hlen:l.length<=400){Lb:List (Int×NoD)}(hb:∀k0,k=k0+1->∃below,T[k0]? =some below/\Lb=below.map (ndP ps)):rgF (l.map (ndP ps)) Lb=true:=by
 obtain⟨hrep,hL⟩:=h.level hk
 have hpos:0<l.length:=by obtain⟨a,t,rfl,_⟩:=hL.hd;simp
 rw[rgF,Bool.and_eq_true,List.length_map]
 refine⟨List.all_eq_true.2 fun i hi=>?_,by rw[decide_eq_true (by omega),decide_eq_true (by omega)];rfl⟩
 have hi:=List.mem_range.1 hi
 obtain⟨pre,a,suf,e,hpl⟩:∃pre a suf,l=pre++a::suf/\pre.length=i:=⟨l.take i,l[i],l.drop (i+1),by rw[List.getElem_cons_drop,List.take_append_drop],by rw[List.length_take];omega⟩
 subst e hpl
 obtain⟨n,h1,h2,h3,h4,h5,h6⟩:=h.node hk
 have hA:=hL.nd a (by simp)
 obtain⟨_,pp,_⟩:=List.pairwise_append.1 hL.pw
 have hlt:=(List.pairwise_cons.1 pp).1
 have hg:((pre++a::suf).map (ndP ps)).getD pre.length (0,cZ)=(a.pg,n):=by
  have e:(pre++a::suf).map (ndP ps)=pre.map (ndP ps)++ndP ps a::suf.map (ndP ps):=by simp
  rw[e,show pre.length=(pre.map (ndP ps)).length by simp,jj,ndP,dh h1]
 have hlo:=Hi hrep
 obtain⟨lo,hlo2⟩:∃z,kF ((pre++a::suf).map (ndP ps)) pre.length=z:=⟨_,rfl⟩
 rw[hlo2] at hlo
 have hlo3:lo=⟨#[]⟩\/lo=a.low:=by rw[hlo];split;exact .inl rfl;exact .inr rfl
 rw[rgX,hg,hlo2,List.length_map]
 have lst:(((pre.length:Nat):Int)==((pre++a::suf).length:Int)-1)=decide (suf=[]):=by
  rw[List.length_append,List.length_cons]
  cases suf with
  |nil=>simp
  |cons c s=>simp;omega
 have hA1:rgA n (((pre.length:Nat):Int)==((pre++a::suf).length:Int)-1) lo=false:=by
  rw[rgA,h3,K3 hA h6 h5 hlo3 hlt,lst,decide_eq_false (show ¬ 8<(n.es.length:Int) by have:=hA.len;rw[<-h6,List.length_map] at this;omega),h4,h5]
  cases suf with
  |nil=>rw[show (hiA []).toList=(⟨#[]⟩:ByteArray).toList from rfl,beq_self_eq_true];rfl
  |cons c s=>
   have hc:=h.pg_lt (b4 hk (a:=c) (by simp))
   rw[show hiA (c::s)=c.low from rfl,pB (hL.l4 c (by simp)),show rtA (c::s)=c.pg from rfl,decide_eq_false (show ¬c.pg<0 by omega)];rfl
 have hB1:rgB n pre.length Lb=false:=by
  rw[rgB]
  by_cases h0:0<n.lv
  obtain⟨k0,rfl⟩:∃k0,k=k0+1:=⟨k-1,by omega⟩
  obtain⟨below,hbl,rfl⟩:=hb k0 rfl
  obtain⟨⟨k1,t,g1⟩,g2⟩:=h.inn k0 _ _ hk hbl a (by simp)
  obtain⟨hrb,hLb⟩:=h.level hbl
  have hdist:(below.map AbN.pg).Nodup:=by
   obtain⟨T1,T2,e2,_,_⟩:=dP hbl
   have hd:=h.dist
   rw[e2,eG] at hd
   exact(List.nodup_append.1 (List.nodup_append.1 hd).2.1).1
  have hnl:0<n.es.length:=by rw[<-List.length_map (f:=kv),h6,g1];simp
  rw[K1 hLb hrb hdist h6 hnl g2,decide_eq_true h0]
  by_cases hp:pre=[]
  subst hp
  obtain⟨c,u,rfl,hcl⟩:=hLb.hd
  obtain⟨m,hm,hm1,hm2⟩:=g2 (a.low,k1) (by rw[g1];simp)
  have hmc:=hLb.first hm (by rw[hm2];exact hL.headlow)
  have hx:(n.es.getD 0 en0).2.2=c.pg:=by
   obtain⟨x,r,he⟩:=List.exists_cons_of_ne_nil (List.length_pos_iff.1 hnl)
   rw[he,g1] at h6
   injection h6 with h7 _
   have h7:kv x=(a.low,k1):=h7
   injection h7 with _ h8
   rw[he]
   show x.2.2=c.pg
   rw[h8,<-hmc];exact hm1.symm
  rw[hx]
  show (true&&(!true||((((0:Nat):Int)==0)&&(c.pg != (ndP ps c).1))))=false
  simp[ndP]
  have:(((pre.length:Nat):Int)==0)=false:=by
   rw[beq_eq_false_iff_ne]
   have:=List.length_pos_iff.2 hp
   omega
  rw[this];rfl
  rw[decide_eq_false h0];rfl
 have hC1:rgC n lo=false:=by
  rw[rgC]
  rcases hlo3 with rfl|rfl
  rw[oV rfl];rfl
  rw[h5]
  cases suf with
  |nil=>rw[show hiA []=ByteArray.empty from rfl,show neB ByteArray.empty=false from oV rfl];simp
  |cons c s=>rw[show hiA (c::s)=c.low from rfl,iP (hlt c (by simp)).1,Bool.and_false]
 rw[hA1,hB1,hC1];rfl
theorem Tr.check{ps:List PgS}{T:List (List AbN)}{root:Int}(h:Tr ps T root)(hps:ps.length<=150):du ps root=0:=by
 obtain⟨T0,r,e,h1,h2,h3⟩:=h.root
 obtain⟨n,g1,g2,_⟩:=h.node (pre:=[]) h3
 rw[h1] at g1
 have hlT:T.length=T0.length+1:=by rw[e];simp
 have hbd:=h.bd
 rw[du,g1]
 dsimp only
 rw[if_pos]
 refine List.all_eq_true.2 fun k hk=>?_
 have hk:=List.mem_range.1 hk
 have hkT:T[k]? =some (T[k]'(by omega)):=List.getElem?_eq_getElem (by omega)
 obtain⟨l,hl⟩:∃l,T[k]'(by omega)=l:=⟨_,rfl⟩
 rw[hl] at hkT
 have hrow:=h.row hps hkT
 have hll:l.length<=150:=by
  have:l.length<=(aT T).length:=by
   rw[pZ]
   obtain⟨T1,T2,e2,_,_⟩:=dP hkT
   rw[e2];simp;omega
  omega
 have hbel:∀k0,k=k0+1->∃below,T[k0]? =some below/\dR ps root k=below.map (ndP ps):=by
  rintro k0 rfl
  have hb:T[k0]? =some (T[k0]'(by omega)):=List.getElem?_eq_getElem (by omega)
  exact⟨_,hb,h.row hps hb⟩
 have c1:(((k:Int)==n.lv)&&(((bH ps root (k:Int)).length:Int) != 1))=false:=by
  by_cases hkn:k=T0.length
  subst hkn
  rw[h3] at hkT
  injection hkT with hkT
  rw[hrow,<-hkT];simp
  rw[show ((k:Int)==n.lv)=false by rw[beq_eq_false_iff_ne,g2];omega];rfl
 have c2:(decide (0<(k:Int))&&(((dR ps root k).length:Int)==0))=false:=by
  by_cases h0:0<(k:Int)
  obtain⟨k0,rfl⟩:∃k0,k=k0+1:=⟨k-1,by omega⟩
  obtain⟨below,hb,hbe⟩:=hbel k0 rfl
  obtain⟨c,u,rfl,_⟩:=(h.level hb).2.hd
  rw[hbe]
  rw[show ((((c::u).map (ndP ps)).length:Int)==0)=false by rw[beq_eq_false_iff_ne];simp;omega,Bool.and_false]
  rw[decide_eq_false h0];rfl
 have c3:rgF (bH ps root (k:Int)) (dR ps root k)=true:=by rw[hrow];exact KQ h hkT (by omega) hbel
 rw[ckX,c1,c2,c3];rfl
end
section
open Go.RowKit
theorem CM{l:List ByteArray}{k:Nat}(h:k<l.length)(y x:ByteArray):bz (bz l k y) k x=bz l k x:=by
 have e:∀(m:List ByteArray),k<m.length->∀z,bz m k z=m.set k z:=fun m hm z=>by rw[bz,show k+1-m.length=0 by omega,List.replicate_zero,List.append_nil]
 rw[e _ h,e _ (by rw[List.length_set];exact h),e _ h,List.set_set]
theorem Iv{ps:List PgS}{pos kid:Int}{n:NoD}{e:EnD}(h:ao ps pos=some n)(hits:(ps.getD pos.toNat aP).2.2.length<=101)(he:e∈n.es)(hk:0<n.lv->0<=kid/\kid<65536)(h4:4<=e.1.size):
  ∃n' R,ao (doB ps [(pos,(e.2.1:Int),itB n.lv kid e.1)]) pos=some n'/\uC n' n/\n.es.Perm (e::R)/\n'.es.Perm ((e.1,e.2.1,if 0<n.lv then kid else -1)::R):=by
 obtain⟨h0,h1,hn⟩:=e9 h
 obtain⟨iX,uj,O9⟩:=oZ h hits he
 obtain⟨n1,g1,g2,g3,g4,g5,g6⟩:=vo hn he
 obtain⟨t,ht⟩:∃t,e.2.1=t+1:=⟨e.2.1-1,by omega⟩
 have hz:((bz (ps.getD pos.toNat aP).2.2 e.2.1 ByteArray.empty).getD (t+1) ByteArray.empty).size=0:=by rw[nR,if_pos ht.symm];rfl
 obtain⟨n2,k1,k2,k3,k4,k5,k6⟩:=vb (kid:=kid) (x:=e.1) g1 hz (by rw[g2];exact hk) h4
 refine⟨n2,n1.es,oX h0 (by rw[b5];exact h1) ?_,⟨k2.trans g2,k3.trans g3,k4.trans g4,k5.trans g5⟩,g6,?_⟩
 show cf ((bK ps (pos,(e.2.1:Int),itB n.lv kid e.1)).getD pos.toNat aP).1 ((bK ps (pos,(e.2.1:Int),itB n.lv kid e.1)).getD pos.toNat aP).2.2=some n2
 rw[ed1 h0 h1 (by omega) (by omega)]
 dsimp only
 rw[Int.toNat_natCast]
 rw[<-ht,g2,CM uj] at k1
 exact k1
 rw[ht,<-g2];exact k6
theorem uf{ps:List PgS}{x:Int}{n:NoD}(h:ao ps x=some n)(hits:∀q∈ps,q.2.2.length<=101):(ps.getD x.toNat aP).2.2.length<=101:=by
 obtain⟨h0,h1,_⟩:=e9 h
 exact hits _ (ct (l:=ps) (n:=x.toNat) (d:=aP) (by omega)).2
theorem mI{α:Type}(l:List α):l=[]\/∃p x,l=p++[x]:=by
 rcases List.eq_nil_or_concat l with h|⟨p,x,h⟩
 exact .inl h
 exact .inr ⟨p,x,by rw[h,List.concat_eq_append]⟩
theorem FP{ps:List PgS}(hps:ps.length<=150)(hits:∀q∈ps,q.2.2.length<=101){apg mpg bpg:Int}{na nm:NoD}(hna:ao ps apg=some na)(hnm:ao ps mpg=some nm)(hlv:0<nm.lv)(hrt:na.right=bpg)(hb:0<=bpg/\bpg<65535)
  (ham:apg≠mpg){ah:Option (Int×NoD)}(hah:∀c,ah=some c->ao ps c.1=some c.2/\c.1≠apg/\c.1≠mpg){EA EB:List EnD}{ej ek:EnD}(hes:nm.es=EA++ej::ek::EB):
  ∃ps',ps'=doB ps (unE ah (apg,na) (mpg,nm) EA.length)/\(∃n',ao ps' mpg=some n'/\uC n' nm/\n'.es.Perm ((ej.1,ej.2.1,bpg)::(EA++EB)))/\ao ps' apg=some ⟨na.lv,bpg,na.high,true,na.es,na.free⟩/\
   (∀c,ah=some c->ao ps' c.1=some ⟨c.2.lv,bpg,c.2.high,c.2.dead,c.2.es,c.2.free⟩)/\(∀q,q≠mpg->q≠apg->(∀c,ah=some c->q≠c.1)->ao ps' q=ao ps q):=by
 have hgj:nm.es.getD EA.length en0=ej:=by rw[hes];exact jj
 have hgk:nm.es.getD (EA.length+1) en0=ek:=by
  rw[hes,show EA++ej::ek::EB=(EA++[ej])++ek::EB by simp,show EA.length+1=(EA++[ej]).length by simp];exact jj
 have hej:ej∈nm.es:=by rw[hes];simp
 have h4:=(qS hnm).2
 obtain⟨n1,R1,c1,⟨c2a,c2b,c2c,c2d⟩,c3,c4⟩:=Iv (kid:=bpg) hnm (uf hnm hits) hej (fun _=>⟨hb.1,by omega⟩) (h4 ej hej)
 rw[if_pos hlv] at c4
 obtain⟨ps1,hps1⟩:∃z,doB ps [(mpg,(ej.2.1:Int),itB nm.lv bpg ej.1)]=z:=⟨_,rfl⟩
 rw[hps1] at c1
 have hits1:∀q∈ps1,q.2.2.length<=101:=by rw[<-hps1];exact mv hits
 have hR1:R1.Perm (EA++ek::EB):=by
  have h:=c3.symm
  rw[hes] at h
  exact(List.perm_cons ej).1 (h.trans List.perm_middle)
 have gB:n1.es.Perm ([ek]++((ej.1,ej.2.1,bpg)::(EA++EB))):=by
  refine c4.trans (((hR1.trans List.perm_middle).cons _).trans ?_)
  exact List.Perm.swap _ _ _
 obtain⟨n2,d1,⟨d2a,d2b,d2c,d2d⟩,d3⟩:=qK (L:=[ek]) c1 (uf c1 hits1) gB
 have hcl:aA mpg [ek]=[(mpg,(ek.2.1:Int),ByteArray.empty)]:=rfl
 rw[hcl] at d1
 obtain⟨ps2,hps2⟩:∃z,doB ps1 [(mpg,(ek.2.1:Int),ByteArray.empty)]=z:=⟨_,rfl⟩
 rw[hps2] at d1
 have ho2:∀q,q≠mpg->ao ps2 q=ao ps q:=fun q hq=>by
  rw[<-hps2,<-hps1,bU (fun e he=>by rw[List.mem_singleton.1 he];exact fun h=>hq h.symm),bU (fun e he=>by rw[List.mem_singleton.1 he];exact fun h=>hq h.symm)]
 have hna2:=(ho2 apg ham).trans hna
 have hhi:∀{x:Int}{n:NoD},ao ps x=some n->n.high.size=0\/4<=n.high.size:=fun h=>by
  obtain⟨_,_,h⟩:=e9 h;exact(qW h).2.2.1
 have heds:unE ah (apg,na) (mpg,nm) EA.length=[(mpg,(ej.2.1:Int),itB nm.lv bpg ej.1)]++([(mpg,(ek.2.1:Int),ByteArray.empty)]++((match ah with|none=>([]:List EdT)|some a=>[(a.1,(0:Int),hdB a.2.lv bpg a.2.dead a.2.high)])++[(apg,(0:Int),hdB na.lv bpg true na.high)])):=by
  unfold unE
  dsimp only
  rw[hgj,hgk,hrt,List.append_assoc]
  cases ah<;>rfl
 have hbr: -1<=bpg/\bpg<=65534:=by omega
 refine⟨_,rfl,?_⟩
 rw[heds,dx,hps1,dx,hps2,dx]
 cases ah with
 |none=>
  dsimp only
  rw[show doB ps2 []=ps2 from rfl]
  refine⟨⟨n2,?_,⟨d2a.trans c2a,d2b.trans c2b,d2c.trans c2c,d2d.trans c2d⟩,d3⟩,pe hna2 hbr (hhi hna),fun c e=>(nomatch e),fun q h1 h2 _=>?_⟩
  rw[bU (fun e he=>by rw[List.mem_singleton.1 he];exact ham)];exact d1
  rw[bU (fun e he=>by rw[List.mem_singleton.1 he];exact fun h=>h2 h.symm)];exact ho2 q h1
 |some c=>
  dsimp only
  obtain⟨hc1,hc2,hc3⟩:=hah c rfl
  have hc4:=(ho2 c.1 hc3).trans hc1
  have e1:=pe (rt:=bpg) (d:=c.2.dead) (hi:=c.2.high) hc4 hbr (hhi hc1)
  obtain⟨ps3,hps3⟩:∃z,doB ps2 [(c.1,(0:Int),hdB c.2.lv bpg c.2.dead c.2.high)]=z:=⟨_,rfl⟩
  rw[hps3] at e1 |-
  have ho3:∀q,q≠c.1->ao ps3 q=ao ps2 q:=fun q hq=>by
   rw[<-hps3,bU (fun e he=>by rw[List.mem_singleton.1 he];exact fun h=>hq h.symm)]
  have hna3:=(ho3 apg fun h=>hc2 h.symm).trans hna2
  refine⟨⟨n2,?_,⟨d2a.trans c2a,d2b.trans c2b,d2c.trans c2c,d2d.trans c2d⟩,d3⟩,pe hna3 hbr (hhi hna),fun x e=>?_,fun q h1 h2 h3=>?_⟩
  rw[bU (fun e he=>by rw[List.mem_singleton.1 he];exact ham),ho3 _ fun h=>hc3 h.symm];exact d1
  injection e with e
  subst e
  rw[bU (fun e he=>by rw[List.mem_singleton.1 he];exact fun h=>hc2 h.symm)];exact e1
  rw[bU (fun e he=>by rw[List.mem_singleton.1 he];exact fun h=>h2 h.symm),ho3 q (h3 c rfl)];exact ho2 q h1
theorem LvOk.drop{pre suf:List AbN}{a b:AbN}(h:LvOk (pre++a::b::suf)):LvOk (pre++⟨b.pg,a.low,b.es⟩::suf):=by
 obtain⟨p1,p2,p3⟩:=List.pairwise_append.1 h.pw
 obtain⟨pa,p4⟩:=List.pairwise_cons.1 p2
 obtain⟨pb,p5⟩:=List.pairwise_cons.1 p4
 have hb:=h.nd b (by simp)
 have ha:=h.nd a (by simp)
 refine⟨List.pairwise_append.2 ⟨p1,List.pairwise_cons.2 ⟨fun c hc=>⟨(pa c (by simp[hc])).1,(pb c hc).2⟩,p5⟩,fun c hc d hd=>?_⟩,fun c hc=>?_,?_⟩
 rcases List.mem_cons.1 hd with rfl|hd
 exact p3 c hc a (by simp)
 exact p3 c hc d (by simp[hd])
 rcases List.mem_append.1 hc with hc|hc
 exact h.nd c (by simp[hc])
 rcases List.mem_cons.1 hc with rfl|hc
 refine⟨hb.ris,fun e he=>?_,hb.z4,ha.l4,hb.len⟩
 show ag e.1 a.low=false
 cases hq:ag e.1 a.low with
 |false=>rfl
 |true=>
  have h1:=dA hq (pa b (by simp)).1
  rw[hb.ge e he] at h1;cases h1
 exact h.nd c (by simp[hc])
 obtain⟨x,t,e,hx⟩:=h.hd
 cases pre with
 |nil=>
  injection e with e1 e2
  exact⟨_,_,rfl,by show a.low=ay;rw[e1];exact hx⟩
 |cons y pre=>
  injection e with e1 e2
  exact⟨y,_,rfl,by rw[e1];exact hx⟩
theorem vV{A B:List Kv}{x y:ByteArray}{p q r:Int}(h:(A++(x,p)::(y,q)::B).Pairwise fun a b=>ag a.1 b.1=true):(A++(x,r)::B).Pairwise fun a b=>ag a.1 b.1=true:=by
 have h1:((A++(x,p)::(y,q)::B).map Prod.fst).Pairwise fun a b=>ag a b=true:=List.pairwise_map.2 h
 have h2:((A++(x,r)::B).map Prod.fst).Pairwise fun a b=>ag a b=true:=by
  refine h1.sublist ?_
  simp only[List.map_append,List.map_cons]
  exact(List.Sublist.refl _).append ((List.sublist_cons_self _ _).cons_cons _)
 exact List.pairwise_map.1 h2
def unT(pre suf u v:List AbN)(a b m:AbN)(A B:List Kv)(T2:List (List AbN)):List (List AbN):=(pre++⟨b.pg,a.low,b.es⟩::suf)::(u++⟨m.pg,m.low,A++(a.low,b.pg)::B⟩::v)::T2
theorem Tr.unl{ps:List PgS}{T2:List (List AbN)}{root:Int}{pre suf u v:List AbN}{a b m:AbN}{A B:List Kv}(h:Tr ps ((pre++a::b::suf)::(u++m::v)::T2) root)(hps:ps.length<=150)(hits:∀q∈ps,q.2.2.length<=101)
  (hm:m.es=A++(a.low,a.pg)::(b.low,b.pg)::B):
  ∃ps',ps'=doB ps (unE (ahd none (pre.map (ndP ps))) (ndP ps a) (ndP ps m) A.length)/\Tr ps' (unT pre suf u v a b m A B T2) root/\(∃nd,ao ps' a.pg=some nd/\nd.dead=true/\nd.right=b.pg)/\(∀q,q∉aT ((pre++a::b::suf)::(u++m::v)::T2)->ao ps' q=ao ps q):=by
 obtain⟨na,a1,a2,a3,a4,a5,a6⟩:=h.node (k:=0) (pre:=pre) (suf:=b::suf) (a:=a) rfl
 obtain⟨nm,m1,m2,m3,m4,m5,m6⟩:=h.node (k:=1) (pre:=u) (suf:=v) (a:=m) rfl
 have hbp:=h.pg_lt (b4 (T:=(pre++a::b::suf)::(u++m::v)::T2) (k:=0) (l:=pre++a::b::suf) rfl (a:=b) (by simp))
 have a4:na.right=b.pg:=a4
 rw[hm] at m6
 obtain⟨EA,ER,hes,e2,e3⟩:=List.map_eq_append_iff.1 m6
 obtain⟨ej,ER1,rfl,e4,e5⟩:=List.map_eq_cons_iff.1 e3
 obtain⟨ek,EB,rfl,e6,e7⟩:=List.map_eq_cons_iff.1 e5
 have hAl:A.length=EA.length:=by rw[<-e2,List.length_map]
 have hne0:∀{x y:AbN},x∈pre++a::b::suf->y∈u++m::v->x.pg≠y.pg:=fun hx hy=>h.other (k:=0) (j:=1) rfl rfl (by omega) hx hy
 obtain⟨hsa1,hsa2⟩:=h.same (k:=0) (pre:=pre) (suf:=b::suf) (a:=a) rfl
 obtain⟨hsm1,hsm2⟩:=h.same (k:=1) (pre:=u) (suf:=v) (a:=m) rfl
 have hcs:∀{p0:List AbN}{c:AbN},pre=p0++[c]->(∀x∈p0,x.pg≠c.pg)/\(∀x∈a::b::suf,x.pg≠c.pg):=fun {p0 c} e=>by
  subst e
  exact h.same (k:=0) (pre:=p0) (suf:=a::b::suf) (a:=c) (by simp)
 have hahd:∀c,ahd none (pre.map (ndP ps))=some c->∃p0 x,pre=p0++[x]/\c=ndP ps x:=fun c e=>by
  rcases mI pre with rfl|⟨p0,x,rfl⟩
  cases e
  rw[List.map_append,ahd] at e
  simp at e
  exact⟨p0,x,rfl,e.symm⟩
 have hnode0:∀{p0 s:List AbN}{x:AbN},pre++a::b::suf=p0++x::s->IsN ps 0 x s:=fun {p0 s x} e=>by
  have:=(h.rep 0 _ rfl);rw[e] at this;exact(cu.mem this).1
 have hah:∀c,ahd none (pre.map (ndP ps))=some c->ao ps c.1=some c.2/\c.1≠a.pg/\c.1≠m.pg:=fun c e=>by
  obtain⟨p0,x,hp,rfl⟩:=hahd c e
  have gN:pre++a::b::suf=p0++x::(a::b::suf):=by rw[hp];simp
  obtain⟨nx,x1,_⟩:=hnode0 gN
  refine⟨by show ao ps x.pg=some (ndD ps x.pg);rw[dh x1];exact x1,fun e2=>(hcs hp).2 a (by simp) e2.symm,hne0 (by rw[gN];simp) (by simp)⟩
 obtain⟨ps',hps',⟨n',g1,⟨g2a,g2b,g2c,g2d⟩,g3⟩,g4,g5,g6⟩:=FP hps hits a1 m1 (by omega) a4 (by omega) (hne0 (by simp) (by simp)) hah hes
 refine⟨ps',by rw[hps',ndP,ndP,dh a1,dh m1,hAl],?_,⟨_,g4,rfl,rfl⟩,fun q hq=>?_⟩
 have hL0:LvOk (pre++a::b::suf):=h.lv _ (by simp)
 have hL1:LvOk (u++m::v):=h.lv _ (by simp)
 have hM:=hL1.nd m (by simp)
 have hin:=h.inn 0 _ _ rfl rfl
 have hoth:∀q,q≠m.pg->q≠a.pg->(∀p0 c,pre=p0++[c]->q≠c.pg)->ao ps' q=ao ps q:=fun q h1 h2 h3=>g6 q h1 h2 fun c e=>by
  obtain⟨p0,x,hp,rfl⟩:=hahd c e
  exact h3 p0 x hp
 have hpm:∀{p0:List AbN}{c:AbN},pre=p0++[c]->c∈pre:=fun e=>by rw[e];simp
 have k0:∀x∈b::suf,ao ps' x.pg=ao ps x.pg:=fun x hx=>hoth _ (hne0 (List.mem_append_right pre (List.mem_cons_of_mem a hx)) (by simp)) (hsa2 x hx) fun p0 c e=>(hcs e).2 x (List.mem_cons_of_mem _ hx)
 have k1:∀x∈u++m::v,x.pg≠m.pg->ao ps' x.pg=ao ps x.pg:=fun x hx hxm=>hoth _ hxm (fun e=>hne0 (x:=a) (by simp) hx e.symm) fun p0 c e e2=>hne0 (x:=c) (by simp[hpm e]) hx e2.symm
 have hr0:=(cu.mem (h.rep 0 _ rfl)).2
 have hb0:cu ps' 0 (⟨b.pg,a.low,b.es⟩::suf):=⟨hr0.1.cong (k0 b (by simp)) rfl rfl,hr0.2.keep fun x hx=>k0 x (by simp[hx])⟩
 have rep0:cu ps' 0 (pre++⟨b.pg,a.low,b.es⟩::suf):=by
  rcases mI pre with rfl|⟨p0,c,hp⟩
  exact hb0
  have gN:pre++a::b::suf=p0++c::(a::b::suf):=by rw[hp];simp
  have JL:pre++⟨b.pg,a.low,b.es⟩::suf=p0++c::(⟨b.pg,a.low,b.es⟩::suf):=by rw[hp];simp
  have hr:=h.rep 0 _ rfl
  rw[gN] at hr
  rw[JL]
  obtain⟨nc,x1,x2,x3,x4,x5,x6⟩:=hnode0 gN
  have hc9:=g5 (ndP ps c) (by rw[hp,List.map_append];simp[ahd])
  have hc8:ndP ps c=(c.pg,nc):=by rw[ndP,dh x1]
  rw[hc8] at hc9
  have hic:IsN ps' 0 c (⟨b.pg,a.low,b.es⟩::suf):=⟨_,hc9,x2,x3,rfl,x5,x6⟩
  refine cu.repl (a:=c) (a':=c) (suf:=a::b::suf) (suf':=⟨b.pg,a.low,b.es⟩::suf) rfl rfl ⟨hic,hb0⟩ hr fun x hx=>hoth _ (hne0 (by rw[gN];simp[hx]) (by simp)) (hsa1 x (by rw[hp];simp[hx])) fun q0 c2 e=>?_
  obtain⟨e1,e2⟩:=List.append_inj' (hp.symm.trans e) rfl
  injection e2 with e2
  subst e1 e2
  exact(hcs hp).1 x hx
 have hk9:(ej.1:ByteArray)=a.low:=congrArg Prod.fst e4
 have rep1:cu ps' 1 (u++⟨m.pg,m.low,A++(a.low,b.pg)::B⟩::v):=by
  refine cu.repl (a:=m) (a':=⟨m.pg,m.low,A++(a.low,b.pg)::B⟩) rfl rfl ⟨⟨n',g1,g2a.trans m2,g2d.trans m3,g2b.trans m4,g2c.trans m5,pi g1 ?_ ?_⟩,(cu.mem (h.rep 1 _ rfl)).2.keep fun x hx=>k1 x (by simp[hx]) (hsm2 x hx)⟩ (h.rep 1 _ rfl) fun x hx=>k1 x (by simp[hx]) (hsm1 x hx)
  refine(g3.map kv).trans ?_
  rw[List.map_cons,List.map_append,e2,e7]
  show ((ej.1,b.pg)::(A++B)).Perm _
  rw[hk9]
  exact List.perm_middle.symm
  have:=hM.ris
  rw[hm] at this
  exact vV this
 have hkeep:∀{j:Nat}{l:List AbN}{x:AbN},T2[j]? =some l->x∈l->ao ps' x.pg=ao ps x.pg:=fun {j l x} hj hx=>by
  have hj2:((pre++a::b::suf)::(u++m::v)::T2)[j+2]? =some l:=hj
  have h0:∀{y:AbN},y∈pre++a::b::suf->x.pg≠y.pg:=fun hy=>h.other hj2 (j:=0) rfl (by omega) hx hy
  exact hoth _ (h.other hj2 (j:=1) rfl (by omega) hx (by simp)) (h0 (by simp)) fun p0 c e=>h0 (by simp[hpm e])
 have hlow:ag a.low b.low=true:=((List.pairwise_cons.1 (List.pairwise_append.1 hL0.pw).2.1).1 b (by simp)).1
 have hrs:((u++m::v).flatMap AbN.es).Pairwise (fun x y=>ag x.1 y.1=true):=hL1.rises
 rw[List.flatMap_append,List.flatMap_cons,hm] at hrs
 obtain⟨r1,r2,r3⟩:=List.pairwise_append.1 hrs
 obtain⟨r4,r5,r6⟩:=List.pairwise_append.1 r2
 obtain⟨r7,r8,r9⟩:=List.pairwise_append.1 r4
 obtain⟨r10,r11⟩:=List.pairwise_cons.1 r8
 obtain⟨r12,r13⟩:=List.pairwise_cons.1 r11
 have hother:∀e:Kv,e.1≠a.low->e.1≠b.low->(∃mm∈pre++a::b::suf,mm.pg=e.2/\mm.low=e.1)->∃mm∈pre++⟨b.pg,a.low,b.es⟩::suf,mm.pg=e.2/\mm.low=e.1:=fun e h1 h2 ⟨mm,hmm,h3,h4⟩=>by
  refine⟨mm,?_,h3,h4⟩
  rcases List.mem_append.1 hmm with hmm|hmm
  simp[hmm]
  rcases List.mem_cons.1 hmm with rfl|hmm
  exact absurd h4.symm h1
  rcases List.mem_cons.1 hmm with rfl|hmm
  exact absurd h4.symm h2
  simp[hmm]
 have hneq:∀{x y:ByteArray},ag x y=true->x≠y:=fun h e=>by rw[e,eR] at h;cases h
 have inn0:v5 (u++⟨m.pg,m.low,A++(a.low,b.pg)::B⟩::v) (pre++⟨b.pg,a.low,b.es⟩::suf):=by
  intro c hc
  have side:c∈u\/c∈v->(∃k t,c.es=(c.low,k)::t)/\∀e∈c.es,∃mm∈pre++⟨b.pg,a.low,b.es⟩::suf,mm.pg=e.2/\mm.low=e.1:=fun hc=>by
   obtain⟨h1,h2⟩:=hin c (by rcases hc with hc|hc<;>simp[hc])
   refine⟨h1,fun e he=>?_⟩
   rcases hc with hc|hc
   have hu:=List.mem_flatMap.2 ⟨c,hc,he⟩
   exact hother e (hneq (r3 e hu (a.low,a.pg) (by simp))) (hneq (r3 e hu (b.low,b.pg) (by simp))) (h2 e he)
   have hv:=List.mem_flatMap.2 ⟨c,hc,he⟩
   exact hother e (hneq (r6 (a.low,a.pg) (by simp) e hv)).symm (hneq (r6 (b.low,b.pg) (by simp) e hv)).symm (h2 e he)
  rcases List.mem_append.1 hc with hc|hc
  exact side (.inl hc)
  rcases List.mem_cons.1 hc with rfl|hc
  obtain⟨⟨k,t,h1⟩,h2⟩:=hin m (by simp)
  rw[hm] at h1 h2
  refine⟨?_,fun e he=>?_⟩
  cases A with
  |nil=>
   injection h1 with h3 h4
   have h5:a.low=m.low:=congrArg Prod.fst h3
   exact⟨b.pg,B,by rw[<-h5];rfl⟩
  |cons x A=>
   injection h1 with h3 h4
   subst h3
   exact⟨k,_,rfl⟩
  rcases List.mem_append.1 he with he|he
  exact hother e (hneq (r9 e he (a.low,a.pg) (by simp))) (hneq (r9 e he (b.low,b.pg) (by simp))) (h2 e (by simp[he]))
  rcases List.mem_cons.1 he with rfl|he
  exact⟨⟨b.pg,a.low,b.es⟩,by simp,rfl,rfl⟩
  exact hother e (hneq (r10 e (by simp[he]))).symm (hneq (r12 e he)).symm (h2 e (by simp[he]))
  exact side (.inr hc)
 refine⟨fun j l hj=>?_,fun l hl=>?_,fun j up below hu hb=>?_,?_,?_,h.ht⟩
 match j with
 |0=>injection hj with hj;subst hj;exact rep0
 |1=>injection hj with hj;subst hj;exact rep1
 |j+2=>exact(h.rep (j+2) l hj).keep fun x hx=>hkeep (j:=j) hj hx
 rcases List.mem_cons.1 hl with rfl|hl
 exact hL0.drop
 rcases List.mem_cons.1 hl with rfl|hl
 refine hL1.one (a':=⟨m.pg,m.low,A++(a.low,b.pg)::B⟩) rfl ⟨vV (by have:=hM.ris;rw[hm] at this;exact this),fun e he=>?_,fun e he=>?_,hM.l4,?_⟩ fun c hc e he=>?_
 rcases List.mem_append.1 he with he|he
 exact hM.ge e (by rw[hm];simp[he])
 rcases List.mem_cons.1 he with rfl|he
 exact hM.ge (a.low,a.pg) (by rw[hm];simp)
 exact hM.ge e (by rw[hm];simp[he])
 rcases List.mem_append.1 he with he|he
 exact hM.z4 e (by rw[hm];simp[he])
 rcases List.mem_cons.1 he with rfl|he
 exact hM.z4 (a.low,a.pg) (by rw[hm];simp)
 exact hM.z4 e (by rw[hm];simp[he])
 have:=hM.len
 rw[hm] at this
 simp only[List.length_append,List.length_cons] at this |-
 omega
 have hp:=(List.pairwise_cons.1 (List.pairwise_append.1 hL1.pw).2.1).1 c hc
 rcases List.mem_append.1 he with he|he
 exact hp.2 e (by rw[hm];simp[he])
 rcases List.mem_cons.1 he with rfl|he
 exact hp.2 (a.low,a.pg) (by rw[hm];simp)
 exact hp.2 e (by rw[hm];simp[he])
 exact h.lv l (by simp[hl])
 match j with
 |0=>
  injection hu with hu
  injection hb with hb
  subst hu hb
  exact inn0
 |1=>
  injection hb with hb
  subst hb
  have hi:=h.inn 1 up _ hu rfl
  intro c hc
  obtain⟨h1,h2⟩:=hi c hc
  refine⟨h1,fun e he=>?_⟩
  obtain⟨mm,hmm,h3,h4⟩:=h2 e he
  rcases List.mem_append.1 hmm with hmm|hmm
  exact⟨mm,by simp[hmm],h3,h4⟩
  rcases List.mem_cons.1 hmm with rfl|hmm
  exact⟨⟨mm.pg,mm.low,A++(a.low,b.pg)::B⟩,by simp,h3,h4⟩
  exact⟨mm,by simp[hmm],h3,h4⟩
 |j+2=>exact h.inn (j+2) up below hu hb
 obtain⟨r,hr1,hr2⟩:=h.top
 cases T2 with
 |nil=>
  have hr1:some (u++m::v)=some [r]:=hr1
  injection hr1 with hr1
  cases u with
  |nil=>
   injection hr1 with h1 h2
   subst h1 h2
   exact⟨_,rfl,hr2⟩
  |cons x u=>exact absurd (congrArg List.length hr1) (by simp)
 |cons t T3=>exact⟨r,by rw[unT,List.getLast?_cons_cons,List.getLast?_cons_cons] ;rw[List.getLast?_cons_cons,List.getLast?_cons_cons] at hr1;exact hr1,hr2⟩
 have hd:=h.dist
 refine hd.sublist ?_
 have e1:aT (unT pre suf u v a b m A B T2)=pre.map AbN.pg++(b.pg::(suf.map AbN.pg++(u.map AbN.pg++m.pg::(v.map AbN.pg++aT T2)))):=by simp[aT,unT]
 have e2:aT ((pre++a::b::suf)::(u++m::v)::T2)=pre.map AbN.pg++(a.pg::b.pg::(suf.map AbN.pg++(u.map AbN.pg++m.pg::(v.map AbN.pg++aT T2)))):=by simp[aT]
 rw[e1,e2]
 exact(List.Sublist.refl _).append (List.sublist_cons_self _ _)
 refine g6 q (fun e=>hq (e ▸ b4 (k:=1) (l:=u++m::v) rfl (by simp))) (fun e=>hq (e ▸ b4 (k:=0) (l:=pre++a::b::suf) rfl (by simp))) fun c e=>?_
 obtain⟨p0,x,hp,rfl⟩:=hahd c e
 exact fun e=>hq (e ▸ b4 (k:=0) (l:=pre++a::b::suf) (a:=x) rfl (by rw[hp];simp))
theorem wi{ab:List (Int×NoD)}{root:Int}:∀(L:List (Int×NoD)),(∀y∈L,fF ab root y=none)\/∃P y Q i j,L=P++y::Q/\(∀z∈P,fF ab root z=none)/\fF ab root y=some (i,j)
 | []=> .inl fun y hy=>nomatch hy
 |y::L=>by
  cases hy:fF ab root y with
  |some q=>exact .inr ⟨[],y,L,q.1,q.2,rfl,(fun z hz=>nomatch hz),hy⟩
  |none=>
   rcases wi L with h|⟨P,z,Q,i,j,e1,e2,e3⟩
   refine .inl fun z hz=>?_
   rcases List.mem_cons.1 hz with rfl|hz
   exact hy
   exact h z hz
   refine .inr ⟨y::P,z,Q,i,j,by rw[e1];rfl,fun w hw=>?_,e3⟩
   rcases List.mem_cons.1 hw with rfl|hw
   exact hy
   exact e2 w hw
theorem Bb{α:Type}{l:List α}{j:Nat}{d:α}(h:j+1<l.length):∃A B,l=A++l.getD j d::l.getD (j+1) d::B/\A.length=j:=by
 refine⟨l.take j,l.drop (j+2),?_,by rw[List.length_take];omega⟩
 rw[List.getD_eq_getElem?_getD,List.getD_eq_getElem?_getD,List.getElem?_eq_getElem (by omega:j<l.length),List.getElem?_eq_getElem h]
 show l=l.take j++l[j]::l[j+1]::l.drop (j+1+1)
 rw[List.getElem_cons_drop,List.getElem_cons_drop,List.take_append_drop]
theorem Al{α:Type}{l:List α}{i:Nat}(h:i<l.length):∃u m v,l=u++m::v/\u.length=i:=
 ⟨l.take i,l[i],l.drop (i+1),by rw[List.getElem_cons_drop,List.take_append_drop],by rw[List.length_take];omega⟩
theorem Tr.unl_cases{ps:List PgS}{T:List (List AbN)}{root:Int}(h:Tr ps T root)(hps:ps.length<=150):dN ps root=([],-1,-1)\/∃pre suf u v a b m A B T2,T=(pre++a::b::suf)::(u++m::v)::T2/\a.es=[]/\a.pg≠root/\m.es=A++(a.low,a.pg)::(b.low,b.pg)::B/\
  dN ps root=(unE (ahd none (pre.map (ndP ps))) (ndP ps a) (ndP ps m) A.length,a.pg,b.pg):=by
 cases T with
 |nil=>obtain⟨r,hr,_⟩:=h.top;cases hr
 |cons l0 T1=>
  have row0:bH ps root 0=l0.map (ndP ps):=h.row hps (k:=0) rfl
  rcases wi (ab:=bH ps root 1) (root:=root) (l0.map (ndP ps)) with hn|⟨P,y,Q,i,j,e1,e2,e3⟩
  left
  have h1:=kD (r:=[]) (ah:=none) hn
  rw[List.append_nil] at h1
  rw[dN,row0,h1,lW]
  right
  have hu:dN ps root=(unE (ahd none P) y ((bH ps root 1).getD i (0,cZ)) j,y.1,y.2.right):=by
   rw[dN,row0,e1,kD e2,yH e3]
  obtain⟨pre,R,rfl,f1,f2⟩:=List.map_eq_append_iff.1 e1
  obtain⟨a,rest,rfl,f3,f4⟩:=List.map_eq_cons_iff.1 f2
  subst f3 f1
  obtain⟨na,a1,a2,a3,a4,a5,a6⟩:=h.node (k:=0) (pre:=pre) (suf:=rest) (a:=a) rfl
  have hy:ndP ps a=(a.pg,na):=by rw[ndP,dh a1]
  rw[hy] at e3
  unfold fF at e3
  split at e3
  cases e3
  rename_i hc
  simp only[Bool.or_eq_true,decide_eq_true_eq,beq_iff_eq,not_or] at hc
  obtain⟨⟨c1,c2⟩,c3⟩:=hc
  dsimp only at c1 c2 e3
  have hae:a.es=[]:=by
   rw[<-a6]
   cases hq:na.es with
   |nil=>rfl
   |cons x l=>rw[hq] at c1;simp at c1
  cases T1 with
  |nil=>
   exfalso
   obtain⟨r,hr,hr2⟩:=h.top
   have hr:some (pre++a::rest)=some [r]:=hr
   injection hr with hr
   cases pre with
   |nil=>injection hr with h1 h2;exact c2 (by rw[h1];exact hr2)
   |cons x l=>exact absurd (congrArg List.length hr) (by simp)
  |cons l1 T2=>
   have row1:bH ps root 1=l1.map (ndP ps):=h.row hps (k:=1) rfl
   rw[row1] at hu e3
   obtain⟨g1,g2,g3,g4⟩:=u9 e3
   rw[List.length_map] at g1
   obtain⟨u,m,v,rfl,hui⟩:=Al g1
   have hgm:((u++m::v).map (ndP ps)).getD i (0,cZ)=ndP ps m:=by
    rw[List.map_append,List.map_cons,<-hui,<-List.length_map (f:=ndP ps)];exact jj
   rw[hgm] at hu g2 g3 g4
   obtain⟨nm,m1,m2,m3,m4,m5,m6⟩:=h.node (k:=1) (pre:=u) (suf:=v) (a:=m) rfl
   have hym:ndP ps m=(m.pg,nm):=by rw[ndP,dh m1]
   rw[hym] at g2 g3 g4
   dsimp only at g2 g3 g4
   obtain⟨EA,EB,k1,k2⟩:=Bb (d:=en0) g3
   rw[lP,Bool.and_eq_true,beq_iff_eq,beq_iff_eq] at g4
   obtain⟨ej,hej⟩:∃z,nm.es.getD j en0=z:=⟨_,rfl⟩
   obtain⟨ek,hek⟩:∃z,nm.es.getD (j+1) en0=z:=⟨_,rfl⟩
   rw[hej,hek] at k1 g4
   have hme:m.es=EA.map kv++(ej.1,ej.2.2)::(ek.1,ek.2.2)::EB.map kv:=by
    rw[<-m6,k1,List.map_append,List.map_cons,List.map_cons];rfl
   have hin:=(h.inn 0 _ _ rfl rfl m (by simp)).2
   obtain⟨s1,s2⟩:=h.same (k:=0) (pre:=pre) (suf:=rest) (a:=a) rfl
   have ka:a.low=ej.1:=by
    obtain⟨mm,q1,q2,q3⟩:=hin (ej.1,ej.2.2) (by rw[hme];simp)
    have q2:mm.pg=a.pg:=q2.trans g4.1
    rcases List.mem_append.1 q1 with q1|q1
    exact absurd q2 (s1 mm q1)
    rcases List.mem_cons.1 q1 with rfl|q1
    exact q3
    exact absurd q2 (s2 mm q1)
   obtain⟨mm,q1,q2,q3⟩:=hin (ek.1,ek.2.2) (by rw[hme];simp)
   have q2:mm.pg=rtA rest:=(q2.trans g4.2).trans a4
   have q4:=h.pg_lt (b4 (k:=0) rfl q1)
   cases rest with
   |nil=>
    have q2:mm.pg= -1:=q2
    omega
   |cons b suf=>
    have q2:mm.pg=b.pg:=q2
    obtain⟨t1,t2⟩:=h.same (k:=0) (pre:=pre++[a]) (suf:=suf) (a:=b) (by simp)
    have kb:b.low=ek.1:=by
     rw[show pre++a::b::suf=(pre++[a])++b::suf by simp] at q1
     rcases List.mem_append.1 q1 with q1|q1
     exact absurd q2 (t1 mm q1)
     rcases List.mem_cons.1 q1 with rfl|q1
     exact q3
     exact absurd q2 (t2 mm q1)
    have hr2:na.right=b.pg:=a4
    refine⟨pre,suf,u,v,a,b,m,EA.map kv,EB.map kv,T2,rfl,hae,c2,by rw[hme,ka,kb,g4.1,g4.2,hr2],?_⟩
    rw[hu,List.length_map,k2,hy,hr2]
end
section
open Go.RowKit
def Way(E:List Kv)(x:ByteArray)(T:List (List AbN))(p:PuT):Prop:=(∃l,p.left=(x,0,0)::l/\(∀t∈l,1<=t.2.1)/\(lfs T).Perm E/\p.leaf= -1)\/((∀t∈p.left,1<=t.2.1)/\(lfs T).Perm ((x,-1)::E)/\0<=p.leaf)
theorem Way.len{E:List Kv}{x:ByteArray}{T:List (List AbN)}{p:PuT}(h:Way E x T p):(lfs T).length<=E.length+1:=by
 rcases h with ⟨_,_,_,h,_⟩|⟨_,h,_⟩<;>rw[h.length_eq]
 omega
 exact Nat.le_refl _
theorem Way.step{E:List Kv}{x:ByteArray}{ps:List PgS}{T T':List (List AbN)}{p p':PuT}{g:GoT}{fresh root:Int}(h:Tr ps T root)(hw:Way E x T p)(ho:Out T T' p p' g fresh)(hx:∀y∈E,y.1≠x):Way E x T' p':=by
 rcases hw with ⟨l,hl,h1,hp,hlf⟩|⟨h1,hp,hlf⟩
 have nx:∀y∈lfs T,y.1≠x:=fun y hy=>hx y (hp.mem_iff.1 hy)
 cases ho with
 |idle h=>rw[hl] at h;cases h
 |move t l2 h2 hT hl2 hf=>
  rw[hl] at h2;injection h2 with e1 e2;subst e1 e2 hT
  exact .inl ⟨l,hl2,h1,hp,hf.trans hlf⟩
 |there t l2 k pre suf a h2 hk hT ht hin=>
  rw[hl] at h2;injection h2 with e1 e2;subst e1
  have hk0:k=0:=by have:(0:Int)=(k:Int):=hk;omega
  subst hk0
  obtain⟨y,hy,hyx⟩:=hin
  refine absurd hyx (nx y ?_)
  rw[lfs,b8 ht]
  exact List.mem_flatMap.2 ⟨a,by simp,hy⟩
 |put t l2 k pre suf a h2 hk ht hT hno hl2 hf=>
  rw[hl] at h2;injection h2 with e1 e2;subst e1
  have hk0:k=0:=by have:(0:Int)=(k:Int):=hk;omega
  subst hk0
  refine .inr ⟨by rw[hl2,<-e2];exact h1,?_,by rw[hf,if_pos rfl];exact(h.pg_lt (b4 ht (a:=a) (by simp))).1⟩
  refine List.Perm.trans ?_ (hp.cons _)
  rw[hT,mf ht,if_pos rfl,lfs,b8 ht]
  simp only[List.flatMap_append,List.flatMap_cons]
  refine((List.Perm.append_left _ ((eL _ _).append_right _))).trans ?_
  exact List.perm_middle
 |cut t l2 k pre suf a mid h2 hk ht h8 htop hT hl2 hf gN hpa hu=>
  rw[hl] at h2;injection h2 with e1 e2;subst e1 e2
  refine .inl ⟨_,hl2,fun t ht=>?_,?_,hf.trans hlf⟩
  rcases List.mem_append.1 ht with ht|ht
  exact h1 t ht
  rw[List.mem_singleton.1 ht];show (1:Int)<=(k:Int)+1;omega
  rcases(Out.cut (p':=p') (g:=g) _ l k pre suf a mid hl hk ht h8 htop hT hl2 hf gN hpa hu).lfs with h3|⟨t,l3,h3,_,h4,_⟩
  exact h3.trans hp
  rw[hl] at h3;injection h3 with e1 e2;rw[hl2,<-e2] at h4;exact absurd (congrArg List.length h4) (by simp only[List.length_append,List.length_cons,List.length_nil];omega)
 |grow t l2 T0 r h2 hk ht hr h8 hT hl2 hf=>
  rw[hl] at h2;injection h2 with e1 e2;subst e1 e2
  exact .inl ⟨l,hl2,h1,by rw[hT,vf,<-ht];exact hp,hf.trans hlf⟩
 obtain⟨h3,h4,h5⟩:=vd ho h1
 exact .inr ⟨h4,h3.trans hp,by rw[h5];exact hlf⟩
theorem vR(l:List Int)(n:Nat):(fZ l n).length=n:=by rw[fZ,List.length_map,List.length_range]
theorem Gg{l:List Int}{n:Nat}(hn:n<=90){k:ByteArray}{q s:Int}(hq:13<=q/\q<65536):∀y∈fZ l n,y.1≠bu k q s:=fun y hy e=>by
 obtain⟨j,hj,rfl⟩:=List.mem_map.1 hy
 have hj:=List.mem_range.1 hj
 have h1:ppF (jb l j)=ppF (bu k q s):=congrArg ppF e
 rw[jb,mr,mr] at h1
 omega
theorem CU(l:List Int):∃T nx,GS 0 (fO l) T nx/\(lfs T).Perm (fZ l (min l.length 90)):=by
 obtain⟨T,h1,h2⟩:=wh l (min l.length 90) (by omega)
 exact⟨T,_,h1,h2⟩
end
section
open Go.RowKit
theorem ms(T1:List (List AbN))(l:List AbN)(T2:List (List AbN)):dW (T1++l::T2)=dW T2++(l.map AbN.pg++dW T1):=by simp[dW]
theorem Out.ord{T T':List (List AbN)}{p p':PuT}{g:GoT}{fresh:Int}(ho:Out T T' p p' g fresh):(g.used=false/\dW T'=dW T)\/(g.used=true/\∃A B,dW T=A++B/\dW T'=A++fresh::B):=by
 cases ho with
 |idle _ hT _ _ hu=>exact .inl ⟨hu,by rw[hT]⟩
 |move _ _ _ hT _ _ hu=>exact .inl ⟨hu,by rw[hT]⟩
 |there _ _ _ _ _ _ _ _ hT _ _ _ _ hu=>exact .inl ⟨hu,by rw[hT]⟩
 |put t l k pre suf a _ _ ht hT _ _ _ hu=>
  obtain⟨T1,T2,e,_,h2⟩:=dP ht
  exact .inl ⟨hu,by rw[hT,h2,e,ms,ms];simp⟩
 |cut t l k pre suf a mid _ _ ht _ _ hT _ _ _ _ hu=>
  obtain⟨T1,T2,e,_,h2⟩:=dP ht
  refine .inr ⟨hu,dW T2++(pre.map AbN.pg++[a.pg]),suf.map AbN.pg++dW T1,?_,?_⟩
  rw[e,ms];simp
  rw[hT,h2,ms];simp
 |grow t l T0 r _ _ ht hr _ hT _ _ _ _ hu=>
  refine .inr ⟨hu,[p.root],dW T0,?_,?_⟩
  rw[ht,ms,<-hr];simp[dW]
  rw[hT];simp[dW]
theorem wd{y x:Int}(hxy:y≠x):∀(A B:List Int),((A++y::B).dropWhile fun q=>!(q==x)).length<=((A++B).dropWhile fun q=>!(q==x)).length+1
 | [],B=>by
   rw[List.nil_append,List.nil_append,List.dropWhile_cons_of_pos (by simpa using hxy)];omega
 |a::A,B=>by
  rw[List.cons_append,List.cons_append]
  by_cases h:a=x
  rw[List.dropWhile_cons_of_neg (by simp[h]),List.dropWhile_cons_of_neg (by simp[h])]
  simp only[List.length_cons,List.length_append];omega
  rw[List.dropWhile_cons_of_pos (by simpa using h),List.dropWhile_cons_of_pos (by simpa using h)]
  exact wd hxy A B
theorem Out.rk{T T':List (List AbN)}{p p':PuT}{g:GoT}{fresh pos:Int}(ho:Out T T' p p' g fresh)(hne:fresh≠pos):rkF T' pos<=rkF T pos+(if g.used then 1 else 0):=by
 rcases ho.ord with ⟨h1,h2⟩|⟨h1,A,B,h2,h3⟩
 rw[rkF,rkF,h2];exact Nat.le_add_right _ _
 rw[rkF,rkF,h2,h3,h1];exact wd hne A B
theorem fE.mem{T:List (List AbN)}{pos tl:Int}{x:ByteArray}(h:fE T pos x tl):pos∈aT T:=by
 obtain⟨k,l,a,hk,ha,hp,_⟩:=h
 exact hp ▸ b4 hk ha
theorem Bf{T:List (List AbN)}{pos tl:Int}{x:ByteArray}(hd:(aT T).Nodup)(h:fE T pos x tl):1<=rkF T pos:=by
 obtain⟨k,l,a,hk,ha,hp,_⟩:=h
 obtain⟨pre,suf,rfl⟩:=List.append_of_mem ha
 rw[<-hp,gD hd hk];omega
end
section
open Go.RowKit
structure Wz (E:List Kv) (s0:ByteArray) (T:List (List AbN)) (w:WkT) (told:List ByteArray):Prop where
 sz:4<=w.fm.size
 pos:w.fin=false->fE T w.pos w.fm 0
 st0:ag w.fm s0=false
 srt:told.Pairwise fun a b=>ag a b=true
 ge:∀t∈told,ag t s0=false
 lt:w.fin=false->∀t∈told,ag t w.fm=true
 all:∀y∈E,ag y.1 s0=false->(w.fin=true\/ag y.1 w.fm=true)->y.1∈told
theorem Wz.start{E:List Kv}{s0:ByteArray}{ps:List PgS}{T:List (List AbN)}{root:Int}(h:Tr ps T root)(h4:4<=s0.size):Wz E s0 T ⟨root,0,s0,false⟩ []:=by
 obtain⟨T0,r,e,h1,h2,h3⟩:=h.root
 refine⟨h4,fun _=>⟨T0.length,[r],r,h3,by simp,h1,by omega,by rw[h2];exact jk _⟩,eR _,List.Pairwise.nil,fun t ht=>(nomatch ht),fun _ t ht=>(nomatch ht),fun y hy h5 h6=>?_⟩
 rcases h6 with h6|h6
 cases h6
 have h6:ag y.1 s0=true:=h6
 rw[h5] at h6;cases h6
theorem kt{fm:ByteArray}{es:List EnD}{e:EnD}:e∈aM fm es<->e∈es/\ag e.1 fm=false:=by
 rw[aM,List.mem_filter];simp
theorem Gh{E:List Kv}{s0:ByteArray}{ps:List PgS}{T:List (List AbN)}{root:Int}{w:WkT}{told:List ByteArray}(htr:Tr ps T root)(hE:∀y∈E,y∈lfs T)(hE4:∀y∈E,4<=y.1.size)(aR:4<=s0.size)(h:Wz E s0 T w told)(hf:w.fin=false)(aL:w.st+1<1000):
  (∃w1,wkN ps w=(w1,.on)/\Wz E s0 T w1 told/\w1.fin=false/\w1.st=w.st+1/\Mv T 0 w.pos w1.pos)\/
  (∃w1 n,wkN ps w=(w1,.at n)/\w1.fm=w.fm/\w1.st=w.st+1/\Wz E s0 T (wkL w1 n) (told++(aM w1.fm n.es).map fun e=>e.1)/\((wkL w1 n).fin=true\/Mv T 0 w.pos (wkL w1 n).pos)/\(∀e∈n.es,kv e∈lfs T)/\n.es.length<=8):=by
 obtain⟨pos,st,fm,fin⟩:=w
 have hf:fin=false:=hf
 subst hf
 have aL:st+1<1000:=aL
 rcases Ez htr (h.pos rfl) h.sz aL with ⟨pos',h1,h2,h3⟩|⟨pre,suf,a,n,h1,⟨h2,h3,h4,h5⟩,h6⟩
 exact .inl ⟨_,h1,⟨h.sz,fun _=>h2,h.st0,h.srt,h.ge,h.lt,h.all⟩,rfl,rfl,h3⟩
 have h3:a.pg=pos:=h3
 have h4:ag fm a.low=false:=h4
 have h5:∀b s,suf=b::s->ag fm b.low=true:=h5
 have hfm4:4<=fm.size:=h.sz
 have Cl:ag fm s0=false:=h.st0
 have hlt:∀t∈told,ag t fm=true:=h.lt rfl
 obtain⟨n0,g1,g2,g3,g4,g5,g6⟩:=htr.node h2
 rw[h3] at g1
 rw[h6] at g1
 injection g1 with g1
 subst g1
 have hL:=(htr.level h2).2
 have hA:=hL.nd a (by simp)
 obtain⟨pw1,pw2,pw3⟩:=List.pairwise_append.1 hL.pw
 have hltA:=(List.pairwise_cons.1 pw2).1
 have hes:∀e∈n.es,∃v,(e.1,v)∈a.es:=fun e he=>⟨_,md g6 he⟩
 have hez:∀e∈n.es,4<=e.1.size:=fun e he=>by obtain⟨v,hv⟩:=hes e he;exact hA.z4 _ hv
 have hris:n.es.Pairwise (fun a b=>ag a.1 b.1=true):=by have:=hA.ris;rw[<-g6] at this;exact List.pairwise_map.1 this
 refine .inr ⟨_,n,h1,rfl,rfl,?_,?_,fun e he=>(by rw[lfs,b8 h2];exact List.mem_flatMap.2 ⟨a,by simp,by rw[<-g6];exact List.mem_map.2 ⟨e,he,rfl⟩⟩),by have:=hA.len;rw[<-g6,List.length_map] at this;exact this⟩
 have hall:∀y∈E,ag y.1 s0=false->(∀b s,suf=b::s->ag y.1 b.low=true)->y.1∈told++(aM fm n.es).map fun e=>e.1:=fun y hy h7 h8=>by
  cases h9:ag y.1 fm with
  |true=>exact List.mem_append.2 (.inl (h.all y hy h7 (.inr h9)))
  |false=>
   refine List.mem_append.2 (.inr ?_)
   have h10:=hE y hy
   rw[lfs,b8 h2] at h10
   obtain⟨c,hc,hyc⟩:=List.mem_flatMap.1 h10
   have hya:y∈a.es:=by
    rcases List.mem_append.1 hc with hc|hc
    have h11:=(pw3 c hc a (by simp)).2 y hyc
    have h12:ag y.1 a.low=false:=jy hA.l4 hfm4 h4 h9
    rw[h12] at h11;cases h11
    rcases List.mem_cons.1 hc with rfl|hc
    exact hyc
    exfalso
    cases suf with
    |nil=>cases hc
    |cons b s=>
     have h11:=h8 b s rfl
     have hb4:=hL.l4 b (by simp)
     have hcn:=hL.nd c (by simp[hc])
     have h12:=hcn.ge y hyc
     rcases List.mem_cons.1 hc with rfl|hc
     rw[h12] at h11;cases h11
     have h13:=((List.pairwise_cons.1 (List.pairwise_cons.1 pw2).2).1 c hc).1
     have h14:=gY hcn.l4 (hcn.z4 y hyc) h13 h12
     rw[iP h14] at h11;cases h11
   rw[<-g6] at hya
   obtain⟨e,he,rfl⟩:=List.mem_map.1 hya
   exact List.mem_map.2 ⟨e,kt.2 ⟨he,h9⟩,rfl⟩
 have hsrt:(told++(aM fm n.es).map fun e=>e.1).Pairwise fun a b=>ag a b=true:=by
  refine List.pairwise_append.2 ⟨h.srt,List.pairwise_map.2 (hris.sublist List.filter_sublist),fun t ht t2 ht2=>?_⟩
  obtain⟨e,he,rfl⟩:=List.mem_map.1 ht2
  obtain⟨he1,he2⟩:=kt.1 he
  exact gY hfm4 (hez e he1) (hlt t ht) he2
 have hge:∀t∈told++(aM fm n.es).map fun e=>e.1,ag t s0=false:=fun t ht=>by
  rcases List.mem_append.1 ht with ht|ht
  exact h.ge t ht
  obtain⟨e,he,rfl⟩:=List.mem_map.1 ht
  exact jy aR hfm4 Cl (kt.1 he).2
 cases suf with
 |nil=>
  have e1:wkL ⟨pos,st+1,fm,false⟩ n=⟨-1,st+1,fm,true⟩:=by
   rw[wkL,g4,g5];rfl
  rw[e1]
  exact⟨hfm4,fun e=>(nomatch e),Cl,hsrt,hge,fun e=>(nomatch e),fun y hy h7 _=>hall y hy h7 fun b s e=>(nomatch e)⟩
 |cons b s=>
  have hb4:=hL.l4 b (by simp)
  have hbp:=htr.pg_lt (b4 h2 (a:=b) (by simp))
  have e1:wkL ⟨pos,st+1,fm,false⟩ n=⟨b.pg,st+1,b.low,false⟩:=by
   rw[wkL,g4,g5]
   show (⟨b.pg,st+1,if b.low.size=0 then fm else b.low,decide (b.pg<0)⟩:WkT)= _
   rw[if_neg (by omega),decide_eq_false (by omega)]
  rw[e1]
  have hfb:=h5 b s rfl
  refine⟨hb4,fun _=>⟨0,_,b,h2,by simp,rfl,by omega,eR _⟩,?_,hsrt,hge,fun _ t ht=>?_,fun y hy h7 h8=>hall y hy h7 fun b2 s2 e=>?_⟩
  exact jy aR hfm4 Cl (iP hfb)
  rcases List.mem_append.1 ht with ht|ht
  exact dA (hlt t ht) hfb
  obtain⟨e,he,rfl⟩:=List.mem_map.1 ht
  obtain⟨v,hv⟩:=hes e (kt.1 he).1
  exact(hltA b (by simp)).2 _ hv
  injection e with e2 e3
  subst e2
  rcases h8 with h8|h8
  cases h8
  exact h8
 cases suf with
 |nil=>
  refine .inl ?_
  show decide (n.right<0)=true
  rw[g4];rfl
 |cons b s=>
  refine .inr ?_
  show Mv T 0 pos n.right
  rw[g4]
  exact .right 0 pre s a b h2 h3 rfl (by omega)
theorem GG{ps:List PgS}{w:WkT}(h:w.fin=true):wkN ps w=(⟨w.pos,w.st+1,w.fm,true⟩,.off):=by
 obtain⟨pos,st,fm,fin⟩:=w;exact kM (.inl h)
end
section
open Go.RowKit
theorem Out.stop{T T':List (List AbN)}{p p':PuT}{g:GoT}{fresh:Int}(ho:Out T T' p p' g fresh)(h:p.left=[]):p'.left=[]:=by
 cases ho with
 |idle _ _ hl=>exact hl
 |move _ _ h2=>rw[h] at h2;cases h2
 |there _ _ _ _ _ _ h2=>rw[h] at h2;cases h2
 |put _ _ _ _ _ _ h2=>rw[h] at h2;cases h2
 |cut _ _ _ _ _ _ _ h2=>rw[h] at h2;cases h2
 |grow _ _ _ _ h2=>rw[h] at h2;cases h2
end
section
open Go.RowKit
def c7(ps:List PgS)(T:List (List AbN))(B:Int):Nat->Int->ByteArray->Int->Prop
 |0,_,_,_=>False
 |r+1,pos,x,tl=>(fE T pos x tl/\rkF T pos<=r+1)\/(tl<=0/\pos∉aT T/\pos<B/\∃n,ao ps pos=some n/\n.dead=true/\0<=n.right/\c7 ps T B r n.right x tl)
theorem c7.live{ps:List PgS}{T:List (List AbN)}{B:Int}{r:Nat}{pos tl:Int}{x:ByteArray}(hd:(aT T).Nodup)(h:fE T pos x tl)(hr:rkF T pos<=r):c7 ps T B r pos x tl:=by
 have h1:=Bf hd h
 cases r with
 |zero=>omega
 |succ r=>exact .inl ⟨h,hr⟩
theorem c7.trans{ps ps':List PgS}{T T':List (List AbN)}{B B':Int}{d:Nat}{x:ByteArray}{tl:Int}(hl:∀pos r,fE T pos x tl->rkF T pos<=r->c7 ps' T' B' (r+d) pos x tl)(hd:∀q,q∉aT T->q<B->ao ps' q=ao ps q/\q∉aT T')(hB:B<=B'):
  ∀{r:Nat}{pos:Int},c7 ps T B r pos x tl->c7 ps' T' B' (r+d) pos x tl
 |0,_,h=>h.elim
 |r+1,pos,h=>by
  rcases h with ⟨h1,h2⟩|⟨h1,h2,h3,n,h4,h5,h6,h7⟩
  exact hl pos _ h1 h2
  obtain⟨e1,e2⟩:=hd pos h2 h3
  rw[show r+1+d=(r+d)+1 by omega]
  exact .inr ⟨h1,e2,by omega,n,e1.trans h4,h5,h6,c7.trans hl hd hB h7⟩
theorem vS{y x:Int}(hxy:y≠x):∀(A B:List Int),((A++B).dropWhile fun q=>!(q==x)).length<=((A++y::B).dropWhile fun q=>!(q==x)).length
 | [],B=>by
   rw[List.nil_append,List.nil_append,List.dropWhile_cons_of_pos (by simpa using hxy)];omega
 |a::A,B=>by
  rw[List.cons_append,List.cons_append]
  by_cases h:a=x
  rw[List.dropWhile_cons_of_neg (by simp[h]),List.dropWhile_cons_of_neg (by simp[h])]
  simp only[List.length_cons,List.length_append];omega
  rw[List.dropWhile_cons_of_pos (by simpa using h),List.dropWhile_cons_of_pos (by simpa using h)]
  exact vS hxy A B
section
variable{ps ps':List PgS}{T2:List (List AbN)}{root:Int}{pre suf u v:List AbN}{a b m:AbN}{A B:List Kv}
theorem HL:∃X Y,dW ((pre++a::b::suf)::(u++m::v)::T2)=X++a.pg::Y/\dW (unT pre suf u v a b m A B T2)=X++Y:=
 ⟨dW T2++((u++m::v).map AbN.pg++pre.map AbN.pg),b.pg::suf.map AbN.pg,by simp[dW],by simp[dW,unT]⟩
theorem AB{q:Int}(h:q∈aT (unT pre suf u v a b m A B T2)):q∈aT ((pre++a::b::suf)::(u++m::v)::T2):=by
 simp only[aT,unT,List.flatten_cons,List.map_append,List.map_cons,List.mem_append,List.mem_cons] at h |-
 rcases h with (h|h|h)|(h|h|h)|h
 exact .inl (.inl h)
 exact .inl (.inr (.inr (.inl h)))
 exact .inl (.inr (.inr (.inr h)))
 exact .inr (.inl (.inl h))
 exact .inr (.inl (.inr (.inl h)))
 exact .inr (.inl (.inr (.inr h)))
 exact .inr (.inr h)
theorem FD(h:Tr ps ((pre++a::b::suf)::(u++m::v)::T2) root):a.pg∉aT (unT pre suf u v a b m A B T2):=fun hm=>by
 have hd:=h.dist
 have e2:aT ((pre++a::b::suf)::(u++m::v)::T2)=pre.map AbN.pg++(a.pg::b.pg::(suf.map AbN.pg++(u.map AbN.pg++m.pg::(v.map AbN.pg++aT T2)))):=by simp[aT]
 have e1:aT (unT pre suf u v a b m A B T2)=pre.map AbN.pg++(b.pg::(suf.map AbN.pg++(u.map AbN.pg++m.pg::(v.map AbN.pg++aT T2)))):=by simp[aT,unT]
 rw[e2] at hd
 rw[e1] at hm
 obtain⟨h1,h2,h3⟩:=List.nodup_append.1 hd
 rcases List.mem_append.1 hm with hm|hm
 exact h3 _ hm _ (List.mem_cons_self ..) rfl
 exact(List.nodup_cons.1 h2).1 hm
theorem KW{q:Int}(hq:a.pg≠q):rkF (unT pre suf u v a b m A B T2) q<=rkF ((pre++a::b::suf)::(u++m::v)::T2) q:=by
 obtain⟨X,Y,h1,h2⟩:=HL (pre:=pre) (suf:=suf) (u:=u) (v:=v) (a:=a) (b:=b) (m:=m) (A:=A) (B:=B) (T2:=T2)
 rw[rkF,rkF,h1,h2]
 exact vS hq X Y
theorem Ep{k:Nat}{l:List AbN}{c:AbN}(hk:((pre++a::b::suf)::(u++m::v)::T2)[k]? =some l)(hc:c∈l)(hne:c.pg≠a.pg):∃l' c',(unT pre suf u v a b m A B T2)[k]? =some l'/\c'∈l'/\c'.pg=c.pg/\(c'.low=c.low\/(k=0/\c=b/\c'.low=a.low)):=by
 match k with
 |0=>
  injection hk with hk
  subst hk
  rcases List.mem_append.1 hc with hc|hc
  exact⟨_,c,rfl,by simp[hc],rfl,.inl rfl⟩
  rcases List.mem_cons.1 hc with rfl|hc
  exact absurd rfl hne
  rcases List.mem_cons.1 hc with rfl|hc
  exact⟨_,⟨c.pg,a.low,c.es⟩,rfl,by simp,rfl,.inr ⟨rfl,rfl,rfl⟩⟩
  exact⟨_,c,rfl,by simp[hc],rfl,.inl rfl⟩
 |1=>
  injection hk with hk
  subst hk
  rcases List.mem_append.1 hc with hc|hc
  exact⟨_,c,rfl,by simp[hc],rfl,.inl rfl⟩
  rcases List.mem_cons.1 hc with rfl|hc
  exact⟨_,⟨c.pg,c.low,A++(a.low,b.pg)::B⟩,rfl,by simp,rfl,.inl rfl⟩
  exact⟨_,c,rfl,by simp[hc],rfl,.inl rfl⟩
 |k+2=>exact⟨l,c,hk,hc,rfl,.inl rfl⟩
theorem Hd{Bn:Int}{x:ByteArray}{tl:Int}(h:Tr ps ((pre++a::b::suf)::(u++m::v)::T2) root)(h':Tr ps' (unT pre suf u v a b m A B T2) root)(hdead:∃nd,ao ps' a.pg=some nd/\nd.dead=true/\nd.right=b.pg)
  (hoth:∀q,q∉aT ((pre++a::b::suf)::(u++m::v)::T2)->ao ps' q=ao ps q) (hB:∀q∈aT ((pre++a::b::suf)::(u++m::v)::T2),q<Bn){r:Nat}{pos:Int}(hp:c7 ps ((pre++a::b::suf)::(u++m::v)::T2) Bn r pos x tl):c7 ps' (unT pre suf u v a b m A B T2) Bn r pos x tl:=by
 have hL:=h.lv _ (List.mem_cons_self ..)
 have hlow:ag a.low b.low=true:=((List.pairwise_cons.1 (List.pairwise_append.1 hL.pw).2.1).1 b (by simp)).1
 have hdn:∀{y:ByteArray},ag y b.low=false->ag y a.low=false:=fun {y} hy=>by
  cases hq:ag y a.low with
  |false=>rfl
  |true=>rw[dA hq hlow] at hy;cases hy
 obtain⟨nd,d1,d2,d3⟩:=hdead
 have hbp:=h.pg_lt (b4 (T:=(pre++a::b::suf)::(u++m::v)::T2) (k:=0) (l:=pre++a::b::suf) rfl (a:=b) (by simp))
 have hsame:=h.same (k:=0) (pre:=pre) (suf:=b::suf) (a:=a) rfl
 refine c7.trans (d:=0) (B:=Bn) (B':=Bn) (fun pos r hpo hr=>?_) (fun q hq _=>⟨hoth q hq,fun hm=>hq (AB hm)⟩) (Int.le_refl _) hp
 rw[Nat.add_zero]
 obtain⟨k,l,c,hk,hc,h1,h2,h3⟩:=hpo
 by_cases e:c.pg=a.pg
 have hap:pos=a.pg:=h1.symm.trans e
 obtain rfl:k=0:=by
  by_cases e0:k=0
  exact e0
  exact absurd e (h.other (j:=0) (m:=pre++a::b::suf) hk rfl e0 hc (by simp))
 injection hk with hk
 subst hk
 obtain rfl:c=a:=by
  rcases List.mem_append.1 hc with hc|hc
  exact absurd e (hsame.1 c hc)
  rcases List.mem_cons.1 hc with rfl|hc
  rfl
  exact absurd e (hsame.2 c hc)
 have hra:rkF ((pre++c::b::suf)::(u++m::v)::T2) c.pg=(b::suf).length+1+eA ((pre++c::b::suf)::(u++m::v)::T2) 0:=gD h.dist (k:=0) (pre:=pre) (suf:=b::suf) (a:=c) rfl
 have hrb:rkF (unT pre suf u v c b m A B T2) b.pg=suf.length+1+eA (unT pre suf u v c b m A B T2) 0:=gD h'.dist (k:=0) (pre:=pre) (suf:=suf) (a:=⟨b.pg,c.low,b.es⟩) rfl
 have Cl:eA ((pre++c::b::suf)::(u++m::v)::T2) 0=0:=rfl
 have iX:eA (unT pre suf u v c b m A B T2) 0=0:=rfl
 rw[hap,hra,Cl,List.length_cons] at hr
 rw[iX] at hrb
 obtain⟨r0,rfl⟩:∃r0,r=r0+1:=⟨r-1,by omega⟩
 refine .inr ⟨h2,by rw[hap];exact FD h,by rw[hap];exact hB _ (b4 (k:=0) rfl hc),nd,by rw[hap];exact d1,d2,by omega,?_⟩
 rw[d3]
 exact c7.live h'.dist ⟨0,_,⟨b.pg,c.low,b.es⟩,rfl,by simp,rfl,h2,h3⟩ (by omega)
 obtain⟨l',c',g1,g2,g3,g4⟩:=Ep (A:=A) (B:=B) hk hc e
 have hge:ag x c'.low=false:=by
  rcases g4 with g4|⟨rfl,rfl,g4⟩
  rw[g4];exact h3
  rw[g4];exact hdn h3
 exact c7.live h'.dist ⟨k,l',c',g1,g2,g3.trans h1,h2,hge⟩ (Nat.le_trans (KW (fun e2=>e (h1.trans e2.symm))) hr)
end
structure Wu (E:List Kv) (s0:ByteArray) (ps:List PgS) (T:List (List AbN)) (B:Int) (r:Nat) (w:WkT) (told:List ByteArray):Prop where
 sz:4<=w.fm.size
 pos:w.fin=false->c7 ps T B r w.pos w.fm 0
 st0:ag w.fm s0=false
 srt:told.Pairwise fun a b=>ag a b=true
 ge:∀t∈told,ag t s0=false
 lt:w.fin=false->∀t∈told,ag t w.fm=true
 all:∀y∈E,ag y.1 s0=false->(w.fin=true\/ag y.1 w.fm=true)->y.1∈told
theorem FB{E:List Kv}{s0:ByteArray}{ps:List PgS}{T:List (List AbN)}{root B:Int}{r:Nat}{w:WkT}{told:List ByteArray}(htr:Tr ps T root)(hE:∀y∈E,y∈lfs T)(hE4:∀y∈E,4<=y.1.size)(aR:4<=s0.size)(h:Wu E s0 ps T B r w told)(hf:w.fin=false)(aL:w.st+1<1000):
  ∃r0,r=r0+1/\((∃w1,wkN ps w=(w1,.on)/\Wu E s0 ps T B r0 w1 told/\w1.fin=false/\w1.st=w.st+1)\/
  (∃w1 n,wkN ps w=(w1,.at n)/\w1.fm=w.fm/\w1.st=w.st+1/\Wu E s0 ps T B r0 (wkL w1 n) (told++(aM w1.fm n.es).map fun e=>e.1)/\(∀e∈n.es,kv e∈lfs T)/\n.es.length<=8)):=by
 have hp:=h.pos hf
 cases r with
 |zero=>exact hp.elim
 |succ r=>
  refine⟨r,rfl,?_⟩
  rcases hp with ⟨h1,h2⟩|⟨_,h2,h3,n,h4,h5,h6,h7⟩
  have hz:Wz E s0 T w told:=⟨h.sz,fun _=>h1,h.st0,h.srt,h.ge,h.lt,h.all⟩
  rcases Gh htr hE hE4 aR hz hf aL with ⟨w1,g1,g2,g3,g4,g5⟩|⟨w1,n,g1,g2,g3,g4,g5,g6,g7⟩
  have:=g5.rk htr.dist
  exact .inl ⟨w1,g1,⟨g2.sz,fun hf1=>c7.live htr.dist (g2.pos hf1) (by omega),g2.st0,g2.srt,g2.ge,g2.lt,g2.all⟩,g3,g4⟩
  refine .inr ⟨w1,n,g1,g2,g3,⟨g4.sz,fun hf1=>?_,g4.st0,g4.srt,g4.ge,g4.lt,g4.all⟩,g6,g7⟩
  have:=(g5.resolve_left (by rw[hf1];decide)).rk htr.dist
  exact c7.live htr.dist (g4.pos hf1) (by omega)
  obtain⟨pos,st,fm,fin⟩:=w
  have hf:fin=false:=hf
  subst hf
  have e0:=gC (fm:=fm) (st:=st) (fin:=false) (by simp;dsimp only at aL;omega) h4
  have hs:cL n.dead n.high fm=true:=by rw[cL,h5];rfl
  rw[if_pos hs,decide_eq_false (by omega),if_neg (by omega)] at e0
  exact .inl ⟨_,e0,⟨h.sz,fun _=>h7,h.st0,h.srt,h.ge,h.lt,h.all⟩,rfl,rfl⟩
end
section
open Go.RowKit
def NoE(T:List (List AbN))(t:TaT):Prop:=t.2.1=1->∀c∈lvA T 1,∀e∈c.es,e.2≠t.2.2
def TgS(T:List (List AbN))(k:Nat)(x:ByteArray):Prop:=∀pre suf a,T[k]? =some (pre++a::suf)->ag x a.low=false->(∀c s,suf=c::s->ag x c.low=true)->1<=a.es.length/\a.es.length<=4
def Shp(T:List (List AbN))(p:PuT):Prop:=p.left=[]\/(∃t,p.left=[t])\/∃(t u:TaT) (k:Nat),p.left=[t,u]/\t.2.1=(k:Int)/\k+1<T.length/\u.2.1=(k:Int)+1/\TgS T k t.1
structure InU (ps:List PgS) (T:List (List AbN)) (B:Int) (r:Nat) (p:PuT):Prop where
 rt:p.root=0
 pos:∀t l,p.left=t::l->c7 ps T B r p.pos t.1 t.2.1
 tasks:∀t∈p.left,gZ T t
 noe:∀t∈p.left,NoE T t
 shp:Shp T p
def cV(T:List (List AbN)):Nat:=match T.getLast? with
 |some [r]=>if r.es.length=8 then 2 else 0
 |_=>0
def fz(T:List (List AbN))(p:PuT):Nat:=match p.left with
 | []=>0
 |t::l=>(T.length-1-t.2.1.toNat-l.length)+cV T
def mz(T:List (List AbN))(p:PuT)(r:Nat):Nat:=if p.left=[] then 0 else r+61*(p.left.length-1)+63*fz T p
structure GU (ps:List PgS) (T:List (List AbN)) (nx:Int):Prop where
 tr:Tr ps T 0
 its:∀q∈ps,q.2.2.length<=101
 len:ps.length=60
 pg:∀q∈aT T,q<nx
theorem nI{T:List (List AbN)}{p:PuT}(h:p.left=[]):fz T p=0:=by rw[fz,h]
theorem d8{T:List (List AbN)}{p:PuT}{t:TaT}{l:List TaT}(h:p.left=t::l):fz T p=(T.length-1-t.2.1.toNat-l.length)+cV T:=by rw[fz,h]
theorem BH{ps:List PgS}{p:PuT}{fresh:Int}{n:NoD}{t:TaT}{l:List TaT}(h:(aU ps p fresh).2.used=true)(hl:p.left=t::l)(hn:ao ps p.pos=some n):cL n.dead n.high t.1=false:=by
 cases hs:cL n.dead n.high t.1 with
 |false=>rfl
 |true=>
  exfalso
  unfold aU at h
  rw[hl] at h
  dsimp only at h
  rw[hn] at h
  dsimp only at h
  rw[if_pos hs] at h
  split at h<;>cases h
theorem tF{pos:Int}{L:List EnD}:∀e∈aA pos L,e.1=pos:=fun e he=>by obtain⟨y,_,rfl⟩:=List.mem_map.1 he;rfl
theorem Ig{ps:List PgS}{p:PuT}{fresh:Int}:∀e∈(aU ps p fresh).2.eds,e.1=p.pos\/e.1=fresh\/e.1=p.root:=fun e he=>by
 unfold aU at he
 dsimp only at he
 split at he
 cases he
 split at he
 cases he
 split at he
 split at he<;>cases he
 split at he
 cases he
 split at he
 cases he
 split at he
 dsimp only at he
 split at he
 cases he
 rw[List.mem_singleton] at he
 exact .inl (by rw[he])
 split at he
 cases he
 split at he
 rename_i n _ _ _ _ _ _ _
 have he:e∈bT p.root _ fresh:=he
 rw[bT] at he
 simp only[List.mem_append,List.mem_singleton] at he
 rcases he with ((he|he)|he)|he
 exact .inr (.inl (eT e he))
 exact .inr (.inr (by rw[he]))
 exact .inr (.inr (tF e he))
 exact .inr (.inr (by rw[he]))
 have he:e∈bR p.pos _ fresh:=he
 rw[bR] at he
 simp only[List.mem_append,List.mem_singleton] at he
 rcases he with (he|he)|he
 exact .inr (.inl (eT e he))
 exact .inl (by rw[he])
 exact .inl (tF e he)
theorem nJ{α:Type}{pre R pre' s':List α}{a c:α}(h:pre++a::R=pre'++c::s'):(pre'=pre/\c=a/\s'=R)\/(∃q,pre'=pre++a::q/\R=q++c::s')\/∃q,pre=pre'++c::q/\s'=q++a::R:=by
 rcases List.append_eq_append_iff.1 h with ⟨q,h1,h2⟩|⟨q,h1,h2⟩
 cases q with
 |nil=>injection h2 with h3 h4;exact .inl ⟨by rw[h1];simp,h3.symm,h4.symm⟩
 |cons x q=>injection h2 with h3 h4;subst h3;exact .inr (.inl ⟨q,h1,h4⟩)
 cases q with
 |nil=>injection h2 with h3 h4;exact .inl ⟨by rw[h1];simp,h3,h4⟩
 |cons x q=>injection h2 with h3 h4;subst h3;exact .inr (.inr ⟨q,h1,h4⟩)
theorem Tr.uniq{ps:List PgS}{T:List (List AbN)}{root:Int}(h:Tr ps T root){k:Nat}{pre suf l:List AbN}{a c:AbN}{j:Nat}(hk:T[k]? =some (pre++a::suf))(hj:T[j]? =some l)(hc:c∈l)(hp:c.pg=a.pg):c=a:=by
 by_cases e:j=k
 subst e
 rw[hk] at hj
 injection hj with hj
 subst hj
 obtain⟨h1,h2⟩:=h.same hk
 rcases List.mem_append.1 hc with hc|hc
 exact absurd hp (h1 c hc)
 rcases List.mem_cons.1 hc with rfl|hc
 rfl
 exact absurd hp (h2 c hc)
 exact absurd hp (h.other hj hk e hc (by simp))
theorem xX{ps:List PgS}{T:List (List AbN)}{p:PuT}{fresh:Int}{t:TaT}{l:List TaT}{k:Nat}{pre suf:List AbN}{a:AbN}(h:Tr ps T 0)(hi:InsOk T 0 p)(hu:(aU ps p fresh).2.used=true)(hl:p.left=t::l)(hk:T[k]? =some (pre++a::suf))(hpa:a.pg=p.pos):ag t.1 a.low=false/\∀c s,suf=c::s->ag t.1 c.low=true:=by
 obtain⟨j,lv,c,hj,hc,h1,h2,h3⟩:=hi.pos t l hl
 obtain rfl:=h.uniq hk hj hc (h1.trans hpa.symm)
 obtain⟨n,hn,hlv,hdd,hrt,hhi,hes⟩:=h.node hk
 have hL:=(h.level hk).2
 have hsn:=pW (x:=t.1) hdd hhi fun b hb=>hL.l4 b (by simp[hb])
 rw[BH hu hl (by rw[<-hpa];exact hn)] at hsn
 refine⟨h3,?_⟩
 rintro b s rfl
 cases hc:ag t.1 b.low with
 |true=>rfl
 |false=>simp[sT,hc] at hsn
theorem pj{T:List (List AbN)}{k j:Nat}{l:List AbN}(h:j≠k):lvA (T.set k l) j=lvA T j:=by
 rw[lvA,lvA,List.getD_eq_getElem?_getD,List.getD_eq_getElem?_getD,List.getElem?_set_ne (fun e=>h e.symm)]
theorem GM{ps:List PgS}{T T':List (List AbN)}{p p':PuT}{g:GoT}{nx:Int}(h:Tr ps T 0)(hi:InsOk T 0 p)(ho:Out T T' p p' g nx)(hn:∀t∈p.left,NoE T t)(hs:Shp T p)(hff:nx∉aT T):∀t∈p'.left,NoE T' t:=by
 cases ho with
 |idle _ _ hl=>rw[hl];exact fun t ht=>nomatch ht
 |move t l e hT hl=>rw[hl,hT,<-e];exact hn
 |there t l k pre suf a e _ hT _ _ hl=>rw[hl,hT];exact fun s hs=>hn s (by rw[e];simp[hs])
 |put t l k pre suf a e hk ht hT _ hl=>
  rw[hl]
  intro s hsl h1
  by_cases ek:k=1
  exfalso
  subst ek
  rcases hs with hs|⟨t0,hs⟩|⟨t0,u0,k0,hs,h2,_,h3,_⟩
  rw[e] at hs;cases hs
  rw[e] at hs;injection hs with _ hs;rw[hs] at hsl;cases hsl
  rw[e] at hs
  injection hs with e1 e2
  subst e1 e2
  rw[List.mem_singleton] at hsl
  subst hsl
  omega
  rw[hT,pj (fun e=>ek e.symm)]
  exact hn s (by rw[e];simp[hsl]) h1
 |cut t l k pre suf a mid e hk ht h8 htop hT hl=>
  rw[hl]
  intro s hsl h1
  have old:∀c∈lvA T' 1,∀e∈c.es,∃d∈lvA T 1,e∈d.es:=fun c hc y hy=>by
   by_cases ek:k=1
   subst ek
   have hkl:=(List.getElem?_eq_some_iff.1 ht).1
   rw[hT,b8 (List.getElem?_set_self hkl)] at hc
   rw[b8 ht]
   rcases List.mem_append.1 hc with hc|hc
   exact⟨c,by simp[hc],hy⟩
   rcases List.mem_cons.1 hc with rfl|hc
   exact⟨a,by simp,List.mem_of_mem_take hy⟩
   rcases List.mem_cons.1 hc with rfl|hc
   exact⟨a,by simp,List.mem_of_mem_drop hy⟩
   exact⟨c,by simp[hc],hy⟩
   rw[hT,pj (fun e=>ek e.symm)] at hc
   exact⟨c,hc,hy⟩
  intro c hc y hy
  obtain⟨d,hd,hyd⟩:=old c hc y hy
  rcases List.mem_append.1 hsl with hsl|hsl
  exact hn s (by rw[e];exact hsl) h1 d hd y hyd
  rw[List.mem_singleton] at hsl
  subst hsl
  have h1:(k:Int)+1=1:=h1
  obtain rfl:k=0:=by omega
  have h2:T[1]? =some (lvA T 1):=by
   rw[lvA,List.getD_eq_getElem?_getD,List.getElem?_eq_getElem htop];rfl
  obtain⟨mm,q1,q2,_⟩:=(h.inn 0 _ _ h2 ht d hd).2 y hyd
  exact fun e=>hff (by have e:y.2=nx:=e;rw[<-e,<-q2];exact b4 ht q1)
 |grow t l T0 r e hk ht hr h8 hT hl=>
  rw[hl,<-e]
  intro s hsl h1
  have hta:=hi.tasks s hsl
  rcases hta.2 with h0|⟨j,below,mm,h2,h3,_⟩
  omega
  obtain rfl:j=0:=by omega
  rw[ht] at h3
  simp only[List.length_append,List.length_singleton] at h3
  intro c hc y hy
  have hn':=hn s hsl h1
  match T0,h3 with
  | [l0],_=>
    rw[hT] at hc
    have hc:c∈[(⟨nx,r.low,r.es⟩:AbN)]:=hc
    rw[List.mem_singleton] at hc
    subst hc
    exact hn' r (by rw[ht];simp[lvA]) y hy
  |l0::l1::T0,_=>
   rw[hT] at hc
   exact hn' c (by rw[ht];exact hc) y hy
theorem H9{l pre' s':List AbN}{a c:AbN}{q R:List AbN}{x:ByteArray}(h:LvOk (pre'++c::(q++a::R)))(hx:4<=x.size)(hge:ag x a.low=false):∀d s,q++a::R=d::s->ag x d.low=false:=fun d s e=>by
 cases q with
 |nil=>injection e with e1 e2;rw[<-e1];exact hge
 |cons y q=>
  injection e with e1 e2
  subst e1
  have h1:=h.pw
  have h2:=(List.pairwise_cons.1 (List.pairwise_append.1 h1).2.1).2
  have h3:=((List.pairwise_cons.1 h2).1 a (by simp)).1
  cases hq:ag x y.low with
  |false=>rfl
  |true=>rw[dA hq h3] at hge;cases hge
theorem GD{ps:List PgS}{T T':List (List AbN)}{p:PuT}{nx:Int}{R:PuT×GoT}(hR:aU ps p nx=R)(h:Tr ps T 0)(h':Tr (doB ps R.2.eds) T' 0)(hi:InsOk T 0 p)(ho:Out T T' p R.1 R.2 nx)(hs:Shp T p):Shp T' R.1/\fz T' R.1+(if R.2.used then 1 else 0)<=fz T p:=by
 have two:∀{t:TaT}{l:List TaT}{k:Nat}{pre suf:List AbN}{a:AbN},p.left=t::l->t.2.1=(k:Int)->T[k]? =some (pre++a::suf)->a.es.length=8->R.2.used=true->a.pg=p.pos->l=[]:=fun {t l k pre suf a} e hk ht h8 hu hpa=>by
  rcases hs with hs|⟨t0,hs⟩|⟨t0,u0,k0,hs,h2,h3,h4,h5⟩
  rw[e] at hs;cases hs
  rw[e] at hs;injection hs
  exfalso
  rw[e] at hs
  injection hs with e1 e2
  subst e1
  obtain rfl:k0=k:=by omega
  obtain⟨q1,q2⟩:=xX h hi (by rw[hR];exact hu) e ht hpa
  have:=h5 pre suf a ht q1 q2
  omega
 cases ho with
 |idle e hT hl _ hu=>exact⟨.inl hl,by rw[hu,nI hl];simp⟩
 |move t l e hT hl _ hu=>
  refine⟨?_,by rw[hu,d8 hl,d8 e,hT];simp⟩
  rw[hT]
  rcases hs with hs|⟨t0,hs⟩|⟨t0,u0,k0,hs,h2⟩
  rw[e] at hs;cases hs
  exact .inr (.inl ⟨t0,by rw[hl,<-e];exact hs⟩)
  exact .inr (.inr ⟨t0,u0,k0,by rw[hl,<-e];exact hs,h2⟩)
 |there t l k pre suf a e hk hT ht _ hl _ hu=>
  rcases hs with hs|⟨t0,hs⟩|⟨t0,u0,k0,hs,h2,h3,h4,h5⟩
  rw[e] at hs;cases hs
  rw[e] at hs;injection hs with _ e2;rw[e2] at hl
  exact⟨.inl hl,by rw[hu,nI hl];simp⟩
  rw[e] at hs
  injection hs with e1 e2
  subst e1
  rw[e2] at hl
  refine⟨.inr (.inl ⟨u0,hl⟩),?_⟩
  rw[hu,d8 hl,d8 e,e2,hT]
  simp only[List.length_cons,List.length_nil,Bool.false_eq_true,if_false]
  omega
 |put t l k pre suf a e hk ht hT _ hl _ hu=>
  rcases hs with hs|⟨t0,hs⟩|⟨t0,u0,k0,hs,h2,h3,h4,h5⟩
  rw[e] at hs;cases hs
  rw[e] at hs;injection hs with _ e2;rw[e2] at hl
  exact⟨.inl hl,by rw[hu,nI hl];simp⟩
  rw[e] at hs
  injection hs with e1 e2
  subst e1
  obtain rfl:k0=k:=by omega
  rw[e2] at hl
  refine⟨.inr (.inl ⟨u0,hl⟩),?_⟩
  have hrf:cV T'=cV T:=by
   rw[cV,cV,hT,List.getLast?_eq_getElem?,List.getLast?_eq_getElem?,List.length_set,List.getElem?_set_ne (by omega)]
  rw[hu,d8 hl,d8 e,e2,hrf,hT,List.length_set]
  simp only[List.length_cons,List.length_nil,Bool.false_eq_true,if_false]
  omega
 |cut t l k pre suf a mid e hk ht h8 htop hT hl _ hp hpa hu=>
  obtain rfl:=two e hk ht h8 hu hpa
  obtain⟨q1,q2⟩:=xX h hi (by rw[hR];exact hu) e ht hpa
  have hL:=(h.level ht).2
  have hkl:=(List.getElem?_eq_some_iff.1 ht).1
  have h4:4<=t.1.size:=(hi.tasks t (by rw[e];simp)).1
  refine⟨.inr (.inr ⟨t,_,k,hl,hk,by rw[hT,List.length_set];exact htop,rfl,?_⟩),?_⟩
  intro pre' s' c hc hge hlt
  rw[hT,List.getElem?_set_self hkl] at hc
  injection hc with hc
  rcases nJ hc with ⟨_,rfl,_⟩|⟨q,_,h6⟩|⟨q,h6,h7⟩
  show 1<=(a.es.take 4).length/\(a.es.take 4).length<=4
  rw[List.length_take];omega
  cases q with
  |nil=>
   injection h6 with h6 _
   subst h6
   show 1<=(a.es.drop 4).length/\(a.es.drop 4).length<=4
   rw[List.length_drop];omega
  |cons y q=>
   exfalso
   injection h6 with _ h6
   have h8:=hL.behind q2 c (by rw[h6];simp)
   rw[h8] at hge;cases hge
  exfalso
  subst h6
  have h8:LvOk (pre'++c::(q++a::suf)):=by rw[show pre'++c::(q++a::suf)=(pre'++c::q)++a::suf by simp];exact hL
  cases q with
  |nil=>
   have h9:=hlt _ _ h7
   have h9:ag t.1 a.low=true:=h9
   rw[q1] at h9;cases h9
  |cons d q=>
   have h9:=hlt _ _ h7
   rw[H9 (l:=[]) (s':=[]) h8 h4 q1 d _ rfl] at h9;cases h9
  have hl2:R.1.left=[t,(mid,(k:Int)+1,nx)]:=hl
  have hrf:cV T'=cV T:=by
   rw[cV,cV,hT,List.getLast?_eq_getElem?,List.getLast?_eq_getElem?,List.length_set,List.getElem?_set_ne (by omega)]
  rw[hu,if_pos rfl,d8 (T:=T') hl2,d8 e,hrf,hT,List.length_set,hk]
  simp only[List.length_cons,List.length_nil,Int.toNat_natCast]
  omega
 |grow t l T0 r e hk ht hr h8 hT hl _ hp hpa hu=>
  have hTk:T[T0.length]? =some ([]++r::[]):=by rw[ht];simp
  obtain rfl:=two e hk hTk h8 hu (by rw[hr,hpa])
  refine⟨.inr (.inl ⟨t,hl⟩),?_⟩
  have e1:cV T=2:=by rw[cV,ht,List.getLast?_concat];simp only[h8,if_true]
  have e2:cV T'=0:=by
   rw[cV,hT,show T0++[[(⟨nx,r.low,r.es⟩:AbN)],[⟨p.root,ay,[(ay,nx)]⟩]]=(T0++[[(⟨nx,r.low,r.es⟩:AbN)]])++[[⟨p.root,ay,[(ay,nx)]⟩]] by simp,List.getLast?_concat];rfl
  rw[hu,if_pos rfl,d8 (T:=T') hl,d8 e,e1,e2,hT,ht,hk]
  simp only[List.length_append,List.length_cons,List.length_nil,Int.toNat_natCast]
  omega
theorem HE{T T':List (List AbN)}{p:PuT}{nx:Int}{R:PuT×GoT}(hd:(aT T).Nodup)(hi:InsOk T 0 p)(ho:Out T T' p R.1 R.2 nx){r:Nat}(hr:rkF T p.pos<=r)(hne:p.left≠[])(hP:(aT T').length<=60)(hff:nx∉aT T)(hf:fz T' R.1+(if R.2.used then 1 else 0)<=fz T p):mz T' R.1 (rkF T' R.1.pos)<mz T p r:=by
 obtain⟨t0,l0,hl0⟩:=List.exists_cons_of_ne_nil hne
 have hpos:=hi.pos t0 l0 hl0
 have h1:=ho.rk (pos:=p.pos) (fun e=>hff (e ▸ hpos.mem))
 have hr1:=Bf hd hpos
 have hr2:rkF T' R.1.pos<=60:=Nat.le_trans (uz _ _) hP
 rw[mz,mz,if_neg hne]
 cases ho with
 |idle h=>exact absurd h hne
 |move t l h hT hl _ hu _ hm=>
  rw[hu] at hf
  simp only[Bool.false_eq_true,if_false] at hf
  have:=hm.rk hd
  rw[hl,if_neg (by simp),h]
  rw[hT] at hf |-
  omega
 |there t l k pre suf a h _ hT _ _ hl _ hu=>
  rw[hu] at hf
  simp only[Bool.false_eq_true,if_false] at hf
  rw[hl,h]
  split
  omega
  rename_i h3
  have h4:0<l.length:=List.length_pos_iff.2 h3
  rw[List.length_cons]
  omega
 |put t l k pre suf a h _ ht hT _ hl _ hu=>
  rw[hu] at hf
  simp only[Bool.false_eq_true,if_false] at hf
  rw[hl,h]
  split
  omega
  rename_i h3
  have h4:0<l.length:=List.length_pos_iff.2 h3
  rw[List.length_cons]
  omega
 |cut t l k pre suf a mid h _ ht _ _ hT hl _ hp _ hu=>
  rw[hu] at h1 hf
  simp only[if_true] at h1 hf
  rw[hl,if_neg (by simp),h,hp]
  simp only[List.length_append,List.length_cons,List.length_nil,Nat.add_sub_cancel]
  omega
 |grow t l T0 r h _ ht _ _ hT hl _ hp _ hu=>
  rw[hu] at hf
  simp only[if_true] at hf
  rw[hl,if_neg (by simp),h]
  simp only[List.length_cons,Nat.add_sub_cancel]
  omega
theorem Hc{T T':List (List AbN)}{p p':PuT}{g:GoT}{nx:Int}(ho:Out T T' p p' g nx):(lvA T' 0).length<=(lvA T 0).length+(if g.used then 1 else 0):=by
 cases ho with
 |idle _ hT=>rw[hT];exact Nat.le_add_right _ _
 |move _ _ _ hT=>rw[hT];exact Nat.le_add_right _ _
 |there _ _ _ _ _ _ _ _ hT=>rw[hT];exact Nat.le_add_right _ _
 |put t l k pre suf a _ _ ht hT=>
  refine Nat.le_trans ?_ (Nat.le_add_right _ _)
  by_cases e:k=0
  subst e
  rw[hT,b8 (List.getElem?_set_self (List.getElem?_eq_some_iff.1 ht).1),b8 ht]
  simp
  rw[hT,pj (fun h=>e h.symm)];exact Nat.le_refl _
 |cut t l k pre suf a mid _ _ ht _ _ hT _ _ _ _ hu=>
  rw[hu,if_pos rfl]
  by_cases e:k=0
  subst e
  rw[hT,b8 (List.getElem?_set_self (List.getElem?_eq_some_iff.1 ht).1),b8 ht]
  simp;omega
  rw[hT,pj (fun h=>e h.symm)];omega
 |grow t l T0 r _ _ ht _ _ hT _ _ _ _ hu=>
  rw[hu,if_pos rfl,hT,ht]
  cases T0 with
  |nil=>simp[lvA]
  |cons x T0=>simp[lvA]
theorem GU.fresh{ps:List PgS}{T:List (List AbN)}{nx:Int}(h:GU ps T nx):nx∉aT T:=fun hq=>by have:=h.pg nx hq;omega
theorem HM{ps:List PgS}{T:List (List AbN)}{nx:Int}{p:PuT}{r:Nat}(h:GU ps T nx)(hi:InU ps T nx r p)(h0:0<=nx)(hf:nx+(fz T p:Int)<=59){R:PuT×GoT}(hR:aU ps p nx=R):
  R.2.err=0/\(p.left=[]->R.1.left=[]/\R.2.eds=[])/\∃T' r',GU (doB ps R.2.eds) T' (if R.2.used then nx+1 else nx)/\InU (doB ps R.2.eds) T' (if R.2.used then nx+1 else nx) r' R.1/\fz T' R.1+(if R.2.used then 1 else 0)<=fz T p/\(p.left≠[]->mz T' R.1 r'<mz T p r)/\
    (∀{r pos x tl},c7 ps T nx r pos x tl->c7 (doB ps R.2.eds) T' (if R.2.used then nx+1 else nx) (r+(if R.2.used then 1 else 0)) pos x tl)/\(lvA T' 0).length<=(lvA T 0).length+(if R.2.used then 1 else 0)/\(∀{E:List Kv}{x:ByteArray},Way E x T p->(∀y∈E,y.1≠x)->Way E x T' R.1)/\∀y∈lfs T,y∈lfs T':=by
 have af:=h.fresh
 have live:InsOk T 0 p->(p.left≠[]->rkF T p.pos<=r)->R.2.err=0/\(p.left=[]->R.1.left=[]/\R.2.eds=[])/\∃T' r',GU (doB ps R.2.eds) T' (if R.2.used then nx+1 else nx)/\InU (doB ps R.2.eds) T' (if R.2.used then nx+1 else nx) r' R.1/\fz T' R.1+(if R.2.used then 1 else 0)<=fz T p/\(p.left≠[]->mz T' R.1 r'<mz T p r)/\
   (∀{r pos x tl},c7 ps T nx r pos x tl->c7 (doB ps R.2.eds) T' (if R.2.used then nx+1 else nx) (r+(if R.2.used then 1 else 0)) pos x tl)/\(lvA T' 0).length<=(lvA T 0).length+(if R.2.used then 1 else 0)/\(∀{E:List Kv}{x:ByteArray},Way E x T p->(∀y∈E,y.1≠x)->Way E x T' R.1)/\∀y∈lfs T,y∈lfs T':=fun hI hrk=>by
  obtain⟨T',g1,g2,g3,g4,g5⟩:=uV h.tr hI h.its (by rw[h.len];omega) (fresh:=nx) h0 (by rw[h.len];omega) af
  rw[hR] at g1 g2 g4 g5
  have hpgs:=g5.pages (fun _ _ _ _=>trivial)
  obtain⟨hs',hfz⟩:=GD hR h.tr g1 hI g5 hi.shp
  have hnx:nx<=(if R.2.used then nx+1 else nx):=by split<;>omega
  have hpg':∀q∈aT T',q<(if R.2.used then nx+1 else nx):=fun q hq=>by
   have h7:=hpgs.mem_iff.1 hq
   cases hu:R.2.used with
   |true=>
    rw[hu] at h7
    rcases List.mem_cons.1 h7 with rfl|h7
    show q<q+1;omega
    have:=h.pg q h7;show q<nx+1;omega
   |false=>rw[hu] at h7;exact h.pg q h7
  have hout:∀q,q∉aT T->q<nx->ao (doB ps R.2.eds) q=ao ps q/\q∉aT T':=fun q hq hqn=>by
   refine⟨?_,fun hm=>?_⟩
   by_cases hl:p.left=[]
   have:R.2.eds=[]:=by rw[<-hR];unfold aU;rw[hl]
   rw[this];rfl
   obtain⟨t,l,hl2⟩:=List.exists_cons_of_ne_nil hl
   refine bU fun e he=>?_
   rw[<-hR] at he
   have hroot:(0:Int)∈aT T:=by
    obtain⟨T0,r0,_,q1,_,q3⟩:=h.tr.root
    rw[<-q1];exact b4 q3 (by simp)
   rcases Ig e he with e1|e1|e1
   rw[e1];exact fun e2=>hq (e2 ▸ (hI.pos t l hl2).mem)
   omega
   rw[e1,hI.rt];exact fun e2=>hq (e2 ▸ hroot)
   have h7:=hpgs.mem_iff.1 hm
   cases hu:R.2.used with
   |true=>
    rw[hu] at h7
    rcases List.mem_cons.1 h7 with rfl|h7
    omega
    exact hq h7
   |false=>rw[hu] at h7;exact hq h7
  refine⟨g4,fun hl=>⟨g5.stop hl,by rw[<-hR];unfold aU;rw[hl]⟩,T',rkF T' R.1.pos,⟨g1,mv h.its,by rw[b5];exact h.len,hpg'⟩,⟨g2.rt,fun t l hl=>c7.live g1.dist (g2.pos t l hl) (Nat.le_refl _),g2.tasks,GM h.tr hI g5 hi.noe hi.shp af,hs'⟩,hfz,fun hne=>?_,fun hp=>?_,Hc g5,fun hw hx=>hw.step h.tr g5 hx,fun y hy=>?_⟩
  have hb:=g1.bd
  rw[b5,h.len] at hb
  exact HE h.tr.dist hI g5 (hrk hne) hne hb.1 af hfz
  refine hp.trans (fun pos r hpo hr=>?_) hout hnx
  have:=g5.rk (pos:=pos) (fun e=>af (e ▸ hpo.mem))
  exact c7.live g1.dist (g3.pos _ _ _ hpo) (by omega)
  rcases g5.lfs with h6|⟨t,l,_,_,_,_,h6⟩
  exact h6.mem_iff.2 hy
  exact h6.mem_iff.2 (List.mem_cons_of_mem _ hy)
 by_cases hl:p.left=[]
 exact live ⟨hi.rt,fun t l e=>(by rw[hl] at e;cases e),hi.tasks⟩ fun h=>absurd hl h
 obtain⟨t,l,hl2⟩:=List.exists_cons_of_ne_nil hl
 have hp:=hi.pos t l hl2
 cases r with
 |zero=>exact hp.elim
 |succ r=>
  rcases hp with ⟨h1,h2⟩|⟨h1,h2,h3,n,h4,h5,h6,h7⟩
  refine live ⟨hi.rt,fun t' l' e=>?_,hi.tasks⟩ fun _=>h2
  rw[hl2] at e
  injection e with e1 e2
  rw[<-e1];exact h1
  clear live
  obtain⟨root,pos,leaf,left,fro,to,spl⟩:=p
  have hl2:left=t::l:=hl2
  subst hl2
  obtain⟨te,tl,tk⟩:=t
  have e0:=jc (root:=root) (leaf:=leaf) (lf:=l) (tl:=tl) (tk:=tk) (fro:=fro) (to:=to) (spl:=spl) (fresh:=nx) (te:=te) h4 (by rw[cL,h5];rfl) (by omega)
  have hR2:R=(⟨root,n.right,leaf,(te,tl,tk)::l,0,0,false⟩,⟨[],false,0⟩):=hR.symm.trans e0
  subst hR2
  have hsp:l=[]\/∃u k,l=[u]/\tl=(k:Nat)/\k+1<T.length/\u.2.1=(k:Int)+1/\TgS T k te:=by
   rcases hi.shp with hs|⟨t0,hs⟩|⟨t0,u0,k0,hs,h2,h3,h4,h5⟩
   cases hs
   injection hs with _ hs;exact .inl hs
   injection hs with e1 e2
   subst e1
   exact .inr ⟨u0,k0,e2,h2,h3,h4,h5⟩
  refine⟨rfl,fun e=>(nomatch e),T,r,h,⟨hi.rt,fun t' l' e=>?_,hi.tasks,hi.noe,?_⟩,Nat.le_refl _,fun _=>?_,fun hp=>hp,Nat.le_refl _,fun hw _=>?_,fun y hy=>hy⟩
  injection e with e1 e2
  subst e1
  exact h7
  rcases hsp with rfl|⟨u,k,rfl,q⟩
  exact .inr (.inl ⟨_,rfl⟩)
  exact .inr (.inr ⟨_,u,k,rfl,q⟩)
  rw[mz,mz,if_neg (by simp),if_neg (by simp)]
  show r+61*(l.length+1-1)+63*fz T ⟨root,pos,leaf,(te,tl,tk)::l,fro,to,spl⟩ <r+1+61*(l.length+1-1)+63*fz T ⟨root,pos,leaf,(te,tl,tk)::l,fro,to,spl⟩
  omega
  rcases hw with ⟨l',q1,q2,q3,q4⟩|⟨q1,q2,q3⟩
  exact .inl ⟨l',q1,q2,q3,q4⟩
  exact .inr ⟨q1,q2,q3⟩
end
section
open Go.RowKit
section
variable{ps ps':List PgS}{T2:List (List AbN)}{pre suf u v:List AbN}{a b m:AbN}{A B:List Kv}
theorem FY(h:Tr ps ((pre++a::b::suf)::(u++m::v)::T2) 0)(hm:m.es=A++(a.low,a.pg)::(b.low,b.pg)::B){s:TaT}(hs:gZ ((pre++a::b::suf)::(u++m::v)::T2) s)(hn:NoE ((pre++a::b::suf)::(u++m::v)::T2) s):gZ (unT pre suf u v a b m A B T2) s:=by
 refine⟨hs.1,?_⟩
 rcases hs.2 with h0|⟨j,below,mm,h1,h2,h3,h4,h5,h6⟩
 exact .inl h0
 have hne:mm.pg≠a.pg:=by
  by_cases e:j=0
  subst e
  have:=hn (by omega) m (by show m∈u++m::v;simp) (a.low,a.pg) (by rw[hm];simp)
  exact fun e=>this (by show a.pg=s.2.2;rw[<-h5];exact e.symm)
  exact h.other (j:=0) (m:=pre++a::b::suf) h3 rfl e h4 (by simp)
 obtain⟨l',c',g1,g2,g3,g4⟩:=Ep (A:=A) (B:=B) h3 h4 hne
 refine .inr ⟨j,l',c',h1,h2,g1,g2,g3.trans h5,?_⟩
 rcases g4 with g4|⟨rfl,rfl,_⟩
 exact g4.trans h6
 exfalso
 have:=hn (by omega) m (by show m∈u++m::v;simp) (mm.low,mm.pg) (by rw[hm];simp)
 exact this h5
theorem Iq(hm:m.es=A++(a.low,a.pg)::(b.low,b.pg)::B){s:TaT}(hn:NoE ((pre++a::b::suf)::(u++m::v)::T2) s):NoE (unT pre suf u v a b m A B T2) s:=fun h1 c hc e he=>by
 have hn:=hn h1
 have hc:c∈u++⟨m.pg,m.low,A++(a.low,b.pg)::B⟩::v:=hc
 rcases List.mem_append.1 hc with hc|hc
 exact hn c (by show c∈u++m::v;simp[hc]) e he
 rcases List.mem_cons.1 hc with rfl|hc
 have hn:=hn m (by show m∈u++m::v;simp)
 rw[hm] at hn
 rcases List.mem_append.1 he with he|he
 exact hn e (by simp[he])
 rcases List.mem_cons.1 he with rfl|he
 exact hn (b.low,b.pg) (by simp)
 exact hn e (by simp[he])
 exact hn c (by show c∈u++m::v;simp[hc]) e he
theorem Hx(ha:a.es=[])(hm:m.es=A++(a.low,a.pg)::(b.low,b.pg)::B){k:Nat}{x:ByteArray}(h:TgS ((pre++a::b::suf)::(u++m::v)::T2) k x):TgS (unT pre suf u v a b m A B T2) k x:=fun pre' s' c hc hge hlt=>by
 match k with
 |0=>
  injection hc with hc
  rcases nJ hc with ⟨rfl,rfl,rfl⟩|⟨q,h6,h7⟩|⟨q,h6,h7⟩
  have hge:ag x a.low=false:=hge
  cases hb:ag x b.low with
  |true=>
   have:=h pre' (b::s') a rfl hge (fun c s e=>by injection e with e1 e2;rw[<-e1];exact hb)
   rw[ha] at this
   simp at this
  |false=>exact h (pre'++[a]) s' b (by simp) hb hlt
  exact h (pre++a::b::q) s' c (by rw[h7];simp) hge hlt
  refine h pre' (q++a::b::suf) c (by rw[h6];simp) hge fun d s e=>?_
  cases q with
  |nil=>
   injection e with e1 e2
   rw[<-e1]
   exact hlt ⟨b.pg,a.low,b.es⟩ suf (by rw[h7];rfl)
  |cons y q=>
   injection e with e1 e2
   rw[<-e1]
   exact hlt _ _ h7
 |1=>
  injection hc with hc
  rcases nJ hc with ⟨rfl,rfl,rfl⟩|⟨q,h6,h7⟩|⟨q,h6,h7⟩
  have:=h pre' s' m rfl hge hlt
  rw[hm] at this
  simp only[List.length_append,List.length_cons] at this |-
  omega
  exact h (u++m::q) s' c (by rw[h7];simp) hge hlt
  refine h pre' (q++m::v) c (by rw[h6];simp) hge fun d s e=>?_
  cases q with
  |nil=>
   injection e with e1 e2
   rw[<-e1]
   exact hlt ⟨m.pg,m.low,A++(a.low,b.pg)::B⟩ v (by rw[h7];rfl)
  |cons y q=>
   injection e with e1 e2
   rw[<-e1]
   exact hlt _ _ h7
 |k+2=>exact h pre' s' c hc hge hlt
theorem Gj(h:Tr ps ((pre++a::b::suf)::(u++m::v)::T2) 0)(hm:m.es=A++(a.low,a.pg)::(b.low,b.pg)::B):cV (unT pre suf u v a b m A B T2)<=cV ((pre++a::b::suf)::(u++m::v)::T2):=by
 cases T2 with
 |nil=>
  have hL:=(h.level (k:=1) rfl).2.nd m (by simp)
  have h8:=hL.len
  rw[hm] at h8
  simp only[List.length_append,List.length_cons] at h8
  obtain⟨r,hr1,hr2⟩:=h.top
  have hr1:some (u++m::v)=some [r]:=hr1
  injection hr1 with hr1
  cases u with
  |nil=>
   injection hr1 with h1 h2
   subst h1 h2
   have e:cV (unT pre suf [] [] a b m A B [])=if (A++(a.low,b.pg)::B).length=8 then 2 else 0:=rfl
   rw[e,if_neg (by simp only[List.length_append,List.length_cons];omega)]
   exact Nat.zero_le _
  |cons x u=>exact absurd (congrArg List.length hr1) (by simp)
 |cons t T3=>rw[cV,cV,unT,List.getLast?_cons_cons,List.getLast?_cons_cons,List.getLast?_cons_cons,List.getLast?_cons_cons];exact Nat.le_refl _
theorem HI(ha:a.es=[]):lfs (unT pre suf u v a b m A B T2)=lfs ((pre++a::b::suf)::(u++m::v)::T2):=by
 show (pre++⟨b.pg,a.low,b.es⟩::suf).flatMap AbN.es=(pre++a::b::suf).flatMap AbN.es
 rw[List.flatMap_append,List.flatMap_append,List.flatMap_cons,List.flatMap_cons,List.flatMap_cons,ha];rfl
end
theorem IC{ps:List PgS}{T:List (List AbN)}{nx:Int}{p:PuT}{r:Nat}(h:GU ps T nx)(hi:InU ps T nx r p):dN ps 0=([],-1,-1)\/(0<=(dN ps 0).2.1/\∃T',GU (doB ps (dN ps 0).1) T' nx/\InU (doB ps (dN ps 0).1) T' nx r p/\fz T' p<=fz T p/\
  (∀{r pos x tl},c7 ps T nx r pos x tl->c7 (doB ps (dN ps 0).1) T' nx r pos x tl)/\(lvA T' 0).length+1<=(lvA T 0).length/\lfs T'=lfs T):=by
 rcases h.tr.unl_cases (by rw[h.len];omega) with h1|⟨pre,suf,u,v,a,b,m,A,B,T2,rfl,ha,_,hm,hu⟩
 exact .inl h1
 right
 obtain⟨ps',e,htr,hdead,hoth⟩:=h.tr.unl (by rw[h.len];omega) h.its hm
 have hap:=h.tr.pg_lt (b4 (T:=(pre++a::b::suf)::(u++m::v)::T2) (k:=0) (l:=pre++a::b::suf) rfl (a:=a) (by simp))
 rw[hu]
 dsimp only
 rw[<-e]
 have hP:∀{r pos x tl},c7 ps ((pre++a::b::suf)::(u++m::v)::T2) nx r pos x tl->c7 ps' (unT pre suf u v a b m A B T2) nx r pos x tl:=fun hp=>Hd h.tr htr hdead hoth h.pg hp
 refine⟨hap.1,unT pre suf u v a b m A B T2,⟨htr,by rw[e];exact mv h.its,by rw[e,b5];exact h.len,fun q hq=>h.pg q (AB hq)⟩,⟨hi.rt,fun t l hl=>hP (hi.pos t l hl),fun t ht=>FY h.tr hm (hi.tasks t ht) (hi.noe t ht),fun t ht=>Iq hm (hi.noe t ht),?_⟩,?_,hP,?_,HI ha⟩
 rcases hi.shp with hs|hs|⟨t,w,k,h1,h2,h3,h4,h5⟩
 exact .inl hs
 exact .inr (.inl hs)
 exact .inr (.inr ⟨t,w,k,h1,h2,h3,h4,Hx ha hm h5⟩)
 have:=Gj h.tr hm
 cases hl:p.left with
 |nil=>rw[nI hl,nI hl];exact Nat.le_refl _
 |cons t l=>
  rw[d8 hl,d8 hl]
  have e2:(unT pre suf u v a b m A B T2).length=((pre++a::b::suf)::(u++m::v)::T2).length:=rfl
  rw[e2];omega
 show (pre++⟨b.pg,a.low,b.es⟩::suf).length+1<=(pre++a::b::suf).length
 simp only[List.length_append,List.length_cons];omega
end
section
open Go.RowKit
theorem Aa{x:ByteArray}{k:ByteArray}{p s:Int}(h:x=bu k p s)(hp:0<=p/\p<65536)(hs:0<=s/\s<65536):qkF x=k/\opF x=p/\osF x=s/\bu (qkF x) (opF x) (osF x)=x:=by
 have hz:¬(bu k p s).size<4:=by rw[dG];omega
 have h1:qkF x=k:=by rw[h,qkF,if_neg hz,FX]
 have h2:opF x=p:=by rw[h,opF,if_neg hz,mr];omega
 have h3:osF x=s:=by rw[h,osF,if_neg hz,sD];omega
 exact⟨h1,h2,h3,by rw[h1,h2,h3,h]⟩
theorem rx{ps:List PgS}{x:ByteArray}(hok:OkS ps):∀(k:Nat) (w:WkT),∃(pg:Int) (es:List EnD),es.length<=100000/\(rmG ps x k w).1=aA pg es
 |0,w=>⟨0,[],by simp,rfl⟩
 |k+1,w=>by
  obtain⟨pos,st,fm,fin⟩:=w
  rcases hR:wkN ps ⟨pos,st,fm,fin⟩ with ⟨w1,_|_|nd⟩
  exact⟨0,[],by simp,by rw[AR hR];rfl⟩
  rw[y1 hR];exact rx hok k w1
  have hN:=(e8 hok (AY hR)).len
  exact⟨pos,b9 x nd.es,Nat.le_trans (List.length_filter_le _ _) (by omega),by rw[y0 hR]⟩
theorem KV{ps:List PgS}(hok:OkS ps)(root:Int)(x:ByteArray)(M:Nat):EdM M (rmF ps root x).1:=by
 obtain⟨pg,es,_,h⟩:=rx (x:=x) hok 1000 ⟨root,0,x,false⟩
 rw[rmF,h];exact nS _ _ _
theorem Ik{ps:List PgS}(hok:OkS ps)(root:Int)(x:ByteArray):(rmF ps root x).1.length<=100000:=by
 obtain⟨pg,es,h1,h⟩:=rx (x:=x) hok 1000 ⟨root,0,x,false⟩
 rw[rmF,h,mX];exact h1
theorem KZ{ps:List PgS}(hok:OkS ps)(hc:C8 ps)(root:Int)(x:ByteArray):C8 (doB ps (rmF ps root x).1):=by
 obtain⟨pg,es,_,h⟩:=rx (x:=x) hok 1000 ⟨root,0,x,false⟩
 rw[rmF,h];exact fun i=>Nat.le_trans (gw (ld pg es i)) (hc i)
theorem we(x:Int)(n:Nat)(w:World)(hn0:0<n)(hn9:n<=100000):
  Calls Try.prog 14 #[.int .i64 x,.int .i64 ((n:Int))] w (Ret (.int .i64 ((x.tmod (n:Int)+(n:Int)).tmod (n:Int))) w):=by
 have h1_:=Int.lt_tmod_of_pos x (b:=(n:Int)) (by omega)
 have h2_:=Int.tmod_lt_of_pos x (b:=(n:Int)) (by omega)
 go_enter Try.func14,Try.ntmps14
 have aq:=St.start w
 refine wp_seq (sqr (sqp [.k 4 (vi 0)] ?_))
 refine aa (wp_seq (sqr (sqp [.m 5 0,.m 6 1] ?_)))
 refine sql (vi ((x.tmod (n:Int)))) aq (fun cx=>sO rfl (cx.ou 5) (cx.ou 6) (by omega) (rfl)) ?_
 refine sqp [.m 8 1,sI 9 ((x.tmod (n:Int))+(n:Int)) (by omega),.m 10 1] ?_
 refine sql (vi ((((x.tmod (n:Int))+(n:Int)).tmod (n:Int)))) aq (fun cx=>sO rfl (cx.ou 9) (cx.ou 10) (by omega) (rfl)) ?_
 refine sqp [.m 4 11] ?_
 refine aa (wp_ret ?_)
 refine bpr (vi ((((x.tmod (n:Int))+(n:Int)).tmod (n:Int)))) (ak Try.results14 rpt) ?_
 exact Ret.of rfl aq.ext
end
section
open Go.RowKit
def BzE(x:ByteArray):Prop:=∃(k:ByteArray) (p s:Int),x=bu k p s/\k.size<=2/\(0<=p/\p<65536)/\(0<=s/\s<65536)
theorem BzE.parts{x:ByteArray}(h:BzE x):bu (qkF x) (opF x) (osF x)=x/\(qkF x).size<=1000/\4<=x.size/\x.size<=1000:=by
 obtain⟨k,p,s,h1,h2,h3,h4⟩:=h
 obtain⟨e1,_,_,e4⟩:=Aa h1 h3 h4
 have h5:=dG k p s
 rw[<-h1] at h5
 exact⟨e4,by rw[e1];omega,by omega,by omega⟩
theorem yB{l:List Int}(hl:l.length<=90):∀y∈fZ l l.length,BzE y.1:=fun y hy=>by
 obtain⟨j,hj,rfl⟩:=List.mem_map.1 hy
 have hj:=List.mem_range.1 hj
 exact⟨_,_,_,rfl,gx _,by omega,by omega⟩
end
section
open Go.RowKit
theorem Df{l m:List ByteArray}(h:l.Nodup)(hs:∀x∈l,x∈m):l.length<=m.length:=by
 classical
 exact @sx ByteArray (fun a b=>Classical.propDecidable _) l m h hs
end
section
open Go.RowKit
theorem yO{ps:List PgS}{T:List (List AbN)}{nx:Int}(h:GU ps T nx){M:Nat}(hb:BdM M ps)(hc:C8 ps):EdM (M+10) (dN ps 0).1/\C8 (doB ps (dN ps 0).1)/\(dN ps 0).1.length<=4:=by
 rcases h.tr.unl_cases (by rw[h.len];omega) with h1|⟨pre,suf,u,v,a,b,m,A,B,T2,rfl,ha,_,hm,hu⟩
 rw[h1];exact⟨fun e he=>(nomatch he),hc,Nat.zero_le _⟩
 obtain⟨ps',e,htr,_,_⟩:=h.tr.unl (by rw[h.len];omega) h.its hm
 rw[hu]
 dsimp only
 obtain⟨na,a1,a2,a3,a4,a5,a6⟩:=h.tr.node (k:=0) (pre:=pre) (suf:=b::suf) (a:=a) rfl
 obtain⟨nm,m1,m2,m3,m4,m5,m6⟩:=h.tr.node (k:=1) (pre:=u) (suf:=v) (a:=m) rfl
 have ea:ndP ps a=(a.pg,na):=by rw[ndP,dh a1]
 have em:ndP ps m=(m.pg,nm):=by rw[ndP,dh m1]
 have zm:=uB hb m1
 have za:=uB hb a1
 have zah:∀c,ahd none (pre.map (ndP ps))=some c->c.2.high.size<=M:=fun c hcc=>by
  rcases mI pre with rfl|⟨p0,x,rfl⟩
  cases hcc
  rw[List.map_append,ahd] at hcc
  simp at hcc
  subst hcc
  obtain⟨nx,x1,_⟩:=h.tr.node (k:=0) (pre:=p0) (suf:=a::b::suf) (a:=x) (by simp)
  rw[ndP,dh x1]
  exact(uB hb x1).1
 have zk:(nm.es.getD A.length en0).1.size<=M:=by
  by_cases hl:A.length<nm.es.length
  exact zm.2 _ (by rw[List.getD_eq_getElem?_getD,List.getElem?_eq_getElem hl];exact List.getElem_mem hl)
  rw[List.getD_eq_getElem?_getD,List.getElem?_eq_none (by omega)];exact Nat.zero_le _
 have mem:∀y∈unE (ahd none (pre.map (ndP ps))) (ndP ps a) (ndP ps m) A.length,y.2.2.size<=M+10/\((y.1=m.pg)\/y.2.1=0):=fun y hy=>by
  rw[ea,em] at hy
  unfold unE at hy
  dsimp only at hy
  have i1:=m7 nm.lv na.right (nm.es.getD A.length en0).1
  have i2:=fB na.lv na.right true na.high
  rcases List.mem_append.1 hy with hy|hy
  rcases List.mem_append.1 hy with hy|hy
  rcases List.mem_cons.1 hy with rfl|hy
  exact⟨by show (itB _ _ _).size<= _;omega,.inl rfl⟩
  rw[List.mem_singleton.1 hy]
  exact⟨Nat.zero_le _,.inl rfl⟩
  cases hh:ahd none (pre.map (ndP ps)) with
  |none=>rw[hh] at hy;cases hy
  |some c=>
   rw[hh] at hy
   rw[List.mem_singleton.1 hy]
   have:=zah c hh
   have i3:=fB c.2.lv na.right c.2.dead c.2.high
   exact⟨by show (hdB _ _ _ _).size<= _;omega,.inr rfl⟩
  rw[List.mem_singleton.1 hy]
  exact⟨by show (hdB _ _ _ _).size<= _;omega,.inr rfl⟩
 refine⟨fun y hy=>(mem y hy).1,fun i=>?_,?_⟩
 by_cases hi:m.pg=(i:Int)
 obtain⟨n',g1,_,_,_,_,g6⟩:=htr.node (k:=1) (pre:=u) (suf:=v) (a:=⟨m.pg,m.low,A++(a.low,b.pg)::B⟩) rfl
 have g1:ao ps' m.pg=some n':=g1
 obtain⟨_,_,g3,_⟩:=oe g1
 rw[hi,Int.toNat_natCast,e] at g3
 rw[<-g3]
 have hL:=((htr.level (k:=1) rfl).2.nd ⟨m.pg,m.low,A++(a.low,b.pg)::B⟩ (by simp)).len
 have g7:=congrArg List.length g6
 rw[List.length_map] at g7
 have hL:(A++(a.low,b.pg)::B).length<=8:=hL
 have g7:n'.es.length=(A++(a.low,b.pg)::B).length:=g7
 omega
 refine Nat.le_trans (gw fun y hy hh=>?_) (hc i)
 rcases(mem y hy).2 with h3|h3
 exact hi (h3.symm.trans hh.1)
 omega
 unfold unE
 cases ahd none (pre.map (ndP ps))<;>simp
def RmS(E0:List Kv)(fr i:Nat)(ps:List PgS):Prop:=∃T,GU ps T 56/\(T.length<=3/\(T.length=3->cV T=0))/\lfs T=E0.take fr++E0.drop i/\E0.Pairwise (fun x y=>ag x.1 y.1=true)/\∀y∈E0,4<=y.1.size
theorem BB{l:List Int}(hl:l.length<=80){fr:Nat}:RmS ((cN (fO l) 0).map kv) fr fr (fO l)/\((cN (fO l) 0).map kv).Perm (fZ l l.length):=by
 obtain⟨T,nx,h1,h2⟩:=CU l
 rw[show min l.length 90=l.length by omega] at h2
 have hall:=h1.tr.all (by rw[h1.len];omega)
 have hlen:(lfs T).length<=80:=by rw[h2.length_eq,vR];exact hl
 have hpg:=h1.pages hlen (by omega)
 have e80:PM 80=26:=rfl
 have hc:=h1.cnt
 rw[hall]
 have hL0:∃l0,T[0]? =some l0:=by
  cases T with
  |nil=>obtain⟨r,hr,_⟩:=h1.tr.top;cases hr
  |cons l0 T=>exact⟨l0,rfl⟩
 obtain⟨l0,hl0⟩:=hL0
 have hris:(lfs T).Pairwise (fun x y=>ag x.1 y.1=true):=by rw[lfs,b8 hl0];exact(h1.tr.level hl0).2.rises
 refine⟨⟨T,⟨h1.tr,h1.its,h1.len,fun q hq=>by have:=h1.pg q hq;omega⟩,⟨hpg.2,fun h3=>?_⟩,by rw[List.take_append_drop],hris,fun y hy=>?_⟩,h2⟩
 have htr:=h1.tr
 have ho:=h1.occ
 obtain⟨T0,r,e,_,_,hr⟩:=htr.root
 match T,h3,e,htr,ho,hr,hlen with
 | [l0,l1,l2],_,e,htr,ho,hr,hlen=>
   have h0:T0.length=2:=by have:=congrArg List.length e;simp at this;omega
   rw[h0] at hr
   have hl2:l2=[r]:=by injection hr with hr
   subst hl2
   have q1:=(htr.inn 1 _ _ rfl rfl).le (htr.level (k:=2) rfl).2
   have q2:=mW (ho.four 1 _ rfl (by simp))
   have q3:=(htr.inn 0 _ _ rfl rfl).le (htr.level (k:=1) rfl).2
   have q4:=mW (ho.four 0 _ rfl (by simp))
   have q5:dM l0<=80:=by rw[<-p9];exact hlen
   have q6:dM [r]=r.es.length:=by simp[dM]
   show (if r.es.length=8 then 2 else 0)=0
   rw[if_neg (by omega)]
 obtain⟨j,hj,rfl⟩:=List.mem_map.1 (h2.mem_iff.1 hy)
 show 4<=(jb l j).size
 rw[jb,dG];omega
theorem Fw{E0:List Kv}(hr:E0.Pairwise (fun x y=>ag x.1 y.1=true)){fr i:Nat}(hfi:fr<=i)(hi:i<E0.length):fV E0[i].1 (E0.take fr++E0.drop i)=E0.take fr++E0.drop (i+1):=by
 have hne:∀{x y:ByteArray},ag x y=true->x≠y:=fun h e=>by rw[e,eR] at h;cases h
 have hpw:=List.pairwise_iff_getElem.1 hr
 rw[List.drop_eq_getElem_cons hi,fV,List.filter_append,List.filter_cons]
 rw[if_neg (by simp)]
 congr 1
 refine vY fun e he=>?_
 obtain⟨j,hj,rfl⟩:=List.mem_iff_getElem.1 he
 rw[List.length_take] at hj
 rw[List.getElem_take]
 exact hne (hpw j i (by omega) hi (by omega))
 refine vY fun e he=>?_
 obtain⟨j,hj,rfl⟩:=List.mem_iff_getElem.1 he
 rw[List.length_drop] at hj
 rw[List.getElem_drop]
 exact(hne (hpw i (i+1+j) hi (by omega) (by omega))).symm
theorem It{E0:List Kv}{fr i:Nat}{ps:List PgS}(h:RmS E0 fr i ps)(hfi:fr<=i)(hi:i<E0.length):(rmF ps 0 E0[i].1).2=true/\RmS E0 fr (i+1) (doB ps (rmF ps 0 E0[i].1).1):=by
 obtain⟨T,h1,h2,h3,h4,h5⟩:=h
 obtain⟨T',g1,g2,g3,_,g5,g6,g7⟩:=h1.tr.rm (x:=E0[i].1) (h5 _ (List.getElem_mem hi)) (by rw[h1.len];omega) h1.its
 refine⟨g3.2 ⟨E0[i],?_,rfl⟩,T',⟨g1,mv h1.its,by rw[b5];exact h1.len,fun q hq=>h1.pg q (by rw[<-g5];exact hq)⟩,⟨by rw[g6];exact h2.1,fun h3'=>?_⟩,by rw[g2,h3,Fw h4 hfi hi],h4,h5⟩
 rw[h3];exact List.mem_append_right _ (by rw[List.drop_eq_getElem_cons hi];exact List.mem_cons_self ..)
 have h9:=h2.2 (by rw[<-g6];exact h3')
 rw[cV,List.getLast?_eq_getElem?,h3',g7 _ (by omega)]
 rw[cV,List.getLast?_eq_getElem?,<-g6,h3'] at h9
 exact h9
theorem Hk{E0:List Kv}{fr i:Nat}{ps:List PgS}(h:RmS E0 fr i ps):ps.length=60/\∀q∈ps,q.2.2.length<=101:=by
 obtain⟨T,h1,_⟩:=h
 exact⟨h1.len,h1.its⟩
def uc0(i:Nat):Nat:=(i-200+1) / 3
def uc1(i:Nat):Nat:=(i-200) / 3
def uc2(i:Nat):Nat:=(i-200+2) / 3
def UnS(E:List Kv)(x:ByteArray)(i:Nat)(ps:List PgS)(nx:Int)(p:PuT)(w:WkT)(mo:Bool)(told:List ByteArray):Prop:=∃T r rw,GU ps T nx/\0<=nx/\InU ps T nx r p/\nx+(fz T p:Int)<=59/\Way E x T p/\(p.left=[]\/mz T p r+uc1 i<=249)/\
 ((p.left=[]/\dN ps 0=([],-1,-1))\/(lvA T 0).length+fz T p+uc2 i<=313)/\(lvA T 0).length+fz T p<=63/\Wu E ay ps T nx rw w told/\(∀t∈told,∃v,(t,v)∈lfs T)/\(0<=w.st/\w.st<=(i:Int))/\(w.fin=true\/w.st+(rw:Int)+(fz T p:Int)<=66)/\(mo=false->w.fin=true)/\(mo=false\/rw+fz T p+1+uc0 i<=67)
structure UnE (E:List Kv) (x:ByteArray):Prop where
 far:∀y∈E,y.1≠x
 ent:∀y∈E,BzE y.1
 xe:BzE x
theorem Way.sub{E:List Kv}{x:ByteArray}{T:List (List AbN)}{p:PuT}(h:Way E x T p):(∀y∈E,y∈lfs T)/\∀y∈lfs T,y∈E\/y=(x,-1):=by
 rcases h with ⟨_,_,_,h,_⟩|⟨_,h,_⟩
 exact⟨fun y hy=>h.mem_iff.2 hy,fun y hy=> .inl (h.mem_iff.1 hy)⟩
 exact⟨fun y hy=>h.mem_iff.2 (List.mem_cons_of_mem _ hy),fun y hy=>(List.mem_cons.1 (h.mem_iff.1 hy)).symm⟩
theorem DK{E0:List Kv}{fr i:Nat}{ps:List PgS}(h:RmS E0 fr i ps){k:ByteArray}{g s:Int}:UnS (E0.take fr++E0.drop i) (bu k g s) 0 ps 56 (dD 0 k g s) ⟨0,0,ay,false⟩ true []:=by
 obtain⟨T,h1,h2,h3,h4,h5⟩:=h
 have htask:gZ T (bu k g s,0,0):=⟨by show 4<=(bu _ _ _).size;rw[dG];omega,.inl rfl⟩
 have hb:=h1.tr.bd
 rw[h1.len] at hb
 have hrk:∀q,rkF T q<=60:=fun q=>Nat.le_trans (uz _ _) hb.1
 have hfz:fz T (dD 0 k g s)<=3:=by
  rw[d8 (p:=dD 0 k g s) (t:=(bu k g s,0,0)) (l:=[]) rfl]
  have hr2:cV T<=2:=by unfold cV;split;split<;>omega;omega
  show T.length-1-0-0+cV T<=3
  by_cases e3:T.length=3
  rw[h2.2 e3];omega
  have:=h2.1;omega
 have hlv:(lvA T 0).length<=60:=by
  refine Nat.le_trans ?_ hb.1
  cases T with
  |nil=>exact Nat.zero_le _
  |cons a t=>show a.length<=(aT (a::t)).length;simp[aT]
 have hw:=Wz.start (E:=E0.take fr++E0.drop i) (s0:=ay) h1.tr (by rw[fR];omega)
 refine⟨T,60,60,h1,by omega,⟨rfl,fun t l' e=>?_,fun t ht=>?_,fun t ht=>?_,.inr (.inl ⟨_,rfl⟩)⟩,by omega,.inl ⟨[],rfl,(fun t ht=>nomatch ht),List.Perm.of_eq h3,rfl⟩,.inr ?_,.inr ?_,by omega,⟨hw.sz,fun hf=>c7.live h1.tr.dist (hw.pos hf) (hrk _),hw.st0,hw.srt,hw.ge,hw.lt,hw.all⟩,(fun t ht=>nomatch ht),⟨Int.le_refl _,Int.le_refl _⟩,.inr ?_,(fun h=>nomatch h),.inr ?_⟩
 injection e with e1 e2
 subst e1
 exact c7.live h1.tr.dist (pK h1.tr htask) (hrk _)
 rw[List.mem_singleton.1 ht];exact htask
 rw[List.mem_singleton.1 ht];exact fun e=>by cases e
 rw[mz,if_neg (by simp[dD])]
 show 60+61*0+63*fz T (dD 0 k g s)+0<=249
 omega
 show (lvA T 0).length+fz T (dD 0 k g s)+0<=313
 omega
 show (0:Int)+((60:Nat):Int)+ _<=66
 omega
 show 60+fz T (dD 0 k g s)+1+0<=67
 omega
theorem vE{E:List Kv}{x:ByteArray}{i:Nat}{ps:List PgS}{nx:Int}{p:PuT}{w:WkT}{mo:Bool}{told:List ByteArray}(h:UnS E x i ps nx p w mo told):du ps 0=0/\ps.length=60/\(0<=w.st/\w.st<=(i:Int))/\(0<=nx/\nx<=59)/\p.root=0:=by
 obtain⟨T,r,rw,h1,h2,h3,h4,_,_,_,_,_,_,h5,_⟩:=h
 exact⟨h1.tr.check (by rw[h1.len];omega),h1.len,h5,by omega,h3.rt⟩
theorem FV{E:List Kv}{x:ByteArray}{i:Nat}{ps:List PgS}{nx:Int}{p:PuT}{w w1:WkT}{mo:Bool}{told:List ByteArray}{r:WkR}(h:UnS E x i ps nx p w mo told)(hE:UnE E x)(hs:i<200\/i % 3=0)(hR:wkN ps w=(w1,r)):match r with
  | .off=>UnS E x (i+1) ps nx p w1 false told
  | .on=>UnS E x (i+1) ps nx p w1 true told
  | .at n=>UnS E x (i+1) ps nx p (wkL w1 n) true (told++(aM w1.fm n.es).map fun e=>e.1):=by
 obtain⟨T,q,rw,h1,h2,h3,h4,h5,h6,h7,h8,h9,h10,h11,h12,h13,h14⟩:=h
 have h6':p.left=[]\/mz T p q+uc1 (i+1)<=249:=h6.imp id fun h=>by unfold uc1 at h |-;omega
 have h7':(p.left=[]/\dN ps 0=([],-1,-1))\/(lvA T 0).length+fz T p+uc2 (i+1)<=313:=h7.imp id fun h=>by unfold uc2 at h |-;omega
 have hc0:uc0 (i+1)<=uc0 i+1:=by unfold uc0;omega
 cases hf:w.fin with
 |true=>
  rw[GG hf] at hR
  injection hR with e1 e2
  subst e1 e2
  exact⟨T,q,rw,h1,h2,h3,h4,h5,h6',h7',h8,⟨h9.sz,(fun e=>nomatch e),h9.st0,h9.srt,h9.ge,(fun e=>nomatch e),fun y hy h10 _=>h9.all y hy h10 (.inl hf)⟩,h10,⟨by show 0<=w.st+1;omega,by show w.st+1<=((i+1:Nat):Int);omega⟩,.inl rfl,fun _=>rfl,.inl rfl⟩
 |false=>
  have h12:=h12.resolve_left (by rw[hf];decide)
  have h14:=h14.resolve_left (fun e=>by rw[h13 e] at hf;cases hf)
  have hE4:∀y∈E,4<=y.1.size:=fun y hy=>(hE.ent y hy).parts.2.2.1
  obtain⟨r0,rfl,aL⟩:=FB h1.tr h5.sub.1 hE4 (by rw[fR];omega) h9 hf (by omega)
  rcases aL with ⟨w2,g1,g2,g3,g4⟩|⟨w2,n,g1,g2,g3,g4,g5,g6⟩
  rw[g1] at hR
  injection hR with e1 e2
  subst e1 e2
  exact⟨T,q,r0,h1,h2,h3,h4,h5,h6',h7',h8,g2,h10,by omega,.inr (by omega),(fun e=>nomatch e),.inr (by omega)⟩
  rw[g1] at hR
  injection hR with e1 e2
  subst e1 e2
  have aL:(wkL w2 n).st=w2.st:=rfl
  refine⟨T,q,r0,h1,h2,h3,h4,h5,h6',h7',h8,g4,fun t ht=>?_,by rw[aL];omega,.inr (by rw[aL];omega),(fun e=>nomatch e),.inr (by omega)⟩
  rcases List.mem_append.1 ht with ht|ht
  exact h10 t ht
  obtain⟨e,he,rfl⟩:=List.mem_map.1 ht
  exact⟨_,g5 e (kt.1 he).1⟩
theorem Hn{E:List Kv}{x:ByteArray}{i:Nat}{ps:List PgS}{nx:Int}{p:PuT}{w:WkT}{mo:Bool}{told:List ByteArray}(h:UnS E x i ps nx p w mo told)(hE:UnE E x)(hs:i<200\/i % 3=1){R:PuT×GoT}(hR:aU ps p nx=R):
  R.2.err=0/\UnS E x (i+1) (doB ps R.2.eds) (if R.2.used then nx+1 else nx) R.1 w mo told:=by
 obtain⟨T,q,rw,h1,h2,h3,h4,h5,h6,h7,h8,h9,h10,h11,h12,h13,h14⟩:=h
 obtain⟨g1,g2,T',q',g3,g4,g5,g6,g7,g8,g9,g10⟩:=HM h1 h3 h2 h4 hR
 have hc1:uc1 (i+1)<=uc1 i+1:=by unfold uc1;omega
 have hc2:uc2 (i+1)=uc2 i:=by unfold uc2;omega
 have hc0:uc0 (i+1)=uc0 i:=by unfold uc0;omega
 have hnx:0<=(if R.2.used then nx+1 else nx)/\(if R.2.used then nx+1 else nx)+(fz T' R.1:Int)<=59:=by
  cases hu:R.2.used with
  |true=>rw[hu] at g5;simp only[if_true] at g5 |-;omega
  |false=>rw[hu] at g5;simp only[Bool.false_eq_true,if_false] at g5 |-;omega
 obtain⟨us,hus⟩:∃z,(if R.2.used then 1 else 0)=z:=⟨_,rfl⟩
 rw[hus] at g5 g8
 have g7':∀{r pos x tl},c7 ps T nx r pos x tl->c7 (doB ps R.2.eds) T' (if R.2.used then nx+1 else nx) (r+us) pos x tl:=fun h=>by rw[<-hus];exact g7 h
 refine⟨g1,T',q',rw+us,g3,hnx.1,g4,hnx.2,g9 h5 hE.far,?_,?_,by omega,⟨h9.sz,fun hf=>g7' (h9.pos hf),h9.st0,h9.srt,h9.ge,h9.lt,h9.all⟩,fun t ht=>?_,⟨h11.1,by omega⟩,h12.imp id fun h=>by omega,h13,h14.imp id fun h=>by omega⟩
 by_cases hl:p.left=[]
 exact .inl (g2 hl).1
 have g6:=g6 hl
 rcases h6 with h6|h6
 exact absurd h6 hl
 exact .inr (by omega)
 rcases h7 with ⟨e1,e2⟩|h7
 refine .inl ⟨(g2 e1).1,?_⟩
 rw[(g2 e1).2];exact e2
 exact .inr (by omega)
 obtain⟨v,hv⟩:=h10 t ht
 exact⟨v,g10 _ hv⟩
theorem Hh{E:List Kv}{x:ByteArray}{i:Nat}{ps:List PgS}{nx:Int}{p:PuT}{w:WkT}{mo:Bool}{told:List ByteArray}(h:UnS E x i ps nx p w mo told)(hs:i<200\/i % 3=2):UnS E x (i+1) (doB ps (dN ps 0).1) nx p w mo told:=by
 obtain⟨T,q,rw,h1,h2,h3,h4,h5,h6,h7,h8,h9,h10,h11,h12,h13,h14⟩:=h
 have hc1:uc1 (i+1)=uc1 i:=by unfold uc1;omega
 have hc2:uc2 (i+1)<=uc2 i+1:=by unfold uc2;omega
 have hc3:uc2 (i+1)<=uc1 i+1:=by unfold uc2 uc1;omega
 have hc0:uc0 (i+1)=uc0 i:=by unfold uc0;omega
 rcases IC h1 h3 with e|⟨g0,T',g1,g2,g3,g4,g5,g6⟩
 rw[e]
 refine⟨T,q,rw,h1,h2,h3,h4,h5,by rw[hc1];exact h6,?_,h8,h9,h10,⟨h11.1,by omega⟩,h12,h13,by rw[hc0];exact h14⟩
 by_cases hl:p.left=[]
 exact .inl ⟨hl,e⟩
 rcases h6 with h6|h6
 exact absurd h6 hl
 exact .inr (by omega)
 refine⟨T',q,rw,g1,h2,g2,by omega,?_,?_,?_,by omega,⟨h9.sz,fun hf=>g4 (h9.pos hf),h9.st0,h9.srt,h9.ge,h9.lt,h9.all⟩,by rw[g6];exact h10,⟨h11.1,by omega⟩,h12.imp id fun h=>by omega,h13,h14.imp id fun h=>by omega⟩
 rcases h5 with ⟨l,q1,q2,q3,q4⟩|⟨q1,q2,q3⟩
 exact .inl ⟨l,q1,q2,by rw[g6];exact q3,q4⟩
 exact .inr ⟨q1,by rw[g6];exact q2,q3⟩
 refine h6.imp id fun h=>?_
 rw[hc1]
 refine Nat.le_trans ?_ h
 unfold mz
 split<;>omega
 rcases h7 with ⟨_,e⟩|h7
 rw[e] at g0
 exact absurd g0 (by decide)
 exact .inr (by omega)
theorem H4{E:List Kv}{x:ByteArray}{i:Nat}{ps:List PgS}{nx:Int}{p:PuT}{w:WkT}{mo:Bool}{told:List ByteArray}(h:UnS E x i ps nx p w mo told){M:Nat}(hb:BdM M ps)(hc:C8 ps):EdM (M+10) (dN ps 0).1/\C8 (doB ps (dN ps 0).1)/\(dN ps 0).1.length<=4:=by
 obtain⟨T,q,rw,h1,_⟩:=h
 exact yO h1 hb hc
theorem Hr{E:List Kv}{x:ByteArray}{i:Nat}{ps:List PgS}{nx:Int}{p:PuT}{w:WkT}{mo:Bool}{told:List ByteArray}(h:UnS E x i ps nx p w mo told)(hE:UnE E x):(∀t∈told,BzE t)/\told.length<=E.length+1/\told.Nodup:=by
 obtain⟨T,q,rw,h1,h2,h3,h4,h5,h6,h7,h8,h9,h10,_⟩:=h
 have hnd:told.Nodup:=h9.srt.imp fun {a b} hab e=>by subst e;rw[eR] at hab;cases hab
 refine⟨fun t ht=>?_,?_,hnd⟩
 obtain⟨v,hv⟩:=h10 t ht
 rcases h5.sub.2 _ hv with h|h
 exact hE.ent _ h
 rw[show t=x from congrArg Prod.fst h];exact hE.xe
 have h12:told.length<=((lfs T).map Prod.fst).length:=Df hnd fun t ht=>by
  obtain⟨v,hv⟩:=h10 t ht
  exact List.mem_map.2 ⟨_,hv,rfl⟩
 rw[List.length_map] at h12
 have:=h5.len
 omega
theorem HS{E:List Kv}{x:ByteArray}{ps:List PgS}{nx:Int}{p:PuT}{w:WkT}{mo:Bool}{told:List ByteArray}(h:UnS E x 1200 ps nx p w mo told)(hE:UnE E x):mo=false/\p.left=[]/\dN ps 0=([],-1,-1)/\(cN ps 0).length=E.length+1/\(rmF ps 0 x).2=true/\∀y∈E,y.1∈told:=by
 obtain⟨T,q,rw,h1,h2,h3,h4,h5,h6,h7,h8,h9,h10,h11,h12,h13,h14⟩:=h
 have e0:uc0 1200=333:=rfl
 have e1:uc1 1200=333:=rfl
 have e2:uc2 1200=334:=rfl
 have hmo:mo=false:=h14.resolve_right (by omega)
 have hl:p.left=[]:=h6.resolve_right (by omega)
 have hu:=(h7.resolve_right (by omega)).2
 have hx:(lfs T).Perm ((x,-1)::E):=by
  rcases h5 with ⟨l,q1,_⟩|⟨_,q2,_⟩
  rw[hl] at q1;cases q1
  exact q2
 have hx4:=hE.xe.parts.2.2.1
 obtain⟨T',_,_,k3,_⟩:=h1.tr.rm (x:=x) hx4 (by rw[h1.len];omega) h1.its
 refine⟨hmo,hl,hu,?_,k3.2 ⟨(x,-1),hx.mem_iff.2 (by simp),rfl⟩,fun y hy=>h9.all y hy (jk _) (.inl (h13 hmo))⟩
 rw[<-List.length_map (f:=kv),h1.tr.all (by rw[h1.len];omega),hx.length_eq,List.length_cons]
end
section
open Go.RowKit
theorem FO(l:List TaT):∀u∈l.flatMap tkK,Value.oneCell' u=true:=fun u hu=>by
 obtain⟨p,_,hp⟩:=List.mem_flatMap.1 hu
 simp only[tkK,List.mem_cons,List.not_mem_nil,or_false] at hp
 rcases hp with rfl|rfl|rfl|rfl<;>rfl
theorem Dm(l:List TaT)(t:TaT):l.flatMap tkK++tkK t=(l++[t]).flatMap tkK:=by simp
theorem Try.infoTkK:(Try.prog.info? 106).map (fun i=>(i.zero,i.size,i.bytes))=some (some (.agg #[.string ByteArray.empty,.int .i64 0,.int .i64 0,.int .i64 0]),4,40):=by kernel_rfl
def H2(l:List TaT)(w:World)(e:Ending)(w':World):Prop:=∃A c,e= .returned (.slice A l.length c)/\w'.ownsRow w.heap.size 106 4 (.slice A l.length c) l.length (l.flatMap tkK)/\Ext w w'
def Ho(b:Nat)(cells:Option Addr->Nat->Array Value)(l:List TaT)(eds:List EdT)(w:World)(e:Ending)(w':World):Prop:=∃A c LA lc,e= .returned (.slice A eds.length c)/\St w [b] [eB b 109 (cells LA lc),eO 106 4 (.slice LA l.length lc) l.length (l.flatMap tkK),eO 99 3 (.slice A eds.length c) eds.length (eds.flatMap edC)] w'
theorem zp(la:Addr)(ln lc:Nat)(lf:List TaT)(w:World)(hL:At w (some la) (lf.flatMap tkK))(hln:lf.length=ln)(hlnb:ln<=10000):
  Calls Try.prog 84 #[.slice ((some la)) ln lc] w (H2 lf w):=by
 go_enter Try.func84,Try.ntmps84
 have aq:=St.start w
 refine wp_seq (sqr (sqp [.k 2 (.slice none 0 0)] ?_))
 refine aa (wp_seq (wp_seq (sqr (sqp [.m 3 0,.k 4 (.bool false)] ?_))))
 refine aa (wcf rfl (wp_skip (aa (wp_seq (sqr ?_)))))
 refine pT 106 4 0 [] aq (@fun b a W X cx=>by simp[go_sem]) fun cw W4 bQ=>?_
 refine sqp [.m 6 0] ?_
 refine sN ln (lf.flatMap tkK) 0 bQ Try.infoTkK (fun cx=>(hL.ext cx.upd.to_ext)) (hl:=by rw[eH fQ,hln]) (h1:=FO _) fun NA NB W6 ci=>?_
 refine sqp [.m 2 7] ?_
 refine aa (wp_ret ?_)
 refine bpr (.slice NA ln NB) (ak Try.results84 rpt) ?_
 have ho_:=ci.own' 0 rfl
 rw[<-hln] at ho_ |-
 exact⟨_,_,rfl,ho_,ci.ext⟩
theorem Dw(b:Nat)(root pos leaf fro to:Int)(spl:Bool)(la:Addr)(ln lc:Nat)(nd:NoD)(np pg:Int)(EA:Option Addr)(ec:Nat)(lf:List TaT)(w:World)(hb:Blk w b 109 #[.int .i64 root,.int .i64 pos,.int .i64 leaf,.slice ((some la)) ln lc,.int .i64 fro,.int .i64 to,.bool spl])(hE:∀W,Upd [b] w W->At W EA (nd.es.flatMap enC))(hez:∀e∈nd.es,e.1.size<=1000000)(hnb:nd.es.length<=1000)(hlv:0<=nd.lv/\nd.lv<=255)(hpg:0<=pg/\pg<=1000000)(hes:0<nd.es.length)(hec:nd.es.length<=ec)(hrt: -1<=nd.right/\nd.right<=1000000)(hhi:nd.high.size<=1000000)(hdd:nd.dead=false)(hL:∀W,Upd [b] w W->At W (some la) (lf.flatMap tkK))(hln:lf.length=ln)(hlnb:ln<=10000):
  Calls Try.prog 53 #[.pointer (some ⟨b,0,none⟩),.agg #[.int .i64 np,.int .i64 nd.lv,.int .i64 nd.right,.string nd.high,.bool nd.dead,.slice EA nd.es.length ec,.int .i64 ((nd.free:Int))],.int .i64 pg] w (Ho b (fun LA' lc'=>#[.int .i64 root,.int .i64 pos,.int .i64 leaf,.slice (LA') ((ln+1)) (lc'),.int .i64 ((if nd.lv=0 then np else fro)),.int .i64 ((if nd.lv=0 then pg else to)),.bool ((if nd.lv=0 then true else spl))]) (lf++[(bN nd,nd.lv+1,pg)]) (bR np nd pg) w):=by
 obtain⟨hf,hhf⟩:∃k:Nat,nd.es.length / 2=k:=⟨_,rfl⟩
 have hcl_:=mX np (nd.es.drop hf)
 have hfl_:=rC pg nd.lv nd.right nd.high (nd.es.drop hf)
 have hdl_:(nd.es.drop hf).length=nd.es.length-hf:=List.length_drop
 rw[hdl_] at hcl_ hfl_
 have hez2:∀e∈nd.es.drop hf,e.1.size<=1000000:=fun e he=>hez e (List.mem_of_mem_drop he)
 have hmz:=cH hez2 0
 have st0:=St.lend (E:=eB b 109 #[.int .i64 root,.int .i64 pos,.int .i64 leaf,.slice ((some la)) ln lc,.int .i64 fro,.int .i64 to,.bool spl]) hb (dH _ _ _) (fun k hk=>by simp[eB] at hk;subst hk;exact hb.lt)
 go_enter Try.func53,Try.ntmps53
 have aq:=st0
 refine wp_seq (sqr ?_)
 refine bX #[vi np,vi nd.lv,vi nd.right,.string nd.high,.bool nd.dead,.slice EA nd.es.length ec,vi ((nd.free:Int))] aq fun aW W1 aC=>?_
 refine sqp [.k 6 (.slice none 0 0)] ?_
 refine aa (wp_seq (sqr (sqp [.k 10 (.pointer (some ⟨aW,5,none⟩))] ?_)))
 refine al 1 aC ?_
 refine sqp [.k 12 (vi ((nd.es.length:Int))),sQu 13 .i64 (nd.es.length:Int) 2 ((nd.es.length:Int) / 2) (by rw[Int.tdiv_eq_ediv_of_nonneg (by omega)];exact IntWalk.i64_in _ (by omega)),.m 7 13] ?_
 refine aa (wp_seq ?_)
 obtain⟨z8_,Kh⟩:∃z,(nd.es.length:Int) / 2=z:=⟨_,rfl⟩
 rw[Kh]
 obtain rfl:z8_=(hf:Int):=by omega
 refine sqr (sqp [.k 14 (.pointer (some ⟨aW,5,none⟩))] ?_)
 refine al 1 aC ?_
 refine sqp [.m 16 7] ?_
 refine sql (.slice ((if ec=hf then EA else EA.map (·.add (hf*3)))) ((nd.es.length-hf)) ((ec-hf))) aC (fun cx=>b6 (e:=104) (sz:=3) (l:=hf) rfl (by kernel_rfl) (by kernel_rfl) (cx.ou 15) (cx.ou 16) (by omega) (by omega)) ?_
 refine sqp [.m 8 17] ?_
 refine aa (wp_seq (sqr (sqp [.m 18 2,.k 19 (.pointer (some ⟨aW,1,none⟩))] ?_)))
 refine al 1 aC ?_
 refine sqp [.k 21 (.pointer (some ⟨aW,2,none⟩))] ?_
 refine al 1 aC ?_
 refine sqp [.k 23 (.pointer (some ⟨aW,3,none⟩))] ?_
 refine al 1 aC ?_
 refine sqp [.m 25 8,.k 26 (.agg #[vi 0,vi nd.lv,vi nd.right,.string nd.high,.bool false,.slice ((if ec=hf then EA else EA.map (·.add (hf*3)))) ((nd.es.length-hf)) ((ec-hf)),vi 0])] ?_
 refine gQ (fun oO oP=> .slice oO ((aE pg nd.lv nd.right nd.high (nd.es.drop hf)).length) oP) (fun oO oP=>eO 99 3 (.slice oO ((aE pg nd.lv nd.right nd.high (nd.es.drop hf)).length) oP) ((aE pg nd.lv nd.right nd.high (nd.es.drop hf)).length) ((aE pg nd.lv nd.right nd.high (nd.es.drop hf)).flatMap edC)) aC (fun cx=>⟨_,(mO pg 0 nd.lv nd.right 0 nd.high _ _ _ (nd.es.drop hf) _ (At.dropF (ts:=nd.es) aH (hE _ cx.upd) hf ec hec) hdl_ hez2 (by omega) (by omega) (by omega) (by omega)).mono (by rintro e W1 ⟨A4,c4,rfl,ho_,hx⟩;exact⟨_,_,rfl,St.one hx (eS (n:=(aE pg nd.lv nd.right nd.high (nd.es.drop hf)).length) (xs:=(aE pg nd.lv nd.right nd.high (nd.es.drop hf)).flatMap edC) ho_)⟩),(aK (cx.ou 18) (cx.ou 26))⟩) fun oO oP uk cK=>?_
 refine sqp [.m 9 27] ?_
 refine aa (wp_seq (aj [0,0,2,6,14,1,33,127,255] [[],[],[],[],[],[],[1],[],[3]] [[],[],[],[],[],[],[3],[],[4]] [[],[],[],[],[],[],[1],[],[3]] [.k 28 (vi pg),.k 29 (.slice ((if ec=hf then EA else EA.map (·.add (hf*3)))) ((nd.es.length-hf)) ((ec-hf))),.c 30 (.pointer (some ((ad ((if ec=hf then EA else EA.map (·.add (hf*3))))).add (0*3)))),.c 31 (.pointer (some ((ad ((if ec=hf then EA else EA.map (·.add (hf*3))))).add (0*3+0)))),.c 32 (.string (((nd.es.drop hf).getD 0 en0).1)),.k 33 (.pointer (some ⟨aW,2,none⟩)),.n,.k 34 (.pointer (some ⟨aW,3,none⟩)),.n] (fun ix g d X=>match ix with|0|1|2|3|4|5=>True|6=>X 3=eB aW 116 #[vi np,vi nd.lv,vi pg,.string nd.high,.bool nd.dead,.slice EA nd.es.length ec,vi ((nd.free:Int))]|7=>True|8=>X 4=eB aW 116 #[vi np,vi nd.lv,vi pg,.string (((nd.es.drop hf).getD 0 en0).1),.bool nd.dead,.slice EA nd.es.length ec,vi ((nd.free:Int))]|_=>True) [0,2,4] [2,3,4,6,8] [(28,0,8,35)] cK ?_ ?_ ?_))
 exact fun ix _ _ _ _ _ _ hs hb hx h=>match ix,h with
 |6,h=>by dsimp only;rw[<-hx 3 rfl];exact h
 |8,h=>by dsimp only;rw[<-hx 4 rfl];exact h
 |0,_|1,_|2,_|3,_|4,_|5,_|7,_|_+9,_=>trivial
 refine⟨?_,?_,?_,?_,?_,trivial⟩
 exact xs4 rfl id fun cx=>aD (e:=104) (m:=0) (sz:=3) rfl (by kernel_rfl) (by kernel_rfl) (cx.an 1) (cx.co _) (by omega) (by omega) (At.dropF (ts:=nd.es) aH (hE _ cx.upd) hf ec hec) (be (sz:=3) aH (by decide) (by omega))
 exact xs4 rfl id fun cx=>db rfl (by kernel_rfl) (cx.an 2)
 exact xs4 rfl id fun cx=>ae rfl (by kernel_rfl) (cx.an 3) (At.eltc (f:=enC) (k:=0) aH (At.dropF (ts:=nd.es) aH (hE _ cx.upd) hf ec hec) (ck (by rw[List.length_drop];omega)) rfl)
 refine svA fun i d W X cx=>?_
 exact ar (n:=1) rfl (cx.an 5) (cx.an 0) (by kernel_rfl) (by kernel_rfl) (by kernel_rfl) cx (cx.init 1 _ rfl) rfl (nle rfl) (by kernel_rfl) rfl rfl rfl (fun _ _ _ _ _=>id)
 refine svA fun i d W X cx=>?_
 exact ar (n:=1) rfl (cx.an 7) (cx.an 4) (by kernel_rfl) (by kernel_rfl) (by kernel_rfl) cx (dTn (cx.an 6)) rfl (nle rfl) (by kernel_rfl) rfl rfl rfl (fun _ _ _ _ _=>id)
 intro g d X BT hD ev fr af
 simp only[exq 4 ((dTn (hD 8 lq)))] at ev
 clear hD;subst af;clear g d X
 refine aa (wp_seq (aj [0,0,2,0,8,30,62,127,255] [[],[],[2],[2],[],[],[],[3,1]] [[],[],[],[],[],[],[3],[4]] [[],[],[],[],[],[],[],[1]] [.k 35 (.slice oO ((aE pg nd.lv nd.right nd.high (nd.es.drop hf)).length) oP),.k 36 (vp aW),.c 37 (vi np),.c 38 (.agg #[vi np,vi nd.lv,vi pg,.string (((nd.es.drop hf).getD 0 en0).1),.bool nd.dead,.slice EA nd.es.length ec,vi ((nd.free:Int))]),.c 39 (.string (hdB nd.lv pg nd.dead (((nd.es.drop hf).getD 0 en0).1))),.k 40 (.agg #[vi np,vi 0,.string (hdB nd.lv pg nd.dead (((nd.es.drop hf).getD 0 en0).1))]),.a 41,.a 42,.a 9] (fun ix g d X=>match ix with|0|1|2|3|4|5=>True|6=>g 41= .slice ((some ⟨(pb' (d 41)),0,none⟩)) 1 1/\X 3=eO 99 3 (.slice ((some ⟨(pb' (d 41)),0,none⟩)) 1 1) 1 (edC (np,0,hdB nd.lv pg nd.dead (((nd.es.drop hf).getD 0 en0).1)))|7=>g 42= .slice (sA (d 42)) ((aE pg nd.lv nd.right nd.high (nd.es.drop hf)).length+1) (sC (d 42))/\X 4=eO 99 3 (.slice (sA (d 42)) ((aE pg nd.lv nd.right nd.high (nd.es.drop hf)).length+1) (sC (d 42))) ((aE pg nd.lv nd.right nd.high (nd.es.drop hf)).length+1) (((aE pg nd.lv nd.right nd.high (nd.es.drop hf))++[(np,0,hdB nd.lv pg nd.dead (((nd.es.drop hf).getD 0 en0).1))]).flatMap edC)|8=>g 9= .slice (sA (d 42)) ((aE pg nd.lv nd.right nd.high (nd.es.drop hf)).length+1) (sC (d 42))|_=>True) [0,2,3,4] [2,3,4,6,7,8] [(9,8,1,10),(25,0,8,33)] ev ?_ ?_ ?_))
 exact fun ix _ _ _ _ _ _ hs hb hx h=>match ix,h with
 |6,h=>by dsimp only;rw[<-hs 41 rfl,<-hb 41 rfl,<-hx 3 rfl];exact h
 |7,h=>by dsimp only;rw[<-hs 42 rfl,<-hb 42 rfl,<-hx 4 rfl];exact h
 |8,h=>by dsimp only;rw[<-hs 9 rfl,<-hb 42 rfl];exact h
 |0,_|1,_|2,_|3,_|4,_|5,_|_+9,_=>trivial
 refine⟨?_,?_,?_,?_,?_,?_,trivial⟩
 exact xs4 rfl id fun cx=>ae rfl (by kernel_rfl) (cx.an 1) ((cx.bi 2 rfl).cell 0)
 exact xs4 rfl id fun cx=>aO (n:=7) rfl (by kernel_rfl) (by kernel_rfl) (cx.ou 4) (cx.bi 2 rfl) (nle rfl) rfl
 exact xsc rfl id rfl rfl fun cx=>⟨_,jg np nd.lv pg (nd.free:Int) (((nd.es.drop hf).getD 0 en0).1) nd.dead _ _ _ _ (by omega) (by omega) (by first|omega|decide),(br (cx.an 3))⟩
 refine svA fun i d W X cx=>?_
 have NC:i (.tmp 40)= .agg #[vi np,vi 0,.string (hdB nd.lv pg nd.dead (((nd.es.drop hf).getD 0 en0).1))]:=(cx.an 5)
 exact bS (e:=99) (sz:=3) (xs:=[vi np,vi 0,.string (hdB nd.lv pg nd.dead (((nd.es.drop hf).getD 0 en0).1))]) rfl (by simp[go_sem,NC]) rfl (by decide) rfl rfl (fun _ _ _ _ _=> .intro)
 refine svA fun i d W X cx=>?_
 obtain⟨i0,hi0,hz0,hz1,hz2⟩:=info_parts Try.infoEdit
 refine bL (n:=(aE pg nd.lv nd.right nd.high (nd.es.drop hf)).length) (m:=1) (nm:=(aE pg nd.lv nd.right nd.high (nd.es.drop hf)).length+1) (sz:=3) (xs:=(aE pg nd.lv nd.right nd.high (nd.es.drop hf)).flatMap edC) (news:=edC (np,0,hdB nd.lv pg nd.dead (((nd.es.drop hf).getD 0 en0).1))) (xs':=((aE pg nd.lv nd.right nd.high (nd.es.drop hf))++[(np,0,hdB nd.lv pg nd.dead (((nd.es.drop hf).getD 0 en0).1))]).flatMap edC) rfl (ty:=34) rfl (by kernel_rfl) hi0 hz0 hz1 hz2 rfl (by decide) (cx.an 0) cx (cx.init 1 _ rfl) rfl (dTn (cx.an 6)).1 (by rfl) (At.of_ownN (cx.row (dTn (cx.an 6)).2 rfl)) (by simp[edC,tkK,Value.oneCell']) (by simp only[maxLen];omega) (by omega) rfl rfl rfl (by omega) (dw _ _) (fun g j X' hs hb hv hx=>?_)
 exact⟨hv,hx⟩
 exact sv rfl rfl rfl rfl rfl _ (fun _ _ _ h=>h) (fun d j h=>by rw[h 42 (by decide)]) fun i d W X cx=>aN rfl (dTn (cx.an 7)).1
 intro g d X ET hD fh fr af
 simp only[exq 3 ((dTn (hD 6 lq)).2),exq 4 ((dTn (hD 7 lq)).2)] at fh
 simp only[ed 41 ((dTn (hD 6 lq)).1),ed 42 ((dTn (hD 7 lq)).1),ed 9 ((dTn (hD 8 lq)))] at af
 generalize pb' (d 41)=Po,sA (d 42)=Pp,sC (d 42)=Pq at fh af
 clear hD;subst af;clear g d X
 refine aa (wp_seq (aj [0,0,2,6,14,30,0,64,192,448,0,1984,0,4096,12288,32704,65472,131070,262143,524287,1048575] [[],[],[],[],[0],[],[],[],[],[],[],[],[],[1],[],[],[],[5,4],[],[],[0]] [[],[],[],[],[],[4],[],[],[],[],[],[],[],[],[],[],[5],[6],[],[],[7]] [[],[],[],[],[],[],[],[],[],[],[],[],[],[],[],[],[],[4],[],[],[0]] [.k 43 (vp b),.k 44 (vp b),.k 45 (vp b),.k 46 (.pointer (some ⟨b,3,none⟩)),.c 47 (.slice ((some la)) ln lc),.a 48,.k 49 (.slice ((if ec=hf then EA else EA.map (·.add (hf*3)))) ((nd.es.length-hf)) ((ec-hf))),.c 50 (.pointer (some ((ad ((if ec=hf then EA else EA.map (·.add (hf*3))))).add (0*3)))),.c 51 (.pointer (some ((ad ((if ec=hf then EA else EA.map (·.add (hf*3))))).add (0*3+0)))),.c 52 (.string (((nd.es.drop hf).getD 0 en0).1)),.k 53 (vi pg),.k 54 (.agg #[.string (((nd.es.drop hf).getD 0 en0).1),vi 0,vi pg]),.k 55 (.pointer (some ⟨aW,1,none⟩)),.c 56 (vi nd.lv),tI 57 (nd.lv+1) (by omega),.k 58 (.agg #[.string (((nd.es.drop hf).getD 0 en0).1),vi 0,vi pg,vi (nd.lv+1)]),.a 59,.a 60,.k 61 (vp b),.k 62 (.pointer (some ⟨b,3,none⟩)),.n] (fun ix g d X=>match ix with|0|1|2|3|4=>True|5=>g 48= .slice (sA (d 48)) lf.length (sC (d 48))/\X 4=eO 106 4 (.slice (sA (d 48)) lf.length (sC (d 48))) lf.length (lf.flatMap tkK)|6|7|8|9|10|11|12|13|14|15=>True|16=>g 59= .slice ((some ⟨(pb' (d 59)),0,none⟩)) 1 1/\X 5=eO 106 4 (.slice ((some ⟨(pb' (d 59)),0,none⟩)) 1 1) 1 (tkK (((nd.es.drop hf).getD 0 en0).1,nd.lv+1,pg))|17=>g 60= .slice (sA (d 60)) (lf.length+1) (sC (d 60))/\X 6=eO 106 4 (.slice (sA (d 60)) (lf.length+1) (sC (d 60))) (lf.length+1) ((lf++[(((nd.es.drop hf).getD 0 en0).1,nd.lv+1,pg)]).flatMap tkK)|18|19=>True|20=>X 7=eB b 109 #[vi root,vi pos,vi leaf,.slice (sA (d 60)) (lf.length+1) (sC (d 60)),vi fro,vi to,.bool spl]|_=>True) [1,2,3,5,6,7] [4,5,7,8,9,13,16,17,20] [(43,0,20,63)] fh ?_ ?_ ?_))
 exact fun ix _ _ _ _ _ _ hs hb hx h=>match ix,h with
 |5,h=>by dsimp only;rw[<-hs 48 rfl,<-hb 48 rfl,<-hx 4 rfl];exact h
 |16,h=>by dsimp only;rw[<-hs 59 rfl,<-hb 59 rfl,<-hx 5 rfl];exact h
 |17,h=>by dsimp only;rw[<-hs 60 rfl,<-hb 60 rfl,<-hx 6 rfl];exact h
 |20,h=>by dsimp only;rw[<-hb 60 rfl,<-hx 7 rfl];exact h
 |0,_|1,_|2,_|3,_|4,_|6,_|7,_|8,_|9,_|10,_|11,_|12,_|13,_|14,_|15,_|18,_|19,_|_+21,_=>trivial
 refine⟨?_,?_,?_,?_,?_,?_,?_,?_,?_,trivial⟩
 exact xs4 rfl id fun cx=>ae rfl (by kernel_rfl) (cx.an 3) ((cx.bi 0 rfl).cell 3)
 refine svA fun i d W X cx=>?_
 refine ax.call (av (args:=#[.slice ((some la)) ln lc]) rfl cx.sees rfl (by kernel_rfl) (br (cx.an 4))) ?_
 refine(zp la ln lc lf _ (hL _ cx.upd) hln hlnb).mono ?_
 rintro e W1 ⟨A4,c4,rfl,ho_,hx⟩
 refine⟨_,rfl,cR [eO 106 4 (.slice A4 lf.length c4) lf.length (lf.flatMap tkK)] rfl rfl hx (mn (eS (n:=lf.length) (xs:=lf.flatMap tkK) ho_)) (List.pairwise_singleton _ _) (fun g j X' hs hb hv hN=>?_)⟩
 have aZ:=(hv 48 rfl).1;have aJ:=(hv 48 rfl).2
 exact⟨aZ.trans (by rw[aJ];rfl),(by rw[aJ];exact(List.cons.inj hN).1)⟩
 exact xs4 rfl id fun cx=>aD (e:=104) (m:=0) (sz:=3) rfl (by kernel_rfl) (by kernel_rfl) (cx.an 6) (cx.co _) (by omega) (by omega) (At.dropF (ts:=nd.es) aH (hE _ cx.upd) hf ec hec) (be (sz:=3) aH (by decide) (by omega))
 exact xs4 rfl id fun cx=>db rfl (by kernel_rfl) (cx.an 7)
 exact xs4 rfl id fun cx=>ae rfl (by kernel_rfl) (cx.an 8) (At.eltc (f:=enC) (k:=0) aH (At.dropF (ts:=nd.es) aH (hE _ cx.upd) hf ec hec) (ck (by rw[List.length_drop];omega)) rfl)
 exact xs4 rfl id fun cx=>ae rfl (by kernel_rfl) (cx.an 12) ((cx.bi 1 rfl).cell 1)
 refine svA fun i d W X cx=>?_
 have D1:i (.tmp 58)= .agg #[.string (((nd.es.drop hf).getD 0 en0).1),vi 0,vi pg,vi (nd.lv+1)]:=(cx.an 15)
 exact bS (e:=106) (sz:=4) (xs:=[.string (((nd.es.drop hf).getD 0 en0).1),vi 0,vi pg,vi (nd.lv+1)]) rfl (by simp[go_sem,D1]) rfl (by decide) rfl rfl (fun _ _ _ _ _=> .intro)
 refine svA fun i d W X cx=>?_
 obtain⟨i0,hi0,hz0,hz1,hz2⟩:=info_parts Try.infoTkK
 refine bL (n:=lf.length) (m:=1) (nm:=lf.length+1) (sz:=4) (xs:=lf.flatMap tkK) (news:=tkK (((nd.es.drop hf).getD 0 en0).1,nd.lv+1,pg)) (xs':=(lf++[(((nd.es.drop hf).getD 0 en0).1,nd.lv+1,pg)]).flatMap tkK) rfl (ty:=107) rfl (by kernel_rfl) hi0 hz0 hz1 hz2 rfl (by decide) (dTn (cx.an 5)).1 cx (dTn (cx.an 5)).2 rfl (dTn (cx.an 16)).1 (by rfl) (At.of_ownN (cx.row (dTn (cx.an 16)).2 rfl)) (by simp[edC,tkK,Value.oneCell']) (by simp only[maxLen];omega) (by omega) rfl rfl rfl (by omega) (Dm _ _) (fun g j X' hs hb hv hx=>?_)
 exact⟨hv,hx⟩
 refine svA fun i d W X cx=>?_
 exact ar (n:=1) rfl (cx.an 19) (dTn (cx.an 17)).1 (by kernel_rfl) (by kernel_rfl) (by kernel_rfl) cx (cx.init 0 _ rfl) rfl (nle rfl) (by kernel_rfl) rfl rfl rfl (fun g j X' hs hb hx=>by rw[hb 60];exact hx)
 intro g d X B0 hD cY fr af
 simp only[exq 5 ((dTn (hD 16 lq)).2),exq 6 ((dTn (hD 17 lq)).2),exq 7 ((dTn (hD 20 lq)))] at cY
 simp only[ed 48 ((dTn (hD 5 lq)).1),ed 59 ((dTn (hD 16 lq)).1),ed 60 ((dTn (hD 17 lq)).1)] at af
 generalize sA (d 48)=Pr,sC (d 48)=Pt,pb' (d 59)=Pu,sA (d 60)=xr,sC (d 60)=xt at cY af
 clear hD;subst af;clear g d X
 refine aa (wp_seq (wp_seq (sqr (sqp [.k 63 (.pointer (some ⟨aW,1,none⟩))] ?_))))
 refine al 0 cY ?_
 refine sqp [.k 65 (.bool (nd.lv==0))] ?_
 refine aa (wbs (fun eF=>?_) fun eF=>?_)
 have rE:=beq_iff_eq.1 eF
 refine sqr (sqp [.m 66 0,.m 67 0,.m 68 0,.k 69 (vp aW)] ?_)
 refine al 0 cY ?_
 refine sqp [.m 71 2,.k 72 (vp b),.k 73 (.pointer (some ⟨b,4,none⟩))] ?_
 refine aF (n:=1) 5 #[vi root,vi pos,vi leaf,.slice xr (lf.length+1) xt,vi np,vi to,.bool spl] cY fun EI gL=>?_
 refine sqp [.k 74 (vp b),.k 75 (.pointer (some ⟨b,5,none⟩))] ?_
 refine aF (n:=1) 5 #[vi root,vi pos,vi leaf,.slice xr (lf.length+1) xt,vi np,vi pg,.bool spl] gL fun Jq fi=>?_
 refine sqp [.k 76 (vp b),.k 77 (.pointer (some ⟨b,6,none⟩))] ?_
 refine aF (n:=1) 5 #[vi root,vi pos,vi leaf,.slice xr (lf.length+1) xt,vi np,vi pg,.bool true] fi fun Mb ff=>?_
 refine aa (wp_seq (sqr (sqp [.m 78 9,.k 79 (vp aW)] ?_)))
 refine al 0 ff ?_
 refine sqp [.m 81 8] ?_
 refine gQ (fun sd se=> .slice ((some ⟨sd,0,none⟩)) ((aA np (nd.es.drop hf)).length) se) (fun sd se=>eO 99 3 (.slice ((some ⟨sd,0,none⟩)) ((aA np (nd.es.drop hf)).length) se) ((aA np (nd.es.drop hf)).length) ((aA np (nd.es.drop hf)).flatMap edC)) ff (fun cx=>⟨_,(sG (by omega) (j7 np _ _ _ (nd.es.drop hf) _ (At.dropF (ts:=nd.es) aH (hE _ cx.upd) hf ec hec) hdl_ (by omega))).mono (by rintro e W1 ⟨G4,c4,rfl,ho_,hx⟩;exact⟨_,_,rfl,St.one hx (eS (n:=(aA np (nd.es.drop hf)).length) (xs:=(aA np (nd.es.drop hf)).flatMap edC) ho_)⟩),(aK (cx.ou 80) (cx.ou 81))⟩) fun sd se Mh pv=>?_
 refine sN ((aE pg nd.lv nd.right nd.high (nd.es.drop hf)).length+1+(aA np (nd.es.drop hf)).length) ((((aE pg nd.lv nd.right nd.high (nd.es.drop hf))++[(np,0,hdB nd.lv pg nd.dead (((nd.es.drop hf).getD 0 en0).1))])++(aA np (nd.es.drop hf))).flatMap edC) 2 pv Try.infoEdit (fun cx=>(At.of_ownN (cx.ri 6 rfl))) (hl:=by rw[eH gK]) (h1:=sL _) (hC:=ta _ _) fun Ki Kj BX ib=>?_
 refine sqp [.m 6 83] ?_
 refine aa (wp_ret ?_)
 refine bpr (.slice Ki ((aE pg nd.lv nd.right nd.high (nd.es.drop hf)).length+1+(aA np (nd.es.drop hf)).length) Kj) (ak Try.results53 rpt) ?_
 have hmd:bN nd=((nd.es.drop hf).getD 0 en0).1:=by rw[bN,hhf,ll];rfl
 have hfin:(((aE pg nd.lv nd.right nd.high (nd.es.drop hf))++[(np,0,hdB nd.lv pg nd.dead (((nd.es.drop hf).getD 0 en0).1))])++(aA np (nd.es.drop hf)))=bR np nd pg:=by rw[bR,dX,hhf,hmd,hdd];try rfl
 have hfl:(aE pg nd.lv nd.right nd.high (nd.es.drop hf)).length+1+(aA np (nd.es.drop hf)).length=(bR np nd pg).length:=by rw[<-hfin];simp only[List.length_append,List.length_cons,List.length_nil];try omega
 have htl0:nd.lv=0:=by have h_:=eF;simpa using h_
 have hpk_:=ib.pick [5,4,2] (by decide) rfl
 rw[hfin,hfl] at hpk_
 have hll:(lf++[(bN nd,nd.lv+1,pg)]).length=lf.length+1:=by rw[List.length_append];rfl
 rw[hfl,if_pos htl0,if_pos htl0,if_pos htl0]
 exact⟨_,_,_,_,rfl,by rw[hll,hmd,<-hln];exact hpk_⟩
 have rE:=beq_eq_false_iff_ne.1 eF
 refine wp_skip (aa (wp_seq (sqr (sqp [.m 78 9,.k 79 (vp aW)] ?_))))
 refine al 0 cY ?_
 refine sqp [.m 81 8] ?_
 refine gQ (fun sf sg=> .slice ((some ⟨sf,0,none⟩)) ((aA np (nd.es.drop hf)).length) sg) (fun sf sg=>eO 99 3 (.slice ((some ⟨sf,0,none⟩)) ((aA np (nd.es.drop hf)).length) sg) ((aA np (nd.es.drop hf)).length) ((aA np (nd.es.drop hf)).flatMap edC)) cY (fun cx=>⟨_,(sG (by omega) (j7 np _ _ _ (nd.es.drop hf) _ (At.dropF (ts:=nd.es) aH (hE _ cx.upd) hf ec hec) hdl_ (by omega))).mono (by rintro e W1 ⟨G4,c4,rfl,ho_,hx⟩;exact⟨_,_,rfl,St.one hx (eS (n:=(aA np (nd.es.drop hf)).length) (xs:=(aA np (nd.es.drop hf)).flatMap edC) ho_)⟩),(aK (cx.ou 80) (cx.ou 81))⟩) fun sf sg RV LO=>?_
 refine sN ((aE pg nd.lv nd.right nd.high (nd.es.drop hf)).length+1+(aA np (nd.es.drop hf)).length) ((((aE pg nd.lv nd.right nd.high (nd.es.drop hf))++[(np,0,hdB nd.lv pg nd.dead (((nd.es.drop hf).getD 0 en0).1))])++(aA np (nd.es.drop hf))).flatMap edC) 2 LO Try.infoEdit (fun cx=>(At.of_ownN (cx.ri 6 rfl))) (hl:=by rw[eH gK]) (h1:=sL _) (hC:=ta _ _) fun Kk Kl Jp jC=>?_
 refine sqp [.m 6 83] ?_
 refine aa (wp_ret ?_)
 refine bpr (.slice Kk ((aE pg nd.lv nd.right nd.high (nd.es.drop hf)).length+1+(aA np (nd.es.drop hf)).length) Kl) (ak Try.results53 rpt) ?_
 have hmd:bN nd=((nd.es.drop hf).getD 0 en0).1:=by rw[bN,hhf,ll];rfl
 have hfin:(((aE pg nd.lv nd.right nd.high (nd.es.drop hf))++[(np,0,hdB nd.lv pg nd.dead (((nd.es.drop hf).getD 0 en0).1))])++(aA np (nd.es.drop hf)))=bR np nd pg:=by rw[bR,dX,hhf,hmd,hdd];try rfl
 have hfl:(aE pg nd.lv nd.right nd.high (nd.es.drop hf)).length+1+(aA np (nd.es.drop hf)).length=(bR np nd pg).length:=by rw[<-hfin];simp only[List.length_append,List.length_cons,List.length_nil];try omega
 have htl0:¬nd.lv=0:=by have h_:=eF;simpa using h_
 have hpk_:=jC.pick [5,4,2] (by decide) rfl
 rw[hfin,hfl] at hpk_
 have hll:(lf++[(bN nd,nd.lv+1,pg)]).length=lf.length+1:=by rw[List.length_append];rfl
 rw[hfl,if_neg htl0,if_neg htl0,if_neg htl0]
 exact⟨_,_,_,_,rfl,by rw[hll,hmd,<-hln];exact hpk_⟩
end
section
open Go.RowKit
theorem CG(nd:NoD)(x:ByteArray):nd.es.length<8\/(¬nd.es.length<8/\di nd.es x=false)\/(¬nd.es.length<8/\di nd.es x=true):=by
 by_cases h:nd.es.length<8
 exact .inl h
 cases di nd.es x with
 |false=>exact .inr (.inl ⟨h,rfl⟩)
 |true=>exact .inr (.inr ⟨h,rfl⟩)
def HH(b:Nat)(p:PuT)(L:List EdT)(w:World)(e:Ending)(w':World):Prop:=∃A c fp,e= .returned (.slice A L.length c)/\St w [b] [ePk b p fp,eO 99 3 (.slice A L.length c) L.length (L.flatMap edC)] w'
theorem FI(b:Nat)(root pos leaf:Int)(la:Addr)(ln lc:Nat)(nd:NoD)(np pg:Int)(EA:Option Addr)(ec:Nat)(lf:List TaT)(w:World)(hb:Blk w b 109 #[.int .i64 root,.int .i64 pos,.int .i64 leaf,.slice (some la) ln lc,.int .i64 0,.int .i64 0,.bool false])
  (hE:∀W,Upd [b] w W->At W EA (nd.es.flatMap enC)) (hez:∀e∈nd.es,e.1.size<=1000000) (hnb:nd.es.length<=1000) (hlv:0<=nd.lv/\nd.lv<=255) (hpg:0<=pg/\pg<=1000000) (hes:0<nd.es.length) (hec:nd.es.length<=ec) (hrt: -1<=nd.right/\nd.right<=1000000) (hhi:nd.high.size<=1000000) (hdd:nd.dead=false) (hL:∀W,Upd [b] w W->At W (some la) (lf.flatMap tkK)) (hln:lf.length=ln) (hlnb:ln<=10000):
  Calls Try.prog 53 #[.pointer (some ⟨b,0,none⟩),.agg #[.int .i64 np,.int .i64 nd.lv,.int .i64 nd.right,.string nd.high,.bool nd.dead,.slice EA nd.es.length ec,.int .i64 (nd.free:Int)],.int .i64 pg] w
   (HH b ⟨root,pos,leaf,lf++[(bN nd,nd.lv+1,pg)],if nd.lv=0 then np else 0,if nd.lv=0 then pg else 0,if nd.lv=0 then true else false⟩ (bR np nd pg) w):=by
 refine(Dw b root pos leaf 0 0 false la ln lc nd np pg EA ec lf w hb hE hez hnb hlv hpg hes hec hrt hhi hdd hL hln hlnb).mono fun e w' h=>?_
 obtain⟨A,c,LA,lc',h1,h2⟩:=h
 have hll:ln+1=(lf++[(bN nd,nd.lv+1,pg)]).length:=by rw[List.length_append,hln];rfl
 have h3:=h2
 dsimp only at h3
 rw[hll] at h3
 obtain⟨fp,h4⟩:=HP (p:=⟨root,pos,leaf,lf++[(bN nd,nd.lv+1,pg)],if nd.lv=0 then np else 0,if nd.lv=0 then pg else 0,if nd.lv=0 then true else false⟩) (g:=[]) h3 rfl
 exact⟨A,c,fp,h1,h4⟩
theorem GR(b:Nat)(tt:TypeId)(tv:Value)(root pos leaf fro to:Int)(spl:Bool)(la:Addr)(ln lc:Nat)(te:ByteArray)(tl tk:Int)(lf:List TaT)(ps:List PgS)(fresh:Int)(fp g:List Nat)(w:World)(hb:Blk w b 109 #[.int .i64 root,.int .i64 pos,.int .i64 leaf,.slice ((some la)) ln lc,.int .i64 fro,.int .i64 to,.bool spl])(hL:∀W,Upd [b] w W->At W (some la) (((te,tl,tk)::lf).flatMap tkK))(hln:((te,tl,tk)::lf).length=ln)(hlc:((te,tl,tk)::lf).length<=lc)(hlnb:ln<=10000)(hS:∀W,Upd [b] w W->PgsOk W tt tv ps)(hok:OkS ps)(hoc:OkC ps)(hfp:fp=b::g)(hbg:b∉g)(hlt:∀k∈g,k<w.heap.size)(hla:la.block∈g)(hte:te.size<=900000)(htl:0<=tl/\tl<=90000)(af: -1<=fresh/\fresh<=1000000):
  Calls Try.prog 16 #[.pointer (some ⟨b,0,none⟩),.iface tt (tv),.int .i64 fresh] w (kE b (aU ps ⟨root,pos,leaf,(te,tl,tk)::lf,fro,to,spl⟩ fresh) fp w):=by
 have st0:=St.lend (E:=eB b 109 #[.int .i64 root,.int .i64 pos,.int .i64 leaf,.slice ((some la)) ln lc,.int .i64 fro,.int .i64 to,.bool spl]) hb (dH _ _ _) (fun k hk=>by simp[eB] at hk;subst hk;exact hb.lt)
 have hln1:1<=ln:=by rw[<-hln];simp
 have hlc1:lf.length+1<=lc:=hlc
 have hln2:lf.length+1=ln:=hln
 go_enter Try.func16,Try.ntmps16
 have aq:=st0
 refine wp_seq (sqr (sqp [.k 6 (.slice none 0 0),.k 7 (.bool false),.k 8 (vi 0)] ?_))
 refine aa (wp_seq (wp_seq (sqr (sqp [.m 14 0] ?_))))
 refine sqv (.bool false) aq (by
   exact sv0 rfl rfl rfl rfl rfl (fun _ _ _ h=>h) fun l d W X cx=>by
    have xf:l (.tmp 14)=vp b:=(cx.ou 14)
    simp[go_sem,cx.sees.const,xf]) fun W5 bO=>?_
 refine aa (wcf rfl (wp_skip (aa (wp_seq (sqr (sqp [.m 16 0,.m 17 0,.m 18 0,.k 19 (vp b),.k 20 (.pointer (some ⟨b,4,none⟩))] ?_))))))
 refine aF (n:=1) 0 #[vi root,vi pos,vi leaf,.slice ((some la)) ln lc,vi 0,vi to,.bool spl] bO fun pH cA=>?_
 refine sqp [.k 21 (vp b),.k 22 (.pointer (some ⟨b,5,none⟩))] ?_
 refine aF (n:=1) 0 #[vi root,vi pos,vi leaf,.slice ((some la)) ln lc,vi 0,vi 0,.bool spl] cA fun iY bn=>?_
 refine sqp [.k 23 (vp b),.k 24 (.pointer (some ⟨b,6,none⟩))] ?_
 refine aF (n:=1) 0 #[vi root,vi pos,vi leaf,.slice ((some la)) ln lc,vi 0,vi 0,.bool false] bn fun um ca=>?_
 refine aa (wp_seq (wp_seq (sqr (sqp [.m 25 0,.k 26 (vp b),.k 27 (.pointer (some ⟨b,3,none⟩))] ?_))))
 refine al 0 ca ?_
 have hd24:((ln:Int)==0)=false:=(by rw[beq_eq_false_iff_ne];omega)
 refine sqp [.k 29 (vi ((ln:Int))),.e 30 (.bool ((ln:Int)==0)) (.bool false) (congrArg Value.bool hd24)] ?_
 refine aa (wcf rfl (wp_skip (aa (wp_seq (sqr (sqp [.m 31 0,.k 32 (vp b),.k 33 (.pointer (some ⟨b,3,none⟩))] ?_))))))
 refine al 0 ca ?_
 refine sql (.pointer (some ((ad ((some la))).add (0*4)))) ca (fun cx=>aD (e:=106) (m:=0) (sz:=4) rfl (by kernel_rfl) (by kernel_rfl) (cx.ou 34) (cx.co _) (by omega) (by omega) (hL _ cx.upd) (be (sz:=4) fQ (by decide) (by omega))) ?_
 refine sql (.agg #[.string te,vi 0,vi tk,vi tl]) ca (fun cx=>aY (f:=tkK) (m:=0) (sz:=4) (off:=0) (n:=4) rfl (by kernel_rfl) (by kernel_rfl) (cx.ou 35) rfl fQ (hL _ cx.upd) rfl (fun k hk=>match k,hk with|0,_=>rfl|1,_=>rfl|2,_=>rfl|3,_=>rfl|k+4,hk=>absurd hk (by omega))) ?_
 refine bW #[.string ByteArray.empty,vi 0,vi 0,vi 0] ca fun dm JB kh=>?_
 refine aF (n:=4) 1 #[.string te,vi 0,vi tk,vi tl] kh fun Mf fL=>?_
 refine aa (wp_seq ?_)
 rcases hnd:ao ps pos with _|nd
 refine aj [0,0,2,6,14,31,63,127,127,0,767,2047] [[],[],[],[],[0],[],[],[],[],[],[2]] [[],[],[],[],[],[],[],[],[],[2],[3]] [[],[],[],[],[],[],[],[],[],[],[2]] [.k 38 (.iface tt (tv)),.k 39 (vp b),.k 40 (vp b),.k 41 (.pointer (some ⟨b,1,none⟩)),.c 42 (vi pos),.a 43,.a 37,.a 44,.c 45 (.bool false),.a 10,.n,.k 11 (.bool false)] (fun ix j d X=>match ix with|0|1|2|3|4=>True|5=>j 43= .tuple #[.agg #[vi (iv (tg (tg (d 43) 0) 0)),vi 0,vi 0,.string ((⟨#[]⟩:ByteArray)),.bool false,.slice none 0 0,vi 0],.bool false]|6=>j 37= .tuple #[.agg #[vi (iv (tg (tg (d 43) 0) 0)),vi 0,vi 0,.string ((⟨#[]⟩:ByteArray)),.bool false,.slice none 0 0,vi 0],.bool false]|7=>j 44= .agg #[vi (iv (tg (tg (d 43) 0) 0)),vi 0,vi 0,.string ((⟨#[]⟩:ByteArray)),.bool false,.slice none 0 0,vi 0]|8=>True|9=>j 10=vp (pb (d 10))/\X 2=eB (pb (d 10)) 116 #[vi 0,vi 0,vi 0,.string ByteArray.empty,.bool false,.slice none 0 0,vi 0]|10=>X 3=eB (pb (d 10)) 116 #[vi (iv (tg (tg (d 43) 0) 0)),vi 0,vi 0,.string ((⟨#[]⟩:ByteArray)),.bool false,.slice none 0 0,vi 0]|_=>True) [0,1,3] [4,5,6,7,8,9,10] [(10,9,3,12),(25,6,1,26),(0,0,6,6),(0,7,2,2)] fL ?_ ?_ ?_
 exact fun ix _ _ _ _ _ _ hs hb hx h=>match ix,h with
 |5,h=>by dsimp only;rw[<-hs 43 rfl,<-hb 43 rfl];exact h
 |6,h=>by dsimp only;rw[<-hs 37 rfl,<-hb 43 rfl];exact h
 |7,h=>by dsimp only;rw[<-hs 44 rfl,<-hb 43 rfl];exact h
 |9,h=>by dsimp only;rw[<-hs 10 rfl,<-hb 10 rfl,<-hx 2 rfl];exact h
 |10,h=>by dsimp only;rw[<-hb 10 rfl,<-hb 43 rfl,<-hx 3 rfl];exact h
 |0,_|1,_|2,_|3,_|4,_|8,_|_+11,_=>trivial
 refine⟨?_,?_,?_,?_,?_,?_,?_,trivial⟩
 exact xs4 rfl id fun cx=>ae rfl (by kernel_rfl) (cx.an 3) ((cx.bi 0 rfl).cell 1)
 refine svA fun l d W X cx=>?_
 refine ax.call (av (args:=#[.iface tt (tv),vi pos]) rfl cx.sees rfl (by kernel_rfl) (aK (cx.an 0) (cx.an 4))) ?_
 refine(rh hnd (gF _ _ ps pos _ (hS _ cx.upd) hok hoc)).mono ?_
 rintro e W1 ⟨p4,rfl,hx⟩
 refine⟨_,rfl,cR [] rfl rfl hx (by simp) List.Pairwise.nil (fun j o X' hs hb hv hN=>?_)⟩
 have aZ:=(hv 43 rfl).1;have aJ:=(hv 43 rfl).2
 exact aZ.trans (by rw[aJ];rfl)
 exact sv rfl rfl rfl rfl rfl _ (fun _ _ _ h=>h) (fun d o h=>by rw[h 43 (by decide)]) fun l d W X cx=>b7 rfl (dTn (cx.an 5))
 exact sv rfl rfl rfl rfl rfl _ (fun _ _ _ h=>h) (fun d o h=>by rw[h 43 (by decide)]) fun l d W X cx=>aG rfl (dTn (cx.an 6)) rfl
 exact xs4 rfl id fun cx=>aG rfl (dTn (cx.an 6)) rfl
 refine svA fun l d W X cx=>?_
 exact bx (cs:=#[vi 0,vi 0,vi 0,.string ByteArray.empty,.bool false,.slice none 0 0,vi 0]) rfl (by kernel_rfl) rfl rfl (fun _ _ _ _ _=> .intro)
 refine svA fun l d W X cx=>?_
 exact ar (n:=7) rfl (dTn (cx.an 9)).1 (dTn (cx.an 7)) (by kernel_rfl) (by kernel_rfl) (by kernel_rfl) cx (dTn (cx.an 9)).2 rfl (nle rfl) (by kernel_rfl) rfl rfl rfl (fun j o X' hs hb hx=>by rw[hb 10,hb 43];exact hx)
 intro j d X EP hD fJ fr af
 simp only[exq 3 ((dTn (hD 10 lq)))] at fJ
 simp only[ed 43 ((dTn (hD 5 lq))),ed 37 ((dTn (hD 6 lq))),ed 44 ((dTn (hD 7 lq))),ed 10 ((dTn (hD 9 lq)).1)] at af
 generalize iv (tg (tg (d 43) 0) 0)=pg43_33,pb (d 10)=JH at fJ af
 clear hD;subst af;clear j d X
 refine aa (wp_seq (sqr ?_))
 refine sqv (.func (.func 48) #[] #[vp dm]) fJ (by
   exact sv0 rfl rfl rfl rfl rfl (fun _ _ _ h=>h) fun l d W X cx=>by
    have rZ:l (.tmp 9)=vp dm:=(cx.ou 9)
    simp[go_sem,Instr.makeFunc,rZ]) fun BY f8=>?_
 refine sqp [.m 12 46] ?_
 refine aa (wp_seq (wp_block (wp_seq (sqr (sqp [.k 48 (.bool false),.k 49 (.bool true),.k 47 (.bool true)] ?_)))))
 refine aa (wct rfl (wp_seq (sqr (sqp [.k 6 (.slice none 0 0),.k 7 (.bool false),.k 8 (vi 22)] ?_))))
 refine aa (wp_ret (aB (ai ?_)))
 refine bpr (.tuple #[.slice none 0 0,.bool false,vi 22]) (bq Try.results16 rpt rpt rpt) ?_
 rw[o8 hnd]
 have hn42:=bM f8 99 3
 simp only[List.cons_append,List.nil_append] at hn42
 have hup_:=hn42.upd
 have hpk_:=hn42.pick [0,3] (by decide) rfl
 subst hln
 exact⟨_,_,rfl,dv hpk_ hfp hbg hlt hlc (hL _ hup_) (fun ad e _=>by rw[<-Option.some.inj e];exact hla)⟩
 have hN0:=e8 hok hnd
 have hN:NdQ nd:=⟨hN0.lv,fun e he=>Nat.le_trans (hN0.es e he) (by decide)⟩
 have hN1:=hN0.len
 have hN2:=hN0.rt
 have hN3:=hN0.hi
 have hN4:=hN0.lv
 have hN5:=hN0.fr
 have hN7:=hN0.es
 refine sqr (sqp [.m 38 1,.m 39 0,.k 40 (vp b),.k 41 (.pointer (some ⟨b,1,none⟩))] ?_)
 refine al 0 fL ?_
 refine gQ (fun EA43_48 ec43_48=> .tuple #[.agg #[vi pos,vi nd.lv,vi nd.right,.string nd.high,.bool nd.dead,.slice EA43_48 nd.es.length ec43_48,vi ((nd.free:Int))],.bool true]) (fun EA43_48 ec43_48=>eO 104 3 (.slice EA43_48 nd.es.length ec43_48) nd.es.length (nd.es.flatMap enC)) fL (fun cx=>⟨_,(nF hnd (gF _ _ ps pos _ (hS _ cx.upd) hok hoc)).mono (by rintro e W1 ⟨EA4,ec4,rfl,aR⟩;exact⟨_,_,rfl,aR⟩),(aK (cx.ou 38) (cx.ou 42))⟩) fun EA43_48 ec43_48 OD zF=>?_
 refine sqp [.m 37 43,.k 44 (.agg #[vi pos,vi nd.lv,vi nd.right,.string nd.high,.bool nd.dead,.slice EA43_48 nd.es.length ec43_48,vi ((nd.free:Int))]),.k 45 (.bool true)] ?_
 refine bW #[vi 0,vi 0,vi 0,.string ByteArray.empty,.bool false,.slice none 0 0,vi 0] zF fun eh BX ib=>?_
 refine aF (n:=7) 3 #[vi pos,vi nd.lv,vi nd.right,.string nd.high,.bool nd.dead,.slice EA43_48 nd.es.length ec43_48,vi ((nd.free:Int))] ib fun EU ke=>?_
 refine sqp [.k 11 (.bool true)] ?_
 refine aa (wp_seq (sqr ?_))
 refine sqv (.func (.func 48) #[] #[vp dm]) ke (by
   exact sv0 rfl rfl rfl rfl rfl (fun _ _ _ h=>h) fun l d W X cx=>by
    have rZ:l (.tmp 9)=vp dm:=(cx.ou 9)
    simp[go_sem,Instr.makeFunc,rZ]) fun EY eV=>?_
 refine sqp [.m 12 46] ?_
 refine aa (wp_seq (wp_block (wp_seq (sqr (sqp [.k 48 (.bool true),.k 49 (.bool false),.k 47 (.bool false)] ?_)))))
 refine aa (wcf rfl (wp_seq (sqr ?_)))
 refine d9 3 7 eV ?_
 refine sqp [.k 52 (vp dm),.k 53 (vp dm)] ?_
 refine al 1 eV ?_
 refine sqk (.bool (cL nd.dead nd.high te)) eV (fun cx=>⟨_,mL pos nd.lv nd.right (nd.free:Int) nd.high nd.dead _ _ _ te _ (by omega) (by omega),(aK (cx.ou 51) (cx.ou 54))⟩) fun EV bJ=>?_
 refine sqp [.m 50 55] ?_
 refine aa (wbs (fun fx=>?_) fun fx=>?_)
 refine wp_seq (wp_seq (sqr (sqp [.k 56 (.pointer (some ⟨eh,2,none⟩))] ?_)))
 refine al 3 bJ ?_
 refine sqp [.k 58 (.bool (decide (nd.right<0)))] ?_
 refine aa (wds (fun iQ m8=>?_) fun iQ m8=>?_)
 refine wp_seq (sqr (sqp [.k 6 (.slice none 0 0),.k 7 (.bool false),.k 8 (vi 11)] ?_))
 refine aa (wp_ret (ai (aB (ai ?_))))
 refine bpr (.tuple #[.slice none 0 0,.bool false,vi 11]) (bq Try.results16 rpt rpt rpt) ?_
 rw[o5 hnd fx (by omega)]
 have hn74:=bM bJ 99 3
 simp only[List.cons_append,List.nil_append] at hn74
 have hup_:=hn74.upd
 have hpk_:=hn74.pick [0,4] (by decide) rfl
 subst hln
 exact⟨_,_,rfl,dv hpk_ hfp hbg hlt hlc (hL _ hup_) (fun ad e _=>by rw[<-Option.some.inj e];exact hla)⟩
 refine wp_skip (aa (wp_seq (sqr (sqp [.m 59 0,.k 60 (.pointer (some ⟨eh,2,none⟩))] ?_))))
 refine al 3 bJ ?_
 refine sqp [.k 62 (vp b),.k 63 (.pointer (some ⟨b,1,none⟩))] ?_
 refine aF (n:=1) 0 #[vi root,vi nd.right,vi leaf,.slice ((some la)) ln lc,vi 0,vi 0,.bool false] bJ fun BP dY=>?_
 refine aa (wp_seq (sqr (sqp [.k 6 (.slice none 0 0),.k 7 (.bool false),.k 8 (vi 0)] ?_)))
 refine aa (wp_ret (aB (ai ?_)))
 refine bpr (.tuple #[.slice none 0 0,.bool false,vi 0]) (bq Try.results16 rpt rpt rpt) ?_
 rw[jc hnd fx (by omega)]
 have hn84:=bM dY 99 3
 simp only[List.cons_append,List.nil_append] at hn84
 have hup_:=hn84.upd
 have hpk_:=hn84.pick [0,4] (by decide) rfl
 subst hln
 exact⟨_,_,rfl,dv hpk_ hfp hbg hlt hlc (hL _ hup_) (fun ad e _=>by rw[<-Option.some.inj e];exact hla)⟩
 refine wp_seq (sqr (sqp [.k 65 (.pointer (some ⟨eh,1,none⟩))] ?_))
 refine al 3 bJ ?_
 refine sqp [.k 67 (.pointer (some ⟨dm,3,none⟩))] ?_
 refine al 1 bJ ?_
 refine sqp [.k 69 (.bool (decide (tl<nd.lv))),.m 64 69] ?_
 refine aa (wds (fun Eb zG=>?_) fun Eb zG=>?_)
 refine wp_seq (sqr (sqp [.m 70 0] ?_))
 refine d9 3 7 bJ ?_
 refine sqp [.k 72 (vp dm),.k 73 (vp dm)] ?_
 refine al 1 bJ ?_
 refine sqk (vi (cl te nd.es (-1))) bJ (fun cx=>⟨_,od _ _ _ _ _ _ _ _ _ _ nd.es _ (At.of_ownN (cx.ri 2 rfl)) rfl hN.es6 (by omega) (by omega),(aK (cx.ou 71) (cx.ou 74))⟩) fun OE zH=>?_
 refine sqp [.k 76 (vp b),.k 77 (.pointer (some ⟨b,1,none⟩))] ?_
 refine aF (n:=1) 0 #[vi root,vi (cl te nd.es (-1)),vi leaf,.slice ((some la)) ln lc,vi 0,vi 0,.bool false] zH fun Nl xg=>?_
 refine aa (wp_seq (sqr (sqp [.k 6 (.slice none 0 0),.k 7 (.bool false),.k 8 (vi 0)] ?_)))
 refine aa (wp_ret (aB (ai ?_)))
 refine bpr (.tuple #[.slice none 0 0,.bool false,vi 0]) (bq Try.results16 rpt rpt rpt) ?_
 rw[ma hnd fx (by omega)]
 have hn104:=bM xg 99 3
 simp only[List.cons_append,List.nil_append] at hn104
 have hup_:=hn104.upd
 have hpk_:=hn104.pick [0,4] (by decide) rfl
 subst hln
 exact⟨_,_,rfl,dv hpk_ hfp hbg hlt hlc (hL _ hup_) (fun ad e _=>by rw[<-Option.some.inj e];exact hla)⟩
 refine wp_seq (sqr (sqp [.k 79 (.pointer (some ⟨eh,1,none⟩))] ?_))
 refine al 3 bJ ?_
 refine sqp [.k 81 (.pointer (some ⟨dm,3,none⟩))] ?_
 refine al 1 bJ ?_
 refine sqp [.k 83 (.bool (decide (nd.lv<tl))),.m 78 83] ?_
 refine aa (wds (fun zI xh=>?_) fun zI xh=>?_)
 refine wp_seq (sqr (sqp [.k 6 (.slice none 0 0),.k 7 (.bool false),.k 8 (vi 11)] ?_))
 refine aa (wp_ret (aB (ai ?_)))
 refine bpr (.tuple #[.slice none 0 0,.bool false,vi 11]) (bq Try.results16 rpt rpt rpt) ?_
 rw[oT hnd fx (by omega) (by omega)]
 have hn115:=bM bJ 99 3
 simp only[List.cons_append,List.nil_append] at hn115
 have hup_:=hn115.upd
 have hpk_:=hn115.pick [0,4] (by decide) rfl
 subst hln
 exact⟨_,_,rfl,dv hpk_ hfp hbg hlt hlc (hL _ hup_) (fun ad e _=>by rw[<-Option.some.inj e];exact hla)⟩
 refine wp_seq ?_
 rcases CG nd te with hn8|⟨hn8,hq⟩|⟨hn8,hq⟩
 refine sqr (sqp [.k 85 (.pointer (some ⟨eh,5,none⟩))] ?_)
 refine al 3 bJ ?_
 refine sqp [.k 87 (vi ((nd.es.length:Int))),.e 88 (.bool (decide ((nd.es.length:Int)<8))) (.bool true) (congrArg Value.bool (decide_eq_true (by omega))),.k 89 (.bool true)] ?_
 refine sY 89 [90,91,92,93] rfl rfl ?_
 refine sqp [.k 94 (.bool true),.k 84 (.bool true)] ?_
 refine aa (wct rfl (wp_seq ?_))
 rcases hq:di nd.es te with _|_
 refine aj [0,0,0,7,15,31,63] [[],[3],[1],[0,2]] [[],[],[],[4,5]] [[],[],[],[0]] [.k 95 (vp b),.c 96 (.agg #[vi pos,vi nd.lv,vi nd.right,.string nd.high,.bool nd.dead,.slice EA43_48 nd.es.length ec43_48,vi ((nd.free:Int))]),.c 97 (.agg #[.string te,vi 0,vi tk,vi tl]),.a 98,.a 6,.k 7 (.bool false),.k 8 (vi 0)] (fun ix j d X=>match ix with|0|1|2=>True|3=>j 98= .slice (sA (d 98)) 1 (sC (d 98))/\X 4=eB b 109 #[vi root,vi root,vi ((if tl=0 then pos else leaf)),.slice ((if lc=1 then some la else (some la).map (·.add (1*4)))) ((ln-1)) ((lc-1)),vi 0,vi 0,.bool false]/\X 5=eO 99 3 (.slice (sA (d 98)) 1 (sC (d 98))) 1 ([(pos,(nd.free:Int),itB nd.lv tk te)].flatMap edC)|4=>j 6= .slice (sA (d 98)) 1 (sC (d 98))|_=>True) [1,2,3,4,5] [1,2,3,4] [(6,4,3,9),(86,0,4,90)] bJ ?_ ?_ ?_
 exact fun ix _ _ _ _ _ _ hs hb hx h=>match ix,h with
 |3,h=>by dsimp only;rw[<-hs 98 rfl,<-hb 98 rfl,<-hx 4 rfl,<-hx 5 rfl];exact h
 |4,h=>by dsimp only;rw[<-hs 6 rfl,<-hb 98 rfl];exact h
 |0,_|1,_|2,_|_+5,_=>trivial
 refine⟨?_,?_,?_,?_,trivial⟩
 exact xs4 rfl id fun cx=>aO (n:=7) rfl (by kernel_rfl) (by kernel_rfl) (cx.ou 10) (cx.bi 3 rfl) (nle rfl) rfl
 exact xs4 rfl id fun cx=>aO (n:=4) rfl (by kernel_rfl) (by kernel_rfl) (cx.ou 9) (cx.bi 1 rfl) (nle rfl) rfl
 refine svA fun l d W X cx=>?_
 refine ax.call (av (args:=#[vp b,.agg #[vi pos,vi nd.lv,vi nd.right,.string nd.high,.bool nd.dead,.slice EA43_48 nd.es.length ec43_48,vi ((nd.free:Int))],.agg #[.string te,vi 0,vi tk,vi tl]]) rfl cx.sees rfl (by kernel_rfl) (eC (cx.an 0) (cx.an 1) (cx.an 2))) ?_
 refine(kK _ _ _ _ _ _ _ _ _ _ nd pos _ _ te 0 tk tl false _ (cx.bi 0 rfl) (CtxV.keepAt cx (cx.init 2 _ rfl) (cx.init 0 _ rfl) rfl rfl (by decide)) (by omega) (by omega) (by omega) (by omega) hq).mono ?_
 rintro e W1 ⟨A4,c4,rfl,aR⟩
 refine⟨_,rfl,bw (E:=eB b 109 #[vi root,vi pos,vi leaf,.slice ((some la)) ln lc,vi 0,vi 0,.bool false]) [eB b 109 #[vi root,vi root,vi ((if tl=0 then pos else leaf)),.slice ((if lc=1 then some la else (some la).map (·.add (1*4)))) ((ln-1)) ((lc-1)),vi 0,vi 0,.bool false],eO 99 3 (.slice A4 1 c4) 1 ([(pos,(nd.free:Int),itB nd.lv tk te)].flatMap edC)] (cx.init 0 _ rfl) rfl rfl aR (fun j o X' hs hb hv hN=>?_)⟩
 have aZ:=(hv 98 rfl).1;have aJ:=(hv 98 rfl).2
 exact⟨aZ.trans (by rw[aJ];rfl),(List.cons.inj hN).1,(by rw[aJ];exact(List.cons.inj (List.cons.inj hN).2).1)⟩
 exact sv rfl rfl rfl rfl rfl _ (fun _ _ _ h=>h) (fun d o h=>by rw[h 98 (by decide)]) fun l d W X cx=>aN rfl (dTn (cx.an 3)).1
 intro j d X QK hD sh fr af
 simp only[exq 4 ((dTn (hD 3 lq)).2.1),exq 5 ((dTn (hD 3 lq)).2.2)] at sh
 simp only[ed 98 ((dTn (hD 3 lq)).1),ed 6 ((dTn (hD 4 lq)))] at af
 generalize sA (d 98)=G8,sC (d 98)=G9 at sh af
 clear hD;subst af;clear j d X
 refine aa (wp_ret (aB (ai ?_)))
 refine bpr (.tuple #[.slice G8 1 G9,.bool false,vi 0]) (bq Try.results16 rpt rpt rpt) ?_
 rw[ml hnd fx (by omega) (by omega) hq hn8]
 have hup_:=sh.upd
 have hpk_:=sh.pick [3,4] (by decide) rfl
 have hl1_:ln-1=lf.length:=by omega
 have hlv_:nd.lv=tl:=by omega
 rw[hl1_,hlv_] at hpk_
 exact⟨_,_,rfl,dv hpk_ hfp hbg hlt (by show lf.length<=lc-1;omega) (At.dropF (ts:=(te,tl,tk)::lf) fQ (hL _ hup_) 1 lc hlc) (fun ad e _=>by rw[jK e];exact hla)⟩
 refine aj [0,0,0,7,15,31,63] [[],[3],[1],[0,2]] [[],[],[],[4,5]] [[],[],[],[0]] [.k 95 (vp b),.c 96 (.agg #[vi pos,vi nd.lv,vi nd.right,.string nd.high,.bool nd.dead,.slice EA43_48 nd.es.length ec43_48,vi ((nd.free:Int))]),.c 97 (.agg #[.string te,vi 0,vi tk,vi tl]),.a 98,.a 6,.k 7 (.bool false),.k 8 (vi 0)] (fun ix j d X=>match ix with|0|1|2=>True|3=>j 98= .slice (sA (d 98)) 0 (sC (d 98))/\X 4=eB b 109 #[vi root,vi root,vi ((if tl=0 then pos else leaf)),.slice ((if lc=1 then some la else (some la).map (·.add (1*4)))) ((ln-1)) ((lc-1)),vi 0,vi 0,.bool false]/\X 5=eO 99 3 (.slice (sA (d 98)) 0 (sC (d 98))) 0 (([]:List EdT).flatMap edC)|4=>j 6= .slice (sA (d 98)) 0 (sC (d 98))|_=>True) [1,2,3,4,5] [1,2,3,4] [(6,4,3,9),(86,0,4,90)] bJ ?_ ?_ ?_
 exact fun ix _ _ _ _ _ _ hs hb hx h=>match ix,h with
 |3,h=>by dsimp only;rw[<-hs 98 rfl,<-hb 98 rfl,<-hx 4 rfl,<-hx 5 rfl];exact h
 |4,h=>by dsimp only;rw[<-hs 6 rfl,<-hb 98 rfl];exact h
 |0,_|1,_|2,_|_+5,_=>trivial
 refine⟨?_,?_,?_,?_,trivial⟩
 exact xs4 rfl id fun cx=>aO (n:=7) rfl (by kernel_rfl) (by kernel_rfl) (cx.ou 10) (cx.bi 3 rfl) (nle rfl) rfl
 exact xs4 rfl id fun cx=>aO (n:=4) rfl (by kernel_rfl) (by kernel_rfl) (cx.ou 9) (cx.bi 1 rfl) (nle rfl) rfl
 refine svA fun l d W X cx=>?_
 refine ax.call (av (args:=#[vp b,.agg #[vi pos,vi nd.lv,vi nd.right,.string nd.high,.bool nd.dead,.slice EA43_48 nd.es.length ec43_48,vi ((nd.free:Int))],.agg #[.string te,vi 0,vi tk,vi tl]]) rfl cx.sees rfl (by kernel_rfl) (eC (cx.an 0) (cx.an 1) (cx.an 2))) ?_
 refine(kK _ _ _ _ _ _ _ _ _ _ nd pos _ _ te 0 tk tl true _ (cx.bi 0 rfl) (CtxV.keepAt cx (cx.init 2 _ rfl) (cx.init 0 _ rfl) rfl rfl (by decide)) (by omega) (by omega) (by omega) (by omega) hq).mono ?_
 rintro e W1 ⟨A4,c4,rfl,aR⟩
 refine⟨_,rfl,bw (E:=eB b 109 #[vi root,vi pos,vi leaf,.slice ((some la)) ln lc,vi 0,vi 0,.bool false]) [eB b 109 #[vi root,vi root,vi ((if tl=0 then pos else leaf)),.slice ((if lc=1 then some la else (some la).map (·.add (1*4)))) ((ln-1)) ((lc-1)),vi 0,vi 0,.bool false],eO 99 3 (.slice A4 0 c4) 0 (([]:List EdT).flatMap edC)] (cx.init 0 _ rfl) rfl rfl aR (fun j o X' hs hb hv hN=>?_)⟩
 have aZ:=(hv 98 rfl).1;have aJ:=(hv 98 rfl).2
 exact⟨aZ.trans (by rw[aJ];rfl),(List.cons.inj hN).1,(by rw[aJ];exact(List.cons.inj (List.cons.inj hN).2).1)⟩
 exact sv rfl rfl rfl rfl rfl _ (fun _ _ _ h=>h) (fun d o h=>by rw[h 98 (by decide)]) fun l d W X cx=>aN rfl (dTn (cx.an 3)).1
 intro j d X Nm hD iU fr af
 simp only[exq 4 ((dTn (hD 3 lq)).2.1),exq 5 ((dTn (hD 3 lq)).2.2)] at iU
 simp only[ed 98 ((dTn (hD 3 lq)).1),ed 6 ((dTn (hD 4 lq)))] at af
 generalize sA (d 98)=tn,sC (d 98)=tp at iU af
 clear hD;subst af;clear j d X
 refine aa (wp_ret (aB (ai ?_)))
 refine bpr (.tuple #[.slice tn 0 tp,.bool false,vi 0]) (bq Try.results16 rpt rpt rpt) ?_
 rw[ik hnd fx (by omega) (by omega) hq]
 have hup_:=iU.upd
 have hpk_:=iU.pick [3,4] (by decide) rfl
 have hl1_:ln-1=lf.length:=by omega
 have hlv_:nd.lv=tl:=by omega
 rw[hl1_] at hpk_
 exact⟨_,_,rfl,dv hpk_ hfp hbg hlt (by show lf.length<=lc-1;omega) (At.dropF (ts:=(te,tl,tk)::lf) fQ (hL _ hup_) 1 lc hlc) (fun ad e _=>by rw[jK e];exact hla)⟩
 refine sqr (sqp [.k 85 (.pointer (some ⟨eh,5,none⟩))] ?_)
 refine al 3 bJ ?_
 refine sqp [.k 87 (vi ((nd.es.length:Int))),.e 88 (.bool (decide ((nd.es.length:Int)<8))) (.bool false) (congrArg Value.bool (decide_eq_false (by omega))),.k 89 (.bool false)] ?_
 refine fW 89 [90,91,92,93] rfl rfl ?_
 refine sqp [.k 90 (.pointer (some ⟨eh,5,none⟩))] ?_
 refine al 3 bJ ?_
 refine sqp [.m 92 12] ?_
 refine sqv (.bool false) bJ (eI rfl rfl rfl rfl rfl (fun _ _ _ h=>h.trans (congrArg Value.bool hq)) fun l d W X cx=>⟨_,_,av (args:=#[.slice EA43_48 nd.es.length ec43_48,.func (.func 48) #[] #[vp dm]]) rfl cx.sees rfl (by kernel_rfl) (aK (cx.ou 91) (cx.ou 92)),qC (At.of_ownN (cx.ri 2 rfl)) (by omega) (cx.bi 1 rfl)⟩) fun QL xu=>?_
 refine sqp [.k 94 (.bool false),.k 84 (.bool false)] ?_
 refine aa (wcf rfl (wp_seq (sqr (sqp [.m 100 2,.k 101 (.bool (decide (fresh<0))),.m 99 101] ?_))))
 refine aa (wds (fun LP Km=>?_) fun LP Km=>?_)
 refine wp_seq (sqr (sqp [.k 6 (.slice none 0 0),.k 7 (.bool false),.k 8 (vi 23)] ?_))
 refine aa (wp_ret (aB (ai ?_)))
 refine bpr (.tuple #[.slice none 0 0,.bool false,vi 23]) (bq Try.results16 rpt rpt rpt) ?_
 rw[s7 hnd fx (by omega) (by omega) hq hn8 (by omega)]
 have hn143:=bM xu 99 3
 simp only[List.cons_append,List.nil_append] at hn143
 have hup_:=hn143.upd
 have hpk_:=hn143.pick [0,4] (by decide) rfl
 subst hln
 exact⟨_,_,rfl,dv hpk_ hfp hbg hlt hlc (hL _ hup_) (fun ad e _=>by rw[<-Option.some.inj e];exact hla)⟩
 refine wp_skip (aw (aa (wp_seq ?_)))
 have hec:=d4 ((xu.get 2 rfl).holds:World.ownsRow _ 0 104 3 (.slice EA43_48 nd.es.length ec43_48) nd.es.length (nd.es.flatMap enC))
 have hdd:nd.dead=false:=by have h_:=fx;unfold cL at h_;rw[Bool.or_eq_false_iff] at h_;exact h_.1
 refine sqr (sqp [.m 102 0] ?_)
 refine sqv (.func (.func 53) #[vp b] #[]) xu (by
   exact sv0 rfl rfl rfl rfl rfl (fun _ _ _ h=>h) fun l d W X cx=>by
    have LQ:l (.tmp 102)=vp b:=(cx.ou 102)
    simp[go_sem,Instr.makeFunc,LQ]) fun QM Kn=>?_
 refine sqp [.m 13 103] ?_
 refine aa (wp_seq (wp_seq (bC [0,1,3,7,0,16,48,112,255] [[],[],[],[0],[],[],[],[0]] [.k 104 (vp b),.k 105 (vp b),.k 106 (.pointer (some ⟨b,1,none⟩)),.c 107 (vi pos),.k 108 (vp b),.k 109 (vp b),.k 110 (vp b),.c 111 (vi root),.k 112 (.bool (pos==root))] [0,1,2,3] [3,7] [(104,0,9,113)] Kn ?_ fun QN Cm=>?_)))
 refine⟨?_,?_,trivial⟩
 exact xs4 rfl id fun cx=>ae rfl (by kernel_rfl) (cx.an 2) ((cx.bi 0 rfl).cell 1)
 exact xs4 rfl id fun cx=>ae rfl (by kernel_rfl) (cx.an 6) ((cx.bi 0 rfl).cell 0)
 refine aa (wbs (fun zP=>?_) fun zP=>?_)
 have Ko:=beq_iff_eq.1 zP
 refine sqr (sqp [.m 113 0] ?_)
 refine sqv (.func (.func 54) #[vp b] #[]) Cm (by
   exact sv0 rfl rfl rfl rfl rfl (fun _ _ _ h=>h) fun l d W X cx=>by
    have LR:l (.tmp 113)=vp b:=(cx.ou 113)
    simp[go_sem,Instr.makeFunc,LR]) fun QO Kq=>?_
 refine sqp [.m 13 114] ?_
 refine aa (wp_seq (aj [0,0,0,7,15,31,63] [[],[3],[],[0,2]] [[],[],[],[4,5]] [[],[],[],[0]] [.k 115 (.func (.func 54) #[vp b] #[]),.c 116 (.agg #[vi pos,vi nd.lv,vi nd.right,.string nd.high,.bool nd.dead,.slice EA43_48 nd.es.length ec43_48,vi ((nd.free:Int))]),.k 117 (vi fresh),.a 118,.a 6,.k 7 (.bool true),.k 8 (vi 0)] (fun ix j d X=>match ix with|0|1|2=>True|3=>j 118= .slice (sA (d 118)) ((bT root nd fresh).length) (sC (d 118))/\X 4=eB b 109 #[vi root,vi fresh,vi leaf,.slice ((some la)) ln lc,vi 0,vi 0,.bool false]/\X 5=eO 99 3 (.slice (sA (d 118)) ((bT root nd fresh).length) (sC (d 118))) ((bT root nd fresh).length) ((bT root nd fresh).flatMap edC)|4=>j 6= .slice (sA (d 118)) ((bT root nd fresh).length) (sC (d 118))|_=>True) [1,2,3,4,5] [1,3,4] [(6,4,3,9),(106,0,4,110)] Kq ?_ ?_ ?_))
 exact fun ix _ _ _ _ _ _ hs hb hx h=>match ix,h with
 |3,h=>by dsimp only;rw[<-hs 118 rfl,<-hb 118 rfl,<-hx 4 rfl,<-hx 5 rfl];exact h
 |4,h=>by dsimp only;rw[<-hs 6 rfl,<-hb 118 rfl];exact h
 |0,_|1,_|2,_|_+5,_=>trivial
 refine⟨?_,?_,?_,trivial⟩
 exact xs4 rfl id fun cx=>aO (n:=7) rfl (by kernel_rfl) (by kernel_rfl) (cx.ou 10) (cx.bi 3 rfl) (nle rfl) rfl
 refine svA fun l d W X cx=>?_
 refine ax.call (fy (f:=54) (args:=#[.agg #[vi pos,vi nd.lv,vi nd.right,.string nd.high,.bool nd.dead,.slice EA43_48 nd.es.length ec43_48,vi ((nd.free:Int))],vi fresh]) (args':=#[vp b,.agg #[vi pos,vi nd.lv,vi nd.right,.string nd.high,.bool nd.dead,.slice EA43_48 nd.es.length ec43_48,vi ((nd.free:Int))],vi fresh]) rfl rfl (cx.an 0) (by kernel_rfl) (aK (cx.an 1) (cx.an 2)) rfl) ?_
 refine(A5 _ _ _ _ _ _ _ _ _ _ nd pos fresh _ _ _ (cx.bi 0 rfl) (CtxV.keepAt cx (cx.init 2 _ rfl) (cx.init 0 _ rfl) rfl rfl (by decide)) hN.es6 (by omega) (by omega) (by omega) (by omega)).mono ?_
 rintro e W1 ⟨A4,c4,rfl,aR⟩
 refine⟨_,rfl,bw (E:=eB b 109 #[vi root,vi pos,vi leaf,.slice ((some la)) ln lc,vi 0,vi 0,.bool false]) [eB b 109 #[vi root,vi fresh,vi leaf,.slice ((some la)) ln lc,vi 0,vi 0,.bool false],eO 99 3 (.slice A4 (bT root nd fresh).length c4) (bT root nd fresh).length ((bT root nd fresh).flatMap edC)] (cx.init 0 _ rfl) rfl rfl aR (fun j o X' hs hb hv hN=>?_)⟩
 have aZ:=(hv 118 rfl).1;have aJ:=(hv 118 rfl).2
 exact⟨aZ.trans (by rw[aJ];rfl),(List.cons.inj hN).1,(by rw[aJ];exact(List.cons.inj (List.cons.inj hN).2).1)⟩
 exact sv rfl rfl rfl rfl rfl _ (fun _ _ _ h=>h) (fun d o h=>by rw[h 118 (by decide)]) fun l d W X cx=>aN rfl (dTn (cx.an 3)).1
 intro j d X M9 hD kS fr af
 simp only[exq 4 ((dTn (hD 3 lq)).2.1),exq 5 ((dTn (hD 3 lq)).2.2)] at kS
 simp only[ed 118 ((dTn (hD 3 lq)).1),ed 6 ((dTn (hD 4 lq)))] at af
 generalize sA (d 118)=Ei,sC (d 118)=Ej at kS af
 clear hD;subst af;clear j d X
 refine aa (wp_ret ?_)
 refine bpr (.tuple #[.slice Ei ((bT root nd fresh).length) Ej,.bool true,vi 0]) (bq Try.results16 rpt rpt rpt) ?_
 rw[o7 hnd fx (by omega) (by omega) hq hn8 (by omega) (by omega)]
 have hup_:=kS.upd
 have hpk_:=kS.pick [3,4] (by decide) rfl
 subst hln
 exact⟨_,_,rfl,dv hpk_ hfp hbg hlt hlc (hL _ hup_) (fun ad e _=>by rw[<-Option.some.inj e];exact hla)⟩
 have Ko:=beq_eq_false_iff_ne.1 zP
 refine wp_skip (aa (wp_seq (aj [0,0,0,7,15,31,63] [[],[3],[],[0,2]] [[],[],[],[4,5]] [[],[],[],[0]] [.k 115 (.func (.func 53) #[vp b] #[]),.c 116 (.agg #[vi pos,vi nd.lv,vi nd.right,.string nd.high,.bool nd.dead,.slice EA43_48 nd.es.length ec43_48,vi ((nd.free:Int))]),.k 117 (vi fresh),.a 118,.a 6,.k 7 (.bool true),.k 8 (vi 0)] (fun ix j d X=>match ix with|0|1|2=>True|3=>j 118= .slice (sA (d 118)) ((bR pos nd fresh).length) (sC (d 118))/\X 4=ePk b ⟨root,pos,leaf,(te,tl,tk)::lf++[(bN nd,nd.lv+1,fresh)],if nd.lv=0 then pos else 0,if nd.lv=0 then fresh else 0,if nd.lv=0 then true else false⟩ ((X 4).fp)/\X 5=eO 99 3 (.slice (sA (d 118)) ((bR pos nd fresh).length) (sC (d 118))) ((bR pos nd fresh).length) ((bR pos nd fresh).flatMap edC)|4=>j 6= .slice (sA (d 118)) ((bR pos nd fresh).length) (sC (d 118))|_=>True) [1,2,3,4,5] [1,3,4] [(6,4,3,9),(106,0,4,110)] Cm ?_ ?_ ?_)))
 exact fun ix _ _ _ _ _ _ hs hb hx h=>match ix,h with
 |3,h=>by dsimp only;rw[<-hs 118 rfl,<-hb 118 rfl,<-hx 4 rfl,<-hx 5 rfl];exact h
 |4,h=>by dsimp only;rw[<-hs 6 rfl,<-hb 118 rfl];exact h
 |0,_|1,_|2,_|_+5,_=>trivial
 refine⟨?_,?_,?_,trivial⟩
 exact xs4 rfl id fun cx=>aO (n:=7) rfl (by kernel_rfl) (by kernel_rfl) (cx.ou 10) (cx.bi 3 rfl) (nle rfl) rfl
 refine svA fun l d W X cx=>?_
 refine ax.call (fy (f:=53) (args:=#[.agg #[vi pos,vi nd.lv,vi nd.right,.string nd.high,.bool nd.dead,.slice EA43_48 nd.es.length ec43_48,vi ((nd.free:Int))],vi fresh]) (args':=#[vp b,.agg #[vi pos,vi nd.lv,vi nd.right,.string nd.high,.bool nd.dead,.slice EA43_48 nd.es.length ec43_48,vi ((nd.free:Int))],vi fresh]) rfl rfl (cx.an 0) (by kernel_rfl) (aK (cx.an 1) (cx.an 2)) rfl) ?_
 refine(FI _ _ _ _ _ _ _ nd pos fresh _ _ ((te,tl,tk)::lf) _ (cx.bi 0 rfl) (CtxV.keepAt cx (cx.init 2 _ rfl) (cx.init 0 _ rfl) rfl rfl (by decide)) hN.es6 (by omega) (by omega) (by omega) (by omega) hec (by omega) (by omega) hdd (fun W' hu=>hL W' (cx.upd.join hu (fun i hi=> .inl hi))) hln (by omega)).mono ?_
 rintro e W1 ⟨A4,c4,fp4,rfl,aR⟩
 refine⟨_,rfl,bw (E:=eB b 109 #[vi root,vi pos,vi leaf,.slice ((some la)) ln lc,vi 0,vi 0,.bool false]) [ePk b ⟨root,pos,leaf,(te,tl,tk)::lf++[(bN nd,nd.lv+1,fresh)],if nd.lv=0 then pos else 0,if nd.lv=0 then fresh else 0,if nd.lv=0 then true else false⟩ fp4,eO 99 3 (.slice A4 (bR pos nd fresh).length c4) (bR pos nd fresh).length ((bR pos nd fresh).flatMap edC)] (cx.init 0 _ rfl) rfl rfl aR (fun j o X' hs hb hv hN=>?_)⟩
 have aZ:=(hv 118 rfl).1;have aJ:=(hv 118 rfl).2
 exact⟨aZ.trans (by rw[aJ];rfl),pX ((List.cons.inj hN).1),(by rw[aJ];exact(List.cons.inj (List.cons.inj hN).2).1)⟩
 exact sv rfl rfl rfl rfl rfl _ (fun _ _ _ h=>h) (fun d o h=>by rw[h 118 (by decide)]) fun l d W X cx=>aN rfl (dTn (cx.an 3)).1
 intro j d X QP hD Cn fr af
 obtain⟨Ek,l6⟩:∃z,sA (d 118)=z:=⟨_,rfl⟩
 obtain⟨El,l7⟩:∃z,sC (d 118)=z:=⟨_,rfl⟩
 have Kr:X 4= _:=(dTn (hD 3 lq)).2.1
 obtain⟨Pv,uq⟩:∃z,(X 4).fp=z:=⟨_,rfl⟩
 rw[uq] at Kr
 clear uq
 simp only[Kr,exq 5 ((dTn (hD 3 lq)).2.2),l6,l7] at Cn
 simp only[ed 118 ((dTn (hD 3 lq)).1),ed 6 ((dTn (hD 4 lq))),l6,l7] at af
 clear hD Kr l6 l7;subst af;clear j d X
 refine aa (wp_ret ?_)
 refine bpr (.tuple #[.slice Ek ((bR pos nd fresh).length) El,.bool true,vi 0]) (bq Try.results16 rpt rpt rpt) ?_
 rw[qX hnd fx (by omega) (by omega) hq hn8 (by omega) (by omega)]
 have hlv_:nd.lv=tl:=by omega
 have hpk_:=Cn.pick [3,4] (by decide) rfl
 rw[hlv_] at hpk_
 exact⟨_,_,rfl,_,St.monoB hpk_ (by rw[hfp];simp[eB])⟩
 refine sqr (sqp [.k 85 (.pointer (some ⟨eh,5,none⟩))] ?_)
 refine al 3 bJ ?_
 refine sqp [.k 87 (vi ((nd.es.length:Int))),.e 88 (.bool (decide ((nd.es.length:Int)<8))) (.bool false) (congrArg Value.bool (decide_eq_false (by omega))),.k 89 (.bool false)] ?_
 refine fW 89 [90,91,92,93] rfl rfl ?_
 refine sqp [.k 90 (.pointer (some ⟨eh,5,none⟩))] ?_
 refine al 3 bJ ?_
 refine sqp [.m 92 12] ?_
 refine sqv (.bool true) bJ (eI rfl rfl rfl rfl rfl (fun _ _ _ h=>h.trans (congrArg Value.bool hq)) fun l d W X cx=>⟨_,_,av (args:=#[.slice EA43_48 nd.es.length ec43_48,.func (.func 48) #[] #[vp dm]]) rfl cx.sees rfl (by kernel_rfl) (aK (cx.ou 91) (cx.ou 92)),qC (At.of_ownN (cx.ri 2 rfl)) (by omega) (cx.bi 1 rfl)⟩) fun Na rV=>?_
 refine sqp [.k 94 (.bool true),.k 84 (.bool true)] ?_
 refine aa (wct rfl (wp_seq (aj [0,0,0,7,15,31,63] [[],[3],[1],[0,2]] [[],[],[],[4,5]] [[],[],[],[0]] [.k 95 (vp b),.c 96 (.agg #[vi pos,vi nd.lv,vi nd.right,.string nd.high,.bool nd.dead,.slice EA43_48 nd.es.length ec43_48,vi ((nd.free:Int))]),.c 97 (.agg #[.string te,vi 0,vi tk,vi tl]),.a 98,.a 6,.k 7 (.bool false),.k 8 (vi 0)] (fun ix j d X=>match ix with|0|1|2=>True|3=>j 98= .slice (sA (d 98)) 0 (sC (d 98))/\X 4=eB b 109 #[vi root,vi root,vi ((if tl=0 then pos else leaf)),.slice ((if lc=1 then some la else (some la).map (·.add (1*4)))) ((ln-1)) ((lc-1)),vi 0,vi 0,.bool false]/\X 5=eO 99 3 (.slice (sA (d 98)) 0 (sC (d 98))) 0 (([]:List EdT).flatMap edC)|4=>j 6= .slice (sA (d 98)) 0 (sC (d 98))|_=>True) [1,2,3,4,5] [1,2,3,4] [(6,4,3,9),(86,0,4,90)] rV ?_ ?_ ?_)))
 exact fun ix _ _ _ _ _ _ hs hb hx h=>match ix,h with
 |3,h=>by dsimp only;rw[<-hs 98 rfl,<-hb 98 rfl,<-hx 4 rfl,<-hx 5 rfl];exact h
 |4,h=>by dsimp only;rw[<-hs 6 rfl,<-hb 98 rfl];exact h
 |0,_|1,_|2,_|_+5,_=>trivial
 refine⟨?_,?_,?_,?_,trivial⟩
 exact xs4 rfl id fun cx=>aO (n:=7) rfl (by kernel_rfl) (by kernel_rfl) (cx.ou 10) (cx.bi 3 rfl) (nle rfl) rfl
 exact xs4 rfl id fun cx=>aO (n:=4) rfl (by kernel_rfl) (by kernel_rfl) (cx.ou 9) (cx.bi 1 rfl) (nle rfl) rfl
 refine svA fun l d W X cx=>?_
 refine ax.call (av (args:=#[vp b,.agg #[vi pos,vi nd.lv,vi nd.right,.string nd.high,.bool nd.dead,.slice EA43_48 nd.es.length ec43_48,vi ((nd.free:Int))],.agg #[.string te,vi 0,vi tk,vi tl]]) rfl cx.sees rfl (by kernel_rfl) (eC (cx.an 0) (cx.an 1) (cx.an 2))) ?_
 refine(kK _ _ _ _ _ _ _ _ _ _ nd pos _ _ te 0 tk tl true _ (cx.bi 0 rfl) (CtxV.keepAt cx (cx.init 2 _ rfl) (cx.init 0 _ rfl) rfl rfl (by decide)) (by omega) (by omega) (by omega) (by omega) hq).mono ?_
 rintro e W1 ⟨A4,c4,rfl,aR⟩
 refine⟨_,rfl,bw (E:=eB b 109 #[vi root,vi pos,vi leaf,.slice ((some la)) ln lc,vi 0,vi 0,.bool false]) [eB b 109 #[vi root,vi root,vi ((if tl=0 then pos else leaf)),.slice ((if lc=1 then some la else (some la).map (·.add (1*4)))) ((ln-1)) ((lc-1)),vi 0,vi 0,.bool false],eO 99 3 (.slice A4 0 c4) 0 (([]:List EdT).flatMap edC)] (cx.init 0 _ rfl) rfl rfl aR (fun j o X' hs hb hv hN=>?_)⟩
 have aZ:=(hv 98 rfl).1;have aJ:=(hv 98 rfl).2
 exact⟨aZ.trans (by rw[aJ];rfl),(List.cons.inj hN).1,(by rw[aJ];exact(List.cons.inj (List.cons.inj hN).2).1)⟩
 exact sv rfl rfl rfl rfl rfl _ (fun _ _ _ h=>h) (fun d o h=>by rw[h 98 (by decide)]) fun l d W X cx=>aN rfl (dTn (cx.an 3)).1
 intro j d X QQ hD si fr af
 simp only[exq 4 ((dTn (hD 3 lq)).2.1),exq 5 ((dTn (hD 3 lq)).2.2)] at si
 simp only[ed 98 ((dTn (hD 3 lq)).1),ed 6 ((dTn (hD 4 lq)))] at af
 generalize sA (d 98)=Ha,sC (d 98)=Hb at si af
 clear hD;subst af;clear j d X
 refine aa (wp_ret (aB (ai ?_)))
 refine bpr (.tuple #[.slice Ha 0 Hb,.bool false,vi 0]) (bq Try.results16 rpt rpt rpt) ?_
 rw[ik hnd fx (by omega) (by omega) hq]
 have hup_:=si.upd
 have hpk_:=si.pick [3,4] (by decide) rfl
 have hl1_:ln-1=lf.length:=by omega
 have hlv_:nd.lv=tl:=by omega
 rw[hl1_] at hpk_
 exact⟨_,_,rfl,dv hpk_ hfp hbg hlt (by show lf.length<=lc-1;omega) (At.dropF (ts:=(te,tl,tk)::lf) fQ (hL _ hup_) 1 lc hlc) (fun ad e _=>by rw[jK e];exact hla)⟩
end
section
open Go.RowKit
theorem d7{b:Nat}{ps:List PgS}{w:World}(h:vP w b ps)(hl:ps.length<=1000):PgsOk w 24 (.pointer (some ⟨b,0,none⟩)) ps:=
 ⟨⟨58,_,fun W=>by kernel_rfl,by kernel_rfl,fun x=>tG b ps x w h hl⟩⟩
theorem DB{b bk:Nat}{ps:List PgS}{p:PuT}{fresh:Int}{fp:List Nat}{w:World}(h:(ePk b p fp).holds w)(hB:BkU fp w bk ps)(hne:p.left≠[])(hok:OkS ps)(hoc:OkC ps)(h10:p.left.length<=10000)(hte:∀t∈p.left,t.1.size<=900000/\0<=t.2.1/\t.2.1<=90000)(h8:∀nd,ao ps p.pos=some nd->nd.es.length<8):
  Calls Try.prog 16 #[.pointer (some ⟨b,0,none⟩),.iface 24 (.pointer (some ⟨bk,0,none⟩)),.int .i64 fresh] w (kE b (aU ps p fresh) fp w):=by
 obtain⟨A,c,g,hfp,hbg,hc,hAg,hlt,hb,hA⟩:=h
 obtain⟨root,pos,leaf,left,fro,to,spl⟩:=p
 cases left with
 |nil=>exact absurd rfl hne
 |cons t lf=>
  obtain⟨te,tl,tk⟩:=t
  obtain⟨la,rfl,_,_⟩:=hA 0 (.string te) rfl
  have hg:=hAg la rfl (by simp)
  have ht:=hte (te,tl,tk) (by simp)
  obtain⟨LA,lcc,Ps,h1,h2⟩:=hB
  refine FG b _ _ root pos leaf fro to spl la _ c te tl tk lf ps fresh fp g w hb (fun W hW=>?_) rfl hc h10 (fun W hW=>d7 ⟨LA,lcc,Ps,h1,h2 W (hW.mono fun k _ hk=>by rw[hfp,List.mem_singleton.1 hk];simp)⟩ hok.len) hok hoc hfp hbg hlt hg ht.1 ht.2 h8
  refine dZ hA fun ad e _=>?_
  rw[<-Option.some.inj e]
  exact hW.block _ (hlt _ hg) (fun hm=>hbg (by rw[List.mem_singleton] at hm;exact hm ▸ hg))
theorem Ff{b:Nat}{p:PuT}{fp:List Nat}{w:World}(h:(ePk b p fp).holds w)(h0:p.left=[]):Calls Try.prog 21 #[.pointer (some ⟨b,0,none⟩)] w (Ret (.bool true) w):=by
 have h1:=vm h
 rw[h0] at h1
 exact h1
def nG:List PgS:=doB (dt 4) (dU 3)
def wu:ByteArray:=⟨#[97,98]⟩
def y8:ByteArray:=⟨#[97,98,0,1,0,2]⟩
theorem s5:nG=[(2,0,[⟨#[0,0,0,0]⟩]),(0,0,[]),(0,0,[]),(2,0,[⟨#[0,0,0,0]⟩])]:=by kernel_rfl
theorem s9:OkS nG:=by
 rw[s5]
 refine⟨by decide,fun p hp=>?_,fun p hp s hs=>?_⟩
 simp only[List.mem_cons,List.not_mem_nil,or_false] at hp
 rcases hp with rfl|rfl|rfl|rfl<;>decide
 simp only[List.mem_cons,List.not_mem_nil,or_false] at hp
 rcases hp with rfl|rfl|rfl|rfl<;>simp at hs<;>subst hs<;>decide
theorem AK:OkC nG:=by
 rw[s5]
 intro p hp
 simp only[List.mem_cons,List.not_mem_nil,or_false] at hp
 rcases hp with rfl|rfl|rfl|rfl<;>decide
def Mj:NoD:=⟨0,-1,⟨#[]⟩,false,[],1⟩
theorem sanB_nd:ao nG 3=some Mj:=by kernel_rfl
def Dz:PuT:=⟨3,3,3,[],0,0,false⟩
theorem Da:aU nG (dD 3 wu 1 2) (-1)=(Dz,⟨[(3,1,y8)],false,0⟩):=by kernel_rfl
theorem H7:du nG 3=0:=by rw[s5];kernel_rfl
theorem Gc{v v':Value}{f:FuncId}{args:Array Value}{w:World}(h:v=v')(hc:Calls Try.prog f args w (Ret v w)):Calls Try.prog f args w (Ret v' w):=h ▸ hc
theorem Ey{P:Program}{f:FuncId}{args:Array Value}{w:World}{b:Nat}{fp:List Nat}{R R':PuT×GoT}(hR:R=R')(hc:Calls P f args w (kE b R fp w)):Calls P f args w (kE b R' fp w):=hR ▸ hc
theorem uy{w:World}{A:Option Addr}{xs ys:List Value}(h:At w A xs)(e:xs=ys):At w A ys:=e ▸ h
theorem wz(w:World):
  Calls Try.prog 10 #[] w (Ret (.bool true) w):=by
 go_enter Try.func10,Try.ntmps10
 have aq:=St.start w
 refine wp_seq (sqr (sqp [.k 0 (.bool false)] ?_))
 refine aa (wp_seq (sqr ?_))
 refine pd (fun cI=>vp cI) (fun cI qt=>eBk cI (dt 4) qt) aq (fun cx=>⟨_,(rA 4 _ (by decide)).mono (by rintro e W1 ⟨B4,fp4,rfl,aR⟩;exact⟨_,_,rfl,aR⟩),(br (cx.co _))⟩) fun cI qt W2 aV=>?_
 refine sqp [.m 1 9] ?_
 refine aa (wp_seq (aj [0,0,2,6,0,16,48,126,255,511] [[],[],[2],[],[],[3],[],[],[1,4]] [[1],[2],[],[],[3],[],[],[4]] [] [.a 10,.a 11,.c 12 (.string (strOfNums ([2]))),.k 13 (.agg #[vi 3,vi (-1),.string (strOfNums ([2]))]),.a 14,.c 15 (.string (strOfNums ([0,0,0,0]))),.k 16 (.agg #[vi 3,vi 0,.string (strOfNums ([0,0,0,0]))]),.a 17,.c 18 (.bool true),.k 2 (.bool true)] (fun ix f b X=>match ix with|0=>f 10= .slice (sA (b 10)) 2 (sC (b 10))/\X 1=eO 99 3 (.slice (sA (b 10)) 2 (sC (b 10))) 2 ((dU 3).flatMap edC)|1=>f 11= .slice (sA (b 11)) 1 1/\X 2=eO 5 1 (.slice (sA (b 11)) 1 1) 1 ([.int .u8 2])|2|3=>True|4=>f 14= .slice (sA (b 14)) 4 4/\X 3=eO 5 1 (.slice (sA (b 14)) 4 4) 4 ([.int .u8 0,.int .u8 0,.int .u8 0,.int .u8 0])|5|6=>True|7=>f 17= .slice ((some ⟨(pb' (b 17)),0,none⟩)) 2 2/\X 4=eO 99 3 (.slice ((some ⟨(pb' (b 17)),0,none⟩)) 2 2) 2 ([vi 3,vi (-1),.string (strOfNums ([2])),vi 3,vi 0,.string (strOfNums ([0,0,0,0]))])|_=>True) [0,1,2,3,4] [0,1,2,4,5,7,8] [(2,9,1,3),(7,0,9,16)] aV ?_ ?_ ?_))
 exact fun ix _ _ _ _ _ _ hs hb hx h=>match ix,h with
 |0,h=>by dsimp only;rw[<-hs 10 rfl,<-hb 10 rfl,<-hx 1 rfl];exact h
 |1,h=>by dsimp only;rw[<-hs 11 rfl,<-hb 11 rfl,<-hx 2 rfl];exact h
 |4,h=>by dsimp only;rw[<-hs 14 rfl,<-hb 14 rfl,<-hx 3 rfl];exact h
 |7,h=>by dsimp only;rw[<-hs 17 rfl,<-hb 17 rfl,<-hx 4 rfl];exact h
 |2,_|3,_|5,_|6,_|_+8,_=>trivial
 refine⟨?_,?_,?_,?_,?_,?_,?_,trivial⟩
 refine svA fun d b W X cx=>?_
 refine ax.call (av (args:=#[vi 3]) rfl cx.sees rfl (by kernel_rfl) (br (cx.co _))) ?_
 refine(qA 3 _).mono ?_
 rintro e W1 ⟨A4,c4,rfl,ho_,hx⟩
 refine⟨_,rfl,cR [eO 99 3 (.slice A4 2 c4) 2 ((dU 3).flatMap edC)] rfl rfl hx (mn (eS (n:=2) (xs:=(dU 3).flatMap edC) ho_)) (List.pairwise_singleton _ _) (fun f g X' hs hb hv hN=>?_)⟩
 have aZ:=(hv 10 rfl).1;have aJ:=(hv 10 rfl).2
 exact⟨aZ.trans (by rw[aJ];rfl),(by rw[aJ];exact(List.cons.inj hN).1)⟩
 refine svA fun d b W X cx=>?_
 exact bY (e:=5) (xs:=[.int .u8 2]) rfl (by simp[go_sem,cx.sees.const]) rfl (by decide) rfl rfl (fun _ _ _ _ _=> .intro)
 exact xs4 rfl id fun cx=>cd (e:=5) rfl (by kernel_rfl) (by kernel_rfl) (by kernel_rfl) (dTn (cx.an 1)).1 (cx.row (dTn (cx.an 1)).2 rfl)
 refine svA fun d b W X cx=>?_
 exact bY (e:=5) (xs:=[.int .u8 0,.int .u8 0,.int .u8 0,.int .u8 0]) rfl (by simp[go_sem,cx.sees.const]) rfl (by decide) rfl rfl (fun _ _ _ _ _=> .intro)
 exact xs4 rfl id fun cx=>cd (e:=5) rfl (by kernel_rfl) (by kernel_rfl) (by kernel_rfl) (dTn (cx.an 4)).1 (cx.row (dTn (cx.an 4)).2 rfl)
 refine svA fun d b W X cx=>?_
 have qs:d (.tmp 13)= .agg #[vi 3,vi (-1),.string (strOfNums ([2]))]:=(cx.an 3)
 have ND:d (.tmp 16)= .agg #[vi 3,vi 0,.string (strOfNums ([0,0,0,0]))]:=(cx.an 6)
 exact bS (e:=99) (sz:=3) (xs:=[vi 3,vi (-1),.string (strOfNums ([2])),vi 3,vi 0,.string (strOfNums ([0,0,0,0]))]) rfl (by simp[go_sem,qs,ND]) rfl (by decide) rfl rfl (fun _ _ _ _ _=> .intro)
 exact xsc rfl id rfl rfl fun cx=>⟨_,tH _ _ _ _ (dU 3) _ (uy (At.of_ownN (cx.row (dTn (cx.an 0)).2 rfl)) (by kernel_rfl)) (uy (At.of_ownN (cx.row (dTn (cx.an 7)).2 rfl)) (by kernel_rfl)) (by decide),(aK (dTn (cx.an 0)).1 (dTn (cx.an 7)).1)⟩
 intro f b X W4 hD bQ fr af
 simp only[exq 1 ((dTn (hD 0 lq)).2),exq 2 ((dTn (hD 1 lq)).2),exq 3 ((dTn (hD 4 lq)).2),exq 4 ((dTn (hD 7 lq)).2)] at bQ
 simp only[ed 10 ((dTn (hD 0 lq)).1),ed 11 ((dTn (hD 1 lq)).1),ed 14 ((dTn (hD 4 lq)).1),ed 17 ((dTn (hD 7 lq)).1)] at af
 generalize sA (b 10)=PG,sC (b 10)=PH,sA (b 11)=PI,sA (b 14)=PJ,pb' (b 17)=PK at bQ af
 clear hD;subst af;clear f b X
 refine aa (wp_seq (sqr (sqp [.m 19 1] ?_)))
 refine gQ (fun sj sk=> .slice sj 2 sk) (fun sj sk=>eO 99 3 (.slice sj 2 sk) 2 ((dU 3).flatMap edC)) bQ (fun cx=>⟨_,(qA 3 _).mono (by rintro e W1 ⟨A4,c4,rfl,ho_,hx⟩;exact⟨_,_,rfl,St.one hx (eS (n:=2) (xs:=(dU 3).flatMap edC) ho_)⟩),(br (cx.co _))⟩) fun sj sk W6 ci=>?_
 refine mF (fun X_=>X_.fp) (.tuple #[]) (fun Ks=>eBk cI (doB (dt 4) (dU 3)) Ks) 0 ci (by
   refine svA fun d b W X cx=>?_
   refine ax.call (av (args:=#[vp cI,.slice sj 2 sk]) rfl cx.sees rfl (by kernel_rfl) (aK (cx.ou 19) (cx.ou 20))) ?_
   refine(i8 cI (dt 4) _ 4 _ _ (dU 3) _ (CtxV.holdF cx (cx.init 0 _ rfl) rfl) (CtxV.ltF cx (cx.init 0 _ rfl) rfl) (CtxV.keepAt cx (cx.init 5 _ rfl) (cx.init 0 _ rfl) rfl rfl (by decide)) (by decide) (ig 4).2 (by decide) (ig 4).1.its).mono ?_
   rintro e W1 ⟨rfl,fp4,aR⟩
   refine⟨_,rfl,bw (E:=eBk cI (dt 4) qt) [eBk cI (doB (dt 4) (dU 3)) fp4] (cx.init 0 _ rfl) rfl rfl aR (fun f g X' hs hb hv hN=>?_)⟩
   have aZ:=(hv 21 rfl).1;have aJ:=(hv 21 rfl).2
   exact⟨aZ.trans rfl,ij ((List.cons.inj hN).1)⟩) fun Ks W7 bF=>?_
 refine aa (wp_seq ?_)
 have hsb_:doB (dt 4) (dU 3)=nG:=rfl
 rw[hsb_] at bF
 refine sqr (sqp [.k 22 (.agg #[vi 1,vi 2])] ?_)
 refine pd (fun jF=>vp jF) (fun jF Em=>ePk jF (dD 3 (⟨#[97,98]⟩:ByteArray) 1 2) Em) bF (fun cx=>⟨_,(qE 3 (⟨#[97,98]⟩:ByteArray) 1 2 _ (by decide)).mono (by rintro e W1 ⟨B4,fp4,rfl,aR⟩;exact⟨_,_,rfl,aR⟩),(eC (cx.co _) (cx.co _) (cx.ou 22))⟩) fun jF Em W9 bh=>?_
 refine sqp [.m 3 23] ?_
 refine aa (wp_seq (wp_seq (sqr (sqp [.m 24 3] ?_))))
 refine sqv (.bool false) bh (by
   exact sv0 rfl rfl rfl rfl rfl (fun _ _ _ h=>h) fun d b W X cx=>by
    have DU:d (.tmp 24)=vp jF:=(cx.ou 24)
    simp[go_sem,cx.sees.const,DU]) fun nD cb=>?_
 refine aa (wcf rfl (wp_skip (aa (wp_seq (aj [0,0,2,7,15,31,31,31,63,383,1023] [[],[],[],[6,0]] [[],[],[],[7,8]] [[],[],[],[6]] [.k 27 (vp jF),.k 28 (vp cI),.c 29 (.iface 24 (vp cI)),.a 30,.a 26,.a 31,.c 32 (.bool false),.c 33 (vi 0),.a 4,.k 5 (.bool false),.k 6 (vi 0)] (fun ix f b X=>match ix with|0|1|2=>True|3=>f 30= .tuple #[.slice (sA (tg (b 30) 0)) 1 (sC (tg (b 30) 0)),.bool false,vi 0]/\X 7=ePk jF Dz ((X 7).fp)/\X 8=eO 99 3 (.slice (sA (tg (b 30) 0)) 1 (sC (tg (b 30) 0))) 1 ([(3,1,y8)].flatMap edC)|4=>f 26= .tuple #[.slice (sA (tg (b 30) 0)) 1 (sC (tg (b 30) 0)),.bool false,vi 0]|5=>f 31= .slice (sA (tg (b 30) 0)) 1 (sC (tg (b 30) 0))|6|7=>True|8=>f 4= .slice (sA (tg (b 30) 0)) 1 (sC (tg (b 30) 0))|_=>True) [0,1,2,3,4,5,7,8] [2,3,4,5,6,7,8] [(4,8,3,7),(19,4,1,20),(0,0,4,4),(0,5,3,3)] cb ?_ ?_ ?_)))))
 exact fun ix _ _ _ _ _ _ hs hb hx h=>match ix,h with
 |3,h=>by dsimp only;rw[<-hs 30 rfl,<-hb 30 rfl,<-hx 7 rfl,<-hx 8 rfl];exact h
 |4,h=>by dsimp only;rw[<-hs 26 rfl,<-hb 30 rfl];exact h
 |5,h=>by dsimp only;rw[<-hs 31 rfl,<-hb 30 rfl];exact h
 |8,h=>by dsimp only;rw[<-hs 4 rfl,<-hb 30 rfl];exact h
 |0,_|1,_|2,_|6,_|7,_|_+9,_=>trivial
 refine⟨?_,?_,?_,?_,?_,?_,?_,trivial⟩
 exact sv0 rfl rfl rfl rfl rfl (fun _ _ _ h=>h) fun d b W X cx=>by
  have Ee:d (.tmp 28)=vp cI:=(cx.an 1)
  simp[go_sem,Ee]
 refine svA fun d b W X cx=>?_
 refine ax.call (av (args:=#[vp jF,.iface 24 (vp cI),vi (-1)]) rfl cx.sees rfl (by kernel_rfl) (eC (cx.an 0) (cx.an 2) (cx.co _))) ?_
 refine(Ey Da (DB (fresh:= -1) (CtxV.holdF cx (cx.init 6 _ rfl) rfl) (CtxV.bkU cx (cx.init 0 _ rfl) (cx.init 6 _ rfl) rfl rfl (by decide)) (by decide) s9 AK (by decide) (fun t ht=>by rw[dD,List.mem_singleton] at ht;subst ht;decide) (fun nd h=>by have h_:=sanB_nd.symm.trans h;rw[<-Option.some.inj h_];decide))).mono ?_
 rintro e W1 ⟨A4,c4,rfl,fp4,aR⟩
 refine⟨_,rfl,bw (E:=ePk jF (dD 3 (⟨#[97,98]⟩:ByteArray) 1 2) Em) [ePk jF Dz fp4,eO 99 3 (.slice A4 1 c4) 1 ([(3,1,y8)].flatMap edC)] (cx.init 6 _ rfl) rfl rfl aR (fun f g X' hs hb hv hN=>?_)⟩
 have aZ:=(hv 30 rfl).1;have aJ:=(hv 30 rfl).2
 exact⟨aZ.trans (by rw[aJ];rfl),pX ((List.cons.inj hN).1),(by rw[aJ];exact(List.cons.inj (List.cons.inj hN).2).1)⟩
 exact sv rfl rfl rfl rfl rfl _ (fun _ _ _ h=>h) (fun b g h=>by rw[h 30 (by decide)]) fun d b W X cx=>b7 rfl (dTn (cx.an 3)).1
 exact sv rfl rfl rfl rfl rfl _ (fun _ _ _ h=>h) (fun b g h=>by rw[h 30 (by decide)]) fun d b W X cx=>aG rfl (dTn (cx.an 4)) rfl
 exact xs4 rfl id fun cx=>aG rfl (dTn (cx.an 4)) rfl
 exact xs4 rfl id fun cx=>aG rfl (dTn (cx.an 4)) rfl
 exact sv rfl rfl rfl rfl rfl _ (fun _ _ _ h=>h) (fun b g h=>by rw[h 30 (by decide)]) fun d b W X cx=>aN rfl (dTn (cx.an 5))
 intro f b X kO hD bE fr af
 obtain⟨Pw,oQ⟩:∃z,sA (tg (b 30) 0)=z:=⟨_,rfl⟩
 obtain⟨Py,oS⟩:∃z,sC (tg (b 30) 0)=z:=⟨_,rfl⟩
 have kT:X 7= _:=(dTn (hD 3 lq)).2.1
 obtain⟨PL,xv⟩:∃z,(X 7).fp=z:=⟨_,rfl⟩
 rw[xv] at kT
 clear xv
 simp only[kT,exq 8 ((dTn (hD 3 lq)).2.2),oQ,oS] at bE
 simp only[ed 30 ((dTn (hD 3 lq)).1),ed 26 ((dTn (hD 4 lq))),ed 31 ((dTn (hD 5 lq))),ed 4 ((dTn (hD 8 lq))),oQ,oS] at af
 clear hD kT oQ oS;subst af;clear f b X
 refine aa (wp_seq (sqr ?_))
 refine lS (fun x_=>sA x_) (fun sm=> .slice sm 4 4) (fun sm=>eO 5 1 (.slice sm 4 4) 4 ([.int .u8 0,.int .u8 1,.int .u8 0,.int .u8 2])) bE (by
   refine svA fun d b W X cx=>?_
   exact bY (e:=5) (xs:=[.int .u8 0,.int .u8 1,.int .u8 0,.int .u8 2]) rfl (by simp[go_sem,cx.sees.const]) rfl (by decide) rfl rfl (fun _ _ _ _ _=> .intro)) fun sm iY bn=>?_
 refine sql (.string (strOfNums ([0,1,0,2]))) bn (fun cx=>cd (e:=5) rfl (by kernel_rfl) (by kernel_rfl) (by kernel_rfl) (cx.ou 34) (cx.ri 8 rfl)) ?_
 refine sqp [sS 36 ((⟨#[97,98]⟩:ByteArray)) (strOfNums ([0,1,0,2])) (by rw[strOfNums_size];decide),.m 7 36] ?_
 refine aa (wp_seq (sqr (sqp [.m 37 4,.m 38 7,.k 39 (.agg #[vi 3,vi 1,.string (((⟨#[97,98]⟩:ByteArray))++(strOfNums ([0,1,0,2])))])] ?_)))
 refine pT 99 3 1 [vi 3,vi 1,.string (((⟨#[97,98]⟩:ByteArray))++(strOfNums ([0,1,0,2])))] bn (@fun d b W X cx=>by have NF:d (.tmp 39)= .agg #[vi 3,vi 1,.string (((⟨#[97,98]⟩:ByteArray))++(strOfNums ([0,1,0,2])))]:=(cx.ou 39);simp[go_sem,NF]) fun Pz BN fI=>?_
 refine sqk (.bool true) fI (fun cx=>⟨_,tH _ _ _ _ [(3,1,y8)] _ (uy (At.of_ownN (cx.ri 7 rfl)) (by kernel_rfl)) (uy (At.of_ownN (cx.ri 9 rfl)) (by kernel_rfl)) (by decide),(aK (cx.ou 37) (cx.ou 40))⟩) fun E5 gc=>?_
 refine sqp [.k 8 (.bool true)] ?_
 refine aa (wp_seq (sqr (sqp [.k 42 (.bool true),.k 43 (.bool true)] ?_)))
 refine fW 43 [44] rfl rfl ?_
 refine sqp [.k 44 (.bool true)] ?_
 refine sqp [.k 45 (.bool true),.k 46 (.bool true)] ?_
 refine fW 46 [47,48] rfl rfl ?_
 refine sqp [.k 47 (.bool false),.k 48 (.bool true)] ?_
 refine sqp [.k 49 (.bool true),.k 50 (.bool true)] ?_
 refine fW 50 [51,52] rfl rfl ?_
 refine sqp [.m 51 6,.k 52 (.bool true)] ?_
 refine sqp [.k 53 (.bool true),.k 54 (.bool true)] ?_
 refine fW 54 [55,56] rfl rfl ?_
 refine sqp [.m 55 3] ?_
 refine sqk (.bool true) gc (fun cx=>⟨_,Ff (CtxV.holdF cx (cx.init 6 _ rfl) rfl) rfl,(br (cx.ou 55))⟩) fun Jn ie=>?_
 refine sqp [.k 57 (.bool true),.k 58 (.bool true)] ?_
 refine fW 58 [59,60,61] rfl rfl ?_
 refine sqp [.m 59 3] ?_
 refine sqk (vi 3) ie (fun cx=>⟨_,Dq (CtxV.holdF cx (cx.init 6 _ rfl) rfl),(br (cx.ou 59))⟩) fun IY jA=>?_
 refine sqp [.k 61 (.bool true)] ?_
 refine sqp [.k 62 (.bool true),.k 63 (.bool true)] ?_
 refine fW 63 [64,65,66,67] rfl rfl ?_
 refine sqp [.k 64 (.agg #[vi 1,vi 2])] ?_
 refine sqk (.string ((bu wu 1 2))) jA (fun cx=>⟨_,gI wu 1 2 _ (by decide),(aK (cx.co _) (cx.ou 64))⟩) fun Ob lC=>?_
 have hd50:(((bu wu 1 2)).toList==(((⟨#[97,98]⟩:ByteArray))++(strOfNums ([0,1,0,2]))).toList)=true:=(by kernel_rfl)
 refine sqp [.m 66 7,.e 67 (.bool (((bu wu 1 2)).toList==(((⟨#[97,98]⟩:ByteArray))++(strOfNums ([0,1,0,2]))).toList)) (.bool true) (congrArg Value.bool hd50)] ?_
 refine sqp [.k 68 (.bool true),.k 69 (.bool true)] ?_
 refine fW 69 [70,71,72,73] rfl rfl ?_
 refine sqp [.m 70 1] ?_
 refine sqv (.iface 24 (vp cI)) lC (by
   exact sv0 rfl rfl rfl rfl rfl (fun _ _ _ h=>h) fun d b W X cx=>by
    have NG:d (.tmp 70)=vp cI:=(cx.ou 70)
    simp[go_sem,NG]) fun Mi lI=>?_
 refine sqk (vi 0) lI (fun cx=>⟨_,Gc (by rw[H7]) (pQ _ _ 3 nG _ (d7 (iJ (CtxV.holdF cx (cx.init 0 _ rfl) rfl)) s9.len) s9 AK),(aK (cx.ou 71) (cx.co _))⟩) fun EY eV=>?_
 refine sqp [.k 73 (.bool true)] ?_
 refine sqp [.k 74 (.bool true),.k 0 (.bool true)] ?_
 refine aa (wp_ret ?_)
 refine bpr (.bool true) (ak Try.results10 rpt) ?_
 exact Ret.of rfl eV.ext
end
section
open Go.RowKit
theorem FK(b:Nat)(root pos leaf fro to:Int)(spl:Bool)(LA:Option Addr)(lc:Nat)(tt:TypeId)(tv:Value)(ps:List PgS)(fresh:Int)(fp g:List Nat)(w:World)(hb:Blk w b 109 #[.int .i64 root,.int .i64 pos,.int .i64 leaf,.slice LA 0 lc,.int .i64 fro,.int .i64 to,.bool spl])(hfp:fp=b::g)(hbg:b∉g)(hlt:∀k∈g,k<w.heap.size):
  Calls Try.prog 16 #[.pointer (some ⟨b,0,none⟩),.iface tt (tv),.int .i64 fresh] w (kE b (aU ps ⟨root,pos,leaf,[],fro,to,spl⟩ fresh) fp w):=by
 have st0:=St.lend (E:=eB b 109 #[.int .i64 root,.int .i64 pos,.int .i64 leaf,.slice LA 0 lc,.int .i64 fro,.int .i64 to,.bool spl]) hb (dH _ _ _) (fun k hk=>by simp[eB] at hk;subst hk;exact hb.lt)
 go_enter Try.func16,Try.ntmps16
 have aq:=st0
 refine wp_seq (sqr (sqp [.k 6 (.slice none 0 0),.k 7 (.bool false),.k 8 (vi 0)] ?_))
 refine aa (wp_seq (wp_seq (sqr (sqp [.m 14 0] ?_))))
 refine sqv (.bool false) aq (by
   exact sv0 rfl rfl rfl rfl rfl (fun _ _ _ h=>h) fun a c W X cx=>by
    have xf:a (.tmp 14)=vp b:=(cx.ou 14)
    simp[go_sem,cx.sees.const,xf]) fun W5 bO=>?_
 refine aa (wcf rfl (wp_skip (aa (wp_seq (sqr (sqp [.m 16 0,.m 17 0,.m 18 0,.k 19 (vp b),.k 20 (.pointer (some ⟨b,4,none⟩))] ?_))))))
 refine aF (n:=1) 0 #[vi root,vi pos,vi leaf,.slice LA 0 lc,vi 0,vi to,.bool spl] bO fun pH cA=>?_
 refine sqp [.k 21 (vp b),.k 22 (.pointer (some ⟨b,5,none⟩))] ?_
 refine aF (n:=1) 0 #[vi root,vi pos,vi leaf,.slice LA 0 lc,vi 0,vi 0,.bool spl] cA fun iY bn=>?_
 refine sqp [.k 23 (vp b),.k 24 (.pointer (some ⟨b,6,none⟩))] ?_
 refine aF (n:=1) 0 #[vi root,vi pos,vi leaf,.slice LA 0 lc,vi 0,vi 0,.bool false] bn fun um ca=>?_
 refine aa (wp_seq (wp_seq (sqr (sqp [.m 25 0,.k 26 (vp b),.k 27 (.pointer (some ⟨b,3,none⟩))] ?_))))
 refine al 0 ca ?_
 refine sqp [.k 29 (vi 0),.k 30 (.bool true)] ?_
 refine aa (wct rfl (wp_seq (sqr (sqp [.k 6 (.slice none 0 0),.k 7 (.bool false),.k 8 (vi 0)] ?_))))
 refine aa (wp_ret (ai ?_))
 refine bpr (.tuple #[.slice none 0 0,.bool false,vi 0]) (bq Try.results16 rpt rpt rpt) ?_
 have hn27:=bM ca 99 3
 simp only[List.cons_append,List.nil_append] at hn27
 have hpk_:=hn27.pick [0,1] (by decide) rfl
 exact⟨_,_,rfl,dv (p:=⟨root,pos,leaf,[],0,0,false⟩) hpk_ hfp hbg hlt (Nat.zero_le _) (At.nil _ _) (fun ad e h=>absurd rfl h)⟩
theorem GC{b bk:Nat}{ps:List PgS}{p:PuT}{fresh:Int}{fp:List Nat}{w:World}(h:(ePk b p fp).holds w)(hB:BkU fp w bk ps)(hok:OkS ps)(hoc:OkC ps)(h10:p.left.length<=10000)(hte:∀t∈p.left,t.1.size<=900000/\0<=t.2.1/\t.2.1<=90000)(af: -1<=fresh/\fresh<=1000000):
  Calls Try.prog 16 #[.pointer (some ⟨b,0,none⟩),.iface 24 (.pointer (some ⟨bk,0,none⟩)),.int .i64 fresh] w (kE b (aU ps p fresh) fp w):=by
 obtain⟨A,c,g,hfp,hbg,hc,hAg,hlt,hb,hA⟩:=h
 obtain⟨root,pos,leaf,left,fro,to,spl⟩:=p
 cases left with
 |nil=>exact FK b root pos leaf fro to spl A c _ _ ps fresh fp g w hb hfp hbg hlt
 |cons t lf=>
  obtain⟨te,tl,tk⟩:=t
  obtain⟨la,rfl,_,_⟩:=hA 0 (.string te) rfl
  have hg:=hAg la rfl (by simp)
  have ht:=hte (te,tl,tk) (by simp)
  obtain⟨LA,lcc,Ps,h1,h2⟩:=hB
  refine GR b _ _ root pos leaf fro to spl la _ c te tl tk lf ps fresh fp g w hb (fun W hW=>?_) rfl hc h10 (fun W hW=>d7 ⟨LA,lcc,Ps,h1,h2 W (hW.mono fun k _ hk=>by rw[hfp,List.mem_singleton.1 hk];simp)⟩ hok.len) hok hoc hfp hbg hlt hg ht.1 ht.2 af
  refine dZ hA fun ad e _=>?_
  rw[<-Option.some.inj e]
  exact hW.block _ (hlt _ hg) (fun hm=>hbg (by rw[List.mem_singleton] at hm;exact hm ▸ hg))
end
section
open Go.RowKit
theorem BK(A:Option Addr)(n c k:Nat)(w:World)(hc:n<=c):
  Calls Try.prog 34 #[.slice A n c,.int .i64 ((k:Int))] w (Ret (.slice A (min n k) c) w):=by
 go_enter Try.func34,Try.ntmps34
 have aq:=St.start w
 refine wp_seq (sqr (sqp [.k 4 (.slice none 0 0)] ?_))
 refine aa (wp_seq (wp_seq (sqr (sqp [.m 5 0,.k 6 (vi ((n:Int))),.m 7 1,.k 8 (.bool (decide ((k:Int)<(n:Int))))] ?_))))
 refine aa (wds (fun rF NH=>?_) fun rF NH=>?_)
 refine wp_seq (sqr (sqp [.m 9 0,.m 10 1] ?_))
 refine sql (.slice A k c) aq (fun cx=>fN (e:=3) (sz:=1) (m:=k) rfl (by kernel_rfl) (by kernel_rfl) (cx.ou 9) (cx.ou 10) (by omega) (by omega)) ?_
 refine sqp [.m 4 11] ?_
 refine aa (wp_ret (ai ?_))
 refine bpr (.slice A k c) (ak Try.results34 rpt) ?_
 exact Ret.of (by rw[show min n k=k by omega]) aq.ext
 refine wp_skip (aa (wp_seq (sqr (sqp [.m 12 0,.m 4 12] ?_))))
 refine aa (wp_ret ?_)
 refine bpr (.slice A n c) (ak Try.results34 rpt) ?_
 exact Ret.of (by rw[show min n k=n by omega]) aq.ext
end
section
open Go.RowKit Go.Maps Go.ChangeMaps
structure Kc (κ:Type) where
 enc:κ->Value
 lit:κ->Lit
 ok:κ->Prop
 ty:Program->TypeId->Prop
 inj:∀{x y},lit x=lit y->x=y
 isk:∀x,WideAt.IsKeyLit (lit x)
 keyed:∀{P k},ty P k->Keyed P k
 key:∀{P k x},ty P k->ok x->keyOf P k (enc x)=some (lit x)
def kcS:Kc ByteArray where
 enc:= .string
 lit s:= .string s.data.toList
 ok s:=s.size<=100000000
 ty P k:=P.underlying k=some .string
 inj:=fun {x y} h=>by injection h with h;exact ByteArray.ext (Array.toList_inj.1 h)
 isk _:=trivial
 keyed h:=string_keyed h
 key h hx:=WideMaps.keyOf_string_mk h (by simp only[maxLen];omega)
structure Ec (ε:Type) where
 enc:ε->Value
 dat:ε->DataW Unit
 R:Value->Option (DataW Unit×List MemPlace)
 e0:ε
 okE:ε->Prop
 read:∀e,okE e->R (enc e)=some (dat e,[])
 back:∀v d ps e,R v=some (d,ps)->d=dat e->v=enc e
 ok0:okE e0
def kA{c a:Type}(K:Kc c)(C:Ec a)(P:Program)(k b n:Nat)(m:c->Option a)(W:World):Prop:=
 ∃D:DataW Unit,W.ownsMap P k C.R b n D/\Tidy D/\size D=n/\∀x,K.ok x->has D (K.lit x)=(m x).isSome/\D.atKey (K.lit x) (C.dat C.e0)=C.dat ((m x).getD C.e0)
def eMx{c a:Type}(K:Kc c)(C:Ec a)(P:Program)(k b n:Nat)(m:c->Option a):Ent:=⟨[b],kA K C P k b n m⟩
def qg{a b:Type}[DecidableEq a](m:a->Option b)(x:a)(e:Option b):a->Option b:=fun y=>if y=x then e else m y
theorem z9{H:Type}{P:Program}{k b n:Nat}{R:Value->Option (DataW H×List MemPlace)}{W:World}{D:DataW H}(h:W.ownsMap P k R b n D):W.ownsMap P k R b (size D) D:=by
 obtain⟨es,clock,hb,F,hs,rfl⟩:=h
 refine⟨es,clock,hb,F,?_,rfl⟩
 simp[Maps.size,length_sorted]
section
variable{κ ε:Type}{K:Kc κ}{C:Ec ε}
theorem yl(P:Program)(k b n:Nat)(m:κ->Option ε):(eMx K C P k b n m).loc:=fun W W' h hb=>by
 obtain⟨D,⟨es,clock,h1,h2⟩,h3⟩:=hb
 exact⟨D,⟨es,clock,(h b (by simp[eMx])).trans h1,h2⟩,h3⟩
variable{P:Program}{o:Oper}{ρ:Operand->Value}{W:World}{k e b n:Nat}{m:κ->Option ε}
theorem kA.lt(h:kA K C P k b n m W):b<W.heap.size:=by
 obtain⟨D,hD,_⟩:=h
 exact hD.lt
theorem mQ{t:TypeId}{y z:Operand}{x:κ}(h:o.op= .lookup t y z false)(hy:ρ y= .map (some b))(hz:ρ z=K.enc x)(hb:kA K C P k b n m W)(h0:(zeroValue e).run P W= .ok (C.enc C.e0) W)(hx:K.ok x)
  (hk:K.ty P k:=by kernel_rfl) (ht:P.underlying t=some (.map k e):=by kernel_rfl):(execOp ρ o).run P W= .ok (.value (C.enc ((m x).getD C.e0))) W:=by
 obtain⟨D,hD,_,_,hm⟩:=hb
 obtain⟨v,ps,hrun,hv⟩:=hD.lookup (K.keyed hk) ht h0 (C.read C.e0 C.ok0) (K.key hk hx)
 rw[C.back v _ ps _ hv (hm x hx).2] at hrun
 unfold execOp
 rw[h]
 simp[hy,hz,hrun]
def mzP(m:κ->Option ε)(x:κ)(n:Nat):Nat:=if (m x).isSome then n else n+1
theorem Ae [DecidableEq κ]{t:TypeId}{y z u:Operand}{x:κ}{v:ε}(h:o.op= .mapUpdate t y z u\/o.op= .insert t y z u)(hy:ρ y= .map (some b))(hz:ρ z=K.enc x)(hu:ρ u=C.enc v)(hb:kA K C P k b n m W)(hv:C.okE v)(hn:n<1000000)(hx:K.ok x)
  (hk:K.ty P k:=by kernel_rfl) (ht:P.underlying t=some (.map k e):=by kernel_rfl):
  ∃W',(execOp ρ o).run P W= .ok .skip W'/\kA K C P k b (mzP m x n) (qg m x (some v)) W'/\Upd [b] W W':=by
 obtain⟨D,hD,hI,hs,hm⟩:=hb
 obtain⟨W',hrun,hown,hg⟩:=hD.update (K.keyed hk) ht (by simp only[maxLen];omega) (K.key hk hx) (C.read v hv)
 have hsz:size (D.put (K.lit x) (C.dat v))=mzP m x n:=by rw[size_put hI,(hm x hx).1,hs,mzP]
 refine⟨W',?_,⟨_,by have h9:=z9 hown;rwa [hsz] at h9,hI.put (K.isk x) _,hsz,fun y hy=>?_⟩,⟨hg.os,hg.tape,hg.output,hg.size,fun i hi hn=>hg.block i hi (fun e'=>hn (by cases e';simp))⟩⟩
 unfold execOp
 rcases h with h|h<;>rw[h]<;>simp[hy,hz,hu,hrun]
 unfold qg
 by_cases e':y=x
 subst e'
 rw[if_pos rfl]
 exact⟨has_put_same hI.isMap (K.isk y) _,atKey_put_same hI.isMap (K.isk y) _ _⟩
 have e2:K.lit y≠K.lit x:=fun h=>e' (K.inj h)
 rw[if_neg e',has_put_other e2,atKey_put_other e2]
 exact hm y hy
theorem kA.made:kA K C P k W.heap.size 0 (fun _=>none) (W.alloc (.map #[] 0)):=⟨.map [],World.ownsMap_made W P k C.R,tidy_empty,rfl,fun x hx=>⟨rfl,rfl⟩⟩
end
section
variable{κ ε:Type}{K:Kc κ}{C:Ec ε}{P:Program}{ops:Array Oper}{L:List Nat}{a0:Act}{w0:World}{bor:List Nat}{X0:List Ent}{us cr kl:List (List Nat)}
 {D:Nat->(Tmp->Value)->(Tmp->Value)->(Nat->Ent)->Prop}{i:Nat}{o:Oper}{ρ:Operand->Value}{β:Tmp->Value}{W:World}{X:Nat->Ent}
def pbx:Value->Nat
 | .map (some b)=>b
 |_=>0
theorem CtxV.mx{q k b n:Nat}{m:κ->Option ε}(cx:CtxV ops L a0 w0 bor X0 us D i ρ β W X)(hX:X q=eMx K C P k b n m)(hu:(atV us i).contains q=true):kA K C P k b n m W:=by
 have h:=(cx.ok q hu).holds
 rw[hX] at h;exact h
theorem BL{t d k q:Nat}(h:o.op= .makeMap t none)(hd:o.dst=some d)(hc:atV cr i=[q])(hk:atV kl i=[])
  (hD:∀(b a:Tmp->Value) (X':Nat->Ent),(∀t,t≠d->b t=ρ (.tmp t))->(∀t,t≠d->a t=β t)->b d= .map (some (pbx (a d)))->X' q=eMx K C P k (pbx (a d)) 0 (fun _=>none)->D i b a X'):ax P o ρ W (cy cr kl D i o.dst ρ β W X):=by
 refine ax.value (v:= .map (some W.heap.size)) (w':=W.alloc (.map #[] 0)) (by unfold execOp;rw[h];rfl) ?_
 refine cR [eMx K C P k W.heap.size 0 (fun _=>none)] hk (by rw[hc];rfl) ((Ext.refl W).alloc _) (mn ⟨kA.made,yl _ _ _ _ _,fun k' hk'=>?_⟩) (List.pairwise_singleton _ _) (fun b a X' hs hb hv hN=>?_)
 have:k'=W.heap.size:=by simpa[eMx] using hk'
 subst this
 exact⟨Nat.le_refl _,by simp⟩
 have aZ:=(hv d hd).1;have aJ:=(hv d hd).2
 rw[hc] at hN
 refine hD b a X' (fun t ht=>hs t (by rw[hd];simpa using ht.symm)) (fun t ht=>hb t (by rw[hd];simpa using ht.symm)) ?_ ?_
 rw[aZ,aJ];rfl
 rw[aJ];exact(List.cons.inj hN).1
theorem Ar{k b n n' q q':Nat}{m m':κ->Option ε}{W':World}(hX:X q=eMx K C P k b n m)(h1:kA K C P k b n' m' W')(h2:Upd [b] W W')(hc:atV cr i=[q'])(hkl:atV kl i=[q]):
  ([eMx K C P k b n' m'].length=(atV cr i).length)/\(Upd ((atV kl i).flatMap fun q=>(X q).fp) W W')/\∀e'∈[eMx K C P k b n' m'],e'.holds W'/\e'.loc/\∀k'∈e'.fp,(k'∈((atV kl i).flatMap fun q=>(X q).fp)\/W.heap.size<=k')/\k'<W'.heap.size:=by
 refine⟨by rw[hc];rfl,?_,fun e' he'=>?_⟩
 rw[hkl]
 simp only[List.flatMap_cons,List.flatMap_nil,List.append_nil,hX]
 exact h2
 rw[List.mem_singleton] at he'
 subst he'
 refine⟨h1,yl _ _ _ _ _,fun k' hk'=>?_⟩
 have hkb:k'=b:=by simpa[eMx] using hk'
 subst hkb
 refine⟨.inl ?_,h1.lt⟩
 rw[hkl]
 simp[hX,eMx]
theorem Dh [DecidableEq κ]{t k e b n q q':Nat}{m:κ->Option ε}{y z u:Operand}{x:κ}{v:ε}(h:o.op= .mapUpdate t y z u\/o.op= .insert t y z u)(hy:ρ y= .map (some b))(hz:ρ z=K.enc x)(hu:ρ u=C.enc v)
  (cx:CtxV ops L a0 w0 bor X0 us D i ρ β W X) (hX:X q=eMx K C P k b n m) (hq:(atV us i).contains q=true) (hv:C.okE v) (hn:n<1000000) (hx:K.ok x) (hd:o.dst=none) (hc:atV cr i=[q']) (hkl:atV kl i=[q])
  (hD:∀(a c:Tmp->Value) (X':Nat->Ent),(∀t,a t=ρ (.tmp t))->(∀t,c t=β t)->X' q'=eMx K C P k b (mzP m x n) (qg m x (some v))->D i a c X')
  (hk:K.ty P k:=by kernel_rfl) (ht:P.underlying t=some (.map k e):=by kernel_rfl):ax P o ρ W (cy cr kl D i o.dst ρ β W X):=by
 obtain⟨W',hrun,h1,h2⟩:=Ae (v:=v) h hy hz hu (cx.mx hX hq) hv hn hx hk ht
 obtain⟨a1,a2,a3⟩:=Ar (cr:=cr) (kl:=kl) (i:=i) hX h1 h2 hc hkl
 refine ax.skip hrun ⟨[eMx K C P k b (mzP m x n) (qg m x (some v))],a1,⟨a2,a3,List.pairwise_singleton _ _⟩,fun a c X' hs hv hb' hbv hx' hN=>hD a c X' (fun t=>hs t (by rw[hd];simp)) (fun t=>hb' t (by rw[hd];simp)) ?_⟩
 rw[hc] at hN
 exact(List.cons.inj hN).1
end
end
section
open Go.RowKit Go.Maps
noncomputable def ecI:Ec Int where
 enc:= .int .i64
 dat:=fun v=> .lit (.int .i64 v)
 R:=plainElem Try.prog 3
 e0:=0
 okE:=fun z=> -9223372036854775808<=z/\z<=9223372036854775807
 read:=fun e _=>by
  unfold plainElem
  have hu:Try.prog.underlying 3=some (.int .i64):=by kernel_rfl
  rw[hu]
  have h3:(Lit.int IntKind.i64 e).wf=true:=by
   show (decide (IntKind.i64.min<=e)&&decide (e<=IntKind.i64.max))=true
   have h1:IntKind.i64.min= -9223372036854775808:=by decide
   have h2:IntKind.i64.max=9223372036854775807:=by decide
   rw[h1,h2,decide_eq_true (by omega),decide_eq_true (by omega)];rfl
  simp[h3]
 back:=fun v d ps e h1 h2=>by
  subst h2
  unfold plainElem at h1
  have hu:Try.prog.underlying 3=some (.int .i64):=by kernel_rfl
  rw[hu] at h1
  cases v<;>simp at h1
  obtain⟨⟨h3,_⟩,h4,_⟩:=h1
  rw[h3,h4]
 ok0:=by decide
instance baDec:DecidableEq ByteArray:=fun a b=>decidable_of_iff (a.data=b.data) ⟨fun h=>by cases a;cases b;cases h;rfl,fun h=>by rw[h]⟩
noncomputable def mN(S:List ByteArray):ByteArray->Option Int:=fun x=>@ite _ (x∈S) (Classical.propDecidable _) (some 1) none
noncomputable def nB(S:List ByteArray)(x:ByteArray):Int:=(mN S x).getD 0
theorem Es{S:List ByteArray}{x:ByteArray}(h:x∈S):nB S x=1:=by rw[nB,mN,if_pos h];rfl
theorem KP{S:List ByteArray}{x:ByteArray}(h:x∉S):nB S x=0:=by rw[nB,mN,if_neg h];rfl
theorem Ii:(fun _=>none:ByteArray->Option Int)=mN []:=by funext x;simp[mN]
theorem Iu{S:List ByteArray}{x:ByteArray}:qg (mN S) x (some 1)=mN (S++[x]):=by
 funext y
 unfold qg mN
 by_cases h:y=x
 simp[h]
 have e:y∈S++[x]<->y∈S:=by simp[h]
 rw[if_neg h]
 by_cases hy:y∈S
 rw[if_pos hy,if_pos (e.2 hy)]
 rw[if_neg hy,if_neg fun h2=>hy (e.1 h2)]
theorem Fm{S:List ByteArray}{x:ByteArray}(h:x∉S):mzP (mN S) x S.length=(S++[x]).length:=by
 rw[mzP,mN,if_neg h];simp
theorem IB{r r':List EnD}{f:FuncId}{args:Array Value}{w:World}(h:r=r')(hc:Calls Try.prog f args w (rn r w)):Calls Try.prog f args w (rn r' w):=h ▸ hc
end
section
open Go.RowKit
theorem CK(i m:Nat)(hm:0<m):(((i:Int).tmod (m:Int)+(m:Int)).tmod (m:Int))=((i % m:Nat):Int):=by
 have h1:(i:Int).tmod (m:Int)=((i % m:Nat):Int):=by rw[Int.tmod_eq_emod_of_nonneg (by omega)];exact(Int.natCast_emod i m).symm
 rw[h1,Int.tmod_eq_emod_of_nonneg (by omega),Int.add_emod_right]
 exact(Int.natCast_emod (i % m) m).symm.trans (by rw[Nat.mod_mod])
end
section
open Go.RowKit Go.Maps
def Hw(ty:Nat)(cs:Array Value)(w:World)(e:Ending)(w':World):Prop:=∃b,e= .returned (vp b)/\St w [] [eB b ty cs] w'
theorem BkU.at{S:List Nat}{w:World}{bk:Nat}{ps:List PgS}(h:BkU S w bk ps){W:World}(hW:Upd S w W):vP W bk ps:=by
 obtain⟨LA,lc,Ps,h1,h2⟩:=h
 exact⟨LA,lc,Ps,h1,h2 W hW⟩
theorem BC{b:Nat}{pos:Int}{R R':WkT×WkR}{f:FuncId}{args:Array Value}{w:World}(hR:R=R')(hc:Calls Try.prog f args w (qJ b pos R w)):Calls Try.prog f args w (qJ b pos R' w):=hR ▸ hc
theorem zZ{ps:List PgS}{w w1:WkT}{r:WkR}(h:wkN ps w=(w1,r)):w1.fm=w.fm:=by
 obtain⟨pos,st,fm,fin⟩:=w
 by_cases h0:fin=true\/1000<=st+1
 rw[kM h0] at h;cases h;rfl
 rcases hn:ao ps pos with _|n
 rw[mh hn] at h;cases h;rfl
 rw[gC h0 hn] at h
 split at h
 cases h;rfl
 split at h<;>cases h<;>rfl
theorem HG{ps:List PgS}{w w1:WkT}{nd:NoD}(h:wkN ps w=(w1,.at nd)):ao ps w.pos=some nd:=by
 obtain⟨pos,st,fm,fin⟩:=w;exact(Ev h).1
def Fj(b:Nat)(w1:WkT)(mo:Bool)(w:World)(e:Ending)(w':World):Prop:=e= .returned (.tuple #[.int .i64 (-1),.slice none 0 0,.slice none 0 0,.bool mo])/\St w [b] [eB b 145 (wkC w1)] w'
theorem Im{b:Nat}{pos:Int}{w1:WkT}{mo:Bool}{f:FuncId}{args:Array Value}{w:World}(hc:Calls Try.prog f args w (qJ b pos (w1,bif mo then .on else .off) w)):Calls Try.prog f args w (Fj b w1 mo w):=by cases mo<;>exact hc
theorem pI{x:ByteArray}(w:World)(h:bu (qkF x) (opF x) (osF x)=x)(hk:(qkF x).size<=1000000):Calls Try.prog 26 #[.string (qkF x),.agg #[.int .i64 (opF x),.int .i64 (osF x)]] w (Ret (.string x) w):=by
 have h1:=gI (qkF x) (opF x) (osF x) w hk
 rw[h] at h1
 exact h1
theorem If{E:List EnD}{i:Nat}(h:i<E.length):(E.take (i+1)).map (fun e=>e.1)=(E.take i).map (fun e=>e.1)++[(E.getD i en0).1]:=by rw[n9 h,List.map_append];rfl
theorem mE{E:List EnD}{k:Nat}(h:k<E.length):(E.map tqS)[k]? =some (.string (qkF (E.getD k en0).1)):=by simp[tqS,h]
theorem Cv{E:List EnD}{k:Nat}(h:k<E.length):(E.getD k en0).1∈E.map fun e=>e.1:=List.mem_map.2 ⟨_,by rw[List.getD_eq_getElem?_getD,List.getElem?_eq_getElem h];exact List.getElem_mem h,rfl⟩
theorem AZ{E:List EnD}{k:Nat}(h:k<E.length):E.getD k en0∈E:=by rw[List.getD_eq_getElem?_getD,List.getElem?_eq_getElem h];exact List.getElem_mem h
theorem yR(root:Int)(key:ByteArray)(w:World)(hk:key.size<=800000):
  Calls Try.prog 36 #[.int .i64 root,.string key] w (Hw 145 (wkC ⟨root,0,bu key 0 0,false⟩) w):=by
 go_enter Try.func36,Try.ntmps36
 have aq:=St.start w
 refine wp_seq (sqr (sqp [.k 4 (.pointer none)] ?_))
 refine aa (wp_seq (sqr (sqp [.m 5 0,.m 6 1,.k 7 (.agg #[vi 0,vi 0])] ?_)))
 refine sqk (.string (bu key 0 0)) aq (fun cx=>⟨_,gI key 0 0 _ (by omega),(aK (cx.ou 6) (cx.ou 7))⟩) fun W5 bO=>?_
 refine sqp [.k 9 (.agg #[vi root,vi 0,.string (bu key 0 0),.bool false])] ?_
 refine bX #[vi root,vi 0,.string (bu key 0 0),.bool false] bO fun pz W7 bF=>?_
 refine sqp [.m 4 10] ?_
 refine aa (wp_ret ?_)
 refine bpr (vp pz) (ak Try.results36 rpt) ?_
 exact⟨_,rfl,bF.pick [0] (by decide) rfl⟩
end
end Go.Proofs.Ytjlcoglmjldjbaa
import Derived.Test.YtjlcoglmjldjbaaGreatZ1
import Derived.Deep.QuietTactic
import Derived.BigQuiet
set_option linter.unusedVariables false
set_option linter.unusedSimpArgs false
set_option maxRecDepth 100000
set_option maxHeartbeats 16000000
namespace Go.Proofs.YtjlcoglmjldjbaaGreat
section
open Go.RowKit
def pJ(n:Int):Int:=max 0 (min n 8)
theorem ox(n:Int)(w:World):Calls Tryz.prog 115 #[.int .i64 n] w fun e w'=>e= .returned (.int .i64 (pJ n))/\w=w':=by
 go_enter Tryz.func115,Tryz.ntmps115
 go_wp2
 all_goals
  go_ret
  exact⟨FW (by unfold pJ;omega),rfl⟩
def m4(n:Int):List Int:=[IntKind.u64.wrap n / 72057594037927936 % 256,IntKind.u64.wrap n / 281474976710656 % 256,IntKind.u64.wrap n / 1099511627776 % 256,IntKind.u64.wrap n / 4294967296 % 256,
 IntKind.u64.wrap n / 16777216 % 256,IntKind.u64.wrap n / 65536 % 256,IntKind.u64.wrap n / 256 % 256,IntKind.u64.wrap n % 256]
def mW(n:Int)(k:Nat):ByteArray:=strOfNums ((m4 n).drop (8-k))
theorem r9(n:Int)(k:Nat)(hk:k<=8)(m:Nat)(hm:m+k=8)(W:World)(B:Nat)(hB:B=W.heap.size)(w:World)(t:TypeId)(hw:w=W.alloc (.cells ((m4 n).map (Value.int .u8)).toArray t)):
  (convert 65 9 (.slice (some ⟨B,m,none⟩) k k)).run Tryz.prog w= .ok (.string (mW n k)) w:=by
 subst hB
 refine run_convert_bytes_arg _ 65 5 Tryz.underlying65 Tryz.underlying5 W.heap.size m k k ((m4 n).drop (8-k)) (by rw[List.length_drop];show 8-(8-k)=k;omega) (fun i hi=>?_) 9 Tryz.underlying9
 rw[hw,World.cell?_alloc_at _ _ _ _ rfl]
 have hl:(m4 n).length=8:=rfl
 have hlt:m+i<(m4 n).length:=by omega
 rw[List.getElem?_toArray,List.getElem?_map,List.getElem?_eq_getElem hlt]
 have e:8-k=m:=by omega
 rw[e,List.getD_eq_getElem?_getD,List.getElem?_drop,List.getElem?_eq_getElem hlt]
 rfl
theorem oput1_any(n:Int)(w:World):Calls Tryz.prog 86 #[.int .i64 n,.int .i64 1] w (tx (.string (mW n 1)) w):=by
 have hcv:=r9 n 1 (by omega) 7 rfl w w.heap.size rfl _ 193 rfl
 simp only[m4,List.map_cons,List.map_nil] at hcv
 have hs:pJ 1=1:=by decide
 go_enter Tryz.func86,Tryz.ntmps86
 go_wp2_with fail
 refine wp_loop_rounds 9 ?_
 rw[rounds_succ];go_wp2_with fail
 rw[rounds_succ];go_wp2_with fail
 rw[rounds_succ];go_wp2_with fail
 rw[rounds_succ];go_wp2_with fail
 rw[rounds_succ];go_wp2_with fail
 rw[rounds_succ];go_wp2_with fail
 rw[rounds_succ];go_wp2_with fail
 rw[rounds_succ];go_wp2_with fail
 rw[rounds_succ];go_wp2_with fail
 refine(ox _ _).mono ?_
 rw[hs]
 rintro e w1 ⟨rfl,rfl⟩
 clear hs
 go_wp2
 go_ret
 exact⟨rfl,(Ext.refl w).alloc _⟩
theorem Bk(n:Int)(w:World):Calls Tryz.prog 86 #[.int .i64 n,.int .i64 2] w (tx (.string (mW n 2)) w):=by
 have hcv:=r9 n 2 (by omega) 6 rfl w w.heap.size rfl _ 193 rfl
 simp only[m4,List.map_cons,List.map_nil] at hcv
 have hs:pJ 2=2:=by decide
 go_enter Tryz.func86,Tryz.ntmps86
 go_wp2_with fail
 refine wp_loop_rounds 9 ?_
 rw[rounds_succ];go_wp2_with fail
 rw[rounds_succ];go_wp2_with fail
 rw[rounds_succ];go_wp2_with fail
 rw[rounds_succ];go_wp2_with fail
 rw[rounds_succ];go_wp2_with fail
 rw[rounds_succ];go_wp2_with fail
 rw[rounds_succ];go_wp2_with fail
 rw[rounds_succ];go_wp2_with fail
 rw[rounds_succ];go_wp2_with fail
 refine(ox _ _).mono ?_
 rw[hs]
 rintro e w1 ⟨rfl,rfl⟩
 clear hs
 go_wp2
 go_ret
 exact⟨rfl,(Ext.refl w).alloc _⟩
end
section
open Go.RowKit
def Rd(t:TypeId)(w:World)(B:Nat)(s:ByteArray)(p:Nat)(f:Bool):Prop:=Blk w B t #[.string s,.int .i64 p,.bool f]/\p<=s.size/\s.size<=1000000
def AL(t:TypeId)(v:Value)(B:Nat)(s:ByteArray)(p:Nat)(f:Bool)(w:World)(e:Ending)(w':World):Prop:=e= .returned v/\Rd t w' B s p f/\Upd [B] w w'
theorem Dh(B:Nat)(s:ByteArray)(p:Nat)(f:Bool)(w:World)(h:Rd 202 w B s p f):
  Calls Tryz.prog 134 #[.pointer (some ⟨B,0,none⟩)] w (tx (.int .i64 (s.size-p:Nat)) w):=by
 obtain⟨hb,hp,hs⟩:=h
 have c0:w.cell? ⟨B,0,none⟩=some (.string s):=hb.cell 0
 have c1:w.cell? ⟨B,1,none⟩=some (.int .i64 p):=hb.cell 1
 have e1:=Lib.hid (show (s.size:Int)-(p:Int)=((s.size-p:Nat):Int) by omega)
 clear hb
 go_enter Tryz.func134,Tryz.ntmps134
 go_wp2
 go_quiet (fail)
 go_wp2
 go_ret
 exact tx.int e1.out ((Ext.refl w).drewN _)
theorem FV(B:Nat)(s:ByteArray)(p n:Nat)(w:World)(h:Rd 202 w B s p false)(hn:p+n<=s.size):
  Calls Tryz.prog 120 #[.pointer (some ⟨B,0,none⟩),.int .i64 n] w (AL 202 (.string (s.extract p (p+n))) B s (p+n) false w):=by
 obtain⟨hb,hp,hs⟩:=h
 have HB:=Lib.hid hb
 have c0:w.cell? ⟨B,0,none⟩=some (.string s):=hb.cell 0
 have c1:w.cell? ⟨B,1,none⟩=some (.int .i64 p):=hb.cell 1
 have c2:w.cell? ⟨B,2,none⟩=some (.bool false):=hb.cell 2
 clear hb
 go_enter Tryz.func120,Tryz.ntmps120
 go_wp2_with fail
 refine(Dh _ _ _ _ _ ⟨HB.out,hp,hs⟩).mono ?_
 rintro e w1 ⟨rfl,hx⟩
 have HB1:=Lib.hid (HB.out.ext hx)
 have X1:=Lib.hid hx
 clear hx c0 c1 c2
 have c0:w1.cell? ⟨B,0,none⟩=some (.string s):=HB1.out.cell 0
 have c1:w1.cell? ⟨B,1,none⟩=some (.int .i64 p):=HB1.out.cell 1
 have f1:=HB1.out.frozen 1
 have hlt:=HB1.out.lt
 have hn1:(n:Int)<=((s.size-p:Nat):Int):=by omega
 have e1:(0:Int)<=(p:Int)+(n:Int):=by omega
 have e2:(p:Int)+(n:Int)<=(s.size:Int):=by omega
 have e3:(p:Int)<=(p:Int)+(n:Int):=by omega
 go_wp2_with fail
 go_quiet (fail)
 go_wp2
 go_ret
 refine⟨rfl,⟨?_,hn,hs⟩,((Upd.of_ext X1.out).set (.inl (by simp)) _).drewN _⟩
 rw[show ((p+n:Nat):Int)=(p:Int)+(n:Int) by omega]
 exact(HB1.out.set_ 1 _).drewN _
def dn(l:List UInt8):Nat:=l.foldl (fun n c=>n*256+c.toNat) 0
theorem oq(l:List UInt8)(c:UInt8):dn (l++[c])=dn l*256+c.toNat:=by rw[dn,List.foldl_append];rfl
theorem yE(l:List UInt8):dn l<256^l.length:=by
 have h:∀(l:List UInt8) (n:Nat),l.foldl (fun n c=>n*256+c.toNat) n<(n+1)*256^l.length:=by
  intro l
  induction l with
  |nil=>intro n;simp
  |cons c l ih=>
   intro n
   have h1:=ih (n*256+c.toNat)
   have h2:c.toNat<256:=UInt8.toNat_lt _
   have h3:(n*256+c.toNat+1)*256^l.length<=((n+1)*256)*256^l.length:=Nat.mul_le_mul_right _ (by omega)
   rw[List.foldl_cons,List.length_cons,Nat.pow_succ,Nat.mul_comm (256^l.length) 256,<-Nat.mul_assoc]
   omega
 have:=h l 0
 simpa[dn] using this
def ni(s:ByteArray):List Value:=s.data.toList.map fun b=>Value.int .u8 b.toNat
theorem F5(s:ByteArray)(w:World):∃cap w',(convert 9 65 (.string s)).run Tryz.prog w= .ok (.slice (some ⟨w.heap.size,0,none⟩) s.size cap) w'/\Ext w w'/\At w' (some ⟨w.heap.size,0,none⟩) (ni s)/\s.size<=cap:=by
 have hcut:s.size<=grownCap w s.size 0 5:=grownCap_ge w s.size 0 5
 refine⟨_,_,run_bytes_of_string w 9 65 5 s Tryz.underlying9 Tryz.underlying65 Tryz.underlying5,(Ext.refl w).drew.alloc _,?_,hcut⟩
 intro j u hj
 have hjl:j<s.data.toList.length:=by
  rcases Nat.lt_or_ge j s.data.toList.length with h|h
  exact h
  rw[ni,List.getElem?_eq_none (by simpa using h)] at hj;cases hj
 refine⟨_,rfl,by simp,?_⟩
 have hh:=heap_alloc_new w.drew (.cells (bytesRow s (grownCap w s.size 0 5)) 5 ((bytesRow s (grownCap w s.size 0 5)).size,(bytesRow s (grownCap w s.size 0 5)).size+1))
 have hh':(w.drew.alloc (.cells (bytesRow s (grownCap w s.size 0 5)) 5 ((bytesRow s (grownCap w s.size 0 5)).size,(bytesRow s (grownCap w s.size 0 5)).size+1))).heap[w.heap.size]? = _:=hh
 rw[Addr.add_lit,Nat.zero_add]
 unfold World.cell?
 rw[hh']
 show (bytesRow s (grownCap w s.size 0 5))[j]? =some u
 rw[bytesRow,Array.getElem?_append_left (by simpa using hjl),<-hj,ni]
 simp
theorem Ih(a b:Nat)(ha:a<4611686018427387904)(hb:b<4611686018427387904):bits .or .i64 (a:Int) (b:Int)=((a|||b:Nat):Int):=by
 have e:bits .or .i64 (a:Int) (b:Int)=IntKind.i64.wrap ((BitVec.ofInt 64 (a:Int)|||BitVec.ofInt 64 (b:Int)).toNat:Int):=rfl
 have h1:∀n:Nat,n<4611686018427387904->(BitVec.ofInt 64 (n:Int)).toNat=n:=fun n hn=>by
  rw[BitVec.ofInt_natCast,BitVec.toNat_ofNat,Nat.mod_eq_of_lt (by omega)]
 have h2:a|||b<2^62:=Nat.or_lt_two_pow (by omega) (by omega)
 rw[e,BitVec.toNat_or,h1 a ha,h1 b hb,IntKind.wrap_i64]
 omega
theorem H2(a c:Nat)(hc:c<256):a*256|||c=a*256+c:=by
 have:=Nat.two_pow_add_eq_or_of_lt (i:=8) (b:=c) (by omega) a
 rw[Nat.mul_comm a 256]
 exact this.symm
def aK(s:ByteArray)(p k:Nat):Nat:=dn (s.extract p (p+k)).data.toList
theorem mB(B:Nat)(s:ByteArray)(p k:Nat)(w:World)(h:Rd 202 w B s p false)(hk:k<=4)(hn:p+k<=s.size):
  Calls Tryz.prog 93 #[.pointer (some ⟨B,0,none⟩),.int .i64 k] w (AL 202 (.int .i64 (aK s p k)) B s (p+k) false w):=by
 have H:=Lib.hid h;clear h
 have hsk:=Lib.hid (show pJ k=k by unfold pJ;omega)
 go_enter Tryz.func93,Tryz.ntmps93
 go_wp2_with fail
 refine(ox _ _).mono ?_
 rw[hsk.out]
 rintro e w1 ⟨rfl,rfl⟩
 go_wp2_with fail
 refine(FV _ _ _ _ _ H.out hn).mono ?_
 rintro e w1 ⟨rfl,hr,hu⟩
 obtain⟨t,ht⟩:∃t,t=s.extract p (p+k):=⟨_,rfl⟩
 rw[<-ht]
 have htk:t.size=k:=by rw[ht,ByteArray.size_extract];omega
 have HT:=Lib.hid (show aK s p k=dn t.data.toList by rw[aK,<-ht])
 have HK:=Lib.hid htk
 have HR:=Lib.hid hr
 have HU:=Lib.hid hu
 have hts:(t.size:Int)<=4:=by omega
 clear hr hu ht htk
 obtain⟨cap,w2,hcv,hx,hAt,hcap⟩:=F5 t w1
 have X2:=Lib.hid hx
 have HA:=Lib.hid hAt
 clear hx hAt
 go_wp2
 go_loop [5,14] (fun x v=>∃j:Nat,v= .int .i64 j/\j<=t.size/\x= .int .i64 (dn (t.data.toList.take j))) (fun _ v=>t.size-(intOf v).toNat)
 case atStart=>exact⟨0,rfl,Nat.zero_le _,rfl⟩
 case round=>
  obtain⟨j,rfl,hj,rfl⟩:=hrel
  rcases Nat.lt_or_ge j t.size with hlt|hge
  ·have hb:=yE (t.data.toList.take j)
   have hlen:(t.data.toList.take j).length=j:=by simp;omega
   have h256:256^(t.data.toList.take j).length<=16777216:=by
    rw[hlen]
    exact Nat.le_trans (Nat.pow_le_pow_right (by omega) (show j<=3 by omega)) (by decide)
   have hsn:t.data.toList.take (j+1)=t.data.toList.take j++[t[j]]:=by rw[List.take_succ_eq_append_getElem (by simpa using hlt)];rfl
   have HN:=Lib.hid (show dn (t.data.toList.take (j+1))=dn (t.data.toList.take j)*256+t[j].toNat by rw[hsn,oq])
   have hcell:w2.cell? ⟨w1.heap.size,j,none⟩=some (.int .u8 t[j].toNat):=by
    obtain⟨ad,e,_,hc⟩:=HA.out j _ (by rw[ni,List.getElem?_map,List.getElem?_eq_getElem (by simpa using hlt)];rfl)
    injection e with e
    subst e
    rwa [Addr.add_lit,Nat.zero_add] at hc
   obtain⟨a,ha⟩:∃a,a=dn (t.data.toList.take j):=⟨_,rfl⟩
   obtain⟨c,hc⟩:∃c,c=t[j].toNat:=⟨_,rfl⟩
   have hc8:c<256:=by rw[hc];exact UInt8.toNat_lt _
   rw[<-ha] at hb HN |-
   rw[<-hc] at HN hcell
   have ha1:(a:Int)<=16777216:=by omega
   have i1:(0:Int)<=(j:Int):=by omega
   have i2:(j:Int)<(t.size:Int):=by omega
   have HO:=Lib.hid (show bits .or .i64 ((a:Int)*256) (c:Int)=((a*256+c:Nat):Int) by
    rw[show ((a:Int)*256)=((a*256:Nat):Int) by omega,Ih _ _ (by omega) (by omega),H2 a c hc8])
   clear hsn hlen h256 hb ha hc
   go_wp2
   go_round
   case rel=>exact⟨j+1,by go_num,by omega,by rw[HN.out,HO.out]⟩
   case measure=>simp[intOf];omega
  obtain rfl:j=t.size:=by omega
  have e:t.data.toList.take t.size=t.data.toList:=List.take_of_length_le (by simp)
  rw[e]
  clear e
  go_wp2
  go_ret
  refine⟨?_,⟨HR.out.1.ext X2.out,HR.out.2.1,HR.out.2.2⟩,HU.out.ext X2.out⟩
  rw[HT.out]
  rfl
end
section
open Go.RowKit
def bl(s:ByteArray):List UInt8:=s.data.toList
def vM(l:List UInt8):ByteArray:=⟨l.toArray⟩
theorem cK(s:ByteArray):(bl s).length=s.size:=by simp[bl]
theorem ym(s:ByteArray):vM (bl s)=s:=by simp[bl,vM]
theorem yy(l:List UInt8):bl (vM l)=l:=by simp[bl,vM]
theorem cT(a b:ByteArray):bl (a++b)=bl a++bl b:=by simp[bl,ByteArray.data_append]
theorem d6{a b:ByteArray}(h:bl a=bl b):a=b:=by rw[<-ym a,<-ym b,h]
theorem dp(s:ByteArray)(p q:Nat):bl (s.extract p q)=((bl s).drop p).take (q-p):=by
 simp[bl,ByteArray.data_extract]
theorem uR{α:Type}(a b c:List α)(p k:Nat)(hp:a.length=p)(hk:b.length=k):((a++(b++c)).drop p).take k=b:=by
 subst hp hk
 simp
theorem GP{s:ByteArray}{a b c:List UInt8}(hs:bl s=a++(b++c)){p q:Nat}(hp:a.length=p)(hq:p+b.length=q):s.extract p q=vM b:=by
 apply d6
 rw[dp,yy,hs,uR a b c p (q-p) hp (by omega)]
theorem kK{s:ByteArray}{a b c:List UInt8}(hs:bl s=a++(b++c)){p k:Nat}(hp:a.length=p)(hk:b.length=k):aK s p k=dn b:=by
 have h:bl (s.extract p (p+k))=b:=by rw[GP hs hp (by rw[hk]),yy]
 exact congrArg dn h
theorem wW:∀(n:Nat) (a b:List UInt8),a.length=n->b.length=n->dn a=dn b->a=b
 |0,a,b,ha,hb,_=>by rw[List.eq_nil_of_length_eq_zero ha,List.eq_nil_of_length_eq_zero hb]
 |n+1,a,b,ha,hb,h=>by
  rcases List.eq_nil_or_concat a with rfl|⟨a',x,rfl⟩
  simp at ha
  rcases List.eq_nil_or_concat b with rfl|⟨b',y,rfl⟩
  simp at hb
  simp only[List.concat_eq_append] at*
  rw[oq,oq] at h
  have hx:=x.toNat_lt
  have hy:=y.toNat_lt
  have h1:dn a'=dn b':=by omega
  have h2:x.toNat=y.toNat:=by omega
  rw[wW n a' b' (by simpa using ha) (by simpa using hb) h1,UInt8.toNat_inj.1 h2]
theorem BW(xs:List Int):dn (bl (strOfNums xs))=xs.foldl (fun(n:Nat) x=>n*256+x.toNat % 256) 0:=by
 show dn ((strOfNums xs).data.toList)= _
 rw[strOfNums_data,dn,List.foldl_map]
 rfl
theorem BK(n:Int)(h0:0<=n)(h1:n<65536):(dn (bl (mW n 2)):Int)=n:=by
 have hu:IntKind.u64.wrap n=n:=by rw[IntKind.wrap_u64];omega
 rw[mW,BW,m4,hu]
 simp only[List.drop_succ_cons,List.drop_zero,List.foldl_cons,List.foldl_nil]
 omega
end
section
open Go.RowKit
def ltB(a b:ByteArray):Bool:=Op.bytesLess (bl a) (bl b)
theorem nQ:∀l:List UInt8,Op.bytesLess l l=false
 | []=>rfl
 |a::l=>by simp[Op.bytesLess,nQ l,UInt8.lt_irrefl]
theorem mE:∀{a b:List UInt8},Op.bytesLess a b=true->Op.bytesLess b a=false
 | [],[],h=>by simp[Op.bytesLess] at h
 | [],_:: _,_=>by simp[Op.bytesLess]
 |_:: _,[],h=>by simp[Op.bytesLess] at h
 |x::a,y::b,h=>by
  simp only[Op.bytesLess,Bool.or_eq_true,decide_eq_true_eq,Bool.and_eq_true,beq_iff_eq] at h
  simp only[Op.bytesLess,Bool.or_eq_false_iff,decide_eq_false_iff_not,Bool.and_eq_false_iff,beq_eq_false_iff_ne]
  rcases h with h|⟨rfl,h⟩
  exact⟨fun h2=>UInt8.lt_irrefl _ (UInt8.lt_trans h h2),.inl fun h2=>by subst h2;exact UInt8.lt_irrefl _ h⟩
  exact⟨UInt8.lt_irrefl _,.inr (mE h)⟩
theorem ow:∀{a b:List UInt8},Op.bytesLess a b=false->Op.bytesLess b a=false->a=b
 | [],[],_,_=>rfl
 | [],_:: _,h,_=>by simp[Op.bytesLess] at h
 |_:: _,[],_,h=>by simp[Op.bytesLess] at h
 |x::a,y::b,h1,h2=>by
  simp only[Op.bytesLess,Bool.or_eq_false_iff,decide_eq_false_iff_not,Bool.and_eq_false_iff,beq_eq_false_iff_ne] at h1 h2
  have hxy:x=y:=by
   have a1:=h1.1;have a2:=h2.1
   rw[UInt8.not_lt] at a1 a2
   exact UInt8.le_antisymm a2 a1
  subst hxy
  rw[ow (h1.2.resolve_left (by simp)) (h2.2.resolve_left (by simp))]
theorem mD(a:ByteArray):ltB a a=false:=nQ _
theorem vA{a b:ByteArray}(h:ltB a b=true):ltB b a=false:=mE h
theorem ws{a b:ByteArray}(h1:ltB a b=false)(h2:ltB b a=false):a=b:=d6 (ow h1 h2)
theorem GX(a b:ByteArray):(!(ltB a b||a.toList==b.toList))=ltB b a:=by
 have e:(a.toList==b.toList)=true<->a=b:=by
  rw[beq_iff_eq,ByteArray.toList_eq,ByteArray.toList_eq]
  exact⟨fun h=>d6 h,fun h=>by rw[h]⟩
 cases h:ltB b a with
 |true=>
  rw[vA h]
  cases h2:(a.toList==b.toList) with
  |false=>rfl
  |true=>rw[e.1 h2,mD] at h;cases h
 |false=>
  cases h1:ltB a b with
  |true=>rfl
  |false=>rw[e.2 (ws h1 h)];rfl
section
variable{P:Program}{o:Oper}{ρ:Operand->Value}{W:World}
theorem jZ{t t':TypeId}{x y:Operand}{a b:ByteArray}(h:o.op= .binOp .lss t x y t')(hx:ρ x= .string a)(hy:ρ y= .string b):(execOp ρ o).run P W= .ok (.value (.bool (ltB a b))) W:=by
 unfold execOp;rw[h]
 simp[hx,hy,eqGuard,binOp,Op.stringOp,ltB,bl,ByteArray.toList_eq]
theorem AY{t t':TypeId}{x y:Operand}{a b:ByteArray}(h:o.op= .binOp .gtr t x y t')(hx:ρ x= .string a)(hy:ρ y= .string b):(execOp ρ o).run P W= .ok (.value (.bool (ltB b a))) W:=by
 rw[<-GX]
 unfold execOp;rw[h]
 simp[hx,hy,eqGuard,binOp,Op.stringOp,ltB,bl,ByteArray.toList_eq]
end
def aR(n:Int):ByteArray:=strOfNums [n % 65536 / 256,n % 65536 % 256]
theorem wN(n:Int):mW (n % 65536) 2=aR n:=by
 have h0:0<=n % 65536:=Int.emod_nonneg _ (by decide)
 have h1:n % 65536<65536:=Int.emod_lt_of_pos _ (by decide)
 have hu:IntKind.u64.wrap (n % 65536)=n % 65536:=by rw[IntKind.wrap_u64];omega
 rw[mW,m4,hu,aR]
 simp only[Nat.reduceSub,List.drop_succ_cons,List.drop_zero]
 congr 1
 have e1:n % 65536 / 256 % 256=n % 65536 / 256:=by omega
 rw[e1]
theorem bf(n:Int):(aR n).size=2:=by simp[aR,strOfNums,ByteArray.size]
theorem mV(n:Int):(dn (bl (aR n)):Int)=n % 65536:=by
 rw[<-wN,BK _ (Int.emod_nonneg _ (by decide)) (Int.emod_lt_of_pos _ (by decide))]
def bz(k:ByteArray)(p s:Int):ByteArray:=k++aR p++aR s
theorem dx(k:ByteArray)(p s:Int):(bz k p s).size=k.size+4:=by
 rw[bz,ByteArray.size_append,ByteArray.size_append,bf,bf]
def pkF(e:ByteArray):ByteArray:=e.extract 0 (e.size-4)
def ppF(e:ByteArray):Int:=aK e (e.size-4) 2
def psF(e:ByteArray):Int:=aK e (e.size-2) 2
def okF(e:ByteArray):ByteArray:=if e.size<4 then e else pkF e
def opF(e:ByteArray):Int:=if e.size<4 then 0 else ppF e
def osF(e:ByteArray):Int:=if e.size<4 then 0 else psF e
def al(a b:ByteArray):Bool:=
 if ltB (okF a) (okF b) then true else if ltB (okF b) (okF a) then false
 else if opF a<opF b then true else if opF b<opF a then false else decide (osF a<osF b)
theorem lI(a:ByteArray):al a a=false:=by simp[al,mD]
theorem m5{a b:ByteArray}(h:al a b=true):al b a=false:=by
 unfold al at h |-
 cases h1:ltB (okF a) (okF b) with
 |true=>rw[vA h1];rfl
 |false=>
  rw[h1] at h
  cases h2:ltB (okF b) (okF a) with
  |true=>rw[h2] at h;simp at h
  |false=>
   rw[h2] at h
   simp only[Bool.false_eq_true,if_false] at h |-
   split at h
   rw[if_neg (by omega),if_pos (by assumption)]
   split at h
   cases h
   have h3:=of_decide_eq_true h
   rw[if_neg (by omega),if_neg (by omega)]
   exact decide_eq_false (by omega)
theorem lL(a b:ByteArray):al a b=(if okF a≠okF b then ltB (okF a) (okF b) else if opF a≠opF b then decide (opF a<opF b) else decide (osF a<osF b)):=by
 unfold al
 by_cases hk:okF a=okF b
 rw[hk,mD]
 simp only[Bool.false_eq_true,if_false,ne_eq,not_true_eq_false]
 by_cases hp:opF a=opF b
 rw[hp];simp
 by_cases h:opF a<opF b
 rw[if_pos h];simp[hp,h]
 rw[if_neg h,if_pos (by omega)];simp[hp,h]
 rw[if_pos hk]
 cases h1:ltB (okF a) (okF b) with
 |true=>rfl
 |false=>
  cases h2:ltB (okF b) (okF a) with
  |true=>rfl
  |false=>exact absurd (ws h1 h2) hk
def gO(a b:ByteArray):Int:=if ltB a b then -1 else if ltB b a then 1 else 0
def dJ(a b:Int):Int:=if a<b then -1 else if b<a then 1 else 0
def iT(a b:ByteArray):Int:=if gO (okF a) (okF b)≠0 then gO (okF a) (okF b) else if dJ (opF a) (opF b)≠0 then dJ (opF a) (opF b) else dJ (osF a) (osF b)
theorem oF(a b:ByteArray):decide (iT a b<0)=al a b:=by
 unfold iT al gO dJ
 cases h1:ltB (okF a) (okF b) with
 |true=>simp
 |false=>
  cases h2:ltB (okF b) (okF a) with
  |true=>simp
  |false=>
   simp only[Bool.false_eq_true,if_false,ne_eq,not_true_eq_false]
   by_cases h3:opF a<opF b
   simp[h3]
   by_cases h4:opF b<opF a
   simp[h3,h4]
   by_cases h5:osF a<osF b
   simp[h3,h4,h5]
   by_cases h6:osF b<osF a<;>simp[h3,h4,h5,h6]
abbrev EnD:=ByteArray×Nat×Int
def gQ(x:EnD):List EnD->List EnD
 | []=>[x]
 |y::l=>if al x.1 y.1 then y::gQ x l else x::y::l
def cY:List EnD->List EnD
 | []=>[]
 |x::l=>gQ x (cY l)
def bu:Nat->List ByteArray->List (Nat×ByteArray)
 |_,[]=>[]
 |i,x::l=>if x.size=0 then bu (i+1) l else (i,x)::bu (i+1) l
def b8(lv:Int)(p:Nat×ByteArray):EnD:=if 0<lv then (p.2.extract 0 (p.2.size-2),p.1,(aK p.2 (p.2.size-2) 2:Int)) else (p.2,p.1,-1)
def cB(lv:Int)(p:Nat×ByteArray):Bool:=if 0<lv then decide (p.2.size<6) else decide (p.2.size<4)
structure NoD where
 lv:Int
 right:Int
 high:ByteArray
 dead:Bool
 es:List EnD
 free:Nat
def iW(h:ByteArray):Bool:=decide (4<=h.size)&&decide (aK h 1 1<=1)&&(decide (h.size<=4)||decide (8<=h.size))
def cy:Nat->List ByteArray->Nat->Nat
 |_,[],d=>d
 |i,x::l,d=>if x.size=0 then i else cy (i+1) l d
def cn(k:Int)(its:List ByteArray):Option NoD:=
 if k≠2 then none else match its with
 | []=>none
 |h::l=>if iW h=false then none else if (bu 1 l).any (cB (aK h 0 1)) then none else
  some ⟨aK h 0 1,(aK h 2 2:Int)-1,h.extract 4 h.size,aK h 1 1==1,(cY ((bu 1 l).map (b8 (aK h 0 1))).reverse).reverse,cy 1 l (l.length+1)⟩
theorem wT(x:EnD):∀l,(gQ x l).length=l.length+1
 | []=>rfl
 |y::l=>by unfold gQ;split<;>simp[wT x l]
theorem lH:∀l,(cY l).length=l.length
 | []=>rfl
 |x::l=>by rw[cY,wT,lH l];rfl
theorem qA{x:EnD}:∀{l:List EnD}{y:EnD},y∈gQ x l->y=x\/y∈l
 | [],y,h=>by simpa[gQ] using h
 |z::l,y,h=>by
  unfold gQ at h
  split at h
  rcases List.mem_cons.1 h with rfl|h
  exact .inr (List.mem_cons_self ..)
  rcases qA h with h|h
  exact .inl h
  exact .inr (List.mem_cons_of_mem _ h)
  rcases List.mem_cons.1 h with rfl|h
  exact .inl rfl
  exact .inr h
theorem j3:∀{l:List EnD}{y:EnD},y∈cY l->y∈l
 | [],y,h=>by cases h
 |x::l,y,h=>by
  rcases qA h with rfl|h
  exact List.mem_cons_self ..
  exact List.mem_cons_of_mem _ (j3 h)
theorem qE:∀(i:Nat) (l:List ByteArray),(bu i l).length<=l.length
 |_,[]=>Nat.le_refl _
 |i,x::l=>by
  unfold bu
  have:=qE (i+1) l
  split<;>simp<;>omega
theorem jL(n:Int):(bl (aR n)).length=2:=by rw[cK,bf]
theorem F8(k:ByteArray)(p s:Int):pkF (bz k p s)=k:=by
 apply d6
 rw[pkF,dp,dx,List.drop_zero,Nat.sub_zero,Nat.add_sub_cancel,bz,cT,cT,List.append_assoc,<-cK,List.take_left']
 rfl
theorem tp(k:ByteArray)(p s:Int):ppF (bz k p s)=p % 65536:=by
 rw[ppF,dx,Nat.add_sub_cancel,<-mV]
 congr 1
 exact kK (a:=bl k) (b:=bl (aR p)) (c:=bl (aR s)) (by rw[bz,cT,cT,List.append_assoc]) (cK _) (jL _)
theorem tG(k:ByteArray)(p s:Int):psF (bz k p s)=s % 65536:=by
 rw[psF,dx,<-mV,show k.size+4-2=k.size+2 by omega]
 congr 1
 exact kK (a:=bl (k++aR p)) (b:=bl (aR s)) (c:=[]) (by rw[bz,cT,List.append_nil]) (by rw[cK,ByteArray.size_append,bf]) (jL _)
theorem FY{a b:ByteArray}(ha:4<=a.size)(hb:4<=b.size)(hk:pkF a=pkF b)(hp:ppF a=ppF b)(hs:psF a=psF b):a=b:=by
 have hz:a.size=b.size:=by
  have:=congrArg ByteArray.size hk
  simp only[pkF,ByteArray.size_extract] at this
  omega
 have two:∀{x y:ByteArray}{p:Nat},p+2<=x.size->p+2<=y.size->aK x p 2=aK y p 2->((bl x).drop p).take 2=((bl y).drop p).take 2:=by
  intro x y p hx hy h
  have e:∀z:ByteArray,aK z p 2=dn (((bl z).drop p).take 2):=fun z=>by
   rw[aK,show (z.extract p (p+2)).data.toList=bl (z.extract p (p+2)) from rfl,dp,Nat.add_sub_cancel_left]
  rw[e,e] at h
  refine wW 2 _ _ ?_ ?_ h
  rw[List.length_take,List.length_drop,cK];omega
  rw[List.length_take,List.length_drop,cK];omega
 have h1:(bl a).take (a.size-4)=(bl b).take (a.size-4):=by
  have:=congrArg bl hk
  rw[pkF,pkF,dp,dp,List.drop_zero,List.drop_zero,Nat.sub_zero,Nat.sub_zero,<-hz] at this
  exact this
 have h2:=two (x:=a) (y:=b) (p:=a.size-4) (by omega) (by omega) (by have:=hp;rw[ppF,ppF,<-hz] at this;omega)
 have h3:=two (x:=a) (y:=b) (p:=a.size-2) (by omega) (by omega) (by have:=hs;rw[psF,psF,<-hz] at this;omega)
 have cut:∀z:ByteArray,z.size=a.size->bl z=(bl z).take (a.size-4)++(((bl z).drop (a.size-4)).take 2++((bl z).drop (a.size-2)).take 2):=by
  intro z hz
  have e1:((bl z).drop (a.size-2)).take 2=(bl z).drop (a.size-2):=List.take_of_length_le (by rw[List.length_drop,cK];omega)
  have e2:(bl z).drop (a.size-2)=((bl z).drop (a.size-4)).drop 2:=by rw[List.drop_drop];congr 1;omega
  rw[e1,e2,List.take_append_drop,List.take_append_drop]
 apply d6
 rw[cut a rfl,cut b hz.symm,h1,h2,h3]
theorem jK{a b:ByteArray}(ha:4<=a.size)(hb:4<=b.size)(h1:al a b=false)(h2:al b a=false):a=b:=by
 have oa:∀{z:ByteArray},4<=z.size->okF z=pkF z/\opF z=ppF z/\osF z=psF z:=fun {z} h=>by
  unfold okF opF osF
  rw[if_neg (by omega),if_neg (by omega),if_neg (by omega)]
  exact⟨rfl,rfl,rfl⟩
 unfold al at h1 h2
 cases e1:ltB (okF a) (okF b) with
 |true=>rw[e1] at h1;simp at h1
 |false=>
  cases e2:ltB (okF b) (okF a) with
  |true=>rw[e2] at h2;simp at h2
  |false=>
   rw[e1,e2] at h1 h2
   simp only[Bool.false_eq_true,if_false] at h1 h2
   have hk:=ws e1 e2
   have hp:opF a=opF b:=by
    by_cases c1:opF a<opF b
    rw[if_pos c1] at h1;cases h1
    by_cases c2:opF b<opF a
    rw[if_pos c2] at h2;cases h2
    omega
   have hs:osF a=osF b:=by
    rw[if_neg (by omega),if_neg (by omega)] at h1 h2
    have:=of_decide_eq_false h1
    have:=of_decide_eq_false h2
    omega
   obtain⟨a1,a2,a3⟩:=oa ha
   obtain⟨b1,b2,b3⟩:=oa hb
   exact FY ha hb (a1 ▸ b1 ▸ hk) (a2 ▸ b2 ▸ hp) (a3 ▸ b3 ▸ hs)
theorem yo(x:EnD):∀l,gQ x l=l.takeWhile (fun y=>al x.1 y.1)++x::l.dropWhile (fun y=>al x.1 y.1)
 | []=>rfl
 |y::l=>by
  unfold gQ
  cases h:al x.1 y.1 with
  |true=>rw[if_pos rfl,yo x l];simp[List.takeWhile_cons,List.dropWhile_cons,h]
  |false=>rw[if_neg (by simp)];simp[List.takeWhile_cons,List.dropWhile_cons,h]
theorem y0{x:EnD}{l a b:List EnD}(h:l=a.reverse++b.reverse)(ha:∀y∈a,al x.1 y.1=true)(hb:∀y,b.getLast?=some y->al x.1 y.1=false):(gQ x l).reverse=b++x::a:=by
 subst h
 rw[yo]
 have h1:(a.reverse++b.reverse).takeWhile (fun y=>al x.1 y.1)=a.reverse:=by
  rw[List.takeWhile_append_of_pos (fun y hy=>ha y (by simpa using hy))]
  cases hr:b.reverse with
  |nil=>simp
  |cons y r=>
   rw[List.takeWhile_cons_of_neg (by rw[hb y (by rw[<-List.head?_reverse,hr];rfl)];simp),List.append_nil]
 have h2:(a.reverse++b.reverse).dropWhile (fun y=>al x.1 y.1)=b.reverse:=by
  rw[List.dropWhile_append_of_pos (fun y hy=>ha y (by simpa using hy))]
  cases hr:b.reverse with
  |nil=>rfl
  |cons y r=>rw[List.dropWhile_cons_of_neg (by rw[hb y (by rw[<-List.head?_reverse,hr];rfl)];simp)]
 rw[h1,h2]
 simp
end
section
open Go.RowKit
theorem ig(n:Int)(w:World):
  Calls Tryz.prog 65 #[.int .i64 n] w (Ret (.string (aR n)) w):=by
 go_enter Tryz.func65,Tryz.ntmps65
 have ar:=St.start w
 refine wp_seq (sqr (sqp [.k 2 (.string ⟨#[]⟩)] ?_))
 refine aa (wp_seq (sqr (sqp [.m 3 0,sAn 4 .i64 n 65535 (n % 65536) (uh n 16 (by decide))] ?_)))
 refine sqk (.string (mW (n % 65536) 2)) ar (fun cx=>⟨_,Bk (n % 65536) _,(aI (cx.ou 4) (cx.co _))⟩) fun W4 bR=>?_
 refine sqp [.m 2 5] ?_
 refine aa (wp_ret ?_)
 refine bpr (.string (mW (n % 65536) 2)) (ai Tryz.results65 rpt) ?_
 exact Ret.of (by rw[<-wN]) bR.ext
theorem gD(k:ByteArray)(p s:Int)(w:World)(hk:k.size<=1000000):
  Calls Tryz.prog 25 #[.string k,.agg #[.int .i64 p,.int .i64 s]] w (Ret (.string (bz k p s)) w):=by
 have h2_:=bf p
 have h3_:=bf s
 go_enter Tryz.func25,Tryz.ntmps25
 have ar:=St.start w
 refine wp_seq (sqr ?_)
 refine bZ #[vi p,vi s] ar fun dK W1 aE=>?_
 refine sqp [.k 4 (.string ⟨#[]⟩)] ?_
 refine aa (wp_seq (br [0,0,2,6,15,0,32,110,255,511] [[],[],[0],[],[],[],[0]] [.k 5 (.string k),.k 6 (vp dK),.c 7 (vi p),.c 8 (.string (aR p)),tS 9 k (aR p) (by first|omega|(rw[ByteArray.size_append];omega)),.k 10 (.pointer (some ⟨dK,1,none⟩)),.c 11 (vi s),.c 12 (.string (aR s)),tS 13 (k++(aR p)) (aR s) (by first|omega|(rw[ByteArray.size_append];omega)),.k 4 (.string ((k++(aR p))++(aR s)))] [0] [2,3,6,7] [(4,9,1,5),(0,0,9,9)] aE ?_ fun W3 bB=>?_))
 refine⟨?_,?_,?_,?_,trivial⟩
 exact xs4 rfl id fun cx=>ae rfl (by kernel_rfl) (cx.an 1) ((cx.bi 0 rfl).cell 0)
 exact xsc rfl id rfl rfl fun cx=>⟨_,ig p _,(bp (cx.an 2))⟩
 exact xs4 rfl id fun cx=>ae rfl (by kernel_rfl) (cx.an 5) ((cx.bi 0 rfl).cell 1)
 exact xsc rfl id rfl rfl fun cx=>⟨_,ig s _,(bp (cx.an 6))⟩
 refine aa (wp_ret ?_)
 refine bpr (.string ((k++(aR p))++(aR s))) (ai Tryz.results25 rpt) ?_
 exact Ret.of rfl bB.ext
theorem fy(n:Int)(w:World):
  Calls Tryz.prog 77 #[.int .i64 n] w (Ret (.string (aR n)) w):=by
 go_enter Tryz.func77,Tryz.ntmps77
 have ar:=St.start w
 refine wp_seq (sqr (sqp [.k 2 (.string ⟨#[]⟩)] ?_))
 refine aa (wp_seq (sqr (sqp [.m 3 0,sAn 4 .i64 n 65535 (n % 65536) (uh n 16 (by decide)),.m 0 4] ?_)))
 refine aa (wp_seq (sqr (sqp [.m 5 0,sQu 6 .i64 (n % 65536) 256 ((n % 65536) / 256) (by rw[Int.tdiv_eq_ediv_of_nonneg (by omega)];exact IntWalk.i64_in _ (by omega)),sW 7 .u8 ((n % 65536) / 256) ((n % 65536) / 256) (IntWalk.u8_in _ (by omega)),.m 8 0,sRe 9 .i64 (n % 65536) 256 ((n % 65536) % 256) (Int.tmod_eq_emod_of_nonneg (by omega)),sW 10 .u8 ((n % 65536) % 256) ((n % 65536) % 256) (IntWalk.u8_in _ (by omega))] ?_)))
 refine kW (fun x_=>sA x_) (fun sk=> .slice sk 2 2) (fun sk=>eO 5 1 (.slice sk 2 2) 2 ([.int .u8 ((n % 65536) / 256),.int .u8 ((n % 65536) % 256)])) ar (by
   refine svA fun a b W X cx=>?_
   have N2:a (.tmp 7)= .int .u8 ((n % 65536) / 256):=(cx.ou 7)
   have eW:a (.tmp 10)= .int .u8 ((n % 65536) % 256):=(cx.ou 10)
   exact bV (e:=5) (xs:=[.int .u8 ((n % 65536) / 256),.int .u8 ((n % 65536) % 256)]) rfl (by simp[go_sem,N2,eW]) rfl (by decide) rfl rfl (fun _ _ _ _ _=> .intro)) fun sk oK bY=>?_
 refine sql (.string (strOfNums ([((n % 65536) / 256),((n % 65536) % 256)]))) bY (fun cx=>ca (e:=5) rfl (by kernel_rfl) (by kernel_rfl) (by kernel_rfl) (cx.ou 11) (cx.ri 0 rfl)) ?_
 refine sqp [.m 2 12] ?_
 refine aa (wp_ret ?_)
 refine bpr (.string (strOfNums ([((n % 65536) / 256),((n % 65536) % 256)]))) (ai Tryz.results77 rpt) ?_
 exact Ret.of rfl bY.ext
theorem nk(k:ByteArray)(p s:Int)(w:World)(hk:k.size<=1000000):
  Calls Tryz.prog 35 #[.string k,.agg #[.int .i64 p,.int .i64 s]] w (Ret (.string (bz k p s)) w):=by
 have h2_:=bf p
 have h3_:=bf s
 go_enter Tryz.func35,Tryz.ntmps35
 have ar:=St.start w
 refine wp_seq (sqr ?_)
 refine bZ #[vi p,vi s] ar fun dK W1 aE=>?_
 refine sqp [.k 4 (.string ⟨#[]⟩)] ?_
 refine aa (wp_seq (br [0,0,2,6,15,0,32,110,255,511] [[],[],[0],[],[],[],[0]] [.k 5 (.string k),.k 6 (vp dK),.c 7 (vi p),.c 8 (.string (aR p)),tS 9 k (aR p) (by first|omega|(rw[ByteArray.size_append];omega)),.k 10 (.pointer (some ⟨dK,1,none⟩)),.c 11 (vi s),.c 12 (.string (aR s)),tS 13 (k++(aR p)) (aR s) (by first|omega|(rw[ByteArray.size_append];omega)),.k 4 (.string ((k++(aR p))++(aR s)))] [0] [2,3,6,7] [(4,9,1,5),(0,0,9,9)] aE ?_ fun W3 bB=>?_))
 refine⟨?_,?_,?_,?_,trivial⟩
 exact xs4 rfl id fun cx=>ae rfl (by kernel_rfl) (cx.an 1) ((cx.bi 0 rfl).cell 0)
 exact xsc rfl id rfl rfl fun cx=>⟨_,fy p _,(bp (cx.an 2))⟩
 exact xs4 rfl id fun cx=>ae rfl (by kernel_rfl) (cx.an 5) ((cx.bi 0 rfl).cell 1)
 exact xsc rfl id rfl rfl fun cx=>⟨_,fy s _,(bp (cx.an 6))⟩
 refine aa (wp_ret ?_)
 refine bpr (.string ((k++(aR p))++(aR s))) (ai Tryz.results35 rpt) ?_
 exact Ret.of rfl bB.ext
theorem uE(x:ByteArray)(w:World):
  Calls Tryz.prog 124 #[.string x] w (Ret (.bool false) w):=by
 go_enter Tryz.func124,Tryz.ntmps124
 have ar:=St.start w
 refine wp_seq (sqr (sqp [.k 2 (.bool false)] ?_))
 refine aa (wp_seq (sqr (sqp [.m 3 0,.m 4 0,.k 5 (.bool (!(x.toList==x.toList))),.m 2 5] ?_)))
 refine aa (wp_ret ?_)
 refine bpr (.bool (!(x.toList==x.toList))) (ai Tryz.results124 rpt) ?_
 exact Ret.bool (by simp) ar.ext
theorem uz(x:Int)(w:World):
  Calls Tryz.prog 125 #[.int .i64 x] w (Ret (.bool false) w):=by
 go_enter Tryz.func125,Tryz.ntmps125
 have ar:=St.start w
 refine wp_seq (sqr (sqp [.k 2 (.bool false)] ?_))
 refine aa (wp_seq (sqr (sqp [.m 3 0,.m 4 0,.k 5 (.bool (x != x)),.m 2 5] ?_)))
 refine aa (wp_ret ?_)
 refine bpr (.bool (x != x)) (ai Tryz.results125 rpt) ?_
 exact Ret.bool (by simp) ar.ext
theorem B1(a b:ByteArray)(w:World):
  Calls Tryz.prog 104 #[.string a,.string b] w (Ret (.int .i64 (gO a b)) w):=by
 go_enter Tryz.func104,Tryz.ntmps104
 have ar:=St.start w
 refine wp_seq (sqr (sqp [.k 4 (vi 0)] ?_))
 refine aa (wp_seq (sqr (sqp [.m 7 0] ?_)))
 refine sqk (.bool false) ar (fun cx=>⟨_,uE a _,(bp (cx.ou 7))⟩) fun W3 bB=>?_
 refine sqp [.k 5 (.bool false)] ?_
 refine aa (wp_seq (sqr (sqp [.m 9 1] ?_)))
 refine sqk (.bool false) bB (fun cx=>⟨_,uE b _,(bp (cx.ou 9))⟩) fun W6 cM=>?_
 refine sqp [.k 6 (.bool false)] ?_
 refine aa (wp_seq (wp_seq (sqr (sqp [.k 11 (.bool false)] ?_))))
 refine aa (wcf rfl (wp_skip (aa (wp_seq (wp_seq (sqr (sqp [.k 13 (.bool false)] ?_)))))))
 refine aa (wcf rfl (wp_skip (aa (wp_seq (wp_seq (sqr (sqp [.m 14 0,.m 15 1] ?_)))))))
 refine sql (.bool (ltB a b)) cM (fun cx=>jZ rfl (cx.ou 14) (cx.ou 15)) ?_
 refine aa (wbs (fun du=>?_) fun du=>?_)
 refine wp_seq (sqr (sqp [.k 4 (vi (-1))] ?_))
 refine aa (wp_ret (af ?_))
 refine bpr (vi (-1)) (ai Tryz.results104 rpt) ?_
 exact Ret.of (by simp[gO, *]) cM.ext
 refine wp_skip (aa (wp_seq (wp_seq (sqr (sqp [.m 17 0,.m 18 1] ?_)))))
 refine sql (.bool (ltB b a)) cM (fun cx=>AY rfl (cx.ou 17) (cx.ou 18)) ?_
 refine aa (wbs (fun qN=>?_) fun qN=>?_)
 refine wp_seq (sqr (sqp [.k 4 (vi 1)] ?_))
 refine aa (wp_ret (af ?_))
 refine bpr (vi 1) (ai Tryz.results104 rpt) ?_
 exact Ret.of (by simp[gO, *]) cM.ext
 refine wp_skip (aa (wp_seq (sqr (sqp [.k 4 (vi 0)] ?_))))
 refine aa (wp_ret ?_)
 refine bpr (vi 0) (ai Tryz.results104 rpt) ?_
 exact Ret.of (by simp[gO, *]) cM.ext
theorem uq(a b:Int)(w:World):
  Calls Tryz.prog 105 #[.int .i64 a,.int .i64 b] w (Ret (.int .i64 (dJ a b)) w):=by
 go_enter Tryz.func105,Tryz.ntmps105
 have ar:=St.start w
 refine wp_seq (sqr (sqp [.k 4 (vi 0)] ?_))
 refine aa (wp_seq (sqr (sqp [.m 7 0] ?_)))
 refine sqk (.bool false) ar (fun cx=>⟨_,uz a _,(bp (cx.ou 7))⟩) fun W3 bB=>?_
 refine sqp [.k 5 (.bool false)] ?_
 refine aa (wp_seq (sqr (sqp [.m 9 1] ?_)))
 refine sqk (.bool false) bB (fun cx=>⟨_,uz b _,(bp (cx.ou 9))⟩) fun W6 cM=>?_
 refine sqp [.k 6 (.bool false)] ?_
 refine aa (wp_seq (wp_seq (sqr (sqp [.k 11 (.bool false)] ?_))))
 refine aa (wcf rfl (wp_skip (aa (wp_seq (wp_seq (sqr (sqp [.k 13 (.bool false)] ?_)))))))
 refine aa (wcf rfl (wp_skip (aa (wp_seq (wp_seq (sqr (sqp [.m 14 0,.m 15 1,.k 16 (.bool (decide (a<b)))] ?_)))))))
 refine aa (wds (fun du fz=>?_) fun du fz=>?_)
 refine wp_seq (sqr (sqp [.k 4 (vi (-1))] ?_))
 refine aa (wp_ret (af ?_))
 refine bpr (vi (-1)) (ai Tryz.results105 rpt) ?_
 exact Ret.of (by simp[dJ, *]) cM.ext
 refine wp_skip (aa (wp_seq (wp_seq (sqr (sqp [.m 17 0,.m 18 1,.k 19 (.bool (decide (b<a)))] ?_)))))
 refine aa (wds (fun qN zY=>?_) fun qN zY=>?_)
 refine wp_seq (sqr (sqp [.k 4 (vi 1)] ?_))
 refine aa (wp_ret (af ?_))
 refine bpr (vi 1) (ai Tryz.results105 rpt) ?_
 exact Ret.of (by simp[dJ, *]) cM.ext
 refine wp_skip (aa (wp_seq (sqr (sqp [.k 4 (vi 0)] ?_))))
 refine aa (wp_ret ?_)
 refine bpr (vi 0) (ai Tryz.results105 rpt) ?_
 exact Ret.of (by simp[dJ, *]) cM.ext
end
section
open Go.RowKit
abbrev gu(u:List Go.Value)(k:Nat):Go.Value:=u.getD k undef
theorem nle{a b:Nat}(h:Nat.ble a b=true):a<=b:=Nat.le_of_ble_eq_true h
def qkF(e:ByteArray):ByteArray:=if e.size<4 then ByteArray.empty else pkF e
def r7(e:ByteArray):Value:= .tuple #[.string (qkF e),.agg #[.int .i64 (opF e),.int .i64 (osF e)],.bool (decide (4<=e.size))]
theorem qI(e:ByteArray)(m p k:Nat)(h:m+p+k<=e.size):aK (e.extract m e.size) p k=aK e (m+p) k:=by
 have e1:∀z:ByteArray,∀q,aK z q k=dn (((bl z).drop q).take k):=fun z q=>by
  rw[aK,show (z.extract q (q+k)).data.toList=bl (z.extract q (q+k)) from rfl,dp,Nat.add_sub_cancel_left]
 rw[e1,e1,dp,<-cK,List.take_of_length_le (l:=(bl e).drop m) (by rw[List.length_drop];exact Nat.le_refl _),List.drop_drop]
theorem D0{e:ByteArray}(h:e.size<4):r7 e= .tuple #[.string ByteArray.empty,.agg #[.int .i64 0,.int .i64 0],.bool false]:=by
 rw[r7,qkF,opF,osF,if_pos h,if_pos h,if_pos h,decide_eq_false (by omega)]
theorem FJ{e:ByteArray}{m:Nat}(h:e.size=m+4):r7 e= .tuple #[.string (e.extract 0 m),.agg #[.int .i64 (aK (e.extract m e.size) 0 2),.int .i64 (aK (e.extract m e.size) 2 2)],.bool true]:=by
 rw[r7,qkF,opF,osF,if_neg (by omega),if_neg (by omega),if_neg (by omega),decide_eq_true (by omega),pkF,ppF,psF,qI _ _ _ _ (by omega),qI _ _ _ _ (by omega),show e.size-4=m by omega,show e.size-2=m+2 by omega];rfl
def orL:List Int->Int
 | []=>0
 |x::l=>if x≠0 then x else orL l
theorem qC:∀(ls:List Int) (k:Nat),k<ls.length->orL (ls.drop k)=if ls.getD k 0≠0 then ls.getD k 0 else orL (ls.drop (k+1))
 | [],k,h=>by simp at h
 |x::l,0,_=>rfl
 |x::l,k+1,h=>qC l k (by simpa using h)
theorem FO(a b:ByteArray):orL [gO (okF a) (okF b),dJ (opF a) (opF b),dJ (osF a) (osF b)]=iT a b:=by
 simp only[orL,iT]
 split
 rfl
 split
 rfl
 split
 rfl
 omega
theorem tE(s:ByteArray)(w:World):Calls Tryz.prog 92 #[.string s] w fun e w'=>∃B,e= .returned (.pointer (some ⟨B,0,none⟩))/\(Blk w' B 202 #[.string s,.int .i64 0,.bool false]/\w.heap.size<=B)/\Ext w w':=by
 go_enter Tryz.func92,Tryz.ntmps92
 have ar:=St.start w
 refine wp_seq (sqr (sqp [.k 2 (.pointer none)] ?_))
 refine aa (wp_seq (sqr (sqp [.m 3 0,.k 4 (.agg #[.string s,vi 0,.bool false])] ?_)))
 refine bZ #[.string s,vi 0,.bool false] ar fun cG W4 bR=>?_
 refine sqp [.m 2 5] ?_
 refine aa (wp_ret ?_)
 refine bpr (vp cG) (ai Tryz.results92 rpt) ?_
 exact⟨_,rfl,⟨bR.blk 0 rfl,((bR.get 0 rfl).own _ (by simp[eB])).1.resolve_left (by simp)⟩,bR.ext⟩
theorem ol(e:ByteArray)(w:World)(he:e.size<=1000000):
  Calls Tryz.prog 63 #[.string e] w (Ret (r7 e) w):=by
 go_enter Tryz.func63,Tryz.ntmps63
 have ar:=St.start w
 refine wp_seq (sqr (sqp [.k 2 (.string ⟨#[]⟩)] ?_))
 refine bF #[vi 0,vi 0] ar fun mn W2 aN=>?_
 refine sqp [.k 4 (.bool false)] ?_
 refine aa (wp_seq (sqr (sqp [.m 8 0,.k 9 (vi ((e.size:Int))),sI 10 ((e.size:Int)-4) (by omega),.m 5 10] ?_)))
 refine aa (wp_seq (wp_seq (sqr (sqp [.m 11 5,.k 12 (.bool (decide ((e.size:Int)-4<0)))] ?_))))
 refine aa (wds (fun ey fT=>?_) fun ey fT=>?_)
 refine wp_seq (sqr (sqp [.k 13 (.agg #[vi 0,vi 0]),.k 2 (.string ⟨#[]⟩)] ?_))
 refine aD (n:=2) 0 #[vi 0,vi 0] aN fun lk bH=>?_
 refine sqp [.k 4 (.bool false)] ?_
 refine aa (wp_ret (af ?_))
 refine bpr (.tuple #[.string ⟨#[]⟩,.agg #[vi 0,vi 0],.bool false]) (b9 Tryz.results63 rpt (rpa (bH.blk 0 rfl) 0 2) rpt) ?_
 exact Ret.of (D0 (by omega)).symm bH.ext
 refine wp_skip (aa (wp_seq ?_))
 obtain⟨m,hm⟩:∃m:Nat,e.size=m+4:=⟨e.size-4,by omega⟩
 obtain⟨z,hz⟩:∃z,(e.size:Int)-4=z:=⟨_,rfl⟩
 rw[hz]
 obtain rfl:z=(m:Int):=by omega
 refine sqr (sqp [.m 14 0,.m 15 5] ?_)
 refine sql (.string (e.extract m e.size)) aN (fun cx=>iY (l:=m) rfl (by kernel_rfl) (cx.ou 14) (cx.ou 15) (by omega) (by omega)) ?_
 refine vF (fun ll=>vp ll) (fun ll=>eB ll 202 #[.string (e.extract m e.size),vi 0,.bool false]) aN (fun cx=>⟨_,(tE (e.extract m e.size) _).mono (by rintro e W1 ⟨B4,rfl,⟨hb4,hw4⟩,hx⟩;exact⟨_,rfl,St.one hx ⟨hb4,eH _ _ _,fun k hk=>by simp[eB] at hk;subst hk;exact⟨hw4,hb4.lt⟩⟩⟩),(bp (cx.ou 16))⟩) fun ll qi b5=>?_
 refine sqp [.m 6 17] ?_
 refine aa (wp_seq (sqr (sqp [.m 18 6] ?_)))
 refine Mc (vi ((aK (e.extract m e.size) 0 2:Int))) 1 #[.string (e.extract m e.size),vi 2,.bool false] b5 (fun cx=>⟨_,(mB _ (e.extract m e.size) 0 2 _ ⟨(cx.bi 1 rfl),by first|omega|(rw[ByteArray.size_extract];omega),by first|omega|(rw[ByteArray.size_extract];omega)⟩ (by omega) (by first|omega|(rw[ByteArray.size_extract];omega))).mono (by rintro e W1 ⟨rfl,oL,hu⟩;exact⟨rfl,hu,oL.1⟩),(aI (cx.ou 18) (cx.co _))⟩) fun y2 eI=>?_
 refine sqp [.m 7 19] ?_
 refine aa (wp_seq (ak [0,0,3,0,0,16,56,55,255,511] [[],[],[],[],[],[1],[],[],[0]] [[],[],[],[],[],[2],[],[],[3]] [[],[],[],[],[],[1],[],[],[0]] [.k 20 (.string e),.k 21 (vi ((m:Int))),.c 22 (.string (e.extract 0 m)),.k 23 (vi ((aK (e.extract m e.size) 0 2:Int))),.k 24 (vp ll),.a 25,.c 26 (.agg #[vi ((aK (e.extract m e.size) 0 2:Int)),vi ((aK (e.extract m e.size) 2 2:Int))]),.k 2 (.string (e.extract 0 m)),.n,.k 4 (.bool true)] (fun ix d b X=>match ix with|0|1|2|3|4=>True|5=>d 25=vi ((aK (e.extract m e.size) 2 2:Int))/\X 2=eB ll 202 #[.string (e.extract m e.size),vi 4,.bool false]|6|7=>True|8=>X 3=eB mn 33 #[vi ((aK (e.extract m e.size) 0 2:Int)),vi ((aK (e.extract m e.size) 2 2:Int))]|_=>True) [2,3] [2,5,6,8] [(2,7,1,3),(1,9,1,2),(15,0,7,22)] eI ?_ ?_ ?_))
 exact fun ix _ _ _ _ _ _ hs hb hx h=>match ix,h with
 |5,h=>by dsimp only;rw[<-hs 25 rfl,<-hx 2 rfl];exact h
 |8,h=>by dsimp only;rw[<-hx 3 rfl];exact h
 |0,_|1,_|2,_|3,_|4,_|6,_|7,_|_+9,_=>trivial
 refine⟨?_,?_,?_,?_,trivial⟩
 exact xs4 rfl id fun cx=>i6 (l:=m) rfl (by kernel_rfl) (cx.an 0) (cx.an 1) (by omega) (by omega)
 refine svA fun f b W X cx=>?_
 refine aC.call (aB (args:=#[vp ll,vi 2]) rfl cx.sees rfl (by kernel_rfl) (aI (cx.an 4) (cx.co _))) ?_
 refine(mB _ (e.extract m e.size) 2 2 _ ⟨(cx.bi 1 rfl),by first|omega|(rw[ByteArray.size_extract];omega),by first|omega|(rw[ByteArray.size_extract];omega)⟩ (by omega) (by first|omega|(rw[ByteArray.size_extract];omega))).mono ?_
 rintro e W1 ⟨rfl,oL,hu⟩
 refine⟨_,rfl,jm (cx.init 1 _ rfl) rfl rfl hu oL.1 (fun d g X' hs hb hv hx=>?_)⟩
 exact⟨(hv 25 rfl).1.trans rfl,hx⟩
 exact xs4 rfl id fun cx=>rj rfl (pmc (cx.an 3) (pmc (dTn (cx.an 5)).1 pmn)) (by kernel_rfl)
 refine svA fun f b W X cx=>?_
 exact aw (n:=2) rfl (cx.ou 3) (cx.an 6) (by kernel_rfl) (by kernel_rfl) (by kernel_rfl) cx (cx.init 0 _ rfl) rfl (nle rfl) (by kernel_rfl) rfl rfl rfl (fun _ _ _ _ _=>id)
 intro d b X uL hD cE fr ag
 simp only[exq 2 ((dTn (hD 5 lq)).2),exq 3 ((dTn (hD 8 lq)))] at cE
 simp only[ed 25 ((dTn (hD 5 lq)).1)] at ag
 clear hD;subst ag;clear d b X
 refine aa (wp_ret ?_)
 refine bpr (.tuple #[.string (e.extract 0 m),.agg #[vi ((aK (e.extract m e.size) 0 2:Int)),vi ((aK (e.extract m e.size) 2 2:Int))],.bool true]) (b9 Tryz.results63 rpt (rpa (cE.blk 1 rfl) 0 2) rpt) ?_
 exact Ret.of (FJ hm).symm cE.ext
theorem Gn(A:Option Addr)(c:Nat)(ls:List Int)(w:World)(hA:At w A (ls.map (Value.int .i64)))(hl:ls.length<=100000):
  Calls Tryz.prog 103 #[.slice A ls.length c] w (Ret (.int .i64 (orL ls)) w):=by
 go_enter Tryz.func103,Tryz.ntmps103
 have ar:=St.start w
 refine wp_seq (sqr (sqp [.k 2 (vi 0)] ?_))
 refine aa (wp_seq (sqr (sqp [.k 3 (vi 0)] ?_)))
 refine aa (wp_seq (wp_seq (sqr (sqp [.m 6 0,.k 7 (vi ((ls.length:Int))),.k 8 (vi 0)] ?_))))
 refine aa (wp_block ?_)
 refine aL (fun t_ mz az W=>∃k:Nat,k<=ls.length/\orL ls=orL (ls.drop k)/\mz=ls.length-k/\az=⟨(ovr (jv az) [(2,2,1,[]),(2,5,1,[]),(2,8,0,[vi ((k:Int))]),(0,9,8,[])] t_).toArray,[]⟩/\St w [] [] W) (ls.length-0) ?_ ?_
 exact⟨0,Nat.zero_le _,rfl,rfl,(by kernel_rfl),ar.pk []⟩
 rintro n6 a6 W6 ⟨k,hk,hI,rfl,hj_,cM⟩
 refine ovz hj_ fun Ir=>?_
 refine wp_seq (sqr (sqp [.k 9 (.bool (decide ((k:Int)<(ls.length:Int))))] ?_))
 refine aa (wp_seq (wds (fun sm nu=>?_) fun sm nu=>?_))
 refine wp_skip (aa (wp_seq (wp_block (wp_seq (sqr ?_)))))
 refine sql (.pointer (some ((ad A).add k))) cM (fun cx=>ay (e:=3) (m:=k) rfl (by kernel_rfl) (by kernel_rfl) (cx.ou 6) (cx.ou 8) (by omega) (by omega) (hA.ext cx.upd.to_ext) (by simp)) ?_
 refine sql (vi (ls.getD k 0)) cM (fun cx=>ae rfl (by kernel_rfl) (cx.ou 10) (At.cellAd (hA.ext cx.upd.to_ext) (bX (by omega)))) ?_
 refine sqp [.m 5 11] ?_
 refine aa (wp_seq (sqr (sqp [.m 12 5,.m 13 3,.k 14 (.bool ((ls.getD k 0) != 0))] ?_)))
 refine aa (wbs (fun cH=>?_) fun cH=>?_)
 have dB:=bne_iff_ne.1 cH
 refine wp_seq (sqr (sqp [.m 15 5,.m 2 15] ?_))
 refine aa (wp_ret (aq (af (af (aq (af ?_))))))
 refine bpr (vi (ls.getD k 0)) (ai Tryz.results103 rpt) ?_
 exact Ret.of (by rw[hI,qC ls k (by omega),if_pos (by omega)]) cM.ext
 have dB:=bne_eq_false_iff_eq.1 cH
 refine wp_skip (ax (aa (sqr (sqp [sI 16 ((k:Int)+1) (by omega),.m 8 16] ?_))))
 refine aa ?_
 refine⟨ls.length-((k+1)),by omega,?_⟩
 exact⟨(k+1),by omega,by rw[hI,qC ls k (by omega),if_neg (by omega)],rfl,(by kernel_rfl),cM.pk []⟩
 refine wp_exit (aj (aj (aO (aa (wp_seq (sqr (sqp [.m 17 3,.m 2 17] ?_)))))))
 refine aa (wp_ret ?_)
 refine bpr (vi 0) (ai Tryz.results103 rpt) ?_
 exact Ret.of (by rw[hI,List.drop_of_length_le (by omega)];rfl) cM.ext
theorem ul(s:ByteArray)(w:World)(hs:s.size<=1000000):
  Calls Tryz.prog 102 #[.string s] w (Ret (.tuple #[.string (okF s),.agg #[.int .i64 (opF s),.int .i64 (osF s)]]) w):=by
 go_enter Tryz.func102,Tryz.ntmps102
 have ar:=St.start w
 refine wp_seq (sqr (sqp [.k 2 (.string ⟨#[]⟩)] ?_))
 refine bF #[vi 0,vi 0] ar fun mn W2 aN=>?_
 refine aa (wp_seq (sqr (sqp [.m 8 0] ?_)))
 refine sqk (.tuple #[.string (qkF s),.agg #[vi (opF s),vi (osF s)],.bool (decide (4<=s.size))]) aN (fun cx=>⟨_,ol s _ (by omega),(bp (cx.ou 8))⟩) fun W4 bR=>?_
 refine sqp [.m 7 9,.k 10 (.string (qkF s)),.k 11 (.agg #[vi (opF s),vi (osF s)]),.k 12 (.bool (decide (4<=s.size)))] ?_
 refine bF #[vi 0,vi 0] bR fun PZ W9 be=>?_
 refine sqp [.m 4 10] ?_
 refine aD (n:=2) 1 #[vi (opF s),vi (osF s)] be fun oK bY=>?_
 refine sqp [.m 6 12] ?_
 refine aa (wp_seq (wp_seq (sqr (sqp [.m 13 6,.k 14 (.bool (!(decide (4<=s.size))))] ?_))))
 refine aa ?_
 rcases Bool.eq_false_or_eq_true (decide (4<=s.size)) with cH|cH
 have dB:=of_decide_eq_true cH
 refine wp_cond_false (show Act.eval _ _= .bool false from(congrArg Value.bool (by rw[cH];rfl))) (wp_skip (aa (wp_seq (ak [0,0,1,7] [[],[1],[],[0]] [[],[],[],[2]] [[],[],[],[0]] [.k 16 (.string (qkF s)),.c 17 (.agg #[vi (opF s),vi (osF s)]),.k 2 (.string (qkF s)),.n] (fun ix b a X=>match ix with|0|1|2=>True|3=>X 2=eB mn 33 #[vi (opF s),vi (osF s)]|_=>True) [1,2] [1,3] [(2,2,1,3),(13,0,2,15)] bY ?_ ?_ ?_))))
 exact fun ix _ _ _ _ _ _ hs hb hx h=>match ix,h with
 |3,h=>by dsimp only;rw[<-hx 2 rfl];exact h
 |0,_|1,_|2,_|_+4,_=>trivial
 refine⟨?_,?_,trivial⟩
 exact xs4 rfl id fun cx=>aV (n:=2) rfl (by kernel_rfl) (by kernel_rfl) (cx.ou 5) (cx.bi 1 rfl) (nle rfl) rfl
 refine svA fun d a W X cx=>?_
 exact aw (n:=2) rfl (cx.ou 3) (cx.an 1) (by kernel_rfl) (by kernel_rfl) (by kernel_rfl) cx (cx.init 0 _ rfl) rfl (nle rfl) (by kernel_rfl) rfl rfl rfl (fun _ _ _ _ _=>id)
 intro b a X nS hD bM fr ag
 simp only[exq 2 ((dTn (hD 3 lq)))] at bM
 clear hD;subst ag;clear b a X
 refine aa (wp_ret ?_)
 refine bpr (.tuple #[.string (qkF s),.agg #[vi (opF s),vi (osF s)]]) (cA Tryz.results102 rpt (rpa (bM.blk 1 rfl) 0 2)) ?_
 exact Ret.of (by rw[okF,qkF,if_neg (by omega),if_neg (by omega)]) bM.ext
 have dB:=of_decide_eq_false cH
 refine wp_cond_true (show Act.eval _ _= .bool true from(congrArg Value.bool (by rw[cH];rfl))) (sqr (sqp [.m 15 0,.m 4 15] ?_))
 refine aa (wp_seq (ak [0,0,1,7] [[],[1],[],[0]] [[],[],[],[2]] [[],[],[],[0]] [.k 16 (.string s),.c 17 (.agg #[vi (opF s),vi (osF s)]),.k 2 (.string s),.n] (fun ix b a X=>match ix with|0|1|2=>True|3=>X 2=eB mn 33 #[vi (opF s),vi (osF s)]|_=>True) [1,2] [1,3] [(2,2,1,3),(13,0,2,15)] bY ?_ ?_ ?_))
 exact fun ix _ _ _ _ _ _ hs hb hx h=>match ix,h with
 |3,h=>by dsimp only;rw[<-hx 2 rfl];exact h
 |0,_|1,_|2,_|_+4,_=>trivial
 refine⟨?_,?_,trivial⟩
 exact xs4 rfl id fun cx=>aV (n:=2) rfl (by kernel_rfl) (by kernel_rfl) (cx.ou 5) (cx.bi 1 rfl) (nle rfl) rfl
 refine svA fun d a W X cx=>?_
 exact aw (n:=2) rfl (cx.ou 3) (cx.an 1) (by kernel_rfl) (by kernel_rfl) (by kernel_rfl) cx (cx.init 0 _ rfl) rfl (nle rfl) (by kernel_rfl) rfl rfl rfl (fun _ _ _ _ _=>id)
 intro b a X w5 hD cU fr ag
 simp only[exq 2 ((dTn (hD 3 lq)))] at cU
 clear hD;subst ag;clear b a X
 refine aa (wp_ret ?_)
 refine bpr (.tuple #[.string s,.agg #[vi (opF s),vi (osF s)]]) (cA Tryz.results102 rpt (rpa (cU.blk 1 rfl) 0 2)) ?_
 exact Ret.of (by rw[okF,if_pos (by omega)]) cU.ext
theorem v7(a b:ByteArray)(w:World)(ha:a.size<=1000000)(hb:b.size<=1000000):
  Calls Tryz.prog 64 #[.string a,.string b] w (Ret (.int .i64 (iT a b)) w):=by
 go_enter Tryz.func64,Tryz.ntmps64
 have ar:=St.start w
 refine wp_seq (sqr (sqp [.k 4 (vi 0)] ?_))
 refine aa (wp_seq (sqr (sqp [.k 5 (.func (.func 102) #[] #[])] ?_)))
 refine aa (wp_seq (sqr (sqp [.m 11 5,.m 12 0] ?_)))
 refine sqv (.tuple #[.string (okF a),.agg #[vi (opF a),vi (osF a)]]) ar (gy rfl rfl rfl rfl rfl (fun _ _ _ h=>h) fun g d W X cx=>⟨_,_,iF (f:=102) (args:=#[.string a]) (args':=#[.string a]) rfl rfl (cx.ou 11) (by kernel_rfl) (bp (cx.ou 12)) rfl,ul a _ (by omega)⟩) fun W5 bw=>?_
 refine sqp [.m 10 13,.k 14 (.string (okF a)),.k 15 (.agg #[vi (opF a),vi (osF a)])] ?_
 refine bF #[vi 0,vi 0] bw fun It W9 be=>?_
 refine sqp [.m 6 14] ?_
 refine aD (n:=2) 0 #[vi (opF a),vi (osF a)] be fun oK bY=>?_
 refine aa (wp_seq (sqr (sqp [.m 17 5,.m 18 1] ?_)))
 refine sqv (.tuple #[.string (okF b),.agg #[vi (opF b),vi (osF b)]]) bY (gy rfl rfl rfl rfl rfl (fun _ _ _ h=>h) fun g d W X cx=>⟨_,_,iF (f:=102) (args:=#[.string b]) (args':=#[.string b]) rfl rfl (cx.ou 17) (by kernel_rfl) (bp (cx.ou 18)) rfl,ul b _ (by omega)⟩) fun kb bm=>?_
 refine sqp [.m 16 19,.k 20 (.string (okF b)),.k 21 (.agg #[vi (opF b),vi (osF b)])] ?_
 refine bF #[vi 0,vi 0] bm fun E2 qi b5=>?_
 refine sqp [.m 8 20] ?_
 refine aD (n:=2) 1 #[vi (opF b),vi (osF b)] b5 fun qj cb=>?_
 refine aa (wp_seq (ak [0,0,3,0,8,0,32,127,0,256,0,1024,4095,8191,16383,32767] [[],[],[],[],[0],[],[1],[],[],[0],[],[1],[],[],[2]] [[],[],[],[],[],[],[],[],[],[],[],[],[],[2]] [] [.k 22 (.string (okF a)),.k 23 (.string (okF b)),.c 24 (vi (gO (okF a) (okF b))),.k 25 (vp It),.c 26 (vi (opF a)),.k 27 (vp E2),.c 28 (vi (opF b)),.c 29 (vi (dJ (opF a) (opF b))),.k 30 (.pointer (some ⟨It,1,none⟩)),.c 31 (vi (osF a)),.k 32 (.pointer (some ⟨E2,1,none⟩)),.c 33 (vi (osF b)),.c 34 (vi (dJ (osF a) (osF b))),.a 35,.c 36 (vi (orL [(gO (okF a) (okF b)),(dJ (opF a) (opF b)),(dJ (osF a) (osF b))])),.k 4 (vi (orL [(gO (okF a) (okF b)),(dJ (opF a) (opF b)),(dJ (osF a) (osF b))]))] (fun ix i d X=>match ix with|0|1|2|3|4|5|6|7|8|9|10|11|12=>True|13=>i 35= .slice (sA (d 35)) 3 3/\X 2=eO 3 1 (.slice (sA (d 35)) 3 3) 3 ([vi (gO (okF a) (okF b)),vi (dJ (opF a) (opF b)),vi (dJ (osF a) (osF b))])|_=>True) [0,1,2] [2,4,6,7,9,11,12,13,14] [(4,15,1,5),(17,0,15,32)] cb ?_ ?_ ?_))
 exact fun ix _ _ _ _ _ _ hs hb hx h=>match ix,h with
 |13,h=>by dsimp only;rw[<-hs 35 rfl,<-hb 35 rfl,<-hx 2 rfl];exact h
 |0,_|1,_|2,_|3,_|4,_|5,_|6,_|7,_|8,_|9,_|10,_|11,_|12,_|_+14,_=>trivial
 refine⟨?_,?_,?_,?_,?_,?_,?_,?_,?_,trivial⟩
 exact xsc rfl id rfl rfl fun cx=>⟨_,B1 (okF a) (okF b) _,(aI (cx.an 0) (cx.an 1))⟩
 exact xs4 rfl id fun cx=>ae rfl (by kernel_rfl) (cx.an 3) ((cx.bi 0 rfl).cell 0)
 exact xs4 rfl id fun cx=>ae rfl (by kernel_rfl) (cx.an 5) ((cx.bi 1 rfl).cell 0)
 exact xsc rfl id rfl rfl fun cx=>⟨_,uq (opF a) (opF b) _,(aI (cx.an 4) (cx.an 6))⟩
 exact xs4 rfl id fun cx=>ae rfl (by kernel_rfl) (cx.an 8) ((cx.bi 0 rfl).cell 1)
 exact xs4 rfl id fun cx=>ae rfl (by kernel_rfl) (cx.an 10) ((cx.bi 1 rfl).cell 1)
 exact xsc rfl id rfl rfl fun cx=>⟨_,uq (osF a) (osF b) _,(aI (cx.an 9) (cx.an 11))⟩
 refine svA fun g d W X cx=>?_
 have Ei:g (.tmp 24)=vi (gO (okF a) (okF b)):=(cx.an 2)
 have Md:g (.tmp 29)=vi (dJ (opF a) (opF b)):=(cx.an 7)
 have Me:g (.tmp 34)=vi (dJ (osF a) (osF b)):=(cx.an 12)
 exact bV (e:=3) (xs:=[vi (gO (okF a) (okF b)),vi (dJ (opF a) (opF b)),vi (dJ (osF a) (osF b))]) rfl (by simp[go_sem,Ei,Md,Me]) rfl (by decide) rfl rfl (fun _ _ _ _ _=> .intro)
 exact xsc rfl id rfl rfl fun cx=>⟨_,Gn _ _ [(gO (okF a) (okF b)),(dJ (opF a) (opF b)),(dJ (osF a) (osF b))] _ (At.of_own (cx.row (dTn (cx.an 13)).2 rfl)) (by simp),(bp (dTn (cx.an 13)).1)⟩
 intro i d X y2 hD eI fr ag
 simp only[exq 2 ((dTn (hD 13 lq)).2)] at eI
 simp only[ed 35 ((dTn (hD 13 lq)).1)] at ag
 generalize sA (d 35)=N3 at eI ag
 clear hD;subst ag;clear i d X
 refine aa (wp_ret ?_)
 refine bpr (vi (orL [(gO (okF a) (okF b)),(dJ (opF a) (opF b)),(dJ (osF a) (osF b))])) (ai Tryz.results64 rpt) ?_
 exact Ret.of (by rw[<-FO]) eI.ext
theorem gh(a b:ByteArray)(w:World)(ha:a.size<=1000000)(hb:b.size<=1000000):
  Calls Tryz.prog 24 #[.string a,.string b] w (Ret (.bool (al a b)) w):=by
 go_enter Tryz.func24,Tryz.ntmps24
 have ar:=St.start w
 refine wp_seq (sqr (sqp [.k 4 (.bool false)] ?_))
 refine aa (wp_seq (sqr (sqp [.m 5 0,.m 6 1] ?_)))
 refine sqk (vi (iT a b)) ar (fun cx=>⟨_,v7 a b _ (by omega) (by omega),(aI (cx.ou 5) (cx.ou 6))⟩) fun W4 bR=>?_
 refine sqp [.k 8 (.bool (decide (iT a b<0))),.m 4 8] ?_
 refine aa (wp_ret ?_)
 refine bpr (.bool (decide (iT a b<0))) (ai Tryz.results24 rpt) ?_
 exact Ret.bool (oF a b) bR.ext
end
section
open Go.RowKit
def aA(l:List UInt8)(m:Nat):Int:=((l.getD m 0).toNat:Int)
theorem cS(l:List UInt8)(m:Nat):0<=aA l m/\aA l m<256:=by
 have:=(l.getD m 0).toNat_lt
 unfold aA;omega
section
variable{P:Program}{o:Oper}{ρ:Operand->Value}{W:World}
theorem cP{t:TypeId}{x y:Operand}{s:ByteArray}{k:IntKind}{j:Int}{m:Nat}(h:o.op= .index t x y)(ht:P.underlying t=some .string)(hx:ρ x= .string s)(hy:ρ y= .int k j)(hj:j=(m:Int))(hm:m<s.size):
  (execOp ρ o).run P W= .ok (.value (.int .u8 (aA (bl s) m))) W:=by
 subst hj
 unfold execOp;rw[h]
 have h1:(0:Int)<=(m:Int):=by omega
 have h2:s[m]? =some ((bl s).getD m 0):=by
  have hm':m<s.data.size:=hm
  rw[getElem?_pos s m hm]
  simp[bl,ByteArray.getElem_eq_getElem_data]
  rw[Array.getElem?_eq_getElem hm'];rfl
 simp only[hx,hy,Instr.index,asIntOf,Sem.run_bind,Sem.run_pure,Result.andThen_ok,run_underlying ht,h1,if_true,Int.toNat_natCast,h2]
 rfl
end
theorem jp(e:ByteArray)(m:Nat)(h:m+2<=e.size):(aK e m 2:Int)=aA (bl e) m*256+aA (bl e) (m+1):=by
 have e1:aK e m 2=dn (((bl e).drop m).take 2):=by
  rw[aK,show (e.extract m (m+2)).data.toList=bl (e.extract m (m+2)) from rfl,dp,Nat.add_sub_cancel_left]
 have hl:m+2<=(bl e).length:=by rw[cK];exact h
 have e2:((bl e).drop m).take 2=[(bl e).getD m 0,(bl e).getD (m+1) 0]:=by
  have a1:(bl e).drop m=(bl e)[m]'(by omega)::(bl e).drop (m+1):=List.drop_eq_getElem_cons (by omega)
  have a2:(bl e).drop (m+1)=(bl e)[m+1]'(by omega)::(bl e).drop (m+1+1):=List.drop_eq_getElem_cons (by omega)
  rw[a1,List.take_succ_cons,a2,List.take_succ_cons,List.take_zero]
  simp[List.getD_eq_getElem?_getD,List.getElem?_eq_getElem (show m<(bl e).length by omega),List.getElem?_eq_getElem (show m+1<(bl e).length by omega)]
 rw[e1,e2,dn,List.foldl_cons,List.foldl_cons,List.foldl_nil,aA,aA]
 omega
def nU(e:ByteArray):Value:= .agg #[.string (qkF e),.int .i64 (opF e),.int .i64 (osF e),.bool (decide (4<=e.size))]
theorem B2{e:ByteArray}(h:e.size<4):nU e= .agg #[.string ByteArray.empty,.int .i64 0,.int .i64 0,.bool false]:=by
 rw[nU,qkF,opF,osF,if_pos h,if_pos h,if_pos h,decide_eq_false (by omega)]
theorem Dw{e:ByteArray}{m:Nat}(h:e.size=m+4):nU e= .agg #[.string (e.extract 0 m),.int .i64 (aA (bl e) m*256+aA (bl e) (m+1)),.int .i64 (aA (bl e) (m+2)*256+aA (bl e) (m+3)),.bool true]:=by
 rw[nU,qkF,opF,osF,if_neg (by omega),if_neg (by omega),if_neg (by omega),decide_eq_true (by omega),pkF,ppF,psF,show e.size-4=m by omega,show e.size-2=m+2 by omega,jp _ _ (by omega),jp _ _ (by omega)]
theorem bqd(a b:ByteArray):(a.toList==b.toList)=decide (a=b):=by
 rw[Bool.eq_iff_iff,beq_iff_eq,ByteArray.toList_eq,ByteArray.toList_eq,decide_eq_true_eq]
 exact⟨fun h=>d6 h,fun h=>by rw[h]⟩
theorem di{a x:ByteArray}(h:a.size<4/\x=a\/4<=a.size/\x=qkF a):okF a=x:=by
 rcases h with ⟨h,rfl⟩|⟨h,rfl⟩
 rw[okF,if_pos h]
 rw[okF,qkF,if_neg (by omega),if_neg (by omega)]
theorem sd{a b x y:ByteArray}(hx:okF a=x)(hy:okF b=y)(h:(x.toList==y.toList)=false):al a b=ltB x y:=by
 rw[bqd] at h
 rw[lL,hx,hy,if_pos (of_decide_eq_false h)]
theorem re{a b x y:ByteArray}(hx:okF a=x)(hy:okF b=y)(h:(x.toList==y.toList)=true)(h2:opF a≠opF b):al a b=decide (opF a<opF b):=by
 rw[bqd] at h
 rw[lL,hx,hy,if_neg (by simpa using of_decide_eq_true h),if_pos h2]
theorem rP{a b x y:ByteArray}(hx:okF a=x)(hy:okF b=y)(h:(x.toList==y.toList)=true)(h2:opF a=opF b):al a b=decide (osF a<osF b):=by
 rw[bqd] at h
 rw[lL,hx,hy,if_neg (by simpa using of_decide_eq_true h),if_neg (by simpa using h2)]
theorem oD(e:ByteArray)(w:World)(he:e.size<=1000000):
  Calls Tryz.prog 79 #[.string e] w (Ret (nU e) w):=by
 go_enter Tryz.func79,Tryz.ntmps79
 have ar:=St.start w
 refine wp_seq (sqr (bF #[.string ByteArray.empty,vi 0,vi 0,.bool false] ar fun bW W1 aE=>?_))
 refine aa (wp_seq (sqr (sqp [.m 4 0,.k 5 (vi ((e.size:Int))),sI 6 ((e.size:Int)-4) (by omega),.m 3 6] ?_)))
 refine aa (wp_seq (wp_seq (sqr (sqp [.m 7 3,.k 8 (.bool (decide ((e.size:Int)-4<0)))] ?_))))
 refine aa (wds (fun sm nu=>?_) fun sm nu=>?_)
 refine wp_seq (sqr (sqp [.k 9 (.agg #[.string ByteArray.empty,vi 0,vi 0,.bool false])] ?_))
 refine aD (n:=4) 0 #[.string ByteArray.empty,vi 0,vi 0,.bool false] aE fun so cF=>?_
 refine aa (wp_ret (af ?_))
 refine bpr (.agg #[.string ByteArray.empty,vi 0,vi 0,.bool false]) (aJ (n:=4) Tryz.results79 rfl (by kernel_rfl) (by kernel_rfl) (cF.blk 0 rfl) rfl) ?_
 exact Ret.of (B2 (by omega)).symm cF.ext
 refine wp_skip (aa (wp_seq ?_))
 obtain⟨m,hm⟩:∃m:Nat,e.size=m+4:=⟨e.size-4,by omega⟩
 obtain⟨z,hz⟩:∃z,(e.size:Int)-4=z:=⟨_,rfl⟩
 rw[hz]
 obtain rfl:z=(m:Int):=by omega
 have Iu:=cS (bl e) (m)
 have Mf:=cS (bl e) (m+1)
 have zZ:=cS (bl e) (m+2)
 have Iv:=cS (bl e) (m+3)
 refine ak [0,0,3,0,0,24,56,120,0,0,512,1792,3840,8184,0,0,32768,114688,245760,507904,0,0,2097152,7340032,15728640,33538048,67108856,134217727,268435455] [[],[],[],[],[],[],[],[],[],[],[],[],[],[],[],[],[],[],[],[],[],[],[],[],[],[],[],[],[0]] [[],[],[],[],[],[],[],[],[],[],[],[],[],[],[],[],[],[],[],[],[],[],[],[],[],[],[],[],[1]] [[],[],[],[],[],[],[],[],[],[],[],[],[],[],[],[],[],[],[],[],[],[],[],[],[],[],[],[],[0]] [.k 10 (.string e),.k 11 (vi ((m:Int))),.c 12 (.string (e.extract 0 m)),.k 13 (.string e),.k 14 (vi ((m:Int))),.c 15 (.int .u8 (aA (bl e) m)),tW 16 .i64 (aA (bl e) m) (aA (bl e) m) (IntWalk.i64_in _ (by omega)),tI 17 ((aA (bl e) m)*256) (by omega),.k 18 (.string e),.k 19 (vi ((m:Int))),tI 20 ((m:Int)+1) (by omega),.c 21 (.int .u8 (aA (bl e) (m+1))),tW 22 .i64 (aA (bl e) (m+1)) (aA (bl e) (m+1)) (IntWalk.i64_in _ (by omega)),tI 23 (((aA (bl e) m)*256)+(aA (bl e) (m+1))) (by omega),.k 24 (.string e),.k 25 (vi ((m:Int))),tI 26 ((m:Int)+2) (by omega),.c 27 (.int .u8 (aA (bl e) (m+2))),tW 28 .i64 (aA (bl e) (m+2)) (aA (bl e) (m+2)) (IntWalk.i64_in _ (by omega)),tI 29 ((aA (bl e) (m+2))*256) (by omega),.k 30 (.string e),.k 31 (vi ((m:Int))),tI 32 ((m:Int)+3) (by omega),.c 33 (.int .u8 (aA (bl e) (m+3))),tW 34 .i64 (aA (bl e) (m+3)) (aA (bl e) (m+3)) (IntWalk.i64_in _ (by omega)),tI 35 (((aA (bl e) (m+2))*256)+(aA (bl e) (m+3))) (by omega),.k 36 (.agg #[vi ((aA (bl e) m)*256+(aA (bl e) (m+1))),vi ((aA (bl e) (m+2))*256+(aA (bl e) (m+3)))]),.k 37 (.agg #[.string (e.extract 0 m),vi ((aA (bl e) m)*256+(aA (bl e) (m+1))),vi ((aA (bl e) (m+2))*256+(aA (bl e) (m+3))),.bool true]),.n] (fun ix b a X=>match ix with|0|1|2|3|4|5|6|7|8|9|10|11|12|13|14|15|16|17|18|19|20|21|22|23|24|25|26|27=>True|28=>X 1=eB bW 159 #[.string (e.extract 0 m),vi ((aA (bl e) m)*256+(aA (bl e) (m+1))),vi ((aA (bl e) (m+2))*256+(aA (bl e) (m+3))),.bool true]|_=>True) [1] [2,5,11,17,23,28] [(10,0,28,38)] aE ?_ ?_ ?_
 exact fun ix _ _ _ _ _ _ hs hb hx h=>match ix,h with
 |28,h=>by dsimp only;rw[<-hx 1 rfl];exact h
 |0,_|1,_|2,_|3,_|4,_|5,_|6,_|7,_|8,_|9,_|10,_|11,_|12,_|13,_|14,_|15,_|16,_|17,_|18,_|19,_|20,_|21,_|22,_|23,_|24,_|25,_|26,_|27,_|_+29,_=>trivial
 refine⟨?_,?_,?_,?_,?_,?_,trivial⟩
 exact xs4 rfl id fun cx=>i6 (l:=m) rfl (by kernel_rfl) (cx.an 0) (cx.an 1) (by omega) (by omega)
 exact xs4 rfl id fun cx=>cP (m:=m) rfl (by kernel_rfl) (cx.an 3) (cx.an 4) (by omega) (by omega)
 exact xs4 rfl id fun cx=>cP (m:=m+1) rfl (by kernel_rfl) (cx.an 8) (cx.an 10) (by omega) (by omega)
 exact xs4 rfl id fun cx=>cP (m:=m+2) rfl (by kernel_rfl) (cx.an 14) (cx.an 16) (by omega) (by omega)
 exact xs4 rfl id fun cx=>cP (m:=m+3) rfl (by kernel_rfl) (cx.an 20) (cx.an 22) (by omega) (by omega)
 refine svA fun d a W X cx=>?_
 exact aw (n:=4) rfl (cx.ou 2) (cx.an 27) (by kernel_rfl) (by kernel_rfl) (by kernel_rfl) cx (cx.init 0 _ rfl) rfl (nle rfl) (by kernel_rfl) rfl rfl rfl (fun _ _ _ _ _=>id)
 intro b a X oK hD bY fr ag
 simp only[exq 1 ((dTn (hD 28 lq)))] at bY
 clear hD;subst ag;clear b a X
 refine aa (wp_ret ?_)
 refine bpr (.agg #[.string (e.extract 0 m),vi ((aA (bl e) m)*256+(aA (bl e) (m+1))),vi ((aA (bl e) (m+2))*256+(aA (bl e) (m+3))),.bool true]) (aJ (n:=4) Tryz.results79 rfl (by kernel_rfl) (by kernel_rfl) (bY.blk 0 rfl) rfl) ?_
 exact Ret.of (Dw hm).symm bY.ext
theorem gr(a b:ByteArray)(w:World)(ha:a.size<=1000000)(hb:b.size<=1000000):
  Calls Tryz.prog 78 #[.string a,.string b] w (Ret (.bool (al a b)) w):=by
 go_enter Tryz.func78,Tryz.ntmps78
 have ar:=St.start w
 refine wp_seq (sqr (sqp [.k 4 (.bool false)] ?_))
 refine aa (wp_seq (sqr (sqp [.m 7 0] ?_)))
 refine sqk (.agg #[.string (qkF a),vi (opF a),vi (osF a),.bool (decide (4<=a.size))]) ar (fun cx=>⟨_,oD a _ (by omega),(bp (cx.ou 7))⟩) fun W3 bB=>?_
 refine bF #[.string ByteArray.empty,vi 0,vi 0,.bool false] bB fun cG W4 bR=>?_
 refine aD (n:=4) 0 #[.string (qkF a),vi (opF a),vi (osF a),.bool (decide (4<=a.size))] bR fun W5 bw=>?_
 refine aa (wp_seq (sqr (sqp [.m 9 1] ?_)))
 refine sqk (.agg #[.string (qkF b),vi (opF b),vi (osF b),.bool (decide (4<=b.size))]) bw (fun cx=>⟨_,oD b _ (by omega),(bp (cx.ou 9))⟩) fun W7 bD=>?_
 refine bF #[.string ByteArray.empty,vi 0,vi 0,.bool false] bD fun cI W8 bj=>?_
 refine aD (n:=4) 1 #[.string (qkF b),vi (opF b),vi (osF b),.bool (decide (4<=b.size))] bj fun W9 be=>?_
 refine aa (wp_seq (wp_seq (sqr (sqp [.k 11 (.pointer (some ⟨cG,3,none⟩))] ?_))))
 refine am 0 be ?_
 refine sqp [.k 13 (.bool (!(decide (4<=a.size))))] ?_
 refine aa ?_
 rcases Bool.eq_false_or_eq_true (decide (4<=a.size)) with du|du
 have fz:=of_decide_eq_true du
 refine wp_cond_false (show Act.eval _ _= .bool false from(congrArg Value.bool (by rw[du];rfl))) (wp_skip (aa (wp_seq (wp_seq (sqr (sqp [.k 16 (.pointer (some ⟨cI,3,none⟩))] ?_))))))
 refine am 1 be ?_
 refine sqp [.k 18 (.bool (!(decide (4<=b.size))))] ?_
 refine aa ?_
 rcases Bool.eq_false_or_eq_true (decide (4<=b.size)) with iu|iu
 have lO:=of_decide_eq_true iu
 refine wp_cond_false (show Act.eval _ _= .bool false from(congrArg Value.bool (by rw[iu];rfl))) (wp_skip (aa (wp_seq (wp_seq (sqr (sqp [.k 21 (vp cG)] ?_))))))
 refine am 0 be ?_
 refine sqp [.k 23 (vp cI)] ?_
 refine am 1 be ?_
 refine sqp [.k 25 (.bool (!((qkF a).toList==(qkF b).toList)))] ?_
 refine aa ?_
 rcases Bool.eq_false_or_eq_true ((qkF a).toList==(qkF b).toList) with w6|w6
 refine wp_cond_false (show Act.eval _ _= .bool false from(congrArg Value.bool (by rw[w6];rfl))) (wp_skip (aa (wp_seq (wp_seq (sqr (sqp [.k 31 (.pointer (some ⟨cG,1,none⟩)),.k 32 (.pointer (some ⟨cG,1,none⟩))] ?_))))))
 refine am 0 be ?_
 refine sqp [.k 34 (.pointer (some ⟨cI,1,none⟩)),.k 35 (.pointer (some ⟨cI,1,none⟩))] ?_
 refine am 1 be ?_
 refine sqp [.k 37 (.bool ((opF a) != (opF b)))] ?_
 refine aa (wbs (fun gU=>?_) fun gU=>?_)
 have z2:=bne_iff_ne.1 gU
 refine wp_seq (sqr (sqp [.k 38 (.pointer (some ⟨cG,1,none⟩)),.k 39 (.pointer (some ⟨cG,1,none⟩))] ?_))
 refine am 0 be ?_
 refine sqp [.k 41 (.pointer (some ⟨cI,1,none⟩)),.k 42 (.pointer (some ⟨cI,1,none⟩))] ?_
 refine am 1 be ?_
 refine sqp [.k 44 (.bool (decide (opF a<opF b))),.m 4 44] ?_
 refine aa (wp_ret (af ?_))
 refine bpr (.bool (decide (opF a<opF b))) (ai Tryz.results78 rpt) ?_
 exact Ret.bool (re (di (.inr ⟨by omega,rfl⟩)) (di (.inr ⟨by omega,rfl⟩)) (by assumption) (by assumption)).symm be.ext
 have z2:=bne_eq_false_iff_eq.1 gU
 refine wp_skip (aa (wp_seq (sqr (sqp [.k 45 (.pointer (some ⟨cG,1,none⟩)),.k 46 (.pointer (some ⟨cG,2,none⟩))] ?_))))
 refine am 0 be ?_
 refine sqp [.k 48 (.pointer (some ⟨cI,1,none⟩)),.k 49 (.pointer (some ⟨cI,2,none⟩))] ?_
 refine am 1 be ?_
 refine sqp [.k 51 (.bool (decide (osF a<osF b))),.m 4 51] ?_
 refine aa (wp_ret ?_)
 refine bpr (.bool (decide (osF a<osF b))) (ai Tryz.results78 rpt) ?_
 exact Ret.bool (rP (di (.inr ⟨by omega,rfl⟩)) (di (.inr ⟨by omega,rfl⟩)) (by assumption) (by assumption)).symm be.ext
 refine wp_cond_true (show Act.eval _ _= .bool true from(congrArg Value.bool (by rw[w6];rfl))) (wp_seq (sqr (sqp [.k 26 (vp cG)] ?_)))
 refine am 0 be ?_
 refine sqp [.k 28 (vp cI)] ?_
 refine am 1 be ?_
 refine sql (.bool (ltB (qkF a) (qkF b))) be (fun cx=>jZ rfl (cx.ou 27) (cx.ou 29)) ?_
 refine sqp [.m 4 30] ?_
 refine aa (wp_ret (af ?_))
 refine bpr (.bool (ltB (qkF a) (qkF b))) (ai Tryz.results78 rpt) ?_
 exact Ret.bool (sd (di (.inr ⟨by omega,rfl⟩)) (di (.inr ⟨by omega,rfl⟩)) (by assumption)).symm be.ext
 have lO:=of_decide_eq_false iu
 refine wp_cond_true (show Act.eval _ _= .bool true from(congrArg Value.bool (by rw[iu];rfl))) (sqr (sqp [.m 19 1,.k 20 (vp cI)] ?_))
 refine aD (n:=1) 1 #[.string b,vi (opF b),vi (osF b),.bool (decide (4<=b.size))] be fun LM dk=>?_
 refine aa (wp_seq (wp_seq (sqr (sqp [.k 21 (vp cG)] ?_))))
 refine am 0 dk ?_
 refine sqp [.k 23 (vp cI)] ?_
 refine am 1 dk ?_
 refine sqp [.k 25 (.bool (!((qkF a).toList==b.toList)))] ?_
 refine aa ?_
 rcases Bool.eq_false_or_eq_true ((qkF a).toList==b.toList) with Ej|Ej
 refine wp_cond_false (show Act.eval _ _= .bool false from(congrArg Value.bool (by rw[Ej];rfl))) (wp_skip (aa (wp_seq (wp_seq (sqr (sqp [.k 31 (.pointer (some ⟨cG,1,none⟩)),.k 32 (.pointer (some ⟨cG,1,none⟩))] ?_))))))
 refine am 0 dk ?_
 refine sqp [.k 34 (.pointer (some ⟨cI,1,none⟩)),.k 35 (.pointer (some ⟨cI,1,none⟩))] ?_
 refine am 1 dk ?_
 refine sqp [.k 37 (.bool ((opF a) != (opF b)))] ?_
 refine aa (wbs (fun gw=>?_) fun gw=>?_)
 have jM:=bne_iff_ne.1 gw
 refine wp_seq (sqr (sqp [.k 38 (.pointer (some ⟨cG,1,none⟩)),.k 39 (.pointer (some ⟨cG,1,none⟩))] ?_))
 refine am 0 dk ?_
 refine sqp [.k 41 (.pointer (some ⟨cI,1,none⟩)),.k 42 (.pointer (some ⟨cI,1,none⟩))] ?_
 refine am 1 dk ?_
 refine sqp [.k 44 (.bool (decide (opF a<opF b))),.m 4 44] ?_
 refine aa (wp_ret (af ?_))
 refine bpr (.bool (decide (opF a<opF b))) (ai Tryz.results78 rpt) ?_
 exact Ret.bool (re (di (.inr ⟨by omega,rfl⟩)) (di (.inl ⟨by omega,rfl⟩)) (by assumption) (by assumption)).symm dk.ext
 have jM:=bne_eq_false_iff_eq.1 gw
 refine wp_skip (aa (wp_seq (sqr (sqp [.k 45 (.pointer (some ⟨cG,1,none⟩)),.k 46 (.pointer (some ⟨cG,2,none⟩))] ?_))))
 refine am 0 dk ?_
 refine sqp [.k 48 (.pointer (some ⟨cI,1,none⟩)),.k 49 (.pointer (some ⟨cI,2,none⟩))] ?_
 refine am 1 dk ?_
 refine sqp [.k 51 (.bool (decide (osF a<osF b))),.m 4 51] ?_
 refine aa (wp_ret ?_)
 refine bpr (.bool (decide (osF a<osF b))) (ai Tryz.results78 rpt) ?_
 exact Ret.bool (rP (di (.inr ⟨by omega,rfl⟩)) (di (.inl ⟨by omega,rfl⟩)) (by assumption) (by assumption)).symm dk.ext
 refine wp_cond_true (show Act.eval _ _= .bool true from(congrArg Value.bool (by rw[Ej];rfl))) (wp_seq (sqr (sqp [.k 26 (vp cG)] ?_)))
 refine am 0 dk ?_
 refine sqp [.k 28 (vp cI)] ?_
 refine am 1 dk ?_
 refine sql (.bool (ltB (qkF a) b)) dk (fun cx=>jZ rfl (cx.ou 27) (cx.ou 29)) ?_
 refine sqp [.m 4 30] ?_
 refine aa (wp_ret (af ?_))
 refine bpr (.bool (ltB (qkF a) b)) (ai Tryz.results78 rpt) ?_
 exact Ret.bool (sd (di (.inr ⟨by omega,rfl⟩)) (di (.inl ⟨by omega,rfl⟩)) (by assumption)).symm dk.ext
 have fz:=of_decide_eq_false du
 refine wp_cond_true (show Act.eval _ _= .bool true from(congrArg Value.bool (by rw[du];rfl))) (sqr (sqp [.m 14 0,.k 15 (vp cG)] ?_))
 refine aD (n:=1) 0 #[.string a,vi (opF a),vi (osF a),.bool (decide (4<=a.size))] be fun Q9 eY=>?_
 refine aa (wp_seq (wp_seq (sqr (sqp [.k 16 (.pointer (some ⟨cI,3,none⟩))] ?_))))
 refine am 1 eY ?_
 refine sqp [.k 18 (.bool (!(decide (4<=b.size))))] ?_
 refine aa ?_
 rcases Bool.eq_false_or_eq_true (decide (4<=b.size)) with w7|w7
 have KQ:=of_decide_eq_true w7
 refine wp_cond_false (show Act.eval _ _= .bool false from(congrArg Value.bool (by rw[w7];rfl))) (wp_skip (aa (wp_seq (wp_seq (sqr (sqp [.k 21 (vp cG)] ?_))))))
 refine am 0 eY ?_
 refine sqp [.k 23 (vp cI)] ?_
 refine am 1 eY ?_
 refine sqp [.k 25 (.bool (!(a.toList==(qkF b).toList)))] ?_
 refine aa ?_
 rcases Bool.eq_false_or_eq_true (a.toList==(qkF b).toList) with z3|z3
 refine wp_cond_false (show Act.eval _ _= .bool false from(congrArg Value.bool (by rw[z3];rfl))) (wp_skip (aa (wp_seq (wp_seq (sqr (sqp [.k 31 (.pointer (some ⟨cG,1,none⟩)),.k 32 (.pointer (some ⟨cG,1,none⟩))] ?_))))))
 refine am 0 eY ?_
 refine sqp [.k 34 (.pointer (some ⟨cI,1,none⟩)),.k 35 (.pointer (some ⟨cI,1,none⟩))] ?_
 refine am 1 eY ?_
 refine sqp [.k 37 (.bool ((opF a) != (opF b)))] ?_
 refine aa (wbs (fun z5=>?_) fun z5=>?_)
 have Iw:=bne_iff_ne.1 z5
 refine wp_seq (sqr (sqp [.k 38 (.pointer (some ⟨cG,1,none⟩)),.k 39 (.pointer (some ⟨cG,1,none⟩))] ?_))
 refine am 0 eY ?_
 refine sqp [.k 41 (.pointer (some ⟨cI,1,none⟩)),.k 42 (.pointer (some ⟨cI,1,none⟩))] ?_
 refine am 1 eY ?_
 refine sqp [.k 44 (.bool (decide (opF a<opF b))),.m 4 44] ?_
 refine aa (wp_ret (af ?_))
 refine bpr (.bool (decide (opF a<opF b))) (ai Tryz.results78 rpt) ?_
 exact Ret.bool (re (di (.inl ⟨by omega,rfl⟩)) (di (.inr ⟨by omega,rfl⟩)) (by assumption) (by assumption)).symm eY.ext
 have Iw:=bne_eq_false_iff_eq.1 z5
 refine wp_skip (aa (wp_seq (sqr (sqp [.k 45 (.pointer (some ⟨cG,1,none⟩)),.k 46 (.pointer (some ⟨cG,2,none⟩))] ?_))))
 refine am 0 eY ?_
 refine sqp [.k 48 (.pointer (some ⟨cI,1,none⟩)),.k 49 (.pointer (some ⟨cI,2,none⟩))] ?_
 refine am 1 eY ?_
 refine sqp [.k 51 (.bool (decide (osF a<osF b))),.m 4 51] ?_
 refine aa (wp_ret ?_)
 refine bpr (.bool (decide (osF a<osF b))) (ai Tryz.results78 rpt) ?_
 exact Ret.bool (rP (di (.inl ⟨by omega,rfl⟩)) (di (.inr ⟨by omega,rfl⟩)) (by assumption) (by assumption)).symm eY.ext
 refine wp_cond_true (show Act.eval _ _= .bool true from(congrArg Value.bool (by rw[z3];rfl))) (wp_seq (sqr (sqp [.k 26 (vp cG)] ?_)))
 refine am 0 eY ?_
 refine sqp [.k 28 (vp cI)] ?_
 refine am 1 eY ?_
 refine sql (.bool (ltB a (qkF b))) eY (fun cx=>jZ rfl (cx.ou 27) (cx.ou 29)) ?_
 refine sqp [.m 4 30] ?_
 refine aa (wp_ret (af ?_))
 refine bpr (.bool (ltB a (qkF b))) (ai Tryz.results78 rpt) ?_
 exact Ret.bool (sd (di (.inl ⟨by omega,rfl⟩)) (di (.inr ⟨by omega,rfl⟩)) (by assumption)).symm eY.ext
 have KQ:=of_decide_eq_false w7
 refine wp_cond_true (show Act.eval _ _= .bool true from(congrArg Value.bool (by rw[w7];rfl))) (sqr (sqp [.m 19 1,.k 20 (vp cI)] ?_))
 refine aD (n:=1) 1 #[.string b,vi (opF b),vi (osF b),.bool (decide (4<=b.size))] eY fun P0 eK=>?_
 refine aa (wp_seq (wp_seq (sqr (sqp [.k 21 (vp cG)] ?_))))
 refine am 0 eK ?_
 refine sqp [.k 23 (vp cI)] ?_
 refine am 1 eK ?_
 refine sqp [.k 25 (.bool (!(a.toList==b.toList)))] ?_
 refine aa ?_
 rcases Bool.eq_false_or_eq_true (a.toList==b.toList) with z6|z6
 refine wp_cond_false (show Act.eval _ _= .bool false from(congrArg Value.bool (by rw[z6];rfl))) (wp_skip (aa (wp_seq (wp_seq (sqr (sqp [.k 31 (.pointer (some ⟨cG,1,none⟩)),.k 32 (.pointer (some ⟨cG,1,none⟩))] ?_))))))
 refine am 0 eK ?_
 refine sqp [.k 34 (.pointer (some ⟨cI,1,none⟩)),.k 35 (.pointer (some ⟨cI,1,none⟩))] ?_
 refine am 1 eK ?_
 refine sqp [.k 37 (.bool ((opF a) != (opF b)))] ?_
 refine aa (wbs (fun z7=>?_) fun z7=>?_)
 have Ix:=bne_iff_ne.1 z7
 refine wp_seq (sqr (sqp [.k 38 (.pointer (some ⟨cG,1,none⟩)),.k 39 (.pointer (some ⟨cG,1,none⟩))] ?_))
 refine am 0 eK ?_
 refine sqp [.k 41 (.pointer (some ⟨cI,1,none⟩)),.k 42 (.pointer (some ⟨cI,1,none⟩))] ?_
 refine am 1 eK ?_
 refine sqp [.k 44 (.bool (decide (opF a<opF b))),.m 4 44] ?_
 refine aa (wp_ret (af ?_))
 refine bpr (.bool (decide (opF a<opF b))) (ai Tryz.results78 rpt) ?_
 exact Ret.bool (re (di (.inl ⟨by omega,rfl⟩)) (di (.inl ⟨by omega,rfl⟩)) (by assumption) (by assumption)).symm eK.ext
 have Ix:=bne_eq_false_iff_eq.1 z7
 refine wp_skip (aa (wp_seq (sqr (sqp [.k 45 (.pointer (some ⟨cG,1,none⟩)),.k 46 (.pointer (some ⟨cG,2,none⟩))] ?_))))
 refine am 0 eK ?_
 refine sqp [.k 48 (.pointer (some ⟨cI,1,none⟩)),.k 49 (.pointer (some ⟨cI,2,none⟩))] ?_
 refine am 1 eK ?_
 refine sqp [.k 51 (.bool (decide (osF a<osF b))),.m 4 51] ?_
 refine aa (wp_ret ?_)
 refine bpr (.bool (decide (osF a<osF b))) (ai Tryz.results78 rpt) ?_
 exact Ret.bool (rP (di (.inl ⟨by omega,rfl⟩)) (di (.inl ⟨by omega,rfl⟩)) (by assumption) (by assumption)).symm eK.ext
 refine wp_cond_true (show Act.eval _ _= .bool true from(congrArg Value.bool (by rw[z6];rfl))) (wp_seq (sqr (sqp [.k 26 (vp cG)] ?_)))
 refine am 0 eK ?_
 refine sqp [.k 28 (vp cI)] ?_
 refine am 1 eK ?_
 refine sql (.bool (ltB a b)) eK (fun cx=>jZ rfl (cx.ou 27) (cx.ou 29)) ?_
 refine sqp [.m 4 30] ?_
 refine aa (wp_ret (af ?_))
 refine bpr (.bool (ltB a b)) (ai Tryz.results78 rpt) ?_
 exact Ret.bool (sd (di (.inl ⟨by omega,rfl⟩)) (di (.inl ⟨by omega,rfl⟩)) (by assumption)).symm eK.ext
end
section
open Go.RowKit
theorem cW(a b:Int):(strOfNums [a,b]).size=2:=by simp[strOfNums,ByteArray.size]
def hdB(lv right:Int)(dead:Bool)(high:ByteArray):ByteArray:=(strOfNums [lv,if dead then 1 else 0]++aR (right+1))++high
def itB(lv kid:Int)(e:ByteArray):ByteArray:=if 0<lv then e++aR kid else e
def da(dead:Bool)(high x:ByteArray):Bool:=dead||(!(high.toList==(⟨#[]⟩:ByteArray).toList)&&!al x high)
theorem BT(pg lv rt fr:Int)(hi:ByteArray)(dead:Bool)(EA:Option Addr)(en ec:Nat)(w:World)(hlv:0<=lv/\lv<=255)(hrt: -1<=rt/\rt<=1000000)(hh:hi.size<=1000000):
  Calls Tryz.prog 62 #[.agg #[.int .i64 pg,.int .i64 lv,.int .i64 rt,.string hi,.bool dead,.slice EA en ec,.int .i64 fr]] w (Ret (.string (hdB lv rt dead hi)) w):=by
 go_enter Tryz.func62,Tryz.ntmps62
 have ar:=St.start w
 refine wp_seq (sqr ?_)
 refine bZ #[vi pg,vi lv,vi rt,.string hi,.bool dead,.slice EA en ec,vi fr] ar fun bE W1 aE=>?_
 refine sqp [.k 2 (.string ⟨#[]⟩)] ?_
 refine aa (wp_seq (sqr (sqp [.k 3 (vi 0)] ?_)))
 refine aa (wp_seq (wp_seq (sqr (sqp [.k 4 (.pointer (some ⟨bE,4,none⟩))] ?_))))
 refine am 0 aE ?_
 refine aa (wbs (fun sq=>?_) fun sq=>?_)
 refine sqr (sqp [.k 3 (vi 1)] ?_)
 refine aa (wp_seq (ak [0,1,3,0,8,31,63,0,128,384,896,2047,0,4096,16383,32767] [[],[0],[],[],[],[],[1],[],[0],[],[],[],[],[0]] [[],[],[],[],[],[1]] [] [.k 6 (.pointer (some ⟨bE,1,none⟩)),.c 7 (vi lv),tW 8 .u8 lv lv (IntWalk.u8_in _ (by omega)),.k 9 (vi 1),tW 10 .u8 1 1 (by decide),.a 11,.c 12 (.string (strOfNums ([lv,1]))),.k 13 (.pointer (some ⟨bE,2,none⟩)),.c 14 (vi rt),tI 15 (rt+1) (by omega),.c 16 (.string (aR (rt+1))),tS 17 (strOfNums ([lv,1])) (aR (rt+1)) (by(try simp only[ByteArray.size_append,bf,cW]);omega),.k 18 (.pointer (some ⟨bE,3,none⟩)),.c 19 (.string hi),tS 20 ((strOfNums ([lv,1]))++(aR (rt+1))) hi (by(try simp only[ByteArray.size_append,bf,cW]);omega),.k 2 (.string (((strOfNums ([lv,1]))++(aR (rt+1)))++hi))] (fun ix d b X=>match ix with|0|1|2|3|4=>True|5=>d 11= .slice (sA (b 11)) 2 2/\X 1=eO 5 1 (.slice (sA (b 11)) 2 2) 2 ([.int .u8 lv,.int .u8 1])|_=>True) [0,1] [1,5,6,8,10,13] [(2,15,1,3),(3,0,15,18)] aE ?_ ?_ ?_))
 exact fun ix _ _ _ _ _ _ hs hb hx h=>match ix,h with
 |5,h=>by dsimp only;rw[<-hs 11 rfl,<-hb 11 rfl,<-hx 1 rfl];exact h
 |0,_|1,_|2,_|3,_|4,_|_+6,_=>trivial
 refine⟨?_,?_,?_,?_,?_,?_,trivial⟩
 exact xs4 rfl id fun cx=>ae rfl (by kernel_rfl) (cx.an 0) ((cx.bi 0 rfl).cell 1)
 refine svA fun f b W X cx=>?_
 have ke:f (.tmp 8)= .int .u8 lv:=(cx.an 2)
 have eW:f (.tmp 10)= .int .u8 1:=(cx.an 4)
 exact bV (e:=5) (xs:=[.int .u8 lv,.int .u8 1]) rfl (by simp[go_sem,ke,eW]) rfl (by decide) rfl rfl (fun _ _ _ _ _=> .intro)
 exact xs4 rfl id fun cx=>ca (e:=5) rfl (by kernel_rfl) (by kernel_rfl) (by kernel_rfl) (dTn (cx.an 5)).1 (cx.row (dTn (cx.an 5)).2 rfl)
 exact xs4 rfl id fun cx=>ae rfl (by kernel_rfl) (cx.an 7) ((cx.bi 0 rfl).cell 2)
 exact xsc rfl id rfl rfl fun cx=>⟨_,ig (rt+1) _,(bp (cx.an 9))⟩
 exact xs4 rfl id fun cx=>ae rfl (by kernel_rfl) (cx.an 12) ((cx.bi 0 rfl).cell 3)
 intro d b X W8 hD bj fr ag
 simp only[exq 1 ((dTn (hD 5 lq)).2)] at bj
 simp only[ed 11 ((dTn (hD 5 lq)).1)] at ag
 generalize sA (b 11)=sr at bj ag
 clear hD;subst ag;clear d b X
 refine aa (wp_ret ?_)
 refine bpr (.string (((strOfNums ([lv,1]))++(aR (rt+1)))++hi)) (ai Tryz.results62 rpt) ?_
 exact Ret.of (by simp[hdB, *]) bj.ext
 refine wp_skip (aa (wp_seq (ak [0,1,3,0,8,31,63,0,128,384,896,2047,0,4096,16383,32767] [[],[0],[],[],[],[],[1],[],[0],[],[],[],[],[0]] [[],[],[],[],[],[1]] [] [.k 6 (.pointer (some ⟨bE,1,none⟩)),.c 7 (vi lv),tW 8 .u8 lv lv (IntWalk.u8_in _ (by omega)),.k 9 (vi 0),tW 10 .u8 0 0 (by decide),.a 11,.c 12 (.string (strOfNums ([lv,0]))),.k 13 (.pointer (some ⟨bE,2,none⟩)),.c 14 (vi rt),tI 15 (rt+1) (by omega),.c 16 (.string (aR (rt+1))),tS 17 (strOfNums ([lv,0])) (aR (rt+1)) (by(try simp only[ByteArray.size_append,bf,cW]);omega),.k 18 (.pointer (some ⟨bE,3,none⟩)),.c 19 (.string hi),tS 20 ((strOfNums ([lv,0]))++(aR (rt+1))) hi (by(try simp only[ByteArray.size_append,bf,cW]);omega),.k 2 (.string (((strOfNums ([lv,0]))++(aR (rt+1)))++hi))] (fun ix d b X=>match ix with|0|1|2|3|4=>True|5=>d 11= .slice (sA (b 11)) 2 2/\X 1=eO 5 1 (.slice (sA (b 11)) 2 2) 2 ([.int .u8 lv,.int .u8 0])|_=>True) [0,1] [1,5,6,8,10,13] [(2,15,1,3),(3,0,15,18)] aE ?_ ?_ ?_)))
 exact fun ix _ _ _ _ _ _ hs hb hx h=>match ix,h with
 |5,h=>by dsimp only;rw[<-hs 11 rfl,<-hb 11 rfl,<-hx 1 rfl];exact h
 |0,_|1,_|2,_|3,_|4,_|_+6,_=>trivial
 refine⟨?_,?_,?_,?_,?_,?_,trivial⟩
 exact xs4 rfl id fun cx=>ae rfl (by kernel_rfl) (cx.an 0) ((cx.bi 0 rfl).cell 1)
 refine svA fun f b W X cx=>?_
 have ke:f (.tmp 8)= .int .u8 lv:=(cx.an 2)
 have eW:f (.tmp 10)= .int .u8 0:=(cx.an 4)
 exact bV (e:=5) (xs:=[.int .u8 lv,.int .u8 0]) rfl (by simp[go_sem,ke,eW]) rfl (by decide) rfl rfl (fun _ _ _ _ _=> .intro)
 exact xs4 rfl id fun cx=>ca (e:=5) rfl (by kernel_rfl) (by kernel_rfl) (by kernel_rfl) (dTn (cx.an 5)).1 (cx.row (dTn (cx.an 5)).2 rfl)
 exact xs4 rfl id fun cx=>ae rfl (by kernel_rfl) (cx.an 7) ((cx.bi 0 rfl).cell 2)
 exact xsc rfl id rfl rfl fun cx=>⟨_,ig (rt+1) _,(bp (cx.an 9))⟩
 exact xs4 rfl id fun cx=>ae rfl (by kernel_rfl) (cx.an 12) ((cx.bi 0 rfl).cell 3)
 intro d b X W9 hD be fr ag
 simp only[exq 1 ((dTn (hD 5 lq)).2)] at be
 simp only[ed 11 ((dTn (hD 5 lq)).1)] at ag
 generalize sA (b 11)=z8 at be ag
 clear hD;subst ag;clear d b X
 refine aa (wp_ret ?_)
 refine bpr (.string (((strOfNums ([lv,0]))++(aR (rt+1)))++hi)) (ai Tryz.results62 rpt) ?_
 exact Ret.of (by simp[hdB, *]) be.ext
theorem ua(lv rt:Int)(hi:ByteArray)(ok dead:Bool)(EA SA KA:Option Addr)(en ec sn sc kn kc:Nat)(w:World)(hlv:0<=lv/\lv<=255)(hrt: -1<=rt/\rt<=1000000)(hh:hi.size<=1000000):
  Calls Tryz.prog 81 #[.agg #[.bool ok,.bool dead,.int .i64 lv,.int .i64 rt,.string hi,.slice EA en ec,.slice SA sn sc,.slice KA kn kc]] w (Ret (.string (hdB lv rt dead hi)) w):=by
 go_enter Tryz.func81,Tryz.ntmps81
 have ar:=St.start w
 refine wp_seq (sqr ?_)
 refine bZ #[.bool ok,.bool dead,vi lv,vi rt,.string hi,.slice EA en ec,.slice SA sn sc,.slice KA kn kc] ar fun bE W1 aE=>?_
 refine sqp [.k 2 (.string ⟨#[]⟩)] ?_
 refine aa (wp_seq (sqr (sqp [.k 3 (vi 0)] ?_)))
 refine aa (wp_seq (wp_seq (sqr (sqp [.k 4 (.pointer (some ⟨bE,1,none⟩))] ?_))))
 refine am 0 aE ?_
 refine aa (wbs (fun sq=>?_) fun sq=>?_)
 refine sqr (sqp [.k 3 (vi 1)] ?_)
 refine aa (wp_seq (ak [0,1,3,0,8,31,63,0,128,384,896,2047,0,4096,16383,32767] [[],[0],[],[],[],[],[1],[],[0],[],[],[],[],[0]] [[],[],[],[],[],[1]] [] [.k 6 (.pointer (some ⟨bE,2,none⟩)),.c 7 (vi lv),tW 8 .u8 lv lv (IntWalk.u8_in _ (by omega)),.k 9 (vi 1),tW 10 .u8 1 1 (by decide),.a 11,.c 12 (.string (strOfNums ([lv,1]))),.k 13 (.pointer (some ⟨bE,3,none⟩)),.c 14 (vi rt),tI 15 (rt+1) (by omega),.c 16 (.string (aR (rt+1))),tS 17 (strOfNums ([lv,1])) (aR (rt+1)) (by(try simp only[ByteArray.size_append,bf,cW]);omega),.k 18 (.pointer (some ⟨bE,4,none⟩)),.c 19 (.string hi),tS 20 ((strOfNums ([lv,1]))++(aR (rt+1))) hi (by(try simp only[ByteArray.size_append,bf,cW]);omega),.k 2 (.string (((strOfNums ([lv,1]))++(aR (rt+1)))++hi))] (fun ix d b X=>match ix with|0|1|2|3|4=>True|5=>d 11= .slice (sA (b 11)) 2 2/\X 1=eO 5 1 (.slice (sA (b 11)) 2 2) 2 ([.int .u8 lv,.int .u8 1])|_=>True) [0,1] [1,5,6,8,10,13] [(2,15,1,3),(3,0,15,18)] aE ?_ ?_ ?_))
 exact fun ix _ _ _ _ _ _ hs hb hx h=>match ix,h with
 |5,h=>by dsimp only;rw[<-hs 11 rfl,<-hb 11 rfl,<-hx 1 rfl];exact h
 |0,_|1,_|2,_|3,_|4,_|_+6,_=>trivial
 refine⟨?_,?_,?_,?_,?_,?_,trivial⟩
 exact xs4 rfl id fun cx=>ae rfl (by kernel_rfl) (cx.an 0) ((cx.bi 0 rfl).cell 2)
 refine svA fun f b W X cx=>?_
 have ke:f (.tmp 8)= .int .u8 lv:=(cx.an 2)
 have eW:f (.tmp 10)= .int .u8 1:=(cx.an 4)
 exact bV (e:=5) (xs:=[.int .u8 lv,.int .u8 1]) rfl (by simp[go_sem,ke,eW]) rfl (by decide) rfl rfl (fun _ _ _ _ _=> .intro)
 exact xs4 rfl id fun cx=>ca (e:=5) rfl (by kernel_rfl) (by kernel_rfl) (by kernel_rfl) (dTn (cx.an 5)).1 (cx.row (dTn (cx.an 5)).2 rfl)
 exact xs4 rfl id fun cx=>ae rfl (by kernel_rfl) (cx.an 7) ((cx.bi 0 rfl).cell 3)
 exact xsc rfl id rfl rfl fun cx=>⟨_,fy (rt+1) _,(bp (cx.an 9))⟩
 exact xs4 rfl id fun cx=>ae rfl (by kernel_rfl) (cx.an 12) ((cx.bi 0 rfl).cell 4)
 intro d b X W8 hD bj fr ag
 simp only[exq 1 ((dTn (hD 5 lq)).2)] at bj
 simp only[ed 11 ((dTn (hD 5 lq)).1)] at ag
 generalize sA (b 11)=sr at bj ag
 clear hD;subst ag;clear d b X
 refine aa (wp_ret ?_)
 refine bpr (.string (((strOfNums ([lv,1]))++(aR (rt+1)))++hi)) (ai Tryz.results81 rpt) ?_
 exact Ret.of (by simp[hdB, *]) bj.ext
 refine wp_skip (aa (wp_seq (ak [0,1,3,0,8,31,63,0,128,384,896,2047,0,4096,16383,32767] [[],[0],[],[],[],[],[1],[],[0],[],[],[],[],[0]] [[],[],[],[],[],[1]] [] [.k 6 (.pointer (some ⟨bE,2,none⟩)),.c 7 (vi lv),tW 8 .u8 lv lv (IntWalk.u8_in _ (by omega)),.k 9 (vi 0),tW 10 .u8 0 0 (by decide),.a 11,.c 12 (.string (strOfNums ([lv,0]))),.k 13 (.pointer (some ⟨bE,3,none⟩)),.c 14 (vi rt),tI 15 (rt+1) (by omega),.c 16 (.string (aR (rt+1))),tS 17 (strOfNums ([lv,0])) (aR (rt+1)) (by(try simp only[ByteArray.size_append,bf,cW]);omega),.k 18 (.pointer (some ⟨bE,4,none⟩)),.c 19 (.string hi),tS 20 ((strOfNums ([lv,0]))++(aR (rt+1))) hi (by(try simp only[ByteArray.size_append,bf,cW]);omega),.k 2 (.string (((strOfNums ([lv,0]))++(aR (rt+1)))++hi))] (fun ix d b X=>match ix with|0|1|2|3|4=>True|5=>d 11= .slice (sA (b 11)) 2 2/\X 1=eO 5 1 (.slice (sA (b 11)) 2 2) 2 ([.int .u8 lv,.int .u8 0])|_=>True) [0,1] [1,5,6,8,10,13] [(2,15,1,3),(3,0,15,18)] aE ?_ ?_ ?_)))
 exact fun ix _ _ _ _ _ _ hs hb hx h=>match ix,h with
 |5,h=>by dsimp only;rw[<-hs 11 rfl,<-hb 11 rfl,<-hx 1 rfl];exact h
 |0,_|1,_|2,_|3,_|4,_|_+6,_=>trivial
 refine⟨?_,?_,?_,?_,?_,?_,trivial⟩
 exact xs4 rfl id fun cx=>ae rfl (by kernel_rfl) (cx.an 0) ((cx.bi 0 rfl).cell 2)
 refine svA fun f b W X cx=>?_
 have ke:f (.tmp 8)= .int .u8 lv:=(cx.an 2)
 have eW:f (.tmp 10)= .int .u8 0:=(cx.an 4)
 exact bV (e:=5) (xs:=[.int .u8 lv,.int .u8 0]) rfl (by simp[go_sem,ke,eW]) rfl (by decide) rfl rfl (fun _ _ _ _ _=> .intro)
 exact xs4 rfl id fun cx=>ca (e:=5) rfl (by kernel_rfl) (by kernel_rfl) (by kernel_rfl) (dTn (cx.an 5)).1 (cx.row (dTn (cx.an 5)).2 rfl)
 exact xs4 rfl id fun cx=>ae rfl (by kernel_rfl) (cx.an 7) ((cx.bi 0 rfl).cell 3)
 exact xsc rfl id rfl rfl fun cx=>⟨_,fy (rt+1) _,(bp (cx.an 9))⟩
 exact xs4 rfl id fun cx=>ae rfl (by kernel_rfl) (cx.an 12) ((cx.bi 0 rfl).cell 4)
 intro d b X W9 hD be fr ag
 simp only[exq 1 ((dTn (hD 5 lq)).2)] at be
 simp only[ed 11 ((dTn (hD 5 lq)).1)] at ag
 generalize sA (b 11)=z8 at be ag
 clear hD;subst ag;clear d b X
 refine aa (wp_ret ?_)
 refine bpr (.string (((strOfNums ([lv,0]))++(aR (rt+1)))++hi)) (ai Tryz.results81 rpt) ?_
 exact Ret.of (by simp[hdB, *]) be.ext
theorem oz(pg lv rt fr:Int)(hi:ByteArray)(dead:Bool)(EA:Option Addr)(en ec:Nat)(e:ByteArray)(sl kid:Int)(w:World)(he:e.size<=1000000):
  Calls Tryz.prog 61 #[.agg #[.int .i64 pg,.int .i64 lv,.int .i64 rt,.string hi,.bool dead,.slice EA en ec,.int .i64 fr],.agg #[.string e,.int .i64 sl,.int .i64 kid]] w (Ret (.string (itB lv kid e)) w):=by
 go_enter Tryz.func61,Tryz.ntmps61
 have ar:=St.start w
 refine wp_seq (sqr ?_)
 refine bZ #[vi pg,vi lv,vi rt,.string hi,.bool dead,.slice EA en ec,vi fr] ar fun bW W1 aE=>?_
 refine bZ #[.string e,vi sl,vi kid] aE fun mn W2 aN=>?_
 refine sqp [.k 4 (.string ⟨#[]⟩)] ?_
 refine aa (wp_seq (wp_seq (sqr (sqp [.k 5 (.pointer (some ⟨bW,1,none⟩))] ?_))))
 refine am 0 aN ?_
 refine sqp [.k 7 (.bool (decide (0<lv)))] ?_
 refine aa (wds (fun w8 qO=>?_) fun w8 qO=>?_)
 refine wp_seq (br [0,1,0,4,12,31,63] [[],[1],[],[1]] [.k 8 (vp mn),.c 9 (.string e),.k 10 (.pointer (some ⟨mn,2,none⟩)),.c 11 (vi kid),.c 12 (.string (aR kid)),tS 13 e (aR kid) (by(try simp only[ByteArray.size_append,bf,cW]);omega),.k 4 (.string (e++(aR kid)))] [0,1] [1,3,4] [(4,6,1,5),(3,0,6,9)] aN ?_ fun W8 bj=>?_)
 refine⟨?_,?_,?_,trivial⟩
 exact xs4 rfl id fun cx=>ae rfl (by kernel_rfl) (cx.an 0) ((cx.bi 1 rfl).cell 0)
 exact xs4 rfl id fun cx=>ae rfl (by kernel_rfl) (cx.an 2) ((cx.bi 1 rfl).cell 2)
 exact xsc rfl id rfl rfl fun cx=>⟨_,ig kid _,(bp (cx.an 3))⟩
 refine aa (wp_ret (af ?_))
 refine bpr (.string (e++(aR kid))) (ai Tryz.results61 rpt) ?_
 exact Ret.of (by simp[itB, *]) bj.ext
 refine wp_skip (aa (wp_seq (sqr (sqp [.k 14 (vp mn)] ?_))))
 refine am 1 aN ?_
 refine sqp [.m 4 15] ?_
 refine aa (wp_ret ?_)
 refine bpr (.string e) (ai Tryz.results61 rpt) ?_
 exact Ret.of (by simp[itB, *]) aN.ext
theorem j5(e:ByteArray)(lv kid:Int)(w:World)(he:e.size<=1000000):
  Calls Tryz.prog 73 #[.string e,.int .i64 lv,.int .i64 kid] w (Ret (.string (itB lv kid e)) w):=by
 go_enter Tryz.func73,Tryz.ntmps73
 have ar:=St.start w
 refine wp_seq (sqr (sqp [.k 6 (.string ⟨#[]⟩)] ?_))
 refine aa (wp_seq (wp_seq (sqr (sqp [.m 7 1,.k 8 (.bool (decide (0<lv)))] ?_))))
 refine aa (wds (fun aM Mg=>?_) fun aM Mg=>?_)
 refine wp_seq (sqr (sqp [.m 9 0,.m 10 2] ?_))
 refine sqk (.string (aR kid)) ar (fun cx=>⟨_,fy kid _,(bp (cx.ou 10))⟩) fun W7 bD=>?_
 refine sqp [sS 12 e (aR kid) (by(try simp only[ByteArray.size_append,bf,cW]);omega),.m 6 12] ?_
 refine aa (wp_ret (af ?_))
 refine bpr (.string (e++(aR kid))) (ai Tryz.results73 rpt) ?_
 exact Ret.of (by simp[itB, *]) bD.ext
 refine wp_skip (aa (wp_seq (sqr (sqp [.m 13 0,.m 6 13] ?_))))
 refine aa (wp_ret ?_)
 refine bpr (.string e) (ai Tryz.results73 rpt) ?_
 exact Ret.of (by simp[itB, *]) ar.ext
theorem sj(pg lv rt fr:Int)(hi:ByteArray)(dead:Bool)(EA:Option Addr)(en ec:Nat)(x:ByteArray)(w:World)(hh:hi.size<=1000000)(hx:x.size<=1000000):
  Calls Tryz.prog 52 #[.agg #[.int .i64 pg,.int .i64 lv,.int .i64 rt,.string hi,.bool dead,.slice EA en ec,.int .i64 fr],.string x] w (Ret (.bool (da dead hi x)) w):=by
 go_enter Tryz.func52,Tryz.ntmps52
 have ar:=St.start w
 refine wp_seq (sqr ?_)
 refine bZ #[vi pg,vi lv,vi rt,.string hi,.bool dead,.slice EA en ec,vi fr] ar fun bW W1 aE=>?_
 refine sqp [.k 4 (.bool false)] ?_
 refine aa (wp_seq (sqr (sqp [.k 5 (.pointer (some ⟨bW,4,none⟩))] ?_)))
 refine am 0 aE ?_
 refine sqp [.m 7 6] ?_
 refine ii 7 [8,9,10,11,12,13,14,15,16,17] ?_ aE rfl (fun hq=>?_) fun su b6=>?_
 rotate_left
 ·have hq_:=hq
  try simp only[zB] at hq_
  refine sqp [.k 8 (.pointer (some ⟨bW,3,none⟩))] ?_
  refine am 0 aE ?_
  refine sqp [.k 10 (.bool (!(hi.toList==((⟨#[]⟩:ByteArray)).toList))),.m 11 10] ?_
  refine ii 11 [12,13,14,15,16] ?_ aE rfl (fun hq=>?_) fun oM cc=>?_
  rotate_left
  have hq_:=hq
  try simp only[zB] at hq_
  refine sqp [.m 12 1,.k 13 (.pointer (some ⟨bW,3,none⟩))] ?_
  refine am 0 aE ?_
  refine sqk (.bool (al x hi)) aE (fun cx=>⟨_,gh x hi _ (by omega) (by omega),(aI (cx.ou 12) (cx.ou 14))⟩) fun lk bH=>?_
  refine sqp [.k 16 (.bool (!(al x hi)))] ?_
  exact sqE bH
  refine bQ ?_
  refine sqp [sPa 17 (!(hi.toList==((⟨#[]⟩:ByteArray)).toList)) (!(al x hi))] ?_
  exact sqE cc
 refine bQ ?_
 refine sqp [sPo 18 dead ((!(hi.toList==((⟨#[]⟩:ByteArray)).toList))&&(!(al x hi))),.m 4 18] ?_
 refine aa (wp_ret ?_)
 refine bpr (.bool (dead||((!(hi.toList==((⟨#[]⟩:ByteArray)).toList))&&(!(al x hi))))) (ai Tryz.results52 rpt) ?_
 exact Ret.bool (by simp[da, *]) b6.ext
theorem si(lv rt:Int)(hi:ByteArray)(ok dead:Bool)(EA SA KA:Option Addr)(en ec sn sc kn kc:Nat)(x:ByteArray)(w:World)(hh:hi.size<=1000000)(hx:x.size<=1000000):
  Calls Tryz.prog 69 #[.agg #[.bool ok,.bool dead,.int .i64 lv,.int .i64 rt,.string hi,.slice EA en ec,.slice SA sn sc,.slice KA kn kc],.string x] w (Ret (.bool (da dead hi x)) w):=by
 go_enter Tryz.func69,Tryz.ntmps69
 have ar:=St.start w
 refine wp_seq (sqr ?_)
 refine bZ #[.bool ok,.bool dead,vi lv,vi rt,.string hi,.slice EA en ec,.slice SA sn sc,.slice KA kn kc] ar fun bW W1 aE=>?_
 refine sqp [.k 4 (.bool false)] ?_
 refine aa (wp_seq (wp_seq (sqr (sqp [.k 6 (.pointer (some ⟨bW,1,none⟩))] ?_))))
 refine am 0 aE ?_
 refine aa (wbs (fun N4=>?_) fun N4=>?_)
 refine wp_seq (sqr (sqp [.k 4 (.bool true)] ?_))
 refine aa (wp_ret (af ?_))
 refine bpr (.bool true) (ai Tryz.results69 rpt) ?_
 exact Ret.bool (by simp[da, *]) aE.ext
 refine wp_skip (aa (wp_seq (sqr (sqp [.m 8 1,.k 9 (.pointer (some ⟨bW,4,none⟩))] ?_))))
 refine am 0 aE ?_
 refine sqk (.bool (al x hi)) aE (fun cx=>⟨_,gr x hi _ (by omega) (by omega),(aI (cx.ou 8) (cx.ou 10))⟩) fun so cF=>?_
 refine sqp [.m 5 11] ?_
 refine aa (wp_seq (sqr (sqp [.k 12 (.pointer (some ⟨bW,4,none⟩))] ?_)))
 refine am 0 cF ?_
 refine sqp [.k 14 (.bool (!(hi.toList==((⟨#[]⟩:ByteArray)).toList))),.m 15 14] ?_
 refine sqw 15 [16,17] rfl (fun _=>sqp [.m 16 5,.k 17 (.bool (!(al x hi)))] sqe) ?_
 refine sqp [sPa 18 (!(hi.toList==((⟨#[]⟩:ByteArray)).toList)) (!(al x hi)),.m 4 18] ?_
 refine aa (wp_ret ?_)
 refine bpr (.bool ((!(hi.toList==((⟨#[]⟩:ByteArray)).toList))&&(!(al x hi)))) (ai Tryz.results69 rpt) ?_
 exact Ret.bool (by simp[da, *]) cF.ext
end
section
open Go.RowKit
def kA(its:List ByteArray)(d:Nat)(i:Nat):Nat:=cy i (its.drop i) d
theorem rC{its:List ByteArray}{d i:Nat}(h:i<its.length):kA its d i=if (its.getD i ByteArray.empty).toList==(⟨#[]⟩:ByteArray).toList then i else kA its d (i+1):=by
 have e:its.drop i=its.getD i ByteArray.empty::its.drop (i+1):=by
  rw[List.drop_eq_getElem_cons h,List.getD_eq_getElem?_getD,List.getElem?_eq_getElem h];rfl
 rw[kA,e,cy,bqd]
 by_cases hz:(its.getD i ByteArray.empty).size=0
 rw[if_pos hz,if_pos]
 have:its.getD i ByteArray.empty=⟨#[]⟩:=by
  apply d6
  have h1:(bl (its.getD i ByteArray.empty)).length=0:=by rw[cK,hz]
  rw[List.eq_nil_of_length_eq_zero h1];rfl
 rw[this];simp
 rw[if_neg hz,if_neg]
 rfl
 intro h2
 have h3:=of_decide_eq_true h2
 rw[h3] at hz
 exact hz rfl
theorem BH{its:List ByteArray}{d i:Nat}(h:its.length<=i):kA its d i=d:=by
 rw[kA,List.drop_of_length_le h];rfl
section
variable{P:Program}{o:Oper}{ρ:Operand->Value}{W:World}
theorem ww{x y:Operand}{ts:Array TypeId}{k k':IntKind}{a b z:Int}(h:o.op= .call {callee:= .builtin .max,args:=#[x,y],argTypes:=ts})(hx:ρ x= .int k a)(hy:ρ y= .int k' b)(hz:max a b=z):(execOp ρ o).run P W= .ok (.value (.int k z)) W:=by
 subst hz
 unfold execOp;rw[h]
 simp only[resolve,invoke,builtin,List.map_toArray,List.map_cons,List.map_nil,hx,hy,Sem.run_bind,Sem.run_pure,Result.andThen_ok]
 have e:(Builtin.max_ ts o.type #[.int k a,.int k' b]).run P W= .ok (.int k (max a b)) W:=by
  unfold Builtin.max_
  show (List.foldlM Builtin.max2 (.int k a) [.int k' b]).run P W= _
  simp only[List.foldlM_cons,List.foldlM_nil,Builtin.max2]
  have h2:(if a<b then b else a)=max a b:=by omega
  rw[h2]
  rfl
 rw[e]
 rfl
end
def jJ(its:List ByteArray):Int:=kA its (max 1 its.length) 1
theorem Br(k l:Int)(IA:Option Addr)(ic:Nat)(its:List ByteArray)(w:World)(hA:At w IA (its.map Value.string))(hl:its.length<=100000):
  Calls Tryz.prog 72 #[.agg #[.int .i64 k,.int .i64 l,.slice IA its.length ic]] w (Ret (.int .i64 (jJ its)) w):=by
 go_enter Tryz.func72,Tryz.ntmps72
 have ar:=St.start w
 refine wp_seq (sqr ?_)
 refine bZ #[vi k,vi l,.slice IA its.length ic] ar fun bE W1 aE=>?_
 refine sqp [.k 2 (vi 0)] ?_
 refine aa (wp_seq (wp_seq (sqr (sqp [.k 3 (vi 1)] ?_))))
 refine aa (wp_block ?_)
 refine aL (fun t_ mz az W=>∃j:Nat,1<=j/\j<=max 1 its.length/\kA its (max 1 its.length) 1=kA its (max 1 its.length) j/\mz=max 1 its.length-j/\az=⟨(ovr (jv az) [(2,2,1,[vi ((j:Int))]),(0,4,14,[])] t_).toArray,[]⟩/\St w [] [eB bE 102 #[vi k,vi l,.slice IA its.length ic]] W) (max 1 its.length-1) ?_ ?_
 exact⟨1,Nat.le_refl _,by omega,rfl,rfl,(by kernel_rfl),aE.pk [0]⟩
 rintro n4 a4 W4 ⟨j,hj1,hj,hI,rfl,hj_,bR⟩
 refine ovz hj_ fun N5=>?_
 refine wp_seq (wp_seq (sqr (sqp [.m 4 3,.k 5 (.pointer (some ⟨bE,2,none⟩))] ?_)))
 refine am 0 bR ?_
 refine sqp [.k 7 (vi ((its.length:Int))),.k 8 (.bool (decide ((j:Int)<(its.length:Int))))] ?_
 refine aa (wds (fun ey fT=>?_) fun ey fT=>?_)
 refine wp_skip (aa (wp_seq (wp_block (wp_seq (sqr (sqp [.k 11 (.pointer (some ⟨bE,2,none⟩))] ?_))))))
 refine am 0 bR ?_
 refine sqp [.m 13 3] ?_
 refine sql (.pointer (some ((ad IA).add j))) bR (fun cx=>ay (e:=9) (m:=j) rfl (by kernel_rfl) (by kernel_rfl) (cx.ou 12) (cx.ou 13) (by omega) (by omega) (hA.ext cx.upd.to_ext) (by simp)) ?_
 refine sql (.string (its.getD j ByteArray.empty)) bR (fun cx=>ae rfl (by kernel_rfl) (cx.ou 14) (At.cellAd (hA.ext cx.upd.to_ext) (qt (by omega)))) ?_
 refine sqp [.k 16 (.bool ((its.getD j ByteArray.empty).toList==((⟨#[]⟩:ByteArray)).toList))] ?_
 refine aa (wbs (fun iu=>?_) fun iu=>?_)
 refine wp_seq (sqr (sqp [.m 17 3,.m 2 17] ?_))
 refine aa (wp_ret (aq (af (af (aq (af ?_))))))
 refine bpr (vi ((j:Int))) (ai Tryz.results72 rpt) ?_
 exact Ret.of (by rw[jJ,hI,rC (by omega),if_pos (by assumption)]) bR.ext
 refine wp_skip (ax (aa (sqr (sqp [.m 9 3,sI 10 ((j:Int)+1) (by omega),.m 3 10] ?_))))
 refine aa ?_
 refine⟨max 1 its.length-((j+1)),by omega,?_⟩
 exact⟨(j+1),by omega,by omega,by rw[hI,rC (by omega),if_neg (Bool.eq_false_iff.1 (by assumption))],rfl,(by kernel_rfl),bR.pk [0]⟩
 refine wp_exit (aj (aj (aO (aa (wp_seq (sqr (sqp [.k 18 (.pointer (some ⟨bE,2,none⟩))] ?_)))))))
 refine am 0 bR ?_
 refine sqp [.k 20 (vi ((its.length:Int)))] ?_
 refine sql (vi (max 1 (its.length:Int))) bR (fun cx=>ww rfl (cx.co _) (cx.ou 20) rfl) ?_
 refine sqp [.m 2 21] ?_
 refine aa (wp_ret ?_)
 refine bpr (vi (max 1 (its.length:Int))) (ai Tryz.results72 rpt) ?_
 exact Ret.of (by rw[jJ,hI,BH (by omega)];congr 1;omega) bR.ext
end
section
open Go.RowKit
abbrev EdT:=Int×Int×ByteArray
def edC(e:EdT):List Value:=[.int .i64 e.1,.int .i64 e.2.1,.string e.2.2]
def ot(l:List EdT)(w:World)(e:Ending)(w':World):Prop:=∃A c,e= .returned (.slice A l.length c)/\w'.ownsRow w.heap.size 67 3 (.slice A l.length c) l.length (l.flatMap edC)/\Ext w w'
def dW(n:Int):List EdT:=[(n,-1,strOfNums [2]),(n,0,hdB 0 (-1) false ⟨#[]⟩)]
theorem zX(n:Int)(w:World):
  Calls Tryz.prog 67 #[.int .i64 n] w (ot (dW n) w):=by
 go_enter Tryz.func67,Tryz.ntmps67
 have ar:=St.start w
 refine wp_seq (sqr (sqp [.k 2 (.slice none 0 0)] ?_))
 refine aa (wp_seq (ak [0,0,2,7,0,0,32,112,255,511] [[],[],[0]] [[],[0],[],[],[],[],[],[],[1]] [] [.k 3 (vi n),.a 4,.c 5 (.string (strOfNums ([2]))),.k 6 (.agg #[vi n,vi (-1),.string (strOfNums ([2]))]),.k 7 (vi n),.k 8 (.agg #[.bool false,.bool false,vi 0,vi (-1),.string ByteArray.empty,.slice none 0 0,.slice none 0 0,.slice none 0 0]),.c 9 (.string (hdB 0 (-1) false ByteArray.empty)),.k 10 (.agg #[vi n,vi 0,.string (hdB 0 (-1) false ByteArray.empty)]),.a 11,.a 2] (fun ix d b X=>match ix with|0=>True|1=>d 4= .slice (sA (b 4)) 1 1/\X 0=eO 5 1 (.slice (sA (b 4)) 1 1) 1 ([.int .u8 2])|2|3|4|5|6|7=>True|8=>d 11= .slice ((some ⟨(pb' (b 11)),0,none⟩)) 2 2/\X 1=eO 67 3 (.slice ((some ⟨(pb' (b 11)),0,none⟩)) 2 2) 2 ([vi n,vi (-1),.string (strOfNums ([2])),vi n,vi 0,.string (hdB 0 (-1) false ByteArray.empty)])|9=>d 2= .slice ((some ⟨(pb' (b 11)),0,none⟩)) 2 2|_=>True) [0,1] [1,2,6,8,9] [(2,9,1,3),(0,0,9,9)] ar ?_ ?_ ?_))
 exact fun ix _ _ _ _ _ _ hs hb hx h=>match ix,h with
 |1,h=>by dsimp only;rw[<-hs 4 rfl,<-hb 4 rfl,<-hx 0 rfl];exact h
 |8,h=>by dsimp only;rw[<-hs 11 rfl,<-hb 11 rfl,<-hx 1 rfl];exact h
 |9,h=>by dsimp only;rw[<-hs 2 rfl,<-hb 11 rfl];exact h
 |0,_|2,_|3,_|4,_|5,_|6,_|7,_|_+10,_=>trivial
 refine⟨?_,?_,?_,?_,?_,trivial⟩
 refine svA fun f b W X cx=>?_
 exact bV (e:=5) (xs:=[.int .u8 2]) rfl (by simp[go_sem,cx.sees.const]) rfl (by decide) rfl rfl (fun _ _ _ _ _=> .intro)
 exact xs4 rfl id fun cx=>ca (e:=5) rfl (by kernel_rfl) (by kernel_rfl) (by kernel_rfl) (dTn (cx.an 1)).1 (cx.row (dTn (cx.an 1)).2 rfl)
 exact xsc rfl id rfl rfl fun cx=>⟨_,ua 0 (-1) ByteArray.empty false false _ _ _ _ _ _ _ _ _ _ (by omega) (by omega) (by first|omega|decide),(bp (cx.an 5))⟩
 refine svA fun f b W X cx=>?_
 have Iy:f (.tmp 6)= .agg #[vi n,vi (-1),.string (strOfNums ([2]))]:=(cx.an 3)
 have eW:f (.tmp 10)= .agg #[vi n,vi 0,.string (hdB 0 (-1) false ByteArray.empty)]:=(cx.an 7)
 exact bS (e:=67) (sz:=3) (xs:=[vi n,vi (-1),.string (strOfNums ([2])),vi n,vi 0,.string (hdB 0 (-1) false ByteArray.empty)]) rfl (by simp[go_sem,Iy,eW]) rfl (by decide) rfl rfl (fun _ _ _ _ _=> .intro)
 exact sv rfl rfl rfl rfl rfl _ (fun _ _ _ h=>h) (fun b g h=>by rw[h 11 (by decide)]) fun f b W X cx=>bt rfl (dTn (cx.an 8)).1
 intro d b X W2 hD aN fr ag
 simp only[exq 0 ((dTn (hD 1 lq)).2),exq 1 ((dTn (hD 8 lq)).2)] at aN
 simp only[ed 4 ((dTn (hD 1 lq)).1),ed 11 ((dTn (hD 8 lq)).1),ed 2 ((dTn (hD 9 lq)))] at ag
 generalize sA (b 4)=P1,pb' (b 11)=KR at aN ag
 clear hD;subst ag;clear d b X
 refine aa (wp_ret ?_)
 refine bpr (.slice ((some ⟨KR,0,none⟩)) 2 2) (ai Tryz.results67 rpt) ?_
 have ho_:=aN.own' 1 rfl
 exact⟨_,_,rfl,ho_,aN.ext⟩
end
section
open Go.RowKit
theorem kM(e:EdT):(edC e).length=3:=rfl
theorem BM{l:List EdT}{k:Nat}(h:k<l.length):∃p s b,l[k]? =some (p,s,b):=⟨l[k].1,l[k].2.1,l[k].2.2,List.getElem?_eq_getElem h⟩
theorem Eb{o:Oper}{c:Operand->Value}{W:World}{x y:Operand}{a b:Int}{s:ByteArray}(h:o.op= .binOp .neq 67 x y 67)(hx:c x= .agg #[.int .i64 a,.int .i64 b,.string s])(hy:c y= .agg #[.int .i64 a,.int .i64 b,.string s]):
  (execOp c o).run Tryz.prog W= .ok (.value (.bool false)) W:=by
 unfold execOp;rw[h]
 simp[go_sem,hx,hy]
theorem lx(A B:Option Addr)(c d:Nat)(l:List EdT)(w:World)(hA:At w A (l.flatMap edC))(hB:At w B (l.flatMap edC))(hl:l.length<=1000):
  Calls Tryz.prog 13 #[.slice A l.length c,.slice B l.length d] w (Ret (.bool true) w):=by
 go_enter Tryz.func13,Tryz.ntmps13
 have ar:=St.start w
 refine wp_seq (sqr (sqp [.k 4 (.bool false)] ?_))
 refine aa (wp_seq (wp_seq (sqr (sqp [.m 6 0,.k 7 (vi ((l.length:Int))),.m 8 1,.k 9 (vi ((l.length:Int))),.e 10 (.bool ((l.length:Int) != (l.length:Int))) (.bool false) (congrArg Value.bool (show ((l.length:Int) != (l.length:Int))=false from(bne_self_eq_false _)))] ?_))))
 refine aa (wcf rfl (wp_skip (aa (wp_seq (wp_seq (sqr (sqp [.k 5 (vi 0)] ?_)))))))
 refine aa (wp_block ?_)
 refine aL (fun t_ mz az W=>∃k:Nat,k<=l.length/\mz=l.length-k/\az=⟨(ovr (jv az) [(4,4,1,[vi ((k:Int))]),(5,11,15,[])] t_).toArray,[]⟩/\St w [] [] W) (l.length-0) ?_ ?_
 exact⟨0,Nat.zero_le _,rfl,(by kernel_rfl),ar.pk []⟩
 rintro n8 a8 W8 ⟨k,hk,rfl,hj_,bj⟩
 refine ovz hj_ fun Iz=>?_
 refine wp_seq (wp_seq (sqr (sqp [.m 11 5,.m 12 0,.k 13 (vi ((l.length:Int))),.k 14 (.bool (decide ((k:Int)<(l.length:Int))))] ?_)))
 refine aa (wds (fun du fz=>?_) fun du fz=>?_)
 refine wp_skip (aa (wp_seq (wp_block (wp_seq ?_))))
 obtain⟨fp,fs,fb,hfj⟩:=BM (l:=l) (k:=k) (by omega)
 refine br [0,0,3,7,0,0,48,112,255] [] [.k 17 (.slice A l.length c),.k 18 (vi ((k:Int))),.c 19 (.pointer (some ((ad A).add (k*3)))),.c 20 (.agg #[vi fp,vi fs,.string fb]),.k 21 (.slice B l.length d),.k 22 (vi ((k:Int))),.c 23 (.pointer (some ((ad B).add (k*3)))),.c 24 (.agg #[vi fp,vi fs,.string fb]),.c 25 (.bool false)] [] [2,3,6,7,8] [(17,0,9,26)] bj ?_ fun kb bm=>?_
 refine⟨?_,?_,?_,?_,?_,trivial⟩
 exact xs4 rfl id fun cx=>aH (e:=67) (m:=k) (sz:=3) rfl (by kernel_rfl) (by kernel_rfl) (cx.an 0) (cx.an 1) (by omega) (by omega) (hA.ext cx.upd.to_ext) (bq (sz:=3) kM (by decide) (by omega))
 exact xs4 rfl id fun cx=>aZ (f:=edC) (m:=k) (sz:=3) (off:=0) (n:=3) rfl (by kernel_rfl) (by kernel_rfl) (cx.an 2) rfl kM (hA.ext cx.upd.to_ext) hfj (fun k hk=>match k,hk with|0,_=>rfl|1,_=>rfl|2,_=>rfl|k+3,hk=>absurd hk (by omega))
 exact xs4 rfl id fun cx=>aH (e:=67) (m:=k) (sz:=3) rfl (by kernel_rfl) (by kernel_rfl) (cx.an 4) (cx.an 5) (by omega) (by omega) (hB.ext cx.upd.to_ext) (bq (sz:=3) kM (by decide) (by omega))
 exact xs4 rfl id fun cx=>aZ (f:=edC) (m:=k) (sz:=3) (off:=0) (n:=3) rfl (by kernel_rfl) (by kernel_rfl) (cx.an 6) rfl kM (hB.ext cx.upd.to_ext) hfj (fun k hk=>match k,hk with|0,_=>rfl|1,_=>rfl|2,_=>rfl|k+3,hk=>absurd hk (by omega))
 exact xs4 rfl id fun cx=>Eb rfl (cx.an 3) (cx.an 7)
 refine aa (wcf rfl (wp_skip (ax (aa (sqr (sqp [.m 15 5,sI 16 ((k:Int)+1) (by omega),.m 5 16] ?_))))))
 refine aa ?_
 refine⟨l.length-((k+1)),by omega,?_⟩
 exact⟨(k+1),by omega,rfl,(by kernel_rfl),bm.pk []⟩
 refine wp_exit (aj (aj (aO (aa (wp_seq (sqr (sqp [.k 4 (.bool true)] ?_)))))))
 refine aa (wp_ret ?_)
 refine bpr (.bool true) (ai Tryz.results13 rpt) ?_
 exact Ret.of rfl bj.ext
end
section
open Go.RowKit
theorem mj:∀(i:Nat) (a b:List ByteArray),bu i (a++b)=bu i a++bu (i+a.length) b
 |_,[],_=>rfl
 |i,x::a,b=>by
  have h:=mj (i+1) a b
  have e:i+1+a.length=i+(x::a).length:=by rw[List.length_cons];omega
  rw[e] at h
  rw[List.cons_append,bu,bu,h]
  split<;>rfl
def gP(its:List ByteArray)(i:Nat):List (Nat×ByteArray):=bu 1 ((its.drop 1).take (i-1))
theorem uy{its:List ByteArray}{i:Nat}(h1:1<=i)(h:i<its.length):gP its (i+1)=gP its i++(if (its.getD i ByteArray.empty).size=0 then [] else [(i,its.getD i ByteArray.empty)]):=by
 have e1:(its.drop 1)[i-1]? =some (its.getD i ByteArray.empty):=by
  rw[List.getElem?_drop,show 1+(i-1)=i by omega,List.getD_eq_getElem?_getD,List.getElem?_eq_getElem h];rfl
 rw[gP,gP,show i+1-1=i-1+1 by omega,List.take_add_one,e1,mj,List.length_take,List.length_drop,Nat.min_eq_left (by omega),show 1+(i-1)=i by omega]
 show _++bu i [its.getD i ByteArray.empty]= _
 rw[bu]
 rfl
theorem DB{its:List ByteArray}{i:Nat}(h:its.length<=i):gP its i=bu 1 (its.drop 1):=by
 rw[gP,List.take_of_length_le (by rw[List.length_drop];omega)]
theorem DF{its:List ByteArray}{i:Nat}(h:1<=i):(gP its i).length<=i-1:=by
 have:=qE 1 ((its.drop 1).take (i-1))
 rw[List.length_take] at this
 rw[gP];omega
def srt(lv:Int)(l:List (Nat×ByteArray)):List EnD:=(cY ((l.map (b8 lv)).reverse)).reverse
theorem mv(lv:Int)(l:List (Nat×ByteArray)):(srt lv l).length=l.length:=by rw[srt,List.length_reverse,lH,List.length_reverse,List.length_map]
theorem Db{lv:Int}{l:List (Nat×ByteArray)}{p:Nat×ByteArray}{m:Nat}(hm:m<=l.length)(h1:∀y∈(srt lv l).drop m,al (b8 lv p).1 y.1=true)(h2:m=0\/∃y,(srt lv l)[m-1]? =some y/\al (b8 lv p).1 y.1=false):
  srt lv (l++[p])=(srt lv l).take m++b8 lv p::(srt lv l).drop m:=by
 have e:srt lv (l++[p])=(gQ (b8 lv p) (cY ((l.map (b8 lv)).reverse))).reverse:=by
  rw[srt,List.map_append,List.reverse_append];rfl
 rw[e]
 refine y0 ?_ h1 fun y hy=>?_
 rw[<-List.reverse_append,List.take_append_drop,srt,List.reverse_reverse]
 rcases h2 with rfl|⟨z,hz,hl⟩
 simp at hy
 rcases Nat.eq_zero_or_pos m with h0|h0
 subst h0;simp at hy
 have hs:=mv lv l
 rw[List.getLast?_eq_getElem?,List.length_take,Nat.min_eq_left (by omega),List.getElem?_take,if_pos (by omega),hz] at hy
 rw[<-Option.some.inj hy];exact hl
theorem ik{k:Int}{its:List ByteArray}(h:k≠2\/its=[]\/(∃x l,its=x::l/\iW x=false)\/(∃x l,its=x::l/\((bu 1 l).any (cB (aK x 0 1)))=true)):cn k its=none:=by
 unfold cn
 rcases h with h|rfl|⟨x,l,rfl,h⟩|⟨x,l,rfl,h⟩
 rw[if_pos h]
 split<;>rfl
 split
 rfl
 simp[h]
 split
 rfl
 simp only[h]
 split<;>rfl
theorem go{x:ByteArray}{l:List ByteArray}(h:iW x=true)(hb:((bu 1 l).any (cB (aK x 0 1)))=false):
  cn 2 (x::l)=some ⟨aK x 0 1,(aK x 2 2:Int)-1,x.extract 4 x.size,aK x 1 1==1,srt (aK x 0 1) (bu 1 l),cy 1 l (l.length+1)⟩:=by
 unfold cn
 simp only[h,hb]
 rfl
abbrev PgS:=Int×Int×List ByteArray
def aT:PgS:=(0,0,[])
def bO(its:List ByteArray)(k:Nat)(s:ByteArray):List ByteArray:=(its++List.replicate (k+1-its.length) ByteArray.empty).set k s
theorem jA(its:List ByteArray)(k:Nat)(s:ByteArray):(bO its k s).length=max its.length (k+1):=by
 rw[bO,List.length_set,List.length_append,List.length_replicate];omega
def uW(s:ByteArray):Int:=if s.size=0 then 0 else aA (bl s) 0
def edP(p:PgS)(e:EdT):PgS:=if e.2.1<0 then (uW e.2.2,0,[]) else (p.1,p.2.1,bO p.2.2 e.2.1.toNat e.2.2)
def oH(n:Nat)(e:EdT):Bool:=decide (0<=e.1/\e.1<n/\  -1<=e.2.1/\e.2.1<=100)
def bP(ps:List PgS)(e:EdT):List PgS:=if oH ps.length e then ps.set e.1.toNat (edP (ps.getD e.1.toNat aT) e) else ps
def doB(ps:List PgS)(l:List EdT):List PgS:=l.foldl bP ps
theorem gg(ps:List PgS)(e:EdT):(bP ps e).length=ps.length:=by
 unfold bP;split
 rw[List.length_set]
 rfl
theorem ct:∀(l:List EdT) (ps:List PgS),(doB ps l).length=ps.length
 | [],_=>rfl
 |e::l,ps=>by
  show (doB (bP ps e) l).length= _
  rw[ct l,gg]
theorem wz{ps:List PgS}{l:List EdT}{k:Nat}(h:k<l.length):doB ps (l.take (k+1))=bP (doB ps (l.take k)) l[k]:=by
 rw[List.take_add_one,List.getElem?_eq_getElem h,doB,List.foldl_append];rfl
def av(ps:List PgS)(n:Int):Option NoD:=if 0<=n/\n<ps.length then cn (ps.getD n.toNat aT).1 (ps.getD n.toNat aT).2.2 else none
abbrev TaT:=ByteArray×Int×Int
structure PuT where
 root:Int
 pos:Int
 leaf:Int
 left:List TaT
 fro:Int
 to:Int
 spl:Bool
def cm(x:ByteArray):List EnD->Int->Int
 | [],d=>d
 |e::l,d=>cm x l (if d<0\/al x e.1=false then e.2.2 else d)
def aF:ByteArray:=bz ByteArray.empty 0 0
def dS(pg lv:Int):Nat->List EnD->List EdT
 |_,[]=>[]
 |i,e::l=>(pg,(i:Int),itB lv e.2.2 e.1)::dS pg lv (i+1) l
def cD(pg lv rt:Int)(hi:ByteArray)(es:List EnD):List EdT:=[(pg,-1,strOfNums [2]),(pg,0,hdB lv rt false hi)]++dS pg lv 1 es
def ba(pg:Int)(es:List EnD):List EdT:=es.map fun e=>(pg,(e.2.1:Int),ByteArray.empty)
def dj(root:Int)(n:NoD)(pg:Int):List EdT:=cD pg n.lv (-1) ByteArray.empty n.es++[(root,0,hdB (n.lv+1) (-1) false ByteArray.empty)]++ba root n.es++[(root,1,itB 1 pg aF)]
def eG(n:NoD):List EnD:=n.es.drop (n.es.length / 2)
def cf(n:NoD):ByteArray:=(n.es.getD (n.es.length / 2) (ByteArray.empty,0,0)).1
def db(pos:Int)(n:NoD)(pg:Int):List EdT:=cD pg n.lv n.right n.high (eG n)++[(pos,0,hdB n.lv pg false (cf n))]++ba pos (eG n)
def dU(es:List EnD)(x:ByteArray):Bool:=es.any fun e=>e.1.toList==x.toList
structure GoT where
 eds:List EdT
 used:Bool
 err:Int
def bg(ps:List PgS)(w:PuT)(fresh:Int):PuT×GoT:=
 let w0:PuT:=⟨w.root,w.pos,w.leaf,w.left,0,0,false⟩
 match w.left with
 | []=>(w0,⟨[],false,0⟩)
 |t::l=>match av ps w.pos with
  |none=>(w0,⟨[],false,22⟩)
  |some n=>
   if da n.dead n.high t.1=true then (if n.right<0 then (w0,⟨[],false,11⟩) else (⟨w.root,n.right,w.leaf,w.left,0,0,false⟩,⟨[],false,0⟩))
   else if t.2.1<n.lv then (⟨w.root,cm t.1 n.es (-1),w.leaf,w.left,0,0,false⟩,⟨[],false,0⟩)
   else if n.lv<t.2.1 then (w0,⟨[],false,11⟩)
   else if dU n.es t.1=true\/n.es.length<8 then (⟨w.root,w.root,if t.2.1=0 then w.pos else w.leaf,l,0,0,false⟩,⟨if dU n.es t.1=true then [] else [(w.pos,(n.free:Int),itB t.2.1 t.2.2 t.1)],false,0⟩)
   else if fresh<0 then (w0,⟨[],false,23⟩)
   else if w.pos=w.root then (⟨w.root,fresh,w.leaf,w.left,0,0,false⟩,⟨dj w.root n fresh,true,0⟩)
   else (⟨w.root,w.pos,w.leaf,w.left++[(cf n,t.2.1+1,fresh)],if t.2.1=0 then w.pos else 0,if t.2.1=0 then fresh else 0,decide (t.2.1=0)⟩,⟨db w.pos n fresh,true,0⟩)
end
section
open Go.RowKit
def eM(R:List Ent):Ent:=⟨R.flatMap (·.fp),fun W=>∀e∈R,e.holds W/\e.loc⟩
theorem Bv(R:List Ent):(eM R).loc:=fun W W' hk h e he=>
 ⟨(h e he).2 W W' (fun k hk'=>hk k (List.mem_flatMap.2 ⟨e,he,hk'⟩)) (h e he).1,(h e he).2⟩
theorem St.emNil{w0 W:World}{bor:List Nat}{L:List Ent}(h:St w0 bor L W):St w0 bor (L++[eM []]) W:=by
 refine⟨h.upd,fun x hx=>?_,?_⟩
 rcases List.mem_append.1 hx with hx|hx
 exact h.ok x hx
 rw[List.mem_singleton] at hx
 subst hx
 exact⟨fun e he=>(by cases he),Bv _,fun k hk=>(by cases hk)⟩
 rw[List.pairwise_append]
 refine⟨h.apart,List.pairwise_singleton _ _,fun a _ b hb=>?_⟩
 rw[List.mem_singleton] at hb
 subst hb
 exact fun k _ hk=>by cases hk
theorem St.merge{w0 W:World}{bor:List Nat}{L R:List Ent}{e:Ent}(h:St w0 bor (L++[eM R,e]) W):St w0 bor (L++[eM (R++[e])]) W:=by
 have hM:=h.ok (eM R) (by simp)
 have hE:=h.ok e (by simp)
 have hfp:∀k,k∈(eM (R++[e])).fp<->k∈(eM R).fp\/k∈e.fp:=fun k=>by simp[eM]
 refine⟨h.upd,fun x hx=>?_,?_⟩
 rcases List.mem_append.1 hx with hx|hx
 exact h.ok x (by simp[hx])
 rw[List.mem_singleton] at hx
 subst hx
 refine⟨fun x hx=>?_,Bv _,fun k hk=>?_⟩
 rcases List.mem_append.1 hx with hx|hx
 exact hM.holds x hx
 rw[List.mem_singleton] at hx
 subst hx
 exact⟨hE.holds,hE.loc⟩
 rcases(hfp k).1 hk with hk|hk
 exact hM.own k hk
 exact hE.own k hk
 have ha:=h.apart
 rw[List.pairwise_append] at ha |-
 refine⟨ha.1,List.pairwise_singleton _ _,fun a ha' b hb=>?_⟩
 rw[List.mem_singleton] at hb
 subst hb
 intro k hk hkb
 rcases(hfp k).1 hkb with hkb|hkb
 exact ha.2.2 a ha' (eM R) (by simp) k hk hkb
 exact ha.2.2 a ha' e (by simp) k hk hkb
section
variable{P:Program}{ops:Array Oper}{L:List Nat}{a0:Act}{w0:World}{bor:List Nat}{X0:List Ent}{us cr kl:List (List Nat)}
 {D:Nat->(Tmp->Value)->(Tmp->Value)->(Nat->Ent)->Prop}{i:Nat}{o:Oper}{ρ:Operand->Value}{β:Tmp->Value}{W:World}{X:Nat->Ent}
theorem bJ{v:Value}{W':World}{q:Nat}{E:Ent}(N:List Ent)(hX:X q=E)(hk:atV kl i=[q])(hl:N.length=(atV cr i).length)(hs:St W E.fp N W')
  (hD:∀(c b:Tmp->Value) (X':Nat->Ent),(∀t,o.dst≠some t->c t=ρ (.tmp t))->(∀t,o.dst≠some t->b t=β t)->(∀d,o.dst=some d->c d=v/\b d=v)->(atV cr i).map X'=N->D i c b X'):cQ cr kl D i o.dst ρ β W X v W':=by
 subst hX
 have e1:(atV kl i).flatMap (fun q=>(X q).fp)=(X q).fp:=by rw[hk];simp
 exact⟨N,hl,⟨by rw[e1];exact hs.upd,fun e he=>⟨(hs.ok e he).holds,(hs.ok e he).loc,fun k hk'=>by rw[e1];exact(hs.ok e he).own k hk'⟩,hs.apart⟩,
  fun c b X' hs' hv hb' hbv hx' hN=>hD c b X' hs' hb' (fun d hd=>⟨hv d hd,hbv d hd⟩) hN⟩
end
theorem St.lend{w:World}{E:Ent}(h:E.holds w)(hl:E.loc)(hb:∀k∈E.fp,k<w.heap.size):St w E.fp [E] w:=
 ⟨Upd.refl _ _,fun x hx=>by rw[List.mem_singleton] at hx;subst hx;exact⟨h,hl,fun k hk=>⟨.inl hk,hb k hk⟩⟩,List.pairwise_singleton _ _⟩
end
section
open Go.RowKit
def en0:EnD:=(ByteArray.empty,0,0)
def stv(e:EnD):Value:= .string e.1
def slv(e:EnD):Value:= .int .i64 (e.2.1:Int)
def kdv(e:EnD):Value:= .int .i64 e.2.2
theorem eD{S:List EnD}{k:Nat}(h:k<S.length):(S.map stv)[k]? =some (.string (S.getD k en0).1):=by simp[stv,h]
theorem oo{S:List EnD}{k:Nat}(h:k<S.length):(S.map slv)[k]? =some (.int .i64 ((S.getD k en0).2.1:Int)):=by simp[slv,h]
theorem j1{S:List EnD}{k:Nat}(h:k<S.length):(S.map kdv)[k]? =some (.int .i64 (S.getD k en0).2.2):=by simp[kdv,h]
theorem At.takeM{α:Type}{w:World}{A:Option Addr}{f:α->Value}{ls:List α}(h:At w A (ls.map f))(m:Nat):At w A ((ls.take m).map f):=by rw[List.map_take];exact h.take m
theorem At.dropM{α:Type}{w:World}{A:Option Addr}{f:α->Value}{ls:List α}(h:At w A (ls.map f))(l cap:Nat)(hc:ls.length<=cap):At w (if cap=l then A else A.map (·.add (l*1))) ((ls.drop l).map f):=by
 rw[List.map_drop,Nat.mul_one];exact h.drop l cap (by rw[List.length_map];exact hc)
theorem tR{f:EnD->Value}{S:List EnD}{m:Nat}(x:EnD):(S.take m).map f++[f x]++(S.drop m).map f=(S.take m++x::S.drop m).map f:=by simp
theorem mu{f:EnD->Value}(hf:∀e,(f e).oneCell'=true)(l:List EnD):∀u∈l.map f,u.oneCell'=true:=fun u hu=>by
 obtain⟨e,_,rfl⟩:=List.mem_map.1 hu;exact hf e
theorem nh(e:ByteArray)(m:Nat)(h:m+1<=e.size):(aK e m 1:Int)=aA (bl e) m:=by
 have e1:aK e m 1=dn (((bl e).drop m).take 1):=by
  rw[aK,show (e.extract m (m+1)).data.toList=bl (e.extract m (m+1)) from rfl,dp,Nat.add_sub_cancel_left]
 have hl:m+1<=(bl e).length:=by rw[cK];exact h
 have e2:((bl e).drop m).take 1=[(bl e).getD m 0]:=by
  rw[List.drop_eq_getElem_cons (by omega),List.take_succ_cons,List.take_zero]
  simp[List.getD_eq_getElem?_getD,List.getElem?_eq_getElem (show m<(bl e).length by omega)]
 rw[e1,e2,dn,List.foldl_cons,List.foldl_nil,aA];omega
theorem nc{h:ByteArray}:((decide ((h.size:Int)<4)||decide (1<aA (bl h) 1))||(decide (4<(h.size:Int))&&decide ((h.size:Int)<8)))=!iW h:=by
 unfold iW
 by_cases h4:h.size<4
 have e:decide (4<=h.size)=false:=decide_eq_false (by omega)
 have e2:decide ((h.size:Int)<4)=true:=decide_eq_true (by omega)
 rw[e,e2];rfl
 have h1:=nh h 1 (by omega)
 have e:decide (4<=h.size)=true:=decide_eq_true (by omega)
 have e2:decide ((h.size:Int)<4)=false:=decide_eq_false (by omega)
 have e3:decide (aK h 1 1<=1)=!decide (1<aA (bl h) 1):=by rw[<-decide_not];congr 1;rw[<-h1];exact propext ⟨fun a b=>by omega,fun a=>by omega⟩
 have e4:(decide (h.size<=4)||decide (8<=h.size))=!(decide (4<(h.size:Int))&&decide ((h.size:Int)<8)):=by
  rw[Bool.not_and,<-decide_not,<-decide_not];congr 1<;>(congr 1;exact propext ⟨fun a=>by omega,fun a=>by omega⟩)
 rw[e,e2,e3,e4]
 cases decide (1<aA (bl h) 1)<;>cases (decide (4<(h.size:Int))&&decide ((h.size:Int)<8))<;>rfl
theorem v8{k:Int}{n:Nat}(h:(k != 2||((n:Int)==0))=true)(hn:0<n):k≠2:=by
 simp only[Bool.or_eq_true,bne_iff_ne,beq_iff_eq] at h
 rcases h with h|h
 exact h
 omega
theorem ue{k:Int}{n:Nat}(h:(k != 2||((n:Int)==0))=false):k=2:=by
 simp only[Bool.or_eq_false_iff,bne_eq_false_iff_eq] at h
 exact h.1
def ndV(n:NoD)(EA:Option Addr)(ec:Nat)(SA:Option Addr)(sc:Nat)(KA:Option Addr)(kc:Nat):Value:= .agg #[.bool true,.bool n.dead,.int .i64 n.lv,.int .i64 n.right,.string n.high,.slice EA n.es.length ec,.slice SA n.es.length sc,.slice KA n.es.length kc]
def nd0:Value:= .agg #[.bool false,.bool false,.int .i64 0,.int .i64 0,.string ⟨#[]⟩,.slice none 0 0,.slice none 0 0,.slice none 0 0]
def rdL(n:NoD)(EA:Option Addr)(ec:Nat)(SA:Option Addr)(sc:Nat)(KA:Option Addr)(kc:Nat):List Ent:=[eO 9 1 (.slice EA n.es.length ec) n.es.length (n.es.map stv),eO 3 1 (.slice SA n.es.length sc) n.es.length (n.es.map slv),eO 3 1 (.slice KA n.es.length kc) n.es.length (n.es.map kdv)]
def j4(o:Option NoD)(w:World)(e:Ending)(w':World):Prop:=match o with
 |none=>e= .returned nd0/\Ext w w'
 |some n=>∃EA ec SA sc KA kc,e= .returned (ndV n EA ec SA sc KA kc)/\St w [] (rdL n EA ec SA sc KA kc) w'
theorem jt{o:Option NoD}{w w':World}(h:o=none)(hx:Ext w w'):j4 o w (.returned nd0) w':=by subst h;exact⟨rfl,hx⟩
theorem DG{α:Type}{p:α->Bool}{l:List α}{x:α}(h:l.any p=false)(hx:p x=false):(l++[x]).any p=false:=by simp[h,hx]
theorem wO{l:List ByteArray}{i:Nat}{p:Nat×ByteArray}{x:ByteArray}(h:p∈gP (x::l) i):p∈bu 1 l:=by
 have e:l=(l.take (i-1))++l.drop (i-1):=(List.take_append_drop ..).symm
 rw[e,mj]
 exact List.mem_append_left _ h
theorem tz{k:Int}{x:ByteArray}{l:List ByteArray}{i:Nat}{lv:Int}(hlv:(aK x 0 1:Int)=lv)(hi1:1<=i)(hi:i<(x::l).length)(hz:((x::l).getD i ByteArray.empty).size≠0)(hb:cB lv (i,(x::l).getD i ByteArray.empty)=true):cn k (x::l)=none:=by
 refine ik (.inr (.inr (.inr ⟨x,l,rfl,?_⟩)))
 rw[hlv,List.any_eq_true]
 refine⟨_,wO (x:=x) (i:=i+1) ?_,hb⟩
 rw[uy hi1 hi,if_neg hz]
 simp
theorem kY:∀{i:Nat}{l:List ByteArray}{p:Nat×ByteArray},p∈bu i l->p.2∈l/\i<=p.1/\p.1<i+l.length
 |_,[],_,h=>by cases h
 |i,x::l,p,h=>by
  unfold bu at h
  split at h
  have:=kY h;rw[List.length_cons];exact⟨List.mem_cons_of_mem _ this.1,by omega,by omega⟩
  rcases List.mem_cons.1 h with rfl|h
  exact⟨List.mem_cons_self ..,Nat.le_refl _,by simp⟩
  have:=kY h;rw[List.length_cons];exact⟨List.mem_cons_of_mem _ this.1,by omega,by omega⟩
theorem BI(lv:Int)(p:Nat×ByteArray):(b8 lv p).1.size<=p.2.size:=by
 unfold b8;split
 simp only[ByteArray.size_extract];omega
 exact Nat.le_refl _
theorem qp{lv:Int}{l:List (Nat×ByteArray)}{M:Nat}(h:∀p∈l,p.2.size<=M)(k:Nat):((srt lv l).getD k en0).1.size<=M:=by
 rcases Nat.lt_or_ge k (srt lv l).length with hk|hk
 rw[List.getD_eq_getElem?_getD,List.getElem?_eq_getElem hk,Option.getD_some]
 have h1:(srt lv l)[k]∈srt lv l:=List.getElem_mem hk
 have h2:=j3 (List.mem_reverse.1 h1)
 obtain⟨p,hp,he⟩:=List.mem_map.1 (List.mem_reverse.1 h2)
 rw[<-he]
 exact Nat.le_trans (BI lv p) (h p hp)
 rw[List.getD_eq_getElem?_getD,List.getElem?_eq_none hk]
 exact Nat.zero_le _
theorem uD{S:List EnD}{m:Nat}{x:ByteArray}(hm:m+1<=S.length)(h:∀y∈S.drop (m+1),al x y.1=true)(h2:al x (S.getD m en0).1=true):∀y∈S.drop m,al x y.1=true:=by
 intro y hy
 rw[List.drop_eq_getElem_cons (by omega)] at hy
 rcases List.mem_cons.1 hy with rfl|hy
 rw[List.getD_eq_getElem?_getD,List.getElem?_eq_getElem (by omega)] at h2;exact h2
 exact h y hy
theorem eV{x:ByteArray}:(x.toList==(⟨#[]⟩:ByteArray).toList)=decide (x.size=0):=by
 rw[bqd]
 congr 1
 exact propext ⟨fun h=>by rw[h];rfl,fun h=>d6 (by rw[List.eq_nil_of_length_eq_zero (l:=bl x) (by rw[cK,h])];rfl)⟩
theorem Tryz.infoInt:(Tryz.prog.info? 3).map (fun i=>(i.zero,i.size,i.bytes))=some (some (.int .i64 0),1,8):=by kernel_rfl
theorem GU(k lsn:Int)(A:Option Addr)(c n:Nat)(h:ByteArray)(l:List ByteArray)(w:World)(hA:At w A ((h::l).map Value.string))(hn:(h::l).length=n)(hl:n<=100000)(hsz:∀s∈h::l,s.size<=1000000):
  Calls Tryz.prog 108 #[.agg #[.int .i64 k,.int .i64 lsn,.slice A n c]] w (j4 (cn k (h::l)) w):=by
 have hn0:0<n:=by rw[<-hn];simp
 have hhz:=hsz h (by simp)
 go_enter Tryz.func108,Tryz.ntmps108
 have ar:=St.start w
 refine wp_seq (sqr ?_)
 refine bZ #[vi k,vi lsn,.slice A n c] ar fun bE W1 aE=>?_
 refine bF #[.bool false,.bool false,vi 0,vi 0,.string ByteArray.empty,.slice none 0 0,.slice none 0 0,.slice none 0 0] aE fun oN W2 aN=>?_
 refine aa (wp_seq (wp_seq (sqr (sqp [.k 9 (vp bE)] ?_))))
 refine am 0 aN ?_
 refine sqp [.k 11 (.bool (k != 2)),.m 12 11] ?_
 refine cv 12 [13,14,15,16] ?_ rfl (fun hq=>?_) ?_
 rotate_left
 refine sqp [.k 13 (.pointer (some ⟨bE,2,none⟩))] ?_
 refine am 0 aN ?_
 refine sqp [.k 15 (vi ((n:Int))),.k 16 (.bool ((n:Int)==0))] ?_
 exact sqe
 refine bQ ?_
 refine sqp [sPo 17 (k != 2) ((n:Int)==0)] ?_
 refine aa (wbs (fun kp=>?_) fun kp=>?_)
 have lP:=kp
 simp only[zB] at lP
 refine wp_seq (sqr (sqp [.k 18 (.agg #[.bool false,.bool false,vi 0,vi 0,.string ByteArray.empty,.slice none 0 0,.slice none 0 0,.slice none 0 0])] ?_))
 refine aD (n:=8) 1 #[.bool false,.bool false,vi 0,vi 0,.string ByteArray.empty,.slice none 0 0,.slice none 0 0,.slice none 0 0] aN fun kb bm=>?_
 refine aa (wp_ret (af ?_))
 refine bpr (.agg #[.bool false,.bool false,vi 0,vi 0,.string ByteArray.empty,.slice none 0 0,.slice none 0 0,.slice none 0 0]) (aJ (n:=8) Tryz.results108 rfl (by kernel_rfl) (by kernel_rfl) (bm.blk 1 rfl) rfl) ?_
 exact jt (ik (.inl (v8 (by assumption) hn0))) bm.ext
 have lP:=kp
 simp only[zB] at lP
 obtain⟨N6,N7⟩:=lP
 refine wp_skip (aa (wp_seq (sqr (sqp [.k 19 (.pointer (some ⟨bE,2,none⟩))] ?_))))
 refine am 0 aN ?_
 refine sql (.pointer (some ((ad A).add 0))) aN (fun cx=>ay (e:=9) (m:=0) rfl (by kernel_rfl) (by kernel_rfl) (cx.ou 20) (cx.co _) (by omega) (by omega) (hA.ext cx.upd.to_ext) (by rw[List.length_map];exact hn)) ?_
 refine sql (.string h) aN (fun cx=>ae rfl (by kernel_rfl) (cx.ou 21) (At.cellAd (hA.ext cx.upd.to_ext) rfl)) ?_
 refine sqp [.m 3 22] ?_
 refine aa (wp_seq (wp_seq (sqr (sqp [.m 23 3,.k 24 (vi ((h.size:Int))),.k 25 (.bool (decide ((h.size:Int)<4))),.m 26 25] ?_))))
 refine cv 26 [27,28,29] ?_ rfl (fun hq=>?_) ?_
 rotate_left
 have hq_:=of_decide_eq_false hq
 refine sqp [.m 27 3] ?_
 refine sql (.int .u8 (aA (bl h) 1)) aN (fun cx=>cP (m:=1) rfl (by kernel_rfl) (cx.ou 27) (cx.co _) (by omega) (by omega)) ?_
 refine sqp [.k 29 (.bool (decide (1<aA (bl h) 1)))] ?_
 exact sqe
 refine bQ ?_
 refine sqp [sPo 30 (decide ((h.size:Int)<4)) (decide (1<aA (bl h) 1)),.m 31 30] ?_
 refine cv 31 [32,33,34,35,36,37,38,39] ?_ rfl (fun hq=>?_) ?_
 rotate_left
 refine sqp [.m 32 3,.k 33 (vi ((h.size:Int))),.k 34 (.bool (decide (4<(h.size:Int)))),.m 35 34] ?_
 refine sqw 35 [36,37,38] rfl (fun _=>sqp [.m 36 3,.k 37 (vi ((h.size:Int))),.k 38 (.bool (decide ((h.size:Int)<8)))] sqe) ?_
 refine sqp [sPa 39 (decide (4<(h.size:Int))) (decide ((h.size:Int)<8))] ?_
 exact sqe
 refine bQ ?_
 refine sqp [sPo 40 ((decide ((h.size:Int)<4))||(decide (1<aA (bl h) 1))) ((decide (4<(h.size:Int)))&&(decide ((h.size:Int)<8)))] ?_
 refine aa (wbs (fun nv=>?_) fun nv=>?_)
 have lQ:=nv
 simp only[zB] at lQ
 refine wp_seq (sqr (sqp [.k 41 (.agg #[.bool false,.bool false,vi 0,vi 0,.string ByteArray.empty,.slice none 0 0,.slice none 0 0,.slice none 0 0])] ?_))
 refine aD (n:=8) 1 #[.bool false,.bool false,vi 0,vi 0,.string ByteArray.empty,.slice none 0 0,.slice none 0 0,.slice none 0 0] aN fun Cd eL=>?_
 refine aa (wp_ret (af ?_))
 refine bpr (.agg #[.bool false,.bool false,vi 0,vi 0,.string ByteArray.empty,.slice none 0 0,.slice none 0 0,.slice none 0 0]) (aJ (n:=8) Tryz.results108 rfl (by kernel_rfl) (by kernel_rfl) (eL.blk 1 rfl) rfl) ?_
 exact jt (ik (.inr (.inr (.inl ⟨h,l,rfl,by have h_:=nc (h:=h);rw[nv] at h_;simpa using h_.symm⟩)))) eL.ext
 have lQ:=nv
 simp only[zB] at lQ
 obtain⟨⟨N8,N9⟩,Oa⟩:=lQ
 refine wp_skip (aa (wp_seq ?_))
 have hok:iW h=true:=by have h_:=nc (h:=h);rw[nv] at h_;simpa using h_.symm
 have h4:4<=h.size:=by unfold iW at hok;simp only[Bool.and_eq_true,decide_eq_true_eq] at hok;exact hok.1.1
 have Iu:=cS (bl h) 0
 have Mf:=cS (bl h) 1
 have zZ:=cS (bl h) 2
 have Iv:=cS (bl h) 3
 refine ak [0,1,3,0,8,24,0,64,192,448,0,1024,3072,8128,16320,0,32768,131071,0,524287] [[],[],[],[],[],[],[],[],[],[],[],[],[],[],[],[],[],[],[],[2]] [[],[],[],[],[],[],[],[],[],[],[],[],[],[],[],[],[],[],[2],[3]] [[],[],[],[],[],[],[],[],[],[],[],[],[],[],[],[],[],[],[],[2]] [.k 42 (.string h),.c 43 (.int .u8 (aA (bl h) 0)),tW 44 .i64 (aA (bl h) 0) (aA (bl h) 0) (IntWalk.i64_in _ (by omega)),.k 45 (.string h),.c 46 (.int .u8 (aA (bl h) 1)),.k 47 (.bool ((aA (bl h) 1)==1)),.k 48 (.string h),.c 49 (.int .u8 (aA (bl h) 2)),tW 50 .i64 (aA (bl h) 2) (aA (bl h) 2) (IntWalk.i64_in _ (by omega)),tI 51 ((aA (bl h) 2)*256) (by omega),.k 52 (.string h),.c 53 (.int .u8 (aA (bl h) 3)),tW 54 .i64 (aA (bl h) 3) (aA (bl h) 3) (IntWalk.i64_in _ (by omega)),tI 55 (((aA (bl h) 2)*256)+(aA (bl h) 3)) (by omega),tI 56 (((aA (bl h) 2)*256+(aA (bl h) 3))-1) (by omega),.k 57 (.string h),.c 58 (.string (h.extract 4 h.size)),.k 59 (.agg #[.bool true,.bool ((aA (bl h) 1)==1),vi (aA (bl h) 0),vi ((aA (bl h) 2)*256+(aA (bl h) 3)-1),.string (h.extract 4 h.size),.slice none 0 0,.slice none 0 0,.slice none 0 0]),.a 4,.n] (fun ix d b X=>match ix with|0|1|2|3|4|5|6|7|8|9|10|11|12|13|14|15|16|17=>True|18=>d 4=vp (pb (b 4))/\X 2=eB (pb (b 4)) 95 #[.bool false,.bool false,vi 0,vi 0,.string ByteArray.empty,.slice none 0 0,.slice none 0 0,.slice none 0 0]|19=>X 3=eB (pb (b 4)) 95 #[.bool true,.bool ((aA (bl h) 1)==1),vi (aA (bl h) 0),vi ((aA (bl h) 2)*256+(aA (bl h) 3)-1),.string (h.extract 4 h.size),.slice none 0 0,.slice none 0 0,.slice none 0 0]|_=>True) [0,1,3] [1,4,7,11,16,18,19] [(4,18,1,5),(37,0,18,55)] aN ?_ ?_ ?_
 exact fun ix _ _ _ _ _ _ hs hb hx h=>match ix,h with
 |18,h=>by dsimp only;rw[<-hs 4 rfl,<-hb 4 rfl,<-hx 2 rfl];exact h
 |19,h=>by dsimp only;rw[<-hb 4 rfl,<-hx 3 rfl];exact h
 |0,_|1,_|2,_|3,_|4,_|5,_|6,_|7,_|8,_|9,_|10,_|11,_|12,_|13,_|14,_|15,_|16,_|17,_|_+20,_=>trivial
 refine⟨?_,?_,?_,?_,?_,?_,?_,trivial⟩
 exact xs4 rfl id fun cx=>cP (m:=0) rfl (by kernel_rfl) (cx.an 0) (cx.co _) (by omega) (by omega)
 exact xs4 rfl id fun cx=>cP (m:=1) rfl (by kernel_rfl) (cx.an 3) (cx.co _) (by omega) (by omega)
 exact xs4 rfl id fun cx=>cP (m:=2) rfl (by kernel_rfl) (cx.an 6) (cx.co _) (by omega) (by omega)
 exact xs4 rfl id fun cx=>cP (m:=3) rfl (by kernel_rfl) (cx.an 10) (cx.co _) (by omega) (by omega)
 exact xs4 rfl id fun cx=>iY (l:=4) rfl (by kernel_rfl) (cx.an 15) (cx.co _) (by omega) (by omega)
 refine svA fun f b W X cx=>?_
 exact aX (cs:=#[.bool false,.bool false,vi 0,vi 0,.string ByteArray.empty,.slice none 0 0,.slice none 0 0,.slice none 0 0]) rfl (by kernel_rfl) rfl rfl (fun _ _ _ _ _=> .intro)
 refine svA fun f b W X cx=>?_
 exact aw (n:=8) rfl (dTn (cx.an 18)).1 (cx.an 17) (by kernel_rfl) (by kernel_rfl) (by kernel_rfl) cx (dTn (cx.an 18)).2 rfl (nle rfl) (by kernel_rfl) rfl rfl rfl (fun d g X' hs hb hx=>by rw[hb 4];exact hx)
 intro d b X Ce hD cZ fr ag
 simp only[exq 3 ((dTn (hD 19 lq)))] at cZ
 simp only[ed 4 ((dTn (hD 18 lq)).1)] at ag
 generalize pb (b 4)=ei at cZ ag
 clear hD;subst ag;clear d b X
 refine aa (wp_seq (wp_seq (sqr (sqp [.k 5 (vi 1)] ?_))))
 refine aa (wp_block ?_)
 have hlv:(aK h 0 1:Int)=aA (bl h) 0:=nh h 0 (by omega)
 obtain⟨lv,lR⟩:∃z,aA (bl h) 0=z:=⟨_,rfl⟩
 rw[lR] at cZ |-
 rw[lR] at hlv Iu
 have hn43:=St.nilrow cZ 9
 simp only[List.cons_append,List.nil_append] at hn43
 have hn44:=St.nilrow hn43 3
 simp only[List.cons_append,List.nil_append] at hn44
 have hn45:=St.nilrow hn44 3
 simp only[List.cons_append,List.nil_append] at hn45
 refine aL (fun t_ mz az W=>∃i:Nat,∃nn:Nat,∃S:List EnD,∃EA:Option Addr,∃ec:Nat,∃SA:Option Addr,∃sc:Nat,∃KA:Option Addr,∃kc:Nat,1<=i/\i<=n/\S=srt lv (gP (h::l) i)/\(gP (h::l) i).any (cB lv)=false/\S.length=nn/\nn<=i/\(∀k,(S.getD k en0).1.size<=1000000)/\mz=n-i/\az=⟨(ovr (jv az) [(5,5,0,[vi ((i:Int))]),(0,6,3,[]),(51,60,106,[])] t_).toArray,[]⟩/\St w [] [eB bE 102 #[vi k,vi lsn,.slice A n c],eB oN 95 #[.bool false,.bool false,vi 0,vi 0,.string ByteArray.empty,.slice none 0 0,.slice none 0 0,.slice none 0 0],eB ei 95 #[.bool true,.bool ((aA (bl h) 1)==1),vi (lv),vi ((aA (bl h) 2)*256+(aA (bl h) 3)-1),.string (h.extract 4 h.size),.slice EA nn ec,.slice SA nn sc,.slice KA nn kc],eO 9 1 (.slice EA nn ec) nn (S.map stv),eO 3 1 (.slice SA nn sc) nn (S.map slv),eO 3 1 (.slice KA nn kc) nn (S.map kdv)] W) (n-1) ?_ ?_
 exact⟨1,0,[],none,0,none,0,none,0,Nat.le_refl _,by omega,rfl,rfl,rfl,by omega,fun k=>Nat.zero_le _,rfl,(by kernel_rfl),hn45.pk [0,1,2,3,4,5]⟩
 rintro Ra a46 LN ⟨i,nn,S,EA,ec,SA,sc,KA,kc,hi1,hin,hS,hbad,hnn,hni,hSz,rfl,hj_,fA⟩
 refine ovz hj_ fun P2=>?_
 refine wp_seq (wp_seq (sqr (sqp [.m 60 5,.k 61 (.pointer (some ⟨bE,2,none⟩))] ?_)))
 refine am 0 fA ?_
 refine sqp [.k 63 (vi ((n:Int))),.k 64 (.bool (decide ((i:Int)<(n:Int))))] ?_
 refine aa (wds (fun kq KS=>?_) fun kq KS=>?_)
 ·refine wp_skip (aa (wp_seq (wp_block (wp_seq (sqr (sqp [.k 67 (.pointer (some ⟨bE,2,none⟩))] ?_))))))
  refine am 0 fA ?_
  refine sqp [.m 69 5] ?_
  refine sql (.pointer (some ((ad A).add i))) fA (fun cx=>ay (e:=9) (m:=i) rfl (by kernel_rfl) (by kernel_rfl) (cx.ou 68) (cx.ou 69) (by omega) (by omega) (hA.ext cx.upd.to_ext) (by rw[List.length_map];exact hn)) ?_
  refine sql (.string ((h::l).getD i ByteArray.empty)) fA (fun cx=>ae rfl (by kernel_rfl) (cx.ou 70) (At.cellAd (hA.ext cx.upd.to_ext) (qt (by omega)))) ?_
  refine sqp [.m 6 71] ?_
  refine aa (wp_seq (wp_seq ?_))
  have hyz:((h::l).getD i ByteArray.empty).size<=1000000:=hsz _ (by rw[List.getD_eq_getElem?_getD,List.getElem?_eq_getElem (show i<(h::l).length by rw[hn];exact(by omega))];exact List.getElem_mem _)
  have hps:=uy (its:=h::l) hi1 (by rw[hn];omega)
  have hpl:=DF (its:=h::l) hi1
  obtain⟨y,jC⟩:∃z,(h::l).getD i ByteArray.empty=z:=⟨_,rfl⟩
  rw[jC]
  rw[jC] at hyz hps
  refine sqr (sqp [.m 72 6,.k 73 (.bool (y.toList==((⟨#[]⟩:ByteArray)).toList))] ?_)
  refine aa (wbs (fun mp=>?_) fun mp=>?_)
  refine wp_exit (aj (aO (aa (sqr (sqp [.m 65 5,sI 66 ((i:Int)+1) (by omega),.m 5 66] ?_)))))
  refine aa ?_
  have hpr0:gP (h::l) (i+1)=gP (h::l) i:=by have h_:=mp;rw[eV] at h_;rw[hps,if_pos (of_decide_eq_true h_),List.append_nil]
  refine⟨n-((i+1)),by omega,?_⟩
  exact⟨(i+1),nn,S,EA,ec,SA,sc,KA,kc,by omega,by omega,by rw[hpr0];exact hS,by rw[hpr0];exact hbad,hnn,by omega,hSz,rfl,(by kernel_rfl),fA.pk [0,1,2,3,4,5]⟩
  refine wp_skip (aa (wp_seq ?_))
  have hy0:¬y.size=0:=by have h_:=mp;rw[eV] at h_;exact of_decide_eq_false h_
  rw[if_neg hy0] at hps
  refine sqr (sqp [.k 7 (vi (-1))] ?_)
  refine aa ?_
  refine ju (fun t_ az W=>∃x:ByteArray,∃kd:Int,b8 lv (i,y)=(x,i,kd)/\cB lv (i,y)=decide (x.size<4)/\x.size<=1000000/\az=⟨(ovr (jv az) [(6,6,0,[.string x,vi kd]),(66,74,26,[])] t_).toArray,[]⟩/\St w [] [eB bE 102 #[vi k,vi lsn,.slice A n c],eB oN 95 #[.bool false,.bool false,vi 0,vi 0,.string ByteArray.empty,.slice none 0 0,.slice none 0 0,.slice none 0 0],eB ei 95 #[.bool true,.bool ((aA (bl h) 1)==1),vi (lv),vi ((aA (bl h) 2)*256+(aA (bl h) 3)-1),.string (h.extract 4 h.size),.slice EA nn ec,.slice SA nn sc,.slice KA nn kc],eO 9 1 (.slice EA nn ec) nn (S.map stv),eO 3 1 (.slice SA nn sc) nn (S.map slv),eO 3 1 (.slice KA nn kc) nn (S.map kdv)] W) ?_ ?_
  refine wp_seq (sqr (sqp [.k 74 (.pointer (some ⟨ei,2,none⟩))] ?_))
  refine am 2 fA ?_
  refine sqp [.k 76 (.bool (decide (0<lv)))] ?_
  refine aa (wds (fun gw jM=>?_) fun gw jM=>?_)
  refine wp_seq (wp_seq (sqr (sqp [.m 77 6,.k 78 (vi ((y.size:Int))),.k 79 (.bool (decide ((y.size:Int)<6)))] ?_)))
  refine aa (wds (fun Mh KT=>?_) fun Mh KT=>?_)
  refine wp_seq (sqr (sqp [.k 80 (.agg #[.bool false,.bool false,vi 0,vi 0,.string ByteArray.empty,.slice none 0 0,.slice none 0 0,.slice none 0 0])] ?_))
  refine aD (n:=8) 1 #[.bool false,.bool false,vi 0,vi 0,.string ByteArray.empty,.slice none 0 0,.slice none 0 0,.slice none 0 0] fA fun y3 dN=>?_
  refine aa (wp_ret (af (af (aq (af (af (aq (af ?_))))))))
  refine bpr (.agg #[.bool false,.bool false,vi 0,vi 0,.string ByteArray.empty,.slice none 0 0,.slice none 0 0,.slice none 0 0]) (aJ (n:=8) Tryz.results108 rfl (by kernel_rfl) (by kernel_rfl) (dN.blk 1 rfl) rfl) ?_
  exact jt (tz hlv hi1 (by rw[hn];omega) (by rw[jC];exact hy0) (by rw[jC,cB,if_pos (by omega)];exact decide_eq_true (show y.size<6 by omega))) dN.ext
  refine wp_skip (aa (wp_seq ?_))
  have hq1_:=cS (bl y) ((y.size:Int)-2).toNat
  have hq2_:=cS (bl y) ((y.size:Int)-1).toNat
  refine br [0,0,2,6,15,31,63,0,0,256,768,1920,3968,8191,16383] [] [.k 81 (.string (y)),.k 82 (.string (y)),.k 83 (vi ((y.size:Int))),tI 84 ((y.size:Int)-2) (by omega),.c 85 (.int .u8 (aA (bl y) (((y.size:Int)-2).toNat))),tW 86 .i64 (aA (bl y) (((y.size:Int)-2).toNat)) (aA (bl y) (((y.size:Int)-2).toNat)) (IntWalk.i64_in _ (by omega)),tI 87 ((aA (bl y) (((y.size:Int)-2).toNat))*256) (by omega),.k 88 (.string (y)),.k 89 (.string (y)),.k 90 (vi ((y.size:Int))),tI 91 ((y.size:Int)-1) (by omega),.c 92 (.int .u8 (aA (bl y) (((y.size:Int)-1).toNat))),tW 93 .i64 (aA (bl y) (((y.size:Int)-1).toNat)) (aA (bl y) (((y.size:Int)-1).toNat)) (IntWalk.i64_in _ (by omega)),tI 94 (((aA (bl y) (((y.size:Int)-2).toNat))*256)+(aA (bl y) (((y.size:Int)-1).toNat))) (by omega),.k 7 (vi (((aA (bl y) (((y.size:Int)-2).toNat))*256)+(aA (bl y) (((y.size:Int)-1).toNat))))] [0,1,2,3,4,5] [4,11] [(7,14,1,8),(73,0,14,87)] fA ?_ fun Rb E3=>?_
  refine⟨?_,?_,trivial⟩
  exact xs4 rfl id fun cx=>cP (m:=((y.size:Int)-2).toNat) rfl (by kernel_rfl) (cx.an 0) (cx.an 3) (by omega) (by omega)
  exact xs4 rfl id fun cx=>cP (m:=((y.size:Int)-1).toNat) rfl (by kernel_rfl) (cx.an 7) (cx.an 10) (by omega) (by omega)
  refine aa (sqr (sqp [.m 95 6,.m 96 6,.k 97 (vi ((y.size:Int))),sI 98 ((y.size:Int)-2) (by omega)] ?_))
  refine sql (.string (y.extract 0 (((y.size:Int)-2).toNat))) E3 (fun cx=>i6 (l:=((y.size:Int)-2).toNat) rfl (by kernel_rfl) (cx.ou 95) (cx.ou 98) (by omega) (by omega)) ?_
  refine sqp [.m 6 99] ?_
  refine aa ?_
  exact⟨(y.extract 0 (((y.size:Int)-2).toNat)),(((aA (bl y) (((y.size:Int)-2).toNat))*256)+(aA (bl y) (((y.size:Int)-1).toNat))),by rw[b8,if_pos (by omega),jp _ _ (by show y.size-2+2<=y.size;omega),show ((y.size:Int)-2).toNat=y.size-2 by omega,show ((y.size:Int)-1).toNat=y.size-2+1 by omega],by rw[cB,if_pos (by omega),ByteArray.size_extract];show decide (y.size<6)= _;rw[decide_eq_false (by omega),decide_eq_false (by omega)],by rw[ByteArray.size_extract];omega,(by kernel_rfl),E3.pk [0,1,2,3,4,5]⟩
  refine wp_skip (aa ?_)
  exact⟨y,(-1),by rw[b8,if_neg (by omega)],by rw[cB,if_neg (by omega)],hyz,(by kernel_rfl),fA.pk [0,1,2,3,4,5]⟩
  rintro a66 IB ⟨x,kd,hpx,hbx,hxz,hj_,e5⟩
  refine ovz hj_ fun P3=>?_
  refine wp_seq (wp_seq (sqr (sqp [.m 100 6,.k 101 (vi ((x.size:Int))),.k 102 (.bool (decide ((x.size:Int)<4)))] ?_)))
  refine aa (wds (fun Mi KU=>?_) fun Mi KU=>?_)
  refine wp_seq (sqr (sqp [.k 103 (.agg #[.bool false,.bool false,vi 0,vi 0,.string ByteArray.empty,.slice none 0 0,.slice none 0 0,.slice none 0 0])] ?_))
  refine aD (n:=8) 1 #[.bool false,.bool false,vi 0,vi 0,.string ByteArray.empty,.slice none 0 0,.slice none 0 0,.slice none 0 0] e5 fun Ob uY=>?_
  refine aa (wp_ret (af (aq (af (af (aq (af ?_)))))))
  refine bpr (.agg #[.bool false,.bool false,vi 0,vi 0,.string ByteArray.empty,.slice none 0 0,.slice none 0 0,.slice none 0 0]) (aJ (n:=8) Tryz.results108 rfl (by kernel_rfl) (by kernel_rfl) (uY.blk 1 rfl) rfl) ?_
  exact jt (tz hlv hi1 (by rw[hn];omega) (by rw[jC];exact hy0) (by rw[jC,hbx];exact decide_eq_true (by omega))) uY.ext
  refine wp_skip (aa (wp_seq ?_))
  have hx4:cB lv (i,y)=false:=by rw[hbx];exact decide_eq_false (by omega)
  refine sqr (sqp [.k 104 (.pointer (some ⟨ei,5,none⟩))] ?_)
  refine am 2 e5 ?_
  refine sqp [.k 106 (vi ((nn:Int))),.m 8 106] ?_
  refine aa (wp_seq (wp_block ?_))
  refine aL (fun t_ mz az W=>∃m:Nat,m<=nn/\(∀y∈S.drop m,al x y.1=true)/\mz=m+1/\az=⟨(ovr (jv az) [(8,8,0,[vi ((m:Int))]),(98,107,14,[])] t_).toArray,[]⟩/\St w [] [eB bE 102 #[vi k,vi lsn,.slice A n c],eB oN 95 #[.bool false,.bool false,vi 0,vi 0,.string ByteArray.empty,.slice none 0 0,.slice none 0 0,.slice none 0 0],eB ei 95 #[.bool true,.bool ((aA (bl h) 1)==1),vi (lv),vi ((aA (bl h) 2)*256+(aA (bl h) 3)-1),.string (h.extract 4 h.size),.slice EA nn ec,.slice SA nn sc,.slice KA nn kc],eO 9 1 (.slice EA nn ec) nn (S.map stv),eO 3 1 (.slice SA nn sc) nn (S.map slv),eO 3 1 (.slice KA nn kc) nn (S.map kdv)] W) (nn+1) ?_ ?_
  exact⟨nn,Nat.le_refl _,(by rw[List.drop_of_length_le (by omega)];exact fun _ hy=>nomatch hy),rfl,(by kernel_rfl),e5.pk [0,1,2,3,4,5]⟩
  rintro Rc a94 E4 ⟨m,hm,hm2,rfl,hj_,eN⟩
  refine ovz hj_ fun P4=>?_
  refine wp_seq (wp_seq (sqr (sqp [.m 107 8,.k 108 (.bool (decide (0<(m:Int)))),.m 109 108] ?_)))
  refine ii 109 [110,111,112,113,114,115,116,117] ?_ eN rfl (fun hq=>?_) fun P5 oO=>?_
  rotate_left
  have hq_:=of_decide_eq_true hq
  refine sqp [.m 110 6,.k 111 (.pointer (some ⟨ei,5,none⟩))] ?_
  refine am 2 eN ?_
  refine sqp [.m 113 8,sI 114 ((m:Int)-1) (by omega)] ?_
  refine sql (.pointer (some ((ad EA).add (((m:Int)-1).toNat)))) eN (fun cx=>ay (e:=9) (m:=((m:Int)-1).toNat) rfl (by kernel_rfl) (by kernel_rfl) (cx.ou 112) (cx.ou 114) (by omega) (by omega) (At.of_own (cx.ri 3 rfl)) (by simp;omega)) ?_
  refine sql (.string ((S.getD ((m:Int)-1).toNat en0).1)) eN (fun cx=>ae rfl (by kernel_rfl) (cx.ou 115) (At.cellAd (At.of_own (cx.ri 3 rfl)) (eD (by omega)))) ?_
  refine sqk (.bool (al x ((S.getD ((m:Int)-1).toNat en0).1))) eN (fun cx=>⟨_,gr x ((S.getD ((m:Int)-1).toNat en0).1) _ (by omega) (hSz _),(aI (cx.ou 110) (cx.ou 116))⟩) fun IC i7=>?_
  exact sqE i7
  refine bQ ?_
  refine sqp [sPa 118 (decide (0<(m:Int))) (al x ((S.getD ((m:Int)-1).toNat en0).1))] ?_
  refine aa (wbs (fun i8=>?_) fun i8=>?_)
  have sw:=i8
  simp only[zB] at sw
  obtain⟨NB,NC⟩:=sw
  refine wp_skip (aa (wp_block (sqr (sqp [.m 119 8,sI 120 ((m:Int)-1) (by omega),.m 8 120] ?_))))
  refine ax (aa ?_)
  rw[show ((m:Int)-1)=((m-1:Nat):Int) by omega]
  refine⟨((m-1))+1,by omega,?_⟩
  exact⟨(m-1),by omega,by have h_:=(by have h_:=i8;rw[Bool.and_eq_true] at h_;have h3_:=h_.2;rwa [show ((m:Int)-1).toNat=m-1 by omega] at h3_);have h2_:=uD (S:=S) (m:=m-1) (by omega) (by rw[Nat.sub_add_cancel (by omega)];exact hm2) h_;exact h2_,rfl,(by kernel_rfl),oO.pk [0,1,2,3,4,5]⟩
  have sw:=i8
  simp only[zB] at sw
  refine wp_exit (aj (aj (aO (aa (wp_seq ?_)))))
  have hcut:m=0\/∃z,(srt lv (gP (h::l) i))[m-1]? =some z/\al (b8 lv (i,y)).1 z.1=false:=by
   rcases Nat.eq_zero_or_pos m with h0|h0
   exact .inl h0
   refine .inr ⟨S.getD (m-1) en0,by rw[<-hS,List.getD_eq_getElem?_getD,List.getElem?_eq_getElem (by omega)];rfl,?_⟩
   have h_:=i8
   rw[Bool.and_eq_false_iff] at h_
   rcases h_ with h_|h_
   exact absurd (of_decide_eq_false h_) (by omega)
   rw[show ((m:Int)-1).toNat=m-1 by omega] at h_;rw[hpx];exact h_
  have hS2:S.take m++(x,i,kd)::S.drop m=srt lv (gP (h::l) (i+1)):=by
   rw[hps,Db (m:=m) (by rw[<-mv lv,<-hS];omega) (by rw[<-hS,hpx];exact hm2) hcut,<-hS,hpx]
  have hbad2:(gP (h::l) (i+1)).any (cB lv)=false:=by rw[hps];exact DG hbad hx4
  have hS2l:(S.take m++(x,i,kd)::S.drop m).length=nn+1:=by rw[List.length_append,List.length_cons,List.length_take,List.length_drop];omega
  have hSz2:∀k,((S.take m++(x,i,kd)::S.drop m).getD k en0).1.size<=1000000:=by rw[hS2];exact qp (fun p hp=>hsz _ (List.mem_cons_of_mem _ (kY (wO hp)).1))
  have hcEA_:=qn (oO.own' 3 rfl)
  have hcSA_:=qn (oO.own' 4 rfl)
  have hcKA_:=qn (oO.own' 5 rfl)
  refine ak [0,0,2,0,14,31,0,64,255,0,512,0,3584,8191,16383,32767] [[],[],[2],[],[],[3,6],[],[],[8,7],[],[2],[],[],[3,9],[],[2]] [[6],[],[],[],[],[7],[],[8],[9],[],[],[],[],[10],[],[11]] [[],[],[],[],[],[6],[],[],[7],[],[],[],[],[9],[],[2]] [.a 121,.k 122 (.pointer (some ⟨ei,5,none⟩)),.c 123 (.slice EA nn ec),.k 124 (vi ((m:Int))),.c 125 (.slice EA m ec),.a 126,.k 127 (.string x),.a 128,.a 129,.k 130 (.pointer (some ⟨ei,5,none⟩)),.c 131 (.slice EA nn ec),.k 132 (vi ((m:Int))),.c 133 (.slice ((if ec=m then EA else EA.map (·.add (m*1)))) ((nn-m)) ((ec-m))),.a 134,.k 135 (.pointer (some ⟨ei,5,none⟩)),.n] (fun ix d b X=>match ix with|0=>d 121= .slice (sA (b 121)) 0 0/\X 6=eO 9 1 (.slice (sA (b 121)) 0 0) 0 ([])|1|2|3|4=>True|5=>d 126= .slice (sA (b 126)) m (sC (b 126))/\X 7=eO 9 1 (.slice (sA (b 126)) m (sC (b 126))) m ((S.take m).map stv)|6=>True|7=>d 128= .slice (sA (b 128)) 1 1/\X 8=eO 9 1 (.slice (sA (b 128)) 1 1) 1 ([.string x])|8=>d 129= .slice (sA (b 129)) (m+1) (sC (b 129))/\X 9=eO 9 1 (.slice (sA (b 129)) (m+1) (sC (b 129))) (m+1) (((S.take m).map stv)++[.string x])|9|10|11|12=>True|13=>d 134= .slice (sA (b 134)) ((nn+1)) (sC (b 134))/\X 10=eO 9 1 (.slice (sA (b 134)) ((nn+1)) (sC (b 134))) ((nn+1)) ((((S.take m).map stv)++[.string x])++((S.drop m).map stv))|14=>True|15=>X 11=eB ei 95 #[.bool true,.bool ((aA (bl h) 1)==1),vi (lv),vi ((aA (bl h) 2)*256+(aA (bl h) 3)-1),.string (h.extract 4 h.size),.slice (sA (b 134)) ((nn+1)) (sC (b 134)),.slice SA nn sc,.slice KA nn kc]|_=>True) [0,1,3,4,5,8,10,11] [0,2,4,5,7,8,10,12,13,15] [(121,0,15,136)] oO ?_ ?_ ?_
  exact fun ix _ _ _ _ _ _ hs hb hx h=>match ix,h with
  |0,h=>by dsimp only;rw[<-hs 121 rfl,<-hb 121 rfl,<-hx 6 rfl];exact h
  |5,h=>by dsimp only;rw[<-hs 126 rfl,<-hb 126 rfl,<-hx 7 rfl];exact h
  |7,h=>by dsimp only;rw[<-hs 128 rfl,<-hb 128 rfl,<-hx 8 rfl];exact h
  |8,h=>by dsimp only;rw[<-hs 129 rfl,<-hb 129 rfl,<-hx 9 rfl];exact h
  |13,h=>by dsimp only;rw[<-hs 134 rfl,<-hb 134 rfl,<-hx 10 rfl];exact h
  |15,h=>by dsimp only;rw[<-hb 134 rfl,<-hx 11 rfl];exact h
  |1,_|2,_|3,_|4,_|6,_|9,_|10,_|11,_|12,_|14,_|_+16,_=>trivial
  refine⟨?_,?_,?_,?_,?_,?_,?_,?_,?_,?_,trivial⟩
  refine svA fun f b W X cx=>?_
  exact bV (e:=9) (xs:=[]) rfl (by simp[go_sem]) rfl (by decide) rfl rfl (fun _ _ _ _ _=> .intro)
  exact xs4 rfl id fun cx=>ae rfl (by kernel_rfl) (cx.an 1) ((cx.bi 2 rfl).cell 5)
  exact xs4 rfl id fun cx=>fH (e:=9) (sz:=1) (m:=m) rfl (by kernel_rfl) (by kernel_rfl) (cx.an 2) (cx.an 3) (by omega) (by omega)
  refine svA fun f b W X cx=>?_
  obtain⟨i0,hi0,hz0,hz1,hz2⟩:=info_parts Tryz.infoStr
  refine cq (n:=0) (m:=m) (nm:=m) (xs:=[]) (news:=(S.take m).map stv) (xs':=(S.take m).map stv) rfl (ty:=56) rfl (by kernel_rfl) hi0 hz0 hz1 hz2 rfl (dTn (cx.an 0)).1 cx (dTn (cx.an 0)).2 rfl (cx.an 4) (by simp;omega) ((At.of_own (cx.ri 3 rfl)).takeM m) (mu (fun _=>rfl) _) (by simp only[maxLen];omega) (by omega) rfl rfl rfl (by omega) (rfl) (fun d g X' hs hb hv hx=>?_)
  exact⟨hv,hx⟩
  refine svA fun f b W X cx=>?_
  have KV:f (.tmp 127)= .string x:=(cx.an 6)
  exact bV (e:=9) (xs:=[.string x]) rfl (by simp[go_sem,KV]) rfl (by decide) rfl rfl (fun _ _ _ _ _=> .intro)
  refine svA fun f b W X cx=>?_
  obtain⟨i0,hi0,hz0,hz1,hz2⟩:=info_parts Tryz.infoStr
  refine cq (n:=m) (m:=1) (nm:=m+1) (xs:=(S.take m).map stv) (news:=[.string x]) (xs':=((S.take m).map stv)++[.string x]) rfl (ty:=56) rfl (by kernel_rfl) hi0 hz0 hz1 hz2 rfl (dTn (cx.an 5)).1 cx (dTn (cx.an 5)).2 rfl (dTn (cx.an 7)).1 (by simp) (At.of_own (cx.row (dTn (cx.an 7)).2 rfl)) (by simp[Value.oneCell']) (by simp only[maxLen];omega) (by omega) rfl rfl rfl (by omega) (by simp) (fun d g X' hs hb hv hx=>?_)
  exact⟨hv,hx⟩
  exact xs4 rfl id fun cx=>ae rfl (by kernel_rfl) (cx.an 9) ((cx.bi 2 rfl).cell 5)
  exact xs4 rfl id fun cx=>ce (e:=9) (sz:=1) (l:=m) rfl (by kernel_rfl) (by kernel_rfl) (cx.an 10) (cx.an 11) (by omega) (by omega)
  refine svA fun f b W X cx=>?_
  obtain⟨i0,hi0,hz0,hz1,hz2⟩:=info_parts Tryz.infoStr
  refine cq (n:=m+1) (m:=(nn-m)) (nm:=(nn+1)) (xs:=((S.take m).map stv)++[.string x]) (news:=(S.drop m).map stv) (xs':=(((S.take m).map stv)++[.string x])++((S.drop m).map stv)) rfl (ty:=56) rfl (by kernel_rfl) hi0 hz0 hz1 hz2 rfl (dTn (cx.an 8)).1 cx (dTn (cx.an 8)).2 rfl (cx.an 12) (by simp;omega) ((At.of_own (cx.ri 3 rfl)).dropM m ec (by omega)) (mu (fun _=>rfl) _) (by simp only[maxLen];omega) (by omega) rfl rfl rfl (by omega) (by simp) (fun d g X' hs hb hv hx=>?_)
  exact⟨hv,hx⟩
  refine svA fun f b W X cx=>?_
  exact aw (n:=1) rfl (cx.an 14) (dTn (cx.an 13)).1 (by kernel_rfl) (by kernel_rfl) (by kernel_rfl) cx (cx.init 2 _ rfl) rfl (nle rfl) (by kernel_rfl) rfl rfl rfl (fun d g X' hs hb hx=>by rw[hb 134];exact hx)
  intro d b X Mj hD mF fr ag
  simp only[exq 8 ((dTn (hD 7 lq)).2),exq 10 ((dTn (hD 13 lq)).2),exq 11 ((dTn (hD 15 lq)))] at mF
  simp only[ed 121 ((dTn (hD 0 lq)).1),ed 126 ((dTn (hD 5 lq)).1),ed 128 ((dTn (hD 7 lq)).1),ed 129 ((dTn (hD 8 lq)).1),ed 134 ((dTn (hD 13 lq)).1)] at ag
  generalize sA (b 121)=Mk,sA (b 126)=Ml,sC (b 126)=Mm,sA (b 128)=Mn,sA (b 129)=Mo,sC (b 129)=Mp,sA (b 134)=qP,sC (b 134)=qQ at mF ag
  clear hD;subst ag;clear d b X
  refine aa (wp_seq (ak [0,0,2,0,14,31,0,64,255,0,512,0,3584,8191,16383,32767] [[],[],[7],[],[],[3,8],[],[],[10,9],[],[7],[],[],[3,11],[],[7]] [[8],[],[],[],[],[9],[],[10],[11],[],[],[],[],[12],[],[13]] [[],[],[],[],[],[8],[],[],[9],[],[],[],[],[11],[],[7]] [.a 136,.k 137 (.pointer (some ⟨ei,6,none⟩)),.c 138 (.slice SA nn sc),.k 139 (vi ((m:Int))),.c 140 (.slice SA m sc),.a 141,.k 142 (vi ((i:Int))),.a 143,.a 144,.k 145 (.pointer (some ⟨ei,6,none⟩)),.c 146 (.slice SA nn sc),.k 147 (vi ((m:Int))),.c 148 (.slice ((if sc=m then SA else SA.map (·.add (m*1)))) ((nn-m)) ((sc-m))),.a 149,.k 150 (.pointer (some ⟨ei,6,none⟩)),.n] (fun ix d b X=>match ix with|0=>d 136= .slice (sA (b 136)) 0 0/\X 8=eO 3 1 (.slice (sA (b 136)) 0 0) 0 ([])|1|2|3|4=>True|5=>d 141= .slice (sA (b 141)) m (sC (b 141))/\X 9=eO 3 1 (.slice (sA (b 141)) m (sC (b 141))) m ((S.take m).map slv)|6=>True|7=>d 143= .slice (sA (b 143)) 1 1/\X 10=eO 3 1 (.slice (sA (b 143)) 1 1) 1 ([vi ((i:Int))])|8=>d 144= .slice (sA (b 144)) (m+1) (sC (b 144))/\X 11=eO 3 1 (.slice (sA (b 144)) (m+1) (sC (b 144))) (m+1) (((S.take m).map slv)++[vi ((i:Int))])|9|10|11|12=>True|13=>d 149= .slice (sA (b 149)) ((nn+1)) (sC (b 149))/\X 12=eO 3 1 (.slice (sA (b 149)) ((nn+1)) (sC (b 149))) ((nn+1)) ((((S.take m).map slv)++[vi ((i:Int))])++((S.drop m).map slv))|14=>True|15=>X 13=eB ei 95 #[.bool true,.bool ((aA (bl h) 1)==1),vi (lv),vi ((aA (bl h) 2)*256+(aA (bl h) 3)-1),.string (h.extract 4 h.size),.slice qP ((nn+1)) qQ,.slice (sA (b 149)) ((nn+1)) (sC (b 149)),.slice KA nn kc]|_=>True) [0,1,2,3,4,5,6,10,12,13] [0,2,4,5,7,8,10,12,13,15] [(136,0,15,151)] mF ?_ ?_ ?_))
  exact fun ix _ _ _ _ _ _ hs hb hx h=>match ix,h with
  |0,h=>by dsimp only;rw[<-hs 136 rfl,<-hb 136 rfl,<-hx 8 rfl];exact h
  |5,h=>by dsimp only;rw[<-hs 141 rfl,<-hb 141 rfl,<-hx 9 rfl];exact h
  |7,h=>by dsimp only;rw[<-hs 143 rfl,<-hb 143 rfl,<-hx 10 rfl];exact h
  |8,h=>by dsimp only;rw[<-hs 144 rfl,<-hb 144 rfl,<-hx 11 rfl];exact h
  |13,h=>by dsimp only;rw[<-hs 149 rfl,<-hb 149 rfl,<-hx 12 rfl];exact h
  |15,h=>by dsimp only;rw[<-hb 149 rfl,<-hx 13 rfl];exact h
  |1,_|2,_|3,_|4,_|6,_|9,_|10,_|11,_|12,_|14,_|_+16,_=>trivial
  refine⟨?_,?_,?_,?_,?_,?_,?_,?_,?_,?_,trivial⟩
  refine svA fun f b W X cx=>?_
  exact bV (e:=3) (xs:=[]) rfl (by simp[go_sem]) rfl (by decide) rfl rfl (fun _ _ _ _ _=> .intro)
  exact xs4 rfl id fun cx=>ae rfl (by kernel_rfl) (cx.an 1) ((cx.bi 7 rfl).cell 6)
  exact xs4 rfl id fun cx=>fH (e:=3) (sz:=1) (m:=m) rfl (by kernel_rfl) (by kernel_rfl) (cx.an 2) (cx.an 3) (by omega) (by omega)
  refine svA fun f b W X cx=>?_
  obtain⟨i0,hi0,hz0,hz1,hz2⟩:=info_parts Tryz.infoInt
  refine cq (n:=0) (m:=m) (nm:=m) (xs:=[]) (news:=(S.take m).map slv) (xs':=(S.take m).map slv) rfl (ty:=22) rfl (by kernel_rfl) hi0 hz0 hz1 hz2 rfl (dTn (cx.an 0)).1 cx (dTn (cx.an 0)).2 rfl (cx.an 4) (by simp;omega) ((At.of_own (cx.ri 3 rfl)).takeM m) (mu (fun _=>rfl) _) (by simp only[maxLen];omega) (by omega) rfl rfl rfl (by omega) (rfl) (fun d g X' hs hb hv hx=>?_)
  exact⟨hv,hx⟩
  refine svA fun f b W X cx=>?_
  have KW:f (.tmp 142)=vi ((i:Int)):=(cx.an 6)
  exact bV (e:=3) (xs:=[vi ((i:Int))]) rfl (by simp[go_sem,KW]) rfl (by decide) rfl rfl (fun _ _ _ _ _=> .intro)
  refine svA fun f b W X cx=>?_
  obtain⟨i0,hi0,hz0,hz1,hz2⟩:=info_parts Tryz.infoInt
  refine cq (n:=m) (m:=1) (nm:=m+1) (xs:=(S.take m).map slv) (news:=[vi ((i:Int))]) (xs':=((S.take m).map slv)++[vi ((i:Int))]) rfl (ty:=22) rfl (by kernel_rfl) hi0 hz0 hz1 hz2 rfl (dTn (cx.an 5)).1 cx (dTn (cx.an 5)).2 rfl (dTn (cx.an 7)).1 (by simp) (At.of_own (cx.row (dTn (cx.an 7)).2 rfl)) (by simp[Value.oneCell']) (by simp only[maxLen];omega) (by omega) rfl rfl rfl (by omega) (by simp) (fun d g X' hs hb hv hx=>?_)
  exact⟨hv,hx⟩
  exact xs4 rfl id fun cx=>ae rfl (by kernel_rfl) (cx.an 9) ((cx.bi 7 rfl).cell 6)
  exact xs4 rfl id fun cx=>ce (e:=3) (sz:=1) (l:=m) rfl (by kernel_rfl) (by kernel_rfl) (cx.an 10) (cx.an 11) (by omega) (by omega)
  refine svA fun f b W X cx=>?_
  obtain⟨i0,hi0,hz0,hz1,hz2⟩:=info_parts Tryz.infoInt
  refine cq (n:=m+1) (m:=(nn-m)) (nm:=(nn+1)) (xs:=((S.take m).map slv)++[vi ((i:Int))]) (news:=(S.drop m).map slv) (xs':=(((S.take m).map slv)++[vi ((i:Int))])++((S.drop m).map slv)) rfl (ty:=22) rfl (by kernel_rfl) hi0 hz0 hz1 hz2 rfl (dTn (cx.an 8)).1 cx (dTn (cx.an 8)).2 rfl (cx.an 12) (by simp;omega) ((At.of_own (cx.ri 3 rfl)).dropM m sc (by omega)) (mu (fun _=>rfl) _) (by simp only[maxLen];omega) (by omega) rfl rfl rfl (by omega) (by simp) (fun d g X' hs hb hv hx=>?_)
  exact⟨hv,hx⟩
  refine svA fun f b W X cx=>?_
  exact aw (n:=1) rfl (cx.an 14) (dTn (cx.an 13)).1 (by kernel_rfl) (by kernel_rfl) (by kernel_rfl) cx (cx.init 7 _ rfl) rfl (nle rfl) (by kernel_rfl) rfl rfl rfl (fun d g X' hs hb hx=>by rw[hb 149];exact hx)
  intro d b X P6 hD w9 fr ag
  simp only[exq 10 ((dTn (hD 7 lq)).2),exq 12 ((dTn (hD 13 lq)).2),exq 13 ((dTn (hD 15 lq)))] at w9
  simp only[ed 136 ((dTn (hD 0 lq)).1),ed 141 ((dTn (hD 5 lq)).1),ed 143 ((dTn (hD 7 lq)).1),ed 144 ((dTn (hD 8 lq)).1),ed 149 ((dTn (hD 13 lq)).1)] at ag
  generalize sA (b 136)=Mq,sA (b 141)=Mr,sC (b 141)=Ms,sA (b 143)=Mt,sA (b 144)=Mu,sC (b 144)=Mw,sA (b 149)=xa,sC (b 149)=xb at w9 ag
  clear hD;subst ag;clear d b X
  refine aa (ak [0,0,2,0,14,31,0,64,255,0,512,0,3584,8191,16383,32767] [[],[],[9],[],[],[4,10],[],[],[12,11],[],[9],[],[],[4,13],[],[9]] [[10],[],[],[],[],[11],[],[12],[13],[],[],[],[],[14],[],[15]] [[],[],[],[],[],[10],[],[],[11],[],[],[],[],[13],[],[9]] [.a 151,.k 152 (.pointer (some ⟨ei,7,none⟩)),.c 153 (.slice KA nn kc),.k 154 (vi ((m:Int))),.c 155 (.slice KA m kc),.a 156,.k 157 (vi kd),.a 158,.a 159,.k 160 (.pointer (some ⟨ei,7,none⟩)),.c 161 (.slice KA nn kc),.k 162 (vi ((m:Int))),.c 163 (.slice ((if kc=m then KA else KA.map (·.add (m*1)))) ((nn-m)) ((kc-m))),.a 164,.k 165 (.pointer (some ⟨ei,7,none⟩)),.n] (fun ix d b X=>match ix with|0=>d 151= .slice (sA (b 151)) 0 0/\X 10=eO 3 1 (.slice (sA (b 151)) 0 0) 0 ([])|1|2|3|4=>True|5=>d 156= .slice (sA (b 156)) m (sC (b 156))/\X 11=eO 3 1 (.slice (sA (b 156)) m (sC (b 156))) m ((S.take m).map kdv)|6=>True|7=>d 158= .slice (sA (b 158)) 1 1/\X 12=eO 3 1 (.slice (sA (b 158)) 1 1) 1 ([vi kd])|8=>d 159= .slice (sA (b 159)) (m+1) (sC (b 159))/\X 13=eO 3 1 (.slice (sA (b 159)) (m+1) (sC (b 159))) (m+1) (((S.take m).map kdv)++[vi kd])|9|10|11|12=>True|13=>d 164= .slice (sA (b 164)) ((nn+1)) (sC (b 164))/\X 14=eO 3 1 (.slice (sA (b 164)) ((nn+1)) (sC (b 164))) ((nn+1)) ((((S.take m).map kdv)++[vi kd])++((S.drop m).map kdv))|14=>True|15=>X 15=eB ei 95 #[.bool true,.bool ((aA (bl h) 1)==1),vi (lv),vi ((aA (bl h) 2)*256+(aA (bl h) 3)-1),.string (h.extract 4 h.size),.slice qP ((nn+1)) qQ,.slice xa ((nn+1)) xb,.slice (sA (b 164)) ((nn+1)) (sC (b 164))]|_=>True) [0,1,2,3,4,5,6,7,8,12,14,15] [0,2,4,5,7,8,10,12,13,15] [(151,0,15,166)] w9 ?_ ?_ ?_)
  exact fun ix _ _ _ _ _ _ hs hb hx h=>match ix,h with
  |0,h=>by dsimp only;rw[<-hs 151 rfl,<-hb 151 rfl,<-hx 10 rfl];exact h
  |5,h=>by dsimp only;rw[<-hs 156 rfl,<-hb 156 rfl,<-hx 11 rfl];exact h
  |7,h=>by dsimp only;rw[<-hs 158 rfl,<-hb 158 rfl,<-hx 12 rfl];exact h
  |8,h=>by dsimp only;rw[<-hs 159 rfl,<-hb 159 rfl,<-hx 13 rfl];exact h
  |13,h=>by dsimp only;rw[<-hs 164 rfl,<-hb 164 rfl,<-hx 14 rfl];exact h
  |15,h=>by dsimp only;rw[<-hb 164 rfl,<-hx 15 rfl];exact h
  |1,_|2,_|3,_|4,_|6,_|9,_|10,_|11,_|12,_|14,_|_+16,_=>trivial
  refine⟨?_,?_,?_,?_,?_,?_,?_,?_,?_,?_,trivial⟩
  refine svA fun f b W X cx=>?_
  exact bV (e:=3) (xs:=[]) rfl (by simp[go_sem]) rfl (by decide) rfl rfl (fun _ _ _ _ _=> .intro)
  exact xs4 rfl id fun cx=>ae rfl (by kernel_rfl) (cx.an 1) ((cx.bi 9 rfl).cell 7)
  exact xs4 rfl id fun cx=>fH (e:=3) (sz:=1) (m:=m) rfl (by kernel_rfl) (by kernel_rfl) (cx.an 2) (cx.an 3) (by omega) (by omega)
  refine svA fun f b W X cx=>?_
  obtain⟨i0,hi0,hz0,hz1,hz2⟩:=info_parts Tryz.infoInt
  refine cq (n:=0) (m:=m) (nm:=m) (xs:=[]) (news:=(S.take m).map kdv) (xs':=(S.take m).map kdv) rfl (ty:=22) rfl (by kernel_rfl) hi0 hz0 hz1 hz2 rfl (dTn (cx.an 0)).1 cx (dTn (cx.an 0)).2 rfl (cx.an 4) (by simp;omega) ((At.of_own (cx.ri 4 rfl)).takeM m) (mu (fun _=>rfl) _) (by simp only[maxLen];omega) (by omega) rfl rfl rfl (by omega) (rfl) (fun d g X' hs hb hv hx=>?_)
  exact⟨hv,hx⟩
  refine svA fun f b W X cx=>?_
  have KX:f (.tmp 157)=vi kd:=(cx.an 6)
  exact bV (e:=3) (xs:=[vi kd]) rfl (by simp[go_sem,KX]) rfl (by decide) rfl rfl (fun _ _ _ _ _=> .intro)
  refine svA fun f b W X cx=>?_
  obtain⟨i0,hi0,hz0,hz1,hz2⟩:=info_parts Tryz.infoInt
  refine cq (n:=m) (m:=1) (nm:=m+1) (xs:=(S.take m).map kdv) (news:=[vi kd]) (xs':=((S.take m).map kdv)++[vi kd]) rfl (ty:=22) rfl (by kernel_rfl) hi0 hz0 hz1 hz2 rfl (dTn (cx.an 5)).1 cx (dTn (cx.an 5)).2 rfl (dTn (cx.an 7)).1 (by simp) (At.of_own (cx.row (dTn (cx.an 7)).2 rfl)) (by simp[Value.oneCell']) (by simp only[maxLen];omega) (by omega) rfl rfl rfl (by omega) (by simp) (fun d g X' hs hb hv hx=>?_)
  exact⟨hv,hx⟩
  exact xs4 rfl id fun cx=>ae rfl (by kernel_rfl) (cx.an 9) ((cx.bi 9 rfl).cell 7)
  exact xs4 rfl id fun cx=>ce (e:=3) (sz:=1) (l:=m) rfl (by kernel_rfl) (by kernel_rfl) (cx.an 10) (cx.an 11) (by omega) (by omega)
  refine svA fun f b W X cx=>?_
  obtain⟨i0,hi0,hz0,hz1,hz2⟩:=info_parts Tryz.infoInt
  refine cq (n:=m+1) (m:=(nn-m)) (nm:=(nn+1)) (xs:=((S.take m).map kdv)++[vi kd]) (news:=(S.drop m).map kdv) (xs':=(((S.take m).map kdv)++[vi kd])++((S.drop m).map kdv)) rfl (ty:=22) rfl (by kernel_rfl) hi0 hz0 hz1 hz2 rfl (dTn (cx.an 8)).1 cx (dTn (cx.an 8)).2 rfl (cx.an 12) (by simp;omega) ((At.of_own (cx.ri 4 rfl)).dropM m kc (by omega)) (mu (fun _=>rfl) _) (by simp only[maxLen];omega) (by omega) rfl rfl rfl (by omega) (by simp) (fun d g X' hs hb hv hx=>?_)
  exact⟨hv,hx⟩
  refine svA fun f b W X cx=>?_
  exact aw (n:=1) rfl (cx.an 14) (dTn (cx.an 13)).1 (by kernel_rfl) (by kernel_rfl) (by kernel_rfl) cx (cx.init 9 _ rfl) rfl (nle rfl) (by kernel_rfl) rfl rfl rfl (fun d g X' hs hb hx=>by rw[hb 164];exact hx)
  intro d b X P7 hD sx fr ag
  simp only[exq 12 ((dTn (hD 7 lq)).2),exq 14 ((dTn (hD 13 lq)).2),exq 15 ((dTn (hD 15 lq)))] at sx
  simp only[ed 151 ((dTn (hD 0 lq)).1),ed 156 ((dTn (hD 5 lq)).1),ed 158 ((dTn (hD 7 lq)).1),ed 159 ((dTn (hD 8 lq)).1),ed 164 ((dTn (hD 13 lq)).1)] at ag
  generalize sA (b 151)=Mx,sA (b 156)=My,sC (b 156)=Mz,sA (b 158)=MA,sA (b 159)=MB,sC (b 159)=MC,sA (b 164)=Ek,sC (b 164)=El at sx ag
  clear hD;subst ag;clear d b X
  refine ax (aa (sqr (sqp [.m 65 5,sI 66 ((i:Int)+1) (by omega),.m 5 66] ?_)))
  refine aa ?_
  rw[show [(Value.string x)]=[stv (x,i,kd)] from rfl,tR (x,i,kd),show [(Value.int .i64 (i:Int))]=[slv (x,i,kd)] from rfl,tR (x,i,kd),show [(Value.int .i64 kd)]=[kdv (x,i,kd)] from rfl,tR (x,i,kd)] at sx
  refine⟨n-((i+1)),by omega,?_⟩
  exact⟨(i+1),(nn+1),(S.take m++(x,i,kd)::S.drop m),qP,qQ,xa,xb,Ek,El,by omega,by omega,hS2,hbad2,hS2l,by omega,hSz2,rfl,(by kernel_rfl),sx.pk [0,1,11,6,8,10]⟩
 refine wp_exit (aj (aj (aO (aa (wp_seq ?_)))))
 have hall:=DB (its:=h::l) (i:=i) (by rw[hn];omega)
 rw[hall] at hS hbad
 refine sqr ?_
 refine dz 2 8 fA ?_
 refine aD (n:=8) 1 #[.bool true,.bool ((aA (bl h) 1)==1),vi (lv),vi ((aA (bl h) 2)*256+(aA (bl h) 3)-1),.string (h.extract 4 h.size),.slice EA nn ec,.slice SA nn sc,.slice KA nn kc] fA fun MD mG=>?_
 refine aa (wp_ret ?_)
 refine bpr (.agg #[.bool true,.bool ((aA (bl h) 1)==1),vi (lv),vi ((aA (bl h) 2)*256+(aA (bl h) 3)-1),.string (h.extract 4 h.size),.slice EA nn ec,.slice SA nn sc,.slice KA nn kc]) (aJ (n:=8) Tryz.results108 rfl (by kernel_rfl) (by kernel_rfl) (mG.blk 1 rfl) rfl) ?_
 subst hnn
 have hpk_:=mG.pick [3,4,5] (by decide) rfl
 have hdead:(aK h 1 1==1)=(aA (bl h) 1==1):=by have h_:=nh h 1 (by omega);rw[Bool.eq_iff_iff,beq_iff_eq,beq_iff_eq];omega
 have hright:=jp h 2 (by omega)
 rw[ue kp,go hok (by rw[hlv];exact hbad),hlv,<-(show S=srt lv (bu 1 l) from hS)]
 exact⟨EA,ec,SA,sc,KA,kc,by rw[ndV,hdead,hright],hpk_⟩
theorem Gx(k lsn:Int)(A:Option Addr)(c:Nat)(w:World):
  Calls Tryz.prog 108 #[.agg #[.int .i64 k,.int .i64 lsn,.slice A 0 c]] w (j4 (cn k []) w):=by
 go_enter Tryz.func108,Tryz.ntmps108
 have ar:=St.start w
 refine wp_seq (sqr ?_)
 refine bZ #[vi k,vi lsn,.slice A 0 c] ar fun bE W1 aE=>?_
 refine bF #[.bool false,.bool false,vi 0,vi 0,.string ByteArray.empty,.slice none 0 0,.slice none 0 0,.slice none 0 0] aE fun oN W2 aN=>?_
 refine aa (wp_seq (wp_seq (sqr (sqp [.k 9 (vp bE)] ?_))))
 refine am 0 aN ?_
 refine sqp [.k 11 (.bool (k != 2)),.m 12 11] ?_
 refine cv 12 [13,14,15,16] ?_ rfl (fun hq=>?_) ?_
 rotate_left
 refine sqp [.k 13 (.pointer (some ⟨bE,2,none⟩))] ?_
 refine am 0 aN ?_
 refine sqp [.k 15 (vi 0),.k 16 (.bool true)] ?_
 exact sqe
 refine bQ ?_
 have hd12:((k != 2)||true)=true:=Bool.or_true _
 refine sqp [zh 17 (k != 2) true true hd12] ?_
 refine aa (wct rfl (wp_seq (sqr (sqp [.k 18 (.agg #[.bool false,.bool false,vi 0,vi 0,.string ByteArray.empty,.slice none 0 0,.slice none 0 0,.slice none 0 0])] ?_))))
 refine aD (n:=8) 1 #[.bool false,.bool false,vi 0,vi 0,.string ByteArray.empty,.slice none 0 0,.slice none 0 0,.slice none 0 0] aN fun kb bm=>?_
 refine aa (wp_ret (af ?_))
 refine bpr (.agg #[.bool false,.bool false,vi 0,vi 0,.string ByteArray.empty,.slice none 0 0,.slice none 0 0,.slice none 0 0]) (aJ (n:=8) Tryz.results108 rfl (by kernel_rfl) (by kernel_rfl) (bm.blk 1 rfl) rfl) ?_
 exact jt (ik (.inr (.inl rfl))) bm.ext
theorem ui(k lsn:Int)(A:Option Addr)(c:Nat)(its:List ByteArray)(w:World)(hA:At w A (its.map Value.string))(hl:its.length<=100000)(hsz:∀s∈its,s.size<=1000000):
  Calls Tryz.prog 108 #[.agg #[.int .i64 k,.int .i64 lsn,.slice A its.length c]] w (j4 (cn k its) w):=by
 cases its with
 |nil=>exact Gx k lsn A c w
 |cons h l=>exact GU k lsn A c _ h l w hA rfl hl hsz
end
section
open Go.RowKit
def jq(xs:List Value)(off:Nat):List Value->List Value
 | []=>xs
 |v::l=>jq (xs.set off v) (off+1) l
theorem vt:∀(vs A B C:List Value),B.length=vs.length->jq (A++(B++C)) A.length vs=A++(vs++C)
 | [],A,B,C,h=>by
   obtain rfl:B=[]:=List.eq_nil_of_length_eq_zero h
   rfl
 |v::vs,A,[],C,h=>by simp at h
 |v::vs,A,b::B,C,h=>by
  rw[jq]
  have e:(A++(b::B++C)).set A.length v=(A++[v])++(B++C):=by simp
  have e2:A.length+1=(A++[v]).length:=by simp
  rw[e,e2,vt vs (A++[v]) B C (by simpa using h)]
  simp
theorem iE{T:Type}{f:T->List Value}{sz:Nat}(hf:∀t,(f t).length=sz){ts:List T}{m:Nat}(h:m<ts.length)(t:T):jq (ts.flatMap f) (m*sz) (f t)=(ts.set m t).flatMap f:=by
 have hl:∀l:List T,(l.flatMap f).length=l.length*sz:=fun l=>by
  induction l with
  |nil=>simp
  |cons a l ih=>rw[List.flatMap_cons,List.length_append,ih,hf,List.length_cons,Nat.add_mul];omega
 have e:ts=ts.take m++(ts[m]::ts.drop (m+1)):=by rw[<-List.drop_eq_getElem_cons h,List.take_append_drop]
 have e2:ts.set m t=ts.take m++(t::ts.drop (m+1)):=by rw[List.set_eq_take_append_cons_drop,if_pos h]
 have e3:m*sz=((ts.take m).flatMap f).length:=by rw[hl,List.length_take,Nat.min_eq_left (by omega)]
 have e4:ts.flatMap f=(ts.take m).flatMap f++(f ts[m]++(ts.drop (m+1)).flatMap f):=by
  conv=>lhs;rw[e]
  rw[List.flatMap_append,List.flatMap_cons]
 rw[e2,e4,List.flatMap_append,List.flatMap_cons,e3,vt _ _ _ _ (by rw[hf,hf])]
section
variable{P:Program}{ops:Array Oper}{L:List Nat}{a0:Act}{w0:World}{bor:List Nat}{X0:List Ent}{us cr kl:List (List Nat)}
 {D:Nat->(Tmp->Value)->(Tmp->Value)->(Nat->Ent)->Prop}{i:Nat}{o:Oper}{ρ:Operand->Value}{β:Tmp->Value}{W:World}{X:Nat->Ent}
theorem ku{g e sz n c:Nat}:∀(vs:List Value) (m i:Nat) (xs:List Value) (W:World),W.ownsRow 0 e sz (.slice (some ⟨g,0,none⟩) n c) n xs->m+i+vs.length<=n*sz->(∀v∈vs,v.oneCell'=true)->
  ∃W',(storeCells ⟨g,m,none⟩ vs i).run P W= .ok () W'/\Upd [g] W W'/\W'.ownsRow 0 e sz (.slice (some ⟨g,0,none⟩) n c) n (jq xs (m+i) vs):=by
 intro vs
 induction vs with
 |nil=>intro m i xs W hb _ _;exact⟨W,rfl,Upd.refl _ _,hb⟩
 |cons v vs ih=>
  intro m i xs W hown hle h1
  simp only[List.length_cons] at hle
  have hlen:xs.length=n*sz:=hown.1
  have hcell:W.cell? ⟨g,m+i,none⟩=some (xs[m+i]'(by omega)):=by
   rw[hown.cellAt (m+i) (by omega)]
   exact List.getElem?_eq_getElem (by omega)
  have hfz:=hown.frozenAt (m+i)
  have aP:=(hown.stored (m+i) v).1
  obtain⟨W',h2,h3,h4⟩:=ih m (i+1) (xs.set (m+i) v) (W.setCell ⟨g,m+i,none⟩ v) aP (by omega) (fun x hx=>h1 x (by simp[hx]))
  refine⟨W',?_,((Upd.refl [g] W).set (.inl (by simp)) v).trans h3,h4⟩
  unfold storeCells
  have hv:=h1 v (by simp)
  have lj:(store ((⟨g,m,none⟩:Addr).add i) v).run P W= .ok () (W.setCell ⟨g,m+i,none⟩ v):=by
   rw[Addr.add_lit]
   unfold store
   cases v<;>first|(simp[Value.oneCell'] at hv;done)|(simp[Sem.run,hcell,hfz])
  simp only[Sem.run_bind,lj,Result.andThen_ok,h2]
theorem fM{t e sz k:Nat}{x y:Operand}{A:Option Addr}{n c m q q':Nat}{v:Value}{xs:List Value}(h:o.op= .store t x y)(hx:ρ x= .pointer (some ((ad A).add m)))(hy:ρ y=v)(hz:szP P t=some k)(hn:v.cells.size=k)
  (h1:v.cells.toList.all Value.oneCell'=true) (cx:CtxV ops L a0 w0 bor X0 us D i ρ β W X) (hX:X q=eO e sz (.slice A n c) n xs) (hu:(atV us i).contains q=true) (hm:m+k<=n*sz) (hk0:0<k) (hd:o.dst=none){xs':List Value}(iL:jq xs m v.cells.toList=xs')
  (hc:atV cr i=[q']) (hk:atV kl i=[q]) (hD:∀(b a:Tmp->Value) (X':Nat->Ent),(∀t,b t=ρ (.tmp t))->(∀t,a t=β t)->X' q'=eO e sz (.slice A n c) n xs'->D i b a X'):aC P o ρ W (cQ cr kl D i o.dst ρ β W X):=by
 subst iL
 have hok:=cx.ok q hu
 rw[hX] at hok
 have hown:W.ownsRow 0 e sz (.slice A n c) n xs:=hok.holds
 obtain⟨g,rfl⟩:∃g,A=some ⟨g,0,none⟩:=by
  rcases hown.2 with ⟨hv,hm0⟩|⟨g,cap,cur,hv,_⟩
  subst hm0;rw[Nat.zero_mul] at hm;omega
  injection hv with h1 h2 h3;exact⟨g,h1⟩
 have hadd:(ad (some ⟨g,0,none⟩)).add m=⟨g,m,none⟩:=by rw[ad,Option.getD_some,Addr.add_lit,Nat.zero_add]
 obtain⟨W',h2,h3,h4⟩:=ku (P:=P) v.cells.toList m 0 xs W hown (by simp[hn];exact hm) (fun u hu=>List.all_eq_true.1 h1 u hu)
 have hrun:(execOp ρ o).run P W= .ok .skip W':=by
  unfold execOp;rw[h]
  simp only[hx,hy,hadd,Instr.storeAt,Instr.sureAddr,storeVar,Sem.run_bind,Sem.run_pure,Result.andThen_ok,c9 hz,hn,ne_eq,not_true_eq_false,if_false]
  rw[h2]
  rfl
 rw[Nat.add_zero] at h4
 refine aC.skip hrun ⟨[eO e sz (.slice (some ⟨g,0,none⟩) n c) n (jq xs m v.cells.toList)],by rw[hc];rfl,⟨?_,fun e' he=>?_,List.pairwise_singleton _ _⟩,fun b a X' hs hv hb' hbv hx' hN=>hD b a X' (fun t=>hs t (by rw[hd];simp)) (fun t=>hb' t (by rw[hd];simp)) ?_⟩
 rw[hk]
 simp only[List.flatMap_cons,List.flatMap_nil,List.append_nil,hX]
 exact h3.mono (fun k _ hk'=>by simp at hk';subst hk';simp[eO,Value.ownBlock])
 rw[List.mem_singleton] at he
 subst he
 refine⟨h4,f7 _ _ _ _ _,fun k hk'=>?_⟩
 have hkg:k=g:=by simpa[eO,Value.ownBlock] using hk'
 subst hkg
 refine⟨.inl ?_,eF h4 k (by simp[Value.ownBlock])⟩
 rw[hk]
 simp[hX,eO,Value.ownBlock]
 rw[hc] at hN
 exact(List.cons.inj hN).1
end
end
section
open Go.RowKit
theorem bT{w0 W:World}{bor:List Nat}{L:List Ent}(h:St w0 bor L W)(e sz:Nat):St w0 bor (L++[eO e sz (.slice none 0 0) 0 []]) W:=by
 refine⟨h.upd,fun x hx=>?_,?_⟩
 rcases List.mem_append.1 hx with hx|hx
 exact h.ok x hx
 rw[List.mem_singleton] at hx
 subst hx
 exact⟨World.ownsRow_nil _ _ _ _,f7 _ _ _ _ _,fun k hk=>by cases hk⟩
 rw[List.pairwise_append]
 refine⟨h.apart,List.pairwise_singleton _ _,fun a _ b hb=>?_⟩
 rw[List.mem_singleton] at hb
 subst hb
 exact fun k _ hk=>by cases hk
variable{P:Program}{o:Oper}{ρ:Operand->Value}{W:World}
def enC(e:EnD):List Value:=[.string e.1,.int .i64 (e.2.1:Int),.int .i64 e.2.2]
theorem aQ(e:EnD):(enC e).length=3:=rfl
theorem cR{l:List EnD}{k:Nat}(h:k<l.length):l[k]? =some (l.getD k en0):=by rw[List.getD_eq_getElem?_getD,List.getElem?_eq_getElem h];rfl
def g6(A:Option Addr)(n c:Nat)(ls:List EnD)(w:World)(e:Ending)(w':World):Prop:=e= .returned (.tuple #[])/\St w (Value.ownBlock (.slice A n c)).toList [eO 89 3 (.slice A n c) n (ls.flatMap enC)] w'
theorem St.lentRw{w:World}{e:TypeId}{sz n:Nat}{v:Value}{xs:List Value}(h:w.ownsRow 0 e sz v n xs):St w v.ownBlock.toList [eO e sz v n xs] w:=
 St.lend (E:=eO e sz v n xs) h (f7 _ _ _ _ _) (fun k hk=>eF h k (by simpa[eO] using hk))
def jw(L:List EnD)(i:Nat):List EnD:=(List.range L.length).map fun k=>if k<i\/L.length<=k+i then L.getD (L.length-1-k) en0 else L.getD k en0
theorem jo(L:List EnD)(i:Nat):(jw L i).length=L.length:=by simp[jw]
theorem jy{L:List EnD}{i k:Nat}(h:k<L.length):(jw L i)[k]? =some (if k<i\/L.length<=k+i then L.getD (L.length-1-k) en0 else L.getD k en0):=by simp[jw,h]
theorem Im(L:List EnD):jw L 0=L:=by
 apply List.ext_getElem?
 intro k
 rcases Nat.lt_or_ge k L.length with h|h
 rw[jy h,if_neg (by omega),cR h]
 rw[List.getElem?_eq_none (by rw[jo];exact h),List.getElem?_eq_none h]
theorem CR{L:List EnD}{i:Nat}(h:L.length<=i+i+1):jw L i=L.reverse:=by
 apply List.ext_getElem?
 intro k
 rcases Nat.lt_or_ge k L.length with hk|hk
 rw[jy hk,List.getElem?_reverse hk,cR (show L.length-1-k<L.length by omega)]
 split
 rfl
 congr 2;omega
 rw[List.getElem?_eq_none (by rw[jo];exact hk),List.getElem?_eq_none (by rw[List.length_reverse];exact hk)]
theorem A5{L:List EnD}{i j:Nat}(h:i+j+1=L.length)(hij:i<j):((jw L i).set i (L.getD j en0)).set j (L.getD i en0)=jw L (i+1):=by
 apply List.ext_getElem?
 intro k
 rcases Nat.lt_or_ge k L.length with hk|hk
 rw[jy hk,List.getElem?_set,List.getElem?_set]
 simp only[List.length_set,jo]
 by_cases h1:j=k
 rw[if_pos h1,if_pos (by omega),if_pos (by omega)];congr 2;omega
 rw[if_neg h1]
 by_cases h2:i=k
 rw[if_pos h2,if_pos (by omega),if_pos (by omega)];congr 2;omega
 rw[if_neg h2,jy hk]
 by_cases h3:k<i\/L.length<=k+i
 rw[if_pos h3,if_pos (by omega)]
 rw[if_neg h3,if_neg (by omega)]
 rw[List.getElem?_eq_none (by simp only[List.length_set,jo];exact hk),List.getElem?_eq_none (by rw[jo];exact hk)]
def inL(S:List EnD)(x:EnD)(j:Nat)(R:List EnD):List EnD:=S.take j++x::(S.drop j++R)
theorem tT{S:List EnD}{x:EnD}{j:Nat}{R:List EnD}(h:j<=S.length):(inL S x j R).length=S.length+1+R.length:=by
 rw[inL,List.length_append,List.length_cons,List.length_append,List.length_take,List.length_drop];omega
theorem vX{S:List EnD}{x:EnD}{j:Nat}{R:List EnD}(h:j<=S.length):(inL S x j R)[j]? =some x:=by
 rw[inL,List.getElem?_append_right (by rw[List.length_take];omega),List.length_take,Nat.min_eq_left h,Nat.sub_self];rfl
theorem yw{S:List EnD}{x:EnD}{j:Nat}{R:List EnD}(h:j<=S.length)(h0:0<j):(inL S x j R)[j-1]? =some (S.getD (j-1) en0):=by
 rw[inL,List.getElem?_append_left (by rw[List.length_take];omega),List.getElem?_take,if_pos (by omega),cR (by omega)]
theorem D2{S:List EnD}{x:EnD}{j:Nat}{R:List EnD}(h:j<=S.length)(h0:0<j):((inL S x j R).set j (S.getD (j-1) en0)).set (j-1) x=inL S x (j-1) R:=by
 apply List.ext_getElem?
 intro k
 have e:S.drop (j-1)=S.getD (j-1) en0::S.drop j:=by
  rw[List.drop_eq_getElem_cons (by omega),List.getD_eq_getElem?_getD,List.getElem?_eq_getElem (show j-1<S.length by omega),Nat.sub_add_cancel h0];rfl
 rw[List.getElem?_set,List.getElem?_set]
 simp only[List.length_set,tT h]
 by_cases h1:j-1=k
 rw[if_pos h1,if_pos (by omega),<-h1,vX (by omega)]
 rw[if_neg h1]
 by_cases h2:j=k
 rw[if_pos h2,if_pos (by omega),inL,List.getElem?_append_right (by rw[List.length_take];omega),List.length_take,Nat.min_eq_left (by omega),show k-(j-1)=1 by omega,e];rfl
 rw[if_neg h2,inL,inL,e]
 rcases Nat.lt_or_ge k (j-1) with h3|h3
 rw[List.getElem?_append_left (by rw[List.length_take];omega),List.getElem?_append_left (by rw[List.length_take];omega),List.getElem?_take,List.getElem?_take,if_pos (by omega),if_pos (by omega)]
 rw[List.getElem?_append_right (by rw[List.length_take];omega),List.getElem?_append_right (by rw[List.length_take];omega),List.length_take,List.length_take,Nat.min_eq_left (by omega),Nat.min_eq_left (by omega)]
 obtain⟨d,rfl⟩:∃d,k=j+1+d:=⟨k-(j+1),by omega⟩
 rw[show j+1+d-j=d+1 by omega,show j+1+d-(j-1)=d+1+1 by omega]
 rfl
def srL(L:List EnD)(i:Nat):List EnD:=(cY (L.take i).reverse).reverse
theorem tB{L:List EnD}{i:Nat}(h:i<=L.length):(srL L i).length=i:=by rw[srL,List.length_reverse,lH,List.length_reverse,List.length_take];omega
theorem FI(L:List EnD):srL L 1=L.take 1:=by
 rw[srL]
 cases L with
 |nil=>rfl
 |cons a l=>rfl
theorem FE{L:List EnD}{i:Nat}(h:L.length<=i):srL L i=(cY L.reverse).reverse:=by rw[srL,List.take_of_length_le h]
theorem C7{L:List EnD}{i j:Nat}(h:i<L.length)(hj:j<=i)(h1:∀y∈(srL L i).drop j,al (L.getD i en0).1 y.1=true)(h2:j=0\/al (L.getD i en0).1 ((srL L i).getD (j-1) en0).1=false):inL (srL L i) (L.getD i en0) j (L.drop (i+1))=srL L (i+1)++L.drop (i+1):=by
 have hl:=tB (Nat.le_of_lt h)
 have e:srL L (i+1)=(srL L i).take j++L.getD i en0::(srL L i).drop j:=by
  rw[srL,List.take_add_one,cR h,Option.toList,List.reverse_append]
  show (gQ (L.getD i en0) (cY (L.take i).reverse)).reverse= _
  refine y0 ?_ h1 fun y hy=>?_
  rw[<-List.reverse_append,List.take_append_drop,srL,List.reverse_reverse]
  rcases h2 with rfl|h2
  simp at hy
  rcases Nat.eq_zero_or_pos j with h0|h0
  subst h0;simp at hy
  rw[List.getLast?_eq_getElem?,List.length_take,Nat.min_eq_left (by omega),List.getElem?_take,if_pos (by omega),cR (by omega)] at hy
  rw[<-Option.some.inj hy];exact h2
 rw[e,inL,List.append_assoc];rfl
theorem HZ{L:List EnD}{i:Nat}(h:i<L.length):srL L i++L.drop i=inL (srL L i) (L.getD i en0) i (L.drop (i+1)):=by
 have hl:=tB (Nat.le_of_lt h)
 rw[inL,List.take_of_length_le (by omega),List.drop_of_length_le (l:=srL L i) (by omega),List.drop_eq_getElem_cons h,List.nil_append,List.getD_eq_getElem?_getD,List.getElem?_eq_getElem h];rfl
theorem F1{L:List EnD}{i:Nat}{M:Nat}(h:∀e∈L,e.1.size<=M)(k:Nat):((srL L i).getD k en0).1.size<=M:=by
 rcases Nat.lt_or_ge k (srL L i).length with hk|hk
 rw[List.getD_eq_getElem?_getD,List.getElem?_eq_getElem hk,Option.getD_some]
 have h1:(srL L i)[k]∈srL L i:=List.getElem_mem hk
 exact h _ (List.mem_of_mem_take (List.mem_reverse.1 (j3 (List.mem_reverse.1 h1))))
 rw[List.getD_eq_getElem?_getD,List.getElem?_eq_none hk]
 exact Nat.zero_le _
theorem b7{L:List EnD}{M:Nat}(h:∀e∈L,e.1.size<=M)(k:Nat):(L.getD k en0).1.size<=M:=by
 rcases Nat.lt_or_ge k L.length with hk|hk
 rw[List.getD_eq_getElem?_getD,List.getElem?_eq_getElem hk];exact h _ (List.getElem_mem hk)
 rw[List.getD_eq_getElem?_getD,List.getElem?_eq_none hk];exact Nat.zero_le _
theorem D6(A:Option Addr)(n c:Nat)(L:List EnD)(w:World)(hO:w.ownsRow 0 89 3 (.slice A n c) n (L.flatMap enC))(hn:L.length=n)(hnb:n<=100000)(h0:0<n):
  Calls Tryz.prog 121 #[.slice A n c] w (g6 A n c L.reverse w):=by
 have st0:=St.lentRw hO
 have hcap:=ft hO
 go_enter Tryz.func121,Tryz.ntmps121
 have ar:=st0
 refine wp_seq (sqr (sqp [.m 4 0,.k 5 (vi ((n:Int))),sI 6 ((n:Int)-1) (by omega),.k 2 (vi 0),.m 3 6] ?_))
 refine aa (wp_block ?_)
 obtain⟨z6_,IE⟩:∃z,(n:Int)-1=z:=⟨_,rfl⟩
 rw[IE]
 obtain rfl:z6_=((n-1:Nat):Int):=by omega
 rw[<-Im L] at ar
 refine aL (fun t_ mz az W=>∃i:Nat,∃j:Nat,i+j+1=n/\mz=j+1/\az=⟨(ovr (jv az) [(2,2,0,[vi ((i:Int)),vi ((j:Int))]),(3,7,21,[])] t_).toArray,[]⟩/\St w (Value.ownBlock (.slice A n c)).toList [eO 89 3 (.slice A n c) n ((jw L i).flatMap enC)] W) (((n-1))+1) ?_ ?_
 exact⟨0,(n-1),by omega,rfl,(by kernel_rfl),ar.pk [0]⟩
 rintro n7 a7 W7 ⟨i,j,hij,rfl,hj_,bD⟩
 refine ovz hj_ fun E5=>?_
 refine wp_seq (wp_seq (sqr (sqp [.m 7 2,.m 8 3,.k 9 (.bool (decide ((i:Int)<(j:Int))))] ?_)))
 refine aa (wds (fun xc sy=>?_) fun xc sy=>?_)
 refine wp_skip (aa (wp_seq (wp_block ?_)))
 have hrl_:=jo L i
 refine ak [0,0,0,0,0,0,48,112,0,0,768,1792,4083,8179,16383,32767] [[],[],[],[],[],[],[0],[0],[],[],[0],[0],[0],[0],[1],[1]] [[],[],[],[],[],[],[],[],[],[],[],[],[],[1],[],[2]] [[],[],[],[],[],[],[],[],[],[],[],[],[],[0],[],[1]] [.k 14 (.slice A n c),.k 15 (vi ((i:Int))),.k 16 (.slice A n c),.k 17 (vi ((j:Int))),.k 18 (.slice A n c),.k 19 (vi ((j:Int))),.c 20 (.pointer (some ((ad A).add (j*3)))),.c 21 (.agg #[.string ((L.getD j en0).1),vi (((L.getD j en0).2.1:Int)),vi ((L.getD j en0).2.2)]),.k 22 (.slice A n c),.k 23 (vi ((i:Int))),.c 24 (.pointer (some ((ad A).add (i*3)))),.c 25 (.agg #[.string ((L.getD i en0).1),vi (((L.getD i en0).2.1:Int)),vi ((L.getD i en0).2.2)]),.c 26 (.pointer (some ((ad A).add (i*3)))),.n,.c 27 (.pointer (some ((ad A).add (j*3)))),.n] (fun ix b a X=>match ix with|0|1|2|3|4|5|6|7|8|9|10|11|12=>True|13=>X 1=eO 89 3 (.slice A n c) n (((jw L i).set i (L.getD j en0)).flatMap enC)|14=>True|15=>X 2=eO 89 3 (.slice A n c) n ((((jw L i).set i (L.getD j en0)).set j (L.getD i en0)).flatMap enC)|_=>True) [2] [6,7,10,11,12,13,14,15] [(14,0,15,28)] bD ?_ ?_ ?_
 exact fun ix _ _ _ _ _ _ hs hb hx h=>match ix,h with
 |13,h=>by dsimp only;rw[<-hx 1 rfl];exact h
 |15,h=>by dsimp only;rw[<-hx 2 rfl];exact h
 |0,_|1,_|2,_|3,_|4,_|5,_|6,_|7,_|8,_|9,_|10,_|11,_|12,_|14,_|_+16,_=>trivial
 refine⟨?_,?_,?_,?_,?_,?_,?_,?_,trivial⟩
 exact xs4 rfl id fun cx=>aH (e:=89) (m:=j) (sz:=3) rfl (by kernel_rfl) (by kernel_rfl) (cx.an 4) (cx.an 5) (by omega) (by omega) (At.of_ownN (cx.ri 0 rfl)) (bq (sz:=3) aQ (by decide) (by first|omega|(simp only[List.length_set];omega)))
 exact xs4 rfl id fun cx=>aZ (f:=enC) (m:=j) (sz:=3) (off:=0) (n:=3) rfl (by kernel_rfl) (by kernel_rfl) (cx.an 6) rfl aQ (At.of_ownN (cx.ri 0 rfl)) (by rw[jy (by omega),if_neg (by omega)]) (fun k hk=>match k,hk with|0,_=>rfl|1,_=>rfl|2,_=>rfl|k+3,hk=>absurd hk (by omega))
 exact xs4 rfl id fun cx=>aH (e:=89) (m:=i) (sz:=3) rfl (by kernel_rfl) (by kernel_rfl) (cx.an 8) (cx.an 9) (by omega) (by omega) (At.of_ownN (cx.ri 0 rfl)) (bq (sz:=3) aQ (by decide) (by first|omega|(simp only[List.length_set];omega)))
 exact xs4 rfl id fun cx=>aZ (f:=enC) (m:=i) (sz:=3) (off:=0) (n:=3) rfl (by kernel_rfl) (by kernel_rfl) (cx.an 10) rfl aQ (At.of_ownN (cx.ri 0 rfl)) (by rw[jy (by omega),if_neg (by omega)]) (fun k hk=>match k,hk with|0,_=>rfl|1,_=>rfl|2,_=>rfl|k+3,hk=>absurd hk (by omega))
 exact xs4 rfl id fun cx=>aH (e:=89) (m:=i) (sz:=3) rfl (by kernel_rfl) (by kernel_rfl) (cx.an 0) (cx.an 1) (by omega) (by omega) (At.of_ownN (cx.ri 0 rfl)) (bq (sz:=3) aQ (by decide) (by first|omega|(simp only[List.length_set];omega)))
 refine svA fun ρ a W X cx=>?_
 exact fM (m:=i*3) (n:=n) (sz:=3) (k:=3) rfl (cx.an 12) (cx.an 7) (by kernel_rfl) (by kernel_rfl) (by kernel_rfl) cx (cx.init 0 _ rfl) rfl (by omega) (by decide) rfl (iE aQ (ts:=(jw L i)) (m:=i) (by first|omega|(simp only[List.length_set];omega)) (L.getD j en0)) rfl rfl (fun _ _ _ _ _=>id)
 exact xs4 rfl id fun cx=>aH (e:=89) (m:=j) (sz:=3) rfl (by kernel_rfl) (by kernel_rfl) (cx.an 2) (cx.an 3) (by omega) (by omega) (At.of_ownN (cx.row (dTn (cx.an 13)) rfl)) (bq (sz:=3) aQ (by decide) (by first|omega|(simp only[List.length_set];omega)))
 refine svA fun ρ a W X cx=>?_
 exact fM (m:=j*3) (n:=n) (sz:=3) (k:=3) rfl (cx.an 14) (cx.an 11) (by kernel_rfl) (by kernel_rfl) (by kernel_rfl) cx (dTn (cx.an 13)) rfl (by omega) (by decide) rfl (iE aQ (ts:=((jw L i).set i (L.getD j en0))) (m:=j) (by first|omega|(simp only[List.length_set];omega)) (L.getD i en0)) rfl rfl (fun _ _ _ _ _=>id)
 intro b a X mH hD bU fr ag
 simp only[exq 2 ((dTn (hD 15 lq)))] at bU
 clear hD;subst ag;clear b a X
 refine ax (aa (sqr (sqp [.m 10 2,sI 11 ((i:Int)+1) (by omega),.m 12 3,sI 13 ((j:Int)-1) (by omega),.m 2 11,.m 3 13] ?_)))
 refine aa ?_
 rw[A5 (by omega) (by omega)] at bU
 rw[show ((j:Int)-1)=((j-1:Nat):Int) by omega]
 refine⟨((j-1))+1,by omega,?_⟩
 exact⟨(i+1),(j-1),by omega,rfl,(by kernel_rfl),bU.pk [0]⟩
 refine wp_exit (aj (aj (aO ?_)))
 refine bpe (.tuple #[]) (by simp[results,Tryz.results121,go_sem]) ?_
 rw[CR (by omega)] at bD;exact⟨rfl,bD⟩
theorem C5(a b:ByteArray)(p q r s:Int)(w:World)(ha:a.size<=1000000)(hb:b.size<=1000000):
  Calls Tryz.prog 123 #[.agg #[.string a,.int .i64 p,.int .i64 q],.agg #[.string b,.int .i64 r,.int .i64 s]] w (Ret (.int .i64 (iT a b)) w):=by
 go_enter Tryz.func123,Tryz.ntmps123
 have ar:=St.start w
 refine wp_seq (sqr ?_)
 refine bZ #[.string a,vi p,vi q] ar fun bW W1 aE=>?_
 refine bZ #[.string b,vi r,vi s] aE fun mn W2 aN=>?_
 refine sqp [.k 4 (vi 0)] ?_
 refine aa (wp_seq (sqr (sqp [.k 5 (vp bW)] ?_)))
 refine am 0 aN ?_
 refine sqp [.k 7 (vp mn)] ?_
 refine am 1 aN ?_
 refine sqk (vi (iT a b)) aN (fun cx=>⟨_,v7 a b _ (by omega) (by omega),(aI (cx.ou 6) (cx.ou 8))⟩) fun W8 bj=>?_
 refine sqp [.m 4 9] ?_
 refine aa (wp_ret ?_)
 refine bpr (vi (iT a b)) (ai Tryz.results123 rpt) ?_
 exact Ret.of rfl bj.ext
theorem C9(A:Option Addr)(n c:Nat)(L:List EnD)(w:World)(hO:w.ownsRow 0 89 3 (.slice A n c) n (L.flatMap enC))(hn:L.length=n)(hnb:n<=100000)(hsz:∀e∈L,e.1.size<=1000000):
  Calls Tryz.prog 137 #[.slice A n c,.int .i64 0,.int .i64 ((n:Int)),.func (.func 123) #[] #[]] w (g6 A n c (cY L.reverse).reverse w):=by
 have st0:=St.lentRw hO
 have hcap:=ft hO
 go_enter Tryz.func137,Tryz.ntmps137
 have ar:=st0
 refine wp_seq (sqr (sqp [.m 10 1,.k 11 (vi 1),.m 8 11] ?_))
 refine aa (wp_block ?_)
 have h1_:L.flatMap enC=(srL L 1++L.drop 1).flatMap enC:=by rw[FI,List.take_append_drop]
 rw[h1_] at ar
 refine aL (fun t_ mz az W=>∃i:Nat,1<=i/\i<=max 1 n/\mz=n-i/\az=⟨(ovr (jv az) [(8,8,0,[vi ((i:Int))]),(0,9,1,[]),(2,12,41,[])] t_).toArray,[]⟩/\St w (Value.ownBlock (.slice A n c)).toList [eO 89 3 (.slice A n c) n ((srL L i++L.drop i).flatMap enC)] W) (n-1) ?_ ?_
 exact⟨1,Nat.le_refl _,by omega,rfl,(by kernel_rfl),ar.pk [0]⟩
 rintro n4 a4 W4 ⟨i,hi,hin,rfl,hj_,bR⟩
 refine ovz hj_ fun N5=>?_
 refine wp_seq (wp_seq (sqr (sqp [.m 12 8,.m 13 2,.k 14 (.bool (decide ((i:Int)<(n:Int))))] ?_)))
 refine aa (wds (fun sm nu=>?_) fun sm nu=>?_)
 refine wp_skip (aa (wp_seq (wp_block (wp_seq ?_))))
 have hsl:=tB (L:=L) (i:=i) (by omega)
 rw[HZ (by omega)] at bR
 have hxz:=b7 hsz i
 have hyz:=F1 (i:=i) hsz
 have hdl:(L.drop (i+1)).length=n-(i+1):=by rw[List.length_drop,hn]
 obtain⟨x,oP⟩:∃z,L.getD i en0=z:=⟨_,rfl⟩
 rw[oP] at hxz bR
 refine sqr (sqp [.m 17 8,.m 9 17] ?_)
 refine aa (wp_block ?_)
 refine aL (fun t_ mz az W=>∃j:Nat,j<=i/\(∀y∈(srL L i).drop j,al x.1 y.1=true)/\mz=j+1/\az=⟨(ovr (jv az) [(9,9,0,[vi ((j:Int))]),(8,18,35,[])] t_).toArray,[]⟩/\St w (Value.ownBlock (.slice A n c)).toList [eO 89 3 (.slice A n c) n ((inL (srL L i) x j (L.drop (i+1))).flatMap enC)] W) (i+1) ?_ ?_
 exact⟨i,Nat.le_refl _,(by rw[List.drop_of_length_le (by omega)];exact fun _ hy=>nomatch hy),rfl,(by kernel_rfl),bR.pk [0]⟩
 rintro IF a11 oK ⟨j,hj,hj2,rfl,hj_,bY⟩
 refine ovz hj_ fun Em=>?_
 refine wp_seq (wp_seq ?_)
 have hil_:=tT (S:=srL L i) (x:=x) (j:=j) (R:=L.drop (i+1)) (by omega)
 refine br [0,0,3,7,15,15,15,111,239,15,15,1039,3599,7695,16383,32767,65535] [[],[],[],[],[],[],[],[0],[0],[],[],[],[0],[0]] [.k 18 (vi ((j:Int))),.k 19 (vi 0),.k 20 (.bool (decide (0<(j:Int)))),.k 21 (.bool (decide (0<(j:Int)))),.z 22 (decide (0<(j:Int))) (.func (.func 123) #[] #[]),.z 23 (decide (0<(j:Int))) (.slice A n c),.z 24 (decide (0<(j:Int))) (vi ((j:Int))),.y 25 (decide (0<(j:Int))) (.pointer (some ((ad A).add (j*3)))),.y 26 (decide (0<(j:Int))) (.agg #[.string ((x).1),vi (((x).2.1:Int)),vi ((x).2.2)]),.z 27 (decide (0<(j:Int))) (.slice A n c),.z 28 (decide (0<(j:Int))) (vi ((j:Int))),.y 29 (decide (0<(j:Int))) (vi ((j:Int)-1)),.y 30 (decide (0<(j:Int))) (.pointer (some ((ad A).add ((j-1)*3)))),.y 31 (decide (0<(j:Int))) (.agg #[.string (((srL L i).getD (j-1) en0).1),vi ((((srL L i).getD (j-1) en0).2.1:Int)),vi (((srL L i).getD (j-1) en0).2.2)]),.y 32 (decide (0<(j:Int))) (vi (iT ((x).1) (((srL L i).getD (j-1) en0).1))),.z 33 (decide (0<(j:Int))) (.bool (decide (iT ((x).1) (((srL L i).getD (j-1) en0).1)<0))),tA 34 (decide (0<(j:Int))) (decide (iT ((x).1) (((srL L i).getD (j-1) en0).1)<0))] [0] [7,8,11,12,13,14] [(18,0,17,35)] bY ?_ fun mH bU=>?_
 refine⟨?_,?_,?_,?_,?_,?_,trivial⟩
 exact m2 rfl (fun _ _ _ h=>h) (fun cx=>(cx.an 3)) fun cx hq=>aH (e:=89) (m:=j) (sz:=3) rfl (by kernel_rfl) (by kernel_rfl) (mbv (cx.an 5) hq) (mbv (cx.an 6) hq) (by have hq_:=hq;simp only[zB] at hq_;omega) (by have hq_:=hq;simp only[zB] at hq_;omega) (At.of_ownN (cx.ri 0 rfl)) (bq (sz:=3) aQ (by decide) (by first|omega|(simp only[List.length_set];omega)))
 exact m2 rfl (fun _ _ _ h=>h) (fun cx=>(cx.an 3)) fun cx hq=>aZ (f:=enC) (m:=j) (sz:=3) (off:=0) (n:=3) rfl (by kernel_rfl) (by kernel_rfl) (mbv (cx.an 7) hq) rfl aQ (At.of_ownN (cx.ri 0 rfl)) (vX (by have hq_:=hq;simp only[zB] at hq_;omega)) (fun k hk=>match k,hk with|0,_=>rfl|1,_=>rfl|2,_=>rfl|k+3,hk=>absurd hk (by have hq_:=hq;simp only[zB] at hq_;omega))
 exact m2 rfl (fun _ _ _ h=>h) (fun cx=>(cx.an 3)) fun cx hq=>ji rfl (mbv (cx.an 10) hq) (cx.co _) (congrArg (fun z=>some (Value.int .i64 z)) ((IntWalk.i64_in _ (by have hq_:=hq;simp only[zB] at hq_;omega)).trans (by have hq_:=hq;simp only[zB] at hq_;omega)))
 exact m2 rfl (fun _ _ _ h=>h) (fun cx=>(cx.an 3)) fun cx hq=>aH (e:=89) (m:=j-1) (sz:=3) rfl (by kernel_rfl) (by kernel_rfl) (mbv (cx.an 9) hq) (mbv (cx.an 11) hq) (by have hq_:=hq;simp only[zB] at hq_;omega) (by have hq_:=hq;simp only[zB] at hq_;omega) (At.of_ownN (cx.ri 0 rfl)) (bq (sz:=3) aQ (by decide) (by first|omega|(simp only[List.length_set];omega)))
 exact m2 rfl (fun _ _ _ h=>h) (fun cx=>(cx.an 3)) fun cx hq=>aZ (f:=enC) (m:=(j-1)) (sz:=3) (off:=0) (n:=3) rfl (by kernel_rfl) (by kernel_rfl) (mbv (cx.an 12) hq) rfl aQ (At.of_ownN (cx.ri 0 rfl)) (yw (by have hq_:=hq;simp only[zB] at hq_;omega) (by have hq_:=hq;simp only[zB] at hq_;omega)) (fun k hk=>match k,hk with|0,_=>rfl|1,_=>rfl|2,_=>rfl|k+3,hk=>absurd hk (by have hq_:=hq;simp only[zB] at hq_;omega))
 exact m3 rfl (fun _ _ _ h=>h) (fun cx=>(cx.an 3)) fun cx hq=>⟨_,_,iF (f:=123) (args:=#[.agg #[.string ((x).1),vi (((x).2.1:Int)),vi ((x).2.2)],.agg #[.string (((srL L i).getD (j-1) en0).1),vi ((((srL L i).getD (j-1) en0).2.1:Int)),vi (((srL L i).getD (j-1) en0).2.2)]]) (args':=#[.agg #[.string ((x).1),vi (((x).2.1:Int)),vi ((x).2.2)],.agg #[.string (((srL L i).getD (j-1) en0).1),vi ((((srL L i).getD (j-1) en0).2.1:Int)),vi (((srL L i).getD (j-1) en0).2.2)]]) rfl rfl (mbv (cx.an 4) hq) (by kernel_rfl) (aI (mbv (cx.an 8) hq) (mbv (cx.an 13) hq)) rfl,C5 ((x).1) (((srL L i).getD (j-1) en0).1) _ _ _ _ _ hxz (hyz _)⟩
 refine aa (wbs (fun du=>?_) fun du=>?_)
 have fz:=du
 simp only[zB] at fz
 obtain⟨IG,IH⟩:=fz
 refine wp_skip (aa (wp_seq (wp_block ?_)))
 have hil_:=tT (S:=srL L i) (x:=x) (j:=j) (R:=L.drop (i+1)) (by omega)
 refine ak [0,0,0,0,8,0,0,64,224,480,0,0,3072,7168,16355,32739,65535,131071] [[],[],[],[],[],[],[],[],[0],[0],[],[],[0],[0],[0],[0],[1],[1]] [[],[],[],[],[],[],[],[],[],[],[],[],[],[],[],[1],[],[2]] [[],[],[],[],[],[],[],[],[],[],[],[],[],[],[],[0],[],[1]] [.k 37 (.slice A n c),.k 38 (vi ((j:Int))),.k 39 (.slice A n c),.k 40 (vi ((j:Int))),tI 41 ((j:Int)-1) (by omega),.k 42 (.slice A n c),.k 43 (vi ((j:Int))),tI 44 ((j:Int)-1) (by omega),.c 45 (.pointer (some ((ad A).add ((j-1)*3)))),.c 46 (.agg #[.string (((srL L i).getD (j-1) en0).1),vi ((((srL L i).getD (j-1) en0).2.1:Int)),vi (((srL L i).getD (j-1) en0).2.2)]),.k 47 (.slice A n c),.k 48 (vi ((j:Int))),.c 49 (.pointer (some ((ad A).add (j*3)))),.c 50 (.agg #[.string ((x).1),vi (((x).2.1:Int)),vi ((x).2.2)]),.c 51 (.pointer (some ((ad A).add (j*3)))),.n,.c 52 (.pointer (some ((ad A).add ((j-1)*3)))),.n] (fun ix b a X=>match ix with|0|1|2|3|4|5|6|7|8|9|10|11|12|13|14=>True|15=>X 1=eO 89 3 (.slice A n c) n (((inL (srL L i) x j (L.drop (i+1))).set j ((srL L i).getD (j-1) en0)).flatMap enC)|16=>True|17=>X 2=eO 89 3 (.slice A n c) n ((((inL (srL L i) x j (L.drop (i+1))).set j ((srL L i).getD (j-1) en0)).set (j-1) (x)).flatMap enC)|_=>True) [2] [8,9,12,13,14,15,16,17] [(37,0,17,53)] bU ?_ ?_ ?_
 exact fun ix _ _ _ _ _ _ hs hb hx h=>match ix,h with
 |15,h=>by dsimp only;rw[<-hx 1 rfl];exact h
 |17,h=>by dsimp only;rw[<-hx 2 rfl];exact h
 |0,_|1,_|2,_|3,_|4,_|5,_|6,_|7,_|8,_|9,_|10,_|11,_|12,_|13,_|14,_|16,_|_+18,_=>trivial
 refine⟨?_,?_,?_,?_,?_,?_,?_,?_,trivial⟩
 exact xs4 rfl id fun cx=>aH (e:=89) (m:=j-1) (sz:=3) rfl (by kernel_rfl) (by kernel_rfl) (cx.an 5) (cx.an 7) (by omega) (by omega) (At.of_ownN (cx.ri 0 rfl)) (bq (sz:=3) aQ (by decide) (by first|omega|(simp only[List.length_set];omega)))
 exact xs4 rfl id fun cx=>aZ (f:=enC) (m:=(j-1)) (sz:=3) (off:=0) (n:=3) rfl (by kernel_rfl) (by kernel_rfl) (cx.an 8) rfl aQ (At.of_ownN (cx.ri 0 rfl)) (yw (by omega) (by omega)) (fun k hk=>match k,hk with|0,_=>rfl|1,_=>rfl|2,_=>rfl|k+3,hk=>absurd hk (by omega))
 exact xs4 rfl id fun cx=>aH (e:=89) (m:=j) (sz:=3) rfl (by kernel_rfl) (by kernel_rfl) (cx.an 10) (cx.an 11) (by omega) (by omega) (At.of_ownN (cx.ri 0 rfl)) (bq (sz:=3) aQ (by decide) (by first|omega|(simp only[List.length_set];omega)))
 exact xs4 rfl id fun cx=>aZ (f:=enC) (m:=j) (sz:=3) (off:=0) (n:=3) rfl (by kernel_rfl) (by kernel_rfl) (cx.an 12) rfl aQ (At.of_ownN (cx.ri 0 rfl)) (vX (by omega)) (fun k hk=>match k,hk with|0,_=>rfl|1,_=>rfl|2,_=>rfl|k+3,hk=>absurd hk (by omega))
 exact xs4 rfl id fun cx=>aH (e:=89) (m:=j) (sz:=3) rfl (by kernel_rfl) (by kernel_rfl) (cx.an 0) (cx.an 1) (by omega) (by omega) (At.of_ownN (cx.ri 0 rfl)) (bq (sz:=3) aQ (by decide) (by first|omega|(simp only[List.length_set];omega)))
 refine svA fun ρ a W X cx=>?_
 exact fM (m:=j*3) (n:=n) (sz:=3) (k:=3) rfl (cx.an 14) (cx.an 9) (by kernel_rfl) (by kernel_rfl) (by kernel_rfl) cx (cx.init 0 _ rfl) rfl (by omega) (by decide) rfl (iE aQ (ts:=(inL (srL L i) x j (L.drop (i+1)))) (m:=j) (by first|omega|(simp only[List.length_set];omega)) ((srL L i).getD (j-1) en0)) rfl rfl (fun _ _ _ _ _=>id)
 exact xs4 rfl id fun cx=>aH (e:=89) (m:=j-1) (sz:=3) rfl (by kernel_rfl) (by kernel_rfl) (cx.an 2) (cx.an 4) (by omega) (by omega) (At.of_ownN (cx.row (dTn (cx.an 15)) rfl)) (bq (sz:=3) aQ (by decide) (by first|omega|(simp only[List.length_set];omega)))
 refine svA fun ρ a W X cx=>?_
 exact fM (m:=(j-1)*3) (n:=n) (sz:=3) (k:=3) rfl (cx.an 16) (cx.an 13) (by kernel_rfl) (by kernel_rfl) (by kernel_rfl) cx (dTn (cx.an 15)) rfl (by omega) (by decide) rfl (iE aQ (ts:=((inL (srL L i) x j (L.drop (i+1))).set j ((srL L i).getD (j-1) en0))) (m:=(j-1)) (by first|omega|(simp only[List.length_set];omega)) (x)) rfl rfl (fun _ _ _ _ _=>id)
 intro b a X kb hD bm fr ag
 simp only[exq 2 ((dTn (hD 17 lq)))] at bm
 clear hD;subst ag;clear b a X
 refine ax (aa (sqr (sqp [.m 35 9,sI 36 ((j:Int)-1) (by omega),.m 9 36] ?_)))
 refine aa ?_
 have hlt_:al x.1 ((srL L i).getD (j-1) en0).1=true:=by have h_:=du;rw[Bool.and_eq_true] at h_;rw[<-oF];exact h_.2
 rw[D2 (by omega) (by omega)] at bm
 rw[show ((j:Int)-1)=((j-1:Nat):Int) by omega]
 refine⟨((j-1))+1,by omega,?_⟩
 exact⟨(j-1),by omega,(uD (m:=j-1) (by omega) (by rw[Nat.sub_add_cancel (by omega)];exact hj2) hlt_),rfl,(by kernel_rfl),bm.pk [0]⟩
 have fz:=du
 simp only[zB] at fz
 refine wp_exit (aj (aj (aO (ax (aa ?_)))))
 have hcut:j=0\/al x.1 ((srL L i).getD (j-1) en0).1=false:=by
  rcases Nat.eq_zero_or_pos j with h0|h0
  exact .inl h0
  refine .inr ?_
  have h_:=du
  rw[Bool.and_eq_false_iff] at h_
  rcases h_ with h_|h_
  exact absurd (of_decide_eq_false h_) (by omega)
  rw[<-oF];exact h_
 rw[<-oP] at hj2 hcut bU
 rw[C7 (by omega) hj hj2 hcut] at bU
 refine sqr (sqp [.m 15 8,sI 16 ((i:Int)+1) (by omega),.m 8 16] ?_)
 refine aa ?_
 refine⟨n-((i+1)),by omega,?_⟩
 exact⟨(i+1),by omega,by omega,rfl,(by kernel_rfl),bU.pk [0]⟩
 refine wp_exit (aj (aj (aO ?_)))
 refine bpe (.tuple #[]) (by simp[results,Tryz.results137,go_sem]) ?_
 rw[FE (by omega),List.drop_of_length_le (by omega),List.append_nil] at bR;exact⟨rfl,bR⟩
theorem Bo(A:Option Addr)(n c:Nat)(L:List EnD)(w:World)(hO:w.ownsRow 0 89 3 (.slice A n c) n (L.flatMap enC))(hn:L.length=n)(hnb:n<=100000)(hsz:∀e∈L,e.1.size<=1000000)(hn19:n<=19):
  Calls Tryz.prog 135 #[.slice A n c,.int .i64 ((n:Int)),.func (.func 123) #[] #[]] w (g6 A n c (cY L.reverse).reverse w):=by
 have st0:=St.lentRw hO
 have hcap:=ft hO
 go_enter Tryz.func135,Tryz.ntmps135
 have ar:=st0
 refine wp_seq (sqr (sqp [.k 6 (vi 20)] ?_))
 refine aa (wp_seq (sqr (sqp [.m 10 6,.k 7 (vi 0),.m 8 10] ?_)))
 refine aa (wp_seq (wp_block ?_))
 refine aL (fun t_ mz az W=>True/\mz=0/\az=⟨(ovr (jv az) [(11,11,12,[])] t_).toArray,[]⟩/\St w (Value.ownBlock (.slice A n c)).toList [eO 89 3 (.slice A n c) n (L.flatMap enC)] W) (0) ?_ ?_
 exact⟨trivial,rfl,(by kernel_rfl),ar.pk [0]⟩
 rintro n5 a5 W5 ⟨-,rfl,hj_,bw⟩
 refine ovz hj_ fun Cf=>?_
 refine wp_seq (wp_seq (sqr ?_))
 have hd9:(decide (20<=(n:Int)))=false:=(decide_eq_false (by omega))
 refine sqp [.m 11 8,.m 12 1,.e 13 (.bool (decide (20<=(n:Int)))) (.bool false) (congrArg Value.bool hd9)] ?_
 refine aa (wcf rfl (wp_exit (aj (aj (aO (aa (wp_seq (sqr (sqp [.m 23 0,.m 24 7,.m 25 1,.m 26 2] ?_)))))))))
 refine jh (.tuple #[]) (eO 89 3 (.slice A n c) n (((cY L.reverse).reverse).flatMap enC)) 0 bw (by
   refine svA fun ρ d W X cx=>?_
   refine aC.call (aB (args:=#[.slice A n c,vi 0,vi ((n:Int)),.func (.func 123) #[] #[]]) rfl cx.sees rfl (by kernel_rfl) (vY (cx.ou 23) (cx.ou 24) (cx.ou 25) (cx.ou 26))) ?_
   refine(C9 A n c L _ (cx.ri 0 rfl) hn hnb hsz).mono ?_
   rintro e W1 ⟨rfl,aM⟩
   refine⟨_,rfl,bJ (E:=eO 89 3 (.slice A n c) n (L.flatMap enC)) [eO 89 3 (.slice A n c) n (((cY L.reverse).reverse).flatMap enC)] (cx.init 0 _ rfl) rfl rfl aM (fun b a X' hs hb hv hN=>?_)⟩
   have aW:=(hv 27 rfl).1;have aG:=(hv 27 rfl).2
   exact⟨aW.trans rfl,(List.cons.inj hN).1⟩) fun kb bm=>?_
 refine aa (wp_block ?_)
 refine aL (fun t_ mz az W=>True/\mz=0/\az=⟨(ovr (jv az) [(7,7,3,[]),(18,28,35,[])] t_).toArray,[]⟩/\St w (Value.ownBlock (.slice A n c)).toList [eO 89 3 (.slice A n c) n (((cY L.reverse).reverse).flatMap enC)] W) (0) ?_ ?_
 exact⟨trivial,rfl,(by kernel_rfl),bm.pk [0]⟩
 rintro Re a15 oM ⟨-,rfl,hj_,cc⟩
 refine ovz hj_ fun P8=>?_
 refine wp_seq (wp_seq (sqr ?_))
 have hd19:(decide (20<(n:Int)))=false:=(decide_eq_false (by omega))
 refine sqp [.m 28 6,.m 29 1,.e 30 (.bool (decide (20<(n:Int)))) (.bool false) (congrArg Value.bool hd19)] ?_
 refine aa (wcf rfl (wp_exit (aj (aj (aO ?_)))))
 refine bpe (.tuple #[]) (by simp[results,Tryz.results135,go_sem]) ?_
 exact⟨rfl,cc⟩
theorem AW(A:Option Addr)(n c:Nat)(L:List EnD)(w:World)(hO:w.ownsRow 0 89 3 (.slice A n c) n (L.flatMap enC))(hn:L.length=n)(hnb:n<=100000)(hsz:∀e∈L,e.1.size<=1000000)(hn19:n<=19):
  Calls Tryz.prog 122 #[.slice A n c,.func (.func 123) #[] #[]] w (g6 A n c (cY L.reverse).reverse w):=by
 have st0:=St.lentRw hO
 have hcap:=ft hO
 go_enter Tryz.func122,Tryz.ntmps122
 have ar:=st0
 refine sqr (sqp [.m 4 0,.m 5 0,.k 6 (vi ((n:Int))),.m 7 1] ?_)
 refine jh (.tuple #[]) (eO 89 3 (.slice A n c) n (((cY L.reverse).reverse).flatMap enC)) 0 ar (by
   refine svA fun ρ d W X cx=>?_
   refine aC.call (aB (args:=#[.slice A n c,vi ((n:Int)),.func (.func 123) #[] #[]]) rfl cx.sees rfl (by kernel_rfl) (dH (cx.ou 4) (cx.ou 6) (cx.ou 7))) ?_
   refine(Bo A n c L _ (cx.ri 0 rfl) hn hnb hsz hn19).mono ?_
   rintro e W1 ⟨rfl,aM⟩
   refine⟨_,rfl,bJ (E:=eO 89 3 (.slice A n c) n (L.flatMap enC)) [eO 89 3 (.slice A n c) n (((cY L.reverse).reverse).flatMap enC)] (cx.init 0 _ rfl) rfl rfl aM (fun b a X' hs hb hv hN=>?_)⟩
   have aW:=(hv 8 rfl).1;have aG:=(hv 8 rfl).2
   exact⟨aW.trans rfl,(List.cons.inj hN).1⟩) fun W5 bw=>?_
 refine bpe (.tuple #[]) (by simp[results,Tryz.results122,go_sem]) ?_
 exact⟨rfl,bw⟩
end
end Go.Proofs.YtjlcoglmjldjbaaGreat
import Derived.Test.YtjlcoglmjldjbaaZ1
import Derived.Deep.QuietTactic
import Derived.BigQuiet
set_option linter.unusedVariables false
set_option linter.unusedSimpArgs false
set_option maxRecDepth 100000
set_option maxHeartbeats 16000000
namespace Go.Proofs.Ytjlcoglmjldjbaa
section
open Go.RowKit
def ph(n:Int):Int:=max 0 (min n 8)
theorem oh(n:Int)(w:World):Calls Try.prog 90 #[.int .i64 n] w fun e w'=>e= .returned (.int .i64 (ph n))/\w=w':=by
 go_enter Try.func90,Try.ntmps90
 go_wp2
 all_goals
  go_ret
  exact⟨F3 (by unfold ph;omega),rfl⟩
def mD(n:Int):List Int:=[IntKind.u64.wrap n / 72057594037927936 % 256,IntKind.u64.wrap n / 281474976710656 % 256,IntKind.u64.wrap n / 1099511627776 % 256,IntKind.u64.wrap n / 4294967296 % 256,
 IntKind.u64.wrap n / 16777216 % 256,IntKind.u64.wrap n / 65536 % 256,IntKind.u64.wrap n / 256 % 256,IntKind.u64.wrap n % 256]
def mJ(n:Int)(k:Nat):ByteArray:=strOfNums ((mD n).drop (8-k))
theorem rp(n:Int)(k:Nat)(hk:k<=8)(m:Nat)(hm:m+k=8)(W:World)(B:Nat)(hB:B=W.heap.size)(w:World)(t:TypeId)(hw:w=W.alloc (.cells ((mD n).map (Value.int .u8)).toArray t)):
  (convert 97 9 (.slice (some ⟨B,m,none⟩) k k)).run Try.prog w= .ok (.string (mJ n k)) w:=by
 subst hB
 refine run_convert_bytes_arg _ 97 5 Try.underlying97 Try.underlying5 W.heap.size m k k ((mD n).drop (8-k)) (by rw[List.length_drop];show 8-(8-k)=k;omega) (fun i hi=>?_) 9 Try.underlying9
 rw[hw,World.cell?_alloc_at _ _ _ _ rfl]
 have hl:(mD n).length=8:=rfl
 have hlt:m+i<(mD n).length:=by omega
 rw[List.getElem?_toArray,List.getElem?_map,List.getElem?_eq_getElem hlt]
 have e:8-k=m:=by omega
 rw[e,List.getD_eq_getElem?_getD,List.getElem?_drop,List.getElem?_eq_getElem hlt]
 rfl
theorem oput1_any(n:Int)(w:World):Calls Try.prog 88 #[.int .i64 n,.int .i64 1] w (sU (.string (mJ n 1)) w):=by
 have hcv:=rp n 1 (by omega) 7 rfl w w.heap.size rfl _ 175 rfl
 simp only[mD,List.map_cons,List.map_nil] at hcv
 have hs:ph 1=1:=by decide
 go_enter Try.func88,Try.ntmps88
 go_wp2_with fail
 refine wp_loop_rounds 9 ?_
 rw[rounds_succ];go_wp2_with fail
 rw[rounds_succ];go_wp2_with fail
 rw[rounds_succ];go_wp2_with fail
 rw[rounds_succ];go_wp2_with fail
 rw[rounds_succ];go_wp2_with fail
 rw[rounds_succ];go_wp2_with fail
 rw[rounds_succ];go_wp2_with fail
 rw[rounds_succ];go_wp2_with fail
 rw[rounds_succ];go_wp2_with fail
 refine(oh _ _).mono ?_
 rw[hs]
 rintro e w1 ⟨rfl,rfl⟩
 clear hs
 go_wp2
 go_ret
 exact⟨rfl,(Ext.refl w).alloc _⟩
theorem AE(n:Int)(w:World):Calls Try.prog 88 #[.int .i64 n,.int .i64 2] w (sU (.string (mJ n 2)) w):=by
 have hcv:=rp n 2 (by omega) 6 rfl w w.heap.size rfl _ 175 rfl
 simp only[mD,List.map_cons,List.map_nil] at hcv
 have hs:ph 2=2:=by decide
 go_enter Try.func88,Try.ntmps88
 go_wp2_with fail
 refine wp_loop_rounds 9 ?_
 rw[rounds_succ];go_wp2_with fail
 rw[rounds_succ];go_wp2_with fail
 rw[rounds_succ];go_wp2_with fail
 rw[rounds_succ];go_wp2_with fail
 rw[rounds_succ];go_wp2_with fail
 rw[rounds_succ];go_wp2_with fail
 rw[rounds_succ];go_wp2_with fail
 rw[rounds_succ];go_wp2_with fail
 rw[rounds_succ];go_wp2_with fail
 refine(oh _ _).mono ?_
 rw[hs]
 rintro e w1 ⟨rfl,rfl⟩
 clear hs
 go_wp2
 go_ret
 exact⟨rfl,(Ext.refl w).alloc _⟩
end
section
open Go.RowKit
def Rd(t:TypeId)(w:World)(B:Nat)(s:ByteArray)(p:Nat)(f:Bool):Prop:=Blk w B t #[.string s,.int .i64 p,.bool f]/\p<=s.size/\s.size<=1000000
def Bg(t:TypeId)(v:Value)(B:Nat)(s:ByteArray)(p:Nat)(f:Bool)(w:World)(e:Ending)(w':World):Prop:=e= .returned v/\Rd t w' B s p f/\Upd [B] w w'
theorem De(B:Nat)(s:ByteArray)(p:Nat)(f:Bool)(w:World)(h:Rd 164 w B s p f):
  Calls Try.prog 102 #[.pointer (some ⟨B,0,none⟩)] w (sU (.int .i64 (s.size-p:Nat)) w):=by
 obtain⟨hb,hp,hs⟩:=h
 have c0:w.cell? ⟨B,0,none⟩=some (.string s):=hb.cell 0
 have c1:w.cell? ⟨B,1,none⟩=some (.int .i64 p):=hb.cell 1
 have e1:=Lib.hid (show (s.size:Int)-(p:Int)=((s.size-p:Nat):Int) by omega)
 clear hb
 go_enter Try.func102,Try.ntmps102
 go_wp2
 go_quiet (fail)
 go_wp2
 go_ret
 exact sU.int e1.out ((Ext.refl w).drewN _)
theorem G0(B:Nat)(s:ByteArray)(p n:Nat)(w:World)(h:Rd 164 w B s p false)(hn:p+n<=s.size):
  Calls Try.prog 89 #[.pointer (some ⟨B,0,none⟩),.int .i64 n] w (Bg 164 (.string (s.extract p (p+n))) B s (p+n) false w):=by
 obtain⟨hb,hp,hs⟩:=h
 have HB:=Lib.hid hb
 have c0:w.cell? ⟨B,0,none⟩=some (.string s):=hb.cell 0
 have c1:w.cell? ⟨B,1,none⟩=some (.int .i64 p):=hb.cell 1
 have c2:w.cell? ⟨B,2,none⟩=some (.bool false):=hb.cell 2
 clear hb
 go_enter Try.func89,Try.ntmps89
 go_wp2_with fail
 refine(De _ _ _ _ _ ⟨HB.out,hp,hs⟩).mono ?_
 rintro e w1 ⟨rfl,hx⟩
 have HB1:=Lib.hid (HB.out.ext hx)
 have X1:=Lib.hid hx
 clear hx c0 c1 c2
 have c0:w1.cell? ⟨B,0,none⟩=some (.string s):=HB1.out.cell 0
 have c1:w1.cell? ⟨B,1,none⟩=some (.int .i64 p):=HB1.out.cell 1
 have f1:=HB1.out.frozen 1
 have hlt:=HB1.out.lt
 have hn1:(n:Int)<=((s.size-p:Nat):Int):=by omega
 have e1:(0:Int)<=(p:Int)+(n:Int):=by omega
 have e2:(p:Int)+(n:Int)<=(s.size:Int):=by omega
 have e3:(p:Int)<=(p:Int)+(n:Int):=by omega
 go_wp2_with fail
 go_quiet (fail)
 go_wp2
 go_ret
 refine⟨rfl,⟨?_,hn,hs⟩,((Upd.of_ext X1.out).set (.inl (by simp)) _).drewN _⟩
 rw[show ((p+n:Nat):Int)=(p:Int)+(n:Int) by omega]
 exact(HB1.out.set_ 1 _).drewN _
def de(l:List UInt8):Nat:=l.foldl (fun n c=>n*256+c.toNat) 0
theorem nU(l:List UInt8)(c:UInt8):de (l++[c])=de l*256+c.toNat:=by rw[de,List.foldl_append];rfl
theorem yI(l:List UInt8):de l<256^l.length:=by
 have h:∀(l:List UInt8) (n:Nat),l.foldl (fun n c=>n*256+c.toNat) n<(n+1)*256^l.length:=by
  intro l
  induction l with
  |nil=>intro n;simp
  |cons c l ih=>
   intro n
   have h1:=ih (n*256+c.toNat)
   have h2:c.toNat<256:=UInt8.toNat_lt _
   have h3:(n*256+c.toNat+1)*256^l.length<=((n+1)*256)*256^l.length:=Nat.mul_le_mul_right _ (by omega)
   rw[List.foldl_cons,List.length_cons,Nat.pow_succ,Nat.mul_comm (256^l.length) 256,<-Nat.mul_assoc]
   omega
 have:=h l 0
 simpa[de] using this
def mP(s:ByteArray):List Value:=s.data.toList.map fun b=>Value.int .u8 b.toNat
theorem FZ(s:ByteArray)(w:World):∃cap w',(convert 9 97 (.string s)).run Try.prog w= .ok (.slice (some ⟨w.heap.size,0,none⟩) s.size cap) w'/\Ext w w'/\At w' (some ⟨w.heap.size,0,none⟩) (mP s)/\s.size<=cap:=by
 have hcut:s.size<=grownCap w s.size 0 5:=grownCap_ge w s.size 0 5
 refine⟨_,_,run_bytes_of_string w 9 97 5 s Try.underlying9 Try.underlying97 Try.underlying5,(Ext.refl w).drew.alloc _,?_,hcut⟩
 intro j u hj
 have hjl:j<s.data.toList.length:=by
  rcases Nat.lt_or_ge j s.data.toList.length with h|h
  exact h
  rw[mP,List.getElem?_eq_none (by simpa using h)] at hj;cases hj
 refine⟨_,rfl,by simp,?_⟩
 have hh:=heap_alloc_new w.drew (.cells (bytesRow s (grownCap w s.size 0 5)) 5 ((bytesRow s (grownCap w s.size 0 5)).size,(bytesRow s (grownCap w s.size 0 5)).size+1))
 have hh':(w.drew.alloc (.cells (bytesRow s (grownCap w s.size 0 5)) 5 ((bytesRow s (grownCap w s.size 0 5)).size,(bytesRow s (grownCap w s.size 0 5)).size+1))).heap[w.heap.size]? = _:=hh
 rw[Addr.add_lit,Nat.zero_add]
 unfold World.cell?
 rw[hh']
 show (bytesRow s (grownCap w s.size 0 5))[j]? =some u
 rw[bytesRow,Array.getElem?_append_left (by simpa using hjl),<-hj,mP]
 simp
theorem Ip(a b:Nat)(ha:a<4611686018427387904)(hb:b<4611686018427387904):bits .or .i64 (a:Int) (b:Int)=((a|||b:Nat):Int):=by
 have e:bits .or .i64 (a:Int) (b:Int)=IntKind.i64.wrap ((BitVec.ofInt 64 (a:Int)|||BitVec.ofInt 64 (b:Int)).toNat:Int):=rfl
 have h1:∀n:Nat,n<4611686018427387904->(BitVec.ofInt 64 (n:Int)).toNat=n:=fun n hn=>by
  rw[BitVec.ofInt_natCast,BitVec.toNat_ofNat,Nat.mod_eq_of_lt (by omega)]
 have h2:a|||b<2^62:=Nat.or_lt_two_pow (by omega) (by omega)
 rw[e,BitVec.toNat_or,h1 a ha,h1 b hb,IntKind.wrap_i64]
 omega
theorem Ir(a c:Nat)(hc:c<256):a*256|||c=a*256+c:=by
 have:=Nat.two_pow_add_eq_or_of_lt (i:=8) (b:=c) (by omega) a
 rw[Nat.mul_comm a 256]
 exact this.symm
def aI(s:ByteArray)(p k:Nat):Nat:=de (s.extract p (p+k)).data.toList
theorem mt(B:Nat)(s:ByteArray)(p k:Nat)(w:World)(h:Rd 164 w B s p false)(hk:k<=4)(hn:p+k<=s.size):
  Calls Try.prog 65 #[.pointer (some ⟨B,0,none⟩),.int .i64 k] w (Bg 164 (.int .i64 (aI s p k)) B s (p+k) false w):=by
 have H:=Lib.hid h;clear h
 have hsk:=Lib.hid (show ph k=k by unfold ph;omega)
 go_enter Try.func65,Try.ntmps65
 go_wp2_with fail
 refine(oh _ _).mono ?_
 rw[hsk.out]
 rintro e w1 ⟨rfl,rfl⟩
 go_wp2_with fail
 refine(G0 _ _ _ _ _ H.out hn).mono ?_
 rintro e w1 ⟨rfl,hr,hu⟩
 obtain⟨t,ht⟩:∃t,t=s.extract p (p+k):=⟨_,rfl⟩
 rw[<-ht]
 have htk:t.size=k:=by rw[ht,ByteArray.size_extract];omega
 have HT:=Lib.hid (show aI s p k=de t.data.toList by rw[aI,<-ht])
 have HK:=Lib.hid htk
 have HR:=Lib.hid hr
 have HU:=Lib.hid hu
 have hts:(t.size:Int)<=4:=by omega
 clear hr hu ht htk
 obtain⟨cap,w2,hcv,hx,hAt,hcap⟩:=FZ t w1
 have X2:=Lib.hid hx
 have HA:=Lib.hid hAt
 clear hx hAt
 go_wp2
 go_loop [5,14] (fun x v=>∃j:Nat,v= .int .i64 j/\j<=t.size/\x= .int .i64 (de (t.data.toList.take j))) (fun _ v=>t.size-(intOf v).toNat)
 case atStart=>exact⟨0,rfl,Nat.zero_le _,rfl⟩
 case round=>
  obtain⟨j,rfl,hj,rfl⟩:=hrel
  rcases Nat.lt_or_ge j t.size with hlt|hge
  ·have hb:=yI (t.data.toList.take j)
   have hlen:(t.data.toList.take j).length=j:=by simp;omega
   have h256:256^(t.data.toList.take j).length<=16777216:=by
    rw[hlen]
    exact Nat.le_trans (Nat.pow_le_pow_right (by omega) (show j<=3 by omega)) (by decide)
   have hsn:t.data.toList.take (j+1)=t.data.toList.take j++[t[j]]:=by rw[List.take_succ_eq_append_getElem (by simpa using hlt)];rfl
   have HN:=Lib.hid (show de (t.data.toList.take (j+1))=de (t.data.toList.take j)*256+t[j].toNat by rw[hsn,nU])
   have hcell:w2.cell? ⟨w1.heap.size,j,none⟩=some (.int .u8 t[j].toNat):=by
    obtain⟨ad,e,_,hc⟩:=HA.out j _ (by rw[mP,List.getElem?_map,List.getElem?_eq_getElem (by simpa using hlt)];rfl)
    injection e with e
    subst e
    rwa [Addr.add_lit,Nat.zero_add] at hc
   obtain⟨a,ha⟩:∃a,a=de (t.data.toList.take j):=⟨_,rfl⟩
   obtain⟨c,hc⟩:∃c,c=t[j].toNat:=⟨_,rfl⟩
   have hc8:c<256:=by rw[hc];exact UInt8.toNat_lt _
   rw[<-ha] at hb HN |-
   rw[<-hc] at HN hcell
   have ha1:(a:Int)<=16777216:=by omega
   have i1:(0:Int)<=(j:Int):=by omega
   have i2:(j:Int)<(t.size:Int):=by omega
   have HO:=Lib.hid (show bits .or .i64 ((a:Int)*256) (c:Int)=((a*256+c:Nat):Int) by
    rw[show ((a:Int)*256)=((a*256:Nat):Int) by omega,Ip _ _ (by omega) (by omega),Ir a c hc8])
   clear hsn hlen h256 hb ha hc
   go_wp2
   go_round
   case rel=>exact⟨j+1,by go_num,by omega,by rw[HN.out,HO.out]⟩
   case measure=>simp[intOf];omega
  obtain rfl:j=t.size:=by omega
  have e:t.data.toList.take t.size=t.data.toList:=List.take_of_length_le (by simp)
  rw[e]
  clear e
  go_wp2
  go_ret
  refine⟨?_,⟨HR.out.1.ext X2.out,HR.out.2.1,HR.out.2.2⟩,HU.out.ext X2.out⟩
  rw[HT.out]
  rfl
end
section
open Go.RowKit
def bl(s:ByteArray):List UInt8:=s.data.toList
def ww(l:List UInt8):ByteArray:=⟨l.toArray⟩
theorem cF(s:ByteArray):(bl s).length=s.size:=by simp[bl]
theorem yd(s:ByteArray):ww (bl s)=s:=by simp[bl,ww]
theorem yf(l:List UInt8):bl (ww l)=l:=by simp[bl,ww]
theorem cQ(a b:ByteArray):bl (a++b)=bl a++bl b:=by simp[bl,ByteArray.data_append]
theorem eP{a b:ByteArray}(h:bl a=bl b):a=b:=by rw[<-yd a,<-yd b,h]
theorem dc(s:ByteArray)(p q:Nat):bl (s.extract p q)=((bl s).drop p).take (q-p):=by
 simp[bl,ByteArray.data_extract]
theorem uv{α:Type}(a b c:List α)(p k:Nat)(hp:a.length=p)(hk:b.length=k):((a++(b++c)).drop p).take k=b:=by
 subst hp hk
 simp
theorem Fc{s:ByteArray}{a b c:List UInt8}(hs:bl s=a++(b++c)){p q:Nat}(hp:a.length=p)(hq:p+b.length=q):s.extract p q=ww b:=by
 apply eP
 rw[dc,yf,hs,uv a b c p (q-p) hp (by omega)]
theorem kj{s:ByteArray}{a b c:List UInt8}(hs:bl s=a++(b++c)){p k:Nat}(hp:a.length=p)(hk:b.length=k):aI s p k=de b:=by
 have h:bl (s.extract p (p+k))=b:=by rw[Fc hs hp (by rw[hk]),yf]
 exact congrArg de h
theorem v9:∀(n:Nat) (a b:List UInt8),a.length=n->b.length=n->de a=de b->a=b
 |0,a,b,ha,hb,_=>by rw[List.eq_nil_of_length_eq_zero ha,List.eq_nil_of_length_eq_zero hb]
 |n+1,a,b,ha,hb,h=>by
  rcases List.eq_nil_or_concat a with rfl|⟨a',x,rfl⟩
  simp at ha
  rcases List.eq_nil_or_concat b with rfl|⟨b',y,rfl⟩
  simp at hb
  simp only[List.concat_eq_append] at*
  rw[nU,nU] at h
  have hx:=x.toNat_lt
  have hy:=y.toNat_lt
  have h1:de a'=de b':=by omega
  have h2:x.toNat=y.toNat:=by omega
  rw[v9 n a' b' (by simpa using ha) (by simpa using hb) h1,UInt8.toNat_inj.1 h2]
theorem A3(xs:List Int):de (bl (strOfNums xs))=xs.foldl (fun(n:Nat) x=>n*256+x.toNat % 256) 0:=by
 show de ((strOfNums xs).data.toList)= _
 rw[strOfNums_data,de,List.foldl_map]
 rfl
theorem AG(n:Int)(h0:0<=n)(h1:n<65536):(de (bl (mJ n 2)):Int)=n:=by
 have hu:IntKind.u64.wrap n=n:=by rw[IntKind.wrap_u64];omega
 rw[mJ,A3,mD,hu]
 simp only[List.drop_succ_cons,List.drop_zero,List.foldl_cons,List.foldl_nil]
 omega
end
section
open Go.RowKit
def ltB(a b:ByteArray):Bool:=Op.bytesLess (bl a) (bl b)
theorem nC:∀l:List UInt8,Op.bytesLess l l=false
 | []=>rfl
 |a::l=>by simp[Op.bytesLess,nC l,UInt8.lt_irrefl]
theorem mg:∀{a b:List UInt8},Op.bytesLess a b=true->Op.bytesLess b a=false
 | [],[],h=>by simp[Op.bytesLess] at h
 | [],_:: _,_=>by simp[Op.bytesLess]
 |_:: _,[],h=>by simp[Op.bytesLess] at h
 |x::a,y::b,h=>by
  simp only[Op.bytesLess,Bool.or_eq_true,decide_eq_true_eq,Bool.and_eq_true,beq_iff_eq] at h
  simp only[Op.bytesLess,Bool.or_eq_false_iff,decide_eq_false_iff_not,Bool.and_eq_false_iff,beq_eq_false_iff_ne]
  rcases h with h|⟨rfl,h⟩
  exact⟨fun h2=>UInt8.lt_irrefl _ (UInt8.lt_trans h h2),.inl fun h2=>by subst h2;exact UInt8.lt_irrefl _ h⟩
  exact⟨UInt8.lt_irrefl _,.inr (mg h)⟩
theorem ol:∀{a b:List UInt8},Op.bytesLess a b=false->Op.bytesLess b a=false->a=b
 | [],[],_,_=>rfl
 | [],_:: _,h,_=>by simp[Op.bytesLess] at h
 |_:: _,[],_,h=>by simp[Op.bytesLess] at h
 |x::a,y::b,h1,h2=>by
  simp only[Op.bytesLess,Bool.or_eq_false_iff,decide_eq_false_iff_not,Bool.and_eq_false_iff,beq_eq_false_iff_ne] at h1 h2
  have hxy:x=y:=by
   have a1:=h1.1;have a2:=h2.1
   rw[UInt8.not_lt] at a1 a2
   exact UInt8.le_antisymm a2 a1
  subst hxy
  rw[ol (h1.2.resolve_left (by simp)) (h2.2.resolve_left (by simp))]
theorem mp(a:ByteArray):ltB a a=false:=nC _
theorem wb{a b:ByteArray}(h:ltB a b=true):ltB b a=false:=mg h
theorem vH{a b:ByteArray}(h1:ltB a b=false)(h2:ltB b a=false):a=b:=eP (ol h1 h2)
theorem F5(a b:ByteArray):(!(ltB a b||a.toList==b.toList))=ltB b a:=by
 have e:(a.toList==b.toList)=true<->a=b:=by
  rw[beq_iff_eq,ByteArray.toList_eq,ByteArray.toList_eq]
  exact⟨fun h=>eP h,fun h=>by rw[h]⟩
 cases h:ltB b a with
 |true=>
  rw[wb h]
  cases h2:(a.toList==b.toList) with
  |false=>rfl
  |true=>rw[e.1 h2,mp] at h;cases h
 |false=>
  cases h1:ltB a b with
  |true=>rfl
  |false=>rw[e.2 (vH h1 h)];rfl
section
variable{P:Program}{o:Oper}{ρ:Operand->Value}{W:World}
theorem jI{t t':TypeId}{x y:Operand}{a b:ByteArray}(h:o.op= .binOp .lss t x y t')(hx:ρ x= .string a)(hy:ρ y= .string b):(execOp ρ o).run P W= .ok (.value (.bool (ltB a b))) W:=by
 unfold execOp;rw[h]
 simp[hx,hy,eqGuard,binOp,Op.stringOp,ltB,bl,ByteArray.toList_eq]
theorem Ao{t t':TypeId}{x y:Operand}{a b:ByteArray}(h:o.op= .binOp .gtr t x y t')(hx:ρ x= .string a)(hy:ρ y= .string b):(execOp ρ o).run P W= .ok (.value (.bool (ltB b a))) W:=by
 rw[<-F5]
 unfold execOp;rw[h]
 simp[hx,hy,eqGuard,binOp,Op.stringOp,ltB,bl,ByteArray.toList_eq]
end
def aQ(n:Int):ByteArray:=strOfNums [n % 65536 / 256,n % 65536 % 256]
theorem uW(n:Int):mJ (n % 65536) 2=aQ n:=by
 have h0:0<=n % 65536:=Int.emod_nonneg _ (by decide)
 have h1:n % 65536<65536:=Int.emod_lt_of_pos _ (by decide)
 have hu:IntKind.u64.wrap (n % 65536)=n % 65536:=by rw[IntKind.wrap_u64];omega
 rw[mJ,mD,hu,aQ]
 simp only[Nat.reduceSub,List.drop_succ_cons,List.drop_zero]
 congr 1
 have e1:n % 65536 / 256 % 256=n % 65536 / 256:=by omega
 rw[e1]
theorem bf(n:Int):(aQ n).size=2:=by simp[aQ,strOfNums,ByteArray.size]
theorem mV(n:Int):(de (bl (aQ n)):Int)=n % 65536:=by
 rw[<-uW,AG _ (Int.emod_nonneg _ (by decide)) (Int.emod_lt_of_pos _ (by decide))]
def bu(k:ByteArray)(p s:Int):ByteArray:=k++aQ p++aQ s
theorem dG(k:ByteArray)(p s:Int):(bu k p s).size=k.size+4:=by
 rw[bu,ByteArray.size_append,ByteArray.size_append,bf,bf]
def pkF(e:ByteArray):ByteArray:=e.extract 0 (e.size-4)
def ppF(e:ByteArray):Int:=aI e (e.size-4) 2
def psF(e:ByteArray):Int:=aI e (e.size-2) 2
def okF(e:ByteArray):ByteArray:=if e.size<4 then e else pkF e
def opF(e:ByteArray):Int:=if e.size<4 then 0 else ppF e
def osF(e:ByteArray):Int:=if e.size<4 then 0 else psF e
def ag(a b:ByteArray):Bool:=
 if ltB (okF a) (okF b) then true else if ltB (okF b) (okF a) then false
 else if opF a<opF b then true else if opF b<opF a then false else decide (osF a<osF b)
theorem eR(a:ByteArray):ag a a=false:=by simp[ag,mp]
theorem iP{a b:ByteArray}(h:ag a b=true):ag b a=false:=by
 unfold ag at h |-
 cases h1:ltB (okF a) (okF b) with
 |true=>rw[wb h1];rfl
 |false=>
  rw[h1] at h
  cases h2:ltB (okF b) (okF a) with
  |true=>rw[h2] at h;simp at h
  |false=>
   rw[h2] at h
   simp only[Bool.false_eq_true,if_false] at h |-
   split at h
   rw[if_neg (by omega),if_pos (by assumption)]
   split at h
   cases h
   have h3:=of_decide_eq_true h
   rw[if_neg (by omega),if_neg (by omega)]
   exact decide_eq_false (by omega)
theorem li(a b:ByteArray):ag a b=(if okF a≠okF b then ltB (okF a) (okF b) else if opF a≠opF b then decide (opF a<opF b) else decide (osF a<osF b)):=by
 unfold ag
 by_cases hk:okF a=okF b
 rw[hk,mp]
 simp only[Bool.false_eq_true,if_false,ne_eq,not_true_eq_false]
 by_cases hp:opF a=opF b
 rw[hp];simp
 by_cases h:opF a<opF b
 rw[if_pos h];simp[hp,h]
 rw[if_neg h,if_pos (by omega)];simp[hp,h]
 rw[if_pos hk]
 cases h1:ltB (okF a) (okF b) with
 |true=>rfl
 |false=>
  cases h2:ltB (okF b) (okF a) with
  |true=>rfl
  |false=>exact absurd (vH h1 h2) hk
def gR(a b:ByteArray):Int:=if ltB a b then -1 else if ltB b a then 1 else 0
def dF(a b:Int):Int:=if a<b then -1 else if b<a then 1 else 0
def iG(a b:ByteArray):Int:=if gR (okF a) (okF b)≠0 then gR (okF a) (okF b) else if dF (opF a) (opF b)≠0 then dF (opF a) (opF b) else dF (osF a) (osF b)
theorem nV(a b:ByteArray):decide (iG a b<0)=ag a b:=by
 unfold iG ag gR dF
 cases h1:ltB (okF a) (okF b) with
 |true=>simp
 |false=>
  cases h2:ltB (okF b) (okF a) with
  |true=>simp
  |false=>
   simp only[Bool.false_eq_true,if_false,ne_eq,not_true_eq_false]
   by_cases h3:opF a<opF b
   simp[h3]
   by_cases h4:opF b<opF a
   simp[h3,h4]
   by_cases h5:osF a<osF b
   simp[h3,h4,h5]
   by_cases h6:osF b<osF a<;>simp[h3,h4,h5,h6]
abbrev EnD:=ByteArray×Nat×Int
def gP(x:EnD):List EnD->List EnD
 | []=>[x]
 |y::l=>if ag x.1 y.1 then y::gP x l else x::y::l
def cW:List EnD->List EnD
 | []=>[]
 |x::l=>gP x (cW l)
def bp:Nat->List ByteArray->List (Nat×ByteArray)
 |_,[]=>[]
 |i,x::l=>if x.size=0 then bp (i+1) l else (i,x)::bp (i+1) l
def cc(lv:Int)(p:Nat×ByteArray):EnD:=if 0<lv then (p.2.extract 0 (p.2.size-2),p.1,(aI p.2 (p.2.size-2) 2:Int)) else (p.2,p.1,-1)
def cv(lv:Int)(p:Nat×ByteArray):Bool:=if 0<lv then decide (p.2.size<6) else decide (p.2.size<4)
structure NoD where
 lv:Int
 right:Int
 high:ByteArray
 dead:Bool
 es:List EnD
 free:Nat
def iF(h:ByteArray):Bool:=decide (4<=h.size)&&decide (aI h 1 1<=1)&&(decide (h.size<=4)||decide (8<=h.size))
def cm:Nat->List ByteArray->Nat->Nat
 |_,[],d=>d
 |i,x::l,d=>if x.size=0 then i else cm (i+1) l d
def cf(k:Int)(its:List ByteArray):Option NoD:=
 if k≠2 then none else match its with
 | []=>none
 |h::l=>if iF h=false then none else if (bp 1 l).any (cv (aI h 0 1)) then none else
  some ⟨aI h 0 1,(aI h 2 2:Int)-1,h.extract 4 h.size,aI h 1 1==1,(cW ((bp 1 l).map (cc (aI h 0 1))).reverse).reverse,cm 1 l (l.length+1)⟩
theorem vT(x:EnD):∀l,(gP x l).length=l.length+1
 | []=>rfl
 |y::l=>by unfold gP;split<;>simp[vT x l]
theorem lp:∀l,(cW l).length=l.length
 | []=>rfl
 |x::l=>by rw[cW,vT,lp l];rfl
theorem p6{x:EnD}:∀{l:List EnD}{y:EnD},y∈gP x l->y=x\/y∈l
 | [],y,h=>by simpa[gP] using h
 |z::l,y,h=>by
  unfold gP at h
  split at h
  rcases List.mem_cons.1 h with rfl|h
  exact .inr (List.mem_cons_self ..)
  rcases p6 h with h|h
  exact .inl h
  exact .inr (List.mem_cons_of_mem _ h)
  rcases List.mem_cons.1 h with rfl|h
  exact .inl rfl
  exact .inr h
theorem jN:∀{l:List EnD}{y:EnD},y∈cW l->y∈l
 | [],y,h=>by cases h
 |x::l,y,h=>by
  rcases p6 h with rfl|h
  exact List.mem_cons_self ..
  exact List.mem_cons_of_mem _ (jN h)
theorem pS:∀(i:Nat) (l:List ByteArray),(bp i l).length<=l.length
 |_,[]=>Nat.le_refl _
 |i,x::l=>by
  unfold bp
  have:=pS (i+1) l
  split<;>simp<;>omega
theorem jx(n:Int):(bl (aQ n)).length=2:=by rw[cF,bf]
theorem FX(k:ByteArray)(p s:Int):pkF (bu k p s)=k:=by
 apply eP
 rw[pkF,dc,dG,List.drop_zero,Nat.sub_zero,Nat.add_sub_cancel,bu,cQ,cQ,List.append_assoc,<-cF,List.take_left']
 rfl
theorem mr(k:ByteArray)(p s:Int):ppF (bu k p s)=p % 65536:=by
 rw[ppF,dG,Nat.add_sub_cancel,<-mV]
 congr 1
 exact kj (a:=bl k) (b:=bl (aQ p)) (c:=bl (aQ s)) (by rw[bu,cQ,cQ,List.append_assoc]) (cF _) (jx _)
theorem sD(k:ByteArray)(p s:Int):psF (bu k p s)=s % 65536:=by
 rw[psF,dG,<-mV,show k.size+4-2=k.size+2 by omega]
 congr 1
 exact kj (a:=bl (k++aQ p)) (b:=bl (aQ s)) (c:=[]) (by rw[bu,cQ,List.append_nil]) (by rw[cF,ByteArray.size_append,bf]) (jx _)
theorem Fg{a b:ByteArray}(ha:4<=a.size)(hb:4<=b.size)(hk:pkF a=pkF b)(hp:ppF a=ppF b)(hs:psF a=psF b):a=b:=by
 have hz:a.size=b.size:=by
  have:=congrArg ByteArray.size hk
  simp only[pkF,ByteArray.size_extract] at this
  omega
 have two:∀{x y:ByteArray}{p:Nat},p+2<=x.size->p+2<=y.size->aI x p 2=aI y p 2->((bl x).drop p).take 2=((bl y).drop p).take 2:=by
  intro x y p hx hy h
  have e:∀z:ByteArray,aI z p 2=de (((bl z).drop p).take 2):=fun z=>by
   rw[aI,show (z.extract p (p+2)).data.toList=bl (z.extract p (p+2)) from rfl,dc,Nat.add_sub_cancel_left]
  rw[e,e] at h
  refine v9 2 _ _ ?_ ?_ h
  rw[List.length_take,List.length_drop,cF];omega
  rw[List.length_take,List.length_drop,cF];omega
 have h1:(bl a).take (a.size-4)=(bl b).take (a.size-4):=by
  have:=congrArg bl hk
  rw[pkF,pkF,dc,dc,List.drop_zero,List.drop_zero,Nat.sub_zero,Nat.sub_zero,<-hz] at this
  exact this
 have h2:=two (x:=a) (y:=b) (p:=a.size-4) (by omega) (by omega) (by have:=hp;rw[ppF,ppF,<-hz] at this;omega)
 have h3:=two (x:=a) (y:=b) (p:=a.size-2) (by omega) (by omega) (by have:=hs;rw[psF,psF,<-hz] at this;omega)
 have cut:∀z:ByteArray,z.size=a.size->bl z=(bl z).take (a.size-4)++(((bl z).drop (a.size-4)).take 2++((bl z).drop (a.size-2)).take 2):=by
  intro z hz
  have e1:((bl z).drop (a.size-2)).take 2=(bl z).drop (a.size-2):=List.take_of_length_le (by rw[List.length_drop,cF];omega)
  have e2:(bl z).drop (a.size-2)=((bl z).drop (a.size-4)).drop 2:=by rw[List.drop_drop];congr 1;omega
  rw[e1,e2,List.take_append_drop,List.take_append_drop]
 apply eP
 rw[cut a rfl,cut b hz.symm,h1,h2,h3]
theorem jw{a b:ByteArray}(ha:4<=a.size)(hb:4<=b.size)(h1:ag a b=false)(h2:ag b a=false):a=b:=by
 have oa:∀{z:ByteArray},4<=z.size->okF z=pkF z/\opF z=ppF z/\osF z=psF z:=fun {z} h=>by
  unfold okF opF osF
  rw[if_neg (by omega),if_neg (by omega),if_neg (by omega)]
  exact⟨rfl,rfl,rfl⟩
 unfold ag at h1 h2
 cases e1:ltB (okF a) (okF b) with
 |true=>rw[e1] at h1;simp at h1
 |false=>
  cases e2:ltB (okF b) (okF a) with
  |true=>rw[e2] at h2;simp at h2
  |false=>
   rw[e1,e2] at h1 h2
   simp only[Bool.false_eq_true,if_false] at h1 h2
   have hk:=vH e1 e2
   have hp:opF a=opF b:=by
    by_cases c1:opF a<opF b
    rw[if_pos c1] at h1;cases h1
    by_cases c2:opF b<opF a
    rw[if_pos c2] at h2;cases h2
    omega
   have hs:osF a=osF b:=by
    rw[if_neg (by omega),if_neg (by omega)] at h1 h2
    have:=of_decide_eq_false h1
    have:=of_decide_eq_false h2
    omega
   obtain⟨a1,a2,a3⟩:=oa ha
   obtain⟨b1,b2,b3⟩:=oa hb
   exact Fg ha hb (a1 ▸ b1 ▸ hk) (a2 ▸ b2 ▸ hp) (a3 ▸ b3 ▸ hs)
theorem yF(x:EnD):∀l,gP x l=l.takeWhile (fun y=>ag x.1 y.1)++x::l.dropWhile (fun y=>ag x.1 y.1)
 | []=>rfl
 |y::l=>by
  unfold gP
  cases h:ag x.1 y.1 with
  |true=>rw[if_pos rfl,yF x l];simp[List.takeWhile_cons,List.dropWhile_cons,h]
  |false=>rw[if_neg (by simp)];simp[List.takeWhile_cons,List.dropWhile_cons,h]
theorem yK{x:EnD}{l a b:List EnD}(h:l=a.reverse++b.reverse)(ha:∀y∈a,ag x.1 y.1=true)(hb:∀y,b.getLast?=some y->ag x.1 y.1=false):(gP x l).reverse=b++x::a:=by
 subst h
 rw[yF]
 have h1:(a.reverse++b.reverse).takeWhile (fun y=>ag x.1 y.1)=a.reverse:=by
  rw[List.takeWhile_append_of_pos (fun y hy=>ha y (by simpa using hy))]
  cases hr:b.reverse with
  |nil=>simp
  |cons y r=>
   rw[List.takeWhile_cons_of_neg (by rw[hb y (by rw[<-List.head?_reverse,hr];rfl)];simp),List.append_nil]
 have h2:(a.reverse++b.reverse).dropWhile (fun y=>ag x.1 y.1)=b.reverse:=by
  rw[List.dropWhile_append_of_pos (fun y hy=>ha y (by simpa using hy))]
  cases hr:b.reverse with
  |nil=>rfl
  |cons y r=>rw[List.dropWhile_cons_of_neg (by rw[hb y (by rw[<-List.head?_reverse,hr];rfl)];simp)]
 rw[h1,h2]
 simp
end
section
open Go.RowKit
theorem ii(n:Int)(w:World):
  Calls Try.prog 63 #[.int .i64 n] w (Ret (.string (aQ n)) w):=by
 go_enter Try.func63,Try.ntmps63
 have aq:=St.start w
 refine wp_seq (sqr (sqp [.k 2 (.string ⟨#[]⟩)] ?_))
 refine aa (wp_seq (sqr (sqp [.m 3 0,sAn 4 .i64 n 65535 (n % 65536) (ug n 16 (by decide))] ?_)))
 refine sqk (.string (mJ (n % 65536) 2)) aq (fun cx=>⟨_,AE (n % 65536) _,(aK (cx.ou 4) (cx.co _))⟩) fun W4 bQ=>?_
 refine sqp [.m 2 5] ?_
 refine aa (wp_ret ?_)
 refine bpr (.string (mJ (n % 65536) 2)) (ak Try.results63 rpt) ?_
 exact Ret.of (by rw[<-uW]) bQ.ext
theorem gI(k:ByteArray)(p s:Int)(w:World)(hk:k.size<=1000000):
  Calls Try.prog 26 #[.string k,.agg #[.int .i64 p,.int .i64 s]] w (Ret (.string (bu k p s)) w):=by
 have h2_:=bf p
 have h3_:=bf s
 go_enter Try.func26,Try.ntmps26
 have aq:=St.start w
 refine wp_seq (sqr ?_)
 refine bX #[vi p,vi s] aq fun dI W1 aC=>?_
 refine sqp [.k 4 (.string ⟨#[]⟩)] ?_
 refine aa (wp_seq (bC [0,0,2,6,15,0,32,110,255,511] [[],[],[0],[],[],[],[0]] [.k 5 (.string k),.k 6 (vp dI),.c 7 (vi p),.c 8 (.string (aQ p)),tS 9 k (aQ p) (by first|omega|(rw[ByteArray.size_append];omega)),.k 10 (.pointer (some ⟨dI,1,none⟩)),.c 11 (vi s),.c 12 (.string (aQ s)),tS 13 (k++(aQ p)) (aQ s) (by first|omega|(rw[ByteArray.size_append];omega)),.k 4 (.string ((k++(aQ p))++(aQ s)))] [0] [2,3,6,7] [(4,9,1,5),(0,0,9,9)] aC ?_ fun W3 bG=>?_))
 refine⟨?_,?_,?_,?_,trivial⟩
 exact xs4 rfl id fun cx=>ae rfl (by kernel_rfl) (cx.an 1) ((cx.bi 0 rfl).cell 0)
 exact xsc rfl id rfl rfl fun cx=>⟨_,ii p _,(br (cx.an 2))⟩
 exact xs4 rfl id fun cx=>ae rfl (by kernel_rfl) (cx.an 5) ((cx.bi 0 rfl).cell 1)
 exact xsc rfl id rfl rfl fun cx=>⟨_,ii s _,(br (cx.an 6))⟩
 refine aa (wp_ret ?_)
 refine bpr (.string ((k++(aQ p))++(aQ s))) (ak Try.results26 rpt) ?_
 exact Ret.of rfl bG.ext
theorem fG(n:Int)(w:World):
  Calls Try.prog 66 #[.int .i64 n] w (Ret (.string (aQ n)) w):=by
 go_enter Try.func66,Try.ntmps66
 have aq:=St.start w
 refine wp_seq (sqr (sqp [.k 2 (.string ⟨#[]⟩)] ?_))
 refine aa (wp_seq (sqr (sqp [.m 3 0,sAn 4 .i64 n 65535 (n % 65536) (ug n 16 (by decide)),.m 0 4] ?_)))
 refine aa (wp_seq (sqr (sqp [.m 5 0,sQu 6 .i64 (n % 65536) 256 ((n % 65536) / 256) (by rw[Int.tdiv_eq_ediv_of_nonneg (by omega)];exact IntWalk.i64_in _ (by omega)),sW 7 .u8 ((n % 65536) / 256) ((n % 65536) / 256) (IntWalk.u8_in _ (by omega)),.m 8 0,sRe 9 .i64 (n % 65536) 256 ((n % 65536) % 256) (Int.tmod_eq_emod_of_nonneg (by omega)),sW 10 .u8 ((n % 65536) % 256) ((n % 65536) % 256) (IntWalk.u8_in _ (by omega))] ?_)))
 refine lS (fun x_=>sA x_) (fun rD=> .slice rD 2 2) (fun rD=>eO 5 1 (.slice rD 2 2) 2 ([.int .u8 ((n % 65536) / 256),.int .u8 ((n % 65536) % 256)])) aq (by
   refine svA fun a b W X cx=>?_
   have NX:a (.tmp 7)= .int .u8 ((n % 65536) / 256):=(cx.ou 7)
   have eY:a (.tmp 10)= .int .u8 ((n % 65536) % 256):=(cx.ou 10)
   exact bY (e:=5) (xs:=[.int .u8 ((n % 65536) / 256),.int .u8 ((n % 65536) % 256)]) rfl (by simp[go_sem,NX,eY]) rfl (by decide) rfl rfl (fun _ _ _ _ _=> .intro)) fun rD pH cA=>?_
 refine sql (.string (strOfNums ([((n % 65536) / 256),((n % 65536) % 256)]))) cA (fun cx=>cd (e:=5) rfl (by kernel_rfl) (by kernel_rfl) (by kernel_rfl) (cx.ou 11) (cx.ri 0 rfl)) ?_
 refine sqp [.m 2 12] ?_
 refine aa (wp_ret ?_)
 refine bpr (.string (strOfNums ([((n % 65536) / 256),((n % 65536) % 256)]))) (ak Try.results66 rpt) ?_
 exact Ret.of rfl cA.ext
theorem yZ(k:ByteArray)(p s:Int)(w:World)(hk:k.size<=1000000):
  Calls Try.prog 28 #[.string k,.agg #[.int .i64 p,.int .i64 s]] w (Ret (.string (bu k p s)) w):=by
 have h2_:=bf p
 have h3_:=bf s
 go_enter Try.func28,Try.ntmps28
 have aq:=St.start w
 refine wp_seq (sqr ?_)
 refine bX #[vi p,vi s] aq fun dI W1 aC=>?_
 refine sqp [.k 4 (.string ⟨#[]⟩)] ?_
 refine aa (wp_seq (bC [0,0,2,6,15,0,32,110,255,511] [[],[],[0],[],[],[],[0]] [.k 5 (.string k),.k 6 (vp dI),.c 7 (vi p),.c 8 (.string (aQ p)),tS 9 k (aQ p) (by first|omega|(rw[ByteArray.size_append];omega)),.k 10 (.pointer (some ⟨dI,1,none⟩)),.c 11 (vi s),.c 12 (.string (aQ s)),tS 13 (k++(aQ p)) (aQ s) (by first|omega|(rw[ByteArray.size_append];omega)),.k 4 (.string ((k++(aQ p))++(aQ s)))] [0] [2,3,6,7] [(4,9,1,5),(0,0,9,9)] aC ?_ fun W3 bG=>?_))
 refine⟨?_,?_,?_,?_,trivial⟩
 exact xs4 rfl id fun cx=>ae rfl (by kernel_rfl) (cx.an 1) ((cx.bi 0 rfl).cell 0)
 exact xsc rfl id rfl rfl fun cx=>⟨_,fG p _,(br (cx.an 2))⟩
 exact xs4 rfl id fun cx=>ae rfl (by kernel_rfl) (cx.an 5) ((cx.bi 0 rfl).cell 1)
 exact xsc rfl id rfl rfl fun cx=>⟨_,fG s _,(br (cx.an 6))⟩
 refine aa (wp_ret ?_)
 refine bpr (.string ((k++(aQ p))++(aQ s))) (ak Try.results28 rpt) ?_
 exact Ret.of rfl bG.ext
theorem tK(x:ByteArray)(w:World):
  Calls Try.prog 103 #[.string x] w (Ret (.bool false) w):=by
 go_enter Try.func103,Try.ntmps103
 have aq:=St.start w
 refine wp_seq (sqr (sqp [.k 2 (.bool false)] ?_))
 refine aa (wp_seq (sqr (sqp [.m 3 0,.m 4 0,.k 5 (.bool (!(x.toList==x.toList))),.m 2 5] ?_)))
 refine aa (wp_ret ?_)
 refine bpr (.bool (!(x.toList==x.toList))) (ak Try.results103 rpt) ?_
 exact Ret.bool (by simp) aq.ext
theorem tX(x:Int)(w:World):
  Calls Try.prog 104 #[.int .i64 x] w (Ret (.bool false) w):=by
 go_enter Try.func104,Try.ntmps104
 have aq:=St.start w
 refine wp_seq (sqr (sqp [.k 2 (.bool false)] ?_))
 refine aa (wp_seq (sqr (sqp [.m 3 0,.m 4 0,.k 5 (.bool (x != x)),.m 2 5] ?_)))
 refine aa (wp_ret ?_)
 refine bpr (.bool (x != x)) (ak Try.results104 rpt) ?_
 exact Ret.bool (by simp) aq.ext
theorem Bi(a b:ByteArray)(w:World):
  Calls Try.prog 93 #[.string a,.string b] w (Ret (.int .i64 (gR a b)) w):=by
 go_enter Try.func93,Try.ntmps93
 have aq:=St.start w
 refine wp_seq (sqr (sqp [.k 4 (vi 0)] ?_))
 refine aa (wp_seq (sqr (sqp [.m 7 0] ?_)))
 refine sqk (.bool false) aq (fun cx=>⟨_,tK a _,(br (cx.ou 7))⟩) fun W3 bG=>?_
 refine sqp [.k 5 (.bool false)] ?_
 refine aa (wp_seq (sqr (sqp [.m 9 1] ?_)))
 refine sqk (.bool false) bG (fun cx=>⟨_,tK b _,(br (cx.ou 9))⟩) fun W6 ci=>?_
 refine sqp [.k 6 (.bool false)] ?_
 refine aa (wp_seq (wp_seq (sqr (sqp [.k 11 (.bool false)] ?_))))
 refine aa (wcf rfl (wp_skip (aa (wp_seq (wp_seq (sqr (sqp [.k 13 (.bool false)] ?_)))))))
 refine aa (wcf rfl (wp_skip (aa (wp_seq (wp_seq (sqr (sqp [.m 14 0,.m 15 1] ?_)))))))
 refine sql (.bool (ltB a b)) ci (fun cx=>jI rfl (cx.ou 14) (cx.ou 15)) ?_
 refine aa (wbs (fun dl=>?_) fun dl=>?_)
 refine wp_seq (sqr (sqp [.k 4 (vi (-1))] ?_))
 refine aa (wp_ret (ai ?_))
 refine bpr (vi (-1)) (ak Try.results93 rpt) ?_
 exact Ret.of (by simp[gR, *]) ci.ext
 refine wp_skip (aa (wp_seq (wp_seq (sqr (sqp [.m 17 0,.m 18 1] ?_)))))
 refine sql (.bool (ltB b a)) ci (fun cx=>Ao rfl (cx.ou 17) (cx.ou 18)) ?_
 refine aa (wbs (fun DT=>?_) fun DT=>?_)
 refine wp_seq (sqr (sqp [.k 4 (vi 1)] ?_))
 refine aa (wp_ret (ai ?_))
 refine bpr (vi 1) (ak Try.results93 rpt) ?_
 exact Ret.of (by simp[gR, *]) ci.ext
 refine wp_skip (aa (wp_seq (sqr (sqp [.k 4 (vi 0)] ?_))))
 refine aa (wp_ret ?_)
 refine bpr (vi 0) (ak Try.results93 rpt) ?_
 exact Ret.of (by simp[gR, *]) ci.ext
theorem tL(a b:Int)(w:World):
  Calls Try.prog 94 #[.int .i64 a,.int .i64 b] w (Ret (.int .i64 (dF a b)) w):=by
 go_enter Try.func94,Try.ntmps94
 have aq:=St.start w
 refine wp_seq (sqr (sqp [.k 4 (vi 0)] ?_))
 refine aa (wp_seq (sqr (sqp [.m 7 0] ?_)))
 refine sqk (.bool false) aq (fun cx=>⟨_,tX a _,(br (cx.ou 7))⟩) fun W3 bG=>?_
 refine sqp [.k 5 (.bool false)] ?_
 refine aa (wp_seq (sqr (sqp [.m 9 1] ?_)))
 refine sqk (.bool false) bG (fun cx=>⟨_,tX b _,(br (cx.ou 9))⟩) fun W6 ci=>?_
 refine sqp [.k 6 (.bool false)] ?_
 refine aa (wp_seq (wp_seq (sqr (sqp [.k 11 (.bool false)] ?_))))
 refine aa (wcf rfl (wp_skip (aa (wp_seq (wp_seq (sqr (sqp [.k 13 (.bool false)] ?_)))))))
 refine aa (wcf rfl (wp_skip (aa (wp_seq (wp_seq (sqr (sqp [.m 14 0,.m 15 1,.k 16 (.bool (decide (a<b)))] ?_)))))))
 refine aa (wds (fun dl fH=>?_) fun dl fH=>?_)
 refine wp_seq (sqr (sqp [.k 4 (vi (-1))] ?_))
 refine aa (wp_ret (ai ?_))
 refine bpr (vi (-1)) (ak Try.results94 rpt) ?_
 exact Ret.of (by simp[dF, *]) ci.ext
 refine wp_skip (aa (wp_seq (wp_seq (sqr (sqp [.m 17 0,.m 18 1,.k 19 (.bool (decide (b<a)))] ?_)))))
 refine aa (wds (fun DT K7=>?_) fun DT K7=>?_)
 refine wp_seq (sqr (sqp [.k 4 (vi 1)] ?_))
 refine aa (wp_ret (ai ?_))
 refine bpr (vi 1) (ak Try.results94 rpt) ?_
 exact Ret.of (by simp[dF, *]) ci.ext
 refine wp_skip (aa (wp_seq (sqr (sqp [.k 4 (vi 0)] ?_))))
 refine aa (wp_ret ?_)
 refine bpr (vi 0) (ak Try.results94 rpt) ?_
 exact Ret.of (by simp[dF, *]) ci.ext
end
section
open Go.RowKit
abbrev gu(u:List Go.Value)(k:Nat):Go.Value:=u.getD k undef
theorem nle{a b:Nat}(h:Nat.ble a b=true):a<=b:=Nat.le_of_ble_eq_true h
def qkF(e:ByteArray):ByteArray:=if e.size<4 then ByteArray.empty else pkF e
def qT(e:ByteArray):Value:= .tuple #[.string (qkF e),.agg #[.int .i64 (opF e),.int .i64 (osF e)],.bool (decide (4<=e.size))]
theorem qk(e:ByteArray)(m p k:Nat)(h:m+p+k<=e.size):aI (e.extract m e.size) p k=aI e (m+p) k:=by
 have e1:∀z:ByteArray,∀q,aI z q k=de (((bl z).drop q).take k):=fun z q=>by
  rw[aI,show (z.extract q (q+k)).data.toList=bl (z.extract q (q+k)) from rfl,dc,Nat.add_sub_cancel_left]
 rw[e1,e1,dc,<-cF,List.take_of_length_le (l:=(bl e).drop m) (by rw[List.length_drop];exact Nat.le_refl _),List.drop_drop]
theorem CJ{e:ByteArray}(h:e.size<4):qT e= .tuple #[.string ByteArray.empty,.agg #[.int .i64 0,.int .i64 0],.bool false]:=by
 rw[qT,qkF,opF,osF,if_pos h,if_pos h,if_pos h,decide_eq_false (by omega)]
theorem Fh{e:ByteArray}{m:Nat}(h:e.size=m+4):qT e= .tuple #[.string (e.extract 0 m),.agg #[.int .i64 (aI (e.extract m e.size) 0 2),.int .i64 (aI (e.extract m e.size) 2 2)],.bool true]:=by
 rw[qT,qkF,opF,osF,if_neg (by omega),if_neg (by omega),if_neg (by omega),decide_eq_true (by omega),pkF,ppF,psF,qk _ _ _ _ (by omega),qk _ _ _ _ (by omega),show e.size-4=m by omega,show e.size-2=m+2 by omega];rfl
def orL:List Int->Int
 | []=>0
 |x::l=>if x≠0 then x else orL l
theorem qh:∀(ls:List Int) (k:Nat),k<ls.length->orL (ls.drop k)=if ls.getD k 0≠0 then ls.getD k 0 else orL (ls.drop (k+1))
 | [],k,h=>by simp at h
 |x::l,0,_=>rfl
 |x::l,k+1,h=>qh l k (by simpa using h)
theorem F7(a b:ByteArray):orL [gR (okF a) (okF b),dF (opF a) (opF b),dF (osF a) (osF b)]=iG a b:=by
 simp only[orL,iG]
 split
 rfl
 split
 rfl
 split
 rfl
 omega
theorem sE(s:ByteArray)(w:World):Calls Try.prog 64 #[.string s] w fun e w'=>∃B,e= .returned (.pointer (some ⟨B,0,none⟩))/\(Blk w' B 164 #[.string s,.int .i64 0,.bool false]/\w.heap.size<=B)/\Ext w w':=by
 go_enter Try.func64,Try.ntmps64
 have aq:=St.start w
 refine wp_seq (sqr (sqp [.k 2 (.pointer none)] ?_))
 refine aa (wp_seq (sqr (sqp [.m 3 0,.k 4 (.agg #[.string s,vi 0,.bool false])] ?_)))
 refine bX #[.string s,vi 0,.bool false] aq fun cw W4 bQ=>?_
 refine sqp [.m 2 5] ?_
 refine aa (wp_ret ?_)
 refine bpr (vp cw) (ak Try.results64 rpt) ?_
 exact⟨_,rfl,⟨bQ.blk 0 rfl,((bQ.get 0 rfl).own _ (by simp[eB])).1.resolve_left (by simp)⟩,bQ.ext⟩
theorem nT(e:ByteArray)(w:World)(he:e.size<=1000000):
  Calls Try.prog 27 #[.string e] w (Ret (qT e) w):=by
 go_enter Try.func27,Try.ntmps27
 have aq:=St.start w
 refine wp_seq (sqr (sqp [.k 2 (.string ⟨#[]⟩)] ?_))
 refine bW #[vi 0,vi 0] aq fun lX W2 aV=>?_
 refine sqp [.k 4 (.bool false)] ?_
 refine aa (wp_seq (sqr (sqp [.m 8 0,.k 9 (vi ((e.size:Int))),sI 10 ((e.size:Int)-4) (by omega),.m 5 10] ?_)))
 refine aa (wp_seq (wp_seq (sqr (sqp [.m 11 5,.k 12 (.bool (decide ((e.size:Int)-4<0)))] ?_))))
 refine aa (wds (fun gA j9=>?_) fun gA j9=>?_)
 refine wp_seq (sqr (sqp [.k 13 (.agg #[vi 0,vi 0]),.k 2 (.string ⟨#[]⟩)] ?_))
 refine aF (n:=2) 0 #[vi 0,vi 0] aV fun kO bE=>?_
 refine sqp [.k 4 (.bool false)] ?_
 refine aa (wp_ret (ai ?_))
 refine bpr (.tuple #[.string ⟨#[]⟩,.agg #[vi 0,vi 0],.bool false]) (bq Try.results27 rpt (rpa (bE.blk 0 rfl) 0 2) rpt) ?_
 exact Ret.of (CJ (by omega)).symm bE.ext
 refine wp_skip (aa (wp_seq ?_))
 obtain⟨m,hm⟩:∃m:Nat,e.size=m+4:=⟨e.size-4,by omega⟩
 obtain⟨z,hz⟩:∃z,(e.size:Int)-4=z:=⟨_,rfl⟩
 rw[hz]
 obtain rfl:z=(m:Int):=by omega
 refine sqr (sqp [.m 14 0,.m 15 5] ?_)
 refine sql (.string (e.extract m e.size)) aV (fun cx=>iN (l:=m) rfl (by kernel_rfl) (cx.ou 14) (cx.ou 15) (by omega) (by omega)) ?_
 refine Dc (fun kP=>vp kP) (fun kP=>eB kP 164 #[.string (e.extract m e.size),vi 0,.bool false]) aV (fun cx=>⟨_,(sE (e.extract m e.size) _).mono (by rintro e W1 ⟨B4,rfl,⟨hb4,hw4⟩,hx⟩;exact⟨_,rfl,St.one hx ⟨hb4,dH _ _ _,fun k hk=>by simp[eB] at hk;subst hk;exact⟨hw4,hb4.lt⟩⟩⟩),(br (cx.ou 16))⟩) fun kP wB cB=>?_
 refine sqp [.m 6 17] ?_
 refine aa (wp_seq (sqr (sqp [.m 18 6] ?_)))
 refine Mm (vi ((aI (e.extract m e.size) 0 2:Int))) 1 #[.string (e.extract m e.size),vi 2,.bool false] cB (fun cx=>⟨_,(mt _ (e.extract m e.size) 0 2 _ ⟨(cx.bi 1 rfl),by first|omega|(rw[ByteArray.size_extract];omega),by first|omega|(rw[ByteArray.size_extract];omega)⟩ (by omega) (by first|omega|(rw[ByteArray.size_extract];omega))).mono (by rintro e W1 ⟨rfl,ot,hu⟩;exact⟨rfl,hu,ot.1⟩),(aK (cx.ou 18) (cx.co _))⟩) fun BN fI=>?_
 refine sqp [.m 7 19] ?_
 refine aa (wp_seq (aj [0,0,3,0,0,16,56,55,255,511] [[],[],[],[],[],[1],[],[],[0]] [[],[],[],[],[],[2],[],[],[3]] [[],[],[],[],[],[1],[],[],[0]] [.k 20 (.string e),.k 21 (vi ((m:Int))),.c 22 (.string (e.extract 0 m)),.k 23 (vi ((aI (e.extract m e.size) 0 2:Int))),.k 24 (vp kP),.a 25,.c 26 (.agg #[vi ((aI (e.extract m e.size) 0 2:Int)),vi ((aI (e.extract m e.size) 2 2:Int))]),.k 2 (.string (e.extract 0 m)),.n,.k 4 (.bool true)] (fun ix b d X=>match ix with|0|1|2|3|4=>True|5=>b 25=vi ((aI (e.extract m e.size) 2 2:Int))/\X 2=eB kP 164 #[.string (e.extract m e.size),vi 4,.bool false]|6|7=>True|8=>X 3=eB lX 31 #[vi ((aI (e.extract m e.size) 0 2:Int)),vi ((aI (e.extract m e.size) 2 2:Int))]|_=>True) [2,3] [2,5,6,8] [(2,7,1,3),(1,9,1,2),(15,0,7,22)] fI ?_ ?_ ?_))
 exact fun ix _ _ _ _ _ _ hs hb hx h=>match ix,h with
 |5,h=>by dsimp only;rw[<-hs 25 rfl,<-hx 2 rfl];exact h
 |8,h=>by dsimp only;rw[<-hx 3 rfl];exact h
 |0,_|1,_|2,_|3,_|4,_|6,_|7,_|_+9,_=>trivial
 refine⟨?_,?_,?_,?_,trivial⟩
 exact xs4 rfl id fun cx=>iH (l:=m) rfl (by kernel_rfl) (cx.an 0) (cx.an 1) (by omega) (by omega)
 refine svA fun f d W X cx=>?_
 refine ax.call (av (args:=#[vp kP,vi 2]) rfl cx.sees rfl (by kernel_rfl) (aK (cx.an 4) (cx.co _))) ?_
 refine(mt _ (e.extract m e.size) 2 2 _ ⟨(cx.bi 1 rfl),by first|omega|(rw[ByteArray.size_extract];omega),by first|omega|(rw[ByteArray.size_extract];omega)⟩ (by omega) (by first|omega|(rw[ByteArray.size_extract];omega))).mono ?_
 rintro e W1 ⟨rfl,ot,hu⟩
 refine⟨_,rfl,i4 (cx.init 1 _ rfl) rfl rfl hu ot.1 (fun b g X' hs hb hv hx=>?_)⟩
 exact⟨(hv 25 rfl).1.trans rfl,hx⟩
 exact xs4 rfl id fun cx=>ry rfl (pmc (cx.an 3) (pmc (dTn (cx.an 5)).1 pmn)) (by kernel_rfl)
 refine svA fun f d W X cx=>?_
 exact ar (n:=2) rfl (cx.ou 3) (cx.an 6) (by kernel_rfl) (by kernel_rfl) (by kernel_rfl) cx (cx.init 0 _ rfl) rfl (nle rfl) (by kernel_rfl) rfl rfl rfl (fun _ _ _ _ _=>id)
 intro b d X uk hD cK fr af
 simp only[exq 2 ((dTn (hD 5 lq)).2),exq 3 ((dTn (hD 8 lq)))] at cK
 simp only[ed 25 ((dTn (hD 5 lq)).1)] at af
 clear hD;subst af;clear b d X
 refine aa (wp_ret ?_)
 refine bpr (.tuple #[.string (e.extract 0 m),.agg #[vi ((aI (e.extract m e.size) 0 2:Int)),vi ((aI (e.extract m e.size) 2 2:Int))],.bool true]) (bq Try.results27 rpt (rpa (cK.blk 1 rfl) 0 2) rpt) ?_
 exact Ret.of (Fh hm).symm cK.ext
theorem F0(A:Option Addr)(c:Nat)(ls:List Int)(w:World)(hA:At w A (ls.map (Value.int .i64)))(hl:ls.length<=100000):
  Calls Try.prog 92 #[.slice A ls.length c] w (Ret (.int .i64 (orL ls)) w):=by
 go_enter Try.func92,Try.ntmps92
 have aq:=St.start w
 refine wp_seq (sqr (sqp [.k 2 (vi 0)] ?_))
 refine aa (wp_seq (sqr (sqp [.k 3 (vi 0)] ?_)))
 refine aa (wp_seq (wp_seq (sqr (sqp [.m 6 0,.k 7 (vi ((ls.length:Int))),.k 8 (vi 0)] ?_))))
 refine aa (wp_block ?_)
 refine aX (fun t_ mz az W=>∃k:Nat,k<=ls.length/\orL ls=orL (ls.drop k)/\mz=ls.length-k/\az=⟨(ovr (jv az) [(2,2,1,[]),(2,5,1,[]),(2,8,0,[vi ((k:Int))]),(0,9,8,[])] t_).toArray,[]⟩/\St w [] [] W) (ls.length-0) ?_ ?_
 exact⟨0,Nat.zero_le _,rfl,rfl,(by kernel_rfl),aq.pk []⟩
 rintro n6 a6 W6 ⟨k,hk,hI,rfl,hj_,ci⟩
 refine ovz hj_ fun IJ=>?_
 refine wp_seq (sqr (sqp [.k 9 (.bool (decide ((k:Int)<(ls.length:Int))))] ?_))
 refine aa (wp_seq (wds (fun wC qm=>?_) fun wC qm=>?_))
 refine wp_skip (aa (wp_seq (wp_block (wp_seq (sqr ?_)))))
 refine sql (.pointer (some ((ad A).add k))) ci (fun cx=>bo (e:=3) (m:=k) rfl (by kernel_rfl) (by kernel_rfl) (cx.ou 6) (cx.ou 8) (by omega) (by omega) (hA.ext cx.upd.to_ext) (by simp)) ?_
 refine sql (vi (ls.getD k 0)) ci (fun cx=>ae rfl (by kernel_rfl) (cx.ou 10) (At.cellAd (hA.ext cx.upd.to_ext) (qi (by omega)))) ?_
 refine sqp [.m 5 11] ?_
 refine aa (wp_seq (sqr (sqp [.m 12 5,.m 13 3,.k 14 (.bool ((ls.getD k 0) != 0))] ?_)))
 refine aa (wbs (fun dp=>?_) fun dp=>?_)
 have eo:=bne_iff_ne.1 dp
 refine wp_seq (sqr (sqp [.m 15 5,.m 2 15] ?_))
 refine aa (wp_ret (aB (ai (ai (aB (ai ?_))))))
 refine bpr (vi (ls.getD k 0)) (ak Try.results92 rpt) ?_
 exact Ret.of (by rw[hI,qh ls k (by omega),if_pos (by omega)]) ci.ext
 have eo:=bne_eq_false_iff_eq.1 dp
 refine wp_skip (aw (aa (sqr (sqp [sI 16 ((k:Int)+1) (by omega),.m 8 16] ?_))))
 refine aa ?_
 refine⟨ls.length-((k+1)),by omega,?_⟩
 exact⟨(k+1),by omega,by rw[hI,qh ls k (by omega),if_neg (by omega)],rfl,(by kernel_rfl),ci.pk []⟩
 refine wp_exit (am (am (bj (aa (wp_seq (sqr (sqp [.m 17 3,.m 2 17] ?_)))))))
 refine aa (wp_ret ?_)
 refine bpr (vi 0) (ak Try.results92 rpt) ?_
 exact Ret.of (by rw[hI,List.drop_of_length_le (by omega)];rfl) ci.ext
theorem tM(s:ByteArray)(w:World)(hs:s.size<=1000000):
  Calls Try.prog 91 #[.string s] w (Ret (.tuple #[.string (okF s),.agg #[.int .i64 (opF s),.int .i64 (osF s)]]) w):=by
 go_enter Try.func91,Try.ntmps91
 have aq:=St.start w
 refine wp_seq (sqr (sqp [.k 2 (.string ⟨#[]⟩)] ?_))
 refine bW #[vi 0,vi 0] aq fun lX W2 aV=>?_
 refine aa (wp_seq (sqr (sqp [.m 8 0] ?_)))
 refine sqk (.tuple #[.string (qkF s),.agg #[vi (opF s),vi (osF s)],.bool (decide (4<=s.size))]) aV (fun cx=>⟨_,nT s _ (by omega),(br (cx.ou 8))⟩) fun W4 bQ=>?_
 refine sqp [.m 7 9,.k 10 (.string (qkF s)),.k 11 (.agg #[vi (opF s),vi (osF s)]),.k 12 (.bool (decide (4<=s.size)))] ?_
 refine bW #[vi 0,vi 0] bQ fun PT W9 bh=>?_
 refine sqp [.m 4 10] ?_
 refine aF (n:=2) 1 #[vi (opF s),vi (osF s)] bh fun pH cA=>?_
 refine sqp [.m 6 12] ?_
 refine aa (wp_seq (wp_seq (sqr (sqp [.m 13 6,.k 14 (.bool (!(decide (4<=s.size))))] ?_))))
 refine aa ?_
 rcases Bool.eq_false_or_eq_true (decide (4<=s.size)) with dp|dp
 have eo:=of_decide_eq_true dp
 refine wp_cond_false (show Act.eval _ _= .bool false from(congrArg Value.bool (by rw[dp];rfl))) (wp_skip (aa (wp_seq (aj [0,0,1,7] [[],[1],[],[0]] [[],[],[],[2]] [[],[],[],[0]] [.k 16 (.string (qkF s)),.c 17 (.agg #[vi (opF s),vi (osF s)]),.k 2 (.string (qkF s)),.n] (fun ix b a X=>match ix with|0|1|2=>True|3=>X 2=eB lX 31 #[vi (opF s),vi (osF s)]|_=>True) [1,2] [1,3] [(2,2,1,3),(13,0,2,15)] cA ?_ ?_ ?_))))
 exact fun ix _ _ _ _ _ _ hs hb hx h=>match ix,h with
 |3,h=>by dsimp only;rw[<-hx 2 rfl];exact h
 |0,_|1,_|2,_|_+4,_=>trivial
 refine⟨?_,?_,trivial⟩
 exact xs4 rfl id fun cx=>aO (n:=2) rfl (by kernel_rfl) (by kernel_rfl) (cx.ou 5) (cx.bi 1 rfl) (nle rfl) rfl
 refine svA fun d a W X cx=>?_
 exact ar (n:=2) rfl (cx.ou 3) (cx.an 1) (by kernel_rfl) (by kernel_rfl) (by kernel_rfl) cx (cx.init 0 _ rfl) rfl (nle rfl) (by kernel_rfl) rfl rfl rfl (fun _ _ _ _ _=>id)
 intro b a X ov hD bP fr af
 simp only[exq 2 ((dTn (hD 3 lq)))] at bP
 clear hD;subst af;clear b a X
 refine aa (wp_ret ?_)
 refine bpr (.tuple #[.string (qkF s),.agg #[vi (opF s),vi (osF s)]]) (cq Try.results91 rpt (rpa (bP.blk 1 rfl) 0 2)) ?_
 exact Ret.of (by rw[okF,qkF,if_neg (by omega),if_neg (by omega)]) bP.ext
 have eo:=of_decide_eq_false dp
 refine wp_cond_true (show Act.eval _ _= .bool true from(congrArg Value.bool (by rw[dp];rfl))) (sqr (sqp [.m 15 0,.m 4 15] ?_))
 refine aa (wp_seq (aj [0,0,1,7] [[],[1],[],[0]] [[],[],[],[2]] [[],[],[],[0]] [.k 16 (.string s),.c 17 (.agg #[vi (opF s),vi (osF s)]),.k 2 (.string s),.n] (fun ix b a X=>match ix with|0|1|2=>True|3=>X 2=eB lX 31 #[vi (opF s),vi (osF s)]|_=>True) [1,2] [1,3] [(2,2,1,3),(13,0,2,15)] cA ?_ ?_ ?_))
 exact fun ix _ _ _ _ _ _ hs hb hx h=>match ix,h with
 |3,h=>by dsimp only;rw[<-hx 2 rfl];exact h
 |0,_|1,_|2,_|_+4,_=>trivial
 refine⟨?_,?_,trivial⟩
 exact xs4 rfl id fun cx=>aO (n:=2) rfl (by kernel_rfl) (by kernel_rfl) (cx.ou 5) (cx.bi 1 rfl) (nle rfl) rfl
 refine svA fun d a W X cx=>?_
 exact ar (n:=2) rfl (cx.ou 3) (cx.an 1) (by kernel_rfl) (by kernel_rfl) (by kernel_rfl) cx (cx.init 0 _ rfl) rfl (nle rfl) (by kernel_rfl) rfl rfl rfl (fun _ _ _ _ _=>id)
 intro b a X EG hD et fr af
 simp only[exq 2 ((dTn (hD 3 lq)))] at et
 clear hD;subst af;clear b a X
 refine aa (wp_ret ?_)
 refine bpr (.tuple #[.string s,.agg #[vi (opF s),vi (osF s)]]) (cq Try.results91 rpt (rpa (et.blk 1 rfl) 0 2)) ?_
 exact Ret.of (by rw[okF,if_pos (by omega)]) et.ext
theorem vL(a b:ByteArray)(w:World)(ha:a.size<=1000000)(hb:b.size<=1000000):
  Calls Try.prog 67 #[.string a,.string b] w (Ret (.int .i64 (iG a b)) w):=by
 go_enter Try.func67,Try.ntmps67
 have aq:=St.start w
 refine wp_seq (sqr (sqp [.k 4 (vi 0)] ?_))
 refine aa (wp_seq (sqr (sqp [.k 5 (.func (.func 91) #[] #[])] ?_)))
 refine aa (wp_seq (sqr (sqp [.m 11 5,.m 12 0] ?_)))
 refine sqv (.tuple #[.string (okF a),.agg #[vi (opF a),vi (osF a)]]) aq (eI rfl rfl rfl rfl rfl (fun _ _ _ h=>h) fun g d W X cx=>⟨_,_,fy (f:=91) (args:=#[.string a]) (args':=#[.string a]) rfl rfl (cx.ou 11) (by kernel_rfl) (br (cx.ou 12)) rfl,tM a _ (by omega)⟩) fun W5 bO=>?_
 refine sqp [.m 10 13,.k 14 (.string (okF a)),.k 15 (.agg #[vi (opF a),vi (osF a)])] ?_
 refine bW #[vi 0,vi 0] bO fun IK W9 bh=>?_
 refine sqp [.m 6 14] ?_
 refine aF (n:=2) 0 #[vi (opF a),vi (osF a)] bh fun pH cA=>?_
 refine aa (wp_seq (sqr (sqp [.m 17 5,.m 18 1] ?_)))
 refine sqv (.tuple #[.string (okF b),.agg #[vi (opF b),vi (osF b)]]) cA (eI rfl rfl rfl rfl rfl (fun _ _ _ h=>h) fun g d W X cx=>⟨_,_,fy (f:=91) (args:=#[.string b]) (args':=#[.string b]) rfl rfl (cx.ou 17) (by kernel_rfl) (br (cx.ou 18)) rfl,tM b _ (by omega)⟩) fun iY bn=>?_
 refine sqp [.m 16 19,.k 20 (.string (okF b)),.k 21 (.agg #[vi (opF b),vi (osF b)])] ?_
 refine bW #[vi 0,vi 0] bn fun EH wB cB=>?_
 refine sqp [.m 8 20] ?_
 refine aF (n:=2) 1 #[vi (opF b),vi (osF b)] cB fun wD dL=>?_
 refine aa (wp_seq (aj [0,0,3,0,8,0,32,127,0,256,0,1024,4095,8191,16383,32767] [[],[],[],[],[0],[],[1],[],[],[0],[],[1],[],[],[2]] [[],[],[],[],[],[],[],[],[],[],[],[],[],[2]] [] [.k 22 (.string (okF a)),.k 23 (.string (okF b)),.c 24 (vi (gR (okF a) (okF b))),.k 25 (vp IK),.c 26 (vi (opF a)),.k 27 (vp EH),.c 28 (vi (opF b)),.c 29 (vi (dF (opF a) (opF b))),.k 30 (.pointer (some ⟨IK,1,none⟩)),.c 31 (vi (osF a)),.k 32 (.pointer (some ⟨EH,1,none⟩)),.c 33 (vi (osF b)),.c 34 (vi (dF (osF a) (osF b))),.a 35,.c 36 (vi (orL [(gR (okF a) (okF b)),(dF (opF a) (opF b)),(dF (osF a) (osF b))])),.k 4 (vi (orL [(gR (okF a) (okF b)),(dF (opF a) (opF b)),(dF (osF a) (osF b))]))] (fun ix i d X=>match ix with|0|1|2|3|4|5|6|7|8|9|10|11|12=>True|13=>i 35= .slice (sA (d 35)) 3 3/\X 2=eO 3 1 (.slice (sA (d 35)) 3 3) 3 ([vi (gR (okF a) (okF b)),vi (dF (opF a) (opF b)),vi (dF (osF a) (osF b))])|_=>True) [0,1,2] [2,4,6,7,9,11,12,13,14] [(4,15,1,5),(17,0,15,32)] dL ?_ ?_ ?_))
 exact fun ix _ _ _ _ _ _ hs hb hx h=>match ix,h with
 |13,h=>by dsimp only;rw[<-hs 35 rfl,<-hb 35 rfl,<-hx 2 rfl];exact h
 |0,_|1,_|2,_|3,_|4,_|5,_|6,_|7,_|8,_|9,_|10,_|11,_|12,_|_+14,_=>trivial
 refine⟨?_,?_,?_,?_,?_,?_,?_,?_,?_,trivial⟩
 exact xsc rfl id rfl rfl fun cx=>⟨_,Bi (okF a) (okF b) _,(aK (cx.an 0) (cx.an 1))⟩
 exact xs4 rfl id fun cx=>ae rfl (by kernel_rfl) (cx.an 3) ((cx.bi 0 rfl).cell 0)
 exact xs4 rfl id fun cx=>ae rfl (by kernel_rfl) (cx.an 5) ((cx.bi 1 rfl).cell 0)
 exact xsc rfl id rfl rfl fun cx=>⟨_,tL (opF a) (opF b) _,(aK (cx.an 4) (cx.an 6))⟩
 exact xs4 rfl id fun cx=>ae rfl (by kernel_rfl) (cx.an 8) ((cx.bi 0 rfl).cell 1)
 exact xs4 rfl id fun cx=>ae rfl (by kernel_rfl) (cx.an 10) ((cx.bi 1 rfl).cell 1)
 exact xsc rfl id rfl rfl fun cx=>⟨_,tL (osF a) (osF b) _,(aK (cx.an 9) (cx.an 11))⟩
 refine svA fun g d W X cx=>?_
 have DU:g (.tmp 24)=vi (gR (okF a) (okF b)):=(cx.an 2)
 have Mq:g (.tmp 29)=vi (dF (opF a) (opF b)):=(cx.an 7)
 have Mr:g (.tmp 34)=vi (dF (osF a) (osF b)):=(cx.an 12)
 exact bY (e:=3) (xs:=[vi (gR (okF a) (okF b)),vi (dF (opF a) (opF b)),vi (dF (osF a) (osF b))]) rfl (by simp[go_sem,DU,Mq,Mr]) rfl (by decide) rfl rfl (fun _ _ _ _ _=> .intro)
 exact xsc rfl id rfl rfl fun cx=>⟨_,F0 _ _ [(gR (okF a) (okF b)),(dF (opF a) (opF b)),(dF (osF a) (osF b))] _ (At.of_own (cx.row (dTn (cx.an 13)).2 rfl)) (by simp),(br (dTn (cx.an 13)).1)⟩
 intro i d X BN hD fI fr af
 simp only[exq 2 ((dTn (hD 13 lq)).2)] at fI
 simp only[ed 35 ((dTn (hD 13 lq)).1)] at af
 generalize sA (d 35)=NY at fI af
 clear hD;subst af;clear i d X
 refine aa (wp_ret ?_)
 refine bpr (vi (orL [(gR (okF a) (okF b)),(dF (opF a) (opF b)),(dF (osF a) (osF b))])) (ak Try.results67 rpt) ?_
 exact Ret.of (by rw[<-F7]) fI.ext
theorem gl(a b:ByteArray)(w:World)(ha:a.size<=1000000)(hb:b.size<=1000000):
  Calls Try.prog 29 #[.string a,.string b] w (Ret (.bool (ag a b)) w):=by
 go_enter Try.func29,Try.ntmps29
 have aq:=St.start w
 refine wp_seq (sqr (sqp [.k 4 (.bool false)] ?_))
 refine aa (wp_seq (sqr (sqp [.m 5 0,.m 6 1] ?_)))
 refine sqk (vi (iG a b)) aq (fun cx=>⟨_,vL a b _ (by omega) (by omega),(aK (cx.ou 5) (cx.ou 6))⟩) fun W4 bQ=>?_
 refine sqp [.k 8 (.bool (decide (iG a b<0))),.m 4 8] ?_
 refine aa (wp_ret ?_)
 refine bpr (.bool (decide (iG a b<0))) (ak Try.results29 rpt) ?_
 exact Ret.bool (nV a b) bQ.ext
end
section
open Go.RowKit
def au(l:List UInt8)(m:Nat):Int:=((l.getD m 0).toNat:Int)
theorem cM(l:List UInt8)(m:Nat):0<=au l m/\au l m<256:=by
 have:=(l.getD m 0).toNat_lt
 unfold au;omega
section
variable{P:Program}{o:Oper}{ρ:Operand->Value}{W:World}
theorem cJ{t:TypeId}{x y:Operand}{s:ByteArray}{k:IntKind}{j:Int}{m:Nat}(h:o.op= .index t x y)(ht:P.underlying t=some .string)(hx:ρ x= .string s)(hy:ρ y= .int k j)(hj:j=(m:Int))(hm:m<s.size):
  (execOp ρ o).run P W= .ok (.value (.int .u8 (au (bl s) m))) W:=by
 subst hj
 unfold execOp;rw[h]
 have h1:(0:Int)<=(m:Int):=by omega
 have h2:s[m]? =some ((bl s).getD m 0):=by
  have hm':m<s.data.size:=hm
  rw[getElem?_pos s m hm]
  simp[bl,ByteArray.getElem_eq_getElem_data]
  rw[Array.getElem?_eq_getElem hm'];rfl
 simp only[hx,hy,Instr.index,asIntOf,Sem.run_bind,Sem.run_pure,Result.andThen_ok,run_underlying ht,h1,if_true,Int.toNat_natCast,h2]
 rfl
end
theorem jm(e:ByteArray)(m:Nat)(h:m+2<=e.size):(aI e m 2:Int)=au (bl e) m*256+au (bl e) (m+1):=by
 have e1:aI e m 2=de (((bl e).drop m).take 2):=by
  rw[aI,show (e.extract m (m+2)).data.toList=bl (e.extract m (m+2)) from rfl,dc,Nat.add_sub_cancel_left]
 have hl:m+2<=(bl e).length:=by rw[cF];exact h
 have e2:((bl e).drop m).take 2=[(bl e).getD m 0,(bl e).getD (m+1) 0]:=by
  have a1:(bl e).drop m=(bl e)[m]'(by omega)::(bl e).drop (m+1):=List.drop_eq_getElem_cons (by omega)
  have a2:(bl e).drop (m+1)=(bl e)[m+1]'(by omega)::(bl e).drop (m+1+1):=List.drop_eq_getElem_cons (by omega)
  rw[a1,List.take_succ_cons,a2,List.take_succ_cons,List.take_zero]
  simp[List.getD_eq_getElem?_getD,List.getElem?_eq_getElem (show m<(bl e).length by omega),List.getElem?_eq_getElem (show m+1<(bl e).length by omega)]
 rw[e1,e2,de,List.foldl_cons,List.foldl_cons,List.foldl_nil,au,au]
 omega
def og(e:ByteArray):Value:= .agg #[.string (qkF e),.int .i64 (opF e),.int .i64 (osF e),.bool (decide (4<=e.size))]
theorem A7{e:ByteArray}(h:e.size<4):og e= .agg #[.string ByteArray.empty,.int .i64 0,.int .i64 0,.bool false]:=by
 rw[og,qkF,opF,osF,if_pos h,if_pos h,if_pos h,decide_eq_false (by omega)]
theorem CE{e:ByteArray}{m:Nat}(h:e.size=m+4):og e= .agg #[.string (e.extract 0 m),.int .i64 (au (bl e) m*256+au (bl e) (m+1)),.int .i64 (au (bl e) (m+2)*256+au (bl e) (m+3)),.bool true]:=by
 rw[og,qkF,opF,osF,if_neg (by omega),if_neg (by omega),if_neg (by omega),decide_eq_true (by omega),pkF,ppF,psF,show e.size-4=m by omega,show e.size-2=m+2 by omega,jm _ _ (by omega),jm _ _ (by omega)]
theorem bqd(a b:ByteArray):(a.toList==b.toList)=decide (a=b):=by
 rw[Bool.eq_iff_iff,beq_iff_eq,ByteArray.toList_eq,ByteArray.toList_eq,decide_eq_true_eq]
 exact⟨fun h=>eP h,fun h=>by rw[h]⟩
theorem da{a x:ByteArray}(h:a.size<4/\x=a\/4<=a.size/\x=qkF a):okF a=x:=by
 rcases h with ⟨h,rfl⟩|⟨h,rfl⟩
 rw[okF,if_pos h]
 rw[okF,qkF,if_neg (by omega),if_neg (by omega)]
theorem q7{a b x y:ByteArray}(hx:okF a=x)(hy:okF b=y)(h:(x.toList==y.toList)=false):ag a b=ltB x y:=by
 rw[bqd] at h
 rw[li,hx,hy,if_pos (of_decide_eq_false h)]
theorem qD{a b x y:ByteArray}(hx:okF a=x)(hy:okF b=y)(h:(x.toList==y.toList)=true)(h2:opF a≠opF b):ag a b=decide (opF a<opF b):=by
 rw[bqd] at h
 rw[li,hx,hy,if_neg (by simpa using of_decide_eq_true h),if_pos h2]
theorem qH{a b x y:ByteArray}(hx:okF a=x)(hy:okF b=y)(h:(x.toList==y.toList)=true)(h2:opF a=opF b):ag a b=decide (osF a<osF b):=by
 rw[bqd] at h
 rw[li,hx,hy,if_neg (by simpa using of_decide_eq_true h),if_neg (by simpa using h2)]
theorem tD(e:ByteArray)(w:World)(he:e.size<=1000000):
  Calls Try.prog 68 #[.string e] w (Ret (og e) w):=by
 go_enter Try.func68,Try.ntmps68
 have aq:=St.start w
 refine wp_seq (sqr (bW #[.string ByteArray.empty,vi 0,vi 0,.bool false] aq fun bV W1 aC=>?_))
 refine aa (wp_seq (sqr (sqp [.m 4 0,.k 5 (vi ((e.size:Int))),sI 6 ((e.size:Int)-4) (by omega),.m 3 6] ?_)))
 refine aa (wp_seq (wp_seq (sqr (sqp [.m 7 3,.k 8 (.bool (decide ((e.size:Int)-4<0)))] ?_))))
 refine aa (wds (fun wC qm=>?_) fun wC qm=>?_)
 refine wp_seq (sqr (sqp [.k 9 (.agg #[.string ByteArray.empty,vi 0,vi 0,.bool false])] ?_))
 refine aF (n:=4) 0 #[.string ByteArray.empty,vi 0,vi 0,.bool false] aC fun ul cX=>?_
 refine aa (wp_ret (ai ?_))
 refine bpr (.agg #[.string ByteArray.empty,vi 0,vi 0,.bool false]) (ba (n:=4) Try.results68 rfl (by kernel_rfl) (by kernel_rfl) (cX.blk 0 rfl) rfl) ?_
 exact Ret.of (A7 (by omega)).symm cX.ext
 refine wp_skip (aa (wp_seq ?_))
 obtain⟨m,hm⟩:∃m:Nat,e.size=m+4:=⟨e.size-4,by omega⟩
 obtain⟨z,hz⟩:∃z,(e.size:Int)-4=z:=⟨_,rfl⟩
 rw[hz]
 obtain rfl:z=(m:Int):=by omega
 have IL:=cM (bl e) (m)
 have Ms:=cM (bl e) (m+1)
 have IM:=cM (bl e) (m+2)
 have IN:=cM (bl e) (m+3)
 refine aj [0,0,3,0,0,24,56,120,0,0,512,1792,3840,8184,0,0,32768,114688,245760,507904,0,0,2097152,7340032,15728640,33538048,67108856,134217727,268435455] [[],[],[],[],[],[],[],[],[],[],[],[],[],[],[],[],[],[],[],[],[],[],[],[],[],[],[],[],[0]] [[],[],[],[],[],[],[],[],[],[],[],[],[],[],[],[],[],[],[],[],[],[],[],[],[],[],[],[],[1]] [[],[],[],[],[],[],[],[],[],[],[],[],[],[],[],[],[],[],[],[],[],[],[],[],[],[],[],[],[0]] [.k 10 (.string e),.k 11 (vi ((m:Int))),.c 12 (.string (e.extract 0 m)),.k 13 (.string e),.k 14 (vi ((m:Int))),.c 15 (.int .u8 (au (bl e) m)),tW 16 .i64 (au (bl e) m) (au (bl e) m) (IntWalk.i64_in _ (by omega)),tI 17 ((au (bl e) m)*256) (by omega),.k 18 (.string e),.k 19 (vi ((m:Int))),tI 20 ((m:Int)+1) (by omega),.c 21 (.int .u8 (au (bl e) (m+1))),tW 22 .i64 (au (bl e) (m+1)) (au (bl e) (m+1)) (IntWalk.i64_in _ (by omega)),tI 23 (((au (bl e) m)*256)+(au (bl e) (m+1))) (by omega),.k 24 (.string e),.k 25 (vi ((m:Int))),tI 26 ((m:Int)+2) (by omega),.c 27 (.int .u8 (au (bl e) (m+2))),tW 28 .i64 (au (bl e) (m+2)) (au (bl e) (m+2)) (IntWalk.i64_in _ (by omega)),tI 29 ((au (bl e) (m+2))*256) (by omega),.k 30 (.string e),.k 31 (vi ((m:Int))),tI 32 ((m:Int)+3) (by omega),.c 33 (.int .u8 (au (bl e) (m+3))),tW 34 .i64 (au (bl e) (m+3)) (au (bl e) (m+3)) (IntWalk.i64_in _ (by omega)),tI 35 (((au (bl e) (m+2))*256)+(au (bl e) (m+3))) (by omega),.k 36 (.agg #[vi ((au (bl e) m)*256+(au (bl e) (m+1))),vi ((au (bl e) (m+2))*256+(au (bl e) (m+3)))]),.k 37 (.agg #[.string (e.extract 0 m),vi ((au (bl e) m)*256+(au (bl e) (m+1))),vi ((au (bl e) (m+2))*256+(au (bl e) (m+3))),.bool true]),.n] (fun ix b a X=>match ix with|0|1|2|3|4|5|6|7|8|9|10|11|12|13|14|15|16|17|18|19|20|21|22|23|24|25|26|27=>True|28=>X 1=eB bV 139 #[.string (e.extract 0 m),vi ((au (bl e) m)*256+(au (bl e) (m+1))),vi ((au (bl e) (m+2))*256+(au (bl e) (m+3))),.bool true]|_=>True) [1] [2,5,11,17,23,28] [(10,0,28,38)] aC ?_ ?_ ?_
 exact fun ix _ _ _ _ _ _ hs hb hx h=>match ix,h with
 |28,h=>by dsimp only;rw[<-hx 1 rfl];exact h
 |0,_|1,_|2,_|3,_|4,_|5,_|6,_|7,_|8,_|9,_|10,_|11,_|12,_|13,_|14,_|15,_|16,_|17,_|18,_|19,_|20,_|21,_|22,_|23,_|24,_|25,_|26,_|27,_|_+29,_=>trivial
 refine⟨?_,?_,?_,?_,?_,?_,trivial⟩
 exact xs4 rfl id fun cx=>iH (l:=m) rfl (by kernel_rfl) (cx.an 0) (cx.an 1) (by omega) (by omega)
 exact xs4 rfl id fun cx=>cJ (m:=m) rfl (by kernel_rfl) (cx.an 3) (cx.an 4) (by omega) (by omega)
 exact xs4 rfl id fun cx=>cJ (m:=m+1) rfl (by kernel_rfl) (cx.an 8) (cx.an 10) (by omega) (by omega)
 exact xs4 rfl id fun cx=>cJ (m:=m+2) rfl (by kernel_rfl) (cx.an 14) (cx.an 16) (by omega) (by omega)
 exact xs4 rfl id fun cx=>cJ (m:=m+3) rfl (by kernel_rfl) (cx.an 20) (cx.an 22) (by omega) (by omega)
 refine svA fun d a W X cx=>?_
 exact ar (n:=4) rfl (cx.ou 2) (cx.an 27) (by kernel_rfl) (by kernel_rfl) (by kernel_rfl) cx (cx.init 0 _ rfl) rfl (nle rfl) (by kernel_rfl) rfl rfl rfl (fun _ _ _ _ _=>id)
 intro b a X pH hD cA fr af
 simp only[exq 1 ((dTn (hD 28 lq)))] at cA
 clear hD;subst af;clear b a X
 refine aa (wp_ret ?_)
 refine bpr (.agg #[.string (e.extract 0 m),vi ((au (bl e) m)*256+(au (bl e) (m+1))),vi ((au (bl e) (m+2))*256+(au (bl e) (m+3))),.bool true]) (ba (n:=4) Try.results68 rfl (by kernel_rfl) (by kernel_rfl) (cA.blk 0 rfl) rfl) ?_
 exact Ret.of (CE hm).symm cA.ext
theorem nP(a b:ByteArray)(w:World)(ha:a.size<=1000000)(hb:b.size<=1000000):
  Calls Try.prog 30 #[.string a,.string b] w (Ret (.bool (ag a b)) w):=by
 go_enter Try.func30,Try.ntmps30
 have aq:=St.start w
 refine wp_seq (sqr (sqp [.k 4 (.bool false)] ?_))
 refine aa (wp_seq (sqr (sqp [.m 7 0] ?_)))
 refine sqk (.agg #[.string (qkF a),vi (opF a),vi (osF a),.bool (decide (4<=a.size))]) aq (fun cx=>⟨_,tD a _ (by omega),(br (cx.ou 7))⟩) fun W3 bG=>?_
 refine bW #[.string ByteArray.empty,vi 0,vi 0,.bool false] bG fun cw W4 bQ=>?_
 refine aF (n:=4) 0 #[.string (qkF a),vi (opF a),vi (osF a),.bool (decide (4<=a.size))] bQ fun W5 bO=>?_
 refine aa (wp_seq (sqr (sqp [.m 9 1] ?_)))
 refine sqk (.agg #[.string (qkF b),vi (opF b),vi (osF b),.bool (decide (4<=b.size))]) bO (fun cx=>⟨_,tD b _ (by omega),(br (cx.ou 9))⟩) fun W7 bF=>?_
 refine bW #[.string ByteArray.empty,vi 0,vi 0,.bool false] bF fun cC W8 bt=>?_
 refine aF (n:=4) 1 #[.string (qkF b),vi (opF b),vi (osF b),.bool (decide (4<=b.size))] bt fun W9 bh=>?_
 refine aa (wp_seq (wp_seq (sqr (sqp [.k 11 (.pointer (some ⟨cw,3,none⟩))] ?_))))
 refine al 0 bh ?_
 refine sqp [.k 13 (.bool (!(decide (4<=a.size))))] ?_
 refine aa ?_
 rcases Bool.eq_false_or_eq_true (decide (4<=a.size)) with dl|dl
 have fH:=of_decide_eq_true dl
 refine wp_cond_false (show Act.eval _ _= .bool false from(congrArg Value.bool (by rw[dl];rfl))) (wp_skip (aa (wp_seq (wp_seq (sqr (sqp [.k 16 (.pointer (some ⟨cC,3,none⟩))] ?_))))))
 refine al 1 bh ?_
 refine sqp [.k 18 (.bool (!(decide (4<=b.size))))] ?_
 refine aa ?_
 rcases Bool.eq_false_or_eq_true (decide (4<=b.size)) with ip|ip
 have lw:=of_decide_eq_true ip
 refine wp_cond_false (show Act.eval _ _= .bool false from(congrArg Value.bool (by rw[ip];rfl))) (wp_skip (aa (wp_seq (wp_seq (sqr (sqp [.k 21 (vp cw)] ?_))))))
 refine al 0 bh ?_
 refine sqp [.k 23 (vp cC)] ?_
 refine al 1 bh ?_
 refine sqp [.k 25 (.bool (!((qkF a).toList==(qkF b).toList)))] ?_
 refine aa ?_
 rcases Bool.eq_false_or_eq_true ((qkF a).toList==(qkF b).toList) with wE|wE
 refine wp_cond_false (show Act.eval _ _= .bool false from(congrArg Value.bool (by rw[wE];rfl))) (wp_skip (aa (wp_seq (wp_seq (sqr (sqp [.k 31 (.pointer (some ⟨cw,1,none⟩)),.k 32 (.pointer (some ⟨cw,1,none⟩))] ?_))))))
 refine al 0 bh ?_
 refine sqp [.k 34 (.pointer (some ⟨cC,1,none⟩)),.k 35 (.pointer (some ⟨cC,1,none⟩))] ?_
 refine al 1 bh ?_
 refine sqp [.k 37 (.bool ((opF a) != (opF b)))] ?_
 refine aa (wbs (fun eF=>?_) fun eF=>?_)
 have rE:=bne_iff_ne.1 eF
 refine wp_seq (sqr (sqp [.k 38 (.pointer (some ⟨cw,1,none⟩)),.k 39 (.pointer (some ⟨cw,1,none⟩))] ?_))
 refine al 0 bh ?_
 refine sqp [.k 41 (.pointer (some ⟨cC,1,none⟩)),.k 42 (.pointer (some ⟨cC,1,none⟩))] ?_
 refine al 1 bh ?_
 refine sqp [.k 44 (.bool (decide (opF a<opF b))),.m 4 44] ?_
 refine aa (wp_ret (ai ?_))
 refine bpr (.bool (decide (opF a<opF b))) (ak Try.results30 rpt) ?_
 exact Ret.bool (qD (da (.inr ⟨by omega,rfl⟩)) (da (.inr ⟨by omega,rfl⟩)) (by assumption) (by assumption)).symm bh.ext
 have rE:=bne_eq_false_iff_eq.1 eF
 refine wp_skip (aa (wp_seq (sqr (sqp [.k 45 (.pointer (some ⟨cw,1,none⟩)),.k 46 (.pointer (some ⟨cw,2,none⟩))] ?_))))
 refine al 0 bh ?_
 refine sqp [.k 48 (.pointer (some ⟨cC,1,none⟩)),.k 49 (.pointer (some ⟨cC,2,none⟩))] ?_
 refine al 1 bh ?_
 refine sqp [.k 51 (.bool (decide (osF a<osF b))),.m 4 51] ?_
 refine aa (wp_ret ?_)
 refine bpr (.bool (decide (osF a<osF b))) (ak Try.results30 rpt) ?_
 exact Ret.bool (qH (da (.inr ⟨by omega,rfl⟩)) (da (.inr ⟨by omega,rfl⟩)) (by assumption) (by assumption)).symm bh.ext
 refine wp_cond_true (show Act.eval _ _= .bool true from(congrArg Value.bool (by rw[wE];rfl))) (wp_seq (sqr (sqp [.k 26 (vp cw)] ?_)))
 refine al 0 bh ?_
 refine sqp [.k 28 (vp cC)] ?_
 refine al 1 bh ?_
 refine sql (.bool (ltB (qkF a) (qkF b))) bh (fun cx=>jI rfl (cx.ou 27) (cx.ou 29)) ?_
 refine sqp [.m 4 30] ?_
 refine aa (wp_ret (ai ?_))
 refine bpr (.bool (ltB (qkF a) (qkF b))) (ak Try.results30 rpt) ?_
 exact Ret.bool (q7 (da (.inr ⟨by omega,rfl⟩)) (da (.inr ⟨by omega,rfl⟩)) (by assumption)).symm bh.ext
 have lw:=of_decide_eq_false ip
 refine wp_cond_true (show Act.eval _ _= .bool true from(congrArg Value.bool (by rw[ip];rfl))) (sqr (sqp [.m 19 1,.k 20 (vp cC)] ?_))
 refine aF (n:=1) 1 #[.string b,vi (opF b),vi (osF b),.bool (decide (4<=b.size))] bh fun NZ dq=>?_
 refine aa (wp_seq (wp_seq (sqr (sqp [.k 21 (vp cw)] ?_))))
 refine al 0 dq ?_
 refine sqp [.k 23 (vp cC)] ?_
 refine al 1 dq ?_
 refine sqp [.k 25 (.bool (!((qkF a).toList==b.toList)))] ?_
 refine aa ?_
 rcases Bool.eq_false_or_eq_true ((qkF a).toList==b.toList) with DV|DV
 refine wp_cond_false (show Act.eval _ _= .bool false from(congrArg Value.bool (by rw[DV];rfl))) (wp_skip (aa (wp_seq (wp_seq (sqr (sqp [.k 31 (.pointer (some ⟨cw,1,none⟩)),.k 32 (.pointer (some ⟨cw,1,none⟩))] ?_))))))
 refine al 0 dq ?_
 refine sqp [.k 34 (.pointer (some ⟨cC,1,none⟩)),.k 35 (.pointer (some ⟨cC,1,none⟩))] ?_
 refine al 1 dq ?_
 refine sqp [.k 37 (.bool ((opF a) != (opF b)))] ?_
 refine aa (wbs (fun iQ=>?_) fun iQ=>?_)
 have m8:=bne_iff_ne.1 iQ
 refine wp_seq (sqr (sqp [.k 38 (.pointer (some ⟨cw,1,none⟩)),.k 39 (.pointer (some ⟨cw,1,none⟩))] ?_))
 refine al 0 dq ?_
 refine sqp [.k 41 (.pointer (some ⟨cC,1,none⟩)),.k 42 (.pointer (some ⟨cC,1,none⟩))] ?_
 refine al 1 dq ?_
 refine sqp [.k 44 (.bool (decide (opF a<opF b))),.m 4 44] ?_
 refine aa (wp_ret (ai ?_))
 refine bpr (.bool (decide (opF a<opF b))) (ak Try.results30 rpt) ?_
 exact Ret.bool (qD (da (.inr ⟨by omega,rfl⟩)) (da (.inl ⟨by omega,rfl⟩)) (by assumption) (by assumption)).symm dq.ext
 have m8:=bne_eq_false_iff_eq.1 iQ
 refine wp_skip (aa (wp_seq (sqr (sqp [.k 45 (.pointer (some ⟨cw,1,none⟩)),.k 46 (.pointer (some ⟨cw,2,none⟩))] ?_))))
 refine al 0 dq ?_
 refine sqp [.k 48 (.pointer (some ⟨cC,1,none⟩)),.k 49 (.pointer (some ⟨cC,2,none⟩))] ?_
 refine al 1 dq ?_
 refine sqp [.k 51 (.bool (decide (osF a<osF b))),.m 4 51] ?_
 refine aa (wp_ret ?_)
 refine bpr (.bool (decide (osF a<osF b))) (ak Try.results30 rpt) ?_
 exact Ret.bool (qH (da (.inr ⟨by omega,rfl⟩)) (da (.inl ⟨by omega,rfl⟩)) (by assumption) (by assumption)).symm dq.ext
 refine wp_cond_true (show Act.eval _ _= .bool true from(congrArg Value.bool (by rw[DV];rfl))) (wp_seq (sqr (sqp [.k 26 (vp cw)] ?_)))
 refine al 0 dq ?_
 refine sqp [.k 28 (vp cC)] ?_
 refine al 1 dq ?_
 refine sql (.bool (ltB (qkF a) b)) dq (fun cx=>jI rfl (cx.ou 27) (cx.ou 29)) ?_
 refine sqp [.m 4 30] ?_
 refine aa (wp_ret (ai ?_))
 refine bpr (.bool (ltB (qkF a) b)) (ak Try.results30 rpt) ?_
 exact Ret.bool (q7 (da (.inr ⟨by omega,rfl⟩)) (da (.inl ⟨by omega,rfl⟩)) (by assumption)).symm dq.ext
 have fH:=of_decide_eq_false dl
 refine wp_cond_true (show Act.eval _ _= .bool true from(congrArg Value.bool (by rw[dl];rfl))) (sqr (sqp [.m 14 0,.k 15 (vp cw)] ?_))
 refine aF (n:=1) 0 #[.string a,vi (opF a),vi (osF a),.bool (decide (4<=a.size))] bh fun Rl fa=>?_
 refine aa (wp_seq (wp_seq (sqr (sqp [.k 16 (.pointer (some ⟨cC,3,none⟩))] ?_))))
 refine al 1 fa ?_
 refine sqp [.k 18 (.bool (!(decide (4<=b.size))))] ?_
 refine aa ?_
 rcases Bool.eq_false_or_eq_true (decide (4<=b.size)) with wF|wF
 have K8:=of_decide_eq_true wF
 refine wp_cond_false (show Act.eval _ _= .bool false from(congrArg Value.bool (by rw[wF];rfl))) (wp_skip (aa (wp_seq (wp_seq (sqr (sqp [.k 21 (vp cw)] ?_))))))
 refine al 0 fa ?_
 refine sqp [.k 23 (vp cC)] ?_
 refine al 1 fa ?_
 refine sqp [.k 25 (.bool (!(a.toList==(qkF b).toList)))] ?_
 refine aa ?_
 rcases Bool.eq_false_or_eq_true (a.toList==(qkF b).toList) with zr|zr
 refine wp_cond_false (show Act.eval _ _= .bool false from(congrArg Value.bool (by rw[zr];rfl))) (wp_skip (aa (wp_seq (wp_seq (sqr (sqp [.k 31 (.pointer (some ⟨cw,1,none⟩)),.k 32 (.pointer (some ⟨cw,1,none⟩))] ?_))))))
 refine al 0 fa ?_
 refine sqp [.k 34 (.pointer (some ⟨cC,1,none⟩)),.k 35 (.pointer (some ⟨cC,1,none⟩))] ?_
 refine al 1 fa ?_
 refine sqp [.k 37 (.bool ((opF a) != (opF b)))] ?_
 refine aa (wbs (fun zt=>?_) fun zt=>?_)
 have IP:=bne_iff_ne.1 zt
 refine wp_seq (sqr (sqp [.k 38 (.pointer (some ⟨cw,1,none⟩)),.k 39 (.pointer (some ⟨cw,1,none⟩))] ?_))
 refine al 0 fa ?_
 refine sqp [.k 41 (.pointer (some ⟨cC,1,none⟩)),.k 42 (.pointer (some ⟨cC,1,none⟩))] ?_
 refine al 1 fa ?_
 refine sqp [.k 44 (.bool (decide (opF a<opF b))),.m 4 44] ?_
 refine aa (wp_ret (ai ?_))
 refine bpr (.bool (decide (opF a<opF b))) (ak Try.results30 rpt) ?_
 exact Ret.bool (qD (da (.inl ⟨by omega,rfl⟩)) (da (.inr ⟨by omega,rfl⟩)) (by assumption) (by assumption)).symm fa.ext
 have IP:=bne_eq_false_iff_eq.1 zt
 refine wp_skip (aa (wp_seq (sqr (sqp [.k 45 (.pointer (some ⟨cw,1,none⟩)),.k 46 (.pointer (some ⟨cw,2,none⟩))] ?_))))
 refine al 0 fa ?_
 refine sqp [.k 48 (.pointer (some ⟨cC,1,none⟩)),.k 49 (.pointer (some ⟨cC,2,none⟩))] ?_
 refine al 1 fa ?_
 refine sqp [.k 51 (.bool (decide (osF a<osF b))),.m 4 51] ?_
 refine aa (wp_ret ?_)
 refine bpr (.bool (decide (osF a<osF b))) (ak Try.results30 rpt) ?_
 exact Ret.bool (qH (da (.inl ⟨by omega,rfl⟩)) (da (.inr ⟨by omega,rfl⟩)) (by assumption) (by assumption)).symm fa.ext
 refine wp_cond_true (show Act.eval _ _= .bool true from(congrArg Value.bool (by rw[zr];rfl))) (wp_seq (sqr (sqp [.k 26 (vp cw)] ?_)))
 refine al 0 fa ?_
 refine sqp [.k 28 (vp cC)] ?_
 refine al 1 fa ?_
 refine sql (.bool (ltB a (qkF b))) fa (fun cx=>jI rfl (cx.ou 27) (cx.ou 29)) ?_
 refine sqp [.m 4 30] ?_
 refine aa (wp_ret (ai ?_))
 refine bpr (.bool (ltB a (qkF b))) (ak Try.results30 rpt) ?_
 exact Ret.bool (q7 (da (.inl ⟨by omega,rfl⟩)) (da (.inr ⟨by omega,rfl⟩)) (by assumption)).symm fa.ext
 have K8:=of_decide_eq_false wF
 refine wp_cond_true (show Act.eval _ _= .bool true from(congrArg Value.bool (by rw[wF];rfl))) (sqr (sqp [.m 19 1,.k 20 (vp cC)] ?_))
 refine aF (n:=1) 1 #[.string b,vi (opF b),vi (osF b),.bool (decide (4<=b.size))] fa fun PU eU=>?_
 refine aa (wp_seq (wp_seq (sqr (sqp [.k 21 (vp cw)] ?_))))
 refine al 0 eU ?_
 refine sqp [.k 23 (vp cC)] ?_
 refine al 1 eU ?_
 refine sqp [.k 25 (.bool (!(a.toList==b.toList)))] ?_
 refine aa ?_
 rcases Bool.eq_false_or_eq_true (a.toList==b.toList) with zu|zu
 refine wp_cond_false (show Act.eval _ _= .bool false from(congrArg Value.bool (by rw[zu];rfl))) (wp_skip (aa (wp_seq (wp_seq (sqr (sqp [.k 31 (.pointer (some ⟨cw,1,none⟩)),.k 32 (.pointer (some ⟨cw,1,none⟩))] ?_))))))
 refine al 0 eU ?_
 refine sqp [.k 34 (.pointer (some ⟨cC,1,none⟩)),.k 35 (.pointer (some ⟨cC,1,none⟩))] ?_
 refine al 1 eU ?_
 refine sqp [.k 37 (.bool ((opF a) != (opF b)))] ?_
 refine aa (wbs (fun zv=>?_) fun zv=>?_)
 have IQ:=bne_iff_ne.1 zv
 refine wp_seq (sqr (sqp [.k 38 (.pointer (some ⟨cw,1,none⟩)),.k 39 (.pointer (some ⟨cw,1,none⟩))] ?_))
 refine al 0 eU ?_
 refine sqp [.k 41 (.pointer (some ⟨cC,1,none⟩)),.k 42 (.pointer (some ⟨cC,1,none⟩))] ?_
 refine al 1 eU ?_
 refine sqp [.k 44 (.bool (decide (opF a<opF b))),.m 4 44] ?_
 refine aa (wp_ret (ai ?_))
 refine bpr (.bool (decide (opF a<opF b))) (ak Try.results30 rpt) ?_
 exact Ret.bool (qD (da (.inl ⟨by omega,rfl⟩)) (da (.inl ⟨by omega,rfl⟩)) (by assumption) (by assumption)).symm eU.ext
 have IQ:=bne_eq_false_iff_eq.1 zv
 refine wp_skip (aa (wp_seq (sqr (sqp [.k 45 (.pointer (some ⟨cw,1,none⟩)),.k 46 (.pointer (some ⟨cw,2,none⟩))] ?_))))
 refine al 0 eU ?_
 refine sqp [.k 48 (.pointer (some ⟨cC,1,none⟩)),.k 49 (.pointer (some ⟨cC,2,none⟩))] ?_
 refine al 1 eU ?_
 refine sqp [.k 51 (.bool (decide (osF a<osF b))),.m 4 51] ?_
 refine aa (wp_ret ?_)
 refine bpr (.bool (decide (osF a<osF b))) (ak Try.results30 rpt) ?_
 exact Ret.bool (qH (da (.inl ⟨by omega,rfl⟩)) (da (.inl ⟨by omega,rfl⟩)) (by assumption) (by assumption)).symm eU.ext
 refine wp_cond_true (show Act.eval _ _= .bool true from(congrArg Value.bool (by rw[zu];rfl))) (wp_seq (sqr (sqp [.k 26 (vp cw)] ?_)))
 refine al 0 eU ?_
 refine sqp [.k 28 (vp cC)] ?_
 refine al 1 eU ?_
 refine sql (.bool (ltB a b)) eU (fun cx=>jI rfl (cx.ou 27) (cx.ou 29)) ?_
 refine sqp [.m 4 30] ?_
 refine aa (wp_ret (ai ?_))
 refine bpr (.bool (ltB a b)) (ak Try.results30 rpt) ?_
 exact Ret.bool (q7 (da (.inl ⟨by omega,rfl⟩)) (da (.inl ⟨by omega,rfl⟩)) (by assumption)).symm eU.ext
end
section
open Go.RowKit
theorem cT(a b:Int):(strOfNums [a,b]).size=2:=by simp[strOfNums,ByteArray.size]
def hdB(lv right:Int)(dead:Bool)(high:ByteArray):ByteArray:=(strOfNums [lv,if dead then 1 else 0]++aQ (right+1))++high
def itB(lv kid:Int)(e:ByteArray):ByteArray:=if 0<lv then e++aQ kid else e
def cL(dead:Bool)(high x:ByteArray):Bool:=dead||(!(high.toList==(⟨#[]⟩:ByteArray).toList)&&!ag x high)
theorem AO(pg lv rt fr:Int)(hi:ByteArray)(dead:Bool)(EA:Option Addr)(en ec:Nat)(w:World)(hlv:0<=lv/\lv<=255)(hrt: -1<=rt/\rt<=1000000)(hh:hi.size<=1000000):
  Calls Try.prog 79 #[.agg #[.int .i64 pg,.int .i64 lv,.int .i64 rt,.string hi,.bool dead,.slice EA en ec,.int .i64 fr]] w (Ret (.string (hdB lv rt dead hi)) w):=by
 go_enter Try.func79,Try.ntmps79
 have aq:=St.start w
 refine wp_seq (sqr ?_)
 refine bX #[vi pg,vi lv,vi rt,.string hi,.bool dead,.slice EA en ec,vi fr] aq fun bB W1 aC=>?_
 refine sqp [.k 2 (.string ⟨#[]⟩)] ?_
 refine aa (wp_seq (sqr (sqp [.k 3 (vi 0)] ?_)))
 refine aa (wp_seq (wp_seq (sqr (sqp [.k 4 (.pointer (some ⟨bB,4,none⟩))] ?_))))
 refine al 0 aC ?_
 refine aa (wbs (fun rF=>?_) fun rF=>?_)
 refine sqr (sqp [.k 3 (vi 1)] ?_)
 refine aa (wp_seq (aj [0,1,3,0,8,31,63,0,128,384,896,2047,0,4096,16383,32767] [[],[0],[],[],[],[],[1],[],[0],[],[],[],[],[0]] [[],[],[],[],[],[1]] [] [.k 6 (.pointer (some ⟨bB,1,none⟩)),.c 7 (vi lv),tW 8 .u8 lv lv (IntWalk.u8_in _ (by omega)),.k 9 (vi 1),tW 10 .u8 1 1 (by decide),.a 11,.c 12 (.string (strOfNums ([lv,1]))),.k 13 (.pointer (some ⟨bB,2,none⟩)),.c 14 (vi rt),tI 15 (rt+1) (by omega),.c 16 (.string (aQ (rt+1))),tS 17 (strOfNums ([lv,1])) (aQ (rt+1)) (by(try simp only[ByteArray.size_append,bf,cT]);omega),.k 18 (.pointer (some ⟨bB,3,none⟩)),.c 19 (.string hi),tS 20 ((strOfNums ([lv,1]))++(aQ (rt+1))) hi (by(try simp only[ByteArray.size_append,bf,cT]);omega),.k 2 (.string (((strOfNums ([lv,1]))++(aQ (rt+1)))++hi))] (fun ix d b X=>match ix with|0|1|2|3|4=>True|5=>d 11= .slice (sA (b 11)) 2 2/\X 1=eO 5 1 (.slice (sA (b 11)) 2 2) 2 ([.int .u8 lv,.int .u8 1])|_=>True) [0,1] [1,5,6,8,10,13] [(2,15,1,3),(3,0,15,18)] aC ?_ ?_ ?_))
 exact fun ix _ _ _ _ _ _ hs hb hx h=>match ix,h with
 |5,h=>by dsimp only;rw[<-hs 11 rfl,<-hb 11 rfl,<-hx 1 rfl];exact h
 |0,_|1,_|2,_|3,_|4,_|_+6,_=>trivial
 refine⟨?_,?_,?_,?_,?_,?_,trivial⟩
 exact xs4 rfl id fun cx=>ae rfl (by kernel_rfl) (cx.an 0) ((cx.bi 0 rfl).cell 1)
 refine svA fun f b W X cx=>?_
 have jR:f (.tmp 8)= .int .u8 lv:=(cx.an 2)
 have eY:f (.tmp 10)= .int .u8 1:=(cx.an 4)
 exact bY (e:=5) (xs:=[.int .u8 lv,.int .u8 1]) rfl (by simp[go_sem,jR,eY]) rfl (by decide) rfl rfl (fun _ _ _ _ _=> .intro)
 exact xs4 rfl id fun cx=>cd (e:=5) rfl (by kernel_rfl) (by kernel_rfl) (by kernel_rfl) (dTn (cx.an 5)).1 (cx.row (dTn (cx.an 5)).2 rfl)
 exact xs4 rfl id fun cx=>ae rfl (by kernel_rfl) (cx.an 7) ((cx.bi 0 rfl).cell 2)
 exact xsc rfl id rfl rfl fun cx=>⟨_,ii (rt+1) _,(br (cx.an 9))⟩
 exact xs4 rfl id fun cx=>ae rfl (by kernel_rfl) (cx.an 12) ((cx.bi 0 rfl).cell 3)
 intro d b X W8 hD bt fr af
 simp only[exq 1 ((dTn (hD 5 lq)).2)] at bt
 simp only[ed 11 ((dTn (hD 5 lq)).1)] at af
 generalize sA (b 11)=rG at bt af
 clear hD;subst af;clear d b X
 refine aa (wp_ret ?_)
 refine bpr (.string (((strOfNums ([lv,1]))++(aQ (rt+1)))++hi)) (ak Try.results79 rpt) ?_
 exact Ret.of (by simp[hdB, *]) bt.ext
 refine wp_skip (aa (wp_seq (aj [0,1,3,0,8,31,63,0,128,384,896,2047,0,4096,16383,32767] [[],[0],[],[],[],[],[1],[],[0],[],[],[],[],[0]] [[],[],[],[],[],[1]] [] [.k 6 (.pointer (some ⟨bB,1,none⟩)),.c 7 (vi lv),tW 8 .u8 lv lv (IntWalk.u8_in _ (by omega)),.k 9 (vi 0),tW 10 .u8 0 0 (by decide),.a 11,.c 12 (.string (strOfNums ([lv,0]))),.k 13 (.pointer (some ⟨bB,2,none⟩)),.c 14 (vi rt),tI 15 (rt+1) (by omega),.c 16 (.string (aQ (rt+1))),tS 17 (strOfNums ([lv,0])) (aQ (rt+1)) (by(try simp only[ByteArray.size_append,bf,cT]);omega),.k 18 (.pointer (some ⟨bB,3,none⟩)),.c 19 (.string hi),tS 20 ((strOfNums ([lv,0]))++(aQ (rt+1))) hi (by(try simp only[ByteArray.size_append,bf,cT]);omega),.k 2 (.string (((strOfNums ([lv,0]))++(aQ (rt+1)))++hi))] (fun ix d b X=>match ix with|0|1|2|3|4=>True|5=>d 11= .slice (sA (b 11)) 2 2/\X 1=eO 5 1 (.slice (sA (b 11)) 2 2) 2 ([.int .u8 lv,.int .u8 0])|_=>True) [0,1] [1,5,6,8,10,13] [(2,15,1,3),(3,0,15,18)] aC ?_ ?_ ?_)))
 exact fun ix _ _ _ _ _ _ hs hb hx h=>match ix,h with
 |5,h=>by dsimp only;rw[<-hs 11 rfl,<-hb 11 rfl,<-hx 1 rfl];exact h
 |0,_|1,_|2,_|3,_|4,_|_+6,_=>trivial
 refine⟨?_,?_,?_,?_,?_,?_,trivial⟩
 exact xs4 rfl id fun cx=>ae rfl (by kernel_rfl) (cx.an 0) ((cx.bi 0 rfl).cell 1)
 refine svA fun f b W X cx=>?_
 have jR:f (.tmp 8)= .int .u8 lv:=(cx.an 2)
 have eY:f (.tmp 10)= .int .u8 0:=(cx.an 4)
 exact bY (e:=5) (xs:=[.int .u8 lv,.int .u8 0]) rfl (by simp[go_sem,jR,eY]) rfl (by decide) rfl rfl (fun _ _ _ _ _=> .intro)
 exact xs4 rfl id fun cx=>cd (e:=5) rfl (by kernel_rfl) (by kernel_rfl) (by kernel_rfl) (dTn (cx.an 5)).1 (cx.row (dTn (cx.an 5)).2 rfl)
 exact xs4 rfl id fun cx=>ae rfl (by kernel_rfl) (cx.an 7) ((cx.bi 0 rfl).cell 2)
 exact xsc rfl id rfl rfl fun cx=>⟨_,ii (rt+1) _,(br (cx.an 9))⟩
 exact xs4 rfl id fun cx=>ae rfl (by kernel_rfl) (cx.an 12) ((cx.bi 0 rfl).cell 3)
 intro d b X W9 hD bh fr af
 simp only[exq 1 ((dTn (hD 5 lq)).2)] at bh
 simp only[ed 11 ((dTn (hD 5 lq)).1)] at af
 generalize sA (b 11)=zw at bh af
 clear hD;subst af;clear d b X
 refine aa (wp_ret ?_)
 refine bpr (.string (((strOfNums ([lv,0]))++(aQ (rt+1)))++hi)) (ak Try.results79 rpt) ?_
 exact Ret.of (by simp[hdB, *]) bh.ext
theorem tJ(lv rt:Int)(hi:ByteArray)(ok dead:Bool)(EA SA KA:Option Addr)(en ec sn sc kn kc:Nat)(w:World)(hlv:0<=lv/\lv<=255)(hrt: -1<=rt/\rt<=1000000)(hh:hi.size<=1000000):
  Calls Try.prog 86 #[.agg #[.bool ok,.bool dead,.int .i64 lv,.int .i64 rt,.string hi,.slice EA en ec,.slice SA sn sc,.slice KA kn kc]] w (Ret (.string (hdB lv rt dead hi)) w):=by
 go_enter Try.func86,Try.ntmps86
 have aq:=St.start w
 refine wp_seq (sqr ?_)
 refine bX #[.bool ok,.bool dead,vi lv,vi rt,.string hi,.slice EA en ec,.slice SA sn sc,.slice KA kn kc] aq fun bB W1 aC=>?_
 refine sqp [.k 2 (.string ⟨#[]⟩)] ?_
 refine aa (wp_seq (sqr (sqp [.k 3 (vi 0)] ?_)))
 refine aa (wp_seq (wp_seq (sqr (sqp [.k 4 (.pointer (some ⟨bB,1,none⟩))] ?_))))
 refine al 0 aC ?_
 refine aa (wbs (fun rF=>?_) fun rF=>?_)
 refine sqr (sqp [.k 3 (vi 1)] ?_)
 refine aa (wp_seq (aj [0,1,3,0,8,31,63,0,128,384,896,2047,0,4096,16383,32767] [[],[0],[],[],[],[],[1],[],[0],[],[],[],[],[0]] [[],[],[],[],[],[1]] [] [.k 6 (.pointer (some ⟨bB,2,none⟩)),.c 7 (vi lv),tW 8 .u8 lv lv (IntWalk.u8_in _ (by omega)),.k 9 (vi 1),tW 10 .u8 1 1 (by decide),.a 11,.c 12 (.string (strOfNums ([lv,1]))),.k 13 (.pointer (some ⟨bB,3,none⟩)),.c 14 (vi rt),tI 15 (rt+1) (by omega),.c 16 (.string (aQ (rt+1))),tS 17 (strOfNums ([lv,1])) (aQ (rt+1)) (by(try simp only[ByteArray.size_append,bf,cT]);omega),.k 18 (.pointer (some ⟨bB,4,none⟩)),.c 19 (.string hi),tS 20 ((strOfNums ([lv,1]))++(aQ (rt+1))) hi (by(try simp only[ByteArray.size_append,bf,cT]);omega),.k 2 (.string (((strOfNums ([lv,1]))++(aQ (rt+1)))++hi))] (fun ix d b X=>match ix with|0|1|2|3|4=>True|5=>d 11= .slice (sA (b 11)) 2 2/\X 1=eO 5 1 (.slice (sA (b 11)) 2 2) 2 ([.int .u8 lv,.int .u8 1])|_=>True) [0,1] [1,5,6,8,10,13] [(2,15,1,3),(3,0,15,18)] aC ?_ ?_ ?_))
 exact fun ix _ _ _ _ _ _ hs hb hx h=>match ix,h with
 |5,h=>by dsimp only;rw[<-hs 11 rfl,<-hb 11 rfl,<-hx 1 rfl];exact h
 |0,_|1,_|2,_|3,_|4,_|_+6,_=>trivial
 refine⟨?_,?_,?_,?_,?_,?_,trivial⟩
 exact xs4 rfl id fun cx=>ae rfl (by kernel_rfl) (cx.an 0) ((cx.bi 0 rfl).cell 2)
 refine svA fun f b W X cx=>?_
 have jR:f (.tmp 8)= .int .u8 lv:=(cx.an 2)
 have eY:f (.tmp 10)= .int .u8 1:=(cx.an 4)
 exact bY (e:=5) (xs:=[.int .u8 lv,.int .u8 1]) rfl (by simp[go_sem,jR,eY]) rfl (by decide) rfl rfl (fun _ _ _ _ _=> .intro)
 exact xs4 rfl id fun cx=>cd (e:=5) rfl (by kernel_rfl) (by kernel_rfl) (by kernel_rfl) (dTn (cx.an 5)).1 (cx.row (dTn (cx.an 5)).2 rfl)
 exact xs4 rfl id fun cx=>ae rfl (by kernel_rfl) (cx.an 7) ((cx.bi 0 rfl).cell 3)
 exact xsc rfl id rfl rfl fun cx=>⟨_,fG (rt+1) _,(br (cx.an 9))⟩
 exact xs4 rfl id fun cx=>ae rfl (by kernel_rfl) (cx.an 12) ((cx.bi 0 rfl).cell 4)
 intro d b X W8 hD bt fr af
 simp only[exq 1 ((dTn (hD 5 lq)).2)] at bt
 simp only[ed 11 ((dTn (hD 5 lq)).1)] at af
 generalize sA (b 11)=rG at bt af
 clear hD;subst af;clear d b X
 refine aa (wp_ret ?_)
 refine bpr (.string (((strOfNums ([lv,1]))++(aQ (rt+1)))++hi)) (ak Try.results86 rpt) ?_
 exact Ret.of (by simp[hdB, *]) bt.ext
 refine wp_skip (aa (wp_seq (aj [0,1,3,0,8,31,63,0,128,384,896,2047,0,4096,16383,32767] [[],[0],[],[],[],[],[1],[],[0],[],[],[],[],[0]] [[],[],[],[],[],[1]] [] [.k 6 (.pointer (some ⟨bB,2,none⟩)),.c 7 (vi lv),tW 8 .u8 lv lv (IntWalk.u8_in _ (by omega)),.k 9 (vi 0),tW 10 .u8 0 0 (by decide),.a 11,.c 12 (.string (strOfNums ([lv,0]))),.k 13 (.pointer (some ⟨bB,3,none⟩)),.c 14 (vi rt),tI 15 (rt+1) (by omega),.c 16 (.string (aQ (rt+1))),tS 17 (strOfNums ([lv,0])) (aQ (rt+1)) (by(try simp only[ByteArray.size_append,bf,cT]);omega),.k 18 (.pointer (some ⟨bB,4,none⟩)),.c 19 (.string hi),tS 20 ((strOfNums ([lv,0]))++(aQ (rt+1))) hi (by(try simp only[ByteArray.size_append,bf,cT]);omega),.k 2 (.string (((strOfNums ([lv,0]))++(aQ (rt+1)))++hi))] (fun ix d b X=>match ix with|0|1|2|3|4=>True|5=>d 11= .slice (sA (b 11)) 2 2/\X 1=eO 5 1 (.slice (sA (b 11)) 2 2) 2 ([.int .u8 lv,.int .u8 0])|_=>True) [0,1] [1,5,6,8,10,13] [(2,15,1,3),(3,0,15,18)] aC ?_ ?_ ?_)))
 exact fun ix _ _ _ _ _ _ hs hb hx h=>match ix,h with
 |5,h=>by dsimp only;rw[<-hs 11 rfl,<-hb 11 rfl,<-hx 1 rfl];exact h
 |0,_|1,_|2,_|3,_|4,_|_+6,_=>trivial
 refine⟨?_,?_,?_,?_,?_,?_,trivial⟩
 exact xs4 rfl id fun cx=>ae rfl (by kernel_rfl) (cx.an 0) ((cx.bi 0 rfl).cell 2)
 refine svA fun f b W X cx=>?_
 have jR:f (.tmp 8)= .int .u8 lv:=(cx.an 2)
 have eY:f (.tmp 10)= .int .u8 0:=(cx.an 4)
 exact bY (e:=5) (xs:=[.int .u8 lv,.int .u8 0]) rfl (by simp[go_sem,jR,eY]) rfl (by decide) rfl rfl (fun _ _ _ _ _=> .intro)
 exact xs4 rfl id fun cx=>cd (e:=5) rfl (by kernel_rfl) (by kernel_rfl) (by kernel_rfl) (dTn (cx.an 5)).1 (cx.row (dTn (cx.an 5)).2 rfl)
 exact xs4 rfl id fun cx=>ae rfl (by kernel_rfl) (cx.an 7) ((cx.bi 0 rfl).cell 3)
 exact xsc rfl id rfl rfl fun cx=>⟨_,fG (rt+1) _,(br (cx.an 9))⟩
 exact xs4 rfl id fun cx=>ae rfl (by kernel_rfl) (cx.an 12) ((cx.bi 0 rfl).cell 4)
 intro d b X W9 hD bh fr af
 simp only[exq 1 ((dTn (hD 5 lq)).2)] at bh
 simp only[ed 11 ((dTn (hD 5 lq)).1)] at af
 generalize sA (b 11)=zw at bh af
 clear hD;subst af;clear d b X
 refine aa (wp_ret ?_)
 refine bpr (.string (((strOfNums ([lv,0]))++(aQ (rt+1)))++hi)) (ak Try.results86 rpt) ?_
 exact Ret.of (by simp[hdB, *]) bh.ext
theorem k7(pg lv rt fr:Int)(hi:ByteArray)(dead:Bool)(EA:Option Addr)(en ec:Nat)(e:ByteArray)(sl kid:Int)(w:World)(he:e.size<=1000000):
  Calls Try.prog 78 #[.agg #[.int .i64 pg,.int .i64 lv,.int .i64 rt,.string hi,.bool dead,.slice EA en ec,.int .i64 fr],.agg #[.string e,.int .i64 sl,.int .i64 kid]] w (Ret (.string (itB lv kid e)) w):=by
 go_enter Try.func78,Try.ntmps78
 have aq:=St.start w
 refine wp_seq (sqr ?_)
 refine bX #[vi pg,vi lv,vi rt,.string hi,.bool dead,.slice EA en ec,vi fr] aq fun bV W1 aC=>?_
 refine bX #[.string e,vi sl,vi kid] aC fun lX W2 aV=>?_
 refine sqp [.k 4 (.string ⟨#[]⟩)] ?_
 refine aa (wp_seq (wp_seq (sqr (sqp [.k 5 (.pointer (some ⟨bV,1,none⟩))] ?_))))
 refine al 0 aV ?_
 refine sqp [.k 7 (.bool (decide (0<lv)))] ?_
 refine aa (wds (fun wG qn=>?_) fun wG qn=>?_)
 refine wp_seq (bC [0,1,0,4,12,31,63] [[],[1],[],[1]] [.k 8 (vp lX),.c 9 (.string e),.k 10 (.pointer (some ⟨lX,2,none⟩)),.c 11 (vi kid),.c 12 (.string (aQ kid)),tS 13 e (aQ kid) (by(try simp only[ByteArray.size_append,bf,cT]);omega),.k 4 (.string (e++(aQ kid)))] [0,1] [1,3,4] [(4,6,1,5),(3,0,6,9)] aV ?_ fun W8 bt=>?_)
 refine⟨?_,?_,?_,trivial⟩
 exact xs4 rfl id fun cx=>ae rfl (by kernel_rfl) (cx.an 0) ((cx.bi 1 rfl).cell 0)
 exact xs4 rfl id fun cx=>ae rfl (by kernel_rfl) (cx.an 2) ((cx.bi 1 rfl).cell 2)
 exact xsc rfl id rfl rfl fun cx=>⟨_,ii kid _,(br (cx.an 3))⟩
 refine aa (wp_ret (ai ?_))
 refine bpr (.string (e++(aQ kid))) (ak Try.results78 rpt) ?_
 exact Ret.of (by simp[itB, *]) bt.ext
 refine wp_skip (aa (wp_seq (sqr (sqp [.k 14 (vp lX)] ?_))))
 refine al 1 aV ?_
 refine sqp [.m 4 15] ?_
 refine aa (wp_ret ?_)
 refine bpr (.string e) (ak Try.results78 rpt) ?_
 exact Ret.of (by simp[itB, *]) aV.ext
theorem lm(e:ByteArray)(lv kid:Int)(w:World)(he:e.size<=1000000):
  Calls Try.prog 60 #[.string e,.int .i64 lv,.int .i64 kid] w (Ret (.string (itB lv kid e)) w):=by
 go_enter Try.func60,Try.ntmps60
 have aq:=St.start w
 refine wp_seq (sqr (sqp [.k 6 (.string ⟨#[]⟩)] ?_))
 refine aa (wp_seq (wp_seq (sqr (sqp [.m 7 1,.k 8 (.bool (decide (0<lv)))] ?_))))
 refine aa (wds (fun aR Mt=>?_) fun aR Mt=>?_)
 refine wp_seq (sqr (sqp [.m 9 0,.m 10 2] ?_))
 refine sqk (.string (aQ kid)) aq (fun cx=>⟨_,fG kid _,(br (cx.ou 10))⟩) fun W7 bF=>?_
 refine sqp [sS 12 e (aQ kid) (by(try simp only[ByteArray.size_append,bf,cT]);omega),.m 6 12] ?_
 refine aa (wp_ret (ai ?_))
 refine bpr (.string (e++(aQ kid))) (ak Try.results60 rpt) ?_
 exact Ret.of (by simp[itB, *]) bF.ext
 refine wp_skip (aa (wp_seq (sqr (sqp [.m 13 0,.m 6 13] ?_))))
 refine aa (wp_ret ?_)
 refine bpr (.string e) (ak Try.results60 rpt) ?_
 exact Ret.of (by simp[itB, *]) aq.ext
theorem mL(pg lv rt fr:Int)(hi:ByteArray)(dead:Bool)(EA:Option Addr)(en ec:Nat)(x:ByteArray)(w:World)(hh:hi.size<=1000000)(hx:x.size<=1000000):
  Calls Try.prog 49 #[.agg #[.int .i64 pg,.int .i64 lv,.int .i64 rt,.string hi,.bool dead,.slice EA en ec,.int .i64 fr],.string x] w (Ret (.bool (cL dead hi x)) w):=by
 go_enter Try.func49,Try.ntmps49
 have aq:=St.start w
 refine wp_seq (sqr ?_)
 refine bX #[vi pg,vi lv,vi rt,.string hi,.bool dead,.slice EA en ec,vi fr] aq fun bV W1 aC=>?_
 refine sqp [.k 4 (.bool false)] ?_
 refine aa (wp_seq (sqr (sqp [.k 5 (.pointer (some ⟨bV,4,none⟩))] ?_)))
 refine al 0 aC ?_
 refine sqp [.m 7 6] ?_
 refine nM 7 [8,9,10,11,12,13,14,15,16,17] ?_ aC rfl (fun hq=>?_) fun um ca=>?_
 rotate_left
 ·have hq_:=hq
  try simp only[zB] at hq_
  refine sqp [.k 8 (.pointer (some ⟨bV,3,none⟩))] ?_
  refine al 0 aC ?_
  refine sqp [.k 10 (.bool (!(hi.toList==((⟨#[]⟩:ByteArray)).toList))),.m 11 10] ?_
  refine nM 11 [12,13,14,15,16] ?_ aC rfl (fun hq=>?_) fun ow cj=>?_
  rotate_left
  have hq_:=hq
  try simp only[zB] at hq_
  refine sqp [.m 12 1,.k 13 (.pointer (some ⟨bV,3,none⟩))] ?_
  refine al 0 aC ?_
  refine sqk (.bool (ag x hi)) aC (fun cx=>⟨_,gl x hi _ (by omega) (by omega),(aK (cx.ou 12) (cx.ou 14))⟩) fun kO bE=>?_
  refine sqp [.k 16 (.bool (!(ag x hi)))] ?_
  exact sqE bE
  refine dn ?_
  refine sqp [sPa 17 (!(hi.toList==((⟨#[]⟩:ByteArray)).toList)) (!(ag x hi))] ?_
  exact sqE cj
 refine dn ?_
 refine sqp [sPo 18 dead ((!(hi.toList==((⟨#[]⟩:ByteArray)).toList))&&(!(ag x hi))),.m 4 18] ?_
 refine aa (wp_ret ?_)
 refine bpr (.bool (dead||((!(hi.toList==((⟨#[]⟩:ByteArray)).toList))&&(!(ag x hi))))) (ak Try.results49 rpt) ?_
 exact Ret.bool (by simp[cL, *]) ca.ext
theorem y6(lv rt:Int)(hi:ByteArray)(ok dead:Bool)(EA SA KA:Option Addr)(en ec sn sc kn kc:Nat)(x:ByteArray)(w:World)(hh:hi.size<=1000000)(hx:x.size<=1000000):
  Calls Try.prog 56 #[.agg #[.bool ok,.bool dead,.int .i64 lv,.int .i64 rt,.string hi,.slice EA en ec,.slice SA sn sc,.slice KA kn kc],.string x] w (Ret (.bool (cL dead hi x)) w):=by
 go_enter Try.func56,Try.ntmps56
 have aq:=St.start w
 refine wp_seq (sqr ?_)
 refine bX #[.bool ok,.bool dead,vi lv,vi rt,.string hi,.slice EA en ec,.slice SA sn sc,.slice KA kn kc] aq fun bV W1 aC=>?_
 refine sqp [.k 4 (.bool false)] ?_
 refine aa (wp_seq (wp_seq (sqr (sqp [.k 6 (.pointer (some ⟨bV,1,none⟩))] ?_))))
 refine al 0 aC ?_
 refine aa (wbs (fun N0=>?_) fun N0=>?_)
 refine wp_seq (sqr (sqp [.k 4 (.bool true)] ?_))
 refine aa (wp_ret (ai ?_))
 refine bpr (.bool true) (ak Try.results56 rpt) ?_
 exact Ret.bool (by simp[cL, *]) aC.ext
 refine wp_skip (aa (wp_seq (sqr (sqp [.m 8 1,.k 9 (.pointer (some ⟨bV,4,none⟩))] ?_))))
 refine al 0 aC ?_
 refine sqk (.bool (ag x hi)) aC (fun cx=>⟨_,nP x hi _ (by omega) (by omega),(aK (cx.ou 8) (cx.ou 10))⟩) fun ul cX=>?_
 refine sqp [.m 5 11] ?_
 refine aa (wp_seq (sqr (sqp [.k 12 (.pointer (some ⟨bV,4,none⟩))] ?_)))
 refine al 0 cX ?_
 refine sqp [.k 14 (.bool (!(hi.toList==((⟨#[]⟩:ByteArray)).toList))),.m 15 14] ?_
 refine sqw 15 [16,17] rfl (fun _=>sqp [.m 16 5,.k 17 (.bool (!(ag x hi)))] sqe) ?_
 refine sqp [sPa 18 (!(hi.toList==((⟨#[]⟩:ByteArray)).toList)) (!(ag x hi)),.m 4 18] ?_
 refine aa (wp_ret ?_)
 refine bpr (.bool ((!(hi.toList==((⟨#[]⟩:ByteArray)).toList))&&(!(ag x hi)))) (ak Try.results56 rpt) ?_
 exact Ret.bool (by simp[cL, *]) cX.ext
end
section
open Go.RowKit
def j5(its:List ByteArray)(d:Nat)(i:Nat):Nat:=cm i (its.drop i) d
theorem qL{its:List ByteArray}{d i:Nat}(h:i<its.length):j5 its d i=if (its.getD i ByteArray.empty).toList==(⟨#[]⟩:ByteArray).toList then i else j5 its d (i+1):=by
 have e:its.drop i=its.getD i ByteArray.empty::its.drop (i+1):=by
  rw[List.drop_eq_getElem_cons h,List.getD_eq_getElem?_getD,List.getElem?_eq_getElem h];rfl
 rw[j5,e,cm,bqd]
 by_cases hz:(its.getD i ByteArray.empty).size=0
 rw[if_pos hz,if_pos]
 have:its.getD i ByteArray.empty=⟨#[]⟩:=by
  apply eP
  have h1:(bl (its.getD i ByteArray.empty)).length=0:=by rw[cF,hz]
  rw[List.eq_nil_of_length_eq_zero h1];rfl
 rw[this];simp
 rw[if_neg hz,if_neg]
 rfl
 intro h2
 have h3:=of_decide_eq_true h2
 rw[h3] at hz
 exact hz rfl
theorem A6{its:List ByteArray}{d i:Nat}(h:its.length<=i):j5 its d i=d:=by
 rw[j5,List.drop_of_length_le h];rfl
section
variable{P:Program}{o:Oper}{ρ:Operand->Value}{W:World}
theorem vu{x y:Operand}{ts:Array TypeId}{k k':IntKind}{a b z:Int}(h:o.op= .call {callee:= .builtin .max,args:=#[x,y],argTypes:=ts})(hx:ρ x= .int k a)(hy:ρ y= .int k' b)(hz:max a b=z):(execOp ρ o).run P W= .ok (.value (.int k z)) W:=by
 subst hz
 unfold execOp;rw[h]
 simp only[resolve,invoke,builtin,List.map_toArray,List.map_cons,List.map_nil,hx,hy,Sem.run_bind,Sem.run_pure,Result.andThen_ok]
 have e:(Builtin.max_ ts o.type #[.int k a,.int k' b]).run P W= .ok (.int k (max a b)) W:=by
  unfold Builtin.max_
  show (List.foldlM Builtin.max2 (.int k a) [.int k' b]).run P W= _
  simp only[List.foldlM_cons,List.foldlM_nil,Builtin.max2]
  have h2:(if a<b then b else a)=max a b:=by omega
  rw[h2]
  rfl
 rw[e]
 rfl
end
def ju(its:List ByteArray):Int:=j5 its (max 1 its.length) 1
theorem Bv(k l:Int)(IA:Option Addr)(ic:Nat)(its:List ByteArray)(w:World)(hA:At w IA (its.map Value.string))(hl:its.length<=100000):
  Calls Try.prog 59 #[.agg #[.int .i64 k,.int .i64 l,.slice IA its.length ic]] w (Ret (.int .i64 (ju its)) w):=by
 go_enter Try.func59,Try.ntmps59
 have aq:=St.start w
 refine wp_seq (sqr ?_)
 refine bX #[vi k,vi l,.slice IA its.length ic] aq fun bB W1 aC=>?_
 refine sqp [.k 2 (vi 0)] ?_
 refine aa (wp_seq (wp_seq (sqr (sqp [.k 3 (vi 1)] ?_))))
 refine aa (wp_block ?_)
 refine aX (fun t_ mz az W=>∃j:Nat,1<=j/\j<=max 1 its.length/\j5 its (max 1 its.length) 1=j5 its (max 1 its.length) j/\mz=max 1 its.length-j/\az=⟨(ovr (jv az) [(2,2,1,[vi ((j:Int))]),(0,4,14,[])] t_).toArray,[]⟩/\St w [] [eB bB 51 #[vi k,vi l,.slice IA its.length ic]] W) (max 1 its.length-1) ?_ ?_
 exact⟨1,Nat.le_refl _,by omega,rfl,rfl,(by kernel_rfl),aC.pk [0]⟩
 rintro n4 a4 W4 ⟨j,hj1,hj,hI,rfl,hj_,bQ⟩
 refine ovz hj_ fun N1=>?_
 refine wp_seq (wp_seq (sqr (sqp [.m 4 3,.k 5 (.pointer (some ⟨bB,2,none⟩))] ?_)))
 refine al 0 bQ ?_
 refine sqp [.k 7 (vi ((its.length:Int))),.k 8 (.bool (decide ((j:Int)<(its.length:Int))))] ?_
 refine aa (wds (fun gA j9=>?_) fun gA j9=>?_)
 refine wp_skip (aa (wp_seq (wp_block (wp_seq (sqr (sqp [.k 11 (.pointer (some ⟨bB,2,none⟩))] ?_))))))
 refine al 0 bQ ?_
 refine sqp [.m 13 3] ?_
 refine sql (.pointer (some ((ad IA).add j))) bQ (fun cx=>bo (e:=9) (m:=j) rfl (by kernel_rfl) (by kernel_rfl) (cx.ou 12) (cx.ou 13) (by omega) (by omega) (hA.ext cx.upd.to_ext) (by simp)) ?_
 refine sql (.string (its.getD j ByteArray.empty)) bQ (fun cx=>ae rfl (by kernel_rfl) (cx.ou 14) (At.cellAd (hA.ext cx.upd.to_ext) (p8 (by omega)))) ?_
 refine sqp [.k 16 (.bool ((its.getD j ByteArray.empty).toList==((⟨#[]⟩:ByteArray)).toList))] ?_
 refine aa (wbs (fun ip=>?_) fun ip=>?_)
 refine wp_seq (sqr (sqp [.m 17 3,.m 2 17] ?_))
 refine aa (wp_ret (aB (ai (ai (aB (ai ?_))))))
 refine bpr (vi ((j:Int))) (ak Try.results59 rpt) ?_
 exact Ret.of (by rw[ju,hI,qL (by omega),if_pos (by assumption)]) bQ.ext
 refine wp_skip (aw (aa (sqr (sqp [.m 9 3,sI 10 ((j:Int)+1) (by omega),.m 3 10] ?_))))
 refine aa ?_
 refine⟨max 1 its.length-((j+1)),by omega,?_⟩
 exact⟨(j+1),by omega,by omega,by rw[hI,qL (by omega),if_neg (Bool.eq_false_iff.1 (by assumption))],rfl,(by kernel_rfl),bQ.pk [0]⟩
 refine wp_exit (am (am (bj (aa (wp_seq (sqr (sqp [.k 18 (.pointer (some ⟨bB,2,none⟩))] ?_)))))))
 refine al 0 bQ ?_
 refine sqp [.k 20 (vi ((its.length:Int)))] ?_
 refine sql (vi (max 1 (its.length:Int))) bQ (fun cx=>vu rfl (cx.co _) (cx.ou 20) rfl) ?_
 refine sqp [.m 2 21] ?_
 refine aa (wp_ret ?_)
 refine bpr (vi (max 1 (its.length:Int))) (ak Try.results59 rpt) ?_
 exact Ret.of (by rw[ju,hI,A6 (by omega)];congr 1;omega) bQ.ext
end
section
open Go.RowKit
abbrev EdT:=Int×Int×ByteArray
def edC(e:EdT):List Value:=[.int .i64 e.1,.int .i64 e.2.1,.string e.2.2]
def mw(l:List EdT)(w:World)(e:Ending)(w':World):Prop:=∃A c,e= .returned (.slice A l.length c)/\w'.ownsRow w.heap.size 99 3 (.slice A l.length c) l.length (l.flatMap edC)/\Ext w w'
def dU(n:Int):List EdT:=[(n,-1,strOfNums [2]),(n,0,hdB 0 (-1) false ⟨#[]⟩)]
theorem zh(n:Int)(w:World):
  Calls Try.prog 80 #[.int .i64 n] w (mw (dU n) w):=by
 go_enter Try.func80,Try.ntmps80
 have aq:=St.start w
 refine wp_seq (sqr (sqp [.k 2 (.slice none 0 0)] ?_))
 refine aa (wp_seq (aj [0,0,2,7,0,0,32,112,255,511] [[],[],[0]] [[],[0],[],[],[],[],[],[],[1]] [] [.k 3 (vi n),.a 4,.c 5 (.string (strOfNums ([2]))),.k 6 (.agg #[vi n,vi (-1),.string (strOfNums ([2]))]),.k 7 (vi n),.k 8 (.agg #[.bool false,.bool false,vi 0,vi (-1),.string ByteArray.empty,.slice none 0 0,.slice none 0 0,.slice none 0 0]),.c 9 (.string (hdB 0 (-1) false ByteArray.empty)),.k 10 (.agg #[vi n,vi 0,.string (hdB 0 (-1) false ByteArray.empty)]),.a 11,.a 2] (fun ix d b X=>match ix with|0=>True|1=>d 4= .slice (sA (b 4)) 1 1/\X 0=eO 5 1 (.slice (sA (b 4)) 1 1) 1 ([.int .u8 2])|2|3|4|5|6|7=>True|8=>d 11= .slice ((some ⟨(pb' (b 11)),0,none⟩)) 2 2/\X 1=eO 99 3 (.slice ((some ⟨(pb' (b 11)),0,none⟩)) 2 2) 2 ([vi n,vi (-1),.string (strOfNums ([2])),vi n,vi 0,.string (hdB 0 (-1) false ByteArray.empty)])|9=>d 2= .slice ((some ⟨(pb' (b 11)),0,none⟩)) 2 2|_=>True) [0,1] [1,2,6,8,9] [(2,9,1,3),(0,0,9,9)] aq ?_ ?_ ?_))
 exact fun ix _ _ _ _ _ _ hs hb hx h=>match ix,h with
 |1,h=>by dsimp only;rw[<-hs 4 rfl,<-hb 4 rfl,<-hx 0 rfl];exact h
 |8,h=>by dsimp only;rw[<-hs 11 rfl,<-hb 11 rfl,<-hx 1 rfl];exact h
 |9,h=>by dsimp only;rw[<-hs 2 rfl,<-hb 11 rfl];exact h
 |0,_|2,_|3,_|4,_|5,_|6,_|7,_|_+10,_=>trivial
 refine⟨?_,?_,?_,?_,?_,trivial⟩
 refine svA fun f b W X cx=>?_
 exact bY (e:=5) (xs:=[.int .u8 2]) rfl (by simp[go_sem,cx.sees.const]) rfl (by decide) rfl rfl (fun _ _ _ _ _=> .intro)
 exact xs4 rfl id fun cx=>cd (e:=5) rfl (by kernel_rfl) (by kernel_rfl) (by kernel_rfl) (dTn (cx.an 1)).1 (cx.row (dTn (cx.an 1)).2 rfl)
 exact xsc rfl id rfl rfl fun cx=>⟨_,tJ 0 (-1) ByteArray.empty false false _ _ _ _ _ _ _ _ _ _ (by omega) (by omega) (by first|omega|decide),(br (cx.an 5))⟩
 refine svA fun f b W X cx=>?_
 have IR:f (.tmp 6)= .agg #[vi n,vi (-1),.string (strOfNums ([2]))]:=(cx.an 3)
 have eY:f (.tmp 10)= .agg #[vi n,vi 0,.string (hdB 0 (-1) false ByteArray.empty)]:=(cx.an 7)
 exact bS (e:=99) (sz:=3) (xs:=[vi n,vi (-1),.string (strOfNums ([2])),vi n,vi 0,.string (hdB 0 (-1) false ByteArray.empty)]) rfl (by simp[go_sem,IR,eY]) rfl (by decide) rfl rfl (fun _ _ _ _ _=> .intro)
 exact sv rfl rfl rfl rfl rfl _ (fun _ _ _ h=>h) (fun b g h=>by rw[h 11 (by decide)]) fun f b W X cx=>aN rfl (dTn (cx.an 8)).1
 intro d b X W2 hD aV fr af
 simp only[exq 0 ((dTn (hD 1 lq)).2),exq 1 ((dTn (hD 8 lq)).2)] at aV
 simp only[ed 4 ((dTn (hD 1 lq)).1),ed 11 ((dTn (hD 8 lq)).1),ed 2 ((dTn (hD 9 lq)))] at af
 generalize sA (b 4)=PV,pb' (b 11)=K9 at aV af
 clear hD;subst af;clear d b X
 refine aa (wp_ret ?_)
 refine bpr (.slice ((some ⟨K9,0,none⟩)) 2 2) (ak Try.results80 rpt) ?_
 have ho_:=aV.own' 1 rfl
 exact⟨_,_,rfl,ho_,aV.ext⟩
end
section
open Go.RowKit
theorem gK(e:EdT):(edC e).length=3:=rfl
theorem BG{l:List EdT}{k:Nat}(h:k<l.length):∃p s b,l[k]? =some (p,s,b):=⟨l[k].1,l[k].2.1,l[k].2.2,List.getElem?_eq_getElem h⟩
theorem DG{o:Oper}{c:Operand->Value}{W:World}{x y:Operand}{a b:Int}{s:ByteArray}(h:o.op= .binOp .neq 99 x y 99)(hx:c x= .agg #[.int .i64 a,.int .i64 b,.string s])(hy:c y= .agg #[.int .i64 a,.int .i64 b,.string s]):
  (execOp c o).run Try.prog W= .ok (.value (.bool false)) W:=by
 unfold execOp;rw[h]
 simp[go_sem,hx,hy]
theorem tH(A B:Option Addr)(c d:Nat)(l:List EdT)(w:World)(hA:At w A (l.flatMap edC))(hB:At w B (l.flatMap edC))(hl:l.length<=1000):
  Calls Try.prog 20 #[.slice A l.length c,.slice B l.length d] w (Ret (.bool true) w):=by
 go_enter Try.func20,Try.ntmps20
 have aq:=St.start w
 refine wp_seq (sqr (sqp [.k 4 (.bool false)] ?_))
 refine aa (wp_seq (wp_seq (sqr (sqp [.m 6 0,.k 7 (vi ((l.length:Int))),.m 8 1,.k 9 (vi ((l.length:Int))),.e 10 (.bool ((l.length:Int) != (l.length:Int))) (.bool false) (congrArg Value.bool (show ((l.length:Int) != (l.length:Int))=false from(bne_self_eq_false _)))] ?_))))
 refine aa (wcf rfl (wp_skip (aa (wp_seq (wp_seq (sqr (sqp [.k 5 (vi 0)] ?_)))))))
 refine aa (wp_block ?_)
 refine aX (fun t_ mz az W=>∃k:Nat,k<=l.length/\mz=l.length-k/\az=⟨(ovr (jv az) [(4,4,1,[vi ((k:Int))]),(5,11,15,[])] t_).toArray,[]⟩/\St w [] [] W) (l.length-0) ?_ ?_
 exact⟨0,Nat.zero_le _,rfl,(by kernel_rfl),aq.pk []⟩
 rintro n8 a8 W8 ⟨k,hk,rfl,hj_,bt⟩
 refine ovz hj_ fun IT=>?_
 refine wp_seq (wp_seq (sqr (sqp [.m 11 5,.m 12 0,.k 13 (vi ((l.length:Int))),.k 14 (.bool (decide ((k:Int)<(l.length:Int))))] ?_)))
 refine aa (wds (fun dl fH=>?_) fun dl fH=>?_)
 refine wp_skip (aa (wp_seq (wp_block (wp_seq ?_))))
 obtain⟨fp,fs,fb,hfj⟩:=BG (l:=l) (k:=k) (by omega)
 refine bC [0,0,3,7,0,0,48,112,255] [] [.k 17 (.slice A l.length c),.k 18 (vi ((k:Int))),.c 19 (.pointer (some ((ad A).add (k*3)))),.c 20 (.agg #[vi fp,vi fs,.string fb]),.k 21 (.slice B l.length d),.k 22 (vi ((k:Int))),.c 23 (.pointer (some ((ad B).add (k*3)))),.c 24 (.agg #[vi fp,vi fs,.string fb]),.c 25 (.bool false)] [] [2,3,6,7,8] [(17,0,9,26)] bt ?_ fun iY bn=>?_
 refine⟨?_,?_,?_,?_,?_,trivial⟩
 exact xs4 rfl id fun cx=>aD (e:=99) (m:=k) (sz:=3) rfl (by kernel_rfl) (by kernel_rfl) (cx.an 0) (cx.an 1) (by omega) (by omega) (hA.ext cx.upd.to_ext) (be (sz:=3) gK (by decide) (by omega))
 exact xs4 rfl id fun cx=>aY (f:=edC) (m:=k) (sz:=3) (off:=0) (n:=3) rfl (by kernel_rfl) (by kernel_rfl) (cx.an 2) rfl gK (hA.ext cx.upd.to_ext) hfj (fun k hk=>match k,hk with|0,_=>rfl|1,_=>rfl|2,_=>rfl|k+3,hk=>absurd hk (by omega))
 exact xs4 rfl id fun cx=>aD (e:=99) (m:=k) (sz:=3) rfl (by kernel_rfl) (by kernel_rfl) (cx.an 4) (cx.an 5) (by omega) (by omega) (hB.ext cx.upd.to_ext) (be (sz:=3) gK (by decide) (by omega))
 exact xs4 rfl id fun cx=>aY (f:=edC) (m:=k) (sz:=3) (off:=0) (n:=3) rfl (by kernel_rfl) (by kernel_rfl) (cx.an 6) rfl gK (hB.ext cx.upd.to_ext) hfj (fun k hk=>match k,hk with|0,_=>rfl|1,_=>rfl|2,_=>rfl|k+3,hk=>absurd hk (by omega))
 exact xs4 rfl id fun cx=>DG rfl (cx.an 3) (cx.an 7)
 refine aa (wcf rfl (wp_skip (aw (aa (sqr (sqp [.m 15 5,sI 16 ((k:Int)+1) (by omega),.m 5 16] ?_))))))
 refine aa ?_
 refine⟨l.length-((k+1)),by omega,?_⟩
 exact⟨(k+1),by omega,rfl,(by kernel_rfl),bn.pk []⟩
 refine wp_exit (am (am (bj (aa (wp_seq (sqr (sqp [.k 4 (.bool true)] ?_)))))))
 refine aa (wp_ret ?_)
 refine bpr (.bool true) (ak Try.results20 rpt) ?_
 exact Ret.of rfl bt.ext
end
section
open Go.RowKit
theorem lV:∀(i:Nat) (a b:List ByteArray),bp i (a++b)=bp i a++bp (i+a.length) b
 |_,[],_=>rfl
 |i,x::a,b=>by
  have h:=lV (i+1) a b
  have e:i+1+a.length=i+(x::a).length:=by rw[List.length_cons];omega
  rw[e] at h
  rw[List.cons_append,bp,bp,h]
  split<;>rfl
def gO(its:List ByteArray)(i:Nat):List (Nat×ByteArray):=bp 1 ((its.drop 1).take (i-1))
theorem t4{its:List ByteArray}{i:Nat}(h1:1<=i)(h:i<its.length):gO its (i+1)=gO its i++(if (its.getD i ByteArray.empty).size=0 then [] else [(i,its.getD i ByteArray.empty)]):=by
 have e1:(its.drop 1)[i-1]? =some (its.getD i ByteArray.empty):=by
  rw[List.getElem?_drop,show 1+(i-1)=i by omega,List.getD_eq_getElem?_getD,List.getElem?_eq_getElem h];rfl
 rw[gO,gO,show i+1-1=i-1+1 by omega,List.take_add_one,e1,lV,List.length_take,List.length_drop,Nat.min_eq_left (by omega),show 1+(i-1)=i by omega]
 show _++bp i [its.getD i ByteArray.empty]= _
 rw[bp]
 rfl
theorem DL{its:List ByteArray}{i:Nat}(h:its.length<=i):gO its i=bp 1 (its.drop 1):=by
 rw[gO,List.take_of_length_le (by rw[List.length_drop];omega)]
theorem DC{its:List ByteArray}{i:Nat}(h:1<=i):(gO its i).length<=i-1:=by
 have:=pS 1 ((its.drop 1).take (i-1))
 rw[List.length_take] at this
 rw[gO];omega
def srt(lv:Int)(l:List (Nat×ByteArray)):List EnD:=(cW ((l.map (cc lv)).reverse)).reverse
theorem mi(lv:Int)(l:List (Nat×ByteArray)):(srt lv l).length=l.length:=by rw[srt,List.length_reverse,lp,List.length_reverse,List.length_map]
theorem C1{lv:Int}{l:List (Nat×ByteArray)}{p:Nat×ByteArray}{m:Nat}(hm:m<=l.length)(h1:∀y∈(srt lv l).drop m,ag (cc lv p).1 y.1=true)(h2:m=0\/∃y,(srt lv l)[m-1]? =some y/\ag (cc lv p).1 y.1=false):
  srt lv (l++[p])=(srt lv l).take m++cc lv p::(srt lv l).drop m:=by
 have e:srt lv (l++[p])=(gP (cc lv p) (cW ((l.map (cc lv)).reverse))).reverse:=by
  rw[srt,List.map_append,List.reverse_append];rfl
 rw[e]
 refine yK ?_ h1 fun y hy=>?_
 rw[<-List.reverse_append,List.take_append_drop,srt,List.reverse_reverse]
 rcases h2 with rfl|⟨z,hz,hl⟩
 simp at hy
 rcases Nat.eq_zero_or_pos m with h0|h0
 subst h0;simp at hy
 have hs:=mi lv l
 rw[List.getLast?_eq_getElem?,List.length_take,Nat.min_eq_left (by omega),List.getElem?_take,if_pos (by omega),hz] at hy
 rw[<-Option.some.inj hy];exact hl
theorem im{k:Int}{its:List ByteArray}(h:k≠2\/its=[]\/(∃x l,its=x::l/\iF x=false)\/(∃x l,its=x::l/\((bp 1 l).any (cv (aI x 0 1)))=true)):cf k its=none:=by
 unfold cf
 rcases h with h|rfl|⟨x,l,rfl,h⟩|⟨x,l,rfl,h⟩
 rw[if_pos h]
 split<;>rfl
 split
 rfl
 simp[h]
 split
 rfl
 simp only[h]
 split<;>rfl
theorem gn{x:ByteArray}{l:List ByteArray}(h:iF x=true)(hb:((bp 1 l).any (cv (aI x 0 1)))=false):
  cf 2 (x::l)=some ⟨aI x 0 1,(aI x 2 2:Int)-1,x.extract 4 x.size,aI x 1 1==1,srt (aI x 0 1) (bp 1 l),cm 1 l (l.length+1)⟩:=by
 unfold cf
 simp only[h,hb]
 rfl
abbrev PgS:=Int×Int×List ByteArray
def aP:PgS:=(0,0,[])
def bz(its:List ByteArray)(k:Nat)(s:ByteArray):List ByteArray:=(its++List.replicate (k+1-its.length) ByteArray.empty).set k s
theorem ja(its:List ByteArray)(k:Nat)(s:ByteArray):(bz its k s).length=max its.length (k+1):=by
 rw[bz,List.length_set,List.length_append,List.length_replicate];omega
def ux(s:ByteArray):Int:=if s.size=0 then 0 else au (bl s) 0
def edP(p:PgS)(e:EdT):PgS:=if e.2.1<0 then (ux e.2.2,0,[]) else (p.1,p.2.1,bz p.2.2 e.2.1.toNat e.2.2)
def oq(n:Nat)(e:EdT):Bool:=decide (0<=e.1/\e.1<n/\  -1<=e.2.1/\e.2.1<=100)
def bK(ps:List PgS)(e:EdT):List PgS:=if oq ps.length e then ps.set e.1.toNat (edP (ps.getD e.1.toNat aP) e) else ps
def doB(ps:List PgS)(l:List EdT):List PgS:=l.foldl bK ps
theorem gr(ps:List PgS)(e:EdT):(bK ps e).length=ps.length:=by
 unfold bK;split
 rw[List.length_set]
 rfl
theorem b5:∀(l:List EdT) (ps:List PgS),(doB ps l).length=ps.length
 | [],_=>rfl
 |e::l,ps=>by
  show (doB (bK ps e) l).length= _
  rw[b5 l,gr]
theorem vl{ps:List PgS}{l:List EdT}{k:Nat}(h:k<l.length):doB ps (l.take (k+1))=bK (doB ps (l.take k)) l[k]:=by
 rw[List.take_add_one,List.getElem?_eq_getElem h,doB,List.foldl_append];rfl
def ao(ps:List PgS)(n:Int):Option NoD:=if 0<=n/\n<ps.length then cf (ps.getD n.toNat aP).1 (ps.getD n.toNat aP).2.2 else none
abbrev TaT:=ByteArray×Int×Int
structure PuT where
 root:Int
 pos:Int
 leaf:Int
 left:List TaT
 fro:Int
 to:Int
 spl:Bool
def cl(x:ByteArray):List EnD->Int->Int
 | [],d=>d
 |e::l,d=>cl x l (if d<0\/ag x e.1=false then e.2.2 else d)
def ay:ByteArray:=bu ByteArray.empty 0 0
def dC(pg lv:Int):Nat->List EnD->List EdT
 |_,[]=>[]
 |i,e::l=>(pg,(i:Int),itB lv e.2.2 e.1)::dC pg lv (i+1) l
def aE(pg lv rt:Int)(hi:ByteArray)(es:List EnD):List EdT:=[(pg,-1,strOfNums [2]),(pg,0,hdB lv rt false hi)]++dC pg lv 1 es
def aA(pg:Int)(es:List EnD):List EdT:=es.map fun e=>(pg,(e.2.1:Int),ByteArray.empty)
def bT(root:Int)(n:NoD)(pg:Int):List EdT:=aE pg n.lv (-1) ByteArray.empty n.es++[(root,0,hdB (n.lv+1) (-1) false ByteArray.empty)]++aA root n.es++[(root,1,itB 1 pg ay)]
def dX(n:NoD):List EnD:=n.es.drop (n.es.length / 2)
def bN(n:NoD):ByteArray:=(n.es.getD (n.es.length / 2) (ByteArray.empty,0,0)).1
def bR(pos:Int)(n:NoD)(pg:Int):List EdT:=aE pg n.lv n.right n.high (dX n)++[(pos,0,hdB n.lv pg false (bN n))]++aA pos (dX n)
def di(es:List EnD)(x:ByteArray):Bool:=es.any fun e=>e.1.toList==x.toList
structure GoT where
 eds:List EdT
 used:Bool
 err:Int
def aU(ps:List PgS)(w:PuT)(fresh:Int):PuT×GoT:=
 let w0:PuT:=⟨w.root,w.pos,w.leaf,w.left,0,0,false⟩
 match w.left with
 | []=>(w0,⟨[],false,0⟩)
 |t::l=>match ao ps w.pos with
  |none=>(w0,⟨[],false,22⟩)
  |some n=>
   if cL n.dead n.high t.1=true then (if n.right<0 then (w0,⟨[],false,11⟩) else (⟨w.root,n.right,w.leaf,w.left,0,0,false⟩,⟨[],false,0⟩))
   else if t.2.1<n.lv then (⟨w.root,cl t.1 n.es (-1),w.leaf,w.left,0,0,false⟩,⟨[],false,0⟩)
   else if n.lv<t.2.1 then (w0,⟨[],false,11⟩)
   else if di n.es t.1=true\/n.es.length<8 then (⟨w.root,w.root,if t.2.1=0 then w.pos else w.leaf,l,0,0,false⟩,⟨if di n.es t.1=true then [] else [(w.pos,(n.free:Int),itB t.2.1 t.2.2 t.1)],false,0⟩)
   else if fresh<0 then (w0,⟨[],false,23⟩)
   else if w.pos=w.root then (⟨w.root,fresh,w.leaf,w.left,0,0,false⟩,⟨bT w.root n fresh,true,0⟩)
   else (⟨w.root,w.pos,w.leaf,w.left++[(bN n,t.2.1+1,fresh)],if t.2.1=0 then w.pos else 0,if t.2.1=0 then fresh else 0,decide (t.2.1=0)⟩,⟨bR w.pos n fresh,true,0⟩)
end
section
open Go.RowKit
def eM(R:List Ent):Ent:=⟨R.flatMap (·.fp),fun W=>∀e∈R,e.holds W/\e.loc⟩
theorem Bs(R:List Ent):(eM R).loc:=fun W W' hk h e he=>
 ⟨(h e he).2 W W' (fun k hk'=>hk k (List.mem_flatMap.2 ⟨e,he,hk'⟩)) (h e he).1,(h e he).2⟩
theorem St.emNil{w0 W:World}{bor:List Nat}{L:List Ent}(h:St w0 bor L W):St w0 bor (L++[eM []]) W:=by
 refine⟨h.upd,fun x hx=>?_,?_⟩
 rcases List.mem_append.1 hx with hx|hx
 exact h.ok x hx
 rw[List.mem_singleton] at hx
 subst hx
 exact⟨fun e he=>(by cases he),Bs _,fun k hk=>(by cases hk)⟩
 rw[List.pairwise_append]
 refine⟨h.apart,List.pairwise_singleton _ _,fun a _ b hb=>?_⟩
 rw[List.mem_singleton] at hb
 subst hb
 exact fun k _ hk=>by cases hk
theorem St.merge{w0 W:World}{bor:List Nat}{L R:List Ent}{e:Ent}(h:St w0 bor (L++[eM R,e]) W):St w0 bor (L++[eM (R++[e])]) W:=by
 have hM:=h.ok (eM R) (by simp)
 have hE:=h.ok e (by simp)
 have hfp:∀k,k∈(eM (R++[e])).fp<->k∈(eM R).fp\/k∈e.fp:=fun k=>by simp[eM]
 refine⟨h.upd,fun x hx=>?_,?_⟩
 rcases List.mem_append.1 hx with hx|hx
 exact h.ok x (by simp[hx])
 rw[List.mem_singleton] at hx
 subst hx
 refine⟨fun x hx=>?_,Bs _,fun k hk=>?_⟩
 rcases List.mem_append.1 hx with hx|hx
 exact hM.holds x hx
 rw[List.mem_singleton] at hx
 subst hx
 exact⟨hE.holds,hE.loc⟩
 rcases(hfp k).1 hk with hk|hk
 exact hM.own k hk
 exact hE.own k hk
 have ha:=h.apart
 rw[List.pairwise_append] at ha |-
 refine⟨ha.1,List.pairwise_singleton _ _,fun a ha' b hb=>?_⟩
 rw[List.mem_singleton] at hb
 subst hb
 intro k hk hkb
 rcases(hfp k).1 hkb with hkb|hkb
 exact ha.2.2 a ha' (eM R) (by simp) k hk hkb
 exact ha.2.2 a ha' e (by simp) k hk hkb
section
variable{P:Program}{ops:Array Oper}{L:List Nat}{a0:Act}{w0:World}{bor:List Nat}{X0:List Ent}{us cr kl:List (List Nat)}
 {D:Nat->(Tmp->Value)->(Tmp->Value)->(Nat->Ent)->Prop}{i:Nat}{o:Oper}{ρ:Operand->Value}{β:Tmp->Value}{W:World}{X:Nat->Ent}
theorem bw{v:Value}{W':World}{q:Nat}{E:Ent}(N:List Ent)(hX:X q=E)(hk:atV kl i=[q])(hl:N.length=(atV cr i).length)(hs:St W E.fp N W')
  (hD:∀(b c:Tmp->Value) (X':Nat->Ent),(∀t,o.dst≠some t->b t=ρ (.tmp t))->(∀t,o.dst≠some t->c t=β t)->(∀d,o.dst=some d->b d=v/\c d=v)->(atV cr i).map X'=N->D i b c X'):cy cr kl D i o.dst ρ β W X v W':=by
 subst hX
 have e1:(atV kl i).flatMap (fun q=>(X q).fp)=(X q).fp:=by rw[hk];simp
 exact⟨N,hl,⟨by rw[e1];exact hs.upd,fun e he=>⟨(hs.ok e he).holds,(hs.ok e he).loc,fun k hk'=>by rw[e1];exact(hs.ok e he).own k hk'⟩,hs.apart⟩,
  fun b c X' hs' hv hb' hbv hx' hN=>hD b c X' hs' hb' (fun d hd=>⟨hv d hd,hbv d hd⟩) hN⟩
end
theorem St.lend{w:World}{E:Ent}(h:E.holds w)(hl:E.loc)(hb:∀k∈E.fp,k<w.heap.size):St w E.fp [E] w:=
 ⟨Upd.refl _ _,fun x hx=>by rw[List.mem_singleton] at hx;subst hx;exact⟨h,hl,fun k hk=>⟨.inl hk,hb k hk⟩⟩,List.pairwise_singleton _ _⟩
end
section
open Go.RowKit
def en0:EnD:=(ByteArray.empty,0,0)
def stv(e:EnD):Value:= .string e.1
def slv(e:EnD):Value:= .int .i64 (e.2.1:Int)
def kdv(e:EnD):Value:= .int .i64 e.2.2
theorem kw{S:List EnD}{k:Nat}(h:k<S.length):(S.map stv)[k]? =some (.string (S.getD k en0).1):=by simp[stv,h]
theorem Be{S:List EnD}{k:Nat}(h:k<S.length):(S.map slv)[k]? =some (.int .i64 ((S.getD k en0).2.1:Int)):=by simp[slv,h]
theorem vw{S:List EnD}{k:Nat}(h:k<S.length):(S.map kdv)[k]? =some (.int .i64 (S.getD k en0).2.2):=by simp[kdv,h]
theorem At.takeM{α:Type}{w:World}{A:Option Addr}{f:α->Value}{ls:List α}(h:At w A (ls.map f))(m:Nat):At w A ((ls.take m).map f):=by rw[List.map_take];exact h.take m
theorem At.dropM{α:Type}{w:World}{A:Option Addr}{f:α->Value}{ls:List α}(h:At w A (ls.map f))(l cap:Nat)(hc:ls.length<=cap):At w (if cap=l then A else A.map (·.add (l*1))) ((ls.drop l).map f):=by
 rw[List.map_drop,Nat.mul_one];exact h.drop l cap (by rw[List.length_map];exact hc)
theorem sM{f:EnD->Value}{S:List EnD}{m:Nat}(x:EnD):(S.take m).map f++[f x]++(S.drop m).map f=(S.take m++x::S.drop m).map f:=by simp
theorem me{f:EnD->Value}(hf:∀e,(f e).oneCell'=true)(l:List EnD):∀u∈l.map f,u.oneCell'=true:=fun u hu=>by
 obtain⟨e,_,rfl⟩:=List.mem_map.1 hu;exact hf e
theorem mB(e:ByteArray)(m:Nat)(h:m+1<=e.size):(aI e m 1:Int)=au (bl e) m:=by
 have e1:aI e m 1=de (((bl e).drop m).take 1):=by
  rw[aI,show (e.extract m (m+1)).data.toList=bl (e.extract m (m+1)) from rfl,dc,Nat.add_sub_cancel_left]
 have hl:m+1<=(bl e).length:=by rw[cF];exact h
 have e2:((bl e).drop m).take 1=[(bl e).getD m 0]:=by
  rw[List.drop_eq_getElem_cons (by omega),List.take_succ_cons,List.take_zero]
  simp[List.getD_eq_getElem?_getD,List.getElem?_eq_getElem (show m<(bl e).length by omega)]
 rw[e1,e2,de,List.foldl_cons,List.foldl_nil,au];omega
theorem mC{h:ByteArray}:((decide ((h.size:Int)<4)||decide (1<au (bl h) 1))||(decide (4<(h.size:Int))&&decide ((h.size:Int)<8)))=!iF h:=by
 unfold iF
 by_cases h4:h.size<4
 have e:decide (4<=h.size)=false:=decide_eq_false (by omega)
 have e2:decide ((h.size:Int)<4)=true:=decide_eq_true (by omega)
 rw[e,e2];rfl
 have h1:=mB h 1 (by omega)
 have e:decide (4<=h.size)=true:=decide_eq_true (by omega)
 have e2:decide ((h.size:Int)<4)=false:=decide_eq_false (by omega)
 have e3:decide (aI h 1 1<=1)=!decide (1<au (bl h) 1):=by rw[<-decide_not];congr 1;rw[<-h1];exact propext ⟨fun a b=>by omega,fun a=>by omega⟩
 have e4:(decide (h.size<=4)||decide (8<=h.size))=!(decide (4<(h.size:Int))&&decide ((h.size:Int)<8)):=by
  rw[Bool.not_and,<-decide_not,<-decide_not];congr 1<;>(congr 1;exact propext ⟨fun a=>by omega,fun a=>by omega⟩)
 rw[e,e2,e3,e4]
 cases decide (1<au (bl h) 1)<;>cases (decide (4<(h.size:Int))&&decide ((h.size:Int)<8))<;>rfl
theorem u4{k:Int}{n:Nat}(h:(k != 2||((n:Int)==0))=true)(hn:0<n):k≠2:=by
 simp only[Bool.or_eq_true,bne_iff_ne,beq_iff_eq] at h
 rcases h with h|h
 exact h
 omega
theorem t9{k:Int}{n:Nat}(h:(k != 2||((n:Int)==0))=false):k=2:=by
 simp only[Bool.or_eq_false_iff,bne_eq_false_iff_eq] at h
 exact h.1
def ndV(n:NoD)(EA:Option Addr)(ec:Nat)(SA:Option Addr)(sc:Nat)(KA:Option Addr)(kc:Nat):Value:= .agg #[.bool true,.bool n.dead,.int .i64 n.lv,.int .i64 n.right,.string n.high,.slice EA n.es.length ec,.slice SA n.es.length sc,.slice KA n.es.length kc]
def nd0:Value:= .agg #[.bool false,.bool false,.int .i64 0,.int .i64 0,.string ⟨#[]⟩,.slice none 0 0,.slice none 0 0,.slice none 0 0]
def rdL(n:NoD)(EA:Option Addr)(ec:Nat)(SA:Option Addr)(sc:Nat)(KA:Option Addr)(kc:Nat):List Ent:=[eO 9 1 (.slice EA n.es.length ec) n.es.length (n.es.map stv),eO 3 1 (.slice SA n.es.length sc) n.es.length (n.es.map slv),eO 3 1 (.slice KA n.es.length kc) n.es.length (n.es.map kdv)]
def jP(o:Option NoD)(w:World)(e:Ending)(w':World):Prop:=match o with
 |none=>e= .returned nd0/\Ext w w'
 |some n=>∃EA ec SA sc KA kc,e= .returned (ndV n EA ec SA sc KA kc)/\St w [] (rdL n EA ec SA sc KA kc) w'
theorem je{o:Option NoD}{w w':World}(h:o=none)(hx:Ext w w'):jP o w (.returned nd0) w':=by subst h;exact⟨rfl,hx⟩
theorem CT{α:Type}{p:α->Bool}{l:List α}{x:α}(h:l.any p=false)(hx:p x=false):(l++[x]).any p=false:=by simp[h,hx]
theorem u3{l:List ByteArray}{i:Nat}{p:Nat×ByteArray}{x:ByteArray}(h:p∈gO (x::l) i):p∈bp 1 l:=by
 have e:l=(l.take (i-1))++l.drop (i-1):=(List.take_append_drop ..).symm
 rw[e,lV]
 exact List.mem_append_left _ h
theorem sX{k:Int}{x:ByteArray}{l:List ByteArray}{i:Nat}{lv:Int}(hlv:(aI x 0 1:Int)=lv)(hi1:1<=i)(hi:i<(x::l).length)(hz:((x::l).getD i ByteArray.empty).size≠0)(hb:cv lv (i,(x::l).getD i ByteArray.empty)=true):cf k (x::l)=none:=by
 refine im (.inr (.inr (.inr ⟨x,l,rfl,?_⟩)))
 rw[hlv,List.any_eq_true]
 refine⟨_,u3 (x:=x) (i:=i+1) ?_,hb⟩
 rw[t4 hi1 hi,if_neg hz]
 simp
theorem kI:∀{i:Nat}{l:List ByteArray}{p:Nat×ByteArray},p∈bp i l->p.2∈l/\i<=p.1/\p.1<i+l.length
 |_,[],_,h=>by cases h
 |i,x::l,p,h=>by
  unfold bp at h
  split at h
  have:=kI h;rw[List.length_cons];exact⟨List.mem_cons_of_mem _ this.1,by omega,by omega⟩
  rcases List.mem_cons.1 h with rfl|h
  exact⟨List.mem_cons_self ..,Nat.le_refl _,by simp⟩
  have:=kI h;rw[List.length_cons];exact⟨List.mem_cons_of_mem _ this.1,by omega,by omega⟩
theorem AQ(lv:Int)(p:Nat×ByteArray):(cc lv p).1.size<=p.2.size:=by
 unfold cc;split
 simp only[ByteArray.size_extract];omega
 exact Nat.le_refl _
theorem pU{lv:Int}{l:List (Nat×ByteArray)}{M:Nat}(h:∀p∈l,p.2.size<=M)(k:Nat):((srt lv l).getD k en0).1.size<=M:=by
 rcases Nat.lt_or_ge k (srt lv l).length with hk|hk
 rw[List.getD_eq_getElem?_getD,List.getElem?_eq_getElem hk,Option.getD_some]
 have h1:(srt lv l)[k]∈srt lv l:=List.getElem_mem hk
 have h2:=jN (List.mem_reverse.1 h1)
 obtain⟨p,hp,he⟩:=List.mem_map.1 (List.mem_reverse.1 h2)
 rw[<-he]
 exact Nat.le_trans (AQ lv p) (h p hp)
 rw[List.getD_eq_getElem?_getD,List.getElem?_eq_none hk]
 exact Nat.zero_le _
theorem uh{S:List EnD}{m:Nat}{x:ByteArray}(hm:m+1<=S.length)(h:∀y∈S.drop (m+1),ag x y.1=true)(h2:ag x (S.getD m en0).1=true):∀y∈S.drop m,ag x y.1=true:=by
 intro y hy
 rw[List.drop_eq_getElem_cons (by omega)] at hy
 rcases List.mem_cons.1 hy with rfl|hy
 rw[List.getD_eq_getElem?_getD,List.getElem?_eq_getElem (by omega)] at h2;exact h2
 exact h y hy
theorem go{x:ByteArray}:(x.toList==(⟨#[]⟩:ByteArray).toList)=decide (x.size=0):=by
 rw[bqd]
 congr 1
 exact propext ⟨fun h=>by rw[h];rfl,fun h=>eP (by rw[List.eq_nil_of_length_eq_zero (l:=bl x) (by rw[cF,h])];rfl)⟩
theorem Try.infoInt:(Try.prog.info? 3).map (fun i=>(i.zero,i.size,i.bytes))=some (some (.int .i64 0),1,8):=by kernel_rfl
theorem Gi(k lsn:Int)(A:Option Addr)(c n:Nat)(h:ByteArray)(l:List ByteArray)(w:World)(hA:At w A ((h::l).map Value.string))(hn:(h::l).length=n)(hl:n<=100000)(hsz:∀s∈h::l,s.size<=1000000):
  Calls Try.prog 33 #[.agg #[.int .i64 k,.int .i64 lsn,.slice A n c]] w (jP (cf k (h::l)) w):=by
 have hn0:0<n:=by rw[<-hn];simp
 have hhz:=hsz h (by simp)
 go_enter Try.func33,Try.ntmps33
 have aq:=St.start w
 refine wp_seq (sqr ?_)
 refine bX #[vi k,vi lsn,.slice A n c] aq fun bB W1 aC=>?_
 refine bW #[.bool false,.bool false,vi 0,vi 0,.string ByteArray.empty,.slice none 0 0,.slice none 0 0,.slice none 0 0] aC fun ox W2 aV=>?_
 refine aa (wp_seq (wp_seq (sqr (sqp [.k 9 (vp bB)] ?_))))
 refine al 0 aV ?_
 refine sqp [.k 11 (.bool (k != 2)),.m 12 11] ?_
 refine fo 12 [13,14,15,16] ?_ rfl (fun hq=>?_) ?_
 rotate_left
 refine sqp [.k 13 (.pointer (some ⟨bB,2,none⟩))] ?_
 refine al 0 aV ?_
 refine sqp [.k 15 (vi ((n:Int))),.k 16 (.bool ((n:Int)==0))] ?_
 exact sqe
 refine dn ?_
 refine sqp [sPo 17 (k != 2) ((n:Int)==0)] ?_
 refine aa (wbs (fun lY=>?_) fun lY=>?_)
 have pm:=lY
 simp only[zB] at pm
 refine wp_seq (sqr (sqp [.k 18 (.agg #[.bool false,.bool false,vi 0,vi 0,.string ByteArray.empty,.slice none 0 0,.slice none 0 0,.slice none 0 0])] ?_))
 refine aF (n:=8) 1 #[.bool false,.bool false,vi 0,vi 0,.string ByteArray.empty,.slice none 0 0,.slice none 0 0,.slice none 0 0] aV fun iY bn=>?_
 refine aa (wp_ret (ai ?_))
 refine bpr (.agg #[.bool false,.bool false,vi 0,vi 0,.string ByteArray.empty,.slice none 0 0,.slice none 0 0,.slice none 0 0]) (ba (n:=8) Try.results33 rfl (by kernel_rfl) (by kernel_rfl) (bn.blk 1 rfl) rfl) ?_
 exact je (im (.inl (u4 (by assumption) hn0))) bn.ext
 have pm:=lY
 simp only[zB] at pm
 obtain⟨N2,N3⟩:=pm
 refine wp_skip (aa (wp_seq (sqr (sqp [.k 19 (.pointer (some ⟨bB,2,none⟩))] ?_))))
 refine al 0 aV ?_
 refine sql (.pointer (some ((ad A).add 0))) aV (fun cx=>bo (e:=9) (m:=0) rfl (by kernel_rfl) (by kernel_rfl) (cx.ou 20) (cx.co _) (by omega) (by omega) (hA.ext cx.upd.to_ext) (by rw[List.length_map];exact hn)) ?_
 refine sql (.string h) aV (fun cx=>ae rfl (by kernel_rfl) (cx.ou 21) (At.cellAd (hA.ext cx.upd.to_ext) rfl)) ?_
 refine sqp [.m 3 22] ?_
 refine aa (wp_seq (wp_seq (sqr (sqp [.m 23 3,.k 24 (vi ((h.size:Int))),.k 25 (.bool (decide ((h.size:Int)<4))),.m 26 25] ?_))))
 refine fo 26 [27,28,29] ?_ rfl (fun hq=>?_) ?_
 rotate_left
 have hq_:=of_decide_eq_false hq
 refine sqp [.m 27 3] ?_
 refine sql (.int .u8 (au (bl h) 1)) aV (fun cx=>cJ (m:=1) rfl (by kernel_rfl) (cx.ou 27) (cx.co _) (by omega) (by omega)) ?_
 refine sqp [.k 29 (.bool (decide (1<au (bl h) 1)))] ?_
 exact sqe
 refine dn ?_
 refine sqp [sPo 30 (decide ((h.size:Int)<4)) (decide (1<au (bl h) 1)),.m 31 30] ?_
 refine fo 31 [32,33,34,35,36,37,38,39] ?_ rfl (fun hq=>?_) ?_
 rotate_left
 refine sqp [.m 32 3,.k 33 (vi ((h.size:Int))),.k 34 (.bool (decide (4<(h.size:Int)))),.m 35 34] ?_
 refine sqw 35 [36,37,38] rfl (fun _=>sqp [.m 36 3,.k 37 (vi ((h.size:Int))),.k 38 (.bool (decide ((h.size:Int)<8)))] sqe) ?_
 refine sqp [sPa 39 (decide (4<(h.size:Int))) (decide ((h.size:Int)<8))] ?_
 exact sqe
 refine dn ?_
 refine sqp [sPo 40 ((decide ((h.size:Int)<4))||(decide (1<au (bl h) 1))) ((decide (4<(h.size:Int)))&&(decide ((h.size:Int)<8)))] ?_
 refine aa (wbs (fun qo=>?_) fun qo=>?_)
 have pn:=qo
 simp only[zB] at pn
 refine wp_seq (sqr (sqp [.k 41 (.agg #[.bool false,.bool false,vi 0,vi 0,.string ByteArray.empty,.slice none 0 0,.slice none 0 0,.slice none 0 0])] ?_))
 refine aF (n:=8) 1 #[.bool false,.bool false,vi 0,vi 0,.string ByteArray.empty,.slice none 0 0,.slice none 0 0,.slice none 0 0] aV fun EI gL=>?_
 refine aa (wp_ret (ai ?_))
 refine bpr (.agg #[.bool false,.bool false,vi 0,vi 0,.string ByteArray.empty,.slice none 0 0,.slice none 0 0,.slice none 0 0]) (ba (n:=8) Try.results33 rfl (by kernel_rfl) (by kernel_rfl) (gL.blk 1 rfl) rfl) ?_
 exact je (im (.inr (.inr (.inl ⟨h,l,rfl,by have h_:=mC (h:=h);rw[qo] at h_;simpa using h_.symm⟩)))) gL.ext
 have pn:=qo
 simp only[zB] at pn
 obtain⟨⟨N4,N5⟩,N6⟩:=pn
 refine wp_skip (aa (wp_seq ?_))
 have hok:iF h=true:=by have h_:=mC (h:=h);rw[qo] at h_;simpa using h_.symm
 have h4:4<=h.size:=by unfold iF at hok;simp only[Bool.and_eq_true,decide_eq_true_eq] at hok;exact hok.1.1
 have IL:=cM (bl h) 0
 have Ms:=cM (bl h) 1
 have IM:=cM (bl h) 2
 have IN:=cM (bl h) 3
 refine aj [0,1,3,0,8,24,0,64,192,448,0,1024,3072,8128,16320,0,32768,131071,0,524287] [[],[],[],[],[],[],[],[],[],[],[],[],[],[],[],[],[],[],[],[2]] [[],[],[],[],[],[],[],[],[],[],[],[],[],[],[],[],[],[],[2],[3]] [[],[],[],[],[],[],[],[],[],[],[],[],[],[],[],[],[],[],[],[2]] [.k 42 (.string h),.c 43 (.int .u8 (au (bl h) 0)),tW 44 .i64 (au (bl h) 0) (au (bl h) 0) (IntWalk.i64_in _ (by omega)),.k 45 (.string h),.c 46 (.int .u8 (au (bl h) 1)),.k 47 (.bool ((au (bl h) 1)==1)),.k 48 (.string h),.c 49 (.int .u8 (au (bl h) 2)),tW 50 .i64 (au (bl h) 2) (au (bl h) 2) (IntWalk.i64_in _ (by omega)),tI 51 ((au (bl h) 2)*256) (by omega),.k 52 (.string h),.c 53 (.int .u8 (au (bl h) 3)),tW 54 .i64 (au (bl h) 3) (au (bl h) 3) (IntWalk.i64_in _ (by omega)),tI 55 (((au (bl h) 2)*256)+(au (bl h) 3)) (by omega),tI 56 (((au (bl h) 2)*256+(au (bl h) 3))-1) (by omega),.k 57 (.string h),.c 58 (.string (h.extract 4 h.size)),.k 59 (.agg #[.bool true,.bool ((au (bl h) 1)==1),vi (au (bl h) 0),vi ((au (bl h) 2)*256+(au (bl h) 3)-1),.string (h.extract 4 h.size),.slice none 0 0,.slice none 0 0,.slice none 0 0]),.a 4,.n] (fun ix d b X=>match ix with|0|1|2|3|4|5|6|7|8|9|10|11|12|13|14|15|16|17=>True|18=>d 4=vp (pb (b 4))/\X 2=eB (pb (b 4)) 66 #[.bool false,.bool false,vi 0,vi 0,.string ByteArray.empty,.slice none 0 0,.slice none 0 0,.slice none 0 0]|19=>X 3=eB (pb (b 4)) 66 #[.bool true,.bool ((au (bl h) 1)==1),vi (au (bl h) 0),vi ((au (bl h) 2)*256+(au (bl h) 3)-1),.string (h.extract 4 h.size),.slice none 0 0,.slice none 0 0,.slice none 0 0]|_=>True) [0,1,3] [1,4,7,11,16,18,19] [(4,18,1,5),(37,0,18,55)] aV ?_ ?_ ?_
 exact fun ix _ _ _ _ _ _ hs hb hx h=>match ix,h with
 |18,h=>by dsimp only;rw[<-hs 4 rfl,<-hb 4 rfl,<-hx 2 rfl];exact h
 |19,h=>by dsimp only;rw[<-hb 4 rfl,<-hx 3 rfl];exact h
 |0,_|1,_|2,_|3,_|4,_|5,_|6,_|7,_|8,_|9,_|10,_|11,_|12,_|13,_|14,_|15,_|16,_|17,_|_+20,_=>trivial
 refine⟨?_,?_,?_,?_,?_,?_,?_,trivial⟩
 exact xs4 rfl id fun cx=>cJ (m:=0) rfl (by kernel_rfl) (cx.an 0) (cx.co _) (by omega) (by omega)
 exact xs4 rfl id fun cx=>cJ (m:=1) rfl (by kernel_rfl) (cx.an 3) (cx.co _) (by omega) (by omega)
 exact xs4 rfl id fun cx=>cJ (m:=2) rfl (by kernel_rfl) (cx.an 6) (cx.co _) (by omega) (by omega)
 exact xs4 rfl id fun cx=>cJ (m:=3) rfl (by kernel_rfl) (cx.an 10) (cx.co _) (by omega) (by omega)
 exact xs4 rfl id fun cx=>iN (l:=4) rfl (by kernel_rfl) (cx.an 15) (cx.co _) (by omega) (by omega)
 refine svA fun f b W X cx=>?_
 exact bx (cs:=#[.bool false,.bool false,vi 0,vi 0,.string ByteArray.empty,.slice none 0 0,.slice none 0 0,.slice none 0 0]) rfl (by kernel_rfl) rfl rfl (fun _ _ _ _ _=> .intro)
 refine svA fun f b W X cx=>?_
 exact ar (n:=8) rfl (dTn (cx.an 18)).1 (cx.an 17) (by kernel_rfl) (by kernel_rfl) (by kernel_rfl) cx (dTn (cx.an 18)).2 rfl (nle rfl) (by kernel_rfl) rfl rfl rfl (fun d g X' hs hb hx=>by rw[hb 4];exact hx)
 intro d b X Ma hD fe fr af
 simp only[exq 3 ((dTn (hD 19 lq)))] at fe
 simp only[ed 4 ((dTn (hD 18 lq)).1)] at af
 generalize pb (b 4)=eu at fe af
 clear hD;subst af;clear d b X
 refine aa (wp_seq (wp_seq (sqr (sqp [.k 5 (vi 1)] ?_))))
 refine aa (wp_block ?_)
 have hlv:(aI h 0 1:Int)=au (bl h) 0:=mB h 0 (by omega)
 obtain⟨lv,lx⟩:∃z,au (bl h) 0=z:=⟨_,rfl⟩
 rw[lx] at fe |-
 rw[lx] at hlv IL
 have hn43:=St.nilrow fe 9
 simp only[List.cons_append,List.nil_append] at hn43
 have hn44:=St.nilrow hn43 3
 simp only[List.cons_append,List.nil_append] at hn44
 have hn45:=St.nilrow hn44 3
 simp only[List.cons_append,List.nil_append] at hn45
 refine aX (fun t_ mz az W=>∃i:Nat,∃nn:Nat,∃S:List EnD,∃EA:Option Addr,∃ec:Nat,∃SA:Option Addr,∃sc:Nat,∃KA:Option Addr,∃kc:Nat,1<=i/\i<=n/\S=srt lv (gO (h::l) i)/\(gO (h::l) i).any (cv lv)=false/\S.length=nn/\nn<=i/\(∀k,(S.getD k en0).1.size<=1000000)/\mz=n-i/\az=⟨(ovr (jv az) [(5,5,0,[vi ((i:Int))]),(0,6,3,[]),(51,60,106,[])] t_).toArray,[]⟩/\St w [] [eB bB 51 #[vi k,vi lsn,.slice A n c],eB ox 66 #[.bool false,.bool false,vi 0,vi 0,.string ByteArray.empty,.slice none 0 0,.slice none 0 0,.slice none 0 0],eB eu 66 #[.bool true,.bool ((au (bl h) 1)==1),vi (lv),vi ((au (bl h) 2)*256+(au (bl h) 3)-1),.string (h.extract 4 h.size),.slice EA nn ec,.slice SA nn sc,.slice KA nn kc],eO 9 1 (.slice EA nn ec) nn (S.map stv),eO 3 1 (.slice SA nn sc) nn (S.map slv),eO 3 1 (.slice KA nn kc) nn (S.map kdv)] W) (n-1) ?_ ?_
 exact⟨1,0,[],none,0,none,0,none,0,Nat.le_refl _,by omega,rfl,rfl,rfl,by omega,fun k=>Nat.zero_le _,rfl,(by kernel_rfl),hn45.pk [0,1,2,3,4,5]⟩
 rintro Rm a46 Mb ⟨i,nn,S,EA,ec,SA,sc,KA,kc,hi1,hin,hS,hbad,hnn,hni,hSz,rfl,hj_,ff⟩
 refine ovz hj_ fun PW=>?_
 refine wp_seq (wp_seq (sqr (sqp [.m 60 5,.k 61 (.pointer (some ⟨bB,2,none⟩))] ?_)))
 refine al 0 ff ?_
 refine sqp [.k 63 (vi ((n:Int))),.k 64 (.bool (decide ((i:Int)<(n:Int))))] ?_
 refine aa (wds (fun j0 La=>?_) fun j0 La=>?_)
 ·refine wp_skip (aa (wp_seq (wp_block (wp_seq (sqr (sqp [.k 67 (.pointer (some ⟨bB,2,none⟩))] ?_))))))
  refine al 0 ff ?_
  refine sqp [.m 69 5] ?_
  refine sql (.pointer (some ((ad A).add i))) ff (fun cx=>bo (e:=9) (m:=i) rfl (by kernel_rfl) (by kernel_rfl) (cx.ou 68) (cx.ou 69) (by omega) (by omega) (hA.ext cx.upd.to_ext) (by rw[List.length_map];exact hn)) ?_
  refine sql (.string ((h::l).getD i ByteArray.empty)) ff (fun cx=>ae rfl (by kernel_rfl) (cx.ou 70) (At.cellAd (hA.ext cx.upd.to_ext) (p8 (by omega)))) ?_
  refine sqp [.m 6 71] ?_
  refine aa (wp_seq (wp_seq ?_))
  have hyz:((h::l).getD i ByteArray.empty).size<=1000000:=hsz _ (by rw[List.getD_eq_getElem?_getD,List.getElem?_eq_getElem (show i<(h::l).length by rw[hn];exact(by omega))];exact List.getElem_mem _)
  have hps:=t4 (its:=h::l) hi1 (by rw[hn];omega)
  have hpl:=DC (its:=h::l) hi1
  obtain⟨y,jn⟩:∃z,(h::l).getD i ByteArray.empty=z:=⟨_,rfl⟩
  rw[jn]
  rw[jn] at hyz hps
  refine sqr (sqp [.m 72 6,.k 73 (.bool (y.toList==((⟨#[]⟩:ByteArray)).toList))] ?_)
  refine aa (wbs (fun DW=>?_) fun DW=>?_)
  refine wp_exit (am (bj (aa (sqr (sqp [.m 65 5,sI 66 ((i:Int)+1) (by omega),.m 5 66] ?_)))))
  refine aa ?_
  have hpr0:gO (h::l) (i+1)=gO (h::l) i:=by have h_:=DW;rw[go] at h_;rw[hps,if_pos (of_decide_eq_true h_),List.append_nil]
  refine⟨n-((i+1)),by omega,?_⟩
  exact⟨(i+1),nn,S,EA,ec,SA,sc,KA,kc,by omega,by omega,by rw[hpr0];exact hS,by rw[hpr0];exact hbad,hnn,by omega,hSz,rfl,(by kernel_rfl),ff.pk [0,1,2,3,4,5]⟩
  refine wp_skip (aa (wp_seq ?_))
  have hy0:¬y.size=0:=by have h_:=DW;rw[go] at h_;exact of_decide_eq_false h_
  rw[if_neg hy0] at hps
  refine sqr (sqp [.k 7 (vi (-1))] ?_)
  refine aa ?_
  refine ji (fun t_ az W=>∃x:ByteArray,∃kd:Int,cc lv (i,y)=(x,i,kd)/\cv lv (i,y)=decide (x.size<4)/\x.size<=1000000/\az=⟨(ovr (jv az) [(6,6,0,[.string x,vi kd]),(66,74,26,[])] t_).toArray,[]⟩/\St w [] [eB bB 51 #[vi k,vi lsn,.slice A n c],eB ox 66 #[.bool false,.bool false,vi 0,vi 0,.string ByteArray.empty,.slice none 0 0,.slice none 0 0,.slice none 0 0],eB eu 66 #[.bool true,.bool ((au (bl h) 1)==1),vi (lv),vi ((au (bl h) 2)*256+(au (bl h) 3)-1),.string (h.extract 4 h.size),.slice EA nn ec,.slice SA nn sc,.slice KA nn kc],eO 9 1 (.slice EA nn ec) nn (S.map stv),eO 3 1 (.slice SA nn sc) nn (S.map slv),eO 3 1 (.slice KA nn kc) nn (S.map kdv)] W) ?_ ?_
  refine wp_seq (sqr (sqp [.k 74 (.pointer (some ⟨eu,2,none⟩))] ?_))
  refine al 2 ff ?_
  refine sqp [.k 76 (.bool (decide (0<lv)))] ?_
  refine aa (wds (fun iQ m8=>?_) fun iQ m8=>?_)
  refine wp_seq (wp_seq (sqr (sqp [.m 77 6,.k 78 (vi ((y.size:Int))),.k 79 (.bool (decide ((y.size:Int)<6)))] ?_)))
  refine aa (wds (fun Mu Lc=>?_) fun Mu Lc=>?_)
  refine wp_seq (sqr (sqp [.k 80 (.agg #[.bool false,.bool false,vi 0,vi 0,.string ByteArray.empty,.slice none 0 0,.slice none 0 0,.slice none 0 0])] ?_))
  refine aF (n:=8) 1 #[.bool false,.bool false,vi 0,vi 0,.string ByteArray.empty,.slice none 0 0,.slice none 0 0,.slice none 0 0] ff fun Mc jz=>?_
  refine aa (wp_ret (ai (ai (aB (ai (ai (aB (ai ?_))))))))
  refine bpr (.agg #[.bool false,.bool false,vi 0,vi 0,.string ByteArray.empty,.slice none 0 0,.slice none 0 0,.slice none 0 0]) (ba (n:=8) Try.results33 rfl (by kernel_rfl) (by kernel_rfl) (jz.blk 1 rfl) rfl) ?_
  exact je (sX hlv hi1 (by rw[hn];omega) (by rw[jn];exact hy0) (by rw[jn,cv,if_pos (by omega)];exact decide_eq_true (show y.size<6 by omega))) jz.ext
  refine wp_skip (aa (wp_seq ?_))
  have hq1_:=cM (bl y) ((y.size:Int)-2).toNat
  have hq2_:=cM (bl y) ((y.size:Int)-1).toNat
  refine bC [0,0,2,6,15,31,63,0,0,256,768,1920,3968,8191,16383] [] [.k 81 (.string (y)),.k 82 (.string (y)),.k 83 (vi ((y.size:Int))),tI 84 ((y.size:Int)-2) (by omega),.c 85 (.int .u8 (au (bl y) (((y.size:Int)-2).toNat))),tW 86 .i64 (au (bl y) (((y.size:Int)-2).toNat)) (au (bl y) (((y.size:Int)-2).toNat)) (IntWalk.i64_in _ (by omega)),tI 87 ((au (bl y) (((y.size:Int)-2).toNat))*256) (by omega),.k 88 (.string (y)),.k 89 (.string (y)),.k 90 (vi ((y.size:Int))),tI 91 ((y.size:Int)-1) (by omega),.c 92 (.int .u8 (au (bl y) (((y.size:Int)-1).toNat))),tW 93 .i64 (au (bl y) (((y.size:Int)-1).toNat)) (au (bl y) (((y.size:Int)-1).toNat)) (IntWalk.i64_in _ (by omega)),tI 94 (((au (bl y) (((y.size:Int)-2).toNat))*256)+(au (bl y) (((y.size:Int)-1).toNat))) (by omega),.k 7 (vi (((au (bl y) (((y.size:Int)-2).toNat))*256)+(au (bl y) (((y.size:Int)-1).toNat))))] [0,1,2,3,4,5] [4,11] [(7,14,1,8),(73,0,14,87)] ff ?_ fun Rn EJ=>?_
  refine⟨?_,?_,trivial⟩
  exact xs4 rfl id fun cx=>cJ (m:=((y.size:Int)-2).toNat) rfl (by kernel_rfl) (cx.an 0) (cx.an 3) (by omega) (by omega)
  exact xs4 rfl id fun cx=>cJ (m:=((y.size:Int)-1).toNat) rfl (by kernel_rfl) (cx.an 7) (cx.an 10) (by omega) (by omega)
  refine aa (sqr (sqp [.m 95 6,.m 96 6,.k 97 (vi ((y.size:Int))),sI 98 ((y.size:Int)-2) (by omega)] ?_))
  refine sql (.string (y.extract 0 (((y.size:Int)-2).toNat))) EJ (fun cx=>iH (l:=((y.size:Int)-2).toNat) rfl (by kernel_rfl) (cx.ou 95) (cx.ou 98) (by omega) (by omega)) ?_
  refine sqp [.m 6 99] ?_
  refine aa ?_
  exact⟨(y.extract 0 (((y.size:Int)-2).toNat)),(((au (bl y) (((y.size:Int)-2).toNat))*256)+(au (bl y) (((y.size:Int)-1).toNat))),by rw[cc,if_pos (by omega),jm _ _ (by show y.size-2+2<=y.size;omega),show ((y.size:Int)-2).toNat=y.size-2 by omega,show ((y.size:Int)-1).toNat=y.size-2+1 by omega],by rw[cv,if_pos (by omega),ByteArray.size_extract];show decide (y.size<6)= _;rw[decide_eq_false (by omega),decide_eq_false (by omega)],by rw[ByteArray.size_extract];omega,(by kernel_rfl),EJ.pk [0,1,2,3,4,5]⟩
  refine wp_skip (aa ?_)
  exact⟨y,(-1),by rw[cc,if_neg (by omega)],by rw[cv,if_neg (by omega)],hyz,(by kernel_rfl),ff.pk [0,1,2,3,4,5]⟩
  rintro a66 Md ⟨x,kd,hpx,hbx,hxz,hj_,ly⟩
  refine ovz hj_ fun PX=>?_
  refine wp_seq (wp_seq (sqr (sqp [.m 100 6,.k 101 (vi ((x.size:Int))),.k 102 (.bool (decide ((x.size:Int)<4)))] ?_)))
  refine aa (wds (fun Mw Ld=>?_) fun Mw Ld=>?_)
  refine wp_seq (sqr (sqp [.k 103 (.agg #[.bool false,.bool false,vi 0,vi 0,.string ByteArray.empty,.slice none 0 0,.slice none 0 0,.slice none 0 0])] ?_))
  refine aF (n:=8) 1 #[.bool false,.bool false,vi 0,vi 0,.string ByteArray.empty,.slice none 0 0,.slice none 0 0,.slice none 0 0] ly fun Ro EK=>?_
  refine aa (wp_ret (ai (aB (ai (ai (aB (ai ?_)))))))
  refine bpr (.agg #[.bool false,.bool false,vi 0,vi 0,.string ByteArray.empty,.slice none 0 0,.slice none 0 0,.slice none 0 0]) (ba (n:=8) Try.results33 rfl (by kernel_rfl) (by kernel_rfl) (EK.blk 1 rfl) rfl) ?_
  exact je (sX hlv hi1 (by rw[hn];omega) (by rw[jn];exact hy0) (by rw[jn,hbx];exact decide_eq_true (by omega))) EK.ext
  refine wp_skip (aa (wp_seq ?_))
  have hx4:cv lv (i,y)=false:=by rw[hbx];exact decide_eq_false (by omega)
  refine sqr (sqp [.k 104 (.pointer (some ⟨eu,5,none⟩))] ?_)
  refine al 2 ly ?_
  refine sqp [.k 106 (vi ((nn:Int))),.m 8 106] ?_
  refine aa (wp_seq (wp_block ?_))
  refine aX (fun t_ mz az W=>∃m:Nat,m<=nn/\(∀y∈S.drop m,ag x y.1=true)/\mz=m+1/\az=⟨(ovr (jv az) [(8,8,0,[vi ((m:Int))]),(98,107,14,[])] t_).toArray,[]⟩/\St w [] [eB bB 51 #[vi k,vi lsn,.slice A n c],eB ox 66 #[.bool false,.bool false,vi 0,vi 0,.string ByteArray.empty,.slice none 0 0,.slice none 0 0,.slice none 0 0],eB eu 66 #[.bool true,.bool ((au (bl h) 1)==1),vi (lv),vi ((au (bl h) 2)*256+(au (bl h) 3)-1),.string (h.extract 4 h.size),.slice EA nn ec,.slice SA nn sc,.slice KA nn kc],eO 9 1 (.slice EA nn ec) nn (S.map stv),eO 3 1 (.slice SA nn sc) nn (S.map slv),eO 3 1 (.slice KA nn kc) nn (S.map kdv)] W) (nn+1) ?_ ?_
  exact⟨nn,Nat.le_refl _,(by rw[List.drop_of_length_le (by omega)];exact fun _ hy=>nomatch hy),rfl,(by kernel_rfl),ly.pk [0,1,2,3,4,5]⟩
  rintro Rp a94 N7 ⟨m,hm,hm2,rfl,hj_,lz⟩
  refine ovz hj_ fun PY=>?_
  refine wp_seq (wp_seq (sqr (sqp [.m 107 8,.k 108 (.bool (decide (0<(m:Int)))),.m 109 108] ?_)))
  refine nM 109 [110,111,112,113,114,115,116,117] ?_ lz rfl (fun hq=>?_) fun PZ oy=>?_
  rotate_left
  have hq_:=of_decide_eq_true hq
  refine sqp [.m 110 6,.k 111 (.pointer (some ⟨eu,5,none⟩))] ?_
  refine al 2 lz ?_
  refine sqp [.m 113 8,sI 114 ((m:Int)-1) (by omega)] ?_
  refine sql (.pointer (some ((ad EA).add (((m:Int)-1).toNat)))) lz (fun cx=>bo (e:=9) (m:=((m:Int)-1).toNat) rfl (by kernel_rfl) (by kernel_rfl) (cx.ou 112) (cx.ou 114) (by omega) (by omega) (At.of_own (cx.ri 3 rfl)) (by simp;omega)) ?_
  refine sql (.string ((S.getD ((m:Int)-1).toNat en0).1)) lz (fun cx=>ae rfl (by kernel_rfl) (cx.ou 115) (At.cellAd (At.of_own (cx.ri 3 rfl)) (kw (by omega)))) ?_
  refine sqk (.bool (ag x ((S.getD ((m:Int)-1).toNat en0).1))) lz (fun cx=>⟨_,nP x ((S.getD ((m:Int)-1).toNat en0).1) _ (by omega) (hSz _),(aK (cx.ou 110) (cx.ou 116))⟩) fun Mx wH=>?_
  exact sqE wH
  refine dn ?_
  refine sqp [sPa 118 (decide (0<(m:Int))) (ag x ((S.getD ((m:Int)-1).toNat en0).1))] ?_
  refine aa (wbs (fun rH=>?_) fun rH=>?_)
  have rI:=rH
  simp only[zB] at rI
  obtain⟨NN,NO⟩:=rI
  refine wp_skip (aa (wp_block (sqr (sqp [.m 119 8,sI 120 ((m:Int)-1) (by omega),.m 8 120] ?_))))
  refine aw (aa ?_)
  rw[show ((m:Int)-1)=((m-1:Nat):Int) by omega]
  refine⟨((m-1))+1,by omega,?_⟩
  exact⟨(m-1),by omega,by have h_:=(by have h_:=rH;rw[Bool.and_eq_true] at h_;have h3_:=h_.2;rwa [show ((m:Int)-1).toNat=m-1 by omega] at h3_);have h2_:=uh (S:=S) (m:=m-1) (by omega) (by rw[Nat.sub_add_cancel (by omega)];exact hm2) h_;exact h2_,rfl,(by kernel_rfl),oy.pk [0,1,2,3,4,5]⟩
  have rI:=rH
  simp only[zB] at rI
  refine wp_exit (am (am (bj (aa (wp_seq ?_)))))
  have hcut:m=0\/∃z,(srt lv (gO (h::l) i))[m-1]? =some z/\ag (cc lv (i,y)).1 z.1=false:=by
   rcases Nat.eq_zero_or_pos m with h0|h0
   exact .inl h0
   refine .inr ⟨S.getD (m-1) en0,by rw[<-hS,List.getD_eq_getElem?_getD,List.getElem?_eq_getElem (by omega)];rfl,?_⟩
   have h_:=rH
   rw[Bool.and_eq_false_iff] at h_
   rcases h_ with h_|h_
   exact absurd (of_decide_eq_false h_) (by omega)
   rw[show ((m:Int)-1).toNat=m-1 by omega] at h_;rw[hpx];exact h_
  have hS2:S.take m++(x,i,kd)::S.drop m=srt lv (gO (h::l) (i+1)):=by
   rw[hps,C1 (m:=m) (by rw[<-mi lv,<-hS];omega) (by rw[<-hS,hpx];exact hm2) hcut,<-hS,hpx]
  have hbad2:(gO (h::l) (i+1)).any (cv lv)=false:=by rw[hps];exact CT hbad hx4
  have hS2l:(S.take m++(x,i,kd)::S.drop m).length=nn+1:=by rw[List.length_append,List.length_cons,List.length_take,List.length_drop];omega
  have hSz2:∀k,((S.take m++(x,i,kd)::S.drop m).getD k en0).1.size<=1000000:=by rw[hS2];exact pU (fun p hp=>hsz _ (List.mem_cons_of_mem _ (kI (u3 hp)).1))
  have hcEA_:=pJ (oy.own' 3 rfl)
  have hcSA_:=pJ (oy.own' 4 rfl)
  have hcKA_:=pJ (oy.own' 5 rfl)
  refine aj [0,0,2,0,14,31,0,64,255,0,512,0,3584,8191,16383,32767] [[],[],[2],[],[],[3,6],[],[],[8,7],[],[2],[],[],[3,9],[],[2]] [[6],[],[],[],[],[7],[],[8],[9],[],[],[],[],[10],[],[11]] [[],[],[],[],[],[6],[],[],[7],[],[],[],[],[9],[],[2]] [.a 121,.k 122 (.pointer (some ⟨eu,5,none⟩)),.c 123 (.slice EA nn ec),.k 124 (vi ((m:Int))),.c 125 (.slice EA m ec),.a 126,.k 127 (.string x),.a 128,.a 129,.k 130 (.pointer (some ⟨eu,5,none⟩)),.c 131 (.slice EA nn ec),.k 132 (vi ((m:Int))),.c 133 (.slice ((if ec=m then EA else EA.map (·.add (m*1)))) ((nn-m)) ((ec-m))),.a 134,.k 135 (.pointer (some ⟨eu,5,none⟩)),.n] (fun ix d b X=>match ix with|0=>d 121= .slice (sA (b 121)) 0 0/\X 6=eO 9 1 (.slice (sA (b 121)) 0 0) 0 ([])|1|2|3|4=>True|5=>d 126= .slice (sA (b 126)) m (sC (b 126))/\X 7=eO 9 1 (.slice (sA (b 126)) m (sC (b 126))) m ((S.take m).map stv)|6=>True|7=>d 128= .slice (sA (b 128)) 1 1/\X 8=eO 9 1 (.slice (sA (b 128)) 1 1) 1 ([.string x])|8=>d 129= .slice (sA (b 129)) (m+1) (sC (b 129))/\X 9=eO 9 1 (.slice (sA (b 129)) (m+1) (sC (b 129))) (m+1) (((S.take m).map stv)++[.string x])|9|10|11|12=>True|13=>d 134= .slice (sA (b 134)) ((nn+1)) (sC (b 134))/\X 10=eO 9 1 (.slice (sA (b 134)) ((nn+1)) (sC (b 134))) ((nn+1)) ((((S.take m).map stv)++[.string x])++((S.drop m).map stv))|14=>True|15=>X 11=eB eu 66 #[.bool true,.bool ((au (bl h) 1)==1),vi (lv),vi ((au (bl h) 2)*256+(au (bl h) 3)-1),.string (h.extract 4 h.size),.slice (sA (b 134)) ((nn+1)) (sC (b 134)),.slice SA nn sc,.slice KA nn kc]|_=>True) [0,1,3,4,5,8,10,11] [0,2,4,5,7,8,10,12,13,15] [(121,0,15,136)] oy ?_ ?_ ?_
  exact fun ix _ _ _ _ _ _ hs hb hx h=>match ix,h with
  |0,h=>by dsimp only;rw[<-hs 121 rfl,<-hb 121 rfl,<-hx 6 rfl];exact h
  |5,h=>by dsimp only;rw[<-hs 126 rfl,<-hb 126 rfl,<-hx 7 rfl];exact h
  |7,h=>by dsimp only;rw[<-hs 128 rfl,<-hb 128 rfl,<-hx 8 rfl];exact h
  |8,h=>by dsimp only;rw[<-hs 129 rfl,<-hb 129 rfl,<-hx 9 rfl];exact h
  |13,h=>by dsimp only;rw[<-hs 134 rfl,<-hb 134 rfl,<-hx 10 rfl];exact h
  |15,h=>by dsimp only;rw[<-hb 134 rfl,<-hx 11 rfl];exact h
  |1,_|2,_|3,_|4,_|6,_|9,_|10,_|11,_|12,_|14,_|_+16,_=>trivial
  refine⟨?_,?_,?_,?_,?_,?_,?_,?_,?_,?_,trivial⟩
  refine svA fun f b W X cx=>?_
  exact bY (e:=9) (xs:=[]) rfl (by simp[go_sem]) rfl (by decide) rfl rfl (fun _ _ _ _ _=> .intro)
  exact xs4 rfl id fun cx=>ae rfl (by kernel_rfl) (cx.an 1) ((cx.bi 2 rfl).cell 5)
  exact xs4 rfl id fun cx=>fN (e:=9) (sz:=1) (m:=m) rfl (by kernel_rfl) (by kernel_rfl) (cx.an 2) (cx.an 3) (by omega) (by omega)
  refine svA fun f b W X cx=>?_
  obtain⟨i0,hi0,hz0,hz1,hz2⟩:=info_parts Try.infoStr
  refine cP (n:=0) (m:=m) (nm:=m) (xs:=[]) (news:=(S.take m).map stv) (xs':=(S.take m).map stv) rfl (ty:=49) rfl (by kernel_rfl) hi0 hz0 hz1 hz2 rfl (dTn (cx.an 0)).1 cx (dTn (cx.an 0)).2 rfl (cx.an 4) (by simp;omega) ((At.of_own (cx.ri 3 rfl)).takeM m) (me (fun _=>rfl) _) (by simp only[maxLen];omega) (by omega) rfl rfl rfl (by omega) (rfl) (fun d g X' hs hb hv hx=>?_)
  exact⟨hv,hx⟩
  refine svA fun f b W X cx=>?_
  have Lf:f (.tmp 127)= .string x:=(cx.an 6)
  exact bY (e:=9) (xs:=[.string x]) rfl (by simp[go_sem,Lf]) rfl (by decide) rfl rfl (fun _ _ _ _ _=> .intro)
  refine svA fun f b W X cx=>?_
  obtain⟨i0,hi0,hz0,hz1,hz2⟩:=info_parts Try.infoStr
  refine cP (n:=m) (m:=1) (nm:=m+1) (xs:=(S.take m).map stv) (news:=[.string x]) (xs':=((S.take m).map stv)++[.string x]) rfl (ty:=49) rfl (by kernel_rfl) hi0 hz0 hz1 hz2 rfl (dTn (cx.an 5)).1 cx (dTn (cx.an 5)).2 rfl (dTn (cx.an 7)).1 (by simp) (At.of_own (cx.row (dTn (cx.an 7)).2 rfl)) (by simp[Value.oneCell']) (by simp only[maxLen];omega) (by omega) rfl rfl rfl (by omega) (by simp) (fun d g X' hs hb hv hx=>?_)
  exact⟨hv,hx⟩
  exact xs4 rfl id fun cx=>ae rfl (by kernel_rfl) (cx.an 9) ((cx.bi 2 rfl).cell 5)
  exact xs4 rfl id fun cx=>b6 (e:=9) (sz:=1) (l:=m) rfl (by kernel_rfl) (by kernel_rfl) (cx.an 10) (cx.an 11) (by omega) (by omega)
  refine svA fun f b W X cx=>?_
  obtain⟨i0,hi0,hz0,hz1,hz2⟩:=info_parts Try.infoStr
  refine cP (n:=m+1) (m:=(nn-m)) (nm:=(nn+1)) (xs:=((S.take m).map stv)++[.string x]) (news:=(S.drop m).map stv) (xs':=(((S.take m).map stv)++[.string x])++((S.drop m).map stv)) rfl (ty:=49) rfl (by kernel_rfl) hi0 hz0 hz1 hz2 rfl (dTn (cx.an 8)).1 cx (dTn (cx.an 8)).2 rfl (cx.an 12) (by simp;omega) ((At.of_own (cx.ri 3 rfl)).dropM m ec (by omega)) (me (fun _=>rfl) _) (by simp only[maxLen];omega) (by omega) rfl rfl rfl (by omega) (by simp) (fun d g X' hs hb hv hx=>?_)
  exact⟨hv,hx⟩
  refine svA fun f b W X cx=>?_
  exact ar (n:=1) rfl (cx.an 14) (dTn (cx.an 13)).1 (by kernel_rfl) (by kernel_rfl) (by kernel_rfl) cx (cx.init 2 _ rfl) rfl (nle rfl) (by kernel_rfl) rfl rfl rfl (fun d g X' hs hb hx=>by rw[hb 134];exact hx)
  intro d b X P0 hD wI fr af
  simp only[exq 8 ((dTn (hD 7 lq)).2),exq 10 ((dTn (hD 13 lq)).2),exq 11 ((dTn (hD 15 lq)))] at wI
  simp only[ed 121 ((dTn (hD 0 lq)).1),ed 126 ((dTn (hD 5 lq)).1),ed 128 ((dTn (hD 7 lq)).1),ed 129 ((dTn (hD 8 lq)).1),ed 134 ((dTn (hD 13 lq)).1)] at af
  generalize sA (b 121)=My,sA (b 126)=Mz,sC (b 126)=MA,sA (b 128)=MB,sA (b 129)=MC,sC (b 129)=MD,sA (b 134)=qp,sC (b 134)=qq at wI af
  clear hD;subst af;clear d b X
  refine aa (wp_seq (aj [0,0,2,0,14,31,0,64,255,0,512,0,3584,8191,16383,32767] [[],[],[7],[],[],[3,8],[],[],[10,9],[],[7],[],[],[3,11],[],[7]] [[8],[],[],[],[],[9],[],[10],[11],[],[],[],[],[12],[],[13]] [[],[],[],[],[],[8],[],[],[9],[],[],[],[],[11],[],[7]] [.a 136,.k 137 (.pointer (some ⟨eu,6,none⟩)),.c 138 (.slice SA nn sc),.k 139 (vi ((m:Int))),.c 140 (.slice SA m sc),.a 141,.k 142 (vi ((i:Int))),.a 143,.a 144,.k 145 (.pointer (some ⟨eu,6,none⟩)),.c 146 (.slice SA nn sc),.k 147 (vi ((m:Int))),.c 148 (.slice ((if sc=m then SA else SA.map (·.add (m*1)))) ((nn-m)) ((sc-m))),.a 149,.k 150 (.pointer (some ⟨eu,6,none⟩)),.n] (fun ix d b X=>match ix with|0=>d 136= .slice (sA (b 136)) 0 0/\X 8=eO 3 1 (.slice (sA (b 136)) 0 0) 0 ([])|1|2|3|4=>True|5=>d 141= .slice (sA (b 141)) m (sC (b 141))/\X 9=eO 3 1 (.slice (sA (b 141)) m (sC (b 141))) m ((S.take m).map slv)|6=>True|7=>d 143= .slice (sA (b 143)) 1 1/\X 10=eO 3 1 (.slice (sA (b 143)) 1 1) 1 ([vi ((i:Int))])|8=>d 144= .slice (sA (b 144)) (m+1) (sC (b 144))/\X 11=eO 3 1 (.slice (sA (b 144)) (m+1) (sC (b 144))) (m+1) (((S.take m).map slv)++[vi ((i:Int))])|9|10|11|12=>True|13=>d 149= .slice (sA (b 149)) ((nn+1)) (sC (b 149))/\X 12=eO 3 1 (.slice (sA (b 149)) ((nn+1)) (sC (b 149))) ((nn+1)) ((((S.take m).map slv)++[vi ((i:Int))])++((S.drop m).map slv))|14=>True|15=>X 13=eB eu 66 #[.bool true,.bool ((au (bl h) 1)==1),vi (lv),vi ((au (bl h) 2)*256+(au (bl h) 3)-1),.string (h.extract 4 h.size),.slice qp ((nn+1)) qq,.slice (sA (b 149)) ((nn+1)) (sC (b 149)),.slice KA nn kc]|_=>True) [0,1,2,3,4,5,6,10,12,13] [0,2,4,5,7,8,10,12,13,15] [(136,0,15,151)] wI ?_ ?_ ?_))
  exact fun ix _ _ _ _ _ _ hs hb hx h=>match ix,h with
  |0,h=>by dsimp only;rw[<-hs 136 rfl,<-hb 136 rfl,<-hx 8 rfl];exact h
  |5,h=>by dsimp only;rw[<-hs 141 rfl,<-hb 141 rfl,<-hx 9 rfl];exact h
  |7,h=>by dsimp only;rw[<-hs 143 rfl,<-hb 143 rfl,<-hx 10 rfl];exact h
  |8,h=>by dsimp only;rw[<-hs 144 rfl,<-hb 144 rfl,<-hx 11 rfl];exact h
  |13,h=>by dsimp only;rw[<-hs 149 rfl,<-hb 149 rfl,<-hx 12 rfl];exact h
  |15,h=>by dsimp only;rw[<-hb 149 rfl,<-hx 13 rfl];exact h
  |1,_|2,_|3,_|4,_|6,_|9,_|10,_|11,_|12,_|14,_|_+16,_=>trivial
  refine⟨?_,?_,?_,?_,?_,?_,?_,?_,?_,?_,trivial⟩
  refine svA fun f b W X cx=>?_
  exact bY (e:=3) (xs:=[]) rfl (by simp[go_sem]) rfl (by decide) rfl rfl (fun _ _ _ _ _=> .intro)
  exact xs4 rfl id fun cx=>ae rfl (by kernel_rfl) (cx.an 1) ((cx.bi 7 rfl).cell 6)
  exact xs4 rfl id fun cx=>fN (e:=3) (sz:=1) (m:=m) rfl (by kernel_rfl) (by kernel_rfl) (cx.an 2) (cx.an 3) (by omega) (by omega)
  refine svA fun f b W X cx=>?_
  obtain⟨i0,hi0,hz0,hz1,hz2⟩:=info_parts Try.infoInt
  refine cP (n:=0) (m:=m) (nm:=m) (xs:=[]) (news:=(S.take m).map slv) (xs':=(S.take m).map slv) rfl (ty:=22) rfl (by kernel_rfl) hi0 hz0 hz1 hz2 rfl (dTn (cx.an 0)).1 cx (dTn (cx.an 0)).2 rfl (cx.an 4) (by simp;omega) ((At.of_own (cx.ri 3 rfl)).takeM m) (me (fun _=>rfl) _) (by simp only[maxLen];omega) (by omega) rfl rfl rfl (by omega) (rfl) (fun d g X' hs hb hv hx=>?_)
  exact⟨hv,hx⟩
  refine svA fun f b W X cx=>?_
  have Lg:f (.tmp 142)=vi ((i:Int)):=(cx.an 6)
  exact bY (e:=3) (xs:=[vi ((i:Int))]) rfl (by simp[go_sem,Lg]) rfl (by decide) rfl rfl (fun _ _ _ _ _=> .intro)
  refine svA fun f b W X cx=>?_
  obtain⟨i0,hi0,hz0,hz1,hz2⟩:=info_parts Try.infoInt
  refine cP (n:=m) (m:=1) (nm:=m+1) (xs:=(S.take m).map slv) (news:=[vi ((i:Int))]) (xs':=((S.take m).map slv)++[vi ((i:Int))]) rfl (ty:=22) rfl (by kernel_rfl) hi0 hz0 hz1 hz2 rfl (dTn (cx.an 5)).1 cx (dTn (cx.an 5)).2 rfl (dTn (cx.an 7)).1 (by simp) (At.of_own (cx.row (dTn (cx.an 7)).2 rfl)) (by simp[Value.oneCell']) (by simp only[maxLen];omega) (by omega) rfl rfl rfl (by omega) (by simp) (fun d g X' hs hb hv hx=>?_)
  exact⟨hv,hx⟩
  exact xs4 rfl id fun cx=>ae rfl (by kernel_rfl) (cx.an 9) ((cx.bi 7 rfl).cell 6)
  exact xs4 rfl id fun cx=>b6 (e:=3) (sz:=1) (l:=m) rfl (by kernel_rfl) (by kernel_rfl) (cx.an 10) (cx.an 11) (by omega) (by omega)
  refine svA fun f b W X cx=>?_
  obtain⟨i0,hi0,hz0,hz1,hz2⟩:=info_parts Try.infoInt
  refine cP (n:=m+1) (m:=(nn-m)) (nm:=(nn+1)) (xs:=((S.take m).map slv)++[vi ((i:Int))]) (news:=(S.drop m).map slv) (xs':=(((S.take m).map slv)++[vi ((i:Int))])++((S.drop m).map slv)) rfl (ty:=22) rfl (by kernel_rfl) hi0 hz0 hz1 hz2 rfl (dTn (cx.an 8)).1 cx (dTn (cx.an 8)).2 rfl (cx.an 12) (by simp;omega) ((At.of_own (cx.ri 3 rfl)).dropM m sc (by omega)) (me (fun _=>rfl) _) (by simp only[maxLen];omega) (by omega) rfl rfl rfl (by omega) (by simp) (fun d g X' hs hb hv hx=>?_)
  exact⟨hv,hx⟩
  refine svA fun f b W X cx=>?_
  exact ar (n:=1) rfl (cx.an 14) (dTn (cx.an 13)).1 (by kernel_rfl) (by kernel_rfl) (by kernel_rfl) cx (cx.init 7 _ rfl) rfl (nle rfl) (by kernel_rfl) rfl rfl rfl (fun d g X' hs hb hx=>by rw[hb 149];exact hx)
  intro d b X P1 hD wJ fr af
  simp only[exq 10 ((dTn (hD 7 lq)).2),exq 12 ((dTn (hD 13 lq)).2),exq 13 ((dTn (hD 15 lq)))] at wJ
  simp only[ed 136 ((dTn (hD 0 lq)).1),ed 141 ((dTn (hD 5 lq)).1),ed 143 ((dTn (hD 7 lq)).1),ed 144 ((dTn (hD 8 lq)).1),ed 149 ((dTn (hD 13 lq)).1)] at af
  generalize sA (b 136)=ME,sA (b 141)=MF,sC (b 141)=MG,sA (b 143)=MH,sA (b 144)=MI,sC (b 144)=MJ,sA (b 149)=wK,sC (b 149)=wL at wJ af
  clear hD;subst af;clear d b X
  refine aa (aj [0,0,2,0,14,31,0,64,255,0,512,0,3584,8191,16383,32767] [[],[],[9],[],[],[4,10],[],[],[12,11],[],[9],[],[],[4,13],[],[9]] [[10],[],[],[],[],[11],[],[12],[13],[],[],[],[],[14],[],[15]] [[],[],[],[],[],[10],[],[],[11],[],[],[],[],[13],[],[9]] [.a 151,.k 152 (.pointer (some ⟨eu,7,none⟩)),.c 153 (.slice KA nn kc),.k 154 (vi ((m:Int))),.c 155 (.slice KA m kc),.a 156,.k 157 (vi kd),.a 158,.a 159,.k 160 (.pointer (some ⟨eu,7,none⟩)),.c 161 (.slice KA nn kc),.k 162 (vi ((m:Int))),.c 163 (.slice ((if kc=m then KA else KA.map (·.add (m*1)))) ((nn-m)) ((kc-m))),.a 164,.k 165 (.pointer (some ⟨eu,7,none⟩)),.n] (fun ix d b X=>match ix with|0=>d 151= .slice (sA (b 151)) 0 0/\X 10=eO 3 1 (.slice (sA (b 151)) 0 0) 0 ([])|1|2|3|4=>True|5=>d 156= .slice (sA (b 156)) m (sC (b 156))/\X 11=eO 3 1 (.slice (sA (b 156)) m (sC (b 156))) m ((S.take m).map kdv)|6=>True|7=>d 158= .slice (sA (b 158)) 1 1/\X 12=eO 3 1 (.slice (sA (b 158)) 1 1) 1 ([vi kd])|8=>d 159= .slice (sA (b 159)) (m+1) (sC (b 159))/\X 13=eO 3 1 (.slice (sA (b 159)) (m+1) (sC (b 159))) (m+1) (((S.take m).map kdv)++[vi kd])|9|10|11|12=>True|13=>d 164= .slice (sA (b 164)) ((nn+1)) (sC (b 164))/\X 14=eO 3 1 (.slice (sA (b 164)) ((nn+1)) (sC (b 164))) ((nn+1)) ((((S.take m).map kdv)++[vi kd])++((S.drop m).map kdv))|14=>True|15=>X 15=eB eu 66 #[.bool true,.bool ((au (bl h) 1)==1),vi (lv),vi ((au (bl h) 2)*256+(au (bl h) 3)-1),.string (h.extract 4 h.size),.slice qp ((nn+1)) qq,.slice wK ((nn+1)) wL,.slice (sA (b 164)) ((nn+1)) (sC (b 164))]|_=>True) [0,1,2,3,4,5,6,7,8,12,14,15] [0,2,4,5,7,8,10,12,13,15] [(151,0,15,166)] wJ ?_ ?_ ?_)
  exact fun ix _ _ _ _ _ _ hs hb hx h=>match ix,h with
  |0,h=>by dsimp only;rw[<-hs 151 rfl,<-hb 151 rfl,<-hx 10 rfl];exact h
  |5,h=>by dsimp only;rw[<-hs 156 rfl,<-hb 156 rfl,<-hx 11 rfl];exact h
  |7,h=>by dsimp only;rw[<-hs 158 rfl,<-hb 158 rfl,<-hx 12 rfl];exact h
  |8,h=>by dsimp only;rw[<-hs 159 rfl,<-hb 159 rfl,<-hx 13 rfl];exact h
  |13,h=>by dsimp only;rw[<-hs 164 rfl,<-hb 164 rfl,<-hx 14 rfl];exact h
  |15,h=>by dsimp only;rw[<-hb 164 rfl,<-hx 15 rfl];exact h
  |1,_|2,_|3,_|4,_|6,_|9,_|10,_|11,_|12,_|14,_|_+16,_=>trivial
  refine⟨?_,?_,?_,?_,?_,?_,?_,?_,?_,?_,trivial⟩
  refine svA fun f b W X cx=>?_
  exact bY (e:=3) (xs:=[]) rfl (by simp[go_sem]) rfl (by decide) rfl rfl (fun _ _ _ _ _=> .intro)
  exact xs4 rfl id fun cx=>ae rfl (by kernel_rfl) (cx.an 1) ((cx.bi 9 rfl).cell 7)
  exact xs4 rfl id fun cx=>fN (e:=3) (sz:=1) (m:=m) rfl (by kernel_rfl) (by kernel_rfl) (cx.an 2) (cx.an 3) (by omega) (by omega)
  refine svA fun f b W X cx=>?_
  obtain⟨i0,hi0,hz0,hz1,hz2⟩:=info_parts Try.infoInt
  refine cP (n:=0) (m:=m) (nm:=m) (xs:=[]) (news:=(S.take m).map kdv) (xs':=(S.take m).map kdv) rfl (ty:=22) rfl (by kernel_rfl) hi0 hz0 hz1 hz2 rfl (dTn (cx.an 0)).1 cx (dTn (cx.an 0)).2 rfl (cx.an 4) (by simp;omega) ((At.of_own (cx.ri 4 rfl)).takeM m) (me (fun _=>rfl) _) (by simp only[maxLen];omega) (by omega) rfl rfl rfl (by omega) (rfl) (fun d g X' hs hb hv hx=>?_)
  exact⟨hv,hx⟩
  refine svA fun f b W X cx=>?_
  have Lh:f (.tmp 157)=vi kd:=(cx.an 6)
  exact bY (e:=3) (xs:=[vi kd]) rfl (by simp[go_sem,Lh]) rfl (by decide) rfl rfl (fun _ _ _ _ _=> .intro)
  refine svA fun f b W X cx=>?_
  obtain⟨i0,hi0,hz0,hz1,hz2⟩:=info_parts Try.infoInt
  refine cP (n:=m) (m:=1) (nm:=m+1) (xs:=(S.take m).map kdv) (news:=[vi kd]) (xs':=((S.take m).map kdv)++[vi kd]) rfl (ty:=22) rfl (by kernel_rfl) hi0 hz0 hz1 hz2 rfl (dTn (cx.an 5)).1 cx (dTn (cx.an 5)).2 rfl (dTn (cx.an 7)).1 (by simp) (At.of_own (cx.row (dTn (cx.an 7)).2 rfl)) (by simp[Value.oneCell']) (by simp only[maxLen];omega) (by omega) rfl rfl rfl (by omega) (by simp) (fun d g X' hs hb hv hx=>?_)
  exact⟨hv,hx⟩
  exact xs4 rfl id fun cx=>ae rfl (by kernel_rfl) (cx.an 9) ((cx.bi 9 rfl).cell 7)
  exact xs4 rfl id fun cx=>b6 (e:=3) (sz:=1) (l:=m) rfl (by kernel_rfl) (by kernel_rfl) (cx.an 10) (cx.an 11) (by omega) (by omega)
  refine svA fun f b W X cx=>?_
  obtain⟨i0,hi0,hz0,hz1,hz2⟩:=info_parts Try.infoInt
  refine cP (n:=m+1) (m:=(nn-m)) (nm:=(nn+1)) (xs:=((S.take m).map kdv)++[vi kd]) (news:=(S.drop m).map kdv) (xs':=(((S.take m).map kdv)++[vi kd])++((S.drop m).map kdv)) rfl (ty:=22) rfl (by kernel_rfl) hi0 hz0 hz1 hz2 rfl (dTn (cx.an 8)).1 cx (dTn (cx.an 8)).2 rfl (cx.an 12) (by simp;omega) ((At.of_own (cx.ri 4 rfl)).dropM m kc (by omega)) (me (fun _=>rfl) _) (by simp only[maxLen];omega) (by omega) rfl rfl rfl (by omega) (by simp) (fun d g X' hs hb hv hx=>?_)
  exact⟨hv,hx⟩
  refine svA fun f b W X cx=>?_
  exact ar (n:=1) rfl (cx.an 14) (dTn (cx.an 13)).1 (by kernel_rfl) (by kernel_rfl) (by kernel_rfl) cx (cx.init 9 _ rfl) rfl (nle rfl) (by kernel_rfl) rfl rfl rfl (fun d g X' hs hb hx=>by rw[hb 164];exact hx)
  intro d b X P2 hD rJ fr af
  simp only[exq 12 ((dTn (hD 7 lq)).2),exq 14 ((dTn (hD 13 lq)).2),exq 15 ((dTn (hD 15 lq)))] at rJ
  simp only[ed 151 ((dTn (hD 0 lq)).1),ed 156 ((dTn (hD 5 lq)).1),ed 158 ((dTn (hD 7 lq)).1),ed 159 ((dTn (hD 8 lq)).1),ed 164 ((dTn (hD 13 lq)).1)] at af
  generalize sA (b 151)=MK,sA (b 156)=ML,sC (b 156)=MM,sA (b 158)=MN,sA (b 159)=MO,sC (b 159)=MP,sA (b 164)=DX,sC (b 164)=DY at rJ af
  clear hD;subst af;clear d b X
  refine aw (aa (sqr (sqp [.m 65 5,sI 66 ((i:Int)+1) (by omega),.m 5 66] ?_)))
  refine aa ?_
  rw[show [(Value.string x)]=[stv (x,i,kd)] from rfl,sM (x,i,kd),show [(Value.int .i64 (i:Int))]=[slv (x,i,kd)] from rfl,sM (x,i,kd),show [(Value.int .i64 kd)]=[kdv (x,i,kd)] from rfl,sM (x,i,kd)] at rJ
  refine⟨n-((i+1)),by omega,?_⟩
  exact⟨(i+1),(nn+1),(S.take m++(x,i,kd)::S.drop m),qp,qq,wK,wL,DX,DY,by omega,by omega,hS2,hbad2,hS2l,by omega,hSz2,rfl,(by kernel_rfl),rJ.pk [0,1,11,6,8,10]⟩
 refine wp_exit (am (am (bj (aa (wp_seq ?_)))))
 have hall:=DL (its:=h::l) (i:=i) (by rw[hn];omega)
 rw[hall] at hS hbad
 refine sqr ?_
 refine d9 2 8 ff ?_
 refine aF (n:=8) 1 #[.bool true,.bool ((au (bl h) 1)==1),vi (lv),vi ((au (bl h) 2)*256+(au (bl h) 3)-1),.string (h.extract 4 h.size),.slice EA nn ec,.slice SA nn sc,.slice KA nn kc] ff fun P3 BO=>?_
 refine aa (wp_ret ?_)
 refine bpr (.agg #[.bool true,.bool ((au (bl h) 1)==1),vi (lv),vi ((au (bl h) 2)*256+(au (bl h) 3)-1),.string (h.extract 4 h.size),.slice EA nn ec,.slice SA nn sc,.slice KA nn kc]) (ba (n:=8) Try.results33 rfl (by kernel_rfl) (by kernel_rfl) (BO.blk 1 rfl) rfl) ?_
 subst hnn
 have hpk_:=BO.pick [3,4,5] (by decide) rfl
 have hdead:(aI h 1 1==1)=(au (bl h) 1==1):=by have h_:=mB h 1 (by omega);rw[Bool.eq_iff_iff,beq_iff_eq,beq_iff_eq];omega
 have hright:=jm h 2 (by omega)
 rw[t9 lY,gn hok (by rw[hlv];exact hbad),hlv,<-(show S=srt lv (bp 1 l) from hS)]
 exact⟨EA,ec,SA,sc,KA,kc,by rw[ndV,hdead,hright],hpk_⟩
theorem Fl(k lsn:Int)(A:Option Addr)(c:Nat)(w:World):
  Calls Try.prog 33 #[.agg #[.int .i64 k,.int .i64 lsn,.slice A 0 c]] w (jP (cf k []) w):=by
 go_enter Try.func33,Try.ntmps33
 have aq:=St.start w
 refine wp_seq (sqr ?_)
 refine bX #[vi k,vi lsn,.slice A 0 c] aq fun bB W1 aC=>?_
 refine bW #[.bool false,.bool false,vi 0,vi 0,.string ByteArray.empty,.slice none 0 0,.slice none 0 0,.slice none 0 0] aC fun ox W2 aV=>?_
 refine aa (wp_seq (wp_seq (sqr (sqp [.k 9 (vp bB)] ?_))))
 refine al 0 aV ?_
 refine sqp [.k 11 (.bool (k != 2)),.m 12 11] ?_
 refine fo 12 [13,14,15,16] ?_ rfl (fun hq=>?_) ?_
 rotate_left
 refine sqp [.k 13 (.pointer (some ⟨bB,2,none⟩))] ?_
 refine al 0 aV ?_
 refine sqp [.k 15 (vi 0),.k 16 (.bool true)] ?_
 exact sqe
 refine dn ?_
 have hd12:((k != 2)||true)=true:=Bool.or_true _
 refine sqp [Dg 17 (k != 2) true true hd12] ?_
 refine aa (wct rfl (wp_seq (sqr (sqp [.k 18 (.agg #[.bool false,.bool false,vi 0,vi 0,.string ByteArray.empty,.slice none 0 0,.slice none 0 0,.slice none 0 0])] ?_))))
 refine aF (n:=8) 1 #[.bool false,.bool false,vi 0,vi 0,.string ByteArray.empty,.slice none 0 0,.slice none 0 0,.slice none 0 0] aV fun iY bn=>?_
 refine aa (wp_ret (ai ?_))
 refine bpr (.agg #[.bool false,.bool false,vi 0,vi 0,.string ByteArray.empty,.slice none 0 0,.slice none 0 0,.slice none 0 0]) (ba (n:=8) Try.results33 rfl (by kernel_rfl) (by kernel_rfl) (bn.blk 1 rfl) rfl) ?_
 exact je (im (.inr (.inl rfl))) bn.ext
theorem tQ(k lsn:Int)(A:Option Addr)(c:Nat)(its:List ByteArray)(w:World)(hA:At w A (its.map Value.string))(hl:its.length<=100000)(hsz:∀s∈its,s.size<=1000000):
  Calls Try.prog 33 #[.agg #[.int .i64 k,.int .i64 lsn,.slice A its.length c]] w (jP (cf k its) w):=by
 cases its with
 |nil=>exact Fl k lsn A c w
 |cons h l=>exact Gi k lsn A c _ h l w hA rfl hl hsz
end
section
open Go.RowKit
def jd(xs:List Value)(off:Nat):List Value->List Value
 | []=>xs
 |v::l=>jd (xs.set off v) (off+1) l
theorem vU:∀(vs A B C:List Value),B.length=vs.length->jd (A++(B++C)) A.length vs=A++(vs++C)
 | [],A,B,C,h=>by
   obtain rfl:B=[]:=List.eq_nil_of_length_eq_zero h
   rfl
 |v::vs,A,[],C,h=>by simp at h
 |v::vs,A,b::B,C,h=>by
  rw[jd]
  have e:(A++(b::B++C)).set A.length v=(A++[v])++(B++C):=by simp
  have e2:A.length+1=(A++[v]).length:=by simp
  rw[e,e2,vU vs (A++[v]) B C (by simpa using h)]
  simp
theorem iy{T:Type}{f:T->List Value}{sz:Nat}(hf:∀t,(f t).length=sz){ts:List T}{m:Nat}(h:m<ts.length)(t:T):jd (ts.flatMap f) (m*sz) (f t)=(ts.set m t).flatMap f:=by
 have hl:∀l:List T,(l.flatMap f).length=l.length*sz:=fun l=>by
  induction l with
  |nil=>simp
  |cons a l ih=>rw[List.flatMap_cons,List.length_append,ih,hf,List.length_cons,Nat.add_mul];omega
 have e:ts=ts.take m++(ts[m]::ts.drop (m+1)):=by rw[<-List.drop_eq_getElem_cons h,List.take_append_drop]
 have e2:ts.set m t=ts.take m++(t::ts.drop (m+1)):=by rw[List.set_eq_take_append_cons_drop,if_pos h]
 have e3:m*sz=((ts.take m).flatMap f).length:=by rw[hl,List.length_take,Nat.min_eq_left (by omega)]
 have e4:ts.flatMap f=(ts.take m).flatMap f++(f ts[m]++(ts.drop (m+1)).flatMap f):=by
  conv=>lhs;rw[e]
  rw[List.flatMap_append,List.flatMap_cons]
 rw[e2,e4,List.flatMap_append,List.flatMap_cons,e3,vU _ _ _ _ (by rw[hf,hf])]
section
variable{P:Program}{ops:Array Oper}{L:List Nat}{a0:Act}{w0:World}{bor:List Nat}{X0:List Ent}{us cr kl:List (List Nat)}
 {D:Nat->(Tmp->Value)->(Tmp->Value)->(Nat->Ent)->Prop}{i:Nat}{o:Oper}{ρ:Operand->Value}{β:Tmp->Value}{W:World}{X:Nat->Ent}
theorem j2{g e sz n c:Nat}:∀(vs:List Value) (m i:Nat) (xs:List Value) (W:World),W.ownsRow 0 e sz (.slice (some ⟨g,0,none⟩) n c) n xs->m+i+vs.length<=n*sz->(∀v∈vs,v.oneCell'=true)->
  ∃W',(storeCells ⟨g,m,none⟩ vs i).run P W= .ok () W'/\Upd [g] W W'/\W'.ownsRow 0 e sz (.slice (some ⟨g,0,none⟩) n c) n (jd xs (m+i) vs):=by
 intro vs
 induction vs with
 |nil=>intro m i xs W hb _ _;exact⟨W,rfl,Upd.refl _ _,hb⟩
 |cons v vs ih=>
  intro m i xs W hown hle h1
  simp only[List.length_cons] at hle
  have hlen:xs.length=n*sz:=hown.1
  have hcell:W.cell? ⟨g,m+i,none⟩=some (xs[m+i]'(by omega)):=by
   rw[hown.cellAt (m+i) (by omega)]
   exact List.getElem?_eq_getElem (by omega)
  have hfz:=hown.frozenAt (m+i)
  have aL:=(hown.stored (m+i) v).1
  obtain⟨W',h2,h3,h4⟩:=ih m (i+1) (xs.set (m+i) v) (W.setCell ⟨g,m+i,none⟩ v) aL (by omega) (fun x hx=>h1 x (by simp[hx]))
  refine⟨W',?_,((Upd.refl [g] W).set (.inl (by simp)) v).trans h3,h4⟩
  unfold storeCells
  have hv:=h1 v (by simp)
  have iX:(store ((⟨g,m,none⟩:Addr).add i) v).run P W= .ok () (W.setCell ⟨g,m+i,none⟩ v):=by
   rw[Addr.add_lit]
   unfold store
   cases v<;>first|(simp[Value.oneCell'] at hv;done)|(simp[Sem.run,hcell,hfz])
  simp only[Sem.run_bind,iX,Result.andThen_ok,h2]
theorem fS{t e sz k:Nat}{x y:Operand}{A:Option Addr}{n c m q q':Nat}{v:Value}{xs:List Value}(h:o.op= .store t x y)(hx:ρ x= .pointer (some ((ad A).add m)))(hy:ρ y=v)(hz:szP P t=some k)(hn:v.cells.size=k)
  (h1:v.cells.toList.all Value.oneCell'=true) (cx:CtxV ops L a0 w0 bor X0 us D i ρ β W X) (hX:X q=eO e sz (.slice A n c) n xs) (hu:(atV us i).contains q=true) (hm:m+k<=n*sz) (hk0:0<k) (hd:o.dst=none){xs':List Value}(hC:jd xs m v.cells.toList=xs')
  (hc:atV cr i=[q']) (hk:atV kl i=[q]) (hD:∀(a b:Tmp->Value) (X':Nat->Ent),(∀t,a t=ρ (.tmp t))->(∀t,b t=β t)->X' q'=eO e sz (.slice A n c) n xs'->D i a b X'):ax P o ρ W (cy cr kl D i o.dst ρ β W X):=by
 subst hC
 have hok:=cx.ok q hu
 rw[hX] at hok
 have hown:W.ownsRow 0 e sz (.slice A n c) n xs:=hok.holds
 obtain⟨g,rfl⟩:∃g,A=some ⟨g,0,none⟩:=by
  rcases hown.2 with ⟨hv,hm0⟩|⟨g,cap,cur,hv,_⟩
  subst hm0;rw[Nat.zero_mul] at hm;omega
  injection hv with h1 h2 h3;exact⟨g,h1⟩
 have hadd:(ad (some ⟨g,0,none⟩)).add m=⟨g,m,none⟩:=by rw[ad,Option.getD_some,Addr.add_lit,Nat.zero_add]
 obtain⟨W',h2,h3,h4⟩:=j2 (P:=P) v.cells.toList m 0 xs W hown (by simp[hn];exact hm) (fun u hu=>List.all_eq_true.1 h1 u hu)
 have hrun:(execOp ρ o).run P W= .ok .skip W':=by
  unfold execOp;rw[h]
  simp only[hx,hy,hadd,Instr.storeAt,Instr.sureAddr,storeVar,Sem.run_bind,Sem.run_pure,Result.andThen_ok,cO hz,hn,ne_eq,not_true_eq_false,if_false]
  rw[h2]
  rfl
 rw[Nat.add_zero] at h4
 refine ax.skip hrun ⟨[eO e sz (.slice (some ⟨g,0,none⟩) n c) n (jd xs m v.cells.toList)],by rw[hc];rfl,⟨?_,fun e' he=>?_,List.pairwise_singleton _ _⟩,fun a b X' hs hv hb' hbv hx' hN=>hD a b X' (fun t=>hs t (by rw[hd];simp)) (fun t=>hb' t (by rw[hd];simp)) ?_⟩
 rw[hk]
 simp only[List.flatMap_cons,List.flatMap_nil,List.append_nil,hX]
 exact h3.mono (fun k _ hk'=>by simp at hk';subst hk';simp[eO,Value.ownBlock])
 rw[List.mem_singleton] at he
 subst he
 refine⟨h4,gg _ _ _ _ _,fun k hk'=>?_⟩
 have hkg:k=g:=by simpa[eO,Value.ownBlock] using hk'
 subst hkg
 refine⟨.inl ?_,eK h4 k (by simp[Value.ownBlock])⟩
 rw[hk]
 simp[hX,eO,Value.ownBlock]
 rw[hc] at hN
 exact(List.cons.inj hN).1
end
end
section
open Go.RowKit
theorem bM{w0 W:World}{bor:List Nat}{L:List Ent}(h:St w0 bor L W)(e sz:Nat):St w0 bor (L++[eO e sz (.slice none 0 0) 0 []]) W:=by
 refine⟨h.upd,fun x hx=>?_,?_⟩
 rcases List.mem_append.1 hx with hx|hx
 exact h.ok x hx
 rw[List.mem_singleton] at hx
 subst hx
 exact⟨World.ownsRow_nil _ _ _ _,gg _ _ _ _ _,fun k hk=>by cases hk⟩
 rw[List.pairwise_append]
 refine⟨h.apart,List.pairwise_singleton _ _,fun a _ b hb=>?_⟩
 rw[List.mem_singleton] at hb
 subst hb
 exact fun k _ hk=>by cases hk
variable{P:Program}{o:Oper}{ρ:Operand->Value}{W:World}
def enC(e:EnD):List Value:=[.string e.1,.int .i64 (e.2.1:Int),.int .i64 e.2.2]
theorem aH(e:EnD):(enC e).length=3:=rfl
theorem ck{l:List EnD}{k:Nat}(h:k<l.length):l[k]? =some (l.getD k en0):=by rw[List.getD_eq_getElem?_getD,List.getElem?_eq_getElem h];rfl
def gX(A:Option Addr)(n c:Nat)(ls:List EnD)(w:World)(e:Ending)(w':World):Prop:=e= .returned (.tuple #[])/\St w (Value.ownBlock (.slice A n c)).toList [eO 104 3 (.slice A n c) n (ls.flatMap enC)] w'
theorem St.lentRw{w:World}{e:TypeId}{sz n:Nat}{v:Value}{xs:List Value}(h:w.ownsRow 0 e sz v n xs):St w v.ownBlock.toList [eO e sz v n xs] w:=
 St.lend (E:=eO e sz v n xs) h (gg _ _ _ _ _) (fun k hk=>eK h k (by simpa[eO] using hk))
def jh(L:List EnD)(i:Nat):List EnD:=(List.range L.length).map fun k=>if k<i\/L.length<=k+i then L.getD (L.length-1-k) en0 else L.getD k en0
theorem i5(L:List EnD)(i:Nat):(jh L i).length=L.length:=by simp[jh]
theorem i7{L:List EnD}{i k:Nat}(h:k<L.length):(jh L i)[k]? =some (if k<i\/L.length<=k+i then L.getD (L.length-1-k) en0 else L.getD k en0):=by simp[jh,h]
theorem Ia(L:List EnD):jh L 0=L:=by
 apply List.ext_getElem?
 intro k
 rcases Nat.lt_or_ge k L.length with h|h
 rw[i7 h,if_neg (by omega),ck h]
 rw[List.getElem?_eq_none (by rw[i5];exact h),List.getElem?_eq_none h]
theorem Dt{L:List EnD}{i:Nat}(h:L.length<=i+i+1):jh L i=L.reverse:=by
 apply List.ext_getElem?
 intro k
 rcases Nat.lt_or_ge k L.length with hk|hk
 rw[i7 hk,List.getElem?_reverse hk,ck (show L.length-1-k<L.length by omega)]
 split
 rfl
 congr 2;omega
 rw[List.getElem?_eq_none (by rw[i5];exact hk),List.getElem?_eq_none (by rw[List.length_reverse];exact hk)]
theorem A8{L:List EnD}{i j:Nat}(h:i+j+1=L.length)(hij:i<j):((jh L i).set i (L.getD j en0)).set j (L.getD i en0)=jh L (i+1):=by
 apply List.ext_getElem?
 intro k
 rcases Nat.lt_or_ge k L.length with hk|hk
 rw[i7 hk,List.getElem?_set,List.getElem?_set]
 simp only[List.length_set,i5]
 by_cases h1:j=k
 rw[if_pos h1,if_pos (by omega),if_pos (by omega)];congr 2;omega
 rw[if_neg h1]
 by_cases h2:i=k
 rw[if_pos h2,if_pos (by omega),if_pos (by omega)];congr 2;omega
 rw[if_neg h2,i7 hk]
 by_cases h3:k<i\/L.length<=k+i
 rw[if_pos h3,if_pos (by omega)]
 rw[if_neg h3,if_neg (by omega)]
 rw[List.getElem?_eq_none (by simp only[List.length_set,i5];exact hk),List.getElem?_eq_none (by rw[i5];exact hk)]
def inL(S:List EnD)(x:EnD)(j:Nat)(R:List EnD):List EnD:=S.take j++x::(S.drop j++R)
theorem sB{S:List EnD}{x:EnD}{j:Nat}{R:List EnD}(h:j<=S.length):(inL S x j R).length=S.length+1+R.length:=by
 rw[inL,List.length_append,List.length_cons,List.length_append,List.length_take,List.length_drop];omega
theorem vN{S:List EnD}{x:EnD}{j:Nat}{R:List EnD}(h:j<=S.length):(inL S x j R)[j]? =some x:=by
 rw[inL,List.getElem?_append_right (by rw[List.length_take];omega),List.length_take,Nat.min_eq_left h,Nat.sub_self];rfl
theorem xW{S:List EnD}{x:EnD}{j:Nat}{R:List EnD}(h:j<=S.length)(h0:0<j):(inL S x j R)[j-1]? =some (S.getD (j-1) en0):=by
 rw[inL,List.getElem?_append_left (by rw[List.length_take];omega),List.getElem?_take,if_pos (by omega),ck (by omega)]
theorem Dr{S:List EnD}{x:EnD}{j:Nat}{R:List EnD}(h:j<=S.length)(h0:0<j):((inL S x j R).set j (S.getD (j-1) en0)).set (j-1) x=inL S x (j-1) R:=by
 apply List.ext_getElem?
 intro k
 have e:S.drop (j-1)=S.getD (j-1) en0::S.drop j:=by
  rw[List.drop_eq_getElem_cons (by omega),List.getD_eq_getElem?_getD,List.getElem?_eq_getElem (show j-1<S.length by omega),Nat.sub_add_cancel h0];rfl
 rw[List.getElem?_set,List.getElem?_set]
 simp only[List.length_set,sB h]
 by_cases h1:j-1=k
 rw[if_pos h1,if_pos (by omega),<-h1,vN (by omega)]
 rw[if_neg h1]
 by_cases h2:j=k
 rw[if_pos h2,if_pos (by omega),inL,List.getElem?_append_right (by rw[List.length_take];omega),List.length_take,Nat.min_eq_left (by omega),show k-(j-1)=1 by omega,e];rfl
 rw[if_neg h2,inL,inL,e]
 rcases Nat.lt_or_ge k (j-1) with h3|h3
 rw[List.getElem?_append_left (by rw[List.length_take];omega),List.getElem?_append_left (by rw[List.length_take];omega),List.getElem?_take,List.getElem?_take,if_pos (by omega),if_pos (by omega)]
 rw[List.getElem?_append_right (by rw[List.length_take];omega),List.getElem?_append_right (by rw[List.length_take];omega),List.length_take,List.length_take,Nat.min_eq_left (by omega),Nat.min_eq_left (by omega)]
 obtain⟨d,rfl⟩:∃d,k=j+1+d:=⟨k-(j+1),by omega⟩
 rw[show j+1+d-j=d+1 by omega,show j+1+d-(j-1)=d+1+1 by omega]
 rfl
def srL(L:List EnD)(i:Nat):List EnD:=(cW (L.take i).reverse).reverse
theorem sQ{L:List EnD}{i:Nat}(h:i<=L.length):(srL L i).length=i:=by rw[srL,List.length_reverse,lp,List.length_reverse,List.length_take];omega
theorem GO(L:List EnD):srL L 1=L.take 1:=by
 rw[srL]
 cases L with
 |nil=>rfl
 |cons a l=>rfl
theorem Gb{L:List EnD}{i:Nat}(h:L.length<=i):srL L i=(cW L.reverse).reverse:=by rw[srL,List.take_of_length_le h]
theorem DO{L:List EnD}{i j:Nat}(h:i<L.length)(hj:j<=i)(h1:∀y∈(srL L i).drop j,ag (L.getD i en0).1 y.1=true)(h2:j=0\/ag (L.getD i en0).1 ((srL L i).getD (j-1) en0).1=false):inL (srL L i) (L.getD i en0) j (L.drop (i+1))=srL L (i+1)++L.drop (i+1):=by
 have hl:=sQ (Nat.le_of_lt h)
 have e:srL L (i+1)=(srL L i).take j++L.getD i en0::(srL L i).drop j:=by
  rw[srL,List.take_add_one,ck h,Option.toList,List.reverse_append]
  show (gP (L.getD i en0) (cW (L.take i).reverse)).reverse= _
  refine yK ?_ h1 fun y hy=>?_
  rw[<-List.reverse_append,List.take_append_drop,srL,List.reverse_reverse]
  rcases h2 with rfl|h2
  simp at hy
  rcases Nat.eq_zero_or_pos j with h0|h0
  subst h0;simp at hy
  rw[List.getLast?_eq_getElem?,List.length_take,Nat.min_eq_left (by omega),List.getElem?_take,if_pos (by omega),ck (by omega)] at hy
  rw[<-Option.some.inj hy];exact h2
 rw[e,inL,List.append_assoc];rfl
theorem Hp{L:List EnD}{i:Nat}(h:i<L.length):srL L i++L.drop i=inL (srL L i) (L.getD i en0) i (L.drop (i+1)):=by
 have hl:=sQ (Nat.le_of_lt h)
 rw[inL,List.take_of_length_le (by omega),List.drop_of_length_le (l:=srL L i) (by omega),List.drop_eq_getElem_cons h,List.nil_append,List.getD_eq_getElem?_getD,List.getElem?_eq_getElem h];rfl
theorem FN{L:List EnD}{i:Nat}{M:Nat}(h:∀e∈L,e.1.size<=M)(k:Nat):((srL L i).getD k en0).1.size<=M:=by
 rcases Nat.lt_or_ge k (srL L i).length with hk|hk
 rw[List.getD_eq_getElem?_getD,List.getElem?_eq_getElem hk,Option.getD_some]
 have h1:(srL L i)[k]∈srL L i:=List.getElem_mem hk
 exact h _ (List.mem_of_mem_take (List.mem_reverse.1 (jN (List.mem_reverse.1 h1))))
 rw[List.getD_eq_getElem?_getD,List.getElem?_eq_none hk]
 exact Nat.zero_le _
theorem cH{L:List EnD}{M:Nat}(h:∀e∈L,e.1.size<=M)(k:Nat):(L.getD k en0).1.size<=M:=by
 rcases Nat.lt_or_ge k L.length with hk|hk
 rw[List.getD_eq_getElem?_getD,List.getElem?_eq_getElem hk];exact h _ (List.getElem_mem hk)
 rw[List.getD_eq_getElem?_getD,List.getElem?_eq_none hk];exact Nat.zero_le _
theorem Dv(A:Option Addr)(n c:Nat)(L:List EnD)(w:World)(hO:w.ownsRow 0 104 3 (.slice A n c) n (L.flatMap enC))(hn:L.length=n)(hnb:n<=100000)(h0:0<n):
  Calls Try.prog 95 #[.slice A n c] w (gX A n c L.reverse w):=by
 have st0:=St.lentRw hO
 have hcap:=d4 hO
 go_enter Try.func95,Try.ntmps95
 have aq:=st0
 refine wp_seq (sqr (sqp [.m 4 0,.k 5 (vi ((n:Int))),sI 6 ((n:Int)-1) (by omega),.k 2 (vi 0),.m 3 6] ?_))
 refine aa (wp_block ?_)
 obtain⟨z6_,IU⟩:∃z,(n:Int)-1=z:=⟨_,rfl⟩
 rw[IU]
 obtain rfl:z6_=((n-1:Nat):Int):=by omega
 rw[<-Ia L] at aq
 refine aX (fun t_ mz az W=>∃i:Nat,∃j:Nat,i+j+1=n/\mz=j+1/\az=⟨(ovr (jv az) [(2,2,0,[vi ((i:Int)),vi ((j:Int))]),(3,7,21,[])] t_).toArray,[]⟩/\St w (Value.ownBlock (.slice A n c)).toList [eO 104 3 (.slice A n c) n ((jh L i).flatMap enC)] W) (((n-1))+1) ?_ ?_
 exact⟨0,(n-1),by omega,rfl,(by kernel_rfl),aq.pk [0]⟩
 rintro n7 a7 W7 ⟨i,j,hij,rfl,hj_,bF⟩
 refine ovz hj_ fun IV=>?_
 refine wp_seq (wp_seq (sqr (sqp [.m 7 2,.m 8 3,.k 9 (.bool (decide ((i:Int)<(j:Int))))] ?_)))
 refine aa (wds (fun wM rK=>?_) fun wM rK=>?_)
 refine wp_skip (aa (wp_seq (wp_block ?_)))
 have hrl_:=i5 L i
 refine aj [0,0,0,0,0,0,48,112,0,0,768,1792,4083,8179,16383,32767] [[],[],[],[],[],[],[0],[0],[],[],[0],[0],[0],[0],[1],[1]] [[],[],[],[],[],[],[],[],[],[],[],[],[],[1],[],[2]] [[],[],[],[],[],[],[],[],[],[],[],[],[],[0],[],[1]] [.k 14 (.slice A n c),.k 15 (vi ((i:Int))),.k 16 (.slice A n c),.k 17 (vi ((j:Int))),.k 18 (.slice A n c),.k 19 (vi ((j:Int))),.c 20 (.pointer (some ((ad A).add (j*3)))),.c 21 (.agg #[.string ((L.getD j en0).1),vi (((L.getD j en0).2.1:Int)),vi ((L.getD j en0).2.2)]),.k 22 (.slice A n c),.k 23 (vi ((i:Int))),.c 24 (.pointer (some ((ad A).add (i*3)))),.c 25 (.agg #[.string ((L.getD i en0).1),vi (((L.getD i en0).2.1:Int)),vi ((L.getD i en0).2.2)]),.c 26 (.pointer (some ((ad A).add (i*3)))),.n,.c 27 (.pointer (some ((ad A).add (j*3)))),.n] (fun ix b a X=>match ix with|0|1|2|3|4|5|6|7|8|9|10|11|12=>True|13=>X 1=eO 104 3 (.slice A n c) n (((jh L i).set i (L.getD j en0)).flatMap enC)|14=>True|15=>X 2=eO 104 3 (.slice A n c) n ((((jh L i).set i (L.getD j en0)).set j (L.getD i en0)).flatMap enC)|_=>True) [2] [6,7,10,11,12,13,14,15] [(14,0,15,28)] bF ?_ ?_ ?_
 exact fun ix _ _ _ _ _ _ hs hb hx h=>match ix,h with
 |13,h=>by dsimp only;rw[<-hx 1 rfl];exact h
 |15,h=>by dsimp only;rw[<-hx 2 rfl];exact h
 |0,_|1,_|2,_|3,_|4,_|5,_|6,_|7,_|8,_|9,_|10,_|11,_|12,_|14,_|_+16,_=>trivial
 refine⟨?_,?_,?_,?_,?_,?_,?_,?_,trivial⟩
 exact xs4 rfl id fun cx=>aD (e:=104) (m:=j) (sz:=3) rfl (by kernel_rfl) (by kernel_rfl) (cx.an 4) (cx.an 5) (by omega) (by omega) (At.of_ownN (cx.ri 0 rfl)) (be (sz:=3) aH (by decide) (by first|omega|(simp only[List.length_set];omega)))
 exact xs4 rfl id fun cx=>aY (f:=enC) (m:=j) (sz:=3) (off:=0) (n:=3) rfl (by kernel_rfl) (by kernel_rfl) (cx.an 6) rfl aH (At.of_ownN (cx.ri 0 rfl)) (by rw[i7 (by omega),if_neg (by omega)]) (fun k hk=>match k,hk with|0,_=>rfl|1,_=>rfl|2,_=>rfl|k+3,hk=>absurd hk (by omega))
 exact xs4 rfl id fun cx=>aD (e:=104) (m:=i) (sz:=3) rfl (by kernel_rfl) (by kernel_rfl) (cx.an 8) (cx.an 9) (by omega) (by omega) (At.of_ownN (cx.ri 0 rfl)) (be (sz:=3) aH (by decide) (by first|omega|(simp only[List.length_set];omega)))
 exact xs4 rfl id fun cx=>aY (f:=enC) (m:=i) (sz:=3) (off:=0) (n:=3) rfl (by kernel_rfl) (by kernel_rfl) (cx.an 10) rfl aH (At.of_ownN (cx.ri 0 rfl)) (by rw[i7 (by omega),if_neg (by omega)]) (fun k hk=>match k,hk with|0,_=>rfl|1,_=>rfl|2,_=>rfl|k+3,hk=>absurd hk (by omega))
 exact xs4 rfl id fun cx=>aD (e:=104) (m:=i) (sz:=3) rfl (by kernel_rfl) (by kernel_rfl) (cx.an 0) (cx.an 1) (by omega) (by omega) (At.of_ownN (cx.ri 0 rfl)) (be (sz:=3) aH (by decide) (by first|omega|(simp only[List.length_set];omega)))
 refine svA fun ρ a W X cx=>?_
 exact fS (m:=i*3) (n:=n) (sz:=3) (k:=3) rfl (cx.an 12) (cx.an 7) (by kernel_rfl) (by kernel_rfl) (by kernel_rfl) cx (cx.init 0 _ rfl) rfl (by omega) (by decide) rfl (iy aH (ts:=(jh L i)) (m:=i) (by first|omega|(simp only[List.length_set];omega)) (L.getD j en0)) rfl rfl (fun _ _ _ _ _=>id)
 exact xs4 rfl id fun cx=>aD (e:=104) (m:=j) (sz:=3) rfl (by kernel_rfl) (by kernel_rfl) (cx.an 2) (cx.an 3) (by omega) (by omega) (At.of_ownN (cx.row (dTn (cx.an 13)) rfl)) (be (sz:=3) aH (by decide) (by first|omega|(simp only[List.length_set];omega)))
 refine svA fun ρ a W X cx=>?_
 exact fS (m:=j*3) (n:=n) (sz:=3) (k:=3) rfl (cx.an 14) (cx.an 11) (by kernel_rfl) (by kernel_rfl) (by kernel_rfl) cx (dTn (cx.an 13)) rfl (by omega) (by decide) rfl (iy aH (ts:=((jh L i).set i (L.getD j en0))) (m:=j) (by first|omega|(simp only[List.length_set];omega)) (L.getD i en0)) rfl rfl (fun _ _ _ _ _=>id)
 intro b a X nD hD cb fr af
 simp only[exq 2 ((dTn (hD 15 lq)))] at cb
 clear hD;subst af;clear b a X
 refine aw (aa (sqr (sqp [.m 10 2,sI 11 ((i:Int)+1) (by omega),.m 12 3,sI 13 ((j:Int)-1) (by omega),.m 2 11,.m 3 13] ?_)))
 refine aa ?_
 rw[A8 (by omega) (by omega)] at cb
 rw[show ((j:Int)-1)=((j-1:Nat):Int) by omega]
 refine⟨((j-1))+1,by omega,?_⟩
 exact⟨(i+1),(j-1),by omega,rfl,(by kernel_rfl),cb.pk [0]⟩
 refine wp_exit (am (am (bj ?_)))
 refine bpe (.tuple #[]) (by simp[results,Try.results95,go_sem]) ?_
 rw[Dt (by omega)] at bF;exact⟨rfl,bF⟩
theorem Di(a b:ByteArray)(p q r s:Int)(w:World)(ha:a.size<=1000000)(hb:b.size<=1000000):
  Calls Try.prog 97 #[.agg #[.string a,.int .i64 p,.int .i64 q],.agg #[.string b,.int .i64 r,.int .i64 s]] w (Ret (.int .i64 (iG a b)) w):=by
 go_enter Try.func97,Try.ntmps97
 have aq:=St.start w
 refine wp_seq (sqr ?_)
 refine bX #[.string a,vi p,vi q] aq fun bV W1 aC=>?_
 refine bX #[.string b,vi r,vi s] aC fun lX W2 aV=>?_
 refine sqp [.k 4 (vi 0)] ?_
 refine aa (wp_seq (sqr (sqp [.k 5 (vp bV)] ?_)))
 refine al 0 aV ?_
 refine sqp [.k 7 (vp lX)] ?_
 refine al 1 aV ?_
 refine sqk (vi (iG a b)) aV (fun cx=>⟨_,vL a b _ (by omega) (by omega),(aK (cx.ou 6) (cx.ou 8))⟩) fun W8 bt=>?_
 refine sqp [.m 4 9] ?_
 refine aa (wp_ret ?_)
 refine bpr (vi (iG a b)) (ak Try.results97 rpt) ?_
 exact Ret.of rfl bt.ext
theorem CO(A:Option Addr)(n c:Nat)(L:List EnD)(w:World)(hO:w.ownsRow 0 104 3 (.slice A n c) n (L.flatMap enC))(hn:L.length=n)(hnb:n<=100000)(hsz:∀e∈L,e.1.size<=1000000):
  Calls Try.prog 108 #[.slice A n c,.int .i64 0,.int .i64 ((n:Int)),.func (.func 97) #[] #[]] w (gX A n c (cW L.reverse).reverse w):=by
 have st0:=St.lentRw hO
 have hcap:=d4 hO
 go_enter Try.func108,Try.ntmps108
 have aq:=st0
 refine wp_seq (sqr (sqp [.m 10 1,.k 11 (vi 1),.m 8 11] ?_))
 refine aa (wp_block ?_)
 have h1_:L.flatMap enC=(srL L 1++L.drop 1).flatMap enC:=by rw[GO,List.take_append_drop]
 rw[h1_] at aq
 refine aX (fun t_ mz az W=>∃i:Nat,1<=i/\i<=max 1 n/\mz=n-i/\az=⟨(ovr (jv az) [(8,8,0,[vi ((i:Int))]),(0,9,1,[]),(2,12,41,[])] t_).toArray,[]⟩/\St w (Value.ownBlock (.slice A n c)).toList [eO 104 3 (.slice A n c) n ((srL L i++L.drop i).flatMap enC)] W) (n-1) ?_ ?_
 exact⟨1,Nat.le_refl _,by omega,rfl,(by kernel_rfl),aq.pk [0]⟩
 rintro n4 a4 W4 ⟨i,hi,hin,rfl,hj_,bQ⟩
 refine ovz hj_ fun N1=>?_
 refine wp_seq (wp_seq (sqr (sqp [.m 12 8,.m 13 2,.k 14 (.bool (decide ((i:Int)<(n:Int))))] ?_)))
 refine aa (wds (fun wC qm=>?_) fun wC qm=>?_)
 refine wp_skip (aa (wp_seq (wp_block (wp_seq ?_))))
 have hsl:=sQ (L:=L) (i:=i) (by omega)
 rw[Hp (by omega)] at bQ
 have hxz:=cH hsz i
 have hyz:=FN (i:=i) hsz
 have hdl:(L.drop (i+1)).length=n-(i+1):=by rw[List.length_drop,hn]
 obtain⟨x,wN⟩:∃z,L.getD i en0=z:=⟨_,rfl⟩
 rw[wN] at hxz bQ
 refine sqr (sqp [.m 17 8,.m 9 17] ?_)
 refine aa (wp_block ?_)
 refine aX (fun t_ mz az W=>∃j:Nat,j<=i/\(∀y∈(srL L i).drop j,ag x.1 y.1=true)/\mz=j+1/\az=⟨(ovr (jv az) [(9,9,0,[vi ((j:Int))]),(8,18,35,[])] t_).toArray,[]⟩/\St w (Value.ownBlock (.slice A n c)).toList [eO 104 3 (.slice A n c) n ((inL (srL L i) x j (L.drop (i+1))).flatMap enC)] W) (i+1) ?_ ?_
 exact⟨i,Nat.le_refl _,(by rw[List.drop_of_length_le (by omega)];exact fun _ hy=>nomatch hy),rfl,(by kernel_rfl),bQ.pk [0]⟩
 rintro Rq a11 pH ⟨j,hj,hj2,rfl,hj_,cA⟩
 refine ovz hj_ fun P4=>?_
 refine wp_seq (wp_seq ?_)
 have hil_:=sB (S:=srL L i) (x:=x) (j:=j) (R:=L.drop (i+1)) (by omega)
 refine bC [0,0,3,7,15,15,15,111,239,15,15,1039,3599,7695,16383,32767,65535] [[],[],[],[],[],[],[],[0],[0],[],[],[],[0],[0]] [.k 18 (vi ((j:Int))),.k 19 (vi 0),.k 20 (.bool (decide (0<(j:Int)))),.k 21 (.bool (decide (0<(j:Int)))),.z 22 (decide (0<(j:Int))) (.func (.func 97) #[] #[]),.z 23 (decide (0<(j:Int))) (.slice A n c),.z 24 (decide (0<(j:Int))) (vi ((j:Int))),.y 25 (decide (0<(j:Int))) (.pointer (some ((ad A).add (j*3)))),.y 26 (decide (0<(j:Int))) (.agg #[.string ((x).1),vi (((x).2.1:Int)),vi ((x).2.2)]),.z 27 (decide (0<(j:Int))) (.slice A n c),.z 28 (decide (0<(j:Int))) (vi ((j:Int))),.y 29 (decide (0<(j:Int))) (vi ((j:Int)-1)),.y 30 (decide (0<(j:Int))) (.pointer (some ((ad A).add ((j-1)*3)))),.y 31 (decide (0<(j:Int))) (.agg #[.string (((srL L i).getD (j-1) en0).1),vi ((((srL L i).getD (j-1) en0).2.1:Int)),vi (((srL L i).getD (j-1) en0).2.2)]),.y 32 (decide (0<(j:Int))) (vi (iG ((x).1) (((srL L i).getD (j-1) en0).1))),.z 33 (decide (0<(j:Int))) (.bool (decide (iG ((x).1) (((srL L i).getD (j-1) en0).1)<0))),tA 34 (decide (0<(j:Int))) (decide (iG ((x).1) (((srL L i).getD (j-1) en0).1)<0))] [0] [7,8,11,12,13,14] [(18,0,17,35)] cA ?_ fun nD cb=>?_
 refine⟨?_,?_,?_,?_,?_,?_,trivial⟩
 exact m2 rfl (fun _ _ _ h=>h) (fun cx=>(cx.an 3)) fun cx hq=>aD (e:=104) (m:=j) (sz:=3) rfl (by kernel_rfl) (by kernel_rfl) (mbv (cx.an 5) hq) (mbv (cx.an 6) hq) (by have hq_:=hq;simp only[zB] at hq_;omega) (by have hq_:=hq;simp only[zB] at hq_;omega) (At.of_ownN (cx.ri 0 rfl)) (be (sz:=3) aH (by decide) (by first|omega|(simp only[List.length_set];omega)))
 exact m2 rfl (fun _ _ _ h=>h) (fun cx=>(cx.an 3)) fun cx hq=>aY (f:=enC) (m:=j) (sz:=3) (off:=0) (n:=3) rfl (by kernel_rfl) (by kernel_rfl) (mbv (cx.an 7) hq) rfl aH (At.of_ownN (cx.ri 0 rfl)) (vN (by have hq_:=hq;simp only[zB] at hq_;omega)) (fun k hk=>match k,hk with|0,_=>rfl|1,_=>rfl|2,_=>rfl|k+3,hk=>absurd hk (by have hq_:=hq;simp only[zB] at hq_;omega))
 exact m2 rfl (fun _ _ _ h=>h) (fun cx=>(cx.an 3)) fun cx hq=>km rfl (mbv (cx.an 10) hq) (cx.co _) (congrArg (fun z=>some (Value.int .i64 z)) ((IntWalk.i64_in _ (by have hq_:=hq;simp only[zB] at hq_;omega)).trans (by have hq_:=hq;simp only[zB] at hq_;omega)))
 exact m2 rfl (fun _ _ _ h=>h) (fun cx=>(cx.an 3)) fun cx hq=>aD (e:=104) (m:=j-1) (sz:=3) rfl (by kernel_rfl) (by kernel_rfl) (mbv (cx.an 9) hq) (mbv (cx.an 11) hq) (by have hq_:=hq;simp only[zB] at hq_;omega) (by have hq_:=hq;simp only[zB] at hq_;omega) (At.of_ownN (cx.ri 0 rfl)) (be (sz:=3) aH (by decide) (by first|omega|(simp only[List.length_set];omega)))
 exact m2 rfl (fun _ _ _ h=>h) (fun cx=>(cx.an 3)) fun cx hq=>aY (f:=enC) (m:=(j-1)) (sz:=3) (off:=0) (n:=3) rfl (by kernel_rfl) (by kernel_rfl) (mbv (cx.an 12) hq) rfl aH (At.of_ownN (cx.ri 0 rfl)) (xW (by have hq_:=hq;simp only[zB] at hq_;omega) (by have hq_:=hq;simp only[zB] at hq_;omega)) (fun k hk=>match k,hk with|0,_=>rfl|1,_=>rfl|2,_=>rfl|k+3,hk=>absurd hk (by have hq_:=hq;simp only[zB] at hq_;omega))
 exact m3 rfl (fun _ _ _ h=>h) (fun cx=>(cx.an 3)) fun cx hq=>⟨_,_,fy (f:=97) (args:=#[.agg #[.string ((x).1),vi (((x).2.1:Int)),vi ((x).2.2)],.agg #[.string (((srL L i).getD (j-1) en0).1),vi ((((srL L i).getD (j-1) en0).2.1:Int)),vi (((srL L i).getD (j-1) en0).2.2)]]) (args':=#[.agg #[.string ((x).1),vi (((x).2.1:Int)),vi ((x).2.2)],.agg #[.string (((srL L i).getD (j-1) en0).1),vi ((((srL L i).getD (j-1) en0).2.1:Int)),vi (((srL L i).getD (j-1) en0).2.2)]]) rfl rfl (mbv (cx.an 4) hq) (by kernel_rfl) (aK (mbv (cx.an 8) hq) (mbv (cx.an 13) hq)) rfl,Di ((x).1) (((srL L i).getD (j-1) en0).1) _ _ _ _ _ hxz (hyz _)⟩
 refine aa (wbs (fun dl=>?_) fun dl=>?_)
 have fH:=dl
 simp only[zB] at fH
 obtain⟨IW,IX⟩:=fH
 refine wp_skip (aa (wp_seq (wp_block ?_)))
 have hil_:=sB (S:=srL L i) (x:=x) (j:=j) (R:=L.drop (i+1)) (by omega)
 refine aj [0,0,0,0,8,0,0,64,224,480,0,0,3072,7168,16355,32739,65535,131071] [[],[],[],[],[],[],[],[],[0],[0],[],[],[0],[0],[0],[0],[1],[1]] [[],[],[],[],[],[],[],[],[],[],[],[],[],[],[],[1],[],[2]] [[],[],[],[],[],[],[],[],[],[],[],[],[],[],[],[0],[],[1]] [.k 37 (.slice A n c),.k 38 (vi ((j:Int))),.k 39 (.slice A n c),.k 40 (vi ((j:Int))),tI 41 ((j:Int)-1) (by omega),.k 42 (.slice A n c),.k 43 (vi ((j:Int))),tI 44 ((j:Int)-1) (by omega),.c 45 (.pointer (some ((ad A).add ((j-1)*3)))),.c 46 (.agg #[.string (((srL L i).getD (j-1) en0).1),vi ((((srL L i).getD (j-1) en0).2.1:Int)),vi (((srL L i).getD (j-1) en0).2.2)]),.k 47 (.slice A n c),.k 48 (vi ((j:Int))),.c 49 (.pointer (some ((ad A).add (j*3)))),.c 50 (.agg #[.string ((x).1),vi (((x).2.1:Int)),vi ((x).2.2)]),.c 51 (.pointer (some ((ad A).add (j*3)))),.n,.c 52 (.pointer (some ((ad A).add ((j-1)*3)))),.n] (fun ix b a X=>match ix with|0|1|2|3|4|5|6|7|8|9|10|11|12|13|14=>True|15=>X 1=eO 104 3 (.slice A n c) n (((inL (srL L i) x j (L.drop (i+1))).set j ((srL L i).getD (j-1) en0)).flatMap enC)|16=>True|17=>X 2=eO 104 3 (.slice A n c) n ((((inL (srL L i) x j (L.drop (i+1))).set j ((srL L i).getD (j-1) en0)).set (j-1) (x)).flatMap enC)|_=>True) [2] [8,9,12,13,14,15,16,17] [(37,0,17,53)] cb ?_ ?_ ?_
 exact fun ix _ _ _ _ _ _ hs hb hx h=>match ix,h with
 |15,h=>by dsimp only;rw[<-hx 1 rfl];exact h
 |17,h=>by dsimp only;rw[<-hx 2 rfl];exact h
 |0,_|1,_|2,_|3,_|4,_|5,_|6,_|7,_|8,_|9,_|10,_|11,_|12,_|13,_|14,_|16,_|_+18,_=>trivial
 refine⟨?_,?_,?_,?_,?_,?_,?_,?_,trivial⟩
 exact xs4 rfl id fun cx=>aD (e:=104) (m:=j-1) (sz:=3) rfl (by kernel_rfl) (by kernel_rfl) (cx.an 5) (cx.an 7) (by omega) (by omega) (At.of_ownN (cx.ri 0 rfl)) (be (sz:=3) aH (by decide) (by first|omega|(simp only[List.length_set];omega)))
 exact xs4 rfl id fun cx=>aY (f:=enC) (m:=(j-1)) (sz:=3) (off:=0) (n:=3) rfl (by kernel_rfl) (by kernel_rfl) (cx.an 8) rfl aH (At.of_ownN (cx.ri 0 rfl)) (xW (by omega) (by omega)) (fun k hk=>match k,hk with|0,_=>rfl|1,_=>rfl|2,_=>rfl|k+3,hk=>absurd hk (by omega))
 exact xs4 rfl id fun cx=>aD (e:=104) (m:=j) (sz:=3) rfl (by kernel_rfl) (by kernel_rfl) (cx.an 10) (cx.an 11) (by omega) (by omega) (At.of_ownN (cx.ri 0 rfl)) (be (sz:=3) aH (by decide) (by first|omega|(simp only[List.length_set];omega)))
 exact xs4 rfl id fun cx=>aY (f:=enC) (m:=j) (sz:=3) (off:=0) (n:=3) rfl (by kernel_rfl) (by kernel_rfl) (cx.an 12) rfl aH (At.of_ownN (cx.ri 0 rfl)) (vN (by omega)) (fun k hk=>match k,hk with|0,_=>rfl|1,_=>rfl|2,_=>rfl|k+3,hk=>absurd hk (by omega))
 exact xs4 rfl id fun cx=>aD (e:=104) (m:=j) (sz:=3) rfl (by kernel_rfl) (by kernel_rfl) (cx.an 0) (cx.an 1) (by omega) (by omega) (At.of_ownN (cx.ri 0 rfl)) (be (sz:=3) aH (by decide) (by first|omega|(simp only[List.length_set];omega)))
 refine svA fun ρ a W X cx=>?_
 exact fS (m:=j*3) (n:=n) (sz:=3) (k:=3) rfl (cx.an 14) (cx.an 9) (by kernel_rfl) (by kernel_rfl) (by kernel_rfl) cx (cx.init 0 _ rfl) rfl (by omega) (by decide) rfl (iy aH (ts:=(inL (srL L i) x j (L.drop (i+1)))) (m:=j) (by first|omega|(simp only[List.length_set];omega)) ((srL L i).getD (j-1) en0)) rfl rfl (fun _ _ _ _ _=>id)
 exact xs4 rfl id fun cx=>aD (e:=104) (m:=j-1) (sz:=3) rfl (by kernel_rfl) (by kernel_rfl) (cx.an 2) (cx.an 4) (by omega) (by omega) (At.of_ownN (cx.row (dTn (cx.an 15)) rfl)) (be (sz:=3) aH (by decide) (by first|omega|(simp only[List.length_set];omega)))
 refine svA fun ρ a W X cx=>?_
 exact fS (m:=(j-1)*3) (n:=n) (sz:=3) (k:=3) rfl (cx.an 16) (cx.an 13) (by kernel_rfl) (by kernel_rfl) (by kernel_rfl) cx (dTn (cx.an 15)) rfl (by omega) (by decide) rfl (iy aH (ts:=((inL (srL L i) x j (L.drop (i+1))).set j ((srL L i).getD (j-1) en0))) (m:=(j-1)) (by first|omega|(simp only[List.length_set];omega)) (x)) rfl rfl (fun _ _ _ _ _=>id)
 intro b a X iY hD bn fr af
 simp only[exq 2 ((dTn (hD 17 lq)))] at bn
 clear hD;subst af;clear b a X
 refine aw (aa (sqr (sqp [.m 35 9,sI 36 ((j:Int)-1) (by omega),.m 9 36] ?_)))
 refine aa ?_
 have hlt_:ag x.1 ((srL L i).getD (j-1) en0).1=true:=by have h_:=dl;rw[Bool.and_eq_true] at h_;rw[<-nV];exact h_.2
 rw[Dr (by omega) (by omega)] at bn
 rw[show ((j:Int)-1)=((j-1:Nat):Int) by omega]
 refine⟨((j-1))+1,by omega,?_⟩
 exact⟨(j-1),by omega,(uh (m:=j-1) (by omega) (by rw[Nat.sub_add_cancel (by omega)];exact hj2) hlt_),rfl,(by kernel_rfl),bn.pk [0]⟩
 have fH:=dl
 simp only[zB] at fH
 refine wp_exit (am (am (bj (aw (aa ?_)))))
 have hcut:j=0\/ag x.1 ((srL L i).getD (j-1) en0).1=false:=by
  rcases Nat.eq_zero_or_pos j with h0|h0
  exact .inl h0
  refine .inr ?_
  have h_:=dl
  rw[Bool.and_eq_false_iff] at h_
  rcases h_ with h_|h_
  exact absurd (of_decide_eq_false h_) (by omega)
  rw[<-nV];exact h_
 rw[<-wN] at hj2 hcut cb
 rw[DO (by omega) hj hj2 hcut] at cb
 refine sqr (sqp [.m 15 8,sI 16 ((i:Int)+1) (by omega),.m 8 16] ?_)
 refine aa ?_
 refine⟨n-((i+1)),by omega,?_⟩
 exact⟨(i+1),by omega,by omega,rfl,(by kernel_rfl),cb.pk [0]⟩
 refine wp_exit (am (am (bj ?_)))
 refine bpe (.tuple #[]) (by simp[results,Try.results108,go_sem]) ?_
 rw[Gb (by omega),List.drop_of_length_le (by omega),List.append_nil] at bQ;exact⟨rfl,bQ⟩
theorem AX(A:Option Addr)(n c:Nat)(L:List EnD)(w:World)(hO:w.ownsRow 0 104 3 (.slice A n c) n (L.flatMap enC))(hn:L.length=n)(hnb:n<=100000)(hsz:∀e∈L,e.1.size<=1000000)(hn19:n<=19):
  Calls Try.prog 105 #[.slice A n c,.int .i64 ((n:Int)),.func (.func 97) #[] #[]] w (gX A n c (cW L.reverse).reverse w):=by
 have st0:=St.lentRw hO
 have hcap:=d4 hO
 go_enter Try.func105,Try.ntmps105
 have aq:=st0
 refine wp_seq (sqr (sqp [.k 6 (vi 20)] ?_))
 refine aa (wp_seq (sqr (sqp [.m 10 6,.k 7 (vi 0),.m 8 10] ?_)))
 refine aa (wp_seq (wp_block ?_))
 refine aX (fun t_ mz az W=>True/\mz=0/\az=⟨(ovr (jv az) [(11,11,12,[])] t_).toArray,[]⟩/\St w (Value.ownBlock (.slice A n c)).toList [eO 104 3 (.slice A n c) n (L.flatMap enC)] W) (0) ?_ ?_
 exact⟨trivial,rfl,(by kernel_rfl),aq.pk [0]⟩
 rintro n5 a5 W5 ⟨-,rfl,hj_,bO⟩
 refine ovz hj_ fun EL=>?_
 refine wp_seq (wp_seq (sqr ?_))
 have hd9:(decide (20<=(n:Int)))=false:=(decide_eq_false (by omega))
 refine sqp [.m 11 8,.m 12 1,.e 13 (.bool (decide (20<=(n:Int)))) (.bool false) (congrArg Value.bool hd9)] ?_
 refine aa (wcf rfl (wp_exit (am (am (bj (aa (wp_seq (sqr (sqp [.m 23 0,.m 24 7,.m 25 1,.m 26 2] ?_)))))))))
 refine lU (.tuple #[]) (eO 104 3 (.slice A n c) n (((cW L.reverse).reverse).flatMap enC)) 0 bO (by
   refine svA fun ρ b W X cx=>?_
   refine ax.call (av (args:=#[.slice A n c,vi 0,vi ((n:Int)),.func (.func 97) #[] #[]]) rfl cx.sees rfl (by kernel_rfl) (yW (cx.ou 23) (cx.ou 24) (cx.ou 25) (cx.ou 26))) ?_
   refine(CO A n c L _ (cx.ri 0 rfl) hn hnb hsz).mono ?_
   rintro e W1 ⟨rfl,aR⟩
   refine⟨_,rfl,bw (E:=eO 104 3 (.slice A n c) n (L.flatMap enC)) [eO 104 3 (.slice A n c) n (((cW L.reverse).reverse).flatMap enC)] (cx.init 0 _ rfl) rfl rfl aR (fun a d X' hs hb hv hN=>?_)⟩
   have aZ:=(hv 27 rfl).1;have aJ:=(hv 27 rfl).2
   exact⟨aZ.trans rfl,(List.cons.inj hN).1⟩) fun iY bn=>?_
 refine aa (wp_block ?_)
 refine aX (fun t_ mz az W=>True/\mz=0/\az=⟨(ovr (jv az) [(7,7,3,[]),(18,28,35,[])] t_).toArray,[]⟩/\St w (Value.ownBlock (.slice A n c)).toList [eO 104 3 (.slice A n c) n (((cW L.reverse).reverse).flatMap enC)] W) (0) ?_ ?_
 exact⟨trivial,rfl,(by kernel_rfl),bn.pk [0]⟩
 rintro Rr a15 ow ⟨-,rfl,hj_,cj⟩
 refine ovz hj_ fun P5=>?_
 refine wp_seq (wp_seq (sqr ?_))
 have hd19:(decide (20<(n:Int)))=false:=(decide_eq_false (by omega))
 refine sqp [.m 28 6,.m 29 1,.e 30 (.bool (decide (20<(n:Int)))) (.bool false) (congrArg Value.bool hd19)] ?_
 refine aa (wcf rfl (wp_exit (am (am (bj ?_)))))
 refine bpe (.tuple #[]) (by simp[results,Try.results105,go_sem]) ?_
 exact⟨rfl,cj⟩
theorem Av(A:Option Addr)(n c:Nat)(L:List EnD)(w:World)(hO:w.ownsRow 0 104 3 (.slice A n c) n (L.flatMap enC))(hn:L.length=n)(hnb:n<=100000)(hsz:∀e∈L,e.1.size<=1000000)(hn19:n<=19):
  Calls Try.prog 96 #[.slice A n c,.func (.func 97) #[] #[]] w (gX A n c (cW L.reverse).reverse w):=by
 have st0:=St.lentRw hO
 have hcap:=d4 hO
 go_enter Try.func96,Try.ntmps96
 have aq:=st0
 refine sqr (sqp [.m 4 0,.m 5 0,.k 6 (vi ((n:Int))),.m 7 1] ?_)
 refine lU (.tuple #[]) (eO 104 3 (.slice A n c) n (((cW L.reverse).reverse).flatMap enC)) 0 aq (by
   refine svA fun ρ b W X cx=>?_
   refine ax.call (av (args:=#[.slice A n c,vi ((n:Int)),.func (.func 97) #[] #[]]) rfl cx.sees rfl (by kernel_rfl) (eC (cx.ou 4) (cx.ou 6) (cx.ou 7))) ?_
   refine(AX A n c L _ (cx.ri 0 rfl) hn hnb hsz hn19).mono ?_
   rintro e W1 ⟨rfl,aR⟩
   refine⟨_,rfl,bw (E:=eO 104 3 (.slice A n c) n (L.flatMap enC)) [eO 104 3 (.slice A n c) n (((cW L.reverse).reverse).flatMap enC)] (cx.init 0 _ rfl) rfl rfl aR (fun a d X' hs hb hv hN=>?_)⟩
   have aZ:=(hv 8 rfl).1;have aJ:=(hv 8 rfl).2
   exact⟨aZ.trans rfl,(List.cons.inj hN).1⟩) fun W5 bO=>?_
 refine bpe (.tuple #[]) (by simp[results,Try.results96,go_sem]) ?_
 exact⟨rfl,bO⟩
end
end Go.Proofs.Ytjlcoglmjldjbaa
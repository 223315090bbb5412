/- TreeBusyRow: part 2 of the proof. -/
import Derived.Test.YtjlcoglmjldjbaaZ1
import Derived.Deep.QuietTactic
import Derived.BigQuiet
set_option linter.unusedVariables false
set_option linter.unusedSimpArgs false
set_option maxRecDepth 100000
set_option maxHeartbeats 16000000
namespace Go.Proofs.Ytjlcoglmjldjbaa
section
open Go.RowKit
def sizeF (n:Int):Int:=max 0 (min n 8)
theorem osize_any (n:Int) (w:World):Calls Try.prog 90 #[.int .i64 n] w fun e w'=>e= .returned (.int .i64 (sizeF n))∧w=w':=by
 go_enter Try.func90,Try.ntmps90
 go_wp2
 all_goals
  go_ret
  exact ⟨ret_int (by unfold sizeF; omega),rfl⟩
/-- the eight bytes of a word, big endian -/
def oct8 (n:Int):List Int:=[IntKind.u64.wrap n / 72057594037927936 % 256,IntKind.u64.wrap n / 281474976710656 % 256,IntKind.u64.wrap n / 1099511627776 % 256,IntKind.u64.wrap n / 4294967296 % 256,
 IntKind.u64.wrap n / 16777216 % 256,IntKind.u64.wrap n / 65536 % 256,IntKind.u64.wrap n / 256 % 256,IntKind.u64.wrap n % 256]
def putS (n:Int) (k:Nat):ByteArray:=strOfNums ((oct8 n).drop (8 - k))
theorem run_cv_oct (n:Int) (k:Nat) (hk:k≤8) (m:Nat) (hm:m+k=8) (W:World) (B:Nat) (hB:B=W.heap.size) (w:World) (t:TypeId) (hw:w=W.alloc (.cells ((oct8 n).map (Value.int .u8)).toArray t)):
  (convert 97 9 (.slice (some ⟨B,m,none⟩) k k)).run Try.prog w= .ok (.string (putS n k)) w:=by
 subst hB
 refine run_convert_bytes_arg _ 97 5 Try.underlying97 Try.underlying5 W.heap.size m k k ((oct8 n).drop (8 - k)) (by rw [List.length_drop]; show 8 - (8 - k)=k; omega) (fun i hi=>?_) 9 Try.underlying9
 rw [hw,World.cell?_alloc_at _ _ _ _ rfl]
 have hl:(oct8 n).length=8:=rfl
 have hlt:m+i < (oct8 n).length:=by omega
 rw [List.getElem?_toArray,List.getElem?_map,List.getElem?_eq_getElem hlt]
 have e:8 - k=m:=by omega
 rw [e,List.getD_eq_getElem?_getD,List.getElem?_drop,List.getElem?_eq_getElem hlt]
 rfl
theorem oput1_any (n:Int) (w:World):Calls Try.prog 88 #[.int .i64 n, .int .i64 1] w (Ret1 (.string (putS n 1)) w):=by
 have hcv:=run_cv_oct n 1 (by omega) 7 rfl w w.heap.size rfl _ 175 rfl
 simp only [oct8,List.map_cons,List.map_nil] at hcv
 have hs:sizeF 1=1:=by decide
 go_enter Try.func88,Try.ntmps88
 go_wp2_with fail
 refine wp_loop_rounds 9 ?_
 rw [rounds_succ]; go_wp2_with fail
 rw [rounds_succ]; go_wp2_with fail
 rw [rounds_succ]; go_wp2_with fail
 rw [rounds_succ]; go_wp2_with fail
 rw [rounds_succ]; go_wp2_with fail
 rw [rounds_succ]; go_wp2_with fail
 rw [rounds_succ]; go_wp2_with fail
 rw [rounds_succ]; go_wp2_with fail
 rw [rounds_succ]; go_wp2_with fail
 refine (osize_any _ _).mono ?_
 rw [hs]
 rintro e w1 ⟨rfl,rfl⟩
 clear hs
 go_wp2
 go_ret
 exact ⟨rfl,(Ext.refl w).alloc _⟩
theorem oput2_any (n:Int) (w:World):Calls Try.prog 88 #[.int .i64 n, .int .i64 2] w (Ret1 (.string (putS n 2)) w):=by
 have hcv:=run_cv_oct n 2 (by omega) 6 rfl w w.heap.size rfl _ 175 rfl
 simp only [oct8,List.map_cons,List.map_nil] at hcv
 have hs:sizeF 2=2:=by decide
 go_enter Try.func88,Try.ntmps88
 go_wp2_with fail
 refine wp_loop_rounds 9 ?_
 rw [rounds_succ]; go_wp2_with fail
 rw [rounds_succ]; go_wp2_with fail
 rw [rounds_succ]; go_wp2_with fail
 rw [rounds_succ]; go_wp2_with fail
 rw [rounds_succ]; go_wp2_with fail
 rw [rounds_succ]; go_wp2_with fail
 rw [rounds_succ]; go_wp2_with fail
 rw [rounds_succ]; go_wp2_with fail
 rw [rounds_succ]; go_wp2_with fail
 refine (osize_any _ _).mono ?_
 rw [hs]
 rintro e w1 ⟨rfl,rfl⟩
 clear hs
 go_wp2
 go_ret
 exact ⟨rfl,(Ext.refl w).alloc _⟩
end
section
open Go.RowKit
/-- a reader: the string, the position, whether a call has failed -/
def Rd (t:TypeId) (w:World) (B:Nat) (s:ByteArray) (p:Nat) (f:Bool):Prop:=Blk w B t #[.string s, .int .i64 p, .bool f]∧p≤s.size∧s.size≤1000000
def RdPost (t:TypeId) (v:Value) (B:Nat) (s:ByteArray) (p:Nat) (f:Bool) (w:World) (e:Ending) (w':World):Prop:=e= .returned v∧Rd t w' B s p f∧Upd [B] w w'
theorem left_any (B:Nat) (s:ByteArray) (p:Nat) (f:Bool) (w:World) (h:Rd 164 w B s p f):
  Calls Try.prog 102 #[.pointer (some ⟨B,0,none⟩)] w (Ret1 (.int .i64 (s.size - p:Nat)) w):=by
 obtain ⟨hb,hp,hs⟩:=h
 have c0:w.cell? ⟨B,0,none⟩=some (.string s):=hb.cell 0
 have c1:w.cell? ⟨B,1,none⟩=some (.int .i64 p):=hb.cell 1
 have e1:=Lib.hid (show (s.size:Int) - (p:Int)=((s.size - p:Nat):Int) by omega)
 clear hb
 go_enter Try.func102,Try.ntmps102
 go_wp2
 go_quiet (fail)
 go_wp2
 go_ret
 exact Ret1.int e1.out ((Ext.refl w).drewN _)
theorem take_ok (B:Nat) (s:ByteArray) (p n:Nat) (w:World) (h:Rd 164 w B s p false) (hn:p+n≤s.size):
  Calls Try.prog 89 #[.pointer (some ⟨B,0,none⟩), .int .i64 n] w (RdPost 164 (.string (s.extract p (p+n))) B s (p+n) false w):=by
 obtain ⟨hb,hp,hs⟩:=h
 have HB:=Lib.hid hb
 have c0:w.cell? ⟨B,0,none⟩=some (.string s):=hb.cell 0
 have c1:w.cell? ⟨B,1,none⟩=some (.int .i64 p):=hb.cell 1
 have c2:w.cell? ⟨B,2,none⟩=some (.bool false):=hb.cell 2
 clear hb
 go_enter Try.func89,Try.ntmps89
 go_wp2_with fail
 refine (left_any _ _ _ _ _ ⟨HB.out,hp,hs⟩).mono ?_
 rintro e w1 ⟨rfl,hx⟩
 have HB1:=Lib.hid (HB.out.ext hx)
 have X1:=Lib.hid hx
 clear hx c0 c1 c2
 have c0:w1.cell? ⟨B,0,none⟩=some (.string s):=HB1.out.cell 0
 have c1:w1.cell? ⟨B,1,none⟩=some (.int .i64 p):=HB1.out.cell 1
 have f1:=HB1.out.frozen 1
 have hlt:=HB1.out.lt
 have hn1:(n:Int)≤((s.size - p:Nat):Int):=by omega
 have e1:(0:Int)≤(p:Int)+(n:Int):=by omega
 have e2:(p:Int)+(n:Int)≤(s.size:Int):=by omega
 have e3:(p:Int)≤(p:Int)+(n:Int):=by omega
 go_wp2_with fail
 go_quiet (fail)
 go_wp2
 go_ret
 refine ⟨rfl,⟨?_,hn,hs⟩,((Upd.of_ext X1.out).set (.inl (by simp)) _).drewN _⟩
 rw [show ((p+n:Nat):Int)=(p:Int)+(n:Int) by omega]
 exact (HB1.out.set_ 1 _).drewN _
def numL (l:List UInt8):Nat:=l.foldl (fun n c=>n*256+c.toNat) 0
theorem numL_snoc (l:List UInt8) (c:UInt8):numL (l++[c])=numL l*256+c.toNat:=by rw [numL,List.foldl_append]; rfl
theorem numL_lt (l:List UInt8):numL l < 256 ^ l.length:=by
 have h:∀ (l:List UInt8) (n:Nat),l.foldl (fun n c=>n*256+c.toNat) n < (n+1)*256 ^ l.length:=by
  intro l
  induction l with
  | nil=>intro n; simp
  | cons c l ih=>
    intro n
    have h1:=ih (n*256+c.toNat)
    have h2:c.toNat < 256:=UInt8.toNat_lt _
    have h3:(n*256+c.toNat+1)*256 ^ l.length≤((n+1)*256)*256 ^ l.length:=Nat.mul_le_mul_right _ (by omega)
    rw [List.foldl_cons,List.length_cons,Nat.pow_succ,Nat.mul_comm (256 ^ l.length) 256,← Nat.mul_assoc]
    omega
 have:=h l 0
 simpa [numL] using this
def byteVals (s:ByteArray):List Value:=s.data.toList.map fun b=>Value.int .u8 b.toNat
/-- []byte(s) -/
theorem conv_sb (s:ByteArray) (w:World):∃ cap w',(convert 9 97 (.string s)).run Try.prog w= .ok (.slice (some ⟨w.heap.size,0,none⟩) s.size cap) w'∧Ext w w'∧At w' (some ⟨w.heap.size,0,none⟩) (byteVals s)∧s.size≤cap:=by
 have hcut:s.size≤grownCap w s.size 0 5:=grownCap_ge w s.size 0 5
 refine ⟨_, _,run_bytes_of_string w 9 97 5 s Try.underlying9 Try.underlying97 Try.underlying5,(Ext.refl w).drew.alloc _,?_,hcut⟩
 intro j u hj
 have hjl:j < s.data.toList.length:=by
  rcases Nat.lt_or_ge j s.data.toList.length with h | h
  ·exact h
  ·rw [byteVals,List.getElem?_eq_none (by simpa using h)] at hj; cases hj
 refine ⟨_,rfl,by simp,?_⟩
 have hh:=heap_alloc_new w.drew (.cells (bytesRow s (grownCap w s.size 0 5)) 5 ((bytesRow s (grownCap w s.size 0 5)).size,(bytesRow s (grownCap w s.size 0 5)).size+1))
 have hh':(w.drew.alloc (.cells (bytesRow s (grownCap w s.size 0 5)) 5 ((bytesRow s (grownCap w s.size 0 5)).size,(bytesRow s (grownCap w s.size 0 5)).size+1))).heap[w.heap.size]? = _:=hh
 rw [Addr.add_lit,Nat.zero_add]
 unfold World.cell?
 rw [hh']
 show (bytesRow s (grownCap w s.size 0 5))[j]? =some u
 rw [bytesRow,Array.getElem?_append_left (by simpa using hjl),← hj,byteVals]
 simp
theorem or_i64 (a b:Nat) (ha:a < 4611686018427387904) (hb:b < 4611686018427387904):bits .or .i64 (a:Int) (b:Int)=((a||| b:Nat):Int):=by
 have e:bits .or .i64 (a:Int) (b:Int)=IntKind.i64.wrap ((BitVec.ofInt 64 (a:Int)||| BitVec.ofInt 64 (b:Int)).toNat:Int):=rfl
 have h1:∀ n:Nat,n < 4611686018427387904→(BitVec.ofInt 64 (n:Int)).toNat=n:=fun n hn=>by
  rw [BitVec.ofInt_natCast,BitVec.toNat_ofNat,Nat.mod_eq_of_lt (by omega)]
 have h2:a||| b < 2 ^ 62:=Nat.or_lt_two_pow (by omega) (by omega)
 rw [e,BitVec.toNat_or,h1 a ha,h1 b hb,IntKind.wrap_i64]
 omega
theorem or_256 (a c:Nat) (hc:c < 256):a*256||| c=a*256+c:=by
 have:=Nat.two_pow_add_eq_or_of_lt (i:=8) (b:=c) (by omega) a
 rw [Nat.mul_comm a 256]
 exact this.symm
def numS (s:ByteArray) (p k:Nat):Nat:=numL (s.extract p (p+k)).data.toList
theorem num_ok (B:Nat) (s:ByteArray) (p k:Nat) (w:World) (h:Rd 164 w B s p false) (hk:k≤4) (hn:p+k≤s.size):
  Calls Try.prog 65 #[.pointer (some ⟨B,0,none⟩), .int .i64 k] w (RdPost 164 (.int .i64 (numS s p k)) B s (p+k) false w):=by
 have H:=Lib.hid h; clear h
 have hsk:=Lib.hid (show sizeF k=k by unfold sizeF; omega)
 go_enter Try.func65,Try.ntmps65
 go_wp2_with fail
 refine (osize_any _ _).mono ?_
 rw [hsk.out]
 rintro e w1 ⟨rfl,rfl⟩
 go_wp2_with fail
 refine (take_ok _ _ _ _ _ H.out hn).mono ?_
 rintro e w1 ⟨rfl,hr,hu⟩
 obtain ⟨t,ht⟩:∃ t,t=s.extract p (p+k):=⟨_,rfl⟩
 rw [← ht]
 have htk:t.size=k:=by rw [ht,ByteArray.size_extract]; omega
 have HT:=Lib.hid (show numS s p k=numL t.data.toList by rw [numS,← ht])
 have HK:=Lib.hid htk
 have HR:=Lib.hid hr
 have HU:=Lib.hid hu
 have hts:(t.size:Int)≤4:=by omega
 clear hr hu ht htk
 obtain ⟨cap,w2,hcv,hx,hAt,hcap⟩:=conv_sb t w1
 have X2:=Lib.hid hx
 have HA:=Lib.hid hAt
 clear hx hAt
 go_wp2
 go_loop [5,14] (fun x v=>∃ j:Nat,v= .int .i64 j∧j≤t.size∧x= .int .i64 (numL (t.data.toList.take j))) (fun _ v=>t.size - (intOf v).toNat)
 case atStart=>exact ⟨0,rfl,Nat.zero_le _,rfl⟩
 case round=>
  obtain ⟨j,rfl,hj,rfl⟩:=hrel
  rcases Nat.lt_or_ge j t.size with hlt | hge
  ·have hb:=numL_lt (t.data.toList.take j)
   have hlen:(t.data.toList.take j).length=j:=by simp; omega
   have h256:256 ^ (t.data.toList.take j).length≤16777216:=by
    rw [hlen]
    exact Nat.le_trans (Nat.pow_le_pow_right (by omega) (show j≤3 by omega)) (by decide)
   have hsn:t.data.toList.take (j+1)=t.data.toList.take j++[t[j]]:=by rw [List.take_succ_eq_append_getElem (by simpa using hlt)]; rfl
   have HN:=Lib.hid (show numL (t.data.toList.take (j+1))=numL (t.data.toList.take j)*256+t[j].toNat by rw [hsn,numL_snoc])
   have hcell:w2.cell? ⟨w1.heap.size,j,none⟩=some (.int .u8 t[j].toNat):=by
    obtain ⟨ad,e, _,hc⟩:=HA.out j _ (by rw [byteVals,List.getElem?_map,List.getElem?_eq_getElem (by simpa using hlt)]; rfl)
    injection e with e
    subst e
    rwa [Addr.add_lit,Nat.zero_add] at hc
   obtain ⟨a,ha⟩:∃ a,a=numL (t.data.toList.take j):=⟨_,rfl⟩
   obtain ⟨c,hc⟩:∃ c,c=t[j].toNat:=⟨_,rfl⟩
   have hc8:c < 256:=by rw [hc]; exact UInt8.toNat_lt _
   rw [← ha] at hb HN ⊢
   rw [← hc] at HN hcell
   have ha1:(a:Int)≤16777216:=by omega
   have i1:(0:Int)≤(j:Int):=by omega
   have i2:(j:Int) < (t.size:Int):=by omega
   have HO:=Lib.hid (show bits .or .i64 ((a:Int)*256) (c:Int)=((a*256+c:Nat):Int) by
    rw [show ((a:Int)*256)=((a*256:Nat):Int) by omega,or_i64 _ _ (by omega) (by omega),or_256 a c hc8])
   clear hsn hlen h256 hb ha hc
   go_wp2
   go_round
   case rel=>exact ⟨j+1,by go_num,by omega,by rw [HN.out,HO.out]⟩
   case measure=>simp [intOf]; omega
  ·obtain rfl:j=t.size:=by omega
   have e:t.data.toList.take t.size=t.data.toList:=List.take_of_length_le (by simp)
   rw [e]
   clear e
   go_wp2
   go_ret
   refine ⟨?_,⟨HR.out.1.ext X2.out,HR.out.2.1,HR.out.2.2⟩,HU.out.ext X2.out⟩
   rw [HT.out]
   rfl
end
section
open Go.RowKit
def bl (s:ByteArray):List UInt8:=s.data.toList
def baOf (l:List UInt8):ByteArray:=⟨l.toArray⟩
theorem bl_len (s:ByteArray):(bl s).length=s.size:=by simp [bl]
theorem baOf_bl (s:ByteArray):baOf (bl s)=s:=by simp [bl,baOf]
theorem bl_baOf (l:List UInt8):bl (baOf l)=l:=by simp [bl,baOf]
theorem bl_append (a b:ByteArray):bl (a++b)=bl a++bl b:=by simp [bl,ByteArray.data_append]
theorem bl_inj {a b:ByteArray} (h:bl a=bl b):a=b:=by rw [← baOf_bl a,← baOf_bl b,h]
theorem bl_extract (s:ByteArray) (p q:Nat):bl (s.extract p q)=((bl s).drop p).take (q - p):=by
 simp [bl,ByteArray.data_extract]
theorem drop_take_mid {α:Type} (a b c:List α) (p k:Nat) (hp:a.length=p) (hk:b.length=k):((a++(b++c)).drop p).take k=b:=by
 subst hp hk
 simp
theorem extr_at {s:ByteArray} {a b c:List UInt8} (hs:bl s=a++(b++c)) {p q:Nat} (hp:a.length=p) (hq:p+b.length=q):s.extract p q=baOf b:=by
 apply bl_inj
 rw [bl_extract,bl_baOf,hs,drop_take_mid a b c p (q - p) hp (by omega)]
theorem numS_at {s:ByteArray} {a b c:List UInt8} (hs:bl s=a++(b++c)) {p k:Nat} (hp:a.length=p) (hk:b.length=k):numS s p k=numL b:=by
 have h:bl (s.extract p (p+k))=b:=by rw [extr_at hs hp (by rw [hk]),bl_baOf]
 exact congrArg numL h
theorem numL_inj:∀ (n:Nat) (a b:List UInt8),a.length=n→b.length=n→numL a=numL b→a=b
 | 0,a,b,ha,hb, _=>by rw [List.eq_nil_of_length_eq_zero ha,List.eq_nil_of_length_eq_zero hb]
 | n+1,a,b,ha,hb,h=>by
   rcases List.eq_nil_or_concat a with rfl | ⟨a',x,rfl⟩
   ·simp at ha
   rcases List.eq_nil_or_concat b with rfl | ⟨b',y,rfl⟩
   ·simp at hb
   simp only [List.concat_eq_append] at*
   rw [numL_snoc,numL_snoc] at h
   have hx:=x.toNat_lt
   have hy:=y.toNat_lt
   have h1:numL a'=numL b':=by omega
   have h2:x.toNat=y.toNat:=by omega
   rw [numL_inj n a' b' (by simpa using ha) (by simpa using hb) h1,UInt8.toNat_inj.1 h2]
theorem numL_nums (xs:List Int):numL (bl (strOfNums xs))=xs.foldl (fun (n:Nat) x=>n*256+x.toNat % 256) 0:=by
 show numL ((strOfNums xs).data.toList)= _
 rw [strOfNums_data,numL,List.foldl_map]
 rfl
theorem putS_num2 (n:Int) (h0:0≤n) (h1:n < 65536):(numL (bl (putS n 2)):Int)=n:=by
 have hu:IntKind.u64.wrap n=n:=by rw [IntKind.wrap_u64]; omega
 rw [putS,numL_nums,oct8,hu]
 simp only [List.drop_succ_cons,List.drop_zero,List.foldl_cons,List.foldl_nil]
 omega
end
section
open Go.RowKit
/-- a string stands ahead of another -/
def ltB (a b:ByteArray):Bool:=Op.bytesLess (bl a) (bl b)
theorem bytesLess_irr:∀ l:List UInt8,Op.bytesLess l l=false
 | []=>rfl
 | a::l=>by simp [Op.bytesLess,bytesLess_irr l,UInt8.lt_irrefl]
theorem bytesLess_asym:∀ {a b:List UInt8},Op.bytesLess a b=true→Op.bytesLess b a=false
 | [],[],h=>by simp [Op.bytesLess] at h
 | [], _:: _, _=>by simp [Op.bytesLess]
 | _:: _,[],h=>by simp [Op.bytesLess] at h
 | x::a,y::b,h=>by
   simp only [Op.bytesLess,Bool.or_eq_true,decide_eq_true_eq,Bool.and_eq_true,beq_iff_eq] at h
   simp only [Op.bytesLess,Bool.or_eq_false_iff,decide_eq_false_iff_not,Bool.and_eq_false_iff,beq_eq_false_iff_ne]
   rcases h with h | ⟨rfl,h⟩
   ·exact ⟨fun h2=>UInt8.lt_irrefl _ (UInt8.lt_trans h h2), .inl fun h2=>by subst h2; exact UInt8.lt_irrefl _ h⟩
   ·exact ⟨UInt8.lt_irrefl _, .inr (bytesLess_asym h)⟩
theorem bytesLess_eq:∀ {a b:List UInt8},Op.bytesLess a b=false→Op.bytesLess b a=false→a=b
 | [],[], _, _=>rfl
 | [], _:: _,h, _=>by simp [Op.bytesLess] at h
 | _:: _,[], _,h=>by simp [Op.bytesLess] at h
 | x::a,y::b,h1,h2=>by
   simp only [Op.bytesLess,Bool.or_eq_false_iff,decide_eq_false_iff_not,Bool.and_eq_false_iff,beq_eq_false_iff_ne] at h1 h2
   have hxy:x=y:=by
    have a1:=h1.1; have a2:=h2.1
    rw [UInt8.not_lt] at a1 a2
    exact UInt8.le_antisymm a2 a1
   subst hxy
   rw [bytesLess_eq (h1.2.resolve_left (by simp)) (h2.2.resolve_left (by simp))]
theorem ltB_irr (a:ByteArray):ltB a a=false:=bytesLess_irr _
theorem ltB_asym {a b:ByteArray} (h:ltB a b=true):ltB b a=false:=bytesLess_asym h
theorem ltB_eq {a b:ByteArray} (h1:ltB a b=false) (h2:ltB b a=false):a=b:=bl_inj (bytesLess_eq h1 h2)
theorem ltB_not (a b:ByteArray):(!(ltB a b||a.toList==b.toList))=ltB b a:=by
 have e:(a.toList==b.toList)=true↔a=b:=by
  rw [beq_iff_eq,ByteArray.toList_eq,ByteArray.toList_eq]
  exact ⟨fun h=>bl_inj h,fun h=>by rw [h]⟩
 cases h:ltB b a with
 | true=>
   rw [ltB_asym h]
   cases h2:(a.toList==b.toList) with
   | false=>rfl
   | true=>rw [e.1 h2,ltB_irr] at h; cases h
 | false=>
   cases h1:ltB a b with
   | true=>rfl
   | false=>rw [e.2 (ltB_eq h1 h)]; rfl
section
variable {P:Program} {o:Oper} {ρ:Operand→Value} {W:World}
theorem run_strls {t t':TypeId} {x y:Operand} {a b:ByteArray} (h:o.op= .binOp .lss t x y t') (hx:ρ x= .string a) (hy:ρ y= .string b):(execOp ρ o).run P W= .ok (.value (.bool (ltB a b))) W:=by
 unfold execOp; rw [h]
 simp [hx,hy,eqGuard,binOp,Op.stringOp,ltB,bl,ByteArray.toList_eq]
theorem run_strgt {t t':TypeId} {x y:Operand} {a b:ByteArray} (h:o.op= .binOp .gtr t x y t') (hx:ρ x= .string a) (hy:ρ y= .string b):(execOp ρ o).run P W= .ok (.value (.bool (ltB b a))) W:=by
 rw [← ltB_not]
 unfold execOp; rw [h]
 simp [hx,hy,eqGuard,binOp,Op.stringOp,ltB,bl,ByteArray.toList_eq]
end
/-- a number as two bytes -/
def twoB (n:Int):ByteArray:=strOfNums [n % 65536 / 256,n % 65536 % 256]
theorem twoB_put (n:Int):putS (n % 65536) 2=twoB n:=by
 have h0:0≤n % 65536:=Int.emod_nonneg _ (by decide)
 have h1:n % 65536 < 65536:=Int.emod_lt_of_pos _ (by decide)
 have hu:IntKind.u64.wrap (n % 65536)=n % 65536:=by rw [IntKind.wrap_u64]; omega
 rw [putS,oct8,hu,twoB]
 simp only [Nat.reduceSub,List.drop_succ_cons,List.drop_zero]
 congr 1
 have e1:n % 65536 / 256 % 256=n % 65536 / 256:=by omega
 rw [e1]
theorem twoB_size (n:Int):(twoB n).size=2:=by simp [twoB,strOfNums,ByteArray.size]
theorem twoB_num (n:Int):(numL (bl (twoB n)):Int)=n % 65536:=by
 rw [← twoB_put,putS_num2 _ (Int.emod_nonneg _ (by decide)) (Int.emod_lt_of_pos _ (by decide))]
/-- an entry: key, page, slot -/
def entF (k:ByteArray) (p s:Int):ByteArray:=k++twoB p++twoB s
theorem entF_size (k:ByteArray) (p s:Int):(entF k p s).size=k.size+4:=by
 rw [entF,ByteArray.size_append,ByteArray.size_append,twoB_size,twoB_size]
/-- the parts of an entry -/
def pkF (e:ByteArray):ByteArray:=e.extract 0 (e.size - 4)
def ppF (e:ByteArray):Int:=numS e (e.size - 4) 2
def psF (e:ByteArray):Int:=numS e (e.size - 2) 2
/-- what is compared: a string of less than four bytes is its own key -/
def okF (e:ByteArray):ByteArray:=if e.size < 4 then e else pkF e
def opF (e:ByteArray):Int:=if e.size < 4 then 0 else ppF e
def osF (e:ByteArray):Int:=if e.size < 4 then 0 else psF e
def lessF (a b:ByteArray):Bool:=
 if ltB (okF a) (okF b) then true else if ltB (okF b) (okF a) then false
 else if opF a < opF b then true else if opF b < opF a then false else decide (osF a < osF b)
theorem lessF_irr (a:ByteArray):lessF a a=false:=by simp [lessF,ltB_irr]
theorem lessF_asym {a b:ByteArray} (h:lessF a b=true):lessF b a=false:=by
 unfold lessF at h ⊢
 cases h1:ltB (okF a) (okF b) with
 | true=>rw [ltB_asym h1]; rfl
 | false=>
   rw [h1] at h
   cases h2:ltB (okF b) (okF a) with
   | true=>rw [h2] at h; simp at h
   | false=>
     rw [h2] at h
     simp only [Bool.false_eq_true,if_false] at h ⊢
     split at h
     ·rw [if_neg (by omega),if_pos (by assumption)]
     ·split at h
      ·cases h
      ·have h3:=of_decide_eq_true h
       rw [if_neg (by omega),if_neg (by omega)]
       exact decide_eq_false (by omega)
/-- the reference's way to say it -/
theorem lessF_ref (a b:ByteArray):lessF a b=(if okF a≠okF b then ltB (okF a) (okF b) else if opF a≠opF b then decide (opF a < opF b) else decide (osF a < osF b)):=by
 unfold lessF
 by_cases hk:okF a=okF b
 ·rw [hk,ltB_irr]
  simp only [Bool.false_eq_true,if_false,ne_eq,not_true_eq_false]
  by_cases hp:opF a=opF b
  ·rw [hp]; simp
  ·by_cases h:opF a < opF b
   ·rw [if_pos h]; simp [hp,h]
   ·rw [if_neg h,if_pos (by omega)]; simp [hp,h]
 ·rw [if_pos hk]
  cases h1:ltB (okF a) (okF b) with
  | true=>rfl
  | false=>
    cases h2:ltB (okF b) (okF a) with
    | true=>rfl
    | false=>exact absurd (ltB_eq h1 h2) hk
/-- what order returns -/
def cmpB (a b:ByteArray):Int:=if ltB a b then -1 else if ltB b a then 1 else 0
def cmpI (a b:Int):Int:=if a < b then -1 else if b < a then 1 else 0
def ordF (a b:ByteArray):Int:=if cmpB (okF a) (okF b)≠0 then cmpB (okF a) (okF b) else if cmpI (opF a) (opF b)≠0 then cmpI (opF a) (opF b) else cmpI (osF a) (osF b)
theorem ordF_less (a b:ByteArray):decide (ordF a b < 0)=lessF a b:=by
 unfold ordF lessF cmpB cmpI
 cases h1:ltB (okF a) (okF b) with
 | true=>simp
 | false=>
   cases h2:ltB (okF b) (okF a) with
   | true=>simp
   | false=>
     simp only [Bool.false_eq_true,if_false,ne_eq,not_true_eq_false]
     by_cases h3:opF a < opF b
     ·simp [h3]
     ·by_cases h4:opF b < opF a
      ·simp [h3,h4]
      ·by_cases h5:osF a < osF b
       ·simp [h3,h4,h5]
       ·by_cases h6:osF b < osF a<;>simp [h3,h4,h5,h6]
/-- an entry of a node: its bytes, its slot, its child -/
abbrev EnD:=ByteArray×Nat×Int
/-- an entry goes to its place, behind those that it does not stand ahead of: from the right end on -/
def insR (x:EnD):List EnD→List EnD
 | []=>[x]
 | y::l=>if lessF x.1 y.1 then y::insR x l else x::y::l
/-- the list turned round: the last entry at the head -/
def sortR:List EnD→List EnD
 | []=>[]
 | x::l=>insR x (sortR l)
/-- what stands in the slots from i on, the empty ones left out -/
def rawE:Nat→List ByteArray→List (Nat×ByteArray)
 | _,[]=>[]
 | i,x::l=>if x.size=0 then rawE (i+1) l else (i,x)::rawE (i+1) l
/-- an item as an entry of a node of the level -/
def parE (lv:Int) (p:Nat×ByteArray):EnD:=if 0 < lv then (p.2.extract 0 (p.2.size - 2),p.1,(numS p.2 (p.2.size - 2) 2:Int)) else (p.2,p.1, -1)
def badE (lv:Int) (p:Nat×ByteArray):Bool:=if 0 < lv then decide (p.2.size < 6) else decide (p.2.size < 4)
/-- a node: level, right, high, dead, entries -/
structure NoD where
 lv:Int
 right:Int
 high:ByteArray
 dead:Bool
 es:List EnD
 free:Nat
def hdOk (h:ByteArray):Bool:=decide (4≤h.size)&&decide (numS h 1 1≤1)&&(decide (h.size≤4)||decide (8≤h.size))
def freeE:Nat→List ByteArray→Nat→Nat
 | _,[],d=>d
 | i,x::l,d=>if x.size=0 then i else freeE (i+1) l d
/-- the node that a page holds -/
def nodF (k:Int) (its:List ByteArray):Option NoD:=
 if k≠2 then none else match its with
 | []=>none
 | h::l=>if hdOk h=false then none else if (rawE 1 l).any (badE (numS h 0 1)) then none else
   some ⟨numS h 0 1,(numS h 2 2:Int) - 1,h.extract 4 h.size,numS h 1 1==1,(sortR ((rawE 1 l).map (parE (numS h 0 1))).reverse).reverse,freeE 1 l (l.length+1)⟩
theorem insR_len (x:EnD):∀ l,(insR x l).length=l.length+1
 | []=>rfl
 | y::l=>by unfold insR; split<;>simp [insR_len x l]
theorem sortR_len:∀ l,(sortR l).length=l.length
 | []=>rfl
 | x::l=>by rw [sortR,insR_len,sortR_len l]; rfl
theorem insR_mem {x:EnD}:∀ {l:List EnD} {y:EnD},y∈insR x l→y=x∨y∈l
 | [],y,h=>by simpa [insR] using h
 | z::l,y,h=>by
   unfold insR at h
   split at h
   ·rcases List.mem_cons.1 h with rfl | h
    ·exact .inr (List.mem_cons_self ..)
    ·rcases insR_mem h with h | h
     ·exact .inl h
     ·exact .inr (List.mem_cons_of_mem _ h)
   ·rcases List.mem_cons.1 h with rfl | h
    ·exact .inl rfl
    ·exact .inr h
theorem sortR_mem:∀ {l:List EnD} {y:EnD},y∈sortR l→y∈l
 | [],y,h=>by cases h
 | x::l,y,h=>by
   rcases insR_mem h with rfl | h
   ·exact List.mem_cons_self ..
   ·exact List.mem_cons_of_mem _ (sortR_mem h)
theorem rawE_len:∀ (i:Nat) (l:List ByteArray),(rawE i l).length≤l.length
 | _,[]=>Nat.le_refl _
 | i,x::l=>by
   unfold rawE
   have:=rawE_len (i+1) l
   split<;>simp<;>omega
theorem bl_twoB_len (n:Int):(bl (twoB n)).length=2:=by rw [bl_len,twoB_size]
theorem pkF_ent (k:ByteArray) (p s:Int):pkF (entF k p s)=k:=by
 apply bl_inj
 rw [pkF,bl_extract,entF_size,List.drop_zero,Nat.sub_zero,Nat.add_sub_cancel,entF,bl_append,bl_append,List.append_assoc,← bl_len,List.take_left']
 rfl
theorem ppF_ent (k:ByteArray) (p s:Int):ppF (entF k p s)=p % 65536:=by
 rw [ppF,entF_size,Nat.add_sub_cancel,← twoB_num]
 congr 1
 exact numS_at (a:=bl k) (b:=bl (twoB p)) (c:=bl (twoB s)) (by rw [entF,bl_append,bl_append,List.append_assoc]) (bl_len _) (bl_twoB_len _)
theorem psF_ent (k:ByteArray) (p s:Int):psF (entF k p s)=s % 65536:=by
 rw [psF,entF_size,← twoB_num,show k.size+4 - 2=k.size+2 by omega]
 congr 1
 exact numS_at (a:=bl (k++twoB p)) (b:=bl (twoB s)) (c:=[]) (by rw [entF,bl_append,List.append_nil]) (by rw [bl_len,ByteArray.size_append,twoB_size]) (bl_twoB_len _)
/-- equal parts, equal entries -/
theorem ent_inj {a b:ByteArray} (ha:4≤a.size) (hb:4≤b.size) (hk:pkF a=pkF b) (hp:ppF a=ppF b) (hs:psF a=psF b):a=b:=by
 have hz:a.size=b.size:=by
  have:=congrArg ByteArray.size hk
  simp only [pkF,ByteArray.size_extract] at this
  omega
 have two:∀ {x y:ByteArray} {p:Nat},p+2≤x.size→p+2≤y.size→numS x p 2=numS y p 2→((bl x).drop p).take 2=((bl y).drop p).take 2:=by
  intro x y p hx hy h
  have e:∀ z:ByteArray,numS z p 2=numL (((bl z).drop p).take 2):=fun z=>by
   rw [numS,show (z.extract p (p+2)).data.toList=bl (z.extract p (p+2)) from rfl,bl_extract,Nat.add_sub_cancel_left]
  rw [e,e] at h
  refine numL_inj 2 _ _ ?_ ?_ h
  ·rw [List.length_take,List.length_drop,bl_len]; omega
  ·rw [List.length_take,List.length_drop,bl_len]; omega
 have h1:(bl a).take (a.size - 4)=(bl b).take (a.size - 4):=by
  have:=congrArg bl hk
  rw [pkF,pkF,bl_extract,bl_extract,List.drop_zero,List.drop_zero,Nat.sub_zero,Nat.sub_zero,← hz] at this
  exact this
 have h2:=two (x:=a) (y:=b) (p:=a.size - 4) (by omega) (by omega) (by have:=hp; rw [ppF,ppF,← hz] at this; omega)
 have h3:=two (x:=a) (y:=b) (p:=a.size - 2) (by omega) (by omega) (by have:=hs; rw [psF,psF,← hz] at this; omega)
 have cut:∀ z:ByteArray,z.size=a.size→bl z=(bl z).take (a.size - 4)++(((bl z).drop (a.size - 4)).take 2++((bl z).drop (a.size - 2)).take 2):=by
  intro z hz
  have e1:((bl z).drop (a.size - 2)).take 2=(bl z).drop (a.size - 2):=List.take_of_length_le (by rw [List.length_drop,bl_len]; omega)
  have e2:(bl z).drop (a.size - 2)=((bl z).drop (a.size - 4)).drop 2:=by rw [List.drop_drop]; congr 1; omega
  rw [e1,e2,List.take_append_drop,List.take_append_drop]
 apply bl_inj
 rw [cut a rfl,cut b hz.symm,h1,h2,h3]
/-- of two entries one stands ahead -/
theorem lessF_total {a b:ByteArray} (ha:4≤a.size) (hb:4≤b.size) (h1:lessF a b=false) (h2:lessF b a=false):a=b:=by
 have oa:∀ {z:ByteArray},4≤z.size→okF z=pkF z∧opF z=ppF z∧osF z=psF z:=fun {z} h=>by
  unfold okF opF osF
  rw [if_neg (by omega),if_neg (by omega),if_neg (by omega)]
  exact ⟨rfl,rfl,rfl⟩
 unfold lessF at h1 h2
 cases e1:ltB (okF a) (okF b) with
 | true=>rw [e1] at h1; simp at h1
 | false=>
   cases e2:ltB (okF b) (okF a) with
   | true=>rw [e2] at h2; simp at h2
   | false=>
     rw [e1,e2] at h1 h2
     simp only [Bool.false_eq_true,if_false] at h1 h2
     have hk:=ltB_eq e1 e2
     have hp:opF a=opF b:=by
      by_cases c1:opF a < opF b
      ·rw [if_pos c1] at h1; cases h1
      ·by_cases c2:opF b < opF a
       ·rw [if_pos c2] at h2; cases h2
       ·omega
     have hs:osF a=osF b:=by
      rw [if_neg (by omega),if_neg (by omega)] at h1 h2
      have:=of_decide_eq_false h1
      have:=of_decide_eq_false h2
      omega
     obtain ⟨a1,a2,a3⟩:=oa ha
     obtain ⟨b1,b2,b3⟩:=oa hb
     exact ent_inj ha hb (a1 ▸ b1 ▸ hk) (a2 ▸ b2 ▸ hp) (a3 ▸ b3 ▸ hs)
theorem insR_eq (x:EnD):∀ l,insR x l=l.takeWhile (fun y=>lessF x.1 y.1)++x::l.dropWhile (fun y=>lessF x.1 y.1)
 | []=>rfl
 | y::l=>by
   unfold insR
   cases h:lessF x.1 y.1 with
   | true=>rw [if_pos rfl,insR_eq x l]; simp [List.takeWhile_cons,List.dropWhile_cons,h]
   | false=>rw [if_neg (by simp)]; simp [List.takeWhile_cons,List.dropWhile_cons,h]
/-- the same, the list as it stands in memory: x goes behind the first m entries -/
theorem insR_at {x:EnD} {l a b:List EnD} (h:l=a.reverse++b.reverse) (ha:∀ y∈a,lessF x.1 y.1=true) (hb:∀ y,b.getLast?=some y→lessF x.1 y.1=false):(insR x l).reverse=b++x::a:=by
 subst h
 rw [insR_eq]
 have h1:(a.reverse++b.reverse).takeWhile (fun y=>lessF x.1 y.1)=a.reverse:=by
  rw [List.takeWhile_append_of_pos (fun y hy=>ha y (by simpa using hy))]
  cases hr:b.reverse with
  | nil=>simp
  | cons y r=>
    rw [List.takeWhile_cons_of_neg (by rw [hb y (by rw [← List.head?_reverse,hr]; rfl)]; simp),List.append_nil]
 have h2:(a.reverse++b.reverse).dropWhile (fun y=>lessF x.1 y.1)=b.reverse:=by
  rw [List.dropWhile_append_of_pos (fun y hy=>ha y (by simpa using hy))]
  cases hr:b.reverse with
  | nil=>rfl
  | cons y r=>rw [List.dropWhile_cons_of_neg (by rw [hb y (by rw [← List.head?_reverse,hr]; rfl)]; simp)]
 rw [h1,h2]
 simp
end
section
open Go.RowKit
theorem knum_any (n:Int) (w:World):
  Calls Try.prog 63 #[.int .i64 n] w (Ret (.string (twoB n)) w):=by
 go_enter Try.func63,Try.ntmps63
 have hst0:=St.start w
 refine wp_seq (sqr (sqp [.k 2 (.string ⟨#[]⟩)] ?_))
 refine then_normal (wp_seq (sqr (sqp [.m 3 0,sAn 4 .i64 n 65535 (n % 65536) (bits_mask n 16 (by decide))] ?_)))
 refine sqk (.string (putS (n % 65536) 2)) hst0 (fun cx=>⟨_,oput2_any (n % 65536) _,(map2 (cx.ou 4) (cx.co _))⟩) fun W4 hst4=>?_
 refine sqp [.m 2 5] ?_
 refine then_normal (wp_ret ?_)
 refine bpr (.string (putS (n % 65536) 2)) (results_1 Try.results63 rpt) ?_
 exact Ret.of (by rw [← twoB_put]) hst4.ext
theorem kentry_any (k:ByteArray) (p s:Int) (w:World) (hk:k.size≤1000000):
  Calls Try.prog 26 #[.string k, .agg #[.int .i64 p, .int .i64 s]] w (Ret (.string (entF k p s)) w):=by
 have h2_:=twoB_size p
 have h3_:=twoB_size s
 go_enter Try.func26,Try.ntmps26
 have hst0:=St.start w
 refine wp_seq (sqr ?_)
 refine sqbx #[vi p,vi s] hst0 fun B3_1 W1 hst1=>?_
 refine sqp [.k 4 (.string ⟨#[]⟩)] ?_
 refine then_normal (wp_seq (wp_region_Z [0,0,2,6,15,0,32,110,255,511] [[],[],[0],[],[],[],[0]] [.k 5 (.string k), .k 6 (vp B3_1), .c 7 (vi p), .c 8 (.string (twoB p)),tS 9 k (twoB p) (by first | omega | (rw [ByteArray.size_append]; omega)), .k 10 (.pointer (some ⟨B3_1,1,none⟩)), .c 11 (vi s), .c 12 (.string (twoB s)),tS 13 (k++(twoB p)) (twoB s) (by first | omega | (rw [ByteArray.size_append]; omega)), .k 4 (.string ((k++(twoB p))++(twoB s)))] [0] [2,3,6,7] [(4,9,1,5),(0,0,9,9)] hst1 ?_ fun W3 hst3=>?_))
 ·refine ⟨?_,?_,?_,?_,trivial⟩
  ·exact xs4 rfl id fun cx=>run_load1 rfl (by kernel_rfl) (cx.an 1) ((cx.bi 0 rfl).cell 0)
  ·exact xsc rfl id rfl rfl fun cx=>⟨_,knum_any p _,(map1 (cx.an 2))⟩
  ·exact xs4 rfl id fun cx=>run_load1 rfl (by kernel_rfl) (cx.an 5) ((cx.bi 0 rfl).cell 1)
  ·exact xsc rfl id rfl rfl fun cx=>⟨_,knum_any s _,(map1 (cx.an 6))⟩
 refine then_normal (wp_ret ?_)
 refine bpr (.string ((k++(twoB p))++(twoB s))) (results_1 Try.results26 rpt) ?_
 exact Ret.of rfl hst3.ext
theorem rtwo_any (n:Int) (w:World):
  Calls Try.prog 66 #[.int .i64 n] w (Ret (.string (twoB n)) w):=by
 go_enter Try.func66,Try.ntmps66
 have hst0:=St.start w
 refine wp_seq (sqr (sqp [.k 2 (.string ⟨#[]⟩)] ?_))
 refine then_normal (wp_seq (sqr (sqp [.m 3 0,sAn 4 .i64 n 65535 (n % 65536) (bits_mask n 16 (by decide)), .m 0 4] ?_)))
 refine then_normal (wp_seq (sqr (sqp [.m 5 0,sQu 6 .i64 (n % 65536) 256 ((n % 65536) / 256) (by rw [Int.tdiv_eq_ediv_of_nonneg (by omega)]; exact IntWalk.i64_in _ (by omega)),sW 7 .u8 ((n % 65536) / 256) ((n % 65536) / 256) (IntWalk.u8_in _ (by omega)), .m 8 0,sRe 9 .i64 (n % 65536) 256 ((n % 65536) % 256) (Int.tmod_eq_emod_of_nonneg (by omega)),sW 10 .u8 ((n % 65536) % 256) ((n % 65536) % 256) (IntWalk.u8_in _ (by omega))] ?_)))
 refine sqn1 (fun x_=>sA x_) (fun A11_11=> .slice A11_11 2 2) (fun A11_11=>eO 5 1 (.slice A11_11 2 2) 2 ([.int .u8 ((n % 65536) / 256), .int .u8 ((n % 65536) % 256)])) hst0 (by
   refine svA fun ρ β W X cx=>?_
   have fF7:ρ (.tmp 7)= .int .u8 ((n % 65536) / 256):=(cx.ou 7)
   have fF10:ρ (.tmp 10)= .int .u8 ((n % 65536) % 256):=(cx.ou 10)
   exact dv_lit (e:=5) (xs:=[.int .u8 ((n % 65536) / 256), .int .u8 ((n % 65536) % 256)]) rfl (by simp [go_sem,fF7,fF10]) rfl (by decide) rfl rfl (fun σ β' X' hs hb hv hx=>⟨hv,hx⟩)) fun A11_11 W11 hst11=>?_
 refine sql (.string (strOfNums ([((n % 65536) / 256),((n % 65536) % 256)]))) hst11 (fun cx=>run_convB (e:=5) rfl (by kernel_rfl) (by kernel_rfl) (by kernel_rfl) (cx.ou 11) (cx.ri 0 rfl)) ?_
 refine sqp [.m 2 12] ?_
 refine then_normal (wp_ret ?_)
 refine bpr (.string (strOfNums ([((n % 65536) / 256),((n % 65536) % 256)]))) (results_1 Try.results66 rpt) ?_
 exact Ret.of rfl hst11.ext
theorem rentry_any (k:ByteArray) (p s:Int) (w:World) (hk:k.size≤1000000):
  Calls Try.prog 28 #[.string k, .agg #[.int .i64 p, .int .i64 s]] w (Ret (.string (entF k p s)) w):=by
 have h2_:=twoB_size p
 have h3_:=twoB_size s
 go_enter Try.func28,Try.ntmps28
 have hst0:=St.start w
 refine wp_seq (sqr ?_)
 refine sqbx #[vi p,vi s] hst0 fun B3_1 W1 hst1=>?_
 refine sqp [.k 4 (.string ⟨#[]⟩)] ?_
 refine then_normal (wp_seq (wp_region_Z [0,0,2,6,15,0,32,110,255,511] [[],[],[0],[],[],[],[0]] [.k 5 (.string k), .k 6 (vp B3_1), .c 7 (vi p), .c 8 (.string (twoB p)),tS 9 k (twoB p) (by first | omega | (rw [ByteArray.size_append]; omega)), .k 10 (.pointer (some ⟨B3_1,1,none⟩)), .c 11 (vi s), .c 12 (.string (twoB s)),tS 13 (k++(twoB p)) (twoB s) (by first | omega | (rw [ByteArray.size_append]; omega)), .k 4 (.string ((k++(twoB p))++(twoB s)))] [0] [2,3,6,7] [(4,9,1,5),(0,0,9,9)] hst1 ?_ fun W3 hst3=>?_))
 ·refine ⟨?_,?_,?_,?_,trivial⟩
  ·exact xs4 rfl id fun cx=>run_load1 rfl (by kernel_rfl) (cx.an 1) ((cx.bi 0 rfl).cell 0)
  ·exact xsc rfl id rfl rfl fun cx=>⟨_,rtwo_any p _,(map1 (cx.an 2))⟩
  ·exact xs4 rfl id fun cx=>run_load1 rfl (by kernel_rfl) (cx.an 5) ((cx.bi 0 rfl).cell 1)
  ·exact xsc rfl id rfl rfl fun cx=>⟨_,rtwo_any s _,(map1 (cx.an 6))⟩
 refine then_normal (wp_ret ?_)
 refine bpr (.string ((k++(twoB p))++(twoB s))) (results_1 Try.results28 rpt) ?_
 exact Ret.of rfl hst3.ext
theorem cnans_any (x:ByteArray) (w:World):
  Calls Try.prog 103 #[.string x] w (Ret (.bool false) w):=by
 go_enter Try.func103,Try.ntmps103
 have hst0:=St.start w
 refine wp_seq (sqr (sqp [.k 2 (.bool false)] ?_))
 refine then_normal (wp_seq (sqr (sqp [.m 3 0, .m 4 0, .k 5 (.bool (!(x.toList==x.toList))), .m 2 5] ?_)))
 refine then_normal (wp_ret ?_)
 refine bpr (.bool (!(x.toList==x.toList))) (results_1 Try.results103 rpt) ?_
 exact Ret.bool (by simp) hst0.ext
theorem cnani_any (x:Int) (w:World):
  Calls Try.prog 104 #[.int .i64 x] w (Ret (.bool false) w):=by
 go_enter Try.func104,Try.ntmps104
 have hst0:=St.start w
 refine wp_seq (sqr (sqp [.k 2 (.bool false)] ?_))
 refine then_normal (wp_seq (sqr (sqp [.m 3 0, .m 4 0, .k 5 (.bool (x != x)), .m 2 5] ?_)))
 refine then_normal (wp_ret ?_)
 refine bpr (.bool (x != x)) (results_1 Try.results104 rpt) ?_
 exact Ret.bool (by simp) hst0.ext
theorem ccmps_any (a b:ByteArray) (w:World):
  Calls Try.prog 93 #[.string a, .string b] w (Ret (.int .i64 (cmpB a b)) w):=by
 go_enter Try.func93,Try.ntmps93
 have hst0:=St.start w
 refine wp_seq (sqr (sqp [.k 4 (vi 0)] ?_))
 refine then_normal (wp_seq (sqr (sqp [.m 7 0] ?_)))
 refine sqk (.bool false) hst0 (fun cx=>⟨_,cnans_any a _,(map1 (cx.ou 7))⟩) fun W3 hst3=>?_
 refine sqp [.k 5 (.bool false)] ?_
 refine then_normal (wp_seq (sqr (sqp [.m 9 1] ?_)))
 refine sqk (.bool false) hst3 (fun cx=>⟨_,cnans_any b _,(map1 (cx.ou 9))⟩) fun W6 hst6=>?_
 refine sqp [.k 6 (.bool false)] ?_
 refine then_normal (wp_seq (wp_seq (sqr (sqp [.k 11 (.bool false)] ?_))))
 refine then_normal (wcf rfl (wp_skip (then_normal (wp_seq (wp_seq (sqr (sqp [.k 13 (.bool false)] ?_)))))))
 refine then_normal (wcf rfl (wp_skip (then_normal (wp_seq (wp_seq (sqr (sqp [.m 14 0, .m 15 1] ?_)))))))
 refine sql (.bool (ltB a b)) hst6 (fun cx=>run_strls rfl (cx.ou 14) (cx.ou 15)) ?_
 refine then_normal (wbs (fun hs13=>?_) fun hs13=>?_)
 ·refine wp_seq (sqr (sqp [.k 4 (vi (-1))] ?_))
  refine then_normal (wp_ret (then_ret ?_))
  refine bpr (vi (-1)) (results_1 Try.results93 rpt) ?_
  exact Ret.of (by simp [cmpB, *]) hst6.ext
 refine wp_skip (then_normal (wp_seq (wp_seq (sqr (sqp [.m 17 0, .m 18 1] ?_)))))
 refine sql (.bool (ltB b a)) hst6 (fun cx=>run_strgt rfl (cx.ou 17) (cx.ou 18)) ?_
 refine then_normal (wbs (fun hs18=>?_) fun hs18=>?_)
 ·refine wp_seq (sqr (sqp [.k 4 (vi 1)] ?_))
  refine then_normal (wp_ret (then_ret ?_))
  refine bpr (vi 1) (results_1 Try.results93 rpt) ?_
  exact Ret.of (by simp [cmpB, *]) hst6.ext
 refine wp_skip (then_normal (wp_seq (sqr (sqp [.k 4 (vi 0)] ?_))))
 refine then_normal (wp_ret ?_)
 refine bpr (vi 0) (results_1 Try.results93 rpt) ?_
 exact Ret.of (by simp [cmpB, *]) hst6.ext
theorem ccmpi_any (a b:Int) (w:World):
  Calls Try.prog 94 #[.int .i64 a, .int .i64 b] w (Ret (.int .i64 (cmpI a b)) w):=by
 go_enter Try.func94,Try.ntmps94
 have hst0:=St.start w
 refine wp_seq (sqr (sqp [.k 4 (vi 0)] ?_))
 refine then_normal (wp_seq (sqr (sqp [.m 7 0] ?_)))
 refine sqk (.bool false) hst0 (fun cx=>⟨_,cnani_any a _,(map1 (cx.ou 7))⟩) fun W3 hst3=>?_
 refine sqp [.k 5 (.bool false)] ?_
 refine then_normal (wp_seq (sqr (sqp [.m 9 1] ?_)))
 refine sqk (.bool false) hst3 (fun cx=>⟨_,cnani_any b _,(map1 (cx.ou 9))⟩) fun W6 hst6=>?_
 refine sqp [.k 6 (.bool false)] ?_
 refine then_normal (wp_seq (wp_seq (sqr (sqp [.k 11 (.bool false)] ?_))))
 refine then_normal (wcf rfl (wp_skip (then_normal (wp_seq (wp_seq (sqr (sqp [.k 13 (.bool false)] ?_)))))))
 refine then_normal (wcf rfl (wp_skip (then_normal (wp_seq (wp_seq (sqr (sqp [.m 14 0, .m 15 1, .k 16 (.bool (decide (a < b)))] ?_)))))))
 refine then_normal (wds (fun hs13 hs13p=>?_) fun hs13 hs13p=>?_)
 ·refine wp_seq (sqr (sqp [.k 4 (vi (-1))] ?_))
  refine then_normal (wp_ret (then_ret ?_))
  refine bpr (vi (-1)) (results_1 Try.results94 rpt) ?_
  exact Ret.of (by simp [cmpI, *]) hst6.ext
 refine wp_skip (then_normal (wp_seq (wp_seq (sqr (sqp [.m 17 0, .m 18 1, .k 19 (.bool (decide (b < a)))] ?_)))))
 refine then_normal (wds (fun hs18 hs18p=>?_) fun hs18 hs18p=>?_)
 ·refine wp_seq (sqr (sqp [.k 4 (vi 1)] ?_))
  refine then_normal (wp_ret (then_ret ?_))
  refine bpr (vi 1) (results_1 Try.results94 rpt) ?_
  exact Ret.of (by simp [cmpI, *]) hst6.ext
 refine wp_skip (then_normal (wp_seq (sqr (sqp [.k 4 (vi 0)] ?_))))
 refine then_normal (wp_ret ?_)
 refine bpr (vi 0) (results_1 Try.results94 rpt) ?_
 exact Ret.of (by simp [cmpI, *]) hst6.ext
end
section
open Go.RowKit
/-- the key that Part returns -/
abbrev gu (u:List Go.Value) (k:Nat):Go.Value:=u.getD k undef
theorem nle {a b:Nat} (h:Nat.ble a b=true):a≤b:=Nat.le_of_ble_eq_true h
def qkF (e:ByteArray):ByteArray:=if e.size < 4 then ByteArray.empty else pkF e
def partV (e:ByteArray):Value:= .tuple #[.string (qkF e), .agg #[.int .i64 (opF e), .int .i64 (osF e)], .bool (decide (4≤e.size))]
theorem numS_sub (e:ByteArray) (m p k:Nat) (h:m+p+k≤e.size):numS (e.extract m e.size) p k=numS e (m+p) k:=by
 have e1:∀ z:ByteArray,∀ q,numS z q k=numL (((bl z).drop q).take k):=fun z q=>by
  rw [numS,show (z.extract q (q+k)).data.toList=bl (z.extract q (q+k)) from rfl,bl_extract,Nat.add_sub_cancel_left]
 rw [e1,e1,bl_extract,← bl_len,List.take_of_length_le (l:=(bl e).drop m) (by rw [List.length_drop]; exact Nat.le_refl _),List.drop_drop]
theorem part_bad {e:ByteArray} (h:e.size < 4):partV e= .tuple #[.string ByteArray.empty, .agg #[.int .i64 0, .int .i64 0], .bool false]:=by
 rw [partV,qkF,opF,osF,if_pos h,if_pos h,if_pos h,decide_eq_false (by omega)]
theorem part_ok {e:ByteArray} {m:Nat} (h:e.size=m+4):partV e= .tuple #[.string (e.extract 0 m), .agg #[.int .i64 (numS (e.extract m e.size) 0 2), .int .i64 (numS (e.extract m e.size) 2 2)], .bool true]:=by
 rw [partV,qkF,opF,osF,if_neg (by omega),if_neg (by omega),if_neg (by omega),decide_eq_true (by omega),pkF,ppF,psF,numS_sub _ _ _ _ (by omega),numS_sub _ _ _ _ (by omega),show e.size - 4=m by omega,show e.size - 2=m+2 by omega]; rfl
/-- the first number that is not zero -/
def orL:List Int→Int
 | []=>0
 | x::l=>if x≠0 then x else orL l
theorem orL_drop:∀ (ls:List Int) (k:Nat),k < ls.length→orL (ls.drop k)=if ls.getD k 0≠0 then ls.getD k 0 else orL (ls.drop (k+1))
 | [],k,h=>by simp at h
 | x::l,0, _=>rfl
 | x::l,k+1,h=>orL_drop l k (by simpa using h)
theorem ordF_or (a b:ByteArray):orL [cmpB (okF a) (okF b),cmpI (opF a) (opF b),cmpI (osF a) (osF b)]=ordF a b:=by
 simp only [orL,ordF]
 split
 ·rfl
 ·split
  ·rfl
  ·split
   ·rfl
   ·omega
theorem oread_b (s:ByteArray) (w:World):Calls Try.prog 64 #[.string s] w fun e w'=>∃ B,e= .returned (.pointer (some ⟨B,0,none⟩))∧(Blk w' B 164 #[.string s, .int .i64 0, .bool false]∧w.heap.size≤B)∧Ext w w':=by
 go_enter Try.func64,Try.ntmps64
 have hst0:=St.start w
 refine wp_seq (sqr (sqp [.k 2 (.pointer none)] ?_))
 refine then_normal (wp_seq (sqr (sqp [.m 3 0, .k 4 (.agg #[.string s,vi 0, .bool false])] ?_)))
 refine sqbx #[.string s,vi 0, .bool false] hst0 fun B5_4 W4 hst4=>?_
 refine sqp [.m 2 5] ?_
 refine then_normal (wp_ret ?_)
 refine bpr (vp B5_4) (results_1 Try.results64 rpt) ?_
 exact ⟨_,rfl,⟨hst4.blk 0 rfl,((hst4.get 0 rfl).own _ (by simp [eB])).1.resolve_left (by simp)⟩,hst4.ext⟩
theorem kpart_any (e:ByteArray) (w:World) (he:e.size≤1000000):
  Calls Try.prog 27 #[.string e] w (Ret (partV e) w):=by
 go_enter Try.func27,Try.ntmps27
 have hst0:=St.start w
 refine wp_seq (sqr (sqp [.k 2 (.string ⟨#[]⟩)] ?_))
 refine sqal #[vi 0,vi 0] hst0 fun B3_2 W2 hst2=>?_
 refine sqp [.k 4 (.bool false)] ?_
 refine then_normal (wp_seq (sqr (sqp [.m 8 0, .k 9 (vi ((e.size:Int))),sI 10 ((e.size:Int) - 4) (by omega), .m 5 10] ?_)))
 refine then_normal (wp_seq (wp_seq (sqr (sqp [.m 11 5, .k 12 (.bool (decide ((e.size:Int) - 4 < 0)))] ?_))))
 refine then_normal (wds (fun hs10 hs10p=>?_) fun hs10 hs10p=>?_)
 ·refine wp_seq (sqr (sqp [.k 13 (.agg #[vi 0,vi 0]), .k 2 (.string ⟨#[]⟩)] ?_))
  refine sqst (n:=2) 0 #[vi 0,vi 0] hst2 fun W13 hst13=>?_
  refine sqp [.k 4 (.bool false)] ?_
  refine then_normal (wp_ret (then_ret ?_))
  refine bpr (.tuple #[.string ⟨#[]⟩, .agg #[vi 0,vi 0], .bool false]) (results_3 Try.results27 rpt (rpa (hst13.blk 0 rfl) 0 2) rpt) ?_
  exact Ret.of (part_bad (by omega)).symm hst13.ext
 refine wp_skip (then_normal (wp_seq ?_))
 obtain ⟨m,hm⟩:∃ m:Nat,e.size=m+4:=⟨e.size - 4,by omega⟩
 obtain ⟨z,hz⟩:∃ z,(e.size:Int) - 4=z:=⟨_,rfl⟩
 rw [hz]
 obtain rfl:z=(m:Int):=by omega
 refine sqr (sqp [.m 14 0, .m 15 5] ?_)
 refine sql (.string (e.extract m e.size)) hst2 (fun cx=>run_slice_lo (l:=m) rfl (by kernel_rfl) (cx.ou 14) (cx.ou 15) (by omega) (by omega)) ?_
 refine sqk1 (fun B17_18=>vp B17_18) (fun B17_18=>eB B17_18 164 #[.string (e.extract m e.size),vi 0, .bool false]) hst2 (fun cx=>⟨_,(oread_b (e.extract m e.size) _).mono (by rintro e W1 ⟨B4,rfl,⟨hb4,hw4⟩,hx⟩; exact ⟨_,rfl,St.one hx ⟨hb4,eB_loc _ _ _,fun k hk=>by simp [eB] at hk; subst hk; exact ⟨hw4,hb4.lt⟩⟩⟩),(map1 (cx.ou 16))⟩) fun B17_18 W18 hst18=>?_
 refine sqp [.m 6 17] ?_
 refine then_normal (wp_seq (sqr (sqp [.m 18 6] ?_)))
 refine sqkm (vi ((numS (e.extract m e.size) 0 2:Int))) 1 #[.string (e.extract m e.size),vi 2, .bool false] hst18 (fun cx=>⟨_,(num_ok _ (e.extract m e.size) 0 2 _ ⟨(cx.bi 1 rfl),by first | omega | (rw [ByteArray.size_extract]; omega),by first | omega | (rw [ByteArray.size_extract]; omega)⟩ (by omega) (by first | omega | (rw [ByteArray.size_extract]; omega))).mono (by rintro e W1 ⟨rfl,hrd,hu⟩; exact ⟨rfl,hu,hrd.1⟩),(map2 (cx.ou 18) (cx.co _))⟩) fun W21 hst21=>?_
 refine sqp [.m 7 19] ?_
 refine then_normal (wp_seq (wp_region_Y [0,0,3,0,0,16,56,55,255,511] [[],[],[],[],[],[1],[],[],[0]] [[],[],[],[],[],[2],[],[],[3]] [[],[],[],[],[],[1],[],[],[0]] [.k 20 (.string e), .k 21 (vi ((m:Int))), .c 22 (.string (e.extract 0 m)), .k 23 (vi ((numS (e.extract m e.size) 0 2:Int))), .k 24 (vp B17_18), .a 25, .c 26 (.agg #[vi ((numS (e.extract m e.size) 0 2:Int)),vi ((numS (e.extract m e.size) 2 2:Int))]), .k 2 (.string (e.extract 0 m)), .n, .k 4 (.bool true)] (fun ix σ β X=>match ix with | 0=>True | 1=>True | 2=>True | 3=>True | 4=>True | 5=>σ 25=vi ((numS (e.extract m e.size) 2 2:Int))∧X 2=eB B17_18 164 #[.string (e.extract m e.size),vi 4, .bool false] | 6=>True | 7=>True | 8=>X 3=eB B3_2 31 #[vi ((numS (e.extract m e.size) 0 2:Int)),vi ((numS (e.extract m e.size) 2 2:Int))] | _=>True) [2,3] [2,5,6,8] [(2,7,1,3),(1,9,1,2),(15,0,7,22)] hst21 ?_ ?_ ?_))
 ·exact fun ix _ _ _ _ _ _ hs hb hx h=>match ix,h with
  | 5,h=>by dsimp only; rw [← hs 25 rfl,← hx 2 rfl]; exact h
  | 8,h=>by dsimp only; rw [← hx 3 rfl]; exact h
  | 0, _ | 1, _ | 2, _ | 3, _ | 4, _ | 6, _ | 7, _ | _+9, _=>trivial
 ·refine ⟨?_,?_,?_,?_,trivial⟩
  ·exact xs4 rfl id fun cx=>run_slice_hi (l:=m) rfl (by kernel_rfl) (cx.an 0) (cx.an 1) (by omega) (by omega)
  ·refine svA fun ρ β W X cx=>?_
   refine DoesU.call (run_callF (args:=#[vp B17_18,vi 2]) rfl cx.sees rfl (by kernel_rfl) (map2 (cx.an 4) (cx.co _))) ?_
   refine (num_ok _ (e.extract m e.size) 2 2 _ ⟨(cx.bi 1 rfl),by first | omega | (rw [ByteArray.size_extract]; omega),by first | omega | (rw [ByteArray.size_extract]; omega)⟩ (by omega) (by first | omega | (rw [ByteArray.size_extract]; omega))).mono ?_
   rintro e W1 ⟨rfl,hrd,hu⟩
   refine ⟨_,rfl,post_mut (cx.init 1 _ rfl) rfl rfl hu hrd.1 (fun σ β' X' hs hb hv hx=>?_)⟩
   exact ⟨(hv 25 rfl).1.trans rfl,hx⟩
  ·exact xs4 rfl id fun cx=>run_buildL rfl (pmc (cx.an 3) (pmc (dTn (cx.an 5)).1 pmn)) (by kernel_rfl)
  ·refine svA fun ρ β W X cx=>?_
   exact dv_store (n:=2) rfl (cx.ou 3) (cx.an 6) (by kernel_rfl) (by kernel_rfl) (by kernel_rfl) cx (cx.init 0 _ rfl) rfl (nle rfl) (by kernel_rfl) rfl rfl rfl (fun σ β' X' hs hb hx=>hx)
 intro σ β X W23 hD hst23 fr hfr
 simp only [exq 2 ((dTn (hD 5 lq)).2),exq 3 ((dTn (hD 8 lq)))] at hst23
 simp only [ed 25 ((dTn (hD 5 lq)).1)] at hfr
 clear hD; subst hfr; clear σ β X
 refine then_normal (wp_ret ?_)
 refine bpr (.tuple #[.string (e.extract 0 m), .agg #[vi ((numS (e.extract m e.size) 0 2:Int)),vi ((numS (e.extract m e.size) 2 2:Int))], .bool true]) (results_3 Try.results27 rpt (rpa (hst23.blk 1 rfl) 0 2) rpt) ?_
 exact Ret.of (part_ok hm).symm hst23.ext
theorem kor_any (A:Option Addr) (c:Nat) (ls:List Int) (w:World) (hA:At w A (ls.map (Value.int .i64))) (hl:ls.length≤100000):
  Calls Try.prog 92 #[.slice A ls.length c] w (Ret (.int .i64 (orL ls)) w):=by
 go_enter Try.func92,Try.ntmps92
 have hst0:=St.start w
 refine wp_seq (sqr (sqp [.k 2 (vi 0)] ?_))
 refine then_normal (wp_seq (sqr (sqp [.k 3 (vi 0)] ?_)))
 refine then_normal (wp_seq (wp_seq (sqr (sqp [.m 6 0, .k 7 (vi ((ls.length:Int))), .k 8 (vi 0)] ?_))))
 refine then_normal (wp_block ?_)
 refine wp_loopT (fun t_ mz az W=>∃ k:Nat,k≤ls.length∧orL ls=orL (ls.drop k)∧mz=ls.length - k∧az=⟨(ovr (jv az) [(2,2,1,[]),(2,5,1,[]),(2,8,0,[vi ((k:Int))]),(0,9,8,[])] t_).toArray,[]⟩∧St w [] [] W) (ls.length - 0) ?_ ?_
 · -- the loop begins
   exact ⟨0,Nat.zero_le _,rfl,rfl,(by kernel_rfl),hst0.pk []⟩
 rintro n6 a6 W6 ⟨k,hk,hI,rfl,hj_,hst6⟩
 refine ovz hj_ fun u6_=>?_
 refine wp_seq (sqr (sqp [.k 9 (.bool (decide ((k:Int) < (ls.length:Int))))] ?_))
 refine then_normal (wp_seq (wds (fun hs8 hs8p=>?_) fun hs8 hs8p=>?_))
 ·refine wp_skip (then_normal (wp_seq (wp_block (wp_seq (sqr ?_)))))
  refine sql (.pointer (some ((ad A).add k))) hst6 (fun cx=>run_indexSl (e:=3) (m:=k) rfl (by kernel_rfl) (by kernel_rfl) (cx.ou 6) (cx.ou 8) (by omega) (by omega) (hA.ext cx.upd.to_ext) (by simp)) ?_
  refine sql (vi (ls.getD k 0)) hst6 (fun cx=>run_load1 rfl (by kernel_rfl) (cx.ou 10) (At.cellAd (hA.ext cx.upd.to_ext) (getD_int (by omega)))) ?_
  refine sqp [.m 5 11] ?_
  refine then_normal (wp_seq (sqr (sqp [.m 12 5, .m 13 3, .k 14 (.bool ((ls.getD k 0) != 0))] ?_)))
  refine then_normal (wbs (fun hs15=>?_) fun hs15=>?_)
  ·have hs15p:=bne_iff_ne.1 hs15
   refine wp_seq (sqr (sqp [.m 15 5, .m 2 15] ?_))
   refine then_normal (wp_ret (blk_ret (then_ret (then_ret (blk_ret (then_ret ?_))))))
   refine bpr (vi (ls.getD k 0)) (results_1 Try.results92 rpt) ?_
   exact Ret.of (by rw [hI,orL_drop ls k (by omega),if_pos (by omega)]) hst6.ext
  have hs15p:=bne_eq_false_iff_eq.1 hs15
  refine wp_skip (blk_normal (then_normal (sqr (sqp [sI 16 ((k:Int)+1) (by omega), .m 8 16] ?_))))
  refine then_normal ?_
  refine ⟨ls.length - ((k+1)),by omega,?_⟩
  exact ⟨(k+1),by omega,by rw [hI,orL_drop ls k (by omega),if_neg (by omega)],rfl,(by kernel_rfl),hst6.pk []⟩
 refine wp_exit (then_exit (then_exit (blk_eq (then_normal (wp_seq (sqr (sqp [.m 17 3, .m 2 17] ?_)))))))
 refine then_normal (wp_ret ?_)
 refine bpr (vi 0) (results_1 Try.results92 rpt) ?_
 exact Ret.of (by rw [hI,List.drop_of_length_le (by omega)]; rfl) hst6.ext
theorem kord1_any (s:ByteArray) (w:World) (hs:s.size≤1000000):
  Calls Try.prog 91 #[.string s] w (Ret (.tuple #[.string (okF s), .agg #[.int .i64 (opF s), .int .i64 (osF s)]]) w):=by
 go_enter Try.func91,Try.ntmps91
 have hst0:=St.start w
 refine wp_seq (sqr (sqp [.k 2 (.string ⟨#[]⟩)] ?_))
 refine sqal #[vi 0,vi 0] hst0 fun B3_2 W2 hst2=>?_
 refine then_normal (wp_seq (sqr (sqp [.m 8 0] ?_)))
 refine sqk (.tuple #[.string (qkF s), .agg #[vi (opF s),vi (osF s)], .bool (decide (4≤s.size))]) hst2 (fun cx=>⟨_,kpart_any s _ (by omega),(map1 (cx.ou 8))⟩) fun W4 hst4=>?_
 refine sqp [.m 7 9, .k 10 (.string (qkF s)), .k 11 (.agg #[vi (opF s),vi (osF s)]), .k 12 (.bool (decide (4≤s.size)))] ?_
 refine sqal #[vi 0,vi 0] hst4 fun B5_9 W9 hst9=>?_
 refine sqp [.m 4 10] ?_
 refine sqst (n:=2) 1 #[vi (opF s),vi (osF s)] hst9 fun W11 hst11=>?_
 refine sqp [.m 6 12] ?_
 refine then_normal (wp_seq (wp_seq (sqr (sqp [.m 13 6, .k 14 (.bool (!(decide (4≤s.size))))] ?_))))
 refine then_normal ?_
 rcases Bool.eq_false_or_eq_true (decide (4≤s.size)) with hs15 | hs15
 ·have hs15p:=of_decide_eq_true hs15
  refine wp_cond_false (show Act.eval _ _= .bool false from (congrArg Value.bool (by rw [hs15]; rfl))) (wp_skip (then_normal (wp_seq (wp_region_Y [0,0,1,7] [[],[1],[],[0]] [[],[],[],[2]] [[],[],[],[0]] [.k 16 (.string (qkF s)), .c 17 (.agg #[vi (opF s),vi (osF s)]), .k 2 (.string (qkF s)), .n] (fun ix σ β X=>match ix with | 0=>True | 1=>True | 2=>True | 3=>X 2=eB B3_2 31 #[vi (opF s),vi (osF s)] | _=>True) [1,2] [1,3] [(2,2,1,3),(13,0,2,15)] hst11 ?_ ?_ ?_))))
  ·exact fun ix _ _ _ _ _ _ hs hb hx h=>match ix,h with
   | 3,h=>by dsimp only; rw [← hx 2 rfl]; exact h
   | 0, _ | 1, _ | 2, _ | _+4, _=>trivial
  ·refine ⟨?_,?_,trivial⟩
   ·exact xs4 rfl id fun cx=>run_loadB (n:=2) rfl (by kernel_rfl) (by kernel_rfl) (cx.ou 5) (cx.bi 1 rfl) (nle rfl) rfl
   ·refine svA fun ρ β W X cx=>?_
    exact dv_store (n:=2) rfl (cx.ou 3) (cx.an 1) (by kernel_rfl) (by kernel_rfl) (by kernel_rfl) cx (cx.init 0 _ rfl) rfl (nle rfl) (by kernel_rfl) rfl rfl rfl (fun σ β' X' hs hb hx=>hx)
  intro σ β X W16 hD hst16 fr hfr
  simp only [exq 2 ((dTn (hD 3 lq)))] at hst16
  clear hD; subst hfr; clear σ β X
  refine then_normal (wp_ret ?_)
  refine bpr (.tuple #[.string (qkF s), .agg #[vi (opF s),vi (osF s)]]) (results_2 Try.results91 rpt (rpa (hst16.blk 1 rfl) 0 2)) ?_
  exact Ret.of (by rw [okF,qkF,if_neg (by omega),if_neg (by omega)]) hst16.ext
 have hs15p:=of_decide_eq_false hs15
 refine wp_cond_true (show Act.eval _ _= .bool true from (congrArg Value.bool (by rw [hs15]; rfl))) (sqr (sqp [.m 15 0, .m 4 15] ?_))
 refine then_normal (wp_seq (wp_region_Y [0,0,1,7] [[],[1],[],[0]] [[],[],[],[2]] [[],[],[],[0]] [.k 16 (.string s), .c 17 (.agg #[vi (opF s),vi (osF s)]), .k 2 (.string s), .n] (fun ix σ β X=>match ix with | 0=>True | 1=>True | 2=>True | 3=>X 2=eB B3_2 31 #[vi (opF s),vi (osF s)] | _=>True) [1,2] [1,3] [(2,2,1,3),(13,0,2,15)] hst11 ?_ ?_ ?_))
 ·exact fun ix _ _ _ _ _ _ hs hb hx h=>match ix,h with
  | 3,h=>by dsimp only; rw [← hx 2 rfl]; exact h
  | 0, _ | 1, _ | 2, _ | _+4, _=>trivial
 ·refine ⟨?_,?_,trivial⟩
  ·exact xs4 rfl id fun cx=>run_loadB (n:=2) rfl (by kernel_rfl) (by kernel_rfl) (cx.ou 5) (cx.bi 1 rfl) (nle rfl) rfl
  ·refine svA fun ρ β W X cx=>?_
   exact dv_store (n:=2) rfl (cx.ou 3) (cx.an 1) (by kernel_rfl) (by kernel_rfl) (by kernel_rfl) cx (cx.init 0 _ rfl) rfl (nle rfl) (by kernel_rfl) rfl rfl rfl (fun σ β' X' hs hb hx=>hx)
 intro σ β X W19 hD hst19 fr hfr
 simp only [exq 2 ((dTn (hD 3 lq)))] at hst19
 clear hD; subst hfr; clear σ β X
 refine then_normal (wp_ret ?_)
 refine bpr (.tuple #[.string s, .agg #[vi (opF s),vi (osF s)]]) (results_2 Try.results91 rpt (rpa (hst19.blk 1 rfl) 0 2)) ?_
 exact Ret.of (by rw [okF,if_pos (by omega)]) hst19.ext
theorem kord_any (a b:ByteArray) (w:World) (ha:a.size≤1000000) (hb:b.size≤1000000):
  Calls Try.prog 67 #[.string a, .string b] w (Ret (.int .i64 (ordF a b)) w):=by
 go_enter Try.func67,Try.ntmps67
 have hst0:=St.start w
 refine wp_seq (sqr (sqp [.k 4 (vi 0)] ?_))
 refine then_normal (wp_seq (sqr (sqp [.k 5 (.func (.func 91) #[] #[])] ?_)))
 refine then_normal (wp_seq (sqr (sqp [.m 11 5, .m 12 0] ?_)))
 refine sqv (.tuple #[.string (okF a), .agg #[vi (opF a),vi (osF a)]]) hst0 (sv_call rfl rfl rfl rfl rfl (fun _ _ _ h=>h) fun ρ β W X cx=>⟨_, _,run_callV (f:=91) (args:=#[.string a]) (args':=#[.string a]) rfl rfl (cx.ou 11) (by kernel_rfl) (map1 (cx.ou 12)) rfl,kord1_any a _ (by omega)⟩) fun W5 hst5=>?_
 refine sqp [.m 10 13, .k 14 (.string (okF a)), .k 15 (.agg #[vi (opF a),vi (osF a)])] ?_
 refine sqal #[vi 0,vi 0] hst5 fun B7_9 W9 hst9=>?_
 refine sqp [.m 6 14] ?_
 refine sqst (n:=2) 0 #[vi (opF a),vi (osF a)] hst9 fun W11 hst11=>?_
 refine then_normal (wp_seq (sqr (sqp [.m 17 5, .m 18 1] ?_)))
 refine sqv (.tuple #[.string (okF b), .agg #[vi (opF b),vi (osF b)]]) hst11 (sv_call rfl rfl rfl rfl rfl (fun _ _ _ h=>h) fun ρ β W X cx=>⟨_, _,run_callV (f:=91) (args:=#[.string b]) (args':=#[.string b]) rfl rfl (cx.ou 17) (by kernel_rfl) (map1 (cx.ou 18)) rfl,kord1_any b _ (by omega)⟩) fun W14 hst14=>?_
 refine sqp [.m 16 19, .k 20 (.string (okF b)), .k 21 (.agg #[vi (opF b),vi (osF b)])] ?_
 refine sqal #[vi 0,vi 0] hst14 fun B9_18 W18 hst18=>?_
 refine sqp [.m 8 20] ?_
 refine sqst (n:=2) 1 #[vi (opF b),vi (osF b)] hst18 fun W20 hst20=>?_
 refine then_normal (wp_seq (wp_region_Y [0,0,3,0,8,0,32,127,0,256,0,1024,4095,8191,16383,32767] [[],[],[],[],[0],[],[1],[],[],[0],[],[1],[],[],[2]] [[],[],[],[],[],[],[],[],[],[],[],[],[],[2]] [] [.k 22 (.string (okF a)), .k 23 (.string (okF b)), .c 24 (vi (cmpB (okF a) (okF b))), .k 25 (vp B7_9), .c 26 (vi (opF a)), .k 27 (vp B9_18), .c 28 (vi (opF b)), .c 29 (vi (cmpI (opF a) (opF b))), .k 30 (.pointer (some ⟨B7_9,1,none⟩)), .c 31 (vi (osF a)), .k 32 (.pointer (some ⟨B9_18,1,none⟩)), .c 33 (vi (osF b)), .c 34 (vi (cmpI (osF a) (osF b))), .a 35, .c 36 (vi (orL [(cmpB (okF a) (okF b)),(cmpI (opF a) (opF b)),(cmpI (osF a) (osF b))])), .k 4 (vi (orL [(cmpB (okF a) (okF b)),(cmpI (opF a) (opF b)),(cmpI (osF a) (osF b))]))] (fun ix σ β X=>match ix with | 0=>True | 1=>True | 2=>True | 3=>True | 4=>True | 5=>True | 6=>True | 7=>True | 8=>True | 9=>True | 10=>True | 11=>True | 12=>True | 13=>σ 35= .slice (sA (β 35)) 3 3∧X 2=eO 3 1 (.slice (sA (β 35)) 3 3) 3 ([vi (cmpB (okF a) (okF b)),vi (cmpI (opF a) (opF b)),vi (cmpI (osF a) (osF b))]) | _=>True) [0,1,2] [2,4,6,7,9,11,12,13,14] [(4,15,1,5),(17,0,15,32)] hst20 ?_ ?_ ?_))
 ·exact fun ix _ _ _ _ _ _ hs hb hx h=>match ix,h with
  | 13,h=>by dsimp only; rw [← hs 35 rfl,← hb 35 rfl,← hx 2 rfl]; exact h
  | 0, _ | 1, _ | 2, _ | 3, _ | 4, _ | 5, _ | 6, _ | 7, _ | 8, _ | 9, _ | 10, _ | 11, _ | 12, _ | _+14, _=>trivial
 ·refine ⟨?_,?_,?_,?_,?_,?_,?_,?_,?_,trivial⟩
  ·exact xsc rfl id rfl rfl fun cx=>⟨_,ccmps_any (okF a) (okF b) _,(map2 (cx.an 0) (cx.an 1))⟩
  ·exact xs4 rfl id fun cx=>run_load1 rfl (by kernel_rfl) (cx.an 3) ((cx.bi 0 rfl).cell 0)
  ·exact xs4 rfl id fun cx=>run_load1 rfl (by kernel_rfl) (cx.an 5) ((cx.bi 1 rfl).cell 0)
  ·exact xsc rfl id rfl rfl fun cx=>⟨_,ccmpi_any (opF a) (opF b) _,(map2 (cx.an 4) (cx.an 6))⟩
  ·exact xs4 rfl id fun cx=>run_load1 rfl (by kernel_rfl) (cx.an 8) ((cx.bi 0 rfl).cell 1)
  ·exact xs4 rfl id fun cx=>run_load1 rfl (by kernel_rfl) (cx.an 10) ((cx.bi 1 rfl).cell 1)
  ·exact xsc rfl id rfl rfl fun cx=>⟨_,ccmpi_any (osF a) (osF b) _,(map2 (cx.an 9) (cx.an 11))⟩
  ·refine svA fun ρ β W X cx=>?_
   have fF24:ρ (.tmp 24)=vi (cmpB (okF a) (okF b)):=(cx.an 2)
   have fF29:ρ (.tmp 29)=vi (cmpI (opF a) (opF b)):=(cx.an 7)
   have fF34:ρ (.tmp 34)=vi (cmpI (osF a) (osF b)):=(cx.an 12)
   exact dv_lit (e:=3) (xs:=[vi (cmpB (okF a) (okF b)),vi (cmpI (opF a) (opF b)),vi (cmpI (osF a) (osF b))]) rfl (by simp [go_sem,fF24,fF29,fF34]) rfl (by decide) rfl rfl (fun σ β' X' hs hb hv hx=>⟨hv,hx⟩)
  ·exact xsc rfl id rfl rfl fun cx=>⟨_,kor_any _ _ [(cmpB (okF a) (okF b)),(cmpI (opF a) (opF b)),(cmpI (osF a) (osF b))] _ (At.of_own (cx.row (dTn (cx.an 13)).2 rfl)) (by simp),(map1 (dTn (cx.an 13)).1)⟩
 intro σ β X W21 hD hst21 fr hfr
 obtain ⟨A35_21,hu_A35_21⟩:∃ z,sA (β 35)=z:=⟨_,rfl⟩
 simp only [exq 2 ((dTn (hD 13 lq)).2),hu_A35_21] at hst21
 simp only [ed 35 ((dTn (hD 13 lq)).1),hu_A35_21] at hfr
 clear hD hu_A35_21; subst hfr; clear σ β X
 refine then_normal (wp_ret ?_)
 refine bpr (vi (orL [(cmpB (okF a) (okF b)),(cmpI (opF a) (opF b)),(cmpI (osF a) (osF b))])) (results_1 Try.results67 rpt) ?_
 exact Ret.of (by rw [← ordF_or]) hst21.ext
theorem kless_any (a b:ByteArray) (w:World) (ha:a.size≤1000000) (hb:b.size≤1000000):
  Calls Try.prog 29 #[.string a, .string b] w (Ret (.bool (lessF a b)) w):=by
 go_enter Try.func29,Try.ntmps29
 have hst0:=St.start w
 refine wp_seq (sqr (sqp [.k 4 (.bool false)] ?_))
 refine then_normal (wp_seq (sqr (sqp [.m 5 0, .m 6 1] ?_)))
 refine sqk (vi (ordF a b)) hst0 (fun cx=>⟨_,kord_any a b _ (by omega) (by omega),(map2 (cx.ou 5) (cx.ou 6))⟩) fun W4 hst4=>?_
 refine sqp [.k 8 (.bool (decide (ordF a b < 0))), .m 4 8] ?_
 refine then_normal (wp_ret ?_)
 refine bpr (.bool (decide (ordF a b < 0))) (results_1 Try.results29 rpt) ?_
 exact Ret.bool (ordF_less a b) hst4.ext
end
section
open Go.RowKit
def byteI (l:List UInt8) (m:Nat):Int:=((l.getD m 0).toNat:Int)
theorem byteI_bd (l:List UInt8) (m:Nat):0≤byteI l m∧byteI l m < 256:=by
 have:=(l.getD m 0).toNat_lt
 unfold byteI; omega
section
variable {P:Program} {o:Oper} {ρ:Operand→Value} {W:World}
theorem run_indexS {t:TypeId} {x y:Operand} {s:ByteArray} {k:IntKind} {j:Int} {m:Nat} (h:o.op= .index t x y) (ht:P.underlying t=some .string) (hx:ρ x= .string s) (hy:ρ y= .int k j) (hj:j=(m:Int)) (hm:m < s.size):
  (execOp ρ o).run P W= .ok (.value (.int .u8 (byteI (bl s) m))) W:=by
 subst hj
 unfold execOp; rw [h]
 have h1:(0:Int)≤(m:Int):=by omega
 have h2:s[m]? =some ((bl s).getD m 0):=by
  have hm':m < s.data.size:=hm
  rw [getElem?_pos s m hm]
  simp [bl,ByteArray.getElem_eq_getElem_data]
  rw [Array.getElem?_eq_getElem hm']; rfl
 simp only [hx,hy,Instr.index,asIntOf,Sem.run_bind,Sem.run_pure,Result.andThen_ok,run_underlying ht,h1,if_true,Int.toNat_natCast,h2]
 rfl
end
theorem numS_two (e:ByteArray) (m:Nat) (h:m+2≤e.size):(numS e m 2:Int)=byteI (bl e) m*256+byteI (bl e) (m+1):=by
 have e1:numS e m 2=numL (((bl e).drop m).take 2):=by
  rw [numS,show (e.extract m (m+2)).data.toList=bl (e.extract m (m+2)) from rfl,bl_extract,Nat.add_sub_cancel_left]
 have hl:m+2≤(bl e).length:=by rw [bl_len]; exact h
 have e2:((bl e).drop m).take 2=[(bl e).getD m 0,(bl e).getD (m+1) 0]:=by
  have a1:(bl e).drop m=(bl e)[m]'(by omega)::(bl e).drop (m+1):=List.drop_eq_getElem_cons (by omega)
  have a2:(bl e).drop (m+1)=(bl e)[m+1]'(by omega)::(bl e).drop (m+1+1):=List.drop_eq_getElem_cons (by omega)
  rw [a1,List.take_succ_cons,a2,List.take_succ_cons,List.take_zero]
  simp [List.getD_eq_getElem?_getD,List.getElem?_eq_getElem (show m < (bl e).length by omega),List.getElem?_eq_getElem (show m+1 < (bl e).length by omega)]
 rw [e1,e2,numL,List.foldl_cons,List.foldl_cons,List.foldl_nil,byteI,byteI]
 omega
def rpartV (e:ByteArray):Value:= .agg #[.string (qkF e), .int .i64 (opF e), .int .i64 (osF e), .bool (decide (4≤e.size))]
theorem rpart_bad {e:ByteArray} (h:e.size < 4):rpartV e= .agg #[.string ByteArray.empty, .int .i64 0, .int .i64 0, .bool false]:=by
 rw [rpartV,qkF,opF,osF,if_pos h,if_pos h,if_pos h,decide_eq_false (by omega)]
theorem rpart_ok {e:ByteArray} {m:Nat} (h:e.size=m+4):rpartV e= .agg #[.string (e.extract 0 m), .int .i64 (byteI (bl e) m*256+byteI (bl e) (m+1)), .int .i64 (byteI (bl e) (m+2)*256+byteI (bl e) (m+3)), .bool true]:=by
 rw [rpartV,qkF,opF,osF,if_neg (by omega),if_neg (by omega),if_neg (by omega),decide_eq_true (by omega),pkF,ppF,psF,show e.size - 4=m by omega,show e.size - 2=m+2 by omega,numS_two _ _ (by omega),numS_two _ _ (by omega)]
theorem bqd (a b:ByteArray):(a.toList==b.toList)=decide (a=b):=by
 rw [Bool.eq_iff_iff,beq_iff_eq,ByteArray.toList_eq,ByteArray.toList_eq,decide_eq_true_eq]
 exact ⟨fun h=>bl_inj h,fun h=>by rw [h]⟩
theorem ok_as {a x:ByteArray} (h:a.size < 4∧x=a∨4≤a.size∧x=qkF a):okF a=x:=by
 rcases h with ⟨h,rfl⟩ | ⟨h,rfl⟩
 ·rw [okF,if_pos h]
 ·rw [okF,qkF,if_neg (by omega),if_neg (by omega)]
theorem less_1 {a b x y:ByteArray} (hx:okF a=x) (hy:okF b=y) (h:(x.toList==y.toList)=false):lessF a b=ltB x y:=by
 rw [bqd] at h
 rw [lessF_ref,hx,hy,if_pos (of_decide_eq_false h)]
theorem less_2 {a b x y:ByteArray} (hx:okF a=x) (hy:okF b=y) (h:(x.toList==y.toList)=true) (h2:opF a≠opF b):lessF a b=decide (opF a < opF b):=by
 rw [bqd] at h
 rw [lessF_ref,hx,hy,if_neg (by simpa using of_decide_eq_true h),if_pos h2]
theorem less_3 {a b x y:ByteArray} (hx:okF a=x) (hy:okF b=y) (h:(x.toList==y.toList)=true) (h2:opF a=opF b):lessF a b=decide (osF a < osF b):=by
 rw [bqd] at h
 rw [lessF_ref,hx,hy,if_neg (by simpa using of_decide_eq_true h),if_neg (by simpa using h2)]
theorem rpart_any (e:ByteArray) (w:World) (he:e.size≤1000000):
  Calls Try.prog 68 #[.string e] w (Ret (rpartV e) w):=by
 go_enter Try.func68,Try.ntmps68
 have hst0:=St.start w
 refine wp_seq (sqr (sqal #[.string ByteArray.empty,vi 0,vi 0, .bool false] hst0 fun B2_1 W1 hst1=>?_))
 refine then_normal (wp_seq (sqr (sqp [.m 4 0, .k 5 (vi ((e.size:Int))),sI 6 ((e.size:Int) - 4) (by omega), .m 3 6] ?_)))
 refine then_normal (wp_seq (wp_seq (sqr (sqp [.m 7 3, .k 8 (.bool (decide ((e.size:Int) - 4 < 0)))] ?_))))
 refine then_normal (wds (fun hs8 hs8p=>?_) fun hs8 hs8p=>?_)
 ·refine wp_seq (sqr (sqp [.k 9 (.agg #[.string ByteArray.empty,vi 0,vi 0, .bool false])] ?_))
  refine sqst (n:=4) 0 #[.string ByteArray.empty,vi 0,vi 0, .bool false] hst1 fun W10 hst10=>?_
  refine then_normal (wp_ret (then_ret ?_))
  refine bpr (.agg #[.string ByteArray.empty,vi 0,vi 0, .bool false]) (results_cell (n:=4) Try.results68 rfl (by kernel_rfl) (by kernel_rfl) (hst10.blk 0 rfl) rfl) ?_
  exact Ret.of (rpart_bad (by omega)).symm hst10.ext
 refine wp_skip (then_normal (wp_seq ?_))
 obtain ⟨m,hm⟩:∃ m:Nat,e.size=m+4:=⟨e.size - 4,by omega⟩
 obtain ⟨z,hz⟩:∃ z,(e.size:Int) - 4=z:=⟨_,rfl⟩
 rw [hz]
 obtain rfl:z=(m:Int):=by omega
 have hb0_:=byteI_bd (bl e) (m)
 have hb1_:=byteI_bd (bl e) (m+1)
 have hb2_:=byteI_bd (bl e) (m+2)
 have hb3_:=byteI_bd (bl e) (m+3)
 refine wp_region_Y [0,0,3,0,0,24,56,120,0,0,512,1792,3840,8184,0,0,32768,114688,245760,507904,0,0,2097152,7340032,15728640,33538048,67108856,134217727,268435455] [[],[],[],[],[],[],[],[],[],[],[],[],[],[],[],[],[],[],[],[],[],[],[],[],[],[],[],[],[0]] [[],[],[],[],[],[],[],[],[],[],[],[],[],[],[],[],[],[],[],[],[],[],[],[],[],[],[],[],[1]] [[],[],[],[],[],[],[],[],[],[],[],[],[],[],[],[],[],[],[],[],[],[],[],[],[],[],[],[],[0]] [.k 10 (.string e), .k 11 (vi ((m:Int))), .c 12 (.string (e.extract 0 m)), .k 13 (.string e), .k 14 (vi ((m:Int))), .c 15 (.int .u8 (byteI (bl e) m)),tW 16 .i64 (byteI (bl e) m) (byteI (bl e) m) (IntWalk.i64_in _ (by omega)),tI 17 ((byteI (bl e) m)*256) (by omega), .k 18 (.string e), .k 19 (vi ((m:Int))),tI 20 ((m:Int)+1) (by omega), .c 21 (.int .u8 (byteI (bl e) (m+1))),tW 22 .i64 (byteI (bl e) (m+1)) (byteI (bl e) (m+1)) (IntWalk.i64_in _ (by omega)),tI 23 (((byteI (bl e) m)*256)+(byteI (bl e) (m+1))) (by omega), .k 24 (.string e), .k 25 (vi ((m:Int))),tI 26 ((m:Int)+2) (by omega), .c 27 (.int .u8 (byteI (bl e) (m+2))),tW 28 .i64 (byteI (bl e) (m+2)) (byteI (bl e) (m+2)) (IntWalk.i64_in _ (by omega)),tI 29 ((byteI (bl e) (m+2))*256) (by omega), .k 30 (.string e), .k 31 (vi ((m:Int))),tI 32 ((m:Int)+3) (by omega), .c 33 (.int .u8 (byteI (bl e) (m+3))),tW 34 .i64 (byteI (bl e) (m+3)) (byteI (bl e) (m+3)) (IntWalk.i64_in _ (by omega)),tI 35 (((byteI (bl e) (m+2))*256)+(byteI (bl e) (m+3))) (by omega), .k 36 (.agg #[vi ((byteI (bl e) m)*256+(byteI (bl e) (m+1))),vi ((byteI (bl e) (m+2))*256+(byteI (bl e) (m+3)))]), .k 37 (.agg #[.string (e.extract 0 m),vi ((byteI (bl e) m)*256+(byteI (bl e) (m+1))),vi ((byteI (bl e) (m+2))*256+(byteI (bl e) (m+3))), .bool true]), .n] (fun ix σ β X=>match ix with | 0=>True | 1=>True | 2=>True | 3=>True | 4=>True | 5=>True | 6=>True | 7=>True | 8=>True | 9=>True | 10=>True | 11=>True | 12=>True | 13=>True | 14=>True | 15=>True | 16=>True | 17=>True | 18=>True | 19=>True | 20=>True | 21=>True | 22=>True | 23=>True | 24=>True | 25=>True | 26=>True | 27=>True | 28=>X 1=eB B2_1 139 #[.string (e.extract 0 m),vi ((byteI (bl e) m)*256+(byteI (bl e) (m+1))),vi ((byteI (bl e) (m+2))*256+(byteI (bl e) (m+3))), .bool true] | _=>True) [1] [2,5,11,17,23,28] [(10,0,28,38)] hst1 ?_ ?_ ?_
 ·exact fun ix _ _ _ _ _ _ hs hb hx h=>match ix,h with
  | 28,h=>by dsimp only; rw [← hx 1 rfl]; exact h
  | 0, _ | 1, _ | 2, _ | 3, _ | 4, _ | 5, _ | 6, _ | 7, _ | 8, _ | 9, _ | 10, _ | 11, _ | 12, _ | 13, _ | 14, _ | 15, _ | 16, _ | 17, _ | 18, _ | 19, _ | 20, _ | 21, _ | 22, _ | 23, _ | 24, _ | 25, _ | 26, _ | 27, _ | _+29, _=>trivial
 ·refine ⟨?_,?_,?_,?_,?_,?_,trivial⟩
  ·exact xs4 rfl id fun cx=>run_slice_hi (l:=m) rfl (by kernel_rfl) (cx.an 0) (cx.an 1) (by omega) (by omega)
  ·exact xs4 rfl id fun cx=>run_indexS (m:=m) rfl (by kernel_rfl) (cx.an 3) (cx.an 4) (by omega) (by omega)
  ·exact xs4 rfl id fun cx=>run_indexS (m:=m+1) rfl (by kernel_rfl) (cx.an 8) (cx.an 10) (by omega) (by omega)
  ·exact xs4 rfl id fun cx=>run_indexS (m:=m+2) rfl (by kernel_rfl) (cx.an 14) (cx.an 16) (by omega) (by omega)
  ·exact xs4 rfl id fun cx=>run_indexS (m:=m+3) rfl (by kernel_rfl) (cx.an 20) (cx.an 22) (by omega) (by omega)
  ·refine svA fun ρ β W X cx=>?_
   exact dv_store (n:=4) rfl (cx.ou 2) (cx.an 27) (by kernel_rfl) (by kernel_rfl) (by kernel_rfl) cx (cx.init 0 _ rfl) rfl (nle rfl) (by kernel_rfl) rfl rfl rfl (fun σ β' X' hs hb hx=>hx)
 intro σ β X W11 hD hst11 fr hfr
 simp only [exq 1 ((dTn (hD 28 lq)))] at hst11
 clear hD; subst hfr; clear σ β X
 refine then_normal (wp_ret ?_)
 refine bpr (.agg #[.string (e.extract 0 m),vi ((byteI (bl e) m)*256+(byteI (bl e) (m+1))),vi ((byteI (bl e) (m+2))*256+(byteI (bl e) (m+3))), .bool true]) (results_cell (n:=4) Try.results68 rfl (by kernel_rfl) (by kernel_rfl) (hst11.blk 0 rfl) rfl) ?_
 exact Ret.of (rpart_ok hm).symm hst11.ext
theorem rless_any (a b:ByteArray) (w:World) (ha:a.size≤1000000) (hb:b.size≤1000000):
  Calls Try.prog 30 #[.string a, .string b] w (Ret (.bool (lessF a b)) w):=by
 go_enter Try.func30,Try.ntmps30
 have hst0:=St.start w
 refine wp_seq (sqr (sqp [.k 4 (.bool false)] ?_))
 refine then_normal (wp_seq (sqr (sqp [.m 7 0] ?_)))
 refine sqk (.agg #[.string (qkF a),vi (opF a),vi (osF a), .bool (decide (4≤a.size))]) hst0 (fun cx=>⟨_,rpart_any a _ (by omega),(map1 (cx.ou 7))⟩) fun W3 hst3=>?_
 refine sqal #[.string ByteArray.empty,vi 0,vi 0, .bool false] hst3 fun B5_4 W4 hst4=>?_
 refine sqst (n:=4) 0 #[.string (qkF a),vi (opF a),vi (osF a), .bool (decide (4≤a.size))] hst4 fun W5 hst5=>?_
 refine then_normal (wp_seq (sqr (sqp [.m 9 1] ?_)))
 refine sqk (.agg #[.string (qkF b),vi (opF b),vi (osF b), .bool (decide (4≤b.size))]) hst5 (fun cx=>⟨_,rpart_any b _ (by omega),(map1 (cx.ou 9))⟩) fun W7 hst7=>?_
 refine sqal #[.string ByteArray.empty,vi 0,vi 0, .bool false] hst7 fun B6_8 W8 hst8=>?_
 refine sqst (n:=4) 1 #[.string (qkF b),vi (opF b),vi (osF b), .bool (decide (4≤b.size))] hst8 fun W9 hst9=>?_
 refine then_normal (wp_seq (wp_seq (sqr (sqp [.k 11 (.pointer (some ⟨B5_4,3,none⟩))] ?_))))
 refine sqld 0 hst9 ?_
 refine sqp [.k 13 (.bool (!(decide (4≤a.size))))] ?_
 refine then_normal ?_
 rcases Bool.eq_false_or_eq_true (decide (4≤a.size)) with hs13 | hs13
 ·have hs13p:=of_decide_eq_true hs13
  refine wp_cond_false (show Act.eval _ _= .bool false from (congrArg Value.bool (by rw [hs13]; rfl))) (wp_skip (then_normal (wp_seq (wp_seq (sqr (sqp [.k 16 (.pointer (some ⟨B6_8,3,none⟩))] ?_))))))
  refine sqld 1 hst9 ?_
  refine sqp [.k 18 (.bool (!(decide (4≤b.size))))] ?_
  refine then_normal ?_
  rcases Bool.eq_false_or_eq_true (decide (4≤b.size)) with hs17 | hs17
  ·have hs17p:=of_decide_eq_true hs17
   refine wp_cond_false (show Act.eval _ _= .bool false from (congrArg Value.bool (by rw [hs17]; rfl))) (wp_skip (then_normal (wp_seq (wp_seq (sqr (sqp [.k 21 (vp B5_4)] ?_))))))
   refine sqld 0 hst9 ?_
   refine sqp [.k 23 (vp B6_8)] ?_
   refine sqld 1 hst9 ?_
   refine sqp [.k 25 (.bool (!((qkF a).toList==(qkF b).toList)))] ?_
   refine then_normal ?_
   rcases Bool.eq_false_or_eq_true ((qkF a).toList==(qkF b).toList) with hs23 | hs23
   ·refine wp_cond_false (show Act.eval _ _= .bool false from (congrArg Value.bool (by rw [hs23]; rfl))) (wp_skip (then_normal (wp_seq (wp_seq (sqr (sqp [.k 31 (.pointer (some ⟨B5_4,1,none⟩)), .k 32 (.pointer (some ⟨B5_4,1,none⟩))] ?_))))))
    refine sqld 0 hst9 ?_
    refine sqp [.k 34 (.pointer (some ⟨B6_8,1,none⟩)), .k 35 (.pointer (some ⟨B6_8,1,none⟩))] ?_
    refine sqld 1 hst9 ?_
    refine sqp [.k 37 (.bool ((opF a) != (opF b)))] ?_
    refine then_normal (wbs (fun hs31=>?_) fun hs31=>?_)
    ·have hs31p:=bne_iff_ne.1 hs31
     refine wp_seq (sqr (sqp [.k 38 (.pointer (some ⟨B5_4,1,none⟩)), .k 39 (.pointer (some ⟨B5_4,1,none⟩))] ?_))
     refine sqld 0 hst9 ?_
     refine sqp [.k 41 (.pointer (some ⟨B6_8,1,none⟩)), .k 42 (.pointer (some ⟨B6_8,1,none⟩))] ?_
     refine sqld 1 hst9 ?_
     refine sqp [.k 44 (.bool (decide (opF a < opF b))), .m 4 44] ?_
     refine then_normal (wp_ret (then_ret ?_))
     refine bpr (.bool (decide (opF a < opF b))) (results_1 Try.results30 rpt) ?_
     exact Ret.bool (less_2 (ok_as (.inr ⟨by omega,rfl⟩)) (ok_as (.inr ⟨by omega,rfl⟩)) (by assumption) (by assumption)).symm hst9.ext
    have hs31p:=bne_eq_false_iff_eq.1 hs31
    refine wp_skip (then_normal (wp_seq (sqr (sqp [.k 45 (.pointer (some ⟨B5_4,1,none⟩)), .k 46 (.pointer (some ⟨B5_4,2,none⟩))] ?_))))
    refine sqld 0 hst9 ?_
    refine sqp [.k 48 (.pointer (some ⟨B6_8,1,none⟩)), .k 49 (.pointer (some ⟨B6_8,2,none⟩))] ?_
    refine sqld 1 hst9 ?_
    refine sqp [.k 51 (.bool (decide (osF a < osF b))), .m 4 51] ?_
    refine then_normal (wp_ret ?_)
    refine bpr (.bool (decide (osF a < osF b))) (results_1 Try.results30 rpt) ?_
    exact Ret.bool (less_3 (ok_as (.inr ⟨by omega,rfl⟩)) (ok_as (.inr ⟨by omega,rfl⟩)) (by assumption) (by assumption)).symm hst9.ext
   refine wp_cond_true (show Act.eval _ _= .bool true from (congrArg Value.bool (by rw [hs23]; rfl))) (wp_seq (sqr (sqp [.k 26 (vp B5_4)] ?_)))
   refine sqld 0 hst9 ?_
   refine sqp [.k 28 (vp B6_8)] ?_
   refine sqld 1 hst9 ?_
   refine sql (.bool (ltB (qkF a) (qkF b))) hst9 (fun cx=>run_strls rfl (cx.ou 27) (cx.ou 29)) ?_
   refine sqp [.m 4 30] ?_
   refine then_normal (wp_ret (then_ret ?_))
   refine bpr (.bool (ltB (qkF a) (qkF b))) (results_1 Try.results30 rpt) ?_
   exact Ret.bool (less_1 (ok_as (.inr ⟨by omega,rfl⟩)) (ok_as (.inr ⟨by omega,rfl⟩)) (by assumption)).symm hst9.ext
  have hs17p:=of_decide_eq_false hs17
  refine wp_cond_true (show Act.eval _ _= .bool true from (congrArg Value.bool (by rw [hs17]; rfl))) (sqr (sqp [.m 19 1, .k 20 (vp B6_8)] ?_))
  refine sqst (n:=1) 1 #[.string b,vi (opF b),vi (osF b), .bool (decide (4≤b.size))] hst9 fun W56 hst56=>?_
  refine then_normal (wp_seq (wp_seq (sqr (sqp [.k 21 (vp B5_4)] ?_))))
  refine sqld 0 hst56 ?_
  refine sqp [.k 23 (vp B6_8)] ?_
  refine sqld 1 hst56 ?_
  refine sqp [.k 25 (.bool (!((qkF a).toList==b.toList)))] ?_
  refine then_normal ?_
  rcases Bool.eq_false_or_eq_true ((qkF a).toList==b.toList) with hs62 | hs62
  ·refine wp_cond_false (show Act.eval _ _= .bool false from (congrArg Value.bool (by rw [hs62]; rfl))) (wp_skip (then_normal (wp_seq (wp_seq (sqr (sqp [.k 31 (.pointer (some ⟨B5_4,1,none⟩)), .k 32 (.pointer (some ⟨B5_4,1,none⟩))] ?_))))))
   refine sqld 0 hst56 ?_
   refine sqp [.k 34 (.pointer (some ⟨B6_8,1,none⟩)), .k 35 (.pointer (some ⟨B6_8,1,none⟩))] ?_
   refine sqld 1 hst56 ?_
   refine sqp [.k 37 (.bool ((opF a) != (opF b)))] ?_
   refine then_normal (wbs (fun hs70=>?_) fun hs70=>?_)
   ·have hs70p:=bne_iff_ne.1 hs70
    refine wp_seq (sqr (sqp [.k 38 (.pointer (some ⟨B5_4,1,none⟩)), .k 39 (.pointer (some ⟨B5_4,1,none⟩))] ?_))
    refine sqld 0 hst56 ?_
    refine sqp [.k 41 (.pointer (some ⟨B6_8,1,none⟩)), .k 42 (.pointer (some ⟨B6_8,1,none⟩))] ?_
    refine sqld 1 hst56 ?_
    refine sqp [.k 44 (.bool (decide (opF a < opF b))), .m 4 44] ?_
    refine then_normal (wp_ret (then_ret ?_))
    refine bpr (.bool (decide (opF a < opF b))) (results_1 Try.results30 rpt) ?_
    exact Ret.bool (less_2 (ok_as (.inr ⟨by omega,rfl⟩)) (ok_as (.inl ⟨by omega,rfl⟩)) (by assumption) (by assumption)).symm hst56.ext
   have hs70p:=bne_eq_false_iff_eq.1 hs70
   refine wp_skip (then_normal (wp_seq (sqr (sqp [.k 45 (.pointer (some ⟨B5_4,1,none⟩)), .k 46 (.pointer (some ⟨B5_4,2,none⟩))] ?_))))
   refine sqld 0 hst56 ?_
   refine sqp [.k 48 (.pointer (some ⟨B6_8,1,none⟩)), .k 49 (.pointer (some ⟨B6_8,2,none⟩))] ?_
   refine sqld 1 hst56 ?_
   refine sqp [.k 51 (.bool (decide (osF a < osF b))), .m 4 51] ?_
   refine then_normal (wp_ret ?_)
   refine bpr (.bool (decide (osF a < osF b))) (results_1 Try.results30 rpt) ?_
   exact Ret.bool (less_3 (ok_as (.inr ⟨by omega,rfl⟩)) (ok_as (.inl ⟨by omega,rfl⟩)) (by assumption) (by assumption)).symm hst56.ext
  refine wp_cond_true (show Act.eval _ _= .bool true from (congrArg Value.bool (by rw [hs62]; rfl))) (wp_seq (sqr (sqp [.k 26 (vp B5_4)] ?_)))
  refine sqld 0 hst56 ?_
  refine sqp [.k 28 (vp B6_8)] ?_
  refine sqld 1 hst56 ?_
  refine sql (.bool (ltB (qkF a) b)) hst56 (fun cx=>run_strls rfl (cx.ou 27) (cx.ou 29)) ?_
  refine sqp [.m 4 30] ?_
  refine then_normal (wp_ret (then_ret ?_))
  refine bpr (.bool (ltB (qkF a) b)) (results_1 Try.results30 rpt) ?_
  exact Ret.bool (less_1 (ok_as (.inr ⟨by omega,rfl⟩)) (ok_as (.inl ⟨by omega,rfl⟩)) (by assumption)).symm hst56.ext
 have hs13p:=of_decide_eq_false hs13
 refine wp_cond_true (show Act.eval _ _= .bool true from (congrArg Value.bool (by rw [hs13]; rfl))) (sqr (sqp [.m 14 0, .k 15 (vp B5_4)] ?_))
 refine sqst (n:=1) 0 #[.string a,vi (opF a),vi (osF a), .bool (decide (4≤a.size))] hst9 fun W95 hst95=>?_
 refine then_normal (wp_seq (wp_seq (sqr (sqp [.k 16 (.pointer (some ⟨B6_8,3,none⟩))] ?_))))
 refine sqld 1 hst95 ?_
 refine sqp [.k 18 (.bool (!(decide (4≤b.size))))] ?_
 refine then_normal ?_
 rcases Bool.eq_false_or_eq_true (decide (4≤b.size)) with hs99 | hs99
 ·have hs99p:=of_decide_eq_true hs99
  refine wp_cond_false (show Act.eval _ _= .bool false from (congrArg Value.bool (by rw [hs99]; rfl))) (wp_skip (then_normal (wp_seq (wp_seq (sqr (sqp [.k 21 (vp B5_4)] ?_))))))
  refine sqld 0 hst95 ?_
  refine sqp [.k 23 (vp B6_8)] ?_
  refine sqld 1 hst95 ?_
  refine sqp [.k 25 (.bool (!(a.toList==(qkF b).toList)))] ?_
  refine then_normal ?_
  rcases Bool.eq_false_or_eq_true (a.toList==(qkF b).toList) with hs105 | hs105
  ·refine wp_cond_false (show Act.eval _ _= .bool false from (congrArg Value.bool (by rw [hs105]; rfl))) (wp_skip (then_normal (wp_seq (wp_seq (sqr (sqp [.k 31 (.pointer (some ⟨B5_4,1,none⟩)), .k 32 (.pointer (some ⟨B5_4,1,none⟩))] ?_))))))
   refine sqld 0 hst95 ?_
   refine sqp [.k 34 (.pointer (some ⟨B6_8,1,none⟩)), .k 35 (.pointer (some ⟨B6_8,1,none⟩))] ?_
   refine sqld 1 hst95 ?_
   refine sqp [.k 37 (.bool ((opF a) != (opF b)))] ?_
   refine then_normal (wbs (fun hs113=>?_) fun hs113=>?_)
   ·have hs113p:=bne_iff_ne.1 hs113
    refine wp_seq (sqr (sqp [.k 38 (.pointer (some ⟨B5_4,1,none⟩)), .k 39 (.pointer (some ⟨B5_4,1,none⟩))] ?_))
    refine sqld 0 hst95 ?_
    refine sqp [.k 41 (.pointer (some ⟨B6_8,1,none⟩)), .k 42 (.pointer (some ⟨B6_8,1,none⟩))] ?_
    refine sqld 1 hst95 ?_
    refine sqp [.k 44 (.bool (decide (opF a < opF b))), .m 4 44] ?_
    refine then_normal (wp_ret (then_ret ?_))
    refine bpr (.bool (decide (opF a < opF b))) (results_1 Try.results30 rpt) ?_
    exact Ret.bool (less_2 (ok_as (.inl ⟨by omega,rfl⟩)) (ok_as (.inr ⟨by omega,rfl⟩)) (by assumption) (by assumption)).symm hst95.ext
   have hs113p:=bne_eq_false_iff_eq.1 hs113
   refine wp_skip (then_normal (wp_seq (sqr (sqp [.k 45 (.pointer (some ⟨B5_4,1,none⟩)), .k 46 (.pointer (some ⟨B5_4,2,none⟩))] ?_))))
   refine sqld 0 hst95 ?_
   refine sqp [.k 48 (.pointer (some ⟨B6_8,1,none⟩)), .k 49 (.pointer (some ⟨B6_8,2,none⟩))] ?_
   refine sqld 1 hst95 ?_
   refine sqp [.k 51 (.bool (decide (osF a < osF b))), .m 4 51] ?_
   refine then_normal (wp_ret ?_)
   refine bpr (.bool (decide (osF a < osF b))) (results_1 Try.results30 rpt) ?_
   exact Ret.bool (less_3 (ok_as (.inl ⟨by omega,rfl⟩)) (ok_as (.inr ⟨by omega,rfl⟩)) (by assumption) (by assumption)).symm hst95.ext
  refine wp_cond_true (show Act.eval _ _= .bool true from (congrArg Value.bool (by rw [hs105]; rfl))) (wp_seq (sqr (sqp [.k 26 (vp B5_4)] ?_)))
  refine sqld 0 hst95 ?_
  refine sqp [.k 28 (vp B6_8)] ?_
  refine sqld 1 hst95 ?_
  refine sql (.bool (ltB a (qkF b))) hst95 (fun cx=>run_strls rfl (cx.ou 27) (cx.ou 29)) ?_
  refine sqp [.m 4 30] ?_
  refine then_normal (wp_ret (then_ret ?_))
  refine bpr (.bool (ltB a (qkF b))) (results_1 Try.results30 rpt) ?_
  exact Ret.bool (less_1 (ok_as (.inl ⟨by omega,rfl⟩)) (ok_as (.inr ⟨by omega,rfl⟩)) (by assumption)).symm hst95.ext
 have hs99p:=of_decide_eq_false hs99
 refine wp_cond_true (show Act.eval _ _= .bool true from (congrArg Value.bool (by rw [hs99]; rfl))) (sqr (sqp [.m 19 1, .k 20 (vp B6_8)] ?_))
 refine sqst (n:=1) 1 #[.string b,vi (opF b),vi (osF b), .bool (decide (4≤b.size))] hst95 fun W138 hst138=>?_
 refine then_normal (wp_seq (wp_seq (sqr (sqp [.k 21 (vp B5_4)] ?_))))
 refine sqld 0 hst138 ?_
 refine sqp [.k 23 (vp B6_8)] ?_
 refine sqld 1 hst138 ?_
 refine sqp [.k 25 (.bool (!(a.toList==b.toList)))] ?_
 refine then_normal ?_
 rcases Bool.eq_false_or_eq_true (a.toList==b.toList) with hs144 | hs144
 ·refine wp_cond_false (show Act.eval _ _= .bool false from (congrArg Value.bool (by rw [hs144]; rfl))) (wp_skip (then_normal (wp_seq (wp_seq (sqr (sqp [.k 31 (.pointer (some ⟨B5_4,1,none⟩)), .k 32 (.pointer (some ⟨B5_4,1,none⟩))] ?_))))))
  refine sqld 0 hst138 ?_
  refine sqp [.k 34 (.pointer (some ⟨B6_8,1,none⟩)), .k 35 (.pointer (some ⟨B6_8,1,none⟩))] ?_
  refine sqld 1 hst138 ?_
  refine sqp [.k 37 (.bool ((opF a) != (opF b)))] ?_
  refine then_normal (wbs (fun hs152=>?_) fun hs152=>?_)
  ·have hs152p:=bne_iff_ne.1 hs152
   refine wp_seq (sqr (sqp [.k 38 (.pointer (some ⟨B5_4,1,none⟩)), .k 39 (.pointer (some ⟨B5_4,1,none⟩))] ?_))
   refine sqld 0 hst138 ?_
   refine sqp [.k 41 (.pointer (some ⟨B6_8,1,none⟩)), .k 42 (.pointer (some ⟨B6_8,1,none⟩))] ?_
   refine sqld 1 hst138 ?_
   refine sqp [.k 44 (.bool (decide (opF a < opF b))), .m 4 44] ?_
   refine then_normal (wp_ret (then_ret ?_))
   refine bpr (.bool (decide (opF a < opF b))) (results_1 Try.results30 rpt) ?_
   exact Ret.bool (less_2 (ok_as (.inl ⟨by omega,rfl⟩)) (ok_as (.inl ⟨by omega,rfl⟩)) (by assumption) (by assumption)).symm hst138.ext
  have hs152p:=bne_eq_false_iff_eq.1 hs152
  refine wp_skip (then_normal (wp_seq (sqr (sqp [.k 45 (.pointer (some ⟨B5_4,1,none⟩)), .k 46 (.pointer (some ⟨B5_4,2,none⟩))] ?_))))
  refine sqld 0 hst138 ?_
  refine sqp [.k 48 (.pointer (some ⟨B6_8,1,none⟩)), .k 49 (.pointer (some ⟨B6_8,2,none⟩))] ?_
  refine sqld 1 hst138 ?_
  refine sqp [.k 51 (.bool (decide (osF a < osF b))), .m 4 51] ?_
  refine then_normal (wp_ret ?_)
  refine bpr (.bool (decide (osF a < osF b))) (results_1 Try.results30 rpt) ?_
  exact Ret.bool (less_3 (ok_as (.inl ⟨by omega,rfl⟩)) (ok_as (.inl ⟨by omega,rfl⟩)) (by assumption) (by assumption)).symm hst138.ext
 refine wp_cond_true (show Act.eval _ _= .bool true from (congrArg Value.bool (by rw [hs144]; rfl))) (wp_seq (sqr (sqp [.k 26 (vp B5_4)] ?_)))
 refine sqld 0 hst138 ?_
 refine sqp [.k 28 (vp B6_8)] ?_
 refine sqld 1 hst138 ?_
 refine sql (.bool (ltB a b)) hst138 (fun cx=>run_strls rfl (cx.ou 27) (cx.ou 29)) ?_
 refine sqp [.m 4 30] ?_
 refine then_normal (wp_ret (then_ret ?_))
 refine bpr (.bool (ltB a b)) (results_1 Try.results30 rpt) ?_
 exact Ret.bool (less_1 (ok_as (.inl ⟨by omega,rfl⟩)) (ok_as (.inl ⟨by omega,rfl⟩)) (by assumption)).symm hst138.ext
end
section
open Go.RowKit
theorem two_sz (a b:Int):(strOfNums [a,b]).size=2:=by simp [strOfNums,ByteArray.size]
/-- a node's header -/
def hdB (lv right:Int) (dead:Bool) (high:ByteArray):ByteArray:=(strOfNums [lv,if dead then 1 else 0]++twoB (right+1))++high
/-- an entry as it is stored -/
def itB (lv kid:Int) (e:ByteArray):ByteArray:=if 0 < lv then e++twoB kid else e
/-- does a node send x on -/
def sndB (dead:Bool) (high x:ByteArray):Bool:=dead||(!(high.toList==(⟨#[]⟩:ByteArray).toList)&&!lessF x high)
theorem khead_any (pg lv rt fr:Int) (hi:ByteArray) (dead:Bool) (EA:Option Addr) (en ec:Nat) (w:World) (hlv:0≤lv∧lv≤255) (hrt: -1≤rt∧rt≤1000000) (hh:hi.size≤1000000):
  Calls Try.prog 79 #[.agg #[.int .i64 pg, .int .i64 lv, .int .i64 rt, .string hi, .bool dead, .slice EA en ec, .int .i64 fr]] w (Ret (.string (hdB lv rt dead hi)) w):=by
 go_enter Try.func79,Try.ntmps79
 have hst0:=St.start w
 refine wp_seq (sqr ?_)
 refine sqbx #[vi pg,vi lv,vi rt, .string hi, .bool dead, .slice EA en ec,vi fr] hst0 fun B1_1 W1 hst1=>?_
 refine sqp [.k 2 (.string ⟨#[]⟩)] ?_
 refine then_normal (wp_seq (sqr (sqp [.k 3 (vi 0)] ?_)))
 refine then_normal (wp_seq (wp_seq (sqr (sqp [.k 4 (.pointer (some ⟨B1_1,4,none⟩))] ?_))))
 refine sqld 0 hst1 ?_
 refine then_normal (wbs (fun hs6=>?_) fun hs6=>?_)
 ·refine sqr (sqp [.k 3 (vi 1)] ?_)
  refine then_normal (wp_seq (wp_region_Y [0,1,3,0,8,31,63,0,128,384,896,2047,0,4096,16383,32767] [[],[0],[],[],[],[],[1],[],[0],[],[],[],[],[0]] [[],[],[],[],[],[1]] [] [.k 6 (.pointer (some ⟨B1_1,1,none⟩)), .c 7 (vi lv),tW 8 .u8 lv lv (IntWalk.u8_in _ (by omega)), .k 9 (vi 1),tW 10 .u8 1 1 (by decide), .a 11, .c 12 (.string (strOfNums ([lv,1]))), .k 13 (.pointer (some ⟨B1_1,2,none⟩)), .c 14 (vi rt),tI 15 (rt+1) (by omega), .c 16 (.string (twoB (rt+1))),tS 17 (strOfNums ([lv,1])) (twoB (rt+1)) (by (try simp only [ByteArray.size_append,twoB_size,two_sz]); omega), .k 18 (.pointer (some ⟨B1_1,3,none⟩)), .c 19 (.string hi),tS 20 ((strOfNums ([lv,1]))++(twoB (rt+1))) hi (by (try simp only [ByteArray.size_append,twoB_size,two_sz]); omega), .k 2 (.string (((strOfNums ([lv,1]))++(twoB (rt+1)))++hi))] (fun ix σ β X=>match ix with | 0=>True | 1=>True | 2=>True | 3=>True | 4=>True | 5=>σ 11= .slice (sA (β 11)) 2 2∧X 1=eO 5 1 (.slice (sA (β 11)) 2 2) 2 ([.int .u8 lv, .int .u8 1]) | _=>True) [0,1] [1,5,6,8,10,13] [(2,15,1,3),(3,0,15,18)] hst1 ?_ ?_ ?_))
  ·exact fun ix _ _ _ _ _ _ hs hb hx h=>match ix,h with
   | 5,h=>by dsimp only; rw [← hs 11 rfl,← hb 11 rfl,← hx 1 rfl]; exact h
   | 0, _ | 1, _ | 2, _ | 3, _ | 4, _ | _+6, _=>trivial
  ·refine ⟨?_,?_,?_,?_,?_,?_,trivial⟩
   ·exact xs4 rfl id fun cx=>run_load1 rfl (by kernel_rfl) (cx.an 0) ((cx.bi 0 rfl).cell 1)
   ·refine svA fun ρ β W X cx=>?_
    have fF8:ρ (.tmp 8)= .int .u8 lv:=(cx.an 2)
    have fF10:ρ (.tmp 10)= .int .u8 1:=(cx.an 4)
    exact dv_lit (e:=5) (xs:=[.int .u8 lv, .int .u8 1]) rfl (by simp [go_sem,fF8,fF10]) rfl (by decide) rfl rfl (fun σ β' X' hs hb hv hx=>⟨hv,hx⟩)
   ·exact xs4 rfl id fun cx=>run_convB (e:=5) rfl (by kernel_rfl) (by kernel_rfl) (by kernel_rfl) (dTn (cx.an 5)).1 (cx.row (dTn (cx.an 5)).2 rfl)
   ·exact xs4 rfl id fun cx=>run_load1 rfl (by kernel_rfl) (cx.an 7) ((cx.bi 0 rfl).cell 2)
   ·exact xsc rfl id rfl rfl fun cx=>⟨_,knum_any (rt+1) _,(map1 (cx.an 9))⟩
   ·exact xs4 rfl id fun cx=>run_load1 rfl (by kernel_rfl) (cx.an 12) ((cx.bi 0 rfl).cell 3)
  intro σ β X W8 hD hst8 fr hfr
  obtain ⟨A11_8,hu_A11_8⟩:∃ z,sA (β 11)=z:=⟨_,rfl⟩
  simp only [exq 1 ((dTn (hD 5 lq)).2),hu_A11_8] at hst8
  simp only [ed 11 ((dTn (hD 5 lq)).1),hu_A11_8] at hfr
  clear hD hu_A11_8; subst hfr; clear σ β X
  refine then_normal (wp_ret ?_)
  refine bpr (.string (((strOfNums ([lv,1]))++(twoB (rt+1)))++hi)) (results_1 Try.results79 rpt) ?_
  exact Ret.of (by simp [hdB, *]) hst8.ext
 refine wp_skip (then_normal (wp_seq (wp_region_Y [0,1,3,0,8,31,63,0,128,384,896,2047,0,4096,16383,32767] [[],[0],[],[],[],[],[1],[],[0],[],[],[],[],[0]] [[],[],[],[],[],[1]] [] [.k 6 (.pointer (some ⟨B1_1,1,none⟩)), .c 7 (vi lv),tW 8 .u8 lv lv (IntWalk.u8_in _ (by omega)), .k 9 (vi 0),tW 10 .u8 0 0 (by decide), .a 11, .c 12 (.string (strOfNums ([lv,0]))), .k 13 (.pointer (some ⟨B1_1,2,none⟩)), .c 14 (vi rt),tI 15 (rt+1) (by omega), .c 16 (.string (twoB (rt+1))),tS 17 (strOfNums ([lv,0])) (twoB (rt+1)) (by (try simp only [ByteArray.size_append,twoB_size,two_sz]); omega), .k 18 (.pointer (some ⟨B1_1,3,none⟩)), .c 19 (.string hi),tS 20 ((strOfNums ([lv,0]))++(twoB (rt+1))) hi (by (try simp only [ByteArray.size_append,twoB_size,two_sz]); omega), .k 2 (.string (((strOfNums ([lv,0]))++(twoB (rt+1)))++hi))] (fun ix σ β X=>match ix with | 0=>True | 1=>True | 2=>True | 3=>True | 4=>True | 5=>σ 11= .slice (sA (β 11)) 2 2∧X 1=eO 5 1 (.slice (sA (β 11)) 2 2) 2 ([.int .u8 lv, .int .u8 0]) | _=>True) [0,1] [1,5,6,8,10,13] [(2,15,1,3),(3,0,15,18)] hst1 ?_ ?_ ?_)))
 ·exact fun ix _ _ _ _ _ _ hs hb hx h=>match ix,h with
  | 5,h=>by dsimp only; rw [← hs 11 rfl,← hb 11 rfl,← hx 1 rfl]; exact h
  | 0, _ | 1, _ | 2, _ | 3, _ | 4, _ | _+6, _=>trivial
 ·refine ⟨?_,?_,?_,?_,?_,?_,trivial⟩
  ·exact xs4 rfl id fun cx=>run_load1 rfl (by kernel_rfl) (cx.an 0) ((cx.bi 0 rfl).cell 1)
  ·refine svA fun ρ β W X cx=>?_
   have fF8:ρ (.tmp 8)= .int .u8 lv:=(cx.an 2)
   have fF10:ρ (.tmp 10)= .int .u8 0:=(cx.an 4)
   exact dv_lit (e:=5) (xs:=[.int .u8 lv, .int .u8 0]) rfl (by simp [go_sem,fF8,fF10]) rfl (by decide) rfl rfl (fun σ β' X' hs hb hv hx=>⟨hv,hx⟩)
  ·exact xs4 rfl id fun cx=>run_convB (e:=5) rfl (by kernel_rfl) (by kernel_rfl) (by kernel_rfl) (dTn (cx.an 5)).1 (cx.row (dTn (cx.an 5)).2 rfl)
  ·exact xs4 rfl id fun cx=>run_load1 rfl (by kernel_rfl) (cx.an 7) ((cx.bi 0 rfl).cell 2)
  ·exact xsc rfl id rfl rfl fun cx=>⟨_,knum_any (rt+1) _,(map1 (cx.an 9))⟩
  ·exact xs4 rfl id fun cx=>run_load1 rfl (by kernel_rfl) (cx.an 12) ((cx.bi 0 rfl).cell 3)
 intro σ β X W9 hD hst9 fr hfr
 obtain ⟨A11_9,hu_A11_9⟩:∃ z,sA (β 11)=z:=⟨_,rfl⟩
 simp only [exq 1 ((dTn (hD 5 lq)).2),hu_A11_9] at hst9
 simp only [ed 11 ((dTn (hD 5 lq)).1),hu_A11_9] at hfr
 clear hD hu_A11_9; subst hfr; clear σ β X
 refine then_normal (wp_ret ?_)
 refine bpr (.string (((strOfNums ([lv,0]))++(twoB (rt+1)))++hi)) (results_1 Try.results79 rpt) ?_
 exact Ret.of (by simp [hdB, *]) hst9.ext
theorem rhead_any (lv rt:Int) (hi:ByteArray) (ok dead:Bool) (EA SA KA:Option Addr) (en ec sn sc kn kc:Nat) (w:World) (hlv:0≤lv∧lv≤255) (hrt: -1≤rt∧rt≤1000000) (hh:hi.size≤1000000):
  Calls Try.prog 86 #[.agg #[.bool ok, .bool dead, .int .i64 lv, .int .i64 rt, .string hi, .slice EA en ec, .slice SA sn sc, .slice KA kn kc]] w (Ret (.string (hdB lv rt dead hi)) w):=by
 go_enter Try.func86,Try.ntmps86
 have hst0:=St.start w
 refine wp_seq (sqr ?_)
 refine sqbx #[.bool ok, .bool dead,vi lv,vi rt, .string hi, .slice EA en ec, .slice SA sn sc, .slice KA kn kc] hst0 fun B1_1 W1 hst1=>?_
 refine sqp [.k 2 (.string ⟨#[]⟩)] ?_
 refine then_normal (wp_seq (sqr (sqp [.k 3 (vi 0)] ?_)))
 refine then_normal (wp_seq (wp_seq (sqr (sqp [.k 4 (.pointer (some ⟨B1_1,1,none⟩))] ?_))))
 refine sqld 0 hst1 ?_
 refine then_normal (wbs (fun hs6=>?_) fun hs6=>?_)
 ·refine sqr (sqp [.k 3 (vi 1)] ?_)
  refine then_normal (wp_seq (wp_region_Y [0,1,3,0,8,31,63,0,128,384,896,2047,0,4096,16383,32767] [[],[0],[],[],[],[],[1],[],[0],[],[],[],[],[0]] [[],[],[],[],[],[1]] [] [.k 6 (.pointer (some ⟨B1_1,2,none⟩)), .c 7 (vi lv),tW 8 .u8 lv lv (IntWalk.u8_in _ (by omega)), .k 9 (vi 1),tW 10 .u8 1 1 (by decide), .a 11, .c 12 (.string (strOfNums ([lv,1]))), .k 13 (.pointer (some ⟨B1_1,3,none⟩)), .c 14 (vi rt),tI 15 (rt+1) (by omega), .c 16 (.string (twoB (rt+1))),tS 17 (strOfNums ([lv,1])) (twoB (rt+1)) (by (try simp only [ByteArray.size_append,twoB_size,two_sz]); omega), .k 18 (.pointer (some ⟨B1_1,4,none⟩)), .c 19 (.string hi),tS 20 ((strOfNums ([lv,1]))++(twoB (rt+1))) hi (by (try simp only [ByteArray.size_append,twoB_size,two_sz]); omega), .k 2 (.string (((strOfNums ([lv,1]))++(twoB (rt+1)))++hi))] (fun ix σ β X=>match ix with | 0=>True | 1=>True | 2=>True | 3=>True | 4=>True | 5=>σ 11= .slice (sA (β 11)) 2 2∧X 1=eO 5 1 (.slice (sA (β 11)) 2 2) 2 ([.int .u8 lv, .int .u8 1]) | _=>True) [0,1] [1,5,6,8,10,13] [(2,15,1,3),(3,0,15,18)] hst1 ?_ ?_ ?_))
  ·exact fun ix _ _ _ _ _ _ hs hb hx h=>match ix,h with
   | 5,h=>by dsimp only; rw [← hs 11 rfl,← hb 11 rfl,← hx 1 rfl]; exact h
   | 0, _ | 1, _ | 2, _ | 3, _ | 4, _ | _+6, _=>trivial
  ·refine ⟨?_,?_,?_,?_,?_,?_,trivial⟩
   ·exact xs4 rfl id fun cx=>run_load1 rfl (by kernel_rfl) (cx.an 0) ((cx.bi 0 rfl).cell 2)
   ·refine svA fun ρ β W X cx=>?_
    have fF8:ρ (.tmp 8)= .int .u8 lv:=(cx.an 2)
    have fF10:ρ (.tmp 10)= .int .u8 1:=(cx.an 4)
    exact dv_lit (e:=5) (xs:=[.int .u8 lv, .int .u8 1]) rfl (by simp [go_sem,fF8,fF10]) rfl (by decide) rfl rfl (fun σ β' X' hs hb hv hx=>⟨hv,hx⟩)
   ·exact xs4 rfl id fun cx=>run_convB (e:=5) rfl (by kernel_rfl) (by kernel_rfl) (by kernel_rfl) (dTn (cx.an 5)).1 (cx.row (dTn (cx.an 5)).2 rfl)
   ·exact xs4 rfl id fun cx=>run_load1 rfl (by kernel_rfl) (cx.an 7) ((cx.bi 0 rfl).cell 3)
   ·exact xsc rfl id rfl rfl fun cx=>⟨_,rtwo_any (rt+1) _,(map1 (cx.an 9))⟩
   ·exact xs4 rfl id fun cx=>run_load1 rfl (by kernel_rfl) (cx.an 12) ((cx.bi 0 rfl).cell 4)
  intro σ β X W8 hD hst8 fr hfr
  obtain ⟨A11_8,hu_A11_8⟩:∃ z,sA (β 11)=z:=⟨_,rfl⟩
  simp only [exq 1 ((dTn (hD 5 lq)).2),hu_A11_8] at hst8
  simp only [ed 11 ((dTn (hD 5 lq)).1),hu_A11_8] at hfr
  clear hD hu_A11_8; subst hfr; clear σ β X
  refine then_normal (wp_ret ?_)
  refine bpr (.string (((strOfNums ([lv,1]))++(twoB (rt+1)))++hi)) (results_1 Try.results86 rpt) ?_
  exact Ret.of (by simp [hdB, *]) hst8.ext
 refine wp_skip (then_normal (wp_seq (wp_region_Y [0,1,3,0,8,31,63,0,128,384,896,2047,0,4096,16383,32767] [[],[0],[],[],[],[],[1],[],[0],[],[],[],[],[0]] [[],[],[],[],[],[1]] [] [.k 6 (.pointer (some ⟨B1_1,2,none⟩)), .c 7 (vi lv),tW 8 .u8 lv lv (IntWalk.u8_in _ (by omega)), .k 9 (vi 0),tW 10 .u8 0 0 (by decide), .a 11, .c 12 (.string (strOfNums ([lv,0]))), .k 13 (.pointer (some ⟨B1_1,3,none⟩)), .c 14 (vi rt),tI 15 (rt+1) (by omega), .c 16 (.string (twoB (rt+1))),tS 17 (strOfNums ([lv,0])) (twoB (rt+1)) (by (try simp only [ByteArray.size_append,twoB_size,two_sz]); omega), .k 18 (.pointer (some ⟨B1_1,4,none⟩)), .c 19 (.string hi),tS 20 ((strOfNums ([lv,0]))++(twoB (rt+1))) hi (by (try simp only [ByteArray.size_append,twoB_size,two_sz]); omega), .k 2 (.string (((strOfNums ([lv,0]))++(twoB (rt+1)))++hi))] (fun ix σ β X=>match ix with | 0=>True | 1=>True | 2=>True | 3=>True | 4=>True | 5=>σ 11= .slice (sA (β 11)) 2 2∧X 1=eO 5 1 (.slice (sA (β 11)) 2 2) 2 ([.int .u8 lv, .int .u8 0]) | _=>True) [0,1] [1,5,6,8,10,13] [(2,15,1,3),(3,0,15,18)] hst1 ?_ ?_ ?_)))
 ·exact fun ix _ _ _ _ _ _ hs hb hx h=>match ix,h with
  | 5,h=>by dsimp only; rw [← hs 11 rfl,← hb 11 rfl,← hx 1 rfl]; exact h
  | 0, _ | 1, _ | 2, _ | 3, _ | 4, _ | _+6, _=>trivial
 ·refine ⟨?_,?_,?_,?_,?_,?_,trivial⟩
  ·exact xs4 rfl id fun cx=>run_load1 rfl (by kernel_rfl) (cx.an 0) ((cx.bi 0 rfl).cell 2)
  ·refine svA fun ρ β W X cx=>?_
   have fF8:ρ (.tmp 8)= .int .u8 lv:=(cx.an 2)
   have fF10:ρ (.tmp 10)= .int .u8 0:=(cx.an 4)
   exact dv_lit (e:=5) (xs:=[.int .u8 lv, .int .u8 0]) rfl (by simp [go_sem,fF8,fF10]) rfl (by decide) rfl rfl (fun σ β' X' hs hb hv hx=>⟨hv,hx⟩)
  ·exact xs4 rfl id fun cx=>run_convB (e:=5) rfl (by kernel_rfl) (by kernel_rfl) (by kernel_rfl) (dTn (cx.an 5)).1 (cx.row (dTn (cx.an 5)).2 rfl)
  ·exact xs4 rfl id fun cx=>run_load1 rfl (by kernel_rfl) (cx.an 7) ((cx.bi 0 rfl).cell 3)
  ·exact xsc rfl id rfl rfl fun cx=>⟨_,rtwo_any (rt+1) _,(map1 (cx.an 9))⟩
  ·exact xs4 rfl id fun cx=>run_load1 rfl (by kernel_rfl) (cx.an 12) ((cx.bi 0 rfl).cell 4)
 intro σ β X W9 hD hst9 fr hfr
 obtain ⟨A11_9,hu_A11_9⟩:∃ z,sA (β 11)=z:=⟨_,rfl⟩
 simp only [exq 1 ((dTn (hD 5 lq)).2),hu_A11_9] at hst9
 simp only [ed 11 ((dTn (hD 5 lq)).1),hu_A11_9] at hfr
 clear hD hu_A11_9; subst hfr; clear σ β X
 refine then_normal (wp_ret ?_)
 refine bpr (.string (((strOfNums ([lv,0]))++(twoB (rt+1)))++hi)) (results_1 Try.results86 rpt) ?_
 exact Ret.of (by simp [hdB, *]) hst9.ext
theorem kitem_any (pg lv rt fr:Int) (hi:ByteArray) (dead:Bool) (EA:Option Addr) (en ec:Nat) (e:ByteArray) (sl kid:Int) (w:World) (he:e.size≤1000000):
  Calls Try.prog 78 #[.agg #[.int .i64 pg, .int .i64 lv, .int .i64 rt, .string hi, .bool dead, .slice EA en ec, .int .i64 fr], .agg #[.string e, .int .i64 sl, .int .i64 kid]] w (Ret (.string (itB lv kid e)) w):=by
 go_enter Try.func78,Try.ntmps78
 have hst0:=St.start w
 refine wp_seq (sqr ?_)
 refine sqbx #[vi pg,vi lv,vi rt, .string hi, .bool dead, .slice EA en ec,vi fr] hst0 fun B2_1 W1 hst1=>?_
 refine sqbx #[.string e,vi sl,vi kid] hst1 fun B3_2 W2 hst2=>?_
 refine sqp [.k 4 (.string ⟨#[]⟩)] ?_
 refine then_normal (wp_seq (wp_seq (sqr (sqp [.k 5 (.pointer (some ⟨B2_1,1,none⟩))] ?_))))
 refine sqld 0 hst2 ?_
 refine sqp [.k 7 (.bool (decide (0 < lv)))] ?_
 refine then_normal (wds (fun hs7 hs7p=>?_) fun hs7 hs7p=>?_)
 ·refine wp_seq (wp_region_Z [0,1,0,4,12,31,63] [[],[1],[],[1]] [.k 8 (vp B3_2), .c 9 (.string e), .k 10 (.pointer (some ⟨B3_2,2,none⟩)), .c 11 (vi kid), .c 12 (.string (twoB kid)),tS 13 e (twoB kid) (by (try simp only [ByteArray.size_append,twoB_size,two_sz]); omega), .k 4 (.string (e++(twoB kid)))] [0,1] [1,3,4] [(4,6,1,5),(3,0,6,9)] hst2 ?_ fun W8 hst8=>?_)
  ·refine ⟨?_,?_,?_,trivial⟩
   ·exact xs4 rfl id fun cx=>run_load1 rfl (by kernel_rfl) (cx.an 0) ((cx.bi 1 rfl).cell 0)
   ·exact xs4 rfl id fun cx=>run_load1 rfl (by kernel_rfl) (cx.an 2) ((cx.bi 1 rfl).cell 2)
   ·exact xsc rfl id rfl rfl fun cx=>⟨_,knum_any kid _,(map1 (cx.an 3))⟩
  refine then_normal (wp_ret (then_ret ?_))
  refine bpr (.string (e++(twoB kid))) (results_1 Try.results78 rpt) ?_
  exact Ret.of (by simp [itB, *]) hst8.ext
 refine wp_skip (then_normal (wp_seq (sqr (sqp [.k 14 (vp B3_2)] ?_))))
 refine sqld 1 hst2 ?_
 refine sqp [.m 4 15] ?_
 refine then_normal (wp_ret ?_)
 refine bpr (.string e) (results_1 Try.results78 rpt) ?_
 exact Ret.of (by simp [itB, *]) hst2.ext
theorem ritem_any (e:ByteArray) (lv kid:Int) (w:World) (he:e.size≤1000000):
  Calls Try.prog 60 #[.string e, .int .i64 lv, .int .i64 kid] w (Ret (.string (itB lv kid e)) w):=by
 go_enter Try.func60,Try.ntmps60
 have hst0:=St.start w
 refine wp_seq (sqr (sqp [.k 6 (.string ⟨#[]⟩)] ?_))
 refine then_normal (wp_seq (wp_seq (sqr (sqp [.m 7 1, .k 8 (.bool (decide (0 < lv)))] ?_))))
 refine then_normal (wds (fun hs4 hs4p=>?_) fun hs4 hs4p=>?_)
 ·refine wp_seq (sqr (sqp [.m 9 0, .m 10 2] ?_))
  refine sqk (.string (twoB kid)) hst0 (fun cx=>⟨_,rtwo_any kid _,(map1 (cx.ou 10))⟩) fun W7 hst7=>?_
  refine sqp [sS 12 e (twoB kid) (by (try simp only [ByteArray.size_append,twoB_size,two_sz]); omega), .m 6 12] ?_
  refine then_normal (wp_ret (then_ret ?_))
  refine bpr (.string (e++(twoB kid))) (results_1 Try.results60 rpt) ?_
  exact Ret.of (by simp [itB, *]) hst7.ext
 refine wp_skip (then_normal (wp_seq (sqr (sqp [.m 13 0, .m 6 13] ?_))))
 refine then_normal (wp_ret ?_)
 refine bpr (.string e) (results_1 Try.results60 rpt) ?_
 exact Ret.of (by simp [itB, *]) hst0.ext
theorem ksends_any (pg lv rt fr:Int) (hi:ByteArray) (dead:Bool) (EA:Option Addr) (en ec:Nat) (x:ByteArray) (w:World) (hh:hi.size≤1000000) (hx:x.size≤1000000):
  Calls Try.prog 49 #[.agg #[.int .i64 pg, .int .i64 lv, .int .i64 rt, .string hi, .bool dead, .slice EA en ec, .int .i64 fr], .string x] w (Ret (.bool (sndB dead hi x)) w):=by
 go_enter Try.func49,Try.ntmps49
 have hst0:=St.start w
 refine wp_seq (sqr ?_)
 refine sqbx #[vi pg,vi lv,vi rt, .string hi, .bool dead, .slice EA en ec,vi fr] hst0 fun B2_1 W1 hst1=>?_
 refine sqp [.k 4 (.bool false)] ?_
 refine then_normal (wp_seq (sqr (sqp [.k 5 (.pointer (some ⟨B2_1,4,none⟩))] ?_)))
 refine sqld 0 hst1 ?_
 refine sqp [.m 7 6] ?_
 refine sqwW 7 [8,9,10,11,12,13,14,15,16,17] ?_ hst1 rfl (fun hq=>?_) fun W17 hst17=>?_
 rotate_left
 ·have hq_:=hq
  try simp only [zB] at hq_
  refine sqp [.k 8 (.pointer (some ⟨B2_1,3,none⟩))] ?_
  refine sqld 0 hst1 ?_
  refine sqp [.k 10 (.bool (!(hi.toList==((⟨#[]⟩:ByteArray)).toList))), .m 11 10] ?_
  refine sqwW 11 [12,13,14,15,16] ?_ hst1 rfl (fun hq=>?_) fun W15 hst15=>?_
  rotate_left
  ·have hq_:=hq
   try simp only [zB] at hq_
   refine sqp [.m 12 1, .k 13 (.pointer (some ⟨B2_1,3,none⟩))] ?_
   refine sqld 0 hst1 ?_
   refine sqk (.bool (lessF x hi)) hst1 (fun cx=>⟨_,kless_any x hi _ (by omega) (by omega),(map2 (cx.ou 12) (cx.ou 14))⟩) fun W13 hst13=>?_
   refine sqp [.k 16 (.bool (!(lessF x hi)))] ?_
   exact sqE hst13
  refine sqwx ?_
  refine sqp [sPa 17 (!(hi.toList==((⟨#[]⟩:ByteArray)).toList)) (!(lessF x hi))] ?_
  exact sqE hst15
 refine sqwx ?_
 refine sqp [sPo 18 dead ((!(hi.toList==((⟨#[]⟩:ByteArray)).toList))&&(!(lessF x hi))), .m 4 18] ?_
 refine then_normal (wp_ret ?_)
 refine bpr (.bool (dead||((!(hi.toList==((⟨#[]⟩:ByteArray)).toList))&&(!(lessF x hi))))) (results_1 Try.results49 rpt) ?_
 exact Ret.bool (by simp [sndB, *]) hst17.ext
theorem rsends_any (lv rt:Int) (hi:ByteArray) (ok dead:Bool) (EA SA KA:Option Addr) (en ec sn sc kn kc:Nat) (x:ByteArray) (w:World) (hh:hi.size≤1000000) (hx:x.size≤1000000):
  Calls Try.prog 56 #[.agg #[.bool ok, .bool dead, .int .i64 lv, .int .i64 rt, .string hi, .slice EA en ec, .slice SA sn sc, .slice KA kn kc], .string x] w (Ret (.bool (sndB dead hi x)) w):=by
 go_enter Try.func56,Try.ntmps56
 have hst0:=St.start w
 refine wp_seq (sqr ?_)
 refine sqbx #[.bool ok, .bool dead,vi lv,vi rt, .string hi, .slice EA en ec, .slice SA sn sc, .slice KA kn kc] hst0 fun B2_1 W1 hst1=>?_
 refine sqp [.k 4 (.bool false)] ?_
 refine then_normal (wp_seq (wp_seq (sqr (sqp [.k 6 (.pointer (some ⟨B2_1,1,none⟩))] ?_))))
 refine sqld 0 hst1 ?_
 refine then_normal (wbs (fun hs5=>?_) fun hs5=>?_)
 ·refine wp_seq (sqr (sqp [.k 4 (.bool true)] ?_))
  refine then_normal (wp_ret (then_ret ?_))
  refine bpr (.bool true) (results_1 Try.results56 rpt) ?_
  exact Ret.bool (by simp [sndB, *]) hst1.ext
 refine wp_skip (then_normal (wp_seq (sqr (sqp [.m 8 1, .k 9 (.pointer (some ⟨B2_1,4,none⟩))] ?_))))
 refine sqld 0 hst1 ?_
 refine sqk (.bool (lessF x hi)) hst1 (fun cx=>⟨_,rless_any x hi _ (by omega) (by omega),(map2 (cx.ou 8) (cx.ou 10))⟩) fun W10 hst10=>?_
 refine sqp [.m 5 11] ?_
 refine then_normal (wp_seq (sqr (sqp [.k 12 (.pointer (some ⟨B2_1,4,none⟩))] ?_)))
 refine sqld 0 hst10 ?_
 refine sqp [.k 14 (.bool (!(hi.toList==((⟨#[]⟩:ByteArray)).toList))), .m 15 14] ?_
 refine sqw 15 [16,17] rfl (fun _=>sqp [.m 16 5, .k 17 (.bool (!(lessF x hi)))] sqe) ?_
 refine sqp [sPa 18 (!(hi.toList==((⟨#[]⟩:ByteArray)).toList)) (!(lessF x hi)), .m 4 18] ?_
 refine then_normal (wp_ret ?_)
 refine bpr (.bool ((!(hi.toList==((⟨#[]⟩:ByteArray)).toList))&&(!(lessF x hi)))) (results_1 Try.results56 rpt) ?_
 exact Ret.bool (by simp [sndB, *]) hst10.ext
end
section
open Go.RowKit
def spotN (its:List ByteArray) (d:Nat) (i:Nat):Nat:=freeE i (its.drop i) d
theorem spotN_step {its:List ByteArray} {d i:Nat} (h:i < its.length):spotN its d i=if (its.getD i ByteArray.empty).toList==(⟨#[]⟩:ByteArray).toList then i else spotN its d (i+1):=by
 have e:its.drop i=its.getD i ByteArray.empty::its.drop (i+1):=by
  rw [List.drop_eq_getElem_cons h,List.getD_eq_getElem?_getD,List.getElem?_eq_getElem h]; rfl
 rw [spotN,e,freeE,bqd]
 by_cases hz:(its.getD i ByteArray.empty).size=0
 ·rw [if_pos hz,if_pos]
  have:its.getD i ByteArray.empty=⟨#[]⟩:=by
   apply bl_inj
   have h1:(bl (its.getD i ByteArray.empty)).length=0:=by rw [bl_len,hz]
   rw [List.eq_nil_of_length_eq_zero h1]; rfl
  rw [this]; simp
 ·rw [if_neg hz,if_neg]
  ·rfl
  ·intro h2
   have h3:=of_decide_eq_true h2
   rw [h3] at hz
   exact hz rfl
theorem spotN_end {its:List ByteArray} {d i:Nat} (h:its.length≤i):spotN its d i=d:=by
 rw [spotN,List.drop_of_length_le h]; rfl
section
variable {P:Program} {o:Oper} {ρ:Operand→Value} {W:World}
theorem run_max2 {x y:Operand} {ts:Array TypeId} {k k':IntKind} {a b z:Int} (h:o.op= .call {callee:= .builtin .max,args:=#[x,y],argTypes:=ts}) (hx:ρ x= .int k a) (hy:ρ y= .int k' b) (hz:max a b=z):(execOp ρ o).run P W= .ok (.value (.int k z)) W:=by
 subst hz
 unfold execOp; rw [h]
 simp only [resolve,invoke,builtin,List.map_toArray,List.map_cons,List.map_nil,hx,hy,Sem.run_bind,Sem.run_pure,Result.andThen_ok]
 have e:(Builtin.max_ ts o.type #[.int k a, .int k' b]).run P W= .ok (.int k (max a b)) W:=by
  unfold Builtin.max_
  show (List.foldlM Builtin.max2 (.int k a) [.int k' b]).run P W= _
  simp only [List.foldlM_cons,List.foldlM_nil,Builtin.max2]
  have h2:(if a < b then b else a)=max a b:=by omega
  rw [h2]
  rfl
 rw [e]
 rfl
end
def spotF (its:List ByteArray):Int:=spotN its (max 1 its.length) 1
theorem rspot_any (k l:Int) (IA:Option Addr) (ic:Nat) (its:List ByteArray) (w:World) (hA:At w IA (its.map Value.string)) (hl:its.length≤100000):
  Calls Try.prog 59 #[.agg #[.int .i64 k, .int .i64 l, .slice IA its.length ic]] w (Ret (.int .i64 (spotF its)) w):=by
 go_enter Try.func59,Try.ntmps59
 have hst0:=St.start w
 refine wp_seq (sqr ?_)
 refine sqbx #[vi k,vi l, .slice IA its.length ic] hst0 fun B1_1 W1 hst1=>?_
 refine sqp [.k 2 (vi 0)] ?_
 refine then_normal (wp_seq (wp_seq (sqr (sqp [.k 3 (vi 1)] ?_))))
 refine then_normal (wp_block ?_)
 refine wp_loopT (fun t_ mz az W=>∃ j:Nat,1≤j∧j≤max 1 its.length∧spotN its (max 1 its.length) 1=spotN its (max 1 its.length) j∧mz=max 1 its.length - j∧az=⟨(ovr (jv az) [(2,2,1,[vi ((j:Int))]),(0,4,14,[])] t_).toArray,[]⟩∧St w [] [eB B1_1 51 #[vi k,vi l, .slice IA its.length ic]] W) (max 1 its.length - 1) ?_ ?_
 · -- the loop begins
   exact ⟨1,Nat.le_refl _,by omega,rfl,rfl,(by kernel_rfl),hst1.pk [0]⟩
 rintro n4 a4 W4 ⟨j,hj1,hj,hI,rfl,hj_,hst4⟩
 refine ovz hj_ fun u4_=>?_
 refine wp_seq (wp_seq (sqr (sqp [.m 4 3, .k 5 (.pointer (some ⟨B1_1,2,none⟩))] ?_)))
 refine sqld 0 hst4 ?_
 refine sqp [.k 7 (vi ((its.length:Int))), .k 8 (.bool (decide ((j:Int) < (its.length:Int))))] ?_
 refine then_normal (wds (fun hs10 hs10p=>?_) fun hs10 hs10p=>?_)
 ·refine wp_skip (then_normal (wp_seq (wp_block (wp_seq (sqr (sqp [.k 11 (.pointer (some ⟨B1_1,2,none⟩))] ?_))))))
  refine sqld 0 hst4 ?_
  refine sqp [.m 13 3] ?_
  refine sql (.pointer (some ((ad IA).add j))) hst4 (fun cx=>run_indexSl (e:=9) (m:=j) rfl (by kernel_rfl) (by kernel_rfl) (cx.ou 12) (cx.ou 13) (by omega) (by omega) (hA.ext cx.upd.to_ext) (by simp)) ?_
  refine sql (.string (its.getD j ByteArray.empty)) hst4 (fun cx=>run_load1 rfl (by kernel_rfl) (cx.ou 14) (At.cellAd (hA.ext cx.upd.to_ext) (getD_str (by omega)))) ?_
  refine sqp [.k 16 (.bool ((its.getD j ByteArray.empty).toList==((⟨#[]⟩:ByteArray)).toList))] ?_
  refine then_normal (wbs (fun hs17=>?_) fun hs17=>?_)
  ·refine wp_seq (sqr (sqp [.m 17 3, .m 2 17] ?_))
   refine then_normal (wp_ret (blk_ret (then_ret (then_ret (blk_ret (then_ret ?_))))))
   refine bpr (vi ((j:Int))) (results_1 Try.results59 rpt) ?_
   exact Ret.of (by rw [spotF,hI,spotN_step (by omega),if_pos (by assumption)]) hst4.ext
  refine wp_skip (blk_normal (then_normal (sqr (sqp [.m 9 3,sI 10 ((j:Int)+1) (by omega), .m 3 10] ?_))))
  refine then_normal ?_
  refine ⟨max 1 its.length - ((j+1)),by omega,?_⟩
  exact ⟨(j+1),by omega,by omega,by rw [hI,spotN_step (by omega),if_neg (Bool.eq_false_iff.1 (by assumption))],rfl,(by kernel_rfl),hst4.pk [0]⟩
 refine wp_exit (then_exit (then_exit (blk_eq (then_normal (wp_seq (sqr (sqp [.k 18 (.pointer (some ⟨B1_1,2,none⟩))] ?_)))))))
 refine sqld 0 hst4 ?_
 refine sqp [.k 20 (vi ((its.length:Int)))] ?_
 refine sql (vi (max 1 (its.length:Int))) hst4 (fun cx=>run_max2 rfl (cx.co _) (cx.ou 20) rfl) ?_
 refine sqp [.m 2 21] ?_
 refine then_normal (wp_ret ?_)
 refine bpr (vi (max 1 (its.length:Int))) (results_1 Try.results59 rpt) ?_
 exact Ret.of (by rw [spotF,hI,spotN_end (by omega)]; congr 1; omega) hst4.ext
end
section
open Go.RowKit
/-- an edit: page, slot, item -/
abbrev EdT:=Int×Int×ByteArray
def edC (e:EdT):List Value:=[.int .i64 e.1, .int .i64 e.2.1, .string e.2.2]
def EdPost (l:List EdT) (w:World) (e:Ending) (w':World):Prop:=∃ A c,e= .returned (.slice A l.length c)∧w'.ownsRow w.heap.size 99 3 (.slice A l.length c) l.length (l.flatMap edC)∧Ext w w'
/-- the edits of an empty tree -/
def begF (n:Int):List EdT:=[(n, -1,strOfNums [2]),(n,0,hdB 0 (-1) false ⟨#[]⟩)]
theorem rbegin_any (n:Int) (w:World):
  Calls Try.prog 80 #[.int .i64 n] w (EdPost (begF n) w):=by
 go_enter Try.func80,Try.ntmps80
 have hst0:=St.start w
 refine wp_seq (sqr (sqp [.k 2 (.slice none 0 0)] ?_))
 refine then_normal (wp_seq (wp_region_Y [0,0,2,7,0,0,32,112,255,511] [[],[],[0]] [[],[0],[],[],[],[],[],[],[1]] [] [.k 3 (vi n), .a 4, .c 5 (.string (strOfNums ([2]))), .k 6 (.agg #[vi n,vi (-1), .string (strOfNums ([2]))]), .k 7 (vi n), .k 8 (.agg #[.bool false, .bool false,vi 0,vi (-1), .string ByteArray.empty, .slice none 0 0, .slice none 0 0, .slice none 0 0]), .c 9 (.string (hdB 0 (-1) false ByteArray.empty)), .k 10 (.agg #[vi n,vi 0, .string (hdB 0 (-1) false ByteArray.empty)]), .a 11, .a 2] (fun ix σ β X=>match ix with | 0=>True | 1=>σ 4= .slice (sA (β 4)) 1 1∧X 0=eO 5 1 (.slice (sA (β 4)) 1 1) 1 ([.int .u8 2]) | 2=>True | 3=>True | 4=>True | 5=>True | 6=>True | 7=>True | 8=>σ 11= .slice ((some ⟨(pb' (β 11)),0,none⟩)) 2 2∧X 1=eO 99 3 (.slice ((some ⟨(pb' (β 11)),0,none⟩)) 2 2) 2 ([vi n,vi (-1), .string (strOfNums ([2])),vi n,vi 0, .string (hdB 0 (-1) false ByteArray.empty)]) | 9=>σ 2= .slice ((some ⟨(pb' (β 11)),0,none⟩)) 2 2 | _=>True) [0,1] [1,2,6,8,9] [(2,9,1,3),(0,0,9,9)] hst0 ?_ ?_ ?_))
 ·exact fun ix _ _ _ _ _ _ hs hb hx h=>match ix,h with
  | 1,h=>by dsimp only; rw [← hs 4 rfl,← hb 4 rfl,← hx 0 rfl]; exact h
  | 8,h=>by dsimp only; rw [← hs 11 rfl,← hb 11 rfl,← hx 1 rfl]; exact h
  | 9,h=>by dsimp only; rw [← hs 2 rfl,← hb 11 rfl]; exact h
  | 0, _ | 2, _ | 3, _ | 4, _ | 5, _ | 6, _ | 7, _ | _+10, _=>trivial
 ·refine ⟨?_,?_,?_,?_,?_,trivial⟩
  ·refine svA fun ρ β W X cx=>?_
   exact dv_lit (e:=5) (xs:=[.int .u8 2]) rfl (by simp [go_sem,cx.sees.const]) rfl (by decide) rfl rfl (fun σ β' X' hs hb hv hx=>⟨hv,hx⟩)
  ·exact xs4 rfl id fun cx=>run_convB (e:=5) rfl (by kernel_rfl) (by kernel_rfl) (by kernel_rfl) (dTn (cx.an 1)).1 (cx.row (dTn (cx.an 1)).2 rfl)
  ·exact xsc rfl id rfl rfl fun cx=>⟨_,rhead_any 0 (-1) ByteArray.empty false false _ _ _ _ _ _ _ _ _ _ (by omega) (by omega) (by first | omega | decide),(map1 (cx.an 5))⟩
  ·refine svA fun ρ β W X cx=>?_
   have fF6:ρ (.tmp 6)= .agg #[vi n,vi (-1), .string (strOfNums ([2]))]:=(cx.an 3)
   have fF10:ρ (.tmp 10)= .agg #[vi n,vi 0, .string (hdB 0 (-1) false ByteArray.empty)]:=(cx.an 7)
   exact dv_litN (e:=99) (sz:=3) (xs:=[vi n,vi (-1), .string (strOfNums ([2])),vi n,vi 0, .string (hdB 0 (-1) false ByteArray.empty)]) rfl (by simp [go_sem,fF6,fF10]) rfl (by decide) rfl rfl (fun σ β' X' hs hb hv hx=>⟨hv,hx⟩)
  ·exact sv rfl rfl rfl rfl rfl _ (fun _ _ _ h=>h) (fun β β' h=>by rw [h 11 (by decide)]) fun ρ β W X cx=>run_assign' rfl (dTn (cx.an 8)).1
 intro σ β X W2 hD hst2 fr hfr
 obtain ⟨A4_2,hu_A4_2⟩:∃ z,sA (β 4)=z:=⟨_,rfl⟩
 obtain ⟨B11_2,hu_B11_2⟩:∃ z,pb' (β 11)=z:=⟨_,rfl⟩
 simp only [exq 0 ((dTn (hD 1 lq)).2),exq 1 ((dTn (hD 8 lq)).2),hu_A4_2,hu_B11_2] at hst2
 simp only [ed 4 ((dTn (hD 1 lq)).1),ed 11 ((dTn (hD 8 lq)).1),ed 2 ((dTn (hD 9 lq))),hu_A4_2,hu_B11_2] at hfr
 clear hD hu_A4_2 hu_B11_2; subst hfr; clear σ β X
 refine then_normal (wp_ret ?_)
 refine bpr (.slice ((some ⟨B11_2,0,none⟩)) 2 2) (results_1 Try.results80 rpt) ?_
 have ho_:=hst2.own' 1 rfl
 exact ⟨_, _,rfl,ho_,hst2.ext⟩
end
section
open Go.RowKit
theorem edC_len (e:EdT):(edC e).length=3:=rfl
theorem getEdT {l:List EdT} {k:Nat} (h:k < l.length):∃ p s b,l[k]? =some (p,s,b):=⟨l[k].1,l[k].2.1,l[k].2.2,List.getElem?_eq_getElem h⟩
theorem run_neEd {o:Oper} {ρ:Operand→Value} {W:World} {x y:Operand} {a b:Int} {s:ByteArray} (h:o.op= .binOp .neq 99 x y 99) (hx:ρ x= .agg #[.int .i64 a, .int .i64 b, .string s]) (hy:ρ y= .agg #[.int .i64 a, .int .i64 b, .string s]):
  (execOp ρ o).run Try.prog W= .ok (.value (.bool false)) W:=by
 unfold execOp; rw [h]
 simp [go_sem,hx,hy]
theorem rsame_any (A B:Option Addr) (c d:Nat) (l:List EdT) (w:World) (hA:At w A (l.flatMap edC)) (hB:At w B (l.flatMap edC)) (hl:l.length≤1000):
  Calls Try.prog 20 #[.slice A l.length c, .slice B l.length d] w (Ret (.bool true) w):=by
 go_enter Try.func20,Try.ntmps20
 have hst0:=St.start w
 refine wp_seq (sqr (sqp [.k 4 (.bool false)] ?_))
 refine then_normal (wp_seq (wp_seq (sqr (sqp [.m 6 0, .k 7 (vi ((l.length:Int))), .m 8 1, .k 9 (vi ((l.length:Int))), .e 10 (.bool ((l.length:Int) != (l.length:Int))) (.bool false) (congrArg Value.bool (show ((l.length:Int) != (l.length:Int))=false from (bne_self_eq_false _)))] ?_))))
 refine then_normal (wcf rfl (wp_skip (then_normal (wp_seq (wp_seq (sqr (sqp [.k 5 (vi 0)] ?_)))))))
 refine then_normal (wp_block ?_)
 refine wp_loopT (fun t_ mz az W=>∃ k:Nat,k≤l.length∧mz=l.length - k∧az=⟨(ovr (jv az) [(4,4,1,[vi ((k:Int))]),(5,11,15,[])] t_).toArray,[]⟩∧St w [] [] W) (l.length - 0) ?_ ?_
 · -- the loop begins
   exact ⟨0,Nat.zero_le _,rfl,(by kernel_rfl),hst0.pk []⟩
 rintro n8 a8 W8 ⟨k,hk,rfl,hj_,hst8⟩
 refine ovz hj_ fun u8_=>?_
 refine wp_seq (wp_seq (sqr (sqp [.m 11 5, .m 12 0, .k 13 (vi ((l.length:Int))), .k 14 (.bool (decide ((k:Int) < (l.length:Int))))] ?_)))
 refine then_normal (wds (fun hs13 hs13p=>?_) fun hs13 hs13p=>?_)
 ·refine wp_skip (then_normal (wp_seq (wp_block (wp_seq ?_))))
  obtain ⟨fp,fs,fb,hfj⟩:=getEdT (l:=l) (k:=k) (by omega)
  refine wp_region_Z [0,0,3,7,0,0,48,112,255] [] [.k 17 (.slice A l.length c), .k 18 (vi ((k:Int))), .c 19 (.pointer (some ((ad A).add (k*3)))), .c 20 (.agg #[vi fp,vi fs, .string fb]), .k 21 (.slice B l.length d), .k 22 (vi ((k:Int))), .c 23 (.pointer (some ((ad B).add (k*3)))), .c 24 (.agg #[vi fp,vi fs, .string fb]), .c 25 (.bool false)] [] [2,3,6,7,8] [(17,0,9,26)] hst8 ?_ fun W14 hst14=>?_
  ·refine ⟨?_,?_,?_,?_,?_,trivial⟩
   ·exact xs4 rfl id fun cx=>run_indexSlM (e:=99) (m:=k) (sz:=3) rfl (by kernel_rfl) (by kernel_rfl) (cx.an 0) (cx.an 1) (by omega) (by omega) (hA.ext cx.upd.to_ext) (flatPos (sz:=3) edC_len (by decide) (by omega))
   ·exact xs4 rfl id fun cx=>run_loadElt (f:=edC) (m:=k) (sz:=3) (off:=0) (n:=3) rfl (by kernel_rfl) (by kernel_rfl) (cx.an 2) rfl edC_len (hA.ext cx.upd.to_ext) hfj (fun k hk=>match k,hk with | 0, _=>rfl | 1, _=>rfl | 2, _=>rfl | k+3,hk=>absurd hk (by omega))
   ·exact xs4 rfl id fun cx=>run_indexSlM (e:=99) (m:=k) (sz:=3) rfl (by kernel_rfl) (by kernel_rfl) (cx.an 4) (cx.an 5) (by omega) (by omega) (hB.ext cx.upd.to_ext) (flatPos (sz:=3) edC_len (by decide) (by omega))
   ·exact xs4 rfl id fun cx=>run_loadElt (f:=edC) (m:=k) (sz:=3) (off:=0) (n:=3) rfl (by kernel_rfl) (by kernel_rfl) (cx.an 6) rfl edC_len (hB.ext cx.upd.to_ext) hfj (fun k hk=>match k,hk with | 0, _=>rfl | 1, _=>rfl | 2, _=>rfl | k+3,hk=>absurd hk (by omega))
   ·exact xs4 rfl id fun cx=>run_neEd rfl (cx.an 3) (cx.an 7)
  refine then_normal (wcf rfl (wp_skip (blk_normal (then_normal (sqr (sqp [.m 15 5,sI 16 ((k:Int)+1) (by omega), .m 5 16] ?_))))))
  refine then_normal ?_
  refine ⟨l.length - ((k+1)),by omega,?_⟩
  exact ⟨(k+1),by omega,rfl,(by kernel_rfl),hst14.pk []⟩
 refine wp_exit (then_exit (then_exit (blk_eq (then_normal (wp_seq (sqr (sqp [.k 4 (.bool true)] ?_)))))))
 refine then_normal (wp_ret ?_)
 refine bpr (.bool true) (results_1 Try.results20 rpt) ?_
 exact Ret.of rfl hst8.ext
end
section
open Go.RowKit
-- reading a node
theorem rawE_append:∀ (i:Nat) (a b:List ByteArray),rawE i (a++b)=rawE i a++rawE (i+a.length) b
 | _,[], _=>rfl
 | i,x::a,b=>by
   have h:=rawE_append (i+1) a b
   have e:i+1+a.length=i+(x::a).length:=by rw [List.length_cons]; omega
   rw [e] at h
   rw [List.cons_append,rawE,rawE,h]
   split<;>rfl
/-- what stands in the slots 1 .. i-1 -/
def preE (its:List ByteArray) (i:Nat):List (Nat×ByteArray):=rawE 1 ((its.drop 1).take (i - 1))
theorem preE_step {its:List ByteArray} {i:Nat} (h1:1≤i) (h:i < its.length):preE its (i+1)=preE its i++(if (its.getD i ByteArray.empty).size=0 then [] else [(i,its.getD i ByteArray.empty)]):=by
 have e1:(its.drop 1)[i - 1]? =some (its.getD i ByteArray.empty):=by
  rw [List.getElem?_drop,show 1+(i - 1)=i by omega,List.getD_eq_getElem?_getD,List.getElem?_eq_getElem h]; rfl
 rw [preE,preE,show i+1 - 1=i - 1+1 by omega,List.take_add_one,e1,rawE_append,List.length_take,List.length_drop,Nat.min_eq_left (by omega),show 1+(i - 1)=i by omega]
 show _++rawE i [its.getD i ByteArray.empty]= _
 rw [rawE]
 rfl
theorem preE_all {its:List ByteArray} {i:Nat} (h:its.length≤i):preE its i=rawE 1 (its.drop 1):=by
 rw [preE,List.take_of_length_le (by rw [List.length_drop]; omega)]
theorem preE_len {its:List ByteArray} {i:Nat} (h:1≤i):(preE its i).length≤i - 1:=by
 have:=rawE_len 1 ((its.drop 1).take (i - 1))
 rw [List.length_take] at this
 rw [preE]; omega
/-- the entries in their order -/
def srt (lv:Int) (l:List (Nat×ByteArray)):List EnD:=(sortR ((l.map (parE lv)).reverse)).reverse
theorem srt_len (lv:Int) (l:List (Nat×ByteArray)):(srt lv l).length=l.length:=by rw [srt,List.length_reverse,sortR_len,List.length_reverse,List.length_map]
theorem srt_snoc {lv:Int} {l:List (Nat×ByteArray)} {p:Nat×ByteArray} {m:Nat} (hm:m≤l.length) (h1:∀ y∈(srt lv l).drop m,lessF (parE lv p).1 y.1=true) (h2:m=0∨∃ y,(srt lv l)[m - 1]? =some y∧lessF (parE lv p).1 y.1=false):
  srt lv (l++[p])=(srt lv l).take m++parE lv p::(srt lv l).drop m:=by
 have e:srt lv (l++[p])=(insR (parE lv p) (sortR ((l.map (parE lv)).reverse))).reverse:=by
  rw [srt,List.map_append,List.reverse_append]; rfl
 rw [e]
 refine insR_at ?_ h1 fun y hy=>?_
 ·rw [← List.reverse_append,List.take_append_drop,srt,List.reverse_reverse]
 ·rcases h2 with rfl | ⟨z,hz,hl⟩
  ·simp at hy
  ·rcases Nat.eq_zero_or_pos m with h0 | h0
   ·subst h0; simp at hy
   ·have hs:=srt_len lv l
    rw [List.getLast?_eq_getElem?,List.length_take,Nat.min_eq_left (by omega),List.getElem?_take,if_pos (by omega),hz] at hy
    rw [← Option.some.inj hy]; exact hl
theorem nodF_bad {k:Int} {its:List ByteArray} (h:k≠2∨its=[]∨(∃ x l,its=x::l∧hdOk x=false)∨(∃ x l,its=x::l∧((rawE 1 l).any (badE (numS x 0 1)))=true)):nodF k its=none:=by
 unfold nodF
 rcases h with h | rfl | ⟨x,l,rfl,h⟩ | ⟨x,l,rfl,h⟩
 ·rw [if_pos h]
 ·split<;>rfl
 ·split
  ·rfl
  ·simp [h]
 ·split
  ·rfl
  ·simp only [h]
   split<;>rfl
theorem nodF_good {x:ByteArray} {l:List ByteArray} (h:hdOk x=true) (hb:((rawE 1 l).any (badE (numS x 0 1)))=false):
  nodF 2 (x::l)=some ⟨numS x 0 1,(numS x 2 2:Int) - 1,x.extract 4 x.size,numS x 1 1==1,srt (numS x 0 1) (rawE 1 l),freeE 1 l (l.length+1)⟩:=by
 unfold nodF
 simp only [h,hb]
 rfl
-- books
/-- a page without its place in memory: kind, lsn, items -/
abbrev PgS:=Int×Int×List ByteArray
def pgs0:PgS:=(0,0,[])
def setI (its:List ByteArray) (k:Nat) (s:ByteArray):List ByteArray:=(its++List.replicate (k+1 - its.length) ByteArray.empty).set k s
theorem setI_len (its:List ByteArray) (k:Nat) (s:ByteArray):(setI its k s).length=max its.length (k+1):=by
 rw [setI,List.length_set,List.length_append,List.length_replicate]; omega
def kindB (s:ByteArray):Int:=if s.size=0 then 0 else byteI (bl s) 0
def edP (p:PgS) (e:EdT):PgS:=if e.2.1 < 0 then (kindB e.2.2,0,[]) else (p.1,p.2.1,setI p.2.2 e.2.1.toNat e.2.2)
def edOk (n:Nat) (e:EdT):Bool:=decide (0≤e.1∧e.1 < n∧ -1≤e.2.1∧e.2.1≤100)
def do1B (ps:List PgS) (e:EdT):List PgS:=if edOk ps.length e then ps.set e.1.toNat (edP (ps.getD e.1.toNat pgs0) e) else ps
def doB (ps:List PgS) (l:List EdT):List PgS:=l.foldl do1B ps
theorem do1B_len (ps:List PgS) (e:EdT):(do1B ps e).length=ps.length:=by
 unfold do1B; split
 ·rw [List.length_set]
 ·rfl
theorem doB_len:∀ (l:List EdT) (ps:List PgS),(doB ps l).length=ps.length
 | [], _=>rfl
 | e::l,ps=>by
   show (doB (do1B ps e) l).length= _
   rw [doB_len l,do1B_len]
theorem doB_take {ps:List PgS} {l:List EdT} {k:Nat} (h:k < l.length):doB ps (l.take (k+1))=do1B (doB ps (l.take k)) l[k]:=by
 rw [List.take_add_one,List.getElem?_eq_getElem h,doB,List.foldl_append]; rfl
/-- the node in a page of a book -/
def ndAt (ps:List PgS) (n:Int):Option NoD:=if 0≤n∧n < ps.length then nodF (ps.getD n.toNat pgs0).1 (ps.getD n.toNat pgs0).2.2 else none
-- an insertion
/-- a pending entry: entry, level, child -/
abbrev TaT:=ByteArray×Int×Int
structure PuT where
 root:Int
 pos:Int
 leaf:Int
 left:List TaT
 fro:Int
 to:Int
 spl:Bool
def downF (x:ByteArray):List EnD→Int→Int
 | [],d=>d
 | e::l,d=>downF x l (if d < 0∨lessF x e.1=false then e.2.2 else d)
def leastB:ByteArray:=entF ByteArray.empty 0 0
/-- the items of new slots, from slot i on -/
def itsE (pg lv:Int):Nat→List EnD→List EdT
 | _,[]=>[]
 | i,e::l=>(pg,(i:Int),itB lv e.2.2 e.1)::itsE pg lv (i+1) l
def freshE (pg lv rt:Int) (hi:ByteArray) (es:List EnD):List EdT:=[(pg, -1,strOfNums [2]),(pg,0,hdB lv rt false hi)]++itsE pg lv 1 es
def clearE (pg:Int) (es:List EnD):List EdT:=es.map fun e=>(pg,(e.2.1:Int),ByteArray.empty)
def growE (root:Int) (n:NoD) (pg:Int):List EdT:=freshE pg n.lv (-1) ByteArray.empty n.es++[(root,0,hdB (n.lv+1) (-1) false ByteArray.empty)]++clearE root n.es++[(root,1,itB 1 pg leastB)]
def halfE (n:NoD):List EnD:=n.es.drop (n.es.length / 2)
def midE (n:NoD):ByteArray:=(n.es.getD (n.es.length / 2) (ByteArray.empty,0,0)).1
def cutE (pos:Int) (n:NoD) (pg:Int):List EdT:=freshE pg n.lv n.right n.high (halfE n)++[(pos,0,hdB n.lv pg false (midE n))]++clearE pos (halfE n)
def hasE (es:List EnD) (x:ByteArray):Bool:=es.any fun e=>e.1.toList==x.toList
/-- what a step returns -/
structure GoT where
 eds:List EdT
 used:Bool
 err:Int
def stepF (ps:List PgS) (w:PuT) (fresh:Int):PuT×GoT:=
 let w0:PuT:=⟨w.root,w.pos,w.leaf,w.left,0,0,false⟩
 match w.left with
 | []=>(w0,⟨[],false,0⟩)
 | t::l=>match ndAt ps w.pos with
   | none=>(w0,⟨[],false,22⟩)
   | some n=>
     if sndB n.dead n.high t.1=true then (if n.right < 0 then (w0,⟨[],false,11⟩) else (⟨w.root,n.right,w.leaf,w.left,0,0,false⟩,⟨[],false,0⟩))
     else if t.2.1 < n.lv then (⟨w.root,downF t.1 n.es (-1),w.leaf,w.left,0,0,false⟩,⟨[],false,0⟩)
     else if n.lv < t.2.1 then (w0,⟨[],false,11⟩)
     else if hasE n.es t.1=true∨n.es.length < 8 then (⟨w.root,w.root,if t.2.1=0 then w.pos else w.leaf,l,0,0,false⟩,⟨if hasE n.es t.1=true then [] else [(w.pos,(n.free:Int),itB t.2.1 t.2.2 t.1)],false,0⟩)
     else if fresh < 0 then (w0,⟨[],false,23⟩)
     else if w.pos=w.root then (⟨w.root,fresh,w.leaf,w.left,0,0,false⟩,⟨growE w.root n fresh,true,0⟩)
     else (⟨w.root,w.pos,w.leaf,w.left++[(midE n,t.2.1+1,fresh)],if t.2.1=0 then w.pos else 0,if t.2.1=0 then fresh else 0,decide (t.2.1=0)⟩,⟨cutE w.pos n fresh,true,0⟩)
end
section
open Go.RowKit
/-- all of R as one entry -/
def eM (R:List Ent):Ent:=⟨R.flatMap (·.fp),fun W=>∀ e∈R,e.holds W∧e.loc⟩
theorem eM_loc (R:List Ent):(eM R).loc:=fun W W' hk h e he=>
 ⟨(h e he).2 W W' (fun k hk'=>hk k (List.mem_flatMap.2 ⟨e,he,hk'⟩)) (h e he).1,(h e he).2⟩
theorem St.emNil {w0 W:World} {bor:List Nat} {L:List Ent} (h:St w0 bor L W):St w0 bor (L++[eM []]) W:=by
 refine ⟨h.upd,fun x hx=>?_,?_⟩
 ·rcases List.mem_append.1 hx with hx | hx
  ·exact h.ok x hx
  ·rw [List.mem_singleton] at hx
   subst hx
   exact ⟨fun e he=>(by cases he),eM_loc _,fun k hk=>(by cases hk)⟩
 ·rw [List.pairwise_append]
  refine ⟨h.apart,List.pairwise_singleton _ _,fun a _ b hb=>?_⟩
  rw [List.mem_singleton] at hb
  subst hb
  exact fun k _ hk=>by cases hk
/-- the last entry joins the many -/
theorem St.merge {w0 W:World} {bor:List Nat} {L R:List Ent} {e:Ent} (h:St w0 bor (L++[eM R,e]) W):St w0 bor (L++[eM (R++[e])]) W:=by
 have hM:=h.ok (eM R) (by simp)
 have hE:=h.ok e (by simp)
 have hfp:∀ k,k∈(eM (R++[e])).fp↔k∈(eM R).fp∨k∈e.fp:=fun k=>by simp [eM]
 refine ⟨h.upd,fun x hx=>?_,?_⟩
 ·rcases List.mem_append.1 hx with hx | hx
  ·exact h.ok x (by simp [hx])
  ·rw [List.mem_singleton] at hx
   subst hx
   refine ⟨fun x hx=>?_,eM_loc _,fun k hk=>?_⟩
   ·rcases List.mem_append.1 hx with hx | hx
    ·exact hM.holds x hx
    ·rw [List.mem_singleton] at hx
     subst hx
     exact ⟨hE.holds,hE.loc⟩
   ·rcases (hfp k).1 hk with hk | hk
    ·exact hM.own k hk
    ·exact hE.own k hk
 ·have ha:=h.apart
  rw [List.pairwise_append] at ha ⊢
  refine ⟨ha.1,List.pairwise_singleton _ _,fun a ha' b hb=>?_⟩
  rw [List.mem_singleton] at hb
  subst hb
  intro k hk hkb
  rcases (hfp k).1 hkb with hkb | hkb
  ·exact ha.2.2 a ha' (eM R) (by simp) k hk hkb
  ·exact ha.2.2 a ha' e (by simp) k hk hkb
section
variable {P:Program} {ops:Array Oper} {L:List Nat} {a0:Act} {w0:World} {bor:List Nat} {X0:List Ent} {us cr kl:List (List Nat)}
 {D:Nat→(Tmp→Value)→(Tmp→Value)→(Nat→Ent)→Prop} {i:Nat} {o:Oper} {ρ:Operand→Value} {β:Tmp→Value} {W:World} {X:Nat→Ent}
/-- a callee that changes the entry E and leaves the entries N on its blocks and on new ones -/
theorem post_obj {v:Value} {W':World} {q:Nat} {E:Ent} (N:List Ent) (hX:X q=E) (hk:atV kl i=[q]) (hl:N.length=(atV cr i).length) (hs:St W E.fp N W')
  (hD:∀ (σ β':Tmp→Value) (X':Nat→Ent),(∀ t,o.dst≠some t→σ t=ρ (.tmp t))→(∀ t,o.dst≠some t→β' t=β t)→(∀ d,o.dst=some d→σ d=v∧β' d=v)→(atV cr i).map X'=N→D i σ β' X'):PostV cr kl D i o.dst ρ β W X v W':=by
 subst hX
 have e1:(atV kl i).flatMap (fun q=>(X q).fp)=(X q).fp:=by rw [hk]; simp
 exact ⟨N,hl,⟨by rw [e1]; exact hs.upd,fun e he=>⟨(hs.ok e he).holds,(hs.ok e he).loc,fun k hk'=>by rw [e1]; exact (hs.ok e he).own k hk'⟩,hs.apart⟩,
  fun σ β' X' hs' hv hb' hbv hx' hN=>hD σ β' X' hs' hb' (fun d hd=>⟨hv d hd,hbv d hd⟩) hN⟩
end
/-- an entry's own blocks lent to a callee -/
theorem St.lend {w:World} {E:Ent} (h:E.holds w) (hl:E.loc) (hb:∀ k∈E.fp,k < w.heap.size):St w E.fp [E] w:=
 ⟨Upd.refl _ _,fun x hx=>by rw [List.mem_singleton] at hx; subst hx; exact ⟨h,hl,fun k hk=>⟨.inl hk,hb k hk⟩⟩,List.pairwise_singleton _ _⟩
end
section
open Go.RowKit
def en0:EnD:=(ByteArray.empty,0,0)
def stv (e:EnD):Value:= .string e.1
def slv (e:EnD):Value:= .int .i64 (e.2.1:Int)
def kdv (e:EnD):Value:= .int .i64 e.2.2
theorem st_get {S:List EnD} {k:Nat} (h:k < S.length):(S.map stv)[k]? =some (.string (S.getD k en0).1):=by simp [stv,h]
theorem sl_get {S:List EnD} {k:Nat} (h:k < S.length):(S.map slv)[k]? =some (.int .i64 ((S.getD k en0).2.1:Int)):=by simp [slv,h]
theorem kd_get {S:List EnD} {k:Nat} (h:k < S.length):(S.map kdv)[k]? =some (.int .i64 (S.getD k en0).2.2):=by simp [kdv,h]
theorem At.takeM {α:Type} {w:World} {A:Option Addr} {f:α→Value} {ls:List α} (h:At w A (ls.map f)) (m:Nat):At w A ((ls.take m).map f):=by rw [List.map_take]; exact h.take m
theorem At.dropM {α:Type} {w:World} {A:Option Addr} {f:α→Value} {ls:List α} (h:At w A (ls.map f)) (l cap:Nat) (hc:ls.length≤cap):At w (if cap=l then A else A.map (·.add (l*1))) ((ls.drop l).map f):=by
 rw [List.map_drop,Nat.mul_one]; exact h.drop l cap (by rw [List.length_map]; exact hc)
theorem ins_map {f:EnD→Value} {S:List EnD} {m:Nat} (x:EnD):(S.take m).map f++[f x]++(S.drop m).map f=(S.take m++x::S.drop m).map f:=by simp
theorem en_one {f:EnD→Value} (hf:∀ e,(f e).oneCell'=true) (l:List EnD):∀ u∈l.map f,u.oneCell'=true:=fun u hu=>by
 obtain ⟨e, _,rfl⟩:=List.mem_map.1 hu; exact hf e
theorem numS_one (e:ByteArray) (m:Nat) (h:m+1≤e.size):(numS e m 1:Int)=byteI (bl e) m:=by
 have e1:numS e m 1=numL (((bl e).drop m).take 1):=by
  rw [numS,show (e.extract m (m+1)).data.toList=bl (e.extract m (m+1)) from rfl,bl_extract,Nat.add_sub_cancel_left]
 have hl:m+1≤(bl e).length:=by rw [bl_len]; exact h
 have e2:((bl e).drop m).take 1=[(bl e).getD m 0]:=by
  rw [List.drop_eq_getElem_cons (by omega),List.take_succ_cons,List.take_zero]
  simp [List.getD_eq_getElem?_getD,List.getElem?_eq_getElem (show m < (bl e).length by omega)]
 rw [e1,e2,numL,List.foldl_cons,List.foldl_nil,byteI]; omega
theorem hdOk_not {h:ByteArray}:((decide ((h.size:Int) < 4)||decide (1 < byteI (bl h) 1))||(decide (4 < (h.size:Int))&&decide ((h.size:Int) < 8)))=!hdOk h:=by
 unfold hdOk
 by_cases h4:h.size < 4
 ·have e:decide (4≤h.size)=false:=decide_eq_false (by omega)
  have e2:decide ((h.size:Int) < 4)=true:=decide_eq_true (by omega)
  rw [e,e2]; rfl
 ·have h1:=numS_one h 1 (by omega)
  have e:decide (4≤h.size)=true:=decide_eq_true (by omega)
  have e2:decide ((h.size:Int) < 4)=false:=decide_eq_false (by omega)
  have e3:decide (numS h 1 1≤1)=!decide (1 < byteI (bl h) 1):=by rw [← decide_not]; congr 1; rw [← h1]; exact propext ⟨fun a b=>by omega,fun a=>by omega⟩
  have e4:(decide (h.size≤4)||decide (8≤h.size))=!(decide (4 < (h.size:Int))&&decide ((h.size:Int) < 8)):=by
   rw [Bool.not_and,← decide_not,← decide_not]; congr 1<;>(congr 1; exact propext ⟨fun a=>by omega,fun a=>by omega⟩)
  rw [e,e2,e3,e4]
  cases decide (1 < byteI (bl h) 1)<;>cases (decide (4 < (h.size:Int))&&decide ((h.size:Int) < 8))<;>rfl
theorem kind_bad {k:Int} {n:Nat} (h:(k != 2||((n:Int)==0))=true) (hn:0 < n):k≠2:=by
 simp only [Bool.or_eq_true,bne_iff_ne,beq_iff_eq] at h
 rcases h with h | h
 ·exact h
 ·omega
theorem kind_good {k:Int} {n:Nat} (h:(k != 2||((n:Int)==0))=false):k=2:=by
 simp only [Bool.or_eq_false_iff,bne_eq_false_iff_eq] at h
 exact h.1
/-- the value of a node -/
def ndV (n:NoD) (EA:Option Addr) (ec:Nat) (SA:Option Addr) (sc:Nat) (KA:Option Addr) (kc:Nat):Value:= .agg #[.bool true, .bool n.dead, .int .i64 n.lv, .int .i64 n.right, .string n.high, .slice EA n.es.length ec, .slice SA n.es.length sc, .slice KA n.es.length kc]
def nd0:Value:= .agg #[.bool false, .bool false, .int .i64 0, .int .i64 0, .string ⟨#[]⟩, .slice none 0 0, .slice none 0 0, .slice none 0 0]
def rdL (n:NoD) (EA:Option Addr) (ec:Nat) (SA:Option Addr) (sc:Nat) (KA:Option Addr) (kc:Nat):List Ent:=[eO 9 1 (.slice EA n.es.length ec) n.es.length (n.es.map stv),eO 3 1 (.slice SA n.es.length sc) n.es.length (n.es.map slv),eO 3 1 (.slice KA n.es.length kc) n.es.length (n.es.map kdv)]
def NdPost (o:Option NoD) (w:World) (e:Ending) (w':World):Prop:=match o with
 | none=>e= .returned nd0∧Ext w w'
 | some n=>∃ EA ec SA sc KA kc,e= .returned (ndV n EA ec SA sc KA kc)∧St w [] (rdL n EA ec SA sc KA kc) w'
theorem rd_none {o:Option NoD} {w w':World} (h:o=none) (hx:Ext w w'):NdPost o w (.returned nd0) w':=by subst h; exact ⟨rfl,hx⟩
theorem any_step {α:Type} {p:α→Bool} {l:List α} {x:α} (h:l.any p=false) (hx:p x=false):(l++[x]).any p=false:=by simp [h,hx]
theorem rawE_pre {l:List ByteArray} {i:Nat} {p:Nat×ByteArray} {x:ByteArray} (h:p∈preE (x::l) i):p∈rawE 1 l:=by
 have e:l=(l.take (i - 1))++l.drop (i - 1):=(List.take_append_drop ..).symm
 rw [e,rawE_append]
 exact List.mem_append_left _ h
theorem rd_badx {k:Int} {x:ByteArray} {l:List ByteArray} {i:Nat} {lv:Int} (hlv:(numS x 0 1:Int)=lv) (hi1:1≤i) (hi:i < (x::l).length) (hz:((x::l).getD i ByteArray.empty).size≠0) (hb:badE lv (i,(x::l).getD i ByteArray.empty)=true):nodF k (x::l)=none:=by
 refine nodF_bad (.inr (.inr (.inr ⟨x,l,rfl,?_⟩)))
 rw [hlv,List.any_eq_true]
 refine ⟨_,rawE_pre (x:=x) (i:=i+1) ?_,hb⟩
 rw [preE_step hi1 hi,if_neg hz]
 simp
theorem rawE_mem:∀ {i:Nat} {l:List ByteArray} {p:Nat×ByteArray},p∈rawE i l→p.2∈l∧i≤p.1∧p.1 < i+l.length
 | _,[], _,h=>by cases h
 | i,x::l,p,h=>by
   unfold rawE at h
   split at h
   ·have:=rawE_mem h; rw [List.length_cons]; exact ⟨List.mem_cons_of_mem _ this.1,by omega,by omega⟩
   ·rcases List.mem_cons.1 h with rfl | h
    ·exact ⟨List.mem_cons_self ..,Nat.le_refl _,by simp⟩
    ·have:=rawE_mem h; rw [List.length_cons]; exact ⟨List.mem_cons_of_mem _ this.1,by omega,by omega⟩
theorem parE_size (lv:Int) (p:Nat×ByteArray):(parE lv p).1.size≤p.2.size:=by
 unfold parE; split
 ·simp only [ByteArray.size_extract]; omega
 ·exact Nat.le_refl _
theorem srt_size {lv:Int} {l:List (Nat×ByteArray)} {M:Nat} (h:∀ p∈l,p.2.size≤M) (k:Nat):((srt lv l).getD k en0).1.size≤M:=by
 rcases Nat.lt_or_ge k (srt lv l).length with hk | hk
 ·rw [List.getD_eq_getElem?_getD,List.getElem?_eq_getElem hk,Option.getD_some]
  have h1:(srt lv l)[k]∈srt lv l:=List.getElem_mem hk
  have h2:=sortR_mem (List.mem_reverse.1 h1)
  obtain ⟨p,hp,he⟩:=List.mem_map.1 (List.mem_reverse.1 h2)
  rw [← he]
  exact Nat.le_trans (parE_size lv p) (h p hp)
 ·rw [List.getD_eq_getElem?_getD,List.getElem?_eq_none hk]
  exact Nat.zero_le _
theorem drop_less {S:List EnD} {m:Nat} {x:ByteArray} (hm:m+1≤S.length) (h:∀ y∈S.drop (m+1),lessF x y.1=true) (h2:lessF x (S.getD m en0).1=true):∀ y∈S.drop m,lessF x y.1=true:=by
 intro y hy
 rw [List.drop_eq_getElem_cons (by omega)] at hy
 rcases List.mem_cons.1 hy with rfl | hy
 ·rw [List.getD_eq_getElem?_getD,List.getElem?_eq_getElem (by omega)] at h2; exact h2
 ·exact h y hy
theorem size_nil {x:ByteArray}:(x.toList==(⟨#[]⟩:ByteArray).toList)=decide (x.size=0):=by
 rw [bqd]
 congr 1
 exact propext ⟨fun h=>by rw [h]; rfl,fun h=>bl_inj (by rw [List.eq_nil_of_length_eq_zero (l:=bl x) (by rw [bl_len,h])]; rfl)⟩
theorem Try.infoInt:(Try.prog.info? 3).map (fun i=>(i.zero,i.size,i.bytes))=some (some (.int .i64 0),1,8):=by kernel_rfl
theorem rread_c (k lsn:Int) (A:Option Addr) (c n:Nat) (h:ByteArray) (l:List ByteArray) (w:World) (hA:At w A ((h::l).map Value.string)) (hn:(h::l).length=n) (hl:n≤100000) (hsz:∀ s∈h::l,s.size≤1000000):
  Calls Try.prog 33 #[.agg #[.int .i64 k, .int .i64 lsn, .slice A n c]] w (NdPost (nodF k (h::l)) w):=by
 have hn0:0 < n:=by rw [← hn]; simp
 have hhz:=hsz h (by simp)
 go_enter Try.func33,Try.ntmps33
 have hst0:=St.start w
 refine wp_seq (sqr ?_)
 refine sqbx #[vi k,vi lsn, .slice A n c] hst0 fun B1_1 W1 hst1=>?_
 refine sqal #[.bool false, .bool false,vi 0,vi 0, .string ByteArray.empty, .slice none 0 0, .slice none 0 0, .slice none 0 0] hst1 fun B2_2 W2 hst2=>?_
 refine then_normal (wp_seq (wp_seq (sqr (sqp [.k 9 (vp B1_1)] ?_))))
 refine sqld 0 hst2 ?_
 refine sqp [.k 11 (.bool (k != 2)), .m 12 11] ?_
 refine sqw' 12 [13,14,15,16] ?_ rfl (fun hq=>?_) ?_
 rotate_left
 ·refine sqp [.k 13 (.pointer (some ⟨B1_1,2,none⟩))] ?_
  refine sqld 0 hst2 ?_
  refine sqp [.k 15 (vi ((n:Int))), .k 16 (.bool ((n:Int)==0))] ?_
  exact sqe
 refine sqwx ?_
 refine sqp [sPo 17 (k != 2) ((n:Int)==0)] ?_
 refine then_normal (wbs (fun hs12=>?_) fun hs12=>?_)
 ·have hs12p:=hs12
  simp only [zB] at hs12p
  refine wp_seq (sqr (sqp [.k 18 (.agg #[.bool false, .bool false,vi 0,vi 0, .string ByteArray.empty, .slice none 0 0, .slice none 0 0, .slice none 0 0])] ?_))
  refine sqst (n:=8) 1 #[.bool false, .bool false,vi 0,vi 0, .string ByteArray.empty, .slice none 0 0, .slice none 0 0, .slice none 0 0] hst2 fun W14 hst14=>?_
  refine then_normal (wp_ret (then_ret ?_))
  refine bpr (.agg #[.bool false, .bool false,vi 0,vi 0, .string ByteArray.empty, .slice none 0 0, .slice none 0 0, .slice none 0 0]) (results_cell (n:=8) Try.results33 rfl (by kernel_rfl) (by kernel_rfl) (hst14.blk 1 rfl) rfl) ?_
  exact rd_none (nodF_bad (.inl (kind_bad (by assumption) hn0))) hst14.ext
 have hs12p:=hs12
 simp only [zB] at hs12p
 obtain ⟨hs12p1,hs12p2⟩:=hs12p
 refine wp_skip (then_normal (wp_seq (sqr (sqp [.k 19 (.pointer (some ⟨B1_1,2,none⟩))] ?_))))
 refine sqld 0 hst2 ?_
 refine sql (.pointer (some ((ad A).add 0))) hst2 (fun cx=>run_indexSl (e:=9) (m:=0) rfl (by kernel_rfl) (by kernel_rfl) (cx.ou 20) (cx.co _) (by omega) (by omega) (hA.ext cx.upd.to_ext) (by rw [List.length_map]; exact hn)) ?_
 refine sql (.string h) hst2 (fun cx=>run_load1 rfl (by kernel_rfl) (cx.ou 21) (At.cellAd (hA.ext cx.upd.to_ext) rfl)) ?_
 refine sqp [.m 3 22] ?_
 refine then_normal (wp_seq (wp_seq (sqr (sqp [.m 23 3, .k 24 (vi ((h.size:Int))), .k 25 (.bool (decide ((h.size:Int) < 4))), .m 26 25] ?_))))
 refine sqw' 26 [27,28,29] ?_ rfl (fun hq=>?_) ?_
 rotate_left
 ·have hq_:=of_decide_eq_false hq
  refine sqp [.m 27 3] ?_
  refine sql (.int .u8 (byteI (bl h) 1)) hst2 (fun cx=>run_indexS (m:=1) rfl (by kernel_rfl) (cx.ou 27) (cx.co _) (by omega) (by omega)) ?_
  refine sqp [.k 29 (.bool (decide (1 < byteI (bl h) 1)))] ?_
  exact sqe
 refine sqwx ?_
 refine sqp [sPo 30 (decide ((h.size:Int) < 4)) (decide (1 < byteI (bl h) 1)), .m 31 30] ?_
 refine sqw' 31 [32,33,34,35,36,37,38,39] ?_ rfl (fun hq=>?_) ?_
 rotate_left
 ·refine sqp [.m 32 3, .k 33 (vi ((h.size:Int))), .k 34 (.bool (decide (4 < (h.size:Int)))), .m 35 34] ?_
  refine sqw 35 [36,37,38] rfl (fun _=>sqp [.m 36 3, .k 37 (vi ((h.size:Int))), .k 38 (.bool (decide ((h.size:Int) < 8)))] sqe) ?_
  refine sqp [sPa 39 (decide (4 < (h.size:Int))) (decide ((h.size:Int) < 8))] ?_
  exact sqe
 refine sqwx ?_
 refine sqp [sPo 40 ((decide ((h.size:Int) < 4))||(decide (1 < byteI (bl h) 1))) ((decide (4 < (h.size:Int)))&&(decide ((h.size:Int) < 8)))] ?_
 refine then_normal (wbs (fun hs38=>?_) fun hs38=>?_)
 ·have hs38p:=hs38
  simp only [zB] at hs38p
  refine wp_seq (sqr (sqp [.k 41 (.agg #[.bool false, .bool false,vi 0,vi 0, .string ByteArray.empty, .slice none 0 0, .slice none 0 0, .slice none 0 0])] ?_))
  refine sqst (n:=8) 1 #[.bool false, .bool false,vi 0,vi 0, .string ByteArray.empty, .slice none 0 0, .slice none 0 0, .slice none 0 0] hst2 fun W40 hst40=>?_
  refine then_normal (wp_ret (then_ret ?_))
  refine bpr (.agg #[.bool false, .bool false,vi 0,vi 0, .string ByteArray.empty, .slice none 0 0, .slice none 0 0, .slice none 0 0]) (results_cell (n:=8) Try.results33 rfl (by kernel_rfl) (by kernel_rfl) (hst40.blk 1 rfl) rfl) ?_
  exact rd_none (nodF_bad (.inr (.inr (.inl ⟨h,l,rfl,by have h_:=hdOk_not (h:=h); rw [hs38] at h_; simpa using h_.symm⟩)))) hst40.ext
 have hs38p:=hs38
 simp only [zB] at hs38p
 obtain ⟨⟨hs38p1,hs38p2⟩,hs38p3⟩:=hs38p
 refine wp_skip (then_normal (wp_seq ?_))
 have hok:hdOk h=true:=by have h_:=hdOk_not (h:=h); rw [hs38] at h_; simpa using h_.symm
 have h4:4≤h.size:=by unfold hdOk at hok; simp only [Bool.and_eq_true,decide_eq_true_eq] at hok; exact hok.1.1
 have hb0_:=byteI_bd (bl h) 0
 have hb1_:=byteI_bd (bl h) 1
 have hb2_:=byteI_bd (bl h) 2
 have hb3_:=byteI_bd (bl h) 3
 refine wp_region_Y [0,1,3,0,8,24,0,64,192,448,0,1024,3072,8128,16320,0,32768,131071,0,524287] [[],[],[],[],[],[],[],[],[],[],[],[],[],[],[],[],[],[],[],[2]] [[],[],[],[],[],[],[],[],[],[],[],[],[],[],[],[],[],[],[2],[3]] [[],[],[],[],[],[],[],[],[],[],[],[],[],[],[],[],[],[],[],[2]] [.k 42 (.string h), .c 43 (.int .u8 (byteI (bl h) 0)),tW 44 .i64 (byteI (bl h) 0) (byteI (bl h) 0) (IntWalk.i64_in _ (by omega)), .k 45 (.string h), .c 46 (.int .u8 (byteI (bl h) 1)), .k 47 (.bool ((byteI (bl h) 1)==1)), .k 48 (.string h), .c 49 (.int .u8 (byteI (bl h) 2)),tW 50 .i64 (byteI (bl h) 2) (byteI (bl h) 2) (IntWalk.i64_in _ (by omega)),tI 51 ((byteI (bl h) 2)*256) (by omega), .k 52 (.string h), .c 53 (.int .u8 (byteI (bl h) 3)),tW 54 .i64 (byteI (bl h) 3) (byteI (bl h) 3) (IntWalk.i64_in _ (by omega)),tI 55 (((byteI (bl h) 2)*256)+(byteI (bl h) 3)) (by omega),tI 56 (((byteI (bl h) 2)*256+(byteI (bl h) 3)) - 1) (by omega), .k 57 (.string h), .c 58 (.string (h.extract 4 h.size)), .k 59 (.agg #[.bool true, .bool ((byteI (bl h) 1)==1),vi (byteI (bl h) 0),vi ((byteI (bl h) 2)*256+(byteI (bl h) 3) - 1), .string (h.extract 4 h.size), .slice none 0 0, .slice none 0 0, .slice none 0 0]), .a 4, .n] (fun ix σ β X=>match ix with | 0=>True | 1=>True | 2=>True | 3=>True | 4=>True | 5=>True | 6=>True | 7=>True | 8=>True | 9=>True | 10=>True | 11=>True | 12=>True | 13=>True | 14=>True | 15=>True | 16=>True | 17=>True | 18=>σ 4=vp (pb (β 4))∧X 2=eB (pb (β 4)) 66 #[.bool false, .bool false,vi 0,vi 0, .string ByteArray.empty, .slice none 0 0, .slice none 0 0, .slice none 0 0] | 19=>X 3=eB (pb (β 4)) 66 #[.bool true, .bool ((byteI (bl h) 1)==1),vi (byteI (bl h) 0),vi ((byteI (bl h) 2)*256+(byteI (bl h) 3) - 1), .string (h.extract 4 h.size), .slice none 0 0, .slice none 0 0, .slice none 0 0] | _=>True) [0,1,3] [1,4,7,11,16,18,19] [(4,18,1,5),(37,0,18,55)] hst2 ?_ ?_ ?_
 ·exact fun ix _ _ _ _ _ _ hs hb hx h=>match ix,h with
  | 18,h=>by dsimp only; rw [← hs 4 rfl,← hb 4 rfl,← hx 2 rfl]; exact h
  | 19,h=>by dsimp only; rw [← hb 4 rfl,← hx 3 rfl]; exact h
  | 0, _ | 1, _ | 2, _ | 3, _ | 4, _ | 5, _ | 6, _ | 7, _ | 8, _ | 9, _ | 10, _ | 11, _ | 12, _ | 13, _ | 14, _ | 15, _ | 16, _ | 17, _ | _+20, _=>trivial
 ·refine ⟨?_,?_,?_,?_,?_,?_,?_,trivial⟩
  ·exact xs4 rfl id fun cx=>run_indexS (m:=0) rfl (by kernel_rfl) (cx.an 0) (cx.co _) (by omega) (by omega)
  ·exact xs4 rfl id fun cx=>run_indexS (m:=1) rfl (by kernel_rfl) (cx.an 3) (cx.co _) (by omega) (by omega)
  ·exact xs4 rfl id fun cx=>run_indexS (m:=2) rfl (by kernel_rfl) (cx.an 6) (cx.co _) (by omega) (by omega)
  ·exact xs4 rfl id fun cx=>run_indexS (m:=3) rfl (by kernel_rfl) (cx.an 10) (cx.co _) (by omega) (by omega)
  ·exact xs4 rfl id fun cx=>run_slice_lo (l:=4) rfl (by kernel_rfl) (cx.an 15) (cx.co _) (by omega) (by omega)
  ·refine svA fun ρ β W X cx=>?_
   exact dv_alloc (cs:=#[.bool false, .bool false,vi 0,vi 0, .string ByteArray.empty, .slice none 0 0, .slice none 0 0, .slice none 0 0]) rfl (by kernel_rfl) rfl rfl (fun σ β' X' hs hb hv hx=>⟨hv,hx⟩)
  ·refine svA fun ρ β W X cx=>?_
   exact dv_store (n:=8) rfl (dTn (cx.an 18)).1 (cx.an 17) (by kernel_rfl) (by kernel_rfl) (by kernel_rfl) cx (dTn (cx.an 18)).2 rfl (nle rfl) (by kernel_rfl) rfl rfl rfl (fun σ β' X' hs hb hx=>by rw [hb 4]; exact hx)
 intro σ β X W41 hD hst41 fr hfr
 obtain ⟨B4_41,hu_B4_41⟩:∃ z,pb (β 4)=z:=⟨_,rfl⟩
 simp only [exq 3 ((dTn (hD 19 lq))),hu_B4_41] at hst41
 simp only [ed 4 ((dTn (hD 18 lq)).1),hu_B4_41] at hfr
 clear hD hu_B4_41; subst hfr; clear σ β X
 refine then_normal (wp_seq (wp_seq (sqr (sqp [.k 5 (vi 1)] ?_))))
 refine then_normal (wp_block ?_)
 have hlv:(numS h 0 1:Int)=byteI (bl h) 0:=numS_one h 0 (by omega)
 obtain ⟨lv,hN_lv⟩:∃ z,byteI (bl h) 0=z:=⟨_,rfl⟩
 rw [hN_lv] at hst41 ⊢
 rw [hN_lv] at hlv hb0_
 have hn43:=St.nilrow hst41 9
 simp only [List.cons_append,List.nil_append] at hn43
 have hn44:=St.nilrow hn43 3
 simp only [List.cons_append,List.nil_append] at hn44
 have hn45:=St.nilrow hn44 3
 simp only [List.cons_append,List.nil_append] at hn45
 refine wp_loopT (fun t_ mz az W=>∃ i:Nat,∃ nn:Nat,∃ S:List EnD,∃ EA:Option Addr,∃ ec:Nat,∃ SA:Option Addr,∃ sc:Nat,∃ KA:Option Addr,∃ kc:Nat,1≤i∧i≤n∧S=srt lv (preE (h::l) i)∧(preE (h::l) i).any (badE lv)=false∧S.length=nn∧nn≤i∧(∀ k,(S.getD k en0).1.size≤1000000)∧mz=n - i∧az=⟨(ovr (jv az) [(5,5,0,[vi ((i:Int))]),(0,6,3,[]),(51,60,106,[])] t_).toArray,[]⟩∧St w [] [eB B1_1 51 #[vi k,vi lsn, .slice A n c],eB B2_2 66 #[.bool false, .bool false,vi 0,vi 0, .string ByteArray.empty, .slice none 0 0, .slice none 0 0, .slice none 0 0],eB B4_41 66 #[.bool true, .bool ((byteI (bl h) 1)==1),vi (lv),vi ((byteI (bl h) 2)*256+(byteI (bl h) 3) - 1), .string (h.extract 4 h.size), .slice EA nn ec, .slice SA nn sc, .slice KA nn kc],eO 9 1 (.slice EA nn ec) nn (S.map stv),eO 3 1 (.slice SA nn sc) nn (S.map slv),eO 3 1 (.slice KA nn kc) nn (S.map kdv)] W) (n - 1) ?_ ?_
 · -- the loop begins
   exact ⟨1,0,[],none,0,none,0,none,0,Nat.le_refl _,by omega,rfl,rfl,rfl,by omega,fun k=>Nat.zero_le _,rfl,(by kernel_rfl),hn45.pk [0,1,2,3,4,5]⟩
 rintro n46 a46 W46 ⟨i,nn,S,EA,ec,SA,sc,KA,kc,hi1,hin,hS,hbad,hnn,hni,hSz,rfl,hj_,hst46⟩
 refine ovz hj_ fun u46_=>?_
 refine wp_seq (wp_seq (sqr (sqp [.m 60 5, .k 61 (.pointer (some ⟨B1_1,2,none⟩))] ?_)))
 refine sqld 0 hst46 ?_
 refine sqp [.k 63 (vi ((n:Int))), .k 64 (.bool (decide ((i:Int) < (n:Int))))] ?_
 refine then_normal (wds (fun hs52 hs52p=>?_) fun hs52 hs52p=>?_)
 ·refine wp_skip (then_normal (wp_seq (wp_block (wp_seq (sqr (sqp [.k 67 (.pointer (some ⟨B1_1,2,none⟩))] ?_))))))
  refine sqld 0 hst46 ?_
  refine sqp [.m 69 5] ?_
  refine sql (.pointer (some ((ad A).add i))) hst46 (fun cx=>run_indexSl (e:=9) (m:=i) rfl (by kernel_rfl) (by kernel_rfl) (cx.ou 68) (cx.ou 69) (by omega) (by omega) (hA.ext cx.upd.to_ext) (by rw [List.length_map]; exact hn)) ?_
  refine sql (.string ((h::l).getD i ByteArray.empty)) hst46 (fun cx=>run_load1 rfl (by kernel_rfl) (cx.ou 70) (At.cellAd (hA.ext cx.upd.to_ext) (getD_str (by omega)))) ?_
  refine sqp [.m 6 71] ?_
  refine then_normal (wp_seq (wp_seq ?_))
  have hyz:((h::l).getD i ByteArray.empty).size≤1000000:=hsz _ (by rw [List.getD_eq_getElem?_getD,List.getElem?_eq_getElem (show i < (h::l).length by rw [hn]; exact (by omega))]; exact List.getElem_mem _)
  have hps:=preE_step (its:=h::l) hi1 (by rw [hn]; omega)
  have hpl:=preE_len (its:=h::l) hi1
  obtain ⟨y,hN_y⟩:∃ z,(h::l).getD i ByteArray.empty=z:=⟨_,rfl⟩
  rw [hN_y]
  rw [hN_y] at hyz hps
  refine sqr (sqp [.m 72 6, .k 73 (.bool (y.toList==((⟨#[]⟩:ByteArray)).toList))] ?_)
  refine then_normal (wbs (fun hs61=>?_) fun hs61=>?_)
  ·refine wp_exit (then_exit (blk_eq (then_normal (sqr (sqp [.m 65 5,sI 66 ((i:Int)+1) (by omega), .m 5 66] ?_)))))
   refine then_normal ?_
   have hpr0:preE (h::l) (i+1)=preE (h::l) i:=by have h_:=hs61; rw [size_nil] at h_; rw [hps,if_pos (of_decide_eq_true h_),List.append_nil]
   refine ⟨n - ((i+1)),by omega,?_⟩
   exact ⟨(i+1),nn,S,EA,ec,SA,sc,KA,kc,by omega,by omega,by rw [hpr0]; exact hS,by rw [hpr0]; exact hbad,hnn,by omega,hSz,rfl,(by kernel_rfl),hst46.pk [0,1,2,3,4,5]⟩
  refine wp_skip (then_normal (wp_seq ?_))
  have hy0:¬ y.size=0:=by have h_:=hs61; rw [size_nil] at h_; exact of_decide_eq_false h_
  rw [if_neg hy0] at hps
  refine sqr (sqp [.k 7 (vi (-1))] ?_)
  refine then_normal ?_
  refine wp_cutT (fun t_ az W=>∃ x:ByteArray,∃ kd:Int,parE lv (i,y)=(x,i,kd)∧badE lv (i,y)=decide (x.size < 4)∧x.size≤1000000∧az=⟨(ovr (jv az) [(6,6,0,[.string x,vi kd]),(66,74,26,[])] t_).toArray,[]⟩∧St w [] [eB B1_1 51 #[vi k,vi lsn, .slice A n c],eB B2_2 66 #[.bool false, .bool false,vi 0,vi 0, .string ByteArray.empty, .slice none 0 0, .slice none 0 0, .slice none 0 0],eB B4_41 66 #[.bool true, .bool ((byteI (bl h) 1)==1),vi (lv),vi ((byteI (bl h) 2)*256+(byteI (bl h) 3) - 1), .string (h.extract 4 h.size), .slice EA nn ec, .slice SA nn sc, .slice KA nn kc],eO 9 1 (.slice EA nn ec) nn (S.map stv),eO 3 1 (.slice SA nn sc) nn (S.map slv),eO 3 1 (.slice KA nn kc) nn (S.map kdv)] W) ?_ ?_
  ·refine wp_seq (sqr (sqp [.k 74 (.pointer (some ⟨B4_41,2,none⟩))] ?_))
   refine sqld 2 hst46 ?_
   refine sqp [.k 76 (.bool (decide (0 < lv)))] ?_
   refine then_normal (wds (fun hs70 hs70p=>?_) fun hs70 hs70p=>?_)
   ·refine wp_seq (wp_seq (sqr (sqp [.m 77 6, .k 78 (vi ((y.size:Int))), .k 79 (.bool (decide ((y.size:Int) < 6)))] ?_)))
    refine then_normal (wds (fun hs74 hs74p=>?_) fun hs74 hs74p=>?_)
    ·refine wp_seq (sqr (sqp [.k 80 (.agg #[.bool false, .bool false,vi 0,vi 0, .string ByteArray.empty, .slice none 0 0, .slice none 0 0, .slice none 0 0])] ?_))
     refine sqst (n:=8) 1 #[.bool false, .bool false,vi 0,vi 0, .string ByteArray.empty, .slice none 0 0, .slice none 0 0, .slice none 0 0] hst46 fun W76 hst76=>?_
     refine then_normal (wp_ret (then_ret (then_ret (blk_ret (then_ret (then_ret (blk_ret (then_ret ?_))))))))
     refine bpr (.agg #[.bool false, .bool false,vi 0,vi 0, .string ByteArray.empty, .slice none 0 0, .slice none 0 0, .slice none 0 0]) (results_cell (n:=8) Try.results33 rfl (by kernel_rfl) (by kernel_rfl) (hst76.blk 1 rfl) rfl) ?_
     exact rd_none (rd_badx hlv hi1 (by rw [hn]; omega) (by rw [hN_y]; exact hy0) (by rw [hN_y,badE,if_pos (by omega)]; exact decide_eq_true (show y.size < 6 by omega))) hst76.ext
    refine wp_skip (then_normal (wp_seq ?_))
    have hq1_:=byteI_bd (bl y) ((y.size:Int) - 2).toNat
    have hq2_:=byteI_bd (bl y) ((y.size:Int) - 1).toNat
    refine wp_region_Z [0,0,2,6,15,31,63,0,0,256,768,1920,3968,8191,16383] [] [.k 81 (.string (y)), .k 82 (.string (y)), .k 83 (vi ((y.size:Int))),tI 84 ((y.size:Int) - 2) (by omega), .c 85 (.int .u8 (byteI (bl y) (((y.size:Int) - 2).toNat))),tW 86 .i64 (byteI (bl y) (((y.size:Int) - 2).toNat)) (byteI (bl y) (((y.size:Int) - 2).toNat)) (IntWalk.i64_in _ (by omega)),tI 87 ((byteI (bl y) (((y.size:Int) - 2).toNat))*256) (by omega), .k 88 (.string (y)), .k 89 (.string (y)), .k 90 (vi ((y.size:Int))),tI 91 ((y.size:Int) - 1) (by omega), .c 92 (.int .u8 (byteI (bl y) (((y.size:Int) - 1).toNat))),tW 93 .i64 (byteI (bl y) (((y.size:Int) - 1).toNat)) (byteI (bl y) (((y.size:Int) - 1).toNat)) (IntWalk.i64_in _ (by omega)),tI 94 (((byteI (bl y) (((y.size:Int) - 2).toNat))*256)+(byteI (bl y) (((y.size:Int) - 1).toNat))) (by omega), .k 7 (vi (((byteI (bl y) (((y.size:Int) - 2).toNat))*256)+(byteI (bl y) (((y.size:Int) - 1).toNat))))] [0,1,2,3,4,5] [4,11] [(7,14,1,8),(73,0,14,87)] hst46 ?_ fun W77 hst77=>?_
    ·refine ⟨?_,?_,trivial⟩
     ·exact xs4 rfl id fun cx=>run_indexS (m:=((y.size:Int) - 2).toNat) rfl (by kernel_rfl) (cx.an 0) (cx.an 3) (by omega) (by omega)
     ·exact xs4 rfl id fun cx=>run_indexS (m:=((y.size:Int) - 1).toNat) rfl (by kernel_rfl) (cx.an 7) (cx.an 10) (by omega) (by omega)
    refine then_normal (sqr (sqp [.m 95 6, .m 96 6, .k 97 (vi ((y.size:Int))),sI 98 ((y.size:Int) - 2) (by omega)] ?_))
    refine sql (.string (y.extract 0 (((y.size:Int) - 2).toNat))) hst77 (fun cx=>run_slice_hi (l:=((y.size:Int) - 2).toNat) rfl (by kernel_rfl) (cx.ou 95) (cx.ou 98) (by omega) (by omega)) ?_
    refine sqp [.m 6 99] ?_
    refine then_normal ?_
    exact ⟨(y.extract 0 (((y.size:Int) - 2).toNat)),(((byteI (bl y) (((y.size:Int) - 2).toNat))*256)+(byteI (bl y) (((y.size:Int) - 1).toNat))),by rw [parE,if_pos (by omega),numS_two _ _ (by show y.size - 2+2≤y.size; omega),show ((y.size:Int) - 2).toNat=y.size - 2 by omega,show ((y.size:Int) - 1).toNat=y.size - 2+1 by omega],by rw [badE,if_pos (by omega),ByteArray.size_extract]; show decide (y.size < 6)= _; rw [decide_eq_false (by omega),decide_eq_false (by omega)],by rw [ByteArray.size_extract]; omega,(by kernel_rfl),hst77.pk [0,1,2,3,4,5]⟩
   refine wp_skip (then_normal ?_)
   exact ⟨y,(-1),by rw [parE,if_neg (by omega)],by rw [badE,if_neg (by omega)],hyz,(by kernel_rfl),hst46.pk [0,1,2,3,4,5]⟩
  rintro a66 W66 ⟨x,kd,hpx,hbx,hxz,hj_,hst66⟩
  refine ovz hj_ fun u66_=>?_
  refine wp_seq (wp_seq (sqr (sqp [.m 100 6, .k 101 (vi ((x.size:Int))), .k 102 (.bool (decide ((x.size:Int) < 4)))] ?_)))
  refine then_normal (wds (fun hs87 hs87p=>?_) fun hs87 hs87p=>?_)
  ·refine wp_seq (sqr (sqp [.k 103 (.agg #[.bool false, .bool false,vi 0,vi 0, .string ByteArray.empty, .slice none 0 0, .slice none 0 0, .slice none 0 0])] ?_))
   refine sqst (n:=8) 1 #[.bool false, .bool false,vi 0,vi 0, .string ByteArray.empty, .slice none 0 0, .slice none 0 0, .slice none 0 0] hst66 fun W89 hst89=>?_
   refine then_normal (wp_ret (then_ret (blk_ret (then_ret (then_ret (blk_ret (then_ret ?_)))))))
   refine bpr (.agg #[.bool false, .bool false,vi 0,vi 0, .string ByteArray.empty, .slice none 0 0, .slice none 0 0, .slice none 0 0]) (results_cell (n:=8) Try.results33 rfl (by kernel_rfl) (by kernel_rfl) (hst89.blk 1 rfl) rfl) ?_
   exact rd_none (rd_badx hlv hi1 (by rw [hn]; omega) (by rw [hN_y]; exact hy0) (by rw [hN_y,hbx]; exact decide_eq_true (by omega))) hst89.ext
  refine wp_skip (then_normal (wp_seq ?_))
  have hx4:badE lv (i,y)=false:=by rw [hbx]; exact decide_eq_false (by omega)
  refine sqr (sqp [.k 104 (.pointer (some ⟨B4_41,5,none⟩))] ?_)
  refine sqld 2 hst66 ?_
  refine sqp [.k 106 (vi ((nn:Int))), .m 8 106] ?_
  refine then_normal (wp_seq (wp_block ?_))
  refine wp_loopT (fun t_ mz az W=>∃ m:Nat,m≤nn∧(∀ y∈S.drop m,lessF x y.1=true)∧mz=m+1∧az=⟨(ovr (jv az) [(8,8,0,[vi ((m:Int))]),(98,107,14,[])] t_).toArray,[]⟩∧St w [] [eB B1_1 51 #[vi k,vi lsn, .slice A n c],eB B2_2 66 #[.bool false, .bool false,vi 0,vi 0, .string ByteArray.empty, .slice none 0 0, .slice none 0 0, .slice none 0 0],eB B4_41 66 #[.bool true, .bool ((byteI (bl h) 1)==1),vi (lv),vi ((byteI (bl h) 2)*256+(byteI (bl h) 3) - 1), .string (h.extract 4 h.size), .slice EA nn ec, .slice SA nn sc, .slice KA nn kc],eO 9 1 (.slice EA nn ec) nn (S.map stv),eO 3 1 (.slice SA nn sc) nn (S.map slv),eO 3 1 (.slice KA nn kc) nn (S.map kdv)] W) (nn+1) ?_ ?_
  · -- the loop begins
    exact ⟨nn,Nat.le_refl _,(by rw [List.drop_of_length_le (by omega)]; exact fun _ hy=>nomatch hy),rfl,(by kernel_rfl),hst66.pk [0,1,2,3,4,5]⟩
  rintro n94 a94 W94 ⟨m,hm,hm2,rfl,hj_,hst94⟩
  refine ovz hj_ fun u94_=>?_
  refine wp_seq (wp_seq (sqr (sqp [.m 107 8, .k 108 (.bool (decide (0 < (m:Int)))), .m 109 108] ?_)))
  refine sqwW 109 [110,111,112,113,114,115,116,117] ?_ hst94 rfl (fun hq=>?_) fun W106 hst106=>?_
  rotate_left
  ·have hq_:=of_decide_eq_true hq
   refine sqp [.m 110 6, .k 111 (.pointer (some ⟨B4_41,5,none⟩))] ?_
   refine sqld 2 hst94 ?_
   refine sqp [.m 113 8,sI 114 ((m:Int) - 1) (by omega)] ?_
   refine sql (.pointer (some ((ad EA).add (((m:Int) - 1).toNat)))) hst94 (fun cx=>run_indexSl (e:=9) (m:=((m:Int) - 1).toNat) rfl (by kernel_rfl) (by kernel_rfl) (cx.ou 112) (cx.ou 114) (by omega) (by omega) (At.of_own (cx.ri 3 rfl)) (by simp; omega)) ?_
   refine sql (.string ((S.getD ((m:Int) - 1).toNat en0).1)) hst94 (fun cx=>run_load1 rfl (by kernel_rfl) (cx.ou 115) (At.cellAd (At.of_own (cx.ri 3 rfl)) (st_get (by omega)))) ?_
   refine sqk (.bool (lessF x ((S.getD ((m:Int) - 1).toNat en0).1))) hst94 (fun cx=>⟨_,rless_any x ((S.getD ((m:Int) - 1).toNat en0).1) _ (by omega) (hSz _),(map2 (cx.ou 110) (cx.ou 116))⟩) fun W105 hst105=>?_
   exact sqE hst105
  refine sqwx ?_
  refine sqp [sPa 118 (decide (0 < (m:Int))) (lessF x ((S.getD ((m:Int) - 1).toNat en0).1))] ?_
  refine then_normal (wbs (fun hs108=>?_) fun hs108=>?_)
  ·have hs108p:=hs108
   simp only [zB] at hs108p
   obtain ⟨hs108p1,hs108p2⟩:=hs108p
   refine wp_skip (then_normal (wp_block (sqr (sqp [.m 119 8,sI 120 ((m:Int) - 1) (by omega), .m 8 120] ?_))))
   refine blk_normal (then_normal ?_)
   rw [show ((m:Int) - 1)=((m - 1:Nat):Int) by omega]
   refine ⟨((m - 1))+1,by omega,?_⟩
   exact ⟨(m - 1),by omega,by have h_:=(by have h_:=hs108; rw [Bool.and_eq_true] at h_; have h3_:=h_.2; rwa [show ((m:Int) - 1).toNat=m - 1 by omega] at h3_); have h2_:=drop_less (S:=S) (m:=m - 1) (by omega) (by rw [Nat.sub_add_cancel (by omega)]; exact hm2) h_; exact h2_,rfl,(by kernel_rfl),hst106.pk [0,1,2,3,4,5]⟩
  have hs108p:=hs108
  simp only [zB] at hs108p
  refine wp_exit (then_exit (then_exit (blk_eq (then_normal (wp_seq ?_)))))
  have hcut:m=0∨∃ z,(srt lv (preE (h::l) i))[m - 1]? =some z∧lessF (parE lv (i,y)).1 z.1=false:=by
   rcases Nat.eq_zero_or_pos m with h0 | h0
   ·exact .inl h0
   ·refine .inr ⟨S.getD (m - 1) en0,by rw [← hS,List.getD_eq_getElem?_getD,List.getElem?_eq_getElem (by omega)]; rfl,?_⟩
    have h_:=hs108
    rw [Bool.and_eq_false_iff] at h_
    rcases h_ with h_ | h_
    ·exact absurd (of_decide_eq_false h_) (by omega)
    ·rw [show ((m:Int) - 1).toNat=m - 1 by omega] at h_; rw [hpx]; exact h_
  have hS2:S.take m++(x,i,kd)::S.drop m=srt lv (preE (h::l) (i+1)):=by
   rw [hps,srt_snoc (m:=m) (by rw [← srt_len lv,← hS]; omega) (by rw [← hS,hpx]; exact hm2) hcut,← hS,hpx]
  have hbad2:(preE (h::l) (i+1)).any (badE lv)=false:=by rw [hps]; exact any_step hbad hx4
  have hS2l:(S.take m++(x,i,kd)::S.drop m).length=nn+1:=by rw [List.length_append,List.length_cons,List.length_take,List.length_drop]; omega
  have hSz2:∀ k,((S.take m++(x,i,kd)::S.drop m).getD k en0).1.size≤1000000:=by rw [hS2]; exact srt_size (fun p hp=>hsz _ (List.mem_cons_of_mem _ (rawE_mem (rawE_pre hp)).1))
  have hcEA_:=eown_cap (hst106.own' 3 rfl)
  have hcSA_:=eown_cap (hst106.own' 4 rfl)
  have hcKA_:=eown_cap (hst106.own' 5 rfl)
  refine wp_region_Y [0,0,2,0,14,31,0,64,255,0,512,0,3584,8191,16383,32767] [[],[],[2],[],[],[3,6],[],[],[8,7],[],[2],[],[],[3,9],[],[2]] [[6],[],[],[],[],[7],[],[8],[9],[],[],[],[],[10],[],[11]] [[],[],[],[],[],[6],[],[],[7],[],[],[],[],[9],[],[2]] [.a 121, .k 122 (.pointer (some ⟨B4_41,5,none⟩)), .c 123 (.slice EA nn ec), .k 124 (vi ((m:Int))), .c 125 (.slice EA m ec), .a 126, .k 127 (.string x), .a 128, .a 129, .k 130 (.pointer (some ⟨B4_41,5,none⟩)), .c 131 (.slice EA nn ec), .k 132 (vi ((m:Int))), .c 133 (.slice ((if ec=m then EA else EA.map (·.add (m*1)))) ((nn - m)) ((ec - m))), .a 134, .k 135 (.pointer (some ⟨B4_41,5,none⟩)), .n] (fun ix σ β X=>match ix with | 0=>σ 121= .slice (sA (β 121)) 0 0∧X 6=eO 9 1 (.slice (sA (β 121)) 0 0) 0 ([]) | 1=>True | 2=>True | 3=>True | 4=>True | 5=>σ 126= .slice (sA (β 126)) m (sC (β 126))∧X 7=eO 9 1 (.slice (sA (β 126)) m (sC (β 126))) m ((S.take m).map stv) | 6=>True | 7=>σ 128= .slice (sA (β 128)) 1 1∧X 8=eO 9 1 (.slice (sA (β 128)) 1 1) 1 ([.string x]) | 8=>σ 129= .slice (sA (β 129)) (m+1) (sC (β 129))∧X 9=eO 9 1 (.slice (sA (β 129)) (m+1) (sC (β 129))) (m+1) (((S.take m).map stv)++[.string x]) | 9=>True | 10=>True | 11=>True | 12=>True | 13=>σ 134= .slice (sA (β 134)) ((nn+1)) (sC (β 134))∧X 10=eO 9 1 (.slice (sA (β 134)) ((nn+1)) (sC (β 134))) ((nn+1)) ((((S.take m).map stv)++[.string x])++((S.drop m).map stv)) | 14=>True | 15=>X 11=eB B4_41 66 #[.bool true, .bool ((byteI (bl h) 1)==1),vi (lv),vi ((byteI (bl h) 2)*256+(byteI (bl h) 3) - 1), .string (h.extract 4 h.size), .slice (sA (β 134)) ((nn+1)) (sC (β 134)), .slice SA nn sc, .slice KA nn kc] | _=>True) [0,1,3,4,5,8,10,11] [0,2,4,5,7,8,10,12,13,15] [(121,0,15,136)] hst106 ?_ ?_ ?_
  ·exact fun ix _ _ _ _ _ _ hs hb hx h=>match ix,h with
   | 0,h=>by dsimp only; rw [← hs 121 rfl,← hb 121 rfl,← hx 6 rfl]; exact h
   | 5,h=>by dsimp only; rw [← hs 126 rfl,← hb 126 rfl,← hx 7 rfl]; exact h
   | 7,h=>by dsimp only; rw [← hs 128 rfl,← hb 128 rfl,← hx 8 rfl]; exact h
   | 8,h=>by dsimp only; rw [← hs 129 rfl,← hb 129 rfl,← hx 9 rfl]; exact h
   | 13,h=>by dsimp only; rw [← hs 134 rfl,← hb 134 rfl,← hx 10 rfl]; exact h
   | 15,h=>by dsimp only; rw [← hb 134 rfl,← hx 11 rfl]; exact h
   | 1, _ | 2, _ | 3, _ | 4, _ | 6, _ | 9, _ | 10, _ | 11, _ | 12, _ | 14, _ | _+16, _=>trivial
  ·refine ⟨?_,?_,?_,?_,?_,?_,?_,?_,?_,?_,trivial⟩
   ·refine svA fun ρ β W X cx=>?_
    exact dv_lit (e:=9) (xs:=[]) rfl (by simp [go_sem]) rfl (by decide) rfl rfl (fun σ β' X' hs hb hv hx=>⟨hv,hx⟩)
   ·exact xs4 rfl id fun cx=>run_load1 rfl (by kernel_rfl) (cx.an 1) ((cx.bi 2 rfl).cell 5)
   ·exact xs4 rfl id fun cx=>run_sliceL_hi (e:=9) (sz:=1) (m:=m) rfl (by kernel_rfl) (by kernel_rfl) (cx.an 2) (cx.an 3) (by omega) (by omega)
   ·refine svA fun ρ β W X cx=>?_
    obtain ⟨i0,hi0,hz0,hz1,hz2⟩:=info_parts Try.infoStr
    refine dv_append (n:=0) (m:=m) (nm:=m) (xs:=[]) (news:=(S.take m).map stv) (xs':=(S.take m).map stv) rfl (ty:=49) rfl (by kernel_rfl) hi0 hz0 hz1 hz2 rfl (dTn (cx.an 0)).1 cx (dTn (cx.an 0)).2 rfl (cx.an 4) (by simp; omega) ((At.of_own (cx.ri 3 rfl)).takeM m) (en_one (fun _=>rfl) _) (by simp only [maxLen]; omega) (by omega) rfl rfl rfl (by omega) (rfl) (fun σ β' X' hs hb hv hx=>?_)
    exact ⟨hv,hx⟩
   ·refine svA fun ρ β W X cx=>?_
    have fF127:ρ (.tmp 127)= .string x:=(cx.an 6)
    exact dv_lit (e:=9) (xs:=[.string x]) rfl (by simp [go_sem,fF127]) rfl (by decide) rfl rfl (fun σ β' X' hs hb hv hx=>⟨hv,hx⟩)
   ·refine svA fun ρ β W X cx=>?_
    obtain ⟨i0,hi0,hz0,hz1,hz2⟩:=info_parts Try.infoStr
    refine dv_append (n:=m) (m:=1) (nm:=m+1) (xs:=(S.take m).map stv) (news:=[.string x]) (xs':=((S.take m).map stv)++[.string x]) rfl (ty:=49) rfl (by kernel_rfl) hi0 hz0 hz1 hz2 rfl (dTn (cx.an 5)).1 cx (dTn (cx.an 5)).2 rfl (dTn (cx.an 7)).1 (by simp) (At.of_own (cx.row (dTn (cx.an 7)).2 rfl)) (by simp [Value.oneCell']) (by simp only [maxLen]; omega) (by omega) rfl rfl rfl (by omega) (by simp) (fun σ β' X' hs hb hv hx=>?_)
    exact ⟨hv,hx⟩
   ·exact xs4 rfl id fun cx=>run_load1 rfl (by kernel_rfl) (cx.an 9) ((cx.bi 2 rfl).cell 5)
   ·exact xs4 rfl id fun cx=>run_sliceL_lo (e:=9) (sz:=1) (l:=m) rfl (by kernel_rfl) (by kernel_rfl) (cx.an 10) (cx.an 11) (by omega) (by omega)
   ·refine svA fun ρ β W X cx=>?_
    obtain ⟨i0,hi0,hz0,hz1,hz2⟩:=info_parts Try.infoStr
    refine dv_append (n:=m+1) (m:=(nn - m)) (nm:=(nn+1)) (xs:=((S.take m).map stv)++[.string x]) (news:=(S.drop m).map stv) (xs':=(((S.take m).map stv)++[.string x])++((S.drop m).map stv)) rfl (ty:=49) rfl (by kernel_rfl) hi0 hz0 hz1 hz2 rfl (dTn (cx.an 8)).1 cx (dTn (cx.an 8)).2 rfl (cx.an 12) (by simp; omega) ((At.of_own (cx.ri 3 rfl)).dropM m ec (by omega)) (en_one (fun _=>rfl) _) (by simp only [maxLen]; omega) (by omega) rfl rfl rfl (by omega) (by simp) (fun σ β' X' hs hb hv hx=>?_)
    exact ⟨hv,hx⟩
   ·refine svA fun ρ β W X cx=>?_
    exact dv_store (n:=1) rfl (cx.an 14) (dTn (cx.an 13)).1 (by kernel_rfl) (by kernel_rfl) (by kernel_rfl) cx (cx.init 2 _ rfl) rfl (nle rfl) (by kernel_rfl) rfl rfl rfl (fun σ β' X' hs hb hx=>by rw [hb 134]; exact hx)
  intro σ β X W112 hD hst112 fr hfr
  obtain ⟨A121_112,hu_A121_112⟩:∃ z,sA (β 121)=z:=⟨_,rfl⟩
  obtain ⟨A126_112,hu_A126_112⟩:∃ z,sA (β 126)=z:=⟨_,rfl⟩
  obtain ⟨c126_112,hu_c126_112⟩:∃ z,sC (β 126)=z:=⟨_,rfl⟩
  obtain ⟨A128_112,hu_A128_112⟩:∃ z,sA (β 128)=z:=⟨_,rfl⟩
  obtain ⟨A129_112,hu_A129_112⟩:∃ z,sA (β 129)=z:=⟨_,rfl⟩
  obtain ⟨c129_112,hu_c129_112⟩:∃ z,sC (β 129)=z:=⟨_,rfl⟩
  obtain ⟨A134_112,hu_A134_112⟩:∃ z,sA (β 134)=z:=⟨_,rfl⟩
  obtain ⟨c134_112,hu_c134_112⟩:∃ z,sC (β 134)=z:=⟨_,rfl⟩
  simp only [exq 8 ((dTn (hD 7 lq)).2),exq 10 ((dTn (hD 13 lq)).2),exq 11 ((dTn (hD 15 lq))),hu_A121_112,hu_A126_112,hu_c126_112,hu_A128_112,hu_A129_112,hu_c129_112,hu_A134_112,hu_c134_112] at hst112
  simp only [ed 121 ((dTn (hD 0 lq)).1),ed 126 ((dTn (hD 5 lq)).1),ed 128 ((dTn (hD 7 lq)).1),ed 129 ((dTn (hD 8 lq)).1),ed 134 ((dTn (hD 13 lq)).1),hu_A121_112,hu_A126_112,hu_c126_112,hu_A128_112,hu_A129_112,hu_c129_112,hu_A134_112,hu_c134_112] at hfr
  clear hD hu_A121_112 hu_A126_112 hu_c126_112 hu_A128_112 hu_A129_112 hu_c129_112 hu_A134_112 hu_c134_112; subst hfr; clear σ β X
  refine then_normal (wp_seq (wp_region_Y [0,0,2,0,14,31,0,64,255,0,512,0,3584,8191,16383,32767] [[],[],[7],[],[],[3,8],[],[],[10,9],[],[7],[],[],[3,11],[],[7]] [[8],[],[],[],[],[9],[],[10],[11],[],[],[],[],[12],[],[13]] [[],[],[],[],[],[8],[],[],[9],[],[],[],[],[11],[],[7]] [.a 136, .k 137 (.pointer (some ⟨B4_41,6,none⟩)), .c 138 (.slice SA nn sc), .k 139 (vi ((m:Int))), .c 140 (.slice SA m sc), .a 141, .k 142 (vi ((i:Int))), .a 143, .a 144, .k 145 (.pointer (some ⟨B4_41,6,none⟩)), .c 146 (.slice SA nn sc), .k 147 (vi ((m:Int))), .c 148 (.slice ((if sc=m then SA else SA.map (·.add (m*1)))) ((nn - m)) ((sc - m))), .a 149, .k 150 (.pointer (some ⟨B4_41,6,none⟩)), .n] (fun ix σ β X=>match ix with | 0=>σ 136= .slice (sA (β 136)) 0 0∧X 8=eO 3 1 (.slice (sA (β 136)) 0 0) 0 ([]) | 1=>True | 2=>True | 3=>True | 4=>True | 5=>σ 141= .slice (sA (β 141)) m (sC (β 141))∧X 9=eO 3 1 (.slice (sA (β 141)) m (sC (β 141))) m ((S.take m).map slv) | 6=>True | 7=>σ 143= .slice (sA (β 143)) 1 1∧X 10=eO 3 1 (.slice (sA (β 143)) 1 1) 1 ([vi ((i:Int))]) | 8=>σ 144= .slice (sA (β 144)) (m+1) (sC (β 144))∧X 11=eO 3 1 (.slice (sA (β 144)) (m+1) (sC (β 144))) (m+1) (((S.take m).map slv)++[vi ((i:Int))]) | 9=>True | 10=>True | 11=>True | 12=>True | 13=>σ 149= .slice (sA (β 149)) ((nn+1)) (sC (β 149))∧X 12=eO 3 1 (.slice (sA (β 149)) ((nn+1)) (sC (β 149))) ((nn+1)) ((((S.take m).map slv)++[vi ((i:Int))])++((S.drop m).map slv)) | 14=>True | 15=>X 13=eB B4_41 66 #[.bool true, .bool ((byteI (bl h) 1)==1),vi (lv),vi ((byteI (bl h) 2)*256+(byteI (bl h) 3) - 1), .string (h.extract 4 h.size), .slice A134_112 ((nn+1)) c134_112, .slice (sA (β 149)) ((nn+1)) (sC (β 149)), .slice KA nn kc] | _=>True) [0,1,2,3,4,5,6,10,12,13] [0,2,4,5,7,8,10,12,13,15] [(136,0,15,151)] hst112 ?_ ?_ ?_))
  ·exact fun ix _ _ _ _ _ _ hs hb hx h=>match ix,h with
   | 0,h=>by dsimp only; rw [← hs 136 rfl,← hb 136 rfl,← hx 8 rfl]; exact h
   | 5,h=>by dsimp only; rw [← hs 141 rfl,← hb 141 rfl,← hx 9 rfl]; exact h
   | 7,h=>by dsimp only; rw [← hs 143 rfl,← hb 143 rfl,← hx 10 rfl]; exact h
   | 8,h=>by dsimp only; rw [← hs 144 rfl,← hb 144 rfl,← hx 11 rfl]; exact h
   | 13,h=>by dsimp only; rw [← hs 149 rfl,← hb 149 rfl,← hx 12 rfl]; exact h
   | 15,h=>by dsimp only; rw [← hb 149 rfl,← hx 13 rfl]; exact h
   | 1, _ | 2, _ | 3, _ | 4, _ | 6, _ | 9, _ | 10, _ | 11, _ | 12, _ | 14, _ | _+16, _=>trivial
  ·refine ⟨?_,?_,?_,?_,?_,?_,?_,?_,?_,?_,trivial⟩
   ·refine svA fun ρ β W X cx=>?_
    exact dv_lit (e:=3) (xs:=[]) rfl (by simp [go_sem]) rfl (by decide) rfl rfl (fun σ β' X' hs hb hv hx=>⟨hv,hx⟩)
   ·exact xs4 rfl id fun cx=>run_load1 rfl (by kernel_rfl) (cx.an 1) ((cx.bi 7 rfl).cell 6)
   ·exact xs4 rfl id fun cx=>run_sliceL_hi (e:=3) (sz:=1) (m:=m) rfl (by kernel_rfl) (by kernel_rfl) (cx.an 2) (cx.an 3) (by omega) (by omega)
   ·refine svA fun ρ β W X cx=>?_
    obtain ⟨i0,hi0,hz0,hz1,hz2⟩:=info_parts Try.infoInt
    refine dv_append (n:=0) (m:=m) (nm:=m) (xs:=[]) (news:=(S.take m).map slv) (xs':=(S.take m).map slv) rfl (ty:=22) rfl (by kernel_rfl) hi0 hz0 hz1 hz2 rfl (dTn (cx.an 0)).1 cx (dTn (cx.an 0)).2 rfl (cx.an 4) (by simp; omega) ((At.of_own (cx.ri 3 rfl)).takeM m) (en_one (fun _=>rfl) _) (by simp only [maxLen]; omega) (by omega) rfl rfl rfl (by omega) (rfl) (fun σ β' X' hs hb hv hx=>?_)
    exact ⟨hv,hx⟩
   ·refine svA fun ρ β W X cx=>?_
    have fF142:ρ (.tmp 142)=vi ((i:Int)):=(cx.an 6)
    exact dv_lit (e:=3) (xs:=[vi ((i:Int))]) rfl (by simp [go_sem,fF142]) rfl (by decide) rfl rfl (fun σ β' X' hs hb hv hx=>⟨hv,hx⟩)
   ·refine svA fun ρ β W X cx=>?_
    obtain ⟨i0,hi0,hz0,hz1,hz2⟩:=info_parts Try.infoInt
    refine dv_append (n:=m) (m:=1) (nm:=m+1) (xs:=(S.take m).map slv) (news:=[vi ((i:Int))]) (xs':=((S.take m).map slv)++[vi ((i:Int))]) rfl (ty:=22) rfl (by kernel_rfl) hi0 hz0 hz1 hz2 rfl (dTn (cx.an 5)).1 cx (dTn (cx.an 5)).2 rfl (dTn (cx.an 7)).1 (by simp) (At.of_own (cx.row (dTn (cx.an 7)).2 rfl)) (by simp [Value.oneCell']) (by simp only [maxLen]; omega) (by omega) rfl rfl rfl (by omega) (by simp) (fun σ β' X' hs hb hv hx=>?_)
    exact ⟨hv,hx⟩
   ·exact xs4 rfl id fun cx=>run_load1 rfl (by kernel_rfl) (cx.an 9) ((cx.bi 7 rfl).cell 6)
   ·exact xs4 rfl id fun cx=>run_sliceL_lo (e:=3) (sz:=1) (l:=m) rfl (by kernel_rfl) (by kernel_rfl) (cx.an 10) (cx.an 11) (by omega) (by omega)
   ·refine svA fun ρ β W X cx=>?_
    obtain ⟨i0,hi0,hz0,hz1,hz2⟩:=info_parts Try.infoInt
    refine dv_append (n:=m+1) (m:=(nn - m)) (nm:=(nn+1)) (xs:=((S.take m).map slv)++[vi ((i:Int))]) (news:=(S.drop m).map slv) (xs':=(((S.take m).map slv)++[vi ((i:Int))])++((S.drop m).map slv)) rfl (ty:=22) rfl (by kernel_rfl) hi0 hz0 hz1 hz2 rfl (dTn (cx.an 8)).1 cx (dTn (cx.an 8)).2 rfl (cx.an 12) (by simp; omega) ((At.of_own (cx.ri 3 rfl)).dropM m sc (by omega)) (en_one (fun _=>rfl) _) (by simp only [maxLen]; omega) (by omega) rfl rfl rfl (by omega) (by simp) (fun σ β' X' hs hb hv hx=>?_)
    exact ⟨hv,hx⟩
   ·refine svA fun ρ β W X cx=>?_
    exact dv_store (n:=1) rfl (cx.an 14) (dTn (cx.an 13)).1 (by kernel_rfl) (by kernel_rfl) (by kernel_rfl) cx (cx.init 7 _ rfl) rfl (nle rfl) (by kernel_rfl) rfl rfl rfl (fun σ β' X' hs hb hx=>by rw [hb 149]; exact hx)
  intro σ β X W113 hD hst113 fr hfr
  obtain ⟨A136_113,hu_A136_113⟩:∃ z,sA (β 136)=z:=⟨_,rfl⟩
  obtain ⟨A141_113,hu_A141_113⟩:∃ z,sA (β 141)=z:=⟨_,rfl⟩
  obtain ⟨c141_113,hu_c141_113⟩:∃ z,sC (β 141)=z:=⟨_,rfl⟩
  obtain ⟨A143_113,hu_A143_113⟩:∃ z,sA (β 143)=z:=⟨_,rfl⟩
  obtain ⟨A144_113,hu_A144_113⟩:∃ z,sA (β 144)=z:=⟨_,rfl⟩
  obtain ⟨c144_113,hu_c144_113⟩:∃ z,sC (β 144)=z:=⟨_,rfl⟩
  obtain ⟨A149_113,hu_A149_113⟩:∃ z,sA (β 149)=z:=⟨_,rfl⟩
  obtain ⟨c149_113,hu_c149_113⟩:∃ z,sC (β 149)=z:=⟨_,rfl⟩
  simp only [exq 10 ((dTn (hD 7 lq)).2),exq 12 ((dTn (hD 13 lq)).2),exq 13 ((dTn (hD 15 lq))),hu_A136_113,hu_A141_113,hu_c141_113,hu_A143_113,hu_A144_113,hu_c144_113,hu_A149_113,hu_c149_113] at hst113
  simp only [ed 136 ((dTn (hD 0 lq)).1),ed 141 ((dTn (hD 5 lq)).1),ed 143 ((dTn (hD 7 lq)).1),ed 144 ((dTn (hD 8 lq)).1),ed 149 ((dTn (hD 13 lq)).1),hu_A136_113,hu_A141_113,hu_c141_113,hu_A143_113,hu_A144_113,hu_c144_113,hu_A149_113,hu_c149_113] at hfr
  clear hD hu_A136_113 hu_A141_113 hu_c141_113 hu_A143_113 hu_A144_113 hu_c144_113 hu_A149_113 hu_c149_113; subst hfr; clear σ β X
  refine then_normal (wp_region_Y [0,0,2,0,14,31,0,64,255,0,512,0,3584,8191,16383,32767] [[],[],[9],[],[],[4,10],[],[],[12,11],[],[9],[],[],[4,13],[],[9]] [[10],[],[],[],[],[11],[],[12],[13],[],[],[],[],[14],[],[15]] [[],[],[],[],[],[10],[],[],[11],[],[],[],[],[13],[],[9]] [.a 151, .k 152 (.pointer (some ⟨B4_41,7,none⟩)), .c 153 (.slice KA nn kc), .k 154 (vi ((m:Int))), .c 155 (.slice KA m kc), .a 156, .k 157 (vi kd), .a 158, .a 159, .k 160 (.pointer (some ⟨B4_41,7,none⟩)), .c 161 (.slice KA nn kc), .k 162 (vi ((m:Int))), .c 163 (.slice ((if kc=m then KA else KA.map (·.add (m*1)))) ((nn - m)) ((kc - m))), .a 164, .k 165 (.pointer (some ⟨B4_41,7,none⟩)), .n] (fun ix σ β X=>match ix with | 0=>σ 151= .slice (sA (β 151)) 0 0∧X 10=eO 3 1 (.slice (sA (β 151)) 0 0) 0 ([]) | 1=>True | 2=>True | 3=>True | 4=>True | 5=>σ 156= .slice (sA (β 156)) m (sC (β 156))∧X 11=eO 3 1 (.slice (sA (β 156)) m (sC (β 156))) m ((S.take m).map kdv) | 6=>True | 7=>σ 158= .slice (sA (β 158)) 1 1∧X 12=eO 3 1 (.slice (sA (β 158)) 1 1) 1 ([vi kd]) | 8=>σ 159= .slice (sA (β 159)) (m+1) (sC (β 159))∧X 13=eO 3 1 (.slice (sA (β 159)) (m+1) (sC (β 159))) (m+1) (((S.take m).map kdv)++[vi kd]) | 9=>True | 10=>True | 11=>True | 12=>True | 13=>σ 164= .slice (sA (β 164)) ((nn+1)) (sC (β 164))∧X 14=eO 3 1 (.slice (sA (β 164)) ((nn+1)) (sC (β 164))) ((nn+1)) ((((S.take m).map kdv)++[vi kd])++((S.drop m).map kdv)) | 14=>True | 15=>X 15=eB B4_41 66 #[.bool true, .bool ((byteI (bl h) 1)==1),vi (lv),vi ((byteI (bl h) 2)*256+(byteI (bl h) 3) - 1), .string (h.extract 4 h.size), .slice A134_112 ((nn+1)) c134_112, .slice A149_113 ((nn+1)) c149_113, .slice (sA (β 164)) ((nn+1)) (sC (β 164))] | _=>True) [0,1,2,3,4,5,6,7,8,12,14,15] [0,2,4,5,7,8,10,12,13,15] [(151,0,15,166)] hst113 ?_ ?_ ?_)
  ·exact fun ix _ _ _ _ _ _ hs hb hx h=>match ix,h with
   | 0,h=>by dsimp only; rw [← hs 151 rfl,← hb 151 rfl,← hx 10 rfl]; exact h
   | 5,h=>by dsimp only; rw [← hs 156 rfl,← hb 156 rfl,← hx 11 rfl]; exact h
   | 7,h=>by dsimp only; rw [← hs 158 rfl,← hb 158 rfl,← hx 12 rfl]; exact h
   | 8,h=>by dsimp only; rw [← hs 159 rfl,← hb 159 rfl,← hx 13 rfl]; exact h
   | 13,h=>by dsimp only; rw [← hs 164 rfl,← hb 164 rfl,← hx 14 rfl]; exact h
   | 15,h=>by dsimp only; rw [← hb 164 rfl,← hx 15 rfl]; exact h
   | 1, _ | 2, _ | 3, _ | 4, _ | 6, _ | 9, _ | 10, _ | 11, _ | 12, _ | 14, _ | _+16, _=>trivial
  ·refine ⟨?_,?_,?_,?_,?_,?_,?_,?_,?_,?_,trivial⟩
   ·refine svA fun ρ β W X cx=>?_
    exact dv_lit (e:=3) (xs:=[]) rfl (by simp [go_sem]) rfl (by decide) rfl rfl (fun σ β' X' hs hb hv hx=>⟨hv,hx⟩)
   ·exact xs4 rfl id fun cx=>run_load1 rfl (by kernel_rfl) (cx.an 1) ((cx.bi 9 rfl).cell 7)
   ·exact xs4 rfl id fun cx=>run_sliceL_hi (e:=3) (sz:=1) (m:=m) rfl (by kernel_rfl) (by kernel_rfl) (cx.an 2) (cx.an 3) (by omega) (by omega)
   ·refine svA fun ρ β W X cx=>?_
    obtain ⟨i0,hi0,hz0,hz1,hz2⟩:=info_parts Try.infoInt
    refine dv_append (n:=0) (m:=m) (nm:=m) (xs:=[]) (news:=(S.take m).map kdv) (xs':=(S.take m).map kdv) rfl (ty:=22) rfl (by kernel_rfl) hi0 hz0 hz1 hz2 rfl (dTn (cx.an 0)).1 cx (dTn (cx.an 0)).2 rfl (cx.an 4) (by simp; omega) ((At.of_own (cx.ri 4 rfl)).takeM m) (en_one (fun _=>rfl) _) (by simp only [maxLen]; omega) (by omega) rfl rfl rfl (by omega) (rfl) (fun σ β' X' hs hb hv hx=>?_)
    exact ⟨hv,hx⟩
   ·refine svA fun ρ β W X cx=>?_
    have fF157:ρ (.tmp 157)=vi kd:=(cx.an 6)
    exact dv_lit (e:=3) (xs:=[vi kd]) rfl (by simp [go_sem,fF157]) rfl (by decide) rfl rfl (fun σ β' X' hs hb hv hx=>⟨hv,hx⟩)
   ·refine svA fun ρ β W X cx=>?_
    obtain ⟨i0,hi0,hz0,hz1,hz2⟩:=info_parts Try.infoInt
    refine dv_append (n:=m) (m:=1) (nm:=m+1) (xs:=(S.take m).map kdv) (news:=[vi kd]) (xs':=((S.take m).map kdv)++[vi kd]) rfl (ty:=22) rfl (by kernel_rfl) hi0 hz0 hz1 hz2 rfl (dTn (cx.an 5)).1 cx (dTn (cx.an 5)).2 rfl (dTn (cx.an 7)).1 (by simp) (At.of_own (cx.row (dTn (cx.an 7)).2 rfl)) (by simp [Value.oneCell']) (by simp only [maxLen]; omega) (by omega) rfl rfl rfl (by omega) (by simp) (fun σ β' X' hs hb hv hx=>?_)
    exact ⟨hv,hx⟩
   ·exact xs4 rfl id fun cx=>run_load1 rfl (by kernel_rfl) (cx.an 9) ((cx.bi 9 rfl).cell 7)
   ·exact xs4 rfl id fun cx=>run_sliceL_lo (e:=3) (sz:=1) (l:=m) rfl (by kernel_rfl) (by kernel_rfl) (cx.an 10) (cx.an 11) (by omega) (by omega)
   ·refine svA fun ρ β W X cx=>?_
    obtain ⟨i0,hi0,hz0,hz1,hz2⟩:=info_parts Try.infoInt
    refine dv_append (n:=m+1) (m:=(nn - m)) (nm:=(nn+1)) (xs:=((S.take m).map kdv)++[vi kd]) (news:=(S.drop m).map kdv) (xs':=(((S.take m).map kdv)++[vi kd])++((S.drop m).map kdv)) rfl (ty:=22) rfl (by kernel_rfl) hi0 hz0 hz1 hz2 rfl (dTn (cx.an 8)).1 cx (dTn (cx.an 8)).2 rfl (cx.an 12) (by simp; omega) ((At.of_own (cx.ri 4 rfl)).dropM m kc (by omega)) (en_one (fun _=>rfl) _) (by simp only [maxLen]; omega) (by omega) rfl rfl rfl (by omega) (by simp) (fun σ β' X' hs hb hv hx=>?_)
    exact ⟨hv,hx⟩
   ·refine svA fun ρ β W X cx=>?_
    exact dv_store (n:=1) rfl (cx.an 14) (dTn (cx.an 13)).1 (by kernel_rfl) (by kernel_rfl) (by kernel_rfl) cx (cx.init 9 _ rfl) rfl (nle rfl) (by kernel_rfl) rfl rfl rfl (fun σ β' X' hs hb hx=>by rw [hb 164]; exact hx)
  intro σ β X W114 hD hst114 fr hfr
  obtain ⟨A151_114,hu_A151_114⟩:∃ z,sA (β 151)=z:=⟨_,rfl⟩
  obtain ⟨A156_114,hu_A156_114⟩:∃ z,sA (β 156)=z:=⟨_,rfl⟩
  obtain ⟨c156_114,hu_c156_114⟩:∃ z,sC (β 156)=z:=⟨_,rfl⟩
  obtain ⟨A158_114,hu_A158_114⟩:∃ z,sA (β 158)=z:=⟨_,rfl⟩
  obtain ⟨A159_114,hu_A159_114⟩:∃ z,sA (β 159)=z:=⟨_,rfl⟩
  obtain ⟨c159_114,hu_c159_114⟩:∃ z,sC (β 159)=z:=⟨_,rfl⟩
  obtain ⟨A164_114,hu_A164_114⟩:∃ z,sA (β 164)=z:=⟨_,rfl⟩
  obtain ⟨c164_114,hu_c164_114⟩:∃ z,sC (β 164)=z:=⟨_,rfl⟩
  simp only [exq 12 ((dTn (hD 7 lq)).2),exq 14 ((dTn (hD 13 lq)).2),exq 15 ((dTn (hD 15 lq))),hu_A151_114,hu_A156_114,hu_c156_114,hu_A158_114,hu_A159_114,hu_c159_114,hu_A164_114,hu_c164_114] at hst114
  simp only [ed 151 ((dTn (hD 0 lq)).1),ed 156 ((dTn (hD 5 lq)).1),ed 158 ((dTn (hD 7 lq)).1),ed 159 ((dTn (hD 8 lq)).1),ed 164 ((dTn (hD 13 lq)).1),hu_A151_114,hu_A156_114,hu_c156_114,hu_A158_114,hu_A159_114,hu_c159_114,hu_A164_114,hu_c164_114] at hfr
  clear hD hu_A151_114 hu_A156_114 hu_c156_114 hu_A158_114 hu_A159_114 hu_c159_114 hu_A164_114 hu_c164_114; subst hfr; clear σ β X
  refine blk_normal (then_normal (sqr (sqp [.m 65 5,sI 66 ((i:Int)+1) (by omega), .m 5 66] ?_)))
  refine then_normal ?_
  rw [show [(Value.string x)]=[stv (x,i,kd)] from rfl,ins_map (x,i,kd),show [(Value.int .i64 (i:Int))]=[slv (x,i,kd)] from rfl,ins_map (x,i,kd),show [(Value.int .i64 kd)]=[kdv (x,i,kd)] from rfl,ins_map (x,i,kd)] at hst114
  refine ⟨n - ((i+1)),by omega,?_⟩
  exact ⟨(i+1),(nn+1),(S.take m++(x,i,kd)::S.drop m),A134_112,c134_112,A149_113,c149_113,A164_114,c164_114,by omega,by omega,hS2,hbad2,hS2l,by omega,hSz2,rfl,(by kernel_rfl),hst114.pk [0,1,11,6,8,10]⟩
 refine wp_exit (then_exit (then_exit (blk_eq (then_normal (wp_seq ?_)))))
 have hall:=preE_all (its:=h::l) (i:=i) (by rw [hn]; omega)
 rw [hall] at hS hbad
 refine sqr ?_
 refine sqlb 2 8 hst46 ?_
 refine sqst (n:=8) 1 #[.bool true, .bool ((byteI (bl h) 1)==1),vi (lv),vi ((byteI (bl h) 2)*256+(byteI (bl h) 3) - 1), .string (h.extract 4 h.size), .slice EA nn ec, .slice SA nn sc, .slice KA nn kc] hst46 fun W119 hst119=>?_
 refine then_normal (wp_ret ?_)
 refine bpr (.agg #[.bool true, .bool ((byteI (bl h) 1)==1),vi (lv),vi ((byteI (bl h) 2)*256+(byteI (bl h) 3) - 1), .string (h.extract 4 h.size), .slice EA nn ec, .slice SA nn sc, .slice KA nn kc]) (results_cell (n:=8) Try.results33 rfl (by kernel_rfl) (by kernel_rfl) (hst119.blk 1 rfl) rfl) ?_
 subst hnn
 have hpk_:=hst119.pick [3,4,5] (by decide) rfl
 have hdead:(numS h 1 1==1)=(byteI (bl h) 1==1):=by have h_:=numS_one h 1 (by omega); rw [Bool.eq_iff_iff,beq_iff_eq,beq_iff_eq]; omega
 have hright:=numS_two h 2 (by omega)
 rw [kind_good hs12,nodF_good hok (by rw [hlv]; exact hbad),hlv,← (show S=srt lv (rawE 1 l) from hS)]
 exact ⟨EA,ec,SA,sc,KA,kc,by rw [ndV,hdead,hright],hpk_⟩
theorem rread_n (k lsn:Int) (A:Option Addr) (c:Nat) (w:World):
  Calls Try.prog 33 #[.agg #[.int .i64 k, .int .i64 lsn, .slice A 0 c]] w (NdPost (nodF k []) w):=by
 go_enter Try.func33,Try.ntmps33
 have hst0:=St.start w
 refine wp_seq (sqr ?_)
 refine sqbx #[vi k,vi lsn, .slice A 0 c] hst0 fun B1_1 W1 hst1=>?_
 refine sqal #[.bool false, .bool false,vi 0,vi 0, .string ByteArray.empty, .slice none 0 0, .slice none 0 0, .slice none 0 0] hst1 fun B2_2 W2 hst2=>?_
 refine then_normal (wp_seq (wp_seq (sqr (sqp [.k 9 (vp B1_1)] ?_))))
 refine sqld 0 hst2 ?_
 refine sqp [.k 11 (.bool (k != 2)), .m 12 11] ?_
 refine sqw' 12 [13,14,15,16] ?_ rfl (fun hq=>?_) ?_
 rotate_left
 ·refine sqp [.k 13 (.pointer (some ⟨B1_1,2,none⟩))] ?_
  refine sqld 0 hst2 ?_
  refine sqp [.k 15 (vi 0), .k 16 (.bool true)] ?_
  exact sqe
 refine sqwx ?_
 have hd12:((k != 2)||true)=true:=Bool.or_true _
 refine sqp [sPok 17 (k != 2) true true hd12] ?_
 refine then_normal (wct rfl (wp_seq (sqr (sqp [.k 18 (.agg #[.bool false, .bool false,vi 0,vi 0, .string ByteArray.empty, .slice none 0 0, .slice none 0 0, .slice none 0 0])] ?_))))
 refine sqst (n:=8) 1 #[.bool false, .bool false,vi 0,vi 0, .string ByteArray.empty, .slice none 0 0, .slice none 0 0, .slice none 0 0] hst2 fun W14 hst14=>?_
 refine then_normal (wp_ret (then_ret ?_))
 refine bpr (.agg #[.bool false, .bool false,vi 0,vi 0, .string ByteArray.empty, .slice none 0 0, .slice none 0 0, .slice none 0 0]) (results_cell (n:=8) Try.results33 rfl (by kernel_rfl) (by kernel_rfl) (hst14.blk 1 rfl) rfl) ?_
 exact rd_none (nodF_bad (.inr (.inl rfl))) hst14.ext
theorem rread_any (k lsn:Int) (A:Option Addr) (c:Nat) (its:List ByteArray) (w:World) (hA:At w A (its.map Value.string)) (hl:its.length≤100000) (hsz:∀ s∈its,s.size≤1000000):
  Calls Try.prog 33 #[.agg #[.int .i64 k, .int .i64 lsn, .slice A its.length c]] w (NdPost (nodF k its) w):=by
 cases its with
 | nil=>exact rread_n k lsn A c w
 | cons h l=>exact rread_c k lsn A c _ h l w hA rfl hl hsz
end
section
open Go.RowKit
def putL (xs:List Value) (off:Nat):List Value→List Value
 | []=>xs
 | v::l=>putL (xs.set off v) (off+1) l
theorem putL_mid:∀ (vs A B C:List Value),B.length=vs.length→putL (A++(B++C)) A.length vs=A++(vs++C)
 | [],A,B,C,h=>by
   obtain rfl:B=[]:=List.eq_nil_of_length_eq_zero h
   rfl
 | v::vs,A,[],C,h=>by simp at h
 | v::vs,A,b::B,C,h=>by
   rw [putL]
   have e:(A++(b::B++C)).set A.length v=(A++[v])++(B++C):=by simp
   have e2:A.length+1=(A++[v]).length:=by simp
   rw [e,e2,putL_mid vs (A++[v]) B C (by simpa using h)]
   simp
theorem putL_flat {T:Type} {f:T→List Value} {sz:Nat} (hf:∀ t,(f t).length=sz) {ts:List T} {m:Nat} (h:m < ts.length) (t:T):putL (ts.flatMap f) (m*sz) (f t)=(ts.set m t).flatMap f:=by
 have hl:∀ l:List T,(l.flatMap f).length=l.length*sz:=fun l=>by
  induction l with
  | nil=>simp
  | cons a l ih=>rw [List.flatMap_cons,List.length_append,ih,hf,List.length_cons,Nat.add_mul]; omega
 have e:ts=ts.take m++(ts[m]::ts.drop (m+1)):=by rw [← List.drop_eq_getElem_cons h,List.take_append_drop]
 have e2:ts.set m t=ts.take m++(t::ts.drop (m+1)):=by rw [List.set_eq_take_append_cons_drop,if_pos h]
 have e3:m*sz=((ts.take m).flatMap f).length:=by rw [hl,List.length_take,Nat.min_eq_left (by omega)]
 have e4:ts.flatMap f=(ts.take m).flatMap f++(f ts[m]++(ts.drop (m+1)).flatMap f):=by
  conv=>lhs; rw [e]
  rw [List.flatMap_append,List.flatMap_cons]
 rw [e2,e4,List.flatMap_append,List.flatMap_cons,e3,putL_mid _ _ _ _ (by rw [hf,hf])]
section
variable {P:Program} {ops:Array Oper} {L:List Nat} {a0:Act} {w0:World} {bor:List Nat} {X0:List Ent} {us cr kl:List (List Nat)}
 {D:Nat→(Tmp→Value)→(Tmp→Value)→(Nat→Ent)→Prop} {i:Nat} {o:Oper} {ρ:Operand→Value} {β:Tmp→Value} {W:World} {X:Nat→Ent}
theorem run_storeRowCells {g e sz n c:Nat}:∀ (vs:List Value) (m i:Nat) (xs:List Value) (W:World),W.ownsRow 0 e sz (.slice (some ⟨g,0,none⟩) n c) n xs→m+i+vs.length≤n*sz→(∀ v∈vs,v.oneCell'=true)→
  ∃ W',(storeCells ⟨g,m,none⟩ vs i).run P W= .ok () W'∧Upd [g] W W'∧W'.ownsRow 0 e sz (.slice (some ⟨g,0,none⟩) n c) n (putL xs (m+i) vs):=by
 intro vs
 induction vs with
 | nil=>intro m i xs W hb _ _; exact ⟨W,rfl,Upd.refl _ _,hb⟩
 | cons v vs ih=>
   intro m i xs W hown hle h1
   simp only [List.length_cons] at hle
   have hlen:xs.length=n*sz:=hown.1
   have hcell:W.cell? ⟨g,m+i,none⟩=some (xs[m+i]'(by omega)):=by
    rw [hown.cellAt (m+i) (by omega)]
    exact List.getElem?_eq_getElem (by omega)
   have hfz:=hown.frozenAt (m+i)
   have hst:=(hown.stored (m+i) v).1
   obtain ⟨W',h2,h3,h4⟩:=ih m (i+1) (xs.set (m+i) v) (W.setCell ⟨g,m+i,none⟩ v) hst (by omega) (fun x hx=>h1 x (by simp [hx]))
   refine ⟨W',?_,((Upd.refl [g] W).set (.inl (by simp)) v).trans h3,h4⟩
   unfold storeCells
   have hv:=h1 v (by simp)
   have hs1:(store ((⟨g,m,none⟩:Addr).add i) v).run P W= .ok () (W.setCell ⟨g,m+i,none⟩ v):=by
    rw [Addr.add_lit]
    unfold store
    cases v<;>first | (simp [Value.oneCell'] at hv; done) | (simp [Sem.run,hcell,hfz])
   simp only [Sem.run_bind,hs1,Result.andThen_ok,h2]
theorem dv_storeElt {t e sz k:Nat} {x y:Operand} {A:Option Addr} {n c m q q':Nat} {v:Value} {xs:List Value} (h:o.op= .store t x y) (hx:ρ x= .pointer (some ((ad A).add m))) (hy:ρ y=v) (hz:szP P t=some k) (hn:v.cells.size=k)
  (h1:v.cells.toList.all Value.oneCell'=true) (cx:CtxV ops L a0 w0 bor X0 us D i ρ β W X) (hX:X q=eO e sz (.slice A n c) n xs) (hu:(atV us i).contains q=true) (hm:m+k≤n*sz) (hk0:0 < k) (hd:o.dst=none) {xs':List Value} (hxs:putL xs m v.cells.toList=xs')
  (hc:atV cr i=[q']) (hk:atV kl i=[q]) (hD:∀ (σ β':Tmp→Value) (X':Nat→Ent),(∀ t,σ t=ρ (.tmp t))→(∀ t,β' t=β t)→X' q'=eO e sz (.slice A n c) n xs'→D i σ β' X'):DoesU P o ρ W (PostV cr kl D i o.dst ρ β W X):=by
 subst hxs
 have hok:=cx.ok q hu
 rw [hX] at hok
 have hown:W.ownsRow 0 e sz (.slice A n c) n xs:=hok.holds
 obtain ⟨g,rfl⟩:∃ g,A=some ⟨g,0,none⟩:=by
  rcases hown.2 with ⟨hv,hm0⟩ | ⟨g,cap,cur,hv, _⟩
  ·subst hm0; rw [Nat.zero_mul] at hm; omega
  ·injection hv with h1 h2 h3; exact ⟨g,h1⟩
 have hadd:(ad (some ⟨g,0,none⟩)).add m=⟨g,m,none⟩:=by rw [ad,Option.getD_some,Addr.add_lit,Nat.zero_add]
 obtain ⟨W',h2,h3,h4⟩:=run_storeRowCells (P:=P) v.cells.toList m 0 xs W hown (by simp [hn]; exact hm) (fun u hu=>List.all_eq_true.1 h1 u hu)
 have hrun:(execOp ρ o).run P W= .ok .skip W':=by
  unfold execOp; rw [h]
  simp only [hx,hy,hadd,Instr.storeAt,Instr.sureAddr,storeVar,Sem.run_bind,Sem.run_pure,Result.andThen_ok,run_size hz,hn,ne_eq,not_true_eq_false,if_false]
  rw [h2]
  rfl
 rw [Nat.add_zero] at h4
 refine DoesU.skip hrun ⟨[eO e sz (.slice (some ⟨g,0,none⟩) n c) n (putL xs m v.cells.toList)],by rw [hc]; rfl,⟨?_,fun e' he=>?_,List.pairwise_singleton _ _⟩,fun σ β' X' hs hv hb' hbv hx' hN=>hD σ β' X' (fun t=>hs t (by rw [hd]; simp)) (fun t=>hb' t (by rw [hd]; simp)) ?_⟩
 ·rw [hk]
  simp only [List.flatMap_cons,List.flatMap_nil,List.append_nil,hX]
  exact h3.mono (fun k _ hk'=>by simp at hk'; subst hk'; simp [eO,Value.ownBlock])
 ·rw [List.mem_singleton] at he
  subst he
  refine ⟨h4,eO_loc _ _ _ _ _,fun k hk'=>?_⟩
  have hkg:k=g:=by simpa [eO,Value.ownBlock] using hk'
  subst hkg
  refine ⟨.inl ?_,own0_block h4 k (by simp [Value.ownBlock])⟩
  rw [hk]
  simp [hX,eO,Value.ownBlock]
 ·rw [hc] at hN
  exact (List.cons.inj hN).1
end
end
section
open Go.RowKit
theorem nilrowN {w0 W:World} {bor:List Nat} {L:List Ent} (h:St w0 bor L W) (e sz:Nat):St w0 bor (L++[eO e sz (.slice none 0 0) 0 []]) W:=by
 refine ⟨h.upd,fun x hx=>?_,?_⟩
 ·rcases List.mem_append.1 hx with hx | hx
  ·exact h.ok x hx
  ·rw [List.mem_singleton] at hx
   subst hx
   exact ⟨World.ownsRow_nil _ _ _ _,eO_loc _ _ _ _ _,fun k hk=>by cases hk⟩
 ·rw [List.pairwise_append]
  refine ⟨h.apart,List.pairwise_singleton _ _,fun a _ b hb=>?_⟩
  rw [List.mem_singleton] at hb
  subst hb
  exact fun k _ hk=>by cases hk
variable {P:Program} {o:Oper} {ρ:Operand→Value} {W:World}
def enC (e:EnD):List Value:=[.string e.1, .int .i64 (e.2.1:Int), .int .i64 e.2.2]
theorem enC_len (e:EnD):(enC e).length=3:=rfl
theorem en_get {l:List EnD} {k:Nat} (h:k < l.length):l[k]? =some (l.getD k en0):=by rw [List.getD_eq_getElem?_getD,List.getElem?_eq_getElem h]; rfl
def RwPost (A:Option Addr) (n c:Nat) (ls:List EnD) (w:World) (e:Ending) (w':World):Prop:=e= .returned (.tuple #[])∧St w (Value.ownBlock (.slice A n c)).toList [eO 104 3 (.slice A n c) n (ls.flatMap enC)] w'
theorem St.lentRw {w:World} {e:TypeId} {sz n:Nat} {v:Value} {xs:List Value} (h:w.ownsRow 0 e sz v n xs):St w v.ownBlock.toList [eO e sz v n xs] w:=
 St.lend (E:=eO e sz v n xs) h (eO_loc _ _ _ _ _) (fun k hk=>own0_block h k (by simpa [eO] using hk))
/-- the list behind i exchanges -/
def revL (L:List EnD) (i:Nat):List EnD:=(List.range L.length).map fun k=>if k < i∨L.length≤k+i then L.getD (L.length - 1 - k) en0 else L.getD k en0
theorem revL_len (L:List EnD) (i:Nat):(revL L i).length=L.length:=by simp [revL]
theorem revL_get {L:List EnD} {i k:Nat} (h:k < L.length):(revL L i)[k]? =some (if k < i∨L.length≤k+i then L.getD (L.length - 1 - k) en0 else L.getD k en0):=by simp [revL,h]
theorem revL_0 (L:List EnD):revL L 0=L:=by
 apply List.ext_getElem?
 intro k
 rcases Nat.lt_or_ge k L.length with h | h
 ·rw [revL_get h,if_neg (by omega),en_get h]
 ·rw [List.getElem?_eq_none (by rw [revL_len]; exact h),List.getElem?_eq_none h]
theorem revL_end {L:List EnD} {i:Nat} (h:L.length≤i+i+1):revL L i=L.reverse:=by
 apply List.ext_getElem?
 intro k
 rcases Nat.lt_or_ge k L.length with hk | hk
 ·rw [revL_get hk,List.getElem?_reverse hk,en_get (show L.length - 1 - k < L.length by omega)]
  split
  ·rfl
  ·congr 2; omega
 ·rw [List.getElem?_eq_none (by rw [revL_len]; exact hk),List.getElem?_eq_none (by rw [List.length_reverse]; exact hk)]
theorem revL_step {L:List EnD} {i j:Nat} (h:i+j+1=L.length) (hij:i < j):((revL L i).set i (L.getD j en0)).set j (L.getD i en0)=revL L (i+1):=by
 apply List.ext_getElem?
 intro k
 rcases Nat.lt_or_ge k L.length with hk | hk
 ·rw [revL_get hk,List.getElem?_set,List.getElem?_set]
  simp only [List.length_set,revL_len]
  by_cases h1:j=k
  ·rw [if_pos h1,if_pos (by omega),if_pos (by omega)]; congr 2; omega
  ·rw [if_neg h1]
   by_cases h2:i=k
   ·rw [if_pos h2,if_pos (by omega),if_pos (by omega)]; congr 2; omega
   ·rw [if_neg h2,revL_get hk]
    by_cases h3:k < i∨L.length≤k+i
    ·rw [if_pos h3,if_pos (by omega)]
    ·rw [if_neg h3,if_neg (by omega)]
 ·rw [List.getElem?_eq_none (by simp only [List.length_set,revL_len]; exact hk),List.getElem?_eq_none (by rw [revL_len]; exact hk)]
/-- an entry x on its way through the sorted ones -/
def inL (S:List EnD) (x:EnD) (j:Nat) (R:List EnD):List EnD:=S.take j++x::(S.drop j++R)
theorem inL_len {S:List EnD} {x:EnD} {j:Nat} {R:List EnD} (h:j≤S.length):(inL S x j R).length=S.length+1+R.length:=by
 rw [inL,List.length_append,List.length_cons,List.length_append,List.length_take,List.length_drop]; omega
theorem inL_at {S:List EnD} {x:EnD} {j:Nat} {R:List EnD} (h:j≤S.length):(inL S x j R)[j]? =some x:=by
 rw [inL,List.getElem?_append_right (by rw [List.length_take]; omega),List.length_take,Nat.min_eq_left h,Nat.sub_self]; rfl
theorem inL_pre {S:List EnD} {x:EnD} {j:Nat} {R:List EnD} (h:j≤S.length) (h0:0 < j):(inL S x j R)[j - 1]? =some (S.getD (j - 1) en0):=by
 rw [inL,List.getElem?_append_left (by rw [List.length_take]; omega),List.getElem?_take,if_pos (by omega),en_get (by omega)]
theorem inL_step {S:List EnD} {x:EnD} {j:Nat} {R:List EnD} (h:j≤S.length) (h0:0 < j):((inL S x j R).set j (S.getD (j - 1) en0)).set (j - 1) x=inL S x (j - 1) R:=by
 apply List.ext_getElem?
 intro k
 have e:S.drop (j - 1)=S.getD (j - 1) en0::S.drop j:=by
  rw [List.drop_eq_getElem_cons (by omega),List.getD_eq_getElem?_getD,List.getElem?_eq_getElem (show j - 1 < S.length by omega),Nat.sub_add_cancel h0]; rfl
 rw [List.getElem?_set,List.getElem?_set]
 simp only [List.length_set,inL_len h]
 by_cases h1:j - 1=k
 ·rw [if_pos h1,if_pos (by omega),← h1,inL_at (by omega)]
 ·rw [if_neg h1]
  by_cases h2:j=k
  ·rw [if_pos h2,if_pos (by omega),inL,List.getElem?_append_right (by rw [List.length_take]; omega),List.length_take,Nat.min_eq_left (by omega),show k - (j - 1)=1 by omega,e]; rfl
  ·rw [if_neg h2,inL,inL,e]
   rcases Nat.lt_or_ge k (j - 1) with h3 | h3
   ·rw [List.getElem?_append_left (by rw [List.length_take]; omega),List.getElem?_append_left (by rw [List.length_take]; omega),List.getElem?_take,List.getElem?_take,if_pos (by omega),if_pos (by omega)]
   ·rw [List.getElem?_append_right (by rw [List.length_take]; omega),List.getElem?_append_right (by rw [List.length_take]; omega),List.length_take,List.length_take,Nat.min_eq_left (by omega),Nat.min_eq_left (by omega)]
    obtain ⟨d,rfl⟩:∃ d,k=j+1+d:=⟨k - (j+1),by omega⟩
    rw [show j+1+d - j=d+1 by omega,show j+1+d - (j - 1)=d+1+1 by omega]
    rfl
/-- the list with its first i entries in order -/
def srL (L:List EnD) (i:Nat):List EnD:=(sortR (L.take i).reverse).reverse
theorem srL_len {L:List EnD} {i:Nat} (h:i≤L.length):(srL L i).length=i:=by rw [srL,List.length_reverse,sortR_len,List.length_reverse,List.length_take]; omega
theorem srL_one (L:List EnD):srL L 1=L.take 1:=by
 rw [srL]
 cases L with
 | nil=>rfl
 | cons a l=>rfl
theorem srL_all {L:List EnD} {i:Nat} (h:L.length≤i):srL L i=(sortR L.reverse).reverse:=by rw [srL,List.take_of_length_le h]
theorem srL_snoc {L:List EnD} {i j:Nat} (h:i < L.length) (hj:j≤i) (h1:∀ y∈(srL L i).drop j,lessF (L.getD i en0).1 y.1=true) (h2:j=0∨lessF (L.getD i en0).1 ((srL L i).getD (j - 1) en0).1=false):inL (srL L i) (L.getD i en0) j (L.drop (i+1))=srL L (i+1)++L.drop (i+1):=by
 have hl:=srL_len (Nat.le_of_lt h)
 have e:srL L (i+1)=(srL L i).take j++L.getD i en0::(srL L i).drop j:=by
  rw [srL,List.take_add_one,en_get h,Option.toList,List.reverse_append]
  show (insR (L.getD i en0) (sortR (L.take i).reverse)).reverse= _
  refine insR_at ?_ h1 fun y hy=>?_
  ·rw [← List.reverse_append,List.take_append_drop,srL,List.reverse_reverse]
  ·rcases h2 with rfl | h2
   ·simp at hy
   ·rcases Nat.eq_zero_or_pos j with h0 | h0
    ·subst h0; simp at hy
    ·rw [List.getLast?_eq_getElem?,List.length_take,Nat.min_eq_left (by omega),List.getElem?_take,if_pos (by omega),en_get (by omega)] at hy
     rw [← Option.some.inj hy]; exact h2
 rw [e,inL,List.append_assoc]; rfl
theorem srL_in {L:List EnD} {i:Nat} (h:i < L.length):srL L i++L.drop i=inL (srL L i) (L.getD i en0) i (L.drop (i+1)):=by
 have hl:=srL_len (Nat.le_of_lt h)
 rw [inL,List.take_of_length_le (by omega),List.drop_of_length_le (l:=srL L i) (by omega),List.drop_eq_getElem_cons h,List.nil_append,List.getD_eq_getElem?_getD,List.getElem?_eq_getElem h]; rfl
theorem srL_mem {L:List EnD} {i:Nat} {M:Nat} (h:∀ e∈L,e.1.size≤M) (k:Nat):((srL L i).getD k en0).1.size≤M:=by
 rcases Nat.lt_or_ge k (srL L i).length with hk | hk
 ·rw [List.getD_eq_getElem?_getD,List.getElem?_eq_getElem hk,Option.getD_some]
  have h1:(srL L i)[k]∈srL L i:=List.getElem_mem hk
  exact h _ (List.mem_of_mem_take (List.mem_reverse.1 (sortR_mem (List.mem_reverse.1 h1))))
 ·rw [List.getD_eq_getElem?_getD,List.getElem?_eq_none hk]
  exact Nat.zero_le _
theorem getD_size {L:List EnD} {M:Nat} (h:∀ e∈L,e.1.size≤M) (k:Nat):(L.getD k en0).1.size≤M:=by
 rcases Nat.lt_or_ge k L.length with hk | hk
 ·rw [List.getD_eq_getElem?_getD,List.getElem?_eq_getElem hk]; exact h _ (List.getElem_mem hk)
 ·rw [List.getD_eq_getElem?_getD,List.getElem?_eq_none hk]; exact Nat.zero_le _
theorem krev_any (A:Option Addr) (n c:Nat) (L:List EnD) (w:World) (hO:w.ownsRow 0 104 3 (.slice A n c) n (L.flatMap enC)) (hn:L.length=n) (hnb:n≤100000) (h0:0 < n):
  Calls Try.prog 95 #[.slice A n c] w (RwPost A n c L.reverse w):=by
 have st0:=St.lentRw hO
 have hcap:=eown_capN hO
 go_enter Try.func95,Try.ntmps95
 have hst0:=st0
 refine wp_seq (sqr (sqp [.m 4 0, .k 5 (vi ((n:Int))),sI 6 ((n:Int) - 1) (by omega), .k 2 (vi 0), .m 3 6] ?_))
 refine then_normal (wp_block ?_)
 obtain ⟨z6_,hN_z6_⟩:∃ z,(n:Int) - 1=z:=⟨_,rfl⟩
 rw [hN_z6_]
 obtain rfl:z6_=((n - 1:Nat):Int):=by omega
 rw [← revL_0 L] at hst0
 refine wp_loopT (fun t_ mz az W=>∃ i:Nat,∃ j:Nat,i+j+1=n∧mz=j+1∧az=⟨(ovr (jv az) [(2,2,0,[vi ((i:Int)),vi ((j:Int))]),(3,7,21,[])] t_).toArray,[]⟩∧St w (Value.ownBlock (.slice A n c)).toList [eO 104 3 (.slice A n c) n ((revL L i).flatMap enC)] W) (((n - 1))+1) ?_ ?_
 · -- the loop begins
   exact ⟨0,(n - 1),by omega,rfl,(by kernel_rfl),hst0.pk [0]⟩
 rintro n7 a7 W7 ⟨i,j,hij,rfl,hj_,hst7⟩
 refine ovz hj_ fun u7_=>?_
 refine wp_seq (wp_seq (sqr (sqp [.m 7 2, .m 8 3, .k 9 (.bool (decide ((i:Int) < (j:Int))))] ?_)))
 refine then_normal (wds (fun hs11 hs11p=>?_) fun hs11 hs11p=>?_)
 ·refine wp_skip (then_normal (wp_seq (wp_block ?_)))
  have hrl_:=revL_len L i
  refine wp_region_Y [0,0,0,0,0,0,48,112,0,0,768,1792,4083,8179,16383,32767] [[],[],[],[],[],[],[0],[0],[],[],[0],[0],[0],[0],[1],[1]] [[],[],[],[],[],[],[],[],[],[],[],[],[],[1],[],[2]] [[],[],[],[],[],[],[],[],[],[],[],[],[],[0],[],[1]] [.k 14 (.slice A n c), .k 15 (vi ((i:Int))), .k 16 (.slice A n c), .k 17 (vi ((j:Int))), .k 18 (.slice A n c), .k 19 (vi ((j:Int))), .c 20 (.pointer (some ((ad A).add (j*3)))), .c 21 (.agg #[.string ((L.getD j en0).1),vi (((L.getD j en0).2.1:Int)),vi ((L.getD j en0).2.2)]), .k 22 (.slice A n c), .k 23 (vi ((i:Int))), .c 24 (.pointer (some ((ad A).add (i*3)))), .c 25 (.agg #[.string ((L.getD i en0).1),vi (((L.getD i en0).2.1:Int)),vi ((L.getD i en0).2.2)]), .c 26 (.pointer (some ((ad A).add (i*3)))), .n, .c 27 (.pointer (some ((ad A).add (j*3)))), .n] (fun ix σ β X=>match ix with | 0=>True | 1=>True | 2=>True | 3=>True | 4=>True | 5=>True | 6=>True | 7=>True | 8=>True | 9=>True | 10=>True | 11=>True | 12=>True | 13=>X 1=eO 104 3 (.slice A n c) n (((revL L i).set i (L.getD j en0)).flatMap enC) | 14=>True | 15=>X 2=eO 104 3 (.slice A n c) n ((((revL L i).set i (L.getD j en0)).set j (L.getD i en0)).flatMap enC) | _=>True) [2] [6,7,10,11,12,13,14,15] [(14,0,15,28)] hst7 ?_ ?_ ?_
  ·exact fun ix _ _ _ _ _ _ hs hb hx h=>match ix,h with
   | 13,h=>by dsimp only; rw [← hx 1 rfl]; exact h
   | 15,h=>by dsimp only; rw [← hx 2 rfl]; exact h
   | 0, _ | 1, _ | 2, _ | 3, _ | 4, _ | 5, _ | 6, _ | 7, _ | 8, _ | 9, _ | 10, _ | 11, _ | 12, _ | 14, _ | _+16, _=>trivial
  ·refine ⟨?_,?_,?_,?_,?_,?_,?_,?_,trivial⟩
   ·exact xs4 rfl id fun cx=>run_indexSlM (e:=104) (m:=j) (sz:=3) rfl (by kernel_rfl) (by kernel_rfl) (cx.an 4) (cx.an 5) (by omega) (by omega) (At.of_ownN (cx.ri 0 rfl)) (flatPos (sz:=3) enC_len (by decide) (by first | omega | (simp only [List.length_set]; omega)))
   ·exact xs4 rfl id fun cx=>run_loadElt (f:=enC) (m:=j) (sz:=3) (off:=0) (n:=3) rfl (by kernel_rfl) (by kernel_rfl) (cx.an 6) rfl enC_len (At.of_ownN (cx.ri 0 rfl)) (by rw [revL_get (by omega),if_neg (by omega)]) (fun k hk=>match k,hk with | 0, _=>rfl | 1, _=>rfl | 2, _=>rfl | k+3,hk=>absurd hk (by omega))
   ·exact xs4 rfl id fun cx=>run_indexSlM (e:=104) (m:=i) (sz:=3) rfl (by kernel_rfl) (by kernel_rfl) (cx.an 8) (cx.an 9) (by omega) (by omega) (At.of_ownN (cx.ri 0 rfl)) (flatPos (sz:=3) enC_len (by decide) (by first | omega | (simp only [List.length_set]; omega)))
   ·exact xs4 rfl id fun cx=>run_loadElt (f:=enC) (m:=i) (sz:=3) (off:=0) (n:=3) rfl (by kernel_rfl) (by kernel_rfl) (cx.an 10) rfl enC_len (At.of_ownN (cx.ri 0 rfl)) (by rw [revL_get (by omega),if_neg (by omega)]) (fun k hk=>match k,hk with | 0, _=>rfl | 1, _=>rfl | 2, _=>rfl | k+3,hk=>absurd hk (by omega))
   ·exact xs4 rfl id fun cx=>run_indexSlM (e:=104) (m:=i) (sz:=3) rfl (by kernel_rfl) (by kernel_rfl) (cx.an 0) (cx.an 1) (by omega) (by omega) (At.of_ownN (cx.ri 0 rfl)) (flatPos (sz:=3) enC_len (by decide) (by first | omega | (simp only [List.length_set]; omega)))
   ·refine svA fun ρ β W X cx=>?_
    exact dv_storeElt (m:=i*3) (n:=n) (sz:=3) (k:=3) rfl (cx.an 12) (cx.an 7) (by kernel_rfl) (by kernel_rfl) (by kernel_rfl) cx (cx.init 0 _ rfl) rfl (by omega) (by decide) rfl (putL_flat enC_len (ts:=(revL L i)) (m:=i) (by first | omega | (simp only [List.length_set]; omega)) (L.getD j en0)) rfl rfl (fun σ β' X' hs hb hx=>hx)
   ·exact xs4 rfl id fun cx=>run_indexSlM (e:=104) (m:=j) (sz:=3) rfl (by kernel_rfl) (by kernel_rfl) (cx.an 2) (cx.an 3) (by omega) (by omega) (At.of_ownN (cx.row (dTn (cx.an 13)) rfl)) (flatPos (sz:=3) enC_len (by decide) (by first | omega | (simp only [List.length_set]; omega)))
   ·refine svA fun ρ β W X cx=>?_
    exact dv_storeElt (m:=j*3) (n:=n) (sz:=3) (k:=3) rfl (cx.an 14) (cx.an 11) (by kernel_rfl) (by kernel_rfl) (by kernel_rfl) cx (dTn (cx.an 13)) rfl (by omega) (by decide) rfl (putL_flat enC_len (ts:=((revL L i).set i (L.getD j en0))) (m:=j) (by first | omega | (simp only [List.length_set]; omega)) (L.getD i en0)) rfl rfl (fun σ β' X' hs hb hx=>hx)
  intro σ β X W12 hD hst12 fr hfr
  simp only [exq 2 ((dTn (hD 15 lq)))] at hst12
  clear hD; subst hfr; clear σ β X
  refine blk_normal (then_normal (sqr (sqp [.m 10 2,sI 11 ((i:Int)+1) (by omega), .m 12 3,sI 13 ((j:Int) - 1) (by omega), .m 2 11, .m 3 13] ?_)))
  refine then_normal ?_
  rw [revL_step (by omega) (by omega)] at hst12
  rw [show ((j:Int) - 1)=((j - 1:Nat):Int) by omega]
  refine ⟨((j - 1))+1,by omega,?_⟩
  exact ⟨(i+1),(j - 1),by omega,rfl,(by kernel_rfl),hst12.pk [0]⟩
 refine wp_exit (then_exit (then_exit (blk_eq ?_)))
 refine bpe (.tuple #[]) (by simp [results,Try.results95,go_sem]) ?_
 rw [revL_end (by omega)] at hst7; exact ⟨rfl,hst7⟩
theorem kcmp_any (a b:ByteArray) (p q r s:Int) (w:World) (ha:a.size≤1000000) (hb:b.size≤1000000):
  Calls Try.prog 97 #[.agg #[.string a, .int .i64 p, .int .i64 q], .agg #[.string b, .int .i64 r, .int .i64 s]] w (Ret (.int .i64 (ordF a b)) w):=by
 go_enter Try.func97,Try.ntmps97
 have hst0:=St.start w
 refine wp_seq (sqr ?_)
 refine sqbx #[.string a,vi p,vi q] hst0 fun B2_1 W1 hst1=>?_
 refine sqbx #[.string b,vi r,vi s] hst1 fun B3_2 W2 hst2=>?_
 refine sqp [.k 4 (vi 0)] ?_
 refine then_normal (wp_seq (sqr (sqp [.k 5 (vp B2_1)] ?_)))
 refine sqld 0 hst2 ?_
 refine sqp [.k 7 (vp B3_2)] ?_
 refine sqld 1 hst2 ?_
 refine sqk (vi (ordF a b)) hst2 (fun cx=>⟨_,kord_any a b _ (by omega) (by omega),(map2 (cx.ou 6) (cx.ou 8))⟩) fun W8 hst8=>?_
 refine sqp [.m 4 9] ?_
 refine then_normal (wp_ret ?_)
 refine bpr (vi (ordF a b)) (results_1 Try.results97 rpt) ?_
 exact Ret.of rfl hst8.ext
theorem kins_any (A:Option Addr) (n c:Nat) (L:List EnD) (w:World) (hO:w.ownsRow 0 104 3 (.slice A n c) n (L.flatMap enC)) (hn:L.length=n) (hnb:n≤100000) (hsz:∀ e∈L,e.1.size≤1000000):
  Calls Try.prog 108 #[.slice A n c, .int .i64 0, .int .i64 ((n:Int)), .func (.func 97) #[] #[]] w (RwPost A n c (sortR L.reverse).reverse w):=by
 have st0:=St.lentRw hO
 have hcap:=eown_capN hO
 go_enter Try.func108,Try.ntmps108
 have hst0:=st0
 refine wp_seq (sqr (sqp [.m 10 1, .k 11 (vi 1), .m 8 11] ?_))
 refine then_normal (wp_block ?_)
 have h1_:L.flatMap enC=(srL L 1++L.drop 1).flatMap enC:=by rw [srL_one,List.take_append_drop]
 rw [h1_] at hst0
 refine wp_loopT (fun t_ mz az W=>∃ i:Nat,1≤i∧i≤max 1 n∧mz=n - i∧az=⟨(ovr (jv az) [(8,8,0,[vi ((i:Int))]),(0,9,1,[]),(2,12,41,[])] t_).toArray,[]⟩∧St w (Value.ownBlock (.slice A n c)).toList [eO 104 3 (.slice A n c) n ((srL L i++L.drop i).flatMap enC)] W) (n - 1) ?_ ?_
 · -- the loop begins
   exact ⟨1,Nat.le_refl _,by omega,rfl,(by kernel_rfl),hst0.pk [0]⟩
 rintro n4 a4 W4 ⟨i,hi,hin,rfl,hj_,hst4⟩
 refine ovz hj_ fun u4_=>?_
 refine wp_seq (wp_seq (sqr (sqp [.m 12 8, .m 13 2, .k 14 (.bool (decide ((i:Int) < (n:Int))))] ?_)))
 refine then_normal (wds (fun hs8 hs8p=>?_) fun hs8 hs8p=>?_)
 ·refine wp_skip (then_normal (wp_seq (wp_block (wp_seq ?_))))
  have hsl:=srL_len (L:=L) (i:=i) (by omega)
  rw [srL_in (by omega)] at hst4
  have hxz:=getD_size hsz i
  have hyz:=srL_mem (i:=i) hsz
  have hdl:(L.drop (i+1)).length=n - (i+1):=by rw [List.length_drop,hn]
  obtain ⟨x,hN_x⟩:∃ z,L.getD i en0=z:=⟨_,rfl⟩
  rw [hN_x] at hxz hst4
  refine sqr (sqp [.m 17 8, .m 9 17] ?_)
  refine then_normal (wp_block ?_)
  refine wp_loopT (fun t_ mz az W=>∃ j:Nat,j≤i∧(∀ y∈(srL L i).drop j,lessF x.1 y.1=true)∧mz=j+1∧az=⟨(ovr (jv az) [(9,9,0,[vi ((j:Int))]),(8,18,35,[])] t_).toArray,[]⟩∧St w (Value.ownBlock (.slice A n c)).toList [eO 104 3 (.slice A n c) n ((inL (srL L i) x j (L.drop (i+1))).flatMap enC)] W) (i+1) ?_ ?_
  · -- the loop begins
    exact ⟨i,Nat.le_refl _,(by rw [List.drop_of_length_le (by omega)]; exact fun _ hy=>nomatch hy),rfl,(by kernel_rfl),hst4.pk [0]⟩
  rintro n11 a11 W11 ⟨j,hj,hj2,rfl,hj_,hst11⟩
  refine ovz hj_ fun u11_=>?_
  refine wp_seq (wp_seq ?_)
  have hil_:=inL_len (S:=srL L i) (x:=x) (j:=j) (R:=L.drop (i+1)) (by omega)
  refine wp_region_Z [0,0,3,7,15,15,15,111,239,15,15,1039,3599,7695,16383,32767,65535] [[],[],[],[],[],[],[],[0],[0],[],[],[],[0],[0]] [.k 18 (vi ((j:Int))), .k 19 (vi 0), .k 20 (.bool (decide (0 < (j:Int)))), .k 21 (.bool (decide (0 < (j:Int)))), .z 22 (decide (0 < (j:Int))) (.func (.func 97) #[] #[]), .z 23 (decide (0 < (j:Int))) (.slice A n c), .z 24 (decide (0 < (j:Int))) (vi ((j:Int))), .y 25 (decide (0 < (j:Int))) (.pointer (some ((ad A).add (j*3)))), .y 26 (decide (0 < (j:Int))) (.agg #[.string ((x).1),vi (((x).2.1:Int)),vi ((x).2.2)]), .z 27 (decide (0 < (j:Int))) (.slice A n c), .z 28 (decide (0 < (j:Int))) (vi ((j:Int))), .y 29 (decide (0 < (j:Int))) (vi ((j:Int) - 1)), .y 30 (decide (0 < (j:Int))) (.pointer (some ((ad A).add ((j - 1)*3)))), .y 31 (decide (0 < (j:Int))) (.agg #[.string (((srL L i).getD (j - 1) en0).1),vi ((((srL L i).getD (j - 1) en0).2.1:Int)),vi (((srL L i).getD (j - 1) en0).2.2)]), .y 32 (decide (0 < (j:Int))) (vi (ordF ((x).1) (((srL L i).getD (j - 1) en0).1))), .z 33 (decide (0 < (j:Int))) (.bool (decide (ordF ((x).1) (((srL L i).getD (j - 1) en0).1) < 0))),tA 34 (decide (0 < (j:Int))) (decide (ordF ((x).1) (((srL L i).getD (j - 1) en0).1) < 0))] [0] [7,8,11,12,13,14] [(18,0,17,35)] hst11 ?_ fun W12 hst12=>?_
  ·refine ⟨?_,?_,?_,?_,?_,?_,trivial⟩
   ·exact m2 rfl (fun _ _ _ h=>h) (fun cx=>(cx.an 3)) fun cx hq=>run_indexSlM (e:=104) (m:=j) (sz:=3) rfl (by kernel_rfl) (by kernel_rfl) (mbv (cx.an 5) hq) (mbv (cx.an 6) hq) (by have hq_:=hq; simp only [zB] at hq_; omega) (by have hq_:=hq; simp only [zB] at hq_; omega) (At.of_ownN (cx.ri 0 rfl)) (flatPos (sz:=3) enC_len (by decide) (by first | omega | (simp only [List.length_set]; omega)))
   ·exact m2 rfl (fun _ _ _ h=>h) (fun cx=>(cx.an 3)) fun cx hq=>run_loadElt (f:=enC) (m:=j) (sz:=3) (off:=0) (n:=3) rfl (by kernel_rfl) (by kernel_rfl) (mbv (cx.an 7) hq) rfl enC_len (At.of_ownN (cx.ri 0 rfl)) (inL_at (by have hq_:=hq; simp only [zB] at hq_; omega)) (fun k hk=>match k,hk with | 0, _=>rfl | 1, _=>rfl | 2, _=>rfl | k+3,hk=>absurd hk (by have hq_:=hq; simp only [zB] at hq_; omega))
   ·exact m2 rfl (fun _ _ _ h=>h) (fun cx=>(cx.an 3)) fun cx hq=>run_bin rfl (mbv (cx.an 10) hq) (cx.co _) (congrArg (fun z=>some (Value.int .i64 z)) ((IntWalk.i64_in _ (by have hq_:=hq; simp only [zB] at hq_; omega)).trans (by have hq_:=hq; simp only [zB] at hq_; omega)))
   ·exact m2 rfl (fun _ _ _ h=>h) (fun cx=>(cx.an 3)) fun cx hq=>run_indexSlM (e:=104) (m:=j - 1) (sz:=3) rfl (by kernel_rfl) (by kernel_rfl) (mbv (cx.an 9) hq) (mbv (cx.an 11) hq) (by have hq_:=hq; simp only [zB] at hq_; omega) (by have hq_:=hq; simp only [zB] at hq_; omega) (At.of_ownN (cx.ri 0 rfl)) (flatPos (sz:=3) enC_len (by decide) (by first | omega | (simp only [List.length_set]; omega)))
   ·exact m2 rfl (fun _ _ _ h=>h) (fun cx=>(cx.an 3)) fun cx hq=>run_loadElt (f:=enC) (m:=(j - 1)) (sz:=3) (off:=0) (n:=3) rfl (by kernel_rfl) (by kernel_rfl) (mbv (cx.an 12) hq) rfl enC_len (At.of_ownN (cx.ri 0 rfl)) (inL_pre (by have hq_:=hq; simp only [zB] at hq_; omega) (by have hq_:=hq; simp only [zB] at hq_; omega)) (fun k hk=>match k,hk with | 0, _=>rfl | 1, _=>rfl | 2, _=>rfl | k+3,hk=>absurd hk (by have hq_:=hq; simp only [zB] at hq_; omega))
   ·exact m3 rfl (fun _ _ _ h=>h) (fun cx=>(cx.an 3)) fun cx hq=>⟨_, _,run_callV (f:=97) (args:=#[.agg #[.string ((x).1),vi (((x).2.1:Int)),vi ((x).2.2)], .agg #[.string (((srL L i).getD (j - 1) en0).1),vi ((((srL L i).getD (j - 1) en0).2.1:Int)),vi (((srL L i).getD (j - 1) en0).2.2)]]) (args':=#[.agg #[.string ((x).1),vi (((x).2.1:Int)),vi ((x).2.2)], .agg #[.string (((srL L i).getD (j - 1) en0).1),vi ((((srL L i).getD (j - 1) en0).2.1:Int)),vi (((srL L i).getD (j - 1) en0).2.2)]]) rfl rfl (mbv (cx.an 4) hq) (by kernel_rfl) (map2 (mbv (cx.an 8) hq) (mbv (cx.an 13) hq)) rfl,kcmp_any ((x).1) (((srL L i).getD (j - 1) en0).1) _ _ _ _ _ hxz (hyz _)⟩
  refine then_normal (wbs (fun hs13=>?_) fun hs13=>?_)
  ·have hs13p:=hs13
   simp only [zB] at hs13p
   obtain ⟨hs13p1,hs13p2⟩:=hs13p
   refine wp_skip (then_normal (wp_seq (wp_block ?_)))
   have hil_:=inL_len (S:=srL L i) (x:=x) (j:=j) (R:=L.drop (i+1)) (by omega)
   refine wp_region_Y [0,0,0,0,8,0,0,64,224,480,0,0,3072,7168,16355,32739,65535,131071] [[],[],[],[],[],[],[],[],[0],[0],[],[],[0],[0],[0],[0],[1],[1]] [[],[],[],[],[],[],[],[],[],[],[],[],[],[],[],[1],[],[2]] [[],[],[],[],[],[],[],[],[],[],[],[],[],[],[],[0],[],[1]] [.k 37 (.slice A n c), .k 38 (vi ((j:Int))), .k 39 (.slice A n c), .k 40 (vi ((j:Int))),tI 41 ((j:Int) - 1) (by omega), .k 42 (.slice A n c), .k 43 (vi ((j:Int))),tI 44 ((j:Int) - 1) (by omega), .c 45 (.pointer (some ((ad A).add ((j - 1)*3)))), .c 46 (.agg #[.string (((srL L i).getD (j - 1) en0).1),vi ((((srL L i).getD (j - 1) en0).2.1:Int)),vi (((srL L i).getD (j - 1) en0).2.2)]), .k 47 (.slice A n c), .k 48 (vi ((j:Int))), .c 49 (.pointer (some ((ad A).add (j*3)))), .c 50 (.agg #[.string ((x).1),vi (((x).2.1:Int)),vi ((x).2.2)]), .c 51 (.pointer (some ((ad A).add (j*3)))), .n, .c 52 (.pointer (some ((ad A).add ((j - 1)*3)))), .n] (fun ix σ β X=>match ix with | 0=>True | 1=>True | 2=>True | 3=>True | 4=>True | 5=>True | 6=>True | 7=>True | 8=>True | 9=>True | 10=>True | 11=>True | 12=>True | 13=>True | 14=>True | 15=>X 1=eO 104 3 (.slice A n c) n (((inL (srL L i) x j (L.drop (i+1))).set j ((srL L i).getD (j - 1) en0)).flatMap enC) | 16=>True | 17=>X 2=eO 104 3 (.slice A n c) n ((((inL (srL L i) x j (L.drop (i+1))).set j ((srL L i).getD (j - 1) en0)).set (j - 1) (x)).flatMap enC) | _=>True) [2] [8,9,12,13,14,15,16,17] [(37,0,17,53)] hst12 ?_ ?_ ?_
   ·exact fun ix _ _ _ _ _ _ hs hb hx h=>match ix,h with
    | 15,h=>by dsimp only; rw [← hx 1 rfl]; exact h
    | 17,h=>by dsimp only; rw [← hx 2 rfl]; exact h
    | 0, _ | 1, _ | 2, _ | 3, _ | 4, _ | 5, _ | 6, _ | 7, _ | 8, _ | 9, _ | 10, _ | 11, _ | 12, _ | 13, _ | 14, _ | 16, _ | _+18, _=>trivial
   ·refine ⟨?_,?_,?_,?_,?_,?_,?_,?_,trivial⟩
    ·exact xs4 rfl id fun cx=>run_indexSlM (e:=104) (m:=j - 1) (sz:=3) rfl (by kernel_rfl) (by kernel_rfl) (cx.an 5) (cx.an 7) (by omega) (by omega) (At.of_ownN (cx.ri 0 rfl)) (flatPos (sz:=3) enC_len (by decide) (by first | omega | (simp only [List.length_set]; omega)))
    ·exact xs4 rfl id fun cx=>run_loadElt (f:=enC) (m:=(j - 1)) (sz:=3) (off:=0) (n:=3) rfl (by kernel_rfl) (by kernel_rfl) (cx.an 8) rfl enC_len (At.of_ownN (cx.ri 0 rfl)) (inL_pre (by omega) (by omega)) (fun k hk=>match k,hk with | 0, _=>rfl | 1, _=>rfl | 2, _=>rfl | k+3,hk=>absurd hk (by omega))
    ·exact xs4 rfl id fun cx=>run_indexSlM (e:=104) (m:=j) (sz:=3) rfl (by kernel_rfl) (by kernel_rfl) (cx.an 10) (cx.an 11) (by omega) (by omega) (At.of_ownN (cx.ri 0 rfl)) (flatPos (sz:=3) enC_len (by decide) (by first | omega | (simp only [List.length_set]; omega)))
    ·exact xs4 rfl id fun cx=>run_loadElt (f:=enC) (m:=j) (sz:=3) (off:=0) (n:=3) rfl (by kernel_rfl) (by kernel_rfl) (cx.an 12) rfl enC_len (At.of_ownN (cx.ri 0 rfl)) (inL_at (by omega)) (fun k hk=>match k,hk with | 0, _=>rfl | 1, _=>rfl | 2, _=>rfl | k+3,hk=>absurd hk (by omega))
    ·exact xs4 rfl id fun cx=>run_indexSlM (e:=104) (m:=j) (sz:=3) rfl (by kernel_rfl) (by kernel_rfl) (cx.an 0) (cx.an 1) (by omega) (by omega) (At.of_ownN (cx.ri 0 rfl)) (flatPos (sz:=3) enC_len (by decide) (by first | omega | (simp only [List.length_set]; omega)))
    ·refine svA fun ρ β W X cx=>?_
     exact dv_storeElt (m:=j*3) (n:=n) (sz:=3) (k:=3) rfl (cx.an 14) (cx.an 9) (by kernel_rfl) (by kernel_rfl) (by kernel_rfl) cx (cx.init 0 _ rfl) rfl (by omega) (by decide) rfl (putL_flat enC_len (ts:=(inL (srL L i) x j (L.drop (i+1)))) (m:=j) (by first | omega | (simp only [List.length_set]; omega)) ((srL L i).getD (j - 1) en0)) rfl rfl (fun σ β' X' hs hb hx=>hx)
    ·exact xs4 rfl id fun cx=>run_indexSlM (e:=104) (m:=j - 1) (sz:=3) rfl (by kernel_rfl) (by kernel_rfl) (cx.an 2) (cx.an 4) (by omega) (by omega) (At.of_ownN (cx.row (dTn (cx.an 15)) rfl)) (flatPos (sz:=3) enC_len (by decide) (by first | omega | (simp only [List.length_set]; omega)))
    ·refine svA fun ρ β W X cx=>?_
     exact dv_storeElt (m:=(j - 1)*3) (n:=n) (sz:=3) (k:=3) rfl (cx.an 16) (cx.an 13) (by kernel_rfl) (by kernel_rfl) (by kernel_rfl) cx (dTn (cx.an 15)) rfl (by omega) (by decide) rfl (putL_flat enC_len (ts:=((inL (srL L i) x j (L.drop (i+1))).set j ((srL L i).getD (j - 1) en0))) (m:=(j - 1)) (by first | omega | (simp only [List.length_set]; omega)) (x)) rfl rfl (fun σ β' X' hs hb hx=>hx)
   intro σ β X W14 hD hst14 fr hfr
   simp only [exq 2 ((dTn (hD 17 lq)))] at hst14
   clear hD; subst hfr; clear σ β X
   refine blk_normal (then_normal (sqr (sqp [.m 35 9,sI 36 ((j:Int) - 1) (by omega), .m 9 36] ?_)))
   refine then_normal ?_
   have hlt_:lessF x.1 ((srL L i).getD (j - 1) en0).1=true:=by have h_:=hs13; rw [Bool.and_eq_true] at h_; rw [← ordF_less]; exact h_.2
   rw [inL_step (by omega) (by omega)] at hst14
   rw [show ((j:Int) - 1)=((j - 1:Nat):Int) by omega]
   refine ⟨((j - 1))+1,by omega,?_⟩
   exact ⟨(j - 1),by omega,(drop_less (m:=j - 1) (by omega) (by rw [Nat.sub_add_cancel (by omega)]; exact hj2) hlt_),rfl,(by kernel_rfl),hst14.pk [0]⟩
  have hs13p:=hs13
  simp only [zB] at hs13p
  refine wp_exit (then_exit (then_exit (blk_eq (blk_normal (then_normal ?_)))))
  have hcut:j=0∨lessF x.1 ((srL L i).getD (j - 1) en0).1=false:=by
   rcases Nat.eq_zero_or_pos j with h0 | h0
   ·exact .inl h0
   ·refine .inr ?_
    have h_:=hs13
    rw [Bool.and_eq_false_iff] at h_
    rcases h_ with h_ | h_
    ·exact absurd (of_decide_eq_false h_) (by omega)
    ·rw [← ordF_less]; exact h_
  rw [← hN_x] at hj2 hcut hst12
  rw [srL_snoc (by omega) hj hj2 hcut] at hst12
  refine sqr (sqp [.m 15 8,sI 16 ((i:Int)+1) (by omega), .m 8 16] ?_)
  refine then_normal ?_
  refine ⟨n - ((i+1)),by omega,?_⟩
  exact ⟨(i+1),by omega,by omega,rfl,(by kernel_rfl),hst12.pk [0]⟩
 refine wp_exit (then_exit (then_exit (blk_eq ?_)))
 refine bpe (.tuple #[]) (by simp [results,Try.results108,go_sem]) ?_
 rw [srL_all (by omega),List.drop_of_length_le (by omega),List.append_nil] at hst4; exact ⟨rfl,hst4⟩
theorem kstab_any (A:Option Addr) (n c:Nat) (L:List EnD) (w:World) (hO:w.ownsRow 0 104 3 (.slice A n c) n (L.flatMap enC)) (hn:L.length=n) (hnb:n≤100000) (hsz:∀ e∈L,e.1.size≤1000000) (hn19:n≤19):
  Calls Try.prog 105 #[.slice A n c, .int .i64 ((n:Int)), .func (.func 97) #[] #[]] w (RwPost A n c (sortR L.reverse).reverse w):=by
 have st0:=St.lentRw hO
 have hcap:=eown_capN hO
 go_enter Try.func105,Try.ntmps105
 have hst0:=st0
 refine wp_seq (sqr (sqp [.k 6 (vi 20)] ?_))
 refine then_normal (wp_seq (sqr (sqp [.m 10 6, .k 7 (vi 0), .m 8 10] ?_)))
 refine then_normal (wp_seq (wp_block ?_))
 refine wp_loopT (fun t_ mz az W=>True∧mz=0∧az=⟨(ovr (jv az) [(11,11,12,[])] t_).toArray,[]⟩∧St w (Value.ownBlock (.slice A n c)).toList [eO 104 3 (.slice A n c) n (L.flatMap enC)] W) (0) ?_ ?_
 · -- the loop begins
   exact ⟨trivial,rfl,(by kernel_rfl),hst0.pk [0]⟩
 rintro n5 a5 W5 ⟨-,rfl,hj_,hst5⟩
 refine ovz hj_ fun u5_=>?_
 refine wp_seq (wp_seq (sqr ?_))
 have hd9:(decide (20≤(n:Int)))=false:=(decide_eq_false (by omega))
 refine sqp [.m 11 8, .m 12 1, .e 13 (.bool (decide (20≤(n:Int)))) (.bool false) (congrArg Value.bool hd9)] ?_
 refine then_normal (wcf rfl (wp_exit (then_exit (then_exit (blk_eq (then_normal (wp_seq (sqr (sqp [.m 23 0, .m 24 7, .m 25 1, .m 26 2] ?_)))))))))
 refine sqc0 (.tuple #[]) (eO 104 3 (.slice A n c) n (((sortR L.reverse).reverse).flatMap enC)) 0 hst5 (by
   refine svA fun ρ β W X cx=>?_
   refine DoesU.call (run_callF (args:=#[.slice A n c,vi 0,vi ((n:Int)), .func (.func 97) #[] #[]]) rfl cx.sees rfl (by kernel_rfl) (map4 (cx.ou 23) (cx.ou 24) (cx.ou 25) (cx.ou 26))) ?_
   refine (kins_any A n c L _ (cx.ri 0 rfl) hn hnb hsz).mono ?_
   rintro e W1 ⟨rfl,hs4⟩
   refine ⟨_,rfl,post_obj (E:=eO 104 3 (.slice A n c) n (L.flatMap enC)) [eO 104 3 (.slice A n c) n (((sortR L.reverse).reverse).flatMap enC)] (cx.init 0 _ rfl) rfl rfl hs4 (fun σ β' X' hs hb hv hN=>?_)⟩
   have hv1:=(hv 27 rfl).1; have hv2:=(hv 27 rfl).2
   exact ⟨hv1.trans rfl,(List.cons.inj hN).1⟩) fun W14 hst14=>?_
 refine then_normal (wp_block ?_)
 refine wp_loopT (fun t_ mz az W=>True∧mz=0∧az=⟨(ovr (jv az) [(7,7,3,[]),(18,28,35,[])] t_).toArray,[]⟩∧St w (Value.ownBlock (.slice A n c)).toList [eO 104 3 (.slice A n c) n (((sortR L.reverse).reverse).flatMap enC)] W) (0) ?_ ?_
 · -- the loop begins
   exact ⟨trivial,rfl,(by kernel_rfl),hst14.pk [0]⟩
 rintro n15 a15 W15 ⟨-,rfl,hj_,hst15⟩
 refine ovz hj_ fun u15_=>?_
 refine wp_seq (wp_seq (sqr ?_))
 have hd19:(decide (20 < (n:Int)))=false:=(decide_eq_false (by omega))
 refine sqp [.m 28 6, .m 29 1, .e 30 (.bool (decide (20 < (n:Int)))) (.bool false) (congrArg Value.bool hd19)] ?_
 refine then_normal (wcf rfl (wp_exit (then_exit (then_exit (blk_eq ?_)))))
 refine bpe (.tuple #[]) (by simp [results,Try.results105,go_sem]) ?_
 exact ⟨rfl,hst15⟩
theorem ksort_any (A:Option Addr) (n c:Nat) (L:List EnD) (w:World) (hO:w.ownsRow 0 104 3 (.slice A n c) n (L.flatMap enC)) (hn:L.length=n) (hnb:n≤100000) (hsz:∀ e∈L,e.1.size≤1000000) (hn19:n≤19):
  Calls Try.prog 96 #[.slice A n c, .func (.func 97) #[] #[]] w (RwPost A n c (sortR L.reverse).reverse w):=by
 have st0:=St.lentRw hO
 have hcap:=eown_capN hO
 go_enter Try.func96,Try.ntmps96
 have hst0:=st0
 refine sqr (sqp [.m 4 0, .m 5 0, .k 6 (vi ((n:Int))), .m 7 1] ?_)
 refine sqc0 (.tuple #[]) (eO 104 3 (.slice A n c) n (((sortR L.reverse).reverse).flatMap enC)) 0 hst0 (by
   refine svA fun ρ β W X cx=>?_
   refine DoesU.call (run_callF (args:=#[.slice A n c,vi ((n:Int)), .func (.func 97) #[] #[]]) rfl cx.sees rfl (by kernel_rfl) (map3 (cx.ou 4) (cx.ou 6) (cx.ou 7))) ?_
   refine (kstab_any A n c L _ (cx.ri 0 rfl) hn hnb hsz hn19).mono ?_
   rintro e W1 ⟨rfl,hs4⟩
   refine ⟨_,rfl,post_obj (E:=eO 104 3 (.slice A n c) n (L.flatMap enC)) [eO 104 3 (.slice A n c) n (((sortR L.reverse).reverse).flatMap enC)] (cx.init 0 _ rfl) rfl rfl hs4 (fun σ β' X' hs hb hv hN=>?_)⟩
   have hv1:=(hv 8 rfl).1; have hv2:=(hv 8 rfl).2
   exact ⟨hv1.trans rfl,(List.cons.inj hN).1⟩) fun W5 hst5=>?_
 refine bpe (.tuple #[]) (by simp [results,Try.results96,go_sem]) ?_
 exact ⟨rfl,hst5⟩
end
end Go.Proofs.Ytjlcoglmjldjbaa

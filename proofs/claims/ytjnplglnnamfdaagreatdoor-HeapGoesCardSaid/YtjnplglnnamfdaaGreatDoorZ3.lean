/- HeapGoesRow9: part 3 of the proof. -/
import Derived.Test.YtjnplglnnamfdaaGreatDoorZ2
import Derived.Deep.RegionHeld3
set_option linter.unusedVariables false
set_option linter.unusedSimpArgs false
set_option maxRecDepth 100000
set_option maxHeartbeats 16000000
namespace Go.Proofs.YtjnplglnnamfdaaGreatDoor
section
open Go.RowKit
theorem or_low {X b:Nat} (h:b < 256):X*256||| b=X*256+b:=by
 have:=Nat.shiftLeft_add_eq_or_of_lt (i:=8) (b:=b) (by simpa using h) X
 rw [Nat.shiftLeft_eq] at this
 exact this.symm
theorem wrap_or {x b:Int} (hb:0≤b∧b < 256):IntKind.i64.wrap ((BitVec.ofInt IntKind.i64.bits (IntKind.i64.wrap (IntKind.i64.wrap x*2 ^ 8))||| BitVec.ofInt IntKind.i64.bits b).toNat:Int)=IntKind.i64.wrap (x*256+b):=by
 show IntKind.i64.wrap ((BitVec.ofInt 64 (IntKind.i64.wrap (IntKind.i64.wrap x*2 ^ 8))||| BitVec.ofInt 64 b).toNat:Int)= _
 rw [BitVec.toNat_or,BitVec.toNat_ofInt,BitVec.toNat_ofInt]
 have e1:((IntKind.i64.wrap (IntKind.i64.wrap x*2 ^ 8)) % ((2 ^ 64:Nat):Int)).toNat=(x % 72057594037927936).toNat*256:=by
  rw [IntKind.wrap_i64,IntKind.wrap_i64]
  have:((2 ^ 64:Nat):Int)=18446744073709551616:=by decide
  rw [this]
  omega
 have e2:(b % ((2 ^ 64:Nat):Int)).toNat=b.toNat:=by
  have:((2 ^ 64:Nat):Int)=18446744073709551616:=by decide
  rw [this]; omega
 rw [e1,e2,or_low (by omega),IntKind.wrap_i64,IntKind.wrap_i64]
 omega
def accN (N:Int) (j:Nat):Int:=IntKind.i64.wrap (IntKind.u64.wrap N / 256 ^ (8 - j))
theorem u64_bd (N:Int):0≤IntKind.u64.wrap N∧IntKind.u64.wrap N < 18446744073709551616:=by rw [IntKind.wrap_u64]; omega
theorem acc_0 (N:Int):accN N 0=0:=by
 have h:=u64_bd N
 unfold accN
 rw [show IntKind.u64.wrap N / 256 ^ (8 - 0)=0 by simp only [Nat.reduceSub,Int.reducePow]; omega]
 decide
theorem acc_8 {N:Int} (h: -9223372036854775808≤N∧N≤9223372036854775807):accN N 8=N:=by
 unfold accN
 simp only [Nat.reduceSub,Int.reducePow,Int.ediv_one]
 rw [IntKind.wrap_u64,IntKind.wrap_i64]
 omega
theorem oct8_bd (N:Int) (j:Nat):0≤(oct8 N).getD j 0∧(oct8 N).getD j 0 < 256:=by
 unfold oct8
 rcases Nat.lt_or_ge j 8 with h | h
 ·rcases (by omega:j=0∨j=1∨j=2∨j=3∨j=4∨j=5∨j=6∨j=7) with rfl | rfl | rfl | rfl | rfl | rfl | rfl | rfl<;>simp only [List.getD_cons_zero,List.getD_cons_succ]<;>omega
 ·rw [List.getD_eq_getElem?_getD,List.getElem?_eq_none (by simpa using h)]; simp
theorem acc_step (N:Int) {j:Nat} (hj:j < 8):IntKind.i64.wrap ((BitVec.ofInt IntKind.i64.bits (IntKind.i64.wrap (accN N j*2 ^ 8))||| BitVec.ofInt IntKind.i64.bits ((oct8 N).getD j 0)).toNat:Int)=accN N (j+1):=by
 rw [accN,wrap_or (oct8_bd N j),accN]
 congr 1
 unfold oct8
 have h:=u64_bd N
 generalize IntKind.u64.wrap N=u at*
 rcases (by omega:j=0∨j=1∨j=2∨j=3∨j=4∨j=5∨j=6∨j=7) with rfl | rfl | rfl | rfl | rfl | rfl | rfl | rfl<;>simp only [List.getD_cons_zero,List.getD_cons_succ,Nat.reduceSub,Nat.reduceAdd,Int.reducePow]<;>omega
theorem bI_put (N:Int):bI (putS N 8)=oct8 N:=by
 unfold putS
 rw [show 8 - 8=0 from rfl,List.drop_zero]
 unfold bI strOfNums
 rw [List.toList_toArray,List.map_map]
 have:∀ l:List Int,(∀ b∈l,0≤b∧b < 256)→l.map ((fun b:UInt8=>(b.toNat:Int)) ∘ fun n:Int=>UInt8.ofNat n.toNat)=l:=by
  intro l
  induction l with
  | nil=>intro _; rfl
  | cons a l ih=>
    intro h
    rw [List.map_cons,ih fun b hb=>h b (List.mem_cons_of_mem _ hb)]
    congr 1
    have:=h a (List.mem_cons_self ..)
    show (((UInt8.ofNat a.toNat).toNat:Nat):Int)=a
    rw [UInt8.toNat_ofNat']
    omega
 refine this _ fun b hb=>?_
 obtain ⟨j,hj⟩:=List.mem_iff_getElem?.1 hb
 have:=oct8_bd N j
 rw [List.getD_eq_getElem?_getD,hj] at this
 exact this
theorem u8_int {x:Int} (h:0≤x∧x < 256):(((UInt8.ofNat x.toNat).toNat:Nat):Int)=x:=by rw [UInt8.toNat_ofNat']; omega
theorem strL_data (x:ByteArray):strL x.data.toList=x:=by show ByteArray.mk x.data.toList.toArray=x; rw [Array.toArray_toList]
def plainV (v:Val):Val:=(v.1,if v.1=1 then v.2.1 else 0,if v.1=2 then v.2.2 else ByteArray.empty)
def tailB (v:Val):List UInt8:=if v.1=1 then (putS v.2.1 8).data.toList else if v.1=2 then UInt8.ofNat ((v.2.2.size:Nat):Int).toNat::v.2.2.data.toList else []
abbrev valsB (rs:List Val):List UInt8:=rs.flatMap valB
abbrev plainR (rs:List Val):List Val:=rs.map plainV
theorem valsB_at {rs:List Val} {k:Nat} (h:k < rs.length):valsB (rs.drop k)=UInt8.ofNat (rs.getD k v0).1.toNat::(tailB (rs.getD k v0)++valsB (rs.drop (k+1))):=by
 rw [List.getD_eq_getElem?_getD,List.getElem?_eq_getElem h,Option.getD_some]
 rw [valsB,List.drop_eq_getElem_cons h,List.flatMap_cons]
 rfl
theorem plain_snoc {rs:List Val} {k:Nat} {c:List Value} (h:k < rs.length) (hc:cellsV (plainV (rs.getD k v0))=c):flatR (plainR (rs.take k))++c=flatR (plainR (rs.take (k+1))):=by
 rw [← hc,plainR,plainR,List.take_add_one,List.getElem?_eq_getElem h,List.getD_eq_getElem?_getD,List.getElem?_eq_getElem h,List.map_append,flatR,flatR,List.flatMap_append]
 congr 1
theorem vbytes_eq {rs:List Val} (h:rrightF rs=true):vbytesF rs=strL (UInt8.ofNat ((rs.length:Nat):Int).toNat::valsB rs):=by
 rw [vbytesF,if_pos h,bytesTo,List.take_length]
theorem nilrowN {w0 W:World} {bor:List Nat} {L:List Ent} (h:St w0 bor L W) (e sz:Nat):St w0 bor (L++[eO e sz (.slice none 0 0) 0 []]) W:=by
 refine ⟨h.upd,fun x hx=>?_,?_⟩
 ·rcases List.mem_append.1 hx with hx | hx
  ·exact h.ok x hx
  ·rw [List.mem_singleton] at hx
   subst hx
   exact ⟨World.ownsRow_nil _ _ _ _,eO_loc _ _ _ _ _,fun k hk=>by cases hk⟩
 ·rw [List.pairwise_append]
  refine ⟨h.apart,List.pairwise_singleton _ _,fun a _ b hb=>?_⟩
  rw [List.mem_singleton] at hb
  subst hb
  exact fun k _ hk=>by cases hk
section
variable {P:Program} {o:Oper} {ρ:Operand→Value} {W:World}
theorem run_shl {t t':TypeId} {x y:Operand} {k k':IntKind} {a b z:Int} (h:o.op= .binOp .shl t x y t') (hx:ρ x= .int k a) (hy:ρ y= .int k' b) (hb:0≤b) (hz:k.wrap (a*2 ^ min b.toNat k.bits)=z):(execOp ρ o).run P W= .ok (.value (.int k z)) W:=by
 subst hz
 unfold execOp; rw [h]
 have:¬ b < 0:=by omega
 simp [hx,hy,eqGuard,binOp,Op.shift,this]
theorem run_or {t t':TypeId} {x y:Operand} {k:IntKind} {a b z:Int} (h:o.op= .binOp .or t x y t') (hx:ρ x= .int k a) (hy:ρ y= .int k b) (hz:k.wrap ((BitVec.ofInt k.bits a||| BitVec.ofInt k.bits b).toNat:Int)=z):(execOp ρ o).run P W= .ok (.value (.int k z)) W:=by
 subst hz
 unfold execOp; rw [h]
 simp [hx,hy,eqGuard,binOp,Op.intBits]
end
theorem one_cons (b c:Nat) (a:UInt8) (l:List UInt8) (w:World) (hb:Blk w b 9 #[.string (strL (a::l))]) (hc:Blk w c 161 #[.func (.func 201) #[] #[.pointer (some ⟨b,0,none⟩)]]) (hne:b≠c):
  Calls Tryz.prog 203 #[.pointer (some ⟨c,0,none⟩)] w (TakePost b (.int .i64 ((a.toNat:Nat):Int)) l w):=one1_any b c (a::l) w hb hc hne (by simp)
theorem take_app (n b:Nat) (A R:List UInt8) (w:World) (hb:Blk w b 9 #[.string (strL (A++R))]) (hn:A.length=n):
  Calls Tryz.prog 201 #[.int .i64 (n:Int), .pointer (some ⟨b,0,none⟩)] w (TakePost b (.string (strL A)) R w):=by
 have h:=take_any n b (A++R) w hb (by rw [List.length_append]; omega)
 rw [List.take_left' hn,List.drop_left' hn] at h
 exact h
def VReadPost (rs:List Val) (w:World) (e:Ending) (w':World):Prop:=∃ A c,e= .returned (.tuple #[.slice A rs.length c, .int .i64 0])∧w'.ownsRow w.heap.size 45 3 (.slice A rs.length c) rs.length (flatR (plainR rs))∧Ext w w'
theorem vread_any (rs:List Val) (h0:UInt8) (w:World) (hr:rrightF rs=true) (hrN:∀ v∈rs,v.1=1→ -9223372036854775808≤v.2.1∧v.2.1≤9223372036854775807) (hh0:((h0.toNat:Nat):Int)=(rs.length:Int)):
  Calls Tryz.prog 133 #[.string (strL (h0::valsB rs))] w (VReadPost rs w):=by
 have hl6:=rright_len hr
 go_enter_defers Tryz.func133,Tryz.ntmps133
 have hst0:=St.start w
 refine wp_seq (sqr ?_)
 refine sqbx #[.string (strL (h0::valsB rs))] hst0 fun B1_1 W1 hst1=>?_
 refine sqal #[.slice none 0 0] hst1 fun B2_2 W2 hst2=>?_
 refine sqal #[vi 0] hst2 fun B3_3 W3 hst3=>?_
 refine then_normal (wp_seq ?_)
 refine wp_mkdefer (v:= .func (.func 200) #[] #[vp B2_2,vp B3_3]) (d:={target:= .fn (.func 200) #[vp B2_2,vp B3_3],args:=#[]}) rfl rfl (by simp [go_sem,Instr.makeFunc,Act.eval]) (by simp [go_sem,Act.eval,Act.put]) rfl ?_
 simp only [Act.put,List.setIfInBounds_toArray,List.set_cons_succ,List.set_cons_zero]
 refine then_normal (wp_seq (sqr ?_))
 refine sqv (.func (.func 201) #[] #[vp B1_1]) hst3 (by
   exact sv0 rfl rfl rfl rfl rfl (fun _ _ _ h=>h) fun ρ β W X cx=>by
    have fF1:ρ (.tmp 1)=vp B1_1:=(cx.ou 1)
    simp [go_sem,Instr.makeFunc,fF1]) fun W4 hst4=>?_
 refine sqal #[.nilFunc] hst4 fun B4_5 W5 hst5=>?_
 refine sqst (n:=1) 3 #[.func (.func 201) #[] #[vp B1_1]] hst5 fun W6 hst6=>?_
 refine then_normal (wp_seq (sqr ?_))
 refine sqv (.func (.func 203) #[] #[vp B4_5]) hst6 (by
   exact sv0 rfl rfl rfl rfl rfl (fun _ _ _ h=>h) fun ρ β W X cx=>by
    have fF4:ρ (.tmp 4)=vp B4_5:=(cx.ou 4)
    simp [go_sem,Instr.makeFunc,fF4]) fun W7 hst7=>?_
 refine sqp [.m 5 13] ?_
 refine then_normal (wp_seq (sqr (sqp [.m 14 5] ?_)))
 refine sqc0 (vi ((rs.length:Int))) (eB B1_1 9 #[.string (strL (valsB rs))]) 0 hst7 (by
   refine svA fun ρ β W X cx=>?_
   refine DoesU.call (run_callV (f:=203) (args:=#[]) (args':=#[vp B4_5]) rfl rfl (cx.ou 14) (by kernel_rfl) map0 rfl) ?_
   refine (one_cons _ _ h0 (valsB rs) _ (cx.bi 0 rfl) (cx.bi 3 rfl) (by have h_:=cx.ap 0 3 rfl rfl (by decide); rw [(cx.init 0 _ rfl),(cx.init 3 _ rfl)] at h_; intro e_; exact h_ _ (List.mem_singleton.2 rfl) (List.mem_singleton.2 e_))).mono ?_
   rintro e W1 ⟨rfl,hb1,hu⟩
   refine ⟨_,rfl,post_mut (cx.init 0 _ rfl) rfl rfl hu hb1 (fun σ β' X' hs hb hv hx=>?_)⟩
   exact ⟨(hv 15 rfl).1.trans (congrArg (Value.int .i64) hh0),hx⟩) fun W10 hst10=>?_
 refine sqp [.m 6 15] ?_
 refine then_normal (wp_seq (sqr ?_))
 have hd14:(decide ((rs.length:Int)≤6))=true:=decide_eq_true (by omega)
 refine sqp [.m 16 6, .e 17 (.bool (decide ((rs.length:Int)≤6))) (.bool true) (congrArg Value.bool hd14)] ?_
 refine sqk (.tuple #[]) hst10 (fun cx=>⟨_,must_true _ _,(map2 (cx.ou 17) (cx.co _))⟩) fun W15 hst15=>?_
 refine then_normal (wp_seq (wp_seq (sqr (sqp [.m 19 6, .k 20 (vi 0)] ?_))))
 refine then_normal (wp_block ?_)
 have hn_18:=nilrowN hst15 45 3
 refine wp_loopT (fun t_ mz az W=>∃ k:Nat,∃ RA:Option Addr,∃ RC:Nat,k≤rs.length∧mz=rs.length - k∧az=⟨(ovr (jv az) [(7,7,1,[]),(1,9,2,[]),(9,20,0,[vi ((k:Int))]),(0,21,44,[])] t_).toArray,[{target:= .fn (.func 200) #[vp B2_2,vp B3_3],args:=#[]}]⟩∧St w [] [eB B1_1 9 #[.string (strL (valsB (rs.drop k)))],eB B2_2 39 #[.slice RA k RC],eO 45 3 (.slice RA k RC) k (flatR (plainR (rs.take k))),eB B3_3 57 #[vi 0],eB B4_5 161 #[.func (.func 201) #[] #[vp B1_1]]] W) (rs.length - 0) ?_ ?_
 · -- the loop begins
   exact ⟨0,none,0,by omega,rfl,(by kernel_rfl),hn_18.pk [0,1,4,2,3]⟩
 rintro n19 a19 W19 ⟨k,RA,RC,hk,rfl,hj_,hst19⟩
 refine ovz hj_ fun u19_=>?_
 refine wp_seq (sqr (sqp [.k 21 (.bool (decide ((k:Int) < (rs.length:Int))))] ?_))
 refine then_normal (wp_seq (wds (fun hs21 hs21p=>?_) fun hs21 hs21p=>?_))
 ·refine wp_skip (then_normal (wp_seq (wp_block (wp_seq ?_))))
  obtain ⟨u,hu⟩:∃ z,rs.getD k v0=z:=⟨_,rfl⟩
  have hvu:vrightF u=true:=by rw [← hu]; exact rright_at hr (by omega)
  have hpu:=vright_parts hvu
  have hkn:knownF u.1=true:=by simp only [knownF,Bool.and_eq_true,decide_eq_true_eq]; omega
  have huN:u.1=1→ -9223372036854775808≤u.2.1∧u.2.1≤9223372036854775807:=by rw [← hu]; exact hrN _ (by rw [List.getD_eq_getElem?_getD,List.getElem?_eq_getElem (by omega),Option.getD_some]; exact List.getElem_mem _)
  obtain ⟨hd,hhd⟩:∃ z,UInt8.ofNat u.1.toNat=z:=⟨_,rfl⟩
  have hdv:((hd.toNat:Nat):Int)=u.1:=by rw [← hhd]; exact u8_int (by omega)
  obtain ⟨TB,hTB⟩:∃ z,tailB u=z:=⟨_,rfl⟩
  obtain ⟨R,hR⟩:∃ z,valsB (rs.drop (k+1))=z:=⟨_,rfl⟩
  have hl_:valsB (rs.drop k)=hd::(TB++R):=by rw [valsB_at (by omega),hu,hhd,hTB,hR]
  rw [hl_] at hst19
  refine sqr (sqp [.m 22 5] ?_)
  refine sqc0 (vi u.1) (eB B1_1 9 #[.string (strL (TB++R))]) 0 hst19 (by
    refine svA fun ρ β W X cx=>?_
    refine DoesU.call (run_callV (f:=203) (args:=#[]) (args':=#[vp B4_5]) rfl rfl (cx.ou 22) (by kernel_rfl) map0 rfl) ?_
    refine (one_cons _ _ hd ((TB++R)) _ (cx.bi 0 rfl) (cx.bi 4 rfl) (by have h_:=cx.ap 0 4 rfl rfl (by decide); rw [(cx.init 0 _ rfl),(cx.init 4 _ rfl)] at h_; intro e_; exact h_ _ (List.mem_singleton.2 rfl) (List.mem_singleton.2 e_))).mono ?_
    rintro e W1 ⟨rfl,hb1,hu⟩
    refine ⟨_,rfl,post_mut (cx.init 0 _ rfl) rfl rfl hu hb1 (fun σ β' X' hs hb hv hx=>?_)⟩
    exact ⟨(hv 23 rfl).1.trans (congrArg (Value.int .i64) hdv),hx⟩) fun W23 hst23=>?_
  refine sqp [.k 24 (.agg #[vi u.1,vi 0, .string ByteArray.empty])] ?_
  refine sqal #[vi 0,vi 0, .string ByteArray.empty] hst23 fun B7_25 W25 hst25=>?_
  refine sqst (n:=3) 5 #[vi u.1,vi 0, .string ByteArray.empty] hst25 fun W26 hst26=>?_
  refine then_normal (wp_seq (sqr (sqp [.k 25 (vp B7_25)] ?_)))
  refine sqld 5 hst26 ?_
  have hd30:(knownF u.1)=true:=hkn
  refine sqv (.bool true) hst26 (sv_call rfl rfl rfl rfl rfl (fun _ _ _ h=>h.trans (congrArg Value.bool hd30)) fun ρ β W X cx=>⟨_, _,run_callF (args:=#[vi u.1]) rfl cx.sees rfl (by kernel_rfl) (map1 (cx.ou 26)),vknown_any u.1 _⟩) fun W29 hst29=>?_
  refine sqk (.tuple #[]) hst29 (fun cx=>⟨_,must_true _ _,(map2 (cx.ou 27) (cx.co _))⟩) fun W31 hst31=>?_
  refine then_normal (wp_seq (wp_seq (sqr (sqp [.k 29 (vp B7_25)] ?_))))
  refine sqld 5 hst31 ?_
  refine then_normal (wp_block (wp_seq (sqr (sqp [.k 32 (.bool (u.1==1)), .m 31 32] ?_))))
  refine then_normal (wbs (fun hs36=>?_) fun hs36=>?_)
  ·have hs36p:=beq_iff_eq.1 hs36
   refine wp_seq ?_
   have h8:TB=(putS u.2.1 8).data.toList:=by rw [← hTB,tailB,if_pos (by assumption)]
   have hp8:(putS u.2.1 8).size=8:=putS_size _ 8 (by omega)
   rw [h8] at hst31
   refine sqr (sqld 4 hst31 ?_)
   refine sqc0 (.string ((putS u.2.1 8))) (eB B1_1 9 #[.string (strL R)]) 0 hst31 (by
     refine svA fun ρ β W X cx=>?_
     refine DoesU.call (run_callV (f:=201) (args:=#[vi 8]) (args':=#[vi 8,vp B1_1]) rfl rfl (cx.ou 33) (by kernel_rfl) (map1 (cx.co _)) rfl) ?_
     refine (take_app 8 B1_1 ((putS u.2.1 8).data.toList) R _ (cx.bi 0 rfl) (by rw [Array.length_toList]; exact putS_size _ 8 (by omega))).mono ?_
     rintro e W1 ⟨rfl,hb1,hu⟩
     refine ⟨_,rfl,post_mut (cx.init 0 _ rfl) rfl rfl hu hb1 (fun σ β' X' hs hb hv hx=>?_)⟩
     exact ⟨(hv 34 rfl).1.trans (congrArg Value.string (strL_data _)),hx⟩) fun W38 hst38=>?_
   refine sqn2 (fun x_=>pb' x_) (fun x_=>sK x_) (fun B35_39 c35_39=> .slice ((some ⟨B35_39,0,none⟩)) (((putS u.2.1 8)).size) (((putS u.2.1 8)).size+c35_39)) (fun B35_39 c35_39=>eW B35_39 5 (bI (putS u.2.1 8))) hst38 (by
     refine svA fun ρ β W X cx=>?_
     exact dv_convS (e:=5) (s:=(putS u.2.1 8)) rfl (by kernel_rfl) (by kernel_rfl) (by kernel_rfl) (cx.ou 34) rfl rfl (fun σ β' X' hs hb hv hx=>⟨hv,hx⟩)) fun B35_39 c35_39 W39 hst39=>?_
   refine sqp [.k 36 (vi ((((putS u.2.1 8)).size:Int))), .k 37 (vi 0)] ?_
   refine then_normal (wp_block ?_)
   rw [show eB B7_25 45 #[vi u.1,vi 0, .string ByteArray.empty]=eB B7_25 45 #[vi u.1,vi (accN u.2.1 0), .string ByteArray.empty] from by rw [acc_0],bI_put] at hst39
   refine wp_loopT (fun t_ mz az W=>∃ j:Nat,j≤8∧mz=8 - j∧az=⟨(ovr (jv az) [(9,9,1,[]),(27,37,0,[vi ((j:Int))]),(0,38,11,[])] t_).toArray,[{target:= .fn (.func 200) #[vp B2_2,vp B3_3],args:=#[]}]⟩∧St w [] [eB B1_1 9 #[.string (strL R)],eB B2_2 39 #[.slice RA k RC],eO 45 3 (.slice RA k RC) k (flatR (plainR (rs.take k))),eB B3_3 57 #[vi 0],eB B4_5 161 #[.func (.func 201) #[] #[vp B1_1]],eB B7_25 45 #[vi u.1,vi (accN u.2.1 j), .string ByteArray.empty],eW B35_39 5 (oct8 u.2.1)] W) (8 - 0) ?_ ?_
   · -- the loop begins
     exact ⟨0,by omega,rfl,(by kernel_rfl),hst39.pk [0,1,2,3,4,5,6]⟩
   rintro n42 a42 W42 ⟨j,hj,rfl,hj_,hst42⟩
   refine ovz hj_ fun u42_=>?_
   refine wp_seq (sqr (sqp [.k 38 (.bool (decide ((j:Int) < (((putS u.2.1 8)).size:Int))))] ?_))
   refine then_normal (wp_seq (wds (fun hs44 hs44p=>?_) fun hs44 hs44p=>?_))
   ·refine wp_skip (then_normal (wp_seq (wp_block (wp_seq (sqr ?_)))))
    refine sql (.pointer (some ⟨B35_39,j,none⟩)) hst42 (fun cx=>run_indexW (e:=5) (m:=j) rfl (by kernel_rfl) (by kernel_rfl) (cx.ou 35) (cx.ou 37) (by omega) (by omega)) ?_
    refine sql (.int .u8 ((oct8 u.2.1).getD j 0)) hst42 (fun cx=>run_load1 rfl (by kernel_rfl) (cx.ou 39) (BRow.cell (cx.brow (cx.init 6 _ rfl) rfl) (by first | omega | (show _ < 8; omega)))) ?_
    refine sqp [.m 9 40] ?_
    refine then_normal ?_
    have hob:=oct8_bd u.2.1 j
    refine sqr (sqp [.k 41 (.pointer (some ⟨B7_25,1,none⟩))] ?_)
    refine sqld 5 hst42 ?_
    refine sql (vi (IntKind.i64.wrap (accN u.2.1 j*2 ^ 8))) hst42 (fun cx=>run_shl rfl (cx.ou 42) (cx.co _) (by decide) rfl) ?_
    refine sqp [.m 44 9,sW 45 .i64 ((oct8 u.2.1).getD j 0) ((oct8 u.2.1).getD j 0) (IntWalk.i64_in _ (by omega))] ?_
    refine sql (vi (accN u.2.1 (j+1))) hst42 (fun cx=>run_or rfl (cx.ou 43) (cx.ou 45) (acc_step _ (by omega))) ?_
    refine sqp [.k 47 (.pointer (some ⟨B7_25,1,none⟩))] ?_
    refine sqst (n:=1) 5 #[vi u.1,vi (accN u.2.1 (j+1)), .string ByteArray.empty] hst42 fun W55 hst55=>?_
    refine blk_normal (then_normal (sqr (sqp [sI 48 ((j:Int)+1) (by omega), .m 37 48] ?_)))
    refine then_normal ?_
    refine ⟨8 - ((j+1)),by omega,?_⟩
    exact ⟨(j+1),by omega,rfl,(by kernel_rfl),hst55.pk [0,1,2,3,4,5,6]⟩
   refine wp_exit (then_exit (then_exit (blk_eq (blk_normal (then_normal ?_)))))
   obtain rfl:j=8:=by omega
   rw [acc_8 (huN (by assumption))] at hst42
   refine sqr (sqld 1 hst42 ?_)
   refine sqlb 5 3 hst42 ?_
   refine sqli 45 3 1 [vi u.1,vi u.2.1, .string ByteArray.empty] hst42 (@fun ρ β W X cx=>by have fF61:ρ (.tmp 61)= .agg #[vi u.1,vi u.2.1, .string ByteArray.empty]:=(cx.ou 61); simp [go_sem,fF61]) fun B62_60 W60 hst60=>?_
   refine sqap (k+1) (flatR (plainR (rs.take (k+1)))) 2 hst60 Tryz.infoVal (fun cx=>(At.of_ownN (cx.ri 7 rfl))) (hxs:=plain_snoc (by omega) (by rw [hu]; simp [cellsV,plainV, *])) fun A63_61 c63_61 W61 hst61=>?_
   refine sqst (n:=1) 1 #[.slice A63_61 (k+1) c63_61] hst61 fun W62 hst62=>?_
   refine blk_normal (then_normal (sqr (sqp [sI 64 ((k:Int)+1) (by omega), .m 20 64] ?_)))
   refine then_normal ?_
   rw [← hR] at hst62
   refine ⟨rs.length - ((k+1)),by omega,?_⟩
   exact ⟨(k+1),A63_61,c63_61,by omega,rfl,(by kernel_rfl),hst62.pk [0,1,2,3,4]⟩
  have hs36p:=beq_eq_false_iff_ne.1 hs36
  refine wp_seq (sqr (sqp [.k 50 (.bool (u.1==2)), .m 49 50] ?_))
  refine then_normal (wbs (fun hs67=>?_) fun hs67=>?_)
  ·have hs67p:=beq_iff_eq.1 hs67
   refine wp_seq ?_
   have hs2:u.2.2.size≤40:=hpu.2.2 (by assumption)
   obtain ⟨h2,hh2⟩:∃ z,UInt8.ofNat ((u.2.2.size:Nat):Int).toNat=z:=⟨_,rfl⟩
   have hv2:((h2.toNat:Nat):Int)=(u.2.2.size:Int):=by rw [← hh2]; exact u8_int (by omega)
   have h8:TB=h2::u.2.2.data.toList:=by rw [← hTB,tailB,if_neg (by assumption),if_pos (by assumption),hh2]
   rw [h8,List.cons_append] at hst31
   refine sqr (sqp [.m 51 5] ?_)
   refine sqc0 (vi ((u.2.2.size:Int))) (eB B1_1 9 #[.string (strL (u.2.2.data.toList++R))]) 0 hst31 (by
     refine svA fun ρ β W X cx=>?_
     refine DoesU.call (run_callV (f:=203) (args:=#[]) (args':=#[vp B4_5]) rfl rfl (cx.ou 51) (by kernel_rfl) map0 rfl) ?_
     refine (one_cons _ _ h2 ((u.2.2.data.toList++R)) _ (cx.bi 0 rfl) (cx.bi 4 rfl) (by have h_:=cx.ap 0 4 rfl rfl (by decide); rw [(cx.init 0 _ rfl),(cx.init 4 _ rfl)] at h_; intro e_; exact h_ _ (List.mem_singleton.2 rfl) (List.mem_singleton.2 e_))).mono ?_
     rintro e W1 ⟨rfl,hb1,hu⟩
     refine ⟨_,rfl,post_mut (cx.init 0 _ rfl) rfl rfl hu hb1 (fun σ β' X' hs hb hv hx=>?_)⟩
     exact ⟨(hv 52 rfl).1.trans (congrArg (Value.int .i64) hv2),hx⟩) fun W69 hst69=>?_
   refine sqp [.m 10 52] ?_
   refine then_normal (wp_seq (sqr ?_))
   have hd73:(decide ((u.2.2.size:Int)≤40))=true:=decide_eq_true (by omega)
   refine sqp [.m 53 10, .e 54 (.bool (decide ((u.2.2.size:Int)≤40))) (.bool true) (congrArg Value.bool hd73)] ?_
   refine sqk (.tuple #[]) hst69 (fun cx=>⟨_,must_true _ _,(map2 (cx.ou 54) (cx.co _))⟩) fun W74 hst74=>?_
   refine then_normal (sqr (sqld 4 hst74 ?_))
   refine sqp [.m 57 10] ?_
   refine sqc0 (.string u.2.2) (eB B1_1 9 #[.string (strL R)]) 0 hst74 (by
     refine svA fun ρ β W X cx=>?_
     refine DoesU.call (run_callV (f:=201) (args:=#[vi ((u.2.2.size:Int))]) (args':=#[vi ((u.2.2.size:Int)),vp B1_1]) rfl rfl (cx.ou 56) (by kernel_rfl) (map1 (cx.ou 57)) rfl) ?_
     refine (take_app u.2.2.size B1_1 (u.2.2.data.toList) R _ (cx.bi 0 rfl) (by rw [Array.length_toList]; rfl)).mono ?_
     rintro e W1 ⟨rfl,hb1,hu⟩
     refine ⟨_,rfl,post_mut (cx.init 0 _ rfl) rfl rfl hu hb1 (fun σ β' X' hs hb hv hx=>?_)⟩
     exact ⟨(hv 58 rfl).1.trans (congrArg Value.string (strL_data _)),hx⟩) fun W77 hst77=>?_
   refine sqp [.k 59 (.pointer (some ⟨B7_25,2,none⟩))] ?_
   refine sqst (n:=1) 5 #[vi u.1,vi 0, .string u.2.2] hst77 fun W79 hst79=>?_
   refine blk_normal (then_normal (sqr (sqld 1 hst79 ?_)))
   refine sqlb 5 3 hst79 ?_
   refine sqli 45 3 1 [vi u.1,vi 0, .string u.2.2] hst79 (@fun ρ β W X cx=>by have fF61:ρ (.tmp 61)= .agg #[vi u.1,vi 0, .string u.2.2]:=(cx.ou 61); simp [go_sem,fF61]) fun B62_82 W82 hst82=>?_
   refine sqap (k+1) (flatR (plainR (rs.take (k+1)))) 2 hst82 Tryz.infoVal (fun cx=>(At.of_ownN (cx.ri 6 rfl))) (hxs:=plain_snoc (by omega) (by rw [hu]; simp [cellsV,plainV, *])) fun A63_83 c63_83 W83 hst83=>?_
   refine sqst (n:=1) 1 #[.slice A63_83 (k+1) c63_83] hst83 fun W84 hst84=>?_
   refine blk_normal (then_normal (sqr (sqp [sI 64 ((k:Int)+1) (by omega), .m 20 64] ?_)))
   refine then_normal ?_
   rw [← hR] at hst84
   refine ⟨rs.length - ((k+1)),by omega,?_⟩
   exact ⟨(k+1),A63_83,c63_83,by omega,rfl,(by kernel_rfl),hst84.pk [0,1,2,3,4]⟩
  have hs67p:=beq_eq_false_iff_ne.1 hs67
  refine wp_skip (blk_normal (then_normal ?_))
  have h8:TB=[]:=by rw [← hTB,tailB,if_neg (by assumption),if_neg (by assumption)]
  rw [h8,List.nil_append] at hst31
  refine sqr (sqld 1 hst31 ?_)
  refine sqlb 5 3 hst31 ?_
  refine sqli 45 3 1 [vi u.1,vi 0, .string ByteArray.empty] hst31 (@fun ρ β W X cx=>by have fF61:ρ (.tmp 61)= .agg #[vi u.1,vi 0, .string ByteArray.empty]:=(cx.ou 61); simp [go_sem,fF61]) fun B62_89 W89 hst89=>?_
  refine sqap (k+1) (flatR (plainR (rs.take (k+1)))) 2 hst89 Tryz.infoVal (fun cx=>(At.of_ownN (cx.ri 6 rfl))) (hxs:=plain_snoc (by omega) (by rw [hu]; simp [cellsV,plainV, *])) fun A63_90 c63_90 W90 hst90=>?_
  refine sqst (n:=1) 1 #[.slice A63_90 (k+1) c63_90] hst90 fun W91 hst91=>?_
  refine blk_normal (then_normal (sqr (sqp [sI 64 ((k:Int)+1) (by omega), .m 20 64] ?_)))
  refine then_normal ?_
  rw [← hR] at hst91
  refine ⟨rs.length - ((k+1)),by omega,?_⟩
  exact ⟨(k+1),A63_90,c63_90,by omega,rfl,(by kernel_rfl),hst91.pk [0,1,2,3,4]⟩
 refine wp_exit (then_exit (then_exit (blk_eq (then_normal (wp_seq ?_)))))
 have hk_:k=rs.length:=by omega
 have hl_:valsB (rs.drop k)=[]:=by rw [hk_,List.drop_length]; rfl
 rw [hl_] at hst19
 refine sqr (sqld 0 hst19 ?_)
 have hd96:((strL []).toList==((⟨#[]⟩:ByteArray)).toList)=true:=beq_self_eq_true (strL []).toList
 refine sqp [.e 66 (.bool ((strL []).toList==((⟨#[]⟩:ByteArray)).toList)) (.bool true) (congrArg Value.bool hd96)] ?_
 refine sqk (.tuple #[]) hst19 (fun cx=>⟨_,must_true _ _,(map2 (cx.ou 66) (cx.co _))⟩) fun W97 hst97=>?_
 refine then_normal (wp_seq (sqr (sqld 1 hst97 ?_)))
 refine sqst (n:=1) 1 #[.slice RA k RC] hst97 fun W99 hst99=>?_
 refine sqst (n:=1) 3 #[vi 0] hst99 fun W100 hst100=>?_
 refine then_normal (wp_ret ?_)
 have c2:=(hst100.blk 1 rfl).cell 0
 have c3:=(hst100.blk 3 rfl).cell 0
 refine leaves_cons (f:=200) (args:=#[vp B2_2,vp B3_3]) (by simp) (by simp [go_sem]) ?_
 refine (catch_idle _ _ _).mono ?_
 rintro e u' w'' ⟨rfl,rfl,rfl⟩
 refine ⟨.tuple #[.slice RA k RC,vi 0],?_,?_⟩
 ·simp at c2 c3
  simp [results,Tryz.results133,go_sem,c2,c3]
 ·have ho_:=hst100.own' 2 rfl
  rw [hk_,List.take_length] at ho_
  rw [hk_]
  exact ⟨_, _,rfl,ho_,hst100.ext⟩
end
section
open Go.RowKit
/-- what value.Read hands back -/
def RdRow (rs:List Val) (w:World) (e:Ending) (w':World):Prop:=∃ A c,e= .returned (.tuple #[.slice A rs.length c, .int .i64 0])∧w'.ownsRow w.heap.size 45 3 (.slice A rs.length c) rs.length (flatR rs)∧Ext w w'
def VerRd (a b n1 n2:Int) (ho:Bool) (rs:List Val) (er:Int) (w:World) (e:Ending) (w':World):Prop:=∃ A c,e= .returned (.tuple #[.agg #[.int .i64 a, .int .i64 b, .int .i64 n1, .int .i64 n2, .bool ho, .slice A rs.length c], .int .i64 er])∧
 w'.ownsRow w.heap.size 45 3 (.slice A rs.length c) rs.length (flatR rs)∧Ext w w'
theorem numS_lt2 (s:ByteArray) (p:Nat):numS s p 2 < 65536:=by
 have h:=numL_lt (s.extract p (p+2)).data.toList
 have hl:(s.extract p (p+2)).data.toList.length≤2:=by
  rw [Array.length_toList]
  show (s.extract p (p+2)).size≤2
  rw [ByteArray.size_extract]; omega
 have h2:256 ^ (s.extract p (p+2)).data.toList.length≤256 ^ 2:=Nat.pow_le_pow_right (by decide) hl
 exact Nat.lt_of_lt_of_le h h2
theorem oread_b (s:ByteArray) (w:World):Calls Tryz.prog 129 #[.string s] w fun e w'=>∃ B,e= .returned (.pointer (some ⟨B,0,none⟩))∧(Blk w' B 304 #[.string s, .int .i64 0, .bool false]∧w.heap.size≤B)∧Ext w w':=by
 go_enter Tryz.func129,Tryz.ntmps129
 have hst0:=St.start w
 refine wp_seq (sqr (sqp [.k 2 (.pointer none)] ?_))
 refine then_normal (wp_seq (sqr (sqp [.m 3 0, .k 4 (.agg #[.string s,vi 0, .bool false])] ?_)))
 refine sqbx #[.string s,vi 0, .bool false] hst0 fun B5_4 W4 hst4=>?_
 refine sqp [.m 2 5] ?_
 refine then_normal (wp_ret ?_)
 refine bpr (vp B5_4) (results_1 Tryz.results129 rpt) ?_
 exact ⟨_,rfl,⟨hst4.blk 0 rfl,((hst4.get 0 rfl).own _ (by simp [eB])).1.resolve_left (by simp)⟩,hst4.ext⟩
theorem tread_good (s:ByteArray) (rs:List Val) (w:World) (hs:s.size≤1000000) (h8:8≤s.size) (ht:8+numS s 6 2≤s.size) (hlr:rs.length≤1000) (hN:NoneAt w) (HV:∀ w,Calls Tryz.prog 133 #[.string (textS s 6)] w (RdRow rs w)) (hB:tbytesF (numS s 0 1) (numS s 1 1) ((numS s 2 2:Int) - 1) (numS s 4 1) ((numS s 5 1:Int)==1) rs=s):
  Calls Tryz.prog 60 #[.string s] w (VerRd (numS s 0 1) (numS s 1 1) ((numS s 2 2:Int) - 1) (numS s 4 1) ((numS s 5 1:Int)==1) rs 0 w):=by
 have hq2:=numS_lt2 s 2
 go_enter Tryz.func60,Tryz.ntmps60
 have hst0:=St.start w
 refine wp_seq (sqr (sqal #[vi 0,vi 0,vi 0,vi 0, .bool false, .slice none 0 0] hst0 fun B2_1 W1 hst1=>?_))
 refine sqp [.k 3 (vi 0)] ?_
 refine then_normal (wp_seq (sqr (sqp [.m 9 0] ?_)))
 refine sqk1 (fun B10_4=>vp B10_4) (fun B10_4=>eB B10_4 304 #[.string s,vi 0, .bool false]) hst1 (fun cx=>⟨_,(oread_b s _).mono (by rintro e W1 ⟨B4,rfl,⟨hb4,hw4⟩,hx⟩; exact ⟨_,rfl,St.one hx ⟨hb4,eB_loc _ _ _,fun k hk=>by simp [eB] at hk; subst hk; exact ⟨hw4,hb4.lt⟩⟩⟩),(map1 (cx.ou 9))⟩) fun B10_4 W4 hst4=>?_
 refine sqp [.m 4 10] ?_
 refine then_normal (wp_seq (sqr (sqp [.m 11 4] ?_)))
 refine sqkm (vi ((numS s 0 1:Int))) 1 #[.string s,vi 1, .bool false] hst4 (fun cx=>⟨_,(num_ok _ s 0 1 _ ⟨(cx.bi 1 rfl),by omega,by omega⟩ (by omega) (by omega)).mono (by rintro e W1 ⟨rfl,hrd,hu⟩; exact ⟨rfl,hu,hrd.1⟩),(map2 (cx.ou 11) (cx.co _))⟩) fun W7 hst7=>?_
 refine sqp [.m 13 4] ?_
 refine sqkm (vi ((numS s 1 1:Int))) 1 #[.string s,vi 2, .bool false] hst7 (fun cx=>⟨_,(num_ok _ s 1 1 _ ⟨(cx.bi 1 rfl),by omega,by omega⟩ (by omega) (by omega)).mono (by rintro e W1 ⟨rfl,hrd,hu⟩; exact ⟨rfl,hu,hrd.1⟩),(map2 (cx.ou 13) (cx.co _))⟩) fun W9 hst9=>?_
 refine sqp [.k 15 (.agg #[vi ((numS s 0 1:Int)),vi ((numS s 1 1:Int)),vi 0,vi 0, .bool false, .slice none 0 0])] ?_
 refine sqal #[vi 0,vi 0,vi 0,vi 0, .bool false, .slice none 0 0] hst9 fun B5_11 W11 hst11=>?_
 refine sqst (n:=6) 2 #[vi ((numS s 0 1:Int)),vi ((numS s 1 1:Int)),vi 0,vi 0, .bool false, .slice none 0 0] hst11 fun W12 hst12=>?_
 refine then_normal (wp_seq (sqr (sqp [.m 16 4] ?_)))
 refine sqkm (vi ((numS s 2 2:Int))) 1 #[.string s,vi 4, .bool false] hst12 (fun cx=>⟨_,(num_ok _ s 2 2 _ ⟨(cx.bi 1 rfl),by omega,by omega⟩ (by omega) (by omega)).mono (by rintro e W1 ⟨rfl,hrd,hu⟩; exact ⟨rfl,hu,hrd.1⟩),(map2 (cx.ou 16) (cx.co _))⟩) fun W14 hst14=>?_
 refine sqp [sI 18 ((numS s 2 2:Int) - 1) (by omega), .m 19 4] ?_
 refine sqkm (vi ((numS s 4 1:Int))) 1 #[.string s,vi 5, .bool false] hst14 (fun cx=>⟨_,(num_ok _ s 4 1 _ ⟨(cx.bi 1 rfl),by omega,by omega⟩ (by omega) (by omega)).mono (by rintro e W1 ⟨rfl,hrd,hu⟩; exact ⟨rfl,hu,hrd.1⟩),(map2 (cx.ou 19) (cx.co _))⟩) fun W17 hst17=>?_
 refine sqp [.k 21 (.agg #[vi ((numS s 2 2:Int) - 1),vi ((numS s 4 1:Int))]), .k 22 (.pointer (some ⟨B5_11,2,none⟩))] ?_
 refine sqst (n:=2) 2 #[vi ((numS s 0 1:Int)),vi ((numS s 1 1:Int)),vi ((numS s 2 2:Int) - 1),vi ((numS s 4 1:Int)), .bool false, .slice none 0 0] hst17 fun W20 hst20=>?_
 refine then_normal (wp_seq (sqr (sqp [.m 23 4] ?_)))
 refine sqkm (vi ((numS s 5 1:Int))) 1 #[.string s,vi 6, .bool false] hst20 (fun cx=>⟨_,(num_ok _ s 5 1 _ ⟨(cx.bi 1 rfl),by omega,by omega⟩ (by omega) (by omega)).mono (by rintro e W1 ⟨rfl,hrd,hu⟩; exact ⟨rfl,hu,hrd.1⟩),(map2 (cx.ou 23) (cx.co _))⟩) fun W22 hst22=>?_
 refine sqp [.k 25 (.bool ((numS s 5 1:Int)==1)), .k 26 (.pointer (some ⟨B5_11,4,none⟩))] ?_
 refine sqst (n:=1) 2 #[vi ((numS s 0 1:Int)),vi ((numS s 1 1:Int)),vi ((numS s 2 2:Int) - 1),vi ((numS s 4 1:Int)), .bool ((numS s 5 1:Int)==1), .slice none 0 0] hst22 fun W25 hst25=>?_
 refine then_normal (wp_seq (sqr (sqp [.m 27 4] ?_)))
 refine sqkm (.string (textS s 6)) 1 #[.string s,vi (((6+2+numS s 6 2:Nat):Int)), .bool false] hst25 (fun cx=>⟨_,(text_ok _ s 6 _ ⟨(cx.bi 1 rfl),by omega,by omega⟩ (by omega) (by omega)).mono (by rintro e W1 ⟨rfl,hrd,hu⟩; exact ⟨rfl,hu,hrd.1⟩),(map1 (cx.ou 27))⟩) fun W27 hst27=>?_
 refine sqp [.m 6 28] ?_
 refine then_normal (wp_seq (wp_seq (sqr (sqp [.m 29 4] ?_))))
 refine sqv (.bool false) hst27 (by
   refine svA fun ρ β W X cx=>?_
   refine DoesU.call (run_callF (args:=#[vp B10_4]) rfl cx.sees rfl (by kernel_rfl) (map1 (cx.ou 29))) ?_
   refine (failed_any _ s (((6+2+numS s 6 2:Nat))) false _ ⟨(cx.bi 1 rfl),by omega,by omega⟩).mono ?_
   rintro e W1 ⟨rfl,rfl⟩
   refine ⟨_,rfl,post_call [] rfl rfl (Ext.refl _) (by simp) List.Pairwise.nil (fun σ β' X' hs hb hv hN=>?_)⟩
   have hv1:=(hv 30 rfl).1; have hv2:=(hv 30 rfl).2
   exact hv1.trans rfl) fun W30 hst30=>?_
 refine then_normal (wcf rfl (wp_skip (then_normal (wp_seq (sqr (sqp [.m 33 6] ?_))))))
 refine sqk2 (fun A34_32 c34_32=> .tuple #[.slice A34_32 rs.length c34_32,vi 0]) (fun A34_32 c34_32=>eO 45 3 (.slice A34_32 rs.length c34_32) rs.length (flatR rs)) hst30 (fun cx=>⟨_,(HV _).mono (by rintro e W1 ⟨A4,c4,rfl,ho,hx⟩; exact ⟨_, _,rfl,St.one hx (eO_new ho)⟩),(map1 (cx.ou 33))⟩) fun A34_32 c34_32 W32 hst32=>?_
 refine sqp [.m 32 34, .k 35 (.slice A34_32 rs.length c34_32), .k 36 (vi 0), .m 7 35, .m 8 36] ?_
 refine then_normal (wp_seq (sqr (sqp [.m 37 7, .k 38 (.pointer (some ⟨B5_11,5,none⟩))] ?_)))
 refine sqst (n:=1) 2 #[vi ((numS s 0 1:Int)),vi ((numS s 1 1:Int)),vi ((numS s 2 2:Int) - 1),vi ((numS s 4 1:Int)), .bool ((numS s 5 1:Int)==1), .slice A34_32 rs.length c34_32] hst32 fun W40 hst40=>?_
 refine then_normal (wp_seq (wp_seq (sqr (sqp [.m 39 8, .k 40 (.bool false), .k 41 (.bool false)] ?_))))
 refine sqgy 41 [42,43,44,45] rfl rfl ?_
 refine sqlb 2 6 hst40 ?_
 refine sqk (.string (tbytesF (numS s 0 1:Int) (numS s 1 1:Int) ((numS s 2 2:Int) - 1) (numS s 4 1:Int) ((numS s 5 1:Int)==1) rs)) hst40 (fun cx=>⟨_,tbytes_any (numS s 0 1:Int) (numS s 1 1:Int) ((numS s 2 2:Int) - 1) (numS s 4 1:Int) ((numS s 5 1:Int)==1) _ _ rs _ (At.of_ownN (cx.ri 3 rfl)) (by omega) (hN.ext cx.upd.to_ext),(map1 (cx.ou 42))⟩) fun W45 hst45=>?_
 have hd48:(!((tbytesF (numS s 0 1:Int) (numS s 1 1:Int) ((numS s 2 2:Int) - 1) (numS s 4 1:Int) ((numS s 5 1:Int)==1) rs).toList==s.toList))=false:=by rw [hB]; simp
 refine sqp [.m 44 0, .e 45 (.bool (!((tbytesF (numS s 0 1:Int) (numS s 1 1:Int) ((numS s 2 2:Int) - 1) (numS s 4 1:Int) ((numS s 5 1:Int)==1) rs).toList==s.toList))) (.bool false) (congrArg Value.bool hd48)] ?_
 refine sqp [.k 46 (.bool false)] ?_
 refine then_normal (wcf rfl (wp_skip (then_normal (wp_seq (sqr ?_)))))
 refine sqlb 2 6 hst45 ?_
 refine sqst (n:=6) 0 #[vi ((numS s 0 1:Int)),vi ((numS s 1 1:Int)),vi ((numS s 2 2:Int) - 1),vi ((numS s 4 1:Int)), .bool ((numS s 5 1:Int)==1), .slice A34_32 rs.length c34_32] hst45 fun W51 hst51=>?_
 refine sqp [.k 3 (vi 0)] ?_
 refine then_normal (wp_ret ?_)
 refine bpr (.tuple #[.agg #[vi ((numS s 0 1:Int)),vi ((numS s 1 1:Int)),vi ((numS s 2 2:Int) - 1),vi ((numS s 4 1:Int)), .bool ((numS s 5 1:Int)==1), .slice A34_32 rs.length c34_32],vi 0]) (results_2 Tryz.results60 (rpa (hst51.blk 0 rfl) 0 6) rpt) ?_
 exact ⟨_, _,rfl,hst51.own' 3 rfl,hst51.ext⟩
end
section
open Go.RowKit
theorem bl_strL (l:List UInt8):bl (strL l)=l:=by simp [bl,strL]
theorem bl_catS (l:List ByteArray):bl (catS l)=l.flatMap bl:=by rw [catS,bl_strL]; rfl
theorem putS_bl (n:Int) (k:Nat) (h:k≤8):(bl (putS n k)).length=k:=by rw [bl_len,putS_size n k h]
theorem hot_bd (ho:Bool):0≤hotI ho∧hotI ho≤1:=by cases ho<;>decide
theorem hot_eq (ho:Bool):(hotI ho==1)=ho:=by cases ho<;>rfl
section
variable {a b n1 n2:Int} {ho:Bool} {rs:List Val}
theorem tb_bl (h:trightF a b n1 n2 rs=true):bl (tbytesF a b n1 n2 ho rs)=bl (putS a 1)++(bl (putS b 1)++(bl (putS (n1+1) 2)++(bl (putS n2 1)++(bl (putS (hotI ho) 1)++(bl (putS (vbytesF rs).size 2)++bl (vbytesF rs)))))):=by
 rw [tbytesF,if_pos h,bl_catS]
 simp [textO,bl_append]
theorem tb_size (h:trightF a b n1 n2 rs=true):(tbytesF a b n1 n2 ho rs).size=8+(vbytesF rs).size:=by
 rw [← bl_len,tb_bl h]
 simp only [List.length_append,putS_bl _ 1 (by omega),putS_bl _ 2 (by omega),bl_len]
 omega
theorem tb_0 (h:trightF a b n1 n2 rs=true):(numS (tbytesF a b n1 n2 ho rs) 0 1:Int)=a:=by
 have hp:=tright_parts h
 rw [numS_at (a:=[]) (p:=0) (tb_bl h) rfl (putS_bl _ 1 (by omega)),putS_num1 a (by omega) (by omega)]
theorem tb_1 (h:trightF a b n1 n2 rs=true):(numS (tbytesF a b n1 n2 ho rs) 1 1:Int)=b:=by
 have hp:=tright_parts h
 rw [numS_at (a:=bl (putS a 1)) (p:=1) (tb_bl h) (putS_bl _ 1 (by omega)) (putS_bl _ 1 (by omega)),putS_num1 b (by omega) (by omega)]
theorem tb_2 (h:trightF a b n1 n2 rs=true):(numS (tbytesF a b n1 n2 ho rs) 2 2:Int)=n1+1:=by
 have hp:=tright_parts h
 rw [numS_at (p:=2) (a:=bl (putS a 1)++bl (putS b 1)) (by rw [tb_bl h,List.append_assoc]) (by rw [List.length_append,putS_bl _ 1 (by omega),putS_bl _ 1 (by omega)]) (putS_bl _ 2 (by omega)),putS_num2 (n1+1) (by omega) (by omega)]
theorem tb_4 (h:trightF a b n1 n2 rs=true):(numS (tbytesF a b n1 n2 ho rs) 4 1:Int)=n2:=by
 have hp:=tright_parts h
 rw [numS_at (p:=4) (a:=bl (putS a 1)++(bl (putS b 1)++bl (putS (n1+1) 2))) (b:=bl (putS n2 1)) (c:=bl (putS (hotI ho) 1)++(bl (putS (vbytesF rs).size 2)++bl (vbytesF rs))) (by rw [tb_bl h]; simp) (by simp only [List.length_append,putS_bl _ 1 (by omega),putS_bl _ 2 (by omega)]) (putS_bl _ 1 (by omega)),putS_num1 n2 (by omega) (by omega)]
theorem tb_5 (h:trightF a b n1 n2 rs=true):(numS (tbytesF a b n1 n2 ho rs) 5 1:Int)=hotI ho:=by
 have hp:=tright_parts h
 have hh:=hot_bd ho
 rw [numS_at (p:=5) (a:=bl (putS a 1)++(bl (putS b 1)++(bl (putS (n1+1) 2)++bl (putS n2 1)))) (b:=bl (putS (hotI ho) 1)) (c:=(bl (putS (vbytesF rs).size 2)++bl (vbytesF rs))) (by rw [tb_bl h]; simp) (by simp only [List.length_append,putS_bl _ 1 (by omega),putS_bl _ 2 (by omega)]) (putS_bl _ 1 (by omega)),putS_num1 (hotI ho) (by omega) (by omega)]
theorem tb_6 (h:trightF a b n1 n2 rs=true):numS (tbytesF a b n1 n2 ho rs) 6 2=(vbytesF rs).size:=by
 have hv:=vbytes_size rs
 have e:=numS_at (s:=tbytesF a b n1 n2 ho rs) (a:=bl (putS a 1)++(bl (putS b 1)++(bl (putS (n1+1) 2)++(bl (putS n2 1)++bl (putS (hotI ho) 1))))) (b:=bl (putS (vbytesF rs).size 2)) (c:=bl (vbytesF rs)) (by rw [tb_bl h]; simp) (p:=6) (by simp only [List.length_append,putS_bl _ 1 (by omega),putS_bl _ 2 (by omega)]) (putS_bl _ 2 (by omega))
 have e2:=putS_num2 ((vbytesF rs).size:Int) (by omega) (by omega)
 rw [e]; omega
theorem tb_t (h:trightF a b n1 n2 rs=true):textS (tbytesF a b n1 n2 ho rs) 6=vbytesF rs:=by
 have e:bl (tbytesF a b n1 n2 ho rs)=(bl (putS a 1)++(bl (putS b 1)++(bl (putS (n1+1) 2)++(bl (putS n2 1)++(bl (putS (hotI ho) 1)++bl (putS (vbytesF rs).size 2))))))++(bl (vbytesF rs)++[]):=by rw [tb_bl h]; simp
 rw [textS,tb_6 h,extr_at e (p:=6+2) (by simp only [List.length_append,putS_bl _ 1 (by omega),putS_bl _ 2 (by omega)]) (by rw [bl_len]),baOf_bl]
theorem plain_right (v:Val):vrightF (plainV v)=vrightF v:=by
 simp only [vrightF,plainV]
 by_cases h:v.1=2
 ·simp [h]
 ·have:(v.1 != 2)=true:=by simpa using h
  rw [this]; simp
theorem plain_rright (rs:List Val):rrightF (plainR rs)=rrightF rs:=by
 simp only [rrightF,plainR,List.all_map,List.length_map]
 congr 2
 funext v
 exact plain_right v
theorem plain_valB (v:Val):valB (plainV v)=valB v:=by
 simp only [valB,plainV]
 by_cases h1:v.1=1
 ·simp [h1]
 ·by_cases h2:v.1=2
  ·simp [h2]
  ·simp [h1,h2]
theorem plain_vbytes (rs:List Val):vbytesF (plainR rs)=vbytesF rs:=by
 simp only [vbytesF,plain_rright]
 split
 ·have hv:plainR rs=rs.map plainV:=rfl
  simp only [bytesTo,plainR,List.length_map,← List.map_take,List.flatMap_map]
  congr 2
  congr 1
  funext v
  exact plain_valB v
 ·rfl
theorem plain_tright:trightF a b n1 n2 (plainR rs)=trightF a b n1 n2 rs:=by rw [trightF,trightF,plain_rright]
theorem plain_tbytes:tbytesF a b n1 n2 ho (plainR rs)=tbytesF a b n1 n2 ho rs:=by rw [tbytesF,tbytesF,plain_tright,plain_vbytes]
def NsOk (rs:List Val):Prop:=∀ v∈rs,v.1=1→ -9223372036854775808≤v.2.1∧v.2.1≤9223372036854775807
theorem tread_of (w:World) (h:trightF a b n1 n2 rs=true) (hrN:NsOk rs) (hN:NoneAt w):Calls Tryz.prog 60 #[.string (tbytesF a b n1 n2 ho rs)] w (VerRd a b n1 n2 ho (plainR rs) 0 w):=by
 have hr:=(tright_parts h).2.2.2.2.2.2.2.2
 have hl6:=rright_len hr
 have hv:=vbytes_size rs
 have HV:∀ w,Calls Tryz.prog 133 #[.string (textS (tbytesF a b n1 n2 ho rs) 6)] w (RdRow (plainR rs) w):=fun w=>by
  rw [tb_t h,vbytes_eq hr]
  refine (vread_any rs _ w hr hrN (u8_int (by omega))).mono ?_
  rintro e w' ⟨A,c,he,ho',hx⟩
  have hlen:(plainR rs).length=rs.length:=by simp [plainR]
  exact ⟨A,c,by rw [hlen]; exact he,by rw [hlen]; exact ho',hx⟩
 have h2:=tread_good (tbytesF a b n1 n2 ho rs) (plainR rs) w (by rw [tb_size h]; omega) (by rw [tb_size h]; omega) (by rw [tb_size h,tb_6 h]; omega) (by simp only [plainR,List.length_map]; omega) hN HV (by
  rw [tb_0 h,tb_1 h,tb_2 h,tb_4 h,tb_5 h,hot_eq,show n1+1 - 1=n1 by omega]; exact plain_tbytes)
 rw [tb_0 h,tb_1 h,tb_2 h,tb_4 h,tb_5 h,hot_eq,show n1+1 - 1=n1 by omega] at h2
 exact h2
end
end
section
open Go.RowKit
def shN (N:Int) (k:Nat):Int:=N / 256 ^ k
theorem shN_0 (N:Int):shN N 0=N:=by simp [shN]
theorem shN_succ (N:Int) (k:Nat):(shN N k).fdiv (2 ^ 8)=shN N (k+1):=by
 rw [shN,shN,Int.fdiv_eq_ediv_of_nonneg _ (by decide),Int.pow_succ]
 exact Int.ediv_ediv_of_nonneg (Int.le_of_lt (Int.pow_pos (by decide)))
theorem putS_0 (N:Int):putS N 0=⟨#[]⟩:=rfl
theorem putS_succ (N:Int) {k:Nat} (h:k < 8):putS N (k+1)=strOfNums [shN N k % 256]++putS N k:=by
 apply bl_inj
 rw [bl_append]
 unfold putS bl
 rw [strOfNums_data,strOfNums_data,strOfNums_data,← List.map_append]
 congr 1
 have hu:IntKind.u64.wrap N=N % 18446744073709551616:=by rw [IntKind.wrap_u64]
 unfold oct8 shN
 rw [hu]
 rcases (by omega:k=0∨k=1∨k=2∨k=3∨k=4∨k=5∨k=6∨k=7) with rfl | rfl | rfl | rfl | rfl | rfl | rfl | rfl<;>
  simp only [Nat.reduceSub,Nat.reduceAdd,Int.reducePow,List.drop_succ_cons,List.drop_zero,List.cons_append,List.nil_append,List.cons.injEq,and_true]<;>omega
theorem oneS_of {x:Int}:oneS (x % 256)=strOfNums [x % 256]:=by rw [oneS,Int.emod_emod_of_dvd _ (Int.dvd_refl _)]
theorem strL_app (a b:List UInt8):strL a++strL b=strL (a++b):=by apply bl_inj; rw [bl_append,bl_strL,bl_strL,bl_strL]
theorem oneS_strL {x:Int} (h:0≤x∧x < 256):oneS x=strL [UInt8.ofNat x.toNat]:=by
 rw [oneS,show x % 256=x by omega]; rfl
theorem strL_bl (s:ByteArray):s=strL s.data.toList:=(strL_data s).symm
section
variable {P:Program} {o:Oper} {ρ:Operand→Value} {W:World}
theorem run_shr {t t':TypeId} {x y:Operand} {k k':IntKind} {a b z:Int} (h:o.op= .binOp .shr t x y t') (hx:ρ x= .int k a) (hy:ρ y= .int k' b) (hb:0≤b) (hz:a.fdiv (2 ^ min b.toNat k.bits)=z):(execOp ρ o).run P W= .ok (.value (.int k z)) W:=by
 subst hz
 unfold execOp; rw [h]
 have:¬ b < 0:=by omega
 simp [hx,hy,eqGuard,binOp,Op.shift,this]
end
theorem tb_cat {a b n1 n2:Int} {ho:Bool} {rs:List Val} (h:trightF a b n1 n2 rs=true):((((((putS a 1++putS b 1)++putS (n1+1) 2)++putS n2 1)++putS (hotI ho) 1)++putS ((vbytesF rs).size:Int) 2)++vbytesF rs)=tbytesF a b n1 n2 ho rs:=by
 apply bl_inj
 rw [tb_bl h]
 simp only [bl_append,List.append_assoc]
theorem r02right_any (v:Val) (w:World):
  Calls Tryz.prog 243 #[.agg #[.int .i64 v.1, .int .i64 v.2.1, .string v.2.2]] w (Ret (.bool (vrightF v)) w):=by
 go_enter Tryz.func243,Tryz.ntmps243
 have hst0:=St.start w
 refine wp_seq (sqr ?_)
 refine sqbx #[vi v.1,vi v.2.1, .string v.2.2] hst0 fun B1_1 W1 hst1=>?_
 refine sqp [.k 2 (.bool false)] ?_
 refine then_normal (wp_seq (sqr (sqp [.k 3 (vp B1_1)] ?_)))
 refine sqld 0 hst1 ?_
 refine sqp [.k 5 (.bool (v.1==0)), .m 6 5] ?_
 refine sqw' 6 [7,8,9] ?_ rfl (fun hq=>?_) ?_
 rotate_left
 ·refine sqp [.k 7 (vp B1_1)] ?_
  refine sqld 0 hst1 ?_
  refine sqp [.k 9 (.bool (v.1==1))] ?_
  exact sqe
 refine sqwx ?_
 refine sqp [sPo 10 (v.1==0) (v.1==1), .m 11 10] ?_
 refine sqw' 11 [12,13,14,15,16,17,18,19,20] ?_ rfl (fun hq=>?_) ?_
 rotate_left
 ·refine sqp [.k 12 (vp B1_1)] ?_
  refine sqld 0 hst1 ?_
  refine sqp [.k 14 (.bool (v.1==2)), .m 15 14] ?_
  refine sqw' 15 [16,17,18,19] ?_ rfl (fun hq=>?_) ?_
  rotate_left
  ·refine sqp [.k 16 (.pointer (some ⟨B1_1,2,none⟩))] ?_
   refine sqld 0 hst1 ?_
   refine sqp [.k 18 (vi ((v.2.2.size:Int))), .k 19 (.bool (decide ((v.2.2.size:Int)≤40)))] ?_
   exact sqe
  refine sqwx ?_
  refine sqp [sPa 20 (v.1==2) (decide ((v.2.2.size:Int)≤40))] ?_
  exact sqe
 refine sqwx ?_
 refine sqp [sPo 21 ((v.1==0)||(v.1==1)) ((v.1==2)&&(decide ((v.2.2.size:Int)≤40))), .m 2 21] ?_
 refine then_normal (wp_ret ?_)
 refine bpr (.bool (((v.1==0)||(v.1==1))||((v.1==2)&&(decide ((v.2.2.size:Int)≤40))))) (results_1 Tryz.results243 rpt) ?_
 exact Ret.bool (Bool.eq_iff_iff.2 (by simp [vrightF,knownF]; omega)) hst1.ext
theorem r02row_any (RA:Option Addr) (rc:Nat) (rs:List Val) (w:World) (hA:At w RA (flatR rs)) (hlr:rs.length≤9223372036854775807):
  Calls Tryz.prog 209 #[.slice RA rs.length rc] w (Ret (.bool (rrightF rs)) w):=by
 go_enter Tryz.func209,Tryz.ntmps209
 have hst0:=St.start w
 refine wp_seq (sqr (sqp [.k 2 (.bool false)] ?_))
 refine then_normal (wp_seq (wp_seq (sqr (sqp [.k 3 (vi 0)] ?_))))
 refine then_normal (wp_block ?_)
 refine wp_loopT (fun t_ mz az W=>∃ k:Nat,k≤rs.length∧(rs.take k).all vrightF=true∧mz=rs.length - k∧az=⟨(ovr (jv az) [(2,2,1,[vi ((k:Int))]),(0,4,12,[])] t_).toArray,[]⟩∧St w [] [] W) (rs.length - 0) ?_ ?_
 · -- the loop begins
   exact ⟨0,by omega,rfl,rfl,(by kernel_rfl),hst0.pk []⟩
 rintro n3 a3 W3 ⟨k,hk,hka,rfl,hj_,hst3⟩
 refine ovz hj_ fun u3_=>?_
 refine wp_seq (wp_seq (sqr (sqp [.m 4 3, .m 5 0, .k 6 (vi ((rs.length:Int))), .k 7 (.bool (decide ((k:Int) < (rs.length:Int))))] ?_)))
 refine then_normal (wds (fun hs8 hs8p=>?_) fun hs8 hs8p=>?_)
 ·refine wp_skip (then_normal (wp_seq (wp_block (wp_seq (sqr (sqp [.m 10 0, .m 11 3] ?_))))))
  refine sql (.pointer (some ((ad RA).add (k*3)))) hst3 (fun cx=>run_indexSlM (e:=45) (m:=k) (sz:=3) rfl (by kernel_rfl) (by kernel_rfl) (cx.ou 10) (cx.ou 11) (by omega) (by omega) (hA.ext cx.upd.to_ext) (flatPos (sz:=3) cellsV_len (by decide) (by omega))) ?_
  refine sql (.agg #[vi ((rs.getD k v0).1),vi ((rs.getD k v0).2.1), .string ((rs.getD k v0).2.2)]) hst3 (fun cx=>run_loadElt (f:=cellsV) (m:=k) (sz:=3) (off:=0) (n:=3) rfl (by kernel_rfl) (by kernel_rfl) (cx.ou 12) rfl cellsV_len (hA.ext cx.upd.to_ext) (getD_some (ts:=rs) (m:=k) v0 (by omega)) (fun k hk=>match k,hk with | 0, _=>rfl | 1, _=>rfl | 2, _=>rfl | k+3,hk=>absurd hk (by omega))) ?_
  refine sqk (.bool (vrightF (rs.getD k v0))) hst3 (fun cx=>⟨_,r02right_any (rs.getD k v0) _,(map1 (cx.ou 13))⟩) fun W13 hst13=>?_
  refine sqp [.k 15 (.bool (!(vrightF (rs.getD k v0))))] ?_
  refine then_normal ?_
  rcases Bool.eq_false_or_eq_true (vrightF (rs.getD k v0)) with hs15 | hs15
  ·refine wp_cond_false (show Act.eval _ _= .bool false from (congrArg Value.bool (by rw [hs15]; rfl))) (wp_skip (blk_normal (then_normal (sqr (sqp [.m 8 3,sI 9 ((k:Int)+1) (by omega), .m 3 9] ?_)))))
   refine then_normal ?_
   refine ⟨rs.length - ((k+1)),by omega,?_⟩
   exact ⟨(k+1),by omega,rright_step (by omega) hka hs15,rfl,(by kernel_rfl),hst13.pk []⟩
  refine wp_cond_true (show Act.eval _ _= .bool true from (congrArg Value.bool (by rw [hs15]; rfl))) (wp_seq (sqr (sqp [.k 2 (.bool false)] ?_)))
  refine then_normal (wp_ret (blk_ret (then_ret (then_ret (blk_ret (then_ret ?_))))))
  refine bpr (.bool false) (results_1 Tryz.results209 rpt) ?_
  exact Ret.bool (rright_bad (by omega) hs15).symm hst13.ext
 refine wp_exit (then_exit (then_exit (blk_eq (then_normal (wp_seq (sqr (sqp [.m 16 0, .k 17 (vi ((rs.length:Int))), .k 18 (.bool (decide ((rs.length:Int)≤6))), .m 2 18] ?_)))))))
 refine then_normal (wp_ret ?_)
 refine bpr (.bool (decide ((rs.length:Int)≤6))) (results_1 Tryz.results209 rpt) ?_
 exact Ret.bool (by rw [rright_end (by omega) hka,decide_eq_decide]; omega) hst3.ext
theorem r02whole_any (N:Int) (w:World):
  Calls Tryz.prog 210 #[.int .i64 N] w (Ret (.string (putS N 8)) w):=by
 go_enter Tryz.func210,Tryz.ntmps210
 have hst0:=St.start w
 refine wp_seq (sqr (sqp [.k 2 (.string ⟨#[]⟩)] ?_))
 refine then_normal (wp_seq (sqr (sqp [.k 3 (.string ⟨#[]⟩)] ?_)))
 refine then_normal (wp_seq (wp_seq (sqr (sqp [.k 4 (vi 0)] ?_))))
 refine then_normal (wp_block ?_)
 refine wp_loopT (fun t_ mz az W=>∃ k:Nat,k≤8∧mz=8 - k∧az=⟨(ovr (jv az) [(0,0,0,[vi (shN N k)]),(2,3,0,[.string (putS N k),vi ((k:Int))]),(0,5,11,[])] t_).toArray,[]⟩∧St w [] [] W) (8 - 0) ?_ ?_
 · -- the loop begins
   exact ⟨0,by omega,rfl,(by rw [shN_0,putS_0]; rfl),hst0.pk []⟩
 rintro n4 a4 W4 ⟨k,hk,rfl,hj_,hst4⟩
 refine ovz hj_ fun u4_=>?_
 refine wp_seq (wp_seq (sqr (sqp [.m 5 4, .k 6 (.bool (decide ((k:Int) < 8)))] ?_)))
 refine then_normal (wds (fun hs7 hs7p=>?_) fun hs7 hs7p=>?_)
 ·refine wp_skip (then_normal (wp_seq (wp_block (wp_seq (sqr (sqp [.m 9 0,sAn 10 .i64 (shN N k) 255 ((shN N k) % 256) (bits_mask (shN N k) 8 (by decide))] ?_))))))
  refine sqk (.string (oneS ((shN N k) % 256))) hst4 (fun cx=>⟨_,one_any ((shN N k) % 256) _,(map1 (cx.ou 10))⟩) fun W10 hst10=>?_
  refine sqp [.m 12 3] ?_
  refine sql (.string (putS N (k+1))) hst10 (fun cx=>(by rw [putS_succ N (by omega),← oneS_of]; exact run_strcat rfl (cx.ou 11) (cx.ou 12) (by rw [oneS_size,putS_size N k (by omega)]; first | omega | (simp only [List.length_cons,List.length_nil]; omega)))) ?_
  refine sqp [.m 3 13] ?_
  refine then_normal (sqr (sqp [.m 14 0] ?_))
  refine sql (vi (shN N (k+1))) hst10 (fun cx=>run_shr rfl (cx.ou 14) (cx.co _) (by decide) (shN_succ N k)) ?_
  refine sqp [.m 0 15] ?_
  refine blk_normal (then_normal (sqr (sqp [.m 7 4,sI 8 ((k:Int)+1) (by omega), .m 4 8] ?_)))
  refine then_normal ?_
  refine ⟨8 - ((k+1)),by omega,?_⟩
  exact ⟨(k+1),by omega,rfl,(by kernel_rfl),hst10.pk []⟩
 refine wp_exit (then_exit (then_exit (blk_eq (then_normal (wp_seq (sqr (sqp [.m 16 3, .m 2 16] ?_)))))))
 refine then_normal (wp_ret ?_)
 refine bpr (.string (putS N k)) (results_1 Tryz.results210 rpt) ?_
 exact Ret.of (by rw [show k=8 by omega]) hst4.ext
theorem r04num_any (N:Int) (m:Nat) (w:World) (hm:m≤8):
  Calls Tryz.prog 143 #[.int .i64 N, .int .i64 ((m:Int))] w (Ret (.string (putS N m)) w):=by
 go_enter Tryz.func143,Tryz.ntmps143
 have hst0:=St.start w
 refine wp_seq (sqr (sqp [.k 4 (.string ⟨#[]⟩)] ?_))
 refine then_normal (wp_seq (sqr (sqp [.k 5 (.string ⟨#[]⟩)] ?_)))
 refine then_normal (wp_seq (wp_seq (sqr (sqp [.k 6 (vi 0)] ?_))))
 refine then_normal (wp_block ?_)
 refine wp_loopT (fun t_ mz az W=>∃ k:Nat,k≤m∧mz=m - k∧az=⟨(ovr (jv az) [(0,0,0,[vi (shN N k)]),(4,5,0,[.string (putS N k),vi ((k:Int))]),(0,7,14,[])] t_).toArray,[]⟩∧St w [] [] W) (m - 0) ?_ ?_
 · -- the loop begins
   exact ⟨0,by omega,rfl,(by rw [shN_0,putS_0]; rfl),hst0.pk []⟩
 rintro n4 a4 W4 ⟨k,hk,rfl,hj_,hst4⟩
 refine ovz hj_ fun u4_=>?_
 refine wp_seq (wp_seq (sqr (sqp [.m 7 6, .m 8 1, .k 9 (.bool (decide ((k:Int) < (m:Int))))] ?_)))
 refine then_normal (wds (fun hs8 hs8p=>?_) fun hs8 hs8p=>?_)
 ·refine wp_skip (then_normal (wp_seq (wp_block (wp_seq (sqr (sqp [.m 12 0,sAn 13 .i64 (shN N k) 255 ((shN N k) % 256) (bits_mask (shN N k) 8 (by decide)),sW 14 .u8 ((shN N k) % 256) ((shN N k) % 256) (IntWalk.u8_in _ (by omega))] ?_))))))
  refine sqn1 (fun x_=>sA x_) (fun A15_12=> .slice A15_12 1 1) (fun A15_12=>eO 5 1 (.slice A15_12 1 1) 1 ([.int .u8 ((shN N k) % 256)])) hst4 (by
    refine svA fun ρ β W X cx=>?_
    have fF14:ρ (.tmp 14)= .int .u8 ((shN N k) % 256):=(cx.ou 14)
    exact dv_lit (e:=5) (xs:=[.int .u8 ((shN N k) % 256)]) rfl (by simp [go_sem,fF14]) rfl (by decide) rfl rfl (fun σ β' X' hs hb hv hx=>⟨hv,hx⟩)) fun A15_12 W12 hst12=>?_
  refine sql (.string (strOfNums ([((shN N k) % 256)]))) hst12 (fun cx=>run_convB (e:=5) rfl (by kernel_rfl) (by kernel_rfl) (by kernel_rfl) (cx.ou 15) (cx.ri 0 rfl)) ?_
  refine sqp [.m 17 5] ?_
  refine sql (.string (putS N (k+1))) hst12 (fun cx=>(by rw [putS_succ N (by omega)]; exact run_strcat rfl (cx.ou 16) (cx.ou 17) (by rw [strOfNums_size,putS_size N k (by omega)]; first | omega | (simp only [List.length_cons,List.length_nil]; omega)))) ?_
  refine sqp [.m 5 18] ?_
  refine then_normal (sqr (sqp [.m 19 0] ?_))
  refine sql (vi (shN N (k+1))) hst12 (fun cx=>run_shr rfl (cx.ou 19) (cx.co _) (by decide) (shN_succ N k)) ?_
  refine sqp [.m 0 20] ?_
  refine blk_normal (then_normal (sqr (sqp [.m 10 6,sI 11 ((k:Int)+1) (by omega), .m 6 11] ?_)))
  refine then_normal ?_
  refine ⟨m - ((k+1)),by omega,?_⟩
  exact ⟨(k+1),by omega,rfl,(by kernel_rfl),hst12.pk []⟩
 refine wp_exit (then_exit (then_exit (blk_eq (then_normal (wp_seq (sqr (sqp [.m 21 5, .m 4 21] ?_)))))))
 refine then_normal (wp_ret ?_)
 refine bpr (.string (putS N k)) (results_1 Tryz.results143 rpt) ?_
 exact Ret.of (by rw [show k=m by omega]) hst4.ext
theorem r02bytes_any (RA:Option Addr) (rc:Nat) (rs:List Val) (w:World) (hA:At w RA (flatR rs)) (hlr:rs.length≤9223372036854775807):
  Calls Tryz.prog 142 #[.slice RA rs.length rc] w (Ret (.string (vbytesF rs)) w):=by
 go_enter Tryz.func142,Tryz.ntmps142
 have hst0:=St.start w
 refine wp_seq (sqr (sqp [.k 2 (.string ⟨#[]⟩)] ?_))
 refine then_normal (wp_seq (wp_seq (sqr (sqp [.m 5 0] ?_))))
 refine sqk (.bool (rrightF rs)) hst0 (fun cx=>⟨_,r02row_any _ _ rs _ (hA.ext cx.upd.to_ext) (by omega),(map1 (cx.ou 5))⟩) fun W3 hst3=>?_
 refine sqp [.k 7 (.bool (!(rrightF rs)))] ?_
 refine then_normal ?_
 rcases Bool.eq_false_or_eq_true (rrightF rs) with hs5 | hs5
 ·refine wp_cond_false (show Act.eval _ _= .bool false from (congrArg Value.bool (by rw [hs5]; rfl))) (wp_skip (then_normal (wp_seq (sqr (sqp [.m 8 0, .k 9 (vi ((rs.length:Int)))] ?_)))))
  refine sqk (.string (oneS (rs.length:Int))) hst3 (fun cx=>⟨_,one_any (rs.length:Int) _,(map1 (cx.ou 9))⟩) fun W8 hst8=>?_
  refine sqp [.m 3 10] ?_
  refine then_normal (wp_seq (wp_seq (sqr (sqp [.k 4 (vi 0)] ?_))))
  refine then_normal (wp_block ?_)
  refine wp_loopT (fun t_ mz az W=>∃ k:Nat,k≤rs.length∧mz=rs.length - k∧az=⟨(ovr (jv az) [(3,3,0,[.string (strL (bytesTo rs k)),vi ((k:Int))]),(6,11,49,[])] t_).toArray,[]⟩∧St w [] [] W) (rs.length - 0) ?_ ?_
  · -- the loop begins
    exact ⟨0,by omega,rfl,(by rw [bt_0,← oneS_strL (x:=((rs.length:Nat):Int)) (by have:=rright_len (by assumption:rrightF rs=true); omega)]; rfl),hst8.pk []⟩
  rintro n11 a11 W11 ⟨k,hk,rfl,hj_,hst11⟩
  refine ovz hj_ fun u11_=>?_
  refine wp_seq (wp_seq (sqr (sqp [.m 11 4, .m 12 0, .k 13 (vi ((rs.length:Int))), .k 14 (.bool (decide ((k:Int) < (rs.length:Int))))] ?_)))
  refine then_normal (wds (fun hs16 hs16p=>?_) fun hs16 hs16p=>?_)
  ·refine wp_skip (then_normal (wp_seq (wp_block (wp_seq ?_))))
   obtain ⟨u,hu⟩:∃ z,rs.getD k v0=z:=⟨_,rfl⟩
   have hvu:vrightF (rs.getD k v0)=true:=rright_at (by assumption) (by omega)
   have hpu:=vright_parts hvu
   have hbl:=bt_len (by assumption:rrightF rs=true) k
   have hbl1:=bt_len (by assumption:rrightF rs=true) (k+1)
   refine sqr (sqp [.m 17 3, .m 18 0, .m 19 4] ?_)
   refine sql (.pointer (some ((ad RA).add (k*3)))) hst11 (fun cx=>run_indexSlM (e:=45) (m:=k) (sz:=3) rfl (by kernel_rfl) (by kernel_rfl) (cx.ou 18) (cx.ou 19) (by omega) (by omega) (hA.ext cx.upd.to_ext) (flatPos (sz:=3) cellsV_len (by decide) (by omega))) ?_
   refine sql (.pointer (some ((ad RA).add (k*3+0)))) hst11 (fun cx=>run_fieldAd rfl (by kernel_rfl) (cx.ou 20)) ?_
   refine sql (vi ((rs.getD k v0).1)) hst11 (fun cx=>run_load1 rfl (by kernel_rfl) (cx.ou 21) (At.eltc (f:=cellsV) (k:=0) cellsV_len (hA.ext cx.upd.to_ext) (getD_some (ts:=rs) (m:=k) v0 (by omega)) rfl)) ?_
   refine sqk (.string (oneS ((rs.getD k v0).1))) hst11 (fun cx=>⟨_,one_any ((rs.getD k v0).1) _,(map1 (cx.ou 22))⟩) fun W23 hst23=>?_
   refine sql (.string (strL (bytesTo rs k++[UInt8.ofNat (rs.getD k v0).1.toNat]))) hst23 (fun cx=>(by rw [← strL_app,← oneS_strL (by omega)]; exact run_strcat rfl (cx.ou 17) (cx.ou 23) (by rw [oneS_size]; simp only [strL_size,List.length_append,List.length_cons,List.length_nil]; omega))) ?_
   refine sqp [.m 3 24] ?_
   refine then_normal (wp_seq (wp_seq (sqr (sqp [.m 25 0, .m 26 4] ?_))))
   refine sql (.pointer (some ((ad RA).add (k*3)))) hst23 (fun cx=>run_indexSlM (e:=45) (m:=k) (sz:=3) rfl (by kernel_rfl) (by kernel_rfl) (cx.ou 25) (cx.ou 26) (by omega) (by omega) (hA.ext cx.upd.to_ext) (flatPos (sz:=3) cellsV_len (by decide) (by omega))) ?_
   refine sql (.pointer (some ((ad RA).add (k*3+0)))) hst23 (fun cx=>run_fieldAd rfl (by kernel_rfl) (cx.ou 27)) ?_
   refine sql (vi ((rs.getD k v0).1)) hst23 (fun cx=>run_load1 rfl (by kernel_rfl) (cx.ou 28) (At.eltc (f:=cellsV) (k:=0) cellsV_len (hA.ext cx.upd.to_ext) (getD_some (ts:=rs) (m:=k) v0 (by omega)) rfl)) ?_
   refine sqp [.k 30 (.bool (((rs.getD k v0).1)==1))] ?_
   refine then_normal (wbs (fun hs32=>?_) fun hs32=>?_)
   ·have hs32p:=beq_iff_eq.1 hs32
    refine sqr (sqp [.m 31 3, .m 32 0, .m 33 4] ?_)
    refine sql (.pointer (some ((ad RA).add (k*3)))) hst23 (fun cx=>run_indexSlM (e:=45) (m:=k) (sz:=3) rfl (by kernel_rfl) (by kernel_rfl) (cx.ou 32) (cx.ou 33) (by omega) (by omega) (hA.ext cx.upd.to_ext) (flatPos (sz:=3) cellsV_len (by decide) (by omega))) ?_
    refine sql (.pointer (some ((ad RA).add (k*3+1)))) hst23 (fun cx=>run_fieldAd rfl (by kernel_rfl) (cx.ou 34)) ?_
    refine sql (vi ((rs.getD k v0).2.1)) hst23 (fun cx=>run_load1 rfl (by kernel_rfl) (cx.ou 35) (At.eltc (f:=cellsV) (k:=1) cellsV_len (hA.ext cx.upd.to_ext) (getD_some (ts:=rs) (m:=k) v0 (by omega)) rfl)) ?_
    refine sqk (.string (putS ((rs.getD k v0).2.1) 8)) hst23 (fun cx=>⟨_,r02whole_any ((rs.getD k v0).2.1) _,(map1 (cx.ou 36))⟩) fun W39 hst39=>?_
    refine sql (.string (strL (bytesTo rs (k+1)))) hst39 (fun cx=>(by rw [← bt_int (by omega) (by assumption),← strL_app,strL_data]; exact run_strcat rfl (cx.ou 31) (cx.ou 37) (by rw [putS_size _ 8 (by omega)]; simp only [strL_size,List.length_append,List.length_cons,List.length_nil]; omega))) ?_
    refine sqp [.m 3 38] ?_
    refine then_normal (wp_seq (sqr (sqp [.m 39 0, .m 40 4] ?_)))
    refine sql (.pointer (some ((ad RA).add (k*3)))) hst39 (fun cx=>run_indexSlM (e:=45) (m:=k) (sz:=3) rfl (by kernel_rfl) (by kernel_rfl) (cx.ou 39) (cx.ou 40) (by omega) (by omega) (hA.ext cx.upd.to_ext) (flatPos (sz:=3) cellsV_len (by decide) (by omega))) ?_
    refine sql (.pointer (some ((ad RA).add (k*3+0)))) hst39 (fun cx=>run_fieldAd rfl (by kernel_rfl) (cx.ou 41)) ?_
    refine sql (vi ((rs.getD k v0).1)) hst39 (fun cx=>run_load1 rfl (by kernel_rfl) (cx.ou 42) (At.eltc (f:=cellsV) (k:=0) cellsV_len (hA.ext cx.upd.to_ext) (getD_some (ts:=rs) (m:=k) v0 (by omega)) rfl)) ?_
    refine sqp [.k 44 (.bool (((rs.getD k v0).1)==2))] ?_
    refine then_normal (wbs (fun hs48=>?_) fun hs48=>?_)
    ·have hs48p:=beq_iff_eq.1 hs48
     exfalso; omega
    have hs48p:=beq_eq_false_iff_ne.1 hs48
    refine wp_skip (blk_normal (then_normal (sqr (sqp [.m 15 4,sI 16 ((k:Int)+1) (by omega), .m 4 16] ?_))))
    refine then_normal ?_
    refine ⟨rs.length - ((k+1)),by omega,?_⟩
    exact ⟨(k+1),by omega,rfl,(by kernel_rfl),hst39.pk []⟩
   have hs32p:=beq_eq_false_iff_ne.1 hs32
   refine wp_skip (then_normal (wp_seq (sqr (sqp [.m 39 0, .m 40 4] ?_))))
   refine sql (.pointer (some ((ad RA).add (k*3)))) hst23 (fun cx=>run_indexSlM (e:=45) (m:=k) (sz:=3) rfl (by kernel_rfl) (by kernel_rfl) (cx.ou 39) (cx.ou 40) (by omega) (by omega) (hA.ext cx.upd.to_ext) (flatPos (sz:=3) cellsV_len (by decide) (by omega))) ?_
   refine sql (.pointer (some ((ad RA).add (k*3+0)))) hst23 (fun cx=>run_fieldAd rfl (by kernel_rfl) (cx.ou 41)) ?_
   refine sql (vi ((rs.getD k v0).1)) hst23 (fun cx=>run_load1 rfl (by kernel_rfl) (cx.ou 42) (At.eltc (f:=cellsV) (k:=0) cellsV_len (hA.ext cx.upd.to_ext) (getD_some (ts:=rs) (m:=k) v0 (by omega)) rfl)) ?_
   refine sqp [.k 44 (.bool (((rs.getD k v0).1)==2))] ?_
   refine then_normal (wbs (fun hs58=>?_) fun hs58=>?_)
   ·have hs58p:=beq_iff_eq.1 hs58
    refine wp_region_Z [0,0,0,6,14,30,62,126,255,0,0,1536,3584,7680,16383,32767] [] [.k 45 (.string (strL (bytesTo rs k++[UInt8.ofNat (rs.getD k v0).1.toNat]))), .k 46 (.slice RA rs.length rc), .k 47 (vi ((k:Int))), .c 48 (.pointer (some ((ad RA).add (k*3)))), .c 49 (.pointer (some ((ad RA).add (k*3+2)))), .c 50 (.string ((rs.getD k v0).2.2)), .k 51 (vi ((((rs.getD k v0).2.2).size:Int))), .c 52 (.string (oneS (((rs.getD k v0).2.2).size:Int))), .c 53 (.string (strL ((bytesTo rs k++[UInt8.ofNat (rs.getD k v0).1.toNat])++[UInt8.ofNat (((rs.getD k v0).2.2.size:Nat):Int).toNat]))), .k 54 (.slice RA rs.length rc), .k 55 (vi ((k:Int))), .c 56 (.pointer (some ((ad RA).add (k*3)))), .c 57 (.pointer (some ((ad RA).add (k*3+2)))), .c 58 (.string ((rs.getD k v0).2.2)), .c 59 (.string (strL (bytesTo rs (k+1)))), .k 3 (.string (strL (bytesTo rs (k+1))))] [] [3,4,5,7,8,11,12,13,14] [(3,15,1,4),(41,0,15,56)] hst23 ?_ fun W59 hst59=>?_
    ·refine ⟨?_,?_,?_,?_,?_,?_,?_,?_,?_,trivial⟩
     ·exact xs4 rfl id fun cx=>run_indexSlM (e:=45) (m:=k) (sz:=3) rfl (by kernel_rfl) (by kernel_rfl) (cx.an 1) (cx.an 2) (by omega) (by omega) (hA.ext cx.upd.to_ext) (flatPos (sz:=3) cellsV_len (by decide) (by omega))
     ·exact xs4 rfl id fun cx=>run_fieldAd rfl (by kernel_rfl) (cx.an 3)
     ·exact xs4 rfl id fun cx=>run_load1 rfl (by kernel_rfl) (cx.an 4) (At.eltc (f:=cellsV) (k:=2) cellsV_len (hA.ext cx.upd.to_ext) (getD_some (ts:=rs) (m:=k) v0 (by omega)) rfl)
     ·exact xsc rfl id rfl rfl fun cx=>⟨_,one_any (((rs.getD k v0).2.2).size:Int) _,(map1 (cx.an 6))⟩
     ·exact xs4 rfl id fun cx=>(by rw [← strL_app (bytesTo rs k++[UInt8.ofNat (rs.getD k v0).1.toNat]),← oneS_strL (x:=(((rs.getD k v0).2.2.size:Nat):Int)) (by have:=hpu.2.2 (by assumption); omega)]; exact run_strcat rfl (cx.an 0) (cx.an 7) (by rw [oneS_size]; simp only [strL_size,List.length_append,List.length_cons,List.length_nil]; omega))
     ·exact xs4 rfl id fun cx=>run_indexSlM (e:=45) (m:=k) (sz:=3) rfl (by kernel_rfl) (by kernel_rfl) (cx.an 9) (cx.an 10) (by omega) (by omega) (hA.ext cx.upd.to_ext) (flatPos (sz:=3) cellsV_len (by decide) (by omega))
     ·exact xs4 rfl id fun cx=>run_fieldAd rfl (by kernel_rfl) (cx.an 11)
     ·exact xs4 rfl id fun cx=>run_load1 rfl (by kernel_rfl) (cx.an 12) (At.eltc (f:=cellsV) (k:=2) cellsV_len (hA.ext cx.upd.to_ext) (getD_some (ts:=rs) (m:=k) v0 (by omega)) rfl)
     ·exact xs4 rfl id fun cx=>(by rw [← bt_text (by omega) (by assumption) (by assumption),← strL_app,strL_data]; exact run_strcat rfl (cx.an 8) (cx.an 13) (by have:=hpu.2.2 (by assumption); simp only [strL_size,List.length_append,List.length_cons,List.length_nil]; omega))
    refine blk_normal (then_normal (sqr (sqp [.m 15 4,sI 16 ((k:Int)+1) (by omega), .m 4 16] ?_)))
    refine then_normal ?_
    refine ⟨rs.length - ((k+1)),by omega,?_⟩
    exact ⟨(k+1),by omega,rfl,(by kernel_rfl),hst59.pk []⟩
   have hs58p:=beq_eq_false_iff_ne.1 hs58
   refine wp_skip (blk_normal (then_normal (sqr (sqp [.m 15 4,sI 16 ((k:Int)+1) (by omega), .m 4 16] ?_))))
   refine then_normal ?_
   refine ⟨rs.length - ((k+1)),by omega,?_⟩
   exact ⟨(k+1),by omega,rfl,(by rw [← bt_none (k:=k) (by omega) (by assumption) (by assumption)]; rfl),hst23.pk []⟩
  refine wp_exit (then_exit (then_exit (blk_eq (then_normal (wp_seq (sqr (sqp [.m 60 3, .m 2 60] ?_)))))))
  refine then_normal (wp_ret ?_)
  refine bpr (.string (strL (bytesTo rs k))) (results_1 Tryz.results142 rpt) ?_
  exact Ret.of (by rw [vbytesF,if_pos (by assumption),show k=rs.length by omega]) hst11.ext
 refine wp_cond_true (show Act.eval _ _= .bool true from (congrArg Value.bool (by rw [hs5]; rfl))) (wp_seq (sqr (sqp [.k 2 (.string ⟨#[]⟩)] ?_)))
 refine then_normal (wp_ret (then_ret ?_))
 refine bpr (.string ⟨#[]⟩) (results_1 Tryz.results142 rpt) ?_
 exact Ret.of (by rw [vbytesF,if_neg (by simp [*])]; rfl) hst3.ext
theorem r08right_any (a b n1 n2:Int) (ho:Bool) (RA:Option Addr) (rc:Nat) (rs:List Val) (w:World) (hA:At w RA (flatR rs)) (hlr:rs.length≤9223372036854775807):
  Calls Tryz.prog 141 #[.agg #[.int .i64 a, .int .i64 b, .int .i64 n1, .int .i64 n2, .bool ho, .slice RA rs.length rc]] w (Ret (.bool (trightF a b n1 n2 rs)) w):=by
 go_enter Tryz.func141,Tryz.ntmps141
 have hst0:=St.start w
 refine wp_seq (sqr ?_)
 refine sqbx #[vi a,vi b,vi n1,vi n2, .bool ho, .slice RA rs.length rc] hst0 fun B1_1 W1 hst1=>?_
 refine sqp [.k 2 (.bool false)] ?_
 refine then_normal (wp_seq (sqr (sqp [.k 6 (vp B1_1)] ?_)))
 refine sqld 0 hst1 ?_
 refine sqk (.bool (onF a)) hst1 (fun cx=>⟨_,ron_any a _,(map1 (cx.ou 7))⟩) fun W5 hst5=>?_
 refine sqp [.m 3 8] ?_
 refine then_normal (wp_seq (sqr (sqp [.k 9 (.pointer (some ⟨B1_1,1,none⟩))] ?_)))
 refine sqld 0 hst5 ?_
 refine sqk (.bool (onF b)) hst5 (fun cx=>⟨_,ron_any b _,(map1 (cx.ou 10))⟩) fun W9 hst9=>?_
 refine sqp [.m 4 11] ?_
 refine then_normal (wp_seq (sqr (sqp [.k 12 (.pointer (some ⟨B1_1,2,none⟩)), .k 13 (.pointer (some ⟨B1_1,2,none⟩))] ?_)))
 refine sqld 0 hst9 ?_
 refine sqp [.k 15 (.bool (n1==(-1))), .m 16 15] ?_
 refine sqw' 16 [17,18,19,20] ?_ rfl (fun hq=>?_) ?_
 rotate_left
 ·refine sqp [.k 17 (.pointer (some ⟨B1_1,2,none⟩)), .k 18 (.pointer (some ⟨B1_1,3,none⟩))] ?_
  refine sqld 0 hst9 ?_
  refine sqp [.k 20 (.bool (n2==0))] ?_
  exact sqe
 refine sqwx ?_
 refine sqp [sPa 21 (n1==(-1)) (n2==0), .m 22 21] ?_
 refine sqw' 22 [23,24,25,26,27,28,29,30,31,32,33,34,35,36,37,38,39,40,41,42,43,44] ?_ rfl (fun hq=>?_) ?_
 rotate_left
 ·refine sqp [.k 23 (.pointer (some ⟨B1_1,2,none⟩)), .k 24 (.pointer (some ⟨B1_1,2,none⟩))] ?_
  refine sqld 0 hst9 ?_
  refine sqp [.k 26 (.bool (decide (0≤n1))), .m 27 26] ?_
  refine sqw' 27 [28,29,30,31] ?_ rfl (fun hq=>?_) ?_
  rotate_left
  ·refine sqp [.k 28 (.pointer (some ⟨B1_1,2,none⟩)), .k 29 (.pointer (some ⟨B1_1,2,none⟩))] ?_
   refine sqld 0 hst9 ?_
   refine sqp [.k 31 (.bool (decide (n1 < 400)))] ?_
   exact sqe
  refine sqwx ?_
  refine sqp [sPa 32 (decide (0≤n1)) (decide (n1 < 400)), .m 33 32] ?_
  refine sqw' 33 [34,35,36,37] ?_ rfl (fun hq=>?_) ?_
  rotate_left
  ·refine sqp [.k 34 (.pointer (some ⟨B1_1,2,none⟩)), .k 35 (.pointer (some ⟨B1_1,3,none⟩))] ?_
   refine sqld 0 hst9 ?_
   refine sqp [.k 37 (.bool (decide (0≤n2)))] ?_
   exact sqe
  refine sqwx ?_
  refine sqp [sPa 38 ((decide (0≤n1))&&(decide (n1 < 400))) (decide (0≤n2)), .m 39 38] ?_
  refine sqw' 39 [40,41,42,43] ?_ rfl (fun hq=>?_) ?_
  rotate_left
  ·refine sqp [.k 40 (.pointer (some ⟨B1_1,2,none⟩)), .k 41 (.pointer (some ⟨B1_1,3,none⟩))] ?_
   refine sqld 0 hst9 ?_
   refine sqp [.k 43 (.bool (decide (n2 < 24)))] ?_
   exact sqe
  refine sqwx ?_
  refine sqp [sPa 44 (((decide (0≤n1))&&(decide (n1 < 400)))&&(decide (0≤n2))) (decide (n2 < 24))] ?_
  exact sqe
 refine sqwx ?_
 refine sqp [sPo 45 ((n1==(-1))&&(n2==0)) ((((decide (0≤n1))&&(decide (n1 < 400)))&&(decide (0≤n2)))&&(decide (n2 < 24))), .m 5 45] ?_
 refine then_normal (wp_seq (sqr (sqp [.m 46 3, .m 47 46] ?_)))
 refine sqw' 47 [48,49,50] ?_ rfl (fun hq=>?_) ?_
 rotate_left
 ·refine sqp [.k 48 (vp B1_1)] ?_
  refine sqld 0 hst9 ?_
  refine sqp [.k 50 (.bool (a==2))] ?_
  exact sqe
 refine sqwx ?_
 refine sqp [sPo 51 (onF a) (a==2), .m 52 51] ?_
 refine sqw' 52 [53,54,55,56,57,58] ?_ rfl (fun hq=>?_) ?_
 rotate_left
 ·refine sqp [.m 53 4, .m 54 53] ?_
  refine sqw' 54 [55,56,57] ?_ rfl (fun hq=>?_) ?_
  rotate_left
  ·refine sqp [.k 55 (.pointer (some ⟨B1_1,1,none⟩))] ?_
   refine sqld 0 hst9 ?_
   refine sqp [.k 57 (.bool (b==0))] ?_
   exact sqe
  refine sqwx ?_
  refine sqp [sPo 58 (onF b) (b==0)] ?_
  exact sqe
 refine sqwx ?_
 refine sqp [sPa 59 ((onF a)||(a==2)) ((onF b)||(b==0)), .m 60 59] ?_
 refine sqw 60 [61] rfl (fun _=>sqp [.m 61 5] sqe) ?_
 refine sqp [sPa 62 (((onF a)||(a==2))&&((onF b)||(b==0))) (((n1==(-1))&&(n2==0))||((((decide (0≤n1))&&(decide (n1 < 400)))&&(decide (0≤n2)))&&(decide (n2 < 24)))), .m 63 62] ?_
 refine sqwW 63 [64,65,66] ?_ hst9 rfl (fun hq=>?_) fun W67 hst67=>?_
 rotate_left
 ·have hq_:=hq
  try simp only [zB] at hq_
  refine sqp [.k 64 (.pointer (some ⟨B1_1,5,none⟩))] ?_
  refine sqld 0 hst9 ?_
  refine sqk (.bool (rrightF rs)) hst9 (fun cx=>⟨_,r02row_any _ _ rs _ (hA.ext cx.upd.to_ext) (by omega),(map1 (cx.ou 65))⟩) fun W66 hst66=>?_
  exact sqE hst66
 refine sqwx ?_
 refine sqp [sPa 67 ((((onF a)||(a==2))&&((onF b)||(b==0)))&&(((n1==(-1))&&(n2==0))||((((decide (0≤n1))&&(decide (n1 < 400)))&&(decide (0≤n2)))&&(decide (n2 < 24))))) (rrightF rs), .m 2 67] ?_
 refine then_normal (wp_ret ?_)
 refine bpr (.bool (((((onF a)||(a==2))&&((onF b)||(b==0)))&&(((n1==(-1))&&(n2==0))||((((decide (0≤n1))&&(decide (n1 < 400)))&&(decide (0≤n2)))&&(decide (n2 < 24)))))&&(rrightF rs))) (results_1 Tryz.results141 rpt) ?_
 exact Ret.bool (by rw [trightF,onZ,tnextF,Bool.or_comm (a==2),Bool.or_comm (b==0)]) hst67.ext
theorem r08bytes_any (a b n1 n2:Int) (ho:Bool) (RA:Option Addr) (rc:Nat) (rs:List Val) (w:World) (hA:At w RA (flatR rs)) (hlr:rs.length≤9223372036854775807):
  Calls Tryz.prog 77 #[.agg #[.int .i64 a, .int .i64 b, .int .i64 n1, .int .i64 n2, .bool ho, .slice RA rs.length rc]] w (Ret (.string (tbytesF a b n1 n2 ho rs)) w):=by
 go_enter Tryz.func77,Tryz.ntmps77
 have hst0:=St.start w
 refine wp_seq (sqr ?_)
 refine sqbx #[vi a,vi b,vi n1,vi n2, .bool ho, .slice RA rs.length rc] hst0 fun B1_1 W1 hst1=>?_
 refine sqp [.k 2 (.string ⟨#[]⟩)] ?_
 refine then_normal (wp_seq (wp_seq (sqr ?_)))
 refine sqlb 0 6 hst1 ?_
 refine sqk (.bool (trightF a b n1 n2 rs)) hst1 (fun cx=>⟨_,r08right_any a b n1 n2 ho _ _ rs _ (hA.ext cx.upd.to_ext) (by omega),(map1 (cx.ou 5))⟩) fun W4 hst4=>?_
 refine sqp [.k 7 (.bool (!(trightF a b n1 n2 rs)))] ?_
 refine then_normal ?_
 rcases Bool.eq_false_or_eq_true (trightF a b n1 n2 rs) with hs6 | hs6
 ·refine wp_cond_false (show Act.eval _ _= .bool false from (congrArg Value.bool (by rw [hs6]; rfl))) (wp_skip (then_normal (wp_seq (sqr (sqp [.k 3 (vi 0)] ?_)))))
  refine then_normal (wp_seq (wp_seq (sqr (sqp [.k 8 (.pointer (some ⟨B1_1,4,none⟩))] ?_))))
  refine sqld 0 hst4 ?_
  refine then_normal (wbs (fun hs10=>?_) fun hs10=>?_)
  ·refine sqr (sqp [.k 3 (vi 1)] ?_)
   refine then_normal (wp_seq (sqr (sqp [.k 10 (.pointer (some ⟨B1_1,5,none⟩))] ?_)))
   refine sqld 0 hst4 ?_
   refine sqk (.string (vbytesF rs)) hst4 (fun cx=>⟨_,r02bytes_any _ _ rs _ (hA.ext cx.upd.to_ext) (by omega),(map1 (cx.ou 11))⟩) fun W14 hst14=>?_
   refine sqp [.m 4 12] ?_
   refine then_normal (wp_seq ?_)
   have hpt:=tright_parts (by assumption:trightF a b n1 n2 rs=true)
   have hvz:=vbytes_size rs
   have hps1:∀ z:Int,(putS z 1).size=1:=fun z=>putS_size z 1 (by omega)
   have hps2:∀ z:Int,(putS z 2).size=2:=fun z=>putS_size z 2 (by omega)
   refine wp_region_Z [0,1,3,0,8,31,63,0,128,384,896,1983,4095,0,8192,24576,61375,131071,0,389055,1048575,0,2097152,7204799,16777215,0,67108863,134217727] [[],[0],[],[],[0],[],[],[],[],[0],[],[],[],[],[],[0]] [.k 13 (vp B1_1), .c 14 (vi a), .c 15 (.string (putS a 1)), .k 16 (.pointer (some ⟨B1_1,1,none⟩)), .c 17 (vi b), .c 18 (.string (putS b 1)),tS 19 (putS a 1) (putS b 1) (by simp only [ByteArray.size_append,hps1,hps2]; omega), .k 20 (.pointer (some ⟨B1_1,2,none⟩)), .k 21 (.pointer (some ⟨B1_1,2,none⟩)), .c 22 (vi n1),tI 23 (n1+1) (by omega), .c 24 (.string (putS (n1+1) 2)),tS 25 ((putS a 1)++(putS b 1)) (putS (n1+1) 2) (by simp only [ByteArray.size_append,hps1,hps2]; omega), .k 26 (.pointer (some ⟨B1_1,2,none⟩)), .k 27 (.pointer (some ⟨B1_1,3,none⟩)), .c 28 (vi n2), .c 29 (.string (putS n2 1)),tS 30 (((putS a 1)++(putS b 1))++(putS (n1+1) 2)) (putS n2 1) (by simp only [ByteArray.size_append,hps1,hps2]; omega), .k 31 (vi 1), .c 32 (.string (putS 1 1)),tS 33 ((((putS a 1)++(putS b 1))++(putS (n1+1) 2))++(putS n2 1)) (putS 1 1) (by simp only [ByteArray.size_append,hps1,hps2]; omega), .k 34 (.string (vbytesF rs)), .k 35 (vi (((vbytesF rs).size:Int))), .c 36 (.string (putS ((vbytesF rs).size:Int) 2)),tS 37 (((((putS a 1)++(putS b 1))++(putS (n1+1) 2))++(putS n2 1))++(putS 1 1)) (putS ((vbytesF rs).size:Int) 2) (by simp only [ByteArray.size_append,hps1,hps2]; omega), .k 38 (.string (vbytesF rs)),tS 39 ((((((putS a 1)++(putS b 1))++(putS (n1+1) 2))++(putS n2 1))++(putS 1 1))++(putS ((vbytesF rs).size:Int) 2)) (vbytesF rs) (by simp only [ByteArray.size_append,hps1,hps2]; omega), .k 2 (.string (((((((putS a 1)++(putS b 1))++(putS (n1+1) 2))++(putS n2 1))++(putS 1 1))++(putS ((vbytesF rs).size:Int) 2))++(vbytesF rs)))] [0] [1,2,4,5,9,11,15,16,19,23] [(2,27,1,3),(10,0,27,37)] hst14 ?_ fun W16 hst16=>?_
   ·refine ⟨?_,?_,?_,?_,?_,?_,?_,?_,?_,?_,trivial⟩
    ·exact xs4 rfl id fun cx=>run_load1 rfl (by kernel_rfl) (cx.an 0) ((cx.bi 0 rfl).cell 0)
    ·exact xsc rfl id rfl rfl fun cx=>⟨_,r04num_any a 1 _ (by omega),(map2 (cx.an 1) (cx.co _))⟩
    ·exact xs4 rfl id fun cx=>run_load1 rfl (by kernel_rfl) (cx.an 3) ((cx.bi 0 rfl).cell 1)
    ·exact xsc rfl id rfl rfl fun cx=>⟨_,r04num_any b 1 _ (by omega),(map2 (cx.an 4) (cx.co _))⟩
    ·exact xs4 rfl id fun cx=>run_load1 rfl (by kernel_rfl) (cx.an 8) ((cx.bi 0 rfl).cell 2)
    ·exact xsc rfl id rfl rfl fun cx=>⟨_,r04num_any (n1+1) 2 _ (by omega),(map2 (cx.an 10) (cx.co _))⟩
    ·exact xs4 rfl id fun cx=>run_load1 rfl (by kernel_rfl) (cx.an 14) ((cx.bi 0 rfl).cell 3)
    ·exact xsc rfl id rfl rfl fun cx=>⟨_,r04num_any n2 1 _ (by omega),(map2 (cx.an 15) (cx.co _))⟩
    ·exact xsc rfl id rfl rfl fun cx=>⟨_,r04num_any 1 1 _ (by omega),(map2 (cx.an 18) (cx.co _))⟩
    ·exact xsc rfl id rfl rfl fun cx=>⟨_,r04num_any ((vbytesF rs).size:Int) 2 _ (by omega),(map2 (cx.an 22) (cx.co _))⟩
   refine then_normal (wp_ret ?_)
   refine bpr (.string (((((((putS a 1)++(putS b 1))++(putS (n1+1) 2))++(putS n2 1))++(putS 1 1))++(putS ((vbytesF rs).size:Int) 2))++(vbytesF rs))) (results_1 Tryz.results77 rpt) ?_
   exact Ret.of (by rw [← tb_cat (by assumption),hotI,show ho=true by assumption]; rfl) hst16.ext
  refine wp_skip (then_normal (wp_seq (sqr (sqp [.k 10 (.pointer (some ⟨B1_1,5,none⟩))] ?_))))
  refine sqld 0 hst4 ?_
  refine sqk (.string (vbytesF rs)) hst4 (fun cx=>⟨_,r02bytes_any _ _ rs _ (hA.ext cx.upd.to_ext) (by omega),(map1 (cx.ou 11))⟩) fun W19 hst19=>?_
  refine sqp [.m 4 12] ?_
  refine then_normal (wp_seq ?_)
  have hpt:=tright_parts (by assumption:trightF a b n1 n2 rs=true)
  have hvz:=vbytes_size rs
  have hps1:∀ z:Int,(putS z 1).size=1:=fun z=>putS_size z 1 (by omega)
  have hps2:∀ z:Int,(putS z 2).size=2:=fun z=>putS_size z 2 (by omega)
  refine wp_region_Z [0,1,3,0,8,31,63,0,128,384,896,1983,4095,0,8192,24576,61375,131071,0,389055,1048575,0,2097152,7204799,16777215,0,67108863,134217727] [[],[0],[],[],[0],[],[],[],[],[0],[],[],[],[],[],[0]] [.k 13 (vp B1_1), .c 14 (vi a), .c 15 (.string (putS a 1)), .k 16 (.pointer (some ⟨B1_1,1,none⟩)), .c 17 (vi b), .c 18 (.string (putS b 1)),tS 19 (putS a 1) (putS b 1) (by simp only [ByteArray.size_append,hps1,hps2]; omega), .k 20 (.pointer (some ⟨B1_1,2,none⟩)), .k 21 (.pointer (some ⟨B1_1,2,none⟩)), .c 22 (vi n1),tI 23 (n1+1) (by omega), .c 24 (.string (putS (n1+1) 2)),tS 25 ((putS a 1)++(putS b 1)) (putS (n1+1) 2) (by simp only [ByteArray.size_append,hps1,hps2]; omega), .k 26 (.pointer (some ⟨B1_1,2,none⟩)), .k 27 (.pointer (some ⟨B1_1,3,none⟩)), .c 28 (vi n2), .c 29 (.string (putS n2 1)),tS 30 (((putS a 1)++(putS b 1))++(putS (n1+1) 2)) (putS n2 1) (by simp only [ByteArray.size_append,hps1,hps2]; omega), .k 31 (vi 0), .c 32 (.string (putS 0 1)),tS 33 ((((putS a 1)++(putS b 1))++(putS (n1+1) 2))++(putS n2 1)) (putS 0 1) (by simp only [ByteArray.size_append,hps1,hps2]; omega), .k 34 (.string (vbytesF rs)), .k 35 (vi (((vbytesF rs).size:Int))), .c 36 (.string (putS ((vbytesF rs).size:Int) 2)),tS 37 (((((putS a 1)++(putS b 1))++(putS (n1+1) 2))++(putS n2 1))++(putS 0 1)) (putS ((vbytesF rs).size:Int) 2) (by simp only [ByteArray.size_append,hps1,hps2]; omega), .k 38 (.string (vbytesF rs)),tS 39 ((((((putS a 1)++(putS b 1))++(putS (n1+1) 2))++(putS n2 1))++(putS 0 1))++(putS ((vbytesF rs).size:Int) 2)) (vbytesF rs) (by simp only [ByteArray.size_append,hps1,hps2]; omega), .k 2 (.string (((((((putS a 1)++(putS b 1))++(putS (n1+1) 2))++(putS n2 1))++(putS 0 1))++(putS ((vbytesF rs).size:Int) 2))++(vbytesF rs)))] [0] [1,2,4,5,9,11,15,16,19,23] [(2,27,1,3),(10,0,27,37)] hst19 ?_ fun W21 hst21=>?_
  ·refine ⟨?_,?_,?_,?_,?_,?_,?_,?_,?_,?_,trivial⟩
   ·exact xs4 rfl id fun cx=>run_load1 rfl (by kernel_rfl) (cx.an 0) ((cx.bi 0 rfl).cell 0)
   ·exact xsc rfl id rfl rfl fun cx=>⟨_,r04num_any a 1 _ (by omega),(map2 (cx.an 1) (cx.co _))⟩
   ·exact xs4 rfl id fun cx=>run_load1 rfl (by kernel_rfl) (cx.an 3) ((cx.bi 0 rfl).cell 1)
   ·exact xsc rfl id rfl rfl fun cx=>⟨_,r04num_any b 1 _ (by omega),(map2 (cx.an 4) (cx.co _))⟩
   ·exact xs4 rfl id fun cx=>run_load1 rfl (by kernel_rfl) (cx.an 8) ((cx.bi 0 rfl).cell 2)
   ·exact xsc rfl id rfl rfl fun cx=>⟨_,r04num_any (n1+1) 2 _ (by omega),(map2 (cx.an 10) (cx.co _))⟩
   ·exact xs4 rfl id fun cx=>run_load1 rfl (by kernel_rfl) (cx.an 14) ((cx.bi 0 rfl).cell 3)
   ·exact xsc rfl id rfl rfl fun cx=>⟨_,r04num_any n2 1 _ (by omega),(map2 (cx.an 15) (cx.co _))⟩
   ·exact xsc rfl id rfl rfl fun cx=>⟨_,r04num_any 0 1 _ (by omega),(map2 (cx.an 18) (cx.co _))⟩
   ·exact xsc rfl id rfl rfl fun cx=>⟨_,r04num_any ((vbytesF rs).size:Int) 2 _ (by omega),(map2 (cx.an 22) (cx.co _))⟩
  refine then_normal (wp_ret ?_)
  refine bpr (.string (((((((putS a 1)++(putS b 1))++(putS (n1+1) 2))++(putS n2 1))++(putS 0 1))++(putS ((vbytesF rs).size:Int) 2))++(vbytesF rs))) (results_1 Tryz.results77 rpt) ?_
  exact Ret.of (by rw [← tb_cat (by assumption),hotI,show ho=false by assumption]; rfl) hst21.ext
 refine wp_cond_true (show Act.eval _ _= .bool true from (congrArg Value.bool (by rw [hs6]; rfl))) (wp_seq (sqr (sqp [.k 2 (.string ⟨#[]⟩)] ?_)))
 refine then_normal (wp_ret (then_ret ?_))
 refine bpr (.string ⟨#[]⟩) (results_1 Tryz.results77 rpt) ?_
 exact Ret.of (by rw [tbytesF,if_neg (by simp [*])]; rfl) hst4.ext
end
section
open Go.RowKit
/-- where a reader stands that has read fields of these widths (the last one first), and whether it has failed -/
def stT (s:ByteArray):List Nat→Nat×Bool
 | []=>(0,false)
 | k::L=>if (stT s L).2=false∧(stT s L).1+k≤s.size then ((stT s L).1+k,false) else ((stT s L).1,true)
def stV (s:ByteArray) (L:List Nat) (k:Nat):Int:=if (stT s L).2=false∧(stT s L).1+k≤s.size then (numS s (stT s L).1 k:Int) else 0
theorem stT_le (s:ByteArray) (L:List Nat):(stT s L).1≤s.size:=by
 cases L with
 | nil=>exact Nat.zero_le _
 | cons k L=>
   have:=stT_le s L
   simp only [stT]
   split<;>omega
theorem stV_bd (s:ByteArray) (L:List Nat):0≤stV s L 2∧stV s L 2 < 65536:=by
 have:=numS_lt2 s (stT s L).1
 rw [stV]
 split<;>omega
theorem num_st (B:Nat) (s:ByteArray) (L:List Nat) (k:Nat) (w:World) (h:Rd 304 w B s (stT s L).1 (stT s L).2) (hk:k≤4):
  Calls Tryz.prog 130 #[.pointer (some ⟨B,0,none⟩), .int .i64 k] w (RdPost 304 (.int .i64 (stV s L k)) B s (stT s (k::L)).1 (stT s (k::L)).2 w):=by
 by_cases hc:(stT s L).2=false∧(stT s L).1+k≤s.size
 ·have e1:stT s (k::L)=((stT s L).1+k,false):=by simp only [stT]; rw [if_pos hc]
  rw [e1,stV,if_pos hc]
  rw [hc.1] at h
  exact num_ok B s _ k w h hk hc.2
 ·have e1:stT s (k::L)=((stT s L).1,true):=by simp only [stT]; rw [if_neg hc]
  rw [e1,stV,if_neg hc]
  refine num_bad B s _ k _ w h hk ?_
  cases hf:(stT s L).2 with
  | true=>exact .inl rfl
  | false=>exact .inr (Nat.lt_of_not_le fun h_=>hc ⟨hf,h_⟩)
theorem st_short {s:ByteArray} (h:s.size < 8):(stT s [1,1,2,1,1]).2=true∨s.size < (stT s [1,1,2,1,1]).1+2:=by
 simp only [stT]
 repeat' split
 all_goals first | exact .inl rfl | (refine .inr ?_; simp only at*; omega) | (simp_all<;>omega)
theorem tread_sh (s:ByteArray) (w:World) (hs:s.size < 8):
  Calls Tryz.prog 60 #[.string s] w (Ret (.tuple #[.agg #[.int .i64 0, .int .i64 0, .int .i64 0, .int .i64 0, .bool false, .slice none 0 0], .int .i64 10]) w):=by
 have hvb:=stV_bd s [1,1]
 go_enter Tryz.func60,Tryz.ntmps60
 have hst0:=St.start w
 refine wp_seq (sqr (sqal #[vi 0,vi 0,vi 0,vi 0, .bool false, .slice none 0 0] hst0 fun B2_1 W1 hst1=>?_))
 refine sqp [.k 3 (vi 0)] ?_
 refine then_normal (wp_seq (sqr (sqp [.m 9 0] ?_)))
 refine sqk1 (fun B10_4=>vp B10_4) (fun B10_4=>eB B10_4 304 #[.string s,vi (((stT s []).1:Int)), .bool ((stT s []).2)]) hst1 (fun cx=>⟨_,(oread_b s _).mono (by rintro e W1 ⟨B4,rfl,⟨hb4,hw4⟩,hx⟩; exact ⟨_,rfl,St.one hx ⟨hb4,eB_loc _ _ _,fun k hk=>by simp [eB] at hk; subst hk; exact ⟨hw4,hb4.lt⟩⟩⟩),(map1 (cx.ou 9))⟩) fun B10_4 W4 hst4=>?_
 refine sqp [.m 4 10] ?_
 refine then_normal (wp_seq (sqr (sqp [.m 11 4] ?_)))
 refine sqkm (vi ((stV s [] 1))) 1 #[.string s,vi (((stT s [1]).1:Int)), .bool ((stT s [1]).2)] hst4 (fun cx=>⟨_,(num_st _ s [] 1 _ ⟨(cx.bi 1 rfl),stT_le s _,by omega⟩ (by omega)).mono (by rintro e W1 ⟨rfl,hrd,hu⟩; exact ⟨rfl,hu,hrd.1⟩),(map2 (cx.ou 11) (cx.co _))⟩) fun W7 hst7=>?_
 refine sqp [.m 13 4] ?_
 refine sqkm (vi ((stV s [1] 1))) 1 #[.string s,vi (((stT s [1,1]).1:Int)), .bool ((stT s [1,1]).2)] hst7 (fun cx=>⟨_,(num_st _ s [1] 1 _ ⟨(cx.bi 1 rfl),stT_le s _,by omega⟩ (by omega)).mono (by rintro e W1 ⟨rfl,hrd,hu⟩; exact ⟨rfl,hu,hrd.1⟩),(map2 (cx.ou 13) (cx.co _))⟩) fun W9 hst9=>?_
 refine sqp [.k 15 (.agg #[vi ((stV s [] 1)),vi ((stV s [1] 1)),vi 0,vi 0, .bool false, .slice none 0 0])] ?_
 refine sqal #[vi 0,vi 0,vi 0,vi 0, .bool false, .slice none 0 0] hst9 fun B5_11 W11 hst11=>?_
 refine sqst (n:=6) 2 #[vi ((stV s [] 1)),vi ((stV s [1] 1)),vi 0,vi 0, .bool false, .slice none 0 0] hst11 fun W12 hst12=>?_
 refine then_normal (wp_seq (sqr (sqp [.m 16 4] ?_)))
 refine sqkm (vi ((stV s [1,1] 2))) 1 #[.string s,vi (((stT s [2,1,1]).1:Int)), .bool ((stT s [2,1,1]).2)] hst12 (fun cx=>⟨_,(num_st _ s [1,1] 2 _ ⟨(cx.bi 1 rfl),stT_le s _,by omega⟩ (by omega)).mono (by rintro e W1 ⟨rfl,hrd,hu⟩; exact ⟨rfl,hu,hrd.1⟩),(map2 (cx.ou 16) (cx.co _))⟩) fun W14 hst14=>?_
 refine sqp [sI 18 ((stV s [1,1] 2) - 1) (by omega), .m 19 4] ?_
 refine sqkm (vi ((stV s [2,1,1] 1))) 1 #[.string s,vi (((stT s [1,2,1,1]).1:Int)), .bool ((stT s [1,2,1,1]).2)] hst14 (fun cx=>⟨_,(num_st _ s [2,1,1] 1 _ ⟨(cx.bi 1 rfl),stT_le s _,by omega⟩ (by omega)).mono (by rintro e W1 ⟨rfl,hrd,hu⟩; exact ⟨rfl,hu,hrd.1⟩),(map2 (cx.ou 19) (cx.co _))⟩) fun W17 hst17=>?_
 refine sqp [.k 21 (.agg #[vi ((stV s [1,1] 2) - 1),vi ((stV s [2,1,1] 1))]), .k 22 (.pointer (some ⟨B5_11,2,none⟩))] ?_
 refine sqst (n:=2) 2 #[vi ((stV s [] 1)),vi ((stV s [1] 1)),vi ((stV s [1,1] 2) - 1),vi ((stV s [2,1,1] 1)), .bool false, .slice none 0 0] hst17 fun W20 hst20=>?_
 refine then_normal (wp_seq (sqr (sqp [.m 23 4] ?_)))
 refine sqkm (vi ((stV s [1,2,1,1] 1))) 1 #[.string s,vi (((stT s [1,1,2,1,1]).1:Int)), .bool ((stT s [1,1,2,1,1]).2)] hst20 (fun cx=>⟨_,(num_st _ s [1,2,1,1] 1 _ ⟨(cx.bi 1 rfl),stT_le s _,by omega⟩ (by omega)).mono (by rintro e W1 ⟨rfl,hrd,hu⟩; exact ⟨rfl,hu,hrd.1⟩),(map2 (cx.ou 23) (cx.co _))⟩) fun W22 hst22=>?_
 refine sqp [.k 25 (.bool ((stV s [1,2,1,1] 1)==1)), .k 26 (.pointer (some ⟨B5_11,4,none⟩))] ?_
 refine sqst (n:=1) 2 #[vi ((stV s [] 1)),vi ((stV s [1] 1)),vi ((stV s [1,1] 2) - 1),vi ((stV s [2,1,1] 1)), .bool ((stV s [1,2,1,1] 1)==1), .slice none 0 0] hst22 fun W25 hst25=>?_
 refine then_normal (wp_seq (sqr (sqp [.m 27 4] ?_)))
 refine sqkm (.string ByteArray.empty) 1 #[.string s,vi (((stT s [1,1,2,1,1]).1:Int)), .bool true] hst25 (fun cx=>⟨_,(text_bad _ s (stT s [1,1,2,1,1]).1 (stT s [1,1,2,1,1]).2 _ ⟨(cx.bi 1 rfl),stT_le s _,by omega⟩ (by rcases st_short hs with h_ | h_<;>simp [h_])).mono (by rintro e W1 ⟨rfl,hrd,hu⟩; exact ⟨rfl,hu,hrd.1⟩),(map1 (cx.ou 27))⟩) fun W27 hst27=>?_
 refine sqp [.m 6 28] ?_
 refine then_normal (wp_seq (wp_seq (sqr (sqp [.m 29 4] ?_))))
 refine sqv (.bool true) hst27 (by
   refine svA fun ρ β W X cx=>?_
   refine DoesU.call (run_callF (args:=#[vp B10_4]) rfl cx.sees rfl (by kernel_rfl) (map1 (cx.ou 29))) ?_
   refine (failed_any _ s (stT s [1,1,2,1,1]).1 true _ ⟨(cx.bi 1 rfl),stT_le s _,by omega⟩).mono ?_
   rintro e W1 ⟨rfl,rfl⟩
   refine ⟨_,rfl,post_call [] rfl rfl (Ext.refl _) (by simp) List.Pairwise.nil (fun σ β' X' hs hb hv hN=>?_)⟩
   have hv1:=(hv 30 rfl).1; have hv2:=(hv 30 rfl).2
   exact hv1.trans rfl) fun W30 hst30=>?_
 refine then_normal (wct rfl (wp_seq (sqr (sqp [.k 31 (.agg #[vi 0,vi 0,vi 0,vi 0, .bool false, .slice none 0 0])] ?_))))
 refine sqst (n:=6) 0 #[vi 0,vi 0,vi 0,vi 0, .bool false, .slice none 0 0] hst30 fun W32 hst32=>?_
 refine sqp [.k 3 (vi 10)] ?_
 refine then_normal (wp_ret (then_ret ?_))
 refine bpr (.tuple #[.agg #[vi 0,vi 0,vi 0,vi 0, .bool false, .slice none 0 0],vi 10]) (results_2 Tryz.results60 (rpa (hst32.blk 0 rfl) 0 6) rpt) ?_
 exact Ret.of rfl hst32.ext
theorem r08read_sh (s:ByteArray) (w:World) (hs:s.size < 8):
  Calls Tryz.prog 139 #[.string s] w (Ret (.agg #[.int .i64 0, .int .i64 0, .int .i64 0, .int .i64 0, .bool false, .slice none 0 0, .int .i64 10]) w):=by
 go_enter Tryz.func139,Tryz.ntmps139
 have hst0:=St.start w
 refine wp_seq (sqr (sqal #[vi 0,vi 0,vi 0,vi 0, .bool false, .slice none 0 0,vi 0] hst0 fun B2_1 W1 hst1=>?_))
 refine then_normal (wp_seq (wp_seq ?_))
 have hd3:(decide ((s.size:Int) < 8))=true:=decide_eq_true (by omega)
 refine wp_region_P [0,1,3,7,15,31,15,79,207,463,975,15,2063,6159,16335,32767,65535] [.k 5 (.string s), .k 6 (vi ((s.size:Int))), .e 7 (.bool (decide ((s.size:Int) < 8))) (.bool true) (congrArg Value.bool hd3), .k 8 (.bool true), .u 9, .u 10, .u 11, .u 12, .u 13, .u 14, .u 15, .u 16, .u 17, .u 18, .u 19, .u 20, .k 21 (.bool true)] [(5,0,17,22)] hst1 fun W2 hst2=>?_
 refine then_normal (wct rfl (wp_seq (sqr (sqp [.k 22 (.agg #[vi 0,vi 0,vi 0,vi 0, .bool false, .slice none 0 0,vi 10])] ?_))))
 refine sqst (n:=7) 0 #[vi 0,vi 0,vi 0,vi 0, .bool false, .slice none 0 0,vi 10] hst2 fun W5 hst5=>?_
 refine then_normal (wp_ret (then_ret ?_))
 refine bpr (.agg #[vi 0,vi 0,vi 0,vi 0, .bool false, .slice none 0 0,vi 10]) (results_cell (n:=7) Tryz.results139 rfl (by kernel_rfl) (by kernel_rfl) (hst5.blk 0 rfl) rfl) ?_
 exact Ret.of rfl hst5.ext
end
section
open Go.RowKit
theorem byte_app {A C:List UInt8} {p:Nat} (hp:A.length=p) (j:Nat):byteI (A++C) (p+j)=byteI C j:=by
 subst hp
 rw [byteI,byteI,List.getD_eq_getElem?_getD,List.getD_eq_getElem?_getD,List.getElem?_append_right (by omega),Nat.add_sub_cancel_left]
theorem byte_left {A C:List UInt8} {j:Nat} (h:j < A.length):byteI (A++C) j=byteI A j:=by
 rw [byteI,byteI,List.getD_eq_getElem?_getD,List.getD_eq_getElem?_getD,List.getElem?_append_left h]
theorem byte_bI (s:ByteArray) (j:Nat):byteI s.data.toList j=(bI s).getD j 0:=by
 rw [byteI,bI,List.getD_eq_getElem?_getD,List.getD_eq_getElem?_getD,List.getElem?_map]
 cases s.data.toList[j]? <;>rfl
theorem sub_at {l A B C:List UInt8} {p q:Nat} (hl:l=A++(B++C)) (hp:A.length=p) (hq:p+B.length=q):(strL l).extract p q=strL B:=by
 rw [strL_ext,hl,← hp,List.drop_left]
 congr 1
 rw [← hq,← hp,Nat.add_sub_cancel_left,List.take_left]
theorem vals_split (rs:List Val) {k:Nat} (h:k < rs.length):valsB rs=valsB (rs.take k)++(UInt8.ofNat (rs.getD k v0).1.toNat::(tailB (rs.getD k v0)++valsB (rs.drop (k+1)))):=by
 rw [← valsB_at h,valsB,← List.flatMap_append,List.take_append_drop]
theorem vals_take (rs:List Val) {k:Nat} (h:k < rs.length):(valsB (rs.take (k+1))).length=(valsB (rs.take k)).length+1+(tailB (rs.getD k v0)).length:=by
 rw [valsB,List.take_add_one,List.getElem?_eq_getElem h,List.flatMap_append,List.length_append,List.getD_eq_getElem?_getD,List.getElem?_eq_getElem h]
 simp [valB,tailB]
 omega
theorem acc_mul (N:Int) {j:Nat} (hj:j < 8):IntKind.i64.wrap (IntKind.i64.wrap (accN N j*256)+(oct8 N).getD j 0)=accN N (j+1):=by
 have h:=u64_bd N
 have e:∀ x c:Int,IntKind.i64.wrap (IntKind.i64.wrap (IntKind.i64.wrap x*256)+c)=IntKind.i64.wrap (x*256+c):=fun x c=>by
  simp only [IntKind.wrap_i64]; omega
 rw [accN,e,accN]
 congr 1
 unfold oct8
 generalize IntKind.u64.wrap N=u at*
 rcases (by omega:j=0∨j=1∨j=2∨j=3∨j=4∨j=5∨j=6∨j=7) with rfl | rfl | rfl | rfl | rfl | rfl | rfl | rfl<;>simp only [List.getD_cons_zero,List.getD_cons_succ,Nat.reduceSub,Nat.reduceAdd,Int.reducePow]<;>omega
def Rd02Post (rs:List Val) (w:World) (e:Ending) (w':World):Prop:=∃ A c,e= .returned (.agg #[.slice A rs.length c, .int .i64 0])∧w'.ownsRow w.heap.size 45 3 (.slice A rs.length c) rs.length (flatR (plainR rs))∧Ext w w'
theorem r02read_any (rs:List Val) (h0:UInt8) (l:List UInt8) (w:World) (hl:l=h0::valsB rs) (hr:rrightF rs=true) (hrN:∀ v∈rs,v.1=1→ -9223372036854775808≤v.2.1∧v.2.1≤9223372036854775807) (hh0:((h0.toNat:Nat):Int)=(rs.length:Int)) (hlm:l.length≤1000):
  Calls Tryz.prog 207 #[.string (strL l)] w (Rd02Post rs w):=by
 have hl6:=rright_len hr
 have hsl:=strL_size l
 have hb00:byteI l 0=(rs.length:Int):=by rw [hl]; exact hh0
 have hl0:l.length=1+(valsB rs).length:=by rw [hl,List.length_cons]; omega
 go_enter Tryz.func207,Tryz.ntmps207
 have hst0:=St.start w
 refine wp_seq (sqr (sqal #[.slice none 0 0,vi 0] hst0 fun B2_1 W1 hst1=>?_))
 refine then_normal (wp_seq (wp_seq (sqr ?_)))
 have hd5:(decide (((strL l).size:Int) < 1))=false:=decide_eq_false (by omega)
 refine sqp [.m 10 0, .k 11 (vi (((strL l).size:Int))), .e 12 (.bool (decide (((strL l).size:Int) < 1))) (.bool false) (congrArg Value.bool hd5)] ?_
 refine then_normal (wcf rfl (wp_skip (then_normal (wp_seq (sqr (sqp [.m 14 0] ?_))))))
 refine sql (.int .u8 ((rs.length:Int))) hst1 (fun cx=>(by refine (run_indexStr (l:=l) (m:=0) rfl (by kernel_rfl) (cx.ou 14) (cx.co _) (by omega) (by omega)).trans ?_; rw [hb00])) ?_
 refine sqp [sW 16 .i64 (rs.length:Int) (rs.length:Int) (IntWalk.i64_in _ (by omega)), .m 3 16] ?_
 refine then_normal (wp_seq (wp_seq (sqr ?_)))
 have hd12:(decide (6 < (rs.length:Int)))=false:=decide_eq_false (by omega)
 refine sqp [.m 17 3, .e 18 (.bool (decide (6 < (rs.length:Int)))) (.bool false) (congrArg Value.bool hd12)] ?_
 refine then_normal (wcf rfl (wp_skip (then_normal (wp_seq (sqr (sqp [.k 4 (vi 1)] ?_))))))
 refine then_normal (wp_seq (sqr ?_))
 refine sqli 45 3 0 [] hst1 (@fun ρ β W X cx=>by simp [go_sem]) fun B20_14 W14 hst14=>?_
 refine sqp [.m 5 20] ?_
 refine then_normal (wp_seq (wp_seq (sqr (sqp [.k 6 (vi 0)] ?_))))
 refine then_normal (wp_block ?_)
 refine wp_loopT (fun t_ mz az W=>∃ k:Nat,∃ p:Nat,∃ RA:Option Addr,∃ RC:Nat,k≤rs.length∧p=1+(valsB (rs.take k)).length∧mz=rs.length - k∧az=⟨(ovr (jv az) [(4,4,0,[vi ((p:Int)), .slice RA k RC,vi ((k:Int))]),(0,7,3,[]),(11,21,86,[])] t_).toArray,[]⟩∧St w [] [eO 45 3 (.slice RA k RC) k (flatR (plainR (rs.take k))),eB B2_1 311 #[.slice none 0 0,vi 0]] W) (rs.length - 0) ?_ ?_
 · -- the loop begins
   exact ⟨0,1,(some ⟨B20_14,0,none⟩),0,by omega,rfl,rfl,(by kernel_rfl),hst14.pk [1,0]⟩
 rintro n17 a17 W17 ⟨k,p,RA,RC,hk,hp,rfl,hj_,hst17⟩
 refine ovz hj_ fun u17_=>?_
 refine wp_seq (wp_seq (sqr (sqp [.m 21 6, .m 22 3, .k 23 (.bool (decide ((k:Int) < (rs.length:Int))))] ?_)))
 refine then_normal (wds (fun hs21 hs21p=>?_) fun hs21 hs21p=>?_)
 ·refine wp_skip (then_normal (wp_seq (wp_block (wp_seq (wp_seq ?_)))))
  obtain ⟨u,hu⟩:∃ z,rs.getD k v0=z:=⟨_,rfl⟩
  have hvu:vrightF u=true:=by rw [← hu]; exact rright_at hr (by omega)
  have hpu:=vright_parts hvu
  have hkn:0≤u.1∧u.1≤2:=by omega
  have huN:u.1=1→ -9223372036854775808≤u.2.1∧u.2.1≤9223372036854775807:=by rw [← hu]; exact hrN _ (by rw [List.getD_eq_getElem?_getD,List.getElem?_eq_getElem (by omega),Option.getD_some]; exact List.getElem_mem _)
  obtain ⟨hd,hhd⟩:∃ z,UInt8.ofNat u.1.toNat=z:=⟨_,rfl⟩
  have hdv:((hd.toNat:Nat):Int)=u.1:=by rw [← hhd]; exact u8_int (by omega)
  obtain ⟨TB,hTB⟩:∃ z,tailB u=z:=⟨_,rfl⟩
  obtain ⟨R,hR⟩:∃ z,valsB (rs.drop (k+1))=z:=⟨_,rfl⟩
  obtain ⟨A,hA⟩:∃ z,h0::valsB (rs.take k)=z:=⟨_,rfl⟩
  have hAl:A.length=p:=by rw [← hA,hp,List.length_cons]; omega
  have hl_:l=A++(hd::(TB++R)):=by rw [hl,vals_split rs (k:=k) (by omega),hu,hhd,hTB,hR,← hA,List.cons_append]
  have hlen:l.length=p+1+TB.length+R.length:=by rw [hl_]; simp only [List.length_append,List.length_cons]; omega
  have hst1:(valsB (rs.take (k+1))).length+1=p+1+TB.length:=by rw [vals_take rs (by omega),hu,hTB]; omega
  have hbt0:byteI l p=u.1:=by rw [hl_]; exact (byte_app hAl 0).trans hdv
  have hbtj:∀ j,j < TB.length→byteI l (p+1+j)=byteI TB j:=fun j hj_=>by rw [hl_,show A++hd::(TB++R)=(A++[hd])++(TB++R) by simp,byte_app (by simp; omega),byte_left hj_]
  clear hhd
  refine sqr ?_
  have hd26:(decide (((strL l).size:Int)≤(p:Int)))=false:=decide_eq_false (by omega)
  refine sqp [.m 26 4, .m 27 0, .k 28 (vi (((strL l).size:Int))), .e 29 (.bool (decide (((strL l).size:Int)≤(p:Int)))) (.bool false) (congrArg Value.bool hd26)] ?_
  refine then_normal (wcf rfl (wp_skip (then_normal (wp_seq (sqr (sqp [.m 31 0, .m 32 4] ?_))))))
  refine sql (.int .u8 u.1) hst17 (fun cx=>(by refine (run_indexStr (l:=l) (m:=p) rfl (by kernel_rfl) (cx.ou 31) (cx.ou 32) (by omega) (by omega)).trans ?_; rw [hbt0])) ?_
  refine sqp [sW 34 .i64 u.1 u.1 (IntWalk.i64_in _ (by omega)), .k 35 (.agg #[vi u.1,vi 0, .string ByteArray.empty])] ?_
  refine sqal #[vi 0,vi 0, .string ByteArray.empty] hst17 fun B7_32 W32 hst32=>?_
  refine sqst (n:=3) 2 #[vi u.1,vi 0, .string ByteArray.empty] hst32 fun W33 hst33=>?_
  refine then_normal (wp_seq (sqr (sqp [.m 36 4,sI 37 ((p:Int)+1) (by omega), .m 4 37] ?_)))
  refine then_normal (wp_seq (wp_seq (sqr (sqp [.k 38 (vp B7_32)] ?_))))
  refine sqld 2 hst33 ?_
  refine then_normal (wp_block (wp_seq (sqr (sqp [.k 42 (.bool (u.1==0)), .m 41 42] ?_))))
  refine then_normal (wbs (fun hs41=>?_) fun hs41=>?_)
  ·have hs41p:=beq_iff_eq.1 hs41
   refine wp_skip (blk_normal (then_normal ?_))
   have hp8:TB.length=0:=by rw [← hTB,tailB,if_neg (by omega),if_neg (by omega)]; rfl
   refine sqr (sqp [.m 103 5] ?_)
   refine sqlb 2 3 hst33 ?_
   refine sqli 45 3 1 [vi u.1,vi 0, .string ByteArray.empty] hst33 (@fun ρ β W X cx=>by have fF104:ρ (.tmp 104)= .agg #[vi u.1,vi 0, .string ByteArray.empty]:=(cx.ou 104); simp [go_sem,fF104]) fun B105_44 W44 hst44=>?_
   refine sqap (k+1) (flatR (plainR (rs.take (k+1)))) 0 hst44 Tryz.infoVal (fun cx=>(At.of_ownN (cx.ri 3 rfl))) (hxs:=plain_snoc (by omega) (by rw [hu]; simp [cellsV,plainV, *])) fun A106_45 c106_45 W45 hst45=>?_
   refine sqp [.m 5 106] ?_
   refine blk_normal (then_normal (sqr (sqp [.m 24 6,sI 25 ((k:Int)+1) (by omega), .m 6 25] ?_)))
   refine then_normal ?_
   refine ⟨rs.length - ((k+1)),by omega,?_⟩
   exact ⟨(k+1),(p+1),A106_45,c106_45,by omega,by omega,rfl,(by kernel_rfl),hst45.pk [0,1]⟩
  have hs41p:=beq_eq_false_iff_ne.1 hs41
  refine wp_seq (sqr (sqp [.k 44 (.bool (u.1==1)), .m 43 44] ?_))
  refine then_normal (wbs (fun hs52=>?_) fun hs52=>?_)
  ·have hs52p:=beq_iff_eq.1 hs52
   refine wp_seq (wp_seq ?_)
   have h8:TB=(putS u.2.1 8).data.toList:=by rw [← hTB,tailB,if_pos (by assumption)]
   have hp8:TB.length=8:=by rw [h8,Array.length_toList]; exact putS_size _ 8 (by omega)
   have hbt8:∀ j,j < 8→byteI l (p+1+j)=(oct8 u.2.1).getD j 0:=fun j hj_=>by rw [hbtj j (by omega),h8,byte_bI,bI_put]
   refine sqr ?_
   have hd58:(decide (((strL l).size:Int) < (p:Int)+9))=false:=decide_eq_false (by omega)
   refine sqp [.m 45 4,sJ 46 (((p:Int)+1)+8) ((p:Int)+9) (by omega) (by omega), .m 47 0, .k 48 (vi (((strL l).size:Int))), .e 49 (.bool (decide (((strL l).size:Int) < (p:Int)+9))) (.bool false) (congrArg Value.bool hd58)] ?_
   refine then_normal (wcf rfl (wp_skip (then_normal (wp_seq (wp_seq (sqr (sqp [.k 8 (vi 0)] ?_)))))))
   refine then_normal (wp_block ?_)
   rw [show eB B7_32 45 #[vi u.1,vi 0, .string ByteArray.empty]=eB B7_32 45 #[vi u.1,vi (accN u.2.1 0), .string ByteArray.empty] from by rw [acc_0]] at hst33
   refine wp_loopT (fun t_ mz az W=>∃ j:Nat,j≤8∧mz=8 - j∧az=⟨(ovr (jv az) [(8,8,0,[vi ((j:Int))]),(42,51,15,[])] t_).toArray,[]⟩∧St w [] [eO 45 3 (.slice RA k RC) k (flatR (plainR (rs.take k))),eB B2_1 311 #[.slice none 0 0,vi 0],eB B7_32 45 #[vi u.1,vi (accN u.2.1 j), .string ByteArray.empty]] W) (8 - 0) ?_ ?_
   · -- the loop begins
     exact ⟨0,by omega,rfl,(by kernel_rfl),hst33.pk [0,1,2]⟩
   rintro n60 a60 W60 ⟨j,hj,rfl,hj_,hst60⟩
   refine ovz hj_ fun u60_=>?_
   refine wp_seq (wp_seq (sqr (sqp [.m 51 8, .k 52 (.bool (decide ((j:Int) < 8)))] ?_)))
   refine then_normal (wds (fun hs63 hs63p=>?_) fun hs63 hs63p=>?_)
   ·refine wp_skip (then_normal (wp_seq (wp_block ?_)))
    have hob:=oct8_bd u.2.1 j
    refine wp_region_Y [0,1,3,0,0,0,48,120,248,511,1023,2047] [[],[2],[],[],[],[],[],[],[],[],[],[2]] [[],[],[],[],[],[],[],[],[],[],[],[3]] [[],[],[],[],[],[],[],[],[],[],[],[2]] [.k 55 (.pointer (some ⟨B7_32,1,none⟩)), .c 56 (vi (accN u.2.1 j)), .k 57 (vi (IntKind.i64.wrap (accN u.2.1 j*256))), .k 58 (.string (strL l)), .k 59 (vi ((p:Int)+1)), .k 60 (vi ((j:Int))),tI 61 (((p:Int)+1)+(j:Int)) (by omega), .c 62 (.int .u8 ((oct8 u.2.1).getD j 0)),tW 63 .i64 ((oct8 u.2.1).getD j 0) ((oct8 u.2.1).getD j 0) (IntWalk.i64_in _ (by omega)),tW 64 .i64 ((IntKind.i64.wrap (accN u.2.1 j*256))+((oct8 u.2.1).getD j 0)) (accN u.2.1 (j+1)) (acc_mul _ (by omega)), .k 65 (.pointer (some ⟨B7_32,1,none⟩)), .n] (fun ix σ β X=>match ix with | 0=>True | 1=>True | 2=>True | 3=>True | 4=>True | 5=>True | 6=>True | 7=>True | 8=>True | 9=>True | 10=>True | 11=>X 3=eB B7_32 45 #[vi u.1,vi (accN u.2.1 (j+1)), .string ByteArray.empty] | _=>True) [0,1,3] [1,7,11] [(55,0,11,66)] hst60 ?_ ?_ ?_
    ·exact fun ix _ _ _ _ _ _ hs hb hx h=>match ix,h with
     | 11,h=>by dsimp only; rw [← hx 3 rfl]; exact h
     | 0, _ | 1, _ | 2, _ | 3, _ | 4, _ | 5, _ | 6, _ | 7, _ | 8, _ | 9, _ | 10, _ | _+12, _=>trivial
    ·refine ⟨?_,?_,?_,trivial⟩
     ·exact xs4 rfl id fun cx=>run_load1 rfl (by kernel_rfl) (cx.an 0) ((cx.bi 2 rfl).cell 1)
     ·exact xs4 rfl id fun cx=>(by refine (run_indexStr (l:=l) (m:=p+1+j) rfl (by kernel_rfl) (cx.an 3) (cx.an 6) (by omega) (by omega)).trans ?_; rw [hbt8 j (by omega)])
     ·refine svA fun ρ β W X cx=>?_
      exact dv_store (n:=1) rfl (cx.an 10) (cx.an 9) (by kernel_rfl) (by kernel_rfl) (by kernel_rfl) cx (cx.init 2 _ rfl) rfl (nle rfl) (by kernel_rfl) rfl rfl rfl (fun σ β' X' hs hb hx=>hx)
    intro σ β X W64 hD hst64 fr hfr
    simp only [exq 3 ((dTn (hD 11 lq)))] at hst64
    clear hD; subst hfr; clear σ β X
    refine blk_normal (then_normal (sqr (sqp [.m 53 8,sI 54 ((j:Int)+1) (by omega), .m 8 54] ?_)))
    refine then_normal ?_
    refine ⟨8 - ((j+1)),by omega,?_⟩
    exact ⟨(j+1),by omega,rfl,(by kernel_rfl),hst64.pk [0,1,2]⟩
   refine wp_exit (then_exit (then_exit (blk_eq (then_normal ?_))))
   obtain rfl:j=8:=by omega
   rw [acc_8 (huN (by assumption))] at hst60
   refine sqr (sqp [.m 66 4,sJ 67 (((p:Int)+1)+8) ((p:Int)+9) (by omega) (by omega), .m 4 67] ?_)
   refine blk_normal (then_normal (sqr (sqp [.m 103 5] ?_)))
   refine sqlb 2 3 hst60 ?_
   refine sqli 45 3 1 [vi u.1,vi u.2.1, .string ByteArray.empty] hst60 (@fun ρ β W X cx=>by have fF104:ρ (.tmp 104)= .agg #[vi u.1,vi u.2.1, .string ByteArray.empty]:=(cx.ou 104); simp [go_sem,fF104]) fun B105_73 W73 hst73=>?_
   refine sqap (k+1) (flatR (plainR (rs.take (k+1)))) 0 hst73 Tryz.infoVal (fun cx=>(At.of_ownN (cx.ri 3 rfl))) (hxs:=plain_snoc (by omega) (by rw [hu]; simp [cellsV,plainV, *])) fun A106_74 c106_74 W74 hst74=>?_
   refine sqp [.m 5 106] ?_
   refine blk_normal (then_normal (sqr (sqp [.m 24 6,sI 25 ((k:Int)+1) (by omega), .m 6 25] ?_)))
   refine then_normal ?_
   refine ⟨rs.length - ((k+1)),by omega,?_⟩
   exact ⟨(k+1),(p+9),A106_74,c106_74,by omega,by omega,rfl,(by kernel_rfl),hst74.pk [0,1]⟩
  have hs52p:=beq_eq_false_iff_ne.1 hs52
  refine wp_seq (sqr (sqp [.k 69 (.bool (u.1==2)), .m 68 69] ?_))
  refine then_normal (wbs (fun hs81=>?_) fun hs81=>?_)
  ·have hs81p:=beq_iff_eq.1 hs81
   refine wp_seq (wp_seq ?_)
   have hs2:u.2.2.size≤40:=hpu.2.2 (by assumption)
   obtain ⟨h2,hh2⟩:∃ z,UInt8.ofNat ((u.2.2.size:Nat):Int).toNat=z:=⟨_,rfl⟩
   have hv2:((h2.toNat:Nat):Int)=(u.2.2.size:Int):=by rw [← hh2]; exact u8_int (by omega)
   have h8:TB=h2::u.2.2.data.toList:=by rw [← hTB,tailB,if_neg (by assumption),if_pos (by assumption),hh2]
   have hp8:TB.length=1+u.2.2.size:=by rw [h8,List.length_cons,Array.length_toList]; show u.2.2.size+1= _; omega
   have hbt1:byteI l (p+1)=(u.2.2.size:Int):=by rw [show p+1=p+1+0 from rfl,hbtj 0 (by omega),h8]; exact hv2
   have hex:(strL l).extract (p+1+1) (p+1+1+u.2.2.size)=u.2.2:=by rw [sub_at (B:=u.2.2.data.toList) (C:=R) (A:=A++[hd,h2]) (p:=p+1+1) (by rw [hl_,h8]; simp) (by simp; omega) (by rw [Array.length_toList]; rfl),strL_data]
   refine sqr ?_
   have hd86:(decide (((strL l).size:Int)≤(p:Int)+1))=false:=decide_eq_false (by omega)
   refine sqp [.m 70 4, .m 71 0, .k 72 (vi (((strL l).size:Int))), .e 73 (.bool (decide (((strL l).size:Int)≤(p:Int)+1))) (.bool false) (congrArg Value.bool hd86)] ?_
   refine then_normal (wcf rfl (wp_skip (then_normal (wp_seq (sqr (sqp [.m 75 0, .m 76 4] ?_))))))
   refine sql (.int .u8 ((u.2.2.size:Int))) hst33 (fun cx=>(by refine (run_indexStr (l:=l) (m:=p+1) rfl (by kernel_rfl) (cx.ou 75) (cx.ou 76) (by omega) (by omega)).trans ?_; rw [hbt1])) ?_
   refine sqp [sW 78 .i64 (u.2.2.size:Int) (u.2.2.size:Int) (IntWalk.i64_in _ (by omega)), .m 9 78] ?_
   refine then_normal (wp_seq (wp_seq (sqr ?_)))
   have hd94:(decide (40 < (u.2.2.size:Int)))=false:=decide_eq_false (by omega)
   refine sqp [.m 79 9, .e 80 (.bool (decide (40 < (u.2.2.size:Int)))) (.bool false) (congrArg Value.bool hd94)] ?_
   refine then_normal (wcf rfl (wp_skip (then_normal (wp_seq (wp_seq (sqr ?_))))))
   have hd102:(decide (((strL l).size:Int) < (p:Int)+2+(u.2.2.size:Int)))=false:=decide_eq_false (by omega)
   refine sqp [.m 82 4,sJ 83 (((p:Int)+1)+1) ((p:Int)+2) (by omega) (by omega), .m 84 9,sI 85 (((p:Int)+2)+(u.2.2.size:Int)) (by omega), .m 86 0, .k 87 (vi (((strL l).size:Int))), .e 88 (.bool (decide (((strL l).size:Int) < (p:Int)+2+(u.2.2.size:Int)))) (.bool false) (congrArg Value.bool hd102)] ?_
   refine then_normal (wcf rfl (wp_skip (then_normal (wp_seq (sqr (sqp [.m 90 0, .m 91 4,sJ 92 (((p:Int)+1)+1) ((p:Int)+2) (by omega) (by omega), .m 93 4,sJ 94 (((p:Int)+1)+1) ((p:Int)+2) (by omega) (by omega), .m 95 9,sI 96 (((p:Int)+2)+(u.2.2.size:Int)) (by omega)] ?_))))))
   refine sql (.string u.2.2) hst33 (fun cx=>(by refine (run_slice_lh (l:=p+1+1) (m:=p+1+1+u.2.2.size) rfl (by kernel_rfl) (cx.ou 90) (cx.ou 92) (cx.ou 96) (by omega) (by omega) (by omega) (by omega)).trans ?_; rw [hex])) ?_
   refine sqp [.k 98 (.pointer (some ⟨B7_32,2,none⟩))] ?_
   refine sqst (n:=1) 2 #[vi u.1,vi 0, .string u.2.2] hst33 fun W112 hst112=>?_
   refine then_normal (sqr (sqp [.m 99 4,sJ 100 (((p:Int)+1)+1) ((p:Int)+2) (by omega) (by omega), .m 101 9,sI 102 (((p:Int)+2)+(u.2.2.size:Int)) (by omega), .m 4 102] ?_))
   refine blk_normal (then_normal (sqr (sqp [.m 103 5] ?_)))
   refine sqlb 2 3 hst112 ?_
   refine sqli 45 3 1 [vi u.1,vi 0, .string u.2.2] hst112 (@fun ρ β W X cx=>by have fF104:ρ (.tmp 104)= .agg #[vi u.1,vi 0, .string u.2.2]:=(cx.ou 104); simp [go_sem,fF104]) fun B105_120 W120 hst120=>?_
   refine sqap (k+1) (flatR (plainR (rs.take (k+1)))) 0 hst120 Tryz.infoVal (fun cx=>(At.of_ownN (cx.ri 3 rfl))) (hxs:=plain_snoc (by omega) (by rw [hu]; simp [cellsV,plainV, *])) fun A106_121 c106_121 W121 hst121=>?_
   refine sqp [.m 5 106] ?_
   refine blk_normal (then_normal (sqr (sqp [.m 24 6,sI 25 ((k:Int)+1) (by omega), .m 6 25] ?_)))
   refine then_normal ?_
   refine ⟨rs.length - ((k+1)),by omega,?_⟩
   exact ⟨(k+1),(p+2+(u.2.2.size)),A106_121,c106_121,by omega,by omega,rfl,(by kernel_rfl),hst121.pk [0,1]⟩
  have hs81p:=beq_eq_false_iff_ne.1 hs81
  exfalso; omega
 refine wp_exit (then_exit (then_exit (blk_eq (then_normal (wp_seq (wp_seq ?_))))))
 have hpl:p=l.length:=by rw [hp,show k=rs.length by omega,List.take_length,hl0]
 refine sqr ?_
 have hd130:((p:Int) != ((strL l).size:Int))=false:=by simp; omega
 refine sqp [.m 107 4, .m 108 0, .k 109 (vi (((strL l).size:Int))), .e 110 (.bool ((p:Int) != ((strL l).size:Int))) (.bool false) (congrArg Value.bool hd130)] ?_
 refine then_normal (wcf rfl (wp_skip (then_normal (wp_seq (sqr (sqp [.m 112 5, .k 113 (.agg #[.slice RA k RC,vi 0])] ?_))))))
 refine sqst (n:=2) 1 #[.slice RA k RC,vi 0] hst17 fun W133 hst133=>?_
 refine then_normal (wp_ret ?_)
 refine bpr (.agg #[.slice RA k RC,vi 0]) (results_cell (n:=2) Tryz.results207 rfl (by kernel_rfl) (by kernel_rfl) (hst133.blk 1 rfl) rfl) ?_
 have hk_:k=rs.length:=by omega
 have ho_:=hst133.own' 0 rfl
 rw [hk_,List.take_length] at ho_
 rw [hk_]
 exact ⟨_, _,rfl,ho_,hst133.ext⟩
end
section
open Go.RowKit
def RdRow2 (rs:List Val) (w:World) (e:Ending) (w':World):Prop:=∃ A c,e= .returned (.agg #[.slice A rs.length c, .int .i64 0])∧w'.ownsRow w.heap.size 45 3 (.slice A rs.length c) rs.length (flatR rs)∧Ext w w'
def VerRd8 (a b n1 n2:Int) (ho:Bool) (rs:List Val) (er:Int) (w:World) (e:Ending) (w':World):Prop:=∃ A c,e= .returned (.agg #[.int .i64 a, .int .i64 b, .int .i64 n1, .int .i64 n2, .bool ho, .slice A rs.length c, .int .i64 er])∧
 w'.ownsRow w.heap.size 45 3 (.slice A rs.length c) rs.length (flatR rs)∧Ext w w'
theorem byteI_bd (l:List UInt8) (j:Nat):0≤byteI l j∧byteI l j < 256:=byte_lt l j
theorem r08read_l (a b n1 n2:Int) (ho:Bool) (rs:List Val) (l lv:List UInt8) (vs:Nat) (x2 x3 x6 x7:Int) (w:World) (h0:byteI l 0=a) (h1:byteI l 1=b) (h2:byteI l 2=x2) (h3:byteI l 3=x3) (h4:byteI l 4=n2) (h5:byteI l 5=hotI ho) (h6:byteI l 6=x6) (h7:byteI l 7=x7) (hn1:256*x2+x3=n1+1) (hvs:256*x6+x7=(vs:Int)) (hlen:l.length=8+vs) (hm:vs≤1000) (hlr:rs.length≤1000) (hex:(strL l).extract 8 (8+vs)=strL lv) (HV:∀ w,Calls Tryz.prog 207 #[.string (strL lv)] w (RdRow2 rs w)) (ht:trightF a b n1 n2 rs=true):
  Calls Tryz.prog 139 #[.string (strL l)] w (VerRd8 a b n1 n2 ho rs 0 w):=by
 have hsl:=strL_size l
 have hpt:=tright_parts ht
 have hhb:=hot_bd ho
 have hx2:0≤x2∧x2 < 256:=by rw [← h2]; exact byteI_bd _ _
 have hx3:0≤x3∧x3 < 256:=by rw [← h3]; exact byteI_bd _ _
 have hx6:0≤x6∧x6 < 256:=by rw [← h6]; exact byteI_bd _ _
 have hx7:0≤x7∧x7 < 256:=by rw [← h7]; exact byteI_bd _ _
 go_enter Tryz.func139,Tryz.ntmps139
 have hst0:=St.start w
 refine wp_seq (sqr (sqal #[vi 0,vi 0,vi 0,vi 0, .bool false, .slice none 0 0,vi 0] hst0 fun B2_1 W1 hst1=>?_))
 refine then_normal (wp_seq (wp_seq ?_))
 have hd3:(decide (((strL l).size:Int) < 8))=false:=decide_eq_false (by omega)
 have hd4:(decide (((strL l).size:Int) < 8+(256*x6)+x7))=false:=decide_eq_false (by omega)
 refine wp_region_Z [0,1,3,7,15,31,15,79,207,463,975,15,2063,6159,16335,32767,65535] [] [.k 5 (.string (strL l)), .k 6 (vi (((strL l).size:Int))), .e 7 (.bool (decide (((strL l).size:Int) < 8))) (.bool false) (congrArg Value.bool hd3), .k 8 (.bool false), .k 9 (.string (strL l)), .k 10 (vi (((strL l).size:Int))), .k 11 (.string (strL l)), .c 12 (.int .u8 x6),tW 13 .i64 x6 x6 (IntWalk.i64_in _ (by omega)),tI 14 (256*x6) (by omega),tI 15 (8+(256*x6)) (by omega), .k 16 (.string (strL l)), .c 17 (.int .u8 x7),tW 18 .i64 x7 x7 (IntWalk.i64_in _ (by omega)),tI 19 ((8+(256*x6))+x7) (by omega), .e 20 (.bool (decide (((strL l).size:Int) < 8+(256*x6)+x7))) (.bool false) (congrArg Value.bool hd4), .k 21 (.bool false)] [0] [7,12] [(5,0,17,22)] hst1 ?_ fun W2 hst2=>?_
 ·refine ⟨?_,?_,trivial⟩
  ·exact xs5 rfl id (fun cx=>(cx.an 3)) fun cx=>(by refine (run_indexStr (l:=l) (m:=6) rfl (by kernel_rfl) (cx.an 6) (cx.co _) (by omega) (by omega)).trans ?_; rw [h6])
  ·exact xs5 rfl id (fun cx=>(cx.an 3)) fun cx=>(by refine (run_indexStr (l:=l) (m:=7) rfl (by kernel_rfl) (cx.an 11) (cx.co _) (by omega) (by omega)).trans ?_; rw [h7])
 refine then_normal (wcf rfl (wp_skip (then_normal (wp_seq (wp_region_Y [0,1,3,0,8,24,0,64,192,448,0,1024,3072,8128,16320,0,32768,98304,262080,0,524288,1572864,4194303,0,16777215] [[],[],[],[],[],[],[],[],[],[],[],[],[],[],[],[],[],[],[],[],[],[],[],[],[1]] [[],[],[],[],[],[],[],[],[],[],[],[],[],[],[],[],[],[],[],[],[],[],[],[1],[2]] [[],[],[],[],[],[],[],[],[],[],[],[],[],[],[],[],[],[],[],[],[],[],[],[],[1]] [.k 23 (.string (strL l)), .c 24 (.int .u8 a),tW 25 .i64 a a (IntWalk.i64_in _ (by omega)), .k 26 (.string (strL l)), .c 27 (.int .u8 b),tW 28 .i64 b b (IntWalk.i64_in _ (by omega)), .k 29 (.string (strL l)), .c 30 (.int .u8 x2),tW 31 .i64 x2 x2 (IntWalk.i64_in _ (by omega)),tI 32 (256*x2) (by omega), .k 33 (.string (strL l)), .c 34 (.int .u8 x3),tW 35 .i64 x3 x3 (IntWalk.i64_in _ (by omega)),tI 36 ((256*x2)+x3) (by omega),tJ 37 ((256*x2+x3) - 1) n1 (by omega) (by omega), .k 38 (.string (strL l)), .c 39 (.int .u8 n2),tW 40 .i64 n2 n2 (IntWalk.i64_in _ (by omega)), .k 41 (.agg #[vi n1,vi n2]), .k 42 (.string (strL l)), .c 43 (.int .u8 (hotI ho)), .c 44 (.bool ho), .k 45 (.agg #[vi a,vi b,vi n1,vi n2, .bool ho, .slice none 0 0]), .a 3, .n] (fun ix σ β X=>match ix with | 0=>True | 1=>True | 2=>True | 3=>True | 4=>True | 5=>True | 6=>True | 7=>True | 8=>True | 9=>True | 10=>True | 11=>True | 12=>True | 13=>True | 14=>True | 15=>True | 16=>True | 17=>True | 18=>True | 19=>True | 20=>True | 21=>True | 22=>True | 23=>σ 3=vp (pb (β 3))∧X 1=eB (pb (β 3)) 41 #[vi 0,vi 0,vi 0,vi 0, .bool false, .slice none 0 0] | 24=>X 2=eB (pb (β 3)) 41 #[vi a,vi b,vi n1,vi n2, .bool ho, .slice none 0 0] | _=>True) [0,2] [1,4,7,11,16,20,21,23,24] [(3,23,1,4),(19,0,23,42)] hst2 ?_ ?_ ?_)))))
 ·exact fun ix _ _ _ _ _ _ hs hb hx h=>match ix,h with
  | 23,h=>by dsimp only; rw [← hs 3 rfl,← hb 3 rfl,← hx 1 rfl]; exact h
  | 24,h=>by dsimp only; rw [← hb 3 rfl,← hx 2 rfl]; exact h
  | 0, _ | 1, _ | 2, _ | 3, _ | 4, _ | 5, _ | 6, _ | 7, _ | 8, _ | 9, _ | 10, _ | 11, _ | 12, _ | 13, _ | 14, _ | 15, _ | 16, _ | 17, _ | 18, _ | 19, _ | 20, _ | 21, _ | 22, _ | _+25, _=>trivial
 ·refine ⟨?_,?_,?_,?_,?_,?_,?_,?_,?_,trivial⟩
  ·exact xs4 rfl id fun cx=>(by refine (run_indexStr (l:=l) (m:=0) rfl (by kernel_rfl) (cx.an 0) (cx.co _) (by omega) (by omega)).trans ?_; rw [h0])
  ·exact xs4 rfl id fun cx=>(by refine (run_indexStr (l:=l) (m:=1) rfl (by kernel_rfl) (cx.an 3) (cx.co _) (by omega) (by omega)).trans ?_; rw [h1])
  ·exact xs4 rfl id fun cx=>(by refine (run_indexStr (l:=l) (m:=2) rfl (by kernel_rfl) (cx.an 6) (cx.co _) (by omega) (by omega)).trans ?_; rw [h2])
  ·exact xs4 rfl id fun cx=>(by refine (run_indexStr (l:=l) (m:=3) rfl (by kernel_rfl) (cx.an 10) (cx.co _) (by omega) (by omega)).trans ?_; rw [h3])
  ·exact xs4 rfl id fun cx=>(by refine (run_indexStr (l:=l) (m:=4) rfl (by kernel_rfl) (cx.an 15) (cx.co _) (by omega) (by omega)).trans ?_; rw [h4])
  ·exact xs4 rfl id fun cx=>(by refine (run_indexStr (l:=l) (m:=5) rfl (by kernel_rfl) (cx.an 19) (cx.co _) (by omega) (by omega)).trans ?_; rw [h5])
  ·exact xs4 rfl id fun cx=>(by refine (run_bin rfl (cx.an 20) (cx.co _) rfl).trans ?_; cases ho<;>rfl)
  ·refine svA fun ρ β W X cx=>?_
   exact dv_alloc (cs:=#[vi 0,vi 0,vi 0,vi 0, .bool false, .slice none 0 0]) rfl (by kernel_rfl) rfl rfl (fun σ β' X' hs hb hv hx=>⟨hv,hx⟩)
  ·refine svA fun ρ β W X cx=>?_
   exact dv_store (n:=6) rfl (dTn (cx.an 23)).1 (cx.an 22) (by kernel_rfl) (by kernel_rfl) (by kernel_rfl) cx (dTn (cx.an 23)).2 rfl (nle rfl) (by kernel_rfl) rfl rfl rfl (fun σ β' X' hs hb hx=>by rw [hb 3]; exact hx)
 intro σ β X W5 hD hst5 fr hfr
 obtain ⟨B3_5,hu_B3_5⟩:∃ z,pb (β 3)=z:=⟨_,rfl⟩
 simp only [exq 2 ((dTn (hD 24 lq))),hu_B3_5] at hst5
 simp only [ed 3 ((dTn (hD 23 lq)).1),hu_B3_5] at hfr
 clear hD hu_B3_5; subst hfr; clear σ β X
 refine then_normal (wp_seq (wp_region_Y [0,0,2,6,14,30,0,64,192,510,1023,2047,0,8191] [[],[],[],[],[],[],[],[],[],[],[],[],[],[3]] [[],[],[],[],[],[],[],[],[],[],[],[2],[3],[4]] [[],[],[],[],[],[],[],[],[],[],[],[],[],[3]] [.k 46 (.string (strL l)), .k 47 (.string (strL l)), .c 48 (.int .u8 x6),tW 49 .i64 x6 x6 (IntWalk.i64_in _ (by omega)),tI 50 (256*x6) (by omega),tI 51 (8+(256*x6)) (by omega), .k 52 (.string (strL l)), .c 53 (.int .u8 x7),tW 54 .i64 x7 x7 (IntWalk.i64_in _ (by omega)),tI 55 ((8+(256*x6))+x7) (by omega), .c 56 (.string (strL lv)), .a 57, .a 4, .n] (fun ix σ β X=>match ix with | 0=>True | 1=>True | 2=>True | 3=>True | 4=>True | 5=>True | 6=>True | 7=>True | 8=>True | 9=>True | 10=>True | 11=>σ 57= .agg #[.slice (sA (tg (β 57) 0)) rs.length (sC (tg (β 57) 0)),vi 0]∧X 2=eO 45 3 (.slice (sA (tg (β 57) 0)) rs.length (sC (tg (β 57) 0))) rs.length (flatR rs) | 12=>σ 4=vp (pb (β 4))∧X 3=eB (pb (β 4)) 311 #[.slice none 0 0,vi 0] | 13=>X 4=eB (pb (β 4)) 311 #[.slice (sA (tg (β 57) 0)) rs.length (sC (tg (β 57) 0)),vi 0] | _=>True) [0,1,2,4] [2,7,10,11,12,13] [(4,12,1,5),(41,0,12,53)] hst5 ?_ ?_ ?_))
 ·exact fun ix _ _ _ _ _ _ hs hb hx h=>match ix,h with
  | 11,h=>by dsimp only; rw [← hs 57 rfl,← hb 57 rfl,← hx 2 rfl]; exact h
  | 12,h=>by dsimp only; rw [← hs 4 rfl,← hb 4 rfl,← hx 3 rfl]; exact h
  | 13,h=>by dsimp only; rw [← hb 4 rfl,← hb 57 rfl,← hx 4 rfl]; exact h
  | 0, _ | 1, _ | 2, _ | 3, _ | 4, _ | 5, _ | 6, _ | 7, _ | 8, _ | 9, _ | 10, _ | _+14, _=>trivial
 ·refine ⟨?_,?_,?_,?_,?_,?_,trivial⟩
  ·exact xs4 rfl id fun cx=>(by refine (run_indexStr (l:=l) (m:=6) rfl (by kernel_rfl) (cx.an 1) (cx.co _) (by omega) (by omega)).trans ?_; rw [h6])
  ·exact xs4 rfl id fun cx=>(by refine (run_indexStr (l:=l) (m:=7) rfl (by kernel_rfl) (cx.an 6) (cx.co _) (by omega) (by omega)).trans ?_; rw [h7])
  ·exact xs4 rfl id fun cx=>(by refine (run_slice_lh (l:=8) (m:=8+vs) rfl (by kernel_rfl) (cx.an 0) (cx.co _) (cx.an 9) (by omega) (by omega) (by omega) (by omega)).trans ?_; rw [hex])
  ·refine svA fun ρ β W X cx=>?_
   refine DoesU.call (run_callF (args:=#[.string (strL lv)]) rfl cx.sees rfl (by kernel_rfl) (map1 (cx.an 10))) ?_
   refine (HV _).mono ?_
   rintro e W1 ⟨A4,c4,rfl,ho,hx⟩
   refine ⟨_,rfl,post_call [eO 45 3 (.slice A4 rs.length c4) rs.length (flatR rs)] rfl rfl hx (one_new (eO_new ho)) (List.pairwise_singleton _ _) (fun σ β' X' hs hb hv hN=>?_)⟩
   have hv1:=(hv 57 rfl).1; have hv2:=(hv 57 rfl).2
   exact ⟨hv1.trans (by rw [hv2]; rfl),(by rw [hv2]; exact (List.cons.inj hN).1)⟩
  ·refine svA fun ρ β W X cx=>?_
   exact dv_alloc (cs:=#[.slice none 0 0,vi 0]) rfl (by kernel_rfl) rfl rfl (fun σ β' X' hs hb hv hx=>⟨hv,hx⟩)
  ·refine svA fun ρ β W X cx=>?_
   exact dv_store (n:=2) rfl (dTn (cx.an 12)).1 (dTn (cx.an 11)).1 (by kernel_rfl) (by kernel_rfl) (by kernel_rfl) cx (dTn (cx.an 12)).2 rfl (nle rfl) (by kernel_rfl) rfl rfl rfl (fun σ β' X' hs hb hx=>by rw [hb 4,hb 57]; exact hx)
 intro σ β X W6 hD hst6 fr hfr
 obtain ⟨A57_6,hu_A57_6⟩:∃ z,sA (tg (β 57) 0)=z:=⟨_,rfl⟩
 obtain ⟨c57_6,hu_c57_6⟩:∃ z,sC (tg (β 57) 0)=z:=⟨_,rfl⟩
 obtain ⟨B4_6,hu_B4_6⟩:∃ z,pb (β 4)=z:=⟨_,rfl⟩
 simp only [exq 2 ((dTn (hD 11 lq)).2),exq 4 ((dTn (hD 13 lq))),hu_A57_6,hu_c57_6,hu_B4_6] at hst6
 simp only [ed 57 ((dTn (hD 11 lq)).1),ed 4 ((dTn (hD 12 lq)).1),hu_A57_6,hu_c57_6,hu_B4_6] at hfr
 clear hD hu_A57_6 hu_c57_6 hu_B4_6; subst hfr; clear σ β X
 refine then_normal (wp_seq (sqr (sqp [.k 58 (vp B4_6)] ?_)))
 refine sqld 3 hst6 ?_
 refine sqp [.k 60 (.pointer (some ⟨B3_5,5,none⟩))] ?_
 refine sqst (n:=1) 1 #[vi a,vi b,vi n1,vi n2, .bool ho, .slice A57_6 rs.length c57_6] hst6 fun W10 hst10=>?_
 refine then_normal (wp_seq (wp_seq ?_))
 have hd12:(decide (1 < hotI ho))=false:=decide_eq_false (by omega)
 have hd13:(((strL l).size:Int) != (8+(256*x6)+x7))=false:=by simp; omega
 have hd14:(trightF a b n1 n2 rs)=true:=ht
 refine wp_region_Z [0,1,3,7,15,31,63,127,255,511,1023,511,2559,6655,14847,31231,511,66047,197119,522751,1048575,2097151,4194303,8388607,16777215,33554431,67108863] [[],[3],[],[],[],[],[],[],[],[],[],[],[],[],[],[],[],[],[],[],[],[],[],[1],[2]] [.k 61 (.pointer (some ⟨B4_6,1,none⟩)), .c 62 (vi 0), .k 63 (.bool false), .k 64 (.bool false), .k 65 (.string (strL l)), .c 66 (.int .u8 (hotI ho)), .e 67 (.bool (decide (1 < hotI ho))) (.bool false) (congrArg Value.bool hd12), .k 68 (.bool false), .k 69 (.bool false), .k 70 (.string (strL l)), .k 71 (vi (((strL l).size:Int))), .k 72 (.string (strL l)), .c 73 (.int .u8 x6),tW 74 .i64 x6 x6 (IntWalk.i64_in _ (by omega)),tI 75 (256*x6) (by omega),tI 76 (8+(256*x6)) (by omega), .k 77 (.string (strL l)), .c 78 (.int .u8 x7),tW 79 .i64 x7 x7 (IntWalk.i64_in _ (by omega)),tI 80 ((8+(256*x6))+x7) (by omega), .e 81 (.bool (((strL l).size:Int) != (8+(256*x6)+x7))) (.bool false) (congrArg Value.bool hd13), .k 82 (.bool false), .k 83 (.bool false), .c 84 (.agg #[vi a,vi b,vi n1,vi n2, .bool ho, .slice A57_6 rs.length c57_6]), .c 85 (.bool true), .k 86 (.bool false), .k 87 (.bool false)] [0,1,2,3] [1,5,12,17,23,24] [(61,0,27,88)] hst10 ?_ fun W11 hst11=>?_
 ·refine ⟨?_,?_,?_,?_,?_,?_,trivial⟩
  ·exact xs4 rfl id fun cx=>run_load1 rfl (by kernel_rfl) (cx.an 0) ((cx.bi 3 rfl).cell 1)
  ·exact xs5 rfl id (fun cx=>(cx.an 3)) fun cx=>(by refine (run_indexStr (l:=l) (m:=5) rfl (by kernel_rfl) (cx.an 4) (cx.co _) (by omega) (by omega)).trans ?_; rw [h5])
  ·exact xs5 rfl id (fun cx=>(cx.an 8)) fun cx=>(by refine (run_indexStr (l:=l) (m:=6) rfl (by kernel_rfl) (cx.an 11) (cx.co _) (by omega) (by omega)).trans ?_; rw [h6])
  ·exact xs5 rfl id (fun cx=>(cx.an 8)) fun cx=>(by refine (run_indexStr (l:=l) (m:=7) rfl (by kernel_rfl) (cx.an 16) (cx.co _) (by omega) (by omega)).trans ?_; rw [h7])
  ·exact xs5 rfl id (fun cx=>(cx.an 22)) fun cx=>run_loadB (n:=6) rfl (by kernel_rfl) (by kernel_rfl) (cx.ou 3) (cx.bi 1 rfl) (nle rfl) rfl
  ·exact sv_call_on rfl rfl rfl rfl rfl rfl (fun _ _ _ h=>h.trans (congrArg Value.bool hd14)) (fun _ _ _ _ cx=>(cx.an 22)) fun ρ β W X cx=>⟨_, _,run_callF (args:=#[.agg #[vi a,vi b,vi n1,vi n2, .bool ho, .slice A57_6 rs.length c57_6]]) rfl cx.sees rfl (by kernel_rfl) (map1 (cx.an 23)),r08right_any a b n1 n2 ho _ _ rs _ (At.of_ownN (cx.ri 2 rfl)) (by omega)⟩
 refine then_normal (wcf rfl (wp_skip (then_normal (wp_seq (sqr ?_)))))
 refine sqlb 1 6 hst11 ?_
 refine sqp [.k 90 (.agg #[vi a,vi b,vi n1,vi n2, .bool ho, .slice A57_6 rs.length c57_6,vi 0])] ?_
 refine sqst (n:=7) 0 #[vi a,vi b,vi n1,vi n2, .bool ho, .slice A57_6 rs.length c57_6,vi 0] hst11 fun W17 hst17=>?_
 refine then_normal (wp_ret ?_)
 refine bpr (.agg #[vi a,vi b,vi n1,vi n2, .bool ho, .slice A57_6 rs.length c57_6,vi 0]) (results_cell (n:=7) Tryz.results139 rfl (by kernel_rfl) (by kernel_rfl) (hst17.blk 0 rfl) rfl) ?_
 exact ⟨_, _,rfl,hst17.own' 2 rfl,hst17.ext⟩
end
section
open Go.RowKit
abbrev VerD:=Int×Int×Int×Int×Bool×List Val
def okD (v:VerD):Prop:=trightF v.1 v.2.1 v.2.2.1 v.2.2.2.1 v.2.2.2.2.2=true∧NsOk v.2.2.2.2.2∧plainR v.2.2.2.2.2=v.2.2.2.2.2
def txD (v:VerD):ByteArray:=tbytesF v.1 v.2.1 v.2.2.1 v.2.2.2.1 v.2.2.2.2.1 v.2.2.2.2.2
def zD:VerD:=(0,0,0,0,false,[])
def Desc (s:ByteArray):Option VerD→Prop
 | none=>s.size < 8
 | some v=>okD v∧s=txD v
/-- what Read says of it -/
def vD (o:Option VerD):VerD:=o.getD zD
def eD (o:Option VerD):Int:=if o.isSome then 0 else 10
theorem num1_byte {s:ByteArray} {p:Nat} (h:p < s.size):(numS s p 1:Int)=byteI (bl s) p:=by
 have e:(s.extract p (p+1)).data.toList=((bl s).drop p).take (p+1 - p):=bl_extract s p (p+1)
 rw [numS,e,byteI]
 have hl:p < (bl s).length:=by rw [bl_len]; exact h
 rw [List.drop_eq_getElem_cons hl,show p+1 - p=1 by omega,List.take_succ_cons,List.take_zero,List.getD_eq_getElem?_getD,List.getElem?_eq_getElem hl]
 simp [numL]
theorem num2_byte {s:ByteArray} {p:Nat} (h:p+1 < s.size):(numS s p 2:Int)=256*byteI (bl s) p+byteI (bl s) (p+1):=by
 have e:(s.extract p (p+2)).data.toList=((bl s).drop p).take (p+2 - p):=bl_extract s p (p+2)
 rw [numS,e,byteI,byteI]
 have hl:p < (bl s).length:=by rw [bl_len]; omega
 have hl2:p+1 < (bl s).length:=by rw [bl_len]; omega
 rw [List.drop_eq_getElem_cons hl,List.drop_eq_getElem_cons hl2,show p+2 - p=2 by omega,List.take_succ_cons,List.take_succ_cons,List.take_zero,List.getD_eq_getElem?_getD,List.getElem?_eq_getElem hl,List.getD_eq_getElem?_getD,List.getElem?_eq_getElem hl2]
 simp [numL]
 omega
section
variable {a b n1 n2:Int} {ho:Bool} {rs:List Val}
theorem r08read_of (w:World) (h:trightF a b n1 n2 rs=true) (hrN:NsOk rs):Calls Tryz.prog 139 #[.string (tbytesF a b n1 n2 ho rs)] w (VerRd8 a b n1 n2 ho (plainR rs) 0 w):=by
 have hsz:=tb_size (ho:=ho) h
 have hr:=(tright_parts h).2.2.2.2.2.2.2.2
 have hl6:=rright_len hr
 have hv:=vbytes_size rs
 have e:tbytesF a b n1 n2 ho rs=strL (bl (tbytesF a b n1 n2 ho rs)):=strL_bl _
 have h0:=num1_byte (s:=tbytesF a b n1 n2 ho rs) (p:=0) (by omega)
 have h1:=num1_byte (s:=tbytesF a b n1 n2 ho rs) (p:=1) (by omega)
 have h2:=num2_byte (s:=tbytesF a b n1 n2 ho rs) (p:=2) (by omega)
 have h4:=num1_byte (s:=tbytesF a b n1 n2 ho rs) (p:=4) (by omega)
 have h5:=num1_byte (s:=tbytesF a b n1 n2 ho rs) (p:=5) (by omega)
 have h6:=num2_byte (s:=tbytesF a b n1 n2 ho rs) (p:=6) (by omega)
 rw [tb_0 h] at h0
 rw [tb_1 h] at h1
 rw [tb_2 h] at h2
 rw [tb_4 h] at h4
 rw [tb_5 h] at h5
 rw [tb_6 h] at h6
 have hx:=tb_t (ho:=ho) h
 rw [textS,tb_6 h] at hx
 have hve:=vbytes_eq hr
 have HV:∀ w,Calls Tryz.prog 207 #[.string (strL (UInt8.ofNat ((rs.length:Nat):Int).toNat::valsB rs))] w (RdRow2 (plainR rs) w):=fun w=>by
  have hll:(UInt8.ofNat ((rs.length:Nat):Int).toNat::valsB rs).length=(vbytesF rs).size:=by rw [hve,strL_size]
  refine (r02read_any rs _ _ w rfl hr hrN (u8_int (by omega)) (by rw [hll]; omega)).mono ?_
  rintro e w' ⟨A,c,he,ho',hx⟩
  have hlen:(plainR rs).length=rs.length:=by simp [plainR]
  exact ⟨A,c,by rw [hlen]; exact he,by rw [hlen]; exact ho',hx⟩
 rw [e]
 exact r08read_l a b n1 n2 ho (plainR rs) _ _ (vbytesF rs).size _ _ _ _ w h0.symm h1.symm rfl rfl h4.symm h5.symm rfl rfl h2.symm h6.symm (by rw [bl_len,hsz]) (by omega) (by simp only [plainR,List.length_map]; omega) (by rw [← e,hx,hve]) HV (by rw [plain_tright]; exact h)
end
theorem Desc.le {s:ByteArray} {o:Option VerD} (h:Desc s o):s.size≤309:=by
 cases o with
 | none=>have:s.size < 8:=h; omega
 | some v=>
   have:=vbytes_size v.2.2.2.2.2
   rw [h.2,txD,tb_size h.1.1]; omega
theorem Desc.bd {s:ByteArray} {o:Option VerD} (h:Desc s o):0≤(vD o).1∧(vD o).1 < 128∧0≤(vD o).2.1∧(vD o).2.1 < 128∧ -1≤(vD o).2.2.1∧(vD o).2.2.1 < 400∧0≤(vD o).2.2.2.1∧(vD o).2.2.2.1 < 24∧(vD o).2.2.2.2.2.length≤6:=by
 cases o with
 | none=>exact ⟨by decide,by decide,by decide,by decide,by decide,by decide,by decide,by decide,by decide⟩
 | some v=>
   have hp:=tright_parts h.1.1
   exact ⟨hp.1,hp.2.1,hp.2.2.1,hp.2.2.2.1,hp.2.2.2.2.1,hp.2.2.2.2.2.1,hp.2.2.2.2.2.2.1,hp.2.2.2.2.2.2.2.1,rright_len hp.2.2.2.2.2.2.2.2⟩
theorem tread_desc {s:ByteArray} {o:Option VerD} (w:World) (h:Desc s o) (hN:NoneAt w):
  Calls Tryz.prog 60 #[.string s] w (VerRd (vD o).1 (vD o).2.1 (vD o).2.2.1 (vD o).2.2.2.1 (vD o).2.2.2.2.1 (vD o).2.2.2.2.2 (eD o) w):=by
 cases o with
 | none=>exact (tread_sh s w h).mono fun e w' ⟨he,hx⟩=>⟨none,0,he,⟨by simp [vD,zD,flatR], .inl ⟨rfl,rfl⟩⟩,hx⟩
 | some v=>
   obtain ⟨⟨h1,h2,h3⟩,rfl⟩:=h
   have:=tread_of (ho:=v.2.2.2.2.1) w h1 h2 hN
   rw [h3] at this
   exact this
theorem r08read_desc {s:ByteArray} {o:Option VerD} (w:World) (h:Desc s o):
  Calls Tryz.prog 139 #[.string s] w (VerRd8 (vD o).1 (vD o).2.1 (vD o).2.2.1 (vD o).2.2.2.1 (vD o).2.2.2.2.1 (vD o).2.2.2.2.2 (eD o) w):=by
 cases o with
 | none=>exact (r08read_sh s w h).mono fun e w' ⟨he,hx⟩=>⟨none,0,he,⟨by simp [vD,zD,flatR], .inl ⟨rfl,rfl⟩⟩,hx⟩
 | some v=>
   obtain ⟨⟨h1,h2,h3⟩,rfl⟩:=h
   have:=r08read_of (ho:=v.2.2.2.2.1) w h1 h2
   rw [h3] at this
   exact this
end
section
open Go.RowKit
abbrev Itm:=ByteArray×Option VerD
/-- a page as it lies in a row of pages -/
structure PgD where
 k:Int
 l:Int
 A:Option Addr
 c:Nat
 its:List Itm
def p0:PgD:=⟨0,0,none,0,[]⟩
def strs (its:List Itm):List Value:=its.map fun i=> .string i.1
theorem strs_len (its:List Itm):(strs its).length=its.length:=by simp [strs]
theorem strs_one (its:List Itm):∀ u∈strs its,Value.oneCell' u=true:=by
 intro u hu
 obtain ⟨i, _,rfl⟩:=List.mem_map.1 hu
 rfl
def pgC (p:PgD):List Value:=[.int .i64 p.k, .int .i64 p.l, .slice p.A p.its.length p.c]
theorem pgC_len (p:PgD):(pgC p).length=3:=rfl
structure PgsAt (w:World) (A:Option Addr) (Ps:List PgD):Prop where
 at_:At w A (Ps.flatMap pgC)
 len:Ps.length≤1000
 its:∀ p∈Ps,At w p.A (strs p.its)∧p.its.length≤24∧p.its.length≤p.c∧∀ i∈p.its,Desc i.1 i.2
theorem PgsAt.ext {w W:World} {A:Option Addr} {Ps:List PgD} (h:PgsAt w A Ps) (hx:Ext w W):PgsAt W A Ps:=
 ⟨h.at_.ext hx,h.len,fun p hp=>⟨(h.its p hp).1.ext hx,(h.its p hp).2⟩⟩
/-- what Page answers: kind, LSN, items, whether there is such a page -/
structure PV where
 k:Int
 l:Int
 its:List Itm
 ok:Bool
def pvF (Ps:List PgD) (n:Int):PV:=if 0≤n∧n < Ps.length then ⟨(Ps.getD n.toNat p0).k,(Ps.getD n.toNat p0).l,(Ps.getD n.toNat p0).its,true⟩ else ⟨0,0,[],false⟩
def PV.wf (v:PV):Prop:=v.its.length≤24∧∀ i∈v.its,Desc i.1 i.2
theorem PgsAt.get {w:World} {A:Option Addr} {Ps:List PgD} (h:PgsAt w A Ps) {n:Nat} (hn:n < Ps.length):At w (Ps.getD n p0).A (strs (Ps.getD n p0).its)∧(Ps.getD n p0).its.length≤24∧(Ps.getD n p0).its.length≤(Ps.getD n p0).c∧∀ i∈(Ps.getD n p0).its,Desc i.1 i.2:=by
 refine h.its _ ?_
 rw [List.getD_eq_getElem?_getD,List.getElem?_eq_getElem hn,Option.getD_some]
 exact List.getElem_mem _
theorem PgsAt.wf {w:World} {A:Option Addr} {Ps:List PgD} (h:PgsAt w A Ps) (n:Int):(pvF Ps n).wf:=by
 rw [pvF]
 split
 ·have:=h.get (n:=n.toNat) (by omega)
  exact ⟨this.2.1,this.2.2.2⟩
 ·exact ⟨by simp,fun i hi=>by cases hi⟩
def PagePost (v:PV) (w:World) (e:Ending) (w':World):Prop:=∃ A c,e= .returned (.tuple #[.agg #[.int .i64 v.k, .int .i64 v.l, .slice A v.its.length c], .bool v.ok])∧
 w'.ownsRow w.heap.size 9 1 (.slice A v.its.length c) v.its.length (strs v.its)∧Ext w w'
/-- the interface value .iface tt tv has these pages -/
structure PgsOk (w:World) (tt:TypeId) (tv:Value) (pv:Int→PV):Prop where
 ex:∃ f rv,Meth Tryz.prog tt tv "Page" f rv∧callP Tryz.prog f=true∧∀ W x,Ext w W→Calls Tryz.prog f #[rv, .int .i64 x] W (PagePost (pv x) W)
 wf:∀ n,(pv n).wf
theorem PgsOk.ext {w W:World} {tt:TypeId} {tv:Value} {pv:Int→PV} (h:PgsOk w tt tv pv) (hx:Ext w W):PgsOk W tt tv pv:=by
 obtain ⟨f,rv,h1,h2,h3⟩:=h.ex
 exact ⟨⟨f,rv,h1,h2,fun W' x hx'=>h3 W' x (hx.trans hx')⟩,h.wf⟩
theorem rpage_any (PA:Option Addr) (pc:Nat) (Ps:List PgD) (n:Int) (w:World) (hP:PgsAt w PA Ps):
  Calls Tryz.prog 124 #[.agg #[.slice PA Ps.length pc], .int .i64 n] w (PagePost (pvF Ps n) w):=by
 have hPl:=hP.len
 go_enter Tryz.func124,Tryz.ntmps124
 have hst0:=St.start w
 refine wp_seq (sqr ?_)
 refine sqbx #[.slice PA Ps.length pc] hst0 fun B2_1 W1 hst1=>?_
 refine sqal #[vi 0,vi 0, .slice none 0 0] hst1 fun B4_2 W2 hst2=>?_
 refine sqp [.k 5 (.bool false)] ?_
 refine then_normal (wp_seq (wp_seq (sqr (sqp [.m 7 1, .k 8 (.bool (decide (n < 0))), .m 9 8] ?_))))
 refine sqw' 9 [10,11,12,13,14] ?_ rfl (fun hq=>?_) ?_
 rotate_left
 ·refine sqp [.m 10 1, .k 11 (vp B2_1)] ?_
  refine sqld 0 hst2 ?_
  refine sqp [.k 13 (vi ((Ps.length:Int))), .k 14 (.bool (decide ((Ps.length:Int)≤n)))] ?_
  exact sqe
 refine sqwx ?_
 refine sqp [sPo 15 (decide (n < 0)) (decide ((Ps.length:Int)≤n))] ?_
 refine then_normal (wbs (fun hs13=>?_) fun hs13=>?_)
 ·have hs13p:=hs13
  simp only [zB] at hs13p
  refine wp_seq (sqr (sqp [.k 16 (.agg #[vi 0,vi 0, .slice none 0 0])] ?_))
  refine sqst (n:=3) 1 #[vi 0,vi 0, .slice none 0 0] hst2 fun W15 hst15=>?_
  refine sqp [.k 5 (.bool false)] ?_
  refine then_normal (wp_ret (then_ret ?_))
  refine bpr (.tuple #[.agg #[vi 0,vi 0, .slice none 0 0], .bool false]) (results_2 Tryz.results124 (rpa (hst15.blk 1 rfl) 0 3) rpt) ?_
  have hpv:pvF Ps n=⟨0,0,[],false⟩:=by rw [pvF,if_neg (by omega)]
  rw [hpv]
  exact ⟨none,0,rfl,World.ownsRow_nil _ _ _ _,hst15.ext⟩
 have hs13p:=hs13
 simp only [zB] at hs13p
 obtain ⟨hs13p1,hs13p2⟩:=hs13p
 refine wp_skip (then_normal (wp_seq ?_))
 obtain ⟨N,rfl⟩:∃ N:Nat,n=(N:Int):=⟨n.toNat,by omega⟩
 have hG:=hP.get (n:=N) (by omega)
 refine sqr (sqp [.k 17 (vp B2_1)] ?_)
 refine sqld 0 hst2 ?_
 refine sqp [.m 19 1] ?_
 refine sql (.pointer (some ((ad PA).add (N*3)))) hst2 (fun cx=>run_indexSlM (e:=64) (m:=N) (sz:=3) rfl (by kernel_rfl) (by kernel_rfl) (cx.ou 18) (cx.ou 19) (by omega) (by omega) (hP.at_.ext cx.upd.to_ext) (flatPos (sz:=3) pgC_len (by decide) (by omega))) ?_
 refine sql (.agg #[vi ((Ps.getD N p0).k),vi ((Ps.getD N p0).l), .slice ((Ps.getD N p0).A) ((Ps.getD N p0).its.length) ((Ps.getD N p0).c)]) hst2 (fun cx=>run_loadElt (f:=pgC) (m:=N) (sz:=3) (off:=0) (n:=3) rfl (by kernel_rfl) (by kernel_rfl) (cx.ou 20) rfl pgC_len (hP.at_.ext cx.upd.to_ext) (getD_some (ts:=Ps) (m:=N) p0 (by omega)) (fun k hk=>match k,hk with | 0, _=>rfl | 1, _=>rfl | 2, _=>rfl | k+3,hk=>absurd hk (by omega))) ?_
 refine sqal #[vi 0,vi 0, .slice none 0 0] hst2 fun B6_22 W22 hst22=>?_
 refine sqst (n:=3) 2 #[vi ((Ps.getD N p0).k),vi ((Ps.getD N p0).l), .slice ((Ps.getD N p0).A) ((Ps.getD N p0).its.length) ((Ps.getD N p0).c)] hst22 fun W23 hst23=>?_
 refine then_normal (wp_seq (sqr ?_))
 refine sqn1 (fun x_=>sA x_) (fun A22_24=> .slice A22_24 0 0) (fun A22_24=>eO 9 1 (.slice A22_24 0 0) 0 ([])) hst23 (by
   refine svA fun ρ β W X cx=>?_
   exact dv_lit (e:=9) (xs:=[]) rfl (by simp [go_sem]) rfl (by decide) rfl rfl (fun σ β' X' hs hb hv hx=>⟨hv,hx⟩)) fun A22_24 W24 hst24=>?_
 refine sqp [.k 23 (.pointer (some ⟨B6_22,2,none⟩))] ?_
 refine sqld 2 hst24 ?_
 refine sqc2 (fun x_=>sA x_) (fun x_=>sC x_) (fun A25_27 c25_27=> .slice A25_27 ((Ps.getD N p0).its.length) c25_27) (fun A25_27 c25_27=>eO 9 1 (.slice A25_27 ((Ps.getD N p0).its.length) c25_27) ((Ps.getD N p0).its.length) (strs (Ps.getD N p0).its)) 3 hst24 (by
   refine svA fun ρ β W X cx=>?_
   obtain ⟨i0,hi0,hz0,hz1,hz2⟩:=info_parts Tryz.infoStr
   refine dv_append (n:=0) (m:=(Ps.getD N p0).its.length) (nm:=(Ps.getD N p0).its.length) (xs:=[]) (news:=strs (Ps.getD N p0).its) (xs':=strs (Ps.getD N p0).its) rfl (ty:=62) rfl (by kernel_rfl) hi0 hz0 hz1 hz2 rfl (cx.ou 22) cx (cx.init 3 _ rfl) rfl (cx.ou 24) (strs_len _) (hG.1.ext cx.upd.to_ext) (strs_one _) (by simp only [maxLen]; omega) (by omega) rfl rfl rfl (by omega) (rfl) (fun σ β' X' hs hb hv hx=>?_)
   exact ⟨hv,hx⟩) fun A25_27 c25_27 W27 hst27=>?_
 refine sqp [.k 26 (.pointer (some ⟨B6_22,2,none⟩))] ?_
 refine sqst (n:=1) 2 #[vi ((Ps.getD N p0).k),vi ((Ps.getD N p0).l), .slice A25_27 ((Ps.getD N p0).its.length) c25_27] hst27 fun W29 hst29=>?_
 refine then_normal (wp_seq (sqr ?_))
 refine sqlb 2 3 hst29 ?_
 refine sqst (n:=3) 1 #[vi ((Ps.getD N p0).k),vi ((Ps.getD N p0).l), .slice A25_27 ((Ps.getD N p0).its.length) c25_27] hst29 fun W31 hst31=>?_
 refine sqp [.k 5 (.bool true)] ?_
 refine then_normal (wp_ret ?_)
 refine bpr (.tuple #[.agg #[vi ((Ps.getD N p0).k),vi ((Ps.getD N p0).l), .slice A25_27 ((Ps.getD N p0).its.length) c25_27], .bool true]) (results_2 Tryz.results124 (rpa (hst31.blk 1 rfl) 0 3) rpt) ?_
 have ho_:=hst31.own' 3 rfl
 have hpv:pvF Ps (N:Int)=⟨(Ps.getD N p0).k,(Ps.getD N p0).l,(Ps.getD N p0).its,true⟩:=by rw [pvF,if_pos (by omega)]; rfl
 rw [hpv]
 exact ⟨_, _,rfl,ho_,hst31.ext⟩
theorem rpages_ok (PA:Option Addr) (pc:Nat) (Ps:List PgD) (w:World) (h:PgsAt w PA Ps):PgsOk w 30 (.agg #[.slice PA Ps.length pc]) (pvF Ps):=
 ⟨⟨124, _,fun W=>by kernel_rfl,by kernel_rfl,fun W x hx=>rpage_any PA pc Ps x W (h.ext hx)⟩,h.wf⟩
end
section
open Go.RowKit
theorem rosize_any (n:Int) (w:World):Calls Tryz.prog 193 #[.int .i64 n] w fun e w'=>e= .returned (.int .i64 (sizeF n))∧w=w':=by
 go_enter Tryz.func193,Tryz.ntmps193
 go_wp2
 all_goals
  go_ret
  exact ⟨ret_int (by unfold sizeF; omega),rfl⟩
theorem rtake_ok (B:Nat) (s:ByteArray) (p n:Nat) (w:World) (h:Rd 260 w B s p false) (hn:p+n≤s.size):
  Calls Tryz.prog 219 #[.pointer (some ⟨B,0,none⟩), .int .i64 n] w (RdPost 260 (.string (s.extract p (p+n))) B s (p+n) false w):=by
 obtain ⟨hb,hp,hs⟩:=h
 have HB:=Lib.hid hb
 have c0:w.cell? ⟨B,0,none⟩=some (.string s):=hb.cell 0
 have c1:w.cell? ⟨B,1,none⟩=some (.int .i64 p):=hb.cell 1
 have c2:w.cell? ⟨B,2,none⟩=some (.bool false):=hb.cell 2
 have f1:=hb.frozen 1
 have hd1:decide ((n:Int) < 0)=false:=by simp
 have hd2:decide ((s.size:Int) - (p:Int) < (n:Int))=false:=by simp; omega
 have e1:(0:Int)≤(p:Int)+(n:Int):=by omega
 have e2:(p:Int)+(n:Int)≤(s.size:Int):=by omega
 have e3:(p:Int)≤(p:Int)+(n:Int):=by omega
 clear hb
 go_enter Tryz.func219,Tryz.ntmps219
 go_wp2_with fail
 go_quiet (fail)
 go_wp2_with fail
 go_quiet (fail)
 go_wp2
 go_ret
 refine ⟨rfl,⟨?_,hn,hs⟩,?_⟩
 ·rw [show ((p+n:Nat):Int)=(p:Int)+(n:Int) by omega]
  exact ((HB.out.drewN _).set_ 1 _).drewN _
 ·exact (((Upd.refl _ _).drewN _).set (.inl (by simp)) _).drewN _
theorem rnum_ok (B:Nat) (s:ByteArray) (p k:Nat) (w:World) (h:Rd 260 w B s p false) (hk:k≤4) (hn:p+k≤s.size):
  Calls Tryz.prog 154 #[.pointer (some ⟨B,0,none⟩), .int .i64 k] w (RdPost 260 (.int .i64 (numS s p k)) B s (p+k) false w):=by
 have H:=Lib.hid h; clear h
 have hsk:=Lib.hid (show sizeF k=k by unfold sizeF; omega)
 go_enter Tryz.func154,Tryz.ntmps154
 go_wp2_with fail
 refine (rosize_any _ _).mono ?_
 rw [hsk.out]
 rintro e w1 ⟨rfl,rfl⟩
 go_wp2_with fail
 refine (rtake_ok _ _ _ _ _ H.out hn).mono ?_
 rintro e w1 ⟨rfl,hr,hu⟩
 obtain ⟨t,ht⟩:∃ t,t=s.extract p (p+k):=⟨_,rfl⟩
 rw [← ht]
 have htk:t.size=k:=by rw [ht,ByteArray.size_extract]; have:=H.out.2.1; omega
 have HT:=Lib.hid (show numS s p k=numL t.data.toList by rw [numS,← ht])
 have hb4:=numL_lt t.data.toList
 have hts:(t.size:Int)≤4:=by omega
 have h4:256 ^ t.data.toList.length≤4294967296:=by
  have e:t.data.toList.length=t.size:=by simp
  rw [e]
  exact Nat.le_trans (Nat.pow_le_pow_right (by omega) (show t.size≤4 by omega)) (by decide)
 have HR:=Lib.hid hr
 have HU:=Lib.hid hu
 have hfin:((numL t.data.toList:Nat):Int)≤4294967296:=by omega
 clear hr hu ht htk hb4 h4
 go_wp2
 go_loop [6,7] (fun x v=>∃ j:Nat,v= .int .i64 j∧j≤t.size∧x= .int .u64 (numL (t.data.toList.take j))) (fun _ v=>t.size - (intOf v).toNat)
 case atStart=>exact ⟨0,rfl,Nat.zero_le _,rfl⟩
 case round=>
  obtain ⟨j,rfl,hj,rfl⟩:=hrel
  rcases Nat.lt_or_ge j t.size with hlt | hge
  ·have hb:=numL_lt (t.data.toList.take j)
   have hlen:(t.data.toList.take j).length=j:=by simp; omega
   have h256:256 ^ (t.data.toList.take j).length≤16777216:=by
    rw [hlen]
    exact Nat.le_trans (Nat.pow_le_pow_right (by omega) (show j≤3 by omega)) (by decide)
   have hsn:t.data.toList.take (j+1)=t.data.toList.take j++[t[j]]:=by rw [List.take_succ_eq_append_getElem (by simpa using hlt)]; rfl
   have HN:=Lib.hid (show numL (t.data.toList.take (j+1))=numL (t.data.toList.take j)*256+t[j].toNat by rw [hsn,numL_snoc])
   obtain ⟨a,ha⟩:∃ a,a=numL (t.data.toList.take j):=⟨_,rfl⟩
   rw [← ha] at hb HN ⊢
   have hc8:t[j].toNat < 256:=UInt8.toNat_lt _
   have ha1:(a:Int)≤16777216:=by omega
   have i1:(0:Int)≤(j:Int):=by omega
   have i2:(j:Int) < (t.size:Int):=by omega
   clear hsn hlen h256 hb ha
   go_wp2
   go_round
   case rel=>exact ⟨j+1,by go_num,by omega,by rw [HN.out]; go_num⟩
   case measure=>simp [intOf]; omega
  ·obtain rfl:j=t.size:=by omega
   have e:t.data.toList.take t.size=t.data.toList:=List.take_of_length_le (by simp)
   rw [e]
   obtain ⟨a,ha⟩:∃ a,a=numL t.data.toList:=⟨_,rfl⟩
   rw [← ha] at HT hfin ⊢
   clear e ha
   go_wp2
   go_ret
   exact ⟨by rw [HT.out]; rfl,HR.out,HU.out⟩
end
section
open Go.RowKit
def it0:Itm:=(ByteArray.empty,none)
theorem getD_strs {its:List Itm} {m:Nat} (h:m < its.length):(strs its)[m]? =some (.string (its.getD m it0).1):=by
 rw [strs,List.getElem?_map,List.getElem?_eq_getElem h,List.getD_eq_getElem?_getD,List.getElem?_eq_getElem h]; rfl
def hdF (v:PV):Bool:=!((((!(v.ok))||((v.k) != 1))||((v.its.length:Int)==0))||((((v.its.getD 0 it0).1).size:Int) != 2))
def ofF (v:PV):Int:=if hdF v then (numS (v.its.getD 0 it0).1 0 2:Int) else 0
def tbF (v:PV):Int:=if hdF v then (numS (v.its.getD 0 it0).1 0 2:Int) else -1
theorem of_any (tt:TypeId) (tv:Value) (pv:Int→PV) (n:Int) (w:World) (hS:PgsOk w tt tv pv):
  Calls Tryz.prog 59 #[.iface tt (tv), .int .i64 n] w (Ret (.tuple #[.int .i64 (ofF (pv n)), .bool (hdF (pv n))]) w):=by
 obtain ⟨f0,rv,hM,hC,hG⟩:=hS.ex
 have hwl:=(hS.wf n).1
 go_enter Tryz.func59,Tryz.ntmps59
 have hst0:=St.start w
 refine wp_seq (sqr (sqp [.k 4 (vi 0), .k 5 (.bool false)] ?_))
 refine then_normal (wp_seq (sqr (sqp [.m 8 0, .m 9 1] ?_)))
 refine sqn2 (fun x_=>sA (tg (tg x_ 0) 2)) (fun x_=>sC (tg (tg x_ 0) 2)) (fun A10_5 c10_5=> .tuple #[.agg #[vi ((pv n).k),vi ((pv n).l), .slice A10_5 ((pv n).its.length) c10_5], .bool ((pv n).ok)]) (fun A10_5 c10_5=>eO 9 1 (.slice A10_5 ((pv n).its.length) c10_5) ((pv n).its.length) (strs (pv n).its)) hst0 (by
   refine svA fun ρ β W X cx=>?_
   refine DoesU.call (run_invoke (args:=#[vi n]) (args':=#[rv,vi n]) rfl rfl (cx.ou 8) hM hC (map1 (cx.ou 9)) rfl) ?_
   refine (hG _ n cx.upd.to_ext).mono ?_
   rintro e W1 ⟨A4,c4,rfl,ho,hx⟩
   refine ⟨_,rfl,post_call [eO 9 1 (.slice A4 (pv n).its.length c4) (pv n).its.length (strs (pv n).its)] rfl rfl hx (one_new (eO_new ho)) (List.pairwise_singleton _ _) (fun σ β' X' hs hb hv hN=>?_)⟩
   have hv1:=(hv 10 rfl).1; have hv2:=(hv 10 rfl).2
   exact ⟨hv1.trans (by rw [hv2]; rfl),(by rw [hv2]; exact (List.cons.inj hN).1)⟩) fun A10_5 c10_5 W5 hst5=>?_
 refine sqp [.m 7 10, .k 11 (.agg #[vi ((pv n).k),vi ((pv n).l), .slice A10_5 ((pv n).its.length) c10_5]), .k 12 (.bool ((pv n).ok))] ?_
 refine sqal #[vi 0,vi 0, .slice none 0 0] hst5 fun B6_9 W9 hst9=>?_
 refine sqst (n:=3) 1 #[vi ((pv n).k),vi ((pv n).l), .slice A10_5 ((pv n).its.length) c10_5] hst9 fun W10 hst10=>?_
 refine sqp [.m 5 12] ?_
 refine then_normal (wp_seq (wp_seq (sqr (sqp [.m 13 5, .k 14 (.bool (!((pv n).ok))), .m 15 14] ?_))))
 refine sqw' 15 [16,17,18] ?_ rfl (fun hq=>?_) ?_
 rotate_left
 ·refine sqp [.k 16 (vp B6_9)] ?_
  refine sqld 1 hst10 ?_
  refine sqp [.k 18 (.bool (((pv n).k) != 1))] ?_
  exact sqe
 refine sqwx ?_
 refine sqp [sPo 19 (!((pv n).ok)) (((pv n).k) != 1), .m 20 19] ?_
 refine sqw' 20 [21,22,23,24] ?_ rfl (fun hq=>?_) ?_
 rotate_left
 ·refine sqp [.k 21 (.pointer (some ⟨B6_9,2,none⟩))] ?_
  refine sqld 1 hst10 ?_
  refine sqp [.k 23 (vi (((pv n).its.length:Int))), .k 24 (.bool (((pv n).its.length:Int)==0))] ?_
  exact sqe
 refine sqwx ?_
 refine sqp [sPo 25 ((!((pv n).ok))||(((pv n).k) != 1)) (((pv n).its.length:Int)==0), .m 26 25] ?_
 refine sqw' 26 [27,28,29,30,31,32] ?_ rfl (fun hq=>?_) ?_
 rotate_left
 ·have hq_:=hq
  try simp only [zB] at hq_
  refine sqp [.k 27 (.pointer (some ⟨B6_9,2,none⟩))] ?_
  refine sqld 1 hst10 ?_
  refine sql (.pointer (some ((ad A10_5).add 0))) hst10 (fun cx=>run_indexSl (e:=9) (m:=0) rfl (by kernel_rfl) (by kernel_rfl) (cx.ou 28) (cx.co _) (by omega) (by omega) (At.of_own (cx.ri 0 rfl)) (strs_len _)) ?_
  refine sql (.string (((pv n).its.getD 0 it0).1)) hst10 (fun cx=>run_load1 rfl (by kernel_rfl) (cx.ou 29) (At.cellAd (At.of_own (cx.ri 0 rfl)) (getD_strs (by omega)))) ?_
  refine sqp [.k 31 (vi (((((pv n).its.getD 0 it0).1).size:Int))), .k 32 (.bool (((((pv n).its.getD 0 it0).1).size:Int) != 2))] ?_
  exact sqe
 refine sqwx ?_
 refine sqp [sPo 33 (((!((pv n).ok))||(((pv n).k) != 1))||(((pv n).its.length:Int)==0)) (((((pv n).its.getD 0 it0).1).size:Int) != 2)] ?_
 refine then_normal (wbs (fun hs33=>?_) fun hs33=>?_)
 ·have hs33p:=hs33
  simp only [zB] at hs33p
  refine wp_seq (sqr (sqp [.k 4 (vi 0), .k 5 (.bool false)] ?_))
  refine then_normal (wp_ret (then_ret ?_))
  refine bpr (.tuple #[vi 0, .bool false]) (results_2 Tryz.results59 rpt rpt) ?_
  exact Ret.of (by rw [ofF,hdF,hs33]; rfl) hst10.ext
 have hs33p:=hs33
 simp only [zB] at hs33p
 obtain ⟨⟨⟨hs33p1,hs33p2⟩,hs33p3⟩,hs33p4⟩:=hs33p
 refine wp_skip (then_normal (wp_seq (sqr (sqp [.k 34 (.pointer (some ⟨B6_9,2,none⟩))] ?_))))
 refine sqld 1 hst10 ?_
 refine sql (.pointer (some ((ad A10_5).add 0))) hst10 (fun cx=>run_indexSl (e:=9) (m:=0) rfl (by kernel_rfl) (by kernel_rfl) (cx.ou 35) (cx.co _) (by omega) (by omega) (At.of_own (cx.ri 0 rfl)) (strs_len _)) ?_
 refine sql (.string (((pv n).its.getD 0 it0).1)) hst10 (fun cx=>run_load1 rfl (by kernel_rfl) (cx.ou 36) (At.cellAd (At.of_own (cx.ri 0 rfl)) (getD_strs (by omega)))) ?_
 refine sqk1 (fun B38_40=>vp B38_40) (fun B38_40=>eB B38_40 304 #[.string (((pv n).its.getD 0 it0).1),vi 0, .bool false]) hst10 (fun cx=>⟨_,(oread_b (((pv n).its.getD 0 it0).1) _).mono (by rintro e W1 ⟨B4,rfl,⟨hb4,hw4⟩,hx⟩; exact ⟨_,rfl,St.one hx ⟨hb4,eB_loc _ _ _,fun k hk=>by simp [eB] at hk; subst hk; exact ⟨hw4,hb4.lt⟩⟩⟩),(map1 (cx.ou 37))⟩) fun B38_40 W40 hst40=>?_
 refine sqkm (vi ((numS (((pv n).its.getD 0 it0).1) 0 2:Int))) 2 #[.string (((pv n).its.getD 0 it0).1),vi 2, .bool false] hst40 (fun cx=>⟨_,(num_ok _ (((pv n).its.getD 0 it0).1) 0 2 _ ⟨(cx.bi 2 rfl),by omega,by omega⟩ (by omega) (by omega)).mono (by rintro e W1 ⟨rfl,hrd,hu⟩; exact ⟨rfl,hu,hrd.1⟩),(map2 (cx.ou 38) (cx.co _))⟩) fun W41 hst41=>?_
 refine sqp [.m 4 39, .k 5 (.bool true)] ?_
 refine then_normal (wp_ret ?_)
 refine bpr (.tuple #[vi ((numS (((pv n).its.getD 0 it0).1) 0 2:Int)), .bool true]) (results_2 Tryz.results59 rpt rpt) ?_
 exact Ret.of (by rw [ofF,hdF,hs33]; rfl) hst41.ext
theorem rtable_any (PA:Option Addr) (pc:Nat) (Ps:List PgD) (n:Int) (w:World) (hP:PgsAt w PA Ps):
  Calls Tryz.prog 92 #[.agg #[.slice PA Ps.length pc], .int .i64 n] w (Ret (.int .i64 (tbF (pvF Ps n))) w):=by
 have hwl:=(hP.wf n).1
 go_enter Tryz.func92,Tryz.ntmps92
 have hst0:=St.start w
 refine wp_seq (sqr ?_)
 refine sqbx #[.slice PA Ps.length pc] hst0 fun B2_1 W1 hst1=>?_
 refine sqp [.k 4 (vi 0)] ?_
 refine then_normal (wp_seq (sqr ?_))
 refine sqlb 0 1 hst1 ?_
 refine sqp [.m 10 1] ?_
 refine sqk2 (fun A11_5 c11_5=> .tuple #[.agg #[vi ((pvF Ps n).k),vi ((pvF Ps n).l), .slice A11_5 ((pvF Ps n).its.length) c11_5], .bool ((pvF Ps n).ok)]) (fun A11_5 c11_5=>eO 9 1 (.slice A11_5 ((pvF Ps n).its.length) c11_5) ((pvF Ps n).its.length) (strs (pvF Ps n).its)) hst1 (fun cx=>⟨_,(rpage_any _ _ Ps n _ (hP.ext cx.upd.to_ext)).mono (by rintro e W1 ⟨A4,c4,rfl,ho,hx⟩; exact ⟨_, _,rfl,St.one hx (eO_new ho)⟩),(map2 (cx.ou 9) (cx.ou 10))⟩) fun A11_5 c11_5 W5 hst5=>?_
 refine sqp [.m 8 11, .k 12 (.agg #[vi ((pvF Ps n).k),vi ((pvF Ps n).l), .slice A11_5 ((pvF Ps n).its.length) c11_5]), .k 13 (.bool ((pvF Ps n).ok))] ?_
 refine sqal #[vi 0,vi 0, .slice none 0 0] hst5 fun B5_9 W9 hst9=>?_
 refine sqst (n:=3) 2 #[vi ((pvF Ps n).k),vi ((pvF Ps n).l), .slice A11_5 ((pvF Ps n).its.length) c11_5] hst9 fun W10 hst10=>?_
 refine sqp [.m 6 13] ?_
 refine then_normal (wp_seq (wp_seq (sqr (sqp [.m 14 6, .k 15 (.bool (!((pvF Ps n).ok))), .m 16 15] ?_))))
 refine sqw' 16 [17,18,19] ?_ rfl (fun hq=>?_) ?_
 rotate_left
 ·refine sqp [.k 17 (vp B5_9)] ?_
  refine sqld 2 hst10 ?_
  refine sqp [.k 19 (.bool (((pvF Ps n).k) != 1))] ?_
  exact sqe
 refine sqwx ?_
 refine sqp [sPo 20 (!((pvF Ps n).ok)) (((pvF Ps n).k) != 1), .m 21 20] ?_
 refine sqw' 21 [22,23,24,25] ?_ rfl (fun hq=>?_) ?_
 rotate_left
 ·refine sqp [.k 22 (.pointer (some ⟨B5_9,2,none⟩))] ?_
  refine sqld 2 hst10 ?_
  refine sqp [.k 24 (vi (((pvF Ps n).its.length:Int))), .k 25 (.bool (((pvF Ps n).its.length:Int)==0))] ?_
  exact sqe
 refine sqwx ?_
 refine sqp [sPo 26 ((!((pvF Ps n).ok))||(((pvF Ps n).k) != 1)) (((pvF Ps n).its.length:Int)==0), .m 27 26] ?_
 refine sqw' 27 [28,29,30,31,32,33] ?_ rfl (fun hq=>?_) ?_
 rotate_left
 ·have hq_:=hq
  try simp only [zB] at hq_
  refine sqp [.k 28 (.pointer (some ⟨B5_9,2,none⟩))] ?_
  refine sqld 2 hst10 ?_
  refine sql (.pointer (some ((ad A11_5).add 0))) hst10 (fun cx=>run_indexSl (e:=9) (m:=0) rfl (by kernel_rfl) (by kernel_rfl) (cx.ou 29) (cx.co _) (by omega) (by omega) (At.of_own (cx.ri 1 rfl)) (strs_len _)) ?_
  refine sql (.string (((pvF Ps n).its.getD 0 it0).1)) hst10 (fun cx=>run_load1 rfl (by kernel_rfl) (cx.ou 30) (At.cellAd (At.of_own (cx.ri 1 rfl)) (getD_strs (by omega)))) ?_
  refine sqp [.k 32 (vi (((((pvF Ps n).its.getD 0 it0).1).size:Int))), .k 33 (.bool (((((pvF Ps n).its.getD 0 it0).1).size:Int) != 2))] ?_
  exact sqe
 refine sqwx ?_
 refine sqp [sPo 34 (((!((pvF Ps n).ok))||(((pvF Ps n).k) != 1))||(((pvF Ps n).its.length:Int)==0)) (((((pvF Ps n).its.getD 0 it0).1).size:Int) != 2)] ?_
 refine then_normal (wbs (fun hs33=>?_) fun hs33=>?_)
 ·have hs33p:=hs33
  simp only [zB] at hs33p
  refine wp_seq (sqr (sqp [.k 4 (vi (-1))] ?_))
  refine then_normal (wp_ret (then_ret ?_))
  refine bpr (vi (-1)) (results_1 Tryz.results92 rpt) ?_
  exact Ret.of (by rw [tbF,hdF,hs33]; rfl) hst10.ext
 have hs33p:=hs33
 simp only [zB] at hs33p
 obtain ⟨⟨⟨hs33p1,hs33p2⟩,hs33p3⟩,hs33p4⟩:=hs33p
 refine wp_skip (then_normal (wp_seq (sqr (sqp [.k 35 (.pointer (some ⟨B5_9,2,none⟩))] ?_))))
 refine sqld 2 hst10 ?_
 refine sql (.pointer (some ((ad A11_5).add 0))) hst10 (fun cx=>run_indexSl (e:=9) (m:=0) rfl (by kernel_rfl) (by kernel_rfl) (cx.ou 36) (cx.co _) (by omega) (by omega) (At.of_own (cx.ri 1 rfl)) (strs_len _)) ?_
 refine sql (.string (((pvF Ps n).its.getD 0 it0).1)) hst10 (fun cx=>run_load1 rfl (by kernel_rfl) (cx.ou 37) (At.cellAd (At.of_own (cx.ri 1 rfl)) (getD_strs (by omega)))) ?_
 refine sqp [.k 39 (.agg #[.string (((pvF Ps n).its.getD 0 it0).1),vi 0, .bool false])] ?_
 refine sqbx #[.string (((pvF Ps n).its.getD 0 it0).1),vi 0, .bool false] hst10 fun B40_40 W40 hst40=>?_
 refine sqp [.m 7 40] ?_
 refine then_normal (wp_seq (sqr (sqp [.m 41 7] ?_)))
 refine sqkm (vi ((numS (((pvF Ps n).its.getD 0 it0).1) 0 2:Int))) 3 #[.string (((pvF Ps n).its.getD 0 it0).1),vi 2, .bool false] hst40 (fun cx=>⟨_,(rnum_ok _ (((pvF Ps n).its.getD 0 it0).1) 0 2 _ ⟨(cx.bi 3 rfl),by omega,by omega⟩ (by omega) (by omega)).mono (by rintro e W1 ⟨rfl,hrd,hu⟩; exact ⟨rfl,hu,hrd.1⟩),(map2 (cx.ou 41) (cx.co _))⟩) fun W43 hst43=>?_
 refine sqp [.m 4 42] ?_
 refine then_normal (wp_ret ?_)
 refine bpr (vi ((numS (((pvF Ps n).its.getD 0 it0).1) 0 2:Int))) (results_1 Tryz.results92 rpt) ?_
 exact Ret.of (by rw [tbF,hdF,hs33]; rfl) hst43.ext
end
section
open Go.RowKit
def atF (v:PV) (j:Int):Option VerD:=if 0≤tbF v∧1≤j∧j < v.its.length then (v.its.getD j.toNat it0).2 else none
theorem eD_some (o:Option VerD):(eD o==0)=o.isSome:=by cases o<;>rfl
def VerAt (o:Option VerD) (w:World) (e:Ending) (w':World):Prop:=∃ A c,e= .returned (.tuple #[.agg #[.int .i64 (vD o).1, .int .i64 (vD o).2.1, .int .i64 (vD o).2.2.1, .int .i64 (vD o).2.2.2.1, .bool (vD o).2.2.2.2.1, .slice A (vD o).2.2.2.2.2.length c], .bool o.isSome])∧
 w'.ownsRow w.heap.size 45 3 (.slice A (vD o).2.2.2.2.2.length c) (vD o).2.2.2.2.2.length (flatR (vD o).2.2.2.2.2)∧Ext w w'
theorem PV.desc {v:PV} (h:v.wf) {j:Nat} (hj:j < v.its.length):Desc (v.its.getD j it0).1 (v.its.getD j it0).2:=by
 refine h.2 _ ?_
 rw [List.getD_eq_getElem?_getD,List.getElem?_eq_getElem hj,Option.getD_some]
 exact List.getElem_mem _
/-- the versions in the first k slots -/
def fndF (its:List Itm) (k:Nat):List (Nat×VerD):=(List.range k).filterMap fun j=>if 0 < j then (its.getD j it0).2.map (fun v=>(j,v)) else none
theorem fnd_yes {its:List Itm} {j:Nat} (h:0 < j) (h2:(its.getD j it0).2.isSome=true):fndF its (j+1)=fndF its j++[(j,vD (its.getD j it0).2)]:=by
 obtain ⟨v,hv⟩:=Option.isSome_iff_exists.1 h2
 rw [fndF,List.range_succ,List.filterMap_append,fndF,hv]
 congr 1
 simp only [List.filterMap_cons,List.filterMap_nil]
 rw [if_pos h,hv]; rfl
theorem fnd_no {its:List Itm} {j:Nat} (h:¬ (0 < j∧(its.getD j it0).2.isSome=true)):fndF its (j+1)=fndF its j:=by
 rw [fndF,List.range_succ,List.filterMap_append,← fndF]
 have e:(if 0 < j then (its.getD j it0).2.map (fun v=>(j,v)) else none)=none:=by
  by_cases h1:0 < j
  ·rw [if_pos h1]
   cases h2:(its.getD j it0).2 with
   | none=>rfl
   | some v=>exact absurd ⟨h1,by rw [h2]; rfl⟩ h
  ·rw [if_neg h1]
 simp only [List.filterMap_cons,List.filterMap_nil,e,List.append_nil]
theorem fnd_ge (its:List Itm) (d:Nat):fndF its (its.length+d)=fndF its its.length:=by
 induction d with
 | zero=>rfl
 | succ d ih=>
   rw [← Nat.add_assoc,fnd_no,ih]
   rintro ⟨_,h⟩
   rw [List.getD_eq_getElem?_getD,List.getElem?_eq_none (by omega)] at h
   exact absurd h (by decide)
def allF' (v:PV):List (Nat×VerD):=if hdF v then fndF v.its v.its.length else []
abbrev FK:=(Nat×VerD)×Option Addr×Nat
def fk0:FK:=((0,zD),none,0)
def cellsF (n:Int) (k:FK):List Value:=[.int .i64 n, .int .i64 (k.1.1:Int), .int .i64 k.1.2.1, .int .i64 k.1.2.2.1, .int .i64 k.1.2.2.2.1, .int .i64 k.1.2.2.2.2.1, .bool k.1.2.2.2.2.2.1, .slice k.2.1 k.1.2.2.2.2.2.2.length k.2.2]
theorem cellsF_len (n:Int) (k:FK):(cellsF n k).length=8:=rfl
theorem found_snoc (n:Int) (ks:List FK) (k:FK):ks.flatMap (cellsF n)++cellsF n k=(ks++[k]).flatMap (cellsF n):=by simp
def AllPost (t:TypeId) (v:PV) (n:Int) (w:World) (e:Ending) (w':World):Prop:=∃ A c,∃ ks:List FK,ks.map Prod.fst=allF' v∧e= .returned (.slice A (allF' v).length c)∧w'.ownsRow w.heap.size t 8 (.slice A (allF' v).length c) (allF' v).length (ks.flatMap (cellsF n))∧Ext w w'
theorem Tryz.infoFnd:(Tryz.prog.info? 43).map (fun i=>(i.zero,i.size,i.bytes))=some (some (.agg #[.int .i64 0, .int .i64 0, .int .i64 0, .int .i64 0, .int .i64 0, .int .i64 0, .bool false, .slice none 0 0]),8,80):=by kernel_rfl
theorem Tryz.infoRFnd:(Tryz.prog.info? 147).map (fun i=>(i.zero,i.size,i.bytes))=some (some (.agg #[.int .i64 0, .int .i64 0, .int .i64 0, .int .i64 0, .int .i64 0, .int .i64 0, .bool false, .slice none 0 0]),8,80):=by kernel_rfl
theorem ks_len {ks:List FK} {l:List (Nat×VerD)} (h:ks.map Prod.fst=l):ks.length=l.length:=by rw [← h,List.length_map]
theorem ks_snoc {ks:List FK} {its:List Itm} {j:Nat} (h:ks.map Prod.fst=fndF its j) (h0:0 < j) (h2:(its.getD j it0).2.isSome=true) (A:Option Addr) (c:Nat):(ks++[((j,vD (its.getD j it0).2),A,c)]).map Prod.fst=fndF its (j+1):=by
 rw [fnd_yes h0 h2,List.map_append,h]; rfl
theorem ks_keep {ks:List FK} {its:List Itm} {j:Nat} (h:ks.map Prod.fst=fndF its j) (h2:¬ (0 < j∧(its.getD j it0).2.isSome=true)):ks.map Prod.fst=fndF its (j+1):=by rw [fnd_no h2,h]
theorem fnd_le (its:List Itm) (k:Nat):(fndF its k).length≤k:=by
 have:=List.length_filterMap_le (fun j=>if 0 < j then (its.getD j it0).2.map (fun v=>(j,v)) else none) (List.range k)
 rw [List.length_range] at this
 exact this
theorem rat_any (PA:Option Addr) (pc:Nat) (Ps:List PgD) (n j:Int) (w:World) (hP:PgsAt w PA Ps):
  Calls Tryz.prog 69 #[.agg #[.slice PA Ps.length pc], .agg #[.int .i64 n, .int .i64 j]] w (VerAt (atF (pvF Ps n) j) w):=by
 have hwf:=hP.wf n
 have hwl:=hwf.1
 go_enter Tryz.func69,Tryz.ntmps69
 have hst0:=St.start w
 refine wp_seq (sqr ?_)
 refine sqbx #[.slice PA Ps.length pc] hst0 fun B2_1 W1 hst1=>?_
 refine sqbx #[vi n,vi j] hst1 fun B3_2 W2 hst2=>?_
 refine sqal #[vi 0,vi 0,vi 0,vi 0, .bool false, .slice none 0 0] hst2 fun B4_3 W3 hst3=>?_
 refine sqp [.k 5 (.bool false)] ?_
 refine then_normal (wp_seq (wp_seq (sqr ?_)))
 refine sqlb 0 1 hst3 ?_
 refine sqp [.k 10 (vp B3_2)] ?_
 refine sqld 1 hst3 ?_
 refine sqk (vi ((tbF (pvF Ps n)))) hst3 (fun cx=>⟨_,rtable_any _ _ Ps n _ (hP.ext cx.upd.to_ext),(map2 (cx.ou 9) (cx.ou 11))⟩) fun W8 hst8=>?_
 refine sqp [.k 13 (.bool (decide ((tbF (pvF Ps n)) < 0))), .m 14 13] ?_
 refine sqw' 14 [15,16,17] ?_ rfl (fun hq=>?_) ?_
 rotate_left
 ·refine sqp [.k 15 (.pointer (some ⟨B3_2,1,none⟩))] ?_
  refine sqld 1 hst8 ?_
  refine sqp [.k 17 (.bool (decide (j < 1)))] ?_
  exact sqe
 refine sqwx ?_
 refine sqp [sPo 18 (decide ((tbF (pvF Ps n)) < 0)) (decide (j < 1))] ?_
 refine then_normal (wbs (fun hs15=>?_) fun hs15=>?_)
 ·have hs15p:=hs15
  simp only [zB] at hs15p
  refine wp_seq (sqr (sqp [.k 19 (.agg #[vi 0,vi 0,vi 0,vi 0, .bool false, .slice none 0 0])] ?_))
  refine sqst (n:=6) 2 #[vi 0,vi 0,vi 0,vi 0, .bool false, .slice none 0 0] hst8 fun W17 hst17=>?_
  refine sqp [.k 5 (.bool false)] ?_
  refine then_normal (wp_ret (then_ret ?_))
  refine bpr (.tuple #[.agg #[vi 0,vi 0,vi 0,vi 0, .bool false, .slice none 0 0], .bool false]) (results_2 Tryz.results69 (rpa (hst17.blk 2 rfl) 0 6) rpt) ?_
  have hat:atF (pvF Ps n) j=none:=by rw [atF,if_neg (by omega)]
  rw [hat]
  exact ⟨none,0,rfl,World.ownsRow_nil _ _ _ _,hst17.ext⟩
 have hs15p:=hs15
 simp only [zB] at hs15p
 obtain ⟨hs15p1,hs15p2⟩:=hs15p
 refine wp_skip (then_normal (wp_seq (sqr ?_)))
 refine sqlb 0 1 hst8 ?_
 refine sqp [.k 22 (vp B3_2)] ?_
 refine sqld 1 hst8 ?_
 refine sqk2 (fun A24_22 c24_22=> .tuple #[.agg #[vi ((pvF Ps n).k),vi ((pvF Ps n).l), .slice A24_22 ((pvF Ps n).its.length) c24_22], .bool ((pvF Ps n).ok)]) (fun A24_22 c24_22=>eO 9 1 (.slice A24_22 ((pvF Ps n).its.length) c24_22) ((pvF Ps n).its.length) (strs (pvF Ps n).its)) hst8 (fun cx=>⟨_,(rpage_any _ _ Ps n _ (hP.ext cx.upd.to_ext)).mono (by rintro e W1 ⟨A4,c4,rfl,ho,hx⟩; exact ⟨_, _,rfl,St.one hx (eO_new ho)⟩),(map2 (cx.ou 21) (cx.ou 23))⟩) fun A24_22 c24_22 W22 hst22=>?_
 refine sqp [.m 20 24, .k 25 (.agg #[vi ((pvF Ps n).k),vi ((pvF Ps n).l), .slice A24_22 ((pvF Ps n).its.length) c24_22]), .k 26 (.bool ((pvF Ps n).ok))] ?_
 refine sqal #[vi 0,vi 0, .slice none 0 0] hst22 fun B6_26 W26 hst26=>?_
 refine sqst (n:=3) 4 #[vi ((pvF Ps n).k),vi ((pvF Ps n).l), .slice A24_22 ((pvF Ps n).its.length) c24_22] hst26 fun W27 hst27=>?_
 refine sqp [.m 7 26] ?_
 refine then_normal (wp_seq (wp_seq (sqr (sqp [.k 27 (.pointer (some ⟨B3_2,1,none⟩))] ?_))))
 refine sqld 1 hst27 ?_
 refine sqp [.k 29 (.pointer (some ⟨B6_26,2,none⟩))] ?_
 refine sqld 4 hst27 ?_
 refine sqp [.k 31 (vi (((pvF Ps n).its.length:Int))), .k 32 (.bool (decide (((pvF Ps n).its.length:Int)≤j)))] ?_
 refine then_normal (wds (fun hs35 hs35p=>?_) fun hs35 hs35p=>?_)
 ·refine wp_seq (sqr (sqp [.k 33 (.agg #[vi 0,vi 0,vi 0,vi 0, .bool false, .slice none 0 0])] ?_))
  refine sqst (n:=6) 2 #[vi 0,vi 0,vi 0,vi 0, .bool false, .slice none 0 0] hst27 fun W37 hst37=>?_
  refine sqp [.k 5 (.bool false)] ?_
  refine then_normal (wp_ret (then_ret ?_))
  refine bpr (.tuple #[.agg #[vi 0,vi 0,vi 0,vi 0, .bool false, .slice none 0 0], .bool false]) (results_2 Tryz.results69 (rpa (hst37.blk 2 rfl) 0 6) rpt) ?_
  have hat:atF (pvF Ps n) j=none:=by rw [atF,if_neg (by omega)]
  rw [hat]
  exact ⟨none,0,rfl,World.ownsRow_nil _ _ _ _,hst37.ext⟩
 refine wp_skip (then_normal (wp_seq ?_))
 obtain ⟨J,rfl⟩:∃ J:Nat,j=(J:Int):=⟨j.toNat,by omega⟩
 have hdj:=PV.desc hwf (j:=J) (by omega)
 refine sqr (sqp [.k 34 (.pointer (some ⟨B6_26,2,none⟩))] ?_)
 refine sqld 4 hst27 ?_
 refine sqp [.k 36 (.pointer (some ⟨B3_2,1,none⟩))] ?_
 refine sqld 1 hst27 ?_
 refine sql (.pointer (some ((ad A24_22).add J))) hst27 (fun cx=>run_indexSl (e:=9) (m:=J) rfl (by kernel_rfl) (by kernel_rfl) (cx.ou 35) (cx.ou 37) (by omega) (by omega) (At.of_own (cx.ri 3 rfl)) (strs_len _)) ?_
 refine sql (.string (((pvF Ps n).its.getD J it0).1)) hst27 (fun cx=>run_load1 rfl (by kernel_rfl) (cx.ou 38) (At.cellAd (At.of_own (cx.ri 3 rfl)) (getD_strs (by omega)))) ?_
 refine sqk2 (fun A40_45 c40_45=> .agg #[vi ((vD ((pvF Ps n).its.getD J it0).2).1),vi ((vD ((pvF Ps n).its.getD J it0).2).2.1),vi ((vD ((pvF Ps n).its.getD J it0).2).2.2.1),vi ((vD ((pvF Ps n).its.getD J it0).2).2.2.2.1), .bool ((vD ((pvF Ps n).its.getD J it0).2).2.2.2.2.1), .slice A40_45 ((vD ((pvF Ps n).its.getD J it0).2).2.2.2.2.2.length) c40_45,vi ((eD ((pvF Ps n).its.getD J it0).2))]) (fun A40_45 c40_45=>eO 45 3 (.slice A40_45 ((vD ((pvF Ps n).its.getD J it0).2).2.2.2.2.2.length) c40_45) ((vD ((pvF Ps n).its.getD J it0).2).2.2.2.2.2.length) (flatR (vD ((pvF Ps n).its.getD J it0).2).2.2.2.2.2)) hst27 (fun cx=>⟨_,(r08read_desc _ hdj).mono (by rintro e W1 ⟨A4,c4,rfl,ho,hx⟩; exact ⟨_, _,rfl,St.one hx (eO_new ho)⟩),(map1 (cx.ou 39))⟩) fun A40_45 c40_45 W45 hst45=>?_
 refine sqal #[vi 0,vi 0,vi 0,vi 0, .bool false, .slice none 0 0,vi 0] hst45 fun B8_46 W46 hst46=>?_
 refine sqst (n:=7) 6 #[vi ((vD ((pvF Ps n).its.getD J it0).2).1),vi ((vD ((pvF Ps n).its.getD J it0).2).2.1),vi ((vD ((pvF Ps n).its.getD J it0).2).2.2.1),vi ((vD ((pvF Ps n).its.getD J it0).2).2.2.2.1), .bool ((vD ((pvF Ps n).its.getD J it0).2).2.2.2.2.1), .slice A40_45 ((vD ((pvF Ps n).its.getD J it0).2).2.2.2.2.2.length) c40_45,vi ((eD ((pvF Ps n).its.getD J it0).2))] hst46 fun W47 hst47=>?_
 refine then_normal (wp_seq (wp_region_Y [0,1,0,4,12,3,63] [[],[6],[],[6],[],[2]] [[],[],[],[],[],[7]] [[],[],[],[],[],[2]] [.k 41 (vp B8_46), .c 42 (.agg #[vi ((vD ((pvF Ps n).its.getD J it0).2).1),vi ((vD ((pvF Ps n).its.getD J it0).2).2.1),vi ((vD ((pvF Ps n).its.getD J it0).2).2.2.1),vi ((vD ((pvF Ps n).its.getD J it0).2).2.2.2.1), .bool ((vD ((pvF Ps n).its.getD J it0).2).2.2.2.2.1), .slice A40_45 ((vD ((pvF Ps n).its.getD J it0).2).2.2.2.2.2.length) c40_45]), .k 43 (.pointer (some ⟨B8_46,6,none⟩)), .c 44 (vi ((eD ((pvF Ps n).its.getD J it0).2))), .k 45 (.bool ((eD ((pvF Ps n).its.getD J it0).2)==0)), .n, .k 5 (.bool ((eD ((pvF Ps n).its.getD J it0).2)==0))] (fun ix σ β X=>match ix with | 0=>True | 1=>True | 2=>True | 3=>True | 4=>True | 5=>X 7=eB B4_3 41 #[vi ((vD ((pvF Ps n).its.getD J it0).2).1),vi ((vD ((pvF Ps n).its.getD J it0).2).2.1),vi ((vD ((pvF Ps n).its.getD J it0).2).2.2.1),vi ((vD ((pvF Ps n).its.getD J it0).2).2.2.2.1), .bool ((vD ((pvF Ps n).its.getD J it0).2).2.2.2.2.1), .slice A40_45 ((vD ((pvF Ps n).its.getD J it0).2).2.2.2.2.2.length) c40_45] | _=>True) [0,1,3,4,5,6,7] [1,3,5] [(5,6,1,6),(35,0,5,40)] hst47 ?_ ?_ ?_))
 ·exact fun ix _ _ _ _ _ _ hs hb hx h=>match ix,h with
  | 5,h=>by dsimp only; rw [← hx 7 rfl]; exact h
  | 0, _ | 1, _ | 2, _ | 3, _ | 4, _ | _+6, _=>trivial
 ·refine ⟨?_,?_,?_,trivial⟩
  ·exact xs4 rfl id fun cx=>run_loadB (n:=6) rfl (by kernel_rfl) (by kernel_rfl) (cx.an 0) (cx.bi 6 rfl) (nle rfl) rfl
  ·exact xs4 rfl id fun cx=>run_load1 rfl (by kernel_rfl) (cx.an 2) ((cx.bi 6 rfl).cell 6)
  ·refine svA fun ρ β W X cx=>?_
   exact dv_store (n:=6) rfl (cx.ou 4) (cx.an 1) (by kernel_rfl) (by kernel_rfl) (by kernel_rfl) cx (cx.init 2 _ rfl) rfl (nle rfl) (by kernel_rfl) rfl rfl rfl (fun σ β' X' hs hb hx=>hx)
 intro σ β X W48 hD hst48 fr hfr
 simp only [exq 7 ((dTn (hD 5 lq)))] at hst48
 clear hD; subst hfr; clear σ β X
 refine then_normal (wp_ret ?_)
 refine bpr (.tuple #[.agg #[vi ((vD ((pvF Ps n).its.getD J it0).2).1),vi ((vD ((pvF Ps n).its.getD J it0).2).2.1),vi ((vD ((pvF Ps n).its.getD J it0).2).2.2.1),vi ((vD ((pvF Ps n).its.getD J it0).2).2.2.2.1), .bool ((vD ((pvF Ps n).its.getD J it0).2).2.2.2.2.1), .slice A40_45 ((vD ((pvF Ps n).its.getD J it0).2).2.2.2.2.2.length) c40_45], .bool ((eD ((pvF Ps n).its.getD J it0).2)==0)]) (results_2 Tryz.results69 (rpa (hst48.blk 6 rfl) 0 6) rpt) ?_
 have hat:atF (pvF Ps n) (J:Int)=((pvF Ps n).its.getD J it0).2:=by rw [atF,if_pos (by omega)]; rfl
 rw [hat]
 exact ⟨_, _,by rw [eD_some],hst48.own' 4 rfl,hst48.ext⟩
theorem hall_any (tt:TypeId) (tv:Value) (pv:Int→PV) (n:Int) (w:World) (hS:PgsOk w tt tv pv) (hN:NoneAt w):
  Calls Tryz.prog 12 #[.iface tt (tv), .int .i64 n] w (AllPost 43 (pv n) n w):=by
 obtain ⟨f0,rv,hM,hC,hG⟩:=hS.ex
 have hwf:=hS.wf n
 have hwl:=hwf.1
 go_enter Tryz.func12,Tryz.ntmps12
 have hst0:=St.start w
 refine wp_seq (sqr (sqp [.k 4 (.slice none 0 0)] ?_))
 refine then_normal (wp_seq (wp_seq (sqr (sqp [.m 14 0, .m 15 1] ?_))))
 refine sqk (.tuple #[vi ((ofF (pv n))), .bool ((hdF (pv n)))]) hst0 (fun cx=>⟨_,of_any _ _ pv n _ (hS.ext cx.upd.to_ext),(map2 (cx.ou 14) (cx.ou 15))⟩) fun W4 hst4=>?_
 refine sqp [.m 13 16, .k 17 (vi ((ofF (pv n)))), .k 18 (.bool ((hdF (pv n)))), .m 5 17, .m 6 18] ?_
 refine then_normal (wp_seq (sqr (sqp [.m 19 6, .k 20 (.bool (!((hdF (pv n)))))] ?_)))
 refine then_normal ?_
 rcases Bool.eq_false_or_eq_true ((hdF (pv n))) with hs12 | hs12
 ·refine wp_cond_false (show Act.eval _ _= .bool false from (congrArg Value.bool (by rw [hs12]; rfl))) (wp_skip (then_normal (wp_seq (sqr (sqp [.m 22 0, .m 23 1] ?_)))))
  refine sqn2 (fun x_=>sA (tg (tg x_ 0) 2)) (fun x_=>sC (tg (tg x_ 0) 2)) (fun A24_15 c24_15=> .tuple #[.agg #[vi ((pv n).k),vi ((pv n).l), .slice A24_15 ((pv n).its.length) c24_15], .bool ((pv n).ok)]) (fun A24_15 c24_15=>eO 9 1 (.slice A24_15 ((pv n).its.length) c24_15) ((pv n).its.length) (strs (pv n).its)) hst4 (by
    refine svA fun ρ β W X cx=>?_
    refine DoesU.call (run_invoke (args:=#[vi n]) (args':=#[rv,vi n]) rfl rfl (cx.ou 22) hM hC (map1 (cx.ou 23)) rfl) ?_
    refine (hG _ n cx.upd.to_ext).mono ?_
    rintro e W1 ⟨A4,c4,rfl,ho,hx⟩
    refine ⟨_,rfl,post_call [eO 9 1 (.slice A4 (pv n).its.length c4) (pv n).its.length (strs (pv n).its)] rfl rfl hx (one_new (eO_new ho)) (List.pairwise_singleton _ _) (fun σ β' X' hs hb hv hN=>?_)⟩
    have hv1:=(hv 24 rfl).1; have hv2:=(hv 24 rfl).2
    exact ⟨hv1.trans (by rw [hv2]; rfl),(by rw [hv2]; exact (List.cons.inj hN).1)⟩) fun A24_15 c24_15 W15 hst15=>?_
  refine sqp [.m 21 24, .k 25 (.agg #[vi ((pv n).k),vi ((pv n).l), .slice A24_15 ((pv n).its.length) c24_15]), .k 26 (.bool ((pv n).ok))] ?_
  refine sqal #[vi 0,vi 0, .slice none 0 0] hst15 fun B7_19 W19 hst19=>?_
  refine sqst (n:=3) 1 #[vi ((pv n).k),vi ((pv n).l), .slice A24_15 ((pv n).its.length) c24_15] hst19 fun W20 hst20=>?_
  refine sqp [.m 8 26] ?_
  refine then_normal (wp_seq (wp_seq (sqr (sqp [.k 27 (.pointer (some ⟨B7_19,2,none⟩))] ?_))))
  refine sqld 1 hst20 ?_
  refine sqp [.k 29 (vi (((pv n).its.length:Int))), .k 30 (vi 0)] ?_
  refine then_normal (wp_block ?_)
  have hn_26:=nilrowN hst20 43 8
  refine wp_loopT (fun t_ mz az W=>∃ j:Nat,∃ m:Nat,∃ FA:Option Addr,∃ FC:Nat,∃ ks:List FK,j≤(pv n).its.length∧ks.length=m∧ks.map Prod.fst=fndF (pv n).its j∧m≤j∧mz=(pv n).its.length - j∧az=⟨(ovr (jv az) [(4,4,0,[.slice FA m FC]),(4,9,4,[]),(17,30,0,[vi ((j:Int))]),(0,31,24,[])] t_).toArray,[]⟩∧St w [] [eO 43 8 (.slice FA m FC) m (ks.flatMap (cellsF n)),eO 9 1 (.slice A24_15 ((pv n).its.length) c24_15) ((pv n).its.length) (strs (pv n).its)] W) ((pv n).its.length - 0) ?_ ?_
  · -- the loop begins
    exact ⟨0,0,none,0,[],by omega,rfl,rfl,by omega,rfl,(by kernel_rfl),hn_26.pk [2,0]⟩
  rintro n27 a27 W27 ⟨j,m,FA,FC,ks,hj,hkm,hkl,hmj,rfl,hj_,hst27⟩
  refine ovz hj_ fun u27_=>?_
  refine wp_seq (sqr (sqp [.k 31 (.bool (decide ((j:Int) < ((pv n).its.length:Int))))] ?_))
  refine then_normal (wp_seq (wds (fun hs29 hs29p=>?_) fun hs29 hs29p=>?_))
  ·refine wp_skip (then_normal (wp_seq (wp_block (wp_seq (sqr (sqp [.m 32 30] ?_))))))
   refine sql (.pointer (some ((ad A24_15).add j))) hst27 (fun cx=>run_indexSl (e:=9) (m:=j) rfl (by kernel_rfl) (by kernel_rfl) (cx.ou 28) (cx.ou 30) (by omega) (by omega) (At.of_own (cx.ri 1 rfl)) (strs_len _)) ?_
   refine sql (.string (((pv n).its.getD j it0).1)) hst27 (fun cx=>run_load1 rfl (by kernel_rfl) (cx.ou 33) (At.cellAd (At.of_own (cx.ri 1 rfl)) (getD_strs (by omega)))) ?_
   refine sqp [.m 9 32, .m 10 34] ?_
   refine then_normal (wp_seq ?_)
   have hdj:=PV.desc hwf (j:=j) (by omega)
   have hbd:=hdj.bd
   refine sqr (sqp [.m 36 10] ?_)
   refine sqk2 (fun A37_36 c37_36=> .tuple #[.agg #[vi ((vD ((pv n).its.getD j it0).2).1),vi ((vD ((pv n).its.getD j it0).2).2.1),vi ((vD ((pv n).its.getD j it0).2).2.2.1),vi ((vD ((pv n).its.getD j it0).2).2.2.2.1), .bool ((vD ((pv n).its.getD j it0).2).2.2.2.2.1), .slice A37_36 ((vD ((pv n).its.getD j it0).2).2.2.2.2.2.length) c37_36],vi ((eD ((pv n).its.getD j it0).2))]) (fun A37_36 c37_36=>eO 45 3 (.slice A37_36 ((vD ((pv n).its.getD j it0).2).2.2.2.2.2.length) c37_36) ((vD ((pv n).its.getD j it0).2).2.2.2.2.2.length) (flatR (vD ((pv n).its.getD j it0).2).2.2.2.2.2)) hst27 (fun cx=>⟨_,(tread_desc _ hdj (hN.ext cx.upd.to_ext)).mono (by rintro e W1 ⟨A4,c4,rfl,ho,hx⟩; exact ⟨_, _,rfl,St.one hx (eO_new ho)⟩),(map1 (cx.ou 36))⟩) fun A37_36 c37_36 W36 hst36=>?_
   refine sqp [.m 35 37, .k 38 (.agg #[vi ((vD ((pv n).its.getD j it0).2).1),vi ((vD ((pv n).its.getD j it0).2).2.1),vi ((vD ((pv n).its.getD j it0).2).2.2.1),vi ((vD ((pv n).its.getD j it0).2).2.2.2.1), .bool ((vD ((pv n).its.getD j it0).2).2.2.2.2.1), .slice A37_36 ((vD ((pv n).its.getD j it0).2).2.2.2.2.2.length) c37_36]), .k 39 (vi ((eD ((pv n).its.getD j it0).2)))] ?_
   refine sqal #[vi 0,vi 0,vi 0,vi 0, .bool false, .slice none 0 0] hst36 fun B11_40 W40 hst40=>?_
   refine sqst (n:=6) 3 #[vi ((vD ((pv n).its.getD j it0).2).1),vi ((vD ((pv n).its.getD j it0).2).2.1),vi ((vD ((pv n).its.getD j it0).2).2.2.1),vi ((vD ((pv n).its.getD j it0).2).2.2.2.1), .bool ((vD ((pv n).its.getD j it0).2).2.2.2.2.1), .slice A37_36 ((vD ((pv n).its.getD j it0).2).2.2.2.2.2.length) c37_36] hst40 fun W41 hst41=>?_
   refine sqp [.m 12 39] ?_
   refine then_normal (wp_seq (sqr (sqp [.m 40 9, .k 41 (.bool (decide (0 < (j:Int)))), .m 42 41] ?_)))
   refine sqw 42 [43,44] rfl (fun _=>sqp [.m 43 12, .k 44 (.bool ((eD ((pv n).its.getD j it0).2)==0))] sqe) ?_
   refine sqp [sPa 45 (decide (0 < (j:Int))) ((eD ((pv n).its.getD j it0).2)==0)] ?_
   refine then_normal (wbs (fun hs49=>?_) fun hs49=>?_)
   ·have hs49p:=hs49
    simp only [zB] at hs49p
    obtain ⟨hs49p1,hs49p2⟩:=hs49p
    refine sqr (sqp [.m 46 4, .m 47 1, .m 48 9, .k 49 (.agg #[vi n,vi ((j:Int))])] ?_)
    refine sqlb 3 6 hst41 ?_
    refine sqp [.k 51 (.agg #[vi n,vi ((j:Int)),vi ((vD ((pv n).its.getD j it0).2).1),vi ((vD ((pv n).its.getD j it0).2).2.1),vi ((vD ((pv n).its.getD j it0).2).2.2.1),vi ((vD ((pv n).its.getD j it0).2).2.2.2.1), .bool ((vD ((pv n).its.getD j it0).2).2.2.2.2.1), .slice A37_36 ((vD ((pv n).its.getD j it0).2).2.2.2.2.2.length) c37_36])] ?_
    refine sqli 43 8 1 (cellsF n ((j,vD ((pv n).its.getD j it0).2),A37_36,c37_36)) hst41 (@fun ρ β W X cx=>by have fF51:ρ (.tmp 51)= .agg #[vi n,vi ((j:Int)),vi ((vD ((pv n).its.getD j it0).2).1),vi ((vD ((pv n).its.getD j it0).2).2.1),vi ((vD ((pv n).its.getD j it0).2).2.2.1),vi ((vD ((pv n).its.getD j it0).2).2.2.2.1), .bool ((vD ((pv n).its.getD j it0).2).2.2.2.2.1), .slice A37_36 ((vD ((pv n).its.getD j it0).2).2.2.2.2.2.length) c37_36]:=(cx.ou 51); simp [go_sem,fF51,cellsF]) fun B52_56 W56 hst56=>?_
    refine sqap (m+1) ((ks++[((j,vD ((pv n).its.getD j it0).2),A37_36,c37_36)]).flatMap (cellsF n)) 0 hst56 Tryz.infoFnd (fun cx=>(At.of_ownN (cx.ri 4 rfl))) (h1:=by simp [cellsF,Value.oneCell']) (hxs:=found_snoc _ _ _) fun A53_57 c53_57 W57 hst57=>?_
    refine sqp [.m 4 53] ?_
    refine blk_normal (then_normal (sqr (sqp [sI 54 ((j:Int)+1) (by omega), .m 30 54] ?_)))
    refine then_normal ?_
    refine ⟨(pv n).its.length - ((j+1)),by omega,?_⟩
    exact ⟨(j+1),(m+1),A53_57,c53_57,(ks++[((j,vD ((pv n).its.getD j it0).2),A37_36,c37_36)]),by omega,by rw [List.length_append,hkm]; rfl,ks_snoc hkl (by omega) ((by have h_:=hs49; simp only [Bool.and_eq_true] at h_; rw [← eD_some]; exact h_.2)) _ _,by omega,rfl,(by kernel_rfl),hst57.pk [0,1]⟩
   have hs49p:=hs49
   simp only [zB] at hs49p
   refine wp_skip (blk_normal (then_normal (sqr (sqp [sI 54 ((j:Int)+1) (by omega), .m 30 54] ?_))))
   refine then_normal ?_
   refine ⟨(pv n).its.length - ((j+1)),by omega,?_⟩
   exact ⟨(j+1),m,FA,FC,ks,by omega,hkm,ks_keep hkl ((by have h_:=hs49; rw [eD_some] at h_; rintro ⟨a_,b_⟩; rw [b_] at h_; simp at h_; omega)),by omega,rfl,(by kernel_rfl),hst41.pk [0,1]⟩
  refine wp_exit (then_exit (then_exit (blk_eq (then_normal (wp_seq (sqr (sqp [.m 55 4, .m 4 55] ?_)))))))
  refine then_normal (wp_ret ?_)
  refine bpr (.slice FA m FC) (results_1 Tryz.results12 rpt) ?_
  have hal:allF' (pv n)=fndF (pv n).its j:=by rw [allF',if_pos (by simp_all),show j=(pv n).its.length by omega]
  have hlm:m=(allF' (pv n)).length:=by rw [hal,← ks_len hkl,hkm]
  have ho_:=hst27.own' 0 rfl
  unfold AllPost
  rw [← hlm,hal]
  exact ⟨_, _,ks,hkl,rfl,ho_,hst27.ext⟩
 refine wp_cond_true (show Act.eval _ _= .bool true from (congrArg Value.bool (by rw [hs12]; rfl))) (wp_seq (sqr (sqp [.k 4 (.slice none 0 0)] ?_)))
 refine then_normal (wp_ret (then_ret ?_))
 refine bpr (.slice none 0 0) (results_1 Tryz.results12 rpt) ?_
 have hal:allF' (pv n)=[]:=by rw [allF',if_neg (by simp [*])]
 unfold AllPost
 rw [hal]
 exact ⟨none,0,[],rfl,rfl,World.ownsRow_nil _ _ _ _,hst4.ext⟩
def hits (v:PV):List Itm:=if 0≤tbF v then v.its else []
theorem tbF_hd (v:PV):(0≤tbF v)↔hdF v=true:=by
 rw [tbF]
 cases hdF v with
 | true=>simp only [if_true,iff_true]; omega
 | false=>simp
theorem atF_get (v:PV) {j:Nat} (h:1≤j):atF v (j:Int)=((hits v).getD j it0).2:=by
 rw [atF,hits]
 by_cases h1:0≤tbF v
 ·by_cases h2:j < v.its.length
  ·rw [if_pos (by omega),if_pos h1]; rfl
  ·rw [if_neg (by omega),if_pos h1,List.getD_eq_getElem?_getD,List.getElem?_eq_none (by omega)]; rfl
 ·rw [if_neg (by omega),if_neg h1]; rfl
theorem hits_len {v:PV} (h:v.wf):(hits v).length≤24:=by
 rw [hits]
 split
 ·exact h.1
 ·simp
theorem hits_all {v:PV} (h:v.wf):fndF (hits v) 24=allF' v:=by
 have hl:=hits_len h
 obtain ⟨d,hd⟩:∃ d,24=(hits v).length+d:=⟨24 - (hits v).length,by omega⟩
 rw [hd,fnd_ge,allF']
 by_cases h1:0≤tbF v
 ·rw [if_pos ((tbF_hd v).1 h1),hits,if_pos h1]
 ·rw [if_neg (fun h2=>h1 ((tbF_hd v).2 h2)),hits,if_neg h1]; rfl
end
section
open Go.RowKit
/-- the first empty slot among the n slots from i on -/
def frL (ss:List ByteArray):Nat→Nat→Int
 | 0, _=> -1
 | n+1,i=>if ss.length≤i then i else if (ss.getD i ByteArray.empty).toList.isEmpty then i else frL ss n (i+1)
theorem frL_succ (ss:List ByteArray) (n i:Nat):frL ss (n+1) i=if ss.length≤i then (i:Int) else if (ss.getD i ByteArray.empty).toList.isEmpty then (i:Int) else frL ss n (i+1):=rfl
def freeF (k l:Int) (ss:List ByteArray) (from_:Int):Int:=if rightB k l ss then frL ss (24 - (max from_ 0).toNat) (max from_ 0).toNat else -1
theorem free_any (k l:Int) (A:Option Addr) (c:Nat) (ss:List ByteArray) (fr:Int) (w:World) (h:At w A (ss.map Value.string)) (hs:Small ss):
  Calls Tryz.prog 152 #[.agg #[.int .i64 k, .int .i64 l, .slice A ss.length c], .int .i64 fr] w (Ret1 (.int .i64 (freeF k l ss fr)) w):=by
 have H:=Lib.hid h; clear h
 have hl:=hs.1
 have HS:=Lib.hid hs; clear hs
 have X0:=Lib.hid ((Ext.refl w).alloc (.cells #[.int .i64 k, .int .i64 l, .slice A ss.length c] 64))
 rcases hr:rightB k l ss with _ | _
 ·have HR:=Lib.hid hr; clear hr
  go_enter Tryz.func152,Tryz.ntmps152
  go_wp2_with (go_at_call 184; refine (right_any _ _ _ _ _ _ (H.out.ext X0.out) HS.out).mono ?_; rw [HR.out]; rintro e w1 ⟨rfl,hx⟩; have X1:=Lib.hid (X0.out.trans hx); clear hx)
  go_ret
  exact Ret1.int (by rw [freeF,HR.out]; rfl) X1.out
 ·have HR:=Lib.hid hr; clear hr
  obtain ⟨K,hK⟩:∃ K,K=(max fr 0).toNat:=⟨_,rfl⟩
  have HF:=Lib.hid (show freeF k l ss fr=frL ss (24 - K) K by rw [freeF,HR.out,if_pos rfl,hK])
  have HK:=Lib.hid hK
  clear hK
  rcases Int.lt_or_le fr 0 with hfr | hfr
  all_goals
   go_enter Tryz.func152,Tryz.ntmps152
   go_wp2_with (go_at_call 184; refine (right_any _ _ _ _ _ _ (H.out.ext X0.out) HS.out).mono ?_; rw [HR.out]; rintro e w1 ⟨rfl,hx⟩; have X1:=Lib.hid (X0.out.trans hx); have hc2:w1.cell? ⟨w.heap.size,2,none⟩=some (.slice A ss.length c):=hx.cell_new 2; clear hx)
   go_loop [5] (fun i=>∃ k':Nat,i= .int .i64 k'∧freeF k l ss fr=frL ss (24 - k') k') (fun i=>24 - (intOf i).toNat)
   case atStart=>exact ⟨K,by rw [HK.out]; go_num,HF.out⟩
   case round=>
    obtain ⟨k',rfl,hk⟩:=hrel
    have Hk:=Lib.hid hk
    clear hk
    rcases Nat.lt_or_ge k' 24 with h24 | h24
    ·obtain ⟨n,hn⟩:∃ n,24 - k'=n+1:=⟨23 - k',by omega⟩
     have Hn:=Lib.hid (show freeF k l ss fr=frL ss (n+1) k' by rw [Hk.out,hn])
     have HN:=Lib.hid (show 24 - (k'+1)=n by omega)
     clear hn Hk
     rcases Nat.lt_or_ge k' ss.length with hlt | hge
     ·obtain ⟨ad,rfl,hblk,hc⟩:=(H.out.ext X1.out).get (k:=k') (by simpa using hlt)
      rw [List.getElem_map] at hc
      have Hg:=Lib.hid (show ss[k']=ss.getD k' ByteArray.empty by simp [List.getD,hlt])
      obtain ⟨s,hs⟩:∃ s,s=ss[k']:=⟨_,rfl⟩
      rw [← hs] at hc Hg
      clear hs
      rcases he:s.toList.isEmpty with _ | _
      ·go_wp2
       go_round
       case rel=>exact ⟨k'+1,by go_num,by rw [Hn.out,frL_succ,if_neg (by omega),← Hg.out,he,HN.out]; rfl⟩
       case measure=>simp [intOf]; omega
      ·go_wp2
       go_ret
       exact Ret1.int (by rw [Hn.out,frL_succ,if_neg (by omega),← Hg.out,he]; rfl) X1.out
     ·go_wp2
      go_ret
      exact Ret1.int (by rw [Hn.out,frL_succ,if_pos (by omega)]) X1.out
    ·go_wp2
     go_ret
     exact Ret1.int (by rw [Hk.out,show 24 - k'=0 by omega]; rfl) X1.out
end
section
open Go.RowKit
theorem Ext.two {w w1:World} {o:Obj} {cs:Array Value} {t:TypeId} (h:Ext ((w.alloc o).alloc (.cells cs t)) w1):
  (∀ i,w1.cell? ⟨w.heap.size+1,i,none⟩=cs[i]?)∧(∀ i,w1.frozen? ⟨w.heap.size+1,i,none⟩=false)∧w.heap.size+1 < w1.heap.size:=by
 have e:(w.alloc o).heap.size=w.heap.size+1:=World.size_alloc w o
 have h1:=fun i=>h.cell_new i
 have h2:=fun i=>h.frozen_new i
 have h3:=h.lt_new
 rw [e] at h1 h2 h3
 exact ⟨h1,h2,h3⟩
/-- the first of two new blocks -/
theorem Ext.two0 {w w1:World} {o:Obj} {cs:Array Value} {t:TypeId} (h:Ext ((w.alloc (.cells cs t)).alloc o) w1):
  (∀ i,w1.cell? ⟨w.heap.size,i,none⟩=cs[i]?)∧(∀ i,w1.frozen? ⟨w.heap.size,i,none⟩=false):=
 have h0:Ext (w.alloc (.cells cs t)) w1:=((Ext.refl _).alloc o).trans h
 ⟨fun i=>h0.cell_new i,fun i=>h0.frozen_new i⟩
def padTo (l:List ByteArray) (n:Nat):List ByteArray:=l++List.replicate (n - l.length) ByteArray.empty
/-- the items with one put in -/
def withL (ss:List ByteArray) (slot:Nat) (s:ByteArray):List ByteArray:=(padTo (plainL ss) (slot+1)).set slot s
def putErr (k l:Int) (ss:List ByteArray) (slot:Int) (s:ByteArray):Int:=
 if rightB k l ss=false then 22 else if slot < 0∨24≤slot∨400 < s.size then 21 else if 512 < sizeL (withL ss slot.toNat s) then 20 else 0
/-- a page and an error, the page's items in new memory -/
def PgPost (k l:Int) (ss:List ByteArray) (err:Int) (w:World) (e:Ending) (w':World):Prop:=
 ∃ A c,e= .returned (.tuple #[.agg #[.int .i64 k, .int .i64 l, .slice A ss.length c], .int .i64 err])∧
   w'.ownsRow w.heap.size 9 1 (.slice A ss.length c) ss.length (ss.map Value.string)∧Ext w w'
def PutPost (k l:Int) (ss:List ByteArray) (slot:Int) (s:ByteArray) (w:World):Ending→World→Prop:=
 if putErr k l ss slot s=0 then PgPost k l (plainL (withL ss slot.toNat s)) 0 w else PgPost 0 0 [] (putErr k l ss slot s) w
theorem PgPost.zero {err:Int} {w w':World} (h:Ext w w'):PgPost 0 0 [] err w (.returned (.tuple #[.agg #[.int .i64 0, .int .i64 0, .slice none 0 0], .int .i64 err])) w':=
 ⟨none,0,rfl,World.ownsRow_nil _ _ _ _,h⟩
theorem put_not (k l:Int) (A:Option Addr) (c:Nat) (ss:List ByteArray) (slot:Int) (s:ByteArray) (w:World) (h:At w A (ss.map Value.string)) (hs:Small ss) (hr:rightB k l ss=false):
  Calls Tryz.prog 153 #[.agg #[.int .i64 k, .int .i64 l, .slice A ss.length c], .int .i64 slot, .string s] w (PgPost 0 0 [] 22 w):=by
 have H:=Lib.hid h; clear h
 have HR:=Lib.hid hr; clear hr
 have HS:=Lib.hid hs; clear hs
 have X0:=Lib.hid (((Ext.refl w).alloc (.cells #[.int .i64 k, .int .i64 l, .slice A ss.length c] 64)).alloc (.cells #[.int .i64 0, .int .i64 0, .slice none 0 0] 64))
 go_enter Tryz.func153,Tryz.ntmps153
 go_wp2_with (go_at_call 184; refine (right_any _ _ _ _ _ _ (H.out.ext X0.out) HS.out).mono ?_; rw [HR.out]; rintro e w1 ⟨rfl,hx⟩; have X1:=Lib.hid (X0.out.trans hx); have q0:w1.cell? ⟨w.heap.size+1,0,none⟩=some (.int .i64 0):=hx.two.1 0; have q1:w1.cell? ⟨w.heap.size+1,1,none⟩=some (.int .i64 0):=hx.two.1 1; have q2:w1.cell? ⟨w.heap.size+1,2,none⟩=some (.slice none 0 0):=hx.two.1 2; have f0:=hx.two.2.1 0; have f1:=hx.two.2.1 1; have f2:=hx.two.2.1 2; have hz1:=hx.two.2.2; clear hx)
 refine bodyPost_ret (v:= .tuple #[.agg #[.int .i64 0, .int .i64 0, .slice none 0 0], .int .i64 22]) (by simp [results,Tryz.results153,go_sem,q0,q1,q2]) rfl (PgPost.zero ?_)
 repeat (first | exact X1.out | refine Ext.set ?_ (by simp) _)
theorem put_item (k l:Int) (A:Option Addr) (c:Nat) (ss:List ByteArray) (slot:Int) (s:ByteArray) (w:World) (h:At w A (ss.map Value.string)) (hs:Small ss) (hr:rightB k l ss=true)
  (hb:slot < 0∨24≤slot∨400 < s.size) (hss:s.size≤9223372036854775807):
  Calls Tryz.prog 153 #[.agg #[.int .i64 k, .int .i64 l, .slice A ss.length c], .int .i64 slot, .string s] w (PgPost 0 0 [] 21 w):=by
 have H:=Lib.hid h; clear h
 have HR:=Lib.hid hr; clear hr
 have HS:=Lib.hid hs; clear hs
 have X0:=Lib.hid (((Ext.refl w).alloc (.cells #[.int .i64 k, .int .i64 l, .slice A ss.length c] 64)).alloc (.cells #[.int .i64 0, .int .i64 0, .slice none 0 0] 64))
 have h3:slot < 0∨(0≤slot∧24≤slot)∨(0≤slot∧slot < 24∧400 < (s.size:Int)):=by omega
 clear hb
 rcases h3 with h1 | ⟨h0,h1⟩ | ⟨h0,h1,h2⟩
 all_goals
  go_enter Tryz.func153,Tryz.ntmps153
  go_wp2_with (go_at_call 184; refine (right_any _ _ _ _ _ _ (H.out.ext X0.out) HS.out).mono ?_; rw [HR.out]; rintro e w1 ⟨rfl,hx⟩; have X1:=Lib.hid (X0.out.trans hx); have q0:w1.cell? ⟨w.heap.size+1,0,none⟩=some (.int .i64 0):=hx.two.1 0; have q1:w1.cell? ⟨w.heap.size+1,1,none⟩=some (.int .i64 0):=hx.two.1 1; have q2:w1.cell? ⟨w.heap.size+1,2,none⟩=some (.slice none 0 0):=hx.two.1 2; have f0:=hx.two.2.1 0; have f1:=hx.two.2.1 1; have f2:=hx.two.2.1 2; have hz1:=hx.two.2.2; clear hx)
  refine bodyPost_ret (v:= .tuple #[.agg #[.int .i64 0, .int .i64 0, .slice none 0 0], .int .i64 21]) (by simp [results,Tryz.results153,go_sem,q0,q1,q2]) rfl (PgPost.zero ?_)
  repeat (first | exact X1.out | refine Ext.set ?_ (by simp) _)
theorem small_with {ss:List ByteArray} (h:ss.length≤24∧∀ s∈ss,s.size≤400) (K:Nat) (hK:K < 24) (s:ByteArray) (hs:s.size≤400):Small (withL ss K s):=by
 have hp:=plainL_len ss
 have ht:=trimN_le ss ss.length
 refine ⟨by simp only [withL,padTo,List.length_set,List.length_append,List.length_replicate]; omega,fun x hx=>?_⟩
 have hx':x=s∨x∈padTo (plainL ss) (K+1):=by
  rcases List.mem_or_eq_of_mem_set hx with h | h
  ·exact .inr h
  ·exact .inl h
 rcases hx' with rfl | hx'
 ·omega
 ·rcases List.mem_append.1 hx' with h1 | h1
  ·have:=h.2 x (List.mem_of_mem_take h1); omega
  ·have:=(List.mem_replicate.1 h1).2
   subst this
   simp
theorem right_parts {k l:Int} {ss:List ByteArray} (h:rightB k l ss=true):(0≤k∧k≤2)∧(0≤l∧l≤2147483647)∧(ss.length≤24∧∀ s∈ss,s.size≤400)∧sizeL ss≤512:=by
 simp only [rightB,Bool.and_eq_true,decide_eq_true_eq,Bool.not_eq_true',longB,List.any_eq_false,Nat.not_lt] at h
 exact ⟨⟨h.1,h.2.1⟩,⟨h.2.2.1,h.2.2.2.1⟩,⟨h.2.2.2.2.1,h.2.2.2.2.2.1⟩,h.2.2.2.2.2.2⟩
def lenOf:Value→Nat | .slice _ n _=>n | _=>0
theorem own_pos {w:World} {base:Nat} {e:TypeId} {A:Option Addr} {n c:Nat} {xs:List Value} (h:w.ownsRow base e 1 (.slice A n c) n xs) (hn:0 < n):
  ∃ g,A=some ⟨g,0,none⟩∧base≤g∧g < w.heap.size:=by
 rcases h.2 with ⟨hv,h0⟩ | ⟨g,cap,cur,hv,hb,hg, _⟩
 ·omega
 ·injection hv with h1
  exact ⟨g,h1,hb,(Array.getElem?_eq_some_iff.1 hg).1⟩
theorem size_n (A:Option Addr) (n c:Nat) (ss:List ByteArray) (w:World) (hn:n=ss.length) (h:At w A (ss.map Value.string)) (hs:Small ss):
  Calls Tryz.prog 197 #[.slice A n c] w fun e w'=>e= .returned (.int .i64 (sizeL ss))∧Ext w w':=by
 subst hn; exact size_any A c ss w h hs
theorem plain_n (A:Option Addr) (n c:Nat) (ss:List ByteArray) (w:World) (hn:n=ss.length) (h:At w A (ss.map Value.string)) (hl:ss.length≤100000):
  Calls Tryz.prog 185 #[.slice A n c] w fun e w'=>e= .returned (.slice (some ⟨w.heap.size,0,none⟩) (plainL ss).length (plainL ss).length)∧
   w'.ownsRow w.heap.size 9 1 (.slice (some ⟨w.heap.size,0,none⟩) (plainL ss).length (plainL ss).length) (plainL ss).length ((plainL ss).map Value.string)∧Ext w w':=by
 subst hn; exact plain_any A c ss w h hl
theorem with_stored {wr:World} {base g m c K:Nat} {ss:List ByteArray} {s:ByteArray}
  (h:wr.ownsRow base 9 1 (.slice (some ⟨g,0,none⟩) m c) m ((plainL ss++List.replicate (m - (plainL ss).length) ByteArray.empty).map Value.string))
  (h1:(plainL ss).length≤m) (h2:m≤(plainL ss).length∨m≤K+1) (h3:K < m):
  (wr.setCell ⟨g,K,none⟩ (.string s)).ownsRow base 9 1 (.slice (some ⟨g,0,none⟩) m c) m ((withL ss K s).map Value.string):=by
 have e:m - (plainL ss).length=K+1 - (plainL ss).length:=by omega
 have:=(h.stored K (.string s)).1
 rw [e,← List.map_set] at this
 exact this
theorem put_held {w W:World} {k l:Int} {A:Option Addr} {n c:Nat}
  (h:Ext ((w.alloc (.cells #[.int .i64 k, .int .i64 l, .slice A n c] 64)).alloc (.cells #[.int .i64 0, .int .i64 0, .slice none 0 0] 64)) W):
  W.cell? ⟨w.heap.size,0,none⟩=some (.int .i64 k)∧W.cell? ⟨w.heap.size,1,none⟩=some (.int .i64 l)∧W.cell? ⟨w.heap.size+1,0,none⟩=some (.int .i64 0)∧W.cell? ⟨w.heap.size+1,1,none⟩=some (.int .i64 0)∧
    W.cell? ⟨w.heap.size+1,2,none⟩=some (.slice none 0 0)∧W.frozen? ⟨w.heap.size+1,0,none⟩=false∧W.frozen? ⟨w.heap.size+1,1,none⟩=false∧W.frozen? ⟨w.heap.size+1,2,none⟩=false:=
 ⟨h.two0.1 0,h.two0.1 1,h.two.1 0,h.two.1 1,h.two.1 2,h.two.2.1 0,h.two.2.1 1,h.two.2.1 2⟩
theorem put_20 {k l:Int} {ss:List ByteArray} {K:Nat} {s:ByteArray} {w:World} (hr:rightB k l ss=true) (hK:K < 24) (hs:s.size≤400) (hz:512 < sizeL (withL ss K s)):
  PutPost k l ss K s w=PgPost 0 0 [] 20 w:=by
 have e:putErr k l ss K s=20:=by
  rw [putErr,hr,if_neg (by simp),if_neg (by omega),Int.toNat_natCast,if_pos hz]
 rw [PutPost,e,if_neg (by decide)]
theorem put_0 {k l:Int} {ss:List ByteArray} {K:Nat} {s:ByteArray} {w:World} (hr:rightB k l ss=true) (hK:K < 24) (hs:s.size≤400) (hz:sizeL (withL ss K s)≤512):
  PutPost k l ss K s w=PgPost k l (plainL (withL ss K s)) 0 w:=by
 have e:putErr k l ss K s=0:=by
  rw [putErr,hr,if_neg (by simp),if_neg (by omega),Int.toNat_natCast,if_neg (by omega)]
 rw [PutPost,e,if_pos rfl,Int.toNat_natCast]
theorem pad_step {w2:World} {base n:Nat} {v':Value} {pl:List ByteArray} {u:Value} (hu:u= .string ByteArray.empty) (h:w2.ownsRow base 9 1 v' (n+1) ((pl++List.replicate (n - pl.length) ByteArray.empty).map Value.string++[u])) (hl:pl.length≤n):
  w2.ownsRow base 9 1 v' (n+1) ((pl++List.replicate (n+1 - pl.length) ByteArray.empty).map Value.string):=by
 subst hu
 have e:n+1 - pl.length=(n - pl.length)+1:=by omega
 rw [e,List.replicate_succ',← List.append_assoc,List.map_append (l₂:=[ByteArray.empty])]
 exact h
/-- the relation of the loop that fills up with empty items -/
def PadRel (pl:List ByteArray) (K:Nat) (w1:World) (v:Value) (wr:World):Prop:=
 ∃ m A c,v= .slice A m c∧pl.length≤m∧(m≤pl.length∨m≤K+1)∧wr.ownsRow w1.heap.size 9 1 (.slice A m c) m ((pl++List.replicate (m - pl.length) ByteArray.empty).map Value.string)∧Ext w1 wr
theorem put_main (k l:Int) (A:Option Addr) (c:Nat) (ss:List ByteArray) (K:Nat) (s:ByteArray) (w:World) (h:At w A (ss.map Value.string)) (hs:Small ss) (hr:rightB k l ss=true)
  (hK:K < 24) (hss:s.size≤400):
  Calls Tryz.prog 153 #[.agg #[.int .i64 k, .int .i64 l, .slice A ss.length c], .int .i64 K, .string s] w (PutPost k l ss K s w):=by
 have H:=Lib.hid h; clear h
 have hpl:=plainL_len ss
 have htr:=trimN_le ss ss.length
 have hl24:=(right_parts hr).2.2.1.1
 have hp24:(plainL ss).length≤24:=by omega
 have hv24:=(right_parts hr).2.2.1
 clear hpl htr hl24
 have HR:=Lib.hid hr; clear hr
 have HS:=Lib.hid hs; clear hs
 obtain ⟨i0,hi0,hz0,hz1,hz2⟩:=info_parts Tryz.infoStr
 have X0:=Lib.hid (((Ext.refl w).alloc (.cells #[.int .i64 k, .int .i64 l, .slice A ss.length c] 64)).alloc (.cells #[.int .i64 0, .int .i64 0, .slice none 0 0] 64))
 go_enter Tryz.func153,Tryz.ntmps153
 go_wp2_with (first
  | (go_at_call 184; refine (right_any _ _ _ _ _ _ (H.out.ext X0.out) HS.out).mono ?_; rw [HR.out]; rintro e w1 ⟨rfl,hx⟩; have X1:=Lib.hid (X0.out.trans hx); have HX:=Lib.hid hx; have p2:w1.cell? ⟨w.heap.size,2,none⟩=some (.slice A ss.length c):=hx.two0.1 2; have hzz:=hx.two.2.2; clear hx)
  | (go_at_call 185; refine (plain_any _ _ _ _ (H.out.ext X1.out) HS.out.1).mono ?_; rintro e w2 ⟨rfl,hown,hx⟩; have Hown:=Lib.hid hown; have X2:=Lib.hid hx; clear hown hx))
 go_loopw [8] (fun v wr=>PadRel (plainL ss) K w1 v wr) (fun v _=>K+1 - lenOf v)
 case atStart=>exact ⟨_, _, _,rfl,Nat.le_refl _, .inl (Nat.le_refl _),by simpa using Hown.out,X2.out⟩
 case round=>
  obtain ⟨m,A',c',rfl,hm1,hm2,hown,hx⟩:=hrel
  have Hw:=Lib.hid hown
  have XR:=Lib.hid hx
  clear hown hx
  rcases Nat.lt_or_ge K m with hlt | hge
  ·obtain ⟨g,rfl,hg1,hg2⟩:=own_pos Hw.out (by omega)
   have hme:m=(withL ss K s).length:=by simp [withL,padTo]; omega
   have ho:=(At.of_own Hw.out).get0 (k:=K) (by simp; omega)
   have hfz:=Hw.out.frozenAt (xs:=(plainL ss++List.replicate (m - (plainL ss).length) ByteArray.empty).map Value.string) K
   have hst:=with_stored (s:=s) Hw.out hm1 hm2 hlt
   generalize ((plainL ss++List.replicate (m - (plainL ss).length) ByteArray.empty).map Value.string)[K]'(by simp; omega)=ov at ho
   have Hst:=Lib.hid hst
   have Hme:=Lib.hid hme
   clear hst hme
   obtain ⟨z,hz⟩:∃ z,z=sizeL (withL ss K s):=⟨_,rfl⟩
   have Hz:=Lib.hid hz
   clear hz
   rcases Nat.lt_or_ge 512 z with h5 | h5
   ·have h5':512 < (z:Int):=by omega
    go_wp2_with (go_at_call 197; refine (size_n _ _ _ _ _ Hme.out (At.of_own Hst.out) (small_with hv24 K hK s hss)).mono ?_; rw [← Hz.out]; rintro e w3 ⟨rfl,hx⟩; have hx3:=HX.out.trans ((XR.out.set (p:=⟨g,K,none⟩) hg1 (.string s)).trans hx); have X3:=Lib.hid (X0.out.trans hx3); obtain ⟨_, _,q0,q1,q2,f0,f1,f2⟩:=put_held hx3; have hz3:=hx3.two.2.2; clear hx hx3)
    refine bodyPost_ret (v:= .tuple #[.agg #[.int .i64 0, .int .i64 0, .slice none 0 0], .int .i64 20]) (by simp [results,Tryz.results153,go_sem,q0,q1,q2]) rfl ?_
    rw [put_20 HR.out hK hss (by rw [← Hz.out]; exact h5)]
    refine PgPost.zero ?_
    repeat (first | exact X3.out | refine Ext.set ?_ (by simp) _)
   ·have h5':(z:Int)≤512:=by omega
    go_wp2_with (go_at_call 197; refine (size_n _ _ _ _ _ Hme.out (At.of_own Hst.out) (small_with hv24 K hK s hss)).mono ?_; rw [← Hz.out]; rintro e w3 ⟨rfl,hx⟩; have hx3:=HX.out.trans ((XR.out.set (p:=⟨g,K,none⟩) hg1 (.string s)).trans hx); have X3:=Lib.hid hx3; have X3':=Lib.hid hx; obtain ⟨p0,p1,q0,q1,q2,f0,f1,f2⟩:=put_held hx3; have hz3:=hx3.two.2.2; clear hx hx3)
    have hatl:=(At.of_own Hst.out).ext X3'.out
    have Hat:=Lib.hid hatl
    clear hatl
    go_region_held3 (fun W=>W.cell? ⟨w.heap.size,0,none⟩=some (.int .i64 k)∧W.cell? ⟨w.heap.size,1,none⟩=some (.int .i64 l))
     (first | exact ⟨p0,p1⟩ | exact ⟨p0',p1'⟩ | go_keep)
     (first | (go_at_call 185; refine (plain_n _ _ _ _ _ Hme.out (Hat.out.ext (Ext.refl _).drew) (small_with hv24 K hK s hss).1).mono ?_; rintro e w4 ⟨rfl,hown4,hx4⟩; have X4:=Lib.hid (X3.out.drew.trans hx4); obtain ⟨p0',p1',q0',q1',q2',f0',f1',f2'⟩:=put_held X4.out; have Hown4:=Lib.hid hown4; clear hx4 hown4))
    go_wp2
    refine bodyPost_ret (v:= .tuple #[.agg #[.int .i64 k, .int .i64 l, .slice (some ⟨w3.heap.size,0,none⟩) (plainL (withL ss K s)).length (plainL (withL ss K s)).length], .int .i64 0]) (by simp [results,Tryz.results153,go_sem,q0',q1',q2']) rfl ?_
    rw [put_0 HR.out hK hss (by rw [← Hz.out]; exact h5)]
    refine ⟨_, _,rfl,own_mono (ownsRow_setCell_below (ownsRow_setCell_below (ownsRow_setCell_below Hown4.out hz3 _) hz3 _) hz3 _) (by show _≤w3.heap.size; omega),?_⟩
    have X5:=X0.out.trans X4.out
    repeat (first | exact X5 | refine Ext.set ?_ (by simp) _)
  ·go_wp2_with (at_builtin; go_must (refine wpList_append_own _ rfl (.tmp 32) (.tmp 33) 62 rfl w1.heap.size 9 i0 _ 1 16 Tryz.underlying62 hi0 hz0 hz1 hz2 rfl (by decide) _ _ _ rfl (Hw.out.alloc _) ⟨wr.heap.size,0,none⟩ 1 1 [.string ⟨#[]⟩] rfl rfl (cell_one_new _ _ _) (by intro u hu; simp at hu; subst hu; rfl) (by simp only [maxLen]; omega) (by omega) (by have:=XR.out.size; simp; omega) ?_); intro v' w4 hown' hg' _; have HO:=Lib.hid hown'; have HG:=Lib.hid hg'; clear hown' hg')
   go_roundw
   case rel=>
    obtain ⟨A2,c2,rfl, _⟩:=own_form HO.out
    exact ⟨m+1,A2,c2,rfl,by omega, .inr (by omega),pad_step rfl HO.out hm1,((XR.out.alloc _).grown HG.out (own_block Hw.out))⟩
   case measure=>
    obtain ⟨A2,c2,rfl, _⟩:=own_form HO.out
    simp [lenOf]; omega
theorem put_any (k l:Int) (A:Option Addr) (n c:Nat) (ss:List ByteArray) (slot:Int) (s:ByteArray) (w:World) (hn:n=ss.length) (h:At w A (ss.map Value.string)) (hs:Small ss) (hss:s.size≤9223372036854775807):
  Calls Tryz.prog 153 #[.agg #[.int .i64 k, .int .i64 l, .slice A n c], .int .i64 slot, .string s] w (PutPost k l ss slot s w):=by
 subst hn
 rcases hr:rightB k l ss with _ | _
 ·have e:putErr k l ss slot s=22:=by rw [putErr,if_pos hr]
  rw [PutPost,e,if_neg (by decide)]
  exact put_not k l A c ss slot s w h hs hr
 ·by_cases hb:slot < 0∨24≤slot∨400 < s.size
  ·have e:putErr k l ss slot s=21:=by rw [putErr,hr,if_neg (by simp),if_pos hb]
   rw [PutPost,e,if_neg (by decide)]
   exact put_item k l A c ss slot s w h hs hr hb hss
  ·obtain ⟨K,rfl⟩:=Int.eq_ofNat_of_zero_le (show 0≤slot by omega)
   exact put_main k l A c ss K s w h hs hr (by omega) (by omega)
end
section
open Go.RowKit
theorem PV.small {v:PV} (h:v.wf):Small (v.its.map Prod.fst):=by
 refine ⟨by rw [List.length_map]; have:=h.1; omega,fun s hs=>?_⟩
 obtain ⟨i,hi,rfl⟩:=List.mem_map.1 hs
 have:=(h.2 i hi).le
 omega
theorem strs_map (its:List Itm):strs its=(its.map Prod.fst).map Value.string:=by simp [strs]
theorem St.repl {w0 W:World} {bor:List Nat} {L1 L2:List Ent} {E E':Ent} (h:St w0 bor (L1++E::L2) W) (hfp:E'.fp=E.fp) (hh:E.holds W→E'.holds W) (hl:E'.loc):St w0 bor (L1++E'::L2) W:=by
 refine ⟨h.upd,fun x hx=>?_,?_⟩
 ·rcases List.mem_append.1 hx with hx | hx
  ·exact h.ok x (List.mem_append_left _ hx)
  ·rcases List.mem_cons.1 hx with e | hx
   ·rw [e]
    have h1:=h.ok E (by simp)
    exact ⟨hh h1.holds,hl,fun k hk=>h1.own k (hfp ▸ hk)⟩
   ·exact h.ok x (by simp [hx])
 ·have ha:=h.apart
  rw [List.pairwise_append,List.pairwise_cons] at ha ⊢
  refine ⟨ha.1,⟨fun b hb k hk hk'=>ha.2.1.1 b hb k (hfp ▸ hk) hk',ha.2.1.2⟩,fun a ha' b hb=>?_⟩
  rcases List.mem_cons.1 hb with e | hb
  ·rw [e]
   exact fun k hk hk'=>ha.2.2 a ha' E (by simp) k hk (hfp ▸ hk')
  ·exact ha.2.2 a ha' b (by simp [hb])
end
section
open Go.RowKit
section
variable {ρ:Operand→Value}
theorem map5 {x0 x1 x2 x3 x4:Operand} {v0 v1 v2 v3 v4:Value} (h0:ρ x0=v0) (h1:ρ x1=v1) (h2:ρ x2=v2) (h3:ρ x3=v3) (h4:ρ x4=v4):#[x0,x1,x2,x3,x4].map ρ=#[v0,v1,v2,v3,v4]:=by simp [h0,h1,h2,h3,h4]
theorem map8 {x0 x1 x2 x3 x4 x5 x6 x7:Operand} {v0 v1 v2 v3 v4 v5 v6 v7:Value} (h0:ρ x0=v0) (h1:ρ x1=v1) (h2:ρ x2=v2) (h3:ρ x3=v3) (h4:ρ x4=v4) (h5:ρ x5=v5) (h6:ρ x6=v6) (h7:ρ x7=v7):#[x0,x1,x2,x3,x4,x5,x6,x7].map ρ=#[v0,v1,v2,v3,v4,v5,v6,v7]:=by simp [h0,h1,h2,h3,h4,h5,h6,h7]
end
end
section
open Go.RowKit
/-- an edit -/
abbrev EdD:=Int×Int×ByteArray
def cellsE (e:EdD):List Value:=[.int .i64 e.1, .int .i64 e.2.1, .string e.2.2]
theorem eds_snoc (l:List EdD) (e:EdD):l.flatMap cellsE++cellsE e=(l++[e]).flatMap cellsE:=by simp
theorem Tryz.infoEdit:(Tryz.prog.info? 49).map (fun i=>(i.zero,i.size,i.bytes))=some (some (.agg #[.int .i64 0, .int .i64 0, .string ByteArray.empty]),3,32):=by kernel_rfl
def EdsPost (l:List EdD) (w:World) (e:Ending) (w':World):Prop:=∃ A c,e= .returned (.slice A l.length c)∧w'.ownsRow w.heap.size 49 3 (.slice A l.length c) l.length (l.flatMap cellsE)∧Ext w w'
def bgL (n tb:Int):List EdD:=[(n, -1,⟨#[1]⟩),(n,0,putS tb 2)]
theorem tb_le (a b n1 n2:Int) (ho:Bool) (rs:List Val):(tbytesF a b n1 n2 ho rs).size≤309:=by
 cases h:trightF a b n1 n2 rs with
 | true=>rw [tb_size h]; have:=vbytes_size rs; omega
 | false=>rw [tbytesF,h]; show 0≤309; decide
/-- the lowest free slot, from 1, where the item fits, or 0 -/
def roomI (v:PV) (s:ByteArray):Int:=if v.ok then (if putErr v.k v.l (v.its.map Prod.fst) (freeF v.k v.l (v.its.map Prod.fst) 1) s=0 then freeF v.k v.l (v.its.map Prod.fst) 1 else 0) else 0
theorem pvits_len {v:PV}:(v.its.map Prod.fst).length=v.its.length:=List.length_map ..
theorem hfree_any (v:PV) (A:Option Addr) (c:Nat) (w:World) (h:v.wf) (hA:At w A (strs v.its)):Calls Tryz.prog 152 #[.agg #[.int .i64 v.k, .int .i64 v.l, .slice A v.its.length c], .int .i64 1] w (Ret (.int .i64 (freeF v.k v.l (v.its.map Prod.fst) 1)) w):=by
 have:=free_any v.k v.l A c (v.its.map Prod.fst) 1 w (by rw [← strs_map]; exact hA) (PV.small h)
 rw [pvits_len] at this
 exact this
theorem hput_ok (v:PV) (A:Option Addr) (c:Nat) (slot:Int) (s:ByteArray) (w:World) (h:v.wf) (hA:At w A (strs v.its)) (hs:s.size≤400) (hp:putErr v.k v.l (v.its.map Prod.fst) slot s=0):
  Calls Tryz.prog 153 #[.agg #[.int .i64 v.k, .int .i64 v.l, .slice A v.its.length c], .int .i64 slot, .string s] w (PgPost v.k v.l (plainL (withL (v.its.map Prod.fst) slot.toNat s)) 0 w):=by
 have h2:=put_any v.k v.l A _ c (v.its.map Prod.fst) slot s w rfl (by rw [← strs_map]; exact hA) (PV.small h) (by omega)
 rw [PutPost,if_pos hp,pvits_len] at h2
 exact h2
theorem hput_bad (v:PV) (A:Option Addr) (c:Nat) (slot:Int) (s:ByteArray) (w:World) (h:v.wf) (hA:At w A (strs v.its)) (hs:s.size≤400) (hp:putErr v.k v.l (v.its.map Prod.fst) slot s≠0):
  Calls Tryz.prog 153 #[.agg #[.int .i64 v.k, .int .i64 v.l, .slice A v.its.length c], .int .i64 slot, .string s] w (PgPost 0 0 [] (putErr v.k v.l (v.its.map Prod.fst) slot s) w):=by
 have h2:=put_any v.k v.l A _ c (v.its.map Prod.fst) slot s w rfl (by rw [← strs_map]; exact hA) (PV.small h) (by omega)
 rw [PutPost,if_neg hp,pvits_len] at h2
 exact h2
/-- the first of the pages of the table where the item fits, with the slot -/
def insP (pv:Int→PV) (tb:Int) (s:ByteArray):List Int→Option (Int×Int)
 | []=>none
 | n::l=>if (hdF (pv n)&&ofF (pv n)==tb)&&decide (0 < roomI (pv n) s) then some (n,roomI (pv n) s) else insP pv tb s l
theorem insP_at {pv:Int→PV} {tb:Int} {s:ByteArray} {ns:List Int} {k:Nat} (h:k < ns.length):insP pv tb s (ns.drop k)=if (hdF (pv (ns.getD k 0))&&ofF (pv (ns.getD k 0))==tb)&&decide (0 < roomI (pv (ns.getD k 0)) s) then some (ns.getD k 0,roomI (pv (ns.getD k 0)) s) else insP pv tb s (ns.drop (k+1)):=by
 rw [List.drop_eq_getElem_cons h,insP,List.getD_eq_getElem?_getD,List.getElem?_eq_getElem h,Option.getD_some]
def insR (pv:Int→PV) (fresh tb:Int) (ns:List Int) (s:ByteArray):(Int×Int)×List EdD×Int:=
 match insP pv tb s ns with
 | some q=>(q,[(q.1,q.2,s)],0)
 | none=>if fresh < 0 then ((0,0),[],23) else ((fresh,1),bgL fresh tb++[(fresh,1,s)],0)
def insBad (s:ByteArray) (fresh tb:Int):Bool:=(((s.toList==(⟨#[]⟩:ByteArray).toList)||(decide (tb < 0)))||(decide (65535 < tb)))||(decide (400≤fresh))
def insA (pv:Int→PV) (fresh tb:Int) (ns:List Int) (s:ByteArray):(Int×Int)×List EdD×Int:=if insBad s fresh tb then ((0,0),[],1) else insR pv fresh tb ns s
def InsPost (R:(Int×Int)×List EdD×Int) (w:World) (e:Ending) (w':World):Prop:=∃ A c,e= .returned (.tuple #[.agg #[.int .i64 R.1.1, .int .i64 R.1.2], .slice A R.2.1.length c, .int .i64 R.2.2])∧
 w'.ownsRow w.heap.size 49 3 (.slice A R.2.1.length c) R.2.1.length (R.2.1.flatMap cellsE)∧Ext w w'
theorem InsPost.of {R:(Int×Int)×List EdD×Int} {w w':World} {a1 a2 er:Int} {A:Option Addr} {c n:Nat} {l:List EdD} {xs:List Value} (h:R=((a1,a2),l,er)) (hn:n=l.length) (hxs:xs=l.flatMap cellsE) (ho:w'.ownsRow w.heap.size 49 3 (.slice A n c) n xs) (hx:Ext w w'):
  InsPost R w (.returned (.tuple #[.agg #[.int .i64 a1, .int .i64 a2], .slice A n c, .int .i64 er])) w':=by
 subst hn hxs h
 exact ⟨A,c,rfl,ho,hx⟩
theorem InsPost.nil {R:(Int×Int)×List EdD×Int} {w w':World} {a1 a2 er:Int} (h:R=((a1,a2),[],er)) (hx:Ext w w'):
  InsPost R w (.returned (.tuple #[.agg #[.int .i64 a1, .int .i64 a2], .slice none 0 0, .int .i64 er])) w':=InsPost.of h rfl rfl (World.ownsRow_nil _ _ _ _) hx
theorem hbegin_any (n tb:Int) (w:World):
  Calls Tryz.prog 84 #[.int .i64 n, .int .i64 tb] w (EdsPost (bgL n tb) w):=by
 go_enter Tryz.func84,Tryz.ntmps84
 have hst0:=St.start w
 refine wp_seq (sqr (sqp [.k 4 (.slice none 0 0)] ?_))
 refine then_normal (wp_seq (wp_region_Y [0,0,2,7,0,0,32,112,255,511] [[],[],[0]] [[],[0],[],[],[],[],[],[],[1]] [] [.k 5 (vi n), .a 6, .c 7 (.string (strOfNums ([1]))), .k 8 (.agg #[vi n,vi (-1), .string (strOfNums ([1]))]), .k 9 (vi n), .k 10 (vi tb), .c 11 (.string (putS tb 2)), .k 12 (.agg #[vi n,vi 0, .string (putS tb 2)]), .a 13, .a 4] (fun ix σ β X=>match ix with | 0=>True | 1=>σ 6= .slice (sA (β 6)) 1 1∧X 0=eO 5 1 (.slice (sA (β 6)) 1 1) 1 ([.int .u8 1]) | 2=>True | 3=>True | 4=>True | 5=>True | 6=>True | 7=>True | 8=>σ 13= .slice ((some ⟨(pb' (β 13)),0,none⟩)) 2 2∧X 1=eO 49 3 (.slice ((some ⟨(pb' (β 13)),0,none⟩)) 2 2) 2 ([vi n,vi (-1), .string (strOfNums ([1])),vi n,vi 0, .string (putS tb 2)]) | 9=>σ 4= .slice ((some ⟨(pb' (β 13)),0,none⟩)) 2 2 | _=>True) [0,1] [1,2,6,8,9] [(4,9,1,5),(0,0,9,9)] hst0 ?_ ?_ ?_))
 ·exact fun ix _ _ _ _ _ _ hs hb hx h=>match ix,h with
  | 1,h=>by dsimp only; rw [← hs 6 rfl,← hb 6 rfl,← hx 0 rfl]; exact h
  | 8,h=>by dsimp only; rw [← hs 13 rfl,← hb 13 rfl,← hx 1 rfl]; exact h
  | 9,h=>by dsimp only; rw [← hs 4 rfl,← hb 13 rfl]; exact h
  | 0, _ | 2, _ | 3, _ | 4, _ | 5, _ | 6, _ | 7, _ | _+10, _=>trivial
 ·refine ⟨?_,?_,?_,?_,?_,trivial⟩
  ·refine svA fun ρ β W X cx=>?_
   exact dv_lit (e:=5) (xs:=[.int .u8 1]) rfl (by simp [go_sem,cx.sees.const]) rfl (by decide) rfl rfl (fun σ β' X' hs hb hv hx=>⟨hv,hx⟩)
  ·exact xs4 rfl id fun cx=>run_convB (e:=5) rfl (by kernel_rfl) (by kernel_rfl) (by kernel_rfl) (dTn (cx.an 1)).1 (cx.row (dTn (cx.an 1)).2 rfl)
  ·exact xsc rfl id rfl rfl fun cx=>⟨_,oput2_any tb _,(map2 (cx.an 5) (cx.co _))⟩
  ·refine svA fun ρ β W X cx=>?_
   have fF8:ρ (.tmp 8)= .agg #[vi n,vi (-1), .string (strOfNums ([1]))]:=(cx.an 3)
   have fF12:ρ (.tmp 12)= .agg #[vi n,vi 0, .string (putS tb 2)]:=(cx.an 7)
   exact dv_litN (e:=49) (sz:=3) (xs:=[vi n,vi (-1), .string (strOfNums ([1])),vi n,vi 0, .string (putS tb 2)]) rfl (by simp [go_sem,fF8,fF12]) rfl (by decide) rfl rfl (fun σ β' X' hs hb hv hx=>⟨hv,hx⟩)
  ·exact sv rfl rfl rfl rfl rfl _ (fun _ _ _ h=>h) (fun β β' h=>by rw [h 13 (by decide)]) fun ρ β W X cx=>run_assign' rfl (dTn (cx.an 8)).1
 intro σ β X W2 hD hst2 fr hfr
 obtain ⟨A6_2,hu_A6_2⟩:∃ z,sA (β 6)=z:=⟨_,rfl⟩
 obtain ⟨B13_2,hu_B13_2⟩:∃ z,pb' (β 13)=z:=⟨_,rfl⟩
 simp only [exq 0 ((dTn (hD 1 lq)).2),exq 1 ((dTn (hD 8 lq)).2),hu_A6_2,hu_B13_2] at hst2
 simp only [ed 6 ((dTn (hD 1 lq)).1),ed 13 ((dTn (hD 8 lq)).1),ed 4 ((dTn (hD 9 lq))),hu_A6_2,hu_B13_2] at hfr
 clear hD hu_A6_2 hu_B13_2; subst hfr; clear σ β X
 refine then_normal (wp_ret ?_)
 refine bpr (.slice ((some ⟨B13_2,0,none⟩)) 2 2) (results_1 Tryz.results84 rpt) ?_
 exact ⟨_, _,rfl,hst2.own' 1 rfl,hst2.ext⟩
theorem hnone_any (w:World):
  Calls Tryz.prog 90 #[] w (Ret (.agg #[.int .i64 (-1), .int .i64 0]) w):=by
 go_enter Tryz.func90,Tryz.ntmps90
 have hst0:=St.start w
 refine wp_seq (sqr (sqal #[vi 0,vi 0] hst0 fun B0_1 W1 hst1=>?_))
 refine then_normal (wp_seq (sqr (sqp [.k 1 (.agg #[vi (-1),vi 0])] ?_)))
 refine sqst (n:=2) 0 #[vi (-1),vi 0] hst1 fun W3 hst3=>?_
 refine then_normal (wp_ret ?_)
 refine bpr (.agg #[vi (-1),vi 0]) (results_cell (n:=2) Tryz.results90 rfl (by kernel_rfl) (by kernel_rfl) (hst3.blk 0 rfl) rfl) ?_
 exact Ret.of rfl hst3.ext
theorem hring_any (x:Int) (w:World):
  Calls Tryz.prog 91 #[.int .i64 x] w (Ret (.bool (onF x)) w):=by
 go_enter Tryz.func91,Tryz.ntmps91
 have hst0:=St.start w
 refine wp_seq (sqr (sqp [.k 2 (.bool false)] ?_))
 refine then_normal (wp_seq (sqr (sqp [.m 3 0, .k 4 (.bool (decide (3≤x))), .m 5 4] ?_)))
 refine sqw 5 [6,7] rfl (fun _=>sqp [.m 6 0, .k 7 (.bool (decide (x < 128)))] sqe) ?_
 refine sqp [sPa 8 (decide (3≤x)) (decide (x < 128)), .m 2 8] ?_
 refine then_normal (wp_ret ?_)
 refine bpr (.bool ((decide (3≤x))&&(decide (x < 128)))) (results_1 Tryz.results91 rpt) ?_
 exact Ret.bool rfl hst0.ext
theorem hget_any (tt:TypeId) (tv:Value) (pv:Int→PV) (n j:Int) (w:World) (hS:PgsOk w tt tv pv) (hN:NoneAt w):
  Calls Tryz.prog 89 #[.iface tt (tv), .agg #[.int .i64 n, .int .i64 j]] w (VerAt (atF (pv n) j) w):=by
 obtain ⟨f0,rv,hM,hC,hG⟩:=hS.ex
 have hwf:=hS.wf n
 have hwl:=hwf.1
 go_enter Tryz.func89,Tryz.ntmps89
 have hst0:=St.start w
 refine wp_seq (sqr ?_)
 refine sqbx #[vi n,vi j] hst0 fun B3_1 W1 hst1=>?_
 refine sqal #[vi 0,vi 0,vi 0,vi 0, .bool false, .slice none 0 0] hst1 fun B4_2 W2 hst2=>?_
 refine sqp [.k 5 (.bool false)] ?_
 refine then_normal (wp_seq (wp_seq (sqr (sqp [.m 13 0, .k 14 (vp B3_1)] ?_))))
 refine sqld 0 hst2 ?_
 refine sqk (.tuple #[vi ((ofF (pv n))), .bool ((hdF (pv n)))]) hst2 (fun cx=>⟨_,of_any _ _ pv n _ (hS.ext cx.upd.to_ext),(map2 (cx.ou 13) (cx.ou 15))⟩) fun W7 hst7=>?_
 refine sqp [.m 12 16, .k 17 (vi ((ofF (pv n)))), .k 18 (.bool ((hdF (pv n)))), .m 6 17, .m 7 18] ?_
 refine then_normal (wp_seq (sqr (sqp [.m 19 7, .k 20 (.bool (!((hdF (pv n))))), .m 21 20] ?_)))
 refine sqw' 21 [22,23,24] ?_ rfl (fun hq=>?_) ?_
 rotate_left
 ·refine sqp [.k 22 (.pointer (some ⟨B3_1,1,none⟩))] ?_
  refine sqld 0 hst7 ?_
  refine sqp [.k 24 (.bool (decide (j < 1)))] ?_
  exact sqe
 refine sqwx ?_
 refine sqp [sPo 25 (!((hdF (pv n)))) (decide (j < 1))] ?_
 refine then_normal (wbs (fun hs20=>?_) fun hs20=>?_)
 ·have hs20p:=hs20
  simp only [zB] at hs20p
  refine wp_seq (sqr (sqp [.k 26 (.agg #[vi 0,vi 0,vi 0,vi 0, .bool false, .slice none 0 0])] ?_))
  refine sqst (n:=6) 1 #[vi 0,vi 0,vi 0,vi 0, .bool false, .slice none 0 0] hst7 fun W22 hst22=>?_
  refine sqp [.k 5 (.bool false)] ?_
  refine then_normal (wp_ret (then_ret ?_))
  refine bpr (.tuple #[.agg #[vi 0,vi 0,vi 0,vi 0, .bool false, .slice none 0 0], .bool false]) (results_2 Tryz.results89 (rpa (hst22.blk 1 rfl) 0 6) rpt) ?_
  have hat:atF (pv n) j=none:=by rw [atF,if_neg (by rintro ⟨a_,b_,c_⟩; have d_:=(tbF_hd (pv n)).1 a_; first | (simp_all; done) | (simp_all; omega))]
  rw [hat]
  exact ⟨none,0,rfl,World.ownsRow_nil _ _ _ _,hst22.ext⟩
 have hs20p:=hs20
 simp only [zB] at hs20p
 obtain ⟨hs20p1,hs20p2⟩:=hs20p
 refine wp_skip (then_normal (wp_seq (sqr (sqp [.m 28 0, .k 29 (vp B3_1)] ?_))))
 refine sqld 0 hst7 ?_
 refine sqn2 (fun x_=>sA (tg (tg x_ 0) 2)) (fun x_=>sC (tg (tg x_ 0) 2)) (fun A31_27 c31_27=> .tuple #[.agg #[vi ((pv n).k),vi ((pv n).l), .slice A31_27 ((pv n).its.length) c31_27], .bool ((pv n).ok)]) (fun A31_27 c31_27=>eO 9 1 (.slice A31_27 ((pv n).its.length) c31_27) ((pv n).its.length) (strs (pv n).its)) hst7 (by
   refine svA fun ρ β W X cx=>?_
   refine DoesU.call (run_invoke (args:=#[vi n]) (args':=#[rv,vi n]) rfl rfl (cx.ou 28) hM hC (map1 (cx.ou 30)) rfl) ?_
   refine (hG _ n cx.upd.to_ext).mono ?_
   rintro e W1 ⟨A4,c4,rfl,ho,hx⟩
   refine ⟨_,rfl,post_call [eO 9 1 (.slice A4 (pv n).its.length c4) (pv n).its.length (strs (pv n).its)] rfl rfl hx (one_new (eO_new ho)) (List.pairwise_singleton _ _) (fun σ β' X' hs hb hv hN=>?_)⟩
   have hv1:=(hv 31 rfl).1; have hv2:=(hv 31 rfl).2
   exact ⟨hv1.trans (by rw [hv2]; rfl),(by rw [hv2]; exact (List.cons.inj hN).1)⟩) fun A31_27 c31_27 W27 hst27=>?_
 refine sqp [.m 27 31, .k 32 (.agg #[vi ((pv n).k),vi ((pv n).l), .slice A31_27 ((pv n).its.length) c31_27]), .k 33 (.bool ((pv n).ok))] ?_
 refine sqal #[vi 0,vi 0, .slice none 0 0] hst27 fun B8_31 W31 hst31=>?_
 refine sqst (n:=3) 3 #[vi ((pv n).k),vi ((pv n).l), .slice A31_27 ((pv n).its.length) c31_27] hst31 fun W32 hst32=>?_
 refine sqp [.m 9 33] ?_
 refine then_normal (wp_seq (wp_seq (sqr (sqp [.k 34 (.pointer (some ⟨B3_1,1,none⟩))] ?_))))
 refine sqld 0 hst32 ?_
 refine sqp [.k 36 (.pointer (some ⟨B8_31,2,none⟩))] ?_
 refine sqld 3 hst32 ?_
 refine sqp [.k 38 (vi (((pv n).its.length:Int))), .k 39 (.bool (decide (((pv n).its.length:Int)≤j)))] ?_
 refine then_normal (wds (fun hs40 hs40p=>?_) fun hs40 hs40p=>?_)
 ·refine wp_seq (sqr (sqp [.k 40 (.agg #[vi 0,vi 0,vi 0,vi 0, .bool false, .slice none 0 0])] ?_))
  refine sqst (n:=6) 1 #[vi 0,vi 0,vi 0,vi 0, .bool false, .slice none 0 0] hst32 fun W42 hst42=>?_
  refine sqp [.k 5 (.bool false)] ?_
  refine then_normal (wp_ret (then_ret ?_))
  refine bpr (.tuple #[.agg #[vi 0,vi 0,vi 0,vi 0, .bool false, .slice none 0 0], .bool false]) (results_2 Tryz.results89 (rpa (hst42.blk 1 rfl) 0 6) rpt) ?_
  have hat:atF (pv n) j=none:=by rw [atF,if_neg (by rintro ⟨a_,b_,c_⟩; have d_:=(tbF_hd (pv n)).1 a_; first | (simp_all; done) | (simp_all; omega))]
  rw [hat]
  exact ⟨none,0,rfl,World.ownsRow_nil _ _ _ _,hst42.ext⟩
 refine wp_skip (then_normal (wp_seq ?_))
 obtain ⟨J,rfl⟩:∃ J:Nat,j=(J:Int):=⟨j.toNat,by omega⟩
 have hdj:=PV.desc hwf (j:=J) (by omega)
 refine sqr (sqp [.k 42 (.pointer (some ⟨B8_31,2,none⟩))] ?_)
 refine sqld 3 hst32 ?_
 refine sqp [.k 44 (.pointer (some ⟨B3_1,1,none⟩))] ?_
 refine sqld 0 hst32 ?_
 refine sql (.pointer (some ((ad A31_27).add J))) hst32 (fun cx=>run_indexSl (e:=9) (m:=J) rfl (by kernel_rfl) (by kernel_rfl) (cx.ou 43) (cx.ou 45) (by omega) (by omega) (At.of_own (cx.ri 2 rfl)) (strs_len _)) ?_
 refine sql (.string (((pv n).its.getD J it0).1)) hst32 (fun cx=>run_load1 rfl (by kernel_rfl) (cx.ou 46) (At.cellAd (At.of_own (cx.ri 2 rfl)) (getD_strs (by omega)))) ?_
 refine sqk2 (fun A48_50 c48_50=> .tuple #[.agg #[vi ((vD ((pv n).its.getD J it0).2).1),vi ((vD ((pv n).its.getD J it0).2).2.1),vi ((vD ((pv n).its.getD J it0).2).2.2.1),vi ((vD ((pv n).its.getD J it0).2).2.2.2.1), .bool ((vD ((pv n).its.getD J it0).2).2.2.2.2.1), .slice A48_50 ((vD ((pv n).its.getD J it0).2).2.2.2.2.2.length) c48_50],vi ((eD ((pv n).its.getD J it0).2))]) (fun A48_50 c48_50=>eO 45 3 (.slice A48_50 ((vD ((pv n).its.getD J it0).2).2.2.2.2.2.length) c48_50) ((vD ((pv n).its.getD J it0).2).2.2.2.2.2.length) (flatR (vD ((pv n).its.getD J it0).2).2.2.2.2.2)) hst32 (fun cx=>⟨_,(tread_desc _ hdj (hN.ext cx.upd.to_ext)).mono (by rintro e W1 ⟨A4,c4,rfl,ho,hx⟩; exact ⟨_, _,rfl,St.one hx (eO_new ho)⟩),(map1 (cx.ou 47))⟩) fun A48_50 c48_50 W50 hst50=>?_
 refine sqp [.m 41 48, .k 49 (.agg #[vi ((vD ((pv n).its.getD J it0).2).1),vi ((vD ((pv n).its.getD J it0).2).2.1),vi ((vD ((pv n).its.getD J it0).2).2.2.1),vi ((vD ((pv n).its.getD J it0).2).2.2.2.1), .bool ((vD ((pv n).its.getD J it0).2).2.2.2.2.1), .slice A48_50 ((vD ((pv n).its.getD J it0).2).2.2.2.2.2.length) c48_50]), .k 50 (vi ((eD ((pv n).its.getD J it0).2)))] ?_
 refine sqal #[vi 0,vi 0,vi 0,vi 0, .bool false, .slice none 0 0] hst50 fun B10_54 W54 hst54=>?_
 refine sqst (n:=6) 5 #[vi ((vD ((pv n).its.getD J it0).2).1),vi ((vD ((pv n).its.getD J it0).2).2.1),vi ((vD ((pv n).its.getD J it0).2).2.2.1),vi ((vD ((pv n).its.getD J it0).2).2.2.2.1), .bool ((vD ((pv n).its.getD J it0).2).2.2.2.2.1), .slice A48_50 ((vD ((pv n).its.getD J it0).2).2.2.2.2.2.length) c48_50] hst54 fun W55 hst55=>?_
 refine sqp [.m 11 50] ?_
 refine then_normal (wp_seq (sqr ?_))
 refine sqlb 5 6 hst55 ?_
 refine sqp [.m 52 11, .k 53 (.bool ((eD ((pv n).its.getD J it0).2)==0))] ?_
 refine sqst (n:=6) 1 #[vi ((vD ((pv n).its.getD J it0).2).1),vi ((vD ((pv n).its.getD J it0).2).2.1),vi ((vD ((pv n).its.getD J it0).2).2.2.1),vi ((vD ((pv n).its.getD J it0).2).2.2.2.1), .bool ((vD ((pv n).its.getD J it0).2).2.2.2.2.1), .slice A48_50 ((vD ((pv n).its.getD J it0).2).2.2.2.2.2.length) c48_50] hst55 fun W60 hst60=>?_
 refine sqp [.m 5 53] ?_
 refine then_normal (wp_ret ?_)
 refine bpr (.tuple #[.agg #[vi ((vD ((pv n).its.getD J it0).2).1),vi ((vD ((pv n).its.getD J it0).2).2.1),vi ((vD ((pv n).its.getD J it0).2).2.2.1),vi ((vD ((pv n).its.getD J it0).2).2.2.2.1), .bool ((vD ((pv n).its.getD J it0).2).2.2.2.2.1), .slice A48_50 ((vD ((pv n).its.getD J it0).2).2.2.2.2.2.length) c48_50], .bool ((eD ((pv n).its.getD J it0).2)==0)]) (results_2 Tryz.results89 (rpa (hst60.blk 1 rfl) 0 6) rpt) ?_
 have hat:atF (pv n) (J:Int)=((pv n).its.getD J it0).2:=by rw [atF,if_pos ⟨(tbF_hd (pv n)).2 (by simp_all),by omega,by omega⟩]; rfl
 rw [hat]
 exact ⟨_, _,by rw [eD_some],hst60.own' 4 rfl,hst60.ext⟩
theorem hroomi_any (tt:TypeId) (tv:Value) (pv:Int→PV) (n:Int) (s:ByteArray) (w:World) (hS:PgsOk w tt tv pv) (hs400:s.size≤400):
  Calls Tryz.prog 83 #[.iface tt (tv), .int .i64 n, .string s] w (Ret (.int .i64 (roomI (pv n) s)) w):=by
 obtain ⟨f0,rv,hM,hC,hG⟩:=hS.ex
 have hwf:=hS.wf n
 have hwl:=hwf.1
 go_enter Tryz.func83,Tryz.ntmps83
 have hst0:=St.start w
 refine wp_seq (sqr (sqp [.k 6 (vi 0)] ?_))
 refine then_normal (wp_seq (sqr (sqp [.m 13 0, .m 14 1] ?_)))
 refine sqn2 (fun x_=>sA (tg (tg x_ 0) 2)) (fun x_=>sC (tg (tg x_ 0) 2)) (fun A15_4 c15_4=> .tuple #[.agg #[vi ((pv n).k),vi ((pv n).l), .slice A15_4 ((pv n).its.length) c15_4], .bool ((pv n).ok)]) (fun A15_4 c15_4=>eO 9 1 (.slice A15_4 ((pv n).its.length) c15_4) ((pv n).its.length) (strs (pv n).its)) hst0 (by
   refine svA fun ρ β W X cx=>?_
   refine DoesU.call (run_invoke (args:=#[vi n]) (args':=#[rv,vi n]) rfl rfl (cx.ou 13) hM hC (map1 (cx.ou 14)) rfl) ?_
   refine (hG _ n cx.upd.to_ext).mono ?_
   rintro e W1 ⟨A4,c4,rfl,ho,hx⟩
   refine ⟨_,rfl,post_call [eO 9 1 (.slice A4 (pv n).its.length c4) (pv n).its.length (strs (pv n).its)] rfl rfl hx (one_new (eO_new ho)) (List.pairwise_singleton _ _) (fun σ β' X' hs hb hv hN=>?_)⟩
   have hv1:=(hv 15 rfl).1; have hv2:=(hv 15 rfl).2
   exact ⟨hv1.trans (by rw [hv2]; rfl),(by rw [hv2]; exact (List.cons.inj hN).1)⟩) fun A15_4 c15_4 W4 hst4=>?_
 refine sqp [.m 12 15, .k 16 (.agg #[vi ((pv n).k),vi ((pv n).l), .slice A15_4 ((pv n).its.length) c15_4]), .k 17 (.bool ((pv n).ok))] ?_
 refine sqal #[vi 0,vi 0, .slice none 0 0] hst4 fun B7_8 W8 hst8=>?_
 refine sqst (n:=3) 1 #[vi ((pv n).k),vi ((pv n).l), .slice A15_4 ((pv n).its.length) c15_4] hst8 fun W9 hst9=>?_
 refine sqp [.m 8 17] ?_
 refine then_normal (wp_seq (wp_seq (sqr (sqp [.m 18 8, .k 19 (.bool (!((pv n).ok)))] ?_))))
 refine then_normal ?_
 rcases Bool.eq_false_or_eq_true ((pv n).ok) with hs13 | hs13
 ·refine wp_cond_false (show Act.eval _ _= .bool false from (congrArg Value.bool (by rw [hs13]; rfl))) (wp_skip (then_normal (wp_seq (sqr ?_))))
  refine sqlb 1 3 hst9 ?_
  refine sqk (vi ((freeF (pv n).k (pv n).l ((pv n).its.map Prod.fst) 1))) hst9 (fun cx=>⟨_,hfree_any (pv n) _ _ _ hwf (At.of_own (cx.ri 0 rfl)),(map2 (cx.ou 20) (cx.co _))⟩) fun W15 hst15=>?_
  refine sqp [.m 9 21] ?_
  refine then_normal (wp_seq (wp_seq ?_))
  rcases Decidable.em ((putErr (pv n).k (pv n).l ((pv n).its.map Prod.fst) (freeF (pv n).k (pv n).l ((pv n).its.map Prod.fst) 1) s)=0) with hpe | hpe
  ·refine sqr ?_
   refine sqlb 1 3 hst15 ?_
   refine sqp [.m 24 9, .m 25 2] ?_
   refine sqk2 (fun A26_20 c26_20=> .tuple #[.agg #[vi ((pv n).k),vi ((pv n).l), .slice A26_20 ((plainL (withL ((pv n).its.map Prod.fst) (freeF (pv n).k (pv n).l ((pv n).its.map Prod.fst) 1).toNat s)).length) c26_20],vi 0]) (fun A26_20 c26_20=>eO 9 1 (.slice A26_20 ((plainL (withL ((pv n).its.map Prod.fst) (freeF (pv n).k (pv n).l ((pv n).its.map Prod.fst) 1).toNat s)).length) c26_20) ((plainL (withL ((pv n).its.map Prod.fst) (freeF (pv n).k (pv n).l ((pv n).its.map Prod.fst) 1).toNat s)).length) ((plainL (withL ((pv n).its.map Prod.fst) (freeF (pv n).k (pv n).l ((pv n).its.map Prod.fst) 1).toNat s)).map Value.string)) hst15 (fun cx=>⟨_,(hput_ok (pv n) _ _ (freeF (pv n).k (pv n).l ((pv n).its.map Prod.fst) 1) s _ hwf (At.of_own (cx.ri 0 rfl)) hs400 hpe).mono (by rintro e W1 ⟨A4,c4,rfl,ho,hx⟩; exact ⟨_, _,rfl,St.one hx (eO_new ho)⟩),(map3 (cx.ou 23) (cx.ou 24) (cx.ou 25))⟩) fun A26_20 c26_20 W20 hst20=>?_
   refine sqp [.m 22 26, .k 27 (.agg #[vi ((pv n).k),vi ((pv n).l), .slice A26_20 ((plainL (withL ((pv n).its.map Prod.fst) (freeF (pv n).k (pv n).l ((pv n).its.map Prod.fst) 1).toNat s)).length) c26_20]), .k 28 (vi 0)] ?_
   refine sqal #[vi 0,vi 0, .slice none 0 0] hst20 fun B10_24 W24 hst24=>?_
   refine sqst (n:=3) 3 #[vi ((pv n).k),vi ((pv n).l), .slice A26_20 ((plainL (withL ((pv n).its.map Prod.fst) (freeF (pv n).k (pv n).l ((pv n).its.map Prod.fst) 1).toNat s)).length) c26_20] hst24 fun W25 hst25=>?_
   refine sqp [.m 11 28] ?_
   refine then_normal (wp_seq (sqr (sqp [.m 29 11, .k 30 (.bool false)] ?_)))
   refine then_normal (wcf rfl (wp_skip (then_normal (wp_seq (sqr (sqp [.m 31 9, .m 6 31] ?_))))))
   refine then_normal (wp_ret ?_)
   refine bpr (vi ((freeF (pv n).k (pv n).l ((pv n).its.map Prod.fst) 1))) (results_1 Tryz.results83 rpt) ?_
   exact Ret.int (by rw [roomI,if_pos (by simp_all),if_pos hpe]) hst25.ext
  ·refine sqr ?_
   refine sqlb 1 3 hst15 ?_
   refine sqp [.m 24 9, .m 25 2] ?_
   refine sqk2 (fun A26_34 c26_34=> .tuple #[.agg #[vi 0,vi 0, .slice A26_34 (([]:List ByteArray).length) c26_34],vi ((putErr (pv n).k (pv n).l ((pv n).its.map Prod.fst) (freeF (pv n).k (pv n).l ((pv n).its.map Prod.fst) 1) s))]) (fun A26_34 c26_34=>eO 9 1 (.slice A26_34 (([]:List ByteArray).length) c26_34) (([]:List ByteArray).length) (([]:List ByteArray).map Value.string)) hst15 (fun cx=>⟨_,(hput_bad (pv n) _ _ (freeF (pv n).k (pv n).l ((pv n).its.map Prod.fst) 1) s _ hwf (At.of_own (cx.ri 0 rfl)) hs400 hpe).mono (by rintro e W1 ⟨A4,c4,rfl,ho,hx⟩; exact ⟨_, _,rfl,St.one hx (eO_new ho)⟩),(map3 (cx.ou 23) (cx.ou 24) (cx.ou 25))⟩) fun A26_34 c26_34 W34 hst34=>?_
   refine sqp [.m 22 26, .k 27 (.agg #[vi 0,vi 0, .slice A26_34 (([]:List ByteArray).length) c26_34]), .k 28 (vi ((putErr (pv n).k (pv n).l ((pv n).its.map Prod.fst) (freeF (pv n).k (pv n).l ((pv n).its.map Prod.fst) 1) s)))] ?_
   refine sqal #[vi 0,vi 0, .slice none 0 0] hst34 fun B10_38 W38 hst38=>?_
   refine sqst (n:=3) 3 #[vi 0,vi 0, .slice A26_34 (([]:List ByteArray).length) c26_34] hst38 fun W39 hst39=>?_
   refine sqp [.m 11 28] ?_
   refine then_normal (wp_seq (sqr ?_))
   have hd43:((putErr (pv n).k (pv n).l ((pv n).its.map Prod.fst) (freeF (pv n).k (pv n).l ((pv n).its.map Prod.fst) 1) s) != 0)=true:=(by simpa using hpe)
   refine sqp [.m 29 11, .e 30 (.bool ((putErr (pv n).k (pv n).l ((pv n).its.map Prod.fst) (freeF (pv n).k (pv n).l ((pv n).its.map Prod.fst) 1) s) != 0)) (.bool true) (congrArg Value.bool hd43)] ?_
   refine then_normal (wct rfl (wp_seq (sqr (sqp [.k 6 (vi 0)] ?_))))
   refine then_normal (wp_ret (then_ret ?_))
   refine bpr (vi 0) (results_1 Tryz.results83 rpt) ?_
   exact Ret.int (by rw [roomI,if_pos (by simp_all),if_neg hpe]) hst39.ext
 refine wp_cond_true (show Act.eval _ _= .bool true from (congrArg Value.bool (by rw [hs13]; rfl))) (wp_seq (sqr (sqp [.k 6 (vi 0)] ?_)))
 refine then_normal (wp_ret (then_ret ?_))
 refine bpr (vi 0) (results_1 Tryz.results83 rpt) ?_
 exact Ret.int (by rw [roomI,if_neg (by simp_all)]) hst9.ext
theorem hinsert_any (tt:TypeId) (tv:Value) (pv:Int→PV) (NA:Option Addr) (nc:Nat) (ns:List Int) (fresh tb:Int) (a b n1 n2:Int) (ho:Bool) (RA:Option Addr) (rc:Nat) (rs:List Val) (w:World) (hS:PgsOk w tt tv pv) (hA:At w NA (ns.map (Value.int .i64))) (hnl:ns.length≤100000) (hR:At w RA (flatR rs)) (hrl:rs.length≤9223372036854775807) (hN:NoneAt w):
  Calls Tryz.prog 20 #[.iface tt (tv), .slice NA ns.length nc, .int .i64 fresh, .int .i64 tb, .agg #[.int .i64 a, .int .i64 b, .int .i64 n1, .int .i64 n2, .bool ho, .slice RA rs.length rc]] w (InsPost (insA pv fresh tb ns (tbytesF a b n1 n2 ho rs)) w):=by
 go_enter Tryz.func20,Tryz.ntmps20
 have hst0:=St.start w
 refine wp_seq (sqr ?_)
 refine sqbx #[vi a,vi b,vi n1,vi n2, .bool ho, .slice RA rs.length rc] hst0 fun B9_1 W1 hst1=>?_
 refine sqal #[vi 0,vi 0] hst1 fun B10_2 W2 hst2=>?_
 refine sqp [.k 11 (.slice none 0 0), .k 12 (vi 0)] ?_
 refine then_normal (wp_seq (sqr ?_))
 refine sqlb 0 6 hst2 ?_
 refine sqk (.string (tbytesF a b n1 n2 ho rs)) hst2 (fun cx=>⟨_,tbytes_any a b n1 n2 ho _ _ rs _ (hR.ext cx.upd.to_ext) (by first | omega | decide | (simp; done) | (simp; omega)) (hN.ext cx.upd.to_ext),(map1 (cx.ou 19))⟩) fun W6 hst6=>?_
 refine sqp [.m 13 20] ?_
 obtain ⟨s,hN_s⟩:∃ z,tbytesF a b n1 n2 ho rs=z:=⟨_,rfl⟩
 rw [hN_s]
 have hs309:s.size≤309:=by rw [← hN_s]; exact tb_le _ _ _ _ _ _
 refine then_normal (wp_seq (wp_seq (sqr (sqp [.m 21 13, .k 22 (.bool (s.toList==((⟨#[]⟩:ByteArray)).toList)), .m 23 22] ?_))))
 refine sqw 23 [24,25] rfl (fun _=>sqp [.m 24 3, .k 25 (.bool (decide (tb < 0)))] sqe) ?_
 refine sqp [sPo 26 (s.toList==((⟨#[]⟩:ByteArray)).toList) (decide (tb < 0)), .m 27 26] ?_
 refine sqw 27 [28,29] rfl (fun _=>sqp [.m 28 3, .k 29 (.bool (decide (65535 < tb)))] sqe) ?_
 refine sqp [sPo 30 ((s.toList==((⟨#[]⟩:ByteArray)).toList)||(decide (tb < 0))) (decide (65535 < tb)), .m 31 30] ?_
 refine sqw 31 [32,33] rfl (fun _=>sqp [.m 32 2, .k 33 (.bool (decide (400≤fresh)))] sqe) ?_
 refine sqp [sPo 34 (((s.toList==((⟨#[]⟩:ByteArray)).toList)||(decide (tb < 0)))||(decide (65535 < tb))) (decide (400≤fresh))] ?_
 refine then_normal (wbs (fun hs22=>?_) fun hs22=>?_)
 ·have hs22p:=hs22
  simp only [zB] at hs22p
  refine wp_seq (sqr (sqp [.k 35 (.agg #[vi 0,vi 0])] ?_))
  refine sqst (n:=2) 1 #[vi 0,vi 0] hst6 fun W24 hst24=>?_
  refine sqp [.k 11 (.slice none 0 0), .k 12 (vi 1)] ?_
  refine then_normal (wp_ret (then_ret ?_))
  refine bpr (.tuple #[.agg #[vi 0,vi 0], .slice none 0 0,vi 1]) (results_3 Tryz.results20 (rpa (hst24.blk 1 rfl) 0 2) rpt rpt) ?_
  exact InsPost.nil (by rw [insA,insBad,if_pos hs22]) hst24.ext
 have hs22p:=hs22
 simp only [zB] at hs22p
 obtain ⟨⟨⟨hs22p1,hs22p2⟩,hs22p3⟩,hs22p4⟩:=hs22p
 refine wp_skip (then_normal (wp_seq (wp_seq (sqr (sqp [.m 36 1, .k 37 (vi ((ns.length:Int))), .k 38 (vi 0)] ?_)))))
 refine then_normal (wp_block ?_)
 refine wp_loopT (fun t_ mz az W=>∃ k:Nat,k≤ns.length∧insP pv tb s ns=insP pv tb s (ns.drop k)∧mz=ns.length - k∧az=⟨(ovr (jv az) [(11,11,2,[]),(2,15,4,[]),(19,38,0,[vi ((k:Int))]),(0,39,30,[])] t_).toArray,[]⟩∧St w [] [eB B9_1 41 #[vi a,vi b,vi n1,vi n2, .bool ho, .slice RA rs.length rc],eB B10_2 24 #[vi 0,vi 0]] W) (ns.length - 0) ?_ ?_
 · -- the loop begins
   exact ⟨0,Nat.zero_le _,rfl,rfl,(by kernel_rfl),hst6.pk [0,1]⟩
 rintro n30 a30 W30 ⟨k,hk,hkr,rfl,hj_,hst30⟩
 refine ovz hj_ fun u30_=>?_
 refine wp_seq (sqr (sqp [.k 39 (.bool (decide ((k:Int) < (ns.length:Int))))] ?_))
 refine then_normal (wp_seq (wds (fun hs32 hs32p=>?_) fun hs32 hs32p=>?_))
 ·refine wp_skip (then_normal (wp_seq (wp_block (wp_seq (sqr ?_)))))
  refine sql (.pointer (some ((ad NA).add k))) hst30 (fun cx=>run_indexSl (e:=3) (m:=k) rfl (by kernel_rfl) (by kernel_rfl) (cx.ou 36) (cx.ou 38) (by omega) (by omega) (hA.ext cx.upd.to_ext) (by simp)) ?_
  refine sql (vi (ns.getD k 0)) hst30 (fun cx=>run_load1 rfl (by kernel_rfl) (cx.ou 40) (At.cellAd (hA.ext cx.upd.to_ext) (getD_int (by omega)))) ?_
  refine sqp [.m 15 41] ?_
  refine then_normal (wp_seq ?_)
  obtain ⟨n,hN_n⟩:∃ z,ns.getD k 0=z:=⟨_,rfl⟩
  rw [hN_n]
  refine sqr (sqp [.m 43 0, .m 44 15] ?_)
  refine sqk (.tuple #[vi ((ofF (pv n))), .bool ((hdF (pv n)))]) hst30 (fun cx=>⟨_,of_any _ _ pv n _ (hS.ext cx.upd.to_ext),(map2 (cx.ou 43) (cx.ou 44))⟩) fun W38 hst38=>?_
  refine sqp [.m 42 45, .k 46 (vi ((ofF (pv n)))), .k 47 (.bool ((hdF (pv n)))), .m 16 46, .m 17 47] ?_
  refine then_normal (wp_seq (sqr (sqp [.m 48 17, .m 49 48] ?_)))
  refine sqw 49 [50,51,52] rfl (fun _=>sqp [.m 50 16, .m 51 3, .k 52 (.bool ((ofF (pv n))==tb))] sqe) ?_
  refine sqp [sPa 53 (hdF (pv n)) ((ofF (pv n))==tb)] ?_
  refine then_normal (wbs (fun hs50=>?_) fun hs50=>?_)
  ·have hs50p:=hs50
   simp only [zB] at hs50p
   obtain ⟨hs50p1,hs50p2⟩:=hs50p
   refine wp_seq (sqr (sqp [.m 54 0, .m 55 15, .m 56 13] ?_))
   refine sqk (vi ((roomI (pv n) s))) hst38 (fun cx=>⟨_,hroomi_any _ _ pv n s _ (hS.ext cx.upd.to_ext) (by omega),(map3 (cx.ou 54) (cx.ou 55) (cx.ou 56))⟩) fun W54 hst54=>?_
   refine sqp [.m 18 57] ?_
   refine then_normal (wp_seq (sqr (sqp [.m 58 18, .k 59 (.bool (decide (0 < (roomI (pv n) s))))] ?_)))
   refine then_normal (wds (fun hs58 hs58p=>?_) fun hs58 hs58p=>?_)
   ·refine wp_seq (sqr (sqp [.m 60 15, .m 61 18, .k 62 (.agg #[vi (n),vi ((roomI (pv n) s))]), .m 63 15, .m 64 18, .m 65 13, .k 66 (.agg #[vi (n),vi ((roomI (pv n) s)), .string (s)])] ?_))
    refine sqli 49 3 1 (cellsE (n,(roomI (pv n) s),s)) hst54 (@fun ρ β W X cx=>by have fF66:ρ (.tmp 66)= .agg #[vi (n),vi ((roomI (pv n) s)), .string (s)]:=(cx.ou 66); simp [go_sem,fF66,cellsE]) fun B67_66 W66 hst66=>?_
    refine sqst (n:=2) 1 #[vi (n),vi ((roomI (pv n) s))] hst66 fun W67 hst67=>?_
    refine sqp [.m 11 67, .k 12 (vi 0)] ?_
    refine then_normal (wp_ret (blk_ret (then_ret (then_ret (blk_ret (then_ret ?_))))))
    refine bpr (.tuple #[.agg #[vi (n),vi ((roomI (pv n) s))], .slice ((some ⟨B67_66,0,none⟩)) 1 1,vi 0]) (results_3 Tryz.results20 (rpa (hst67.blk 1 rfl) 0 2) rpt rpt) ?_
    exact InsPost.of (l:=[(n,roomI (pv n) s,s)]) (by rw [insA,insBad,if_neg (by rw [hs22]; decide),insR]; rw [hkr,insP_at (by omega),hN_n,if_pos (by rw [hs50,hs58]; rfl)]) rfl rfl (hst67.own' 2 rfl) hst67.ext
   refine wp_skip (blk_normal (then_normal (sqr (sqp [sI 68 ((k:Int)+1) (by omega), .m 38 68] ?_))))
   refine then_normal ?_
   refine ⟨ns.length - ((k+1)),by omega,?_⟩
   exact ⟨(k+1),by omega,by rw [hkr,insP_at (by omega),hN_n,if_neg (by rw [hs50,hs58]; simp)],rfl,(by kernel_rfl),hst54.pk [0,1]⟩
  have hs50p:=hs50
  simp only [zB] at hs50p
  refine wp_skip (blk_normal (then_normal (sqr (sqp [sI 68 ((k:Int)+1) (by omega), .m 38 68] ?_))))
  refine then_normal ?_
  refine ⟨ns.length - ((k+1)),by omega,?_⟩
  exact ⟨(k+1),by omega,by rw [hkr,insP_at (by omega),hN_n,if_neg (by rw [hs50]; simp)],rfl,(by kernel_rfl),hst38.pk [0,1]⟩
 refine wp_exit (then_exit (then_exit (blk_eq (then_normal (wp_seq (wp_seq (sqr (sqp [.m 69 2, .k 70 (.bool (decide (fresh < 0)))] ?_))))))))
 refine then_normal (wds (fun hs76 hs76p=>?_) fun hs76 hs76p=>?_)
 ·refine wp_seq (sqr (sqp [.k 71 (.agg #[vi 0,vi 0])] ?_))
  refine sqst (n:=2) 1 #[vi 0,vi 0] hst30 fun W78 hst78=>?_
  refine sqp [.k 11 (.slice none 0 0), .k 12 (vi 23)] ?_
  refine then_normal (wp_ret (then_ret ?_))
  refine bpr (.tuple #[.agg #[vi 0,vi 0], .slice none 0 0,vi 23]) (results_3 Tryz.results20 (rpa (hst78.blk 1 rfl) 0 2) rpt rpt) ?_
  exact InsPost.nil (by rw [insA,insBad,if_neg (by rw [hs22]; decide),insR]; rw [hkr,List.drop_of_length_le (by omega)]; show (if _ then _ else _)= _; rw [if_pos (by omega)]) hst78.ext
 refine wp_skip (then_normal (wp_seq (sqr (sqp [.m 72 2, .k 73 (.agg #[vi fresh,vi 1]), .m 74 2, .m 75 3] ?_))))
 refine sqk2 (fun A76_85 c76_85=> .slice A76_85 2 c76_85) (fun A76_85 c76_85=>eO 49 3 (.slice A76_85 2 c76_85) 2 ((bgL fresh tb).flatMap cellsE)) hst30 (fun cx=>⟨_,(hbegin_any fresh tb _).mono (by rintro e W1 ⟨A4,c4,rfl,ho,hx⟩; exact ⟨_, _,rfl,St.one hx (eO_new ho)⟩),(map2 (cx.ou 74) (cx.ou 75))⟩) fun A76_85 c76_85 W85 hst85=>?_
 refine sqp [.m 77 2, .m 78 13, .k 79 (.agg #[vi fresh,vi 1, .string (s)])] ?_
 refine sqli 49 3 1 (cellsE (fresh,1,s)) hst85 (@fun ρ β W X cx=>by have fF79:ρ (.tmp 79)= .agg #[vi fresh,vi 1, .string (s)]:=(cx.ou 79); simp [go_sem,fF79,cellsE]) fun B80_89 W89 hst89=>?_
 refine sqap 3 (((bgL fresh tb)++[(fresh,1,s)]).flatMap cellsE) 2 hst89 Tryz.infoEdit (fun cx=>(At.of_ownN (cx.ri 3 rfl))) (h1:=by simp [cellsE,Value.oneCell']) (hxs:=eds_snoc _ _) fun A81_90 c81_90 W90 hst90=>?_
 refine sqst (n:=2) 1 #[vi fresh,vi 1] hst90 fun W91 hst91=>?_
 refine sqp [.m 11 81, .k 12 (vi 0)] ?_
 refine then_normal (wp_ret ?_)
 refine bpr (.tuple #[.agg #[vi fresh,vi 1], .slice A81_90 3 c81_90,vi 0]) (results_3 Tryz.results20 (rpa (hst91.blk 1 rfl) 0 2) rpt rpt) ?_
 exact InsPost.of (l:=bgL fresh tb++[(fresh,1,s)]) (by rw [insA,insBad,if_neg (by rw [hs22]; decide),insR]; rw [hkr,List.drop_of_length_le (by omega)]; show (if _ then _ else _)= _; rw [if_neg (by omega)]) rfl rfl (hst91.own' 2 rfl) hst91.ext
end
end Go.Proofs.YtjnplglnnamfdaaGreatDoor
